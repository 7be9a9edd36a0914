/- Printed by a tool of this project (KkGen): the program's functions come to the plain ones. -/
import Derived.Test.YtpppdecfohkkfaaGreatDoorKkLN
namespace Go.Kk.KkLN
noncomputable section
open Go.Proofs Go.Kk.Pl
set_option maxRecDepth 100000
set_option maxHeartbeats 4000000
def qZi:Ctx:=mkC 6 (qL) [] qa
theorem qmY:CtxOK Tryz.prog qZi:=mkC_ok (qN)
def qZj:V->List Obj->Option (Bool):=fun v objs=>match v,objs with
 | .s (.b y0),[]=>some (y0)
 | _,_=>none
theorem qmX (x0 x1:Int):fnE qZi Tryz.f84 ([.agg [.one [.i .u64 x0,.i .u64 x1]]]) ([]) qZj=qEI x0 x1:=by kernel_rfl
def qZh:HA:=fun o vs objs K=>match vs,objs with
 | [.agg [.one [.i .u64 x0,.i .u64 x1]]],[]=>ob (qEI x0 x1) fun y0=>K false (.s (.b y0)) ([])
 | _,_=>o 84 vs objs K
def qHa (o:Orc):Orc:=qM 84 (qZh o) o
theorem qIr:OQ Tryz.prog qHa:=fun _ ho=>qQ ho fun vs objs K r h=>by
 unfold qZh at h
 split at h
 ·skip
  obtain ⟨t,h1,h2⟩:=qG h
  refine qd mixed qmY ((qmX _ _).trans h1) (by kernel_rfl) fun v objs' hd=>?_
  unfold qZj at hd;split at hd;(cases hd;exact h2);cases hd
 ·exact ho _ _ _ _ _ h
def qZr:Ctx:=mkC 11 ((qHa (qE6 (qLc qL)))) [] qa
theorem qme:CtxOK Tryz.prog qZr:=mkC_ok ((qIr _ (qFw _ (qQi _ qN))))
def qZs:V->List Obj->Option (Bool):=fun v objs=>match v,objs with
 | .s (.b y0),[]=>some (y0)
 | _,_=>none
theorem qmd (x0 x1 x2:Int):fnE qZr Tryz.f133 ([.agg [.one [.i .u64 x0,.i .u64 x1]],.s (.i .i64 x2)]) ([]) qZs=qB1 x0 x1 x2:=by kernel_rfl
def qZq:HA:=fun o vs objs K=>match vs,objs with
 | [.agg [.one [.i .u64 x0,.i .u64 x1]],.s (.i .i64 x2)],[]=>ob (qB1 x0 x1 x2) fun y0=>K false (.s (.b y0)) ([])
 | _,_=>o 133 vs objs K
def qF0 (o:Orc):Orc:=qM 133 (qZq o) o
theorem qHb:OQ Tryz.prog qF0:=fun _ ho=>qQ ho fun vs objs K r h=>by
 unfold qZq at h
 split at h
 ·skip
  obtain ⟨t,h1,h2⟩:=qG h
  refine qd mixed qme ((qmd _ _ _).trans h1) (by kernel_rfl) fun v objs' hd=>?_
  unfold qZs at hd;split at hd;(cases hd;exact h2);cases hd
 ·exact ho _ _ _ _ _ h
def qPu:Ex->List V->List Obj->Option (Int×Int×Int×Int):=fun e vs objs=>match e,vs,objs with
 | .exit 0,[.s (.ptr 0 0 none 0),.s (.ptr 1 0 none 0)],[.cells 68 [.one [.i .u64 y0,.i .u64 y1]],.cells 68 [.one [.i .u64 y2,.i .u64 y3]]]=>some (y0,y1,y2,y3)
 | _,_,_=>none
def qPx:HL:=fun vs objs K=>match vs,objs with
 | [.s (.i .i64 x0),.s (.ptr 0 0 none 0),.s (.ptr 1 0 none 0),.s (.ptr 2 0 none 0),.s (.ptr 3 0 none 0)],[.cells 164 [.one [.i .i64 x1,.i .i64 x2]],.cells 68 [.one [.i .u64 x3,.i .u64 x4]],.cells 68 [.one [.i .u64 x5,.i .u64 x6]],.cells 68 [.one [.i .u64 x7,.i .u64 x8]]]=>ob (qFp qD x0 x1 x2 x3 x4 x5 x6 x7 x8) fun z=>K (.exit 0) ([.s (.ptr 0 0 none 0),.s (.ptr 1 0 none 0)]) ([.cells 68 [.one [.i .u64 (z.1),.i .u64 (z.2.1)]],.cells 68 [.one [.i .u64 (z.2.2.1),.i .u64 (z.2.2.2)]]])
 | _,_=>none
def qlG:{R:Type}->Nat->List V->List Obj->(Ex->List V->List Obj->Option R)->Option R:=fun q vs objs K=>bif Nat.beq q 5 then qPx vs objs K else none
def qK9:Ctx:=mkC 27 ((qF0 (qEK (qQs qL)))) [(5,[0,4,5,6,7],[6,7])] qlG
theorem qYe:CtxOK Tryz.prog qK9:=mkC_ok ((qHb _ (qFA _ (qam _ qN))))
def qPv (f:Nat) (x0 x1:Int) (x2 x3:Int) (x4 x5:Int) (x6 x7 x8:Int):Option (Int×Int×Int×Int):=qi qK9 0 [0,4,5,6,7] [6,7] (qI Tryz.f147 5) f ([.s (.i .i64 x0),.s (.ptr 0 0 none 0),.s (.ptr 1 0 none 0),.s (.ptr 2 0 none 0),.s (.ptr 3 0 none 0)]) ([.cells 164 [.one [.i .i64 x1,.i .i64 x2]],.cells 68 [.one [.i .u64 x3,.i .u64 x4]],.cells 68 [.one [.i .u64 x5,.i .u64 x6]],.cells 68 [.one [.i .u64 x7,.i .u64 x8]]]) qPu
theorem qlF (f:Nat) (x0 x1:Int) (x2 x3:Int) (x4 x5:Int) (x6 x7 x8:Int):qPv (f+1) x0 x1 x2 x3 x4 x5 x6 x7 x8=qHO (qPv f) x0 x1 x2 x3 x4 x5 x6 x7 x8:=by kernel_rfl
theorem qYg:∀ f,qPv f=qFp f
 | 0=>rfl
 | f+1=>by funext x0 x1 x2 x3 x4 x5 x6 x7 x8;rw [qlF,qYg f];rfl
theorem qlH:qe Tryz.prog qK9 0 (qI Tryz.f147 5):=
 qj mixed qYe (qR.of (l':=[]) (by kernel_rfl) trivial) (q:=5) (kin:=[0,4,5,6,7]) (kout:=[6,7]) (by kernel_rfl) (by kernel_rfl) fun vs objs K r h=>by
  replace h:qPx vs objs K=some r:=h
  unfold qPx at h
  split at h
  ·skip
   obtain ⟨t,h1,h2⟩:=qG h
   rw [<- qYg] at h1
   refine ⟨_,qPu,t,qD,h1,fun e vs' objs' hd=>?_⟩
   unfold qPu at hd;split at hd;(cases hd;exact h2);cases hd
  ·cases h
def qYf:V->List Obj->Option (Int×Int):=fun v objs=>match v,objs with
 | .agg [.one [.i .u64 y0,.i .u64 y1]],[]=>some (y0,y1)
 | _,_=>none
theorem qlE (x0 x1:Int) (x2 x3 x4:Int):fnE qK9 Tryz.f147 ([.s (.i .i64 x0),.agg [.one [.i .i64 x1,.i .i64 x2]],.agg [.one [.i .u64 x3,.i .u64 x4]]]) ([]) qYf=qHN x0 x1 x2 x3 x4:=by kernel_rfl
def qYd:HA:=fun o vs objs K=>match vs,objs with
 | [.s (.i .i64 x0),.agg [.one [.i .i64 x1,.i .i64 x2]],.agg [.one [.i .u64 x3,.i .u64 x4]]],[]=>ob (qHN x0 x1 x2 x3 x4) fun z=>K false (.agg [.one [.i .u64 (z.1),.i .u64 (z.2)]]) ([])
 | _,_=>o 147 vs objs K
def qPw (o:Orc):Orc:=qM 147 (qYd o) o
theorem qYh:OQ Tryz.prog qPw:=fun _ ho=>qQ ho fun vs objs K r h=>by
 unfold qYd at h
 split at h
 ·skip
  obtain ⟨t,h1,h2⟩:=qG h
  refine qAc mixed qYe (fn:=Tryz.f147) (b:=(Tryz.f147).body.getD .skip) (by kernel_rfl) (by kernel_rfl) (by kernel_rfl) ((qlE _ _ _ _ _).trans h1) (m:=0) rfl (qR.of (l':=[qI Tryz.f147 5]) (by kernel_rfl) ⟨qlH,trivial⟩) fun v objs' hd=>?_
  unfold qYf at hd;split at hd;(cases hd;exact h2);cases hd
 ·exact ho _ _ _ _ _ h
def qPq:Ex->List V->List Obj->Option (Int×Int×Int×Int):=fun e vs objs=>match e,vs,objs with
 | .exit 0,[.s (.ptr 0 0 none 0),.s (.ptr 1 0 none 0)],[.cells 68 [.one [.i .u64 y0,.i .u64 y1]],.cells 68 [.one [.i .u64 y2,.i .u64 y3]]]=>some (y0,y1,y2,y3)
 | _,_,_=>none
def qPt:HL:=fun vs objs K=>match vs,objs with
 | [.s (.i .i8 x0),.s (.i .i64 x1),.s (.ptr 0 0 none 0),.s (.ptr 1 0 none 0),.s (.ptr 2 0 none 0),.s (.sl 3 0 x2 true),.s (.i .i64 x3),.s (.i .i64 x4)],[.cells 68 [.one [.i .u64 x5,.i .u64 x6]],.cells 68 [.one [.i .u64 x7,.i .u64 x8]],.cells 68 [.one [.i .u64 x9,.i .u64 x10]],.sli 164 false (.rows [.i .i64,.i .i64] x11 x12)]=>ob (qE3 qD x0 x1 x2 x3 x4 x5 x6 x7 x8 x9 x10 x11 x12) fun z=>K (.exit 0) ([.s (.ptr 0 0 none 0),.s (.ptr 1 0 none 0)]) ([.cells 68 [.one [.i .u64 (z.1),.i .u64 (z.2.1)]],.cells 68 [.one [.i .u64 (z.2.2.1),.i .u64 (z.2.2.2)]]])
 | _,_=>none
def qlC:{R:Type}->Nat->List V->List Obj->(Ex->List V->List Obj->Option R)->Option R:=fun q vs objs K=>bif Nat.beq q 3 then qPt vs objs K else none
def qK7:Ctx:=mkC 32 ((qF1 (qPw (qQt (qDU (qPp (qCa (qa1 qL)))))))) [(3,[0,1,5,6,7,15,16,17],[6,7])] qlC
theorem qYa:CtxOK Tryz.prog qK7:=mkC_ok ((qHf _ (qYh _ (qaq _ (qD5 _ (qYY _ (qCv _ (qnr _ qN))))))))
def qPr (f:Nat) (x0 x1:Int) (x2:Nat) (x3 x4:Int) (x5 x6:Int) (x7 x8:Int) (x9 x10:Int) (x11:Nat) (x12:LL):Option (Int×Int×Int×Int):=qi qK7 0 [0,1,5,6,7,15,16,17] [6,7] (qI Tryz.f130 3) f ([.s (.i .i8 x0),.s (.i .i64 x1),.s (.ptr 0 0 none 0),.s (.ptr 1 0 none 0),.s (.ptr 2 0 none 0),.s (.sl 3 0 x2 true),.s (.i .i64 x3),.s (.i .i64 x4)]) ([.cells 68 [.one [.i .u64 x5,.i .u64 x6]],.cells 68 [.one [.i .u64 x7,.i .u64 x8]],.cells 68 [.one [.i .u64 x9,.i .u64 x10]],.sli 164 false (.rows [.i .i64,.i .i64] x11 x12)]) qPq
theorem qlB (f:Nat) (x0 x1:Int) (x2:Nat) (x3 x4:Int) (x5 x6:Int) (x7 x8:Int) (x9 x10:Int) (x11:Nat) (x12:LL):qPr (f+1) x0 x1 x2 x3 x4 x5 x6 x7 x8 x9 x10 x11 x12=qHM (qPr f) x0 x1 x2 x3 x4 x5 x6 x7 x8 x9 x10 x11 x12:=by kernel_rfl
theorem qYc:∀ f,qPr f=qE3 f
 | 0=>rfl
 | f+1=>by funext x0 x1 x2 x3 x4 x5 x6 x7 x8 x9 x10 x11 x12;rw [qlB,qYc f];rfl
theorem qlD:qe Tryz.prog qK7 0 (qI Tryz.f130 3):=
 qj mixed qYa (qR.of (l':=[]) (by kernel_rfl) trivial) (q:=3) (kin:=[0,1,5,6,7,15,16,17]) (kout:=[6,7]) (by kernel_rfl) (by kernel_rfl) fun vs objs K r h=>by
  replace h:qPt vs objs K=some r:=h
  unfold qPt at h
  split at h
  ·skip
   obtain ⟨t,h1,h2⟩:=qG h
   rw [<- qYc] at h1
   refine ⟨_,qPq,t,qD,h1,fun e vs' objs' hd=>?_⟩
   unfold qPq at hd;split at hd;(cases hd;exact h2);cases hd
  ·cases h
def qYb:V->List Obj->Option (Int×Int):=fun v objs=>match v,objs with
 | .agg [.one [.i .u64 y0,.i .u64 y1]],[]=>some (y0,y1)
 | _,_=>none
theorem qlA (x0 x1:Int) (x2 x3:Int):fnE qK7 Tryz.f130 ([.s (.i .i8 x0),.s (.i .i64 x1),.agg [.one [.i .u64 x2,.i .u64 x3]]]) ([]) qYb=qE2 x0 x1 x2 x3:=by kernel_rfl
def qYZ:HA:=fun o vs objs K=>match vs,objs with
 | [.s (.i .i8 x0),.s (.i .i64 x1),.agg [.one [.i .u64 x2,.i .u64 x3]]],[]=>ob (qE2 x0 x1 x2 x3) fun z=>K false (.agg [.one [.i .u64 (z.1),.i .u64 (z.2)]]) ([])
 | _,_=>o 130 vs objs K
def qK8 (o:Orc):Orc:=qM 130 (qYZ o) o
theorem qPs:OQ Tryz.prog qK8:=fun _ ho=>qQ ho fun vs objs K r h=>by
 unfold qYZ at h
 split at h
 ·skip
  obtain ⟨t,h1,h2⟩:=qG h
  refine qAc mixed qYa (fn:=Tryz.f130) (b:=(Tryz.f130).body.getD .skip) (by kernel_rfl) (by kernel_rfl) (by kernel_rfl) ((qlA _ _ _ _).trans h1) (m:=0) rfl (qR.of (l':=[qI Tryz.f130 3]) (by kernel_rfl) ⟨qlD,trivial⟩) fun v objs' hd=>?_
  unfold qYb at hd;split at hd;(cases hd;exact h2);cases hd
 ·exact ho _ _ _ _ _ h
def qMJ:Ex->List V->List Obj->Option (LI×LI×Int×LL×LL×Int×Int×Int×Int):=fun e vs objs=>match e,vs,objs with
 | .exit 0,[.s (.ptr 1 0 none 0),.s (.ptr 2 0 none 0)],[.rcells 72 [.arr .i8 81 y0,.arr .i8 16 y1,.one [.i .i8 y2],.rows [.i .u64,.i .u64] 32 y3,.rows [.i .u64,.i .u64] 2 y4],.cells 68 [.one [.i .u64 y5,.i .u64 y6]],.cells 68 [.one [.i .u64 y7,.i .u64 y8]]]=>some (y0,y1,y2,y3,y4,y5,y6,y7,y8)
 | _,_,_=>none
def qMM:HL:=fun vs objs K=>match vs,objs with
 | [.s (.ptr 0 0 none 0),.s (.i .i64 x0),.s (.i .i64 x1),.s (.ptr 1 0 none 0),.s (.ptr 2 0 none 0),.s (.ptr 3 0 none 0),.s (.i .i64 x2)],[.rcells 72 [.arr .i8 81 x3,.arr .i8 16 x4,.one [.i .i8 x5],.rows [.i .u64,.i .u64] 32 x6,.rows [.i .u64,.i .u64] 2 x7],.cells 68 [.one [.i .u64 x8,.i .u64 x9]],.cells 68 [.one [.i .u64 x10,.i .u64 x11]],.cells 68 [.one [.i .u64 x12,.i .u64 x13]]]=>ob (qDk qD x0 x1 x2 x3 x4 x5 x6 x7 x8 x9 x10 x11 x12 x13) fun z=>K (.exit 0) ([.s (.ptr 1 0 none 0),.s (.ptr 2 0 none 0)]) ([.rcells 72 [.arr .i8 81 (z.1),.arr .i8 16 (z.2.1),.one [.i .i8 (z.2.2.1)],.rows [.i .u64,.i .u64] 32 (z.2.2.2.1),.rows [.i .u64,.i .u64] 2 (z.2.2.2.2.1)],.cells 68 [.one [.i .u64 (z.2.2.2.2.2.1),.i .u64 (z.2.2.2.2.2.2.1)]],.cells 68 [.one [.i .u64 (z.2.2.2.2.2.2.2.1),.i .u64 (z.2.2.2.2.2.2.2.2)]]])
 | _,_=>none
def qc5:{R:Type}->Nat->List V->List Obj->(Ex->List V->List Obj->Option R)->Option R:=fun q vs objs K=>bif Nat.beq q 5 then qMM vs objs K else none
def qJL:Ctx:=mkC 49 ((qF1 (qE6 (qFR (qK8 (qDS qL)))))) [(5,[0,1,2,7,8,9,10],[8,9])] qc5
theorem qRz:CtxOK Tryz.prog qJL:=mkC_ok ((qHf _ (qFw _ (qGO _ (qPs _ (qD4 _ qN))))))
def qMK (f:Nat) (x0 x1 x2:Int) (x3 x4:LI) (x5:Int) (x6 x7:LL) (x8 x9:Int) (x10 x11:Int) (x12 x13:Int):Option (LI×LI×Int×LL×LL×Int×Int×Int×Int):=qi qJL 1 [0,1,2,7,8,9,10] [8,9] (qI Tryz.f111 5) f ([.s (.ptr 0 0 none 0),.s (.i .i64 x0),.s (.i .i64 x1),.s (.ptr 1 0 none 0),.s (.ptr 2 0 none 0),.s (.ptr 3 0 none 0),.s (.i .i64 x2)]) ([.rcells 72 [.arr .i8 81 x3,.arr .i8 16 x4,.one [.i .i8 x5],.rows [.i .u64,.i .u64] 32 x6,.rows [.i .u64,.i .u64] 2 x7],.cells 68 [.one [.i .u64 x8,.i .u64 x9]],.cells 68 [.one [.i .u64 x10,.i .u64 x11]],.cells 68 [.one [.i .u64 x12,.i .u64 x13]]]) qMJ
theorem qc4 (f:Nat) (x0 x1 x2:Int) (x3 x4:LI) (x5:Int) (x6 x7:LL) (x8 x9:Int) (x10 x11:Int) (x12 x13:Int):qMK (f+1) x0 x1 x2 x3 x4 x5 x6 x7 x8 x9 x10 x11 x12 x13=qGI (qMK f) x0 x1 x2 x3 x4 x5 x6 x7 x8 x9 x10 x11 x12 x13:=by kernel_rfl
theorem qR1:∀ f,qMK f=qDk f
 | 0=>rfl
 | f+1=>by funext x0 x1 x2 x3 x4 x5 x6 x7 x8 x9 x10 x11 x12 x13;rw [qc4,qR1 f];rfl
theorem qc6:qe Tryz.prog qJL 1 (qI Tryz.f111 5):=
 qj mixed qRz (qR.of (l':=[]) (by kernel_rfl) trivial) (q:=5) (kin:=[0,1,2,7,8,9,10]) (kout:=[8,9]) (by kernel_rfl) (by kernel_rfl) fun vs objs K r h=>by
  replace h:qMM vs objs K=some r:=h
  unfold qMM at h
  split at h
  ·skip
   obtain ⟨t,h1,h2⟩:=qG h
   rw [<- qR1] at h1
   refine ⟨_,qMJ,t,qD,h1,fun e vs' objs' hd=>?_⟩
   unfold qMJ at hd;split at hd;(cases hd;exact h2);cases hd
  ·cases h
def qR0:V->List Obj->Option (Int×Int):=fun v objs=>match v,objs with
 | .agg [.one [.i .u64 y0,.i .u64 y1]],[]=>some (y0,y1)
 | _,_=>none
theorem qc3 (x0 x1:Int) (x2 x3:Int) (x4 x5:LI) (x6:Int) (x7 x8:LL):fnE qJL Tryz.f111 ([.s (.ptr 0 0 none 0),.s (.i .i64 x0),.s (.i .i64 x1),.agg [.one [.i .u64 x2,.i .u64 x3]]]) ([.rcells 72 [.arr .i8 81 x4,.arr .i8 16 x5,.one [.i .i8 x6],.rows [.i .u64,.i .u64] 32 x7,.rows [.i .u64,.i .u64] 2 x8]]) (qAE 1 qR0)=qGH x0 x1 x2 x3 x4 x5 x6 x7 x8:=by kernel_rfl
def qRy:HA:=fun o vs objs K=>match vs,List.map Obj.toRO objs with
 | [.s (.ptr 0 0 none 0),.s (.i .i64 x0),.s (.i .i64 x1),.agg [.one [.i .u64 x2,.i .u64 x3]]],[.rcells 72 [.arr .i8 81 x4,.arr .i8 16 x5,.one [.i .i8 x6],.rows [.i .u64,.i .u64] 32 x7,.rows [.i .u64,.i .u64] 2 x8]]=>ob (qGH x0 x1 x2 x3 x4 x5 x6 x7 x8) fun z=>K true (.agg [.one [.i .u64 (z.1),.i .u64 (z.2)]]) ([])
 | _,_=>o 111 vs objs K
def qML (o:Orc):Orc:=qM 111 (qRy o) o
theorem qR2:OQ Tryz.prog qML:=fun _ ho=>qQ ho fun vs objs K r h=>by
 unfold qRy at h
 split at h
 ·skip
  have hq:List.map Obj.toRO objs=_:=(by rename_i hq;first | exact hq | assumption)
  obtain ⟨t,h1,h2⟩:=qG h
  refine qAU mixed qRz (m:=1) (fn:=Tryz.f111) (b:=(Tryz.f111).body.getD .skip) (by kernel_rfl) (by kernel_rfl) (by kernel_rfl) hq (by kernel_rfl) (by kernel_rfl) (qR.of (l':=[qI Tryz.f111 5]) (by kernel_rfl) ⟨qc6,trivial⟩) ((qc3 _ _ _ _ _ _ _ _ _).trans h1) fun v objs' hd=>?_
  unfold qR0 at hd;split at hd;(cases hd;exact h2);cases hd
 ·exact ho _ _ _ _ _ h
def qRr:Ctx:=mkC 14 ((qML (qGQ (qJT qL)))) [] qa
theorem qcy:CtxOK Tryz.prog qRr:=mkC_ok ((qR2 _ (qH3 _ (qMq _ qN))))
def qRs:V->List Obj->Option (Int×Int):=fun v objs=>match v,objs with
 | .agg [.one [.i .u64 y0,.i .u64 y1]],[]=>some (y0,y1)
 | _,_=>none
theorem qcx (x0:Int) (x1 x2:LI) (x3:Int) (x4 x5:LL):fnE qRr Tryz.f83 ([.s (.ptr 0 0 none 0),.s (.i .i64 x0)]) ([.rcells 72 [.arr .i8 81 x1,.arr .i8 16 x2,.one [.i .i8 x3],.rows [.i .u64,.i .u64] 32 x4,.rows [.i .u64,.i .u64] 2 x5]]) (qAE 1 qRs)=qFL x0 x1 x2 x3 x4 x5:=by kernel_rfl
def qRq:HA:=fun o vs objs K=>match vs,List.map Obj.toRO objs with
 | [.s (.ptr 0 0 none 0),.s (.i .i64 x0)],[.rcells 72 [.arr .i8 81 x1,.arr .i8 16 x2,.one [.i .i8 x3],.rows [.i .u64,.i .u64] 32 x4,.rows [.i .u64,.i .u64] 2 x5]]=>ob (qFL x0 x1 x2 x3 x4 x5) fun z=>K true (.agg [.one [.i .u64 (z.1),.i .u64 (z.2)]]) ([])
 | _,_=>o 83 vs objs K
def qJK (o:Orc):Orc:=qM 83 (qRq o) o
theorem qMH:OQ Tryz.prog qJK:=fun _ ho=>qQ ho fun vs objs K r h=>by
 unfold qRq at h
 split at h
 ·skip
  have hq:List.map Obj.toRO objs=_:=(by rename_i hq;first | exact hq | assumption)
  obtain ⟨t,h1,h2⟩:=qG h
  refine qAU mixed qcy (m:=1) (fn:=Tryz.f83) (b:=(Tryz.f83).body.getD .skip) (by kernel_rfl) (by kernel_rfl) (by kernel_rfl) hq (by kernel_rfl) (by kernel_rfl) (qR.of (l':=[]) (by kernel_rfl) trivial) ((qcx _ _ _ _ _ _).trans h1) fun v objs' hd=>?_
  unfold qRs at hd;split at hd;(cases hd;exact h2);cases hd
 ·exact ho _ _ _ _ _ h
def qRv:Ctx:=mkC 10 ((qHa (qJK qL))) [] qa
theorem qc1:CtxOK Tryz.prog qRv:=mkC_ok ((qIr _ (qMH _ qN)))
def qRw:V->List Obj->Option (Bool):=fun v objs=>match v,objs with
 | .s (.b y0),[]=>some (y0)
 | _,_=>none
theorem qc0 (x0:Int) (x1 x2:LI) (x3:Int) (x4 x5:LL):fnE qRv Tryz.f41 ([.s (.ptr 0 0 none 0),.s (.i .i64 x0)]) ([.rcells 72 [.arr .i8 81 x1,.arr .i8 16 x2,.one [.i .i8 x3],.rows [.i .u64,.i .u64] 32 x4,.rows [.i .u64,.i .u64] 2 x5]]) (qAE 1 qRw)=qMI x0 x1 x2 x3 x4 x5:=by kernel_rfl
def qRu:HA:=fun o vs objs K=>match vs,List.map Obj.toRO objs with
 | [.s (.ptr 0 0 none 0),.s (.i .i64 x0)],[.rcells 72 [.arr .i8 81 x1,.arr .i8 16 x2,.one [.i .i8 x3],.rows [.i .u64,.i .u64] 32 x4,.rows [.i .u64,.i .u64] 2 x5]]=>ob (qMI x0 x1 x2 x3 x4 x5) fun y0=>K true (.s (.b y0)) ([])
 | _,_=>o 41 vs objs K
def qRx (o:Orc):Orc:=qM 41 (qRu o) o
theorem qc2:OQ Tryz.prog qRx:=fun _ ho=>qQ ho fun vs objs K r h=>by
 unfold qRu at h
 split at h
 ·skip
  have hq:List.map Obj.toRO objs=_:=(by rename_i hq;first | exact hq | assumption)
  obtain ⟨t,h1,h2⟩:=qG h
  refine qAU mixed qc1 (m:=1) (fn:=Tryz.f41) (b:=(Tryz.f41).body.getD .skip) (by kernel_rfl) (by kernel_rfl) (by kernel_rfl) hq (by kernel_rfl) (by kernel_rfl) (qR.of (l':=[]) (by kernel_rfl) trivial) ((qc0 _ _ _ _ _ _).trans h1) fun v objs' hd=>?_
  unfold qRw at hd;split at hd;(cases hd;exact h2);cases hd
 ·exact ho _ _ _ _ _ h
def qRo:Ctx:=mkC 16 ((qRx (qJW (qSU qL)))) [] qa
theorem qcw:CtxOK Tryz.prog qRo:=mkC_ok ((qc2 _ (qMt _ (qdl _ qN))))
def qRp:V->List Obj->Option (Int):=fun v objs=>match v,objs with
 | .s (.i .i64 y0),[]=>some (y0)
 | _,_=>none
theorem qcv (x0 x1:LI) (x2:Int):fnE qRo Tryz.f23 ([.agg [.arr .i8 81 x0,.arr .i8 16 x1,.one [.i .i8 x2]]]) ([]) qRp=qMG x0 x1 x2:=by kernel_rfl
def qRn:HA:=fun o vs objs K=>match vs,objs with
 | [.agg [.arr .i8 81 x0,.arr .i8 16 x1,.one [.i .i8 x2]]],[]=>ob (qMG x0 x1 x2) fun y0=>K false (.s (.i .i64 y0)) ([])
 | _,_=>o 23 vs objs K
def qRt (o:Orc):Orc:=qM 23 (qRn o) o
theorem qcz:OQ Tryz.prog qRt:=fun _ ho=>qQ ho fun vs objs K r h=>by
 unfold qRn at h
 split at h
 ·skip
  obtain ⟨t,h1,h2⟩:=qG h
  refine qd mixed qcw ((qcv _ _ _).trans h1) (by kernel_rfl) fun v objs' hd=>?_
  unfold qRp at hd;split at hd;(cases hd;exact h2);cases hd
 ·exact ho _ _ _ _ _ h
def qVW:Ctx:=mkC 19 (qL) [] qa
theorem qhP:CtxOK Tryz.prog qVW:=mkC_ok (qN)
def qVX:V->List Obj->Option (Int):=fun v objs=>match v,objs with
 | .s (.i .u64 y0),[]=>some (y0)
 | _,_=>none
theorem qhO (x0:Int):fnE qVW Tryz.f123 ([.s (.i .u64 x0)]) ([]) qVX=qDO x0:=by kernel_rfl
def qVV:HA:=fun o vs objs K=>match vs,objs with
 | [.s (.i .u64 x0)],[]=>ob (qDO x0) fun y0=>K false (.s (.i .u64 y0)) ([])
 | _,_=>o 123 vs objs K
def qKF (o:Orc):Orc:=qM 123 (qVV o) o
theorem qOJ:OQ Tryz.prog qKF:=fun _ ho=>qQ ho fun vs objs K r h=>by
 unfold qVV at h
 split at h
 ·skip
  obtain ⟨t,h1,h2⟩:=qG h
  refine qd mixed qhP ((qhO _).trans h1) (by kernel_rfl) fun v objs' hd=>?_
  unfold qVX at hd;split at hd;(cases hd;exact h2);cases hd
 ·exact ho _ _ _ _ _ h
def qVL:Ctx:=mkC 23 ((qKF (qCa qL))) [] qa
theorem qhL:CtxOK Tryz.prog qVL:=mkC_ok ((qOJ _ (qCv _ qN)))
def qVM:V->List Obj->Option (Int):=fun v objs=>match v,objs with
 | .s (.i .u64 y0),[]=>some (y0)
 | _,_=>none
theorem qhK (x0 x1:Int):fnE qVL Tryz.f92 ([.s (.i .i64 x0),.s (.i .i8 x1)]) ([]) qVM=qBy x0 x1:=by kernel_rfl
def qVK:HA:=fun o vs objs K=>match vs,objs with
 | [.s (.i .i64 x0),.s (.i .i8 x1)],[]=>ob (qBy x0 x1) fun y0=>K false (.s (.i .u64 y0)) ([])
 | _,_=>o 92 vs objs K
def qOH (o:Orc):Orc:=qM 92 (qVK o) o
theorem qVN:OQ Tryz.prog qOH:=fun _ ho=>qQ ho fun vs objs K r h=>by
 unfold qVK at h
 split at h
 ·skip
  obtain ⟨t,h1,h2⟩:=qG h
  refine qd mixed qhL ((qhK _ _).trans h1) (by kernel_rfl) fun v objs' hd=>?_
  unfold qVM at hd;split at hd;(cases hd;exact h2);cases hd
 ·exact ho _ _ _ _ _ h
def qVB:Ctx:=mkC 41 ((qKF qL)) [] qa
theorem qhA:CtxOK Tryz.prog qVB:=mkC_ok ((qOJ _ qN))
def qVC:V->List Obj->Option (Int):=fun v objs=>match v,objs with
 | .s (.i .u64 y0),[]=>some (y0)
 | _,_=>none
theorem qg9 (x0 x1 x2:Int):fnE qVB Tryz.f93 ([.s (.i .i64 x0),.s (.i .i64 x1),.s (.i .i64 x2)]) ([]) qVC=qCW x0 x1 x2:=by kernel_rfl
def qVA:HA:=fun o vs objs K=>match vs,objs with
 | [.s (.i .i64 x0),.s (.i .i64 x1),.s (.i .i64 x2)],[]=>ob (qCW x0 x1 x2) fun y0=>K false (.s (.i .u64 y0)) ([])
 | _,_=>o 93 vs objs K
def qN7 (o:Orc):Orc:=qM 93 (qVA o) o
theorem qVD:OQ Tryz.prog qN7:=fun _ ho=>qQ ho fun vs objs K r h=>by
 unfold qVA at h
 split at h
 ·skip
  obtain ⟨t,h1,h2⟩:=qG h
  refine qd mixed qhA ((qg9 _ _ _).trans h1) (by kernel_rfl) fun v objs' hd=>?_
  unfold qVC at hd;split at hd;(cases hd;exact h2);cases hd
 ·exact ho _ _ _ _ _ h
def qVP:Ctx:=mkC 2 ((qKF qL)) [] qa
theorem qhN:CtxOK Tryz.prog qVP:=mkC_ok ((qOJ _ qN))
def qVQ:V->List Obj->Option (Int):=fun v objs=>match v,objs with
 | .s (.i .u64 y0),[]=>some (y0)
 | _,_=>none
theorem qhM:fnE qVP Tryz.f94 ([]) ([]) qVQ=qCX  := by kernel_rfl
def qVO:HA:=fun o vs objs K=>match vs,objs with
 | [],[]=>ob (qCX ) fun y0=>K false (.s (.i .u64 y0)) ([])
 | _,_=>o 94 vs objs K
def qOI (o:Orc):Orc:=qM 94 (qVO o) o
theorem qVR:OQ Tryz.prog qOI:=fun _ ho=>qQ ho fun vs objs K r h=>by
 unfold qVO at h
 split at h
 ·skip
  obtain ⟨t,h1,h2⟩:=qG h
  refine qd mixed qhN ((qhM).trans h1) (by kernel_rfl) fun v objs' hd=>?_
  unfold qVQ at hd;split at hd;(cases hd;exact h2);cases hd
 ·exact ho _ _ _ _ _ h
def qOA:Ex->List V->List Obj->Option (Int×LI×LI×Int):=fun e vs objs=>match e,vs,objs with
 | .exit 0,[.s (.ptr 0 0 none 0),.s (.i .u64 y0)],[.cells 28 [.arr .i8 81 y1,.arr .i8 16 y2,.one [.i .i8 y3]]]=>some (y0,y1,y2,y3)
 | _,_,_=>none
def qN8:Ex->List V->List Obj->Option (Int×LI×Int×LI×LI×Int):=fun e vs objs=>match e,vs,objs with
 | .exit 4,[.s (.ptr 0 0 none 0),.s (.i .u64 y0),.agg [.arr .i8 16 y1],.s (.i .i64 y2)],[.cells 28 [.arr .i8 81 y3,.arr .i8 16 y4,.one [.i .i8 y5]]]=>some (y0,y1,y2,y3,y4,y5)
 | _,_,_=>none
def qOC:Ex->List V->List Obj->Option (Int×LI×LI×Int):=fun e vs objs=>match e,vs,objs with
 | .exit 2,[.s (.ptr 0 0 none 0),.s (.i .u64 y0)],[.cells 28 [.arr .i8 81 y1,.arr .i8 16 y2,.one [.i .i8 y3]]]=>some (y0,y1,y2,y3)
 | _,_,_=>none
def qOF:HL:=fun vs objs K=>match vs,objs with
 | [.s (.ptr 0 0 none 0),.s (.i .u64 x0),.agg [.arr .i8 81 x1],.s (.i .i64 x2)],[.cells 28 [.arr .i8 81 x3,.arr .i8 16 x4,.one [.i .i8 x5]]]=>ob (qDv qD x0 x1 x2 x3 x4 x5) fun z=>K (.exit 0) ([.s (.ptr 0 0 none 0),.s (.i .u64 (z.1))]) ([.cells 28 [.arr .i8 81 (z.2.1),.arr .i8 16 (z.2.2.1),.one [.i .i8 (z.2.2.2)]]])
 | _,_=>none
def qOE:HL:=fun vs objs K=>match vs,objs with
 | [.s (.ptr 0 0 none 0),.s (.i .u64 x0),.s (.i .i64 x1),.agg [.arr .i8 16 x2],.s (.i .i64 x3),.agg [.arr .i8 8 x4],.s (.i .i64 x5)],[.cells 28 [.arr .i8 81 x6,.arr .i8 16 x7,.one [.i .i8 x8]]]=>ob (qDu qD x0 x1 x2 x3 x4 x5 x6 x7 x8) fun z=>K (.exit 4) ([.s (.ptr 0 0 none 0),.s (.i .u64 (z.1)),.agg [.arr .i8 16 (z.2.1)],.s (.i .i64 (z.2.2.1))]) ([.cells 28 [.arr .i8 81 (z.2.2.2.1),.arr .i8 16 (z.2.2.2.2.1),.one [.i .i8 (z.2.2.2.2.2)]]])
 | _,_=>none
def qOG:HL:=fun vs objs K=>match vs,objs with
 | [.s (.ptr 0 0 none 0),.s (.i .u64 x0),.agg [.arr .i8 16 x1],.s (.i .i64 x2)],[.cells 28 [.arr .i8 81 x3,.arr .i8 16 x4,.one [.i .i8 x5]]]=>ob (qCr qD x0 x1 x2 x3 x4 x5) fun z=>K (.exit 2) ([.s (.ptr 0 0 none 0),.s (.i .u64 (z.1))]) ([.cells 28 [.arr .i8 81 (z.2.1),.arr .i8 16 (z.2.2.1),.one [.i .i8 (z.2.2.2)]]])
 | _,_=>none
def qhF:{R:Type}->Nat->List V->List Obj->(Ex->List V->List Obj->Option R)->Option R:=fun q vs objs K=>bif Nat.beq q 3 then qOF vs objs K else bif Nat.beq q 11 then qOE vs objs K else bif Nat.beq q 8 then qOG vs objs K else none
def qEs:Ctx:=mkC 49 ((qOI (qN7 (qOH qL)))) [(3,[1,3,11,12],[1,3]),(8,[1,3,23,24],[1,3]),(11,[1,3,6,23,24,28,29],[1,3,23,24])] qhF
theorem qKE:CtxOK Tryz.prog qEs:=mkC_ok ((qVR _ (qVD _ (qVN _ qN))))
def qOB (f:Nat) (x0:Int) (x1:LI) (x2:Int) (x3 x4:LI) (x5:Int):Option (Int×LI×LI×Int):=qi qEs 0 [1,3,11,12] [1,3] (qI Tryz.f53 3) f ([.s (.ptr 0 0 none 0),.s (.i .u64 x0),.agg [.arr .i8 81 x1],.s (.i .i64 x2)]) ([.cells 28 [.arr .i8 81 x3,.arr .i8 16 x4,.one [.i .i8 x5]]]) qOA
theorem qhD (f:Nat) (x0:Int) (x1:LI) (x2:Int) (x3 x4:LI) (x5:Int):qOB (f+1) x0 x1 x2 x3 x4 x5=qGq (qOB f) x0 x1 x2 x3 x4 x5:=by kernel_rfl
theorem qVH:∀ f,qOB f=qDv f
 | 0=>rfl
 | f+1=>by funext x0 x1 x2 x3 x4 x5;rw [qhD,qVH f];rfl
def qN9 (f:Nat) (x0 x1:Int) (x2:LI) (x3:Int) (x4:LI) (x5:Int) (x6 x7:LI) (x8:Int):Option (Int×LI×Int×LI×LI×Int):=qi qEs 0 [1,3,6,23,24,28,29] [1,3,23,24] (qI Tryz.f53 11) f ([.s (.ptr 0 0 none 0),.s (.i .u64 x0),.s (.i .i64 x1),.agg [.arr .i8 16 x2],.s (.i .i64 x3),.agg [.arr .i8 8 x4],.s (.i .i64 x5)]) ([.cells 28 [.arr .i8 81 x6,.arr .i8 16 x7,.one [.i .i8 x8]]]) qN8
theorem qhC (f:Nat) (x0 x1:Int) (x2:LI) (x3:Int) (x4:LI) (x5:Int) (x6 x7:LI) (x8:Int):qN9 (f+1) x0 x1 x2 x3 x4 x5 x6 x7 x8=qGp (qN9 f) x0 x1 x2 x3 x4 x5 x6 x7 x8:=by kernel_rfl
theorem qVG:∀ f,qN9 f=qDu f
 | 0=>rfl
 | f+1=>by funext x0 x1 x2 x3 x4 x5 x6 x7 x8;rw [qhC,qVG f];rfl
def qOD (f:Nat) (x0:Int) (x1:LI) (x2:Int) (x3 x4:LI) (x5:Int):Option (Int×LI×LI×Int):=qi qEs 0 [1,3,23,24] [1,3] (qI Tryz.f53 8) f ([.s (.ptr 0 0 none 0),.s (.i .u64 x0),.agg [.arr .i8 16 x1],.s (.i .i64 x2)]) ([.cells 28 [.arr .i8 81 x3,.arr .i8 16 x4,.one [.i .i8 x5]]]) qOC
theorem qhE (f:Nat) (x0:Int) (x1:LI) (x2:Int) (x3 x4:LI) (x5:Int):qOD (f+1) x0 x1 x2 x3 x4 x5=qGr (qOD f) x0 x1 x2 x3 x4 x5:=by kernel_rfl
theorem qVI:∀ f,qOD f=qCr f
 | 0=>rfl
 | f+1=>by funext x0 x1 x2 x3 x4 x5;rw [qhE,qVI f];rfl
theorem qhI:qe Tryz.prog qEs 0 (qI Tryz.f53 3):=
 qj mixed qKE (qR.of (l':=[]) (by kernel_rfl) trivial) (q:=3) (kin:=[1,3,11,12]) (kout:=[1,3]) (by kernel_rfl) (by kernel_rfl) fun vs objs K r h=>by
  replace h:qOF vs objs K=some r:=h
  unfold qOF at h
  split at h
  ·skip
   obtain ⟨t,h1,h2⟩:=qG h
   rw [<- qVH] at h1
   refine ⟨_,qOA,t,qD,h1,fun e vs' objs' hd=>?_⟩
   unfold qOA at hd;split at hd;(cases hd;exact h2);cases hd
  ·cases h
theorem qhH:qe Tryz.prog qEs 0 (qI Tryz.f53 11):=
 qj mixed qKE (qR.of (l':=[]) (by kernel_rfl) trivial) (q:=11) (kin:=[1,3,6,23,24,28,29]) (kout:=[1,3,23,24]) (by kernel_rfl) (by kernel_rfl) fun vs objs K r h=>by
  replace h:qOE vs objs K=some r:=h
  unfold qOE at h
  split at h
  ·skip
   obtain ⟨t,h1,h2⟩:=qG h
   rw [<- qVG] at h1
   refine ⟨_,qN8,t,qD,h1,fun e vs' objs' hd=>?_⟩
   unfold qN8 at hd;split at hd;(cases hd;exact h2);cases hd
  ·cases h
theorem qhJ:qe Tryz.prog qEs 0 (qI Tryz.f53 8):=
 qj mixed qKE (qR.of (l':=[qI Tryz.f53 11]) (by kernel_rfl) ⟨qhH,trivial⟩) (q:=8) (kin:=[1,3,23,24]) (kout:=[1,3]) (by kernel_rfl) (by kernel_rfl) fun vs objs K r h=>by
  replace h:qOG vs objs K=some r:=h
  unfold qOG at h
  split at h
  ·skip
   obtain ⟨t,h1,h2⟩:=qG h
   rw [<- qVI] at h1
   refine ⟨_,qOC,t,qD,h1,fun e vs' objs' hd=>?_⟩
   unfold qOC at hd;split at hd;(cases hd;exact h2);cases hd
  ·cases h
def qVF:V->List Obj->Option (Int):=fun v objs=>match v,objs with
 | .s (.i .u64 y0),[]=>some (y0)
 | _,_=>none
theorem qhB (x0 x1:LI) (x2:Int):fnE qEs Tryz.f53 ([.agg [.arr .i8 81 x0,.arr .i8 16 x1,.one [.i .i8 x2]]]) ([]) qVF=qGo x0 x1 x2:=by kernel_rfl
def qVE:HA:=fun o vs objs K=>match vs,objs with
 | [.agg [.arr .i8 81 x0,.arr .i8 16 x1,.one [.i .i8 x2]]],[]=>ob (qGo x0 x1 x2) fun y0=>K false (.s (.i .u64 y0)) ([])
 | _,_=>o 53 vs objs K
def qVJ (o:Orc):Orc:=qM 53 (qVE o) o
theorem qhG:OQ Tryz.prog qVJ:=fun _ ho=>qQ ho fun vs objs K r h=>by
 unfold qVE at h
 split at h
 ·skip
  obtain ⟨t,h1,h2⟩:=qG h
  refine qAc mixed qKE (fn:=Tryz.f53) (b:=(Tryz.f53).body.getD .skip) (by kernel_rfl) (by kernel_rfl) (by kernel_rfl) ((qhB _ _ _).trans h1) (m:=0) rfl (qR.of (l':=[qI Tryz.f53 3,qI Tryz.f53 8]) (by kernel_rfl) ⟨qhI,qhJ,trivial⟩) fun v objs' hd=>?_
  unfold qVF at hd;split at hd;(cases hd;exact h2);cases hd
 ·exact ho _ _ _ _ _ h
def qT4:Ctx:=mkC 14 ((qVJ (qJW qL))) [] qa
theorem qfS:CtxOK Tryz.prog qT4:=mkC_ok ((qhG _ (qMt _ qN)))
def qT5:V->List Obj->Option (Int×Nat×LI×LI×Int×LL×LL×Nat×LL):=fun v objs=>match v,objs with
 | .s (.ptr 0 0 none 0),[.cells 66 [.one [.ptr 1 0 none 0,.i .u64 y0,.sl 2 0 y1 true]],.cells 72 [.arr .i8 81 y2,.arr .i8 16 y3,.one [.i .i8 y4],.rows [.i .u64,.i .u64] 32 y5,.rows [.i .u64,.i .u64] 2 y6],.sli 98 false (.rows [.i .i64,.i .i64,.i .i64,.b,.i .i8,.i .i8] y7 y8)]=>some (y0,y1,y2,y3,y4,y5,y6,y7,y8)
 | _,_=>none
theorem qfR (x0 x1:LI) (x2:Int):fnE qT4 Tryz.f24 ([.agg [.arr .i8 81 x0,.arr .i8 16 x1,.one [.i .i8 x2]]]) ([]) qT5=qNS x0 x1 x2:=by kernel_rfl
def qT3:HA:=fun o vs objs K=>match vs,objs with
 | [.agg [.arr .i8 81 x0,.arr .i8 16 x1,.one [.i .i8 x2]]],[]=>ob (qNS x0 x1 x2) fun z=>K false (.s (.ptr 0 0 none 0)) ([.cells 66 [.one [.ptr 1 0 none 0,.i .u64 (z.1),.sl 2 0 (z.2.1) true]],.cells 72 [.arr .i8 81 (z.2.2.1),.arr .i8 16 (z.2.2.2.1),.one [.i .i8 (z.2.2.2.2.1)],.rows [.i .u64,.i .u64] 32 (z.2.2.2.2.2.1),.rows [.i .u64,.i .u64] 2 (z.2.2.2.2.2.2.1)],.sli 98 false (.rows [.i .i64,.i .i64,.i .i64,.b,.i .i8,.i .i8] (z.2.2.2.2.2.2.2.1) (z.2.2.2.2.2.2.2.2))])
 | _,_=>o 24 vs objs K
def qT6 (o:Orc):Orc:=qM 24 (qT3 o) o
theorem qfT:OQ Tryz.prog qT6:=fun _ ho=>qQ ho fun vs objs K r h=>by
 unfold qT3 at h
 split at h
 ·skip
  obtain ⟨t,h1,h2⟩:=qG h
  refine qd mixed qfS ((qfR _ _ _).trans h1) (by kernel_rfl) fun v objs' hd=>?_
  unfold qT5 at hd;split at hd;(cases hd;exact h2);cases hd
 ·exact ho _ _ _ _ _ h
def qZZ:Ctx:=mkC 2 (qL) [] qa
theorem qmS:CtxOK Tryz.prog qZZ:=mkC_ok (qN)
def qZa:V->List Obj->Option (Int×Int):=fun v objs=>match v,objs with
 | .agg [.one [.i .u64 y0,.i .u64 y1]],[]=>some (y0,y1)
 | _,_=>none
theorem qmR:fnE qZZ Tryz.f97 ([]) ([]) qZa=qFv  := by kernel_rfl
def qZY:HA:=fun o vs objs K=>match vs,objs with
 | [],[]=>ob (qFv ) fun z=>K false (.agg [.one [.i .u64 (z.1),.i .u64 (z.2)]]) ([])
 | _,_=>o 97 vs objs K
def qIq (o:Orc):Orc:=qM 97 (qZY o) o
theorem qLP:OQ Tryz.prog qIq:=fun _ ho=>qQ ho fun vs objs K r h=>by
 unfold qZY at h
 split at h
 ·skip
  obtain ⟨t,h1,h2⟩:=qG h
  refine qd mixed qmS ((qmR).trans h1) (by kernel_rfl) fun v objs' hd=>?_
  unfold qZa at hd;split at hd;(cases hd;exact h2);cases hd
 ·exact ho _ _ _ _ _ h
def qQc:Ex->List V->List Obj->Option (Nat×Int×Int×Nat×LI):=fun e vs objs=>match e,vs,objs with
 | .exit 0,[.s (.ptr 0 0 none 0),.s (.sl 1 0 y0 true)],[.cells 68 [.one [.i .u64 y1,.i .u64 y2]],.sli 3 false (.arr .i64 y3 y4)]=>some (y0,y1,y2,y3,y4)
 | _,_,_=>none
def qQe:Ex->List V->List Obj->Option (Nat×Nat×LI):=fun e vs objs=>match e,vs,objs with
 | .exit 2,[.s (.sl 0 0 y0 true)],[.sli 3 false (.arr .i64 y1 y2)]=>some (y0,y1,y2)
 | _,_,_=>none
def qQg:HL:=fun vs objs K=>match vs,objs with
 | [.s (.ptr 0 0 none 0),.s (.sl 1 0 x0 true)],[.cells 68 [.one [.i .u64 x1,.i .u64 x2]],.sli 3 false (.arr .i64 x3 x4)]=>ob (qHh qD x0 x1 x2 x3 x4) fun z=>K (.exit 0) ([.s (.ptr 0 0 none 0),.s (.sl 1 0 (z.1) true)]) ([.cells 68 [.one [.i .u64 (z.2.1),.i .u64 (z.2.2.1)]],.sli 3 false (.arr .i64 (z.2.2.2.1) (z.2.2.2.2))])
 | _,_=>none
def qQh:HL:=fun vs objs K=>match vs,objs with
 | [.s (.ptr 0 0 none 0),.s (.sl 1 0 x0 true)],[.cells 68 [.one [.i .u64 x1,.i .u64 x2]],.sli 3 false (.arr .i64 x3 x4)]=>ob (qHi qD x0 x1 x2 x3 x4) fun z=>K (.exit 2) ([.s (.sl 0 0 (z.1) true)]) ([.sli 3 false (.arr .i64 (z.2.1) (z.2.2))])
 | _,_=>none
def qm0:{R:Type}->Nat->List V->List Obj->(Ex->List V->List Obj->Option R)->Option R:=fun q vs objs K=>bif Nat.beq q 2 then qQg vs objs K else bif Nat.beq q 5 then qQh vs objs K else none
def qHg:Ctx:=mkC 38 ((qMa qL)) [(2,[1,3],[1,3]),(5,[1,3],[3])] qm0
theorem qQb:CtxOK Tryz.prog qHg:=mkC_ok ((qSG _ qN))
def qQd (f:Nat) (x0:Nat) (x1 x2:Int) (x3:Nat) (x4:LI):Option (Nat×Int×Int×Nat×LI):=qi qHg 0 [1,3] [1,3] (qI Tryz.f129 2) f ([.s (.ptr 0 0 none 0),.s (.sl 1 0 x0 true)]) ([.cells 68 [.one [.i .u64 x1,.i .u64 x2]],.sli 3 false (.arr .i64 x3 x4)]) qQc
theorem qmy (f:Nat) (x0:Nat) (x1 x2:Int) (x3:Nat) (x4:LI):qQd (f+1) x0 x1 x2 x3 x4=qLY (qQd f) x0 x1 x2 x3 x4:=by kernel_rfl
theorem qaJ:∀ f,qQd f=qHh f
 | 0=>rfl
 | f+1=>by funext x0 x1 x2 x3 x4;rw [qmy,qaJ f];rfl
def qQf (f:Nat) (x0:Nat) (x1 x2:Int) (x3:Nat) (x4:LI):Option (Nat×Nat×LI):=qi qHg 0 [1,3] [3] (qI Tryz.f129 5) f ([.s (.ptr 0 0 none 0),.s (.sl 1 0 x0 true)]) ([.cells 68 [.one [.i .u64 x1,.i .u64 x2]],.sli 3 false (.arr .i64 x3 x4)]) qQe
theorem qmz (f:Nat) (x0:Nat) (x1 x2:Int) (x3:Nat) (x4:LI):qQf (f+1) x0 x1 x2 x3 x4=qLZ (qQf f) x0 x1 x2 x3 x4:=by kernel_rfl
theorem qaK:∀ f,qQf f=qHi f
 | 0=>rfl
 | f+1=>by funext x0 x1 x2 x3 x4;rw [qmz,qaK f];rfl
theorem qm1:qe Tryz.prog qHg 0 (qI Tryz.f129 2):=
 qj mixed qQb (qR.of (l':=[]) (by kernel_rfl) trivial) (q:=2) (kin:=[1,3]) (kout:=[1,3]) (by kernel_rfl) (by kernel_rfl) fun vs objs K r h=>by
  replace h:qQg vs objs K=some r:=h
  unfold qQg at h
  split at h
  ·skip
   obtain ⟨t,h1,h2⟩:=qG h
   rw [<- qaJ] at h1
   refine ⟨_,qQc,t,qD,h1,fun e vs' objs' hd=>?_⟩
   unfold qQc at hd;split at hd;(cases hd;exact h2);cases hd
  ·cases h
theorem qm2:qe Tryz.prog qHg 0 (qI Tryz.f129 5):=
 qj mixed qQb (qR.of (l':=[]) (by kernel_rfl) trivial) (q:=5) (kin:=[1,3]) (kout:=[3]) (by kernel_rfl) (by kernel_rfl) fun vs objs K r h=>by
  replace h:qQh vs objs K=some r:=h
  unfold qQh at h
  split at h
  ·skip
   obtain ⟨t,h1,h2⟩:=qG h
   rw [<- qaK] at h1
   refine ⟨_,qQe,t,qD,h1,fun e vs' objs' hd=>?_⟩
   unfold qQe at hd;split at hd;(cases hd;exact h2);cases hd
  ·cases h
def qaI:V->List Obj->Option (Nat×Nat×LI):=fun v objs=>match v,objs with
 | .s (.sl 0 0 y0 true),[.sli 3 false (.arr .i64 y1 y2)]=>some (y0,y1,y2)
 | _,_=>none
theorem qmx (x0 x1:Int):fnE qHg Tryz.f129 ([.agg [.one [.i .u64 x0,.i .u64 x1]]]) ([]) qaI=qEJ x0 x1:=by kernel_rfl
def qaH:HA:=fun o vs objs K=>match vs,objs with
 | [.agg [.one [.i .u64 x0,.i .u64 x1]]],[]=>ob (qEJ x0 x1) fun z=>K false (.s (.sl 0 0 (z.1) true)) ([.sli 3 false (.arr .i64 (z.2.1) (z.2.2))])
 | _,_=>o 129 vs objs K
def qIt (o:Orc):Orc:=qM 129 (qaH o) o
theorem qLa:OQ Tryz.prog qIt:=fun _ ho=>qQ ho fun vs objs K r h=>by
 unfold qaH at h
 split at h
 ·skip
  obtain ⟨t,h1,h2⟩:=qG h
  refine qAc mixed qQb (fn:=Tryz.f129) (b:=(Tryz.f129).body.getD .skip) (by kernel_rfl) (by kernel_rfl) (by kernel_rfl) ((qmx _ _).trans h1) (m:=0) rfl (qR.of (l':=[qI Tryz.f129 2,qI Tryz.f129 5]) (by kernel_rfl) ⟨qm1,qm2,trivial⟩) fun v objs' hd=>?_
  unfold qaI at hd;split at hd;(cases hd;exact h2);cases hd
 ·exact ho _ _ _ _ _ h
def qQX:Ex->List V->List Obj->Option (Nat×LI×Int×Int×Int×Int):=fun e vs objs=>match e,vs,objs with
 | .exit 0,[.s (.ptr 1 0 none 0),.s (.ptr 2 0 none 0)],[.sli 3 true (.arr .i64 y0 y1),.cells 68 [.one [.i .u64 y2,.i .u64 y3]],.cells 68 [.one [.i .u64 y4,.i .u64 y5]]]=>some (y0,y1,y2,y3,y4,y5)
 | _,_,_=>none
def qQZ:HL:=fun vs objs K=>match vs,objs with
 | [.s (.ptr 1 0 none 0),.s (.ptr 2 0 none 0),.s (.sl 0 0 x0 true),.s (.i .i64 x1),.s (.i .i64 x2)],[.sli 3 true (.arr .i64 x3 x4),.cells 68 [.one [.i .u64 x5,.i .u64 x6]],.cells 68 [.one [.i .u64 x7,.i .u64 x8]]]=>ob (qE8 qD x0 x1 x2 x3 x4 x5 x6 x7 x8) fun z=>K (.exit 0) ([.s (.ptr 1 0 none 0),.s (.ptr 2 0 none 0)]) ([.sli 3 true (.arr .i64 (z.1) (z.2.1)),.cells 68 [.one [.i .u64 (z.2.2.1),.i .u64 (z.2.2.2.1)]],.cells 68 [.one [.i .u64 (z.2.2.2.2.1),.i .u64 (z.2.2.2.2.2)]]])
 | _,_=>none
def qmq:{R:Type}->Nat->List V->List Obj->(Ex->List V->List Obj->Option R)->Option R:=fun q vs objs K=>bif Nat.beq q 3 then qQZ vs objs K else none
def qLW:Ctx:=mkC 17 ((qEK qL)) [(3,[2,3,6,7,8],[2,3])] qmq
theorem qZ7:CtxOK Tryz.prog qLW:=mkC_ok ((qFA _ qN))
def qQY (f:Nat) (x0:Nat) (x1 x2:Int) (x3:Nat) (x4:LI) (x5 x6:Int) (x7 x8:Int):Option (Nat×LI×Int×Int×Int×Int):=qi qLW 1 [2,3,6,7,8] [2,3] (qI Tryz.f148 3) f ([.s (.ptr 1 0 none 0),.s (.ptr 2 0 none 0),.s (.sl 0 0 x0 true),.s (.i .i64 x1),.s (.i .i64 x2)]) ([.sli 3 true (.arr .i64 x3 x4),.cells 68 [.one [.i .u64 x5,.i .u64 x6]],.cells 68 [.one [.i .u64 x7,.i .u64 x8]]]) qQX
theorem qmp (f:Nat) (x0:Nat) (x1 x2:Int) (x3:Nat) (x4:LI) (x5 x6:Int) (x7 x8:Int):qQY (f+1) x0 x1 x2 x3 x4 x5 x6 x7 x8=qHe (qQY f) x0 x1 x2 x3 x4 x5 x6 x7 x8:=by kernel_rfl
theorem qZ9:∀ f,qQY f=qE8 f
 | 0=>rfl
 | f+1=>by funext x0 x1 x2 x3 x4 x5 x6 x7 x8;rw [qmp,qZ9 f];rfl
theorem qms:qe Tryz.prog qLW 1 (qI Tryz.f148 3):=
 qj mixed qZ7 (qR.of (l':=[]) (by kernel_rfl) trivial) (q:=3) (kin:=[2,3,6,7,8]) (kout:=[2,3]) (by kernel_rfl) (by kernel_rfl) fun vs objs K r h=>by
  replace h:qQZ vs objs K=some r:=h
  unfold qQZ at h
  split at h
  ·skip
   obtain ⟨t,h1,h2⟩:=qG h
   rw [<- qZ9] at h1
   refine ⟨_,qQX,t,qD,h1,fun e vs' objs' hd=>?_⟩
   unfold qQX at hd;split at hd;(cases hd;exact h2);cases hd
  ·cases h
def qZ8:V->List Obj->Option (Int×Int):=fun v objs=>match v,objs with
 | .agg [.one [.i .u64 y0,.i .u64 y1]],[]=>some (y0,y1)
 | _,_=>none
theorem qmo (x0 x1:Nat) (x2:LI):fnE qLW Tryz.f148 ([.s (.sl 0 0 x0 true)]) ([.sli 3 true (.arr .i64 x1 x2)]) (qAE 1 qZ8)=qHd x0 x1 x2:=by kernel_rfl
def qZ6:HA:=fun o vs objs K=>match vs,List.map Obj.toRO objs with
 | [.s (.sl 0 0 x0 true)],[.sli 3 true (.arr .i64 x1 x2)]=>ob (qHd x0 x1 x2) fun z=>K true (.agg [.one [.i .u64 (z.1),.i .u64 (z.2)]]) ([])
 | _,_=>o 148 vs objs K
def qaA (o:Orc):Orc:=qM 148 (qZ6 o) o
theorem qmr:OQ Tryz.prog qaA:=fun _ ho=>qQ ho fun vs objs K r h=>by
 unfold qZ6 at h
 split at h
 ·skip
  have hq:List.map Obj.toRO objs=_:=(by rename_i hq;first | exact hq | assumption)
  obtain ⟨t,h1,h2⟩:=qG h
  refine qAU mixed qZ7 (m:=1) (fn:=Tryz.f148) (b:=(Tryz.f148).body.getD .skip) (by kernel_rfl) (by kernel_rfl) (by kernel_rfl) hq (by kernel_rfl) (by kernel_rfl) (qR.of (l':=[qI Tryz.f148 3]) (by kernel_rfl) ⟨qms,trivial⟩) ((qmo _ _ _).trans h1) fun v objs' hd=>?_
  unfold qZ8 at hd;split at hd;(cases hd;exact h2);cases hd
 ·exact ho _ _ _ _ _ h
def qPl:Ex->List V->List Obj->Option ((Int×Int)⊕(Int×Int)):=fun e vs objs=>match e,vs,objs with
 | .ret,[.s (.ptr 0 0 none 0)],[.cells 68 [.one [.i .u64 y0,.i .u64 y1]]]=>some (.inl (y0,y1))
 | .exit 0,[.s (.ptr 0 0 none 0)],[.cells 68 [.one [.i .u64 y0,.i .u64 y1]]]=>some (.inr (y0,y1))
 | _,_,_=>none
def qPo:HL:=fun vs objs K=>match vs,objs with
 | [.s (.i .i64 x0),.s (.i .i64 x1),.s (.ptr 0 0 none 0),.s (.sl 1 0 x2 true),.s (.i .i64 x3),.s (.i .i64 x4)],[.cells 68 [.one [.i .u64 x5,.i .u64 x6]],.sli 164 false (.rows [.i .i64,.i .i64] x7 x8)]=>ob (qE1 qD x0 x1 x2 x3 x4 x5 x6 x7 x8) fun t0=>sw t0 (fun z=>K (.ret) ([.s (.ptr 0 0 none 0)]) ([.cells 68 [.one [.i .u64 (z.1),.i .u64 (z.2)]]])) (fun z=>K (.exit 0) ([.s (.ptr 0 0 none 0)]) ([.cells 68 [.one [.i .u64 (z.1),.i .u64 (z.2)]]]))
 | _,_=>none
def qk6:{R:Type}->Nat->List V->List Obj->(Ex->List V->List Obj->Option R)->Option R:=fun q vs objs K=>bif Nat.beq q 2 then qPo vs objs K else none
def qK6:Ctx:=mkC 30 ((qIu (qF0 (qPw (qaA (qPp qL)))))) [(2,[0,1,4,10,11,12],[4])] qk6
theorem qYR:CtxOK Tryz.prog qK6:=mkC_ok ((qLb _ (qHb _ (qYh _ (qmr _ (qYY _ qN))))))
def qPm (f:Nat) (x0 x1:Int) (x2:Nat) (x3 x4:Int) (x5 x6:Int) (x7:Nat) (x8:LL):Option ((Int×Int)⊕(Int×Int)):=qi qK6 0 [0,1,4,10,11,12] [4] (qI Tryz.f125 2) f ([.s (.i .i64 x0),.s (.i .i64 x1),.s (.ptr 0 0 none 0),.s (.sl 1 0 x2 true),.s (.i .i64 x3),.s (.i .i64 x4)]) ([.cells 68 [.one [.i .u64 x5,.i .u64 x6]],.sli 164 false (.rows [.i .i64,.i .i64] x7 x8)]) qPl
theorem qk5 (f:Nat) (x0 x1:Int) (x2:Nat) (x3 x4:Int) (x5 x6:Int) (x7:Nat) (x8:LL):qPm (f+1) x0 x1 x2 x3 x4 x5 x6 x7 x8=qHL (qPm f) x0 x1 x2 x3 x4 x5 x6 x7 x8:=by kernel_rfl
theorem qYT:∀ f,qPm f=qE1 f
 | 0=>rfl
 | f+1=>by funext x0 x1 x2 x3 x4 x5 x6 x7 x8;rw [qk5,qYT f];rfl
theorem qk7:qe Tryz.prog qK6 0 (qI Tryz.f125 2):=
 qj mixed qYR (qR.of (l':=[]) (by kernel_rfl) trivial) (q:=2) (kin:=[0,1,4,10,11,12]) (kout:=[4]) (by kernel_rfl) (by kernel_rfl) fun vs objs K r h=>by
  replace h:qPo vs objs K=some r:=h
  unfold qPo at h
  split at h
  ·skip
   obtain ⟨t,h1,h2⟩:=qG h
   rw [<- qYT] at h1
   refine ⟨_,qPl,t,qD,h1,fun e vs' objs' hd=>?_⟩
   unfold qPl at hd
   split at hd
   ·skip
    cases hd
    exact h2
   ·skip
    cases hd
    exact h2
   ·cases hd
  ·cases h
def qYS:V->List Obj->Option (Int×Int):=fun v objs=>match v,objs with
 | .agg [.one [.i .u64 y0,.i .u64 y1]],[]=>some (y0,y1)
 | _,_=>none
theorem qk4 (x0 x1:Int):fnE qK6 Tryz.f125 ([.s (.i .i64 x0),.s (.i .i64 x1)]) ([]) qYS=qHK x0 x1:=by kernel_rfl
def qYQ:HA:=fun o vs objs K=>match vs,objs with
 | [.s (.i .i64 x0),.s (.i .i64 x1)],[]=>ob (qHK x0 x1) fun z=>K false (.agg [.one [.i .u64 (z.1),.i .u64 (z.2)]]) ([])
 | _,_=>o 125 vs objs K
def qPn (o:Orc):Orc:=qM 125 (qYQ o) o
theorem qYU:OQ Tryz.prog qPn:=fun _ ho=>qQ ho fun vs objs K r h=>by
 unfold qYQ at h
 split at h
 ·skip
  obtain ⟨t,h1,h2⟩:=qG h
  refine qAc mixed qYR (fn:=Tryz.f125) (b:=(Tryz.f125).body.getD .skip) (by kernel_rfl) (by kernel_rfl) (by kernel_rfl) ((qk4 _ _).trans h1) (m:=0) rfl (qR.of (l':=[qI Tryz.f125 2]) (by kernel_rfl) ⟨qk7,trivial⟩) fun v objs' hd=>?_
  unfold qYS at hd;split at hd;(cases hd;exact h2);cases hd
 ·exact ho _ _ _ _ _ h
def qSo:Ctx:=mkC 18 (qL) [] qa
theorem qd4:CtxOK Tryz.prog qSo:=mkC_ok (qN)
def qSp:V->List Obj->Option (Int×Int):=fun v objs=>match v,objs with
 | .agg [.one [.i .u64 y0,.i .u64 y1]],[]=>some (y0,y1)
 | _,_=>none
theorem qd3 (x0:Int) (x1 x2:LI) (x3:Int) (x4 x5:LL):fnE qSo Tryz.f128 ([.s (.ptr 0 0 none 0),.s (.i .i64 x0)]) ([.rcells 72 [.arr .i8 81 x1,.arr .i8 16 x2,.one [.i .i8 x3],.rows [.i .u64,.i .u64] 32 x4,.rows [.i .u64,.i .u64] 2 x5]]) (qAE 1 qSp)=qFS x0 x1 x2 x3 x4 x5:=by kernel_rfl
def qSn:HA:=fun o vs objs K=>match vs,List.map Obj.toRO objs with
 | [.s (.ptr 0 0 none 0),.s (.i .i64 x0)],[.rcells 72 [.arr .i8 81 x1,.arr .i8 16 x2,.one [.i .i8 x3],.rows [.i .u64,.i .u64] 32 x4,.rows [.i .u64,.i .u64] 2 x5]]=>ob (qFS x0 x1 x2 x3 x4 x5) fun z=>K true (.agg [.one [.i .u64 (z.1),.i .u64 (z.2)]]) ([])
 | _,_=>o 128 vs objs K
def qMv (o:Orc):Orc:=qM 128 (qSn o) o
theorem qSq:OQ Tryz.prog qMv:=fun _ ho=>qQ ho fun vs objs K r h=>by
 unfold qSn at h
 split at h
 ·skip
  have hq:List.map Obj.toRO objs=_:=(by rename_i hq;first | exact hq | assumption)
  obtain ⟨t,h1,h2⟩:=qG h
  refine qAU mixed qd4 (m:=1) (fn:=Tryz.f128) (b:=(Tryz.f128).body.getD .skip) (by kernel_rfl) (by kernel_rfl) (by kernel_rfl) hq (by kernel_rfl) (by kernel_rfl) (qR.of (l':=[]) (by kernel_rfl) trivial) ((qd3 _ _ _ _ _ _).trans h1) fun v objs' hd=>?_
  unfold qSp at hd;split at hd;(cases hd;exact h2);cases hd
 ·exact ho _ _ _ _ _ h
def qSI:Ctx:=mkC 18 (qL) [] qa
theorem qde:CtxOK Tryz.prog qSI:=mkC_ok (qN)
def qSJ:V->List Obj->Option (Int):=fun v objs=>match v,objs with
 | .s (.i .i8 y0),[]=>some (y0)
 | _,_=>none
theorem qdd (x0:Int) (x1 x2:LI) (x3:Int) (x4 x5:LL):fnE qSI Tryz.f56 ([.s (.ptr 0 0 none 0),.s (.i .i64 x0)]) ([.rcells 72 [.arr .i8 81 x1,.arr .i8 16 x2,.one [.i .i8 x3],.rows [.i .u64,.i .u64] 32 x4,.rows [.i .u64,.i .u64] 2 x5]]) (qAE 1 qSJ)=qAe x0 x1 x2 x3 x4 x5:=by kernel_rfl
def qSH:HA:=fun o vs objs K=>match vs,List.map Obj.toRO objs with
 | [.s (.ptr 0 0 none 0),.s (.i .i64 x0)],[.rcells 72 [.arr .i8 81 x1,.arr .i8 16 x2,.one [.i .i8 x3],.rows [.i .u64,.i .u64] 32 x4,.rows [.i .u64,.i .u64] 2 x5]]=>ob (qAe x0 x1 x2 x3 x4 x5) fun y0=>K true (.s (.i .i8 y0)) ([])
 | _,_=>o 56 vs objs K
def qFP (o:Orc):Orc:=qM 56 (qSH o) o
theorem qGN:OQ Tryz.prog qFP:=fun _ ho=>qQ ho fun vs objs K r h=>by
 unfold qSH at h
 split at h
 ·skip
  have hq:List.map Obj.toRO objs=_:=(by rename_i hq;first | exact hq | assumption)
  obtain ⟨t,h1,h2⟩:=qG h
  refine qAU mixed qde (m:=1) (fn:=Tryz.f56) (b:=(Tryz.f56).body.getD .skip) (by kernel_rfl) (by kernel_rfl) (by kernel_rfl) hq (by kernel_rfl) (by kernel_rfl) (qR.of (l':=[]) (by kernel_rfl) trivial) ((qdd _ _ _ _ _ _).trans h1) fun v objs' hd=>?_
  unfold qSJ at hd;split at hd;(cases hd;exact h2);cases hd
 ·exact ho _ _ _ _ _ h
def qMQ:Ex->List V->List Obj->Option (Int×Int×Nat×Int×Int×LI×LI×Int×LL×LL×List (LI×LI)×Nat×LI):=fun e vs objs=>match e,vs,objs with
 | .exit 2,[.s (.ptr 0 0 none 0),.s (.i .i64 y0),.s (.mp 1),.s (.i .i64 y1),.s (.sl 2 0 y2 true),.s (.i .i64 y3),.s (.i .i64 y4)],[.rcells 72 [.arr .i8 81 y5,.arr .i8 16 y6,.one [.i .i8 y7],.rows [.i .u64,.i .u64] 32 y8,.rows [.i .u64,.i .u64] 2 y9],.map false true [.i .i64] [.i .u64,.i .u64] y10,.sli 3 false (.arr .i64 y11 y12)]=>some (y0,y1,y2,y3,y4,y5,y6,y7,y8,y9,y10,y11,y12)
 | _,_,_=>none
def qMO:Ex->List V->List Obj->Option (LI×LI×Int×LL×LL×List (LI×LI)):=fun e vs objs=>match e,vs,objs with
 | .exit 0,[.s (.mp 1)],[.rcells 72 [.arr .i8 81 y0,.arr .i8 16 y1,.one [.i .i8 y2],.rows [.i .u64,.i .u64] 32 y3,.rows [.i .u64,.i .u64] 2 y4],.map false true [.i .i64] [.i .u64,.i .u64] y5]=>some (y0,y1,y2,y3,y4,y5)
 | _,_,_=>none
def qMT:HL:=fun vs objs K=>match vs,objs with
 | [.s (.ptr 0 0 none 0),.s (.i .i64 x0),.s (.mp 1),.s (.i .i64 x1),.s (.sl 2 0 x2 true),.s (.i .i64 x3),.s (.i .i64 x4),.s (.sl 3 0 x5 true),.s (.i .i64 x6),.s (.i .i64 x7)],[.rcells 72 [.arr .i8 81 x8,.arr .i8 16 x9,.one [.i .i8 x10],.rows [.i .u64,.i .u64] 32 x11,.rows [.i .u64,.i .u64] 2 x12],.map false true [.i .i64] [.i .u64,.i .u64] x13,.sli 3 false (.arr .i64 x14 x15),.sli 3 false (.arr .i64 x16 x17)]=>ob (qEa qD x0 x1 x2 x3 x4 x5 x6 x7 x8 x9 x10 x11 x12 x13 x14 x15 x16 x17) fun z=>K (.exit 2) ([.s (.ptr 0 0 none 0),.s (.i .i64 (z.1)),.s (.mp 1),.s (.i .i64 (z.2.1)),.s (.sl 2 0 (z.2.2.1) true),.s (.i .i64 (z.2.2.2.1)),.s (.i .i64 (z.2.2.2.2.1))]) ([.rcells 72 [.arr .i8 81 (z.2.2.2.2.2.1),.arr .i8 16 (z.2.2.2.2.2.2.1),.one [.i .i8 (z.2.2.2.2.2.2.2.1)],.rows [.i .u64,.i .u64] 32 (z.2.2.2.2.2.2.2.2.1),.rows [.i .u64,.i .u64] 2 (z.2.2.2.2.2.2.2.2.2.1)],.map false true [.i .i64] [.i .u64,.i .u64] (z.2.2.2.2.2.2.2.2.2.2.1),.sli 3 false (.arr .i64 (z.2.2.2.2.2.2.2.2.2.2.2.1) (z.2.2.2.2.2.2.2.2.2.2.2.2))])
 | _,_=>none
def qMS:HL:=fun vs objs K=>match vs,objs with
 | [.s (.ptr 0 0 none 0),.s (.i .i64 x0),.s (.mp 1),.s (.i .i64 x1),.s (.sl 2 0 x2 true),.s (.i .i64 x3),.s (.i .i64 x4)],[.rcells 72 [.arr .i8 81 x5,.arr .i8 16 x6,.one [.i .i8 x7],.rows [.i .u64,.i .u64] 32 x8,.rows [.i .u64,.i .u64] 2 x9],.map false true [.i .i64] [.i .u64,.i .u64] x10,.sli 3 false (.arr .i64 x11 x12)]=>ob (qEZ qD x0 x1 x2 x3 x4 x5 x6 x7 x8 x9 x10 x11 x12) fun z=>K (.exit 0) ([.s (.mp 1)]) ([.rcells 72 [.arr .i8 81 (z.1),.arr .i8 16 (z.2.1),.one [.i .i8 (z.2.2.1)],.rows [.i .u64,.i .u64] 32 (z.2.2.2.1),.rows [.i .u64,.i .u64] 2 (z.2.2.2.2.1)],.map false true [.i .i64] [.i .u64,.i .u64] (z.2.2.2.2.2)])
 | _,_=>none
def qdA:{R:Type}->Nat->List V->List Obj->(Ex->List V->List Obj->Option R)->Option R:=fun q vs objs K=>bif Nat.beq q 9 then qMT vs objs K else bif Nat.beq q 6 then qMS vs objs K else none
def qGK:Ctx:=mkC 89 ((qEK (qF0 (qK8 (qIu (qFP (qLS (qHa (qMv (qLQ (qE6 (qGQ (qPn (qIt (qFR (qJT qL)))))))))))))))) [(6,[0,1,5,6,21,22,23],[5]),(9,[0,1,5,6,21,22,23,32,33,34],[0,1,5,6,21,22,23])] qdA
theorem qMN:CtxOK Tryz.prog qGK:=mkC_ok ((qFA _ (qHb _ (qPs _ (qLb _ (qGN _ (qQR _ (qIr _ (qSq _ (qQP _ (qFw _ (qH3 _ (qYU _ (qLa _ (qGO _ (qMq _ qN))))))))))))))))
def qMR (f:Nat) (x0 x1:Int) (x2:Nat) (x3 x4:Int) (x5:Nat) (x6 x7:Int) (x8 x9:LI) (x10:Int) (x11 x12:LL) (x13:List (LI×LI)) (x14:Nat) (x15:LI) (x16:Nat) (x17:LI):Option (Int×Int×Nat×Int×Int×LI×LI×Int×LL×LL×List (LI×LI)×Nat×LI):=qi qGK 1 [0,1,5,6,21,22,23,32,33,34] [0,1,5,6,21,22,23] (qI Tryz.f124 9) f ([.s (.ptr 0 0 none 0),.s (.i .i64 x0),.s (.mp 1),.s (.i .i64 x1),.s (.sl 2 0 x2 true),.s (.i .i64 x3),.s (.i .i64 x4),.s (.sl 3 0 x5 true),.s (.i .i64 x6),.s (.i .i64 x7)]) ([.rcells 72 [.arr .i8 81 x8,.arr .i8 16 x9,.one [.i .i8 x10],.rows [.i .u64,.i .u64] 32 x11,.rows [.i .u64,.i .u64] 2 x12],.map false true [.i .i64] [.i .u64,.i .u64] x13,.sli 3 false (.arr .i64 x14 x15),.sli 3 false (.arr .i64 x16 x17)]) qMQ
theorem qc9 (f:Nat) (x0 x1:Int) (x2:Nat) (x3 x4:Int) (x5:Nat) (x6 x7:Int) (x8 x9:LI) (x10:Int) (x11 x12:LL) (x13:List (LI×LI)) (x14:Nat) (x15:LI) (x16:Nat) (x17:LI):qMR (f+1) x0 x1 x2 x3 x4 x5 x6 x7 x8 x9 x10 x11 x12 x13 x14 x15 x16 x17=qFM (qMR f) x0 x1 x2 x3 x4 x5 x6 x7 x8 x9 x10 x11 x12 x13 x14 x15 x16 x17:=by kernel_rfl
theorem qR6:∀ f,qMR f=qEa f
 | 0=>rfl
 | f+1=>by funext x0 x1 x2 x3 x4 x5 x6 x7 x8 x9 x10 x11 x12 x13 x14 x15 x16 x17;rw [qc9,qR6 f];rfl
def qMP (f:Nat) (x0 x1:Int) (x2:Nat) (x3 x4:Int) (x5 x6:LI) (x7:Int) (x8 x9:LL) (x10:List (LI×LI)) (x11:Nat) (x12:LI):Option (LI×LI×Int×LL×LL×List (LI×LI)):=qi qGK 1 [0,1,5,6,21,22,23] [5] (qI Tryz.f124 6) f ([.s (.ptr 0 0 none 0),.s (.i .i64 x0),.s (.mp 1),.s (.i .i64 x1),.s (.sl 2 0 x2 true),.s (.i .i64 x3),.s (.i .i64 x4)]) ([.rcells 72 [.arr .i8 81 x5,.arr .i8 16 x6,.one [.i .i8 x7],.rows [.i .u64,.i .u64] 32 x8,.rows [.i .u64,.i .u64] 2 x9],.map false true [.i .i64] [.i .u64,.i .u64] x10,.sli 3 false (.arr .i64 x11 x12)]) qMO
theorem qc8 (f:Nat) (x0 x1:Int) (x2:Nat) (x3 x4:Int) (x5 x6:LI) (x7:Int) (x8 x9:LL) (x10:List (LI×LI)) (x11:Nat) (x12:LI):qMP (f+1) x0 x1 x2 x3 x4 x5 x6 x7 x8 x9 x10 x11 x12=qGL (qMP f) x0 x1 x2 x3 x4 x5 x6 x7 x8 x9 x10 x11 x12:=by kernel_rfl
theorem qR5:∀ f,qMP f=qEZ f
 | 0=>rfl
 | f+1=>by funext x0 x1 x2 x3 x4 x5 x6 x7 x8 x9 x10 x11 x12;rw [qc8,qR5 f];rfl
theorem qdD:qe Tryz.prog qGK 1 (qI Tryz.f124 9):=
 qj mixed qMN (qR.of (l':=[]) (by kernel_rfl) trivial) (q:=9) (kin:=[0,1,5,6,21,22,23,32,33,34]) (kout:=[0,1,5,6,21,22,23]) (by kernel_rfl) (by kernel_rfl) fun vs objs K r h=>by
  replace h:qMT vs objs K=some r:=h
  unfold qMT at h
  split at h
  ·skip
   obtain ⟨t,h1,h2⟩:=qG h
   rw [<- qR6] at h1
   refine ⟨_,qMQ,t,qD,h1,fun e vs' objs' hd=>?_⟩
   unfold qMQ at hd;split at hd;(cases hd;exact h2);cases hd
  ·cases h
theorem qdC:qe Tryz.prog qGK 1 (qI Tryz.f124 6):=
 qj mixed qMN (qR.of (l':=[qI Tryz.f124 9]) (by kernel_rfl) ⟨qdD,trivial⟩) (q:=6) (kin:=[0,1,5,6,21,22,23]) (kout:=[5]) (by kernel_rfl) (by kernel_rfl) fun vs objs K r h=>by
  replace h:qMS vs objs K=some r:=h
  unfold qMS at h
  split at h
  ·skip
   obtain ⟨t,h1,h2⟩:=qG h
   rw [<- qR5] at h1
   refine ⟨_,qMO,t,qD,h1,fun e vs' objs' hd=>?_⟩
   unfold qMO at hd;split at hd;(cases hd;exact h2);cases hd
  ·cases h
def qR4:V->List Obj->Option (List (LI×LI)):=fun v objs=>match v,objs with
 | .s (.mp 1),[.map false true [.i .i64] [.i .u64,.i .u64] y0]=>some (y0)
 | _,_=>none
theorem qc7 (x0:Int) (x1 x2:LI) (x3:Int) (x4 x5:LL):fnE qGK Tryz.f124 ([.s (.ptr 0 0 none 0),.s (.i .i64 x0)]) ([.rcells 72 [.arr .i8 81 x1,.arr .i8 16 x2,.one [.i .i8 x3],.rows [.i .u64,.i .u64] 32 x4,.rows [.i .u64,.i .u64] 2 x5]]) (qAE 1 qR4)=qGJ x0 x1 x2 x3 x4 x5:=by kernel_rfl
def qR3:HA:=fun o vs objs K=>match vs,List.map Obj.toRO objs with
 | [.s (.ptr 0 0 none 0),.s (.i .i64 x0)],[.rcells 72 [.arr .i8 81 x1,.arr .i8 16 x2,.one [.i .i8 x3],.rows [.i .u64,.i .u64] 32 x4,.rows [.i .u64,.i .u64] 2 x5]]=>ob (qGJ x0 x1 x2 x3 x4 x5) fun y0=>K true (.s (.mp 1)) ([.map false true [.i .i64] [.i .u64,.i .u64] y0])
 | _,_=>o 124 vs objs K
def qR7 (o:Orc):Orc:=qM 124 (qR3 o) o
theorem qdB:OQ Tryz.prog qR7:=fun _ ho=>qQ ho fun vs objs K r h=>by
 unfold qR3 at h
 split at h
 ·skip
  have hq:List.map Obj.toRO objs=_:=(by rename_i hq;first | exact hq | assumption)
  obtain ⟨t,h1,h2⟩:=qG h
  refine qAU mixed qMN (m:=1) (fn:=Tryz.f124) (b:=(Tryz.f124).body.getD .skip) (by kernel_rfl) (by kernel_rfl) (by kernel_rfl) hq (by kernel_rfl) (by kernel_rfl) (qR.of (l':=[qI Tryz.f124 6]) (by kernel_rfl) ⟨qdC,trivial⟩) ((qc7 _ _ _ _ _ _).trans h1) fun v objs' hd=>?_
  unfold qR4 at hd;split at hd;(cases hd;exact h2);cases hd
 ·exact ho _ _ _ _ _ h
def qV3:Ctx:=mkC 44 ((qF1 (qPn (qLS (qLQ (qJK (qR7 (qIq (qJT qL))))))))) [] qa
theorem qh0:CtxOK Tryz.prog qV3:=mkC_ok ((qHf _ (qYU _ (qQR _ (qQP _ (qMH _ (qdB _ (qLP _ (qMq _ qN)))))))))
def qV4:V->List Obj->Option (Int×Int×Int×Int×Bool×List (LI×LI)):=fun v objs=>match v,objs with
 | .agg [.one [.ptr 0 0 none 0,.i .i64 y0,.i .i64 y1,.i .u64 y2,.i .u64 y3,.mp 1,.b y4]],[.map false true [.i .i64] [.i .u64,.i .u64] y5]=>some (y0,y1,y2,y3,y4,y5)
 | _,_=>none
theorem qhz (x0 x1:LI) (x2:Int) (x3 x4:LL):fnE qV3 Tryz.f95 ([.s (.ptr 0 0 none 0)]) ([.rcells 72 [.arr .i8 81 x0,.arr .i8 16 x1,.one [.i .i8 x2],.rows [.i .u64,.i .u64] 32 x3,.rows [.i .u64,.i .u64] 2 x4]]) (qAE 1 qV4)=qG5 x0 x1 x2 x3 x4:=by kernel_rfl
def qV2:HA:=fun o vs objs K=>match vs,List.map Obj.toRO objs with
 | [.s (.ptr 0 0 none 0)],[.rcells 72 [.arr .i8 81 x0,.arr .i8 16 x1,.one [.i .i8 x2],.rows [.i .u64,.i .u64] 32 x3,.rows [.i .u64,.i .u64] 2 x4]]=>ob (qG5 x0 x1 x2 x3 x4) fun z=>K true (.agg [.one [.ptr 0 0 none 0,.i .i64 (z.1),.i .i64 (z.2.1),.i .u64 (z.2.2.1),.i .u64 (z.2.2.2.1),.mp 1,.b (z.2.2.2.2.1)]]) ([.map false true [.i .i64] [.i .u64,.i .u64] (z.2.2.2.2.2)])
 | _,_=>o 95 vs objs K
def qOk (o:Orc):Orc:=qM 95 (qV2 o) o
theorem qV5:OQ Tryz.prog qOk:=fun _ ho=>qQ ho fun vs objs K r h=>by
 unfold qV2 at h
 split at h
 ·skip
  have hq:List.map Obj.toRO objs=_:=(by rename_i hq;first | exact hq | assumption)
  obtain ⟨t,h1,h2⟩:=qG h
  refine qAU mixed qh0 (m:=1) (fn:=Tryz.f95) (b:=(Tryz.f95).body.getD .skip) (by kernel_rfl) (by kernel_rfl) (by kernel_rfl) hq (by kernel_rfl) (by kernel_rfl) (qR.of (l':=[]) (by kernel_rfl) trivial) ((qhz _ _ _ _ _).trans h1) fun v objs' hd=>?_
  unfold qV4 at hd;split at hd;(cases hd;exact h2);cases hd
 ·exact ho _ _ _ _ _ h
def qYB:Ctx:=mkC 13 (qL) [] qa
theorem qkl:CtxOK Tryz.prog qYB:=mkC_ok (qN)
def qYC:V->List Obj->Option (Int):=fun v objs=>match v,objs with
 | .s (.i .i64 y0),[]=>some (y0)
 | _,_=>none
theorem qkk (x0:Int):fnE qYB Tryz.f59 ([.s (.i .i64 x0)]) ([]) qYC=qCb x0:=by kernel_rfl
def qYA:HA:=fun o vs objs K=>match vs,objs with
 | [.s (.i .i64 x0)],[]=>ob (qCb x0) fun y0=>K false (.s (.i .i64 y0)) ([])
 | _,_=>o 59 vs objs K
def qIb (o:Orc):Orc:=qM 59 (qYA o) o
theorem qKy:OQ Tryz.prog qIb:=fun _ ho=>qQ ho fun vs objs K r h=>by
 unfold qYA at h
 split at h
 ·skip
  obtain ⟨t,h1,h2⟩:=qG h
  refine qd mixed qkl ((qkk _).trans h1) (by kernel_rfl) fun v objs' hd=>?_
  unfold qYC at hd;split at hd;(cases hd;exact h2);cases hd
 ·exact ho _ _ _ _ _ h
def qQz:Ex->List V->List Obj->Option (Int×Int×Int×Int):=fun e vs objs=>match e,vs,objs with
 | .exit 0,[.s (.ptr 0 0 none 0),.s (.ptr 1 0 none 0)],[.cells 68 [.one [.i .u64 y0,.i .u64 y1]],.cells 68 [.one [.i .u64 y2,.i .u64 y3]]]=>some (y0,y1,y2,y3)
 | _,_,_=>none
def qQ1:HL:=fun vs objs K=>match vs,objs with
 | [.s (.i .i64 x0),.s (.ptr 0 0 none 0),.s (.ptr 1 0 none 0),.s (.i .i64 x1)],[.cells 68 [.one [.i .u64 x2,.i .u64 x3]],.cells 68 [.one [.i .u64 x4,.i .u64 x5]]]=>ob (qLl qD x0 x1 x2 x3 x4 x5) fun z=>K (.exit 0) ([.s (.ptr 0 0 none 0),.s (.ptr 1 0 none 0)]) ([.cells 68 [.one [.i .u64 (z.1),.i .u64 (z.2.1)]],.cells 68 [.one [.i .u64 (z.2.2.1),.i .u64 (z.2.2.2)]]])
 | _,_=>none
def qnv:{R:Type}->Nat->List V->List Obj->(Ex->List V->List Obj->Option R)->Option R:=fun q vs objs K=>bif Nat.beq q 3 then qQ1 vs objs K else none
def qLk:Ctx:=mkC 23 ((qEK (qQv qL))) [(3,[0,2,3,6],[2,3])] qnv
theorem qa3:CtxOK Tryz.prog qLk:=mkC_ok ((qFA _ (qaw _ qN)))
def qQ0 (f:Nat) (x0 x1:Int) (x2 x3:Int) (x4 x5:Int):Option (Int×Int×Int×Int):=qi qLk 0 [0,2,3,6] [2,3] (qI Tryz.f152 3) f ([.s (.i .i64 x0),.s (.ptr 0 0 none 0),.s (.ptr 1 0 none 0),.s (.i .i64 x1)]) ([.cells 68 [.one [.i .u64 x2,.i .u64 x3]],.cells 68 [.one [.i .u64 x4,.i .u64 x5]]]) qQz
theorem qnu (f:Nat) (x0 x1:Int) (x2 x3:Int) (x4 x5:Int):qQ0 (f+1) x0 x1 x2 x3 x4 x5=qa6 (qQ0 f) x0 x1 x2 x3 x4 x5:=by kernel_rfl
theorem qa5:∀ f,qQ0 f=qLl f
 | 0=>rfl
 | f+1=>by funext x0 x1 x2 x3 x4 x5;rw [qnu,qa5 f];rfl
theorem qnx:qe Tryz.prog qLk 0 (qI Tryz.f152 3):=
 qj mixed qa3 (qR.of (l':=[]) (by kernel_rfl) trivial) (q:=3) (kin:=[0,2,3,6]) (kout:=[2,3]) (by kernel_rfl) (by kernel_rfl) fun vs objs K r h=>by
  replace h:qQ1 vs objs K=some r:=h
  unfold qQ1 at h
  split at h
  ·skip
   obtain ⟨t,h1,h2⟩:=qG h
   rw [<- qa5] at h1
   refine ⟨_,qQz,t,qD,h1,fun e vs' objs' hd=>?_⟩
   unfold qQz at hd;split at hd;(cases hd;exact h2);cases hd
  ·cases h
def qa4:V->List Obj->Option (Int×Int):=fun v objs=>match v,objs with
 | .agg [.one [.i .u64 y0,.i .u64 y1]],[]=>some (y0,y1)
 | _,_=>none
theorem qnt (x0:Int):fnE qLk Tryz.f152 ([.s (.i .i64 x0)]) ([]) qa4=qIz x0:=by kernel_rfl
def qa2:HA:=fun o vs objs K=>match vs,objs with
 | [.s (.i .i64 x0)],[]=>ob (qIz x0) fun z=>K false (.agg [.one [.i .u64 (z.1),.i .u64 (z.2)]]) ([])
 | _,_=>o 152 vs objs K
def qa7 (o:Orc):Orc:=qM 152 (qa2 o) o
theorem qnw:OQ Tryz.prog qa7:=fun _ ho=>qQ ho fun vs objs K r h=>by
 unfold qa2 at h
 split at h
 ·skip
  obtain ⟨t,h1,h2⟩:=qG h
  refine qAc mixed qa3 (fn:=Tryz.f152) (b:=(Tryz.f152).body.getD .skip) (by kernel_rfl) (by kernel_rfl) (by kernel_rfl) ((qnt _).trans h1) (m:=0) rfl (qR.of (l':=[qI Tryz.f152 3]) (by kernel_rfl) ⟨qnx,trivial⟩) fun v objs' hd=>?_
  unfold qa4 at hd;split at hd;(cases hd;exact h2);cases hd
 ·exact ho _ _ _ _ _ h
def qUs:Ctx:=mkC 27 ((qLi (qF0 (qa7 (qDU (qIb (qCa qL))))))) [] qa
theorem qgX:CtxOK Tryz.prog qUs:=mkC_ok ((qQr _ (qHb _ (qnw _ (qD5 _ (qKy _ (qCv _ qN)))))))
def qUt:V->List Obj->Option (Bool×Bool):=fun v objs=>match v,objs with
 | .tup [W.s (.b y0),W.s (.b y1)],[]=>some (y0,y1)
 | _,_=>none
theorem qgW (x0 x1 x2:Int):fnE qUs Tryz.f132 ([.s (.i .i8 x0),.s (.i .i64 x1),.s (.i .i64 x2)]) ([]) qUt=qII x0 x1 x2:=by kernel_rfl
def qUr:HA:=fun o vs objs K=>match vs,objs with
 | [.s (.i .i8 x0),.s (.i .i64 x1),.s (.i .i64 x2)],[]=>ob (qII x0 x1 x2) fun z=>K false (.tup [W.s (.b (z.1)),W.s (.b (z.2))]) ([])
 | _,_=>o 132 vs objs K
def qUu (o:Orc):Orc:=qM 132 (qUr o) o
theorem qgY:OQ Tryz.prog qUu:=fun _ ho=>qQ ho fun vs objs K r h=>by
 unfold qUr at h
 split at h
 ·skip
  obtain ⟨t,h1,h2⟩:=qG h
  refine qd mixed qgX ((qgW _ _ _).trans h1) (by kernel_rfl) fun v objs' hd=>?_
  unfold qUt at hd;split at hd;(cases hd;exact h2);cases hd
 ·exact ho _ _ _ _ _ h
def qNk:Ex->List V->List Obj->Option (Nat×Int×Nat×Int×Int×LI×LI×Int×LL×LL×Int×Int×Nat×LL×Int×Int×Nat×LI):=fun e vs objs=>match e,vs,objs with
 | .exit 2,[.s (.ptr 0 0 none 0),.s (.ptr 1 0 none 0),.s (.sl 2 0 y0 true),.s (.i .i64 y1),.s (.ptr 3 0 none 0),.s (.sl 4 0 y2 true),.s (.i .i64 y3),.s (.i .i64 y4)],[.rcells 72 [.arr .i8 81 y5,.arr .i8 16 y6,.one [.i .i8 y7],.rows [.i .u64,.i .u64] 32 y8,.rows [.i .u64,.i .u64] 2 y9],.cells 68 [.one [.i .u64 y10,.i .u64 y11]],.sli 37 false (.rows [.i .i64,.i .i64,.i .i64,.b] y12 y13),.cells 68 [.one [.i .u64 y14,.i .u64 y15]],.sli 3 false (.arr .i64 y16 y17)]=>some (y0,y1,y2,y3,y4,y5,y6,y7,y8,y9,y10,y11,y12,y13,y14,y15,y16,y17)
 | _,_,_=>none
def qNi:Ex->List V->List Obj->Option (Nat×LI×LI×Int×LL×LL×Nat×LL):=fun e vs objs=>match e,vs,objs with
 | .exit 0,[.s (.sl 1 0 y0 true)],[.rcells 72 [.arr .i8 81 y1,.arr .i8 16 y2,.one [.i .i8 y3],.rows [.i .u64,.i .u64] 32 y4,.rows [.i .u64,.i .u64] 2 y5],.sli 37 false (.rows [.i .i64,.i .i64,.i .i64,.b] y6 y7)]=>some (y0,y1,y2,y3,y4,y5,y6,y7)
 | _,_,_=>none
def qNo:HL:=fun vs objs K=>match vs,objs with
 | [.s (.ptr 0 0 none 0),.s (.ptr 1 0 none 0),.s (.sl 2 0 x0 true),.s (.i .i64 x1),.s (.ptr 3 0 none 0),.s (.i .i64 x2),.s (.i .i8 x3),.s (.sl 4 0 x4 true),.s (.i .i64 x5),.s (.i .i64 x6),.s (.sl 5 0 x7 true),.s (.i .i64 x8),.s (.i .i64 x9)],[.rcells 72 [.arr .i8 81 x10,.arr .i8 16 x11,.one [.i .i8 x12],.rows [.i .u64,.i .u64] 32 x13,.rows [.i .u64,.i .u64] 2 x14],.cells 68 [.one [.i .u64 x15,.i .u64 x16]],.sli 37 false (.rows [.i .i64,.i .i64,.i .i64,.b] x17 x18),.cells 68 [.one [.i .u64 x19,.i .u64 x20]],.sli 3 false (.arr .i64 x21 x22),.sli 3 false (.arr .i64 x23 x24)]=>ob (qEl qD x0 x1 x2 x3 x4 x5 x6 x7 x8 x9 x10 x11 x12 x13 x14 x15 x16 x17 x18 x19 x20 x21 x22 x23 x24) fun z=>K (.exit 2) ([.s (.ptr 0 0 none 0),.s (.ptr 1 0 none 0),.s (.sl 2 0 (z.1) true),.s (.i .i64 (z.2.1)),.s (.ptr 3 0 none 0),.s (.sl 4 0 (z.2.2.1) true),.s (.i .i64 (z.2.2.2.1)),.s (.i .i64 (z.2.2.2.2.1))]) ([.rcells 72 [.arr .i8 81 (z.2.2.2.2.2.1),.arr .i8 16 (z.2.2.2.2.2.2.1),.one [.i .i8 (z.2.2.2.2.2.2.2.1)],.rows [.i .u64,.i .u64] 32 (z.2.2.2.2.2.2.2.2.1),.rows [.i .u64,.i .u64] 2 (z.2.2.2.2.2.2.2.2.2.1)],.cells 68 [.one [.i .u64 (z.2.2.2.2.2.2.2.2.2.2.1),.i .u64 (z.2.2.2.2.2.2.2.2.2.2.2.1)]],.sli 37 false (.rows [.i .i64,.i .i64,.i .i64,.b] (z.2.2.2.2.2.2.2.2.2.2.2.2.1) (z.2.2.2.2.2.2.2.2.2.2.2.2.2.1)),.cells 68 [.one [.i .u64 (z.2.2.2.2.2.2.2.2.2.2.2.2.2.2.1),.i .u64 (z.2.2.2.2.2.2.2.2.2.2.2.2.2.2.2.1)]],.sli 3 false (.arr .i64 (z.2.2.2.2.2.2.2.2.2.2.2.2.2.2.2.2.1) (z.2.2.2.2.2.2.2.2.2.2.2.2.2.2.2.2.2))])
 | _,_=>none
def qNn:HL:=fun vs objs K=>match vs,objs with
 | [.s (.ptr 0 0 none 0),.s (.ptr 1 0 none 0),.s (.sl 2 0 x0 true),.s (.i .i64 x1),.s (.ptr 3 0 none 0),.s (.sl 4 0 x2 true),.s (.i .i64 x3),.s (.i .i64 x4)],[.rcells 72 [.arr .i8 81 x5,.arr .i8 16 x6,.one [.i .i8 x7],.rows [.i .u64,.i .u64] 32 x8,.rows [.i .u64,.i .u64] 2 x9],.cells 68 [.one [.i .u64 x10,.i .u64 x11]],.sli 37 false (.rows [.i .i64,.i .i64,.i .i64,.b] x12 x13),.cells 68 [.one [.i .u64 x14,.i .u64 x15]],.sli 3 false (.arr .i64 x16 x17)]=>ob (qEk qD x0 x1 x2 x3 x4 x5 x6 x7 x8 x9 x10 x11 x12 x13 x14 x15 x16 x17) fun z=>K (.exit 0) ([.s (.sl 1 0 (z.1) true)]) ([.rcells 72 [.arr .i8 81 (z.2.1),.arr .i8 16 (z.2.2.1),.one [.i .i8 (z.2.2.2.1)],.rows [.i .u64,.i .u64] 32 (z.2.2.2.2.1),.rows [.i .u64,.i .u64] 2 (z.2.2.2.2.2.1)],.sli 37 false (.rows [.i .i64,.i .i64,.i .i64,.b] (z.2.2.2.2.2.2.1) (z.2.2.2.2.2.2.2))])
 | _,_=>none
def qgH:{R:Type}->Nat->List V->List Obj->(Ex->List V->List Obj->Option R)->Option R:=fun q vs objs K=>bif Nat.beq q 9 then qNo vs objs K else bif Nat.beq q 5 then qNn vs objs K else none
def qGc:Ctx:=mkC 82 ((qUu (qE6 (qLV (qK8 (qGQ (qFP (qIt (qMv (qF1 (qFR qL))))))))))) [(5,[0,3,5,6,7,29,30,31],[5]),(9,[0,3,5,6,7,9,10,29,30,31,51,52,53],[0,3,5,6,7,29,30,31])] qgH
theorem qNh:CtxOK Tryz.prog qGc:=mkC_ok ((qgY _ (qFw _ (qQW _ (qPs _ (qH3 _ (qGN _ (qLa _ (qSq _ (qHf _ (qGO _ qN)))))))))))
def qNl (f:Nat) (x0:Nat) (x1 x2 x3:Int) (x4:Nat) (x5 x6:Int) (x7:Nat) (x8 x9:Int) (x10 x11:LI) (x12:Int) (x13 x14:LL) (x15 x16:Int) (x17:Nat) (x18:LL) (x19 x20:Int) (x21:Nat) (x22:LI) (x23:Nat) (x24:LI):Option (Nat×Int×Nat×Int×Int×LI×LI×Int×LL×LL×Int×Int×Nat×LL×Int×Int×Nat×LI):=qi qGc 1 [0,3,5,6,7,9,10,29,30,31,51,52,53] [0,3,5,6,7,29,30,31] (qI Tryz.f96 9) f ([.s (.ptr 0 0 none 0),.s (.ptr 1 0 none 0),.s (.sl 2 0 x0 true),.s (.i .i64 x1),.s (.ptr 3 0 none 0),.s (.i .i64 x2),.s (.i .i8 x3),.s (.sl 4 0 x4 true),.s (.i .i64 x5),.s (.i .i64 x6),.s (.sl 5 0 x7 true),.s (.i .i64 x8),.s (.i .i64 x9)]) ([.rcells 72 [.arr .i8 81 x10,.arr .i8 16 x11,.one [.i .i8 x12],.rows [.i .u64,.i .u64] 32 x13,.rows [.i .u64,.i .u64] 2 x14],.cells 68 [.one [.i .u64 x15,.i .u64 x16]],.sli 37 false (.rows [.i .i64,.i .i64,.i .i64,.b] x17 x18),.cells 68 [.one [.i .u64 x19,.i .u64 x20]],.sli 3 false (.arr .i64 x21 x22),.sli 3 false (.arr .i64 x23 x24)]) qNk
theorem qgG (f:Nat) (x0:Nat) (x1 x2 x3:Int) (x4:Nat) (x5 x6:Int) (x7:Nat) (x8 x9:Int) (x10 x11:LI) (x12:Int) (x13 x14:LL) (x15 x16:Int) (x17:Nat) (x18:LL) (x19 x20:Int) (x21:Nat) (x22:LI) (x23:Nat) (x24:LI):qNl (f+1) x0 x1 x2 x3 x4 x5 x6 x7 x8 x9 x10 x11 x12 x13 x14 x15 x16 x17 x18 x19 x20 x21 x22 x23 x24=qGe (qNl f) x0 x1 x2 x3 x4 x5 x6 x7 x8 x9 x10 x11 x12 x13 x14 x15 x16 x17 x18 x19 x20 x21 x22 x23 x24:=by kernel_rfl
theorem qUf:∀ f,qNl f=qEl f
 | 0=>rfl
 | f+1=>by funext x0 x1 x2 x3 x4 x5 x6 x7 x8 x9 x10 x11 x12 x13 x14 x15 x16 x17 x18 x19 x20 x21 x22 x23 x24;rw [qgG,qUf f];rfl
def qNj (f:Nat) (x0:Nat) (x1:Int) (x2:Nat) (x3 x4:Int) (x5 x6:LI) (x7:Int) (x8 x9:LL) (x10 x11:Int) (x12:Nat) (x13:LL) (x14 x15:Int) (x16:Nat) (x17:LI):Option (Nat×LI×LI×Int×LL×LL×Nat×LL):=qi qGc 1 [0,3,5,6,7,29,30,31] [5] (qI Tryz.f96 5) f ([.s (.ptr 0 0 none 0),.s (.ptr 1 0 none 0),.s (.sl 2 0 x0 true),.s (.i .i64 x1),.s (.ptr 3 0 none 0),.s (.sl 4 0 x2 true),.s (.i .i64 x3),.s (.i .i64 x4)]) ([.rcells 72 [.arr .i8 81 x5,.arr .i8 16 x6,.one [.i .i8 x7],.rows [.i .u64,.i .u64] 32 x8,.rows [.i .u64,.i .u64] 2 x9],.cells 68 [.one [.i .u64 x10,.i .u64 x11]],.sli 37 false (.rows [.i .i64,.i .i64,.i .i64,.b] x12 x13),.cells 68 [.one [.i .u64 x14,.i .u64 x15]],.sli 3 false (.arr .i64 x16 x17)]) qNi
theorem qgF (f:Nat) (x0:Nat) (x1:Int) (x2:Nat) (x3 x4:Int) (x5 x6:LI) (x7:Int) (x8 x9:LL) (x10 x11:Int) (x12:Nat) (x13:LL) (x14 x15:Int) (x16:Nat) (x17:LI):qNj (f+1) x0 x1 x2 x3 x4 x5 x6 x7 x8 x9 x10 x11 x12 x13 x14 x15 x16 x17=qGd (qNj f) x0 x1 x2 x3 x4 x5 x6 x7 x8 x9 x10 x11 x12 x13 x14 x15 x16 x17:=by kernel_rfl
theorem qUe:∀ f,qNj f=qEk f
 | 0=>rfl
 | f+1=>by funext x0 x1 x2 x3 x4 x5 x6 x7 x8 x9 x10 x11 x12 x13 x14 x15 x16 x17;rw [qgF,qUe f];rfl
theorem qgJ:qe Tryz.prog qGc 1 (qI Tryz.f96 9):=
 qj mixed qNh (qR.of (l':=[]) (by kernel_rfl) trivial) (q:=9) (kin:=[0,3,5,6,7,9,10,29,30,31,51,52,53]) (kout:=[0,3,5,6,7,29,30,31]) (by kernel_rfl) (by kernel_rfl) fun vs objs K r h=>by
  replace h:qNo vs objs K=some r:=h
  unfold qNo at h
  split at h
  ·skip
   obtain ⟨t,h1,h2⟩:=qG h
   rw [<- qUf] at h1
   refine ⟨_,qNk,t,qD,h1,fun e vs' objs' hd=>?_⟩
   unfold qNk at hd;split at hd;(cases hd;exact h2);cases hd
  ·cases h
theorem qgI:qe Tryz.prog qGc 1 (qI Tryz.f96 5):=
 qj mixed qNh (qR.of (l':=[qI Tryz.f96 9]) (by kernel_rfl) ⟨qgJ,trivial⟩) (q:=5) (kin:=[0,3,5,6,7,29,30,31]) (kout:=[5]) (by kernel_rfl) (by kernel_rfl) fun vs objs K r h=>by
  replace h:qNn vs objs K=some r:=h
  unfold qNn at h
  split at h
  ·skip
   obtain ⟨t,h1,h2⟩:=qG h
   rw [<- qUe] at h1
   refine ⟨_,qNi,t,qD,h1,fun e vs' objs' hd=>?_⟩
   unfold qNi at hd;split at hd;(cases hd;exact h2);cases hd
  ·cases h
def qUd:V->List Obj->Option (Nat×Nat×LL):=fun v objs=>match v,objs with
 | .s (.sl 1 0 y0 true),[.sli 37 false (.rows [.i .i64,.i .i64,.i .i64,.b] y1 y2)]=>some (y0,y1,y2)
 | _,_=>none
theorem qgE (x0 x1:Int) (x2 x3:LI) (x4:Int) (x5 x6:LL):fnE qGc Tryz.f96 ([.s (.ptr 0 0 none 0),.agg [.one [.i .u64 x0,.i .u64 x1]]]) ([.rcells 72 [.arr .i8 81 x2,.arr .i8 16 x3,.one [.i .i8 x4],.rows [.i .u64,.i .u64] 32 x5,.rows [.i .u64,.i .u64] 2 x6]]) (qAE 1 qUd)=qGb x0 x1 x2 x3 x4 x5 x6:=by kernel_rfl
def qUc:HA:=fun o vs objs K=>match vs,List.map Obj.toRO objs with
 | [.s (.ptr 0 0 none 0),.agg [.one [.i .u64 x0,.i .u64 x1]]],[.rcells 72 [.arr .i8 81 x2,.arr .i8 16 x3,.one [.i .i8 x4],.rows [.i .u64,.i .u64] 32 x5,.rows [.i .u64,.i .u64] 2 x6]]=>ob (qGb x0 x1 x2 x3 x4 x5 x6) fun z=>K true (.s (.sl 1 0 (z.1) true)) ([.sli 37 false (.rows [.i .i64,.i .i64,.i .i64,.b] (z.2.1) (z.2.2))])
 | _,_=>o 96 vs objs K
def qNm (o:Orc):Orc:=qM 96 (qUc o) o
theorem qUg:OQ Tryz.prog qNm:=fun _ ho=>qQ ho fun vs objs K r h=>by
 unfold qUc at h
 split at h
 ·skip
  have hq:List.map Obj.toRO objs=_:=(by rename_i hq;first | exact hq | assumption)
  obtain ⟨t,h1,h2⟩:=qG h
  refine qAU mixed qNh (m:=1) (fn:=Tryz.f96) (b:=(Tryz.f96).body.getD .skip) (by kernel_rfl) (by kernel_rfl) (by kernel_rfl) hq (by kernel_rfl) (by kernel_rfl) (qR.of (l':=[qI Tryz.f96 5]) (by kernel_rfl) ⟨qgI,trivial⟩) ((qgE _ _ _ _ _ _ _).trans h1) fun v objs' hd=>?_
  unfold qUd at hd;split at hd;(cases hd;exact h2);cases hd
 ·exact ho _ _ _ _ _ h
def qV7:Ctx:=mkC 49 ((qF0 (qHa (qML (qIu (qGQ qL)))))) [] qa
theorem qh2:CtxOK Tryz.prog qV7:=mkC_ok ((qHb _ (qIr _ (qR2 _ (qLb _ (qH3 _ qN))))))
def qV8:V->List Obj->Option (Bool×LI×LI×Int×LL×LL×List (LI×LI)):=fun v objs=>match v,objs with
 | .s (.b y0),[.cells 72 [.arr .i8 81 y1,.arr .i8 16 y2,.one [.i .i8 y3],.rows [.i .u64,.i .u64] 32 y4,.rows [.i .u64,.i .u64] 2 y5],.map false true [.i .i64] [.i .u64,.i .u64] y6]=>some (y0,y1,y2,y3,y4,y5,y6)
 | _,_=>none
theorem qh1 (x0 x1:Int) (x2 x3:Int) (x4:Bool) (x5 x6 x7:Int) (x8:Bool) (x9 x10:LI) (x11:Int) (x12 x13:LL) (x14:List (LI×LI)):fnE qV7 Tryz.f98 ([.agg [.one [.ptr 0 0 none 0,.i .i64 x0,.i .i64 x1,.i .u64 x2,.i .u64 x3,.mp 1,.b x4]],.agg [.one [.i .i64 x5,.i .i64 x6,.i .i64 x7,.b x8]]]) ([.cells 72 [.arr .i8 81 x9,.arr .i8 16 x10,.one [.i .i8 x11],.rows [.i .u64,.i .u64] 32 x12,.rows [.i .u64,.i .u64] 2 x13],.map false true [.i .i64] [.i .u64,.i .u64] x14]) qV8=qG6 x0 x1 x2 x3 x4 x5 x6 x7 x8 x9 x10 x11 x12 x13 x14:=by kernel_rfl
def qV6:HA:=fun o vs objs K=>match vs,objs with
 | [.agg [.one [.ptr 0 0 none 0,.i .i64 x0,.i .i64 x1,.i .u64 x2,.i .u64 x3,.mp 1,.b x4]],.agg [.one [.i .i64 x5,.i .i64 x6,.i .i64 x7,.b x8]]],[.cells 72 [.arr .i8 81 x9,.arr .i8 16 x10,.one [.i .i8 x11],.rows [.i .u64,.i .u64] 32 x12,.rows [.i .u64,.i .u64] 2 x13],.map false true [.i .i64] [.i .u64,.i .u64] x14]=>ob (qG6 x0 x1 x2 x3 x4 x5 x6 x7 x8 x9 x10 x11 x12 x13 x14) fun z=>K false (.s (.b (z.1))) ([.cells 72 [.arr .i8 81 (z.2.1),.arr .i8 16 (z.2.2.1),.one [.i .i8 (z.2.2.2.1)],.rows [.i .u64,.i .u64] 32 (z.2.2.2.2.1),.rows [.i .u64,.i .u64] 2 (z.2.2.2.2.2.1)],.map false true [.i .i64] [.i .u64,.i .u64] (z.2.2.2.2.2.2)])
 | _,_=>o 98 vs objs K
def qOl (o:Orc):Orc:=qM 98 (qV6 o) o
theorem qV9:OQ Tryz.prog qOl:=fun _ ho=>qQ ho fun vs objs K r h=>by
 unfold qV6 at h
 split at h
 ·skip
  obtain ⟨t,h1,h2⟩:=qG h
  refine qd mixed qh2 ((qh1 _ _ _ _ _ _ _ _ _ _ _ _ _ _ _).trans h1) (by kernel_rfl) fun v objs' hd=>?_
  unfold qV8 at hd;split at hd;(cases hd;exact h2);cases hd
 ·exact ho _ _ _ _ _ h
def qSa:Ctx:=mkC 31 (qL) [] qa
theorem qdu:CtxOK Tryz.prog qSa:=mkC_ok (qN)
def qSb:V->List Obj->Option (Int):=fun v objs=>match v,objs with
 | .s (.i .i64 y0),[]=>some (y0)
 | _,_=>none
theorem qdt (x0 x1:Int) (x2 x3:LI) (x4:Int) (x5 x6:LL):fnE qSa Tryz.f101 ([.s (.ptr 0 0 none 0),.s (.i .i64 x0),.s (.i .i64 x1)]) ([.rcells 72 [.arr .i8 81 x2,.arr .i8 16 x3,.one [.i .i8 x4],.rows [.i .u64,.i .u64] 32 x5,.rows [.i .u64,.i .u64] 2 x6]]) (qAE 1 qSb)=qCO x0 x1 x2 x3 x4 x5 x6:=by kernel_rfl
def qSZ:HA:=fun o vs objs K=>match vs,List.map Obj.toRO objs with
 | [.s (.ptr 0 0 none 0),.s (.i .i64 x0),.s (.i .i64 x1)],[.rcells 72 [.arr .i8 81 x2,.arr .i8 16 x3,.one [.i .i8 x4],.rows [.i .u64,.i .u64] 32 x5,.rows [.i .u64,.i .u64] 2 x6]]=>ob (qCO x0 x1 x2 x3 x4 x5 x6) fun y0=>K true (.s (.i .i64 y0)) ([])
 | _,_=>o 101 vs objs K
def qJS (o:Orc):Orc:=qM 101 (qSZ o) o
theorem qMp:OQ Tryz.prog qJS:=fun _ ho=>qQ ho fun vs objs K r h=>by
 unfold qSZ at h
 split at h
 ·skip
  have hq:List.map Obj.toRO objs=_:=(by rename_i hq;first | exact hq | assumption)
  obtain ⟨t,h1,h2⟩:=qG h
  refine qAU mixed qdu (m:=1) (fn:=Tryz.f101) (b:=(Tryz.f101).body.getD .skip) (by kernel_rfl) (by kernel_rfl) (by kernel_rfl) hq (by kernel_rfl) (by kernel_rfl) (qR.of (l':=[]) (by kernel_rfl) trivial) ((qdt _ _ _ _ _ _ _).trans h1) fun v objs' hd=>?_
  unfold qSb at hd;split at hd;(cases hd;exact h2);cases hd
 ·exact ho _ _ _ _ _ h
def qZ3:Ctx:=mkC 6 ((qLV (qIq qL))) [] qa
theorem qmm:CtxOK Tryz.prog qZ3:=mkC_ok ((qQW _ (qLP _ qN)))
def qZ4:V->List Obj->Option (Int×Int):=fun v objs=>match v,objs with
 | .agg [.one [.i .u64 y0,.i .u64 y1]],[]=>some (y0,y1)
 | _,_=>none
theorem qml (x0 x1:Int):fnE qZ3 Tryz.f153 ([.agg [.one [.i .u64 x0,.i .u64 x1]]]) ([]) qZ4=qIs x0 x1:=by kernel_rfl
def qZ2:HA:=fun o vs objs K=>match vs,objs with
 | [.agg [.one [.i .u64 x0,.i .u64 x1]]],[]=>ob (qIs x0 x1) fun z=>K false (.agg [.one [.i .u64 (z.1),.i .u64 (z.2)]]) ([])
 | _,_=>o 153 vs objs K
def qZ5 (o:Orc):Orc:=qM 153 (qZ2 o) o
theorem qmn:OQ Tryz.prog qZ5:=fun _ ho=>qQ ho fun vs objs K r h=>by
 unfold qZ2 at h
 split at h
 ·skip
  obtain ⟨t,h1,h2⟩:=qG h
  refine qd mixed qmm ((qml _ _).trans h1) (by kernel_rfl) fun v objs' hd=>?_
  unfold qZ4 at hd;split at hd;(cases hd;exact h2);cases hd
 ·exact ho _ _ _ _ _ h
end
end Go.Kk.KkLN
