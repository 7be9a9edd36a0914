/- Printed by a tool of this project (KkGen): the program's functions come to the plain ones. -/
import Derived.Test.YthklalefbhbhmaaGreatDoorKkGT
namespace Go.Kk.KkGT
noncomputable section
open Go.Proofs Go.Kk.Pl
set_option maxRecDepth 100000
set_option maxHeartbeats 4000000
def qpe:Ctx:=mkC 6 (qK) [] qV
theorem qpf:CtxOK Tryz.prog qpe:=mkC_ok (qM)
def qb3:V->List Obj->Option (Bool):=fun v objs=>match v,objs with
 | .s (.b y0),[]=>some (y0)
 | _,_=>none
def qb2:HA:=fun o vs objs K=>match vs,objs with
 | [.agg [.one [.i .u64 x0,.i .u64 x1]]],[]=>ob (qFe x0 x1) fun y0=>K false (.s (.b y0)) ([])
 | _,_=>o 80 vs objs K
def qIF (o:Orc):Orc:=qL 80 (qb2 o) o
theorem qJe:OQ Tryz.prog qIF:=fun _ ho=>qN ho fun vs objs K r h=>by
 unfold qb2 at h
 split at h
 ·obtain⟨t,h1,h2⟩:=qE h
  refine qd mixed qpf (D:=qb3) (fn:=Tryz.f80) (Eq.trans (by kernel_rfl) h1) (by kernel_rfl) fun v objs' hd=>?_
  unfold qb3 at hd;split at hd;(cases hd;exact h2);cases hd
 ·exact ho _ _ _ _ _ h
def qpk:Ctx:=mkC 11 ((qIF (qFd (qMG qK)))) [] qV
theorem qpl:CtxOK Tryz.prog qpk:=mkC_ok ((qJe _ (qGZ _ (qSR _ qM))))
def qcA:V->List Obj->Option (Bool):=fun v objs=>match v,objs with
 | .s (.b y0),[]=>some (y0)
 | _,_=>none
def qb9:HA:=fun o vs objs K=>match vs,objs with
 | [.agg [.one [.i .u64 x0,.i .u64 x1]],.s (.i .i64 x2)],[]=>ob (qCm x0 x1 x2) fun y0=>K false (.s (.b y0)) ([])
 | _,_=>o 117 vs objs K
def qGa (o:Orc):Orc:=qL 117 (qb9 o) o
theorem qIH:OQ Tryz.prog qGa:=fun _ ho=>qN ho fun vs objs K r h=>by
 unfold qb9 at h
 split at h
 ·obtain⟨t,h1,h2⟩:=qE h
  refine qd mixed qpl (D:=qcA) (fn:=Tryz.f117) (Eq.trans (by kernel_rfl) h1) (by kernel_rfl) fun v objs' hd=>?_
  unfold qcA at hd;split at hd;(cases hd;exact h2);cases hd
 ·exact ho _ _ _ _ _ h
def qQP:Ex->List V->List Obj->Option (Int×Int×Int×Int):=fun e vs objs=>match e,vs,objs with
 | .exit 0,[.s (.ptr 0 0 none 0),.s (.ptr 1 0 none 0)],[.cells 83 [.one [.i .u64 y0,.i .u64 y1]],.cells 83 [.one [.i .u64 y2,.i .u64 y3]]]=>some (y0,y1,y2,y3)
 | _,_,_=>none
def qQS:HL:=fun vs objs K=>match vs,objs with
 | [.s (.i .i64 x0),.s (.ptr 0 0 none 0),.s (.ptr 1 0 none 0),.s (.ptr 2 0 none 0),.s (.ptr 3 0 none 0)],[.cells 147 [.one [.i .i64 x1,.i .i64 x2]],.cells 83 [.one [.i .u64 x3,.i .u64 x4]],.cells 83 [.one [.i .u64 x5,.i .u64 x6]],.cells 83 [.one [.i .u64 x7,.i .u64 x8]]]=>ob (qGM qC x0 x1 x2 x3 x4 x5 x6 x7 x8) fun (z0,z1,z2,z3)=>K (.exit 0) ([.s (.ptr 0 0 none 0),.s (.ptr 1 0 none 0)]) ([.cells 83 [.one [.i .u64 z0,.i .u64 z1]],.cells 83 [.one [.i .u64 z2,.i .u64 z3]]])
 | _,_=>none
def qmk:{R:Type}->Nat->List V->List Obj->(Ex->List V->List Obj->Option R)->Option R:=fun q vs objs K=>bif Nat.beq q 5 then qQS vs objs K else none
def qQO:Ctx:=mkC 27 ((qGa (qEV (qSX qK)))) [(5,[0,4,5,6,7],[6,7])] qmk
theorem qZU:CtxOK Tryz.prog qQO:=mkC_ok ((qIH _ (qFh _ (qcz _ qM))))
def qQQ (f:Nat) (x0 x1:Int) (x2 x3:Int) (x4 x5:Int) (x6 x7 x8:Int):Option (Int×Int×Int×Int):=qh qQO 0 [0,4,5,6,7] [6,7] (qF Tryz.f125 5) f ([.s (.i .i64 x0),.s (.ptr 0 0 none 0),.s (.ptr 1 0 none 0),.s (.ptr 2 0 none 0),.s (.ptr 3 0 none 0)]) ([.cells 147 [.one [.i .i64 x1,.i .i64 x2]],.cells 83 [.one [.i .u64 x3,.i .u64 x4]],.cells 83 [.one [.i .u64 x5,.i .u64 x6]],.cells 83 [.one [.i .u64 x7,.i .u64 x8]]]) qQP
theorem qmj (f:Nat) (x0 x1:Int) (x2 x3:Int) (x4 x5:Int) (x6 x7 x8:Int):qQQ (f+1) x0 x1 x2 x3 x4 x5 x6 x7 x8=qHs (qQQ f) x0 x1 x2 x3 x4 x5 x6 x7 x8:=by kernel_rfl
theorem qZW:∀ f,qQQ f=qGM f
 | 0=>rfl
 | f+1=>by funext x0 x1 x2 x3 x4 x5 x6 x7 x8;rw[qmj,qZW f];rfl
theorem qml:qe Tryz.prog qQO 0 (qF Tryz.f125 5):=
 qj mixed qZU (qP.of (l':=[]) (by kernel_rfl) trivial) (q:=5) (kin:=[0,4,5,6,7]) (kout:=[6,7]) (by kernel_rfl) (by kernel_rfl) fun vs objs K r h=>by
  replace h:qQS vs objs K=some r:=h
  unfold qQS at h
  split at h
  ·obtain⟨t,h1,h2⟩:=qE h
   rw[<- qZW] at h1
   refine⟨_,qQP,t,qC,h1,fun e vs' objs' hd=>?_⟩
   unfold qQP at hd;split at hd;(cases hd;exact h2);cases hd
  ·cases h
def qZV:V->List Obj->Option (Int×Int):=fun v objs=>match v,objs with
 | .agg [.one [.i .u64 y0,.i .u64 y1]],[]=>some (y0,y1)
 | _,_=>none
def qZT:HA:=fun o vs objs K=>match vs,objs with
 | [.s (.i .i64 x0),.agg [.one [.i .i64 x1,.i .i64 x2]],.agg [.one [.i .u64 x3,.i .u64 x4]]],[]=>ob (qJM x0 x1 x2 x3 x4) fun (z0,z1)=>K false (.agg [.one [.i .u64 z0,.i .u64 z1]]) ([])
 | _,_=>o 125 vs objs K
def qQR (o:Orc):Orc:=qL 125 (qZT o) o
theorem qZX:OQ Tryz.prog qQR:=fun _ ho=>qN ho fun vs objs K r h=>by
 unfold qZT at h
 split at h
 ·obtain⟨t,h1,h2⟩:=qE h
  refine qAQ mixed qZU (D:=qZV) (fn:=Tryz.f125) (Eq.trans (by kernel_rfl) h1) (by kernel_rfl) (m:=0) rfl (qP.of (l':=[qF Tryz.f125 5]) (by kernel_rfl) ⟨qml,trivial⟩) fun v objs' hd=>?_
  unfold qZV at hd;split at hd;(cases hd;exact h2);cases hd
 ·exact ho _ _ _ _ _ h
def qQK:Ex->List V->List Obj->Option (Int×Int×Int×Int):=fun e vs objs=>match e,vs,objs with
 | .exit 0,[.s (.ptr 0 0 none 0),.s (.ptr 1 0 none 0)],[.cells 83 [.one [.i .u64 y0,.i .u64 y1]],.cells 83 [.one [.i .u64 y2,.i .u64 y3]]]=>some (y0,y1,y2,y3)
 | _,_,_=>none
def qQN:HL:=fun vs objs K=>match vs,objs with
 | [.s (.i .i8 x0),.s (.i .i64 x1),.s (.ptr 0 0 none 0),.s (.ptr 1 0 none 0),.s (.ptr 2 0 none 0),.s (.sl 3 0 x2 true),.s (.i .i64 x3),.s (.i .i64 x4)],[.cells 83 [.one [.i .u64 x5,.i .u64 x6]],.cells 83 [.one [.i .u64 x7,.i .u64 x8]],.cells 83 [.one [.i .u64 x9,.i .u64 x10]],.sli 147 false (.rows [.i .i64,.i .i64] x11 x12)]=>ob (qFN qC x0 x1 x2 x3 x4 x5 x6 x7 x8 x9 x10 x11 x12) fun (z0,z1,z2,z3)=>K (.exit 0) ([.s (.ptr 0 0 none 0),.s (.ptr 1 0 none 0)]) ([.cells 83 [.one [.i .u64 z0,.i .u64 z1]],.cells 83 [.one [.i .u64 z2,.i .u64 z3]]])
 | _,_=>none
def qmh:{R:Type}->Nat->List V->List Obj->(Ex->List V->List Obj->Option R)->Option R:=fun q vs objs K=>bif Nat.beq q 3 then qQN vs objs K else none
def qQJ:Ctx:=mkC 32 ((qGc (qQR (qSY (qFK (qQI (qDI (qdC qK)))))))) [(3,[0,1,5,6,7,15,16,17],[6,7])] qmh
theorem qZQ:CtxOK Tryz.prog qQJ:=mkC_ok ((qIJ _ (qZX _ (qc2 _ (qGI _ (qZO _ (qDo _ (qqu _ qM))))))))
def qQL (f:Nat) (x0 x1:Int) (x2:Nat) (x3 x4:Int) (x5 x6:Int) (x7 x8:Int) (x9 x10:Int) (x11:Nat) (x12:LL):Option (Int×Int×Int×Int):=qh qQJ 0 [0,1,5,6,7,15,16,17] [6,7] (qF Tryz.f114 3) f ([.s (.i .i8 x0),.s (.i .i64 x1),.s (.ptr 0 0 none 0),.s (.ptr 1 0 none 0),.s (.ptr 2 0 none 0),.s (.sl 3 0 x2 true),.s (.i .i64 x3),.s (.i .i64 x4)]) ([.cells 83 [.one [.i .u64 x5,.i .u64 x6]],.cells 83 [.one [.i .u64 x7,.i .u64 x8]],.cells 83 [.one [.i .u64 x9,.i .u64 x10]],.sli 147 false (.rows [.i .i64,.i .i64] x11 x12)]) qQK
theorem qmg (f:Nat) (x0 x1:Int) (x2:Nat) (x3 x4:Int) (x5 x6:Int) (x7 x8:Int) (x9 x10:Int) (x11:Nat) (x12:LL):qQL (f+1) x0 x1 x2 x3 x4 x5 x6 x7 x8 x9 x10 x11 x12=qHr (qQL f) x0 x1 x2 x3 x4 x5 x6 x7 x8 x9 x10 x11 x12:=by kernel_rfl
theorem qZS:∀ f,qQL f=qFN f
 | 0=>rfl
 | f+1=>by funext x0 x1 x2 x3 x4 x5 x6 x7 x8 x9 x10 x11 x12;rw[qmg,qZS f];rfl
theorem qmi:qe Tryz.prog qQJ 0 (qF Tryz.f114 3):=
 qj mixed qZQ (qP.of (l':=[]) (by kernel_rfl) trivial) (q:=3) (kin:=[0,1,5,6,7,15,16,17]) (kout:=[6,7]) (by kernel_rfl) (by kernel_rfl) fun vs objs K r h=>by
  replace h:qQN vs objs K=some r:=h
  unfold qQN at h
  split at h
  ·obtain⟨t,h1,h2⟩:=qE h
   rw[<- qZS] at h1
   refine⟨_,qQK,t,qC,h1,fun e vs' objs' hd=>?_⟩
   unfold qQK at hd;split at hd;(cases hd;exact h2);cases hd
  ·cases h
def qZR:V->List Obj->Option (Int×Int):=fun v objs=>match v,objs with
 | .agg [.one [.i .u64 y0,.i .u64 y1]],[]=>some (y0,y1)
 | _,_=>none
def qZP:HA:=fun o vs objs K=>match vs,objs with
 | [.s (.i .i8 x0),.s (.i .i64 x1),.agg [.one [.i .u64 x2,.i .u64 x3]]],[]=>ob (qGL x0 x1 x2 x3) fun (z0,z1)=>K false (.agg [.one [.i .u64 z0,.i .u64 z1]]) ([])
 | _,_=>o 114 vs objs K
def qLe (o:Orc):Orc:=qL 114 (qZP o) o
theorem qQM:OQ Tryz.prog qLe:=fun _ ho=>qN ho fun vs objs K r h=>by
 unfold qZP at h
 split at h
 ·obtain⟨t,h1,h2⟩:=qE h
  refine qAQ mixed qZQ (D:=qZR) (fn:=Tryz.f114) (Eq.trans (by kernel_rfl) h1) (by kernel_rfl) (m:=0) rfl (qP.of (l':=[qF Tryz.f114 3]) (by kernel_rfl) ⟨qmi,trivial⟩) fun v objs' hd=>?_
  unfold qZR at hd;split at hd;(cases hd;exact h2);cases hd
 ·exact ho _ _ _ _ _ h
def qMk:Ex->List V->List Obj->Option (LI×LI×Int×LL×LL×Int×Int×Int×Int):=fun e vs objs=>match e,vs,objs with
 | .exit 0,[.s (.ptr 1 0 none 0),.s (.ptr 2 0 none 0)],[.rcells 87 [.arr .i8 81 y0,.arr .i8 16 y1,.one [.i .i8 y2],.rows [.i .u64,.i .u64] 32 y3,.rows [.i .u64,.i .u64] 2 y4],.cells 83 [.one [.i .u64 y5,.i .u64 y6]],.cells 83 [.one [.i .u64 y7,.i .u64 y8]]]=>some (y0,y1,y2,y3,y4,y5,y6,y7,y8)
 | _,_,_=>none
def qMn:HL:=fun vs objs K=>match vs,objs with
 | [.s (.ptr 0 0 none 0),.s (.i .i64 x0),.s (.i .i64 x1),.s (.ptr 1 0 none 0),.s (.ptr 2 0 none 0),.s (.ptr 3 0 none 0),.s (.i .i64 x2)],[.rcells 87 [.arr .i8 81 x3,.arr .i8 16 x4,.one [.i .i8 x5],.rows [.i .u64,.i .u64] 32 x6,.rows [.i .u64,.i .u64] 2 x7],.cells 83 [.one [.i .u64 x8,.i .u64 x9]],.cells 83 [.one [.i .u64 x10,.i .u64 x11]],.cells 83 [.one [.i .u64 x12,.i .u64 x13]]]=>ob (qEA qC x0 x1 x2 x3 x4 x5 x6 x7 x8 x9 x10 x11 x12 x13) fun (z0,z1,z2,z3,z4,z5,z6,z7,z8)=>K (.exit 0) ([.s (.ptr 1 0 none 0),.s (.ptr 2 0 none 0)]) ([.rcells 87 [.arr .i8 81 z0,.arr .i8 16 z1,.one [.i .i8 z2],.rows [.i .u64,.i .u64] 32 z3,.rows [.i .u64,.i .u64] 2 z4],.cells 83 [.one [.i .u64 z5,.i .u64 z6]],.cells 83 [.one [.i .u64 z7,.i .u64 z8]]])
 | _,_=>none
def qeK:{R:Type}->Nat->List V->List Obj->(Ex->List V->List Obj->Option R)->Option R:=fun q vs objs K=>bif Nat.beq q 5 then qMn vs objs K else none
def qMj:Ctx:=mkC 49 ((qGc (qFd (qFp (qLe (qFJ qK)))))) [(5,[0,1,2,7,8,9,10],[8,9])] qeK
theorem qTQ:CtxOK Tryz.prog qMj:=mkC_ok ((qIJ _ (qGZ _ (qG1 _ (qQM _ (qGH _ qM))))))
def qMl (f:Nat) (x0 x1 x2:Int) (x3 x4:LI) (x5:Int) (x6 x7:LL) (x8 x9:Int) (x10 x11:Int) (x12 x13:Int):Option (LI×LI×Int×LL×LL×Int×Int×Int×Int):=qh qMj 1 [0,1,2,7,8,9,10] [8,9] (qF Tryz.f102 5) f ([.s (.ptr 0 0 none 0),.s (.i .i64 x0),.s (.i .i64 x1),.s (.ptr 1 0 none 0),.s (.ptr 2 0 none 0),.s (.ptr 3 0 none 0),.s (.i .i64 x2)]) ([.rcells 87 [.arr .i8 81 x3,.arr .i8 16 x4,.one [.i .i8 x5],.rows [.i .u64,.i .u64] 32 x6,.rows [.i .u64,.i .u64] 2 x7],.cells 83 [.one [.i .u64 x8,.i .u64 x9]],.cells 83 [.one [.i .u64 x10,.i .u64 x11]],.cells 83 [.one [.i .u64 x12,.i .u64 x13]]]) qMk
theorem qeJ (f:Nat) (x0 x1 x2:Int) (x3 x4:LI) (x5:Int) (x6 x7:LL) (x8 x9:Int) (x10 x11:Int) (x12 x13:Int):qMl (f+1) x0 x1 x2 x3 x4 x5 x6 x7 x8 x9 x10 x11 x12 x13=qGr (qMl f) x0 x1 x2 x3 x4 x5 x6 x7 x8 x9 x10 x11 x12 x13:=by kernel_rfl
theorem qTS:∀ f,qMl f=qEA f
 | 0=>rfl
 | f+1=>by funext x0 x1 x2 x3 x4 x5 x6 x7 x8 x9 x10 x11 x12 x13;rw[qeJ,qTS f];rfl
theorem qeL:qe Tryz.prog qMj 1 (qF Tryz.f102 5):=
 qj mixed qTQ (qP.of (l':=[]) (by kernel_rfl) trivial) (q:=5) (kin:=[0,1,2,7,8,9,10]) (kout:=[8,9]) (by kernel_rfl) (by kernel_rfl) fun vs objs K r h=>by
  replace h:qMn vs objs K=some r:=h
  unfold qMn at h
  split at h
  ·obtain⟨t,h1,h2⟩:=qE h
   rw[<- qTS] at h1
   refine⟨_,qMk,t,qC,h1,fun e vs' objs' hd=>?_⟩
   unfold qMk at hd;split at hd;(cases hd;exact h2);cases hd
  ·cases h
def qTR:V->List Obj->Option (Int×Int):=fun v objs=>match v,objs with
 | .agg [.one [.i .u64 y0,.i .u64 y1]],[]=>some (y0,y1)
 | _,_=>none
def qTP:HA:=fun o vs objs K=>match vs,List.map Obj.toRO objs with
 | [.s (.ptr 0 0 none 0),.s (.i .i64 x0),.s (.i .i64 x1),.agg [.one [.i .u64 x2,.i .u64 x3]]],[.rcells 87 [.arr .i8 81 x4,.arr .i8 16 x5,.one [.i .i8 x6],.rows [.i .u64,.i .u64] 32 x7,.rows [.i .u64,.i .u64] 2 x8]]=>ob (qIc x0 x1 x2 x3 x4 x5 x6 x7 x8) fun (z0,z1)=>K true (.agg [.one [.i .u64 z0,.i .u64 z1]]) ([])
 | _,_=>o 102 vs objs K
def qMm (o:Orc):Orc:=qL 102 (qTP o) o
theorem qTT:OQ Tryz.prog qMm:=fun _ ho=>qN ho fun vs objs K r h=>by
 unfold qTP at h
 split at h
 ·have hq:List.map Obj.toRO objs=_:=(by rename_i hq;first | exact hq | assumption)
  obtain⟨t,h1,h2⟩:=qE h
  refine qAs mixed qTQ (D:=qTR) (m:=1) (fn:=Tryz.f102) (by kernel_rfl) hq (by kernel_rfl) (by kernel_rfl) (qP.of (l':=[qF Tryz.f102 5]) (by kernel_rfl) ⟨qeL,trivial⟩) (Eq.trans (by kernel_rfl) h1) fun v objs' hd=>?_
  unfold qTR at hd;split at hd;(cases hd;exact h2);cases hd
 ·exact ho _ _ _ _ _ h
def qeE:Ctx:=mkC 14 ((qMm (qG4 (qKG qK)))) [] qV
theorem qeF:CtxOK Tryz.prog qeE:=mkC_ok ((qTT _ (qIj _ (qNG _ qM))))
def qTK:V->List Obj->Option (Int×Int):=fun v objs=>match v,objs with
 | .agg [.one [.i .u64 y0,.i .u64 y1]],[]=>some (y0,y1)
 | _,_=>none
def qTJ:HA:=fun o vs objs K=>match vs,List.map Obj.toRO objs with
 | [.s (.ptr 0 0 none 0),.s (.i .i64 x0)],[.rcells 87 [.arr .i8 81 x1,.arr .i8 16 x2,.one [.i .i8 x3],.rows [.i .u64,.i .u64] 32 x4,.rows [.i .u64,.i .u64] 2 x5]]=>ob (qGq x0 x1 x2 x3 x4 x5) fun (z0,z1)=>K true (.agg [.one [.i .u64 z0,.i .u64 z1]]) ([])
 | _,_=>o 79 vs objs K
def qJ8 (o:Orc):Orc:=qL 79 (qTJ o) o
theorem qMh:OQ Tryz.prog qJ8:=fun _ ho=>qN ho fun vs objs K r h=>by
 unfold qTJ at h
 split at h
 ·have hq:List.map Obj.toRO objs=_:=(by rename_i hq;first | exact hq | assumption)
  obtain⟨t,h1,h2⟩:=qE h
  refine qAs mixed qeF (D:=qTK) (m:=1) (fn:=Tryz.f79) (by kernel_rfl) hq (by kernel_rfl) (by kernel_rfl) (qP.of (l':=[]) (by kernel_rfl) trivial) (Eq.trans (by kernel_rfl) h1) fun v objs' hd=>?_
  unfold qTK at hd;split at hd;(cases hd;exact h2);cases hd
 ·exact ho _ _ _ _ _ h
def qeH:Ctx:=mkC 10 ((qIF (qJ8 qK))) [] qV
theorem qeI:CtxOK Tryz.prog qeH:=mkC_ok ((qJe _ (qMh _ qM)))
def qTN:V->List Obj->Option (Bool):=fun v objs=>match v,objs with
 | .s (.b y0),[]=>some (y0)
 | _,_=>none
def qTM:HA:=fun o vs objs K=>match vs,List.map Obj.toRO objs with
 | [.s (.ptr 0 0 none 0),.s (.i .i64 x0)],[.rcells 87 [.arr .i8 81 x1,.arr .i8 16 x2,.one [.i .i8 x3],.rows [.i .u64,.i .u64] 32 x4,.rows [.i .u64,.i .u64] 2 x5]]=>ob (qIb x0 x1 x2 x3 x4 x5) fun y0=>K true (.s (.b y0)) ([])
 | _,_=>o 49 vs objs K
def qMi (o:Orc):Orc:=qL 49 (qTM o) o
theorem qTO:OQ Tryz.prog qMi:=fun _ ho=>qN ho fun vs objs K r h=>by
 unfold qTM at h
 split at h
 ·have hq:List.map Obj.toRO objs=_:=(by rename_i hq;first | exact hq | assumption)
  obtain⟨t,h1,h2⟩:=qE h
  refine qAs mixed qeI (D:=qTN) (m:=1) (fn:=Tryz.f49) (by kernel_rfl) hq (by kernel_rfl) (by kernel_rfl) (qP.of (l':=[]) (by kernel_rfl) trivial) (Eq.trans (by kernel_rfl) h1) fun v objs' hd=>?_
  unfold qTN at hd;split at hd;(cases hd;exact h2);cases hd
 ·exact ho _ _ _ _ _ h
def qeC:Ctx:=mkC 16 ((qMi (qKH (qTq qK)))) [] qV
theorem qeD:CtxOK Tryz.prog qeC:=mkC_ok ((qTO _ (qNK _ (qev _ qM))))
def qTI:V->List Obj->Option (Int):=fun v objs=>match v,objs with
 | .s (.i .i64 y0),[]=>some (y0)
 | _,_=>none
def qTH:HA:=fun o vs objs K=>match vs,objs with
 | [.agg [.arr .i8 81 x0,.arr .i8 16 x1,.one [.i .i8 x2]]],[]=>ob (qJ7 x0 x1 x2) fun y0=>K false (.s (.i .i64 y0)) ([])
 | _,_=>o 25 vs objs K
def qTL (o:Orc):Orc:=qL 25 (qTH o) o
theorem qeG:OQ Tryz.prog qTL:=fun _ ho=>qN ho fun vs objs K r h=>by
 unfold qTH at h
 split at h
 ·obtain⟨t,h1,h2⟩:=qE h
  refine qd mixed qeD (D:=qTI) (fn:=Tryz.f25) (Eq.trans (by kernel_rfl) h1) (by kernel_rfl) fun v objs' hd=>?_
  unfold qTI at hd;split at hd;(cases hd;exact h2);cases hd
 ·exact ho _ _ _ _ _ h
def qi8:Ctx:=mkC 19 (qK) [] qV
theorem qi9:CtxOK Tryz.prog qi8:=mkC_ok (qM)
def qXK:V->List Obj->Option (Int):=fun v objs=>match v,objs with
 | .s (.i .u64 y0),[]=>some (y0)
 | _,_=>none
def qXJ:HA:=fun o vs objs K=>match vs,objs with
 | [.s (.i .u64 x0)],[]=>ob (qEH x0) fun y0=>K false (.s (.i .u64 y0)) ([])
 | _,_=>o 107 vs objs K
def qKx (o:Orc):Orc:=qL 107 (qXJ o) o
theorem qO7:OQ Tryz.prog qKx:=fun _ ho=>qN ho fun vs objs K r h=>by
 unfold qXJ at h
 split at h
 ·obtain⟨t,h1,h2⟩:=qE h
  refine qd mixed qi9 (D:=qXK) (fn:=Tryz.f107) (Eq.trans (by kernel_rfl) h1) (by kernel_rfl) fun v objs' hd=>?_
  unfold qXK at hd;split at hd;(cases hd;exact h2);cases hd
 ·exact ho _ _ _ _ _ h
def qi4:Ctx:=mkC 23 ((qKx (qDI qK))) [] qV
theorem qi5:CtxOK Tryz.prog qi4:=mkC_ok ((qO7 _ (qDo _ qM)))
def qXE:V->List Obj->Option (Int):=fun v objs=>match v,objs with
 | .s (.i .u64 y0),[]=>some (y0)
 | _,_=>none
def qXD:HA:=fun o vs objs K=>match vs,objs with
 | [.s (.i .i64 x0),.s (.i .i8 x1)],[]=>ob (qCe x0 x1) fun y0=>K false (.s (.i .u64 y0)) ([])
 | _,_=>o 82 vs objs K
def qO5 (o:Orc):Orc:=qL 82 (qXD o) o
theorem qXF:OQ Tryz.prog qO5:=fun _ ho=>qN ho fun vs objs K r h=>by
 unfold qXD at h
 split at h
 ·obtain⟨t,h1,h2⟩:=qE h
  refine qd mixed qi5 (D:=qXE) (fn:=Tryz.f82) (Eq.trans (by kernel_rfl) h1) (by kernel_rfl) fun v objs' hd=>?_
  unfold qXE at hd;split at hd;(cases hd;exact h2);cases hd
 ·exact ho _ _ _ _ _ h
def qiu:Ctx:=mkC 41 ((qKx qK)) [] qV
theorem qiv:CtxOK Tryz.prog qiu:=mkC_ok ((qO7 _ qM))
def qW5:V->List Obj->Option (Int):=fun v objs=>match v,objs with
 | .s (.i .u64 y0),[]=>some (y0)
 | _,_=>none
def qW4:HA:=fun o vs objs K=>match vs,objs with
 | [.s (.i .i64 x0),.s (.i .i64 x1),.s (.i .i64 x2)],[]=>ob (qDD x0 x1 x2) fun y0=>K false (.s (.i .u64 y0)) ([])
 | _,_=>o 83 vs objs K
def qOv (o:Orc):Orc:=qL 83 (qW4 o) o
theorem qW6:OQ Tryz.prog qOv:=fun _ ho=>qN ho fun vs objs K r h=>by
 unfold qW4 at h
 split at h
 ·obtain⟨t,h1,h2⟩:=qE h
  refine qd mixed qiv (D:=qW5) (fn:=Tryz.f83) (Eq.trans (by kernel_rfl) h1) (by kernel_rfl) fun v objs' hd=>?_
  unfold qW5 at hd;split at hd;(cases hd;exact h2);cases hd
 ·exact ho _ _ _ _ _ h
def qi6:Ctx:=mkC 2 ((qKx qK)) [] qV
theorem qi7:CtxOK Tryz.prog qi6:=mkC_ok ((qO7 _ qM))
def qXH:V->List Obj->Option (Int):=fun v objs=>match v,objs with
 | .s (.i .u64 y0),[]=>some (y0)
 | _,_=>none
def qXG:HA:=fun o vs objs K=>match vs,objs with
 | [],[]=>ob (qDE ) fun y0=>K false (.s (.i .u64 y0)) ([])
 | _,_=>o 84 vs objs K
def qO6 (o:Orc):Orc:=qL 84 (qXG o) o
theorem qXI:OQ Tryz.prog qO6:=fun _ ho=>qN ho fun vs objs K r h=>by
 unfold qXG at h
 split at h
 ·obtain⟨t,h1,h2⟩:=qE h
  refine qd mixed qi7 (D:=qXH) (fn:=Tryz.f84) (Eq.trans (by kernel_rfl) h1) (by kernel_rfl) fun v objs' hd=>?_
  unfold qXH at hd;split at hd;(cases hd;exact h2);cases hd
 ·exact ho _ _ _ _ _ h
def qOy:Ex->List V->List Obj->Option (Int×LI×LI×Int):=fun e vs objs=>match e,vs,objs with
 | .exit 0,[.s (.ptr 0 0 none 0),.s (.i .u64 y0)],[.cells 28 [.arr .i8 81 y1,.arr .i8 16 y2,.one [.i .i8 y3]]]=>some (y0,y1,y2,y3)
 | _,_,_=>none
def qOw:Ex->List V->List Obj->Option (Int×LI×Int×LI×LI×Int):=fun e vs objs=>match e,vs,objs with
 | .exit 4,[.s (.ptr 0 0 none 0),.s (.i .u64 y0),.agg [.arr .i8 16 y1],.s (.i .i64 y2)],[.cells 28 [.arr .i8 81 y3,.arr .i8 16 y4,.one [.i .i8 y5]]]=>some (y0,y1,y2,y3,y4,y5)
 | _,_,_=>none
def qO0:Ex->List V->List Obj->Option (Int×LI×LI×Int):=fun e vs objs=>match e,vs,objs with
 | .exit 2,[.s (.ptr 0 0 none 0),.s (.i .u64 y0)],[.cells 28 [.arr .i8 81 y1,.arr .i8 16 y2,.one [.i .i8 y3]]]=>some (y0,y1,y2,y3)
 | _,_,_=>none
def qO3:HL:=fun vs objs K=>match vs,objs with
 | [.s (.ptr 0 0 none 0),.s (.i .u64 x0),.agg [.arr .i8 81 x1],.s (.i .i64 x2)],[.cells 28 [.arr .i8 81 x3,.arr .i8 16 x4,.one [.i .i8 x5]]]=>ob (qCd qC x0 x1 x2 x3 x4 x5) fun (z0,z1,z2,z3)=>K (.exit 0) ([.s (.ptr 0 0 none 0),.s (.i .u64 z0)]) ([.cells 28 [.arr .i8 81 z1,.arr .i8 16 z2,.one [.i .i8 z3]]])
 | _,_=>none
def qO2:HL:=fun vs objs K=>match vs,objs with
 | [.s (.ptr 0 0 none 0),.s (.i .u64 x0),.s (.i .i64 x1),.agg [.arr .i8 16 x2],.s (.i .i64 x3),.agg [.arr .i8 8 x4],.s (.i .i64 x5)],[.cells 28 [.arr .i8 81 x6,.arr .i8 16 x7,.one [.i .i8 x8]]]=>ob (qCy qC x0 x1 x2 x3 x4 x5 x6 x7 x8) fun (z0,z1,z2,z3,z4,z5)=>K (.exit 4) ([.s (.ptr 0 0 none 0),.s (.i .u64 z0),.agg [.arr .i8 16 z1],.s (.i .i64 z2)]) ([.cells 28 [.arr .i8 81 z3,.arr .i8 16 z4,.one [.i .i8 z5]]])
 | _,_=>none
def qO4:HL:=fun vs objs K=>match vs,objs with
 | [.s (.ptr 0 0 none 0),.s (.i .u64 x0),.agg [.arr .i8 16 x1],.s (.i .i64 x2)],[.cells 28 [.arr .i8 81 x3,.arr .i8 16 x4,.one [.i .i8 x5]]]=>ob (qB3 qC x0 x1 x2 x3 x4 x5) fun (z0,z1,z2,z3)=>K (.exit 2) ([.s (.ptr 0 0 none 0),.s (.i .u64 z0)]) ([.cells 28 [.arr .i8 81 z1,.arr .i8 16 z2,.one [.i .i8 z3]]])
 | _,_=>none
def qiz:{R:Type}->Nat->List V->List Obj->(Ex->List V->List Obj->Option R)->Option R:=fun q vs objs K=>bif Nat.beq q 3 then qO3 vs objs K else bif Nat.beq q 11 then qO2 vs objs K else bif Nat.beq q 8 then qO4 vs objs K else none
def qF4:Ctx:=mkC 49 ((qO6 (qOv (qO5 qK)))) [(3,[1,3,11,12],[1,3]),(8,[1,3,23,24],[1,3]),(11,[1,3,6,23,24,28,29],[1,3,23,24])] qiz
theorem qKu:CtxOK Tryz.prog qF4:=mkC_ok ((qXI _ (qW6 _ (qXF _ qM))))
def qOz (f:Nat) (x0:Int) (x1:LI) (x2:Int) (x3 x4:LI) (x5:Int):Option (Int×LI×LI×Int):=qh qF4 0 [1,3,11,12] [1,3] (qF Tryz.f51 3) f ([.s (.ptr 0 0 none 0),.s (.i .u64 x0),.agg [.arr .i8 81 x1],.s (.i .i64 x2)]) ([.cells 28 [.arr .i8 81 x3,.arr .i8 16 x4,.one [.i .i8 x5]]]) qOy
theorem qix (f:Nat) (x0:Int) (x1:LI) (x2:Int) (x3 x4:LI) (x5:Int):qOz (f+1) x0 x1 x2 x3 x4 x5=qDl (qOz f) x0 x1 x2 x3 x4 x5:=by kernel_rfl
theorem qXA:∀ f,qOz f=qCd f
 | 0=>rfl
 | f+1=>by funext x0 x1 x2 x3 x4 x5;rw[qix,qXA f];rfl
def qOx (f:Nat) (x0 x1:Int) (x2:LI) (x3:Int) (x4:LI) (x5:Int) (x6 x7:LI) (x8:Int):Option (Int×LI×Int×LI×LI×Int):=qh qF4 0 [1,3,6,23,24,28,29] [1,3,23,24] (qF Tryz.f51 11) f ([.s (.ptr 0 0 none 0),.s (.i .u64 x0),.s (.i .i64 x1),.agg [.arr .i8 16 x2],.s (.i .i64 x3),.agg [.arr .i8 8 x4],.s (.i .i64 x5)]) ([.cells 28 [.arr .i8 81 x6,.arr .i8 16 x7,.one [.i .i8 x8]]]) qOw
theorem qiw (f:Nat) (x0 x1:Int) (x2:LI) (x3:Int) (x4:LI) (x5:Int) (x6 x7:LI) (x8:Int):qOx (f+1) x0 x1 x2 x3 x4 x5 x6 x7 x8=qDk (qOx f) x0 x1 x2 x3 x4 x5 x6 x7 x8:=by kernel_rfl
theorem qW9:∀ f,qOx f=qCy f
 | 0=>rfl
 | f+1=>by funext x0 x1 x2 x3 x4 x5 x6 x7 x8;rw[qiw,qW9 f];rfl
def qO1 (f:Nat) (x0:Int) (x1:LI) (x2:Int) (x3 x4:LI) (x5:Int):Option (Int×LI×LI×Int):=qh qF4 0 [1,3,23,24] [1,3] (qF Tryz.f51 8) f ([.s (.ptr 0 0 none 0),.s (.i .u64 x0),.agg [.arr .i8 16 x1],.s (.i .i64 x2)]) ([.cells 28 [.arr .i8 81 x3,.arr .i8 16 x4,.one [.i .i8 x5]]]) qO0
theorem qiy (f:Nat) (x0:Int) (x1:LI) (x2:Int) (x3 x4:LI) (x5:Int):qO1 (f+1) x0 x1 x2 x3 x4 x5=qDm (qO1 f) x0 x1 x2 x3 x4 x5:=by kernel_rfl
theorem qXB:∀ f,qO1 f=qB3 f
 | 0=>rfl
 | f+1=>by funext x0 x1 x2 x3 x4 x5;rw[qiy,qXB f];rfl
theorem qi2:qe Tryz.prog qF4 0 (qF Tryz.f51 3):=
 qj mixed qKu (qP.of (l':=[]) (by kernel_rfl) trivial) (q:=3) (kin:=[1,3,11,12]) (kout:=[1,3]) (by kernel_rfl) (by kernel_rfl) fun vs objs K r h=>by
  replace h:qO3 vs objs K=some r:=h
  unfold qO3 at h
  split at h
  ·obtain⟨t,h1,h2⟩:=qE h
   rw[<- qXA] at h1
   refine⟨_,qOy,t,qC,h1,fun e vs' objs' hd=>?_⟩
   unfold qOy at hd;split at hd;(cases hd;exact h2);cases hd
  ·cases h
theorem qi1:qe Tryz.prog qF4 0 (qF Tryz.f51 11):=
 qj mixed qKu (qP.of (l':=[]) (by kernel_rfl) trivial) (q:=11) (kin:=[1,3,6,23,24,28,29]) (kout:=[1,3,23,24]) (by kernel_rfl) (by kernel_rfl) fun vs objs K r h=>by
  replace h:qO2 vs objs K=some r:=h
  unfold qO2 at h
  split at h
  ·obtain⟨t,h1,h2⟩:=qE h
   rw[<- qW9] at h1
   refine⟨_,qOw,t,qC,h1,fun e vs' objs' hd=>?_⟩
   unfold qOw at hd;split at hd;(cases hd;exact h2);cases hd
  ·cases h
theorem qi3:qe Tryz.prog qF4 0 (qF Tryz.f51 8):=
 qj mixed qKu (qP.of (l':=[qF Tryz.f51 11]) (by kernel_rfl) ⟨qi1,trivial⟩) (q:=8) (kin:=[1,3,23,24]) (kout:=[1,3]) (by kernel_rfl) (by kernel_rfl) fun vs objs K r h=>by
  replace h:qO4 vs objs K=some r:=h
  unfold qO4 at h
  split at h
  ·obtain⟨t,h1,h2⟩:=qE h
   rw[<- qXB] at h1
   refine⟨_,qO0,t,qC,h1,fun e vs' objs' hd=>?_⟩
   unfold qO0 at hd;split at hd;(cases hd;exact h2);cases hd
  ·cases h
def qW8:V->List Obj->Option (Int):=fun v objs=>match v,objs with
 | .s (.i .u64 y0),[]=>some (y0)
 | _,_=>none
def qW7:HA:=fun o vs objs K=>match vs,objs with
 | [.agg [.arr .i8 81 x0,.arr .i8 16 x1,.one [.i .i8 x2]]],[]=>ob (qFC x0 x1 x2) fun y0=>K false (.s (.i .u64 y0)) ([])
 | _,_=>o 51 vs objs K
def qXC (o:Orc):Orc:=qL 51 (qW7 o) o
theorem qi0:OQ Tryz.prog qXC:=fun _ ho=>qN ho fun vs objs K r h=>by
 unfold qW7 at h
 split at h
 ·obtain⟨t,h1,h2⟩:=qE h
  refine qAQ mixed qKu (D:=qW8) (fn:=Tryz.f51) (Eq.trans (by kernel_rfl) h1) (by kernel_rfl) (m:=0) rfl (qP.of (l':=[qF Tryz.f51 3,qF Tryz.f51 8]) (by kernel_rfl) ⟨qi2,qi3,trivial⟩) fun v objs' hd=>?_
  unfold qW8 at hd;split at hd;(cases hd;exact h2);cases hd
 ·exact ho _ _ _ _ _ h
def qgn:Ctx:=mkC 14 ((qXC (qKH qK))) [] qV
theorem qgo:CtxOK Tryz.prog qgn:=mkC_ok ((qi0 _ (qNK _ qM)))
def qVA:V->List Obj->Option (Int×Nat×LI×LI×Int×LL×LL×Nat×LL):=fun v objs=>match v,objs with
 | .s (.ptr 0 0 none 0),[.cells 80 [.one [.ptr 1 0 none 0,.i .u64 y0,.sl 2 0 y1 true]],.cells 87 [.arr .i8 81 y2,.arr .i8 16 y3,.one [.i .i8 y4],.rows [.i .u64,.i .u64] 32 y5,.rows [.i .u64,.i .u64] 2 y6],.sli 109 false (.rows [.i .i64,.i .i64,.i .i64,.b,.i .i8,.i .i8] y7 y8)]=>some (y0,y1,y2,y3,y4,y5,y6,y7,y8)
 | _,_=>none
def qU9:HA:=fun o vs objs K=>match vs,objs with
 | [.agg [.arr .i8 81 x0,.arr .i8 16 x1,.one [.i .i8 x2]]],[]=>ob (qKS x0 x1 x2) fun (z0,z1,z2,z3,z4,z5,z6,z7,z8)=>K false (.s (.ptr 0 0 none 0)) ([.cells 80 [.one [.ptr 1 0 none 0,.i .u64 z0,.sl 2 0 z1 true]],.cells 87 [.arr .i8 81 z2,.arr .i8 16 z3,.one [.i .i8 z4],.rows [.i .u64,.i .u64] 32 z5,.rows [.i .u64,.i .u64] 2 z6],.sli 109 false (.rows [.i .i64,.i .i64,.i .i64,.b,.i .i8,.i .i8] z7 z8)])
 | _,_=>o 26 vs objs K
def qVB (o:Orc):Orc:=qL 26 (qU9 o) o
theorem qgp:OQ Tryz.prog qVB:=fun _ ho=>qN ho fun vs objs K r h=>by
 unfold qU9 at h
 split at h
 ·obtain⟨t,h1,h2⟩:=qE h
  refine qd mixed qgo (D:=qVA) (fn:=Tryz.f26) (Eq.trans (by kernel_rfl) h1) (by kernel_rfl) fun v objs' hd=>?_
  unfold qVA at hd;split at hd;(cases hd;exact h2);cases hd
 ·exact ho _ _ _ _ _ h
def qgZ:Ctx:=mkC 7 (qK) [] qV
theorem qga:CtxOK Tryz.prog qgZ:=mkC_ok (qM)
def qUv:V->List Obj->Option (Int):=fun v objs=>match v,objs with
 | .s (.i .u64 y0),[]=>some (y0)
 | _,_=>none
def qUu:HA:=fun o vs objs K=>match vs,List.map Obj.toRO objs with
 | [.s (.ptr 0 0 none 0)],[.rcells 80 [.one [.ptr 1 0 none 0,.i .u64 x0,.sl 2 0 x1 true]],.rcells 87 [.arr .i8 81 x2,.arr .i8 16 x3,.one [.i .i8 x4],.rows [.i .u64,.i .u64] 32 x5,.rows [.i .u64,.i .u64] 2 x6],.sli 109 true (.rows [.i .i64,.i .i64,.i .i64,.b,.i .i8,.i .i8] x7 x8)]=>ob (qHC x0 x1 x2 x3 x4 x5 x6 x7 x8) fun y0=>K true (.s (.i .u64 y0)) ([])
 | _,_=>o 52 vs objs K
def qNv (o:Orc):Orc:=qL 52 (qUu o) o
theorem qUw:OQ Tryz.prog qNv:=fun _ ho=>qN ho fun vs objs K r h=>by
 unfold qUu at h
 split at h
 ·have hq:List.map Obj.toRO objs=_:=(by rename_i hq;first | exact hq | assumption)
  obtain⟨t,h1,h2⟩:=qE h
  refine qAs mixed qga (D:=qUv) (m:=3) (fn:=Tryz.f52) (by kernel_rfl) hq (by kernel_rfl) (by kernel_rfl) (qP.of (l':=[]) (by kernel_rfl) trivial) (Eq.trans (by kernel_rfl) h1) fun v objs' hd=>?_
  unfold qUv at hd;split at hd;(cases hd;exact h2);cases hd
 ·exact ho _ _ _ _ _ h
def qOJ:Ex->List V->List Obj->Option (Nat×LI×LI×Int×Nat×Nat×Nat×Int×Int×Int×Nat×Nat×LL×Nat×LL×LL×Nat×List Bool×LI×LI×Int×LL×LL×Nat×LL×LL×Nat×LI):=fun e vs objs=>match e,vs,objs with
 | .exit 0,[.s (.sl 9 0 y0 true)],[.cells 71 [.arr .i8 81 y1,.arr .i8 16 y2,.one [.i .i8 y3],.one [.ptr 1 0 none 0,.sl 2 0 y4 true,.sl 3 0 y5 true,.mp 4,.sl 5 0 y6 true,.i .i64 y7,.i .i64 y8]],.cells 80 [.one [.ptr 6 0 none 0,.i .u64 y9,.sl 7 0 y10 true]],.sli 43 false (.rows [.i .i64,.i .i64,.i .i64,.b] y11 y12),.sli 28 false (.rows kk0 y13 y14),Obj.maps false [.i .u64] y15 8 none,.sli 4 false (Seg.barr y16 y17),.cells 87 [.arr .i8 81 y18,.arr .i8 16 y19,.one [.i .i8 y20],.rows [.i .u64,.i .u64] 32 y21,.rows [.i .u64,.i .u64] 2 y22],.sli 109 false (.rows [.i .i64,.i .i64,.i .i64,.b,.i .i8,.i .i8] y23 y24),Obj.pol 3 (PS.a .i64 y25),.sli 3 false (.arr .i64 y26 y27)]=>bif decide (kk0=kL0) then some (y0,y1,y2,y3,y4,y5,y6,y7,y8,y9,y10,y11,y12,y13,y14,y15,y16,y17,y18,y19,y20,y21,y22,y23,y24,y25,y26,y27) else none
 | _,_,_=>none
def qOL:HL:=fun vs objs K=>match vs,objs with
 | [.s (.ptr 0 0 none 0),.s (.i .i64 x0),.s (.sl 9 0 x1 true),.s (S.vw 8 x2),.s (.i .i64 x3),.s (.i .i64 x4)],[.cells 71 [.arr .i8 81 x5,.arr .i8 16 x6,.one [.i .i8 x7],.one [.ptr 1 0 none 0,.sl 2 0 x8 true,.sl 3 0 x9 true,.mp 4,.sl 5 0 x10 true,.i .i64 x11,.i .i64 x12]],.cells 80 [.one [.ptr 6 0 none 0,.i .u64 x13,.sl 7 0 x14 true]],.sli 43 false (.rows [.i .i64,.i .i64,.i .i64,.b] x15 x16),.sli 28 false (.rows kk0 x17 x18),Obj.maps false [.i .u64] x19 8 none,.sli 4 false (Seg.barr x20 x21),.cells 87 [.arr .i8 81 x22,.arr .i8 16 x23,.one [.i .i8 x24],.rows [.i .u64,.i .u64] 32 x25,.rows [.i .u64,.i .u64] 2 x26],.sli 109 false (.rows [.i .i64,.i .i64,.i .i64,.b,.i .i8,.i .i8] x27 x28),Obj.pol 3 (PS.a .i64 x29),.sli 3 false (.arr .i64 x30 x31)]=>bif decide (kk0=kL0) then ob (qF2 qC x0 x1 x2 x3 x4 x5 x6 x7 x8 x9 x10 x11 x12 x13 x14 x15 x16 x17 x18 x19 x20 x21 x22 x23 x24 x25 x26 x27 x28 x29 x30 x31) fun (z0,z1,z2,z3,z4,z5,z6,z7,z8,z9,z10,z11,z12,z13,z14,z15,z16,z17,z18,z19,z20,z21,z22,z23,z24,z25,z26,z27)=>K (.exit 0) ([.s (.sl 9 0 z0 true)]) ([.cells 71 [.arr .i8 81 z1,.arr .i8 16 z2,.one [.i .i8 z3],.one [.ptr 1 0 none 0,.sl 2 0 z4 true,.sl 3 0 z5 true,.mp 4,.sl 5 0 z6 true,.i .i64 z7,.i .i64 z8]],.cells 80 [.one [.ptr 6 0 none 0,.i .u64 z9,.sl 7 0 z10 true]],.sli 43 false (.rows [.i .i64,.i .i64,.i .i64,.b] z11 z12),.sli 28 false (.rows kL0 z13 z14),Obj.maps false [.i .u64] z15 8 none,.sli 4 false (Seg.barr z16 z17),.cells 87 [.arr .i8 81 z18,.arr .i8 16 z19,.one [.i .i8 z20],.rows [.i .u64,.i .u64] 32 z21,.rows [.i .u64,.i .u64] 2 z22],.sli 109 false (.rows [.i .i64,.i .i64,.i .i64,.b,.i .i8,.i .i8] z23 z24),Obj.pol 3 (PS.a .i64 z25),.sli 3 false (.arr .i64 z26 z27)]) else none
 | _,_=>none
def qhv:{R:Type}->Nat->List V->List Obj->(Ex->List V->List Obj->Option R)->Option R:=fun q vs objs K=>bif Nat.beq q 4 then qOL vs objs K else none
def qOI:Ctx:=mkC 58 ((qNv qK)) [(4,[0,4,5,23,24,25],[5])] qhv
theorem qV8:CtxOK Tryz.prog qOI:=mkC_ok ((qUw _ qM))
def qOK (f:Nat) (x0:Int) (x1 x2:Nat) (x3 x4:Int) (x5 x6:LI) (x7:Int) (x8 x9 x10:Nat) (x11 x12 x13:Int) (x14 x15:Nat) (x16:LL) (x17:Nat) (x18 x19:LL) (x20:Nat) (x21:List Bool) (x22 x23:LI) (x24:Int) (x25 x26:LL) (x27:Nat) (x28 x29:LL) (x30:Nat) (x31:LI):Option (Nat×LI×LI×Int×Nat×Nat×Nat×Int×Int×Int×Nat×Nat×LL×Nat×LL×LL×Nat×List Bool×LI×LI×Int×LL×LL×Nat×LL×LL×Nat×LI):=qh qOI 9 [0,4,5,23,24,25] [5] (qF Tryz.f53 4) f ([.s (.ptr 0 0 none 0),.s (.i .i64 x0),.s (.sl 9 0 x1 true),.s (S.vw 8 x2),.s (.i .i64 x3),.s (.i .i64 x4)]) ([.cells 71 [.arr .i8 81 x5,.arr .i8 16 x6,.one [.i .i8 x7],.one [.ptr 1 0 none 0,.sl 2 0 x8 true,.sl 3 0 x9 true,.mp 4,.sl 5 0 x10 true,.i .i64 x11,.i .i64 x12]],.cells 80 [.one [.ptr 6 0 none 0,.i .u64 x13,.sl 7 0 x14 true]],.sli 43 false (.rows [.i .i64,.i .i64,.i .i64,.b] x15 x16),.sli 28 false (.rows kL0 x17 x18),Obj.maps false [.i .u64] x19 8 none,.sli 4 false (Seg.barr x20 x21),.cells 87 [.arr .i8 81 x22,.arr .i8 16 x23,.one [.i .i8 x24],.rows [.i .u64,.i .u64] 32 x25,.rows [.i .u64,.i .u64] 2 x26],.sli 109 false (.rows [.i .i64,.i .i64,.i .i64,.b,.i .i8,.i .i8] x27 x28),Obj.pol 3 (PS.a .i64 x29),.sli 3 false (.arr .i64 x30 x31)]) qOJ
theorem qhu (f:Nat) (x0:Int) (x1 x2:Nat) (x3 x4:Int) (x5 x6:LI) (x7:Int) (x8 x9 x10:Nat) (x11 x12 x13:Int) (x14 x15:Nat) (x16:LL) (x17:Nat) (x18 x19:LL) (x20:Nat) (x21:List Bool) (x22 x23:LI) (x24:Int) (x25 x26:LL) (x27:Nat) (x28 x29:LL) (x30:Nat) (x31:LI):qOK (f+1) x0 x1 x2 x3 x4 x5 x6 x7 x8 x9 x10 x11 x12 x13 x14 x15 x16 x17 x18 x19 x20 x21 x22 x23 x24 x25 x26 x27 x28 x29 x30 x31=qKj (qOK f) x0 x1 x2 x3 x4 x5 x6 x7 x8 x9 x10 x11 x12 x13 x14 x15 x16 x17 x18 x19 x20 x21 x22 x23 x24 x25 x26 x27 x28 x29 x30 x31:=by kernel_rfl
theorem qWA:∀ f,qOK f=qF2 f
 | 0=>rfl
 | f+1=>by funext x0 x1 x2 x3 x4 x5 x6 x7 x8 x9 x10 x11 x12 x13 x14 x15 x16 x17 x18 x19 x20 x21 x22 x23 x24 x25 x26 x27 x28 x29 x30 x31;rw[qhu,qWA f];rfl
theorem qhx:qe Tryz.prog qOI 9 (qF Tryz.f53 4):=
 qj mixed qV8 (qP.of (l':=[]) (by kernel_rfl) trivial) (q:=4) (kin:=[0,4,5,23,24,25]) (kout:=[5]) (by kernel_rfl) (by kernel_rfl) fun vs objs K r h=>by
  replace h:qOL vs objs K=some r:=h
  unfold qOL at h
  split at h
  ·obtain rfl:=(ql h).1
   replace h:=(ql h).2
   obtain⟨t,h1,h2⟩:=qE h
   rw[<- qWA] at h1
   refine⟨_,qOJ,t,qC,h1,fun e vs' objs' hd=>?_⟩
   unfold qOJ at hd;split at hd;(obtain rfl:=(ql hd).1;replace hd:=(ql hd).2;cases hd;exact h2);cases hd
  ·cases h
def qV9:V->List Obj->Option (Int×Bool×LI×LI×Int×Nat×Nat×Nat×Int×Int×Int×Nat×Nat×LL×Nat×LL×LL×Nat×List Bool×LI×LI×Int×LL×LL×Nat×LL×LL):=fun v objs=>match v,objs with
 | .tup [W.s (.i .i64 y0),W.s (.b y1)],[.cells 71 [.arr .i8 81 y2,.arr .i8 16 y3,.one [.i .i8 y4],.one [.ptr 1 0 none 0,.sl 2 0 y5 true,.sl 3 0 y6 true,.mp 4,.sl 5 0 y7 true,.i .i64 y8,.i .i64 y9]],.cells 80 [.one [.ptr 6 0 none 0,.i .u64 y10,.sl 7 0 y11 true]],.sli 43 false (.rows [.i .i64,.i .i64,.i .i64,.b] y12 y13),.sli 28 false (.rows kk0 y14 y15),Obj.maps false [.i .u64] y16 8 none,.sli 4 false (Seg.barr y17 y18),.cells 87 [.arr .i8 81 y19,.arr .i8 16 y20,.one [.i .i8 y21],.rows [.i .u64,.i .u64] 32 y22,.rows [.i .u64,.i .u64] 2 y23],.sli 109 false (.rows [.i .i64,.i .i64,.i .i64,.b,.i .i8,.i .i8] y24 y25),Obj.pol 3 (PS.a .i64 y26)]=>bif decide (kk0=kL0) then some (y0,y1,y2,y3,y4,y5,y6,y7,y8,y9,y10,y11,y12,y13,y14,y15,y16,y17,y18,y19,y20,y21,y22,y23,y24,y25,y26) else none
 | _,_=>none
def qV7:HA:=fun o vs objs K=>match vs,objs with
 | [.s (.ptr 0 0 none 0)],[.cells 71 [.arr .i8 81 x0,.arr .i8 16 x1,.one [.i .i8 x2],.one [.ptr 1 0 none 0,.sl 2 0 x3 true,.sl 3 0 x4 true,.mp 4,.sl 5 0 x5 true,.i .i64 x6,.i .i64 x7]],.cells 80 [.one [.ptr 6 0 none 0,.i .u64 x8,.sl 7 0 x9 true]],.sli 43 false (.rows [.i .i64,.i .i64,.i .i64,.b] x10 x11),.sli 28 false (.rows kk0 x12 x13),Obj.maps false [.i .u64] x14 8 none,.sli 4 false (Seg.barr x15 x16),.cells 87 [.arr .i8 81 x17,.arr .i8 16 x18,.one [.i .i8 x19],.rows [.i .u64,.i .u64] 32 x20,.rows [.i .u64,.i .u64] 2 x21],.sli 109 false (.rows [.i .i64,.i .i64,.i .i64,.b,.i .i8,.i .i8] x22 x23),Obj.pol 3 (PS.a .i64 x24)]=>bif decide (kk0=kL0) then ob (qKi x0 x1 x2 x3 x4 x5 x6 x7 x8 x9 x10 x11 x12 x13 x14 x15 x16 x17 x18 x19 x20 x21 x22 x23 x24) fun (z0,z1,z2,z3,z4,z5,z6,z7,z8,z9,z10,z11,z12,z13,z14,z15,z16,z17,z18,z19,z20,z21,z22,z23,z24,z25,z26)=>K false (.tup [W.s (.i .i64 z0),W.s (.b z1)]) ([.cells 71 [.arr .i8 81 z2,.arr .i8 16 z3,.one [.i .i8 z4],.one [.ptr 1 0 none 0,.sl 2 0 z5 true,.sl 3 0 z6 true,.mp 4,.sl 5 0 z7 true,.i .i64 z8,.i .i64 z9]],.cells 80 [.one [.ptr 6 0 none 0,.i .u64 z10,.sl 7 0 z11 true]],.sli 43 false (.rows [.i .i64,.i .i64,.i .i64,.b] z12 z13),.sli 28 false (.rows kL0 z14 z15),Obj.maps false [.i .u64] z16 8 none,.sli 4 false (Seg.barr z17 z18),.cells 87 [.arr .i8 81 z19,.arr .i8 16 z20,.one [.i .i8 z21],.rows [.i .u64,.i .u64] 32 z22,.rows [.i .u64,.i .u64] 2 z23],.sli 109 false (.rows [.i .i64,.i .i64,.i .i64,.b,.i .i8,.i .i8] z24 z25),Obj.pol 3 (PS.a .i64 z26)]) else none
 | _,_=>o 53 vs objs K
def qWB (o:Orc):Orc:=qL 53 (qV7 o) o
theorem qhw:OQ Tryz.prog qWB:=fun _ ho=>qN ho fun vs objs K r h=>by
 unfold qV7 at h
 split at h
 ·obtain rfl:=(ql h).1
  replace h:=(ql h).2
  obtain⟨t,h1,h2⟩:=qE h
  refine qAQ mixed qV8 (D:=qV9) (fn:=Tryz.f53) (Eq.trans (by kernel_rfl) h1) (by kernel_rfl) (m:=9) rfl (qP.of (l':=[qF Tryz.f53 4]) (by kernel_rfl) ⟨qhx,trivial⟩) fun v objs' hd=>?_
  unfold qV9 at hd;split at hd;(obtain rfl:=(ql hd).1;replace hd:=(ql hd).2;cases hd;exact h2);cases hd
 ·exact ho _ _ _ _ _ h
def qpY:Ctx:=mkC 2 (qK) [] qV
theorem qpZ:CtxOK Tryz.prog qpY:=mkC_ok (qM)
def qbx:V->List Obj->Option (Int×Int):=fun v objs=>match v,objs with
 | .agg [.one [.i .u64 y0,.i .u64 y1]],[]=>some (y0,y1)
 | _,_=>none
def qbw:HA:=fun o vs objs K=>match vs,objs with
 | [],[]=>ob (qID ) fun (z0,z1)=>K false (.agg [.one [.i .u64 z0,.i .u64 z1]]) ([])
 | _,_=>o 87 vs objs K
def qJd (o:Orc):Orc:=qL 87 (qbw o) o
theorem qL6:OQ Tryz.prog qJd:=fun _ ho=>qN ho fun vs objs K r h=>by
 unfold qbw at h
 split at h
 ·obtain⟨t,h1,h2⟩:=qE h
  refine qd mixed qpZ (D:=qbx) (fn:=Tryz.f87) (Eq.trans (by kernel_rfl) h1) (by kernel_rfl) fun v objs' hd=>?_
  unfold qbx at hd;split at hd;(cases hd;exact h2);cases hd
 ·exact ho _ _ _ _ _ h
def qSL:Ex->List V->List Obj->Option (Nat×Int×Int×Nat×LI):=fun e vs objs=>match e,vs,objs with
 | .exit 0,[.s (.ptr 0 0 none 0),.s (.sl 1 0 y0 true)],[.cells 83 [.one [.i .u64 y1,.i .u64 y2]],.sli 3 false (.arr .i64 y3 y4)]=>some (y0,y1,y2,y3,y4)
 | _,_,_=>none
def qSN:Ex->List V->List Obj->Option (Nat×Nat×LI):=fun e vs objs=>match e,vs,objs with
 | .exit 2,[.s (.sl 0 0 y0 true)],[.sli 3 false (.arr .i64 y1 y2)]=>some (y0,y1,y2)
 | _,_,_=>none
def qSP:HL:=fun vs objs K=>match vs,objs with
 | [.s (.ptr 0 0 none 0),.s (.sl 1 0 x0 true)],[.cells 83 [.one [.i .u64 x1,.i .u64 x2]],.sli 3 false (.arr .i64 x3 x4)]=>ob (qIL qC x0 x1 x2 x3 x4) fun (z0,z1,z2,z3,z4)=>K (.exit 0) ([.s (.ptr 0 0 none 0),.s (.sl 1 0 z0 true)]) ([.cells 83 [.one [.i .u64 z1,.i .u64 z2]],.sli 3 false (.arr .i64 z3 z4)])
 | _,_=>none
def qSQ:HL:=fun vs objs K=>match vs,objs with
 | [.s (.ptr 0 0 none 0),.s (.sl 1 0 x0 true)],[.cells 83 [.one [.i .u64 x1,.i .u64 x2]],.sli 3 false (.arr .i64 x3 x4)]=>ob (qIM qC x0 x1 x2 x3 x4) fun (z0,z1,z2)=>K (.exit 2) ([.s (.sl 0 0 z0 true)]) ([.sli 3 false (.arr .i64 z1 z2)])
 | _,_=>none
def qp4:{R:Type}->Nat->List V->List Obj->(Ex->List V->List Obj->Option R)->Option R:=fun q vs objs K=>bif Nat.beq q 2 then qSP vs objs K else bif Nat.beq q 5 then qSQ vs objs K else none
def qJi:Ctx:=mkC 38 ((qM1 qK)) [(2,[1,3],[1,3]),(5,[1,3],[3])] qp4
theorem qSK:CtxOK Tryz.prog qJi:=mkC_ok ((qTh _ qM))
def qSM (f:Nat) (x0:Nat) (x1 x2:Int) (x3:Nat) (x4:LI):Option (Nat×Int×Int×Nat×LI):=qh qJi 0 [1,3] [1,3] (qF Tryz.f113 2) f ([.s (.ptr 0 0 none 0),.s (.sl 1 0 x0 true)]) ([.cells 83 [.one [.i .u64 x1,.i .u64 x2]],.sli 3 false (.arr .i64 x3 x4)]) qSL
theorem qp2 (f:Nat) (x0:Nat) (x1 x2:Int) (x3:Nat) (x4:LI):qSM (f+1) x0 x1 x2 x3 x4=qMC (qSM f) x0 x1 x2 x3 x4:=by kernel_rfl
theorem qcY:∀ f,qSM f=qIL f
 | 0=>rfl
 | f+1=>by funext x0 x1 x2 x3 x4;rw[qp2,qcY f];rfl
def qSO (f:Nat) (x0:Nat) (x1 x2:Int) (x3:Nat) (x4:LI):Option (Nat×Nat×LI):=qh qJi 0 [1,3] [3] (qF Tryz.f113 5) f ([.s (.ptr 0 0 none 0),.s (.sl 1 0 x0 true)]) ([.cells 83 [.one [.i .u64 x1,.i .u64 x2]],.sli 3 false (.arr .i64 x3 x4)]) qSN
theorem qp3 (f:Nat) (x0:Nat) (x1 x2:Int) (x3:Nat) (x4:LI):qSO (f+1) x0 x1 x2 x3 x4=qMD (qSO f) x0 x1 x2 x3 x4:=by kernel_rfl
theorem qcZ:∀ f,qSO f=qIM f
 | 0=>rfl
 | f+1=>by funext x0 x1 x2 x3 x4;rw[qp3,qcZ f];rfl
theorem qp5:qe Tryz.prog qJi 0 (qF Tryz.f113 2):=
 qj mixed qSK (qP.of (l':=[]) (by kernel_rfl) trivial) (q:=2) (kin:=[1,3]) (kout:=[1,3]) (by kernel_rfl) (by kernel_rfl) fun vs objs K r h=>by
  replace h:qSP vs objs K=some r:=h
  unfold qSP at h
  split at h
  ·obtain⟨t,h1,h2⟩:=qE h
   rw[<- qcY] at h1
   refine⟨_,qSL,t,qC,h1,fun e vs' objs' hd=>?_⟩
   unfold qSL at hd;split at hd;(cases hd;exact h2);cases hd
  ·cases h
theorem qp6:qe Tryz.prog qJi 0 (qF Tryz.f113 5):=
 qj mixed qSK (qP.of (l':=[]) (by kernel_rfl) trivial) (q:=5) (kin:=[1,3]) (kout:=[3]) (by kernel_rfl) (by kernel_rfl) fun vs objs K r h=>by
  replace h:qSQ vs objs K=some r:=h
  unfold qSQ at h
  split at h
  ·obtain⟨t,h1,h2⟩:=qE h
   rw[<- qcZ] at h1
   refine⟨_,qSN,t,qC,h1,fun e vs' objs' hd=>?_⟩
   unfold qSN at hd;split at hd;(cases hd;exact h2);cases hd
  ·cases h
def qcX:V->List Obj->Option (Nat×Nat×LI):=fun v objs=>match v,objs with
 | .s (.sl 0 0 y0 true),[.sli 3 false (.arr .i64 y1 y2)]=>some (y0,y1,y2)
 | _,_=>none
def qcW:HA:=fun o vs objs K=>match vs,objs with
 | [.agg [.one [.i .u64 x0,.i .u64 x1]]],[]=>ob (qFg x0 x1) fun (z0,z1,z2)=>K false (.s (.sl 0 0 z0 true)) ([.sli 3 false (.arr .i64 z1 z2)])
 | _,_=>o 113 vs objs K
def qJj (o:Orc):Orc:=qL 113 (qcW o) o
theorem qME:OQ Tryz.prog qJj:=fun _ ho=>qN ho fun vs objs K r h=>by
 unfold qcW at h
 split at h
 ·obtain⟨t,h1,h2⟩:=qE h
  refine qAQ mixed qSK (D:=qcX) (fn:=Tryz.f113) (Eq.trans (by kernel_rfl) h1) (by kernel_rfl) (m:=0) rfl (qP.of (l':=[qF Tryz.f113 2,qF Tryz.f113 5]) (by kernel_rfl) ⟨qp5,qp6,trivial⟩) fun v objs' hd=>?_
  unfold qcX at hd;split at hd;(cases hd;exact h2);cases hd
 ·exact ho _ _ _ _ _ h
def qSG:Ex->List V->List Obj->Option (Nat×LI×Int×Int×Int×Int):=fun e vs objs=>match e,vs,objs with
 | .exit 0,[.s (.ptr 1 0 none 0),.s (.ptr 2 0 none 0)],[.sli 3 true (.arr .i64 y0 y1),.cells 83 [.one [.i .u64 y2,.i .u64 y3]],.cells 83 [.one [.i .u64 y4,.i .u64 y5]]]=>some (y0,y1,y2,y3,y4,y5)
 | _,_,_=>none
def qSI:HL:=fun vs objs K=>match vs,objs with
 | [.s (.ptr 1 0 none 0),.s (.ptr 2 0 none 0),.s (.sl 0 0 x0 true),.s (.i .i64 x1),.s (.i .i64 x2)],[.sli 3 true (.arr .i64 x3 x4),.cells 83 [.one [.i .u64 x5,.i .u64 x6]],.cells 83 [.one [.i .u64 x7,.i .u64 x8]]]=>ob (qFf qC x0 x1 x2 x3 x4 x5 x6 x7 x8) fun (z0,z1,z2,z3,z4,z5)=>K (.exit 0) ([.s (.ptr 1 0 none 0),.s (.ptr 2 0 none 0)]) ([.sli 3 true (.arr .i64 z0 z1),.cells 83 [.one [.i .u64 z2,.i .u64 z3]],.cells 83 [.one [.i .u64 z4,.i .u64 z5]]])
 | _,_=>none
def qpv:{R:Type}->Nat->List V->List Obj->(Ex->List V->List Obj->Option R)->Option R:=fun q vs objs K=>bif Nat.beq q 3 then qSI vs objs K else none
def qSF:Ctx:=mkC 17 ((qEV qK)) [(3,[2,3,6,7,8],[2,3])] qpv
theorem qcN:CtxOK Tryz.prog qSF:=mkC_ok ((qFh _ qM))
def qSH (f:Nat) (x0:Nat) (x1 x2:Int) (x3:Nat) (x4:LI) (x5 x6:Int) (x7 x8:Int):Option (Nat×LI×Int×Int×Int×Int):=qh qSF 1 [2,3,6,7,8] [2,3] (qF Tryz.f126 3) f ([.s (.ptr 1 0 none 0),.s (.ptr 2 0 none 0),.s (.sl 0 0 x0 true),.s (.i .i64 x1),.s (.i .i64 x2)]) ([.sli 3 true (.arr .i64 x3 x4),.cells 83 [.one [.i .u64 x5,.i .u64 x6]],.cells 83 [.one [.i .u64 x7,.i .u64 x8]]]) qSG
theorem qpu (f:Nat) (x0:Nat) (x1 x2:Int) (x3:Nat) (x4:LI) (x5 x6:Int) (x7 x8:Int):qSH (f+1) x0 x1 x2 x3 x4 x5 x6 x7 x8=qII (qSH f) x0 x1 x2 x3 x4 x5 x6 x7 x8:=by kernel_rfl
theorem qcP:∀ f,qSH f=qFf f
 | 0=>rfl
 | f+1=>by funext x0 x1 x2 x3 x4 x5 x6 x7 x8;rw[qpu,qcP f];rfl
theorem qpx:qe Tryz.prog qSF 1 (qF Tryz.f126 3):=
 qj mixed qcN (qP.of (l':=[]) (by kernel_rfl) trivial) (q:=3) (kin:=[2,3,6,7,8]) (kout:=[2,3]) (by kernel_rfl) (by kernel_rfl) fun vs objs K r h=>by
  replace h:qSI vs objs K=some r:=h
  unfold qSI at h
  split at h
  ·obtain⟨t,h1,h2⟩:=qE h
   rw[<- qcP] at h1
   refine⟨_,qSG,t,qC,h1,fun e vs' objs' hd=>?_⟩
   unfold qSG at hd;split at hd;(cases hd;exact h2);cases hd
  ·cases h
def qcO:V->List Obj->Option (Int×Int):=fun v objs=>match v,objs with
 | .agg [.one [.i .u64 y0,.i .u64 y1]],[]=>some (y0,y1)
 | _,_=>none
def qcM:HA:=fun o vs objs K=>match vs,List.map Obj.toRO objs with
 | [.s (.sl 0 0 x0 true)],[.sli 3 true (.arr .i64 x1 x2)]=>ob (qJh x0 x1 x2) fun (z0,z1)=>K true (.agg [.one [.i .u64 z0,.i .u64 z1]]) ([])
 | _,_=>o 126 vs objs K
def qcQ (o:Orc):Orc:=qL 126 (qcM o) o
theorem qpw:OQ Tryz.prog qcQ:=fun _ ho=>qN ho fun vs objs K r h=>by
 unfold qcM at h
 split at h
 ·have hq:List.map Obj.toRO objs=_:=(by rename_i hq;first | exact hq | assumption)
  obtain⟨t,h1,h2⟩:=qE h
  refine qAs mixed qcN (D:=qcO) (m:=1) (fn:=Tryz.f126) (by kernel_rfl) hq (by kernel_rfl) (by kernel_rfl) (qP.of (l':=[qF Tryz.f126 3]) (by kernel_rfl) ⟨qpx,trivial⟩) (Eq.trans (by kernel_rfl) h1) fun v objs' hd=>?_
  unfold qcO at hd;split at hd;(cases hd;exact h2);cases hd
 ·exact ho _ _ _ _ _ h
def qQE:Ex->List V->List Obj->Option ((Int×Int)⊕(Int×Int)):=fun e vs objs=>match e,vs,objs with
 | .ret,[.s (.ptr 0 0 none 0)],[.cells 83 [.one [.i .u64 y0,.i .u64 y1]]]=>some (.inl (y0,y1))
 | .exit 0,[.s (.ptr 0 0 none 0)],[.cells 83 [.one [.i .u64 y0,.i .u64 y1]]]=>some (.inr (y0,y1))
 | _,_,_=>none
def qQH:HL:=fun vs objs K=>match vs,objs with
 | [.s (.i .i64 x0),.s (.i .i64 x1),.s (.ptr 0 0 none 0),.s (.sl 1 0 x2 true),.s (.i .i64 x3),.s (.i .i64 x4)],[.cells 83 [.one [.i .u64 x5,.i .u64 x6]],.sli 147 false (.rows [.i .i64,.i .i64] x7 x8)]=>ob (qFM qC x0 x1 x2 x3 x4 x5 x6 x7 x8) fun t0=>sw t0 (fun (z0,z1)=>K (.ret) ([.s (.ptr 0 0 none 0)]) ([.cells 83 [.one [.i .u64 z0,.i .u64 z1]]])) (fun (z0,z1)=>K (.exit 0) ([.s (.ptr 0 0 none 0)]) ([.cells 83 [.one [.i .u64 z0,.i .u64 z1]]]))
 | _,_=>none
def qmc:{R:Type}->Nat->List V->List Obj->(Ex->List V->List Obj->Option R)->Option R:=fun q vs objs K=>bif Nat.beq q 2 then qQH vs objs K else none
def qQD:Ctx:=mkC 30 ((qJk (qGa (qQR (qcQ (qQI qK)))))) [(2,[0,1,4,10,11,12],[4])] qmc
theorem qZI:CtxOK Tryz.prog qQD:=mkC_ok ((qMF _ (qIH _ (qZX _ (qpw _ (qZO _ qM))))))
def qQF (f:Nat) (x0 x1:Int) (x2:Nat) (x3 x4:Int) (x5 x6:Int) (x7:Nat) (x8:LL):Option ((Int×Int)⊕(Int×Int)):=qh qQD 0 [0,1,4,10,11,12] [4] (qF Tryz.f109 2) f ([.s (.i .i64 x0),.s (.i .i64 x1),.s (.ptr 0 0 none 0),.s (.sl 1 0 x2 true),.s (.i .i64 x3),.s (.i .i64 x4)]) ([.cells 83 [.one [.i .u64 x5,.i .u64 x6]],.sli 147 false (.rows [.i .i64,.i .i64] x7 x8)]) qQE
theorem qmb (f:Nat) (x0 x1:Int) (x2:Nat) (x3 x4:Int) (x5 x6:Int) (x7:Nat) (x8:LL):qQF (f+1) x0 x1 x2 x3 x4 x5 x6 x7 x8=qHp (qQF f) x0 x1 x2 x3 x4 x5 x6 x7 x8:=by kernel_rfl
theorem qZK:∀ f,qQF f=qFM f
 | 0=>rfl
 | f+1=>by funext x0 x1 x2 x3 x4 x5 x6 x7 x8;rw[qmb,qZK f];rfl
theorem qmd:qe Tryz.prog qQD 0 (qF Tryz.f109 2):=
 qj mixed qZI (qP.of (l':=[]) (by kernel_rfl) trivial) (q:=2) (kin:=[0,1,4,10,11,12]) (kout:=[4]) (by kernel_rfl) (by kernel_rfl) fun vs objs K r h=>by
  replace h:qQH vs objs K=some r:=h
  unfold qQH at h
  split at h
  ·obtain⟨t,h1,h2⟩:=qE h
   rw[<- qZK] at h1
   refine⟨_,qQE,t,qC,h1,fun e vs' objs' hd=>?_⟩
   unfold qQE at hd;split at hd;(cases hd;exact h2);(cases hd;exact h2);cases hd
  ·cases h
def qZJ:V->List Obj->Option (Int×Int):=fun v objs=>match v,objs with
 | .agg [.one [.i .u64 y0,.i .u64 y1]],[]=>some (y0,y1)
 | _,_=>none
def qZH:HA:=fun o vs objs K=>match vs,objs with
 | [.s (.i .i64 x0),.s (.i .i64 x1)],[]=>ob (qJL x0 x1) fun (z0,z1)=>K false (.agg [.one [.i .u64 z0,.i .u64 z1]]) ([])
 | _,_=>o 109 vs objs K
def qQG (o:Orc):Orc:=qL 109 (qZH o) o
theorem qZL:OQ Tryz.prog qQG:=fun _ ho=>qN ho fun vs objs K r h=>by
 unfold qZH at h
 split at h
 ·obtain⟨t,h1,h2⟩:=qE h
  refine qAQ mixed qZI (D:=qZJ) (fn:=Tryz.f109) (Eq.trans (by kernel_rfl) h1) (by kernel_rfl) (m:=0) rfl (qP.of (l':=[qF Tryz.f109 2]) (by kernel_rfl) ⟨qmd,trivial⟩) fun v objs' hd=>?_
  unfold qZJ at hd;split at hd;(cases hd;exact h2);cases hd
 ·exact ho _ _ _ _ _ h
def qfC:Ctx:=mkC 18 (qK) [] qV
theorem qfD:CtxOK Tryz.prog qfC:=mkC_ok (qM)
def qT5:V->List Obj->Option (Int×Int):=fun v objs=>match v,objs with
 | .agg [.one [.i .u64 y0,.i .u64 y1]],[]=>some (y0,y1)
 | _,_=>none
def qT4:HA:=fun o vs objs K=>match vs,List.map Obj.toRO objs with
 | [.s (.ptr 0 0 none 0),.s (.i .i64 x0)],[.rcells 87 [.arr .i8 81 x1,.arr .i8 16 x2,.one [.i .i8 x3],.rows [.i .u64,.i .u64] 32 x4,.rows [.i .u64,.i .u64] 2 x5]]=>ob (qG2 x0 x1 x2 x3 x4 x5) fun (z0,z1)=>K true (.agg [.one [.i .u64 z0,.i .u64 z1]]) ([])
 | _,_=>o 112 vs objs K
def qNM (o:Orc):Orc:=qL 112 (qT4 o) o
theorem qT6:OQ Tryz.prog qNM:=fun _ ho=>qN ho fun vs objs K r h=>by
 unfold qT4 at h
 split at h
 ·have hq:List.map Obj.toRO objs=_:=(by rename_i hq;first | exact hq | assumption)
  obtain⟨t,h1,h2⟩:=qE h
  refine qAs mixed qfD (D:=qT5) (m:=1) (fn:=Tryz.f112) (by kernel_rfl) hq (by kernel_rfl) (by kernel_rfl) (qP.of (l':=[]) (by kernel_rfl) trivial) (Eq.trans (by kernel_rfl) h1) fun v objs' hd=>?_
  unfold qT5 at hd;split at hd;(cases hd;exact h2);cases hd
 ·exact ho _ _ _ _ _ h
def qeo:Ctx:=mkC 18 (qK) [] qV
theorem qep:CtxOK Tryz.prog qeo:=mkC_ok (qM)
def qTj:V->List Obj->Option (Int):=fun v objs=>match v,objs with
 | .s (.i .i8 y0),[]=>some (y0)
 | _,_=>none
def qTi:HA:=fun o vs objs K=>match vs,List.map Obj.toRO objs with
 | [.s (.ptr 0 0 none 0),.s (.i .i64 x0)],[.rcells 87 [.arr .i8 81 x1,.arr .i8 16 x2,.one [.i .i8 x3],.rows [.i .u64,.i .u64] 32 x4,.rows [.i .u64,.i .u64] 2 x5]]=>ob (qAv x0 x1 x2 x3 x4 x5) fun y0=>K true (.s (.i .i8 y0)) ([])
 | _,_=>o 60 vs objs K
def qFo (o:Orc):Orc:=qL 60 (qTi o) o
theorem qGw:OQ Tryz.prog qFo:=fun _ ho=>qN ho fun vs objs K r h=>by
 unfold qTi at h
 split at h
 ·have hq:List.map Obj.toRO objs=_:=(by rename_i hq;first | exact hq | assumption)
  obtain⟨t,h1,h2⟩:=qE h
  refine qAs mixed qep (D:=qTj) (m:=1) (fn:=Tryz.f60) (by kernel_rfl) hq (by kernel_rfl) (by kernel_rfl) (qP.of (l':=[]) (by kernel_rfl) trivial) (Eq.trans (by kernel_rfl) h1) fun v objs' hd=>?_
  unfold qTj at hd;split at hd;(cases hd;exact h2);cases hd
 ·exact ho _ _ _ _ _ h
def qMr:Ex->List V->List Obj->Option (Int×Int×Nat×Int×Int×LI×LI×Int×LL×LL×List (LI×LI)×Nat×LI):=fun e vs objs=>match e,vs,objs with
 | .exit 2,[.s (.ptr 0 0 none 0),.s (.i .i64 y0),.s (.mp 1),.s (.i .i64 y1),.s (.sl 2 0 y2 true),.s (.i .i64 y3),.s (.i .i64 y4)],[.rcells 87 [.arr .i8 81 y5,.arr .i8 16 y6,.one [.i .i8 y7],.rows [.i .u64,.i .u64] 32 y8,.rows [.i .u64,.i .u64] 2 y9],.map false true [.i .i64] [.i .u64,.i .u64] y10,.sli 3 false (.arr .i64 y11 y12)]=>some (y0,y1,y2,y3,y4,y5,y6,y7,y8,y9,y10,y11,y12)
 | _,_,_=>none
def qMp:Ex->List V->List Obj->Option (LI×LI×Int×LL×LL×List (LI×LI)):=fun e vs objs=>match e,vs,objs with
 | .exit 0,[.s (.mp 1)],[.rcells 87 [.arr .i8 81 y0,.arr .i8 16 y1,.one [.i .i8 y2],.rows [.i .u64,.i .u64] 32 y3,.rows [.i .u64,.i .u64] 2 y4],.map false true [.i .i64] [.i .u64,.i .u64] y5]=>some (y0,y1,y2,y3,y4,y5)
 | _,_,_=>none
def qMu:HL:=fun vs objs K=>match vs,objs with
 | [.s (.ptr 0 0 none 0),.s (.i .i64 x0),.s (.mp 1),.s (.i .i64 x1),.s (.sl 2 0 x2 true),.s (.i .i64 x3),.s (.i .i64 x4),.s (.sl 3 0 x5 true),.s (.i .i64 x6),.s (.i .i64 x7)],[.rcells 87 [.arr .i8 81 x8,.arr .i8 16 x9,.one [.i .i8 x10],.rows [.i .u64,.i .u64] 32 x11,.rows [.i .u64,.i .u64] 2 x12],.map false true [.i .i64] [.i .u64,.i .u64] x13,.sli 3 false (.arr .i64 x14 x15),.sli 3 false (.arr .i64 x16 x17)]=>ob (qEl qC x0 x1 x2 x3 x4 x5 x6 x7 x8 x9 x10 x11 x12 x13 x14 x15 x16 x17) fun (z0,z1,z2,z3,z4,z5,z6,z7,z8,z9,z10,z11,z12)=>K (.exit 2) ([.s (.ptr 0 0 none 0),.s (.i .i64 z0),.s (.mp 1),.s (.i .i64 z1),.s (.sl 2 0 z2 true),.s (.i .i64 z3),.s (.i .i64 z4)]) ([.rcells 87 [.arr .i8 81 z5,.arr .i8 16 z6,.one [.i .i8 z7],.rows [.i .u64,.i .u64] 32 z8,.rows [.i .u64,.i .u64] 2 z9],.map false true [.i .i64] [.i .u64,.i .u64] z10,.sli 3 false (.arr .i64 z11 z12)])
 | _,_=>none
def qMt:HL:=fun vs objs K=>match vs,objs with
 | [.s (.ptr 0 0 none 0),.s (.i .i64 x0),.s (.mp 1),.s (.i .i64 x1),.s (.sl 2 0 x2 true),.s (.i .i64 x3),.s (.i .i64 x4)],[.rcells 87 [.arr .i8 81 x5,.arr .i8 16 x6,.one [.i .i8 x7],.rows [.i .u64,.i .u64] 32 x8,.rows [.i .u64,.i .u64] 2 x9],.map false true [.i .i64] [.i .u64,.i .u64] x10,.sli 3 false (.arr .i64 x11 x12)]=>ob (qEk qC x0 x1 x2 x3 x4 x5 x6 x7 x8 x9 x10 x11 x12) fun (z0,z1,z2,z3,z4,z5)=>K (.exit 0) ([.s (.mp 1)]) ([.rcells 87 [.arr .i8 81 z0,.arr .i8 16 z1,.one [.i .i8 z2],.rows [.i .u64,.i .u64] 32 z3,.rows [.i .u64,.i .u64] 2 z4],.map false true [.i .i64] [.i .u64,.i .u64] z5])
 | _,_=>none
def qeO:{R:Type}->Nat->List V->List Obj->(Ex->List V->List Obj->Option R)->Option R:=fun q vs objs K=>bif Nat.beq q 9 then qMu vs objs K else bif Nat.beq q 6 then qMt vs objs K else none
def qIe:Ctx:=mkC 89 ((qEV (qGa (qLe (qJk (qFo (qL8 (qIF (qNM (qL7 (qFd (qG4 (qQG (qJj (qFp (qKG qK)))))))))))))))) [(6,[0,1,5,6,21,22,23],[5]),(9,[0,1,5,6,21,22,23,32,33,34],[0,1,5,6,21,22,23])] qeO
theorem qMo:CtxOK Tryz.prog qIe:=mkC_ok ((qFh _ (qIH _ (qQM _ (qMF _ (qGw _ (qR8 _ (qJe _ (qT6 _ (qR6 _ (qGZ _ (qIj _ (qZL _ (qME _ (qG1 _ (qNG _ qM))))))))))))))))
def qMs (f:Nat) (x0 x1:Int) (x2:Nat) (x3 x4:Int) (x5:Nat) (x6 x7:Int) (x8 x9:LI) (x10:Int) (x11 x12:LL) (x13:List (LI×LI)) (x14:Nat) (x15:LI) (x16:Nat) (x17:LI):Option (Int×Int×Nat×Int×Int×LI×LI×Int×LL×LL×List (LI×LI)×Nat×LI):=qh qIe 1 [0,1,5,6,21,22,23,32,33,34] [0,1,5,6,21,22,23] (qF Tryz.f108 9) f ([.s (.ptr 0 0 none 0),.s (.i .i64 x0),.s (.mp 1),.s (.i .i64 x1),.s (.sl 2 0 x2 true),.s (.i .i64 x3),.s (.i .i64 x4),.s (.sl 3 0 x5 true),.s (.i .i64 x6),.s (.i .i64 x7)]) ([.rcells 87 [.arr .i8 81 x8,.arr .i8 16 x9,.one [.i .i8 x10],.rows [.i .u64,.i .u64] 32 x11,.rows [.i .u64,.i .u64] 2 x12],.map false true [.i .i64] [.i .u64,.i .u64] x13,.sli 3 false (.arr .i64 x14 x15),.sli 3 false (.arr .i64 x16 x17)]) qMr
theorem qeN (f:Nat) (x0 x1:Int) (x2:Nat) (x3 x4:Int) (x5:Nat) (x6 x7:Int) (x8 x9:LI) (x10:Int) (x11 x12:LL) (x13:List (LI×LI)) (x14:Nat) (x15:LI) (x16:Nat) (x17:LI):qMs (f+1) x0 x1 x2 x3 x4 x5 x6 x7 x8 x9 x10 x11 x12 x13 x14 x15 x16 x17=qFn (qMs f) x0 x1 x2 x3 x4 x5 x6 x7 x8 x9 x10 x11 x12 x13 x14 x15 x16 x17:=by kernel_rfl
theorem qTX:∀ f,qMs f=qEl f
 | 0=>rfl
 | f+1=>by funext x0 x1 x2 x3 x4 x5 x6 x7 x8 x9 x10 x11 x12 x13 x14 x15 x16 x17;rw[qeN,qTX f];rfl
def qMq (f:Nat) (x0 x1:Int) (x2:Nat) (x3 x4:Int) (x5 x6:LI) (x7:Int) (x8 x9:LL) (x10:List (LI×LI)) (x11:Nat) (x12:LI):Option (LI×LI×Int×LL×LL×List (LI×LI)):=qh qIe 1 [0,1,5,6,21,22,23] [5] (qF Tryz.f108 6) f ([.s (.ptr 0 0 none 0),.s (.i .i64 x0),.s (.mp 1),.s (.i .i64 x1),.s (.sl 2 0 x2 true),.s (.i .i64 x3),.s (.i .i64 x4)]) ([.rcells 87 [.arr .i8 81 x5,.arr .i8 16 x6,.one [.i .i8 x7],.rows [.i .u64,.i .u64] 32 x8,.rows [.i .u64,.i .u64] 2 x9],.map false true [.i .i64] [.i .u64,.i .u64] x10,.sli 3 false (.arr .i64 x11 x12)]) qMp
theorem qeM (f:Nat) (x0 x1:Int) (x2:Nat) (x3 x4:Int) (x5 x6:LI) (x7:Int) (x8 x9:LL) (x10:List (LI×LI)) (x11:Nat) (x12:LI):qMq (f+1) x0 x1 x2 x3 x4 x5 x6 x7 x8 x9 x10 x11 x12=qGs (qMq f) x0 x1 x2 x3 x4 x5 x6 x7 x8 x9 x10 x11 x12:=by kernel_rfl
theorem qTW:∀ f,qMq f=qEk f
 | 0=>rfl
 | f+1=>by funext x0 x1 x2 x3 x4 x5 x6 x7 x8 x9 x10 x11 x12;rw[qeM,qTW f];rfl
theorem qeR:qe Tryz.prog qIe 1 (qF Tryz.f108 9):=
 qj mixed qMo (qP.of (l':=[]) (by kernel_rfl) trivial) (q:=9) (kin:=[0,1,5,6,21,22,23,32,33,34]) (kout:=[0,1,5,6,21,22,23]) (by kernel_rfl) (by kernel_rfl) fun vs objs K r h=>by
  replace h:qMu vs objs K=some r:=h
  unfold qMu at h
  split at h
  ·obtain⟨t,h1,h2⟩:=qE h
   rw[<- qTX] at h1
   refine⟨_,qMr,t,qC,h1,fun e vs' objs' hd=>?_⟩
   unfold qMr at hd;split at hd;(cases hd;exact h2);cases hd
  ·cases h
theorem qeQ:qe Tryz.prog qIe 1 (qF Tryz.f108 6):=
 qj mixed qMo (qP.of (l':=[qF Tryz.f108 9]) (by kernel_rfl) ⟨qeR,trivial⟩) (q:=6) (kin:=[0,1,5,6,21,22,23]) (kout:=[5]) (by kernel_rfl) (by kernel_rfl) fun vs objs K r h=>by
  replace h:qMt vs objs K=some r:=h
  unfold qMt at h
  split at h
  ·obtain⟨t,h1,h2⟩:=qE h
   rw[<- qTW] at h1
   refine⟨_,qMp,t,qC,h1,fun e vs' objs' hd=>?_⟩
   unfold qMp at hd;split at hd;(cases hd;exact h2);cases hd
  ·cases h
def qTV:V->List Obj->Option (List (LI×LI)):=fun v objs=>match v,objs with
 | .s (.mp 1),[.map false true [.i .i64] [.i .u64,.i .u64] y0]=>some (y0)
 | _,_=>none
def qTU:HA:=fun o vs objs K=>match vs,List.map Obj.toRO objs with
 | [.s (.ptr 0 0 none 0),.s (.i .i64 x0)],[.rcells 87 [.arr .i8 81 x1,.arr .i8 16 x2,.one [.i .i8 x3],.rows [.i .u64,.i .u64] 32 x4,.rows [.i .u64,.i .u64] 2 x5]]=>ob (qId x0 x1 x2 x3 x4 x5) fun y0=>K true (.s (.mp 1)) ([.map false true [.i .i64] [.i .u64,.i .u64] y0])
 | _,_=>o 108 vs objs K
def qTY (o:Orc):Orc:=qL 108 (qTU o) o
theorem qeP:OQ Tryz.prog qTY:=fun _ ho=>qN ho fun vs objs K r h=>by
 unfold qTU at h
 split at h
 ·have hq:List.map Obj.toRO objs=_:=(by rename_i hq;first | exact hq | assumption)
  obtain⟨t,h1,h2⟩:=qE h
  refine qAs mixed qMo (D:=qTV) (m:=1) (fn:=Tryz.f108) (by kernel_rfl) hq (by kernel_rfl) (by kernel_rfl) (qP.of (l':=[qF Tryz.f108 6]) (by kernel_rfl) ⟨qeQ,trivial⟩) (Eq.trans (by kernel_rfl) h1) fun v objs' hd=>?_
  unfold qTV at hd;split at hd;(cases hd;exact h2);cases hd
 ·exact ho _ _ _ _ _ h
def qjl:Ctx:=mkC 44 ((qGc (qQG (qL8 (qL7 (qJ8 (qTY (qJd (qKG qK))))))))) [] qV
theorem qjm:CtxOK Tryz.prog qjl:=mkC_ok ((qIJ _ (qZL _ (qR8 _ (qR6 _ (qMh _ (qeP _ (qL6 _ (qNG _ qM)))))))))
def qXp:V->List Obj->Option (Int×Int×Int×Int×Bool×List (LI×LI)):=fun v objs=>match v,objs with
 | .agg [.one [.ptr 0 0 none 0,.i .i64 y0,.i .i64 y1,.i .u64 y2,.i .u64 y3,.mp 1,.b y4]],[.map false true [.i .i64] [.i .u64,.i .u64] y5]=>some (y0,y1,y2,y3,y4,y5)
 | _,_=>none
def qXo:HA:=fun o vs objs K=>match vs,List.map Obj.toRO objs with
 | [.s (.ptr 0 0 none 0)],[.rcells 87 [.arr .i8 81 x0,.arr .i8 16 x1,.one [.i .i8 x2],.rows [.i .u64,.i .u64] 32 x3,.rows [.i .u64,.i .u64] 2 x4]]=>ob (qJB x0 x1 x2 x3 x4) fun (z0,z1,z2,z3,z4,z5)=>K true (.agg [.one [.ptr 0 0 none 0,.i .i64 z0,.i .i64 z1,.i .u64 z2,.i .u64 z3,.mp 1,.b z4]]) ([.map false true [.i .i64] [.i .u64,.i .u64] z5])
 | _,_=>o 85 vs objs K
def qPZ (o:Orc):Orc:=qL 85 (qXo o) o
theorem qXq:OQ Tryz.prog qPZ:=fun _ ho=>qN ho fun vs objs K r h=>by
 unfold qXo at h
 split at h
 ·have hq:List.map Obj.toRO objs=_:=(by rename_i hq;first | exact hq | assumption)
  obtain⟨t,h1,h2⟩:=qE h
  refine qAs mixed qjm (D:=qXp) (m:=1) (fn:=Tryz.f85) (by kernel_rfl) hq (by kernel_rfl) (by kernel_rfl) (qP.of (l':=[]) (by kernel_rfl) trivial) (Eq.trans (by kernel_rfl) h1) fun v objs' hd=>?_
  unfold qXp at hd;split at hd;(cases hd;exact h2);cases hd
 ·exact ho _ _ _ _ _ h
def ql4:Ctx:=mkC 13 (qK) [] qV
theorem ql5:CtxOK Tryz.prog ql4:=mkC_ok (qM)
def qY2:V->List Obj->Option (Int):=fun v objs=>match v,objs with
 | .s (.i .i64 y0),[]=>some (y0)
 | _,_=>none
def qY1:HA:=fun o vs objs K=>match vs,objs with
 | [.s (.i .i64 x0)],[]=>ob (qDp x0) fun y0=>K false (.s (.i .i64 y0)) ([])
 | _,_=>o 63 vs objs K
def qLV (o:Orc):Orc:=qL 63 (qY1 o) o
theorem qP5:OQ Tryz.prog qLV:=fun _ ho=>qN ho fun vs objs K r h=>by
 unfold qY1 at h
 split at h
 ·obtain⟨t,h1,h2⟩:=qE h
  refine qd mixed ql5 (D:=qY2) (fn:=Tryz.f63) (Eq.trans (by kernel_rfl) h1) (by kernel_rfl) fun v objs' hd=>?_
  unfold qY2 at hd;split at hd;(cases hd;exact h2);cases hd
 ·exact ho _ _ _ _ _ h
def qSg:Ex->List V->List Obj->Option (Int×Int×Int×Int):=fun e vs objs=>match e,vs,objs with
 | .exit 0,[.s (.ptr 0 0 none 0),.s (.ptr 1 0 none 0)],[.cells 83 [.one [.i .u64 y0,.i .u64 y1]],.cells 83 [.one [.i .u64 y2,.i .u64 y3]]]=>some (y0,y1,y2,y3)
 | _,_,_=>none
def qSi:HL:=fun vs objs K=>match vs,objs with
 | [.s (.i .i64 x0),.s (.ptr 0 0 none 0),.s (.ptr 1 0 none 0),.s (.i .i64 x1)],[.cells 83 [.one [.i .u64 x2,.i .u64 x3]],.cells 83 [.one [.i .u64 x4,.i .u64 x5]]]=>ob (qMP qC x0 x1 x2 x3 x4 x5) fun (z0,z1,z2,z3)=>K (.exit 0) ([.s (.ptr 0 0 none 0),.s (.ptr 1 0 none 0)]) ([.cells 83 [.one [.i .u64 z0,.i .u64 z1]],.cells 83 [.one [.i .u64 z2,.i .u64 z3]]])
 | _,_=>none
def qqx:{R:Type}->Nat->List V->List Obj->(Ex->List V->List Obj->Option R)->Option R:=fun q vs objs K=>bif Nat.beq q 3 then qSi vs objs K else none
def qSf:Ctx:=mkC 23 ((qEV (qSa qK))) [(3,[0,2,3,6],[2,3])] qqx
theorem qdE:CtxOK Tryz.prog qSf:=mkC_ok ((qFh _ (qc7 _ qM)))
def qSh (f:Nat) (x0 x1:Int) (x2 x3:Int) (x4 x5:Int):Option (Int×Int×Int×Int):=qh qSf 0 [0,2,3,6] [2,3] (qF Tryz.f130 3) f ([.s (.i .i64 x0),.s (.ptr 0 0 none 0),.s (.ptr 1 0 none 0),.s (.i .i64 x1)]) ([.cells 83 [.one [.i .u64 x2,.i .u64 x3]],.cells 83 [.one [.i .u64 x4,.i .u64 x5]]]) qSg
theorem qqw (f:Nat) (x0 x1:Int) (x2 x3:Int) (x4 x5:Int):qSh (f+1) x0 x1 x2 x3 x4 x5=qdH (qSh f) x0 x1 x2 x3 x4 x5:=by kernel_rfl
theorem qdG:∀ f,qSh f=qMP f
 | 0=>rfl
 | f+1=>by funext x0 x1 x2 x3 x4 x5;rw[qqw,qdG f];rfl
theorem qqz:qe Tryz.prog qSf 0 (qF Tryz.f130 3):=
 qj mixed qdE (qP.of (l':=[]) (by kernel_rfl) trivial) (q:=3) (kin:=[0,2,3,6]) (kout:=[2,3]) (by kernel_rfl) (by kernel_rfl) fun vs objs K r h=>by
  replace h:qSi vs objs K=some r:=h
  unfold qSi at h
  split at h
  ·obtain⟨t,h1,h2⟩:=qE h
   rw[<- qdG] at h1
   refine⟨_,qSg,t,qC,h1,fun e vs' objs' hd=>?_⟩
   unfold qSg at hd;split at hd;(cases hd;exact h2);cases hd
  ·cases h
def qdF:V->List Obj->Option (Int×Int):=fun v objs=>match v,objs with
 | .agg [.one [.i .u64 y0,.i .u64 y1]],[]=>some (y0,y1)
 | _,_=>none
def qdD:HA:=fun o vs objs K=>match vs,objs with
 | [.s (.i .i64 x0)],[]=>ob (qMO x0) fun (z0,z1)=>K false (.agg [.one [.i .u64 z0,.i .u64 z1]]) ([])
 | _,_=>o 130 vs objs K
def qdI (o:Orc):Orc:=qL 130 (qdD o) o
theorem qqy:OQ Tryz.prog qdI:=fun _ ho=>qN ho fun vs objs K r h=>by
 unfold qdD at h
 split at h
 ·obtain⟨t,h1,h2⟩:=qE h
  refine qAQ mixed qdE (D:=qdF) (fn:=Tryz.f130) (Eq.trans (by kernel_rfl) h1) (by kernel_rfl) (m:=0) rfl (qP.of (l':=[qF Tryz.f130 3]) (by kernel_rfl) ⟨qqz,trivial⟩) fun v objs' hd=>?_
  unfold qdF at hd;split at hd;(cases hd;exact h2);cases hd
 ·exact ho _ _ _ _ _ h
def qiL:Ctx:=mkC 27 ((qMM (qGa (qdI (qFK (qLV (qDI qK))))))) [] qV
theorem qiM:CtxOK Tryz.prog qiL:=mkC_ok ((qSW _ (qIH _ (qqy _ (qGI _ (qP5 _ (qDo _ qM)))))))
def qWb:V->List Obj->Option (Bool×Bool):=fun v objs=>match v,objs with
 | .tup [W.s (.b y0),W.s (.b y1)],[]=>some (y0,y1)
 | _,_=>none
def qWa:HA:=fun o vs objs K=>match vs,objs with
 | [.s (.i .i8 x0),.s (.i .i64 x1),.s (.i .i64 x2)],[]=>ob (qKn x0 x1 x2) fun (z0,z1)=>K false (.tup [W.s (.b z0),W.s (.b z1)]) ([])
 | _,_=>o 116 vs objs K
def qWc (o:Orc):Orc:=qL 116 (qWa o) o
theorem qiN:OQ Tryz.prog qWc:=fun _ ho=>qN ho fun vs objs K r h=>by
 unfold qWa at h
 split at h
 ·obtain⟨t,h1,h2⟩:=qE h
  refine qd mixed qiM (D:=qWb) (fn:=Tryz.f116) (Eq.trans (by kernel_rfl) h1) (by kernel_rfl) fun v objs' hd=>?_
  unfold qWb at hd;split at hd;(cases hd;exact h2);cases hd
 ·exact ho _ _ _ _ _ h
end
end Go.Kk.KkGT
