/- Printed by a tool of this project (KkGen): the program's functions come to the plain ones. -/
import Derived.Test.YtjckfjagajmekaaGreatDoorKkSRd
namespace Go.Kk.KkSR
noncomputable section
open Go.Proofs Go.Kk.Pl
set_option maxRecDepth 100000
set_option maxHeartbeats 4000000
def qP6:Ex->List V->List Obj->Option ((Bool)⊕(Unit)):=fun e vs objs=>match e,vs,objs with
 | .ret,[.s (.b y0)],[]=>some (.inl (y0))
 | .exit 0,[.s .bad],[]=>some (.inr ())
 | _,_,_=>none
def qP8:HL:=fun vs objs K=>match vs,objs with
 | [.s (.i .i64 x0),.s (.ptr 0 0 none 0),.s (.ptr 1 0 none 0),.s (.i .i64 x1),.s (.i .i64 x2)],[.cells 29 [.arr .i8 81 x3,.arr .i8 16 x4,.one [.i .i8 x5]],.cells 89 [Seg.barr 81 x6]]=>ob (qFK qC x0 x1 x2 x3 x4 x5 x6) fun t0=>sw t0 (fun y0=>K (.ret) ([.s (.b y0)]) ([])) (fun _=>K (.exit 0) ([.s .bad]) ([]))
 | _,_=>none
def qll:{R:Type}->Nat->List V->List Obj->(Ex->List V->List Obj->Option R)->Option R:=fun q vs objs K=>bif Nat.beq q 6 then qP8 vs objs K else none
def qLS:Ctx:=mkC 39 ((qYQ (qJB (qZB (qYs qO))))) [(6,[1,2,5,6,7],[4])] qll
theorem qY3:CtxOK Tryz.prog qLS:=mkC_ok ((qk4 _ (qLL _ (qlr _ (qlZ _ qP)))))
def qP7 (f:Nat) (x0 x1 x2:Int) (x3 x4:LI) (x5:Int) (x6:List Bool):Option ((Bool)⊕(Unit)):=qh qLS 0 [1,2,5,6,7] [4] (qI Tryz.f18 6) f ([.s (.i .i64 x0),.s (.ptr 0 0 none 0),.s (.ptr 1 0 none 0),.s (.i .i64 x1),.s (.i .i64 x2)]) ([.cells 29 [.arr .i8 81 x3,.arr .i8 16 x4,.one [.i .i8 x5]],.cells 89 [Seg.barr 81 x6]]) qP6
theorem qlk (f:Nat) (x0 x1 x2:Int) (x3 x4:LI) (x5:Int) (x6:List Bool):qP7 (f+1) x0 x1 x2 x3 x4 x5 x6=qHq (qP7 f) x0 x1 x2 x3 x4 x5 x6:=by kernel_rfl
theorem qY5:∀ f,qP7 f=qFK f
 | 0=>rfl
 | f+1=>by funext x0 x1 x2 x3 x4 x5 x6;rw[qlk,qY5 f];rfl
theorem qln:qd Tryz.prog qLS 0 (qI Tryz.f18 6):=
 ql mixed qY3 (qT.of (l':=[]) (by kernel_rfl) trivial) (q:=6) (kin:=[1,2,5,6,7]) (kout:=[4]) (by kernel_rfl) (by kernel_rfl) fun vs objs K r h=>by
  replace h:qP8 vs objs K=some r:=h
  unfold qP8 at h
  split at h
  ·skip
   obtain⟨t,h1,h2⟩:=qG h
   rw[<- qY5] at h1
   refine⟨_,qP6,t,qC,h1,fun e vs' objs' hd=>?_⟩
   unfold qP6 at hd
   split at hd
   ·skip
    cases hd
    exact h2
   ·skip
    cases hd
    exact h2
   ·cases hd
  ·cases h
def qY4:V->List Obj->Option (Bool):=fun v objs=>match v,objs with
 | .s (.b y0),[]=>some (y0)
 | _,_=>none
theorem qlj (x0 x1:LI) (x2 x3:Int):fnE qLS Tryz.f18 ([.agg [.arr .i8 81 x0,.arr .i8 16 x1,.one [.i .i8 x2]],.s (.i .i64 x3)]) ([]) qY4=qJI x0 x1 x2 x3:=by kernel_rfl
def qY2:HA:=fun o vs objs K=>match vs,objs with
 | [.agg [.arr .i8 81 x0,.arr .i8 16 x1,.one [.i .i8 x2]],.s (.i .i64 x3)],[]=>ob (qJI x0 x1 x2 x3) fun y0=>K false (.s (.b y0)) ([])
 | _,_=>o 18 vs objs K
def qY6 (o:Orc):Orc:=qR 18 (qY2 o) o
theorem qlm:OQ Tryz.prog qY6:=fun _ ho=>qS ho fun vs objs K r h=>by
 unfold qY2 at h
 split at h
 ·skip
  obtain⟨t,h1,h2⟩:=qG h
  refine qAY mixed qY3 (fn:=Tryz.f18) (b:=(Tryz.f18).body.getD .skip) (by kernel_rfl) (by kernel_rfl) (by kernel_rfl) ((qlj _ _ _ _).trans h1) (m:=0) rfl (qT.of (l':=[qI Tryz.f18 6]) (by kernel_rfl) ⟨qln,trivial⟩) fun v objs' hd=>?_
  unfold qY4 at hd;split at hd;(cases hd;exact h2);cases hd
 ·exact ho _ _ _ _ _ h
def qYz:Ctx:=mkC 15 ((qY6 (qYd qO))) [] qW
theorem qlh:CtxOK Tryz.prog qYz:=mkC_ok ((qlm _ (qlG _ qP)))
def qY0:V->List Obj->Option (Int):=fun v objs=>match v,objs with
 | .s (.i .i64 y0),[]=>some (y0)
 | _,_=>none
theorem qlg (x0 x1:LI) (x2:Int):fnE qYz Tryz.f7 ([.agg [.arr .i8 81 x0,.arr .i8 16 x1,.one [.i .i8 x2]]]) ([]) qY0=qJH x0 x1 x2:=by kernel_rfl
def qYy:HA:=fun o vs objs K=>match vs,objs with
 | [.agg [.arr .i8 81 x0,.arr .i8 16 x1,.one [.i .i8 x2]]],[]=>ob (qJH x0 x1 x2) fun y0=>K false (.s (.i .i64 y0)) ([])
 | _,_=>o 7 vs objs K
def qY1 (o:Orc):Orc:=qR 7 (qYy o) o
theorem qli:OQ Tryz.prog qY1:=fun _ ho=>qS ho fun vs objs K r h=>by
 unfold qYy at h
 split at h
 ·skip
  obtain⟨t,h1,h2⟩:=qG h
  refine qa mixed qlh ((qlg _ _ _).trans h1) (by kernel_rfl) fun v objs' hd=>?_
  unfold qY0 at hd;split at hd;(cases hd;exact h2);cases hd
 ·exact ho _ _ _ _ _ h
def qTY:Ctx:=mkC 21 ((qND (qJ9 qO))) [] qW
theorem qe2:CtxOK Tryz.prog qTY:=mkC_ok ((qTm _ (qNH _ qP)))
def qTZ:V->List Obj->Option (LI×LI×Int×Bool):=fun v objs=>match v,objs with
 | .tup [W.agg [.arr .i8 81 y0,.arr .i8 16 y1,.one [.i .i8 y2]],W.s (.b y3)],[]=>some (y0,y1,y2,y3)
 | _,_=>none
theorem qe1 (x0 x1:LI) (x2 x3:Int) (x4 x5:Int) (x6:Bool):fnE qTY Tryz.f16 ([.agg [.arr .i8 81 x0,.arr .i8 16 x1,.one [.i .i8 x2]],.agg [.one [.i .i64 x3,.i .i64 x4,.i .i64 x5,.b x6]]]) ([]) qTZ=qEA x0 x1 x2 x3 x4 x5 x6:=by kernel_rfl
def qTX:HA:=fun o vs objs K=>match vs,objs with
 | [.agg [.arr .i8 81 x0,.arr .i8 16 x1,.one [.i .i8 x2]],.agg [.one [.i .i64 x3,.i .i64 x4,.i .i64 x5,.b x6]]],[]=>ob (qEA x0 x1 x2 x3 x4 x5 x6) fun z=>K false (.tup [W.agg [.arr .i8 81 (z.1),.arr .i8 16 (z.2.1),.one [.i .i8 (z.2.2.1)]],W.s (.b (z.2.2.2))]) ([])
 | _,_=>o 16 vs objs K
def qTa (o:Orc):Orc:=qR 16 (qTX o) o
theorem qe3:OQ Tryz.prog qTa:=fun _ ho=>qS ho fun vs objs K r h=>by
 unfold qTX at h
 split at h
 ·skip
  obtain⟨t,h1,h2⟩:=qG h
  refine qa mixed qe2 ((qe1 _ _ _ _ _ _ _).trans h1) (by kernel_rfl) fun v objs' hd=>?_
  unfold qTZ at hd;split at hd;(cases hd;exact h2);cases hd
 ·exact ho _ _ _ _ _ h
def qOD:Ex->List V->List Obj->Option (Int×Bool×LI×LI×Int):=fun e vs objs=>match e,vs,objs with
 | .exit 0,[.s (.i .i64 y0),.s (.ptr 0 0 none 0),.s (.b y1)],[.cells 29 [.arr .i8 81 y2,.arr .i8 16 y3,.one [.i .i8 y4]]]=>some (y0,y1,y2,y3,y4)
 | _,_,_=>none
def qOF:HL:=fun vs objs K=>match vs,objs with
 | [.s (.i .i64 x0),.s (.ptr 0 0 none 0),.s (.b x1),.s (.sl 1 0 x2 true),.s (.i .i64 x3),.s (.i .i64 x4)],[.cells 29 [.arr .i8 81 x5,.arr .i8 16 x6,.one [.i .i8 x7]],.sli 41 false (.rows [.i .i64,.i .i64,.i .i64,.b] x8 x9)]=>ob (qDY qC x0 x1 x2 x3 x4 x5 x6 x7 x8 x9) fun z=>K (.exit 0) ([.s (.i .i64 (z.1)),.s (.ptr 0 0 none 0),.s (.b (z.2.1))]) ([.cells 29 [.arr .i8 81 (z.2.2.1),.arr .i8 16 (z.2.2.2.1),.one [.i .i8 (z.2.2.2.2)]]])
 | _,_=>none
def qhK:{R:Type}->Nat->List V->List Obj->(Ex->List V->List Obj->Option R)->Option R:=fun q vs objs K=>bif Nat.beq q 7 then qOF vs objs K else none
def qKd:Ctx:=mkC 98 ((qQU (qQY (qQR (qTa (qHK (qMv (qY1 (qVg qO))))))))) [(7,[1,2,5,30,31,32],[1,2,5])] qhK
theorem qOB:CtxOK Tryz.prog qKd:=mkC_ok ((qZX _ (qZd _ (qZS _ (qe3 _ (qIs _ (qSs _ (qli _ (qhO _ qP)))))))))
def qOE (f:Nat) (x0:Int) (x1:Bool) (x2:Nat) (x3 x4:Int) (x5 x6:LI) (x7:Int) (x8:Nat) (x9:LL):Option (Int×Bool×LI×LI×Int):=qh qKd 0 [1,2,5,30,31,32] [1,2,5] (qI Tryz.f5 7) f ([.s (.i .i64 x0),.s (.ptr 0 0 none 0),.s (.b x1),.s (.sl 1 0 x2 true),.s (.i .i64 x3),.s (.i .i64 x4)]) ([.cells 29 [.arr .i8 81 x5,.arr .i8 16 x6,.one [.i .i8 x7]],.sli 41 false (.rows [.i .i64,.i .i64,.i .i64,.b] x8 x9)]) qOD
theorem qhJ (f:Nat) (x0:Int) (x1:Bool) (x2:Nat) (x3 x4:Int) (x5 x6:LI) (x7:Int) (x8:Nat) (x9:LL):qOE (f+1) x0 x1 x2 x3 x4 x5 x6 x7 x8 x9=qKe (qOE f) x0 x1 x2 x3 x4 x5 x6 x7 x8 x9:=by kernel_rfl
theorem qVb:∀ f,qOE f=qDY f
 | 0=>rfl
 | f+1=>by funext x0 x1 x2 x3 x4 x5 x6 x7 x8 x9;rw[qhJ,qVb f];rfl
theorem qVc:qd Tryz.prog qKd 0 (qI Tryz.f5 7):=
 ql mixed qOB (qT.of (l':=[]) (by kernel_rfl) trivial) (q:=7) (kin:=[1,2,5,30,31,32]) (kout:=[1,2,5]) (by kernel_rfl) (by kernel_rfl) fun vs objs K r h=>by
  replace h:qOF vs objs K=some r:=h
  unfold qOF at h
  split at h
  ·skip
   obtain⟨t,h1,h2⟩:=qG h
   rw[<- qVb] at h1
   refine⟨_,qOD,t,qC,h1,fun e vs' objs' hd=>?_⟩
   unfold qOD at hd;split at hd;(cases hd;exact h2);cases hd
  ·cases h
def qOC:V->List Obj->Option (Bool):=fun v objs=>match v,objs with
 | .s (.b y0),[]=>some (y0)
 | _,_=>none
theorem qVZ (x0 x1:LI) (x2 x3:Int):fnE qKd Tryz.f5 ([.agg [.arr .i8 81 x0,.arr .i8 16 x1,.one [.i .i8 x2]],.s (.i .i64 x3)]) ([]) qOC=qIr x0 x1 x2 x3:=by kernel_rfl
def qVa:HA:=fun o vs objs K=>match vs,objs with
 | [.agg [.arr .i8 81 x0,.arr .i8 16 x1,.one [.i .i8 x2]],.s (.i .i64 x3)],[]=>ob (qIr x0 x1 x2 x3) fun y0=>K false (.s (.b y0)) ([])
 | _,_=>o 5 vs objs K
def qhL (o:Orc):Orc:=qR 5 (qVa o) o
theorem qhI {vs:List V} {objs:List Obj} (x0 x1:LI) (x2 x3:Int) {R:Type} {K:Bool->V->List Obj->Option R} {r:R} (hv:vs=[.agg [.arr .i8 81 x0,.arr .i8 16 x1,.one [.i .i8 x2]],.s (.i .i64 x3)]) (ho:objs=[]) (h:ob (qIr x0 x1 x2 x3) (fun y0=>K false (.s (.b y0)) ([]))=some r):
  ∃ p v objs',K p v objs'=some r /\ qD0 Tryz.prog 5 vs objs p v objs':=by
 subst hv
 subst ho
 obtain⟨t,h1,h2⟩:=qG h
 refine qAY mixed qOB (fn:=Tryz.f5) (b:=(Tryz.f5).body.getD .skip) (by kernel_rfl) (by kernel_rfl) (by kernel_rfl) ((qVZ _ _ _ _).trans h1) (m:=0) rfl (qT.of (l':=[qI Tryz.f5 7]) (by kernel_rfl) ⟨qVc,trivial⟩) fun v objs' hd=>?_
 unfold qOC at hd;split at hd;(cases hd;exact h2);cases hd
theorem qp0:OQ Tryz.prog qhL:=fun _ ho=>qS ho fun vs objs K r h=>by
 unfold qVa at h
 split at h
 ·skip
  obtain⟨t,h1,h2⟩:=qG h
  refine qAY mixed qOB (fn:=Tryz.f5) (b:=(Tryz.f5).body.getD .skip) (by kernel_rfl) (by kernel_rfl) (by kernel_rfl) ((qVZ _ _ _ _).trans h1) (m:=0) rfl (qT.of (l':=[qI Tryz.f5 7]) (by kernel_rfl) ⟨qVc,trivial⟩) fun v objs' hd=>?_
  unfold qOC at hd;split at hd;(cases hd;exact h2);cases hd
 ·exact ho _ _ _ _ _ h
end
end Go.Kk.KkSR
