/- Printed by a tool of this project (KkGen): the program's functions come to the plain ones. -/
import Derived.Test.YthklalefbhbhmaaGreatDoorKkGTd
namespace Go.Kk.KkGT
noncomputable section
open Go.Proofs Go.Kk.Pl
set_option maxRecDepth 100000
set_option maxHeartbeats 4000000
def qQr:Ex->List V->List Obj->Option ((Int×LI×LI×Int)⊕(LI×LI×Int)):=fun e vs objs=>match e,vs,objs with
 | .ret,[.s (.ptr 0 0 none 0),.s (.i .i64 y0)],[.cells 28 [.arr .i8 81 y1,.arr .i8 16 y2,.one [.i .i8 y3]]]=>some (.inl (y0,y1,y2,y3))
 | .exit 0,[.s (.ptr 0 0 none 0),.s .bad],[.cells 28 [.arr .i8 81 y0,.arr .i8 16 y1,.one [.i .i8 y2]]]=>some (.inr (y0,y1,y2))
 | _,_,_=>none
def qQj:Ex->List V->List Obj->Option ((Int×Int×LI×LI×Int)⊕(Int×LI×LI×Int)):=fun e vs objs=>match e,vs,objs with
 | .ret,[.s (.ptr 0 0 none 0),.s (.i .i64 y0),.s (.i .i64 y1)],[.cells 28 [.arr .i8 81 y2,.arr .i8 16 y3,.one [.i .i8 y4]]]=>some (.inl (y0,y1,y2,y3,y4))
 | .exit 4,[.s (.ptr 0 0 none 0),.s .bad,.s (.i .i64 y0)],[.cells 28 [.arr .i8 81 y1,.arr .i8 16 y2,.one [.i .i8 y3]]]=>some (.inr (y0,y1,y2,y3))
 | _,_,_=>none
def qQt:Ex->List V->List Obj->Option ((Int×LI×LI×Int)⊕(LI×LI×Int)):=fun e vs objs=>match e,vs,objs with
 | .ret,[.s (.ptr 0 0 none 0),.s (.i .i64 y0)],[.cells 28 [.arr .i8 81 y1,.arr .i8 16 y2,.one [.i .i8 y3]]]=>some (.inl (y0,y1,y2,y3))
 | .exit 2,[.s (.ptr 0 0 none 0),.s .bad],[.cells 28 [.arr .i8 81 y0,.arr .i8 16 y1,.one [.i .i8 y2]]]=>some (.inr (y0,y1,y2))
 | _,_,_=>none
def qQl:Ex->List V->List Obj->Option ((Int×LI×LI×Int)⊕(LI×LI×Int)):=fun e vs objs=>match e,vs,objs with
 | .ret,[.s (.ptr 0 0 none 0),.s (.i .i64 y0)],[.cells 28 [.arr .i8 81 y1,.arr .i8 16 y2,.one [.i .i8 y3]]]=>some (.inl (y0,y1,y2,y3))
 | .exit 6,[.s (.ptr 0 0 none 0),.s .bad],[.cells 28 [.arr .i8 81 y0,.arr .i8 16 y1,.one [.i .i8 y2]]]=>some (.inr (y0,y1,y2))
 | _,_,_=>none
def qQn:Ex->List V->List Obj->Option ((Int×LI×LI×Int)⊕(LI×LI×Int)):=fun e vs objs=>match e,vs,objs with
 | .ret,[.s (.ptr 0 0 none 0),.s (.i .i64 y0)],[.cells 28 [.arr .i8 81 y1,.arr .i8 16 y2,.one [.i .i8 y3]]]=>some (.inl (y0,y1,y2,y3))
 | .exit 8,[.s (.ptr 0 0 none 0),.s .bad],[.cells 28 [.arr .i8 81 y0,.arr .i8 16 y1,.one [.i .i8 y2]]]=>some (.inr (y0,y1,y2))
 | _,_,_=>none
def qQp:Ex->List V->List Obj->Option ((Int)⊕(Unit)):=fun e vs objs=>match e,vs,objs with
 | .ret,[.s (.i .i64 y0)],[]=>some (.inl (y0))
 | .exit 10,[.s .bad],[]=>some (.inr ())
 | _,_,_=>none
def qQz:HL:=fun vs objs K=>match vs,objs with
 | [.s (.ptr 0 0 none 0),.s (.i .i64 x0)],[.cells 28 [.arr .i8 81 x1,.arr .i8 16 x2,.one [.i .i8 x3]]]=>ob (qCA qC x0 x1 x2 x3) fun t0=>sw t0 (fun (z0,z1,z2,z3)=>K (.ret) ([.s (.ptr 0 0 none 0),.s (.i .i64 z0)]) ([.cells 28 [.arr .i8 81 z1,.arr .i8 16 z2,.one [.i .i8 z3]]])) (fun (z0,z1,z2)=>K (.exit 0) ([.s (.ptr 0 0 none 0),.s .bad]) ([.cells 28 [.arr .i8 81 z0,.arr .i8 16 z1,.one [.i .i8 z2]]]))
 | _,_=>none
def qQv:HL:=fun vs objs K=>match vs,objs with
 | [.s (.ptr 0 0 none 0),.s (.i .i64 x0),.s (.i .i64 x1)],[.cells 28 [.arr .i8 81 x2,.arr .i8 16 x3,.one [.i .i8 x4]]]=>ob (qBk qC x0 x1 x2 x3 x4) fun t0=>sw t0 (fun (z0,z1,z2,z3,z4)=>K (.ret) ([.s (.ptr 0 0 none 0),.s (.i .i64 z0),.s (.i .i64 z1)]) ([.cells 28 [.arr .i8 81 z2,.arr .i8 16 z3,.one [.i .i8 z4]]])) (fun (z0,z1,z2,z3)=>K (.exit 4) ([.s (.ptr 0 0 none 0),.s .bad,.s (.i .i64 z0)]) ([.cells 28 [.arr .i8 81 z1,.arr .i8 16 z2,.one [.i .i8 z3]]]))
 | _,_=>none
def qQ0:HL:=fun vs objs K=>match vs,objs with
 | [.s (.ptr 0 0 none 0),.s (.i .i64 x0)],[.cells 28 [.arr .i8 81 x1,.arr .i8 16 x2,.one [.i .i8 x3]]]=>ob (qBY qC x0 x1 x2 x3) fun t0=>sw t0 (fun (z0,z1,z2,z3)=>K (.ret) ([.s (.ptr 0 0 none 0),.s (.i .i64 z0)]) ([.cells 28 [.arr .i8 81 z1,.arr .i8 16 z2,.one [.i .i8 z3]]])) (fun (z0,z1,z2)=>K (.exit 2) ([.s (.ptr 0 0 none 0),.s .bad]) ([.cells 28 [.arr .i8 81 z0,.arr .i8 16 z1,.one [.i .i8 z2]]]))
 | _,_=>none
def qQw:HL:=fun vs objs K=>match vs,objs with
 | [.s (.ptr 0 0 none 0),.s (.i .i64 x0)],[.cells 28 [.arr .i8 81 x1,.arr .i8 16 x2,.one [.i .i8 x3]]]=>ob (qBV qC x0 x1 x2 x3) fun t0=>sw t0 (fun (z0,z1,z2,z3)=>K (.ret) ([.s (.ptr 0 0 none 0),.s (.i .i64 z0)]) ([.cells 28 [.arr .i8 81 z1,.arr .i8 16 z2,.one [.i .i8 z3]]])) (fun (z0,z1,z2)=>K (.exit 6) ([.s (.ptr 0 0 none 0),.s .bad]) ([.cells 28 [.arr .i8 81 z0,.arr .i8 16 z1,.one [.i .i8 z2]]]))
 | _,_=>none
def qQx:HL:=fun vs objs K=>match vs,objs with
 | [.s (.ptr 0 0 none 0),.s (.i .i64 x0)],[.cells 28 [.arr .i8 81 x1,.arr .i8 16 x2,.one [.i .i8 x3]]]=>ob (qBW qC x0 x1 x2 x3) fun t0=>sw t0 (fun (z0,z1,z2,z3)=>K (.ret) ([.s (.ptr 0 0 none 0),.s (.i .i64 z0)]) ([.cells 28 [.arr .i8 81 z1,.arr .i8 16 z2,.one [.i .i8 z3]]])) (fun (z0,z1,z2)=>K (.exit 8) ([.s (.ptr 0 0 none 0),.s .bad]) ([.cells 28 [.arr .i8 81 z0,.arr .i8 16 z1,.one [.i .i8 z2]]]))
 | _,_=>none
def qQy:HL:=fun vs objs K=>match vs,objs with
 | [.s (.ptr 0 0 none 0),.s (.i .i64 x0)],[.cells 28 [.arr .i8 81 x1,.arr .i8 16 x2,.one [.i .i8 x3]]]=>ob (qBX qC x0 x1 x2 x3) fun t0=>sw t0 (fun y0=>K (.ret) ([.s (.i .i64 y0)]) ([])) (fun _=>K (.exit 10) ([.s .bad]) ([]))
 | _,_=>none
def qnX:{R:Type}->Nat->List V->List Obj->(Ex->List V->List Obj->Option R)->Option R:=fun q vs objs K=>bif Nat.beq q 4 then qQz vs objs K else bif Nat.beq q 12 then qQv vs objs K else bif Nat.beq q 9 then qQ0 vs objs K else bif Nat.beq q 20 then qQw vs objs K else bif Nat.beq q 25 then qQx vs objs K else bif Nat.beq q 30 then qQy vs objs K else none
def qCi:Ctx:=mkC 103 ((qLn (qLi (qZl (qaU (qah (qDK qK))))))) [(4,[1,3],[1,2]),(9,[1,4],[1,2]),(12,[1,4,5],[1,2,4]),(20,[1,7],[1,2]),(25,[1,8],[1,2]),(30,[1,9],[2])] qnX
theorem qGR:CtxOK Tryz.prog qCi:=mkC_ok ((qQ8 _ (qQX _ (qmz _ (qnh _ (qnr _ (qDr _ qM)))))))
def qQs (f:Nat) (x0:Int) (x1 x2:LI) (x3:Int):Option ((Int×LI×LI×Int)⊕(LI×LI×Int)):=qh qCi 0 [1,3] [1,2] (qF Tryz.f23 4) f ([.s (.ptr 0 0 none 0),.s (.i .i64 x0)]) ([.cells 28 [.arr .i8 81 x1,.arr .i8 16 x2,.one [.i .i8 x3]]]) qQr
theorem qnV (f:Nat) (x0:Int) (x1 x2:LI) (x3:Int):qQs (f+1) x0 x1 x2 x3=qDy (qQs f) x0 x1 x2 x3:=by kernel_rfl
theorem qaN:∀ f,qQs f=qCA f
 | 0=>rfl
 | f+1=>by funext x0 x1 x2 x3;rw[qnV,qaN f];rfl
def qQk (f:Nat) (x0 x1:Int) (x2 x3:LI) (x4:Int):Option ((Int×Int×LI×LI×Int)⊕(Int×LI×LI×Int)):=qh qCi 0 [1,4,5] [1,2,4] (qF Tryz.f23 12) f ([.s (.ptr 0 0 none 0),.s (.i .i64 x0),.s (.i .i64 x1)]) ([.cells 28 [.arr .i8 81 x2,.arr .i8 16 x3,.one [.i .i8 x4]]]) qQj
theorem qnR (f:Nat) (x0 x1:Int) (x2 x3:LI) (x4:Int):qQk (f+1) x0 x1 x2 x3 x4=qDu (qQk f) x0 x1 x2 x3 x4:=by kernel_rfl
theorem qaJ:∀ f,qQk f=qBk f
 | 0=>rfl
 | f+1=>by funext x0 x1 x2 x3 x4;rw[qnR,qaJ f];rfl
def qQu (f:Nat) (x0:Int) (x1 x2:LI) (x3:Int):Option ((Int×LI×LI×Int)⊕(LI×LI×Int)):=qh qCi 0 [1,4] [1,2] (qF Tryz.f23 9) f ([.s (.ptr 0 0 none 0),.s (.i .i64 x0)]) ([.cells 28 [.arr .i8 81 x1,.arr .i8 16 x2,.one [.i .i8 x3]]]) qQt
theorem qnW (f:Nat) (x0:Int) (x1 x2:LI) (x3:Int):qQu (f+1) x0 x1 x2 x3=qDz (qQu f) x0 x1 x2 x3:=by kernel_rfl
theorem qaO:∀ f,qQu f=qBY f
 | 0=>rfl
 | f+1=>by funext x0 x1 x2 x3;rw[qnW,qaO f];rfl
def qQm (f:Nat) (x0:Int) (x1 x2:LI) (x3:Int):Option ((Int×LI×LI×Int)⊕(LI×LI×Int)):=qh qCi 0 [1,7] [1,2] (qF Tryz.f23 20) f ([.s (.ptr 0 0 none 0),.s (.i .i64 x0)]) ([.cells 28 [.arr .i8 81 x1,.arr .i8 16 x2,.one [.i .i8 x3]]]) qQl
theorem qnS (f:Nat) (x0:Int) (x1 x2:LI) (x3:Int):qQm (f+1) x0 x1 x2 x3=qDv (qQm f) x0 x1 x2 x3:=by kernel_rfl
theorem qaK:∀ f,qQm f=qBV f
 | 0=>rfl
 | f+1=>by funext x0 x1 x2 x3;rw[qnS,qaK f];rfl
def qQo (f:Nat) (x0:Int) (x1 x2:LI) (x3:Int):Option ((Int×LI×LI×Int)⊕(LI×LI×Int)):=qh qCi 0 [1,8] [1,2] (qF Tryz.f23 25) f ([.s (.ptr 0 0 none 0),.s (.i .i64 x0)]) ([.cells 28 [.arr .i8 81 x1,.arr .i8 16 x2,.one [.i .i8 x3]]]) qQn
theorem qnT (f:Nat) (x0:Int) (x1 x2:LI) (x3:Int):qQo (f+1) x0 x1 x2 x3=qDw (qQo f) x0 x1 x2 x3:=by kernel_rfl
theorem qaL:∀ f,qQo f=qBW f
 | 0=>rfl
 | f+1=>by funext x0 x1 x2 x3;rw[qnT,qaL f];rfl
def qQq (f:Nat) (x0:Int) (x1 x2:LI) (x3:Int):Option ((Int)⊕(Unit)):=qh qCi 0 [1,9] [2] (qF Tryz.f23 30) f ([.s (.ptr 0 0 none 0),.s (.i .i64 x0)]) ([.cells 28 [.arr .i8 81 x1,.arr .i8 16 x2,.one [.i .i8 x3]]]) qQp
theorem qnU (f:Nat) (x0:Int) (x1 x2:LI) (x3:Int):qQq (f+1) x0 x1 x2 x3=qDx (qQq f) x0 x1 x2 x3:=by kernel_rfl
theorem qaM:∀ f,qQq f=qBX f
 | 0=>rfl
 | f+1=>by funext x0 x1 x2 x3;rw[qnU,qaM f];rfl
theorem qnd:qe Tryz.prog qCi 0 (qF Tryz.f23 4):=
 qj mixed qGR (qP.of (l':=[]) (by kernel_rfl) trivial) (q:=4) (kin:=[1,3]) (kout:=[1,2]) (by kernel_rfl) (by kernel_rfl) fun vs objs K r h=>by
  replace h:qQz vs objs K=some r:=h
  unfold qQz at h
  split at h
  ·obtain⟨t,h1,h2⟩:=qE h
   rw[<- qaN] at h1
   refine⟨_,qQr,t,qC,h1,fun e vs' objs' hd=>?_⟩
   unfold qQr at hd;split at hd;(cases hd;exact h2);(cases hd;exact h2);cases hd
  ·cases h
theorem qnZ:qe Tryz.prog qCi 0 (qF Tryz.f23 12):=
 qj mixed qGR (qP.of (l':=[]) (by kernel_rfl) trivial) (q:=12) (kin:=[1,4,5]) (kout:=[1,2,4]) (by kernel_rfl) (by kernel_rfl) fun vs objs K r h=>by
  replace h:qQv vs objs K=some r:=h
  unfold qQv at h
  split at h
  ·obtain⟨t,h1,h2⟩:=qE h
   rw[<- qaJ] at h1
   refine⟨_,qQj,t,qC,h1,fun e vs' objs' hd=>?_⟩
   unfold qQj at hd;split at hd;(cases hd;exact h2);(cases hd;exact h2);cases hd
  ·cases h
theorem qna:qe Tryz.prog qCi 0 (qF Tryz.f23 20):=
 qj mixed qGR (qP.of (l':=[]) (by kernel_rfl) trivial) (q:=20) (kin:=[1,7]) (kout:=[1,2]) (by kernel_rfl) (by kernel_rfl) fun vs objs K r h=>by
  replace h:qQw vs objs K=some r:=h
  unfold qQw at h
  split at h
  ·obtain⟨t,h1,h2⟩:=qE h
   rw[<- qaK] at h1
   refine⟨_,qQl,t,qC,h1,fun e vs' objs' hd=>?_⟩
   unfold qQl at hd;split at hd;(cases hd;exact h2);(cases hd;exact h2);cases hd
  ·cases h
theorem qnb:qe Tryz.prog qCi 0 (qF Tryz.f23 25):=
 qj mixed qGR (qP.of (l':=[]) (by kernel_rfl) trivial) (q:=25) (kin:=[1,8]) (kout:=[1,2]) (by kernel_rfl) (by kernel_rfl) fun vs objs K r h=>by
  replace h:qQx vs objs K=some r:=h
  unfold qQx at h
  split at h
  ·obtain⟨t,h1,h2⟩:=qE h
   rw[<- qaL] at h1
   refine⟨_,qQn,t,qC,h1,fun e vs' objs' hd=>?_⟩
   unfold qQn at hd;split at hd;(cases hd;exact h2);(cases hd;exact h2);cases hd
  ·cases h
theorem qnc:qe Tryz.prog qCi 0 (qF Tryz.f23 30):=
 qj mixed qGR (qP.of (l':=[]) (by kernel_rfl) trivial) (q:=30) (kin:=[1,9]) (kout:=[2]) (by kernel_rfl) (by kernel_rfl) fun vs objs K r h=>by
  replace h:qQy vs objs K=some r:=h
  unfold qQy at h
  split at h
  ·obtain⟨t,h1,h2⟩:=qE h
   rw[<- qaM] at h1
   refine⟨_,qQp,t,qC,h1,fun e vs' objs' hd=>?_⟩
   unfold qQp at hd;split at hd;(cases hd;exact h2);(cases hd;exact h2);cases hd
  ·cases h
theorem qne:qe Tryz.prog qCi 0 (qF Tryz.f23 9):=
 qj mixed qGR (qP.of (l':=[qF Tryz.f23 12]) (by kernel_rfl) ⟨qnZ,trivial⟩) (q:=9) (kin:=[1,4]) (kout:=[1,2]) (by kernel_rfl) (by kernel_rfl) fun vs objs K r h=>by
  replace h:qQ0 vs objs K=some r:=h
  unfold qQ0 at h
  split at h
  ·obtain⟨t,h1,h2⟩:=qE h
   rw[<- qaO] at h1
   refine⟨_,qQt,t,qC,h1,fun e vs' objs' hd=>?_⟩
   unfold qQt at hd;split at hd;(cases hd;exact h2);(cases hd;exact h2);cases hd
  ·cases h
def qaI:V->List Obj->Option (Int):=fun v objs=>match v,objs with
 | .s (.i .i64 y0),[]=>some (y0)
 | _,_=>none
def qaH:HA:=fun o vs objs K=>match vs,objs with
 | [.agg [.arr .i8 81 x0,.arr .i8 16 x1,.one [.i .i8 x2]]],[]=>ob (qGQ x0 x1 x2) fun y0=>K false (.s (.i .i64 y0)) ([])
 | _,_=>o 23 vs objs K
def qaP (o:Orc):Orc:=qL 23 (qaH o) o
theorem qnY:OQ Tryz.prog qaP:=fun _ ho=>qN ho fun vs objs K r h=>by
 unfold qaH at h
 split at h
 ·obtain⟨t,h1,h2⟩:=qE h
  refine qAQ mixed qGR (D:=qaI) (fn:=Tryz.f23) (Eq.trans (by kernel_rfl) h1) (by kernel_rfl) (m:=0) rfl (qP.of (l':=[qF Tryz.f23 4,qF Tryz.f23 9,qF Tryz.f23 20,qF Tryz.f23 25,qF Tryz.f23 30]) (by kernel_rfl) ⟨qnd,qne,qna,qnb,qnc,trivial⟩) fun v objs' hd=>?_
  unfold qaI at hd;split at hd;(cases hd;exact h2);cases hd
 ·exact ho _ _ _ _ _ h
def qRB:Ex->List V->List Obj->Option (List Bool×List Bool):=fun e vs objs=>match e,vs,objs with
 | .exit 0,[.s (.ptr 0 0 none 0),.s (.ptr 1 0 none 0)],[.cells 95 [Seg.barr 81 y0],.cells 95 [Seg.barr 81 y1]]=>some (y0,y1)
 | _,_,_=>none
def qRE:HL:=fun vs objs K=>match vs,objs with
 | [.s (.ptr 0 0 none 0),.s (.ptr 1 0 none 0),.s (.ptr 2 0 none 0),.s (.i .i64 x0)],[.cells 28 [.arr .i8 81 x1,.arr .i8 16 x2,.one [.i .i8 x3]],.cells 95 [Seg.barr 81 x4],.cells 95 [Seg.barr 81 x5]]=>ob (qEQ qC x0 x1 x2 x3 x4 x5) fun (z0,z1)=>K (.exit 0) ([.s (.ptr 0 0 none 0),.s (.ptr 1 0 none 0)]) ([.cells 95 [Seg.barr 81 z0],.cells 95 [Seg.barr 81 z1]])
 | _,_=>none
def qnn:{R:Type}->Nat->List V->List Obj->(Ex->List V->List Obj->Option R)->Option R:=fun q vs objs K=>bif Nat.beq q 3 then qRE vs objs K else none
def qRA:Ctx:=mkC 18 (qK) [(3,[1,2,3,4],[2,3])] qnn
theorem qaa:CtxOK Tryz.prog qRA:=mkC_ok (qM)
def qRC (f:Nat) (x0:Int) (x1 x2:LI) (x3:Int) (x4 x5:List Bool):Option (List Bool×List Bool):=qh qRA 0 [1,2,3,4] [2,3] (qF Tryz.f44 3) f ([.s (.ptr 0 0 none 0),.s (.ptr 1 0 none 0),.s (.ptr 2 0 none 0),.s (.i .i64 x0)]) ([.cells 28 [.arr .i8 81 x1,.arr .i8 16 x2,.one [.i .i8 x3]],.cells 95 [Seg.barr 81 x4],.cells 95 [Seg.barr 81 x5]]) qRB
theorem qnm (f:Nat) (x0:Int) (x1 x2:LI) (x3:Int) (x4 x5:List Bool):qRC (f+1) x0 x1 x2 x3 x4 x5=qHw (qRC f) x0 x1 x2 x3 x4 x5:=by kernel_rfl
theorem qac:∀ f,qRC f=qEQ f
 | 0=>rfl
 | f+1=>by funext x0 x1 x2 x3 x4 x5;rw[qnm,qac f];rfl
theorem qno:qe Tryz.prog qRA 0 (qF Tryz.f44 3):=
 qj mixed qaa (qP.of (l':=[]) (by kernel_rfl) trivial) (q:=3) (kin:=[1,2,3,4]) (kout:=[2,3]) (by kernel_rfl) (by kernel_rfl) fun vs objs K r h=>by
  replace h:qRE vs objs K=some r:=h
  unfold qRE at h
  split at h
  ·obtain⟨t,h1,h2⟩:=qE h
   rw[<- qac] at h1
   refine⟨_,qRB,t,qC,h1,fun e vs' objs' hd=>?_⟩
   unfold qRB at hd;split at hd;(cases hd;exact h2);cases hd
  ·cases h
def qab:V->List Obj->Option (List Bool):=fun v objs=>match v,objs with
 | .agg [Seg.barr 81 y0],[]=>some (y0)
 | _,_=>none
def qaZ:HA:=fun o vs objs K=>match vs,objs with
 | [.agg [.arr .i8 81 x0,.arr .i8 16 x1,.one [.i .i8 x2]]],[]=>ob (qFT x0 x1 x2) fun y0=>K false (.agg [Seg.barr 81 y0]) ([])
 | _,_=>o 44 vs objs K
def qLo (o:Orc):Orc:=qL 44 (qaZ o) o
theorem qRD:OQ Tryz.prog qLo:=fun _ ho=>qN ho fun vs objs K r h=>by
 unfold qaZ at h
 split at h
 ·obtain⟨t,h1,h2⟩:=qE h
  refine qAQ mixed qaa (D:=qab) (fn:=Tryz.f44) (Eq.trans (by kernel_rfl) h1) (by kernel_rfl) (m:=0) rfl (qP.of (l':=[qF Tryz.f44 3]) (by kernel_rfl) ⟨qno,trivial⟩) fun v objs' hd=>?_
  unfold qab at hd;split at hd;(cases hd;exact h2);cases hd
 ·exact ho _ _ _ _ _ h
def qRP:Ex->List V->List Obj->Option ((Int)⊕(Unit)):=fun e vs objs=>match e,vs,objs with
 | .ret,[.s (.i .i64 y0)],[]=>some (.inl (y0))
 | .exit 0,[.s .bad],[]=>some (.inr ())
 | _,_,_=>none
def qRR:HL:=fun vs objs K=>match vs,objs with
 | [.s (.i .i64 x0),.s (.ptr 0 0 none 0),.s (.i .i64 x1)],[.cells 28 [.arr .i8 81 x2,.arr .i8 16 x3,.one [.i .i8 x4]]]=>ob (qFV qC x0 x1 x2 x3 x4) fun t0=>sw t0 (fun y0=>K (.ret) ([.s (.i .i64 y0)]) ([])) (fun _=>K (.exit 0) ([.s .bad]) ([]))
 | _,_=>none
def qn3:{R:Type}->Nat->List V->List Obj->(Ex->List V->List Obj->Option R)->Option R:=fun q vs objs K=>bif Nat.beq q 2 then qRR vs objs K else none
def qRO:Ctx:=mkC 20 (qK) [(2,[1,2,5],[4])] qn3
theorem qat:CtxOK Tryz.prog qRO:=mkC_ok (qM)
def qRQ (f:Nat) (x0 x1:Int) (x2 x3:LI) (x4:Int):Option ((Int)⊕(Unit)):=qh qRO 0 [1,2,5] [4] (qF Tryz.f45 2) f ([.s (.i .i64 x0),.s (.ptr 0 0 none 0),.s (.i .i64 x1)]) ([.cells 28 [.arr .i8 81 x2,.arr .i8 16 x3,.one [.i .i8 x4]]]) qRP
theorem qn2 (f:Nat) (x0 x1:Int) (x2 x3:LI) (x4:Int):qRQ (f+1) x0 x1 x2 x3 x4=qHz (qRQ f) x0 x1 x2 x3 x4:=by kernel_rfl
theorem qav:∀ f,qRQ f=qFV f
 | 0=>rfl
 | f+1=>by funext x0 x1 x2 x3 x4;rw[qn2,qav f];rfl
theorem qn5:qe Tryz.prog qRO 0 (qF Tryz.f45 2):=
 qj mixed qat (qP.of (l':=[]) (by kernel_rfl) trivial) (q:=2) (kin:=[1,2,5]) (kout:=[4]) (by kernel_rfl) (by kernel_rfl) fun vs objs K r h=>by
  replace h:qRR vs objs K=some r:=h
  unfold qRR at h
  split at h
  ·obtain⟨t,h1,h2⟩:=qE h
   rw[<- qav] at h1
   refine⟨_,qRP,t,qC,h1,fun e vs' objs' hd=>?_⟩
   unfold qRP at hd;split at hd;(cases hd;exact h2);(cases hd;exact h2);cases hd
  ·cases h
def qau:V->List Obj->Option (Int):=fun v objs=>match v,objs with
 | .s (.i .i64 y0),[]=>some (y0)
 | _,_=>none
def qas:HA:=fun o vs objs K=>match vs,objs with
 | [.agg [.arr .i8 81 x0,.arr .i8 16 x1,.one [.i .i8 x2]],.s (.i .i64 x3)],[]=>ob (qLs x0 x1 x2 x3) fun y0=>K false (.s (.i .i64 y0)) ([])
 | _,_=>o 45 vs objs K
def qaw (o:Orc):Orc:=qL 45 (qas o) o
theorem qn4:OQ Tryz.prog qaw:=fun _ ho=>qN ho fun vs objs K r h=>by
 unfold qas at h
 split at h
 ·obtain⟨t,h1,h2⟩:=qE h
  refine qAQ mixed qat (D:=qau) (fn:=Tryz.f45) (Eq.trans (by kernel_rfl) h1) (by kernel_rfl) (m:=0) rfl (qP.of (l':=[qF Tryz.f45 2]) (by kernel_rfl) ⟨qn5,trivial⟩) fun v objs' hd=>?_
  unfold qau at hd;split at hd;(cases hd;exact h2);cases hd
 ·exact ho _ _ _ _ _ h
def qm9:Ctx:=mkC 8 (qK) [] qV
theorem qnA:CtxOK Tryz.prog qm9:=mkC_ok (qM)
def qZx:V->List Obj->Option (Int):=fun v objs=>match v,objs with
 | .s (.i .i64 y0),[]=>some (y0)
 | _,_=>none
def qZw:HA:=fun o vs objs K=>match vs,objs with
 | [.s (.i .i64 x0)],[]=>ob (qGO x0) fun y0=>K false (.s (.i .i64 y0)) ([])
 | _,_=>o 95 vs objs K
def qZy (o:Orc):Orc:=qL 95 (qZw o) o
theorem qnB:OQ Tryz.prog qZy:=fun _ ho=>qN ho fun vs objs K r h=>by
 unfold qZw at h
 split at h
 ·obtain⟨t,h1,h2⟩:=qE h
  refine qd mixed qnA (D:=qZx) (fn:=Tryz.f95) (Eq.trans (by kernel_rfl) h1) (by kernel_rfl) fun v objs' hd=>?_
  unfold qZx at hd;split at hd;(cases hd;exact h2);cases hd
 ·exact ho _ _ _ _ _ h
def qm6:Ctx:=mkC 125 ((qDK (qFO (qZy qK)))) [] qV
theorem qm7:CtxOK Tryz.prog qm6:=mkC_ok ((qDr _ (qGN _ (qnB _ qM))))
def qZu:V->List Obj->Option (Bool):=fun v objs=>match v,objs with
 | .s (.b y0),[]=>some (y0)
 | _,_=>none
def qZt:HA:=fun o vs objs K=>match vs,objs with
 | [.s (.i .i64 x0),.s (.i .i64 x1),.s (.i .i64 x2)],[]=>ob (qLj x0 x1 x2) fun y0=>K false (.s (.b y0)) ([])
 | _,_=>o 73 vs objs K
def qZv (o:Orc):Orc:=qL 73 (qZt o) o
theorem qm8:OQ Tryz.prog qZv:=fun _ ho=>qN ho fun vs objs K r h=>by
 unfold qZt at h
 split at h
 ·obtain⟨t,h1,h2⟩:=qE h
  refine qd mixed qm7 (D:=qZu) (fn:=Tryz.f73) (Eq.trans (by kernel_rfl) h1) (by kernel_rfl) fun v objs' hd=>?_
  unfold qZu at hd;split at hd;(cases hd;exact h2);cases hd
 ·exact ho _ _ _ _ _ h
def qnK:Ctx:=mkC 51 (qK) [] qV
theorem qnL:CtxOK Tryz.prog qnK:=mkC_ok (qM)
def qaA:V->List Obj->Option (Int):=fun v objs=>match v,objs with
 | .s (.i .i64 y0),[]=>some (y0)
 | _,_=>none
def qZ9:HA:=fun o vs objs K=>match vs,objs with
 | [.s (.i .i64 x0),.s (.i .i64 x1)],[]=>ob (qJP x0 x1) fun y0=>K false (.s (.i .i64 y0)) ([])
 | _,_=>o 74 vs objs K
def qQh (o:Orc):Orc:=qL 74 (qZ9 o) o
theorem qaB:OQ Tryz.prog qQh:=fun _ ho=>qN ho fun vs objs K r h=>by
 unfold qZ9 at h
 split at h
 ·obtain⟨t,h1,h2⟩:=qE h
  refine qd mixed qnL (D:=qaA) (fn:=Tryz.f74) (Eq.trans (by kernel_rfl) h1) (by kernel_rfl) fun v objs' hd=>?_
  unfold qaA at hd;split at hd;(cases hd;exact h2);cases hd
 ·exact ho _ _ _ _ _ h
def qnO:Ctx:=mkC 7 (qK) [] qV
theorem qnP:CtxOK Tryz.prog qnO:=mkC_ok (qM)
def qaF:V->List Obj->Option (Int):=fun v objs=>match v,objs with
 | .s (.i .i64 y0),[]=>some (y0)
 | _,_=>none
def qaE:HA:=fun o vs objs K=>match vs,objs with
 | [.s (.i .i64 x0)],[]=>ob (qJQ x0) fun y0=>K false (.s (.i .i64 y0)) ([])
 | _,_=>o 120 vs objs K
def qaG (o:Orc):Orc:=qL 120 (qaE o) o
theorem qnQ:OQ Tryz.prog qaG:=fun _ ho=>qN ho fun vs objs K r h=>by
 unfold qaE at h
 split at h
 ·obtain⟨t,h1,h2⟩:=qE h
  refine qd mixed qnP (D:=qaF) (fn:=Tryz.f120) (Eq.trans (by kernel_rfl) h1) (by kernel_rfl) fun v objs' hd=>?_
  unfold qaF at hd;split at hd;(cases hd;exact h2);cases hd
 ·exact ho _ _ _ _ _ h
def qQa:Ex->List V->List Obj->Option (Nat×Nat×LI):=fun e vs objs=>match e,vs,objs with
 | .exit 0,[.s (.sl 0 0 y0 true)],[.sli 3 false (.arr .i64 y1 y2)]=>some (y0,y1,y2)
 | _,_,_=>none
def qQc:HL:=fun vs objs K=>match vs,objs with
 | [.s (.i .i64 x0),.s (.sl 0 0 x1 true),.s (.i .i64 x2),.s (.i .i64 x3)],[.sli 3 false (.arr .i64 x4 x5)]=>ob (qFQ qC x0 x1 x2 x3 x4 x5) fun (z0,z1,z2)=>K (.exit 0) ([.s (.sl 0 0 z0 true)]) ([.sli 3 false (.arr .i64 z1 z2)])
 | _,_=>none
def qnD:{R:Type}->Nat->List V->List Obj->(Ex->List V->List Obj->Option R)->Option R:=fun q vs objs K=>bif Nat.beq q 6 then qQc vs objs K else none
def qQZ:Ctx:=mkC 41 ((qaG (qQh qK))) [(6,[1,5,6,7],[5])] qnD
theorem qZ0:CtxOK Tryz.prog qQZ:=mkC_ok ((qnQ _ (qaB _ qM)))
def qQb (f:Nat) (x0:Int) (x1:Nat) (x2 x3:Int) (x4:Nat) (x5:LI):Option (Nat×Nat×LI):=qh qQZ 0 [1,5,6,7] [5] (qF Tryz.f96 6) f ([.s (.i .i64 x0),.s (.sl 0 0 x1 true),.s (.i .i64 x2),.s (.i .i64 x3)]) ([.sli 3 false (.arr .i64 x4 x5)]) qQa
theorem qnC (f:Nat) (x0:Int) (x1:Nat) (x2 x3:Int) (x4:Nat) (x5:LI):qQb (f+1) x0 x1 x2 x3 x4 x5=qHt (qQb f) x0 x1 x2 x3 x4 x5:=by kernel_rfl
theorem qZ2:∀ f,qQb f=qFQ f
 | 0=>rfl
 | f+1=>by funext x0 x1 x2 x3 x4 x5;rw[qnC,qZ2 f];rfl
theorem qnF:qe Tryz.prog qQZ 0 (qF Tryz.f96 6):=
 qj mixed qZ0 (qP.of (l':=[]) (by kernel_rfl) trivial) (q:=6) (kin:=[1,5,6,7]) (kout:=[5]) (by kernel_rfl) (by kernel_rfl) fun vs objs K r h=>by
  replace h:qQc vs objs K=some r:=h
  unfold qQc at h
  split at h
  ·obtain⟨t,h1,h2⟩:=qE h
   rw[<- qZ2] at h1
   refine⟨_,qQa,t,qC,h1,fun e vs' objs' hd=>?_⟩
   unfold qQa at hd;split at hd;(cases hd;exact h2);cases hd
  ·cases h
def qZ1:V->List Obj->Option (Nat×Nat×LI):=fun v objs=>match v,objs with
 | .s (.sl 0 0 y0 true),[.sli 3 false (.arr .i64 y1 y2)]=>some (y0,y1,y2)
 | _,_=>none
def qZz:HA:=fun o vs objs K=>match vs,objs with
 | [.s (.i .i64 x0),.s (.i .i64 x1)],[]=>ob (qLk x0 x1) fun (z0,z1,z2)=>K false (.s (.sl 0 0 z0 true)) ([.sli 3 false (.arr .i64 z1 z2)])
 | _,_=>o 96 vs objs K
def qZ3 (o:Orc):Orc:=qL 96 (qZz o) o
theorem qnE:OQ Tryz.prog qZ3:=fun _ ho=>qN ho fun vs objs K r h=>by
 unfold qZz at h
 split at h
 ·obtain⟨t,h1,h2⟩:=qE h
  refine qAQ mixed qZ0 (D:=qZ1) (fn:=Tryz.f96) (Eq.trans (by kernel_rfl) h1) (by kernel_rfl) (m:=0) rfl (qP.of (l':=[qF Tryz.f96 6]) (by kernel_rfl) ⟨qnF,trivial⟩) fun v objs' hd=>?_
  unfold qZ1 at hd;split at hd;(cases hd;exact h2);cases hd
 ·exact ho _ _ _ _ _ h
def qQe:Ex->List V->List Obj->Option ((Bool)⊕(Unit)):=fun e vs objs=>match e,vs,objs with
 | .ret,[.s (.b y0)],[]=>some (.inl (y0))
 | .exit 0,[.s .bad],[]=>some (.inr ())
 | _,_,_=>none
def qQg:HL:=fun vs objs K=>match vs,objs with
 | [.s (.ptr 0 0 none 0),.s (.sl 1 0 x0 true),.s (.i .i64 x1)],[.cells 95 [Seg.barr 81 x2],.sli 3 false (.arr .i64 x3 x4)]=>ob (qFR qC x0 x1 x2 x3 x4) fun t0=>sw t0 (fun y0=>K (.ret) ([.s (.b y0)]) ([])) (fun _=>K (.exit 0) ([.s .bad]) ([]))
 | _,_=>none
def qnH:{R:Type}->Nat->List V->List Obj->(Ex->List V->List Obj->Option R)->Option R:=fun q vs objs K=>bif Nat.beq q 3 then qQg vs objs K else none
def qQd:Ctx:=mkC 24 ((qZ3 qK)) [(3,[5,7,8],[6])] qnH
theorem qZ5:CtxOK Tryz.prog qQd:=mkC_ok ((qnE _ qM))
def qQf (f:Nat) (x0:Nat) (x1:Int) (x2:List Bool) (x3:Nat) (x4:LI):Option ((Bool)⊕(Unit)):=qh qQd 0 [5,7,8] [6] (qF Tryz.f75 3) f ([.s (.ptr 0 0 none 0),.s (.sl 1 0 x0 true),.s (.i .i64 x1)]) ([.cells 95 [Seg.barr 81 x2],.sli 3 false (.arr .i64 x3 x4)]) qQe
theorem qnG (f:Nat) (x0:Nat) (x1:Int) (x2:List Bool) (x3:Nat) (x4:LI):qQf (f+1) x0 x1 x2 x3 x4=qHu (qQf f) x0 x1 x2 x3 x4:=by kernel_rfl
theorem qZ7:∀ f,qQf f=qFR f
 | 0=>rfl
 | f+1=>by funext x0 x1 x2 x3 x4;rw[qnG,qZ7 f];rfl
theorem qnJ:qe Tryz.prog qQd 0 (qF Tryz.f75 3):=
 qj mixed qZ5 (qP.of (l':=[]) (by kernel_rfl) trivial) (q:=3) (kin:=[5,7,8]) (kout:=[6]) (by kernel_rfl) (by kernel_rfl) fun vs objs K r h=>by
  replace h:qQg vs objs K=some r:=h
  unfold qQg at h
  split at h
  ·obtain⟨t,h1,h2⟩:=qE h
   rw[<- qZ7] at h1
   refine⟨_,qQe,t,qC,h1,fun e vs' objs' hd=>?_⟩
   unfold qQe at hd;split at hd;(cases hd;exact h2);(cases hd;exact h2);cases hd
  ·cases h
def qZ6:V->List Obj->Option (Bool):=fun v objs=>match v,objs with
 | .s (.b y0),[]=>some (y0)
 | _,_=>none
def qZ4:HA:=fun o vs objs K=>match vs,objs with
 | [.s (.i .i64 x0),.s (.i .i64 x1),.agg [Seg.barr 81 x2]],[]=>ob (qA6 x0 x1 x2) fun y0=>K false (.s (.b y0)) ([])
 | _,_=>o 75 vs objs K
def qZ8 (o:Orc):Orc:=qL 75 (qZ4 o) o
theorem qnI:OQ Tryz.prog qZ8:=fun _ ho=>qN ho fun vs objs K r h=>by
 unfold qZ4 at h
 split at h
 ·obtain⟨t,h1,h2⟩:=qE h
  refine qAQ mixed qZ5 (D:=qZ6) (fn:=Tryz.f75) (Eq.trans (by kernel_rfl) h1) (by kernel_rfl) (m:=0) rfl (qP.of (l':=[qF Tryz.f75 3]) (by kernel_rfl) ⟨qnJ,trivial⟩) fun v objs' hd=>?_
  unfold qZ6 at hd;split at hd;(cases hd;exact h2);cases hd
 ·exact ho _ _ _ _ _ h
def qnM:Ctx:=mkC 63 ((qZ8 (qDK (qFO (qQh (qZv qK)))))) [] qV
theorem qnN:CtxOK Tryz.prog qnM:=mkC_ok ((qnI _ (qDr _ (qGN _ (qaB _ (qm8 _ qM))))))
def qaD:V->List Obj->Option (Bool):=fun v objs=>match v,objs with
 | .s (.b y0),[]=>some (y0)
 | _,_=>none
def qaC:HA:=fun o vs objs K=>match vs,objs with
 | [.s (.i .i64 x0),.s (.i .i64 x1),.s (.i .i64 x2),.agg [Seg.barr 81 x3]],[]=>ob (qGP x0 x1 x2 x3) fun y0=>K false (.s (.b y0)) ([])
 | _,_=>o 47 vs objs K
def qLl (o:Orc):Orc:=qL 47 (qaC o) o
theorem qQi:OQ Tryz.prog qLl:=fun _ ho=>qN ho fun vs objs K r h=>by
 unfold qaC at h
 split at h
 ·obtain⟨t,h1,h2⟩:=qE h
  refine qd mixed qnN (D:=qaD) (fn:=Tryz.f47) (Eq.trans (by kernel_rfl) h1) (by kernel_rfl) fun v objs' hd=>?_
  unfold qaD at hd;split at hd;(cases hd;exact h2);cases hd
 ·exact ho _ _ _ _ _ h
def qRK:Ex->List V->List Obj->Option ((Bool)⊕(Unit)):=fun e vs objs=>match e,vs,objs with
 | .ret,[.s (.b y0)],[]=>some (.inl (y0))
 | .exit 0,[.s .bad],[]=>some (.inr ())
 | _,_,_=>none
def qRN:HL:=fun vs objs K=>match vs,objs with
 | [.s (.i .i64 x0),.s (.ptr 0 0 none 0),.s (.ptr 1 0 none 0),.s (.i .i64 x1),.s (.i .i64 x2)],[.cells 28 [.arr .i8 81 x3,.arr .i8 16 x4,.one [.i .i8 x5]],.cells 95 [Seg.barr 81 x6]]=>ob (qFU qC x0 x1 x2 x3 x4 x5 x6) fun t0=>sw t0 (fun y0=>K (.ret) ([.s (.b y0)]) ([])) (fun _=>K (.exit 0) ([.s .bad]) ([]))
 | _,_=>none
def qn0:{R:Type}->Nat->List V->List Obj->(Ex->List V->List Obj->Option R)->Option R:=fun q vs objs K=>bif Nat.beq q 6 then qRN vs objs K else none
def qRJ:Ctx:=mkC 39 ((qLl (qFO (qaw (qLo qK))))) [(6,[1,2,5,6,7],[4])] qn0
theorem qap:CtxOK Tryz.prog qRJ:=mkC_ok ((qQi _ (qGN _ (qn4 _ (qRD _ qM)))))
def qRL (f:Nat) (x0 x1 x2:Int) (x3 x4:LI) (x5:Int) (x6:List Bool):Option ((Bool)⊕(Unit)):=qh qRJ 0 [1,2,5,6,7] [4] (qF Tryz.f24 6) f ([.s (.i .i64 x0),.s (.ptr 0 0 none 0),.s (.ptr 1 0 none 0),.s (.i .i64 x1),.s (.i .i64 x2)]) ([.cells 28 [.arr .i8 81 x3,.arr .i8 16 x4,.one [.i .i8 x5]],.cells 95 [Seg.barr 81 x6]]) qRK
theorem qnz (f:Nat) (x0 x1 x2:Int) (x3 x4:LI) (x5:Int) (x6:List Bool):qRL (f+1) x0 x1 x2 x3 x4 x5 x6=qHy (qRL f) x0 x1 x2 x3 x4 x5 x6:=by kernel_rfl
theorem qar:∀ f,qRL f=qFU f
 | 0=>rfl
 | f+1=>by funext x0 x1 x2 x3 x4 x5 x6;rw[qnz,qar f];rfl
theorem qn1:qe Tryz.prog qRJ 0 (qF Tryz.f24 6):=
 qj mixed qap (qP.of (l':=[]) (by kernel_rfl) trivial) (q:=6) (kin:=[1,2,5,6,7]) (kout:=[4]) (by kernel_rfl) (by kernel_rfl) fun vs objs K r h=>by
  replace h:qRN vs objs K=some r:=h
  unfold qRN at h
  split at h
  ·obtain⟨t,h1,h2⟩:=qE h
   rw[<- qar] at h1
   refine⟨_,qRK,t,qC,h1,fun e vs' objs' hd=>?_⟩
   unfold qRK at hd;split at hd;(cases hd;exact h2);(cases hd;exact h2);cases hd
  ·cases h
def qaq:V->List Obj->Option (Bool):=fun v objs=>match v,objs with
 | .s (.b y0),[]=>some (y0)
 | _,_=>none
def qao:HA:=fun o vs objs K=>match vs,objs with
 | [.agg [.arr .i8 81 x0,.arr .i8 16 x1,.one [.i .i8 x2]],.s (.i .i64 x3)],[]=>ob (qHx x0 x1 x2 x3) fun y0=>K false (.s (.b y0)) ([])
 | _,_=>o 24 vs objs K
def qLr (o:Orc):Orc:=qL 24 (qao o) o
theorem qRM:OQ Tryz.prog qLr:=fun _ ho=>qN ho fun vs objs K r h=>by
 unfold qao at h
 split at h
 ·obtain⟨t,h1,h2⟩:=qE h
  refine qAQ mixed qap (D:=qaq) (fn:=Tryz.f24) (Eq.trans (by kernel_rfl) h1) (by kernel_rfl) (m:=0) rfl (qP.of (l':=[qF Tryz.f24 6]) (by kernel_rfl) ⟨qn1,trivial⟩) fun v objs' hd=>?_
  unfold qaq at hd;split at hd;(cases hd;exact h2);cases hd
 ·exact ho _ _ _ _ _ h
def qnw:Ctx:=mkC 15 ((qLr (qaP qK))) [] qV
theorem qnx:CtxOK Tryz.prog qnw:=mkC_ok ((qRM _ (qnY _ qM)))
def qam:V->List Obj->Option (Int):=fun v objs=>match v,objs with
 | .s (.i .i64 y0),[]=>some (y0)
 | _,_=>none
def qal:HA:=fun o vs objs K=>match vs,objs with
 | [.agg [.arr .i8 81 x0,.arr .i8 16 x1,.one [.i .i8 x2]]],[]=>ob (qLq x0 x1 x2) fun y0=>K false (.s (.i .i64 y0)) ([])
 | _,_=>o 9 vs objs K
def qan (o:Orc):Orc:=qL 9 (qal o) o
theorem qny:OQ Tryz.prog qan:=fun _ ho=>qN ho fun vs objs K r h=>by
 unfold qal at h
 split at h
 ·obtain⟨t,h1,h2⟩:=qE h
  refine qd mixed qnx (D:=qam) (fn:=Tryz.f9) (Eq.trans (by kernel_rfl) h1) (by kernel_rfl) fun v objs' hd=>?_
  unfold qam at hd;split at hd;(cases hd;exact h2);cases hd
 ·exact ho _ _ _ _ _ h
def qnt:Ctx:=mkC 44 (qK) [] qV
theorem qnu:CtxOK Tryz.prog qnt:=mkC_ok (qM)
def qaj:V->List Obj->Option (Int):=fun v objs=>match v,objs with
 | .s (.i .i64 y0),[]=>some (y0)
 | _,_=>none
def qai:HA:=fun o vs objs K=>match vs,objs with
 | [.agg [.one [.i .i64 x0,.i .i64 x1,.i .i64 x2,.b x3]]],[]=>ob (qLp x0 x1 x2 x3) fun y0=>K false (.s (.i .i64 y0)) ([])
 | _,_=>o 93 vs objs K
def qak (o:Orc):Orc:=qL 93 (qai o) o
theorem qnv:OQ Tryz.prog qak:=fun _ ho=>qN ho fun vs objs K r h=>by
 unfold qai at h
 split at h
 ·obtain⟨t,h1,h2⟩:=qE h
  refine qd mixed qnu (D:=qaj) (fn:=Tryz.f93) (Eq.trans (by kernel_rfl) h1) (by kernel_rfl) fun v objs' hd=>?_
  unfold qaj at hd;split at hd;(cases hd;exact h2);cases hd
 ·exact ho _ _ _ _ _ h
def qm0:Ctx:=mkC 15 (qK) [] qV
theorem qm1:CtxOK Tryz.prog qm0:=mkC_ok (qM)
def qZn:V->List Obj->Option (Int):=fun v objs=>match v,objs with
 | .s (.i .i64 y0),[]=>some (y0)
 | _,_=>none
def qZm:HA:=fun o vs objs K=>match vs,objs with
 | [.s (.i .i64 x0)],[]=>ob (qFP x0) fun y0=>K false (.s (.i .i64 y0)) ([])
 | _,_=>o 94 vs objs K
def qLh (o:Orc):Orc:=qL 94 (qZm o) o
theorem qQW:OQ Tryz.prog qLh:=fun _ ho=>qN ho fun vs objs K r h=>by
 unfold qZm at h
 split at h
 ·obtain⟨t,h1,h2⟩:=qE h
  refine qd mixed qm1 (D:=qZn) (fn:=Tryz.f94) (Eq.trans (by kernel_rfl) h1) (by kernel_rfl) fun v objs' hd=>?_
  unfold qZn at hd;split at hd;(cases hd;exact h2);cases hd
 ·exact ho _ _ _ _ _ h
def qn8:Ctx:=mkC 75 ((qLh (qDK (qFO (qak qK))))) [] qV
theorem qn9:CtxOK Tryz.prog qn8:=mkC_ok ((qQW _ (qDr _ (qGN _ (qnv _ qM)))))
def qa1:V->List Obj->Option (Bool):=fun v objs=>match v,objs with
 | .s (.b y0),[]=>some (y0)
 | _,_=>none
def qa0:HA:=fun o vs objs K=>match vs,objs with
 | [.agg [.arr .i8 81 x0,.arr .i8 16 x1,.one [.i .i8 x2]],.agg [.one [.i .i64 x3,.i .i64 x4,.i .i64 x5,.b x6]]],[]=>ob (qLt x0 x1 x2 x3 x4 x5 x6) fun y0=>K false (.s (.b y0)) ([])
 | _,_=>o 69 vs objs K
def qa2 (o:Orc):Orc:=qL 69 (qa0 o) o
theorem qoA:OQ Tryz.prog qa2:=fun _ ho=>qN ho fun vs objs K r h=>by
 unfold qa0 at h
 split at h
 ·obtain⟨t,h1,h2⟩:=qE h
  refine qd mixed qn9 (D:=qa1) (fn:=Tryz.f69) (Eq.trans (by kernel_rfl) h1) (by kernel_rfl) fun v objs' hd=>?_
  unfold qa1 at hd;split at hd;(cases hd;exact h2);cases hd
 ·exact ho _ _ _ _ _ h
def qoK:Ctx:=mkC 35 ((qQY (qFO (qLh (qDK qK))))) [] qV
theorem qoL:CtxOK Tryz.prog qoK:=mkC_ok ((qZs _ (qGN _ (qQW _ (qDr _ qM)))))
def qbB:V->List Obj->Option (Bool):=fun v objs=>match v,objs with
 | .s (.b y0),[]=>some (y0)
 | _,_=>none
def qbA:HA:=fun o vs objs K=>match vs,objs with
 | [.s (.i .i64 x0),.s (.i .i64 x1),.s (.i .i64 x2)],[]=>ob (qLu x0 x1 x2) fun y0=>K false (.s (.b y0)) ([])
 | _,_=>o 70 vs objs K
def qbC (o:Orc):Orc:=qL 70 (qbA o) o
theorem qoM:OQ Tryz.prog qbC:=fun _ ho=>qN ho fun vs objs K r h=>by
 unfold qbA at h
 split at h
 ·obtain⟨t,h1,h2⟩:=qE h
  refine qd mixed qoL (D:=qbB) (fn:=Tryz.f70) (Eq.trans (by kernel_rfl) h1) (by kernel_rfl) fun v objs' hd=>?_
  unfold qbB at hd;split at hd;(cases hd;exact h2);cases hd
 ·exact ho _ _ _ _ _ h
def qoQ:Ctx:=mkC 14 ((qLi (qLh (qDK qK)))) [] qV
theorem qoR:CtxOK Tryz.prog qoQ:=mkC_ok ((qQX _ (qQW _ (qDr _ qM))))
def qbH:V->List Obj->Option (Bool):=fun v objs=>match v,objs with
 | .s (.b y0),[]=>some (y0)
 | _,_=>none
def qbG:HA:=fun o vs objs K=>match vs,objs with
 | [.s (.i .i64 x0),.s (.i .i64 x1)],[]=>ob (qLv x0 x1) fun y0=>K false (.s (.b y0)) ([])
 | _,_=>o 71 vs objs K
def qbI (o:Orc):Orc:=qL 71 (qbG o) o
theorem qoS:OQ Tryz.prog qbI:=fun _ ho=>qN ho fun vs objs K r h=>by
 unfold qbG at h
 split at h
 ·obtain⟨t,h1,h2⟩:=qE h
  refine qd mixed qoR (D:=qbH) (fn:=Tryz.f71) (Eq.trans (by kernel_rfl) h1) (by kernel_rfl) fun v objs' hd=>?_
  unfold qbH at hd;split at hd;(cases hd;exact h2);cases hd
 ·exact ho _ _ _ _ _ h
def qoN:Ctx:=mkC 70 ((qbI (qbC (qLl (qLo (qLn (qLi (qa2 qK)))))))) [] qV
theorem qoO:CtxOK Tryz.prog qoN:=mkC_ok ((qoS _ (qoM _ (qQi _ (qRD _ (qQ8 _ (qQX _ (qoA _ qM))))))))
def qbE:V->List Obj->Option (Bool):=fun v objs=>match v,objs with
 | .s (.b y0),[]=>some (y0)
 | _,_=>none
def qbD:HA:=fun o vs objs K=>match vs,objs with
 | [.agg [.arr .i8 81 x0,.arr .i8 16 x1,.one [.i .i8 x2]],.agg [.one [.i .i64 x3,.i .i64 x4,.i .i64 x5,.b x6]]],[]=>ob (qGS x0 x1 x2 x3 x4 x5 x6) fun y0=>K false (.s (.b y0)) ([])
 | _,_=>o 34 vs objs K
def qbF (o:Orc):Orc:=qL 34 (qbD o) o
theorem qoP:OQ Tryz.prog qbF:=fun _ ho=>qN ho fun vs objs K r h=>by
 unfold qbD at h
 split at h
 ·obtain⟨t,h1,h2⟩:=qE h
  refine qd mixed qoO (D:=qbE) (fn:=Tryz.f34) (Eq.trans (by kernel_rfl) h1) (by kernel_rfl) fun v objs' hd=>?_
  unfold qbE at hd;split at hd;(cases hd;exact h2);cases hd
 ·exact ho _ _ _ _ _ h
def qRT:Ex->List V->List Obj->Option (Nat×Int×LI×LI×Int×Nat×LL×List Bool):=fun e vs objs=>match e,vs,objs with
 | .exit 2,[.s (.ptr 0 0 none 0),.s (.sl 1 0 y0 true),.s (.ptr 2 0 none 0),.s (.i .i64 y1)],[.cells 28 [.arr .i8 81 y2,.arr .i8 16 y3,.one [.i .i8 y4]],.sli 43 false (.rows [.i .i64,.i .i64,.i .i64,.b] y5 y6),.cells 95 [Seg.barr 81 y7]]=>some (y0,y1,y2,y3,y4,y5,y6,y7)
 | _,_,_=>none
def qRZ:Ex->List V->List Obj->Option (Nat×LI×LI×Int×Nat×LL):=fun e vs objs=>match e,vs,objs with
 | .exit 0,[.s (.ptr 0 0 none 0),.s (.sl 1 0 y0 true)],[.cells 28 [.arr .i8 81 y1,.arr .i8 16 y2,.one [.i .i8 y3]],.sli 43 false (.rows [.i .i64,.i .i64,.i .i64,.b] y4 y5)]=>some (y0,y1,y2,y3,y4,y5)
 | _,_,_=>none
def qRX:Ex->List V->List Obj->Option (Nat×Int×LI×LI×Int×Nat×LL):=fun e vs objs=>match e,vs,objs with
 | .exit 6,[.s (.ptr 0 0 none 0),.s (.sl 1 0 y0 true),.s (.i .i64 y1)],[.cells 28 [.arr .i8 81 y2,.arr .i8 16 y3,.one [.i .i8 y4]],.sli 43 false (.rows [.i .i64,.i .i64,.i .i64,.b] y5 y6)]=>some (y0,y1,y2,y3,y4,y5,y6)
 | _,_,_=>none
def qRV:Ex->List V->List Obj->Option (Nat×Nat×LL):=fun e vs objs=>match e,vs,objs with
 | .exit 4,[.s (.sl 0 0 y0 true)],[.sli 43 false (.rows [.i .i64,.i .i64,.i .i64,.b] y1 y2)]=>some (y0,y1,y2)
 | _,_,_=>none
def qRc:HL:=fun vs objs K=>match vs,objs with
 | [.s (.ptr 0 0 none 0),.s (.sl 1 0 x0 true),.s (.ptr 2 0 none 0),.s (.i .i64 x1),.s (.i .i64 x2)],[.cells 28 [.arr .i8 81 x3,.arr .i8 16 x4,.one [.i .i8 x5]],.sli 43 false (.rows [.i .i64,.i .i64,.i .i64,.b] x6 x7),.cells 95 [Seg.barr 81 x8]]=>ob (qFW qC x0 x1 x2 x3 x4 x5 x6 x7 x8) fun (z0,z1,z2,z3,z4,z5,z6,z7)=>K (.exit 2) ([.s (.ptr 0 0 none 0),.s (.sl 1 0 z0 true),.s (.ptr 2 0 none 0),.s (.i .i64 z1)]) ([.cells 28 [.arr .i8 81 z2,.arr .i8 16 z3,.one [.i .i8 z4]],.sli 43 false (.rows [.i .i64,.i .i64,.i .i64,.b] z5 z6),.cells 95 [Seg.barr 81 z7]])
 | _,_=>none
def qRf:HL:=fun vs objs K=>match vs,objs with
 | [.s (.ptr 0 0 none 0),.s (.sl 1 0 x0 true),.s (.ptr 2 0 none 0),.s (.i .i64 x1)],[.cells 28 [.arr .i8 81 x2,.arr .i8 16 x3,.one [.i .i8 x4]],.sli 43 false (.rows [.i .i64,.i .i64,.i .i64,.b] x5 x6),.cells 95 [Seg.barr 81 x7]]=>ob (qD3 qC x0 x1 x2 x3 x4 x5 x6 x7) fun (z0,z1,z2,z3,z4,z5)=>K (.exit 0) ([.s (.ptr 0 0 none 0),.s (.sl 1 0 z0 true)]) ([.cells 28 [.arr .i8 81 z1,.arr .i8 16 z2,.one [.i .i8 z3]],.sli 43 false (.rows [.i .i64,.i .i64,.i .i64,.b] z4 z5)])
 | _,_=>none
def qRe:HL:=fun vs objs K=>match vs,objs with
 | [.s (.ptr 0 0 none 0),.s (.sl 1 0 x0 true),.s (.i .i64 x1),.s (.i .i64 x2)],[.cells 28 [.arr .i8 81 x3,.arr .i8 16 x4,.one [.i .i8 x5]],.sli 43 false (.rows [.i .i64,.i .i64,.i .i64,.b] x6 x7)]=>ob (qFX qC x0 x1 x2 x3 x4 x5 x6 x7) fun (z0,z1,z2,z3,z4,z5,z6)=>K (.exit 6) ([.s (.ptr 0 0 none 0),.s (.sl 1 0 z0 true),.s (.i .i64 z1)]) ([.cells 28 [.arr .i8 81 z2,.arr .i8 16 z3,.one [.i .i8 z4]],.sli 43 false (.rows [.i .i64,.i .i64,.i .i64,.b] z5 z6)])
 | _,_=>none
def qRd:HL:=fun vs objs K=>match vs,objs with
 | [.s (.ptr 0 0 none 0),.s (.sl 1 0 x0 true),.s (.i .i64 x1)],[.cells 28 [.arr .i8 81 x2,.arr .i8 16 x3,.one [.i .i8 x4]],.sli 43 false (.rows [.i .i64,.i .i64,.i .i64,.b] x5 x6)]=>ob (qD2 qC x0 x1 x2 x3 x4 x5 x6) fun (z0,z1,z2)=>K (.exit 4) ([.s (.sl 0 0 z0 true)]) ([.sli 43 false (.rows [.i .i64,.i .i64,.i .i64,.b] z1 z2)])
 | _,_=>none
def qoF:{R:Type}->Nat->List V->List Obj->(Ex->List V->List Obj->Option R)->Option R:=fun q vs objs K=>bif Nat.beq q 10 then qRc vs objs K else bif Nat.beq q 6 then qRf vs objs K else bif Nat.beq q 23 then qRe vs objs K else bif Nat.beq q 20 then qRd vs objs K else none
def qER:Ctx:=mkC 98 ((qbF (qLl (qFO (qLo qK))))) [(6,[1,3,4,5],[1,3]),(10,[1,3,4,5,6],[1,3,4,5]),(20,[1,3,8],[3]),(23,[1,3,8,9],[1,3,8])] qoF
theorem qJT:CtxOK Tryz.prog qER:=mkC_ok ((qoP _ (qQi _ (qGN _ (qRD _ qM)))))
def qRU (f:Nat) (x0:Nat) (x1 x2:Int) (x3 x4:LI) (x5:Int) (x6:Nat) (x7:LL) (x8:List Bool):Option (Nat×Int×LI×LI×Int×Nat×LL×List Bool):=qh qER 0 [1,3,4,5,6] [1,3,4,5] (qF Tryz.f32 10) f ([.s (.ptr 0 0 none 0),.s (.sl 1 0 x0 true),.s (.ptr 2 0 none 0),.s (.i .i64 x1),.s (.i .i64 x2)]) ([.cells 28 [.arr .i8 81 x3,.arr .i8 16 x4,.one [.i .i8 x5]],.sli 43 false (.rows [.i .i64,.i .i64,.i .i64,.b] x6 x7),.cells 95 [Seg.barr 81 x8]]) qRT
theorem qoB (f:Nat) (x0:Nat) (x1 x2:Int) (x3 x4:LI) (x5:Int) (x6:Nat) (x7:LL) (x8:List Bool):qRU (f+1) x0 x1 x2 x3 x4 x5 x6 x7 x8=qH0 (qRU f) x0 x1 x2 x3 x4 x5 x6 x7 x8:=by kernel_rfl
theorem qa5:∀ f,qRU f=qFW f
 | 0=>rfl
 | f+1=>by funext x0 x1 x2 x3 x4 x5 x6 x7 x8;rw[qoB,qa5 f];rfl
def qRa (f:Nat) (x0:Nat) (x1:Int) (x2 x3:LI) (x4:Int) (x5:Nat) (x6:LL) (x7:List Bool):Option (Nat×LI×LI×Int×Nat×LL):=qh qER 0 [1,3,4,5] [1,3] (qF Tryz.f32 6) f ([.s (.ptr 0 0 none 0),.s (.sl 1 0 x0 true),.s (.ptr 2 0 none 0),.s (.i .i64 x1)]) ([.cells 28 [.arr .i8 81 x2,.arr .i8 16 x3,.one [.i .i8 x4]],.sli 43 false (.rows [.i .i64,.i .i64,.i .i64,.b] x5 x6),.cells 95 [Seg.barr 81 x7]]) qRZ
theorem qoE (f:Nat) (x0:Nat) (x1:Int) (x2 x3:LI) (x4:Int) (x5:Nat) (x6:LL) (x7:List Bool):qRa (f+1) x0 x1 x2 x3 x4 x5 x6 x7=qH3 (qRa f) x0 x1 x2 x3 x4 x5 x6 x7:=by kernel_rfl
theorem qa8:∀ f,qRa f=qD3 f
 | 0=>rfl
 | f+1=>by funext x0 x1 x2 x3 x4 x5 x6 x7;rw[qoE,qa8 f];rfl
def qRY (f:Nat) (x0:Nat) (x1 x2:Int) (x3 x4:LI) (x5:Int) (x6:Nat) (x7:LL):Option (Nat×Int×LI×LI×Int×Nat×LL):=qh qER 0 [1,3,8,9] [1,3,8] (qF Tryz.f32 23) f ([.s (.ptr 0 0 none 0),.s (.sl 1 0 x0 true),.s (.i .i64 x1),.s (.i .i64 x2)]) ([.cells 28 [.arr .i8 81 x3,.arr .i8 16 x4,.one [.i .i8 x5]],.sli 43 false (.rows [.i .i64,.i .i64,.i .i64,.b] x6 x7)]) qRX
theorem qoD (f:Nat) (x0:Nat) (x1 x2:Int) (x3 x4:LI) (x5:Int) (x6:Nat) (x7:LL):qRY (f+1) x0 x1 x2 x3 x4 x5 x6 x7=qH2 (qRY f) x0 x1 x2 x3 x4 x5 x6 x7:=by kernel_rfl
theorem qa7:∀ f,qRY f=qFX f
 | 0=>rfl
 | f+1=>by funext x0 x1 x2 x3 x4 x5 x6 x7;rw[qoD,qa7 f];rfl
def qRW (f:Nat) (x0:Nat) (x1:Int) (x2 x3:LI) (x4:Int) (x5:Nat) (x6:LL):Option (Nat×Nat×LL):=qh qER 0 [1,3,8] [3] (qF Tryz.f32 20) f ([.s (.ptr 0 0 none 0),.s (.sl 1 0 x0 true),.s (.i .i64 x1)]) ([.cells 28 [.arr .i8 81 x2,.arr .i8 16 x3,.one [.i .i8 x4]],.sli 43 false (.rows [.i .i64,.i .i64,.i .i64,.b] x5 x6)]) qRV
theorem qoC (f:Nat) (x0:Nat) (x1:Int) (x2 x3:LI) (x4:Int) (x5:Nat) (x6:LL):qRW (f+1) x0 x1 x2 x3 x4 x5 x6=qH1 (qRW f) x0 x1 x2 x3 x4 x5 x6:=by kernel_rfl
theorem qa6:∀ f,qRW f=qD2 f
 | 0=>rfl
 | f+1=>by funext x0 x1 x2 x3 x4 x5 x6;rw[qoC,qa6 f];rfl
theorem qoG:qe Tryz.prog qER 0 (qF Tryz.f32 10):=
 qj mixed qJT (qP.of (l':=[]) (by kernel_rfl) trivial) (q:=10) (kin:=[1,3,4,5,6]) (kout:=[1,3,4,5]) (by kernel_rfl) (by kernel_rfl) fun vs objs K r h=>by
  replace h:qRc vs objs K=some r:=h
  unfold qRc at h
  split at h
  ·obtain⟨t,h1,h2⟩:=qE h
   rw[<- qa5] at h1
   refine⟨_,qRT,t,qC,h1,fun e vs' objs' hd=>?_⟩
   unfold qRT at hd;split at hd;(cases hd;exact h2);cases hd
  ·cases h
theorem qoI:qe Tryz.prog qER 0 (qF Tryz.f32 23):=
 qj mixed qJT (qP.of (l':=[]) (by kernel_rfl) trivial) (q:=23) (kin:=[1,3,8,9]) (kout:=[1,3,8]) (by kernel_rfl) (by kernel_rfl) fun vs objs K r h=>by
  replace h:qRe vs objs K=some r:=h
  unfold qRe at h
  split at h
  ·obtain⟨t,h1,h2⟩:=qE h
   rw[<- qa7] at h1
   refine⟨_,qRX,t,qC,h1,fun e vs' objs' hd=>?_⟩
   unfold qRX at hd;split at hd;(cases hd;exact h2);cases hd
  ·cases h
theorem qoJ:qe Tryz.prog qER 0 (qF Tryz.f32 6):=
 qj mixed qJT (qP.of (l':=[qF Tryz.f32 10]) (by kernel_rfl) ⟨qoG,trivial⟩) (q:=6) (kin:=[1,3,4,5]) (kout:=[1,3]) (by kernel_rfl) (by kernel_rfl) fun vs objs K r h=>by
  replace h:qRf vs objs K=some r:=h
  unfold qRf at h
  split at h
  ·obtain⟨t,h1,h2⟩:=qE h
   rw[<- qa8] at h1
   refine⟨_,qRZ,t,qC,h1,fun e vs' objs' hd=>?_⟩
   unfold qRZ at hd;split at hd;(cases hd;exact h2);cases hd
  ·cases h
theorem qoH:qe Tryz.prog qER 0 (qF Tryz.f32 20):=
 qj mixed qJT (qP.of (l':=[qF Tryz.f32 23]) (by kernel_rfl) ⟨qoI,trivial⟩) (q:=20) (kin:=[1,3,8]) (kout:=[3]) (by kernel_rfl) (by kernel_rfl) fun vs objs K r h=>by
  replace h:qRd vs objs K=some r:=h
  unfold qRd at h
  split at h
  ·obtain⟨t,h1,h2⟩:=qE h
   rw[<- qa6] at h1
   refine⟨_,qRV,t,qC,h1,fun e vs' objs' hd=>?_⟩
   unfold qRV at hd;split at hd;(cases hd;exact h2);cases hd
  ·cases h
def qa4:V->List Obj->Option (Nat×Nat×LL):=fun v objs=>match v,objs with
 | .s (.sl 0 0 y0 true),[.sli 43 false (.rows [.i .i64,.i .i64,.i .i64,.b] y1 y2)]=>some (y0,y1,y2)
 | _,_=>none
def qa3:HA:=fun o vs objs K=>match vs,objs with
 | [.agg [.arr .i8 81 x0,.arr .i8 16 x1,.one [.i .i8 x2]]],[]=>ob (qJS x0 x1 x2) fun (z0,z1,z2)=>K false (.s (.sl 0 0 z0 true)) ([.sli 43 false (.rows [.i .i64,.i .i64,.i .i64,.b] z1 z2)])
 | _,_=>o 32 vs objs K
def qRb (o:Orc):Orc:=qL 32 (qa3 o) o
theorem qa9:OQ Tryz.prog qRb:=fun _ ho=>qN ho fun vs objs K r h=>by
 unfold qa3 at h
 split at h
 ·obtain⟨t,h1,h2⟩:=qE h
  refine qAQ mixed qJT (D:=qa4) (fn:=Tryz.f32) (Eq.trans (by kernel_rfl) h1) (by kernel_rfl) (m:=0) rfl (qP.of (l':=[qF Tryz.f32 6,qF Tryz.f32 20]) (by kernel_rfl) ⟨qoJ,qoH,trivial⟩) fun v objs' hd=>?_
  unfold qa4 at hd;split at hd;(cases hd;exact h2);cases hd
 ·exact ho _ _ _ _ _ h
def qn6:Ctx:=mkC 82 ((qQV (qDK qK))) [] qV
theorem qn7:CtxOK Tryz.prog qn6:=mkC_ok ((qZg _ (qDr _ qM)))
def qay:V->List Obj->Option (LI×LI×Int):=fun v objs=>match v,objs with
 | .agg [.arr .i8 81 y0,.arr .i8 16 y1,.one [.i .i8 y2]],[]=>some (y0,y1,y2)
 | _,_=>none
def qax:HA:=fun o vs objs K=>match vs,objs with
 | [.agg [.arr .i8 81 x0,.arr .i8 16 x1,.one [.i .i8 x2]],.agg [.one [.i .i64 x3,.i .i64 x4,.i .i64 x5,.b x6]]],[]=>ob (qJR x0 x1 x2 x3 x4 x5 x6) fun (z0,z1,z2)=>K false (.agg [.arr .i8 81 z0,.arr .i8 16 z1,.one [.i .i8 z2]]) ([])
 | _,_=>o 29 vs objs K
def qRS (o:Orc):Orc:=qL 29 (qax o) o
theorem qaz:OQ Tryz.prog qRS:=fun _ ho=>qN ho fun vs objs K r h=>by
 unfold qax at h
 split at h
 ·obtain⟨t,h1,h2⟩:=qE h
  refine qd mixed qn7 (D:=qay) (fn:=Tryz.f29) (Eq.trans (by kernel_rfl) h1) (by kernel_rfl) fun v objs' hd=>?_
  unfold qay at hd;split at hd;(cases hd;exact h2);cases hd
 ·exact ho _ _ _ _ _ h
def qoa:Ctx:=mkC 13 ((qLr (qRS qK))) [] qV
theorem qob:CtxOK Tryz.prog qoa:=mkC_ok ((qRM _ (qaz _ qM)))
def qbS:V->List Obj->Option (Bool):=fun v objs=>match v,objs with
 | .s (.b y0),[]=>some (y0)
 | _,_=>none
def qbR:HA:=fun o vs objs K=>match vs,objs with
 | [.agg [.arr .i8 81 x0,.arr .i8 16 x1,.one [.i .i8 x2]],.agg [.one [.i .i64 x3,.i .i64 x4,.i .i64 x5,.b x6]]],[]=>ob (qJU x0 x1 x2 x3 x4 x5 x6) fun y0=>K false (.s (.b y0)) ([])
 | _,_=>o 67 vs objs K
def qRk (o:Orc):Orc:=qL 67 (qbR o) o
theorem qbT:OQ Tryz.prog qRk:=fun _ ho=>qN ho fun vs objs K r h=>by
 unfold qbR at h
 split at h
 ·obtain⟨t,h1,h2⟩:=qE h
  refine qd mixed qob (D:=qbS) (fn:=Tryz.f67) (Eq.trans (by kernel_rfl) h1) (by kernel_rfl) fun v objs' hd=>?_
  unfold qbS at hd;split at hd;(cases hd;exact h2);cases hd
 ·exact ho _ _ _ _ _ h
def qRm:Ex->List V->List Obj->Option ((Bool)⊕(Unit)):=fun e vs objs=>match e,vs,objs with
 | .ret,[.s (.b y0)],[]=>some (.inl (y0))
 | .exit 0,[.s .bad],[]=>some (.inr ())
 | _,_,_=>none
def qRo:HL:=fun vs objs K=>match vs,objs with
 | [.s (.ptr 0 0 none 0),.s (.sl 1 0 x0 true),.s (.i .i64 x1)],[.cells 28 [.arr .i8 81 x2,.arr .i8 16 x3,.one [.i .i8 x4]],.sli 43 false (.rows [.i .i64,.i .i64,.i .i64,.b] x5 x6)]=>ob (qFZ qC x0 x1 x2 x3 x4 x5 x6) fun t0=>sw t0 (fun y0=>K (.ret) ([.s (.b y0)]) ([])) (fun _=>K (.exit 0) ([.s .bad]) ([]))
 | _,_=>none
def qod:{R:Type}->Nat->List V->List Obj->(Ex->List V->List Obj->Option R)->Option R:=fun q vs objs K=>bif Nat.beq q 3 then qRo vs objs K else none
def qRl:Ctx:=mkC 19 ((qRk (qRb qK))) [(3,[1,3,4],[2])] qod
theorem qbV:CtxOK Tryz.prog qRl:=mkC_ok ((qbT _ (qa9 _ qM)))
def qRn (f:Nat) (x0:Nat) (x1:Int) (x2 x3:LI) (x4:Int) (x5:Nat) (x6:LL):Option ((Bool)⊕(Unit)):=qh qRl 0 [1,3,4] [2] (qF Tryz.f68 3) f ([.s (.ptr 0 0 none 0),.s (.sl 1 0 x0 true),.s (.i .i64 x1)]) ([.cells 28 [.arr .i8 81 x2,.arr .i8 16 x3,.one [.i .i8 x4]],.sli 43 false (.rows [.i .i64,.i .i64,.i .i64,.b] x5 x6)]) qRm
theorem qoc (f:Nat) (x0:Nat) (x1:Int) (x2 x3:LI) (x4:Int) (x5:Nat) (x6:LL):qRn (f+1) x0 x1 x2 x3 x4 x5 x6=qH6 (qRn f) x0 x1 x2 x3 x4 x5 x6:=by kernel_rfl
theorem qbX:∀ f,qRn f=qFZ f
 | 0=>rfl
 | f+1=>by funext x0 x1 x2 x3 x4 x5 x6;rw[qoc,qbX f];rfl
theorem qof:qe Tryz.prog qRl 0 (qF Tryz.f68 3):=
 qj mixed qbV (qP.of (l':=[]) (by kernel_rfl) trivial) (q:=3) (kin:=[1,3,4]) (kout:=[2]) (by kernel_rfl) (by kernel_rfl) fun vs objs K r h=>by
  replace h:qRo vs objs K=some r:=h
  unfold qRo at h
  split at h
  ·obtain⟨t,h1,h2⟩:=qE h
   rw[<- qbX] at h1
   refine⟨_,qRm,t,qC,h1,fun e vs' objs' hd=>?_⟩
   unfold qRm at hd;split at hd;(cases hd;exact h2);(cases hd;exact h2);cases hd
  ·cases h
def qbW:V->List Obj->Option (Bool):=fun v objs=>match v,objs with
 | .s (.b y0),[]=>some (y0)
 | _,_=>none
def qbU:HA:=fun o vs objs K=>match vs,objs with
 | [.agg [.arr .i8 81 x0,.arr .i8 16 x1,.one [.i .i8 x2]]],[]=>ob (qLx x0 x1 x2) fun y0=>K false (.s (.b y0)) ([])
 | _,_=>o 68 vs objs K
def qbY (o:Orc):Orc:=qL 68 (qbU o) o
theorem qoe:OQ Tryz.prog qbY:=fun _ ho=>qN ho fun vs objs K r h=>by
 unfold qbU at h
 split at h
 ·obtain⟨t,h1,h2⟩:=qE h
  refine qAQ mixed qbV (D:=qbW) (fn:=Tryz.f68) (Eq.trans (by kernel_rfl) h1) (by kernel_rfl) (m:=0) rfl (qP.of (l':=[qF Tryz.f68 3]) (by kernel_rfl) ⟨qof,trivial⟩) fun v objs' hd=>?_
  unfold qbW at hd;split at hd;(cases hd;exact h2);cases hd
 ·exact ho _ _ _ _ _ h
def qoX:Ctx:=mkC 27 ((qbY (qLr (qRS (qRk qK))))) [] qV
theorem qoY:CtxOK Tryz.prog qoX:=mkC_ok ((qoe _ (qRM _ (qaz _ (qbT _ qM)))))
def qbP:V->List Obj->Option (Bool):=fun v objs=>match v,objs with
 | .s (.b y0),[]=>some (y0)
 | _,_=>none
def qbO:HA:=fun o vs objs K=>match vs,objs with
 | [.agg [.arr .i8 81 x0,.arr .i8 16 x1,.one [.i .i8 x2]],.agg [.one [.i .i64 x3,.i .i64 x4,.i .i64 x5,.b x6]]],[]=>ob (qLw x0 x1 x2 x3 x4 x5 x6) fun y0=>K false (.s (.b y0)) ([])
 | _,_=>o 33 vs objs K
def qbQ (o:Orc):Orc:=qL 33 (qbO o) o
theorem qoZ:OQ Tryz.prog qbQ:=fun _ ho=>qN ho fun vs objs K r h=>by
 unfold qbO at h
 split at h
 ·obtain⟨t,h1,h2⟩:=qE h
  refine qd mixed qoY (D:=qbP) (fn:=Tryz.f33) (Eq.trans (by kernel_rfl) h1) (by kernel_rfl) fun v objs' hd=>?_
  unfold qbP at hd;split at hd;(cases hd;exact h2);cases hd
 ·exact ho _ _ _ _ _ h
def qRh:Ex->List V->List Obj->Option (Nat×Nat×LL):=fun e vs objs=>match e,vs,objs with
 | .exit 0,[.s (.sl 0 0 y0 true)],[.sli 43 false (.rows [.i .i64,.i .i64,.i .i64,.b] y1 y2)]=>some (y0,y1,y2)
 | _,_,_=>none
def qRj:HL:=fun vs objs K=>match vs,objs with
 | [.s (.ptr 0 0 none 0),.s (.sl 1 0 x0 true),.s (.sl 2 0 x1 true),.s (.i .i64 x2)],[.cells 28 [.arr .i8 81 x3,.arr .i8 16 x4,.one [.i .i8 x5]],.sli 43 false (.rows [.i .i64,.i .i64,.i .i64,.b] x6 x7),.sli 43 false (.rows [.i .i64,.i .i64,.i .i64,.b] x8 x9)]=>ob (qFY qC x0 x1 x2 x3 x4 x5 x6 x7 x8 x9) fun (z0,z1,z2)=>K (.exit 0) ([.s (.sl 0 0 z0 true)]) ([.sli 43 false (.rows [.i .i64,.i .i64,.i .i64,.b] z1 z2)])
 | _,_=>none
def qoU:{R:Type}->Nat->List V->List Obj->(Ex->List V->List Obj->Option R)->Option R:=fun q vs objs K=>bif Nat.beq q 4 then qRj vs objs K else none
def qRg:Ctx:=mkC 28 ((qbQ (qRb qK))) [(4,[1,3,4,5],[3])] qoU
theorem qbK:CtxOK Tryz.prog qRg:=mkC_ok ((qoZ _ (qa9 _ qM)))
def qRi (f:Nat) (x0 x1:Nat) (x2:Int) (x3 x4:LI) (x5:Int) (x6:Nat) (x7:LL) (x8:Nat) (x9:LL):Option (Nat×Nat×LL):=qh qRg 0 [1,3,4,5] [3] (qF Tryz.f16 4) f ([.s (.ptr 0 0 none 0),.s (.sl 1 0 x0 true),.s (.sl 2 0 x1 true),.s (.i .i64 x2)]) ([.cells 28 [.arr .i8 81 x3,.arr .i8 16 x4,.one [.i .i8 x5]],.sli 43 false (.rows [.i .i64,.i .i64,.i .i64,.b] x6 x7),.sli 43 false (.rows [.i .i64,.i .i64,.i .i64,.b] x8 x9)]) qRh
theorem qoT (f:Nat) (x0 x1:Nat) (x2:Int) (x3 x4:LI) (x5:Int) (x6:Nat) (x7:LL) (x8:Nat) (x9:LL):qRi (f+1) x0 x1 x2 x3 x4 x5 x6 x7 x8 x9=qH5 (qRi f) x0 x1 x2 x3 x4 x5 x6 x7 x8 x9:=by kernel_rfl
theorem qbM:∀ f,qRi f=qFY f
 | 0=>rfl
 | f+1=>by funext x0 x1 x2 x3 x4 x5 x6 x7 x8 x9;rw[qoT,qbM f];rfl
theorem qoW:qe Tryz.prog qRg 0 (qF Tryz.f16 4):=
 qj mixed qbK (qP.of (l':=[]) (by kernel_rfl) trivial) (q:=4) (kin:=[1,3,4,5]) (kout:=[3]) (by kernel_rfl) (by kernel_rfl) fun vs objs K r h=>by
  replace h:qRj vs objs K=some r:=h
  unfold qRj at h
  split at h
  ·obtain⟨t,h1,h2⟩:=qE h
   rw[<- qbM] at h1
   refine⟨_,qRh,t,qC,h1,fun e vs' objs' hd=>?_⟩
   unfold qRh at hd;split at hd;(cases hd;exact h2);cases hd
  ·cases h
def qbL:V->List Obj->Option (Nat×Nat×LL):=fun v objs=>match v,objs with
 | .s (.sl 0 0 y0 true),[.sli 43 false (.rows [.i .i64,.i .i64,.i .i64,.b] y1 y2)]=>some (y0,y1,y2)
 | _,_=>none
def qbJ:HA:=fun o vs objs K=>match vs,objs with
 | [.agg [.arr .i8 81 x0,.arr .i8 16 x1,.one [.i .i8 x2]]],[]=>ob (qH4 x0 x1 x2) fun (z0,z1,z2)=>K false (.s (.sl 0 0 z0 true)) ([.sli 43 false (.rows [.i .i64,.i .i64,.i .i64,.b] z1 z2)])
 | _,_=>o 16 vs objs K
def qbN (o:Orc):Orc:=qL 16 (qbJ o) o
theorem qoV:OQ Tryz.prog qbN:=fun _ ho=>qN ho fun vs objs K r h=>by
 unfold qbJ at h
 split at h
 ·obtain⟨t,h1,h2⟩:=qE h
  refine qAQ mixed qbK (D:=qbL) (fn:=Tryz.f16) (Eq.trans (by kernel_rfl) h1) (by kernel_rfl) (m:=0) rfl (qP.of (l':=[qF Tryz.f16 4]) (by kernel_rfl) ⟨qoW,trivial⟩) fun v objs' hd=>?_
  unfold qbL at hd;split at hd;(cases hd;exact h2);cases hd
 ·exact ho _ _ _ _ _ h
end
end Go.Kk.KkGT
