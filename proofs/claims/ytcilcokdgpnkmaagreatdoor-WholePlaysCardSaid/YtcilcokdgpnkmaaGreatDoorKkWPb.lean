/- Printed by a tool of this project (KkGen): the program's functions come to the plain ones. -/
import Derived.Test.YtcilcokdgpnkmaaGreatDoorKkWP
namespace Go.Kk.KkWP
noncomputable section
open Go.Proofs Go.Kk.Pl
set_option maxRecDepth 100000
set_option maxHeartbeats 4000000
def qQo:Ex->List V->List Obj->Option (Int×Int×Int×Int):=fun e vs objs=>match e,vs,objs with
 | .exit 0,[.s (.ptr 0 0 none 0),.s (.ptr 1 0 none 0)],[.cells 76 [.one [.i .u64 y0,.i .u64 y1]],.cells 76 [.one [.i .u64 y2,.i .u64 y3]]]=>some (y0,y1,y2,y3)
 | _,_,_=>none
def qQr:HL:=fun vs objs K=>match vs,objs with
 | [.s (.i .i64 x0),.s (.ptr 0 0 none 0),.s (.ptr 1 0 none 0),.s (.ptr 2 0 none 0),.s (.ptr 3 0 none 0)],[.cells 133 [.one [.i .i64 x1,.i .i64 x2]],.cells 76 [.one [.i .u64 x3,.i .u64 x4]],.cells 76 [.one [.i .u64 x5,.i .u64 x6]],.cells 76 [.one [.i .u64 x7,.i .u64 x8]]]=>ob (qG3 qB x0 x1 x2 x3 x4 x5 x6 x7 x8) fun z=>K (.exit 0) ([.s (.ptr 0 0 none 0),.s (.ptr 1 0 none 0)]) ([.cells 76 [.one [.i .u64 (z.1),.i .u64 (z.2.1)]],.cells 76 [.one [.i .u64 (z.2.2.1),.i .u64 (z.2.2.2)]]])
 | _,_=>none
def qn8:{R:Type}->Nat->List V->List Obj->(Ex->List V->List Obj->Option R)->Option R:=fun q vs objs K=>bif Nat.beq q 5 then qQr vs objs K else none
def qMQ:Ctx:=mkC 27 ((qHH (qE6 (qSn qK)))) [(5,[0,4,5,6,7],[6,7])] qn8
theorem qZh:CtxOK Tryz.prog qMQ:=mkC_ok ((qIz _ (qGL _ (qd5 _ qM))))
def qQp (f:Nat) (x0 x1:Int) (x2 x3:Int) (x4 x5:Int) (x6 x7 x8:Int):Option (Int×Int×Int×Int):=qh qMQ 0 [0,4,5,6,7] [6,7] (qG Tryz.f92 5) f ([.s (.i .i64 x0),.s (.ptr 0 0 none 0),.s (.ptr 1 0 none 0),.s (.ptr 2 0 none 0),.s (.ptr 3 0 none 0)]) ([.cells 133 [.one [.i .i64 x1,.i .i64 x2]],.cells 76 [.one [.i .u64 x3,.i .u64 x4]],.cells 76 [.one [.i .u64 x5,.i .u64 x6]],.cells 76 [.one [.i .u64 x7,.i .u64 x8]]]) qQo
theorem qn7 (f:Nat) (x0 x1:Int) (x2 x3:Int) (x4 x5:Int) (x6 x7 x8:Int):qQp (f+1) x0 x1 x2 x3 x4 x5 x6 x7 x8=qIa (qQp f) x0 x1 x2 x3 x4 x5 x6 x7 x8:=by kernel_rfl
theorem qZj:∀ f,qQp f=qG3 f
 | 0=>rfl
 | f+1=>by funext x0 x1 x2 x3 x4 x5 x6 x7 x8;rw[qn7,qZj f];rfl
theorem qn9:qg Tryz.prog qMQ 0 (qG Tryz.f92 5):=
 qi mixed qZh (qQ.of (l':=[]) (by kernel_rfl) trivial) (q:=5) (kin:=[0,4,5,6,7]) (kout:=[6,7]) (by kernel_rfl) (by kernel_rfl) fun vs objs K r h=>by
  replace h:qQr vs objs K=some r:=h
  unfold qQr at h
  split at h
  ·skip
   obtain⟨t,h1,h2⟩:=qE h
   rw[<- qZj] at h1
   refine⟨_,qQo,t,qB,h1,fun e vs' objs' hd=>?_⟩
   unfold qQo at hd;split at hd;(cases hd;exact h2);cases hd
  ·cases h
def qZi:V->List Obj->Option (Int×Int):=fun v objs=>match v,objs with
 | .agg [.one [.i .u64 y0,.i .u64 y1]],[]=>some (y0,y1)
 | _,_=>none
theorem qn6 (x0 x1:Int) (x2 x3 x4:Int):fnE qMQ Tryz.f92 ([.s (.i .i64 x0),.agg [.one [.i .i64 x1,.i .i64 x2]],.agg [.one [.i .u64 x3,.i .u64 x4]]]) ([]) qZi=qIZ x0 x1 x2 x3 x4:=by kernel_rfl
def qZg:HA:=fun o vs objs K=>match vs,objs with
 | [.s (.i .i64 x0),.agg [.one [.i .i64 x1,.i .i64 x2]],.agg [.one [.i .u64 x3,.i .u64 x4]]],[]=>ob (qIZ x0 x1 x2 x3 x4) fun z=>K false (.agg [.one [.i .u64 (z.1),.i .u64 (z.2)]]) ([])
 | _,_=>o 92 vs objs K
def qQq (o:Orc):Orc:=qN 92 (qZg o) o
theorem qZk:OQ Tryz.prog qQq:=fun _ ho=>qO ho fun vs objs K r h=>by
 unfold qZg at h
 split at h
 ·skip
  obtain⟨t,h1,h2⟩:=qE h
  refine qAR mixed qZh (fn:=Tryz.f92) (b:=(Tryz.f92).body.getD .skip) (by kernel_rfl) (by kernel_rfl) (by kernel_rfl) ((qn6 _ _ _ _ _).trans h1) (m:=0) rfl (qQ.of (l':=[qG Tryz.f92 5]) (by kernel_rfl) ⟨qn9,trivial⟩) fun v objs' hd=>?_
  unfold qZi at hd;split at hd;(cases hd;exact h2);cases hd
 ·exact ho _ _ _ _ _ h
def qQf:Ex->List V->List Obj->Option ((Int×Int)⊕(Int×Int)):=fun e vs objs=>match e,vs,objs with
 | .ret,[.s (.ptr 0 0 none 0)],[.cells 76 [.one [.i .u64 y0,.i .u64 y1]]]=>some (.inl (y0,y1))
 | .exit 0,[.s (.ptr 0 0 none 0)],[.cells 76 [.one [.i .u64 y0,.i .u64 y1]]]=>some (.inr (y0,y1))
 | _,_,_=>none
def qQi:HL:=fun vs objs K=>match vs,objs with
 | [.s (.i .i64 x0),.s (.i .i64 x1),.s (.ptr 0 0 none 0),.s (.sl 1 0 x2 true),.s (.i .i64 x3),.s (.i .i64 x4)],[.cells 76 [.one [.i .u64 x5,.i .u64 x6]],.sli 133 false (.rows [.i .i64,.i .i64] x7 x8)]=>ob (qFx qB x0 x1 x2 x3 x4 x5 x6 x7 x8) fun t0=>sw t0 (fun z=>K (.ret) ([.s (.ptr 0 0 none 0)]) ([.cells 76 [.one [.i .u64 (z.1),.i .u64 (z.2)]]])) (fun z=>K (.exit 0) ([.s (.ptr 0 0 none 0)]) ([.cells 76 [.one [.i .u64 (z.1),.i .u64 (z.2)]]]))
 | _,_=>none
def qny:{R:Type}->Nat->List V->List Obj->(Ex->List V->List Obj->Option R)->Option R:=fun q vs objs K=>bif Nat.beq q 2 then qQi vs objs K else none
def qMN:Ctx:=mkC 30 ((qKf (qHH (qQq (qdK (qQj qK)))))) [(2,[0,1,4,10,11,12],[4])] qny
theorem qZU:CtxOK Tryz.prog qMN:=mkC_ok ((qM6 _ (qIz _ (qZk _ (qrk _ (qZb _ qM))))))
def qQg (f:Nat) (x0 x1:Int) (x2:Nat) (x3 x4:Int) (x5 x6:Int) (x7:Nat) (x8:LL):Option ((Int×Int)⊕(Int×Int)):=qh qMN 0 [0,1,4,10,11,12] [4] (qG Tryz.f55 2) f ([.s (.i .i64 x0),.s (.i .i64 x1),.s (.ptr 0 0 none 0),.s (.sl 1 0 x2 true),.s (.i .i64 x3),.s (.i .i64 x4)]) ([.cells 76 [.one [.i .u64 x5,.i .u64 x6]],.sli 133 false (.rows [.i .i64,.i .i64] x7 x8)]) qQf
theorem qnx (f:Nat) (x0 x1:Int) (x2:Nat) (x3 x4:Int) (x5 x6:Int) (x7:Nat) (x8:LL):qQg (f+1) x0 x1 x2 x3 x4 x5 x6 x7 x8=qIX (qQg f) x0 x1 x2 x3 x4 x5 x6 x7 x8:=by kernel_rfl
theorem qZW:∀ f,qQg f=qFx f
 | 0=>rfl
 | f+1=>by funext x0 x1 x2 x3 x4 x5 x6 x7 x8;rw[qnx,qZW f];rfl
theorem qnz:qg Tryz.prog qMN 0 (qG Tryz.f55 2):=
 qi mixed qZU (qQ.of (l':=[]) (by kernel_rfl) trivial) (q:=2) (kin:=[0,1,4,10,11,12]) (kout:=[4]) (by kernel_rfl) (by kernel_rfl) fun vs objs K r h=>by
  replace h:qQi vs objs K=some r:=h
  unfold qQi at h
  split at h
  ·skip
   obtain⟨t,h1,h2⟩:=qE h
   rw[<- qZW] at h1
   refine⟨_,qQf,t,qB,h1,fun e vs' objs' hd=>?_⟩
   unfold qQf at hd
   split at hd
   ·skip
    cases hd
    exact h2
   ·skip
    cases hd
    exact h2
   ·cases hd
  ·cases h
def qZV:V->List Obj->Option (Int×Int):=fun v objs=>match v,objs with
 | .agg [.one [.i .u64 y0,.i .u64 y1]],[]=>some (y0,y1)
 | _,_=>none
theorem qnw (x0 x1:Int):fnE qMN Tryz.f55 ([.s (.i .i64 x0),.s (.i .i64 x1)]) ([]) qZV=qIW x0 x1:=by kernel_rfl
def qZT:HA:=fun o vs objs K=>match vs,objs with
 | [.s (.i .i64 x0),.s (.i .i64 x1)],[]=>ob (qIW x0 x1) fun z=>K false (.agg [.one [.i .u64 (z.1),.i .u64 (z.2)]]) ([])
 | _,_=>o 55 vs objs K
def qQh (o:Orc):Orc:=qN 55 (qZT o) o
theorem qZX:OQ Tryz.prog qQh:=fun _ ho=>qO ho fun vs objs K r h=>by
 unfold qZT at h
 split at h
 ·skip
  obtain⟨t,h1,h2⟩:=qE h
  refine qAR mixed qZU (fn:=Tryz.f55) (b:=(Tryz.f55).body.getD .skip) (by kernel_rfl) (by kernel_rfl) (by kernel_rfl) ((qnw _ _).trans h1) (m:=0) rfl (qQ.of (l':=[qG Tryz.f55 2]) (by kernel_rfl) ⟨qnz,trivial⟩) fun v objs' hd=>?_
  unfold qZV at hd;split at hd;(cases hd;exact h2);cases hd
 ·exact ho _ _ _ _ _ h
def qU3:Ctx:=mkC 14 ((qHI qK)) [] qW
theorem qhd:CtxOK Tryz.prog qU3:=mkC_ok ((qI3 _ qM))
def qU4:V->List Obj->Option (Int×Int):=fun v objs=>match v,objs with
 | .agg [.one [.i .u64 y0,.i .u64 y1]],[]=>some (y0,y1)
 | _,_=>none
theorem qhc (x0 x1:LI) (x2:Int) (x3 x4:LL):fnE qU3 Tryz.f63 ([.s (.ptr 0 0 none 0)]) ([.rcells 87 [.arr .i8 81 x0,.arr .i8 16 x1,.one [.i .i8 x2],.rows [.i .u64,.i .u64] 32 x3,.rows [.i .u64,.i .u64] 2 x4]]) (qAf 1 qU4)=qDI x0 x1 x2 x3 x4:=by kernel_rfl
def qU2:HA:=fun o vs objs K=>match vs,List.map Obj.toRO objs with
 | [.s (.ptr 0 0 none 0)],[.rcells 87 [.arr .i8 81 x0,.arr .i8 16 x1,.one [.i .i8 x2],.rows [.i .u64,.i .u64] 32 x3,.rows [.i .u64,.i .u64] 2 x4]]=>ob (qDI x0 x1 x2 x3 x4) fun z=>K true (.agg [.one [.i .u64 (z.1),.i .u64 (z.2)]]) ([])
 | _,_=>o 63 vs objs K
def qHl (o:Orc):Orc:=qN 63 (qU2 o) o
theorem qJX:OQ Tryz.prog qHl:=fun _ ho=>qO ho fun vs objs K r h=>by
 unfold qU2 at h
 split at h
 ·skip
  have hq:List.map Obj.toRO objs=_:=(by rename_i hq;first | exact hq | assumption)
  obtain⟨t,h1,h2⟩:=qE h
  refine qAr mixed qhd (m:=1) (fn:=Tryz.f63) (b:=(Tryz.f63).body.getD .skip) (by kernel_rfl) (by kernel_rfl) (by kernel_rfl) hq (by kernel_rfl) (by kernel_rfl) (qQ.of (l':=[]) (by kernel_rfl) trivial) ((qhc _ _ _ _ _).trans h1) fun v objs' hd=>?_
  unfold qU4 at hd;split at hd;(cases hd;exact h2);cases hd
 ·exact ho _ _ _ _ _ h
def qUE:Ctx:=mkC 35 (qK) [] qW
theorem qgq:CtxOK Tryz.prog qUE:=mkC_ok (qM)
def qUF:V->List Obj->Option (Int):=fun v objs=>match v,objs with
 | .s (.i .i64 y0),[]=>some (y0)
 | _,_=>none
theorem qgp (x0:Int):fnE qUE Tryz.f90 ([.s (.i .u64 x0)]) ([]) qUF=qGe x0:=by kernel_rfl
def qUD:HA:=fun o vs objs K=>match vs,objs with
 | [.s (.i .u64 x0)],[]=>ob (qGe x0) fun y0=>K false (.s (.i .i64 y0)) ([])
 | _,_=>o 90 vs objs K
def qUG (o:Orc):Orc:=qN 90 (qUD o) o
theorem qgr:OQ Tryz.prog qUG:=fun _ ho=>qO ho fun vs objs K r h=>by
 unfold qUD at h
 split at h
 ·skip
  obtain⟨t,h1,h2⟩:=qE h
  refine qa mixed qgq ((qgp _).trans h1) (by kernel_rfl) fun v objs' hd=>?_
  unfold qUF at hd;split at hd;(cases hd;exact h2);cases hd
 ·exact ho _ _ _ _ _ h
def qcp:Ctx:=mkC 10 ((qUG qK)) [] qW
theorem qrP:CtxOK Tryz.prog qcp:=mkC_ok ((qgr _ qM))
def qcq:V->List Obj->Option (Int):=fun v objs=>match v,objs with
 | .s (.i .i64 y0),[]=>some (y0)
 | _,_=>none
theorem qrO (x0 x1:Int):fnE qcp Tryz.f54 ([.agg [.one [.i .u64 x0,.i .u64 x1]]]) ([]) qcq=qHE x0 x1:=by kernel_rfl
def qco:HA:=fun o vs objs K=>match vs,objs with
 | [.agg [.one [.i .u64 x0,.i .u64 x1]]],[]=>ob (qHE x0 x1) fun y0=>K false (.s (.i .i64 y0)) ([])
 | _,_=>o 54 vs objs K
def qMu (o:Orc):Orc:=qN 54 (qco o) o
theorem qSI:OQ Tryz.prog qMu:=fun _ ho=>qO ho fun vs objs K r h=>by
 unfold qco at h
 split at h
 ·skip
  obtain⟨t,h1,h2⟩:=qE h
  refine qa mixed qrP ((qrO _ _).trans h1) (by kernel_rfl) fun v objs' hd=>?_
  unfold qcq at hd;split at hd;(cases hd;exact h2);cases hd
 ·exact ho _ _ _ _ _ h
def qUl:Ctx:=mkC 18 (qK) [] qW
theorem qhP:CtxOK Tryz.prog qUl:=mkC_ok (qM)
def qUm:V->List Obj->Option (Int×Int):=fun v objs=>match v,objs with
 | .agg [.one [.i .u64 y0,.i .u64 y1]],[]=>some (y0,y1)
 | _,_=>none
theorem qhO (x0:Int) (x1 x2:LI) (x3:Int) (x4 x5:LL):fnE qUl Tryz.f59 ([.s (.ptr 0 0 none 0),.s (.i .i64 x0)]) ([.rcells 87 [.arr .i8 81 x1,.arr .i8 16 x2,.one [.i .i8 x3],.rows [.i .u64,.i .u64] 32 x4,.rows [.i .u64,.i .u64] 2 x5]]) (qAf 1 qUm)=qGi x0 x1 x2 x3 x4 x5:=by kernel_rfl
def qUk:HA:=fun o vs objs K=>match vs,List.map Obj.toRO objs with
 | [.s (.ptr 0 0 none 0),.s (.i .i64 x0)],[.rcells 87 [.arr .i8 81 x1,.arr .i8 16 x2,.one [.i .i8 x3],.rows [.i .u64,.i .u64] 32 x4,.rows [.i .u64,.i .u64] 2 x5]]=>ob (qGi x0 x1 x2 x3 x4 x5) fun z=>K true (.agg [.one [.i .u64 (z.1),.i .u64 (z.2)]]) ([])
 | _,_=>o 59 vs objs K
def qOL (o:Orc):Orc:=qN 59 (qUk o) o
theorem qUn:OQ Tryz.prog qOL:=fun _ ho=>qO ho fun vs objs K r h=>by
 unfold qUk at h
 split at h
 ·skip
  have hq:List.map Obj.toRO objs=_:=(by rename_i hq;first | exact hq | assumption)
  obtain⟨t,h1,h2⟩:=qE h
  refine qAr mixed qhP (m:=1) (fn:=Tryz.f59) (b:=(Tryz.f59).body.getD .skip) (by kernel_rfl) (by kernel_rfl) (by kernel_rfl) hq (by kernel_rfl) (by kernel_rfl) (qQ.of (l':=[]) (by kernel_rfl) trivial) ((qhO _ _ _ _ _ _).trans h1) fun v objs' hd=>?_
  unfold qUm at hd;split at hd;(cases hd;exact h2);cases hd
 ·exact ho _ _ _ _ _ h
def qUK:Ctx:=mkC 18 (qK) [] qW
theorem qgz:CtxOK Tryz.prog qUK:=mkC_ok (qM)
def qUL:V->List Obj->Option (Int):=fun v objs=>match v,objs with
 | .s (.i .i8 y0),[]=>some (y0)
 | _,_=>none
theorem qgy (x0:Int) (x1 x2:LI) (x3:Int) (x4 x5:LL):fnE qUK Tryz.f61 ([.s (.ptr 0 0 none 0),.s (.i .i64 x0)]) ([.rcells 87 [.arr .i8 81 x1,.arr .i8 16 x2,.one [.i .i8 x3],.rows [.i .u64,.i .u64] 32 x4,.rows [.i .u64,.i .u64] 2 x5]]) (qAf 1 qUL)=qAi x0 x1 x2 x3 x4 x5:=by kernel_rfl
def qUJ:HA:=fun o vs objs K=>match vs,List.map Obj.toRO objs with
 | [.s (.ptr 0 0 none 0),.s (.i .i64 x0)],[.rcells 87 [.arr .i8 81 x1,.arr .i8 16 x2,.one [.i .i8 x3],.rows [.i .u64,.i .u64] 32 x4,.rows [.i .u64,.i .u64] 2 x5]]=>ob (qAi x0 x1 x2 x3 x4 x5) fun y0=>K true (.s (.i .i8 y0)) ([])
 | _,_=>o 61 vs objs K
def qGf (o:Orc):Orc:=qN 61 (qUJ o) o
theorem qHh:OQ Tryz.prog qGf:=fun _ ho=>qO ho fun vs objs K r h=>by
 unfold qUJ at h
 split at h
 ·skip
  have hq:List.map Obj.toRO objs=_:=(by rename_i hq;first | exact hq | assumption)
  obtain⟨t,h1,h2⟩:=qE h
  refine qAr mixed qgz (m:=1) (fn:=Tryz.f61) (b:=(Tryz.f61).body.getD .skip) (by kernel_rfl) (by kernel_rfl) (by kernel_rfl) hq (by kernel_rfl) (by kernel_rfl) (qQ.of (l':=[]) (by kernel_rfl) trivial) ((qgy _ _ _ _ _ _).trans h1) fun v objs' hd=>?_
  unfold qUL at hd;split at hd;(cases hd;exact h2);cases hd
 ·exact ho _ _ _ _ _ h
def qHP (n:Nat) {R:Type} (o:Orc) (vs:List V) (objs:List Obj) (K:Bool->V->List Obj->Option R):Option R:=match vs,objs with
 | [.s (.i .i64 x0)],[]=>ob (qHO n x0) fun z=>K false (.s (.sl 0 0 (z.1) true)) ([.sli 133 false (.rows [.i .i64,.i .i64] (z.2.1) (z.2.2))])
 | _,_=>o 113 vs objs K
def qSp (n:Nat) (o:Orc):Orc:=fun f vs objs K=>bif Nat.beq f 113 then qHP n o vs objs K else o f vs objs K
def qsr (n:Nat):Orc:=qSp n qK
def qeA (n:Nat):Ctx:=mkC 57 (qsr n) [] qW
def qeB:V->List Obj->Option (Nat×Nat×LL):=fun v objs=>match v,objs with
 | .s (.sl 0 0 y0 true),[.sli 133 false (.rows [.i .i64,.i .i64] y1 y2)]=>some (y0,y1,y2)
 | _,_=>none
theorem qso (n:Nat) (x0:Int):fnE (qeA n) Tryz.f113 ([.s (.i .i64 x0)]) ([]) qeB=qHO (n+1) x0:=by kernel_rfl
theorem qsp (n:Nat) (hc:CtxOK Tryz.prog (qeA n)) {vs:List V} {objs:List Obj} (x0:Int) {R:Type} {K:Bool->V->List Obj->Option R} {r:R} (hv:vs=[.s (.i .i64 x0)]) (ho:objs=[]) (h:ob (qHO (n+1) x0) (fun z=>K false (.s (.sl 0 0 (z.1) true)) ([.sli 133 false (.rows [.i .i64,.i .i64] (z.2.1) (z.2.2))]))=some r):
  ∃ p v objs',K p v objs'=some r /\ qDe Tryz.prog 113 vs objs p v objs':=by
 subst hv
 subst ho
 obtain⟨t,h1,h2⟩:=qE h
 refine qJQ mixed hc (objs:=[]) (fn:=Tryz.f113) (b:=(Tryz.f113).body.getD .skip) (by kernel_rfl) (by kernel_rfl) (by kernel_rfl) (qQ.of (l':=[]) (by kernel_rfl) trivial) ((qso n x0).trans h1) fun v objs' hd=>?_
 unfold qeB at hd;split at hd;(cases hd;exact h2);cases hd
theorem qsq:∀ (n:Nat) (o:Orc) (_:qBx Tryz.prog o),qBx Tryz.prog (qSp n o):=by
 intro n
 induction n with
 | zero=>
   intro o ho R f vs objs K r h
   replace h:(bif Nat.beq f 113 then qHP 0 o vs objs K else o f vs objs K)=some r:=h
   cases hf:Nat.beq f 113 with
   | false=>rw[hf] at h;exact ho f vs objs K r h
   | true=>
     rw[hf] at h
     have e:=Nat.eq_of_beq_eq_true hf
     subst e
     replace h:qHP 0 o vs objs K=some r:=h
     unfold qHP at h
     split at h
     ·skip
      cases h
     ·exact ho _ _ _ _ _ h
 | succ n ih=>
   intro o ho R f vs objs K r h
   replace h:(bif Nat.beq f 113 then qHP (n+1) o vs objs K else o f vs objs K)=some r:=h
   cases hf:Nat.beq f 113 with
   | false=>rw[hf] at h;exact ho f vs objs K r h
   | true=>
     rw[hf] at h
     have e:=Nat.eq_of_beq_eq_true hf
     subst e
     replace h:qHP (n+1) o vs objs K=some r:=h
     unfold qHP at h
     split at h
     ·skip
      exact qsp n ⟨tab_ok,ih _ qM,eqs_ok,bytes_ok,fun _ _ _=>rfl,exts_ok⟩ _ rfl rfl h
     ·exact ho _ _ _ _ _ h
def qd7:Ctx:=mkC 15 (qK) [] qW
theorem qsn:CtxOK Tryz.prog qd7:=mkC_ok (qM)
def qd8:V->List Obj->Option (Int×Int):=fun v objs=>match v,objs with
 | .agg [.one [.i .i64 y0,.i .i64 y1]],[]=>some (y0,y1)
 | _,_=>none
theorem qsm (x0 x1 x2:Int):fnE qd7 Tryz.f96 ([.agg [.one [.i .i64 x0,.i .i64 x1]],.s (.i .i64 x2)]) ([]) qd8=qGM x0 x1 x2:=by kernel_rfl
def qd6:HA:=fun o vs objs K=>match vs,objs with
 | [.agg [.one [.i .i64 x0,.i .i64 x1]],.s (.i .i64 x2)],[]=>ob (qGM x0 x1 x2) fun z=>K false (.agg [.one [.i .i64 (z.1),.i .i64 (z.2)]]) ([])
 | _,_=>o 96 vs objs K
def qSo (o:Orc):Orc:=qN 96 (qd6 o) o
theorem qd9:OQ Tryz.prog qSo:=fun _ ho=>qO ho fun vs objs K r h=>by
 unfold qd6 at h
 split at h
 ·skip
  obtain⟨t,h1,h2⟩:=qE h
  refine qa mixed qsn ((qsm _ _ _).trans h1) (by kernel_rfl) fun v objs' hd=>?_
  unfold qd8 at hd;split at hd;(cases hd;exact h2);cases hd
 ·exact ho _ _ _ _ _ h
def qSr:Ex->List V->List Obj->Option (Int×Int×Int×Int):=fun e vs objs=>match e,vs,objs with
 | .exit 0,[.s (.ptr 0 0 none 0),.s (.ptr 1 0 none 0)],[.cells 76 [.one [.i .u64 y0,.i .u64 y1]],.cells 76 [.one [.i .u64 y2,.i .u64 y3]]]=>some (y0,y1,y2,y3)
 | _,_,_=>none
def qSt:HL:=fun vs objs K=>match vs,objs with
 | [.s (.i .i8 x0),.s (.i .i64 x1),.s (.ptr 0 0 none 0),.s (.ptr 1 0 none 0),.s (.sl 2 0 x2 true),.s (.i .i64 x3),.s (.i .i64 x4)],[.cells 76 [.one [.i .u64 x5,.i .u64 x6]],.cells 76 [.one [.i .u64 x7,.i .u64 x8]],.sli 133 false (.rows [.i .i64,.i .i64] x9 x10)]=>ob (qGO qB x0 x1 x2 x3 x4 x5 x6 x7 x8 x9 x10) fun z=>K (.exit 0) ([.s (.ptr 0 0 none 0),.s (.ptr 1 0 none 0)]) ([.cells 76 [.one [.i .u64 (z.1),.i .u64 (z.2.1)]],.cells 76 [.one [.i .u64 (z.2.2.1),.i .u64 (z.2.2.2)]]])
 | _,_=>none
def qsx:{R:Type}->Nat->List V->List Obj->(Ex->List V->List Obj->Option R)->Option R:=fun q vs objs K=>bif Nat.beq q 3 then qSt vs objs K else none
def qNH:Ctx:=mkC 26 ((qE6 (qSn (qSo (qEi (qSp qB (qCj qK))))))) [(3,[0,1,4,5,10,11,12],[4,5])] qsx
theorem qeH:CtxOK Tryz.prog qNH:=mkC_ok ((qGL _ (qd5 _ (qd9 _ (qFw _ (qsq qB _ (qC4 _ qM)))))))
def qSs (f:Nat) (x0 x1:Int) (x2:Nat) (x3 x4:Int) (x5 x6:Int) (x7 x8:Int) (x9:Nat) (x10:LL):Option (Int×Int×Int×Int):=qh qNH 0 [0,1,4,5,10,11,12] [4,5] (qG Tryz.f95 3) f ([.s (.i .i8 x0),.s (.i .i64 x1),.s (.ptr 0 0 none 0),.s (.ptr 1 0 none 0),.s (.sl 2 0 x2 true),.s (.i .i64 x3),.s (.i .i64 x4)]) ([.cells 76 [.one [.i .u64 x5,.i .u64 x6]],.cells 76 [.one [.i .u64 x7,.i .u64 x8]],.sli 133 false (.rows [.i .i64,.i .i64] x9 x10)]) qSr
theorem qsw (f:Nat) (x0 x1:Int) (x2:Nat) (x3 x4:Int) (x5 x6:Int) (x7 x8:Int) (x9:Nat) (x10:LL):qSs (f+1) x0 x1 x2 x3 x4 x5 x6 x7 x8 x9 x10=qJA (qSs f) x0 x1 x2 x3 x4 x5 x6 x7 x8 x9 x10:=by kernel_rfl
theorem qeJ:∀ f,qSs f=qGO f
 | 0=>rfl
 | f+1=>by funext x0 x1 x2 x3 x4 x5 x6 x7 x8 x9 x10;rw[qsw,qeJ f];rfl
theorem qsz:qg Tryz.prog qNH 0 (qG Tryz.f95 3):=
 qi mixed qeH (qQ.of (l':=[]) (by kernel_rfl) trivial) (q:=3) (kin:=[0,1,4,5,10,11,12]) (kout:=[4,5]) (by kernel_rfl) (by kernel_rfl) fun vs objs K r h=>by
  replace h:qSt vs objs K=some r:=h
  unfold qSt at h
  split at h
  ·skip
   obtain⟨t,h1,h2⟩:=qE h
   rw[<- qeJ] at h1
   refine⟨_,qSr,t,qB,h1,fun e vs' objs' hd=>?_⟩
   unfold qSr at hd;split at hd;(cases hd;exact h2);cases hd
  ·cases h
def qeI:V->List Obj->Option (Int×Int):=fun v objs=>match v,objs with
 | .agg [.one [.i .u64 y0,.i .u64 y1]],[]=>some (y0,y1)
 | _,_=>none
theorem qsv (x0 x1:Int):fnE qNH Tryz.f95 ([.s (.i .i8 x0),.s (.i .i64 x1)]) ([]) qeI=qKi x0 x1:=by kernel_rfl
def qeG:HA:=fun o vs objs K=>match vs,objs with
 | [.s (.i .i8 x0),.s (.i .i64 x1)],[]=>ob (qKi x0 x1) fun z=>K false (.agg [.one [.i .u64 (z.1),.i .u64 (z.2)]]) ([])
 | _,_=>o 95 vs objs K
def qeK (o:Orc):Orc:=qN 95 (qeG o) o
theorem qsy:OQ Tryz.prog qeK:=fun _ ho=>qO ho fun vs objs K r h=>by
 unfold qeG at h
 split at h
 ·skip
  obtain⟨t,h1,h2⟩:=qE h
  refine qAR mixed qeH (fn:=Tryz.f95) (b:=(Tryz.f95).body.getD .skip) (by kernel_rfl) (by kernel_rfl) (by kernel_rfl) ((qsv _ _).trans h1) (m:=0) rfl (qQ.of (l':=[qG Tryz.f95 3]) (by kernel_rfl) ⟨qsz,trivial⟩) fun v objs' hd=>?_
  unfold qeI at hd;split at hd;(cases hd;exact h2);cases hd
 ·exact ho _ _ _ _ _ h
def qQk:Ex->List V->List Obj->Option (Int×Int×Int×Int):=fun e vs objs=>match e,vs,objs with
 | .exit 0,[.s (.ptr 0 0 none 0),.s (.ptr 1 0 none 0)],[.cells 76 [.one [.i .u64 y0,.i .u64 y1]],.cells 76 [.one [.i .u64 y2,.i .u64 y3]]]=>some (y0,y1,y2,y3)
 | _,_,_=>none
def qQn:HL:=fun vs objs K=>match vs,objs with
 | [.s (.i .i8 x0),.s (.i .i64 x1),.s (.ptr 0 0 none 0),.s (.ptr 1 0 none 0),.s (.ptr 2 0 none 0),.s (.sl 3 0 x2 true),.s (.i .i64 x3),.s (.i .i64 x4)],[.cells 76 [.one [.i .u64 x5,.i .u64 x6]],.cells 76 [.one [.i .u64 x7,.i .u64 x8]],.cells 76 [.one [.i .u64 x9,.i .u64 x10]],.sli 133 false (.rows [.i .i64,.i .i64] x11 x12)]=>ob (qFz qB x0 x1 x2 x3 x4 x5 x6 x7 x8 x9 x10 x11 x12) fun z=>K (.exit 0) ([.s (.ptr 0 0 none 0),.s (.ptr 1 0 none 0)]) ([.cells 76 [.one [.i .u64 (z.1),.i .u64 (z.2.1)]],.cells 76 [.one [.i .u64 (z.2.2.1),.i .u64 (z.2.2.2)]]])
 | _,_=>none
def qn4:{R:Type}->Nat->List V->List Obj->(Ex->List V->List Obj->Option R)->Option R:=fun q vs objs K=>bif Nat.beq q 3 then qQn vs objs K else none
def qMO:Ctx:=mkC 32 ((qHI (qQq (qSo (qEi (qQj (qCj (qeK qK)))))))) [(3,[0,1,5,6,7,15,16,17],[6,7])] qn4
theorem qZd:CtxOK Tryz.prog qMO:=mkC_ok ((qI3 _ (qZk _ (qd9 _ (qFw _ (qZb _ (qC4 _ (qsy _ qM))))))))
def qQl (f:Nat) (x0 x1:Int) (x2:Nat) (x3 x4:Int) (x5 x6:Int) (x7 x8:Int) (x9 x10:Int) (x11:Nat) (x12:LL):Option (Int×Int×Int×Int):=qh qMO 0 [0,1,5,6,7,15,16,17] [6,7] (qG Tryz.f62 3) f ([.s (.i .i8 x0),.s (.i .i64 x1),.s (.ptr 0 0 none 0),.s (.ptr 1 0 none 0),.s (.ptr 2 0 none 0),.s (.sl 3 0 x2 true),.s (.i .i64 x3),.s (.i .i64 x4)]) ([.cells 76 [.one [.i .u64 x5,.i .u64 x6]],.cells 76 [.one [.i .u64 x7,.i .u64 x8]],.cells 76 [.one [.i .u64 x9,.i .u64 x10]],.sli 133 false (.rows [.i .i64,.i .i64] x11 x12)]) qQk
theorem qn3 (f:Nat) (x0 x1:Int) (x2:Nat) (x3 x4:Int) (x5 x6:Int) (x7 x8:Int) (x9 x10:Int) (x11:Nat) (x12:LL):qQl (f+1) x0 x1 x2 x3 x4 x5 x6 x7 x8 x9 x10 x11 x12=qIY (qQl f) x0 x1 x2 x3 x4 x5 x6 x7 x8 x9 x10 x11 x12:=by kernel_rfl
theorem qZf:∀ f,qQl f=qFz f
 | 0=>rfl
 | f+1=>by funext x0 x1 x2 x3 x4 x5 x6 x7 x8 x9 x10 x11 x12;rw[qn3,qZf f];rfl
theorem qn5:qg Tryz.prog qMO 0 (qG Tryz.f62 3):=
 qi mixed qZd (qQ.of (l':=[]) (by kernel_rfl) trivial) (q:=3) (kin:=[0,1,5,6,7,15,16,17]) (kout:=[6,7]) (by kernel_rfl) (by kernel_rfl) fun vs objs K r h=>by
  replace h:qQn vs objs K=some r:=h
  unfold qQn at h
  split at h
  ·skip
   obtain⟨t,h1,h2⟩:=qE h
   rw[<- qZf] at h1
   refine⟨_,qQk,t,qB,h1,fun e vs' objs' hd=>?_⟩
   unfold qQk at hd;split at hd;(cases hd;exact h2);cases hd
  ·cases h
def qZe:V->List Obj->Option (Int×Int):=fun v objs=>match v,objs with
 | .agg [.one [.i .u64 y0,.i .u64 y1]],[]=>some (y0,y1)
 | _,_=>none
theorem qn2 (x0 x1:Int) (x2 x3:Int):fnE qMO Tryz.f62 ([.s (.i .i8 x0),.s (.i .i64 x1),.agg [.one [.i .u64 x2,.i .u64 x3]]]) ([]) qZe=qFy x0 x1 x2 x3:=by kernel_rfl
def qZc:HA:=fun o vs objs K=>match vs,objs with
 | [.s (.i .i8 x0),.s (.i .i64 x1),.agg [.one [.i .u64 x2,.i .u64 x3]]],[]=>ob (qFy x0 x1 x2 x3) fun z=>K false (.agg [.one [.i .u64 (z.1),.i .u64 (z.2)]]) ([])
 | _,_=>o 62 vs objs K
def qMP (o:Orc):Orc:=qN 62 (qZc o) o
theorem qQm:OQ Tryz.prog qMP:=fun _ ho=>qO ho fun vs objs K r h=>by
 unfold qZc at h
 split at h
 ·skip
  obtain⟨t,h1,h2⟩:=qE h
  refine qAR mixed qZd (fn:=Tryz.f62) (b:=(Tryz.f62).body.getD .skip) (by kernel_rfl) (by kernel_rfl) (by kernel_rfl) ((qn2 _ _ _ _).trans h1) (m:=0) rfl (qQ.of (l':=[qG Tryz.f62 3]) (by kernel_rfl) ⟨qn5,trivial⟩) fun v objs' hd=>?_
  unfold qZe at hd;split at hd;(cases hd;exact h2);cases hd
 ·exact ho _ _ _ _ _ h
def qNq:Ex->List V->List Obj->Option (Int×Int×Nat×Int×Int×LI×LI×Int×LL×LL×List (LI×LI)×Nat×LI):=fun e vs objs=>match e,vs,objs with
 | .exit 2,[.s (.ptr 0 0 none 0),.s (.i .i64 y0),.s (.mp 1),.s (.i .i64 y1),.s (.sl 2 0 y2 true),.s (.i .i64 y3),.s (.i .i64 y4)],[.rcells 87 [.arr .i8 81 y5,.arr .i8 16 y6,.one [.i .i8 y7],.rows [.i .u64,.i .u64] 32 y8,.rows [.i .u64,.i .u64] 2 y9],.map false true [.i .i64] [.i .u64,.i .u64] y10,.sli 3 false (.arr .i64 y11 y12)]=>some (y0,y1,y2,y3,y4,y5,y6,y7,y8,y9,y10,y11,y12)
 | _,_,_=>none
def qNo:Ex->List V->List Obj->Option (LI×LI×Int×LL×LL×List (LI×LI)):=fun e vs objs=>match e,vs,objs with
 | .exit 0,[.s (.mp 1)],[.rcells 87 [.arr .i8 81 y0,.arr .i8 16 y1,.one [.i .i8 y2],.rows [.i .u64,.i .u64] 32 y3,.rows [.i .u64,.i .u64] 2 y4],.map false true [.i .i64] [.i .u64,.i .u64] y5]=>some (y0,y1,y2,y3,y4,y5)
 | _,_,_=>none
def qNt:HL:=fun vs objs K=>match vs,objs with
 | [.s (.ptr 0 0 none 0),.s (.i .i64 x0),.s (.mp 1),.s (.i .i64 x1),.s (.sl 2 0 x2 true),.s (.i .i64 x3),.s (.i .i64 x4),.s (.sl 3 0 x5 true),.s (.i .i64 x6),.s (.i .i64 x7)],[.rcells 87 [.arr .i8 81 x8,.arr .i8 16 x9,.one [.i .i8 x10],.rows [.i .u64,.i .u64] 32 x11,.rows [.i .u64,.i .u64] 2 x12],.map false true [.i .i64] [.i .u64,.i .u64] x13,.sli 3 false (.arr .i64 x14 x15),.sli 3 false (.arr .i64 x16 x17)]=>ob (qFM qB x0 x1 x2 x3 x4 x5 x6 x7 x8 x9 x10 x11 x12 x13 x14 x15 x16 x17) fun z=>K (.exit 2) ([.s (.ptr 0 0 none 0),.s (.i .i64 (z.1)),.s (.mp 1),.s (.i .i64 (z.2.1)),.s (.sl 2 0 (z.2.2.1) true),.s (.i .i64 (z.2.2.2.1)),.s (.i .i64 (z.2.2.2.2.1))]) ([.rcells 87 [.arr .i8 81 (z.2.2.2.2.2.1),.arr .i8 16 (z.2.2.2.2.2.2.1),.one [.i .i8 (z.2.2.2.2.2.2.2.1)],.rows [.i .u64,.i .u64] 32 (z.2.2.2.2.2.2.2.2.1),.rows [.i .u64,.i .u64] 2 (z.2.2.2.2.2.2.2.2.2.1)],.map false true [.i .i64] [.i .u64,.i .u64] (z.2.2.2.2.2.2.2.2.2.2.1),.sli 3 false (.arr .i64 (z.2.2.2.2.2.2.2.2.2.2.2.1) (z.2.2.2.2.2.2.2.2.2.2.2.2))])
 | _,_=>none
def qNs:HL:=fun vs objs K=>match vs,objs with
 | [.s (.ptr 0 0 none 0),.s (.i .i64 x0),.s (.mp 1),.s (.i .i64 x1),.s (.sl 2 0 x2 true),.s (.i .i64 x3),.s (.i .i64 x4)],[.rcells 87 [.arr .i8 81 x5,.arr .i8 16 x6,.one [.i .i8 x7],.rows [.i .u64,.i .u64] 32 x8,.rows [.i .u64,.i .u64] 2 x9],.map false true [.i .i64] [.i .u64,.i .u64] x10,.sli 3 false (.arr .i64 x11 x12)]=>ob (qFL qB x0 x1 x2 x3 x4 x5 x6 x7 x8 x9 x10 x11 x12) fun z=>K (.exit 0) ([.s (.mp 1)]) ([.rcells 87 [.arr .i8 81 (z.1),.arr .i8 16 (z.2.1),.one [.i .i8 (z.2.2.1)],.rows [.i .u64,.i .u64] 32 (z.2.2.2.1),.rows [.i .u64,.i .u64] 2 (z.2.2.2.2.1)],.map false true [.i .i64] [.i .u64,.i .u64] (z.2.2.2.2.2)])
 | _,_=>none
def qgR:{R:Type}->Nat->List V->List Obj->(Ex->List V->List Obj->Option R)->Option R:=fun q vs objs K=>bif Nat.beq q 9 then qNt vs objs K else bif Nat.beq q 6 then qNs vs objs K else none
def qHe:Ctx:=mkC 89 ((qE6 (qHH (qMP (qKf (qGf (qMw (qIy (qOL (qMu (qGI (qHl (qQh (qKe (qGh (qK6 qK)))))))))))))))) [(6,[0,1,5,6,21,22,23],[5]),(9,[0,1,5,6,21,22,23,32,33,34],[0,1,5,6,21,22,23])] qgR
theorem qNn:CtxOK Tryz.prog qHe:=mkC_ok ((qGL _ (qIz _ (qQm _ (qM6 _ (qHh _ (qSK _ (qKb _ (qUn _ (qSI _ (qHD _ (qJX _ (qZX _ (qM5 _ (qHj _ (qOH _ qM))))))))))))))))
def qNr (f:Nat) (x0 x1:Int) (x2:Nat) (x3 x4:Int) (x5:Nat) (x6 x7:Int) (x8 x9:LI) (x10:Int) (x11 x12:LL) (x13:List (LI×LI)) (x14:Nat) (x15:LI) (x16:Nat) (x17:LI):Option (Int×Int×Nat×Int×Int×LI×LI×Int×LL×LL×List (LI×LI)×Nat×LI):=qh qHe 1 [0,1,5,6,21,22,23,32,33,34] [0,1,5,6,21,22,23] (qG Tryz.f53 9) f ([.s (.ptr 0 0 none 0),.s (.i .i64 x0),.s (.mp 1),.s (.i .i64 x1),.s (.sl 2 0 x2 true),.s (.i .i64 x3),.s (.i .i64 x4),.s (.sl 3 0 x5 true),.s (.i .i64 x6),.s (.i .i64 x7)]) ([.rcells 87 [.arr .i8 81 x8,.arr .i8 16 x9,.one [.i .i8 x10],.rows [.i .u64,.i .u64] 32 x11,.rows [.i .u64,.i .u64] 2 x12],.map false true [.i .i64] [.i .u64,.i .u64] x13,.sli 3 false (.arr .i64 x14 x15),.sli 3 false (.arr .i64 x16 x17)]) qNq
theorem qgQ (f:Nat) (x0 x1:Int) (x2:Nat) (x3 x4:Int) (x5:Nat) (x6 x7:Int) (x8 x9:LI) (x10:Int) (x11 x12:LL) (x13:List (LI×LI)) (x14:Nat) (x15:LI) (x16:Nat) (x17:LI):qNr (f+1) x0 x1 x2 x3 x4 x5 x6 x7 x8 x9 x10 x11 x12 x13 x14 x15 x16 x17=qGb (qNr f) x0 x1 x2 x3 x4 x5 x6 x7 x8 x9 x10 x11 x12 x13 x14 x15 x16 x17:=by kernel_rfl
theorem qT4:∀ f,qNr f=qFM f
 | 0=>rfl
 | f+1=>by funext x0 x1 x2 x3 x4 x5 x6 x7 x8 x9 x10 x11 x12 x13 x14 x15 x16 x17;rw[qgQ,qT4 f];rfl
def qNp (f:Nat) (x0 x1:Int) (x2:Nat) (x3 x4:Int) (x5 x6:LI) (x7:Int) (x8 x9:LL) (x10:List (LI×LI)) (x11:Nat) (x12:LI):Option (LI×LI×Int×LL×LL×List (LI×LI)):=qh qHe 1 [0,1,5,6,21,22,23] [5] (qG Tryz.f53 6) f ([.s (.ptr 0 0 none 0),.s (.i .i64 x0),.s (.mp 1),.s (.i .i64 x1),.s (.sl 2 0 x2 true),.s (.i .i64 x3),.s (.i .i64 x4)]) ([.rcells 87 [.arr .i8 81 x5,.arr .i8 16 x6,.one [.i .i8 x7],.rows [.i .u64,.i .u64] 32 x8,.rows [.i .u64,.i .u64] 2 x9],.map false true [.i .i64] [.i .u64,.i .u64] x10,.sli 3 false (.arr .i64 x11 x12)]) qNo
theorem qgP (f:Nat) (x0 x1:Int) (x2:Nat) (x3 x4:Int) (x5 x6:LI) (x7:Int) (x8 x9:LL) (x10:List (LI×LI)) (x11:Nat) (x12:LI):qNp (f+1) x0 x1 x2 x3 x4 x5 x6 x7 x8 x9 x10 x11 x12=qHf (qNp f) x0 x1 x2 x3 x4 x5 x6 x7 x8 x9 x10 x11 x12:=by kernel_rfl
theorem qT3:∀ f,qNp f=qFL f
 | 0=>rfl
 | f+1=>by funext x0 x1 x2 x3 x4 x5 x6 x7 x8 x9 x10 x11 x12;rw[qgP,qT3 f];rfl
theorem qgU:qg Tryz.prog qHe 1 (qG Tryz.f53 9):=
 qi mixed qNn (qQ.of (l':=[]) (by kernel_rfl) trivial) (q:=9) (kin:=[0,1,5,6,21,22,23,32,33,34]) (kout:=[0,1,5,6,21,22,23]) (by kernel_rfl) (by kernel_rfl) fun vs objs K r h=>by
  replace h:qNt vs objs K=some r:=h
  unfold qNt at h
  split at h
  ·skip
   obtain⟨t,h1,h2⟩:=qE h
   rw[<- qT4] at h1
   refine⟨_,qNq,t,qB,h1,fun e vs' objs' hd=>?_⟩
   unfold qNq at hd;split at hd;(cases hd;exact h2);cases hd
  ·cases h
theorem qgT:qg Tryz.prog qHe 1 (qG Tryz.f53 6):=
 qi mixed qNn (qQ.of (l':=[qG Tryz.f53 9]) (by kernel_rfl) ⟨qgU,trivial⟩) (q:=6) (kin:=[0,1,5,6,21,22,23]) (kout:=[5]) (by kernel_rfl) (by kernel_rfl) fun vs objs K r h=>by
  replace h:qNs vs objs K=some r:=h
  unfold qNs at h
  split at h
  ·skip
   obtain⟨t,h1,h2⟩:=qE h
   rw[<- qT3] at h1
   refine⟨_,qNo,t,qB,h1,fun e vs' objs' hd=>?_⟩
   unfold qNo at hd;split at hd;(cases hd;exact h2);cases hd
  ·cases h
def qT2:V->List Obj->Option (List (LI×LI)):=fun v objs=>match v,objs with
 | .s (.mp 1),[.map false true [.i .i64] [.i .u64,.i .u64] y0]=>some (y0)
 | _,_=>none
theorem qgO (x0:Int) (x1 x2:LI) (x3:Int) (x4 x5:LL):fnE qHe Tryz.f53 ([.s (.ptr 0 0 none 0),.s (.i .i64 x0)]) ([.rcells 87 [.arr .i8 81 x1,.arr .i8 16 x2,.one [.i .i8 x3],.rows [.i .u64,.i .u64] 32 x4,.rows [.i .u64,.i .u64] 2 x5]]) (qAf 1 qT2)=qHd x0 x1 x2 x3 x4 x5:=by kernel_rfl
def qT1:HA:=fun o vs objs K=>match vs,List.map Obj.toRO objs with
 | [.s (.ptr 0 0 none 0),.s (.i .i64 x0)],[.rcells 87 [.arr .i8 81 x1,.arr .i8 16 x2,.one [.i .i8 x3],.rows [.i .u64,.i .u64] 32 x4,.rows [.i .u64,.i .u64] 2 x5]]=>ob (qHd x0 x1 x2 x3 x4 x5) fun y0=>K true (.s (.mp 1)) ([.map false true [.i .i64] [.i .u64,.i .u64] y0])
 | _,_=>o 53 vs objs K
def qT5 (o:Orc):Orc:=qN 53 (qT1 o) o
theorem qgS:OQ Tryz.prog qT5:=fun _ ho=>qO ho fun vs objs K r h=>by
 unfold qT1 at h
 split at h
 ·skip
  have hq:List.map Obj.toRO objs=_:=(by rename_i hq;first | exact hq | assumption)
  obtain⟨t,h1,h2⟩:=qE h
  refine qAr mixed qNn (m:=1) (fn:=Tryz.f53) (b:=(Tryz.f53).body.getD .skip) (by kernel_rfl) (by kernel_rfl) (by kernel_rfl) hq (by kernel_rfl) (by kernel_rfl) (qQ.of (l':=[qG Tryz.f53 6]) (by kernel_rfl) ⟨qgT,trivial⟩) ((qgO _ _ _ _ _ _).trans h1) fun v objs' hd=>?_
  unfold qT2 at hd;split at hd;(cases hd;exact h2);cases hd
 ·exact ho _ _ _ _ _ h
def qNj:Ex->List V->List Obj->Option (LI×LI×Int×LL×LL×Int×Int×Int×Int):=fun e vs objs=>match e,vs,objs with
 | .exit 0,[.s (.ptr 1 0 none 0),.s (.ptr 2 0 none 0)],[.rcells 87 [.arr .i8 81 y0,.arr .i8 16 y1,.one [.i .i8 y2],.rows [.i .u64,.i .u64] 32 y3,.rows [.i .u64,.i .u64] 2 y4],.cells 76 [.one [.i .u64 y5,.i .u64 y6]],.cells 76 [.one [.i .u64 y7,.i .u64 y8]]]=>some (y0,y1,y2,y3,y4,y5,y6,y7,y8)
 | _,_,_=>none
def qNm:HL:=fun vs objs K=>match vs,objs with
 | [.s (.ptr 0 0 none 0),.s (.i .i64 x0),.s (.i .i64 x1),.s (.ptr 1 0 none 0),.s (.ptr 2 0 none 0),.s (.ptr 3 0 none 0),.s (.i .i64 x2)],[.rcells 87 [.arr .i8 81 x3,.arr .i8 16 x4,.one [.i .i8 x5],.rows [.i .u64,.i .u64] 32 x6,.rows [.i .u64,.i .u64] 2 x7],.cells 76 [.one [.i .u64 x8,.i .u64 x9]],.cells 76 [.one [.i .u64 x10,.i .u64 x11]],.cells 76 [.one [.i .u64 x12,.i .u64 x13]]]=>ob (qEQ qB x0 x1 x2 x3 x4 x5 x6 x7 x8 x9 x10 x11 x12 x13) fun z=>K (.exit 0) ([.s (.ptr 1 0 none 0),.s (.ptr 2 0 none 0)]) ([.rcells 87 [.arr .i8 81 (z.1),.arr .i8 16 (z.2.1),.one [.i .i8 (z.2.2.1)],.rows [.i .u64,.i .u64] 32 (z.2.2.2.1),.rows [.i .u64,.i .u64] 2 (z.2.2.2.2.1)],.cells 76 [.one [.i .u64 (z.2.2.2.2.2.1),.i .u64 (z.2.2.2.2.2.2.1)]],.cells 76 [.one [.i .u64 (z.2.2.2.2.2.2.2.1),.i .u64 (z.2.2.2.2.2.2.2.2)]]])
 | _,_=>none
def qgM:{R:Type}->Nat->List V->List Obj->(Ex->List V->List Obj->Option R)->Option R:=fun q vs objs K=>bif Nat.beq q 5 then qNm vs objs K else none
def qK0:Ctx:=mkC 49 ((qHI (qGI (qGh (qMP (qFv qK)))))) [(5,[0,1,2,7,8,9,10],[8,9])] qgM
theorem qTx:CtxOK Tryz.prog qK0:=mkC_ok ((qI3 _ (qHD _ (qHj _ (qQm _ (qGz _ qM))))))
def qNk (f:Nat) (x0 x1 x2:Int) (x3 x4:LI) (x5:Int) (x6 x7:LL) (x8 x9:Int) (x10 x11:Int) (x12 x13:Int):Option (LI×LI×Int×LL×LL×Int×Int×Int×Int):=qh qK0 1 [0,1,2,7,8,9,10] [8,9] (qG Tryz.f67 5) f ([.s (.ptr 0 0 none 0),.s (.i .i64 x0),.s (.i .i64 x1),.s (.ptr 1 0 none 0),.s (.ptr 2 0 none 0),.s (.ptr 3 0 none 0),.s (.i .i64 x2)]) ([.rcells 87 [.arr .i8 81 x3,.arr .i8 16 x4,.one [.i .i8 x5],.rows [.i .u64,.i .u64] 32 x6,.rows [.i .u64,.i .u64] 2 x7],.cells 76 [.one [.i .u64 x8,.i .u64 x9]],.cells 76 [.one [.i .u64 x10,.i .u64 x11]],.cells 76 [.one [.i .u64 x12,.i .u64 x13]]]) qNj
theorem qgL (f:Nat) (x0 x1 x2:Int) (x3 x4:LI) (x5:Int) (x6 x7:LL) (x8 x9:Int) (x10 x11:Int) (x12 x13:Int):qNk (f+1) x0 x1 x2 x3 x4 x5 x6 x7 x8 x9 x10 x11 x12 x13=qHc (qNk f) x0 x1 x2 x3 x4 x5 x6 x7 x8 x9 x10 x11 x12 x13:=by kernel_rfl
theorem qTz:∀ f,qNk f=qEQ f
 | 0=>rfl
 | f+1=>by funext x0 x1 x2 x3 x4 x5 x6 x7 x8 x9 x10 x11 x12 x13;rw[qgL,qTz f];rfl
theorem qgN:qg Tryz.prog qK0 1 (qG Tryz.f67 5):=
 qi mixed qTx (qQ.of (l':=[]) (by kernel_rfl) trivial) (q:=5) (kin:=[0,1,2,7,8,9,10]) (kout:=[8,9]) (by kernel_rfl) (by kernel_rfl) fun vs objs K r h=>by
  replace h:qNm vs objs K=some r:=h
  unfold qNm at h
  split at h
  ·skip
   obtain⟨t,h1,h2⟩:=qE h
   rw[<- qTz] at h1
   refine⟨_,qNj,t,qB,h1,fun e vs' objs' hd=>?_⟩
   unfold qNj at hd;split at hd;(cases hd;exact h2);cases hd
  ·cases h
def qTy:V->List Obj->Option (Int×Int):=fun v objs=>match v,objs with
 | .agg [.one [.i .u64 y0,.i .u64 y1]],[]=>some (y0,y1)
 | _,_=>none
theorem qgK (x0 x1:Int) (x2 x3:Int) (x4 x5:LI) (x6:Int) (x7 x8:LL):fnE qK0 Tryz.f67 ([.s (.ptr 0 0 none 0),.s (.i .i64 x0),.s (.i .i64 x1),.agg [.one [.i .u64 x2,.i .u64 x3]]]) ([.rcells 87 [.arr .i8 81 x4,.arr .i8 16 x5,.one [.i .i8 x6],.rows [.i .u64,.i .u64] 32 x7,.rows [.i .u64,.i .u64] 2 x8]]) (qAf 1 qTy)=qHb x0 x1 x2 x3 x4 x5 x6 x7 x8:=by kernel_rfl
def qTw:HA:=fun o vs objs K=>match vs,List.map Obj.toRO objs with
 | [.s (.ptr 0 0 none 0),.s (.i .i64 x0),.s (.i .i64 x1),.agg [.one [.i .u64 x2,.i .u64 x3]]],[.rcells 87 [.arr .i8 81 x4,.arr .i8 16 x5,.one [.i .i8 x6],.rows [.i .u64,.i .u64] 32 x7,.rows [.i .u64,.i .u64] 2 x8]]=>ob (qHb x0 x1 x2 x3 x4 x5 x6 x7 x8) fun z=>K true (.agg [.one [.i .u64 (z.1),.i .u64 (z.2)]]) ([])
 | _,_=>o 67 vs objs K
def qNl (o:Orc):Orc:=qN 67 (qTw o) o
theorem qT0:OQ Tryz.prog qNl:=fun _ ho=>qO ho fun vs objs K r h=>by
 unfold qTw at h
 split at h
 ·skip
  have hq:List.map Obj.toRO objs=_:=(by rename_i hq;first | exact hq | assumption)
  obtain⟨t,h1,h2⟩:=qE h
  refine qAr mixed qTx (m:=1) (fn:=Tryz.f67) (b:=(Tryz.f67).body.getD .skip) (by kernel_rfl) (by kernel_rfl) (by kernel_rfl) hq (by kernel_rfl) (by kernel_rfl) (qQ.of (l':=[qG Tryz.f67 5]) (by kernel_rfl) ⟨qgN,trivial⟩) ((qgK _ _ _ _ _ _ _ _ _).trans h1) fun v objs' hd=>?_
  unfold qTy at hd;split at hd;(cases hd;exact h2);cases hd
 ·exact ho _ _ _ _ _ h
def qTp:Ctx:=mkC 14 ((qNl (qHl (qK6 qK)))) [] qW
theorem qgF:CtxOK Tryz.prog qTp:=mkC_ok ((qT0 _ (qJX _ (qOH _ qM))))
def qTq:V->List Obj->Option (Int×Int):=fun v objs=>match v,objs with
 | .agg [.one [.i .u64 y0,.i .u64 y1]],[]=>some (y0,y1)
 | _,_=>none
theorem qgE (x0:Int) (x1 x2:LI) (x3:Int) (x4 x5:LL):fnE qTp Tryz.f50 ([.s (.ptr 0 0 none 0),.s (.i .i64 x0)]) ([.rcells 87 [.arr .i8 81 x1,.arr .i8 16 x2,.one [.i .i8 x3],.rows [.i .u64,.i .u64] 32 x4,.rows [.i .u64,.i .u64] 2 x5]]) (qAf 1 qTq)=qGa x0 x1 x2 x3 x4 x5:=by kernel_rfl
def qTo:HA:=fun o vs objs K=>match vs,List.map Obj.toRO objs with
 | [.s (.ptr 0 0 none 0),.s (.i .i64 x0)],[.rcells 87 [.arr .i8 81 x1,.arr .i8 16 x2,.one [.i .i8 x3],.rows [.i .u64,.i .u64] 32 x4,.rows [.i .u64,.i .u64] 2 x5]]=>ob (qGa x0 x1 x2 x3 x4 x5) fun z=>K true (.agg [.one [.i .u64 (z.1),.i .u64 (z.2)]]) ([])
 | _,_=>o 50 vs objs K
def qKz (o:Orc):Orc:=qN 50 (qTo o) o
theorem qNi:OQ Tryz.prog qKz:=fun _ ho=>qO ho fun vs objs K r h=>by
 unfold qTo at h
 split at h
 ·skip
  have hq:List.map Obj.toRO objs=_:=(by rename_i hq;first | exact hq | assumption)
  obtain⟨t,h1,h2⟩:=qE h
  refine qAr mixed qgF (m:=1) (fn:=Tryz.f50) (b:=(Tryz.f50).body.getD .skip) (by kernel_rfl) (by kernel_rfl) (by kernel_rfl) hq (by kernel_rfl) (by kernel_rfl) (qQ.of (l':=[]) (by kernel_rfl) trivial) ((qgE _ _ _ _ _ _).trans h1) fun v objs' hd=>?_
  unfold qTq at hd;split at hd;(cases hd;exact h2);cases hd
 ·exact ho _ _ _ _ _ h
def qXv:Ctx:=mkC 44 ((qHI (qQh (qMw (qMu (qKz (qT5 (qKa (qK6 qK))))))))) [] qW
theorem qlG:CtxOK Tryz.prog qXv:=mkC_ok ((qI3 _ (qZX _ (qSK _ (qSI _ (qNi _ (qgS _ (qMt _ (qOH _ qM)))))))))
def qXw:V->List Obj->Option (Int×Int×Int×Int×Bool×List (LI×LI)):=fun v objs=>match v,objs with
 | .agg [.one [.ptr 0 0 none 0,.i .i64 y0,.i .i64 y1,.i .u64 y2,.i .u64 y3,.mp 1,.b y4]],[.map false true [.i .i64] [.i .u64,.i .u64] y5]=>some (y0,y1,y2,y3,y4,y5)
 | _,_=>none
theorem qlF (x0 x1:LI) (x2:Int) (x3 x4:LL):fnE qXv Tryz.f27 ([.s (.ptr 0 0 none 0)]) ([.rcells 87 [.arr .i8 81 x0,.arr .i8 16 x1,.one [.i .i8 x2],.rows [.i .u64,.i .u64] 32 x3,.rows [.i .u64,.i .u64] 2 x4]]) (qAf 1 qXw)=qIK x0 x1 x2 x3 x4:=by kernel_rfl
def qXu:HA:=fun o vs objs K=>match vs,List.map Obj.toRO objs with
 | [.s (.ptr 0 0 none 0)],[.rcells 87 [.arr .i8 81 x0,.arr .i8 16 x1,.one [.i .i8 x2],.rows [.i .u64,.i .u64] 32 x3,.rows [.i .u64,.i .u64] 2 x4]]=>ob (qIK x0 x1 x2 x3 x4) fun z=>K true (.agg [.one [.ptr 0 0 none 0,.i .i64 (z.1),.i .i64 (z.2.1),.i .u64 (z.2.2.1),.i .u64 (z.2.2.2.1),.mp 1,.b (z.2.2.2.2.1)]]) ([.map false true [.i .i64] [.i .u64,.i .u64] (z.2.2.2.2.2)])
 | _,_=>o 27 vs objs K
def qP6 (o:Orc):Orc:=qN 27 (qXu o) o
theorem qXx:OQ Tryz.prog qP6:=fun _ ho=>qO ho fun vs objs K r h=>by
 unfold qXu at h
 split at h
 ·skip
  have hq:List.map Obj.toRO objs=_:=(by rename_i hq;first | exact hq | assumption)
  obtain⟨t,h1,h2⟩:=qE h
  refine qAr mixed qlG (m:=1) (fn:=Tryz.f27) (b:=(Tryz.f27).body.getD .skip) (by kernel_rfl) (by kernel_rfl) (by kernel_rfl) hq (by kernel_rfl) (by kernel_rfl) (qQ.of (l':=[]) (by kernel_rfl) trivial) ((qlF _ _ _ _ _).trans h1) fun v objs' hd=>?_
  unfold qXw at hd;split at hd;(cases hd;exact h2);cases hd
 ·exact ho _ _ _ _ _ h
def qZF:Ctx:=mkC 13 (qK) [] qW
theorem qnT:CtxOK Tryz.prog qZF:=mkC_ok (qM)
def qZG:V->List Obj->Option (Int):=fun v objs=>match v,objs with
 | .s (.i .i64 y0),[]=>some (y0)
 | _,_=>none
theorem qnS (x0:Int):fnE qZF Tryz.f82 ([.s (.i .i64 x0)]) ([]) qZG=qC6 x0:=by kernel_rfl
def qZE:HA:=fun o vs objs K=>match vs,objs with
 | [.s (.i .i64 x0)],[]=>ob (qC6 x0) fun y0=>K false (.s (.i .i64 y0)) ([])
 | _,_=>o 82 vs objs K
def qME (o:Orc):Orc:=qN 82 (qZE o) o
theorem qQZ:OQ Tryz.prog qME:=fun _ ho=>qO ho fun vs objs K r h=>by
 unfold qZE at h
 split at h
 ·skip
  obtain⟨t,h1,h2⟩:=qE h
  refine qa mixed qnT ((qnS _).trans h1) (by kernel_rfl) fun v objs' hd=>?_
  unfold qZG at hd;split at hd;(cases hd;exact h2);cases hd
 ·exact ho _ _ _ _ _ h
def qeD:Ctx:=mkC 23 ((qM1 qK)) [] qW
theorem qsu:CtxOK Tryz.prog qeD:=mkC_ok ((qST _ qM))
def qeE:V->List Obj->Option (Int):=fun v objs=>match v,objs with
 | .s (.i .i64 y0),[]=>some (y0)
 | _,_=>none
theorem qst (x0 x1:Int):fnE qeD Tryz.f111 ([.s (.i .i64 x0),.s (.i .i64 x1)]) ([]) qeE=qGN x0 x1:=by kernel_rfl
def qeC:HA:=fun o vs objs K=>match vs,objs with
 | [.s (.i .i64 x0),.s (.i .i64 x1)],[]=>ob (qGN x0 x1) fun y0=>K false (.s (.i .i64 y0)) ([])
 | _,_=>o 111 vs objs K
def qSq (o:Orc):Orc:=qN 111 (qeC o) o
theorem qeF:OQ Tryz.prog qSq:=fun _ ho=>qO ho fun vs objs K r h=>by
 unfold qeC at h
 split at h
 ·skip
  obtain⟨t,h1,h2⟩:=qE h
  refine qa mixed qsu ((qst _ _).trans h1) (by kernel_rfl) fun v objs' hd=>?_
  unfold qeE at hd;split at hd;(cases hd;exact h2);cases hd
 ·exact ho _ _ _ _ _ h
def qSu:Ex->List V->List Obj->Option (Int×Int×Int×Int):=fun e vs objs=>match e,vs,objs with
 | .exit 0,[.s (.ptr 0 0 none 0),.s (.ptr 1 0 none 0)],[.cells 76 [.one [.i .u64 y0,.i .u64 y1]],.cells 76 [.one [.i .u64 y2,.i .u64 y3]]]=>some (y0,y1,y2,y3)
 | _,_,_=>none
def qSw:HL:=fun vs objs K=>match vs,objs with
 | [.s (.i .i64 x0),.s (.ptr 0 0 none 0),.s (.ptr 1 0 none 0),.s (.i .i64 x1)],[.cells 76 [.one [.i .u64 x2,.i .u64 x3]],.cells 76 [.one [.i .u64 x4,.i .u64 x5]]]=>ob (qNJ qB x0 x1 x2 x3 x4 x5) fun z=>K (.exit 0) ([.s (.ptr 0 0 none 0),.s (.ptr 1 0 none 0)]) ([.cells 76 [.one [.i .u64 (z.1),.i .u64 (z.2.1)]],.cells 76 [.one [.i .u64 (z.2.2.1),.i .u64 (z.2.2.2)]]])
 | _,_=>none
def qs2:{R:Type}->Nat->List V->List Obj->(Ex->List V->List Obj->Option R)->Option R:=fun q vs objs K=>bif Nat.beq q 3 then qSw vs objs K else none
def qNI:Ctx:=mkC 23 ((qE6 (qSq qK))) [(3,[0,2,3,6],[2,3])] qs2
theorem qeM:CtxOK Tryz.prog qNI:=mkC_ok ((qGL _ (qeF _ qM)))
def qSv (f:Nat) (x0 x1:Int) (x2 x3:Int) (x4 x5:Int):Option (Int×Int×Int×Int):=qh qNI 0 [0,2,3,6] [2,3] (qG Tryz.f97 3) f ([.s (.i .i64 x0),.s (.ptr 0 0 none 0),.s (.ptr 1 0 none 0),.s (.i .i64 x1)]) ([.cells 76 [.one [.i .u64 x2,.i .u64 x3]],.cells 76 [.one [.i .u64 x4,.i .u64 x5]]]) qSu
theorem qs1 (f:Nat) (x0 x1:Int) (x2 x3:Int) (x4 x5:Int):qSv (f+1) x0 x1 x2 x3 x4 x5=qeP (qSv f) x0 x1 x2 x3 x4 x5:=by kernel_rfl
theorem qeO:∀ f,qSv f=qNJ f
 | 0=>rfl
 | f+1=>by funext x0 x1 x2 x3 x4 x5;rw[qs1,qeO f];rfl
theorem qs4:qg Tryz.prog qNI 0 (qG Tryz.f97 3):=
 qi mixed qeM (qQ.of (l':=[]) (by kernel_rfl) trivial) (q:=3) (kin:=[0,2,3,6]) (kout:=[2,3]) (by kernel_rfl) (by kernel_rfl) fun vs objs K r h=>by
  replace h:qSw vs objs K=some r:=h
  unfold qSw at h
  split at h
  ·skip
   obtain⟨t,h1,h2⟩:=qE h
   rw[<- qeO] at h1
   refine⟨_,qSu,t,qB,h1,fun e vs' objs' hd=>?_⟩
   unfold qSu at hd;split at hd;(cases hd;exact h2);cases hd
  ·cases h
def qeN:V->List Obj->Option (Int×Int):=fun v objs=>match v,objs with
 | .agg [.one [.i .u64 y0,.i .u64 y1]],[]=>some (y0,y1)
 | _,_=>none
theorem qs0 (x0:Int):fnE qNI Tryz.f97 ([.s (.i .i64 x0)]) ([]) qeN=qKj x0:=by kernel_rfl
def qeL:HA:=fun o vs objs K=>match vs,objs with
 | [.s (.i .i64 x0)],[]=>ob (qKj x0) fun z=>K false (.agg [.one [.i .u64 (z.1),.i .u64 (z.2)]]) ([])
 | _,_=>o 97 vs objs K
def qeQ (o:Orc):Orc:=qN 97 (qeL o) o
theorem qs3:OQ Tryz.prog qeQ:=fun _ ho=>qO ho fun vs objs K r h=>by
 unfold qeL at h
 split at h
 ·skip
  obtain⟨t,h1,h2⟩:=qE h
  refine qAR mixed qeM (fn:=Tryz.f97) (b:=(Tryz.f97).body.getD .skip) (by kernel_rfl) (by kernel_rfl) (by kernel_rfl) ((qs0 _).trans h1) (m:=0) rfl (qQ.of (l':=[qG Tryz.f97 3]) (by kernel_rfl) ⟨qs4,trivial⟩) fun v objs' hd=>?_
  unfold qeN at hd;split at hd;(cases hd;exact h2);cases hd
 ·exact ho _ _ _ _ _ h
def qd0:Ctx:=mkC 25 ((qCj (qSq (qEi qK)))) [] qW
theorem qsj:CtxOK Tryz.prog qd0:=mkC_ok ((qC4 _ (qeF _ (qFw _ qM))))
def qd1:V->List Obj->Option (Bool):=fun v objs=>match v,objs with
 | .s (.b y0),[]=>some (y0)
 | _,_=>none
theorem qsi (x0 x1:Int):fnE qd0 Tryz.f88 ([.s (.i .i8 x0),.s (.i .i64 x1)]) ([]) qd1=qEI x0 x1:=by kernel_rfl
def qdz:HA:=fun o vs objs K=>match vs,objs with
 | [.s (.i .i8 x0),.s (.i .i64 x1)],[]=>ob (qEI x0 x1) fun y0=>K false (.s (.b y0)) ([])
 | _,_=>o 88 vs objs K
def qNG (o:Orc):Orc:=qN 88 (qdz o) o
theorem qSm:OQ Tryz.prog qNG:=fun _ ho=>qO ho fun vs objs K r h=>by
 unfold qdz at h
 split at h
 ·skip
  obtain⟨t,h1,h2⟩:=qE h
  refine qa mixed qsj ((qsi _ _).trans h1) (by kernel_rfl) fun v objs' hd=>?_
  unfold qd1 at hd;split at hd;(cases hd;exact h2);cases hd
 ·exact ho _ _ _ _ _ h
def qWq:Ctx:=mkC 27 ((qNG (qHH (qeQ (qEi (qME (qCj qK))))))) [] qW
theorem qjy:CtxOK Tryz.prog qWq:=mkC_ok ((qSm _ (qIz _ (qs3 _ (qFw _ (qQZ _ (qC4 _ qM)))))))
def qWr:V->List Obj->Option (Bool×Bool):=fun v objs=>match v,objs with
 | .tup [W.s (.b y0),W.s (.b y1)],[]=>some (y0,y1)
 | _,_=>none
theorem qjx (x0 x1 x2:Int):fnE qWq Tryz.f66 ([.s (.i .i8 x0),.s (.i .i64 x1),.s (.i .i64 x2)]) ([]) qWr=qJu x0 x1 x2:=by kernel_rfl
def qWp:HA:=fun o vs objs K=>match vs,objs with
 | [.s (.i .i8 x0),.s (.i .i64 x1),.s (.i .i64 x2)],[]=>ob (qJu x0 x1 x2) fun z=>K false (.tup [W.s (.b (z.1)),W.s (.b (z.2))]) ([])
 | _,_=>o 66 vs objs K
def qWs (o:Orc):Orc:=qN 66 (qWp o) o
theorem qjz:OQ Tryz.prog qWs:=fun _ ho=>qO ho fun vs objs K r h=>by
 unfold qWp at h
 split at h
 ·skip
  obtain⟨t,h1,h2⟩:=qE h
  refine qa mixed qjy ((qjx _ _ _).trans h1) (by kernel_rfl) fun v objs' hd=>?_
  unfold qWr at hd;split at hd;(cases hd;exact h2);cases hd
 ·exact ho _ _ _ _ _ h
def qPD:Ex->List V->List Obj->Option (Nat×Int×Nat×Int×Int×LI×LI×Int×LL×LL×Int×Int×Nat×LL×Int×Int×Nat×LI):=fun e vs objs=>match e,vs,objs with
 | .exit 2,[.s (.ptr 0 0 none 0),.s (.ptr 1 0 none 0),.s (.sl 2 0 y0 true),.s (.i .i64 y1),.s (.ptr 3 0 none 0),.s (.sl 4 0 y2 true),.s (.i .i64 y3),.s (.i .i64 y4)],[.rcells 87 [.arr .i8 81 y5,.arr .i8 16 y6,.one [.i .i8 y7],.rows [.i .u64,.i .u64] 32 y8,.rows [.i .u64,.i .u64] 2 y9],.cells 76 [.one [.i .u64 y10,.i .u64 y11]],.sli 51 false (.rows [.i .i64,.i .i64,.i .i64,.b] y12 y13),.cells 76 [.one [.i .u64 y14,.i .u64 y15]],.sli 3 false (.arr .i64 y16 y17)]=>some (y0,y1,y2,y3,y4,y5,y6,y7,y8,y9,y10,y11,y12,y13,y14,y15,y16,y17)
 | _,_,_=>none
def qPB:Ex->List V->List Obj->Option (Nat×LI×LI×Int×LL×LL×Nat×LL):=fun e vs objs=>match e,vs,objs with
 | .exit 0,[.s (.sl 1 0 y0 true)],[.rcells 87 [.arr .i8 81 y1,.arr .i8 16 y2,.one [.i .i8 y3],.rows [.i .u64,.i .u64] 32 y4,.rows [.i .u64,.i .u64] 2 y5],.sli 51 false (.rows [.i .i64,.i .i64,.i .i64,.b] y6 y7)]=>some (y0,y1,y2,y3,y4,y5,y6,y7)
 | _,_,_=>none
def qPH:HL:=fun vs objs K=>match vs,objs with
 | [.s (.ptr 0 0 none 0),.s (.ptr 1 0 none 0),.s (.sl 2 0 x0 true),.s (.i .i64 x1),.s (.ptr 3 0 none 0),.s (.i .i64 x2),.s (.i .i8 x3),.s (.sl 4 0 x4 true),.s (.i .i64 x5),.s (.i .i64 x6),.s (.sl 5 0 x7 true),.s (.i .i64 x8),.s (.i .i64 x9)],[.rcells 87 [.arr .i8 81 x10,.arr .i8 16 x11,.one [.i .i8 x12],.rows [.i .u64,.i .u64] 32 x13,.rows [.i .u64,.i .u64] 2 x14],.cells 76 [.one [.i .u64 x15,.i .u64 x16]],.sli 51 false (.rows [.i .i64,.i .i64,.i .i64,.b] x17 x18),.cells 76 [.one [.i .u64 x19,.i .u64 x20]],.sli 3 false (.arr .i64 x21 x22),.sli 3 false (.arr .i64 x23 x24)]=>ob (qFe qB x0 x1 x2 x3 x4 x5 x6 x7 x8 x9 x10 x11 x12 x13 x14 x15 x16 x17 x18 x19 x20 x21 x22 x23 x24) fun z=>K (.exit 2) ([.s (.ptr 0 0 none 0),.s (.ptr 1 0 none 0),.s (.sl 2 0 (z.1) true),.s (.i .i64 (z.2.1)),.s (.ptr 3 0 none 0),.s (.sl 4 0 (z.2.2.1) true),.s (.i .i64 (z.2.2.2.1)),.s (.i .i64 (z.2.2.2.2.1))]) ([.rcells 87 [.arr .i8 81 (z.2.2.2.2.2.1),.arr .i8 16 (z.2.2.2.2.2.2.1),.one [.i .i8 (z.2.2.2.2.2.2.2.1)],.rows [.i .u64,.i .u64] 32 (z.2.2.2.2.2.2.2.2.1),.rows [.i .u64,.i .u64] 2 (z.2.2.2.2.2.2.2.2.2.1)],.cells 76 [.one [.i .u64 (z.2.2.2.2.2.2.2.2.2.2.1),.i .u64 (z.2.2.2.2.2.2.2.2.2.2.2.1)]],.sli 51 false (.rows [.i .i64,.i .i64,.i .i64,.b] (z.2.2.2.2.2.2.2.2.2.2.2.2.1) (z.2.2.2.2.2.2.2.2.2.2.2.2.2.1)),.cells 76 [.one [.i .u64 (z.2.2.2.2.2.2.2.2.2.2.2.2.2.2.1),.i .u64 (z.2.2.2.2.2.2.2.2.2.2.2.2.2.2.2.1)]],.sli 3 false (.arr .i64 (z.2.2.2.2.2.2.2.2.2.2.2.2.2.2.2.2.1) (z.2.2.2.2.2.2.2.2.2.2.2.2.2.2.2.2.2))])
 | _,_=>none
def qPG:HL:=fun vs objs K=>match vs,objs with
 | [.s (.ptr 0 0 none 0),.s (.ptr 1 0 none 0),.s (.sl 2 0 x0 true),.s (.i .i64 x1),.s (.ptr 3 0 none 0),.s (.sl 4 0 x2 true),.s (.i .i64 x3),.s (.i .i64 x4)],[.rcells 87 [.arr .i8 81 x5,.arr .i8 16 x6,.one [.i .i8 x7],.rows [.i .u64,.i .u64] 32 x8,.rows [.i .u64,.i .u64] 2 x9],.cells 76 [.one [.i .u64 x10,.i .u64 x11]],.sli 51 false (.rows [.i .i64,.i .i64,.i .i64,.b] x12 x13),.cells 76 [.one [.i .u64 x14,.i .u64 x15]],.sli 3 false (.arr .i64 x16 x17)]=>ob (qFd qB x0 x1 x2 x3 x4 x5 x6 x7 x8 x9 x10 x11 x12 x13 x14 x15 x16 x17) fun z=>K (.exit 0) ([.s (.sl 1 0 (z.1) true)]) ([.rcells 87 [.arr .i8 81 (z.2.1),.arr .i8 16 (z.2.2.1),.one [.i .i8 (z.2.2.2.1)],.rows [.i .u64,.i .u64] 32 (z.2.2.2.2.1),.rows [.i .u64,.i .u64] 2 (z.2.2.2.2.2.1)],.sli 51 false (.rows [.i .i64,.i .i64,.i .i64,.b] (z.2.2.2.2.2.2.1) (z.2.2.2.2.2.2.2))])
 | _,_=>none
def qji:{R:Type}->Nat->List V->List Obj->(Ex->List V->List Obj->Option R)->Option R:=fun q vs objs K=>bif Nat.beq q 9 then qPH vs objs K else bif Nat.beq q 5 then qPG vs objs K else none
def qH0:Ctx:=mkC 82 ((qWs (qGI (qMz (qMP (qHl (qGf (qKe (qOL (qHI (qGh qK))))))))))) [(5,[0,3,5,6,7,29,30,31],[5]),(9,[0,3,5,6,7,9,10,29,30,31,51,52,53],[0,3,5,6,7,29,30,31])] qji
theorem qPA:CtxOK Tryz.prog qH0:=mkC_ok ((qjz _ (qHD _ (qSP _ (qQm _ (qJX _ (qHh _ (qM5 _ (qUn _ (qI3 _ (qHj _ qM)))))))))))
def qPE (f:Nat) (x0:Nat) (x1 x2 x3:Int) (x4:Nat) (x5 x6:Int) (x7:Nat) (x8 x9:Int) (x10 x11:LI) (x12:Int) (x13 x14:LL) (x15 x16:Int) (x17:Nat) (x18:LL) (x19 x20:Int) (x21:Nat) (x22:LI) (x23:Nat) (x24:LI):Option (Nat×Int×Nat×Int×Int×LI×LI×Int×LL×LL×Int×Int×Nat×LL×Int×Int×Nat×LI):=qh qH0 1 [0,3,5,6,7,9,10,29,30,31,51,52,53] [0,3,5,6,7,29,30,31] (qG Tryz.f28 9) f ([.s (.ptr 0 0 none 0),.s (.ptr 1 0 none 0),.s (.sl 2 0 x0 true),.s (.i .i64 x1),.s (.ptr 3 0 none 0),.s (.i .i64 x2),.s (.i .i8 x3),.s (.sl 4 0 x4 true),.s (.i .i64 x5),.s (.i .i64 x6),.s (.sl 5 0 x7 true),.s (.i .i64 x8),.s (.i .i64 x9)]) ([.rcells 87 [.arr .i8 81 x10,.arr .i8 16 x11,.one [.i .i8 x12],.rows [.i .u64,.i .u64] 32 x13,.rows [.i .u64,.i .u64] 2 x14],.cells 76 [.one [.i .u64 x15,.i .u64 x16]],.sli 51 false (.rows [.i .i64,.i .i64,.i .i64,.b] x17 x18),.cells 76 [.one [.i .u64 x19,.i .u64 x20]],.sli 3 false (.arr .i64 x21 x22),.sli 3 false (.arr .i64 x23 x24)]) qPD
theorem qjh (f:Nat) (x0:Nat) (x1 x2 x3:Int) (x4:Nat) (x5 x6:Int) (x7:Nat) (x8 x9:Int) (x10 x11:LI) (x12:Int) (x13 x14:LL) (x15 x16:Int) (x17:Nat) (x18:LL) (x19 x20:Int) (x21:Nat) (x22:LI) (x23:Nat) (x24:LI):qPE (f+1) x0 x1 x2 x3 x4 x5 x6 x7 x8 x9 x10 x11 x12 x13 x14 x15 x16 x17 x18 x19 x20 x21 x22 x23 x24=qH2 (qPE f) x0 x1 x2 x3 x4 x5 x6 x7 x8 x9 x10 x11 x12 x13 x14 x15 x16 x17 x18 x19 x20 x21 x22 x23 x24:=by kernel_rfl
theorem qWd:∀ f,qPE f=qFe f
 | 0=>rfl
 | f+1=>by funext x0 x1 x2 x3 x4 x5 x6 x7 x8 x9 x10 x11 x12 x13 x14 x15 x16 x17 x18 x19 x20 x21 x22 x23 x24;rw[qjh,qWd f];rfl
def qPC (f:Nat) (x0:Nat) (x1:Int) (x2:Nat) (x3 x4:Int) (x5 x6:LI) (x7:Int) (x8 x9:LL) (x10 x11:Int) (x12:Nat) (x13:LL) (x14 x15:Int) (x16:Nat) (x17:LI):Option (Nat×LI×LI×Int×LL×LL×Nat×LL):=qh qH0 1 [0,3,5,6,7,29,30,31] [5] (qG Tryz.f28 5) f ([.s (.ptr 0 0 none 0),.s (.ptr 1 0 none 0),.s (.sl 2 0 x0 true),.s (.i .i64 x1),.s (.ptr 3 0 none 0),.s (.sl 4 0 x2 true),.s (.i .i64 x3),.s (.i .i64 x4)]) ([.rcells 87 [.arr .i8 81 x5,.arr .i8 16 x6,.one [.i .i8 x7],.rows [.i .u64,.i .u64] 32 x8,.rows [.i .u64,.i .u64] 2 x9],.cells 76 [.one [.i .u64 x10,.i .u64 x11]],.sli 51 false (.rows [.i .i64,.i .i64,.i .i64,.b] x12 x13),.cells 76 [.one [.i .u64 x14,.i .u64 x15]],.sli 3 false (.arr .i64 x16 x17)]) qPB
theorem qjg (f:Nat) (x0:Nat) (x1:Int) (x2:Nat) (x3 x4:Int) (x5 x6:LI) (x7:Int) (x8 x9:LL) (x10 x11:Int) (x12:Nat) (x13:LL) (x14 x15:Int) (x16:Nat) (x17:LI):qPC (f+1) x0 x1 x2 x3 x4 x5 x6 x7 x8 x9 x10 x11 x12 x13 x14 x15 x16 x17=qH1 (qPC f) x0 x1 x2 x3 x4 x5 x6 x7 x8 x9 x10 x11 x12 x13 x14 x15 x16 x17:=by kernel_rfl
theorem qWc:∀ f,qPC f=qFd f
 | 0=>rfl
 | f+1=>by funext x0 x1 x2 x3 x4 x5 x6 x7 x8 x9 x10 x11 x12 x13 x14 x15 x16 x17;rw[qjg,qWc f];rfl
theorem qjk:qg Tryz.prog qH0 1 (qG Tryz.f28 9):=
 qi mixed qPA (qQ.of (l':=[]) (by kernel_rfl) trivial) (q:=9) (kin:=[0,3,5,6,7,9,10,29,30,31,51,52,53]) (kout:=[0,3,5,6,7,29,30,31]) (by kernel_rfl) (by kernel_rfl) fun vs objs K r h=>by
  replace h:qPH vs objs K=some r:=h
  unfold qPH at h
  split at h
  ·skip
   obtain⟨t,h1,h2⟩:=qE h
   rw[<- qWd] at h1
   refine⟨_,qPD,t,qB,h1,fun e vs' objs' hd=>?_⟩
   unfold qPD at hd;split at hd;(cases hd;exact h2);cases hd
  ·cases h
theorem qjj:qg Tryz.prog qH0 1 (qG Tryz.f28 5):=
 qi mixed qPA (qQ.of (l':=[qG Tryz.f28 9]) (by kernel_rfl) ⟨qjk,trivial⟩) (q:=5) (kin:=[0,3,5,6,7,29,30,31]) (kout:=[5]) (by kernel_rfl) (by kernel_rfl) fun vs objs K r h=>by
  replace h:qPG vs objs K=some r:=h
  unfold qPG at h
  split at h
  ·skip
   obtain⟨t,h1,h2⟩:=qE h
   rw[<- qWc] at h1
   refine⟨_,qPB,t,qB,h1,fun e vs' objs' hd=>?_⟩
   unfold qPB at hd;split at hd;(cases hd;exact h2);cases hd
  ·cases h
def qWb:V->List Obj->Option (Nat×Nat×LL):=fun v objs=>match v,objs with
 | .s (.sl 1 0 y0 true),[.sli 51 false (.rows [.i .i64,.i .i64,.i .i64,.b] y1 y2)]=>some (y0,y1,y2)
 | _,_=>none
theorem qjf (x0 x1:Int) (x2 x3:LI) (x4:Int) (x5 x6:LL):fnE qH0 Tryz.f28 ([.s (.ptr 0 0 none 0),.agg [.one [.i .u64 x0,.i .u64 x1]]]) ([.rcells 87 [.arr .i8 81 x2,.arr .i8 16 x3,.one [.i .i8 x4],.rows [.i .u64,.i .u64] 32 x5,.rows [.i .u64,.i .u64] 2 x6]]) (qAf 1 qWb)=qHz x0 x1 x2 x3 x4 x5 x6:=by kernel_rfl
def qWa:HA:=fun o vs objs K=>match vs,List.map Obj.toRO objs with
 | [.s (.ptr 0 0 none 0),.agg [.one [.i .u64 x0,.i .u64 x1]]],[.rcells 87 [.arr .i8 81 x2,.arr .i8 16 x3,.one [.i .i8 x4],.rows [.i .u64,.i .u64] 32 x5,.rows [.i .u64,.i .u64] 2 x6]]=>ob (qHz x0 x1 x2 x3 x4 x5 x6) fun z=>K true (.s (.sl 1 0 (z.1) true)) ([.sli 51 false (.rows [.i .i64,.i .i64,.i .i64,.b] (z.2.1) (z.2.2))])
 | _,_=>o 28 vs objs K
def qPF (o:Orc):Orc:=qN 28 (qWa o) o
theorem qWe:OQ Tryz.prog qPF:=fun _ ho=>qO ho fun vs objs K r h=>by
 unfold qWa at h
 split at h
 ·skip
  have hq:List.map Obj.toRO objs=_:=(by rename_i hq;first | exact hq | assumption)
  obtain⟨t,h1,h2⟩:=qE h
  refine qAr mixed qPA (m:=1) (fn:=Tryz.f28) (b:=(Tryz.f28).body.getD .skip) (by kernel_rfl) (by kernel_rfl) (by kernel_rfl) hq (by kernel_rfl) (by kernel_rfl) (qQ.of (l':=[qG Tryz.f28 5]) (by kernel_rfl) ⟨qjj,trivial⟩) ((qjf _ _ _ _ _ _ _).trans h1) fun v objs' hd=>?_
  unfold qWb at hd;split at hd;(cases hd;exact h2);cases hd
 ·exact ho _ _ _ _ _ h
def qXz:Ctx:=mkC 49 ((qHH (qIy (qNl (qKf (qHl qK)))))) [] qW
theorem qlI:CtxOK Tryz.prog qXz:=mkC_ok ((qIz _ (qKb _ (qT0 _ (qM6 _ (qJX _ qM))))))
def qX0:V->List Obj->Option (Bool×LI×LI×Int×LL×LL×List (LI×LI)):=fun v objs=>match v,objs with
 | .s (.b y0),[.cells 87 [.arr .i8 81 y1,.arr .i8 16 y2,.one [.i .i8 y3],.rows [.i .u64,.i .u64] 32 y4,.rows [.i .u64,.i .u64] 2 y5],.map false true [.i .i64] [.i .u64,.i .u64] y6]=>some (y0,y1,y2,y3,y4,y5,y6)
 | _,_=>none
theorem qlH (x0 x1:Int) (x2 x3:Int) (x4:Bool) (x5 x6 x7:Int) (x8:Bool) (x9 x10:LI) (x11:Int) (x12 x13:LL) (x14:List (LI×LI)):fnE qXz Tryz.f30 ([.agg [.one [.ptr 0 0 none 0,.i .i64 x0,.i .i64 x1,.i .u64 x2,.i .u64 x3,.mp 1,.b x4]],.agg [.one [.i .i64 x5,.i .i64 x6,.i .i64 x7,.b x8]]]) ([.cells 87 [.arr .i8 81 x9,.arr .i8 16 x10,.one [.i .i8 x11],.rows [.i .u64,.i .u64] 32 x12,.rows [.i .u64,.i .u64] 2 x13],.map false true [.i .i64] [.i .u64,.i .u64] x14]) qX0=qIL x0 x1 x2 x3 x4 x5 x6 x7 x8 x9 x10 x11 x12 x13 x14:=by kernel_rfl
def qXy:HA:=fun o vs objs K=>match vs,objs with
 | [.agg [.one [.ptr 0 0 none 0,.i .i64 x0,.i .i64 x1,.i .u64 x2,.i .u64 x3,.mp 1,.b x4]],.agg [.one [.i .i64 x5,.i .i64 x6,.i .i64 x7,.b x8]]],[.cells 87 [.arr .i8 81 x9,.arr .i8 16 x10,.one [.i .i8 x11],.rows [.i .u64,.i .u64] 32 x12,.rows [.i .u64,.i .u64] 2 x13],.map false true [.i .i64] [.i .u64,.i .u64] x14]=>ob (qIL x0 x1 x2 x3 x4 x5 x6 x7 x8 x9 x10 x11 x12 x13 x14) fun z=>K false (.s (.b (z.1))) ([.cells 87 [.arr .i8 81 (z.2.1),.arr .i8 16 (z.2.2.1),.one [.i .i8 (z.2.2.2.1)],.rows [.i .u64,.i .u64] 32 (z.2.2.2.2.1),.rows [.i .u64,.i .u64] 2 (z.2.2.2.2.2.1)],.map false true [.i .i64] [.i .u64,.i .u64] (z.2.2.2.2.2.2)])
 | _,_=>o 30 vs objs K
def qP7 (o:Orc):Orc:=qN 30 (qXy o) o
theorem qX1:OQ Tryz.prog qP7:=fun _ ho=>qO ho fun vs objs K r h=>by
 unfold qXy at h
 split at h
 ·skip
  obtain⟨t,h1,h2⟩:=qE h
  refine qa mixed qlI ((qlH _ _ _ _ _ _ _ _ _ _ _ _ _ _ _).trans h1) (by kernel_rfl) fun v objs' hd=>?_
  unfold qX0 at hd;split at hd;(cases hd;exact h2);cases hd
 ·exact ho _ _ _ _ _ h
def qUY:Ctx:=mkC 31 (qK) [] qW
theorem qhF:CtxOK Tryz.prog qUY:=mkC_ok (qM)
def qUZ:V->List Obj->Option (Int):=fun v objs=>match v,objs with
 | .s (.i .i64 y0),[]=>some (y0)
 | _,_=>none
theorem qhE (x0 x1:Int) (x2 x3:LI) (x4:Int) (x5 x6:LL):fnE qUY Tryz.f70 ([.s (.ptr 0 0 none 0),.s (.i .i64 x0),.s (.i .i64 x1)]) ([.rcells 87 [.arr .i8 81 x2,.arr .i8 16 x3,.one [.i .i8 x4],.rows [.i .u64,.i .u64] 32 x5,.rows [.i .u64,.i .u64] 2 x6]]) (qAf 1 qUZ)=qCv x0 x1 x2 x3 x4 x5 x6:=by kernel_rfl
def qUX:HA:=fun o vs objs K=>match vs,List.map Obj.toRO objs with
 | [.s (.ptr 0 0 none 0),.s (.i .i64 x0),.s (.i .i64 x1)],[.rcells 87 [.arr .i8 81 x2,.arr .i8 16 x3,.one [.i .i8 x4],.rows [.i .u64,.i .u64] 32 x5,.rows [.i .u64,.i .u64] 2 x6]]=>ob (qCv x0 x1 x2 x3 x4 x5 x6) fun y0=>K true (.s (.i .i64 y0)) ([])
 | _,_=>o 70 vs objs K
def qK5 (o:Orc):Orc:=qN 70 (qUX o) o
theorem qOG:OQ Tryz.prog qK5:=fun _ ho=>qO ho fun vs objs K r h=>by
 unfold qUX at h
 split at h
 ·skip
  have hq:List.map Obj.toRO objs=_:=(by rename_i hq;first | exact hq | assumption)
  obtain⟨t,h1,h2⟩:=qE h
  refine qAr mixed qhF (m:=1) (fn:=Tryz.f70) (b:=(Tryz.f70).body.getD .skip) (by kernel_rfl) (by kernel_rfl) (by kernel_rfl) hq (by kernel_rfl) (by kernel_rfl) (qQ.of (l':=[]) (by kernel_rfl) trivial) ((qhE _ _ _ _ _ _ _).trans h1) fun v objs' hd=>?_
  unfold qUZ at hd;split at hd;(cases hd;exact h2);cases hd
 ·exact ho _ _ _ _ _ h
def qdD:Ctx:=mkC 6 ((qMz (qKa qK))) [] qW
theorem qrf:CtxOK Tryz.prog qdD:=mkC_ok ((qSP _ (qMt _ qM)))
def qdE:V->List Obj->Option (Int×Int):=fun v objs=>match v,objs with
 | .agg [.one [.i .u64 y0,.i .u64 y1]],[]=>some (y0,y1)
 | _,_=>none
theorem qre (x0 x1:Int):fnE qdD Tryz.f99 ([.agg [.one [.i .u64 x0,.i .u64 x1]]]) ([]) qdE=qKc x0 x1:=by kernel_rfl
def qdC:HA:=fun o vs objs K=>match vs,objs with
 | [.agg [.one [.i .u64 x0,.i .u64 x1]]],[]=>ob (qKc x0 x1) fun z=>K false (.agg [.one [.i .u64 (z.1),.i .u64 (z.2)]]) ([])
 | _,_=>o 99 vs objs K
def qdF (o:Orc):Orc:=qN 99 (qdC o) o
theorem qrg:OQ Tryz.prog qdF:=fun _ ho=>qO ho fun vs objs K r h=>by
 unfold qdC at h
 split at h
 ·skip
  obtain⟨t,h1,h2⟩:=qE h
  refine qa mixed qrf ((qre _ _).trans h1) (by kernel_rfl) fun v objs' hd=>?_
  unfold qdE at hd;split at hd;(cases hd;exact h2);cases hd
 ·exact ho _ _ _ _ _ h
def qSL:Ex->List V->List Obj->Option (Int×Int×Int×Int):=fun e vs objs=>match e,vs,objs with
 | .exit 0,[.s (.ptr 0 0 none 0),.s (.ptr 1 0 none 0)],[.cells 76 [.one [.i .u64 y0,.i .u64 y1]],.cells 76 [.one [.i .u64 y2,.i .u64 y3]]]=>some (y0,y1,y2,y3)
 | _,_,_=>none
def qSO:HL:=fun vs objs K=>match vs,objs with
 | [.s (.i .i64 x0),.s (.ptr 0 0 none 0),.s (.ptr 1 0 none 0),.s (.i .i64 x1)],[.cells 76 [.one [.i .u64 x2,.i .u64 x3]],.cells 76 [.one [.i .u64 x4,.i .u64 x5]]]=>ob (qMy qB x0 x1 x2 x3 x4 x5) fun z=>K (.exit 0) ([.s (.ptr 0 0 none 0),.s (.ptr 1 0 none 0)]) ([.cells 76 [.one [.i .u64 (z.1),.i .u64 (z.2.1)]],.cells 76 [.one [.i .u64 (z.2.2.1),.i .u64 (z.2.2.2)]]])
 | _,_=>none
def qra:{R:Type}->Nat->List V->List Obj->(Ex->List V->List Obj->Option R)->Option R:=fun q vs objs K=>bif Nat.beq q 3 then qSO vs objs K else none
def qMx:Ctx:=mkC 15 ((qE6 (qKd qK))) [(3,[0,2,3,5],[2,3])] qra
theorem qc4:CtxOK Tryz.prog qMx:=mkC_ok ((qGL _ (qM2 _ qM)))
def qSM (f:Nat) (x0 x1:Int) (x2 x3:Int) (x4 x5:Int):Option (Int×Int×Int×Int):=qh qMx 0 [0,2,3,5] [2,3] (qG Tryz.f89 3) f ([.s (.i .i64 x0),.s (.ptr 0 0 none 0),.s (.ptr 1 0 none 0),.s (.i .i64 x1)]) ([.cells 76 [.one [.i .u64 x2,.i .u64 x3]],.cells 76 [.one [.i .u64 x4,.i .u64 x5]]]) qSL
theorem qrZ (f:Nat) (x0 x1:Int) (x2 x3:Int) (x4 x5:Int):qSM (f+1) x0 x1 x2 x3 x4 x5=qc7 (qSM f) x0 x1 x2 x3 x4 x5:=by kernel_rfl
theorem qc6:∀ f,qSM f=qMy f
 | 0=>rfl
 | f+1=>by funext x0 x1 x2 x3 x4 x5;rw[qrZ,qc6 f];rfl
theorem qrb:qg Tryz.prog qMx 0 (qG Tryz.f89 3):=
 qi mixed qc4 (qQ.of (l':=[]) (by kernel_rfl) trivial) (q:=3) (kin:=[0,2,3,5]) (kout:=[2,3]) (by kernel_rfl) (by kernel_rfl) fun vs objs K r h=>by
  replace h:qSO vs objs K=some r:=h
  unfold qSO at h
  split at h
  ·skip
   obtain⟨t,h1,h2⟩:=qE h
   rw[<- qc6] at h1
   refine⟨_,qSL,t,qB,h1,fun e vs' objs' hd=>?_⟩
   unfold qSL at hd;split at hd;(cases hd;exact h2);cases hd
  ·cases h
def qc5:V->List Obj->Option (Int×Int):=fun v objs=>match v,objs with
 | .agg [.one [.i .u64 y0,.i .u64 y1]],[]=>some (y0,y1)
 | _,_=>none
theorem qrY (x0:Int):fnE qMx Tryz.f89 ([.s (.i .i64 x0)]) ([]) qc5=qI0 x0:=by kernel_rfl
def qc3:HA:=fun o vs objs K=>match vs,objs with
 | [.s (.i .i64 x0)],[]=>ob (qI0 x0) fun z=>K false (.agg [.one [.i .u64 (z.1),.i .u64 (z.2)]]) ([])
 | _,_=>o 89 vs objs K
def qSN (o:Orc):Orc:=qN 89 (qc3 o) o
theorem qc8:OQ Tryz.prog qSN:=fun _ ho=>qO ho fun vs objs K r h=>by
 unfold qc3 at h
 split at h
 ·skip
  obtain⟨t,h1,h2⟩:=qE h
  refine qAR mixed qc4 (fn:=Tryz.f89) (b:=(Tryz.f89).body.getD .skip) (by kernel_rfl) (by kernel_rfl) (by kernel_rfl) ((qrY _).trans h1) (m:=0) rfl (qQ.of (l':=[qG Tryz.f89 3]) (by kernel_rfl) ⟨qrb,trivial⟩) fun v objs' hd=>?_
  unfold qc5 at hd;split at hd;(cases hd;exact h2);cases hd
 ·exact ho _ _ _ _ _ h
def qPP:Ex->List V->List Obj->Option (LI×LI×Int×LL×LL×Int×Int×Int×Int):=fun e vs objs=>match e,vs,objs with
 | .exit 0,[.s (.ptr 1 0 none 0),.s (.ptr 2 0 none 0)],[.rcells 87 [.arr .i8 81 y0,.arr .i8 16 y1,.one [.i .i8 y2],.rows [.i .u64,.i .u64] 32 y3,.rows [.i .u64,.i .u64] 2 y4],.cells 76 [.one [.i .u64 y5,.i .u64 y6]],.cells 76 [.one [.i .u64 y7,.i .u64 y8]]]=>some (y0,y1,y2,y3,y4,y5,y6,y7,y8)
 | _,_,_=>none
def qPR:HL:=fun vs objs K=>match vs,objs with
 | [.s (.ptr 0 0 none 0),.s (.i .i64 x0),.s (.i .i64 x1),.s (.ptr 1 0 none 0),.s (.i .i8 x2),.s (.ptr 2 0 none 0),.s (.sl 3 0 x3 true),.s (.i .i64 x4),.s (.i .i64 x5)],[.rcells 87 [.arr .i8 81 x6,.arr .i8 16 x7,.one [.i .i8 x8],.rows [.i .u64,.i .u64] 32 x9,.rows [.i .u64,.i .u64] 2 x10],.cells 76 [.one [.i .u64 x11,.i .u64 x12]],.cells 76 [.one [.i .u64 x13,.i .u64 x14]],.sli 3 false (.arr .i64 x15 x16)]=>ob (qDs qB x0 x1 x2 x3 x4 x5 x6 x7 x8 x9 x10 x11 x12 x13 x14 x15 x16) fun z=>K (.exit 0) ([.s (.ptr 1 0 none 0),.s (.ptr 2 0 none 0)]) ([.rcells 87 [.arr .i8 81 (z.1),.arr .i8 16 (z.2.1),.one [.i .i8 (z.2.2.1)],.rows [.i .u64,.i .u64] 32 (z.2.2.2.1),.rows [.i .u64,.i .u64] 2 (z.2.2.2.2.1)],.cells 76 [.one [.i .u64 (z.2.2.2.2.2.1),.i .u64 (z.2.2.2.2.2.2.1)]],.cells 76 [.one [.i .u64 (z.2.2.2.2.2.2.2.1),.i .u64 (z.2.2.2.2.2.2.2.2)]]])
 | _,_=>none
def qju:{R:Type}->Nat->List V->List Obj->(Ex->List V->List Obj->Option R)->Option R:=fun q vs objs K=>bif Nat.beq q 6 then qPR vs objs K else none
def qLa:Ctx:=mkC 53 ((qE6 (qIy (qGI (qSN (qMv (qGh (qNG (qKe (qdF (qHl (qFv qK)))))))))))) [(6,[0,1,2,6,7,8,24,25,26],[6,8])] qju
theorem qWl:CtxOK Tryz.prog qLa:=mkC_ok ((qGL _ (qKb _ (qHD _ (qc8 _ (qSJ _ (qHj _ (qSm _ (qM5 _ (qrg _ (qJX _ (qGz _ qM))))))))))))
def qPQ (f:Nat) (x0 x1 x2:Int) (x3:Nat) (x4 x5:Int) (x6 x7:LI) (x8:Int) (x9 x10:LL) (x11 x12:Int) (x13 x14:Int) (x15:Nat) (x16:LI):Option (LI×LI×Int×LL×LL×Int×Int×Int×Int):=qh qLa 1 [0,1,2,6,7,8,24,25,26] [6,8] (qG Tryz.f71 6) f ([.s (.ptr 0 0 none 0),.s (.i .i64 x0),.s (.i .i64 x1),.s (.ptr 1 0 none 0),.s (.i .i8 x2),.s (.ptr 2 0 none 0),.s (.sl 3 0 x3 true),.s (.i .i64 x4),.s (.i .i64 x5)]) ([.rcells 87 [.arr .i8 81 x6,.arr .i8 16 x7,.one [.i .i8 x8],.rows [.i .u64,.i .u64] 32 x9,.rows [.i .u64,.i .u64] 2 x10],.cells 76 [.one [.i .u64 x11,.i .u64 x12]],.cells 76 [.one [.i .u64 x13,.i .u64 x14]],.sli 3 false (.arr .i64 x15 x16)]) qPP
theorem qjt (f:Nat) (x0 x1 x2:Int) (x3:Nat) (x4 x5:Int) (x6 x7:LI) (x8:Int) (x9 x10:LL) (x11 x12:Int) (x13 x14:Int) (x15:Nat) (x16:LI):qPQ (f+1) x0 x1 x2 x3 x4 x5 x6 x7 x8 x9 x10 x11 x12 x13 x14 x15 x16=qH6 (qPQ f) x0 x1 x2 x3 x4 x5 x6 x7 x8 x9 x10 x11 x12 x13 x14 x15 x16:=by kernel_rfl
theorem qWn:∀ f,qPQ f=qDs f
 | 0=>rfl
 | f+1=>by funext x0 x1 x2 x3 x4 x5 x6 x7 x8 x9 x10 x11 x12 x13 x14 x15 x16;rw[qjt,qWn f];rfl
theorem qjw:qg Tryz.prog qLa 1 (qG Tryz.f71 6):=
 qi mixed qWl (qQ.of (l':=[]) (by kernel_rfl) trivial) (q:=6) (kin:=[0,1,2,6,7,8,24,25,26]) (kout:=[6,8]) (by kernel_rfl) (by kernel_rfl) fun vs objs K r h=>by
  replace h:qPR vs objs K=some r:=h
  unfold qPR at h
  split at h
  ·skip
   obtain⟨t,h1,h2⟩:=qE h
   rw[<- qWn] at h1
   refine⟨_,qPP,t,qB,h1,fun e vs' objs' hd=>?_⟩
   unfold qPP at hd;split at hd;(cases hd;exact h2);cases hd
  ·cases h
def qWm:V->List Obj->Option (Int×Int):=fun v objs=>match v,objs with
 | .agg [.one [.i .u64 y0,.i .u64 y1]],[]=>some (y0,y1)
 | _,_=>none
theorem qjs (x0 x1:Int) (x2 x3:LI) (x4:Int) (x5 x6:LL):fnE qLa Tryz.f71 ([.s (.ptr 0 0 none 0),.s (.i .i64 x0),.s (.i .i64 x1)]) ([.rcells 87 [.arr .i8 81 x2,.arr .i8 16 x3,.one [.i .i8 x4],.rows [.i .u64,.i .u64] 32 x5,.rows [.i .u64,.i .u64] 2 x6]]) (qAf 1 qWm)=qJt x0 x1 x2 x3 x4 x5 x6:=by kernel_rfl
def qWk:HA:=fun o vs objs K=>match vs,List.map Obj.toRO objs with
 | [.s (.ptr 0 0 none 0),.s (.i .i64 x0),.s (.i .i64 x1)],[.rcells 87 [.arr .i8 81 x2,.arr .i8 16 x3,.one [.i .i8 x4],.rows [.i .u64,.i .u64] 32 x5,.rows [.i .u64,.i .u64] 2 x6]]=>ob (qJt x0 x1 x2 x3 x4 x5 x6) fun z=>K true (.agg [.one [.i .u64 (z.1),.i .u64 (z.2)]]) ([])
 | _,_=>o 71 vs objs K
def qWo (o:Orc):Orc:=qN 71 (qWk o) o
theorem qjv:OQ Tryz.prog qWo:=fun _ ho=>qO ho fun vs objs K r h=>by
 unfold qWk at h
 split at h
 ·skip
  have hq:List.map Obj.toRO objs=_:=(by rename_i hq;first | exact hq | assumption)
  obtain⟨t,h1,h2⟩:=qE h
  refine qAr mixed qWl (m:=1) (fn:=Tryz.f71) (b:=(Tryz.f71).body.getD .skip) (by kernel_rfl) (by kernel_rfl) (by kernel_rfl) hq (by kernel_rfl) (by kernel_rfl) (qQ.of (l':=[qG Tryz.f71 6]) (by kernel_rfl) ⟨qjw,trivial⟩) ((qjs _ _ _ _ _ _ _).trans h1) fun v objs' hd=>?_
  unfold qWm at hd;split at hd;(cases hd;exact h2);cases hd
 ·exact ho _ _ _ _ _ h
end
end Go.Kk.KkWP
