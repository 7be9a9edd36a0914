/- Printed by a tool of this project (KkGen): the program's functions come to the plain ones. -/
import Derived.Test.YtpppdecfohkkfaaGreatDoorKkLNe
namespace Go.Kk.KkLN
noncomputable section
open Go.Proofs Go.Kk.Pl
set_option maxRecDepth 100000
set_option maxHeartbeats 4000000
def qYu:Ctx:=mkC 16 (qL) [] qa
theorem qlW:CtxOK Tryz.prog qYu:=mkC_ok (qN)
def qYv:V->List Obj->Option (ByteArray):=fun v objs=>match v,objs with
 | .s (.str y0),[]=>some (y0)
 | _,_=>none
theorem qlV (x0:Int):fnE qYu Tryz.f33 ([.s (.i .i64 x0)]) ([]) qYv=qHR x0:=by kernel_rfl
def qYt:HA:=fun o vs objs K=>match vs,objs with
 | [.s (.i .i64 x0)],[]=>ob (qHR x0) fun y0=>K false (.s (.str y0)) ([])
 | _,_=>o 33 vs objs K
def qYw (o:Orc):Orc:=qM 33 (qYt o) o
theorem qlX:OQ Tryz.prog qYw:=fun _ ho=>qQ ho fun vs objs K r h=>by
 unfold qYt at h
 split at h
 ·skip
  obtain ⟨t,h1,h2⟩:=qG h
  refine qd mixed qlW ((qlV _).trans h1) (by kernel_rfl) fun v objs' hd=>?_
  unfold qYv at hd;split at hd;(cases hd;exact h2);cases hd
 ·exact ho _ _ _ _ _ h
def qYy:Ctx:=mkC 33 ((qYw (qYo qL))) [] qa
theorem qlZ:CtxOK Tryz.prog qYy:=mkC_ok ((qlX _ (qlR _ qN)))
def qYz:V->List Obj->Option (ByteArray):=fun v objs=>match v,objs with
 | .s (.str y0),[]=>some (y0)
 | _,_=>none
theorem qlY (x0 x1 x2:Int) (x3:Bool):fnE qYy Tryz.f13 ([.agg [.one [.i .i64 x0,.i .i64 x1,.i .i64 x2,.b x3]]]) ([]) qYz=qC0 x0 x1 x2 x3:=by kernel_rfl
def qYx:HA:=fun o vs objs K=>match vs,objs with
 | [.agg [.one [.i .i64 x0,.i .i64 x1,.i .i64 x2,.b x3]]],[]=>ob (qC0 x0 x1 x2 x3) fun y0=>K false (.s (.str y0)) ([])
 | _,_=>o 13 vs objs K
def qY0 (o:Orc):Orc:=qM 13 (qYx o) o
theorem qla:OQ Tryz.prog qY0:=fun _ ho=>qQ ho fun vs objs K r h=>by
 unfold qYx at h
 split at h
 ·skip
  obtain ⟨t,h1,h2⟩:=qG h
  refine qd mixed qlZ ((qlY _ _ _ _).trans h1) (by kernel_rfl) fun v objs' hd=>?_
  unfold qYz at hd;split at hd;(cases hd;exact h2);cases hd
 ·exact ho _ _ _ _ _ h
def qOw:Ex->List V->List Obj->Option (Nat×Nat×LL×Nat×LL):=fun e vs objs=>match e,vs,objs with
 | .exit 0,[.s (.sl 1 0 y0 true)],[.sli 37 true (.rows [.i .i64,.i .i64,.i .i64,.b] y1 y2),.sli 9 false (.rows [CK.s] y3 y4)]=>some (y0,y1,y2,y3,y4)
 | _,_,_=>none
def qOy:HL:=fun vs objs K=>match vs,objs with
 | [.s (.sl 1 0 x0 true),.s (.sl 0 x1 x2 false),.s (.i .i64 x3),.s (.i .i64 x4)],[.sli 37 true (.rows [.i .i64,.i .i64,.i .i64,.b] x5 x6),.sli 9 false (.rows [CK.s] x7 x8)]=>ob (qFe qD x0 x1 x2 x3 x4 x5 x6 x7 x8) fun z=>K (.exit 0) ([.s (.sl 1 0 (z.1) true)]) ([.sli 37 true (.rows [.i .i64,.i .i64,.i .i64,.b] (z.2.1) (z.2.2.1)),.sli 9 false (.rows [CK.s] (z.2.2.2.1) (z.2.2.2.2))])
 | _,_=>none
def qiO:{R:Type}->Nat->List V->List Obj->(Ex->List V->List Obj->Option R)->Option R:=fun q vs objs K=>bif Nat.beq q 3 then qOy vs objs K else none
def qKV:Ctx:=mkC 20 ((qQ8 (qPG qL))) [(3,[3,6,7,8],[3])] qiO
theorem qWU:CtxOK Tryz.prog qKV:=mkC_ok ((qbM _ (qXF _ qN)))
def qOx (f:Nat) (x0 x1 x2:Nat) (x3 x4:Int) (x5:Nat) (x6:LL) (x7:Nat) (x8:LL):Option (Nat×Nat×LL×Nat×LL):=qi qKV 1 [3,6,7,8] [3] (qI Tryz.f14 3) f ([.s (.sl 1 0 x0 true),.s (.sl 0 x1 x2 false),.s (.i .i64 x3),.s (.i .i64 x4)]) ([.sli 37 true (.rows [.i .i64,.i .i64,.i .i64,.b] x5 x6),.sli 9 false (.rows [CK.s] x7 x8)]) qOw
theorem qiN (f:Nat) (x0 x1 x2:Nat) (x3 x4:Int) (x5:Nat) (x6:LL) (x7:Nat) (x8:LL):qOx (f+1) x0 x1 x2 x3 x4 x5 x6 x7 x8=qKW (qOx f) x0 x1 x2 x3 x4 x5 x6 x7 x8:=by kernel_rfl
theorem qWW:∀ f,qOx f=qFe f
 | 0=>rfl
 | f+1=>by funext x0 x1 x2 x3 x4 x5 x6 x7 x8;rw [qiN,qWW f];rfl
theorem qiQ:qe Tryz.prog qKV 1 (qI Tryz.f14 3):=
 qj mixed qWU (qR.of (l':=[]) (by kernel_rfl) trivial) (q:=3) (kin:=[3,6,7,8]) (kout:=[3]) (by kernel_rfl) (by kernel_rfl) fun vs objs K r h=>by
  replace h:qOy vs objs K=some r:=h
  unfold qOy at h
  split at h
  ·skip
   obtain ⟨t,h1,h2⟩:=qG h
   rw [<- qWW] at h1
   refine ⟨_,qOw,t,qD,h1,fun e vs' objs' hd=>?_⟩
   unfold qOw at hd;split at hd;(cases hd;exact h2);cases hd
  ·cases h
def qWV:V->List Obj->Option (ByteArray):=fun v objs=>match v,objs with
 | .s (.str y0),[]=>some (y0)
 | _,_=>none
theorem qiM (x0 x1 x2:Nat) (x3:LL):fnE qKV Tryz.f14 ([.s (.sl 0 x0 x1 false)]) ([.sli 37 true (.rows [.i .i64,.i .i64,.i .i64,.b] x2 x3)]) (qAE 1 qWV)=qIS x0 x1 x2 x3:=by kernel_rfl
def qWT:HA:=fun o vs objs K=>match vs,List.map Obj.toRO objs with
 | [.s (.sl 0 x0 x1 false)],[.sli 37 true (.rows [.i .i64,.i .i64,.i .i64,.b] x2 x3)]=>ob (qIS x0 x1 x2 x3) fun y0=>K true (.s (.str y0)) ([])
 | _,_=>o 14 vs objs K
def qWX (o:Orc):Orc:=qM 14 (qWT o) o
theorem qiP:OQ Tryz.prog qWX:=fun _ ho=>qQ ho fun vs objs K r h=>by
 unfold qWT at h
 split at h
 ·skip
  have hq:List.map Obj.toRO objs=_:=(by rename_i hq;first | exact hq | assumption)
  obtain ⟨t,h1,h2⟩:=qG h
  refine qAU mixed qWU (m:=1) (fn:=Tryz.f14) (b:=(Tryz.f14).body.getD .skip) (by kernel_rfl) (by kernel_rfl) (by kernel_rfl) hq (by kernel_rfl) (by kernel_rfl) (qR.of (l':=[qI Tryz.f14 3]) (by kernel_rfl) ⟨qiQ,trivial⟩) ((qiM _ _ _ _).trans h1) fun v objs' hd=>?_
  unfold qWV at hd;split at hd;(cases hd;exact h2);cases hd
 ·exact ho _ _ _ _ _ h
def qP6:Ex->List V->List Obj->Option ((Bool×Nat×LL×Nat×LL)⊕(Nat×LL×Nat×LL)):=fun e vs objs=>match e,vs,objs with
 | .ret,[.s (.b y0)],[.sli 37 true (.rows [.i .i64,.i .i64,.i .i64,.b] y1 y2),.sli 37 true (.rows [.i .i64,.i .i64,.i .i64,.b] y3 y4)]=>some (.inl (y0,y1,y2,y3,y4))
 | .exit 0,[.s .bad],[.sli 37 true (.rows [.i .i64,.i .i64,.i .i64,.b] y0 y1),.sli 37 true (.rows [.i .i64,.i .i64,.i .i64,.b] y2 y3)]=>some (.inr (y0,y1,y2,y3))
 | _,_,_=>none
def qP8:HL:=fun vs objs K=>match vs,objs with
 | [.s (.sl 0 0 x0 true),.s (.sl 1 x1 x2 false),.s (.i .i64 x3)],[.sli 37 true (.rows [.i .i64,.i .i64,.i .i64,.b] x4 x5),.sli 37 true (.rows [.i .i64,.i .i64,.i .i64,.b] x6 x7)]=>ob (qFs qD x0 x1 x2 x3 x4 x5 x6 x7) fun t0=>sw t0 (fun z=>K (.ret) ([.s (.b (z.1))]) ([.sli 37 true (.rows [.i .i64,.i .i64,.i .i64,.b] (z.2.1) (z.2.2.1)),.sli 37 true (.rows [.i .i64,.i .i64,.i .i64,.b] (z.2.2.2.1) (z.2.2.2.2))])) (fun z=>K (.exit 0) ([.s .bad]) ([.sli 37 true (.rows [.i .i64,.i .i64,.i .i64,.b] (z.1) (z.2.1)),.sli 37 true (.rows [.i .i64,.i .i64,.i .i64,.b] (z.2.2.1) (z.2.2.2))]))
 | _,_=>none
def qlk:{R:Type}->Nat->List V->List Obj->(Ex->List V->List Obj->Option R)->Option R:=fun q vs objs K=>bif Nat.beq q 4 then qP8 vs objs K else none
def qLE:Ctx:=mkC 26 (qL) [(4,[0,1,5],[4])] qlk
theorem qZC:CtxOK Tryz.prog qLE:=mkC_ok (qN)
def qP7 (f:Nat) (x0 x1 x2:Nat) (x3:Int) (x4:Nat) (x5:LL) (x6:Nat) (x7:LL):Option ((Bool×Nat×LL×Nat×LL)⊕(Nat×LL×Nat×LL)):=qi qLE 2 [0,1,5] [4] (qI Tryz.f16 4) f ([.s (.sl 0 0 x0 true),.s (.sl 1 x1 x2 false),.s (.i .i64 x3)]) ([.sli 37 true (.rows [.i .i64,.i .i64,.i .i64,.b] x4 x5),.sli 37 true (.rows [.i .i64,.i .i64,.i .i64,.b] x6 x7)]) qP6
theorem qlj (f:Nat) (x0 x1 x2:Nat) (x3:Int) (x4:Nat) (x5:LL) (x6:Nat) (x7:LL):qP7 (f+1) x0 x1 x2 x3 x4 x5 x6 x7=qLF (qP7 f) x0 x1 x2 x3 x4 x5 x6 x7:=by kernel_rfl
theorem qZE:∀ f,qP7 f=qFs f
 | 0=>rfl
 | f+1=>by funext x0 x1 x2 x3 x4 x5 x6 x7;rw [qlj,qZE f];rfl
theorem qlm:qe Tryz.prog qLE 2 (qI Tryz.f16 4):=
 qj mixed qZC (qR.of (l':=[]) (by kernel_rfl) trivial) (q:=4) (kin:=[0,1,5]) (kout:=[4]) (by kernel_rfl) (by kernel_rfl) fun vs objs K r h=>by
  replace h:qP8 vs objs K=some r:=h
  unfold qP8 at h
  split at h
  ·skip
   obtain ⟨t,h1,h2⟩:=qG h
   rw [<- qZE] at h1
   refine ⟨_,qP6,t,qD,h1,fun e vs' objs' hd=>?_⟩
   unfold qP6 at hd
   split at hd
   ·skip
    cases hd
    exact h2
   ·skip
    cases hd
    exact h2
   ·cases hd
  ·cases h
def qZD:V->List Obj->Option (Bool):=fun v objs=>match v,objs with
 | .s (.b y0),[]=>some (y0)
 | _,_=>none
theorem qli (x0 x1:Nat) (x2 x3:Nat) (x4:LL) (x5:Nat) (x6:LL):fnE qLE Tryz.f16 ([.s (.sl 0 0 x0 true),.s (.sl 1 x1 x2 false)]) ([.sli 37 true (.rows [.i .i64,.i .i64,.i .i64,.b] x3 x4),.sli 37 true (.rows [.i .i64,.i .i64,.i .i64,.b] x5 x6)]) (qAE 2 qZD)=qIj x0 x1 x2 x3 x4 x5 x6:=by kernel_rfl
def qZB:HA:=fun o vs objs K=>match vs,List.map Obj.toRO objs with
 | [.s (.sl 0 0 x0 true),.s (.sl 1 x1 x2 false)],[.sli 37 true (.rows [.i .i64,.i .i64,.i .i64,.b] x3 x4),.sli 37 true (.rows [.i .i64,.i .i64,.i .i64,.b] x5 x6)]=>ob (qIj x0 x1 x2 x3 x4 x5 x6) fun y0=>K true (.s (.b y0)) ([])
 | _,_=>o 16 vs objs K
def qZF (o:Orc):Orc:=qM 16 (qZB o) o
theorem qll:OQ Tryz.prog qZF:=fun _ ho=>qQ ho fun vs objs K r h=>by
 unfold qZB at h
 split at h
 ·skip
  have hq:List.map Obj.toRO objs=_:=(by rename_i hq;first | exact hq | assumption)
  obtain ⟨t,h1,h2⟩:=qG h
  refine qAU mixed qZC (m:=2) (fn:=Tryz.f16) (b:=(Tryz.f16).body.getD .skip) (by kernel_rfl) (by kernel_rfl) (by kernel_rfl) hq (by kernel_rfl) (by kernel_rfl) (qR.of (l':=[qI Tryz.f16 4]) (by kernel_rfl) ⟨qlm,trivial⟩) ((qli _ _ _ _ _ _ _).trans h1) fun v objs' hd=>?_
  unfold qZD at hd;split at hd;(cases hd;exact h2);cases hd
 ·exact ho _ _ _ _ _ h
def qP2:Ex->List V->List Obj->Option ((Int)⊕(Unit)):=fun e vs objs=>match e,vs,objs with
 | .ret,[.s (.i .i64 y0)],[]=>some (.inl (y0))
 | .exit 0,[.s .bad],[]=>some (.inr ())
 | _,_,_=>none
def qP5:HL:=fun vs objs K=>match vs,objs with
 | [.s (.str x0),.s (.i .u8 x1),.s (.i .i64 x2)],[]=>ob (qLD qD x0 x1 x2) fun t0=>sw t0 (fun y0=>K (.ret) ([.s (.i .i64 y0)]) ([])) (fun _=>K (.exit 0) ([.s .bad]) ([]))
 | _,_=>none
def qld:{R:Type}->Nat->List V->List Obj->(Ex->List V->List Obj->Option R)->Option R:=fun q vs objs K=>bif Nat.beq q 2 then qP5 vs objs K else none
def qLC:Ctx:=mkC 18 (qL) [(2,[0,1,5],[4])] qld
theorem qY2:CtxOK Tryz.prog qLC:=mkC_ok (qN)
def qP3 (f:Nat) (x0:ByteArray) (x1 x2:Int):Option ((Int)⊕(Unit)):=qi qLC 0 [0,1,5] [4] (qI Tryz.f38 2) f ([.s (.str x0),.s (.i .u8 x1),.s (.i .i64 x2)]) ([]) qP2
theorem qlc (f:Nat) (x0:ByteArray) (x1 x2:Int):qP3 (f+1) x0 x1 x2=qY5 (qP3 f) x0 x1 x2:=by kernel_rfl
theorem qY4:∀ f,qP3 f=qLD f
 | 0=>rfl
 | f+1=>by funext x0 x1 x2;rw [qlc,qY4 f];rfl
theorem qle:qe Tryz.prog qLC 0 (qI Tryz.f38 2):=
 qj mixed qY2 (qR.of (l':=[]) (by kernel_rfl) trivial) (q:=2) (kin:=[0,1,5]) (kout:=[4]) (by kernel_rfl) (by kernel_rfl) fun vs objs K r h=>by
  replace h:qP5 vs objs K=some r:=h
  unfold qP5 at h
  split at h
  ·skip
   obtain ⟨t,h1,h2⟩:=qG h
   rw [<- qY4] at h1
   refine ⟨_,qP2,t,qD,h1,fun e vs' objs' hd=>?_⟩
   unfold qP2 at hd
   split at hd
   ·skip
    cases hd
    exact h2
   ·skip
    cases hd
    exact h2
   ·cases hd
  ·cases h
def qY3:V->List Obj->Option (Int):=fun v objs=>match v,objs with
 | .s (.i .i64 y0),[]=>some (y0)
 | _,_=>none
theorem qlb (x0:ByteArray) (x1:Int):fnE qLC Tryz.f38 ([.s (.str x0),.s (.i .u8 x1)]) ([]) qY3=qEF x0 x1:=by kernel_rfl
def qY1:HA:=fun o vs objs K=>match vs,objs with
 | [.s (.str x0),.s (.i .u8 x1)],[]=>ob (qEF x0 x1) fun y0=>K false (.s (.i .i64 y0)) ([])
 | _,_=>o 38 vs objs K
def qP4 (o:Orc):Orc:=qM 38 (qY1 o) o
theorem qY6:OQ Tryz.prog qP4:=fun _ ho=>qQ ho fun vs objs K r h=>by
 unfold qY1 at h
 split at h
 ·skip
  obtain ⟨t,h1,h2⟩:=qG h
  refine qAc mixed qY2 (fn:=Tryz.f38) (b:=(Tryz.f38).body.getD .skip) (by kernel_rfl) (by kernel_rfl) (by kernel_rfl) ((qlb _ _).trans h1) (m:=0) rfl (qR.of (l':=[qI Tryz.f38 2]) (by kernel_rfl) ⟨qle,trivial⟩) fun v objs' hd=>?_
  unfold qY3 at hd;split at hd;(cases hd;exact h2);cases hd
 ·exact ho _ _ _ _ _ h
def qY8:Ctx:=mkC 21 ((qP4 qL)) [] qa
theorem qlg:CtxOK Tryz.prog qY8:=mkC_ok ((qY6 _ qN))
def qY9:V->List Obj->Option (Int):=fun v objs=>match v,objs with
 | .s (.i .i64 y0),[]=>some (y0)
 | _,_=>none
theorem qlf (x0:ByteArray):fnE qY8 Tryz.f39 ([.s (.str x0)]) ([]) qY9=qDX x0:=by kernel_rfl
def qY7:HA:=fun o vs objs K=>match vs,objs with
 | [.s (.str x0)],[]=>ob (qDX x0) fun y0=>K false (.s (.i .i64 y0)) ([])
 | _,_=>o 39 vs objs K
def qZA (o:Orc):Orc:=qM 39 (qY7 o) o
theorem qlh:OQ Tryz.prog qZA:=fun _ ho=>qQ ho fun vs objs K r h=>by
 unfold qY7 at h
 split at h
 ·skip
  obtain ⟨t,h1,h2⟩:=qG h
  refine qd mixed qlg ((qlf _).trans h1) (by kernel_rfl) fun v objs' hd=>?_
  unfold qY9 at hd;split at hd;(cases hd;exact h2);cases hd
 ·exact ho _ _ _ _ _ h
def qYq:Ctx:=mkC 76 ((qZA (qP4 qL))) [] qa
theorem qlT:CtxOK Tryz.prog qYq:=mkC_ok ((qlh _ (qY6 _ qN)))
def qYr:V->List Obj->Option (Int×Int×Int×Bool×Int):=fun v objs=>match v,objs with
 | .tup [W.agg [.one [.i .i64 y0,.i .i64 y1,.i .i64 y2,.b y3]],W.s (.i .i64 y4)],[]=>some (y0,y1,y2,y3,y4)
 | _,_=>none
theorem qlS (x0:ByteArray):fnE qYq Tryz.f17 ([.s (.str x0)]) ([]) qYr=qHQ x0:=by kernel_rfl
def qYp:HA:=fun o vs objs K=>match vs,objs with
 | [.s (.str x0)],[]=>ob (qHQ x0) fun z=>K false (.tup [W.agg [.one [.i .i64 (z.1),.i .i64 (z.2.1),.i .i64 (z.2.2.1),.b (z.2.2.2.1)]],W.s (.i .i64 (z.2.2.2.2))]) ([])
 | _,_=>o 17 vs objs K
def qYs (o:Orc):Orc:=qM 17 (qYp o) o
theorem qlU:OQ Tryz.prog qYs:=fun _ ho=>qQ ho fun vs objs K r h=>by
 unfold qYp at h
 split at h
 ·skip
  obtain ⟨t,h1,h2⟩:=qG h
  refine qd mixed qlT ((qlS _).trans h1) (by kernel_rfl) fun v objs' hd=>?_
  unfold qYr at hd;split at hd;(cases hd;exact h2);cases hd
 ·exact ho _ _ _ _ _ h
def qOQ:Ex->List V->List Obj->Option (Nat×Nat×ByteArray×ByteArray×Bool×Nat×LL):=fun e vs objs=>match e,vs,objs with
 | .exit 0,[.s (.sl 0 y0 y1 false),.s (.str y2),.s (.str y3),.s (.b y4)],[.sli 37 true (.rows [.i .i64,.i .i64,.i .i64,.b] y5 y6)]=>some (y0,y1,y2,y3,y4,y5,y6)
 | _,_,_=>none
def qOO:Ex->List V->List Obj->Option ((ByteArray×Bool×Nat×Int×Int×Int×Nat×LL×Nat×LL)⊕(ByteArray×Nat×Int×Int×Int×Nat×LL×Nat×LL)):=fun e vs objs=>match e,vs,objs with
 | .ret,[.s (.str y0),.s (.b y1),.s (.sl 1 0 y2 true),.s (.i .i64 y3),.s (.i .i64 y4),.s (.i .i64 y5)],[.sli 37 true (.rows [.i .i64,.i .i64,.i .i64,.b] y6 y7),.sli 37 false (.rows [.i .i64,.i .i64,.i .i64,.b] y8 y9)]=>some (.inl (y0,y1,y2,y3,y4,y5,y6,y7,y8,y9))
 | .exit 2,[.s (.str y0),.s .bad,.s (.sl 1 0 y1 true),.s (.i .i64 y2),.s (.i .i64 y3),.s (.i .i64 y4)],[.sli 37 true (.rows [.i .i64,.i .i64,.i .i64,.b] y5 y6),.sli 37 false (.rows [.i .i64,.i .i64,.i .i64,.b] y7 y8)]=>some (.inr (y0,y1,y2,y3,y4,y5,y6,y7,y8))
 | _,_,_=>none
def qOT:HL:=fun vs objs K=>match vs,objs with
 | [.s (.sl 0 x0 x1 false),.s (.str x2),.s (.str x3),.s (.b x4),.s (.sl 0 x5 x6 false),.s (.i .i64 x7),.s (.i .i64 x8)],[.sli 37 true (.rows [.i .i64,.i .i64,.i .i64,.b] x9 x10)]=>ob (qFd qD x0 x1 x2 x3 x4 x5 x6 x7 x8 x9 x10) fun z=>K (.exit 0) ([.s (.sl 0 (z.1) (z.2.1) false),.s (.str (z.2.2.1)),.s (.str (z.2.2.2.1)),.s (.b (z.2.2.2.2.1))]) ([.sli 37 true (.rows [.i .i64,.i .i64,.i .i64,.b] (z.2.2.2.2.2.1) (z.2.2.2.2.2.2))])
 | _,_=>none
def qOS:HL:=fun vs objs K=>match vs,objs with
 | [.s (.str x0),.s (.sl 1 0 x1 true),.s (.i .i64 x2),.s (.i .i64 x3),.s (.i .i64 x4),.s (.i .i64 x5),.s (.i .i64 x6)],[.sli 37 true (.rows [.i .i64,.i .i64,.i .i64,.b] x7 x8),.sli 37 false (.rows [.i .i64,.i .i64,.i .i64,.b] x9 x10)]=>ob (qBo qD x0 x1 x2 x3 x4 x5 x6 x7 x8 x9 x10) fun t0=>sw t0 (fun z=>K (.ret) ([.s (.str (z.1)),.s (.b (z.2.1)),.s (.sl 1 0 (z.2.2.1) true),.s (.i .i64 (z.2.2.2.1)),.s (.i .i64 (z.2.2.2.2.1)),.s (.i .i64 (z.2.2.2.2.2.1))]) ([.sli 37 true (.rows [.i .i64,.i .i64,.i .i64,.b] (z.2.2.2.2.2.2.1) (z.2.2.2.2.2.2.2.1)),.sli 37 false (.rows [.i .i64,.i .i64,.i .i64,.b] (z.2.2.2.2.2.2.2.2.1) (z.2.2.2.2.2.2.2.2.2))])) (fun z=>K (.exit 2) ([.s (.str (z.1)),.s .bad,.s (.sl 1 0 (z.2.1) true),.s (.i .i64 (z.2.2.1)),.s (.i .i64 (z.2.2.2.1)),.s (.i .i64 (z.2.2.2.2.1))]) ([.sli 37 true (.rows [.i .i64,.i .i64,.i .i64,.b] (z.2.2.2.2.2.1) (z.2.2.2.2.2.2.1)),.sli 37 false (.rows [.i .i64,.i .i64,.i .i64,.b] (z.2.2.2.2.2.2.2.1) (z.2.2.2.2.2.2.2.2))]))
 | _,_=>none
def qhd:{R:Type}->Nat->List V->List Obj->(Ex->List V->List Obj->Option R)->Option R:=fun q vs objs K=>bif Nat.beq q 8 then qOT vs objs K else bif Nat.beq q 24 then qOS vs objs K else none
def qGv:Ctx:=mkC 151 ((qWX (qO1 (qYs (qZF (qOq (qY0 (qVl qL)))))))) [(8,[0,1,5,6,30,31,32],[0,1,5,6]),(24,[1,12,13,14,15,16,17],[1,4,12,13,14,15])] qhd
theorem qKL:CtxOK Tryz.prog qGv:=mkC_ok ((qiP _ (qWc _ (qlU _ (qll _ (qWM _ (qla _ (qhf _ qN))))))))
def qOR (f:Nat) (x0 x1:Nat) (x2 x3:ByteArray) (x4:Bool) (x5 x6:Nat) (x7 x8:Int) (x9:Nat) (x10:LL):Option (Nat×Nat×ByteArray×ByteArray×Bool×Nat×LL):=qi qGv 1 [0,1,5,6,30,31,32] [0,1,5,6] (qI Tryz.f4 8) f ([.s (.sl 0 x0 x1 false),.s (.str x2),.s (.str x3),.s (.b x4),.s (.sl 0 x5 x6 false),.s (.i .i64 x7),.s (.i .i64 x8)]) ([.sli 37 true (.rows [.i .i64,.i .i64,.i .i64,.b] x9 x10)]) qOQ
theorem qhc (f:Nat) (x0 x1:Nat) (x2 x3:ByteArray) (x4:Bool) (x5 x6:Nat) (x7 x8:Int) (x9:Nat) (x10:LL):qOR (f+1) x0 x1 x2 x3 x4 x5 x6 x7 x8 x9 x10=qKM (qOR f) x0 x1 x2 x3 x4 x5 x6 x7 x8 x9 x10:=by kernel_rfl
theorem qVe:∀ f,qOR f=qFd f
 | 0=>rfl
 | f+1=>by funext x0 x1 x2 x3 x4 x5 x6 x7 x8 x9 x10;rw [qhc,qVe f];rfl
def qOP (f:Nat) (x0:ByteArray) (x1:Nat) (x2 x3:Int) (x4 x5 x6:Int) (x7:Nat) (x8:LL) (x9:Nat) (x10:LL):Option ((ByteArray×Bool×Nat×Int×Int×Int×Nat×LL×Nat×LL)⊕(ByteArray×Nat×Int×Int×Int×Nat×LL×Nat×LL)):=qi qGv 1 [1,12,13,14,15,16,17] [1,4,12,13,14,15] (qI Tryz.f4 24) f ([.s (.str x0),.s (.sl 1 0 x1 true),.s (.i .i64 x2),.s (.i .i64 x3),.s (.i .i64 x4),.s (.i .i64 x5),.s (.i .i64 x6)]) ([.sli 37 true (.rows [.i .i64,.i .i64,.i .i64,.b] x7 x8),.sli 37 false (.rows [.i .i64,.i .i64,.i .i64,.b] x9 x10)]) qOO
theorem qhb (f:Nat) (x0:ByteArray) (x1:Nat) (x2 x3:Int) (x4 x5 x6:Int) (x7:Nat) (x8:LL) (x9:Nat) (x10:LL):qOP (f+1) x0 x1 x2 x3 x4 x5 x6 x7 x8 x9 x10=qGw (qOP f) x0 x1 x2 x3 x4 x5 x6 x7 x8 x9 x10:=by kernel_rfl
theorem qVd:∀ f,qOP f=qBo f
 | 0=>rfl
 | f+1=>by funext x0 x1 x2 x3 x4 x5 x6 x7 x8 x9 x10;rw [qhb,qVd f];rfl
theorem qVg:qe Tryz.prog qGv 1 (qI Tryz.f4 8):=
 qj mixed qKL (qR.of (l':=[]) (by kernel_rfl) trivial) (q:=8) (kin:=[0,1,5,6,30,31,32]) (kout:=[0,1,5,6]) (by kernel_rfl) (by kernel_rfl) fun vs objs K r h=>by
  replace h:qOT vs objs K=some r:=h
  unfold qOT at h
  split at h
  ·skip
   obtain ⟨t,h1,h2⟩:=qG h
   rw [<- qVe] at h1
   refine ⟨_,qOQ,t,qD,h1,fun e vs' objs' hd=>?_⟩
   unfold qOQ at hd;split at hd;(cases hd;exact h2);cases hd
  ·cases h
theorem qVf:qe Tryz.prog qGv 1 (qI Tryz.f4 24):=
 qj mixed qKL (qR.of (l':=[]) (by kernel_rfl) trivial) (q:=24) (kin:=[1,12,13,14,15,16,17]) (kout:=[1,4,12,13,14,15]) (by kernel_rfl) (by kernel_rfl) fun vs objs K r h=>by
  replace h:qOS vs objs K=some r:=h
  unfold qOS at h
  split at h
  ·skip
   obtain ⟨t,h1,h2⟩:=qG h
   rw [<- qVd] at h1
   refine ⟨_,qOO,t,qD,h1,fun e vs' objs' hd=>?_⟩
   unfold qOO at hd
   split at hd
   ·skip
    cases hd
    exact h2
   ·skip
    cases hd
    exact h2
   ·cases hd
  ·cases h
def qON:V->List Obj->Option (Bool):=fun v objs=>match v,objs with
 | .s (.b y0),[]=>some (y0)
 | _,_=>none
theorem qVb (x0 x1 x2:Nat) (x3:LL) (x4:ByteArray):fnE qGv Tryz.f4 ([.s (.sl 0 x0 x1 false),.s (.str x4)]) ([.sli 37 true (.rows [.i .i64,.i .i64,.i .i64,.b] x2 x3)]) (qAE 1 qON)=qGu x0 x1 x2 x3 x4:=by kernel_rfl
def qVc:HA:=fun o vs objs K=>match vs,List.map Obj.toRO objs with
 | [.s (.sl 0 x0 x1 false),.s (.str x4)],[.sli 37 true (.rows [.i .i64,.i .i64,.i .i64,.b] x2 x3)]=>ob (qGu x0 x1 x2 x3 x4) fun y0=>K true (.s (.b y0)) ([])
 | _,_=>o 4 vs objs K
def qhe (o:Orc):Orc:=qM 4 (qVc o) o
theorem qha {vs:List V} {objs:List Obj} (x0 x1 x2:Nat) (x3:LL) (x4:ByteArray) {R:Type} {K:Bool->V->List Obj->Option R} {r:R} (hv:vs=[.s (.sl 0 x0 x1 false),.s (.str x4)]) (ho:List.map Obj.toRO objs=[.sli 37 true (.rows [.i .i64,.i .i64,.i .i64,.b] x2 x3)]) (h:ob (qGu x0 x1 x2 x3 x4) (fun y0=>K true (.s (.b y0)) ([]))=some r):
  ∃ p v objs',K p v objs'=some r /\ qC6 Tryz.prog 4 vs objs p v objs':=by
 subst hv
 obtain ⟨t,h1,h2⟩:=qG h
 refine qAU mixed qKL (m:=1) (fn:=Tryz.f4) (b:=(Tryz.f4).body.getD .skip) (by kernel_rfl) (by kernel_rfl) (by kernel_rfl) ho (by kernel_rfl) (by kernel_rfl) (qR.of (l':=[qI Tryz.f4 8,qI Tryz.f4 24]) (by kernel_rfl) ⟨qVg,qVf,trivial⟩) ((qVb _ _ _ _ _).trans h1) fun v objs' hd=>?_
 unfold qON at hd;split at hd;(cases hd;exact h2);cases hd
theorem qpH:OQ Tryz.prog qhe:=fun _ ho=>qQ ho fun vs objs K r h=>by
 unfold qVc at h
 split at h
 ·skip
  have hq:List.map Obj.toRO objs=_:=(by rename_i hq;first | exact hq | assumption)
  obtain ⟨t,h1,h2⟩:=qG h
  refine qAU mixed qKL (m:=1) (fn:=Tryz.f4) (b:=(Tryz.f4).body.getD .skip) (by kernel_rfl) (by kernel_rfl) (by kernel_rfl) hq (by kernel_rfl) (by kernel_rfl) (qR.of (l':=[qI Tryz.f4 8,qI Tryz.f4 24]) (by kernel_rfl) ⟨qVg,qVf,trivial⟩) ((qVb _ _ _ _ _).trans h1) fun v objs' hd=>?_
  unfold qON at hd;split at hd;(cases hd;exact h2);cases hd
 ·exact ho _ _ _ _ _ h
end
end Go.Kk.KkLN
