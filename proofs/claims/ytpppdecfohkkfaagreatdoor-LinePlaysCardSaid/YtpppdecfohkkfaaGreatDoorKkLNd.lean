/- Printed by a tool of this project (KkGen): the program's functions come to the plain ones. -/
import Derived.Test.YtpppdecfohkkfaaGreatDoorKkLNc
namespace Go.Kk.KkLN
noncomputable section
open Go.Proofs Go.Kk.Pl
set_option maxRecDepth 100000
set_option maxHeartbeats 4000000
def qfB:Ctx:=mkC 8 (qI) [] qU
theorem qtp:CtxOK Tryz.prog qfB:=mkC_ok (qK)
def qfC:V->List Obj->Option (Int):=fun v objs=>match v,objs with
 | .s (.i .i64 y0),[]=>some (y0)
 | _,_=>none
theorem qto (x0:ByteArray) (x1:Int):fnE qfB Tryz.f155 ([.s (.str x0),.s (.i .u8 x1)]) ([]) qfC=qS7 x0 x1:=by kernel_rfl
def qfA:HA:=fun o vs objs K=>match vs,objs with
 | [.s (.str x0),.s (.i .u8 x1)],[]=>ob (qS7 x0 x1) fun y0=>K false (.s (.i .i64 y0)) ([])
 | _,_=>o 155 vs objs K
def qfD (o:Orc):Orc:=qJ 155 (qfA o) o
theorem qtq:OQ Tryz.prog qfD:=fun _ ho=>qL ho fun vs objs K r h=>by
 unfold qfA at h
 split at h
 ·skip
  obtain ⟨t,h1,h2⟩:=qD h
  refine qX mixed qtp ((qto _ _).trans h1) (by kernel_rfl) fun v objs' hd=>?_
  unfold qfC at hd;split at hd;(cases hd;exact h2);cases hd
 ·exact ho _ _ _ _ _ h
def qS8:Ctx:=mkC 143 ((qfD qI)) [(15,[0,1,5,6,7,8,9,10],[4])] qU
theorem qfF:CtxOK Tryz.prog qS8:=mkC_ok ((qtq _ qK))
theorem qtt:qa Tryz.prog qS8 0 (qE Tryz.f141 15):=
 qg mixed qfF (qM.of (l':=[]) (by kernel_rfl) trivial) (q:=15) (kin:=[0,1,5,6,7,8,9,10]) (kout:=[4]) (by kernel_rfl) (by kernel_rfl) fun vs objs K r h=>by
  replace h:none=some r:=h
  cases h
def qfG:V->List Obj->Option (Int):=fun v objs=>match v,objs with
 | .s (.i .i64 y0),[]=>some (y0)
 | _,_=>none
theorem qtr (x0 x1:ByteArray):fnE qS8 Tryz.f141 ([.s (.str x0),.s (.str x1)]) ([]) qfG=qS6 x0 x1:=by kernel_rfl
def qfE:HA:=fun o vs objs K=>match vs,objs with
 | [.s (.str x0),.s (.str x1)],[]=>ob (qS6 x0 x1) fun y0=>K false (.s (.i .i64 y0)) ([])
 | _,_=>o 141 vs objs K
def qfH (o:Orc):Orc:=qJ 141 (qfE o) o
theorem qts:OQ Tryz.prog qfH:=fun _ ho=>qL ho fun vs objs K r h=>by
 unfold qfE at h
 split at h
 ·skip
  obtain ⟨t,h1,h2⟩:=qD h
  refine q7 mixed qfF (fn:=Tryz.f141) (b:=(Tryz.f141).body.getD .skip) (by kernel_rfl) (by kernel_rfl) (by kernel_rfl) ((qtr _ _).trans h1) (m:=0) rfl (qM.of (l':=[qE Tryz.f141 15]) (by kernel_rfl) ⟨qtt,trivial⟩) fun v objs' hd=>?_
  unfold qfG at hd;split at hd;(cases hd;exact h2);cases hd
 ·exact ho _ _ _ _ _ h
def qeo:Ctx:=mkC 8 ((qfH qI)) [] qU
theorem qtX:CtxOK Tryz.prog qeo:=mkC_ok ((qts _ qK))
def qep:V->List Obj->Option (Int):=fun v objs=>match v,objs with
 | .s (.i .i64 y0),[]=>some (y0)
 | _,_=>none
theorem qtW (x0 x1:ByteArray):fnE qeo Tryz.f110 ([.s (.str x0),.s (.str x1)]) ([]) qep=qMp x0 x1:=by kernel_rfl
def qen:HA:=fun o vs objs K=>match vs,objs with
 | [.s (.str x0),.s (.str x1)],[]=>ob (qMp x0 x1) fun y0=>K false (.s (.i .i64 y0)) ([])
 | _,_=>o 110 vs objs K
def qSw (o:Orc):Orc:=qJ 110 (qen o) o
theorem qeq:OQ Tryz.prog qSw:=fun _ ho=>qL ho fun vs objs K r h=>by
 unfold qen at h
 split at h
 ·skip
  obtain ⟨t,h1,h2⟩:=qD h
  refine qX mixed qtX ((qtW _ _).trans h1) (by kernel_rfl) fun v objs' hd=>?_
  unfold qep at hd;split at hd;(cases hd;exact h2);cases hd
 ·exact ho _ _ _ _ _ h
def qSt:Ex->List V->List Obj->Option (Int):=fun e vs objs=>match e,vs,objs with
 | .ret,[.s (.i .i64 y0)],[]=>some (y0)
 | _,_,_=>none
def qSv:HL:=fun vs objs K=>match vs,objs with
 | [.s (.str x0),.s (.str x1),.s (.i .i64 x2)],[]=>ob (qMo qB x0 x1 x2) fun y0=>K (.ret) ([.s (.i .i64 y0)]) ([])
 | _,_=>none
def qtT:{R:Type}->Nat->List V->List Obj->(Ex->List V->List Obj->Option R)->Option R:=fun q vs objs K=>bif Nat.beq q 6 then qSv vs objs K else none
def qMn:Ctx:=mkC 34 ((qSw (qTN qI))) [(6,[0,1,5],[4])] qtT
theorem qei:CtxOK Tryz.prog qMn:=mkC_ok ((qeq _ (qff _ qK)))
def qSu (f:Nat) (x0 x1:ByteArray) (x2:Int):Option (Int):=qe qMn 0 [0,1,5] [4] (qE Tryz.f109 6) f ([.s (.str x0),.s (.str x1),.s (.i .i64 x2)]) ([]) qSt
theorem qtS (f:Nat) (x0 x1:ByteArray) (x2:Int):qSu (f+1) x0 x1 x2=qel (qSu f) x0 x1 x2:=by kernel_rfl
theorem qek:∀ f,qSu f=qMo f
 | 0=>rfl
 | f+1=>by funext x0 x1 x2; rw [qtS,qek f]; rfl
theorem qtV:qa Tryz.prog qMn 0 (qE Tryz.f109 6):=
 qg mixed qei (qM.of (l':=[]) (by kernel_rfl) trivial) (q:=6) (kin:=[0,1,5]) (kout:=[4]) (by kernel_rfl) (by kernel_rfl) fun vs objs K r h=>by
  replace h:qSv vs objs K=some r:=h
  unfold qSv at h
  split at h
  ·skip
   obtain ⟨t,h1,h2⟩:=qD h
   rw [<- qek] at h1
   refine ⟨_,qSt,t,qB,h1,fun e vs' objs' hd=>?_⟩
   unfold qSt at hd;split at hd;(cases hd;exact h2);cases hd
  ·cases h
def qej:V->List Obj->Option (Int):=fun v objs=>match v,objs with
 | .s (.i .i64 y0),[]=>some (y0)
 | _,_=>none
theorem qtR (x0 x1:ByteArray):fnE qMn Tryz.f109 ([.s (.str x0),.s (.str x1)]) ([]) qej=qSs x0 x1:=by kernel_rfl
def qeh:HA:=fun o vs objs K=>match vs,objs with
 | [.s (.str x0),.s (.str x1)],[]=>ob (qSs x0 x1) fun y0=>K false (.s (.i .i64 y0)) ([])
 | _,_=>o 109 vs objs K
def qem (o:Orc):Orc:=qJ 109 (qeh o) o
theorem qtU:OQ Tryz.prog qem:=fun _ ho=>qL ho fun vs objs K r h=>by
 unfold qeh at h
 split at h
 ·skip
  obtain ⟨t,h1,h2⟩:=qD h
  refine q7 mixed qei (fn:=Tryz.f109) (b:=(Tryz.f109).body.getD .skip) (by kernel_rfl) (by kernel_rfl) (by kernel_rfl) ((qtR _ _).trans h1) (m:=0) rfl (qM.of (l':=[qE Tryz.f109 6]) (by kernel_rfl) ⟨qtV,trivial⟩) fun v objs' hd=>?_
  unfold qej at hd;split at hd;(cases hd;exact h2);cases hd
 ·exact ho _ _ _ _ _ h
def qS3:Ex->List V->List Obj->Option (ByteArray×Nat×Int×Nat×LL):=fun e vs objs=>match e,vs,objs with
 | .exit 0,[.s (.str y0),.s (.sl 0 0 y1 true),.s (.i .i64 y2)],[.sli 9 false (.rows [CK.s] y3 y4)]=>some (y0,y1,y2,y3,y4)
 | _,_,_=>none
def qS5:HL:=fun vs objs K=>match vs,objs with
 | [.s (.str x0),.s (.str x1),.s (.i .i64 x2),.s (.i .i64 x3),.s (.sl 0 0 x4 true),.s (.i .i64 x5)],[.sli 9 false (.rows [CK.s] x6 x7)]=>ob (qJt qB x0 x1 x2 x3 x4 x5 x6 x7) fun z=>K (.exit 0) ([.s (.str (z.1)),.s (.sl 0 0 (z.2.1) true),.s (.i .i64 (z.2.2.1))]) ([.sli 9 false (.rows [CK.s] (z.2.2.2.1) (z.2.2.2.2))])
 | _,_=>none
def qtl:{R:Type}->Nat->List V->List Obj->(Ex->List V->List Obj->Option R)->Option R:=fun q vs objs K=>bif Nat.beq q 11 then qS5 vs objs K else none
def qMr:Ctx:=mkC 66 ((qSw (qem (qe3 qI)))) [(11,[0,1,2,3,9,10],[0,9,10])] qtl
theorem qe5:CtxOK Tryz.prog qMr:=mkC_ok ((qeq _ (qtU _ (qth _ qK))))
def qS4 (f:Nat) (x0 x1:ByteArray) (x2 x3:Int) (x4:Nat) (x5:Int) (x6:Nat) (x7:LL):Option (ByteArray×Nat×Int×Nat×LL):=qe qMr 0 [0,1,2,3,9,10] [0,9,10] (qE Tryz.f79 11) f ([.s (.str x0),.s (.str x1),.s (.i .i64 x2),.s (.i .i64 x3),.s (.sl 0 0 x4 true),.s (.i .i64 x5)]) ([.sli 9 false (.rows [CK.s] x6 x7)]) qS3
theorem qtk (f:Nat) (x0 x1:ByteArray) (x2 x3:Int) (x4:Nat) (x5:Int) (x6:Nat) (x7:LL):qS4 (f+1) x0 x1 x2 x3 x4 x5 x6 x7=qe8 (qS4 f) x0 x1 x2 x3 x4 x5 x6 x7:=by kernel_rfl
theorem qe7:∀ f,qS4 f=qJt f
 | 0=>rfl
 | f+1=>by funext x0 x1 x2 x3 x4 x5 x6 x7; rw [qtk,qe7 f]; rfl
theorem qtn:qa Tryz.prog qMr 0 (qE Tryz.f79 11):=
 qg mixed qe5 (qM.of (l':=[]) (by kernel_rfl) trivial) (q:=11) (kin:=[0,1,2,3,9,10]) (kout:=[0,9,10]) (by kernel_rfl) (by kernel_rfl) fun vs objs K r h=>by
  replace h:qS5 vs objs K=some r:=h
  unfold qS5 at h
  split at h
  ·skip
   obtain ⟨t,h1,h2⟩:=qD h
   rw [<- qe7] at h1
   refine ⟨_,qS3,t,qB,h1,fun e vs' objs' hd=>?_⟩
   unfold qS3 at hd;split at hd;(cases hd;exact h2);cases hd
  ·cases h
def qe6:V->List Obj->Option (Nat×Nat×LL):=fun v objs=>match v,objs with
 | .s (.sl 0 0 y0 true),[.sli 9 false (.rows [CK.s] y1 y2)]=>some (y0,y1,y2)
 | _,_=>none
theorem qtj (x0 x1:ByteArray) (x2 x3:Int):fnE qMr Tryz.f79 ([.s (.str x0),.s (.str x1),.s (.i .i64 x2),.s (.i .i64 x3)]) ([]) qe6=qS2 x0 x1 x2 x3:=by kernel_rfl
def qe4:HA:=fun o vs objs K=>match vs,objs with
 | [.s (.str x0),.s (.str x1),.s (.i .i64 x2),.s (.i .i64 x3)],[]=>ob (qS2 x0 x1 x2 x3) fun z=>K false (.s (.sl 0 0 (z.1) true)) ([.sli 9 false (.rows [CK.s] (z.2.1) (z.2.2))])
 | _,_=>o 79 vs objs K
def qe9 (o:Orc):Orc:=qJ 79 (qe4 o) o
theorem qtm:OQ Tryz.prog qe9:=fun _ ho=>qL ho fun vs objs K r h=>by
 unfold qe4 at h
 split at h
 ·skip
  obtain ⟨t,h1,h2⟩:=qD h
  refine q7 mixed qe5 (fn:=Tryz.f79) (b:=(Tryz.f79).body.getD .skip) (by kernel_rfl) (by kernel_rfl) (by kernel_rfl) ((qtj _ _ _ _).trans h1) (m:=0) rfl (qM.of (l':=[qE Tryz.f79 11]) (by kernel_rfl) ⟨qtn,trivial⟩) fun v objs' hd=>?_
  unfold qe6 at hd;split at hd;(cases hd;exact h2);cases hd
 ·exact ho _ _ _ _ _ h
def qev:Ctx:=mkC 8 ((qe9 qI)) [] qU
theorem qtc:CtxOK Tryz.prog qev:=mkC_ok ((qtm _ qK))
def qew:V->List Obj->Option (Nat×Nat×LL):=fun v objs=>match v,objs with
 | .s (.sl 0 0 y0 true),[.sli 9 false (.rows [CK.s] y1 y2)]=>some (y0,y1,y2)
 | _,_=>none
theorem qtb (x0 x1:ByteArray):fnE qev Tryz.f36 ([.s (.str x0),.s (.str x1)]) ([]) qew=qSx x0 x1:=by kernel_rfl
def qeu:HA:=fun o vs objs K=>match vs,objs with
 | [.s (.str x0),.s (.str x1)],[]=>ob (qSx x0 x1) fun z=>K false (.s (.sl 0 0 (z.1) true)) ([.sli 9 false (.rows [CK.s] (z.2.1) (z.2.2))])
 | _,_=>o 36 vs objs K
def qex (o:Orc):Orc:=qJ 36 (qeu o) o
theorem qtd:OQ Tryz.prog qex:=fun _ ho=>qL ho fun vs objs K r h=>by
 unfold qeu at h
 split at h
 ·skip
  obtain ⟨t,h1,h2⟩:=qD h
  refine qX mixed qtc ((qtb _ _).trans h1) (by kernel_rfl) fun v objs' hd=>?_
  unfold qew at hd;split at hd;(cases hd;exact h2);cases hd
 ·exact ho _ _ _ _ _ h
def qQR:Ex->List V->List Obj->Option ((Int) ⊕ (Unit)):=fun e vs objs=>match e,vs,objs with
 | .ret,[.s (.i .i8 y0)],[]=>some (.inl (y0))
 | .exit 0,[.s .bad],[]=>some (.inr ())
 | _,_,_=>none
def qQT:HL:=fun vs objs K=>match vs,objs with
 | [.s (.i .i32 x0),.s (.b x1),.s (.i .i64 x2),.s (S.it 0)],[Obj.iter x3 x4]=>ob (qHp qB x0 x1 x2 x3 x4) fun t0=>sw t0 (fun y0=>K (.ret) ([.s (.i .i8 y0)]) ([])) (fun _=>K (.exit 0) ([.s .bad]) ([]))
 | _,_=>none
def qoB:{R:Type}->Nat->List V->List Obj->(Ex->List V->List Obj->Option R)->Option R:=fun q vs objs K=>bif Nat.beq q 6 then qQT vs objs K else none
def qLk:Ctx:=mkC 34 ((qDi (qJO qI))) [(6,[0,1,5,16],[4])] qoB
theorem qZf:CtxOK Tryz.prog qLk:=mkC_ok ((qES _ (qLn _ qK)))
def qQS (f:Nat) (x0:Int) (x1:Bool) (x2:Int) (x3:ByteArray) (x4:Nat):Option ((Int) ⊕ (Unit)):=qe qLk 0 [0,1,5,16] [4] (qE Tryz.f80 6) f ([.s (.i .i32 x0),.s (.b x1),.s (.i .i64 x2),.s (S.it 0)]) ([Obj.iter x3 x4]) qQR
theorem qoA (f:Nat) (x0:Int) (x1:Bool) (x2:Int) (x3:ByteArray) (x4:Nat):qQS (f+1) x0 x1 x2 x3 x4=qZi (qQS f) x0 x1 x2 x3 x4:=by kernel_rfl
theorem qZh:∀ f,qQS f=qHp f
 | 0=>rfl
 | f+1=>by funext x0 x1 x2 x3 x4; rw [qoA,qZh f]; rfl
theorem qoD:qa Tryz.prog qLk 0 (qE Tryz.f80 6):=
 qg mixed qZf (qM.of (l':=[]) (by kernel_rfl) trivial) (q:=6) (kin:=[0,1,5,16]) (kout:=[4]) (by kernel_rfl) (by kernel_rfl) fun vs objs K r h=>by
  replace h:qQT vs objs K=some r:=h
  unfold qQT at h
  split at h
  ·skip
   obtain ⟨t,h1,h2⟩:=qD h
   rw [<- qZh] at h1
   refine ⟨_,qQR,t,qB,h1,fun e vs' objs' hd=>?_⟩
   unfold qQR at hd
   split at hd
   ·skip
    cases hd
    exact h2
   ·skip
    cases hd
    exact h2
   ·cases hd
  ·cases h
def qZg:V->List Obj->Option (Int):=fun v objs=>match v,objs with
 | .s (.i .i8 y0),[]=>some (y0)
 | _,_=>none
theorem qn9 (x0:Int) (x1:Bool):fnE qLk Tryz.f80 ([.s (.i .i32 x0),.s (.b x1)]) ([]) qZg=qJN x0 x1:=by kernel_rfl
def qZe:HA:=fun o vs objs K=>match vs,objs with
 | [.s (.i .i32 x0),.s (.b x1)],[]=>ob (qJN x0 x1) fun y0=>K false (.s (.i .i8 y0)) ([])
 | _,_=>o 80 vs objs K
def qZj (o:Orc):Orc:=qJ 80 (qZe o) o
theorem qoC:OQ Tryz.prog qZj:=fun _ ho=>qL ho fun vs objs K r h=>by
 unfold qZe at h
 split at h
 ·skip
  obtain ⟨t,h1,h2⟩:=qD h
  refine q7 mixed qZf (fn:=Tryz.f80) (b:=(Tryz.f80).body.getD .skip) (by kernel_rfl) (by kernel_rfl) (by kernel_rfl) ((qn9 _ _).trans h1) (m:=0) rfl (qM.of (l':=[qE Tryz.f80 6]) (by kernel_rfl) ⟨qoD,trivial⟩) fun v objs' hd=>?_
  unfold qZg at hd;split at hd;(cases hd;exact h2);cases hd
 ·exact ho _ _ _ _ _ h
def qY4:Ctx:=mkC 17 ((set_Squareo qI)) [] qU
theorem qme:CtxOK Tryz.prog qY4:=mkC_ok ((set_Squareo_ok _ qK))
def qY5:V->List Obj->Option (Int×Bool):=fun v objs=>match v,objs with
 | .tup [W.s (.i .i64 y0),W.s (.b y1)],[]=>some (y0,y1)
 | _,_=>none
theorem qmd (x0 x1:Int):fnE qY4 Tryz.f81 ([.s (.i .i32 x0),.s (.i .i32 x1)]) ([]) qY5=qER x0 x1:=by kernel_rfl
def qY3:HA:=fun o vs objs K=>match vs,objs with
 | [.s (.i .i32 x0),.s (.i .i32 x1)],[]=>ob (qER x0 x1) fun z=>K false (.tup [W.s (.i .i64 (z.1)),W.s (.b (z.2))]) ([])
 | _,_=>o 81 vs objs K
def qY6 (o:Orc):Orc:=qJ 81 (qY3 o) o
theorem qmf:OQ Tryz.prog qY6:=fun _ ho=>qL ho fun vs objs K r h=>by
 unfold qY3 at h
 split at h
 ·skip
  obtain ⟨t,h1,h2⟩:=qD h
  refine qX mixed qme ((qmd _ _).trans h1) (by kernel_rfl) fun v objs' hd=>?_
  unfold qY5 at hd;split at hd;(cases hd;exact h2);cases hd
 ·exact ho _ _ _ _ _ h
def qP7:Ex->List V->List Obj->Option (Nat×Int×Int×Int×Bool×Nat×LI):=fun e vs objs=>match e,vs,objs with
 | .exit 0,[.s (.ptr 0 0 none 0),.s (.sl 1 0 y0 true)],[.cells 37 [.one [.i .i64 y1,.i .i64 y2,.i .i64 y3,.b y4]],.sli 21 false (.arr .i32 y5 y6)]=>some (y0,y1,y2,y3,y4,y5,y6)
 | _,_,_=>none
def qP9:HL:=fun vs objs K=>match vs,objs with
 | [.s (.ptr 0 0 none 0),.s (.sl 1 0 x0 true),.s (S.it 2)],[.cells 37 [.one [.i .i64 x1,.i .i64 x2,.i .i64 x3,.b x4]],.sli 21 false (.arr .i32 x5 x6),Obj.iter x7 x8]=>ob (qEQ qB x0 x1 x2 x3 x4 x5 x6 x7 x8) fun z=>K (.exit 0) ([.s (.ptr 0 0 none 0),.s (.sl 1 0 (z.1) true)]) ([.cells 37 [.one [.i .i64 (z.2.1),.i .i64 (z.2.2.1),.i .i64 (z.2.2.2.1),.b (z.2.2.2.2.1)]],.sli 21 false (.arr .i32 (z.2.2.2.2.2.1) (z.2.2.2.2.2.2))])
 | _,_=>none
def qmU:{R:Type}->Nat->List V->List Obj->(Ex->List V->List Obj->Option R)->Option R:=fun q vs objs K=>bif Nat.beq q 3 then qP9 vs objs K else none
def qLU:Ctx:=mkC 127 ((qDj (qY6 (qZj qI)))) [(3,[2,4,16],[2,4])] qmU
theorem qYr:CtxOK Tryz.prog qLU:=mkC_ok ((qET _ (qmf _ (qoC _ qK))))
def qP8 (f:Nat) (x0:Nat) (x1 x2 x3:Int) (x4:Bool) (x5:Nat) (x6:LI) (x7:ByteArray) (x8:Nat):Option (Nat×Int×Int×Int×Bool×Nat×LI):=qe qLU 0 [2,4,16] [2,4] (qE Tryz.f37 3) f ([.s (.ptr 0 0 none 0),.s (.sl 1 0 x0 true),.s (S.it 2)]) ([.cells 37 [.one [.i .i64 x1,.i .i64 x2,.i .i64 x3,.b x4]],.sli 21 false (.arr .i32 x5 x6),Obj.iter x7 x8]) qP7
theorem qmT (f:Nat) (x0:Nat) (x1 x2 x3:Int) (x4:Bool) (x5:Nat) (x6:LI) (x7:ByteArray) (x8:Nat):qP8 (f+1) x0 x1 x2 x3 x4 x5 x6 x7 x8=qHj (qP8 f) x0 x1 x2 x3 x4 x5 x6 x7 x8:=by kernel_rfl
theorem qYt:∀ f,qP8 f=qEQ f
 | 0=>rfl
 | f+1=>by funext x0 x1 x2 x3 x4 x5 x6 x7 x8; rw [qmT,qYt f]; rfl
theorem qmW:qa Tryz.prog qLU 0 (qE Tryz.f37 3):=
 qg mixed qYr (qM.of (l':=[]) (by kernel_rfl) trivial) (q:=3) (kin:=[2,4,16]) (kout:=[2,4]) (by kernel_rfl) (by kernel_rfl) fun vs objs K r h=>by
  replace h:qP9 vs objs K=some r:=h
  unfold qP9 at h
  split at h
  ·skip
   obtain ⟨t,h1,h2⟩:=qD h
   rw [<- qYt] at h1
   refine ⟨_,qP7,t,qB,h1,fun e vs' objs' hd=>?_⟩
   unfold qP7 at hd;split at hd;(cases hd;exact h2);cases hd
  ·cases h
def qYs:V->List Obj->Option (Int×Int×Int×Bool×Int):=fun v objs=>match v,objs with
 | .tup [W.agg [.one [.i .i64 y0,.i .i64 y1,.i .i64 y2,.b y3]],W.s (.i .i64 y4)],[]=>some (y0,y1,y2,y3,y4)
 | _,_=>none
theorem qmS (x0:ByteArray):fnE qLU Tryz.f37 ([.s (.str x0)]) ([]) qYs=qFP x0:=by kernel_rfl
def qYq:HA:=fun o vs objs K=>match vs,objs with
 | [.s (.str x0)],[]=>ob (qFP x0) fun z=>K false (.tup [W.agg [.one [.i .i64 (z.1),.i .i64 (z.2.1),.i .i64 (z.2.2.1),.b (z.2.2.2.1)]],W.s (.i .i64 (z.2.2.2.2))]) ([])
 | _,_=>o 37 vs objs K
def qYu (o:Orc):Orc:=qJ 37 (qYq o) o
theorem qmV:OQ Tryz.prog qYu:=fun _ ho=>qL ho fun vs objs K r h=>by
 unfold qYq at h
 split at h
 ·skip
  obtain ⟨t,h1,h2⟩:=qD h
  refine q7 mixed qYr (fn:=Tryz.f37) (b:=(Tryz.f37).body.getD .skip) (by kernel_rfl) (by kernel_rfl) (by kernel_rfl) ((qmS _).trans h1) (m:=0) rfl (qM.of (l':=[qE Tryz.f37 3]) (by kernel_rfl) ⟨qmW,trivial⟩) fun v objs' hd=>?_
  unfold qYs at hd;split at hd;(cases hd;exact h2);cases hd
 ·exact ho _ _ _ _ _ h
def qPk:Ex->List V->List Obj->Option ((Nat×Int×Int×Nat×Nat×LL×Nat×LL) ⊕ (Nat×Nat×LL)):=fun e vs objs=>match e,vs,objs with
 | .ret,[.s (.sl 0 0 y0 true),.s (.i .i64 y1),.s (.i .i64 y2),.s (.sl 1 0 y3 true)],[.sli 37 false (.rows [.i .i64,.i .i64,.i .i64,.b] y4 y5),.sli 37 false (.rows [.i .i64,.i .i64,.i .i64,.b] y6 y7)]=>some (.inl (y0,y1,y2,y3,y4,y5,y6,y7))
 | .exit 0,[.s .bad,.s .bad,.s .bad,.s (.sl 0 0 y0 true)],[.sli 37 false (.rows [.i .i64,.i .i64,.i .i64,.b] y1 y2)]=>some (.inr (y0,y1,y2))
 | _,_,_=>none
def qPm:HL:=fun vs objs K=>match vs,objs with
 | [.s (.sl 0 0 x0 true),.s (.sl 1 0 x1 true),.s (.i .i64 x2),.s (.i .i64 x3)],[.sli 37 false (.rows [.i .i64,.i .i64,.i .i64,.b] x4 x5),.sli 9 false (.rows [CK.s] x6 x7)]=>ob (qLD qB x0 x1 x2 x3 x4 x5 x6 x7) fun t0=>sw t0 (fun z=>K (.ret) ([.s (.sl 0 0 (z.1) true),.s (.i .i64 (z.2.1)),.s (.i .i64 (z.2.2.1)),.s (.sl 1 0 (z.2.2.2.1) true)]) ([.sli 37 false (.rows [.i .i64,.i .i64,.i .i64,.b] (z.2.2.2.2.1) (z.2.2.2.2.2.1)),.sli 37 false (.rows [.i .i64,.i .i64,.i .i64,.b] (z.2.2.2.2.2.2.1) (z.2.2.2.2.2.2.2))])) (fun z=>K (.exit 0) ([.s .bad,.s .bad,.s .bad,.s (.sl 0 0 (z.1) true)]) ([.sli 37 false (.rows [.i .i64,.i .i64,.i .i64,.b] (z.2.1) (z.2.2))]))
 | _,_=>none
def qli:{R:Type}->Nat->List V->List Obj->(Ex->List V->List Obj->Option R)->Option R:=fun q vs objs K=>bif Nat.beq q 5 then qPm vs objs K else none
def qLC:Ctx:=mkC 37 ((qYu (qex qI))) [(5,[5,13,14,15],[2,3,4,5])] qli
theorem qX7:CtxOK Tryz.prog qLC:=mkC_ok ((qmV _ (qtd _ qK)))
def qPl (f:Nat) (x0 x1:Nat) (x2 x3:Int) (x4:Nat) (x5:LL) (x6:Nat) (x7:LL):Option ((Nat×Int×Int×Nat×Nat×LL×Nat×LL) ⊕ (Nat×Nat×LL)):=qe qLC 0 [5,13,14,15] [2,3,4,5] (qE Tryz.f15 5) f ([.s (.sl 0 0 x0 true),.s (.sl 1 0 x1 true),.s (.i .i64 x2),.s (.i .i64 x3)]) ([.sli 37 false (.rows [.i .i64,.i .i64,.i .i64,.b] x4 x5),.sli 9 false (.rows [CK.s] x6 x7)]) qPk
theorem qlh (f:Nat) (x0 x1:Nat) (x2 x3:Int) (x4:Nat) (x5:LL) (x6:Nat) (x7:LL):qPl (f+1) x0 x1 x2 x3 x4 x5 x6 x7=qYA (qPl f) x0 x1 x2 x3 x4 x5 x6 x7:=by kernel_rfl
theorem qX9:∀ f,qPl f=qLD f
 | 0=>rfl
 | f+1=>by funext x0 x1 x2 x3 x4 x5 x6 x7; rw [qlh,qX9 f]; rfl
theorem qlk:qa Tryz.prog qLC 0 (qE Tryz.f15 5):=
 qg mixed qX7 (qM.of (l':=[]) (by kernel_rfl) trivial) (q:=5) (kin:=[5,13,14,15]) (kout:=[2,3,4,5]) (by kernel_rfl) (by kernel_rfl) fun vs objs K r h=>by
  replace h:qPm vs objs K=some r:=h
  unfold qPm at h
  split at h
  ·skip
   obtain ⟨t,h1,h2⟩:=qD h
   rw [<- qX9] at h1
   refine ⟨_,qPk,t,qB,h1,fun e vs' objs' hd=>?_⟩
   unfold qPk at hd
   split at hd
   ·skip
    cases hd
    exact h2
   ·skip
    cases hd
    exact h2
   ·cases hd
  ·cases h
def qX8:V->List Obj->Option (Nat×Int×Int×Nat×LL):=fun v objs=>match v,objs with
 | .tup [W.s (.sl 0 0 y0 true),W.s (.i .i64 y1),W.s (.i .i64 y2)],[.sli 37 false (.rows [.i .i64,.i .i64,.i .i64,.b] y3 y4)]=>some (y0,y1,y2,y3,y4)
 | _,_=>none
theorem qlg (x0:ByteArray):fnE qLC Tryz.f15 ([.s (.str x0)]) ([]) qX8=qPj x0:=by kernel_rfl
def qX6:HA:=fun o vs objs K=>match vs,objs with
 | [.s (.str x0)],[]=>ob (qPj x0) fun z=>K false (.tup [W.s (.sl 0 0 (z.1) true),W.s (.i .i64 (z.2.1)),W.s (.i .i64 (z.2.2.1))]) ([.sli 37 false (.rows [.i .i64,.i .i64,.i .i64,.b] (z.2.2.2.1) (z.2.2.2.2))])
 | _,_=>o 15 vs objs K
def qYB (o:Orc):Orc:=qJ 15 (qX6 o) o
theorem qlj:OQ Tryz.prog qYB:=fun _ ho=>qL ho fun vs objs K r h=>by
 unfold qX6 at h
 split at h
 ·skip
  obtain ⟨t,h1,h2⟩:=qD h
  refine q7 mixed qX7 (fn:=Tryz.f15) (b:=(Tryz.f15).body.getD .skip) (by kernel_rfl) (by kernel_rfl) (by kernel_rfl) ((qlg _).trans h1) (m:=0) rfl (qM.of (l':=[qE Tryz.f15 5]) (by kernel_rfl) ⟨qlk,trivial⟩) fun v objs' hd=>?_
  unfold qX8 at hd;split at hd;(cases hd;exact h2);cases hd
 ·exact ho _ _ _ _ _ h
def qZY:Ctx:=mkC 25 ((qDj (qLl (qCr qI)))) [] qU
theorem qn5:CtxOK Tryz.prog qZY:=mkC_ok ((qET _ (qQU _ (qDC _ qK))))
def qZZ:V->List Obj->Option (ByteArray):=fun v objs=>match v,objs with
 | .s (.str y0),[]=>some (y0)
 | _,_=>none
theorem qn4 (x0:Int):fnE qZY Tryz.f74 ([.s (.i .i8 x0)]) ([]) qZZ=qLj x0:=by kernel_rfl
def qZX:HA:=fun o vs objs K=>match vs,objs with
 | [.s (.i .i8 x0)],[]=>ob (qLj x0) fun y0=>K false (.s (.str y0)) ([])
 | _,_=>o 74 vs objs K
def qZa (o:Orc):Orc:=qJ 74 (qZX o) o
theorem qn6:OQ Tryz.prog qZa:=fun _ ho=>qL ho fun vs objs K r h=>by
 unfold qZX at h
 split at h
 ·skip
  obtain ⟨t,h1,h2⟩:=qD h
  refine qX mixed qn5 ((qn4 _).trans h1) (by kernel_rfl) fun v objs' hd=>?_
  unfold qZZ at hd;split at hd;(cases hd;exact h2);cases hd
 ·exact ho _ _ _ _ _ h
def qYw:Ctx:=mkC 19 ((qMX (qMR qI))) [] qU
theorem qmY:CtxOK Tryz.prog qYw:=mkC_ok ((qSO _ (qSE _ qK)))
def qYx:V->List Obj->Option (ByteArray):=fun v objs=>match v,objs with
 | .s (.str y0),[]=>some (y0)
 | _,_=>none
theorem qmX (x0:Int):fnE qYw Tryz.f75 ([.s (.i .i64 x0)]) ([]) qYx=qFQ x0:=by kernel_rfl
def qYv:HA:=fun o vs objs K=>match vs,objs with
 | [.s (.i .i64 x0)],[]=>ob (qFQ x0) fun y0=>K false (.s (.str y0)) ([])
 | _,_=>o 75 vs objs K
def qYy (o:Orc):Orc:=qJ 75 (qYv o) o
theorem qmZ:OQ Tryz.prog qYy:=fun _ ho=>qL ho fun vs objs K r h=>by
 unfold qYv at h
 split at h
 ·skip
  obtain ⟨t,h1,h2⟩:=qD h
  refine qX mixed qmY ((qmX _).trans h1) (by kernel_rfl) fun v objs' hd=>?_
  unfold qYx at hd;split at hd;(cases hd;exact h2);cases hd
 ·exact ho _ _ _ _ _ h
def qY0:Ctx:=mkC 38 ((qYy (qZa (qDi (qP6 qI))))) [] qU
theorem qmb:CtxOK Tryz.prog qY0:=mkC_ok ((qmZ _ (qn6 _ (qES _ (qYp _ qK)))))
def qY1:V->List Obj->Option (ByteArray):=fun v objs=>match v,objs with
 | .s (.str y0),[]=>some (y0)
 | _,_=>none
theorem qma (x0 x1 x2:Int) (x3:Bool):fnE qY0 Tryz.f34 ([.agg [.one [.i .i64 x0,.i .i64 x1,.i .i64 x2,.b x3]]]) ([]) qY1=qHk x0 x1 x2 x3:=by kernel_rfl
def qYz:HA:=fun o vs objs K=>match vs,objs with
 | [.agg [.one [.i .i64 x0,.i .i64 x1,.i .i64 x2,.b x3]]],[]=>ob (qHk x0 x1 x2 x3) fun y0=>K false (.s (.str y0)) ([])
 | _,_=>o 34 vs objs K
def qY2 (o:Orc):Orc:=qJ 34 (qYz o) o
theorem qmc:OQ Tryz.prog qY2:=fun _ ho=>qL ho fun vs objs K r h=>by
 unfold qYz at h
 split at h
 ·skip
  obtain ⟨t,h1,h2⟩:=qD h
  refine qX mixed qmb ((qma _ _ _ _).trans h1) (by kernel_rfl) fun v objs' hd=>?_
  unfold qY1 at hd;split at hd;(cases hd;exact h2);cases hd
 ·exact ho _ _ _ _ _ h
def qtZ:Ctx:=mkC 75 (qI) [] qU
theorem quf:CtxOK Tryz.prog qtZ:=mkC_ok (qK)
def qes:V->List Obj->Option (ByteArray):=fun v objs=>match v,objs with
 | .s (.str y0),[]=>some (y0)
 | _,_=>none
theorem qtY (x0:Nat) (x1:ByteArray) (x2:Nat) (x3:LL):qJ0 35 ([.s (.sl 0 0 x0 true),.s (.str x1)]) ([.sli 9 true (.rows [CK.s] x2 x3)]) (qAK 1 qes)=strings_Join x0 x1 x2 x3:=by kernel_rfl
def qer:HA:=fun o vs objs K=>match vs,List.map Obj.toRO objs with
 | [.s (.sl 0 0 x0 true),.s (.str x1)],[.sli 9 true (.rows [CK.s] x2 x3)]=>ob (strings_Join x0 x1 x2 x3) fun y0=>K true (.s (.str y0)) ([])
 | _,_=>o 35 vs objs K
def qet (o:Orc):Orc:=qJ 35 (qer o) o
theorem qta:OQ Tryz.prog qet:=fun _ ho=>qL ho fun vs objs K r h=>by
 unfold qer at h
 split at h
 ·skip
  have hq:List.map Obj.toRO objs=_:=(by rename_i hq; first | exact hq | assumption)
  obtain ⟨t,h1,h2⟩:=qD h
  refine qt6 told_ok (f:=35) (by rfl) (m:=1) hq (by kernel_rfl) (by kernel_rfl) ((qtY _ _ _ _).trans h1) fun v objs' hd=>?_
  unfold qes at hd;split at hd;(cases hd;exact h2);cases hd
 ·exact ho _ _ _ _ _ h
def qPv:Ex->List V->List Obj->Option (Nat×Nat×LL×Nat×LL):=fun e vs objs=>match e,vs,objs with
 | .exit 0,[.s (.sl 1 0 y0 true)],[.sli 37 true (.rows [.i .i64,.i .i64,.i .i64,.b] y1 y2),.sli 9 false (.rows [CK.s] y3 y4)]=>some (y0,y1,y2,y3,y4)
 | _,_,_=>none
def qPx:HL:=fun vs objs K=>match vs,objs with
 | [.s (.sl 1 0 x0 true),.s (.sl 0 0 x1 true),.s (.i .i64 x2),.s (.i .i64 x3)],[.sli 37 true (.rows [.i .i64,.i .i64,.i .i64,.b] x4 x5),.sli 9 false (.rows [CK.s] x6 x7)]=>ob (qLJ qB x0 x1 x2 x3 x4 x5 x6 x7) fun z=>K (.exit 0) ([.s (.sl 1 0 (z.1) true)]) ([.sli 37 true (.rows [.i .i64,.i .i64,.i .i64,.b] (z.2.1) (z.2.2.1)),.sli 9 false (.rows [CK.s] (z.2.2.2.1) (z.2.2.2.2))])
 | _,_=>none
def qlx:{R:Type}->Nat->List V->List Obj->(Ex->List V->List Obj->Option R)->Option R:=fun q vs objs K=>bif Nat.beq q 3 then qPx vs objs K else none
def qLI:Ctx:=mkC 20 ((qet (qY2 qI))) [(3,[3,6,7,8],[3])] qlx
theorem qYO:CtxOK Tryz.prog qLI:=mkC_ok ((qta _ (qmc _ qK)))
def qPw (f:Nat) (x0 x1:Nat) (x2 x3:Int) (x4:Nat) (x5:LL) (x6:Nat) (x7:LL):Option (Nat×Nat×LL×Nat×LL):=qe qLI 1 [3,6,7,8] [3] (qE Tryz.f14 3) f ([.s (.sl 1 0 x0 true),.s (.sl 0 0 x1 true),.s (.i .i64 x2),.s (.i .i64 x3)]) ([.sli 37 true (.rows [.i .i64,.i .i64,.i .i64,.b] x4 x5),.sli 9 false (.rows [CK.s] x6 x7)]) qPv
theorem qlw (f:Nat) (x0 x1:Nat) (x2 x3:Int) (x4:Nat) (x5:LL) (x6:Nat) (x7:LL):qPw (f+1) x0 x1 x2 x3 x4 x5 x6 x7=qYR (qPw f) x0 x1 x2 x3 x4 x5 x6 x7:=by kernel_rfl
theorem qYQ:∀ f,qPw f=qLJ f
 | 0=>rfl
 | f+1=>by funext x0 x1 x2 x3 x4 x5 x6 x7; rw [qlw,qYQ f]; rfl
theorem qlz:qa Tryz.prog qLI 1 (qE Tryz.f14 3):=
 qg mixed qYO (qM.of (l':=[]) (by kernel_rfl) trivial) (q:=3) (kin:=[3,6,7,8]) (kout:=[3]) (by kernel_rfl) (by kernel_rfl) fun vs objs K r h=>by
  replace h:qPx vs objs K=some r:=h
  unfold qPx at h
  split at h
  ·skip
   obtain ⟨t,h1,h2⟩:=qD h
   rw [<- qYQ] at h1
   refine ⟨_,qPv,t,qB,h1,fun e vs' objs' hd=>?_⟩
   unfold qPv at hd;split at hd;(cases hd;exact h2);cases hd
  ·cases h
def qYP:V->List Obj->Option (ByteArray):=fun v objs=>match v,objs with
 | .s (.str y0),[]=>some (y0)
 | _,_=>none
theorem qlv (x0 x1:Nat) (x2:LL):fnE qLI Tryz.f14 ([.s (.sl 0 0 x0 true)]) ([.sli 37 true (.rows [.i .i64,.i .i64,.i .i64,.b] x1 x2)]) (qAK 1 qYP)=qPu x0 x1 x2:=by kernel_rfl
def qYN:HA:=fun o vs objs K=>match vs,List.map Obj.toRO objs with
 | [.s (.sl 0 0 x0 true)],[.sli 37 true (.rows [.i .i64,.i .i64,.i .i64,.b] x1 x2)]=>ob (qPu x0 x1 x2) fun y0=>K true (.s (.str y0)) ([])
 | _,_=>o 14 vs objs K
def qYS (o:Orc):Orc:=qJ 14 (qYN o) o
theorem qly:OQ Tryz.prog qYS:=fun _ ho=>qL ho fun vs objs K r h=>by
 unfold qYN at h
 split at h
 ·skip
  have hq:List.map Obj.toRO objs=_:=(by rename_i hq; first | exact hq | assumption)
  obtain ⟨t,h1,h2⟩:=qD h
  refine qAc mixed qYO (m:=1) (fn:=Tryz.f14) (b:=(Tryz.f14).body.getD .skip) (by kernel_rfl) (by kernel_rfl) (by kernel_rfl) hq (by kernel_rfl) (by kernel_rfl) (qM.of (l':=[qE Tryz.f14 3]) (by kernel_rfl) ⟨qlz,trivial⟩) ((qlv _ _ _).trans h1) fun v objs' hd=>?_
  unfold qYP at hd;split at hd;(cases hd;exact h2);cases hd
 ·exact ho _ _ _ _ _ h
def qXY:Ctx:=mkC 46 ((qYS (qYB (qYM (qUs qI))))) [] qU
theorem qXZ:CtxOK Tryz.prog qXY:=mkC_ok ((qly _ (qlj _ (qlt _ (qhi _ qK)))))
def qPO:V->List Obj->Option (Bool):=fun v objs=>match v,objs with
 | .s (.b y0),[]=>some (y0)
 | _,_=>none
theorem qXW:fnE qXY Tryz.f8 ([]) ([]) qPO=qJD  := by kernel_rfl
def qXX:HA:=fun o vs objs K=>match vs,objs with
 | [],[]=>ob (qJD ) fun y0=>K false (.s (.b y0)) ([])
 | _,_=>o 8 vs objs K
def qXa (o:Orc):Orc:=qJ 8 (qXX o) o
theorem que {vs:List V} {objs:List Obj} {R:Type} {K:Bool->V->List Obj->Option R} {r:R} (hv:vs=[]) (ho:objs=[]) (h:ob (qJD ) (fun y0=>K false (.s (.b y0)) ([]))=some r):
  ∃ p v objs',K p v objs'=some r /\ qDO Tryz.prog 8 vs objs p v objs':=by
 subst hv
 subst ho
 obtain ⟨t,h1,h2⟩:=qD h
 refine qX mixed qXZ ((qXW).trans h1) (by kernel_rfl) fun v objs' hd=>?_
 unfold qPO at hd;split at hd;(cases hd;exact h2);cases hd
theorem qlB:OQ Tryz.prog qXa:=fun _ ho=>qL ho fun vs objs K r h=>by
 unfold qXX at h
 split at h
 ·skip
  obtain ⟨t,h1,h2⟩:=qD h
  refine qX mixed qXZ ((qXW).trans h1) (by kernel_rfl) fun v objs' hd=>?_
  unfold qPO at hd;split at hd;(cases hd;exact h2);cases hd
 ·exact ho _ _ _ _ _ h
def qPo:Ex->List V->List Obj->Option ((Nat×Nat×Int×Int×Nat×LL×LI×LI×Int×Int×Nat×LI×LI×Int×LL×LL×Nat×LL) ⊕ (Nat×Nat×Nat×LL×LI×LI×Int×Int×Nat×LI×LI×Int×LL×LL×Nat×LL)):=fun e vs objs=>match e,vs,objs with
 | .ret,[.s (.sl 0 y0 y1 false),.s (.i .i64 y2),.s (.ptr 1 0 none 0),.s (.i .i64 y3),.s (.ptr 2 0 none 0)],[.sli 37 true (.rows [.i .i64,.i .i64,.i .i64,.b] y4 y5),.cells 28 [.arr .i8 81 y6,.arr .i8 16 y7,.one [.i .i8 y8]],.cells 66 [.one [.ptr 3 0 none 0,.i .u64 y9,.sl 4 0 y10 true]],.cells 72 [.arr .i8 81 y11,.arr .i8 16 y12,.one [.i .i8 y13],.rows [.i .u64,.i .u64] 32 y14,.rows [.i .u64,.i .u64] 2 y15],.sli 98 false (.rows [.i .i64,.i .i64,.i .i64,.b,.i .i8,.i .i8] y16 y17)]=>some (.inl (y0,y1,y2,y3,y4,y5,y6,y7,y8,y9,y10,y11,y12,y13,y14,y15,y16,y17))
 | .exit 0,[.s (.sl 0 y0 y1 false),.s .bad,.s (.ptr 1 0 none 0),.s .bad,.s (.ptr 2 0 none 0)],[.sli 37 true (.rows [.i .i64,.i .i64,.i .i64,.b] y2 y3),.cells 28 [.arr .i8 81 y4,.arr .i8 16 y5,.one [.i .i8 y6]],.cells 66 [.one [.ptr 3 0 none 0,.i .u64 y7,.sl 4 0 y8 true]],.cells 72 [.arr .i8 81 y9,.arr .i8 16 y10,.one [.i .i8 y11],.rows [.i .u64,.i .u64] 32 y12,.rows [.i .u64,.i .u64] 2 y13],.sli 98 false (.rows [.i .i64,.i .i64,.i .i64,.b,.i .i8,.i .i8] y14 y15)]=>some (.inr (y0,y1,y2,y3,y4,y5,y6,y7,y8,y9,y10,y11,y12,y13,y14,y15))
 | _,_,_=>none
def qPq:HL:=fun vs objs K=>match vs,objs with
 | [.s (.sl 0 x0 x1 false),.s (.ptr 1 0 none 0),.s (.ptr 2 0 none 0),.s (.sl 0 x2 x3 false),.s (.i .i64 x4),.s (.i .i64 x5)],[.sli 37 true (.rows [.i .i64,.i .i64,.i .i64,.b] x6 x7),.cells 28 [.arr .i8 81 x8,.arr .i8 16 x9,.one [.i .i8 x10]],.cells 66 [.one [.ptr 3 0 none 0,.i .u64 x11,.sl 4 0 x12 true]],.cells 72 [.arr .i8 81 x13,.arr .i8 16 x14,.one [.i .i8 x15],.rows [.i .u64,.i .u64] 32 x16,.rows [.i .u64,.i .u64] 2 x17],.sli 98 false (.rows [.i .i64,.i .i64,.i .i64,.b,.i .i8,.i .i8] x18 x19)]=>ob (qC9 qB x0 x1 x2 x3 x4 x5 x6 x7 x8 x9 x10 x11 x12 x13 x14 x15 x16 x17 x18 x19) fun t0=>sw t0 (fun z=>K (.ret) ([.s (.sl 0 (z.1) (z.2.1) false),.s (.i .i64 (z.2.2.1)),.s (.ptr 1 0 none 0),.s (.i .i64 (z.2.2.2.1)),.s (.ptr 2 0 none 0)]) ([.sli 37 true (.rows [.i .i64,.i .i64,.i .i64,.b] (z.2.2.2.2.1) (z.2.2.2.2.2.1)),.cells 28 [.arr .i8 81 (z.2.2.2.2.2.2.1),.arr .i8 16 (z.2.2.2.2.2.2.2.1),.one [.i .i8 (z.2.2.2.2.2.2.2.2.1)]],.cells 66 [.one [.ptr 3 0 none 0,.i .u64 (z.2.2.2.2.2.2.2.2.2.1),.sl 4 0 (z.2.2.2.2.2.2.2.2.2.2.1) true]],.cells 72 [.arr .i8 81 (z.2.2.2.2.2.2.2.2.2.2.2.1),.arr .i8 16 (z.2.2.2.2.2.2.2.2.2.2.2.2.1),.one [.i .i8 (z.2.2.2.2.2.2.2.2.2.2.2.2.2.1)],.rows [.i .u64,.i .u64] 32 (z.2.2.2.2.2.2.2.2.2.2.2.2.2.2.1),.rows [.i .u64,.i .u64] 2 (z.2.2.2.2.2.2.2.2.2.2.2.2.2.2.2.1)],.sli 98 false (.rows [.i .i64,.i .i64,.i .i64,.b,.i .i8,.i .i8] (z.2.2.2.2.2.2.2.2.2.2.2.2.2.2.2.2.1) (z.2.2.2.2.2.2.2.2.2.2.2.2.2.2.2.2.2))])) (fun z=>K (.exit 0) ([.s (.sl 0 (z.1) (z.2.1) false),.s .bad,.s (.ptr 1 0 none 0),.s .bad,.s (.ptr 2 0 none 0)]) ([.sli 37 true (.rows [.i .i64,.i .i64,.i .i64,.b] (z.2.2.1) (z.2.2.2.1)),.cells 28 [.arr .i8 81 (z.2.2.2.2.1),.arr .i8 16 (z.2.2.2.2.2.1),.one [.i .i8 (z.2.2.2.2.2.2.1)]],.cells 66 [.one [.ptr 3 0 none 0,.i .u64 (z.2.2.2.2.2.2.2.1),.sl 4 0 (z.2.2.2.2.2.2.2.2.1) true]],.cells 72 [.arr .i8 81 (z.2.2.2.2.2.2.2.2.2.1),.arr .i8 16 (z.2.2.2.2.2.2.2.2.2.2.1),.one [.i .i8 (z.2.2.2.2.2.2.2.2.2.2.2.1)],.rows [.i .u64,.i .u64] 32 (z.2.2.2.2.2.2.2.2.2.2.2.2.1),.rows [.i .u64,.i .u64] 2 (z.2.2.2.2.2.2.2.2.2.2.2.2.2.1)],.sli 98 false (.rows [.i .i64,.i .i64,.i .i64,.b,.i .i8,.i .i8] (z.2.2.2.2.2.2.2.2.2.2.2.2.2.2.1) (z.2.2.2.2.2.2.2.2.2.2.2.2.2.2.2))]))
 | _,_=>none
def qlo:{R:Type}->Nat->List V->List Obj->(Ex->List V->List Obj->Option R)->Option R:=fun q vs objs K=>bif Nat.beq q 6 then qPq vs objs K else none
def qLE:Ctx:=mkC 54 ((qOR (qPa (qOS (qNE qI))))) [(6,[1,5,8,19,20,21],[1,4,5,6,8])] qlo
theorem qYD:CtxOK Tryz.prog qLE:=mkC_ok ((qVb _ (qXl _ (qVr _ (qTl _ qK)))))
def qPp (f:Nat) (x0 x1:Nat) (x2 x3:Nat) (x4 x5:Int) (x6:Nat) (x7:LL) (x8 x9:LI) (x10 x11:Int) (x12:Nat) (x13 x14:LI) (x15:Int) (x16 x17:LL) (x18:Nat) (x19:LL):Option ((Nat×Nat×Int×Int×Nat×LL×LI×LI×Int×Int×Nat×LI×LI×Int×LL×LL×Nat×LL) ⊕ (Nat×Nat×Nat×LL×LI×LI×Int×Int×Nat×LI×LI×Int×LL×LL×Nat×LL)):=qe qLE 1 [1,5,8,19,20,21] [1,4,5,6,8] (qE Tryz.f9 6) f ([.s (.sl 0 x0 x1 false),.s (.ptr 1 0 none 0),.s (.ptr 2 0 none 0),.s (.sl 0 x2 x3 false),.s (.i .i64 x4),.s (.i .i64 x5)]) ([.sli 37 true (.rows [.i .i64,.i .i64,.i .i64,.b] x6 x7),.cells 28 [.arr .i8 81 x8,.arr .i8 16 x9,.one [.i .i8 x10]],.cells 66 [.one [.ptr 3 0 none 0,.i .u64 x11,.sl 4 0 x12 true]],.cells 72 [.arr .i8 81 x13,.arr .i8 16 x14,.one [.i .i8 x15],.rows [.i .u64,.i .u64] 32 x16,.rows [.i .u64,.i .u64] 2 x17],.sli 98 false (.rows [.i .i64,.i .i64,.i .i64,.b,.i .i8,.i .i8] x18 x19)]) qPo
theorem qln (f:Nat) (x0 x1:Nat) (x2 x3:Nat) (x4 x5:Int) (x6:Nat) (x7:LL) (x8 x9:LI) (x10 x11:Int) (x12:Nat) (x13 x14:LI) (x15:Int) (x16 x17:LL) (x18:Nat) (x19:LL):qPp (f+1) x0 x1 x2 x3 x4 x5 x6 x7 x8 x9 x10 x11 x12 x13 x14 x15 x16 x17 x18 x19=qLF (qPp f) x0 x1 x2 x3 x4 x5 x6 x7 x8 x9 x10 x11 x12 x13 x14 x15 x16 x17 x18 x19:=by kernel_rfl
theorem qYF:∀ f,qPp f=qC9 f
 | 0=>rfl
 | f+1=>by funext x0 x1 x2 x3 x4 x5 x6 x7 x8 x9 x10 x11 x12 x13 x14 x15 x16 x17 x18 x19; rw [qln,qYF f]; rfl
theorem qlq:qa Tryz.prog qLE 1 (qE Tryz.f9 6):=
 qg mixed qYD (qM.of (l':=[]) (by kernel_rfl) trivial) (q:=6) (kin:=[1,5,8,19,20,21]) (kout:=[1,4,5,6,8]) (by kernel_rfl) (by kernel_rfl) fun vs objs K r h=>by
  replace h:qPq vs objs K=some r:=h
  unfold qPq at h
  split at h
  ·skip
   obtain ⟨t,h1,h2⟩:=qD h
   rw [<- qYF] at h1
   refine ⟨_,qPo,t,qB,h1,fun e vs' objs' hd=>?_⟩
   unfold qPo at hd
   split at hd
   ·skip
    cases hd
    exact h2
   ·skip
    cases hd
    exact h2
   ·cases hd
  ·cases h
def qYE:V->List Obj->Option (Int×LI×LI×Int×Int):=fun v objs=>match v,objs with
 | .tup [W.s (.i .i64 y0),W.agg [.arr .i8 81 y1,.arr .i8 16 y2,.one [.i .i8 y3]],W.s (.i .i64 y4)],[]=>some (y0,y1,y2,y3,y4)
 | _,_=>none
theorem qlm (x0 x1:LI) (x2:Int) (x3 x4 x5:Nat) (x6:LL):fnE qLE Tryz.f9 ([.agg [.arr .i8 81 x0,.arr .i8 16 x1,.one [.i .i8 x2]],.s (.sl 0 x3 x4 false)]) ([.sli 37 true (.rows [.i .i64,.i .i64,.i .i64,.b] x5 x6)]) (qAK 1 qYE)=qGI x0 x1 x2 x3 x4 x5 x6:=by kernel_rfl
def qYC:HA:=fun o vs objs K=>match vs,List.map Obj.toRO objs with
 | [.agg [.arr .i8 81 x0,.arr .i8 16 x1,.one [.i .i8 x2]],.s (.sl 0 x3 x4 false)],[.sli 37 true (.rows [.i .i64,.i .i64,.i .i64,.b] x5 x6)]=>ob (qGI x0 x1 x2 x3 x4 x5 x6) fun z=>K true (.tup [W.s (.i .i64 (z.1)),W.agg [.arr .i8 81 (z.2.1),.arr .i8 16 (z.2.2.1),.one [.i .i8 (z.2.2.2.1)]],W.s (.i .i64 (z.2.2.2.2))]) ([])
 | _,_=>o 9 vs objs K
def qYG (o:Orc):Orc:=qJ 9 (qYC o) o
theorem qlp:OQ Tryz.prog qYG:=fun _ ho=>qL ho fun vs objs K r h=>by
 unfold qYC at h
 split at h
 ·skip
  have hq:List.map Obj.toRO objs=_:=(by rename_i hq; first | exact hq | assumption)
  obtain ⟨t,h1,h2⟩:=qD h
  refine qAc mixed qYD (m:=1) (fn:=Tryz.f9) (b:=(Tryz.f9).body.getD .skip) (by kernel_rfl) (by kernel_rfl) (by kernel_rfl) hq (by kernel_rfl) (by kernel_rfl) (qM.of (l':=[qE Tryz.f9 6]) (by kernel_rfl) ⟨qlq,trivial⟩) ((qlm _ _ _ _ _ _ _).trans h1) fun v objs' hd=>?_
  unfold qYE at hd;split at hd;(cases hd;exact h2);cases hd
 ·exact ho _ _ _ _ _ h
def qaW:Ctx:=mkC 23 (qI) [] qU
theorem qo8:CtxOK Tryz.prog qaW:=mkC_ok (qK)
def qaX:V->List Obj->Option (Int):=fun v objs=>match v,objs with
 | .s (.i .i64 y0),[]=>some (y0)
 | _,_=>none
theorem qo7 (x0:Int):fnE qaW Tryz.f31 ([.s (.i .i64 x0)]) ([]) qaX=qAS x0:=by kernel_rfl
def qaV:HA:=fun o vs objs K=>match vs,objs with
 | [.s (.i .i64 x0)],[]=>ob (qAS x0) fun y0=>K false (.s (.i .i64 y0)) ([])
 | _,_=>o 31 vs objs K
def qDE (o:Orc):Orc:=qJ 31 (qaV o) o
theorem qDn:OQ Tryz.prog qDE:=fun _ ho=>qL ho fun vs objs K r h=>by
 unfold qaV at h
 split at h
 ·skip
  obtain ⟨t,h1,h2⟩:=qD h
  refine qX mixed qo8 ((qo7 _).trans h1) (by kernel_rfl) fun v objs' hd=>?_
  unfold qaX at hd;split at hd;(cases hd;exact h2);cases hd
 ·exact ho _ _ _ _ _ h
def qRM:Ex->List V->List Obj->Option (Int):=fun e vs objs=>match e,vs,objs with
 | .exit 0,[.s (.i .i64 y0)],[]=>some (y0)
 | _,_,_=>none
def qRP:HL:=fun vs objs K=>match vs,objs with
 | [.s (.i .i64 x0),.s (.i .i64 x1),.s (.ptr 0 0 none 0),.s (.i .i64 x2),.s (.i .i64 x3)],[.cells 28 [.arr .i8 81 x4,.arr .i8 16 x5,.one [.i .i8 x6]]]=>ob (qCW qB x0 x1 x2 x3 x4 x5 x6) fun y0=>K (.exit 0) ([.s (.i .i64 y0)]) ([])
 | _,_=>none
def qp5:{R:Type}->Nat->List V->List Obj->(Ex->List V->List Obj->Option R)->Option R:=fun q vs objs K=>bif Nat.beq q 3 then qRP vs objs K else none
def qL7:Ctx:=mkC 26 (qI) [(3,[1,2,3,7,8],[7])] qp5
theorem qbb:CtxOK Tryz.prog qL7:=mkC_ok (qK)
def qRN (f:Nat) (x0 x1:Int) (x2 x3:Int) (x4 x5:LI) (x6:Int):Option (Int):=qe qL7 0 [1,2,3,7,8] [7] (qE Tryz.f67 3) f ([.s (.i .i64 x0),.s (.i .i64 x1),.s (.ptr 0 0 none 0),.s (.i .i64 x2),.s (.i .i64 x3)]) ([.cells 28 [.arr .i8 81 x4,.arr .i8 16 x5,.one [.i .i8 x6]]]) qRM
theorem qp4 (f:Nat) (x0 x1:Int) (x2 x3:Int) (x4 x5:LI) (x6:Int):qRN (f+1) x0 x1 x2 x3 x4 x5 x6=qDv (qRN f) x0 x1 x2 x3 x4 x5 x6:=by kernel_rfl
theorem qbd:∀ f,qRN f=qCW f
 | 0=>rfl
 | f+1=>by funext x0 x1 x2 x3 x4 x5 x6; rw [qp4,qbd f]; rfl
theorem qp6:qa Tryz.prog qL7 0 (qE Tryz.f67 3):=
 qg mixed qbb (qM.of (l':=[]) (by kernel_rfl) trivial) (q:=3) (kin:=[1,2,3,7,8]) (kout:=[7]) (by kernel_rfl) (by kernel_rfl) fun vs objs K r h=>by
  replace h:qRP vs objs K=some r:=h
  unfold qRP at h
  split at h
  ·skip
   obtain ⟨t,h1,h2⟩:=qD h
   rw [<- qbd] at h1
   refine ⟨_,qRM,t,qB,h1,fun e vs' objs' hd=>?_⟩
   unfold qRM at hd;split at hd;(cases hd;exact h2);cases hd
  ·cases h
def qbc:V->List Obj->Option (Int):=fun v objs=>match v,objs with
 | .s (.i .i64 y0),[]=>some (y0)
 | _,_=>none
theorem qp3 (x0 x1:LI) (x2 x3 x4:Int):fnE qL7 Tryz.f67 ([.agg [.arr .i8 81 x0,.arr .i8 16 x1,.one [.i .i8 x2]],.s (.i .i64 x3),.s (.i .i64 x4)]) ([]) qbc=qDu x0 x1 x2 x3 x4:=by kernel_rfl
def qba:HA:=fun o vs objs K=>match vs,objs with
 | [.agg [.arr .i8 81 x0,.arr .i8 16 x1,.one [.i .i8 x2]],.s (.i .i64 x3),.s (.i .i64 x4)],[]=>ob (qDu x0 x1 x2 x3 x4) fun y0=>K false (.s (.i .i64 y0)) ([])
 | _,_=>o 67 vs objs K
def qL8 (o:Orc):Orc:=qJ 67 (qba o) o
theorem qRO:OQ Tryz.prog qL8:=fun _ ho=>qL ho fun vs objs K r h=>by
 unfold qba at h
 split at h
 ·skip
  obtain ⟨t,h1,h2⟩:=qD h
  refine q7 mixed qbb (fn:=Tryz.f67) (b:=(Tryz.f67).body.getD .skip) (by kernel_rfl) (by kernel_rfl) (by kernel_rfl) ((qp3 _ _ _ _ _).trans h1) (m:=0) rfl (qM.of (l':=[qE Tryz.f67 3]) (by kernel_rfl) ⟨qp6,trivial⟩) fun v objs' hd=>?_
  unfold qbc at hd;split at hd;(cases hd;exact h2);cases hd
 ·exact ho _ _ _ _ _ h
def qRU:Ex->List V->List Obj->Option (Int):=fun e vs objs=>match e,vs,objs with
 | .exit 0,[.s (.i .i64 y0)],[]=>some (y0)
 | _,_,_=>none
def qRW:HL:=fun vs objs K=>match vs,objs with
 | [.s (.i .i64 x0),.s (.ptr 0 0 none 0),.s (.i .i64 x1),.s (.i .i64 x2)],[.cells 28 [.arr .i8 81 x3,.arr .i8 16 x4,.one [.i .i8 x5]]]=>ob (qCX qB x0 x1 x2 x3 x4 x5) fun y0=>K (.exit 0) ([.s (.i .i64 y0)]) ([])
 | _,_=>none
def qqD:{R:Type}->Nat->List V->List Obj->(Ex->List V->List Obj->Option R)->Option R:=fun q vs objs K=>bif Nat.beq q 3 then qRW vs objs K else none
def qMB:Ctx:=mkC 18 ((qL8 qI)) [(3,[1,2,5,6],[5])] qqD
theorem qbj:CtxOK Tryz.prog qMB:=mkC_ok ((qRO _ qK))
def qRV (f:Nat) (x0 x1 x2:Int) (x3 x4:LI) (x5:Int):Option (Int):=qe qMB 0 [1,2,5,6] [5] (qE Tryz.f63 3) f ([.s (.i .i64 x0),.s (.ptr 0 0 none 0),.s (.i .i64 x1),.s (.i .i64 x2)]) ([.cells 28 [.arr .i8 81 x3,.arr .i8 16 x4,.one [.i .i8 x5]]]) qRU
theorem qqC (f:Nat) (x0 x1 x2:Int) (x3 x4:LI) (x5:Int):qRV (f+1) x0 x1 x2 x3 x4 x5=qDw (qRV f) x0 x1 x2 x3 x4 x5:=by kernel_rfl
theorem qbl:∀ f,qRV f=qCX f
 | 0=>rfl
 | f+1=>by funext x0 x1 x2 x3 x4 x5; rw [qqC,qbl f]; rfl
theorem qqF:qa Tryz.prog qMB 0 (qE Tryz.f63 3):=
 qg mixed qbj (qM.of (l':=[]) (by kernel_rfl) trivial) (q:=3) (kin:=[1,2,5,6]) (kout:=[5]) (by kernel_rfl) (by kernel_rfl) fun vs objs K r h=>by
  replace h:qRW vs objs K=some r:=h
  unfold qRW at h
  split at h
  ·skip
   obtain ⟨t,h1,h2⟩:=qD h
   rw [<- qbl] at h1
   refine ⟨_,qRU,t,qB,h1,fun e vs' objs' hd=>?_⟩
   unfold qRU at hd;split at hd;(cases hd;exact h2);cases hd
  ·cases h
def qbk:V->List Obj->Option (Int):=fun v objs=>match v,objs with
 | .s (.i .i64 y0),[]=>some (y0)
 | _,_=>none
theorem qqB (x0 x1:LI) (x2 x3:Int):fnE qMB Tryz.f63 ([.agg [.arr .i8 81 x0,.arr .i8 16 x1,.one [.i .i8 x2]],.s (.i .i64 x3)]) ([]) qbk=qCF x0 x1 x2 x3:=by kernel_rfl
def qbi:HA:=fun o vs objs K=>match vs,objs with
 | [.agg [.arr .i8 81 x0,.arr .i8 16 x1,.one [.i .i8 x2]],.s (.i .i64 x3)],[]=>ob (qCF x0 x1 x2 x3) fun y0=>K false (.s (.i .i64 y0)) ([])
 | _,_=>o 63 vs objs K
def qbm (o:Orc):Orc:=qJ 63 (qbi o) o
theorem qqE:OQ Tryz.prog qbm:=fun _ ho=>qL ho fun vs objs K r h=>by
 unfold qbi at h
 split at h
 ·skip
  obtain ⟨t,h1,h2⟩:=qD h
  refine q7 mixed qbj (fn:=Tryz.f63) (b:=(Tryz.f63).body.getD .skip) (by kernel_rfl) (by kernel_rfl) (by kernel_rfl) ((qqB _ _ _ _).trans h1) (m:=0) rfl (qM.of (l':=[qE Tryz.f63 3]) (by kernel_rfl) ⟨qqF,trivial⟩) fun v objs' hd=>?_
  unfold qbk at hd;split at hd;(cases hd;exact h2);cases hd
 ·exact ho _ _ _ _ _ h
def qaZ:Ctx:=mkC 18 (qI) [] qU
theorem qpA:CtxOK Tryz.prog qaZ:=mkC_ok (qK)
def qaa:V->List Obj->Option (Int):=fun v objs=>match v,objs with
 | .s (.i .i64 y0),[]=>some (y0)
 | _,_=>none
theorem qo9 (x0:Int):fnE qaZ Tryz.f30 ([.s (.i .i64 x0)]) ([]) qaa=qHy x0:=by kernel_rfl
def qaY:HA:=fun o vs objs K=>match vs,objs with
 | [.s (.i .i64 x0)],[]=>ob (qHy x0) fun y0=>K false (.s (.i .i64 y0)) ([])
 | _,_=>o 30 vs objs K
def qQp (o:Orc):Orc:=qJ 30 (qaY o) o
theorem qab:OQ Tryz.prog qQp:=fun _ ho=>qL ho fun vs objs K r h=>by
 unfold qaY at h
 split at h
 ·skip
  obtain ⟨t,h1,h2⟩:=qD h
  refine qX mixed qpA ((qo9 _).trans h1) (by kernel_rfl) fun v objs' hd=>?_
  unfold qaa at hd;split at hd;(cases hd;exact h2);cases hd
 ·exact ho _ _ _ _ _ h
def qRJ:Ex->List V->List Obj->Option (Int×Int×LI×LI×Int):=fun e vs objs=>match e,vs,objs with
 | .exit 0,[.s (.i .i64 y0),.s (.ptr 0 0 none 0),.s (.i .i64 y1)],[.cells 28 [.arr .i8 81 y2,.arr .i8 16 y3,.one [.i .i8 y4]]]=>some (y0,y1,y2,y3,y4)
 | _,_,_=>none
def qRL:HL:=fun vs objs K=>match vs,objs with
 | [.s (.i .i64 x0),.s (.ptr 0 0 none 0),.s (.i .i64 x1),.s (.i .i64 x2)],[.cells 28 [.arr .i8 81 x3,.arr .i8 16 x4,.one [.i .i8 x5]]]=>ob (qFd qB x0 x1 x2 x3 x4 x5) fun z=>K (.exit 0) ([.s (.i .i64 (z.1)),.s (.ptr 0 0 none 0),.s (.i .i64 (z.2.1))]) ([.cells 28 [.arr .i8 81 (z.2.2.1),.arr .i8 16 (z.2.2.2.1),.one [.i .i8 (z.2.2.2.2)]]])
 | _,_=>none
def qp0:{R:Type}->Nat->List V->List Obj->(Ex->List V->List Obj->Option R)->Option R:=fun q vs objs K=>bif Nat.beq q 3 then qRL vs objs K else none
def qL6:Ctx:=mkC 37 ((qQp (qDE qI))) [(3,[1,2,5,6],[1,2,5])] qp0
theorem qbW:CtxOK Tryz.prog qL6:=mkC_ok ((qab _ (qDn _ qK)))
def qRK (f:Nat) (x0 x1 x2:Int) (x3 x4:LI) (x5:Int):Option (Int×Int×LI×LI×Int):=qe qL6 0 [1,2,5,6] [1,2,5] (qE Tryz.f64 3) f ([.s (.i .i64 x0),.s (.ptr 0 0 none 0),.s (.i .i64 x1),.s (.i .i64 x2)]) ([.cells 28 [.arr .i8 81 x3,.arr .i8 16 x4,.one [.i .i8 x5]]]) qRJ
theorem qpz (f:Nat) (x0 x1 x2:Int) (x3 x4:LI) (x5:Int):qRK (f+1) x0 x1 x2 x3 x4 x5=qH3 (qRK f) x0 x1 x2 x3 x4 x5:=by kernel_rfl
theorem qbY:∀ f,qRK f=qFd f
 | 0=>rfl
 | f+1=>by funext x0 x1 x2 x3 x4 x5; rw [qpz,qbY f]; rfl
theorem qp2:qa Tryz.prog qL6 0 (qE Tryz.f64 3):=
 qg mixed qbW (qM.of (l':=[]) (by kernel_rfl) trivial) (q:=3) (kin:=[1,2,5,6]) (kout:=[1,2,5]) (by kernel_rfl) (by kernel_rfl) fun vs objs K r h=>by
  replace h:qRL vs objs K=some r:=h
  unfold qRL at h
  split at h
  ·skip
   obtain ⟨t,h1,h2⟩:=qD h
   rw [<- qbY] at h1
   refine ⟨_,qRJ,t,qB,h1,fun e vs' objs' hd=>?_⟩
   unfold qRJ at hd;split at hd;(cases hd;exact h2);cases hd
  ·cases h
def qbX:V->List Obj->Option (Int):=fun v objs=>match v,objs with
 | .s (.i .i64 y0),[]=>some (y0)
 | _,_=>none
theorem qpy (x0 x1:LI) (x2 x3:Int):fnE qL6 Tryz.f64 ([.agg [.arr .i8 81 x0,.arr .i8 16 x1,.one [.i .i8 x2]],.s (.i .i64 x3)]) ([]) qbX=qJU x0 x1 x2 x3:=by kernel_rfl
def qbV:HA:=fun o vs objs K=>match vs,objs with
 | [.agg [.arr .i8 81 x0,.arr .i8 16 x1,.one [.i .i8 x2]],.s (.i .i64 x3)],[]=>ob (qJU x0 x1 x2 x3) fun y0=>K false (.s (.i .i64 y0)) ([])
 | _,_=>o 64 vs objs K
def qbZ (o:Orc):Orc:=qJ 64 (qbV o) o
theorem qp1:OQ Tryz.prog qbZ:=fun _ ho=>qL ho fun vs objs K r h=>by
 unfold qbV at h
 split at h
 ·skip
  obtain ⟨t,h1,h2⟩:=qD h
  refine q7 mixed qbW (fn:=Tryz.f64) (b:=(Tryz.f64).body.getD .skip) (by kernel_rfl) (by kernel_rfl) (by kernel_rfl) ((qpy _ _ _ _).trans h1) (m:=0) rfl (qM.of (l':=[qE Tryz.f64 3]) (by kernel_rfl) ⟨qp2,trivial⟩) fun v objs' hd=>?_
  unfold qbX at hd;split at hd;(cases hd;exact h2);cases hd
 ·exact ho _ _ _ _ _ h
def qag:Ctx:=mkC 15 (qI) [] qU
theorem qpE:CtxOK Tryz.prog qag:=mkC_ok (qK)
def qah:V->List Obj->Option (Int):=fun v objs=>match v,objs with
 | .s (.i .i64 y0),[]=>some (y0)
 | _,_=>none
theorem qpD (x0:Int):fnE qag Tryz.f65 ([.s (.i .i64 x0)]) ([]) qah=qJR x0:=by kernel_rfl
def qaf:HA:=fun o vs objs K=>match vs,objs with
 | [.s (.i .i64 x0)],[]=>ob (qJR x0) fun y0=>K false (.s (.i .i64 y0)) ([])
 | _,_=>o 65 vs objs K
def qai (o:Orc):Orc:=qJ 65 (qaf o) o
theorem qpF:OQ Tryz.prog qai:=fun _ ho=>qL ho fun vs objs K r h=>by
 unfold qaf at h
 split at h
 ·skip
  obtain ⟨t,h1,h2⟩:=qD h
  refine qX mixed qpE ((qpD _).trans h1) (by kernel_rfl) fun v objs' hd=>?_
  unfold qah at hd;split at hd;(cases hd;exact h2);cases hd
 ·exact ho _ _ _ _ _ h
def qad:Ctx:=mkC 8 ((qDE qI)) [] qU
theorem qpC:CtxOK Tryz.prog qad:=mkC_ok ((qDn _ qK))
def qae:V->List Obj->Option (Int):=fun v objs=>match v,objs with
 | .s (.i .i64 y0),[]=>some (y0)
 | _,_=>none
theorem qpB (x0:Int):fnE qad Tryz.f46 ([.s (.i .i64 x0)]) ([]) qae=qA9 x0:=by kernel_rfl
def qac:HA:=fun o vs objs K=>match vs,objs with
 | [.s (.i .i64 x0)],[]=>ob (qA9 x0) fun y0=>K false (.s (.i .i64 y0)) ([])
 | _,_=>o 46 vs objs K
def qFX (o:Orc):Orc:=qJ 46 (qac o) o
theorem qGU:OQ Tryz.prog qFX:=fun _ ho=>qL ho fun vs objs K r h=>by
 unfold qac at h
 split at h
 ·skip
  obtain ⟨t,h1,h2⟩:=qD h
  refine qX mixed qpC ((qpB _).trans h1) (by kernel_rfl) fun v objs' hd=>?_
  unfold qae at hd;split at hd;(cases hd;exact h2);cases hd
 ·exact ho _ _ _ _ _ h
def qaq:Ctx:=mkC 26 (qI) [] qU
theorem qpL:CtxOK Tryz.prog qaq:=mkC_ok (qK)
def qar:V->List Obj->Option (Int):=fun v objs=>match v,objs with
 | .s (.i .i64 y0),[]=>some (y0)
 | _,_=>none
theorem qpK (x0 x1:Int):fnE qaq Tryz.f102 ([.s (.i .i64 x0),.s (.i .i64 x1)]) ([]) qar=qDG x0 x1:=by kernel_rfl
def qap:HA:=fun o vs objs K=>match vs,objs with
 | [.s (.i .i64 x0),.s (.i .i64 x1)],[]=>ob (qDG x0 x1) fun y0=>K false (.s (.i .i64 y0)) ([])
 | _,_=>o 102 vs objs K
def qQs (o:Orc):Orc:=qJ 102 (qap o) o
theorem qas:OQ Tryz.prog qQs:=fun _ ho=>qL ho fun vs objs K r h=>by
 unfold qap at h
 split at h
 ·skip
  obtain ⟨t,h1,h2⟩:=qD h
  refine qX mixed qpL ((qpK _ _).trans h1) (by kernel_rfl) fun v objs' hd=>?_
  unfold qar at hd;split at hd;(cases hd;exact h2);cases hd
 ·exact ho _ _ _ _ _ h
def qan:Ctx:=mkC 35 ((qDE (qQs (qFX qI)))) [] qU
theorem qpJ:CtxOK Tryz.prog qan:=mkC_ok ((qDn _ (qas _ (qGU _ qK))))
def qao:V->List Obj->Option (Bool):=fun v objs=>match v,objs with
 | .s (.b y0),[]=>some (y0)
 | _,_=>none
theorem qpI (x0 x1:Int):fnE qan Tryz.f66 ([.s (.i .i64 x0),.s (.i .i64 x1)]) ([]) qao=qDF x0 x1:=by kernel_rfl
def qam:HA:=fun o vs objs K=>match vs,objs with
 | [.s (.i .i64 x0),.s (.i .i64 x1)],[]=>ob (qDF x0 x1) fun y0=>K false (.s (.b y0)) ([])
 | _,_=>o 66 vs objs K
def qL2 (o:Orc):Orc:=qJ 66 (qam o) o
theorem qQr:OQ Tryz.prog qL2:=fun _ ho=>qL ho fun vs objs K r h=>by
 unfold qam at h
 split at h
 ·skip
  obtain ⟨t,h1,h2⟩:=qD h
  refine qX mixed qpJ ((qpI _ _).trans h1) (by kernel_rfl) fun v objs' hd=>?_
  unfold qao at hd;split at hd;(cases hd;exact h2);cases hd
 ·exact ho _ _ _ _ _ h
def qQ9:Ex->List V->List Obj->Option ((Int×LI×LI×Int) ⊕ (LI×LI×Int)):=fun e vs objs=>match e,vs,objs with
 | .ret,[.s (.ptr 0 0 none 0),.s (.i .i64 y0)],[.cells 28 [.arr .i8 81 y1,.arr .i8 16 y2,.one [.i .i8 y3]]]=>some (.inl (y0,y1,y2,y3))
 | .exit 0,[.s (.ptr 0 0 none 0),.s .bad],[.cells 28 [.arr .i8 81 y0,.arr .i8 16 y1,.one [.i .i8 y2]]]=>some (.inr (y0,y1,y2))
 | _,_,_=>none
def qQ1:Ex->List V->List Obj->Option ((Int×Int×LI×LI×Int) ⊕ (Int×LI×LI×Int)):=fun e vs objs=>match e,vs,objs with
 | .ret,[.s (.ptr 0 0 none 0),.s (.i .i64 y0),.s (.i .i64 y1)],[.cells 28 [.arr .i8 81 y2,.arr .i8 16 y3,.one [.i .i8 y4]]]=>some (.inl (y0,y1,y2,y3,y4))
 | .exit 4,[.s (.ptr 0 0 none 0),.s .bad,.s (.i .i64 y0)],[.cells 28 [.arr .i8 81 y1,.arr .i8 16 y2,.one [.i .i8 y3]]]=>some (.inr (y0,y1,y2,y3))
 | _,_,_=>none
def qRB:Ex->List V->List Obj->Option ((Int×LI×LI×Int) ⊕ (LI×LI×Int)):=fun e vs objs=>match e,vs,objs with
 | .ret,[.s (.ptr 0 0 none 0),.s (.i .i64 y0)],[.cells 28 [.arr .i8 81 y1,.arr .i8 16 y2,.one [.i .i8 y3]]]=>some (.inl (y0,y1,y2,y3))
 | .exit 2,[.s (.ptr 0 0 none 0),.s .bad],[.cells 28 [.arr .i8 81 y0,.arr .i8 16 y1,.one [.i .i8 y2]]]=>some (.inr (y0,y1,y2))
 | _,_,_=>none
def qQ3:Ex->List V->List Obj->Option ((Int×LI×LI×Int) ⊕ (LI×LI×Int)):=fun e vs objs=>match e,vs,objs with
 | .ret,[.s (.ptr 0 0 none 0),.s (.i .i64 y0)],[.cells 28 [.arr .i8 81 y1,.arr .i8 16 y2,.one [.i .i8 y3]]]=>some (.inl (y0,y1,y2,y3))
 | .exit 6,[.s (.ptr 0 0 none 0),.s .bad],[.cells 28 [.arr .i8 81 y0,.arr .i8 16 y1,.one [.i .i8 y2]]]=>some (.inr (y0,y1,y2))
 | _,_,_=>none
def qQ5:Ex->List V->List Obj->Option ((Int×LI×LI×Int) ⊕ (LI×LI×Int)):=fun e vs objs=>match e,vs,objs with
 | .ret,[.s (.ptr 0 0 none 0),.s (.i .i64 y0)],[.cells 28 [.arr .i8 81 y1,.arr .i8 16 y2,.one [.i .i8 y3]]]=>some (.inl (y0,y1,y2,y3))
 | .exit 8,[.s (.ptr 0 0 none 0),.s .bad],[.cells 28 [.arr .i8 81 y0,.arr .i8 16 y1,.one [.i .i8 y2]]]=>some (.inr (y0,y1,y2))
 | _,_,_=>none
def qQ7:Ex->List V->List Obj->Option ((Int) ⊕ (Unit)):=fun e vs objs=>match e,vs,objs with
 | .ret,[.s (.i .i64 y0)],[]=>some (.inl (y0))
 | .exit 10,[.s .bad],[]=>some (.inr ())
 | _,_,_=>none
def qRH:HL:=fun vs objs K=>match vs,objs with
 | [.s (.ptr 0 0 none 0),.s (.i .i64 x0)],[.cells 28 [.arr .i8 81 x1,.arr .i8 16 x2,.one [.i .i8 x3]]]=>ob (qB1 qB x0 x1 x2 x3) fun t0=>sw t0 (fun z=>K (.ret) ([.s (.ptr 0 0 none 0),.s (.i .i64 (z.1))]) ([.cells 28 [.arr .i8 81 (z.2.1),.arr .i8 16 (z.2.2.1),.one [.i .i8 (z.2.2.2)]]])) (fun z=>K (.exit 0) ([.s (.ptr 0 0 none 0),.s .bad]) ([.cells 28 [.arr .i8 81 (z.1),.arr .i8 16 (z.2.1),.one [.i .i8 (z.2.2)]]]))
 | _,_=>none
def qRD:HL:=fun vs objs K=>match vs,objs with
 | [.s (.ptr 0 0 none 0),.s (.i .i64 x0),.s (.i .i64 x1)],[.cells 28 [.arr .i8 81 x2,.arr .i8 16 x3,.one [.i .i8 x4]]]=>ob (qBZ qB x0 x1 x2 x3 x4) fun t0=>sw t0 (fun z=>K (.ret) ([.s (.ptr 0 0 none 0),.s (.i .i64 (z.1)),.s (.i .i64 (z.2.1))]) ([.cells 28 [.arr .i8 81 (z.2.2.1),.arr .i8 16 (z.2.2.2.1),.one [.i .i8 (z.2.2.2.2)]]])) (fun z=>K (.exit 4) ([.s (.ptr 0 0 none 0),.s .bad,.s (.i .i64 (z.1))]) ([.cells 28 [.arr .i8 81 (z.2.1),.arr .i8 16 (z.2.2.1),.one [.i .i8 (z.2.2.2)]]]))
 | _,_=>none
def qRI:HL:=fun vs objs K=>match vs,objs with
 | [.s (.ptr 0 0 none 0),.s (.i .i64 x0)],[.cells 28 [.arr .i8 81 x1,.arr .i8 16 x2,.one [.i .i8 x3]]]=>ob (qBO qB x0 x1 x2 x3) fun t0=>sw t0 (fun z=>K (.ret) ([.s (.ptr 0 0 none 0),.s (.i .i64 (z.1))]) ([.cells 28 [.arr .i8 81 (z.2.1),.arr .i8 16 (z.2.2.1),.one [.i .i8 (z.2.2.2)]]])) (fun z=>K (.exit 2) ([.s (.ptr 0 0 none 0),.s .bad]) ([.cells 28 [.arr .i8 81 (z.1),.arr .i8 16 (z.2.1),.one [.i .i8 (z.2.2)]]]))
 | _,_=>none
def qRE:HL:=fun vs objs K=>match vs,objs with
 | [.s (.ptr 0 0 none 0),.s (.i .i64 x0)],[.cells 28 [.arr .i8 81 x1,.arr .i8 16 x2,.one [.i .i8 x3]]]=>ob (qBL qB x0 x1 x2 x3) fun t0=>sw t0 (fun z=>K (.ret) ([.s (.ptr 0 0 none 0),.s (.i .i64 (z.1))]) ([.cells 28 [.arr .i8 81 (z.2.1),.arr .i8 16 (z.2.2.1),.one [.i .i8 (z.2.2.2)]]])) (fun z=>K (.exit 6) ([.s (.ptr 0 0 none 0),.s .bad]) ([.cells 28 [.arr .i8 81 (z.1),.arr .i8 16 (z.2.1),.one [.i .i8 (z.2.2)]]]))
 | _,_=>none
def qRF:HL:=fun vs objs K=>match vs,objs with
 | [.s (.ptr 0 0 none 0),.s (.i .i64 x0)],[.cells 28 [.arr .i8 81 x1,.arr .i8 16 x2,.one [.i .i8 x3]]]=>ob (qBM qB x0 x1 x2 x3) fun t0=>sw t0 (fun z=>K (.ret) ([.s (.ptr 0 0 none 0),.s (.i .i64 (z.1))]) ([.cells 28 [.arr .i8 81 (z.2.1),.arr .i8 16 (z.2.2.1),.one [.i .i8 (z.2.2.2)]]])) (fun z=>K (.exit 8) ([.s (.ptr 0 0 none 0),.s .bad]) ([.cells 28 [.arr .i8 81 (z.1),.arr .i8 16 (z.2.1),.one [.i .i8 (z.2.2)]]]))
 | _,_=>none
def qRG:HL:=fun vs objs K=>match vs,objs with
 | [.s (.ptr 0 0 none 0),.s (.i .i64 x0)],[.cells 28 [.arr .i8 81 x1,.arr .i8 16 x2,.one [.i .i8 x3]]]=>ob (qBN qB x0 x1 x2 x3) fun t0=>sw t0 (fun y0=>K (.ret) ([.s (.i .i64 y0)]) ([])) (fun _=>K (.exit 10) ([.s .bad]) ([]))
 | _,_=>none
def qpq:{R:Type}->Nat->List V->List Obj->(Ex->List V->List Obj->Option R)->Option R:=fun q vs objs K=>bif Nat.beq q 4 then qRH vs objs K else bif Nat.beq q 12 then qRD vs objs K else bif Nat.beq q 9 then qRI vs objs K else bif Nat.beq q 20 then qRE vs objs K else bif Nat.beq q 25 then qRF vs objs K else bif Nat.beq q 30 then qRG vs objs K else none
def qCE:Ctx:=mkC 103 ((qL8 (qL2 (qai (qbZ (qbm (qDE qI))))))) [(4,[1,3],[1,2]),(9,[1,4],[1,2]),(12,[1,4,5],[1,2,4]),(20,[1,7],[1,2]),(25,[1,8],[1,2]),(30,[1,9],[2])] qpq
theorem qGV:CtxOK Tryz.prog qCE:=mkC_ok ((qRO _ (qQr _ (qpF _ (qp1 _ (qqE _ (qDn _ qK)))))))
def qRA (f:Nat) (x0:Int) (x1 x2:LI) (x3:Int):Option ((Int×LI×LI×Int) ⊕ (LI×LI×Int)):=qe qCE 0 [1,3] [1,2] (qE Tryz.f27 4) f ([.s (.ptr 0 0 none 0),.s (.i .i64 x0)]) ([.cells 28 [.arr .i8 81 x1,.arr .i8 16 x2,.one [.i .i8 x3]]]) qQ9
theorem qpo (f:Nat) (x0:Int) (x1 x2:LI) (x3:Int):qRA (f+1) x0 x1 x2 x3=qDs (qRA f) x0 x1 x2 x3:=by kernel_rfl
theorem qbS:∀ f,qRA f=qB1 f
 | 0=>rfl
 | f+1=>by funext x0 x1 x2 x3; rw [qpo,qbS f]; rfl
def qQ2 (f:Nat) (x0 x1:Int) (x2 x3:LI) (x4:Int):Option ((Int×Int×LI×LI×Int) ⊕ (Int×LI×LI×Int)):=qe qCE 0 [1,4,5] [1,2,4] (qE Tryz.f27 12) f ([.s (.ptr 0 0 none 0),.s (.i .i64 x0),.s (.i .i64 x1)]) ([.cells 28 [.arr .i8 81 x2,.arr .i8 16 x3,.one [.i .i8 x4]]]) qQ1
theorem qpk (f:Nat) (x0 x1:Int) (x2 x3:LI) (x4:Int):qQ2 (f+1) x0 x1 x2 x3 x4=qDo (qQ2 f) x0 x1 x2 x3 x4:=by kernel_rfl
theorem qbO:∀ f,qQ2 f=qBZ f
 | 0=>rfl
 | f+1=>by funext x0 x1 x2 x3 x4; rw [qpk,qbO f]; rfl
def qRC (f:Nat) (x0:Int) (x1 x2:LI) (x3:Int):Option ((Int×LI×LI×Int) ⊕ (LI×LI×Int)):=qe qCE 0 [1,4] [1,2] (qE Tryz.f27 9) f ([.s (.ptr 0 0 none 0),.s (.i .i64 x0)]) ([.cells 28 [.arr .i8 81 x1,.arr .i8 16 x2,.one [.i .i8 x3]]]) qRB
theorem qpp (f:Nat) (x0:Int) (x1 x2:LI) (x3:Int):qRC (f+1) x0 x1 x2 x3=qDt (qRC f) x0 x1 x2 x3:=by kernel_rfl
theorem qbT:∀ f,qRC f=qBO f
 | 0=>rfl
 | f+1=>by funext x0 x1 x2 x3; rw [qpp,qbT f]; rfl
def qQ4 (f:Nat) (x0:Int) (x1 x2:LI) (x3:Int):Option ((Int×LI×LI×Int) ⊕ (LI×LI×Int)):=qe qCE 0 [1,7] [1,2] (qE Tryz.f27 20) f ([.s (.ptr 0 0 none 0),.s (.i .i64 x0)]) ([.cells 28 [.arr .i8 81 x1,.arr .i8 16 x2,.one [.i .i8 x3]]]) qQ3
theorem qpl (f:Nat) (x0:Int) (x1 x2:LI) (x3:Int):qQ4 (f+1) x0 x1 x2 x3=qDp (qQ4 f) x0 x1 x2 x3:=by kernel_rfl
theorem qbP:∀ f,qQ4 f=qBL f
 | 0=>rfl
 | f+1=>by funext x0 x1 x2 x3; rw [qpl,qbP f]; rfl
def qQ6 (f:Nat) (x0:Int) (x1 x2:LI) (x3:Int):Option ((Int×LI×LI×Int) ⊕ (LI×LI×Int)):=qe qCE 0 [1,8] [1,2] (qE Tryz.f27 25) f ([.s (.ptr 0 0 none 0),.s (.i .i64 x0)]) ([.cells 28 [.arr .i8 81 x1,.arr .i8 16 x2,.one [.i .i8 x3]]]) qQ5
theorem qpm (f:Nat) (x0:Int) (x1 x2:LI) (x3:Int):qQ6 (f+1) x0 x1 x2 x3=qDq (qQ6 f) x0 x1 x2 x3:=by kernel_rfl
theorem qbQ:∀ f,qQ6 f=qBM f
 | 0=>rfl
 | f+1=>by funext x0 x1 x2 x3; rw [qpm,qbQ f]; rfl
def qQ8 (f:Nat) (x0:Int) (x1 x2:LI) (x3:Int):Option ((Int) ⊕ (Unit)):=qe qCE 0 [1,9] [2] (qE Tryz.f27 30) f ([.s (.ptr 0 0 none 0),.s (.i .i64 x0)]) ([.cells 28 [.arr .i8 81 x1,.arr .i8 16 x2,.one [.i .i8 x3]]]) qQ7
theorem qpn (f:Nat) (x0:Int) (x1 x2:LI) (x3:Int):qQ8 (f+1) x0 x1 x2 x3=qDr (qQ8 f) x0 x1 x2 x3:=by kernel_rfl
theorem qbR:∀ f,qQ8 f=qBN f
 | 0=>rfl
 | f+1=>by funext x0 x1 x2 x3; rw [qpn,qbR f]; rfl
theorem qpw:qa Tryz.prog qCE 0 (qE Tryz.f27 4):=
 qg mixed qGV (qM.of (l':=[]) (by kernel_rfl) trivial) (q:=4) (kin:=[1,3]) (kout:=[1,2]) (by kernel_rfl) (by kernel_rfl) fun vs objs K r h=>by
  replace h:qRH vs objs K=some r:=h
  unfold qRH at h
  split at h
  ·skip
   obtain ⟨t,h1,h2⟩:=qD h
   rw [<- qbS] at h1
   refine ⟨_,qQ9,t,qB,h1,fun e vs' objs' hd=>?_⟩
   unfold qQ9 at hd
   split at hd
   ·skip
    cases hd
    exact h2
   ·skip
    cases hd
    exact h2
   ·cases hd
  ·cases h
theorem qps:qa Tryz.prog qCE 0 (qE Tryz.f27 12):=
 qg mixed qGV (qM.of (l':=[]) (by kernel_rfl) trivial) (q:=12) (kin:=[1,4,5]) (kout:=[1,2,4]) (by kernel_rfl) (by kernel_rfl) fun vs objs K r h=>by
  replace h:qRD vs objs K=some r:=h
  unfold qRD at h
  split at h
  ·skip
   obtain ⟨t,h1,h2⟩:=qD h
   rw [<- qbO] at h1
   refine ⟨_,qQ1,t,qB,h1,fun e vs' objs' hd=>?_⟩
   unfold qQ1 at hd
   split at hd
   ·skip
    cases hd
    exact h2
   ·skip
    cases hd
    exact h2
   ·cases hd
  ·cases h
theorem qpt:qa Tryz.prog qCE 0 (qE Tryz.f27 20):=
 qg mixed qGV (qM.of (l':=[]) (by kernel_rfl) trivial) (q:=20) (kin:=[1,7]) (kout:=[1,2]) (by kernel_rfl) (by kernel_rfl) fun vs objs K r h=>by
  replace h:qRE vs objs K=some r:=h
  unfold qRE at h
  split at h
  ·skip
   obtain ⟨t,h1,h2⟩:=qD h
   rw [<- qbP] at h1
   refine ⟨_,qQ3,t,qB,h1,fun e vs' objs' hd=>?_⟩
   unfold qQ3 at hd
   split at hd
   ·skip
    cases hd
    exact h2
   ·skip
    cases hd
    exact h2
   ·cases hd
  ·cases h
theorem qpu:qa Tryz.prog qCE 0 (qE Tryz.f27 25):=
 qg mixed qGV (qM.of (l':=[]) (by kernel_rfl) trivial) (q:=25) (kin:=[1,8]) (kout:=[1,2]) (by kernel_rfl) (by kernel_rfl) fun vs objs K r h=>by
  replace h:qRF vs objs K=some r:=h
  unfold qRF at h
  split at h
  ·skip
   obtain ⟨t,h1,h2⟩:=qD h
   rw [<- qbQ] at h1
   refine ⟨_,qQ5,t,qB,h1,fun e vs' objs' hd=>?_⟩
   unfold qQ5 at hd
   split at hd
   ·skip
    cases hd
    exact h2
   ·skip
    cases hd
    exact h2
   ·cases hd
  ·cases h
theorem qpv:qa Tryz.prog qCE 0 (qE Tryz.f27 30):=
 qg mixed qGV (qM.of (l':=[]) (by kernel_rfl) trivial) (q:=30) (kin:=[1,9]) (kout:=[2]) (by kernel_rfl) (by kernel_rfl) fun vs objs K r h=>by
  replace h:qRG vs objs K=some r:=h
  unfold qRG at h
  split at h
  ·skip
   obtain ⟨t,h1,h2⟩:=qD h
   rw [<- qbR] at h1
   refine ⟨_,qQ7,t,qB,h1,fun e vs' objs' hd=>?_⟩
   unfold qQ7 at hd
   split at hd
   ·skip
    cases hd
    exact h2
   ·skip
    cases hd
    exact h2
   ·cases hd
  ·cases h
theorem qpx:qa Tryz.prog qCE 0 (qE Tryz.f27 9):=
 qg mixed qGV (qM.of (l':=[qE Tryz.f27 12]) (by kernel_rfl) ⟨qps,trivial⟩) (q:=9) (kin:=[1,4]) (kout:=[1,2]) (by kernel_rfl) (by kernel_rfl) fun vs objs K r h=>by
  replace h:qRI vs objs K=some r:=h
  unfold qRI at h
  split at h
  ·skip
   obtain ⟨t,h1,h2⟩:=qD h
   rw [<- qbT] at h1
   refine ⟨_,qRB,t,qB,h1,fun e vs' objs' hd=>?_⟩
   unfold qRB at hd
   split at hd
   ·skip
    cases hd
    exact h2
   ·skip
    cases hd
    exact h2
   ·cases hd
  ·cases h
def qbN:V->List Obj->Option (Int):=fun v objs=>match v,objs with
 | .s (.i .i64 y0),[]=>some (y0)
 | _,_=>none
theorem qpj (x0 x1:LI) (x2:Int):fnE qCE Tryz.f27 ([.agg [.arr .i8 81 x0,.arr .i8 16 x1,.one [.i .i8 x2]]]) ([]) qbN=qFc x0 x1 x2:=by kernel_rfl
def qbM:HA:=fun o vs objs K=>match vs,objs with
 | [.agg [.arr .i8 81 x0,.arr .i8 16 x1,.one [.i .i8 x2]]],[]=>ob (qFc x0 x1 x2) fun y0=>K false (.s (.i .i64 y0)) ([])
 | _,_=>o 27 vs objs K
def qbU (o:Orc):Orc:=qJ 27 (qbM o) o
theorem qpr:OQ Tryz.prog qbU:=fun _ ho=>qL ho fun vs objs K r h=>by
 unfold qbM at h
 split at h
 ·skip
  obtain ⟨t,h1,h2⟩:=qD h
  refine q7 mixed qGV (fn:=Tryz.f27) (b:=(Tryz.f27).body.getD .skip) (by kernel_rfl) (by kernel_rfl) (by kernel_rfl) ((qpj _ _ _).trans h1) (m:=0) rfl (qM.of (l':=[qE Tryz.f27 4,qE Tryz.f27 9,qE Tryz.f27 20,qE Tryz.f27 25,qE Tryz.f27 30]) (by kernel_rfl) ⟨qpw,qpx,qpt,qpu,qpv,trivial⟩) fun v objs' hd=>?_
  unfold qbN at hd;split at hd;(cases hd;exact h2);cases hd
 ·exact ho _ _ _ _ _ h
def qRQ:Ex->List V->List Obj->Option (List Bool×List Bool):=fun e vs objs=>match e,vs,objs with
 | .exit 0,[.s (.ptr 0 0 none 0),.s (.ptr 1 0 none 0)],[.cells 87 [Seg.barr 81 y0],.cells 87 [Seg.barr 81 y1]]=>some (y0,y1)
 | _,_,_=>none
def qRT:HL:=fun vs objs K=>match vs,objs with
 | [.s (.ptr 0 0 none 0),.s (.ptr 1 0 none 0),.s (.ptr 2 0 none 0),.s (.i .i64 x0)],[.cells 28 [.arr .i8 81 x1,.arr .i8 16 x2,.one [.i .i8 x3]],.cells 87 [Seg.barr 81 x4],.cells 87 [Seg.barr 81 x5]]=>ob (qEX qB x0 x1 x2 x3 x4 x5) fun z=>K (.exit 0) ([.s (.ptr 0 0 none 0),.s (.ptr 1 0 none 0)]) ([.cells 87 [Seg.barr 81 (z.1)],.cells 87 [Seg.barr 81 (z.2)]])
 | _,_=>none
def qp9:{R:Type}->Nat->List V->List Obj->(Ex->List V->List Obj->Option R)->Option R:=fun q vs objs K=>bif Nat.beq q 3 then qRT vs objs K else none
def qL9:Ctx:=mkC 18 (qI) [(3,[1,2,3,4],[2,3])] qp9
theorem qbf:CtxOK Tryz.prog qL9:=mkC_ok (qK)
def qRR (f:Nat) (x0:Int) (x1 x2:LI) (x3:Int) (x4 x5:List Bool):Option (List Bool×List Bool):=qe qL9 0 [1,2,3,4] [2,3] (qE Tryz.f44 3) f ([.s (.ptr 0 0 none 0),.s (.ptr 1 0 none 0),.s (.ptr 2 0 none 0),.s (.i .i64 x0)]) ([.cells 28 [.arr .i8 81 x1,.arr .i8 16 x2,.one [.i .i8 x3]],.cells 87 [Seg.barr 81 x4],.cells 87 [Seg.barr 81 x5]]) qRQ
theorem qp8 (f:Nat) (x0:Int) (x1 x2:LI) (x3:Int) (x4 x5:List Bool):qRR (f+1) x0 x1 x2 x3 x4 x5=qH4 (qRR f) x0 x1 x2 x3 x4 x5:=by kernel_rfl
theorem qbh:∀ f,qRR f=qEX f
 | 0=>rfl
 | f+1=>by funext x0 x1 x2 x3 x4 x5; rw [qp8,qbh f]; rfl
theorem qqA:qa Tryz.prog qL9 0 (qE Tryz.f44 3):=
 qg mixed qbf (qM.of (l':=[]) (by kernel_rfl) trivial) (q:=3) (kin:=[1,2,3,4]) (kout:=[2,3]) (by kernel_rfl) (by kernel_rfl) fun vs objs K r h=>by
  replace h:qRT vs objs K=some r:=h
  unfold qRT at h
  split at h
  ·skip
   obtain ⟨t,h1,h2⟩:=qD h
   rw [<- qbh] at h1
   refine ⟨_,qRQ,t,qB,h1,fun e vs' objs' hd=>?_⟩
   unfold qRQ at hd;split at hd;(cases hd;exact h2);cases hd
  ·cases h
def qbg:V->List Obj->Option (List Bool):=fun v objs=>match v,objs with
 | .agg [Seg.barr 81 y0],[]=>some (y0)
 | _,_=>none
theorem qp7 (x0 x1:LI) (x2:Int):fnE qL9 Tryz.f44 ([.agg [.arr .i8 81 x0,.arr .i8 16 x1,.one [.i .i8 x2]]]) ([]) qbg=qEW x0 x1 x2:=by kernel_rfl
def qbe:HA:=fun o vs objs K=>match vs,objs with
 | [.agg [.arr .i8 81 x0,.arr .i8 16 x1,.one [.i .i8 x2]]],[]=>ob (qEW x0 x1 x2) fun y0=>K false (.agg [Seg.barr 81 y0]) ([])
 | _,_=>o 44 vs objs K
def qMA (o:Orc):Orc:=qJ 44 (qbe o) o
theorem qRS:OQ Tryz.prog qMA:=fun _ ho=>qL ho fun vs objs K r h=>by
 unfold qbe at h
 split at h
 ·skip
  obtain ⟨t,h1,h2⟩:=qD h
  refine q7 mixed qbf (fn:=Tryz.f44) (b:=(Tryz.f44).body.getD .skip) (by kernel_rfl) (by kernel_rfl) (by kernel_rfl) ((qp7 _ _ _).trans h1) (m:=0) rfl (qM.of (l':=[qE Tryz.f44 3]) (by kernel_rfl) ⟨qqA,trivial⟩) fun v objs' hd=>?_
  unfold qbg at hd;split at hd;(cases hd;exact h2);cases hd
 ·exact ho _ _ _ _ _ h
def qRb:Ex->List V->List Obj->Option ((Int) ⊕ (Unit)):=fun e vs objs=>match e,vs,objs with
 | .ret,[.s (.i .i64 y0)],[]=>some (.inl (y0))
 | .exit 0,[.s .bad],[]=>some (.inr ())
 | _,_,_=>none
def qRd:HL:=fun vs objs K=>match vs,objs with
 | [.s (.i .i64 x0),.s (.ptr 0 0 none 0),.s (.i .i64 x1)],[.cells 28 [.arr .i8 81 x2,.arr .i8 16 x3,.one [.i .i8 x4]]]=>ob (qFf qB x0 x1 x2 x3 x4) fun t0=>sw t0 (fun y0=>K (.ret) ([.s (.i .i64 y0)]) ([])) (fun _=>K (.exit 0) ([.s .bad]) ([]))
 | _,_=>none
def qqS:{R:Type}->Nat->List V->List Obj->(Ex->List V->List Obj->Option R)->Option R:=fun q vs objs K=>bif Nat.beq q 2 then qRd vs objs K else none
def qME:Ctx:=mkC 20 (qI) [(2,[1,2,5],[4])] qqS
theorem qb0:CtxOK Tryz.prog qME:=mkC_ok (qK)
def qRc (f:Nat) (x0 x1:Int) (x2 x3:LI) (x4:Int):Option ((Int) ⊕ (Unit)):=qe qME 0 [1,2,5] [4] (qE Tryz.f45 2) f ([.s (.i .i64 x0),.s (.ptr 0 0 none 0),.s (.i .i64 x1)]) ([.cells 28 [.arr .i8 81 x2,.arr .i8 16 x3,.one [.i .i8 x4]]]) qRb
theorem qqR (f:Nat) (x0 x1:Int) (x2 x3:LI) (x4:Int):qRc (f+1) x0 x1 x2 x3 x4=qH6 (qRc f) x0 x1 x2 x3 x4:=by kernel_rfl
theorem qb2:∀ f,qRc f=qFf f
 | 0=>rfl
 | f+1=>by funext x0 x1 x2 x3 x4; rw [qqR,qb2 f]; rfl
theorem qqU:qa Tryz.prog qME 0 (qE Tryz.f45 2):=
 qg mixed qb0 (qM.of (l':=[]) (by kernel_rfl) trivial) (q:=2) (kin:=[1,2,5]) (kout:=[4]) (by kernel_rfl) (by kernel_rfl) fun vs objs K r h=>by
  replace h:qRd vs objs K=some r:=h
  unfold qRd at h
  split at h
  ·skip
   obtain ⟨t,h1,h2⟩:=qD h
   rw [<- qb2] at h1
   refine ⟨_,qRb,t,qB,h1,fun e vs' objs' hd=>?_⟩
   unfold qRb at hd
   split at hd
   ·skip
    cases hd
    exact h2
   ·skip
    cases hd
    exact h2
   ·cases hd
  ·cases h
def qb1:V->List Obj->Option (Int):=fun v objs=>match v,objs with
 | .s (.i .i64 y0),[]=>some (y0)
 | _,_=>none
theorem qqQ (x0 x1:LI) (x2 x3:Int):fnE qME Tryz.f45 ([.agg [.arr .i8 81 x0,.arr .i8 16 x1,.one [.i .i8 x2]],.s (.i .i64 x3)]) ([]) qb1=qJX x0 x1 x2 x3:=by kernel_rfl
def qbz:HA:=fun o vs objs K=>match vs,objs with
 | [.agg [.arr .i8 81 x0,.arr .i8 16 x1,.one [.i .i8 x2]],.s (.i .i64 x3)],[]=>ob (qJX x0 x1 x2 x3) fun y0=>K false (.s (.i .i64 y0)) ([])
 | _,_=>o 45 vs objs K
def qb3 (o:Orc):Orc:=qJ 45 (qbz o) o
theorem qqT:OQ Tryz.prog qb3:=fun _ ho=>qL ho fun vs objs K r h=>by
 unfold qbz at h
 split at h
 ·skip
  obtain ⟨t,h1,h2⟩:=qD h
  refine q7 mixed qb0 (fn:=Tryz.f45) (b:=(Tryz.f45).body.getD .skip) (by kernel_rfl) (by kernel_rfl) (by kernel_rfl) ((qqQ _ _ _ _).trans h1) (m:=0) rfl (qM.of (l':=[qE Tryz.f45 2]) (by kernel_rfl) ⟨qqU,trivial⟩) fun v objs' hd=>?_
  unfold qb1 at hd;split at hd;(cases hd;exact h2);cases hd
 ·exact ho _ _ _ _ _ h
def qay:Ctx:=mkC 8 (qI) [] qU
theorem qpQ:CtxOK Tryz.prog qay:=mkC_ok (qK)
def qaz:V->List Obj->Option (Int):=fun v objs=>match v,objs with
 | .s (.i .i64 y0),[]=>some (y0)
 | _,_=>none
theorem qpP (x0:Int):fnE qay Tryz.f116 ([.s (.i .i64 x0)]) ([]) qaz=qFY x0:=by kernel_rfl
def qax:HA:=fun o vs objs K=>match vs,objs with
 | [.s (.i .i64 x0)],[]=>ob (qFY x0) fun y0=>K false (.s (.i .i64 y0)) ([])
 | _,_=>o 116 vs objs K
def qa0 (o:Orc):Orc:=qJ 116 (qax o) o
theorem qpR:OQ Tryz.prog qa0:=fun _ ho=>qL ho fun vs objs K r h=>by
 unfold qax at h
 split at h
 ·skip
  obtain ⟨t,h1,h2⟩:=qD h
  refine qX mixed qpQ ((qpP _).trans h1) (by kernel_rfl) fun v objs' hd=>?_
  unfold qaz at hd;split at hd;(cases hd;exact h2);cases hd
 ·exact ho _ _ _ _ _ h
def qau:Ctx:=mkC 125 ((qDE (qFX (qa0 qI)))) [] qU
theorem qpN:CtxOK Tryz.prog qau:=mkC_ok ((qDn _ (qGU _ (qpR _ qK))))
def qav:V->List Obj->Option (Bool):=fun v objs=>match v,objs with
 | .s (.b y0),[]=>some (y0)
 | _,_=>none
theorem qpM (x0 x1 x2:Int):fnE qau Tryz.f87 ([.s (.i .i64 x0),.s (.i .i64 x1),.s (.i .i64 x2)]) ([]) qav=qJS x0 x1 x2:=by kernel_rfl
def qat:HA:=fun o vs objs K=>match vs,objs with
 | [.s (.i .i64 x0),.s (.i .i64 x1),.s (.i .i64 x2)],[]=>ob (qJS x0 x1 x2) fun y0=>K false (.s (.b y0)) ([])
 | _,_=>o 87 vs objs K
def qaw (o:Orc):Orc:=qJ 87 (qat o) o
theorem qpO:OQ Tryz.prog qaw:=fun _ ho=>qL ho fun vs objs K r h=>by
 unfold qat at h
 split at h
 ·skip
  obtain ⟨t,h1,h2⟩:=qD h
  refine qX mixed qpN ((qpM _ _ _).trans h1) (by kernel_rfl) fun v objs' hd=>?_
  unfold qav at hd;split at hd;(cases hd;exact h2);cases hd
 ·exact ho _ _ _ _ _ h
def qbC:Ctx:=mkC 51 (qI) [] qU
theorem qpd:CtxOK Tryz.prog qbC:=mkC_ok (qK)
def qbD:V->List Obj->Option (Int):=fun v objs=>match v,objs with
 | .s (.i .i64 y0),[]=>some (y0)
 | _,_=>none
theorem qpc (x0 x1:Int):fnE qbC Tryz.f88 ([.s (.i .i64 x0),.s (.i .i64 x1)]) ([]) qbD=qH1 x0 x1:=by kernel_rfl
def qbB:HA:=fun o vs objs K=>match vs,objs with
 | [.s (.i .i64 x0),.s (.i .i64 x1)],[]=>ob (qH1 x0 x1) fun y0=>K false (.s (.i .i64 y0)) ([])
 | _,_=>o 88 vs objs K
def qQz (o:Orc):Orc:=qJ 88 (qbB o) o
theorem qbE:OQ Tryz.prog qQz:=fun _ ho=>qL ho fun vs objs K r h=>by
 unfold qbB at h
 split at h
 ·skip
  obtain ⟨t,h1,h2⟩:=qD h
  refine qX mixed qpd ((qpc _ _).trans h1) (by kernel_rfl) fun v objs' hd=>?_
  unfold qbD at hd;split at hd;(cases hd;exact h2);cases hd
 ·exact ho _ _ _ _ _ h
def qbJ:Ctx:=mkC 7 (qI) [] qU
theorem qph:CtxOK Tryz.prog qbJ:=mkC_ok (qK)
def qbK:V->List Obj->Option (Int):=fun v objs=>match v,objs with
 | .s (.i .i64 y0),[]=>some (y0)
 | _,_=>none
theorem qpg (x0:Int):fnE qbJ Tryz.f143 ([.s (.i .i64 x0)]) ([]) qbK=qH2 x0:=by kernel_rfl
def qbI:HA:=fun o vs objs K=>match vs,objs with
 | [.s (.i .i64 x0)],[]=>ob (qH2 x0) fun y0=>K false (.s (.i .i64 y0)) ([])
 | _,_=>o 143 vs objs K
def qbL (o:Orc):Orc:=qJ 143 (qbI o) o
theorem qpi:OQ Tryz.prog qbL:=fun _ ho=>qL ho fun vs objs K r h=>by
 unfold qbI at h
 split at h
 ·skip
  obtain ⟨t,h1,h2⟩:=qD h
  refine qX mixed qph ((qpg _).trans h1) (by kernel_rfl) fun v objs' hd=>?_
  unfold qbK at hd;split at hd;(cases hd;exact h2);cases hd
 ·exact ho _ _ _ _ _ h
end
end Go.Kk.KkLN
