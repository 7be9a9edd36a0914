/- Printed by a tool of this project (KkGen): the program's functions come to the plain ones. -/
import Derived.Test.YtpppdecfohkkfaaGreatDoorKkLOc
namespace Go.Kk.KkLO
noncomputable section
open Go.Proofs Go.Kk.Pl
set_option maxRecDepth 100000
set_option maxHeartbeats 4000000
def qeV:Ctx:=mkC 8 (qK) [] qX
theorem qtD:CtxOK Tryz.prog qeV:=mkC_ok (qM)
def qeW:V->List Obj->Option (Int):=fun v objs=>match v,objs with
 | .s (.i .i64 y0),[]=>some (y0)
 | _,_=>none
theorem qtC (x0:ByteArray) (x1:Int):fnE qeV Tryz.f155 ([.s (.str x0),.s (.i .u8 x1)]) ([]) qeW=qMh x0 x1:=by kernel_rfl
def qeU:HA:=fun o vs objs K=>match vs,objs with
 | [.s (.str x0),.s (.i .u8 x1)],[]=>ob (qMh x0 x1) fun y0=>K false (.s (.i .i64 y0)) ([])
 | _,_=>o 155 vs objs K
def qeX (o:Orc):Orc:=qL 155 (qeU o) o
theorem qtE:OQ Tryz.prog qeX:=fun _ ho=>qN ho fun vs objs K r h=>by
 unfold qeU at h
 split at h
 ·skip
  obtain ⟨t,h1,h2⟩:=qE h
  refine qf mixed qtD ((qtC _ _).trans h1) (by kernel_rfl) fun v objs' hd=>?_
  unfold qeW at hd;split at hd;(cases hd;exact h2);cases hd
 ·exact ho _ _ _ _ _ h
def qSl:Ctx:=mkC 143 ((qeX qK)) [(15,[0,1,5,6,7,8,9,10],[4])] qX
theorem qeZ:CtxOK Tryz.prog qSl:=mkC_ok ((qtE _ qM))
theorem qtH:qe Tryz.prog qSl 0 (qG Tryz.f141 15):=
 qh mixed qeZ (qO.of (l':=[]) (by kernel_rfl) trivial) (q:=15) (kin:=[0,1,5,6,7,8,9,10]) (kout:=[4]) (by kernel_rfl) (by kernel_rfl) fun vs objs K r h=>by
  replace h:none=some r:=h
  cases h
def qea:V->List Obj->Option (Int):=fun v objs=>match v,objs with
 | .s (.i .i64 y0),[]=>some (y0)
 | _,_=>none
theorem qtF (x0 x1:ByteArray):fnE qSl Tryz.f141 ([.s (.str x0),.s (.str x1)]) ([]) qea=qJk x0 x1:=by kernel_rfl
def qeY:HA:=fun o vs objs K=>match vs,objs with
 | [.s (.str x0),.s (.str x1)],[]=>ob (qJk x0 x1) fun y0=>K false (.s (.i .i64 y0)) ([])
 | _,_=>o 141 vs objs K
def qeb (o:Orc):Orc:=qL 141 (qeY o) o
theorem qtG:OQ Tryz.prog qeb:=fun _ ho=>qN ho fun vs objs K r h=>by
 unfold qeY at h
 split at h
 ·skip
  obtain ⟨t,h1,h2⟩:=qE h
  refine q8 mixed qeZ (fn:=Tryz.f141) (b:=(Tryz.f141).body.getD .skip) (by kernel_rfl) (by kernel_rfl) (by kernel_rfl) ((qtF _ _).trans h1) (m:=0) rfl (qO.of (l':=[qG Tryz.f141 15]) (by kernel_rfl) ⟨qtH,trivial⟩) fun v objs' hd=>?_
  unfold qea at hd;split at hd;(cases hd;exact h2);cases hd
 ·exact ho _ _ _ _ _ h
def qd9:Ctx:=mkC 8 ((qeb qK)) [] qX
theorem qsw:CtxOK Tryz.prog qd9:=mkC_ok ((qtG _ qM))
def qeA:V->List Obj->Option (Int):=fun v objs=>match v,objs with
 | .s (.i .i64 y0),[]=>some (y0)
 | _,_=>none
theorem qsv (x0 x1:ByteArray):fnE qd9 Tryz.f110 ([.s (.str x0),.s (.str x1)]) ([]) qeA=qD5 x0 x1:=by kernel_rfl
def qd8:HA:=fun o vs objs K=>match vs,objs with
 | [.s (.str x0),.s (.str x1)],[]=>ob (qD5 x0 x1) fun y0=>K false (.s (.i .i64 y0)) ([])
 | _,_=>o 110 vs objs K
def qSc (o:Orc):Orc:=qL 110 (qd8 o) o
theorem qeB:OQ Tryz.prog qSc:=fun _ ho=>qN ho fun vs objs K r h=>by
 unfold qd8 at h
 split at h
 ·skip
  obtain ⟨t,h1,h2⟩:=qE h
  refine qf mixed qsw ((qsv _ _).trans h1) (by kernel_rfl) fun v objs' hd=>?_
  unfold qeA at hd;split at hd;(cases hd;exact h2);cases hd
 ·exact ho _ _ _ _ _ h
def qSZ:Ex->List V->List Obj->Option (Int):=fun e vs objs=>match e,vs,objs with
 | .ret,[.s (.i .i64 y0)],[]=>some (y0)
 | _,_,_=>none
def qSb:HL:=fun vs objs K=>match vs,objs with
 | [.s (.str x0),.s (.str x1),.s (.i .i64 x2)],[]=>ob (qMc qB x0 x1 x2) fun y0=>K (.ret) ([.s (.i .i64 y0)]) ([])
 | _,_=>none
def qss:{R:Type}->Nat->List V->List Obj->(Ex->List V->List Obj->Option R)->Option R:=fun q vs objs K=>bif Nat.beq q 6 then qSb vs objs K else none
def qMb:Ctx:=mkC 34 ((qSc (qS1 qK))) [(6,[0,1,5],[4])] qss
theorem qd3:CtxOK Tryz.prog qMb:=mkC_ok ((qeB _ (qez _ qM)))
def qSa (f:Nat) (x0 x1:ByteArray) (x2:Int):Option (Int):=qg qMb 0 [0,1,5] [4] (qG Tryz.f109 6) f ([.s (.str x0),.s (.str x1),.s (.i .i64 x2)]) ([]) qSZ
theorem qsr (f:Nat) (x0 x1:ByteArray) (x2:Int):qSa (f+1) x0 x1 x2=qd6 (qSa f) x0 x1 x2:=by kernel_rfl
theorem qd5:∀ f,qSa f=qMc f
 | 0=>rfl
 | f+1=>by funext x0 x1 x2;rw [qsr,qd5 f];rfl
theorem qsu:qe Tryz.prog qMb 0 (qG Tryz.f109 6):=
 qh mixed qd3 (qO.of (l':=[]) (by kernel_rfl) trivial) (q:=6) (kin:=[0,1,5]) (kout:=[4]) (by kernel_rfl) (by kernel_rfl) fun vs objs K r h=>by
  replace h:qSb vs objs K=some r:=h
  unfold qSb at h
  split at h
  ·skip
   obtain ⟨t,h1,h2⟩:=qE h
   rw [<- qd5] at h1
   refine ⟨_,qSZ,t,qB,h1,fun e vs' objs' hd=>?_⟩
   unfold qSZ at hd;split at hd;(cases hd;exact h2);cases hd
  ·cases h
def qd4:V->List Obj->Option (Int):=fun v objs=>match v,objs with
 | .s (.i .i64 y0),[]=>some (y0)
 | _,_=>none
theorem qsq (x0 x1:ByteArray):fnE qMb Tryz.f109 ([.s (.str x0),.s (.str x1)]) ([]) qd4=qJi x0 x1:=by kernel_rfl
def qd2:HA:=fun o vs objs K=>match vs,objs with
 | [.s (.str x0),.s (.str x1)],[]=>ob (qJi x0 x1) fun y0=>K false (.s (.i .i64 y0)) ([])
 | _,_=>o 109 vs objs K
def qd7 (o:Orc):Orc:=qL 109 (qd2 o) o
theorem qst:OQ Tryz.prog qd7:=fun _ ho=>qN ho fun vs objs K r h=>by
 unfold qd2 at h
 split at h
 ·skip
  obtain ⟨t,h1,h2⟩:=qE h
  refine q8 mixed qd3 (fn:=Tryz.f109) (b:=(Tryz.f109).body.getD .skip) (by kernel_rfl) (by kernel_rfl) (by kernel_rfl) ((qsq _ _).trans h1) (m:=0) rfl (qO.of (l':=[qG Tryz.f109 6]) (by kernel_rfl) ⟨qsu,trivial⟩) fun v objs' hd=>?_
  unfold qd4 at hd;split at hd;(cases hd;exact h2);cases hd
 ·exact ho _ _ _ _ _ h
def qSi:Ex->List V->List Obj->Option (ByteArray×Nat×Int×Nat×LL):=fun e vs objs=>match e,vs,objs with
 | .exit 0,[.s (.str y0),.s (.sl 0 0 y1 true),.s (.i .i64 y2)],[.sli 9 false (.rows [CK.s] y3 y4)]=>some (y0,y1,y2,y3,y4)
 | _,_,_=>none
def qSk:HL:=fun vs objs K=>match vs,objs with
 | [.s (.str x0),.s (.str x1),.s (.i .i64 x2),.s (.i .i64 x3),.s (.sl 0 0 x4 true),.s (.i .i64 x5)],[.sli 9 false (.rows [CK.s] x6 x7)]=>ob (qEi qB x0 x1 x2 x3 x4 x5 x6 x7) fun z=>K (.exit 0) ([.s (.str (z.1)),.s (.sl 0 0 (z.2.1) true),.s (.i .i64 (z.2.2.1))]) ([.sli 9 false (.rows [CK.s] (z.2.2.2.1) (z.2.2.2.2))])
 | _,_=>none
def qs9:{R:Type}->Nat->List V->List Obj->(Ex->List V->List Obj->Option R)->Option R:=fun q vs objs K=>bif Nat.beq q 11 then qSk vs objs K else none
def qMf:Ctx:=mkC 66 ((qSc (qd7 (qeO qK)))) [(11,[0,1,2,3,9,10],[0,9,10])] qs9
theorem qeQ:CtxOK Tryz.prog qMf:=mkC_ok ((qeB _ (qst _ (qs5 _ qM))))
def qSj (f:Nat) (x0 x1:ByteArray) (x2 x3:Int) (x4:Nat) (x5:Int) (x6:Nat) (x7:LL):Option (ByteArray×Nat×Int×Nat×LL):=qg qMf 0 [0,1,2,3,9,10] [0,9,10] (qG Tryz.f79 11) f ([.s (.str x0),.s (.str x1),.s (.i .i64 x2),.s (.i .i64 x3),.s (.sl 0 0 x4 true),.s (.i .i64 x5)]) ([.sli 9 false (.rows [CK.s] x6 x7)]) qSi
theorem qs8 (f:Nat) (x0 x1:ByteArray) (x2 x3:Int) (x4:Nat) (x5:Int) (x6:Nat) (x7:LL):qSj (f+1) x0 x1 x2 x3 x4 x5 x6 x7=qMg (qSj f) x0 x1 x2 x3 x4 x5 x6 x7:=by kernel_rfl
theorem qeS:∀ f,qSj f=qEi f
 | 0=>rfl
 | f+1=>by funext x0 x1 x2 x3 x4 x5 x6 x7;rw [qs8,qeS f];rfl
theorem qtB:qe Tryz.prog qMf 0 (qG Tryz.f79 11):=
 qh mixed qeQ (qO.of (l':=[]) (by kernel_rfl) trivial) (q:=11) (kin:=[0,1,2,3,9,10]) (kout:=[0,9,10]) (by kernel_rfl) (by kernel_rfl) fun vs objs K r h=>by
  replace h:qSk vs objs K=some r:=h
  unfold qSk at h
  split at h
  ·skip
   obtain ⟨t,h1,h2⟩:=qE h
   rw [<- qeS] at h1
   refine ⟨_,qSi,t,qB,h1,fun e vs' objs' hd=>?_⟩
   unfold qSi at hd;split at hd;(cases hd;exact h2);cases hd
  ·cases h
def qeR:V->List Obj->Option (Nat×Nat×LL):=fun v objs=>match v,objs with
 | .s (.sl 0 0 y0 true),[.sli 9 false (.rows [CK.s] y1 y2)]=>some (y0,y1,y2)
 | _,_=>none
theorem qs7 (x0 x1:ByteArray) (x2 x3:Int):fnE qMf Tryz.f79 ([.s (.str x0),.s (.str x1),.s (.i .i64 x2),.s (.i .i64 x3)]) ([]) qeR=qMe x0 x1 x2 x3:=by kernel_rfl
def qeP:HA:=fun o vs objs K=>match vs,objs with
 | [.s (.str x0),.s (.str x1),.s (.i .i64 x2),.s (.i .i64 x3)],[]=>ob (qMe x0 x1 x2 x3) fun z=>K false (.s (.sl 0 0 (z.1) true)) ([.sli 9 false (.rows [CK.s] (z.2.1) (z.2.2))])
 | _,_=>o 79 vs objs K
def qeT (o:Orc):Orc:=qL 79 (qeP o) o
theorem qtA:OQ Tryz.prog qeT:=fun _ ho=>qN ho fun vs objs K r h=>by
 unfold qeP at h
 split at h
 ·skip
  obtain ⟨t,h1,h2⟩:=qE h
  refine q8 mixed qeQ (fn:=Tryz.f79) (b:=(Tryz.f79).body.getD .skip) (by kernel_rfl) (by kernel_rfl) (by kernel_rfl) ((qs7 _ _ _ _).trans h1) (m:=0) rfl (qO.of (l':=[qG Tryz.f79 11]) (by kernel_rfl) ⟨qtB,trivial⟩) fun v objs' hd=>?_
  unfold qeR at hd;split at hd;(cases hd;exact h2);cases hd
 ·exact ho _ _ _ _ _ h
def qeG:Ctx:=mkC 8 ((qeT qK)) [] qX
theorem qs0:CtxOK Tryz.prog qeG:=mkC_ok ((qtA _ qM))
def qeH:V->List Obj->Option (Nat×Nat×LL):=fun v objs=>match v,objs with
 | .s (.sl 0 0 y0 true),[.sli 9 false (.rows [CK.s] y1 y2)]=>some (y0,y1,y2)
 | _,_=>none
theorem qsz (x0 x1:ByteArray):fnE qeG Tryz.f36 ([.s (.str x0),.s (.str x1)]) ([]) qeH=qJj x0 x1:=by kernel_rfl
def qeF:HA:=fun o vs objs K=>match vs,objs with
 | [.s (.str x0),.s (.str x1)],[]=>ob (qJj x0 x1) fun z=>K false (.s (.sl 0 0 (z.1) true)) ([.sli 9 false (.rows [CK.s] (z.2.1) (z.2.2))])
 | _,_=>o 36 vs objs K
def qeI (o:Orc):Orc:=qL 36 (qeF o) o
theorem qs1:OQ Tryz.prog qeI:=fun _ ho=>qN ho fun vs objs K r h=>by
 unfold qeF at h
 split at h
 ·skip
  obtain ⟨t,h1,h2⟩:=qE h
  refine qf mixed qs0 ((qsz _ _).trans h1) (by kernel_rfl) fun v objs' hd=>?_
  unfold qeH at hd;split at hd;(cases hd;exact h2);cases hd
 ·exact ho _ _ _ _ _ h
def qQP:Ex->List V->List Obj->Option ((Int)⊕(Unit)):=fun e vs objs=>match e,vs,objs with
 | .ret,[.s (.i .i8 y0)],[]=>some (.inl (y0))
 | .exit 0,[.s .bad],[]=>some (.inr ())
 | _,_,_=>none
def qQR:HL:=fun vs objs K=>match vs,objs with
 | [.s (.i .i32 x0),.s (.b x1),.s (.i .i64 x2),.s (S.it 0)],[Obj.iter x3 x4]=>ob (qDn qB x0 x1 x2 x3 x4) fun t0=>sw t0 (fun y0=>K (.ret) ([.s (.i .i8 y0)]) ([])) (fun _=>K (.exit 0) ([.s .bad]) ([]))
 | _,_=>none
def qn1:{R:Type}->Nat->List V->List Obj->(Ex->List V->List Obj->Option R)->Option R:=fun q vs objs K=>bif Nat.beq q 6 then qQR vs objs K else none
def qLb:Ctx:=mkC 34 ((qDm (qJF qK))) [(6,[0,1,5,16],[4])] qn1
theorem qZb:CtxOK Tryz.prog qLb:=mkC_ok ((qEU _ (qLf _ qM)))
def qQQ (f:Nat) (x0:Int) (x1:Bool) (x2:Int) (x3:ByteArray) (x4:Nat):Option ((Int)⊕(Unit)):=qg qLb 0 [0,1,5,16] [4] (qG Tryz.f80 6) f ([.s (.i .i32 x0),.s (.b x1),.s (.i .i64 x2),.s (S.it 0)]) ([Obj.iter x3 x4]) qQP
theorem qn0 (f:Nat) (x0:Int) (x1:Bool) (x2:Int) (x3:ByteArray) (x4:Nat):qQQ (f+1) x0 x1 x2 x3 x4=qLc (qQQ f) x0 x1 x2 x3 x4:=by kernel_rfl
theorem qZd:∀ f,qQQ f=qDn f
 | 0=>rfl
 | f+1=>by funext x0 x1 x2 x3 x4;rw [qn0,qZd f];rfl
theorem qn3:qe Tryz.prog qLb 0 (qG Tryz.f80 6):=
 qh mixed qZb (qO.of (l':=[]) (by kernel_rfl) trivial) (q:=6) (kin:=[0,1,5,16]) (kout:=[4]) (by kernel_rfl) (by kernel_rfl) fun vs objs K r h=>by
  replace h:qQR vs objs K=some r:=h
  unfold qQR at h
  split at h
  ·skip
   obtain ⟨t,h1,h2⟩:=qE h
   rw [<- qZd] at h1
   refine ⟨_,qQP,t,qB,h1,fun e vs' objs' hd=>?_⟩
   unfold qQP at hd
   split at hd
   ·skip
    cases hd
    exact h2
   ·skip
    cases hd
    exact h2
   ·cases hd
  ·cases h
def qZc:V->List Obj->Option (Int):=fun v objs=>match v,objs with
 | .s (.i .i8 y0),[]=>some (y0)
 | _,_=>none
theorem qnz (x0:Int) (x1:Bool):fnE qLb Tryz.f80 ([.s (.i .i32 x0),.s (.b x1)]) ([]) qZc=qFN x0 x1:=by kernel_rfl
def qZa:HA:=fun o vs objs K=>match vs,objs with
 | [.s (.i .i32 x0),.s (.b x1)],[]=>ob (qFN x0 x1) fun y0=>K false (.s (.i .i8 y0)) ([])
 | _,_=>o 80 vs objs K
def qZe (o:Orc):Orc:=qL 80 (qZa o) o
theorem qn2:OQ Tryz.prog qZe:=fun _ ho=>qN ho fun vs objs K r h=>by
 unfold qZa at h
 split at h
 ·skip
  obtain ⟨t,h1,h2⟩:=qE h
  refine q8 mixed qZb (fn:=Tryz.f80) (b:=(Tryz.f80).body.getD .skip) (by kernel_rfl) (by kernel_rfl) (by kernel_rfl) ((qnz _ _).trans h1) (m:=0) rfl (qO.of (l':=[qG Tryz.f80 6]) (by kernel_rfl) ⟨qn3,trivial⟩) fun v objs' hd=>?_
  unfold qZc at hd;split at hd;(cases hd;exact h2);cases hd
 ·exact ho _ _ _ _ _ h
def qYx:Ctx:=mkC 17 ((set_Squareo qK)) [] qX
theorem qmR:CtxOK Tryz.prog qYx:=mkC_ok ((set_Squareo_ok _ qM))
def qYy:V->List Obj->Option (Int×Bool):=fun v objs=>match v,objs with
 | .tup [W.s (.i .i64 y0),W.s (.b y1)],[]=>some (y0,y1)
 | _,_=>none
theorem qmQ (x0 x1:Int):fnE qYx Tryz.f81 ([.s (.i .i32 x0),.s (.i .i32 x1)]) ([]) qYy=qDA x0 x1:=by kernel_rfl
def qYw:HA:=fun o vs objs K=>match vs,objs with
 | [.s (.i .i32 x0),.s (.i .i32 x1)],[]=>ob (qDA x0 x1) fun z=>K false (.tup [W.s (.i .i64 (z.1)),W.s (.b (z.2))]) ([])
 | _,_=>o 81 vs objs K
def qYz (o:Orc):Orc:=qL 81 (qYw o) o
theorem qmS:OQ Tryz.prog qYz:=fun _ ho=>qN ho fun vs objs K r h=>by
 unfold qYw at h
 split at h
 ·skip
  obtain ⟨t,h1,h2⟩:=qE h
  refine qf mixed qmR ((qmQ _ _).trans h1) (by kernel_rfl) fun v objs' hd=>?_
  unfold qYy at hd;split at hd;(cases hd;exact h2);cases hd
 ·exact ho _ _ _ _ _ h
def qP3:Ex->List V->List Obj->Option (Nat×Int×Int×Int×Bool×Nat×LI):=fun e vs objs=>match e,vs,objs with
 | .exit 0,[.s (.ptr 0 0 none 0),.s (.sl 1 0 y0 true)],[.cells 37 [.one [.i .i64 y1,.i .i64 y2,.i .i64 y3,.b y4]],.sli 21 false (.arr .i32 y5 y6)]=>some (y0,y1,y2,y3,y4,y5,y6)
 | _,_,_=>none
def qP5:HL:=fun vs objs K=>match vs,objs with
 | [.s (.ptr 0 0 none 0),.s (.sl 1 0 x0 true),.s (S.it 2)],[.cells 37 [.one [.i .i64 x1,.i .i64 x2,.i .i64 x3,.b x4]],.sli 21 false (.arr .i32 x5 x6),Obj.iter x7 x8]=>ob (qBC qB x0 x1 x2 x3 x4 x5 x6 x7 x8) fun z=>K (.exit 0) ([.s (.ptr 0 0 none 0),.s (.sl 1 0 (z.1) true)]) ([.cells 37 [.one [.i .i64 (z.2.1),.i .i64 (z.2.2.1),.i .i64 (z.2.2.2.1),.b (z.2.2.2.2.1)]],.sli 21 false (.arr .i32 (z.2.2.2.2.2.1) (z.2.2.2.2.2.2))])
 | _,_=>none
def qmH:{R:Type}->Nat->List V->List Obj->(Ex->List V->List Obj->Option R)->Option R:=fun q vs objs K=>bif Nat.beq q 3 then qP5 vs objs K else none
def qLN:Ctx:=mkC 127 ((qDo (qYz (qZe qK)))) [(3,[2,4,16],[2,4])] qmH
theorem qYk:CtxOK Tryz.prog qLN:=mkC_ok ((qEV _ (qmS _ (qn2 _ qM))))
def qP4 (f:Nat) (x0:Nat) (x1 x2 x3:Int) (x4:Bool) (x5:Nat) (x6:LI) (x7:ByteArray) (x8:Nat):Option (Nat×Int×Int×Int×Bool×Nat×LI):=qg qLN 0 [2,4,16] [2,4] (qG Tryz.f37 3) f ([.s (.ptr 0 0 none 0),.s (.sl 1 0 x0 true),.s (S.it 2)]) ([.cells 37 [.one [.i .i64 x1,.i .i64 x2,.i .i64 x3,.b x4]],.sli 21 false (.arr .i32 x5 x6),Obj.iter x7 x8]) qP3
theorem qmG (f:Nat) (x0:Nat) (x1 x2 x3:Int) (x4:Bool) (x5:Nat) (x6:LI) (x7:ByteArray) (x8:Nat):qP4 (f+1) x0 x1 x2 x3 x4 x5 x6 x7 x8=qCR (qP4 f) x0 x1 x2 x3 x4 x5 x6 x7 x8:=by kernel_rfl
theorem qYm:∀ f,qP4 f=qBC f
 | 0=>rfl
 | f+1=>by funext x0 x1 x2 x3 x4 x5 x6 x7 x8;rw [qmG,qYm f];rfl
theorem qmJ:qe Tryz.prog qLN 0 (qG Tryz.f37 3):=
 qh mixed qYk (qO.of (l':=[]) (by kernel_rfl) trivial) (q:=3) (kin:=[2,4,16]) (kout:=[2,4]) (by kernel_rfl) (by kernel_rfl) fun vs objs K r h=>by
  replace h:qP5 vs objs K=some r:=h
  unfold qP5 at h
  split at h
  ·skip
   obtain ⟨t,h1,h2⟩:=qE h
   rw [<- qYm] at h1
   refine ⟨_,qP3,t,qB,h1,fun e vs' objs' hd=>?_⟩
   unfold qP3 at hd;split at hd;(cases hd;exact h2);cases hd
  ·cases h
def qYl:V->List Obj->Option (Int×Int×Int×Bool×Int):=fun v objs=>match v,objs with
 | .tup [W.agg [.one [.i .i64 y0,.i .i64 y1,.i .i64 y2,.b y3]],W.s (.i .i64 y4)],[]=>some (y0,y1,y2,y3,y4)
 | _,_=>none
theorem qmF (x0:ByteArray):fnE qLN Tryz.f37 ([.s (.str x0)]) ([]) qYl=qDk x0:=by kernel_rfl
def qYj:HA:=fun o vs objs K=>match vs,objs with
 | [.s (.str x0)],[]=>ob (qDk x0) fun z=>K false (.tup [W.agg [.one [.i .i64 (z.1),.i .i64 (z.2.1),.i .i64 (z.2.2.1),.b (z.2.2.2.1)]],W.s (.i .i64 (z.2.2.2.2))]) ([])
 | _,_=>o 37 vs objs K
def qYn (o:Orc):Orc:=qL 37 (qYj o) o
theorem qmI:OQ Tryz.prog qYn:=fun _ ho=>qN ho fun vs objs K r h=>by
 unfold qYj at h
 split at h
 ·skip
  obtain ⟨t,h1,h2⟩:=qE h
  refine q8 mixed qYk (fn:=Tryz.f37) (b:=(Tryz.f37).body.getD .skip) (by kernel_rfl) (by kernel_rfl) (by kernel_rfl) ((qmF _).trans h1) (m:=0) rfl (qO.of (l':=[qG Tryz.f37 3]) (by kernel_rfl) ⟨qmJ,trivial⟩) fun v objs' hd=>?_
  unfold qYl at hd;split at hd;(cases hd;exact h2);cases hd
 ·exact ho _ _ _ _ _ h
def qPc:Ex->List V->List Obj->Option ((Nat×Int×Int×Nat×Nat×LL×Nat×LL)⊕(Nat×Nat×LL)):=fun e vs objs=>match e,vs,objs with
 | .ret,[.s (.sl 0 0 y0 true),.s (.i .i64 y1),.s (.i .i64 y2),.s (.sl 1 0 y3 true)],[.sli 37 false (.rows [.i .i64,.i .i64,.i .i64,.b] y4 y5),.sli 37 false (.rows [.i .i64,.i .i64,.i .i64,.b] y6 y7)]=>some (.inl (y0,y1,y2,y3,y4,y5,y6,y7))
 | .exit 0,[.s .bad,.s .bad,.s .bad,.s (.sl 0 0 y0 true)],[.sli 37 false (.rows [.i .i64,.i .i64,.i .i64,.b] y1 y2)]=>some (.inr (y0,y1,y2))
 | _,_,_=>none
def qPf:HL:=fun vs objs K=>match vs,objs with
 | [.s (.sl 0 0 x0 true),.s (.sl 1 0 x1 true),.s (.i .i64 x2),.s (.i .i64 x3)],[.sli 37 false (.rows [.i .i64,.i .i64,.i .i64,.b] x4 x5),.sli 9 false (.rows [CK.s] x6 x7)]=>ob (qEQ qB x0 x1 x2 x3 x4 x5 x6 x7) fun t0=>sw t0 (fun z=>K (.ret) ([.s (.sl 0 0 (z.1) true),.s (.i .i64 (z.2.1)),.s (.i .i64 (z.2.2.1)),.s (.sl 1 0 (z.2.2.2.1) true)]) ([.sli 37 false (.rows [.i .i64,.i .i64,.i .i64,.b] (z.2.2.2.2.1) (z.2.2.2.2.2.1)),.sli 37 false (.rows [.i .i64,.i .i64,.i .i64,.b] (z.2.2.2.2.2.2.1) (z.2.2.2.2.2.2.2))])) (fun z=>K (.exit 0) ([.s .bad,.s .bad,.s .bad,.s (.sl 0 0 (z.1) true)]) ([.sli 37 false (.rows [.i .i64,.i .i64,.i .i64,.b] (z.2.1) (z.2.2))]))
 | _,_=>none
def qlS:{R:Type}->Nat->List V->List Obj->(Ex->List V->List Obj->Option R)->Option R:=fun q vs objs K=>bif Nat.beq q 5 then qPf vs objs K else none
def qK5:Ctx:=mkC 37 ((qYn (qeI qK))) [(5,[5,13,14,15],[2,3,4,5])] qlS
theorem qXs:CtxOK Tryz.prog qK5:=mkC_ok ((qmI _ (qs1 _ qM)))
def qPd (f:Nat) (x0 x1:Nat) (x2 x3:Int) (x4:Nat) (x5:LL) (x6:Nat) (x7:LL):Option ((Nat×Int×Int×Nat×Nat×LL×Nat×LL)⊕(Nat×Nat×LL)):=qg qK5 0 [5,13,14,15] [2,3,4,5] (qG Tryz.f15 5) f ([.s (.sl 0 0 x0 true),.s (.sl 1 0 x1 true),.s (.i .i64 x2),.s (.i .i64 x3)]) ([.sli 37 false (.rows [.i .i64,.i .i64,.i .i64,.b] x4 x5),.sli 9 false (.rows [CK.s] x6 x7)]) qPc
theorem qlR (f:Nat) (x0 x1:Nat) (x2 x3:Int) (x4:Nat) (x5:LL) (x6:Nat) (x7:LL):qPd (f+1) x0 x1 x2 x3 x4 x5 x6 x7=qK6 (qPd f) x0 x1 x2 x3 x4 x5 x6 x7:=by kernel_rfl
theorem qXu:∀ f,qPd f=qEQ f
 | 0=>rfl
 | f+1=>by funext x0 x1 x2 x3 x4 x5 x6 x7;rw [qlR,qXu f];rfl
theorem qlT:qe Tryz.prog qK5 0 (qG Tryz.f15 5):=
 qh mixed qXs (qO.of (l':=[]) (by kernel_rfl) trivial) (q:=5) (kin:=[5,13,14,15]) (kout:=[2,3,4,5]) (by kernel_rfl) (by kernel_rfl) fun vs objs K r h=>by
  replace h:qPf vs objs K=some r:=h
  unfold qPf at h
  split at h
  ·skip
   obtain ⟨t,h1,h2⟩:=qE h
   rw [<- qXu] at h1
   refine ⟨_,qPc,t,qB,h1,fun e vs' objs' hd=>?_⟩
   unfold qPc at hd
   split at hd
   ·skip
    cases hd
    exact h2
   ·skip
    cases hd
    exact h2
   ·cases hd
  ·cases h
def qXt:V->List Obj->Option (Nat×Int×Int×Nat×LL):=fun v objs=>match v,objs with
 | .tup [W.s (.sl 0 0 y0 true),W.s (.i .i64 y1),W.s (.i .i64 y2)],[.sli 37 false (.rows [.i .i64,.i .i64,.i .i64,.b] y3 y4)]=>some (y0,y1,y2,y3,y4)
 | _,_=>none
theorem qlQ (x0:ByteArray):fnE qK5 Tryz.f15 ([.s (.str x0)]) ([]) qXt=qHY x0:=by kernel_rfl
def qXr:HA:=fun o vs objs K=>match vs,objs with
 | [.s (.str x0)],[]=>ob (qHY x0) fun z=>K false (.tup [W.s (.sl 0 0 (z.1) true),W.s (.i .i64 (z.2.1)),W.s (.i .i64 (z.2.2.1))]) ([.sli 37 false (.rows [.i .i64,.i .i64,.i .i64,.b] (z.2.2.2.1) (z.2.2.2.2))])
 | _,_=>o 15 vs objs K
def qPe (o:Orc):Orc:=qL 15 (qXr o) o
theorem qXv:OQ Tryz.prog qPe:=fun _ ho=>qN ho fun vs objs K r h=>by
 unfold qXr at h
 split at h
 ·skip
  obtain ⟨t,h1,h2⟩:=qE h
  refine q8 mixed qXs (fn:=Tryz.f15) (b:=(Tryz.f15).body.getD .skip) (by kernel_rfl) (by kernel_rfl) (by kernel_rfl) ((qlQ _).trans h1) (m:=0) rfl (qO.of (l':=[qG Tryz.f15 5]) (by kernel_rfl) ⟨qlT,trivial⟩) fun v objs' hd=>?_
  unfold qXt at hd;split at hd;(cases hd;exact h2);cases hd
 ·exact ho _ _ _ _ _ h
def qZU:Ctx:=mkC 25 ((qDo (qLd (qCr qK)))) [] qX
theorem qnv:CtxOK Tryz.prog qZU:=mkC_ok ((qEV _ (qQS _ (qDC _ qM))))
def qZV:V->List Obj->Option (ByteArray):=fun v objs=>match v,objs with
 | .s (.str y0),[]=>some (y0)
 | _,_=>none
theorem qnu (x0:Int):fnE qZU Tryz.f74 ([.s (.i .i8 x0)]) ([]) qZV=qLa x0:=by kernel_rfl
def qZT:HA:=fun o vs objs K=>match vs,objs with
 | [.s (.i .i8 x0)],[]=>ob (qLa x0) fun y0=>K false (.s (.str y0)) ([])
 | _,_=>o 74 vs objs K
def qZW (o:Orc):Orc:=qL 74 (qZT o) o
theorem qnw:OQ Tryz.prog qZW:=fun _ ho=>qN ho fun vs objs K r h=>by
 unfold qZT at h
 split at h
 ·skip
  obtain ⟨t,h1,h2⟩:=qE h
  refine qf mixed qnv ((qnu _).trans h1) (by kernel_rfl) fun v objs' hd=>?_
  unfold qZV at hd;split at hd;(cases hd;exact h2);cases hd
 ·exact ho _ _ _ _ _ h
def qYp:Ctx:=mkC 19 ((qMK (qME qK))) [] qX
theorem qmL:CtxOK Tryz.prog qYp:=mkC_ok ((qR3 _ (qRt _ qM)))
def qYq:V->List Obj->Option (ByteArray):=fun v objs=>match v,objs with
 | .s (.str y0),[]=>some (y0)
 | _,_=>none
theorem qmK (x0:Int):fnE qYp Tryz.f75 ([.s (.i .i64 x0)]) ([]) qYq=qFK x0:=by kernel_rfl
def qYo:HA:=fun o vs objs K=>match vs,objs with
 | [.s (.i .i64 x0)],[]=>ob (qFK x0) fun y0=>K false (.s (.str y0)) ([])
 | _,_=>o 75 vs objs K
def qYr (o:Orc):Orc:=qL 75 (qYo o) o
theorem qmM:OQ Tryz.prog qYr:=fun _ ho=>qN ho fun vs objs K r h=>by
 unfold qYo at h
 split at h
 ·skip
  obtain ⟨t,h1,h2⟩:=qE h
  refine qf mixed qmL ((qmK _).trans h1) (by kernel_rfl) fun v objs' hd=>?_
  unfold qYq at hd;split at hd;(cases hd;exact h2);cases hd
 ·exact ho _ _ _ _ _ h
def qYt:Ctx:=mkC 38 ((qYr (qZW (qDm (qP2 qK))))) [] qX
theorem qmO:CtxOK Tryz.prog qYt:=mkC_ok ((qmM _ (qnw _ (qEU _ (qYi _ qM)))))
def qYu:V->List Obj->Option (ByteArray):=fun v objs=>match v,objs with
 | .s (.str y0),[]=>some (y0)
 | _,_=>none
theorem qmN (x0 x1 x2:Int) (x3:Bool):fnE qYt Tryz.f34 ([.agg [.one [.i .i64 x0,.i .i64 x1,.i .i64 x2,.b x3]]]) ([]) qYu=qDl x0 x1 x2 x3:=by kernel_rfl
def qYs:HA:=fun o vs objs K=>match vs,objs with
 | [.agg [.one [.i .i64 x0,.i .i64 x1,.i .i64 x2,.b x3]]],[]=>ob (qDl x0 x1 x2 x3) fun y0=>K false (.s (.str y0)) ([])
 | _,_=>o 34 vs objs K
def qYv (o:Orc):Orc:=qL 34 (qYs o) o
theorem qmP:OQ Tryz.prog qYv:=fun _ ho=>qN ho fun vs objs K r h=>by
 unfold qYs at h
 split at h
 ·skip
  obtain ⟨t,h1,h2⟩:=qE h
  refine qf mixed qmO ((qmN _ _ _ _).trans h1) (by kernel_rfl) fun v objs' hd=>?_
  unfold qYu at hd;split at hd;(cases hd;exact h2);cases hd
 ·exact ho _ _ _ _ _ h
def qsy:Ctx:=mkC 75 (qK) [] qX
theorem qt6:CtxOK Tryz.prog qsy:=mkC_ok (qM)
def qeD:V->List Obj->Option (ByteArray):=fun v objs=>match v,objs with
 | .s (.str y0),[]=>some (y0)
 | _,_=>none
theorem qsx (x0:Nat) (x1:ByteArray) (x2:Nat) (x3:LL):qJq 35 ([.s (.sl 0 0 x0 true),.s (.str x1)]) ([.sli 9 true (.rows [CK.s] x2 x3)]) (qAP 1 qeD)=strings_Join x0 x1 x2 x3:=by kernel_rfl
def qeC:HA:=fun o vs objs K=>match vs,List.map Obj.toRO objs with
 | [.s (.sl 0 0 x0 true),.s (.str x1)],[.sli 9 true (.rows [CK.s] x2 x3)]=>ob (strings_Join x0 x1 x2 x3) fun y0=>K true (.s (.str y0)) ([])
 | _,_=>o 35 vs objs K
def qSd (o:Orc):Orc:=qL 35 (qeC o) o
theorem qeE:OQ Tryz.prog qSd:=fun _ ho=>qN ho fun vs objs K r h=>by
 unfold qeC at h
 split at h
 ·skip
  have hq:List.map Obj.toRO objs=_:=(by rename_i hq;first | exact hq | assumption)
  obtain ⟨t,h1,h2⟩:=qE h
  refine qtX told_ok (f:=35) (by rfl) (m:=1) hq (by kernel_rfl) (by kernel_rfl) ((qsx _ _ _ _).trans h1) fun v objs' hd=>?_
  unfold qeD at hd;split at hd;(cases hd;exact h2);cases hd
 ·exact ho _ _ _ _ _ h
def qPs:Ex->List V->List Obj->Option (Nat×Nat×LL×Nat×LL):=fun e vs objs=>match e,vs,objs with
 | .exit 0,[.s (.sl 1 0 y0 true)],[.sli 37 true (.rows [.i .i64,.i .i64,.i .i64,.b] y1 y2),.sli 9 false (.rows [CK.s] y3 y4)]=>some (y0,y1,y2,y3,y4)
 | _,_,_=>none
def qPu:HL:=fun vs objs K=>match vs,objs with
 | [.s (.sl 1 0 x0 true),.s (.sl 0 0 x1 true),.s (.i .i64 x2),.s (.i .i64 x3)],[.sli 37 true (.rows [.i .i64,.i .i64,.i .i64,.b] x4 x5),.sli 9 false (.rows [CK.s] x6 x7)]=>ob (qLC qB x0 x1 x2 x3 x4 x5 x6 x7) fun z=>K (.exit 0) ([.s (.sl 1 0 (z.1) true)]) ([.sli 37 true (.rows [.i .i64,.i .i64,.i .i64,.b] (z.2.1) (z.2.2.1)),.sli 9 false (.rows [CK.s] (z.2.2.2.1) (z.2.2.2.2))])
 | _,_=>none
def qll:{R:Type}->Nat->List V->List Obj->(Ex->List V->List Obj->Option R)->Option R:=fun q vs objs K=>bif Nat.beq q 3 then qPu vs objs K else none
def qLB:Ctx:=mkC 20 ((qSd (qYv qK))) [(3,[3,6,7,8],[3])] qll
theorem qYE:CtxOK Tryz.prog qLB:=mkC_ok ((qeE _ (qmP _ qM)))
def qPt (f:Nat) (x0 x1:Nat) (x2 x3:Int) (x4:Nat) (x5:LL) (x6:Nat) (x7:LL):Option (Nat×Nat×LL×Nat×LL):=qg qLB 1 [3,6,7,8] [3] (qG Tryz.f14 3) f ([.s (.sl 1 0 x0 true),.s (.sl 0 0 x1 true),.s (.i .i64 x2),.s (.i .i64 x3)]) ([.sli 37 true (.rows [.i .i64,.i .i64,.i .i64,.b] x4 x5),.sli 9 false (.rows [CK.s] x6 x7)]) qPs
theorem qlk (f:Nat) (x0 x1:Nat) (x2 x3:Int) (x4:Nat) (x5:LL) (x6:Nat) (x7:LL):qPt (f+1) x0 x1 x2 x3 x4 x5 x6 x7=qYH (qPt f) x0 x1 x2 x3 x4 x5 x6 x7:=by kernel_rfl
theorem qYG:∀ f,qPt f=qLC f
 | 0=>rfl
 | f+1=>by funext x0 x1 x2 x3 x4 x5 x6 x7;rw [qlk,qYG f];rfl
theorem qln:qe Tryz.prog qLB 1 (qG Tryz.f14 3):=
 qh mixed qYE (qO.of (l':=[]) (by kernel_rfl) trivial) (q:=3) (kin:=[3,6,7,8]) (kout:=[3]) (by kernel_rfl) (by kernel_rfl) fun vs objs K r h=>by
  replace h:qPu vs objs K=some r:=h
  unfold qPu at h
  split at h
  ·skip
   obtain ⟨t,h1,h2⟩:=qE h
   rw [<- qYG] at h1
   refine ⟨_,qPs,t,qB,h1,fun e vs' objs' hd=>?_⟩
   unfold qPs at hd;split at hd;(cases hd;exact h2);cases hd
  ·cases h
def qYF:V->List Obj->Option (ByteArray):=fun v objs=>match v,objs with
 | .s (.str y0),[]=>some (y0)
 | _,_=>none
theorem qle (x0 x1:Nat) (x2:LL):fnE qLB Tryz.f14 ([.s (.sl 0 0 x0 true)]) ([.sli 37 true (.rows [.i .i64,.i .i64,.i .i64,.b] x1 x2)]) (qAP 1 qYF)=qPo x0 x1 x2:=by kernel_rfl
def qYD:HA:=fun o vs objs K=>match vs,List.map Obj.toRO objs with
 | [.s (.sl 0 0 x0 true)],[.sli 37 true (.rows [.i .i64,.i .i64,.i .i64,.b] x1 x2)]=>ob (qPo x0 x1 x2) fun y0=>K true (.s (.str y0)) ([])
 | _,_=>o 14 vs objs K
def qYI (o:Orc):Orc:=qL 14 (qYD o) o
theorem qlm:OQ Tryz.prog qYI:=fun _ ho=>qN ho fun vs objs K r h=>by
 unfold qYD at h
 split at h
 ·skip
  have hq:List.map Obj.toRO objs=_:=(by rename_i hq;first | exact hq | assumption)
  obtain ⟨t,h1,h2⟩:=qE h
  refine qAn mixed qYE (m:=1) (fn:=Tryz.f14) (b:=(Tryz.f14).body.getD .skip) (by kernel_rfl) (by kernel_rfl) (by kernel_rfl) hq (by kernel_rfl) (by kernel_rfl) (qO.of (l':=[qG Tryz.f14 3]) (by kernel_rfl) ⟨qln,trivial⟩) ((qle _ _ _).trans h1) fun v objs' hd=>?_
  unfold qYF at hd;split at hd;(cases hd;exact h2);cases hd
 ·exact ho _ _ _ _ _ h
def qXD:Ctx:=mkC 46 ((qYI (qPe (qX6 (qUU qK))))) [] qX
theorem qkm:CtxOK Tryz.prog qXD:=mkC_ok ((qlm _ (qXv _ (qlc _ (qg5 _ qM)))))
def qXE:V->List Obj->Option (Bool):=fun v objs=>match v,objs with
 | .s (.b y0),[]=>some (y0)
 | _,_=>none
theorem qkl:fnE qXD Tryz.f8 ([]) ([]) qXE=qKz  := by kernel_rfl
def qXC:HA:=fun o vs objs K=>match vs,objs with
 | [],[]=>ob (qKz ) fun y0=>K false (.s (.b y0)) ([])
 | _,_=>o 8 vs objs K
def qXF (o:Orc):Orc:=qL 8 (qXC o) o
theorem qkn:OQ Tryz.prog qXF:=fun _ ho=>qN ho fun vs objs K r h=>by
 unfold qXC at h
 split at h
 ·skip
  obtain ⟨t,h1,h2⟩:=qE h
  refine qf mixed qkm ((qkl).trans h1) (by kernel_rfl) fun v objs' hd=>?_
  unfold qXE at hd;split at hd;(cases hd;exact h2);cases hd
 ·exact ho _ _ _ _ _ h
def qPh:Ex->List V->List Obj->Option (LI×LI×Int×Int×Nat×LI×LI×Int×LL×LL×Nat×LL):=fun e vs objs=>match e,vs,objs with
 | .exit 0,[.s S.nils,.s .bad,.s (.ptr 0 0 none 0),.s .bad,.s (.ptr 1 0 none 0)],[.cells 28 [.arr .i8 81 y0,.arr .i8 16 y1,.one [.i .i8 y2]],.cells 66 [.one [.ptr 2 0 none 0,.i .u64 y3,.sl 3 0 y4 true]],.cells 72 [.arr .i8 81 y5,.arr .i8 16 y6,.one [.i .i8 y7],.rows [.i .u64,.i .u64] 32 y8,.rows [.i .u64,.i .u64] 2 y9],.sli 98 false (.rows [.i .i64,.i .i64,.i .i64,.b,.i .i8,.i .i8] y10 y11)]=>some (y0,y1,y2,y3,y4,y5,y6,y7,y8,y9,y10,y11)
 | _,_,_=>none
def qPk:HL:=fun vs objs K=>match vs,objs with
 | [.s S.nils,.s (.ptr 0 0 none 0),.s (.ptr 1 0 none 0),.s S.nils,.s (.i .i64 x0),.s (.i .i64 x1)],[.cells 28 [.arr .i8 81 x2,.arr .i8 16 x3,.one [.i .i8 x4]],.cells 66 [.one [.ptr 2 0 none 0,.i .u64 x5,.sl 3 0 x6 true]],.cells 72 [.arr .i8 81 x7,.arr .i8 16 x8,.one [.i .i8 x9],.rows [.i .u64,.i .u64] 32 x10,.rows [.i .u64,.i .u64] 2 x11],.sli 98 false (.rows [.i .i64,.i .i64,.i .i64,.b,.i .i8,.i .i8] x12 x13)]=>ob (qI4 qB x0 x1 x2 x3 x4 x5 x6 x7 x8 x9 x10 x11 x12 x13) fun z=>K (.exit 0) ([.s S.nils,.s .bad,.s (.ptr 0 0 none 0),.s .bad,.s (.ptr 1 0 none 0)]) ([.cells 28 [.arr .i8 81 (z.1),.arr .i8 16 (z.2.1),.one [.i .i8 (z.2.2.1)]],.cells 66 [.one [.ptr 2 0 none 0,.i .u64 (z.2.2.2.1),.sl 3 0 (z.2.2.2.2.1) true]],.cells 72 [.arr .i8 81 (z.2.2.2.2.2.1),.arr .i8 16 (z.2.2.2.2.2.2.1),.one [.i .i8 (z.2.2.2.2.2.2.2.1)],.rows [.i .u64,.i .u64] 32 (z.2.2.2.2.2.2.2.2.1),.rows [.i .u64,.i .u64] 2 (z.2.2.2.2.2.2.2.2.2.1)],.sli 98 false (.rows [.i .i64,.i .i64,.i .i64,.b,.i .i8,.i .i8] (z.2.2.2.2.2.2.2.2.2.2.1) (z.2.2.2.2.2.2.2.2.2.2.2))])
 | _,_=>none
def qlX:{R:Type}->Nat->List V->List Obj->(Ex->List V->List Obj->Option R)->Option R:=fun q vs objs K=>bif Nat.beq q 6 then qPk vs objs K else none
def qK7:Ctx:=mkC 54 ((qOH (qM5 qK))) [(6,[1,5,8,19,20,21],[1,4,5,6,8])] qlX
theorem qXx:CtxOK Tryz.prog qK7:=mkC_ok ((qVX _ (qTN _ qM)))
def qPi (f:Nat) (x0 x1:Int) (x2 x3:LI) (x4 x5:Int) (x6:Nat) (x7 x8:LI) (x9:Int) (x10 x11:LL) (x12:Nat) (x13:LL):Option (LI×LI×Int×Int×Nat×LI×LI×Int×LL×LL×Nat×LL):=qg qK7 0 [1,5,8,19,20,21] [1,4,5,6,8] (qG Tryz.f9 6) f ([.s S.nils,.s (.ptr 0 0 none 0),.s (.ptr 1 0 none 0),.s S.nils,.s (.i .i64 x0),.s (.i .i64 x1)]) ([.cells 28 [.arr .i8 81 x2,.arr .i8 16 x3,.one [.i .i8 x4]],.cells 66 [.one [.ptr 2 0 none 0,.i .u64 x5,.sl 3 0 x6 true]],.cells 72 [.arr .i8 81 x7,.arr .i8 16 x8,.one [.i .i8 x9],.rows [.i .u64,.i .u64] 32 x10,.rows [.i .u64,.i .u64] 2 x11],.sli 98 false (.rows [.i .i64,.i .i64,.i .i64,.b,.i .i8,.i .i8] x12 x13)]) qPh
theorem qlW (f:Nat) (x0 x1:Int) (x2 x3:LI) (x4 x5:Int) (x6:Nat) (x7 x8:LI) (x9:Int) (x10 x11:LL) (x12:Nat) (x13:LL):qPi (f+1) x0 x1 x2 x3 x4 x5 x6 x7 x8 x9 x10 x11 x12 x13=qPj (qPi f) x0 x1 x2 x3 x4 x5 x6 x7 x8 x9 x10 x11 x12 x13:=by kernel_rfl
theorem qXz:∀ f,qPi f=qI4 f
 | 0=>rfl
 | f+1=>by funext x0 x1 x2 x3 x4 x5 x6 x7 x8 x9 x10 x11 x12 x13;rw [qlW,qXz f];rfl
theorem qlZ:qe Tryz.prog qK7 0 (qG Tryz.f9 6):=
 qh mixed qXx (qO.of (l':=[]) (by kernel_rfl) trivial) (q:=6) (kin:=[1,5,8,19,20,21]) (kout:=[1,4,5,6,8]) (by kernel_rfl) (by kernel_rfl) fun vs objs K r h=>by
  replace h:qPk vs objs K=some r:=h
  unfold qPk at h
  split at h
  ·skip
   obtain ⟨t,h1,h2⟩:=qE h
   rw [<- qXz] at h1
   refine ⟨_,qPh,t,qB,h1,fun e vs' objs' hd=>?_⟩
   unfold qPh at hd;split at hd;(cases hd;exact h2);cases hd
  ·cases h
def qXy:V->List Obj->Option (Int×LI×LI×Int×Int):=fun v objs=>match v,objs with
 | .tup [W.s (.i .i64 y0),W.agg [.arr .i8 81 y1,.arr .i8 16 y2,.one [.i .i8 y3]],W.s (.i .i64 y4)],[]=>some (y0,y1,y2,y3,y4)
 | _,_=>none
theorem qlV (x0 x1:LI) (x2:Int):fnE qK7 Tryz.f9 ([.agg [.arr .i8 81 x0,.arr .i8 16 x1,.one [.i .i8 x2]],.s S.nils]) ([]) qXy=qI3 x0 x1 x2:=by kernel_rfl
def qXw:HA:=fun o vs objs K=>match vs,objs with
 | [.agg [.arr .i8 81 x0,.arr .i8 16 x1,.one [.i .i8 x2]],.s S.nils],[]=>ob (qI3 x0 x1 x2) fun z=>K false (.tup [W.s (.i .i64 (z.1)),W.agg [.arr .i8 81 (z.2.1),.arr .i8 16 (z.2.2.1),.one [.i .i8 (z.2.2.2.1)]],W.s (.i .i64 (z.2.2.2.2))]) ([])
 | _,_=>o 9 vs objs K
def qX0 (o:Orc):Orc:=qL 9 (qXw o) o
theorem qlY:OQ Tryz.prog qX0:=fun _ ho=>qN ho fun vs objs K r h=>by
 unfold qXw at h
 split at h
 ·skip
  obtain ⟨t,h1,h2⟩:=qE h
  refine q8 mixed qXx (fn:=Tryz.f9) (b:=(Tryz.f9).body.getD .skip) (by kernel_rfl) (by kernel_rfl) (by kernel_rfl) ((qlV _ _ _).trans h1) (m:=0) rfl (qO.of (l':=[qG Tryz.f9 6]) (by kernel_rfl) ⟨qlZ,trivial⟩) fun v objs' hd=>?_
  unfold qXy at hd;split at hd;(cases hd;exact h2);cases hd
 ·exact ho _ _ _ _ _ h
def qaR:Ctx:=mkC 23 (qK) [] qX
theorem qov:CtxOK Tryz.prog qaR:=mkC_ok (qM)
def qaS:V->List Obj->Option (Int):=fun v objs=>match v,objs with
 | .s (.i .i64 y0),[]=>some (y0)
 | _,_=>none
theorem qou (x0:Int):fnE qaR Tryz.f31 ([.s (.i .i64 x0)]) ([]) qaS=qBO x0:=by kernel_rfl
def qaQ:HA:=fun o vs objs K=>match vs,objs with
 | [.s (.i .i64 x0)],[]=>ob (qBO x0) fun y0=>K false (.s (.i .i64 y0)) ([])
 | _,_=>o 31 vs objs K
def qGI (o:Orc):Orc:=qL 31 (qaQ o) o
theorem qHr:OQ Tryz.prog qGI:=fun _ ho=>qN ho fun vs objs K r h=>by
 unfold qaQ at h
 split at h
 ·skip
  obtain ⟨t,h1,h2⟩:=qE h
  refine qf mixed qov ((qou _).trans h1) (by kernel_rfl) fun v objs' hd=>?_
  unfold qaS at hd;split at hd;(cases hd;exact h2);cases hd
 ·exact ho _ _ _ _ _ h
def qRL:Ex->List V->List Obj->Option (Int):=fun e vs objs=>match e,vs,objs with
 | .exit 0,[.s (.i .i64 y0)],[]=>some (y0)
 | _,_,_=>none
def qRO:HL:=fun vs objs K=>match vs,objs with
 | [.s (.i .i64 x0),.s (.i .i64 x1),.s (.ptr 0 0 none 0),.s (.i .i64 x2),.s (.i .i64 x3)],[.cells 28 [.arr .i8 81 x4,.arr .i8 16 x5,.one [.i .i8 x6]]]=>ob (qCV qB x0 x1 x2 x3 x4 x5 x6) fun y0=>K (.exit 0) ([.s (.i .i64 y0)]) ([])
 | _,_=>none
def qpu:{R:Type}->Nat->List V->List Obj->(Ex->List V->List Obj->Option R)->Option R:=fun q vs objs K=>bif Nat.beq q 3 then qRO vs objs K else none
def qLx:Ctx:=mkC 26 (qK) [(3,[1,2,3,7,8],[7])] qpu
theorem qbV:CtxOK Tryz.prog qLx:=mkC_ok (qM)
def qRM (f:Nat) (x0 x1:Int) (x2 x3:Int) (x4 x5:LI) (x6:Int):Option (Int):=qg qLx 0 [1,2,3,7,8] [7] (qG Tryz.f67 3) f ([.s (.i .i64 x0),.s (.i .i64 x1),.s (.ptr 0 0 none 0),.s (.i .i64 x2),.s (.i .i64 x3)]) ([.cells 28 [.arr .i8 81 x4,.arr .i8 16 x5,.one [.i .i8 x6]]]) qRL
theorem qpt (f:Nat) (x0 x1:Int) (x2 x3:Int) (x4 x5:LI) (x6:Int):qRM (f+1) x0 x1 x2 x3 x4 x5 x6=qDx (qRM f) x0 x1 x2 x3 x4 x5 x6:=by kernel_rfl
theorem qbX:∀ f,qRM f=qCV f
 | 0=>rfl
 | f+1=>by funext x0 x1 x2 x3 x4 x5 x6;rw [qpt,qbX f];rfl
theorem qpv:qe Tryz.prog qLx 0 (qG Tryz.f67 3):=
 qh mixed qbV (qO.of (l':=[]) (by kernel_rfl) trivial) (q:=3) (kin:=[1,2,3,7,8]) (kout:=[7]) (by kernel_rfl) (by kernel_rfl) fun vs objs K r h=>by
  replace h:qRO vs objs K=some r:=h
  unfold qRO at h
  split at h
  ·skip
   obtain ⟨t,h1,h2⟩:=qE h
   rw [<- qbX] at h1
   refine ⟨_,qRL,t,qB,h1,fun e vs' objs' hd=>?_⟩
   unfold qRL at hd;split at hd;(cases hd;exact h2);cases hd
  ·cases h
def qbW:V->List Obj->Option (Int):=fun v objs=>match v,objs with
 | .s (.i .i64 y0),[]=>some (y0)
 | _,_=>none
theorem qps (x0 x1:LI) (x2 x3 x4:Int):fnE qLx Tryz.f67 ([.agg [.arr .i8 81 x0,.arr .i8 16 x1,.one [.i .i8 x2]],.s (.i .i64 x3),.s (.i .i64 x4)]) ([]) qbW=qEX x0 x1 x2 x3 x4:=by kernel_rfl
def qbU:HA:=fun o vs objs K=>match vs,objs with
 | [.agg [.arr .i8 81 x0,.arr .i8 16 x1,.one [.i .i8 x2]],.s (.i .i64 x3),.s (.i .i64 x4)],[]=>ob (qEX x0 x1 x2 x3 x4) fun y0=>K false (.s (.i .i64 y0)) ([])
 | _,_=>o 67 vs objs K
def qRN (o:Orc):Orc:=qL 67 (qbU o) o
theorem qbY:OQ Tryz.prog qRN:=fun _ ho=>qN ho fun vs objs K r h=>by
 unfold qbU at h
 split at h
 ·skip
  obtain ⟨t,h1,h2⟩:=qE h
  refine q8 mixed qbV (fn:=Tryz.f67) (b:=(Tryz.f67).body.getD .skip) (by kernel_rfl) (by kernel_rfl) (by kernel_rfl) ((qps _ _ _ _ _).trans h1) (m:=0) rfl (qO.of (l':=[qG Tryz.f67 3]) (by kernel_rfl) ⟨qpv,trivial⟩) fun v objs' hd=>?_
  unfold qbW at hd;split at hd;(cases hd;exact h2);cases hd
 ·exact ho _ _ _ _ _ h
def qRS:Ex->List V->List Obj->Option (Int):=fun e vs objs=>match e,vs,objs with
 | .exit 0,[.s (.i .i64 y0)],[]=>some (y0)
 | _,_,_=>none
def qRU:HL:=fun vs objs K=>match vs,objs with
 | [.s (.i .i64 x0),.s (.ptr 0 0 none 0),.s (.i .i64 x1),.s (.i .i64 x2)],[.cells 28 [.arr .i8 81 x3,.arr .i8 16 x4,.one [.i .i8 x5]]]=>ob (qCW qB x0 x1 x2 x3 x4 x5) fun y0=>K (.exit 0) ([.s (.i .i64 y0)]) ([])
 | _,_=>none
def qp3:{R:Type}->Nat->List V->List Obj->(Ex->List V->List Obj->Option R)->Option R:=fun q vs objs K=>bif Nat.beq q 3 then qRU vs objs K else none
def qLz:Ctx:=mkC 18 ((qRN qK)) [(3,[1,2,5,6],[5])] qp3
theorem qbf:CtxOK Tryz.prog qLz:=mkC_ok ((qbY _ qM))
def qRT (f:Nat) (x0 x1 x2:Int) (x3 x4:LI) (x5:Int):Option (Int):=qg qLz 0 [1,2,5,6] [5] (qG Tryz.f63 3) f ([.s (.i .i64 x0),.s (.ptr 0 0 none 0),.s (.i .i64 x1),.s (.i .i64 x2)]) ([.cells 28 [.arr .i8 81 x3,.arr .i8 16 x4,.one [.i .i8 x5]]]) qRS
theorem qp2 (f:Nat) (x0 x1 x2:Int) (x3 x4:LI) (x5:Int):qRT (f+1) x0 x1 x2 x3 x4 x5=qDy (qRT f) x0 x1 x2 x3 x4 x5:=by kernel_rfl
theorem qbh:∀ f,qRT f=qCW f
 | 0=>rfl
 | f+1=>by funext x0 x1 x2 x3 x4 x5;rw [qp2,qbh f];rfl
theorem qp5:qe Tryz.prog qLz 0 (qG Tryz.f63 3):=
 qh mixed qbf (qO.of (l':=[]) (by kernel_rfl) trivial) (q:=3) (kin:=[1,2,5,6]) (kout:=[5]) (by kernel_rfl) (by kernel_rfl) fun vs objs K r h=>by
  replace h:qRU vs objs K=some r:=h
  unfold qRU at h
  split at h
  ·skip
   obtain ⟨t,h1,h2⟩:=qE h
   rw [<- qbh] at h1
   refine ⟨_,qRS,t,qB,h1,fun e vs' objs' hd=>?_⟩
   unfold qRS at hd;split at hd;(cases hd;exact h2);cases hd
  ·cases h
def qbg:V->List Obj->Option (Int):=fun v objs=>match v,objs with
 | .s (.i .i64 y0),[]=>some (y0)
 | _,_=>none
theorem qp1 (x0 x1:LI) (x2 x3:Int):fnE qLz Tryz.f63 ([.agg [.arr .i8 81 x0,.arr .i8 16 x1,.one [.i .i8 x2]],.s (.i .i64 x3)]) ([]) qbg=qCB x0 x1 x2 x3:=by kernel_rfl
def qbe:HA:=fun o vs objs K=>match vs,objs with
 | [.agg [.arr .i8 81 x0,.arr .i8 16 x1,.one [.i .i8 x2]],.s (.i .i64 x3)],[]=>ob (qCB x0 x1 x2 x3) fun y0=>K false (.s (.i .i64 y0)) ([])
 | _,_=>o 63 vs objs K
def qbi (o:Orc):Orc:=qL 63 (qbe o) o
theorem qp4:OQ Tryz.prog qbi:=fun _ ho=>qN ho fun vs objs K r h=>by
 unfold qbe at h
 split at h
 ·skip
  obtain ⟨t,h1,h2⟩:=qE h
  refine q8 mixed qbf (fn:=Tryz.f63) (b:=(Tryz.f63).body.getD .skip) (by kernel_rfl) (by kernel_rfl) (by kernel_rfl) ((qp1 _ _ _ _).trans h1) (m:=0) rfl (qO.of (l':=[qG Tryz.f63 3]) (by kernel_rfl) ⟨qp5,trivial⟩) fun v objs' hd=>?_
  unfold qbg at hd;split at hd;(cases hd;exact h2);cases hd
 ·exact ho _ _ _ _ _ h
def qaU:Ctx:=mkC 18 (qK) [] qX
theorem qox:CtxOK Tryz.prog qaU:=mkC_ok (qM)
def qaV:V->List Obj->Option (Int):=fun v objs=>match v,objs with
 | .s (.i .i64 y0),[]=>some (y0)
 | _,_=>none
theorem qow (x0:Int):fnE qaU Tryz.f30 ([.s (.i .i64 x0)]) ([]) qaV=qJI x0:=by kernel_rfl
def qaT:HA:=fun o vs objs K=>match vs,objs with
 | [.s (.i .i64 x0)],[]=>ob (qJI x0) fun y0=>K false (.s (.i .i64 y0)) ([])
 | _,_=>o 30 vs objs K
def qaW (o:Orc):Orc:=qL 30 (qaT o) o
theorem qoy:OQ Tryz.prog qaW:=fun _ ho=>qN ho fun vs objs K r h=>by
 unfold qaT at h
 split at h
 ·skip
  obtain ⟨t,h1,h2⟩:=qE h
  refine qf mixed qox ((qow _).trans h1) (by kernel_rfl) fun v objs' hd=>?_
  unfold qaV at hd;split at hd;(cases hd;exact h2);cases hd
 ·exact ho _ _ _ _ _ h
def qRI:Ex->List V->List Obj->Option (Int×Int×LI×LI×Int):=fun e vs objs=>match e,vs,objs with
 | .exit 0,[.s (.i .i64 y0),.s (.ptr 0 0 none 0),.s (.i .i64 y1)],[.cells 28 [.arr .i8 81 y2,.arr .i8 16 y3,.one [.i .i8 y4]]]=>some (y0,y1,y2,y3,y4)
 | _,_,_=>none
def qRK:HL:=fun vs objs K=>match vs,objs with
 | [.s (.i .i64 x0),.s (.ptr 0 0 none 0),.s (.i .i64 x1),.s (.i .i64 x2)],[.cells 28 [.arr .i8 81 x3,.arr .i8 16 x4,.one [.i .i8 x5]]]=>ob (qFV qB x0 x1 x2 x3 x4 x5) fun z=>K (.exit 0) ([.s (.i .i64 (z.1)),.s (.ptr 0 0 none 0),.s (.i .i64 (z.2.1))]) ([.cells 28 [.arr .i8 81 (z.2.2.1),.arr .i8 16 (z.2.2.2.1),.one [.i .i8 (z.2.2.2.2)]]])
 | _,_=>none
def qpp:{R:Type}->Nat->List V->List Obj->(Ex->List V->List Obj->Option R)->Option R:=fun q vs objs K=>bif Nat.beq q 3 then qRK vs objs K else none
def qLw:Ctx:=mkC 37 ((qaW (qGI qK))) [(3,[1,2,5,6],[1,2,5])] qpp
theorem qbQ:CtxOK Tryz.prog qLw:=mkC_ok ((qoy _ (qHr _ qM)))
def qRJ (f:Nat) (x0 x1 x2:Int) (x3 x4:LI) (x5:Int):Option (Int×Int×LI×LI×Int):=qg qLw 0 [1,2,5,6] [1,2,5] (qG Tryz.f64 3) f ([.s (.i .i64 x0),.s (.ptr 0 0 none 0),.s (.i .i64 x1),.s (.i .i64 x2)]) ([.cells 28 [.arr .i8 81 x3,.arr .i8 16 x4,.one [.i .i8 x5]]]) qRI
theorem qpo (f:Nat) (x0 x1 x2:Int) (x3 x4:LI) (x5:Int):qRJ (f+1) x0 x1 x2 x3 x4 x5=qHx (qRJ f) x0 x1 x2 x3 x4 x5:=by kernel_rfl
theorem qbS:∀ f,qRJ f=qFV f
 | 0=>rfl
 | f+1=>by funext x0 x1 x2 x3 x4 x5;rw [qpo,qbS f];rfl
theorem qpr:qe Tryz.prog qLw 0 (qG Tryz.f64 3):=
 qh mixed qbQ (qO.of (l':=[]) (by kernel_rfl) trivial) (q:=3) (kin:=[1,2,5,6]) (kout:=[1,2,5]) (by kernel_rfl) (by kernel_rfl) fun vs objs K r h=>by
  replace h:qRK vs objs K=some r:=h
  unfold qRK at h
  split at h
  ·skip
   obtain ⟨t,h1,h2⟩:=qE h
   rw [<- qbS] at h1
   refine ⟨_,qRI,t,qB,h1,fun e vs' objs' hd=>?_⟩
   unfold qRI at hd;split at hd;(cases hd;exact h2);cases hd
  ·cases h
def qbR:V->List Obj->Option (Int):=fun v objs=>match v,objs with
 | .s (.i .i64 y0),[]=>some (y0)
 | _,_=>none
theorem qpn (x0 x1:LI) (x2 x3:Int):fnE qLw Tryz.f64 ([.agg [.arr .i8 81 x0,.arr .i8 16 x1,.one [.i .i8 x2]],.s (.i .i64 x3)]) ([]) qbR=qJN x0 x1 x2 x3:=by kernel_rfl
def qbP:HA:=fun o vs objs K=>match vs,objs with
 | [.agg [.arr .i8 81 x0,.arr .i8 16 x1,.one [.i .i8 x2]],.s (.i .i64 x3)],[]=>ob (qJN x0 x1 x2 x3) fun y0=>K false (.s (.i .i64 y0)) ([])
 | _,_=>o 64 vs objs K
def qbT (o:Orc):Orc:=qL 64 (qbP o) o
theorem qpq:OQ Tryz.prog qbT:=fun _ ho=>qN ho fun vs objs K r h=>by
 unfold qbP at h
 split at h
 ·skip
  obtain ⟨t,h1,h2⟩:=qE h
  refine q8 mixed qbQ (fn:=Tryz.f64) (b:=(Tryz.f64).body.getD .skip) (by kernel_rfl) (by kernel_rfl) (by kernel_rfl) ((qpn _ _ _ _).trans h1) (m:=0) rfl (qO.of (l':=[qG Tryz.f64 3]) (by kernel_rfl) ⟨qpr,trivial⟩) fun v objs' hd=>?_
  unfold qbR at hd;split at hd;(cases hd;exact h2);cases hd
 ·exact ho _ _ _ _ _ h
def qab:Ctx:=mkC 15 (qK) [] qX
theorem qo2:CtxOK Tryz.prog qab:=mkC_ok (qM)
def qac:V->List Obj->Option (Int):=fun v objs=>match v,objs with
 | .s (.i .i64 y0),[]=>some (y0)
 | _,_=>none
theorem qo1 (x0:Int):fnE qab Tryz.f65 ([.s (.i .i64 x0)]) ([]) qac=qJK x0:=by kernel_rfl
def qaa:HA:=fun o vs objs K=>match vs,objs with
 | [.s (.i .i64 x0)],[]=>ob (qJK x0) fun y0=>K false (.s (.i .i64 y0)) ([])
 | _,_=>o 65 vs objs K
def qad (o:Orc):Orc:=qL 65 (qaa o) o
theorem qo3:OQ Tryz.prog qad:=fun _ ho=>qN ho fun vs objs K r h=>by
 unfold qaa at h
 split at h
 ·skip
  obtain ⟨t,h1,h2⟩:=qE h
  refine qf mixed qo2 ((qo1 _).trans h1) (by kernel_rfl) fun v objs' hd=>?_
  unfold qac at hd;split at hd;(cases hd;exact h2);cases hd
 ·exact ho _ _ _ _ _ h
def qaY:Ctx:=mkC 8 ((qGI qK)) [] qX
theorem qo0:CtxOK Tryz.prog qaY:=mkC_ok ((qHr _ qM))
def qaZ:V->List Obj->Option (Int):=fun v objs=>match v,objs with
 | .s (.i .i64 y0),[]=>some (y0)
 | _,_=>none
theorem qoz (x0:Int):fnE qaY Tryz.f46 ([.s (.i .i64 x0)]) ([]) qaZ=qDq x0:=by kernel_rfl
def qaX:HA:=fun o vs objs K=>match vs,objs with
 | [.s (.i .i64 x0)],[]=>ob (qDq x0) fun y0=>K false (.s (.i .i64 y0)) ([])
 | _,_=>o 46 vs objs K
def qJJ (o:Orc):Orc:=qL 46 (qaX o) o
theorem qLt:OQ Tryz.prog qJJ:=fun _ ho=>qN ho fun vs objs K r h=>by
 unfold qaX at h
 split at h
 ·skip
  obtain ⟨t,h1,h2⟩:=qE h
  refine qf mixed qo0 ((qoz _).trans h1) (by kernel_rfl) fun v objs' hd=>?_
  unfold qaZ at hd;split at hd;(cases hd;exact h2);cases hd
 ·exact ho _ _ _ _ _ h
def qaj:Ctx:=mkC 26 (qK) [] qX
theorem qo8:CtxOK Tryz.prog qaj:=mkC_ok (qM)
def qak:V->List Obj->Option (Int):=fun v objs=>match v,objs with
 | .s (.i .i64 y0),[]=>some (y0)
 | _,_=>none
theorem qo7 (x0 x1:Int):fnE qaj Tryz.f102 ([.s (.i .i64 x0),.s (.i .i64 x1)]) ([]) qak=qGK x0 x1:=by kernel_rfl
def qai:HA:=fun o vs objs K=>match vs,objs with
 | [.s (.i .i64 x0),.s (.i .i64 x1)],[]=>ob (qGK x0 x1) fun y0=>K false (.s (.i .i64 y0)) ([])
 | _,_=>o 102 vs objs K
def qal (o:Orc):Orc:=qL 102 (qai o) o
theorem qo9:OQ Tryz.prog qal:=fun _ ho=>qN ho fun vs objs K r h=>by
 unfold qai at h
 split at h
 ·skip
  obtain ⟨t,h1,h2⟩:=qE h
  refine qf mixed qo8 ((qo7 _ _).trans h1) (by kernel_rfl) fun v objs' hd=>?_
  unfold qak at hd;split at hd;(cases hd;exact h2);cases hd
 ·exact ho _ _ _ _ _ h
def qaf:Ctx:=mkC 35 ((qGI (qal (qJJ qK)))) [] qX
theorem qo5:CtxOK Tryz.prog qaf:=mkC_ok ((qHr _ (qo9 _ (qLt _ qM))))
def qag:V->List Obj->Option (Bool):=fun v objs=>match v,objs with
 | .s (.b y0),[]=>some (y0)
 | _,_=>none
theorem qo4 (x0 x1:Int):fnE qaf Tryz.f66 ([.s (.i .i64 x0),.s (.i .i64 x1)]) ([]) qag=qGJ x0 x1:=by kernel_rfl
def qae:HA:=fun o vs objs K=>match vs,objs with
 | [.s (.i .i64 x0),.s (.i .i64 x1)],[]=>ob (qGJ x0 x1) fun y0=>K false (.s (.b y0)) ([])
 | _,_=>o 66 vs objs K
def qah (o:Orc):Orc:=qL 66 (qae o) o
theorem qo6:OQ Tryz.prog qah:=fun _ ho=>qN ho fun vs objs K r h=>by
 unfold qae at h
 split at h
 ·skip
  obtain ⟨t,h1,h2⟩:=qE h
  refine qf mixed qo5 ((qo4 _ _).trans h1) (by kernel_rfl) fun v objs' hd=>?_
  unfold qag at hd;split at hd;(cases hd;exact h2);cases hd
 ·exact ho _ _ _ _ _ h
def qQ8:Ex->List V->List Obj->Option ((Int×LI×LI×Int)⊕(LI×LI×Int)):=fun e vs objs=>match e,vs,objs with
 | .ret,[.s (.ptr 0 0 none 0),.s (.i .i64 y0)],[.cells 28 [.arr .i8 81 y1,.arr .i8 16 y2,.one [.i .i8 y3]]]=>some (.inl (y0,y1,y2,y3))
 | .exit 0,[.s (.ptr 0 0 none 0),.s .bad],[.cells 28 [.arr .i8 81 y0,.arr .i8 16 y1,.one [.i .i8 y2]]]=>some (.inr (y0,y1,y2))
 | _,_,_=>none
def qQ0:Ex->List V->List Obj->Option ((Int×Int×LI×LI×Int)⊕(Int×LI×LI×Int)):=fun e vs objs=>match e,vs,objs with
 | .ret,[.s (.ptr 0 0 none 0),.s (.i .i64 y0),.s (.i .i64 y1)],[.cells 28 [.arr .i8 81 y2,.arr .i8 16 y3,.one [.i .i8 y4]]]=>some (.inl (y0,y1,y2,y3,y4))
 | .exit 4,[.s (.ptr 0 0 none 0),.s .bad,.s (.i .i64 y0)],[.cells 28 [.arr .i8 81 y1,.arr .i8 16 y2,.one [.i .i8 y3]]]=>some (.inr (y0,y1,y2,y3))
 | _,_,_=>none
def qRA:Ex->List V->List Obj->Option ((Int×LI×LI×Int)⊕(LI×LI×Int)):=fun e vs objs=>match e,vs,objs with
 | .ret,[.s (.ptr 0 0 none 0),.s (.i .i64 y0)],[.cells 28 [.arr .i8 81 y1,.arr .i8 16 y2,.one [.i .i8 y3]]]=>some (.inl (y0,y1,y2,y3))
 | .exit 2,[.s (.ptr 0 0 none 0),.s .bad],[.cells 28 [.arr .i8 81 y0,.arr .i8 16 y1,.one [.i .i8 y2]]]=>some (.inr (y0,y1,y2))
 | _,_,_=>none
def qQ2:Ex->List V->List Obj->Option ((Int×LI×LI×Int)⊕(LI×LI×Int)):=fun e vs objs=>match e,vs,objs with
 | .ret,[.s (.ptr 0 0 none 0),.s (.i .i64 y0)],[.cells 28 [.arr .i8 81 y1,.arr .i8 16 y2,.one [.i .i8 y3]]]=>some (.inl (y0,y1,y2,y3))
 | .exit 6,[.s (.ptr 0 0 none 0),.s .bad],[.cells 28 [.arr .i8 81 y0,.arr .i8 16 y1,.one [.i .i8 y2]]]=>some (.inr (y0,y1,y2))
 | _,_,_=>none
def qQ4:Ex->List V->List Obj->Option ((Int×LI×LI×Int)⊕(LI×LI×Int)):=fun e vs objs=>match e,vs,objs with
 | .ret,[.s (.ptr 0 0 none 0),.s (.i .i64 y0)],[.cells 28 [.arr .i8 81 y1,.arr .i8 16 y2,.one [.i .i8 y3]]]=>some (.inl (y0,y1,y2,y3))
 | .exit 8,[.s (.ptr 0 0 none 0),.s .bad],[.cells 28 [.arr .i8 81 y0,.arr .i8 16 y1,.one [.i .i8 y2]]]=>some (.inr (y0,y1,y2))
 | _,_,_=>none
def qQ6:Ex->List V->List Obj->Option ((Int)⊕(Unit)):=fun e vs objs=>match e,vs,objs with
 | .ret,[.s (.i .i64 y0)],[]=>some (.inl (y0))
 | .exit 10,[.s .bad],[]=>some (.inr ())
 | _,_,_=>none
def qRG:HL:=fun vs objs K=>match vs,objs with
 | [.s (.ptr 0 0 none 0),.s (.i .i64 x0)],[.cells 28 [.arr .i8 81 x1,.arr .i8 16 x2,.one [.i .i8 x3]]]=>ob (qB0 qB x0 x1 x2 x3) fun t0=>sw t0 (fun z=>K (.ret) ([.s (.ptr 0 0 none 0),.s (.i .i64 (z.1))]) ([.cells 28 [.arr .i8 81 (z.2.1),.arr .i8 16 (z.2.2.1),.one [.i .i8 (z.2.2.2)]]])) (fun z=>K (.exit 0) ([.s (.ptr 0 0 none 0),.s .bad]) ([.cells 28 [.arr .i8 81 (z.1),.arr .i8 16 (z.2.1),.one [.i .i8 (z.2.2)]]]))
 | _,_=>none
def qRC:HL:=fun vs objs K=>match vs,objs with
 | [.s (.ptr 0 0 none 0),.s (.i .i64 x0),.s (.i .i64 x1)],[.cells 28 [.arr .i8 81 x2,.arr .i8 16 x3,.one [.i .i8 x4]]]=>ob (qBd qB x0 x1 x2 x3 x4) fun t0=>sw t0 (fun z=>K (.ret) ([.s (.ptr 0 0 none 0),.s (.i .i64 (z.1)),.s (.i .i64 (z.2.1))]) ([.cells 28 [.arr .i8 81 (z.2.2.1),.arr .i8 16 (z.2.2.2.1),.one [.i .i8 (z.2.2.2.2)]]])) (fun z=>K (.exit 4) ([.s (.ptr 0 0 none 0),.s .bad,.s (.i .i64 (z.1))]) ([.cells 28 [.arr .i8 81 (z.2.1),.arr .i8 16 (z.2.2.1),.one [.i .i8 (z.2.2.2)]]]))
 | _,_=>none
def qRH:HL:=fun vs objs K=>match vs,objs with
 | [.s (.ptr 0 0 none 0),.s (.i .i64 x0)],[.cells 28 [.arr .i8 81 x1,.arr .i8 16 x2,.one [.i .i8 x3]]]=>ob (qBS qB x0 x1 x2 x3) fun t0=>sw t0 (fun z=>K (.ret) ([.s (.ptr 0 0 none 0),.s (.i .i64 (z.1))]) ([.cells 28 [.arr .i8 81 (z.2.1),.arr .i8 16 (z.2.2.1),.one [.i .i8 (z.2.2.2)]]])) (fun z=>K (.exit 2) ([.s (.ptr 0 0 none 0),.s .bad]) ([.cells 28 [.arr .i8 81 (z.1),.arr .i8 16 (z.2.1),.one [.i .i8 (z.2.2)]]]))
 | _,_=>none
def qRD:HL:=fun vs objs K=>match vs,objs with
 | [.s (.ptr 0 0 none 0),.s (.i .i64 x0)],[.cells 28 [.arr .i8 81 x1,.arr .i8 16 x2,.one [.i .i8 x3]]]=>ob (qBP qB x0 x1 x2 x3) fun t0=>sw t0 (fun z=>K (.ret) ([.s (.ptr 0 0 none 0),.s (.i .i64 (z.1))]) ([.cells 28 [.arr .i8 81 (z.2.1),.arr .i8 16 (z.2.2.1),.one [.i .i8 (z.2.2.2)]]])) (fun z=>K (.exit 6) ([.s (.ptr 0 0 none 0),.s .bad]) ([.cells 28 [.arr .i8 81 (z.1),.arr .i8 16 (z.2.1),.one [.i .i8 (z.2.2)]]]))
 | _,_=>none
def qRE:HL:=fun vs objs K=>match vs,objs with
 | [.s (.ptr 0 0 none 0),.s (.i .i64 x0)],[.cells 28 [.arr .i8 81 x1,.arr .i8 16 x2,.one [.i .i8 x3]]]=>ob (qBQ qB x0 x1 x2 x3) fun t0=>sw t0 (fun z=>K (.ret) ([.s (.ptr 0 0 none 0),.s (.i .i64 (z.1))]) ([.cells 28 [.arr .i8 81 (z.2.1),.arr .i8 16 (z.2.2.1),.one [.i .i8 (z.2.2.2)]]])) (fun z=>K (.exit 8) ([.s (.ptr 0 0 none 0),.s .bad]) ([.cells 28 [.arr .i8 81 (z.1),.arr .i8 16 (z.2.1),.one [.i .i8 (z.2.2)]]]))
 | _,_=>none
def qRF:HL:=fun vs objs K=>match vs,objs with
 | [.s (.ptr 0 0 none 0),.s (.i .i64 x0)],[.cells 28 [.arr .i8 81 x1,.arr .i8 16 x2,.one [.i .i8 x3]]]=>ob (qBR qB x0 x1 x2 x3) fun t0=>sw t0 (fun y0=>K (.ret) ([.s (.i .i64 y0)]) ([])) (fun _=>K (.exit 10) ([.s .bad]) ([]))
 | _,_=>none
def qpf:{R:Type}->Nat->List V->List Obj->(Ex->List V->List Obj->Option R)->Option R:=fun q vs objs K=>bif Nat.beq q 4 then qRG vs objs K else bif Nat.beq q 12 then qRC vs objs K else bif Nat.beq q 9 then qRH vs objs K else bif Nat.beq q 20 then qRD vs objs K else bif Nat.beq q 25 then qRE vs objs K else bif Nat.beq q 30 then qRF vs objs K else none
def qCA:Ctx:=mkC 103 ((qRN (qah (qad (qbT (qbi (qGI qK))))))) [(4,[1,3],[1,2]),(9,[1,4],[1,2]),(12,[1,4,5],[1,2,4]),(20,[1,7],[1,2]),(25,[1,8],[1,2]),(30,[1,9],[2])] qpf
theorem qGL:CtxOK Tryz.prog qCA:=mkC_ok ((qbY _ (qo6 _ (qo3 _ (qpq _ (qp4 _ (qHr _ qM)))))))
def qQ9 (f:Nat) (x0:Int) (x1 x2:LI) (x3:Int):Option ((Int×LI×LI×Int)⊕(LI×LI×Int)):=qg qCA 0 [1,3] [1,2] (qG Tryz.f27 4) f ([.s (.ptr 0 0 none 0),.s (.i .i64 x0)]) ([.cells 28 [.arr .i8 81 x1,.arr .i8 16 x2,.one [.i .i8 x3]]]) qQ8
theorem qpd (f:Nat) (x0:Int) (x1 x2:LI) (x3:Int):qQ9 (f+1) x0 x1 x2 x3=qDv (qQ9 f) x0 x1 x2 x3:=by kernel_rfl
theorem qbM:∀ f,qQ9 f=qB0 f
 | 0=>rfl
 | f+1=>by funext x0 x1 x2 x3;rw [qpd,qbM f];rfl
def qQ1 (f:Nat) (x0 x1:Int) (x2 x3:LI) (x4:Int):Option ((Int×Int×LI×LI×Int)⊕(Int×LI×LI×Int)):=qg qCA 0 [1,4,5] [1,2,4] (qG Tryz.f27 12) f ([.s (.ptr 0 0 none 0),.s (.i .i64 x0),.s (.i .i64 x1)]) ([.cells 28 [.arr .i8 81 x2,.arr .i8 16 x3,.one [.i .i8 x4]]]) qQ0
theorem qpZ (f:Nat) (x0 x1:Int) (x2 x3:LI) (x4:Int):qQ1 (f+1) x0 x1 x2 x3 x4=qDr (qQ1 f) x0 x1 x2 x3 x4:=by kernel_rfl
theorem qbI:∀ f,qQ1 f=qBd f
 | 0=>rfl
 | f+1=>by funext x0 x1 x2 x3 x4;rw [qpZ,qbI f];rfl
def qRB (f:Nat) (x0:Int) (x1 x2:LI) (x3:Int):Option ((Int×LI×LI×Int)⊕(LI×LI×Int)):=qg qCA 0 [1,4] [1,2] (qG Tryz.f27 9) f ([.s (.ptr 0 0 none 0),.s (.i .i64 x0)]) ([.cells 28 [.arr .i8 81 x1,.arr .i8 16 x2,.one [.i .i8 x3]]]) qRA
theorem qpe (f:Nat) (x0:Int) (x1 x2:LI) (x3:Int):qRB (f+1) x0 x1 x2 x3=qDw (qRB f) x0 x1 x2 x3:=by kernel_rfl
theorem qbN:∀ f,qRB f=qBS f
 | 0=>rfl
 | f+1=>by funext x0 x1 x2 x3;rw [qpe,qbN f];rfl
def qQ3 (f:Nat) (x0:Int) (x1 x2:LI) (x3:Int):Option ((Int×LI×LI×Int)⊕(LI×LI×Int)):=qg qCA 0 [1,7] [1,2] (qG Tryz.f27 20) f ([.s (.ptr 0 0 none 0),.s (.i .i64 x0)]) ([.cells 28 [.arr .i8 81 x1,.arr .i8 16 x2,.one [.i .i8 x3]]]) qQ2
theorem qpa (f:Nat) (x0:Int) (x1 x2:LI) (x3:Int):qQ3 (f+1) x0 x1 x2 x3=qDs (qQ3 f) x0 x1 x2 x3:=by kernel_rfl
theorem qbJ:∀ f,qQ3 f=qBP f
 | 0=>rfl
 | f+1=>by funext x0 x1 x2 x3;rw [qpa,qbJ f];rfl
def qQ5 (f:Nat) (x0:Int) (x1 x2:LI) (x3:Int):Option ((Int×LI×LI×Int)⊕(LI×LI×Int)):=qg qCA 0 [1,8] [1,2] (qG Tryz.f27 25) f ([.s (.ptr 0 0 none 0),.s (.i .i64 x0)]) ([.cells 28 [.arr .i8 81 x1,.arr .i8 16 x2,.one [.i .i8 x3]]]) qQ4
theorem qpb (f:Nat) (x0:Int) (x1 x2:LI) (x3:Int):qQ5 (f+1) x0 x1 x2 x3=qDt (qQ5 f) x0 x1 x2 x3:=by kernel_rfl
theorem qbK:∀ f,qQ5 f=qBQ f
 | 0=>rfl
 | f+1=>by funext x0 x1 x2 x3;rw [qpb,qbK f];rfl
def qQ7 (f:Nat) (x0:Int) (x1 x2:LI) (x3:Int):Option ((Int)⊕(Unit)):=qg qCA 0 [1,9] [2] (qG Tryz.f27 30) f ([.s (.ptr 0 0 none 0),.s (.i .i64 x0)]) ([.cells 28 [.arr .i8 81 x1,.arr .i8 16 x2,.one [.i .i8 x3]]]) qQ6
theorem qpc (f:Nat) (x0:Int) (x1 x2:LI) (x3:Int):qQ7 (f+1) x0 x1 x2 x3=qDu (qQ7 f) x0 x1 x2 x3:=by kernel_rfl
theorem qbL:∀ f,qQ7 f=qBR f
 | 0=>rfl
 | f+1=>by funext x0 x1 x2 x3;rw [qpc,qbL f];rfl
theorem qpl:qe Tryz.prog qCA 0 (qG Tryz.f27 4):=
 qh mixed qGL (qO.of (l':=[]) (by kernel_rfl) trivial) (q:=4) (kin:=[1,3]) (kout:=[1,2]) (by kernel_rfl) (by kernel_rfl) fun vs objs K r h=>by
  replace h:qRG vs objs K=some r:=h
  unfold qRG at h
  split at h
  ·skip
   obtain ⟨t,h1,h2⟩:=qE h
   rw [<- qbM] at h1
   refine ⟨_,qQ8,t,qB,h1,fun e vs' objs' hd=>?_⟩
   unfold qQ8 at hd
   split at hd
   ·skip
    cases hd
    exact h2
   ·skip
    cases hd
    exact h2
   ·cases hd
  ·cases h
theorem qph:qe Tryz.prog qCA 0 (qG Tryz.f27 12):=
 qh mixed qGL (qO.of (l':=[]) (by kernel_rfl) trivial) (q:=12) (kin:=[1,4,5]) (kout:=[1,2,4]) (by kernel_rfl) (by kernel_rfl) fun vs objs K r h=>by
  replace h:qRC vs objs K=some r:=h
  unfold qRC at h
  split at h
  ·skip
   obtain ⟨t,h1,h2⟩:=qE h
   rw [<- qbI] at h1
   refine ⟨_,qQ0,t,qB,h1,fun e vs' objs' hd=>?_⟩
   unfold qQ0 at hd
   split at hd
   ·skip
    cases hd
    exact h2
   ·skip
    cases hd
    exact h2
   ·cases hd
  ·cases h
theorem qpi:qe Tryz.prog qCA 0 (qG Tryz.f27 20):=
 qh mixed qGL (qO.of (l':=[]) (by kernel_rfl) trivial) (q:=20) (kin:=[1,7]) (kout:=[1,2]) (by kernel_rfl) (by kernel_rfl) fun vs objs K r h=>by
  replace h:qRD vs objs K=some r:=h
  unfold qRD at h
  split at h
  ·skip
   obtain ⟨t,h1,h2⟩:=qE h
   rw [<- qbJ] at h1
   refine ⟨_,qQ2,t,qB,h1,fun e vs' objs' hd=>?_⟩
   unfold qQ2 at hd
   split at hd
   ·skip
    cases hd
    exact h2
   ·skip
    cases hd
    exact h2
   ·cases hd
  ·cases h
theorem qpj:qe Tryz.prog qCA 0 (qG Tryz.f27 25):=
 qh mixed qGL (qO.of (l':=[]) (by kernel_rfl) trivial) (q:=25) (kin:=[1,8]) (kout:=[1,2]) (by kernel_rfl) (by kernel_rfl) fun vs objs K r h=>by
  replace h:qRE vs objs K=some r:=h
  unfold qRE at h
  split at h
  ·skip
   obtain ⟨t,h1,h2⟩:=qE h
   rw [<- qbK] at h1
   refine ⟨_,qQ4,t,qB,h1,fun e vs' objs' hd=>?_⟩
   unfold qQ4 at hd
   split at hd
   ·skip
    cases hd
    exact h2
   ·skip
    cases hd
    exact h2
   ·cases hd
  ·cases h
theorem qpk:qe Tryz.prog qCA 0 (qG Tryz.f27 30):=
 qh mixed qGL (qO.of (l':=[]) (by kernel_rfl) trivial) (q:=30) (kin:=[1,9]) (kout:=[2]) (by kernel_rfl) (by kernel_rfl) fun vs objs K r h=>by
  replace h:qRF vs objs K=some r:=h
  unfold qRF at h
  split at h
  ·skip
   obtain ⟨t,h1,h2⟩:=qE h
   rw [<- qbL] at h1
   refine ⟨_,qQ6,t,qB,h1,fun e vs' objs' hd=>?_⟩
   unfold qQ6 at hd
   split at hd
   ·skip
    cases hd
    exact h2
   ·skip
    cases hd
    exact h2
   ·cases hd
  ·cases h
theorem qpm:qe Tryz.prog qCA 0 (qG Tryz.f27 9):=
 qh mixed qGL (qO.of (l':=[qG Tryz.f27 12]) (by kernel_rfl) ⟨qph,trivial⟩) (q:=9) (kin:=[1,4]) (kout:=[1,2]) (by kernel_rfl) (by kernel_rfl) fun vs objs K r h=>by
  replace h:qRH vs objs K=some r:=h
  unfold qRH at h
  split at h
  ·skip
   obtain ⟨t,h1,h2⟩:=qE h
   rw [<- qbN] at h1
   refine ⟨_,qRA,t,qB,h1,fun e vs' objs' hd=>?_⟩
   unfold qRA at hd
   split at hd
   ·skip
    cases hd
    exact h2
   ·skip
    cases hd
    exact h2
   ·cases hd
  ·cases h
def qbH:V->List Obj->Option (Int):=fun v objs=>match v,objs with
 | .s (.i .i64 y0),[]=>some (y0)
 | _,_=>none
theorem qpY (x0 x1:LI) (x2:Int):fnE qCA Tryz.f27 ([.agg [.arr .i8 81 x0,.arr .i8 16 x1,.one [.i .i8 x2]]]) ([]) qbH=qFU x0 x1 x2:=by kernel_rfl
def qbG:HA:=fun o vs objs K=>match vs,objs with
 | [.agg [.arr .i8 81 x0,.arr .i8 16 x1,.one [.i .i8 x2]]],[]=>ob (qFU x0 x1 x2) fun y0=>K false (.s (.i .i64 y0)) ([])
 | _,_=>o 27 vs objs K
def qbO (o:Orc):Orc:=qL 27 (qbG o) o
theorem qpg:OQ Tryz.prog qbO:=fun _ ho=>qN ho fun vs objs K r h=>by
 unfold qbG at h
 split at h
 ·skip
  obtain ⟨t,h1,h2⟩:=qE h
  refine q8 mixed qGL (fn:=Tryz.f27) (b:=(Tryz.f27).body.getD .skip) (by kernel_rfl) (by kernel_rfl) (by kernel_rfl) ((qpY _ _ _).trans h1) (m:=0) rfl (qO.of (l':=[qG Tryz.f27 4,qG Tryz.f27 9,qG Tryz.f27 20,qG Tryz.f27 25,qG Tryz.f27 30]) (by kernel_rfl) ⟨qpl,qpm,qpi,qpj,qpk,trivial⟩) fun v objs' hd=>?_
  unfold qbH at hd;split at hd;(cases hd;exact h2);cases hd
 ·exact ho _ _ _ _ _ h
def qRP:Ex->List V->List Obj->Option (List Bool×List Bool):=fun e vs objs=>match e,vs,objs with
 | .exit 0,[.s (.ptr 0 0 none 0),.s (.ptr 1 0 none 0)],[.cells 87 [Seg.barr 81 y0],.cells 87 [Seg.barr 81 y1]]=>some (y0,y1)
 | _,_,_=>none
def qRR:HL:=fun vs objs K=>match vs,objs with
 | [.s (.ptr 0 0 none 0),.s (.ptr 1 0 none 0),.s (.ptr 2 0 none 0),.s (.i .i64 x0)],[.cells 28 [.arr .i8 81 x1,.arr .i8 16 x2,.one [.i .i8 x3]],.cells 87 [Seg.barr 81 x4],.cells 87 [Seg.barr 81 x5]]=>ob (qEY qB x0 x1 x2 x3 x4 x5) fun z=>K (.exit 0) ([.s (.ptr 0 0 none 0),.s (.ptr 1 0 none 0)]) ([.cells 87 [Seg.barr 81 (z.1)],.cells 87 [Seg.barr 81 (z.2)]])
 | _,_=>none
def qpy:{R:Type}->Nat->List V->List Obj->(Ex->List V->List Obj->Option R)->Option R:=fun q vs objs K=>bif Nat.beq q 3 then qRR vs objs K else none
def qLy:Ctx:=mkC 18 (qK) [(3,[1,2,3,4],[2,3])] qpy
theorem qba:CtxOK Tryz.prog qLy:=mkC_ok (qM)
def qRQ (f:Nat) (x0:Int) (x1 x2:LI) (x3:Int) (x4 x5:List Bool):Option (List Bool×List Bool):=qg qLy 0 [1,2,3,4] [2,3] (qG Tryz.f44 3) f ([.s (.ptr 0 0 none 0),.s (.ptr 1 0 none 0),.s (.ptr 2 0 none 0),.s (.i .i64 x0)]) ([.cells 28 [.arr .i8 81 x1,.arr .i8 16 x2,.one [.i .i8 x3]],.cells 87 [Seg.barr 81 x4],.cells 87 [Seg.barr 81 x5]]) qRP
theorem qpx (f:Nat) (x0:Int) (x1 x2:LI) (x3:Int) (x4 x5:List Bool):qRQ (f+1) x0 x1 x2 x3 x4 x5=qHy (qRQ f) x0 x1 x2 x3 x4 x5:=by kernel_rfl
theorem qbc:∀ f,qRQ f=qEY f
 | 0=>rfl
 | f+1=>by funext x0 x1 x2 x3 x4 x5;rw [qpx,qbc f];rfl
theorem qp0:qe Tryz.prog qLy 0 (qG Tryz.f44 3):=
 qh mixed qba (qO.of (l':=[]) (by kernel_rfl) trivial) (q:=3) (kin:=[1,2,3,4]) (kout:=[2,3]) (by kernel_rfl) (by kernel_rfl) fun vs objs K r h=>by
  replace h:qRR vs objs K=some r:=h
  unfold qRR at h
  split at h
  ·skip
   obtain ⟨t,h1,h2⟩:=qE h
   rw [<- qbc] at h1
   refine ⟨_,qRP,t,qB,h1,fun e vs' objs' hd=>?_⟩
   unfold qRP at hd;split at hd;(cases hd;exact h2);cases hd
  ·cases h
def qbb:V->List Obj->Option (List Bool):=fun v objs=>match v,objs with
 | .agg [Seg.barr 81 y0],[]=>some (y0)
 | _,_=>none
theorem qpw (x0 x1:LI) (x2:Int):fnE qLy Tryz.f44 ([.agg [.arr .i8 81 x0,.arr .i8 16 x1,.one [.i .i8 x2]]]) ([]) qbb=qJO x0 x1 x2:=by kernel_rfl
def qbZ:HA:=fun o vs objs K=>match vs,objs with
 | [.agg [.arr .i8 81 x0,.arr .i8 16 x1,.one [.i .i8 x2]]],[]=>ob (qJO x0 x1 x2) fun y0=>K false (.agg [Seg.barr 81 y0]) ([])
 | _,_=>o 44 vs objs K
def qbd (o:Orc):Orc:=qL 44 (qbZ o) o
theorem qpz:OQ Tryz.prog qbd:=fun _ ho=>qN ho fun vs objs K r h=>by
 unfold qbZ at h
 split at h
 ·skip
  obtain ⟨t,h1,h2⟩:=qE h
  refine q8 mixed qba (fn:=Tryz.f44) (b:=(Tryz.f44).body.getD .skip) (by kernel_rfl) (by kernel_rfl) (by kernel_rfl) ((qpw _ _ _).trans h1) (m:=0) rfl (qO.of (l':=[qG Tryz.f44 3]) (by kernel_rfl) ⟨qp0,trivial⟩) fun v objs' hd=>?_
  unfold qbb at hd;split at hd;(cases hd;exact h2);cases hd
 ·exact ho _ _ _ _ _ h
def qRY:Ex->List V->List Obj->Option ((Int)⊕(Unit)):=fun e vs objs=>match e,vs,objs with
 | .ret,[.s (.i .i64 y0)],[]=>some (.inl (y0))
 | .exit 0,[.s .bad],[]=>some (.inr ())
 | _,_,_=>none
def qRa:HL:=fun vs objs K=>match vs,objs with
 | [.s (.i .i64 x0),.s (.ptr 0 0 none 0),.s (.i .i64 x1)],[.cells 28 [.arr .i8 81 x2,.arr .i8 16 x3,.one [.i .i8 x4]]]=>ob (qFX qB x0 x1 x2 x3 x4) fun t0=>sw t0 (fun y0=>K (.ret) ([.s (.i .i64 y0)]) ([])) (fun _=>K (.exit 0) ([.s .bad]) ([]))
 | _,_=>none
def qqP:{R:Type}->Nat->List V->List Obj->(Ex->List V->List Obj->Option R)->Option R:=fun q vs objs K=>bif Nat.beq q 2 then qRa vs objs K else none
def qL1:Ctx:=mkC 20 (qK) [(2,[1,2,5],[4])] qqP
theorem qb5:CtxOK Tryz.prog qL1:=mkC_ok (qM)
def qRZ (f:Nat) (x0 x1:Int) (x2 x3:LI) (x4:Int):Option ((Int)⊕(Unit)):=qg qL1 0 [1,2,5] [4] (qG Tryz.f45 2) f ([.s (.i .i64 x0),.s (.ptr 0 0 none 0),.s (.i .i64 x1)]) ([.cells 28 [.arr .i8 81 x2,.arr .i8 16 x3,.one [.i .i8 x4]]]) qRY
theorem qqO (f:Nat) (x0 x1:Int) (x2 x3:LI) (x4:Int):qRZ (f+1) x0 x1 x2 x3 x4=qH1 (qRZ f) x0 x1 x2 x3 x4:=by kernel_rfl
theorem qb7:∀ f,qRZ f=qFX f
 | 0=>rfl
 | f+1=>by funext x0 x1 x2 x3 x4;rw [qqO,qb7 f];rfl
theorem qqR:qe Tryz.prog qL1 0 (qG Tryz.f45 2):=
 qh mixed qb5 (qO.of (l':=[]) (by kernel_rfl) trivial) (q:=2) (kin:=[1,2,5]) (kout:=[4]) (by kernel_rfl) (by kernel_rfl) fun vs objs K r h=>by
  replace h:qRa vs objs K=some r:=h
  unfold qRa at h
  split at h
  ·skip
   obtain ⟨t,h1,h2⟩:=qE h
   rw [<- qb7] at h1
   refine ⟨_,qRY,t,qB,h1,fun e vs' objs' hd=>?_⟩
   unfold qRY at hd
   split at hd
   ·skip
    cases hd
    exact h2
   ·skip
    cases hd
    exact h2
   ·cases hd
  ·cases h
def qb6:V->List Obj->Option (Int):=fun v objs=>match v,objs with
 | .s (.i .i64 y0),[]=>some (y0)
 | _,_=>none
theorem qqN (x0 x1:LI) (x2 x3:Int):fnE qL1 Tryz.f45 ([.agg [.arr .i8 81 x0,.arr .i8 16 x1,.one [.i .i8 x2]],.s (.i .i64 x3)]) ([]) qb6=qJR x0 x1 x2 x3:=by kernel_rfl
def qb4:HA:=fun o vs objs K=>match vs,objs with
 | [.agg [.arr .i8 81 x0,.arr .i8 16 x1,.one [.i .i8 x2]],.s (.i .i64 x3)],[]=>ob (qJR x0 x1 x2 x3) fun y0=>K false (.s (.i .i64 y0)) ([])
 | _,_=>o 45 vs objs K
def qb8 (o:Orc):Orc:=qL 45 (qb4 o) o
theorem qqQ:OQ Tryz.prog qb8:=fun _ ho=>qN ho fun vs objs K r h=>by
 unfold qb4 at h
 split at h
 ·skip
  obtain ⟨t,h1,h2⟩:=qE h
  refine q8 mixed qb5 (fn:=Tryz.f45) (b:=(Tryz.f45).body.getD .skip) (by kernel_rfl) (by kernel_rfl) (by kernel_rfl) ((qqN _ _ _ _).trans h1) (m:=0) rfl (qO.of (l':=[qG Tryz.f45 2]) (by kernel_rfl) ⟨qqR,trivial⟩) fun v objs' hd=>?_
  unfold qb6 at hd;split at hd;(cases hd;exact h2);cases hd
 ·exact ho _ _ _ _ _ h
def qar:Ctx:=mkC 8 (qK) [] qX
theorem qpE:CtxOK Tryz.prog qar:=mkC_ok (qM)
def qas:V->List Obj->Option (Int):=fun v objs=>match v,objs with
 | .s (.i .i64 y0),[]=>some (y0)
 | _,_=>none
theorem qpD (x0:Int):fnE qar Tryz.f116 ([.s (.i .i64 x0)]) ([]) qas=qFR x0:=by kernel_rfl
def qaq:HA:=fun o vs objs K=>match vs,objs with
 | [.s (.i .i64 x0)],[]=>ob (qFR x0) fun y0=>K false (.s (.i .i64 y0)) ([])
 | _,_=>o 116 vs objs K
def qat (o:Orc):Orc:=qL 116 (qaq o) o
theorem qpF:OQ Tryz.prog qat:=fun _ ho=>qN ho fun vs objs K r h=>by
 unfold qaq at h
 split at h
 ·skip
  obtain ⟨t,h1,h2⟩:=qE h
  refine qf mixed qpE ((qpD _).trans h1) (by kernel_rfl) fun v objs' hd=>?_
  unfold qas at hd;split at hd;(cases hd;exact h2);cases hd
 ·exact ho _ _ _ _ _ h
def qan:Ctx:=mkC 125 ((qGI (qJJ (qat qK)))) [] qX
theorem qpB:CtxOK Tryz.prog qan:=mkC_ok ((qHr _ (qLt _ (qpF _ qM))))
def qao:V->List Obj->Option (Bool):=fun v objs=>match v,objs with
 | .s (.b y0),[]=>some (y0)
 | _,_=>none
theorem qpA (x0 x1 x2:Int):fnE qan Tryz.f87 ([.s (.i .i64 x0),.s (.i .i64 x1),.s (.i .i64 x2)]) ([]) qao=qJL x0 x1 x2:=by kernel_rfl
def qam:HA:=fun o vs objs K=>match vs,objs with
 | [.s (.i .i64 x0),.s (.i .i64 x1),.s (.i .i64 x2)],[]=>ob (qJL x0 x1 x2) fun y0=>K false (.s (.b y0)) ([])
 | _,_=>o 87 vs objs K
def qap (o:Orc):Orc:=qL 87 (qam o) o
theorem qpC:OQ Tryz.prog qap:=fun _ ho=>qN ho fun vs objs K r h=>by
 unfold qam at h
 split at h
 ·skip
  obtain ⟨t,h1,h2⟩:=qE h
  refine qf mixed qpB ((qpA _ _ _).trans h1) (by kernel_rfl) fun v objs' hd=>?_
  unfold qao at hd;split at hd;(cases hd;exact h2);cases hd
 ·exact ho _ _ _ _ _ h
def qa5:Ctx:=mkC 51 (qK) [] qX
theorem qpR:CtxOK Tryz.prog qa5:=mkC_ok (qM)
def qa6:V->List Obj->Option (Int):=fun v objs=>match v,objs with
 | .s (.i .i64 y0),[]=>some (y0)
 | _,_=>none
theorem qpQ (x0 x1:Int):fnE qa5 Tryz.f88 ([.s (.i .i64 x0),.s (.i .i64 x1)]) ([]) qa6=qHu x0 x1:=by kernel_rfl
def qa4:HA:=fun o vs objs K=>match vs,objs with
 | [.s (.i .i64 x0),.s (.i .i64 x1)],[]=>ob (qHu x0 x1) fun y0=>K false (.s (.i .i64 y0)) ([])
 | _,_=>o 88 vs objs K
def qQz (o:Orc):Orc:=qL 88 (qa4 o) o
theorem qa7:OQ Tryz.prog qQz:=fun _ ho=>qN ho fun vs objs K r h=>by
 unfold qa4 at h
 split at h
 ·skip
  obtain ⟨t,h1,h2⟩:=qE h
  refine qf mixed qpR ((qpQ _ _).trans h1) (by kernel_rfl) fun v objs' hd=>?_
  unfold qa6 at hd;split at hd;(cases hd;exact h2);cases hd
 ·exact ho _ _ _ _ _ h
def qbD:Ctx:=mkC 7 (qK) [] qX
theorem qpW:CtxOK Tryz.prog qbD:=mkC_ok (qM)
def qbE:V->List Obj->Option (Int):=fun v objs=>match v,objs with
 | .s (.i .i64 y0),[]=>some (y0)
 | _,_=>none
theorem qpV (x0:Int):fnE qbD Tryz.f143 ([.s (.i .i64 x0)]) ([]) qbE=qHw x0:=by kernel_rfl
def qbC:HA:=fun o vs objs K=>match vs,objs with
 | [.s (.i .i64 x0)],[]=>ob (qHw x0) fun y0=>K false (.s (.i .i64 y0)) ([])
 | _,_=>o 143 vs objs K
def qbF (o:Orc):Orc:=qL 143 (qbC o) o
theorem qpX:OQ Tryz.prog qbF:=fun _ ho=>qN ho fun vs objs K r h=>by
 unfold qbC at h
 split at h
 ·skip
  obtain ⟨t,h1,h2⟩:=qE h
  refine qf mixed qpW ((qpV _).trans h1) (by kernel_rfl) fun v objs' hd=>?_
  unfold qbE at hd;split at hd;(cases hd;exact h2);cases hd
 ·exact ho _ _ _ _ _ h
def qQt:Ex->List V->List Obj->Option (Nat×Nat×LI):=fun e vs objs=>match e,vs,objs with
 | .exit 0,[.s (.sl 0 0 y0 true)],[.sli 3 false (.arr .i64 y1 y2)]=>some (y0,y1,y2)
 | _,_,_=>none
def qQv:HL:=fun vs objs K=>match vs,objs with
 | [.s (.i .i64 x0),.s (.sl 0 0 x1 true),.s (.i .i64 x2),.s (.i .i64 x3)],[.sli 3 false (.arr .i64 x4 x5)]=>ob (qFS qB x0 x1 x2 x3 x4 x5) fun z=>K (.exit 0) ([.s (.sl 0 0 (z.1) true)]) ([.sli 3 false (.arr .i64 (z.2.1) (z.2.2))])
 | _,_=>none
def qpI:{R:Type}->Nat->List V->List Obj->(Ex->List V->List Obj->Option R)->Option R:=fun q vs objs K=>bif Nat.beq q 6 then qQv vs objs K else none
def qLu:Ctx:=mkC 41 ((qbF (qQz qK))) [(6,[1,5,6,7],[5])] qpI
theorem qav:CtxOK Tryz.prog qLu:=mkC_ok ((qpX _ (qa7 _ qM)))
def qQu (f:Nat) (x0:Int) (x1:Nat) (x2 x3:Int) (x4:Nat) (x5:LI):Option (Nat×Nat×LI):=qg qLu 0 [1,5,6,7] [5] (qG Tryz.f117 6) f ([.s (.i .i64 x0),.s (.sl 0 0 x1 true),.s (.i .i64 x2),.s (.i .i64 x3)]) ([.sli 3 false (.arr .i64 x4 x5)]) qQt
theorem qpH (f:Nat) (x0:Int) (x1:Nat) (x2 x3:Int) (x4:Nat) (x5:LI):qQu (f+1) x0 x1 x2 x3 x4 x5=qHs (qQu f) x0 x1 x2 x3 x4 x5:=by kernel_rfl
theorem qax:∀ f,qQu f=qFS f
 | 0=>rfl
 | f+1=>by funext x0 x1 x2 x3 x4 x5;rw [qpH,qax f];rfl
theorem qpK:qe Tryz.prog qLu 0 (qG Tryz.f117 6):=
 qh mixed qav (qO.of (l':=[]) (by kernel_rfl) trivial) (q:=6) (kin:=[1,5,6,7]) (kout:=[5]) (by kernel_rfl) (by kernel_rfl) fun vs objs K r h=>by
  replace h:qQv vs objs K=some r:=h
  unfold qQv at h
  split at h
  ·skip
   obtain ⟨t,h1,h2⟩:=qE h
   rw [<- qax] at h1
   refine ⟨_,qQt,t,qB,h1,fun e vs' objs' hd=>?_⟩
   unfold qQt at hd;split at hd;(cases hd;exact h2);cases hd
  ·cases h
def qaw:V->List Obj->Option (Nat×Nat×LI):=fun v objs=>match v,objs with
 | .s (.sl 0 0 y0 true),[.sli 3 false (.arr .i64 y1 y2)]=>some (y0,y1,y2)
 | _,_=>none
theorem qpG (x0 x1:Int):fnE qLu Tryz.f117 ([.s (.i .i64 x0),.s (.i .i64 x1)]) ([]) qaw=qJM x0 x1:=by kernel_rfl
def qau:HA:=fun o vs objs K=>match vs,objs with
 | [.s (.i .i64 x0),.s (.i .i64 x1)],[]=>ob (qJM x0 x1) fun z=>K false (.s (.sl 0 0 (z.1) true)) ([.sli 3 false (.arr .i64 (z.2.1) (z.2.2))])
 | _,_=>o 117 vs objs K
def qay (o:Orc):Orc:=qL 117 (qau o) o
theorem qpJ:OQ Tryz.prog qay:=fun _ ho=>qN ho fun vs objs K r h=>by
 unfold qau at h
 split at h
 ·skip
  obtain ⟨t,h1,h2⟩:=qE h
  refine q8 mixed qav (fn:=Tryz.f117) (b:=(Tryz.f117).body.getD .skip) (by kernel_rfl) (by kernel_rfl) (by kernel_rfl) ((qpG _ _).trans h1) (m:=0) rfl (qO.of (l':=[qG Tryz.f117 6]) (by kernel_rfl) ⟨qpK,trivial⟩) fun v objs' hd=>?_
  unfold qaw at hd;split at hd;(cases hd;exact h2);cases hd
 ·exact ho _ _ _ _ _ h
end
end Go.Kk.KkLO
