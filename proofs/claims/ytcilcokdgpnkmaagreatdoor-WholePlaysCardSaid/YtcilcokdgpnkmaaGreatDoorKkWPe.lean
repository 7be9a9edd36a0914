/- Printed by a tool of this project (KkGen): the program's functions come to the plain ones. -/
import Derived.Test.YtcilcokdgpnkmaaGreatDoorKkWPd
namespace Go.Kk.KkWP
noncomputable section
open Go.Proofs Go.Kk.Pl
set_option maxRecDepth 100000
set_option maxHeartbeats 4000000
def qRI:Ex->List V->List Obj->Option ((Int)⊕(Unit)):=fun e vs objs=>match e,vs,objs with
 | .ret,[.s (.i .i64 y0)],[]=>some (.inl (y0))
 | .exit 0,[.s .bad],[]=>some (.inr ())
 | _,_,_=>none
def qRK:HL:=fun vs objs K=>match vs,objs with
 | [.s (.i .i64 x0),.s (.ptr 0 0 none 0),.s (.i .i64 x1)],[.cells 28 [.arr .i8 81 x2,.arr .i8 16 x3,.one [.i .i8 x4]]]=>ob (qF6 qB x0 x1 x2 x3 x4) fun t0=>sw t0 (fun y0=>K (.ret) ([.s (.i .i64 y0)]) ([])) (fun _=>K (.exit 0) ([.s .bad]) ([]))
 | _,_=>none
def qo6:{R:Type}->Nat->List V->List Obj->(Ex->List V->List Obj->Option R)->Option R:=fun q vs objs K=>bif Nat.beq q 2 then qRK vs objs K else none
def qMb:Ctx:=mkC 20 (qK) [(2,[1,2,5],[4])] qo6
theorem qax:CtxOK Tryz.prog qMb:=mkC_ok (qM)
def qRJ (f:Nat) (x0 x1:Int) (x2 x3:LI) (x4:Int):Option ((Int)⊕(Unit)):=qh qMb 0 [1,2,5] [4] (qG Tryz.f122 2) f ([.s (.i .i64 x0),.s (.ptr 0 0 none 0),.s (.i .i64 x1)]) ([.cells 28 [.arr .i8 81 x2,.arr .i8 16 x3,.one [.i .i8 x4]]]) qRI
theorem qo5 (f:Nat) (x0 x1:Int) (x2 x3:LI) (x4:Int):qRJ (f+1) x0 x1 x2 x3 x4=qIk (qRJ f) x0 x1 x2 x3 x4:=by kernel_rfl
theorem qaz:∀ f,qRJ f=qF6 f
 | 0=>rfl
 | f+1=>by funext x0 x1 x2 x3 x4;rw[qo5,qaz f];rfl
theorem qo8:qg Tryz.prog qMb 0 (qG Tryz.f122 2):=
 qi mixed qax (qQ.of (l':=[]) (by kernel_rfl) trivial) (q:=2) (kin:=[1,2,5]) (kout:=[4]) (by kernel_rfl) (by kernel_rfl) fun vs objs K r h=>by
  replace h:qRK vs objs K=some r:=h
  unfold qRK at h
  split at h
  ·skip
   obtain⟨t,h1,h2⟩:=qE h
   rw[<- qaz] at h1
   refine⟨_,qRI,t,qB,h1,fun e vs' objs' hd=>?_⟩
   unfold qRI at hd
   split at hd
   ·skip
    cases hd
    exact h2
   ·skip
    cases hd
    exact h2
   ·cases hd
  ·cases h
def qay:V->List Obj->Option (Int):=fun v objs=>match v,objs with
 | .s (.i .i64 y0),[]=>some (y0)
 | _,_=>none
theorem qo4 (x0 x1:LI) (x2 x3:Int):fnE qMb Tryz.f122 ([.agg [.arr .i8 81 x0,.arr .i8 16 x1,.one [.i .i8 x2]],.s (.i .i64 x3)]) ([]) qay=qKJ x0 x1 x2 x3:=by kernel_rfl
def qaw:HA:=fun o vs objs K=>match vs,objs with
 | [.agg [.arr .i8 81 x0,.arr .i8 16 x1,.one [.i .i8 x2]],.s (.i .i64 x3)],[]=>ob (qKJ x0 x1 x2 x3) fun y0=>K false (.s (.i .i64 y0)) ([])
 | _,_=>o 122 vs objs K
def qa0 (o:Orc):Orc:=qN 122 (qaw o) o
theorem qo7:OQ Tryz.prog qa0:=fun _ ho=>qO ho fun vs objs K r h=>by
 unfold qaw at h
 split at h
 ·skip
  obtain⟨t,h1,h2⟩:=qE h
  refine qAR mixed qax (fn:=Tryz.f122) (b:=(Tryz.f122).body.getD .skip) (by kernel_rfl) (by kernel_rfl) (by kernel_rfl) ((qo4 _ _ _ _).trans h1) (m:=0) rfl (qQ.of (l':=[qG Tryz.f122 2]) (by kernel_rfl) ⟨qo8,trivial⟩) fun v objs' hd=>?_
  unfold qay at hd;split at hd;(cases hd;exact h2);cases hd
 ·exact ho _ _ _ _ _ h
def qRE:Ex->List V->List Obj->Option ((Bool)⊕(Unit)):=fun e vs objs=>match e,vs,objs with
 | .ret,[.s (.b y0)],[]=>some (.inl (y0))
 | .exit 0,[.s .bad],[]=>some (.inr ())
 | _,_,_=>none
def qRH:HL:=fun vs objs K=>match vs,objs with
 | [.s (.i .i64 x0),.s (.ptr 0 0 none 0),.s (.ptr 1 0 none 0),.s (.i .i64 x1),.s (.i .i64 x2)],[.cells 28 [.arr .i8 81 x3,.arr .i8 16 x4,.one [.i .i8 x5]],.cells 138 [Seg.barr 81 x6]]=>ob (qF5 qB x0 x1 x2 x3 x4 x5 x6) fun t0=>sw t0 (fun y0=>K (.ret) ([.s (.b y0)]) ([])) (fun _=>K (.exit 0) ([.s .bad]) ([]))
 | _,_=>none
def qo2:{R:Type}->Nat->List V->List Obj->(Ex->List V->List Obj->Option R)->Option R:=fun q vs objs K=>bif Nat.beq q 6 then qRH vs objs K else none
def qMa:Ctx:=mkC 39 ((qMW (qEn (qa0 (qMZ qK))))) [(6,[1,2,5,6,7],[4])] qo2
theorem qas:CtxOK Tryz.prog qMa:=mkC_ok ((qQ5 _ (qF0 _ (qo7 _ (qRC _ qM)))))
def qRF (f:Nat) (x0 x1 x2:Int) (x3 x4:LI) (x5:Int) (x6:List Bool):Option ((Bool)⊕(Unit)):=qh qMa 0 [1,2,5,6,7] [4] (qG Tryz.f105 6) f ([.s (.i .i64 x0),.s (.ptr 0 0 none 0),.s (.ptr 1 0 none 0),.s (.i .i64 x1),.s (.i .i64 x2)]) ([.cells 28 [.arr .i8 81 x3,.arr .i8 16 x4,.one [.i .i8 x5]],.cells 138 [Seg.barr 81 x6]]) qRE
theorem qo1 (f:Nat) (x0 x1 x2:Int) (x3 x4:LI) (x5:Int) (x6:List Bool):qRF (f+1) x0 x1 x2 x3 x4 x5 x6=qIj (qRF f) x0 x1 x2 x3 x4 x5 x6:=by kernel_rfl
theorem qau:∀ f,qRF f=qF5 f
 | 0=>rfl
 | f+1=>by funext x0 x1 x2 x3 x4 x5 x6;rw[qo1,qau f];rfl
theorem qo3:qg Tryz.prog qMa 0 (qG Tryz.f105 6):=
 qi mixed qas (qQ.of (l':=[]) (by kernel_rfl) trivial) (q:=6) (kin:=[1,2,5,6,7]) (kout:=[4]) (by kernel_rfl) (by kernel_rfl) fun vs objs K r h=>by
  replace h:qRH vs objs K=some r:=h
  unfold qRH at h
  split at h
  ·skip
   obtain⟨t,h1,h2⟩:=qE h
   rw[<- qau] at h1
   refine⟨_,qRE,t,qB,h1,fun e vs' objs' hd=>?_⟩
   unfold qRE at hd
   split at hd
   ·skip
    cases hd
    exact h2
   ·skip
    cases hd
    exact h2
   ·cases hd
  ·cases h
def qat:V->List Obj->Option (Bool):=fun v objs=>match v,objs with
 | .s (.b y0),[]=>some (y0)
 | _,_=>none
theorem qo0 (x0 x1:LI) (x2 x3:Int):fnE qMa Tryz.f105 ([.agg [.arr .i8 81 x0,.arr .i8 16 x1,.one [.i .i8 x2]],.s (.i .i64 x3)]) ([]) qat=qIi x0 x1 x2 x3:=by kernel_rfl
def qar:HA:=fun o vs objs K=>match vs,objs with
 | [.agg [.arr .i8 81 x0,.arr .i8 16 x1,.one [.i .i8 x2]],.s (.i .i64 x3)],[]=>ob (qIi x0 x1 x2 x3) fun y0=>K false (.s (.b y0)) ([])
 | _,_=>o 105 vs objs K
def qRG (o:Orc):Orc:=qN 105 (qar o) o
theorem qav:OQ Tryz.prog qRG:=fun _ ho=>qO ho fun vs objs K r h=>by
 unfold qar at h
 split at h
 ·skip
  obtain⟨t,h1,h2⟩:=qE h
  refine qAR mixed qas (fn:=Tryz.f105) (b:=(Tryz.f105).body.getD .skip) (by kernel_rfl) (by kernel_rfl) (by kernel_rfl) ((qo0 _ _ _ _).trans h1) (m:=0) rfl (qQ.of (l':=[qG Tryz.f105 6]) (by kernel_rfl) ⟨qo3,trivial⟩) fun v objs' hd=>?_
  unfold qat at hd;split at hd;(cases hd;exact h2);cases hd
 ·exact ho _ _ _ _ _ h
def qbb:Ctx:=mkC 13 ((qRG (qMc qK))) [] qW
theorem qpg:CtxOK Tryz.prog qbb:=mkC_ok ((qav _ (qRL _ qM)))
def qbc:V->List Obj->Option (Bool):=fun v objs=>match v,objs with
 | .s (.b y0),[]=>some (y0)
 | _,_=>none
theorem qpf (x0 x1:LI) (x2 x3:Int) (x4 x5:Int) (x6:Bool):fnE qbb Tryz.f104 ([.agg [.arr .i8 81 x0,.arr .i8 16 x1,.one [.i .i8 x2]],.agg [.one [.i .i64 x3,.i .i64 x4,.i .i64 x5,.b x6]]]) ([]) qbc=qIr x0 x1 x2 x3 x4 x5 x6:=by kernel_rfl
def qba:HA:=fun o vs objs K=>match vs,objs with
 | [.agg [.arr .i8 81 x0,.arr .i8 16 x1,.one [.i .i8 x2]],.agg [.one [.i .i64 x3,.i .i64 x4,.i .i64 x5,.b x6]]],[]=>ob (qIr x0 x1 x2 x3 x4 x5 x6) fun y0=>K false (.s (.b y0)) ([])
 | _,_=>o 104 vs objs K
def qRc (o:Orc):Orc:=qN 104 (qba o) o
theorem qbd:OQ Tryz.prog qRc:=fun _ ho=>qO ho fun vs objs K r h=>by
 unfold qba at h
 split at h
 ·skip
  obtain⟨t,h1,h2⟩:=qE h
  refine qa mixed qpg ((qpf _ _ _ _ _ _ _).trans h1) (by kernel_rfl) fun v objs' hd=>?_
  unfold qbc at hd;split at hd;(cases hd;exact h2);cases hd
 ·exact ho _ _ _ _ _ h
def qRd:Ex->List V->List Obj->Option ((Bool)⊕(Unit)):=fun e vs objs=>match e,vs,objs with
 | .ret,[.s (.b y0)],[]=>some (.inl (y0))
 | .exit 0,[.s .bad],[]=>some (.inr ())
 | _,_,_=>none
def qRf:HL:=fun vs objs K=>match vs,objs with
 | [.s (.ptr 0 0 none 0),.s (.sl 1 0 x0 true),.s (.i .i64 x1)],[.cells 28 [.arr .i8 81 x2,.arr .i8 16 x3,.one [.i .i8 x4]],.sli 51 false (.rows [.i .i64,.i .i64,.i .i64,.b] x5 x6)]=>ob (qGC qB x0 x1 x2 x3 x4 x5 x6) fun t0=>sw t0 (fun y0=>K (.ret) ([.s (.b y0)]) ([])) (fun _=>K (.exit 0) ([.s .bad]) ([]))
 | _,_=>none
def qpj:{R:Type}->Nat->List V->List Obj->(Ex->List V->List Obj->Option R)->Option R:=fun q vs objs K=>bif Nat.beq q 3 then qRf vs objs K else none
def qMe:Ctx:=mkC 19 ((qRc (qRU qK))) [(3,[1,3,4],[2])] qpj
theorem qbf:CtxOK Tryz.prog qMe:=mkC_ok ((qbd _ (qbE _ qM)))
def qRe (f:Nat) (x0:Nat) (x1:Int) (x2 x3:LI) (x4:Int) (x5:Nat) (x6:LL):Option ((Bool)⊕(Unit)):=qh qMe 0 [1,3,4] [2] (qG Tryz.f106 3) f ([.s (.ptr 0 0 none 0),.s (.sl 1 0 x0 true),.s (.i .i64 x1)]) ([.cells 28 [.arr .i8 81 x2,.arr .i8 16 x3,.one [.i .i8 x4]],.sli 51 false (.rows [.i .i64,.i .i64,.i .i64,.b] x5 x6)]) qRd
theorem qpi (f:Nat) (x0:Nat) (x1:Int) (x2 x3:LI) (x4:Int) (x5:Nat) (x6:LL):qRe (f+1) x0 x1 x2 x3 x4 x5 x6=qIs (qRe f) x0 x1 x2 x3 x4 x5 x6:=by kernel_rfl
theorem qbh:∀ f,qRe f=qGC f
 | 0=>rfl
 | f+1=>by funext x0 x1 x2 x3 x4 x5 x6;rw[qpi,qbh f];rfl
theorem qpl:qg Tryz.prog qMe 0 (qG Tryz.f106 3):=
 qi mixed qbf (qQ.of (l':=[]) (by kernel_rfl) trivial) (q:=3) (kin:=[1,3,4]) (kout:=[2]) (by kernel_rfl) (by kernel_rfl) fun vs objs K r h=>by
  replace h:qRf vs objs K=some r:=h
  unfold qRf at h
  split at h
  ·skip
   obtain⟨t,h1,h2⟩:=qE h
   rw[<- qbh] at h1
   refine⟨_,qRd,t,qB,h1,fun e vs' objs' hd=>?_⟩
   unfold qRd at hd
   split at hd
   ·skip
    cases hd
    exact h2
   ·skip
    cases hd
    exact h2
   ·cases hd
  ·cases h
def qbg:V->List Obj->Option (Bool):=fun v objs=>match v,objs with
 | .s (.b y0),[]=>some (y0)
 | _,_=>none
theorem qph (x0 x1:LI) (x2:Int):fnE qMe Tryz.f106 ([.agg [.arr .i8 81 x0,.arr .i8 16 x1,.one [.i .i8 x2]]]) ([]) qbg=qKQ x0 x1 x2:=by kernel_rfl
def qbe:HA:=fun o vs objs K=>match vs,objs with
 | [.agg [.arr .i8 81 x0,.arr .i8 16 x1,.one [.i .i8 x2]]],[]=>ob (qKQ x0 x1 x2) fun y0=>K false (.s (.b y0)) ([])
 | _,_=>o 106 vs objs K
def qbi (o:Orc):Orc:=qN 106 (qbe o) o
theorem qpk:OQ Tryz.prog qbi:=fun _ ho=>qO ho fun vs objs K r h=>by
 unfold qbe at h
 split at h
 ·skip
  obtain⟨t,h1,h2⟩:=qE h
  refine qAR mixed qbf (fn:=Tryz.f106) (b:=(Tryz.f106).body.getD .skip) (by kernel_rfl) (by kernel_rfl) (by kernel_rfl) ((qph _ _ _).trans h1) (m:=0) rfl (qQ.of (l':=[qG Tryz.f106 3]) (by kernel_rfl) ⟨qpl,trivial⟩) fun v objs' hd=>?_
  unfold qbg at hd;split at hd;(cases hd;exact h2);cases hd
 ·exact ho _ _ _ _ _ h
def qbX:Ctx:=mkC 27 ((qbi (qRG (qMc (qRc qK))))) [] qW
theorem qpd:CtxOK Tryz.prog qbX:=mkC_ok ((qpk _ (qav _ (qRL _ (qbd _ qM)))))
def qbY:V->List Obj->Option (Bool):=fun v objs=>match v,objs with
 | .s (.b y0),[]=>some (y0)
 | _,_=>none
theorem qpc (x0 x1:LI) (x2 x3:Int) (x4 x5:Int) (x6:Bool):fnE qbX Tryz.f75 ([.agg [.arr .i8 81 x0,.arr .i8 16 x1,.one [.i .i8 x2]],.agg [.one [.i .i64 x3,.i .i64 x4,.i .i64 x5,.b x6]]]) ([]) qbY=qKP x0 x1 x2 x3 x4 x5 x6:=by kernel_rfl
def qbW:HA:=fun o vs objs K=>match vs,objs with
 | [.agg [.arr .i8 81 x0,.arr .i8 16 x1,.one [.i .i8 x2]],.agg [.one [.i .i64 x3,.i .i64 x4,.i .i64 x5,.b x6]]],[]=>ob (qKP x0 x1 x2 x3 x4 x5 x6) fun y0=>K false (.s (.b y0)) ([])
 | _,_=>o 75 vs objs K
def qbZ (o:Orc):Orc:=qN 75 (qbW o) o
theorem qpe:OQ Tryz.prog qbZ:=fun _ ho=>qO ho fun vs objs K r h=>by
 unfold qbW at h
 split at h
 ·skip
  obtain⟨t,h1,h2⟩:=qE h
  refine qa mixed qpd ((qpc _ _ _ _ _ _ _).trans h1) (by kernel_rfl) fun v objs' hd=>?_
  unfold qbY at hd;split at hd;(cases hd;exact h2);cases hd
 ·exact ho _ _ _ _ _ h
def qRZ:Ex->List V->List Obj->Option (Nat×Nat×LL):=fun e vs objs=>match e,vs,objs with
 | .exit 0,[.s (.sl 0 0 y0 true)],[.sli 51 false (.rows [.i .i64,.i .i64,.i .i64,.b] y1 y2)]=>some (y0,y1,y2)
 | _,_,_=>none
def qRb:HL:=fun vs objs K=>match vs,objs with
 | [.s (.ptr 0 0 none 0),.s (.sl 1 0 x0 true),.s (.sl 2 0 x1 true),.s (.i .i64 x2)],[.cells 28 [.arr .i8 81 x3,.arr .i8 16 x4,.one [.i .i8 x5]],.sli 51 false (.rows [.i .i64,.i .i64,.i .i64,.b] x6 x7),.sli 51 false (.rows [.i .i64,.i .i64,.i .i64,.b] x8 x9)]=>ob (qGB qB x0 x1 x2 x3 x4 x5 x6 x7 x8 x9) fun z=>K (.exit 0) ([.s (.sl 0 0 (z.1) true)]) ([.sli 51 false (.rows [.i .i64,.i .i64,.i .i64,.b] (z.2.1) (z.2.2))])
 | _,_=>none
def qpZ:{R:Type}->Nat->List V->List Obj->(Ex->List V->List Obj->Option R)->Option R:=fun q vs objs K=>bif Nat.beq q 4 then qRb vs objs K else none
def qMd:Ctx:=mkC 28 ((qbZ (qRU qK))) [(4,[1,3,4,5],[3])] qpZ
theorem qbS:CtxOK Tryz.prog qMd:=mkC_ok ((qpe _ (qbE _ qM)))
def qRa (f:Nat) (x0 x1:Nat) (x2:Int) (x3 x4:LI) (x5:Int) (x6:Nat) (x7:LL) (x8:Nat) (x9:LL):Option (Nat×Nat×LL):=qh qMd 0 [1,3,4,5] [3] (qG Tryz.f34 4) f ([.s (.ptr 0 0 none 0),.s (.sl 1 0 x0 true),.s (.sl 2 0 x1 true),.s (.i .i64 x2)]) ([.cells 28 [.arr .i8 81 x3,.arr .i8 16 x4,.one [.i .i8 x5]],.sli 51 false (.rows [.i .i64,.i .i64,.i .i64,.b] x6 x7),.sli 51 false (.rows [.i .i64,.i .i64,.i .i64,.b] x8 x9)]) qRZ
theorem qpY (f:Nat) (x0 x1:Nat) (x2:Int) (x3 x4:LI) (x5:Int) (x6:Nat) (x7:LL) (x8:Nat) (x9:LL):qRa (f+1) x0 x1 x2 x3 x4 x5 x6 x7 x8 x9=qIq (qRa f) x0 x1 x2 x3 x4 x5 x6 x7 x8 x9:=by kernel_rfl
theorem qbU:∀ f,qRa f=qGB f
 | 0=>rfl
 | f+1=>by funext x0 x1 x2 x3 x4 x5 x6 x7 x8 x9;rw[qpY,qbU f];rfl
theorem qpb:qg Tryz.prog qMd 0 (qG Tryz.f34 4):=
 qi mixed qbS (qQ.of (l':=[]) (by kernel_rfl) trivial) (q:=4) (kin:=[1,3,4,5]) (kout:=[3]) (by kernel_rfl) (by kernel_rfl) fun vs objs K r h=>by
  replace h:qRb vs objs K=some r:=h
  unfold qRb at h
  split at h
  ·skip
   obtain⟨t,h1,h2⟩:=qE h
   rw[<- qbU] at h1
   refine⟨_,qRZ,t,qB,h1,fun e vs' objs' hd=>?_⟩
   unfold qRZ at hd;split at hd;(cases hd;exact h2);cases hd
  ·cases h
def qbT:V->List Obj->Option (Nat×Nat×LL):=fun v objs=>match v,objs with
 | .s (.sl 0 0 y0 true),[.sli 51 false (.rows [.i .i64,.i .i64,.i .i64,.b] y1 y2)]=>some (y0,y1,y2)
 | _,_=>none
theorem qpX (x0 x1:LI) (x2:Int):fnE qMd Tryz.f34 ([.agg [.arr .i8 81 x0,.arr .i8 16 x1,.one [.i .i8 x2]]]) ([]) qbT=qKO x0 x1 x2:=by kernel_rfl
def qbR:HA:=fun o vs objs K=>match vs,objs with
 | [.agg [.arr .i8 81 x0,.arr .i8 16 x1,.one [.i .i8 x2]]],[]=>ob (qKO x0 x1 x2) fun z=>K false (.s (.sl 0 0 (z.1) true)) ([.sli 51 false (.rows [.i .i64,.i .i64,.i .i64,.b] (z.2.1) (z.2.2))])
 | _,_=>o 34 vs objs K
def qbV (o:Orc):Orc:=qN 34 (qbR o) o
theorem qpa:OQ Tryz.prog qbV:=fun _ ho=>qO ho fun vs objs K r h=>by
 unfold qbR at h
 split at h
 ·skip
  obtain⟨t,h1,h2⟩:=qE h
  refine qAR mixed qbS (fn:=Tryz.f34) (b:=(Tryz.f34).body.getD .skip) (by kernel_rfl) (by kernel_rfl) (by kernel_rfl) ((qpX _ _ _).trans h1) (m:=0) rfl (qQ.of (l':=[qG Tryz.f34 4]) (by kernel_rfl) ⟨qpb,trivial⟩) fun v objs' hd=>?_
  unfold qbT at hd;split at hd;(cases hd;exact h2);cases hd
 ·exact ho _ _ _ _ _ h
def qbq:Ctx:=mkC 2 (qK) [] qW
theorem qpx:CtxOK Tryz.prog qbq:=mkC_ok (qM)
def qbr:V->List Obj->Option (Nat×Nat×LI):=fun v objs=>match v,objs with
 | .s (.sl 0 0 y0 true),[.sli 3 false (.arr .i64 y1 y2)]=>some (y0,y1,y2)
 | _,_=>none
theorem qpw:fnE qbq Tryz.f107 ([]) ([]) qbr=qG5  := by kernel_rfl
def qbp:HA:=fun o vs objs K=>match vs,objs with
 | [],[]=>ob (qG5 ) fun z=>K false (.s (.sl 0 0 (z.1) true)) ([.sli 3 false (.arr .i64 (z.2.1) (z.2.2))])
 | _,_=>o 107 vs objs K
def qbs (o:Orc):Orc:=qN 107 (qbp o) o
theorem qpy:OQ Tryz.prog qbs:=fun _ ho=>qO ho fun vs objs K r h=>by
 unfold qbp at h
 split at h
 ·skip
  obtain⟨t,h1,h2⟩:=qE h
  refine qa mixed qpx ((qpw).trans h1) (by kernel_rfl) fun v objs' hd=>?_
  unfold qbr at hd;split at hd;(cases hd;exact h2);cases hd
 ·exact ho _ _ _ _ _ h
def qb3:Ctx:=mkC 8 (qK) [] qW
theorem qqA:CtxOK Tryz.prog qb3:=mkC_ok (qM)
def qb4:V->List Obj->Option (Int):=fun v objs=>match v,objs with
 | .s (.i .i64 y0),[]=>some (y0)
 | _,_=>none
theorem qp9 (x0:Int):fnE qb3 Tryz.f123 ([.s (.i .i64 x0)]) ([]) qb4=qMi x0:=by kernel_rfl
def qb2:HA:=fun o vs objs K=>match vs,objs with
 | [.s (.i .i64 x0)],[]=>ob (qMi x0) fun y0=>K false (.s (.i .i64 y0)) ([])
 | _,_=>o 123 vs objs K
def qb5 (o:Orc):Orc:=qN 123 (qb2 o) o
theorem qqB:OQ Tryz.prog qb5:=fun _ ho=>qO ho fun vs objs K r h=>by
 unfold qb2 at h
 split at h
 ·skip
  obtain⟨t,h1,h2⟩:=qE h
  refine qa mixed qqA ((qp9 _).trans h1) (by kernel_rfl) fun v objs' hd=>?_
  unfold qb4 at hd;split at hd;(cases hd;exact h2);cases hd
 ·exact ho _ _ _ _ _ h
def qbu:Ctx:=mkC 20 ((qb5 qK)) [] qW
theorem qp0:CtxOK Tryz.prog qbu:=mkC_ok ((qqB _ qM))
def qbv:V->List Obj->Option (Int):=fun v objs=>match v,objs with
 | .s (.i .i64 y0),[]=>some (y0)
 | _,_=>none
theorem qpz (x0:Int):fnE qbu Tryz.f108 ([.s (.i .i64 x0)]) ([]) qbv=qKT x0:=by kernel_rfl
def qbt:HA:=fun o vs objs K=>match vs,objs with
 | [.s (.i .i64 x0)],[]=>ob (qKT x0) fun y0=>K false (.s (.i .i64 y0)) ([])
 | _,_=>o 108 vs objs K
def qbw (o:Orc):Orc:=qN 108 (qbt o) o
theorem qp1:OQ Tryz.prog qbw:=fun _ ho=>qO ho fun vs objs K r h=>by
 unfold qbt at h
 split at h
 ·skip
  obtain⟨t,h1,h2⟩:=qE h
  refine qa mixed qp0 ((qpz _).trans h1) (by kernel_rfl) fun v objs' hd=>?_
  unfold qbv at hd;split at hd;(cases hd;exact h2);cases hd
 ·exact ho _ _ _ _ _ h
def qRm:Ex->List V->List Obj->Option (Int×Int×LI×LI×Int):=fun e vs objs=>match e,vs,objs with
 | .exit 0,[.s (.i .i64 y0),.s (.ptr 0 0 none 0),.s (.i .i64 y1)],[.cells 28 [.arr .i8 81 y2,.arr .i8 16 y3,.one [.i .i8 y4]]]=>some (y0,y1,y2,y3,y4)
 | _,_,_=>none
def qRo:Ex->List V->List Obj->Option (Int):=fun e vs objs=>match e,vs,objs with
 | .exit 2,[.s (.i .i64 y0)],[]=>some (y0)
 | _,_,_=>none
def qRq:HL:=fun vs objs K=>match vs,objs with
 | [.s (.i .i64 x0),.s (.ptr 0 0 none 0),.s (.i .i64 x1),.s (.i .i64 x2)],[.cells 28 [.arr .i8 81 x3,.arr .i8 16 x4,.one [.i .i8 x5]]]=>ob (qEy qB x0 x1 x2 x3 x4 x5) fun z=>K (.exit 0) ([.s (.i .i64 (z.1)),.s (.ptr 0 0 none 0),.s (.i .i64 (z.2.1))]) ([.cells 28 [.arr .i8 81 (z.2.2.1),.arr .i8 16 (z.2.2.2.1),.one [.i .i8 (z.2.2.2.2)]]])
 | _,_=>none
def qRr:HL:=fun vs objs K=>match vs,objs with
 | [.s (.i .i64 x0),.s (.ptr 0 0 none 0),.s (.i .i64 x1),.s (.i .i64 x2)],[.cells 28 [.arr .i8 81 x3,.arr .i8 16 x4,.one [.i .i8 x5]]]=>ob (qGD qB x0 x1 x2 x3 x4 x5) fun y0=>K (.exit 2) ([.s (.i .i64 y0)]) ([])
 | _,_=>none
def qp5:{R:Type}->Nat->List V->List Obj->(Ex->List V->List Obj->Option R)->Option R:=fun q vs objs K=>bif Nat.beq q 3 then qRq vs objs K else bif Nat.beq q 9 then qRr vs objs K else none
def qIt:Ctx:=mkC 62 ((qbw (qbs (qD3 (qEn qK))))) [(3,[1,2,5,6],[1,2,5]),(9,[1,2,5,8],[5])] qp5
theorem qRl:CtxOK Tryz.prog qIt:=mkC_ok ((qp1 _ (qpy _ (qEm _ (qF0 _ qM)))))
def qRn (f:Nat) (x0 x1 x2:Int) (x3 x4:LI) (x5:Int):Option (Int×Int×LI×LI×Int):=qh qIt 0 [1,2,5,6] [1,2,5] (qG Tryz.f76 3) f ([.s (.i .i64 x0),.s (.ptr 0 0 none 0),.s (.i .i64 x1),.s (.i .i64 x2)]) ([.cells 28 [.arr .i8 81 x3,.arr .i8 16 x4,.one [.i .i8 x5]]]) qRm
theorem qp3 (f:Nat) (x0 x1 x2:Int) (x3 x4:LI) (x5:Int):qRn (f+1) x0 x1 x2 x3 x4 x5=qMg (qRn f) x0 x1 x2 x3 x4 x5:=by kernel_rfl
theorem qbz:∀ f,qRn f=qEy f
 | 0=>rfl
 | f+1=>by funext x0 x1 x2 x3 x4 x5;rw[qp3,qbz f];rfl
def qRp (f:Nat) (x0 x1 x2:Int) (x3 x4:LI) (x5:Int):Option (Int):=qh qIt 0 [1,2,5,8] [5] (qG Tryz.f76 9) f ([.s (.i .i64 x0),.s (.ptr 0 0 none 0),.s (.i .i64 x1),.s (.i .i64 x2)]) ([.cells 28 [.arr .i8 81 x3,.arr .i8 16 x4,.one [.i .i8 x5]]]) qRo
theorem qp4 (f:Nat) (x0 x1 x2:Int) (x3 x4:LI) (x5:Int):qRp (f+1) x0 x1 x2 x3 x4 x5=qMh (qRp f) x0 x1 x2 x3 x4 x5:=by kernel_rfl
theorem qb0:∀ f,qRp f=qGD f
 | 0=>rfl
 | f+1=>by funext x0 x1 x2 x3 x4 x5;rw[qp4,qb0 f];rfl
theorem qp7:qg Tryz.prog qIt 0 (qG Tryz.f76 3):=
 qi mixed qRl (qQ.of (l':=[]) (by kernel_rfl) trivial) (q:=3) (kin:=[1,2,5,6]) (kout:=[1,2,5]) (by kernel_rfl) (by kernel_rfl) fun vs objs K r h=>by
  replace h:qRq vs objs K=some r:=h
  unfold qRq at h
  split at h
  ·skip
   obtain⟨t,h1,h2⟩:=qE h
   rw[<- qbz] at h1
   refine⟨_,qRm,t,qB,h1,fun e vs' objs' hd=>?_⟩
   unfold qRm at hd;split at hd;(cases hd;exact h2);cases hd
  ·cases h
theorem qp8:qg Tryz.prog qIt 0 (qG Tryz.f76 9):=
 qi mixed qRl (qQ.of (l':=[]) (by kernel_rfl) trivial) (q:=9) (kin:=[1,2,5,8]) (kout:=[5]) (by kernel_rfl) (by kernel_rfl) fun vs objs K r h=>by
  replace h:qRr vs objs K=some r:=h
  unfold qRr at h
  split at h
  ·skip
   obtain⟨t,h1,h2⟩:=qE h
   rw[<- qb0] at h1
   refine⟨_,qRo,t,qB,h1,fun e vs' objs' hd=>?_⟩
   unfold qRo at hd;split at hd;(cases hd;exact h2);cases hd
  ·cases h
def qby:V->List Obj->Option (Int):=fun v objs=>match v,objs with
 | .s (.i .i64 y0),[]=>some (y0)
 | _,_=>none
theorem qp2 (x0 x1:LI) (x2 x3:Int):fnE qIt Tryz.f76 ([.agg [.arr .i8 81 x0,.arr .i8 16 x1,.one [.i .i8 x2]],.s (.i .i64 x3)]) ([]) qby=qD9 x0 x1 x2 x3:=by kernel_rfl
def qbx:HA:=fun o vs objs K=>match vs,objs with
 | [.agg [.arr .i8 81 x0,.arr .i8 16 x1,.one [.i .i8 x2]],.s (.i .i64 x3)],[]=>ob (qD9 x0 x1 x2 x3) fun y0=>K false (.s (.i .i64 y0)) ([])
 | _,_=>o 76 vs objs K
def qb1 (o:Orc):Orc:=qN 76 (qbx o) o
theorem qp6:OQ Tryz.prog qb1:=fun _ ho=>qO ho fun vs objs K r h=>by
 unfold qbx at h
 split at h
 ·skip
  obtain⟨t,h1,h2⟩:=qE h
  refine qAR mixed qRl (fn:=Tryz.f76) (b:=(Tryz.f76).body.getD .skip) (by kernel_rfl) (by kernel_rfl) (by kernel_rfl) ((qp2 _ _ _ _).trans h1) (m:=0) rfl (qQ.of (l':=[qG Tryz.f76 3,qG Tryz.f76 9]) (by kernel_rfl) ⟨qp7,qp8,trivial⟩) fun v objs' hd=>?_
  unfold qby at hd;split at hd;(cases hd;exact h2);cases hd
 ·exact ho _ _ _ _ _ h
def qbm:Ctx:=mkC 16 ((qb1 qK)) [] qW
theorem qpu:CtxOK Tryz.prog qbm:=mkC_ok ((qp6 _ qM))
def qbn:V->List Obj->Option (Int):=fun v objs=>match v,objs with
 | .s (.i .i64 y0),[]=>some (y0)
 | _,_=>none
theorem qpt (x0 x1:LI) (x2:Int):fnE qbm Tryz.f35 ([.agg [.arr .i8 81 x0,.arr .i8 16 x1,.one [.i .i8 x2]]]) ([]) qbn=qKS x0 x1 x2:=by kernel_rfl
def qbl:HA:=fun o vs objs K=>match vs,objs with
 | [.agg [.arr .i8 81 x0,.arr .i8 16 x1,.one [.i .i8 x2]]],[]=>ob (qKS x0 x1 x2) fun y0=>K false (.s (.i .i64 y0)) ([])
 | _,_=>o 35 vs objs K
def qbo (o:Orc):Orc:=qN 35 (qbl o) o
theorem qpv:OQ Tryz.prog qbo:=fun _ ho=>qO ho fun vs objs K r h=>by
 unfold qbl at h
 split at h
 ·skip
  obtain⟨t,h1,h2⟩:=qE h
  refine qa mixed qpu ((qpt _ _ _).trans h1) (by kernel_rfl) fun v objs' hd=>?_
  unfold qbn at hd;split at hd;(cases hd;exact h2);cases hd
 ·exact ho _ _ _ _ _ h
def qRg:Ex->List V->List Obj->Option ((Int×Int×Int×Int)⊕(Int×Int)):=fun e vs objs=>match e,vs,objs with
 | .ret,[.s (.i .i64 y0),.s (.i .i64 y1),.s (.i .i64 y2),.s (.i .i64 y3)],[]=>some (.inl (y0,y1,y2,y3))
 | .exit 0,[.s (.i .i64 y0),.s .bad,.s .bad,.s (.i .i64 y1)],[]=>some (.inr (y0,y1))
 | _,_,_=>none
def qRj (n:Nat) {R:Type} (vs:List V) (objs:List Obj) (K:Ex->List V->List Obj->Option R):Option R:=match vs,objs with
 | [.s (.i .i64 x0),.s (.i .i64 x1),.s (.i .i64 x2),.s (.ptr 0 0 none 0),.s (.sl 1 0 x3 true),.s (.i .i64 x4),.s (.i .i64 x5)],[.cells 28 [.arr .i8 81 x6,.arr .i8 16 x7,.one [.i .i8 x8]],.sli 51 false (.rows [.i .i64,.i .i64,.i .i64,.b] x9 x10)]=>ob (qCm (qBo n) qB x0 x1 x2 x3 x4 x5 x6 x7 x8 x9 x10) fun t0=>sw t0 (fun z=>K (.ret) ([.s (.i .i64 (z.1)),.s (.i .i64 (z.2.1)),.s (.i .i64 (z.2.2.1)),.s (.i .i64 (z.2.2.2))]) ([])) (fun z=>K (.exit 0) ([.s (.i .i64 (z.1)),.s .bad,.s .bad,.s (.i .i64 (z.2))]) ([]))
 | _,_=>none
def qpp (n:Nat):{R:Type}->Nat->List V->List Obj->(Ex->List V->List Obj->Option R)->Option R:=fun q vs objs K=>bif Nat.beq q 11 then qRj n vs objs K else none
def qG4 (n:Nat) {R:Type} (o:Orc) (vs:List V) (objs:List Obj) (K:Bool->V->List Obj->Option R):Option R:=match vs,objs with
 | [.agg [.arr .i8 81 x0,.arr .i8 16 x1,.one [.i .i8 x2]],.s (.i .i64 x3),.s (.i .i64 x4),.s (.i .i64 x5)],[]=>ob (qBo n x0 x1 x2 x3 x4 x5) fun z=>K false (.tup [W.s (.i .i64 (z.1)),W.s (.i .i64 (z.2))]) ([])
 | _,_=>o 12 vs objs K
def qRi (n:Nat) (o:Orc):Orc:=fun f vs objs K=>bif Nat.beq f 12 then qG4 n o vs objs K else o f vs objs K
def qpr (n:Nat):Orc:=qRi n (qMc (qbo (qbV qK)))
def qKR (n:Nat):Ctx:=mkC 66 (qpr n) [(11,[1,2,3,4,10,11,12],[3,8,9,11])] (qpp n)
def qRh (n:Nat) (f:Nat) (x0 x1 x2:Int) (x3:Nat) (x4 x5:Int) (x6 x7:LI) (x8:Int) (x9:Nat) (x10:LL):Option ((Int×Int×Int×Int)⊕(Int×Int)):=qh (qKR n) 0 [1,2,3,4,10,11,12] [3,8,9,11] (qG Tryz.f12 11) f ([.s (.i .i64 x0),.s (.i .i64 x1),.s (.i .i64 x2),.s (.ptr 0 0 none 0),.s (.sl 1 0 x3 true),.s (.i .i64 x4),.s (.i .i64 x5)]) ([.cells 28 [.arr .i8 81 x6,.arr .i8 16 x7,.one [.i .i8 x8]],.sli 51 false (.rows [.i .i64,.i .i64,.i .i64,.b] x9 x10)]) qRg
theorem qpo (n:Nat) (f:Nat) (x0 x1 x2:Int) (x3:Nat) (x4 x5:Int) (x6 x7:LI) (x8:Int) (x9:Nat) (x10:LL):qRh n (f+1) x0 x1 x2 x3 x4 x5 x6 x7 x8 x9 x10=qMf (qBo n) (qRh n f) x0 x1 x2 x3 x4 x5 x6 x7 x8 x9 x10:=by kernel_rfl
theorem qbk (n:Nat):∀ f,qRh n f=qCm (qBo n) f
 | 0=>rfl
 | f+1=>by funext x0 x1 x2 x3 x4 x5 x6 x7 x8 x9 x10;rw[qpo,qbk n f];rfl
theorem qps (n:Nat) (hc:CtxOK Tryz.prog (qKR n)):qg Tryz.prog (qKR n) 0 (qG Tryz.f12 11):=
 qi mixed hc (qQ.of (l':=[]) (by kernel_rfl) trivial) (q:=11) (kin:=[1,2,3,4,10,11,12]) (kout:=[3,8,9,11]) (by kernel_rfl) (by kernel_rfl) fun vs objs K r h=>by
  replace h:qRj n vs objs K=some r:=h
  unfold qRj at h
  split at h
  ·skip
   obtain⟨t,h1,h2⟩:=qE h
   rw[<- qbk n] at h1
   refine⟨_,qRg,t,qB,h1,fun e vs' objs' hd=>?_⟩
   unfold qRg at hd
   split at hd
   ·skip
    cases hd
    exact h2
   ·skip
    cases hd
    exact h2
   ·cases hd
  ·cases h
def qbj:V->List Obj->Option (Int×Int):=fun v objs=>match v,objs with
 | .tup [W.s (.i .i64 y0),W.s (.i .i64 y1)],[]=>some (y0,y1)
 | _,_=>none
theorem qpm (n:Nat) (x0 x1:LI) (x2 x3:Int) (x4 x5:Int):fnE (qKR n) Tryz.f12 ([.agg [.arr .i8 81 x0,.arr .i8 16 x1,.one [.i .i8 x2]],.s (.i .i64 x3),.s (.i .i64 x4),.s (.i .i64 x5)]) ([]) qbj=qBo (n+1) x0 x1 x2 x3 x4 x5:=by kernel_rfl
theorem qpn (n:Nat) (hc:CtxOK Tryz.prog (qKR n)) {vs:List V} {objs:List Obj} (x0 x1:LI) (x2 x3:Int) (x4 x5:Int) {R:Type} {K:Bool->V->List Obj->Option R} {r:R} (hv:vs=[.agg [.arr .i8 81 x0,.arr .i8 16 x1,.one [.i .i8 x2]],.s (.i .i64 x3),.s (.i .i64 x4),.s (.i .i64 x5)]) (ho:objs=[]) (h:ob (qBo (n+1) x0 x1 x2 x3 x4 x5) (fun z=>K false (.tup [W.s (.i .i64 (z.1)),W.s (.i .i64 (z.2))]) ([]))=some r):
  ∃ p v objs',K p v objs'=some r /\ qDe Tryz.prog 12 vs objs p v objs':=by
 subst hv
 subst ho
 obtain⟨t,h1,h2⟩:=qE h
 refine qJQ mixed hc (objs:=[]) (fn:=Tryz.f12) (b:=(Tryz.f12).body.getD .skip) (by kernel_rfl) (by kernel_rfl) (by kernel_rfl) (qQ.of (l':=[qG Tryz.f12 11]) (by kernel_rfl) ⟨qps n hc,trivial⟩) ((qpm n x0 x1 x2 x3 x4 x5).trans h1) fun v objs' hd=>?_
 unfold qbj at hd;split at hd;(cases hd;exact h2);cases hd
theorem qpq:∀ (n:Nat) (o:Orc) (_:qBx Tryz.prog o),qBx Tryz.prog (qRi n o):=by
 intro n
 induction n with
 | zero=>
   intro o ho R f vs objs K r h
   replace h:(bif Nat.beq f 12 then qG4 0 o vs objs K else o f vs objs K)=some r:=h
   cases hf:Nat.beq f 12 with
   | false=>rw[hf] at h;exact ho f vs objs K r h
   | true=>
     rw[hf] at h
     have e:=Nat.eq_of_beq_eq_true hf
     subst e
     replace h:qG4 0 o vs objs K=some r:=h
     unfold qG4 at h
     split at h
     ·skip
      cases h
     ·exact ho _ _ _ _ _ h
 | succ n ih=>
   intro o ho R f vs objs K r h
   replace h:(bif Nat.beq f 12 then qG4 (n+1) o vs objs K else o f vs objs K)=some r:=h
   cases hf:Nat.beq f 12 with
   | false=>rw[hf] at h;exact ho f vs objs K r h
   | true=>
     rw[hf] at h
     have e:=Nat.eq_of_beq_eq_true hf
     subst e
     replace h:qG4 (n+1) o vs objs K=some r:=h
     unfold qG4 at h
     split at h
     ·skip
      exact qpn n ⟨tab_ok,ih _ (qRL _ (qpv _ (qpa _ qM))),eqs_ok,bytes_ok,fun _ _ _=>rfl,exts_ok⟩ _ _ _ _ _ _ rfl rfl h
     ·exact ho _ _ _ _ _ h
def qVc:Ctx:=mkC 21 ((qOr (qOv qK))) [] qW
theorem qie:CtxOK Tryz.prog qVc:=mkC_ok ((qVq _ (qV6 _ qM)))
def qVd:V->List Obj->Option (LI×LI×Int×Bool):=fun v objs=>match v,objs with
 | .tup [W.agg [.arr .i8 81 y0,.arr .i8 16 y1,.one [.i .i8 y2]],W.s (.b y3)],[]=>some (y0,y1,y2,y3)
 | _,_=>none
theorem qid (x0 x1:LI) (x2 x3:Int) (x4 x5:Int) (x6:Bool):fnE qVc Tryz.f13 ([.agg [.arr .i8 81 x0,.arr .i8 16 x1,.one [.i .i8 x2]],.agg [.one [.i .i64 x3,.i .i64 x4,.i .i64 x5,.b x6]]]) ([]) qVd=qEV x0 x1 x2 x3 x4 x5 x6:=by kernel_rfl
def qVb:HA:=fun o vs objs K=>match vs,objs with
 | [.agg [.arr .i8 81 x0,.arr .i8 16 x1,.one [.i .i8 x2]],.agg [.one [.i .i64 x3,.i .i64 x4,.i .i64 x5,.b x6]]],[]=>ob (qEV x0 x1 x2 x3 x4 x5 x6) fun z=>K false (.tup [W.agg [.arr .i8 81 (z.1),.arr .i8 16 (z.2.1),.one [.i .i8 (z.2.2.1)]],W.s (.b (z.2.2.2))]) ([])
 | _,_=>o 13 vs objs K
def qVe (o:Orc):Orc:=qN 13 (qVb o) o
theorem qif:OQ Tryz.prog qVe:=fun _ ho=>qO ho fun vs objs K r h=>by
 unfold qVb at h
 split at h
 ·skip
  obtain⟨t,h1,h2⟩:=qE h
  refine qa mixed qie ((qid _ _ _ _ _ _ _).trans h1) (by kernel_rfl) fun v objs' hd=>?_
  unfold qVd at hd;split at hd;(cases hd;exact h2);cases hd
 ·exact ho _ _ _ _ _ h
def qP0:Ex->List V->List Obj->Option ((Bool×LI×LI×Int×LL×LL)⊕(LI×LI×Int×LL×LL)):=fun e vs objs=>match e,vs,objs with
 | .ret,[.s (.b y0)],[.cells 87 [.arr .i8 81 y1,.arr .i8 16 y2,.one [.i .i8 y3],.rows [.i .u64,.i .u64] 32 y4,.rows [.i .u64,.i .u64] 2 y5]]=>some (.inl (y0,y1,y2,y3,y4,y5))
 | .exit 0,[.s .bad],[.cells 87 [.arr .i8 81 y0,.arr .i8 16 y1,.one [.i .i8 y2],.rows [.i .u64,.i .u64] 32 y3,.rows [.i .u64,.i .u64] 2 y4]]=>some (.inr (y0,y1,y2,y3,y4))
 | _,_,_=>none
def qP2:HL:=fun vs objs K=>match vs,objs with
 | [.s (.ptr 1 0 none 0),.s (.sl 2 0 x0 true),.s (.i .i64 x1),.s (.i .i64 x2)],[.cells 87 [.arr .i8 81 x3,.arr .i8 16 x4,.one [.i .i8 x5],.rows [.i .u64,.i .u64] 32 x6,.rows [.i .u64,.i .u64] 2 x7],.cells 51 [.one [.i .i64 x8,.i .i64 x9,.i .i64 x10,.b x11]],.sli 51 false (.rows [.i .i64,.i .i64,.i .i64,.b] x12 x13)]=>ob (qFq qB x0 x1 x2 x3 x4 x5 x6 x7 x8 x9 x10 x11 x12 x13) fun t0=>sw t0 (fun z=>K (.ret) ([.s (.b (z.1))]) ([.cells 87 [.arr .i8 81 (z.2.1),.arr .i8 16 (z.2.2.1),.one [.i .i8 (z.2.2.2.1)],.rows [.i .u64,.i .u64] 32 (z.2.2.2.2.1),.rows [.i .u64,.i .u64] 2 (z.2.2.2.2.2)]])) (fun z=>K (.exit 0) ([.s .bad]) ([.cells 87 [.arr .i8 81 (z.1),.arr .i8 16 (z.2.1),.one [.i .i8 (z.2.2.1)],.rows [.i .u64,.i .u64] 32 (z.2.2.2.1),.rows [.i .u64,.i .u64] 2 (z.2.2.2.2)]]))
 | _,_=>none
def qk7:{R:Type}->Nat->List V->List Obj->(Ex->List V->List Obj->Option R)->Option R:=fun q vs objs K=>bif Nat.beq q 2 then qP2 vs objs K else none
def qLk:Ctx:=mkC 18 ((qJy qK)) [(2,[3,8,9,10],[4])] qk7
theorem qXl:CtxOK Tryz.prog qLk:=mkC_ok ((qLj _ qM))
def qP1 (f:Nat) (x0:Nat) (x1 x2:Int) (x3 x4:LI) (x5:Int) (x6 x7:LL) (x8 x9 x10:Int) (x11:Bool) (x12:Nat) (x13:LL):Option ((Bool×LI×LI×Int×LL×LL)⊕(LI×LI×Int×LL×LL)):=qh qLk 1 [3,8,9,10] [4] (qG Tryz.f14 2) f ([.s (.ptr 1 0 none 0),.s (.sl 2 0 x0 true),.s (.i .i64 x1),.s (.i .i64 x2)]) ([.cells 87 [.arr .i8 81 x3,.arr .i8 16 x4,.one [.i .i8 x5],.rows [.i .u64,.i .u64] 32 x6,.rows [.i .u64,.i .u64] 2 x7],.cells 51 [.one [.i .i64 x8,.i .i64 x9,.i .i64 x10,.b x11]],.sli 51 false (.rows [.i .i64,.i .i64,.i .i64,.b] x12 x13)]) qP0
theorem qk6 (f:Nat) (x0:Nat) (x1 x2:Int) (x3 x4:LI) (x5:Int) (x6 x7:LL) (x8 x9 x10:Int) (x11:Bool) (x12:Nat) (x13:LL):qP1 (f+1) x0 x1 x2 x3 x4 x5 x6 x7 x8 x9 x10 x11 x12 x13=qII (qP1 f) x0 x1 x2 x3 x4 x5 x6 x7 x8 x9 x10 x11 x12 x13:=by kernel_rfl
theorem qXn:∀ f,qP1 f=qFq f
 | 0=>rfl
 | f+1=>by funext x0 x1 x2 x3 x4 x5 x6 x7 x8 x9 x10 x11 x12 x13;rw[qk6,qXn f];rfl
theorem qk9:qg Tryz.prog qLk 1 (qG Tryz.f14 2):=
 qi mixed qXl (qQ.of (l':=[]) (by kernel_rfl) trivial) (q:=2) (kin:=[3,8,9,10]) (kout:=[4]) (by kernel_rfl) (by kernel_rfl) fun vs objs K r h=>by
  replace h:qP2 vs objs K=some r:=h
  unfold qP2 at h
  split at h
  ·skip
   obtain⟨t,h1,h2⟩:=qE h
   rw[<- qXn] at h1
   refine⟨_,qP0,t,qB,h1,fun e vs' objs' hd=>?_⟩
   unfold qP0 at hd
   split at hd
   ·skip
    cases hd
    exact h2
   ·skip
    cases hd
    exact h2
   ·cases hd
  ·cases h
def qXm:V->List Obj->Option (Bool×LI×LI×Int×LL×LL):=fun v objs=>match v,objs with
 | .s (.b y0),[.cells 87 [.arr .i8 81 y1,.arr .i8 16 y2,.one [.i .i8 y3],.rows [.i .u64,.i .u64] 32 y4,.rows [.i .u64,.i .u64] 2 y5]]=>some (y0,y1,y2,y3,y4,y5)
 | _,_=>none
theorem qk5 (x0 x1 x2:Int) (x3:Bool) (x4 x5:LI) (x6:Int) (x7 x8:LL):fnE qLk Tryz.f14 ([.s (.ptr 0 0 none 0),.agg [.one [.i .i64 x0,.i .i64 x1,.i .i64 x2,.b x3]]]) ([.cells 87 [.arr .i8 81 x4,.arr .i8 16 x5,.one [.i .i8 x6],.rows [.i .u64,.i .u64] 32 x7,.rows [.i .u64,.i .u64] 2 x8]]) qXm=qD0 x0 x1 x2 x3 x4 x5 x6 x7 x8:=by kernel_rfl
def qXk:HA:=fun o vs objs K=>match vs,objs with
 | [.s (.ptr 0 0 none 0),.agg [.one [.i .i64 x0,.i .i64 x1,.i .i64 x2,.b x3]]],[.cells 87 [.arr .i8 81 x4,.arr .i8 16 x5,.one [.i .i8 x6],.rows [.i .u64,.i .u64] 32 x7,.rows [.i .u64,.i .u64] 2 x8]]=>ob (qD0 x0 x1 x2 x3 x4 x5 x6 x7 x8) fun z=>K false (.s (.b (z.1))) ([.cells 87 [.arr .i8 81 (z.2.1),.arr .i8 16 (z.2.2.1),.one [.i .i8 (z.2.2.2.1)],.rows [.i .u64,.i .u64] 32 (z.2.2.2.2.1),.rows [.i .u64,.i .u64] 2 (z.2.2.2.2.2)]])
 | _,_=>o 14 vs objs K
def qXo (o:Orc):Orc:=qN 14 (qXk o) o
theorem qk8:OQ Tryz.prog qXo:=fun _ ho=>qO ho fun vs objs K r h=>by
 unfold qXk at h
 split at h
 ·skip
  obtain⟨t,h1,h2⟩:=qE h
  refine qAR mixed qXl (fn:=Tryz.f14) (b:=(Tryz.f14).body.getD .skip) (by kernel_rfl) (by kernel_rfl) (by kernel_rfl) ((qk5 _ _ _ _ _ _ _ _ _).trans h1) (m:=1) rfl (qQ.of (l':=[qG Tryz.f14 2]) (by kernel_rfl) ⟨qk9,trivial⟩) fun v objs' hd=>?_
  unfold qXm at hd;split at hd;(cases hd;exact h2);cases hd
 ·exact ho _ _ _ _ _ h
def qS7:Ex->List V->List Obj->Option ((Bool)⊕(Unit)):=fun e vs objs=>match e,vs,objs with
 | .ret,[.s (.b y0)],[]=>some (.inl (y0))
 | .exit 0,[.s .bad],[]=>some (.inr ())
 | _,_,_=>none
def qS9:HL:=fun vs objs K=>match vs,objs with
 | [.s (.ptr 0 0 none 0),.s (.ptr 1 0 none 0),.s (.i .i64 x0),.s (.i .i64 x1)],[.cells 28 [.arr .i8 81 x2,.arr .i8 16 x3,.one [.i .i8 x4]],.cells 56 [.one [.ptr 2 0 none 0,.bad,.i .i64 x5,.i .i64 x6]],.cells 59 [.one [.sl 3 0 x7 true,.i .i64 x8]],.sli 127 false (.rows kk0 x9 x10)]=>bif decide (kk0=kL0) then ob (qCT qB x0 x1 x2 x3 x4 x5 x6 x7 x8 x9 x10) fun t0=>sw t0 (fun y0=>K (.ret) ([.s (.b y0)]) ([])) (fun _=>K (.exit 0) ([.s .bad]) ([])) else none
 | _,_=>none
def qtb:{R:Type}->Nat->List V->List Obj->(Ex->List V->List Obj->Option R)->Option R:=fun q vs objs K=>bif Nat.beq q 14 then qS9 vs objs K else none
def qNN:Ctx:=mkC 150 ((qXo (qVe (qRi qB (qJy (qJV (qTr (qcZ (qTL (qU1 (table_New_v1o (qcU qK)))))))))))) [(14,[3,7,83,84],[6])] qtb
theorem qS5:CtxOK Tryz.prog qNN:=mkC_ok ((qk8 _ (qif _ (qpq qB _ (qLj _ (qK8 _ (qgG _ (qq5 _ (qe9 _ (qhZ _ (table_New_v1o_ok _ (qq1 _ qM))))))))))))
def qS8 (f:Nat) (x0 x1:Int) (x2 x3:LI) (x4 x5 x6:Int) (x7:Nat) (x8:Int) (x9:Nat) (x10:LL):Option ((Bool)⊕(Unit)):=qh qNN 0 [3,7,83,84] [6] (qG Tryz.f3 14) f ([.s (.ptr 0 0 none 0),.s (.ptr 1 0 none 0),.s (.i .i64 x0),.s (.i .i64 x1)]) ([.cells 28 [.arr .i8 81 x2,.arr .i8 16 x3,.one [.i .i8 x4]],.cells 56 [.one [.ptr 2 0 none 0,.bad,.i .i64 x5,.i .i64 x6]],.cells 59 [.one [.sl 3 0 x7 true,.i .i64 x8]],.sli 127 false (.rows kL0 x9 x10)]) qS7
theorem qta (f:Nat) (x0 x1:Int) (x2 x3:LI) (x4 x5 x6:Int) (x7:Nat) (x8:Int) (x9:Nat) (x10:LL):qS8 (f+1) x0 x1 x2 x3 x4 x5 x6 x7 x8 x9 x10=qNO (qS8 f) x0 x1 x2 x3 x4 x5 x6 x7 x8 x9 x10:=by kernel_rfl
theorem qeo:∀ f,qS8 f=qCT f
 | 0=>rfl
 | f+1=>by funext x0 x1 x2 x3 x4 x5 x6 x7 x8 x9 x10;rw[qta,qeo f];rfl
theorem qep:qg Tryz.prog qNN 0 (qG Tryz.f3 14):=
 qi mixed qS5 (qQ.of (l':=[]) (by kernel_rfl) trivial) (q:=14) (kin:=[3,7,83,84]) (kout:=[6]) (by kernel_rfl) (by kernel_rfl) fun vs objs K r h=>by
  replace h:qS9 vs objs K=some r:=h
  unfold qS9 at h
  split at h
  ·skip
   have g:=(qV h).1
   replace h:=(qV h).2
   obtain rfl:=of_decide_eq_true g
   obtain⟨t,h1,h2⟩:=qE h
   rw[<- qeo] at h1
   refine⟨_,qS7,t,qB,h1,fun e vs' objs' hd=>?_⟩
   unfold qS7 at hd
   split at hd
   ·skip
    cases hd
    exact h2
   ·skip
    cases hd
    exact h2
   ·cases hd
  ·cases h
def qS6:V->List Obj->Option (Bool):=fun v objs=>match v,objs with
 | .s (.b y0),[]=>some (y0)
 | _,_=>none
theorem qem (x0 x1:LI) (x2 x3 x4:Int):fnE qNN Tryz.f3 ([.agg [.arr .i8 81 x0,.arr .i8 16 x1,.one [.i .i8 x2]],.s (.i .i64 x3),.s (.i .i64 x4)]) ([]) qS6=qKp x0 x1 x2 x3 x4:=by kernel_rfl
def qen:HA:=fun o vs objs K=>match vs,objs with
 | [.agg [.arr .i8 81 x0,.arr .i8 16 x1,.one [.i .i8 x2]],.s (.i .i64 x3),.s (.i .i64 x4)],[]=>ob (qKp x0 x1 x2 x3 x4) fun y0=>K false (.s (.b y0)) ([])
 | _,_=>o 3 vs objs K
def qtc (o:Orc):Orc:=qN 3 (qen o) o
theorem qtZ {vs:List V} {objs:List Obj} (x0 x1:LI) (x2 x3 x4:Int) {R:Type} {K:Bool->V->List Obj->Option R} {r:R} (hv:vs=[.agg [.arr .i8 81 x0,.arr .i8 16 x1,.one [.i .i8 x2]],.s (.i .i64 x3),.s (.i .i64 x4)]) (ho:objs=[]) (h:ob (qKp x0 x1 x2 x3 x4) (fun y0=>K false (.s (.b y0)) ([]))=some r):
  ∃ p v objs',K p v objs'=some r /\ qDe Tryz.prog 3 vs objs p v objs':=by
 subst hv
 subst ho
 obtain⟨t,h1,h2⟩:=qE h
 refine qAR mixed qS5 (fn:=Tryz.f3) (b:=(Tryz.f3).body.getD .skip) (by kernel_rfl) (by kernel_rfl) (by kernel_rfl) ((qem _ _ _ _ _).trans h1) (m:=0) rfl (qQ.of (l':=[qG Tryz.f3 14]) (by kernel_rfl) ⟨qep,trivial⟩) fun v objs' hd=>?_
 unfold qS6 at hd;split at hd;(cases hd;exact h2);cases hd
theorem quP:OQ Tryz.prog qtc:=fun _ ho=>qO ho fun vs objs K r h=>by
 unfold qen at h
 split at h
 ·skip
  obtain⟨t,h1,h2⟩:=qE h
  refine qAR mixed qS5 (fn:=Tryz.f3) (b:=(Tryz.f3).body.getD .skip) (by kernel_rfl) (by kernel_rfl) (by kernel_rfl) ((qem _ _ _ _ _).trans h1) (m:=0) rfl (qQ.of (l':=[qG Tryz.f3 14]) (by kernel_rfl) ⟨qep,trivial⟩) fun v objs' hd=>?_
  unfold qS6 at hd;split at hd;(cases hd;exact h2);cases hd
 ·exact ho _ _ _ _ _ h
end
end Go.Kk.KkWP
