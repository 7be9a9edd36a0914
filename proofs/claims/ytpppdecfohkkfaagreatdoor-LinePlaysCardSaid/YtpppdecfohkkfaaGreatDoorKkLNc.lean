/- Printed by a tool of this project (KkGen): the program's functions come to the plain ones. -/
import Derived.Test.YtpppdecfohkkfaaGreatDoorKkLNb
namespace Go.Kk.KkLN
noncomputable section
open Go.Proofs Go.Kk.Pl
set_option maxRecDepth 100000
set_option maxHeartbeats 4000000
def qOt:Ex->List V->List Obj->Option (LI×LI×Int×LL×LL×Int×Int×Int×Int):=fun e vs objs=>match e,vs,objs with
 | .exit 0,[.s (.ptr 1 0 none 0),.s (.ptr 2 0 none 0)],[.rcells 72 [.arr .i8 81 y0,.arr .i8 16 y1,.one [.i .i8 y2],.rows [.i .u64,.i .u64] 32 y3,.rows [.i .u64,.i .u64] 2 y4],.cells 68 [.one [.i .u64 y5,.i .u64 y6]],.cells 68 [.one [.i .u64 y7,.i .u64 y8]]]=>some (y0,y1,y2,y3,y4,y5,y6,y7,y8)
 | _,_,_=>none
def qOv:HL:=fun vs objs K=>match vs,objs with
 | [.s (.ptr 0 0 none 0),.s (.i .i64 x0),.s (.i .i64 x1),.s (.ptr 1 0 none 0),.s (.i .i8 x2),.s (.ptr 2 0 none 0),.s (.sl 3 0 x3 true),.s (.i .i64 x4),.s (.i .i64 x5)],[.rcells 72 [.arr .i8 81 x6,.arr .i8 16 x7,.one [.i .i8 x8],.rows [.i .u64,.i .u64] 32 x9,.rows [.i .u64,.i .u64] 2 x10],.cells 68 [.one [.i .u64 x11,.i .u64 x12]],.cells 68 [.one [.i .u64 x13,.i .u64 x14]],.sli 3 false (.arr .i64 x15 x16)]=>ob (qDb qB x0 x1 x2 x3 x4 x5 x6 x7 x8 x9 x10 x11 x12 x13 x14 x15 x16) fun z=>K (.exit 0) ([.s (.ptr 1 0 none 0),.s (.ptr 2 0 none 0)]) ([.rcells 72 [.arr .i8 81 (z.1),.arr .i8 16 (z.2.1),.one [.i .i8 (z.2.2.1)],.rows [.i .u64,.i .u64] 32 (z.2.2.2.1),.rows [.i .u64,.i .u64] 2 (z.2.2.2.2.1)],.cells 68 [.one [.i .u64 (z.2.2.2.2.2.1),.i .u64 (z.2.2.2.2.2.2.1)]],.cells 68 [.one [.i .u64 (z.2.2.2.2.2.2.2.1),.i .u64 (z.2.2.2.2.2.2.2.2)]]])
 | _,_=>none
def qj4:{R:Type}->Nat->List V->List Obj->(Ex->List V->List Obj->Option R)->Option R:=fun q vs objs K=>bif Nat.beq q 6 then qOv vs objs K else none
def qKr:Ctx:=mkC 53 ((qEe (qIN (qFm (qSI (qMR (qF5 (qMi (qJm (qdb (qG3 (qDi qI)))))))))))) [(6,[0,1,2,6,7,8,24,25,26],[6,8])] qj4
theorem qWZ:CtxOK Tryz.prog qKr:=mkC_ok ((qFq _ (qJk _ (qGa _ (qdU _ (qSE _ (qG1 _ (qSe _ (qMa _ (qsB _ (qIo _ (qES _ qK))))))))))))
def qOu (f:Nat) (x0 x1 x2:Int) (x3:Nat) (x4 x5:Int) (x6 x7:LI) (x8:Int) (x9 x10:LL) (x11 x12:Int) (x13 x14:Int) (x15:Nat) (x16:LI):Option (LI×LI×Int×LL×LL×Int×Int×Int×Int):=qe qKr 1 [0,1,2,6,7,8,24,25,26] [6,8] (qE Tryz.f134 6) f ([.s (.ptr 0 0 none 0),.s (.i .i64 x0),.s (.i .i64 x1),.s (.ptr 1 0 none 0),.s (.i .i8 x2),.s (.ptr 2 0 none 0),.s (.sl 3 0 x3 true),.s (.i .i64 x4),.s (.i .i64 x5)]) ([.rcells 72 [.arr .i8 81 x6,.arr .i8 16 x7,.one [.i .i8 x8],.rows [.i .u64,.i .u64] 32 x9,.rows [.i .u64,.i .u64] 2 x10],.cells 68 [.one [.i .u64 x11,.i .u64 x12]],.cells 68 [.one [.i .u64 x13,.i .u64 x14]],.sli 3 false (.arr .i64 x15 x16)]) qOt
theorem qj3 (f:Nat) (x0 x1 x2:Int) (x3:Nat) (x4 x5:Int) (x6 x7:LI) (x8:Int) (x9 x10:LL) (x11 x12:Int) (x13 x14:Int) (x15:Nat) (x16:LI):qOu (f+1) x0 x1 x2 x3 x4 x5 x6 x7 x8 x9 x10 x11 x12 x13 x14 x15 x16=qHQ (qOu f) x0 x1 x2 x3 x4 x5 x6 x7 x8 x9 x10 x11 x12 x13 x14 x15 x16:=by kernel_rfl
theorem qWb:∀ f,qOu f=qDb f
 | 0=>rfl
 | f+1=>by funext x0 x1 x2 x3 x4 x5 x6 x7 x8 x9 x10 x11 x12 x13 x14 x15 x16; rw [qj3,qWb f]; rfl
theorem qj6:qa Tryz.prog qKr 1 (qE Tryz.f134 6):=
 qg mixed qWZ (qM.of (l':=[]) (by kernel_rfl) trivial) (q:=6) (kin:=[0,1,2,6,7,8,24,25,26]) (kout:=[6,8]) (by kernel_rfl) (by kernel_rfl) fun vs objs K r h=>by
  replace h:qOv vs objs K=some r:=h
  unfold qOv at h
  split at h
  ·skip
   obtain ⟨t,h1,h2⟩:=qD h
   rw [<- qWb] at h1
   refine ⟨_,qOt,t,qB,h1,fun e vs' objs' hd=>?_⟩
   unfold qOt at hd;split at hd;(cases hd;exact h2);cases hd
  ·cases h
def qWa:V->List Obj->Option (Int×Int):=fun v objs=>match v,objs with
 | .agg [.one [.i .u64 y0,.i .u64 y1]],[]=>some (y0,y1)
 | _,_=>none
theorem qj2 (x0 x1:Int) (x2 x3:LI) (x4:Int) (x5 x6:LL):fnE qKr Tryz.f134 ([.s (.ptr 0 0 none 0),.s (.i .i64 x0),.s (.i .i64 x1)]) ([.rcells 72 [.arr .i8 81 x2,.arr .i8 16 x3,.one [.i .i8 x4],.rows [.i .u64,.i .u64] 32 x5,.rows [.i .u64,.i .u64] 2 x6]]) (qAK 1 qWa)=qI7 x0 x1 x2 x3 x4 x5 x6:=by kernel_rfl
def qWY:HA:=fun o vs objs K=>match vs,List.map Obj.toRO objs with
 | [.s (.ptr 0 0 none 0),.s (.i .i64 x0),.s (.i .i64 x1)],[.rcells 72 [.arr .i8 81 x2,.arr .i8 16 x3,.one [.i .i8 x4],.rows [.i .u64,.i .u64] 32 x5,.rows [.i .u64,.i .u64] 2 x6]]=>ob (qI7 x0 x1 x2 x3 x4 x5 x6) fun z=>K true (.agg [.one [.i .u64 (z.1),.i .u64 (z.2)]]) ([])
 | _,_=>o 134 vs objs K
def qWc (o:Orc):Orc:=qJ 134 (qWY o) o
theorem qj5:OQ Tryz.prog qWc:=fun _ ho=>qL ho fun vs objs K r h=>by
 unfold qWY at h
 split at h
 ·skip
  have hq:List.map Obj.toRO objs=_:=(by rename_i hq; first | exact hq | assumption)
  obtain ⟨t,h1,h2⟩:=qD h
  refine qAc mixed qWZ (m:=1) (fn:=Tryz.f134) (b:=(Tryz.f134).body.getD .skip) (by kernel_rfl) (by kernel_rfl) (by kernel_rfl) hq (by kernel_rfl) (by kernel_rfl) (qM.of (l':=[qE Tryz.f134 6]) (by kernel_rfl) ⟨qj6,trivial⟩) ((qj2 _ _ _ _ _ _ _).trans h1) fun v objs' hd=>?_
  unfold qWa at hd;split at hd;(cases hd;exact h2);cases hd
 ·exact ho _ _ _ _ _ h
def qOp:Ex->List V->List Obj->Option (Nat×Int×Int×LI×LI×Int×LL×LL×Int×Int×Nat×LL):=fun e vs objs=>match e,vs,objs with
 | .exit 2,[.s (.ptr 0 0 none 0),.s (.ptr 1 0 none 0),.s (.sl 2 0 y0 true),.s (.i .i64 y1),.s (.i .i64 y2)],[.rcells 72 [.arr .i8 81 y3,.arr .i8 16 y4,.one [.i .i8 y5],.rows [.i .u64,.i .u64] 32 y6,.rows [.i .u64,.i .u64] 2 y7],.cells 68 [.one [.i .u64 y8,.i .u64 y9]],.sli 37 false (.rows [.i .i64,.i .i64,.i .i64,.b] y10 y11)]=>some (y0,y1,y2,y3,y4,y5,y6,y7,y8,y9,y10,y11)
 | _,_,_=>none
def qOn:Ex->List V->List Obj->Option (Nat×LI×LI×Int×LL×LL×Nat×LL):=fun e vs objs=>match e,vs,objs with
 | .exit 0,[.s (.sl 1 0 y0 true)],[.rcells 72 [.arr .i8 81 y1,.arr .i8 16 y2,.one [.i .i8 y3],.rows [.i .u64,.i .u64] 32 y4,.rows [.i .u64,.i .u64] 2 y5],.sli 37 false (.rows [.i .i64,.i .i64,.i .i64,.b] y6 y7)]=>some (y0,y1,y2,y3,y4,y5,y6,y7)
 | _,_,_=>none
def qOs:HL:=fun vs objs K=>match vs,objs with
 | [.s (.ptr 0 0 none 0),.s (.ptr 1 0 none 0),.s (.sl 2 0 x0 true),.s (.i .i64 x1),.s (.i .i64 x2),.s (.sl 3 0 x3 true),.s (.i .i64 x4),.s (.i .i64 x5)],[.rcells 72 [.arr .i8 81 x6,.arr .i8 16 x7,.one [.i .i8 x8],.rows [.i .u64,.i .u64] 32 x9,.rows [.i .u64,.i .u64] 2 x10],.cells 68 [.one [.i .u64 x11,.i .u64 x12]],.sli 37 false (.rows [.i .i64,.i .i64,.i .i64,.b] x13 x14),.sli 3 false (.arr .i64 x15 x16)]=>ob (qFB qB x0 x1 x2 x3 x4 x5 x6 x7 x8 x9 x10 x11 x12 x13 x14 x15 x16) fun z=>K (.exit 2) ([.s (.ptr 0 0 none 0),.s (.ptr 1 0 none 0),.s (.sl 2 0 (z.1) true),.s (.i .i64 (z.2.1)),.s (.i .i64 (z.2.2.1))]) ([.rcells 72 [.arr .i8 81 (z.2.2.2.1),.arr .i8 16 (z.2.2.2.2.1),.one [.i .i8 (z.2.2.2.2.2.1)],.rows [.i .u64,.i .u64] 32 (z.2.2.2.2.2.2.1),.rows [.i .u64,.i .u64] 2 (z.2.2.2.2.2.2.2.1)],.cells 68 [.one [.i .u64 (z.2.2.2.2.2.2.2.2.1),.i .u64 (z.2.2.2.2.2.2.2.2.2.1)]],.sli 37 false (.rows [.i .i64,.i .i64,.i .i64,.b] (z.2.2.2.2.2.2.2.2.2.2.1) (z.2.2.2.2.2.2.2.2.2.2.2))])
 | _,_=>none
def qOr:HL:=fun vs objs K=>match vs,objs with
 | [.s (.ptr 0 0 none 0),.s (.ptr 1 0 none 0),.s (.sl 2 0 x0 true),.s (.i .i64 x1),.s (.i .i64 x2)],[.rcells 72 [.arr .i8 81 x3,.arr .i8 16 x4,.one [.i .i8 x5],.rows [.i .u64,.i .u64] 32 x6,.rows [.i .u64,.i .u64] 2 x7],.cells 68 [.one [.i .u64 x8,.i .u64 x9]],.sli 37 false (.rows [.i .i64,.i .i64,.i .i64,.b] x10 x11)]=>ob (qFA qB x0 x1 x2 x3 x4 x5 x6 x7 x8 x9 x10 x11) fun z=>K (.exit 0) ([.s (.sl 1 0 (z.1) true)]) ([.rcells 72 [.arr .i8 81 (z.2.1),.arr .i8 16 (z.2.2.1),.one [.i .i8 (z.2.2.2.1)],.rows [.i .u64,.i .u64] 32 (z.2.2.2.2.1),.rows [.i .u64,.i .u64] 2 (z.2.2.2.2.2.1)],.sli 37 false (.rows [.i .i64,.i .i64,.i .i64,.b] (z.2.2.2.2.2.2.1) (z.2.2.2.2.2.2.2))])
 | _,_=>none
def qjy:{R:Type}->Nat->List V->List Obj->(Ex->List V->List Obj->Option R)->Option R:=fun q vs objs K=>bif Nat.beq q 8 then qOs vs objs K else bif Nat.beq q 4 then qOr vs objs K else none
def qHN:Ctx:=mkC 45 ((qJm (qFm (qWc (qKL qI))))) [(4,[0,3,5,6,7],[5]),(8,[0,3,5,6,7,31,32,33],[0,3,5,6,7])] qjy
theorem qOm:CtxOK Tryz.prog qHN:=mkC_ok ((qMa _ (qGa _ (qj5 _ (qNl _ qK)))))
def qOq (f:Nat) (x0:Nat) (x1 x2:Int) (x3:Nat) (x4 x5:Int) (x6 x7:LI) (x8:Int) (x9 x10:LL) (x11 x12:Int) (x13:Nat) (x14:LL) (x15:Nat) (x16:LI):Option (Nat×Int×Int×LI×LI×Int×LL×LL×Int×Int×Nat×LL):=qe qHN 1 [0,3,5,6,7,31,32,33] [0,3,5,6,7] (qE Tryz.f99 8) f ([.s (.ptr 0 0 none 0),.s (.ptr 1 0 none 0),.s (.sl 2 0 x0 true),.s (.i .i64 x1),.s (.i .i64 x2),.s (.sl 3 0 x3 true),.s (.i .i64 x4),.s (.i .i64 x5)]) ([.rcells 72 [.arr .i8 81 x6,.arr .i8 16 x7,.one [.i .i8 x8],.rows [.i .u64,.i .u64] 32 x9,.rows [.i .u64,.i .u64] 2 x10],.cells 68 [.one [.i .u64 x11,.i .u64 x12]],.sli 37 false (.rows [.i .i64,.i .i64,.i .i64,.b] x13 x14),.sli 3 false (.arr .i64 x15 x16)]) qOp
theorem qjx (f:Nat) (x0:Nat) (x1 x2:Int) (x3:Nat) (x4 x5:Int) (x6 x7:LI) (x8:Int) (x9 x10:LL) (x11 x12:Int) (x13:Nat) (x14:LL) (x15:Nat) (x16:LI):qOq (f+1) x0 x1 x2 x3 x4 x5 x6 x7 x8 x9 x10 x11 x12 x13 x14 x15 x16=qHP (qOq f) x0 x1 x2 x3 x4 x5 x6 x7 x8 x9 x10 x11 x12 x13 x14 x15 x16:=by kernel_rfl
theorem qWW:∀ f,qOq f=qFB f
 | 0=>rfl
 | f+1=>by funext x0 x1 x2 x3 x4 x5 x6 x7 x8 x9 x10 x11 x12 x13 x14 x15 x16; rw [qjx,qWW f]; rfl
def qOo (f:Nat) (x0:Nat) (x1 x2:Int) (x3 x4:LI) (x5:Int) (x6 x7:LL) (x8 x9:Int) (x10:Nat) (x11:LL):Option (Nat×LI×LI×Int×LL×LL×Nat×LL):=qe qHN 1 [0,3,5,6,7] [5] (qE Tryz.f99 4) f ([.s (.ptr 0 0 none 0),.s (.ptr 1 0 none 0),.s (.sl 2 0 x0 true),.s (.i .i64 x1),.s (.i .i64 x2)]) ([.rcells 72 [.arr .i8 81 x3,.arr .i8 16 x4,.one [.i .i8 x5],.rows [.i .u64,.i .u64] 32 x6,.rows [.i .u64,.i .u64] 2 x7],.cells 68 [.one [.i .u64 x8,.i .u64 x9]],.sli 37 false (.rows [.i .i64,.i .i64,.i .i64,.b] x10 x11)]) qOn
theorem qjw (f:Nat) (x0:Nat) (x1 x2:Int) (x3 x4:LI) (x5:Int) (x6 x7:LL) (x8 x9:Int) (x10:Nat) (x11:LL):qOo (f+1) x0 x1 x2 x3 x4 x5 x6 x7 x8 x9 x10 x11=qHO (qOo f) x0 x1 x2 x3 x4 x5 x6 x7 x8 x9 x10 x11:=by kernel_rfl
theorem qWV:∀ f,qOo f=qFA f
 | 0=>rfl
 | f+1=>by funext x0 x1 x2 x3 x4 x5 x6 x7 x8 x9 x10 x11; rw [qjw,qWV f]; rfl
theorem qj1:qa Tryz.prog qHN 1 (qE Tryz.f99 8):=
 qg mixed qOm (qM.of (l':=[]) (by kernel_rfl) trivial) (q:=8) (kin:=[0,3,5,6,7,31,32,33]) (kout:=[0,3,5,6,7]) (by kernel_rfl) (by kernel_rfl) fun vs objs K r h=>by
  replace h:qOs vs objs K=some r:=h
  unfold qOs at h
  split at h
  ·skip
   obtain ⟨t,h1,h2⟩:=qD h
   rw [<- qWW] at h1
   refine ⟨_,qOp,t,qB,h1,fun e vs' objs' hd=>?_⟩
   unfold qOp at hd;split at hd;(cases hd;exact h2);cases hd
  ·cases h
theorem qj0:qa Tryz.prog qHN 1 (qE Tryz.f99 4):=
 qg mixed qOm (qM.of (l':=[qE Tryz.f99 8]) (by kernel_rfl) ⟨qj1,trivial⟩) (q:=4) (kin:=[0,3,5,6,7]) (kout:=[5]) (by kernel_rfl) (by kernel_rfl) fun vs objs K r h=>by
  replace h:qOr vs objs K=some r:=h
  unfold qOr at h
  split at h
  ·skip
   obtain ⟨t,h1,h2⟩:=qD h
   rw [<- qWV] at h1
   refine ⟨_,qOn,t,qB,h1,fun e vs' objs' hd=>?_⟩
   unfold qOn at hd;split at hd;(cases hd;exact h2);cases hd
  ·cases h
def qWU:V->List Obj->Option (Nat×Nat×LL):=fun v objs=>match v,objs with
 | .s (.sl 1 0 y0 true),[.sli 37 false (.rows [.i .i64,.i .i64,.i .i64,.b] y1 y2)]=>some (y0,y1,y2)
 | _,_=>none
theorem qjv (x0 x1:Int) (x2 x3:LI) (x4:Int) (x5 x6:LL):fnE qHN Tryz.f99 ([.s (.ptr 0 0 none 0),.agg [.one [.i .u64 x0,.i .u64 x1]]]) ([.rcells 72 [.arr .i8 81 x2,.arr .i8 16 x3,.one [.i .i8 x4],.rows [.i .u64,.i .u64] 32 x5,.rows [.i .u64,.i .u64] 2 x6]]) (qAK 1 qWU)=qI6 x0 x1 x2 x3 x4 x5 x6:=by kernel_rfl
def qWT:HA:=fun o vs objs K=>match vs,List.map Obj.toRO objs with
 | [.s (.ptr 0 0 none 0),.agg [.one [.i .u64 x0,.i .u64 x1]]],[.rcells 72 [.arr .i8 81 x2,.arr .i8 16 x3,.one [.i .i8 x4],.rows [.i .u64,.i .u64] 32 x5,.rows [.i .u64,.i .u64] 2 x6]]=>ob (qI6 x0 x1 x2 x3 x4 x5 x6) fun z=>K true (.s (.sl 1 0 (z.1) true)) ([.sli 37 false (.rows [.i .i64,.i .i64,.i .i64,.b] (z.2.1) (z.2.2))])
 | _,_=>o 99 vs objs K
def qWX (o:Orc):Orc:=qJ 99 (qWT o) o
theorem qjz:OQ Tryz.prog qWX:=fun _ ho=>qL ho fun vs objs K r h=>by
 unfold qWT at h
 split at h
 ·skip
  have hq:List.map Obj.toRO objs=_:=(by rename_i hq; first | exact hq | assumption)
  obtain ⟨t,h1,h2⟩:=qD h
  refine qAc mixed qOm (m:=1) (fn:=Tryz.f99) (b:=(Tryz.f99).body.getD .skip) (by kernel_rfl) (by kernel_rfl) (by kernel_rfl) hq (by kernel_rfl) (by kernel_rfl) (qM.of (l':=[qE Tryz.f99 4]) (by kernel_rfl) ⟨qj0,trivial⟩) ((qjv _ _ _ _ _ _ _).trans h1) fun v objs' hd=>?_
  unfold qWU at hd;split at hd;(cases hd;exact h2);cases hd
 ·exact ho _ _ _ _ _ h
def qUL:Ctx:=mkC 7 (qI) [] qU
theorem qhL:CtxOK Tryz.prog qUL:=mkC_ok (qK)
def qUM:V->List Obj->Option (LI×LI×Int×LL×LL):=fun v objs=>match v,objs with
 | .s (.ptr 1 0 none 0),[.cells 72 [.arr .i8 81 y0,.arr .i8 16 y1,.one [.i .i8 y2],.rows [.i .u64,.i .u64] 32 y3,.rows [.i .u64,.i .u64] 2 y4]]=>some (y0,y1,y2,y3,y4)
 | _,_=>none
theorem qhK (x0 x1:LI) (x2:Int) (x3 x4:LL):fnE qUL Tryz.f135 ([.s (.ptr 0 0 none 0)]) ([.rcells 72 [.arr .i8 81 x0,.arr .i8 16 x1,.one [.i .i8 x2],.rows [.i .u64,.i .u64] 32 x3,.rows [.i .u64,.i .u64] 2 x4]]) (qAK 1 qUM)=qKK x0 x1 x2 x3 x4:=by kernel_rfl
def qUK:HA:=fun o vs objs K=>match vs,List.map Obj.toRO objs with
 | [.s (.ptr 0 0 none 0)],[.rcells 72 [.arr .i8 81 x0,.arr .i8 16 x1,.one [.i .i8 x2],.rows [.i .u64,.i .u64] 32 x3,.rows [.i .u64,.i .u64] 2 x4]]=>ob (qKK x0 x1 x2 x3 x4) fun z=>K true (.s (.ptr 1 0 none 0)) ([.cells 72 [.arr .i8 81 (z.1),.arr .i8 16 (z.2.1),.one [.i .i8 (z.2.2.1)],.rows [.i .u64,.i .u64] 32 (z.2.2.2.1),.rows [.i .u64,.i .u64] 2 (z.2.2.2.2)]])
 | _,_=>o 135 vs objs K
def qUN (o:Orc):Orc:=qJ 135 (qUK o) o
theorem qhM:OQ Tryz.prog qUN:=fun _ ho=>qL ho fun vs objs K r h=>by
 unfold qUK at h
 split at h
 ·skip
  have hq:List.map Obj.toRO objs=_:=(by rename_i hq; first | exact hq | assumption)
  obtain ⟨t,h1,h2⟩:=qD h
  refine qAc mixed qhL (m:=1) (fn:=Tryz.f135) (b:=(Tryz.f135).body.getD .skip) (by kernel_rfl) (by kernel_rfl) (by kernel_rfl) hq (by kernel_rfl) (by kernel_rfl) (qM.of (l':=[]) (by kernel_rfl) trivial) ((qhK _ _ _ _ _).trans h1) fun v objs' hd=>?_
  unfold qUM at hd;split at hd;(cases hd;exact h2);cases hd
 ·exact ho _ _ _ _ _ h
def qPc:Ex->List V->List Obj->Option ((Bool×LI×LI×Int×LL×LL) ⊕ (LI×LI×Int×LL×LL)):=fun e vs objs=>match e,vs,objs with
 | .ret,[.s (.b y0)],[.rcells 72 [.arr .i8 81 y1,.arr .i8 16 y2,.one [.i .i8 y3],.rows [.i .u64,.i .u64] 32 y4,.rows [.i .u64,.i .u64] 2 y5]]=>some (.inl (y0,y1,y2,y3,y4,y5))
 | .exit 0,[.s .bad],[.rcells 72 [.arr .i8 81 y0,.arr .i8 16 y1,.one [.i .i8 y2],.rows [.i .u64,.i .u64] 32 y3,.rows [.i .u64,.i .u64] 2 y4]]=>some (.inr (y0,y1,y2,y3,y4))
 | _,_,_=>none
def qPe:HL:=fun vs objs K=>match vs,objs with
 | [.s (.ptr 1 0 none 0),.s (.sl 2 0 x0 true),.s (.i .i64 x1),.s (.i .i64 x2)],[.rcells 72 [.arr .i8 81 x3,.arr .i8 16 x4,.one [.i .i8 x5],.rows [.i .u64,.i .u64] 32 x6,.rows [.i .u64,.i .u64] 2 x7],.cells 130 [.one [.ptr 3 0 none 0,.i .i64 x8,.i .i64 x9,.i .u64 x10,.i .u64 x11,.mp 4,.b x12]],.sli 37 false (.rows [.i .i64,.i .i64,.i .i64,.b] x13 x14),.cells 72 [.arr .i8 81 x15,.arr .i8 16 x16,.one [.i .i8 x17],.rows [.i .u64,.i .u64] 32 x18,.rows [.i .u64,.i .u64] 2 x19],.map false true [.i .i64] [.i .u64,.i .u64] x20]=>ob (qFM qB x0 x1 x2 x3 x4 x5 x6 x7 x8 x9 x10 x11 x12 x13 x14 x15 x16 x17 x18 x19 x20) fun t0=>sw t0 (fun z=>K (.ret) ([.s (.b (z.1))]) ([.rcells 72 [.arr .i8 81 (z.2.1),.arr .i8 16 (z.2.2.1),.one [.i .i8 (z.2.2.2.1)],.rows [.i .u64,.i .u64] 32 (z.2.2.2.2.1),.rows [.i .u64,.i .u64] 2 (z.2.2.2.2.2)]])) (fun z=>K (.exit 0) ([.s .bad]) ([.rcells 72 [.arr .i8 81 (z.1),.arr .i8 16 (z.2.1),.one [.i .i8 (z.2.2.1)],.rows [.i .u64,.i .u64] 32 (z.2.2.2.1),.rows [.i .u64,.i .u64] 2 (z.2.2.2.2)]]))
 | _,_=>none
def qlR:{R:Type}->Nat->List V->List Obj->(Ex->List V->List Obj->Option R)->Option R:=fun q vs objs K=>bif Nat.beq q 11 then qPe vs objs K else none
def qLA:Ctx:=mkC 74 ((qPg (qOj (qJj (qPf (qGe (qKD (qKP (qUN (qF2 (qDi qI))))))))))) [(11,[7,64,65,66],[4])] qlR
theorem qXn:CtxOK Tryz.prog qLA:=mkC_ok ((qXy _ (qWS _ (qMP _ (qXu _ (qIO _ (qND _ (qNs _ (qhM _ (qGy _ (qES _ qK)))))))))))
def qPd (f:Nat) (x0:Nat) (x1 x2:Int) (x3 x4:LI) (x5:Int) (x6 x7:LL) (x8 x9:Int) (x10 x11:Int) (x12:Bool) (x13:Nat) (x14:LL) (x15 x16:LI) (x17:Int) (x18 x19:LL) (x20:List (LI×LI)):Option ((Bool×LI×LI×Int×LL×LL) ⊕ (LI×LI×Int×LL×LL)):=qe qLA 1 [7,64,65,66] [4] (qE Tryz.f100 11) f ([.s (.ptr 1 0 none 0),.s (.sl 2 0 x0 true),.s (.i .i64 x1),.s (.i .i64 x2)]) ([.rcells 72 [.arr .i8 81 x3,.arr .i8 16 x4,.one [.i .i8 x5],.rows [.i .u64,.i .u64] 32 x6,.rows [.i .u64,.i .u64] 2 x7],.cells 130 [.one [.ptr 3 0 none 0,.i .i64 x8,.i .i64 x9,.i .u64 x10,.i .u64 x11,.mp 4,.b x12]],.sli 37 false (.rows [.i .i64,.i .i64,.i .i64,.b] x13 x14),.cells 72 [.arr .i8 81 x15,.arr .i8 16 x16,.one [.i .i8 x17],.rows [.i .u64,.i .u64] 32 x18,.rows [.i .u64,.i .u64] 2 x19],.map false true [.i .i64] [.i .u64,.i .u64] x20]) qPc
theorem qlQ (f:Nat) (x0:Nat) (x1 x2:Int) (x3 x4:LI) (x5:Int) (x6 x7:LL) (x8 x9:Int) (x10 x11:Int) (x12:Bool) (x13:Nat) (x14:LL) (x15 x16:LI) (x17:Int) (x18 x19:LL) (x20:List (LI×LI)):qPd (f+1) x0 x1 x2 x3 x4 x5 x6 x7 x8 x9 x10 x11 x12 x13 x14 x15 x16 x17 x18 x19 x20=qHc (qPd f) x0 x1 x2 x3 x4 x5 x6 x7 x8 x9 x10 x11 x12 x13 x14 x15 x16 x17 x18 x19 x20:=by kernel_rfl
theorem qXp:∀ f,qPd f=qFM f
 | 0=>rfl
 | f+1=>by funext x0 x1 x2 x3 x4 x5 x6 x7 x8 x9 x10 x11 x12 x13 x14 x15 x16 x17 x18 x19 x20; rw [qlQ,qXp f]; rfl
theorem qlT:qa Tryz.prog qLA 1 (qE Tryz.f100 11):=
 qg mixed qXn (qM.of (l':=[]) (by kernel_rfl) trivial) (q:=11) (kin:=[7,64,65,66]) (kout:=[4]) (by kernel_rfl) (by kernel_rfl) fun vs objs K r h=>by
  replace h:qPe vs objs K=some r:=h
  unfold qPe at h
  split at h
  ·skip
   obtain ⟨t,h1,h2⟩:=qD h
   rw [<- qXp] at h1
   refine ⟨_,qPc,t,qB,h1,fun e vs' objs' hd=>?_⟩
   unfold qPc at hd
   split at hd
   ·skip
    cases hd
    exact h2
   ·skip
    cases hd
    exact h2
   ·cases hd
  ·cases h
def qXo:V->List Obj->Option (Bool):=fun v objs=>match v,objs with
 | .s (.b y0),[]=>some (y0)
 | _,_=>none
theorem qlP (x0:Int) (x1 x2:LI) (x3:Int) (x4 x5:LL):fnE qLA Tryz.f100 ([.s (.ptr 0 0 none 0),.s (.i .i64 x0)]) ([.rcells 72 [.arr .i8 81 x1,.arr .i8 16 x2,.one [.i .i8 x3],.rows [.i .u64,.i .u64] 32 x4,.rows [.i .u64,.i .u64] 2 x5]]) (qAK 1 qXo)=qJE x0 x1 x2 x3 x4 x5:=by kernel_rfl
def qXm:HA:=fun o vs objs K=>match vs,List.map Obj.toRO objs with
 | [.s (.ptr 0 0 none 0),.s (.i .i64 x0)],[.rcells 72 [.arr .i8 81 x1,.arr .i8 16 x2,.one [.i .i8 x3],.rows [.i .u64,.i .u64] 32 x4,.rows [.i .u64,.i .u64] 2 x5]]=>ob (qJE x0 x1 x2 x3 x4 x5) fun y0=>K true (.s (.b y0)) ([])
 | _,_=>o 100 vs objs K
def qXq (o:Orc):Orc:=qJ 100 (qXm o) o
theorem qlS:OQ Tryz.prog qXq:=fun _ ho=>qL ho fun vs objs K r h=>by
 unfold qXm at h
 split at h
 ·skip
  have hq:List.map Obj.toRO objs=_:=(by rename_i hq; first | exact hq | assumption)
  obtain ⟨t,h1,h2⟩:=qD h
  refine qAc mixed qXn (m:=1) (fn:=Tryz.f100) (b:=(Tryz.f100).body.getD .skip) (by kernel_rfl) (by kernel_rfl) (by kernel_rfl) hq (by kernel_rfl) (by kernel_rfl) (qM.of (l':=[qE Tryz.f100 11]) (by kernel_rfl) ⟨qlT,trivial⟩) ((qlP _ _ _ _ _ _).trans h1) fun v objs' hd=>?_
  unfold qXo at hd;split at hd;(cases hd;exact h2);cases hd
 ·exact ho _ _ _ _ _ h
def qPU:Ex->List V->List Obj->Option (Nat×LI×LI×Int×LL×LL×Int×Int×Int×Int×Bool×Nat×LL×List (LI×LI)):=fun e vs objs=>match e,vs,objs with
 | .exit 0,[.s (.ptr 0 0 none 0),.s (.ptr 1 0 none 0),.s (.sl 2 0 y0 true)],[.cells 72 [.arr .i8 81 y1,.arr .i8 16 y2,.one [.i .i8 y3],.rows [.i .u64,.i .u64] 32 y4,.rows [.i .u64,.i .u64] 2 y5],.cells 130 [.one [.ptr 0 0 none 0,.i .i64 y6,.i .i64 y7,.i .u64 y8,.i .u64 y9,.mp 3,.b y10]],.sli 37 false (.rows [.i .i64,.i .i64,.i .i64,.b] y11 y12),.map false true [.i .i64] [.i .u64,.i .u64] y13]=>some (y0,y1,y2,y3,y4,y5,y6,y7,y8,y9,y10,y11,y12,y13)
 | _,_,_=>none
def qPS:Ex->List V->List Obj->Option (Nat×LI×LI×Int×LL×LL×Nat×LL):=fun e vs objs=>match e,vs,objs with
 | .exit 2,[.s (.sl 1 0 y0 true)],[.cells 72 [.arr .i8 81 y1,.arr .i8 16 y2,.one [.i .i8 y3],.rows [.i .u64,.i .u64] 32 y4,.rows [.i .u64,.i .u64] 2 y5],.sli 37 false (.rows [.i .i64,.i .i64,.i .i64,.b] y6 y7)]=>some (y0,y1,y2,y3,y4,y5,y6,y7)
 | _,_,_=>none
def qPX:HL:=fun vs objs K=>match vs,objs with
 | [.s (.ptr 0 0 none 0),.s (.ptr 1 0 none 0),.s (.sl 2 0 x0 true),.s (.sl 3 0 x1 true),.s (.i .i64 x2),.s (.i .i64 x3)],[.cells 72 [.arr .i8 81 x4,.arr .i8 16 x5,.one [.i .i8 x6],.rows [.i .u64,.i .u64] 32 x7,.rows [.i .u64,.i .u64] 2 x8],.cells 130 [.one [.ptr 0 0 none 0,.i .i64 x9,.i .i64 x10,.i .u64 x11,.i .u64 x12,.mp 4,.b x13]],.sli 37 false (.rows [.i .i64,.i .i64,.i .i64,.b] x14 x15),.sli 37 false (.rows [.i .i64,.i .i64,.i .i64,.b] x16 x17),.map false true [.i .i64] [.i .u64,.i .u64] x18]=>ob (qFK qB x0 x1 x2 x3 x4 x5 x6 x7 x8 x9 x10 x11 x12 x13 x14 x15 x16 x17 x18) fun z=>K (.exit 0) ([.s (.ptr 0 0 none 0),.s (.ptr 1 0 none 0),.s (.sl 2 0 (z.1) true)]) ([.cells 72 [.arr .i8 81 (z.2.1),.arr .i8 16 (z.2.2.1),.one [.i .i8 (z.2.2.2.1)],.rows [.i .u64,.i .u64] 32 (z.2.2.2.2.1),.rows [.i .u64,.i .u64] 2 (z.2.2.2.2.2.1)],.cells 130 [.one [.ptr 0 0 none 0,.i .i64 (z.2.2.2.2.2.2.1),.i .i64 (z.2.2.2.2.2.2.2.1),.i .u64 (z.2.2.2.2.2.2.2.2.1),.i .u64 (z.2.2.2.2.2.2.2.2.2.1),.mp 3,.b (z.2.2.2.2.2.2.2.2.2.2.1)]],.sli 37 false (.rows [.i .i64,.i .i64,.i .i64,.b] (z.2.2.2.2.2.2.2.2.2.2.2.1) (z.2.2.2.2.2.2.2.2.2.2.2.2.1)),.map false true [.i .i64] [.i .u64,.i .u64] (z.2.2.2.2.2.2.2.2.2.2.2.2.2)])
 | _,_=>none
def qPW:HL:=fun vs objs K=>match vs,objs with
 | [.s (.ptr 0 0 none 0),.s (.sl 1 0 x0 true),.s (.sl 2 0 x1 true),.s (.i .i64 x2),.s (.i .i64 x3)],[.cells 72 [.arr .i8 81 x4,.arr .i8 16 x5,.one [.i .i8 x6],.rows [.i .u64,.i .u64] 32 x7,.rows [.i .u64,.i .u64] 2 x8],.sli 37 false (.rows [.i .i64,.i .i64,.i .i64,.b] x9 x10),.sli 37 false (.rows [.i .i64,.i .i64,.i .i64,.b] x11 x12)]=>ob (qEM qB x0 x1 x2 x3 x4 x5 x6 x7 x8 x9 x10 x11 x12) fun z=>K (.exit 2) ([.s (.sl 1 0 (z.1) true)]) ([.cells 72 [.arr .i8 81 (z.2.1),.arr .i8 16 (z.2.2.1),.one [.i .i8 (z.2.2.2.1)],.rows [.i .u64,.i .u64] 32 (z.2.2.2.2.1),.rows [.i .u64,.i .u64] 2 (z.2.2.2.2.2.1)],.sli 37 false (.rows [.i .i64,.i .i64,.i .i64,.b] (z.2.2.2.2.2.2.1) (z.2.2.2.2.2.2.2))])
 | _,_=>none
def qlH:{R:Type}->Nat->List V->List Obj->(Ex->List V->List Obj->Option R)->Option R:=fun q vs objs K=>bif Nat.beq q 4 then qPX vs objs K else bif Nat.beq q 10 then qPW vs objs K else none
def qHY:Ctx:=mkC 51 ((qXq (qWX (qPg (qOj (qJj (qPf qI))))))) [(4,[0,3,4,13,14,15],[0,3,4]),(10,[0,4,30,31,32],[4])] qlH
theorem qPR:CtxOK Tryz.prog qHY:=mkC_ok ((qlS _ (qjz _ (qXy _ (qWS _ (qMP _ (qXu _ qK)))))))
def qPV (f:Nat) (x0 x1:Nat) (x2 x3:Int) (x4 x5:LI) (x6:Int) (x7 x8:LL) (x9 x10:Int) (x11 x12:Int) (x13:Bool) (x14:Nat) (x15:LL) (x16:Nat) (x17:LL) (x18:List (LI×LI)):Option (Nat×LI×LI×Int×LL×LL×Int×Int×Int×Int×Bool×Nat×LL×List (LI×LI)):=qe qHY 1 [0,3,4,13,14,15] [0,3,4] (qE Tryz.f54 4) f ([.s (.ptr 0 0 none 0),.s (.ptr 1 0 none 0),.s (.sl 2 0 x0 true),.s (.sl 3 0 x1 true),.s (.i .i64 x2),.s (.i .i64 x3)]) ([.cells 72 [.arr .i8 81 x4,.arr .i8 16 x5,.one [.i .i8 x6],.rows [.i .u64,.i .u64] 32 x7,.rows [.i .u64,.i .u64] 2 x8],.cells 130 [.one [.ptr 0 0 none 0,.i .i64 x9,.i .i64 x10,.i .u64 x11,.i .u64 x12,.mp 4,.b x13]],.sli 37 false (.rows [.i .i64,.i .i64,.i .i64,.b] x14 x15),.sli 37 false (.rows [.i .i64,.i .i64,.i .i64,.b] x16 x17),.map false true [.i .i64] [.i .u64,.i .u64] x18]) qPU
theorem qlG (f:Nat) (x0 x1:Nat) (x2 x3:Int) (x4 x5:LI) (x6:Int) (x7 x8:LL) (x9 x10:Int) (x11 x12:Int) (x13:Bool) (x14:Nat) (x15:LL) (x16:Nat) (x17:LL) (x18:List (LI×LI)):qPV (f+1) x0 x1 x2 x3 x4 x5 x6 x7 x8 x9 x10 x11 x12 x13 x14 x15 x16 x17 x18=qHa (qPV f) x0 x1 x2 x3 x4 x5 x6 x7 x8 x9 x10 x11 x12 x13 x14 x15 x16 x17 x18:=by kernel_rfl
theorem qXf:∀ f,qPV f=qFK f
 | 0=>rfl
 | f+1=>by funext x0 x1 x2 x3 x4 x5 x6 x7 x8 x9 x10 x11 x12 x13 x14 x15 x16 x17 x18; rw [qlG,qXf f]; rfl
def qPT (f:Nat) (x0 x1:Nat) (x2 x3:Int) (x4 x5:LI) (x6:Int) (x7 x8:LL) (x9:Nat) (x10:LL) (x11:Nat) (x12:LL):Option (Nat×LI×LI×Int×LL×LL×Nat×LL):=qe qHY 1 [0,4,30,31,32] [4] (qE Tryz.f54 10) f ([.s (.ptr 0 0 none 0),.s (.sl 1 0 x0 true),.s (.sl 2 0 x1 true),.s (.i .i64 x2),.s (.i .i64 x3)]) ([.cells 72 [.arr .i8 81 x4,.arr .i8 16 x5,.one [.i .i8 x6],.rows [.i .u64,.i .u64] 32 x7,.rows [.i .u64,.i .u64] 2 x8],.sli 37 false (.rows [.i .i64,.i .i64,.i .i64,.b] x9 x10),.sli 37 false (.rows [.i .i64,.i .i64,.i .i64,.b] x11 x12)]) qPS
theorem qlF (f:Nat) (x0 x1:Nat) (x2 x3:Int) (x4 x5:LI) (x6:Int) (x7 x8:LL) (x9:Nat) (x10:LL) (x11:Nat) (x12:LL):qPT (f+1) x0 x1 x2 x3 x4 x5 x6 x7 x8 x9 x10 x11 x12=qHZ (qPT f) x0 x1 x2 x3 x4 x5 x6 x7 x8 x9 x10 x11 x12:=by kernel_rfl
theorem qXe:∀ f,qPT f=qEM f
 | 0=>rfl
 | f+1=>by funext x0 x1 x2 x3 x4 x5 x6 x7 x8 x9 x10 x11 x12; rw [qlF,qXe f]; rfl
theorem qlK:qa Tryz.prog qHY 1 (qE Tryz.f54 4):=
 qg mixed qPR (qM.of (l':=[]) (by kernel_rfl) trivial) (q:=4) (kin:=[0,3,4,13,14,15]) (kout:=[0,3,4]) (by kernel_rfl) (by kernel_rfl) fun vs objs K r h=>by
  replace h:qPX vs objs K=some r:=h
  unfold qPX at h
  split at h
  ·skip
   obtain ⟨t,h1,h2⟩:=qD h
   rw [<- qXf] at h1
   refine ⟨_,qPU,t,qB,h1,fun e vs' objs' hd=>?_⟩
   unfold qPU at hd;split at hd;(cases hd;exact h2);cases hd
  ·cases h
theorem qlJ:qa Tryz.prog qHY 1 (qE Tryz.f54 10):=
 qg mixed qPR (qM.of (l':=[]) (by kernel_rfl) trivial) (q:=10) (kin:=[0,4,30,31,32]) (kout:=[4]) (by kernel_rfl) (by kernel_rfl) fun vs objs K r h=>by
  replace h:qPW vs objs K=some r:=h
  unfold qPW at h
  split at h
  ·skip
   obtain ⟨t,h1,h2⟩:=qD h
   rw [<- qXe] at h1
   refine ⟨_,qPS,t,qB,h1,fun e vs' objs' hd=>?_⟩
   unfold qPS at hd;split at hd;(cases hd;exact h2);cases hd
  ·cases h
def qXd:V->List Obj->Option (Nat×LI×LI×Int×LL×LL×Nat×LL):=fun v objs=>match v,objs with
 | .s (.sl 1 0 y0 true),[.cells 72 [.arr .i8 81 y1,.arr .i8 16 y2,.one [.i .i8 y3],.rows [.i .u64,.i .u64] 32 y4,.rows [.i .u64,.i .u64] 2 y5],.sli 37 false (.rows [.i .i64,.i .i64,.i .i64,.b] y6 y7)]=>some (y0,y1,y2,y3,y4,y5,y6,y7)
 | _,_=>none
theorem qlE (x0 x1:LI) (x2:Int) (x3 x4:LL):fnE qHY Tryz.f54 ([.s (.ptr 0 0 none 0)]) ([.cells 72 [.arr .i8 81 x0,.arr .i8 16 x1,.one [.i .i8 x2],.rows [.i .u64,.i .u64] 32 x3,.rows [.i .u64,.i .u64] 2 x4]]) qXd=qHX x0 x1 x2 x3 x4:=by kernel_rfl
def qXc:HA:=fun o vs objs K=>match vs,objs with
 | [.s (.ptr 0 0 none 0)],[.cells 72 [.arr .i8 81 x0,.arr .i8 16 x1,.one [.i .i8 x2],.rows [.i .u64,.i .u64] 32 x3,.rows [.i .u64,.i .u64] 2 x4]]=>ob (qHX x0 x1 x2 x3 x4) fun z=>K false (.s (.sl 1 0 (z.1) true)) ([.cells 72 [.arr .i8 81 (z.2.1),.arr .i8 16 (z.2.2.1),.one [.i .i8 (z.2.2.2.1)],.rows [.i .u64,.i .u64] 32 (z.2.2.2.2.1),.rows [.i .u64,.i .u64] 2 (z.2.2.2.2.2.1)],.sli 37 false (.rows [.i .i64,.i .i64,.i .i64,.b] (z.2.2.2.2.2.2.1) (z.2.2.2.2.2.2.2))])
 | _,_=>o 54 vs objs K
def qXg (o:Orc):Orc:=qJ 54 (qXc o) o
theorem qlI:OQ Tryz.prog qXg:=fun _ ho=>qL ho fun vs objs K r h=>by
 unfold qXc at h
 split at h
 ·skip
  obtain ⟨t,h1,h2⟩:=qD h
  refine q7 mixed qPR (fn:=Tryz.f54) (b:=(Tryz.f54).body.getD .skip) (by kernel_rfl) (by kernel_rfl) (by kernel_rfl) ((qlE _ _ _ _ _).trans h1) (m:=1) rfl (qM.of (l':=[qE Tryz.f54 4,qE Tryz.f54 10]) (by kernel_rfl) ⟨qlK,qlJ,trivial⟩) fun v objs' hd=>?_
  unfold qXd at hd;split at hd;(cases hd;exact h2);cases hd
 ·exact ho _ _ _ _ _ h
def qPY:Ex->List V->List Obj->Option ((Bool×LI×LI×Int×LL×LL) ⊕ (LI×LI×Int×LL×LL)):=fun e vs objs=>match e,vs,objs with
 | .ret,[.s (.b y0)],[.cells 72 [.arr .i8 81 y1,.arr .i8 16 y2,.one [.i .i8 y3],.rows [.i .u64,.i .u64] 32 y4,.rows [.i .u64,.i .u64] 2 y5]]=>some (.inl (y0,y1,y2,y3,y4,y5))
 | .exit 0,[.s .bad],[.cells 72 [.arr .i8 81 y0,.arr .i8 16 y1,.one [.i .i8 y2],.rows [.i .u64,.i .u64] 32 y3,.rows [.i .u64,.i .u64] 2 y4]]=>some (.inr (y0,y1,y2,y3,y4))
 | _,_,_=>none
def qPb:HL:=fun vs objs K=>match vs,objs with
 | [.s (.ptr 1 0 none 0),.s (.sl 2 0 x0 true),.s (.i .i64 x1),.s (.i .i64 x2)],[.cells 72 [.arr .i8 81 x3,.arr .i8 16 x4,.one [.i .i8 x5],.rows [.i .u64,.i .u64] 32 x6,.rows [.i .u64,.i .u64] 2 x7],.cells 37 [.one [.i .i64 x8,.i .i64 x9,.i .i64 x10,.b x11]],.sli 37 false (.rows [.i .i64,.i .i64,.i .i64,.b] x12 x13)]=>ob (qFL qB x0 x1 x2 x3 x4 x5 x6 x7 x8 x9 x10 x11 x12 x13) fun t0=>sw t0 (fun z=>K (.ret) ([.s (.b (z.1))]) ([.cells 72 [.arr .i8 81 (z.2.1),.arr .i8 16 (z.2.2.1),.one [.i .i8 (z.2.2.2.1)],.rows [.i .u64,.i .u64] 32 (z.2.2.2.2.1),.rows [.i .u64,.i .u64] 2 (z.2.2.2.2.2)]])) (fun z=>K (.exit 0) ([.s .bad]) ([.cells 72 [.arr .i8 81 (z.1),.arr .i8 16 (z.2.1),.one [.i .i8 (z.2.2.1)],.rows [.i .u64,.i .u64] 32 (z.2.2.2.1),.rows [.i .u64,.i .u64] 2 (z.2.2.2.2)]]))
 | _,_=>none
def qlN:{R:Type}->Nat->List V->List Obj->(Ex->List V->List Obj->Option R)->Option R:=fun q vs objs K=>bif Nat.beq q 2 then qPb vs objs K else none
def qK9:Ctx:=mkC 18 ((qXg qI)) [(2,[3,8,9,10],[4])] qlN
theorem qXi:CtxOK Tryz.prog qK9:=mkC_ok ((qlI _ qK))
def qPZ (f:Nat) (x0:Nat) (x1 x2:Int) (x3 x4:LI) (x5:Int) (x6 x7:LL) (x8 x9 x10:Int) (x11:Bool) (x12:Nat) (x13:LL):Option ((Bool×LI×LI×Int×LL×LL) ⊕ (LI×LI×Int×LL×LL)):=qe qK9 1 [3,8,9,10] [4] (qE Tryz.f25 2) f ([.s (.ptr 1 0 none 0),.s (.sl 2 0 x0 true),.s (.i .i64 x1),.s (.i .i64 x2)]) ([.cells 72 [.arr .i8 81 x3,.arr .i8 16 x4,.one [.i .i8 x5],.rows [.i .u64,.i .u64] 32 x6,.rows [.i .u64,.i .u64] 2 x7],.cells 37 [.one [.i .i64 x8,.i .i64 x9,.i .i64 x10,.b x11]],.sli 37 false (.rows [.i .i64,.i .i64,.i .i64,.b] x12 x13)]) qPY
theorem qlM (f:Nat) (x0:Nat) (x1 x2:Int) (x3 x4:LI) (x5:Int) (x6 x7:LL) (x8 x9 x10:Int) (x11:Bool) (x12:Nat) (x13:LL):qPZ (f+1) x0 x1 x2 x3 x4 x5 x6 x7 x8 x9 x10 x11 x12 x13=qHb (qPZ f) x0 x1 x2 x3 x4 x5 x6 x7 x8 x9 x10 x11 x12 x13:=by kernel_rfl
theorem qXk:∀ f,qPZ f=qFL f
 | 0=>rfl
 | f+1=>by funext x0 x1 x2 x3 x4 x5 x6 x7 x8 x9 x10 x11 x12 x13; rw [qlM,qXk f]; rfl
theorem qlO:qa Tryz.prog qK9 1 (qE Tryz.f25 2):=
 qg mixed qXi (qM.of (l':=[]) (by kernel_rfl) trivial) (q:=2) (kin:=[3,8,9,10]) (kout:=[4]) (by kernel_rfl) (by kernel_rfl) fun vs objs K r h=>by
  replace h:qPb vs objs K=some r:=h
  unfold qPb at h
  split at h
  ·skip
   obtain ⟨t,h1,h2⟩:=qD h
   rw [<- qXk] at h1
   refine ⟨_,qPY,t,qB,h1,fun e vs' objs' hd=>?_⟩
   unfold qPY at hd
   split at hd
   ·skip
    cases hd
    exact h2
   ·skip
    cases hd
    exact h2
   ·cases hd
  ·cases h
def qXj:V->List Obj->Option (Bool×LI×LI×Int×LL×LL):=fun v objs=>match v,objs with
 | .s (.b y0),[.cells 72 [.arr .i8 81 y1,.arr .i8 16 y2,.one [.i .i8 y3],.rows [.i .u64,.i .u64] 32 y4,.rows [.i .u64,.i .u64] 2 y5]]=>some (y0,y1,y2,y3,y4,y5)
 | _,_=>none
theorem qlL (x0 x1 x2:Int) (x3:Bool) (x4 x5:LI) (x6:Int) (x7 x8:LL):fnE qK9 Tryz.f25 ([.s (.ptr 0 0 none 0),.agg [.one [.i .i64 x0,.i .i64 x1,.i .i64 x2,.b x3]]]) ([.cells 72 [.arr .i8 81 x4,.arr .i8 16 x5,.one [.i .i8 x6],.rows [.i .u64,.i .u64] 32 x7,.rows [.i .u64,.i .u64] 2 x8]]) qXj=qGH x0 x1 x2 x3 x4 x5 x6 x7 x8:=by kernel_rfl
def qXh:HA:=fun o vs objs K=>match vs,objs with
 | [.s (.ptr 0 0 none 0),.agg [.one [.i .i64 x0,.i .i64 x1,.i .i64 x2,.b x3]]],[.cells 72 [.arr .i8 81 x4,.arr .i8 16 x5,.one [.i .i8 x6],.rows [.i .u64,.i .u64] 32 x7,.rows [.i .u64,.i .u64] 2 x8]]=>ob (qGH x0 x1 x2 x3 x4 x5 x6 x7 x8) fun z=>K false (.s (.b (z.1))) ([.cells 72 [.arr .i8 81 (z.2.1),.arr .i8 16 (z.2.2.1),.one [.i .i8 (z.2.2.2.1)],.rows [.i .u64,.i .u64] 32 (z.2.2.2.2.1),.rows [.i .u64,.i .u64] 2 (z.2.2.2.2.2)]])
 | _,_=>o 25 vs objs K
def qPa (o:Orc):Orc:=qJ 25 (qXh o) o
theorem qXl:OQ Tryz.prog qPa:=fun _ ho=>qL ho fun vs objs K r h=>by
 unfold qXh at h
 split at h
 ·skip
  obtain ⟨t,h1,h2⟩:=qD h
  refine q7 mixed qXi (fn:=Tryz.f25) (b:=(Tryz.f25).body.getD .skip) (by kernel_rfl) (by kernel_rfl) (by kernel_rfl) ((qlL _ _ _ _ _ _ _ _ _).trans h1) (m:=1) rfl (qM.of (l':=[qE Tryz.f25 2]) (by kernel_rfl) ⟨qlO,trivial⟩) fun v objs' hd=>?_
  unfold qXj at hd;split at hd;(cases hd;exact h2);cases hd
 ·exact ho _ _ _ _ _ h
def qYn:Ctx:=mkC 48 (qI) [] qU
theorem qmR:CtxOK Tryz.prog qYn:=mkC_ok (qK)
def qYo:V->List Obj->Option (Int):=fun v objs=>match v,objs with
 | .s (.i .i64 y0),[]=>some (y0)
 | _,_=>none
theorem qmQ (x0 x1 x2:Int) (x3:Bool):fnE qYn Tryz.f73 ([.agg [.one [.i .i64 x0,.i .i64 x1,.i .i64 x2,.b x3]]]) ([]) qYo=qDh x0 x1 x2 x3:=by kernel_rfl
def qYm:HA:=fun o vs objs K=>match vs,objs with
 | [.agg [.one [.i .i64 x0,.i .i64 x1,.i .i64 x2,.b x3]]],[]=>ob (qDh x0 x1 x2 x3) fun y0=>K false (.s (.i .i64 y0)) ([])
 | _,_=>o 73 vs objs K
def qP6 (o:Orc):Orc:=qJ 73 (qYm o) o
theorem qYp:OQ Tryz.prog qP6:=fun _ ho=>qL ho fun vs objs K r h=>by
 unfold qYm at h
 split at h
 ·skip
  obtain ⟨t,h1,h2⟩:=qD h
  refine qX mixed qmR ((qmQ _ _ _ _).trans h1) (by kernel_rfl) fun v objs' hd=>?_
  unfold qYo at hd;split at hd;(cases hd;exact h2);cases hd
 ·exact ho _ _ _ _ _ h
def qVV:Ctx:=mkC 104 ((qJO (qCr (qDj (qF2 (qKL (qP6 qI))))))) [] qU
theorem qip:CtxOK Tryz.prog qVV:=mkC_ok ((qLn _ (qDC _ (qET _ (qGy _ (qNl _ (qYp _ qK)))))))
def qVW:V->List Obj->Option (Bool):=fun v objs=>match v,objs with
 | .s (.b y0),[]=>some (y0)
 | _,_=>none
theorem qio (x0 x1 x2:Int) (x3:Bool) (x4:Int) (x5:Nat) (x6 x7:LI) (x8:Int) (x9 x10:LL) (x11:Nat) (x12:LL):fnE qVV Tryz.f55 ([.s (.ptr 0 0 none 0),.agg [.one [.i .i64 x0,.i .i64 x1,.i .i64 x2,.b x3]]]) ([.rcells 66 [.one [.ptr 1 0 none 0,.i .u64 x4,.sl 2 0 x5 true]],.rcells 72 [.arr .i8 81 x6,.arr .i8 16 x7,.one [.i .i8 x8],.rows [.i .u64,.i .u64] 32 x9,.rows [.i .u64,.i .u64] 2 x10],.sli 98 true (.rows [.i .i64,.i .i64,.i .i64,.b,.i .i8,.i .i8] x11 x12)]) (qAK 3 qVW)=qEG x0 x1 x2 x3 x4 x5 x6 x7 x8 x9 x10 x11 x12:=by kernel_rfl
def qVU:HA:=fun o vs objs K=>match vs,List.map Obj.toRO objs with
 | [.s (.ptr 0 0 none 0),.agg [.one [.i .i64 x0,.i .i64 x1,.i .i64 x2,.b x3]]],[.rcells 66 [.one [.ptr 1 0 none 0,.i .u64 x4,.sl 2 0 x5 true]],.rcells 72 [.arr .i8 81 x6,.arr .i8 16 x7,.one [.i .i8 x8],.rows [.i .u64,.i .u64] 32 x9,.rows [.i .u64,.i .u64] 2 x10],.sli 98 true (.rows [.i .i64,.i .i64,.i .i64,.b,.i .i8,.i .i8] x11 x12)]=>ob (qEG x0 x1 x2 x3 x4 x5 x6 x7 x8 x9 x10 x11 x12) fun y0=>K true (.s (.b y0)) ([])
 | _,_=>o 55 vs objs K
def qVX (o:Orc):Orc:=qJ 55 (qVU o) o
theorem qiq:OQ Tryz.prog qVX:=fun _ ho=>qL ho fun vs objs K r h=>by
 unfold qVU at h
 split at h
 ·skip
  have hq:List.map Obj.toRO objs=_:=(by rename_i hq; first | exact hq | assumption)
  obtain ⟨t,h1,h2⟩:=qD h
  refine qAc mixed qip (m:=3) (fn:=Tryz.f55) (b:=(Tryz.f55).body.getD .skip) (by kernel_rfl) (by kernel_rfl) (by kernel_rfl) hq (by kernel_rfl) (by kernel_rfl) (qM.of (l':=[]) (by kernel_rfl) trivial) ((qio _ _ _ _ _ _ _ _ _ _ _ _ _).trans h1) fun v objs' hd=>?_
  unfold qVW at hd;split at hd;(cases hd;exact h2);cases hd
 ·exact ho _ _ _ _ _ h
def qVd:Ctx:=mkC 54 ((qO3 (qKL qI))) [] qU
theorem qiu:CtxOK Tryz.prog qVd:=mkC_ok ((qW4 _ (qNl _ qK)))
def qVe:V->List Obj->Option (Int×Nat×LI×LI×Int×LL×LL×Nat×LL):=fun v objs=>match v,objs with
 | .tup [],[.cells 66 [.one [.ptr 1 0 none 0,.i .u64 y0,.sl 2 0 y1 true]],.cells 72 [.arr .i8 81 y2,.arr .i8 16 y3,.one [.i .i8 y4],.rows [.i .u64,.i .u64] 32 y5,.rows [.i .u64,.i .u64] 2 y6],.sli 98 false (.rows [.i .i64,.i .i64,.i .i64,.b,.i .i8,.i .i8] y7 y8)]=>some (y0,y1,y2,y3,y4,y5,y6,y7,y8)
 | _,_=>none
theorem qit (x0 x1:Int) (x2 x3:Int) (x4:Nat) (x5 x6:LI) (x7:Int) (x8 x9:LL) (x10:Nat) (x11:LL):fnE qVd Tryz.f57 ([.s (.ptr 0 0 none 0),.s (.i .i64 x0),.s (.i .i64 x1),.s (.i .i64 x2)]) ([.cells 66 [.one [.ptr 1 0 none 0,.i .u64 x3,.sl 2 0 x4 true]],.cells 72 [.arr .i8 81 x5,.arr .i8 16 x6,.one [.i .i8 x7],.rows [.i .u64,.i .u64] 32 x8,.rows [.i .u64,.i .u64] 2 x9],.sli 98 false (.rows [.i .i64,.i .i64,.i .i64,.b,.i .i8,.i .i8] x10 x11)]) qVe=qDZ x0 x1 x2 x3 x4 x5 x6 x7 x8 x9 x10 x11:=by kernel_rfl
def qVc:HA:=fun o vs objs K=>match vs,objs with
 | [.s (.ptr 0 0 none 0),.s (.i .i64 x0),.s (.i .i64 x1),.s (.i .i64 x2)],[.cells 66 [.one [.ptr 1 0 none 0,.i .u64 x3,.sl 2 0 x4 true]],.cells 72 [.arr .i8 81 x5,.arr .i8 16 x6,.one [.i .i8 x7],.rows [.i .u64,.i .u64] 32 x8,.rows [.i .u64,.i .u64] 2 x9],.sli 98 false (.rows [.i .i64,.i .i64,.i .i64,.b,.i .i8,.i .i8] x10 x11)]=>ob (qDZ x0 x1 x2 x3 x4 x5 x6 x7 x8 x9 x10 x11) fun z=>K false (.tup []) ([.cells 66 [.one [.ptr 1 0 none 0,.i .u64 (z.1),.sl 2 0 (z.2.1) true]],.cells 72 [.arr .i8 81 (z.2.2.1),.arr .i8 16 (z.2.2.2.1),.one [.i .i8 (z.2.2.2.2.1)],.rows [.i .u64,.i .u64] 32 (z.2.2.2.2.2.1),.rows [.i .u64,.i .u64] 2 (z.2.2.2.2.2.2.1)],.sli 98 false (.rows [.i .i64,.i .i64,.i .i64,.b,.i .i8,.i .i8] (z.2.2.2.2.2.2.2.1) (z.2.2.2.2.2.2.2.2))])
 | _,_=>o 57 vs objs K
def qVf (o:Orc):Orc:=qJ 57 (qVc o) o
theorem qiv:OQ Tryz.prog qVf:=fun _ ho=>qL ho fun vs objs K r h=>by
 unfold qVc at h
 split at h
 ·skip
  obtain ⟨t,h1,h2⟩:=qD h
  refine qX mixed qiu ((qit _ _ _ _ _ _ _ _ _ _ _ _).trans h1) (by kernel_rfl) fun v objs' hd=>?_
  unfold qVe at hd;split at hd;(cases hd;exact h2);cases hd
 ·exact ho _ _ _ _ _ h
def qVh:Ctx:=mkC 32 ((qKP (qPD (qF2 qI)))) [] qU
theorem qix:CtxOK Tryz.prog qVh:=mkC_ok ((qNs _ (qXE _ (qGy _ qK))))
def qVi:V->List Obj->Option (Int×Nat×LI×LI×Int×LL×LL×Nat×LL):=fun v objs=>match v,objs with
 | .tup [],[.cells 66 [.one [.ptr 1 0 none 0,.i .u64 y0,.sl 2 0 y1 true]],.cells 72 [.arr .i8 81 y2,.arr .i8 16 y3,.one [.i .i8 y4],.rows [.i .u64,.i .u64] 32 y5,.rows [.i .u64,.i .u64] 2 y6],.sli 98 false (.rows [.i .i64,.i .i64,.i .i64,.b,.i .i8,.i .i8] y7 y8)]=>some (y0,y1,y2,y3,y4,y5,y6,y7,y8)
 | _,_=>none
theorem qiw (x0 x1 x2:Int) (x3:Nat) (x4 x5:LI) (x6:Int) (x7 x8:LL) (x9:Nat) (x10:LL):fnE qVh Tryz.f58 ([.s (.ptr 0 0 none 0),.s (.i .i64 x0),.s (.i .i8 x1)]) ([.cells 66 [.one [.ptr 1 0 none 0,.i .u64 x2,.sl 2 0 x3 true]],.cells 72 [.arr .i8 81 x4,.arr .i8 16 x5,.one [.i .i8 x6],.rows [.i .u64,.i .u64] 32 x7,.rows [.i .u64,.i .u64] 2 x8],.sli 98 false (.rows [.i .i64,.i .i64,.i .i64,.b,.i .i8,.i .i8] x9 x10)]) qVi=qB9 x0 x1 x2 x3 x4 x5 x6 x7 x8 x9 x10:=by kernel_rfl
def qVg:HA:=fun o vs objs K=>match vs,objs with
 | [.s (.ptr 0 0 none 0),.s (.i .i64 x0),.s (.i .i8 x1)],[.cells 66 [.one [.ptr 1 0 none 0,.i .u64 x2,.sl 2 0 x3 true]],.cells 72 [.arr .i8 81 x4,.arr .i8 16 x5,.one [.i .i8 x6],.rows [.i .u64,.i .u64] 32 x7,.rows [.i .u64,.i .u64] 2 x8],.sli 98 false (.rows [.i .i64,.i .i64,.i .i64,.b,.i .i8,.i .i8] x9 x10)]=>ob (qB9 x0 x1 x2 x3 x4 x5 x6 x7 x8 x9 x10) fun z=>K false (.tup []) ([.cells 66 [.one [.ptr 1 0 none 0,.i .u64 (z.1),.sl 2 0 (z.2.1) true]],.cells 72 [.arr .i8 81 (z.2.2.1),.arr .i8 16 (z.2.2.2.1),.one [.i .i8 (z.2.2.2.2.1)],.rows [.i .u64,.i .u64] 32 (z.2.2.2.2.2.1),.rows [.i .u64,.i .u64] 2 (z.2.2.2.2.2.2.1)],.sli 98 false (.rows [.i .i64,.i .i64,.i .i64,.b,.i .i8,.i .i8] (z.2.2.2.2.2.2.2.1) (z.2.2.2.2.2.2.2.2))])
 | _,_=>o 58 vs objs K
def qVj (o:Orc):Orc:=qJ 58 (qVg o) o
theorem qiy:OQ Tryz.prog qVj:=fun _ ho=>qL ho fun vs objs K r h=>by
 unfold qVg at h
 split at h
 ·skip
  obtain ⟨t,h1,h2⟩:=qD h
  refine qX mixed qix ((qiw _ _ _ _ _ _ _ _ _ _ _).trans h1) (by kernel_rfl) fun v objs' hd=>?_
  unfold qVi at hd;split at hd;(cases hd;exact h2);cases hd
 ·exact ho _ _ _ _ _ h
def qVl:Ctx:=mkC 26 ((qPE qI)) [] qU
theorem qi0:CtxOK Tryz.prog qVl:=mkC_ok ((qXI _ qK))
def qVm:V->List Obj->Option (Int×Nat×LI×LI×Int×LL×LL×Nat×LL):=fun v objs=>match v,objs with
 | .tup [],[.cells 66 [.one [.ptr 1 0 none 0,.i .u64 y0,.sl 2 0 y1 true]],.cells 72 [.arr .i8 81 y2,.arr .i8 16 y3,.one [.i .i8 y4],.rows [.i .u64,.i .u64] 32 y5,.rows [.i .u64,.i .u64] 2 y6],.sli 98 false (.rows [.i .i64,.i .i64,.i .i64,.b,.i .i8,.i .i8] y7 y8)]=>some (y0,y1,y2,y3,y4,y5,y6,y7,y8)
 | _,_=>none
theorem qiz (x0:Int) (x1:Nat) (x2 x3:LI) (x4:Int) (x5 x6:LL) (x7:Nat) (x8:LL):fnE qVl Tryz.f62 ([.s (.ptr 0 0 none 0)]) ([.cells 66 [.one [.ptr 1 0 none 0,.i .u64 x0,.sl 2 0 x1 true]],.cells 72 [.arr .i8 81 x2,.arr .i8 16 x3,.one [.i .i8 x4],.rows [.i .u64,.i .u64] 32 x5,.rows [.i .u64,.i .u64] 2 x6],.sli 98 false (.rows [.i .i64,.i .i64,.i .i64,.b,.i .i8,.i .i8] x7 x8)]) qVm=qCi x0 x1 x2 x3 x4 x5 x6 x7 x8:=by kernel_rfl
def qVk:HA:=fun o vs objs K=>match vs,objs with
 | [.s (.ptr 0 0 none 0)],[.cells 66 [.one [.ptr 1 0 none 0,.i .u64 x0,.sl 2 0 x1 true]],.cells 72 [.arr .i8 81 x2,.arr .i8 16 x3,.one [.i .i8 x4],.rows [.i .u64,.i .u64] 32 x5,.rows [.i .u64,.i .u64] 2 x6],.sli 98 false (.rows [.i .i64,.i .i64,.i .i64,.b,.i .i8,.i .i8] x7 x8)]=>ob (qCi x0 x1 x2 x3 x4 x5 x6 x7 x8) fun z=>K false (.tup []) ([.cells 66 [.one [.ptr 1 0 none 0,.i .u64 (z.1),.sl 2 0 (z.2.1) true]],.cells 72 [.arr .i8 81 (z.2.2.1),.arr .i8 16 (z.2.2.2.1),.one [.i .i8 (z.2.2.2.2.1)],.rows [.i .u64,.i .u64] 32 (z.2.2.2.2.2.1),.rows [.i .u64,.i .u64] 2 (z.2.2.2.2.2.2.1)],.sli 98 false (.rows [.i .i64,.i .i64,.i .i64,.b,.i .i8,.i .i8] (z.2.2.2.2.2.2.2.1) (z.2.2.2.2.2.2.2.2))])
 | _,_=>o 62 vs objs K
def qVn (o:Orc):Orc:=qJ 62 (qVk o) o
theorem qi1:OQ Tryz.prog qVn:=fun _ ho=>qL ho fun vs objs K r h=>by
 unfold qVk at h
 split at h
 ·skip
  obtain ⟨t,h1,h2⟩:=qD h
  refine qX mixed qi0 ((qiz _ _ _ _ _ _ _ _ _).trans h1) (by kernel_rfl) fun v objs' hd=>?_
  unfold qVm at hd;split at hd;(cases hd;exact h2);cases hd
 ·exact ho _ _ _ _ _ h
def qVZ:Ctx:=mkC 97 ((qLl (qJO (qCr (qVn (qVj (qVf (qDi (qF2 (qVX qI)))))))))) [] qU
theorem qis:CtxOK Tryz.prog qVZ:=mkC_ok ((qQU _ (qLn _ (qDC _ (qi1 _ (qiy _ (qiv _ (qES _ (qGy _ (qiq _ qK))))))))))
def qVa:V->List Obj->Option ((Bool×Int×Nat×LI×LI×Int×LL×LL×Nat×LL) ⊕ (Bool×Int×Nat×LI×LI×Int×LL×LL×Nat×LL)):=fun v objs=>match v,objs with
 | .s (.b y0),[.cells 66 [.one [.ptr 1 0 none 0,.i .u64 y1,.sl 2 0 y2 true]],.cells 72 [.arr .i8 81 y3,.arr .i8 16 y4,.one [.i .i8 y5],.rows [.i .u64,.i .u64] 32 y6,.rows [.i .u64,.i .u64] 2 y7],.sli 98 false (.rows [.i .i64,.i .i64,.i .i64,.b,.i .i8,.i .i8] y8 y9)]=>some (.inl (y0,y1,y2,y3,y4,y5,y6,y7,y8,y9))
 | .s (.b y0),[.cells 66 [.one [.ptr 1 0 none 0,.i .u64 y1,.sl 3 0 y2 true]],.cells 72 [.arr .i8 81 y3,.arr .i8 16 y4,.one [.i .i8 y5],.rows [.i .u64,.i .u64] 32 y6,.rows [.i .u64,.i .u64] 2 y7],Obj.dead,.sli 98 false (.rows [.i .i64,.i .i64,.i .i64,.b,.i .i8,.i .i8] y8 y9)]=>some (.inr (y0,y1,y2,y3,y4,y5,y6,y7,y8,y9))
 | _,_=>none
theorem qir (x0 x1 x2:Int) (x3:Bool) (x4:Int) (x5:Nat) (x6 x7:LI) (x8:Int) (x9 x10:LL) (x11:Nat) (x12:LL):fnE qVZ Tryz.f26 ([.s (.ptr 0 0 none 0),.agg [.one [.i .i64 x0,.i .i64 x1,.i .i64 x2,.b x3]]]) ([.cells 66 [.one [.ptr 1 0 none 0,.i .u64 x4,.sl 2 0 x5 true]],.cells 72 [.arr .i8 81 x6,.arr .i8 16 x7,.one [.i .i8 x8],.rows [.i .u64,.i .u64] 32 x9,.rows [.i .u64,.i .u64] 2 x10],.sli 98 false (.rows [.i .i64,.i .i64,.i .i64,.b,.i .i8,.i .i8] x11 x12)]) qVa=qC5 x0 x1 x2 x3 x4 x5 x6 x7 x8 x9 x10 x11 x12:=by kernel_rfl
def qVY:HA:=fun o vs objs K=>match vs,objs with
 | [.s (.ptr 0 0 none 0),.agg [.one [.i .i64 x0,.i .i64 x1,.i .i64 x2,.b x3]]],[.cells 66 [.one [.ptr 1 0 none 0,.i .u64 x4,.sl 2 0 x5 true]],.cells 72 [.arr .i8 81 x6,.arr .i8 16 x7,.one [.i .i8 x8],.rows [.i .u64,.i .u64] 32 x9,.rows [.i .u64,.i .u64] 2 x10],.sli 98 false (.rows [.i .i64,.i .i64,.i .i64,.b,.i .i8,.i .i8] x11 x12)]=>ob (qC5 x0 x1 x2 x3 x4 x5 x6 x7 x8 x9 x10 x11 x12) fun t0=>sw t0 (fun z=>K false (.s (.b (z.1))) ([.cells 66 [.one [.ptr 1 0 none 0,.i .u64 (z.2.1),.sl 2 0 (z.2.2.1) true]],.cells 72 [.arr .i8 81 (z.2.2.2.1),.arr .i8 16 (z.2.2.2.2.1),.one [.i .i8 (z.2.2.2.2.2.1)],.rows [.i .u64,.i .u64] 32 (z.2.2.2.2.2.2.1),.rows [.i .u64,.i .u64] 2 (z.2.2.2.2.2.2.2.1)],.sli 98 false (.rows [.i .i64,.i .i64,.i .i64,.b,.i .i8,.i .i8] (z.2.2.2.2.2.2.2.2.1) (z.2.2.2.2.2.2.2.2.2))])) (fun z=>K false (.s (.b (z.1))) ([.cells 66 [.one [.ptr 1 0 none 0,.i .u64 (z.2.1),.sl 3 0 (z.2.2.1) true]],.cells 72 [.arr .i8 81 (z.2.2.2.1),.arr .i8 16 (z.2.2.2.2.1),.one [.i .i8 (z.2.2.2.2.2.1)],.rows [.i .u64,.i .u64] 32 (z.2.2.2.2.2.2.1),.rows [.i .u64,.i .u64] 2 (z.2.2.2.2.2.2.2.1)],Obj.dead,.sli 98 false (.rows [.i .i64,.i .i64,.i .i64,.b,.i .i8,.i .i8] (z.2.2.2.2.2.2.2.2.1) (z.2.2.2.2.2.2.2.2.2))]))
 | _,_=>o 26 vs objs K
def qOR (o:Orc):Orc:=qJ 26 (qVY o) o
theorem qVb:OQ Tryz.prog qOR:=fun _ ho=>qL ho fun vs objs K r h=>by
 unfold qVY at h
 split at h
 ·skip
  obtain ⟨t,h1,h2⟩:=qD h
  refine qX mixed qis ((qir _ _ _ _ _ _ _ _ _ _ _ _ _).trans h1) (by kernel_rfl) fun v objs' hd=>?_
  unfold qVa at hd
  split at hd
  ·skip
   cases hd
   exact h2
  ·skip
   cases hd
   exact h2
  ·cases hd
 ·exact ho _ _ _ _ _ h
def qPr:Ex->List V->List Obj->Option ((Nat×Int×Int×Nat×LL×LI×LI×Int×Int×Nat×LI×LI×Int×LL×LL×Nat×LL) ⊕ (Nat×Nat×LL×LI×LI×Int×Int×Nat×LI×LI×Int×LL×LL×Nat×LL)):=fun e vs objs=>match e,vs,objs with
 | .ret,[.s (.sl 0 0 y0 true),.s (.i .i64 y1),.s (.ptr 1 0 none 0),.s (.i .i64 y2),.s (.ptr 2 0 none 0)],[.sli 37 true (.rows [.i .i64,.i .i64,.i .i64,.b] y3 y4),.cells 28 [.arr .i8 81 y5,.arr .i8 16 y6,.one [.i .i8 y7]],.cells 66 [.one [.ptr 3 0 none 0,.i .u64 y8,.sl 4 0 y9 true]],.cells 72 [.arr .i8 81 y10,.arr .i8 16 y11,.one [.i .i8 y12],.rows [.i .u64,.i .u64] 32 y13,.rows [.i .u64,.i .u64] 2 y14],.sli 98 false (.rows [.i .i64,.i .i64,.i .i64,.b,.i .i8,.i .i8] y15 y16)]=>some (.inl (y0,y1,y2,y3,y4,y5,y6,y7,y8,y9,y10,y11,y12,y13,y14,y15,y16))
 | .exit 0,[.s (.sl 0 0 y0 true),.s .bad,.s (.ptr 1 0 none 0),.s .bad,.s (.ptr 2 0 none 0)],[.sli 37 true (.rows [.i .i64,.i .i64,.i .i64,.b] y1 y2),.cells 28 [.arr .i8 81 y3,.arr .i8 16 y4,.one [.i .i8 y5]],.cells 66 [.one [.ptr 3 0 none 0,.i .u64 y6,.sl 4 0 y7 true]],.cells 72 [.arr .i8 81 y8,.arr .i8 16 y9,.one [.i .i8 y10],.rows [.i .u64,.i .u64] 32 y11,.rows [.i .u64,.i .u64] 2 y12],.sli 98 false (.rows [.i .i64,.i .i64,.i .i64,.b,.i .i8,.i .i8] y13 y14)]=>some (.inr (y0,y1,y2,y3,y4,y5,y6,y7,y8,y9,y10,y11,y12,y13,y14))
 | _,_,_=>none
def qPt:HL:=fun vs objs K=>match vs,objs with
 | [.s (.sl 0 0 x0 true),.s (.ptr 1 0 none 0),.s (.ptr 2 0 none 0),.s (.sl 0 0 x1 true),.s (.i .i64 x2),.s (.i .i64 x3)],[.sli 37 true (.rows [.i .i64,.i .i64,.i .i64,.b] x4 x5),.cells 28 [.arr .i8 81 x6,.arr .i8 16 x7,.one [.i .i8 x8]],.cells 66 [.one [.ptr 3 0 none 0,.i .u64 x9,.sl 4 0 x10 true]],.cells 72 [.arr .i8 81 x11,.arr .i8 16 x12,.one [.i .i8 x13],.rows [.i .u64,.i .u64] 32 x14,.rows [.i .u64,.i .u64] 2 x15],.sli 98 false (.rows [.i .i64,.i .i64,.i .i64,.b,.i .i8,.i .i8] x16 x17)]=>ob (qLH qB x0 x1 x2 x3 x4 x5 x6 x7 x8 x9 x10 x11 x12 x13 x14 x15 x16 x17) fun t0=>sw t0 (fun z=>K (.ret) ([.s (.sl 0 0 (z.1) true),.s (.i .i64 (z.2.1)),.s (.ptr 1 0 none 0),.s (.i .i64 (z.2.2.1)),.s (.ptr 2 0 none 0)]) ([.sli 37 true (.rows [.i .i64,.i .i64,.i .i64,.b] (z.2.2.2.1) (z.2.2.2.2.1)),.cells 28 [.arr .i8 81 (z.2.2.2.2.2.1),.arr .i8 16 (z.2.2.2.2.2.2.1),.one [.i .i8 (z.2.2.2.2.2.2.2.1)]],.cells 66 [.one [.ptr 3 0 none 0,.i .u64 (z.2.2.2.2.2.2.2.2.1),.sl 4 0 (z.2.2.2.2.2.2.2.2.2.1) true]],.cells 72 [.arr .i8 81 (z.2.2.2.2.2.2.2.2.2.2.1),.arr .i8 16 (z.2.2.2.2.2.2.2.2.2.2.2.1),.one [.i .i8 (z.2.2.2.2.2.2.2.2.2.2.2.2.1)],.rows [.i .u64,.i .u64] 32 (z.2.2.2.2.2.2.2.2.2.2.2.2.2.1),.rows [.i .u64,.i .u64] 2 (z.2.2.2.2.2.2.2.2.2.2.2.2.2.2.1)],.sli 98 false (.rows [.i .i64,.i .i64,.i .i64,.b,.i .i8,.i .i8] (z.2.2.2.2.2.2.2.2.2.2.2.2.2.2.2.1) (z.2.2.2.2.2.2.2.2.2.2.2.2.2.2.2.2))])) (fun z=>K (.exit 0) ([.s (.sl 0 0 (z.1) true),.s .bad,.s (.ptr 1 0 none 0),.s .bad,.s (.ptr 2 0 none 0)]) ([.sli 37 true (.rows [.i .i64,.i .i64,.i .i64,.b] (z.2.1) (z.2.2.1)),.cells 28 [.arr .i8 81 (z.2.2.2.1),.arr .i8 16 (z.2.2.2.2.1),.one [.i .i8 (z.2.2.2.2.2.1)]],.cells 66 [.one [.ptr 3 0 none 0,.i .u64 (z.2.2.2.2.2.2.1),.sl 4 0 (z.2.2.2.2.2.2.2.1) true]],.cells 72 [.arr .i8 81 (z.2.2.2.2.2.2.2.2.1),.arr .i8 16 (z.2.2.2.2.2.2.2.2.2.1),.one [.i .i8 (z.2.2.2.2.2.2.2.2.2.2.1)],.rows [.i .u64,.i .u64] 32 (z.2.2.2.2.2.2.2.2.2.2.2.1),.rows [.i .u64,.i .u64] 2 (z.2.2.2.2.2.2.2.2.2.2.2.2.1)],.sli 98 false (.rows [.i .i64,.i .i64,.i .i64,.b,.i .i8,.i .i8] (z.2.2.2.2.2.2.2.2.2.2.2.2.2.1) (z.2.2.2.2.2.2.2.2.2.2.2.2.2.2))]))
 | _,_=>none
def qls:{R:Type}->Nat->List V->List Obj->(Ex->List V->List Obj->Option R)->Option R:=fun q vs objs K=>bif Nat.beq q 6 then qPt vs objs K else none
def qLG:Ctx:=mkC 54 ((qOR (qPa (qOS (qNE qI))))) [(6,[1,5,8,19,20,21],[1,4,5,6,8])] qls
theorem qYI:CtxOK Tryz.prog qLG:=mkC_ok ((qVb _ (qXl _ (qVr _ (qTl _ qK)))))
def qPs (f:Nat) (x0 x1:Nat) (x2 x3:Int) (x4:Nat) (x5:LL) (x6 x7:LI) (x8 x9:Int) (x10:Nat) (x11 x12:LI) (x13:Int) (x14 x15:LL) (x16:Nat) (x17:LL):Option ((Nat×Int×Int×Nat×LL×LI×LI×Int×Int×Nat×LI×LI×Int×LL×LL×Nat×LL) ⊕ (Nat×Nat×LL×LI×LI×Int×Int×Nat×LI×LI×Int×LL×LL×Nat×LL)):=qe qLG 1 [1,5,8,19,20,21] [1,4,5,6,8] (qE Tryz.f9 6) f ([.s (.sl 0 0 x0 true),.s (.ptr 1 0 none 0),.s (.ptr 2 0 none 0),.s (.sl 0 0 x1 true),.s (.i .i64 x2),.s (.i .i64 x3)]) ([.sli 37 true (.rows [.i .i64,.i .i64,.i .i64,.b] x4 x5),.cells 28 [.arr .i8 81 x6,.arr .i8 16 x7,.one [.i .i8 x8]],.cells 66 [.one [.ptr 3 0 none 0,.i .u64 x9,.sl 4 0 x10 true]],.cells 72 [.arr .i8 81 x11,.arr .i8 16 x12,.one [.i .i8 x13],.rows [.i .u64,.i .u64] 32 x14,.rows [.i .u64,.i .u64] 2 x15],.sli 98 false (.rows [.i .i64,.i .i64,.i .i64,.b,.i .i8,.i .i8] x16 x17)]) qPr
theorem qlr (f:Nat) (x0 x1:Nat) (x2 x3:Int) (x4:Nat) (x5:LL) (x6 x7:LI) (x8 x9:Int) (x10:Nat) (x11 x12:LI) (x13:Int) (x14 x15:LL) (x16:Nat) (x17:LL):qPs (f+1) x0 x1 x2 x3 x4 x5 x6 x7 x8 x9 x10 x11 x12 x13 x14 x15 x16 x17=qYL (qPs f) x0 x1 x2 x3 x4 x5 x6 x7 x8 x9 x10 x11 x12 x13 x14 x15 x16 x17:=by kernel_rfl
theorem qYK:∀ f,qPs f=qLH f
 | 0=>rfl
 | f+1=>by funext x0 x1 x2 x3 x4 x5 x6 x7 x8 x9 x10 x11 x12 x13 x14 x15 x16 x17; rw [qlr,qYK f]; rfl
theorem qlu:qa Tryz.prog qLG 1 (qE Tryz.f9 6):=
 qg mixed qYI (qM.of (l':=[]) (by kernel_rfl) trivial) (q:=6) (kin:=[1,5,8,19,20,21]) (kout:=[1,4,5,6,8]) (by kernel_rfl) (by kernel_rfl) fun vs objs K r h=>by
  replace h:qPt vs objs K=some r:=h
  unfold qPt at h
  split at h
  ·skip
   obtain ⟨t,h1,h2⟩:=qD h
   rw [<- qYK] at h1
   refine ⟨_,qPr,t,qB,h1,fun e vs' objs' hd=>?_⟩
   unfold qPr at hd
   split at hd
   ·skip
    cases hd
    exact h2
   ·skip
    cases hd
    exact h2
   ·cases hd
  ·cases h
def qYJ:V->List Obj->Option (Int×LI×LI×Int×Int):=fun v objs=>match v,objs with
 | .tup [W.s (.i .i64 y0),W.agg [.arr .i8 81 y1,.arr .i8 16 y2,.one [.i .i8 y3]],W.s (.i .i64 y4)],[]=>some (y0,y1,y2,y3,y4)
 | _,_=>none
theorem qll (x0 x1:LI) (x2:Int) (x3 x4:Nat) (x5:LL):fnE qLG Tryz.f9 ([.agg [.arr .i8 81 x0,.arr .i8 16 x1,.one [.i .i8 x2]],.s (.sl 0 0 x3 true)]) ([.sli 37 true (.rows [.i .i64,.i .i64,.i .i64,.b] x4 x5)]) (qAK 1 qYJ)=qPn x0 x1 x2 x3 x4 x5:=by kernel_rfl
def qYH:HA:=fun o vs objs K=>match vs,List.map Obj.toRO objs with
 | [.agg [.arr .i8 81 x0,.arr .i8 16 x1,.one [.i .i8 x2]],.s (.sl 0 0 x3 true)],[.sli 37 true (.rows [.i .i64,.i .i64,.i .i64,.b] x4 x5)]=>ob (qPn x0 x1 x2 x3 x4 x5) fun z=>K true (.tup [W.s (.i .i64 (z.1)),W.agg [.arr .i8 81 (z.2.1),.arr .i8 16 (z.2.2.1),.one [.i .i8 (z.2.2.2.1)]],W.s (.i .i64 (z.2.2.2.2))]) ([])
 | _,_=>o 9 vs objs K
def qYM (o:Orc):Orc:=qJ 9 (qYH o) o
theorem qlt:OQ Tryz.prog qYM:=fun _ ho=>qL ho fun vs objs K r h=>by
 unfold qYH at h
 split at h
 ·skip
  have hq:List.map Obj.toRO objs=_:=(by rename_i hq; first | exact hq | assumption)
  obtain ⟨t,h1,h2⟩:=qD h
  refine qAc mixed qYI (m:=1) (fn:=Tryz.f9) (b:=(Tryz.f9).body.getD .skip) (by kernel_rfl) (by kernel_rfl) (by kernel_rfl) hq (by kernel_rfl) (by kernel_rfl) (qM.of (l':=[qE Tryz.f9 6]) (by kernel_rfl) ⟨qlu,trivial⟩) ((qll _ _ _ _ _ _).trans h1) fun v objs' hd=>?_
  unfold qYJ at hd;split at hd;(cases hd;exact h2);cases hd
 ·exact ho _ _ _ _ _ h
def qTL:Ex->List V->List Obj->Option (Int):=fun e vs objs=>match e,vs,objs with
 | .exit 0,[.s (.i .i64 y0)],[]=>some (y0)
 | _,_,_=>none
def qTO:HL:=fun vs objs K=>match vs,objs with
 | [.s (.i .i64 x0),.s (S.it 0)],[Obj.iter x1 x2]=>ob (qMy qB x0 x1 x2) fun y0=>K (.exit 0) ([.s (.i .i64 y0)]) ([])
 | _,_=>none
def quL:{R:Type}->Nat->List V->List Obj->(Ex->List V->List Obj->Option R)->Option R:=fun q vs objs K=>bif Nat.beq q 2 then qTO vs objs K else none
def qMx:Ctx:=mkC 10 (qI) [(2,[2,4],[2])] quL
theorem qfb:CtxOK Tryz.prog qMx:=mkC_ok (qK)
def qTM (f:Nat) (x0:Int) (x1:ByteArray) (x2:Nat):Option (Int):=qe qMx 0 [2,4] [2] (qE Tryz.f138 2) f ([.s (.i .i64 x0),.s (S.it 0)]) ([Obj.iter x1 x2]) qTL
theorem quK (f:Nat) (x0:Int) (x1:ByteArray) (x2:Nat):qTM (f+1) x0 x1 x2=qfe (qTM f) x0 x1 x2:=by kernel_rfl
theorem qfd:∀ f,qTM f=qMy f
 | 0=>rfl
 | f+1=>by funext x0 x1 x2; rw [quK,qfd f]; rfl
theorem quM:qa Tryz.prog qMx 0 (qE Tryz.f138 2):=
 qg mixed qfb (qM.of (l':=[]) (by kernel_rfl) trivial) (q:=2) (kin:=[2,4]) (kout:=[2]) (by kernel_rfl) (by kernel_rfl) fun vs objs K r h=>by
  replace h:qTO vs objs K=some r:=h
  unfold qTO at h
  split at h
  ·skip
   obtain ⟨t,h1,h2⟩:=qD h
   rw [<- qfd] at h1
   refine ⟨_,qTL,t,qB,h1,fun e vs' objs' hd=>?_⟩
   unfold qTL at hd;split at hd;(cases hd;exact h2);cases hd
  ·cases h
def qfc:V->List Obj->Option (Int):=fun v objs=>match v,objs with
 | .s (.i .i64 y0),[]=>some (y0)
 | _,_=>none
theorem quJ (x0:ByteArray):fnE qMx Tryz.f138 ([.s (.str x0)]) ([]) qfc=qMw x0:=by kernel_rfl
def qfa:HA:=fun o vs objs K=>match vs,objs with
 | [.s (.str x0)],[]=>ob (qMw x0) fun y0=>K false (.s (.i .i64 y0)) ([])
 | _,_=>o 138 vs objs K
def qTN (o:Orc):Orc:=qJ 138 (qfa o) o
theorem qff:OQ Tryz.prog qTN:=fun _ ho=>qL ho fun vs objs K r h=>by
 unfold qfa at h
 split at h
 ·skip
  obtain ⟨t,h1,h2⟩:=qD h
  refine q7 mixed qfb (fn:=Tryz.f138) (b:=(Tryz.f138).body.getD .skip) (by kernel_rfl) (by kernel_rfl) (by kernel_rfl) ((quJ _).trans h1) (m:=0) rfl (qM.of (l':=[qE Tryz.f138 2]) (by kernel_rfl) ⟨quM,trivial⟩) fun v objs' hd=>?_
  unfold qfc at hd;split at hd;(cases hd;exact h2);cases hd
 ·exact ho _ _ _ _ _ h
def qfh:Ctx:=mkC 117 (qI) [] qU
theorem quO:CtxOK Tryz.prog qfh:=mkC_ok (qK)
def qfi:V->List Obj->Option (Int×Int):=fun v objs=>match v,objs with
 | .tup [W.s (.i .i32 y0),W.s (.i .i64 y1)],[]=>some (y0,y1)
 | _,_=>none
theorem quN (x0:ByteArray):fnE qfh Tryz.f154 ([.s (.str x0)]) ([]) qfi=qMz x0:=by kernel_rfl
def qfg:HA:=fun o vs objs K=>match vs,objs with
 | [.s (.str x0)],[]=>ob (qMz x0) fun z=>K false (.tup [W.s (.i .i32 (z.1)),W.s (.i .i64 (z.2))]) ([])
 | _,_=>o 154 vs objs K
def qfj (o:Orc):Orc:=qJ 154 (qfg o) o
theorem quP:OQ Tryz.prog qfj:=fun _ ho=>qL ho fun vs objs K r h=>by
 unfold qfg at h
 split at h
 ·skip
  obtain ⟨t,h1,h2⟩:=qD h
  refine qX mixed quO ((quN _).trans h1) (by kernel_rfl) fun v objs' hd=>?_
  unfold qfi at hd;split at hd;(cases hd;exact h2);cases hd
 ·exact ho _ _ _ _ _ h
def qfX:Ctx:=mkC 19 ((qfj qI)) [] qU
theorem quH:CtxOK Tryz.prog qfX:=mkC_ok ((quP _ qK))
def qfY:V->List Obj->Option (Int×Int):=fun v objs=>match v,objs with
 | .tup [W.s (.i .i32 y0),W.s (.i .i64 y1)],[]=>some (y0,y1)
 | _,_=>none
theorem quG (x0:ByteArray):fnE qfX Tryz.f139 ([.s (.str x0)]) ([]) qfY=qTK x0:=by kernel_rfl
def qfW:HA:=fun o vs objs K=>match vs,objs with
 | [.s (.str x0)],[]=>ob (qTK x0) fun z=>K false (.tup [W.s (.i .i32 (z.1)),W.s (.i .i64 (z.2))]) ([])
 | _,_=>o 139 vs objs K
def qfZ (o:Orc):Orc:=qJ 139 (qfW o) o
theorem quI:OQ Tryz.prog qfZ:=fun _ ho=>qL ho fun vs objs K r h=>by
 unfold qfW at h
 split at h
 ·skip
  obtain ⟨t,h1,h2⟩:=qD h
  refine qX mixed quH ((quG _).trans h1) (by kernel_rfl) fun v objs' hd=>?_
  unfold qfY at hd;split at hd;(cases hd;exact h2);cases hd
 ·exact ho _ _ _ _ _ h
def qSz:Ex->List V->List Obj->Option (ByteArray×Int×Nat×Nat×LL):=fun e vs objs=>match e,vs,objs with
 | .exit 0,[.s (.str y0),.s (.i .i64 y1),.s (.sl 0 0 y2 true)],[.sli 9 false (.rows [CK.s] y3 y4)]=>some (y0,y1,y2,y3,y4)
 | _,_,_=>none
def qS1:HL:=fun vs objs K=>match vs,objs with
 | [.s (.str x0),.s (.i .i64 x1),.s (.sl 0 0 x2 true),.s (.i .i64 x3)],[.sli 9 false (.rows [CK.s] x4 x5)]=>ob (qIa qB x0 x1 x2 x3 x4 x5) fun z=>K (.exit 0) ([.s (.str (z.1)),.s (.i .i64 (z.2.1)),.s (.sl 0 0 (z.2.2.1) true)]) ([.sli 9 false (.rows [CK.s] (z.2.2.2.1) (z.2.2.2.2))])
 | _,_=>none
def qtg:{R:Type}->Nat->List V->List Obj->(Ex->List V->List Obj->Option R)->Option R:=fun q vs objs K=>bif Nat.beq q 6 then qS1 vs objs K else none
def qMq:Ctx:=mkC 50 ((qfZ (qTN qI))) [(6,[0,1,6,7],[0,1,6])] qtg
theorem qez:CtxOK Tryz.prog qMq:=mkC_ok ((quI _ (qff _ qK)))
def qS0 (f:Nat) (x0:ByteArray) (x1:Int) (x2:Nat) (x3:Int) (x4:Nat) (x5:LL):Option (ByteArray×Int×Nat×Nat×LL):=qe qMq 0 [0,1,6,7] [0,1,6] (qE Tryz.f108 6) f ([.s (.str x0),.s (.i .i64 x1),.s (.sl 0 0 x2 true),.s (.i .i64 x3)]) ([.sli 9 false (.rows [CK.s] x4 x5)]) qSz
theorem qtf (f:Nat) (x0:ByteArray) (x1:Int) (x2:Nat) (x3:Int) (x4:Nat) (x5:LL):qS0 (f+1) x0 x1 x2 x3 x4 x5=qe2 (qS0 f) x0 x1 x2 x3 x4 x5:=by kernel_rfl
theorem qe1:∀ f,qS0 f=qIa f
 | 0=>rfl
 | f+1=>by funext x0 x1 x2 x3 x4 x5; rw [qtf,qe1 f]; rfl
theorem qti:qa Tryz.prog qMq 0 (qE Tryz.f108 6):=
 qg mixed qez (qM.of (l':=[]) (by kernel_rfl) trivial) (q:=6) (kin:=[0,1,6,7]) (kout:=[0,1,6]) (by kernel_rfl) (by kernel_rfl) fun vs objs K r h=>by
  replace h:qS1 vs objs K=some r:=h
  unfold qS1 at h
  split at h
  ·skip
   obtain ⟨t,h1,h2⟩:=qD h
   rw [<- qe1] at h1
   refine ⟨_,qSz,t,qB,h1,fun e vs' objs' hd=>?_⟩
   unfold qSz at hd;split at hd;(cases hd;exact h2);cases hd
  ·cases h
def qe0:V->List Obj->Option (Nat×Nat×LL):=fun v objs=>match v,objs with
 | .s (.sl 0 0 y0 true),[.sli 9 false (.rows [CK.s] y1 y2)]=>some (y0,y1,y2)
 | _,_=>none
theorem qte (x0:ByteArray) (x1:Int):fnE qMq Tryz.f108 ([.s (.str x0),.s (.i .i64 x1)]) ([]) qe0=qSy x0 x1:=by kernel_rfl
def qey:HA:=fun o vs objs K=>match vs,objs with
 | [.s (.str x0),.s (.i .i64 x1)],[]=>ob (qSy x0 x1) fun z=>K false (.s (.sl 0 0 (z.1) true)) ([.sli 9 false (.rows [CK.s] (z.2.1) (z.2.2))])
 | _,_=>o 108 vs objs K
def qe3 (o:Orc):Orc:=qJ 108 (qey o) o
theorem qth:OQ Tryz.prog qe3:=fun _ ho=>qL ho fun vs objs K r h=>by
 unfold qey at h
 split at h
 ·skip
  obtain ⟨t,h1,h2⟩:=qD h
  refine q7 mixed qez (fn:=Tryz.f108) (b:=(Tryz.f108).body.getD .skip) (by kernel_rfl) (by kernel_rfl) (by kernel_rfl) ((qte _ _).trans h1) (m:=0) rfl (qM.of (l':=[qE Tryz.f108 6]) (by kernel_rfl) ⟨qti,trivial⟩) fun v objs' hd=>?_
  unfold qe0 at hd;split at hd;(cases hd;exact h2);cases hd
 ·exact ho _ _ _ _ _ h
end
end Go.Kk.KkLN
