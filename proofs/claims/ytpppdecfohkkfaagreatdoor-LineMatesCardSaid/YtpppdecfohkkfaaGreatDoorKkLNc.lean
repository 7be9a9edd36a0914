/- Printed by a tool of this project (KkGen): the program's functions come to the plain ones. -/
import Derived.Test.YtpppdecfohkkfaaGreatDoorKkLNb
namespace Go.Kk.KkLN
noncomputable section
open Go.Proofs Go.Kk.Pl
set_option maxRecDepth 100000
set_option maxHeartbeats 4000000
def qPI:Ex->List V->List Obj->Option (LI×LI×Int×LL×LL×Int×Int×Int×Int):=fun e vs objs=>match e,vs,objs with
 | .exit 0,[.s (.ptr 1 0 none 0),.s (.ptr 2 0 none 0)],[.rcells 72 [.arr .i8 81 y0,.arr .i8 16 y1,.one [.i .i8 y2],.rows [.i .u64,.i .u64] 32 y3,.rows [.i .u64,.i .u64] 2 y4],.cells 68 [.one [.i .u64 y5,.i .u64 y6]],.cells 68 [.one [.i .u64 y7,.i .u64 y8]]]=>some (y0,y1,y2,y3,y4,y5,y6,y7,y8)
 | _,_,_=>none
def qPK:HL:=fun vs objs K=>match vs,objs with
 | [.s (.ptr 0 0 none 0),.s (.i .i64 x0),.s (.i .i64 x1),.s (.ptr 1 0 none 0),.s (.i .i8 x2),.s (.ptr 2 0 none 0),.s (.sl 3 0 x3 true),.s (.i .i64 x4),.s (.i .i64 x5)],[.rcells 72 [.arr .i8 81 x6,.arr .i8 16 x7,.one [.i .i8 x8],.rows [.i .u64,.i .u64] 32 x9,.rows [.i .u64,.i .u64] 2 x10],.cells 68 [.one [.i .u64 x11,.i .u64 x12]],.cells 68 [.one [.i .u64 x13,.i .u64 x14]],.sli 3 false (.arr .i64 x15 x16)]=>ob (qDf qB x0 x1 x2 x3 x4 x5 x6 x7 x8 x9 x10 x11 x12 x13 x14 x15 x16) fun z=>K (.exit 0) ([.s (.ptr 1 0 none 0),.s (.ptr 2 0 none 0)]) ([.rcells 72 [.arr .i8 81 (z.1),.arr .i8 16 (z.2.1),.one [.i .i8 (z.2.2.1)],.rows [.i .u64,.i .u64] 32 (z.2.2.2.1),.rows [.i .u64,.i .u64] 2 (z.2.2.2.2.1)],.cells 68 [.one [.i .u64 (z.2.2.2.2.2.1),.i .u64 (z.2.2.2.2.2.2.1)]],.cells 68 [.one [.i .u64 (z.2.2.2.2.2.2.2.1),.i .u64 (z.2.2.2.2.2.2.2.2)]]])
 | _,_=>none
def qk8:{R:Type}->Nat->List V->List Obj->(Ex->List V->List Obj->Option R)->Option R:=fun q vs objs K=>bif Nat.beq q 6 then qPK vs objs K else none
def qLD:Ctx:=mkC 53 ((qEm (qIb (qFw (qSo (qMs (qGF (qM9 (qJ6 (qej (qHG (qDn qI)))))))))))) [(6,[0,1,2,6,7,8,24,25,26],[6,8])] qk8
theorem qW7:CtxOK Tryz.prog qLD:=mkC_ok ((qF0 _ (qJ4 _ (qGn _ (qec _ (qSk _ (qHE _ (qTA _ (qM1 _ (qtW _ (qI2 _ (qEZ _ qL))))))))))))
def qPJ (f:Nat) (x0 x1 x2:Int) (x3:Nat) (x4 x5:Int) (x6 x7:LI) (x8:Int) (x9 x10:LL) (x11 x12:Int) (x13 x14:Int) (x15:Nat) (x16:LI):Option (LI×LI×Int×LL×LL×Int×Int×Int×Int):=qf qLD 1 [0,1,2,6,7,8,24,25,26] [6,8] (qE Tryz.f134 6) f ([.s (.ptr 0 0 none 0),.s (.i .i64 x0),.s (.i .i64 x1),.s (.ptr 1 0 none 0),.s (.i .i8 x2),.s (.ptr 2 0 none 0),.s (.sl 3 0 x3 true),.s (.i .i64 x4),.s (.i .i64 x5)]) ([.rcells 72 [.arr .i8 81 x6,.arr .i8 16 x7,.one [.i .i8 x8],.rows [.i .u64,.i .u64] 32 x9,.rows [.i .u64,.i .u64] 2 x10],.cells 68 [.one [.i .u64 x11,.i .u64 x12]],.cells 68 [.one [.i .u64 x13,.i .u64 x14]],.sli 3 false (.arr .i64 x15 x16)]) qPI
theorem qk7 (f:Nat) (x0 x1 x2:Int) (x3:Nat) (x4 x5:Int) (x6 x7:LI) (x8:Int) (x9 x10:LL) (x11 x12:Int) (x13 x14:Int) (x15:Nat) (x16:LI):qPJ (f+1) x0 x1 x2 x3 x4 x5 x6 x7 x8 x9 x10 x11 x12 x13 x14 x15 x16=qHc (qPJ f) x0 x1 x2 x3 x4 x5 x6 x7 x8 x9 x10 x11 x12 x13 x14 x15 x16:=by kernel_rfl
theorem qW9:∀ f,qPJ f=qDf f
 | 0=>rfl
 | f+1=>by funext x0 x1 x2 x3 x4 x5 x6 x7 x8 x9 x10 x11 x12 x13 x14 x15 x16;rw[qk7,qW9 f];rfl
theorem qlA:qY Tryz.prog qLD 1 (qE Tryz.f134 6):=
 qg mixed qW7 (qN.of (l':=[]) (by kernel_rfl) trivial) (q:=6) (kin:=[0,1,2,6,7,8,24,25,26]) (kout:=[6,8]) (by kernel_rfl) (by kernel_rfl) fun vs objs K r h=>by
  replace h:qPK vs objs K=some r:=h
  unfold qPK at h
  split at h
  ·skip
   obtain⟨t,h1,h2⟩:=qD h
   rw[<- qW9] at h1
   refine⟨_,qPI,t,qB,h1,fun e vs' objs' hd=>?_⟩
   unfold qPI at hd;split at hd;(cases hd;exact h2);cases hd
  ·cases h
def qW8:V->List Obj->Option (Int×Int):=fun v objs=>match v,objs with
 | .agg [.one [.i .u64 y0,.i .u64 y1]],[]=>some (y0,y1)
 | _,_=>none
theorem qk6 (x0 x1:Int) (x2 x3:LI) (x4:Int) (x5 x6:LL):fnE qLD Tryz.f134 ([.s (.ptr 0 0 none 0),.s (.i .i64 x0),.s (.i .i64 x1)]) ([.rcells 72 [.arr .i8 81 x2,.arr .i8 16 x3,.one [.i .i8 x4],.rows [.i .u64,.i .u64] 32 x5,.rows [.i .u64,.i .u64] 2 x6]]) (qAG 1 qW8)=qJM x0 x1 x2 x3 x4 x5 x6:=by kernel_rfl
def qW6:HA:=fun o vs objs K=>match vs,List.map Obj.toRO objs with
 | [.s (.ptr 0 0 none 0),.s (.i .i64 x0),.s (.i .i64 x1)],[.rcells 72 [.arr .i8 81 x2,.arr .i8 16 x3,.one [.i .i8 x4],.rows [.i .u64,.i .u64] 32 x5,.rows [.i .u64,.i .u64] 2 x6]]=>ob (qJM x0 x1 x2 x3 x4 x5 x6) fun z=>K true (.agg [.one [.i .u64 (z.1),.i .u64 (z.2)]]) ([])
 | _,_=>o 134 vs objs K
def qXA (o:Orc):Orc:=qK 134 (qW6 o) o
theorem qk9:OQ Tryz.prog qXA:=fun _ ho=>qM ho fun vs objs K r h=>by
 unfold qW6 at h
 split at h
 ·skip
  have hq:List.map Obj.toRO objs=_:=(by rename_i hq;first | exact hq | assumption)
  obtain⟨t,h1,h2⟩:=qD h
  refine qAc mixed qW7 (m:=1) (fn:=Tryz.f134) (b:=(Tryz.f134).body.getD .skip) (by kernel_rfl) (by kernel_rfl) (by kernel_rfl) hq (by kernel_rfl) (by kernel_rfl) (qN.of (l':=[qE Tryz.f134 6]) (by kernel_rfl) ⟨qlA,trivial⟩) ((qk6 _ _ _ _ _ _ _).trans h1) fun v objs' hd=>?_
  unfold qW8 at hd;split at hd;(cases hd;exact h2);cases hd
 ·exact ho _ _ _ _ _ h
def qPE:Ex->List V->List Obj->Option (Nat×Int×Int×LI×LI×Int×LL×LL×Int×Int×Nat×LL):=fun e vs objs=>match e,vs,objs with
 | .exit 2,[.s (.ptr 0 0 none 0),.s (.ptr 1 0 none 0),.s (.sl 2 0 y0 true),.s (.i .i64 y1),.s (.i .i64 y2)],[.rcells 72 [.arr .i8 81 y3,.arr .i8 16 y4,.one [.i .i8 y5],.rows [.i .u64,.i .u64] 32 y6,.rows [.i .u64,.i .u64] 2 y7],.cells 68 [.one [.i .u64 y8,.i .u64 y9]],.sli 37 false (.rows [.i .i64,.i .i64,.i .i64,.b] y10 y11)]=>some (y0,y1,y2,y3,y4,y5,y6,y7,y8,y9,y10,y11)
 | _,_,_=>none
def qPC:Ex->List V->List Obj->Option (Nat×LI×LI×Int×LL×LL×Nat×LL):=fun e vs objs=>match e,vs,objs with
 | .exit 0,[.s (.sl 1 0 y0 true)],[.rcells 72 [.arr .i8 81 y1,.arr .i8 16 y2,.one [.i .i8 y3],.rows [.i .u64,.i .u64] 32 y4,.rows [.i .u64,.i .u64] 2 y5],.sli 37 false (.rows [.i .i64,.i .i64,.i .i64,.b] y6 y7)]=>some (y0,y1,y2,y3,y4,y5,y6,y7)
 | _,_,_=>none
def qPH:HL:=fun vs objs K=>match vs,objs with
 | [.s (.ptr 0 0 none 0),.s (.ptr 1 0 none 0),.s (.sl 2 0 x0 true),.s (.i .i64 x1),.s (.i .i64 x2),.s (.sl 3 0 x3 true),.s (.i .i64 x4),.s (.i .i64 x5)],[.rcells 72 [.arr .i8 81 x6,.arr .i8 16 x7,.one [.i .i8 x8],.rows [.i .u64,.i .u64] 32 x9,.rows [.i .u64,.i .u64] 2 x10],.cells 68 [.one [.i .u64 x11,.i .u64 x12]],.sli 37 false (.rows [.i .i64,.i .i64,.i .i64,.b] x13 x14),.sli 3 false (.arr .i64 x15 x16)]=>ob (qFJ qB x0 x1 x2 x3 x4 x5 x6 x7 x8 x9 x10 x11 x12 x13 x14 x15 x16) fun z=>K (.exit 2) ([.s (.ptr 0 0 none 0),.s (.ptr 1 0 none 0),.s (.sl 2 0 (z.1) true),.s (.i .i64 (z.2.1)),.s (.i .i64 (z.2.2.1))]) ([.rcells 72 [.arr .i8 81 (z.2.2.2.1),.arr .i8 16 (z.2.2.2.2.1),.one [.i .i8 (z.2.2.2.2.2.1)],.rows [.i .u64,.i .u64] 32 (z.2.2.2.2.2.2.1),.rows [.i .u64,.i .u64] 2 (z.2.2.2.2.2.2.2.1)],.cells 68 [.one [.i .u64 (z.2.2.2.2.2.2.2.2.1),.i .u64 (z.2.2.2.2.2.2.2.2.2.1)]],.sli 37 false (.rows [.i .i64,.i .i64,.i .i64,.b] (z.2.2.2.2.2.2.2.2.2.2.1) (z.2.2.2.2.2.2.2.2.2.2.2))])
 | _,_=>none
def qPG:HL:=fun vs objs K=>match vs,objs with
 | [.s (.ptr 0 0 none 0),.s (.ptr 1 0 none 0),.s (.sl 2 0 x0 true),.s (.i .i64 x1),.s (.i .i64 x2)],[.rcells 72 [.arr .i8 81 x3,.arr .i8 16 x4,.one [.i .i8 x5],.rows [.i .u64,.i .u64] 32 x6,.rows [.i .u64,.i .u64] 2 x7],.cells 68 [.one [.i .u64 x8,.i .u64 x9]],.sli 37 false (.rows [.i .i64,.i .i64,.i .i64,.b] x10 x11)]=>ob (qFI qB x0 x1 x2 x3 x4 x5 x6 x7 x8 x9 x10 x11) fun z=>K (.exit 0) ([.s (.sl 1 0 (z.1) true)]) ([.rcells 72 [.arr .i8 81 (z.2.1),.arr .i8 16 (z.2.2.1),.one [.i .i8 (z.2.2.2.1)],.rows [.i .u64,.i .u64] 32 (z.2.2.2.2.1),.rows [.i .u64,.i .u64] 2 (z.2.2.2.2.2.1)],.sli 37 false (.rows [.i .i64,.i .i64,.i .i64,.b] (z.2.2.2.2.2.2.1) (z.2.2.2.2.2.2.2))])
 | _,_=>none
def qk2:{R:Type}->Nat->List V->List Obj->(Ex->List V->List Obj->Option R)->Option R:=fun q vs objs K=>bif Nat.beq q 8 then qPH vs objs K else bif Nat.beq q 4 then qPG vs objs K else none
def qHZ:Ctx:=mkC 45 ((qJ6 (qFw (qXA (qKg qI))))) [(4,[0,3,5,6,7],[5]),(8,[0,3,5,6,7,31,32,33],[0,3,5,6,7])] qk2
theorem qPB:CtxOK Tryz.prog qHZ:=mkC_ok ((qM1 _ (qGn _ (qk9 _ (qOD _ qL)))))
def qPF (f:Nat) (x0:Nat) (x1 x2:Int) (x3:Nat) (x4 x5:Int) (x6 x7:LI) (x8:Int) (x9 x10:LL) (x11 x12:Int) (x13:Nat) (x14:LL) (x15:Nat) (x16:LI):Option (Nat×Int×Int×LI×LI×Int×LL×LL×Int×Int×Nat×LL):=qf qHZ 1 [0,3,5,6,7,31,32,33] [0,3,5,6,7] (qE Tryz.f99 8) f ([.s (.ptr 0 0 none 0),.s (.ptr 1 0 none 0),.s (.sl 2 0 x0 true),.s (.i .i64 x1),.s (.i .i64 x2),.s (.sl 3 0 x3 true),.s (.i .i64 x4),.s (.i .i64 x5)]) ([.rcells 72 [.arr .i8 81 x6,.arr .i8 16 x7,.one [.i .i8 x8],.rows [.i .u64,.i .u64] 32 x9,.rows [.i .u64,.i .u64] 2 x10],.cells 68 [.one [.i .u64 x11,.i .u64 x12]],.sli 37 false (.rows [.i .i64,.i .i64,.i .i64,.b] x13 x14),.sli 3 false (.arr .i64 x15 x16)]) qPE
theorem qk1 (f:Nat) (x0:Nat) (x1 x2:Int) (x3:Nat) (x4 x5:Int) (x6 x7:LI) (x8:Int) (x9 x10:LL) (x11 x12:Int) (x13:Nat) (x14:LL) (x15:Nat) (x16:LI):qPF (f+1) x0 x1 x2 x3 x4 x5 x6 x7 x8 x9 x10 x11 x12 x13 x14 x15 x16=qHb (qPF f) x0 x1 x2 x3 x4 x5 x6 x7 x8 x9 x10 x11 x12 x13 x14 x15 x16:=by kernel_rfl
theorem qW4:∀ f,qPF f=qFJ f
 | 0=>rfl
 | f+1=>by funext x0 x1 x2 x3 x4 x5 x6 x7 x8 x9 x10 x11 x12 x13 x14 x15 x16;rw[qk1,qW4 f];rfl
def qPD (f:Nat) (x0:Nat) (x1 x2:Int) (x3 x4:LI) (x5:Int) (x6 x7:LL) (x8 x9:Int) (x10:Nat) (x11:LL):Option (Nat×LI×LI×Int×LL×LL×Nat×LL):=qf qHZ 1 [0,3,5,6,7] [5] (qE Tryz.f99 4) f ([.s (.ptr 0 0 none 0),.s (.ptr 1 0 none 0),.s (.sl 2 0 x0 true),.s (.i .i64 x1),.s (.i .i64 x2)]) ([.rcells 72 [.arr .i8 81 x3,.arr .i8 16 x4,.one [.i .i8 x5],.rows [.i .u64,.i .u64] 32 x6,.rows [.i .u64,.i .u64] 2 x7],.cells 68 [.one [.i .u64 x8,.i .u64 x9]],.sli 37 false (.rows [.i .i64,.i .i64,.i .i64,.b] x10 x11)]) qPC
theorem qk0 (f:Nat) (x0:Nat) (x1 x2:Int) (x3 x4:LI) (x5:Int) (x6 x7:LL) (x8 x9:Int) (x10:Nat) (x11:LL):qPD (f+1) x0 x1 x2 x3 x4 x5 x6 x7 x8 x9 x10 x11=qHa (qPD f) x0 x1 x2 x3 x4 x5 x6 x7 x8 x9 x10 x11:=by kernel_rfl
theorem qW3:∀ f,qPD f=qFI f
 | 0=>rfl
 | f+1=>by funext x0 x1 x2 x3 x4 x5 x6 x7 x8 x9 x10 x11;rw[qk0,qW3 f];rfl
theorem qk5:qY Tryz.prog qHZ 1 (qE Tryz.f99 8):=
 qg mixed qPB (qN.of (l':=[]) (by kernel_rfl) trivial) (q:=8) (kin:=[0,3,5,6,7,31,32,33]) (kout:=[0,3,5,6,7]) (by kernel_rfl) (by kernel_rfl) fun vs objs K r h=>by
  replace h:qPH vs objs K=some r:=h
  unfold qPH at h
  split at h
  ·skip
   obtain⟨t,h1,h2⟩:=qD h
   rw[<- qW4] at h1
   refine⟨_,qPE,t,qB,h1,fun e vs' objs' hd=>?_⟩
   unfold qPE at hd;split at hd;(cases hd;exact h2);cases hd
  ·cases h
theorem qk4:qY Tryz.prog qHZ 1 (qE Tryz.f99 4):=
 qg mixed qPB (qN.of (l':=[qE Tryz.f99 8]) (by kernel_rfl) ⟨qk5,trivial⟩) (q:=4) (kin:=[0,3,5,6,7]) (kout:=[5]) (by kernel_rfl) (by kernel_rfl) fun vs objs K r h=>by
  replace h:qPG vs objs K=some r:=h
  unfold qPG at h
  split at h
  ·skip
   obtain⟨t,h1,h2⟩:=qD h
   rw[<- qW3] at h1
   refine⟨_,qPC,t,qB,h1,fun e vs' objs' hd=>?_⟩
   unfold qPC at hd;split at hd;(cases hd;exact h2);cases hd
  ·cases h
def qW2:V->List Obj->Option (Nat×Nat×LL):=fun v objs=>match v,objs with
 | .s (.sl 1 0 y0 true),[.sli 37 false (.rows [.i .i64,.i .i64,.i .i64,.b] y1 y2)]=>some (y0,y1,y2)
 | _,_=>none
theorem qkz (x0 x1:Int) (x2 x3:LI) (x4:Int) (x5 x6:LL):fnE qHZ Tryz.f99 ([.s (.ptr 0 0 none 0),.agg [.one [.i .u64 x0,.i .u64 x1]]]) ([.rcells 72 [.arr .i8 81 x2,.arr .i8 16 x3,.one [.i .i8 x4],.rows [.i .u64,.i .u64] 32 x5,.rows [.i .u64,.i .u64] 2 x6]]) (qAG 1 qW2)=qJL x0 x1 x2 x3 x4 x5 x6:=by kernel_rfl
def qW1:HA:=fun o vs objs K=>match vs,List.map Obj.toRO objs with
 | [.s (.ptr 0 0 none 0),.agg [.one [.i .u64 x0,.i .u64 x1]]],[.rcells 72 [.arr .i8 81 x2,.arr .i8 16 x3,.one [.i .i8 x4],.rows [.i .u64,.i .u64] 32 x5,.rows [.i .u64,.i .u64] 2 x6]]=>ob (qJL x0 x1 x2 x3 x4 x5 x6) fun z=>K true (.s (.sl 1 0 (z.1) true)) ([.sli 37 false (.rows [.i .i64,.i .i64,.i .i64,.b] (z.2.1) (z.2.2))])
 | _,_=>o 99 vs objs K
def qW5 (o:Orc):Orc:=qK 99 (qW1 o) o
theorem qk3:OQ Tryz.prog qW5:=fun _ ho=>qM ho fun vs objs K r h=>by
 unfold qW1 at h
 split at h
 ·skip
  have hq:List.map Obj.toRO objs=_:=(by rename_i hq;first | exact hq | assumption)
  obtain⟨t,h1,h2⟩:=qD h
  refine qAc mixed qPB (m:=1) (fn:=Tryz.f99) (b:=(Tryz.f99).body.getD .skip) (by kernel_rfl) (by kernel_rfl) (by kernel_rfl) hq (by kernel_rfl) (by kernel_rfl) (qN.of (l':=[qE Tryz.f99 4]) (by kernel_rfl) ⟨qk4,trivial⟩) ((qkz _ _ _ _ _ _ _).trans h1) fun v objs' hd=>?_
  unfold qW2 at hd;split at hd;(cases hd;exact h2);cases hd
 ·exact ho _ _ _ _ _ h
def qUs:Ctx:=mkC 7 (qI) [] qU
theorem qiQ:CtxOK Tryz.prog qUs:=mkC_ok (qL)
def qUt:V->List Obj->Option (LI×LI×Int×LL×LL):=fun v objs=>match v,objs with
 | .s (.ptr 1 0 none 0),[.cells 72 [.arr .i8 81 y0,.arr .i8 16 y1,.one [.i .i8 y2],.rows [.i .u64,.i .u64] 32 y3,.rows [.i .u64,.i .u64] 2 y4]]=>some (y0,y1,y2,y3,y4)
 | _,_=>none
theorem qiP (x0 x1:LI) (x2:Int) (x3 x4:LL):fnE qUs Tryz.f135 ([.s (.ptr 0 0 none 0)]) ([.rcells 72 [.arr .i8 81 x0,.arr .i8 16 x1,.one [.i .i8 x2],.rows [.i .u64,.i .u64] 32 x3,.rows [.i .u64,.i .u64] 2 x4]]) (qAG 1 qUt)=qKf x0 x1 x2 x3 x4:=by kernel_rfl
def qUr:HA:=fun o vs objs K=>match vs,List.map Obj.toRO objs with
 | [.s (.ptr 0 0 none 0)],[.rcells 72 [.arr .i8 81 x0,.arr .i8 16 x1,.one [.i .i8 x2],.rows [.i .u64,.i .u64] 32 x3,.rows [.i .u64,.i .u64] 2 x4]]=>ob (qKf x0 x1 x2 x3 x4) fun z=>K true (.s (.ptr 1 0 none 0)) ([.cells 72 [.arr .i8 81 (z.1),.arr .i8 16 (z.2.1),.one [.i .i8 (z.2.2.1)],.rows [.i .u64,.i .u64] 32 (z.2.2.2.1),.rows [.i .u64,.i .u64] 2 (z.2.2.2.2)]])
 | _,_=>o 135 vs objs K
def qUu (o:Orc):Orc:=qK 135 (qUr o) o
theorem qiR:OQ Tryz.prog qUu:=fun _ ho=>qM ho fun vs objs K r h=>by
 unfold qUr at h
 split at h
 ·skip
  have hq:List.map Obj.toRO objs=_:=(by rename_i hq;first | exact hq | assumption)
  obtain⟨t,h1,h2⟩:=qD h
  refine qAc mixed qiQ (m:=1) (fn:=Tryz.f135) (b:=(Tryz.f135).body.getD .skip) (by kernel_rfl) (by kernel_rfl) (by kernel_rfl) hq (by kernel_rfl) (by kernel_rfl) (qN.of (l':=[]) (by kernel_rfl) trivial) ((qiP _ _ _ _ _).trans h1) fun v objs' hd=>?_
  unfold qUt at hd;split at hd;(cases hd;exact h2);cases hd
 ·exact ho _ _ _ _ _ h
def qP4:Ex->List V->List Obj->Option ((Bool×LI×LI×Int×LL×LL)⊕(LI×LI×Int×LL×LL)):=fun e vs objs=>match e,vs,objs with
 | .ret,[.s (.b y0)],[.rcells 72 [.arr .i8 81 y1,.arr .i8 16 y2,.one [.i .i8 y3],.rows [.i .u64,.i .u64] 32 y4,.rows [.i .u64,.i .u64] 2 y5]]=>some (.inl (y0,y1,y2,y3,y4,y5))
 | .exit 0,[.s .bad],[.rcells 72 [.arr .i8 81 y0,.arr .i8 16 y1,.one [.i .i8 y2],.rows [.i .u64,.i .u64] 32 y3,.rows [.i .u64,.i .u64] 2 y4]]=>some (.inr (y0,y1,y2,y3,y4))
 | _,_,_=>none
def qP6:HL:=fun vs objs K=>match vs,objs with
 | [.s (.ptr 1 0 none 0),.s (.sl 2 0 x0 true),.s (.i .i64 x1),.s (.i .i64 x2)],[.rcells 72 [.arr .i8 81 x3,.arr .i8 16 x4,.one [.i .i8 x5],.rows [.i .u64,.i .u64] 32 x6,.rows [.i .u64,.i .u64] 2 x7],.cells 130 [.one [.ptr 3 0 none 0,.i .i64 x8,.i .i64 x9,.i .u64 x10,.i .u64 x11,.mp 4,.b x12]],.sli 37 false (.rows [.i .i64,.i .i64,.i .i64,.b] x13 x14),.cells 72 [.arr .i8 81 x15,.arr .i8 16 x16,.one [.i .i8 x17],.rows [.i .u64,.i .u64] 32 x18,.rows [.i .u64,.i .u64] 2 x19],.map false true [.i .i64] [.i .u64,.i .u64] x20]=>ob (qFV qB x0 x1 x2 x3 x4 x5 x6 x7 x8 x9 x10 x11 x12 x13 x14 x15 x16 x17 x18 x19 x20) fun t0=>sw t0 (fun z=>K (.ret) ([.s (.b (z.1))]) ([.rcells 72 [.arr .i8 81 (z.2.1),.arr .i8 16 (z.2.2.1),.one [.i .i8 (z.2.2.2.1)],.rows [.i .u64,.i .u64] 32 (z.2.2.2.2.1),.rows [.i .u64,.i .u64] 2 (z.2.2.2.2.2)]])) (fun z=>K (.exit 0) ([.s .bad]) ([.rcells 72 [.arr .i8 81 (z.1),.arr .i8 16 (z.2.1),.one [.i .i8 (z.2.2.1)],.rows [.i .u64,.i .u64] 32 (z.2.2.2.1),.rows [.i .u64,.i .u64] 2 (z.2.2.2.2)]]))
 | _,_=>none
def qmS:{R:Type}->Nat->List V->List Obj->(Ex->List V->List Obj->Option R)->Option R:=fun q vs objs K=>bif Nat.beq q 11 then qP6 vs objs K else none
def qLW:Ctx:=mkC 74 ((qP8 (qO8 (qJ3 (qP7 (qGr (qKX (qKk (qUu (qGD (qDn qI))))))))))) [(11,[7,64,65,66],[4])] qmS
theorem qYM:CtxOK Tryz.prog qLW:=mkC_ok ((qYX _ (qW0 _ (qMq _ (qYT _ (qIc _ (qNe _ (qOJ _ (qiR _ (qHB _ (qEZ _ qL)))))))))))
def qP5 (f:Nat) (x0:Nat) (x1 x2:Int) (x3 x4:LI) (x5:Int) (x6 x7:LL) (x8 x9:Int) (x10 x11:Int) (x12:Bool) (x13:Nat) (x14:LL) (x15 x16:LI) (x17:Int) (x18 x19:LL) (x20:List (LI×LI)):Option ((Bool×LI×LI×Int×LL×LL)⊕(LI×LI×Int×LL×LL)):=qf qLW 1 [7,64,65,66] [4] (qE Tryz.f100 11) f ([.s (.ptr 1 0 none 0),.s (.sl 2 0 x0 true),.s (.i .i64 x1),.s (.i .i64 x2)]) ([.rcells 72 [.arr .i8 81 x3,.arr .i8 16 x4,.one [.i .i8 x5],.rows [.i .u64,.i .u64] 32 x6,.rows [.i .u64,.i .u64] 2 x7],.cells 130 [.one [.ptr 3 0 none 0,.i .i64 x8,.i .i64 x9,.i .u64 x10,.i .u64 x11,.mp 4,.b x12]],.sli 37 false (.rows [.i .i64,.i .i64,.i .i64,.b] x13 x14),.cells 72 [.arr .i8 81 x15,.arr .i8 16 x16,.one [.i .i8 x17],.rows [.i .u64,.i .u64] 32 x18,.rows [.i .u64,.i .u64] 2 x19],.map false true [.i .i64] [.i .u64,.i .u64] x20]) qP4
theorem qmR (f:Nat) (x0:Nat) (x1 x2:Int) (x3 x4:LI) (x5:Int) (x6 x7:LL) (x8 x9:Int) (x10 x11:Int) (x12:Bool) (x13:Nat) (x14:LL) (x15 x16:LI) (x17:Int) (x18 x19:LL) (x20:List (LI×LI)):qP5 (f+1) x0 x1 x2 x3 x4 x5 x6 x7 x8 x9 x10 x11 x12 x13 x14 x15 x16 x17 x18 x19 x20=qHo (qP5 f) x0 x1 x2 x3 x4 x5 x6 x7 x8 x9 x10 x11 x12 x13 x14 x15 x16 x17 x18 x19 x20:=by kernel_rfl
theorem qYO:∀ f,qP5 f=qFV f
 | 0=>rfl
 | f+1=>by funext x0 x1 x2 x3 x4 x5 x6 x7 x8 x9 x10 x11 x12 x13 x14 x15 x16 x17 x18 x19 x20;rw[qmR,qYO f];rfl
theorem qmU:qY Tryz.prog qLW 1 (qE Tryz.f100 11):=
 qg mixed qYM (qN.of (l':=[]) (by kernel_rfl) trivial) (q:=11) (kin:=[7,64,65,66]) (kout:=[4]) (by kernel_rfl) (by kernel_rfl) fun vs objs K r h=>by
  replace h:qP6 vs objs K=some r:=h
  unfold qP6 at h
  split at h
  ·skip
   obtain⟨t,h1,h2⟩:=qD h
   rw[<- qYO] at h1
   refine⟨_,qP4,t,qB,h1,fun e vs' objs' hd=>?_⟩
   unfold qP4 at hd
   split at hd
   ·skip
    cases hd
    exact h2
   ·skip
    cases hd
    exact h2
   ·cases hd
  ·cases h
def qYN:V->List Obj->Option (Bool):=fun v objs=>match v,objs with
 | .s (.b y0),[]=>some (y0)
 | _,_=>none
theorem qmQ (x0:Int) (x1 x2:LI) (x3:Int) (x4 x5:LL):fnE qLW Tryz.f100 ([.s (.ptr 0 0 none 0),.s (.i .i64 x0)]) ([.rcells 72 [.arr .i8 81 x1,.arr .i8 16 x2,.one [.i .i8 x3],.rows [.i .u64,.i .u64] 32 x4,.rows [.i .u64,.i .u64] 2 x5]]) (qAG 1 qYN)=qJT x0 x1 x2 x3 x4 x5:=by kernel_rfl
def qYL:HA:=fun o vs objs K=>match vs,List.map Obj.toRO objs with
 | [.s (.ptr 0 0 none 0),.s (.i .i64 x0)],[.rcells 72 [.arr .i8 81 x1,.arr .i8 16 x2,.one [.i .i8 x3],.rows [.i .u64,.i .u64] 32 x4,.rows [.i .u64,.i .u64] 2 x5]]=>ob (qJT x0 x1 x2 x3 x4 x5) fun y0=>K true (.s (.b y0)) ([])
 | _,_=>o 100 vs objs K
def qYP (o:Orc):Orc:=qK 100 (qYL o) o
theorem qmT:OQ Tryz.prog qYP:=fun _ ho=>qM ho fun vs objs K r h=>by
 unfold qYL at h
 split at h
 ·skip
  have hq:List.map Obj.toRO objs=_:=(by rename_i hq;first | exact hq | assumption)
  obtain⟨t,h1,h2⟩:=qD h
  refine qAc mixed qYM (m:=1) (fn:=Tryz.f100) (b:=(Tryz.f100).body.getD .skip) (by kernel_rfl) (by kernel_rfl) (by kernel_rfl) hq (by kernel_rfl) (by kernel_rfl) (qN.of (l':=[qE Tryz.f100 11]) (by kernel_rfl) ⟨qmU,trivial⟩) ((qmQ _ _ _ _ _ _).trans h1) fun v objs' hd=>?_
  unfold qYN at hd;split at hd;(cases hd;exact h2);cases hd
 ·exact ho _ _ _ _ _ h
def qPv:Ex->List V->List Obj->Option (Nat×LI×LI×Int×LL×LL×Int×Int×Int×Int×Bool×Nat×LL×List (LI×LI)):=fun e vs objs=>match e,vs,objs with
 | .exit 0,[.s (.ptr 0 0 none 0),.s (.ptr 1 0 none 0),.s (.sl 2 0 y0 true)],[.cells 72 [.arr .i8 81 y1,.arr .i8 16 y2,.one [.i .i8 y3],.rows [.i .u64,.i .u64] 32 y4,.rows [.i .u64,.i .u64] 2 y5],.cells 130 [.one [.ptr 0 0 none 0,.i .i64 y6,.i .i64 y7,.i .u64 y8,.i .u64 y9,.mp 3,.b y10]],.sli 37 false (.rows [.i .i64,.i .i64,.i .i64,.b] y11 y12),.map false true [.i .i64] [.i .u64,.i .u64] y13]=>some (y0,y1,y2,y3,y4,y5,y6,y7,y8,y9,y10,y11,y12,y13)
 | _,_,_=>none
def qPt:Ex->List V->List Obj->Option (Nat×LI×LI×Int×LL×LL×Nat×LL):=fun e vs objs=>match e,vs,objs with
 | .exit 2,[.s (.sl 1 0 y0 true)],[.cells 72 [.arr .i8 81 y1,.arr .i8 16 y2,.one [.i .i8 y3],.rows [.i .u64,.i .u64] 32 y4,.rows [.i .u64,.i .u64] 2 y5],.sli 37 false (.rows [.i .i64,.i .i64,.i .i64,.b] y6 y7)]=>some (y0,y1,y2,y3,y4,y5,y6,y7)
 | _,_,_=>none
def qPz:HL:=fun vs objs K=>match vs,objs with
 | [.s (.ptr 0 0 none 0),.s (.ptr 1 0 none 0),.s (.sl 2 0 x0 true),.s (.sl 3 0 x1 true),.s (.i .i64 x2),.s (.i .i64 x3)],[.cells 72 [.arr .i8 81 x4,.arr .i8 16 x5,.one [.i .i8 x6],.rows [.i .u64,.i .u64] 32 x7,.rows [.i .u64,.i .u64] 2 x8],.cells 130 [.one [.ptr 0 0 none 0,.i .i64 x9,.i .i64 x10,.i .u64 x11,.i .u64 x12,.mp 4,.b x13]],.sli 37 false (.rows [.i .i64,.i .i64,.i .i64,.b] x14 x15),.sli 37 false (.rows [.i .i64,.i .i64,.i .i64,.b] x16 x17),.map false true [.i .i64] [.i .u64,.i .u64] x18]=>ob (qFT qB x0 x1 x2 x3 x4 x5 x6 x7 x8 x9 x10 x11 x12 x13 x14 x15 x16 x17 x18) fun z=>K (.exit 0) ([.s (.ptr 0 0 none 0),.s (.ptr 1 0 none 0),.s (.sl 2 0 (z.1) true)]) ([.cells 72 [.arr .i8 81 (z.2.1),.arr .i8 16 (z.2.2.1),.one [.i .i8 (z.2.2.2.1)],.rows [.i .u64,.i .u64] 32 (z.2.2.2.2.1),.rows [.i .u64,.i .u64] 2 (z.2.2.2.2.2.1)],.cells 130 [.one [.ptr 0 0 none 0,.i .i64 (z.2.2.2.2.2.2.1),.i .i64 (z.2.2.2.2.2.2.2.1),.i .u64 (z.2.2.2.2.2.2.2.2.1),.i .u64 (z.2.2.2.2.2.2.2.2.2.1),.mp 3,.b (z.2.2.2.2.2.2.2.2.2.2.1)]],.sli 37 false (.rows [.i .i64,.i .i64,.i .i64,.b] (z.2.2.2.2.2.2.2.2.2.2.2.1) (z.2.2.2.2.2.2.2.2.2.2.2.2.1)),.map false true [.i .i64] [.i .u64,.i .u64] (z.2.2.2.2.2.2.2.2.2.2.2.2.2)])
 | _,_=>none
def qPy:HL:=fun vs objs K=>match vs,objs with
 | [.s (.ptr 0 0 none 0),.s (.sl 1 0 x0 true),.s (.sl 2 0 x1 true),.s (.i .i64 x2),.s (.i .i64 x3)],[.cells 72 [.arr .i8 81 x4,.arr .i8 16 x5,.one [.i .i8 x6],.rows [.i .u64,.i .u64] 32 x7,.rows [.i .u64,.i .u64] 2 x8],.sli 37 false (.rows [.i .i64,.i .i64,.i .i64,.b] x9 x10),.sli 37 false (.rows [.i .i64,.i .i64,.i .i64,.b] x11 x12)]=>ob (qET qB x0 x1 x2 x3 x4 x5 x6 x7 x8 x9 x10 x11 x12) fun z=>K (.exit 2) ([.s (.sl 1 0 (z.1) true)]) ([.cells 72 [.arr .i8 81 (z.2.1),.arr .i8 16 (z.2.2.1),.one [.i .i8 (z.2.2.2.1)],.rows [.i .u64,.i .u64] 32 (z.2.2.2.2.1),.rows [.i .u64,.i .u64] 2 (z.2.2.2.2.2.1)],.sli 37 false (.rows [.i .i64,.i .i64,.i .i64,.b] (z.2.2.2.2.2.2.1) (z.2.2.2.2.2.2.2))])
 | _,_=>none
def qmJ:{R:Type}->Nat->List V->List Obj->(Ex->List V->List Obj->Option R)->Option R:=fun q vs objs K=>bif Nat.beq q 4 then qPz vs objs K else bif Nat.beq q 10 then qPy vs objs K else none
def qHk:Ctx:=mkC 51 ((qYP (qW5 (qP8 (qO8 (qJ3 (qP7 qI))))))) [(4,[0,3,4,13,14,15],[0,3,4]),(10,[0,4,30,31,32],[4])] qmJ
theorem qPs:CtxOK Tryz.prog qHk:=mkC_ok ((qmT _ (qk3 _ (qYX _ (qW0 _ (qMq _ (qYT _ qL)))))))
def qPw (f:Nat) (x0 x1:Nat) (x2 x3:Int) (x4 x5:LI) (x6:Int) (x7 x8:LL) (x9 x10:Int) (x11 x12:Int) (x13:Bool) (x14:Nat) (x15:LL) (x16:Nat) (x17:LL) (x18:List (LI×LI)):Option (Nat×LI×LI×Int×LL×LL×Int×Int×Int×Int×Bool×Nat×LL×List (LI×LI)):=qf qHk 1 [0,3,4,13,14,15] [0,3,4] (qE Tryz.f54 4) f ([.s (.ptr 0 0 none 0),.s (.ptr 1 0 none 0),.s (.sl 2 0 x0 true),.s (.sl 3 0 x1 true),.s (.i .i64 x2),.s (.i .i64 x3)]) ([.cells 72 [.arr .i8 81 x4,.arr .i8 16 x5,.one [.i .i8 x6],.rows [.i .u64,.i .u64] 32 x7,.rows [.i .u64,.i .u64] 2 x8],.cells 130 [.one [.ptr 0 0 none 0,.i .i64 x9,.i .i64 x10,.i .u64 x11,.i .u64 x12,.mp 4,.b x13]],.sli 37 false (.rows [.i .i64,.i .i64,.i .i64,.b] x14 x15),.sli 37 false (.rows [.i .i64,.i .i64,.i .i64,.b] x16 x17),.map false true [.i .i64] [.i .u64,.i .u64] x18]) qPv
theorem qmI (f:Nat) (x0 x1:Nat) (x2 x3:Int) (x4 x5:LI) (x6:Int) (x7 x8:LL) (x9 x10:Int) (x11 x12:Int) (x13:Bool) (x14:Nat) (x15:LL) (x16:Nat) (x17:LL) (x18:List (LI×LI)):qPw (f+1) x0 x1 x2 x3 x4 x5 x6 x7 x8 x9 x10 x11 x12 x13 x14 x15 x16 x17 x18=qHm (qPw f) x0 x1 x2 x3 x4 x5 x6 x7 x8 x9 x10 x11 x12 x13 x14 x15 x16 x17 x18:=by kernel_rfl
theorem qYE:∀ f,qPw f=qFT f
 | 0=>rfl
 | f+1=>by funext x0 x1 x2 x3 x4 x5 x6 x7 x8 x9 x10 x11 x12 x13 x14 x15 x16 x17 x18;rw[qmI,qYE f];rfl
def qPu (f:Nat) (x0 x1:Nat) (x2 x3:Int) (x4 x5:LI) (x6:Int) (x7 x8:LL) (x9:Nat) (x10:LL) (x11:Nat) (x12:LL):Option (Nat×LI×LI×Int×LL×LL×Nat×LL):=qf qHk 1 [0,4,30,31,32] [4] (qE Tryz.f54 10) f ([.s (.ptr 0 0 none 0),.s (.sl 1 0 x0 true),.s (.sl 2 0 x1 true),.s (.i .i64 x2),.s (.i .i64 x3)]) ([.cells 72 [.arr .i8 81 x4,.arr .i8 16 x5,.one [.i .i8 x6],.rows [.i .u64,.i .u64] 32 x7,.rows [.i .u64,.i .u64] 2 x8],.sli 37 false (.rows [.i .i64,.i .i64,.i .i64,.b] x9 x10),.sli 37 false (.rows [.i .i64,.i .i64,.i .i64,.b] x11 x12)]) qPt
theorem qmH (f:Nat) (x0 x1:Nat) (x2 x3:Int) (x4 x5:LI) (x6:Int) (x7 x8:LL) (x9:Nat) (x10:LL) (x11:Nat) (x12:LL):qPu (f+1) x0 x1 x2 x3 x4 x5 x6 x7 x8 x9 x10 x11 x12=qHl (qPu f) x0 x1 x2 x3 x4 x5 x6 x7 x8 x9 x10 x11 x12:=by kernel_rfl
theorem qYD:∀ f,qPu f=qET f
 | 0=>rfl
 | f+1=>by funext x0 x1 x2 x3 x4 x5 x6 x7 x8 x9 x10 x11 x12;rw[qmH,qYD f];rfl
theorem qmL:qY Tryz.prog qHk 1 (qE Tryz.f54 4):=
 qg mixed qPs (qN.of (l':=[]) (by kernel_rfl) trivial) (q:=4) (kin:=[0,3,4,13,14,15]) (kout:=[0,3,4]) (by kernel_rfl) (by kernel_rfl) fun vs objs K r h=>by
  replace h:qPz vs objs K=some r:=h
  unfold qPz at h
  split at h
  ·skip
   obtain⟨t,h1,h2⟩:=qD h
   rw[<- qYE] at h1
   refine⟨_,qPv,t,qB,h1,fun e vs' objs' hd=>?_⟩
   unfold qPv at hd;split at hd;(cases hd;exact h2);cases hd
  ·cases h
theorem qmK:qY Tryz.prog qHk 1 (qE Tryz.f54 10):=
 qg mixed qPs (qN.of (l':=[]) (by kernel_rfl) trivial) (q:=10) (kin:=[0,4,30,31,32]) (kout:=[4]) (by kernel_rfl) (by kernel_rfl) fun vs objs K r h=>by
  replace h:qPy vs objs K=some r:=h
  unfold qPy at h
  split at h
  ·skip
   obtain⟨t,h1,h2⟩:=qD h
   rw[<- qYD] at h1
   refine⟨_,qPt,t,qB,h1,fun e vs' objs' hd=>?_⟩
   unfold qPt at hd;split at hd;(cases hd;exact h2);cases hd
  ·cases h
def qYC:V->List Obj->Option (Nat×LI×LI×Int×LL×LL×Nat×LL):=fun v objs=>match v,objs with
 | .s (.sl 1 0 y0 true),[.cells 72 [.arr .i8 81 y1,.arr .i8 16 y2,.one [.i .i8 y3],.rows [.i .u64,.i .u64] 32 y4,.rows [.i .u64,.i .u64] 2 y5],.sli 37 false (.rows [.i .i64,.i .i64,.i .i64,.b] y6 y7)]=>some (y0,y1,y2,y3,y4,y5,y6,y7)
 | _,_=>none
theorem qmG (x0 x1:LI) (x2:Int) (x3 x4:LL):fnE qHk Tryz.f54 ([.s (.ptr 0 0 none 0)]) ([.cells 72 [.arr .i8 81 x0,.arr .i8 16 x1,.one [.i .i8 x2],.rows [.i .u64,.i .u64] 32 x3,.rows [.i .u64,.i .u64] 2 x4]]) qYC=qFS x0 x1 x2 x3 x4:=by kernel_rfl
def qYB:HA:=fun o vs objs K=>match vs,objs with
 | [.s (.ptr 0 0 none 0)],[.cells 72 [.arr .i8 81 x0,.arr .i8 16 x1,.one [.i .i8 x2],.rows [.i .u64,.i .u64] 32 x3,.rows [.i .u64,.i .u64] 2 x4]]=>ob (qFS x0 x1 x2 x3 x4) fun z=>K false (.s (.sl 1 0 (z.1) true)) ([.cells 72 [.arr .i8 81 (z.2.1),.arr .i8 16 (z.2.2.1),.one [.i .i8 (z.2.2.2.1)],.rows [.i .u64,.i .u64] 32 (z.2.2.2.2.1),.rows [.i .u64,.i .u64] 2 (z.2.2.2.2.2.1)],.sli 37 false (.rows [.i .i64,.i .i64,.i .i64,.b] (z.2.2.2.2.2.2.1) (z.2.2.2.2.2.2.2))])
 | _,_=>o 54 vs objs K
def qPx (o:Orc):Orc:=qK 54 (qYB o) o
theorem qYF:OQ Tryz.prog qPx:=fun _ ho=>qM ho fun vs objs K r h=>by
 unfold qYB at h
 split at h
 ·skip
  obtain⟨t,h1,h2⟩:=qD h
  refine q7 mixed qPs (fn:=Tryz.f54) (b:=(Tryz.f54).body.getD .skip) (by kernel_rfl) (by kernel_rfl) (by kernel_rfl) ((qmG _ _ _ _ _).trans h1) (m:=1) rfl (qN.of (l':=[qE Tryz.f54 4,qE Tryz.f54 10]) (by kernel_rfl) ⟨qmL,qmK,trivial⟩) fun v objs' hd=>?_
  unfold qYC at hd;split at hd;(cases hd;exact h2);cases hd
 ·exact ho _ _ _ _ _ h
def qP0:Ex->List V->List Obj->Option ((Bool×LI×LI×Int×LL×LL)⊕(LI×LI×Int×LL×LL)):=fun e vs objs=>match e,vs,objs with
 | .ret,[.s (.b y0)],[.cells 72 [.arr .i8 81 y1,.arr .i8 16 y2,.one [.i .i8 y3],.rows [.i .u64,.i .u64] 32 y4,.rows [.i .u64,.i .u64] 2 y5]]=>some (.inl (y0,y1,y2,y3,y4,y5))
 | .exit 0,[.s .bad],[.cells 72 [.arr .i8 81 y0,.arr .i8 16 y1,.one [.i .i8 y2],.rows [.i .u64,.i .u64] 32 y3,.rows [.i .u64,.i .u64] 2 y4]]=>some (.inr (y0,y1,y2,y3,y4))
 | _,_,_=>none
def qP3:HL:=fun vs objs K=>match vs,objs with
 | [.s (.ptr 1 0 none 0),.s (.sl 2 0 x0 true),.s (.i .i64 x1),.s (.i .i64 x2)],[.cells 72 [.arr .i8 81 x3,.arr .i8 16 x4,.one [.i .i8 x5],.rows [.i .u64,.i .u64] 32 x6,.rows [.i .u64,.i .u64] 2 x7],.cells 37 [.one [.i .i64 x8,.i .i64 x9,.i .i64 x10,.b x11]],.sli 37 false (.rows [.i .i64,.i .i64,.i .i64,.b] x12 x13)]=>ob (qFU qB x0 x1 x2 x3 x4 x5 x6 x7 x8 x9 x10 x11 x12 x13) fun t0=>sw t0 (fun z=>K (.ret) ([.s (.b (z.1))]) ([.cells 72 [.arr .i8 81 (z.2.1),.arr .i8 16 (z.2.2.1),.one [.i .i8 (z.2.2.2.1)],.rows [.i .u64,.i .u64] 32 (z.2.2.2.2.1),.rows [.i .u64,.i .u64] 2 (z.2.2.2.2.2)]])) (fun z=>K (.exit 0) ([.s .bad]) ([.cells 72 [.arr .i8 81 (z.1),.arr .i8 16 (z.2.1),.one [.i .i8 (z.2.2.1)],.rows [.i .u64,.i .u64] 32 (z.2.2.2.1),.rows [.i .u64,.i .u64] 2 (z.2.2.2.2)]]))
 | _,_=>none
def qmO:{R:Type}->Nat->List V->List Obj->(Ex->List V->List Obj->Option R)->Option R:=fun q vs objs K=>bif Nat.beq q 2 then qP3 vs objs K else none
def qLV:Ctx:=mkC 18 ((qPx qI)) [(2,[3,8,9,10],[4])] qmO
theorem qYH:CtxOK Tryz.prog qLV:=mkC_ok ((qYF _ qL))
def qP1 (f:Nat) (x0:Nat) (x1 x2:Int) (x3 x4:LI) (x5:Int) (x6 x7:LL) (x8 x9 x10:Int) (x11:Bool) (x12:Nat) (x13:LL):Option ((Bool×LI×LI×Int×LL×LL)⊕(LI×LI×Int×LL×LL)):=qf qLV 1 [3,8,9,10] [4] (qE Tryz.f25 2) f ([.s (.ptr 1 0 none 0),.s (.sl 2 0 x0 true),.s (.i .i64 x1),.s (.i .i64 x2)]) ([.cells 72 [.arr .i8 81 x3,.arr .i8 16 x4,.one [.i .i8 x5],.rows [.i .u64,.i .u64] 32 x6,.rows [.i .u64,.i .u64] 2 x7],.cells 37 [.one [.i .i64 x8,.i .i64 x9,.i .i64 x10,.b x11]],.sli 37 false (.rows [.i .i64,.i .i64,.i .i64,.b] x12 x13)]) qP0
theorem qmN (f:Nat) (x0:Nat) (x1 x2:Int) (x3 x4:LI) (x5:Int) (x6 x7:LL) (x8 x9 x10:Int) (x11:Bool) (x12:Nat) (x13:LL):qP1 (f+1) x0 x1 x2 x3 x4 x5 x6 x7 x8 x9 x10 x11 x12 x13=qHn (qP1 f) x0 x1 x2 x3 x4 x5 x6 x7 x8 x9 x10 x11 x12 x13:=by kernel_rfl
theorem qYJ:∀ f,qP1 f=qFU f
 | 0=>rfl
 | f+1=>by funext x0 x1 x2 x3 x4 x5 x6 x7 x8 x9 x10 x11 x12 x13;rw[qmN,qYJ f];rfl
theorem qmP:qY Tryz.prog qLV 1 (qE Tryz.f25 2):=
 qg mixed qYH (qN.of (l':=[]) (by kernel_rfl) trivial) (q:=2) (kin:=[3,8,9,10]) (kout:=[4]) (by kernel_rfl) (by kernel_rfl) fun vs objs K r h=>by
  replace h:qP3 vs objs K=some r:=h
  unfold qP3 at h
  split at h
  ·skip
   obtain⟨t,h1,h2⟩:=qD h
   rw[<- qYJ] at h1
   refine⟨_,qP0,t,qB,h1,fun e vs' objs' hd=>?_⟩
   unfold qP0 at hd
   split at hd
   ·skip
    cases hd
    exact h2
   ·skip
    cases hd
    exact h2
   ·cases hd
  ·cases h
def qYI:V->List Obj->Option (Bool×LI×LI×Int×LL×LL):=fun v objs=>match v,objs with
 | .s (.b y0),[.cells 72 [.arr .i8 81 y1,.arr .i8 16 y2,.one [.i .i8 y3],.rows [.i .u64,.i .u64] 32 y4,.rows [.i .u64,.i .u64] 2 y5]]=>some (y0,y1,y2,y3,y4,y5)
 | _,_=>none
theorem qmM (x0 x1 x2:Int) (x3:Bool) (x4 x5:LI) (x6:Int) (x7 x8:LL):fnE qLV Tryz.f25 ([.s (.ptr 0 0 none 0),.agg [.one [.i .i64 x0,.i .i64 x1,.i .i64 x2,.b x3]]]) ([.cells 72 [.arr .i8 81 x4,.arr .i8 16 x5,.one [.i .i8 x6],.rows [.i .u64,.i .u64] 32 x7,.rows [.i .u64,.i .u64] 2 x8]]) qYI=qGR x0 x1 x2 x3 x4 x5 x6 x7 x8:=by kernel_rfl
def qYG:HA:=fun o vs objs K=>match vs,objs with
 | [.s (.ptr 0 0 none 0),.agg [.one [.i .i64 x0,.i .i64 x1,.i .i64 x2,.b x3]]],[.cells 72 [.arr .i8 81 x4,.arr .i8 16 x5,.one [.i .i8 x6],.rows [.i .u64,.i .u64] 32 x7,.rows [.i .u64,.i .u64] 2 x8]]=>ob (qGR x0 x1 x2 x3 x4 x5 x6 x7 x8) fun z=>K false (.s (.b (z.1))) ([.cells 72 [.arr .i8 81 (z.2.1),.arr .i8 16 (z.2.2.1),.one [.i .i8 (z.2.2.2.1)],.rows [.i .u64,.i .u64] 32 (z.2.2.2.2.1),.rows [.i .u64,.i .u64] 2 (z.2.2.2.2.2)]])
 | _,_=>o 25 vs objs K
def qP2 (o:Orc):Orc:=qK 25 (qYG o) o
theorem qYK:OQ Tryz.prog qP2:=fun _ ho=>qM ho fun vs objs K r h=>by
 unfold qYG at h
 split at h
 ·skip
  obtain⟨t,h1,h2⟩:=qD h
  refine q7 mixed qYH (fn:=Tryz.f25) (b:=(Tryz.f25).body.getD .skip) (by kernel_rfl) (by kernel_rfl) (by kernel_rfl) ((qmM _ _ _ _ _ _ _ _ _).trans h1) (m:=1) rfl (qN.of (l':=[qE Tryz.f25 2]) (by kernel_rfl) ⟨qmP,trivial⟩) fun v objs' hd=>?_
  unfold qYI at hd;split at hd;(cases hd;exact h2);cases hd
 ·exact ho _ _ _ _ _ h
def qZd:Ctx:=mkC 48 (qI) [] qU
theorem qnf:CtxOK Tryz.prog qZd:=mkC_ok (qL)
def qZe:V->List Obj->Option (Int):=fun v objs=>match v,objs with
 | .s (.i .i64 y0),[]=>some (y0)
 | _,_=>none
theorem qne (x0 x1 x2:Int) (x3:Bool):fnE qZd Tryz.f73 ([.agg [.one [.i .i64 x0,.i .i64 x1,.i .i64 x2,.b x3]]]) ([]) qZe=qDm x0 x1 x2 x3:=by kernel_rfl
def qZc:HA:=fun o vs objs K=>match vs,objs with
 | [.agg [.one [.i .i64 x0,.i .i64 x1,.i .i64 x2,.b x3]]],[]=>ob (qDm x0 x1 x2 x3) fun y0=>K false (.s (.i .i64 y0)) ([])
 | _,_=>o 73 vs objs K
def qQb (o:Orc):Orc:=qK 73 (qZc o) o
theorem qZf:OQ Tryz.prog qQb:=fun _ ho=>qM ho fun vs objs K r h=>by
 unfold qZc at h
 split at h
 ·skip
  obtain⟨t,h1,h2⟩:=qD h
  refine qX mixed qnf ((qne _ _ _ _).trans h1) (by kernel_rfl) fun v objs' hd=>?_
  unfold qZe at hd;split at hd;(cases hd;exact h2);cases hd
 ·exact ho _ _ _ _ _ h
def qV3:Ctx:=mkC 104 ((qJg (qCv (qDo (qGD (qKg (qQb qI))))))) [] qU
theorem qjt:CtxOK Tryz.prog qV3:=mkC_ok ((qME _ (qDF _ (qEa _ (qHB _ (qOD _ (qZf _ qL)))))))
def qV4:V->List Obj->Option (Bool):=fun v objs=>match v,objs with
 | .s (.b y0),[]=>some (y0)
 | _,_=>none
theorem qjs (x0 x1 x2:Int) (x3:Bool) (x4:Int) (x5:Nat) (x6 x7:LI) (x8:Int) (x9 x10:LL) (x11:Nat) (x12:LL):fnE qV3 Tryz.f55 ([.s (.ptr 0 0 none 0),.agg [.one [.i .i64 x0,.i .i64 x1,.i .i64 x2,.b x3]]]) ([.rcells 66 [.one [.ptr 1 0 none 0,.i .u64 x4,.sl 2 0 x5 true]],.rcells 72 [.arr .i8 81 x6,.arr .i8 16 x7,.one [.i .i8 x8],.rows [.i .u64,.i .u64] 32 x9,.rows [.i .u64,.i .u64] 2 x10],.sli 98 true (.rows [.i .i64,.i .i64,.i .i64,.b,.i .i8,.i .i8] x11 x12)]) (qAG 3 qV4)=qEN x0 x1 x2 x3 x4 x5 x6 x7 x8 x9 x10 x11 x12:=by kernel_rfl
def qV2:HA:=fun o vs objs K=>match vs,List.map Obj.toRO objs with
 | [.s (.ptr 0 0 none 0),.agg [.one [.i .i64 x0,.i .i64 x1,.i .i64 x2,.b x3]]],[.rcells 66 [.one [.ptr 1 0 none 0,.i .u64 x4,.sl 2 0 x5 true]],.rcells 72 [.arr .i8 81 x6,.arr .i8 16 x7,.one [.i .i8 x8],.rows [.i .u64,.i .u64] 32 x9,.rows [.i .u64,.i .u64] 2 x10],.sli 98 true (.rows [.i .i64,.i .i64,.i .i64,.b,.i .i8,.i .i8] x11 x12)]=>ob (qEN x0 x1 x2 x3 x4 x5 x6 x7 x8 x9 x10 x11 x12) fun y0=>K true (.s (.b y0)) ([])
 | _,_=>o 55 vs objs K
def qV5 (o:Orc):Orc:=qK 55 (qV2 o) o
theorem qju:OQ Tryz.prog qV5:=fun _ ho=>qM ho fun vs objs K r h=>by
 unfold qV2 at h
 split at h
 ·skip
  have hq:List.map Obj.toRO objs=_:=(by rename_i hq;first | exact hq | assumption)
  obtain⟨t,h1,h2⟩:=qD h
  refine qAc mixed qjt (m:=3) (fn:=Tryz.f55) (b:=(Tryz.f55).body.getD .skip) (by kernel_rfl) (by kernel_rfl) (by kernel_rfl) hq (by kernel_rfl) (by kernel_rfl) (qN.of (l':=[]) (by kernel_rfl) trivial) ((qjs _ _ _ _ _ _ _ _ _ _ _ _ _).trans h1) fun v objs' hd=>?_
  unfold qV4 at hd;split at hd;(cases hd;exact h2);cases hd
 ·exact ho _ _ _ _ _ h
def qWB:Ctx:=mkC 54 ((qPT (qKg qI))) [] qU
theorem qjy:CtxOK Tryz.prog qWB:=mkC_ok ((qXd _ (qOD _ qL)))
def qWC:V->List Obj->Option (Int×Nat×LI×LI×Int×LL×LL×Nat×LL):=fun v objs=>match v,objs with
 | .tup [],[.cells 66 [.one [.ptr 1 0 none 0,.i .u64 y0,.sl 2 0 y1 true]],.cells 72 [.arr .i8 81 y2,.arr .i8 16 y3,.one [.i .i8 y4],.rows [.i .u64,.i .u64] 32 y5,.rows [.i .u64,.i .u64] 2 y6],.sli 98 false (.rows [.i .i64,.i .i64,.i .i64,.b,.i .i8,.i .i8] y7 y8)]=>some (y0,y1,y2,y3,y4,y5,y6,y7,y8)
 | _,_=>none
theorem qjx (x0 x1:Int) (x2 x3:Int) (x4:Nat) (x5 x6:LI) (x7:Int) (x8 x9:LL) (x10:Nat) (x11:LL):fnE qWB Tryz.f57 ([.s (.ptr 0 0 none 0),.s (.i .i64 x0),.s (.i .i64 x1),.s (.i .i64 x2)]) ([.cells 66 [.one [.ptr 1 0 none 0,.i .u64 x3,.sl 2 0 x4 true]],.cells 72 [.arr .i8 81 x5,.arr .i8 16 x6,.one [.i .i8 x7],.rows [.i .u64,.i .u64] 32 x8,.rows [.i .u64,.i .u64] 2 x9],.sli 98 false (.rows [.i .i64,.i .i64,.i .i64,.b,.i .i8,.i .i8] x10 x11)]) qWC=qDd x0 x1 x2 x3 x4 x5 x6 x7 x8 x9 x10 x11:=by kernel_rfl
def qWA:HA:=fun o vs objs K=>match vs,objs with
 | [.s (.ptr 0 0 none 0),.s (.i .i64 x0),.s (.i .i64 x1),.s (.i .i64 x2)],[.cells 66 [.one [.ptr 1 0 none 0,.i .u64 x3,.sl 2 0 x4 true]],.cells 72 [.arr .i8 81 x5,.arr .i8 16 x6,.one [.i .i8 x7],.rows [.i .u64,.i .u64] 32 x8,.rows [.i .u64,.i .u64] 2 x9],.sli 98 false (.rows [.i .i64,.i .i64,.i .i64,.b,.i .i8,.i .i8] x10 x11)]=>ob (qDd x0 x1 x2 x3 x4 x5 x6 x7 x8 x9 x10 x11) fun z=>K false (.tup []) ([.cells 66 [.one [.ptr 1 0 none 0,.i .u64 (z.1),.sl 2 0 (z.2.1) true]],.cells 72 [.arr .i8 81 (z.2.2.1),.arr .i8 16 (z.2.2.2.1),.one [.i .i8 (z.2.2.2.2.1)],.rows [.i .u64,.i .u64] 32 (z.2.2.2.2.2.1),.rows [.i .u64,.i .u64] 2 (z.2.2.2.2.2.2.1)],.sli 98 false (.rows [.i .i64,.i .i64,.i .i64,.b,.i .i8,.i .i8] (z.2.2.2.2.2.2.2.1) (z.2.2.2.2.2.2.2.2))])
 | _,_=>o 57 vs objs K
def qWD (o:Orc):Orc:=qK 57 (qWA o) o
theorem qjz:OQ Tryz.prog qWD:=fun _ ho=>qM ho fun vs objs K r h=>by
 unfold qWA at h
 split at h
 ·skip
  obtain⟨t,h1,h2⟩:=qD h
  refine qX mixed qjy ((qjx _ _ _ _ _ _ _ _ _ _ _ _).trans h1) (by kernel_rfl) fun v objs' hd=>?_
  unfold qWC at hd;split at hd;(cases hd;exact h2);cases hd
 ·exact ho _ _ _ _ _ h
def qWF:Ctx:=mkC 32 ((qKk (qPd (qGD qI)))) [] qU
theorem qj1:CtxOK Tryz.prog qWF:=mkC_ok ((qOJ _ (qXn _ (qHB _ qL))))
def qWG:V->List Obj->Option (Int×Nat×LI×LI×Int×LL×LL×Nat×LL):=fun v objs=>match v,objs with
 | .tup [],[.cells 66 [.one [.ptr 1 0 none 0,.i .u64 y0,.sl 2 0 y1 true]],.cells 72 [.arr .i8 81 y2,.arr .i8 16 y3,.one [.i .i8 y4],.rows [.i .u64,.i .u64] 32 y5,.rows [.i .u64,.i .u64] 2 y6],.sli 98 false (.rows [.i .i64,.i .i64,.i .i64,.b,.i .i8,.i .i8] y7 y8)]=>some (y0,y1,y2,y3,y4,y5,y6,y7,y8)
 | _,_=>none
theorem qj0 (x0 x1 x2:Int) (x3:Nat) (x4 x5:LI) (x6:Int) (x7 x8:LL) (x9:Nat) (x10:LL):fnE qWF Tryz.f58 ([.s (.ptr 0 0 none 0),.s (.i .i64 x0),.s (.i .i8 x1)]) ([.cells 66 [.one [.ptr 1 0 none 0,.i .u64 x2,.sl 2 0 x3 true]],.cells 72 [.arr .i8 81 x4,.arr .i8 16 x5,.one [.i .i8 x6],.rows [.i .u64,.i .u64] 32 x7,.rows [.i .u64,.i .u64] 2 x8],.sli 98 false (.rows [.i .i64,.i .i64,.i .i64,.b,.i .i8,.i .i8] x9 x10)]) qWG=qCB x0 x1 x2 x3 x4 x5 x6 x7 x8 x9 x10:=by kernel_rfl
def qWE:HA:=fun o vs objs K=>match vs,objs with
 | [.s (.ptr 0 0 none 0),.s (.i .i64 x0),.s (.i .i8 x1)],[.cells 66 [.one [.ptr 1 0 none 0,.i .u64 x2,.sl 2 0 x3 true]],.cells 72 [.arr .i8 81 x4,.arr .i8 16 x5,.one [.i .i8 x6],.rows [.i .u64,.i .u64] 32 x7,.rows [.i .u64,.i .u64] 2 x8],.sli 98 false (.rows [.i .i64,.i .i64,.i .i64,.b,.i .i8,.i .i8] x9 x10)]=>ob (qCB x0 x1 x2 x3 x4 x5 x6 x7 x8 x9 x10) fun z=>K false (.tup []) ([.cells 66 [.one [.ptr 1 0 none 0,.i .u64 (z.1),.sl 2 0 (z.2.1) true]],.cells 72 [.arr .i8 81 (z.2.2.1),.arr .i8 16 (z.2.2.2.1),.one [.i .i8 (z.2.2.2.2.1)],.rows [.i .u64,.i .u64] 32 (z.2.2.2.2.2.1),.rows [.i .u64,.i .u64] 2 (z.2.2.2.2.2.2.1)],.sli 98 false (.rows [.i .i64,.i .i64,.i .i64,.b,.i .i8,.i .i8] (z.2.2.2.2.2.2.2.1) (z.2.2.2.2.2.2.2.2))])
 | _,_=>o 58 vs objs K
def qWH (o:Orc):Orc:=qK 58 (qWE o) o
theorem qj2:OQ Tryz.prog qWH:=fun _ ho=>qM ho fun vs objs K r h=>by
 unfold qWE at h
 split at h
 ·skip
  obtain⟨t,h1,h2⟩:=qD h
  refine qX mixed qj1 ((qj0 _ _ _ _ _ _ _ _ _ _ _).trans h1) (by kernel_rfl) fun v objs' hd=>?_
  unfold qWG at hd;split at hd;(cases hd;exact h2);cases hd
 ·exact ho _ _ _ _ _ h
def qWJ:Ctx:=mkC 26 ((qPe qI)) [] qU
theorem qj4:CtxOK Tryz.prog qWJ:=mkC_ok ((qXr _ qL))
def qWK:V->List Obj->Option (Int×Nat×LI×LI×Int×LL×LL×Nat×LL):=fun v objs=>match v,objs with
 | .tup [],[.cells 66 [.one [.ptr 1 0 none 0,.i .u64 y0,.sl 2 0 y1 true]],.cells 72 [.arr .i8 81 y2,.arr .i8 16 y3,.one [.i .i8 y4],.rows [.i .u64,.i .u64] 32 y5,.rows [.i .u64,.i .u64] 2 y6],.sli 98 false (.rows [.i .i64,.i .i64,.i .i64,.b,.i .i8,.i .i8] y7 y8)]=>some (y0,y1,y2,y3,y4,y5,y6,y7,y8)
 | _,_=>none
theorem qj3 (x0:Int) (x1:Nat) (x2 x3:LI) (x4:Int) (x5 x6:LL) (x7:Nat) (x8:LL):fnE qWJ Tryz.f62 ([.s (.ptr 0 0 none 0)]) ([.cells 66 [.one [.ptr 1 0 none 0,.i .u64 x0,.sl 2 0 x1 true]],.cells 72 [.arr .i8 81 x2,.arr .i8 16 x3,.one [.i .i8 x4],.rows [.i .u64,.i .u64] 32 x5,.rows [.i .u64,.i .u64] 2 x6],.sli 98 false (.rows [.i .i64,.i .i64,.i .i64,.b,.i .i8,.i .i8] x7 x8)]) qWK=qCl x0 x1 x2 x3 x4 x5 x6 x7 x8:=by kernel_rfl
def qWI:HA:=fun o vs objs K=>match vs,objs with
 | [.s (.ptr 0 0 none 0)],[.cells 66 [.one [.ptr 1 0 none 0,.i .u64 x0,.sl 2 0 x1 true]],.cells 72 [.arr .i8 81 x2,.arr .i8 16 x3,.one [.i .i8 x4],.rows [.i .u64,.i .u64] 32 x5,.rows [.i .u64,.i .u64] 2 x6],.sli 98 false (.rows [.i .i64,.i .i64,.i .i64,.b,.i .i8,.i .i8] x7 x8)]=>ob (qCl x0 x1 x2 x3 x4 x5 x6 x7 x8) fun z=>K false (.tup []) ([.cells 66 [.one [.ptr 1 0 none 0,.i .u64 (z.1),.sl 2 0 (z.2.1) true]],.cells 72 [.arr .i8 81 (z.2.2.1),.arr .i8 16 (z.2.2.2.1),.one [.i .i8 (z.2.2.2.2.1)],.rows [.i .u64,.i .u64] 32 (z.2.2.2.2.2.1),.rows [.i .u64,.i .u64] 2 (z.2.2.2.2.2.2.1)],.sli 98 false (.rows [.i .i64,.i .i64,.i .i64,.b,.i .i8,.i .i8] (z.2.2.2.2.2.2.2.1) (z.2.2.2.2.2.2.2.2))])
 | _,_=>o 62 vs objs K
def qWL (o:Orc):Orc:=qK 62 (qWI o) o
theorem qj5:OQ Tryz.prog qWL:=fun _ ho=>qM ho fun vs objs K r h=>by
 unfold qWI at h
 split at h
 ·skip
  obtain⟨t,h1,h2⟩:=qD h
  refine qX mixed qj4 ((qj3 _ _ _ _ _ _ _ _ _).trans h1) (by kernel_rfl) fun v objs' hd=>?_
  unfold qWK at hd;split at hd;(cases hd;exact h2);cases hd
 ·exact ho _ _ _ _ _ h
def qV7:Ctx:=mkC 97 ((qMC (qJg (qCv (qWL (qWH (qWD (qDn (qGD (qV5 qI)))))))))) [] qU
theorem qjw:CtxOK Tryz.prog qV7:=mkC_ok ((qQx _ (qME _ (qDF _ (qj5 _ (qj2 _ (qjz _ (qEZ _ (qHB _ (qju _ qL))))))))))
def qV8:V->List Obj->Option ((Bool×Int×Nat×LI×LI×Int×LL×LL×Nat×LL)⊕(Bool×Int×Nat×LI×LI×Int×LL×LL×Nat×LL)):=fun v objs=>match v,objs with
 | .s (.b y0),[.cells 66 [.one [.ptr 1 0 none 0,.i .u64 y1,.sl 2 0 y2 true]],.cells 72 [.arr .i8 81 y3,.arr .i8 16 y4,.one [.i .i8 y5],.rows [.i .u64,.i .u64] 32 y6,.rows [.i .u64,.i .u64] 2 y7],.sli 98 false (.rows [.i .i64,.i .i64,.i .i64,.b,.i .i8,.i .i8] y8 y9)]=>some (.inl (y0,y1,y2,y3,y4,y5,y6,y7,y8,y9))
 | .s (.b y0),[.cells 66 [.one [.ptr 1 0 none 0,.i .u64 y1,.sl 3 0 y2 true]],.cells 72 [.arr .i8 81 y3,.arr .i8 16 y4,.one [.i .i8 y5],.rows [.i .u64,.i .u64] 32 y6,.rows [.i .u64,.i .u64] 2 y7],Obj.dead,.sli 98 false (.rows [.i .i64,.i .i64,.i .i64,.b,.i .i8,.i .i8] y8 y9)]=>some (.inr (y0,y1,y2,y3,y4,y5,y6,y7,y8,y9))
 | _,_=>none
theorem qjv (x0 x1 x2:Int) (x3:Bool) (x4:Int) (x5:Nat) (x6 x7:LI) (x8:Int) (x9 x10:LL) (x11:Nat) (x12:LL):fnE qV7 Tryz.f26 ([.s (.ptr 0 0 none 0),.agg [.one [.i .i64 x0,.i .i64 x1,.i .i64 x2,.b x3]]]) ([.cells 66 [.one [.ptr 1 0 none 0,.i .u64 x4,.sl 2 0 x5 true]],.cells 72 [.arr .i8 81 x6,.arr .i8 16 x7,.one [.i .i8 x8],.rows [.i .u64,.i .u64] 32 x9,.rows [.i .u64,.i .u64] 2 x10],.sli 98 false (.rows [.i .i64,.i .i64,.i .i64,.b,.i .i8,.i .i8] x11 x12)]) qV8=qCk x0 x1 x2 x3 x4 x5 x6 x7 x8 x9 x10 x11 x12:=by kernel_rfl
def qV6:HA:=fun o vs objs K=>match vs,objs with
 | [.s (.ptr 0 0 none 0),.agg [.one [.i .i64 x0,.i .i64 x1,.i .i64 x2,.b x3]]],[.cells 66 [.one [.ptr 1 0 none 0,.i .u64 x4,.sl 2 0 x5 true]],.cells 72 [.arr .i8 81 x6,.arr .i8 16 x7,.one [.i .i8 x8],.rows [.i .u64,.i .u64] 32 x9,.rows [.i .u64,.i .u64] 2 x10],.sli 98 false (.rows [.i .i64,.i .i64,.i .i64,.b,.i .i8,.i .i8] x11 x12)]=>ob (qCk x0 x1 x2 x3 x4 x5 x6 x7 x8 x9 x10 x11 x12) fun t0=>sw t0 (fun z=>K false (.s (.b (z.1))) ([.cells 66 [.one [.ptr 1 0 none 0,.i .u64 (z.2.1),.sl 2 0 (z.2.2.1) true]],.cells 72 [.arr .i8 81 (z.2.2.2.1),.arr .i8 16 (z.2.2.2.2.1),.one [.i .i8 (z.2.2.2.2.2.1)],.rows [.i .u64,.i .u64] 32 (z.2.2.2.2.2.2.1),.rows [.i .u64,.i .u64] 2 (z.2.2.2.2.2.2.2.1)],.sli 98 false (.rows [.i .i64,.i .i64,.i .i64,.b,.i .i8,.i .i8] (z.2.2.2.2.2.2.2.2.1) (z.2.2.2.2.2.2.2.2.2))])) (fun z=>K false (.s (.b (z.1))) ([.cells 66 [.one [.ptr 1 0 none 0,.i .u64 (z.2.1),.sl 3 0 (z.2.2.1) true]],.cells 72 [.arr .i8 81 (z.2.2.2.1),.arr .i8 16 (z.2.2.2.2.1),.one [.i .i8 (z.2.2.2.2.2.1)],.rows [.i .u64,.i .u64] 32 (z.2.2.2.2.2.2.1),.rows [.i .u64,.i .u64] 2 (z.2.2.2.2.2.2.2.1)],Obj.dead,.sli 98 false (.rows [.i .i64,.i .i64,.i .i64,.b,.i .i8,.i .i8] (z.2.2.2.2.2.2.2.2.1) (z.2.2.2.2.2.2.2.2.2))]))
 | _,_=>o 26 vs objs K
def qOq (o:Orc):Orc:=qK 26 (qV6 o) o
theorem qV9:OQ Tryz.prog qOq:=fun _ ho=>qM ho fun vs objs K r h=>by
 unfold qV6 at h
 split at h
 ·skip
  obtain⟨t,h1,h2⟩:=qD h
  refine qX mixed qjw ((qjv _ _ _ _ _ _ _ _ _ _ _ _ _).trans h1) (by kernel_rfl) fun v objs' hd=>?_
  unfold qV8 at hd
  split at hd
  ·skip
   cases hd
   exact h2
  ·skip
   cases hd
   exact h2
  ·cases hd
 ·exact ho _ _ _ _ _ h
def qQN:Ex->List V->List Obj->Option ((Nat×Int×Int×Nat×LL×LI×LI×Int×Int×Nat×LI×LI×Int×LL×LL×Nat×LL)⊕(Nat×Nat×LL×LI×LI×Int×Int×Nat×LI×LI×Int×LL×LL×Nat×LL)):=fun e vs objs=>match e,vs,objs with
 | .ret,[.s (.sl 0 0 y0 true),.s (.i .i64 y1),.s (.ptr 1 0 none 0),.s (.i .i64 y2),.s (.ptr 2 0 none 0)],[.sli 37 true (.rows [.i .i64,.i .i64,.i .i64,.b] y3 y4),.cells 28 [.arr .i8 81 y5,.arr .i8 16 y6,.one [.i .i8 y7]],.cells 66 [.one [.ptr 3 0 none 0,.i .u64 y8,.sl 4 0 y9 true]],.cells 72 [.arr .i8 81 y10,.arr .i8 16 y11,.one [.i .i8 y12],.rows [.i .u64,.i .u64] 32 y13,.rows [.i .u64,.i .u64] 2 y14],.sli 98 false (.rows [.i .i64,.i .i64,.i .i64,.b,.i .i8,.i .i8] y15 y16)]=>some (.inl (y0,y1,y2,y3,y4,y5,y6,y7,y8,y9,y10,y11,y12,y13,y14,y15,y16))
 | .exit 0,[.s (.sl 0 0 y0 true),.s .bad,.s (.ptr 1 0 none 0),.s .bad,.s (.ptr 2 0 none 0)],[.sli 37 true (.rows [.i .i64,.i .i64,.i .i64,.b] y1 y2),.cells 28 [.arr .i8 81 y3,.arr .i8 16 y4,.one [.i .i8 y5]],.cells 66 [.one [.ptr 3 0 none 0,.i .u64 y6,.sl 4 0 y7 true]],.cells 72 [.arr .i8 81 y8,.arr .i8 16 y9,.one [.i .i8 y10],.rows [.i .u64,.i .u64] 32 y11,.rows [.i .u64,.i .u64] 2 y12],.sli 98 false (.rows [.i .i64,.i .i64,.i .i64,.b,.i .i8,.i .i8] y13 y14)]=>some (.inr (y0,y1,y2,y3,y4,y5,y6,y7,y8,y9,y10,y11,y12,y13,y14))
 | _,_,_=>none
def qQP:HL:=fun vs objs K=>match vs,objs with
 | [.s (.sl 0 0 x0 true),.s (.ptr 1 0 none 0),.s (.ptr 2 0 none 0),.s (.sl 0 0 x1 true),.s (.i .i64 x2),.s (.i .i64 x3)],[.sli 37 true (.rows [.i .i64,.i .i64,.i .i64,.b] x4 x5),.cells 28 [.arr .i8 81 x6,.arr .i8 16 x7,.one [.i .i8 x8]],.cells 66 [.one [.ptr 3 0 none 0,.i .u64 x9,.sl 4 0 x10 true]],.cells 72 [.arr .i8 81 x11,.arr .i8 16 x12,.one [.i .i8 x13],.rows [.i .u64,.i .u64] 32 x14,.rows [.i .u64,.i .u64] 2 x15],.sli 98 false (.rows [.i .i64,.i .i64,.i .i64,.b,.i .i8,.i .i8] x16 x17)]=>ob (qLe qB x0 x1 x2 x3 x4 x5 x6 x7 x8 x9 x10 x11 x12 x13 x14 x15 x16 x17) fun t0=>sw t0 (fun z=>K (.ret) ([.s (.sl 0 0 (z.1) true),.s (.i .i64 (z.2.1)),.s (.ptr 1 0 none 0),.s (.i .i64 (z.2.2.1)),.s (.ptr 2 0 none 0)]) ([.sli 37 true (.rows [.i .i64,.i .i64,.i .i64,.b] (z.2.2.2.1) (z.2.2.2.2.1)),.cells 28 [.arr .i8 81 (z.2.2.2.2.2.1),.arr .i8 16 (z.2.2.2.2.2.2.1),.one [.i .i8 (z.2.2.2.2.2.2.2.1)]],.cells 66 [.one [.ptr 3 0 none 0,.i .u64 (z.2.2.2.2.2.2.2.2.1),.sl 4 0 (z.2.2.2.2.2.2.2.2.2.1) true]],.cells 72 [.arr .i8 81 (z.2.2.2.2.2.2.2.2.2.2.1),.arr .i8 16 (z.2.2.2.2.2.2.2.2.2.2.2.1),.one [.i .i8 (z.2.2.2.2.2.2.2.2.2.2.2.2.1)],.rows [.i .u64,.i .u64] 32 (z.2.2.2.2.2.2.2.2.2.2.2.2.2.1),.rows [.i .u64,.i .u64] 2 (z.2.2.2.2.2.2.2.2.2.2.2.2.2.2.1)],.sli 98 false (.rows [.i .i64,.i .i64,.i .i64,.b,.i .i8,.i .i8] (z.2.2.2.2.2.2.2.2.2.2.2.2.2.2.2.1) (z.2.2.2.2.2.2.2.2.2.2.2.2.2.2.2.2))])) (fun z=>K (.exit 0) ([.s (.sl 0 0 (z.1) true),.s .bad,.s (.ptr 1 0 none 0),.s .bad,.s (.ptr 2 0 none 0)]) ([.sli 37 true (.rows [.i .i64,.i .i64,.i .i64,.b] (z.2.1) (z.2.2.1)),.cells 28 [.arr .i8 81 (z.2.2.2.1),.arr .i8 16 (z.2.2.2.2.1),.one [.i .i8 (z.2.2.2.2.2.1)]],.cells 66 [.one [.ptr 3 0 none 0,.i .u64 (z.2.2.2.2.2.2.1),.sl 4 0 (z.2.2.2.2.2.2.2.1) true]],.cells 72 [.arr .i8 81 (z.2.2.2.2.2.2.2.2.1),.arr .i8 16 (z.2.2.2.2.2.2.2.2.2.1),.one [.i .i8 (z.2.2.2.2.2.2.2.2.2.2.1)],.rows [.i .u64,.i .u64] 32 (z.2.2.2.2.2.2.2.2.2.2.2.1),.rows [.i .u64,.i .u64] 2 (z.2.2.2.2.2.2.2.2.2.2.2.2.1)],.sli 98 false (.rows [.i .i64,.i .i64,.i .i64,.b,.i .i8,.i .i8] (z.2.2.2.2.2.2.2.2.2.2.2.2.2.1) (z.2.2.2.2.2.2.2.2.2.2.2.2.2.2))]))
 | _,_=>none
def qmy:{R:Type}->Nat->List V->List Obj->(Ex->List V->List Obj->Option R)->Option R:=fun q vs objs K=>bif Nat.beq q 6 then qQP vs objs K else none
def qLd:Ctx:=mkC 54 ((qOq (qP2 (qOr (qNf qI))))) [(6,[1,5,8,19,20,21],[1,4,5,6,8])] qmy
theorem qYw:CtxOK Tryz.prog qLd:=mkC_ok ((qV9 _ (qYK _ (qWP _ (qUI _ qL)))))
def qQO (f:Nat) (x0 x1:Nat) (x2 x3:Int) (x4:Nat) (x5:LL) (x6 x7:LI) (x8 x9:Int) (x10:Nat) (x11 x12:LI) (x13:Int) (x14 x15:LL) (x16:Nat) (x17:LL):Option ((Nat×Int×Int×Nat×LL×LI×LI×Int×Int×Nat×LI×LI×Int×LL×LL×Nat×LL)⊕(Nat×Nat×LL×LI×LI×Int×Int×Nat×LI×LI×Int×LL×LL×Nat×LL)):=qf qLd 1 [1,5,8,19,20,21] [1,4,5,6,8] (qE Tryz.f9 6) f ([.s (.sl 0 0 x0 true),.s (.ptr 1 0 none 0),.s (.ptr 2 0 none 0),.s (.sl 0 0 x1 true),.s (.i .i64 x2),.s (.i .i64 x3)]) ([.sli 37 true (.rows [.i .i64,.i .i64,.i .i64,.b] x4 x5),.cells 28 [.arr .i8 81 x6,.arr .i8 16 x7,.one [.i .i8 x8]],.cells 66 [.one [.ptr 3 0 none 0,.i .u64 x9,.sl 4 0 x10 true]],.cells 72 [.arr .i8 81 x11,.arr .i8 16 x12,.one [.i .i8 x13],.rows [.i .u64,.i .u64] 32 x14,.rows [.i .u64,.i .u64] 2 x15],.sli 98 false (.rows [.i .i64,.i .i64,.i .i64,.b,.i .i8,.i .i8] x16 x17)]) qQN
theorem qmx (f:Nat) (x0 x1:Nat) (x2 x3:Int) (x4:Nat) (x5:LL) (x6 x7:LI) (x8 x9:Int) (x10:Nat) (x11 x12:LI) (x13:Int) (x14 x15:LL) (x16:Nat) (x17:LL):qQO (f+1) x0 x1 x2 x3 x4 x5 x6 x7 x8 x9 x10 x11 x12 x13 x14 x15 x16 x17=qYz (qQO f) x0 x1 x2 x3 x4 x5 x6 x7 x8 x9 x10 x11 x12 x13 x14 x15 x16 x17:=by kernel_rfl
theorem qYy:∀ f,qQO f=qLe f
 | 0=>rfl
 | f+1=>by funext x0 x1 x2 x3 x4 x5 x6 x7 x8 x9 x10 x11 x12 x13 x14 x15 x16 x17;rw[qmx,qYy f];rfl
theorem qm0:qY Tryz.prog qLd 1 (qE Tryz.f9 6):=
 qg mixed qYw (qN.of (l':=[]) (by kernel_rfl) trivial) (q:=6) (kin:=[1,5,8,19,20,21]) (kout:=[1,4,5,6,8]) (by kernel_rfl) (by kernel_rfl) fun vs objs K r h=>by
  replace h:qQP vs objs K=some r:=h
  unfold qQP at h
  split at h
  ·skip
   obtain⟨t,h1,h2⟩:=qD h
   rw[<- qYy] at h1
   refine⟨_,qQN,t,qB,h1,fun e vs' objs' hd=>?_⟩
   unfold qQN at hd
   split at hd
   ·skip
    cases hd
    exact h2
   ·skip
    cases hd
    exact h2
   ·cases hd
  ·cases h
def qYx:V->List Obj->Option (Int×LI×LI×Int×Int):=fun v objs=>match v,objs with
 | .tup [W.s (.i .i64 y0),W.agg [.arr .i8 81 y1,.arr .i8 16 y2,.one [.i .i8 y3]],W.s (.i .i64 y4)],[]=>some (y0,y1,y2,y3,y4)
 | _,_=>none
theorem qmr (x0 x1:LI) (x2:Int) (x3 x4:Nat) (x5:LL):fnE qLd Tryz.f9 ([.agg [.arr .i8 81 x0,.arr .i8 16 x1,.one [.i .i8 x2]],.s (.sl 0 0 x3 true)]) ([.sli 37 true (.rows [.i .i64,.i .i64,.i .i64,.b] x4 x5)]) (qAG 1 qYx)=qQJ x0 x1 x2 x3 x4 x5:=by kernel_rfl
def qYv:HA:=fun o vs objs K=>match vs,List.map Obj.toRO objs with
 | [.agg [.arr .i8 81 x0,.arr .i8 16 x1,.one [.i .i8 x2]],.s (.sl 0 0 x3 true)],[.sli 37 true (.rows [.i .i64,.i .i64,.i .i64,.b] x4 x5)]=>ob (qQJ x0 x1 x2 x3 x4 x5) fun z=>K true (.tup [W.s (.i .i64 (z.1)),W.agg [.arr .i8 81 (z.2.1),.arr .i8 16 (z.2.2.1),.one [.i .i8 (z.2.2.2.1)]],W.s (.i .i64 (z.2.2.2.2))]) ([])
 | _,_=>o 9 vs objs K
def qY0 (o:Orc):Orc:=qK 9 (qYv o) o
theorem qmz:OQ Tryz.prog qY0:=fun _ ho=>qM ho fun vs objs K r h=>by
 unfold qYv at h
 split at h
 ·skip
  have hq:List.map Obj.toRO objs=_:=(by rename_i hq;first | exact hq | assumption)
  obtain⟨t,h1,h2⟩:=qD h
  refine qAc mixed qYw (m:=1) (fn:=Tryz.f9) (b:=(Tryz.f9).body.getD .skip) (by kernel_rfl) (by kernel_rfl) (by kernel_rfl) hq (by kernel_rfl) (by kernel_rfl) (qN.of (l':=[qE Tryz.f9 6]) (by kernel_rfl) ⟨qm0,trivial⟩) ((qmr _ _ _ _ _ _).trans h1) fun v objs' hd=>?_
  unfold qYx at hd;split at hd;(cases hd;exact h2);cases hd
 ·exact ho _ _ _ _ _ h
def qTs:Ex->List V->List Obj->Option (Int):=fun e vs objs=>match e,vs,objs with
 | .exit 0,[.s (.i .i64 y0)],[]=>some (y0)
 | _,_,_=>none
def qTv:HL:=fun vs objs K=>match vs,objs with
 | [.s (.i .i64 x0),.s (S.it 0)],[Obj.iter x1 x2]=>ob (qNP qB x0 x1 x2) fun y0=>K (.exit 0) ([.s (.i .i64 y0)]) ([])
 | _,_=>none
def qvi:{R:Type}->Nat->List V->List Obj->(Ex->List V->List Obj->Option R)->Option R:=fun q vs objs K=>bif Nat.beq q 2 then qTv vs objs K else none
def qNO:Ctx:=mkC 10 (qI) [(2,[2,4],[2])] qvi
theorem qgi:CtxOK Tryz.prog qNO:=mkC_ok (qL)
def qTt (f:Nat) (x0:Int) (x1:ByteArray) (x2:Nat):Option (Int):=qf qNO 0 [2,4] [2] (qE Tryz.f138 2) f ([.s (.i .i64 x0),.s (S.it 0)]) ([Obj.iter x1 x2]) qTs
theorem qvh (f:Nat) (x0:Int) (x1:ByteArray) (x2:Nat):qTt (f+1) x0 x1 x2=qgl (qTt f) x0 x1 x2:=by kernel_rfl
theorem qgk:∀ f,qTt f=qNP f
 | 0=>rfl
 | f+1=>by funext x0 x1 x2;rw[qvh,qgk f];rfl
theorem qvj:qY Tryz.prog qNO 0 (qE Tryz.f138 2):=
 qg mixed qgi (qN.of (l':=[]) (by kernel_rfl) trivial) (q:=2) (kin:=[2,4]) (kout:=[2]) (by kernel_rfl) (by kernel_rfl) fun vs objs K r h=>by
  replace h:qTv vs objs K=some r:=h
  unfold qTv at h
  split at h
  ·skip
   obtain⟨t,h1,h2⟩:=qD h
   rw[<- qgk] at h1
   refine⟨_,qTs,t,qB,h1,fun e vs' objs' hd=>?_⟩
   unfold qTs at hd;split at hd;(cases hd;exact h2);cases hd
  ·cases h
def qgj:V->List Obj->Option (Int):=fun v objs=>match v,objs with
 | .s (.i .i64 y0),[]=>some (y0)
 | _,_=>none
theorem qvg (x0:ByteArray):fnE qNO Tryz.f138 ([.s (.str x0)]) ([]) qgj=qNN x0:=by kernel_rfl
def qgh:HA:=fun o vs objs K=>match vs,objs with
 | [.s (.str x0)],[]=>ob (qNN x0) fun y0=>K false (.s (.i .i64 y0)) ([])
 | _,_=>o 138 vs objs K
def qTu (o:Orc):Orc:=qK 138 (qgh o) o
theorem qgm:OQ Tryz.prog qTu:=fun _ ho=>qM ho fun vs objs K r h=>by
 unfold qgh at h
 split at h
 ·skip
  obtain⟨t,h1,h2⟩:=qD h
  refine q7 mixed qgi (fn:=Tryz.f138) (b:=(Tryz.f138).body.getD .skip) (by kernel_rfl) (by kernel_rfl) (by kernel_rfl) ((qvg _).trans h1) (m:=0) rfl (qN.of (l':=[qE Tryz.f138 2]) (by kernel_rfl) ⟨qvj,trivial⟩) fun v objs' hd=>?_
  unfold qgj at hd;split at hd;(cases hd;exact h2);cases hd
 ·exact ho _ _ _ _ _ h
def qgo:Ctx:=mkC 117 (qI) [] qU
theorem qvl:CtxOK Tryz.prog qgo:=mkC_ok (qL)
def qgp:V->List Obj->Option (Int×Int):=fun v objs=>match v,objs with
 | .tup [W.s (.i .i32 y0),W.s (.i .i64 y1)],[]=>some (y0,y1)
 | _,_=>none
theorem qvk (x0:ByteArray):fnE qgo Tryz.f154 ([.s (.str x0)]) ([]) qgp=qNQ x0:=by kernel_rfl
def qgn:HA:=fun o vs objs K=>match vs,objs with
 | [.s (.str x0)],[]=>ob (qNQ x0) fun z=>K false (.tup [W.s (.i .i32 (z.1)),W.s (.i .i64 (z.2))]) ([])
 | _,_=>o 154 vs objs K
def qgq (o:Orc):Orc:=qK 154 (qgn o) o
theorem qvm:OQ Tryz.prog qgq:=fun _ ho=>qM ho fun vs objs K r h=>by
 unfold qgn at h
 split at h
 ·skip
  obtain⟨t,h1,h2⟩:=qD h
  refine qX mixed qvl ((qvk _).trans h1) (by kernel_rfl) fun v objs' hd=>?_
  unfold qgp at hd;split at hd;(cases hd;exact h2);cases hd
 ·exact ho _ _ _ _ _ h
def qge:Ctx:=mkC 19 ((qgq qI)) [] qU
theorem qve:CtxOK Tryz.prog qge:=mkC_ok ((qvm _ qL))
def qgf:V->List Obj->Option (Int×Int):=fun v objs=>match v,objs with
 | .tup [W.s (.i .i32 y0),W.s (.i .i64 y1)],[]=>some (y0,y1)
 | _,_=>none
theorem qvd (x0:ByteArray):fnE qge Tryz.f139 ([.s (.str x0)]) ([]) qgf=qTr x0:=by kernel_rfl
def qgd:HA:=fun o vs objs K=>match vs,objs with
 | [.s (.str x0)],[]=>ob (qTr x0) fun z=>K false (.tup [W.s (.i .i32 (z.1)),W.s (.i .i64 (z.2))]) ([])
 | _,_=>o 139 vs objs K
def qgg (o:Orc):Orc:=qK 139 (qgd o) o
theorem qvf:OQ Tryz.prog qgg:=fun _ ho=>qM ho fun vs objs K r h=>by
 unfold qgd at h
 split at h
 ·skip
  obtain⟨t,h1,h2⟩:=qD h
  refine qX mixed qve ((qvd _).trans h1) (by kernel_rfl) fun v objs' hd=>?_
  unfold qgf at hd;split at hd;(cases hd;exact h2);cases hd
 ·exact ho _ _ _ _ _ h
def qTV:Ex->List V->List Obj->Option (ByteArray×Int×Nat×Nat×LL):=fun e vs objs=>match e,vs,objs with
 | .exit 0,[.s (.str y0),.s (.i .i64 y1),.s (.sl 0 0 y2 true)],[.sli 9 false (.rows [CK.s] y3 y4)]=>some (y0,y1,y2,y3,y4)
 | _,_,_=>none
def qTX:HL:=fun vs objs K=>match vs,objs with
 | [.s (.str x0),.s (.i .i64 x1),.s (.sl 0 0 x2 true),.s (.i .i64 x3)],[.sli 9 false (.rows [CK.s] x4 x5)]=>ob (qIo qB x0 x1 x2 x3 x4 x5) fun z=>K (.exit 0) ([.s (.str (z.1)),.s (.i .i64 (z.2.1)),.s (.sl 0 0 (z.2.2.1) true)]) ([.sli 9 false (.rows [CK.s] (z.2.2.2.1) (z.2.2.2.2))])
 | _,_=>none
def qu2:{R:Type}->Nat->List V->List Obj->(Ex->List V->List Obj->Option R)->Option R:=fun q vs objs K=>bif Nat.beq q 6 then qTX vs objs K else none
def qNH:Ctx:=mkC 50 ((qgg (qTu qI))) [(6,[0,1,6,7],[0,1,6])] qu2
theorem qf7:CtxOK Tryz.prog qNH:=mkC_ok ((qvf _ (qgm _ qL)))
def qTW (f:Nat) (x0:ByteArray) (x1:Int) (x2:Nat) (x3:Int) (x4:Nat) (x5:LL):Option (ByteArray×Int×Nat×Nat×LL):=qf qNH 0 [0,1,6,7] [0,1,6] (qE Tryz.f108 6) f ([.s (.str x0),.s (.i .i64 x1),.s (.sl 0 0 x2 true),.s (.i .i64 x3)]) ([.sli 9 false (.rows [CK.s] x4 x5)]) qTV
theorem qu1 (f:Nat) (x0:ByteArray) (x1:Int) (x2:Nat) (x3:Int) (x4:Nat) (x5:LL):qTW (f+1) x0 x1 x2 x3 x4 x5=qgA (qTW f) x0 x1 x2 x3 x4 x5:=by kernel_rfl
theorem qf9:∀ f,qTW f=qIo f
 | 0=>rfl
 | f+1=>by funext x0 x1 x2 x3 x4 x5;rw[qu1,qf9 f];rfl
theorem qu4:qY Tryz.prog qNH 0 (qE Tryz.f108 6):=
 qg mixed qf7 (qN.of (l':=[]) (by kernel_rfl) trivial) (q:=6) (kin:=[0,1,6,7]) (kout:=[0,1,6]) (by kernel_rfl) (by kernel_rfl) fun vs objs K r h=>by
  replace h:qTX vs objs K=some r:=h
  unfold qTX at h
  split at h
  ·skip
   obtain⟨t,h1,h2⟩:=qD h
   rw[<- qf9] at h1
   refine⟨_,qTV,t,qB,h1,fun e vs' objs' hd=>?_⟩
   unfold qTV at hd;split at hd;(cases hd;exact h2);cases hd
  ·cases h
def qf8:V->List Obj->Option (Nat×Nat×LL):=fun v objs=>match v,objs with
 | .s (.sl 0 0 y0 true),[.sli 9 false (.rows [CK.s] y1 y2)]=>some (y0,y1,y2)
 | _,_=>none
theorem qu0 (x0:ByteArray) (x1:Int):fnE qNH Tryz.f108 ([.s (.str x0),.s (.i .i64 x1)]) ([]) qf8=qTU x0 x1:=by kernel_rfl
def qf6:HA:=fun o vs objs K=>match vs,objs with
 | [.s (.str x0),.s (.i .i64 x1)],[]=>ob (qTU x0 x1) fun z=>K false (.s (.sl 0 0 (z.1) true)) ([.sli 9 false (.rows [CK.s] (z.2.1) (z.2.2))])
 | _,_=>o 108 vs objs K
def qgB (o:Orc):Orc:=qK 108 (qf6 o) o
theorem qu3:OQ Tryz.prog qgB:=fun _ ho=>qM ho fun vs objs K r h=>by
 unfold qf6 at h
 split at h
 ·skip
  obtain⟨t,h1,h2⟩:=qD h
  refine q7 mixed qf7 (fn:=Tryz.f108) (b:=(Tryz.f108).body.getD .skip) (by kernel_rfl) (by kernel_rfl) (by kernel_rfl) ((qu0 _ _).trans h1) (m:=0) rfl (qN.of (l':=[qE Tryz.f108 6]) (by kernel_rfl) ⟨qu4,trivial⟩) fun v objs' hd=>?_
  unfold qf8 at hd;split at hd;(cases hd;exact h2);cases hd
 ·exact ho _ _ _ _ _ h
end
end Go.Kk.KkLN
