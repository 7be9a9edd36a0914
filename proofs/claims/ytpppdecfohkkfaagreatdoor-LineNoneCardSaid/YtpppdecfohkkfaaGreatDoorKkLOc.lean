/- Printed by a tool of this project (KkGen): the program's functions come to the plain ones. -/
import Derived.Test.YtpppdecfohkkfaaGreatDoorKkLOb
namespace Go.Kk.KkLO
noncomputable section
open Go.Proofs Go.Kk.Pl
set_option maxRecDepth 100000
set_option maxHeartbeats 4000000
def qOj:Ex->List V->List Obj->Option (LI×LI×Int×LL×LL×Int×Int×Int×Int):=fun e vs objs=>match e,vs,objs with
 | .exit 0,[.s (.ptr 1 0 none 0),.s (.ptr 2 0 none 0)],[.rcells 72 [.arr .i8 81 y0,.arr .i8 16 y1,.one [.i .i8 y2],.rows [.i .u64,.i .u64] 32 y3,.rows [.i .u64,.i .u64] 2 y4],.cells 68 [.one [.i .u64 y5,.i .u64 y6]],.cells 68 [.one [.i .u64 y7,.i .u64 y8]]]=>some (y0,y1,y2,y3,y4,y5,y6,y7,y8)
 | _,_,_=>none
def qOl:HL:=fun vs objs K=>match vs,objs with
 | [.s (.ptr 0 0 none 0),.s (.i .i64 x0),.s (.i .i64 x1),.s (.ptr 1 0 none 0),.s (.i .i8 x2),.s (.ptr 2 0 none 0),.s (.sl 3 0 x3 true),.s (.i .i64 x4),.s (.i .i64 x5)],[.rcells 72 [.arr .i8 81 x6,.arr .i8 16 x7,.one [.i .i8 x8],.rows [.i .u64,.i .u64] 32 x9,.rows [.i .u64,.i .u64] 2 x10],.cells 68 [.one [.i .u64 x11,.i .u64 x12]],.cells 68 [.one [.i .u64 x13,.i .u64 x14]],.sli 3 false (.arr .i64 x15 x16)]=>ob (qDc qB x0 x1 x2 x3 x4 x5 x6 x7 x8 x9 x10 x11 x12 x13 x14 x15 x16) fun z=>K (.exit 0) ([.s (.ptr 1 0 none 0),.s (.ptr 2 0 none 0)]) ([.rcells 72 [.arr .i8 81 (z.1),.arr .i8 16 (z.2.1),.one [.i .i8 (z.2.2.1)],.rows [.i .u64,.i .u64] 32 (z.2.2.2.1),.rows [.i .u64,.i .u64] 2 (z.2.2.2.2.1)],.cells 68 [.one [.i .u64 (z.2.2.2.2.2.1),.i .u64 (z.2.2.2.2.2.2.1)]],.cells 68 [.one [.i .u64 (z.2.2.2.2.2.2.2.1),.i .u64 (z.2.2.2.2.2.2.2.2)]]])
 | _,_=>none
def qjV:{R:Type}->Nat->List V->List Obj->(Ex->List V->List Obj->Option R)->Option R:=fun q vs objs K=>bif Nat.beq q 6 then qOl vs objs K else none
def qKh:Ctx:=mkC 53 ((qEe (qH9 (qFa (qRx (qME (qFt (qMV (qJa (qcw (qGt (qDm qK)))))))))))) [(6,[0,1,2,6,7,8,24,25,26],[6,8])] qjV
theorem qWG:CtxOK Tryz.prog qKh:=mkC_ok ((qFe _ (qJY _ (qGP _ (qcp _ (qRt _ (qGr _ (qSK _ (qMN _ (qrX _ (qIa _ (qEU _ qM))))))))))))
def qOk (f:Nat) (x0 x1 x2:Int) (x3:Nat) (x4 x5:Int) (x6 x7:LI) (x8:Int) (x9 x10:LL) (x11 x12:Int) (x13 x14:Int) (x15:Nat) (x16:LI):Option (LI×LI×Int×LL×LL×Int×Int×Int×Int):=qg qKh 1 [0,1,2,6,7,8,24,25,26] [6,8] (qG Tryz.f134 6) f ([.s (.ptr 0 0 none 0),.s (.i .i64 x0),.s (.i .i64 x1),.s (.ptr 1 0 none 0),.s (.i .i8 x2),.s (.ptr 2 0 none 0),.s (.sl 3 0 x3 true),.s (.i .i64 x4),.s (.i .i64 x5)]) ([.rcells 72 [.arr .i8 81 x6,.arr .i8 16 x7,.one [.i .i8 x8],.rows [.i .u64,.i .u64] 32 x9,.rows [.i .u64,.i .u64] 2 x10],.cells 68 [.one [.i .u64 x11,.i .u64 x12]],.cells 68 [.one [.i .u64 x13,.i .u64 x14]],.sli 3 false (.arr .i64 x15 x16)]) qOj
theorem qjU (f:Nat) (x0 x1 x2:Int) (x3:Nat) (x4 x5:Int) (x6 x7:LI) (x8:Int) (x9 x10:LL) (x11 x12:Int) (x13 x14:Int) (x15:Nat) (x16:LI):qOk (f+1) x0 x1 x2 x3 x4 x5 x6 x7 x8 x9 x10 x11 x12 x13 x14 x15 x16=qHE (qOk f) x0 x1 x2 x3 x4 x5 x6 x7 x8 x9 x10 x11 x12 x13 x14 x15 x16:=by kernel_rfl
theorem qWI:∀ f,qOk f=qDc f
 | 0=>rfl
 | f+1=>by funext x0 x1 x2 x3 x4 x5 x6 x7 x8 x9 x10 x11 x12 x13 x14 x15 x16;rw [qjU,qWI f];rfl
theorem qjX:qe Tryz.prog qKh 1 (qG Tryz.f134 6):=
 qh mixed qWG (qO.of (l':=[]) (by kernel_rfl) trivial) (q:=6) (kin:=[0,1,2,6,7,8,24,25,26]) (kout:=[6,8]) (by kernel_rfl) (by kernel_rfl) fun vs objs K r h=>by
  replace h:qOl vs objs K=some r:=h
  unfold qOl at h
  split at h
  ·skip
   obtain ⟨t,h1,h2⟩:=qE h
   rw [<- qWI] at h1
   refine ⟨_,qOj,t,qB,h1,fun e vs' objs' hd=>?_⟩
   unfold qOj at hd;split at hd;(cases hd;exact h2);cases hd
  ·cases h
def qWH:V->List Obj->Option (Int×Int):=fun v objs=>match v,objs with
 | .agg [.one [.i .u64 y0,.i .u64 y1]],[]=>some (y0,y1)
 | _,_=>none
theorem qjT (x0 x1:Int) (x2 x3:LI) (x4:Int) (x5 x6:LL):fnE qKh Tryz.f134 ([.s (.ptr 0 0 none 0),.s (.i .i64 x0),.s (.i .i64 x1)]) ([.rcells 72 [.arr .i8 81 x2,.arr .i8 16 x3,.one [.i .i8 x4],.rows [.i .u64,.i .u64] 32 x5,.rows [.i .u64,.i .u64] 2 x6]]) (qAP 1 qWH)=qIr x0 x1 x2 x3 x4 x5 x6:=by kernel_rfl
def qWF:HA:=fun o vs objs K=>match vs,List.map Obj.toRO objs with
 | [.s (.ptr 0 0 none 0),.s (.i .i64 x0),.s (.i .i64 x1)],[.rcells 72 [.arr .i8 81 x2,.arr .i8 16 x3,.one [.i .i8 x4],.rows [.i .u64,.i .u64] 32 x5,.rows [.i .u64,.i .u64] 2 x6]]=>ob (qIr x0 x1 x2 x3 x4 x5 x6) fun z=>K true (.agg [.one [.i .u64 (z.1),.i .u64 (z.2)]]) ([])
 | _,_=>o 134 vs objs K
def qWJ (o:Orc):Orc:=qL 134 (qWF o) o
theorem qjW:OQ Tryz.prog qWJ:=fun _ ho=>qN ho fun vs objs K r h=>by
 unfold qWF at h
 split at h
 ·skip
  have hq:List.map Obj.toRO objs=_:=(by rename_i hq;first | exact hq | assumption)
  obtain ⟨t,h1,h2⟩:=qE h
  refine qAn mixed qWG (m:=1) (fn:=Tryz.f134) (b:=(Tryz.f134).body.getD .skip) (by kernel_rfl) (by kernel_rfl) (by kernel_rfl) hq (by kernel_rfl) (by kernel_rfl) (qO.of (l':=[qG Tryz.f134 6]) (by kernel_rfl) ⟨qjX,trivial⟩) ((qjT _ _ _ _ _ _ _).trans h1) fun v objs' hd=>?_
  unfold qWH at hd;split at hd;(cases hd;exact h2);cases hd
 ·exact ho _ _ _ _ _ h
def qOf:Ex->List V->List Obj->Option (Nat×Int×Int×LI×LI×Int×LL×LL×Int×Int×Nat×LL):=fun e vs objs=>match e,vs,objs with
 | .exit 2,[.s (.ptr 0 0 none 0),.s (.ptr 1 0 none 0),.s (.sl 2 0 y0 true),.s (.i .i64 y1),.s (.i .i64 y2)],[.rcells 72 [.arr .i8 81 y3,.arr .i8 16 y4,.one [.i .i8 y5],.rows [.i .u64,.i .u64] 32 y6,.rows [.i .u64,.i .u64] 2 y7],.cells 68 [.one [.i .u64 y8,.i .u64 y9]],.sli 37 false (.rows [.i .i64,.i .i64,.i .i64,.b] y10 y11)]=>some (y0,y1,y2,y3,y4,y5,y6,y7,y8,y9,y10,y11)
 | _,_,_=>none
def qOd:Ex->List V->List Obj->Option (Nat×LI×LI×Int×LL×LL×Nat×LL):=fun e vs objs=>match e,vs,objs with
 | .exit 0,[.s (.sl 1 0 y0 true)],[.rcells 72 [.arr .i8 81 y1,.arr .i8 16 y2,.one [.i .i8 y3],.rows [.i .u64,.i .u64] 32 y4,.rows [.i .u64,.i .u64] 2 y5],.sli 37 false (.rows [.i .i64,.i .i64,.i .i64,.b] y6 y7)]=>some (y0,y1,y2,y3,y4,y5,y6,y7)
 | _,_,_=>none
def qOi:HL:=fun vs objs K=>match vs,objs with
 | [.s (.ptr 0 0 none 0),.s (.ptr 1 0 none 0),.s (.sl 2 0 x0 true),.s (.i .i64 x1),.s (.i .i64 x2),.s (.sl 3 0 x3 true),.s (.i .i64 x4),.s (.i .i64 x5)],[.rcells 72 [.arr .i8 81 x6,.arr .i8 16 x7,.one [.i .i8 x8],.rows [.i .u64,.i .u64] 32 x9,.rows [.i .u64,.i .u64] 2 x10],.cells 68 [.one [.i .u64 x11,.i .u64 x12]],.sli 37 false (.rows [.i .i64,.i .i64,.i .i64,.b] x13 x14),.sli 3 false (.arr .i64 x15 x16)]=>ob (qFA qB x0 x1 x2 x3 x4 x5 x6 x7 x8 x9 x10 x11 x12 x13 x14 x15 x16) fun z=>K (.exit 2) ([.s (.ptr 0 0 none 0),.s (.ptr 1 0 none 0),.s (.sl 2 0 (z.1) true),.s (.i .i64 (z.2.1)),.s (.i .i64 (z.2.2.1))]) ([.rcells 72 [.arr .i8 81 (z.2.2.2.1),.arr .i8 16 (z.2.2.2.2.1),.one [.i .i8 (z.2.2.2.2.2.1)],.rows [.i .u64,.i .u64] 32 (z.2.2.2.2.2.2.1),.rows [.i .u64,.i .u64] 2 (z.2.2.2.2.2.2.2.1)],.cells 68 [.one [.i .u64 (z.2.2.2.2.2.2.2.2.1),.i .u64 (z.2.2.2.2.2.2.2.2.2.1)]],.sli 37 false (.rows [.i .i64,.i .i64,.i .i64,.b] (z.2.2.2.2.2.2.2.2.2.2.1) (z.2.2.2.2.2.2.2.2.2.2.2))])
 | _,_=>none
def qOh:HL:=fun vs objs K=>match vs,objs with
 | [.s (.ptr 0 0 none 0),.s (.ptr 1 0 none 0),.s (.sl 2 0 x0 true),.s (.i .i64 x1),.s (.i .i64 x2)],[.rcells 72 [.arr .i8 81 x3,.arr .i8 16 x4,.one [.i .i8 x5],.rows [.i .u64,.i .u64] 32 x6,.rows [.i .u64,.i .u64] 2 x7],.cells 68 [.one [.i .u64 x8,.i .u64 x9]],.sli 37 false (.rows [.i .i64,.i .i64,.i .i64,.b] x10 x11)]=>ob (qE9 qB x0 x1 x2 x3 x4 x5 x6 x7 x8 x9 x10 x11) fun z=>K (.exit 0) ([.s (.sl 1 0 (z.1) true)]) ([.rcells 72 [.arr .i8 81 (z.2.1),.arr .i8 16 (z.2.2.1),.one [.i .i8 (z.2.2.2.1)],.rows [.i .u64,.i .u64] 32 (z.2.2.2.2.1),.rows [.i .u64,.i .u64] 2 (z.2.2.2.2.2.1)],.sli 37 false (.rows [.i .i64,.i .i64,.i .i64,.b] (z.2.2.2.2.2.2.1) (z.2.2.2.2.2.2.2))])
 | _,_=>none
def qjP:{R:Type}->Nat->List V->List Obj->(Ex->List V->List Obj->Option R)->Option R:=fun q vs objs K=>bif Nat.beq q 8 then qOi vs objs K else bif Nat.beq q 4 then qOh vs objs K else none
def qHB:Ctx:=mkC 45 ((qJa (qFa (qWJ (qKA qK))))) [(4,[0,3,5,6,7],[5]),(8,[0,3,5,6,7,31,32,33],[0,3,5,6,7])] qjP
theorem qOc:CtxOK Tryz.prog qHB:=mkC_ok ((qMN _ (qGP _ (qjW _ (qNc _ qM)))))
def qOg (f:Nat) (x0:Nat) (x1 x2:Int) (x3:Nat) (x4 x5:Int) (x6 x7:LI) (x8:Int) (x9 x10:LL) (x11 x12:Int) (x13:Nat) (x14:LL) (x15:Nat) (x16:LI):Option (Nat×Int×Int×LI×LI×Int×LL×LL×Int×Int×Nat×LL):=qg qHB 1 [0,3,5,6,7,31,32,33] [0,3,5,6,7] (qG Tryz.f99 8) f ([.s (.ptr 0 0 none 0),.s (.ptr 1 0 none 0),.s (.sl 2 0 x0 true),.s (.i .i64 x1),.s (.i .i64 x2),.s (.sl 3 0 x3 true),.s (.i .i64 x4),.s (.i .i64 x5)]) ([.rcells 72 [.arr .i8 81 x6,.arr .i8 16 x7,.one [.i .i8 x8],.rows [.i .u64,.i .u64] 32 x9,.rows [.i .u64,.i .u64] 2 x10],.cells 68 [.one [.i .u64 x11,.i .u64 x12]],.sli 37 false (.rows [.i .i64,.i .i64,.i .i64,.b] x13 x14),.sli 3 false (.arr .i64 x15 x16)]) qOf
theorem qjO (f:Nat) (x0:Nat) (x1 x2:Int) (x3:Nat) (x4 x5:Int) (x6 x7:LI) (x8:Int) (x9 x10:LL) (x11 x12:Int) (x13:Nat) (x14:LL) (x15:Nat) (x16:LI):qOg (f+1) x0 x1 x2 x3 x4 x5 x6 x7 x8 x9 x10 x11 x12 x13 x14 x15 x16=qHD (qOg f) x0 x1 x2 x3 x4 x5 x6 x7 x8 x9 x10 x11 x12 x13 x14 x15 x16:=by kernel_rfl
theorem qWD:∀ f,qOg f=qFA f
 | 0=>rfl
 | f+1=>by funext x0 x1 x2 x3 x4 x5 x6 x7 x8 x9 x10 x11 x12 x13 x14 x15 x16;rw [qjO,qWD f];rfl
def qOe (f:Nat) (x0:Nat) (x1 x2:Int) (x3 x4:LI) (x5:Int) (x6 x7:LL) (x8 x9:Int) (x10:Nat) (x11:LL):Option (Nat×LI×LI×Int×LL×LL×Nat×LL):=qg qHB 1 [0,3,5,6,7] [5] (qG Tryz.f99 4) f ([.s (.ptr 0 0 none 0),.s (.ptr 1 0 none 0),.s (.sl 2 0 x0 true),.s (.i .i64 x1),.s (.i .i64 x2)]) ([.rcells 72 [.arr .i8 81 x3,.arr .i8 16 x4,.one [.i .i8 x5],.rows [.i .u64,.i .u64] 32 x6,.rows [.i .u64,.i .u64] 2 x7],.cells 68 [.one [.i .u64 x8,.i .u64 x9]],.sli 37 false (.rows [.i .i64,.i .i64,.i .i64,.b] x10 x11)]) qOd
theorem qjN (f:Nat) (x0:Nat) (x1 x2:Int) (x3 x4:LI) (x5:Int) (x6 x7:LL) (x8 x9:Int) (x10:Nat) (x11:LL):qOe (f+1) x0 x1 x2 x3 x4 x5 x6 x7 x8 x9 x10 x11=qHC (qOe f) x0 x1 x2 x3 x4 x5 x6 x7 x8 x9 x10 x11:=by kernel_rfl
theorem qWC:∀ f,qOe f=qE9 f
 | 0=>rfl
 | f+1=>by funext x0 x1 x2 x3 x4 x5 x6 x7 x8 x9 x10 x11;rw [qjN,qWC f];rfl
theorem qjS:qe Tryz.prog qHB 1 (qG Tryz.f99 8):=
 qh mixed qOc (qO.of (l':=[]) (by kernel_rfl) trivial) (q:=8) (kin:=[0,3,5,6,7,31,32,33]) (kout:=[0,3,5,6,7]) (by kernel_rfl) (by kernel_rfl) fun vs objs K r h=>by
  replace h:qOi vs objs K=some r:=h
  unfold qOi at h
  split at h
  ·skip
   obtain ⟨t,h1,h2⟩:=qE h
   rw [<- qWD] at h1
   refine ⟨_,qOf,t,qB,h1,fun e vs' objs' hd=>?_⟩
   unfold qOf at hd;split at hd;(cases hd;exact h2);cases hd
  ·cases h
theorem qjR:qe Tryz.prog qHB 1 (qG Tryz.f99 4):=
 qh mixed qOc (qO.of (l':=[qG Tryz.f99 8]) (by kernel_rfl) ⟨qjS,trivial⟩) (q:=4) (kin:=[0,3,5,6,7]) (kout:=[5]) (by kernel_rfl) (by kernel_rfl) fun vs objs K r h=>by
  replace h:qOh vs objs K=some r:=h
  unfold qOh at h
  split at h
  ·skip
   obtain ⟨t,h1,h2⟩:=qE h
   rw [<- qWC] at h1
   refine ⟨_,qOd,t,qB,h1,fun e vs' objs' hd=>?_⟩
   unfold qOd at hd;split at hd;(cases hd;exact h2);cases hd
  ·cases h
def qWB:V->List Obj->Option (Nat×Nat×LL):=fun v objs=>match v,objs with
 | .s (.sl 1 0 y0 true),[.sli 37 false (.rows [.i .i64,.i .i64,.i .i64,.b] y1 y2)]=>some (y0,y1,y2)
 | _,_=>none
theorem qjM (x0 x1:Int) (x2 x3:LI) (x4:Int) (x5 x6:LL):fnE qHB Tryz.f99 ([.s (.ptr 0 0 none 0),.agg [.one [.i .u64 x0,.i .u64 x1]]]) ([.rcells 72 [.arr .i8 81 x2,.arr .i8 16 x3,.one [.i .i8 x4],.rows [.i .u64,.i .u64] 32 x5,.rows [.i .u64,.i .u64] 2 x6]]) (qAP 1 qWB)=qIq x0 x1 x2 x3 x4 x5 x6:=by kernel_rfl
def qWA:HA:=fun o vs objs K=>match vs,List.map Obj.toRO objs with
 | [.s (.ptr 0 0 none 0),.agg [.one [.i .u64 x0,.i .u64 x1]]],[.rcells 72 [.arr .i8 81 x2,.arr .i8 16 x3,.one [.i .i8 x4],.rows [.i .u64,.i .u64] 32 x5,.rows [.i .u64,.i .u64] 2 x6]]=>ob (qIq x0 x1 x2 x3 x4 x5 x6) fun z=>K true (.s (.sl 1 0 (z.1) true)) ([.sli 37 false (.rows [.i .i64,.i .i64,.i .i64,.b] (z.2.1) (z.2.2))])
 | _,_=>o 99 vs objs K
def qWE (o:Orc):Orc:=qL 99 (qWA o) o
theorem qjQ:OQ Tryz.prog qWE:=fun _ ho=>qN ho fun vs objs K r h=>by
 unfold qWA at h
 split at h
 ·skip
  have hq:List.map Obj.toRO objs=_:=(by rename_i hq;first | exact hq | assumption)
  obtain ⟨t,h1,h2⟩:=qE h
  refine qAn mixed qOc (m:=1) (fn:=Tryz.f99) (b:=(Tryz.f99).body.getD .skip) (by kernel_rfl) (by kernel_rfl) (by kernel_rfl) hq (by kernel_rfl) (by kernel_rfl) (qO.of (l':=[qG Tryz.f99 4]) (by kernel_rfl) ⟨qjR,trivial⟩) ((qjM _ _ _ _ _ _ _).trans h1) fun v objs' hd=>?_
  unfold qWB at hd;split at hd;(cases hd;exact h2);cases hd
 ·exact ho _ _ _ _ _ h
def qTx:Ctx:=mkC 7 (qK) [] qX
theorem qgi:CtxOK Tryz.prog qTx:=mkC_ok (qM)
def qTy:V->List Obj->Option (LI×LI×Int×LL×LL):=fun v objs=>match v,objs with
 | .s (.ptr 1 0 none 0),[.cells 72 [.arr .i8 81 y0,.arr .i8 16 y1,.one [.i .i8 y2],.rows [.i .u64,.i .u64] 32 y3,.rows [.i .u64,.i .u64] 2 y4]]=>some (y0,y1,y2,y3,y4)
 | _,_=>none
theorem qgh (x0 x1:LI) (x2:Int) (x3 x4:LL):fnE qTx Tryz.f135 ([.s (.ptr 0 0 none 0)]) ([.rcells 72 [.arr .i8 81 x0,.arr .i8 16 x1,.one [.i .i8 x2],.rows [.i .u64,.i .u64] 32 x3,.rows [.i .u64,.i .u64] 2 x4]]) (qAP 1 qTy)=qJ9 x0 x1 x2 x3 x4:=by kernel_rfl
def qTw:HA:=fun o vs objs K=>match vs,List.map Obj.toRO objs with
 | [.s (.ptr 0 0 none 0)],[.rcells 72 [.arr .i8 81 x0,.arr .i8 16 x1,.one [.i .i8 x2],.rows [.i .u64,.i .u64] 32 x3,.rows [.i .u64,.i .u64] 2 x4]]=>ob (qJ9 x0 x1 x2 x3 x4) fun z=>K true (.s (.ptr 1 0 none 0)) ([.cells 72 [.arr .i8 81 (z.1),.arr .i8 16 (z.2.1),.one [.i .i8 (z.2.2.1)],.rows [.i .u64,.i .u64] 32 (z.2.2.2.1),.rows [.i .u64,.i .u64] 2 (z.2.2.2.2)]])
 | _,_=>o 135 vs objs K
def qTz (o:Orc):Orc:=qL 135 (qTw o) o
theorem qgj:OQ Tryz.prog qTz:=fun _ ho=>qN ho fun vs objs K r h=>by
 unfold qTw at h
 split at h
 ·skip
  have hq:List.map Obj.toRO objs=_:=(by rename_i hq;first | exact hq | assumption)
  obtain ⟨t,h1,h2⟩:=qE h
  refine qAn mixed qgi (m:=1) (fn:=Tryz.f135) (b:=(Tryz.f135).body.getD .skip) (by kernel_rfl) (by kernel_rfl) (by kernel_rfl) hq (by kernel_rfl) (by kernel_rfl) (qO.of (l':=[]) (by kernel_rfl) trivial) ((qgh _ _ _ _ _).trans h1) fun v objs' hd=>?_
  unfold qTy at hd;split at hd;(cases hd;exact h2);cases hd
 ·exact ho _ _ _ _ _ h
def qPS:Ex->List V->List Obj->Option ((Bool×LI×LI×Int×LL×LL)⊕(LI×LI×Int×LL×LL)):=fun e vs objs=>match e,vs,objs with
 | .ret,[.s (.b y0)],[.rcells 72 [.arr .i8 81 y1,.arr .i8 16 y2,.one [.i .i8 y3],.rows [.i .u64,.i .u64] 32 y4,.rows [.i .u64,.i .u64] 2 y5]]=>some (.inl (y0,y1,y2,y3,y4,y5))
 | .exit 0,[.s .bad],[.rcells 72 [.arr .i8 81 y0,.arr .i8 16 y1,.one [.i .i8 y2],.rows [.i .u64,.i .u64] 32 y3,.rows [.i .u64,.i .u64] 2 y4]]=>some (.inr (y0,y1,y2,y3,y4))
 | _,_,_=>none
def qPU:HL:=fun vs objs K=>match vs,objs with
 | [.s (.ptr 1 0 none 0),.s (.sl 2 0 x0 true),.s (.i .i64 x1),.s (.i .i64 x2)],[.rcells 72 [.arr .i8 81 x3,.arr .i8 16 x4,.one [.i .i8 x5],.rows [.i .u64,.i .u64] 32 x6,.rows [.i .u64,.i .u64] 2 x7],.cells 130 [.one [.ptr 3 0 none 0,.i .i64 x8,.i .i64 x9,.i .u64 x10,.i .u64 x11,.mp 4,.b x12]],.sli 37 false (.rows [.i .i64,.i .i64,.i .i64,.b] x13 x14),.cells 72 [.arr .i8 81 x15,.arr .i8 16 x16,.one [.i .i8 x17],.rows [.i .u64,.i .u64] 32 x18,.rows [.i .u64,.i .u64] 2 x19],.map false true [.i .i64] [.i .u64,.i .u64] x20]=>ob (qFJ qB x0 x1 x2 x3 x4 x5 x6 x7 x8 x9 x10 x11 x12 x13 x14 x15 x16 x17 x18 x19 x20) fun t0=>sw t0 (fun z=>K (.ret) ([.s (.b (z.1))]) ([.rcells 72 [.arr .i8 81 (z.2.1),.arr .i8 16 (z.2.2.1),.one [.i .i8 (z.2.2.2.1)],.rows [.i .u64,.i .u64] 32 (z.2.2.2.2.1),.rows [.i .u64,.i .u64] 2 (z.2.2.2.2.2)]])) (fun z=>K (.exit 0) ([.s .bad]) ([.rcells 72 [.arr .i8 81 (z.1),.arr .i8 16 (z.2.1),.one [.i .i8 (z.2.2.1)],.rows [.i .u64,.i .u64] 32 (z.2.2.2.1),.rows [.i .u64,.i .u64] 2 (z.2.2.2.2)]]))
 | _,_=>none
def qk4:{R:Type}->Nat->List V->List Obj->(Ex->List V->List Obj->Option R)->Option R:=fun q vs objs K=>bif Nat.beq q 11 then qPU vs objs K else none
def qK1:Ctx:=mkC 74 ((qPW (qOZ (qJX (qPV (qGT (qJ3 (qKE (qTz (qFq (qDm qK))))))))))) [(11,[7,64,65,66],[4])] qk4
theorem qXS:CtxOK Tryz.prog qK1:=mkC_ok ((qXd _ (qV9 _ (qMC _ (qXZ _ (qIA _ (qM4 _ (qNj _ (qgj _ (qGo _ (qEU _ qM)))))))))))
def qPT (f:Nat) (x0:Nat) (x1 x2:Int) (x3 x4:LI) (x5:Int) (x6 x7:LL) (x8 x9:Int) (x10 x11:Int) (x12:Bool) (x13:Nat) (x14:LL) (x15 x16:LI) (x17:Int) (x18 x19:LL) (x20:List (LI×LI)):Option ((Bool×LI×LI×Int×LL×LL)⊕(LI×LI×Int×LL×LL)):=qg qK1 1 [7,64,65,66] [4] (qG Tryz.f100 11) f ([.s (.ptr 1 0 none 0),.s (.sl 2 0 x0 true),.s (.i .i64 x1),.s (.i .i64 x2)]) ([.rcells 72 [.arr .i8 81 x3,.arr .i8 16 x4,.one [.i .i8 x5],.rows [.i .u64,.i .u64] 32 x6,.rows [.i .u64,.i .u64] 2 x7],.cells 130 [.one [.ptr 3 0 none 0,.i .i64 x8,.i .i64 x9,.i .u64 x10,.i .u64 x11,.mp 4,.b x12]],.sli 37 false (.rows [.i .i64,.i .i64,.i .i64,.b] x13 x14),.cells 72 [.arr .i8 81 x15,.arr .i8 16 x16,.one [.i .i8 x17],.rows [.i .u64,.i .u64] 32 x18,.rows [.i .u64,.i .u64] 2 x19],.map false true [.i .i64] [.i .u64,.i .u64] x20]) qPS
theorem qk3 (f:Nat) (x0:Nat) (x1 x2:Int) (x3 x4:LI) (x5:Int) (x6 x7:LL) (x8 x9:Int) (x10 x11:Int) (x12:Bool) (x13:Nat) (x14:LL) (x15 x16:LI) (x17:Int) (x18 x19:LL) (x20:List (LI×LI)):qPT (f+1) x0 x1 x2 x3 x4 x5 x6 x7 x8 x9 x10 x11 x12 x13 x14 x15 x16 x17 x18 x19 x20=qHV (qPT f) x0 x1 x2 x3 x4 x5 x6 x7 x8 x9 x10 x11 x12 x13 x14 x15 x16 x17 x18 x19 x20:=by kernel_rfl
theorem qXU:∀ f,qPT f=qFJ f
 | 0=>rfl
 | f+1=>by funext x0 x1 x2 x3 x4 x5 x6 x7 x8 x9 x10 x11 x12 x13 x14 x15 x16 x17 x18 x19 x20;rw [qk3,qXU f];rfl
theorem qk6:qe Tryz.prog qK1 1 (qG Tryz.f100 11):=
 qh mixed qXS (qO.of (l':=[]) (by kernel_rfl) trivial) (q:=11) (kin:=[7,64,65,66]) (kout:=[4]) (by kernel_rfl) (by kernel_rfl) fun vs objs K r h=>by
  replace h:qPU vs objs K=some r:=h
  unfold qPU at h
  split at h
  ·skip
   obtain ⟨t,h1,h2⟩:=qE h
   rw [<- qXU] at h1
   refine ⟨_,qPS,t,qB,h1,fun e vs' objs' hd=>?_⟩
   unfold qPS at hd
   split at hd
   ·skip
    cases hd
    exact h2
   ·skip
    cases hd
    exact h2
   ·cases hd
  ·cases h
def qXT:V->List Obj->Option (Bool):=fun v objs=>match v,objs with
 | .s (.b y0),[]=>some (y0)
 | _,_=>none
theorem qk2 (x0:Int) (x1 x2:LI) (x3:Int) (x4 x5:LL):fnE qK1 Tryz.f100 ([.s (.ptr 0 0 none 0),.s (.i .i64 x0)]) ([.rcells 72 [.arr .i8 81 x1,.arr .i8 16 x2,.one [.i .i8 x3],.rows [.i .u64,.i .u64] 32 x4,.rows [.i .u64,.i .u64] 2 x5]]) (qAP 1 qXT)=qIz x0 x1 x2 x3 x4 x5:=by kernel_rfl
def qXR:HA:=fun o vs objs K=>match vs,List.map Obj.toRO objs with
 | [.s (.ptr 0 0 none 0),.s (.i .i64 x0)],[.rcells 72 [.arr .i8 81 x1,.arr .i8 16 x2,.one [.i .i8 x3],.rows [.i .u64,.i .u64] 32 x4,.rows [.i .u64,.i .u64] 2 x5]]=>ob (qIz x0 x1 x2 x3 x4 x5) fun y0=>K true (.s (.b y0)) ([])
 | _,_=>o 100 vs objs K
def qXV (o:Orc):Orc:=qL 100 (qXR o) o
theorem qk5:OQ Tryz.prog qXV:=fun _ ho=>qN ho fun vs objs K r h=>by
 unfold qXR at h
 split at h
 ·skip
  have hq:List.map Obj.toRO objs=_:=(by rename_i hq;first | exact hq | assumption)
  obtain ⟨t,h1,h2⟩:=qE h
  refine qAn mixed qXS (m:=1) (fn:=Tryz.f100) (b:=(Tryz.f100).body.getD .skip) (by kernel_rfl) (by kernel_rfl) (by kernel_rfl) hq (by kernel_rfl) (by kernel_rfl) (qO.of (l':=[qG Tryz.f100 11]) (by kernel_rfl) ⟨qk6,trivial⟩) ((qk2 _ _ _ _ _ _).trans h1) fun v objs' hd=>?_
  unfold qXT at hd;split at hd;(cases hd;exact h2);cases hd
 ·exact ho _ _ _ _ _ h
def qPL:Ex->List V->List Obj->Option (Nat×LI×LI×Int×LL×LL×Int×Int×Int×Int×Bool×Nat×LL×List (LI×LI)):=fun e vs objs=>match e,vs,objs with
 | .exit 0,[.s (.ptr 0 0 none 0),.s (.ptr 1 0 none 0),.s (.sl 2 0 y0 true)],[.cells 72 [.arr .i8 81 y1,.arr .i8 16 y2,.one [.i .i8 y3],.rows [.i .u64,.i .u64] 32 y4,.rows [.i .u64,.i .u64] 2 y5],.cells 130 [.one [.ptr 0 0 none 0,.i .i64 y6,.i .i64 y7,.i .u64 y8,.i .u64 y9,.mp 3,.b y10]],.sli 37 false (.rows [.i .i64,.i .i64,.i .i64,.b] y11 y12),.map false true [.i .i64] [.i .u64,.i .u64] y13]=>some (y0,y1,y2,y3,y4,y5,y6,y7,y8,y9,y10,y11,y12,y13)
 | _,_,_=>none
def qPJ:Ex->List V->List Obj->Option (Nat×LI×LI×Int×LL×LL×Nat×LL):=fun e vs objs=>match e,vs,objs with
 | .exit 2,[.s (.sl 1 0 y0 true)],[.cells 72 [.arr .i8 81 y1,.arr .i8 16 y2,.one [.i .i8 y3],.rows [.i .u64,.i .u64] 32 y4,.rows [.i .u64,.i .u64] 2 y5],.sli 37 false (.rows [.i .i64,.i .i64,.i .i64,.b] y6 y7)]=>some (y0,y1,y2,y3,y4,y5,y6,y7)
 | _,_,_=>none
def qPO:HL:=fun vs objs K=>match vs,objs with
 | [.s (.ptr 0 0 none 0),.s (.ptr 1 0 none 0),.s (.sl 2 0 x0 true),.s (.sl 3 0 x1 true),.s (.i .i64 x2),.s (.i .i64 x3)],[.cells 72 [.arr .i8 81 x4,.arr .i8 16 x5,.one [.i .i8 x6],.rows [.i .u64,.i .u64] 32 x7,.rows [.i .u64,.i .u64] 2 x8],.cells 130 [.one [.ptr 0 0 none 0,.i .i64 x9,.i .i64 x10,.i .u64 x11,.i .u64 x12,.mp 4,.b x13]],.sli 37 false (.rows [.i .i64,.i .i64,.i .i64,.b] x14 x15),.sli 37 false (.rows [.i .i64,.i .i64,.i .i64,.b] x16 x17),.map false true [.i .i64] [.i .u64,.i .u64] x18]=>ob (qFH qB x0 x1 x2 x3 x4 x5 x6 x7 x8 x9 x10 x11 x12 x13 x14 x15 x16 x17 x18) fun z=>K (.exit 0) ([.s (.ptr 0 0 none 0),.s (.ptr 1 0 none 0),.s (.sl 2 0 (z.1) true)]) ([.cells 72 [.arr .i8 81 (z.2.1),.arr .i8 16 (z.2.2.1),.one [.i .i8 (z.2.2.2.1)],.rows [.i .u64,.i .u64] 32 (z.2.2.2.2.1),.rows [.i .u64,.i .u64] 2 (z.2.2.2.2.2.1)],.cells 130 [.one [.ptr 0 0 none 0,.i .i64 (z.2.2.2.2.2.2.1),.i .i64 (z.2.2.2.2.2.2.2.1),.i .u64 (z.2.2.2.2.2.2.2.2.1),.i .u64 (z.2.2.2.2.2.2.2.2.2.1),.mp 3,.b (z.2.2.2.2.2.2.2.2.2.2.1)]],.sli 37 false (.rows [.i .i64,.i .i64,.i .i64,.b] (z.2.2.2.2.2.2.2.2.2.2.2.1) (z.2.2.2.2.2.2.2.2.2.2.2.2.1)),.map false true [.i .i64] [.i .u64,.i .u64] (z.2.2.2.2.2.2.2.2.2.2.2.2.2)])
 | _,_=>none
def qPN:HL:=fun vs objs K=>match vs,objs with
 | [.s (.ptr 0 0 none 0),.s (.sl 1 0 x0 true),.s (.sl 2 0 x1 true),.s (.i .i64 x2),.s (.i .i64 x3)],[.cells 72 [.arr .i8 81 x4,.arr .i8 16 x5,.one [.i .i8 x6],.rows [.i .u64,.i .u64] 32 x7,.rows [.i .u64,.i .u64] 2 x8],.sli 37 false (.rows [.i .i64,.i .i64,.i .i64,.b] x9 x10),.sli 37 false (.rows [.i .i64,.i .i64,.i .i64,.b] x11 x12)]=>ob (qEO qB x0 x1 x2 x3 x4 x5 x6 x7 x8 x9 x10 x11 x12) fun z=>K (.exit 2) ([.s (.sl 1 0 (z.1) true)]) ([.cells 72 [.arr .i8 81 (z.2.1),.arr .i8 16 (z.2.2.1),.one [.i .i8 (z.2.2.2.1)],.rows [.i .u64,.i .u64] 32 (z.2.2.2.2.1),.rows [.i .u64,.i .u64] 2 (z.2.2.2.2.2.1)],.sli 37 false (.rows [.i .i64,.i .i64,.i .i64,.b] (z.2.2.2.2.2.2.1) (z.2.2.2.2.2.2.2))])
 | _,_=>none
def qkt:{R:Type}->Nat->List V->List Obj->(Ex->List V->List Obj->Option R)->Option R:=fun q vs objs K=>bif Nat.beq q 4 then qPO vs objs K else bif Nat.beq q 10 then qPN vs objs K else none
def qHQ:Ctx:=mkC 51 ((qXV (qWE (qPW (qOZ (qJX (qPV qK))))))) [(4,[0,3,4,13,14,15],[0,3,4]),(10,[0,4,30,31,32],[4])] qkt
theorem qPI:CtxOK Tryz.prog qHQ:=mkC_ok ((qk5 _ (qjQ _ (qXd _ (qV9 _ (qMC _ (qXZ _ qM)))))))
def qPM (f:Nat) (x0 x1:Nat) (x2 x3:Int) (x4 x5:LI) (x6:Int) (x7 x8:LL) (x9 x10:Int) (x11 x12:Int) (x13:Bool) (x14:Nat) (x15:LL) (x16:Nat) (x17:LL) (x18:List (LI×LI)):Option (Nat×LI×LI×Int×LL×LL×Int×Int×Int×Int×Bool×Nat×LL×List (LI×LI)):=qg qHQ 1 [0,3,4,13,14,15] [0,3,4] (qG Tryz.f54 4) f ([.s (.ptr 0 0 none 0),.s (.ptr 1 0 none 0),.s (.sl 2 0 x0 true),.s (.sl 3 0 x1 true),.s (.i .i64 x2),.s (.i .i64 x3)]) ([.cells 72 [.arr .i8 81 x4,.arr .i8 16 x5,.one [.i .i8 x6],.rows [.i .u64,.i .u64] 32 x7,.rows [.i .u64,.i .u64] 2 x8],.cells 130 [.one [.ptr 0 0 none 0,.i .i64 x9,.i .i64 x10,.i .u64 x11,.i .u64 x12,.mp 4,.b x13]],.sli 37 false (.rows [.i .i64,.i .i64,.i .i64,.b] x14 x15),.sli 37 false (.rows [.i .i64,.i .i64,.i .i64,.b] x16 x17),.map false true [.i .i64] [.i .u64,.i .u64] x18]) qPL
theorem qks (f:Nat) (x0 x1:Nat) (x2 x3:Int) (x4 x5:LI) (x6:Int) (x7 x8:LL) (x9 x10:Int) (x11 x12:Int) (x13:Bool) (x14:Nat) (x15:LL) (x16:Nat) (x17:LL) (x18:List (LI×LI)):qPM (f+1) x0 x1 x2 x3 x4 x5 x6 x7 x8 x9 x10 x11 x12 x13 x14 x15 x16 x17 x18=qHS (qPM f) x0 x1 x2 x3 x4 x5 x6 x7 x8 x9 x10 x11 x12 x13 x14 x15 x16 x17 x18:=by kernel_rfl
theorem qXK:∀ f,qPM f=qFH f
 | 0=>rfl
 | f+1=>by funext x0 x1 x2 x3 x4 x5 x6 x7 x8 x9 x10 x11 x12 x13 x14 x15 x16 x17 x18;rw [qks,qXK f];rfl
def qPK (f:Nat) (x0 x1:Nat) (x2 x3:Int) (x4 x5:LI) (x6:Int) (x7 x8:LL) (x9:Nat) (x10:LL) (x11:Nat) (x12:LL):Option (Nat×LI×LI×Int×LL×LL×Nat×LL):=qg qHQ 1 [0,4,30,31,32] [4] (qG Tryz.f54 10) f ([.s (.ptr 0 0 none 0),.s (.sl 1 0 x0 true),.s (.sl 2 0 x1 true),.s (.i .i64 x2),.s (.i .i64 x3)]) ([.cells 72 [.arr .i8 81 x4,.arr .i8 16 x5,.one [.i .i8 x6],.rows [.i .u64,.i .u64] 32 x7,.rows [.i .u64,.i .u64] 2 x8],.sli 37 false (.rows [.i .i64,.i .i64,.i .i64,.b] x9 x10),.sli 37 false (.rows [.i .i64,.i .i64,.i .i64,.b] x11 x12)]) qPJ
theorem qkr (f:Nat) (x0 x1:Nat) (x2 x3:Int) (x4 x5:LI) (x6:Int) (x7 x8:LL) (x9:Nat) (x10:LL) (x11:Nat) (x12:LL):qPK (f+1) x0 x1 x2 x3 x4 x5 x6 x7 x8 x9 x10 x11 x12=qHR (qPK f) x0 x1 x2 x3 x4 x5 x6 x7 x8 x9 x10 x11 x12:=by kernel_rfl
theorem qXJ:∀ f,qPK f=qEO f
 | 0=>rfl
 | f+1=>by funext x0 x1 x2 x3 x4 x5 x6 x7 x8 x9 x10 x11 x12;rw [qkr,qXJ f];rfl
theorem qkw:qe Tryz.prog qHQ 1 (qG Tryz.f54 4):=
 qh mixed qPI (qO.of (l':=[]) (by kernel_rfl) trivial) (q:=4) (kin:=[0,3,4,13,14,15]) (kout:=[0,3,4]) (by kernel_rfl) (by kernel_rfl) fun vs objs K r h=>by
  replace h:qPO vs objs K=some r:=h
  unfold qPO at h
  split at h
  ·skip
   obtain ⟨t,h1,h2⟩:=qE h
   rw [<- qXK] at h1
   refine ⟨_,qPL,t,qB,h1,fun e vs' objs' hd=>?_⟩
   unfold qPL at hd;split at hd;(cases hd;exact h2);cases hd
  ·cases h
theorem qkv:qe Tryz.prog qHQ 1 (qG Tryz.f54 10):=
 qh mixed qPI (qO.of (l':=[]) (by kernel_rfl) trivial) (q:=10) (kin:=[0,4,30,31,32]) (kout:=[4]) (by kernel_rfl) (by kernel_rfl) fun vs objs K r h=>by
  replace h:qPN vs objs K=some r:=h
  unfold qPN at h
  split at h
  ·skip
   obtain ⟨t,h1,h2⟩:=qE h
   rw [<- qXJ] at h1
   refine ⟨_,qPJ,t,qB,h1,fun e vs' objs' hd=>?_⟩
   unfold qPJ at hd;split at hd;(cases hd;exact h2);cases hd
  ·cases h
def qXI:V->List Obj->Option (Nat×LI×LI×Int×LL×LL×Nat×LL):=fun v objs=>match v,objs with
 | .s (.sl 1 0 y0 true),[.cells 72 [.arr .i8 81 y1,.arr .i8 16 y2,.one [.i .i8 y3],.rows [.i .u64,.i .u64] 32 y4,.rows [.i .u64,.i .u64] 2 y5],.sli 37 false (.rows [.i .i64,.i .i64,.i .i64,.b] y6 y7)]=>some (y0,y1,y2,y3,y4,y5,y6,y7)
 | _,_=>none
theorem qkq (x0 x1:LI) (x2:Int) (x3 x4:LL):fnE qHQ Tryz.f54 ([.s (.ptr 0 0 none 0)]) ([.cells 72 [.arr .i8 81 x0,.arr .i8 16 x1,.one [.i .i8 x2],.rows [.i .u64,.i .u64] 32 x3,.rows [.i .u64,.i .u64] 2 x4]]) qXI=qHP x0 x1 x2 x3 x4:=by kernel_rfl
def qXH:HA:=fun o vs objs K=>match vs,objs with
 | [.s (.ptr 0 0 none 0)],[.cells 72 [.arr .i8 81 x0,.arr .i8 16 x1,.one [.i .i8 x2],.rows [.i .u64,.i .u64] 32 x3,.rows [.i .u64,.i .u64] 2 x4]]=>ob (qHP x0 x1 x2 x3 x4) fun z=>K false (.s (.sl 1 0 (z.1) true)) ([.cells 72 [.arr .i8 81 (z.2.1),.arr .i8 16 (z.2.2.1),.one [.i .i8 (z.2.2.2.1)],.rows [.i .u64,.i .u64] 32 (z.2.2.2.2.1),.rows [.i .u64,.i .u64] 2 (z.2.2.2.2.2.1)],.sli 37 false (.rows [.i .i64,.i .i64,.i .i64,.b] (z.2.2.2.2.2.2.1) (z.2.2.2.2.2.2.2))])
 | _,_=>o 54 vs objs K
def qXL (o:Orc):Orc:=qL 54 (qXH o) o
theorem qku:OQ Tryz.prog qXL:=fun _ ho=>qN ho fun vs objs K r h=>by
 unfold qXH at h
 split at h
 ·skip
  obtain ⟨t,h1,h2⟩:=qE h
  refine q8 mixed qPI (fn:=Tryz.f54) (b:=(Tryz.f54).body.getD .skip) (by kernel_rfl) (by kernel_rfl) (by kernel_rfl) ((qkq _ _ _ _ _).trans h1) (m:=1) rfl (qO.of (l':=[qG Tryz.f54 4,qG Tryz.f54 10]) (by kernel_rfl) ⟨qkw,qkv,trivial⟩) fun v objs' hd=>?_
  unfold qXI at hd;split at hd;(cases hd;exact h2);cases hd
 ·exact ho _ _ _ _ _ h
def qPP:Ex->List V->List Obj->Option ((Bool×LI×LI×Int×LL×LL)⊕(LI×LI×Int×LL×LL)):=fun e vs objs=>match e,vs,objs with
 | .ret,[.s (.b y0)],[.cells 72 [.arr .i8 81 y1,.arr .i8 16 y2,.one [.i .i8 y3],.rows [.i .u64,.i .u64] 32 y4,.rows [.i .u64,.i .u64] 2 y5]]=>some (.inl (y0,y1,y2,y3,y4,y5))
 | .exit 0,[.s .bad],[.cells 72 [.arr .i8 81 y0,.arr .i8 16 y1,.one [.i .i8 y2],.rows [.i .u64,.i .u64] 32 y3,.rows [.i .u64,.i .u64] 2 y4]]=>some (.inr (y0,y1,y2,y3,y4))
 | _,_,_=>none
def qPR:HL:=fun vs objs K=>match vs,objs with
 | [.s (.ptr 1 0 none 0),.s (.sl 2 0 x0 true),.s (.i .i64 x1),.s (.i .i64 x2)],[.cells 72 [.arr .i8 81 x3,.arr .i8 16 x4,.one [.i .i8 x5],.rows [.i .u64,.i .u64] 32 x6,.rows [.i .u64,.i .u64] 2 x7],.cells 37 [.one [.i .i64 x8,.i .i64 x9,.i .i64 x10,.b x11]],.sli 37 false (.rows [.i .i64,.i .i64,.i .i64,.b] x12 x13)]=>ob (qFI qB x0 x1 x2 x3 x4 x5 x6 x7 x8 x9 x10 x11 x12 x13) fun t0=>sw t0 (fun z=>K (.ret) ([.s (.b (z.1))]) ([.cells 72 [.arr .i8 81 (z.2.1),.arr .i8 16 (z.2.2.1),.one [.i .i8 (z.2.2.2.1)],.rows [.i .u64,.i .u64] 32 (z.2.2.2.2.1),.rows [.i .u64,.i .u64] 2 (z.2.2.2.2.2)]])) (fun z=>K (.exit 0) ([.s .bad]) ([.cells 72 [.arr .i8 81 (z.1),.arr .i8 16 (z.2.1),.one [.i .i8 (z.2.2.1)],.rows [.i .u64,.i .u64] 32 (z.2.2.2.1),.rows [.i .u64,.i .u64] 2 (z.2.2.2.2)]]))
 | _,_=>none
def qkz:{R:Type}->Nat->List V->List Obj->(Ex->List V->List Obj->Option R)->Option R:=fun q vs objs K=>bif Nat.beq q 2 then qPR vs objs K else none
def qK0:Ctx:=mkC 18 ((qXL qK)) [(2,[3,8,9,10],[4])] qkz
theorem qXN:CtxOK Tryz.prog qK0:=mkC_ok ((qku _ qM))
def qPQ (f:Nat) (x0:Nat) (x1 x2:Int) (x3 x4:LI) (x5:Int) (x6 x7:LL) (x8 x9 x10:Int) (x11:Bool) (x12:Nat) (x13:LL):Option ((Bool×LI×LI×Int×LL×LL)⊕(LI×LI×Int×LL×LL)):=qg qK0 1 [3,8,9,10] [4] (qG Tryz.f25 2) f ([.s (.ptr 1 0 none 0),.s (.sl 2 0 x0 true),.s (.i .i64 x1),.s (.i .i64 x2)]) ([.cells 72 [.arr .i8 81 x3,.arr .i8 16 x4,.one [.i .i8 x5],.rows [.i .u64,.i .u64] 32 x6,.rows [.i .u64,.i .u64] 2 x7],.cells 37 [.one [.i .i64 x8,.i .i64 x9,.i .i64 x10,.b x11]],.sli 37 false (.rows [.i .i64,.i .i64,.i .i64,.b] x12 x13)]) qPP
theorem qky (f:Nat) (x0:Nat) (x1 x2:Int) (x3 x4:LI) (x5:Int) (x6 x7:LL) (x8 x9 x10:Int) (x11:Bool) (x12:Nat) (x13:LL):qPQ (f+1) x0 x1 x2 x3 x4 x5 x6 x7 x8 x9 x10 x11 x12 x13=qHU (qPQ f) x0 x1 x2 x3 x4 x5 x6 x7 x8 x9 x10 x11 x12 x13:=by kernel_rfl
theorem qXP:∀ f,qPQ f=qFI f
 | 0=>rfl
 | f+1=>by funext x0 x1 x2 x3 x4 x5 x6 x7 x8 x9 x10 x11 x12 x13;rw [qky,qXP f];rfl
theorem qk1:qe Tryz.prog qK0 1 (qG Tryz.f25 2):=
 qh mixed qXN (qO.of (l':=[]) (by kernel_rfl) trivial) (q:=2) (kin:=[3,8,9,10]) (kout:=[4]) (by kernel_rfl) (by kernel_rfl) fun vs objs K r h=>by
  replace h:qPR vs objs K=some r:=h
  unfold qPR at h
  split at h
  ·skip
   obtain ⟨t,h1,h2⟩:=qE h
   rw [<- qXP] at h1
   refine ⟨_,qPP,t,qB,h1,fun e vs' objs' hd=>?_⟩
   unfold qPP at hd
   split at hd
   ·skip
    cases hd
    exact h2
   ·skip
    cases hd
    exact h2
   ·cases hd
  ·cases h
def qXO:V->List Obj->Option (Bool×LI×LI×Int×LL×LL):=fun v objs=>match v,objs with
 | .s (.b y0),[.cells 72 [.arr .i8 81 y1,.arr .i8 16 y2,.one [.i .i8 y3],.rows [.i .u64,.i .u64] 32 y4,.rows [.i .u64,.i .u64] 2 y5]]=>some (y0,y1,y2,y3,y4,y5)
 | _,_=>none
theorem qkx (x0 x1 x2:Int) (x3:Bool) (x4 x5:LI) (x6:Int) (x7 x8:LL):fnE qK0 Tryz.f25 ([.s (.ptr 0 0 none 0),.agg [.one [.i .i64 x0,.i .i64 x1,.i .i64 x2,.b x3]]]) ([.cells 72 [.arr .i8 81 x4,.arr .i8 16 x5,.one [.i .i8 x6],.rows [.i .u64,.i .u64] 32 x7,.rows [.i .u64,.i .u64] 2 x8]]) qXO=qHT x0 x1 x2 x3 x4 x5 x6 x7 x8:=by kernel_rfl
def qXM:HA:=fun o vs objs K=>match vs,objs with
 | [.s (.ptr 0 0 none 0),.agg [.one [.i .i64 x0,.i .i64 x1,.i .i64 x2,.b x3]]],[.cells 72 [.arr .i8 81 x4,.arr .i8 16 x5,.one [.i .i8 x6],.rows [.i .u64,.i .u64] 32 x7,.rows [.i .u64,.i .u64] 2 x8]]=>ob (qHT x0 x1 x2 x3 x4 x5 x6 x7 x8) fun z=>K false (.s (.b (z.1))) ([.cells 72 [.arr .i8 81 (z.2.1),.arr .i8 16 (z.2.2.1),.one [.i .i8 (z.2.2.2.1)],.rows [.i .u64,.i .u64] 32 (z.2.2.2.2.1),.rows [.i .u64,.i .u64] 2 (z.2.2.2.2.2)]])
 | _,_=>o 25 vs objs K
def qXQ (o:Orc):Orc:=qL 25 (qXM o) o
theorem qk0:OQ Tryz.prog qXQ:=fun _ ho=>qN ho fun vs objs K r h=>by
 unfold qXM at h
 split at h
 ·skip
  obtain ⟨t,h1,h2⟩:=qE h
  refine q8 mixed qXN (fn:=Tryz.f25) (b:=(Tryz.f25).body.getD .skip) (by kernel_rfl) (by kernel_rfl) (by kernel_rfl) ((qkx _ _ _ _ _ _ _ _ _).trans h1) (m:=1) rfl (qO.of (l':=[qG Tryz.f25 2]) (by kernel_rfl) ⟨qk1,trivial⟩) fun v objs' hd=>?_
  unfold qXO at hd;split at hd;(cases hd;exact h2);cases hd
 ·exact ho _ _ _ _ _ h
def qYg:Ctx:=mkC 48 (qK) [] qX
theorem qmE:CtxOK Tryz.prog qYg:=mkC_ok (qM)
def qYh:V->List Obj->Option (Int):=fun v objs=>match v,objs with
 | .s (.i .i64 y0),[]=>some (y0)
 | _,_=>none
theorem qmD (x0 x1 x2:Int) (x3:Bool):fnE qYg Tryz.f73 ([.agg [.one [.i .i64 x0,.i .i64 x1,.i .i64 x2,.b x3]]]) ([]) qYh=qDj x0 x1 x2 x3:=by kernel_rfl
def qYf:HA:=fun o vs objs K=>match vs,objs with
 | [.agg [.one [.i .i64 x0,.i .i64 x1,.i .i64 x2,.b x3]]],[]=>ob (qDj x0 x1 x2 x3) fun y0=>K false (.s (.i .i64 y0)) ([])
 | _,_=>o 73 vs objs K
def qP2 (o:Orc):Orc:=qL 73 (qYf o) o
theorem qYi:OQ Tryz.prog qP2:=fun _ ho=>qN ho fun vs objs K r h=>by
 unfold qYf at h
 split at h
 ·skip
  obtain ⟨t,h1,h2⟩:=qE h
  refine qf mixed qmE ((qmD _ _ _ _).trans h1) (by kernel_rfl) fun v objs' hd=>?_
  unfold qYh at hd;split at hd;(cases hd;exact h2);cases hd
 ·exact ho _ _ _ _ _ h
def qVB:Ctx:=mkC 104 ((qJF (qCr (qDo (qFq (qKA (qP2 qK))))))) [] qX
theorem qiD:CtxOK Tryz.prog qVB:=mkC_ok ((qLf _ (qDC _ (qEV _ (qGo _ (qNc _ (qYi _ qM)))))))
def qVC:V->List Obj->Option (Bool):=fun v objs=>match v,objs with
 | .s (.b y0),[]=>some (y0)
 | _,_=>none
theorem qiC (x0 x1 x2:Int) (x3:Bool) (x4:Int) (x5:Nat) (x6 x7:LI) (x8:Int) (x9 x10:LL) (x11:Nat) (x12:LL):fnE qVB Tryz.f55 ([.s (.ptr 0 0 none 0),.agg [.one [.i .i64 x0,.i .i64 x1,.i .i64 x2,.b x3]]]) ([.rcells 66 [.one [.ptr 1 0 none 0,.i .u64 x4,.sl 2 0 x5 true]],.rcells 72 [.arr .i8 81 x6,.arr .i8 16 x7,.one [.i .i8 x8],.rows [.i .u64,.i .u64] 32 x9,.rows [.i .u64,.i .u64] 2 x10],.sli 98 true (.rows [.i .i64,.i .i64,.i .i64,.b,.i .i8,.i .i8] x11 x12)]) (qAP 3 qVC)=qEG x0 x1 x2 x3 x4 x5 x6 x7 x8 x9 x10 x11 x12:=by kernel_rfl
def qVA:HA:=fun o vs objs K=>match vs,List.map Obj.toRO objs with
 | [.s (.ptr 0 0 none 0),.agg [.one [.i .i64 x0,.i .i64 x1,.i .i64 x2,.b x3]]],[.rcells 66 [.one [.ptr 1 0 none 0,.i .u64 x4,.sl 2 0 x5 true]],.rcells 72 [.arr .i8 81 x6,.arr .i8 16 x7,.one [.i .i8 x8],.rows [.i .u64,.i .u64] 32 x9,.rows [.i .u64,.i .u64] 2 x10],.sli 98 true (.rows [.i .i64,.i .i64,.i .i64,.b,.i .i8,.i .i8] x11 x12)]=>ob (qEG x0 x1 x2 x3 x4 x5 x6 x7 x8 x9 x10 x11 x12) fun y0=>K true (.s (.b y0)) ([])
 | _,_=>o 55 vs objs K
def qVD (o:Orc):Orc:=qL 55 (qVA o) o
theorem qiE:OQ Tryz.prog qVD:=fun _ ho=>qN ho fun vs objs K r h=>by
 unfold qVA at h
 split at h
 ·skip
  have hq:List.map Obj.toRO objs=_:=(by rename_i hq;first | exact hq | assumption)
  obtain ⟨t,h1,h2⟩:=qE h
  refine qAn mixed qiD (m:=3) (fn:=Tryz.f55) (b:=(Tryz.f55).body.getD .skip) (by kernel_rfl) (by kernel_rfl) (by kernel_rfl) hq (by kernel_rfl) (by kernel_rfl) (qO.of (l':=[]) (by kernel_rfl) trivial) ((qiC _ _ _ _ _ _ _ _ _ _ _ _ _).trans h1) fun v objs' hd=>?_
  unfold qVC at hd;split at hd;(cases hd;exact h2);cases hd
 ·exact ho _ _ _ _ _ h
def qVJ:Ctx:=mkC 54 ((qOv (qKA qK))) [] qX
theorem qiJ:CtxOK Tryz.prog qVJ:=mkC_ok ((qWk _ (qNc _ qM)))
def qVK:V->List Obj->Option (Int×Nat×LI×LI×Int×LL×LL×Nat×LL):=fun v objs=>match v,objs with
 | .tup [],[.cells 66 [.one [.ptr 1 0 none 0,.i .u64 y0,.sl 2 0 y1 true]],.cells 72 [.arr .i8 81 y2,.arr .i8 16 y3,.one [.i .i8 y4],.rows [.i .u64,.i .u64] 32 y5,.rows [.i .u64,.i .u64] 2 y6],.sli 98 false (.rows [.i .i64,.i .i64,.i .i64,.b,.i .i8,.i .i8] y7 y8)]=>some (y0,y1,y2,y3,y4,y5,y6,y7,y8)
 | _,_=>none
theorem qiI (x0 x1:Int) (x2 x3:Int) (x4:Nat) (x5 x6:LI) (x7:Int) (x8 x9:LL) (x10:Nat) (x11:LL):fnE qVJ Tryz.f57 ([.s (.ptr 0 0 none 0),.s (.i .i64 x0),.s (.i .i64 x1),.s (.i .i64 x2)]) ([.cells 66 [.one [.ptr 1 0 none 0,.i .u64 x3,.sl 2 0 x4 true]],.cells 72 [.arr .i8 81 x5,.arr .i8 16 x6,.one [.i .i8 x7],.rows [.i .u64,.i .u64] 32 x8,.rows [.i .u64,.i .u64] 2 x9],.sli 98 false (.rows [.i .i64,.i .i64,.i .i64,.b,.i .i8,.i .i8] x10 x11)]) qVK=qDZ x0 x1 x2 x3 x4 x5 x6 x7 x8 x9 x10 x11:=by kernel_rfl
def qVI:HA:=fun o vs objs K=>match vs,objs with
 | [.s (.ptr 0 0 none 0),.s (.i .i64 x0),.s (.i .i64 x1),.s (.i .i64 x2)],[.cells 66 [.one [.ptr 1 0 none 0,.i .u64 x3,.sl 2 0 x4 true]],.cells 72 [.arr .i8 81 x5,.arr .i8 16 x6,.one [.i .i8 x7],.rows [.i .u64,.i .u64] 32 x8,.rows [.i .u64,.i .u64] 2 x9],.sli 98 false (.rows [.i .i64,.i .i64,.i .i64,.b,.i .i8,.i .i8] x10 x11)]=>ob (qDZ x0 x1 x2 x3 x4 x5 x6 x7 x8 x9 x10 x11) fun z=>K false (.tup []) ([.cells 66 [.one [.ptr 1 0 none 0,.i .u64 (z.1),.sl 2 0 (z.2.1) true]],.cells 72 [.arr .i8 81 (z.2.2.1),.arr .i8 16 (z.2.2.2.1),.one [.i .i8 (z.2.2.2.2.1)],.rows [.i .u64,.i .u64] 32 (z.2.2.2.2.2.1),.rows [.i .u64,.i .u64] 2 (z.2.2.2.2.2.2.1)],.sli 98 false (.rows [.i .i64,.i .i64,.i .i64,.b,.i .i8,.i .i8] (z.2.2.2.2.2.2.2.1) (z.2.2.2.2.2.2.2.2))])
 | _,_=>o 57 vs objs K
def qVL (o:Orc):Orc:=qL 57 (qVI o) o
theorem qiK:OQ Tryz.prog qVL:=fun _ ho=>qN ho fun vs objs K r h=>by
 unfold qVI at h
 split at h
 ·skip
  obtain ⟨t,h1,h2⟩:=qE h
  refine qf mixed qiJ ((qiI _ _ _ _ _ _ _ _ _ _ _ _).trans h1) (by kernel_rfl) fun v objs' hd=>?_
  unfold qVK at hd;split at hd;(cases hd;exact h2);cases hd
 ·exact ho _ _ _ _ _ h
def qVN:Ctx:=mkC 32 ((qKE (qO5 (qFq qK)))) [] qX
theorem qiM:CtxOK Tryz.prog qVN:=mkC_ok ((qNj _ (qWu _ (qGo _ qM))))
def qVO:V->List Obj->Option (Int×Nat×LI×LI×Int×LL×LL×Nat×LL):=fun v objs=>match v,objs with
 | .tup [],[.cells 66 [.one [.ptr 1 0 none 0,.i .u64 y0,.sl 2 0 y1 true]],.cells 72 [.arr .i8 81 y2,.arr .i8 16 y3,.one [.i .i8 y4],.rows [.i .u64,.i .u64] 32 y5,.rows [.i .u64,.i .u64] 2 y6],.sli 98 false (.rows [.i .i64,.i .i64,.i .i64,.b,.i .i8,.i .i8] y7 y8)]=>some (y0,y1,y2,y3,y4,y5,y6,y7,y8)
 | _,_=>none
theorem qiL (x0 x1 x2:Int) (x3:Nat) (x4 x5:LI) (x6:Int) (x7 x8:LL) (x9:Nat) (x10:LL):fnE qVN Tryz.f58 ([.s (.ptr 0 0 none 0),.s (.i .i64 x0),.s (.i .i8 x1)]) ([.cells 66 [.one [.ptr 1 0 none 0,.i .u64 x2,.sl 2 0 x3 true]],.cells 72 [.arr .i8 81 x4,.arr .i8 16 x5,.one [.i .i8 x6],.rows [.i .u64,.i .u64] 32 x7,.rows [.i .u64,.i .u64] 2 x8],.sli 98 false (.rows [.i .i64,.i .i64,.i .i64,.b,.i .i8,.i .i8] x9 x10)]) qVO=qB5 x0 x1 x2 x3 x4 x5 x6 x7 x8 x9 x10:=by kernel_rfl
def qVM:HA:=fun o vs objs K=>match vs,objs with
 | [.s (.ptr 0 0 none 0),.s (.i .i64 x0),.s (.i .i8 x1)],[.cells 66 [.one [.ptr 1 0 none 0,.i .u64 x2,.sl 2 0 x3 true]],.cells 72 [.arr .i8 81 x4,.arr .i8 16 x5,.one [.i .i8 x6],.rows [.i .u64,.i .u64] 32 x7,.rows [.i .u64,.i .u64] 2 x8],.sli 98 false (.rows [.i .i64,.i .i64,.i .i64,.b,.i .i8,.i .i8] x9 x10)]=>ob (qB5 x0 x1 x2 x3 x4 x5 x6 x7 x8 x9 x10) fun z=>K false (.tup []) ([.cells 66 [.one [.ptr 1 0 none 0,.i .u64 (z.1),.sl 2 0 (z.2.1) true]],.cells 72 [.arr .i8 81 (z.2.2.1),.arr .i8 16 (z.2.2.2.1),.one [.i .i8 (z.2.2.2.2.1)],.rows [.i .u64,.i .u64] 32 (z.2.2.2.2.2.1),.rows [.i .u64,.i .u64] 2 (z.2.2.2.2.2.2.1)],.sli 98 false (.rows [.i .i64,.i .i64,.i .i64,.b,.i .i8,.i .i8] (z.2.2.2.2.2.2.2.1) (z.2.2.2.2.2.2.2.2))])
 | _,_=>o 58 vs objs K
def qVP (o:Orc):Orc:=qL 58 (qVM o) o
theorem qiN:OQ Tryz.prog qVP:=fun _ ho=>qN ho fun vs objs K r h=>by
 unfold qVM at h
 split at h
 ·skip
  obtain ⟨t,h1,h2⟩:=qE h
  refine qf mixed qiM ((qiL _ _ _ _ _ _ _ _ _ _ _).trans h1) (by kernel_rfl) fun v objs' hd=>?_
  unfold qVO at hd;split at hd;(cases hd;exact h2);cases hd
 ·exact ho _ _ _ _ _ h
def qVR:Ctx:=mkC 26 ((qO6 qK)) [] qX
theorem qiP:CtxOK Tryz.prog qVR:=mkC_ok ((qWy _ qM))
def qVS:V->List Obj->Option (Int×Nat×LI×LI×Int×LL×LL×Nat×LL):=fun v objs=>match v,objs with
 | .tup [],[.cells 66 [.one [.ptr 1 0 none 0,.i .u64 y0,.sl 2 0 y1 true]],.cells 72 [.arr .i8 81 y2,.arr .i8 16 y3,.one [.i .i8 y4],.rows [.i .u64,.i .u64] 32 y5,.rows [.i .u64,.i .u64] 2 y6],.sli 98 false (.rows [.i .i64,.i .i64,.i .i64,.b,.i .i8,.i .i8] y7 y8)]=>some (y0,y1,y2,y3,y4,y5,y6,y7,y8)
 | _,_=>none
theorem qiO (x0:Int) (x1:Nat) (x2 x3:LI) (x4:Int) (x5 x6:LL) (x7:Nat) (x8:LL):fnE qVR Tryz.f62 ([.s (.ptr 0 0 none 0)]) ([.cells 66 [.one [.ptr 1 0 none 0,.i .u64 x0,.sl 2 0 x1 true]],.cells 72 [.arr .i8 81 x2,.arr .i8 16 x3,.one [.i .i8 x4],.rows [.i .u64,.i .u64] 32 x5,.rows [.i .u64,.i .u64] 2 x6],.sli 98 false (.rows [.i .i64,.i .i64,.i .i64,.b,.i .i8,.i .i8] x7 x8)]) qVS=qCh x0 x1 x2 x3 x4 x5 x6 x7 x8:=by kernel_rfl
def qVQ:HA:=fun o vs objs K=>match vs,objs with
 | [.s (.ptr 0 0 none 0)],[.cells 66 [.one [.ptr 1 0 none 0,.i .u64 x0,.sl 2 0 x1 true]],.cells 72 [.arr .i8 81 x2,.arr .i8 16 x3,.one [.i .i8 x4],.rows [.i .u64,.i .u64] 32 x5,.rows [.i .u64,.i .u64] 2 x6],.sli 98 false (.rows [.i .i64,.i .i64,.i .i64,.b,.i .i8,.i .i8] x7 x8)]=>ob (qCh x0 x1 x2 x3 x4 x5 x6 x7 x8) fun z=>K false (.tup []) ([.cells 66 [.one [.ptr 1 0 none 0,.i .u64 (z.1),.sl 2 0 (z.2.1) true]],.cells 72 [.arr .i8 81 (z.2.2.1),.arr .i8 16 (z.2.2.2.1),.one [.i .i8 (z.2.2.2.2.1)],.rows [.i .u64,.i .u64] 32 (z.2.2.2.2.2.1),.rows [.i .u64,.i .u64] 2 (z.2.2.2.2.2.2.1)],.sli 98 false (.rows [.i .i64,.i .i64,.i .i64,.b,.i .i8,.i .i8] (z.2.2.2.2.2.2.2.1) (z.2.2.2.2.2.2.2.2))])
 | _,_=>o 62 vs objs K
def qVT (o:Orc):Orc:=qL 62 (qVQ o) o
theorem qiQ:OQ Tryz.prog qVT:=fun _ ho=>qN ho fun vs objs K r h=>by
 unfold qVQ at h
 split at h
 ·skip
  obtain ⟨t,h1,h2⟩:=qE h
  refine qf mixed qiP ((qiO _ _ _ _ _ _ _ _ _).trans h1) (by kernel_rfl) fun v objs' hd=>?_
  unfold qVS at hd;split at hd;(cases hd;exact h2);cases hd
 ·exact ho _ _ _ _ _ h
def qVF:Ctx:=mkC 97 ((qLd (qJF (qCr (qVT (qVP (qVL (qDm (qFq (qVD qK)))))))))) [] qX
theorem qiG:CtxOK Tryz.prog qVF:=mkC_ok ((qQS _ (qLf _ (qDC _ (qiQ _ (qiN _ (qiK _ (qEU _ (qGo _ (qiE _ qM))))))))))
def qVG:V->List Obj->Option ((Bool×Int×Nat×LI×LI×Int×LL×LL×Nat×LL)⊕(Bool×Int×Nat×LI×LI×Int×LL×LL×Nat×LL)):=fun v objs=>match v,objs with
 | .s (.b y0),[.cells 66 [.one [.ptr 1 0 none 0,.i .u64 y1,.sl 2 0 y2 true]],.cells 72 [.arr .i8 81 y3,.arr .i8 16 y4,.one [.i .i8 y5],.rows [.i .u64,.i .u64] 32 y6,.rows [.i .u64,.i .u64] 2 y7],.sli 98 false (.rows [.i .i64,.i .i64,.i .i64,.b,.i .i8,.i .i8] y8 y9)]=>some (.inl (y0,y1,y2,y3,y4,y5,y6,y7,y8,y9))
 | .s (.b y0),[.cells 66 [.one [.ptr 1 0 none 0,.i .u64 y1,.sl 3 0 y2 true]],.cells 72 [.arr .i8 81 y3,.arr .i8 16 y4,.one [.i .i8 y5],.rows [.i .u64,.i .u64] 32 y6,.rows [.i .u64,.i .u64] 2 y7],Obj.dead,.sli 98 false (.rows [.i .i64,.i .i64,.i .i64,.b,.i .i8,.i .i8] y8 y9)]=>some (.inr (y0,y1,y2,y3,y4,y5,y6,y7,y8,y9))
 | _,_=>none
theorem qiF (x0 x1 x2:Int) (x3:Bool) (x4:Int) (x5:Nat) (x6 x7:LI) (x8:Int) (x9 x10:LL) (x11:Nat) (x12:LL):fnE qVF Tryz.f26 ([.s (.ptr 0 0 none 0),.agg [.one [.i .i64 x0,.i .i64 x1,.i .i64 x2,.b x3]]]) ([.cells 66 [.one [.ptr 1 0 none 0,.i .u64 x4,.sl 2 0 x5 true]],.cells 72 [.arr .i8 81 x6,.arr .i8 16 x7,.one [.i .i8 x8],.rows [.i .u64,.i .u64] 32 x9,.rows [.i .u64,.i .u64] 2 x10],.sli 98 false (.rows [.i .i64,.i .i64,.i .i64,.b,.i .i8,.i .i8] x11 x12)]) qVG=qE4 x0 x1 x2 x3 x4 x5 x6 x7 x8 x9 x10 x11 x12:=by kernel_rfl
def qVE:HA:=fun o vs objs K=>match vs,objs with
 | [.s (.ptr 0 0 none 0),.agg [.one [.i .i64 x0,.i .i64 x1,.i .i64 x2,.b x3]]],[.cells 66 [.one [.ptr 1 0 none 0,.i .u64 x4,.sl 2 0 x5 true]],.cells 72 [.arr .i8 81 x6,.arr .i8 16 x7,.one [.i .i8 x8],.rows [.i .u64,.i .u64] 32 x9,.rows [.i .u64,.i .u64] 2 x10],.sli 98 false (.rows [.i .i64,.i .i64,.i .i64,.b,.i .i8,.i .i8] x11 x12)]=>ob (qE4 x0 x1 x2 x3 x4 x5 x6 x7 x8 x9 x10 x11 x12) fun t0=>sw t0 (fun z=>K false (.s (.b (z.1))) ([.cells 66 [.one [.ptr 1 0 none 0,.i .u64 (z.2.1),.sl 2 0 (z.2.2.1) true]],.cells 72 [.arr .i8 81 (z.2.2.2.1),.arr .i8 16 (z.2.2.2.2.1),.one [.i .i8 (z.2.2.2.2.2.1)],.rows [.i .u64,.i .u64] 32 (z.2.2.2.2.2.2.1),.rows [.i .u64,.i .u64] 2 (z.2.2.2.2.2.2.2.1)],.sli 98 false (.rows [.i .i64,.i .i64,.i .i64,.b,.i .i8,.i .i8] (z.2.2.2.2.2.2.2.2.1) (z.2.2.2.2.2.2.2.2.2))])) (fun z=>K false (.s (.b (z.1))) ([.cells 66 [.one [.ptr 1 0 none 0,.i .u64 (z.2.1),.sl 3 0 (z.2.2.1) true]],.cells 72 [.arr .i8 81 (z.2.2.2.1),.arr .i8 16 (z.2.2.2.2.1),.one [.i .i8 (z.2.2.2.2.2.1)],.rows [.i .u64,.i .u64] 32 (z.2.2.2.2.2.2.1),.rows [.i .u64,.i .u64] 2 (z.2.2.2.2.2.2.2.1)],Obj.dead,.sli 98 false (.rows [.i .i64,.i .i64,.i .i64,.b,.i .i8,.i .i8] (z.2.2.2.2.2.2.2.2.1) (z.2.2.2.2.2.2.2.2.2))]))
 | _,_=>o 26 vs objs K
def qVH (o:Orc):Orc:=qL 26 (qVE o) o
theorem qiH:OQ Tryz.prog qVH:=fun _ ho=>qN ho fun vs objs K r h=>by
 unfold qVE at h
 split at h
 ·skip
  obtain ⟨t,h1,h2⟩:=qE h
  refine qf mixed qiG ((qiF _ _ _ _ _ _ _ _ _ _ _ _ _).trans h1) (by kernel_rfl) fun v objs' hd=>?_
  unfold qVG at hd
  split at hd
  ·skip
   cases hd
   exact h2
  ·skip
   cases hd
   exact h2
  ·cases hd
 ·exact ho _ _ _ _ _ h
def qPl:Ex->List V->List Obj->Option ((Nat×Int×Int×Nat×LL×LI×LI×Int×Int×Nat×LI×LI×Int×LL×LL×Nat×LL)⊕(Nat×Nat×LL×LI×LI×Int×Int×Nat×LI×LI×Int×LL×LL×Nat×LL)):=fun e vs objs=>match e,vs,objs with
 | .ret,[.s (.sl 0 0 y0 true),.s (.i .i64 y1),.s (.ptr 1 0 none 0),.s (.i .i64 y2),.s (.ptr 2 0 none 0)],[.sli 37 true (.rows [.i .i64,.i .i64,.i .i64,.b] y3 y4),.cells 28 [.arr .i8 81 y5,.arr .i8 16 y6,.one [.i .i8 y7]],.cells 66 [.one [.ptr 3 0 none 0,.i .u64 y8,.sl 4 0 y9 true]],.cells 72 [.arr .i8 81 y10,.arr .i8 16 y11,.one [.i .i8 y12],.rows [.i .u64,.i .u64] 32 y13,.rows [.i .u64,.i .u64] 2 y14],.sli 98 false (.rows [.i .i64,.i .i64,.i .i64,.b,.i .i8,.i .i8] y15 y16)]=>some (.inl (y0,y1,y2,y3,y4,y5,y6,y7,y8,y9,y10,y11,y12,y13,y14,y15,y16))
 | .exit 0,[.s (.sl 0 0 y0 true),.s .bad,.s (.ptr 1 0 none 0),.s .bad,.s (.ptr 2 0 none 0)],[.sli 37 true (.rows [.i .i64,.i .i64,.i .i64,.b] y1 y2),.cells 28 [.arr .i8 81 y3,.arr .i8 16 y4,.one [.i .i8 y5]],.cells 66 [.one [.ptr 3 0 none 0,.i .u64 y6,.sl 4 0 y7 true]],.cells 72 [.arr .i8 81 y8,.arr .i8 16 y9,.one [.i .i8 y10],.rows [.i .u64,.i .u64] 32 y11,.rows [.i .u64,.i .u64] 2 y12],.sli 98 false (.rows [.i .i64,.i .i64,.i .i64,.b,.i .i8,.i .i8] y13 y14)]=>some (.inr (y0,y1,y2,y3,y4,y5,y6,y7,y8,y9,y10,y11,y12,y13,y14))
 | _,_,_=>none
def qPn:HL:=fun vs objs K=>match vs,objs with
 | [.s (.sl 0 0 x0 true),.s (.ptr 1 0 none 0),.s (.ptr 2 0 none 0),.s (.sl 0 0 x1 true),.s (.i .i64 x2),.s (.i .i64 x3)],[.sli 37 true (.rows [.i .i64,.i .i64,.i .i64,.b] x4 x5),.cells 28 [.arr .i8 81 x6,.arr .i8 16 x7,.one [.i .i8 x8]],.cells 66 [.one [.ptr 3 0 none 0,.i .u64 x9,.sl 4 0 x10 true]],.cells 72 [.arr .i8 81 x11,.arr .i8 16 x12,.one [.i .i8 x13],.rows [.i .u64,.i .u64] 32 x14,.rows [.i .u64,.i .u64] 2 x15],.sli 98 false (.rows [.i .i64,.i .i64,.i .i64,.b,.i .i8,.i .i8] x16 x17)]=>ob (qK9 qB x0 x1 x2 x3 x4 x5 x6 x7 x8 x9 x10 x11 x12 x13 x14 x15 x16 x17) fun t0=>sw t0 (fun z=>K (.ret) ([.s (.sl 0 0 (z.1) true),.s (.i .i64 (z.2.1)),.s (.ptr 1 0 none 0),.s (.i .i64 (z.2.2.1)),.s (.ptr 2 0 none 0)]) ([.sli 37 true (.rows [.i .i64,.i .i64,.i .i64,.b] (z.2.2.2.1) (z.2.2.2.2.1)),.cells 28 [.arr .i8 81 (z.2.2.2.2.2.1),.arr .i8 16 (z.2.2.2.2.2.2.1),.one [.i .i8 (z.2.2.2.2.2.2.2.1)]],.cells 66 [.one [.ptr 3 0 none 0,.i .u64 (z.2.2.2.2.2.2.2.2.1),.sl 4 0 (z.2.2.2.2.2.2.2.2.2.1) true]],.cells 72 [.arr .i8 81 (z.2.2.2.2.2.2.2.2.2.2.1),.arr .i8 16 (z.2.2.2.2.2.2.2.2.2.2.2.1),.one [.i .i8 (z.2.2.2.2.2.2.2.2.2.2.2.2.1)],.rows [.i .u64,.i .u64] 32 (z.2.2.2.2.2.2.2.2.2.2.2.2.2.1),.rows [.i .u64,.i .u64] 2 (z.2.2.2.2.2.2.2.2.2.2.2.2.2.2.1)],.sli 98 false (.rows [.i .i64,.i .i64,.i .i64,.b,.i .i8,.i .i8] (z.2.2.2.2.2.2.2.2.2.2.2.2.2.2.2.1) (z.2.2.2.2.2.2.2.2.2.2.2.2.2.2.2.2))])) (fun z=>K (.exit 0) ([.s (.sl 0 0 (z.1) true),.s .bad,.s (.ptr 1 0 none 0),.s .bad,.s (.ptr 2 0 none 0)]) ([.sli 37 true (.rows [.i .i64,.i .i64,.i .i64,.b] (z.2.1) (z.2.2.1)),.cells 28 [.arr .i8 81 (z.2.2.2.1),.arr .i8 16 (z.2.2.2.2.1),.one [.i .i8 (z.2.2.2.2.2.1)]],.cells 66 [.one [.ptr 3 0 none 0,.i .u64 (z.2.2.2.2.2.2.1),.sl 4 0 (z.2.2.2.2.2.2.2.1) true]],.cells 72 [.arr .i8 81 (z.2.2.2.2.2.2.2.2.1),.arr .i8 16 (z.2.2.2.2.2.2.2.2.2.1),.one [.i .i8 (z.2.2.2.2.2.2.2.2.2.2.1)],.rows [.i .u64,.i .u64] 32 (z.2.2.2.2.2.2.2.2.2.2.2.1),.rows [.i .u64,.i .u64] 2 (z.2.2.2.2.2.2.2.2.2.2.2.2.1)],.sli 98 false (.rows [.i .i64,.i .i64,.i .i64,.b,.i .i8,.i .i8] (z.2.2.2.2.2.2.2.2.2.2.2.2.2.1) (z.2.2.2.2.2.2.2.2.2.2.2.2.2.2))]))
 | _,_=>none
def qlb:{R:Type}->Nat->List V->List Obj->(Ex->List V->List Obj->Option R)->Option R:=fun q vs objs K=>bif Nat.beq q 6 then qPn vs objs K else none
def qK8:Ctx:=mkC 54 ((qVH (qXQ (qOH (qM5 qK))))) [(6,[1,5,8,19,20,21],[1,4,5,6,8])] qlb
theorem qX2:CtxOK Tryz.prog qK8:=mkC_ok ((qiH _ (qk0 _ (qVX _ (qTN _ qM)))))
def qPm (f:Nat) (x0 x1:Nat) (x2 x3:Int) (x4:Nat) (x5:LL) (x6 x7:LI) (x8 x9:Int) (x10:Nat) (x11 x12:LI) (x13:Int) (x14 x15:LL) (x16:Nat) (x17:LL):Option ((Nat×Int×Int×Nat×LL×LI×LI×Int×Int×Nat×LI×LI×Int×LL×LL×Nat×LL)⊕(Nat×Nat×LL×LI×LI×Int×Int×Nat×LI×LI×Int×LL×LL×Nat×LL)):=qg qK8 1 [1,5,8,19,20,21] [1,4,5,6,8] (qG Tryz.f9 6) f ([.s (.sl 0 0 x0 true),.s (.ptr 1 0 none 0),.s (.ptr 2 0 none 0),.s (.sl 0 0 x1 true),.s (.i .i64 x2),.s (.i .i64 x3)]) ([.sli 37 true (.rows [.i .i64,.i .i64,.i .i64,.b] x4 x5),.cells 28 [.arr .i8 81 x6,.arr .i8 16 x7,.one [.i .i8 x8]],.cells 66 [.one [.ptr 3 0 none 0,.i .u64 x9,.sl 4 0 x10 true]],.cells 72 [.arr .i8 81 x11,.arr .i8 16 x12,.one [.i .i8 x13],.rows [.i .u64,.i .u64] 32 x14,.rows [.i .u64,.i .u64] 2 x15],.sli 98 false (.rows [.i .i64,.i .i64,.i .i64,.b,.i .i8,.i .i8] x16 x17)]) qPl
theorem qla (f:Nat) (x0 x1:Nat) (x2 x3:Int) (x4:Nat) (x5:LL) (x6 x7:LI) (x8 x9:Int) (x10:Nat) (x11 x12:LI) (x13:Int) (x14 x15:LL) (x16:Nat) (x17:LL):qPm (f+1) x0 x1 x2 x3 x4 x5 x6 x7 x8 x9 x10 x11 x12 x13 x14 x15 x16 x17=qX5 (qPm f) x0 x1 x2 x3 x4 x5 x6 x7 x8 x9 x10 x11 x12 x13 x14 x15 x16 x17:=by kernel_rfl
theorem qX4:∀ f,qPm f=qK9 f
 | 0=>rfl
 | f+1=>by funext x0 x1 x2 x3 x4 x5 x6 x7 x8 x9 x10 x11 x12 x13 x14 x15 x16 x17;rw [qla,qX4 f];rfl
theorem qld:qe Tryz.prog qK8 1 (qG Tryz.f9 6):=
 qh mixed qX2 (qO.of (l':=[]) (by kernel_rfl) trivial) (q:=6) (kin:=[1,5,8,19,20,21]) (kout:=[1,4,5,6,8]) (by kernel_rfl) (by kernel_rfl) fun vs objs K r h=>by
  replace h:qPn vs objs K=some r:=h
  unfold qPn at h
  split at h
  ·skip
   obtain ⟨t,h1,h2⟩:=qE h
   rw [<- qX4] at h1
   refine ⟨_,qPl,t,qB,h1,fun e vs' objs' hd=>?_⟩
   unfold qPl at hd
   split at hd
   ·skip
    cases hd
    exact h2
   ·skip
    cases hd
    exact h2
   ·cases hd
  ·cases h
def qX3:V->List Obj->Option (Int×LI×LI×Int×Int):=fun v objs=>match v,objs with
 | .tup [W.s (.i .i64 y0),W.agg [.arr .i8 81 y1,.arr .i8 16 y2,.one [.i .i8 y3]],W.s (.i .i64 y4)],[]=>some (y0,y1,y2,y3,y4)
 | _,_=>none
theorem qlU (x0 x1:LI) (x2:Int) (x3 x4:Nat) (x5:LL):fnE qK8 Tryz.f9 ([.agg [.arr .i8 81 x0,.arr .i8 16 x1,.one [.i .i8 x2]],.s (.sl 0 0 x3 true)]) ([.sli 37 true (.rows [.i .i64,.i .i64,.i .i64,.b] x4 x5)]) (qAP 1 qX3)=qPg x0 x1 x2 x3 x4 x5:=by kernel_rfl
def qX1:HA:=fun o vs objs K=>match vs,List.map Obj.toRO objs with
 | [.agg [.arr .i8 81 x0,.arr .i8 16 x1,.one [.i .i8 x2]],.s (.sl 0 0 x3 true)],[.sli 37 true (.rows [.i .i64,.i .i64,.i .i64,.b] x4 x5)]=>ob (qPg x0 x1 x2 x3 x4 x5) fun z=>K true (.tup [W.s (.i .i64 (z.1)),W.agg [.arr .i8 81 (z.2.1),.arr .i8 16 (z.2.2.1),.one [.i .i8 (z.2.2.2.1)]],W.s (.i .i64 (z.2.2.2.2))]) ([])
 | _,_=>o 9 vs objs K
def qX6 (o:Orc):Orc:=qL 9 (qX1 o) o
theorem qlc:OQ Tryz.prog qX6:=fun _ ho=>qN ho fun vs objs K r h=>by
 unfold qX1 at h
 split at h
 ·skip
  have hq:List.map Obj.toRO objs=_:=(by rename_i hq;first | exact hq | assumption)
  obtain ⟨t,h1,h2⟩:=qE h
  refine qAn mixed qX2 (m:=1) (fn:=Tryz.f9) (b:=(Tryz.f9).body.getD .skip) (by kernel_rfl) (by kernel_rfl) (by kernel_rfl) hq (by kernel_rfl) (by kernel_rfl) (qO.of (l':=[qG Tryz.f9 6]) (by kernel_rfl) ⟨qld,trivial⟩) ((qlU _ _ _ _ _ _).trans h1) fun v objs' hd=>?_
  unfold qX3 at hd;split at hd;(cases hd;exact h2);cases hd
 ·exact ho _ _ _ _ _ h
def qSz:Ex->List V->List Obj->Option (Int):=fun e vs objs=>match e,vs,objs with
 | .exit 0,[.s (.i .i64 y0)],[]=>some (y0)
 | _,_,_=>none
def qS2:HL:=fun vs objs K=>match vs,objs with
 | [.s (.i .i64 x0),.s (S.it 0)],[Obj.iter x1 x2]=>ob (qMo qB x0 x1 x2) fun y0=>K (.exit 0) ([.s (.i .i64 y0)]) ([])
 | _,_=>none
def qtn:{R:Type}->Nat->List V->List Obj->(Ex->List V->List Obj->Option R)->Option R:=fun q vs objs K=>bif Nat.beq q 2 then qS2 vs objs K else none
def qMn:Ctx:=mkC 10 (qK) [(2,[2,4],[2])] qtn
theorem qev:CtxOK Tryz.prog qMn:=mkC_ok (qM)
def qS0 (f:Nat) (x0:Int) (x1:ByteArray) (x2:Nat):Option (Int):=qg qMn 0 [2,4] [2] (qG Tryz.f138 2) f ([.s (.i .i64 x0),.s (S.it 0)]) ([Obj.iter x1 x2]) qSz
theorem qtm (f:Nat) (x0:Int) (x1:ByteArray) (x2:Nat):qS0 (f+1) x0 x1 x2=qey (qS0 f) x0 x1 x2:=by kernel_rfl
theorem qex:∀ f,qS0 f=qMo f
 | 0=>rfl
 | f+1=>by funext x0 x1 x2;rw [qtm,qex f];rfl
theorem qto:qe Tryz.prog qMn 0 (qG Tryz.f138 2):=
 qh mixed qev (qO.of (l':=[]) (by kernel_rfl) trivial) (q:=2) (kin:=[2,4]) (kout:=[2]) (by kernel_rfl) (by kernel_rfl) fun vs objs K r h=>by
  replace h:qS2 vs objs K=some r:=h
  unfold qS2 at h
  split at h
  ·skip
   obtain ⟨t,h1,h2⟩:=qE h
   rw [<- qex] at h1
   refine ⟨_,qSz,t,qB,h1,fun e vs' objs' hd=>?_⟩
   unfold qSz at hd;split at hd;(cases hd;exact h2);cases hd
  ·cases h
def qew:V->List Obj->Option (Int):=fun v objs=>match v,objs with
 | .s (.i .i64 y0),[]=>some (y0)
 | _,_=>none
theorem qtl (x0:ByteArray):fnE qMn Tryz.f138 ([.s (.str x0)]) ([]) qew=qMm x0:=by kernel_rfl
def qeu:HA:=fun o vs objs K=>match vs,objs with
 | [.s (.str x0)],[]=>ob (qMm x0) fun y0=>K false (.s (.i .i64 y0)) ([])
 | _,_=>o 138 vs objs K
def qS1 (o:Orc):Orc:=qL 138 (qeu o) o
theorem qez:OQ Tryz.prog qS1:=fun _ ho=>qN ho fun vs objs K r h=>by
 unfold qeu at h
 split at h
 ·skip
  obtain ⟨t,h1,h2⟩:=qE h
  refine q8 mixed qev (fn:=Tryz.f138) (b:=(Tryz.f138).body.getD .skip) (by kernel_rfl) (by kernel_rfl) (by kernel_rfl) ((qtl _).trans h1) (m:=0) rfl (qO.of (l':=[qG Tryz.f138 2]) (by kernel_rfl) ⟨qto,trivial⟩) fun v objs' hd=>?_
  unfold qew at hd;split at hd;(cases hd;exact h2);cases hd
 ·exact ho _ _ _ _ _ h
def qe1:Ctx:=mkC 117 (qK) [] qX
theorem qtq:CtxOK Tryz.prog qe1:=mkC_ok (qM)
def qe2:V->List Obj->Option (Int×Int):=fun v objs=>match v,objs with
 | .tup [W.s (.i .i32 y0),W.s (.i .i64 y1)],[]=>some (y0,y1)
 | _,_=>none
theorem qtp (x0:ByteArray):fnE qe1 Tryz.f154 ([.s (.str x0)]) ([]) qe2=qMp x0:=by kernel_rfl
def qe0:HA:=fun o vs objs K=>match vs,objs with
 | [.s (.str x0)],[]=>ob (qMp x0) fun z=>K false (.tup [W.s (.i .i32 (z.1)),W.s (.i .i64 (z.2))]) ([])
 | _,_=>o 154 vs objs K
def qe3 (o:Orc):Orc:=qL 154 (qe0 o) o
theorem qtr:OQ Tryz.prog qe3:=fun _ ho=>qN ho fun vs objs K r h=>by
 unfold qe0 at h
 split at h
 ·skip
  obtain ⟨t,h1,h2⟩:=qE h
  refine qf mixed qtq ((qtp _).trans h1) (by kernel_rfl) fun v objs' hd=>?_
  unfold qe2 at hd;split at hd;(cases hd;exact h2);cases hd
 ·exact ho _ _ _ _ _ h
def qer:Ctx:=mkC 19 ((qe3 qK)) [] qX
theorem qtj:CtxOK Tryz.prog qer:=mkC_ok ((qtr _ qM))
def qes:V->List Obj->Option (Int×Int):=fun v objs=>match v,objs with
 | .tup [W.s (.i .i32 y0),W.s (.i .i64 y1)],[]=>some (y0,y1)
 | _,_=>none
theorem qti (x0:ByteArray):fnE qer Tryz.f139 ([.s (.str x0)]) ([]) qes=qSy x0:=by kernel_rfl
def qeq:HA:=fun o vs objs K=>match vs,objs with
 | [.s (.str x0)],[]=>ob (qSy x0) fun z=>K false (.tup [W.s (.i .i32 (z.1)),W.s (.i .i64 (z.2))]) ([])
 | _,_=>o 139 vs objs K
def qet (o:Orc):Orc:=qL 139 (qeq o) o
theorem qtk:OQ Tryz.prog qet:=fun _ ho=>qN ho fun vs objs K r h=>by
 unfold qeq at h
 split at h
 ·skip
  obtain ⟨t,h1,h2⟩:=qE h
  refine qf mixed qtj ((qti _).trans h1) (by kernel_rfl) fun v objs' hd=>?_
  unfold qes at hd;split at hd;(cases hd;exact h2);cases hd
 ·exact ho _ _ _ _ _ h
def qSf:Ex->List V->List Obj->Option (ByteArray×Int×Nat×Nat×LL):=fun e vs objs=>match e,vs,objs with
 | .exit 0,[.s (.str y0),.s (.i .i64 y1),.s (.sl 0 0 y2 true)],[.sli 9 false (.rows [CK.s] y3 y4)]=>some (y0,y1,y2,y3,y4)
 | _,_,_=>none
def qSh:HL:=fun vs objs K=>match vs,objs with
 | [.s (.str x0),.s (.i .i64 x1),.s (.sl 0 0 x2 true),.s (.i .i64 x3)],[.sli 9 false (.rows [CK.s] x4 x5)]=>ob (qIM qB x0 x1 x2 x3 x4 x5) fun z=>K (.exit 0) ([.s (.str (z.1)),.s (.i .i64 (z.2.1)),.s (.sl 0 0 (z.2.2.1) true)]) ([.sli 9 false (.rows [CK.s] (z.2.2.2.1) (z.2.2.2.2))])
 | _,_=>none
def qs4:{R:Type}->Nat->List V->List Obj->(Ex->List V->List Obj->Option R)->Option R:=fun q vs objs K=>bif Nat.beq q 6 then qSh vs objs K else none
def qMd:Ctx:=mkC 50 ((qet (qS1 qK))) [(6,[0,1,6,7],[0,1,6])] qs4
theorem qeK:CtxOK Tryz.prog qMd:=mkC_ok ((qtk _ (qez _ qM)))
def qSg (f:Nat) (x0:ByteArray) (x1:Int) (x2:Nat) (x3:Int) (x4:Nat) (x5:LL):Option (ByteArray×Int×Nat×Nat×LL):=qg qMd 0 [0,1,6,7] [0,1,6] (qG Tryz.f108 6) f ([.s (.str x0),.s (.i .i64 x1),.s (.sl 0 0 x2 true),.s (.i .i64 x3)]) ([.sli 9 false (.rows [CK.s] x4 x5)]) qSf
theorem qs3 (f:Nat) (x0:ByteArray) (x1:Int) (x2:Nat) (x3:Int) (x4:Nat) (x5:LL):qSg (f+1) x0 x1 x2 x3 x4 x5=qeN (qSg f) x0 x1 x2 x3 x4 x5:=by kernel_rfl
theorem qeM:∀ f,qSg f=qIM f
 | 0=>rfl
 | f+1=>by funext x0 x1 x2 x3 x4 x5;rw [qs3,qeM f];rfl
theorem qs6:qe Tryz.prog qMd 0 (qG Tryz.f108 6):=
 qh mixed qeK (qO.of (l':=[]) (by kernel_rfl) trivial) (q:=6) (kin:=[0,1,6,7]) (kout:=[0,1,6]) (by kernel_rfl) (by kernel_rfl) fun vs objs K r h=>by
  replace h:qSh vs objs K=some r:=h
  unfold qSh at h
  split at h
  ·skip
   obtain ⟨t,h1,h2⟩:=qE h
   rw [<- qeM] at h1
   refine ⟨_,qSf,t,qB,h1,fun e vs' objs' hd=>?_⟩
   unfold qSf at hd;split at hd;(cases hd;exact h2);cases hd
  ·cases h
def qeL:V->List Obj->Option (Nat×Nat×LL):=fun v objs=>match v,objs with
 | .s (.sl 0 0 y0 true),[.sli 9 false (.rows [CK.s] y1 y2)]=>some (y0,y1,y2)
 | _,_=>none
theorem qs2 (x0:ByteArray) (x1:Int):fnE qMd Tryz.f108 ([.s (.str x0),.s (.i .i64 x1)]) ([]) qeL=qSe x0 x1:=by kernel_rfl
def qeJ:HA:=fun o vs objs K=>match vs,objs with
 | [.s (.str x0),.s (.i .i64 x1)],[]=>ob (qSe x0 x1) fun z=>K false (.s (.sl 0 0 (z.1) true)) ([.sli 9 false (.rows [CK.s] (z.2.1) (z.2.2))])
 | _,_=>o 108 vs objs K
def qeO (o:Orc):Orc:=qL 108 (qeJ o) o
theorem qs5:OQ Tryz.prog qeO:=fun _ ho=>qN ho fun vs objs K r h=>by
 unfold qeJ at h
 split at h
 ·skip
  obtain ⟨t,h1,h2⟩:=qE h
  refine q8 mixed qeK (fn:=Tryz.f108) (b:=(Tryz.f108).body.getD .skip) (by kernel_rfl) (by kernel_rfl) (by kernel_rfl) ((qs2 _ _).trans h1) (m:=0) rfl (qO.of (l':=[qG Tryz.f108 6]) (by kernel_rfl) ⟨qs6,trivial⟩) fun v objs' hd=>?_
  unfold qeL at hd;split at hd;(cases hd;exact h2);cases hd
 ·exact ho _ _ _ _ _ h
end
end Go.Kk.KkLO
