/- Printed by a tool of this project (KkGen): the program's functions come to the plain ones. -/
import Derived.Test.YthklalefbhbhmaaGreatDoorKkGTe
namespace Go.Kk.KkGT
noncomputable section
open Go.Proofs Go.Kk.Pl
set_option maxRecDepth 100000
set_option maxHeartbeats 4000000
def qhh:Ctx:=mkC 13 (qK) [] qV
theorem qhi:CtxOK Tryz.prog qhh:=mkC_ok (qM)
def qVp:V->List Obj->Option (LI×LI×Int×LI×LI×Int×Nat×Nat×Nat×Int×Int×Int×Nat×Nat×LL×Nat×LL×LL×Nat×List Bool×LI×LI×Int×LL×LL×Nat×LL×LL):=fun v objs=>match v,objs with
 | .agg [.arr .i8 81 y0,.arr .i8 16 y1,.one [.i .i8 y2]],[.cells 71 [.arr .i8 81 y3,.arr .i8 16 y4,.one [.i .i8 y5],.one [.ptr 1 0 none 0,.sl 2 0 y6 true,.sl 3 0 y7 true,.mp 4,.sl 5 0 y8 true,.i .i64 y9,.i .i64 y10]],.cells 80 [.one [.ptr 6 0 none 0,.i .u64 y11,.sl 7 0 y12 true]],.sli 43 false (.rows [.i .i64,.i .i64,.i .i64,.b] y13 y14),.sli 28 false (.rows kk0 y15 y16),Obj.maps false [.i .u64] y17 8 none,.sli 4 false (Seg.barr y18 y19),.cells 87 [.arr .i8 81 y20,.arr .i8 16 y21,.one [.i .i8 y22],.rows [.i .u64,.i .u64] 32 y23,.rows [.i .u64,.i .u64] 2 y24],.sli 109 false (.rows [.i .i64,.i .i64,.i .i64,.b,.i .i8,.i .i8] y25 y26),Obj.pol 3 (PS.a .i64 y27)]=>bif decide (kk0=kL0) then some (y0,y1,y2,y3,y4,y5,y6,y7,y8,y9,y10,y11,y12,y13,y14,y15,y16,y17,y18,y19,y20,y21,y22,y23,y24,y25,y26,y27) else none
 | _,_=>none
def qVo:HA:=fun o vs objs K=>match vs,objs with
 | [.s (.ptr 0 0 none 0)],[.cells 71 [.arr .i8 81 x0,.arr .i8 16 x1,.one [.i .i8 x2],.one [.ptr 1 0 none 0,.sl 2 0 x3 true,.sl 3 0 x4 true,.mp 4,.sl 5 0 x5 true,.i .i64 x6,.i .i64 x7]],.cells 80 [.one [.ptr 6 0 none 0,.i .u64 x8,.sl 7 0 x9 true]],.sli 43 false (.rows [.i .i64,.i .i64,.i .i64,.b] x10 x11),.sli 28 false (.rows kk0 x12 x13),Obj.maps false [.i .u64] x14 8 none,.sli 4 false (Seg.barr x15 x16),.cells 87 [.arr .i8 81 x17,.arr .i8 16 x18,.one [.i .i8 x19],.rows [.i .u64,.i .u64] 32 x20,.rows [.i .u64,.i .u64] 2 x21],.sli 109 false (.rows [.i .i64,.i .i64,.i .i64,.b,.i .i8,.i .i8] x22 x23),Obj.pol 3 (PS.a .i64 x24)]=>bif decide (kk0=kL0) then ob (qF1 x0 x1 x2 x3 x4 x5 x6 x7 x8 x9 x10 x11 x12 x13 x14 x15 x16 x17 x18 x19 x20 x21 x22 x23 x24) fun (z0,z1,z2,z3,z4,z5,z6,z7,z8,z9,z10,z11,z12,z13,z14,z15,z16,z17,z18,z19,z20,z21,z22,z23,z24,z25,z26,z27)=>K false (.agg [.arr .i8 81 z0,.arr .i8 16 z1,.one [.i .i8 z2]]) ([.cells 71 [.arr .i8 81 z3,.arr .i8 16 z4,.one [.i .i8 z5],.one [.ptr 1 0 none 0,.sl 2 0 z6 true,.sl 3 0 z7 true,.mp 4,.sl 5 0 z8 true,.i .i64 z9,.i .i64 z10]],.cells 80 [.one [.ptr 6 0 none 0,.i .u64 z11,.sl 7 0 z12 true]],.sli 43 false (.rows [.i .i64,.i .i64,.i .i64,.b] z13 z14),.sli 28 false (.rows kL0 z15 z16),Obj.maps false [.i .u64] z17 8 none,.sli 4 false (Seg.barr z18 z19),.cells 87 [.arr .i8 81 z20,.arr .i8 16 z21,.one [.i .i8 z22],.rows [.i .u64,.i .u64] 32 z23,.rows [.i .u64,.i .u64] 2 z24],.sli 109 false (.rows [.i .i64,.i .i64,.i .i64,.b,.i .i8,.i .i8] z25 z26),Obj.pol 3 (PS.a .i64 z27)]) else none
 | _,_=>o 15 vs objs K
def qVq (o:Orc):Orc:=qL 15 (qVo o) o
theorem qhj:OQ Tryz.prog qVq:=fun _ ho=>qN ho fun vs objs K r h=>by
 unfold qVo at h
 split at h
 ·obtain rfl:=(ql h).1
  replace h:=(ql h).2
  obtain⟨t,h1,h2⟩:=qE h
  refine qd mixed qhi (D:=qVp) (fn:=Tryz.f15) (Eq.trans (by kernel_rfl) h1) (by kernel_rfl) fun v objs' hd=>?_
  unfold qVp at hd;split at hd;(obtain rfl:=(ql hd).1;replace hd:=(ql hd).2;cases hd;exact h2);cases hd
 ·exact ho _ _ _ _ _ h
def qPE:Ex->List V->List Obj->Option ((Bool×Nat×LI)⊕(Nat×LI)):=fun e vs objs=>match e,vs,objs with
 | .ret,[.s (.b y0)],[.sli 3 true (.arr .i64 y1 y2)]=>some (.inl (y0,y1,y2))
 | .exit 0,[.s .bad],[.sli 3 true (.arr .i64 y0 y1)]=>some (.inr (y0,y1))
 | _,_,_=>none
def qPG:HL:=fun vs objs K=>match vs,objs with
 | [.s (.ptr 1 0 none 0),.s (.sl 2 0 x0 true),.s (.i .i64 x1),.s (.i .i64 x2)],[.sli 3 true (.arr .i64 x3 x4),.cells 71 [.arr .i8 81 x5,.arr .i8 16 x6,.one [.i .i8 x7],.one [.ptr 3 0 none 0,.sl 4 0 x8 true,.sl 5 0 x9 true,.mp 6,.sl 7 0 x10 true,.i .i64 x11,.i .i64 x12]],.sli 3 false (.arr .i64 x13 x14),.cells 80 [.one [.ptr 8 0 none 0,.i .u64 x15,.sl 9 0 x16 true]],.sli 43 false (.rows [.i .i64,.i .i64,.i .i64,.b] x17 x18),.sli 28 false (.rows kk0 x19 x20),Obj.maps false [.i .u64] x21 10 none,.sli 4 false (Seg.barr x22 x23),.cells 87 [.arr .i8 81 x24,.arr .i8 16 x25,.one [.i .i8 x26],.rows [.i .u64,.i .u64] 32 x27,.rows [.i .u64,.i .u64] 2 x28],.sli 109 false (.rows [.i .i64,.i .i64,.i .i64,.b,.i .i8,.i .i8] x29 x30),Obj.pol 3 (PS.a .i64 x31)]=>bif decide (kk0=kL0) then ob (qFE qC x0 x1 x2 x3 x4 x5 x6 x7 x8 x9 x10 x11 x12 x13 x14 x15 x16 x17 x18 x19 x20 x21 x22 x23 x24 x25 x26 x27 x28 x29 x30 x31) fun t0=>sw t0 (fun (z0,z1,z2)=>K (.ret) ([.s (.b z0)]) ([.sli 3 true (.arr .i64 z1 z2)])) (fun (z0,z1)=>K (.exit 0) ([.s .bad]) ([.sli 3 true (.arr .i64 z0 z1)])) else none
 | _,_=>none
def qjR:{R:Type}->Nat->List V->List Obj->(Ex->List V->List Obj->Option R)->Option R:=fun q vs objs K=>bif Nat.beq q 9 then qPG vs objs K else none
def qPC:Ctx:=mkC 117 ((qOH (qOA (qbN (qVq (qOB (qan (qXX qK)))))))) [(9,[5,37,38,39],[4])] qjR
theorem qPD:CtxOK Tryz.prog qPC:=mkC_ok ((qV6 _ (qVh _ (qoV _ (qhj _ (qVn _ (qny _ (qjV _ qM))))))))
def qPF (f:Nat) (x0:Nat) (x1 x2:Int) (x3:Nat) (x4 x5 x6:LI) (x7:Int) (x8 x9 x10:Nat) (x11 x12:Int) (x13:Nat) (x14:LI) (x15:Int) (x16 x17:Nat) (x18:LL) (x19:Nat) (x20 x21:LL) (x22:Nat) (x23:List Bool) (x24 x25:LI) (x26:Int) (x27 x28:LL) (x29:Nat) (x30 x31:LL):Option ((Bool×Nat×LI)⊕(Nat×LI)):=qh qPC 1 [5,37,38,39] [4] (qF Tryz.f4 9) f ([.s (.ptr 1 0 none 0),.s (.sl 2 0 x0 true),.s (.i .i64 x1),.s (.i .i64 x2)]) ([.sli 3 true (.arr .i64 x3 x4),.cells 71 [.arr .i8 81 x5,.arr .i8 16 x6,.one [.i .i8 x7],.one [.ptr 3 0 none 0,.sl 4 0 x8 true,.sl 5 0 x9 true,.mp 6,.sl 7 0 x10 true,.i .i64 x11,.i .i64 x12]],.sli 3 false (.arr .i64 x13 x14),.cells 80 [.one [.ptr 8 0 none 0,.i .u64 x15,.sl 9 0 x16 true]],.sli 43 false (.rows [.i .i64,.i .i64,.i .i64,.b] x17 x18),.sli 28 false (.rows kL0 x19 x20),Obj.maps false [.i .u64] x21 10 none,.sli 4 false (Seg.barr x22 x23),.cells 87 [.arr .i8 81 x24,.arr .i8 16 x25,.one [.i .i8 x26],.rows [.i .u64,.i .u64] 32 x27,.rows [.i .u64,.i .u64] 2 x28],.sli 109 false (.rows [.i .i64,.i .i64,.i .i64,.b,.i .i8,.i .i8] x29 x30),Obj.pol 3 (PS.a .i64 x31)]) qPE
theorem qjQ (f:Nat) (x0:Nat) (x1 x2:Int) (x3:Nat) (x4 x5 x6:LI) (x7:Int) (x8 x9 x10:Nat) (x11 x12:Int) (x13:Nat) (x14:LI) (x15:Int) (x16 x17:Nat) (x18:LL) (x19:Nat) (x20 x21:LL) (x22:Nat) (x23:List Bool) (x24 x25:LI) (x26:Int) (x27 x28:LL) (x29:Nat) (x30 x31:LL):qPF (f+1) x0 x1 x2 x3 x4 x5 x6 x7 x8 x9 x10 x11 x12 x13 x14 x15 x16 x17 x18 x19 x20 x21 x22 x23 x24 x25 x26 x27 x28 x29 x30 x31=qK3 (qPF f) x0 x1 x2 x3 x4 x5 x6 x7 x8 x9 x10 x11 x12 x13 x14 x15 x16 x17 x18 x19 x20 x21 x22 x23 x24 x25 x26 x27 x28 x29 x30 x31:=by kernel_rfl
theorem qXT:∀ f,qPF f=qFE f
 | 0=>rfl
 | f+1=>by funext x0 x1 x2 x3 x4 x5 x6 x7 x8 x9 x10 x11 x12 x13 x14 x15 x16 x17 x18 x19 x20 x21 x22 x23 x24 x25 x26 x27 x28 x29 x30 x31;rw[qjQ,qXT f];rfl
theorem qXU:qe Tryz.prog qPC 1 (qF Tryz.f4 9):=
 qj mixed qPD (qP.of (l':=[]) (by kernel_rfl) trivial) (q:=9) (kin:=[5,37,38,39]) (kout:=[4]) (by kernel_rfl) (by kernel_rfl) fun vs objs K r h=>by
  replace h:qPG vs objs K=some r:=h
  unfold qPG at h
  split at h
  ·obtain rfl:=(ql h).1
   replace h:=(ql h).2
   obtain⟨t,h1,h2⟩:=qE h
   rw[<- qXT] at h1
   refine⟨_,qPE,t,qC,h1,fun e vs' objs' hd=>?_⟩
   unfold qPE at hd;split at hd;(cases hd;exact h2);(cases hd;exact h2);cases hd
  ·cases h
def qK2:V->List Obj->Option (Bool):=fun v objs=>match v,objs with
 | .s (.b y0),[]=>some (y0)
 | _,_=>none
def qXS:HA:=fun o vs objs K=>match vs,List.map Obj.toRO objs with
 | [.agg [.arr .i8 81 x0,.arr .i8 16 x1,.one [.i .i8 x2]],.s (.sl 0 x3 x4 false)],[.sli 3 true (.arr .i64 x5 x6)]=>ob (qK1 x0 x1 x2 x3 x4 x5 x6) fun y0=>K true (.s (.b y0)) ([])
 | _,_=>o 4 vs objs K
def qjS (o:Orc):Orc:=qL 4 (qXS o) o
theorem qjP {vs:List V} {objs:List Obj} (x0 x1:LI) (x2:Int) (x3 x4 x5:Nat) (x6:LI) {R:Type} {K:Bool->V->List Obj->Option R} {r:R} (hv:vs=[.agg [.arr .i8 81 x0,.arr .i8 16 x1,.one [.i .i8 x2]],.s (.sl 0 x3 x4 false)]) (ho:List.map Obj.toRO objs=[.sli 3 true (.arr .i64 x5 x6)]) (h:ob (qK1 x0 x1 x2 x3 x4 x5 x6) (fun y0=>K true (.s (.b y0)) ([]))=some r):
  ∃ p v objs',K p v objs'=some r /\ qDT Tryz.prog 4 vs objs p v objs':=by
 subst hv
 obtain⟨t,h1,h2⟩:=qE h
 refine qAs mixed qPD (D:=qK2) (m:=1) (fn:=Tryz.f4) (by kernel_rfl) ho (by kernel_rfl) (by kernel_rfl) (qP.of (l':=[qF Tryz.f4 9]) (by kernel_rfl) ⟨qXU,trivial⟩) (Eq.trans (by kernel_rfl) h1) fun v objs' hd=>?_
 unfold qK2 at hd;split at hd;(cases hd;exact h2);cases hd
theorem qrd:OQ Tryz.prog qjS:=fun _ ho=>qN ho fun vs objs K r h=>by
 unfold qXS at h
 split at h
 ·have hq:List.map Obj.toRO objs=_:=(by rename_i hq;first | exact hq | assumption)
  obtain⟨t,h1,h2⟩:=qE h
  refine qAs mixed qPD (D:=qK2) (m:=1) (fn:=Tryz.f4) (by kernel_rfl) hq (by kernel_rfl) (by kernel_rfl) (qP.of (l':=[qF Tryz.f4 9]) (by kernel_rfl) ⟨qXU,trivial⟩) (Eq.trans (by kernel_rfl) h1) fun v objs' hd=>?_
  unfold qK2 at hd;split at hd;(cases hd;exact h2);cases hd
 ·exact ho _ _ _ _ _ h
end
end Go.Kk.KkGT
