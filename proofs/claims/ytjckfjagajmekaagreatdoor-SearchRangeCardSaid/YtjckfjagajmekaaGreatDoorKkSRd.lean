/- Printed by a tool of this project (KkGen): the program's functions come to the plain ones. -/
import Derived.Test.YtjckfjagajmekaaGreatDoorKkSRc
namespace Go.Kk.KkSR
noncomputable section
open Go.Proofs Go.Kk.Pl
set_option maxRecDepth 100000
set_option maxHeartbeats 4000000
def qQH:Ex->List V->List Obj->Option ((Int×Int×Int×Int×Int×Nat×Bool×Int×Nat×Int×Int×Nat×Int×Int×Nat×Nat×LL×LI×LI×Int×LL×LL×Nat×LL×Nat×LL×Nat×LL)⊕(Int×Int×Int×Int×Int×Nat×Int×Int×Nat×Int×Int×Nat×Nat×LL×LI×LI×Int×LL×LL×Nat×LL×Nat×LL)):=fun e vs objs=>match e,vs,objs with
 | .ret,[.s (.ptr 0 0 none 0),.s (.i .i64 y0),.s (.i .i64 y1),.s (.i .i64 y2),.s (.i .i64 y3),.s (.i .i64 y4),.s (.sl 7 0 y5 true),.s (.b y6),.s (.ptr 2 0 none 0),.s (.i .i64 y7),.s (.sl 8 0 y8 true)],[.cells 60 [.one [.ptr 1 0 none 0,.ptr 2 0 none 0,.i .i64 y9,.i .i64 y10]],.cells 104 [.one [.sl 3 0 y11 true,.i .i64 y12]],.cells 65 [.one [.ptr 4 0 none 0,.i .u64 y13,.sl 6 0 y14 true]],.sli 135 false (.rows kk0 y15 y16),.cells 84 [.arr .i8 81 y17,.arr .i8 16 y18,.one [.i .i8 y19],.rows [.i .u64,.i .u64] 32 y20,.rows [.i .u64,.i .u64] 2 y21],Obj.dead,.sli 125 false (.rows [.i .i64,.i .i64,.i .i64,.b,.i .i8,.i .i8] y22 y23),.sli 41 false (.rows [.i .i64,.i .i64,.i .i64,.b] y24 y25),.sli 41 false (.rows [.i .i64,.i .i64,.i .i64,.b] y26 y27)]=>bif decide (kk0=kL0) then some (.inl (y0,y1,y2,y3,y4,y5,y6,y7,y8,y9,y10,y11,y12,y13,y14,y15,y16,y17,y18,y19,y20,y21,y22,y23,y24,y25,y26,y27)) else none
 | .exit 1,[.s (.ptr 0 0 none 0),.s (.i .i64 y0),.s (.i .i64 y1),.s (.i .i64 y2),.s (.i .i64 y3),.s .bad,.s .bad,.s .bad,.s (.ptr 2 0 none 0),.s (.i .i64 y4),.s (.sl 7 0 y5 true)],[.cells 60 [.one [.ptr 1 0 none 0,.ptr 2 0 none 0,.i .i64 y6,.i .i64 y7]],.cells 104 [.one [.sl 3 0 y8 true,.i .i64 y9]],.cells 65 [.one [.ptr 4 0 none 0,.i .u64 y10,.sl 6 0 y11 true]],.sli 135 false (.rows kk0 y12 y13),.cells 84 [.arr .i8 81 y14,.arr .i8 16 y15,.one [.i .i8 y16],.rows [.i .u64,.i .u64] 32 y17,.rows [.i .u64,.i .u64] 2 y18],Obj.dead,.sli 125 false (.rows [.i .i64,.i .i64,.i .i64,.b,.i .i8,.i .i8] y19 y20),.sli 41 false (.rows [.i .i64,.i .i64,.i .i64,.b] y21 y22)]=>bif decide (kk0=kL0) then some (.inr (y0,y1,y2,y3,y4,y5,y6,y7,y8,y9,y10,y11,y12,y13,y14,y15,y16,y17,y18,y19,y20,y21,y22)) else none
 | _,_,_=>none
def qQK (n:Nat) {R:Type} (vs:List V) (objs:List Obj) (K:Ex->List V->List Obj->Option R):Option R:=match vs,objs with
 | [.s (.ptr 0 0 none 0),.s (.i .i64 x0),.s (.i .i64 x1),.s (.i .i64 x2),.s (.i .i64 x3),.s (.ptr 2 0 none 0),.s (.i .i64 x4),.s (.sl 7 0 x5 true),.s (.i .i64 x6),.s (.sl 8 0 x7 true),.s (.i .i64 x8),.s (.i .i64 x9)],[.cells 60 [.one [.ptr 1 0 none 0,.ptr 2 0 none 0,.i .i64 x10,.i .i64 x11]],.cells 104 [.one [.sl 3 0 x12 true,.i .i64 x13]],.cells 65 [.one [.ptr 4 0 none 0,.i .u64 x14,.sl 6 0 x15 true]],.sli 135 false (.rows kk0 x16 x17),.cells 84 [.arr .i8 81 x18,.arr .i8 16 x19,.one [.i .i8 x20],.rows [.i .u64,.i .u64] 32 x21,.rows [.i .u64,.i .u64] 2 x22],Obj.dead,.sli 125 false (.rows [.i .i64,.i .i64,.i .i64,.b,.i .i8,.i .i8] x23 x24),.sli 41 false (.rows [.i .i64,.i .i64,.i .i64,.b] x25 x26),.sli 41 false (.rows [.i .i64,.i .i64,.i .i64,.b] x27 x28)]=>bif decide (kk0=kL0) then ob (qBb (qEn n) qC x0 x1 x2 x3 x4 x5 x6 x7 x8 x9 x10 x11 x12 x13 x14 x15 x16 x17 x18 x19 x20 x21 x22 x23 x24 x25 x26 x27 x28) fun t0=>sw t0 (fun z=>K (.ret) ([.s (.ptr 0 0 none 0),.s (.i .i64 (z.1)),.s (.i .i64 (z.2.1)),.s (.i .i64 (z.2.2.1)),.s (.i .i64 (z.2.2.2.1)),.s (.i .i64 (z.2.2.2.2.1)),.s (.sl 7 0 (z.2.2.2.2.2.1) true),.s (.b (z.2.2.2.2.2.2.1)),.s (.ptr 2 0 none 0),.s (.i .i64 (z.2.2.2.2.2.2.2.1)),.s (.sl 8 0 (z.2.2.2.2.2.2.2.2.1) true)]) ([.cells 60 [.one [.ptr 1 0 none 0,.ptr 2 0 none 0,.i .i64 (z.2.2.2.2.2.2.2.2.2.1),.i .i64 (z.2.2.2.2.2.2.2.2.2.2.1)]],.cells 104 [.one [.sl 3 0 (z.2.2.2.2.2.2.2.2.2.2.2.1) true,.i .i64 (z.2.2.2.2.2.2.2.2.2.2.2.2.1)]],.cells 65 [.one [.ptr 4 0 none 0,.i .u64 (z.2.2.2.2.2.2.2.2.2.2.2.2.2.1),.sl 6 0 (z.2.2.2.2.2.2.2.2.2.2.2.2.2.2.1) true]],.sli 135 false (.rows kL0 (z.2.2.2.2.2.2.2.2.2.2.2.2.2.2.2.1) (z.2.2.2.2.2.2.2.2.2.2.2.2.2.2.2.2.1)),.cells 84 [.arr .i8 81 (z.2.2.2.2.2.2.2.2.2.2.2.2.2.2.2.2.2.1),.arr .i8 16 (z.2.2.2.2.2.2.2.2.2.2.2.2.2.2.2.2.2.2.1),.one [.i .i8 (z.2.2.2.2.2.2.2.2.2.2.2.2.2.2.2.2.2.2.2.1)],.rows [.i .u64,.i .u64] 32 (z.2.2.2.2.2.2.2.2.2.2.2.2.2.2.2.2.2.2.2.2.1),.rows [.i .u64,.i .u64] 2 (z.2.2.2.2.2.2.2.2.2.2.2.2.2.2.2.2.2.2.2.2.2.1)],Obj.dead,.sli 125 false (.rows [.i .i64,.i .i64,.i .i64,.b,.i .i8,.i .i8] (z.2.2.2.2.2.2.2.2.2.2.2.2.2.2.2.2.2.2.2.2.2.2.1) (z.2.2.2.2.2.2.2.2.2.2.2.2.2.2.2.2.2.2.2.2.2.2.2.1)),.sli 41 false (.rows [.i .i64,.i .i64,.i .i64,.b] (z.2.2.2.2.2.2.2.2.2.2.2.2.2.2.2.2.2.2.2.2.2.2.2.2.1) (z.2.2.2.2.2.2.2.2.2.2.2.2.2.2.2.2.2.2.2.2.2.2.2.2.2.1)),.sli 41 false (.rows [.i .i64,.i .i64,.i .i64,.b] (z.2.2.2.2.2.2.2.2.2.2.2.2.2.2.2.2.2.2.2.2.2.2.2.2.2.2.1) (z.2.2.2.2.2.2.2.2.2.2.2.2.2.2.2.2.2.2.2.2.2.2.2.2.2.2.2))])) (fun z=>K (.exit 1) ([.s (.ptr 0 0 none 0),.s (.i .i64 (z.1)),.s (.i .i64 (z.2.1)),.s (.i .i64 (z.2.2.1)),.s (.i .i64 (z.2.2.2.1)),.s .bad,.s .bad,.s .bad,.s (.ptr 2 0 none 0),.s (.i .i64 (z.2.2.2.2.1)),.s (.sl 7 0 (z.2.2.2.2.2.1) true)]) ([.cells 60 [.one [.ptr 1 0 none 0,.ptr 2 0 none 0,.i .i64 (z.2.2.2.2.2.2.1),.i .i64 (z.2.2.2.2.2.2.2.1)]],.cells 104 [.one [.sl 3 0 (z.2.2.2.2.2.2.2.2.1) true,.i .i64 (z.2.2.2.2.2.2.2.2.2.1)]],.cells 65 [.one [.ptr 4 0 none 0,.i .u64 (z.2.2.2.2.2.2.2.2.2.2.1),.sl 6 0 (z.2.2.2.2.2.2.2.2.2.2.2.1) true]],.sli 135 false (.rows kL0 (z.2.2.2.2.2.2.2.2.2.2.2.2.1) (z.2.2.2.2.2.2.2.2.2.2.2.2.2.1)),.cells 84 [.arr .i8 81 (z.2.2.2.2.2.2.2.2.2.2.2.2.2.2.1),.arr .i8 16 (z.2.2.2.2.2.2.2.2.2.2.2.2.2.2.2.1),.one [.i .i8 (z.2.2.2.2.2.2.2.2.2.2.2.2.2.2.2.2.1)],.rows [.i .u64,.i .u64] 32 (z.2.2.2.2.2.2.2.2.2.2.2.2.2.2.2.2.2.1),.rows [.i .u64,.i .u64] 2 (z.2.2.2.2.2.2.2.2.2.2.2.2.2.2.2.2.2.2.1)],Obj.dead,.sli 125 false (.rows [.i .i64,.i .i64,.i .i64,.b,.i .i8,.i .i8] (z.2.2.2.2.2.2.2.2.2.2.2.2.2.2.2.2.2.2.2.1) (z.2.2.2.2.2.2.2.2.2.2.2.2.2.2.2.2.2.2.2.2.1)),.sli 41 false (.rows [.i .i64,.i .i64,.i .i64,.b] (z.2.2.2.2.2.2.2.2.2.2.2.2.2.2.2.2.2.2.2.2.2.1) (z.2.2.2.2.2.2.2.2.2.2.2.2.2.2.2.2.2.2.2.2.2.2))])) else none
 | _,_=>none
def qmr (n:Nat):{R:Type}->Nat->List V->List Obj->(Ex->List V->List Obj->Option R)->Option R:=fun q vs objs K=>bif Nat.beq q 25 then qQK n vs objs K else none
def qFh (n:Nat) {R:Type} (o:Orc) (vs:List V) (objs:List Obj) (K:Bool->V->List Obj->Option R):Option R:=match vs,objs with
 | [.s (.ptr 0 0 none 0),.s (.i .i64 x0),.s (.i .i64 x1),.s (.i .i64 x2),.s (.i .i64 x3)],[.cells 60 [.one [.ptr 1 0 none 0,.ptr 2 0 none 0,.i .i64 x4,.i .i64 x5]],.cells 104 [.one [.sl 3 0 x6 true,.i .i64 x7]],.cells 65 [.one [.ptr 4 0 none 0,.i .u64 x8,.sl 5 0 x9 true]],.sli 135 false (.rows kk0 x10 x11),.cells 84 [.arr .i8 81 x12,.arr .i8 16 x13,.one [.i .i8 x14],.rows [.i .u64,.i .u64] 32 x15,.rows [.i .u64,.i .u64] 2 x16],.sli 125 false (.rows [.i .i64,.i .i64,.i .i64,.b,.i .i8,.i .i8] x17 x18)]=>bif decide (kk0=kL0) then ob (qEn n x0 x1 x2 x3 x4 x5 x6 x7 x8 x9 x10 x11 x12 x13 x14 x15 x16 x17 x18) fun t0=>sw t0 (fun z=>K false (.tup [W.s (.i .i64 (z.1)),W.s (.sl 6 0 (z.2.1) true),W.s (.b (z.2.2.1))]) ([.cells 60 [.one [.ptr 1 0 none 0,.ptr 2 0 none 0,.i .i64 (z.2.2.2.1),.i .i64 (z.2.2.2.2.1)]],.cells 104 [.one [.sl 3 0 (z.2.2.2.2.2.1) true,.i .i64 (z.2.2.2.2.2.2.1)]],.cells 65 [.one [.ptr 4 0 none 0,.i .u64 (z.2.2.2.2.2.2.2.1),.sl 5 0 (z.2.2.2.2.2.2.2.2.1) true]],.sli 135 false (.rows kL0 (z.2.2.2.2.2.2.2.2.2.1) (z.2.2.2.2.2.2.2.2.2.2.1)),.cells 84 [.arr .i8 81 (z.2.2.2.2.2.2.2.2.2.2.2.1),.arr .i8 16 (z.2.2.2.2.2.2.2.2.2.2.2.2.1),.one [.i .i8 (z.2.2.2.2.2.2.2.2.2.2.2.2.2.1)],.rows [.i .u64,.i .u64] 32 (z.2.2.2.2.2.2.2.2.2.2.2.2.2.2.1),.rows [.i .u64,.i .u64] 2 (z.2.2.2.2.2.2.2.2.2.2.2.2.2.2.2.1)],.sli 125 false (.rows [.i .i64,.i .i64,.i .i64,.b,.i .i8,.i .i8] (z.2.2.2.2.2.2.2.2.2.2.2.2.2.2.2.2.1) (z.2.2.2.2.2.2.2.2.2.2.2.2.2.2.2.2.2.1)),.sli 41 false (.rows [.i .i64,.i .i64,.i .i64,.b] (z.2.2.2.2.2.2.2.2.2.2.2.2.2.2.2.2.2.2.1) (z.2.2.2.2.2.2.2.2.2.2.2.2.2.2.2.2.2.2.2))])) (fun z=>K false (.tup [W.s (.i .i64 (z.1)),W.s (.sl 7 0 (z.2.1) true),W.s (.b (z.2.2.1))]) ([.cells 60 [.one [.ptr 1 0 none 0,.ptr 2 0 none 0,.i .i64 (z.2.2.2.1),.i .i64 (z.2.2.2.2.1)]],.cells 104 [.one [.sl 3 0 (z.2.2.2.2.2.1) true,.i .i64 (z.2.2.2.2.2.2.1)]],.cells 65 [.one [.ptr 4 0 none 0,.i .u64 (z.2.2.2.2.2.2.2.1),.sl 6 0 (z.2.2.2.2.2.2.2.2.1) true]],.sli 135 false (.rows kL0 (z.2.2.2.2.2.2.2.2.2.1) (z.2.2.2.2.2.2.2.2.2.2.1)),.cells 84 [.arr .i8 81 (z.2.2.2.2.2.2.2.2.2.2.2.1),.arr .i8 16 (z.2.2.2.2.2.2.2.2.2.2.2.2.1),.one [.i .i8 (z.2.2.2.2.2.2.2.2.2.2.2.2.2.1)],.rows [.i .u64,.i .u64] 32 (z.2.2.2.2.2.2.2.2.2.2.2.2.2.2.1),.rows [.i .u64,.i .u64] 2 (z.2.2.2.2.2.2.2.2.2.2.2.2.2.2.2.1)],Obj.dead,.sli 125 false (.rows [.i .i64,.i .i64,.i .i64,.b,.i .i8,.i .i8] (z.2.2.2.2.2.2.2.2.2.2.2.2.2.2.2.2.1) (z.2.2.2.2.2.2.2.2.2.2.2.2.2.2.2.2.2.1)),.sli 41 false (.rows [.i .i64,.i .i64,.i .i64,.b] (z.2.2.2.2.2.2.2.2.2.2.2.2.2.2.2.2.2.2.1) (z.2.2.2.2.2.2.2.2.2.2.2.2.2.2.2.2.2.2.2))])) else none
 | _,_=>o 20 vs objs K
def qQJ (n:Nat) (o:Orc):Orc:=fun f vs objs K=>bif Nat.beq f 20 then qFh n o vs objs K else o f vs objs K
def qmt (n:Nat):Orc:=qQJ n (qbu (qS6 (qTE (qa4 (qZr (qbq (qRR (qIR qH))))))))
def qIv (n:Nat):Ctx:=mkC 217 (qmt n) [(25,[0,1,2,3,4,13,19,20,21,140,141,142],[0,1,2,3,4,10,11,12,13,19,20]),(1048601,[5],[])] (qmr n)
def qQI (n:Nat) (f:Nat) (x0 x1:Int) (x2 x3 x4:Int) (x5:Nat) (x6:Int) (x7:Nat) (x8 x9:Int) (x10 x11:Int) (x12:Nat) (x13 x14:Int) (x15 x16:Nat) (x17:LL) (x18 x19:LI) (x20:Int) (x21 x22:LL) (x23:Nat) (x24:LL) (x25:Nat) (x26:LL) (x27:Nat) (x28:LL):Option ((Int×Int×Int×Int×Int×Nat×Bool×Int×Nat×Int×Int×Nat×Int×Int×Nat×Nat×LL×LI×LI×Int×LL×LL×Nat×LL×Nat×LL×Nat×LL)⊕(Int×Int×Int×Int×Int×Nat×Int×Int×Nat×Int×Int×Nat×Nat×LL×LI×LI×Int×LL×LL×Nat×LL×Nat×LL)):=qe (qIv n) 6 [0,1,2,3,4,13,19,20,21,140,141,142] [0,1,2,3,4,10,11,12,13,19,20] (qF Tryz.f20 25) f ([.s (.ptr 0 0 none 0),.s (.i .i64 x0),.s (.i .i64 x1),.s (.i .i64 x2),.s (.i .i64 x3),.s (.ptr 2 0 none 0),.s (.i .i64 x4),.s (.sl 7 0 x5 true),.s (.i .i64 x6),.s (.sl 8 0 x7 true),.s (.i .i64 x8),.s (.i .i64 x9)]) ([.cells 60 [.one [.ptr 1 0 none 0,.ptr 2 0 none 0,.i .i64 x10,.i .i64 x11]],.cells 104 [.one [.sl 3 0 x12 true,.i .i64 x13]],.cells 65 [.one [.ptr 4 0 none 0,.i .u64 x14,.sl 6 0 x15 true]],.sli 135 false (.rows kL0 x16 x17),.cells 84 [.arr .i8 81 x18,.arr .i8 16 x19,.one [.i .i8 x20],.rows [.i .u64,.i .u64] 32 x21,.rows [.i .u64,.i .u64] 2 x22],Obj.dead,.sli 125 false (.rows [.i .i64,.i .i64,.i .i64,.b,.i .i8,.i .i8] x23 x24),.sli 41 false (.rows [.i .i64,.i .i64,.i .i64,.b] x25 x26),.sli 41 false (.rows [.i .i64,.i .i64,.i .i64,.b] x27 x28)]) qQH
theorem qmq (n:Nat) (f:Nat) (x0 x1:Int) (x2 x3 x4:Int) (x5:Nat) (x6:Int) (x7:Nat) (x8 x9:Int) (x10 x11:Int) (x12:Nat) (x13 x14:Int) (x15 x16:Nat) (x17:LL) (x18 x19:LI) (x20:Int) (x21 x22:LL) (x23:Nat) (x24:LL) (x25:Nat) (x26:LL) (x27:Nat) (x28:LL):qQI n (f+1) x0 x1 x2 x3 x4 x5 x6 x7 x8 x9 x10 x11 x12 x13 x14 x15 x16 x17 x18 x19 x20 x21 x22 x23 x24 x25 x26 x27 x28=qZj (qEn n) (qQI n f) x0 x1 x2 x3 x4 x5 x6 x7 x8 x9 x10 x11 x12 x13 x14 x15 x16 x17 x18 x19 x20 x21 x22 x23 x24 x25 x26 x27 x28:=by kernel_rfl
theorem qZi (n:Nat):∀ f,qQI n f=qBb (qEn n) f
 | 0=>rfl
 | f+1=>by funext x0 x1 x2 x3 x4 x5 x6 x7 x8 x9 x10 x11 x12 x13 x14 x15 x16 x17 x18 x19 x20 x21 x22 x23 x24 x25 x26 x27 x28;rw[qmq,qZi n f];rfl
theorem qmv (n:Nat) (hc:CtxOK Tryz.prog (qIv n)):qc Tryz.prog (qIv n) 6 (qF Tryz.f20 25):=
 qg mixed hc (qP.of (l':=[]) (by kernel_rfl) trivial) (q:=25) (kin:=[0,1,2,3,4,13,19,20,21,140,141,142]) (kout:=[0,1,2,3,4,10,11,12,13,19,20]) (by kernel_rfl) (by kernel_rfl) fun vs objs K r h=>by
  replace h:qQK n vs objs K=some r:=h
  unfold qQK at h
  split at h
  ·skip
   have g:=(qR h).1
   replace h:=(qR h).2
   obtain rfl:=of_decide_eq_true g
   obtain⟨t,h1,h2⟩:=qD h
   rw[<- qZi n] at h1
   refine⟨_,qQH,t,qC,h1,fun e vs' objs' hd=>?_⟩
   unfold qQH at hd
   split at hd
   ·skip
    have g:=(qR hd).1
    replace hd:=(qR hd).2
    obtain rfl:=of_decide_eq_true g
    cases hd
    exact h2
   ·skip
    have g:=(qR hd).1
    replace hd:=(qR hd).2
    obtain rfl:=of_decide_eq_true g
    cases hd
    exact h2
   ·cases hd
  ·cases h
def qZh:V->List Obj->Option ((Int×Nat×Bool×Int×Int×Nat×Int×Int×Nat×Nat×LL×LI×LI×Int×LL×LL×Nat×LL×Nat×LL)⊕(Int×Nat×Bool×Int×Int×Nat×Int×Int×Nat×Nat×LL×LI×LI×Int×LL×LL×Nat×LL×Nat×LL)):=fun v objs=>match v,objs with
 | .tup [W.s (.i .i64 y0),W.s (.sl 6 0 y1 true),W.s (.b y2)],[.cells 60 [.one [.ptr 1 0 none 0,.ptr 2 0 none 0,.i .i64 y3,.i .i64 y4]],.cells 104 [.one [.sl 3 0 y5 true,.i .i64 y6]],.cells 65 [.one [.ptr 4 0 none 0,.i .u64 y7,.sl 5 0 y8 true]],.sli 135 false (.rows kk0 y9 y10),.cells 84 [.arr .i8 81 y11,.arr .i8 16 y12,.one [.i .i8 y13],.rows [.i .u64,.i .u64] 32 y14,.rows [.i .u64,.i .u64] 2 y15],.sli 125 false (.rows [.i .i64,.i .i64,.i .i64,.b,.i .i8,.i .i8] y16 y17),.sli 41 false (.rows [.i .i64,.i .i64,.i .i64,.b] y18 y19)]=>bif decide (kk0=kL0) then some (.inl (y0,y1,y2,y3,y4,y5,y6,y7,y8,y9,y10,y11,y12,y13,y14,y15,y16,y17,y18,y19)) else none
 | .tup [W.s (.i .i64 y0),W.s (.sl 7 0 y1 true),W.s (.b y2)],[.cells 60 [.one [.ptr 1 0 none 0,.ptr 2 0 none 0,.i .i64 y3,.i .i64 y4]],.cells 104 [.one [.sl 3 0 y5 true,.i .i64 y6]],.cells 65 [.one [.ptr 4 0 none 0,.i .u64 y7,.sl 6 0 y8 true]],.sli 135 false (.rows kk0 y9 y10),.cells 84 [.arr .i8 81 y11,.arr .i8 16 y12,.one [.i .i8 y13],.rows [.i .u64,.i .u64] 32 y14,.rows [.i .u64,.i .u64] 2 y15],Obj.dead,.sli 125 false (.rows [.i .i64,.i .i64,.i .i64,.b,.i .i8,.i .i8] y16 y17),.sli 41 false (.rows [.i .i64,.i .i64,.i .i64,.b] y18 y19)]=>bif decide (kk0=kL0) then some (.inr (y0,y1,y2,y3,y4,y5,y6,y7,y8,y9,y10,y11,y12,y13,y14,y15,y16,y17,y18,y19)) else none
 | _,_=>none
theorem qmo (n:Nat) (x0 x1:Int) (x2 x3:Int) (x4 x5:Int) (x6:Nat) (x7 x8:Int) (x9 x10:Nat) (x11:LL) (x12 x13:LI) (x14:Int) (x15 x16:LL) (x17:Nat) (x18:LL):fnE (qIv n) Tryz.f20 ([.s (.ptr 0 0 none 0),.s (.i .i64 x0),.s (.i .i64 x1),.s (.i .i64 x2),.s (.i .i64 x3)]) ([.cells 60 [.one [.ptr 1 0 none 0,.ptr 2 0 none 0,.i .i64 x4,.i .i64 x5]],.cells 104 [.one [.sl 3 0 x6 true,.i .i64 x7]],.cells 65 [.one [.ptr 4 0 none 0,.i .u64 x8,.sl 5 0 x9 true]],.sli 135 false (.rows kL0 x10 x11),.cells 84 [.arr .i8 81 x12,.arr .i8 16 x13,.one [.i .i8 x14],.rows [.i .u64,.i .u64] 32 x15,.rows [.i .u64,.i .u64] 2 x16],.sli 125 false (.rows [.i .i64,.i .i64,.i .i64,.b,.i .i8,.i .i8] x17 x18)]) qZh=qEn (n+1) x0 x1 x2 x3 x4 x5 x6 x7 x8 x9 x10 x11 x12 x13 x14 x15 x16 x17 x18:=by kernel_rfl
theorem qmp (n:Nat) (hc:CtxOK Tryz.prog (qIv n)) {vs:List V} {objs:List Obj} (x0 x1:Int) (x2 x3:Int) (x4 x5:Int) (x6:Nat) (x7 x8:Int) (x9 x10:Nat) (x11:LL) (x12 x13:LI) (x14:Int) (x15 x16:LL) (x17:Nat) (x18:LL) {R:Type} {K:Bool->V->List Obj->Option R} {r:R} (hv:vs=[.s (.ptr 0 0 none 0),.s (.i .i64 x0),.s (.i .i64 x1),.s (.i .i64 x2),.s (.i .i64 x3)]) (ho:objs=[.cells 60 [.one [.ptr 1 0 none 0,.ptr 2 0 none 0,.i .i64 x4,.i .i64 x5]],.cells 104 [.one [.sl 3 0 x6 true,.i .i64 x7]],.cells 65 [.one [.ptr 4 0 none 0,.i .u64 x8,.sl 5 0 x9 true]],.sli 135 false (.rows kL0 x10 x11),.cells 84 [.arr .i8 81 x12,.arr .i8 16 x13,.one [.i .i8 x14],.rows [.i .u64,.i .u64] 32 x15,.rows [.i .u64,.i .u64] 2 x16],.sli 125 false (.rows [.i .i64,.i .i64,.i .i64,.b,.i .i8,.i .i8] x17 x18)]) (h:ob (qEn (n+1) x0 x1 x2 x3 x4 x5 x6 x7 x8 x9 x10 x11 x12 x13 x14 x15 x16 x17 x18) (fun t0=>sw t0 (fun z=>K false (.tup [W.s (.i .i64 (z.1)),W.s (.sl 6 0 (z.2.1) true),W.s (.b (z.2.2.1))]) ([.cells 60 [.one [.ptr 1 0 none 0,.ptr 2 0 none 0,.i .i64 (z.2.2.2.1),.i .i64 (z.2.2.2.2.1)]],.cells 104 [.one [.sl 3 0 (z.2.2.2.2.2.1) true,.i .i64 (z.2.2.2.2.2.2.1)]],.cells 65 [.one [.ptr 4 0 none 0,.i .u64 (z.2.2.2.2.2.2.2.1),.sl 5 0 (z.2.2.2.2.2.2.2.2.1) true]],.sli 135 false (.rows kL0 (z.2.2.2.2.2.2.2.2.2.1) (z.2.2.2.2.2.2.2.2.2.2.1)),.cells 84 [.arr .i8 81 (z.2.2.2.2.2.2.2.2.2.2.2.1),.arr .i8 16 (z.2.2.2.2.2.2.2.2.2.2.2.2.1),.one [.i .i8 (z.2.2.2.2.2.2.2.2.2.2.2.2.2.1)],.rows [.i .u64,.i .u64] 32 (z.2.2.2.2.2.2.2.2.2.2.2.2.2.2.1),.rows [.i .u64,.i .u64] 2 (z.2.2.2.2.2.2.2.2.2.2.2.2.2.2.2.1)],.sli 125 false (.rows [.i .i64,.i .i64,.i .i64,.b,.i .i8,.i .i8] (z.2.2.2.2.2.2.2.2.2.2.2.2.2.2.2.2.1) (z.2.2.2.2.2.2.2.2.2.2.2.2.2.2.2.2.2.1)),.sli 41 false (.rows [.i .i64,.i .i64,.i .i64,.b] (z.2.2.2.2.2.2.2.2.2.2.2.2.2.2.2.2.2.2.1) (z.2.2.2.2.2.2.2.2.2.2.2.2.2.2.2.2.2.2.2))])) (fun z=>K false (.tup [W.s (.i .i64 (z.1)),W.s (.sl 7 0 (z.2.1) true),W.s (.b (z.2.2.1))]) ([.cells 60 [.one [.ptr 1 0 none 0,.ptr 2 0 none 0,.i .i64 (z.2.2.2.1),.i .i64 (z.2.2.2.2.1)]],.cells 104 [.one [.sl 3 0 (z.2.2.2.2.2.1) true,.i .i64 (z.2.2.2.2.2.2.1)]],.cells 65 [.one [.ptr 4 0 none 0,.i .u64 (z.2.2.2.2.2.2.2.1),.sl 6 0 (z.2.2.2.2.2.2.2.2.1) true]],.sli 135 false (.rows kL0 (z.2.2.2.2.2.2.2.2.2.1) (z.2.2.2.2.2.2.2.2.2.2.1)),.cells 84 [.arr .i8 81 (z.2.2.2.2.2.2.2.2.2.2.2.1),.arr .i8 16 (z.2.2.2.2.2.2.2.2.2.2.2.2.1),.one [.i .i8 (z.2.2.2.2.2.2.2.2.2.2.2.2.2.1)],.rows [.i .u64,.i .u64] 32 (z.2.2.2.2.2.2.2.2.2.2.2.2.2.2.1),.rows [.i .u64,.i .u64] 2 (z.2.2.2.2.2.2.2.2.2.2.2.2.2.2.2.1)],Obj.dead,.sli 125 false (.rows [.i .i64,.i .i64,.i .i64,.b,.i .i8,.i .i8] (z.2.2.2.2.2.2.2.2.2.2.2.2.2.2.2.2.1) (z.2.2.2.2.2.2.2.2.2.2.2.2.2.2.2.2.2.1)),.sli 41 false (.rows [.i .i64,.i .i64,.i .i64,.b] (z.2.2.2.2.2.2.2.2.2.2.2.2.2.2.2.2.2.2.1) (z.2.2.2.2.2.2.2.2.2.2.2.2.2.2.2.2.2.2.2))])))=some r):
  ∃ p v objs',K p v objs'=some r /\ qDR Tryz.prog 20 vs objs p v objs':=by
 subst hv
 subst ho
 obtain⟨t,h1,h2⟩:=qD h
 refine qJM mixed hc (objs:=[.cells 60 [.one [.ptr 1 0 none 0,.ptr 2 0 none 0,.i .i64 x4,.i .i64 x5]],.cells 104 [.one [.sl 3 0 x6 true,.i .i64 x7]],.cells 65 [.one [.ptr 4 0 none 0,.i .u64 x8,.sl 5 0 x9 true]],.sli 135 false (.rows kL0 x10 x11),.cells 84 [.arr .i8 81 x12,.arr .i8 16 x13,.one [.i .i8 x14],.rows [.i .u64,.i .u64] 32 x15,.rows [.i .u64,.i .u64] 2 x16],.sli 125 false (.rows [.i .i64,.i .i64,.i .i64,.b,.i .i8,.i .i8] x17 x18)]) (fn:=Tryz.f20) (b:=(Tryz.f20).body.getD .skip) (by kernel_rfl) (by kernel_rfl) (by kernel_rfl) (qP.of (l':=[qF Tryz.f20 25]) (by kernel_rfl) ⟨qmv n hc,trivial⟩) ((qmo n x0 x1 x2 x3 x4 x5 x6 x7 x8 x9 x10 x11 x12 x13 x14 x15 x16 x17 x18).trans h1) fun v objs' hd=>?_
 unfold qZh at hd
 split at hd
 ·skip
  have g:=(qR hd).1
  replace hd:=(qR hd).2
  obtain rfl:=of_decide_eq_true g
  cases hd
  exact h2
 ·skip
  have g:=(qR hd).1
  replace hd:=(qR hd).2
  obtain rfl:=of_decide_eq_true g
  cases hd
  exact h2
 ·cases hd
theorem qms:∀ (n:Nat) (o:Orc) (_:qB9 Tryz.prog o),qB9 Tryz.prog (qQJ n o):=by
 intro n
 induction n with
 | zero=>
   intro o ho R f vs objs K r h
   replace h:(bif Nat.beq f 20 then qFh 0 o vs objs K else o f vs objs K)=some r:=h
   cases hf:Nat.beq f 20 with
   | false=>rw[hf] at h;exact ho f vs objs K r h
   | true=>
     rw[hf] at h
     have e:=Nat.eq_of_beq_eq_true hf
     subst e
     replace h:qFh 0 o vs objs K=some r:=h
     unfold qFh at h
     split at h
     ·skip
      replace h:=(qR h).2
      cases h
     ·exact ho _ _ _ _ _ h
 | succ n ih=>
   intro o ho R f vs objs K r h
   replace h:(bif Nat.beq f 20 then qFh (n+1) o vs objs K else o f vs objs K)=some r:=h
   cases hf:Nat.beq f 20 with
   | false=>rw[hf] at h;exact ho f vs objs K r h
   | true=>
     rw[hf] at h
     have e:=Nat.eq_of_beq_eq_true hf
     subst e
     replace h:qFh (n+1) o vs objs K=some r:=h
     unfold qFh at h
     split at h
     ·skip
      have g:=(qR h).1
      replace h:=(qR h).2
      obtain rfl:=of_decide_eq_true g
      exact qmp n ⟨tab_ok,ih _ (qo4 _ (qex _ (qe3 _ (qn7 _ (qm0 _ (qo1 _ (qcP _ (qJ5 _ qI)))))))),eqs_ok,bytes_ok,fun _ _ _=>rfl,exts_ok⟩ _ _ _ _ _ _ _ _ _ _ _ _ _ _ _ _ _ _ _ rfl rfl h
     ·exact ho _ _ _ _ _ h
def qP7:Ex->List V->List Obj->Option (Int×Int×Nat×Int×Nat×LL×Int×Nat×Int×Int×Nat×Int×Bool×Int×Int×Nat×Nat×Int×Bool×LI×LI×Int×LL×LL×Nat×LL×Nat×LL×Nat×LL):=fun e vs objs=>match e,vs,objs with
 | .exit 0,[.s (.ptr 0 0 none 0),.s (.ptr 4 0 none 0),.s (.ptr 5 0 none 0)],[.cells 60 [.one [.ptr 1 0 none 0,.ptr 3 0 none 0,.i .i64 y0,.i .i64 y1]],.cells 104 [.one [.sl 2 0 y2 true,.i .i64 y3]],.sli 135 false (.rows kk0 y4 y5),.cells 65 [.one [.ptr 6 0 none 0,.i .u64 y6,.sl 7 0 y7 true]],.cells 38 [.one [.i .i64 y8,.i .i64 y9,.sl 8 0 y10 true,.i .i64 y11,.b y12]],.cells 38 [.one [.i .i64 y13,.i .i64 y14,.sl 9 y15 y16 false,.i .i64 y17,.b y18]],.cells 84 [.arr .i8 81 y19,.arr .i8 16 y20,.one [.i .i8 y21],.rows [.i .u64,.i .u64] 32 y22,.rows [.i .u64,.i .u64] 2 y23],.sli 125 false (.rows [.i .i64,.i .i64,.i .i64,.b,.i .i8,.i .i8] y24 y25),.sli 41 false (.rows [.i .i64,.i .i64,.i .i64,.b] y26 y27),.sli 41 false (.rows [.i .i64,.i .i64,.i .i64,.b] y28 y29)]=>bif decide (kk0=kL0) then some (y0,y1,y2,y3,y4,y5,y6,y7,y8,y9,y10,y11,y12,y13,y14,y15,y16,y17,y18,y19,y20,y21,y22,y23,y24,y25,y26,y27,y28,y29) else none
 | _,_,_=>none
def qQB:HL:=fun vs objs K=>match vs,objs with
 | [.s (.ptr 0 0 none 0),.s (.i .i64 x0),.s (.ptr 4 0 none 0),.s (.ptr 5 0 none 0),.s (.i .i64 x1)],[.cells 60 [.one [.ptr 1 0 none 0,.ptr 3 0 none 0,.i .i64 x2,.i .i64 x3]],.cells 104 [.one [.sl 2 0 x4 true,.i .i64 x5]],.sli 135 false (.rows kk0 x6 x7),.cells 65 [.one [.ptr 6 0 none 0,.i .u64 x8,.sl 7 0 x9 true]],.cells 38 [.one [.i .i64 x10,.i .i64 x11,.sl 8 0 x12 true,.i .i64 x13,.b x14]],.cells 38 [.one [.i .i64 x15,.i .i64 x16,.sl 9 x17 x18 false,.i .i64 x19,.b x20]],.cells 84 [.arr .i8 81 x21,.arr .i8 16 x22,.one [.i .i8 x23],.rows [.i .u64,.i .u64] 32 x24,.rows [.i .u64,.i .u64] 2 x25],.sli 125 false (.rows [.i .i64,.i .i64,.i .i64,.b,.i .i8,.i .i8] x26 x27),.sli 41 false (.rows [.i .i64,.i .i64,.i .i64,.b] x28 x29),.sli 41 false (.rows [.i .i64,.i .i64,.i .i64,.b] x30 x31)]=>bif decide (kk0=kL0) then ob (qIu qC x0 x1 x2 x3 x4 x5 x6 x7 x8 x9 x10 x11 x12 x13 x14 x15 x16 x17 x18 x19 x20 x21 x22 x23 x24 x25 x26 x27 x28 x29 x30 x31) fun z=>K (.exit 0) ([.s (.ptr 0 0 none 0),.s (.ptr 4 0 none 0),.s (.ptr 5 0 none 0)]) ([.cells 60 [.one [.ptr 1 0 none 0,.ptr 3 0 none 0,.i .i64 (z.1),.i .i64 (z.2.1)]],.cells 104 [.one [.sl 2 0 (z.2.2.1) true,.i .i64 (z.2.2.2.1)]],.sli 135 false (.rows kL0 (z.2.2.2.2.1) (z.2.2.2.2.2.1)),.cells 65 [.one [.ptr 6 0 none 0,.i .u64 (z.2.2.2.2.2.2.1),.sl 7 0 (z.2.2.2.2.2.2.2.1) true]],.cells 38 [.one [.i .i64 (z.2.2.2.2.2.2.2.2.1),.i .i64 (z.2.2.2.2.2.2.2.2.2.1),.sl 8 0 (z.2.2.2.2.2.2.2.2.2.2.1) true,.i .i64 (z.2.2.2.2.2.2.2.2.2.2.2.1),.b (z.2.2.2.2.2.2.2.2.2.2.2.2.1)]],.cells 38 [.one [.i .i64 (z.2.2.2.2.2.2.2.2.2.2.2.2.2.1),.i .i64 (z.2.2.2.2.2.2.2.2.2.2.2.2.2.2.1),.sl 9 (z.2.2.2.2.2.2.2.2.2.2.2.2.2.2.2.1) (z.2.2.2.2.2.2.2.2.2.2.2.2.2.2.2.2.1) false,.i .i64 (z.2.2.2.2.2.2.2.2.2.2.2.2.2.2.2.2.2.1),.b (z.2.2.2.2.2.2.2.2.2.2.2.2.2.2.2.2.2.2.1)]],.cells 84 [.arr .i8 81 (z.2.2.2.2.2.2.2.2.2.2.2.2.2.2.2.2.2.2.2.1),.arr .i8 16 (z.2.2.2.2.2.2.2.2.2.2.2.2.2.2.2.2.2.2.2.2.1),.one [.i .i8 (z.2.2.2.2.2.2.2.2.2.2.2.2.2.2.2.2.2.2.2.2.2.1)],.rows [.i .u64,.i .u64] 32 (z.2.2.2.2.2.2.2.2.2.2.2.2.2.2.2.2.2.2.2.2.2.2.1),.rows [.i .u64,.i .u64] 2 (z.2.2.2.2.2.2.2.2.2.2.2.2.2.2.2.2.2.2.2.2.2.2.2.1)],.sli 125 false (.rows [.i .i64,.i .i64,.i .i64,.b,.i .i8,.i .i8] (z.2.2.2.2.2.2.2.2.2.2.2.2.2.2.2.2.2.2.2.2.2.2.2.2.1) (z.2.2.2.2.2.2.2.2.2.2.2.2.2.2.2.2.2.2.2.2.2.2.2.2.2.1)),.sli 41 false (.rows [.i .i64,.i .i64,.i .i64,.b] (z.2.2.2.2.2.2.2.2.2.2.2.2.2.2.2.2.2.2.2.2.2.2.2.2.2.2.1) (z.2.2.2.2.2.2.2.2.2.2.2.2.2.2.2.2.2.2.2.2.2.2.2.2.2.2.2.1)),.sli 41 false (.rows [.i .i64,.i .i64,.i .i64,.b] (z.2.2.2.2.2.2.2.2.2.2.2.2.2.2.2.2.2.2.2.2.2.2.2.2.2.2.2.2.1) (z.2.2.2.2.2.2.2.2.2.2.2.2.2.2.2.2.2.2.2.2.2.2.2.2.2.2.2.2.2))]) else none
 | _,_=>none
def qmi:{R:Type}->Nat->List V->List Obj->(Ex->List V->List Obj->Option R)->Option R:=fun q vs objs K=>bif Nat.beq q 8 then qQB vs objs K else none
def qK7:Ctx:=mkC 70 ((qQJ qC (qIR (qMm qH)))) [(8,[0,2,8,9,11],[0,8,9]),(2097152,[60,0,1],[])] qmi
theorem qZX:CtxOK Tryz.prog qK7:=mkC_ok ((qms qC _ (qJ5 _ (qTU _ qI))))
def qP8 (f:Nat) (x0 x1:Int) (x2 x3:Int) (x4:Nat) (x5:Int) (x6:Nat) (x7:LL) (x8:Int) (x9:Nat) (x10 x11:Int) (x12:Nat) (x13:Int) (x14:Bool) (x15 x16:Int) (x17 x18:Nat) (x19:Int) (x20:Bool) (x21 x22:LI) (x23:Int) (x24 x25:LL) (x26:Nat) (x27:LL) (x28:Nat) (x29:LL) (x30:Nat) (x31:LL):Option (Int×Int×Nat×Int×Nat×LL×Int×Nat×Int×Int×Nat×Int×Bool×Int×Int×Nat×Nat×Int×Bool×LI×LI×Int×LL×LL×Nat×LL×Nat×LL×Nat×LL):=qe qK7 3 [0,2,8,9,11] [0,8,9] (qF Tryz.f9 8) f ([.s (.ptr 0 0 none 0),.s (.i .i64 x0),.s (.ptr 4 0 none 0),.s (.ptr 5 0 none 0),.s (.i .i64 x1)]) ([.cells 60 [.one [.ptr 1 0 none 0,.ptr 3 0 none 0,.i .i64 x2,.i .i64 x3]],.cells 104 [.one [.sl 2 0 x4 true,.i .i64 x5]],.sli 135 false (.rows kL0 x6 x7),.cells 65 [.one [.ptr 6 0 none 0,.i .u64 x8,.sl 7 0 x9 true]],.cells 38 [.one [.i .i64 x10,.i .i64 x11,.sl 8 0 x12 true,.i .i64 x13,.b x14]],.cells 38 [.one [.i .i64 x15,.i .i64 x16,.sl 9 x17 x18 false,.i .i64 x19,.b x20]],.cells 84 [.arr .i8 81 x21,.arr .i8 16 x22,.one [.i .i8 x23],.rows [.i .u64,.i .u64] 32 x24,.rows [.i .u64,.i .u64] 2 x25],.sli 125 false (.rows [.i .i64,.i .i64,.i .i64,.b,.i .i8,.i .i8] x26 x27),.sli 41 false (.rows [.i .i64,.i .i64,.i .i64,.b] x28 x29),.sli 41 false (.rows [.i .i64,.i .i64,.i .i64,.b] x30 x31)]) qP7
theorem qmh (f:Nat) (x0 x1:Int) (x2 x3:Int) (x4:Nat) (x5:Int) (x6:Nat) (x7:LL) (x8:Int) (x9:Nat) (x10 x11:Int) (x12:Nat) (x13:Int) (x14:Bool) (x15 x16:Int) (x17 x18:Nat) (x19:Int) (x20:Bool) (x21 x22:LI) (x23:Int) (x24 x25:LL) (x26:Nat) (x27:LL) (x28:Nat) (x29:LL) (x30:Nat) (x31:LL):qP8 (f+1) x0 x1 x2 x3 x4 x5 x6 x7 x8 x9 x10 x11 x12 x13 x14 x15 x16 x17 x18 x19 x20 x21 x22 x23 x24 x25 x26 x27 x28 x29 x30 x31=qP9 (qP8 f) x0 x1 x2 x3 x4 x5 x6 x7 x8 x9 x10 x11 x12 x13 x14 x15 x16 x17 x18 x19 x20 x21 x22 x23 x24 x25 x26 x27 x28 x29 x30 x31:=by kernel_rfl
theorem qZZ:∀ f,qP8 f=qIu f
 | 0=>rfl
 | f+1=>by funext x0 x1 x2 x3 x4 x5 x6 x7 x8 x9 x10 x11 x12 x13 x14 x15 x16 x17 x18 x19 x20 x21 x22 x23 x24 x25 x26 x27 x28 x29 x30 x31;rw[qmh,qZZ f];rfl
theorem qmj:qc Tryz.prog qK7 3 (qF Tryz.f9 8):=
 qg mixed qZX (qP.of (l':=[]) (by kernel_rfl) trivial) (q:=8) (kin:=[0,2,8,9,11]) (kout:=[0,8,9]) (by kernel_rfl) (by kernel_rfl) fun vs objs K r h=>by
  replace h:qQB vs objs K=some r:=h
  unfold qQB at h
  split at h
  ·skip
   have g:=(qR h).1
   replace h:=(qR h).2
   obtain rfl:=of_decide_eq_true g
   obtain⟨t,h1,h2⟩:=qD h
   rw[<- qZZ] at h1
   refine⟨_,qP7,t,qC,h1,fun e vs' objs' hd=>?_⟩
   unfold qP7 at hd
   split at hd
   ·skip
    have g:=(qR hd).1
    replace hd:=(qR hd).2
    obtain rfl:=of_decide_eq_true g
    cases hd
    exact h2
   ·cases hd
  ·cases h
def qZY:V->List Obj->Option ((Int×Int×Nat×Int×Bool×Int×Int×Nat×Int×Nat×LL×Nat×LL)⊕(Int×Int×Nat×Nat×Int×Bool×Int×Int×Nat×Int×Nat×LL×Nat×LL)):=fun v objs=>match v,objs with
 | .agg [.one [.i .i64 y0,.i .i64 y1,.sl 3 y2 y3 false,.i .i64 y4,.b y5]],[.cells 60 [.one [.ptr 1 0 none 0,.bad,.i .i64 y6,.i .i64 y7]],.cells 104 [.one [.sl 2 0 y8 true,.i .i64 y9]],.sli 135 false (.rows kk0 y10 y11),.sli 41 false (.rows [.i .i64,.i .i64,.i .i64,.b] y12 y13)]=>bif decide (kk0=kL0) then some (.inr (y0,y1,y2,y3,y4,y5,y6,y7,y8,y9,y10,y11,y12,y13)) else none
 | _,_=>match v,objs with
 | .agg [.one [.i .i64 y0,.i .i64 y1,.sl 3 0 y2 true,.i .i64 y3,.b y4]],[.cells 60 [.one [.ptr 1 0 none 0,.bad,.i .i64 y5,.i .i64 y6]],.cells 104 [.one [.sl 2 0 y7 true,.i .i64 y8]],.sli 135 false (.rows kk0 y9 y10),.sli 41 false (.rows [.i .i64,.i .i64,.i .i64,.b] y11 y12)]=>bif decide (kk0=kL0) then some (.inl (y0,y1,y2,y3,y4,y5,y6,y7,y8,y9,y10,y11,y12)) else none
 | _,_=>none
theorem qmg (x0 x1:LI) (x2 x3:Int) (x4 x5 x6:Int) (x7:Nat) (x8:Int) (x9:Nat) (x10:LL):fnE qK7 Tryz.f9 ([.s (.ptr 0 0 none 0),.agg [.arr .i8 81 x0,.arr .i8 16 x1,.one [.i .i8 x2]],.s (.i .i64 x3),.s (.i .i64 x4)]) ([.cells 60 [.one [.ptr 1 0 none 0,.bad,.i .i64 x5,.i .i64 x6]],.cells 104 [.one [.sl 2 0 x7 true,.i .i64 x8]],.sli 135 false (.rows kL0 x9 x10)]) qZY=qHT x0 x1 x2 x3 x4 x5 x6 x7 x8 x9 x10:=by kernel_rfl
def qZW:HA:=fun o vs objs K=>match vs,objs with
 | [.s (.ptr 0 0 none 0),.agg [.arr .i8 81 x0,.arr .i8 16 x1,.one [.i .i8 x2]],.s (.i .i64 x3),.s (.i .i64 x4)],[.cells 60 [.one [.ptr 1 0 none 0,.bad,.i .i64 x5,.i .i64 x6]],.cells 104 [.one [.sl 2 0 x7 true,.i .i64 x8]],.sli 135 false (.rows kk0 x9 x10)]=>bif decide (kk0=kL0) then ob (qHT x0 x1 x2 x3 x4 x5 x6 x7 x8 x9 x10) fun t0=>sw t0 (fun z=>K false (.agg [.one [.i .i64 (z.1),.i .i64 (z.2.1),.sl 3 0 (z.2.2.1) true,.i .i64 (z.2.2.2.1),.b (z.2.2.2.2.1)]]) ([.cells 60 [.one [.ptr 1 0 none 0,.bad,.i .i64 (z.2.2.2.2.2.1),.i .i64 (z.2.2.2.2.2.2.1)]],.cells 104 [.one [.sl 2 0 (z.2.2.2.2.2.2.2.1) true,.i .i64 (z.2.2.2.2.2.2.2.2.1)]],.sli 135 false (.rows kL0 (z.2.2.2.2.2.2.2.2.2.1) (z.2.2.2.2.2.2.2.2.2.2.1)),.sli 41 false (.rows [.i .i64,.i .i64,.i .i64,.b] (z.2.2.2.2.2.2.2.2.2.2.2.1) (z.2.2.2.2.2.2.2.2.2.2.2.2))])) (fun z=>K false (.agg [.one [.i .i64 (z.1),.i .i64 (z.2.1),.sl 3 (z.2.2.1) (z.2.2.2.1) false,.i .i64 (z.2.2.2.2.1),.b (z.2.2.2.2.2.1)]]) ([.cells 60 [.one [.ptr 1 0 none 0,.bad,.i .i64 (z.2.2.2.2.2.2.1),.i .i64 (z.2.2.2.2.2.2.2.1)]],.cells 104 [.one [.sl 2 0 (z.2.2.2.2.2.2.2.2.1) true,.i .i64 (z.2.2.2.2.2.2.2.2.2.1)]],.sli 135 false (.rows kL0 (z.2.2.2.2.2.2.2.2.2.2.1) (z.2.2.2.2.2.2.2.2.2.2.2.1)),.sli 41 false (.rows [.i .i64,.i .i64,.i .i64,.b] (z.2.2.2.2.2.2.2.2.2.2.2.2.1) (z.2.2.2.2.2.2.2.2.2.2.2.2.2))])) else none
 | _,_=>o 9 vs objs K
def qQA (o:Orc):Orc:=qJ 9 (qZW o) o
theorem qZa:OQ Tryz.prog qQA:=fun _ ho=>qK ho fun vs objs K r h=>by
 unfold qZW at h
 split at h
 ·skip
  have g:=(qR h).1
  replace h:=(qR h).2
  obtain rfl:=of_decide_eq_true g
  obtain⟨t,h1,h2⟩:=qD h
  refine qAM mixed qZX (fn:=Tryz.f9) (b:=(Tryz.f9).body.getD .skip) (by kernel_rfl) (by kernel_rfl) (by kernel_rfl) ((qmg _ _ _ _ _ _ _ _ _ _ _).trans h1) (m:=3) rfl (qP.of (l':=[qF Tryz.f9 8]) (by kernel_rfl) ⟨qmj,trivial⟩) fun v objs' hd=>?_
  unfold qZY at hd
  split at hd
  ·skip
   have g:=(qR hd).1
   replace hd:=(qR hd).2
   obtain rfl:=of_decide_eq_true g
   cases hd
   exact h2
  ·skip
   split at hd
   ·skip
    have g:=(qR hd).1
    replace hd:=(qR hd).2
    obtain rfl:=of_decide_eq_true g
    cases hd
    exact h2
   ·skip
    cases hd
 ·exact ho _ _ _ _ _ h
def qUu:Ctx:=mkC 55 ((qQA (qQE (qP6 qH)))) [] qS
theorem qg3:CtxOK Tryz.prog qUu:=mkC_ok ((qZa _ (qZg _ (qZV _ qI))))
def qUv:V->List Obj->Option (Bool):=fun v objs=>match v,objs with
 | .s (.b y0),[]=>some (y0)
 | _,_=>none
theorem qg2:fnE qUu Tryz.f6 ([]) ([]) qUv=qJ4  := by kernel_rfl
def qUt:HA:=fun o vs objs K=>match vs,objs with
 | [],[]=>ob (qJ4 ) fun y0=>K false (.s (.b y0)) ([])
 | _,_=>o 6 vs objs K
def qUw (o:Orc):Orc:=qJ 6 (qUt o) o
theorem qg4:OQ Tryz.prog qUw:=fun _ ho=>qK ho fun vs objs K r h=>by
 unfold qUt at h
 split at h
 ·skip
  obtain⟨t,h1,h2⟩:=qD h
  refine qV mixed qg3 ((qg2).trans h1) (by kernel_rfl) fun v objs' hd=>?_
  unfold qUv at hd;split at hd;(cases hd;exact h2);cases hd
 ·exact ho _ _ _ _ _ h
def qWt:Ctx:=mkC 23 (qH) [] qS
theorem qjy:CtxOK Tryz.prog qWt:=mkC_ok (qI)
def qWu:V->List Obj->Option (Int):=fun v objs=>match v,objs with
 | .s (.i .i64 y0),[]=>some (y0)
 | _,_=>none
theorem qjx (x0:Int):fnE qWt Tryz.f24 ([.s (.i .i64 x0)]) ([]) qWu=qAK x0:=by kernel_rfl
def qWs:HA:=fun o vs objs K=>match vs,objs with
 | [.s (.i .i64 x0)],[]=>ob (qAK x0) fun y0=>K false (.s (.i .i64 y0)) ([])
 | _,_=>o 24 vs objs K
def qCk (o:Orc):Orc:=qJ 24 (qWs o) o
theorem qC6:OQ Tryz.prog qCk:=fun _ ho=>qK ho fun vs objs K r h=>by
 unfold qWs at h
 split at h
 ·skip
  obtain⟨t,h1,h2⟩:=qD h
  refine qV mixed qjy ((qjx _).trans h1) (by kernel_rfl) fun v objs' hd=>?_
  unfold qWu at hd;split at hd;(cases hd;exact h2);cases hd
 ·exact ho _ _ _ _ _ h
def qPA:Ex->List V->List Obj->Option (Int):=fun e vs objs=>match e,vs,objs with
 | .exit 0,[.s (.i .i64 y0)],[]=>some (y0)
 | _,_,_=>none
def qPD:HL:=fun vs objs K=>match vs,objs with
 | [.s (.i .i64 x0),.s (.i .i64 x1),.s (.ptr 0 0 none 0),.s (.i .i64 x2),.s (.i .i64 x3)],[.cells 29 [.arr .i8 81 x4,.arr .i8 16 x5,.one [.i .i8 x6]]]=>ob (qCJ qC x0 x1 x2 x3 x4 x5 x6) fun y0=>K (.exit 0) ([.s (.i .i64 y0)]) ([])
 | _,_=>none
def qkv:{R:Type}->Nat->List V->List Obj->(Ex->List V->List Obj->Option R)->Option R:=fun q vs objs K=>bif Nat.beq q 3 then qPD vs objs K else none
def qKp:Ctx:=mkC 26 (qH) [(3,[1,2,3,7,8],[7])] qkv
theorem qXy:CtxOK Tryz.prog qKp:=mkC_ok (qI)
def qPB (f:Nat) (x0 x1:Int) (x2 x3:Int) (x4 x5:LI) (x6:Int):Option (Int):=qe qKp 0 [1,2,3,7,8] [7] (qF Tryz.f39 3) f ([.s (.i .i64 x0),.s (.i .i64 x1),.s (.ptr 0 0 none 0),.s (.i .i64 x2),.s (.i .i64 x3)]) ([.cells 29 [.arr .i8 81 x4,.arr .i8 16 x5,.one [.i .i8 x6]]]) qPA
theorem qku (f:Nat) (x0 x1:Int) (x2 x3:Int) (x4 x5:LI) (x6:Int):qPB (f+1) x0 x1 x2 x3 x4 x5 x6=qDE (qPB f) x0 x1 x2 x3 x4 x5 x6:=by kernel_rfl
theorem qX0:∀ f,qPB f=qCJ f
 | 0=>rfl
 | f+1=>by funext x0 x1 x2 x3 x4 x5 x6;rw[qku,qX0 f];rfl
theorem qkw:qc Tryz.prog qKp 0 (qF Tryz.f39 3):=
 qg mixed qXy (qP.of (l':=[]) (by kernel_rfl) trivial) (q:=3) (kin:=[1,2,3,7,8]) (kout:=[7]) (by kernel_rfl) (by kernel_rfl) fun vs objs K r h=>by
  replace h:qPD vs objs K=some r:=h
  unfold qPD at h
  split at h
  ·skip
   obtain⟨t,h1,h2⟩:=qD h
   rw[<- qX0] at h1
   refine⟨_,qPA,t,qC,h1,fun e vs' objs' hd=>?_⟩
   unfold qPA at hd;split at hd;(cases hd;exact h2);cases hd
  ·cases h
def qXz:V->List Obj->Option (Int):=fun v objs=>match v,objs with
 | .s (.i .i64 y0),[]=>some (y0)
 | _,_=>none
theorem qkt (x0 x1:LI) (x2 x3 x4:Int):fnE qKp Tryz.f39 ([.agg [.arr .i8 81 x0,.arr .i8 16 x1,.one [.i .i8 x2]],.s (.i .i64 x3),.s (.i .i64 x4)]) ([]) qXz=qDD x0 x1 x2 x3 x4:=by kernel_rfl
def qXx:HA:=fun o vs objs K=>match vs,objs with
 | [.agg [.arr .i8 81 x0,.arr .i8 16 x1,.one [.i .i8 x2]],.s (.i .i64 x3),.s (.i .i64 x4)],[]=>ob (qDD x0 x1 x2 x3 x4) fun y0=>K false (.s (.i .i64 y0)) ([])
 | _,_=>o 39 vs objs K
def qKq (o:Orc):Orc:=qJ 39 (qXx o) o
theorem qPC:OQ Tryz.prog qKq:=fun _ ho=>qK ho fun vs objs K r h=>by
 unfold qXx at h
 split at h
 ·skip
  obtain⟨t,h1,h2⟩:=qD h
  refine qAM mixed qXy (fn:=Tryz.f39) (b:=(Tryz.f39).body.getD .skip) (by kernel_rfl) (by kernel_rfl) (by kernel_rfl) ((qkt _ _ _ _ _).trans h1) (m:=0) rfl (qP.of (l':=[qF Tryz.f39 3]) (by kernel_rfl) ⟨qkw,trivial⟩) fun v objs' hd=>?_
  unfold qXz at hd;split at hd;(cases hd;exact h2);cases hd
 ·exact ho _ _ _ _ _ h
def qPI:Ex->List V->List Obj->Option (Int):=fun e vs objs=>match e,vs,objs with
 | .exit 0,[.s (.i .i64 y0)],[]=>some (y0)
 | _,_,_=>none
def qPK:HL:=fun vs objs K=>match vs,objs with
 | [.s (.i .i64 x0),.s (.ptr 0 0 none 0),.s (.i .i64 x1),.s (.i .i64 x2)],[.cells 29 [.arr .i8 81 x3,.arr .i8 16 x4,.one [.i .i8 x5]]]=>ob (qCK qC x0 x1 x2 x3 x4 x5) fun y0=>K (.exit 0) ([.s (.i .i64 y0)]) ([])
 | _,_=>none
def qk3:{R:Type}->Nat->List V->List Obj->(Ex->List V->List Obj->Option R)->Option R:=fun q vs objs K=>bif Nat.beq q 3 then qPK vs objs K else none
def qKt:Ctx:=mkC 18 ((qKq qH)) [(3,[1,2,5,6],[5])] qk3
theorem qX6:CtxOK Tryz.prog qKt:=mkC_ok ((qPC _ qI))
def qPJ (f:Nat) (x0 x1 x2:Int) (x3 x4:LI) (x5:Int):Option (Int):=qe qKt 0 [1,2,5,6] [5] (qF Tryz.f35 3) f ([.s (.i .i64 x0),.s (.ptr 0 0 none 0),.s (.i .i64 x1),.s (.i .i64 x2)]) ([.cells 29 [.arr .i8 81 x3,.arr .i8 16 x4,.one [.i .i8 x5]]]) qPI
theorem qk2 (f:Nat) (x0 x1 x2:Int) (x3 x4:LI) (x5:Int):qPJ (f+1) x0 x1 x2 x3 x4 x5=qDF (qPJ f) x0 x1 x2 x3 x4 x5:=by kernel_rfl
theorem qX8:∀ f,qPJ f=qCK f
 | 0=>rfl
 | f+1=>by funext x0 x1 x2 x3 x4 x5;rw[qk2,qX8 f];rfl
theorem qk5:qc Tryz.prog qKt 0 (qF Tryz.f35 3):=
 qg mixed qX6 (qP.of (l':=[]) (by kernel_rfl) trivial) (q:=3) (kin:=[1,2,5,6]) (kout:=[5]) (by kernel_rfl) (by kernel_rfl) fun vs objs K r h=>by
  replace h:qPK vs objs K=some r:=h
  unfold qPK at h
  split at h
  ·skip
   obtain⟨t,h1,h2⟩:=qD h
   rw[<- qX8] at h1
   refine⟨_,qPI,t,qC,h1,fun e vs' objs' hd=>?_⟩
   unfold qPI at hd;split at hd;(cases hd;exact h2);cases hd
  ·cases h
def qX7:V->List Obj->Option (Int):=fun v objs=>match v,objs with
 | .s (.i .i64 y0),[]=>some (y0)
 | _,_=>none
theorem qk1 (x0 x1:LI) (x2 x3:Int):fnE qKt Tryz.f35 ([.agg [.arr .i8 81 x0,.arr .i8 16 x1,.one [.i .i8 x2]],.s (.i .i64 x3)]) ([]) qX7=qB2 x0 x1 x2 x3:=by kernel_rfl
def qX5:HA:=fun o vs objs K=>match vs,objs with
 | [.agg [.arr .i8 81 x0,.arr .i8 16 x1,.one [.i .i8 x2]],.s (.i .i64 x3)],[]=>ob (qB2 x0 x1 x2 x3) fun y0=>K false (.s (.i .i64 y0)) ([])
 | _,_=>o 35 vs objs K
def qX9 (o:Orc):Orc:=qJ 35 (qX5 o) o
theorem qk4:OQ Tryz.prog qX9:=fun _ ho=>qK ho fun vs objs K r h=>by
 unfold qX5 at h
 split at h
 ·skip
  obtain⟨t,h1,h2⟩:=qD h
  refine qAM mixed qX6 (fn:=Tryz.f35) (b:=(Tryz.f35).body.getD .skip) (by kernel_rfl) (by kernel_rfl) (by kernel_rfl) ((qk1 _ _ _ _).trans h1) (m:=0) rfl (qP.of (l':=[qF Tryz.f35 3]) (by kernel_rfl) ⟨qk5,trivial⟩) fun v objs' hd=>?_
  unfold qX7 at hd;split at hd;(cases hd;exact h2);cases hd
 ·exact ho _ _ _ _ _ h
def qWw:Ctx:=mkC 18 (qH) [] qS
theorem qj0:CtxOK Tryz.prog qWw:=mkC_ok (qI)
def qWx:V->List Obj->Option (Int):=fun v objs=>match v,objs with
 | .s (.i .i64 y0),[]=>some (y0)
 | _,_=>none
theorem qjz (x0:Int):fnE qWw Tryz.f23 ([.s (.i .i64 x0)]) ([]) qWx=qG5 x0:=by kernel_rfl
def qWv:HA:=fun o vs objs K=>match vs,objs with
 | [.s (.i .i64 x0)],[]=>ob (qG5 x0) fun y0=>K false (.s (.i .i64 y0)) ([])
 | _,_=>o 23 vs objs K
def qOd (o:Orc):Orc:=qJ 23 (qWv o) o
theorem qWy:OQ Tryz.prog qOd:=fun _ ho=>qK ho fun vs objs K r h=>by
 unfold qWv at h
 split at h
 ·skip
  obtain⟨t,h1,h2⟩:=qD h
  refine qV mixed qj0 ((qjz _).trans h1) (by kernel_rfl) fun v objs' hd=>?_
  unfold qWx at hd;split at hd;(cases hd;exact h2);cases hd
 ·exact ho _ _ _ _ _ h
def qO7:Ex->List V->List Obj->Option (Int×Int×LI×LI×Int):=fun e vs objs=>match e,vs,objs with
 | .exit 0,[.s (.i .i64 y0),.s (.ptr 0 0 none 0),.s (.i .i64 y1)],[.cells 29 [.arr .i8 81 y2,.arr .i8 16 y3,.one [.i .i8 y4]]]=>some (y0,y1,y2,y3,y4)
 | _,_,_=>none
def qO9:HL:=fun vs objs K=>match vs,objs with
 | [.s (.i .i64 x0),.s (.ptr 0 0 none 0),.s (.i .i64 x1),.s (.i .i64 x2)],[.cells 29 [.arr .i8 81 x3,.arr .i8 16 x4,.one [.i .i8 x5]]]=>ob (qEd qC x0 x1 x2 x3 x4 x5) fun z=>K (.exit 0) ([.s (.i .i64 (z.1)),.s (.ptr 0 0 none 0),.s (.i .i64 (z.2.1))]) ([.cells 29 [.arr .i8 81 (z.2.2.1),.arr .i8 16 (z.2.2.2.1),.one [.i .i8 (z.2.2.2.2)]]])
 | _,_=>none
def qkq:{R:Type}->Nat->List V->List Obj->(Ex->List V->List Obj->Option R)->Option R:=fun q vs objs K=>bif Nat.beq q 3 then qO9 vs objs K else none
def qKo:Ctx:=mkC 37 ((qOd (qCk qH))) [(3,[1,2,5,6],[1,2,5])] qkq
theorem qXt:CtxOK Tryz.prog qKo:=mkC_ok ((qWy _ (qC6 _ qI)))
def qO8 (f:Nat) (x0 x1 x2:Int) (x3 x4:LI) (x5:Int):Option (Int×Int×LI×LI×Int):=qe qKo 0 [1,2,5,6] [1,2,5] (qF Tryz.f36 3) f ([.s (.i .i64 x0),.s (.ptr 0 0 none 0),.s (.i .i64 x1),.s (.i .i64 x2)]) ([.cells 29 [.arr .i8 81 x3,.arr .i8 16 x4,.one [.i .i8 x5]]]) qO7
theorem qkp (f:Nat) (x0 x1 x2:Int) (x3 x4:LI) (x5:Int):qO8 (f+1) x0 x1 x2 x3 x4 x5=qHA (qO8 f) x0 x1 x2 x3 x4 x5:=by kernel_rfl
theorem qXv:∀ f,qO8 f=qEd f
 | 0=>rfl
 | f+1=>by funext x0 x1 x2 x3 x4 x5;rw[qkp,qXv f];rfl
theorem qks:qc Tryz.prog qKo 0 (qF Tryz.f36 3):=
 qg mixed qXt (qP.of (l':=[]) (by kernel_rfl) trivial) (q:=3) (kin:=[1,2,5,6]) (kout:=[1,2,5]) (by kernel_rfl) (by kernel_rfl) fun vs objs K r h=>by
  replace h:qO9 vs objs K=some r:=h
  unfold qO9 at h
  split at h
  ·skip
   obtain⟨t,h1,h2⟩:=qD h
   rw[<- qXv] at h1
   refine⟨_,qO7,t,qC,h1,fun e vs' objs' hd=>?_⟩
   unfold qO7 at hd;split at hd;(cases hd;exact h2);cases hd
  ·cases h
def qXu:V->List Obj->Option (Int):=fun v objs=>match v,objs with
 | .s (.i .i64 y0),[]=>some (y0)
 | _,_=>none
theorem qko (x0 x1:LI) (x2 x3:Int):fnE qKo Tryz.f36 ([.agg [.arr .i8 81 x0,.arr .i8 16 x1,.one [.i .i8 x2]],.s (.i .i64 x3)]) ([]) qXu=qIi x0 x1 x2 x3:=by kernel_rfl
def qXs:HA:=fun o vs objs K=>match vs,objs with
 | [.agg [.arr .i8 81 x0,.arr .i8 16 x1,.one [.i .i8 x2]],.s (.i .i64 x3)],[]=>ob (qIi x0 x1 x2 x3) fun y0=>K false (.s (.i .i64 y0)) ([])
 | _,_=>o 36 vs objs K
def qXw (o:Orc):Orc:=qJ 36 (qXs o) o
theorem qkr:OQ Tryz.prog qXw:=fun _ ho=>qK ho fun vs objs K r h=>by
 unfold qXs at h
 split at h
 ·skip
  obtain⟨t,h1,h2⟩:=qD h
  refine qAM mixed qXt (fn:=Tryz.f36) (b:=(Tryz.f36).body.getD .skip) (by kernel_rfl) (by kernel_rfl) (by kernel_rfl) ((qko _ _ _ _).trans h1) (m:=0) rfl (qP.of (l':=[qF Tryz.f36 3]) (by kernel_rfl) ⟨qks,trivial⟩) fun v objs' hd=>?_
  unfold qXu at hd;split at hd;(cases hd;exact h2);cases hd
 ·exact ho _ _ _ _ _ h
def qW3:Ctx:=mkC 15 (qH) [] qS
theorem qj4:CtxOK Tryz.prog qW3:=mkC_ok (qI)
def qW4:V->List Obj->Option (Int):=fun v objs=>match v,objs with
 | .s (.i .i64 y0),[]=>some (y0)
 | _,_=>none
theorem qj3 (x0:Int):fnE qW3 Tryz.f37 ([.s (.i .i64 x0)]) ([]) qW4=qIf x0:=by kernel_rfl
def qW2:HA:=fun o vs objs K=>match vs,objs with
 | [.s (.i .i64 x0)],[]=>ob (qIf x0) fun y0=>K false (.s (.i .i64 y0)) ([])
 | _,_=>o 37 vs objs K
def qW5 (o:Orc):Orc:=qJ 37 (qW2 o) o
theorem qj5:OQ Tryz.prog qW5:=fun _ ho=>qK ho fun vs objs K r h=>by
 unfold qW2 at h
 split at h
 ·skip
  obtain⟨t,h1,h2⟩:=qD h
  refine qV mixed qj4 ((qj3 _).trans h1) (by kernel_rfl) fun v objs' hd=>?_
  unfold qW4 at hd;split at hd;(cases hd;exact h2);cases hd
 ·exact ho _ _ _ _ _ h
def qW0:Ctx:=mkC 8 ((qCk qH)) [] qS
theorem qj2:CtxOK Tryz.prog qW0:=mkC_ok ((qC6 _ qI))
def qW1:V->List Obj->Option (Int):=fun v objs=>match v,objs with
 | .s (.i .i64 y0),[]=>some (y0)
 | _,_=>none
theorem qj1 (x0:Int):fnE qW0 Tryz.f42 ([.s (.i .i64 x0)]) ([]) qW1=qA0 x0:=by kernel_rfl
def qWz:HA:=fun o vs objs K=>match vs,objs with
 | [.s (.i .i64 x0)],[]=>ob (qA0 x0) fun y0=>K false (.s (.i .i64 y0)) ([])
 | _,_=>o 42 vs objs K
def qEX (o:Orc):Orc:=qJ 42 (qWz o) o
theorem qFa:OQ Tryz.prog qEX:=fun _ ho=>qK ho fun vs objs K r h=>by
 unfold qWz at h
 split at h
 ·skip
  obtain⟨t,h1,h2⟩:=qD h
  refine qV mixed qj2 ((qj1 _).trans h1) (by kernel_rfl) fun v objs' hd=>?_
  unfold qW1 at hd;split at hd;(cases hd;exact h2);cases hd
 ·exact ho _ _ _ _ _ h
def qXD:Ctx:=mkC 26 (qH) [] qS
theorem qkB:CtxOK Tryz.prog qXD:=mkC_ok (qI)
def qXE:V->List Obj->Option (Int):=fun v objs=>match v,objs with
 | .s (.i .i64 y0),[]=>some (y0)
 | _,_=>none
theorem qkA (x0 x1:Int):fnE qXD Tryz.f89 ([.s (.i .i64 x0),.s (.i .i64 x1)]) ([]) qXE=qCm x0 x1:=by kernel_rfl
def qXC:HA:=fun o vs objs K=>match vs,objs with
 | [.s (.i .i64 x0),.s (.i .i64 x1)],[]=>ob (qCm x0 x1) fun y0=>K false (.s (.i .i64 y0)) ([])
 | _,_=>o 89 vs objs K
def qOg (o:Orc):Orc:=qJ 89 (qXC o) o
theorem qXF:OQ Tryz.prog qOg:=fun _ ho=>qK ho fun vs objs K r h=>by
 unfold qXC at h
 split at h
 ·skip
  obtain⟨t,h1,h2⟩:=qD h
  refine qV mixed qkB ((qkA _ _).trans h1) (by kernel_rfl) fun v objs' hd=>?_
  unfold qXE at hd;split at hd;(cases hd;exact h2);cases hd
 ·exact ho _ _ _ _ _ h
def qXA:Ctx:=mkC 35 ((qCk (qOg (qEX qH)))) [] qS
theorem qj9:CtxOK Tryz.prog qXA:=mkC_ok ((qC6 _ (qXF _ (qFa _ qI))))
def qXB:V->List Obj->Option (Bool):=fun v objs=>match v,objs with
 | .s (.b y0),[]=>some (y0)
 | _,_=>none
theorem qj8 (x0 x1:Int):fnE qXA Tryz.f38 ([.s (.i .i64 x0),.s (.i .i64 x1)]) ([]) qXB=qCl x0 x1:=by kernel_rfl
def qW9:HA:=fun o vs objs K=>match vs,objs with
 | [.s (.i .i64 x0),.s (.i .i64 x1)],[]=>ob (qCl x0 x1) fun y0=>K false (.s (.b y0)) ([])
 | _,_=>o 38 vs objs K
def qKk (o:Orc):Orc:=qJ 38 (qW9 o) o
theorem qOf:OQ Tryz.prog qKk:=fun _ ho=>qK ho fun vs objs K r h=>by
 unfold qW9 at h
 split at h
 ·skip
  obtain⟨t,h1,h2⟩:=qD h
  refine qV mixed qj9 ((qj8 _ _).trans h1) (by kernel_rfl) fun v objs' hd=>?_
  unfold qXB at hd;split at hd;(cases hd;exact h2);cases hd
 ·exact ho _ _ _ _ _ h
def qOx:Ex->List V->List Obj->Option ((Int×LI×LI×Int)⊕(LI×LI×Int)):=fun e vs objs=>match e,vs,objs with
 | .ret,[.s (.ptr 0 0 none 0),.s (.i .i64 y0)],[.cells 29 [.arr .i8 81 y1,.arr .i8 16 y2,.one [.i .i8 y3]]]=>some (.inl (y0,y1,y2,y3))
 | .exit 0,[.s (.ptr 0 0 none 0),.s .bad],[.cells 29 [.arr .i8 81 y0,.arr .i8 16 y1,.one [.i .i8 y2]]]=>some (.inr (y0,y1,y2))
 | _,_,_=>none
def qOp:Ex->List V->List Obj->Option ((Int×Int×LI×LI×Int)⊕(Int×LI×LI×Int)):=fun e vs objs=>match e,vs,objs with
 | .ret,[.s (.ptr 0 0 none 0),.s (.i .i64 y0),.s (.i .i64 y1)],[.cells 29 [.arr .i8 81 y2,.arr .i8 16 y3,.one [.i .i8 y4]]]=>some (.inl (y0,y1,y2,y3,y4))
 | .exit 4,[.s (.ptr 0 0 none 0),.s .bad,.s (.i .i64 y0)],[.cells 29 [.arr .i8 81 y1,.arr .i8 16 y2,.one [.i .i8 y3]]]=>some (.inr (y0,y1,y2,y3))
 | _,_,_=>none
def qOz:Ex->List V->List Obj->Option ((Int×LI×LI×Int)⊕(LI×LI×Int)):=fun e vs objs=>match e,vs,objs with
 | .ret,[.s (.ptr 0 0 none 0),.s (.i .i64 y0)],[.cells 29 [.arr .i8 81 y1,.arr .i8 16 y2,.one [.i .i8 y3]]]=>some (.inl (y0,y1,y2,y3))
 | .exit 2,[.s (.ptr 0 0 none 0),.s .bad],[.cells 29 [.arr .i8 81 y0,.arr .i8 16 y1,.one [.i .i8 y2]]]=>some (.inr (y0,y1,y2))
 | _,_,_=>none
def qOr:Ex->List V->List Obj->Option ((Int×LI×LI×Int)⊕(LI×LI×Int)):=fun e vs objs=>match e,vs,objs with
 | .ret,[.s (.ptr 0 0 none 0),.s (.i .i64 y0)],[.cells 29 [.arr .i8 81 y1,.arr .i8 16 y2,.one [.i .i8 y3]]]=>some (.inl (y0,y1,y2,y3))
 | .exit 6,[.s (.ptr 0 0 none 0),.s .bad],[.cells 29 [.arr .i8 81 y0,.arr .i8 16 y1,.one [.i .i8 y2]]]=>some (.inr (y0,y1,y2))
 | _,_,_=>none
def qOt:Ex->List V->List Obj->Option ((Int×LI×LI×Int)⊕(LI×LI×Int)):=fun e vs objs=>match e,vs,objs with
 | .ret,[.s (.ptr 0 0 none 0),.s (.i .i64 y0)],[.cells 29 [.arr .i8 81 y1,.arr .i8 16 y2,.one [.i .i8 y3]]]=>some (.inl (y0,y1,y2,y3))
 | .exit 8,[.s (.ptr 0 0 none 0),.s .bad],[.cells 29 [.arr .i8 81 y0,.arr .i8 16 y1,.one [.i .i8 y2]]]=>some (.inr (y0,y1,y2))
 | _,_,_=>none
def qOv:Ex->List V->List Obj->Option ((Int)⊕(Unit)):=fun e vs objs=>match e,vs,objs with
 | .ret,[.s (.i .i64 y0)],[]=>some (.inl (y0))
 | .exit 10,[.s .bad],[]=>some (.inr ())
 | _,_,_=>none
def qO5:HL:=fun vs objs K=>match vs,objs with
 | [.s (.ptr 0 0 none 0),.s (.i .i64 x0)],[.cells 29 [.arr .i8 81 x1,.arr .i8 16 x2,.one [.i .i8 x3]]]=>ob (qBm qC x0 x1 x2 x3) fun t0=>sw t0 (fun z=>K (.ret) ([.s (.ptr 0 0 none 0),.s (.i .i64 (z.1))]) ([.cells 29 [.arr .i8 81 (z.2.1),.arr .i8 16 (z.2.2.1),.one [.i .i8 (z.2.2.2)]]])) (fun z=>K (.exit 0) ([.s (.ptr 0 0 none 0),.s .bad]) ([.cells 29 [.arr .i8 81 (z.1),.arr .i8 16 (z.2.1),.one [.i .i8 (z.2.2)]]]))
 | _,_=>none
def qO1:HL:=fun vs objs K=>match vs,objs with
 | [.s (.ptr 0 0 none 0),.s (.i .i64 x0),.s (.i .i64 x1)],[.cells 29 [.arr .i8 81 x2,.arr .i8 16 x3,.one [.i .i8 x4]]]=>ob (qBN qC x0 x1 x2 x3 x4) fun t0=>sw t0 (fun z=>K (.ret) ([.s (.ptr 0 0 none 0),.s (.i .i64 (z.1)),.s (.i .i64 (z.2.1))]) ([.cells 29 [.arr .i8 81 (z.2.2.1),.arr .i8 16 (z.2.2.2.1),.one [.i .i8 (z.2.2.2.2)]]])) (fun z=>K (.exit 4) ([.s (.ptr 0 0 none 0),.s .bad,.s (.i .i64 (z.1))]) ([.cells 29 [.arr .i8 81 (z.2.1),.arr .i8 16 (z.2.2.1),.one [.i .i8 (z.2.2.2)]]]))
 | _,_=>none
def qO6:HL:=fun vs objs K=>match vs,objs with
 | [.s (.ptr 0 0 none 0),.s (.i .i64 x0)],[.cells 29 [.arr .i8 81 x1,.arr .i8 16 x2,.one [.i .i8 x3]]]=>ob (qBE qC x0 x1 x2 x3) fun t0=>sw t0 (fun z=>K (.ret) ([.s (.ptr 0 0 none 0),.s (.i .i64 (z.1))]) ([.cells 29 [.arr .i8 81 (z.2.1),.arr .i8 16 (z.2.2.1),.one [.i .i8 (z.2.2.2)]]])) (fun z=>K (.exit 2) ([.s (.ptr 0 0 none 0),.s .bad]) ([.cells 29 [.arr .i8 81 (z.1),.arr .i8 16 (z.2.1),.one [.i .i8 (z.2.2)]]]))
 | _,_=>none
def qO2:HL:=fun vs objs K=>match vs,objs with
 | [.s (.ptr 0 0 none 0),.s (.i .i64 x0)],[.cells 29 [.arr .i8 81 x1,.arr .i8 16 x2,.one [.i .i8 x3]]]=>ob (qBB qC x0 x1 x2 x3) fun t0=>sw t0 (fun z=>K (.ret) ([.s (.ptr 0 0 none 0),.s (.i .i64 (z.1))]) ([.cells 29 [.arr .i8 81 (z.2.1),.arr .i8 16 (z.2.2.1),.one [.i .i8 (z.2.2.2)]]])) (fun z=>K (.exit 6) ([.s (.ptr 0 0 none 0),.s .bad]) ([.cells 29 [.arr .i8 81 (z.1),.arr .i8 16 (z.2.1),.one [.i .i8 (z.2.2)]]]))
 | _,_=>none
def qO3:HL:=fun vs objs K=>match vs,objs with
 | [.s (.ptr 0 0 none 0),.s (.i .i64 x0)],[.cells 29 [.arr .i8 81 x1,.arr .i8 16 x2,.one [.i .i8 x3]]]=>ob (qBC qC x0 x1 x2 x3) fun t0=>sw t0 (fun z=>K (.ret) ([.s (.ptr 0 0 none 0),.s (.i .i64 (z.1))]) ([.cells 29 [.arr .i8 81 (z.2.1),.arr .i8 16 (z.2.2.1),.one [.i .i8 (z.2.2.2)]]])) (fun z=>K (.exit 8) ([.s (.ptr 0 0 none 0),.s .bad]) ([.cells 29 [.arr .i8 81 (z.1),.arr .i8 16 (z.2.1),.one [.i .i8 (z.2.2)]]]))
 | _,_=>none
def qO4:HL:=fun vs objs K=>match vs,objs with
 | [.s (.ptr 0 0 none 0),.s (.i .i64 x0)],[.cells 29 [.arr .i8 81 x1,.arr .i8 16 x2,.one [.i .i8 x3]]]=>ob (qBD qC x0 x1 x2 x3) fun t0=>sw t0 (fun y0=>K (.ret) ([.s (.i .i64 y0)]) ([])) (fun _=>K (.exit 10) ([.s .bad]) ([]))
 | _,_=>none
def qkg:{R:Type}->Nat->List V->List Obj->(Ex->List V->List Obj->Option R)->Option R:=fun q vs objs K=>bif Nat.beq q 4 then qO5 vs objs K else bif Nat.beq q 12 then qO1 vs objs K else bif Nat.beq q 9 then qO6 vs objs K else bif Nat.beq q 20 then qO2 vs objs K else bif Nat.beq q 25 then qO3 vs objs K else bif Nat.beq q 30 then qO4 vs objs K else none
def qB1:Ctx:=mkC 103 ((qKq (qKk (qW5 (qXw (qX9 (qCk qH))))))) [(4,[1,3],[1,2]),(9,[1,4],[1,2]),(12,[1,4,5],[1,2,4]),(20,[1,7],[1,2]),(25,[1,8],[1,2]),(30,[1,9],[2])] qkg
theorem qFb:CtxOK Tryz.prog qB1:=mkC_ok ((qPC _ (qOf _ (qj5 _ (qkr _ (qk4 _ (qC6 _ qI)))))))
def qOy (f:Nat) (x0:Int) (x1 x2:LI) (x3:Int):Option ((Int×LI×LI×Int)⊕(LI×LI×Int)):=qe qB1 0 [1,3] [1,2] (qF Tryz.f17 4) f ([.s (.ptr 0 0 none 0),.s (.i .i64 x0)]) ([.cells 29 [.arr .i8 81 x1,.arr .i8 16 x2,.one [.i .i8 x3]]]) qOx
theorem qke (f:Nat) (x0:Int) (x1 x2:LI) (x3:Int):qOy (f+1) x0 x1 x2 x3=qDB (qOy f) x0 x1 x2 x3:=by kernel_rfl
theorem qXp:∀ f,qOy f=qBm f
 | 0=>rfl
 | f+1=>by funext x0 x1 x2 x3;rw[qke,qXp f];rfl
def qOq (f:Nat) (x0 x1:Int) (x2 x3:LI) (x4:Int):Option ((Int×Int×LI×LI×Int)⊕(Int×LI×LI×Int)):=qe qB1 0 [1,4,5] [1,2,4] (qF Tryz.f17 12) f ([.s (.ptr 0 0 none 0),.s (.i .i64 x0),.s (.i .i64 x1)]) ([.cells 29 [.arr .i8 81 x2,.arr .i8 16 x3,.one [.i .i8 x4]]]) qOp
theorem qka (f:Nat) (x0 x1:Int) (x2 x3:LI) (x4:Int):qOq (f+1) x0 x1 x2 x3 x4=qC7 (qOq f) x0 x1 x2 x3 x4:=by kernel_rfl
theorem qXl:∀ f,qOq f=qBN f
 | 0=>rfl
 | f+1=>by funext x0 x1 x2 x3 x4;rw[qka,qXl f];rfl
def qO0 (f:Nat) (x0:Int) (x1 x2:LI) (x3:Int):Option ((Int×LI×LI×Int)⊕(LI×LI×Int)):=qe qB1 0 [1,4] [1,2] (qF Tryz.f17 9) f ([.s (.ptr 0 0 none 0),.s (.i .i64 x0)]) ([.cells 29 [.arr .i8 81 x1,.arr .i8 16 x2,.one [.i .i8 x3]]]) qOz
theorem qkf (f:Nat) (x0:Int) (x1 x2:LI) (x3:Int):qO0 (f+1) x0 x1 x2 x3=qDC (qO0 f) x0 x1 x2 x3:=by kernel_rfl
theorem qXq:∀ f,qO0 f=qBE f
 | 0=>rfl
 | f+1=>by funext x0 x1 x2 x3;rw[qkf,qXq f];rfl
def qOs (f:Nat) (x0:Int) (x1 x2:LI) (x3:Int):Option ((Int×LI×LI×Int)⊕(LI×LI×Int)):=qe qB1 0 [1,7] [1,2] (qF Tryz.f17 20) f ([.s (.ptr 0 0 none 0),.s (.i .i64 x0)]) ([.cells 29 [.arr .i8 81 x1,.arr .i8 16 x2,.one [.i .i8 x3]]]) qOr
theorem qkb (f:Nat) (x0:Int) (x1 x2:LI) (x3:Int):qOs (f+1) x0 x1 x2 x3=qC8 (qOs f) x0 x1 x2 x3:=by kernel_rfl
theorem qXm:∀ f,qOs f=qBB f
 | 0=>rfl
 | f+1=>by funext x0 x1 x2 x3;rw[qkb,qXm f];rfl
def qOu (f:Nat) (x0:Int) (x1 x2:LI) (x3:Int):Option ((Int×LI×LI×Int)⊕(LI×LI×Int)):=qe qB1 0 [1,8] [1,2] (qF Tryz.f17 25) f ([.s (.ptr 0 0 none 0),.s (.i .i64 x0)]) ([.cells 29 [.arr .i8 81 x1,.arr .i8 16 x2,.one [.i .i8 x3]]]) qOt
theorem qkc (f:Nat) (x0:Int) (x1 x2:LI) (x3:Int):qOu (f+1) x0 x1 x2 x3=qC9 (qOu f) x0 x1 x2 x3:=by kernel_rfl
theorem qXn:∀ f,qOu f=qBC f
 | 0=>rfl
 | f+1=>by funext x0 x1 x2 x3;rw[qkc,qXn f];rfl
def qOw (f:Nat) (x0:Int) (x1 x2:LI) (x3:Int):Option ((Int)⊕(Unit)):=qe qB1 0 [1,9] [2] (qF Tryz.f17 30) f ([.s (.ptr 0 0 none 0),.s (.i .i64 x0)]) ([.cells 29 [.arr .i8 81 x1,.arr .i8 16 x2,.one [.i .i8 x3]]]) qOv
theorem qkd (f:Nat) (x0:Int) (x1 x2:LI) (x3:Int):qOw (f+1) x0 x1 x2 x3=qDA (qOw f) x0 x1 x2 x3:=by kernel_rfl
theorem qXo:∀ f,qOw f=qBD f
 | 0=>rfl
 | f+1=>by funext x0 x1 x2 x3;rw[qkd,qXo f];rfl
theorem qkm:qc Tryz.prog qB1 0 (qF Tryz.f17 4):=
 qg mixed qFb (qP.of (l':=[]) (by kernel_rfl) trivial) (q:=4) (kin:=[1,3]) (kout:=[1,2]) (by kernel_rfl) (by kernel_rfl) fun vs objs K r h=>by
  replace h:qO5 vs objs K=some r:=h
  unfold qO5 at h
  split at h
  ·skip
   obtain⟨t,h1,h2⟩:=qD h
   rw[<- qXp] at h1
   refine⟨_,qOx,t,qC,h1,fun e vs' objs' hd=>?_⟩
   unfold qOx at hd
   split at hd
   ·skip
    cases hd
    exact h2
   ·skip
    cases hd
    exact h2
   ·cases hd
  ·cases h
theorem qki:qc Tryz.prog qB1 0 (qF Tryz.f17 12):=
 qg mixed qFb (qP.of (l':=[]) (by kernel_rfl) trivial) (q:=12) (kin:=[1,4,5]) (kout:=[1,2,4]) (by kernel_rfl) (by kernel_rfl) fun vs objs K r h=>by
  replace h:qO1 vs objs K=some r:=h
  unfold qO1 at h
  split at h
  ·skip
   obtain⟨t,h1,h2⟩:=qD h
   rw[<- qXl] at h1
   refine⟨_,qOp,t,qC,h1,fun e vs' objs' hd=>?_⟩
   unfold qOp at hd
   split at hd
   ·skip
    cases hd
    exact h2
   ·skip
    cases hd
    exact h2
   ·cases hd
  ·cases h
theorem qkj:qc Tryz.prog qB1 0 (qF Tryz.f17 20):=
 qg mixed qFb (qP.of (l':=[]) (by kernel_rfl) trivial) (q:=20) (kin:=[1,7]) (kout:=[1,2]) (by kernel_rfl) (by kernel_rfl) fun vs objs K r h=>by
  replace h:qO2 vs objs K=some r:=h
  unfold qO2 at h
  split at h
  ·skip
   obtain⟨t,h1,h2⟩:=qD h
   rw[<- qXm] at h1
   refine⟨_,qOr,t,qC,h1,fun e vs' objs' hd=>?_⟩
   unfold qOr at hd
   split at hd
   ·skip
    cases hd
    exact h2
   ·skip
    cases hd
    exact h2
   ·cases hd
  ·cases h
theorem qkk:qc Tryz.prog qB1 0 (qF Tryz.f17 25):=
 qg mixed qFb (qP.of (l':=[]) (by kernel_rfl) trivial) (q:=25) (kin:=[1,8]) (kout:=[1,2]) (by kernel_rfl) (by kernel_rfl) fun vs objs K r h=>by
  replace h:qO3 vs objs K=some r:=h
  unfold qO3 at h
  split at h
  ·skip
   obtain⟨t,h1,h2⟩:=qD h
   rw[<- qXn] at h1
   refine⟨_,qOt,t,qC,h1,fun e vs' objs' hd=>?_⟩
   unfold qOt at hd
   split at hd
   ·skip
    cases hd
    exact h2
   ·skip
    cases hd
    exact h2
   ·cases hd
  ·cases h
theorem qkl:qc Tryz.prog qB1 0 (qF Tryz.f17 30):=
 qg mixed qFb (qP.of (l':=[]) (by kernel_rfl) trivial) (q:=30) (kin:=[1,9]) (kout:=[2]) (by kernel_rfl) (by kernel_rfl) fun vs objs K r h=>by
  replace h:qO4 vs objs K=some r:=h
  unfold qO4 at h
  split at h
  ·skip
   obtain⟨t,h1,h2⟩:=qD h
   rw[<- qXo] at h1
   refine⟨_,qOv,t,qC,h1,fun e vs' objs' hd=>?_⟩
   unfold qOv at hd
   split at hd
   ·skip
    cases hd
    exact h2
   ·skip
    cases hd
    exact h2
   ·cases hd
  ·cases h
theorem qkn:qc Tryz.prog qB1 0 (qF Tryz.f17 9):=
 qg mixed qFb (qP.of (l':=[qF Tryz.f17 12]) (by kernel_rfl) ⟨qki,trivial⟩) (q:=9) (kin:=[1,4]) (kout:=[1,2]) (by kernel_rfl) (by kernel_rfl) fun vs objs K r h=>by
  replace h:qO6 vs objs K=some r:=h
  unfold qO6 at h
  split at h
  ·skip
   obtain⟨t,h1,h2⟩:=qD h
   rw[<- qXq] at h1
   refine⟨_,qOz,t,qC,h1,fun e vs' objs' hd=>?_⟩
   unfold qOz at hd
   split at hd
   ·skip
    cases hd
    exact h2
   ·skip
    cases hd
    exact h2
   ·cases hd
  ·cases h
def qXk:V->List Obj->Option (Int):=fun v objs=>match v,objs with
 | .s (.i .i64 y0),[]=>some (y0)
 | _,_=>none
theorem qkZ (x0 x1:LI) (x2:Int):fnE qB1 Tryz.f17 ([.agg [.arr .i8 81 x0,.arr .i8 16 x1,.one [.i .i8 x2]]]) ([]) qXk=qEc x0 x1 x2:=by kernel_rfl
def qXj:HA:=fun o vs objs K=>match vs,objs with
 | [.agg [.arr .i8 81 x0,.arr .i8 16 x1,.one [.i .i8 x2]]],[]=>ob (qEc x0 x1 x2) fun y0=>K false (.s (.i .i64 y0)) ([])
 | _,_=>o 17 vs objs K
def qXr (o:Orc):Orc:=qJ 17 (qXj o) o
theorem qkh:OQ Tryz.prog qXr:=fun _ ho=>qK ho fun vs objs K r h=>by
 unfold qXj at h
 split at h
 ·skip
  obtain⟨t,h1,h2⟩:=qD h
  refine qAM mixed qFb (fn:=Tryz.f17) (b:=(Tryz.f17).body.getD .skip) (by kernel_rfl) (by kernel_rfl) (by kernel_rfl) ((qkZ _ _ _).trans h1) (m:=0) rfl (qP.of (l':=[qF Tryz.f17 4,qF Tryz.f17 9,qF Tryz.f17 20,qF Tryz.f17 25,qF Tryz.f17 30]) (by kernel_rfl) ⟨qkm,qkn,qkj,qkk,qkl,trivial⟩) fun v objs' hd=>?_
  unfold qXk at hd;split at hd;(cases hd;exact h2);cases hd
 ·exact ho _ _ _ _ _ h
def qPE:Ex->List V->List Obj->Option (List Bool×List Bool):=fun e vs objs=>match e,vs,objs with
 | .exit 0,[.s (.ptr 0 0 none 0),.s (.ptr 1 0 none 0)],[.cells 89 [Seg.barr 81 y0],.cells 89 [Seg.barr 81 y1]]=>some (y0,y1)
 | _,_,_=>none
def qPH:HL:=fun vs objs K=>match vs,objs with
 | [.s (.ptr 0 0 none 0),.s (.ptr 1 0 none 0),.s (.ptr 2 0 none 0),.s (.i .i64 x0)],[.cells 29 [.arr .i8 81 x1,.arr .i8 16 x2,.one [.i .i8 x3]],.cells 89 [Seg.barr 81 x4],.cells 89 [Seg.barr 81 x5]]=>ob (qDo qC x0 x1 x2 x3 x4 x5) fun z=>K (.exit 0) ([.s (.ptr 0 0 none 0),.s (.ptr 1 0 none 0)]) ([.cells 89 [Seg.barr 81 (z.1)],.cells 89 [Seg.barr 81 (z.2)]])
 | _,_=>none
def qkz:{R:Type}->Nat->List V->List Obj->(Ex->List V->List Obj->Option R)->Option R:=fun q vs objs K=>bif Nat.beq q 3 then qPH vs objs K else none
def qKr:Ctx:=mkC 18 (qH) [(3,[1,2,3,4],[2,3])] qkz
theorem qX2:CtxOK Tryz.prog qKr:=mkC_ok (qI)
def qPF (f:Nat) (x0:Int) (x1 x2:LI) (x3:Int) (x4 x5:List Bool):Option (List Bool×List Bool):=qe qKr 0 [1,2,3,4] [2,3] (qF Tryz.f40 3) f ([.s (.ptr 0 0 none 0),.s (.ptr 1 0 none 0),.s (.ptr 2 0 none 0),.s (.i .i64 x0)]) ([.cells 29 [.arr .i8 81 x1,.arr .i8 16 x2,.one [.i .i8 x3]],.cells 89 [Seg.barr 81 x4],.cells 89 [Seg.barr 81 x5]]) qPE
theorem qky (f:Nat) (x0:Int) (x1 x2:LI) (x3:Int) (x4 x5:List Bool):qPF (f+1) x0 x1 x2 x3 x4 x5=qHB (qPF f) x0 x1 x2 x3 x4 x5:=by kernel_rfl
theorem qX4:∀ f,qPF f=qDo f
 | 0=>rfl
 | f+1=>by funext x0 x1 x2 x3 x4 x5;rw[qky,qX4 f];rfl
theorem qk0:qc Tryz.prog qKr 0 (qF Tryz.f40 3):=
 qg mixed qX2 (qP.of (l':=[]) (by kernel_rfl) trivial) (q:=3) (kin:=[1,2,3,4]) (kout:=[2,3]) (by kernel_rfl) (by kernel_rfl) fun vs objs K r h=>by
  replace h:qPH vs objs K=some r:=h
  unfold qPH at h
  split at h
  ·skip
   obtain⟨t,h1,h2⟩:=qD h
   rw[<- qX4] at h1
   refine⟨_,qPE,t,qC,h1,fun e vs' objs' hd=>?_⟩
   unfold qPE at hd;split at hd;(cases hd;exact h2);cases hd
  ·cases h
def qX3:V->List Obj->Option (List Bool):=fun v objs=>match v,objs with
 | .agg [Seg.barr 81 y0],[]=>some (y0)
 | _,_=>none
theorem qkx (x0 x1:LI) (x2:Int):fnE qKr Tryz.f40 ([.agg [.arr .i8 81 x0,.arr .i8 16 x1,.one [.i .i8 x2]]]) ([]) qX3=qDn x0 x1 x2:=by kernel_rfl
def qX1:HA:=fun o vs objs K=>match vs,objs with
 | [.agg [.arr .i8 81 x0,.arr .i8 16 x1,.one [.i .i8 x2]]],[]=>ob (qDn x0 x1 x2) fun y0=>K false (.agg [Seg.barr 81 y0]) ([])
 | _,_=>o 40 vs objs K
def qKs (o:Orc):Orc:=qJ 40 (qX1 o) o
theorem qPG:OQ Tryz.prog qKs:=fun _ ho=>qK ho fun vs objs K r h=>by
 unfold qX1 at h
 split at h
 ·skip
  obtain⟨t,h1,h2⟩:=qD h
  refine qAM mixed qX2 (fn:=Tryz.f40) (b:=(Tryz.f40).body.getD .skip) (by kernel_rfl) (by kernel_rfl) (by kernel_rfl) ((qkx _ _ _).trans h1) (m:=0) rfl (qP.of (l':=[qF Tryz.f40 3]) (by kernel_rfl) ⟨qk0,trivial⟩) fun v objs' hd=>?_
  unfold qX3 at hd;split at hd;(cases hd;exact h2);cases hd
 ·exact ho _ _ _ _ _ h
def qPP:Ex->List V->List Obj->Option ((Int)⊕(Unit)):=fun e vs objs=>match e,vs,objs with
 | .ret,[.s (.i .i64 y0)],[]=>some (.inl (y0))
 | .exit 0,[.s .bad],[]=>some (.inr ())
 | _,_,_=>none
def qPR:HL:=fun vs objs K=>match vs,objs with
 | [.s (.i .i64 x0),.s (.ptr 0 0 none 0),.s (.i .i64 x1)],[.cells 29 [.arr .i8 81 x2,.arr .i8 16 x3,.one [.i .i8 x4]]]=>ob (qEf qC x0 x1 x2 x3 x4) fun t0=>sw t0 (fun y0=>K (.ret) ([.s (.i .i64 y0)]) ([])) (fun _=>K (.exit 0) ([.s .bad]) ([]))
 | _,_=>none
def qlI:{R:Type}->Nat->List V->List Obj->(Ex->List V->List Obj->Option R)->Option R:=fun q vs objs K=>bif Nat.beq q 2 then qPR vs objs K else none
def qKw:Ctx:=mkC 20 (qH) [(2,[1,2,5],[4])] qlI
theorem qYN:CtxOK Tryz.prog qKw:=mkC_ok (qI)
def qPQ (f:Nat) (x0 x1:Int) (x2 x3:LI) (x4:Int):Option ((Int)⊕(Unit)):=qe qKw 0 [1,2,5] [4] (qF Tryz.f41 2) f ([.s (.i .i64 x0),.s (.ptr 0 0 none 0),.s (.i .i64 x1)]) ([.cells 29 [.arr .i8 81 x2,.arr .i8 16 x3,.one [.i .i8 x4]]]) qPP
theorem qlH (f:Nat) (x0 x1:Int) (x2 x3:LI) (x4:Int):qPQ (f+1) x0 x1 x2 x3 x4=qHE (qPQ f) x0 x1 x2 x3 x4:=by kernel_rfl
theorem qYP:∀ f,qPQ f=qEf f
 | 0=>rfl
 | f+1=>by funext x0 x1 x2 x3 x4;rw[qlH,qYP f];rfl
theorem qlK:qc Tryz.prog qKw 0 (qF Tryz.f41 2):=
 qg mixed qYN (qP.of (l':=[]) (by kernel_rfl) trivial) (q:=2) (kin:=[1,2,5]) (kout:=[4]) (by kernel_rfl) (by kernel_rfl) fun vs objs K r h=>by
  replace h:qPR vs objs K=some r:=h
  unfold qPR at h
  split at h
  ·skip
   obtain⟨t,h1,h2⟩:=qD h
   rw[<- qYP] at h1
   refine⟨_,qPP,t,qC,h1,fun e vs' objs' hd=>?_⟩
   unfold qPP at hd
   split at hd
   ·skip
    cases hd
    exact h2
   ·skip
    cases hd
    exact h2
   ·cases hd
  ·cases h
def qYO:V->List Obj->Option (Int):=fun v objs=>match v,objs with
 | .s (.i .i64 y0),[]=>some (y0)
 | _,_=>none
theorem qlG (x0 x1:LI) (x2 x3:Int):fnE qKw Tryz.f41 ([.agg [.arr .i8 81 x0,.arr .i8 16 x1,.one [.i .i8 x2]],.s (.i .i64 x3)]) ([]) qYO=qIk x0 x1 x2 x3:=by kernel_rfl
def qYM:HA:=fun o vs objs K=>match vs,objs with
 | [.agg [.arr .i8 81 x0,.arr .i8 16 x1,.one [.i .i8 x2]],.s (.i .i64 x3)],[]=>ob (qIk x0 x1 x2 x3) fun y0=>K false (.s (.i .i64 y0)) ([])
 | _,_=>o 41 vs objs K
def qYQ (o:Orc):Orc:=qJ 41 (qYM o) o
theorem qlJ:OQ Tryz.prog qYQ:=fun _ ho=>qK ho fun vs objs K r h=>by
 unfold qYM at h
 split at h
 ·skip
  obtain⟨t,h1,h2⟩:=qD h
  refine qAM mixed qYN (fn:=Tryz.f41) (b:=(Tryz.f41).body.getD .skip) (by kernel_rfl) (by kernel_rfl) (by kernel_rfl) ((qlG _ _ _ _).trans h1) (m:=0) rfl (qP.of (l':=[qF Tryz.f41 2]) (by kernel_rfl) ⟨qlK,trivial⟩) fun v objs' hd=>?_
  unfold qYO at hd;split at hd;(cases hd;exact h2);cases hd
 ·exact ho _ _ _ _ _ h
def qXL:Ctx:=mkC 8 (qH) [] qS
theorem qkG:CtxOK Tryz.prog qXL:=mkC_ok (qI)
def qXM:V->List Obj->Option (Int):=fun v objs=>match v,objs with
 | .s (.i .i64 y0),[]=>some (y0)
 | _,_=>none
theorem qkF (x0:Int):fnE qXL Tryz.f116 ([.s (.i .i64 x0)]) ([]) qXM=qEY x0:=by kernel_rfl
def qXK:HA:=fun o vs objs K=>match vs,objs with
 | [.s (.i .i64 x0)],[]=>ob (qEY x0) fun y0=>K false (.s (.i .i64 y0)) ([])
 | _,_=>o 116 vs objs K
def qXN (o:Orc):Orc:=qJ 116 (qXK o) o
theorem qkH:OQ Tryz.prog qXN:=fun _ ho=>qK ho fun vs objs K r h=>by
 unfold qXK at h
 split at h
 ·skip
  obtain⟨t,h1,h2⟩:=qD h
  refine qV mixed qkG ((qkF _).trans h1) (by kernel_rfl) fun v objs' hd=>?_
  unfold qXM at hd;split at hd;(cases hd;exact h2);cases hd
 ·exact ho _ _ _ _ _ h
def qXH:Ctx:=mkC 125 ((qCk (qEX (qXN qH)))) [] qS
theorem qkD:CtxOK Tryz.prog qXH:=mkC_ok ((qC6 _ (qFa _ (qkH _ qI))))
def qXI:V->List Obj->Option (Bool):=fun v objs=>match v,objs with
 | .s (.b y0),[]=>some (y0)
 | _,_=>none
theorem qkC (x0 x1 x2:Int):fnE qXH Tryz.f90 ([.s (.i .i64 x0),.s (.i .i64 x1),.s (.i .i64 x2)]) ([]) qXI=qIg x0 x1 x2:=by kernel_rfl
def qXG:HA:=fun o vs objs K=>match vs,objs with
 | [.s (.i .i64 x0),.s (.i .i64 x1),.s (.i .i64 x2)],[]=>ob (qIg x0 x1 x2) fun y0=>K false (.s (.b y0)) ([])
 | _,_=>o 90 vs objs K
def qXJ (o:Orc):Orc:=qJ 90 (qXG o) o
theorem qkE:OQ Tryz.prog qXJ:=fun _ ho=>qK ho fun vs objs K r h=>by
 unfold qXG at h
 split at h
 ·skip
  obtain⟨t,h1,h2⟩:=qD h
  refine qV mixed qkD ((qkC _ _ _).trans h1) (by kernel_rfl) fun v objs' hd=>?_
  unfold qXI at hd;split at hd;(cases hd;exact h2);cases hd
 ·exact ho _ _ _ _ _ h
def qXZ:Ctx:=mkC 51 (qH) [] qS
theorem qkT:CtxOK Tryz.prog qXZ:=mkC_ok (qI)
def qXa:V->List Obj->Option (Int):=fun v objs=>match v,objs with
 | .s (.i .i64 y0),[]=>some (y0)
 | _,_=>none
theorem qkS (x0 x1:Int):fnE qXZ Tryz.f91 ([.s (.i .i64 x0),.s (.i .i64 x1)]) ([]) qXa=qG8 x0 x1:=by kernel_rfl
def qXY:HA:=fun o vs objs K=>match vs,objs with
 | [.s (.i .i64 x0),.s (.i .i64 x1)],[]=>ob (qG8 x0 x1) fun y0=>K false (.s (.i .i64 y0)) ([])
 | _,_=>o 91 vs objs K
def qOn (o:Orc):Orc:=qJ 91 (qXY o) o
theorem qXb:OQ Tryz.prog qOn:=fun _ ho=>qK ho fun vs objs K r h=>by
 unfold qXY at h
 split at h
 ·skip
  obtain⟨t,h1,h2⟩:=qD h
  refine qV mixed qkT ((qkS _ _).trans h1) (by kernel_rfl) fun v objs' hd=>?_
  unfold qXa at hd;split at hd;(cases hd;exact h2);cases hd
 ·exact ho _ _ _ _ _ h
def qXg:Ctx:=mkC 7 (qH) [] qS
theorem qkX:CtxOK Tryz.prog qXg:=mkC_ok (qI)
def qXh:V->List Obj->Option (Int):=fun v objs=>match v,objs with
 | .s (.i .i64 y0),[]=>some (y0)
 | _,_=>none
theorem qkW (x0:Int):fnE qXg Tryz.f125 ([.s (.i .i64 x0)]) ([]) qXh=qG9 x0:=by kernel_rfl
def qXf:HA:=fun o vs objs K=>match vs,objs with
 | [.s (.i .i64 x0)],[]=>ob (qG9 x0) fun y0=>K false (.s (.i .i64 y0)) ([])
 | _,_=>o 125 vs objs K
def qXi (o:Orc):Orc:=qJ 125 (qXf o) o
theorem qkY:OQ Tryz.prog qXi:=fun _ ho=>qK ho fun vs objs K r h=>by
 unfold qXf at h
 split at h
 ·skip
  obtain⟨t,h1,h2⟩:=qD h
  refine qV mixed qkX ((qkW _).trans h1) (by kernel_rfl) fun v objs' hd=>?_
  unfold qXh at hd;split at hd;(cases hd;exact h2);cases hd
 ·exact ho _ _ _ _ _ h
def qOh:Ex->List V->List Obj->Option (Nat×Nat×LI):=fun e vs objs=>match e,vs,objs with
 | .exit 0,[.s (.sl 0 0 y0 true)],[.sli 3 false (.arr .i64 y1 y2)]=>some (y0,y1,y2)
 | _,_,_=>none
def qOj:HL:=fun vs objs K=>match vs,objs with
 | [.s (.i .i64 x0),.s (.sl 0 0 x1 true),.s (.i .i64 x2),.s (.i .i64 x3)],[.sli 3 false (.arr .i64 x4 x5)]=>ob (qEZ qC x0 x1 x2 x3 x4 x5) fun z=>K (.exit 0) ([.s (.sl 0 0 (z.1) true)]) ([.sli 3 false (.arr .i64 (z.2.1) (z.2.2))])
 | _,_=>none
def qkK:{R:Type}->Nat->List V->List Obj->(Ex->List V->List Obj->Option R)->Option R:=fun q vs objs K=>bif Nat.beq q 6 then qOj vs objs K else none
def qKl:Ctx:=mkC 41 ((qXi (qOn qH))) [(6,[1,5,6,7],[5])] qkK
theorem qXP:CtxOK Tryz.prog qKl:=mkC_ok ((qkY _ (qXb _ qI)))
def qOi (f:Nat) (x0:Int) (x1:Nat) (x2 x3:Int) (x4:Nat) (x5:LI):Option (Nat×Nat×LI):=qe qKl 0 [1,5,6,7] [5] (qF Tryz.f117 6) f ([.s (.i .i64 x0),.s (.sl 0 0 x1 true),.s (.i .i64 x2),.s (.i .i64 x3)]) ([.sli 3 false (.arr .i64 x4 x5)]) qOh
theorem qkJ (f:Nat) (x0:Int) (x1:Nat) (x2 x3:Int) (x4:Nat) (x5:LI):qOi (f+1) x0 x1 x2 x3 x4 x5=qG6 (qOi f) x0 x1 x2 x3 x4 x5:=by kernel_rfl
theorem qXR:∀ f,qOi f=qEZ f
 | 0=>rfl
 | f+1=>by funext x0 x1 x2 x3 x4 x5;rw[qkJ,qXR f];rfl
theorem qkM:qc Tryz.prog qKl 0 (qF Tryz.f117 6):=
 qg mixed qXP (qP.of (l':=[]) (by kernel_rfl) trivial) (q:=6) (kin:=[1,5,6,7]) (kout:=[5]) (by kernel_rfl) (by kernel_rfl) fun vs objs K r h=>by
  replace h:qOj vs objs K=some r:=h
  unfold qOj at h
  split at h
  ·skip
   obtain⟨t,h1,h2⟩:=qD h
   rw[<- qXR] at h1
   refine⟨_,qOh,t,qC,h1,fun e vs' objs' hd=>?_⟩
   unfold qOh at hd;split at hd;(cases hd;exact h2);cases hd
  ·cases h
def qXQ:V->List Obj->Option (Nat×Nat×LI):=fun v objs=>match v,objs with
 | .s (.sl 0 0 y0 true),[.sli 3 false (.arr .i64 y1 y2)]=>some (y0,y1,y2)
 | _,_=>none
theorem qkI (x0 x1:Int):fnE qKl Tryz.f117 ([.s (.i .i64 x0),.s (.i .i64 x1)]) ([]) qXQ=qIh x0 x1:=by kernel_rfl
def qXO:HA:=fun o vs objs K=>match vs,objs with
 | [.s (.i .i64 x0),.s (.i .i64 x1)],[]=>ob (qIh x0 x1) fun z=>K false (.s (.sl 0 0 (z.1) true)) ([.sli 3 false (.arr .i64 (z.2.1) (z.2.2))])
 | _,_=>o 117 vs objs K
def qXS (o:Orc):Orc:=qJ 117 (qXO o) o
theorem qkL:OQ Tryz.prog qXS:=fun _ ho=>qK ho fun vs objs K r h=>by
 unfold qXO at h
 split at h
 ·skip
  obtain⟨t,h1,h2⟩:=qD h
  refine qAM mixed qXP (fn:=Tryz.f117) (b:=(Tryz.f117).body.getD .skip) (by kernel_rfl) (by kernel_rfl) (by kernel_rfl) ((qkI _ _).trans h1) (m:=0) rfl (qP.of (l':=[qF Tryz.f117 6]) (by kernel_rfl) ⟨qkM,trivial⟩) fun v objs' hd=>?_
  unfold qXQ at hd;split at hd;(cases hd;exact h2);cases hd
 ·exact ho _ _ _ _ _ h
def qOk:Ex->List V->List Obj->Option ((Bool)⊕(Unit)):=fun e vs objs=>match e,vs,objs with
 | .ret,[.s (.b y0)],[]=>some (.inl (y0))
 | .exit 0,[.s .bad],[]=>some (.inr ())
 | _,_,_=>none
def qOm:HL:=fun vs objs K=>match vs,objs with
 | [.s (.ptr 0 0 none 0),.s (.sl 1 0 x0 true),.s (.i .i64 x1)],[.cells 89 [Seg.barr 81 x2],.sli 3 false (.arr .i64 x3 x4)]=>ob (qEa qC x0 x1 x2 x3 x4) fun t0=>sw t0 (fun y0=>K (.ret) ([.s (.b y0)]) ([])) (fun _=>K (.exit 0) ([.s .bad]) ([]))
 | _,_=>none
def qkP:{R:Type}->Nat->List V->List Obj->(Ex->List V->List Obj->Option R)->Option R:=fun q vs objs K=>bif Nat.beq q 3 then qOm vs objs K else none
def qKm:Ctx:=mkC 24 ((qXS qH)) [(3,[5,7,8],[6])] qkP
theorem qXU:CtxOK Tryz.prog qKm:=mkC_ok ((qkL _ qI))
def qOl (f:Nat) (x0:Nat) (x1:Int) (x2:List Bool) (x3:Nat) (x4:LI):Option ((Bool)⊕(Unit)):=qe qKm 0 [5,7,8] [6] (qF Tryz.f92 3) f ([.s (.ptr 0 0 none 0),.s (.sl 1 0 x0 true),.s (.i .i64 x1)]) ([.cells 89 [Seg.barr 81 x2],.sli 3 false (.arr .i64 x3 x4)]) qOk
theorem qkO (f:Nat) (x0:Nat) (x1:Int) (x2:List Bool) (x3:Nat) (x4:LI):qOl (f+1) x0 x1 x2 x3 x4=qG7 (qOl f) x0 x1 x2 x3 x4:=by kernel_rfl
theorem qXW:∀ f,qOl f=qEa f
 | 0=>rfl
 | f+1=>by funext x0 x1 x2 x3 x4;rw[qkO,qXW f];rfl
theorem qkR:qc Tryz.prog qKm 0 (qF Tryz.f92 3):=
 qg mixed qXU (qP.of (l':=[]) (by kernel_rfl) trivial) (q:=3) (kin:=[5,7,8]) (kout:=[6]) (by kernel_rfl) (by kernel_rfl) fun vs objs K r h=>by
  replace h:qOm vs objs K=some r:=h
  unfold qOm at h
  split at h
  ·skip
   obtain⟨t,h1,h2⟩:=qD h
   rw[<- qXW] at h1
   refine⟨_,qOk,t,qC,h1,fun e vs' objs' hd=>?_⟩
   unfold qOk at hd
   split at hd
   ·skip
    cases hd
    exact h2
   ·skip
    cases hd
    exact h2
   ·cases hd
  ·cases h
def qXV:V->List Obj->Option (Bool):=fun v objs=>match v,objs with
 | .s (.b y0),[]=>some (y0)
 | _,_=>none
theorem qkN (x0 x1:Int) (x2:List Bool):fnE qKm Tryz.f92 ([.s (.i .i64 x0),.s (.i .i64 x1),.agg [Seg.barr 81 x2]]) ([]) qXV=qAi x0 x1 x2:=by kernel_rfl
def qXT:HA:=fun o vs objs K=>match vs,objs with
 | [.s (.i .i64 x0),.s (.i .i64 x1),.agg [Seg.barr 81 x2]],[]=>ob (qAi x0 x1 x2) fun y0=>K false (.s (.b y0)) ([])
 | _,_=>o 92 vs objs K
def qXX (o:Orc):Orc:=qJ 92 (qXT o) o
theorem qkQ:OQ Tryz.prog qXX:=fun _ ho=>qK ho fun vs objs K r h=>by
 unfold qXT at h
 split at h
 ·skip
  obtain⟨t,h1,h2⟩:=qD h
  refine qAM mixed qXU (fn:=Tryz.f92) (b:=(Tryz.f92).body.getD .skip) (by kernel_rfl) (by kernel_rfl) (by kernel_rfl) ((qkN _ _ _).trans h1) (m:=0) rfl (qP.of (l':=[qF Tryz.f92 3]) (by kernel_rfl) ⟨qkR,trivial⟩) fun v objs' hd=>?_
  unfold qXV at hd;split at hd;(cases hd;exact h2);cases hd
 ·exact ho _ _ _ _ _ h
def qXd:Ctx:=mkC 63 ((qXX (qCk (qEX (qOn (qXJ qH)))))) [] qS
theorem qkV:CtxOK Tryz.prog qXd:=mkC_ok ((qkQ _ (qC6 _ (qFa _ (qXb _ (qkE _ qI))))))
def qXe:V->List Obj->Option (Bool):=fun v objs=>match v,objs with
 | .s (.b y0),[]=>some (y0)
 | _,_=>none
theorem qkU (x0 x1 x2:Int) (x3:List Bool):fnE qXd Tryz.f43 ([.s (.i .i64 x0),.s (.i .i64 x1),.s (.i .i64 x2),.agg [Seg.barr 81 x3]]) ([]) qXe=qEb x0 x1 x2 x3:=by kernel_rfl
def qXc:HA:=fun o vs objs K=>match vs,objs with
 | [.s (.i .i64 x0),.s (.i .i64 x1),.s (.i .i64 x2),.agg [Seg.barr 81 x3]],[]=>ob (qEb x0 x1 x2 x3) fun y0=>K false (.s (.b y0)) ([])
 | _,_=>o 43 vs objs K
def qKn (o:Orc):Orc:=qJ 43 (qXc o) o
theorem qOo:OQ Tryz.prog qKn:=fun _ ho=>qK ho fun vs objs K r h=>by
 unfold qXc at h
 split at h
 ·skip
  obtain⟨t,h1,h2⟩:=qD h
  refine qV mixed qkV ((qkU _ _ _ _).trans h1) (by kernel_rfl) fun v objs' hd=>?_
  unfold qXe at hd;split at hd;(cases hd;exact h2);cases hd
 ·exact ho _ _ _ _ _ h
end
end Go.Kk.KkSR
