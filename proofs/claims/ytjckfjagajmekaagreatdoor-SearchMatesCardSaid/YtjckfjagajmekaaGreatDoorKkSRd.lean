/- Printed by a tool of this project (KkGen): the program's functions come to the plain ones. -/
import Derived.Test.YtjckfjagajmekaaGreatDoorKkSRc
namespace Go.Kk.KkSR
noncomputable section
open Go.Proofs Go.Kk.Pl
set_option maxRecDepth 100000
set_option maxHeartbeats 4000000
def qQb:Ex->List V->List Obj->Option ((Int×Int×Int×Int×Int×Nat×Bool×Int×Nat×Int×Int×Nat×Int×Int×Nat×Nat×LL×LI×LI×Int×LL×LL×Nat×LL×Nat×LL×Nat×LL)⊕(Int×Int×Int×Int×Int×Nat×Int×Int×Nat×Int×Int×Nat×Nat×LL×LI×LI×Int×LL×LL×Nat×LL×Nat×LL)):=fun e vs objs=>match e,vs,objs with
 | .ret,[.s (.ptr 0 0 none 0),.s (.i .i64 y0),.s (.i .i64 y1),.s (.i .i64 y2),.s (.i .i64 y3),.s (.i .i64 y4),.s (.sl 7 0 y5 true),.s (.b y6),.s (.ptr 2 0 none 0),.s (.i .i64 y7),.s (.sl 8 0 y8 true)],[.cells 60 [.one [.ptr 1 0 none 0,.ptr 2 0 none 0,.i .i64 y9,.i .i64 y10]],.cells 104 [.one [.sl 3 0 y11 true,.i .i64 y12]],.cells 65 [.one [.ptr 4 0 none 0,.i .u64 y13,.sl 6 0 y14 true]],.sli 135 false (.rows kk0 y15 y16),.cells 84 [.arr .i8 81 y17,.arr .i8 16 y18,.one [.i .i8 y19],.rows [.i .u64,.i .u64] 32 y20,.rows [.i .u64,.i .u64] 2 y21],Obj.dead,.sli 125 false (.rows [.i .i64,.i .i64,.i .i64,.b,.i .i8,.i .i8] y22 y23),.sli 41 false (.rows [.i .i64,.i .i64,.i .i64,.b] y24 y25),.sli 41 false (.rows [.i .i64,.i .i64,.i .i64,.b] y26 y27)]=>bif decide (kk0=kL0) then some (.inl (y0,y1,y2,y3,y4,y5,y6,y7,y8,y9,y10,y11,y12,y13,y14,y15,y16,y17,y18,y19,y20,y21,y22,y23,y24,y25,y26,y27)) else none
 | .exit 1,[.s (.ptr 0 0 none 0),.s (.i .i64 y0),.s (.i .i64 y1),.s (.i .i64 y2),.s (.i .i64 y3),.s .bad,.s .bad,.s .bad,.s (.ptr 2 0 none 0),.s (.i .i64 y4),.s (.sl 7 0 y5 true)],[.cells 60 [.one [.ptr 1 0 none 0,.ptr 2 0 none 0,.i .i64 y6,.i .i64 y7]],.cells 104 [.one [.sl 3 0 y8 true,.i .i64 y9]],.cells 65 [.one [.ptr 4 0 none 0,.i .u64 y10,.sl 6 0 y11 true]],.sli 135 false (.rows kk0 y12 y13),.cells 84 [.arr .i8 81 y14,.arr .i8 16 y15,.one [.i .i8 y16],.rows [.i .u64,.i .u64] 32 y17,.rows [.i .u64,.i .u64] 2 y18],Obj.dead,.sli 125 false (.rows [.i .i64,.i .i64,.i .i64,.b,.i .i8,.i .i8] y19 y20),.sli 41 false (.rows [.i .i64,.i .i64,.i .i64,.b] y21 y22)]=>bif decide (kk0=kL0) then some (.inr (y0,y1,y2,y3,y4,y5,y6,y7,y8,y9,y10,y11,y12,y13,y14,y15,y16,y17,y18,y19,y20,y21,y22)) else none
 | _,_,_=>none
def qQe (n:Nat) {R:Type} (vs:List V) (objs:List Obj) (K:Ex->List V->List Obj->Option R):Option R:=match vs,objs with
 | [.s (.ptr 0 0 none 0),.s (.i .i64 x0),.s (.i .i64 x1),.s (.i .i64 x2),.s (.i .i64 x3),.s (.ptr 2 0 none 0),.s (.i .i64 x4),.s (.sl 7 0 x5 true),.s (.i .i64 x6),.s (.sl 8 0 x7 true),.s (.i .i64 x8),.s (.i .i64 x9)],[.cells 60 [.one [.ptr 1 0 none 0,.ptr 2 0 none 0,.i .i64 x10,.i .i64 x11]],.cells 104 [.one [.sl 3 0 x12 true,.i .i64 x13]],.cells 65 [.one [.ptr 4 0 none 0,.i .u64 x14,.sl 6 0 x15 true]],.sli 135 false (.rows kk0 x16 x17),.cells 84 [.arr .i8 81 x18,.arr .i8 16 x19,.one [.i .i8 x20],.rows [.i .u64,.i .u64] 32 x21,.rows [.i .u64,.i .u64] 2 x22],Obj.dead,.sli 125 false (.rows [.i .i64,.i .i64,.i .i64,.b,.i .i8,.i .i8] x23 x24),.sli 41 false (.rows [.i .i64,.i .i64,.i .i64,.b] x25 x26),.sli 41 false (.rows [.i .i64,.i .i64,.i .i64,.b] x27 x28)]=>bif decide (kk0=kL0) then ob (qAU (qBn n) qC x0 x1 x2 x3 x4 x5 x6 x7 x8 x9 x10 x11 x12 x13 x14 x15 x16 x17 x18 x19 x20 x21 x22 x23 x24 x25 x26 x27 x28) fun t0=>sw t0 (fun z=>K (.ret) ([.s (.ptr 0 0 none 0),.s (.i .i64 (z.1)),.s (.i .i64 (z.2.1)),.s (.i .i64 (z.2.2.1)),.s (.i .i64 (z.2.2.2.1)),.s (.i .i64 (z.2.2.2.2.1)),.s (.sl 7 0 (z.2.2.2.2.2.1) true),.s (.b (z.2.2.2.2.2.2.1)),.s (.ptr 2 0 none 0),.s (.i .i64 (z.2.2.2.2.2.2.2.1)),.s (.sl 8 0 (z.2.2.2.2.2.2.2.2.1) true)]) ([.cells 60 [.one [.ptr 1 0 none 0,.ptr 2 0 none 0,.i .i64 (z.2.2.2.2.2.2.2.2.2.1),.i .i64 (z.2.2.2.2.2.2.2.2.2.2.1)]],.cells 104 [.one [.sl 3 0 (z.2.2.2.2.2.2.2.2.2.2.2.1) true,.i .i64 (z.2.2.2.2.2.2.2.2.2.2.2.2.1)]],.cells 65 [.one [.ptr 4 0 none 0,.i .u64 (z.2.2.2.2.2.2.2.2.2.2.2.2.2.1),.sl 6 0 (z.2.2.2.2.2.2.2.2.2.2.2.2.2.2.1) true]],.sli 135 false (.rows kL0 (z.2.2.2.2.2.2.2.2.2.2.2.2.2.2.2.1) (z.2.2.2.2.2.2.2.2.2.2.2.2.2.2.2.2.1)),.cells 84 [.arr .i8 81 (z.2.2.2.2.2.2.2.2.2.2.2.2.2.2.2.2.2.1),.arr .i8 16 (z.2.2.2.2.2.2.2.2.2.2.2.2.2.2.2.2.2.2.1),.one [.i .i8 (z.2.2.2.2.2.2.2.2.2.2.2.2.2.2.2.2.2.2.2.1)],.rows [.i .u64,.i .u64] 32 (z.2.2.2.2.2.2.2.2.2.2.2.2.2.2.2.2.2.2.2.2.1),.rows [.i .u64,.i .u64] 2 (z.2.2.2.2.2.2.2.2.2.2.2.2.2.2.2.2.2.2.2.2.2.1)],Obj.dead,.sli 125 false (.rows [.i .i64,.i .i64,.i .i64,.b,.i .i8,.i .i8] (z.2.2.2.2.2.2.2.2.2.2.2.2.2.2.2.2.2.2.2.2.2.2.1) (z.2.2.2.2.2.2.2.2.2.2.2.2.2.2.2.2.2.2.2.2.2.2.2.1)),.sli 41 false (.rows [.i .i64,.i .i64,.i .i64,.b] (z.2.2.2.2.2.2.2.2.2.2.2.2.2.2.2.2.2.2.2.2.2.2.2.2.1) (z.2.2.2.2.2.2.2.2.2.2.2.2.2.2.2.2.2.2.2.2.2.2.2.2.2.1)),.sli 41 false (.rows [.i .i64,.i .i64,.i .i64,.b] (z.2.2.2.2.2.2.2.2.2.2.2.2.2.2.2.2.2.2.2.2.2.2.2.2.2.2.1) (z.2.2.2.2.2.2.2.2.2.2.2.2.2.2.2.2.2.2.2.2.2.2.2.2.2.2.2))])) (fun z=>K (.exit 1) ([.s (.ptr 0 0 none 0),.s (.i .i64 (z.1)),.s (.i .i64 (z.2.1)),.s (.i .i64 (z.2.2.1)),.s (.i .i64 (z.2.2.2.1)),.s .bad,.s .bad,.s .bad,.s (.ptr 2 0 none 0),.s (.i .i64 (z.2.2.2.2.1)),.s (.sl 7 0 (z.2.2.2.2.2.1) true)]) ([.cells 60 [.one [.ptr 1 0 none 0,.ptr 2 0 none 0,.i .i64 (z.2.2.2.2.2.2.1),.i .i64 (z.2.2.2.2.2.2.2.1)]],.cells 104 [.one [.sl 3 0 (z.2.2.2.2.2.2.2.2.1) true,.i .i64 (z.2.2.2.2.2.2.2.2.2.1)]],.cells 65 [.one [.ptr 4 0 none 0,.i .u64 (z.2.2.2.2.2.2.2.2.2.2.1),.sl 6 0 (z.2.2.2.2.2.2.2.2.2.2.2.1) true]],.sli 135 false (.rows kL0 (z.2.2.2.2.2.2.2.2.2.2.2.2.1) (z.2.2.2.2.2.2.2.2.2.2.2.2.2.1)),.cells 84 [.arr .i8 81 (z.2.2.2.2.2.2.2.2.2.2.2.2.2.2.1),.arr .i8 16 (z.2.2.2.2.2.2.2.2.2.2.2.2.2.2.2.1),.one [.i .i8 (z.2.2.2.2.2.2.2.2.2.2.2.2.2.2.2.2.1)],.rows [.i .u64,.i .u64] 32 (z.2.2.2.2.2.2.2.2.2.2.2.2.2.2.2.2.2.1),.rows [.i .u64,.i .u64] 2 (z.2.2.2.2.2.2.2.2.2.2.2.2.2.2.2.2.2.2.1)],Obj.dead,.sli 125 false (.rows [.i .i64,.i .i64,.i .i64,.b,.i .i8,.i .i8] (z.2.2.2.2.2.2.2.2.2.2.2.2.2.2.2.2.2.2.2.1) (z.2.2.2.2.2.2.2.2.2.2.2.2.2.2.2.2.2.2.2.2.1)),.sli 41 false (.rows [.i .i64,.i .i64,.i .i64,.b] (z.2.2.2.2.2.2.2.2.2.2.2.2.2.2.2.2.2.2.2.2.2.1) (z.2.2.2.2.2.2.2.2.2.2.2.2.2.2.2.2.2.2.2.2.2.2))])) else none
 | _,_=>none
def qmj (n:Nat):{R:Type}->Nat->List V->List Obj->(Ex->List V->List Obj->Option R)->Option R:=fun q vs objs K=>bif Nat.beq q 25 then qQe n vs objs K else none
def qGH (n:Nat) {R:Type} (o:Orc) (vs:List V) (objs:List Obj) (K:Bool->V->List Obj->Option R):Option R:=match vs,objs with
 | [.s (.ptr 0 0 none 0),.s (.i .i64 x0),.s (.i .i64 x1),.s (.i .i64 x2),.s (.i .i64 x3)],[.cells 60 [.one [.ptr 1 0 none 0,.ptr 2 0 none 0,.i .i64 x4,.i .i64 x5]],.cells 104 [.one [.sl 3 0 x6 true,.i .i64 x7]],.cells 65 [.one [.ptr 4 0 none 0,.i .u64 x8,.sl 5 0 x9 true]],.sli 135 false (.rows kk0 x10 x11),.cells 84 [.arr .i8 81 x12,.arr .i8 16 x13,.one [.i .i8 x14],.rows [.i .u64,.i .u64] 32 x15,.rows [.i .u64,.i .u64] 2 x16],.sli 125 false (.rows [.i .i64,.i .i64,.i .i64,.b,.i .i8,.i .i8] x17 x18)]=>bif decide (kk0=kL0) then ob (qBn n x0 x1 x2 x3 x4 x5 x6 x7 x8 x9 x10 x11 x12 x13 x14 x15 x16 x17 x18) fun t0=>sw t0 (fun z=>K false (.tup [W.s (.i .i64 (z.1)),W.s (.sl 6 0 (z.2.1) true),W.s (.b (z.2.2.1))]) ([.cells 60 [.one [.ptr 1 0 none 0,.ptr 2 0 none 0,.i .i64 (z.2.2.2.1),.i .i64 (z.2.2.2.2.1)]],.cells 104 [.one [.sl 3 0 (z.2.2.2.2.2.1) true,.i .i64 (z.2.2.2.2.2.2.1)]],.cells 65 [.one [.ptr 4 0 none 0,.i .u64 (z.2.2.2.2.2.2.2.1),.sl 5 0 (z.2.2.2.2.2.2.2.2.1) true]],.sli 135 false (.rows kL0 (z.2.2.2.2.2.2.2.2.2.1) (z.2.2.2.2.2.2.2.2.2.2.1)),.cells 84 [.arr .i8 81 (z.2.2.2.2.2.2.2.2.2.2.2.1),.arr .i8 16 (z.2.2.2.2.2.2.2.2.2.2.2.2.1),.one [.i .i8 (z.2.2.2.2.2.2.2.2.2.2.2.2.2.1)],.rows [.i .u64,.i .u64] 32 (z.2.2.2.2.2.2.2.2.2.2.2.2.2.2.1),.rows [.i .u64,.i .u64] 2 (z.2.2.2.2.2.2.2.2.2.2.2.2.2.2.2.1)],.sli 125 false (.rows [.i .i64,.i .i64,.i .i64,.b,.i .i8,.i .i8] (z.2.2.2.2.2.2.2.2.2.2.2.2.2.2.2.2.1) (z.2.2.2.2.2.2.2.2.2.2.2.2.2.2.2.2.2.1)),.sli 41 false (.rows [.i .i64,.i .i64,.i .i64,.b] (z.2.2.2.2.2.2.2.2.2.2.2.2.2.2.2.2.2.2.1) (z.2.2.2.2.2.2.2.2.2.2.2.2.2.2.2.2.2.2.2))])) (fun z=>K false (.tup [W.s (.i .i64 (z.1)),W.s (.sl 7 0 (z.2.1) true),W.s (.b (z.2.2.1))]) ([.cells 60 [.one [.ptr 1 0 none 0,.ptr 2 0 none 0,.i .i64 (z.2.2.2.1),.i .i64 (z.2.2.2.2.1)]],.cells 104 [.one [.sl 3 0 (z.2.2.2.2.2.1) true,.i .i64 (z.2.2.2.2.2.2.1)]],.cells 65 [.one [.ptr 4 0 none 0,.i .u64 (z.2.2.2.2.2.2.2.1),.sl 6 0 (z.2.2.2.2.2.2.2.2.1) true]],.sli 135 false (.rows kL0 (z.2.2.2.2.2.2.2.2.2.1) (z.2.2.2.2.2.2.2.2.2.2.1)),.cells 84 [.arr .i8 81 (z.2.2.2.2.2.2.2.2.2.2.2.1),.arr .i8 16 (z.2.2.2.2.2.2.2.2.2.2.2.2.1),.one [.i .i8 (z.2.2.2.2.2.2.2.2.2.2.2.2.2.1)],.rows [.i .u64,.i .u64] 32 (z.2.2.2.2.2.2.2.2.2.2.2.2.2.2.1),.rows [.i .u64,.i .u64] 2 (z.2.2.2.2.2.2.2.2.2.2.2.2.2.2.2.1)],Obj.dead,.sli 125 false (.rows [.i .i64,.i .i64,.i .i64,.b,.i .i8,.i .i8] (z.2.2.2.2.2.2.2.2.2.2.2.2.2.2.2.2.1) (z.2.2.2.2.2.2.2.2.2.2.2.2.2.2.2.2.2.1)),.sli 41 false (.rows [.i .i64,.i .i64,.i .i64,.b] (z.2.2.2.2.2.2.2.2.2.2.2.2.2.2.2.2.2.2.1) (z.2.2.2.2.2.2.2.2.2.2.2.2.2.2.2.2.2.2.2))])) else none
 | _,_=>o 20 vs objs K
def qQd (n:Nat) (o:Orc):Orc:=fun f vs objs K=>bif Nat.beq f 20 then qGH n o vs objs K else o f vs objs K
def qml (n:Nat):Orc:=qQd n (qbq (qTe (qND (qaz (qZn (qbm (qRm (qHK qO))))))))
def qJO (n:Nat):Ctx:=mkC 217 (qml n) [(25,[0,1,2,3,4,13,19,20,21,140,141,142],[0,1,2,3,4,10,11,12,13,19,20]),(1048601,[5],[])] (qmj n)
def qQc (n:Nat) (f:Nat) (x0 x1:Int) (x2 x3 x4:Int) (x5:Nat) (x6:Int) (x7:Nat) (x8 x9:Int) (x10 x11:Int) (x12:Nat) (x13 x14:Int) (x15 x16:Nat) (x17:LL) (x18 x19:LI) (x20:Int) (x21 x22:LL) (x23:Nat) (x24:LL) (x25:Nat) (x26:LL) (x27:Nat) (x28:LL):Option ((Int×Int×Int×Int×Int×Nat×Bool×Int×Nat×Int×Int×Nat×Int×Int×Nat×Nat×LL×LI×LI×Int×LL×LL×Nat×LL×Nat×LL×Nat×LL)⊕(Int×Int×Int×Int×Int×Nat×Int×Int×Nat×Int×Int×Nat×Nat×LL×LI×LI×Int×LL×LL×Nat×LL×Nat×LL)):=qh (qJO n) 6 [0,1,2,3,4,13,19,20,21,140,141,142] [0,1,2,3,4,10,11,12,13,19,20] (qI Tryz.f20 25) f ([.s (.ptr 0 0 none 0),.s (.i .i64 x0),.s (.i .i64 x1),.s (.i .i64 x2),.s (.i .i64 x3),.s (.ptr 2 0 none 0),.s (.i .i64 x4),.s (.sl 7 0 x5 true),.s (.i .i64 x6),.s (.sl 8 0 x7 true),.s (.i .i64 x8),.s (.i .i64 x9)]) ([.cells 60 [.one [.ptr 1 0 none 0,.ptr 2 0 none 0,.i .i64 x10,.i .i64 x11]],.cells 104 [.one [.sl 3 0 x12 true,.i .i64 x13]],.cells 65 [.one [.ptr 4 0 none 0,.i .u64 x14,.sl 6 0 x15 true]],.sli 135 false (.rows kL0 x16 x17),.cells 84 [.arr .i8 81 x18,.arr .i8 16 x19,.one [.i .i8 x20],.rows [.i .u64,.i .u64] 32 x21,.rows [.i .u64,.i .u64] 2 x22],Obj.dead,.sli 125 false (.rows [.i .i64,.i .i64,.i .i64,.b,.i .i8,.i .i8] x23 x24),.sli 41 false (.rows [.i .i64,.i .i64,.i .i64,.b] x25 x26),.sli 41 false (.rows [.i .i64,.i .i64,.i .i64,.b] x27 x28)]) qQb
theorem qmi (n:Nat) (f:Nat) (x0 x1:Int) (x2 x3 x4:Int) (x5:Nat) (x6:Int) (x7:Nat) (x8 x9:Int) (x10 x11:Int) (x12:Nat) (x13 x14:Int) (x15 x16:Nat) (x17:LL) (x18 x19:LI) (x20:Int) (x21 x22:LL) (x23:Nat) (x24:LL) (x25:Nat) (x26:LL) (x27:Nat) (x28:LL):qQc n (f+1) x0 x1 x2 x3 x4 x5 x6 x7 x8 x9 x10 x11 x12 x13 x14 x15 x16 x17 x18 x19 x20 x21 x22 x23 x24 x25 x26 x27 x28=qLg (qBn n) (qQc n f) x0 x1 x2 x3 x4 x5 x6 x7 x8 x9 x10 x11 x12 x13 x14 x15 x16 x17 x18 x19 x20 x21 x22 x23 x24 x25 x26 x27 x28:=by kernel_rfl
theorem qZf (n:Nat):∀ f,qQc n f=qAU (qBn n) f
 | 0=>rfl
 | f+1=>by funext x0 x1 x2 x3 x4 x5 x6 x7 x8 x9 x10 x11 x12 x13 x14 x15 x16 x17 x18 x19 x20 x21 x22 x23 x24 x25 x26 x27 x28;rw[qmi,qZf n f];rfl
theorem qmm (n:Nat) (hc:CtxOK Tryz.prog (qJO n)):qd Tryz.prog (qJO n) 6 (qI Tryz.f20 25):=
 ql mixed hc (qT.of (l':=[]) (by kernel_rfl) trivial) (q:=25) (kin:=[0,1,2,3,4,13,19,20,21,140,141,142]) (kout:=[0,1,2,3,4,10,11,12,13,19,20]) (by kernel_rfl) (by kernel_rfl) fun vs objs K r h=>by
  replace h:qQe n vs objs K=some r:=h
  unfold qQe at h
  split at h
  ·skip
   have g:=(qU h).1
   replace h:=(qU h).2
   obtain rfl:=of_decide_eq_true g
   obtain⟨t,h1,h2⟩:=qG h
   rw[<- qZf n] at h1
   refine⟨_,qQb,t,qC,h1,fun e vs' objs' hd=>?_⟩
   unfold qQb at hd
   split at hd
   ·skip
    have g:=(qU hd).1
    replace hd:=(qU hd).2
    obtain rfl:=of_decide_eq_true g
    cases hd
    exact h2
   ·skip
    have g:=(qU hd).1
    replace hd:=(qU hd).2
    obtain rfl:=of_decide_eq_true g
    cases hd
    exact h2
   ·cases hd
  ·cases h
def qZe:V->List Obj->Option ((Int×Nat×Bool×Int×Int×Nat×Int×Int×Nat×Nat×LL×LI×LI×Int×LL×LL×Nat×LL×Nat×LL)⊕(Int×Nat×Bool×Int×Int×Nat×Int×Int×Nat×Nat×LL×LI×LI×Int×LL×LL×Nat×LL×Nat×LL)):=fun v objs=>match v,objs with
 | .tup [W.s (.i .i64 y0),W.s (.sl 6 0 y1 true),W.s (.b y2)],[.cells 60 [.one [.ptr 1 0 none 0,.ptr 2 0 none 0,.i .i64 y3,.i .i64 y4]],.cells 104 [.one [.sl 3 0 y5 true,.i .i64 y6]],.cells 65 [.one [.ptr 4 0 none 0,.i .u64 y7,.sl 5 0 y8 true]],.sli 135 false (.rows kk0 y9 y10),.cells 84 [.arr .i8 81 y11,.arr .i8 16 y12,.one [.i .i8 y13],.rows [.i .u64,.i .u64] 32 y14,.rows [.i .u64,.i .u64] 2 y15],.sli 125 false (.rows [.i .i64,.i .i64,.i .i64,.b,.i .i8,.i .i8] y16 y17),.sli 41 false (.rows [.i .i64,.i .i64,.i .i64,.b] y18 y19)]=>bif decide (kk0=kL0) then some (.inl (y0,y1,y2,y3,y4,y5,y6,y7,y8,y9,y10,y11,y12,y13,y14,y15,y16,y17,y18,y19)) else none
 | .tup [W.s (.i .i64 y0),W.s (.sl 7 0 y1 true),W.s (.b y2)],[.cells 60 [.one [.ptr 1 0 none 0,.ptr 2 0 none 0,.i .i64 y3,.i .i64 y4]],.cells 104 [.one [.sl 3 0 y5 true,.i .i64 y6]],.cells 65 [.one [.ptr 4 0 none 0,.i .u64 y7,.sl 6 0 y8 true]],.sli 135 false (.rows kk0 y9 y10),.cells 84 [.arr .i8 81 y11,.arr .i8 16 y12,.one [.i .i8 y13],.rows [.i .u64,.i .u64] 32 y14,.rows [.i .u64,.i .u64] 2 y15],Obj.dead,.sli 125 false (.rows [.i .i64,.i .i64,.i .i64,.b,.i .i8,.i .i8] y16 y17),.sli 41 false (.rows [.i .i64,.i .i64,.i .i64,.b] y18 y19)]=>bif decide (kk0=kL0) then some (.inr (y0,y1,y2,y3,y4,y5,y6,y7,y8,y9,y10,y11,y12,y13,y14,y15,y16,y17,y18,y19)) else none
 | _,_=>none
theorem qmg (n:Nat) (x0 x1:Int) (x2 x3:Int) (x4 x5:Int) (x6:Nat) (x7 x8:Int) (x9 x10:Nat) (x11:LL) (x12 x13:LI) (x14:Int) (x15 x16:LL) (x17:Nat) (x18:LL):fnE (qJO n) Tryz.f20 ([.s (.ptr 0 0 none 0),.s (.i .i64 x0),.s (.i .i64 x1),.s (.i .i64 x2),.s (.i .i64 x3)]) ([.cells 60 [.one [.ptr 1 0 none 0,.ptr 2 0 none 0,.i .i64 x4,.i .i64 x5]],.cells 104 [.one [.sl 3 0 x6 true,.i .i64 x7]],.cells 65 [.one [.ptr 4 0 none 0,.i .u64 x8,.sl 5 0 x9 true]],.sli 135 false (.rows kL0 x10 x11),.cells 84 [.arr .i8 81 x12,.arr .i8 16 x13,.one [.i .i8 x14],.rows [.i .u64,.i .u64] 32 x15,.rows [.i .u64,.i .u64] 2 x16],.sli 125 false (.rows [.i .i64,.i .i64,.i .i64,.b,.i .i8,.i .i8] x17 x18)]) qZe=qBn (n+1) x0 x1 x2 x3 x4 x5 x6 x7 x8 x9 x10 x11 x12 x13 x14 x15 x16 x17 x18:=by kernel_rfl
theorem qmh (n:Nat) (hc:CtxOK Tryz.prog (qJO n)) {vs:List V} {objs:List Obj} (x0 x1:Int) (x2 x3:Int) (x4 x5:Int) (x6:Nat) (x7 x8:Int) (x9 x10:Nat) (x11:LL) (x12 x13:LI) (x14:Int) (x15 x16:LL) (x17:Nat) (x18:LL) {R:Type} {K:Bool->V->List Obj->Option R} {r:R} (hv:vs=[.s (.ptr 0 0 none 0),.s (.i .i64 x0),.s (.i .i64 x1),.s (.i .i64 x2),.s (.i .i64 x3)]) (ho:objs=[.cells 60 [.one [.ptr 1 0 none 0,.ptr 2 0 none 0,.i .i64 x4,.i .i64 x5]],.cells 104 [.one [.sl 3 0 x6 true,.i .i64 x7]],.cells 65 [.one [.ptr 4 0 none 0,.i .u64 x8,.sl 5 0 x9 true]],.sli 135 false (.rows kL0 x10 x11),.cells 84 [.arr .i8 81 x12,.arr .i8 16 x13,.one [.i .i8 x14],.rows [.i .u64,.i .u64] 32 x15,.rows [.i .u64,.i .u64] 2 x16],.sli 125 false (.rows [.i .i64,.i .i64,.i .i64,.b,.i .i8,.i .i8] x17 x18)]) (h:ob (qBn (n+1) x0 x1 x2 x3 x4 x5 x6 x7 x8 x9 x10 x11 x12 x13 x14 x15 x16 x17 x18) (fun t0=>sw t0 (fun z=>K false (.tup [W.s (.i .i64 (z.1)),W.s (.sl 6 0 (z.2.1) true),W.s (.b (z.2.2.1))]) ([.cells 60 [.one [.ptr 1 0 none 0,.ptr 2 0 none 0,.i .i64 (z.2.2.2.1),.i .i64 (z.2.2.2.2.1)]],.cells 104 [.one [.sl 3 0 (z.2.2.2.2.2.1) true,.i .i64 (z.2.2.2.2.2.2.1)]],.cells 65 [.one [.ptr 4 0 none 0,.i .u64 (z.2.2.2.2.2.2.2.1),.sl 5 0 (z.2.2.2.2.2.2.2.2.1) true]],.sli 135 false (.rows kL0 (z.2.2.2.2.2.2.2.2.2.1) (z.2.2.2.2.2.2.2.2.2.2.1)),.cells 84 [.arr .i8 81 (z.2.2.2.2.2.2.2.2.2.2.2.1),.arr .i8 16 (z.2.2.2.2.2.2.2.2.2.2.2.2.1),.one [.i .i8 (z.2.2.2.2.2.2.2.2.2.2.2.2.2.1)],.rows [.i .u64,.i .u64] 32 (z.2.2.2.2.2.2.2.2.2.2.2.2.2.2.1),.rows [.i .u64,.i .u64] 2 (z.2.2.2.2.2.2.2.2.2.2.2.2.2.2.2.1)],.sli 125 false (.rows [.i .i64,.i .i64,.i .i64,.b,.i .i8,.i .i8] (z.2.2.2.2.2.2.2.2.2.2.2.2.2.2.2.2.1) (z.2.2.2.2.2.2.2.2.2.2.2.2.2.2.2.2.2.1)),.sli 41 false (.rows [.i .i64,.i .i64,.i .i64,.b] (z.2.2.2.2.2.2.2.2.2.2.2.2.2.2.2.2.2.2.1) (z.2.2.2.2.2.2.2.2.2.2.2.2.2.2.2.2.2.2.2))])) (fun z=>K false (.tup [W.s (.i .i64 (z.1)),W.s (.sl 7 0 (z.2.1) true),W.s (.b (z.2.2.1))]) ([.cells 60 [.one [.ptr 1 0 none 0,.ptr 2 0 none 0,.i .i64 (z.2.2.2.1),.i .i64 (z.2.2.2.2.1)]],.cells 104 [.one [.sl 3 0 (z.2.2.2.2.2.1) true,.i .i64 (z.2.2.2.2.2.2.1)]],.cells 65 [.one [.ptr 4 0 none 0,.i .u64 (z.2.2.2.2.2.2.2.1),.sl 6 0 (z.2.2.2.2.2.2.2.2.1) true]],.sli 135 false (.rows kL0 (z.2.2.2.2.2.2.2.2.2.1) (z.2.2.2.2.2.2.2.2.2.2.1)),.cells 84 [.arr .i8 81 (z.2.2.2.2.2.2.2.2.2.2.2.1),.arr .i8 16 (z.2.2.2.2.2.2.2.2.2.2.2.2.1),.one [.i .i8 (z.2.2.2.2.2.2.2.2.2.2.2.2.2.1)],.rows [.i .u64,.i .u64] 32 (z.2.2.2.2.2.2.2.2.2.2.2.2.2.2.1),.rows [.i .u64,.i .u64] 2 (z.2.2.2.2.2.2.2.2.2.2.2.2.2.2.2.1)],Obj.dead,.sli 125 false (.rows [.i .i64,.i .i64,.i .i64,.b,.i .i8,.i .i8] (z.2.2.2.2.2.2.2.2.2.2.2.2.2.2.2.2.1) (z.2.2.2.2.2.2.2.2.2.2.2.2.2.2.2.2.2.1)),.sli 41 false (.rows [.i .i64,.i .i64,.i .i64,.b] (z.2.2.2.2.2.2.2.2.2.2.2.2.2.2.2.2.2.2.1) (z.2.2.2.2.2.2.2.2.2.2.2.2.2.2.2.2.2.2.2))])))=some r):
  ∃ p v objs',K p v objs'=some r /\ qD0 Tryz.prog 20 vs objs p v objs':=by
 subst hv
 subst ho
 obtain⟨t,h1,h2⟩:=qG h
 refine qJq mixed hc (objs:=[.cells 60 [.one [.ptr 1 0 none 0,.ptr 2 0 none 0,.i .i64 x4,.i .i64 x5]],.cells 104 [.one [.sl 3 0 x6 true,.i .i64 x7]],.cells 65 [.one [.ptr 4 0 none 0,.i .u64 x8,.sl 5 0 x9 true]],.sli 135 false (.rows kL0 x10 x11),.cells 84 [.arr .i8 81 x12,.arr .i8 16 x13,.one [.i .i8 x14],.rows [.i .u64,.i .u64] 32 x15,.rows [.i .u64,.i .u64] 2 x16],.sli 125 false (.rows [.i .i64,.i .i64,.i .i64,.b,.i .i8,.i .i8] x17 x18)]) (fn:=Tryz.f20) (b:=(Tryz.f20).body.getD .skip) (by kernel_rfl) (by kernel_rfl) (by kernel_rfl) (qT.of (l':=[qI Tryz.f20 25]) (by kernel_rfl) ⟨qmm n hc,trivial⟩) ((qmg n x0 x1 x2 x3 x4 x5 x6 x7 x8 x9 x10 x11 x12 x13 x14 x15 x16 x17 x18).trans h1) fun v objs' hd=>?_
 unfold qZe at hd
 split at hd
 ·skip
  have g:=(qU hd).1
  replace hd:=(qU hd).2
  obtain rfl:=of_decide_eq_true g
  cases hd
  exact h2
 ·skip
  have g:=(qU hd).1
  replace hd:=(qU hd).2
  obtain rfl:=of_decide_eq_true g
  cases hd
  exact h2
 ·cases hd
theorem qmk:∀ (n:Nat) (o:Orc) (_:qCM Tryz.prog o),qCM Tryz.prog (qQd n o):=by
 intro n
 induction n with
 | zero=>
   intro o ho R f vs objs K r h
   replace h:(bif Nat.beq f 20 then qGH 0 o vs objs K else o f vs objs K)=some r:=h
   cases hf:Nat.beq f 20 with
   | false=>rw[hf] at h;exact ho f vs objs K r h
   | true=>
     rw[hf] at h
     have e:=Nat.eq_of_beq_eq_true hf
     subst e
     replace h:qGH 0 o vs objs K=some r:=h
     unfold qGH at h
     split at h
     ·skip
      replace h:=(qU h).2
      cases h
     ·exact ho _ _ _ _ _ h
 | succ n ih=>
   intro o ho R f vs objs K r h
   replace h:(bif Nat.beq f 20 then qGH (n+1) o vs objs K else o f vs objs K)=some r:=h
   cases hf:Nat.beq f 20 with
   | false=>rw[hf] at h;exact ho f vs objs K r h
   | true=>
     rw[hf] at h
     have e:=Nat.eq_of_beq_eq_true hf
     subst e
     replace h:qGH (n+1) o vs objs K=some r:=h
     unfold qGH at h
     split at h
     ·skip
      have g:=(qU h).1
      replace h:=(qU h).2
      obtain rfl:=of_decide_eq_true g
      exact qmh n ⟨tab_ok,ih _ (qoy _ (qe6 _ (qTm _ (qny _ (qmr _ (qov _ (qcJ _ (qIs _ qP)))))))),eqs_ok,bytes_ok,fun _ _ _=>rfl,exts_ok⟩ _ _ _ _ _ _ _ _ _ _ _ _ _ _ _ _ _ _ _ rfl rfl h
     ·exact ho _ _ _ _ _ h
def qQS:Ex->List V->List Obj->Option (Int×Int×Nat×Int×Nat×LL×Int×Nat×Int×Int×Nat×Int×Bool×Int×Int×Nat×Nat×Int×Bool×LI×LI×Int×LL×LL×Nat×LL×Nat×LL×Nat×LL):=fun e vs objs=>match e,vs,objs with
 | .exit 0,[.s (.ptr 0 0 none 0),.s (.ptr 4 0 none 0),.s (.ptr 5 0 none 0)],[.cells 60 [.one [.ptr 1 0 none 0,.ptr 3 0 none 0,.i .i64 y0,.i .i64 y1]],.cells 104 [.one [.sl 2 0 y2 true,.i .i64 y3]],.sli 135 false (.rows kk0 y4 y5),.cells 65 [.one [.ptr 6 0 none 0,.i .u64 y6,.sl 7 0 y7 true]],.cells 38 [.one [.i .i64 y8,.i .i64 y9,.sl 8 0 y10 true,.i .i64 y11,.b y12]],.cells 38 [.one [.i .i64 y13,.i .i64 y14,.sl 9 y15 y16 false,.i .i64 y17,.b y18]],.cells 84 [.arr .i8 81 y19,.arr .i8 16 y20,.one [.i .i8 y21],.rows [.i .u64,.i .u64] 32 y22,.rows [.i .u64,.i .u64] 2 y23],.sli 125 false (.rows [.i .i64,.i .i64,.i .i64,.b,.i .i8,.i .i8] y24 y25),.sli 41 false (.rows [.i .i64,.i .i64,.i .i64,.b] y26 y27),.sli 41 false (.rows [.i .i64,.i .i64,.i .i64,.b] y28 y29)]=>bif decide (kk0=kL0) then some (y0,y1,y2,y3,y4,y5,y6,y7,y8,y9,y10,y11,y12,y13,y14,y15,y16,y17,y18,y19,y20,y21,y22,y23,y24,y25,y26,y27,y28,y29) else none
 | _,_,_=>none
def qQV:HL:=fun vs objs K=>match vs,objs with
 | [.s (.ptr 0 0 none 0),.s (.i .i64 x0),.s (.ptr 4 0 none 0),.s (.ptr 5 0 none 0),.s (.i .i64 x1)],[.cells 60 [.one [.ptr 1 0 none 0,.ptr 3 0 none 0,.i .i64 x2,.i .i64 x3]],.cells 104 [.one [.sl 2 0 x4 true,.i .i64 x5]],.sli 135 false (.rows kk0 x6 x7),.cells 65 [.one [.ptr 6 0 none 0,.i .u64 x8,.sl 7 0 x9 true]],.cells 38 [.one [.i .i64 x10,.i .i64 x11,.sl 8 0 x12 true,.i .i64 x13,.b x14]],.cells 38 [.one [.i .i64 x15,.i .i64 x16,.sl 9 x17 x18 false,.i .i64 x19,.b x20]],.cells 84 [.arr .i8 81 x21,.arr .i8 16 x22,.one [.i .i8 x23],.rows [.i .u64,.i .u64] 32 x24,.rows [.i .u64,.i .u64] 2 x25],.sli 125 false (.rows [.i .i64,.i .i64,.i .i64,.b,.i .i8,.i .i8] x26 x27),.sli 41 false (.rows [.i .i64,.i .i64,.i .i64,.b] x28 x29),.sli 41 false (.rows [.i .i64,.i .i64,.i .i64,.b] x30 x31)]=>bif decide (kk0=kL0) then ob (qCt qC x0 x1 x2 x3 x4 x5 x6 x7 x8 x9 x10 x11 x12 x13 x14 x15 x16 x17 x18 x19 x20 x21 x22 x23 x24 x25 x26 x27 x28 x29 x30 x31) fun z=>K (.exit 0) ([.s (.ptr 0 0 none 0),.s (.ptr 4 0 none 0),.s (.ptr 5 0 none 0)]) ([.cells 60 [.one [.ptr 1 0 none 0,.ptr 3 0 none 0,.i .i64 (z.1),.i .i64 (z.2.1)]],.cells 104 [.one [.sl 2 0 (z.2.2.1) true,.i .i64 (z.2.2.2.1)]],.sli 135 false (.rows kL0 (z.2.2.2.2.1) (z.2.2.2.2.2.1)),.cells 65 [.one [.ptr 6 0 none 0,.i .u64 (z.2.2.2.2.2.2.1),.sl 7 0 (z.2.2.2.2.2.2.2.1) true]],.cells 38 [.one [.i .i64 (z.2.2.2.2.2.2.2.2.1),.i .i64 (z.2.2.2.2.2.2.2.2.2.1),.sl 8 0 (z.2.2.2.2.2.2.2.2.2.2.1) true,.i .i64 (z.2.2.2.2.2.2.2.2.2.2.2.1),.b (z.2.2.2.2.2.2.2.2.2.2.2.2.1)]],.cells 38 [.one [.i .i64 (z.2.2.2.2.2.2.2.2.2.2.2.2.2.1),.i .i64 (z.2.2.2.2.2.2.2.2.2.2.2.2.2.2.1),.sl 9 (z.2.2.2.2.2.2.2.2.2.2.2.2.2.2.2.1) (z.2.2.2.2.2.2.2.2.2.2.2.2.2.2.2.2.1) false,.i .i64 (z.2.2.2.2.2.2.2.2.2.2.2.2.2.2.2.2.2.1),.b (z.2.2.2.2.2.2.2.2.2.2.2.2.2.2.2.2.2.2.1)]],.cells 84 [.arr .i8 81 (z.2.2.2.2.2.2.2.2.2.2.2.2.2.2.2.2.2.2.2.1),.arr .i8 16 (z.2.2.2.2.2.2.2.2.2.2.2.2.2.2.2.2.2.2.2.2.1),.one [.i .i8 (z.2.2.2.2.2.2.2.2.2.2.2.2.2.2.2.2.2.2.2.2.2.1)],.rows [.i .u64,.i .u64] 32 (z.2.2.2.2.2.2.2.2.2.2.2.2.2.2.2.2.2.2.2.2.2.2.1),.rows [.i .u64,.i .u64] 2 (z.2.2.2.2.2.2.2.2.2.2.2.2.2.2.2.2.2.2.2.2.2.2.2.1)],.sli 125 false (.rows [.i .i64,.i .i64,.i .i64,.b,.i .i8,.i .i8] (z.2.2.2.2.2.2.2.2.2.2.2.2.2.2.2.2.2.2.2.2.2.2.2.2.1) (z.2.2.2.2.2.2.2.2.2.2.2.2.2.2.2.2.2.2.2.2.2.2.2.2.2.1)),.sli 41 false (.rows [.i .i64,.i .i64,.i .i64,.b] (z.2.2.2.2.2.2.2.2.2.2.2.2.2.2.2.2.2.2.2.2.2.2.2.2.2.2.1) (z.2.2.2.2.2.2.2.2.2.2.2.2.2.2.2.2.2.2.2.2.2.2.2.2.2.2.2.1)),.sli 41 false (.rows [.i .i64,.i .i64,.i .i64,.b] (z.2.2.2.2.2.2.2.2.2.2.2.2.2.2.2.2.2.2.2.2.2.2.2.2.2.2.2.2.1) (z.2.2.2.2.2.2.2.2.2.2.2.2.2.2.2.2.2.2.2.2.2.2.2.2.2.2.2.2.2))]) else none
 | _,_=>none
def qma:{R:Type}->Nat->List V->List Obj->(Ex->List V->List Obj->Option R)->Option R:=fun q vs objs K=>bif Nat.beq q 8 then qQV vs objs K else none
def qLd:Ctx:=mkC 70 ((qQd qC (qHK (qJ9 qO)))) [(8,[0,2,8,9,11],[0,8,9]),(2097152,[60,0,1],[])] qma
theorem qZU:CtxOK Tryz.prog qLd:=mkC_ok ((qmk qC _ (qIs _ (qNH _ qP))))
def qQT (f:Nat) (x0 x1:Int) (x2 x3:Int) (x4:Nat) (x5:Int) (x6:Nat) (x7:LL) (x8:Int) (x9:Nat) (x10 x11:Int) (x12:Nat) (x13:Int) (x14:Bool) (x15 x16:Int) (x17 x18:Nat) (x19:Int) (x20:Bool) (x21 x22:LI) (x23:Int) (x24 x25:LL) (x26:Nat) (x27:LL) (x28:Nat) (x29:LL) (x30:Nat) (x31:LL):Option (Int×Int×Nat×Int×Nat×LL×Int×Nat×Int×Int×Nat×Int×Bool×Int×Int×Nat×Nat×Int×Bool×LI×LI×Int×LL×LL×Nat×LL×Nat×LL×Nat×LL):=qh qLd 3 [0,2,8,9,11] [0,8,9] (qI Tryz.f9 8) f ([.s (.ptr 0 0 none 0),.s (.i .i64 x0),.s (.ptr 4 0 none 0),.s (.ptr 5 0 none 0),.s (.i .i64 x1)]) ([.cells 60 [.one [.ptr 1 0 none 0,.ptr 3 0 none 0,.i .i64 x2,.i .i64 x3]],.cells 104 [.one [.sl 2 0 x4 true,.i .i64 x5]],.sli 135 false (.rows kL0 x6 x7),.cells 65 [.one [.ptr 6 0 none 0,.i .u64 x8,.sl 7 0 x9 true]],.cells 38 [.one [.i .i64 x10,.i .i64 x11,.sl 8 0 x12 true,.i .i64 x13,.b x14]],.cells 38 [.one [.i .i64 x15,.i .i64 x16,.sl 9 x17 x18 false,.i .i64 x19,.b x20]],.cells 84 [.arr .i8 81 x21,.arr .i8 16 x22,.one [.i .i8 x23],.rows [.i .u64,.i .u64] 32 x24,.rows [.i .u64,.i .u64] 2 x25],.sli 125 false (.rows [.i .i64,.i .i64,.i .i64,.b,.i .i8,.i .i8] x26 x27),.sli 41 false (.rows [.i .i64,.i .i64,.i .i64,.b] x28 x29),.sli 41 false (.rows [.i .i64,.i .i64,.i .i64,.b] x30 x31)]) qQS
theorem qmZ (f:Nat) (x0 x1:Int) (x2 x3:Int) (x4:Nat) (x5:Int) (x6:Nat) (x7:LL) (x8:Int) (x9:Nat) (x10 x11:Int) (x12:Nat) (x13:Int) (x14:Bool) (x15 x16:Int) (x17 x18:Nat) (x19:Int) (x20:Bool) (x21 x22:LI) (x23:Int) (x24 x25:LL) (x26:Nat) (x27:LL) (x28:Nat) (x29:LL) (x30:Nat) (x31:LL):qQT (f+1) x0 x1 x2 x3 x4 x5 x6 x7 x8 x9 x10 x11 x12 x13 x14 x15 x16 x17 x18 x19 x20 x21 x22 x23 x24 x25 x26 x27 x28 x29 x30 x31=qJN (qQT f) x0 x1 x2 x3 x4 x5 x6 x7 x8 x9 x10 x11 x12 x13 x14 x15 x16 x17 x18 x19 x20 x21 x22 x23 x24 x25 x26 x27 x28 x29 x30 x31:=by kernel_rfl
theorem qZW:∀ f,qQT f=qCt f
 | 0=>rfl
 | f+1=>by funext x0 x1 x2 x3 x4 x5 x6 x7 x8 x9 x10 x11 x12 x13 x14 x15 x16 x17 x18 x19 x20 x21 x22 x23 x24 x25 x26 x27 x28 x29 x30 x31;rw[qmZ,qZW f];rfl
theorem qmb:qd Tryz.prog qLd 3 (qI Tryz.f9 8):=
 ql mixed qZU (qT.of (l':=[]) (by kernel_rfl) trivial) (q:=8) (kin:=[0,2,8,9,11]) (kout:=[0,8,9]) (by kernel_rfl) (by kernel_rfl) fun vs objs K r h=>by
  replace h:qQV vs objs K=some r:=h
  unfold qQV at h
  split at h
  ·skip
   have g:=(qU h).1
   replace h:=(qU h).2
   obtain rfl:=of_decide_eq_true g
   obtain⟨t,h1,h2⟩:=qG h
   rw[<- qZW] at h1
   refine⟨_,qQS,t,qC,h1,fun e vs' objs' hd=>?_⟩
   unfold qQS at hd
   split at hd
   ·skip
    have g:=(qU hd).1
    replace hd:=(qU hd).2
    obtain rfl:=of_decide_eq_true g
    cases hd
    exact h2
   ·cases hd
  ·cases h
def qZV:V->List Obj->Option ((Int×Int×Nat×Int×Bool×Int×Int×Nat×Int×Nat×LL×Nat×LL)⊕(Int×Int×Nat×Nat×Int×Bool×Int×Int×Nat×Int×Nat×LL×Nat×LL)):=fun v objs=>match v,objs with
 | .agg [.one [.i .i64 y0,.i .i64 y1,.sl 3 y2 y3 false,.i .i64 y4,.b y5]],[.cells 60 [.one [.ptr 1 0 none 0,.bad,.i .i64 y6,.i .i64 y7]],.cells 104 [.one [.sl 2 0 y8 true,.i .i64 y9]],.sli 135 false (.rows kk0 y10 y11),.sli 41 false (.rows [.i .i64,.i .i64,.i .i64,.b] y12 y13)]=>bif decide (kk0=kL0) then some (.inr (y0,y1,y2,y3,y4,y5,y6,y7,y8,y9,y10,y11,y12,y13)) else none
 | _,_=>match v,objs with
 | .agg [.one [.i .i64 y0,.i .i64 y1,.sl 3 0 y2 true,.i .i64 y3,.b y4]],[.cells 60 [.one [.ptr 1 0 none 0,.bad,.i .i64 y5,.i .i64 y6]],.cells 104 [.one [.sl 2 0 y7 true,.i .i64 y8]],.sli 135 false (.rows kk0 y9 y10),.sli 41 false (.rows [.i .i64,.i .i64,.i .i64,.b] y11 y12)]=>bif decide (kk0=kL0) then some (.inl (y0,y1,y2,y3,y4,y5,y6,y7,y8,y9,y10,y11,y12)) else none
 | _,_=>none
theorem qmY (x0 x1:LI) (x2 x3:Int) (x4 x5 x6:Int) (x7:Nat) (x8:Int) (x9:Nat) (x10:LL):fnE qLd Tryz.f9 ([.s (.ptr 0 0 none 0),.agg [.arr .i8 81 x0,.arr .i8 16 x1,.one [.i .i8 x2]],.s (.i .i64 x3),.s (.i .i64 x4)]) ([.cells 60 [.one [.ptr 1 0 none 0,.bad,.i .i64 x5,.i .i64 x6]],.cells 104 [.one [.sl 2 0 x7 true,.i .i64 x8]],.sli 135 false (.rows kL0 x9 x10)]) qZV=qGG x0 x1 x2 x3 x4 x5 x6 x7 x8 x9 x10:=by kernel_rfl
def qZT:HA:=fun o vs objs K=>match vs,objs with
 | [.s (.ptr 0 0 none 0),.agg [.arr .i8 81 x0,.arr .i8 16 x1,.one [.i .i8 x2]],.s (.i .i64 x3),.s (.i .i64 x4)],[.cells 60 [.one [.ptr 1 0 none 0,.bad,.i .i64 x5,.i .i64 x6]],.cells 104 [.one [.sl 2 0 x7 true,.i .i64 x8]],.sli 135 false (.rows kk0 x9 x10)]=>bif decide (kk0=kL0) then ob (qGG x0 x1 x2 x3 x4 x5 x6 x7 x8 x9 x10) fun t0=>sw t0 (fun z=>K false (.agg [.one [.i .i64 (z.1),.i .i64 (z.2.1),.sl 3 0 (z.2.2.1) true,.i .i64 (z.2.2.2.1),.b (z.2.2.2.2.1)]]) ([.cells 60 [.one [.ptr 1 0 none 0,.bad,.i .i64 (z.2.2.2.2.2.1),.i .i64 (z.2.2.2.2.2.2.1)]],.cells 104 [.one [.sl 2 0 (z.2.2.2.2.2.2.2.1) true,.i .i64 (z.2.2.2.2.2.2.2.2.1)]],.sli 135 false (.rows kL0 (z.2.2.2.2.2.2.2.2.2.1) (z.2.2.2.2.2.2.2.2.2.2.1)),.sli 41 false (.rows [.i .i64,.i .i64,.i .i64,.b] (z.2.2.2.2.2.2.2.2.2.2.2.1) (z.2.2.2.2.2.2.2.2.2.2.2.2))])) (fun z=>K false (.agg [.one [.i .i64 (z.1),.i .i64 (z.2.1),.sl 3 (z.2.2.1) (z.2.2.2.1) false,.i .i64 (z.2.2.2.2.1),.b (z.2.2.2.2.2.1)]]) ([.cells 60 [.one [.ptr 1 0 none 0,.bad,.i .i64 (z.2.2.2.2.2.2.1),.i .i64 (z.2.2.2.2.2.2.2.1)]],.cells 104 [.one [.sl 2 0 (z.2.2.2.2.2.2.2.2.1) true,.i .i64 (z.2.2.2.2.2.2.2.2.2.1)]],.sli 135 false (.rows kL0 (z.2.2.2.2.2.2.2.2.2.2.1) (z.2.2.2.2.2.2.2.2.2.2.2.1)),.sli 41 false (.rows [.i .i64,.i .i64,.i .i64,.b] (z.2.2.2.2.2.2.2.2.2.2.2.2.1) (z.2.2.2.2.2.2.2.2.2.2.2.2.2))])) else none
 | _,_=>o 9 vs objs K
def qQU (o:Orc):Orc:=qR 9 (qZT o) o
theorem qZX:OQ Tryz.prog qQU:=fun _ ho=>qS ho fun vs objs K r h=>by
 unfold qZT at h
 split at h
 ·skip
  have g:=(qU h).1
  replace h:=(qU h).2
  obtain rfl:=of_decide_eq_true g
  obtain⟨t,h1,h2⟩:=qG h
  refine qAY mixed qZU (fn:=Tryz.f9) (b:=(Tryz.f9).body.getD .skip) (by kernel_rfl) (by kernel_rfl) (by kernel_rfl) ((qmY _ _ _ _ _ _ _ _ _ _ _).trans h1) (m:=3) rfl (qT.of (l':=[qI Tryz.f9 8]) (by kernel_rfl) ⟨qmb,trivial⟩) fun v objs' hd=>?_
  unfold qZV at hd
  split at hd
  ·skip
   have g:=(qU hd).1
   replace hd:=(qU hd).2
   obtain rfl:=of_decide_eq_true g
   cases hd
   exact h2
  ·skip
   split at hd
   ·skip
    have g:=(qU hd).1
    replace hd:=(qU hd).2
    obtain rfl:=of_decide_eq_true g
    cases hd
    exact h2
   ·skip
    cases hd
 ·exact ho _ _ _ _ _ h
def qVe:Ctx:=mkC 55 ((qQU (qQY (qQR qO)))) [] qW
theorem qhN:CtxOK Tryz.prog qVe:=mkC_ok ((qZX _ (qZd _ (qZS _ qP))))
def qVf:V->List Obj->Option (Bool):=fun v objs=>match v,objs with
 | .s (.b y0),[]=>some (y0)
 | _,_=>none
theorem qhM:fnE qVe Tryz.f6 ([]) ([]) qVf=qKf  := by kernel_rfl
def qVd:HA:=fun o vs objs K=>match vs,objs with
 | [],[]=>ob (qKf ) fun y0=>K false (.s (.b y0)) ([])
 | _,_=>o 6 vs objs K
def qVg (o:Orc):Orc:=qR 6 (qVd o) o
theorem qhO:OQ Tryz.prog qVg:=fun _ ho=>qS ho fun vs objs K r h=>by
 unfold qVd at h
 split at h
 ·skip
  obtain⟨t,h1,h2⟩:=qG h
  refine qa mixed qhN ((qhM).trans h1) (by kernel_rfl) fun v objs' hd=>?_
  unfold qVf at hd;split at hd;(cases hd;exact h2);cases hd
 ·exact ho _ _ _ _ _ h
def qXg:Ctx:=mkC 23 (qO) [] qW
theorem qkV:CtxOK Tryz.prog qXg:=mkC_ok (qP)
def qXh:V->List Obj->Option (Int):=fun v objs=>match v,objs with
 | .s (.i .i64 y0),[]=>some (y0)
 | _,_=>none
theorem qkU (x0:Int):fnE qXg Tryz.f24 ([.s (.i .i64 x0)]) ([]) qXh=qBO x0:=by kernel_rfl
def qXf:HA:=fun o vs objs K=>match vs,objs with
 | [.s (.i .i64 x0)],[]=>ob (qBO x0) fun y0=>K false (.s (.i .i64 y0)) ([])
 | _,_=>o 24 vs objs K
def qF8 (o:Orc):Orc:=qR 24 (qXf o) o
theorem qHi:OQ Tryz.prog qF8:=fun _ ho=>qS ho fun vs objs K r h=>by
 unfold qXf at h
 split at h
 ·skip
  obtain⟨t,h1,h2⟩:=qG h
  refine qa mixed qkV ((qkU _).trans h1) (by kernel_rfl) fun v objs' hd=>?_
  unfold qXh at hd;split at hd;(cases hd;exact h2);cases hd
 ·exact ho _ _ _ _ _ h
def qPw:Ex->List V->List Obj->Option (Int):=fun e vs objs=>match e,vs,objs with
 | .exit 0,[.s (.i .i64 y0)],[]=>some (y0)
 | _,_,_=>none
def qPz:HL:=fun vs objs K=>match vs,objs with
 | [.s (.i .i64 x0),.s (.i .i64 x1),.s (.ptr 0 0 none 0),.s (.i .i64 x2),.s (.i .i64 x3)],[.cells 29 [.arr .i8 81 x4,.arr .i8 16 x5,.one [.i .i8 x6]]]=>ob (qCX qC x0 x1 x2 x3 x4 x5 x6) fun y0=>K (.exit 0) ([.s (.i .i64 y0)]) ([])
 | _,_=>none
def qlU:{R:Type}->Nat->List V->List Obj->(Ex->List V->List Obj->Option R)->Option R:=fun q vs objs K=>bif Nat.beq q 3 then qPz vs objs K else none
def qLP:Ctx:=mkC 26 (qO) [(3,[1,2,3,7,8],[7])] qlU
theorem qYk:CtxOK Tryz.prog qLP:=mkC_ok (qP)
def qPx (f:Nat) (x0 x1:Int) (x2 x3:Int) (x4 x5:LI) (x6:Int):Option (Int):=qh qLP 0 [1,2,3,7,8] [7] (qI Tryz.f39 3) f ([.s (.i .i64 x0),.s (.i .i64 x1),.s (.ptr 0 0 none 0),.s (.i .i64 x2),.s (.i .i64 x3)]) ([.cells 29 [.arr .i8 81 x4,.arr .i8 16 x5,.one [.i .i8 x6]]]) qPw
theorem qlT (f:Nat) (x0 x1:Int) (x2 x3:Int) (x4 x5:LI) (x6:Int):qPx (f+1) x0 x1 x2 x3 x4 x5 x6=qDm (qPx f) x0 x1 x2 x3 x4 x5 x6:=by kernel_rfl
theorem qYm:∀ f,qPx f=qCX f
 | 0=>rfl
 | f+1=>by funext x0 x1 x2 x3 x4 x5 x6;rw[qlT,qYm f];rfl
theorem qlV:qd Tryz.prog qLP 0 (qI Tryz.f39 3):=
 ql mixed qYk (qT.of (l':=[]) (by kernel_rfl) trivial) (q:=3) (kin:=[1,2,3,7,8]) (kout:=[7]) (by kernel_rfl) (by kernel_rfl) fun vs objs K r h=>by
  replace h:qPz vs objs K=some r:=h
  unfold qPz at h
  split at h
  ·skip
   obtain⟨t,h1,h2⟩:=qG h
   rw[<- qYm] at h1
   refine⟨_,qPw,t,qC,h1,fun e vs' objs' hd=>?_⟩
   unfold qPw at hd;split at hd;(cases hd;exact h2);cases hd
  ·cases h
def qYl:V->List Obj->Option (Int):=fun v objs=>match v,objs with
 | .s (.i .i64 y0),[]=>some (y0)
 | _,_=>none
theorem qlS (x0 x1:LI) (x2 x3 x4:Int):fnE qLP Tryz.f39 ([.agg [.arr .i8 81 x0,.arr .i8 16 x1,.one [.i .i8 x2]],.s (.i .i64 x3),.s (.i .i64 x4)]) ([]) qYl=qEQ x0 x1 x2 x3 x4:=by kernel_rfl
def qYj:HA:=fun o vs objs K=>match vs,objs with
 | [.agg [.arr .i8 81 x0,.arr .i8 16 x1,.one [.i .i8 x2]],.s (.i .i64 x3),.s (.i .i64 x4)],[]=>ob (qEQ x0 x1 x2 x3 x4) fun y0=>K false (.s (.i .i64 y0)) ([])
 | _,_=>o 39 vs objs K
def qPy (o:Orc):Orc:=qR 39 (qYj o) o
theorem qYn:OQ Tryz.prog qPy:=fun _ ho=>qS ho fun vs objs K r h=>by
 unfold qYj at h
 split at h
 ·skip
  obtain⟨t,h1,h2⟩:=qG h
  refine qAY mixed qYk (fn:=Tryz.f39) (b:=(Tryz.f39).body.getD .skip) (by kernel_rfl) (by kernel_rfl) (by kernel_rfl) ((qlS _ _ _ _ _).trans h1) (m:=0) rfl (qT.of (l':=[qI Tryz.f39 3]) (by kernel_rfl) ⟨qlV,trivial⟩) fun v objs' hd=>?_
  unfold qYl at hd;split at hd;(cases hd;exact h2);cases hd
 ·exact ho _ _ _ _ _ h
def qP3:Ex->List V->List Obj->Option (Int):=fun e vs objs=>match e,vs,objs with
 | .exit 0,[.s (.i .i64 y0)],[]=>some (y0)
 | _,_,_=>none
def qP5:HL:=fun vs objs K=>match vs,objs with
 | [.s (.i .i64 x0),.s (.ptr 0 0 none 0),.s (.i .i64 x1),.s (.i .i64 x2)],[.cells 29 [.arr .i8 81 x3,.arr .i8 16 x4,.one [.i .i8 x5]]]=>ob (qCY qC x0 x1 x2 x3 x4 x5) fun y0=>K (.exit 0) ([.s (.i .i64 y0)]) ([])
 | _,_=>none
def qld:{R:Type}->Nat->List V->List Obj->(Ex->List V->List Obj->Option R)->Option R:=fun q vs objs K=>bif Nat.beq q 3 then qP5 vs objs K else none
def qLR:Ctx:=mkC 18 ((qPy qO)) [(3,[1,2,5,6],[5])] qld
theorem qYu:CtxOK Tryz.prog qLR:=mkC_ok ((qYn _ qP))
def qP4 (f:Nat) (x0 x1 x2:Int) (x3 x4:LI) (x5:Int):Option (Int):=qh qLR 0 [1,2,5,6] [5] (qI Tryz.f35 3) f ([.s (.i .i64 x0),.s (.ptr 0 0 none 0),.s (.i .i64 x1),.s (.i .i64 x2)]) ([.cells 29 [.arr .i8 81 x3,.arr .i8 16 x4,.one [.i .i8 x5]]]) qP3
theorem qlc (f:Nat) (x0 x1 x2:Int) (x3 x4:LI) (x5:Int):qP4 (f+1) x0 x1 x2 x3 x4 x5=qDn (qP4 f) x0 x1 x2 x3 x4 x5:=by kernel_rfl
theorem qYw:∀ f,qP4 f=qCY f
 | 0=>rfl
 | f+1=>by funext x0 x1 x2 x3 x4 x5;rw[qlc,qYw f];rfl
theorem qlf:qd Tryz.prog qLR 0 (qI Tryz.f35 3):=
 ql mixed qYu (qT.of (l':=[]) (by kernel_rfl) trivial) (q:=3) (kin:=[1,2,5,6]) (kout:=[5]) (by kernel_rfl) (by kernel_rfl) fun vs objs K r h=>by
  replace h:qP5 vs objs K=some r:=h
  unfold qP5 at h
  split at h
  ·skip
   obtain⟨t,h1,h2⟩:=qG h
   rw[<- qYw] at h1
   refine⟨_,qP3,t,qC,h1,fun e vs' objs' hd=>?_⟩
   unfold qP3 at hd;split at hd;(cases hd;exact h2);cases hd
  ·cases h
def qYv:V->List Obj->Option (Int):=fun v objs=>match v,objs with
 | .s (.i .i64 y0),[]=>some (y0)
 | _,_=>none
theorem qlb (x0 x1:LI) (x2 x3:Int):fnE qLR Tryz.f35 ([.agg [.arr .i8 81 x0,.arr .i8 16 x1,.one [.i .i8 x2]],.s (.i .i64 x3)]) ([]) qYv=qCF x0 x1 x2 x3:=by kernel_rfl
def qYt:HA:=fun o vs objs K=>match vs,objs with
 | [.agg [.arr .i8 81 x0,.arr .i8 16 x1,.one [.i .i8 x2]],.s (.i .i64 x3)],[]=>ob (qCF x0 x1 x2 x3) fun y0=>K false (.s (.i .i64 y0)) ([])
 | _,_=>o 35 vs objs K
def qYx (o:Orc):Orc:=qR 35 (qYt o) o
theorem qle:OQ Tryz.prog qYx:=fun _ ho=>qS ho fun vs objs K r h=>by
 unfold qYt at h
 split at h
 ·skip
  obtain⟨t,h1,h2⟩:=qG h
  refine qAY mixed qYu (fn:=Tryz.f35) (b:=(Tryz.f35).body.getD .skip) (by kernel_rfl) (by kernel_rfl) (by kernel_rfl) ((qlb _ _ _ _).trans h1) (m:=0) rfl (qT.of (l':=[qI Tryz.f35 3]) (by kernel_rfl) ⟨qlf,trivial⟩) fun v objs' hd=>?_
  unfold qYv at hd;split at hd;(cases hd;exact h2);cases hd
 ·exact ho _ _ _ _ _ h
def qXj:Ctx:=mkC 18 (qO) [] qW
theorem qkX:CtxOK Tryz.prog qXj:=mkC_ok (qP)
def qXk:V->List Obj->Option (Int):=fun v objs=>match v,objs with
 | .s (.i .i64 y0),[]=>some (y0)
 | _,_=>none
theorem qkW (x0:Int):fnE qXj Tryz.f23 ([.s (.i .i64 x0)]) ([]) qXk=qJA x0:=by kernel_rfl
def qXi:HA:=fun o vs objs K=>match vs,objs with
 | [.s (.i .i64 x0)],[]=>ob (qJA x0) fun y0=>K false (.s (.i .i64 y0)) ([])
 | _,_=>o 23 vs objs K
def qXl (o:Orc):Orc:=qR 23 (qXi o) o
theorem qkY:OQ Tryz.prog qXl:=fun _ ho=>qS ho fun vs objs K r h=>by
 unfold qXi at h
 split at h
 ·skip
  obtain⟨t,h1,h2⟩:=qG h
  refine qa mixed qkX ((qkW _).trans h1) (by kernel_rfl) fun v objs' hd=>?_
  unfold qXk at hd;split at hd;(cases hd;exact h2);cases hd
 ·exact ho _ _ _ _ _ h
def qPt:Ex->List V->List Obj->Option (Int×Int×LI×LI×Int):=fun e vs objs=>match e,vs,objs with
 | .exit 0,[.s (.i .i64 y0),.s (.ptr 0 0 none 0),.s (.i .i64 y1)],[.cells 29 [.arr .i8 81 y2,.arr .i8 16 y3,.one [.i .i8 y4]]]=>some (y0,y1,y2,y3,y4)
 | _,_,_=>none
def qPv:HL:=fun vs objs K=>match vs,objs with
 | [.s (.i .i64 x0),.s (.ptr 0 0 none 0),.s (.i .i64 x1),.s (.i .i64 x2)],[.cells 29 [.arr .i8 81 x3,.arr .i8 16 x4,.one [.i .i8 x5]]]=>ob (qFJ qC x0 x1 x2 x3 x4 x5) fun z=>K (.exit 0) ([.s (.i .i64 (z.1)),.s (.ptr 0 0 none 0),.s (.i .i64 (z.2.1))]) ([.cells 29 [.arr .i8 81 (z.2.2.1),.arr .i8 16 (z.2.2.2.1),.one [.i .i8 (z.2.2.2.2)]]])
 | _,_=>none
def qlP:{R:Type}->Nat->List V->List Obj->(Ex->List V->List Obj->Option R)->Option R:=fun q vs objs K=>bif Nat.beq q 3 then qPv vs objs K else none
def qLO:Ctx:=mkC 37 ((qXl (qF8 qO))) [(3,[1,2,5,6],[1,2,5])] qlP
theorem qYf:CtxOK Tryz.prog qLO:=mkC_ok ((qkY _ (qHi _ qP)))
def qPu (f:Nat) (x0 x1 x2:Int) (x3 x4:LI) (x5:Int):Option (Int×Int×LI×LI×Int):=qh qLO 0 [1,2,5,6] [1,2,5] (qI Tryz.f36 3) f ([.s (.i .i64 x0),.s (.ptr 0 0 none 0),.s (.i .i64 x1),.s (.i .i64 x2)]) ([.cells 29 [.arr .i8 81 x3,.arr .i8 16 x4,.one [.i .i8 x5]]]) qPt
theorem qlO (f:Nat) (x0 x1 x2:Int) (x3 x4:LI) (x5:Int):qPu (f+1) x0 x1 x2 x3 x4 x5=qHo (qPu f) x0 x1 x2 x3 x4 x5:=by kernel_rfl
theorem qYh:∀ f,qPu f=qFJ f
 | 0=>rfl
 | f+1=>by funext x0 x1 x2 x3 x4 x5;rw[qlO,qYh f];rfl
theorem qlR:qd Tryz.prog qLO 0 (qI Tryz.f36 3):=
 ql mixed qYf (qT.of (l':=[]) (by kernel_rfl) trivial) (q:=3) (kin:=[1,2,5,6]) (kout:=[1,2,5]) (by kernel_rfl) (by kernel_rfl) fun vs objs K r h=>by
  replace h:qPv vs objs K=some r:=h
  unfold qPv at h
  split at h
  ·skip
   obtain⟨t,h1,h2⟩:=qG h
   rw[<- qYh] at h1
   refine⟨_,qPt,t,qC,h1,fun e vs' objs' hd=>?_⟩
   unfold qPt at hd;split at hd;(cases hd;exact h2);cases hd
  ·cases h
def qYg:V->List Obj->Option (Int):=fun v objs=>match v,objs with
 | .s (.i .i64 y0),[]=>some (y0)
 | _,_=>none
theorem qlN (x0 x1:LI) (x2 x3:Int):fnE qLO Tryz.f36 ([.agg [.arr .i8 81 x0,.arr .i8 16 x1,.one [.i .i8 x2]],.s (.i .i64 x3)]) ([]) qYg=qJF x0 x1 x2 x3:=by kernel_rfl
def qYe:HA:=fun o vs objs K=>match vs,objs with
 | [.agg [.arr .i8 81 x0,.arr .i8 16 x1,.one [.i .i8 x2]],.s (.i .i64 x3)],[]=>ob (qJF x0 x1 x2 x3) fun y0=>K false (.s (.i .i64 y0)) ([])
 | _,_=>o 36 vs objs K
def qYi (o:Orc):Orc:=qR 36 (qYe o) o
theorem qlQ:OQ Tryz.prog qYi:=fun _ ho=>qS ho fun vs objs K r h=>by
 unfold qYe at h
 split at h
 ·skip
  obtain⟨t,h1,h2⟩:=qG h
  refine qAY mixed qYf (fn:=Tryz.f36) (b:=(Tryz.f36).body.getD .skip) (by kernel_rfl) (by kernel_rfl) (by kernel_rfl) ((qlN _ _ _ _).trans h1) (m:=0) rfl (qT.of (l':=[qI Tryz.f36 3]) (by kernel_rfl) ⟨qlR,trivial⟩) fun v objs' hd=>?_
  unfold qYg at hd;split at hd;(cases hd;exact h2);cases hd
 ·exact ho _ _ _ _ _ h
def qXq:Ctx:=mkC 15 (qO) [] qW
theorem qkc:CtxOK Tryz.prog qXq:=mkC_ok (qP)
def qXr:V->List Obj->Option (Int):=fun v objs=>match v,objs with
 | .s (.i .i64 y0),[]=>some (y0)
 | _,_=>none
theorem qkb (x0:Int):fnE qXq Tryz.f37 ([.s (.i .i64 x0)]) ([]) qXr=qJC x0:=by kernel_rfl
def qXp:HA:=fun o vs objs K=>match vs,objs with
 | [.s (.i .i64 x0)],[]=>ob (qJC x0) fun y0=>K false (.s (.i .i64 y0)) ([])
 | _,_=>o 37 vs objs K
def qXs (o:Orc):Orc:=qR 37 (qXp o) o
theorem qkd:OQ Tryz.prog qXs:=fun _ ho=>qS ho fun vs objs K r h=>by
 unfold qXp at h
 split at h
 ·skip
  obtain⟨t,h1,h2⟩:=qG h
  refine qa mixed qkc ((qkb _).trans h1) (by kernel_rfl) fun v objs' hd=>?_
  unfold qXr at hd;split at hd;(cases hd;exact h2);cases hd
 ·exact ho _ _ _ _ _ h
def qXn:Ctx:=mkC 8 ((qF8 qO)) [] qW
theorem qka:CtxOK Tryz.prog qXn:=mkC_ok ((qHi _ qP))
def qXo:V->List Obj->Option (Int):=fun v objs=>match v,objs with
 | .s (.i .i64 y0),[]=>some (y0)
 | _,_=>none
theorem qkZ (x0:Int):fnE qXn Tryz.f42 ([.s (.i .i64 x0)]) ([]) qXo=qDf x0:=by kernel_rfl
def qXm:HA:=fun o vs objs K=>match vs,objs with
 | [.s (.i .i64 x0)],[]=>ob (qDf x0) fun y0=>K false (.s (.i .i64 y0)) ([])
 | _,_=>o 42 vs objs K
def qJB (o:Orc):Orc:=qR 42 (qXm o) o
theorem qLL:OQ Tryz.prog qJB:=fun _ ho=>qS ho fun vs objs K r h=>by
 unfold qXm at h
 split at h
 ·skip
  obtain⟨t,h1,h2⟩:=qG h
  refine qa mixed qka ((qkZ _).trans h1) (by kernel_rfl) fun v objs' hd=>?_
  unfold qXo at hd;split at hd;(cases hd;exact h2);cases hd
 ·exact ho _ _ _ _ _ h
def qXy:Ctx:=mkC 26 (qO) [] qW
theorem qki:CtxOK Tryz.prog qXy:=mkC_ok (qP)
def qXz:V->List Obj->Option (Int):=fun v objs=>match v,objs with
 | .s (.i .i64 y0),[]=>some (y0)
 | _,_=>none
theorem qkh (x0 x1:Int):fnE qXy Tryz.f89 ([.s (.i .i64 x0),.s (.i .i64 x1)]) ([]) qXz=qGA x0 x1:=by kernel_rfl
def qXx:HA:=fun o vs objs K=>match vs,objs with
 | [.s (.i .i64 x0),.s (.i .i64 x1)],[]=>ob (qGA x0 x1) fun y0=>K false (.s (.i .i64 y0)) ([])
 | _,_=>o 89 vs objs K
def qX0 (o:Orc):Orc:=qR 89 (qXx o) o
theorem qkj:OQ Tryz.prog qX0:=fun _ ho=>qS ho fun vs objs K r h=>by
 unfold qXx at h
 split at h
 ·skip
  obtain⟨t,h1,h2⟩:=qG h
  refine qa mixed qki ((qkh _ _).trans h1) (by kernel_rfl) fun v objs' hd=>?_
  unfold qXz at hd;split at hd;(cases hd;exact h2);cases hd
 ·exact ho _ _ _ _ _ h
def qXu:Ctx:=mkC 35 ((qF8 (qX0 (qJB qO)))) [] qW
theorem qkf:CtxOK Tryz.prog qXu:=mkC_ok ((qHi _ (qkj _ (qLL _ qP))))
def qXv:V->List Obj->Option (Bool):=fun v objs=>match v,objs with
 | .s (.b y0),[]=>some (y0)
 | _,_=>none
theorem qke (x0 x1:Int):fnE qXu Tryz.f38 ([.s (.i .i64 x0),.s (.i .i64 x1)]) ([]) qXv=qF9 x0 x1:=by kernel_rfl
def qXt:HA:=fun o vs objs K=>match vs,objs with
 | [.s (.i .i64 x0),.s (.i .i64 x1)],[]=>ob (qF9 x0 x1) fun y0=>K false (.s (.b y0)) ([])
 | _,_=>o 38 vs objs K
def qXw (o:Orc):Orc:=qR 38 (qXt o) o
theorem qkg:OQ Tryz.prog qXw:=fun _ ho=>qS ho fun vs objs K r h=>by
 unfold qXt at h
 split at h
 ·skip
  obtain⟨t,h1,h2⟩:=qG h
  refine qa mixed qkf ((qke _ _).trans h1) (by kernel_rfl) fun v objs' hd=>?_
  unfold qXv at hd;split at hd;(cases hd;exact h2);cases hd
 ·exact ho _ _ _ _ _ h
def qPj:Ex->List V->List Obj->Option ((Int×LI×LI×Int)⊕(LI×LI×Int)):=fun e vs objs=>match e,vs,objs with
 | .ret,[.s (.ptr 0 0 none 0),.s (.i .i64 y0)],[.cells 29 [.arr .i8 81 y1,.arr .i8 16 y2,.one [.i .i8 y3]]]=>some (.inl (y0,y1,y2,y3))
 | .exit 0,[.s (.ptr 0 0 none 0),.s .bad],[.cells 29 [.arr .i8 81 y0,.arr .i8 16 y1,.one [.i .i8 y2]]]=>some (.inr (y0,y1,y2))
 | _,_,_=>none
def qPb:Ex->List V->List Obj->Option ((Int×Int×LI×LI×Int)⊕(Int×LI×LI×Int)):=fun e vs objs=>match e,vs,objs with
 | .ret,[.s (.ptr 0 0 none 0),.s (.i .i64 y0),.s (.i .i64 y1)],[.cells 29 [.arr .i8 81 y2,.arr .i8 16 y3,.one [.i .i8 y4]]]=>some (.inl (y0,y1,y2,y3,y4))
 | .exit 4,[.s (.ptr 0 0 none 0),.s .bad,.s (.i .i64 y0)],[.cells 29 [.arr .i8 81 y1,.arr .i8 16 y2,.one [.i .i8 y3]]]=>some (.inr (y0,y1,y2,y3))
 | _,_,_=>none
def qPl:Ex->List V->List Obj->Option ((Int×LI×LI×Int)⊕(LI×LI×Int)):=fun e vs objs=>match e,vs,objs with
 | .ret,[.s (.ptr 0 0 none 0),.s (.i .i64 y0)],[.cells 29 [.arr .i8 81 y1,.arr .i8 16 y2,.one [.i .i8 y3]]]=>some (.inl (y0,y1,y2,y3))
 | .exit 2,[.s (.ptr 0 0 none 0),.s .bad],[.cells 29 [.arr .i8 81 y0,.arr .i8 16 y1,.one [.i .i8 y2]]]=>some (.inr (y0,y1,y2))
 | _,_,_=>none
def qPd:Ex->List V->List Obj->Option ((Int×LI×LI×Int)⊕(LI×LI×Int)):=fun e vs objs=>match e,vs,objs with
 | .ret,[.s (.ptr 0 0 none 0),.s (.i .i64 y0)],[.cells 29 [.arr .i8 81 y1,.arr .i8 16 y2,.one [.i .i8 y3]]]=>some (.inl (y0,y1,y2,y3))
 | .exit 6,[.s (.ptr 0 0 none 0),.s .bad],[.cells 29 [.arr .i8 81 y0,.arr .i8 16 y1,.one [.i .i8 y2]]]=>some (.inr (y0,y1,y2))
 | _,_,_=>none
def qPf:Ex->List V->List Obj->Option ((Int×LI×LI×Int)⊕(LI×LI×Int)):=fun e vs objs=>match e,vs,objs with
 | .ret,[.s (.ptr 0 0 none 0),.s (.i .i64 y0)],[.cells 29 [.arr .i8 81 y1,.arr .i8 16 y2,.one [.i .i8 y3]]]=>some (.inl (y0,y1,y2,y3))
 | .exit 8,[.s (.ptr 0 0 none 0),.s .bad],[.cells 29 [.arr .i8 81 y0,.arr .i8 16 y1,.one [.i .i8 y2]]]=>some (.inr (y0,y1,y2))
 | _,_,_=>none
def qPh:Ex->List V->List Obj->Option ((Int)⊕(Unit)):=fun e vs objs=>match e,vs,objs with
 | .ret,[.s (.i .i64 y0)],[]=>some (.inl (y0))
 | .exit 10,[.s .bad],[]=>some (.inr ())
 | _,_,_=>none
def qPr:HL:=fun vs objs K=>match vs,objs with
 | [.s (.ptr 0 0 none 0),.s (.i .i64 x0)],[.cells 29 [.arr .i8 81 x1,.arr .i8 16 x2,.one [.i .i8 x3]]]=>ob (qBy qC x0 x1 x2 x3) fun t0=>sw t0 (fun z=>K (.ret) ([.s (.ptr 0 0 none 0),.s (.i .i64 (z.1))]) ([.cells 29 [.arr .i8 81 (z.2.1),.arr .i8 16 (z.2.2.1),.one [.i .i8 (z.2.2.2)]]])) (fun z=>K (.exit 0) ([.s (.ptr 0 0 none 0),.s .bad]) ([.cells 29 [.arr .i8 81 (z.1),.arr .i8 16 (z.2.1),.one [.i .i8 (z.2.2)]]]))
 | _,_=>none
def qPn:HL:=fun vs objs K=>match vs,objs with
 | [.s (.ptr 0 0 none 0),.s (.i .i64 x0),.s (.i .i64 x1)],[.cells 29 [.arr .i8 81 x2,.arr .i8 16 x3,.one [.i .i8 x4]]]=>ob (qBa qC x0 x1 x2 x3 x4) fun t0=>sw t0 (fun z=>K (.ret) ([.s (.ptr 0 0 none 0),.s (.i .i64 (z.1)),.s (.i .i64 (z.2.1))]) ([.cells 29 [.arr .i8 81 (z.2.2.1),.arr .i8 16 (z.2.2.2.1),.one [.i .i8 (z.2.2.2.2)]]])) (fun z=>K (.exit 4) ([.s (.ptr 0 0 none 0),.s .bad,.s (.i .i64 (z.1))]) ([.cells 29 [.arr .i8 81 (z.2.1),.arr .i8 16 (z.2.2.1),.one [.i .i8 (z.2.2.2)]]]))
 | _,_=>none
def qPs:HL:=fun vs objs K=>match vs,objs with
 | [.s (.ptr 0 0 none 0),.s (.i .i64 x0)],[.cells 29 [.arr .i8 81 x1,.arr .i8 16 x2,.one [.i .i8 x3]]]=>ob (qBS qC x0 x1 x2 x3) fun t0=>sw t0 (fun z=>K (.ret) ([.s (.ptr 0 0 none 0),.s (.i .i64 (z.1))]) ([.cells 29 [.arr .i8 81 (z.2.1),.arr .i8 16 (z.2.2.1),.one [.i .i8 (z.2.2.2)]]])) (fun z=>K (.exit 2) ([.s (.ptr 0 0 none 0),.s .bad]) ([.cells 29 [.arr .i8 81 (z.1),.arr .i8 16 (z.2.1),.one [.i .i8 (z.2.2)]]]))
 | _,_=>none
def qPo:HL:=fun vs objs K=>match vs,objs with
 | [.s (.ptr 0 0 none 0),.s (.i .i64 x0)],[.cells 29 [.arr .i8 81 x1,.arr .i8 16 x2,.one [.i .i8 x3]]]=>ob (qBP qC x0 x1 x2 x3) fun t0=>sw t0 (fun z=>K (.ret) ([.s (.ptr 0 0 none 0),.s (.i .i64 (z.1))]) ([.cells 29 [.arr .i8 81 (z.2.1),.arr .i8 16 (z.2.2.1),.one [.i .i8 (z.2.2.2)]]])) (fun z=>K (.exit 6) ([.s (.ptr 0 0 none 0),.s .bad]) ([.cells 29 [.arr .i8 81 (z.1),.arr .i8 16 (z.2.1),.one [.i .i8 (z.2.2)]]]))
 | _,_=>none
def qPp:HL:=fun vs objs K=>match vs,objs with
 | [.s (.ptr 0 0 none 0),.s (.i .i64 x0)],[.cells 29 [.arr .i8 81 x1,.arr .i8 16 x2,.one [.i .i8 x3]]]=>ob (qBQ qC x0 x1 x2 x3) fun t0=>sw t0 (fun z=>K (.ret) ([.s (.ptr 0 0 none 0),.s (.i .i64 (z.1))]) ([.cells 29 [.arr .i8 81 (z.2.1),.arr .i8 16 (z.2.2.1),.one [.i .i8 (z.2.2.2)]]])) (fun z=>K (.exit 8) ([.s (.ptr 0 0 none 0),.s .bad]) ([.cells 29 [.arr .i8 81 (z.1),.arr .i8 16 (z.2.1),.one [.i .i8 (z.2.2)]]]))
 | _,_=>none
def qPq:HL:=fun vs objs K=>match vs,objs with
 | [.s (.ptr 0 0 none 0),.s (.i .i64 x0)],[.cells 29 [.arr .i8 81 x1,.arr .i8 16 x2,.one [.i .i8 x3]]]=>ob (qBR qC x0 x1 x2 x3) fun t0=>sw t0 (fun y0=>K (.ret) ([.s (.i .i64 y0)]) ([])) (fun _=>K (.exit 10) ([.s .bad]) ([]))
 | _,_=>none
def qlF:{R:Type}->Nat->List V->List Obj->(Ex->List V->List Obj->Option R)->Option R:=fun q vs objs K=>bif Nat.beq q 4 then qPr vs objs K else bif Nat.beq q 12 then qPn vs objs K else bif Nat.beq q 9 then qPs vs objs K else bif Nat.beq q 20 then qPo vs objs K else bif Nat.beq q 25 then qPp vs objs K else bif Nat.beq q 30 then qPq vs objs K else none
def qCE:Ctx:=mkC 103 ((qPy (qXw (qXs (qYi (qYx (qF8 qO))))))) [(4,[1,3],[1,2]),(9,[1,4],[1,2]),(12,[1,4,5],[1,2,4]),(20,[1,7],[1,2]),(25,[1,8],[1,2]),(30,[1,9],[2])] qlF
theorem qGB:CtxOK Tryz.prog qCE:=mkC_ok ((qYn _ (qkg _ (qkd _ (qlQ _ (qle _ (qHi _ qP)))))))
def qPk (f:Nat) (x0:Int) (x1 x2:LI) (x3:Int):Option ((Int×LI×LI×Int)⊕(LI×LI×Int)):=qh qCE 0 [1,3] [1,2] (qI Tryz.f17 4) f ([.s (.ptr 0 0 none 0),.s (.i .i64 x0)]) ([.cells 29 [.arr .i8 81 x1,.arr .i8 16 x2,.one [.i .i8 x3]]]) qPj
theorem qlD (f:Nat) (x0:Int) (x1 x2:LI) (x3:Int):qPk (f+1) x0 x1 x2 x3=qDk (qPk f) x0 x1 x2 x3:=by kernel_rfl
theorem qYb:∀ f,qPk f=qBy f
 | 0=>rfl
 | f+1=>by funext x0 x1 x2 x3;rw[qlD,qYb f];rfl
def qPc (f:Nat) (x0 x1:Int) (x2 x3:LI) (x4:Int):Option ((Int×Int×LI×LI×Int)⊕(Int×LI×LI×Int)):=qh qCE 0 [1,4,5] [1,2,4] (qI Tryz.f17 12) f ([.s (.ptr 0 0 none 0),.s (.i .i64 x0),.s (.i .i64 x1)]) ([.cells 29 [.arr .i8 81 x2,.arr .i8 16 x3,.one [.i .i8 x4]]]) qPb
theorem qk9 (f:Nat) (x0 x1:Int) (x2 x3:LI) (x4:Int):qPc (f+1) x0 x1 x2 x3 x4=qDg (qPc f) x0 x1 x2 x3 x4:=by kernel_rfl
theorem qYX:∀ f,qPc f=qBa f
 | 0=>rfl
 | f+1=>by funext x0 x1 x2 x3 x4;rw[qk9,qYX f];rfl
def qPm (f:Nat) (x0:Int) (x1 x2:LI) (x3:Int):Option ((Int×LI×LI×Int)⊕(LI×LI×Int)):=qh qCE 0 [1,4] [1,2] (qI Tryz.f17 9) f ([.s (.ptr 0 0 none 0),.s (.i .i64 x0)]) ([.cells 29 [.arr .i8 81 x1,.arr .i8 16 x2,.one [.i .i8 x3]]]) qPl
theorem qlE (f:Nat) (x0:Int) (x1 x2:LI) (x3:Int):qPm (f+1) x0 x1 x2 x3=qDl (qPm f) x0 x1 x2 x3:=by kernel_rfl
theorem qYc:∀ f,qPm f=qBS f
 | 0=>rfl
 | f+1=>by funext x0 x1 x2 x3;rw[qlE,qYc f];rfl
def qPe (f:Nat) (x0:Int) (x1 x2:LI) (x3:Int):Option ((Int×LI×LI×Int)⊕(LI×LI×Int)):=qh qCE 0 [1,7] [1,2] (qI Tryz.f17 20) f ([.s (.ptr 0 0 none 0),.s (.i .i64 x0)]) ([.cells 29 [.arr .i8 81 x1,.arr .i8 16 x2,.one [.i .i8 x3]]]) qPd
theorem qlA (f:Nat) (x0:Int) (x1 x2:LI) (x3:Int):qPe (f+1) x0 x1 x2 x3=qDh (qPe f) x0 x1 x2 x3:=by kernel_rfl
theorem qYY:∀ f,qPe f=qBP f
 | 0=>rfl
 | f+1=>by funext x0 x1 x2 x3;rw[qlA,qYY f];rfl
def qPg (f:Nat) (x0:Int) (x1 x2:LI) (x3:Int):Option ((Int×LI×LI×Int)⊕(LI×LI×Int)):=qh qCE 0 [1,8] [1,2] (qI Tryz.f17 25) f ([.s (.ptr 0 0 none 0),.s (.i .i64 x0)]) ([.cells 29 [.arr .i8 81 x1,.arr .i8 16 x2,.one [.i .i8 x3]]]) qPf
theorem qlB (f:Nat) (x0:Int) (x1 x2:LI) (x3:Int):qPg (f+1) x0 x1 x2 x3=qDi (qPg f) x0 x1 x2 x3:=by kernel_rfl
theorem qYZ:∀ f,qPg f=qBQ f
 | 0=>rfl
 | f+1=>by funext x0 x1 x2 x3;rw[qlB,qYZ f];rfl
def qPi (f:Nat) (x0:Int) (x1 x2:LI) (x3:Int):Option ((Int)⊕(Unit)):=qh qCE 0 [1,9] [2] (qI Tryz.f17 30) f ([.s (.ptr 0 0 none 0),.s (.i .i64 x0)]) ([.cells 29 [.arr .i8 81 x1,.arr .i8 16 x2,.one [.i .i8 x3]]]) qPh
theorem qlC (f:Nat) (x0:Int) (x1 x2:LI) (x3:Int):qPi (f+1) x0 x1 x2 x3=qDj (qPi f) x0 x1 x2 x3:=by kernel_rfl
theorem qYa:∀ f,qPi f=qBR f
 | 0=>rfl
 | f+1=>by funext x0 x1 x2 x3;rw[qlC,qYa f];rfl
theorem qlL:qd Tryz.prog qCE 0 (qI Tryz.f17 4):=
 ql mixed qGB (qT.of (l':=[]) (by kernel_rfl) trivial) (q:=4) (kin:=[1,3]) (kout:=[1,2]) (by kernel_rfl) (by kernel_rfl) fun vs objs K r h=>by
  replace h:qPr vs objs K=some r:=h
  unfold qPr at h
  split at h
  ·skip
   obtain⟨t,h1,h2⟩:=qG h
   rw[<- qYb] at h1
   refine⟨_,qPj,t,qC,h1,fun e vs' objs' hd=>?_⟩
   unfold qPj at hd
   split at hd
   ·skip
    cases hd
    exact h2
   ·skip
    cases hd
    exact h2
   ·cases hd
  ·cases h
theorem qlH:qd Tryz.prog qCE 0 (qI Tryz.f17 12):=
 ql mixed qGB (qT.of (l':=[]) (by kernel_rfl) trivial) (q:=12) (kin:=[1,4,5]) (kout:=[1,2,4]) (by kernel_rfl) (by kernel_rfl) fun vs objs K r h=>by
  replace h:qPn vs objs K=some r:=h
  unfold qPn at h
  split at h
  ·skip
   obtain⟨t,h1,h2⟩:=qG h
   rw[<- qYX] at h1
   refine⟨_,qPb,t,qC,h1,fun e vs' objs' hd=>?_⟩
   unfold qPb at hd
   split at hd
   ·skip
    cases hd
    exact h2
   ·skip
    cases hd
    exact h2
   ·cases hd
  ·cases h
theorem qlI:qd Tryz.prog qCE 0 (qI Tryz.f17 20):=
 ql mixed qGB (qT.of (l':=[]) (by kernel_rfl) trivial) (q:=20) (kin:=[1,7]) (kout:=[1,2]) (by kernel_rfl) (by kernel_rfl) fun vs objs K r h=>by
  replace h:qPo vs objs K=some r:=h
  unfold qPo at h
  split at h
  ·skip
   obtain⟨t,h1,h2⟩:=qG h
   rw[<- qYY] at h1
   refine⟨_,qPd,t,qC,h1,fun e vs' objs' hd=>?_⟩
   unfold qPd at hd
   split at hd
   ·skip
    cases hd
    exact h2
   ·skip
    cases hd
    exact h2
   ·cases hd
  ·cases h
theorem qlJ:qd Tryz.prog qCE 0 (qI Tryz.f17 25):=
 ql mixed qGB (qT.of (l':=[]) (by kernel_rfl) trivial) (q:=25) (kin:=[1,8]) (kout:=[1,2]) (by kernel_rfl) (by kernel_rfl) fun vs objs K r h=>by
  replace h:qPp vs objs K=some r:=h
  unfold qPp at h
  split at h
  ·skip
   obtain⟨t,h1,h2⟩:=qG h
   rw[<- qYZ] at h1
   refine⟨_,qPf,t,qC,h1,fun e vs' objs' hd=>?_⟩
   unfold qPf at hd
   split at hd
   ·skip
    cases hd
    exact h2
   ·skip
    cases hd
    exact h2
   ·cases hd
  ·cases h
theorem qlK:qd Tryz.prog qCE 0 (qI Tryz.f17 30):=
 ql mixed qGB (qT.of (l':=[]) (by kernel_rfl) trivial) (q:=30) (kin:=[1,9]) (kout:=[2]) (by kernel_rfl) (by kernel_rfl) fun vs objs K r h=>by
  replace h:qPq vs objs K=some r:=h
  unfold qPq at h
  split at h
  ·skip
   obtain⟨t,h1,h2⟩:=qG h
   rw[<- qYa] at h1
   refine⟨_,qPh,t,qC,h1,fun e vs' objs' hd=>?_⟩
   unfold qPh at hd
   split at hd
   ·skip
    cases hd
    exact h2
   ·skip
    cases hd
    exact h2
   ·cases hd
  ·cases h
theorem qlM:qd Tryz.prog qCE 0 (qI Tryz.f17 9):=
 ql mixed qGB (qT.of (l':=[qI Tryz.f17 12]) (by kernel_rfl) ⟨qlH,trivial⟩) (q:=9) (kin:=[1,4]) (kout:=[1,2]) (by kernel_rfl) (by kernel_rfl) fun vs objs K r h=>by
  replace h:qPs vs objs K=some r:=h
  unfold qPs at h
  split at h
  ·skip
   obtain⟨t,h1,h2⟩:=qG h
   rw[<- qYc] at h1
   refine⟨_,qPl,t,qC,h1,fun e vs' objs' hd=>?_⟩
   unfold qPl at hd
   split at hd
   ·skip
    cases hd
    exact h2
   ·skip
    cases hd
    exact h2
   ·cases hd
  ·cases h
def qYW:V->List Obj->Option (Int):=fun v objs=>match v,objs with
 | .s (.i .i64 y0),[]=>some (y0)
 | _,_=>none
theorem qk8 (x0 x1:LI) (x2:Int):fnE qCE Tryz.f17 ([.agg [.arr .i8 81 x0,.arr .i8 16 x1,.one [.i .i8 x2]]]) ([]) qYW=qFI x0 x1 x2:=by kernel_rfl
def qYV:HA:=fun o vs objs K=>match vs,objs with
 | [.agg [.arr .i8 81 x0,.arr .i8 16 x1,.one [.i .i8 x2]]],[]=>ob (qFI x0 x1 x2) fun y0=>K false (.s (.i .i64 y0)) ([])
 | _,_=>o 17 vs objs K
def qYd (o:Orc):Orc:=qR 17 (qYV o) o
theorem qlG:OQ Tryz.prog qYd:=fun _ ho=>qS ho fun vs objs K r h=>by
 unfold qYV at h
 split at h
 ·skip
  obtain⟨t,h1,h2⟩:=qG h
  refine qAY mixed qGB (fn:=Tryz.f17) (b:=(Tryz.f17).body.getD .skip) (by kernel_rfl) (by kernel_rfl) (by kernel_rfl) ((qk8 _ _ _).trans h1) (m:=0) rfl (qT.of (l':=[qI Tryz.f17 4,qI Tryz.f17 9,qI Tryz.f17 20,qI Tryz.f17 25,qI Tryz.f17 30]) (by kernel_rfl) ⟨qlL,qlM,qlI,qlJ,qlK,trivial⟩) fun v objs' hd=>?_
  unfold qYW at hd;split at hd;(cases hd;exact h2);cases hd
 ·exact ho _ _ _ _ _ h
def qP0:Ex->List V->List Obj->Option (List Bool×List Bool):=fun e vs objs=>match e,vs,objs with
 | .exit 0,[.s (.ptr 0 0 none 0),.s (.ptr 1 0 none 0)],[.cells 89 [Seg.barr 81 y0],.cells 89 [Seg.barr 81 y1]]=>some (y0,y1)
 | _,_,_=>none
def qP2:HL:=fun vs objs K=>match vs,objs with
 | [.s (.ptr 0 0 none 0),.s (.ptr 1 0 none 0),.s (.ptr 2 0 none 0),.s (.i .i64 x0)],[.cells 29 [.arr .i8 81 x1,.arr .i8 16 x2,.one [.i .i8 x3]],.cells 89 [Seg.barr 81 x4],.cells 89 [Seg.barr 81 x5]]=>ob (qER qC x0 x1 x2 x3 x4 x5) fun z=>K (.exit 0) ([.s (.ptr 0 0 none 0),.s (.ptr 1 0 none 0)]) ([.cells 89 [Seg.barr 81 (z.1)],.cells 89 [Seg.barr 81 (z.2)]])
 | _,_=>none
def qlY:{R:Type}->Nat->List V->List Obj->(Ex->List V->List Obj->Option R)->Option R:=fun q vs objs K=>bif Nat.beq q 3 then qP2 vs objs K else none
def qLQ:Ctx:=mkC 18 (qO) [(3,[1,2,3,4],[2,3])] qlY
theorem qYp:CtxOK Tryz.prog qLQ:=mkC_ok (qP)
def qP1 (f:Nat) (x0:Int) (x1 x2:LI) (x3:Int) (x4 x5:List Bool):Option (List Bool×List Bool):=qh qLQ 0 [1,2,3,4] [2,3] (qI Tryz.f40 3) f ([.s (.ptr 0 0 none 0),.s (.ptr 1 0 none 0),.s (.ptr 2 0 none 0),.s (.i .i64 x0)]) ([.cells 29 [.arr .i8 81 x1,.arr .i8 16 x2,.one [.i .i8 x3]],.cells 89 [Seg.barr 81 x4],.cells 89 [Seg.barr 81 x5]]) qP0
theorem qlX (f:Nat) (x0:Int) (x1 x2:LI) (x3:Int) (x4 x5:List Bool):qP1 (f+1) x0 x1 x2 x3 x4 x5=qHp (qP1 f) x0 x1 x2 x3 x4 x5:=by kernel_rfl
theorem qYr:∀ f,qP1 f=qER f
 | 0=>rfl
 | f+1=>by funext x0 x1 x2 x3 x4 x5;rw[qlX,qYr f];rfl
theorem qla:qd Tryz.prog qLQ 0 (qI Tryz.f40 3):=
 ql mixed qYp (qT.of (l':=[]) (by kernel_rfl) trivial) (q:=3) (kin:=[1,2,3,4]) (kout:=[2,3]) (by kernel_rfl) (by kernel_rfl) fun vs objs K r h=>by
  replace h:qP2 vs objs K=some r:=h
  unfold qP2 at h
  split at h
  ·skip
   obtain⟨t,h1,h2⟩:=qG h
   rw[<- qYr] at h1
   refine⟨_,qP0,t,qC,h1,fun e vs' objs' hd=>?_⟩
   unfold qP0 at hd;split at hd;(cases hd;exact h2);cases hd
  ·cases h
def qYq:V->List Obj->Option (List Bool):=fun v objs=>match v,objs with
 | .agg [Seg.barr 81 y0],[]=>some (y0)
 | _,_=>none
theorem qlW (x0 x1:LI) (x2:Int):fnE qLQ Tryz.f40 ([.agg [.arr .i8 81 x0,.arr .i8 16 x1,.one [.i .i8 x2]]]) ([]) qYq=qJG x0 x1 x2:=by kernel_rfl
def qYo:HA:=fun o vs objs K=>match vs,objs with
 | [.agg [.arr .i8 81 x0,.arr .i8 16 x1,.one [.i .i8 x2]]],[]=>ob (qJG x0 x1 x2) fun y0=>K false (.agg [Seg.barr 81 y0]) ([])
 | _,_=>o 40 vs objs K
def qYs (o:Orc):Orc:=qR 40 (qYo o) o
theorem qlZ:OQ Tryz.prog qYs:=fun _ ho=>qS ho fun vs objs K r h=>by
 unfold qYo at h
 split at h
 ·skip
  obtain⟨t,h1,h2⟩:=qG h
  refine qAY mixed qYp (fn:=Tryz.f40) (b:=(Tryz.f40).body.getD .skip) (by kernel_rfl) (by kernel_rfl) (by kernel_rfl) ((qlW _ _ _).trans h1) (m:=0) rfl (qT.of (l':=[qI Tryz.f40 3]) (by kernel_rfl) ⟨qla,trivial⟩) fun v objs' hd=>?_
  unfold qYq at hd;split at hd;(cases hd;exact h2);cases hd
 ·exact ho _ _ _ _ _ h
def qP9:Ex->List V->List Obj->Option ((Int)⊕(Unit)):=fun e vs objs=>match e,vs,objs with
 | .ret,[.s (.i .i64 y0)],[]=>some (.inl (y0))
 | .exit 0,[.s .bad],[]=>some (.inr ())
 | _,_,_=>none
def qQB:HL:=fun vs objs K=>match vs,objs with
 | [.s (.i .i64 x0),.s (.ptr 0 0 none 0),.s (.i .i64 x1)],[.cells 29 [.arr .i8 81 x2,.arr .i8 16 x3,.one [.i .i8 x4]]]=>ob (qFL qC x0 x1 x2 x3 x4) fun t0=>sw t0 (fun y0=>K (.ret) ([.s (.i .i64 y0)]) ([])) (fun _=>K (.exit 0) ([.s .bad]) ([]))
 | _,_=>none
def qlq:{R:Type}->Nat->List V->List Obj->(Ex->List V->List Obj->Option R)->Option R:=fun q vs objs K=>bif Nat.beq q 2 then qQB vs objs K else none
def qLT:Ctx:=mkC 20 (qO) [(2,[1,2,5],[4])] qlq
theorem qY8:CtxOK Tryz.prog qLT:=mkC_ok (qP)
def qQA (f:Nat) (x0 x1:Int) (x2 x3:LI) (x4:Int):Option ((Int)⊕(Unit)):=qh qLT 0 [1,2,5] [4] (qI Tryz.f41 2) f ([.s (.i .i64 x0),.s (.ptr 0 0 none 0),.s (.i .i64 x1)]) ([.cells 29 [.arr .i8 81 x2,.arr .i8 16 x3,.one [.i .i8 x4]]]) qP9
theorem qlp (f:Nat) (x0 x1:Int) (x2 x3:LI) (x4:Int):qQA (f+1) x0 x1 x2 x3 x4=qHr (qQA f) x0 x1 x2 x3 x4:=by kernel_rfl
theorem qZA:∀ f,qQA f=qFL f
 | 0=>rfl
 | f+1=>by funext x0 x1 x2 x3 x4;rw[qlp,qZA f];rfl
theorem qls:qd Tryz.prog qLT 0 (qI Tryz.f41 2):=
 ql mixed qY8 (qT.of (l':=[]) (by kernel_rfl) trivial) (q:=2) (kin:=[1,2,5]) (kout:=[4]) (by kernel_rfl) (by kernel_rfl) fun vs objs K r h=>by
  replace h:qQB vs objs K=some r:=h
  unfold qQB at h
  split at h
  ·skip
   obtain⟨t,h1,h2⟩:=qG h
   rw[<- qZA] at h1
   refine⟨_,qP9,t,qC,h1,fun e vs' objs' hd=>?_⟩
   unfold qP9 at hd
   split at hd
   ·skip
    cases hd
    exact h2
   ·skip
    cases hd
    exact h2
   ·cases hd
  ·cases h
def qY9:V->List Obj->Option (Int):=fun v objs=>match v,objs with
 | .s (.i .i64 y0),[]=>some (y0)
 | _,_=>none
theorem qlo (x0 x1:LI) (x2 x3:Int):fnE qLT Tryz.f41 ([.agg [.arr .i8 81 x0,.arr .i8 16 x1,.one [.i .i8 x2]],.s (.i .i64 x3)]) ([]) qY9=qJJ x0 x1 x2 x3:=by kernel_rfl
def qY7:HA:=fun o vs objs K=>match vs,objs with
 | [.agg [.arr .i8 81 x0,.arr .i8 16 x1,.one [.i .i8 x2]],.s (.i .i64 x3)],[]=>ob (qJJ x0 x1 x2 x3) fun y0=>K false (.s (.i .i64 y0)) ([])
 | _,_=>o 41 vs objs K
def qZB (o:Orc):Orc:=qR 41 (qY7 o) o
theorem qlr:OQ Tryz.prog qZB:=fun _ ho=>qS ho fun vs objs K r h=>by
 unfold qY7 at h
 split at h
 ·skip
  obtain⟨t,h1,h2⟩:=qG h
  refine qAY mixed qY8 (fn:=Tryz.f41) (b:=(Tryz.f41).body.getD .skip) (by kernel_rfl) (by kernel_rfl) (by kernel_rfl) ((qlo _ _ _ _).trans h1) (m:=0) rfl (qT.of (l':=[qI Tryz.f41 2]) (by kernel_rfl) ⟨qls,trivial⟩) fun v objs' hd=>?_
  unfold qY9 at hd;split at hd;(cases hd;exact h2);cases hd
 ·exact ho _ _ _ _ _ h
def qX6:Ctx:=mkC 8 (qO) [] qW
theorem qko:CtxOK Tryz.prog qX6:=mkC_ok (qP)
def qX7:V->List Obj->Option (Int):=fun v objs=>match v,objs with
 | .s (.i .i64 y0),[]=>some (y0)
 | _,_=>none
theorem qkn (x0:Int):fnE qX6 Tryz.f116 ([.s (.i .i64 x0)]) ([]) qX7=qFF x0:=by kernel_rfl
def qX5:HA:=fun o vs objs K=>match vs,objs with
 | [.s (.i .i64 x0)],[]=>ob (qFF x0) fun y0=>K false (.s (.i .i64 y0)) ([])
 | _,_=>o 116 vs objs K
def qX8 (o:Orc):Orc:=qR 116 (qX5 o) o
theorem qkp:OQ Tryz.prog qX8:=fun _ ho=>qS ho fun vs objs K r h=>by
 unfold qX5 at h
 split at h
 ·skip
  obtain⟨t,h1,h2⟩:=qG h
  refine qa mixed qko ((qkn _).trans h1) (by kernel_rfl) fun v objs' hd=>?_
  unfold qX7 at hd;split at hd;(cases hd;exact h2);cases hd
 ·exact ho _ _ _ _ _ h
def qX2:Ctx:=mkC 125 ((qF8 (qJB (qX8 qO)))) [] qW
theorem qkl:CtxOK Tryz.prog qX2:=mkC_ok ((qHi _ (qLL _ (qkp _ qP))))
def qX3:V->List Obj->Option (Bool):=fun v objs=>match v,objs with
 | .s (.b y0),[]=>some (y0)
 | _,_=>none
theorem qkk (x0 x1 x2:Int):fnE qX2 Tryz.f90 ([.s (.i .i64 x0),.s (.i .i64 x1),.s (.i .i64 x2)]) ([]) qX3=qJD x0 x1 x2:=by kernel_rfl
def qX1:HA:=fun o vs objs K=>match vs,objs with
 | [.s (.i .i64 x0),.s (.i .i64 x1),.s (.i .i64 x2)],[]=>ob (qJD x0 x1 x2) fun y0=>K false (.s (.b y0)) ([])
 | _,_=>o 90 vs objs K
def qX4 (o:Orc):Orc:=qR 90 (qX1 o) o
theorem qkm:OQ Tryz.prog qX4:=fun _ ho=>qS ho fun vs objs K r h=>by
 unfold qX1 at h
 split at h
 ·skip
  obtain⟨t,h1,h2⟩:=qG h
  refine qa mixed qkl ((qkk _ _ _).trans h1) (by kernel_rfl) fun v objs' hd=>?_
  unfold qX3 at hd;split at hd;(cases hd;exact h2);cases hd
 ·exact ho _ _ _ _ _ h
def qYK:Ctx:=mkC 51 (qO) [] qW
theorem qk1:CtxOK Tryz.prog qYK:=mkC_ok (qP)
def qYL:V->List Obj->Option (Int):=fun v objs=>match v,objs with
 | .s (.i .i64 y0),[]=>some (y0)
 | _,_=>none
theorem qk0 (x0 x1:Int):fnE qYK Tryz.f91 ([.s (.i .i64 x0),.s (.i .i64 x1)]) ([]) qYL=qHl x0 x1:=by kernel_rfl
def qYJ:HA:=fun o vs objs K=>match vs,objs with
 | [.s (.i .i64 x0),.s (.i .i64 x1)],[]=>ob (qHl x0 x1) fun y0=>K false (.s (.i .i64 y0)) ([])
 | _,_=>o 91 vs objs K
def qPa (o:Orc):Orc:=qR 91 (qYJ o) o
theorem qYM:OQ Tryz.prog qPa:=fun _ ho=>qS ho fun vs objs K r h=>by
 unfold qYJ at h
 split at h
 ·skip
  obtain⟨t,h1,h2⟩:=qG h
  refine qa mixed qk1 ((qk0 _ _).trans h1) (by kernel_rfl) fun v objs' hd=>?_
  unfold qYL at hd;split at hd;(cases hd;exact h2);cases hd
 ·exact ho _ _ _ _ _ h
def qYS:Ctx:=mkC 7 (qO) [] qW
theorem qk6:CtxOK Tryz.prog qYS:=mkC_ok (qP)
def qYT:V->List Obj->Option (Int):=fun v objs=>match v,objs with
 | .s (.i .i64 y0),[]=>some (y0)
 | _,_=>none
theorem qk5 (x0:Int):fnE qYS Tryz.f125 ([.s (.i .i64 x0)]) ([]) qYT=qHn x0:=by kernel_rfl
def qYR:HA:=fun o vs objs K=>match vs,objs with
 | [.s (.i .i64 x0)],[]=>ob (qHn x0) fun y0=>K false (.s (.i .i64 y0)) ([])
 | _,_=>o 125 vs objs K
def qYU (o:Orc):Orc:=qR 125 (qYR o) o
theorem qk7:OQ Tryz.prog qYU:=fun _ ho=>qS ho fun vs objs K r h=>by
 unfold qYR at h
 split at h
 ·skip
  obtain⟨t,h1,h2⟩:=qG h
  refine qa mixed qk6 ((qk5 _).trans h1) (by kernel_rfl) fun v objs' hd=>?_
  unfold qYT at hd;split at hd;(cases hd;exact h2);cases hd
 ·exact ho _ _ _ _ _ h
def qPU:Ex->List V->List Obj->Option (Nat×Nat×LI):=fun e vs objs=>match e,vs,objs with
 | .exit 0,[.s (.sl 0 0 y0 true)],[.sli 3 false (.arr .i64 y1 y2)]=>some (y0,y1,y2)
 | _,_,_=>none
def qPW:HL:=fun vs objs K=>match vs,objs with
 | [.s (.i .i64 x0),.s (.sl 0 0 x1 true),.s (.i .i64 x2),.s (.i .i64 x3)],[.sli 3 false (.arr .i64 x4 x5)]=>ob (qFG qC x0 x1 x2 x3 x4 x5) fun z=>K (.exit 0) ([.s (.sl 0 0 (z.1) true)]) ([.sli 3 false (.arr .i64 (z.2.1) (z.2.2))])
 | _,_=>none
def qks:{R:Type}->Nat->List V->List Obj->(Ex->List V->List Obj->Option R)->Option R:=fun q vs objs K=>bif Nat.beq q 6 then qPW vs objs K else none
def qLM:Ctx:=mkC 41 ((qYU (qPa qO))) [(6,[1,5,6,7],[5])] qks
theorem qYA:CtxOK Tryz.prog qLM:=mkC_ok ((qk7 _ (qYM _ qP)))
def qPV (f:Nat) (x0:Int) (x1:Nat) (x2 x3:Int) (x4:Nat) (x5:LI):Option (Nat×Nat×LI):=qh qLM 0 [1,5,6,7] [5] (qI Tryz.f117 6) f ([.s (.i .i64 x0),.s (.sl 0 0 x1 true),.s (.i .i64 x2),.s (.i .i64 x3)]) ([.sli 3 false (.arr .i64 x4 x5)]) qPU
theorem qkr (f:Nat) (x0:Int) (x1:Nat) (x2 x3:Int) (x4:Nat) (x5:LI):qPV (f+1) x0 x1 x2 x3 x4 x5=qHj (qPV f) x0 x1 x2 x3 x4 x5:=by kernel_rfl
theorem qYC:∀ f,qPV f=qFG f
 | 0=>rfl
 | f+1=>by funext x0 x1 x2 x3 x4 x5;rw[qkr,qYC f];rfl
theorem qku:qd Tryz.prog qLM 0 (qI Tryz.f117 6):=
 ql mixed qYA (qT.of (l':=[]) (by kernel_rfl) trivial) (q:=6) (kin:=[1,5,6,7]) (kout:=[5]) (by kernel_rfl) (by kernel_rfl) fun vs objs K r h=>by
  replace h:qPW vs objs K=some r:=h
  unfold qPW at h
  split at h
  ·skip
   obtain⟨t,h1,h2⟩:=qG h
   rw[<- qYC] at h1
   refine⟨_,qPU,t,qC,h1,fun e vs' objs' hd=>?_⟩
   unfold qPU at hd;split at hd;(cases hd;exact h2);cases hd
  ·cases h
def qYB:V->List Obj->Option (Nat×Nat×LI):=fun v objs=>match v,objs with
 | .s (.sl 0 0 y0 true),[.sli 3 false (.arr .i64 y1 y2)]=>some (y0,y1,y2)
 | _,_=>none
theorem qkq (x0 x1:Int):fnE qLM Tryz.f117 ([.s (.i .i64 x0),.s (.i .i64 x1)]) ([]) qYB=qJE x0 x1:=by kernel_rfl
def qX9:HA:=fun o vs objs K=>match vs,objs with
 | [.s (.i .i64 x0),.s (.i .i64 x1)],[]=>ob (qJE x0 x1) fun z=>K false (.s (.sl 0 0 (z.1) true)) ([.sli 3 false (.arr .i64 (z.2.1) (z.2.2))])
 | _,_=>o 117 vs objs K
def qYD (o:Orc):Orc:=qR 117 (qX9 o) o
theorem qkt:OQ Tryz.prog qYD:=fun _ ho=>qS ho fun vs objs K r h=>by
 unfold qX9 at h
 split at h
 ·skip
  obtain⟨t,h1,h2⟩:=qG h
  refine qAY mixed qYA (fn:=Tryz.f117) (b:=(Tryz.f117).body.getD .skip) (by kernel_rfl) (by kernel_rfl) (by kernel_rfl) ((qkq _ _).trans h1) (m:=0) rfl (qT.of (l':=[qI Tryz.f117 6]) (by kernel_rfl) ⟨qku,trivial⟩) fun v objs' hd=>?_
  unfold qYB at hd;split at hd;(cases hd;exact h2);cases hd
 ·exact ho _ _ _ _ _ h
def qPX:Ex->List V->List Obj->Option ((Bool)⊕(Unit)):=fun e vs objs=>match e,vs,objs with
 | .ret,[.s (.b y0)],[]=>some (.inl (y0))
 | .exit 0,[.s .bad],[]=>some (.inr ())
 | _,_,_=>none
def qPZ:HL:=fun vs objs K=>match vs,objs with
 | [.s (.ptr 0 0 none 0),.s (.sl 1 0 x0 true),.s (.i .i64 x1)],[.cells 89 [Seg.barr 81 x2],.sli 3 false (.arr .i64 x3 x4)]=>ob (qFH qC x0 x1 x2 x3 x4) fun t0=>sw t0 (fun y0=>K (.ret) ([.s (.b y0)]) ([])) (fun _=>K (.exit 0) ([.s .bad]) ([]))
 | _,_=>none
def qkx:{R:Type}->Nat->List V->List Obj->(Ex->List V->List Obj->Option R)->Option R:=fun q vs objs K=>bif Nat.beq q 3 then qPZ vs objs K else none
def qLN:Ctx:=mkC 24 ((qYD qO)) [(3,[5,7,8],[6])] qkx
theorem qYF:CtxOK Tryz.prog qLN:=mkC_ok ((qkt _ qP))
def qPY (f:Nat) (x0:Nat) (x1:Int) (x2:List Bool) (x3:Nat) (x4:LI):Option ((Bool)⊕(Unit)):=qh qLN 0 [5,7,8] [6] (qI Tryz.f92 3) f ([.s (.ptr 0 0 none 0),.s (.sl 1 0 x0 true),.s (.i .i64 x1)]) ([.cells 89 [Seg.barr 81 x2],.sli 3 false (.arr .i64 x3 x4)]) qPX
theorem qkw (f:Nat) (x0:Nat) (x1:Int) (x2:List Bool) (x3:Nat) (x4:LI):qPY (f+1) x0 x1 x2 x3 x4=qHk (qPY f) x0 x1 x2 x3 x4:=by kernel_rfl
theorem qYH:∀ f,qPY f=qFH f
 | 0=>rfl
 | f+1=>by funext x0 x1 x2 x3 x4;rw[qkw,qYH f];rfl
theorem qkz:qd Tryz.prog qLN 0 (qI Tryz.f92 3):=
 ql mixed qYF (qT.of (l':=[]) (by kernel_rfl) trivial) (q:=3) (kin:=[5,7,8]) (kout:=[6]) (by kernel_rfl) (by kernel_rfl) fun vs objs K r h=>by
  replace h:qPZ vs objs K=some r:=h
  unfold qPZ at h
  split at h
  ·skip
   obtain⟨t,h1,h2⟩:=qG h
   rw[<- qYH] at h1
   refine⟨_,qPX,t,qC,h1,fun e vs' objs' hd=>?_⟩
   unfold qPX at hd
   split at hd
   ·skip
    cases hd
    exact h2
   ·skip
    cases hd
    exact h2
   ·cases hd
  ·cases h
def qYG:V->List Obj->Option (Bool):=fun v objs=>match v,objs with
 | .s (.b y0),[]=>some (y0)
 | _,_=>none
theorem qkv (x0 x1:Int) (x2:List Bool):fnE qLN Tryz.f92 ([.s (.i .i64 x0),.s (.i .i64 x1),.agg [Seg.barr 81 x2]]) ([]) qYG=qAq x0 x1 x2:=by kernel_rfl
def qYE:HA:=fun o vs objs K=>match vs,objs with
 | [.s (.i .i64 x0),.s (.i .i64 x1),.agg [Seg.barr 81 x2]],[]=>ob (qAq x0 x1 x2) fun y0=>K false (.s (.b y0)) ([])
 | _,_=>o 92 vs objs K
def qYI (o:Orc):Orc:=qR 92 (qYE o) o
theorem qky:OQ Tryz.prog qYI:=fun _ ho=>qS ho fun vs objs K r h=>by
 unfold qYE at h
 split at h
 ·skip
  obtain⟨t,h1,h2⟩:=qG h
  refine qAY mixed qYF (fn:=Tryz.f92) (b:=(Tryz.f92).body.getD .skip) (by kernel_rfl) (by kernel_rfl) (by kernel_rfl) ((qkv _ _ _).trans h1) (m:=0) rfl (qT.of (l':=[qI Tryz.f92 3]) (by kernel_rfl) ⟨qkz,trivial⟩) fun v objs' hd=>?_
  unfold qYG at hd;split at hd;(cases hd;exact h2);cases hd
 ·exact ho _ _ _ _ _ h
def qYO:Ctx:=mkC 63 ((qYI (qF8 (qJB (qPa (qX4 qO)))))) [] qW
theorem qk3:CtxOK Tryz.prog qYO:=mkC_ok ((qky _ (qHi _ (qLL _ (qYM _ (qkm _ qP))))))
def qYP:V->List Obj->Option (Bool):=fun v objs=>match v,objs with
 | .s (.b y0),[]=>some (y0)
 | _,_=>none
theorem qk2 (x0 x1 x2:Int) (x3:List Bool):fnE qYO Tryz.f43 ([.s (.i .i64 x0),.s (.i .i64 x1),.s (.i .i64 x2),.agg [Seg.barr 81 x3]]) ([]) qYP=qHm x0 x1 x2 x3:=by kernel_rfl
def qYN:HA:=fun o vs objs K=>match vs,objs with
 | [.s (.i .i64 x0),.s (.i .i64 x1),.s (.i .i64 x2),.agg [Seg.barr 81 x3]],[]=>ob (qHm x0 x1 x2 x3) fun y0=>K false (.s (.b y0)) ([])
 | _,_=>o 43 vs objs K
def qYQ (o:Orc):Orc:=qR 43 (qYN o) o
theorem qk4:OQ Tryz.prog qYQ:=fun _ ho=>qS ho fun vs objs K r h=>by
 unfold qYN at h
 split at h
 ·skip
  obtain⟨t,h1,h2⟩:=qG h
  refine qa mixed qk3 ((qk2 _ _ _ _).trans h1) (by kernel_rfl) fun v objs' hd=>?_
  unfold qYP at hd;split at hd;(cases hd;exact h2);cases hd
 ·exact ho _ _ _ _ _ h
end
end Go.Kk.KkSR
