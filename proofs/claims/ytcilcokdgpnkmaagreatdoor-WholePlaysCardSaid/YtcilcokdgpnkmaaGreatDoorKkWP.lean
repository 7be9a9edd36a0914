/- Printed by a tool of this project (KkGen): the program's functions come to the plain ones. -/
import Derived.Test.YtcilcokdgpnkmaaGreatDoorProg
import Derived.Test.YtcilcokdgpnkmaaGreatDoorKkB
import Derived.Test.YtcilcokdgpnkmaaGreatDoorKkPl
namespace Go.Kk.KkWP
noncomputable section
open Go.Proofs Go.Kk.Pl
set_option maxRecDepth 100000
set_option maxHeartbeats 4000000
def tab:Tab:=[(1,.sc (.f)),
 (2,.sc (.i .i64)),
 (3,.sc (.i .i64)),
 (4,.sc (.b)),
 (5,.sc (.i .u8)),
 (6,.sc (.i .u8)),
 (7,.st [.one [.i .i64,.i .i64,.b,.i .u8]] [(0,0,2),(0,1,3),(0,2,4),(0,3,6)]),
 (8,.st [.one [.i .i64,.i .i64,.b,.i .u8]] [(0,0,2),(0,1,3),(0,2,4),(0,3,6)]),
 (9,.sc (.str)),
 (10,.sc (.str)),
 (11,.sc (.str)),
 (12,.sc (.i .u64)),
 (13,.st [.one [.str,.i .u64]] [(0,0,9),(0,1,12)]),
 (14,.st [.one [.str,.i .u64]] [(0,0,9),(0,1,12)]),
 (15,.sc (.p)),
 (16,.sc (.p)),
 (17,.sc (.p)),
 (18,.st [.one [.p]] [(0,0,17)]),
 (19,.st [.one [.p]] [(0,0,17)]),
 (21,.sc (.i .i32)),
 (22,.sc (.i .i8)),
 (23,.sc (.i .i8)),
 (24,.ar 81 1 23 (.arr .i8 81)),
 (25,.ar 8 1 22 (.arr .i8 8)),
 (26,.ar 2 8 25 (.arr .i8 16)),
 (27,.st [.arr .i8 81,.arr .i8 16,.one [.i .i8]] [(0,0,24),(1,0,26),(2,0,22)]),
 (28,.st [.arr .i8 81,.arr .i8 16,.one [.i .i8]] [(0,0,24),(1,0,26),(2,0,22)]),
 (29,.sc (.p)),
 (30,.sc (.i .i64)),
 (32,.sc (.f)),
 (33,.sc (.p)),
 (35,.sc (.f)),
 (36,.sc (.f)),
 (37,.sc (.f)),
 (38,.sc (.sl 51)),
 (39,.st [.one [.i .i64,.i .i64,.sl 51,.i .i64,.b]] [(0,0,3),(0,1,3),(0,2,38),(0,3,3),(0,4,4)]),
 (40,.st [.one [.i .i64,.i .i64,.sl 51,.i .i64,.b]] [(0,0,3),(0,1,3),(0,2,38),(0,3,3),(0,4,4)]),
 (41,.sc (.f)),
 (42,.sc (.f)),
 (43,.sc (.f)),
 (44,.sc (.p)),
 (45,.sc (.f)),
 (47,.sc (.f)),
 (49,.sc (.f)),
 (50,.st [.one [.i .i64,.i .i64,.i .i64,.b]] [(0,0,3),(0,1,3),(0,2,3),(0,3,4)]),
 (51,.st [.one [.i .i64,.i .i64,.i .i64,.b]] [(0,0,3),(0,1,3),(0,2,3),(0,3,4)]),
 (52,.sc (.f)),
 (53,.sc (.f)),
 (54,.sc (.p)),
 (55,.st [.one [.p,.p,.i .i64,.i .i64]] [(0,0,33),(0,1,54),(0,2,3),(0,3,3)]),
 (56,.st [.one [.p,.p,.i .i64,.i .i64]] [(0,0,33),(0,1,54),(0,2,3),(0,3,3)]),
 (57,.sc (.sl 127)),
 (58,.st [.one [.sl 127,.i .i64]] [(0,0,57),(0,1,3)]),
 (59,.st [.one [.sl 127,.i .i64]] [(0,0,57),(0,1,3)]),
 (60,.ar 2 1 3 (.arr .i64 2)),
 (61,.sc (.f)),
 (62,.sc (.f)),
 (63,.ar 9 1 3 (.arr .i64 9)),
 (64,.sc (.f)),
 (65,.sc (.f)),
 (66,.sc (.f)),
 (67,.sc (.i .u64)),
 (68,.sc (.i .u64)),
 (69,.sc (.sl 119)),
 (70,.st [.one [.p,.i .u64,.sl 119]] [(0,0,44),(0,1,68),(0,2,69)]),
 (71,.st [.one [.p,.i .u64,.sl 119]] [(0,0,44),(0,1,68),(0,2,69)]),
 (73,.sc (.f)),
 (74,.sc (.f)),
 (75,.st [.one [.i .u64,.i .u64]] [(0,0,67),(0,1,67)]),
 (76,.st [.one [.i .u64,.i .u64]] [(0,0,67),(0,1,67)]),
 (77,.sc (.m 3 76)),
 (78,.st [.one [.p,.i .i64,.i .i64,.i .u64,.i .u64,.m 3 76,.b]] [(0,0,44),(0,1,3),(0,2,3),(0,3,76),(0,5,77),(0,6,4)]),
 (79,.st [.one [.p,.i .i64,.i .i64,.i .u64,.i .u64,.m 3 76,.b]] [(0,0,44),(0,1,3),(0,2,3),(0,3,76),(0,5,77),(0,6,4)]),
 (80,.sc (.f)),
 (81,.sc (.f)),
 (82,.sc (.f)),
 (83,.sc (.f)),
 (84,.ar 32 1 76 (.rows [.i .u64,.i .u64] 32)),
 (85,.ar 2 1 76 (.rows [.i .u64,.i .u64] 2)),
 (86,.st [.arr .i8 81,.arr .i8 16,.one [.i .i8],.rows [.i .u64,.i .u64] 32,.rows [.i .u64,.i .u64] 2] [(0,0,28),(3,0,84),(4,0,85)]),
 (87,.st [.arr .i8 81,.arr .i8 16,.one [.i .i8],.rows [.i .u64,.i .u64] 32,.rows [.i .u64,.i .u64] 2] [(0,0,28),(3,0,84),(4,0,85)]),
 (88,.sc (.f)),
 (89,.sc (.f)),
 (90,.sc (.f)),
 (91,.sc (.f)),
 (92,.st [.one [.i .i64,.i .i64,.i .i64,.i .i64,.i .i64,.i .i64,.b]] [(0,0,3),(0,1,3),(0,2,3),(0,3,51)]),
 (93,.st [.one [.i .i64,.i .i64,.i .i64,.i .i64,.i .i64,.i .i64,.b]] [(0,0,3),(0,1,3),(0,2,3),(0,3,51)]),
 (95,.sc (.f)),
 (96,.sc (.f)),
 (97,.sc (.f)),
 (98,.sc (.f)),
 (99,.sc (.f)),
 (100,.sc (.f)),
 (101,.sc (.f)),
 (102,.sc (.f)),
 (103,.sc (.f)),
 (104,.sc (.sl 3)),
 (105,.sc (.f)),
 (106,.sc (.f)),
 (107,.sc (.f)),
 (108,.sc (.f)),
 (110,.sc (.f)),
 (111,.sc (.f)),
 (112,.sc (.f)),
 (114,.sc (.f)),
 (115,.sc (.f)),
 (116,.sc (.f)),
 (117,.sc (.f)),
 (118,.st [.one [.i .i64,.i .i64,.i .i64,.b,.i .i8,.i .i8]] [(0,0,51),(0,4,23),(0,5,23)]),
 (119,.st [.one [.i .i64,.i .i64,.i .i64,.b,.i .i8,.i .i8]] [(0,0,51),(0,4,23),(0,5,23)]),
 (120,.sc (.f)),
 (121,.sc (.f)),
 (122,.sc (.f)),
 (123,.sc (.f)),
 (124,.sc (.p)),
 (125,.sc (.f)),
 (126,.st [.one [.b],.arr .i8 81,.arr .i8 16,.one [.i .i8],.one [.i .i64,.i .i64,.i .i64,.i .i64,.i .i64,.i .i64,.b]] [(0,0,4),(1,0,28),(4,0,93)]),
 (127,.st [.one [.b],.arr .i8 81,.arr .i8 16,.one [.i .i8],.one [.i .i64,.i .i64,.i .i64,.i .i64,.i .i64,.i .i64,.b]] [(0,0,4),(1,0,28),(4,0,93)]),
 (128,.sc (.f)),
 (129,.sc (.f)),
 (130,.sc (.sl 133)),
 (131,.sc (.f)),
 (132,.st [.one [.i .i64,.i .i64]] [(0,0,3),(0,1,3)]),
 (133,.st [.one [.i .i64,.i .i64]] [(0,0,3),(0,1,3)]),
 (134,.sc (.f)),
 (135,.sc (.f)),
 (136,.sc (.f)),
 (137,.sc (.f)),
 (138,.ar 81 1 4 (.barr 81)),
 (139,.sc (.f)),
 (140,.sc (.f)),
 (141,.sc (.f)),
 (142,.sc (.f)),
 (143,.sc (.f)),
 (144,.sc (.f)),
 (145,.sc (.i .u64)),
 (146,.ar 64 1 5 (.arr .u8 64)),
 (147,.sc (.f)),
 (148,.sc (.f)),
 (149,.sc (.f)),
 (150,.sc (.f)),
 (151,.sc (.f)),
 (152,.sc (.f)),
 (153,.sc (.f)),
 (154,.st [.one [.p,.p,.p,.str]] [(0,0,17),(0,1,17),(0,2,17),(0,3,9)]),
 (155,.st [.one [.p,.p,.p,.str]] [(0,0,17),(0,1,17),(0,2,17),(0,3,9)]),
 (159,.sc (.i .u32)),
 (160,.sc (.i .u8)),
 (161,.sc (.i .u8)),
 (162,.sc (.f)),
 (163,.sc (.p)),
 (164,.sc (.i .i32)),
 (165,.sc (.i .i32)),
 (166,.st [.one [.i .u64,.i .u64,.i .u32,.i .u8,.i .u8,.i .u8,.i .u8,.f,.p,.i .i32,.i .i32]] [(0,0,12),(0,1,12),(0,2,159),(0,3,160),(0,4,5),(0,5,5),(0,6,161),(0,7,162),(0,8,163),(0,9,164),(0,10,165)]),
 (167,.st [.one [.i .u64,.i .u64,.i .u32,.i .u8,.i .u8,.i .u8,.i .u8,.f,.p,.i .i32,.i .i32]] [(0,0,12),(0,1,12),(0,2,159),(0,3,160),(0,4,5),(0,5,5),(0,6,161),(0,7,162),(0,8,163),(0,9,164),(0,10,165)])]
def eqs:List TypeId:=[3,24,25,26,27,28,50,51,60,75,76,132,133]
def bytes:List (TypeId×Nat):=[(51,32),(127,160),(119,40),(3,8),(133,16)]
theorem mixed:Tryz.prog.follows .mixedOrders=true:=by kernel_rfl
theorem tab_ok:∀ t L,Tab.get tab t=some L->LayOK Tryz.prog tab t L:=qeU (P:=Tryz.prog) (tab:=tab) (l:=tab) (by kernel_rfl)
theorem eqs_ok:∀ t L,qEg t eqs=true->Tab.get tab t=some L->∃ f ck,f<=10000 /\ qBE Tryz.prog f t=some ck /\ qBU L.segTs=some ck /\ Tryz.prog.eqGuardType Tryz.prog.depth t=false:=qWD (P:=Tryz.prog) (tab:=tab) (l:=eqs) (by kernel_rfl)
theorem bytes_ok:∀ t n,byN t bytes=some n->∃ i,Tryz.prog.info? t=some i /\ i.bytes=n:=qVE (P:=Tryz.prog) (l:=bytes) (by kernel_rfl)
def mkC (nt:Nat) (orc:Orc) (keeps:List (Nat×List Nat×List Nat)) (lp:{R:Type}->Nat->List V->List Obj->(Ex->List V->List Obj->Option R)->Option R):Ctx:={tab:=tab,eqs:=eqs,bytes:=bytes,nt:=nt,orc:=orc,keeps:=keeps,lp:=lp}
theorem exts_ok:qTZ Tryz.prog:=fun e h=>by cases h
theorem mkC_ok {nt:Nat} {orc:Orc} {keeps:List (Nat×List Nat×List Nat)} {lp:{R:Type}->Nat->List V->List Obj->(Ex->List V->List Obj->Option R)->Option R} (h:qBx Tryz.prog orc):CtxOK Tryz.prog (mkC nt orc keeps lp):=⟨tab_ok,h,eqs_ok,bytes_ok,fun _ _ _=>rfl,exts_ok⟩
def kL0:List CK:=List.replicate 1 (.b)++List.replicate 98 (.i .i8)++List.replicate 6 (.i .i64)++List.replicate 1 (.b)
def table_New_v1c:Ctx:=mkC 14 (qK) [] qW
theorem table_New_v1c_ok:CtxOK Tryz.prog table_New_v1c:=mkC_ok (qM)
def table_New_v1d:V->List Obj->Option ((Unit)⊕(Nat×Nat×LL)):=fun v objs=>match v,objs with
 | .tup [W.s .nilp,W.s (.i .i64 1)],[]=>some (.inl ())
 | .tup [W.s (.ptr 0 0 none 0),W.s (.i .i64 0)],[.cells 59 [.one [.sl 1 0 y0 true,.i .i64 0]],.sli 127 false (.rows kk0 y1 y2)]=>bif decide (kk0=kL0) then some (.inr (y0,y1,y2)) else none
 | _,_=>none
theorem table_New_v1_eq (x0:Int):fnE table_New_v1c Tryz.f5 ([.s (.i .i64 x0)]) ([]) table_New_v1d=qGQ x0:=by kernel_rfl
def table_New_v1a:HA:=fun o vs objs K=>match vs,objs with
 | [.s (.i .i64 x0)],[]=>ob (qGQ x0) fun t0=>sw t0 (fun _=>K false (.tup [W.s .nilp,W.s (.i .i64 1)]) ([])) (fun z=>K false (.tup [W.s (.ptr 0 0 none 0),W.s (.i .i64 0)]) ([.cells 59 [.one [.sl 1 0 (z.1) true,.i .i64 0]],.sli 127 false (.rows kL0 (z.2.1) (z.2.2))]))
 | _,_=>o 5 vs objs K
def table_New_v1o (o:Orc):Orc:=qN 5 (table_New_v1a o) o
theorem table_New_v1o_ok:OQ Tryz.prog table_New_v1o:=fun _ ho=>qO ho fun vs objs K r h=>by
 unfold table_New_v1a at h
 split at h
 ·skip
  obtain⟨t,h1,h2⟩:=qE h
  refine qa mixed table_New_v1c_ok ((table_New_v1_eq _).trans h1) (by kernel_rfl) fun v objs' hd=>?_
  unfold table_New_v1d at hd
  split at hd
  ·skip
   cases hd
   exact h2
  ·skip
   have g:=(qV hd).1
   replace hd:=(qV hd).2
   obtain rfl:=of_decide_eq_true g
   cases hd
   exact h2
  ·cases hd
 ·exact ho _ _ _ _ _ h
def qcS:Ctx:=mkC 17 ((table_New_v1o qK)) [(2097152,[56,0,1],[])] qW
theorem qq0:CtxOK Tryz.prog qcS:=mkC_ok ((table_New_v1o_ok _ qM))
def qcT:V->List Obj->Option ((Unit)⊕(Nat×Nat×LL)):=fun v objs=>match v,objs with
 | .tup [W.s .nilp,W.s (.i .i64 1)],[]=>some (.inl ())
 | .tup [W.s (.ptr 0 0 none 0),W.s (.i .i64 0)],[.cells 56 [.one [.ptr 1 0 none 0,.bad,.i .i64 0,.i .i64 0]],.cells 59 [.one [.sl 2 0 y0 true,.i .i64 0]],.sli 127 false (.rows kk0 y1 y2)]=>bif decide (kk0=kL0) then some (.inr (y0,y1,y2)) else none
 | _,_=>none
theorem qqz (x0:Int):fnE qcS Tryz.f4 ([.s (.i .i64 x0)]) ([]) qcT=qGF x0:=by kernel_rfl
def qcR:HA:=fun o vs objs K=>match vs,objs with
 | [.s (.i .i64 x0)],[]=>ob (qGF x0) fun t0=>sw t0 (fun _=>K false (.tup [W.s .nilp,W.s (.i .i64 1)]) ([])) (fun z=>K false (.tup [W.s (.ptr 0 0 none 0),W.s (.i .i64 0)]) ([.cells 56 [.one [.ptr 1 0 none 0,.bad,.i .i64 0,.i .i64 0]],.cells 59 [.one [.sl 2 0 (z.1) true,.i .i64 0]],.sli 127 false (.rows kL0 (z.2.1) (z.2.2))]))
 | _,_=>o 4 vs objs K
def qcU (o:Orc):Orc:=qN 4 (qcR o) o
theorem qq1:OQ Tryz.prog qcU:=fun _ ho=>qO ho fun vs objs K r h=>by
 unfold qcR at h
 split at h
 ·skip
  obtain⟨t,h1,h2⟩:=qE h
  refine qa mixed qq0 ((qqz _).trans h1) (by kernel_rfl) fun v objs' hd=>?_
  unfold qcT at hd
  split at hd
  ·skip
   cases hd
   exact h2
  ·skip
   have g:=(qV hd).1
   replace hd:=(qV hd).2
   obtain rfl:=of_decide_eq_true g
   cases hd
   exact h2
  ·cases hd
 ·exact ho _ _ _ _ _ h
def qdS:Ctx:=mkC 23 (qK) [] qW
theorem qrr:CtxOK Tryz.prog qdS:=mkC_ok (qM)
def qdT:V->List Obj->Option (Int):=fun v objs=>match v,objs with
 | .s (.i .i64 y0),[]=>some (y0)
 | _,_=>none
theorem qrq (x0 x1:Int):fnE qdS Tryz.f21 ([.s (.i .i64 x0),.s (.i .i64 x1)]) ([]) qdT=qDA x0 x1:=by kernel_rfl
def qdR:HA:=fun o vs objs K=>match vs,objs with
 | [.s (.i .i64 x0),.s (.i .i64 x1)],[]=>ob (qDA x0 x1) fun y0=>K false (.s (.i .i64 y0)) ([])
 | _,_=>o 21 vs objs K
def qKd (o:Orc):Orc:=qN 21 (qdR o) o
theorem qM2:OQ Tryz.prog qKd:=fun _ ho=>qO ho fun vs objs K r h=>by
 unfold qdR at h
 split at h
 ·skip
  obtain⟨t,h1,h2⟩:=qE h
  refine qa mixed qrr ((qrq _ _).trans h1) (by kernel_rfl) fun v objs' hd=>?_
  unfold qdT at hd;split at hd;(cases hd;exact h2);cases hd
 ·exact ho _ _ _ _ _ h
def qUs:Ctx:=mkC 14 ((qKd qK)) [] qW
theorem qhT:CtxOK Tryz.prog qUs:=mkC_ok ((qM2 _ qM))
def qUt:V->List Obj->Option (Int):=fun v objs=>match v,objs with
 | .s (.i .i64 y0),[]=>some (y0)
 | _,_=>none
theorem qhS (x0 x1 x2:Int):fnE qUs Tryz.f20 ([.s (.i .i64 x0),.s (.ptr 0 0 none 0),.s (.ptr 1 0 none 0)]) ([.rcells 3 [.one [.i .i64 x1]],.rcells 3 [.one [.i .i64 x2]]]) (qAf 2 qUt)=qLA x0 x1 x2:=by kernel_rfl
def qUr:HA:=fun o vs objs K=>match vs,List.map Obj.toRO objs with
 | [.s (.i .i64 x0),.s (.ptr 0 0 none 0),.s (.ptr 1 0 none 0)],[.rcells 3 [.one [.i .i64 x1]],.rcells 3 [.one [.i .i64 x2]]]=>ob (qLA x0 x1 x2) fun y0=>K true (.s (.i .i64 y0)) ([])
 | _,_=>o 20 vs objs K
def qUu (o:Orc):Orc:=qN 20 (qUr o) o
theorem qhU:OQ Tryz.prog qUu:=fun _ ho=>qO ho fun vs objs K r h=>by
 unfold qUr at h
 split at h
 ·skip
  have hq:List.map Obj.toRO objs=_:=(by rename_i hq;first | exact hq | assumption)
  obtain⟨t,h1,h2⟩:=qE h
  refine qAr mixed qhT (m:=2) (fn:=Tryz.f20) (b:=(Tryz.f20).body.getD .skip) (by kernel_rfl) (by kernel_rfl) (by kernel_rfl) hq (by kernel_rfl) (by kernel_rfl) (qQ.of (l':=[]) (by kernel_rfl) trivial) ((qhS _ _ _).trans h1) fun v objs' hd=>?_
  unfold qUt at hd;split at hd;(cases hd;exact h2);cases hd
 ·exact ho _ _ _ _ _ h
def qY2:Ctx:=mkC 28 (qK) [] qW
theorem qnK:CtxOK Tryz.prog qY2:=mkC_ok (qM)
def qY3:V->List Obj->Option (Int):=fun v objs=>match v,objs with
 | .s (.i .i8 y0),[]=>some (y0)
 | _,_=>none
theorem qnJ (x0 x1:Int):fnE qY2 Tryz.f22 ([.s (.i .i64 x0),.s (.i .i64 x1)]) ([]) qY3=qAz x0 x1:=by kernel_rfl
def qY1:HA:=fun o vs objs K=>match vs,objs with
 | [.s (.i .i64 x0),.s (.i .i64 x1)],[]=>ob (qAz x0 x1) fun y0=>K false (.s (.i .i8 y0)) ([])
 | _,_=>o 22 vs objs K
def qFv (o:Orc):Orc:=qN 22 (qY1 o) o
theorem qGz:OQ Tryz.prog qFv:=fun _ ho=>qO ho fun vs objs K r h=>by
 unfold qY1 at h
 split at h
 ·skip
  obtain⟨t,h1,h2⟩:=qE h
  refine qa mixed qnK ((qnJ _ _).trans h1) (by kernel_rfl) fun v objs' hd=>?_
  unfold qY3 at hd;split at hd;(cases hd;exact h2);cases hd
 ·exact ho _ _ _ _ _ h
def qOQ:Ex->List V->List Obj->Option (Int×LI×LI×Int×LI×LI×Int×LI):=fun e vs objs=>match e,vs,objs with
 | .exit 2,[.s (.ptr 0 0 none 0),.s (.ptr 1 0 none 0),.s (.ptr 2 0 none 0),.s (.i .i64 y0)],[.cells 28 [.arr .i8 81 y1,.arr .i8 16 y2,.one [.i .i8 y3]],.cells 28 [.arr .i8 81 y4,.arr .i8 16 y5,.one [.i .i8 y6]],.cells 63 [.arr .i64 9 y7]]=>some (y0,y1,y2,y3,y4,y5,y6,y7)
 | _,_,_=>none
def qOO:Ex->List V->List Obj->Option (LI×LI×Int×LI×LI×Int):=fun e vs objs=>match e,vs,objs with
 | .exit 0,[.s (.ptr 0 0 none 0),.s (.ptr 1 0 none 0)],[.cells 28 [.arr .i8 81 y0,.arr .i8 16 y1,.one [.i .i8 y2]],.cells 28 [.arr .i8 81 y3,.arr .i8 16 y4,.one [.i .i8 y5]]]=>some (y0,y1,y2,y3,y4,y5)
 | _,_,_=>none
def qOT:HL:=fun vs objs K=>match vs,objs with
 | [.s (.ptr 0 0 none 0),.s (.ptr 1 0 none 0),.s (.ptr 2 0 none 0),.s (.ptr 3 0 none 0),.s (.i .i64 x0),.s (.i .i64 x1)],[.cells 28 [.arr .i8 81 x2,.arr .i8 16 x3,.one [.i .i8 x4]],.cells 28 [.arr .i8 81 x5,.arr .i8 16 x6,.one [.i .i8 x7]],.cells 63 [.arr .i64 9 x8],.cells 3 [.one [.i .i64 x9]]]=>ob (qLC qB x0 x1 x2 x3 x4 x5 x6 x7 x8 x9) fun z=>K (.exit 2) ([.s (.ptr 0 0 none 0),.s (.ptr 1 0 none 0),.s (.ptr 2 0 none 0),.s (.i .i64 (z.1))]) ([.cells 28 [.arr .i8 81 (z.2.1),.arr .i8 16 (z.2.2.1),.one [.i .i8 (z.2.2.2.1)]],.cells 28 [.arr .i8 81 (z.2.2.2.2.1),.arr .i8 16 (z.2.2.2.2.2.1),.one [.i .i8 (z.2.2.2.2.2.2.1)]],.cells 63 [.arr .i64 9 (z.2.2.2.2.2.2.2)]])
 | _,_=>none
def qOS:HL:=fun vs objs K=>match vs,objs with
 | [.s (.ptr 0 0 none 0),.s (.ptr 1 0 none 0),.s (.ptr 2 0 none 0),.s (.i .i64 x0)],[.cells 28 [.arr .i8 81 x1,.arr .i8 16 x2,.one [.i .i8 x3]],.cells 28 [.arr .i8 81 x4,.arr .i8 16 x5,.one [.i .i8 x6]],.cells 63 [.arr .i64 9 x7]]=>ob (qLB qB x0 x1 x2 x3 x4 x5 x6 x7) fun z=>K (.exit 0) ([.s (.ptr 0 0 none 0),.s (.ptr 1 0 none 0)]) ([.cells 28 [.arr .i8 81 (z.1),.arr .i8 16 (z.2.1),.one [.i .i8 (z.2.2.1)]],.cells 28 [.arr .i8 81 (z.2.2.2.1),.arr .i8 16 (z.2.2.2.2.1),.one [.i .i8 (z.2.2.2.2.2)]]])
 | _,_=>none
def qhY:{R:Type}->Nat->List V->List Obj->(Ex->List V->List Obj->Option R)->Option R:=fun q vs objs K=>bif Nat.beq q 7 then qOT vs objs K else bif Nat.beq q 4 then qOS vs objs K else none
def qHk:Ctx:=mkC 44 ((qKd (qFv (qUu qK)))) [(4,[0,1,2,7],[0,1]),(7,[0,1,2,3,7,10],[0,1,2,7])] qhY
theorem qON:CtxOK Tryz.prog qHk:=mkC_ok ((qM2 _ (qGz _ (qhU _ qM))))
def qOR (f:Nat) (x0 x1:Int) (x2 x3:LI) (x4:Int) (x5 x6:LI) (x7:Int) (x8:LI) (x9:Int):Option (Int×LI×LI×Int×LI×LI×Int×LI):=qh qHk 0 [0,1,2,3,7,10] [0,1,2,7] (qG Tryz.f7 7) f ([.s (.ptr 0 0 none 0),.s (.ptr 1 0 none 0),.s (.ptr 2 0 none 0),.s (.ptr 3 0 none 0),.s (.i .i64 x0),.s (.i .i64 x1)]) ([.cells 28 [.arr .i8 81 x2,.arr .i8 16 x3,.one [.i .i8 x4]],.cells 28 [.arr .i8 81 x5,.arr .i8 16 x6,.one [.i .i8 x7]],.cells 63 [.arr .i64 9 x8],.cells 3 [.one [.i .i64 x9]]]) qOQ
theorem qhX (f:Nat) (x0 x1:Int) (x2 x3:LI) (x4:Int) (x5 x6:LI) (x7:Int) (x8:LI) (x9:Int):qOR (f+1) x0 x1 x2 x3 x4 x5 x6 x7 x8 x9=qU0 (qOR f) x0 x1 x2 x3 x4 x5 x6 x7 x8 x9:=by kernel_rfl
theorem qUz:∀ f,qOR f=qLC f
 | 0=>rfl
 | f+1=>by funext x0 x1 x2 x3 x4 x5 x6 x7 x8 x9;rw[qhX,qUz f];rfl
def qOP (f:Nat) (x0:Int) (x1 x2:LI) (x3:Int) (x4 x5:LI) (x6:Int) (x7:LI):Option (LI×LI×Int×LI×LI×Int):=qh qHk 0 [0,1,2,7] [0,1] (qG Tryz.f7 4) f ([.s (.ptr 0 0 none 0),.s (.ptr 1 0 none 0),.s (.ptr 2 0 none 0),.s (.i .i64 x0)]) ([.cells 28 [.arr .i8 81 x1,.arr .i8 16 x2,.one [.i .i8 x3]],.cells 28 [.arr .i8 81 x4,.arr .i8 16 x5,.one [.i .i8 x6]],.cells 63 [.arr .i64 9 x7]]) qOO
theorem qhW (f:Nat) (x0:Int) (x1 x2:LI) (x3:Int) (x4 x5:LI) (x6:Int) (x7:LI):qOP (f+1) x0 x1 x2 x3 x4 x5 x6 x7=qUy (qOP f) x0 x1 x2 x3 x4 x5 x6 x7:=by kernel_rfl
theorem qUx:∀ f,qOP f=qLB f
 | 0=>rfl
 | f+1=>by funext x0 x1 x2 x3 x4 x5 x6 x7;rw[qhW,qUx f];rfl
theorem qhb:qg Tryz.prog qHk 0 (qG Tryz.f7 7):=
 qi mixed qON (qQ.of (l':=[]) (by kernel_rfl) trivial) (q:=7) (kin:=[0,1,2,3,7,10]) (kout:=[0,1,2,7]) (by kernel_rfl) (by kernel_rfl) fun vs objs K r h=>by
  replace h:qOT vs objs K=some r:=h
  unfold qOT at h
  split at h
  ·skip
   obtain⟨t,h1,h2⟩:=qE h
   rw[<- qUz] at h1
   refine⟨_,qOQ,t,qB,h1,fun e vs' objs' hd=>?_⟩
   unfold qOQ at hd;split at hd;(cases hd;exact h2);cases hd
  ·cases h
theorem qha:qg Tryz.prog qHk 0 (qG Tryz.f7 4):=
 qi mixed qON (qQ.of (l':=[qG Tryz.f7 7]) (by kernel_rfl) ⟨qhb,trivial⟩) (q:=4) (kin:=[0,1,2,7]) (kout:=[0,1]) (by kernel_rfl) (by kernel_rfl) fun vs objs K r h=>by
  replace h:qOS vs objs K=some r:=h
  unfold qOS at h
  split at h
  ·skip
   obtain⟨t,h1,h2⟩:=qE h
   rw[<- qUx] at h1
   refine⟨_,qOO,t,qB,h1,fun e vs' objs' hd=>?_⟩
   unfold qOO at hd;split at hd;(cases hd;exact h2);cases hd
  ·cases h
def qUw:V->List Obj->Option (LI×LI×Int):=fun v objs=>match v,objs with
 | .agg [.arr .i8 81 y0,.arr .i8 16 y1,.one [.i .i8 y2]],[]=>some (y0,y1,y2)
 | _,_=>none
theorem qhV:fnE qHk Tryz.f7 ([]) ([]) qUw=qJW  := by kernel_rfl
def qUv:HA:=fun o vs objs K=>match vs,objs with
 | [],[]=>ob (qJW ) fun z=>K false (.agg [.arr .i8 81 (z.1),.arr .i8 16 (z.2.1),.one [.i .i8 (z.2.2)]]) ([])
 | _,_=>o 7 vs objs K
def qU1 (o:Orc):Orc:=qN 7 (qUv o) o
theorem qhZ:OQ Tryz.prog qU1:=fun _ ho=>qO ho fun vs objs K r h=>by
 unfold qUv at h
 split at h
 ·skip
  obtain⟨t,h1,h2⟩:=qE h
  refine qAR mixed qON (fn:=Tryz.f7) (b:=(Tryz.f7).body.getD .skip) (by kernel_rfl) (by kernel_rfl) (by kernel_rfl) ((qhV).trans h1) (m:=0) rfl (qQ.of (l':=[qG Tryz.f7 4]) (by kernel_rfl) ⟨qha,trivial⟩) fun v objs' hd=>?_
  unfold qUw at hd;split at hd;(cases hd;exact h2);cases hd
 ·exact ho _ _ _ _ _ h
def qYz:Ctx:=mkC 28 (qK) [] qW
theorem qnI:CtxOK Tryz.prog qYz:=mkC_ok (qM)
def qY0:V->List Obj->Option (Int):=fun v objs=>match v,objs with
 | .s (.i .i64 y0),[]=>some (y0)
 | _,_=>none
theorem qnH (x0:Int):fnE qYz Tryz.f16 ([.s (.i .i8 x0)]) ([]) qY0=qAB x0:=by kernel_rfl
def qYy:HA:=fun o vs objs K=>match vs,objs with
 | [.s (.i .i8 x0)],[]=>ob (qAB x0) fun y0=>K false (.s (.i .i64 y0)) ([])
 | _,_=>o 16 vs objs K
def qCj (o:Orc):Orc:=qN 16 (qYy o) o
theorem qC4:OQ Tryz.prog qCj:=fun _ ho=>qO ho fun vs objs K r h=>by
 unfold qYy at h
 split at h
 ·skip
  obtain⟨t,h1,h2⟩:=qE h
  refine qa mixed qnI ((qnH _).trans h1) (by kernel_rfl) fun v objs' hd=>?_
  unfold qY0 at hd;split at hd;(cases hd;exact h2);cases hd
 ·exact ho _ _ _ _ _ h
def qY8:Ctx:=mkC 10 ((qCj qK)) [] qW
theorem qnO:CtxOK Tryz.prog qY8:=mkC_ok ((qC4 _ qM))
def qY9:V->List Obj->Option (Int):=fun v objs=>match v,objs with
 | .s (.i .i64 y0),[]=>some (y0)
 | _,_=>none
theorem qnN (x0:Int):fnE qY8 Tryz.f15 ([.s (.i .i8 x0)]) ([]) qY9=qAe x0:=by kernel_rfl
def qY7:HA:=fun o vs objs K=>match vs,objs with
 | [.s (.i .i8 x0)],[]=>ob (qAe x0) fun y0=>K false (.s (.i .i64 y0)) ([])
 | _,_=>o 15 vs objs K
def qEi (o:Orc):Orc:=qN 15 (qY7 o) o
theorem qFw:OQ Tryz.prog qEi:=fun _ ho=>qO ho fun vs objs K r h=>by
 unfold qY7 at h
 split at h
 ·skip
  obtain⟨t,h1,h2⟩:=qE h
  refine qa mixed qnO ((qnN _).trans h1) (by kernel_rfl) fun v objs' hd=>?_
  unfold qY9 at hd;split at hd;(cases hd;exact h2);cases hd
 ·exact ho _ _ _ _ _ h
def qfB:Ctx:=mkC 27 (qK) [] qW
theorem qt0:CtxOK Tryz.prog qfB:=mkC_ok (qM)
def qfC:V->List Obj->Option (Int):=fun v objs=>match v,objs with
 | .s (.i .i64 y0),[]=>some (y0)
 | _,_=>none
theorem qtz (x0:Int):fnE qfB Tryz.f17 ([.s (.i .i64 x0)]) ([]) qfC=qDc x0:=by kernel_rfl
def qfA:HA:=fun o vs objs K=>match vs,objs with
 | [.s (.i .i64 x0)],[]=>ob (qDc x0) fun y0=>K false (.s (.i .i64 y0)) ([])
 | _,_=>o 17 vs objs K
def qTP (o:Orc):Orc:=qN 17 (qfA o) o
theorem qfD:OQ Tryz.prog qTP:=fun _ ho=>qO ho fun vs objs K r h=>by
 unfold qfA at h
 split at h
 ·skip
  obtain⟨t,h1,h2⟩:=qE h
  refine qa mixed qt0 ((qtz _).trans h1) (by kernel_rfl) fun v objs' hd=>?_
  unfold qfC at hd;split at hd;(cases hd;exact h2);cases hd
 ·exact ho _ _ _ _ _ h
def qcv:Ctx:=mkC 5 (qK) [] qW
theorem qrT:CtxOK Tryz.prog qcv:=mkC_ok (qM)
def qcw:V->List Obj->Option (Int):=fun v objs=>match v,objs with
 | .s (.i .i64 y0),[]=>some (y0)
 | _,_=>none
theorem qrS (x0:Int):fnE qcv Tryz.f39 ([.s (.i .i64 x0)]) ([]) qcw=qHF x0:=by kernel_rfl
def qcu:HA:=fun o vs objs K=>match vs,objs with
 | [.s (.i .i64 x0)],[]=>ob (qHF x0) fun y0=>K false (.s (.i .i64 y0)) ([])
 | _,_=>o 39 vs objs K
def qMv (o:Orc):Orc:=qN 39 (qcu o) o
theorem qSJ:OQ Tryz.prog qMv:=fun _ ho=>qO ho fun vs objs K r h=>by
 unfold qcu at h
 split at h
 ·skip
  obtain⟨t,h1,h2⟩:=qE h
  refine qa mixed qrT ((qrS _).trans h1) (by kernel_rfl) fun v objs' hd=>?_
  unfold qcw at hd;split at hd;(cases hd;exact h2);cases hd
 ·exact ho _ _ _ _ _ h
def qfF:Ctx:=mkC 8 (qK) [] qW
theorem qt2:CtxOK Tryz.prog qfF:=mkC_ok (qM)
def qfG:V->List Obj->Option (Int):=fun v objs=>match v,objs with
 | .s (.i .i64 y0),[]=>some (y0)
 | _,_=>none
theorem qt1 (x0:Int):fnE qfF Tryz.f38 ([.s (.i .i64 x0)]) ([]) qfG=qNS x0:=by kernel_rfl
def qfE:HA:=fun o vs objs K=>match vs,objs with
 | [.s (.i .i64 x0)],[]=>ob (qNS x0) fun y0=>K false (.s (.i .i64 y0)) ([])
 | _,_=>o 38 vs objs K
def qfH (o:Orc):Orc:=qN 38 (qfE o) o
theorem qt3:OQ Tryz.prog qfH:=fun _ ho=>qO ho fun vs objs K r h=>by
 unfold qfE at h
 split at h
 ·skip
  obtain⟨t,h1,h2⟩:=qE h
  refine qa mixed qt2 ((qt1 _).trans h1) (by kernel_rfl) fun v objs' hd=>?_
  unfold qfG at hd;split at hd;(cases hd;exact h2);cases hd
 ·exact ho _ _ _ _ _ h
def qdP:Ctx:=mkC 5 (qK) [] qW
theorem qrp:CtxOK Tryz.prog qdP:=mkC_ok (qM)
def qdQ:V->List Obj->Option (Int):=fun v objs=>match v,objs with
 | .s (.i .i64 y0),[]=>some (y0)
 | _,_=>none
theorem qro (x0:Int):fnE qdP Tryz.f40 ([.s (.i .i64 x0)]) ([]) qdQ=qGK x0:=by kernel_rfl
def qdO:HA:=fun o vs objs K=>match vs,objs with
 | [.s (.i .i64 x0)],[]=>ob (qGK x0) fun y0=>K false (.s (.i .i64 y0)) ([])
 | _,_=>o 40 vs objs K
def qM1 (o:Orc):Orc:=qN 40 (qdO o) o
theorem qST:OQ Tryz.prog qM1:=fun _ ho=>qO ho fun vs objs K r h=>by
 unfold qdO at h
 split at h
 ·skip
  obtain⟨t,h1,h2⟩:=qE h
  refine qa mixed qrp ((qro _).trans h1) (by kernel_rfl) fun v objs' hd=>?_
  unfold qdQ at hd;split at hd;(cases hd;exact h2);cases hd
 ·exact ho _ _ _ _ _ h
def qfJ:Ctx:=mkC 20 ((qM1 (qfH (qMv qK)))) [] qW
theorem qt5:CtxOK Tryz.prog qfJ:=mkC_ok ((qST _ (qt3 _ (qSJ _ qM))))
def qfK:V->List Obj->Option (Int):=fun v objs=>match v,objs with
 | .s (.i .i64 y0),[]=>some (y0)
 | _,_=>none
theorem qt4 (x0:Int):fnE qfJ Tryz.f18 ([.s (.i .i64 x0)]) ([]) qfK=qEL x0:=by kernel_rfl
def qfI:HA:=fun o vs objs K=>match vs,objs with
 | [.s (.i .i64 x0)],[]=>ob (qEL x0) fun y0=>K false (.s (.i .i64 y0)) ([])
 | _,_=>o 18 vs objs K
def qfL (o:Orc):Orc:=qN 18 (qfI o) o
theorem qt6:OQ Tryz.prog qfL:=fun _ ho=>qO ho fun vs objs K r h=>by
 unfold qfI at h
 split at h
 ·skip
  obtain⟨t,h1,h2⟩:=qE h
  refine qa mixed qt5 ((qt4 _).trans h1) (by kernel_rfl) fun v objs' hd=>?_
  unfold qfK at hd;split at hd;(cases hd;exact h2);cases hd
 ·exact ho _ _ _ _ _ h
def qe1:Ctx:=mkC 15 ((qTP qK)) [] qW
theorem qtp:CtxOK Tryz.prog qe1:=mkC_ok ((qfD _ qM))
def qe2:V->List Obj->Option (Int):=fun v objs=>match v,objs with
 | .s (.i .i64 y0),[]=>some (y0)
 | _,_=>none
theorem qto (x0:Int):fnE qe1 Tryz.f19 ([.s (.i .i64 x0)]) ([]) qe2=qHT x0:=by kernel_rfl
def qe0:HA:=fun o vs objs K=>match vs,objs with
 | [.s (.i .i64 x0)],[]=>ob (qHT x0) fun y0=>K false (.s (.i .i64 y0)) ([])
 | _,_=>o 19 vs objs K
def qe3 (o:Orc):Orc:=qN 19 (qe0 o) o
theorem qtq:OQ Tryz.prog qe3:=fun _ ho=>qO ho fun vs objs K r h=>by
 unfold qe0 at h
 split at h
 ·skip
  obtain⟨t,h1,h2⟩:=qE h
  refine qa mixed qtp ((qto _).trans h1) (by kernel_rfl) fun v objs' hd=>?_
  unfold qe2 at hd;split at hd;(cases hd;exact h2);cases hd
 ·exact ho _ _ _ _ _ h
def qTJ:Ex->List V->List Obj->Option (LI×LI×Int×LI):=fun e vs objs=>match e,vs,objs with
 | .exit 0,[.s (.ptr 0 0 none 0),.s (.ptr 1 0 none 0)],[.cells 28 [.arr .i8 81 y0,.arr .i8 16 y1,.one [.i .i8 y2]],.cells 60 [.arr .i64 2 y3]]=>some (y0,y1,y2,y3)
 | _,_,_=>none
def qTH:Ex->List V->List Obj->Option (LI×Int×LI×LI×Int×LI):=fun e vs objs=>match e,vs,objs with
 | .exit 4,[.s (.ptr 0 0 none 0),.s (.ptr 1 0 none 0),.agg [.arr .i8 16 y0],.s (.i .i64 y1)],[.cells 28 [.arr .i8 81 y2,.arr .i8 16 y3,.one [.i .i8 y4]],.cells 60 [.arr .i64 2 y5]]=>some (y0,y1,y2,y3,y4,y5)
 | _,_,_=>none
def qTF:Ex->List V->List Obj->Option (LI×LI×Int×LI):=fun e vs objs=>match e,vs,objs with
 | .exit 2,[.s (.ptr 0 0 none 0),.s (.ptr 1 0 none 0)],[.cells 28 [.arr .i8 81 y0,.arr .i8 16 y1,.one [.i .i8 y2]],.cells 60 [.arr .i64 2 y3]]=>some (y0,y1,y2,y3)
 | _,_,_=>none
def qTO:HL:=fun vs objs K=>match vs,objs with
 | [.s (.ptr 0 0 none 0),.s (.ptr 1 0 none 0),.agg [.arr .i8 81 x0],.s (.i .i64 x1)],[.cells 28 [.arr .i8 81 x2,.arr .i8 16 x3,.one [.i .i8 x4]],.cells 60 [.arr .i64 2 x5]]=>ob (qAh qB x0 x1 x2 x3 x4 x5) fun z=>K (.exit 0) ([.s (.ptr 0 0 none 0),.s (.ptr 1 0 none 0)]) ([.cells 28 [.arr .i8 81 (z.1),.arr .i8 16 (z.2.1),.one [.i .i8 (z.2.2.1)]],.cells 60 [.arr .i64 2 (z.2.2.2)]])
 | _,_=>none
def qTN:HL:=fun vs objs K=>match vs,objs with
 | [.s (.ptr 0 0 none 0),.s (.ptr 1 0 none 0),.s (.i .i64 x0),.agg [.arr .i8 16 x1],.s (.i .i64 x2),.agg [.arr .i8 8 x3],.s (.i .i64 x4)],[.cells 28 [.arr .i8 81 x5,.arr .i8 16 x6,.one [.i .i8 x7]],.cells 60 [.arr .i64 2 x8]]=>ob (qBA qB x0 x1 x2 x3 x4 x5 x6 x7 x8) fun z=>K (.exit 4) ([.s (.ptr 0 0 none 0),.s (.ptr 1 0 none 0),.agg [.arr .i8 16 (z.1)],.s (.i .i64 (z.2.1))]) ([.cells 28 [.arr .i8 81 (z.2.2.1),.arr .i8 16 (z.2.2.2.1),.one [.i .i8 (z.2.2.2.2.1)]],.cells 60 [.arr .i64 2 (z.2.2.2.2.2)]])
 | _,_=>none
def qTM:HL:=fun vs objs K=>match vs,objs with
 | [.s (.ptr 0 0 none 0),.s (.ptr 1 0 none 0),.agg [.arr .i8 16 x0],.s (.i .i64 x1)],[.cells 28 [.arr .i8 81 x2,.arr .i8 16 x3,.one [.i .i8 x4]],.cells 60 [.arr .i64 2 x5]]=>ob (qDC qB x0 x1 x2 x3 x4 x5) fun z=>K (.exit 2) ([.s (.ptr 0 0 none 0),.s (.ptr 1 0 none 0)]) ([.cells 28 [.arr .i8 81 (z.1),.arr .i8 16 (z.2.1),.one [.i .i8 (z.2.2.1)]],.cells 60 [.arr .i64 2 (z.2.2.2)]])
 | _,_=>none
def qtv:{R:Type}->Nat->List V->List Obj->(Ex->List V->List Obj->Option R)->Option R:=fun q vs objs K=>bif Nat.beq q 3 then qTO vs objs K else bif Nat.beq q 13 then qTN vs objs K else bif Nat.beq q 10 then qTM vs objs K else none
def qGS:Ctx:=mkC 74 ((qe3 (qfL (qTP (qCj (qEi qK)))))) [(3,[1,3,12,13],[1,3]),(10,[1,3,39,40],[1,3]),(13,[1,3,7,39,40,44,45],[1,3,39,40])] qtv
theorem qNR:CtxOK Tryz.prog qGS:=mkC_ok ((qtq _ (qt6 _ (qfD _ (qC4 _ (qFw _ qM))))))
def qTK (f:Nat) (x0:LI) (x1:Int) (x2 x3:LI) (x4:Int) (x5:LI):Option (LI×LI×Int×LI):=qh qGS 0 [1,3,12,13] [1,3] (qG Tryz.f6 3) f ([.s (.ptr 0 0 none 0),.s (.ptr 1 0 none 0),.agg [.arr .i8 81 x0],.s (.i .i64 x1)]) ([.cells 28 [.arr .i8 81 x2,.arr .i8 16 x3,.one [.i .i8 x4]],.cells 60 [.arr .i64 2 x5]]) qTJ
theorem qtu (f:Nat) (x0:LI) (x1:Int) (x2 x3:LI) (x4:Int) (x5:LI):qTK (f+1) x0 x1 x2 x3 x4 x5=qJH (qTK f) x0 x1 x2 x3 x4 x5:=by kernel_rfl
theorem qe8:∀ f,qTK f=qAh f
 | 0=>rfl
 | f+1=>by funext x0 x1 x2 x3 x4 x5;rw[qtu,qe8 f];rfl
def qTI (f:Nat) (x0:Int) (x1:LI) (x2:Int) (x3:LI) (x4:Int) (x5 x6:LI) (x7:Int) (x8:LI):Option (LI×Int×LI×LI×Int×LI):=qh qGS 0 [1,3,7,39,40,44,45] [1,3,39,40] (qG Tryz.f6 13) f ([.s (.ptr 0 0 none 0),.s (.ptr 1 0 none 0),.s (.i .i64 x0),.agg [.arr .i8 16 x1],.s (.i .i64 x2),.agg [.arr .i8 8 x3],.s (.i .i64 x4)]) ([.cells 28 [.arr .i8 81 x5,.arr .i8 16 x6,.one [.i .i8 x7]],.cells 60 [.arr .i64 2 x8]]) qTH
theorem qtt (f:Nat) (x0:Int) (x1:LI) (x2:Int) (x3:LI) (x4:Int) (x5 x6:LI) (x7:Int) (x8:LI):qTI (f+1) x0 x1 x2 x3 x4 x5 x6 x7 x8=qJG (qTI f) x0 x1 x2 x3 x4 x5 x6 x7 x8:=by kernel_rfl
theorem qe7:∀ f,qTI f=qBA f
 | 0=>rfl
 | f+1=>by funext x0 x1 x2 x3 x4 x5 x6 x7 x8;rw[qtt,qe7 f];rfl
def qTG (f:Nat) (x0:LI) (x1:Int) (x2 x3:LI) (x4:Int) (x5:LI):Option (LI×LI×Int×LI):=qh qGS 0 [1,3,39,40] [1,3] (qG Tryz.f6 10) f ([.s (.ptr 0 0 none 0),.s (.ptr 1 0 none 0),.agg [.arr .i8 16 x0],.s (.i .i64 x1)]) ([.cells 28 [.arr .i8 81 x2,.arr .i8 16 x3,.one [.i .i8 x4]],.cells 60 [.arr .i64 2 x5]]) qTF
theorem qts (f:Nat) (x0:LI) (x1:Int) (x2 x3:LI) (x4:Int) (x5:LI):qTG (f+1) x0 x1 x2 x3 x4 x5=qGT (qTG f) x0 x1 x2 x3 x4 x5:=by kernel_rfl
theorem qe6:∀ f,qTG f=qDC f
 | 0=>rfl
 | f+1=>by funext x0 x1 x2 x3 x4 x5;rw[qts,qe6 f];rfl
theorem qty:qg Tryz.prog qGS 0 (qG Tryz.f6 3):=
 qi mixed qNR (qQ.of (l':=[]) (by kernel_rfl) trivial) (q:=3) (kin:=[1,3,12,13]) (kout:=[1,3]) (by kernel_rfl) (by kernel_rfl) fun vs objs K r h=>by
  replace h:qTO vs objs K=some r:=h
  unfold qTO at h
  split at h
  ·skip
   obtain⟨t,h1,h2⟩:=qE h
   rw[<- qe8] at h1
   refine⟨_,qTJ,t,qB,h1,fun e vs' objs' hd=>?_⟩
   unfold qTJ at hd;split at hd;(cases hd;exact h2);cases hd
  ·cases h
theorem qtx:qg Tryz.prog qGS 0 (qG Tryz.f6 13):=
 qi mixed qNR (qQ.of (l':=[]) (by kernel_rfl) trivial) (q:=13) (kin:=[1,3,7,39,40,44,45]) (kout:=[1,3,39,40]) (by kernel_rfl) (by kernel_rfl) fun vs objs K r h=>by
  replace h:qTN vs objs K=some r:=h
  unfold qTN at h
  split at h
  ·skip
   obtain⟨t,h1,h2⟩:=qE h
   rw[<- qe7] at h1
   refine⟨_,qTH,t,qB,h1,fun e vs' objs' hd=>?_⟩
   unfold qTH at hd;split at hd;(cases hd;exact h2);cases hd
  ·cases h
theorem qtw:qg Tryz.prog qGS 0 (qG Tryz.f6 10):=
 qi mixed qNR (qQ.of (l':=[qG Tryz.f6 13]) (by kernel_rfl) ⟨qtx,trivial⟩) (q:=10) (kin:=[1,3,39,40]) (kout:=[1,3]) (by kernel_rfl) (by kernel_rfl) fun vs objs K r h=>by
  replace h:qTM vs objs K=some r:=h
  unfold qTM at h
  split at h
  ·skip
   obtain⟨t,h1,h2⟩:=qE h
   rw[<- qe6] at h1
   refine⟨_,qTF,t,qB,h1,fun e vs' objs' hd=>?_⟩
   unfold qTF at hd;split at hd;(cases hd;exact h2);cases hd
  ·cases h
def qe5:V->List Obj->Option (Int):=fun v objs=>match v,objs with
 | .s (.i .i64 y0),[]=>some (y0)
 | _,_=>none
theorem qtr (x0 x1:LI) (x2:Int):fnE qGS Tryz.f6 ([.agg [.arr .i8 81 x0,.arr .i8 16 x1,.one [.i .i8 x2]]]) ([]) qe5=qDb x0 x1 x2:=by kernel_rfl
def qe4:HA:=fun o vs objs K=>match vs,objs with
 | [.agg [.arr .i8 81 x0,.arr .i8 16 x1,.one [.i .i8 x2]]],[]=>ob (qDb x0 x1 x2) fun y0=>K false (.s (.i .i64 y0)) ([])
 | _,_=>o 6 vs objs K
def qTL (o:Orc):Orc:=qN 6 (qe4 o) o
theorem qe9:OQ Tryz.prog qTL:=fun _ ho=>qO ho fun vs objs K r h=>by
 unfold qe4 at h
 split at h
 ·skip
  obtain⟨t,h1,h2⟩:=qE h
  refine qAR mixed qNR (fn:=Tryz.f6) (b:=(Tryz.f6).body.getD .skip) (by kernel_rfl) (by kernel_rfl) (by kernel_rfl) ((qtr _ _ _).trans h1) (m:=0) rfl (qQ.of (l':=[qG Tryz.f6 3,qG Tryz.f6 10]) (by kernel_rfl) ⟨qty,qtw,trivial⟩) fun v objs' hd=>?_
  unfold qe5 at hd;split at hd;(cases hd;exact h2);cases hd
 ·exact ho _ _ _ _ _ h
def qdf:Ctx:=mkC 21 (qK) [] qW
theorem qr4:CtxOK Tryz.prog qdf:=mkC_ok (qM)
def qdg:V->List Obj->Option (Int×Int):=fun v objs=>match v,objs with
 | .agg [.one [.i .u64 y0,.i .u64 y1]],[]=>some (y0,y1)
 | _,_=>none
theorem qr3 (x0:Int):fnE qdf Tryz.f98 ([.s (.i .i64 x0)]) ([]) qdg=qEE x0:=by kernel_rfl
def qde:HA:=fun o vs objs K=>match vs,objs with
 | [.s (.i .i64 x0)],[]=>ob (qEE x0) fun z=>K false (.agg [.one [.i .u64 (z.1),.i .u64 (z.2)]]) ([])
 | _,_=>o 98 vs objs K
def qM7 (o:Orc):Orc:=qN 98 (qde o) o
theorem qSb:OQ Tryz.prog qM7:=fun _ ho=>qO ho fun vs objs K r h=>by
 unfold qde at h
 split at h
 ·skip
  obtain⟨t,h1,h2⟩:=qE h
  refine qa mixed qr4 ((qr3 _).trans h1) (by kernel_rfl) fun v objs' hd=>?_
  unfold qdg at hd;split at hd;(cases hd;exact h2);cases hd
 ·exact ho _ _ _ _ _ h
def qdA:Ctx:=mkC 16 (qK) [] qW
theorem qrd:CtxOK Tryz.prog qdA:=mkC_ok (qM)
def qdB:V->List Obj->Option (Int×Int):=fun v objs=>match v,objs with
 | .agg [.one [.i .u64 y0,.i .u64 y1]],[]=>some (y0,y1)
 | _,_=>none
theorem qrc (x0 x1:Int) (x2 x3:Int):fnE qdA Tryz.f64 ([.agg [.one [.i .u64 x0,.i .u64 x1]],.agg [.one [.i .u64 x2,.i .u64 x3]]]) ([]) qdB=qE4 x0 x1 x2 x3:=by kernel_rfl
def qc9:HA:=fun o vs objs K=>match vs,objs with
 | [.agg [.one [.i .u64 x0,.i .u64 x1]],.agg [.one [.i .u64 x2,.i .u64 x3]]],[]=>ob (qE4 x0 x1 x2 x3) fun z=>K false (.agg [.one [.i .u64 (z.1),.i .u64 (z.2)]]) ([])
 | _,_=>o 64 vs objs K
def qMz (o:Orc):Orc:=qN 64 (qc9 o) o
theorem qSP:OQ Tryz.prog qMz:=fun _ ho=>qO ho fun vs objs K r h=>by
 unfold qc9 at h
 split at h
 ·skip
  obtain⟨t,h1,h2⟩:=qE h
  refine qa mixed qrd ((qrc _ _ _ _).trans h1) (by kernel_rfl) fun v objs' hd=>?_
  unfold qdB at hd;split at hd;(cases hd;exact h2);cases hd
 ·exact ho _ _ _ _ _ h
def qdc:Ctx:=mkC 9 ((qMz (qM7 qK))) [] qW
theorem qr1:CtxOK Tryz.prog qdc:=mkC_ok ((qSP _ (qSb _ qM)))
def qdd:V->List Obj->Option (Int×Int):=fun v objs=>match v,objs with
 | .agg [.one [.i .u64 y0,.i .u64 y1]],[]=>some (y0,y1)
 | _,_=>none
theorem qr0 (x0 x1 x2:Int):fnE qdc Tryz.f68 ([.agg [.one [.i .u64 x0,.i .u64 x1]],.s (.i .i64 x2)]) ([]) qdd=qDY x0 x1 x2:=by kernel_rfl
def qdb:HA:=fun o vs objs K=>match vs,objs with
 | [.agg [.one [.i .u64 x0,.i .u64 x1]],.s (.i .i64 x2)],[]=>ob (qDY x0 x1 x2) fun z=>K false (.agg [.one [.i .u64 (z.1),.i .u64 (z.2)]]) ([])
 | _,_=>o 68 vs objs K
def qKf (o:Orc):Orc:=qN 68 (qdb o) o
theorem qM6:OQ Tryz.prog qKf:=fun _ ho=>qO ho fun vs objs K r h=>by
 unfold qdb at h
 split at h
 ·skip
  obtain⟨t,h1,h2⟩:=qE h
  refine qa mixed qr1 ((qr0 _ _ _).trans h1) (by kernel_rfl) fun v objs' hd=>?_
  unfold qdd at hd;split at hd;(cases hd;exact h2);cases hd
 ·exact ho _ _ _ _ _ h
def qdM:Ctx:=mkC 16 (qK) [] qW
theorem qrn:CtxOK Tryz.prog qdM:=mkC_ok (qM)
def qdN:V->List Obj->Option (Int×Int):=fun v objs=>match v,objs with
 | .agg [.one [.i .u64 y0,.i .u64 y1]],[]=>some (y0,y1)
 | _,_=>none
theorem qrm (x0 x1:Int) (x2 x3:Int):fnE qdM Tryz.f57 ([.agg [.one [.i .u64 x0,.i .u64 x1]],.agg [.one [.i .u64 x2,.i .u64 x3]]]) ([]) qdN=qDX x0 x1 x2 x3:=by kernel_rfl
def qdL:HA:=fun o vs objs K=>match vs,objs with
 | [.agg [.one [.i .u64 x0,.i .u64 x1]],.agg [.one [.i .u64 x2,.i .u64 x3]]],[]=>ob (qDX x0 x1 x2 x3) fun z=>K false (.agg [.one [.i .u64 (z.1),.i .u64 (z.2)]]) ([])
 | _,_=>o 57 vs objs K
def qHI (o:Orc):Orc:=qN 57 (qdL o) o
theorem qI3:OQ Tryz.prog qHI:=fun _ ho=>qO ho fun vs objs K r h=>by
 unfold qdL at h
 split at h
 ·skip
  obtain⟨t,h1,h2⟩:=qE h
  refine qa mixed qrn ((qrm _ _ _ _).trans h1) (by kernel_rfl) fun v objs' hd=>?_
  unfold qdN at hd;split at hd;(cases hd;exact h2);cases hd
 ·exact ho _ _ _ _ _ h
def qdZ:Ctx:=mkC 9 ((qHI (qM7 qK))) [] qW
theorem qrz:CtxOK Tryz.prog qdZ:=mkC_ok ((qI3 _ (qSb _ qM)))
def qda:V->List Obj->Option (Int×Int):=fun v objs=>match v,objs with
 | .agg [.one [.i .u64 y0,.i .u64 y1]],[]=>some (y0,y1)
 | _,_=>none
theorem qry (x0 x1 x2:Int):fnE qdZ Tryz.f73 ([.agg [.one [.i .u64 x0,.i .u64 x1]],.s (.i .i64 x2)]) ([]) qda=qA1 x0 x1 x2:=by kernel_rfl
def qdY:HA:=fun o vs objs K=>match vs,objs with
 | [.agg [.one [.i .u64 x0,.i .u64 x1]],.s (.i .i64 x2)],[]=>ob (qA1 x0 x1 x2) fun z=>K false (.agg [.one [.i .u64 (z.1),.i .u64 (z.2)]]) ([])
 | _,_=>o 73 vs objs K
def qE6 (o:Orc):Orc:=qN 73 (qdY o) o
theorem qGL:OQ Tryz.prog qE6:=fun _ ho=>qO ho fun vs objs K r h=>by
 unfold qdY at h
 split at h
 ·skip
  obtain⟨t,h1,h2⟩:=qE h
  refine qa mixed qrz ((qry _ _ _).trans h1) (by kernel_rfl) fun v objs' hd=>?_
  unfold qda at hd;split at hd;(cases hd;exact h2);cases hd
 ·exact ho _ _ _ _ _ h
def qUp:Ctx:=mkC 90 ((qE6 (qCj (qEi (qKf qK))))) [] qW
theorem qhR:CtxOK Tryz.prog qUp:=mkC_ok ((qGL _ (qC4 _ (qFw _ (qM6 _ qM)))))
def qUq:V->List Obj->Option (LI×LI×Int×LL×LL):=fun v objs=>match v,objs with
 | .tup [],[.cells 87 [.arr .i8 81 y0,.arr .i8 16 y1,.one [.i .i8 y2],.rows [.i .u64,.i .u64] 32 y3,.rows [.i .u64,.i .u64] 2 y4]]=>some (y0,y1,y2,y3,y4)
 | _,_=>none
theorem qhQ (x0 x1:Int) (x2 x3:LI) (x4:Int) (x5 x6:LL):fnE qUp Tryz.f33 ([.s (.ptr 0 0 none 0),.s (.i .i64 x0),.s (.i .i8 x1)]) ([.cells 87 [.arr .i8 81 x2,.arr .i8 16 x3,.one [.i .i8 x4],.rows [.i .u64,.i .u64] 32 x5,.rows [.i .u64,.i .u64] 2 x6]]) qUq=qET x0 x1 x2 x3 x4 x5 x6:=by kernel_rfl
def qUo:HA:=fun o vs objs K=>match vs,objs with
 | [.s (.ptr 0 0 none 0),.s (.i .i64 x0),.s (.i .i8 x1)],[.cells 87 [.arr .i8 81 x2,.arr .i8 16 x3,.one [.i .i8 x4],.rows [.i .u64,.i .u64] 32 x5,.rows [.i .u64,.i .u64] 2 x6]]=>ob (qET x0 x1 x2 x3 x4 x5 x6) fun z=>K false (.tup []) ([.cells 87 [.arr .i8 81 (z.1),.arr .i8 16 (z.2.1),.one [.i .i8 (z.2.2.1)],.rows [.i .u64,.i .u64] 32 (z.2.2.2.1),.rows [.i .u64,.i .u64] 2 (z.2.2.2.2)]])
 | _,_=>o 33 vs objs K
def qK9 (o:Orc):Orc:=qN 33 (qUo o) o
theorem qOM:OQ Tryz.prog qK9:=fun _ ho=>qO ho fun vs objs K r h=>by
 unfold qUo at h
 split at h
 ·skip
  obtain⟨t,h1,h2⟩:=qE h
  refine qa mixed qhR ((qhQ _ _ _ _ _ _ _).trans h1) (by kernel_rfl) fun v objs' hd=>?_
  unfold qUq at hd;split at hd;(cases hd;exact h2);cases hd
 ·exact ho _ _ _ _ _ h
def qOI:Ex->List V->List Obj->Option (LI×LI×Int×LL×LL):=fun e vs objs=>match e,vs,objs with
 | .exit 0,[.s (.ptr 0 0 none 0)],[.cells 87 [.arr .i8 81 y0,.arr .i8 16 y1,.one [.i .i8 y2],.rows [.i .u64,.i .u64] 32 y3,.rows [.i .u64,.i .u64] 2 y4]]=>some (y0,y1,y2,y3,y4)
 | _,_,_=>none
def qOK:HL:=fun vs objs K=>match vs,objs with
 | [.s (.ptr 0 0 none 0),.agg [.arr .i8 81 x0],.s (.i .i64 x1)],[.cells 87 [.arr .i8 81 x2,.arr .i8 16 x3,.one [.i .i8 x4],.rows [.i .u64,.i .u64] 32 x5,.rows [.i .u64,.i .u64] 2 x6]]=>ob (qCD qB x0 x1 x2 x3 x4 x5 x6) fun z=>K (.exit 0) ([.s (.ptr 0 0 none 0)]) ([.cells 87 [.arr .i8 81 (z.1),.arr .i8 16 (z.2.1),.one [.i .i8 (z.2.2.1)],.rows [.i .u64,.i .u64] 32 (z.2.2.2.1),.rows [.i .u64,.i .u64] 2 (z.2.2.2.2)]])
 | _,_=>none
def qhK:{R:Type}->Nat->List V->List Obj->(Ex->List V->List Obj->Option R)->Option R:=fun q vs objs K=>bif Nat.beq q 4 then qOK vs objs K else none
def qK7:Ctx:=mkC 32 ((qK9 qK)) [(4,[3,21,22],[3])] qhK
theorem qUe:CtxOK Tryz.prog qK7:=mkC_ok ((qOM _ qM))
def qOJ (f:Nat) (x0:LI) (x1:Int) (x2 x3:LI) (x4:Int) (x5 x6:LL):Option (LI×LI×Int×LL×LL):=qh qK7 0 [3,21,22] [3] (qG Tryz.f11 4) f ([.s (.ptr 0 0 none 0),.agg [.arr .i8 81 x0],.s (.i .i64 x1)]) ([.cells 87 [.arr .i8 81 x2,.arr .i8 16 x3,.one [.i .i8 x4],.rows [.i .u64,.i .u64] 32 x5,.rows [.i .u64,.i .u64] 2 x6]]) qOI
theorem qhJ (f:Nat) (x0:LI) (x1:Int) (x2 x3:LI) (x4:Int) (x5 x6:LL):qOJ (f+1) x0 x1 x2 x3 x4 x5 x6=qDn (qOJ f) x0 x1 x2 x3 x4 x5 x6:=by kernel_rfl
theorem qUg:∀ f,qOJ f=qCD f
 | 0=>rfl
 | f+1=>by funext x0 x1 x2 x3 x4 x5 x6;rw[qhJ,qUg f];rfl
theorem qhL:qg Tryz.prog qK7 0 (qG Tryz.f11 4):=
 qi mixed qUe (qQ.of (l':=[]) (by kernel_rfl) trivial) (q:=4) (kin:=[3,21,22]) (kout:=[3]) (by kernel_rfl) (by kernel_rfl) fun vs objs K r h=>by
  replace h:qOK vs objs K=some r:=h
  unfold qOK at h
  split at h
  ·skip
   obtain⟨t,h1,h2⟩:=qE h
   rw[<- qUg] at h1
   refine⟨_,qOI,t,qB,h1,fun e vs' objs' hd=>?_⟩
   unfold qOI at hd;split at hd;(cases hd;exact h2);cases hd
  ·cases h
def qUf:V->List Obj->Option (LI×LI×Int×LL×LL):=fun v objs=>match v,objs with
 | .s (.ptr 0 0 none 0),[.cells 87 [.arr .i8 81 y0,.arr .i8 16 y1,.one [.i .i8 y2],.rows [.i .u64,.i .u64] 32 y3,.rows [.i .u64,.i .u64] 2 y4]]=>some (y0,y1,y2,y3,y4)
 | _,_=>none
theorem qhI (x0 x1:LI) (x2:Int):fnE qK7 Tryz.f11 ([.agg [.arr .i8 81 x0,.arr .i8 16 x1,.one [.i .i8 x2]]]) ([]) qUf=qBz x0 x1 x2:=by kernel_rfl
def qUd:HA:=fun o vs objs K=>match vs,objs with
 | [.agg [.arr .i8 81 x0,.arr .i8 16 x1,.one [.i .i8 x2]]],[]=>ob (qBz x0 x1 x2) fun z=>K false (.s (.ptr 0 0 none 0)) ([.cells 87 [.arr .i8 81 (z.1),.arr .i8 16 (z.2.1),.one [.i .i8 (z.2.2.1)],.rows [.i .u64,.i .u64] 32 (z.2.2.2.1),.rows [.i .u64,.i .u64] 2 (z.2.2.2.2)]])
 | _,_=>o 11 vs objs K
def qJV (o:Orc):Orc:=qN 11 (qUd o) o
theorem qK8:OQ Tryz.prog qJV:=fun _ ho=>qO ho fun vs objs K r h=>by
 unfold qUd at h
 split at h
 ·skip
  obtain⟨t,h1,h2⟩:=qE h
  refine qAR mixed qUe (fn:=Tryz.f11) (b:=(Tryz.f11).body.getD .skip) (by kernel_rfl) (by kernel_rfl) (by kernel_rfl) ((qhI _ _ _).trans h1) (m:=0) rfl (qQ.of (l':=[qG Tryz.f11 4]) (by kernel_rfl) ⟨qhL,trivial⟩) fun v objs' hd=>?_
  unfold qUf at hd;split at hd;(cases hd;exact h2);cases hd
 ·exact ho _ _ _ _ _ h
def qXX:Ctx:=mkC 19 (qK) [] qW
theorem qkm:CtxOK Tryz.prog qXX:=mkC_ok (qM)
def qXY:V->List Obj->Option (Int):=fun v objs=>match v,objs with
 | .s (.i .u64 y0),[]=>some (y0)
 | _,_=>none
theorem qkl (x0:Int):fnE qXX Tryz.f110 ([.s (.i .u64 x0)]) ([]) qXY=qDz x0:=by kernel_rfl
def qXW:HA:=fun o vs objs K=>match vs,objs with
 | [.s (.i .u64 x0)],[]=>ob (qDz x0) fun y0=>K false (.s (.i .u64 y0)) ([])
 | _,_=>o 110 vs objs K
def qLd (o:Orc):Orc:=qN 110 (qXW o) o
theorem qPn:OQ Tryz.prog qLd:=fun _ ho=>qO ho fun vs objs K r h=>by
 unfold qXW at h
 split at h
 ·skip
  obtain⟨t,h1,h2⟩:=qE h
  refine qa mixed qkm ((qkl _).trans h1) (by kernel_rfl) fun v objs' hd=>?_
  unfold qXY at hd;split at hd;(cases hd;exact h2);cases hd
 ·exact ho _ _ _ _ _ h
def qXM:Ctx:=mkC 23 ((qLd (qCj qK))) [] qW
theorem qki:CtxOK Tryz.prog qXM:=mkC_ok ((qPn _ (qC4 _ qM)))
def qXN:V->List Obj->Option (Int):=fun v objs=>match v,objs with
 | .s (.i .u64 y0),[]=>some (y0)
 | _,_=>none
theorem qkh (x0 x1:Int):fnE qXM Tryz.f84 ([.s (.i .i64 x0),.s (.i .i8 x1)]) ([]) qXN=qCI x0 x1:=by kernel_rfl
def qXL:HA:=fun o vs objs K=>match vs,objs with
 | [.s (.i .i64 x0),.s (.i .i8 x1)],[]=>ob (qCI x0 x1) fun y0=>K false (.s (.i .u64 y0)) ([])
 | _,_=>o 84 vs objs K
def qPl (o:Orc):Orc:=qN 84 (qXL o) o
theorem qXO:OQ Tryz.prog qPl:=fun _ ho=>qO ho fun vs objs K r h=>by
 unfold qXL at h
 split at h
 ·skip
  obtain⟨t,h1,h2⟩:=qE h
  refine qa mixed qki ((qkh _ _).trans h1) (by kernel_rfl) fun v objs' hd=>?_
  unfold qXN at hd;split at hd;(cases hd;exact h2);cases hd
 ·exact ho _ _ _ _ _ h
def qXC:Ctx:=mkC 41 ((qLd qK)) [] qW
theorem qkY:CtxOK Tryz.prog qXC:=mkC_ok ((qPn _ qM))
def qXD:V->List Obj->Option (Int):=fun v objs=>match v,objs with
 | .s (.i .u64 y0),[]=>some (y0)
 | _,_=>none
theorem qkX (x0 x1 x2:Int):fnE qXC Tryz.f85 ([.s (.i .i64 x0),.s (.i .i64 x1),.s (.i .i64 x2)]) ([]) qXD=qC0 x0 x1 x2:=by kernel_rfl
def qXB:HA:=fun o vs objs K=>match vs,objs with
 | [.s (.i .i64 x0),.s (.i .i64 x1),.s (.i .i64 x2)],[]=>ob (qC0 x0 x1 x2) fun y0=>K false (.s (.i .u64 y0)) ([])
 | _,_=>o 85 vs objs K
def qPa (o:Orc):Orc:=qN 85 (qXB o) o
theorem qXE:OQ Tryz.prog qPa:=fun _ ho=>qO ho fun vs objs K r h=>by
 unfold qXB at h
 split at h
 ·skip
  obtain⟨t,h1,h2⟩:=qE h
  refine qa mixed qkY ((qkX _ _ _).trans h1) (by kernel_rfl) fun v objs' hd=>?_
  unfold qXD at hd;split at hd;(cases hd;exact h2);cases hd
 ·exact ho _ _ _ _ _ h
def qXQ:Ctx:=mkC 2 ((qLd qK)) [] qW
theorem qkk:CtxOK Tryz.prog qXQ:=mkC_ok ((qPn _ qM))
def qXR:V->List Obj->Option (Int):=fun v objs=>match v,objs with
 | .s (.i .u64 y0),[]=>some (y0)
 | _,_=>none
theorem qkj:fnE qXQ Tryz.f86 ([]) ([]) qXR=qC2  := by kernel_rfl
def qXP:HA:=fun o vs objs K=>match vs,objs with
 | [],[]=>ob (qC2 ) fun y0=>K false (.s (.i .u64 y0)) ([])
 | _,_=>o 86 vs objs K
def qPm (o:Orc):Orc:=qN 86 (qXP o) o
theorem qXS:OQ Tryz.prog qPm:=fun _ ho=>qO ho fun vs objs K r h=>by
 unfold qXP at h
 split at h
 ·skip
  obtain⟨t,h1,h2⟩:=qE h
  refine qa mixed qkk ((qkj).trans h1) (by kernel_rfl) fun v objs' hd=>?_
  unfold qXR at hd;split at hd;(cases hd;exact h2);cases hd
 ·exact ho _ _ _ _ _ h
def qPd:Ex->List V->List Obj->Option (Int×LI×LI×Int):=fun e vs objs=>match e,vs,objs with
 | .exit 0,[.s (.ptr 0 0 none 0),.s (.i .u64 y0)],[.cells 28 [.arr .i8 81 y1,.arr .i8 16 y2,.one [.i .i8 y3]]]=>some (y0,y1,y2,y3)
 | _,_,_=>none
def qPb:Ex->List V->List Obj->Option (Int×LI×Int×LI×LI×Int):=fun e vs objs=>match e,vs,objs with
 | .exit 4,[.s (.ptr 0 0 none 0),.s (.i .u64 y0),.agg [.arr .i8 16 y1],.s (.i .i64 y2)],[.cells 28 [.arr .i8 81 y3,.arr .i8 16 y4,.one [.i .i8 y5]]]=>some (y0,y1,y2,y3,y4,y5)
 | _,_,_=>none
def qPf:Ex->List V->List Obj->Option (Int×LI×LI×Int):=fun e vs objs=>match e,vs,objs with
 | .exit 2,[.s (.ptr 0 0 none 0),.s (.i .u64 y0)],[.cells 28 [.arr .i8 81 y1,.arr .i8 16 y2,.one [.i .i8 y3]]]=>some (y0,y1,y2,y3)
 | _,_,_=>none
def qPj:HL:=fun vs objs K=>match vs,objs with
 | [.s (.ptr 0 0 none 0),.s (.i .u64 x0),.agg [.arr .i8 81 x1],.s (.i .i64 x2)],[.cells 28 [.arr .i8 81 x3,.arr .i8 16 x4,.one [.i .i8 x5]]]=>ob (qCe qB x0 x1 x2 x3 x4 x5) fun z=>K (.exit 0) ([.s (.ptr 0 0 none 0),.s (.i .u64 (z.1))]) ([.cells 28 [.arr .i8 81 (z.2.1),.arr .i8 16 (z.2.2.1),.one [.i .i8 (z.2.2.2)]]])
 | _,_=>none
def qPi:HL:=fun vs objs K=>match vs,objs with
 | [.s (.ptr 0 0 none 0),.s (.i .u64 x0),.s (.i .i64 x1),.agg [.arr .i8 16 x2],.s (.i .i64 x3),.agg [.arr .i8 8 x4],.s (.i .i64 x5)],[.cells 28 [.arr .i8 81 x6,.arr .i8 16 x7,.one [.i .i8 x8]]]=>ob (qC1 qB x0 x1 x2 x3 x4 x5 x6 x7 x8) fun z=>K (.exit 4) ([.s (.ptr 0 0 none 0),.s (.i .u64 (z.1)),.agg [.arr .i8 16 (z.2.1)],.s (.i .i64 (z.2.2.1))]) ([.cells 28 [.arr .i8 81 (z.2.2.2.1),.arr .i8 16 (z.2.2.2.2.1),.one [.i .i8 (z.2.2.2.2.2)]]])
 | _,_=>none
def qPk:HL:=fun vs objs K=>match vs,objs with
 | [.s (.ptr 0 0 none 0),.s (.i .u64 x0),.agg [.arr .i8 16 x1],.s (.i .i64 x2)],[.cells 28 [.arr .i8 81 x3,.arr .i8 16 x4,.one [.i .i8 x5]]]=>ob (qB1 qB x0 x1 x2 x3 x4 x5) fun z=>K (.exit 2) ([.s (.ptr 0 0 none 0),.s (.i .u64 (z.1))]) ([.cells 28 [.arr .i8 81 (z.2.1),.arr .i8 16 (z.2.2.1),.one [.i .i8 (z.2.2.2)]]])
 | _,_=>none
def qkd:{R:Type}->Nat->List V->List Obj->(Ex->List V->List Obj->Option R)->Option R:=fun q vs objs K=>bif Nat.beq q 3 then qPj vs objs K else bif Nat.beq q 11 then qPi vs objs K else bif Nat.beq q 8 then qPk vs objs K else none
def qFn:Ctx:=mkC 49 ((qPm (qPa (qPl qK)))) [(3,[1,3,11,12],[1,3]),(8,[1,3,23,24],[1,3]),(11,[1,3,6,23,24,28,29],[1,3,23,24])] qkd
theorem qLc:CtxOK Tryz.prog qFn:=mkC_ok ((qXS _ (qXE _ (qXO _ qM))))
def qPe (f:Nat) (x0:Int) (x1:LI) (x2:Int) (x3 x4:LI) (x5:Int):Option (Int×LI×LI×Int):=qh qFn 0 [1,3,11,12] [1,3] (qG Tryz.f41 3) f ([.s (.ptr 0 0 none 0),.s (.i .u64 x0),.agg [.arr .i8 81 x1],.s (.i .i64 x2)]) ([.cells 28 [.arr .i8 81 x3,.arr .i8 16 x4,.one [.i .i8 x5]]]) qPd
theorem qkb (f:Nat) (x0:Int) (x1:LI) (x2:Int) (x3 x4:LI) (x5:Int):qPe (f+1) x0 x1 x2 x3 x4 x5=qDx (qPe f) x0 x1 x2 x3 x4 x5:=by kernel_rfl
theorem qXI:∀ f,qPe f=qCe f
 | 0=>rfl
 | f+1=>by funext x0 x1 x2 x3 x4 x5;rw[qkb,qXI f];rfl
def qPc (f:Nat) (x0 x1:Int) (x2:LI) (x3:Int) (x4:LI) (x5:Int) (x6 x7:LI) (x8:Int):Option (Int×LI×Int×LI×LI×Int):=qh qFn 0 [1,3,6,23,24,28,29] [1,3,23,24] (qG Tryz.f41 11) f ([.s (.ptr 0 0 none 0),.s (.i .u64 x0),.s (.i .i64 x1),.agg [.arr .i8 16 x2],.s (.i .i64 x3),.agg [.arr .i8 8 x4],.s (.i .i64 x5)]) ([.cells 28 [.arr .i8 81 x6,.arr .i8 16 x7,.one [.i .i8 x8]]]) qPb
theorem qka (f:Nat) (x0 x1:Int) (x2:LI) (x3:Int) (x4:LI) (x5:Int) (x6 x7:LI) (x8:Int):qPc (f+1) x0 x1 x2 x3 x4 x5 x6 x7 x8=qDw (qPc f) x0 x1 x2 x3 x4 x5 x6 x7 x8:=by kernel_rfl
theorem qXH:∀ f,qPc f=qC1 f
 | 0=>rfl
 | f+1=>by funext x0 x1 x2 x3 x4 x5 x6 x7 x8;rw[qka,qXH f];rfl
def qPg (f:Nat) (x0:Int) (x1:LI) (x2:Int) (x3 x4:LI) (x5:Int):Option (Int×LI×LI×Int):=qh qFn 0 [1,3,23,24] [1,3] (qG Tryz.f41 8) f ([.s (.ptr 0 0 none 0),.s (.i .u64 x0),.agg [.arr .i8 16 x1],.s (.i .i64 x2)]) ([.cells 28 [.arr .i8 81 x3,.arr .i8 16 x4,.one [.i .i8 x5]]]) qPf
theorem qkc (f:Nat) (x0:Int) (x1:LI) (x2:Int) (x3 x4:LI) (x5:Int):qPg (f+1) x0 x1 x2 x3 x4 x5=qDy (qPg f) x0 x1 x2 x3 x4 x5:=by kernel_rfl
theorem qXJ:∀ f,qPg f=qB1 f
 | 0=>rfl
 | f+1=>by funext x0 x1 x2 x3 x4 x5;rw[qkc,qXJ f];rfl
theorem qkf:qg Tryz.prog qFn 0 (qG Tryz.f41 3):=
 qi mixed qLc (qQ.of (l':=[]) (by kernel_rfl) trivial) (q:=3) (kin:=[1,3,11,12]) (kout:=[1,3]) (by kernel_rfl) (by kernel_rfl) fun vs objs K r h=>by
  replace h:qPj vs objs K=some r:=h
  unfold qPj at h
  split at h
  ·skip
   obtain⟨t,h1,h2⟩:=qE h
   rw[<- qXI] at h1
   refine⟨_,qPd,t,qB,h1,fun e vs' objs' hd=>?_⟩
   unfold qPd at hd;split at hd;(cases hd;exact h2);cases hd
  ·cases h
theorem qke:qg Tryz.prog qFn 0 (qG Tryz.f41 11):=
 qi mixed qLc (qQ.of (l':=[]) (by kernel_rfl) trivial) (q:=11) (kin:=[1,3,6,23,24,28,29]) (kout:=[1,3,23,24]) (by kernel_rfl) (by kernel_rfl) fun vs objs K r h=>by
  replace h:qPi vs objs K=some r:=h
  unfold qPi at h
  split at h
  ·skip
   obtain⟨t,h1,h2⟩:=qE h
   rw[<- qXH] at h1
   refine⟨_,qPb,t,qB,h1,fun e vs' objs' hd=>?_⟩
   unfold qPb at hd;split at hd;(cases hd;exact h2);cases hd
  ·cases h
theorem qkg:qg Tryz.prog qFn 0 (qG Tryz.f41 8):=
 qi mixed qLc (qQ.of (l':=[qG Tryz.f41 11]) (by kernel_rfl) ⟨qke,trivial⟩) (q:=8) (kin:=[1,3,23,24]) (kout:=[1,3]) (by kernel_rfl) (by kernel_rfl) fun vs objs K r h=>by
  replace h:qPk vs objs K=some r:=h
  unfold qPk at h
  split at h
  ·skip
   obtain⟨t,h1,h2⟩:=qE h
   rw[<- qXJ] at h1
   refine⟨_,qPf,t,qB,h1,fun e vs' objs' hd=>?_⟩
   unfold qPf at hd;split at hd;(cases hd;exact h2);cases hd
  ·cases h
def qXG:V->List Obj->Option (Int):=fun v objs=>match v,objs with
 | .s (.i .u64 y0),[]=>some (y0)
 | _,_=>none
theorem qkZ (x0 x1:LI) (x2:Int):fnE qFn Tryz.f41 ([.agg [.arr .i8 81 x0,.arr .i8 16 x1,.one [.i .i8 x2]]]) ([]) qXG=qDv x0 x1 x2:=by kernel_rfl
def qXF:HA:=fun o vs objs K=>match vs,objs with
 | [.agg [.arr .i8 81 x0,.arr .i8 16 x1,.one [.i .i8 x2]]],[]=>ob (qDv x0 x1 x2) fun y0=>K false (.s (.i .u64 y0)) ([])
 | _,_=>o 41 vs objs K
def qPh (o:Orc):Orc:=qN 41 (qXF o) o
theorem qXK:OQ Tryz.prog qPh:=fun _ ho=>qO ho fun vs objs K r h=>by
 unfold qXF at h
 split at h
 ·skip
  obtain⟨t,h1,h2⟩:=qE h
  refine qAR mixed qLc (fn:=Tryz.f41) (b:=(Tryz.f41).body.getD .skip) (by kernel_rfl) (by kernel_rfl) (by kernel_rfl) ((qkZ _ _ _).trans h1) (m:=0) rfl (qQ.of (l':=[qG Tryz.f41 3,qG Tryz.f41 8]) (by kernel_rfl) ⟨qkf,qkg,trivial⟩) fun v objs' hd=>?_
  unfold qXG at hd;split at hd;(cases hd;exact h2);cases hd
 ·exact ho _ _ _ _ _ h
def qV4:Ctx:=mkC 14 ((qPh (qJV qK))) [] qW
theorem qiv:CtxOK Tryz.prog qV4:=mkC_ok ((qXK _ (qK8 _ qM)))
def qV5:V->List Obj->Option (Int×Nat×LI×LI×Int×LL×LL×Nat×LL):=fun v objs=>match v,objs with
 | .s (.ptr 0 0 none 0),[.cells 71 [.one [.ptr 1 0 none 0,.i .u64 y0,.sl 2 0 y1 true]],.cells 87 [.arr .i8 81 y2,.arr .i8 16 y3,.one [.i .i8 y4],.rows [.i .u64,.i .u64] 32 y5,.rows [.i .u64,.i .u64] 2 y6],.sli 119 false (.rows [.i .i64,.i .i64,.i .i64,.b,.i .i8,.i .i8] y7 y8)]=>some (y0,y1,y2,y3,y4,y5,y6,y7,y8)
 | _,_=>none
theorem qiu (x0 x1:LI) (x2:Int):fnE qV4 Tryz.f23 ([.agg [.arr .i8 81 x0,.arr .i8 16 x1,.one [.i .i8 x2]]]) ([]) qV5=qFZ x0 x1 x2:=by kernel_rfl
def qV3:HA:=fun o vs objs K=>match vs,objs with
 | [.agg [.arr .i8 81 x0,.arr .i8 16 x1,.one [.i .i8 x2]]],[]=>ob (qFZ x0 x1 x2) fun z=>K false (.s (.ptr 0 0 none 0)) ([.cells 71 [.one [.ptr 1 0 none 0,.i .u64 (z.1),.sl 2 0 (z.2.1) true]],.cells 87 [.arr .i8 81 (z.2.2.1),.arr .i8 16 (z.2.2.2.1),.one [.i .i8 (z.2.2.2.2.1)],.rows [.i .u64,.i .u64] 32 (z.2.2.2.2.2.1),.rows [.i .u64,.i .u64] 2 (z.2.2.2.2.2.2.1)],.sli 119 false (.rows [.i .i64,.i .i64,.i .i64,.b,.i .i8,.i .i8] (z.2.2.2.2.2.2.2.1) (z.2.2.2.2.2.2.2.2))])
 | _,_=>o 23 vs objs K
def qOv (o:Orc):Orc:=qN 23 (qV3 o) o
theorem qV6:OQ Tryz.prog qOv:=fun _ ho=>qO ho fun vs objs K r h=>by
 unfold qV3 at h
 split at h
 ·skip
  obtain⟨t,h1,h2⟩:=qE h
  refine qa mixed qiv ((qiu _ _ _).trans h1) (by kernel_rfl) fun v objs' hd=>?_
  unfold qV5 at hd;split at hd;(cases hd;exact h2);cases hd
 ·exact ho _ _ _ _ _ h
def qUi:Ctx:=mkC 20 ((qFv qK)) [] qW
theorem qhN:CtxOK Tryz.prog qUi:=mkC_ok ((qGz _ qM))
def qUj:V->List Obj->Option (Int×Int):=fun v objs=>match v,objs with
 | .agg [.one [.i .u64 y0,.i .u64 y1]],[]=>some (y0,y1)
 | _,_=>none
theorem qhM (x0 x1:Int) (x2 x3:LI) (x4:Int) (x5 x6:LL):fnE qUi Tryz.f58 ([.s (.ptr 0 0 none 0),.s (.i .i64 x0),.s (.i .i64 x1)]) ([.rcells 87 [.arr .i8 81 x2,.arr .i8 16 x3,.one [.i .i8 x4],.rows [.i .u64,.i .u64] 32 x5,.rows [.i .u64,.i .u64] 2 x6]]) (qAf 1 qUj)=qDH x0 x1 x2 x3 x4 x5 x6:=by kernel_rfl
def qUh:HA:=fun o vs objs K=>match vs,List.map Obj.toRO objs with
 | [.s (.ptr 0 0 none 0),.s (.i .i64 x0),.s (.i .i64 x1)],[.rcells 87 [.arr .i8 81 x2,.arr .i8 16 x3,.one [.i .i8 x4],.rows [.i .u64,.i .u64] 32 x5,.rows [.i .u64,.i .u64] 2 x6]]=>ob (qDH x0 x1 x2 x3 x4 x5 x6) fun z=>K true (.agg [.one [.i .u64 (z.1),.i .u64 (z.2)]]) ([])
 | _,_=>o 58 vs objs K
def qGh (o:Orc):Orc:=qN 58 (qUh o) o
theorem qHj:OQ Tryz.prog qGh:=fun _ ho=>qO ho fun vs objs K r h=>by
 unfold qUh at h
 split at h
 ·skip
  have hq:List.map Obj.toRO objs=_:=(by rename_i hq;first | exact hq | assumption)
  obtain⟨t,h1,h2⟩:=qE h
  refine qAr mixed qhN (m:=1) (fn:=Tryz.f58) (b:=(Tryz.f58).body.getD .skip) (by kernel_rfl) (by kernel_rfl) (by kernel_rfl) hq (by kernel_rfl) (by kernel_rfl) (qQ.of (l':=[]) (by kernel_rfl) trivial) ((qhM _ _ _ _ _ _ _).trans h1) fun v objs' hd=>?_
  unfold qUj at hd;split at hd;(cases hd;exact h2);cases hd
 ·exact ho _ _ _ _ _ h
def qN1:Ctx:=mkC 14 (qK) [] qW
theorem qgu:CtxOK Tryz.prog qN1:=mkC_ok (qM)
def qN2:V->List Obj->Option (Int):=fun v objs=>match v,objs with
 | .s (.i .i64 y0),[]=>some (y0)
 | _,_=>none
theorem qgt (B:{R:Type}->Bool->Option R->Option R->Option R) (x0:Int):fnE { qN1 with brg:=B } Tryz.f94 ([.s (.i .u64 x0)]) ([]) qN2=qN0 B x0:=by kernel_rfl
theorem qgs (x0:Int):fnE qN1 Tryz.f94 ([.s (.i .u64 x0)]) ([]) qN2=qFO x0:=qgt br x0
def qUH:HA:=fun o vs objs K=>match vs,objs with
 | [.s (.i .u64 x0)],[]=>ob (qFO x0) fun y0=>K false (.s (.i .i64 y0)) ([])
 | _,_=>o 94 vs objs K
def qN3 (o:Orc):Orc:=qN 94 (qUH o) o
theorem qUI:OQ Tryz.prog qN3:=fun _ ho=>qO ho fun vs objs K r h=>by
 unfold qUH at h
 split at h
 ·skip
  obtain⟨t,h1,h2⟩:=qE h
  refine qa mixed qgu ((qgs _).trans h1) (by kernel_rfl) fun v objs' hd=>?_
  unfold qN2 at hd;split at hd;(cases hd;exact h2);cases hd
 ·exact ho _ _ _ _ _ h
def qcy:Ctx:=mkC 18 ((qN3 qK)) [] qW
theorem qrV:CtxOK Tryz.prog qcy:=mkC_ok ((qUI _ qM))
def qcz:V->List Obj->Option (Int):=fun v objs=>match v,objs with
 | .s (.i .i64 y0),[]=>some (y0)
 | _,_=>none
theorem qrU (x0 x1:Int):fnE qcy Tryz.f56 ([.agg [.one [.i .u64 x0,.i .u64 x1]]]) ([]) qcz=qHG x0 x1:=by kernel_rfl
def qcx:HA:=fun o vs objs K=>match vs,objs with
 | [.agg [.one [.i .u64 x0,.i .u64 x1]]],[]=>ob (qHG x0 x1) fun y0=>K false (.s (.i .i64 y0)) ([])
 | _,_=>o 56 vs objs K
def qMw (o:Orc):Orc:=qN 56 (qcx o) o
theorem qSK:OQ Tryz.prog qMw:=fun _ ho=>qO ho fun vs objs K r h=>by
 unfold qcx at h
 split at h
 ·skip
  obtain⟨t,h1,h2⟩:=qE h
  refine qa mixed qrV ((qrU _ _).trans h1) (by kernel_rfl) fun v objs' hd=>?_
  unfold qcz at hd;split at hd;(cases hd;exact h2);cases hd
 ·exact ho _ _ _ _ _ h
def qUb:Ctx:=mkC 9 ((qMw (qGh qK))) [] qW
theorem qhH:CtxOK Tryz.prog qUb:=mkC_ok ((qSK _ (qHj _ qM)))
def qUc:V->List Obj->Option (Int):=fun v objs=>match v,objs with
 | .s (.i .i64 y0),[]=>some (y0)
 | _,_=>none
theorem qhG (x0:Int) (x1 x2:LI) (x3:Int) (x4 x5:LL):fnE qUb Tryz.f52 ([.s (.ptr 0 0 none 0),.s (.i .i64 x0)]) ([.rcells 87 [.arr .i8 81 x1,.arr .i8 16 x2,.one [.i .i8 x3],.rows [.i .u64,.i .u64] 32 x4,.rows [.i .u64,.i .u64] 2 x5]]) (qAf 1 qUc)=qGg x0 x1 x2 x3 x4 x5:=by kernel_rfl
def qUa:HA:=fun o vs objs K=>match vs,List.map Obj.toRO objs with
 | [.s (.ptr 0 0 none 0),.s (.i .i64 x0)],[.rcells 87 [.arr .i8 81 x1,.arr .i8 16 x2,.one [.i .i8 x3],.rows [.i .u64,.i .u64] 32 x4,.rows [.i .u64,.i .u64] 2 x5]]=>ob (qGg x0 x1 x2 x3 x4 x5) fun y0=>K true (.s (.i .i64 y0)) ([])
 | _,_=>o 52 vs objs K
def qK6 (o:Orc):Orc:=qN 52 (qUa o) o
theorem qOH:OQ Tryz.prog qK6:=fun _ ho=>qO ho fun vs objs K r h=>by
 unfold qUa at h
 split at h
 ·skip
  have hq:List.map Obj.toRO objs=_:=(by rename_i hq;first | exact hq | assumption)
  obtain⟨t,h1,h2⟩:=qE h
  refine qAr mixed qhH (m:=1) (fn:=Tryz.f52) (b:=(Tryz.f52).body.getD .skip) (by kernel_rfl) (by kernel_rfl) (by kernel_rfl) hq (by kernel_rfl) (by kernel_rfl) (qQ.of (l':=[]) (by kernel_rfl) trivial) ((qhG _ _ _ _ _ _).trans h1) fun v objs' hd=>?_
  unfold qUc at hd;split at hd;(cases hd;exact h2);cases hd
 ·exact ho _ _ _ _ _ h
def qcj:Ctx:=mkC 2 (qK) [] qW
theorem qrL:CtxOK Tryz.prog qcj:=mkC_ok (qM)
def qck:V->List Obj->Option (Int×Int):=fun v objs=>match v,objs with
 | .agg [.one [.i .u64 y0,.i .u64 y1]],[]=>some (y0,y1)
 | _,_=>none
theorem qrK:fnE qcj Tryz.f29 ([]) ([]) qck=qHC  := by kernel_rfl
def qci:HA:=fun o vs objs K=>match vs,objs with
 | [],[]=>ob (qHC ) fun z=>K false (.agg [.one [.i .u64 (z.1),.i .u64 (z.2)]]) ([])
 | _,_=>o 29 vs objs K
def qKa (o:Orc):Orc:=qN 29 (qci o) o
theorem qMt:OQ Tryz.prog qKa:=fun _ ho=>qO ho fun vs objs K r h=>by
 unfold qci at h
 split at h
 ·skip
  obtain⟨t,h1,h2⟩:=qE h
  refine qa mixed qrL ((qrK).trans h1) (by kernel_rfl) fun v objs' hd=>?_
  unfold qck at hd;split at hd;(cases hd;exact h2);cases hd
 ·exact ho _ _ _ _ _ h
def qSV:Ex->List V->List Obj->Option (Nat×Int×Int×Nat×LI):=fun e vs objs=>match e,vs,objs with
 | .exit 0,[.s (.ptr 0 0 none 0),.s (.sl 1 0 y0 true)],[.cells 76 [.one [.i .u64 y1,.i .u64 y2]],.sli 3 false (.arr .i64 y3 y4)]=>some (y0,y1,y2,y3,y4)
 | _,_,_=>none
def qSX:Ex->List V->List Obj->Option (Nat×Nat×LI):=fun e vs objs=>match e,vs,objs with
 | .exit 2,[.s (.sl 0 0 y0 true)],[.sli 3 false (.arr .i64 y1 y2)]=>some (y0,y1,y2)
 | _,_,_=>none
def qSZ:HL:=fun vs objs K=>match vs,objs with
 | [.s (.ptr 0 0 none 0),.s (.sl 1 0 x0 true)],[.cells 76 [.one [.i .u64 x1,.i .u64 x2]],.sli 3 false (.arr .i64 x3 x4)]=>ob (qI5 qB x0 x1 x2 x3 x4) fun z=>K (.exit 0) ([.s (.ptr 0 0 none 0),.s (.sl 1 0 (z.1) true)]) ([.cells 76 [.one [.i .u64 (z.2.1),.i .u64 (z.2.2.1)]],.sli 3 false (.arr .i64 (z.2.2.2.1) (z.2.2.2.2))])
 | _,_=>none
def qSa:HL:=fun vs objs K=>match vs,objs with
 | [.s (.ptr 0 0 none 0),.s (.sl 1 0 x0 true)],[.cells 76 [.one [.i .u64 x1,.i .u64 x2]],.sli 3 false (.arr .i64 x3 x4)]=>ob (qI6 qB x0 x1 x2 x3 x4) fun z=>K (.exit 2) ([.s (.sl 0 0 (z.1) true)]) ([.sli 3 false (.arr .i64 (z.2.1) (z.2.2))])
 | _,_=>none
def qrv:{R:Type}->Nat->List V->List Obj->(Ex->List V->List Obj->Option R)->Option R:=fun q vs objs K=>bif Nat.beq q 2 then qSZ vs objs K else bif Nat.beq q 5 then qSa vs objs K else none
def qI4:Ctx:=mkC 38 ((qN3 qK)) [(2,[1,3],[1,3]),(5,[1,3],[3])] qrv
theorem qSU:CtxOK Tryz.prog qI4:=mkC_ok ((qUI _ qM))
def qSW (f:Nat) (x0:Nat) (x1 x2:Int) (x3:Nat) (x4:LI):Option (Nat×Int×Int×Nat×LI):=qh qI4 0 [1,3] [1,3] (qG Tryz.f60 2) f ([.s (.ptr 0 0 none 0),.s (.sl 1 0 x0 true)]) ([.cells 76 [.one [.i .u64 x1,.i .u64 x2]],.sli 3 false (.arr .i64 x3 x4)]) qSV
theorem qrt (f:Nat) (x0:Nat) (x1 x2:Int) (x3:Nat) (x4:LI):qSW (f+1) x0 x1 x2 x3 x4=qM3 (qSW f) x0 x1 x2 x3 x4:=by kernel_rfl
theorem qdW:∀ f,qSW f=qI5 f
 | 0=>rfl
 | f+1=>by funext x0 x1 x2 x3 x4;rw[qrt,qdW f];rfl
def qSY (f:Nat) (x0:Nat) (x1 x2:Int) (x3:Nat) (x4:LI):Option (Nat×Nat×LI):=qh qI4 0 [1,3] [3] (qG Tryz.f60 5) f ([.s (.ptr 0 0 none 0),.s (.sl 1 0 x0 true)]) ([.cells 76 [.one [.i .u64 x1,.i .u64 x2]],.sli 3 false (.arr .i64 x3 x4)]) qSX
theorem qru (f:Nat) (x0:Nat) (x1 x2:Int) (x3:Nat) (x4:LI):qSY (f+1) x0 x1 x2 x3 x4=qM4 (qSY f) x0 x1 x2 x3 x4:=by kernel_rfl
theorem qdX:∀ f,qSY f=qI6 f
 | 0=>rfl
 | f+1=>by funext x0 x1 x2 x3 x4;rw[qru,qdX f];rfl
theorem qrw:qg Tryz.prog qI4 0 (qG Tryz.f60 2):=
 qi mixed qSU (qQ.of (l':=[]) (by kernel_rfl) trivial) (q:=2) (kin:=[1,3]) (kout:=[1,3]) (by kernel_rfl) (by kernel_rfl) fun vs objs K r h=>by
  replace h:qSZ vs objs K=some r:=h
  unfold qSZ at h
  split at h
  ·skip
   obtain⟨t,h1,h2⟩:=qE h
   rw[<- qdW] at h1
   refine⟨_,qSV,t,qB,h1,fun e vs' objs' hd=>?_⟩
   unfold qSV at hd;split at hd;(cases hd;exact h2);cases hd
  ·cases h
theorem qrx:qg Tryz.prog qI4 0 (qG Tryz.f60 5):=
 qi mixed qSU (qQ.of (l':=[]) (by kernel_rfl) trivial) (q:=5) (kin:=[1,3]) (kout:=[3]) (by kernel_rfl) (by kernel_rfl) fun vs objs K r h=>by
  replace h:qSa vs objs K=some r:=h
  unfold qSa at h
  split at h
  ·skip
   obtain⟨t,h1,h2⟩:=qE h
   rw[<- qdX] at h1
   refine⟨_,qSX,t,qB,h1,fun e vs' objs' hd=>?_⟩
   unfold qSX at hd;split at hd;(cases hd;exact h2);cases hd
  ·cases h
def qdV:V->List Obj->Option (Nat×Nat×LI):=fun v objs=>match v,objs with
 | .s (.sl 0 0 y0 true),[.sli 3 false (.arr .i64 y1 y2)]=>some (y0,y1,y2)
 | _,_=>none
theorem qrs (x0 x1:Int):fnE qI4 Tryz.f60 ([.agg [.one [.i .u64 x0,.i .u64 x1]]]) ([]) qdV=qE5 x0 x1:=by kernel_rfl
def qdU:HA:=fun o vs objs K=>match vs,objs with
 | [.agg [.one [.i .u64 x0,.i .u64 x1]]],[]=>ob (qE5 x0 x1) fun z=>K false (.s (.sl 0 0 (z.1) true)) ([.sli 3 false (.arr .i64 (z.2.1) (z.2.2))])
 | _,_=>o 60 vs objs K
def qKe (o:Orc):Orc:=qN 60 (qdU o) o
theorem qM5:OQ Tryz.prog qKe:=fun _ ho=>qO ho fun vs objs K r h=>by
 unfold qdU at h
 split at h
 ·skip
  obtain⟨t,h1,h2⟩:=qE h
  refine qAR mixed qSU (fn:=Tryz.f60) (b:=(Tryz.f60).body.getD .skip) (by kernel_rfl) (by kernel_rfl) (by kernel_rfl) ((qrs _ _).trans h1) (m:=0) rfl (qQ.of (l':=[qG Tryz.f60 2,qG Tryz.f60 5]) (by kernel_rfl) ⟨qrw,qrx,trivial⟩) fun v objs' hd=>?_
  unfold qdV at hd;split at hd;(cases hd;exact h2);cases hd
 ·exact ho _ _ _ _ _ h
def qZZ:Ctx:=mkC 24 (qK) [] qW
theorem qn1:CtxOK Tryz.prog qZZ:=mkC_ok (qM)
def qZa:V->List Obj->Option (Nat×Nat×LL):=fun v objs=>match v,objs with
 | .s (.sl 0 0 y0 true),[.sli 133 false (.rows [.i .i64,.i .i64] y1 y2)]=>some (y0,y1,y2)
 | _,_=>none
theorem qn0 (x0:Int):fnE qZZ Tryz.f91 ([.s (.i .i64 x0)]) ([]) qZa=qG2 x0:=by kernel_rfl
def qZY:HA:=fun o vs objs K=>match vs,objs with
 | [.s (.i .i64 x0)],[]=>ob (qG2 x0) fun z=>K false (.s (.sl 0 0 (z.1) true)) ([.sli 133 false (.rows [.i .i64,.i .i64] (z.2.1) (z.2.2))])
 | _,_=>o 91 vs objs K
def qQj (o:Orc):Orc:=qN 91 (qZY o) o
theorem qZb:OQ Tryz.prog qQj:=fun _ ho=>qO ho fun vs objs K r h=>by
 unfold qZY at h
 split at h
 ·skip
  obtain⟨t,h1,h2⟩:=qE h
  refine qa mixed qn1 ((qn0 _).trans h1) (by kernel_rfl) fun v objs' hd=>?_
  unfold qZa at hd;split at hd;(cases hd;exact h2);cases hd
 ·exact ho _ _ _ _ _ h
def qSQ:Ex->List V->List Obj->Option (Nat×LI×Int×Int×Int×Int):=fun e vs objs=>match e,vs,objs with
 | .exit 0,[.s (.ptr 1 0 none 0),.s (.ptr 2 0 none 0)],[.sli 3 true (.arr .i64 y0 y1),.cells 76 [.one [.i .u64 y2,.i .u64 y3]],.cells 76 [.one [.i .u64 y4,.i .u64 y5]]]=>some (y0,y1,y2,y3,y4,y5)
 | _,_,_=>none
def qSS:HL:=fun vs objs K=>match vs,objs with
 | [.s (.ptr 1 0 none 0),.s (.ptr 2 0 none 0),.s (.sl 0 0 x0 true),.s (.i .i64 x1),.s (.i .i64 x2)],[.sli 3 true (.arr .i64 x3 x4),.cells 76 [.one [.i .u64 x5,.i .u64 x6]],.cells 76 [.one [.i .u64 x7,.i .u64 x8]]]=>ob (qGJ qB x0 x1 x2 x3 x4 x5 x6 x7 x8) fun z=>K (.exit 0) ([.s (.ptr 1 0 none 0),.s (.ptr 2 0 none 0)]) ([.sli 3 true (.arr .i64 (z.1) (z.2.1)),.cells 76 [.one [.i .u64 (z.2.2.1),.i .u64 (z.2.2.2.1)]],.cells 76 [.one [.i .u64 (z.2.2.2.2.1),.i .u64 (z.2.2.2.2.2)]]])
 | _,_=>none
def qrj:{R:Type}->Nat->List V->List Obj->(Ex->List V->List Obj->Option R)->Option R:=fun q vs objs K=>bif Nat.beq q 3 then qSS vs objs K else none
def qM0:Ctx:=mkC 17 ((qE6 qK)) [(3,[2,3,6,7,8],[2,3])] qrj
theorem qdH:CtxOK Tryz.prog qM0:=mkC_ok ((qGL _ qM))
def qSR (f:Nat) (x0:Nat) (x1 x2:Int) (x3:Nat) (x4:LI) (x5 x6:Int) (x7 x8:Int):Option (Nat×LI×Int×Int×Int×Int):=qh qM0 1 [2,3,6,7,8] [2,3] (qG Tryz.f93 3) f ([.s (.ptr 1 0 none 0),.s (.ptr 2 0 none 0),.s (.sl 0 0 x0 true),.s (.i .i64 x1),.s (.i .i64 x2)]) ([.sli 3 true (.arr .i64 x3 x4),.cells 76 [.one [.i .u64 x5,.i .u64 x6]],.cells 76 [.one [.i .u64 x7,.i .u64 x8]]]) qSQ
theorem qri (f:Nat) (x0:Nat) (x1 x2:Int) (x3:Nat) (x4:LI) (x5 x6:Int) (x7 x8:Int):qSR (f+1) x0 x1 x2 x3 x4 x5 x6 x7 x8=qI2 (qSR f) x0 x1 x2 x3 x4 x5 x6 x7 x8:=by kernel_rfl
theorem qdJ:∀ f,qSR f=qGJ f
 | 0=>rfl
 | f+1=>by funext x0 x1 x2 x3 x4 x5 x6 x7 x8;rw[qri,qdJ f];rfl
theorem qrl:qg Tryz.prog qM0 1 (qG Tryz.f93 3):=
 qi mixed qdH (qQ.of (l':=[]) (by kernel_rfl) trivial) (q:=3) (kin:=[2,3,6,7,8]) (kout:=[2,3]) (by kernel_rfl) (by kernel_rfl) fun vs objs K r h=>by
  replace h:qSS vs objs K=some r:=h
  unfold qSS at h
  split at h
  ·skip
   obtain⟨t,h1,h2⟩:=qE h
   rw[<- qdJ] at h1
   refine⟨_,qSQ,t,qB,h1,fun e vs' objs' hd=>?_⟩
   unfold qSQ at hd;split at hd;(cases hd;exact h2);cases hd
  ·cases h
def qdI:V->List Obj->Option (Int×Int):=fun v objs=>match v,objs with
 | .agg [.one [.i .u64 y0,.i .u64 y1]],[]=>some (y0,y1)
 | _,_=>none
theorem qrh (x0 x1:Nat) (x2:LI):fnE qM0 Tryz.f93 ([.s (.sl 0 0 x0 true)]) ([.sli 3 true (.arr .i64 x1 x2)]) (qAf 1 qdI)=qI1 x0 x1 x2:=by kernel_rfl
def qdG:HA:=fun o vs objs K=>match vs,List.map Obj.toRO objs with
 | [.s (.sl 0 0 x0 true)],[.sli 3 true (.arr .i64 x1 x2)]=>ob (qI1 x0 x1 x2) fun z=>K true (.agg [.one [.i .u64 (z.1),.i .u64 (z.2)]]) ([])
 | _,_=>o 93 vs objs K
def qdK (o:Orc):Orc:=qN 93 (qdG o) o
theorem qrk:OQ Tryz.prog qdK:=fun _ ho=>qO ho fun vs objs K r h=>by
 unfold qdG at h
 split at h
 ·skip
  have hq:List.map Obj.toRO objs=_:=(by rename_i hq;first | exact hq | assumption)
  obtain⟨t,h1,h2⟩:=qE h
  refine qAr mixed qdH (m:=1) (fn:=Tryz.f93) (b:=(Tryz.f93).body.getD .skip) (by kernel_rfl) (by kernel_rfl) (by kernel_rfl) hq (by kernel_rfl) (by kernel_rfl) (qQ.of (l':=[qG Tryz.f93 3]) (by kernel_rfl) ⟨qrl,trivial⟩) ((qrh _ _ _).trans h1) fun v objs' hd=>?_
  unfold qdI at hd;split at hd;(cases hd;exact h2);cases hd
 ·exact ho _ _ _ _ _ h
def qd3:Ctx:=mkC 42 ((qKd (qM1 (qMv qK)))) [] qW
theorem qsl:CtxOK Tryz.prog qd3:=mkC_ok ((qM2 _ (qST _ (qSJ _ qM))))
def qd4:V->List Obj->Option (Int):=fun v objs=>match v,objs with
 | .s (.i .i64 y0),[]=>some (y0)
 | _,_=>none
theorem qsk (x0 x1 x2:Int):fnE qd3 Tryz.f112 ([.agg [.one [.i .i64 x0,.i .i64 x1]],.s (.i .i64 x2)]) ([]) qd4=qHN x0 x1 x2:=by kernel_rfl
def qd2:HA:=fun o vs objs K=>match vs,objs with
 | [.agg [.one [.i .i64 x0,.i .i64 x1]],.s (.i .i64 x2)],[]=>ob (qHN x0 x1 x2) fun y0=>K false (.s (.i .i64 y0)) ([])
 | _,_=>o 112 vs objs K
def qSn (o:Orc):Orc:=qN 112 (qd2 o) o
theorem qd5:OQ Tryz.prog qSn:=fun _ ho=>qO ho fun vs objs K r h=>by
 unfold qd2 at h
 split at h
 ·skip
  obtain⟨t,h1,h2⟩:=qE h
  refine qa mixed qsl ((qsk _ _ _).trans h1) (by kernel_rfl) fun v objs' hd=>?_
  unfold qd4 at hd;split at hd;(cases hd;exact h2);cases hd
 ·exact ho _ _ _ _ _ h
def qcm:Ctx:=mkC 16 (qK) [] qW
theorem qrN:CtxOK Tryz.prog qcm:=mkC_ok (qM)
def qcn:V->List Obj->Option (Int×Int):=fun v objs=>match v,objs with
 | .agg [.one [.i .u64 y0,.i .u64 y1]],[]=>some (y0,y1)
 | _,_=>none
theorem qrM (x0 x1:Int) (x2 x3:Int):fnE qcm Tryz.f65 ([.agg [.one [.i .u64 x0,.i .u64 x1]],.agg [.one [.i .u64 x2,.i .u64 x3]]]) ([]) qcn=qC9 x0 x1 x2 x3:=by kernel_rfl
def qcl:HA:=fun o vs objs K=>match vs,objs with
 | [.agg [.one [.i .u64 x0,.i .u64 x1]],.agg [.one [.i .u64 x2,.i .u64 x3]]],[]=>ob (qC9 x0 x1 x2 x3) fun z=>K false (.agg [.one [.i .u64 (z.1),.i .u64 (z.2)]]) ([])
 | _,_=>o 65 vs objs K
def qGI (o:Orc):Orc:=qN 65 (qcl o) o
theorem qHD:OQ Tryz.prog qGI:=fun _ ho=>qO ho fun vs objs K r h=>by
 unfold qcl at h
 split at h
 ·skip
  obtain⟨t,h1,h2⟩:=qE h
  refine qa mixed qrN ((qrM _ _ _ _).trans h1) (by kernel_rfl) fun v objs' hd=>?_
  unfold qcn at hd;split at hd;(cases hd;exact h2);cases hd
 ·exact ho _ _ _ _ _ h
def qcs:Ctx:=mkC 6 (qK) [] qW
theorem qrR:CtxOK Tryz.prog qcs:=mkC_ok (qM)
def qct:V->List Obj->Option (Bool):=fun v objs=>match v,objs with
 | .s (.b y0),[]=>some (y0)
 | _,_=>none
theorem qrQ (x0 x1:Int):fnE qcs Tryz.f51 ([.agg [.one [.i .u64 x0,.i .u64 x1]]]) ([]) qct=qE3 x0 x1:=by kernel_rfl
def qcr:HA:=fun o vs objs K=>match vs,objs with
 | [.agg [.one [.i .u64 x0,.i .u64 x1]]],[]=>ob (qE3 x0 x1) fun y0=>K false (.s (.b y0)) ([])
 | _,_=>o 51 vs objs K
def qIy (o:Orc):Orc:=qN 51 (qcr o) o
theorem qKb:OQ Tryz.prog qIy:=fun _ ho=>qO ho fun vs objs K r h=>by
 unfold qcr at h
 split at h
 ·skip
  obtain⟨t,h1,h2⟩:=qE h
  refine qa mixed qrR ((qrQ _ _).trans h1) (by kernel_rfl) fun v objs' hd=>?_
  unfold qct at hd;split at hd;(cases hd;exact h2);cases hd
 ·exact ho _ _ _ _ _ h
def qc1:Ctx:=mkC 11 ((qIy (qGI (qM7 qK)))) [] qW
theorem qrX:CtxOK Tryz.prog qc1:=mkC_ok ((qKb _ (qHD _ (qSb _ qM))))
def qc2:V->List Obj->Option (Bool):=fun v objs=>match v,objs with
 | .s (.b y0),[]=>some (y0)
 | _,_=>none
theorem qrW (x0 x1 x2:Int):fnE qc1 Tryz.f69 ([.agg [.one [.i .u64 x0,.i .u64 x1]],.s (.i .i64 x2)]) ([]) qc2=qCQ x0 x1 x2:=by kernel_rfl
def qc0:HA:=fun o vs objs K=>match vs,objs with
 | [.agg [.one [.i .u64 x0,.i .u64 x1]],.s (.i .i64 x2)],[]=>ob (qCQ x0 x1 x2) fun y0=>K false (.s (.b y0)) ([])
 | _,_=>o 69 vs objs K
def qHH (o:Orc):Orc:=qN 69 (qc0 o) o
theorem qIz:OQ Tryz.prog qHH:=fun _ ho=>qO ho fun vs objs K r h=>by
 unfold qc0 at h
 split at h
 ·skip
  obtain⟨t,h1,h2⟩:=qE h
  refine qa mixed qrX ((qrW _ _ _).trans h1) (by kernel_rfl) fun v objs' hd=>?_
  unfold qc2 at hd;split at hd;(cases hd;exact h2);cases hd
 ·exact ho _ _ _ _ _ h
end
end Go.Kk.KkWP
