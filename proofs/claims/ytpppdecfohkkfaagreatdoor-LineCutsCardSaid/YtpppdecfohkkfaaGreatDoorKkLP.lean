/- Printed by a tool of this project (KkGen): the program's functions come to the plain ones. -/
import Derived.Test.YtpppdecfohkkfaaGreatDoorProg
import Derived.Test.YtpppdecfohkkfaaGreatDoorKkTold
import Derived.Test.YtpppdecfohkkfaaGreatDoorKkPl
namespace Go.Kk.KkLP
noncomputable section
open Go.Proofs Go.Kk.Pl
set_option maxRecDepth 100000
set_option maxHeartbeats 4000000
def tab:Tab:=[(1,.sc (.f)),
 (2,.sc (.i .i64)),
 (3,.sc (.i .i64)),
 (4,.sc (.b)),
 (5,.sc (.i .u8)),
 (6,.sc (.i .u8)),
 (7,.st [.one [.i .i64,.i .i64,.b,.i .u8]] [(0,0,2),(0,1,3),(0,2,4),(0,3,6)]),
 (8,.st [.one [.i .i64,.i .i64,.b,.i .u8]] [(0,0,2),(0,1,3),(0,2,4),(0,3,6)]),
 (9,.sc (.str)),
 (10,.sc (.str)),
 (11,.sc (.str)),
 (12,.sc (.i .u64)),
 (13,.st [.one [.str,.i .u64]] [(0,0,9),(0,1,12)]),
 (14,.st [.one [.str,.i .u64]] [(0,0,9),(0,1,12)]),
 (15,.sc (.p)),
 (16,.sc (.p)),
 (17,.sc (.p)),
 (18,.st [.one [.p]] [(0,0,17)]),
 (19,.st [.one [.p]] [(0,0,17)]),
 (21,.sc (.i .i32)),
 (22,.sc (.i .i8)),
 (23,.sc (.i .i8)),
 (24,.ar 81 1 23 (.arr .i8 81)),
 (25,.ar 8 1 22 (.arr .i8 8)),
 (26,.ar 2 8 25 (.arr .i8 16)),
 (27,.st [.arr .i8 81,.arr .i8 16,.one [.i .i8]] [(0,0,24),(1,0,26),(2,0,22)]),
 (28,.st [.arr .i8 81,.arr .i8 16,.one [.i .i8]] [(0,0,24),(1,0,26),(2,0,22)]),
 (29,.sc (.sl 37)),
 (30,.sc (.f)),
 (31,.sc (.i .i64)),
 (33,.sc (.f)),
 (34,.sc (.f)),
 (35,.sc (.f)),
 (36,.st [.one [.i .i64,.i .i64,.i .i64,.b]] [(0,0,3),(0,1,3),(0,2,3),(0,3,4)]),
 (37,.st [.one [.i .i64,.i .i64,.i .i64,.b]] [(0,0,3),(0,1,3),(0,2,3),(0,3,4)]),
 (38,.sc (.f)),
 (39,.sc (.f)),
 (40,.sc (.f)),
 (41,.sc (.f)),
 (43,.sc (.f)),
 (44,.sc (.f)),
 (46,.sc (.f)),
 (47,.sc (.f)),
 (48,.sc (.sl 3)),
 (49,.sc (.f)),
 (50,.sc (.f)),
 (52,.sc (.f)),
 (53,.sc (.f)),
 (54,.sc (.f)),
 (55,.sc (.f)),
 (56,.sc (.f)),
 (57,.sc (.f)),
 (58,.sc (.p)),
 (59,.sc (.f)),
 (60,.sc (.f)),
 (61,.sc (.p)),
 (62,.sc (.i .u64)),
 (63,.sc (.i .u64)),
 (64,.sc (.sl 98)),
 (65,.st [.one [.p,.i .u64,.sl 98]] [(0,0,61),(0,1,63),(0,2,64)]),
 (66,.st [.one [.p,.i .u64,.sl 98]] [(0,0,61),(0,1,63),(0,2,64)]),
 (67,.st [.one [.i .u64,.i .u64]] [(0,0,62),(0,1,62)]),
 (68,.st [.one [.i .u64,.i .u64]] [(0,0,62),(0,1,62)]),
 (69,.ar 32 1 68 (.rows [.i .u64,.i .u64] 32)),
 (70,.ar 2 1 68 (.rows [.i .u64,.i .u64] 2)),
 (71,.st [.arr .i8 81,.arr .i8 16,.one [.i .i8],.rows [.i .u64,.i .u64] 32,.rows [.i .u64,.i .u64] 2] [(0,0,28),(3,0,69),(4,0,70)]),
 (72,.st [.arr .i8 81,.arr .i8 16,.one [.i .i8],.rows [.i .u64,.i .u64] 32,.rows [.i .u64,.i .u64] 2] [(0,0,28),(3,0,69),(4,0,70)]),
 (73,.sc (.f)),
 (74,.sc (.f)),
 (75,.sc (.f)),
 (76,.sc (.f)),
 (77,.sc (.sl 9)),
 (78,.sc (.f)),
 (79,.sc (.f)),
 (81,.sc (.f)),
 (82,.sc (.f)),
 (83,.sc (.f)),
 (84,.sc (.f)),
 (85,.sc (.f)),
 (86,.sc (.f)),
 (87,.ar 81 1 4 (.barr 81)),
 (88,.sc (.f)),
 (89,.sc (.f)),
 (90,.sc (.f)),
 (91,.ar 9 1 3 (.arr .i64 9)),
 (92,.sc (.f)),
 (93,.sc (.f)),
 (94,.sc (.f)),
 (95,.sc (.f)),
 (96,.sc (.f)),
 (97,.st [.one [.i .i64,.i .i64,.i .i64,.b,.i .i8,.i .i8]] [(0,0,37),(0,4,23),(0,5,23)]),
 (98,.st [.one [.i .i64,.i .i64,.i .i64,.b,.i .i8,.i .i8]] [(0,0,37),(0,4,23),(0,5,23)]),
 (99,.sc (.f)),
 (100,.sc (.f)),
 (101,.sc (.f)),
 (102,.sc (.f)),
 (103,.sc (.f)),
 (104,.sc (.f)),
 (105,.sc (.f)),
 (106,.sc (.f)),
 (107,.sc (.p)),
 (108,.sc (.sl 5)),
 (109,.st [.one [.p,.sl 5]] [(0,0,107),(0,1,108)]),
 (110,.st [.one [.p,.sl 5]] [(0,0,107),(0,1,108)]),
 (111,.sc (.f)),
 (115,.sc (.f)),
 (116,.sc (.f)),
 (117,.sc (.f)),
 (118,.sc (.sl 21)),
 (119,.sc (.f)),
 (121,.sc (.f)),
 (122,.sc (.f)),
 (123,.sc (.f)),
 (124,.ar 2 1 3 (.arr .i64 2)),
 (125,.sc (.f)),
 (126,.sc (.f)),
 (127,.sc (.f)),
 (128,.sc (.m 3 68)),
 (129,.st [.one [.p,.i .i64,.i .i64,.i .u64,.i .u64,.m 3 68,.b]] [(0,0,61),(0,1,3),(0,2,3),(0,3,68),(0,5,128),(0,6,4)]),
 (130,.st [.one [.p,.i .i64,.i .i64,.i .u64,.i .u64,.m 3 68,.b]] [(0,0,61),(0,1,3),(0,2,3),(0,3,68),(0,5,128),(0,6,4)]),
 (131,.sc (.f)),
 (132,.sc (.f)),
 (133,.sc (.f)),
 (134,.sc (.p)),
 (135,.sc (.f)),
 (136,.sc (.f)),
 (137,.sc (.f)),
 (138,.sc (.f)),
 (139,.sc (.f)),
 (140,.sc (.f)),
 (141,.sc (.f)),
 (142,.sc (.f)),
 (143,.sc (.f)),
 (144,.sc (.f)),
 (145,.sc (.f)),
 (146,.sc (.f)),
 (147,.sc (.f)),
 (149,.sc (.f)),
 (150,.sc (.f)),
 (152,.sc (.f)),
 (153,.sc (.f)),
 (155,.sc (.f)),
 (156,.sc (.f)),
 (158,.sc (.f)),
 (159,.sc (.f)),
 (160,.sc (.i .u64)),
 (161,.sc (.sl 164)),
 (162,.sc (.f)),
 (163,.st [.one [.i .i64,.i .i64]] [(0,0,3),(0,1,3)]),
 (164,.st [.one [.i .i64,.i .i64]] [(0,0,3),(0,1,3)]),
 (165,.sc (.f)),
 (166,.sc (.f)),
 (167,.sc (.f)),
 (168,.sc (.f)),
 (169,.ar 64 1 5 (.arr .u8 64)),
 (170,.ar 256 1 5 (.arr .u8 256)),
 (171,.st [.one [.i .u8,.i .u8]] [(0,0,5),(0,1,5)]),
 (172,.st [.one [.i .u8,.i .u8]] [(0,0,5),(0,1,5)]),
 (173,.ar 16 1 172 (.rows [.i .u8,.i .u8] 16)),
 (174,.sc (.i .u32)),
 (176,.sc (.f)),
 (177,.st [.one [.p,.p,.p,.str]] [(0,0,17),(0,1,17),(0,2,17),(0,3,9)]),
 (178,.st [.one [.p,.p,.p,.str]] [(0,0,17),(0,1,17),(0,2,17),(0,3,9)]),
 (182,.sc (.i .u8)),
 (183,.sc (.i .u8)),
 (184,.sc (.f)),
 (185,.sc (.i .i32)),
 (186,.sc (.i .i32)),
 (187,.st [.one [.i .u64,.i .u64,.i .u32,.i .u8,.i .u8,.i .u8,.i .u8,.f,.p,.i .i32,.i .i32]] [(0,0,12),(0,1,12),(0,2,174),(0,3,182),(0,4,5),(0,5,5),(0,6,183),(0,7,184),(0,8,134),(0,9,185),(0,10,186)]),
 (188,.st [.one [.i .u64,.i .u64,.i .u32,.i .u8,.i .u8,.i .u8,.i .u8,.f,.p,.i .i32,.i .i32]] [(0,0,12),(0,1,12),(0,2,174),(0,3,182),(0,4,5),(0,5,5),(0,6,183),(0,7,184),(0,8,134),(0,9,185),(0,10,186)])]
def eqs:List TypeId:=[3,9,24,25,26,27,28,31,36,37,67,68,124,163,164]
def bytes:List (TypeId×Nat):=[(37,32),(3,8),(98,40),(9,16),(5,1),(21,4),(164,16)]
theorem mixed:Tryz.prog.follows .mixedOrders=true:=by kernel_rfl
theorem tab_ok:∀ t L,Tab.get tab t=some L->LayOK Tryz.prog tab t L:=qfd (P:=Tryz.prog) (tab:=tab) (l:=tab) (by kernel_rfl)
theorem eqs_ok:∀ t L,qEV t eqs=true->Tab.get tab t=some L->∃ f ck,f<=10000 /\ qBB Tryz.prog f t=some ck /\ qBV L.segTs=some ck /\ Tryz.prog.eqGuardType Tryz.prog.depth t=false:=qV9 (P:=Tryz.prog) (tab:=tab) (l:=eqs) (by kernel_rfl)
theorem bytes_ok:∀ t n,byN t bytes=some n->∃ i,Tryz.prog.info? t=some i /\ i.bytes=n:=qVG (P:=Tryz.prog) (l:=bytes) (by kernel_rfl)
def mkC (nt:Nat) (orc:Orc) (keeps:List (Nat×List Nat×List Nat)) (lp:{R:Type}->Nat->List V->List Obj->(Ex->List V->List Obj->Option R)->Option R):Ctx:={tab:=tab,eqs:=eqs,bytes:=bytes,nt:=nt,orc:=orc,keeps:=keeps,lp:=lp}
theorem exts_ok:qNF Tryz.prog:=exts_told
theorem mkC_ok {nt:Nat} {orc:Orc} {keeps:List (Nat×List Nat×List Nat)} {lp:{R:Type}->Nat->List V->List Obj->(Ex->List V->List Obj->Option R)->Option R} (h:qC4 Tryz.prog orc):CtxOK Tryz.prog (mkC nt orc keeps lp):=⟨tab_ok,h,eqs_ok,bytes_ok,fun _ _ _=>rfl,exts_ok⟩
def set_Squarec:Ctx:=mkC 23 (qI) [] qU
theorem set_Squarec_ok:CtxOK Tryz.prog set_Squarec:=mkC_ok (qK)
def set_Squared:V->List Obj->Option (Int):=fun v objs=>match v,objs with
 | .s (.i .i64 y0),[]=>some (y0)
 | _,_=>none
theorem set_Square_eq (x0 x1:Int):fnE set_Squarec Tryz.f50 ([.s (.i .i64 x0),.s (.i .i64 x1)]) ([]) set_Squared=qCe x0 x1:=by kernel_rfl
def set_Squarea:HA:=fun o vs objs K=>match vs,objs with
 | [.s (.i .i64 x0),.s (.i .i64 x1)],[]=>ob (qCe x0 x1) fun y0=>K false (.s (.i .i64 y0)) ([])
 | _,_=>o 50 vs objs K
def set_Squareo (o:Orc):Orc:=qJ 50 (set_Squarea o) o
theorem set_Squareo_ok:OQ Tryz.prog set_Squareo:=fun _ ho=>qL ho fun vs objs K r h=>by
 unfold set_Squarea at h
 split at h
 ·skip
  obtain⟨t,h1,h2⟩:=qE h
  refine qa mixed set_Squarec_ok ((set_Square_eq _ _).trans h1) (by kernel_rfl) fun v objs' hd=>?_
  unfold set_Squared at hd;split at hd;(cases hd;exact h2);cases hd
 ·exact ho _ _ _ _ _ h
def qUu:Ctx:=mkC 14 ((set_Squareo qI)) [] qU
theorem qhx:CtxOK Tryz.prog qUu:=mkC_ok ((set_Squareo_ok _ qK))
def qUv:V->List Obj->Option (Int):=fun v objs=>match v,objs with
 | .s (.i .i64 y0),[]=>some (y0)
 | _,_=>none
theorem qhw (x0 x1 x2:Int):fnE qUu Tryz.f49 ([.s (.i .i64 x0),.s (.ptr 0 0 none 0),.s (.ptr 1 0 none 0)]) ([.rcells 3 [.one [.i .i64 x1]],.rcells 3 [.one [.i .i64 x2]]]) (qAM 2 qUv)=qKa x0 x1 x2:=by kernel_rfl
def qUt:HA:=fun o vs objs K=>match vs,List.map Obj.toRO objs with
 | [.s (.i .i64 x0),.s (.ptr 0 0 none 0),.s (.ptr 1 0 none 0)],[.rcells 3 [.one [.i .i64 x1]],.rcells 3 [.one [.i .i64 x2]]]=>ob (qKa x0 x1 x2) fun y0=>K true (.s (.i .i64 y0)) ([])
 | _,_=>o 49 vs objs K
def qUw (o:Orc):Orc:=qJ 49 (qUt o) o
theorem qhy:OQ Tryz.prog qUw:=fun _ ho=>qL ho fun vs objs K r h=>by
 unfold qUt at h
 split at h
 ·skip
  have hq:List.map Obj.toRO objs=_:=(by rename_i hq;first | exact hq | assumption)
  obtain⟨t,h1,h2⟩:=qE h
  refine qAj mixed qhx (m:=2) (fn:=Tryz.f49) (b:=(Tryz.f49).body.getD .skip) (by kernel_rfl) (by kernel_rfl) (by kernel_rfl) hq (by kernel_rfl) (by kernel_rfl) (qM.of (l':=[]) (by kernel_rfl) trivial) ((qhw _ _ _).trans h1) fun v objs' hd=>?_
  unfold qUv at hd;split at hd;(cases hd;exact h2);cases hd
 ·exact ho _ _ _ _ _ h
def qZl:Ctx:=mkC 28 (qI) [] qU
theorem qoQ:CtxOK Tryz.prog qZl:=mkC_ok (qK)
def qZm:V->List Obj->Option (Int):=fun v objs=>match v,objs with
 | .s (.i .i8 y0),[]=>some (y0)
 | _,_=>none
theorem qoP (x0 x1:Int):fnE qZl Tryz.f51 ([.s (.i .i64 x0),.s (.i .i64 x1)]) ([]) qZm=qAi x0 x1:=by kernel_rfl
def qZk:HA:=fun o vs objs K=>match vs,objs with
 | [.s (.i .i64 x0),.s (.i .i64 x1)],[]=>ob (qAi x0 x1) fun y0=>K false (.s (.i .i8 y0)) ([])
 | _,_=>o 51 vs objs K
def qDo (o:Orc):Orc:=qJ 51 (qZk o) o
theorem qEY:OQ Tryz.prog qDo:=fun _ ho=>qL ho fun vs objs K r h=>by
 unfold qZk at h
 split at h
 ·skip
  obtain⟨t,h1,h2⟩:=qE h
  refine qa mixed qoQ ((qoP _ _).trans h1) (by kernel_rfl) fun v objs' hd=>?_
  unfold qZm at hd;split at hd;(cases hd;exact h2);cases hd
 ·exact ho _ _ _ _ _ h
def qN5:Ex->List V->List Obj->Option (Int×LI×LI×Int×LI×LI×Int×LI):=fun e vs objs=>match e,vs,objs with
 | .exit 2,[.s (.ptr 0 0 none 0),.s (.ptr 1 0 none 0),.s (.ptr 2 0 none 0),.s (.i .i64 y0)],[.cells 28 [.arr .i8 81 y1,.arr .i8 16 y2,.one [.i .i8 y3]],.cells 28 [.arr .i8 81 y4,.arr .i8 16 y5,.one [.i .i8 y6]],.cells 91 [.arr .i64 9 y7]]=>some (y0,y1,y2,y3,y4,y5,y6,y7)
 | _,_,_=>none
def qN3:Ex->List V->List Obj->Option (LI×LI×Int×LI×LI×Int):=fun e vs objs=>match e,vs,objs with
 | .exit 0,[.s (.ptr 0 0 none 0),.s (.ptr 1 0 none 0)],[.cells 28 [.arr .i8 81 y0,.arr .i8 16 y1,.one [.i .i8 y2]],.cells 28 [.arr .i8 81 y3,.arr .i8 16 y4,.one [.i .i8 y5]]]=>some (y0,y1,y2,y3,y4,y5)
 | _,_,_=>none
def qN8:HL:=fun vs objs K=>match vs,objs with
 | [.s (.ptr 0 0 none 0),.s (.ptr 1 0 none 0),.s (.ptr 2 0 none 0),.s (.ptr 3 0 none 0),.s (.i .i64 x0),.s (.i .i64 x1)],[.cells 28 [.arr .i8 81 x2,.arr .i8 16 x3,.one [.i .i8 x4]],.cells 28 [.arr .i8 81 x5,.arr .i8 16 x6,.one [.i .i8 x7]],.cells 91 [.arr .i64 9 x8],.cells 3 [.one [.i .i64 x9]]]=>ob (qKc qB x0 x1 x2 x3 x4 x5 x6 x7 x8 x9) fun z=>K (.exit 2) ([.s (.ptr 0 0 none 0),.s (.ptr 1 0 none 0),.s (.ptr 2 0 none 0),.s (.i .i64 (z.1))]) ([.cells 28 [.arr .i8 81 (z.2.1),.arr .i8 16 (z.2.2.1),.one [.i .i8 (z.2.2.2.1)]],.cells 28 [.arr .i8 81 (z.2.2.2.2.1),.arr .i8 16 (z.2.2.2.2.2.1),.one [.i .i8 (z.2.2.2.2.2.2.1)]],.cells 91 [.arr .i64 9 (z.2.2.2.2.2.2.2)]])
 | _,_=>none
def qN7:HL:=fun vs objs K=>match vs,objs with
 | [.s (.ptr 0 0 none 0),.s (.ptr 1 0 none 0),.s (.ptr 2 0 none 0),.s (.i .i64 x0)],[.cells 28 [.arr .i8 81 x1,.arr .i8 16 x2,.one [.i .i8 x3]],.cells 28 [.arr .i8 81 x4,.arr .i8 16 x5,.one [.i .i8 x6]],.cells 91 [.arr .i64 9 x7]]=>ob (qKb qB x0 x1 x2 x3 x4 x5 x6 x7) fun z=>K (.exit 0) ([.s (.ptr 0 0 none 0),.s (.ptr 1 0 none 0)]) ([.cells 28 [.arr .i8 81 (z.1),.arr .i8 16 (z.2.1),.one [.i .i8 (z.2.2.1)]],.cells 28 [.arr .i8 81 (z.2.2.2.1),.arr .i8 16 (z.2.2.2.2.1),.one [.i .i8 (z.2.2.2.2.2)]]])
 | _,_=>none
def qh2:{R:Type}->Nat->List V->List Obj->(Ex->List V->List Obj->Option R)->Option R:=fun q vs objs K=>bif Nat.beq q 7 then qN8 vs objs K else bif Nat.beq q 4 then qN7 vs objs K else none
def qHB:Ctx:=mkC 44 ((set_Squareo (qDo (qUw qI)))) [(4,[0,1,2,7],[0,1]),(7,[0,1,2,3,7,10],[0,1,2,7])] qh2
theorem qN2:CtxOK Tryz.prog qHB:=mkC_ok ((set_Squareo_ok _ (qEY _ (qhy _ qK))))
def qN6 (f:Nat) (x0 x1:Int) (x2 x3:LI) (x4:Int) (x5 x6:LI) (x7:Int) (x8:LI) (x9:Int):Option (Int×LI×LI×Int×LI×LI×Int×LI):=qf qHB 0 [0,1,2,3,7,10] [0,1,2,7] (qD Tryz.f22 7) f ([.s (.ptr 0 0 none 0),.s (.ptr 1 0 none 0),.s (.ptr 2 0 none 0),.s (.ptr 3 0 none 0),.s (.i .i64 x0),.s (.i .i64 x1)]) ([.cells 28 [.arr .i8 81 x2,.arr .i8 16 x3,.one [.i .i8 x4]],.cells 28 [.arr .i8 81 x5,.arr .i8 16 x6,.one [.i .i8 x7]],.cells 91 [.arr .i64 9 x8],.cells 3 [.one [.i .i64 x9]]]) qN5
theorem qh1 (f:Nat) (x0 x1:Int) (x2 x3:LI) (x4:Int) (x5 x6:LI) (x7:Int) (x8:LI) (x9:Int):qN6 (f+1) x0 x1 x2 x3 x4 x5 x6 x7 x8 x9=qU2 (qN6 f) x0 x1 x2 x3 x4 x5 x6 x7 x8 x9:=by kernel_rfl
theorem qU1:∀ f,qN6 f=qKc f
 | 0=>rfl
 | f+1=>by funext x0 x1 x2 x3 x4 x5 x6 x7 x8 x9;rw[qh1,qU1 f];rfl
def qN4 (f:Nat) (x0:Int) (x1 x2:LI) (x3:Int) (x4 x5:LI) (x6:Int) (x7:LI):Option (LI×LI×Int×LI×LI×Int):=qf qHB 0 [0,1,2,7] [0,1] (qD Tryz.f22 4) f ([.s (.ptr 0 0 none 0),.s (.ptr 1 0 none 0),.s (.ptr 2 0 none 0),.s (.i .i64 x0)]) ([.cells 28 [.arr .i8 81 x1,.arr .i8 16 x2,.one [.i .i8 x3]],.cells 28 [.arr .i8 81 x4,.arr .i8 16 x5,.one [.i .i8 x6]],.cells 91 [.arr .i64 9 x7]]) qN3
theorem qh0 (f:Nat) (x0:Int) (x1 x2:LI) (x3:Int) (x4 x5:LI) (x6:Int) (x7:LI):qN4 (f+1) x0 x1 x2 x3 x4 x5 x6 x7=qU0 (qN4 f) x0 x1 x2 x3 x4 x5 x6 x7:=by kernel_rfl
theorem qUz:∀ f,qN4 f=qKb f
 | 0=>rfl
 | f+1=>by funext x0 x1 x2 x3 x4 x5 x6 x7;rw[qh0,qUz f];rfl
theorem qh5:qZ Tryz.prog qHB 0 (qD Tryz.f22 7):=
 qg mixed qN2 (qM.of (l':=[]) (by kernel_rfl) trivial) (q:=7) (kin:=[0,1,2,3,7,10]) (kout:=[0,1,2,7]) (by kernel_rfl) (by kernel_rfl) fun vs objs K r h=>by
  replace h:qN8 vs objs K=some r:=h
  unfold qN8 at h
  split at h
  ·skip
   obtain⟨t,h1,h2⟩:=qE h
   rw[<- qU1] at h1
   refine⟨_,qN5,t,qB,h1,fun e vs' objs' hd=>?_⟩
   unfold qN5 at hd;split at hd;(cases hd;exact h2);cases hd
  ·cases h
theorem qh4:qZ Tryz.prog qHB 0 (qD Tryz.f22 4):=
 qg mixed qN2 (qM.of (l':=[qD Tryz.f22 7]) (by kernel_rfl) ⟨qh5,trivial⟩) (q:=4) (kin:=[0,1,2,7]) (kout:=[0,1]) (by kernel_rfl) (by kernel_rfl) fun vs objs K r h=>by
  replace h:qN7 vs objs K=some r:=h
  unfold qN7 at h
  split at h
  ·skip
   obtain⟨t,h1,h2⟩:=qE h
   rw[<- qUz] at h1
   refine⟨_,qN3,t,qB,h1,fun e vs' objs' hd=>?_⟩
   unfold qN3 at hd;split at hd;(cases hd;exact h2);cases hd
  ·cases h
def qUy:V->List Obj->Option (LI×LI×Int):=fun v objs=>match v,objs with
 | .agg [.arr .i8 81 y0,.arr .i8 16 y1,.one [.i .i8 y2]],[]=>some (y0,y1,y2)
 | _,_=>none
theorem qhz:fnE qHB Tryz.f22 ([]) ([]) qUy=qN1  := by kernel_rfl
def qUx:HA:=fun o vs objs K=>match vs,objs with
 | [],[]=>ob (qN1 ) fun z=>K false (.agg [.arr .i8 81 (z.1),.arr .i8 16 (z.2.1),.one [.i .i8 (z.2.2)]]) ([])
 | _,_=>o 22 vs objs K
def qU3 (o:Orc):Orc:=qJ 22 (qUx o) o
theorem qh3:OQ Tryz.prog qU3:=fun _ ho=>qL ho fun vs objs K r h=>by
 unfold qUx at h
 split at h
 ·skip
  obtain⟨t,h1,h2⟩:=qE h
  refine q7 mixed qN2 (fn:=Tryz.f22) (b:=(Tryz.f22).body.getD .skip) (by kernel_rfl) (by kernel_rfl) (by kernel_rfl) ((qhz).trans h1) (m:=0) rfl (qM.of (l':=[qD Tryz.f22 4]) (by kernel_rfl) ⟨qh4,trivial⟩) fun v objs' hd=>?_
  unfold qUy at hd;split at hd;(cases hd;exact h2);cases hd
 ·exact ho _ _ _ _ _ h
def qZe:Ctx:=mkC 28 (qI) [] qU
theorem qoL:CtxOK Tryz.prog qZe:=mkC_ok (qK)
def qZf:V->List Obj->Option (Int):=fun v objs=>match v,objs with
 | .s (.i .i64 y0),[]=>some (y0)
 | _,_=>none
theorem qoK (x0:Int):fnE qZe Tryz.f60 ([.s (.i .i8 x0)]) ([]) qZf=qAD x0:=by kernel_rfl
def qZd:HA:=fun o vs objs K=>match vs,objs with
 | [.s (.i .i8 x0)],[]=>ob (qAD x0) fun y0=>K false (.s (.i .i64 y0)) ([])
 | _,_=>o 60 vs objs K
def qCy (o:Orc):Orc:=qJ 60 (qZd o) o
theorem qDG:OQ Tryz.prog qCy:=fun _ ho=>qL ho fun vs objs K r h=>by
 unfold qZd at h
 split at h
 ·skip
  obtain⟨t,h1,h2⟩:=qE h
  refine qa mixed qoL ((qoK _).trans h1) (by kernel_rfl) fun v objs' hd=>?_
  unfold qZf at hd;split at hd;(cases hd;exact h2);cases hd
 ·exact ho _ _ _ _ _ h
def qZx:Ctx:=mkC 10 ((qCy qI)) [] qU
theorem qoZ:CtxOK Tryz.prog qZx:=mkC_ok ((qDG _ qK))
def qZy:V->List Obj->Option (Int):=fun v objs=>match v,objs with
 | .s (.i .i64 y0),[]=>some (y0)
 | _,_=>none
theorem qoY (x0:Int):fnE qZx Tryz.f82 ([.s (.i .i8 x0)]) ([]) qZy=qAQ x0:=by kernel_rfl
def qZw:HA:=fun o vs objs K=>match vs,objs with
 | [.s (.i .i8 x0)],[]=>ob (qAQ x0) fun y0=>K false (.s (.i .i64 y0)) ([])
 | _,_=>o 82 vs objs K
def qDp (o:Orc):Orc:=qJ 82 (qZw o) o
theorem qEZ:OQ Tryz.prog qDp:=fun _ ho=>qL ho fun vs objs K r h=>by
 unfold qZw at h
 split at h
 ·skip
  obtain⟨t,h1,h2⟩:=qE h
  refine qa mixed qoZ ((qoY _).trans h1) (by kernel_rfl) fun v objs' hd=>?_
  unfold qZy at hd;split at hd;(cases hd;exact h2);cases hd
 ·exact ho _ _ _ _ _ h
def qZu:Ctx:=mkC 13 ((qDo qI)) [] qU
theorem qoX:CtxOK Tryz.prog qZu:=mkC_ok ((qEY _ qK))
def qZv:V->List Obj->Option (Int):=fun v objs=>match v,objs with
 | .s (.i .i64 y0),[]=>some (y0)
 | _,_=>none
theorem qoW (x0:Int):fnE qZu Tryz.f61 ([.s (.i .i64 x0)]) ([]) qZv=qCz x0:=by kernel_rfl
def qZt:HA:=fun o vs objs K=>match vs,objs with
 | [.s (.i .i64 x0)],[]=>ob (qCz x0) fun y0=>K false (.s (.i .i64 y0)) ([])
 | _,_=>o 61 vs objs K
def qLu (o:Orc):Orc:=qJ 61 (qZt o) o
theorem qQZ:OQ Tryz.prog qLu:=fun _ ho=>qL ho fun vs objs K r h=>by
 unfold qZt at h
 split at h
 ·skip
  obtain⟨t,h1,h2⟩:=qE h
  refine qa mixed qoX ((qoW _).trans h1) (by kernel_rfl) fun v objs' hd=>?_
  unfold qZv at hd;split at hd;(cases hd;exact h2);cases hd
 ·exact ho _ _ _ _ _ h
def qZ0:Ctx:=mkC 15 (qI) [] qU
theorem qob:CtxOK Tryz.prog qZ0:=mkC_ok (qK)
def qZ1:V->List Obj->Option (Int):=fun v objs=>match v,objs with
 | .s (.i .i64 y0),[]=>some (y0)
 | _,_=>none
theorem qoa (x0:Int):fnE qZ0 Tryz.f90 ([.s (.i .i64 x0)]) ([]) qZ1=qLv x0:=by kernel_rfl
def qZz:HA:=fun o vs objs K=>match vs,objs with
 | [.s (.i .i64 x0)],[]=>ob (qLv x0) fun y0=>K false (.s (.i .i64 y0)) ([])
 | _,_=>o 90 vs objs K
def qZ2 (o:Orc):Orc:=qJ 90 (qZz o) o
theorem qoc:OQ Tryz.prog qZ2:=fun _ ho=>qL ho fun vs objs K r h=>by
 unfold qZz at h
 split at h
 ·skip
  obtain⟨t,h1,h2⟩:=qE h
  refine qa mixed qob ((qoa _).trans h1) (by kernel_rfl) fun v objs' hd=>?_
  unfold qZ1 at hd;split at hd;(cases hd;exact h2);cases hd
 ·exact ho _ _ _ _ _ h
def qd2:Ctx:=mkC 5 (qI) [] qU
theorem qse:CtxOK Tryz.prog qd2:=mkC_ok (qK)
def qd3:V->List Obj->Option (Int):=fun v objs=>match v,objs with
 | .s (.i .i64 y0),[]=>some (y0)
 | _,_=>none
theorem qsd (x0:Int):fnE qd2 Tryz.f105 ([.s (.i .i64 x0)]) ([]) qd3=qFs x0:=by kernel_rfl
def qd1:HA:=fun o vs objs K=>match vs,objs with
 | [.s (.i .i64 x0)],[]=>ob (qFs x0) fun y0=>K false (.s (.i .i64 y0)) ([])
 | _,_=>o 105 vs objs K
def qMh (o:Orc):Orc:=qJ 105 (qd1 o) o
theorem qSb:OQ Tryz.prog qMh:=fun _ ho=>qL ho fun vs objs K r h=>by
 unfold qd1 at h
 split at h
 ·skip
  obtain⟨t,h1,h2⟩:=qE h
  refine qa mixed qse ((qsd _).trans h1) (by kernel_rfl) fun v objs' hd=>?_
  unfold qd3 at hd;split at hd;(cases hd;exact h2);cases hd
 ·exact ho _ _ _ _ _ h
def qei:Ctx:=mkC 23 ((qMh qI)) [] qU
theorem qtW:CtxOK Tryz.prog qei:=mkC_ok ((qSb _ qK))
def qej:V->List Obj->Option (Int):=fun v objs=>match v,objs with
 | .s (.i .i64 y0),[]=>some (y0)
 | _,_=>none
theorem qtV (x0 x1:Int):fnE qei Tryz.f144 ([.s (.i .i64 x0),.s (.i .i64 x1)]) ([]) qej=qFw x0 x1:=by kernel_rfl
def qeh:HA:=fun o vs objs K=>match vs,objs with
 | [.s (.i .i64 x0),.s (.i .i64 x1)],[]=>ob (qFw x0 x1) fun y0=>K false (.s (.i .i64 y0)) ([])
 | _,_=>o 144 vs objs K
def qSv (o:Orc):Orc:=qJ 144 (qeh o) o
theorem qek:OQ Tryz.prog qSv:=fun _ ho=>qL ho fun vs objs K r h=>by
 unfold qeh at h
 split at h
 ·skip
  obtain⟨t,h1,h2⟩:=qE h
  refine qa mixed qtW ((qtV _ _).trans h1) (by kernel_rfl) fun v objs' hd=>?_
  unfold qej at hd;split at hd;(cases hd;exact h2);cases hd
 ·exact ho _ _ _ _ _ h
def qeV:Ctx:=mkC 25 ((qCy (qSv (qDp qI)))) [] qU
theorem qtL:CtxOK Tryz.prog qeV:=mkC_ok ((qDG _ (qek _ (qEZ _ qK))))
def qeW:V->List Obj->Option (Bool):=fun v objs=>match v,objs with
 | .s (.b y0),[]=>some (y0)
 | _,_=>none
theorem qtK (x0 x1:Int):fnE qeV Tryz.f118 ([.s (.i .i8 x0),.s (.i .i64 x1)]) ([]) qeW=qEC x0 x1:=by kernel_rfl
def qeU:HA:=fun o vs objs K=>match vs,objs with
 | [.s (.i .i8 x0),.s (.i .i64 x1)],[]=>ob (qEC x0 x1) fun y0=>K false (.s (.b y0)) ([])
 | _,_=>o 118 vs objs K
def qMs (o:Orc):Orc:=qJ 118 (qeU o) o
theorem qSr:OQ Tryz.prog qMs:=fun _ ho=>qL ho fun vs objs K r h=>by
 unfold qeU at h
 split at h
 ·skip
  obtain⟨t,h1,h2⟩:=qE h
  refine qa mixed qtL ((qtK _ _).trans h1) (by kernel_rfl) fun v objs' hd=>?_
  unfold qeW at hd;split at hd;(cases hd;exact h2);cases hd
 ·exact ho _ _ _ _ _ h
def qeF:Ctx:=mkC 21 (qI) [] qU
theorem qsr:CtxOK Tryz.prog qeF:=mkC_ok (qK)
def qeG:V->List Obj->Option (Int×Int):=fun v objs=>match v,objs with
 | .agg [.one [.i .u64 y0,.i .u64 y1]],[]=>some (y0,y1)
 | _,_=>none
theorem qsq (x0:Int):fnE qeF Tryz.f142 ([.s (.i .i64 x0)]) ([]) qeG=qFu x0:=by kernel_rfl
def qeE:HA:=fun o vs objs K=>match vs,objs with
 | [.s (.i .i64 x0)],[]=>ob (qFu x0) fun z=>K false (.agg [.one [.i .u64 (z.1),.i .u64 (z.2)]]) ([])
 | _,_=>o 142 vs objs K
def qMm (o:Orc):Orc:=qJ 142 (qeE o) o
theorem qSj:OQ Tryz.prog qMm:=fun _ ho=>qL ho fun vs objs K r h=>by
 unfold qeE at h
 split at h
 ·skip
  obtain⟨t,h1,h2⟩:=qE h
  refine qa mixed qsr ((qsq _).trans h1) (by kernel_rfl) fun v objs' hd=>?_
  unfold qeG at hd;split at hd;(cases hd;exact h2);cases hd
 ·exact ho _ _ _ _ _ h
def qdn:Ctx:=mkC 16 (qI) [] qU
theorem qsS:CtxOK Tryz.prog qdn:=mkC_ok (qK)
def qdo:V->List Obj->Option (Int×Int):=fun v objs=>match v,objs with
 | .agg [.one [.i .u64 y0,.i .u64 y1]],[]=>some (y0,y1)
 | _,_=>none
theorem qsR (x0 x1:Int) (x2 x3:Int):fnE qdn Tryz.f131 ([.agg [.one [.i .u64 x0,.i .u64 x1]],.agg [.one [.i .u64 x2,.i .u64 x3]]]) ([]) qdo=qFq x0 x1 x2 x3:=by kernel_rfl
def qdm:HA:=fun o vs objs K=>match vs,objs with
 | [.agg [.one [.i .u64 x0,.i .u64 x1]],.agg [.one [.i .u64 x2,.i .u64 x3]]],[]=>ob (qFq x0 x1 x2 x3) fun z=>K false (.agg [.one [.i .u64 (z.1),.i .u64 (z.2)]]) ([])
 | _,_=>o 131 vs objs K
def qMf (o:Orc):Orc:=qJ 131 (qdm o) o
theorem qSX:OQ Tryz.prog qMf:=fun _ ho=>qL ho fun vs objs K r h=>by
 unfold qdm at h
 split at h
 ·skip
  obtain⟨t,h1,h2⟩:=qE h
  refine qa mixed qsS ((qsR _ _ _ _).trans h1) (by kernel_rfl) fun v objs' hd=>?_
  unfold qdo at hd;split at hd;(cases hd;exact h2);cases hd
 ·exact ho _ _ _ _ _ h
def qeC:Ctx:=mkC 9 ((qMf (qMm qI))) [] qU
theorem qso:CtxOK Tryz.prog qeC:=mkC_ok ((qSX _ (qSj _ qK)))
def qeD:V->List Obj->Option (Int×Int):=fun v objs=>match v,objs with
 | .agg [.one [.i .u64 y0,.i .u64 y1]],[]=>some (y0,y1)
 | _,_=>none
theorem qsn (x0 x1 x2:Int):fnE qeC Tryz.f114 ([.agg [.one [.i .u64 x0,.i .u64 x1]],.s (.i .i64 x2)]) ([]) qeD=qEk x0 x1 x2:=by kernel_rfl
def qeB:HA:=fun o vs objs K=>match vs,objs with
 | [.agg [.one [.i .u64 x0,.i .u64 x1]],.s (.i .i64 x2)],[]=>ob (qEk x0 x1 x2) fun z=>K false (.agg [.one [.i .u64 (z.1),.i .u64 (z.2)]]) ([])
 | _,_=>o 114 vs objs K
def qJz (o:Orc):Orc:=qJ 114 (qeB o) o
theorem qMl:OQ Tryz.prog qJz:=fun _ ho=>qL ho fun vs objs K r h=>by
 unfold qeB at h
 split at h
 ·skip
  obtain⟨t,h1,h2⟩:=qE h
  refine qa mixed qso ((qsn _ _ _).trans h1) (by kernel_rfl) fun v objs' hd=>?_
  unfold qeD at hd;split at hd;(cases hd;exact h2);cases hd
 ·exact ho _ _ _ _ _ h
def qdz:Ctx:=mkC 16 (qI) [] qU
theorem qsc:CtxOK Tryz.prog qdz:=mkC_ok (qK)
def qd0:V->List Obj->Option (Int×Int):=fun v objs=>match v,objs with
 | .agg [.one [.i .u64 y0,.i .u64 y1]],[]=>some (y0,y1)
 | _,_=>none
theorem qsb (x0 x1:Int) (x2 x3:Int):fnE qdz Tryz.f127 ([.agg [.one [.i .u64 x0,.i .u64 x1]],.agg [.one [.i .u64 x2,.i .u64 x3]]]) ([]) qd0=qD9 x0 x1 x2 x3:=by kernel_rfl
def qdy:HA:=fun o vs objs K=>match vs,objs with
 | [.agg [.one [.i .u64 x0,.i .u64 x1]],.agg [.one [.i .u64 x2,.i .u64 x3]]],[]=>ob (qD9 x0 x1 x2 x3) fun z=>K false (.agg [.one [.i .u64 (z.1),.i .u64 (z.2)]]) ([])
 | _,_=>o 127 vs objs K
def qGo (o:Orc):Orc:=qJ 127 (qdy o) o
theorem qIZ:OQ Tryz.prog qGo:=fun _ ho=>qL ho fun vs objs K r h=>by
 unfold qdy at h
 split at h
 ·skip
  obtain⟨t,h1,h2⟩:=qE h
  refine qa mixed qsc ((qsb _ _ _ _).trans h1) (by kernel_rfl) fun v objs' hd=>?_
  unfold qd0 at hd;split at hd;(cases hd;exact h2);cases hd
 ·exact ho _ _ _ _ _ h
def qd9:Ctx:=mkC 9 ((qGo (qMm qI))) [] qU
theorem qsm:CtxOK Tryz.prog qd9:=mkC_ok ((qIZ _ (qSj _ qK)))
def qeA:V->List Obj->Option (Int×Int):=fun v objs=>match v,objs with
 | .agg [.one [.i .u64 y0,.i .u64 y1]],[]=>some (y0,y1)
 | _,_=>none
theorem qsl (x0 x1 x2:Int):fnE qd9 Tryz.f115 ([.agg [.one [.i .u64 x0,.i .u64 x1]],.s (.i .i64 x2)]) ([]) qeA=qBA x0 x1 x2:=by kernel_rfl
def qd8:HA:=fun o vs objs K=>match vs,objs with
 | [.agg [.one [.i .u64 x0,.i .u64 x1]],.s (.i .i64 x2)],[]=>ob (qBA x0 x1 x2) fun z=>K false (.agg [.one [.i .u64 (z.1),.i .u64 (z.2)]]) ([])
 | _,_=>o 115 vs objs K
def qEj (o:Orc):Orc:=qJ 115 (qd8 o) o
theorem qFt:OQ Tryz.prog qEj:=fun _ ho=>qL ho fun vs objs K r h=>by
 unfold qd8 at h
 split at h
 ·skip
  obtain⟨t,h1,h2⟩:=qE h
  refine qa mixed qsm ((qsl _ _ _).trans h1) (by kernel_rfl) fun v objs' hd=>?_
  unfold qeA at hd;split at hd;(cases hd;exact h2);cases hd
 ·exact ho _ _ _ _ _ h
def qUr:Ctx:=mkC 90 ((qEj (qCy (qDp (qJz qI))))) [] qU
theorem qhv:CtxOK Tryz.prog qUr:=mkC_ok ((qFt _ (qDG _ (qEZ _ (qMl _ qK)))))
def qUs:V->List Obj->Option (LI×LI×Int×LL×LL):=fun v objs=>match v,objs with
 | .tup [],[.cells 72 [.arr .i8 81 y0,.arr .i8 16 y1,.one [.i .i8 y2],.rows [.i .u64,.i .u64] 32 y3,.rows [.i .u64,.i .u64] 2 y4]]=>some (y0,y1,y2,y3,y4)
 | _,_=>none
theorem qhu (x0 x1:Int) (x2 x3:LI) (x4:Int) (x5 x6:LL):fnE qUr Tryz.f85 ([.s (.ptr 0 0 none 0),.s (.i .i64 x0),.s (.i .i8 x1)]) ([.cells 72 [.arr .i8 81 x2,.arr .i8 16 x3,.one [.i .i8 x4],.rows [.i .u64,.i .u64] 32 x5,.rows [.i .u64,.i .u64] 2 x6]]) qUs=qGA x0 x1 x2 x3 x4 x5 x6:=by kernel_rfl
def qUq:HA:=fun o vs objs K=>match vs,objs with
 | [.s (.ptr 0 0 none 0),.s (.i .i64 x0),.s (.i .i8 x1)],[.cells 72 [.arr .i8 81 x2,.arr .i8 16 x3,.one [.i .i8 x4],.rows [.i .u64,.i .u64] 32 x5,.rows [.i .u64,.i .u64] 2 x6]]=>ob (qGA x0 x1 x2 x3 x4 x5 x6) fun z=>K false (.tup []) ([.cells 72 [.arr .i8 81 (z.1),.arr .i8 16 (z.2.1),.one [.i .i8 (z.2.2.1)],.rows [.i .u64,.i .u64] 32 (z.2.2.2.1),.rows [.i .u64,.i .u64] 2 (z.2.2.2.2)]])
 | _,_=>o 85 vs objs K
def qKZ (o:Orc):Orc:=qJ 85 (qUq o) o
theorem qN0:OQ Tryz.prog qKZ:=fun _ ho=>qL ho fun vs objs K r h=>by
 unfold qUq at h
 split at h
 ·skip
  obtain⟨t,h1,h2⟩:=qE h
  refine qa mixed qhv ((qhu _ _ _ _ _ _ _).trans h1) (by kernel_rfl) fun v objs' hd=>?_
  unfold qUs at hd;split at hd;(cases hd;exact h2);cases hd
 ·exact ho _ _ _ _ _ h
def qNv:Ex->List V->List Obj->Option (LI×LI×Int×LL×LL):=fun e vs objs=>match e,vs,objs with
 | .exit 0,[.s (.ptr 0 0 none 0)],[.cells 72 [.arr .i8 81 y0,.arr .i8 16 y1,.one [.i .i8 y2],.rows [.i .u64,.i .u64] 32 y3,.rows [.i .u64,.i .u64] 2 y4]]=>some (y0,y1,y2,y3,y4)
 | _,_,_=>none
def qNy:HL:=fun vs objs K=>match vs,objs with
 | [.s (.ptr 0 0 none 0),.agg [.arr .i8 81 x0],.s (.i .i64 x1)],[.cells 72 [.arr .i8 81 x2,.arr .i8 16 x3,.one [.i .i8 x4],.rows [.i .u64,.i .u64] 32 x5,.rows [.i .u64,.i .u64] 2 x6]]=>ob (qEL qB x0 x1 x2 x3 x4 x5 x6) fun z=>K (.exit 0) ([.s (.ptr 0 0 none 0)]) ([.cells 72 [.arr .i8 81 (z.1),.arr .i8 16 (z.2.1),.one [.i .i8 (z.2.2.1)],.rows [.i .u64,.i .u64] 32 (z.2.2.2.1),.rows [.i .u64,.i .u64] 2 (z.2.2.2.2)]])
 | _,_=>none
def qho:{R:Type}->Nat->List V->List Obj->(Ex->List V->List Obj->Option R)->Option R:=fun q vs objs K=>bif Nat.beq q 4 then qNy vs objs K else none
def qKX:Ctx:=mkC 32 ((qKZ qI)) [(4,[3,21,22],[3])] qho
theorem qUg:CtxOK Tryz.prog qKX:=mkC_ok ((qN0 _ qK))
def qNw (f:Nat) (x0:LI) (x1:Int) (x2 x3:LI) (x4:Int) (x5 x6:LL):Option (LI×LI×Int×LL×LL):=qf qKX 0 [3,21,22] [3] (qD Tryz.f42 4) f ([.s (.ptr 0 0 none 0),.agg [.arr .i8 81 x0],.s (.i .i64 x1)]) ([.cells 72 [.arr .i8 81 x2,.arr .i8 16 x3,.one [.i .i8 x4],.rows [.i .u64,.i .u64] 32 x5,.rows [.i .u64,.i .u64] 2 x6]]) qNv
theorem qhn (f:Nat) (x0:LI) (x1:Int) (x2 x3:LI) (x4:Int) (x5 x6:LL):qNw (f+1) x0 x1 x2 x3 x4 x5 x6=qG9 (qNw f) x0 x1 x2 x3 x4 x5 x6:=by kernel_rfl
theorem qUi:∀ f,qNw f=qEL f
 | 0=>rfl
 | f+1=>by funext x0 x1 x2 x3 x4 x5 x6;rw[qhn,qUi f];rfl
theorem qhp:qZ Tryz.prog qKX 0 (qD Tryz.f42 4):=
 qg mixed qUg (qM.of (l':=[]) (by kernel_rfl) trivial) (q:=4) (kin:=[3,21,22]) (kout:=[3]) (by kernel_rfl) (by kernel_rfl) fun vs objs K r h=>by
  replace h:qNy vs objs K=some r:=h
  unfold qNy at h
  split at h
  ·skip
   obtain⟨t,h1,h2⟩:=qE h
   rw[<- qUi] at h1
   refine⟨_,qNv,t,qB,h1,fun e vs' objs' hd=>?_⟩
   unfold qNv at hd;split at hd;(cases hd;exact h2);cases hd
  ·cases h
def qUh:V->List Obj->Option (LI×LI×Int×LL×LL):=fun v objs=>match v,objs with
 | .s (.ptr 0 0 none 0),[.cells 72 [.arr .i8 81 y0,.arr .i8 16 y1,.one [.i .i8 y2],.rows [.i .u64,.i .u64] 32 y3,.rows [.i .u64,.i .u64] 2 y4]]=>some (y0,y1,y2,y3,y4)
 | _,_=>none
theorem qhm (x0 x1:LI) (x2:Int):fnE qKX Tryz.f42 ([.agg [.arr .i8 81 x0,.arr .i8 16 x1,.one [.i .i8 x2]]]) ([]) qUh=qF7 x0 x1 x2:=by kernel_rfl
def qUf:HA:=fun o vs objs K=>match vs,objs with
 | [.agg [.arr .i8 81 x0,.arr .i8 16 x1,.one [.i .i8 x2]]],[]=>ob (qF7 x0 x1 x2) fun z=>K false (.s (.ptr 0 0 none 0)) ([.cells 72 [.arr .i8 81 (z.1),.arr .i8 16 (z.2.1),.one [.i .i8 (z.2.2.1)],.rows [.i .u64,.i .u64] 32 (z.2.2.2.1),.rows [.i .u64,.i .u64] 2 (z.2.2.2.2)]])
 | _,_=>o 42 vs objs K
def qKY (o:Orc):Orc:=qJ 42 (qUf o) o
theorem qNx:OQ Tryz.prog qKY:=fun _ ho=>qL ho fun vs objs K r h=>by
 unfold qUf at h
 split at h
 ·skip
  obtain⟨t,h1,h2⟩:=qE h
  refine q7 mixed qUg (fn:=Tryz.f42) (b:=(Tryz.f42).body.getD .skip) (by kernel_rfl) (by kernel_rfl) (by kernel_rfl) ((qhm _ _ _).trans h1) (m:=0) rfl (qM.of (l':=[qD Tryz.f42 4]) (by kernel_rfl) ⟨qhp,trivial⟩) fun v objs' hd=>?_
  unfold qUh at hd;split at hd;(cases hd;exact h2);cases hd
 ·exact ho _ _ _ _ _ h
def qUk:Ctx:=mkC 20 ((qDo qI)) [] qU
theorem qhr:CtxOK Tryz.prog qUk:=mkC_ok ((qEY _ qK))
def qUl:V->List Obj->Option (Int×Int):=fun v objs=>match v,objs with
 | .agg [.one [.i .u64 y0,.i .u64 y1]],[]=>some (y0,y1)
 | _,_=>none
theorem qhq (x0 x1:Int) (x2 x3:LI) (x4:Int) (x5 x6:LL):fnE qUk Tryz.f119 ([.s (.ptr 0 0 none 0),.s (.i .i64 x0),.s (.i .i64 x1)]) ([.rcells 72 [.arr .i8 81 x2,.arr .i8 16 x3,.one [.i .i8 x4],.rows [.i .u64,.i .u64] 32 x5,.rows [.i .u64,.i .u64] 2 x6]]) (qAM 1 qUl)=qC8 x0 x1 x2 x3 x4 x5 x6:=by kernel_rfl
def qUj:HA:=fun o vs objs K=>match vs,List.map Obj.toRO objs with
 | [.s (.ptr 0 0 none 0),.s (.i .i64 x0),.s (.i .i64 x1)],[.rcells 72 [.arr .i8 81 x2,.arr .i8 16 x3,.one [.i .i8 x4],.rows [.i .u64,.i .u64] 32 x5,.rows [.i .u64,.i .u64] 2 x6]]=>ob (qC8 x0 x1 x2 x3 x4 x5 x6) fun z=>K true (.agg [.one [.i .u64 (z.1),.i .u64 (z.2)]]) ([])
 | _,_=>o 119 vs objs K
def qF8 (o:Orc):Orc:=qJ 119 (qUj o) o
theorem qHA:OQ Tryz.prog qF8:=fun _ ho=>qL ho fun vs objs K r h=>by
 unfold qUj at h
 split at h
 ·skip
  have hq:List.map Obj.toRO objs=_:=(by rename_i hq;first | exact hq | assumption)
  obtain⟨t,h1,h2⟩:=qE h
  refine qAj mixed qhr (m:=1) (fn:=Tryz.f119) (b:=(Tryz.f119).body.getD .skip) (by kernel_rfl) (by kernel_rfl) (by kernel_rfl) hq (by kernel_rfl) (by kernel_rfl) (qM.of (l':=[]) (by kernel_rfl) trivial) ((qhq _ _ _ _ _ _ _).trans h1) fun v objs' hd=>?_
  unfold qUl at hd;split at hd;(cases hd;exact h2);cases hd
 ·exact ho _ _ _ _ _ h
def qST:Ex->List V->List Obj->Option (Int×Int×Int×Int):=fun e vs objs=>match e,vs,objs with
 | .exit 0,[.s (.ptr 0 0 none 0),.s (.ptr 1 0 none 0)],[.cells 68 [.one [.i .u64 y0,.i .u64 y1]],.cells 68 [.one [.i .u64 y2,.i .u64 y3]]]=>some (y0,y1,y2,y3)
 | _,_,_=>none
def qSW:HL:=fun vs objs K=>match vs,objs with
 | [.s (.i .i64 x0),.s (.ptr 0 0 none 0),.s (.ptr 1 0 none 0),.s (.i .i64 x1)],[.cells 68 [.one [.i .u64 x2,.i .u64 x3]],.cells 68 [.one [.i .u64 x4,.i .u64 x5]]]=>ob (qMe qB x0 x1 x2 x3 x4 x5) fun z=>K (.exit 0) ([.s (.ptr 0 0 none 0),.s (.ptr 1 0 none 0)]) ([.cells 68 [.one [.i .u64 (z.1),.i .u64 (z.2.1)]],.cells 68 [.one [.i .u64 (z.2.2.1),.i .u64 (z.2.2.2)]]])
 | _,_=>none
def qsP:{R:Type}->Nat->List V->List Obj->(Ex->List V->List Obj->Option R)->Option R:=fun q vs objs K=>bif Nat.beq q 3 then qSW vs objs K else none
def qMd:Ctx:=mkC 15 ((qEj (set_Squareo qI))) [(3,[0,2,3,5],[2,3])] qsP
theorem qdh:CtxOK Tryz.prog qMd:=mkC_ok ((qFt _ (set_Squareo_ok _ qK)))
def qSU (f:Nat) (x0 x1:Int) (x2 x3:Int) (x4 x5:Int):Option (Int×Int×Int×Int):=qf qMd 0 [0,2,3,5] [2,3] (qD Tryz.f121 3) f ([.s (.i .i64 x0),.s (.ptr 0 0 none 0),.s (.ptr 1 0 none 0),.s (.i .i64 x1)]) ([.cells 68 [.one [.i .u64 x2,.i .u64 x3]],.cells 68 [.one [.i .u64 x4,.i .u64 x5]]]) qST
theorem qsO (f:Nat) (x0 x1:Int) (x2 x3:Int) (x4 x5:Int):qSU (f+1) x0 x1 x2 x3 x4 x5=qdk (qSU f) x0 x1 x2 x3 x4 x5:=by kernel_rfl
theorem qdj:∀ f,qSU f=qMe f
 | 0=>rfl
 | f+1=>by funext x0 x1 x2 x3 x4 x5;rw[qsO,qdj f];rfl
theorem qsQ:qZ Tryz.prog qMd 0 (qD Tryz.f121 3):=
 qg mixed qdh (qM.of (l':=[]) (by kernel_rfl) trivial) (q:=3) (kin:=[0,2,3,5]) (kout:=[2,3]) (by kernel_rfl) (by kernel_rfl) fun vs objs K r h=>by
  replace h:qSW vs objs K=some r:=h
  unfold qSW at h
  split at h
  ·skip
   obtain⟨t,h1,h2⟩:=qE h
   rw[<- qdj] at h1
   refine⟨_,qST,t,qB,h1,fun e vs' objs' hd=>?_⟩
   unfold qST at hd;split at hd;(cases hd;exact h2);cases hd
  ·cases h
def qdi:V->List Obj->Option (Int×Int):=fun v objs=>match v,objs with
 | .agg [.one [.i .u64 y0,.i .u64 y1]],[]=>some (y0,y1)
 | _,_=>none
theorem qsN (x0:Int):fnE qMd Tryz.f121 ([.s (.i .i64 x0)]) ([]) qdi=qIW x0:=by kernel_rfl
def qdg:HA:=fun o vs objs K=>match vs,objs with
 | [.s (.i .i64 x0)],[]=>ob (qIW x0) fun z=>K false (.agg [.one [.i .u64 (z.1),.i .u64 (z.2)]]) ([])
 | _,_=>o 121 vs objs K
def qSV (o:Orc):Orc:=qJ 121 (qdg o) o
theorem qdl:OQ Tryz.prog qSV:=fun _ ho=>qL ho fun vs objs K r h=>by
 unfold qdg at h
 split at h
 ·skip
  obtain⟨t,h1,h2⟩:=qE h
  refine q7 mixed qdh (fn:=Tryz.f121) (b:=(Tryz.f121).body.getD .skip) (by kernel_rfl) (by kernel_rfl) (by kernel_rfl) ((qsN _).trans h1) (m:=0) rfl (qM.of (l':=[qD Tryz.f121 3]) (by kernel_rfl) ⟨qsQ,trivial⟩) fun v objs' hd=>?_
  unfold qdi at hd;split at hd;(cases hd;exact h2);cases hd
 ·exact ho _ _ _ _ _ h
def qdP:Ctx:=mkC 16 (qI) [] qU
theorem qsC:CtxOK Tryz.prog qdP:=mkC_ok (qK)
def qdQ:V->List Obj->Option (Int×Int):=fun v objs=>match v,objs with
 | .agg [.one [.i .u64 y0,.i .u64 y1]],[]=>some (y0,y1)
 | _,_=>none
theorem qsB (x0 x1:Int) (x2 x3:Int):fnE qdP Tryz.f120 ([.agg [.one [.i .u64 x0,.i .u64 x1]],.agg [.one [.i .u64 x2,.i .u64 x3]]]) ([]) qdQ=qC2 x0 x1 x2 x3:=by kernel_rfl
def qdO:HA:=fun o vs objs K=>match vs,objs with
 | [.agg [.one [.i .u64 x0,.i .u64 x1]],.agg [.one [.i .u64 x2,.i .u64 x3]]],[]=>ob (qC2 x0 x1 x2 x3) fun z=>K false (.agg [.one [.i .u64 (z.1),.i .u64 (z.2)]]) ([])
 | _,_=>o 120 vs objs K
def qFp (o:Orc):Orc:=qJ 120 (qdO o) o
theorem qGj:OQ Tryz.prog qFp:=fun _ ho=>qL ho fun vs objs K r h=>by
 unfold qdO at h
 split at h
 ·skip
  obtain⟨t,h1,h2⟩:=qE h
  refine qa mixed qsC ((qsB _ _ _ _).trans h1) (by kernel_rfl) fun v objs' hd=>?_
  unfold qdQ at hd;split at hd;(cases hd;exact h2);cases hd
 ·exact ho _ _ _ _ _ h
def qUG:Ctx:=mkC 35 (qI) [] qU
theorem qhL:CtxOK Tryz.prog qUG:=mkC_ok (qK)
def qUH:V->List Obj->Option (Int):=fun v objs=>match v,objs with
 | .s (.i .i64 y0),[]=>some (y0)
 | _,_=>none
theorem qhK (x0:Int):fnE qUG Tryz.f145 ([.s (.i .u64 x0)]) ([]) qUH=qF4 x0:=by kernel_rfl
def qUF:HA:=fun o vs objs K=>match vs,objs with
 | [.s (.i .u64 x0)],[]=>ob (qF4 x0) fun y0=>K false (.s (.i .i64 y0)) ([])
 | _,_=>o 145 vs objs K
def qUI (o:Orc):Orc:=qJ 145 (qUF o) o
theorem qhM:OQ Tryz.prog qUI:=fun _ ho=>qL ho fun vs objs K r h=>by
 unfold qUF at h
 split at h
 ·skip
  obtain⟨t,h1,h2⟩:=qE h
  refine qa mixed qhL ((qhK _).trans h1) (by kernel_rfl) fun v objs' hd=>?_
  unfold qUH at hd;split at hd;(cases hd;exact h2);cases hd
 ·exact ho _ _ _ _ _ h
def qdS:Ctx:=mkC 10 ((qUI qI)) [] qU
theorem qsE:CtxOK Tryz.prog qdS:=mkC_ok ((qhM _ qK))
def qdT:V->List Obj->Option (Int):=fun v objs=>match v,objs with
 | .s (.i .i64 y0),[]=>some (y0)
 | _,_=>none
theorem qsD (x0 x1:Int):fnE qdS Tryz.f122 ([.agg [.one [.i .u64 x0,.i .u64 x1]]]) ([]) qdT=qGk x0 x1:=by kernel_rfl
def qdR:HA:=fun o vs objs K=>match vs,objs with
 | [.agg [.one [.i .u64 x0,.i .u64 x1]]],[]=>ob (qGk x0 x1) fun y0=>K false (.s (.i .i64 y0)) ([])
 | _,_=>o 122 vs objs K
def qMa (o:Orc):Orc:=qJ 122 (qdR o) o
theorem qSQ:OQ Tryz.prog qMa:=fun _ ho=>qL ho fun vs objs K r h=>by
 unfold qdR at h
 split at h
 ·skip
  obtain⟨t,h1,h2⟩:=qE h
  refine qa mixed qsE ((qsD _ _).trans h1) (by kernel_rfl) fun v objs' hd=>?_
  unfold qdT at hd;split at hd;(cases hd;exact h2);cases hd
 ·exact ho _ _ _ _ _ h
def qOB:Ex->List V->List Obj->Option ((Int×LI×LI×Int)⊕(LI×LI×Int)):=fun e vs objs=>match e,vs,objs with
 | .ret,[.s (.ptr 0 0 none 0),.s (.i .i64 y0)],[.cells 28 [.arr .i8 81 y1,.arr .i8 16 y2,.one [.i .i8 y3]]]=>some (.inl (y0,y1,y2,y3))
 | .exit 0,[.s (.ptr 0 0 none 0),.s .bad],[.cells 28 [.arr .i8 81 y0,.arr .i8 16 y1,.one [.i .i8 y2]]]=>some (.inr (y0,y1,y2))
 | _,_,_=>none
def qN9:Ex->List V->List Obj->Option ((Int×Int×LI×LI×Int×LL×LL)⊕(Int×LI×LI×Int×LL×LL)):=fun e vs objs=>match e,vs,objs with
 | .ret,[.s (.i .i64 y0),.s (.ptr 0 0 none 0),.s (.i .i64 y1)],[.cells 72 [.arr .i8 81 y2,.arr .i8 16 y3,.one [.i .i8 y4],.rows [.i .u64,.i .u64] 32 y5,.rows [.i .u64,.i .u64] 2 y6]]=>some (.inl (y0,y1,y2,y3,y4,y5,y6))
 | .exit 4,[.s .bad,.s (.ptr 0 0 none 0),.s (.i .i64 y0)],[.cells 72 [.arr .i8 81 y1,.arr .i8 16 y2,.one [.i .i8 y3],.rows [.i .u64,.i .u64] 32 y4,.rows [.i .u64,.i .u64] 2 y5]]=>some (.inr (y0,y1,y2,y3,y4,y5))
 | _,_,_=>none
def qOD:Ex->List V->List Obj->Option ((Int)⊕(Unit)):=fun e vs objs=>match e,vs,objs with
 | .ret,[.s (.i .i64 y0)],[]=>some (.inl (y0))
 | .exit 2,[.s .bad],[]=>some (.inr ())
 | _,_,_=>none
def qOG:HL:=fun vs objs K=>match vs,objs with
 | [.s (.ptr 0 0 none 0),.agg [.arr .i8 81 x0],.s (.i .i64 x1)],[.cells 28 [.arr .i8 81 x2,.arr .i8 16 x3,.one [.i .i8 x4]]]=>ob (qE5 qB x0 x1 x2 x3 x4) fun t0=>sw t0 (fun z=>K (.ret) ([.s (.ptr 0 0 none 0),.s (.i .i64 (z.1))]) ([.cells 28 [.arr .i8 81 (z.2.1),.arr .i8 16 (z.2.2.1),.one [.i .i8 (z.2.2.2)]]])) (fun z=>K (.exit 0) ([.s (.ptr 0 0 none 0),.s .bad]) ([.cells 28 [.arr .i8 81 (z.1),.arr .i8 16 (z.2.1),.one [.i .i8 (z.2.2)]]]))
 | _,_=>none
def qOF:HL:=fun vs objs K=>match vs,objs with
 | [.s (.ptr 0 0 none 0),.s (.i .i64 x0),.s (.i .i64 x1),.s (.i .i64 x2)],[.cells 72 [.arr .i8 81 x3,.arr .i8 16 x4,.one [.i .i8 x5],.rows [.i .u64,.i .u64] 32 x6,.rows [.i .u64,.i .u64] 2 x7]]=>ob (qE3 qB x0 x1 x2 x3 x4 x5 x6 x7) fun t0=>sw t0 (fun z=>K (.ret) ([.s (.i .i64 (z.1)),.s (.ptr 0 0 none 0),.s (.i .i64 (z.2.1))]) ([.cells 72 [.arr .i8 81 (z.2.2.1),.arr .i8 16 (z.2.2.2.1),.one [.i .i8 (z.2.2.2.2.1)],.rows [.i .u64,.i .u64] 32 (z.2.2.2.2.2.1),.rows [.i .u64,.i .u64] 2 (z.2.2.2.2.2.2)]])) (fun z=>K (.exit 4) ([.s .bad,.s (.ptr 0 0 none 0),.s (.i .i64 (z.1))]) ([.cells 72 [.arr .i8 81 (z.2.1),.arr .i8 16 (z.2.2.1),.one [.i .i8 (z.2.2.2.1)],.rows [.i .u64,.i .u64] 32 (z.2.2.2.2.1),.rows [.i .u64,.i .u64] 2 (z.2.2.2.2.2)]]))
 | _,_=>none
def qOH:HL:=fun vs objs K=>match vs,objs with
 | [.s (.ptr 0 0 none 0),.s (.i .i64 x0)],[.cells 72 [.arr .i8 81 x1,.arr .i8 16 x2,.one [.i .i8 x3],.rows [.i .u64,.i .u64] 32 x4,.rows [.i .u64,.i .u64] 2 x5]]=>ob (qE6 qB x0 x1 x2 x3 x4 x5) fun t0=>sw t0 (fun y0=>K (.ret) ([.s (.i .i64 y0)]) ([])) (fun _=>K (.exit 2) ([.s .bad]) ([]))
 | _,_=>none
def qiC:{R:Type}->Nat->List V->List Obj->(Ex->List V->List Obj->Option R)->Option R:=fun q vs objs K=>bif Nat.beq q 2 then qOG vs objs K else bif Nat.beq q 12 then qOF vs objs K else bif Nat.beq q 9 then qOH vs objs K else none
def qE2:Ctx:=mkC 36 ((qMa (qFp (qSV (qF8 (qKY (qMs qI))))))) [(2,[1,9,10],[1,2]),(9,[5,20],[2]),(12,[5,6,20,23],[2,5,20])] qiC
theorem qKd:CtxOK Tryz.prog qE2:=mkC_ok ((qSQ _ (qGj _ (qdl _ (qHA _ (qNx _ (qSr _ qK)))))))
def qOC (f:Nat) (x0:LI) (x1:Int) (x2 x3:LI) (x4:Int):Option ((Int×LI×LI×Int)⊕(LI×LI×Int)):=qf qE2 0 [1,9,10] [1,2] (qD Tryz.f91 2) f ([.s (.ptr 0 0 none 0),.agg [.arr .i8 81 x0],.s (.i .i64 x1)]) ([.cells 28 [.arr .i8 81 x2,.arr .i8 16 x3,.one [.i .i8 x4]]]) qOB
theorem qiA (f:Nat) (x0:LI) (x1:Int) (x2 x3:LI) (x4:Int):qOC (f+1) x0 x1 x2 x3 x4=qHD (qOC f) x0 x1 x2 x3 x4:=by kernel_rfl
theorem qVB:∀ f,qOC f=qE5 f
 | 0=>rfl
 | f+1=>by funext x0 x1 x2 x3 x4;rw[qiA,qVB f];rfl
def qOA (f:Nat) (x0 x1 x2:Int) (x3 x4:LI) (x5:Int) (x6 x7:LL):Option ((Int×Int×LI×LI×Int×LL×LL)⊕(Int×LI×LI×Int×LL×LL)):=qf qE2 0 [5,6,20,23] [2,5,20] (qD Tryz.f91 12) f ([.s (.ptr 0 0 none 0),.s (.i .i64 x0),.s (.i .i64 x1),.s (.i .i64 x2)]) ([.cells 72 [.arr .i8 81 x3,.arr .i8 16 x4,.one [.i .i8 x5],.rows [.i .u64,.i .u64] 32 x6,.rows [.i .u64,.i .u64] 2 x7]]) qN9
theorem qh9 (f:Nat) (x0 x1 x2:Int) (x3 x4:LI) (x5:Int) (x6 x7:LL):qOA (f+1) x0 x1 x2 x3 x4 x5 x6 x7=qE4 (qOA f) x0 x1 x2 x3 x4 x5 x6 x7:=by kernel_rfl
theorem qVA:∀ f,qOA f=qE3 f
 | 0=>rfl
 | f+1=>by funext x0 x1 x2 x3 x4 x5 x6 x7;rw[qh9,qVA f];rfl
def qOE (f:Nat) (x0:Int) (x1 x2:LI) (x3:Int) (x4 x5:LL):Option ((Int)⊕(Unit)):=qf qE2 0 [5,20] [2] (qD Tryz.f91 9) f ([.s (.ptr 0 0 none 0),.s (.i .i64 x0)]) ([.cells 72 [.arr .i8 81 x1,.arr .i8 16 x2,.one [.i .i8 x3],.rows [.i .u64,.i .u64] 32 x4,.rows [.i .u64,.i .u64] 2 x5]]) qOD
theorem qiB (f:Nat) (x0:Int) (x1 x2:LI) (x3:Int) (x4 x5:LL):qOE (f+1) x0 x1 x2 x3 x4 x5=qHE (qOE f) x0 x1 x2 x3 x4 x5:=by kernel_rfl
theorem qVC:∀ f,qOE f=qE6 f
 | 0=>rfl
 | f+1=>by funext x0 x1 x2 x3 x4 x5;rw[qiB,qVC f];rfl
theorem qiF:qZ Tryz.prog qE2 0 (qD Tryz.f91 2):=
 qg mixed qKd (qM.of (l':=[]) (by kernel_rfl) trivial) (q:=2) (kin:=[1,9,10]) (kout:=[1,2]) (by kernel_rfl) (by kernel_rfl) fun vs objs K r h=>by
  replace h:qOG vs objs K=some r:=h
  unfold qOG at h
  split at h
  ·skip
   obtain⟨t,h1,h2⟩:=qE h
   rw[<- qVB] at h1
   refine⟨_,qOB,t,qB,h1,fun e vs' objs' hd=>?_⟩
   unfold qOB at hd
   split at hd
   ·skip
    cases hd
    exact h2
   ·skip
    cases hd
    exact h2
   ·cases hd
  ·cases h
theorem qiE:qZ Tryz.prog qE2 0 (qD Tryz.f91 12):=
 qg mixed qKd (qM.of (l':=[]) (by kernel_rfl) trivial) (q:=12) (kin:=[5,6,20,23]) (kout:=[2,5,20]) (by kernel_rfl) (by kernel_rfl) fun vs objs K r h=>by
  replace h:qOF vs objs K=some r:=h
  unfold qOF at h
  split at h
  ·skip
   obtain⟨t,h1,h2⟩:=qE h
   rw[<- qVA] at h1
   refine⟨_,qN9,t,qB,h1,fun e vs' objs' hd=>?_⟩
   unfold qN9 at hd
   split at hd
   ·skip
    cases hd
    exact h2
   ·skip
    cases hd
    exact h2
   ·cases hd
  ·cases h
theorem qiG:qZ Tryz.prog qE2 0 (qD Tryz.f91 9):=
 qg mixed qKd (qM.of (l':=[qD Tryz.f91 12]) (by kernel_rfl) ⟨qiE,trivial⟩) (q:=9) (kin:=[5,20]) (kout:=[2]) (by kernel_rfl) (by kernel_rfl) fun vs objs K r h=>by
  replace h:qOH vs objs K=some r:=h
  unfold qOH at h
  split at h
  ·skip
   obtain⟨t,h1,h2⟩:=qE h
   rw[<- qVC] at h1
   refine⟨_,qOD,t,qB,h1,fun e vs' objs' hd=>?_⟩
   unfold qOD at hd
   split at hd
   ·skip
    cases hd
    exact h2
   ·skip
    cases hd
    exact h2
   ·cases hd
  ·cases h
def qU9:V->List Obj->Option (Int):=fun v objs=>match v,objs with
 | .s (.i .i64 y0),[]=>some (y0)
 | _,_=>none
theorem qh8 (x0 x1:LI) (x2:Int):fnE qE2 Tryz.f91 ([.agg [.arr .i8 81 x0,.arr .i8 16 x1,.one [.i .i8 x2]]]) ([]) qU9=qGB x0 x1 x2:=by kernel_rfl
def qU8:HA:=fun o vs objs K=>match vs,objs with
 | [.agg [.arr .i8 81 x0,.arr .i8 16 x1,.one [.i .i8 x2]]],[]=>ob (qGB x0 x1 x2) fun y0=>K false (.s (.i .i64 y0)) ([])
 | _,_=>o 91 vs objs K
def qVD (o:Orc):Orc:=qJ 91 (qU8 o) o
theorem qiD:OQ Tryz.prog qVD:=fun _ ho=>qL ho fun vs objs K r h=>by
 unfold qU8 at h
 split at h
 ·skip
  obtain⟨t,h1,h2⟩:=qE h
  refine q7 mixed qKd (fn:=Tryz.f91) (b:=(Tryz.f91).body.getD .skip) (by kernel_rfl) (by kernel_rfl) (by kernel_rfl) ((qh8 _ _ _).trans h1) (m:=0) rfl (qM.of (l':=[qD Tryz.f91 2,qD Tryz.f91 9]) (by kernel_rfl) ⟨qiF,qiG,trivial⟩) fun v objs' hd=>?_
  unfold qU9 at hd;split at hd;(cases hd;exact h2);cases hd
 ·exact ho _ _ _ _ _ h
def qNn:Ex->List V->List Obj->Option ((Int×LI×LI×Int×LI×LI)⊕(LI×LI×Int×LI×LI)):=fun e vs objs=>match e,vs,objs with
 | .ret,[.s (.ptr 0 0 none 0),.s (.i .i64 y0),.s (.ptr 1 0 none 0),.s (.ptr 2 0 none 0)],[.cells 28 [.arr .i8 81 y1,.arr .i8 16 y2,.one [.i .i8 y3]],.cells 91 [.arr .i64 9 y4],.cells 124 [.arr .i64 2 y5]]=>some (.inl (y0,y1,y2,y3,y4,y5))
 | .exit 0,[.s (.ptr 0 0 none 0),.s .bad,.s (.ptr 1 0 none 0),.s (.ptr 2 0 none 0)],[.cells 28 [.arr .i8 81 y0,.arr .i8 16 y1,.one [.i .i8 y2]],.cells 91 [.arr .i64 9 y3],.cells 124 [.arr .i64 2 y4]]=>some (.inr (y0,y1,y2,y3,y4))
 | _,_,_=>none
def qNj:Ex->List V->List Obj->Option ((Int×LI×Int×LI×LI×Int×LI×LI)⊕(LI×Int×LI×LI×Int×LI×LI)):=fun e vs objs=>match e,vs,objs with
 | .ret,[.s (.ptr 0 0 none 0),.s (.i .i64 y0),.s (.ptr 1 0 none 0),.s (.ptr 2 0 none 0),.agg [.arr .i8 16 y1],.s (.i .i64 y2)],[.cells 28 [.arr .i8 81 y3,.arr .i8 16 y4,.one [.i .i8 y5]],.cells 91 [.arr .i64 9 y6],.cells 124 [.arr .i64 2 y7]]=>some (.inl (y0,y1,y2,y3,y4,y5,y6,y7))
 | .exit 9,[.s (.ptr 0 0 none 0),.s .bad,.s (.ptr 1 0 none 0),.s (.ptr 2 0 none 0),.agg [.arr .i8 16 y0],.s (.i .i64 y1)],[.cells 28 [.arr .i8 81 y2,.arr .i8 16 y3,.one [.i .i8 y4]],.cells 91 [.arr .i64 9 y5],.cells 124 [.arr .i64 2 y6]]=>some (.inr (y0,y1,y2,y3,y4,y5,y6))
 | _,_,_=>none
def qNh:Ex->List V->List Obj->Option ((Int×LI×LI×Int×LI×LI)⊕(LI×LI×Int×LI×LI)):=fun e vs objs=>match e,vs,objs with
 | .ret,[.s (.ptr 0 0 none 0),.s (.i .i64 y0),.s (.ptr 1 0 none 0),.s (.ptr 2 0 none 0)],[.cells 28 [.arr .i8 81 y1,.arr .i8 16 y2,.one [.i .i8 y3]],.cells 91 [.arr .i64 9 y4],.cells 124 [.arr .i64 2 y5]]=>some (.inl (y0,y1,y2,y3,y4,y5))
 | .exit 7,[.s (.ptr 0 0 none 0),.s .bad,.s (.ptr 1 0 none 0),.s (.ptr 2 0 none 0)],[.cells 28 [.arr .i8 81 y0,.arr .i8 16 y1,.one [.i .i8 y2]],.cells 91 [.arr .i64 9 y3],.cells 124 [.arr .i64 2 y4]]=>some (.inr (y0,y1,y2,y3,y4))
 | _,_,_=>none
def qNl:Ex->List V->List Obj->Option ((Int×LI×LI×Int)⊕(LI×LI×Int)):=fun e vs objs=>match e,vs,objs with
 | .ret,[.s (.ptr 0 0 none 0),.s (.i .i64 y0)],[.cells 28 [.arr .i8 81 y1,.arr .i8 16 y2,.one [.i .i8 y3]]]=>some (.inl (y0,y1,y2,y3))
 | .exit 11,[.s (.ptr 0 0 none 0),.s .bad],[.cells 28 [.arr .i8 81 y0,.arr .i8 16 y1,.one [.i .i8 y2]]]=>some (.inr (y0,y1,y2))
 | _,_,_=>none
def qNs:HL:=fun vs objs K=>match vs,objs with
 | [.s (.ptr 0 0 none 0),.s (.ptr 1 0 none 0),.s (.ptr 2 0 none 0),.agg [.arr .i8 81 x0],.s (.i .i64 x1)],[.cells 28 [.arr .i8 81 x2,.arr .i8 16 x3,.one [.i .i8 x4]],.cells 91 [.arr .i64 9 x5],.cells 124 [.arr .i64 2 x6]]=>ob (qCS qB x0 x1 x2 x3 x4 x5 x6) fun t0=>sw t0 (fun z=>K (.ret) ([.s (.ptr 0 0 none 0),.s (.i .i64 (z.1)),.s (.ptr 1 0 none 0),.s (.ptr 2 0 none 0)]) ([.cells 28 [.arr .i8 81 (z.2.1),.arr .i8 16 (z.2.2.1),.one [.i .i8 (z.2.2.2.1)]],.cells 91 [.arr .i64 9 (z.2.2.2.2.1)],.cells 124 [.arr .i64 2 (z.2.2.2.2.2)]])) (fun z=>K (.exit 0) ([.s (.ptr 0 0 none 0),.s .bad,.s (.ptr 1 0 none 0),.s (.ptr 2 0 none 0)]) ([.cells 28 [.arr .i8 81 (z.1),.arr .i8 16 (z.2.1),.one [.i .i8 (z.2.2.1)]],.cells 91 [.arr .i64 9 (z.2.2.2.1)],.cells 124 [.arr .i64 2 (z.2.2.2.2)]]))
 | _,_=>none
def qNq:HL:=fun vs objs K=>match vs,objs with
 | [.s (.ptr 0 0 none 0),.s (.ptr 1 0 none 0),.s (.ptr 2 0 none 0),.agg [.arr .i8 16 x0],.s (.i .i64 x1),.agg [.arr .i8 8 x2],.s (.i .i64 x3)],[.cells 28 [.arr .i8 81 x4,.arr .i8 16 x5,.one [.i .i8 x6]],.cells 91 [.arr .i64 9 x7],.cells 124 [.arr .i64 2 x8]]=>ob (qC7 qB x0 x1 x2 x3 x4 x5 x6 x7 x8) fun t0=>sw t0 (fun z=>K (.ret) ([.s (.ptr 0 0 none 0),.s (.i .i64 (z.1)),.s (.ptr 1 0 none 0),.s (.ptr 2 0 none 0),.agg [.arr .i8 16 (z.2.1)],.s (.i .i64 (z.2.2.1))]) ([.cells 28 [.arr .i8 81 (z.2.2.2.1),.arr .i8 16 (z.2.2.2.2.1),.one [.i .i8 (z.2.2.2.2.2.1)]],.cells 91 [.arr .i64 9 (z.2.2.2.2.2.2.1)],.cells 124 [.arr .i64 2 (z.2.2.2.2.2.2.2)]])) (fun z=>K (.exit 9) ([.s (.ptr 0 0 none 0),.s .bad,.s (.ptr 1 0 none 0),.s (.ptr 2 0 none 0),.agg [.arr .i8 16 (z.1)],.s (.i .i64 (z.2.1))]) ([.cells 28 [.arr .i8 81 (z.2.2.1),.arr .i8 16 (z.2.2.2.1),.one [.i .i8 (z.2.2.2.2.1)]],.cells 91 [.arr .i64 9 (z.2.2.2.2.2.1)],.cells 124 [.arr .i64 2 (z.2.2.2.2.2.2)]]))
 | _,_=>none
def qNp:HL:=fun vs objs K=>match vs,objs with
 | [.s (.ptr 0 0 none 0),.s (.ptr 1 0 none 0),.s (.ptr 2 0 none 0),.agg [.arr .i8 16 x0],.s (.i .i64 x1)],[.cells 28 [.arr .i8 81 x2,.arr .i8 16 x3,.one [.i .i8 x4]],.cells 91 [.arr .i64 9 x5],.cells 124 [.arr .i64 2 x6]]=>ob (qCj qB x0 x1 x2 x3 x4 x5 x6) fun t0=>sw t0 (fun z=>K (.ret) ([.s (.ptr 0 0 none 0),.s (.i .i64 (z.1)),.s (.ptr 1 0 none 0),.s (.ptr 2 0 none 0)]) ([.cells 28 [.arr .i8 81 (z.2.1),.arr .i8 16 (z.2.2.1),.one [.i .i8 (z.2.2.2.1)]],.cells 91 [.arr .i64 9 (z.2.2.2.2.1)],.cells 124 [.arr .i64 2 (z.2.2.2.2.2)]])) (fun z=>K (.exit 7) ([.s (.ptr 0 0 none 0),.s .bad,.s (.ptr 1 0 none 0),.s (.ptr 2 0 none 0)]) ([.cells 28 [.arr .i8 81 (z.1),.arr .i8 16 (z.2.1),.one [.i .i8 (z.2.2.1)]],.cells 91 [.arr .i64 9 (z.2.2.2.1)],.cells 124 [.arr .i64 2 (z.2.2.2.2)]]))
 | _,_=>none
def qNr:HL:=fun vs objs K=>match vs,objs with
 | [.s (.ptr 0 0 none 0),.s (.ptr 1 0 none 0),.s (.i .i64 x0)],[.cells 28 [.arr .i8 81 x1,.arr .i8 16 x2,.one [.i .i8 x3]],.cells 91 [.arr .i64 9 x4]]=>ob (qDY qB x0 x1 x2 x3 x4) fun t0=>sw t0 (fun z=>K (.ret) ([.s (.ptr 0 0 none 0),.s (.i .i64 (z.1))]) ([.cells 28 [.arr .i8 81 (z.2.1),.arr .i8 16 (z.2.2.1),.one [.i .i8 (z.2.2.2)]]])) (fun z=>K (.exit 11) ([.s (.ptr 0 0 none 0),.s .bad]) ([.cells 28 [.arr .i8 81 (z.1),.arr .i8 16 (z.2.1),.one [.i .i8 (z.2.2)]]]))
 | _,_=>none
def qhZ:{R:Type}->Nat->List V->List Obj->(Ex->List V->List Obj->Option R)->Option R:=fun q vs objs K=>bif Nat.beq q 6 then qNs vs objs K else bif Nat.beq q 20 then qNq vs objs K else bif Nat.beq q 17 then qNp vs objs K else bif Nat.beq q 30 then qNr vs objs K else none
def qDW:Ctx:=mkC 98 ((qVD (qZ2 (qLu (qDp (qCy qI)))))) [(6,[1,3,4,22,23],[1,2,3,4]),(17,[1,3,4,51,52],[1,2,3,4]),(20,[1,3,4,51,52,55,56],[1,2,3,4,51,52]),(30,[1,3,12],[1,2])] qhZ
theorem qIy:CtxOK Tryz.prog qDW:=mkC_ok ((qiD _ (qoc _ (qQZ _ (qEZ _ (qDG _ qK))))))
def qNo (f:Nat) (x0:LI) (x1:Int) (x2 x3:LI) (x4:Int) (x5 x6:LI):Option ((Int×LI×LI×Int×LI×LI)⊕(LI×LI×Int×LI×LI)):=qf qDW 0 [1,3,4,22,23] [1,2,3,4] (qD Tryz.f52 6) f ([.s (.ptr 0 0 none 0),.s (.ptr 1 0 none 0),.s (.ptr 2 0 none 0),.agg [.arr .i8 81 x0],.s (.i .i64 x1)]) ([.cells 28 [.arr .i8 81 x2,.arr .i8 16 x3,.one [.i .i8 x4]],.cells 91 [.arr .i64 9 x5],.cells 124 [.arr .i64 2 x6]]) qNn
theorem qhY (f:Nat) (x0:LI) (x1:Int) (x2 x3:LI) (x4:Int) (x5 x6:LI):qNo (f+1) x0 x1 x2 x3 x4 x5 x6=qE1 (qNo f) x0 x1 x2 x3 x4 x5 x6:=by kernel_rfl
theorem qUT:∀ f,qNo f=qCS f
 | 0=>rfl
 | f+1=>by funext x0 x1 x2 x3 x4 x5 x6;rw[qhY,qUT f];rfl
def qNk (f:Nat) (x0:LI) (x1:Int) (x2:LI) (x3:Int) (x4 x5:LI) (x6:Int) (x7 x8:LI):Option ((Int×LI×Int×LI×LI×Int×LI×LI)⊕(LI×Int×LI×LI×Int×LI×LI)):=qf qDW 0 [1,3,4,51,52,55,56] [1,2,3,4,51,52] (qD Tryz.f52 20) f ([.s (.ptr 0 0 none 0),.s (.ptr 1 0 none 0),.s (.ptr 2 0 none 0),.agg [.arr .i8 16 x0],.s (.i .i64 x1),.agg [.arr .i8 8 x2],.s (.i .i64 x3)]) ([.cells 28 [.arr .i8 81 x4,.arr .i8 16 x5,.one [.i .i8 x6]],.cells 91 [.arr .i64 9 x7],.cells 124 [.arr .i64 2 x8]]) qNj
theorem qhW (f:Nat) (x0:LI) (x1:Int) (x2:LI) (x3:Int) (x4 x5:LI) (x6:Int) (x7 x8:LI):qNk (f+1) x0 x1 x2 x3 x4 x5 x6 x7 x8=qE0 (qNk f) x0 x1 x2 x3 x4 x5 x6 x7 x8:=by kernel_rfl
theorem qUR:∀ f,qNk f=qC7 f
 | 0=>rfl
 | f+1=>by funext x0 x1 x2 x3 x4 x5 x6 x7 x8;rw[qhW,qUR f];rfl
def qNi (f:Nat) (x0:LI) (x1:Int) (x2 x3:LI) (x4:Int) (x5 x6:LI):Option ((Int×LI×LI×Int×LI×LI)⊕(LI×LI×Int×LI×LI)):=qf qDW 0 [1,3,4,51,52] [1,2,3,4] (qD Tryz.f52 17) f ([.s (.ptr 0 0 none 0),.s (.ptr 1 0 none 0),.s (.ptr 2 0 none 0),.agg [.arr .i8 16 x0],.s (.i .i64 x1)]) ([.cells 28 [.arr .i8 81 x2,.arr .i8 16 x3,.one [.i .i8 x4]],.cells 91 [.arr .i64 9 x5],.cells 124 [.arr .i64 2 x6]]) qNh
theorem qhV (f:Nat) (x0:LI) (x1:Int) (x2 x3:LI) (x4:Int) (x5 x6:LI):qNi (f+1) x0 x1 x2 x3 x4 x5 x6=qDX (qNi f) x0 x1 x2 x3 x4 x5 x6:=by kernel_rfl
theorem qUQ:∀ f,qNi f=qCj f
 | 0=>rfl
 | f+1=>by funext x0 x1 x2 x3 x4 x5 x6;rw[qhV,qUQ f];rfl
def qNm (f:Nat) (x0:Int) (x1 x2:LI) (x3:Int) (x4:LI):Option ((Int×LI×LI×Int)⊕(LI×LI×Int)):=qf qDW 0 [1,3,12] [1,2] (qD Tryz.f52 30) f ([.s (.ptr 0 0 none 0),.s (.ptr 1 0 none 0),.s (.i .i64 x0)]) ([.cells 28 [.arr .i8 81 x1,.arr .i8 16 x2,.one [.i .i8 x3]],.cells 91 [.arr .i64 9 x4]]) qNl
theorem qhX (f:Nat) (x0:Int) (x1 x2:LI) (x3:Int) (x4:LI):qNm (f+1) x0 x1 x2 x3 x4=qG8 (qNm f) x0 x1 x2 x3 x4:=by kernel_rfl
theorem qUS:∀ f,qNm f=qDY f
 | 0=>rfl
 | f+1=>by funext x0 x1 x2 x3 x4;rw[qhX,qUS f];rfl
theorem qhe:qZ Tryz.prog qDW 0 (qD Tryz.f52 6):=
 qg mixed qIy (qM.of (l':=[]) (by kernel_rfl) trivial) (q:=6) (kin:=[1,3,4,22,23]) (kout:=[1,2,3,4]) (by kernel_rfl) (by kernel_rfl) fun vs objs K r h=>by
  replace h:qNs vs objs K=some r:=h
  unfold qNs at h
  split at h
  ·skip
   obtain⟨t,h1,h2⟩:=qE h
   rw[<- qUT] at h1
   refine⟨_,qNn,t,qB,h1,fun e vs' objs' hd=>?_⟩
   unfold qNn at hd
   split at hd
   ·skip
    cases hd
    exact h2
   ·skip
    cases hd
    exact h2
   ·cases hd
  ·cases h
theorem qhc:qZ Tryz.prog qDW 0 (qD Tryz.f52 20):=
 qg mixed qIy (qM.of (l':=[]) (by kernel_rfl) trivial) (q:=20) (kin:=[1,3,4,51,52,55,56]) (kout:=[1,2,3,4,51,52]) (by kernel_rfl) (by kernel_rfl) fun vs objs K r h=>by
  replace h:qNq vs objs K=some r:=h
  unfold qNq at h
  split at h
  ·skip
   obtain⟨t,h1,h2⟩:=qE h
   rw[<- qUR] at h1
   refine⟨_,qNj,t,qB,h1,fun e vs' objs' hd=>?_⟩
   unfold qNj at hd
   split at hd
   ·skip
    cases hd
    exact h2
   ·skip
    cases hd
    exact h2
   ·cases hd
  ·cases h
theorem qhd:qZ Tryz.prog qDW 0 (qD Tryz.f52 30):=
 qg mixed qIy (qM.of (l':=[]) (by kernel_rfl) trivial) (q:=30) (kin:=[1,3,12]) (kout:=[1,2]) (by kernel_rfl) (by kernel_rfl) fun vs objs K r h=>by
  replace h:qNr vs objs K=some r:=h
  unfold qNr at h
  split at h
  ·skip
   obtain⟨t,h1,h2⟩:=qE h
   rw[<- qUS] at h1
   refine⟨_,qNl,t,qB,h1,fun e vs' objs' hd=>?_⟩
   unfold qNl at hd
   split at hd
   ·skip
    cases hd
    exact h2
   ·skip
    cases hd
    exact h2
   ·cases hd
  ·cases h
theorem qhb:qZ Tryz.prog qDW 0 (qD Tryz.f52 17):=
 qg mixed qIy (qM.of (l':=[qD Tryz.f52 20]) (by kernel_rfl) ⟨qhc,trivial⟩) (q:=17) (kin:=[1,3,4,51,52]) (kout:=[1,2,3,4]) (by kernel_rfl) (by kernel_rfl) fun vs objs K r h=>by
  replace h:qNp vs objs K=some r:=h
  unfold qNp at h
  split at h
  ·skip
   obtain⟨t,h1,h2⟩:=qE h
   rw[<- qUQ] at h1
   refine⟨_,qNh,t,qB,h1,fun e vs' objs' hd=>?_⟩
   unfold qNh at hd
   split at hd
   ·skip
    cases hd
    exact h2
   ·skip
    cases hd
    exact h2
   ·cases hd
  ·cases h
def qUP:V->List Obj->Option (Int):=fun v objs=>match v,objs with
 | .s (.i .i64 y0),[]=>some (y0)
 | _,_=>none
theorem qhU (x0 x1:LI) (x2:Int):fnE qDW Tryz.f52 ([.agg [.arr .i8 81 x0,.arr .i8 16 x1,.one [.i .i8 x2]]]) ([]) qUP=qIx x0 x1 x2:=by kernel_rfl
def qUO:HA:=fun o vs objs K=>match vs,objs with
 | [.agg [.arr .i8 81 x0,.arr .i8 16 x1,.one [.i .i8 x2]]],[]=>ob (qIx x0 x1 x2) fun y0=>K false (.s (.i .i64 y0)) ([])
 | _,_=>o 52 vs objs K
def qUU (o:Orc):Orc:=qJ 52 (qUO o) o
theorem qha:OQ Tryz.prog qUU:=fun _ ho=>qL ho fun vs objs K r h=>by
 unfold qUO at h
 split at h
 ·skip
  obtain⟨t,h1,h2⟩:=qE h
  refine q7 mixed qIy (fn:=Tryz.f52) (b:=(Tryz.f52).body.getD .skip) (by kernel_rfl) (by kernel_rfl) (by kernel_rfl) ((qhU _ _ _).trans h1) (m:=0) rfl (qM.of (l':=[qD Tryz.f52 6,qD Tryz.f52 17,qD Tryz.f52 30]) (by kernel_rfl) ⟨qhe,qhb,qhd,trivial⟩) fun v objs' hd=>?_
  unfold qUP at hd;split at hd;(cases hd;exact h2);cases hd
 ·exact ho _ _ _ _ _ h
def qNd:Ctx:=mkC 14 (qI) [] qU
theorem qhP:CtxOK Tryz.prog qNd:=mkC_ok (qK)
def qNe:V->List Obj->Option (Int):=fun v objs=>match v,objs with
 | .s (.i .i64 y0),[]=>some (y0)
 | _,_=>none
theorem qhO (B:{R:Type}->Bool->Option R->Option R->Option R) (x0:Int):fnE { qNd with brg:=B } Tryz.f149 ([.s (.i .u64 x0)]) ([]) qNe=qNc B x0:=by kernel_rfl
theorem qhN (x0:Int):fnE qNd Tryz.f149 ([.s (.i .u64 x0)]) ([]) qNe=qEz x0:=qhO br x0
def qUJ:HA:=fun o vs objs K=>match vs,objs with
 | [.s (.i .u64 x0)],[]=>ob (qEz x0) fun y0=>K false (.s (.i .i64 y0)) ([])
 | _,_=>o 149 vs objs K
def qNf (o:Orc):Orc:=qJ 149 (qUJ o) o
theorem qUK:OQ Tryz.prog qNf:=fun _ ho=>qL ho fun vs objs K r h=>by
 unfold qUJ at h
 split at h
 ·skip
  obtain⟨t,h1,h2⟩:=qE h
  refine qa mixed qhP ((qhN _).trans h1) (by kernel_rfl) fun v objs' hd=>?_
  unfold qNe at hd;split at hd;(cases hd;exact h2);cases hd
 ·exact ho _ _ _ _ _ h
def qdb:Ctx:=mkC 18 ((qNf qI)) [] qU
theorem qsK:CtxOK Tryz.prog qdb:=mkC_ok ((qUK _ qK))
def qdc:V->List Obj->Option (Int):=fun v objs=>match v,objs with
 | .s (.i .i64 y0),[]=>some (y0)
 | _,_=>none
theorem qsJ (x0 x1:Int):fnE qdb Tryz.f126 ([.agg [.one [.i .u64 x0,.i .u64 x1]]]) ([]) qdc=qGm x0 x1:=by kernel_rfl
def qda:HA:=fun o vs objs K=>match vs,objs with
 | [.agg [.one [.i .u64 x0,.i .u64 x1]]],[]=>ob (qGm x0 x1) fun y0=>K false (.s (.i .i64 y0)) ([])
 | _,_=>o 126 vs objs K
def qMc (o:Orc):Orc:=qJ 126 (qda o) o
theorem qSS:OQ Tryz.prog qMc:=fun _ ho=>qL ho fun vs objs K r h=>by
 unfold qda at h
 split at h
 ·skip
  obtain⟨t,h1,h2⟩:=qE h
  refine qa mixed qsK ((qsJ _ _).trans h1) (by kernel_rfl) fun v objs' hd=>?_
  unfold qdc at hd;split at hd;(cases hd;exact h2);cases hd
 ·exact ho _ _ _ _ _ h
def qUd:Ctx:=mkC 9 ((qMc (qF8 qI))) [] qU
theorem qhl:CtxOK Tryz.prog qUd:=mkC_ok ((qSS _ (qHA _ qK)))
def qUe:V->List Obj->Option (Int):=fun v objs=>match v,objs with
 | .s (.i .i64 y0),[]=>some (y0)
 | _,_=>none
theorem qhk (x0:Int) (x1 x2:LI) (x3:Int) (x4 x5:LL):fnE qUd Tryz.f112 ([.s (.ptr 0 0 none 0),.s (.i .i64 x0)]) ([.rcells 72 [.arr .i8 81 x1,.arr .i8 16 x2,.one [.i .i8 x3],.rows [.i .u64,.i .u64] 32 x4,.rows [.i .u64,.i .u64] 2 x5]]) (qAM 1 qUe)=qF6 x0 x1 x2 x3 x4 x5:=by kernel_rfl
def qUc:HA:=fun o vs objs K=>match vs,List.map Obj.toRO objs with
 | [.s (.ptr 0 0 none 0),.s (.i .i64 x0)],[.rcells 72 [.arr .i8 81 x1,.arr .i8 16 x2,.one [.i .i8 x3],.rows [.i .u64,.i .u64] 32 x4,.rows [.i .u64,.i .u64] 2 x5]]=>ob (qF6 x0 x1 x2 x3 x4 x5) fun y0=>K true (.s (.i .i64 y0)) ([])
 | _,_=>o 112 vs objs K
def qKW (o:Orc):Orc:=qJ 112 (qUc o) o
theorem qNu:OQ Tryz.prog qKW:=fun _ ho=>qL ho fun vs objs K r h=>by
 unfold qUc at h
 split at h
 ·skip
  have hq:List.map Obj.toRO objs=_:=(by rename_i hq;first | exact hq | assumption)
  obtain⟨t,h1,h2⟩:=qE h
  refine qAj mixed qhl (m:=1) (fn:=Tryz.f112) (b:=(Tryz.f112).body.getD .skip) (by kernel_rfl) (by kernel_rfl) (by kernel_rfl) hq (by kernel_rfl) (by kernel_rfl) (qM.of (l':=[]) (by kernel_rfl) trivial) ((qhk _ _ _ _ _ _).trans h1) fun v objs' hd=>?_
  unfold qUe at hd;split at hd;(cases hd;exact h2);cases hd
 ·exact ho _ _ _ _ _ h
def qU5:Ctx:=mkC 14 ((qGo qI)) [] qU
theorem qh7:CtxOK Tryz.prog qU5:=mkC_ok ((qIZ _ qK))
def qU6:V->List Obj->Option (Int×Int):=fun v objs=>match v,objs with
 | .agg [.one [.i .u64 y0,.i .u64 y1]],[]=>some (y0,y1)
 | _,_=>none
theorem qh6 (x0 x1:LI) (x2:Int) (x3 x4:LL):fnE qU5 Tryz.f113 ([.s (.ptr 0 0 none 0)]) ([.rcells 72 [.arr .i8 81 x0,.arr .i8 16 x1,.one [.i .i8 x2],.rows [.i .u64,.i .u64] 32 x3,.rows [.i .u64,.i .u64] 2 x4]]) (qAM 1 qU6)=qC9 x0 x1 x2 x3 x4:=by kernel_rfl
def qU4:HA:=fun o vs objs K=>match vs,List.map Obj.toRO objs with
 | [.s (.ptr 0 0 none 0)],[.rcells 72 [.arr .i8 81 x0,.arr .i8 16 x1,.one [.i .i8 x2],.rows [.i .u64,.i .u64] 32 x3,.rows [.i .u64,.i .u64] 2 x4]]=>ob (qC9 x0 x1 x2 x3 x4) fun z=>K true (.agg [.one [.i .u64 (z.1),.i .u64 (z.2)]]) ([])
 | _,_=>o 113 vs objs K
def qHC (o:Orc):Orc:=qJ 113 (qU4 o) o
theorem qIz:OQ Tryz.prog qHC:=fun _ ho=>qL ho fun vs objs K r h=>by
 unfold qU4 at h
 split at h
 ·skip
  have hq:List.map Obj.toRO objs=_:=(by rename_i hq;first | exact hq | assumption)
  obtain⟨t,h1,h2⟩:=qE h
  refine qAj mixed qh7 (m:=1) (fn:=Tryz.f113) (b:=(Tryz.f113).body.getD .skip) (by kernel_rfl) (by kernel_rfl) (by kernel_rfl) hq (by kernel_rfl) (by kernel_rfl) (qM.of (l':=[]) (by kernel_rfl) trivial) ((qh6 _ _ _ _ _).trans h1) fun v objs' hd=>?_
  unfold qU6 at hd;split at hd;(cases hd;exact h2);cases hd
 ·exact ho _ _ _ _ _ h
def qGu (n:Nat) {R:Type} (o:Orc) (vs:List V) (objs:List Obj) (K:Bool->V->List Obj->Option R):Option R:=match vs,objs with
 | [.s (.i .i64 x0)],[]=>ob (qGt n x0) fun z=>K false (.s (.sl 0 0 (z.1) true)) ([.sli 164 false (.rows [.i .i64,.i .i64] (z.2.1) (z.2.2))])
 | _,_=>o 160 vs objs K
def qSu (n:Nat) (o:Orc):Orc:=fun f vs objs K=>bif Nat.beq f 160 then qGu n o vs objs K else o f vs objs K
def qtT (n:Nat):Orc:=qSu n qI
def qef (n:Nat):Ctx:=mkC 57 (qtT n) [] qU
def qeg:V->List Obj->Option (Nat×Nat×LL):=fun v objs=>match v,objs with
 | .s (.sl 0 0 y0 true),[.sli 164 false (.rows [.i .i64,.i .i64] y1 y2)]=>some (y0,y1,y2)
 | _,_=>none
theorem qtQ (n:Nat) (x0:Int):fnE (qef n) Tryz.f160 ([.s (.i .i64 x0)]) ([]) qeg=qGt (n+1) x0:=by kernel_rfl
theorem qtR (n:Nat) (hc:CtxOK Tryz.prog (qef n)) {vs:List V} {objs:List Obj} (x0:Int) {R:Type} {K:Bool->V->List Obj->Option R} {r:R} (hv:vs=[.s (.i .i64 x0)]) (ho:objs=[]) (h:ob (qGt (n+1) x0) (fun z=>K false (.s (.sl 0 0 (z.1) true)) ([.sli 164 false (.rows [.i .i64,.i .i64] (z.2.1) (z.2.2))]))=some r):
  ∃ p v objs',K p v objs'=some r /\ qEF Tryz.prog 160 vs objs p v objs':=by
 subst hv
 subst ho
 obtain⟨t,h1,h2⟩:=qE h
 refine qNI mixed hc (objs:=[]) (fn:=Tryz.f160) (b:=(Tryz.f160).body.getD .skip) (by kernel_rfl) (by kernel_rfl) (by kernel_rfl) (qM.of (l':=[]) (by kernel_rfl) trivial) ((qtQ n x0).trans h1) fun v objs' hd=>?_
 unfold qeg at hd;split at hd;(cases hd;exact h2);cases hd
theorem qtS:∀ (n:Nat) (o:Orc) (_:qC4 Tryz.prog o),qC4 Tryz.prog (qSu n o):=by
 intro n
 induction n with
 | zero=>
   intro o ho R f vs objs K r h
   replace h:(bif Nat.beq f 160 then qGu 0 o vs objs K else o f vs objs K)=some r:=h
   cases hf:Nat.beq f 160 with
   | false=>rw[hf] at h;exact ho f vs objs K r h
   | true=>
     rw[hf] at h
     have e:=Nat.eq_of_beq_eq_true hf
     subst e
     replace h:qGu 0 o vs objs K=some r:=h
     unfold qGu at h
     split at h
     ·skip
      cases h
     ·exact ho _ _ _ _ _ h
 | succ n ih=>
   intro o ho R f vs objs K r h
   replace h:(bif Nat.beq f 160 then qGu (n+1) o vs objs K else o f vs objs K)=some r:=h
   cases hf:Nat.beq f 160 with
   | false=>rw[hf] at h;exact ho f vs objs K r h
   | true=>
     rw[hf] at h
     have e:=Nat.eq_of_beq_eq_true hf
     subst e
     replace h:qGu (n+1) o vs objs K=some r:=h
     unfold qGu at h
     split at h
     ·skip
      exact qtR n ⟨tab_ok,ih _ qK,eqs_ok,bytes_ok,fun _ _ _=>rfl,exts_ok⟩ _ rfl rfl h
     ·exact ho _ _ _ _ _ h
def qec:Ctx:=mkC 15 (qI) [] qU
theorem qtP:CtxOK Tryz.prog qec:=mkC_ok (qK)
def qed:V->List Obj->Option (Int×Int):=fun v objs=>match v,objs with
 | .agg [.one [.i .i64 y0,.i .i64 y1]],[]=>some (y0,y1)
 | _,_=>none
theorem qtO (x0 x1 x2:Int):fnE qec Tryz.f151 ([.agg [.one [.i .i64 x0,.i .i64 x1]],.s (.i .i64 x2)]) ([]) qed=qFv x0 x1 x2:=by kernel_rfl
def qeb:HA:=fun o vs objs K=>match vs,objs with
 | [.agg [.one [.i .i64 x0,.i .i64 x1]],.s (.i .i64 x2)],[]=>ob (qFv x0 x1 x2) fun z=>K false (.agg [.one [.i .i64 (z.1),.i .i64 (z.2)]]) ([])
 | _,_=>o 151 vs objs K
def qSt (o:Orc):Orc:=qJ 151 (qeb o) o
theorem qee:OQ Tryz.prog qSt:=fun _ ho=>qL ho fun vs objs K r h=>by
 unfold qeb at h
 split at h
 ·skip
  obtain⟨t,h1,h2⟩:=qE h
  refine qa mixed qtP ((qtO _ _ _).trans h1) (by kernel_rfl) fun v objs' hd=>?_
  unfold qed at hd;split at hd;(cases hd;exact h2);cases hd
 ·exact ho _ _ _ _ _ h
def qdY:Ctx:=mkC 5 (qI) [] qU
theorem qsI:CtxOK Tryz.prog qdY:=mkC_ok (qK)
def qdZ:V->List Obj->Option (Int):=fun v objs=>match v,objs with
 | .s (.i .i64 y0),[]=>some (y0)
 | _,_=>none
theorem qsH (x0:Int):fnE qdY Tryz.f104 ([.s (.i .i64 x0)]) ([]) qdZ=qGl x0:=by kernel_rfl
def qdX:HA:=fun o vs objs K=>match vs,objs with
 | [.s (.i .i64 x0)],[]=>ob (qGl x0) fun y0=>K false (.s (.i .i64 y0)) ([])
 | _,_=>o 104 vs objs K
def qMb (o:Orc):Orc:=qJ 104 (qdX o) o
theorem qSR:OQ Tryz.prog qMb:=fun _ ho=>qL ho fun vs objs K r h=>by
 unfold qdX at h
 split at h
 ·skip
  obtain⟨t,h1,h2⟩:=qE h
  refine qa mixed qsI ((qsH _).trans h1) (by kernel_rfl) fun v objs' hd=>?_
  unfold qdZ at hd;split at hd;(cases hd;exact h2);cases hd
 ·exact ho _ _ _ _ _ h
def qeY:Ctx:=mkC 42 ((set_Squareo (qMh (qMb qI)))) [] qU
theorem qtN:CtxOK Tryz.prog qeY:=mkC_ok ((set_Squareo_ok _ (qSb _ (qSR _ qK))))
def qeZ:V->List Obj->Option (Int):=fun v objs=>match v,objs with
 | .s (.i .i64 y0),[]=>some (y0)
 | _,_=>none
theorem qtM (x0 x1 x2:Int):fnE qeY Tryz.f159 ([.agg [.one [.i .i64 x0,.i .i64 x1]],.s (.i .i64 x2)]) ([]) qeZ=qGs x0 x1 x2:=by kernel_rfl
def qeX:HA:=fun o vs objs K=>match vs,objs with
 | [.agg [.one [.i .i64 x0,.i .i64 x1]],.s (.i .i64 x2)],[]=>ob (qGs x0 x1 x2) fun y0=>K false (.s (.i .i64 y0)) ([])
 | _,_=>o 159 vs objs K
def qSs (o:Orc):Orc:=qJ 159 (qeX o) o
theorem qea:OQ Tryz.prog qSs:=fun _ ho=>qL ho fun vs objs K r h=>by
 unfold qeX at h
 split at h
 ·skip
  obtain⟨t,h1,h2⟩:=qE h
  refine qa mixed qtN ((qtM _ _ _).trans h1) (by kernel_rfl) fun v objs' hd=>?_
  unfold qeZ at hd;split at hd;(cases hd;exact h2);cases hd
 ·exact ho _ _ _ _ _ h
def qSw:Ex->List V->List Obj->Option (Int×Int×Int×Int):=fun e vs objs=>match e,vs,objs with
 | .exit 0,[.s (.ptr 0 0 none 0),.s (.ptr 1 0 none 0)],[.cells 68 [.one [.i .u64 y0,.i .u64 y1]],.cells 68 [.one [.i .u64 y2,.i .u64 y3]]]=>some (y0,y1,y2,y3)
 | _,_,_=>none
def qSy:HL:=fun vs objs K=>match vs,objs with
 | [.s (.i .i8 x0),.s (.i .i64 x1),.s (.ptr 0 0 none 0),.s (.ptr 1 0 none 0),.s (.sl 2 0 x2 true),.s (.i .i64 x3),.s (.i .i64 x4)],[.cells 68 [.one [.i .u64 x5,.i .u64 x6]],.cells 68 [.one [.i .u64 x7,.i .u64 x8]],.sli 164 false (.rows [.i .i64,.i .i64] x9 x10)]=>ob (qFx qB x0 x1 x2 x3 x4 x5 x6 x7 x8 x9 x10) fun z=>K (.exit 0) ([.s (.ptr 0 0 none 0),.s (.ptr 1 0 none 0)]) ([.cells 68 [.one [.i .u64 (z.1),.i .u64 (z.2.1)]],.cells 68 [.one [.i .u64 (z.2.2.1),.i .u64 (z.2.2.2)]]])
 | _,_=>none
def qtZ:{R:Type}->Nat->List V->List Obj->(Ex->List V->List Obj->Option R)->Option R:=fun q vs objs K=>bif Nat.beq q 3 then qSy vs objs K else none
def qMt:Ctx:=mkC 26 ((qEj (qSs (qSt (qDp (qSu qB (qCy qI))))))) [(3,[0,1,4,5,10,11,12],[4,5])] qtZ
theorem qem:CtxOK Tryz.prog qMt:=mkC_ok ((qFt _ (qea _ (qee _ (qEZ _ (qtS qB _ (qDG _ qK)))))))
def qSx (f:Nat) (x0 x1:Int) (x2:Nat) (x3 x4:Int) (x5 x6:Int) (x7 x8:Int) (x9:Nat) (x10:LL):Option (Int×Int×Int×Int):=qf qMt 0 [0,1,4,5,10,11,12] [4,5] (qD Tryz.f150 3) f ([.s (.i .i8 x0),.s (.i .i64 x1),.s (.ptr 0 0 none 0),.s (.ptr 1 0 none 0),.s (.sl 2 0 x2 true),.s (.i .i64 x3),.s (.i .i64 x4)]) ([.cells 68 [.one [.i .u64 x5,.i .u64 x6]],.cells 68 [.one [.i .u64 x7,.i .u64 x8]],.sli 164 false (.rows [.i .i64,.i .i64] x9 x10)]) qSw
theorem qtY (f:Nat) (x0 x1:Int) (x2:Nat) (x3 x4:Int) (x5 x6:Int) (x7 x8:Int) (x9:Nat) (x10:LL):qSx (f+1) x0 x1 x2 x3 x4 x5 x6 x7 x8 x9 x10=qIf (qSx f) x0 x1 x2 x3 x4 x5 x6 x7 x8 x9 x10:=by kernel_rfl
theorem qeo:∀ f,qSx f=qFx f
 | 0=>rfl
 | f+1=>by funext x0 x1 x2 x3 x4 x5 x6 x7 x8 x9 x10;rw[qtY,qeo f];rfl
theorem qtb:qZ Tryz.prog qMt 0 (qD Tryz.f150 3):=
 qg mixed qem (qM.of (l':=[]) (by kernel_rfl) trivial) (q:=3) (kin:=[0,1,4,5,10,11,12]) (kout:=[4,5]) (by kernel_rfl) (by kernel_rfl) fun vs objs K r h=>by
  replace h:qSy vs objs K=some r:=h
  unfold qSy at h
  split at h
  ·skip
   obtain⟨t,h1,h2⟩:=qE h
   rw[<- qeo] at h1
   refine⟨_,qSw,t,qB,h1,fun e vs' objs' hd=>?_⟩
   unfold qSw at hd;split at hd;(cases hd;exact h2);cases hd
  ·cases h
def qen:V->List Obj->Option (Int×Int):=fun v objs=>match v,objs with
 | .agg [.one [.i .u64 y0,.i .u64 y1]],[]=>some (y0,y1)
 | _,_=>none
theorem qtX (x0 x1:Int):fnE qMt Tryz.f150 ([.s (.i .i8 x0),.s (.i .i64 x1)]) ([]) qen=qJ2 x0 x1:=by kernel_rfl
def qel:HA:=fun o vs objs K=>match vs,objs with
 | [.s (.i .i8 x0),.s (.i .i64 x1)],[]=>ob (qJ2 x0 x1) fun z=>K false (.agg [.one [.i .u64 (z.1),.i .u64 (z.2)]]) ([])
 | _,_=>o 150 vs objs K
def qep (o:Orc):Orc:=qJ 150 (qel o) o
theorem qta:OQ Tryz.prog qep:=fun _ ho=>qL ho fun vs objs K r h=>by
 unfold qel at h
 split at h
 ·skip
  obtain⟨t,h1,h2⟩:=qE h
  refine q7 mixed qem (fn:=Tryz.f150) (b:=(Tryz.f150).body.getD .skip) (by kernel_rfl) (by kernel_rfl) (by kernel_rfl) ((qtX _ _).trans h1) (m:=0) rfl (qM.of (l':=[qD Tryz.f150 3]) (by kernel_rfl) ⟨qtb,trivial⟩) fun v objs' hd=>?_
  unfold qen at hd;split at hd;(cases hd;exact h2);cases hd
 ·exact ho _ _ _ _ _ h
def qaQ:Ctx:=mkC 24 (qI) [] qU
theorem qpC:CtxOK Tryz.prog qaQ:=mkC_ok (qK)
def qaR:V->List Obj->Option (Nat×Nat×LL):=fun v objs=>match v,objs with
 | .s (.sl 0 0 y0 true),[.sli 164 false (.rows [.i .i64,.i .i64] y1 y2)]=>some (y0,y1,y2)
 | _,_=>none
theorem qpB (x0:Int):fnE qaQ Tryz.f146 ([.s (.i .i64 x0)]) ([]) qaR=qGX x0:=by kernel_rfl
def qaP:HA:=fun o vs objs K=>match vs,objs with
 | [.s (.i .i64 x0)],[]=>ob (qGX x0) fun z=>K false (.s (.sl 0 0 (z.1) true)) ([.sli 164 false (.rows [.i .i64,.i .i64] (z.2.1) (z.2.2))])
 | _,_=>o 146 vs objs K
def qQj (o:Orc):Orc:=qJ 146 (qaP o) o
theorem qaS:OQ Tryz.prog qQj:=fun _ ho=>qL ho fun vs objs K r h=>by
 unfold qaP at h
 split at h
 ·skip
  obtain⟨t,h1,h2⟩:=qE h
  refine qa mixed qpC ((qpB _).trans h1) (by kernel_rfl) fun v objs' hd=>?_
  unfold qaR at hd;split at hd;(cases hd;exact h2);cases hd
 ·exact ho _ _ _ _ _ h
end
end Go.Kk.KkLP
