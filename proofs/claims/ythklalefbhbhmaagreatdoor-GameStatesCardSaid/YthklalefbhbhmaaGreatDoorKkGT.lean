/- Printed by a tool of this project (KkGen): the program's functions come to the plain ones. -/
import Derived.Test.YthklalefbhbhmaaGreatDoorProg
import Derived.Test.YthklalefbhbhmaaGreatDoorKkB
import Derived.Test.YthklalefbhbhmaaGreatDoorKkPl
namespace Go.Kk.KkGT
noncomputable section
open Go.Proofs Go.Kk.Pl
set_option maxRecDepth 100000
set_option maxHeartbeats 4000000
def tab:Tab:=[(1,.sc (.f)),
 (2,.sc (.i .i64)),
 (3,.sc (.i .i64)),
 (4,.sc (.b)),
 (5,.sc (.i .u8)),
 (6,.sc (.i .u8)),
 (7,.st [.one [.i .i64,.i .i64,.b,.i .u8]] [(0,0,2),(0,1,3),(0,2,4),(0,3,6)]),
 (8,.st [.one [.i .i64,.i .i64,.b,.i .u8]] [(0,0,2),(0,1,3),(0,2,4),(0,3,6)]),
 (9,.sc (.str)),
 (10,.sc (.str)),
 (11,.sc (.str)),
 (12,.sc (.i .u64)),
 (13,.st [.one [.str,.i .u64]] [(0,0,9),(0,1,12)]),
 (14,.st [.one [.str,.i .u64]] [(0,0,9),(0,1,12)]),
 (15,.sc (.p)),
 (16,.sc (.p)),
 (17,.sc (.p)),
 (18,.st [.one [.p]] [(0,0,17)]),
 (19,.st [.one [.p]] [(0,0,17)]),
 (21,.sc (.i .i32)),
 (22,.sc (.i .i8)),
 (23,.sc (.i .i8)),
 (24,.ar 81 1 23 (.arr .i8 81)),
 (25,.ar 8 1 22 (.arr .i8 8)),
 (26,.ar 2 8 25 (.arr .i8 16)),
 (27,.st [.arr .i8 81,.arr .i8 16,.one [.i .i8]] [(0,0,24),(1,0,26),(2,0,22)]),
 (28,.st [.arr .i8 81,.arr .i8 16,.one [.i .i8]] [(0,0,24),(1,0,26),(2,0,22)]),
 (29,.ar 2 1 3 (.arr .i64 2)),
 (30,.ar 2 2 29 (.arr .i64 4)),
 (31,.sc (.f)),
 (32,.sc (.f)),
 (33,.sc (.p)),
 (34,.sc (.i .i64)),
 (36,.sc (.f)),
 (37,.sc (.sl 28)),
 (38,.sc (.sl 43)),
 (39,.st [.one [.sl 28,.sl 43,.i .i64,.i .i64]] [(0,0,37),(0,1,38),(0,2,3),(0,3,3)]),
 (40,.st [.one [.sl 28,.sl 43,.i .i64,.i .i64]] [(0,0,37),(0,1,38),(0,2,3),(0,3,3)]),
 (41,.sc (.f)),
 (42,.st [.one [.i .i64,.i .i64,.i .i64,.b]] [(0,0,3),(0,1,3),(0,2,3),(0,3,4)]),
 (43,.st [.one [.i .i64,.i .i64,.i .i64,.b]] [(0,0,3),(0,1,3),(0,2,3),(0,3,4)]),
 (45,.sc (.f)),
 (46,.sc (.f)),
 (48,.sc (.f)),
 (49,.sc (.f)),
 (50,.sc (.f)),
 (51,.sc (.sl 3)),
 (52,.sc (.f)),
 (53,.sc (.f)),
 (54,.sc (.f)),
 (55,.sc (.f)),
 (56,.sc (.f)),
 (58,.sc (.f)),
 (59,.sc (.f)),
 (60,.sc (.sl 62)),
 (61,.st [.one [.i .i64,.i .i64,.i .i64,.i .i64,.b]] [(0,0,3),(0,1,43)]),
 (62,.st [.one [.i .i64,.i .i64,.i .i64,.i .i64,.b]] [(0,0,3),(0,1,43)]),
 (63,.sc (.f)),
 (64,.sc (.f)),
 (65,.sc (.f)),
 (66,.sc (.p)),
 (67,.sc (.f)),
 (68,.sc (.m 77 51)),
 (69,.sc (.sl 4)),
 (70,.st [.arr .i8 81,.arr .i8 16,.one [.i .i8],.one [.p,.sl 43,.sl 28,.m 77 51,.sl 4,.i .i64,.i .i64]] [(0,0,28),(3,0,66),(3,1,38),(3,2,37),(3,3,68),(3,4,69),(3,5,3),(3,6,3)]),
 (71,.st [.arr .i8 81,.arr .i8 16,.one [.i .i8],.one [.p,.sl 43,.sl 28,.m 77 51,.sl 4,.i .i64,.i .i64]] [(0,0,28),(3,0,66),(3,1,38),(3,2,37),(3,3,68),(3,4,69),(3,5,3),(3,6,3)]),
 (72,.sc (.f)),
 (73,.sc (.f)),
 (74,.sc (.f)),
 (75,.sc (.p)),
 (76,.sc (.i .u64)),
 (77,.sc (.i .u64)),
 (78,.sc (.sl 109)),
 (79,.st [.one [.p,.i .u64,.sl 109]] [(0,0,75),(0,1,77),(0,2,78)]),
 (80,.st [.one [.p,.i .u64,.sl 109]] [(0,0,75),(0,1,77),(0,2,78)]),
 (81,.sc (.f)),
 (82,.st [.one [.i .u64,.i .u64]] [(0,0,76),(0,1,76)]),
 (83,.st [.one [.i .u64,.i .u64]] [(0,0,76),(0,1,76)]),
 (84,.ar 32 1 83 (.rows [.i .u64,.i .u64] 32)),
 (85,.ar 2 1 83 (.rows [.i .u64,.i .u64] 2)),
 (86,.st [.arr .i8 81,.arr .i8 16,.one [.i .i8],.rows [.i .u64,.i .u64] 32,.rows [.i .u64,.i .u64] 2] [(0,0,28),(3,0,84),(4,0,85)]),
 (87,.st [.arr .i8 81,.arr .i8 16,.one [.i .i8],.rows [.i .u64,.i .u64] 32,.rows [.i .u64,.i .u64] 2] [(0,0,28),(3,0,84),(4,0,85)]),
 (88,.ar 9 1 3 (.arr .i64 9)),
 (89,.sc (.f)),
 (90,.sc (.f)),
 (91,.sc (.f)),
 (92,.sc (.f)),
 (93,.sc (.f)),
 (94,.sc (.f)),
 (95,.ar 81 1 4 (.barr 81)),
 (96,.sc (.f)),
 (97,.sc (.f)),
 (98,.sc (.f)),
 (99,.sc (.f)),
 (100,.sc (.f)),
 (101,.sc (.f)),
 (103,.sc (.f)),
 (104,.sc (.f)),
 (105,.sc (.f)),
 (106,.sc (.f)),
 (107,.sc (.f)),
 (108,.st [.one [.i .i64,.i .i64,.i .i64,.b,.i .i8,.i .i8]] [(0,0,43),(0,4,23),(0,5,23)]),
 (109,.st [.one [.i .i64,.i .i64,.i .i64,.b,.i .i8,.i .i8]] [(0,0,43),(0,4,23),(0,5,23)]),
 (110,.sc (.f)),
 (111,.sc (.f)),
 (112,.sc (.f)),
 (113,.sc (.f)),
 (114,.sc (.f)),
 (115,.sc (.f)),
 (116,.sc (.f)),
 (117,.sc (.f)),
 (118,.sc (.m 3 83)),
 (119,.st [.one [.p,.i .i64,.i .i64,.i .u64,.i .u64,.m 3 83,.b]] [(0,0,75),(0,1,3),(0,2,3),(0,3,83),(0,5,118),(0,6,4)]),
 (120,.st [.one [.p,.i .i64,.i .i64,.i .u64,.i .u64,.m 3 83,.b]] [(0,0,75),(0,1,3),(0,2,3),(0,3,83),(0,5,118),(0,6,4)]),
 (121,.sc (.f)),
 (122,.sc (.f)),
 (123,.sc (.f)),
 (124,.sc (.f)),
 (125,.sc (.f)),
 (126,.sc (.f)),
 (127,.sc (.f)),
 (128,.sc (.f)),
 (129,.sc (.f)),
 (130,.sc (.f)),
 (131,.sc (.f)),
 (132,.sc (.f)),
 (133,.sc (.f)),
 (134,.sc (.f)),
 (135,.sc (.f)),
 (137,.sc (.f)),
 (138,.sc (.f)),
 (140,.sc (.f)),
 (141,.sc (.f)),
 (142,.sc (.f)),
 (143,.sc (.i .u64)),
 (144,.sc (.sl 147)),
 (145,.sc (.f)),
 (146,.st [.one [.i .i64,.i .i64]] [(0,0,3),(0,1,3)]),
 (147,.st [.one [.i .i64,.i .i64]] [(0,0,3),(0,1,3)]),
 (148,.sc (.f)),
 (149,.sc (.f)),
 (150,.sc (.f)),
 (151,.sc (.f)),
 (152,.ar 64 1 5 (.arr .u8 64)),
 (153,.sc (.f)),
 (154,.st [.one [.p,.p,.p,.str]] [(0,0,17),(0,1,17),(0,2,17),(0,3,9)]),
 (155,.st [.one [.p,.p,.p,.str]] [(0,0,17),(0,1,17),(0,2,17),(0,3,9)]),
 (159,.sc (.i .u32)),
 (160,.sc (.i .u8)),
 (161,.sc (.i .u8)),
 (162,.sc (.f)),
 (163,.sc (.p)),
 (164,.sc (.i .i32)),
 (165,.sc (.i .i32)),
 (166,.st [.one [.i .u64,.i .u64,.i .u32,.i .u8,.i .u8,.i .u8,.i .u8,.f,.p,.i .i32,.i .i32]] [(0,0,12),(0,1,12),(0,2,159),(0,3,160),(0,4,5),(0,5,5),(0,6,161),(0,7,162),(0,8,163),(0,9,164),(0,10,165)]),
 (167,.st [.one [.i .u64,.i .u64,.i .u32,.i .u8,.i .u8,.i .u8,.i .u8,.f,.p,.i .i32,.i .i32]] [(0,0,12),(0,1,12),(0,2,159),(0,3,160),(0,4,5),(0,5,5),(0,6,161),(0,7,162),(0,8,163),(0,9,164),(0,10,165)])]
def eqs:List TypeId:=[3,24,25,26,27,28,29,42,43,77,82,83,146,147]
def bytes:List (TypeId×Nat):=[(28,98),(43,32),(3,8),(62,40),(4,1),(109,40),(147,16)]
theorem mixed:Tryz.prog.follows .mixedOrders=true:=by kernel_rfl
theorem tab_ok:∀ t L,Tab.get tab t=some L->LayOK Tryz.prog tab t L:=qdL (P:=Tryz.prog) (tab:=tab) (l:=tab) (by kernel_rfl)
theorem eqs_ok:∀ t L,qC0 t eqs=true->Tab.get tab t=some L->∃ f ck,f<=10000 /\ qA8 Tryz.prog f t=some ck /\ qBJ L.segTs=some ck /\ Tryz.prog.eqGuardType Tryz.prog.depth t=false:=qVH (P:=Tryz.prog) (tab:=tab) (l:=eqs) (by kernel_rfl)
theorem bytes_ok:∀ t n,byN t bytes=some n->∃ i,Tryz.prog.info? t=some i /\ i.bytes=n:=qUU (P:=Tryz.prog) (l:=bytes) (by kernel_rfl)
def mkC (nt:Nat) (orc:Orc) (keeps:List (Nat×List Nat×List Nat)) (lp:{R:Type}->Nat->List V->List Obj->(Ex->List V->List Obj->Option R)->Option R):Ctx:={tab:=tab,eqs:=eqs,bytes:=bytes,nt:=nt,orc:=orc,keeps:=keeps,lp:=lp}
theorem exts_ok:qS4 Tryz.prog:=fun e h=>by cases h
theorem mkC_ok {nt:Nat} {orc:Orc} {keeps:List (Nat×List Nat×List Nat)} {lp:{R:Type}->Nat->List V->List Obj->(Ex->List V->List Obj->Option R)->Option R} (h:qDW Tryz.prog orc):CtxOK Tryz.prog (mkC nt orc keeps lp):=⟨tab_ok,h,eqs_ok,bytes_ok,fun _ _ _=>rfl,exts_ok⟩
def kL0:List CK:=List.replicate 98 (.i .i8)
def set_Squarec:Ctx:=mkC 23 (qK) [] qV
theorem set_Squarec_ok:CtxOK Tryz.prog set_Squarec:=mkC_ok (qM)
def set_Squared:V->List Obj->Option (Int):=fun v objs=>match v,objs with
 | .s (.i .i64 y0),[]=>some (y0)
 | _,_=>none
def set_Squarea:HA:=fun o vs objs K=>match vs,objs with
 | [.s (.i .i64 x0),.s (.i .i64 x1)],[]=>ob (qDO x0 x1) fun y0=>K false (.s (.i .i64 y0)) ([])
 | _,_=>o 36 vs objs K
def set_Squareo (o:Orc):Orc:=qL 36 (set_Squarea o) o
theorem set_Squareo_ok:OQ Tryz.prog set_Squareo:=fun _ ho=>qN ho fun vs objs K r h=>by
 unfold set_Squarea at h
 split at h
 ·obtain⟨t,h1,h2⟩:=qE h
  refine qd mixed set_Squarec_ok (D:=set_Squared) (fn:=Tryz.f36) (Eq.trans (by kernel_rfl) h1) (by kernel_rfl) fun v objs' hd=>?_
  unfold set_Squared at hd;split at hd;(cases hd;exact h2);cases hd
 ·exact ho _ _ _ _ _ h
def qfG:Ctx:=mkC 14 ((set_Squareo qK)) [] qV
theorem qfH:CtxOK Tryz.prog qfG:=mkC_ok ((set_Squareo_ok _ qM))
def qUB:V->List Obj->Option (Int):=fun v objs=>match v,objs with
 | .s (.i .i64 y0),[]=>some (y0)
 | _,_=>none
def qUA:HA:=fun o vs objs K=>match vs,List.map Obj.toRO objs with
 | [.s (.i .i64 x0),.s (.ptr 0 0 none 0),.s (.ptr 1 0 none 0)],[.rcells 3 [.one [.i .i64 x1]],.rcells 3 [.one [.i .i64 x2]]]=>ob (qNO x0 x1 x2) fun y0=>K true (.s (.i .i64 y0)) ([])
 | _,_=>o 35 vs objs K
def qUC (o:Orc):Orc:=qL 35 (qUA o) o
theorem qfI:OQ Tryz.prog qUC:=fun _ ho=>qN ho fun vs objs K r h=>by
 unfold qUA at h
 split at h
 ·have hq:List.map Obj.toRO objs=_:=(by rename_i hq;first | exact hq | assumption)
  obtain⟨t,h1,h2⟩:=qE h
  refine qAs mixed qfH (D:=qUB) (m:=2) (fn:=Tryz.f35) (by kernel_rfl) hq (by kernel_rfl) (by kernel_rfl) (qP.of (l':=[]) (by kernel_rfl) trivial) (Eq.trans (by kernel_rfl) h1) fun v objs' hd=>?_
  unfold qUB at hd;split at hd;(cases hd;exact h2);cases hd
 ·exact ho _ _ _ _ _ h
def qlv:Ctx:=mkC 28 (qK) [] qV
theorem qlw:CtxOK Tryz.prog qlv:=mkC_ok (qM)
def qYs:V->List Obj->Option (Int):=fun v objs=>match v,objs with
 | .s (.i .i8 y0),[]=>some (y0)
 | _,_=>none
def qYr:HA:=fun o vs objs K=>match vs,objs with
 | [.s (.i .i64 x0),.s (.i .i64 x1)],[]=>ob (qBS x0 x1) fun y0=>K false (.s (.i .i8 y0)) ([])
 | _,_=>o 37 vs objs K
def qFJ (o:Orc):Orc:=qL 37 (qYr o) o
theorem qGH:OQ Tryz.prog qFJ:=fun _ ho=>qN ho fun vs objs K r h=>by
 unfold qYr at h
 split at h
 ·obtain⟨t,h1,h2⟩:=qE h
  refine qd mixed qlw (D:=qYs) (fn:=Tryz.f37) (Eq.trans (by kernel_rfl) h1) (by kernel_rfl) fun v objs' hd=>?_
  unfold qYs at hd;split at hd;(cases hd;exact h2);cases hd
 ·exact ho _ _ _ _ _ h
def qNS:Ex->List V->List Obj->Option (Int×LI×LI×Int×LI×LI×Int×LI):=fun e vs objs=>match e,vs,objs with
 | .exit 2,[.s (.ptr 0 0 none 0),.s (.ptr 1 0 none 0),.s (.ptr 2 0 none 0),.s (.i .i64 y0)],[.cells 28 [.arr .i8 81 y1,.arr .i8 16 y2,.one [.i .i8 y3]],.cells 28 [.arr .i8 81 y4,.arr .i8 16 y5,.one [.i .i8 y6]],.cells 88 [.arr .i64 9 y7]]=>some (y0,y1,y2,y3,y4,y5,y6,y7)
 | _,_,_=>none
def qNQ:Ex->List V->List Obj->Option (LI×LI×Int×LI×LI×Int):=fun e vs objs=>match e,vs,objs with
 | .exit 0,[.s (.ptr 0 0 none 0),.s (.ptr 1 0 none 0)],[.cells 28 [.arr .i8 81 y0,.arr .i8 16 y1,.one [.i .i8 y2]],.cells 28 [.arr .i8 81 y3,.arr .i8 16 y4,.one [.i .i8 y5]]]=>some (y0,y1,y2,y3,y4,y5)
 | _,_,_=>none
def qNV:HL:=fun vs objs K=>match vs,objs with
 | [.s (.ptr 0 0 none 0),.s (.ptr 1 0 none 0),.s (.ptr 2 0 none 0),.s (.ptr 3 0 none 0),.s (.i .i64 x0),.s (.i .i64 x1)],[.cells 28 [.arr .i8 81 x2,.arr .i8 16 x3,.one [.i .i8 x4]],.cells 28 [.arr .i8 81 x5,.arr .i8 16 x6,.one [.i .i8 x7]],.cells 88 [.arr .i64 9 x8],.cells 3 [.one [.i .i64 x9]]]=>ob (qKK qC x0 x1 x2 x3 x4 x5 x6 x7 x8 x9) fun (z0,z1,z2,z3,z4,z5,z6,z7)=>K (.exit 2) ([.s (.ptr 0 0 none 0),.s (.ptr 1 0 none 0),.s (.ptr 2 0 none 0),.s (.i .i64 z0)]) ([.cells 28 [.arr .i8 81 z1,.arr .i8 16 z2,.one [.i .i8 z3]],.cells 28 [.arr .i8 81 z4,.arr .i8 16 z5,.one [.i .i8 z6]],.cells 88 [.arr .i64 9 z7]])
 | _,_=>none
def qNU:HL:=fun vs objs K=>match vs,objs with
 | [.s (.ptr 0 0 none 0),.s (.ptr 1 0 none 0),.s (.ptr 2 0 none 0),.s (.i .i64 x0)],[.cells 28 [.arr .i8 81 x1,.arr .i8 16 x2,.one [.i .i8 x3]],.cells 28 [.arr .i8 81 x4,.arr .i8 16 x5,.one [.i .i8 x6]],.cells 88 [.arr .i64 9 x7]]=>ob (qKJ qC x0 x1 x2 x3 x4 x5 x6 x7) fun (z0,z1,z2,z3,z4,z5)=>K (.exit 0) ([.s (.ptr 0 0 none 0),.s (.ptr 1 0 none 0)]) ([.cells 28 [.arr .i8 81 z0,.arr .i8 16 z1,.one [.i .i8 z2]],.cells 28 [.arr .i8 81 z3,.arr .i8 16 z4,.one [.i .i8 z5]]])
 | _,_=>none
def qfL:{R:Type}->Nat->List V->List Obj->(Ex->List V->List Obj->Option R)->Option R:=fun q vs objs K=>bif Nat.beq q 7 then qNV vs objs K else bif Nat.beq q 4 then qNU vs objs K else none
def qIi:Ctx:=mkC 44 ((set_Squareo (qFJ (qUC qK)))) [(4,[0,1,2,7],[0,1]),(7,[0,1,2,3,7,10],[0,1,2,7])] qfL
theorem qNP:CtxOK Tryz.prog qIi:=mkC_ok ((set_Squareo_ok _ (qGH _ (qfI _ qM))))
def qNT (f:Nat) (x0 x1:Int) (x2 x3:LI) (x4:Int) (x5 x6:LI) (x7:Int) (x8:LI) (x9:Int):Option (Int×LI×LI×Int×LI×LI×Int×LI):=qh qIi 0 [0,1,2,3,7,10] [0,1,2,7] (qF Tryz.f22 7) f ([.s (.ptr 0 0 none 0),.s (.ptr 1 0 none 0),.s (.ptr 2 0 none 0),.s (.ptr 3 0 none 0),.s (.i .i64 x0),.s (.i .i64 x1)]) ([.cells 28 [.arr .i8 81 x2,.arr .i8 16 x3,.one [.i .i8 x4]],.cells 28 [.arr .i8 81 x5,.arr .i8 16 x6,.one [.i .i8 x7]],.cells 88 [.arr .i64 9 x8],.cells 3 [.one [.i .i64 x9]]]) qNS
theorem qfK (f:Nat) (x0 x1:Int) (x2 x3:LI) (x4:Int) (x5 x6:LI) (x7:Int) (x8:LI) (x9:Int):qNT (f+1) x0 x1 x2 x3 x4 x5 x6 x7 x8 x9=qUI (qNT f) x0 x1 x2 x3 x4 x5 x6 x7 x8 x9:=by kernel_rfl
theorem qUH:∀ f,qNT f=qKK f
 | 0=>rfl
 | f+1=>by funext x0 x1 x2 x3 x4 x5 x6 x7 x8 x9;rw[qfK,qUH f];rfl
def qNR (f:Nat) (x0:Int) (x1 x2:LI) (x3:Int) (x4 x5:LI) (x6:Int) (x7:LI):Option (LI×LI×Int×LI×LI×Int):=qh qIi 0 [0,1,2,7] [0,1] (qF Tryz.f22 4) f ([.s (.ptr 0 0 none 0),.s (.ptr 1 0 none 0),.s (.ptr 2 0 none 0),.s (.i .i64 x0)]) ([.cells 28 [.arr .i8 81 x1,.arr .i8 16 x2,.one [.i .i8 x3]],.cells 28 [.arr .i8 81 x4,.arr .i8 16 x5,.one [.i .i8 x6]],.cells 88 [.arr .i64 9 x7]]) qNQ
theorem qfJ (f:Nat) (x0:Int) (x1 x2:LI) (x3:Int) (x4 x5:LI) (x6:Int) (x7:LI):qNR (f+1) x0 x1 x2 x3 x4 x5 x6 x7=qUG (qNR f) x0 x1 x2 x3 x4 x5 x6 x7:=by kernel_rfl
theorem qUF:∀ f,qNR f=qKJ f
 | 0=>rfl
 | f+1=>by funext x0 x1 x2 x3 x4 x5 x6 x7;rw[qfJ,qUF f];rfl
theorem qfO:qe Tryz.prog qIi 0 (qF Tryz.f22 7):=
 qj mixed qNP (qP.of (l':=[]) (by kernel_rfl) trivial) (q:=7) (kin:=[0,1,2,3,7,10]) (kout:=[0,1,2,7]) (by kernel_rfl) (by kernel_rfl) fun vs objs K r h=>by
  replace h:qNV vs objs K=some r:=h
  unfold qNV at h
  split at h
  ·obtain⟨t,h1,h2⟩:=qE h
   rw[<- qUH] at h1
   refine⟨_,qNS,t,qC,h1,fun e vs' objs' hd=>?_⟩
   unfold qNS at hd;split at hd;(cases hd;exact h2);cases hd
  ·cases h
theorem qfN:qe Tryz.prog qIi 0 (qF Tryz.f22 4):=
 qj mixed qNP (qP.of (l':=[qF Tryz.f22 7]) (by kernel_rfl) ⟨qfO,trivial⟩) (q:=4) (kin:=[0,1,2,7]) (kout:=[0,1]) (by kernel_rfl) (by kernel_rfl) fun vs objs K r h=>by
  replace h:qNU vs objs K=some r:=h
  unfold qNU at h
  split at h
  ·obtain⟨t,h1,h2⟩:=qE h
   rw[<- qUF] at h1
   refine⟨_,qNQ,t,qC,h1,fun e vs' objs' hd=>?_⟩
   unfold qNQ at hd;split at hd;(cases hd;exact h2);cases hd
  ·cases h
def qUE:V->List Obj->Option (LI×LI×Int):=fun v objs=>match v,objs with
 | .agg [.arr .i8 81 y0,.arr .i8 16 y1,.one [.i .i8 y2]],[]=>some (y0,y1,y2)
 | _,_=>none
def qUD:HA:=fun o vs objs K=>match vs,objs with
 | [],[]=>ob (qT9 ) fun (z0,z1,z2)=>K false (.agg [.arr .i8 81 z0,.arr .i8 16 z1,.one [.i .i8 z2]]) ([])
 | _,_=>o 22 vs objs K
def qUJ (o:Orc):Orc:=qL 22 (qUD o) o
theorem qfM:OQ Tryz.prog qUJ:=fun _ ho=>qN ho fun vs objs K r h=>by
 unfold qUD at h
 split at h
 ·obtain⟨t,h1,h2⟩:=qE h
  refine qAQ mixed qNP (D:=qUE) (fn:=Tryz.f22) (Eq.trans (by kernel_rfl) h1) (by kernel_rfl) (m:=0) rfl (qP.of (l':=[qF Tryz.f22 4]) (by kernel_rfl) ⟨qfN,trivial⟩) fun v objs' hd=>?_
  unfold qUE at hd;split at hd;(cases hd;exact h2);cases hd
 ·exact ho _ _ _ _ _ h
def qlt:Ctx:=mkC 28 (qK) [] qV
theorem qlu:CtxOK Tryz.prog qlt:=mkC_ok (qM)
def qYq:V->List Obj->Option (Int):=fun v objs=>match v,objs with
 | .s (.i .i64 y0),[]=>some (y0)
 | _,_=>none
def qYp:HA:=fun o vs objs K=>match vs,objs with
 | [.s (.i .i8 x0)],[]=>ob (qAO x0) fun y0=>K false (.s (.i .i64 y0)) ([])
 | _,_=>o 64 vs objs K
def qDI (o:Orc):Orc:=qL 64 (qYp o) o
theorem qDo:OQ Tryz.prog qDI:=fun _ ho=>qN ho fun vs objs K r h=>by
 unfold qYp at h
 split at h
 ·obtain⟨t,h1,h2⟩:=qE h
  refine qd mixed qlu (D:=qYq) (fn:=Tryz.f64) (Eq.trans (by kernel_rfl) h1) (by kernel_rfl) fun v objs' hd=>?_
  unfold qYq at hd;split at hd;(cases hd;exact h2);cases hd
 ·exact ho _ _ _ _ _ h
def qlz:Ctx:=mkC 10 ((qDI qK)) [] qV
theorem ql0:CtxOK Tryz.prog qlz:=mkC_ok ((qDo _ qM))
def qYx:V->List Obj->Option (Int):=fun v objs=>match v,objs with
 | .s (.i .i64 y0),[]=>some (y0)
 | _,_=>none
def qYw:HA:=fun o vs objs K=>match vs,objs with
 | [.s (.i .i8 x0)],[]=>ob (qAz x0) fun y0=>K false (.s (.i .i64 y0)) ([])
 | _,_=>o 76 vs objs K
def qFK (o:Orc):Orc:=qL 76 (qYw o) o
theorem qGI:OQ Tryz.prog qFK:=fun _ ho=>qN ho fun vs objs K r h=>by
 unfold qYw at h
 split at h
 ·obtain⟨t,h1,h2⟩:=qE h
  refine qd mixed ql0 (D:=qYx) (fn:=Tryz.f76) (Eq.trans (by kernel_rfl) h1) (by kernel_rfl) fun v objs' hd=>?_
  unfold qYx at hd;split at hd;(cases hd;exact h2);cases hd
 ·exact ho _ _ _ _ _ h
def qlx:Ctx:=mkC 13 ((qFJ qK)) [] qV
theorem qly:CtxOK Tryz.prog qlx:=mkC_ok ((qGH _ qM))
def qYu:V->List Obj->Option (Int):=fun v objs=>match v,objs with
 | .s (.i .i64 y0),[]=>some (y0)
 | _,_=>none
def qYt:HA:=fun o vs objs K=>match vs,objs with
 | [.s (.i .i64 x0)],[]=>ob (qEL x0) fun y0=>K false (.s (.i .i64 y0)) ([])
 | _,_=>o 65 vs objs K
def qP3 (o:Orc):Orc:=qL 65 (qYt o) o
theorem qYv:OQ Tryz.prog qP3:=fun _ ho=>qN ho fun vs objs K r h=>by
 unfold qYt at h
 split at h
 ·obtain⟨t,h1,h2⟩:=qE h
  refine qd mixed qly (D:=qYu) (fn:=Tryz.f65) (Eq.trans (by kernel_rfl) h1) (by kernel_rfl) fun v objs' hd=>?_
  unfold qYu at hd;split at hd;(cases hd;exact h2);cases hd
 ·exact ho _ _ _ _ _ h
def ql1:Ctx:=mkC 15 (qK) [] qV
theorem ql2:CtxOK Tryz.prog ql1:=mkC_ok (qM)
def qYz:V->List Obj->Option (Int):=fun v objs=>match v,objs with
 | .s (.i .i64 y0),[]=>some (y0)
 | _,_=>none
def qYy:HA:=fun o vs objs K=>match vs,objs with
 | [.s (.i .i64 x0)],[]=>ob (qP4 x0) fun y0=>K false (.s (.i .i64 y0)) ([])
 | _,_=>o 77 vs objs K
def qY0 (o:Orc):Orc:=qL 77 (qYy o) o
theorem ql3:OQ Tryz.prog qY0:=fun _ ho=>qN ho fun vs objs K r h=>by
 unfold qYy at h
 split at h
 ·obtain⟨t,h1,h2⟩:=qE h
  refine qd mixed ql2 (D:=qYz) (fn:=Tryz.f77) (Eq.trans (by kernel_rfl) h1) (by kernel_rfl) fun v objs' hd=>?_
  unfold qYz at hd;split at hd;(cases hd;exact h2);cases hd
 ·exact ho _ _ _ _ _ h
def qp0:Ctx:=mkC 5 (qK) [] qV
theorem qp1:CtxOK Tryz.prog qp0:=mkC_ok (qM)
def qcU:V->List Obj->Option (Int):=fun v objs=>match v,objs with
 | .s (.i .i64 y0),[]=>some (y0)
 | _,_=>none
def qcT:HA:=fun o vs objs K=>match vs,objs with
 | [.s (.i .i64 x0)],[]=>ob (qIK x0) fun y0=>K false (.s (.i .i64 y0)) ([])
 | _,_=>o 133 vs objs K
def qSJ (o:Orc):Orc:=qL 133 (qcT o) o
theorem qcV:OQ Tryz.prog qSJ:=fun _ ho=>qN ho fun vs objs K r h=>by
 unfold qcT at h
 split at h
 ·obtain⟨t,h1,h2⟩:=qE h
  refine qd mixed qp1 (D:=qcU) (fn:=Tryz.f133) (Eq.trans (by kernel_rfl) h1) (by kernel_rfl) fun v objs' hd=>?_
  unfold qcU at hd;split at hd;(cases hd;exact h2);cases hd
 ·exact ho _ _ _ _ _ h
def qqq:Ctx:=mkC 23 ((qSJ qK)) [] qV
theorem qqr:CtxOK Tryz.prog qqq:=mkC_ok ((qcV _ qM))
def qc6:V->List Obj->Option (Int):=fun v objs=>match v,objs with
 | .s (.i .i64 y0),[]=>some (y0)
 | _,_=>none
def qc5:HA:=fun o vs objs K=>match vs,objs with
 | [.s (.i .i64 x0),.s (.i .i64 x1)],[]=>ob (qGj x0 x1) fun y0=>K false (.s (.i .i64 y0)) ([])
 | _,_=>o 121 vs objs K
def qSa (o:Orc):Orc:=qL 121 (qc5 o) o
theorem qc7:OQ Tryz.prog qSa:=fun _ ho=>qN ho fun vs objs K r h=>by
 unfold qc5 at h
 split at h
 ·obtain⟨t,h1,h2⟩:=qE h
  refine qd mixed qqr (D:=qc6) (fn:=Tryz.f121) (Eq.trans (by kernel_rfl) h1) (by kernel_rfl) fun v objs' hd=>?_
  unfold qc6 at hd;split at hd;(cases hd;exact h2);cases hd
 ·exact ho _ _ _ _ _ h
def qqf:Ctx:=mkC 25 ((qDI (qSa (qFK qK)))) [] qV
theorem qqg:CtxOK Tryz.prog qqf:=mkC_ok ((qDo _ (qc7 _ (qGI _ qM))))
def qcw:V->List Obj->Option (Bool):=fun v objs=>match v,objs with
 | .s (.b y0),[]=>some (y0)
 | _,_=>none
def qcv:HA:=fun o vs objs K=>match vs,objs with
 | [.s (.i .i8 x0),.s (.i .i64 x1)],[]=>ob (qEY x0 x1) fun y0=>K false (.s (.b y0)) ([])
 | _,_=>o 97 vs objs K
def qMM (o:Orc):Orc:=qL 97 (qcv o) o
theorem qSW:OQ Tryz.prog qMM:=fun _ ho=>qN ho fun vs objs K r h=>by
 unfold qcv at h
 split at h
 ·obtain⟨t,h1,h2⟩:=qE h
  refine qd mixed qqg (D:=qcw) (fn:=Tryz.f97) (Eq.trans (by kernel_rfl) h1) (by kernel_rfl) fun v objs' hd=>?_
  unfold qcw at hd;split at hd;(cases hd;exact h2);cases hd
 ·exact ho _ _ _ _ _ h
def qqC:Ctx:=mkC 21 (qK) [] qV
theorem qqD:CtxOK Tryz.prog qqC:=mkC_ok (qM)
def qcf:V->List Obj->Option (Int×Int):=fun v objs=>match v,objs with
 | .agg [.one [.i .u64 y0,.i .u64 y1]],[]=>some (y0,y1)
 | _,_=>none
def qce:HA:=fun o vs objs K=>match vs,objs with
 | [.s (.i .i64 x0)],[]=>ob (qGd x0) fun (z0,z1)=>K false (.agg [.one [.i .u64 z0,.i .u64 z1]]) ([])
 | _,_=>o 123 vs objs K
def qMG (o:Orc):Orc:=qL 123 (qce o) o
theorem qSR:OQ Tryz.prog qMG:=fun _ ho=>qN ho fun vs objs K r h=>by
 unfold qce at h
 split at h
 ·obtain⟨t,h1,h2⟩:=qE h
  refine qd mixed qqD (D:=qcf) (fn:=Tryz.f123) (Eq.trans (by kernel_rfl) h1) (by kernel_rfl) fun v objs' hd=>?_
  unfold qcf at hd;split at hd;(cases hd;exact h2);cases hd
 ·exact ho _ _ _ _ _ h
def qpp:Ctx:=mkC 16 (qK) [] qV
theorem qpq:CtxOK Tryz.prog qpp:=mkC_ok (qM)
def qcI:V->List Obj->Option (Int×Int):=fun v objs=>match v,objs with
 | .agg [.one [.i .u64 y0,.i .u64 y1]],[]=>some (y0,y1)
 | _,_=>none
def qcH:HA:=fun o vs objs K=>match vs,objs with
 | [.agg [.one [.i .u64 x0,.i .u64 x1]],.agg [.one [.i .u64 x2,.i .u64 x3]]],[]=>ob (qGb x0 x1 x2 x3) fun (z0,z1)=>K false (.agg [.one [.i .u64 z0,.i .u64 z1]]) ([])
 | _,_=>o 115 vs objs K
def qMA (o:Orc):Orc:=qL 115 (qcH o) o
theorem qSE:OQ Tryz.prog qMA:=fun _ ho=>qN ho fun vs objs K r h=>by
 unfold qcH at h
 split at h
 ·obtain⟨t,h1,h2⟩:=qE h
  refine qd mixed qpq (D:=qcI) (fn:=Tryz.f115) (Eq.trans (by kernel_rfl) h1) (by kernel_rfl) fun v objs' hd=>?_
  unfold qcI at hd;split at hd;(cases hd;exact h2);cases hd
 ·exact ho _ _ _ _ _ h
def qp9:Ctx:=mkC 9 ((qMA (qMG qK))) [] qV
theorem qqA:CtxOK Tryz.prog qp9:=mkC_ok ((qSE _ (qSR _ qM)))
def qcd:V->List Obj->Option (Int×Int):=fun v objs=>match v,objs with
 | .agg [.one [.i .u64 y0,.i .u64 y1]],[]=>some (y0,y1)
 | _,_=>none
def qcc:HA:=fun o vs objs K=>match vs,objs with
 | [.agg [.one [.i .u64 x0,.i .u64 x1]],.s (.i .i64 x2)],[]=>ob (qFi x0 x1 x2) fun (z0,z1)=>K false (.agg [.one [.i .u64 z0,.i .u64 z1]]) ([])
 | _,_=>o 105 vs objs K
def qJk (o:Orc):Orc:=qL 105 (qcc o) o
theorem qMF:OQ Tryz.prog qJk:=fun _ ho=>qN ho fun vs objs K r h=>by
 unfold qcc at h
 split at h
 ·obtain⟨t,h1,h2⟩:=qE h
  refine qd mixed qqA (D:=qcd) (fn:=Tryz.f105) (Eq.trans (by kernel_rfl) h1) (by kernel_rfl) fun v objs' hd=>?_
  unfold qcd at hd;split at hd;(cases hd;exact h2);cases hd
 ·exact ho _ _ _ _ _ h
def qpy:Ctx:=mkC 16 (qK) [] qV
theorem qpz:CtxOK Tryz.prog qpy:=mkC_ok (qM)
def qcS:V->List Obj->Option (Int×Int):=fun v objs=>match v,objs with
 | .agg [.one [.i .u64 y0,.i .u64 y1]],[]=>some (y0,y1)
 | _,_=>none
def qcR:HA:=fun o vs objs K=>match vs,objs with
 | [.agg [.one [.i .u64 x0,.i .u64 x1]],.agg [.one [.i .u64 x2,.i .u64 x3]]],[]=>ob (qEU x0 x1 x2 x3) fun (z0,z1)=>K false (.agg [.one [.i .u64 z0,.i .u64 z1]]) ([])
 | _,_=>o 111 vs objs K
def qGc (o:Orc):Orc:=qL 111 (qcR o) o
theorem qIJ:OQ Tryz.prog qGc:=fun _ ho=>qN ho fun vs objs K r h=>by
 unfold qcR at h
 split at h
 ·obtain⟨t,h1,h2⟩:=qE h
  refine qd mixed qpz (D:=qcS) (fn:=Tryz.f111) (Eq.trans (by kernel_rfl) h1) (by kernel_rfl) fun v objs' hd=>?_
  unfold qcS at hd;split at hd;(cases hd;exact h2);cases hd
 ·exact ho _ _ _ _ _ h
def qp7:Ctx:=mkC 9 ((qGc (qMG qK))) [] qV
theorem qp8:CtxOK Tryz.prog qp7:=mkC_ok ((qIJ _ (qSR _ qM)))
def qcb:V->List Obj->Option (Int×Int):=fun v objs=>match v,objs with
 | .agg [.one [.i .u64 y0,.i .u64 y1]],[]=>some (y0,y1)
 | _,_=>none
def qca:HA:=fun o vs objs K=>match vs,objs with
 | [.agg [.one [.i .u64 x0,.i .u64 x1]],.s (.i .i64 x2)],[]=>ob (qBb x0 x1 x2) fun (z0,z1)=>K false (.agg [.one [.i .u64 z0,.i .u64 z1]]) ([])
 | _,_=>o 106 vs objs K
def qEV (o:Orc):Orc:=qL 106 (qca o) o
theorem qFh:OQ Tryz.prog qEV:=fun _ ho=>qN ho fun vs objs K r h=>by
 unfold qca at h
 split at h
 ·obtain⟨t,h1,h2⟩:=qE h
  refine qd mixed qp8 (D:=qcb) (fn:=Tryz.f106) (Eq.trans (by kernel_rfl) h1) (by kernel_rfl) fun v objs' hd=>?_
  unfold qcb at hd;split at hd;(cases hd;exact h2);cases hd
 ·exact ho _ _ _ _ _ h
def qfE:Ctx:=mkC 90 ((qEV (qDI (qFK (qJk qK))))) [] qV
theorem qfF:CtxOK Tryz.prog qfE:=mkC_ok ((qFh _ (qDo _ (qGI _ (qMF _ qM)))))
def qT8:V->List Obj->Option (LI×LI×Int×LL×LL):=fun v objs=>match v,objs with
 | .tup [],[.cells 87 [.arr .i8 81 y0,.arr .i8 16 y1,.one [.i .i8 y2],.rows [.i .u64,.i .u64] 32 y3,.rows [.i .u64,.i .u64] 2 y4]]=>some (y0,y1,y2,y3,y4)
 | _,_=>none
def qT7:HA:=fun o vs objs K=>match vs,objs with
 | [.s (.ptr 0 0 none 0),.s (.i .i64 x0),.s (.i .i8 x1)],[.cells 87 [.arr .i8 81 x2,.arr .i8 16 x3,.one [.i .i8 x4],.rows [.i .u64,.i .u64] 32 x5,.rows [.i .u64,.i .u64] 2 x6]]=>ob (qG3 x0 x1 x2 x3 x4 x5 x6) fun (z0,z1,z2,z3,z4)=>K false (.tup []) ([.cells 87 [.arr .i8 81 z0,.arr .i8 16 z1,.one [.i .i8 z2],.rows [.i .u64,.i .u64] 32 z3,.rows [.i .u64,.i .u64] 2 z4]])
 | _,_=>o 81 vs objs K
def qKI (o:Orc):Orc:=qL 81 (qT7 o) o
theorem qNN:OQ Tryz.prog qKI:=fun _ ho=>qN ho fun vs objs K r h=>by
 unfold qT7 at h
 split at h
 ·obtain⟨t,h1,h2⟩:=qE h
  refine qd mixed qfF (D:=qT8) (fn:=Tryz.f81) (Eq.trans (by kernel_rfl) h1) (by kernel_rfl) fun v objs' hd=>?_
  unfold qT8 at hd;split at hd;(cases hd;exact h2);cases hd
 ·exact ho _ _ _ _ _ h
def qNI:Ex->List V->List Obj->Option (LI×LI×Int×LL×LL):=fun e vs objs=>match e,vs,objs with
 | .exit 0,[.s (.ptr 0 0 none 0)],[.cells 87 [.arr .i8 81 y0,.arr .i8 16 y1,.one [.i .i8 y2],.rows [.i .u64,.i .u64] 32 y3,.rows [.i .u64,.i .u64] 2 y4]]=>some (y0,y1,y2,y3,y4)
 | _,_,_=>none
def qNL:HL:=fun vs objs K=>match vs,objs with
 | [.s (.ptr 0 0 none 0),.agg [.arr .i8 81 x0],.s (.i .i64 x1)],[.cells 87 [.arr .i8 81 x2,.arr .i8 16 x3,.one [.i .i8 x4],.rows [.i .u64,.i .u64] 32 x5,.rows [.i .u64,.i .u64] 2 x6]]=>ob (qEE qC x0 x1 x2 x3 x4 x5 x6) fun (z0,z1,z2,z3,z4)=>K (.exit 0) ([.s (.ptr 0 0 none 0)]) ([.cells 87 [.arr .i8 81 z0,.arr .i8 16 z1,.one [.i .i8 z2],.rows [.i .u64,.i .u64] 32 z3,.rows [.i .u64,.i .u64] 2 z4]])
 | _,_=>none
def qe8:{R:Type}->Nat->List V->List Obj->(Ex->List V->List Obj->Option R)->Option R:=fun q vs objs K=>bif Nat.beq q 4 then qNL vs objs K else none
def qNH:Ctx:=mkC 32 ((qKI qK)) [(4,[3,21,22],[3])] qe8
theorem qTz:CtxOK Tryz.prog qNH:=mkC_ok ((qNN _ qM))
def qNJ (f:Nat) (x0:LI) (x1:Int) (x2 x3:LI) (x4:Int) (x5 x6:LL):Option (LI×LI×Int×LL×LL):=qh qNH 0 [3,21,22] [3] (qF Tryz.f50 4) f ([.s (.ptr 0 0 none 0),.agg [.arr .i8 81 x0],.s (.i .i64 x1)]) ([.cells 87 [.arr .i8 81 x2,.arr .i8 16 x3,.one [.i .i8 x4],.rows [.i .u64,.i .u64] 32 x5,.rows [.i .u64,.i .u64] 2 x6]]) qNI
theorem qe7 (f:Nat) (x0:LI) (x1:Int) (x2 x3:LI) (x4:Int) (x5 x6:LL):qNJ (f+1) x0 x1 x2 x3 x4 x5 x6=qG0 (qNJ f) x0 x1 x2 x3 x4 x5 x6:=by kernel_rfl
theorem qT1:∀ f,qNJ f=qEE f
 | 0=>rfl
 | f+1=>by funext x0 x1 x2 x3 x4 x5 x6;rw[qe7,qT1 f];rfl
theorem qe9:qe Tryz.prog qNH 0 (qF Tryz.f50 4):=
 qj mixed qTz (qP.of (l':=[]) (by kernel_rfl) trivial) (q:=4) (kin:=[3,21,22]) (kout:=[3]) (by kernel_rfl) (by kernel_rfl) fun vs objs K r h=>by
  replace h:qNL vs objs K=some r:=h
  unfold qNL at h
  split at h
  ·obtain⟨t,h1,h2⟩:=qE h
   rw[<- qT1] at h1
   refine⟨_,qNI,t,qC,h1,fun e vs' objs' hd=>?_⟩
   unfold qNI at hd;split at hd;(cases hd;exact h2);cases hd
  ·cases h
def qT0:V->List Obj->Option (LI×LI×Int×LL×LL):=fun v objs=>match v,objs with
 | .s (.ptr 0 0 none 0),[.cells 87 [.arr .i8 81 y0,.arr .i8 16 y1,.one [.i .i8 y2],.rows [.i .u64,.i .u64] 32 y3,.rows [.i .u64,.i .u64] 2 y4]]=>some (y0,y1,y2,y3,y4)
 | _,_=>none
def qTy:HA:=fun o vs objs K=>match vs,objs with
 | [.agg [.arr .i8 81 x0,.arr .i8 16 x1,.one [.i .i8 x2]]],[]=>ob (qGz x0 x1 x2) fun (z0,z1,z2,z3,z4)=>K false (.s (.ptr 0 0 none 0)) ([.cells 87 [.arr .i8 81 z0,.arr .i8 16 z1,.one [.i .i8 z2],.rows [.i .u64,.i .u64] 32 z3,.rows [.i .u64,.i .u64] 2 z4]])
 | _,_=>o 50 vs objs K
def qKH (o:Orc):Orc:=qL 50 (qTy o) o
theorem qNK:OQ Tryz.prog qKH:=fun _ ho=>qN ho fun vs objs K r h=>by
 unfold qTy at h
 split at h
 ·obtain⟨t,h1,h2⟩:=qE h
  refine qAQ mixed qTz (D:=qT0) (fn:=Tryz.f50) (Eq.trans (by kernel_rfl) h1) (by kernel_rfl) (m:=0) rfl (qP.of (l':=[qF Tryz.f50 4]) (by kernel_rfl) ⟨qe9,trivial⟩) fun v objs' hd=>?_
  unfold qT0 at hd;split at hd;(cases hd;exact h2);cases hd
 ·exact ho _ _ _ _ _ h
def qfA:Ctx:=mkC 20 ((qFJ qK)) [] qV
theorem qfB:CtxOK Tryz.prog qfA:=mkC_ok ((qGH _ qM))
def qT3:V->List Obj->Option (Int×Int):=fun v objs=>match v,objs with
 | .agg [.one [.i .u64 y0,.i .u64 y1]],[]=>some (y0,y1)
 | _,_=>none
def qT2:HA:=fun o vs objs K=>match vs,List.map Obj.toRO objs with
 | [.s (.ptr 0 0 none 0),.s (.i .i64 x0),.s (.i .i64 x1)],[.rcells 87 [.arr .i8 81 x2,.arr .i8 16 x3,.one [.i .i8 x4],.rows [.i .u64,.i .u64] 32 x5,.rows [.i .u64,.i .u64] 2 x6]]=>ob (qDb x0 x1 x2 x3 x4 x5 x6) fun (z0,z1)=>K true (.agg [.one [.i .u64 z0,.i .u64 z1]]) ([])
 | _,_=>o 98 vs objs K
def qFp (o:Orc):Orc:=qL 98 (qT2 o) o
theorem qG1:OQ Tryz.prog qFp:=fun _ ho=>qN ho fun vs objs K r h=>by
 unfold qT2 at h
 split at h
 ·have hq:List.map Obj.toRO objs=_:=(by rename_i hq;first | exact hq | assumption)
  obtain⟨t,h1,h2⟩:=qE h
  refine qAs mixed qfB (D:=qT3) (m:=1) (fn:=Tryz.f98) (by kernel_rfl) hq (by kernel_rfl) (by kernel_rfl) (qP.of (l':=[]) (by kernel_rfl) trivial) (Eq.trans (by kernel_rfl) h1) fun v objs' hd=>?_
  unfold qT3 at hd;split at hd;(cases hd;exact h2);cases hd
 ·exact ho _ _ _ _ _ h
def qSA:Ex->List V->List Obj->Option (Int×Int×Int×Int):=fun e vs objs=>match e,vs,objs with
 | .exit 0,[.s (.ptr 0 0 none 0),.s (.ptr 1 0 none 0)],[.cells 83 [.one [.i .u64 y0,.i .u64 y1]],.cells 83 [.one [.i .u64 y2,.i .u64 y3]]]=>some (y0,y1,y2,y3)
 | _,_,_=>none
def qSD:HL:=fun vs objs K=>match vs,objs with
 | [.s (.i .i64 x0),.s (.ptr 0 0 none 0),.s (.ptr 1 0 none 0),.s (.i .i64 x1)],[.cells 83 [.one [.i .u64 x2,.i .u64 x3]],.cells 83 [.one [.i .u64 x4,.i .u64 x5]]]=>ob (qL9 qC x0 x1 x2 x3 x4 x5) fun (z0,z1,z2,z3)=>K (.exit 0) ([.s (.ptr 0 0 none 0),.s (.ptr 1 0 none 0)]) ([.cells 83 [.one [.i .u64 z0,.i .u64 z1]],.cells 83 [.one [.i .u64 z2,.i .u64 z3]]])
 | _,_=>none
def qpn:{R:Type}->Nat->List V->List Obj->(Ex->List V->List Obj->Option R)->Option R:=fun q vs objs K=>bif Nat.beq q 3 then qSD vs objs K else none
def qR9:Ctx:=mkC 15 ((qEV (set_Squareo qK))) [(3,[0,2,3,5],[2,3])] qpn
theorem qcC:CtxOK Tryz.prog qR9:=mkC_ok ((qFh _ (set_Squareo_ok _ qM)))
def qSB (f:Nat) (x0 x1:Int) (x2 x3:Int) (x4 x5:Int):Option (Int×Int×Int×Int):=qh qR9 0 [0,2,3,5] [2,3] (qF Tryz.f100 3) f ([.s (.i .i64 x0),.s (.ptr 0 0 none 0),.s (.ptr 1 0 none 0),.s (.i .i64 x1)]) ([.cells 83 [.one [.i .u64 x2,.i .u64 x3]],.cells 83 [.one [.i .u64 x4,.i .u64 x5]]]) qSA
theorem qpm (f:Nat) (x0 x1:Int) (x2 x3:Int) (x4 x5:Int):qSB (f+1) x0 x1 x2 x3 x4 x5=qcF (qSB f) x0 x1 x2 x3 x4 x5:=by kernel_rfl
theorem qcE:∀ f,qSB f=qL9 f
 | 0=>rfl
 | f+1=>by funext x0 x1 x2 x3 x4 x5;rw[qpm,qcE f];rfl
theorem qpo:qe Tryz.prog qR9 0 (qF Tryz.f100 3):=
 qj mixed qcC (qP.of (l':=[]) (by kernel_rfl) trivial) (q:=3) (kin:=[0,2,3,5]) (kout:=[2,3]) (by kernel_rfl) (by kernel_rfl) fun vs objs K r h=>by
  replace h:qSD vs objs K=some r:=h
  unfold qSD at h
  split at h
  ·obtain⟨t,h1,h2⟩:=qE h
   rw[<- qcE] at h1
   refine⟨_,qSA,t,qC,h1,fun e vs' objs' hd=>?_⟩
   unfold qSA at hd;split at hd;(cases hd;exact h2);cases hd
  ·cases h
def qcD:V->List Obj->Option (Int×Int):=fun v objs=>match v,objs with
 | .agg [.one [.i .u64 y0,.i .u64 y1]],[]=>some (y0,y1)
 | _,_=>none
def qcB:HA:=fun o vs objs K=>match vs,objs with
 | [.s (.i .i64 x0)],[]=>ob (qJg x0) fun (z0,z1)=>K false (.agg [.one [.i .u64 z0,.i .u64 z1]]) ([])
 | _,_=>o 100 vs objs K
def qSC (o:Orc):Orc:=qL 100 (qcB o) o
theorem qcG:OQ Tryz.prog qSC:=fun _ ho=>qN ho fun vs objs K r h=>by
 unfold qcB at h
 split at h
 ·obtain⟨t,h1,h2⟩:=qE h
  refine qAQ mixed qcC (D:=qcD) (fn:=Tryz.f100) (Eq.trans (by kernel_rfl) h1) (by kernel_rfl) (m:=0) rfl (qP.of (l':=[qF Tryz.f100 3]) (by kernel_rfl) ⟨qpo,trivial⟩) fun v objs' hd=>?_
  unfold qcD at hd;split at hd;(cases hd;exact h2);cases hd
 ·exact ho _ _ _ _ _ h
def qpa:Ctx:=mkC 16 (qK) [] qV
theorem qpb:CtxOK Tryz.prog qpa:=mkC_ok (qM)
def qbz:V->List Obj->Option (Int×Int):=fun v objs=>match v,objs with
 | .agg [.one [.i .u64 y0,.i .u64 y1]],[]=>some (y0,y1)
 | _,_=>none
def qby:HA:=fun o vs objs K=>match vs,objs with
 | [.agg [.one [.i .u64 x0,.i .u64 x1]],.agg [.one [.i .u64 x2,.i .u64 x3]]],[]=>ob (qDN x0 x1 x2 x3) fun (z0,z1)=>K false (.agg [.one [.i .u64 z0,.i .u64 z1]]) ([])
 | _,_=>o 99 vs objs K
def qFd (o:Orc):Orc:=qL 99 (qby o) o
theorem qGZ:OQ Tryz.prog qFd:=fun _ ho=>qN ho fun vs objs K r h=>by
 unfold qby at h
 split at h
 ·obtain⟨t,h1,h2⟩:=qE h
  refine qd mixed qpb (D:=qbz) (fn:=Tryz.f99) (Eq.trans (by kernel_rfl) h1) (by kernel_rfl) fun v objs' hd=>?_
  unfold qbz at hd;split at hd;(cases hd;exact h2);cases hd
 ·exact ho _ _ _ _ _ h
def qeg:Ctx:=mkC 35 (qK) [] qV
theorem qeh:CtxOK Tryz.prog qeg:=mkC_ok (qM)
def qTe:V->List Obj->Option (Int):=fun v objs=>match v,objs with
 | .s (.i .i64 y0),[]=>some (y0)
 | _,_=>none
def qTd:HA:=fun o vs objs K=>match vs,objs with
 | [.s (.i .u64 x0)],[]=>ob (qGv x0) fun y0=>K false (.s (.i .i64 y0)) ([])
 | _,_=>o 122 vs objs K
def qTf (o:Orc):Orc:=qL 122 (qTd o) o
theorem qei:OQ Tryz.prog qTf:=fun _ ho=>qN ho fun vs objs K r h=>by
 unfold qTd at h
 split at h
 ·obtain⟨t,h1,h2⟩:=qE h
  refine qd mixed qeh (D:=qTe) (fn:=Tryz.f122) (Eq.trans (by kernel_rfl) h1) (by kernel_rfl) fun v objs' hd=>?_
  unfold qTe at hd;split at hd;(cases hd;exact h2);cases hd
 ·exact ho _ _ _ _ _ h
def qpc:Ctx:=mkC 10 ((qTf qK)) [] qV
theorem qpd:CtxOK Tryz.prog qpc:=mkC_ok ((qei _ qM))
def qb1:V->List Obj->Option (Int):=fun v objs=>match v,objs with
 | .s (.i .i64 y0),[]=>some (y0)
 | _,_=>none
def qb0:HA:=fun o vs objs K=>match vs,objs with
 | [.agg [.one [.i .u64 x0,.i .u64 x1]]],[]=>ob (qIE x0 x1) fun y0=>K false (.s (.i .i64 y0)) ([])
 | _,_=>o 101 vs objs K
def qL7 (o:Orc):Orc:=qL 101 (qb0 o) o
theorem qR6:OQ Tryz.prog qL7:=fun _ ho=>qN ho fun vs objs K r h=>by
 unfold qb0 at h
 split at h
 ·obtain⟨t,h1,h2⟩:=qE h
  refine qd mixed qpd (D:=qb1) (fn:=Tryz.f101) (Eq.trans (by kernel_rfl) h1) (by kernel_rfl) fun v objs' hd=>?_
  unfold qb1 at hd;split at hd;(cases hd;exact h2);cases hd
 ·exact ho _ _ _ _ _ h
def qNY:Ex->List V->List Obj->Option ((Int×LI×LI×Int)⊕(LI×LI×Int)):=fun e vs objs=>match e,vs,objs with
 | .ret,[.s (.ptr 0 0 none 0),.s (.i .i64 y0)],[.cells 28 [.arr .i8 81 y1,.arr .i8 16 y2,.one [.i .i8 y3]]]=>some (.inl (y0,y1,y2,y3))
 | .exit 0,[.s (.ptr 0 0 none 0),.s .bad],[.cells 28 [.arr .i8 81 y0,.arr .i8 16 y1,.one [.i .i8 y2]]]=>some (.inr (y0,y1,y2))
 | _,_,_=>none
def qNW:Ex->List V->List Obj->Option ((Int×Int×LI×LI×Int×LL×LL)⊕(Int×LI×LI×Int×LL×LL)):=fun e vs objs=>match e,vs,objs with
 | .ret,[.s (.i .i64 y0),.s (.ptr 0 0 none 0),.s (.i .i64 y1)],[.cells 87 [.arr .i8 81 y2,.arr .i8 16 y3,.one [.i .i8 y4],.rows [.i .u64,.i .u64] 32 y5,.rows [.i .u64,.i .u64] 2 y6]]=>some (.inl (y0,y1,y2,y3,y4,y5,y6))
 | .exit 4,[.s .bad,.s (.ptr 0 0 none 0),.s (.i .i64 y0)],[.cells 87 [.arr .i8 81 y1,.arr .i8 16 y2,.one [.i .i8 y3],.rows [.i .u64,.i .u64] 32 y4,.rows [.i .u64,.i .u64] 2 y5]]=>some (.inr (y0,y1,y2,y3,y4,y5))
 | _,_,_=>none
def qNa:Ex->List V->List Obj->Option ((Int)⊕(Unit)):=fun e vs objs=>match e,vs,objs with
 | .ret,[.s (.i .i64 y0)],[]=>some (.inl (y0))
 | .exit 2,[.s .bad],[]=>some (.inr ())
 | _,_,_=>none
def qNd:HL:=fun vs objs K=>match vs,objs with
 | [.s (.ptr 0 0 none 0),.agg [.arr .i8 81 x0],.s (.i .i64 x1)],[.cells 28 [.arr .i8 81 x2,.arr .i8 16 x3,.one [.i .i8 x4]]]=>ob (qEs qC x0 x1 x2 x3 x4) fun t0=>sw t0 (fun (z0,z1,z2,z3)=>K (.ret) ([.s (.ptr 0 0 none 0),.s (.i .i64 z0)]) ([.cells 28 [.arr .i8 81 z1,.arr .i8 16 z2,.one [.i .i8 z3]]])) (fun (z0,z1,z2)=>K (.exit 0) ([.s (.ptr 0 0 none 0),.s .bad]) ([.cells 28 [.arr .i8 81 z0,.arr .i8 16 z1,.one [.i .i8 z2]]]))
 | _,_=>none
def qNc:HL:=fun vs objs K=>match vs,objs with
 | [.s (.ptr 0 0 none 0),.s (.i .i64 x0),.s (.i .i64 x1),.s (.i .i64 x2)],[.cells 87 [.arr .i8 81 x3,.arr .i8 16 x4,.one [.i .i8 x5],.rows [.i .u64,.i .u64] 32 x6,.rows [.i .u64,.i .u64] 2 x7]]=>ob (qEq qC x0 x1 x2 x3 x4 x5 x6 x7) fun t0=>sw t0 (fun (z0,z1,z2,z3,z4,z5,z6)=>K (.ret) ([.s (.i .i64 z0),.s (.ptr 0 0 none 0),.s (.i .i64 z1)]) ([.cells 87 [.arr .i8 81 z2,.arr .i8 16 z3,.one [.i .i8 z4],.rows [.i .u64,.i .u64] 32 z5,.rows [.i .u64,.i .u64] 2 z6]])) (fun (z0,z1,z2,z3,z4,z5)=>K (.exit 4) ([.s .bad,.s (.ptr 0 0 none 0),.s (.i .i64 z0)]) ([.cells 87 [.arr .i8 81 z1,.arr .i8 16 z2,.one [.i .i8 z3],.rows [.i .u64,.i .u64] 32 z4,.rows [.i .u64,.i .u64] 2 z5]]))
 | _,_=>none
def qNe:HL:=fun vs objs K=>match vs,objs with
 | [.s (.ptr 0 0 none 0),.s (.i .i64 x0)],[.cells 87 [.arr .i8 81 x1,.arr .i8 16 x2,.one [.i .i8 x3],.rows [.i .u64,.i .u64] 32 x4,.rows [.i .u64,.i .u64] 2 x5]]=>ob (qEt qC x0 x1 x2 x3 x4 x5) fun t0=>sw t0 (fun y0=>K (.ret) ([.s (.i .i64 y0)]) ([])) (fun _=>K (.exit 2) ([.s .bad]) ([]))
 | _,_=>none
def qfU:{R:Type}->Nat->List V->List Obj->(Ex->List V->List Obj->Option R)->Option R:=fun q vs objs K=>bif Nat.beq q 2 then qNd vs objs K else bif Nat.beq q 12 then qNc vs objs K else bif Nat.beq q 9 then qNe vs objs K else none
def qFq:Ctx:=mkC 36 ((qL7 (qFd (qSC (qFp (qKH (qMM qK))))))) [(2,[1,9,10],[1,2]),(9,[5,20],[2]),(12,[5,6,20,23],[2,5,20])] qfU
theorem qKL:CtxOK Tryz.prog qFq:=mkC_ok ((qR6 _ (qGZ _ (qcG _ (qG1 _ (qNK _ (qSW _ qM)))))))
def qNZ (f:Nat) (x0:LI) (x1:Int) (x2 x3:LI) (x4:Int):Option ((Int×LI×LI×Int)⊕(LI×LI×Int)):=qh qFq 0 [1,9,10] [1,2] (qF Tryz.f78 2) f ([.s (.ptr 0 0 none 0),.agg [.arr .i8 81 x0],.s (.i .i64 x1)]) ([.cells 28 [.arr .i8 81 x2,.arr .i8 16 x3,.one [.i .i8 x4]]]) qNY
theorem qfS (f:Nat) (x0:LI) (x1:Int) (x2 x3:LI) (x4:Int):qNZ (f+1) x0 x1 x2 x3 x4=qG6 (qNZ f) x0 x1 x2 x3 x4:=by kernel_rfl
theorem qUP:∀ f,qNZ f=qEs f
 | 0=>rfl
 | f+1=>by funext x0 x1 x2 x3 x4;rw[qfS,qUP f];rfl
def qNX (f:Nat) (x0 x1 x2:Int) (x3 x4:LI) (x5:Int) (x6 x7:LL):Option ((Int×Int×LI×LI×Int×LL×LL)⊕(Int×LI×LI×Int×LL×LL)):=qh qFq 0 [5,6,20,23] [2,5,20] (qF Tryz.f78 12) f ([.s (.ptr 0 0 none 0),.s (.i .i64 x0),.s (.i .i64 x1),.s (.i .i64 x2)]) ([.cells 87 [.arr .i8 81 x3,.arr .i8 16 x4,.one [.i .i8 x5],.rows [.i .u64,.i .u64] 32 x6,.rows [.i .u64,.i .u64] 2 x7]]) qNW
theorem qfR (f:Nat) (x0 x1 x2:Int) (x3 x4:LI) (x5:Int) (x6 x7:LL):qNX (f+1) x0 x1 x2 x3 x4 x5 x6 x7=qEr (qNX f) x0 x1 x2 x3 x4 x5 x6 x7:=by kernel_rfl
theorem qUO:∀ f,qNX f=qEq f
 | 0=>rfl
 | f+1=>by funext x0 x1 x2 x3 x4 x5 x6 x7;rw[qfR,qUO f];rfl
def qNb (f:Nat) (x0:Int) (x1 x2:LI) (x3:Int) (x4 x5:LL):Option ((Int)⊕(Unit)):=qh qFq 0 [5,20] [2] (qF Tryz.f78 9) f ([.s (.ptr 0 0 none 0),.s (.i .i64 x0)]) ([.cells 87 [.arr .i8 81 x1,.arr .i8 16 x2,.one [.i .i8 x3],.rows [.i .u64,.i .u64] 32 x4,.rows [.i .u64,.i .u64] 2 x5]]) qNa
theorem qfT (f:Nat) (x0:Int) (x1 x2:LI) (x3:Int) (x4 x5:LL):qNb (f+1) x0 x1 x2 x3 x4 x5=qG7 (qNb f) x0 x1 x2 x3 x4 x5:=by kernel_rfl
theorem qUQ:∀ f,qNb f=qEt f
 | 0=>rfl
 | f+1=>by funext x0 x1 x2 x3 x4 x5;rw[qfT,qUQ f];rfl
theorem qfX:qe Tryz.prog qFq 0 (qF Tryz.f78 2):=
 qj mixed qKL (qP.of (l':=[]) (by kernel_rfl) trivial) (q:=2) (kin:=[1,9,10]) (kout:=[1,2]) (by kernel_rfl) (by kernel_rfl) fun vs objs K r h=>by
  replace h:qNd vs objs K=some r:=h
  unfold qNd at h
  split at h
  ·obtain⟨t,h1,h2⟩:=qE h
   rw[<- qUP] at h1
   refine⟨_,qNY,t,qC,h1,fun e vs' objs' hd=>?_⟩
   unfold qNY at hd;split at hd;(cases hd;exact h2);(cases hd;exact h2);cases hd
  ·cases h
theorem qfW:qe Tryz.prog qFq 0 (qF Tryz.f78 12):=
 qj mixed qKL (qP.of (l':=[]) (by kernel_rfl) trivial) (q:=12) (kin:=[5,6,20,23]) (kout:=[2,5,20]) (by kernel_rfl) (by kernel_rfl) fun vs objs K r h=>by
  replace h:qNc vs objs K=some r:=h
  unfold qNc at h
  split at h
  ·obtain⟨t,h1,h2⟩:=qE h
   rw[<- qUO] at h1
   refine⟨_,qNW,t,qC,h1,fun e vs' objs' hd=>?_⟩
   unfold qNW at hd;split at hd;(cases hd;exact h2);(cases hd;exact h2);cases hd
  ·cases h
theorem qfY:qe Tryz.prog qFq 0 (qF Tryz.f78 9):=
 qj mixed qKL (qP.of (l':=[qF Tryz.f78 12]) (by kernel_rfl) ⟨qfW,trivial⟩) (q:=9) (kin:=[5,20]) (kout:=[2]) (by kernel_rfl) (by kernel_rfl) fun vs objs K r h=>by
  replace h:qNe vs objs K=some r:=h
  unfold qNe at h
  split at h
  ·obtain⟨t,h1,h2⟩:=qE h
   rw[<- qUQ] at h1
   refine⟨_,qNa,t,qC,h1,fun e vs' objs' hd=>?_⟩
   unfold qNa at hd;split at hd;(cases hd;exact h2);(cases hd;exact h2);cases hd
  ·cases h
def qUN:V->List Obj->Option (Int):=fun v objs=>match v,objs with
 | .s (.i .i64 y0),[]=>some (y0)
 | _,_=>none
def qUM:HA:=fun o vs objs K=>match vs,objs with
 | [.agg [.arr .i8 81 x0,.arr .i8 16 x1,.one [.i .i8 x2]]],[]=>ob (qG5 x0 x1 x2) fun y0=>K false (.s (.i .i64 y0)) ([])
 | _,_=>o 78 vs objs K
def qUR (o:Orc):Orc:=qL 78 (qUM o) o
theorem qfV:OQ Tryz.prog qUR:=fun _ ho=>qN ho fun vs objs K r h=>by
 unfold qUM at h
 split at h
 ·obtain⟨t,h1,h2⟩:=qE h
  refine qAQ mixed qKL (D:=qUN) (fn:=Tryz.f78) (Eq.trans (by kernel_rfl) h1) (by kernel_rfl) (m:=0) rfl (qP.of (l':=[qF Tryz.f78 2,qF Tryz.f78 9]) (by kernel_rfl) ⟨qfX,qfY,trivial⟩) fun v objs' hd=>?_
  unfold qUN at hd;split at hd;(cases hd;exact h2);cases hd
 ·exact ho _ _ _ _ _ h
def qM8:Ex->List V->List Obj->Option ((Int×LI×LI×Int×LI×LI)⊕(LI×LI×Int×LI×LI)):=fun e vs objs=>match e,vs,objs with
 | .ret,[.s (.ptr 0 0 none 0),.s (.i .i64 y0),.s (.ptr 1 0 none 0),.s (.ptr 2 0 none 0)],[.cells 28 [.arr .i8 81 y1,.arr .i8 16 y2,.one [.i .i8 y3]],.cells 88 [.arr .i64 9 y4],.cells 29 [.arr .i64 2 y5]]=>some (.inl (y0,y1,y2,y3,y4,y5))
 | .exit 0,[.s (.ptr 0 0 none 0),.s .bad,.s (.ptr 1 0 none 0),.s (.ptr 2 0 none 0)],[.cells 28 [.arr .i8 81 y0,.arr .i8 16 y1,.one [.i .i8 y2]],.cells 88 [.arr .i64 9 y3],.cells 29 [.arr .i64 2 y4]]=>some (.inr (y0,y1,y2,y3,y4))
 | _,_,_=>none
def qM4:Ex->List V->List Obj->Option ((Int×LI×Int×LI×LI×Int×LI×LI)⊕(LI×Int×LI×LI×Int×LI×LI)):=fun e vs objs=>match e,vs,objs with
 | .ret,[.s (.ptr 0 0 none 0),.s (.i .i64 y0),.s (.ptr 1 0 none 0),.s (.ptr 2 0 none 0),.agg [.arr .i8 16 y1],.s (.i .i64 y2)],[.cells 28 [.arr .i8 81 y3,.arr .i8 16 y4,.one [.i .i8 y5]],.cells 88 [.arr .i64 9 y6],.cells 29 [.arr .i64 2 y7]]=>some (.inl (y0,y1,y2,y3,y4,y5,y6,y7))
 | .exit 9,[.s (.ptr 0 0 none 0),.s .bad,.s (.ptr 1 0 none 0),.s (.ptr 2 0 none 0),.agg [.arr .i8 16 y0],.s (.i .i64 y1)],[.cells 28 [.arr .i8 81 y2,.arr .i8 16 y3,.one [.i .i8 y4]],.cells 88 [.arr .i64 9 y5],.cells 29 [.arr .i64 2 y6]]=>some (.inr (y0,y1,y2,y3,y4,y5,y6))
 | _,_,_=>none
def qM2:Ex->List V->List Obj->Option ((Int×LI×LI×Int×LI×LI)⊕(LI×LI×Int×LI×LI)):=fun e vs objs=>match e,vs,objs with
 | .ret,[.s (.ptr 0 0 none 0),.s (.i .i64 y0),.s (.ptr 1 0 none 0),.s (.ptr 2 0 none 0)],[.cells 28 [.arr .i8 81 y1,.arr .i8 16 y2,.one [.i .i8 y3]],.cells 88 [.arr .i64 9 y4],.cells 29 [.arr .i64 2 y5]]=>some (.inl (y0,y1,y2,y3,y4,y5))
 | .exit 7,[.s (.ptr 0 0 none 0),.s .bad,.s (.ptr 1 0 none 0),.s (.ptr 2 0 none 0)],[.cells 28 [.arr .i8 81 y0,.arr .i8 16 y1,.one [.i .i8 y2]],.cells 88 [.arr .i64 9 y3],.cells 29 [.arr .i64 2 y4]]=>some (.inr (y0,y1,y2,y3,y4))
 | _,_,_=>none
def qM6:Ex->List V->List Obj->Option ((Int×LI×LI×Int)⊕(LI×LI×Int)):=fun e vs objs=>match e,vs,objs with
 | .ret,[.s (.ptr 0 0 none 0),.s (.i .i64 y0)],[.cells 28 [.arr .i8 81 y1,.arr .i8 16 y2,.one [.i .i8 y3]]]=>some (.inl (y0,y1,y2,y3))
 | .exit 11,[.s (.ptr 0 0 none 0),.s .bad],[.cells 28 [.arr .i8 81 y0,.arr .i8 16 y1,.one [.i .i8 y2]]]=>some (.inr (y0,y1,y2))
 | _,_,_=>none
def qND:HL:=fun vs objs K=>match vs,objs with
 | [.s (.ptr 0 0 none 0),.s (.ptr 1 0 none 0),.s (.ptr 2 0 none 0),.agg [.arr .i8 81 x0],.s (.i .i64 x1)],[.cells 28 [.arr .i8 81 x2,.arr .i8 16 x3,.one [.i .i8 x4]],.cells 88 [.arr .i64 9 x5],.cells 29 [.arr .i64 2 x6]]=>ob (qCZ qC x0 x1 x2 x3 x4 x5 x6) fun t0=>sw t0 (fun (z0,z1,z2,z3,z4,z5)=>K (.ret) ([.s (.ptr 0 0 none 0),.s (.i .i64 z0),.s (.ptr 1 0 none 0),.s (.ptr 2 0 none 0)]) ([.cells 28 [.arr .i8 81 z1,.arr .i8 16 z2,.one [.i .i8 z3]],.cells 88 [.arr .i64 9 z4],.cells 29 [.arr .i64 2 z5]])) (fun (z0,z1,z2,z3,z4)=>K (.exit 0) ([.s (.ptr 0 0 none 0),.s .bad,.s (.ptr 1 0 none 0),.s (.ptr 2 0 none 0)]) ([.cells 28 [.arr .i8 81 z0,.arr .i8 16 z1,.one [.i .i8 z2]],.cells 88 [.arr .i64 9 z3],.cells 29 [.arr .i64 2 z4]]))
 | _,_=>none
def qNB:HL:=fun vs objs K=>match vs,objs with
 | [.s (.ptr 0 0 none 0),.s (.ptr 1 0 none 0),.s (.ptr 2 0 none 0),.agg [.arr .i8 16 x0],.s (.i .i64 x1),.agg [.arr .i8 8 x2],.s (.i .i64 x3)],[.cells 28 [.arr .i8 81 x4,.arr .i8 16 x5,.one [.i .i8 x6]],.cells 88 [.arr .i64 9 x7],.cells 29 [.arr .i64 2 x8]]=>ob (qC7 qC x0 x1 x2 x3 x4 x5 x6 x7 x8) fun t0=>sw t0 (fun (z0,z1,z2,z3,z4,z5,z6,z7)=>K (.ret) ([.s (.ptr 0 0 none 0),.s (.i .i64 z0),.s (.ptr 1 0 none 0),.s (.ptr 2 0 none 0),.agg [.arr .i8 16 z1],.s (.i .i64 z2)]) ([.cells 28 [.arr .i8 81 z3,.arr .i8 16 z4,.one [.i .i8 z5]],.cells 88 [.arr .i64 9 z6],.cells 29 [.arr .i64 2 z7]])) (fun (z0,z1,z2,z3,z4,z5,z6)=>K (.exit 9) ([.s (.ptr 0 0 none 0),.s .bad,.s (.ptr 1 0 none 0),.s (.ptr 2 0 none 0),.agg [.arr .i8 16 z0],.s (.i .i64 z1)]) ([.cells 28 [.arr .i8 81 z2,.arr .i8 16 z3,.one [.i .i8 z4]],.cells 88 [.arr .i64 9 z5],.cells 29 [.arr .i64 2 z6]]))
 | _,_=>none
def qNA:HL:=fun vs objs K=>match vs,objs with
 | [.s (.ptr 0 0 none 0),.s (.ptr 1 0 none 0),.s (.ptr 2 0 none 0),.agg [.arr .i8 16 x0],.s (.i .i64 x1)],[.cells 28 [.arr .i8 81 x2,.arr .i8 16 x3,.one [.i .i8 x4]],.cells 88 [.arr .i64 9 x5],.cells 29 [.arr .i64 2 x6]]=>ob (qCq qC x0 x1 x2 x3 x4 x5 x6) fun t0=>sw t0 (fun (z0,z1,z2,z3,z4,z5)=>K (.ret) ([.s (.ptr 0 0 none 0),.s (.i .i64 z0),.s (.ptr 1 0 none 0),.s (.ptr 2 0 none 0)]) ([.cells 28 [.arr .i8 81 z1,.arr .i8 16 z2,.one [.i .i8 z3]],.cells 88 [.arr .i64 9 z4],.cells 29 [.arr .i64 2 z5]])) (fun (z0,z1,z2,z3,z4)=>K (.exit 7) ([.s (.ptr 0 0 none 0),.s .bad,.s (.ptr 1 0 none 0),.s (.ptr 2 0 none 0)]) ([.cells 28 [.arr .i8 81 z0,.arr .i8 16 z1,.one [.i .i8 z2]],.cells 88 [.arr .i64 9 z3],.cells 29 [.arr .i64 2 z4]]))
 | _,_=>none
def qNC:HL:=fun vs objs K=>match vs,objs with
 | [.s (.ptr 0 0 none 0),.s (.ptr 1 0 none 0),.s (.i .i64 x0)],[.cells 28 [.arr .i8 81 x1,.arr .i8 16 x2,.one [.i .i8 x3]],.cells 88 [.arr .i64 9 x4]]=>ob (qDa qC x0 x1 x2 x3 x4) fun t0=>sw t0 (fun (z0,z1,z2,z3)=>K (.ret) ([.s (.ptr 0 0 none 0),.s (.i .i64 z0)]) ([.cells 28 [.arr .i8 81 z1,.arr .i8 16 z2,.one [.i .i8 z3]]])) (fun (z0,z1,z2)=>K (.exit 11) ([.s (.ptr 0 0 none 0),.s .bad]) ([.cells 28 [.arr .i8 81 z0,.arr .i8 16 z1,.one [.i .i8 z2]]]))
 | _,_=>none
def qeu:{R:Type}->Nat->List V->List Obj->(Ex->List V->List Obj->Option R)->Option R:=fun q vs objs K=>bif Nat.beq q 6 then qND vs objs K else bif Nat.beq q 20 then qNB vs objs K else bif Nat.beq q 17 then qNA vs objs K else bif Nat.beq q 30 then qNC vs objs K else none
def qED:Ctx:=mkC 98 ((qUR (qY0 (qP3 (qFK (qDI qK)))))) [(6,[1,3,4,22,23],[1,2,3,4]),(17,[1,3,4,51,52],[1,2,3,4]),(20,[1,3,4,51,52,55,56],[1,2,3,4,51,52]),(30,[1,3,12],[1,2])] qeu
theorem qIh:CtxOK Tryz.prog qED:=mkC_ok ((qfV _ (ql3 _ (qYv _ (qGI _ (qDo _ qM))))))
def qM9 (f:Nat) (x0:LI) (x1:Int) (x2 x3:LI) (x4:Int) (x5 x6:LI):Option ((Int×LI×LI×Int×LI×LI)⊕(LI×LI×Int×LI×LI)):=qh qED 0 [1,3,4,22,23] [1,2,3,4] (qF Tryz.f48 6) f ([.s (.ptr 0 0 none 0),.s (.ptr 1 0 none 0),.s (.ptr 2 0 none 0),.agg [.arr .i8 81 x0],.s (.i .i64 x1)]) ([.cells 28 [.arr .i8 81 x2,.arr .i8 16 x3,.one [.i .i8 x4]],.cells 88 [.arr .i64 9 x5],.cells 29 [.arr .i64 2 x6]]) qM8
theorem qet (f:Nat) (x0:LI) (x1:Int) (x2 x3:LI) (x4:Int) (x5 x6:LI):qM9 (f+1) x0 x1 x2 x3 x4 x5 x6=qEp (qM9 f) x0 x1 x2 x3 x4 x5 x6:=by kernel_rfl
theorem qTp:∀ f,qM9 f=qCZ f
 | 0=>rfl
 | f+1=>by funext x0 x1 x2 x3 x4 x5 x6;rw[qet,qTp f];rfl
def qM5 (f:Nat) (x0:LI) (x1:Int) (x2:LI) (x3:Int) (x4 x5:LI) (x6:Int) (x7 x8:LI):Option ((Int×LI×Int×LI×LI×Int×LI×LI)⊕(LI×Int×LI×LI×Int×LI×LI)):=qh qED 0 [1,3,4,51,52,55,56] [1,2,3,4,51,52] (qF Tryz.f48 20) f ([.s (.ptr 0 0 none 0),.s (.ptr 1 0 none 0),.s (.ptr 2 0 none 0),.agg [.arr .i8 16 x0],.s (.i .i64 x1),.agg [.arr .i8 8 x2],.s (.i .i64 x3)]) ([.cells 28 [.arr .i8 81 x4,.arr .i8 16 x5,.one [.i .i8 x6]],.cells 88 [.arr .i64 9 x7],.cells 29 [.arr .i64 2 x8]]) qM4
theorem qer (f:Nat) (x0:LI) (x1:Int) (x2:LI) (x3:Int) (x4 x5:LI) (x6:Int) (x7 x8:LI):qM5 (f+1) x0 x1 x2 x3 x4 x5 x6 x7 x8=qEo (qM5 f) x0 x1 x2 x3 x4 x5 x6 x7 x8:=by kernel_rfl
theorem qTn:∀ f,qM5 f=qC7 f
 | 0=>rfl
 | f+1=>by funext x0 x1 x2 x3 x4 x5 x6 x7 x8;rw[qer,qTn f];rfl
def qM3 (f:Nat) (x0:LI) (x1:Int) (x2 x3:LI) (x4:Int) (x5 x6:LI):Option ((Int×LI×LI×Int×LI×LI)⊕(LI×LI×Int×LI×LI)):=qh qED 0 [1,3,4,51,52] [1,2,3,4] (qF Tryz.f48 17) f ([.s (.ptr 0 0 none 0),.s (.ptr 1 0 none 0),.s (.ptr 2 0 none 0),.agg [.arr .i8 16 x0],.s (.i .i64 x1)]) ([.cells 28 [.arr .i8 81 x2,.arr .i8 16 x3,.one [.i .i8 x4]],.cells 88 [.arr .i64 9 x5],.cells 29 [.arr .i64 2 x6]]) qM2
theorem qeq (f:Nat) (x0:LI) (x1:Int) (x2 x3:LI) (x4:Int) (x5 x6:LI):qM3 (f+1) x0 x1 x2 x3 x4 x5 x6=qDZ (qM3 f) x0 x1 x2 x3 x4 x5 x6:=by kernel_rfl
theorem qTm:∀ f,qM3 f=qCq f
 | 0=>rfl
 | f+1=>by funext x0 x1 x2 x3 x4 x5 x6;rw[qeq,qTm f];rfl
def qM7 (f:Nat) (x0:Int) (x1 x2:LI) (x3:Int) (x4:LI):Option ((Int×LI×LI×Int)⊕(LI×LI×Int)):=qh qED 0 [1,3,12] [1,2] (qF Tryz.f48 30) f ([.s (.ptr 0 0 none 0),.s (.ptr 1 0 none 0),.s (.i .i64 x0)]) ([.cells 28 [.arr .i8 81 x1,.arr .i8 16 x2,.one [.i .i8 x3]],.cells 88 [.arr .i64 9 x4]]) qM6
theorem qes (f:Nat) (x0:Int) (x1 x2:LI) (x3:Int) (x4:LI):qM7 (f+1) x0 x1 x2 x3 x4=qGx (qM7 f) x0 x1 x2 x3 x4:=by kernel_rfl
theorem qTo:∀ f,qM7 f=qDa f
 | 0=>rfl
 | f+1=>by funext x0 x1 x2 x3 x4;rw[qes,qTo f];rfl
theorem qez:qe Tryz.prog qED 0 (qF Tryz.f48 6):=
 qj mixed qIh (qP.of (l':=[]) (by kernel_rfl) trivial) (q:=6) (kin:=[1,3,4,22,23]) (kout:=[1,2,3,4]) (by kernel_rfl) (by kernel_rfl) fun vs objs K r h=>by
  replace h:qND vs objs K=some r:=h
  unfold qND at h
  split at h
  ·obtain⟨t,h1,h2⟩:=qE h
   rw[<- qTp] at h1
   refine⟨_,qM8,t,qC,h1,fun e vs' objs' hd=>?_⟩
   unfold qM8 at hd;split at hd;(cases hd;exact h2);(cases hd;exact h2);cases hd
  ·cases h
theorem qex:qe Tryz.prog qED 0 (qF Tryz.f48 20):=
 qj mixed qIh (qP.of (l':=[]) (by kernel_rfl) trivial) (q:=20) (kin:=[1,3,4,51,52,55,56]) (kout:=[1,2,3,4,51,52]) (by kernel_rfl) (by kernel_rfl) fun vs objs K r h=>by
  replace h:qNB vs objs K=some r:=h
  unfold qNB at h
  split at h
  ·obtain⟨t,h1,h2⟩:=qE h
   rw[<- qTn] at h1
   refine⟨_,qM4,t,qC,h1,fun e vs' objs' hd=>?_⟩
   unfold qM4 at hd;split at hd;(cases hd;exact h2);(cases hd;exact h2);cases hd
  ·cases h
theorem qey:qe Tryz.prog qED 0 (qF Tryz.f48 30):=
 qj mixed qIh (qP.of (l':=[]) (by kernel_rfl) trivial) (q:=30) (kin:=[1,3,12]) (kout:=[1,2]) (by kernel_rfl) (by kernel_rfl) fun vs objs K r h=>by
  replace h:qNC vs objs K=some r:=h
  unfold qNC at h
  split at h
  ·obtain⟨t,h1,h2⟩:=qE h
   rw[<- qTo] at h1
   refine⟨_,qM6,t,qC,h1,fun e vs' objs' hd=>?_⟩
   unfold qM6 at hd;split at hd;(cases hd;exact h2);(cases hd;exact h2);cases hd
  ·cases h
theorem qew:qe Tryz.prog qED 0 (qF Tryz.f48 17):=
 qj mixed qIh (qP.of (l':=[qF Tryz.f48 20]) (by kernel_rfl) ⟨qex,trivial⟩) (q:=17) (kin:=[1,3,4,51,52]) (kout:=[1,2,3,4]) (by kernel_rfl) (by kernel_rfl) fun vs objs K r h=>by
  replace h:qNA vs objs K=some r:=h
  unfold qNA at h
  split at h
  ·obtain⟨t,h1,h2⟩:=qE h
   rw[<- qTm] at h1
   refine⟨_,qM2,t,qC,h1,fun e vs' objs' hd=>?_⟩
   unfold qM2 at hd;split at hd;(cases hd;exact h2);(cases hd;exact h2);cases hd
  ·cases h
def qTl:V->List Obj->Option (Int):=fun v objs=>match v,objs with
 | .s (.i .i64 y0),[]=>some (y0)
 | _,_=>none
def qTk:HA:=fun o vs objs K=>match vs,objs with
 | [.agg [.arr .i8 81 x0,.arr .i8 16 x1,.one [.i .i8 x2]]],[]=>ob (qKE x0 x1 x2) fun y0=>K false (.s (.i .i64 y0)) ([])
 | _,_=>o 48 vs objs K
def qTq (o:Orc):Orc:=qL 48 (qTk o) o
theorem qev:OQ Tryz.prog qTq:=fun _ ho=>qN ho fun vs objs K r h=>by
 unfold qTk at h
 split at h
 ·obtain⟨t,h1,h2⟩:=qE h
  refine qAQ mixed qIh (D:=qTl) (fn:=Tryz.f48) (Eq.trans (by kernel_rfl) h1) (by kernel_rfl) (m:=0) rfl (qP.of (l':=[qF Tryz.f48 6,qF Tryz.f48 17,qF Tryz.f48 30]) (by kernel_rfl) ⟨qez,qew,qey,trivial⟩) fun v objs' hd=>?_
  unfold qTl at hd;split at hd;(cases hd;exact h2);cases hd
 ·exact ho _ _ _ _ _ h
def qMz:Ctx:=mkC 14 (qK) [] qV
theorem qel:CtxOK Tryz.prog qMz:=mkC_ok (qM)
def qM0:V->List Obj->Option (Int):=fun v objs=>match v,objs with
 | .s (.i .i64 y0),[]=>some (y0)
 | _,_=>none
theorem qek (B:{R:Type}->Bool->Option R->Option R->Option R) (x0:Int):fnE { qMz with brg:=B } Tryz.f127 ([.s (.i .u64 x0)]) ([]) qM0=qMy B x0:=by kernel_rfl
theorem qej (x0:Int):fnE qMz Tryz.f127 ([.s (.i .u64 x0)]) ([]) qM0=qEn x0:=qek br x0
def qTg:HA:=fun o vs objs K=>match vs,objs with
 | [.s (.i .u64 x0)],[]=>ob (qEn x0) fun y0=>K false (.s (.i .i64 y0)) ([])
 | _,_=>o 127 vs objs K
def qM1 (o:Orc):Orc:=qL 127 (qTg o) o
theorem qTh:OQ Tryz.prog qM1:=fun _ ho=>qN ho fun vs objs K r h=>by
 unfold qTg at h
 split at h
 ·obtain⟨t,h1,h2⟩:=qE h
  refine qd mixed qel ((qej _).trans h1) (by kernel_rfl) fun v objs' hd=>?_
  unfold qM0 at hd;split at hd;(cases hd;exact h2);cases hd
 ·exact ho _ _ _ _ _ h
def qpi:Ctx:=mkC 18 ((qM1 qK)) [] qV
theorem qpj:CtxOK Tryz.prog qpi:=mkC_ok ((qTh _ qM))
def qb8:V->List Obj->Option (Int):=fun v objs=>match v,objs with
 | .s (.i .i64 y0),[]=>some (y0)
 | _,_=>none
def qb7:HA:=fun o vs objs K=>match vs,objs with
 | [.agg [.one [.i .u64 x0,.i .u64 x1]]],[]=>ob (qIG x0 x1) fun y0=>K false (.s (.i .i64 y0)) ([])
 | _,_=>o 110 vs objs K
def qL8 (o:Orc):Orc:=qL 110 (qb7 o) o
theorem qR8:OQ Tryz.prog qL8:=fun _ ho=>qN ho fun vs objs K r h=>by
 unfold qb7 at h
 split at h
 ·obtain⟨t,h1,h2⟩:=qE h
  refine qd mixed qpj (D:=qb8) (fn:=Tryz.f110) (Eq.trans (by kernel_rfl) h1) (by kernel_rfl) fun v objs' hd=>?_
  unfold qb8 at hd;split at hd;(cases hd;exact h2);cases hd
 ·exact ho _ _ _ _ _ h
def qe5:Ctx:=mkC 9 ((qL8 (qFp qK))) [] qV
theorem qe6:CtxOK Tryz.prog qe5:=mkC_ok ((qR8 _ (qG1 _ qM)))
def qTx:V->List Obj->Option (Int):=fun v objs=>match v,objs with
 | .s (.i .i64 y0),[]=>some (y0)
 | _,_=>none
def qTw:HA:=fun o vs objs K=>match vs,List.map Obj.toRO objs with
 | [.s (.ptr 0 0 none 0),.s (.i .i64 x0)],[.rcells 87 [.arr .i8 81 x1,.arr .i8 16 x2,.one [.i .i8 x3],.rows [.i .u64,.i .u64] 32 x4,.rows [.i .u64,.i .u64] 2 x5]]=>ob (qGy x0 x1 x2 x3 x4 x5) fun y0=>K true (.s (.i .i64 y0)) ([])
 | _,_=>o 103 vs objs K
def qKG (o:Orc):Orc:=qL 103 (qTw o) o
theorem qNG:OQ Tryz.prog qKG:=fun _ ho=>qN ho fun vs objs K r h=>by
 unfold qTw at h
 split at h
 ·have hq:List.map Obj.toRO objs=_:=(by rename_i hq;first | exact hq | assumption)
  obtain⟨t,h1,h2⟩:=qE h
  refine qAs mixed qe6 (D:=qTx) (m:=1) (fn:=Tryz.f103) (by kernel_rfl) hq (by kernel_rfl) (by kernel_rfl) (qP.of (l':=[]) (by kernel_rfl) trivial) (Eq.trans (by kernel_rfl) h1) fun v objs' hd=>?_
  unfold qTx at hd;split at hd;(cases hd;exact h2);cases hd
 ·exact ho _ _ _ _ _ h
def qfP:Ctx:=mkC 14 ((qGc qK)) [] qV
theorem qfQ:CtxOK Tryz.prog qfP:=mkC_ok ((qIJ _ qM))
def qUL:V->List Obj->Option (Int×Int):=fun v objs=>match v,objs with
 | .agg [.one [.i .u64 y0,.i .u64 y1]],[]=>some (y0,y1)
 | _,_=>none
def qUK:HA:=fun o vs objs K=>match vs,List.map Obj.toRO objs with
 | [.s (.ptr 0 0 none 0)],[.rcells 87 [.arr .i8 81 x0,.arr .i8 16 x1,.one [.i .i8 x2],.rows [.i .u64,.i .u64] 32 x3,.rows [.i .u64,.i .u64] 2 x4]]=>ob (qDc x0 x1 x2 x3 x4) fun (z0,z1)=>K true (.agg [.one [.i .u64 z0,.i .u64 z1]]) ([])
 | _,_=>o 104 vs objs K
def qG4 (o:Orc):Orc:=qL 104 (qUK o) o
theorem qIj:OQ Tryz.prog qG4:=fun _ ho=>qN ho fun vs objs K r h=>by
 unfold qUK at h
 split at h
 ·have hq:List.map Obj.toRO objs=_:=(by rename_i hq;first | exact hq | assumption)
  obtain⟨t,h1,h2⟩:=qE h
  refine qAs mixed qfQ (D:=qUL) (m:=1) (fn:=Tryz.f104) (by kernel_rfl) hq (by kernel_rfl) (by kernel_rfl) (qP.of (l':=[]) (by kernel_rfl) trivial) (Eq.trans (by kernel_rfl) h1) fun v objs' hd=>?_
  unfold qUL at hd;split at hd;(cases hd;exact h2);cases hd
 ·exact ho _ _ _ _ _ h
def qGi (n:Nat) {R:Type} (o:Orc) (vs:List V) (objs:List Obj) (K:Bool->V->List Obj->Option R):Option R:=match vs,objs with
 | [.s (.i .i64 x0)],[]=>ob (qGh n x0) fun (z0,z1,z2)=>K false (.s (.sl 0 0 z0 true)) ([.sli 147 false (.rows [.i .i64,.i .i64] z1 z2)])
 | _,_=>o 135 vs objs K
def qSZ (n:Nat) (o:Orc):Orc:=fun f vs objs K=>bif Nat.beq f 135 then qGi n o vs objs K else o f vs objs K
def qqo (n:Nat):Orc:=qSZ n qK
def qc3 (n:Nat):Ctx:=mkC 57 (qqo n) [] qV
def qc4:V->List Obj->Option (Nat×Nat×LL):=fun v objs=>match v,objs with
 | .s (.sl 0 0 y0 true),[.sli 147 false (.rows [.i .i64,.i .i64] y1 y2)]=>some (y0,y1,y2)
 | _,_=>none
theorem qql (n:Nat) (x0:Int):fnE (qc3 n) Tryz.f135 ([.s (.i .i64 x0)]) ([]) qc4=qGh (n+1) x0:=by kernel_rfl
theorem qqm (n:Nat) (hc:CtxOK Tryz.prog (qc3 n)) {vs:List V} {objs:List Obj} (x0:Int) {R:Type} {K:Bool->V->List Obj->Option R} {r:R} (hv:vs=[.s (.i .i64 x0)]) (ho:objs=[]) (h:ob (qGh (n+1) x0) (fun (z0,z1,z2)=>K false (.s (.sl 0 0 z0 true)) ([.sli 147 false (.rows [.i .i64,.i .i64] z1 z2)]))=some r):
  ∃ p v objs',K p v objs'=some r /\ qDT Tryz.prog 135 vs objs p v objs':=by
 subst hv
 subst ho
 obtain⟨t,h1,h2⟩:=qE h
 refine qMd mixed hc (objs:=[]) (fn:=Tryz.f135) (b:=(Tryz.f135).body.getD .skip) (by kernel_rfl) (by kernel_rfl) (by kernel_rfl) (qP.of (l':=[]) (by kernel_rfl) trivial) ((qql n x0).trans h1) fun v objs' hd=>?_
 unfold qc4 at hd;split at hd;(cases hd;exact h2);cases hd
theorem qqn:∀ (n:Nat) (o:Orc) (_:qDW Tryz.prog o),qDW Tryz.prog (qSZ n o):=by
 intro n
 induction n with
 | zero=>
   intro o ho R f vs objs K r h
   replace h:(bif Nat.beq f 135 then qGi 0 o vs objs K else o f vs objs K)=some r:=h
   cases hf:Nat.beq f 135 with
   | false=>rw[hf] at h;exact ho f vs objs K r h
   | true=>
     rw[hf] at h
     have e:=Nat.eq_of_beq_eq_true hf
     subst e
     replace h:qGi 0 o vs objs K=some r:=h
     unfold qGi at h
     split at h
     ·cases h
     ·exact ho _ _ _ _ _ h
 | succ n ih=>
   intro o ho R f vs objs K r h
   replace h:(bif Nat.beq f 135 then qGi (n+1) o vs objs K else o f vs objs K)=some r:=h
   cases hf:Nat.beq f 135 with
   | false=>rw[hf] at h;exact ho f vs objs K r h
   | true=>
     rw[hf] at h
     have e:=Nat.eq_of_beq_eq_true hf
     subst e
     replace h:qGi (n+1) o vs objs K=some r:=h
     unfold qGi at h
     split at h
     ·skip
      exact qqm n ⟨tab_ok,ih _ qM,eqs_ok,bytes_ok,fun _ _ _=>rfl,exts_ok⟩ _ rfl rfl h
     ·exact ho _ _ _ _ _ h
def qqj:Ctx:=mkC 15 (qK) [] qV
theorem qqk:CtxOK Tryz.prog qqj:=mkC_ok (qM)
def qc1:V->List Obj->Option (Int×Int):=fun v objs=>match v,objs with
 | .agg [.one [.i .i64 y0,.i .i64 y1]],[]=>some (y0,y1)
 | _,_=>none
def qc0:HA:=fun o vs objs K=>match vs,objs with
 | [.agg [.one [.i .i64 x0,.i .i64 x1]],.s (.i .i64 x2)],[]=>ob (qGg x0 x1 x2) fun (z0,z1)=>K false (.agg [.one [.i .i64 z0,.i .i64 z1]]) ([])
 | _,_=>o 129 vs objs K
def qSY (o:Orc):Orc:=qL 129 (qc0 o) o
theorem qc2:OQ Tryz.prog qSY:=fun _ ho=>qN ho fun vs objs K r h=>by
 unfold qc0 at h
 split at h
 ·obtain⟨t,h1,h2⟩:=qE h
  refine qd mixed qqk (D:=qc1) (fn:=Tryz.f129) (Eq.trans (by kernel_rfl) h1) (by kernel_rfl) fun v objs' hd=>?_
  unfold qc1 at hd;split at hd;(cases hd;exact h2);cases hd
 ·exact ho _ _ _ _ _ h
def qpg:Ctx:=mkC 5 (qK) [] qV
theorem qph:CtxOK Tryz.prog qpg:=mkC_ok (qM)
def qb5:V->List Obj->Option (Int):=fun v objs=>match v,objs with
 | .s (.i .i64 y0),[]=>some (y0)
 | _,_=>none
def qb4:HA:=fun o vs objs K=>match vs,objs with
 | [.s (.i .i64 x0)],[]=>ob (qJf x0) fun y0=>K false (.s (.i .i64 y0)) ([])
 | _,_=>o 132 vs objs K
def qR7 (o:Orc):Orc:=qL 132 (qb4 o) o
theorem qb6:OQ Tryz.prog qR7:=fun _ ho=>qN ho fun vs objs K r h=>by
 unfold qb4 at h
 split at h
 ·obtain⟨t,h1,h2⟩:=qE h
  refine qd mixed qph (D:=qb5) (fn:=Tryz.f132) (Eq.trans (by kernel_rfl) h1) (by kernel_rfl) fun v objs' hd=>?_
  unfold qb5 at hd;split at hd;(cases hd;exact h2);cases hd
 ·exact ho _ _ _ _ _ h
def qqh:Ctx:=mkC 42 ((set_Squareo (qSJ (qR7 qK)))) [] qV
theorem qqi:CtxOK Tryz.prog qqh:=mkC_ok ((set_Squareo_ok _ (qcV _ (qb6 _ qM))))
def qcy:V->List Obj->Option (Int):=fun v objs=>match v,objs with
 | .s (.i .i64 y0),[]=>some (y0)
 | _,_=>none
def qcx:HA:=fun o vs objs K=>match vs,objs with
 | [.agg [.one [.i .i64 x0,.i .i64 x1]],.s (.i .i64 x2)],[]=>ob (qIP x0 x1 x2) fun y0=>K false (.s (.i .i64 y0)) ([])
 | _,_=>o 134 vs objs K
def qSX (o:Orc):Orc:=qL 134 (qcx o) o
theorem qcz:OQ Tryz.prog qSX:=fun _ ho=>qN ho fun vs objs K r h=>by
 unfold qcx at h
 split at h
 ·obtain⟨t,h1,h2⟩:=qE h
  refine qd mixed qqi (D:=qcy) (fn:=Tryz.f134) (Eq.trans (by kernel_rfl) h1) (by kernel_rfl) fun v objs' hd=>?_
  unfold qcy at hd;split at hd;(cases hd;exact h2);cases hd
 ·exact ho _ _ _ _ _ h
def qSc:Ex->List V->List Obj->Option (Int×Int×Int×Int):=fun e vs objs=>match e,vs,objs with
 | .exit 0,[.s (.ptr 0 0 none 0),.s (.ptr 1 0 none 0)],[.cells 83 [.one [.i .u64 y0,.i .u64 y1]],.cells 83 [.one [.i .u64 y2,.i .u64 y3]]]=>some (y0,y1,y2,y3)
 | _,_,_=>none
def qSe:HL:=fun vs objs K=>match vs,objs with
 | [.s (.i .i8 x0),.s (.i .i64 x1),.s (.ptr 0 0 none 0),.s (.ptr 1 0 none 0),.s (.sl 2 0 x2 true),.s (.i .i64 x3),.s (.i .i64 x4)],[.cells 83 [.one [.i .u64 x5,.i .u64 x6]],.cells 83 [.one [.i .u64 x7,.i .u64 x8]],.sli 147 false (.rows [.i .i64,.i .i64] x9 x10)]=>ob (qFk qC x0 x1 x2 x3 x4 x5 x6 x7 x8 x9 x10) fun (z0,z1,z2,z3)=>K (.exit 0) ([.s (.ptr 0 0 none 0),.s (.ptr 1 0 none 0)]) ([.cells 83 [.one [.i .u64 z0,.i .u64 z1]],.cells 83 [.one [.i .u64 z2,.i .u64 z3]]])
 | _,_=>none
def qqt:{R:Type}->Nat->List V->List Obj->(Ex->List V->List Obj->Option R)->Option R:=fun q vs objs K=>bif Nat.beq q 3 then qSe vs objs K else none
def qSb:Ctx:=mkC 26 ((qEV (qSX (qSY (qFK (qSZ qC (qDI qK))))))) [(3,[0,1,4,5,10,11,12],[4,5])] qqt
theorem qc9:CtxOK Tryz.prog qSb:=mkC_ok ((qFh _ (qcz _ (qc2 _ (qGI _ (qqn qC _ (qDo _ qM)))))))
def qSd (f:Nat) (x0 x1:Int) (x2:Nat) (x3 x4:Int) (x5 x6:Int) (x7 x8:Int) (x9:Nat) (x10:LL):Option (Int×Int×Int×Int):=qh qSb 0 [0,1,4,5,10,11,12] [4,5] (qF Tryz.f128 3) f ([.s (.i .i8 x0),.s (.i .i64 x1),.s (.ptr 0 0 none 0),.s (.ptr 1 0 none 0),.s (.sl 2 0 x2 true),.s (.i .i64 x3),.s (.i .i64 x4)]) ([.cells 83 [.one [.i .u64 x5,.i .u64 x6]],.cells 83 [.one [.i .u64 x7,.i .u64 x8]],.sli 147 false (.rows [.i .i64,.i .i64] x9 x10)]) qSc
theorem qqs (f:Nat) (x0 x1:Int) (x2:Nat) (x3 x4:Int) (x5 x6:Int) (x7 x8:Int) (x9:Nat) (x10:LL):qSd (f+1) x0 x1 x2 x3 x4 x5 x6 x7 x8 x9 x10=qIQ (qSd f) x0 x1 x2 x3 x4 x5 x6 x7 x8 x9 x10:=by kernel_rfl
theorem qdB:∀ f,qSd f=qFk f
 | 0=>rfl
 | f+1=>by funext x0 x1 x2 x3 x4 x5 x6 x7 x8 x9 x10;rw[qqs,qdB f];rfl
theorem qqv:qe Tryz.prog qSb 0 (qF Tryz.f128 3):=
 qj mixed qc9 (qP.of (l':=[]) (by kernel_rfl) trivial) (q:=3) (kin:=[0,1,4,5,10,11,12]) (kout:=[4,5]) (by kernel_rfl) (by kernel_rfl) fun vs objs K r h=>by
  replace h:qSe vs objs K=some r:=h
  unfold qSe at h
  split at h
  ·obtain⟨t,h1,h2⟩:=qE h
   rw[<- qdB] at h1
   refine⟨_,qSc,t,qC,h1,fun e vs' objs' hd=>?_⟩
   unfold qSc at hd;split at hd;(cases hd;exact h2);cases hd
  ·cases h
def qdA:V->List Obj->Option (Int×Int):=fun v objs=>match v,objs with
 | .agg [.one [.i .u64 y0,.i .u64 y1]],[]=>some (y0,y1)
 | _,_=>none
def qc8:HA:=fun o vs objs K=>match vs,objs with
 | [.s (.i .i8 x0),.s (.i .i64 x1)],[]=>ob (qMN x0 x1) fun (z0,z1)=>K false (.agg [.one [.i .u64 z0,.i .u64 z1]]) ([])
 | _,_=>o 128 vs objs K
def qdC (o:Orc):Orc:=qL 128 (qc8 o) o
theorem qqu:OQ Tryz.prog qdC:=fun _ ho=>qN ho fun vs objs K r h=>by
 unfold qc8 at h
 split at h
 ·obtain⟨t,h1,h2⟩:=qE h
  refine qAQ mixed qc9 (D:=qdA) (fn:=Tryz.f128) (Eq.trans (by kernel_rfl) h1) (by kernel_rfl) (m:=0) rfl (qP.of (l':=[qF Tryz.f128 3]) (by kernel_rfl) ⟨qqv,trivial⟩) fun v objs' hd=>?_
  unfold qdA at hd;split at hd;(cases hd;exact h2);cases hd
 ·exact ho _ _ _ _ _ h
def qme:Ctx:=mkC 24 (qK) [] qV
theorem qmf:CtxOK Tryz.prog qme:=mkC_ok (qM)
def qZN:V->List Obj->Option (Nat×Nat×LL):=fun v objs=>match v,objs with
 | .s (.sl 0 0 y0 true),[.sli 147 false (.rows [.i .i64,.i .i64] y1 y2)]=>some (y0,y1,y2)
 | _,_=>none
def qZM:HA:=fun o vs objs K=>match vs,objs with
 | [.s (.i .i64 x0)],[]=>ob (qHq x0) fun (z0,z1,z2)=>K false (.s (.sl 0 0 z0 true)) ([.sli 147 false (.rows [.i .i64,.i .i64] z1 z2)])
 | _,_=>o 124 vs objs K
def qQI (o:Orc):Orc:=qL 124 (qZM o) o
theorem qZO:OQ Tryz.prog qQI:=fun _ ho=>qN ho fun vs objs K r h=>by
 unfold qZM at h
 split at h
 ·obtain⟨t,h1,h2⟩:=qE h
  refine qd mixed qmf (D:=qZN) (fn:=Tryz.f124) (Eq.trans (by kernel_rfl) h1) (by kernel_rfl) fun v objs' hd=>?_
  unfold qZN at hd;split at hd;(cases hd;exact h2);cases hd
 ·exact ho _ _ _ _ _ h
end
end Go.Kk.KkGT
