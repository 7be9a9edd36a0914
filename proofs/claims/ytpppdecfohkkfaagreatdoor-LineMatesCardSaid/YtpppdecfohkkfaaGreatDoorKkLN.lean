/- Printed by a tool of this project (KkGen): the program's functions come to the plain ones. -/
import Derived.Test.YtpppdecfohkkfaaGreatDoorProg
import Derived.Test.YtpppdecfohkkfaaGreatDoorKkTold
import Derived.Test.YtpppdecfohkkfaaGreatDoorKkPl
namespace Go.Kk.KkLN
noncomputable section
open Go.Proofs Go.Kk.Pl
set_option maxRecDepth 100000
set_option maxHeartbeats 4000000
def tab:Tab:=[(1,.sc (.f)),
 (2,.sc (.i .i64)),
 (3,.sc (.i .i64)),
 (4,.sc (.b)),
 (5,.sc (.i .u8)),
 (6,.sc (.i .u8)),
 (7,.st [.one [.i .i64,.i .i64,.b,.i .u8]] [(0,0,2),(0,1,3),(0,2,4),(0,3,6)]),
 (8,.st [.one [.i .i64,.i .i64,.b,.i .u8]] [(0,0,2),(0,1,3),(0,2,4),(0,3,6)]),
 (9,.sc (.str)),
 (10,.sc (.str)),
 (11,.sc (.str)),
 (12,.sc (.i .u64)),
 (13,.st [.one [.str,.i .u64]] [(0,0,9),(0,1,12)]),
 (14,.st [.one [.str,.i .u64]] [(0,0,9),(0,1,12)]),
 (15,.sc (.p)),
 (16,.sc (.p)),
 (17,.sc (.p)),
 (18,.st [.one [.p]] [(0,0,17)]),
 (19,.st [.one [.p]] [(0,0,17)]),
 (21,.sc (.i .i32)),
 (22,.sc (.i .i8)),
 (23,.sc (.i .i8)),
 (24,.ar 81 1 23 (.arr .i8 81)),
 (25,.ar 8 1 22 (.arr .i8 8)),
 (26,.ar 2 8 25 (.arr .i8 16)),
 (27,.st [.arr .i8 81,.arr .i8 16,.one [.i .i8]] [(0,0,24),(1,0,26),(2,0,22)]),
 (28,.st [.arr .i8 81,.arr .i8 16,.one [.i .i8]] [(0,0,24),(1,0,26),(2,0,22)]),
 (29,.sc (.sl 37)),
 (30,.sc (.f)),
 (31,.sc (.i .i64)),
 (33,.sc (.f)),
 (34,.sc (.f)),
 (35,.sc (.f)),
 (36,.st [.one [.i .i64,.i .i64,.i .i64,.b]] [(0,0,3),(0,1,3),(0,2,3),(0,3,4)]),
 (37,.st [.one [.i .i64,.i .i64,.i .i64,.b]] [(0,0,3),(0,1,3),(0,2,3),(0,3,4)]),
 (38,.sc (.f)),
 (39,.sc (.f)),
 (40,.sc (.f)),
 (41,.sc (.f)),
 (43,.sc (.f)),
 (44,.sc (.f)),
 (46,.sc (.f)),
 (47,.sc (.f)),
 (48,.sc (.sl 3)),
 (49,.sc (.f)),
 (50,.sc (.f)),
 (52,.sc (.f)),
 (53,.sc (.f)),
 (54,.sc (.f)),
 (55,.sc (.f)),
 (56,.sc (.f)),
 (57,.sc (.f)),
 (58,.sc (.p)),
 (59,.sc (.f)),
 (60,.sc (.f)),
 (61,.sc (.p)),
 (62,.sc (.i .u64)),
 (63,.sc (.i .u64)),
 (64,.sc (.sl 98)),
 (65,.st [.one [.p,.i .u64,.sl 98]] [(0,0,61),(0,1,63),(0,2,64)]),
 (66,.st [.one [.p,.i .u64,.sl 98]] [(0,0,61),(0,1,63),(0,2,64)]),
 (67,.st [.one [.i .u64,.i .u64]] [(0,0,62),(0,1,62)]),
 (68,.st [.one [.i .u64,.i .u64]] [(0,0,62),(0,1,62)]),
 (69,.ar 32 1 68 (.rows [.i .u64,.i .u64] 32)),
 (70,.ar 2 1 68 (.rows [.i .u64,.i .u64] 2)),
 (71,.st [.arr .i8 81,.arr .i8 16,.one [.i .i8],.rows [.i .u64,.i .u64] 32,.rows [.i .u64,.i .u64] 2] [(0,0,28),(3,0,69),(4,0,70)]),
 (72,.st [.arr .i8 81,.arr .i8 16,.one [.i .i8],.rows [.i .u64,.i .u64] 32,.rows [.i .u64,.i .u64] 2] [(0,0,28),(3,0,69),(4,0,70)]),
 (73,.sc (.f)),
 (74,.sc (.f)),
 (75,.sc (.f)),
 (76,.sc (.f)),
 (77,.sc (.sl 9)),
 (78,.sc (.f)),
 (79,.sc (.f)),
 (81,.sc (.f)),
 (82,.sc (.f)),
 (83,.sc (.f)),
 (84,.sc (.f)),
 (85,.sc (.f)),
 (86,.sc (.f)),
 (87,.ar 81 1 4 (.barr 81)),
 (88,.sc (.f)),
 (89,.sc (.f)),
 (90,.sc (.f)),
 (91,.ar 9 1 3 (.arr .i64 9)),
 (92,.sc (.f)),
 (93,.sc (.f)),
 (94,.sc (.f)),
 (95,.sc (.f)),
 (96,.sc (.f)),
 (97,.st [.one [.i .i64,.i .i64,.i .i64,.b,.i .i8,.i .i8]] [(0,0,37),(0,4,23),(0,5,23)]),
 (98,.st [.one [.i .i64,.i .i64,.i .i64,.b,.i .i8,.i .i8]] [(0,0,37),(0,4,23),(0,5,23)]),
 (99,.sc (.f)),
 (100,.sc (.f)),
 (101,.sc (.f)),
 (102,.sc (.f)),
 (103,.sc (.f)),
 (104,.sc (.f)),
 (105,.sc (.f)),
 (106,.sc (.f)),
 (107,.sc (.p)),
 (108,.sc (.sl 5)),
 (109,.st [.one [.p,.sl 5]] [(0,0,107),(0,1,108)]),
 (110,.st [.one [.p,.sl 5]] [(0,0,107),(0,1,108)]),
 (111,.sc (.f)),
 (115,.sc (.f)),
 (116,.sc (.f)),
 (117,.sc (.f)),
 (118,.sc (.sl 21)),
 (119,.sc (.f)),
 (121,.sc (.f)),
 (122,.sc (.f)),
 (123,.sc (.f)),
 (124,.ar 2 1 3 (.arr .i64 2)),
 (125,.sc (.f)),
 (126,.sc (.f)),
 (127,.sc (.f)),
 (128,.sc (.m 3 68)),
 (129,.st [.one [.p,.i .i64,.i .i64,.i .u64,.i .u64,.m 3 68,.b]] [(0,0,61),(0,1,3),(0,2,3),(0,3,68),(0,5,128),(0,6,4)]),
 (130,.st [.one [.p,.i .i64,.i .i64,.i .u64,.i .u64,.m 3 68,.b]] [(0,0,61),(0,1,3),(0,2,3),(0,3,68),(0,5,128),(0,6,4)]),
 (131,.sc (.f)),
 (132,.sc (.f)),
 (133,.sc (.f)),
 (134,.sc (.p)),
 (135,.sc (.f)),
 (136,.sc (.f)),
 (137,.sc (.f)),
 (138,.sc (.f)),
 (139,.sc (.f)),
 (140,.sc (.f)),
 (141,.sc (.f)),
 (142,.sc (.f)),
 (143,.sc (.f)),
 (144,.sc (.f)),
 (145,.sc (.f)),
 (146,.sc (.f)),
 (147,.sc (.f)),
 (149,.sc (.f)),
 (150,.sc (.f)),
 (152,.sc (.f)),
 (153,.sc (.f)),
 (155,.sc (.f)),
 (156,.sc (.f)),
 (158,.sc (.f)),
 (159,.sc (.f)),
 (160,.sc (.i .u64)),
 (161,.sc (.sl 164)),
 (162,.sc (.f)),
 (163,.st [.one [.i .i64,.i .i64]] [(0,0,3),(0,1,3)]),
 (164,.st [.one [.i .i64,.i .i64]] [(0,0,3),(0,1,3)]),
 (165,.sc (.f)),
 (166,.sc (.f)),
 (167,.sc (.f)),
 (168,.sc (.f)),
 (169,.ar 64 1 5 (.arr .u8 64)),
 (170,.ar 256 1 5 (.arr .u8 256)),
 (171,.st [.one [.i .u8,.i .u8]] [(0,0,5),(0,1,5)]),
 (172,.st [.one [.i .u8,.i .u8]] [(0,0,5),(0,1,5)]),
 (173,.ar 16 1 172 (.rows [.i .u8,.i .u8] 16)),
 (174,.sc (.i .u32)),
 (176,.sc (.f)),
 (177,.st [.one [.p,.p,.p,.str]] [(0,0,17),(0,1,17),(0,2,17),(0,3,9)]),
 (178,.st [.one [.p,.p,.p,.str]] [(0,0,17),(0,1,17),(0,2,17),(0,3,9)]),
 (182,.sc (.i .u8)),
 (183,.sc (.i .u8)),
 (184,.sc (.f)),
 (185,.sc (.i .i32)),
 (186,.sc (.i .i32)),
 (187,.st [.one [.i .u64,.i .u64,.i .u32,.i .u8,.i .u8,.i .u8,.i .u8,.f,.p,.i .i32,.i .i32]] [(0,0,12),(0,1,12),(0,2,174),(0,3,182),(0,4,5),(0,5,5),(0,6,183),(0,7,184),(0,8,134),(0,9,185),(0,10,186)]),
 (188,.st [.one [.i .u64,.i .u64,.i .u32,.i .u8,.i .u8,.i .u8,.i .u8,.f,.p,.i .i32,.i .i32]] [(0,0,12),(0,1,12),(0,2,174),(0,3,182),(0,4,5),(0,5,5),(0,6,183),(0,7,184),(0,8,134),(0,9,185),(0,10,186)])]
def eqs:List TypeId:=[3,9,24,25,26,27,28,31,36,37,67,68,124,163,164]
def bytes:List (TypeId×Nat):=[(37,32),(3,8),(98,40),(9,16),(5,1),(21,4),(164,16)]
theorem mixed:Tryz.prog.follows .mixedOrders=true:=by kernel_rfl
theorem tab_ok:∀ t L,Tab.get tab t=some L->LayOK Tryz.prog tab t L:=qgT (P:=Tryz.prog) (tab:=tab) (l:=tab) (by kernel_rfl)
theorem eqs_ok:∀ t L,qEW t eqs=true->Tab.get tab t=some L->∃ f ck,f<=10000 /\ qBC Tryz.prog f t=some ck /\ qBX L.segTs=some ck /\ Tryz.prog.eqGuardType Tryz.prog.depth t=false:=qWX (P:=Tryz.prog) (tab:=tab) (l:=eqs) (by kernel_rfl)
theorem bytes_ok:∀ t n,byN t bytes=some n->∃ i,Tryz.prog.info? t=some i /\ i.bytes=n:=qVc (P:=Tryz.prog) (l:=bytes) (by kernel_rfl)
def mkC (nt:Nat) (orc:Orc) (keeps:List (Nat×List Nat×List Nat)) (lp:{R:Type}->Nat->List V->List Obj->(Ex->List V->List Obj->Option R)->Option R):Ctx:={tab:=tab,eqs:=eqs,bytes:=bytes,nt:=nt,orc:=orc,keeps:=keeps,lp:=lp}
theorem exts_ok:qNX Tryz.prog:=exts_told
theorem mkC_ok {nt:Nat} {orc:Orc} {keeps:List (Nat×List Nat×List Nat)} {lp:{R:Type}->Nat->List V->List Obj->(Ex->List V->List Obj->Option R)->Option R} (h:qC1 Tryz.prog orc):CtxOK Tryz.prog (mkC nt orc keeps lp):=⟨tab_ok,h,eqs_ok,bytes_ok,fun _ _ _=>rfl,exts_ok⟩
def set_Squarec:Ctx:=mkC 23 (qI) [] qU
theorem set_Squarec_ok:CtxOK Tryz.prog set_Squarec:=mkC_ok (qL)
def set_Squared:V->List Obj->Option (Int):=fun v objs=>match v,objs with
 | .s (.i .i64 y0),[]=>some (y0)
 | _,_=>none
theorem set_Square_eq (x0 x1:Int):fnE set_Squarec Tryz.f50 ([.s (.i .i64 x0),.s (.i .i64 x1)]) ([]) set_Squared=qCb x0 x1:=by kernel_rfl
def set_Squarea:HA:=fun o vs objs K=>match vs,objs with
 | [.s (.i .i64 x0),.s (.i .i64 x1)],[]=>ob (qCb x0 x1) fun y0=>K false (.s (.i .i64 y0)) ([])
 | _,_=>o 50 vs objs K
def set_Squareo (o:Orc):Orc:=qK 50 (set_Squarea o) o
theorem set_Squareo_ok:OQ Tryz.prog set_Squareo:=fun _ ho=>qM ho fun vs objs K r h=>by
 unfold set_Squarea at h
 split at h
 ·skip
  obtain⟨t,h1,h2⟩:=qD h
  refine qX mixed set_Squarec_ok ((set_Square_eq _ _).trans h1) (by kernel_rfl) fun v objs' hd=>?_
  unfold set_Squared at hd;split at hd;(cases hd;exact h2);cases hd
 ·exact ho _ _ _ _ _ h
def qVG:Ctx:=mkC 14 ((set_Squareo qI)) [] qU
theorem qih:CtxOK Tryz.prog qVG:=mkC_ok ((set_Squareo_ok _ qL))
def qVH:V->List Obj->Option (Int):=fun v objs=>match v,objs with
 | .s (.i .i64 y0),[]=>some (y0)
 | _,_=>none
theorem qig (x0 x1 x2:Int):fnE qVG Tryz.f49 ([.s (.i .i64 x0),.s (.ptr 0 0 none 0),.s (.ptr 1 0 none 0)]) ([.rcells 3 [.one [.i .i64 x1]],.rcells 3 [.one [.i .i64 x2]]]) (qAG 2 qVH)=qKl x0 x1 x2:=by kernel_rfl
def qVF:HA:=fun o vs objs K=>match vs,List.map Obj.toRO objs with
 | [.s (.i .i64 x0),.s (.ptr 0 0 none 0),.s (.ptr 1 0 none 0)],[.rcells 3 [.one [.i .i64 x1]],.rcells 3 [.one [.i .i64 x2]]]=>ob (qKl x0 x1 x2) fun y0=>K true (.s (.i .i64 y0)) ([])
 | _,_=>o 49 vs objs K
def qVI (o:Orc):Orc:=qK 49 (qVF o) o
theorem qii:OQ Tryz.prog qVI:=fun _ ho=>qM ho fun vs objs K r h=>by
 unfold qVF at h
 split at h
 ·skip
  have hq:List.map Obj.toRO objs=_:=(by rename_i hq;first | exact hq | assumption)
  obtain⟨t,h1,h2⟩:=qD h
  refine qAc mixed qih (m:=2) (fn:=Tryz.f49) (b:=(Tryz.f49).body.getD .skip) (by kernel_rfl) (by kernel_rfl) (by kernel_rfl) hq (by kernel_rfl) (by kernel_rfl) (qN.of (l':=[]) (by kernel_rfl) trivial) ((qig _ _ _).trans h1) fun v objs' hd=>?_
  unfold qVH at hd;split at hd;(cases hd;exact h2);cases hd
 ·exact ho _ _ _ _ _ h
def qaT:Ctx:=mkC 28 (qI) [] qU
theorem qpL:CtxOK Tryz.prog qaT:=mkC_ok (qL)
def qaU:V->List Obj->Option (Int):=fun v objs=>match v,objs with
 | .s (.i .i8 y0),[]=>some (y0)
 | _,_=>none
theorem qpK (x0 x1:Int):fnE qaT Tryz.f51 ([.s (.i .i64 x0),.s (.i .i64 x1)]) ([]) qaU=qAk x0 x1:=by kernel_rfl
def qaS:HA:=fun o vs objs K=>match vs,objs with
 | [.s (.i .i64 x0),.s (.i .i64 x1)],[]=>ob (qAk x0 x1) fun y0=>K false (.s (.i .i8 y0)) ([])
 | _,_=>o 51 vs objs K
def qDn (o:Orc):Orc:=qK 51 (qaS o) o
theorem qEZ:OQ Tryz.prog qDn:=fun _ ho=>qM ho fun vs objs K r h=>by
 unfold qaS at h
 split at h
 ·skip
  obtain⟨t,h1,h2⟩:=qD h
  refine qX mixed qpL ((qpK _ _).trans h1) (by kernel_rfl) fun v objs' hd=>?_
  unfold qaU at hd;split at hd;(cases hd;exact h2);cases hd
 ·exact ho _ _ _ _ _ h
def qOO:Ex->List V->List Obj->Option (Int×LI×LI×Int×LI×LI×Int×LI):=fun e vs objs=>match e,vs,objs with
 | .exit 2,[.s (.ptr 0 0 none 0),.s (.ptr 1 0 none 0),.s (.ptr 2 0 none 0),.s (.i .i64 y0)],[.cells 28 [.arr .i8 81 y1,.arr .i8 16 y2,.one [.i .i8 y3]],.cells 28 [.arr .i8 81 y4,.arr .i8 16 y5,.one [.i .i8 y6]],.cells 91 [.arr .i64 9 y7]]=>some (y0,y1,y2,y3,y4,y5,y6,y7)
 | _,_,_=>none
def qOM:Ex->List V->List Obj->Option (LI×LI×Int×LI×LI×Int):=fun e vs objs=>match e,vs,objs with
 | .exit 0,[.s (.ptr 0 0 none 0),.s (.ptr 1 0 none 0)],[.cells 28 [.arr .i8 81 y0,.arr .i8 16 y1,.one [.i .i8 y2]],.cells 28 [.arr .i8 81 y3,.arr .i8 16 y4,.one [.i .i8 y5]]]=>some (y0,y1,y2,y3,y4,y5)
 | _,_,_=>none
def qOR:HL:=fun vs objs K=>match vs,objs with
 | [.s (.ptr 0 0 none 0),.s (.ptr 1 0 none 0),.s (.ptr 2 0 none 0),.s (.ptr 3 0 none 0),.s (.i .i64 x0),.s (.i .i64 x1)],[.cells 28 [.arr .i8 81 x2,.arr .i8 16 x3,.one [.i .i8 x4]],.cells 28 [.arr .i8 81 x5,.arr .i8 16 x6,.one [.i .i8 x7]],.cells 91 [.arr .i64 9 x8],.cells 3 [.one [.i .i64 x9]]]=>ob (qKn qB x0 x1 x2 x3 x4 x5 x6 x7 x8 x9) fun z=>K (.exit 2) ([.s (.ptr 0 0 none 0),.s (.ptr 1 0 none 0),.s (.ptr 2 0 none 0),.s (.i .i64 (z.1))]) ([.cells 28 [.arr .i8 81 (z.2.1),.arr .i8 16 (z.2.2.1),.one [.i .i8 (z.2.2.2.1)]],.cells 28 [.arr .i8 81 (z.2.2.2.2.1),.arr .i8 16 (z.2.2.2.2.2.1),.one [.i .i8 (z.2.2.2.2.2.2.1)]],.cells 91 [.arr .i64 9 (z.2.2.2.2.2.2.2)]])
 | _,_=>none
def qOQ:HL:=fun vs objs K=>match vs,objs with
 | [.s (.ptr 0 0 none 0),.s (.ptr 1 0 none 0),.s (.ptr 2 0 none 0),.s (.i .i64 x0)],[.cells 28 [.arr .i8 81 x1,.arr .i8 16 x2,.one [.i .i8 x3]],.cells 28 [.arr .i8 81 x4,.arr .i8 16 x5,.one [.i .i8 x6]],.cells 91 [.arr .i64 9 x7]]=>ob (qKm qB x0 x1 x2 x3 x4 x5 x6 x7) fun z=>K (.exit 0) ([.s (.ptr 0 0 none 0),.s (.ptr 1 0 none 0)]) ([.cells 28 [.arr .i8 81 (z.1),.arr .i8 16 (z.2.1),.one [.i .i8 (z.2.2.1)]],.cells 28 [.arr .i8 81 (z.2.2.2.1),.arr .i8 16 (z.2.2.2.2.1),.one [.i .i8 (z.2.2.2.2.2)]]])
 | _,_=>none
def qim:{R:Type}->Nat->List V->List Obj->(Ex->List V->List Obj->Option R)->Option R:=fun q vs objs K=>bif Nat.beq q 7 then qOR vs objs K else bif Nat.beq q 4 then qOQ vs objs K else none
def qHF:Ctx:=mkC 44 ((set_Squareo (qDn (qVI qI)))) [(4,[0,1,2,7],[0,1]),(7,[0,1,2,3,7,10],[0,1,2,7])] qim
theorem qOL:CtxOK Tryz.prog qHF:=mkC_ok ((set_Squareo_ok _ (qEZ _ (qii _ qL))))
def qOP (f:Nat) (x0 x1:Int) (x2 x3:LI) (x4:Int) (x5 x6:LI) (x7:Int) (x8:LI) (x9:Int):Option (Int×LI×LI×Int×LI×LI×Int×LI):=qf qHF 0 [0,1,2,3,7,10] [0,1,2,7] (qE Tryz.f22 7) f ([.s (.ptr 0 0 none 0),.s (.ptr 1 0 none 0),.s (.ptr 2 0 none 0),.s (.ptr 3 0 none 0),.s (.i .i64 x0),.s (.i .i64 x1)]) ([.cells 28 [.arr .i8 81 x2,.arr .i8 16 x3,.one [.i .i8 x4]],.cells 28 [.arr .i8 81 x5,.arr .i8 16 x6,.one [.i .i8 x7]],.cells 91 [.arr .i64 9 x8],.cells 3 [.one [.i .i64 x9]]]) qOO
theorem qil (f:Nat) (x0 x1:Int) (x2 x3:LI) (x4:Int) (x5 x6:LI) (x7:Int) (x8:LI) (x9:Int):qOP (f+1) x0 x1 x2 x3 x4 x5 x6 x7 x8 x9=qVO (qOP f) x0 x1 x2 x3 x4 x5 x6 x7 x8 x9:=by kernel_rfl
theorem qVN:∀ f,qOP f=qKn f
 | 0=>rfl
 | f+1=>by funext x0 x1 x2 x3 x4 x5 x6 x7 x8 x9;rw[qil,qVN f];rfl
def qON (f:Nat) (x0:Int) (x1 x2:LI) (x3:Int) (x4 x5:LI) (x6:Int) (x7:LI):Option (LI×LI×Int×LI×LI×Int):=qf qHF 0 [0,1,2,7] [0,1] (qE Tryz.f22 4) f ([.s (.ptr 0 0 none 0),.s (.ptr 1 0 none 0),.s (.ptr 2 0 none 0),.s (.i .i64 x0)]) ([.cells 28 [.arr .i8 81 x1,.arr .i8 16 x2,.one [.i .i8 x3]],.cells 28 [.arr .i8 81 x4,.arr .i8 16 x5,.one [.i .i8 x6]],.cells 91 [.arr .i64 9 x7]]) qOM
theorem qik (f:Nat) (x0:Int) (x1 x2:LI) (x3:Int) (x4 x5:LI) (x6:Int) (x7:LI):qON (f+1) x0 x1 x2 x3 x4 x5 x6 x7=qVM (qON f) x0 x1 x2 x3 x4 x5 x6 x7:=by kernel_rfl
theorem qVL:∀ f,qON f=qKm f
 | 0=>rfl
 | f+1=>by funext x0 x1 x2 x3 x4 x5 x6 x7;rw[qik,qVL f];rfl
theorem qip:qY Tryz.prog qHF 0 (qE Tryz.f22 7):=
 qg mixed qOL (qN.of (l':=[]) (by kernel_rfl) trivial) (q:=7) (kin:=[0,1,2,3,7,10]) (kout:=[0,1,2,7]) (by kernel_rfl) (by kernel_rfl) fun vs objs K r h=>by
  replace h:qOR vs objs K=some r:=h
  unfold qOR at h
  split at h
  ·skip
   obtain⟨t,h1,h2⟩:=qD h
   rw[<- qVN] at h1
   refine⟨_,qOO,t,qB,h1,fun e vs' objs' hd=>?_⟩
   unfold qOO at hd;split at hd;(cases hd;exact h2);cases hd
  ·cases h
theorem qio:qY Tryz.prog qHF 0 (qE Tryz.f22 4):=
 qg mixed qOL (qN.of (l':=[qE Tryz.f22 7]) (by kernel_rfl) ⟨qip,trivial⟩) (q:=4) (kin:=[0,1,2,7]) (kout:=[0,1]) (by kernel_rfl) (by kernel_rfl) fun vs objs K r h=>by
  replace h:qOQ vs objs K=some r:=h
  unfold qOQ at h
  split at h
  ·skip
   obtain⟨t,h1,h2⟩:=qD h
   rw[<- qVL] at h1
   refine⟨_,qOM,t,qB,h1,fun e vs' objs' hd=>?_⟩
   unfold qOM at hd;split at hd;(cases hd;exact h2);cases hd
  ·cases h
def qVK:V->List Obj->Option (LI×LI×Int):=fun v objs=>match v,objs with
 | .agg [.arr .i8 81 y0,.arr .i8 16 y1,.one [.i .i8 y2]],[]=>some (y0,y1,y2)
 | _,_=>none
theorem qij:fnE qHF Tryz.f22 ([]) ([]) qVK=qOK  := by kernel_rfl
def qVJ:HA:=fun o vs objs K=>match vs,objs with
 | [],[]=>ob (qOK ) fun z=>K false (.agg [.arr .i8 81 (z.1),.arr .i8 16 (z.2.1),.one [.i .i8 (z.2.2)]]) ([])
 | _,_=>o 22 vs objs K
def qVP (o:Orc):Orc:=qK 22 (qVJ o) o
theorem qin:OQ Tryz.prog qVP:=fun _ ho=>qM ho fun vs objs K r h=>by
 unfold qVJ at h
 split at h
 ·skip
  obtain⟨t,h1,h2⟩:=qD h
  refine q7 mixed qOL (fn:=Tryz.f22) (b:=(Tryz.f22).body.getD .skip) (by kernel_rfl) (by kernel_rfl) (by kernel_rfl) ((qij).trans h1) (m:=0) rfl (qN.of (l':=[qE Tryz.f22 4]) (by kernel_rfl) ⟨qio,trivial⟩) fun v objs' hd=>?_
  unfold qVK at hd;split at hd;(cases hd;exact h2);cases hd
 ·exact ho _ _ _ _ _ h
def qaM:Ctx:=mkC 28 (qI) [] qU
theorem qpG:CtxOK Tryz.prog qaM:=mkC_ok (qL)
def qaN:V->List Obj->Option (Int):=fun v objs=>match v,objs with
 | .s (.i .i64 y0),[]=>some (y0)
 | _,_=>none
theorem qpF (x0:Int):fnE qaM Tryz.f60 ([.s (.i .i8 x0)]) ([]) qaN=qAC x0:=by kernel_rfl
def qaL:HA:=fun o vs objs K=>match vs,objs with
 | [.s (.i .i8 x0)],[]=>ob (qAC x0) fun y0=>K false (.s (.i .i64 y0)) ([])
 | _,_=>o 60 vs objs K
def qCv (o:Orc):Orc:=qK 60 (qaL o) o
theorem qDF:OQ Tryz.prog qCv:=fun _ ho=>qM ho fun vs objs K r h=>by
 unfold qaL at h
 split at h
 ·skip
  obtain⟨t,h1,h2⟩:=qD h
  refine qX mixed qpG ((qpF _).trans h1) (by kernel_rfl) fun v objs' hd=>?_
  unfold qaN at hd;split at hd;(cases hd;exact h2);cases hd
 ·exact ho _ _ _ _ _ h
def qaf:Ctx:=mkC 10 ((qCv qI)) [] qU
theorem qpU:CtxOK Tryz.prog qaf:=mkC_ok ((qDF _ qL))
def qag:V->List Obj->Option (Int):=fun v objs=>match v,objs with
 | .s (.i .i64 y0),[]=>some (y0)
 | _,_=>none
theorem qpT (x0:Int):fnE qaf Tryz.f82 ([.s (.i .i8 x0)]) ([]) qag=qAS x0:=by kernel_rfl
def qae:HA:=fun o vs objs K=>match vs,objs with
 | [.s (.i .i8 x0)],[]=>ob (qAS x0) fun y0=>K false (.s (.i .i64 y0)) ([])
 | _,_=>o 82 vs objs K
def qDo (o:Orc):Orc:=qK 82 (qae o) o
theorem qEa:OQ Tryz.prog qDo:=fun _ ho=>qM ho fun vs objs K r h=>by
 unfold qae at h
 split at h
 ·skip
  obtain⟨t,h1,h2⟩:=qD h
  refine qX mixed qpU ((qpT _).trans h1) (by kernel_rfl) fun v objs' hd=>?_
  unfold qag at hd;split at hd;(cases hd;exact h2);cases hd
 ·exact ho _ _ _ _ _ h
def qac:Ctx:=mkC 13 ((qDn qI)) [] qU
theorem qpS:CtxOK Tryz.prog qac:=mkC_ok ((qEZ _ qL))
def qad:V->List Obj->Option (Int):=fun v objs=>match v,objs with
 | .s (.i .i64 y0),[]=>some (y0)
 | _,_=>none
theorem qpR (x0:Int):fnE qac Tryz.f61 ([.s (.i .i64 x0)]) ([]) qad=qCw x0:=by kernel_rfl
def qab:HA:=fun o vs objs K=>match vs,objs with
 | [.s (.i .i64 x0)],[]=>ob (qCw x0) fun y0=>K false (.s (.i .i64 y0)) ([])
 | _,_=>o 61 vs objs K
def qMC (o:Orc):Orc:=qK 61 (qab o) o
theorem qQx:OQ Tryz.prog qMC:=fun _ ho=>qM ho fun vs objs K r h=>by
 unfold qab at h
 split at h
 ·skip
  obtain⟨t,h1,h2⟩:=qD h
  refine qX mixed qpS ((qpR _).trans h1) (by kernel_rfl) fun v objs' hd=>?_
  unfold qad at hd;split at hd;(cases hd;exact h2);cases hd
 ·exact ho _ _ _ _ _ h
def qai:Ctx:=mkC 15 (qI) [] qU
theorem qpW:CtxOK Tryz.prog qai:=mkC_ok (qL)
def qaj:V->List Obj->Option (Int):=fun v objs=>match v,objs with
 | .s (.i .i64 y0),[]=>some (y0)
 | _,_=>none
theorem qpV (x0:Int):fnE qai Tryz.f90 ([.s (.i .i64 x0)]) ([]) qaj=qMD x0:=by kernel_rfl
def qah:HA:=fun o vs objs K=>match vs,objs with
 | [.s (.i .i64 x0)],[]=>ob (qMD x0) fun y0=>K false (.s (.i .i64 y0)) ([])
 | _,_=>o 90 vs objs K
def qak (o:Orc):Orc:=qK 90 (qah o) o
theorem qpX:OQ Tryz.prog qak:=fun _ ho=>qM ho fun vs objs K r h=>by
 unfold qah at h
 split at h
 ·skip
  obtain⟨t,h1,h2⟩:=qD h
  refine qX mixed qpW ((qpV _).trans h1) (by kernel_rfl) fun v objs' hd=>?_
  unfold qaj at hd;split at hd;(cases hd;exact h2);cases hd
 ·exact ho _ _ _ _ _ h
def qet:Ctx:=mkC 5 (qI) [] qU
theorem qtf:CtxOK Tryz.prog qet:=mkC_ok (qL)
def qeu:V->List Obj->Option (Int):=fun v objs=>match v,objs with
 | .s (.i .i64 y0),[]=>some (y0)
 | _,_=>none
theorem qte (x0:Int):fnE qet Tryz.f105 ([.s (.i .i64 x0)]) ([]) qeu=qFz x0:=by kernel_rfl
def qes:HA:=fun o vs objs K=>match vs,objs with
 | [.s (.i .i64 x0)],[]=>ob (qFz x0) fun y0=>K false (.s (.i .i64 y0)) ([])
 | _,_=>o 105 vs objs K
def qMy (o:Orc):Orc:=qK 105 (qes o) o
theorem qSu:OQ Tryz.prog qMy:=fun _ ho=>qM ho fun vs objs K r h=>by
 unfold qes at h
 split at h
 ·skip
  obtain⟨t,h1,h2⟩:=qD h
  refine qX mixed qtf ((qte _).trans h1) (by kernel_rfl) fun v objs' hd=>?_
  unfold qeu at hd;split at hd;(cases hd;exact h2);cases hd
 ·exact ho _ _ _ _ _ h
def qfZ:Ctx:=mkC 23 ((qMy qI)) [] qU
theorem quX:CtxOK Tryz.prog qfZ:=mkC_ok ((qSu _ qL))
def qfa:V->List Obj->Option (Int):=fun v objs=>match v,objs with
 | .s (.i .i64 y0),[]=>some (y0)
 | _,_=>none
theorem quW (x0 x1:Int):fnE qfZ Tryz.f144 ([.s (.i .i64 x0),.s (.i .i64 x1)]) ([]) qfa=qF3 x0 x1:=by kernel_rfl
def qfY:HA:=fun o vs objs K=>match vs,objs with
 | [.s (.i .i64 x0),.s (.i .i64 x1)],[]=>ob (qF3 x0 x1) fun y0=>K false (.s (.i .i64 y0)) ([])
 | _,_=>o 144 vs objs K
def qTE (o:Orc):Orc:=qK 144 (qfY o) o
theorem qfb:OQ Tryz.prog qTE:=fun _ ho=>qM ho fun vs objs K r h=>by
 unfold qfY at h
 split at h
 ·skip
  obtain⟨t,h1,h2⟩:=qD h
  refine qX mixed quX ((quW _ _).trans h1) (by kernel_rfl) fun v objs' hd=>?_
  unfold qfa at hd;split at hd;(cases hd;exact h2);cases hd
 ·exact ho _ _ _ _ _ h
def qfM:Ctx:=mkC 25 ((qCv (qTE (qDo qI)))) [] qU
theorem quM:CtxOK Tryz.prog qfM:=mkC_ok ((qDF _ (qfb _ (qEa _ qL))))
def qfN:V->List Obj->Option (Bool):=fun v objs=>match v,objs with
 | .s (.b y0),[]=>some (y0)
 | _,_=>none
theorem quL (x0 x1:Int):fnE qfM Tryz.f118 ([.s (.i .i8 x0),.s (.i .i64 x1)]) ([]) qfN=qEB x0 x1:=by kernel_rfl
def qfL:HA:=fun o vs objs K=>match vs,objs with
 | [.s (.i .i8 x0),.s (.i .i64 x1)],[]=>ob (qEB x0 x1) fun y0=>K false (.s (.b y0)) ([])
 | _,_=>o 118 vs objs K
def qM9 (o:Orc):Orc:=qK 118 (qfL o) o
theorem qTA:OQ Tryz.prog qM9:=fun _ ho=>qM ho fun vs objs K r h=>by
 unfold qfL at h
 split at h
 ·skip
  obtain⟨t,h1,h2⟩:=qD h
  refine qX mixed quM ((quL _ _).trans h1) (by kernel_rfl) fun v objs' hd=>?_
  unfold qfN at hd;split at hd;(cases hd;exact h2);cases hd
 ·exact ho _ _ _ _ _ h
def qe6:Ctx:=mkC 21 (qI) [] qU
theorem qts:CtxOK Tryz.prog qe6:=mkC_ok (qL)
def qe7:V->List Obj->Option (Int×Int):=fun v objs=>match v,objs with
 | .agg [.one [.i .u64 y0,.i .u64 y1]],[]=>some (y0,y1)
 | _,_=>none
theorem qtr (x0:Int):fnE qe6 Tryz.f142 ([.s (.i .i64 x0)]) ([]) qe7=qF1 x0:=by kernel_rfl
def qe5:HA:=fun o vs objs K=>match vs,objs with
 | [.s (.i .i64 x0)],[]=>ob (qF1 x0) fun z=>K false (.agg [.one [.i .u64 (z.1),.i .u64 (z.2)]]) ([])
 | _,_=>o 142 vs objs K
def qM3 (o:Orc):Orc:=qK 142 (qe5 o) o
theorem qS2:OQ Tryz.prog qM3:=fun _ ho=>qM ho fun vs objs K r h=>by
 unfold qe5 at h
 split at h
 ·skip
  obtain⟨t,h1,h2⟩:=qD h
  refine qX mixed qts ((qtr _).trans h1) (by kernel_rfl) fun v objs' hd=>?_
  unfold qe7 at hd;split at hd;(cases hd;exact h2);cases hd
 ·exact ho _ _ _ _ _ h
def qee:Ctx:=mkC 16 (qI) [] qU
theorem qtT:CtxOK Tryz.prog qee:=mkC_ok (qL)
def qef:V->List Obj->Option (Int×Int):=fun v objs=>match v,objs with
 | .agg [.one [.i .u64 y0,.i .u64 y1]],[]=>some (y0,y1)
 | _,_=>none
theorem qtS (x0 x1:Int) (x2 x3:Int):fnE qee Tryz.f131 ([.agg [.one [.i .u64 x0,.i .u64 x1]],.agg [.one [.i .u64 x2,.i .u64 x3]]]) ([]) qef=qFx x0 x1 x2 x3:=by kernel_rfl
def qed:HA:=fun o vs objs K=>match vs,objs with
 | [.agg [.one [.i .u64 x0,.i .u64 x1]],.agg [.one [.i .u64 x2,.i .u64 x3]]],[]=>ob (qFx x0 x1 x2 x3) fun z=>K false (.agg [.one [.i .u64 (z.1),.i .u64 (z.2)]]) ([])
 | _,_=>o 131 vs objs K
def qMw (o:Orc):Orc:=qK 131 (qed o) o
theorem qSq:OQ Tryz.prog qMw:=fun _ ho=>qM ho fun vs objs K r h=>by
 unfold qed at h
 split at h
 ·skip
  obtain⟨t,h1,h2⟩:=qD h
  refine qX mixed qtT ((qtS _ _ _ _).trans h1) (by kernel_rfl) fun v objs' hd=>?_
  unfold qef at hd;split at hd;(cases hd;exact h2);cases hd
 ·exact ho _ _ _ _ _ h
def qe3:Ctx:=mkC 9 ((qMw (qM3 qI))) [] qU
theorem qtp:CtxOK Tryz.prog qe3:=mkC_ok ((qSq _ (qS2 _ qL)))
def qe4:V->List Obj->Option (Int×Int):=fun v objs=>match v,objs with
 | .agg [.one [.i .u64 y0,.i .u64 y1]],[]=>some (y0,y1)
 | _,_=>none
theorem qto (x0 x1 x2:Int):fnE qe3 Tryz.f114 ([.agg [.one [.i .u64 x0,.i .u64 x1]],.s (.i .i64 x2)]) ([]) qe4=qEn x0 x1 x2:=by kernel_rfl
def qe2:HA:=fun o vs objs K=>match vs,objs with
 | [.agg [.one [.i .u64 x0,.i .u64 x1]],.s (.i .i64 x2)],[]=>ob (qEn x0 x1 x2) fun z=>K false (.agg [.one [.i .u64 (z.1),.i .u64 (z.2)]]) ([])
 | _,_=>o 114 vs objs K
def qJ7 (o:Orc):Orc:=qK 114 (qe2 o) o
theorem qM2:OQ Tryz.prog qJ7:=fun _ ho=>qM ho fun vs objs K r h=>by
 unfold qe2 at h
 split at h
 ·skip
  obtain⟨t,h1,h2⟩:=qD h
  refine qX mixed qtp ((qto _ _ _).trans h1) (by kernel_rfl) fun v objs' hd=>?_
  unfold qe4 at hd;split at hd;(cases hd;exact h2);cases hd
 ·exact ho _ _ _ _ _ h
def qeq:Ctx:=mkC 16 (qI) [] qU
theorem qtd:CtxOK Tryz.prog qeq:=mkC_ok (qL)
def qer:V->List Obj->Option (Int×Int):=fun v objs=>match v,objs with
 | .agg [.one [.i .u64 y0,.i .u64 y1]],[]=>some (y0,y1)
 | _,_=>none
theorem qtc (x0 x1:Int) (x2 x3:Int):fnE qeq Tryz.f127 ([.agg [.one [.i .u64 x0,.i .u64 x1]],.agg [.one [.i .u64 x2,.i .u64 x3]]]) ([]) qer=qD8 x0 x1 x2 x3:=by kernel_rfl
def qep:HA:=fun o vs objs K=>match vs,objs with
 | [.agg [.one [.i .u64 x0,.i .u64 x1]],.agg [.one [.i .u64 x2,.i .u64 x3]]],[]=>ob (qD8 x0 x1 x2 x3) fun z=>K false (.agg [.one [.i .u64 (z.1),.i .u64 (z.2)]]) ([])
 | _,_=>o 127 vs objs K
def qGs (o:Orc):Orc:=qK 127 (qep o) o
theorem qIg:OQ Tryz.prog qGs:=fun _ ho=>qM ho fun vs objs K r h=>by
 unfold qep at h
 split at h
 ·skip
  obtain⟨t,h1,h2⟩:=qD h
  refine qX mixed qtd ((qtc _ _ _ _).trans h1) (by kernel_rfl) fun v objs' hd=>?_
  unfold qer at hd;split at hd;(cases hd;exact h2);cases hd
 ·exact ho _ _ _ _ _ h
def qe0:Ctx:=mkC 9 ((qGs (qM3 qI))) [] qU
theorem qtn:CtxOK Tryz.prog qe0:=mkC_ok ((qIg _ (qS2 _ qL)))
def qe1:V->List Obj->Option (Int×Int):=fun v objs=>match v,objs with
 | .agg [.one [.i .u64 y0,.i .u64 y1]],[]=>some (y0,y1)
 | _,_=>none
theorem qtm (x0 x1 x2:Int):fnE qe0 Tryz.f115 ([.agg [.one [.i .u64 x0,.i .u64 x1]],.s (.i .i64 x2)]) ([]) qe1=qBB x0 x1 x2:=by kernel_rfl
def qez:HA:=fun o vs objs K=>match vs,objs with
 | [.agg [.one [.i .u64 x0,.i .u64 x1]],.s (.i .i64 x2)],[]=>ob (qBB x0 x1 x2) fun z=>K false (.agg [.one [.i .u64 (z.1),.i .u64 (z.2)]]) ([])
 | _,_=>o 115 vs objs K
def qEm (o:Orc):Orc:=qK 115 (qez o) o
theorem qF0:OQ Tryz.prog qEm:=fun _ ho=>qM ho fun vs objs K r h=>by
 unfold qez at h
 split at h
 ·skip
  obtain⟨t,h1,h2⟩:=qD h
  refine qX mixed qtn ((qtm _ _ _).trans h1) (by kernel_rfl) fun v objs' hd=>?_
  unfold qe1 at hd;split at hd;(cases hd;exact h2);cases hd
 ·exact ho _ _ _ _ _ h
def qVD:Ctx:=mkC 90 ((qEm (qCv (qDo (qJ7 qI))))) [] qU
theorem qif:CtxOK Tryz.prog qVD:=mkC_ok ((qF0 _ (qDF _ (qEa _ (qM2 _ qL)))))
def qVE:V->List Obj->Option (LI×LI×Int×LL×LL):=fun v objs=>match v,objs with
 | .tup [],[.cells 72 [.arr .i8 81 y0,.arr .i8 16 y1,.one [.i .i8 y2],.rows [.i .u64,.i .u64] 32 y3,.rows [.i .u64,.i .u64] 2 y4]]=>some (y0,y1,y2,y3,y4)
 | _,_=>none
theorem qie (x0 x1:Int) (x2 x3:LI) (x4:Int) (x5 x6:LL):fnE qVD Tryz.f85 ([.s (.ptr 0 0 none 0),.s (.i .i64 x0),.s (.i .i8 x1)]) ([.cells 72 [.arr .i8 81 x2,.arr .i8 16 x3,.one [.i .i8 x4],.rows [.i .u64,.i .u64] 32 x5,.rows [.i .u64,.i .u64] 2 x6]]) qVE=qGH x0 x1 x2 x3 x4 x5 x6:=by kernel_rfl
def qVC:HA:=fun o vs objs K=>match vs,objs with
 | [.s (.ptr 0 0 none 0),.s (.i .i64 x0),.s (.i .i8 x1)],[.cells 72 [.arr .i8 81 x2,.arr .i8 16 x3,.one [.i .i8 x4],.rows [.i .u64,.i .u64] 32 x5,.rows [.i .u64,.i .u64] 2 x6]]=>ob (qGH x0 x1 x2 x3 x4 x5 x6) fun z=>K false (.tup []) ([.cells 72 [.arr .i8 81 (z.1),.arr .i8 16 (z.2.1),.one [.i .i8 (z.2.2.1)],.rows [.i .u64,.i .u64] 32 (z.2.2.2.1),.rows [.i .u64,.i .u64] 2 (z.2.2.2.2)]])
 | _,_=>o 85 vs objs K
def qKk (o:Orc):Orc:=qK 85 (qVC o) o
theorem qOJ:OQ Tryz.prog qKk:=fun _ ho=>qM ho fun vs objs K r h=>by
 unfold qVC at h
 split at h
 ·skip
  obtain⟨t,h1,h2⟩:=qD h
  refine qX mixed qif ((qie _ _ _ _ _ _ _).trans h1) (by kernel_rfl) fun v objs' hd=>?_
  unfold qVE at hd;split at hd;(cases hd;exact h2);cases hd
 ·exact ho _ _ _ _ _ h
def qOF:Ex->List V->List Obj->Option (LI×LI×Int×LL×LL):=fun e vs objs=>match e,vs,objs with
 | .exit 0,[.s (.ptr 0 0 none 0)],[.cells 72 [.arr .i8 81 y0,.arr .i8 16 y1,.one [.i .i8 y2],.rows [.i .u64,.i .u64] 32 y3,.rows [.i .u64,.i .u64] 2 y4]]=>some (y0,y1,y2,y3,y4)
 | _,_,_=>none
def qOH:HL:=fun vs objs K=>match vs,objs with
 | [.s (.ptr 0 0 none 0),.agg [.arr .i8 81 x0],.s (.i .i64 x1)],[.cells 72 [.arr .i8 81 x2,.arr .i8 16 x3,.one [.i .i8 x4],.rows [.i .u64,.i .u64] 32 x5,.rows [.i .u64,.i .u64] 2 x6]]=>ob (qEK qB x0 x1 x2 x3 x4 x5 x6) fun z=>K (.exit 0) ([.s (.ptr 0 0 none 0)]) ([.cells 72 [.arr .i8 81 (z.1),.arr .i8 16 (z.2.1),.one [.i .i8 (z.2.2.1)],.rows [.i .u64,.i .u64] 32 (z.2.2.2.1),.rows [.i .u64,.i .u64] 2 (z.2.2.2.2)]])
 | _,_=>none
def qiY:{R:Type}->Nat->List V->List Obj->(Ex->List V->List Obj->Option R)->Option R:=fun q vs objs K=>bif Nat.beq q 4 then qOH vs objs K else none
def qKi:Ctx:=mkC 32 ((qKk qI)) [(4,[3,21,22],[3])] qiY
theorem qU2:CtxOK Tryz.prog qKi:=mkC_ok ((qOJ _ qL))
def qOG (f:Nat) (x0:LI) (x1:Int) (x2 x3:LI) (x4:Int) (x5 x6:LL):Option (LI×LI×Int×LL×LL):=qf qKi 0 [3,21,22] [3] (qE Tryz.f42 4) f ([.s (.ptr 0 0 none 0),.agg [.arr .i8 81 x0],.s (.i .i64 x1)]) ([.cells 72 [.arr .i8 81 x2,.arr .i8 16 x3,.one [.i .i8 x4],.rows [.i .u64,.i .u64] 32 x5,.rows [.i .u64,.i .u64] 2 x6]]) qOF
theorem qiX (f:Nat) (x0:LI) (x1:Int) (x2 x3:LI) (x4:Int) (x5 x6:LL):qOG (f+1) x0 x1 x2 x3 x4 x5 x6=qHD (qOG f) x0 x1 x2 x3 x4 x5 x6:=by kernel_rfl
theorem qU4:∀ f,qOG f=qEK f
 | 0=>rfl
 | f+1=>by funext x0 x1 x2 x3 x4 x5 x6;rw[qiX,qU4 f];rfl
theorem qiZ:qY Tryz.prog qKi 0 (qE Tryz.f42 4):=
 qg mixed qU2 (qN.of (l':=[]) (by kernel_rfl) trivial) (q:=4) (kin:=[3,21,22]) (kout:=[3]) (by kernel_rfl) (by kernel_rfl) fun vs objs K r h=>by
  replace h:qOH vs objs K=some r:=h
  unfold qOH at h
  split at h
  ·skip
   obtain⟨t,h1,h2⟩:=qD h
   rw[<- qU4] at h1
   refine⟨_,qOF,t,qB,h1,fun e vs' objs' hd=>?_⟩
   unfold qOF at hd;split at hd;(cases hd;exact h2);cases hd
  ·cases h
def qU3:V->List Obj->Option (LI×LI×Int×LL×LL):=fun v objs=>match v,objs with
 | .s (.ptr 0 0 none 0),[.cells 72 [.arr .i8 81 y0,.arr .i8 16 y1,.one [.i .i8 y2],.rows [.i .u64,.i .u64] 32 y3,.rows [.i .u64,.i .u64] 2 y4]]=>some (y0,y1,y2,y3,y4)
 | _,_=>none
theorem qiW (x0 x1:LI) (x2:Int):fnE qKi Tryz.f42 ([.agg [.arr .i8 81 x0,.arr .i8 16 x1,.one [.i .i8 x2]]]) ([]) qU3=qDY x0 x1 x2:=by kernel_rfl
def qU1:HA:=fun o vs objs K=>match vs,objs with
 | [.agg [.arr .i8 81 x0,.arr .i8 16 x1,.one [.i .i8 x2]]],[]=>ob (qDY x0 x1 x2) fun z=>K false (.s (.ptr 0 0 none 0)) ([.cells 72 [.arr .i8 81 (z.1),.arr .i8 16 (z.2.1),.one [.i .i8 (z.2.2.1)],.rows [.i .u64,.i .u64] 32 (z.2.2.2.1),.rows [.i .u64,.i .u64] 2 (z.2.2.2.2)]])
 | _,_=>o 42 vs objs K
def qI1 (o:Orc):Orc:=qK 42 (qU1 o) o
theorem qKj:OQ Tryz.prog qI1:=fun _ ho=>qM ho fun vs objs K r h=>by
 unfold qU1 at h
 split at h
 ·skip
  obtain⟨t,h1,h2⟩:=qD h
  refine q7 mixed qU2 (fn:=Tryz.f42) (b:=(Tryz.f42).body.getD .skip) (by kernel_rfl) (by kernel_rfl) (by kernel_rfl) ((qiW _ _ _).trans h1) (m:=0) rfl (qN.of (l':=[qE Tryz.f42 4]) (by kernel_rfl) ⟨qiZ,trivial⟩) fun v objs' hd=>?_
  unfold qU3 at hd;split at hd;(cases hd;exact h2);cases hd
 ·exact ho _ _ _ _ _ h
def qU6:Ctx:=mkC 20 ((qDn qI)) [] qU
theorem qib:CtxOK Tryz.prog qU6:=mkC_ok ((qEZ _ qL))
def qU7:V->List Obj->Option (Int×Int):=fun v objs=>match v,objs with
 | .agg [.one [.i .u64 y0,.i .u64 y1]],[]=>some (y0,y1)
 | _,_=>none
theorem qia (x0 x1:Int) (x2 x3:LI) (x4:Int) (x5 x6:LL):fnE qU6 Tryz.f119 ([.s (.ptr 0 0 none 0),.s (.i .i64 x0),.s (.i .i64 x1)]) ([.rcells 72 [.arr .i8 81 x2,.arr .i8 16 x3,.one [.i .i8 x4],.rows [.i .u64,.i .u64] 32 x5,.rows [.i .u64,.i .u64] 2 x6]]) (qAG 1 qU7)=qC5 x0 x1 x2 x3 x4 x5 x6:=by kernel_rfl
def qU5:HA:=fun o vs objs K=>match vs,List.map Obj.toRO objs with
 | [.s (.ptr 0 0 none 0),.s (.i .i64 x0),.s (.i .i64 x1)],[.rcells 72 [.arr .i8 81 x2,.arr .i8 16 x3,.one [.i .i8 x4],.rows [.i .u64,.i .u64] 32 x5,.rows [.i .u64,.i .u64] 2 x6]]=>ob (qC5 x0 x1 x2 x3 x4 x5 x6) fun z=>K true (.agg [.one [.i .u64 (z.1),.i .u64 (z.2)]]) ([])
 | _,_=>o 119 vs objs K
def qGF (o:Orc):Orc:=qK 119 (qU5 o) o
theorem qHE:OQ Tryz.prog qGF:=fun _ ho=>qM ho fun vs objs K r h=>by
 unfold qU5 at h
 split at h
 ·skip
  have hq:List.map Obj.toRO objs=_:=(by rename_i hq;first | exact hq | assumption)
  obtain⟨t,h1,h2⟩:=qD h
  refine qAc mixed qib (m:=1) (fn:=Tryz.f119) (b:=(Tryz.f119).body.getD .skip) (by kernel_rfl) (by kernel_rfl) (by kernel_rfl) hq (by kernel_rfl) (by kernel_rfl) (qN.of (l':=[]) (by kernel_rfl) trivial) ((qia _ _ _ _ _ _ _).trans h1) fun v objs' hd=>?_
  unfold qU7 at hd;split at hd;(cases hd;exact h2);cases hd
 ·exact ho _ _ _ _ _ h
def qSm:Ex->List V->List Obj->Option (Int×Int×Int×Int):=fun e vs objs=>match e,vs,objs with
 | .exit 0,[.s (.ptr 0 0 none 0),.s (.ptr 1 0 none 0)],[.cells 68 [.one [.i .u64 y0,.i .u64 y1]],.cells 68 [.one [.i .u64 y2,.i .u64 y3]]]=>some (y0,y1,y2,y3)
 | _,_,_=>none
def qSp:HL:=fun vs objs K=>match vs,objs with
 | [.s (.i .i64 x0),.s (.ptr 0 0 none 0),.s (.ptr 1 0 none 0),.s (.i .i64 x1)],[.cells 68 [.one [.i .u64 x2,.i .u64 x3]],.cells 68 [.one [.i .u64 x4,.i .u64 x5]]]=>ob (qMv qB x0 x1 x2 x3 x4 x5) fun z=>K (.exit 0) ([.s (.ptr 0 0 none 0),.s (.ptr 1 0 none 0)]) ([.cells 68 [.one [.i .u64 (z.1),.i .u64 (z.2.1)]],.cells 68 [.one [.i .u64 (z.2.2.1),.i .u64 (z.2.2.2)]]])
 | _,_=>none
def qtQ:{R:Type}->Nat->List V->List Obj->(Ex->List V->List Obj->Option R)->Option R:=fun q vs objs K=>bif Nat.beq q 3 then qSp vs objs K else none
def qMu:Ctx:=mkC 15 ((qEm (set_Squareo qI))) [(3,[0,2,3,5],[2,3])] qtQ
theorem qeY:CtxOK Tryz.prog qMu:=mkC_ok ((qF0 _ (set_Squareo_ok _ qL)))
def qSn (f:Nat) (x0 x1:Int) (x2 x3:Int) (x4 x5:Int):Option (Int×Int×Int×Int):=qf qMu 0 [0,2,3,5] [2,3] (qE Tryz.f121 3) f ([.s (.i .i64 x0),.s (.ptr 0 0 none 0),.s (.ptr 1 0 none 0),.s (.i .i64 x1)]) ([.cells 68 [.one [.i .u64 x2,.i .u64 x3]],.cells 68 [.one [.i .u64 x4,.i .u64 x5]]]) qSm
theorem qtP (f:Nat) (x0 x1:Int) (x2 x3:Int) (x4 x5:Int):qSn (f+1) x0 x1 x2 x3 x4 x5=qeb (qSn f) x0 x1 x2 x3 x4 x5:=by kernel_rfl
theorem qea:∀ f,qSn f=qMv f
 | 0=>rfl
 | f+1=>by funext x0 x1 x2 x3 x4 x5;rw[qtP,qea f];rfl
theorem qtR:qY Tryz.prog qMu 0 (qE Tryz.f121 3):=
 qg mixed qeY (qN.of (l':=[]) (by kernel_rfl) trivial) (q:=3) (kin:=[0,2,3,5]) (kout:=[2,3]) (by kernel_rfl) (by kernel_rfl) fun vs objs K r h=>by
  replace h:qSp vs objs K=some r:=h
  unfold qSp at h
  split at h
  ·skip
   obtain⟨t,h1,h2⟩:=qD h
   rw[<- qea] at h1
   refine⟨_,qSm,t,qB,h1,fun e vs' objs' hd=>?_⟩
   unfold qSm at hd;split at hd;(cases hd;exact h2);cases hd
  ·cases h
def qeZ:V->List Obj->Option (Int×Int):=fun v objs=>match v,objs with
 | .agg [.one [.i .u64 y0,.i .u64 y1]],[]=>some (y0,y1)
 | _,_=>none
theorem qtO (x0:Int):fnE qMu Tryz.f121 ([.s (.i .i64 x0)]) ([]) qeZ=qId x0:=by kernel_rfl
def qeX:HA:=fun o vs objs K=>match vs,objs with
 | [.s (.i .i64 x0)],[]=>ob (qId x0) fun z=>K false (.agg [.one [.i .u64 (z.1),.i .u64 (z.2)]]) ([])
 | _,_=>o 121 vs objs K
def qSo (o:Orc):Orc:=qK 121 (qeX o) o
theorem qec:OQ Tryz.prog qSo:=fun _ ho=>qM ho fun vs objs K r h=>by
 unfold qeX at h
 split at h
 ·skip
  obtain⟨t,h1,h2⟩:=qD h
  refine q7 mixed qeY (fn:=Tryz.f121) (b:=(Tryz.f121).body.getD .skip) (by kernel_rfl) (by kernel_rfl) (by kernel_rfl) ((qtO _).trans h1) (m:=0) rfl (qN.of (l':=[qE Tryz.f121 3]) (by kernel_rfl) ⟨qtR,trivial⟩) fun v objs' hd=>?_
  unfold qeZ at hd;split at hd;(cases hd;exact h2);cases hd
 ·exact ho _ _ _ _ _ h
def qeG:Ctx:=mkC 16 (qI) [] qU
theorem qtD:CtxOK Tryz.prog qeG:=mkC_ok (qL)
def qeH:V->List Obj->Option (Int×Int):=fun v objs=>match v,objs with
 | .agg [.one [.i .u64 y0,.i .u64 y1]],[]=>some (y0,y1)
 | _,_=>none
theorem qtC (x0 x1:Int) (x2 x3:Int):fnE qeG Tryz.f120 ([.agg [.one [.i .u64 x0,.i .u64 x1]],.agg [.one [.i .u64 x2,.i .u64 x3]]]) ([]) qeH=qCz x0 x1 x2 x3:=by kernel_rfl
def qeF:HA:=fun o vs objs K=>match vs,objs with
 | [.agg [.one [.i .u64 x0,.i .u64 x1]],.agg [.one [.i .u64 x2,.i .u64 x3]]],[]=>ob (qCz x0 x1 x2 x3) fun z=>K false (.agg [.one [.i .u64 (z.1),.i .u64 (z.2)]]) ([])
 | _,_=>o 120 vs objs K
def qFw (o:Orc):Orc:=qK 120 (qeF o) o
theorem qGn:OQ Tryz.prog qFw:=fun _ ho=>qM ho fun vs objs K r h=>by
 unfold qeF at h
 split at h
 ·skip
  obtain⟨t,h1,h2⟩:=qD h
  refine qX mixed qtD ((qtC _ _ _ _).trans h1) (by kernel_rfl) fun v objs' hd=>?_
  unfold qeH at hd;split at hd;(cases hd;exact h2);cases hd
 ·exact ho _ _ _ _ _ h
def qUc:Ctx:=mkC 35 (qI) [] qU
theorem qh5:CtxOK Tryz.prog qUc:=mkC_ok (qL)
def qUd:V->List Obj->Option (Int):=fun v objs=>match v,objs with
 | .s (.i .i64 y0),[]=>some (y0)
 | _,_=>none
theorem qh4 (x0:Int):fnE qUc Tryz.f145 ([.s (.i .u64 x0)]) ([]) qUd=qGC x0:=by kernel_rfl
def qUb:HA:=fun o vs objs K=>match vs,objs with
 | [.s (.i .u64 x0)],[]=>ob (qGC x0) fun y0=>K false (.s (.i .i64 y0)) ([])
 | _,_=>o 145 vs objs K
def qUe (o:Orc):Orc:=qK 145 (qUb o) o
theorem qh6:OQ Tryz.prog qUe:=fun _ ho=>qM ho fun vs objs K r h=>by
 unfold qUb at h
 split at h
 ·skip
  obtain⟨t,h1,h2⟩:=qD h
  refine qX mixed qh5 ((qh4 _).trans h1) (by kernel_rfl) fun v objs' hd=>?_
  unfold qUd at hd;split at hd;(cases hd;exact h2);cases hd
 ·exact ho _ _ _ _ _ h
def qeJ:Ctx:=mkC 10 ((qUe qI)) [] qU
theorem qtF:CtxOK Tryz.prog qeJ:=mkC_ok ((qh6 _ qL))
def qeK:V->List Obj->Option (Int):=fun v objs=>match v,objs with
 | .s (.i .i64 y0),[]=>some (y0)
 | _,_=>none
theorem qtE (x0 x1:Int):fnE qeJ Tryz.f122 ([.agg [.one [.i .u64 x0,.i .u64 x1]]]) ([]) qeK=qGo x0 x1:=by kernel_rfl
def qeI:HA:=fun o vs objs K=>match vs,objs with
 | [.agg [.one [.i .u64 x0,.i .u64 x1]]],[]=>ob (qGo x0 x1) fun y0=>K false (.s (.i .i64 y0)) ([])
 | _,_=>o 122 vs objs K
def qMr (o:Orc):Orc:=qK 122 (qeI o) o
theorem qSj:OQ Tryz.prog qMr:=fun _ ho=>qM ho fun vs objs K r h=>by
 unfold qeI at h
 split at h
 ·skip
  obtain⟨t,h1,h2⟩:=qD h
  refine qX mixed qtF ((qtE _ _).trans h1) (by kernel_rfl) fun v objs' hd=>?_
  unfold qeK at hd;split at hd;(cases hd;exact h2);cases hd
 ·exact ho _ _ _ _ _ h
def qOU:Ex->List V->List Obj->Option ((Int×LI×LI×Int)⊕(LI×LI×Int)):=fun e vs objs=>match e,vs,objs with
 | .ret,[.s (.ptr 0 0 none 0),.s (.i .i64 y0)],[.cells 28 [.arr .i8 81 y1,.arr .i8 16 y2,.one [.i .i8 y3]]]=>some (.inl (y0,y1,y2,y3))
 | .exit 0,[.s (.ptr 0 0 none 0),.s .bad],[.cells 28 [.arr .i8 81 y0,.arr .i8 16 y1,.one [.i .i8 y2]]]=>some (.inr (y0,y1,y2))
 | _,_,_=>none
def qOS:Ex->List V->List Obj->Option ((Int×Int×LI×LI×Int×LL×LL)⊕(Int×LI×LI×Int×LL×LL)):=fun e vs objs=>match e,vs,objs with
 | .ret,[.s (.i .i64 y0),.s (.ptr 0 0 none 0),.s (.i .i64 y1)],[.cells 72 [.arr .i8 81 y2,.arr .i8 16 y3,.one [.i .i8 y4],.rows [.i .u64,.i .u64] 32 y5,.rows [.i .u64,.i .u64] 2 y6]]=>some (.inl (y0,y1,y2,y3,y4,y5,y6))
 | .exit 4,[.s .bad,.s (.ptr 0 0 none 0),.s (.i .i64 y0)],[.cells 72 [.arr .i8 81 y1,.arr .i8 16 y2,.one [.i .i8 y3],.rows [.i .u64,.i .u64] 32 y4,.rows [.i .u64,.i .u64] 2 y5]]=>some (.inr (y0,y1,y2,y3,y4,y5))
 | _,_,_=>none
def qOW:Ex->List V->List Obj->Option ((Int)⊕(Unit)):=fun e vs objs=>match e,vs,objs with
 | .ret,[.s (.i .i64 y0)],[]=>some (.inl (y0))
 | .exit 2,[.s .bad],[]=>some (.inr ())
 | _,_,_=>none
def qOZ:HL:=fun vs objs K=>match vs,objs with
 | [.s (.ptr 0 0 none 0),.agg [.arr .i8 81 x0],.s (.i .i64 x1)],[.cells 28 [.arr .i8 81 x2,.arr .i8 16 x3,.one [.i .i8 x4]]]=>ob (qFA qB x0 x1 x2 x3 x4) fun t0=>sw t0 (fun z=>K (.ret) ([.s (.ptr 0 0 none 0),.s (.i .i64 (z.1))]) ([.cells 28 [.arr .i8 81 (z.2.1),.arr .i8 16 (z.2.2.1),.one [.i .i8 (z.2.2.2)]]])) (fun z=>K (.exit 0) ([.s (.ptr 0 0 none 0),.s .bad]) ([.cells 28 [.arr .i8 81 (z.1),.arr .i8 16 (z.2.1),.one [.i .i8 (z.2.2)]]]))
 | _,_=>none
def qOY:HL:=fun vs objs K=>match vs,objs with
 | [.s (.ptr 0 0 none 0),.s (.i .i64 x0),.s (.i .i64 x1),.s (.i .i64 x2)],[.cells 72 [.arr .i8 81 x3,.arr .i8 16 x4,.one [.i .i8 x5],.rows [.i .u64,.i .u64] 32 x6,.rows [.i .u64,.i .u64] 2 x7]]=>ob (qE8 qB x0 x1 x2 x3 x4 x5 x6 x7) fun t0=>sw t0 (fun z=>K (.ret) ([.s (.i .i64 (z.1)),.s (.ptr 0 0 none 0),.s (.i .i64 (z.2.1))]) ([.cells 72 [.arr .i8 81 (z.2.2.1),.arr .i8 16 (z.2.2.2.1),.one [.i .i8 (z.2.2.2.2.1)],.rows [.i .u64,.i .u64] 32 (z.2.2.2.2.2.1),.rows [.i .u64,.i .u64] 2 (z.2.2.2.2.2.2)]])) (fun z=>K (.exit 4) ([.s .bad,.s (.ptr 0 0 none 0),.s (.i .i64 (z.1))]) ([.cells 72 [.arr .i8 81 (z.2.1),.arr .i8 16 (z.2.2.1),.one [.i .i8 (z.2.2.2.1)],.rows [.i .u64,.i .u64] 32 (z.2.2.2.2.1),.rows [.i .u64,.i .u64] 2 (z.2.2.2.2.2)]]))
 | _,_=>none
def qOa:HL:=fun vs objs K=>match vs,objs with
 | [.s (.ptr 0 0 none 0),.s (.i .i64 x0)],[.cells 72 [.arr .i8 81 x1,.arr .i8 16 x2,.one [.i .i8 x3],.rows [.i .u64,.i .u64] 32 x4,.rows [.i .u64,.i .u64] 2 x5]]=>ob (qFB qB x0 x1 x2 x3 x4 x5) fun t0=>sw t0 (fun y0=>K (.ret) ([.s (.i .i64 y0)]) ([])) (fun _=>K (.exit 2) ([.s .bad]) ([]))
 | _,_=>none
def qiw:{R:Type}->Nat->List V->List Obj->(Ex->List V->List Obj->Option R)->Option R:=fun q vs objs K=>bif Nat.beq q 2 then qOZ vs objs K else bif Nat.beq q 12 then qOY vs objs K else bif Nat.beq q 9 then qOa vs objs K else none
def qE7:Ctx:=mkC 36 ((qMr (qFw (qSo (qGF (qI1 (qM9 qI))))))) [(2,[1,9,10],[1,2]),(9,[5,20],[2]),(12,[5,6,20,23],[2,5,20])] qiw
theorem qKo:CtxOK Tryz.prog qE7:=mkC_ok ((qSj _ (qGn _ (qec _ (qHE _ (qKj _ (qTA _ qL)))))))
def qOV (f:Nat) (x0:LI) (x1:Int) (x2 x3:LI) (x4:Int):Option ((Int×LI×LI×Int)⊕(LI×LI×Int)):=qf qE7 0 [1,9,10] [1,2] (qE Tryz.f91 2) f ([.s (.ptr 0 0 none 0),.agg [.arr .i8 81 x0],.s (.i .i64 x1)]) ([.cells 28 [.arr .i8 81 x2,.arr .i8 16 x3,.one [.i .i8 x4]]]) qOU
theorem qiu (f:Nat) (x0:LI) (x1:Int) (x2 x3:LI) (x4:Int):qOV (f+1) x0 x1 x2 x3 x4=qHH (qOV f) x0 x1 x2 x3 x4:=by kernel_rfl
theorem qVX:∀ f,qOV f=qFA f
 | 0=>rfl
 | f+1=>by funext x0 x1 x2 x3 x4;rw[qiu,qVX f];rfl
def qOT (f:Nat) (x0 x1 x2:Int) (x3 x4:LI) (x5:Int) (x6 x7:LL):Option ((Int×Int×LI×LI×Int×LL×LL)⊕(Int×LI×LI×Int×LL×LL)):=qf qE7 0 [5,6,20,23] [2,5,20] (qE Tryz.f91 12) f ([.s (.ptr 0 0 none 0),.s (.i .i64 x0),.s (.i .i64 x1),.s (.i .i64 x2)]) ([.cells 72 [.arr .i8 81 x3,.arr .i8 16 x4,.one [.i .i8 x5],.rows [.i .u64,.i .u64] 32 x6,.rows [.i .u64,.i .u64] 2 x7]]) qOS
theorem qit (f:Nat) (x0 x1 x2:Int) (x3 x4:LI) (x5:Int) (x6 x7:LL):qOT (f+1) x0 x1 x2 x3 x4 x5 x6 x7=qE9 (qOT f) x0 x1 x2 x3 x4 x5 x6 x7:=by kernel_rfl
theorem qVW:∀ f,qOT f=qE8 f
 | 0=>rfl
 | f+1=>by funext x0 x1 x2 x3 x4 x5 x6 x7;rw[qit,qVW f];rfl
def qOX (f:Nat) (x0:Int) (x1 x2:LI) (x3:Int) (x4 x5:LL):Option ((Int)⊕(Unit)):=qf qE7 0 [5,20] [2] (qE Tryz.f91 9) f ([.s (.ptr 0 0 none 0),.s (.i .i64 x0)]) ([.cells 72 [.arr .i8 81 x1,.arr .i8 16 x2,.one [.i .i8 x3],.rows [.i .u64,.i .u64] 32 x4,.rows [.i .u64,.i .u64] 2 x5]]) qOW
theorem qiv (f:Nat) (x0:Int) (x1 x2:LI) (x3:Int) (x4 x5:LL):qOX (f+1) x0 x1 x2 x3 x4 x5=qHI (qOX f) x0 x1 x2 x3 x4 x5:=by kernel_rfl
theorem qVY:∀ f,qOX f=qFB f
 | 0=>rfl
 | f+1=>by funext x0 x1 x2 x3 x4 x5;rw[qiv,qVY f];rfl
theorem qiz:qY Tryz.prog qE7 0 (qE Tryz.f91 2):=
 qg mixed qKo (qN.of (l':=[]) (by kernel_rfl) trivial) (q:=2) (kin:=[1,9,10]) (kout:=[1,2]) (by kernel_rfl) (by kernel_rfl) fun vs objs K r h=>by
  replace h:qOZ vs objs K=some r:=h
  unfold qOZ at h
  split at h
  ·skip
   obtain⟨t,h1,h2⟩:=qD h
   rw[<- qVX] at h1
   refine⟨_,qOU,t,qB,h1,fun e vs' objs' hd=>?_⟩
   unfold qOU at hd
   split at hd
   ·skip
    cases hd
    exact h2
   ·skip
    cases hd
    exact h2
   ·cases hd
  ·cases h
theorem qiy:qY Tryz.prog qE7 0 (qE Tryz.f91 12):=
 qg mixed qKo (qN.of (l':=[]) (by kernel_rfl) trivial) (q:=12) (kin:=[5,6,20,23]) (kout:=[2,5,20]) (by kernel_rfl) (by kernel_rfl) fun vs objs K r h=>by
  replace h:qOY vs objs K=some r:=h
  unfold qOY at h
  split at h
  ·skip
   obtain⟨t,h1,h2⟩:=qD h
   rw[<- qVW] at h1
   refine⟨_,qOS,t,qB,h1,fun e vs' objs' hd=>?_⟩
   unfold qOS at hd
   split at hd
   ·skip
    cases hd
    exact h2
   ·skip
    cases hd
    exact h2
   ·cases hd
  ·cases h
theorem qi0:qY Tryz.prog qE7 0 (qE Tryz.f91 9):=
 qg mixed qKo (qN.of (l':=[qE Tryz.f91 12]) (by kernel_rfl) ⟨qiy,trivial⟩) (q:=9) (kin:=[5,20]) (kout:=[2]) (by kernel_rfl) (by kernel_rfl) fun vs objs K r h=>by
  replace h:qOa vs objs K=some r:=h
  unfold qOa at h
  split at h
  ·skip
   obtain⟨t,h1,h2⟩:=qD h
   rw[<- qVY] at h1
   refine⟨_,qOW,t,qB,h1,fun e vs' objs' hd=>?_⟩
   unfold qOW at hd
   split at hd
   ·skip
    cases hd
    exact h2
   ·skip
    cases hd
    exact h2
   ·cases hd
  ·cases h
def qVV:V->List Obj->Option (Int):=fun v objs=>match v,objs with
 | .s (.i .i64 y0),[]=>some (y0)
 | _,_=>none
theorem qis (x0 x1:LI) (x2:Int):fnE qE7 Tryz.f91 ([.agg [.arr .i8 81 x0,.arr .i8 16 x1,.one [.i .i8 x2]]]) ([]) qVV=qGI x0 x1 x2:=by kernel_rfl
def qVU:HA:=fun o vs objs K=>match vs,objs with
 | [.agg [.arr .i8 81 x0,.arr .i8 16 x1,.one [.i .i8 x2]]],[]=>ob (qGI x0 x1 x2) fun y0=>K false (.s (.i .i64 y0)) ([])
 | _,_=>o 91 vs objs K
def qVZ (o:Orc):Orc:=qK 91 (qVU o) o
theorem qix:OQ Tryz.prog qVZ:=fun _ ho=>qM ho fun vs objs K r h=>by
 unfold qVU at h
 split at h
 ·skip
  obtain⟨t,h1,h2⟩:=qD h
  refine q7 mixed qKo (fn:=Tryz.f91) (b:=(Tryz.f91).body.getD .skip) (by kernel_rfl) (by kernel_rfl) (by kernel_rfl) ((qis _ _ _).trans h1) (m:=0) rfl (qN.of (l':=[qE Tryz.f91 2,qE Tryz.f91 9]) (by kernel_rfl) ⟨qiz,qi0,trivial⟩) fun v objs' hd=>?_
  unfold qVV at hd;split at hd;(cases hd;exact h2);cases hd
 ·exact ho _ _ _ _ _ h
def qN7:Ex->List V->List Obj->Option ((Int×LI×LI×Int×LI×LI)⊕(LI×LI×Int×LI×LI)):=fun e vs objs=>match e,vs,objs with
 | .ret,[.s (.ptr 0 0 none 0),.s (.i .i64 y0),.s (.ptr 1 0 none 0),.s (.ptr 2 0 none 0)],[.cells 28 [.arr .i8 81 y1,.arr .i8 16 y2,.one [.i .i8 y3]],.cells 91 [.arr .i64 9 y4],.cells 124 [.arr .i64 2 y5]]=>some (.inl (y0,y1,y2,y3,y4,y5))
 | .exit 0,[.s (.ptr 0 0 none 0),.s .bad,.s (.ptr 1 0 none 0),.s (.ptr 2 0 none 0)],[.cells 28 [.arr .i8 81 y0,.arr .i8 16 y1,.one [.i .i8 y2]],.cells 91 [.arr .i64 9 y3],.cells 124 [.arr .i64 2 y4]]=>some (.inr (y0,y1,y2,y3,y4))
 | _,_,_=>none
def qN3:Ex->List V->List Obj->Option ((Int×LI×Int×LI×LI×Int×LI×LI)⊕(LI×Int×LI×LI×Int×LI×LI)):=fun e vs objs=>match e,vs,objs with
 | .ret,[.s (.ptr 0 0 none 0),.s (.i .i64 y0),.s (.ptr 1 0 none 0),.s (.ptr 2 0 none 0),.agg [.arr .i8 16 y1],.s (.i .i64 y2)],[.cells 28 [.arr .i8 81 y3,.arr .i8 16 y4,.one [.i .i8 y5]],.cells 91 [.arr .i64 9 y6],.cells 124 [.arr .i64 2 y7]]=>some (.inl (y0,y1,y2,y3,y4,y5,y6,y7))
 | .exit 9,[.s (.ptr 0 0 none 0),.s .bad,.s (.ptr 1 0 none 0),.s (.ptr 2 0 none 0),.agg [.arr .i8 16 y0],.s (.i .i64 y1)],[.cells 28 [.arr .i8 81 y2,.arr .i8 16 y3,.one [.i .i8 y4]],.cells 91 [.arr .i64 9 y5],.cells 124 [.arr .i64 2 y6]]=>some (.inr (y0,y1,y2,y3,y4,y5,y6))
 | _,_,_=>none
def qN1:Ex->List V->List Obj->Option ((Int×LI×LI×Int×LI×LI)⊕(LI×LI×Int×LI×LI)):=fun e vs objs=>match e,vs,objs with
 | .ret,[.s (.ptr 0 0 none 0),.s (.i .i64 y0),.s (.ptr 1 0 none 0),.s (.ptr 2 0 none 0)],[.cells 28 [.arr .i8 81 y1,.arr .i8 16 y2,.one [.i .i8 y3]],.cells 91 [.arr .i64 9 y4],.cells 124 [.arr .i64 2 y5]]=>some (.inl (y0,y1,y2,y3,y4,y5))
 | .exit 7,[.s (.ptr 0 0 none 0),.s .bad,.s (.ptr 1 0 none 0),.s (.ptr 2 0 none 0)],[.cells 28 [.arr .i8 81 y0,.arr .i8 16 y1,.one [.i .i8 y2]],.cells 91 [.arr .i64 9 y3],.cells 124 [.arr .i64 2 y4]]=>some (.inr (y0,y1,y2,y3,y4))
 | _,_,_=>none
def qN5:Ex->List V->List Obj->Option ((Int×LI×LI×Int)⊕(LI×LI×Int)):=fun e vs objs=>match e,vs,objs with
 | .ret,[.s (.ptr 0 0 none 0),.s (.i .i64 y0)],[.cells 28 [.arr .i8 81 y1,.arr .i8 16 y2,.one [.i .i8 y3]]]=>some (.inl (y0,y1,y2,y3))
 | .exit 11,[.s (.ptr 0 0 none 0),.s .bad],[.cells 28 [.arr .i8 81 y0,.arr .i8 16 y1,.one [.i .i8 y2]]]=>some (.inr (y0,y1,y2))
 | _,_,_=>none
def qOC:HL:=fun vs objs K=>match vs,objs with
 | [.s (.ptr 0 0 none 0),.s (.ptr 1 0 none 0),.s (.ptr 2 0 none 0),.agg [.arr .i8 81 x0],.s (.i .i64 x1)],[.cells 28 [.arr .i8 81 x2,.arr .i8 16 x3,.one [.i .i8 x4]],.cells 91 [.arr .i64 9 x5],.cells 124 [.arr .i64 2 x6]]=>ob (qCP qB x0 x1 x2 x3 x4 x5 x6) fun t0=>sw t0 (fun z=>K (.ret) ([.s (.ptr 0 0 none 0),.s (.i .i64 (z.1)),.s (.ptr 1 0 none 0),.s (.ptr 2 0 none 0)]) ([.cells 28 [.arr .i8 81 (z.2.1),.arr .i8 16 (z.2.2.1),.one [.i .i8 (z.2.2.2.1)]],.cells 91 [.arr .i64 9 (z.2.2.2.2.1)],.cells 124 [.arr .i64 2 (z.2.2.2.2.2)]])) (fun z=>K (.exit 0) ([.s (.ptr 0 0 none 0),.s .bad,.s (.ptr 1 0 none 0),.s (.ptr 2 0 none 0)]) ([.cells 28 [.arr .i8 81 (z.1),.arr .i8 16 (z.2.1),.one [.i .i8 (z.2.2.1)]],.cells 91 [.arr .i64 9 (z.2.2.2.1)],.cells 124 [.arr .i64 2 (z.2.2.2.2)]]))
 | _,_=>none
def qOA:HL:=fun vs objs K=>match vs,objs with
 | [.s (.ptr 0 0 none 0),.s (.ptr 1 0 none 0),.s (.ptr 2 0 none 0),.agg [.arr .i8 16 x0],.s (.i .i64 x1),.agg [.arr .i8 8 x2],.s (.i .i64 x3)],[.cells 28 [.arr .i8 81 x4,.arr .i8 16 x5,.one [.i .i8 x6]],.cells 91 [.arr .i64 9 x7],.cells 124 [.arr .i64 2 x8]]=>ob (qC4 qB x0 x1 x2 x3 x4 x5 x6 x7 x8) fun t0=>sw t0 (fun z=>K (.ret) ([.s (.ptr 0 0 none 0),.s (.i .i64 (z.1)),.s (.ptr 1 0 none 0),.s (.ptr 2 0 none 0),.agg [.arr .i8 16 (z.2.1)],.s (.i .i64 (z.2.2.1))]) ([.cells 28 [.arr .i8 81 (z.2.2.2.1),.arr .i8 16 (z.2.2.2.2.1),.one [.i .i8 (z.2.2.2.2.2.1)]],.cells 91 [.arr .i64 9 (z.2.2.2.2.2.2.1)],.cells 124 [.arr .i64 2 (z.2.2.2.2.2.2.2)]])) (fun z=>K (.exit 9) ([.s (.ptr 0 0 none 0),.s .bad,.s (.ptr 1 0 none 0),.s (.ptr 2 0 none 0),.agg [.arr .i8 16 (z.1)],.s (.i .i64 (z.2.1))]) ([.cells 28 [.arr .i8 81 (z.2.2.1),.arr .i8 16 (z.2.2.2.1),.one [.i .i8 (z.2.2.2.2.1)]],.cells 91 [.arr .i64 9 (z.2.2.2.2.2.1)],.cells 124 [.arr .i64 2 (z.2.2.2.2.2.2)]]))
 | _,_=>none
def qN9:HL:=fun vs objs K=>match vs,objs with
 | [.s (.ptr 0 0 none 0),.s (.ptr 1 0 none 0),.s (.ptr 2 0 none 0),.agg [.arr .i8 16 x0],.s (.i .i64 x1)],[.cells 28 [.arr .i8 81 x2,.arr .i8 16 x3,.one [.i .i8 x4]],.cells 91 [.arr .i64 9 x5],.cells 124 [.arr .i64 2 x6]]=>ob (qCh qB x0 x1 x2 x3 x4 x5 x6) fun t0=>sw t0 (fun z=>K (.ret) ([.s (.ptr 0 0 none 0),.s (.i .i64 (z.1)),.s (.ptr 1 0 none 0),.s (.ptr 2 0 none 0)]) ([.cells 28 [.arr .i8 81 (z.2.1),.arr .i8 16 (z.2.2.1),.one [.i .i8 (z.2.2.2.1)]],.cells 91 [.arr .i64 9 (z.2.2.2.2.1)],.cells 124 [.arr .i64 2 (z.2.2.2.2.2)]])) (fun z=>K (.exit 7) ([.s (.ptr 0 0 none 0),.s .bad,.s (.ptr 1 0 none 0),.s (.ptr 2 0 none 0)]) ([.cells 28 [.arr .i8 81 (z.1),.arr .i8 16 (z.2.1),.one [.i .i8 (z.2.2.1)]],.cells 91 [.arr .i64 9 (z.2.2.2.1)],.cells 124 [.arr .i64 2 (z.2.2.2.2)]]))
 | _,_=>none
def qOB:HL:=fun vs objs K=>match vs,objs with
 | [.s (.ptr 0 0 none 0),.s (.ptr 1 0 none 0),.s (.i .i64 x0)],[.cells 28 [.arr .i8 81 x1,.arr .i8 16 x2,.one [.i .i8 x3]],.cells 91 [.arr .i64 9 x4]]=>ob (qDX qB x0 x1 x2 x3 x4) fun t0=>sw t0 (fun z=>K (.ret) ([.s (.ptr 0 0 none 0),.s (.i .i64 (z.1))]) ([.cells 28 [.arr .i8 81 (z.2.1),.arr .i8 16 (z.2.2.1),.one [.i .i8 (z.2.2.2)]]])) (fun z=>K (.exit 11) ([.s (.ptr 0 0 none 0),.s .bad]) ([.cells 28 [.arr .i8 81 (z.1),.arr .i8 16 (z.2.1),.one [.i .i8 (z.2.2)]]]))
 | _,_=>none
def qiJ:{R:Type}->Nat->List V->List Obj->(Ex->List V->List Obj->Option R)->Option R:=fun q vs objs K=>bif Nat.beq q 6 then qOC vs objs K else bif Nat.beq q 20 then qOA vs objs K else bif Nat.beq q 17 then qN9 vs objs K else bif Nat.beq q 30 then qOB vs objs K else none
def qDV:Ctx:=mkC 98 ((qVZ (qak (qMC (qDo (qCv qI)))))) [(6,[1,3,4,22,23],[1,2,3,4]),(17,[1,3,4,51,52],[1,2,3,4]),(20,[1,3,4,51,52,55,56],[1,2,3,4,51,52]),(30,[1,3,12],[1,2])] qiJ
theorem qI0:CtxOK Tryz.prog qDV:=mkC_ok ((qix _ (qpX _ (qQx _ (qEa _ (qDF _ qL))))))
def qN8 (f:Nat) (x0:LI) (x1:Int) (x2 x3:LI) (x4:Int) (x5 x6:LI):Option ((Int×LI×LI×Int×LI×LI)⊕(LI×LI×Int×LI×LI)):=qf qDV 0 [1,3,4,22,23] [1,2,3,4] (qE Tryz.f52 6) f ([.s (.ptr 0 0 none 0),.s (.ptr 1 0 none 0),.s (.ptr 2 0 none 0),.agg [.arr .i8 81 x0],.s (.i .i64 x1)]) ([.cells 28 [.arr .i8 81 x2,.arr .i8 16 x3,.one [.i .i8 x4]],.cells 91 [.arr .i64 9 x5],.cells 124 [.arr .i64 2 x6]]) qN7
theorem qiI (f:Nat) (x0:LI) (x1:Int) (x2 x3:LI) (x4:Int) (x5 x6:LI):qN8 (f+1) x0 x1 x2 x3 x4 x5 x6=qE6 (qN8 f) x0 x1 x2 x3 x4 x5 x6:=by kernel_rfl
theorem qUp:∀ f,qN8 f=qCP f
 | 0=>rfl
 | f+1=>by funext x0 x1 x2 x3 x4 x5 x6;rw[qiI,qUp f];rfl
def qN4 (f:Nat) (x0:LI) (x1:Int) (x2:LI) (x3:Int) (x4 x5:LI) (x6:Int) (x7 x8:LI):Option ((Int×LI×Int×LI×LI×Int×LI×LI)⊕(LI×Int×LI×LI×Int×LI×LI)):=qf qDV 0 [1,3,4,51,52,55,56] [1,2,3,4,51,52] (qE Tryz.f52 20) f ([.s (.ptr 0 0 none 0),.s (.ptr 1 0 none 0),.s (.ptr 2 0 none 0),.agg [.arr .i8 16 x0],.s (.i .i64 x1),.agg [.arr .i8 8 x2],.s (.i .i64 x3)]) ([.cells 28 [.arr .i8 81 x4,.arr .i8 16 x5,.one [.i .i8 x6]],.cells 91 [.arr .i64 9 x7],.cells 124 [.arr .i64 2 x8]]) qN3
theorem qiG (f:Nat) (x0:LI) (x1:Int) (x2:LI) (x3:Int) (x4 x5:LI) (x6:Int) (x7 x8:LI):qN4 (f+1) x0 x1 x2 x3 x4 x5 x6 x7 x8=qE5 (qN4 f) x0 x1 x2 x3 x4 x5 x6 x7 x8:=by kernel_rfl
theorem qUn:∀ f,qN4 f=qC4 f
 | 0=>rfl
 | f+1=>by funext x0 x1 x2 x3 x4 x5 x6 x7 x8;rw[qiG,qUn f];rfl
def qN2 (f:Nat) (x0:LI) (x1:Int) (x2 x3:LI) (x4:Int) (x5 x6:LI):Option ((Int×LI×LI×Int×LI×LI)⊕(LI×LI×Int×LI×LI)):=qf qDV 0 [1,3,4,51,52] [1,2,3,4] (qE Tryz.f52 17) f ([.s (.ptr 0 0 none 0),.s (.ptr 1 0 none 0),.s (.ptr 2 0 none 0),.agg [.arr .i8 16 x0],.s (.i .i64 x1)]) ([.cells 28 [.arr .i8 81 x2,.arr .i8 16 x3,.one [.i .i8 x4]],.cells 91 [.arr .i64 9 x5],.cells 124 [.arr .i64 2 x6]]) qN1
theorem qiF (f:Nat) (x0:LI) (x1:Int) (x2 x3:LI) (x4:Int) (x5 x6:LI):qN2 (f+1) x0 x1 x2 x3 x4 x5 x6=qDW (qN2 f) x0 x1 x2 x3 x4 x5 x6:=by kernel_rfl
theorem qUm:∀ f,qN2 f=qCh f
 | 0=>rfl
 | f+1=>by funext x0 x1 x2 x3 x4 x5 x6;rw[qiF,qUm f];rfl
def qN6 (f:Nat) (x0:Int) (x1 x2:LI) (x3:Int) (x4:LI):Option ((Int×LI×LI×Int)⊕(LI×LI×Int)):=qf qDV 0 [1,3,12] [1,2] (qE Tryz.f52 30) f ([.s (.ptr 0 0 none 0),.s (.ptr 1 0 none 0),.s (.i .i64 x0)]) ([.cells 28 [.arr .i8 81 x1,.arr .i8 16 x2,.one [.i .i8 x3]],.cells 91 [.arr .i64 9 x4]]) qN5
theorem qiH (f:Nat) (x0:Int) (x1 x2:LI) (x3:Int) (x4:LI):qN6 (f+1) x0 x1 x2 x3 x4=qHC (qN6 f) x0 x1 x2 x3 x4:=by kernel_rfl
theorem qUo:∀ f,qN6 f=qDX f
 | 0=>rfl
 | f+1=>by funext x0 x1 x2 x3 x4;rw[qiH,qUo f];rfl
theorem qiO:qY Tryz.prog qDV 0 (qE Tryz.f52 6):=
 qg mixed qI0 (qN.of (l':=[]) (by kernel_rfl) trivial) (q:=6) (kin:=[1,3,4,22,23]) (kout:=[1,2,3,4]) (by kernel_rfl) (by kernel_rfl) fun vs objs K r h=>by
  replace h:qOC vs objs K=some r:=h
  unfold qOC at h
  split at h
  ·skip
   obtain⟨t,h1,h2⟩:=qD h
   rw[<- qUp] at h1
   refine⟨_,qN7,t,qB,h1,fun e vs' objs' hd=>?_⟩
   unfold qN7 at hd
   split at hd
   ·skip
    cases hd
    exact h2
   ·skip
    cases hd
    exact h2
   ·cases hd
  ·cases h
theorem qiM:qY Tryz.prog qDV 0 (qE Tryz.f52 20):=
 qg mixed qI0 (qN.of (l':=[]) (by kernel_rfl) trivial) (q:=20) (kin:=[1,3,4,51,52,55,56]) (kout:=[1,2,3,4,51,52]) (by kernel_rfl) (by kernel_rfl) fun vs objs K r h=>by
  replace h:qOA vs objs K=some r:=h
  unfold qOA at h
  split at h
  ·skip
   obtain⟨t,h1,h2⟩:=qD h
   rw[<- qUn] at h1
   refine⟨_,qN3,t,qB,h1,fun e vs' objs' hd=>?_⟩
   unfold qN3 at hd
   split at hd
   ·skip
    cases hd
    exact h2
   ·skip
    cases hd
    exact h2
   ·cases hd
  ·cases h
theorem qiN:qY Tryz.prog qDV 0 (qE Tryz.f52 30):=
 qg mixed qI0 (qN.of (l':=[]) (by kernel_rfl) trivial) (q:=30) (kin:=[1,3,12]) (kout:=[1,2]) (by kernel_rfl) (by kernel_rfl) fun vs objs K r h=>by
  replace h:qOB vs objs K=some r:=h
  unfold qOB at h
  split at h
  ·skip
   obtain⟨t,h1,h2⟩:=qD h
   rw[<- qUo] at h1
   refine⟨_,qN5,t,qB,h1,fun e vs' objs' hd=>?_⟩
   unfold qN5 at hd
   split at hd
   ·skip
    cases hd
    exact h2
   ·skip
    cases hd
    exact h2
   ·cases hd
  ·cases h
theorem qiL:qY Tryz.prog qDV 0 (qE Tryz.f52 17):=
 qg mixed qI0 (qN.of (l':=[qE Tryz.f52 20]) (by kernel_rfl) ⟨qiM,trivial⟩) (q:=17) (kin:=[1,3,4,51,52]) (kout:=[1,2,3,4]) (by kernel_rfl) (by kernel_rfl) fun vs objs K r h=>by
  replace h:qN9 vs objs K=some r:=h
  unfold qN9 at h
  split at h
  ·skip
   obtain⟨t,h1,h2⟩:=qD h
   rw[<- qUm] at h1
   refine⟨_,qN1,t,qB,h1,fun e vs' objs' hd=>?_⟩
   unfold qN1 at hd
   split at hd
   ·skip
    cases hd
    exact h2
   ·skip
    cases hd
    exact h2
   ·cases hd
  ·cases h
def qUl:V->List Obj->Option (Int):=fun v objs=>match v,objs with
 | .s (.i .i64 y0),[]=>some (y0)
 | _,_=>none
theorem qiE (x0 x1:LI) (x2:Int):fnE qDV Tryz.f52 ([.agg [.arr .i8 81 x0,.arr .i8 16 x1,.one [.i .i8 x2]]]) ([]) qUl=qIz x0 x1 x2:=by kernel_rfl
def qUk:HA:=fun o vs objs K=>match vs,objs with
 | [.agg [.arr .i8 81 x0,.arr .i8 16 x1,.one [.i .i8 x2]]],[]=>ob (qIz x0 x1 x2) fun y0=>K false (.s (.i .i64 y0)) ([])
 | _,_=>o 52 vs objs K
def qUq (o:Orc):Orc:=qK 52 (qUk o) o
theorem qiK:OQ Tryz.prog qUq:=fun _ ho=>qM ho fun vs objs K r h=>by
 unfold qUk at h
 split at h
 ·skip
  obtain⟨t,h1,h2⟩:=qD h
  refine q7 mixed qI0 (fn:=Tryz.f52) (b:=(Tryz.f52).body.getD .skip) (by kernel_rfl) (by kernel_rfl) (by kernel_rfl) ((qiE _ _ _).trans h1) (m:=0) rfl (qN.of (l':=[qE Tryz.f52 6,qE Tryz.f52 17,qE Tryz.f52 30]) (by kernel_rfl) ⟨qiO,qiL,qiN,trivial⟩) fun v objs' hd=>?_
  unfold qUl at hd;split at hd;(cases hd;exact h2);cases hd
 ·exact ho _ _ _ _ _ h
def qNx:Ctx:=mkC 14 (qI) [] qU
theorem qh9:CtxOK Tryz.prog qNx:=mkC_ok (qL)
def qNy:V->List Obj->Option (Int):=fun v objs=>match v,objs with
 | .s (.i .i64 y0),[]=>some (y0)
 | _,_=>none
theorem qh8 (B:{R:Type}->Bool->Option R->Option R->Option R) (x0:Int):fnE { qNx with brg:=B } Tryz.f149 ([.s (.i .u64 x0)]) ([]) qNy=qNw B x0:=by kernel_rfl
theorem qh7 (x0:Int):fnE qNx Tryz.f149 ([.s (.i .u64 x0)]) ([]) qNy=qE4 x0:=qh8 br x0
def qUf:HA:=fun o vs objs K=>match vs,objs with
 | [.s (.i .u64 x0)],[]=>ob (qE4 x0) fun y0=>K false (.s (.i .i64 y0)) ([])
 | _,_=>o 149 vs objs K
def qNz (o:Orc):Orc:=qK 149 (qUf o) o
theorem qUg:OQ Tryz.prog qNz:=fun _ ho=>qM ho fun vs objs K r h=>by
 unfold qUf at h
 split at h
 ·skip
  obtain⟨t,h1,h2⟩:=qD h
  refine qX mixed qh9 ((qh7 _).trans h1) (by kernel_rfl) fun v objs' hd=>?_
  unfold qNy at hd;split at hd;(cases hd;exact h2);cases hd
 ·exact ho _ _ _ _ _ h
def qeS:Ctx:=mkC 18 ((qNz qI)) [] qU
theorem qtL:CtxOK Tryz.prog qeS:=mkC_ok ((qUg _ qL))
def qeT:V->List Obj->Option (Int):=fun v objs=>match v,objs with
 | .s (.i .i64 y0),[]=>some (y0)
 | _,_=>none
theorem qtK (x0 x1:Int):fnE qeS Tryz.f126 ([.agg [.one [.i .u64 x0,.i .u64 x1]]]) ([]) qeT=qGq x0 x1:=by kernel_rfl
def qeR:HA:=fun o vs objs K=>match vs,objs with
 | [.agg [.one [.i .u64 x0,.i .u64 x1]]],[]=>ob (qGq x0 x1) fun y0=>K false (.s (.i .i64 y0)) ([])
 | _,_=>o 126 vs objs K
def qMt (o:Orc):Orc:=qK 126 (qeR o) o
theorem qSl:OQ Tryz.prog qMt:=fun _ ho=>qM ho fun vs objs K r h=>by
 unfold qeR at h
 split at h
 ·skip
  obtain⟨t,h1,h2⟩:=qD h
  refine qX mixed qtL ((qtK _ _).trans h1) (by kernel_rfl) fun v objs' hd=>?_
  unfold qeT at hd;split at hd;(cases hd;exact h2);cases hd
 ·exact ho _ _ _ _ _ h
def qUz:Ctx:=mkC 9 ((qMt (qGF qI))) [] qU
theorem qiV:CtxOK Tryz.prog qUz:=mkC_ok ((qSl _ (qHE _ qL)))
def qU0:V->List Obj->Option (Int):=fun v objs=>match v,objs with
 | .s (.i .i64 y0),[]=>some (y0)
 | _,_=>none
theorem qiU (x0:Int) (x1 x2:LI) (x3:Int) (x4 x5:LL):fnE qUz Tryz.f112 ([.s (.ptr 0 0 none 0),.s (.i .i64 x0)]) ([.rcells 72 [.arr .i8 81 x1,.arr .i8 16 x2,.one [.i .i8 x3],.rows [.i .u64,.i .u64] 32 x4,.rows [.i .u64,.i .u64] 2 x5]]) (qAG 1 qU0)=qGE x0 x1 x2 x3 x4 x5:=by kernel_rfl
def qUy:HA:=fun o vs objs K=>match vs,List.map Obj.toRO objs with
 | [.s (.ptr 0 0 none 0),.s (.i .i64 x0)],[.rcells 72 [.arr .i8 81 x1,.arr .i8 16 x2,.one [.i .i8 x3],.rows [.i .u64,.i .u64] 32 x4,.rows [.i .u64,.i .u64] 2 x5]]=>ob (qGE x0 x1 x2 x3 x4 x5) fun y0=>K true (.s (.i .i64 y0)) ([])
 | _,_=>o 112 vs objs K
def qKh (o:Orc):Orc:=qK 112 (qUy o) o
theorem qOE:OQ Tryz.prog qKh:=fun _ ho=>qM ho fun vs objs K r h=>by
 unfold qUy at h
 split at h
 ·skip
  have hq:List.map Obj.toRO objs=_:=(by rename_i hq;first | exact hq | assumption)
  obtain⟨t,h1,h2⟩:=qD h
  refine qAc mixed qiV (m:=1) (fn:=Tryz.f112) (b:=(Tryz.f112).body.getD .skip) (by kernel_rfl) (by kernel_rfl) (by kernel_rfl) hq (by kernel_rfl) (by kernel_rfl) (qN.of (l':=[]) (by kernel_rfl) trivial) ((qiU _ _ _ _ _ _).trans h1) fun v objs' hd=>?_
  unfold qU0 at hd;split at hd;(cases hd;exact h2);cases hd
 ·exact ho _ _ _ _ _ h
def qVR:Ctx:=mkC 14 ((qGs qI)) [] qU
theorem qir:CtxOK Tryz.prog qVR:=mkC_ok ((qIg _ qL))
def qVS:V->List Obj->Option (Int×Int):=fun v objs=>match v,objs with
 | .agg [.one [.i .u64 y0,.i .u64 y1]],[]=>some (y0,y1)
 | _,_=>none
theorem qiq (x0 x1:LI) (x2:Int) (x3 x4:LL):fnE qVR Tryz.f113 ([.s (.ptr 0 0 none 0)]) ([.rcells 72 [.arr .i8 81 x0,.arr .i8 16 x1,.one [.i .i8 x2],.rows [.i .u64,.i .u64] 32 x3,.rows [.i .u64,.i .u64] 2 x4]]) (qAG 1 qVS)=qC6 x0 x1 x2 x3 x4:=by kernel_rfl
def qVQ:HA:=fun o vs objs K=>match vs,List.map Obj.toRO objs with
 | [.s (.ptr 0 0 none 0)],[.rcells 72 [.arr .i8 81 x0,.arr .i8 16 x1,.one [.i .i8 x2],.rows [.i .u64,.i .u64] 32 x3,.rows [.i .u64,.i .u64] 2 x4]]=>ob (qC6 x0 x1 x2 x3 x4) fun z=>K true (.agg [.one [.i .u64 (z.1),.i .u64 (z.2)]]) ([])
 | _,_=>o 113 vs objs K
def qHG (o:Orc):Orc:=qK 113 (qVQ o) o
theorem qI2:OQ Tryz.prog qHG:=fun _ ho=>qM ho fun vs objs K r h=>by
 unfold qVQ at h
 split at h
 ·skip
  have hq:List.map Obj.toRO objs=_:=(by rename_i hq;first | exact hq | assumption)
  obtain⟨t,h1,h2⟩:=qD h
  refine qAc mixed qir (m:=1) (fn:=Tryz.f113) (b:=(Tryz.f113).body.getD .skip) (by kernel_rfl) (by kernel_rfl) (by kernel_rfl) hq (by kernel_rfl) (by kernel_rfl) (qN.of (l':=[]) (by kernel_rfl) trivial) ((qiq _ _ _ _ _).trans h1) fun v objs' hd=>?_
  unfold qVS at hd;split at hd;(cases hd;exact h2);cases hd
 ·exact ho _ _ _ _ _ h
def qGx (n:Nat) {R:Type} (o:Orc) (vs:List V) (objs:List Obj) (K:Bool->V->List Obj->Option R):Option R:=match vs,objs with
 | [.s (.i .i64 x0)],[]=>ob (qGw n x0) fun z=>K false (.s (.sl 0 0 (z.1) true)) ([.sli 164 false (.rows [.i .i64,.i .i64] (z.2.1) (z.2.2))])
 | _,_=>o 160 vs objs K
def qTD (n:Nat) (o:Orc):Orc:=fun f vs objs K=>bif Nat.beq f 160 then qGx n o vs objs K else o f vs objs K
def quU (n:Nat):Orc:=qTD n qI
def qfW (n:Nat):Ctx:=mkC 57 (quU n) [] qU
def qfX:V->List Obj->Option (Nat×Nat×LL):=fun v objs=>match v,objs with
 | .s (.sl 0 0 y0 true),[.sli 164 false (.rows [.i .i64,.i .i64] y1 y2)]=>some (y0,y1,y2)
 | _,_=>none
theorem quR (n:Nat) (x0:Int):fnE (qfW n) Tryz.f160 ([.s (.i .i64 x0)]) ([]) qfX=qGw (n+1) x0:=by kernel_rfl
theorem quS (n:Nat) (hc:CtxOK Tryz.prog (qfW n)) {vs:List V} {objs:List Obj} (x0:Int) {R:Type} {K:Bool->V->List Obj->Option R} {r:R} (hv:vs=[.s (.i .i64 x0)]) (ho:objs=[]) (h:ob (qGw (n+1) x0) (fun z=>K false (.s (.sl 0 0 (z.1) true)) ([.sli 164 false (.rows [.i .i64,.i .i64] (z.2.1) (z.2.2))]))=some r):
  ∃ p v objs',K p v objs'=some r /\ qDR Tryz.prog 160 vs objs p v objs':=by
 subst hv
 subst ho
 obtain⟨t,h1,h2⟩:=qD h
 refine qNa mixed hc (objs:=[]) (fn:=Tryz.f160) (b:=(Tryz.f160).body.getD .skip) (by kernel_rfl) (by kernel_rfl) (by kernel_rfl) (qN.of (l':=[]) (by kernel_rfl) trivial) ((quR n x0).trans h1) fun v objs' hd=>?_
 unfold qfX at hd;split at hd;(cases hd;exact h2);cases hd
theorem quT:∀ (n:Nat) (o:Orc) (_:qC1 Tryz.prog o),qC1 Tryz.prog (qTD n o):=by
 intro n
 induction n with
 | zero=>
   intro o ho R f vs objs K r h
   replace h:(bif Nat.beq f 160 then qGx 0 o vs objs K else o f vs objs K)=some r:=h
   cases hf:Nat.beq f 160 with
   | false=>rw[hf] at h;exact ho f vs objs K r h
   | true=>
     rw[hf] at h
     have e:=Nat.eq_of_beq_eq_true hf
     subst e
     replace h:qGx 0 o vs objs K=some r:=h
     unfold qGx at h
     split at h
     ·skip
      cases h
     ·exact ho _ _ _ _ _ h
 | succ n ih=>
   intro o ho R f vs objs K r h
   replace h:(bif Nat.beq f 160 then qGx (n+1) o vs objs K else o f vs objs K)=some r:=h
   cases hf:Nat.beq f 160 with
   | false=>rw[hf] at h;exact ho f vs objs K r h
   | true=>
     rw[hf] at h
     have e:=Nat.eq_of_beq_eq_true hf
     subst e
     replace h:qGx (n+1) o vs objs K=some r:=h
     unfold qGx at h
     split at h
     ·skip
      exact quS n ⟨tab_ok,ih _ qL,eqs_ok,bytes_ok,fun _ _ _=>rfl,exts_ok⟩ _ rfl rfl h
     ·exact ho _ _ _ _ _ h
def qfT:Ctx:=mkC 15 (qI) [] qU
theorem quQ:CtxOK Tryz.prog qfT:=mkC_ok (qL)
def qfU:V->List Obj->Option (Int×Int):=fun v objs=>match v,objs with
 | .agg [.one [.i .i64 y0,.i .i64 y1]],[]=>some (y0,y1)
 | _,_=>none
theorem quP (x0 x1 x2:Int):fnE qfT Tryz.f151 ([.agg [.one [.i .i64 x0,.i .i64 x1]],.s (.i .i64 x2)]) ([]) qfU=qF2 x0 x1 x2:=by kernel_rfl
def qfS:HA:=fun o vs objs K=>match vs,objs with
 | [.agg [.one [.i .i64 x0,.i .i64 x1]],.s (.i .i64 x2)],[]=>ob (qF2 x0 x1 x2) fun z=>K false (.agg [.one [.i .i64 (z.1),.i .i64 (z.2)]]) ([])
 | _,_=>o 151 vs objs K
def qTC (o:Orc):Orc:=qK 151 (qfS o) o
theorem qfV:OQ Tryz.prog qTC:=fun _ ho=>qM ho fun vs objs K r h=>by
 unfold qfS at h
 split at h
 ·skip
  obtain⟨t,h1,h2⟩:=qD h
  refine qX mixed quQ ((quP _ _ _).trans h1) (by kernel_rfl) fun v objs' hd=>?_
  unfold qfU at hd;split at hd;(cases hd;exact h2);cases hd
 ·exact ho _ _ _ _ _ h
def qeP:Ctx:=mkC 5 (qI) [] qU
theorem qtJ:CtxOK Tryz.prog qeP:=mkC_ok (qL)
def qeQ:V->List Obj->Option (Int):=fun v objs=>match v,objs with
 | .s (.i .i64 y0),[]=>some (y0)
 | _,_=>none
theorem qtI (x0:Int):fnE qeP Tryz.f104 ([.s (.i .i64 x0)]) ([]) qeQ=qGp x0:=by kernel_rfl
def qeO:HA:=fun o vs objs K=>match vs,objs with
 | [.s (.i .i64 x0)],[]=>ob (qGp x0) fun y0=>K false (.s (.i .i64 y0)) ([])
 | _,_=>o 104 vs objs K
def qMs (o:Orc):Orc:=qK 104 (qeO o) o
theorem qSk:OQ Tryz.prog qMs:=fun _ ho=>qM ho fun vs objs K r h=>by
 unfold qeO at h
 split at h
 ·skip
  obtain⟨t,h1,h2⟩:=qD h
  refine qX mixed qtJ ((qtI _).trans h1) (by kernel_rfl) fun v objs' hd=>?_
  unfold qeQ at hd;split at hd;(cases hd;exact h2);cases hd
 ·exact ho _ _ _ _ _ h
def qfP:Ctx:=mkC 42 ((set_Squareo (qMy (qMs qI)))) [] qU
theorem quO:CtxOK Tryz.prog qfP:=mkC_ok ((set_Squareo_ok _ (qSu _ (qSk _ qL))))
def qfQ:V->List Obj->Option (Int):=fun v objs=>match v,objs with
 | .s (.i .i64 y0),[]=>some (y0)
 | _,_=>none
theorem quN (x0 x1 x2:Int):fnE qfP Tryz.f159 ([.agg [.one [.i .i64 x0,.i .i64 x1]],.s (.i .i64 x2)]) ([]) qfQ=qGv x0 x1 x2:=by kernel_rfl
def qfO:HA:=fun o vs objs K=>match vs,objs with
 | [.agg [.one [.i .i64 x0,.i .i64 x1]],.s (.i .i64 x2)],[]=>ob (qGv x0 x1 x2) fun y0=>K false (.s (.i .i64 y0)) ([])
 | _,_=>o 159 vs objs K
def qTB (o:Orc):Orc:=qK 159 (qfO o) o
theorem qfR:OQ Tryz.prog qTB:=fun _ ho=>qM ho fun vs objs K r h=>by
 unfold qfO at h
 split at h
 ·skip
  obtain⟨t,h1,h2⟩:=qD h
  refine qX mixed quO ((quN _ _ _).trans h1) (by kernel_rfl) fun v objs' hd=>?_
  unfold qfQ at hd;split at hd;(cases hd;exact h2);cases hd
 ·exact ho _ _ _ _ _ h
def qTF:Ex->List V->List Obj->Option (Int×Int×Int×Int):=fun e vs objs=>match e,vs,objs with
 | .exit 0,[.s (.ptr 0 0 none 0),.s (.ptr 1 0 none 0)],[.cells 68 [.one [.i .u64 y0,.i .u64 y1]],.cells 68 [.one [.i .u64 y2,.i .u64 y3]]]=>some (y0,y1,y2,y3)
 | _,_,_=>none
def qTH:HL:=fun vs objs K=>match vs,objs with
 | [.s (.i .i8 x0),.s (.i .i64 x1),.s (.ptr 0 0 none 0),.s (.ptr 1 0 none 0),.s (.sl 2 0 x2 true),.s (.i .i64 x3),.s (.i .i64 x4)],[.cells 68 [.one [.i .u64 x5,.i .u64 x6]],.cells 68 [.one [.i .u64 x7,.i .u64 x8]],.sli 164 false (.rows [.i .i64,.i .i64] x9 x10)]=>ob (qF4 qB x0 x1 x2 x3 x4 x5 x6 x7 x8 x9 x10) fun z=>K (.exit 0) ([.s (.ptr 0 0 none 0),.s (.ptr 1 0 none 0)]) ([.cells 68 [.one [.i .u64 (z.1),.i .u64 (z.2.1)]],.cells 68 [.one [.i .u64 (z.2.2.1),.i .u64 (z.2.2.2)]]])
 | _,_=>none
def qua:{R:Type}->Nat->List V->List Obj->(Ex->List V->List Obj->Option R)->Option R:=fun q vs objs K=>bif Nat.beq q 3 then qTH vs objs K else none
def qNA:Ctx:=mkC 26 ((qEm (qTB (qTC (qDo (qTD qB (qCv qI))))))) [(3,[0,1,4,5,10,11,12],[4,5])] qua
theorem qfd:CtxOK Tryz.prog qNA:=mkC_ok ((qF0 _ (qfR _ (qfV _ (qEa _ (quT qB _ (qDF _ qL)))))))
def qTG (f:Nat) (x0 x1:Int) (x2:Nat) (x3 x4:Int) (x5 x6:Int) (x7 x8:Int) (x9:Nat) (x10:LL):Option (Int×Int×Int×Int):=qf qNA 0 [0,1,4,5,10,11,12] [4,5] (qE Tryz.f150 3) f ([.s (.i .i8 x0),.s (.i .i64 x1),.s (.ptr 0 0 none 0),.s (.ptr 1 0 none 0),.s (.sl 2 0 x2 true),.s (.i .i64 x3),.s (.i .i64 x4)]) ([.cells 68 [.one [.i .u64 x5,.i .u64 x6]],.cells 68 [.one [.i .u64 x7,.i .u64 x8]],.sli 164 false (.rows [.i .i64,.i .i64] x9 x10)]) qTF
theorem quZ (f:Nat) (x0 x1:Int) (x2:Nat) (x3 x4:Int) (x5 x6:Int) (x7 x8:Int) (x9:Nat) (x10:LL):qTG (f+1) x0 x1 x2 x3 x4 x5 x6 x7 x8 x9 x10=qIn (qTG f) x0 x1 x2 x3 x4 x5 x6 x7 x8 x9 x10:=by kernel_rfl
theorem qff:∀ f,qTG f=qF4 f
 | 0=>rfl
 | f+1=>by funext x0 x1 x2 x3 x4 x5 x6 x7 x8 x9 x10;rw[quZ,qff f];rfl
theorem quc:qY Tryz.prog qNA 0 (qE Tryz.f150 3):=
 qg mixed qfd (qN.of (l':=[]) (by kernel_rfl) trivial) (q:=3) (kin:=[0,1,4,5,10,11,12]) (kout:=[4,5]) (by kernel_rfl) (by kernel_rfl) fun vs objs K r h=>by
  replace h:qTH vs objs K=some r:=h
  unfold qTH at h
  split at h
  ·skip
   obtain⟨t,h1,h2⟩:=qD h
   rw[<- qff] at h1
   refine⟨_,qTF,t,qB,h1,fun e vs' objs' hd=>?_⟩
   unfold qTF at hd;split at hd;(cases hd;exact h2);cases hd
  ·cases h
def qfe:V->List Obj->Option (Int×Int):=fun v objs=>match v,objs with
 | .agg [.one [.i .u64 y0,.i .u64 y1]],[]=>some (y0,y1)
 | _,_=>none
theorem quY (x0 x1:Int):fnE qNA Tryz.f150 ([.s (.i .i8 x0),.s (.i .i64 x1)]) ([]) qfe=qKA x0 x1:=by kernel_rfl
def qfc:HA:=fun o vs objs K=>match vs,objs with
 | [.s (.i .i8 x0),.s (.i .i64 x1)],[]=>ob (qKA x0 x1) fun z=>K false (.agg [.one [.i .u64 (z.1),.i .u64 (z.2)]]) ([])
 | _,_=>o 150 vs objs K
def qfg (o:Orc):Orc:=qK 150 (qfc o) o
theorem qub:OQ Tryz.prog qfg:=fun _ ho=>qM ho fun vs objs K r h=>by
 unfold qfc at h
 split at h
 ·skip
  obtain⟨t,h1,h2⟩:=qD h
  refine q7 mixed qfd (fn:=Tryz.f150) (b:=(Tryz.f150).body.getD .skip) (by kernel_rfl) (by kernel_rfl) (by kernel_rfl) ((quY _ _).trans h1) (m:=0) rfl (qN.of (l':=[qE Tryz.f150 3]) (by kernel_rfl) ⟨quc,trivial⟩) fun v objs' hd=>?_
  unfold qfe at hd;split at hd;(cases hd;exact h2);cases hd
 ·exact ho _ _ _ _ _ h
def qa8:Ctx:=mkC 24 (qI) [] qU
theorem qp6:CtxOK Tryz.prog qa8:=mkC_ok (qL)
def qa9:V->List Obj->Option (Nat×Nat×LL):=fun v objs=>match v,objs with
 | .s (.sl 0 0 y0 true),[.sli 164 false (.rows [.i .i64,.i .i64] y1 y2)]=>some (y0,y1,y2)
 | _,_=>none
theorem qp5 (x0:Int):fnE qa8 Tryz.f146 ([.s (.i .i64 x0)]) ([]) qa9=qGe x0:=by kernel_rfl
def qa7:HA:=fun o vs objs K=>match vs,objs with
 | [.s (.i .i64 x0)],[]=>ob (qGe x0) fun z=>K false (.s (.sl 0 0 (z.1) true)) ([.sli 164 false (.rows [.i .i64,.i .i64] (z.2.1) (z.2.2))])
 | _,_=>o 146 vs objs K
def qQ7 (o:Orc):Orc:=qK 146 (qa7 o) o
theorem qbA:OQ Tryz.prog qQ7:=fun _ ho=>qM ho fun vs objs K r h=>by
 unfold qa7 at h
 split at h
 ·skip
  obtain⟨t,h1,h2⟩:=qD h
  refine qX mixed qp6 ((qp5 _).trans h1) (by kernel_rfl) fun v objs' hd=>?_
  unfold qa9 at hd;split at hd;(cases hd;exact h2);cases hd
 ·exact ho _ _ _ _ _ h
end
end Go.Kk.KkLN
