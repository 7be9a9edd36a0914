/- Printed by a tool of this project (KkGen): the program's functions come to the plain ones. -/
import Derived.Test.YtpppdecfohkkfaaGreatDoorProg
import Derived.Test.YtpppdecfohkkfaaGreatDoorKkTold
import Derived.Test.YtpppdecfohkkfaaGreatDoorKkPl
namespace Go.Kk.KkLO
noncomputable section
open Go.Proofs Go.Kk.Pl
set_option maxRecDepth 100000
set_option maxHeartbeats 4000000
def tab:Tab:=[(1,.sc (.f)),
 (2,.sc (.i .i64)),
 (3,.sc (.i .i64)),
 (4,.sc (.b)),
 (5,.sc (.i .u8)),
 (6,.sc (.i .u8)),
 (7,.st [.one [.i .i64,.i .i64,.b,.i .u8]] [(0,0,2),(0,1,3),(0,2,4),(0,3,6)]),
 (8,.st [.one [.i .i64,.i .i64,.b,.i .u8]] [(0,0,2),(0,1,3),(0,2,4),(0,3,6)]),
 (9,.sc (.str)),
 (10,.sc (.str)),
 (11,.sc (.str)),
 (12,.sc (.i .u64)),
 (13,.st [.one [.str,.i .u64]] [(0,0,9),(0,1,12)]),
 (14,.st [.one [.str,.i .u64]] [(0,0,9),(0,1,12)]),
 (15,.sc (.p)),
 (16,.sc (.p)),
 (17,.sc (.p)),
 (18,.st [.one [.p]] [(0,0,17)]),
 (19,.st [.one [.p]] [(0,0,17)]),
 (21,.sc (.i .i32)),
 (22,.sc (.i .i8)),
 (23,.sc (.i .i8)),
 (24,.ar 81 1 23 (.arr .i8 81)),
 (25,.ar 8 1 22 (.arr .i8 8)),
 (26,.ar 2 8 25 (.arr .i8 16)),
 (27,.st [.arr .i8 81,.arr .i8 16,.one [.i .i8]] [(0,0,24),(1,0,26),(2,0,22)]),
 (28,.st [.arr .i8 81,.arr .i8 16,.one [.i .i8]] [(0,0,24),(1,0,26),(2,0,22)]),
 (29,.sc (.sl 37)),
 (30,.sc (.f)),
 (31,.sc (.i .i64)),
 (33,.sc (.f)),
 (34,.sc (.f)),
 (35,.sc (.f)),
 (36,.st [.one [.i .i64,.i .i64,.i .i64,.b]] [(0,0,3),(0,1,3),(0,2,3),(0,3,4)]),
 (37,.st [.one [.i .i64,.i .i64,.i .i64,.b]] [(0,0,3),(0,1,3),(0,2,3),(0,3,4)]),
 (38,.sc (.f)),
 (39,.sc (.f)),
 (40,.sc (.f)),
 (41,.sc (.f)),
 (43,.sc (.f)),
 (44,.sc (.f)),
 (46,.sc (.f)),
 (47,.sc (.f)),
 (48,.sc (.sl 3)),
 (49,.sc (.f)),
 (50,.sc (.f)),
 (52,.sc (.f)),
 (53,.sc (.f)),
 (54,.sc (.f)),
 (55,.sc (.f)),
 (56,.sc (.f)),
 (57,.sc (.f)),
 (58,.sc (.p)),
 (59,.sc (.f)),
 (60,.sc (.f)),
 (61,.sc (.p)),
 (62,.sc (.i .u64)),
 (63,.sc (.i .u64)),
 (64,.sc (.sl 98)),
 (65,.st [.one [.p,.i .u64,.sl 98]] [(0,0,61),(0,1,63),(0,2,64)]),
 (66,.st [.one [.p,.i .u64,.sl 98]] [(0,0,61),(0,1,63),(0,2,64)]),
 (67,.st [.one [.i .u64,.i .u64]] [(0,0,62),(0,1,62)]),
 (68,.st [.one [.i .u64,.i .u64]] [(0,0,62),(0,1,62)]),
 (69,.ar 32 1 68 (.rows [.i .u64,.i .u64] 32)),
 (70,.ar 2 1 68 (.rows [.i .u64,.i .u64] 2)),
 (71,.st [.arr .i8 81,.arr .i8 16,.one [.i .i8],.rows [.i .u64,.i .u64] 32,.rows [.i .u64,.i .u64] 2] [(0,0,28),(3,0,69),(4,0,70)]),
 (72,.st [.arr .i8 81,.arr .i8 16,.one [.i .i8],.rows [.i .u64,.i .u64] 32,.rows [.i .u64,.i .u64] 2] [(0,0,28),(3,0,69),(4,0,70)]),
 (73,.sc (.f)),
 (74,.sc (.f)),
 (75,.sc (.f)),
 (76,.sc (.f)),
 (77,.sc (.sl 9)),
 (78,.sc (.f)),
 (79,.sc (.f)),
 (81,.sc (.f)),
 (82,.sc (.f)),
 (83,.sc (.f)),
 (84,.sc (.f)),
 (85,.sc (.f)),
 (86,.sc (.f)),
 (87,.ar 81 1 4 (.barr 81)),
 (88,.sc (.f)),
 (89,.sc (.f)),
 (90,.sc (.f)),
 (91,.ar 9 1 3 (.arr .i64 9)),
 (92,.sc (.f)),
 (93,.sc (.f)),
 (94,.sc (.f)),
 (95,.sc (.f)),
 (96,.sc (.f)),
 (97,.st [.one [.i .i64,.i .i64,.i .i64,.b,.i .i8,.i .i8]] [(0,0,37),(0,4,23),(0,5,23)]),
 (98,.st [.one [.i .i64,.i .i64,.i .i64,.b,.i .i8,.i .i8]] [(0,0,37),(0,4,23),(0,5,23)]),
 (99,.sc (.f)),
 (100,.sc (.f)),
 (101,.sc (.f)),
 (102,.sc (.f)),
 (103,.sc (.f)),
 (104,.sc (.f)),
 (105,.sc (.f)),
 (106,.sc (.f)),
 (107,.sc (.p)),
 (108,.sc (.sl 5)),
 (109,.st [.one [.p,.sl 5]] [(0,0,107),(0,1,108)]),
 (110,.st [.one [.p,.sl 5]] [(0,0,107),(0,1,108)]),
 (111,.sc (.f)),
 (115,.sc (.f)),
 (116,.sc (.f)),
 (117,.sc (.f)),
 (118,.sc (.sl 21)),
 (119,.sc (.f)),
 (121,.sc (.f)),
 (122,.sc (.f)),
 (123,.sc (.f)),
 (124,.ar 2 1 3 (.arr .i64 2)),
 (125,.sc (.f)),
 (126,.sc (.f)),
 (127,.sc (.f)),
 (128,.sc (.m 3 68)),
 (129,.st [.one [.p,.i .i64,.i .i64,.i .u64,.i .u64,.m 3 68,.b]] [(0,0,61),(0,1,3),(0,2,3),(0,3,68),(0,5,128),(0,6,4)]),
 (130,.st [.one [.p,.i .i64,.i .i64,.i .u64,.i .u64,.m 3 68,.b]] [(0,0,61),(0,1,3),(0,2,3),(0,3,68),(0,5,128),(0,6,4)]),
 (131,.sc (.f)),
 (132,.sc (.f)),
 (133,.sc (.f)),
 (134,.sc (.p)),
 (135,.sc (.f)),
 (136,.sc (.f)),
 (137,.sc (.f)),
 (138,.sc (.f)),
 (139,.sc (.f)),
 (140,.sc (.f)),
 (141,.sc (.f)),
 (142,.sc (.f)),
 (143,.sc (.f)),
 (144,.sc (.f)),
 (145,.sc (.f)),
 (146,.sc (.f)),
 (147,.sc (.f)),
 (149,.sc (.f)),
 (150,.sc (.f)),
 (152,.sc (.f)),
 (153,.sc (.f)),
 (155,.sc (.f)),
 (156,.sc (.f)),
 (158,.sc (.f)),
 (159,.sc (.f)),
 (160,.sc (.i .u64)),
 (161,.sc (.sl 164)),
 (162,.sc (.f)),
 (163,.st [.one [.i .i64,.i .i64]] [(0,0,3),(0,1,3)]),
 (164,.st [.one [.i .i64,.i .i64]] [(0,0,3),(0,1,3)]),
 (165,.sc (.f)),
 (166,.sc (.f)),
 (167,.sc (.f)),
 (168,.sc (.f)),
 (169,.ar 64 1 5 (.arr .u8 64)),
 (170,.ar 256 1 5 (.arr .u8 256)),
 (171,.st [.one [.i .u8,.i .u8]] [(0,0,5),(0,1,5)]),
 (172,.st [.one [.i .u8,.i .u8]] [(0,0,5),(0,1,5)]),
 (173,.ar 16 1 172 (.rows [.i .u8,.i .u8] 16)),
 (174,.sc (.i .u32)),
 (176,.sc (.f)),
 (177,.st [.one [.p,.p,.p,.str]] [(0,0,17),(0,1,17),(0,2,17),(0,3,9)]),
 (178,.st [.one [.p,.p,.p,.str]] [(0,0,17),(0,1,17),(0,2,17),(0,3,9)]),
 (182,.sc (.i .u8)),
 (183,.sc (.i .u8)),
 (184,.sc (.f)),
 (185,.sc (.i .i32)),
 (186,.sc (.i .i32)),
 (187,.st [.one [.i .u64,.i .u64,.i .u32,.i .u8,.i .u8,.i .u8,.i .u8,.f,.p,.i .i32,.i .i32]] [(0,0,12),(0,1,12),(0,2,174),(0,3,182),(0,4,5),(0,5,5),(0,6,183),(0,7,184),(0,8,134),(0,9,185),(0,10,186)]),
 (188,.st [.one [.i .u64,.i .u64,.i .u32,.i .u8,.i .u8,.i .u8,.i .u8,.f,.p,.i .i32,.i .i32]] [(0,0,12),(0,1,12),(0,2,174),(0,3,182),(0,4,5),(0,5,5),(0,6,183),(0,7,184),(0,8,134),(0,9,185),(0,10,186)])]
def eqs:List TypeId:=[3,9,24,25,26,27,28,31,36,37,67,68,124,163,164]
def bytes:List (TypeId×Nat):=[(37,32),(3,8),(98,40),(9,16),(5,1),(21,4),(164,16)]
theorem mixed:Tryz.prog.follows .mixedOrders=true:=by kernel_rfl
theorem tab_ok:∀ t L,Tab.get tab t=some L->LayOK Tryz.prog tab t L:=qeg (P:=Tryz.prog) (tab:=tab) (l:=tab) (by kernel_rfl)
theorem eqs_ok:∀ t L,qES t eqs=true->Tab.get tab t=some L->∃ f ck,f<=10000 /\ qBF Tryz.prog f t=some ck /\ qBX L.segTs=some ck /\ Tryz.prog.eqGuardType Tryz.prog.depth t=false:=qVf (P:=Tryz.prog) (tab:=tab) (l:=eqs) (by kernel_rfl)
theorem bytes_ok:∀ t n,byN t bytes=some n->∃ i,Tryz.prog.info? t=some i /\ i.bytes=n:=qUh (P:=Tryz.prog) (l:=bytes) (by kernel_rfl)
def mkC (nt:Nat) (orc:Orc) (keeps:List (Nat×List Nat×List Nat)) (lp:{R:Type}->Nat->List V->List Obj->(Ex->List V->List Obj->Option R)->Option R):Ctx:={tab:=tab,eqs:=eqs,bytes:=bytes,nt:=nt,orc:=orc,keeps:=keeps,lp:=lp}
theorem exts_ok:qMx Tryz.prog:=exts_told
theorem mkC_ok {nt:Nat} {orc:Orc} {keeps:List (Nat×List Nat×List Nat)} {lp:{R:Type}->Nat->List V->List Obj->(Ex->List V->List Obj->Option R)->Option R} (h:qCx Tryz.prog orc):CtxOK Tryz.prog (mkC nt orc keeps lp):=⟨tab_ok,h,eqs_ok,bytes_ok,fun _ _ _=>rfl,exts_ok⟩
def set_Squarec:Ctx:=mkC 23 (qK) [] qX
theorem set_Squarec_ok:CtxOK Tryz.prog set_Squarec:=mkC_ok (qM)
def set_Squared:V->List Obj->Option (Int):=fun v objs=>match v,objs with
 | .s (.i .i64 y0),[]=>some (y0)
 | _,_=>none
theorem set_Square_eq (x0 x1:Int):fnE set_Squarec Tryz.f50 ([.s (.i .i64 x0),.s (.i .i64 x1)]) ([]) set_Squared=qCD x0 x1:=by kernel_rfl
def set_Squarea:HA:=fun o vs objs K=>match vs,objs with
 | [.s (.i .i64 x0),.s (.i .i64 x1)],[]=>ob (qCD x0 x1) fun y0=>K false (.s (.i .i64 y0)) ([])
 | _,_=>o 50 vs objs K
def set_Squareo (o:Orc):Orc:=qL 50 (set_Squarea o) o
theorem set_Squareo_ok:OQ Tryz.prog set_Squareo:=fun _ ho=>qN ho fun vs objs K r h=>by
 unfold set_Squarea at h
 split at h
 ·skip
  obtain ⟨t,h1,h2⟩:=qE h
  refine qf mixed set_Squarec_ok ((set_Square_eq _ _).trans h1) (by kernel_rfl) fun v objs' hd=>?_
  unfold set_Squared at hd;split at hd;(cases hd;exact h2);cases hd
 ·exact ho _ _ _ _ _ h
def qUL:Ctx:=mkC 14 ((set_Squareo qK)) [] qX
theorem qgz:CtxOK Tryz.prog qUL:=mkC_ok ((set_Squareo_ok _ qM))
def qUM:V->List Obj->Option (Int):=fun v objs=>match v,objs with
 | .s (.i .i64 y0),[]=>some (y0)
 | _,_=>none
theorem qgy (x0 x1 x2:Int):fnE qUL Tryz.f49 ([.s (.i .i64 x0),.s (.ptr 0 0 none 0),.s (.ptr 1 0 none 0)]) ([.rcells 3 [.one [.i .i64 x1]],.rcells 3 [.one [.i .i64 x2]]]) (qAP 2 qUM)=qKF x0 x1 x2:=by kernel_rfl
def qUK:HA:=fun o vs objs K=>match vs,List.map Obj.toRO objs with
 | [.s (.i .i64 x0),.s (.ptr 0 0 none 0),.s (.ptr 1 0 none 0)],[.rcells 3 [.one [.i .i64 x1]],.rcells 3 [.one [.i .i64 x2]]]=>ob (qKF x0 x1 x2) fun y0=>K true (.s (.i .i64 y0)) ([])
 | _,_=>o 49 vs objs K
def qUN (o:Orc):Orc:=qL 49 (qUK o) o
theorem qg0:OQ Tryz.prog qUN:=fun _ ho=>qN ho fun vs objs K r h=>by
 unfold qUK at h
 split at h
 ·skip
  have hq:List.map Obj.toRO objs=_:=(by rename_i hq;first | exact hq | assumption)
  obtain ⟨t,h1,h2⟩:=qE h
  refine qAn mixed qgz (m:=2) (fn:=Tryz.f49) (b:=(Tryz.f49).body.getD .skip) (by kernel_rfl) (by kernel_rfl) (by kernel_rfl) hq (by kernel_rfl) (by kernel_rfl) (qO.of (l':=[]) (by kernel_rfl) trivial) ((qgy _ _ _).trans h1) fun v objs' hd=>?_
  unfold qUM at hd;split at hd;(cases hd;exact h2);cases hd
 ·exact ho _ _ _ _ _ h
def qZY:Ctx:=mkC 28 (qK) [] qX
theorem qny:CtxOK Tryz.prog qZY:=mkC_ok (qM)
def qZZ:V->List Obj->Option (Int):=fun v objs=>match v,objs with
 | .s (.i .i8 y0),[]=>some (y0)
 | _,_=>none
theorem qnx (x0 x1:Int):fnE qZY Tryz.f51 ([.s (.i .i64 x0),.s (.i .i64 x1)]) ([]) qZZ=qAm x0 x1:=by kernel_rfl
def qZX:HA:=fun o vs objs K=>match vs,objs with
 | [.s (.i .i64 x0),.s (.i .i64 x1)],[]=>ob (qAm x0 x1) fun y0=>K false (.s (.i .i8 y0)) ([])
 | _,_=>o 51 vs objs K
def qDm (o:Orc):Orc:=qL 51 (qZX o) o
theorem qEU:OQ Tryz.prog qDm:=fun _ ho=>qN ho fun vs objs K r h=>by
 unfold qZX at h
 split at h
 ·skip
  obtain ⟨t,h1,h2⟩:=qE h
  refine qf mixed qny ((qnx _ _).trans h1) (by kernel_rfl) fun v objs' hd=>?_
  unfold qZZ at hd;split at hd;(cases hd;exact h2);cases hd
 ·exact ho _ _ _ _ _ h
def qNo:Ex->List V->List Obj->Option (Int×LI×LI×Int×LI×LI×Int×LI):=fun e vs objs=>match e,vs,objs with
 | .exit 2,[.s (.ptr 0 0 none 0),.s (.ptr 1 0 none 0),.s (.ptr 2 0 none 0),.s (.i .i64 y0)],[.cells 28 [.arr .i8 81 y1,.arr .i8 16 y2,.one [.i .i8 y3]],.cells 28 [.arr .i8 81 y4,.arr .i8 16 y5,.one [.i .i8 y6]],.cells 91 [.arr .i64 9 y7]]=>some (y0,y1,y2,y3,y4,y5,y6,y7)
 | _,_,_=>none
def qNm:Ex->List V->List Obj->Option (LI×LI×Int×LI×LI×Int):=fun e vs objs=>match e,vs,objs with
 | .exit 0,[.s (.ptr 0 0 none 0),.s (.ptr 1 0 none 0)],[.cells 28 [.arr .i8 81 y0,.arr .i8 16 y1,.one [.i .i8 y2]],.cells 28 [.arr .i8 81 y3,.arr .i8 16 y4,.one [.i .i8 y5]]]=>some (y0,y1,y2,y3,y4,y5)
 | _,_,_=>none
def qNr:HL:=fun vs objs K=>match vs,objs with
 | [.s (.ptr 0 0 none 0),.s (.ptr 1 0 none 0),.s (.ptr 2 0 none 0),.s (.ptr 3 0 none 0),.s (.i .i64 x0),.s (.i .i64 x1)],[.cells 28 [.arr .i8 81 x2,.arr .i8 16 x3,.one [.i .i8 x4]],.cells 28 [.arr .i8 81 x5,.arr .i8 16 x6,.one [.i .i8 x7]],.cells 91 [.arr .i64 9 x8],.cells 3 [.one [.i .i64 x9]]]=>ob (qKH qB x0 x1 x2 x3 x4 x5 x6 x7 x8 x9) fun z=>K (.exit 2) ([.s (.ptr 0 0 none 0),.s (.ptr 1 0 none 0),.s (.ptr 2 0 none 0),.s (.i .i64 (z.1))]) ([.cells 28 [.arr .i8 81 (z.2.1),.arr .i8 16 (z.2.2.1),.one [.i .i8 (z.2.2.2.1)]],.cells 28 [.arr .i8 81 (z.2.2.2.2.1),.arr .i8 16 (z.2.2.2.2.2.1),.one [.i .i8 (z.2.2.2.2.2.2.1)]],.cells 91 [.arr .i64 9 (z.2.2.2.2.2.2.2)]])
 | _,_=>none
def qNq:HL:=fun vs objs K=>match vs,objs with
 | [.s (.ptr 0 0 none 0),.s (.ptr 1 0 none 0),.s (.ptr 2 0 none 0),.s (.i .i64 x0)],[.cells 28 [.arr .i8 81 x1,.arr .i8 16 x2,.one [.i .i8 x3]],.cells 28 [.arr .i8 81 x4,.arr .i8 16 x5,.one [.i .i8 x6]],.cells 91 [.arr .i64 9 x7]]=>ob (qKG qB x0 x1 x2 x3 x4 x5 x6 x7) fun z=>K (.exit 0) ([.s (.ptr 0 0 none 0),.s (.ptr 1 0 none 0)]) ([.cells 28 [.arr .i8 81 (z.1),.arr .i8 16 (z.2.1),.one [.i .i8 (z.2.2.1)]],.cells 28 [.arr .i8 81 (z.2.2.2.1),.arr .i8 16 (z.2.2.2.2.1),.one [.i .i8 (z.2.2.2.2.2)]]])
 | _,_=>none
def qg4:{R:Type}->Nat->List V->List Obj->(Ex->List V->List Obj->Option R)->Option R:=fun q vs objs K=>bif Nat.beq q 7 then qNr vs objs K else bif Nat.beq q 4 then qNq vs objs K else none
def qGs:Ctx:=mkC 44 ((set_Squareo (qDm (qUN qK)))) [(4,[0,1,2,7],[0,1]),(7,[0,1,2,3,7,10],[0,1,2,7])] qg4
theorem qNl:CtxOK Tryz.prog qGs:=mkC_ok ((set_Squareo_ok _ (qEU _ (qg0 _ qM))))
def qNp (f:Nat) (x0 x1:Int) (x2 x3:LI) (x4:Int) (x5 x6:LI) (x7:Int) (x8:LI) (x9:Int):Option (Int×LI×LI×Int×LI×LI×Int×LI):=qg qGs 0 [0,1,2,3,7,10] [0,1,2,7] (qG Tryz.f22 7) f ([.s (.ptr 0 0 none 0),.s (.ptr 1 0 none 0),.s (.ptr 2 0 none 0),.s (.ptr 3 0 none 0),.s (.i .i64 x0),.s (.i .i64 x1)]) ([.cells 28 [.arr .i8 81 x2,.arr .i8 16 x3,.one [.i .i8 x4]],.cells 28 [.arr .i8 81 x5,.arr .i8 16 x6,.one [.i .i8 x7]],.cells 91 [.arr .i64 9 x8],.cells 3 [.one [.i .i64 x9]]]) qNo
theorem qg3 (f:Nat) (x0 x1:Int) (x2 x3:LI) (x4:Int) (x5 x6:LI) (x7:Int) (x8:LI) (x9:Int):qNp (f+1) x0 x1 x2 x3 x4 x5 x6 x7 x8 x9=qUT (qNp f) x0 x1 x2 x3 x4 x5 x6 x7 x8 x9:=by kernel_rfl
theorem qUS:∀ f,qNp f=qKH f
 | 0=>rfl
 | f+1=>by funext x0 x1 x2 x3 x4 x5 x6 x7 x8 x9;rw [qg3,qUS f];rfl
def qNn (f:Nat) (x0:Int) (x1 x2:LI) (x3:Int) (x4 x5:LI) (x6:Int) (x7:LI):Option (LI×LI×Int×LI×LI×Int):=qg qGs 0 [0,1,2,7] [0,1] (qG Tryz.f22 4) f ([.s (.ptr 0 0 none 0),.s (.ptr 1 0 none 0),.s (.ptr 2 0 none 0),.s (.i .i64 x0)]) ([.cells 28 [.arr .i8 81 x1,.arr .i8 16 x2,.one [.i .i8 x3]],.cells 28 [.arr .i8 81 x4,.arr .i8 16 x5,.one [.i .i8 x6]],.cells 91 [.arr .i64 9 x7]]) qNm
theorem qg2 (f:Nat) (x0:Int) (x1 x2:LI) (x3:Int) (x4 x5:LI) (x6:Int) (x7:LI):qNn (f+1) x0 x1 x2 x3 x4 x5 x6 x7=qUR (qNn f) x0 x1 x2 x3 x4 x5 x6 x7:=by kernel_rfl
theorem qUQ:∀ f,qNn f=qKG f
 | 0=>rfl
 | f+1=>by funext x0 x1 x2 x3 x4 x5 x6 x7;rw [qg2,qUQ f];rfl
theorem qg7:qe Tryz.prog qGs 0 (qG Tryz.f22 7):=
 qh mixed qNl (qO.of (l':=[]) (by kernel_rfl) trivial) (q:=7) (kin:=[0,1,2,3,7,10]) (kout:=[0,1,2,7]) (by kernel_rfl) (by kernel_rfl) fun vs objs K r h=>by
  replace h:qNr vs objs K=some r:=h
  unfold qNr at h
  split at h
  ·skip
   obtain ⟨t,h1,h2⟩:=qE h
   rw [<- qUS] at h1
   refine ⟨_,qNo,t,qB,h1,fun e vs' objs' hd=>?_⟩
   unfold qNo at hd;split at hd;(cases hd;exact h2);cases hd
  ·cases h
theorem qg6:qe Tryz.prog qGs 0 (qG Tryz.f22 4):=
 qh mixed qNl (qO.of (l':=[qG Tryz.f22 7]) (by kernel_rfl) ⟨qg7,trivial⟩) (q:=4) (kin:=[0,1,2,7]) (kout:=[0,1]) (by kernel_rfl) (by kernel_rfl) fun vs objs K r h=>by
  replace h:qNq vs objs K=some r:=h
  unfold qNq at h
  split at h
  ·skip
   obtain ⟨t,h1,h2⟩:=qE h
   rw [<- qUQ] at h1
   refine ⟨_,qNm,t,qB,h1,fun e vs' objs' hd=>?_⟩
   unfold qNm at hd;split at hd;(cases hd;exact h2);cases hd
  ·cases h
def qUP:V->List Obj->Option (LI×LI×Int):=fun v objs=>match v,objs with
 | .agg [.arr .i8 81 y0,.arr .i8 16 y1,.one [.i .i8 y2]],[]=>some (y0,y1,y2)
 | _,_=>none
theorem qg1:fnE qGs Tryz.f22 ([]) ([]) qUP=qNk  := by kernel_rfl
def qUO:HA:=fun o vs objs K=>match vs,objs with
 | [],[]=>ob (qNk ) fun z=>K false (.agg [.arr .i8 81 (z.1),.arr .i8 16 (z.2.1),.one [.i .i8 (z.2.2)]]) ([])
 | _,_=>o 22 vs objs K
def qUU (o:Orc):Orc:=qL 22 (qUO o) o
theorem qg5:OQ Tryz.prog qUU:=fun _ ho=>qN ho fun vs objs K r h=>by
 unfold qUO at h
 split at h
 ·skip
  obtain ⟨t,h1,h2⟩:=qE h
  refine q8 mixed qNl (fn:=Tryz.f22) (b:=(Tryz.f22).body.getD .skip) (by kernel_rfl) (by kernel_rfl) (by kernel_rfl) ((qg1).trans h1) (m:=0) rfl (qO.of (l':=[qG Tryz.f22 4]) (by kernel_rfl) ⟨qg6,trivial⟩) fun v objs' hd=>?_
  unfold qUP at hd;split at hd;(cases hd;exact h2);cases hd
 ·exact ho _ _ _ _ _ h
def qZR:Ctx:=mkC 28 (qK) [] qX
theorem qnt:CtxOK Tryz.prog qZR:=mkC_ok (qM)
def qZS:V->List Obj->Option (Int):=fun v objs=>match v,objs with
 | .s (.i .i64 y0),[]=>some (y0)
 | _,_=>none
theorem qns (x0:Int):fnE qZR Tryz.f60 ([.s (.i .i8 x0)]) ([]) qZS=qAE x0:=by kernel_rfl
def qZQ:HA:=fun o vs objs K=>match vs,objs with
 | [.s (.i .i8 x0)],[]=>ob (qAE x0) fun y0=>K false (.s (.i .i64 y0)) ([])
 | _,_=>o 60 vs objs K
def qCr (o:Orc):Orc:=qL 60 (qZQ o) o
theorem qDC:OQ Tryz.prog qCr:=fun _ ho=>qN ho fun vs objs K r h=>by
 unfold qZQ at h
 split at h
 ·skip
  obtain ⟨t,h1,h2⟩:=qE h
  refine qf mixed qnt ((qns _).trans h1) (by kernel_rfl) fun v objs' hd=>?_
  unfold qZS at hd;split at hd;(cases hd;exact h2);cases hd
 ·exact ho _ _ _ _ _ h
def qZj:Ctx:=mkC 10 ((qCr qK)) [] qX
theorem qn7:CtxOK Tryz.prog qZj:=mkC_ok ((qDC _ qM))
def qZk:V->List Obj->Option (Int):=fun v objs=>match v,objs with
 | .s (.i .i64 y0),[]=>some (y0)
 | _,_=>none
theorem qn6 (x0:Int):fnE qZj Tryz.f82 ([.s (.i .i8 x0)]) ([]) qZk=qAL x0:=by kernel_rfl
def qZi:HA:=fun o vs objs K=>match vs,objs with
 | [.s (.i .i8 x0)],[]=>ob (qAL x0) fun y0=>K false (.s (.i .i64 y0)) ([])
 | _,_=>o 82 vs objs K
def qDo (o:Orc):Orc:=qL 82 (qZi o) o
theorem qEV:OQ Tryz.prog qDo:=fun _ ho=>qN ho fun vs objs K r h=>by
 unfold qZi at h
 split at h
 ·skip
  obtain ⟨t,h1,h2⟩:=qE h
  refine qf mixed qn7 ((qn6 _).trans h1) (by kernel_rfl) fun v objs' hd=>?_
  unfold qZk at hd;split at hd;(cases hd;exact h2);cases hd
 ·exact ho _ _ _ _ _ h
def qZg:Ctx:=mkC 13 ((qDm qK)) [] qX
theorem qn5:CtxOK Tryz.prog qZg:=mkC_ok ((qEU _ qM))
def qZh:V->List Obj->Option (Int):=fun v objs=>match v,objs with
 | .s (.i .i64 y0),[]=>some (y0)
 | _,_=>none
theorem qn4 (x0:Int):fnE qZg Tryz.f61 ([.s (.i .i64 x0)]) ([]) qZh=qCs x0:=by kernel_rfl
def qZf:HA:=fun o vs objs K=>match vs,objs with
 | [.s (.i .i64 x0)],[]=>ob (qCs x0) fun y0=>K false (.s (.i .i64 y0)) ([])
 | _,_=>o 61 vs objs K
def qLd (o:Orc):Orc:=qL 61 (qZf o) o
theorem qQS:OQ Tryz.prog qLd:=fun _ ho=>qN ho fun vs objs K r h=>by
 unfold qZf at h
 split at h
 ·skip
  obtain ⟨t,h1,h2⟩:=qE h
  refine qf mixed qn5 ((qn4 _).trans h1) (by kernel_rfl) fun v objs' hd=>?_
  unfold qZh at hd;split at hd;(cases hd;exact h2);cases hd
 ·exact ho _ _ _ _ _ h
def qZm:Ctx:=mkC 15 (qK) [] qX
theorem qn9:CtxOK Tryz.prog qZm:=mkC_ok (qM)
def qZn:V->List Obj->Option (Int):=fun v objs=>match v,objs with
 | .s (.i .i64 y0),[]=>some (y0)
 | _,_=>none
theorem qn8 (x0:Int):fnE qZm Tryz.f90 ([.s (.i .i64 x0)]) ([]) qZn=qLe x0:=by kernel_rfl
def qZl:HA:=fun o vs objs K=>match vs,objs with
 | [.s (.i .i64 x0)],[]=>ob (qLe x0) fun y0=>K false (.s (.i .i64 y0)) ([])
 | _,_=>o 90 vs objs K
def qZo (o:Orc):Orc:=qL 90 (qZl o) o
theorem qoA:OQ Tryz.prog qZo:=fun _ ho=>qN ho fun vs objs K r h=>by
 unfold qZl at h
 split at h
 ·skip
  obtain ⟨t,h1,h2⟩:=qE h
  refine qf mixed qn9 ((qn8 _).trans h1) (by kernel_rfl) fun v objs' hd=>?_
  unfold qZn at hd;split at hd;(cases hd;exact h2);cases hd
 ·exact ho _ _ _ _ _ h
def qc6:Ctx:=mkC 5 (qK) [] qX
theorem qrg:CtxOK Tryz.prog qc6:=mkC_ok (qM)
def qc7:V->List Obj->Option (Int):=fun v objs=>match v,objs with
 | .s (.i .i64 y0),[]=>some (y0)
 | _,_=>none
theorem qrf (x0:Int):fnE qc6 Tryz.f105 ([.s (.i .i64 x0)]) ([]) qc7=qFd x0:=by kernel_rfl
def qc5:HA:=fun o vs objs K=>match vs,objs with
 | [.s (.i .i64 x0)],[]=>ob (qFd x0) fun y0=>K false (.s (.i .i64 y0)) ([])
 | _,_=>o 105 vs objs K
def qMK (o:Orc):Orc:=qL 105 (qc5 o) o
theorem qR3:OQ Tryz.prog qMK:=fun _ ho=>qN ho fun vs objs K r h=>by
 unfold qc5 at h
 split at h
 ·skip
  obtain ⟨t,h1,h2⟩:=qE h
  refine qf mixed qrg ((qrf _).trans h1) (by kernel_rfl) fun v objs' hd=>?_
  unfold qc7 at hd;split at hd;(cases hd;exact h2);cases hd
 ·exact ho _ _ _ _ _ h
def qdm:Ctx:=mkC 23 ((qMK qK)) [] qX
theorem qsb:CtxOK Tryz.prog qdm:=mkC_ok ((qR3 _ qM))
def qdn:V->List Obj->Option (Int):=fun v objs=>match v,objs with
 | .s (.i .i64 y0),[]=>some (y0)
 | _,_=>none
theorem qsa (x0 x1:Int):fnE qdm Tryz.f144 ([.s (.i .i64 x0),.s (.i .i64 x1)]) ([]) qdn=qFh x0 x1:=by kernel_rfl
def qdl:HA:=fun o vs objs K=>match vs,objs with
 | [.s (.i .i64 x0),.s (.i .i64 x1)],[]=>ob (qFh x0 x1) fun y0=>K false (.s (.i .i64 y0)) ([])
 | _,_=>o 144 vs objs K
def qSO (o:Orc):Orc:=qL 144 (qdl o) o
theorem qdo:OQ Tryz.prog qSO:=fun _ ho=>qN ho fun vs objs K r h=>by
 unfold qdl at h
 split at h
 ·skip
  obtain ⟨t,h1,h2⟩:=qE h
  refine qf mixed qsb ((qsa _ _).trans h1) (by kernel_rfl) fun v objs' hd=>?_
  unfold qdn at hd;split at hd;(cases hd;exact h2);cases hd
 ·exact ho _ _ _ _ _ h
def qdZ:Ctx:=mkC 25 ((qCr (qSO (qDo qK)))) [] qX
theorem qsQ:CtxOK Tryz.prog qdZ:=mkC_ok ((qDC _ (qdo _ (qEV _ qM))))
def qda:V->List Obj->Option (Bool):=fun v objs=>match v,objs with
 | .s (.b y0),[]=>some (y0)
 | _,_=>none
theorem qsP (x0 x1:Int):fnE qdZ Tryz.f118 ([.s (.i .i8 x0),.s (.i .i64 x1)]) ([]) qda=qD4 x0 x1:=by kernel_rfl
def qdY:HA:=fun o vs objs K=>match vs,objs with
 | [.s (.i .i8 x0),.s (.i .i64 x1)],[]=>ob (qD4 x0 x1) fun y0=>K false (.s (.b y0)) ([])
 | _,_=>o 118 vs objs K
def qMV (o:Orc):Orc:=qL 118 (qdY o) o
theorem qSK:OQ Tryz.prog qMV:=fun _ ho=>qN ho fun vs objs K r h=>by
 unfold qdY at h
 split at h
 ·skip
  obtain ⟨t,h1,h2⟩:=qE h
  refine qf mixed qsQ ((qsP _ _).trans h1) (by kernel_rfl) fun v objs' hd=>?_
  unfold qda at hd;split at hd;(cases hd;exact h2);cases hd
 ·exact ho _ _ _ _ _ h
def qdJ:Ctx:=mkC 21 (qK) [] qX
theorem qrt:CtxOK Tryz.prog qdJ:=mkC_ok (qM)
def qdK:V->List Obj->Option (Int×Int):=fun v objs=>match v,objs with
 | .agg [.one [.i .u64 y0,.i .u64 y1]],[]=>some (y0,y1)
 | _,_=>none
theorem qrs (x0:Int):fnE qdJ Tryz.f142 ([.s (.i .i64 x0)]) ([]) qdK=qFf x0:=by kernel_rfl
def qdI:HA:=fun o vs objs K=>match vs,objs with
 | [.s (.i .i64 x0)],[]=>ob (qFf x0) fun z=>K false (.agg [.one [.i .u64 (z.1),.i .u64 (z.2)]]) ([])
 | _,_=>o 142 vs objs K
def qMP (o:Orc):Orc:=qL 142 (qdI o) o
theorem qSB:OQ Tryz.prog qMP:=fun _ ho=>qN ho fun vs objs K r h=>by
 unfold qdI at h
 split at h
 ·skip
  obtain ⟨t,h1,h2⟩:=qE h
  refine qf mixed qrt ((qrs _).trans h1) (by kernel_rfl) fun v objs' hd=>?_
  unfold qdK at hd;split at hd;(cases hd;exact h2);cases hd
 ·exact ho _ _ _ _ _ h
def qcr:Ctx:=mkC 16 (qK) [] qX
theorem qrU:CtxOK Tryz.prog qcr:=mkC_ok (qM)
def qcs:V->List Obj->Option (Int×Int):=fun v objs=>match v,objs with
 | .agg [.one [.i .u64 y0,.i .u64 y1]],[]=>some (y0,y1)
 | _,_=>none
theorem qrT (x0 x1:Int) (x2 x3:Int):fnE qcr Tryz.f131 ([.agg [.one [.i .u64 x0,.i .u64 x1]],.agg [.one [.i .u64 x2,.i .u64 x3]]]) ([]) qcs=qFb x0 x1 x2 x3:=by kernel_rfl
def qcq:HA:=fun o vs objs K=>match vs,objs with
 | [.agg [.one [.i .u64 x0,.i .u64 x1]],.agg [.one [.i .u64 x2,.i .u64 x3]]],[]=>ob (qFb x0 x1 x2 x3) fun z=>K false (.agg [.one [.i .u64 (z.1),.i .u64 (z.2)]]) ([])
 | _,_=>o 131 vs objs K
def qMI (o:Orc):Orc:=qL 131 (qcq o) o
theorem qRz:OQ Tryz.prog qMI:=fun _ ho=>qN ho fun vs objs K r h=>by
 unfold qcq at h
 split at h
 ·skip
  obtain ⟨t,h1,h2⟩:=qE h
  refine qf mixed qrU ((qrT _ _ _ _).trans h1) (by kernel_rfl) fun v objs' hd=>?_
  unfold qcs at hd;split at hd;(cases hd;exact h2);cases hd
 ·exact ho _ _ _ _ _ h
def qdG:Ctx:=mkC 9 ((qMI (qMP qK))) [] qX
theorem qrq:CtxOK Tryz.prog qdG:=mkC_ok ((qRz _ (qSB _ qM)))
def qdH:V->List Obj->Option (Int×Int):=fun v objs=>match v,objs with
 | .agg [.one [.i .u64 y0,.i .u64 y1]],[]=>some (y0,y1)
 | _,_=>none
theorem qrp (x0 x1 x2:Int):fnE qdG Tryz.f114 ([.agg [.one [.i .u64 x0,.i .u64 x1]],.s (.i .i64 x2)]) ([]) qdH=qEf x0 x1 x2:=by kernel_rfl
def qdF:HA:=fun o vs objs K=>match vs,objs with
 | [.agg [.one [.i .u64 x0,.i .u64 x1]],.s (.i .i64 x2)],[]=>ob (qEf x0 x1 x2) fun z=>K false (.agg [.one [.i .u64 (z.1),.i .u64 (z.2)]]) ([])
 | _,_=>o 114 vs objs K
def qJb (o:Orc):Orc:=qL 114 (qdF o) o
theorem qMO:OQ Tryz.prog qJb:=fun _ ho=>qN ho fun vs objs K r h=>by
 unfold qdF at h
 split at h
 ·skip
  obtain ⟨t,h1,h2⟩:=qE h
  refine qf mixed qrq ((qrp _ _ _).trans h1) (by kernel_rfl) fun v objs' hd=>?_
  unfold qdH at hd;split at hd;(cases hd;exact h2);cases hd
 ·exact ho _ _ _ _ _ h
def qc3:Ctx:=mkC 16 (qK) [] qX
theorem qre:CtxOK Tryz.prog qc3:=mkC_ok (qM)
def qc4:V->List Obj->Option (Int×Int):=fun v objs=>match v,objs with
 | .agg [.one [.i .u64 y0,.i .u64 y1]],[]=>some (y0,y1)
 | _,_=>none
theorem qrd (x0 x1:Int) (x2 x3:Int):fnE qc3 Tryz.f127 ([.agg [.one [.i .u64 x0,.i .u64 x1]],.agg [.one [.i .u64 x2,.i .u64 x3]]]) ([]) qc4=qD1 x0 x1 x2 x3:=by kernel_rfl
def qc2:HA:=fun o vs objs K=>match vs,objs with
 | [.agg [.one [.i .u64 x0,.i .u64 x1]],.agg [.one [.i .u64 x2,.i .u64 x3]]],[]=>ob (qD1 x0 x1 x2 x3) fun z=>K false (.agg [.one [.i .u64 (z.1),.i .u64 (z.2)]]) ([])
 | _,_=>o 127 vs objs K
def qGU (o:Orc):Orc:=qL 127 (qc2 o) o
theorem qIE:OQ Tryz.prog qGU:=fun _ ho=>qN ho fun vs objs K r h=>by
 unfold qc2 at h
 split at h
 ·skip
  obtain ⟨t,h1,h2⟩:=qE h
  refine qf mixed qre ((qrd _ _ _ _).trans h1) (by kernel_rfl) fun v objs' hd=>?_
  unfold qc4 at hd;split at hd;(cases hd;exact h2);cases hd
 ·exact ho _ _ _ _ _ h
def qdD:Ctx:=mkC 9 ((qGU (qMP qK))) [] qX
theorem qro:CtxOK Tryz.prog qdD:=mkC_ok ((qIE _ (qSB _ qM)))
def qdE:V->List Obj->Option (Int×Int):=fun v objs=>match v,objs with
 | .agg [.one [.i .u64 y0,.i .u64 y1]],[]=>some (y0,y1)
 | _,_=>none
theorem qrn (x0 x1 x2:Int):fnE qdD Tryz.f115 ([.agg [.one [.i .u64 x0,.i .u64 x1]],.s (.i .i64 x2)]) ([]) qdE=qBD x0 x1 x2:=by kernel_rfl
def qdC:HA:=fun o vs objs K=>match vs,objs with
 | [.agg [.one [.i .u64 x0,.i .u64 x1]],.s (.i .i64 x2)],[]=>ob (qBD x0 x1 x2) fun z=>K false (.agg [.one [.i .u64 (z.1),.i .u64 (z.2)]]) ([])
 | _,_=>o 115 vs objs K
def qEe (o:Orc):Orc:=qL 115 (qdC o) o
theorem qFe:OQ Tryz.prog qEe:=fun _ ho=>qN ho fun vs objs K r h=>by
 unfold qdC at h
 split at h
 ·skip
  obtain ⟨t,h1,h2⟩:=qE h
  refine qf mixed qro ((qrn _ _ _).trans h1) (by kernel_rfl) fun v objs' hd=>?_
  unfold qdE at hd;split at hd;(cases hd;exact h2);cases hd
 ·exact ho _ _ _ _ _ h
def qUI:Ctx:=mkC 90 ((qEe (qCr (qDo (qJb qK))))) [] qX
theorem qgx:CtxOK Tryz.prog qUI:=mkC_ok ((qFe _ (qDC _ (qEV _ (qMO _ qM)))))
def qUJ:V->List Obj->Option (LI×LI×Int×LL×LL):=fun v objs=>match v,objs with
 | .tup [],[.cells 72 [.arr .i8 81 y0,.arr .i8 16 y1,.one [.i .i8 y2],.rows [.i .u64,.i .u64] 32 y3,.rows [.i .u64,.i .u64] 2 y4]]=>some (y0,y1,y2,y3,y4)
 | _,_=>none
theorem qgw (x0 x1:Int) (x2 x3:LI) (x4:Int) (x5 x6:LL):fnE qUI Tryz.f85 ([.s (.ptr 0 0 none 0),.s (.i .i64 x0),.s (.i .i8 x1)]) ([.cells 72 [.arr .i8 81 x2,.arr .i8 16 x3,.one [.i .i8 x4],.rows [.i .u64,.i .u64] 32 x5,.rows [.i .u64,.i .u64] 2 x6]]) qUJ=qFv x0 x1 x2 x3 x4 x5 x6:=by kernel_rfl
def qUH:HA:=fun o vs objs K=>match vs,objs with
 | [.s (.ptr 0 0 none 0),.s (.i .i64 x0),.s (.i .i8 x1)],[.cells 72 [.arr .i8 81 x2,.arr .i8 16 x3,.one [.i .i8 x4],.rows [.i .u64,.i .u64] 32 x5,.rows [.i .u64,.i .u64] 2 x6]]=>ob (qFv x0 x1 x2 x3 x4 x5 x6) fun z=>K false (.tup []) ([.cells 72 [.arr .i8 81 (z.1),.arr .i8 16 (z.2.1),.one [.i .i8 (z.2.2.1)],.rows [.i .u64,.i .u64] 32 (z.2.2.2.1),.rows [.i .u64,.i .u64] 2 (z.2.2.2.2)]])
 | _,_=>o 85 vs objs K
def qKE (o:Orc):Orc:=qL 85 (qUH o) o
theorem qNj:OQ Tryz.prog qKE:=fun _ ho=>qN ho fun vs objs K r h=>by
 unfold qUH at h
 split at h
 ·skip
  obtain ⟨t,h1,h2⟩:=qE h
  refine qf mixed qgx ((qgw _ _ _ _ _ _ _).trans h1) (by kernel_rfl) fun v objs' hd=>?_
  unfold qUJ at hd;split at hd;(cases hd;exact h2);cases hd
 ·exact ho _ _ _ _ _ h
def qNe:Ex->List V->List Obj->Option (LI×LI×Int×LL×LL):=fun e vs objs=>match e,vs,objs with
 | .exit 0,[.s (.ptr 0 0 none 0)],[.cells 72 [.arr .i8 81 y0,.arr .i8 16 y1,.one [.i .i8 y2],.rows [.i .u64,.i .u64] 32 y3,.rows [.i .u64,.i .u64] 2 y4]]=>some (y0,y1,y2,y3,y4)
 | _,_,_=>none
def qNh:HL:=fun vs objs K=>match vs,objs with
 | [.s (.ptr 0 0 none 0),.agg [.arr .i8 81 x0],.s (.i .i64 x1)],[.cells 72 [.arr .i8 81 x2,.arr .i8 16 x3,.one [.i .i8 x4],.rows [.i .u64,.i .u64] 32 x5,.rows [.i .u64,.i .u64] 2 x6]]=>ob (qEE qB x0 x1 x2 x3 x4 x5 x6) fun z=>K (.exit 0) ([.s (.ptr 0 0 none 0)]) ([.cells 72 [.arr .i8 81 (z.1),.arr .i8 16 (z.2.1),.one [.i .i8 (z.2.2.1)],.rows [.i .u64,.i .u64] 32 (z.2.2.2.1),.rows [.i .u64,.i .u64] 2 (z.2.2.2.2)]])
 | _,_=>none
def qgq:{R:Type}->Nat->List V->List Obj->(Ex->List V->List Obj->Option R)->Option R:=fun q vs objs K=>bif Nat.beq q 4 then qNh vs objs K else none
def qKC:Ctx:=mkC 32 ((qKE qK)) [(4,[3,21,22],[3])] qgq
theorem qT7:CtxOK Tryz.prog qKC:=mkC_ok ((qNj _ qM))
def qNf (f:Nat) (x0:LI) (x1:Int) (x2 x3:LI) (x4:Int) (x5 x6:LL):Option (LI×LI×Int×LL×LL):=qg qKC 0 [3,21,22] [3] (qG Tryz.f42 4) f ([.s (.ptr 0 0 none 0),.agg [.arr .i8 81 x0],.s (.i .i64 x1)]) ([.cells 72 [.arr .i8 81 x2,.arr .i8 16 x3,.one [.i .i8 x4],.rows [.i .u64,.i .u64] 32 x5,.rows [.i .u64,.i .u64] 2 x6]]) qNe
theorem qgp (f:Nat) (x0:LI) (x1:Int) (x2 x3:LI) (x4:Int) (x5 x6:LL):qNf (f+1) x0 x1 x2 x3 x4 x5 x6=qGq (qNf f) x0 x1 x2 x3 x4 x5 x6:=by kernel_rfl
theorem qT9:∀ f,qNf f=qEE f
 | 0=>rfl
 | f+1=>by funext x0 x1 x2 x3 x4 x5 x6;rw [qgp,qT9 f];rfl
theorem qgr:qe Tryz.prog qKC 0 (qG Tryz.f42 4):=
 qh mixed qT7 (qO.of (l':=[]) (by kernel_rfl) trivial) (q:=4) (kin:=[3,21,22]) (kout:=[3]) (by kernel_rfl) (by kernel_rfl) fun vs objs K r h=>by
  replace h:qNh vs objs K=some r:=h
  unfold qNh at h
  split at h
  ·skip
   obtain ⟨t,h1,h2⟩:=qE h
   rw [<- qT9] at h1
   refine ⟨_,qNe,t,qB,h1,fun e vs' objs' hd=>?_⟩
   unfold qNe at hd;split at hd;(cases hd;exact h2);cases hd
  ·cases h
def qT8:V->List Obj->Option (LI×LI×Int×LL×LL):=fun v objs=>match v,objs with
 | .s (.ptr 0 0 none 0),[.cells 72 [.arr .i8 81 y0,.arr .i8 16 y1,.one [.i .i8 y2],.rows [.i .u64,.i .u64] 32 y3,.rows [.i .u64,.i .u64] 2 y4]]=>some (y0,y1,y2,y3,y4)
 | _,_=>none
theorem qgo (x0 x1:LI) (x2:Int):fnE qKC Tryz.f42 ([.agg [.arr .i8 81 x0,.arr .i8 16 x1,.one [.i .i8 x2]]]) ([]) qT8=qFs x0 x1 x2:=by kernel_rfl
def qT6:HA:=fun o vs objs K=>match vs,objs with
 | [.agg [.arr .i8 81 x0,.arr .i8 16 x1,.one [.i .i8 x2]]],[]=>ob (qFs x0 x1 x2) fun z=>K false (.s (.ptr 0 0 none 0)) ([.cells 72 [.arr .i8 81 (z.1),.arr .i8 16 (z.2.1),.one [.i .i8 (z.2.2.1)],.rows [.i .u64,.i .u64] 32 (z.2.2.2.1),.rows [.i .u64,.i .u64] 2 (z.2.2.2.2)]])
 | _,_=>o 42 vs objs K
def qKD (o:Orc):Orc:=qL 42 (qT6 o) o
theorem qNg:OQ Tryz.prog qKD:=fun _ ho=>qN ho fun vs objs K r h=>by
 unfold qT6 at h
 split at h
 ·skip
  obtain ⟨t,h1,h2⟩:=qE h
  refine q8 mixed qT7 (fn:=Tryz.f42) (b:=(Tryz.f42).body.getD .skip) (by kernel_rfl) (by kernel_rfl) (by kernel_rfl) ((qgo _ _ _).trans h1) (m:=0) rfl (qO.of (l':=[qG Tryz.f42 4]) (by kernel_rfl) ⟨qgr,trivial⟩) fun v objs' hd=>?_
  unfold qT8 at hd;split at hd;(cases hd;exact h2);cases hd
 ·exact ho _ _ _ _ _ h
def qUB:Ctx:=mkC 20 ((qDm qK)) [] qX
theorem qgt:CtxOK Tryz.prog qUB:=mkC_ok ((qEU _ qM))
def qUC:V->List Obj->Option (Int×Int):=fun v objs=>match v,objs with
 | .agg [.one [.i .u64 y0,.i .u64 y1]],[]=>some (y0,y1)
 | _,_=>none
theorem qgs (x0 x1:Int) (x2 x3:LI) (x4:Int) (x5 x6:LL):fnE qUB Tryz.f119 ([.s (.ptr 0 0 none 0),.s (.i .i64 x0),.s (.i .i64 x1)]) ([.rcells 72 [.arr .i8 81 x2,.arr .i8 16 x3,.one [.i .i8 x4],.rows [.i .u64,.i .u64] 32 x5,.rows [.i .u64,.i .u64] 2 x6]]) (qAP 1 qUC)=qC3 x0 x1 x2 x3 x4 x5 x6:=by kernel_rfl
def qUA:HA:=fun o vs objs K=>match vs,List.map Obj.toRO objs with
 | [.s (.ptr 0 0 none 0),.s (.i .i64 x0),.s (.i .i64 x1)],[.rcells 72 [.arr .i8 81 x2,.arr .i8 16 x3,.one [.i .i8 x4],.rows [.i .u64,.i .u64] 32 x5,.rows [.i .u64,.i .u64] 2 x6]]=>ob (qC3 x0 x1 x2 x3 x4 x5 x6) fun z=>K true (.agg [.one [.i .u64 (z.1),.i .u64 (z.2)]]) ([])
 | _,_=>o 119 vs objs K
def qFt (o:Orc):Orc:=qL 119 (qUA o) o
theorem qGr:OQ Tryz.prog qFt:=fun _ ho=>qN ho fun vs objs K r h=>by
 unfold qUA at h
 split at h
 ·skip
  have hq:List.map Obj.toRO objs=_:=(by rename_i hq;first | exact hq | assumption)
  obtain ⟨t,h1,h2⟩:=qE h
  refine qAn mixed qgt (m:=1) (fn:=Tryz.f119) (b:=(Tryz.f119).body.getD .skip) (by kernel_rfl) (by kernel_rfl) (by kernel_rfl) hq (by kernel_rfl) (by kernel_rfl) (qO.of (l':=[]) (by kernel_rfl) trivial) ((qgs _ _ _ _ _ _ _).trans h1) fun v objs' hd=>?_
  unfold qUC at hd;split at hd;(cases hd;exact h2);cases hd
 ·exact ho _ _ _ _ _ h
def qRv:Ex->List V->List Obj->Option (Int×Int×Int×Int):=fun e vs objs=>match e,vs,objs with
 | .exit 0,[.s (.ptr 0 0 none 0),.s (.ptr 1 0 none 0)],[.cells 68 [.one [.i .u64 y0,.i .u64 y1]],.cells 68 [.one [.i .u64 y2,.i .u64 y3]]]=>some (y0,y1,y2,y3)
 | _,_,_=>none
def qRy:HL:=fun vs objs K=>match vs,objs with
 | [.s (.i .i64 x0),.s (.ptr 0 0 none 0),.s (.ptr 1 0 none 0),.s (.i .i64 x1)],[.cells 68 [.one [.i .u64 x2,.i .u64 x3]],.cells 68 [.one [.i .u64 x4,.i .u64 x5]]]=>ob (qMH qB x0 x1 x2 x3 x4 x5) fun z=>K (.exit 0) ([.s (.ptr 0 0 none 0),.s (.ptr 1 0 none 0)]) ([.cells 68 [.one [.i .u64 (z.1),.i .u64 (z.2.1)]],.cells 68 [.one [.i .u64 (z.2.2.1),.i .u64 (z.2.2.2)]]])
 | _,_=>none
def qrR:{R:Type}->Nat->List V->List Obj->(Ex->List V->List Obj->Option R)->Option R:=fun q vs objs K=>bif Nat.beq q 3 then qRy vs objs K else none
def qMG:Ctx:=mkC 15 ((qEe (set_Squareo qK))) [(3,[0,2,3,5],[2,3])] qrR
theorem qcl:CtxOK Tryz.prog qMG:=mkC_ok ((qFe _ (set_Squareo_ok _ qM)))
def qRw (f:Nat) (x0 x1:Int) (x2 x3:Int) (x4 x5:Int):Option (Int×Int×Int×Int):=qg qMG 0 [0,2,3,5] [2,3] (qG Tryz.f121 3) f ([.s (.i .i64 x0),.s (.ptr 0 0 none 0),.s (.ptr 1 0 none 0),.s (.i .i64 x1)]) ([.cells 68 [.one [.i .u64 x2,.i .u64 x3]],.cells 68 [.one [.i .u64 x4,.i .u64 x5]]]) qRv
theorem qrQ (f:Nat) (x0 x1:Int) (x2 x3:Int) (x4 x5:Int):qRw (f+1) x0 x1 x2 x3 x4 x5=qco (qRw f) x0 x1 x2 x3 x4 x5:=by kernel_rfl
theorem qcn:∀ f,qRw f=qMH f
 | 0=>rfl
 | f+1=>by funext x0 x1 x2 x3 x4 x5;rw [qrQ,qcn f];rfl
theorem qrS:qe Tryz.prog qMG 0 (qG Tryz.f121 3):=
 qh mixed qcl (qO.of (l':=[]) (by kernel_rfl) trivial) (q:=3) (kin:=[0,2,3,5]) (kout:=[2,3]) (by kernel_rfl) (by kernel_rfl) fun vs objs K r h=>by
  replace h:qRy vs objs K=some r:=h
  unfold qRy at h
  split at h
  ·skip
   obtain ⟨t,h1,h2⟩:=qE h
   rw [<- qcn] at h1
   refine ⟨_,qRv,t,qB,h1,fun e vs' objs' hd=>?_⟩
   unfold qRv at hd;split at hd;(cases hd;exact h2);cases hd
  ·cases h
def qcm:V->List Obj->Option (Int×Int):=fun v objs=>match v,objs with
 | .agg [.one [.i .u64 y0,.i .u64 y1]],[]=>some (y0,y1)
 | _,_=>none
theorem qrP (x0:Int):fnE qMG Tryz.f121 ([.s (.i .i64 x0)]) ([]) qcm=qIB x0:=by kernel_rfl
def qck:HA:=fun o vs objs K=>match vs,objs with
 | [.s (.i .i64 x0)],[]=>ob (qIB x0) fun z=>K false (.agg [.one [.i .u64 (z.1),.i .u64 (z.2)]]) ([])
 | _,_=>o 121 vs objs K
def qRx (o:Orc):Orc:=qL 121 (qck o) o
theorem qcp:OQ Tryz.prog qRx:=fun _ ho=>qN ho fun vs objs K r h=>by
 unfold qck at h
 split at h
 ·skip
  obtain ⟨t,h1,h2⟩:=qE h
  refine q8 mixed qcl (fn:=Tryz.f121) (b:=(Tryz.f121).body.getD .skip) (by kernel_rfl) (by kernel_rfl) (by kernel_rfl) ((qrP _).trans h1) (m:=0) rfl (qO.of (l':=[qG Tryz.f121 3]) (by kernel_rfl) ⟨qrS,trivial⟩) fun v objs' hd=>?_
  unfold qcm at hd;split at hd;(cases hd;exact h2);cases hd
 ·exact ho _ _ _ _ _ h
def qcT:Ctx:=mkC 16 (qK) [] qX
theorem qrE:CtxOK Tryz.prog qcT:=mkC_ok (qM)
def qcU:V->List Obj->Option (Int×Int):=fun v objs=>match v,objs with
 | .agg [.one [.i .u64 y0,.i .u64 y1]],[]=>some (y0,y1)
 | _,_=>none
theorem qrD (x0 x1:Int) (x2 x3:Int):fnE qcT Tryz.f120 ([.agg [.one [.i .u64 x0,.i .u64 x1]],.agg [.one [.i .u64 x2,.i .u64 x3]]]) ([]) qcU=qCv x0 x1 x2 x3:=by kernel_rfl
def qcS:HA:=fun o vs objs K=>match vs,objs with
 | [.agg [.one [.i .u64 x0,.i .u64 x1]],.agg [.one [.i .u64 x2,.i .u64 x3]]],[]=>ob (qCv x0 x1 x2 x3) fun z=>K false (.agg [.one [.i .u64 (z.1),.i .u64 (z.2)]]) ([])
 | _,_=>o 120 vs objs K
def qFa (o:Orc):Orc:=qL 120 (qcS o) o
theorem qGP:OQ Tryz.prog qFa:=fun _ ho=>qN ho fun vs objs K r h=>by
 unfold qcS at h
 split at h
 ·skip
  obtain ⟨t,h1,h2⟩:=qE h
  refine qf mixed qrE ((qrD _ _ _ _).trans h1) (by kernel_rfl) fun v objs' hd=>?_
  unfold qcU at hd;split at hd;(cases hd;exact h2);cases hd
 ·exact ho _ _ _ _ _ h
def qTh:Ctx:=mkC 35 (qK) [] qX
theorem qgN:CtxOK Tryz.prog qTh:=mkC_ok (qM)
def qTi:V->List Obj->Option (Int):=fun v objs=>match v,objs with
 | .s (.i .i64 y0),[]=>some (y0)
 | _,_=>none
theorem qgM (x0:Int):fnE qTh Tryz.f145 ([.s (.i .u64 x0)]) ([]) qTi=qFp x0:=by kernel_rfl
def qTg:HA:=fun o vs objs K=>match vs,objs with
 | [.s (.i .u64 x0)],[]=>ob (qFp x0) fun y0=>K false (.s (.i .i64 y0)) ([])
 | _,_=>o 145 vs objs K
def qTj (o:Orc):Orc:=qL 145 (qTg o) o
theorem qgO:OQ Tryz.prog qTj:=fun _ ho=>qN ho fun vs objs K r h=>by
 unfold qTg at h
 split at h
 ·skip
  obtain ⟨t,h1,h2⟩:=qE h
  refine qf mixed qgN ((qgM _).trans h1) (by kernel_rfl) fun v objs' hd=>?_
  unfold qTi at hd;split at hd;(cases hd;exact h2);cases hd
 ·exact ho _ _ _ _ _ h
def qcW:Ctx:=mkC 10 ((qTj qK)) [] qX
theorem qrG:CtxOK Tryz.prog qcW:=mkC_ok ((qgO _ qM))
def qcX:V->List Obj->Option (Int):=fun v objs=>match v,objs with
 | .s (.i .i64 y0),[]=>some (y0)
 | _,_=>none
theorem qrF (x0 x1:Int):fnE qcW Tryz.f122 ([.agg [.one [.i .u64 x0,.i .u64 x1]]]) ([]) qcX=qGQ x0 x1:=by kernel_rfl
def qcV:HA:=fun o vs objs K=>match vs,objs with
 | [.agg [.one [.i .u64 x0,.i .u64 x1]]],[]=>ob (qGQ x0 x1) fun y0=>K false (.s (.i .i64 y0)) ([])
 | _,_=>o 122 vs objs K
def qMD (o:Orc):Orc:=qL 122 (qcV o) o
theorem qRs:OQ Tryz.prog qMD:=fun _ ho=>qN ho fun vs objs K r h=>by
 unfold qcV at h
 split at h
 ·skip
  obtain ⟨t,h1,h2⟩:=qE h
  refine qf mixed qrG ((qrF _ _).trans h1) (by kernel_rfl) fun v objs' hd=>?_
  unfold qcX at hd;split at hd;(cases hd;exact h2);cases hd
 ·exact ho _ _ _ _ _ h
def qNu:Ex->List V->List Obj->Option ((Int×LI×LI×Int)⊕(LI×LI×Int)):=fun e vs objs=>match e,vs,objs with
 | .ret,[.s (.ptr 0 0 none 0),.s (.i .i64 y0)],[.cells 28 [.arr .i8 81 y1,.arr .i8 16 y2,.one [.i .i8 y3]]]=>some (.inl (y0,y1,y2,y3))
 | .exit 0,[.s (.ptr 0 0 none 0),.s .bad],[.cells 28 [.arr .i8 81 y0,.arr .i8 16 y1,.one [.i .i8 y2]]]=>some (.inr (y0,y1,y2))
 | _,_,_=>none
def qNs:Ex->List V->List Obj->Option ((Int×Int×LI×LI×Int×LL×LL)⊕(Int×LI×LI×Int×LL×LL)):=fun e vs objs=>match e,vs,objs with
 | .ret,[.s (.i .i64 y0),.s (.ptr 0 0 none 0),.s (.i .i64 y1)],[.cells 72 [.arr .i8 81 y2,.arr .i8 16 y3,.one [.i .i8 y4],.rows [.i .u64,.i .u64] 32 y5,.rows [.i .u64,.i .u64] 2 y6]]=>some (.inl (y0,y1,y2,y3,y4,y5,y6))
 | .exit 4,[.s .bad,.s (.ptr 0 0 none 0),.s (.i .i64 y0)],[.cells 72 [.arr .i8 81 y1,.arr .i8 16 y2,.one [.i .i8 y3],.rows [.i .u64,.i .u64] 32 y4,.rows [.i .u64,.i .u64] 2 y5]]=>some (.inr (y0,y1,y2,y3,y4,y5))
 | _,_,_=>none
def qNw:Ex->List V->List Obj->Option ((Int)⊕(Unit)):=fun e vs objs=>match e,vs,objs with
 | .ret,[.s (.i .i64 y0)],[]=>some (.inl (y0))
 | .exit 2,[.s .bad],[]=>some (.inr ())
 | _,_,_=>none
def qNz:HL:=fun vs objs K=>match vs,objs with
 | [.s (.ptr 0 0 none 0),.agg [.arr .i8 81 x0],.s (.i .i64 x1)],[.cells 28 [.arr .i8 81 x2,.arr .i8 16 x3,.one [.i .i8 x4]]]=>ob (qE1 qB x0 x1 x2 x3 x4) fun t0=>sw t0 (fun z=>K (.ret) ([.s (.ptr 0 0 none 0),.s (.i .i64 (z.1))]) ([.cells 28 [.arr .i8 81 (z.2.1),.arr .i8 16 (z.2.2.1),.one [.i .i8 (z.2.2.2)]]])) (fun z=>K (.exit 0) ([.s (.ptr 0 0 none 0),.s .bad]) ([.cells 28 [.arr .i8 81 (z.1),.arr .i8 16 (z.2.1),.one [.i .i8 (z.2.2)]]]))
 | _,_=>none
def qNy:HL:=fun vs objs K=>match vs,objs with
 | [.s (.ptr 0 0 none 0),.s (.i .i64 x0),.s (.i .i64 x1),.s (.i .i64 x2)],[.cells 72 [.arr .i8 81 x3,.arr .i8 16 x4,.one [.i .i8 x5],.rows [.i .u64,.i .u64] 32 x6,.rows [.i .u64,.i .u64] 2 x7]]=>ob (qEz qB x0 x1 x2 x3 x4 x5 x6 x7) fun t0=>sw t0 (fun z=>K (.ret) ([.s (.i .i64 (z.1)),.s (.ptr 0 0 none 0),.s (.i .i64 (z.2.1))]) ([.cells 72 [.arr .i8 81 (z.2.2.1),.arr .i8 16 (z.2.2.2.1),.one [.i .i8 (z.2.2.2.2.1)],.rows [.i .u64,.i .u64] 32 (z.2.2.2.2.2.1),.rows [.i .u64,.i .u64] 2 (z.2.2.2.2.2.2)]])) (fun z=>K (.exit 4) ([.s .bad,.s (.ptr 0 0 none 0),.s (.i .i64 (z.1))]) ([.cells 72 [.arr .i8 81 (z.2.1),.arr .i8 16 (z.2.2.1),.one [.i .i8 (z.2.2.2.1)],.rows [.i .u64,.i .u64] 32 (z.2.2.2.2.1),.rows [.i .u64,.i .u64] 2 (z.2.2.2.2.2)]]))
 | _,_=>none
def qN0:HL:=fun vs objs K=>match vs,objs with
 | [.s (.ptr 0 0 none 0),.s (.i .i64 x0)],[.cells 72 [.arr .i8 81 x1,.arr .i8 16 x2,.one [.i .i8 x3],.rows [.i .u64,.i .u64] 32 x4,.rows [.i .u64,.i .u64] 2 x5]]=>ob (qE2 qB x0 x1 x2 x3 x4 x5) fun t0=>sw t0 (fun y0=>K (.ret) ([.s (.i .i64 y0)]) ([])) (fun _=>K (.exit 2) ([.s .bad]) ([]))
 | _,_=>none
def qhE:{R:Type}->Nat->List V->List Obj->(Ex->List V->List Obj->Option R)->Option R:=fun q vs objs K=>bif Nat.beq q 2 then qNz vs objs K else bif Nat.beq q 12 then qNy vs objs K else bif Nat.beq q 9 then qN0 vs objs K else none
def qEy:Ctx:=mkC 36 ((qMD (qFa (qRx (qFt (qKD (qMV qK))))))) [(2,[1,9,10],[1,2]),(9,[5,20],[2]),(12,[5,6,20,23],[2,5,20])] qhE
theorem qKI:CtxOK Tryz.prog qEy:=mkC_ok ((qRs _ (qGP _ (qcp _ (qGr _ (qNg _ (qSK _ qM)))))))
def qNv (f:Nat) (x0:LI) (x1:Int) (x2 x3:LI) (x4:Int):Option ((Int×LI×LI×Int)⊕(LI×LI×Int)):=qg qEy 0 [1,9,10] [1,2] (qG Tryz.f91 2) f ([.s (.ptr 0 0 none 0),.agg [.arr .i8 81 x0],.s (.i .i64 x1)]) ([.cells 28 [.arr .i8 81 x2,.arr .i8 16 x3,.one [.i .i8 x4]]]) qNu
theorem qhC (f:Nat) (x0:LI) (x1:Int) (x2 x3:LI) (x4:Int):qNv (f+1) x0 x1 x2 x3 x4=qGu (qNv f) x0 x1 x2 x3 x4:=by kernel_rfl
theorem qUc:∀ f,qNv f=qE1 f
 | 0=>rfl
 | f+1=>by funext x0 x1 x2 x3 x4;rw [qhC,qUc f];rfl
def qNt (f:Nat) (x0 x1 x2:Int) (x3 x4:LI) (x5:Int) (x6 x7:LL):Option ((Int×Int×LI×LI×Int×LL×LL)⊕(Int×LI×LI×Int×LL×LL)):=qg qEy 0 [5,6,20,23] [2,5,20] (qG Tryz.f91 12) f ([.s (.ptr 0 0 none 0),.s (.i .i64 x0),.s (.i .i64 x1),.s (.i .i64 x2)]) ([.cells 72 [.arr .i8 81 x3,.arr .i8 16 x4,.one [.i .i8 x5],.rows [.i .u64,.i .u64] 32 x6,.rows [.i .u64,.i .u64] 2 x7]]) qNs
theorem qhB (f:Nat) (x0 x1 x2:Int) (x3 x4:LI) (x5:Int) (x6 x7:LL):qNt (f+1) x0 x1 x2 x3 x4 x5 x6 x7=qE0 (qNt f) x0 x1 x2 x3 x4 x5 x6 x7:=by kernel_rfl
theorem qUb:∀ f,qNt f=qEz f
 | 0=>rfl
 | f+1=>by funext x0 x1 x2 x3 x4 x5 x6 x7;rw [qhB,qUb f];rfl
def qNx (f:Nat) (x0:Int) (x1 x2:LI) (x3:Int) (x4 x5:LL):Option ((Int)⊕(Unit)):=qg qEy 0 [5,20] [2] (qG Tryz.f91 9) f ([.s (.ptr 0 0 none 0),.s (.i .i64 x0)]) ([.cells 72 [.arr .i8 81 x1,.arr .i8 16 x2,.one [.i .i8 x3],.rows [.i .u64,.i .u64] 32 x4,.rows [.i .u64,.i .u64] 2 x5]]) qNw
theorem qhD (f:Nat) (x0:Int) (x1 x2:LI) (x3:Int) (x4 x5:LL):qNx (f+1) x0 x1 x2 x3 x4 x5=qGv (qNx f) x0 x1 x2 x3 x4 x5:=by kernel_rfl
theorem qUd:∀ f,qNx f=qE2 f
 | 0=>rfl
 | f+1=>by funext x0 x1 x2 x3 x4 x5;rw [qhD,qUd f];rfl
theorem qhH:qe Tryz.prog qEy 0 (qG Tryz.f91 2):=
 qh mixed qKI (qO.of (l':=[]) (by kernel_rfl) trivial) (q:=2) (kin:=[1,9,10]) (kout:=[1,2]) (by kernel_rfl) (by kernel_rfl) fun vs objs K r h=>by
  replace h:qNz vs objs K=some r:=h
  unfold qNz at h
  split at h
  ·skip
   obtain ⟨t,h1,h2⟩:=qE h
   rw [<- qUc] at h1
   refine ⟨_,qNu,t,qB,h1,fun e vs' objs' hd=>?_⟩
   unfold qNu at hd
   split at hd
   ·skip
    cases hd
    exact h2
   ·skip
    cases hd
    exact h2
   ·cases hd
  ·cases h
theorem qhG:qe Tryz.prog qEy 0 (qG Tryz.f91 12):=
 qh mixed qKI (qO.of (l':=[]) (by kernel_rfl) trivial) (q:=12) (kin:=[5,6,20,23]) (kout:=[2,5,20]) (by kernel_rfl) (by kernel_rfl) fun vs objs K r h=>by
  replace h:qNy vs objs K=some r:=h
  unfold qNy at h
  split at h
  ·skip
   obtain ⟨t,h1,h2⟩:=qE h
   rw [<- qUb] at h1
   refine ⟨_,qNs,t,qB,h1,fun e vs' objs' hd=>?_⟩
   unfold qNs at hd
   split at hd
   ·skip
    cases hd
    exact h2
   ·skip
    cases hd
    exact h2
   ·cases hd
  ·cases h
theorem qhI:qe Tryz.prog qEy 0 (qG Tryz.f91 9):=
 qh mixed qKI (qO.of (l':=[qG Tryz.f91 12]) (by kernel_rfl) ⟨qhG,trivial⟩) (q:=9) (kin:=[5,20]) (kout:=[2]) (by kernel_rfl) (by kernel_rfl) fun vs objs K r h=>by
  replace h:qN0 vs objs K=some r:=h
  unfold qN0 at h
  split at h
  ·skip
   obtain ⟨t,h1,h2⟩:=qE h
   rw [<- qUd] at h1
   refine ⟨_,qNw,t,qB,h1,fun e vs' objs' hd=>?_⟩
   unfold qNw at hd
   split at hd
   ·skip
    cases hd
    exact h2
   ·skip
    cases hd
    exact h2
   ·cases hd
  ·cases h
def qUa:V->List Obj->Option (Int):=fun v objs=>match v,objs with
 | .s (.i .i64 y0),[]=>some (y0)
 | _,_=>none
theorem qhA (x0 x1:LI) (x2:Int):fnE qEy Tryz.f91 ([.agg [.arr .i8 81 x0,.arr .i8 16 x1,.one [.i .i8 x2]]]) ([]) qUa=qFw x0 x1 x2:=by kernel_rfl
def qUZ:HA:=fun o vs objs K=>match vs,objs with
 | [.agg [.arr .i8 81 x0,.arr .i8 16 x1,.one [.i .i8 x2]]],[]=>ob (qFw x0 x1 x2) fun y0=>K false (.s (.i .i64 y0)) ([])
 | _,_=>o 91 vs objs K
def qUe (o:Orc):Orc:=qL 91 (qUZ o) o
theorem qhF:OQ Tryz.prog qUe:=fun _ ho=>qN ho fun vs objs K r h=>by
 unfold qUZ at h
 split at h
 ·skip
  obtain ⟨t,h1,h2⟩:=qE h
  refine q8 mixed qKI (fn:=Tryz.f91) (b:=(Tryz.f91).body.getD .skip) (by kernel_rfl) (by kernel_rfl) (by kernel_rfl) ((qhA _ _ _).trans h1) (m:=0) rfl (qO.of (l':=[qG Tryz.f91 2,qG Tryz.f91 9]) (by kernel_rfl) ⟨qhH,qhI,trivial⟩) fun v objs' hd=>?_
  unfold qUa at hd;split at hd;(cases hd;exact h2);cases hd
 ·exact ho _ _ _ _ _ h
def qNW:Ex->List V->List Obj->Option ((Int×LI×LI×Int×LI×LI)⊕(LI×LI×Int×LI×LI)):=fun e vs objs=>match e,vs,objs with
 | .ret,[.s (.ptr 0 0 none 0),.s (.i .i64 y0),.s (.ptr 1 0 none 0),.s (.ptr 2 0 none 0)],[.cells 28 [.arr .i8 81 y1,.arr .i8 16 y2,.one [.i .i8 y3]],.cells 91 [.arr .i64 9 y4],.cells 124 [.arr .i64 2 y5]]=>some (.inl (y0,y1,y2,y3,y4,y5))
 | .exit 0,[.s (.ptr 0 0 none 0),.s .bad,.s (.ptr 1 0 none 0),.s (.ptr 2 0 none 0)],[.cells 28 [.arr .i8 81 y0,.arr .i8 16 y1,.one [.i .i8 y2]],.cells 91 [.arr .i64 9 y3],.cells 124 [.arr .i64 2 y4]]=>some (.inr (y0,y1,y2,y3,y4))
 | _,_,_=>none
def qNS:Ex->List V->List Obj->Option ((Int×LI×Int×LI×LI×Int×LI×LI)⊕(LI×Int×LI×LI×Int×LI×LI)):=fun e vs objs=>match e,vs,objs with
 | .ret,[.s (.ptr 0 0 none 0),.s (.i .i64 y0),.s (.ptr 1 0 none 0),.s (.ptr 2 0 none 0),.agg [.arr .i8 16 y1],.s (.i .i64 y2)],[.cells 28 [.arr .i8 81 y3,.arr .i8 16 y4,.one [.i .i8 y5]],.cells 91 [.arr .i64 9 y6],.cells 124 [.arr .i64 2 y7]]=>some (.inl (y0,y1,y2,y3,y4,y5,y6,y7))
 | .exit 9,[.s (.ptr 0 0 none 0),.s .bad,.s (.ptr 1 0 none 0),.s (.ptr 2 0 none 0),.agg [.arr .i8 16 y0],.s (.i .i64 y1)],[.cells 28 [.arr .i8 81 y2,.arr .i8 16 y3,.one [.i .i8 y4]],.cells 91 [.arr .i64 9 y5],.cells 124 [.arr .i64 2 y6]]=>some (.inr (y0,y1,y2,y3,y4,y5,y6))
 | _,_,_=>none
def qNQ:Ex->List V->List Obj->Option ((Int×LI×LI×Int×LI×LI)⊕(LI×LI×Int×LI×LI)):=fun e vs objs=>match e,vs,objs with
 | .ret,[.s (.ptr 0 0 none 0),.s (.i .i64 y0),.s (.ptr 1 0 none 0),.s (.ptr 2 0 none 0)],[.cells 28 [.arr .i8 81 y1,.arr .i8 16 y2,.one [.i .i8 y3]],.cells 91 [.arr .i64 9 y4],.cells 124 [.arr .i64 2 y5]]=>some (.inl (y0,y1,y2,y3,y4,y5))
 | .exit 7,[.s (.ptr 0 0 none 0),.s .bad,.s (.ptr 1 0 none 0),.s (.ptr 2 0 none 0)],[.cells 28 [.arr .i8 81 y0,.arr .i8 16 y1,.one [.i .i8 y2]],.cells 91 [.arr .i64 9 y3],.cells 124 [.arr .i64 2 y4]]=>some (.inr (y0,y1,y2,y3,y4))
 | _,_,_=>none
def qNU:Ex->List V->List Obj->Option ((Int×LI×LI×Int)⊕(LI×LI×Int)):=fun e vs objs=>match e,vs,objs with
 | .ret,[.s (.ptr 0 0 none 0),.s (.i .i64 y0)],[.cells 28 [.arr .i8 81 y1,.arr .i8 16 y2,.one [.i .i8 y3]]]=>some (.inl (y0,y1,y2,y3))
 | .exit 11,[.s (.ptr 0 0 none 0),.s .bad],[.cells 28 [.arr .i8 81 y0,.arr .i8 16 y1,.one [.i .i8 y2]]]=>some (.inr (y0,y1,y2))
 | _,_,_=>none
def qNb:HL:=fun vs objs K=>match vs,objs with
 | [.s (.ptr 0 0 none 0),.s (.ptr 1 0 none 0),.s (.ptr 2 0 none 0),.agg [.arr .i8 81 x0],.s (.i .i64 x1)],[.cells 28 [.arr .i8 81 x2,.arr .i8 16 x3,.one [.i .i8 x4]],.cells 91 [.arr .i64 9 x5],.cells 124 [.arr .i64 2 x6]]=>ob (qCL qB x0 x1 x2 x3 x4 x5 x6) fun t0=>sw t0 (fun z=>K (.ret) ([.s (.ptr 0 0 none 0),.s (.i .i64 (z.1)),.s (.ptr 1 0 none 0),.s (.ptr 2 0 none 0)]) ([.cells 28 [.arr .i8 81 (z.2.1),.arr .i8 16 (z.2.2.1),.one [.i .i8 (z.2.2.2.1)]],.cells 91 [.arr .i64 9 (z.2.2.2.2.1)],.cells 124 [.arr .i64 2 (z.2.2.2.2.2)]])) (fun z=>K (.exit 0) ([.s (.ptr 0 0 none 0),.s .bad,.s (.ptr 1 0 none 0),.s (.ptr 2 0 none 0)]) ([.cells 28 [.arr .i8 81 (z.1),.arr .i8 16 (z.2.1),.one [.i .i8 (z.2.2.1)]],.cells 91 [.arr .i64 9 (z.2.2.2.1)],.cells 124 [.arr .i64 2 (z.2.2.2.2)]]))
 | _,_=>none
def qNZ:HL:=fun vs objs K=>match vs,objs with
 | [.s (.ptr 0 0 none 0),.s (.ptr 1 0 none 0),.s (.ptr 2 0 none 0),.agg [.arr .i8 16 x0],.s (.i .i64 x1),.agg [.arr .i8 8 x2],.s (.i .i64 x3)],[.cells 28 [.arr .i8 81 x4,.arr .i8 16 x5,.one [.i .i8 x6]],.cells 91 [.arr .i64 9 x7],.cells 124 [.arr .i64 2 x8]]=>ob (qC2 qB x0 x1 x2 x3 x4 x5 x6 x7 x8) fun t0=>sw t0 (fun z=>K (.ret) ([.s (.ptr 0 0 none 0),.s (.i .i64 (z.1)),.s (.ptr 1 0 none 0),.s (.ptr 2 0 none 0),.agg [.arr .i8 16 (z.2.1)],.s (.i .i64 (z.2.2.1))]) ([.cells 28 [.arr .i8 81 (z.2.2.2.1),.arr .i8 16 (z.2.2.2.2.1),.one [.i .i8 (z.2.2.2.2.2.1)]],.cells 91 [.arr .i64 9 (z.2.2.2.2.2.2.1)],.cells 124 [.arr .i64 2 (z.2.2.2.2.2.2.2)]])) (fun z=>K (.exit 9) ([.s (.ptr 0 0 none 0),.s .bad,.s (.ptr 1 0 none 0),.s (.ptr 2 0 none 0),.agg [.arr .i8 16 (z.1)],.s (.i .i64 (z.2.1))]) ([.cells 28 [.arr .i8 81 (z.2.2.1),.arr .i8 16 (z.2.2.2.1),.one [.i .i8 (z.2.2.2.2.1)]],.cells 91 [.arr .i64 9 (z.2.2.2.2.2.1)],.cells 124 [.arr .i64 2 (z.2.2.2.2.2.2)]]))
 | _,_=>none
def qNY:HL:=fun vs objs K=>match vs,objs with
 | [.s (.ptr 0 0 none 0),.s (.ptr 1 0 none 0),.s (.ptr 2 0 none 0),.agg [.arr .i8 16 x0],.s (.i .i64 x1)],[.cells 28 [.arr .i8 81 x2,.arr .i8 16 x3,.one [.i .i8 x4]],.cells 91 [.arr .i64 9 x5],.cells 124 [.arr .i64 2 x6]]=>ob (qCf qB x0 x1 x2 x3 x4 x5 x6) fun t0=>sw t0 (fun z=>K (.ret) ([.s (.ptr 0 0 none 0),.s (.i .i64 (z.1)),.s (.ptr 1 0 none 0),.s (.ptr 2 0 none 0)]) ([.cells 28 [.arr .i8 81 (z.2.1),.arr .i8 16 (z.2.2.1),.one [.i .i8 (z.2.2.2.1)]],.cells 91 [.arr .i64 9 (z.2.2.2.2.1)],.cells 124 [.arr .i64 2 (z.2.2.2.2.2)]])) (fun z=>K (.exit 7) ([.s (.ptr 0 0 none 0),.s .bad,.s (.ptr 1 0 none 0),.s (.ptr 2 0 none 0)]) ([.cells 28 [.arr .i8 81 (z.1),.arr .i8 16 (z.2.1),.one [.i .i8 (z.2.2.1)]],.cells 91 [.arr .i64 9 (z.2.2.2.1)],.cells 124 [.arr .i64 2 (z.2.2.2.2)]]))
 | _,_=>none
def qNa:HL:=fun vs objs K=>match vs,objs with
 | [.s (.ptr 0 0 none 0),.s (.ptr 1 0 none 0),.s (.i .i64 x0)],[.cells 28 [.arr .i8 81 x1,.arr .i8 16 x2,.one [.i .i8 x3]],.cells 91 [.arr .i64 9 x4]]=>ob (qDS qB x0 x1 x2 x3 x4) fun t0=>sw t0 (fun z=>K (.ret) ([.s (.ptr 0 0 none 0),.s (.i .i64 (z.1))]) ([.cells 28 [.arr .i8 81 (z.2.1),.arr .i8 16 (z.2.2.1),.one [.i .i8 (z.2.2.2)]]])) (fun z=>K (.exit 11) ([.s (.ptr 0 0 none 0),.s .bad]) ([.cells 28 [.arr .i8 81 (z.1),.arr .i8 16 (z.2.1),.one [.i .i8 (z.2.2)]]]))
 | _,_=>none
def qgb:{R:Type}->Nat->List V->List Obj->(Ex->List V->List Obj->Option R)->Option R:=fun q vs objs K=>bif Nat.beq q 6 then qNb vs objs K else bif Nat.beq q 20 then qNZ vs objs K else bif Nat.beq q 17 then qNY vs objs K else bif Nat.beq q 30 then qNa vs objs K else none
def qDQ:Ctx:=mkC 98 ((qUe (qZo (qLd (qDo (qCr qK)))))) [(6,[1,3,4,22,23],[1,2,3,4]),(17,[1,3,4,51,52],[1,2,3,4]),(20,[1,3,4,51,52,55,56],[1,2,3,4,51,52]),(30,[1,3,12],[1,2])] qgb
theorem qIZ:CtxOK Tryz.prog qDQ:=mkC_ok ((qhF _ (qoA _ (qQS _ (qEV _ (qDC _ qM))))))
def qNX (f:Nat) (x0:LI) (x1:Int) (x2 x3:LI) (x4:Int) (x5 x6:LI):Option ((Int×LI×LI×Int×LI×LI)⊕(LI×LI×Int×LI×LI)):=qg qDQ 0 [1,3,4,22,23] [1,2,3,4] (qG Tryz.f52 6) f ([.s (.ptr 0 0 none 0),.s (.ptr 1 0 none 0),.s (.ptr 2 0 none 0),.agg [.arr .i8 81 x0],.s (.i .i64 x1)]) ([.cells 28 [.arr .i8 81 x2,.arr .i8 16 x3,.one [.i .i8 x4]],.cells 91 [.arr .i64 9 x5],.cells 124 [.arr .i64 2 x6]]) qNW
theorem qga (f:Nat) (x0:LI) (x1:Int) (x2 x3:LI) (x4:Int) (x5 x6:LI):qNX (f+1) x0 x1 x2 x3 x4 x5 x6=qEx (qNX f) x0 x1 x2 x3 x4 x5 x6:=by kernel_rfl
theorem qTu:∀ f,qNX f=qCL f
 | 0=>rfl
 | f+1=>by funext x0 x1 x2 x3 x4 x5 x6;rw [qga,qTu f];rfl
def qNT (f:Nat) (x0:LI) (x1:Int) (x2:LI) (x3:Int) (x4 x5:LI) (x6:Int) (x7 x8:LI):Option ((Int×LI×Int×LI×LI×Int×LI×LI)⊕(LI×Int×LI×LI×Int×LI×LI)):=qg qDQ 0 [1,3,4,51,52,55,56] [1,2,3,4,51,52] (qG Tryz.f52 20) f ([.s (.ptr 0 0 none 0),.s (.ptr 1 0 none 0),.s (.ptr 2 0 none 0),.agg [.arr .i8 16 x0],.s (.i .i64 x1),.agg [.arr .i8 8 x2],.s (.i .i64 x3)]) ([.cells 28 [.arr .i8 81 x4,.arr .i8 16 x5,.one [.i .i8 x6]],.cells 91 [.arr .i64 9 x7],.cells 124 [.arr .i64 2 x8]]) qNS
theorem qgY (f:Nat) (x0:LI) (x1:Int) (x2:LI) (x3:Int) (x4 x5:LI) (x6:Int) (x7 x8:LI):qNT (f+1) x0 x1 x2 x3 x4 x5 x6 x7 x8=qEw (qNT f) x0 x1 x2 x3 x4 x5 x6 x7 x8:=by kernel_rfl
theorem qTs:∀ f,qNT f=qC2 f
 | 0=>rfl
 | f+1=>by funext x0 x1 x2 x3 x4 x5 x6 x7 x8;rw [qgY,qTs f];rfl
def qNR (f:Nat) (x0:LI) (x1:Int) (x2 x3:LI) (x4:Int) (x5 x6:LI):Option ((Int×LI×LI×Int×LI×LI)⊕(LI×LI×Int×LI×LI)):=qg qDQ 0 [1,3,4,51,52] [1,2,3,4] (qG Tryz.f52 17) f ([.s (.ptr 0 0 none 0),.s (.ptr 1 0 none 0),.s (.ptr 2 0 none 0),.agg [.arr .i8 16 x0],.s (.i .i64 x1)]) ([.cells 28 [.arr .i8 81 x2,.arr .i8 16 x3,.one [.i .i8 x4]],.cells 91 [.arr .i64 9 x5],.cells 124 [.arr .i64 2 x6]]) qNQ
theorem qgX (f:Nat) (x0:LI) (x1:Int) (x2 x3:LI) (x4:Int) (x5 x6:LI):qNR (f+1) x0 x1 x2 x3 x4 x5 x6=qDR (qNR f) x0 x1 x2 x3 x4 x5 x6:=by kernel_rfl
theorem qTr:∀ f,qNR f=qCf f
 | 0=>rfl
 | f+1=>by funext x0 x1 x2 x3 x4 x5 x6;rw [qgX,qTr f];rfl
def qNV (f:Nat) (x0:Int) (x1 x2:LI) (x3:Int) (x4:LI):Option ((Int×LI×LI×Int)⊕(LI×LI×Int)):=qg qDQ 0 [1,3,12] [1,2] (qG Tryz.f52 30) f ([.s (.ptr 0 0 none 0),.s (.ptr 1 0 none 0),.s (.i .i64 x0)]) ([.cells 28 [.arr .i8 81 x1,.arr .i8 16 x2,.one [.i .i8 x3]],.cells 91 [.arr .i64 9 x4]]) qNU
theorem qgZ (f:Nat) (x0:Int) (x1 x2:LI) (x3:Int) (x4:LI):qNV (f+1) x0 x1 x2 x3 x4=qGp (qNV f) x0 x1 x2 x3 x4:=by kernel_rfl
theorem qTt:∀ f,qNV f=qDS f
 | 0=>rfl
 | f+1=>by funext x0 x1 x2 x3 x4;rw [qgZ,qTt f];rfl
theorem qgg:qe Tryz.prog qDQ 0 (qG Tryz.f52 6):=
 qh mixed qIZ (qO.of (l':=[]) (by kernel_rfl) trivial) (q:=6) (kin:=[1,3,4,22,23]) (kout:=[1,2,3,4]) (by kernel_rfl) (by kernel_rfl) fun vs objs K r h=>by
  replace h:qNb vs objs K=some r:=h
  unfold qNb at h
  split at h
  ·skip
   obtain ⟨t,h1,h2⟩:=qE h
   rw [<- qTu] at h1
   refine ⟨_,qNW,t,qB,h1,fun e vs' objs' hd=>?_⟩
   unfold qNW at hd
   split at hd
   ·skip
    cases hd
    exact h2
   ·skip
    cases hd
    exact h2
   ·cases hd
  ·cases h
theorem qge:qe Tryz.prog qDQ 0 (qG Tryz.f52 20):=
 qh mixed qIZ (qO.of (l':=[]) (by kernel_rfl) trivial) (q:=20) (kin:=[1,3,4,51,52,55,56]) (kout:=[1,2,3,4,51,52]) (by kernel_rfl) (by kernel_rfl) fun vs objs K r h=>by
  replace h:qNZ vs objs K=some r:=h
  unfold qNZ at h
  split at h
  ·skip
   obtain ⟨t,h1,h2⟩:=qE h
   rw [<- qTs] at h1
   refine ⟨_,qNS,t,qB,h1,fun e vs' objs' hd=>?_⟩
   unfold qNS at hd
   split at hd
   ·skip
    cases hd
    exact h2
   ·skip
    cases hd
    exact h2
   ·cases hd
  ·cases h
theorem qgf:qe Tryz.prog qDQ 0 (qG Tryz.f52 30):=
 qh mixed qIZ (qO.of (l':=[]) (by kernel_rfl) trivial) (q:=30) (kin:=[1,3,12]) (kout:=[1,2]) (by kernel_rfl) (by kernel_rfl) fun vs objs K r h=>by
  replace h:qNa vs objs K=some r:=h
  unfold qNa at h
  split at h
  ·skip
   obtain ⟨t,h1,h2⟩:=qE h
   rw [<- qTt] at h1
   refine ⟨_,qNU,t,qB,h1,fun e vs' objs' hd=>?_⟩
   unfold qNU at hd
   split at hd
   ·skip
    cases hd
    exact h2
   ·skip
    cases hd
    exact h2
   ·cases hd
  ·cases h
theorem qgd:qe Tryz.prog qDQ 0 (qG Tryz.f52 17):=
 qh mixed qIZ (qO.of (l':=[qG Tryz.f52 20]) (by kernel_rfl) ⟨qge,trivial⟩) (q:=17) (kin:=[1,3,4,51,52]) (kout:=[1,2,3,4]) (by kernel_rfl) (by kernel_rfl) fun vs objs K r h=>by
  replace h:qNY vs objs K=some r:=h
  unfold qNY at h
  split at h
  ·skip
   obtain ⟨t,h1,h2⟩:=qE h
   rw [<- qTr] at h1
   refine ⟨_,qNQ,t,qB,h1,fun e vs' objs' hd=>?_⟩
   unfold qNQ at hd
   split at hd
   ·skip
    cases hd
    exact h2
   ·skip
    cases hd
    exact h2
   ·cases hd
  ·cases h
def qTq:V->List Obj->Option (Int):=fun v objs=>match v,objs with
 | .s (.i .i64 y0),[]=>some (y0)
 | _,_=>none
theorem qgW (x0 x1:LI) (x2:Int):fnE qDQ Tryz.f52 ([.agg [.arr .i8 81 x0,.arr .i8 16 x1,.one [.i .i8 x2]]]) ([]) qTq=qIY x0 x1 x2:=by kernel_rfl
def qTp:HA:=fun o vs objs K=>match vs,objs with
 | [.agg [.arr .i8 81 x0,.arr .i8 16 x1,.one [.i .i8 x2]]],[]=>ob (qIY x0 x1 x2) fun y0=>K false (.s (.i .i64 y0)) ([])
 | _,_=>o 52 vs objs K
def qTv (o:Orc):Orc:=qL 52 (qTp o) o
theorem qgc:OQ Tryz.prog qTv:=fun _ ho=>qN ho fun vs objs K r h=>by
 unfold qTp at h
 split at h
 ·skip
  obtain ⟨t,h1,h2⟩:=qE h
  refine q8 mixed qIZ (fn:=Tryz.f52) (b:=(Tryz.f52).body.getD .skip) (by kernel_rfl) (by kernel_rfl) (by kernel_rfl) ((qgW _ _ _).trans h1) (m:=0) rfl (qO.of (l':=[qG Tryz.f52 6,qG Tryz.f52 17,qG Tryz.f52 30]) (by kernel_rfl) ⟨qgg,qgd,qgf,trivial⟩) fun v objs' hd=>?_
  unfold qTq at hd;split at hd;(cases hd;exact h2);cases hd
 ·exact ho _ _ _ _ _ h
def qNM:Ctx:=mkC 14 (qK) [] qX
theorem qgR:CtxOK Tryz.prog qNM:=mkC_ok (qM)
def qNN:V->List Obj->Option (Int):=fun v objs=>match v,objs with
 | .s (.i .i64 y0),[]=>some (y0)
 | _,_=>none
theorem qgQ (B:{R:Type}->Bool->Option R->Option R->Option R) (x0:Int):fnE { qNM with brg:=B } Tryz.f149 ([.s (.i .u64 x0)]) ([]) qNN=qNL B x0:=by kernel_rfl
theorem qgP (x0:Int):fnE qNM Tryz.f149 ([.s (.i .u64 x0)]) ([]) qNN=qEv x0:=qgQ br x0
def qTk:HA:=fun o vs objs K=>match vs,objs with
 | [.s (.i .u64 x0)],[]=>ob (qEv x0) fun y0=>K false (.s (.i .i64 y0)) ([])
 | _,_=>o 149 vs objs K
def qNO (o:Orc):Orc:=qL 149 (qTk o) o
theorem qTl:OQ Tryz.prog qNO:=fun _ ho=>qN ho fun vs objs K r h=>by
 unfold qTk at h
 split at h
 ·skip
  obtain ⟨t,h1,h2⟩:=qE h
  refine qf mixed qgR ((qgP _).trans h1) (by kernel_rfl) fun v objs' hd=>?_
  unfold qNN at hd;split at hd;(cases hd;exact h2);cases hd
 ·exact ho _ _ _ _ _ h
def qcf:Ctx:=mkC 18 ((qNO qK)) [] qX
theorem qrM:CtxOK Tryz.prog qcf:=mkC_ok ((qTl _ qM))
def qcg:V->List Obj->Option (Int):=fun v objs=>match v,objs with
 | .s (.i .i64 y0),[]=>some (y0)
 | _,_=>none
theorem qrL (x0 x1:Int):fnE qcf Tryz.f126 ([.agg [.one [.i .u64 x0,.i .u64 x1]]]) ([]) qcg=qGS x0 x1:=by kernel_rfl
def qce:HA:=fun o vs objs K=>match vs,objs with
 | [.agg [.one [.i .u64 x0,.i .u64 x1]]],[]=>ob (qGS x0 x1) fun y0=>K false (.s (.i .i64 y0)) ([])
 | _,_=>o 126 vs objs K
def qMF (o:Orc):Orc:=qL 126 (qce o) o
theorem qRu:OQ Tryz.prog qMF:=fun _ ho=>qN ho fun vs objs K r h=>by
 unfold qce at h
 split at h
 ·skip
  obtain ⟨t,h1,h2⟩:=qE h
  refine qf mixed qrM ((qrL _ _).trans h1) (by kernel_rfl) fun v objs' hd=>?_
  unfold qcg at hd;split at hd;(cases hd;exact h2);cases hd
 ·exact ho _ _ _ _ _ h
def qT4:Ctx:=mkC 9 ((qMF (qFt qK))) [] qX
theorem qgn:CtxOK Tryz.prog qT4:=mkC_ok ((qRu _ (qGr _ qM)))
def qT5:V->List Obj->Option (Int):=fun v objs=>match v,objs with
 | .s (.i .i64 y0),[]=>some (y0)
 | _,_=>none
theorem qgm (x0:Int) (x1 x2:LI) (x3:Int) (x4 x5:LL):fnE qT4 Tryz.f112 ([.s (.ptr 0 0 none 0),.s (.i .i64 x0)]) ([.rcells 72 [.arr .i8 81 x1,.arr .i8 16 x2,.one [.i .i8 x3],.rows [.i .u64,.i .u64] 32 x4,.rows [.i .u64,.i .u64] 2 x5]]) (qAP 1 qT5)=qFr x0 x1 x2 x3 x4 x5:=by kernel_rfl
def qT3:HA:=fun o vs objs K=>match vs,List.map Obj.toRO objs with
 | [.s (.ptr 0 0 none 0),.s (.i .i64 x0)],[.rcells 72 [.arr .i8 81 x1,.arr .i8 16 x2,.one [.i .i8 x3],.rows [.i .u64,.i .u64] 32 x4,.rows [.i .u64,.i .u64] 2 x5]]=>ob (qFr x0 x1 x2 x3 x4 x5) fun y0=>K true (.s (.i .i64 y0)) ([])
 | _,_=>o 112 vs objs K
def qKB (o:Orc):Orc:=qL 112 (qT3 o) o
theorem qNd:OQ Tryz.prog qKB:=fun _ ho=>qN ho fun vs objs K r h=>by
 unfold qT3 at h
 split at h
 ·skip
  have hq:List.map Obj.toRO objs=_:=(by rename_i hq;first | exact hq | assumption)
  obtain ⟨t,h1,h2⟩:=qE h
  refine qAn mixed qgn (m:=1) (fn:=Tryz.f112) (b:=(Tryz.f112).body.getD .skip) (by kernel_rfl) (by kernel_rfl) (by kernel_rfl) hq (by kernel_rfl) (by kernel_rfl) (qO.of (l':=[]) (by kernel_rfl) trivial) ((qgm _ _ _ _ _ _).trans h1) fun v objs' hd=>?_
  unfold qT5 at hd;split at hd;(cases hd;exact h2);cases hd
 ·exact ho _ _ _ _ _ h
def qUW:Ctx:=mkC 14 ((qGU qK)) [] qX
theorem qg9:CtxOK Tryz.prog qUW:=mkC_ok ((qIE _ qM))
def qUX:V->List Obj->Option (Int×Int):=fun v objs=>match v,objs with
 | .agg [.one [.i .u64 y0,.i .u64 y1]],[]=>some (y0,y1)
 | _,_=>none
theorem qg8 (x0 x1:LI) (x2:Int) (x3 x4:LL):fnE qUW Tryz.f113 ([.s (.ptr 0 0 none 0)]) ([.rcells 72 [.arr .i8 81 x0,.arr .i8 16 x1,.one [.i .i8 x2],.rows [.i .u64,.i .u64] 32 x3,.rows [.i .u64,.i .u64] 2 x4]]) (qAP 1 qUX)=qC4 x0 x1 x2 x3 x4:=by kernel_rfl
def qUV:HA:=fun o vs objs K=>match vs,List.map Obj.toRO objs with
 | [.s (.ptr 0 0 none 0)],[.rcells 72 [.arr .i8 81 x0,.arr .i8 16 x1,.one [.i .i8 x2],.rows [.i .u64,.i .u64] 32 x3,.rows [.i .u64,.i .u64] 2 x4]]=>ob (qC4 x0 x1 x2 x3 x4) fun z=>K true (.agg [.one [.i .u64 (z.1),.i .u64 (z.2)]]) ([])
 | _,_=>o 113 vs objs K
def qGt (o:Orc):Orc:=qL 113 (qUV o) o
theorem qIa:OQ Tryz.prog qGt:=fun _ ho=>qN ho fun vs objs K r h=>by
 unfold qUV at h
 split at h
 ·skip
  have hq:List.map Obj.toRO objs=_:=(by rename_i hq;first | exact hq | assumption)
  obtain ⟨t,h1,h2⟩:=qE h
  refine qAn mixed qg9 (m:=1) (fn:=Tryz.f113) (b:=(Tryz.f113).body.getD .skip) (by kernel_rfl) (by kernel_rfl) (by kernel_rfl) hq (by kernel_rfl) (by kernel_rfl) (qO.of (l':=[]) (by kernel_rfl) trivial) ((qg8 _ _ _ _ _).trans h1) fun v objs' hd=>?_
  unfold qUX at hd;split at hd;(cases hd;exact h2);cases hd
 ·exact ho _ _ _ _ _ h
def qGZ (n:Nat) {R:Type} (o:Orc) (vs:List V) (objs:List Obj) (K:Bool->V->List Obj->Option R):Option R:=match vs,objs with
 | [.s (.i .i64 x0)],[]=>ob (qGY n x0) fun z=>K false (.s (.sl 0 0 (z.1) true)) ([.sli 164 false (.rows [.i .i64,.i .i64] (z.2.1) (z.2.2))])
 | _,_=>o 160 vs objs K
def qSN (n:Nat) (o:Orc):Orc:=fun f vs objs K=>bif Nat.beq f 160 then qGZ n o vs objs K else o f vs objs K
def qsY (n:Nat):Orc:=qSN n qK
def qdj (n:Nat):Ctx:=mkC 57 (qsY n) [] qX
def qdk:V->List Obj->Option (Nat×Nat×LL):=fun v objs=>match v,objs with
 | .s (.sl 0 0 y0 true),[.sli 164 false (.rows [.i .i64,.i .i64] y1 y2)]=>some (y0,y1,y2)
 | _,_=>none
theorem qsV (n:Nat) (x0:Int):fnE (qdj n) Tryz.f160 ([.s (.i .i64 x0)]) ([]) qdk=qGY (n+1) x0:=by kernel_rfl
theorem qsW (n:Nat) (hc:CtxOK Tryz.prog (qdj n)) {vs:List V} {objs:List Obj} (x0:Int) {R:Type} {K:Bool->V->List Obj->Option R} {r:R} (hv:vs=[.s (.i .i64 x0)]) (ho:objs=[]) (h:ob (qGY (n+1) x0) (fun z=>K false (.s (.sl 0 0 (z.1) true)) ([.sli 164 false (.rows [.i .i64,.i .i64] (z.2.1) (z.2.2))]))=some r):
  ∃ p v objs',K p v objs'=some r /\ qD8 Tryz.prog 160 vs objs p v objs':=by
 subst hv
 subst ho
 obtain ⟨t,h1,h2⟩:=qE h
 refine qM0 mixed hc (objs:=[]) (fn:=Tryz.f160) (b:=(Tryz.f160).body.getD .skip) (by kernel_rfl) (by kernel_rfl) (by kernel_rfl) (qO.of (l':=[]) (by kernel_rfl) trivial) ((qsV n x0).trans h1) fun v objs' hd=>?_
 unfold qdk at hd;split at hd;(cases hd;exact h2);cases hd
theorem qsX:∀ (n:Nat) (o:Orc) (_:qCx Tryz.prog o),qCx Tryz.prog (qSN n o):=by
 intro n
 induction n with
 | zero=>
   intro o ho R f vs objs K r h
   replace h:(bif Nat.beq f 160 then qGZ 0 o vs objs K else o f vs objs K)=some r:=h
   cases hf:Nat.beq f 160 with
   | false=>rw [hf] at h;exact ho f vs objs K r h
   | true=>
     rw [hf] at h
     have e:=Nat.eq_of_beq_eq_true hf
     subst e
     replace h:qGZ 0 o vs objs K=some r:=h
     unfold qGZ at h
     split at h
     ·skip
      cases h
     ·exact ho _ _ _ _ _ h
 | succ n ih=>
   intro o ho R f vs objs K r h
   replace h:(bif Nat.beq f 160 then qGZ (n+1) o vs objs K else o f vs objs K)=some r:=h
   cases hf:Nat.beq f 160 with
   | false=>rw [hf] at h;exact ho f vs objs K r h
   | true=>
     rw [hf] at h
     have e:=Nat.eq_of_beq_eq_true hf
     subst e
     replace h:qGZ (n+1) o vs objs K=some r:=h
     unfold qGZ at h
     split at h
     ·skip
      exact qsW n ⟨tab_ok,ih _ qM,eqs_ok,bytes_ok,fun _ _ _=>rfl,exts_ok⟩ _ rfl rfl h
     ·exact ho _ _ _ _ _ h
def qdg:Ctx:=mkC 15 (qK) [] qX
theorem qsU:CtxOK Tryz.prog qdg:=mkC_ok (qM)
def qdh:V->List Obj->Option (Int×Int):=fun v objs=>match v,objs with
 | .agg [.one [.i .i64 y0,.i .i64 y1]],[]=>some (y0,y1)
 | _,_=>none
theorem qsT (x0 x1 x2:Int):fnE qdg Tryz.f151 ([.agg [.one [.i .i64 x0,.i .i64 x1]],.s (.i .i64 x2)]) ([]) qdh=qFg x0 x1 x2:=by kernel_rfl
def qdf:HA:=fun o vs objs K=>match vs,objs with
 | [.agg [.one [.i .i64 x0,.i .i64 x1]],.s (.i .i64 x2)],[]=>ob (qFg x0 x1 x2) fun z=>K false (.agg [.one [.i .i64 (z.1),.i .i64 (z.2)]]) ([])
 | _,_=>o 151 vs objs K
def qSM (o:Orc):Orc:=qL 151 (qdf o) o
theorem qdi:OQ Tryz.prog qSM:=fun _ ho=>qN ho fun vs objs K r h=>by
 unfold qdf at h
 split at h
 ·skip
  obtain ⟨t,h1,h2⟩:=qE h
  refine qf mixed qsU ((qsT _ _ _).trans h1) (by kernel_rfl) fun v objs' hd=>?_
  unfold qdh at hd;split at hd;(cases hd;exact h2);cases hd
 ·exact ho _ _ _ _ _ h
def qcc:Ctx:=mkC 5 (qK) [] qX
theorem qrK:CtxOK Tryz.prog qcc:=mkC_ok (qM)
def qcd:V->List Obj->Option (Int):=fun v objs=>match v,objs with
 | .s (.i .i64 y0),[]=>some (y0)
 | _,_=>none
theorem qrJ (x0:Int):fnE qcc Tryz.f104 ([.s (.i .i64 x0)]) ([]) qcd=qGR x0:=by kernel_rfl
def qcb:HA:=fun o vs objs K=>match vs,objs with
 | [.s (.i .i64 x0)],[]=>ob (qGR x0) fun y0=>K false (.s (.i .i64 y0)) ([])
 | _,_=>o 104 vs objs K
def qME (o:Orc):Orc:=qL 104 (qcb o) o
theorem qRt:OQ Tryz.prog qME:=fun _ ho=>qN ho fun vs objs K r h=>by
 unfold qcb at h
 split at h
 ·skip
  obtain ⟨t,h1,h2⟩:=qE h
  refine qf mixed qrK ((qrJ _).trans h1) (by kernel_rfl) fun v objs' hd=>?_
  unfold qcd at hd;split at hd;(cases hd;exact h2);cases hd
 ·exact ho _ _ _ _ _ h
def qdc:Ctx:=mkC 42 ((set_Squareo (qMK (qME qK)))) [] qX
theorem qsS:CtxOK Tryz.prog qdc:=mkC_ok ((set_Squareo_ok _ (qR3 _ (qRt _ qM))))
def qdd:V->List Obj->Option (Int):=fun v objs=>match v,objs with
 | .s (.i .i64 y0),[]=>some (y0)
 | _,_=>none
theorem qsR (x0 x1 x2:Int):fnE qdc Tryz.f159 ([.agg [.one [.i .i64 x0,.i .i64 x1]],.s (.i .i64 x2)]) ([]) qdd=qGX x0 x1 x2:=by kernel_rfl
def qdb:HA:=fun o vs objs K=>match vs,objs with
 | [.agg [.one [.i .i64 x0,.i .i64 x1]],.s (.i .i64 x2)],[]=>ob (qGX x0 x1 x2) fun y0=>K false (.s (.i .i64 y0)) ([])
 | _,_=>o 159 vs objs K
def qSL (o:Orc):Orc:=qL 159 (qdb o) o
theorem qde:OQ Tryz.prog qSL:=fun _ ho=>qN ho fun vs objs K r h=>by
 unfold qdb at h
 split at h
 ·skip
  obtain ⟨t,h1,h2⟩:=qE h
  refine qf mixed qsS ((qsR _ _ _).trans h1) (by kernel_rfl) fun v objs' hd=>?_
  unfold qdd at hd;split at hd;(cases hd;exact h2);cases hd
 ·exact ho _ _ _ _ _ h
def qSP:Ex->List V->List Obj->Option (Int×Int×Int×Int):=fun e vs objs=>match e,vs,objs with
 | .exit 0,[.s (.ptr 0 0 none 0),.s (.ptr 1 0 none 0)],[.cells 68 [.one [.i .u64 y0,.i .u64 y1]],.cells 68 [.one [.i .u64 y2,.i .u64 y3]]]=>some (y0,y1,y2,y3)
 | _,_,_=>none
def qSR:HL:=fun vs objs K=>match vs,objs with
 | [.s (.i .i8 x0),.s (.i .i64 x1),.s (.ptr 0 0 none 0),.s (.ptr 1 0 none 0),.s (.sl 2 0 x2 true),.s (.i .i64 x3),.s (.i .i64 x4)],[.cells 68 [.one [.i .u64 x5,.i .u64 x6]],.cells 68 [.one [.i .u64 x7,.i .u64 x8]],.sli 164 false (.rows [.i .i64,.i .i64] x9 x10)]=>ob (qFi qB x0 x1 x2 x3 x4 x5 x6 x7 x8 x9 x10) fun z=>K (.exit 0) ([.s (.ptr 0 0 none 0),.s (.ptr 1 0 none 0)]) ([.cells 68 [.one [.i .u64 (z.1),.i .u64 (z.2.1)]],.cells 68 [.one [.i .u64 (z.2.2.1),.i .u64 (z.2.2.2)]]])
 | _,_=>none
def qse:{R:Type}->Nat->List V->List Obj->(Ex->List V->List Obj->Option R)->Option R:=fun q vs objs K=>bif Nat.beq q 3 then qSR vs objs K else none
def qMW:Ctx:=mkC 26 ((qEe (qSL (qSM (qDo (qSN qB (qCr qK))))))) [(3,[0,1,4,5,10,11,12],[4,5])] qse
theorem qdq:CtxOK Tryz.prog qMW:=mkC_ok ((qFe _ (qde _ (qdi _ (qEV _ (qsX qB _ (qDC _ qM)))))))
def qSQ (f:Nat) (x0 x1:Int) (x2:Nat) (x3 x4:Int) (x5 x6:Int) (x7 x8:Int) (x9:Nat) (x10:LL):Option (Int×Int×Int×Int):=qg qMW 0 [0,1,4,5,10,11,12] [4,5] (qG Tryz.f150 3) f ([.s (.i .i8 x0),.s (.i .i64 x1),.s (.ptr 0 0 none 0),.s (.ptr 1 0 none 0),.s (.sl 2 0 x2 true),.s (.i .i64 x3),.s (.i .i64 x4)]) ([.cells 68 [.one [.i .u64 x5,.i .u64 x6]],.cells 68 [.one [.i .u64 x7,.i .u64 x8]],.sli 164 false (.rows [.i .i64,.i .i64] x9 x10)]) qSP
theorem qsd (f:Nat) (x0 x1:Int) (x2:Nat) (x3 x4:Int) (x5 x6:Int) (x7 x8:Int) (x9:Nat) (x10:LL):qSQ (f+1) x0 x1 x2 x3 x4 x5 x6 x7 x8 x9 x10=qIL (qSQ f) x0 x1 x2 x3 x4 x5 x6 x7 x8 x9 x10:=by kernel_rfl
theorem qds:∀ f,qSQ f=qFi f
 | 0=>rfl
 | f+1=>by funext x0 x1 x2 x3 x4 x5 x6 x7 x8 x9 x10;rw [qsd,qds f];rfl
theorem qsg:qe Tryz.prog qMW 0 (qG Tryz.f150 3):=
 qh mixed qdq (qO.of (l':=[]) (by kernel_rfl) trivial) (q:=3) (kin:=[0,1,4,5,10,11,12]) (kout:=[4,5]) (by kernel_rfl) (by kernel_rfl) fun vs objs K r h=>by
  replace h:qSR vs objs K=some r:=h
  unfold qSR at h
  split at h
  ·skip
   obtain ⟨t,h1,h2⟩:=qE h
   rw [<- qds] at h1
   refine ⟨_,qSP,t,qB,h1,fun e vs' objs' hd=>?_⟩
   unfold qSP at hd;split at hd;(cases hd;exact h2);cases hd
  ·cases h
def qdr:V->List Obj->Option (Int×Int):=fun v objs=>match v,objs with
 | .agg [.one [.i .u64 y0,.i .u64 y1]],[]=>some (y0,y1)
 | _,_=>none
theorem qsc (x0 x1:Int):fnE qMW Tryz.f150 ([.s (.i .i8 x0),.s (.i .i64 x1)]) ([]) qdr=qJf x0 x1:=by kernel_rfl
def qdp:HA:=fun o vs objs K=>match vs,objs with
 | [.s (.i .i8 x0),.s (.i .i64 x1)],[]=>ob (qJf x0 x1) fun z=>K false (.agg [.one [.i .u64 (z.1),.i .u64 (z.2)]]) ([])
 | _,_=>o 150 vs objs K
def qdt (o:Orc):Orc:=qL 150 (qdp o) o
theorem qsf:OQ Tryz.prog qdt:=fun _ ho=>qN ho fun vs objs K r h=>by
 unfold qdp at h
 split at h
 ·skip
  obtain ⟨t,h1,h2⟩:=qE h
  refine q8 mixed qdq (fn:=Tryz.f150) (b:=(Tryz.f150).body.getD .skip) (by kernel_rfl) (by kernel_rfl) (by kernel_rfl) ((qsc _ _).trans h1) (m:=0) rfl (qO.of (l':=[qG Tryz.f150 3]) (by kernel_rfl) ⟨qsg,trivial⟩) fun v objs' hd=>?_
  unfold qdr at hd;split at hd;(cases hd;exact h2);cases hd
 ·exact ho _ _ _ _ _ h
def qaA:Ctx:=mkC 24 (qK) [] qX
theorem qod:CtxOK Tryz.prog qaA:=mkC_ok (qM)
def qaB:V->List Obj->Option (Nat×Nat×LL):=fun v objs=>match v,objs with
 | .s (.sl 0 0 y0 true),[.sli 164 false (.rows [.i .i64,.i .i64] y1 y2)]=>some (y0,y1,y2)
 | _,_=>none
theorem qoc (x0:Int):fnE qaA Tryz.f146 ([.s (.i .i64 x0)]) ([]) qaB=qGG x0:=by kernel_rfl
def qZ9:HA:=fun o vs objs K=>match vs,objs with
 | [.s (.i .i64 x0)],[]=>ob (qGG x0) fun z=>K false (.s (.sl 0 0 (z.1) true)) ([.sli 164 false (.rows [.i .i64,.i .i64] (z.2.1) (z.2.2))])
 | _,_=>o 146 vs objs K
def qQj (o:Orc):Orc:=qL 146 (qZ9 o) o
theorem qaC:OQ Tryz.prog qQj:=fun _ ho=>qN ho fun vs objs K r h=>by
 unfold qZ9 at h
 split at h
 ·skip
  obtain ⟨t,h1,h2⟩:=qE h
  refine qf mixed qod ((qoc _).trans h1) (by kernel_rfl) fun v objs' hd=>?_
  unfold qaB at hd;split at hd;(cases hd;exact h2);cases hd
 ·exact ho _ _ _ _ _ h
end
end Go.Kk.KkLO
