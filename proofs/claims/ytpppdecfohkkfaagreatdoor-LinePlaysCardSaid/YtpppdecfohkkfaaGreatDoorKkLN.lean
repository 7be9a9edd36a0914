/- Printed by a tool of this project (KkGen): the program's functions come to the plain ones. -/
import Derived.Test.YtpppdecfohkkfaaGreatDoorProg
import Derived.Test.YtpppdecfohkkfaaGreatDoorKkTold
import Derived.Test.YtpppdecfohkkfaaGreatDoorKkPl
namespace Go.Kk.KkLN
noncomputable section
open Go.Proofs Go.Kk.Pl
set_option maxRecDepth 100000
set_option maxHeartbeats 4000000
def tab:Tab:=[(1,.sc (.f)),
 (2,.sc (.i .i64)),
 (3,.sc (.i .i64)),
 (4,.sc (.b)),
 (5,.sc (.i .u8)),
 (6,.sc (.i .u8)),
 (7,.st [.one [.i .i64,.i .i64,.b,.i .u8]] [(0,0,2),(0,1,3),(0,2,4),(0,3,6)]),
 (8,.st [.one [.i .i64,.i .i64,.b,.i .u8]] [(0,0,2),(0,1,3),(0,2,4),(0,3,6)]),
 (9,.sc (.str)),
 (10,.sc (.str)),
 (11,.sc (.str)),
 (12,.sc (.i .u64)),
 (13,.st [.one [.str,.i .u64]] [(0,0,9),(0,1,12)]),
 (14,.st [.one [.str,.i .u64]] [(0,0,9),(0,1,12)]),
 (15,.sc (.p)),
 (16,.sc (.p)),
 (17,.sc (.p)),
 (18,.st [.one [.p]] [(0,0,17)]),
 (19,.st [.one [.p]] [(0,0,17)]),
 (21,.sc (.i .i32)),
 (22,.sc (.i .i8)),
 (23,.sc (.i .i8)),
 (24,.ar 81 1 23 (.arr .i8 81)),
 (25,.ar 8 1 22 (.arr .i8 8)),
 (26,.ar 2 8 25 (.arr .i8 16)),
 (27,.st [.arr .i8 81,.arr .i8 16,.one [.i .i8]] [(0,0,24),(1,0,26),(2,0,22)]),
 (28,.st [.arr .i8 81,.arr .i8 16,.one [.i .i8]] [(0,0,24),(1,0,26),(2,0,22)]),
 (29,.sc (.sl 37)),
 (30,.sc (.f)),
 (31,.sc (.i .i64)),
 (33,.sc (.f)),
 (34,.sc (.f)),
 (35,.sc (.f)),
 (36,.st [.one [.i .i64,.i .i64,.i .i64,.b]] [(0,0,3),(0,1,3),(0,2,3),(0,3,4)]),
 (37,.st [.one [.i .i64,.i .i64,.i .i64,.b]] [(0,0,3),(0,1,3),(0,2,3),(0,3,4)]),
 (38,.sc (.f)),
 (39,.sc (.f)),
 (40,.sc (.f)),
 (41,.sc (.f)),
 (43,.sc (.f)),
 (44,.sc (.f)),
 (46,.sc (.f)),
 (47,.sc (.f)),
 (48,.sc (.sl 3)),
 (49,.sc (.f)),
 (50,.sc (.f)),
 (52,.sc (.f)),
 (53,.sc (.f)),
 (54,.sc (.f)),
 (55,.sc (.f)),
 (56,.sc (.f)),
 (57,.sc (.f)),
 (58,.sc (.p)),
 (59,.sc (.f)),
 (60,.sc (.f)),
 (61,.sc (.p)),
 (62,.sc (.i .u64)),
 (63,.sc (.i .u64)),
 (64,.sc (.sl 98)),
 (65,.st [.one [.p,.i .u64,.sl 98]] [(0,0,61),(0,1,63),(0,2,64)]),
 (66,.st [.one [.p,.i .u64,.sl 98]] [(0,0,61),(0,1,63),(0,2,64)]),
 (67,.st [.one [.i .u64,.i .u64]] [(0,0,62),(0,1,62)]),
 (68,.st [.one [.i .u64,.i .u64]] [(0,0,62),(0,1,62)]),
 (69,.ar 32 1 68 (.rows [.i .u64,.i .u64] 32)),
 (70,.ar 2 1 68 (.rows [.i .u64,.i .u64] 2)),
 (71,.st [.arr .i8 81,.arr .i8 16,.one [.i .i8],.rows [.i .u64,.i .u64] 32,.rows [.i .u64,.i .u64] 2] [(0,0,28),(3,0,69),(4,0,70)]),
 (72,.st [.arr .i8 81,.arr .i8 16,.one [.i .i8],.rows [.i .u64,.i .u64] 32,.rows [.i .u64,.i .u64] 2] [(0,0,28),(3,0,69),(4,0,70)]),
 (73,.sc (.f)),
 (74,.sc (.f)),
 (75,.sc (.f)),
 (76,.sc (.f)),
 (77,.sc (.sl 9)),
 (78,.sc (.f)),
 (79,.sc (.f)),
 (81,.sc (.f)),
 (82,.sc (.f)),
 (83,.sc (.f)),
 (84,.sc (.f)),
 (85,.sc (.f)),
 (86,.sc (.f)),
 (87,.ar 81 1 4 (.barr 81)),
 (88,.sc (.f)),
 (89,.sc (.f)),
 (90,.sc (.f)),
 (91,.ar 9 1 3 (.arr .i64 9)),
 (92,.sc (.f)),
 (93,.sc (.f)),
 (94,.sc (.f)),
 (95,.sc (.f)),
 (96,.sc (.f)),
 (97,.st [.one [.i .i64,.i .i64,.i .i64,.b,.i .i8,.i .i8]] [(0,0,37),(0,4,23),(0,5,23)]),
 (98,.st [.one [.i .i64,.i .i64,.i .i64,.b,.i .i8,.i .i8]] [(0,0,37),(0,4,23),(0,5,23)]),
 (99,.sc (.f)),
 (100,.sc (.f)),
 (101,.sc (.f)),
 (102,.sc (.f)),
 (103,.sc (.f)),
 (104,.sc (.f)),
 (105,.sc (.f)),
 (106,.sc (.f)),
 (107,.sc (.p)),
 (108,.sc (.sl 5)),
 (109,.st [.one [.p,.sl 5]] [(0,0,107),(0,1,108)]),
 (110,.st [.one [.p,.sl 5]] [(0,0,107),(0,1,108)]),
 (111,.sc (.f)),
 (115,.sc (.f)),
 (116,.sc (.f)),
 (117,.sc (.f)),
 (118,.sc (.sl 21)),
 (119,.sc (.f)),
 (121,.sc (.f)),
 (122,.sc (.f)),
 (123,.sc (.f)),
 (124,.ar 2 1 3 (.arr .i64 2)),
 (125,.sc (.f)),
 (126,.sc (.f)),
 (127,.sc (.f)),
 (128,.sc (.m 3 68)),
 (129,.st [.one [.p,.i .i64,.i .i64,.i .u64,.i .u64,.m 3 68,.b]] [(0,0,61),(0,1,3),(0,2,3),(0,3,68),(0,5,128),(0,6,4)]),
 (130,.st [.one [.p,.i .i64,.i .i64,.i .u64,.i .u64,.m 3 68,.b]] [(0,0,61),(0,1,3),(0,2,3),(0,3,68),(0,5,128),(0,6,4)]),
 (131,.sc (.f)),
 (132,.sc (.f)),
 (133,.sc (.f)),
 (134,.sc (.p)),
 (135,.sc (.f)),
 (136,.sc (.f)),
 (137,.sc (.f)),
 (138,.sc (.f)),
 (139,.sc (.f)),
 (140,.sc (.f)),
 (141,.sc (.f)),
 (142,.sc (.f)),
 (143,.sc (.f)),
 (144,.sc (.f)),
 (145,.sc (.f)),
 (146,.sc (.f)),
 (147,.sc (.f)),
 (149,.sc (.f)),
 (150,.sc (.f)),
 (152,.sc (.f)),
 (153,.sc (.f)),
 (155,.sc (.f)),
 (156,.sc (.f)),
 (158,.sc (.f)),
 (159,.sc (.f)),
 (160,.sc (.i .u64)),
 (161,.sc (.sl 164)),
 (162,.sc (.f)),
 (163,.st [.one [.i .i64,.i .i64]] [(0,0,3),(0,1,3)]),
 (164,.st [.one [.i .i64,.i .i64]] [(0,0,3),(0,1,3)]),
 (165,.sc (.f)),
 (166,.sc (.f)),
 (167,.sc (.f)),
 (168,.sc (.f)),
 (169,.ar 64 1 5 (.arr .u8 64)),
 (170,.ar 256 1 5 (.arr .u8 256)),
 (171,.st [.one [.i .u8,.i .u8]] [(0,0,5),(0,1,5)]),
 (172,.st [.one [.i .u8,.i .u8]] [(0,0,5),(0,1,5)]),
 (173,.ar 16 1 172 (.rows [.i .u8,.i .u8] 16)),
 (174,.sc (.i .u32)),
 (176,.sc (.f)),
 (177,.st [.one [.p,.p,.p,.str]] [(0,0,17),(0,1,17),(0,2,17),(0,3,9)]),
 (178,.st [.one [.p,.p,.p,.str]] [(0,0,17),(0,1,17),(0,2,17),(0,3,9)]),
 (182,.sc (.i .u8)),
 (183,.sc (.i .u8)),
 (184,.sc (.f)),
 (185,.sc (.i .i32)),
 (186,.sc (.i .i32)),
 (187,.st [.one [.i .u64,.i .u64,.i .u32,.i .u8,.i .u8,.i .u8,.i .u8,.f,.p,.i .i32,.i .i32]] [(0,0,12),(0,1,12),(0,2,174),(0,3,182),(0,4,5),(0,5,5),(0,6,183),(0,7,184),(0,8,134),(0,9,185),(0,10,186)]),
 (188,.st [.one [.i .u64,.i .u64,.i .u32,.i .u8,.i .u8,.i .u8,.i .u8,.f,.p,.i .i32,.i .i32]] [(0,0,12),(0,1,12),(0,2,174),(0,3,182),(0,4,5),(0,5,5),(0,6,183),(0,7,184),(0,8,134),(0,9,185),(0,10,186)])]
def eqs:List TypeId:=[3,9,24,25,26,27,28,31,36,37,67,68,124,163,164]
def bytes:List (TypeId×Nat):=[(37,32),(3,8),(98,40),(9,16),(5,1),(21,4),(164,16)]
theorem mixed:Tryz.prog.follows .mixedOrders=true:=by kernel_rfl
theorem tab_ok:∀ t L,Tab.get tab t=some L->LayOK Tryz.prog tab t L:=qfM (P:=Tryz.prog) (tab:=tab) (l:=tab) (by kernel_rfl)
theorem eqs_ok:∀ t L,qEP t eqs=true->Tab.get tab t=some L->∃ f ck,f<=10000 /\ qBB Tryz.prog f t=some ck /\ qBU L.segTs=some ck /\ Tryz.prog.eqGuardType Tryz.prog.depth t=false:=qVz (P:=Tryz.prog) (tab:=tab) (l:=eqs) (by kernel_rfl)
theorem bytes_ok:∀ t n,byN t bytes=some n->∃ i,Tryz.prog.info? t=some i /\ i.bytes=n:=qU5 (P:=Tryz.prog) (l:=bytes) (by kernel_rfl)
def mkC (nt:Nat) (orc:Orc) (keeps:List (Nat×List Nat×List Nat)) (lp:{R:Type}->Nat->List V->List Obj->(Ex->List V->List Obj->Option R)->Option R):Ctx:={ tab:=tab,eqs:=eqs,bytes:=bytes,nt:=nt,orc:=orc,keeps:=keeps,lp:=lp }
theorem exts_ok:qM6 Tryz.prog:=exts_told
theorem mkC_ok {nt:Nat} {orc:Orc} {keeps:List (Nat×List Nat×List Nat)} {lp:{R:Type}->Nat->List V->List Obj->(Ex->List V->List Obj->Option R)->Option R} (h:qCx Tryz.prog orc):CtxOK Tryz.prog (mkC nt orc keeps lp):=⟨tab_ok,h,eqs_ok,bytes_ok,fun _ _ _=>rfl,exts_ok⟩
def set_Squarec:Ctx:=mkC 23 (qI) [] qU
theorem set_Squarec_ok:CtxOK Tryz.prog set_Squarec:=mkC_ok (qK)
def set_Squared:V->List Obj->Option (Int):=fun v objs=>match v,objs with
 | .s (.i .i64 y0),[]=>some (y0)
 | _,_=>none
theorem set_Square_eq (x0 x1:Int):fnE set_Squarec Tryz.f50 ([.s (.i .i64 x0),.s (.i .i64 x1)]) ([]) set_Squared=qCZ x0 x1:=by kernel_rfl
def set_Squarea:HA:=fun o vs objs K=>match vs,objs with
 | [.s (.i .i64 x0),.s (.i .i64 x1)],[]=>ob (qCZ x0 x1) fun y0=>K false (.s (.i .i64 y0)) ([])
 | _,_=>o 50 vs objs K
def set_Squareo (o:Orc):Orc:=qJ 50 (set_Squarea o) o
theorem set_Squareo_ok:OQ Tryz.prog set_Squareo:=fun _ ho=>qL ho fun vs objs K r h=>by
 unfold set_Squarea at h
 split at h
 ·skip
  obtain ⟨t,h1,h2⟩:=qD h
  refine qX mixed set_Squarec_ok ((set_Square_eq _ _).trans h1) (by kernel_rfl) fun v objs' hd=>?_
  unfold set_Squared at hd;split at hd;(cases hd;exact h2);cases hd
 ·exact ho _ _ _ _ _ h
def qUj:Ctx:=mkC 14 ((set_Squareo qI)) [] qU
theorem qhc:CtxOK Tryz.prog qUj:=mkC_ok ((set_Squareo_ok _ qK))
def qUk:V->List Obj->Option (Int):=fun v objs=>match v,objs with
 | .s (.i .i64 y0),[]=>some (y0)
 | _,_=>none
theorem qhb (x0 x1 x2:Int):fnE qUj Tryz.f49 ([.s (.i .i64 x0),.s (.ptr 0 0 none 0),.s (.ptr 1 0 none 0)]) ([.rcells 3 [.one [.i .i64 x1]],.rcells 3 [.one [.i .i64 x2]]]) (qAK 2 qUk)=qKQ x0 x1 x2:=by kernel_rfl
def qUi:HA:=fun o vs objs K=>match vs,List.map Obj.toRO objs with
 | [.s (.i .i64 x0),.s (.ptr 0 0 none 0),.s (.ptr 1 0 none 0)],[.rcells 3 [.one [.i .i64 x1]],.rcells 3 [.one [.i .i64 x2]]]=>ob (qKQ x0 x1 x2) fun y0=>K true (.s (.i .i64 y0)) ([])
 | _,_=>o 49 vs objs K
def qUl (o:Orc):Orc:=qJ 49 (qUi o) o
theorem qhd:OQ Tryz.prog qUl:=fun _ ho=>qL ho fun vs objs K r h=>by
 unfold qUi at h
 split at h
 ·skip
  have hq:List.map Obj.toRO objs=_:=(by rename_i hq; first | exact hq | assumption)
  obtain ⟨t,h1,h2⟩:=qD h
  refine qAc mixed qhc (m:=2) (fn:=Tryz.f49) (b:=(Tryz.f49).body.getD .skip) (by kernel_rfl) (by kernel_rfl) (by kernel_rfl) hq (by kernel_rfl) (by kernel_rfl) (qM.of (l':=[]) (by kernel_rfl) trivial) ((qhb _ _ _).trans h1) fun v objs' hd=>?_
  unfold qUk at hd;split at hd;(cases hd;exact h2);cases hd
 ·exact ho _ _ _ _ _ h
def qZc:Ctx:=mkC 28 (qI) [] qU
theorem qn8:CtxOK Tryz.prog qZc:=mkC_ok (qK)
def qZd:V->List Obj->Option (Int):=fun v objs=>match v,objs with
 | .s (.i .i8 y0),[]=>some (y0)
 | _,_=>none
theorem qn7 (x0 x1:Int):fnE qZc Tryz.f51 ([.s (.i .i64 x0),.s (.i .i64 x1)]) ([]) qZd=qAi x0 x1:=by kernel_rfl
def qZb:HA:=fun o vs objs K=>match vs,objs with
 | [.s (.i .i64 x0),.s (.i .i64 x1)],[]=>ob (qAi x0 x1) fun y0=>K false (.s (.i .i8 y0)) ([])
 | _,_=>o 51 vs objs K
def qDi (o:Orc):Orc:=qJ 51 (qZb o) o
theorem qES:OQ Tryz.prog qDi:=fun _ ho=>qL ho fun vs objs K r h=>by
 unfold qZb at h
 split at h
 ·skip
  obtain ⟨t,h1,h2⟩:=qD h
  refine qX mixed qn8 ((qn7 _ _).trans h1) (by kernel_rfl) fun v objs' hd=>?_
  unfold qZd at hd;split at hd;(cases hd;exact h2);cases hd
 ·exact ho _ _ _ _ _ h
def qNx:Ex->List V->List Obj->Option (Int×LI×LI×Int×LI×LI×Int×LI):=fun e vs objs=>match e,vs,objs with
 | .exit 2,[.s (.ptr 0 0 none 0),.s (.ptr 1 0 none 0),.s (.ptr 2 0 none 0),.s (.i .i64 y0)],[.cells 28 [.arr .i8 81 y1,.arr .i8 16 y2,.one [.i .i8 y3]],.cells 28 [.arr .i8 81 y4,.arr .i8 16 y5,.one [.i .i8 y6]],.cells 91 [.arr .i64 9 y7]]=>some (y0,y1,y2,y3,y4,y5,y6,y7)
 | _,_,_=>none
def qNv:Ex->List V->List Obj->Option (LI×LI×Int×LI×LI×Int):=fun e vs objs=>match e,vs,objs with
 | .exit 0,[.s (.ptr 0 0 none 0),.s (.ptr 1 0 none 0)],[.cells 28 [.arr .i8 81 y0,.arr .i8 16 y1,.one [.i .i8 y2]],.cells 28 [.arr .i8 81 y3,.arr .i8 16 y4,.one [.i .i8 y5]]]=>some (y0,y1,y2,y3,y4,y5)
 | _,_,_=>none
def qN0:HL:=fun vs objs K=>match vs,objs with
 | [.s (.ptr 0 0 none 0),.s (.ptr 1 0 none 0),.s (.ptr 2 0 none 0),.s (.ptr 3 0 none 0),.s (.i .i64 x0),.s (.i .i64 x1)],[.cells 28 [.arr .i8 81 x2,.arr .i8 16 x3,.one [.i .i8 x4]],.cells 28 [.arr .i8 81 x5,.arr .i8 16 x6,.one [.i .i8 x7]],.cells 91 [.arr .i64 9 x8],.cells 3 [.one [.i .i64 x9]]]=>ob (qKS qB x0 x1 x2 x3 x4 x5 x6 x7 x8 x9) fun z=>K (.exit 2) ([.s (.ptr 0 0 none 0),.s (.ptr 1 0 none 0),.s (.ptr 2 0 none 0),.s (.i .i64 (z.1))]) ([.cells 28 [.arr .i8 81 (z.2.1),.arr .i8 16 (z.2.2.1),.one [.i .i8 (z.2.2.2.1)]],.cells 28 [.arr .i8 81 (z.2.2.2.2.1),.arr .i8 16 (z.2.2.2.2.2.1),.one [.i .i8 (z.2.2.2.2.2.2.1)]],.cells 91 [.arr .i64 9 (z.2.2.2.2.2.2.2)]])
 | _,_=>none
def qNz:HL:=fun vs objs K=>match vs,objs with
 | [.s (.ptr 0 0 none 0),.s (.ptr 1 0 none 0),.s (.ptr 2 0 none 0),.s (.i .i64 x0)],[.cells 28 [.arr .i8 81 x1,.arr .i8 16 x2,.one [.i .i8 x3]],.cells 28 [.arr .i8 81 x4,.arr .i8 16 x5,.one [.i .i8 x6]],.cells 91 [.arr .i64 9 x7]]=>ob (qKR qB x0 x1 x2 x3 x4 x5 x6 x7) fun z=>K (.exit 0) ([.s (.ptr 0 0 none 0),.s (.ptr 1 0 none 0)]) ([.cells 28 [.arr .i8 81 (z.1),.arr .i8 16 (z.2.1),.one [.i .i8 (z.2.2.1)]],.cells 28 [.arr .i8 81 (z.2.2.2.1),.arr .i8 16 (z.2.2.2.2.1),.one [.i .i8 (z.2.2.2.2.2)]]])
 | _,_=>none
def qhh:{R:Type}->Nat->List V->List Obj->(Ex->List V->List Obj->Option R)->Option R:=fun q vs objs K=>bif Nat.beq q 7 then qN0 vs objs K else bif Nat.beq q 4 then qNz vs objs K else none
def qG2:Ctx:=mkC 44 ((set_Squareo (qDi (qUl qI)))) [(4,[0,1,2,7],[0,1]),(7,[0,1,2,3,7,10],[0,1,2,7])] qhh
theorem qNu:CtxOK Tryz.prog qG2:=mkC_ok ((set_Squareo_ok _ (qES _ (qhd _ qK))))
def qNy (f:Nat) (x0 x1:Int) (x2 x3:LI) (x4:Int) (x5 x6:LI) (x7:Int) (x8:LI) (x9:Int):Option (Int×LI×LI×Int×LI×LI×Int×LI):=qe qG2 0 [0,1,2,3,7,10] [0,1,2,7] (qE Tryz.f22 7) f ([.s (.ptr 0 0 none 0),.s (.ptr 1 0 none 0),.s (.ptr 2 0 none 0),.s (.ptr 3 0 none 0),.s (.i .i64 x0),.s (.i .i64 x1)]) ([.cells 28 [.arr .i8 81 x2,.arr .i8 16 x3,.one [.i .i8 x4]],.cells 28 [.arr .i8 81 x5,.arr .i8 16 x6,.one [.i .i8 x7]],.cells 91 [.arr .i64 9 x8],.cells 3 [.one [.i .i64 x9]]]) qNx
theorem qhg (f:Nat) (x0 x1:Int) (x2 x3:LI) (x4:Int) (x5 x6:LI) (x7:Int) (x8:LI) (x9:Int):qNy (f+1) x0 x1 x2 x3 x4 x5 x6 x7 x8 x9=qUr (qNy f) x0 x1 x2 x3 x4 x5 x6 x7 x8 x9:=by kernel_rfl
theorem qUq:∀ f,qNy f=qKS f
 | 0=>rfl
 | f+1=>by funext x0 x1 x2 x3 x4 x5 x6 x7 x8 x9; rw [qhg,qUq f]; rfl
def qNw (f:Nat) (x0:Int) (x1 x2:LI) (x3:Int) (x4 x5:LI) (x6:Int) (x7:LI):Option (LI×LI×Int×LI×LI×Int):=qe qG2 0 [0,1,2,7] [0,1] (qE Tryz.f22 4) f ([.s (.ptr 0 0 none 0),.s (.ptr 1 0 none 0),.s (.ptr 2 0 none 0),.s (.i .i64 x0)]) ([.cells 28 [.arr .i8 81 x1,.arr .i8 16 x2,.one [.i .i8 x3]],.cells 28 [.arr .i8 81 x4,.arr .i8 16 x5,.one [.i .i8 x6]],.cells 91 [.arr .i64 9 x7]]) qNv
theorem qhf (f:Nat) (x0:Int) (x1 x2:LI) (x3:Int) (x4 x5:LI) (x6:Int) (x7:LI):qNw (f+1) x0 x1 x2 x3 x4 x5 x6 x7=qUp (qNw f) x0 x1 x2 x3 x4 x5 x6 x7:=by kernel_rfl
theorem qUo:∀ f,qNw f=qKR f
 | 0=>rfl
 | f+1=>by funext x0 x1 x2 x3 x4 x5 x6 x7; rw [qhf,qUo f]; rfl
theorem qhk:qa Tryz.prog qG2 0 (qE Tryz.f22 7):=
 qg mixed qNu (qM.of (l':=[]) (by kernel_rfl) trivial) (q:=7) (kin:=[0,1,2,3,7,10]) (kout:=[0,1,2,7]) (by kernel_rfl) (by kernel_rfl) fun vs objs K r h=>by
  replace h:qN0 vs objs K=some r:=h
  unfold qN0 at h
  split at h
  ·skip
   obtain ⟨t,h1,h2⟩:=qD h
   rw [<- qUq] at h1
   refine ⟨_,qNx,t,qB,h1,fun e vs' objs' hd=>?_⟩
   unfold qNx at hd;split at hd;(cases hd;exact h2);cases hd
  ·cases h
theorem qhj:qa Tryz.prog qG2 0 (qE Tryz.f22 4):=
 qg mixed qNu (qM.of (l':=[qE Tryz.f22 7]) (by kernel_rfl) ⟨qhk,trivial⟩) (q:=4) (kin:=[0,1,2,7]) (kout:=[0,1]) (by kernel_rfl) (by kernel_rfl) fun vs objs K r h=>by
  replace h:qNz vs objs K=some r:=h
  unfold qNz at h
  split at h
  ·skip
   obtain ⟨t,h1,h2⟩:=qD h
   rw [<- qUo] at h1
   refine ⟨_,qNv,t,qB,h1,fun e vs' objs' hd=>?_⟩
   unfold qNv at hd;split at hd;(cases hd;exact h2);cases hd
  ·cases h
def qUn:V->List Obj->Option (LI×LI×Int):=fun v objs=>match v,objs with
 | .agg [.arr .i8 81 y0,.arr .i8 16 y1,.one [.i .i8 y2]],[]=>some (y0,y1,y2)
 | _,_=>none
theorem qhe:fnE qG2 Tryz.f22 ([]) ([]) qUn=qNt  := by kernel_rfl
def qUm:HA:=fun o vs objs K=>match vs,objs with
 | [],[]=>ob (qNt ) fun z=>K false (.agg [.arr .i8 81 (z.1),.arr .i8 16 (z.2.1),.one [.i .i8 (z.2.2)]]) ([])
 | _,_=>o 22 vs objs K
def qUs (o:Orc):Orc:=qJ 22 (qUm o) o
theorem qhi:OQ Tryz.prog qUs:=fun _ ho=>qL ho fun vs objs K r h=>by
 unfold qUm at h
 split at h
 ·skip
  obtain ⟨t,h1,h2⟩:=qD h
  refine q7 mixed qNu (fn:=Tryz.f22) (b:=(Tryz.f22).body.getD .skip) (by kernel_rfl) (by kernel_rfl) (by kernel_rfl) ((qhe).trans h1) (m:=0) rfl (qM.of (l':=[qE Tryz.f22 4]) (by kernel_rfl) ⟨qhj,trivial⟩) fun v objs' hd=>?_
  unfold qUn at hd;split at hd;(cases hd;exact h2);cases hd
 ·exact ho _ _ _ _ _ h
def qZV:Ctx:=mkC 28 (qI) [] qU
theorem qn3:CtxOK Tryz.prog qZV:=mkC_ok (qK)
def qZW:V->List Obj->Option (Int):=fun v objs=>match v,objs with
 | .s (.i .i64 y0),[]=>some (y0)
 | _,_=>none
theorem qn2 (x0:Int):fnE qZV Tryz.f60 ([.s (.i .i8 x0)]) ([]) qZW=qAC x0:=by kernel_rfl
def qZU:HA:=fun o vs objs K=>match vs,objs with
 | [.s (.i .i8 x0)],[]=>ob (qAC x0) fun y0=>K false (.s (.i .i64 y0)) ([])
 | _,_=>o 60 vs objs K
def qCr (o:Orc):Orc:=qJ 60 (qZU o) o
theorem qDC:OQ Tryz.prog qCr:=fun _ ho=>qL ho fun vs objs K r h=>by
 unfold qZU at h
 split at h
 ·skip
  obtain ⟨t,h1,h2⟩:=qD h
  refine qX mixed qn3 ((qn2 _).trans h1) (by kernel_rfl) fun v objs' hd=>?_
  unfold qZW at hd;split at hd;(cases hd;exact h2);cases hd
 ·exact ho _ _ _ _ _ h
def qZo:Ctx:=mkC 10 ((qCr qI)) [] qU
theorem qoH:CtxOK Tryz.prog qZo:=mkC_ok ((qDC _ qK))
def qZp:V->List Obj->Option (Int):=fun v objs=>match v,objs with
 | .s (.i .i64 y0),[]=>some (y0)
 | _,_=>none
theorem qoG (x0:Int):fnE qZo Tryz.f82 ([.s (.i .i8 x0)]) ([]) qZp=qAQ x0:=by kernel_rfl
def qZn:HA:=fun o vs objs K=>match vs,objs with
 | [.s (.i .i8 x0)],[]=>ob (qAQ x0) fun y0=>K false (.s (.i .i64 y0)) ([])
 | _,_=>o 82 vs objs K
def qDj (o:Orc):Orc:=qJ 82 (qZn o) o
theorem qET:OQ Tryz.prog qDj:=fun _ ho=>qL ho fun vs objs K r h=>by
 unfold qZn at h
 split at h
 ·skip
  obtain ⟨t,h1,h2⟩:=qD h
  refine qX mixed qoH ((qoG _).trans h1) (by kernel_rfl) fun v objs' hd=>?_
  unfold qZp at hd;split at hd;(cases hd;exact h2);cases hd
 ·exact ho _ _ _ _ _ h
def qZl:Ctx:=mkC 13 ((qDi qI)) [] qU
theorem qoF:CtxOK Tryz.prog qZl:=mkC_ok ((qES _ qK))
def qZm:V->List Obj->Option (Int):=fun v objs=>match v,objs with
 | .s (.i .i64 y0),[]=>some (y0)
 | _,_=>none
theorem qoE (x0:Int):fnE qZl Tryz.f61 ([.s (.i .i64 x0)]) ([]) qZm=qCs x0:=by kernel_rfl
def qZk:HA:=fun o vs objs K=>match vs,objs with
 | [.s (.i .i64 x0)],[]=>ob (qCs x0) fun y0=>K false (.s (.i .i64 y0)) ([])
 | _,_=>o 61 vs objs K
def qLl (o:Orc):Orc:=qJ 61 (qZk o) o
theorem qQU:OQ Tryz.prog qLl:=fun _ ho=>qL ho fun vs objs K r h=>by
 unfold qZk at h
 split at h
 ·skip
  obtain ⟨t,h1,h2⟩:=qD h
  refine qX mixed qoF ((qoE _).trans h1) (by kernel_rfl) fun v objs' hd=>?_
  unfold qZm at hd;split at hd;(cases hd;exact h2);cases hd
 ·exact ho _ _ _ _ _ h
def qZr:Ctx:=mkC 15 (qI) [] qU
theorem qoJ:CtxOK Tryz.prog qZr:=mkC_ok (qK)
def qZs:V->List Obj->Option (Int):=fun v objs=>match v,objs with
 | .s (.i .i64 y0),[]=>some (y0)
 | _,_=>none
theorem qoI (x0:Int):fnE qZr Tryz.f90 ([.s (.i .i64 x0)]) ([]) qZs=qLm x0:=by kernel_rfl
def qZq:HA:=fun o vs objs K=>match vs,objs with
 | [.s (.i .i64 x0)],[]=>ob (qLm x0) fun y0=>K false (.s (.i .i64 y0)) ([])
 | _,_=>o 90 vs objs K
def qZt (o:Orc):Orc:=qJ 90 (qZq o) o
theorem qoK:OQ Tryz.prog qZt:=fun _ ho=>qL ho fun vs objs K r h=>by
 unfold qZq at h
 split at h
 ·skip
  obtain ⟨t,h1,h2⟩:=qD h
  refine qX mixed qoJ ((qoI _).trans h1) (by kernel_rfl) fun v objs' hd=>?_
  unfold qZs at hd;split at hd;(cases hd;exact h2);cases hd
 ·exact ho _ _ _ _ _ h
def qdl:Ctx:=mkC 5 (qI) [] qU
theorem qsK:CtxOK Tryz.prog qdl:=mkC_ok (qK)
def qdm:V->List Obj->Option (Int):=fun v objs=>match v,objs with
 | .s (.i .i64 y0),[]=>some (y0)
 | _,_=>none
theorem qsJ (x0:Int):fnE qdl Tryz.f105 ([.s (.i .i64 x0)]) ([]) qdm=qFp x0:=by kernel_rfl
def qdk:HA:=fun o vs objs K=>match vs,objs with
 | [.s (.i .i64 x0)],[]=>ob (qFp x0) fun y0=>K false (.s (.i .i64 y0)) ([])
 | _,_=>o 105 vs objs K
def qMX (o:Orc):Orc:=qJ 105 (qdk o) o
theorem qSO:OQ Tryz.prog qMX:=fun _ ho=>qL ho fun vs objs K r h=>by
 unfold qdk at h
 split at h
 ·skip
  obtain ⟨t,h1,h2⟩:=qD h
  refine qX mixed qsK ((qsJ _).trans h1) (by kernel_rfl) fun v objs' hd=>?_
  unfold qdm at hd;split at hd;(cases hd;exact h2);cases hd
 ·exact ho _ _ _ _ _ h
def qeR:Ctx:=mkC 23 ((qMX qI)) [] qU
theorem qtC:CtxOK Tryz.prog qeR:=mkC_ok ((qSO _ qK))
def qeS:V->List Obj->Option (Int):=fun v objs=>match v,objs with
 | .s (.i .i64 y0),[]=>some (y0)
 | _,_=>none
theorem qtB (x0 x1:Int):fnE qeR Tryz.f144 ([.s (.i .i64 x0),.s (.i .i64 x1)]) ([]) qeS=qFt x0 x1:=by kernel_rfl
def qeQ:HA:=fun o vs objs K=>match vs,objs with
 | [.s (.i .i64 x0),.s (.i .i64 x1)],[]=>ob (qFt x0 x1) fun y0=>K false (.s (.i .i64 y0)) ([])
 | _,_=>o 144 vs objs K
def qSi (o:Orc):Orc:=qJ 144 (qeQ o) o
theorem qeT:OQ Tryz.prog qSi:=fun _ ho=>qL ho fun vs objs K r h=>by
 unfold qeQ at h
 split at h
 ·skip
  obtain ⟨t,h1,h2⟩:=qD h
  refine qX mixed qtC ((qtB _ _).trans h1) (by kernel_rfl) fun v objs' hd=>?_
  unfold qeS at hd;split at hd;(cases hd;exact h2);cases hd
 ·exact ho _ _ _ _ _ h
def qeE:Ctx:=mkC 25 ((qCr (qSi (qDj qI)))) [] qU
theorem qs1:CtxOK Tryz.prog qeE:=mkC_ok ((qDC _ (qeT _ (qET _ qK))))
def qeF:V->List Obj->Option (Bool):=fun v objs=>match v,objs with
 | .s (.b y0),[]=>some (y0)
 | _,_=>none
theorem qs0 (x0 x1:Int):fnE qeE Tryz.f118 ([.s (.i .i8 x0),.s (.i .i64 x1)]) ([]) qeF=qD5 x0 x1:=by kernel_rfl
def qeD:HA:=fun o vs objs K=>match vs,objs with
 | [.s (.i .i8 x0),.s (.i .i64 x1)],[]=>ob (qD5 x0 x1) fun y0=>K false (.s (.b y0)) ([])
 | _,_=>o 118 vs objs K
def qMi (o:Orc):Orc:=qJ 118 (qeD o) o
theorem qSe:OQ Tryz.prog qMi:=fun _ ho=>qL ho fun vs objs K r h=>by
 unfold qeD at h
 split at h
 ·skip
  obtain ⟨t,h1,h2⟩:=qD h
  refine qX mixed qs1 ((qs0 _ _).trans h1) (by kernel_rfl) fun v objs' hd=>?_
  unfold qeF at hd;split at hd;(cases hd;exact h2);cases hd
 ·exact ho _ _ _ _ _ h
def qdy:Ctx:=mkC 21 (qI) [] qU
theorem qsX:CtxOK Tryz.prog qdy:=mkC_ok (qK)
def qdz:V->List Obj->Option (Int×Int):=fun v objs=>match v,objs with
 | .agg [.one [.i .u64 y0,.i .u64 y1]],[]=>some (y0,y1)
 | _,_=>none
theorem qsW (x0:Int):fnE qdy Tryz.f142 ([.s (.i .i64 x0)]) ([]) qdz=qFr x0:=by kernel_rfl
def qdx:HA:=fun o vs objs K=>match vs,objs with
 | [.s (.i .i64 x0)],[]=>ob (qFr x0) fun z=>K false (.agg [.one [.i .u64 (z.1),.i .u64 (z.2)]]) ([])
 | _,_=>o 142 vs objs K
def qMc (o:Orc):Orc:=qJ 142 (qdx o) o
theorem qSW:OQ Tryz.prog qMc:=fun _ ho=>qL ho fun vs objs K r h=>by
 unfold qdx at h
 split at h
 ·skip
  obtain ⟨t,h1,h2⟩:=qD h
  refine qX mixed qsX ((qsW _).trans h1) (by kernel_rfl) fun v objs' hd=>?_
  unfold qdz at hd;split at hd;(cases hd;exact h2);cases hd
 ·exact ho _ _ _ _ _ h
def qdW:Ctx:=mkC 16 (qI) [] qU
theorem qr8:CtxOK Tryz.prog qdW:=mkC_ok (qK)
def qdX:V->List Obj->Option (Int×Int):=fun v objs=>match v,objs with
 | .agg [.one [.i .u64 y0,.i .u64 y1]],[]=>some (y0,y1)
 | _,_=>none
theorem qr7 (x0 x1:Int) (x2 x3:Int):fnE qdW Tryz.f131 ([.agg [.one [.i .u64 x0,.i .u64 x1]],.agg [.one [.i .u64 x2,.i .u64 x3]]]) ([]) qdX=qFn x0 x1 x2 x3:=by kernel_rfl
def qdV:HA:=fun o vs objs K=>match vs,objs with
 | [.agg [.one [.i .u64 x0,.i .u64 x1]],.agg [.one [.i .u64 x2,.i .u64 x3]]],[]=>ob (qFn x0 x1 x2 x3) fun z=>K false (.agg [.one [.i .u64 (z.1),.i .u64 (z.2)]]) ([])
 | _,_=>o 131 vs objs K
def qMV (o:Orc):Orc:=qJ 131 (qdV o) o
theorem qSK:OQ Tryz.prog qMV:=fun _ ho=>qL ho fun vs objs K r h=>by
 unfold qdV at h
 split at h
 ·skip
  obtain ⟨t,h1,h2⟩:=qD h
  refine qX mixed qr8 ((qr7 _ _ _ _).trans h1) (by kernel_rfl) fun v objs' hd=>?_
  unfold qdX at hd;split at hd;(cases hd;exact h2);cases hd
 ·exact ho _ _ _ _ _ h
def qdv:Ctx:=mkC 9 ((qMV (qMc qI))) [] qU
theorem qsU:CtxOK Tryz.prog qdv:=mkC_ok ((qSK _ (qSW _ qK)))
def qdw:V->List Obj->Option (Int×Int):=fun v objs=>match v,objs with
 | .agg [.one [.i .u64 y0,.i .u64 y1]],[]=>some (y0,y1)
 | _,_=>none
theorem qsT (x0 x1 x2:Int):fnE qdv Tryz.f114 ([.agg [.one [.i .u64 x0,.i .u64 x1]],.s (.i .i64 x2)]) ([]) qdw=qEf x0 x1 x2:=by kernel_rfl
def qdu:HA:=fun o vs objs K=>match vs,objs with
 | [.agg [.one [.i .u64 x0,.i .u64 x1]],.s (.i .i64 x2)],[]=>ob (qEf x0 x1 x2) fun z=>K false (.agg [.one [.i .u64 (z.1),.i .u64 (z.2)]]) ([])
 | _,_=>o 114 vs objs K
def qJn (o:Orc):Orc:=qJ 114 (qdu o) o
theorem qMb:OQ Tryz.prog qJn:=fun _ ho=>qL ho fun vs objs K r h=>by
 unfold qdu at h
 split at h
 ·skip
  obtain ⟨t,h1,h2⟩:=qD h
  refine qX mixed qsU ((qsT _ _ _).trans h1) (by kernel_rfl) fun v objs' hd=>?_
  unfold qdw at hd;split at hd;(cases hd;exact h2);cases hd
 ·exact ho _ _ _ _ _ h
def qdi:Ctx:=mkC 16 (qI) [] qU
theorem qsI:CtxOK Tryz.prog qdi:=mkC_ok (qK)
def qdj:V->List Obj->Option (Int×Int):=fun v objs=>match v,objs with
 | .agg [.one [.i .u64 y0,.i .u64 y1]],[]=>some (y0,y1)
 | _,_=>none
theorem qsH (x0 x1:Int) (x2 x3:Int):fnE qdi Tryz.f127 ([.agg [.one [.i .u64 x0,.i .u64 x1]],.agg [.one [.i .u64 x2,.i .u64 x3]]]) ([]) qdj=qD2 x0 x1 x2 x3:=by kernel_rfl
def qdh:HA:=fun o vs objs K=>match vs,objs with
 | [.agg [.one [.i .u64 x0,.i .u64 x1]],.agg [.one [.i .u64 x2,.i .u64 x3]]],[]=>ob (qD2 x0 x1 x2 x3) fun z=>K false (.agg [.one [.i .u64 (z.1),.i .u64 (z.2)]]) ([])
 | _,_=>o 127 vs objs K
def qGf (o:Orc):Orc:=qJ 127 (qdh o) o
theorem qIS:OQ Tryz.prog qGf:=fun _ ho=>qL ho fun vs objs K r h=>by
 unfold qdh at h
 split at h
 ·skip
  obtain ⟨t,h1,h2⟩:=qD h
  refine qX mixed qsI ((qsH _ _ _ _).trans h1) (by kernel_rfl) fun v objs' hd=>?_
  unfold qdj at hd;split at hd;(cases hd;exact h2);cases hd
 ·exact ho _ _ _ _ _ h
def qds:Ctx:=mkC 9 ((qGf (qMc qI))) [] qU
theorem qsS:CtxOK Tryz.prog qds:=mkC_ok ((qIS _ (qSW _ qK)))
def qdt:V->List Obj->Option (Int×Int):=fun v objs=>match v,objs with
 | .agg [.one [.i .u64 y0,.i .u64 y1]],[]=>some (y0,y1)
 | _,_=>none
theorem qsR (x0 x1 x2:Int):fnE qds Tryz.f115 ([.agg [.one [.i .u64 x0,.i .u64 x1]],.s (.i .i64 x2)]) ([]) qdt=qBA x0 x1 x2:=by kernel_rfl
def qdr:HA:=fun o vs objs K=>match vs,objs with
 | [.agg [.one [.i .u64 x0,.i .u64 x1]],.s (.i .i64 x2)],[]=>ob (qBA x0 x1 x2) fun z=>K false (.agg [.one [.i .u64 (z.1),.i .u64 (z.2)]]) ([])
 | _,_=>o 115 vs objs K
def qEe (o:Orc):Orc:=qJ 115 (qdr o) o
theorem qFq:OQ Tryz.prog qEe:=fun _ ho=>qL ho fun vs objs K r h=>by
 unfold qdr at h
 split at h
 ·skip
  obtain ⟨t,h1,h2⟩:=qD h
  refine qX mixed qsS ((qsR _ _ _).trans h1) (by kernel_rfl) fun v objs' hd=>?_
  unfold qdt at hd;split at hd;(cases hd;exact h2);cases hd
 ·exact ho _ _ _ _ _ h
def qUg:Ctx:=mkC 90 ((qEe (qCr (qDj (qJn qI))))) [] qU
theorem qha:CtxOK Tryz.prog qUg:=mkC_ok ((qFq _ (qDC _ (qET _ (qMb _ qK)))))
def qUh:V->List Obj->Option (LI×LI×Int×LL×LL):=fun v objs=>match v,objs with
 | .tup [],[.cells 72 [.arr .i8 81 y0,.arr .i8 16 y1,.one [.i .i8 y2],.rows [.i .u64,.i .u64] 32 y3,.rows [.i .u64,.i .u64] 2 y4]]=>some (y0,y1,y2,y3,y4)
 | _,_=>none
theorem qhZ (x0 x1:Int) (x2 x3:LI) (x4:Int) (x5 x6:LL):fnE qUg Tryz.f85 ([.s (.ptr 0 0 none 0),.s (.i .i64 x0),.s (.i .i8 x1)]) ([.cells 72 [.arr .i8 81 x2,.arr .i8 16 x3,.one [.i .i8 x4],.rows [.i .u64,.i .u64] 32 x5,.rows [.i .u64,.i .u64] 2 x6]]) qUh=qF7 x0 x1 x2 x3 x4 x5 x6:=by kernel_rfl
def qUf:HA:=fun o vs objs K=>match vs,objs with
 | [.s (.ptr 0 0 none 0),.s (.i .i64 x0),.s (.i .i8 x1)],[.cells 72 [.arr .i8 81 x2,.arr .i8 16 x3,.one [.i .i8 x4],.rows [.i .u64,.i .u64] 32 x5,.rows [.i .u64,.i .u64] 2 x6]]=>ob (qF7 x0 x1 x2 x3 x4 x5 x6) fun z=>K false (.tup []) ([.cells 72 [.arr .i8 81 (z.1),.arr .i8 16 (z.2.1),.one [.i .i8 (z.2.2.1)],.rows [.i .u64,.i .u64] 32 (z.2.2.2.1),.rows [.i .u64,.i .u64] 2 (z.2.2.2.2)]])
 | _,_=>o 85 vs objs K
def qKP (o:Orc):Orc:=qJ 85 (qUf o) o
theorem qNs:OQ Tryz.prog qKP:=fun _ ho=>qL ho fun vs objs K r h=>by
 unfold qUf at h
 split at h
 ·skip
  obtain ⟨t,h1,h2⟩:=qD h
  refine qX mixed qha ((qhZ _ _ _ _ _ _ _).trans h1) (by kernel_rfl) fun v objs' hd=>?_
  unfold qUh at hd;split at hd;(cases hd;exact h2);cases hd
 ·exact ho _ _ _ _ _ h
def qNn:Ex->List V->List Obj->Option (LI×LI×Int×LL×LL):=fun e vs objs=>match e,vs,objs with
 | .exit 0,[.s (.ptr 0 0 none 0)],[.cells 72 [.arr .i8 81 y0,.arr .i8 16 y1,.one [.i .i8 y2],.rows [.i .u64,.i .u64] 32 y3,.rows [.i .u64,.i .u64] 2 y4]]=>some (y0,y1,y2,y3,y4)
 | _,_,_=>none
def qNq:HL:=fun vs objs K=>match vs,objs with
 | [.s (.ptr 0 0 none 0),.agg [.arr .i8 81 x0],.s (.i .i64 x1)],[.cells 72 [.arr .i8 81 x2,.arr .i8 16 x3,.one [.i .i8 x4],.rows [.i .u64,.i .u64] 32 x5,.rows [.i .u64,.i .u64] 2 x6]]=>ob (qED qB x0 x1 x2 x3 x4 x5 x6) fun z=>K (.exit 0) ([.s (.ptr 0 0 none 0)]) ([.cells 72 [.arr .i8 81 (z.1),.arr .i8 16 (z.2.1),.one [.i .i8 (z.2.2.1)],.rows [.i .u64,.i .u64] 32 (z.2.2.2.1),.rows [.i .u64,.i .u64] 2 (z.2.2.2.2)]])
 | _,_=>none
def qhT:{R:Type}->Nat->List V->List Obj->(Ex->List V->List Obj->Option R)->Option R:=fun q vs objs K=>bif Nat.beq q 4 then qNq vs objs K else none
def qKN:Ctx:=mkC 32 ((qKP qI)) [(4,[3,21,22],[3])] qhT
theorem qUV:CtxOK Tryz.prog qKN:=mkC_ok ((qNs _ qK))
def qNo (f:Nat) (x0:LI) (x1:Int) (x2 x3:LI) (x4:Int) (x5 x6:LL):Option (LI×LI×Int×LL×LL):=qe qKN 0 [3,21,22] [3] (qE Tryz.f42 4) f ([.s (.ptr 0 0 none 0),.agg [.arr .i8 81 x0],.s (.i .i64 x1)]) ([.cells 72 [.arr .i8 81 x2,.arr .i8 16 x3,.one [.i .i8 x4],.rows [.i .u64,.i .u64] 32 x5,.rows [.i .u64,.i .u64] 2 x6]]) qNn
theorem qhS (f:Nat) (x0:LI) (x1:Int) (x2 x3:LI) (x4:Int) (x5 x6:LL):qNo (f+1) x0 x1 x2 x3 x4 x5 x6=qG0 (qNo f) x0 x1 x2 x3 x4 x5 x6:=by kernel_rfl
theorem qUX:∀ f,qNo f=qED f
 | 0=>rfl
 | f+1=>by funext x0 x1 x2 x3 x4 x5 x6; rw [qhS,qUX f]; rfl
theorem qhU:qa Tryz.prog qKN 0 (qE Tryz.f42 4):=
 qg mixed qUV (qM.of (l':=[]) (by kernel_rfl) trivial) (q:=4) (kin:=[3,21,22]) (kout:=[3]) (by kernel_rfl) (by kernel_rfl) fun vs objs K r h=>by
  replace h:qNq vs objs K=some r:=h
  unfold qNq at h
  split at h
  ·skip
   obtain ⟨t,h1,h2⟩:=qD h
   rw [<- qUX] at h1
   refine ⟨_,qNn,t,qB,h1,fun e vs' objs' hd=>?_⟩
   unfold qNn at hd;split at hd;(cases hd;exact h2);cases hd
  ·cases h
def qUW:V->List Obj->Option (LI×LI×Int×LL×LL):=fun v objs=>match v,objs with
 | .s (.ptr 0 0 none 0),[.cells 72 [.arr .i8 81 y0,.arr .i8 16 y1,.one [.i .i8 y2],.rows [.i .u64,.i .u64] 32 y3,.rows [.i .u64,.i .u64] 2 y4]]=>some (y0,y1,y2,y3,y4)
 | _,_=>none
theorem qhR (x0 x1:LI) (x2:Int):fnE qKN Tryz.f42 ([.agg [.arr .i8 81 x0,.arr .i8 16 x1,.one [.i .i8 x2]]]) ([]) qUW=qF4 x0 x1 x2:=by kernel_rfl
def qUU:HA:=fun o vs objs K=>match vs,objs with
 | [.agg [.arr .i8 81 x0,.arr .i8 16 x1,.one [.i .i8 x2]]],[]=>ob (qF4 x0 x1 x2) fun z=>K false (.s (.ptr 0 0 none 0)) ([.cells 72 [.arr .i8 81 (z.1),.arr .i8 16 (z.2.1),.one [.i .i8 (z.2.2.1)],.rows [.i .u64,.i .u64] 32 (z.2.2.2.1),.rows [.i .u64,.i .u64] 2 (z.2.2.2.2)]])
 | _,_=>o 42 vs objs K
def qKO (o:Orc):Orc:=qJ 42 (qUU o) o
theorem qNp:OQ Tryz.prog qKO:=fun _ ho=>qL ho fun vs objs K r h=>by
 unfold qUU at h
 split at h
 ·skip
  obtain ⟨t,h1,h2⟩:=qD h
  refine q7 mixed qUV (fn:=Tryz.f42) (b:=(Tryz.f42).body.getD .skip) (by kernel_rfl) (by kernel_rfl) (by kernel_rfl) ((qhR _ _ _).trans h1) (m:=0) rfl (qM.of (l':=[qE Tryz.f42 4]) (by kernel_rfl) ⟨qhU,trivial⟩) fun v objs' hd=>?_
  unfold qUW at hd;split at hd;(cases hd;exact h2);cases hd
 ·exact ho _ _ _ _ _ h
def qUZ:Ctx:=mkC 20 ((qDi qI)) [] qU
theorem qhW:CtxOK Tryz.prog qUZ:=mkC_ok ((qES _ qK))
def qUa:V->List Obj->Option (Int×Int):=fun v objs=>match v,objs with
 | .agg [.one [.i .u64 y0,.i .u64 y1]],[]=>some (y0,y1)
 | _,_=>none
theorem qhV (x0 x1:Int) (x2 x3:LI) (x4:Int) (x5 x6:LL):fnE qUZ Tryz.f119 ([.s (.ptr 0 0 none 0),.s (.i .i64 x0),.s (.i .i64 x1)]) ([.rcells 72 [.arr .i8 81 x2,.arr .i8 16 x3,.one [.i .i8 x4],.rows [.i .u64,.i .u64] 32 x5,.rows [.i .u64,.i .u64] 2 x6]]) (qAK 1 qUa)=qC2 x0 x1 x2 x3 x4 x5 x6:=by kernel_rfl
def qUY:HA:=fun o vs objs K=>match vs,List.map Obj.toRO objs with
 | [.s (.ptr 0 0 none 0),.s (.i .i64 x0),.s (.i .i64 x1)],[.rcells 72 [.arr .i8 81 x2,.arr .i8 16 x3,.one [.i .i8 x4],.rows [.i .u64,.i .u64] 32 x5,.rows [.i .u64,.i .u64] 2 x6]]=>ob (qC2 x0 x1 x2 x3 x4 x5 x6) fun z=>K true (.agg [.one [.i .u64 (z.1),.i .u64 (z.2)]]) ([])
 | _,_=>o 119 vs objs K
def qF5 (o:Orc):Orc:=qJ 119 (qUY o) o
theorem qG1:OQ Tryz.prog qF5:=fun _ ho=>qL ho fun vs objs K r h=>by
 unfold qUY at h
 split at h
 ·skip
  have hq:List.map Obj.toRO objs=_:=(by rename_i hq; first | exact hq | assumption)
  obtain ⟨t,h1,h2⟩:=qD h
  refine qAc mixed qhW (m:=1) (fn:=Tryz.f119) (b:=(Tryz.f119).body.getD .skip) (by kernel_rfl) (by kernel_rfl) (by kernel_rfl) hq (by kernel_rfl) (by kernel_rfl) (qM.of (l':=[]) (by kernel_rfl) trivial) ((qhV _ _ _ _ _ _ _).trans h1) fun v objs' hd=>?_
  unfold qUa at hd;split at hd;(cases hd;exact h2);cases hd
 ·exact ho _ _ _ _ _ h
def qSG:Ex->List V->List Obj->Option (Int×Int×Int×Int):=fun e vs objs=>match e,vs,objs with
 | .exit 0,[.s (.ptr 0 0 none 0),.s (.ptr 1 0 none 0)],[.cells 68 [.one [.i .u64 y0,.i .u64 y1]],.cells 68 [.one [.i .u64 y2,.i .u64 y3]]]=>some (y0,y1,y2,y3)
 | _,_,_=>none
def qSJ:HL:=fun vs objs K=>match vs,objs with
 | [.s (.i .i64 x0),.s (.ptr 0 0 none 0),.s (.ptr 1 0 none 0),.s (.i .i64 x1)],[.cells 68 [.one [.i .u64 x2,.i .u64 x3]],.cells 68 [.one [.i .u64 x4,.i .u64 x5]]]=>ob (qMU qB x0 x1 x2 x3 x4 x5) fun z=>K (.exit 0) ([.s (.ptr 0 0 none 0),.s (.ptr 1 0 none 0)]) ([.cells 68 [.one [.i .u64 (z.1),.i .u64 (z.2.1)]],.cells 68 [.one [.i .u64 (z.2.2.1),.i .u64 (z.2.2.2)]]])
 | _,_=>none
def qr5:{R:Type}->Nat->List V->List Obj->(Ex->List V->List Obj->Option R)->Option R:=fun q vs objs K=>bif Nat.beq q 3 then qSJ vs objs K else none
def qMT:Ctx:=mkC 15 ((qEe (set_Squareo qI))) [(3,[0,2,3,5],[2,3])] qr5
theorem qdQ:CtxOK Tryz.prog qMT:=mkC_ok ((qFq _ (set_Squareo_ok _ qK)))
def qSH (f:Nat) (x0 x1:Int) (x2 x3:Int) (x4 x5:Int):Option (Int×Int×Int×Int):=qe qMT 0 [0,2,3,5] [2,3] (qE Tryz.f121 3) f ([.s (.i .i64 x0),.s (.ptr 0 0 none 0),.s (.ptr 1 0 none 0),.s (.i .i64 x1)]) ([.cells 68 [.one [.i .u64 x2,.i .u64 x3]],.cells 68 [.one [.i .u64 x4,.i .u64 x5]]]) qSG
theorem qr4 (f:Nat) (x0 x1:Int) (x2 x3:Int) (x4 x5:Int):qSH (f+1) x0 x1 x2 x3 x4 x5=qdT (qSH f) x0 x1 x2 x3 x4 x5:=by kernel_rfl
theorem qdS:∀ f,qSH f=qMU f
 | 0=>rfl
 | f+1=>by funext x0 x1 x2 x3 x4 x5; rw [qr4,qdS f]; rfl
theorem qr6:qa Tryz.prog qMT 0 (qE Tryz.f121 3):=
 qg mixed qdQ (qM.of (l':=[]) (by kernel_rfl) trivial) (q:=3) (kin:=[0,2,3,5]) (kout:=[2,3]) (by kernel_rfl) (by kernel_rfl) fun vs objs K r h=>by
  replace h:qSJ vs objs K=some r:=h
  unfold qSJ at h
  split at h
  ·skip
   obtain ⟨t,h1,h2⟩:=qD h
   rw [<- qdS] at h1
   refine ⟨_,qSG,t,qB,h1,fun e vs' objs' hd=>?_⟩
   unfold qSG at hd;split at hd;(cases hd;exact h2);cases hd
  ·cases h
def qdR:V->List Obj->Option (Int×Int):=fun v objs=>match v,objs with
 | .agg [.one [.i .u64 y0,.i .u64 y1]],[]=>some (y0,y1)
 | _,_=>none
theorem qr3 (x0:Int):fnE qMT Tryz.f121 ([.s (.i .i64 x0)]) ([]) qdR=qIP x0:=by kernel_rfl
def qdP:HA:=fun o vs objs K=>match vs,objs with
 | [.s (.i .i64 x0)],[]=>ob (qIP x0) fun z=>K false (.agg [.one [.i .u64 (z.1),.i .u64 (z.2)]]) ([])
 | _,_=>o 121 vs objs K
def qSI (o:Orc):Orc:=qJ 121 (qdP o) o
theorem qdU:OQ Tryz.prog qSI:=fun _ ho=>qL ho fun vs objs K r h=>by
 unfold qdP at h
 split at h
 ·skip
  obtain ⟨t,h1,h2⟩:=qD h
  refine q7 mixed qdQ (fn:=Tryz.f121) (b:=(Tryz.f121).body.getD .skip) (by kernel_rfl) (by kernel_rfl) (by kernel_rfl) ((qr3 _).trans h1) (m:=0) rfl (qM.of (l':=[qE Tryz.f121 3]) (by kernel_rfl) ⟨qr6,trivial⟩) fun v objs' hd=>?_
  unfold qdR at hd;split at hd;(cases hd;exact h2);cases hd
 ·exact ho _ _ _ _ _ h
def qc8:Ctx:=mkC 16 (qI) [] qU
theorem qrs:CtxOK Tryz.prog qc8:=mkC_ok (qK)
def qc9:V->List Obj->Option (Int×Int):=fun v objs=>match v,objs with
 | .agg [.one [.i .u64 y0,.i .u64 y1]],[]=>some (y0,y1)
 | _,_=>none
theorem qrr (x0 x1:Int) (x2 x3:Int):fnE qc8 Tryz.f120 ([.agg [.one [.i .u64 x0,.i .u64 x1]],.agg [.one [.i .u64 x2,.i .u64 x3]]]) ([]) qc9=qCv x0 x1 x2 x3:=by kernel_rfl
def qc7:HA:=fun o vs objs K=>match vs,objs with
 | [.agg [.one [.i .u64 x0,.i .u64 x1]],.agg [.one [.i .u64 x2,.i .u64 x3]]],[]=>ob (qCv x0 x1 x2 x3) fun z=>K false (.agg [.one [.i .u64 (z.1),.i .u64 (z.2)]]) ([])
 | _,_=>o 120 vs objs K
def qFm (o:Orc):Orc:=qJ 120 (qc7 o) o
theorem qGa:OQ Tryz.prog qFm:=fun _ ho=>qL ho fun vs objs K r h=>by
 unfold qc7 at h
 split at h
 ·skip
  obtain ⟨t,h1,h2⟩:=qD h
  refine qX mixed qrs ((qrr _ _ _ _).trans h1) (by kernel_rfl) fun v objs' hd=>?_
  unfold qc9 at hd;split at hd;(cases hd;exact h2);cases hd
 ·exact ho _ _ _ _ _ h
def qT5:Ctx:=mkC 35 (qI) [] qU
theorem qg0:CtxOK Tryz.prog qT5:=mkC_ok (qK)
def qT6:V->List Obj->Option (Int):=fun v objs=>match v,objs with
 | .s (.i .i64 y0),[]=>some (y0)
 | _,_=>none
theorem qgz (x0:Int):fnE qT5 Tryz.f145 ([.s (.i .u64 x0)]) ([]) qT6=qF1 x0:=by kernel_rfl
def qT4:HA:=fun o vs objs K=>match vs,objs with
 | [.s (.i .u64 x0)],[]=>ob (qF1 x0) fun y0=>K false (.s (.i .i64 y0)) ([])
 | _,_=>o 145 vs objs K
def qT7 (o:Orc):Orc:=qJ 145 (qT4 o) o
theorem qg1:OQ Tryz.prog qT7:=fun _ ho=>qL ho fun vs objs K r h=>by
 unfold qT4 at h
 split at h
 ·skip
  obtain ⟨t,h1,h2⟩:=qD h
  refine qX mixed qg0 ((qgz _).trans h1) (by kernel_rfl) fun v objs' hd=>?_
  unfold qT6 at hd;split at hd;(cases hd;exact h2);cases hd
 ·exact ho _ _ _ _ _ h
def qdB:Ctx:=mkC 10 ((qT7 qI)) [] qU
theorem qru:CtxOK Tryz.prog qdB:=mkC_ok ((qg1 _ qK))
def qdC:V->List Obj->Option (Int):=fun v objs=>match v,objs with
 | .s (.i .i64 y0),[]=>some (y0)
 | _,_=>none
theorem qrt (x0 x1:Int):fnE qdB Tryz.f122 ([.agg [.one [.i .u64 x0,.i .u64 x1]]]) ([]) qdC=qGb x0 x1:=by kernel_rfl
def qdA:HA:=fun o vs objs K=>match vs,objs with
 | [.agg [.one [.i .u64 x0,.i .u64 x1]]],[]=>ob (qGb x0 x1) fun y0=>K false (.s (.i .i64 y0)) ([])
 | _,_=>o 122 vs objs K
def qMQ (o:Orc):Orc:=qJ 122 (qdA o) o
theorem qSD:OQ Tryz.prog qMQ:=fun _ ho=>qL ho fun vs objs K r h=>by
 unfold qdA at h
 split at h
 ·skip
  obtain ⟨t,h1,h2⟩:=qD h
  refine qX mixed qru ((qrt _ _).trans h1) (by kernel_rfl) fun v objs' hd=>?_
  unfold qdC at hd;split at hd;(cases hd;exact h2);cases hd
 ·exact ho _ _ _ _ _ h
def qN3:Ex->List V->List Obj->Option ((Int×LI×LI×Int) ⊕ (LI×LI×Int)):=fun e vs objs=>match e,vs,objs with
 | .ret,[.s (.ptr 0 0 none 0),.s (.i .i64 y0)],[.cells 28 [.arr .i8 81 y1,.arr .i8 16 y2,.one [.i .i8 y3]]]=>some (.inl (y0,y1,y2,y3))
 | .exit 0,[.s (.ptr 0 0 none 0),.s .bad],[.cells 28 [.arr .i8 81 y0,.arr .i8 16 y1,.one [.i .i8 y2]]]=>some (.inr (y0,y1,y2))
 | _,_,_=>none
def qN1:Ex->List V->List Obj->Option ((Int×Int×LI×LI×Int×LL×LL) ⊕ (Int×LI×LI×Int×LL×LL)):=fun e vs objs=>match e,vs,objs with
 | .ret,[.s (.i .i64 y0),.s (.ptr 0 0 none 0),.s (.i .i64 y1)],[.cells 72 [.arr .i8 81 y2,.arr .i8 16 y3,.one [.i .i8 y4],.rows [.i .u64,.i .u64] 32 y5,.rows [.i .u64,.i .u64] 2 y6]]=>some (.inl (y0,y1,y2,y3,y4,y5,y6))
 | .exit 4,[.s .bad,.s (.ptr 0 0 none 0),.s (.i .i64 y0)],[.cells 72 [.arr .i8 81 y1,.arr .i8 16 y2,.one [.i .i8 y3],.rows [.i .u64,.i .u64] 32 y4,.rows [.i .u64,.i .u64] 2 y5]]=>some (.inr (y0,y1,y2,y3,y4,y5))
 | _,_,_=>none
def qN5:Ex->List V->List Obj->Option ((Int) ⊕ (Unit)):=fun e vs objs=>match e,vs,objs with
 | .ret,[.s (.i .i64 y0)],[]=>some (.inl (y0))
 | .exit 2,[.s .bad],[]=>some (.inr ())
 | _,_,_=>none
def qN8:HL:=fun vs objs K=>match vs,objs with
 | [.s (.ptr 0 0 none 0),.agg [.arr .i8 81 x0],.s (.i .i64 x1)],[.cells 28 [.arr .i8 81 x2,.arr .i8 16 x3,.one [.i .i8 x4]]]=>ob (qE2 qB x0 x1 x2 x3 x4) fun t0=>sw t0 (fun z=>K (.ret) ([.s (.ptr 0 0 none 0),.s (.i .i64 (z.1))]) ([.cells 28 [.arr .i8 81 (z.2.1),.arr .i8 16 (z.2.2.1),.one [.i .i8 (z.2.2.2)]]])) (fun z=>K (.exit 0) ([.s (.ptr 0 0 none 0),.s .bad]) ([.cells 28 [.arr .i8 81 (z.1),.arr .i8 16 (z.2.1),.one [.i .i8 (z.2.2)]]]))
 | _,_=>none
def qN7:HL:=fun vs objs K=>match vs,objs with
 | [.s (.ptr 0 0 none 0),.s (.i .i64 x0),.s (.i .i64 x1),.s (.i .i64 x2)],[.cells 72 [.arr .i8 81 x3,.arr .i8 16 x4,.one [.i .i8 x5],.rows [.i .u64,.i .u64] 32 x6,.rows [.i .u64,.i .u64] 2 x7]]=>ob (qE0 qB x0 x1 x2 x3 x4 x5 x6 x7) fun t0=>sw t0 (fun z=>K (.ret) ([.s (.i .i64 (z.1)),.s (.ptr 0 0 none 0),.s (.i .i64 (z.2.1))]) ([.cells 72 [.arr .i8 81 (z.2.2.1),.arr .i8 16 (z.2.2.2.1),.one [.i .i8 (z.2.2.2.2.1)],.rows [.i .u64,.i .u64] 32 (z.2.2.2.2.2.1),.rows [.i .u64,.i .u64] 2 (z.2.2.2.2.2.2)]])) (fun z=>K (.exit 4) ([.s .bad,.s (.ptr 0 0 none 0),.s (.i .i64 (z.1))]) ([.cells 72 [.arr .i8 81 (z.2.1),.arr .i8 16 (z.2.2.1),.one [.i .i8 (z.2.2.2.1)],.rows [.i .u64,.i .u64] 32 (z.2.2.2.2.1),.rows [.i .u64,.i .u64] 2 (z.2.2.2.2.2)]]))
 | _,_=>none
def qN9:HL:=fun vs objs K=>match vs,objs with
 | [.s (.ptr 0 0 none 0),.s (.i .i64 x0)],[.cells 72 [.arr .i8 81 x1,.arr .i8 16 x2,.one [.i .i8 x3],.rows [.i .u64,.i .u64] 32 x4,.rows [.i .u64,.i .u64] 2 x5]]=>ob (qE3 qB x0 x1 x2 x3 x4 x5) fun t0=>sw t0 (fun y0=>K (.ret) ([.s (.i .i64 y0)]) ([])) (fun _=>K (.exit 2) ([.s .bad]) ([]))
 | _,_=>none
def qhr:{R:Type}->Nat->List V->List Obj->(Ex->List V->List Obj->Option R)->Option R:=fun q vs objs K=>bif Nat.beq q 2 then qN8 vs objs K else bif Nat.beq q 12 then qN7 vs objs K else bif Nat.beq q 9 then qN9 vs objs K else none
def qEz:Ctx:=mkC 36 ((qMQ (qFm (qSI (qF5 (qKO (qMi qI))))))) [(2,[1,9,10],[1,2]),(9,[5,20],[2]),(12,[5,6,20,23],[2,5,20])] qhr
theorem qKT:CtxOK Tryz.prog qEz:=mkC_ok ((qSD _ (qGa _ (qdU _ (qG1 _ (qNp _ (qSe _ qK)))))))
def qN4 (f:Nat) (x0:LI) (x1:Int) (x2 x3:LI) (x4:Int):Option ((Int×LI×LI×Int) ⊕ (LI×LI×Int)):=qe qEz 0 [1,9,10] [1,2] (qE Tryz.f91 2) f ([.s (.ptr 0 0 none 0),.agg [.arr .i8 81 x0],.s (.i .i64 x1)]) ([.cells 28 [.arr .i8 81 x2,.arr .i8 16 x3,.one [.i .i8 x4]]]) qN3
theorem qhp (f:Nat) (x0:LI) (x1:Int) (x2 x3:LI) (x4:Int):qN4 (f+1) x0 x1 x2 x3 x4=qG4 (qN4 f) x0 x1 x2 x3 x4:=by kernel_rfl
theorem qU0:∀ f,qN4 f=qE2 f
 | 0=>rfl
 | f+1=>by funext x0 x1 x2 x3 x4; rw [qhp,qU0 f]; rfl
def qN2 (f:Nat) (x0 x1 x2:Int) (x3 x4:LI) (x5:Int) (x6 x7:LL):Option ((Int×Int×LI×LI×Int×LL×LL) ⊕ (Int×LI×LI×Int×LL×LL)):=qe qEz 0 [5,6,20,23] [2,5,20] (qE Tryz.f91 12) f ([.s (.ptr 0 0 none 0),.s (.i .i64 x0),.s (.i .i64 x1),.s (.i .i64 x2)]) ([.cells 72 [.arr .i8 81 x3,.arr .i8 16 x4,.one [.i .i8 x5],.rows [.i .u64,.i .u64] 32 x6,.rows [.i .u64,.i .u64] 2 x7]]) qN1
theorem qho (f:Nat) (x0 x1 x2:Int) (x3 x4:LI) (x5:Int) (x6 x7:LL):qN2 (f+1) x0 x1 x2 x3 x4 x5 x6 x7=qE1 (qN2 f) x0 x1 x2 x3 x4 x5 x6 x7:=by kernel_rfl
theorem qUz:∀ f,qN2 f=qE0 f
 | 0=>rfl
 | f+1=>by funext x0 x1 x2 x3 x4 x5 x6 x7; rw [qho,qUz f]; rfl
def qN6 (f:Nat) (x0:Int) (x1 x2:LI) (x3:Int) (x4 x5:LL):Option ((Int) ⊕ (Unit)):=qe qEz 0 [5,20] [2] (qE Tryz.f91 9) f ([.s (.ptr 0 0 none 0),.s (.i .i64 x0)]) ([.cells 72 [.arr .i8 81 x1,.arr .i8 16 x2,.one [.i .i8 x3],.rows [.i .u64,.i .u64] 32 x4,.rows [.i .u64,.i .u64] 2 x5]]) qN5
theorem qhq (f:Nat) (x0:Int) (x1 x2:LI) (x3:Int) (x4 x5:LL):qN6 (f+1) x0 x1 x2 x3 x4 x5=qG5 (qN6 f) x0 x1 x2 x3 x4 x5:=by kernel_rfl
theorem qU1:∀ f,qN6 f=qE3 f
 | 0=>rfl
 | f+1=>by funext x0 x1 x2 x3 x4 x5; rw [qhq,qU1 f]; rfl
theorem qhu:qa Tryz.prog qEz 0 (qE Tryz.f91 2):=
 qg mixed qKT (qM.of (l':=[]) (by kernel_rfl) trivial) (q:=2) (kin:=[1,9,10]) (kout:=[1,2]) (by kernel_rfl) (by kernel_rfl) fun vs objs K r h=>by
  replace h:qN8 vs objs K=some r:=h
  unfold qN8 at h
  split at h
  ·skip
   obtain ⟨t,h1,h2⟩:=qD h
   rw [<- qU0] at h1
   refine ⟨_,qN3,t,qB,h1,fun e vs' objs' hd=>?_⟩
   unfold qN3 at hd
   split at hd
   ·skip
    cases hd
    exact h2
   ·skip
    cases hd
    exact h2
   ·cases hd
  ·cases h
theorem qht:qa Tryz.prog qEz 0 (qE Tryz.f91 12):=
 qg mixed qKT (qM.of (l':=[]) (by kernel_rfl) trivial) (q:=12) (kin:=[5,6,20,23]) (kout:=[2,5,20]) (by kernel_rfl) (by kernel_rfl) fun vs objs K r h=>by
  replace h:qN7 vs objs K=some r:=h
  unfold qN7 at h
  split at h
  ·skip
   obtain ⟨t,h1,h2⟩:=qD h
   rw [<- qUz] at h1
   refine ⟨_,qN1,t,qB,h1,fun e vs' objs' hd=>?_⟩
   unfold qN1 at hd
   split at hd
   ·skip
    cases hd
    exact h2
   ·skip
    cases hd
    exact h2
   ·cases hd
  ·cases h
theorem qhv:qa Tryz.prog qEz 0 (qE Tryz.f91 9):=
 qg mixed qKT (qM.of (l':=[qE Tryz.f91 12]) (by kernel_rfl) ⟨qht,trivial⟩) (q:=9) (kin:=[5,20]) (kout:=[2]) (by kernel_rfl) (by kernel_rfl) fun vs objs K r h=>by
  replace h:qN9 vs objs K=some r:=h
  unfold qN9 at h
  split at h
  ·skip
   obtain ⟨t,h1,h2⟩:=qD h
   rw [<- qU1] at h1
   refine ⟨_,qN5,t,qB,h1,fun e vs' objs' hd=>?_⟩
   unfold qN5 at hd
   split at hd
   ·skip
    cases hd
    exact h2
   ·skip
    cases hd
    exact h2
   ·cases hd
  ·cases h
def qUy:V->List Obj->Option (Int):=fun v objs=>match v,objs with
 | .s (.i .i64 y0),[]=>some (y0)
 | _,_=>none
theorem qhn (x0 x1:LI) (x2:Int):fnE qEz Tryz.f91 ([.agg [.arr .i8 81 x0,.arr .i8 16 x1,.one [.i .i8 x2]]]) ([]) qUy=qF8 x0 x1 x2:=by kernel_rfl
def qUx:HA:=fun o vs objs K=>match vs,objs with
 | [.agg [.arr .i8 81 x0,.arr .i8 16 x1,.one [.i .i8 x2]]],[]=>ob (qF8 x0 x1 x2) fun y0=>K false (.s (.i .i64 y0)) ([])
 | _,_=>o 91 vs objs K
def qU2 (o:Orc):Orc:=qJ 91 (qUx o) o
theorem qhs:OQ Tryz.prog qU2:=fun _ ho=>qL ho fun vs objs K r h=>by
 unfold qUx at h
 split at h
 ·skip
  obtain ⟨t,h1,h2⟩:=qD h
  refine q7 mixed qKT (fn:=Tryz.f91) (b:=(Tryz.f91).body.getD .skip) (by kernel_rfl) (by kernel_rfl) (by kernel_rfl) ((qhn _ _ _).trans h1) (m:=0) rfl (qM.of (l':=[qE Tryz.f91 2,qE Tryz.f91 9]) (by kernel_rfl) ⟨qhu,qhv,trivial⟩) fun v objs' hd=>?_
  unfold qUy at hd;split at hd;(cases hd;exact h2);cases hd
 ·exact ho _ _ _ _ _ h
def qNf:Ex->List V->List Obj->Option ((Int×LI×LI×Int×LI×LI) ⊕ (LI×LI×Int×LI×LI)):=fun e vs objs=>match e,vs,objs with
 | .ret,[.s (.ptr 0 0 none 0),.s (.i .i64 y0),.s (.ptr 1 0 none 0),.s (.ptr 2 0 none 0)],[.cells 28 [.arr .i8 81 y1,.arr .i8 16 y2,.one [.i .i8 y3]],.cells 91 [.arr .i64 9 y4],.cells 124 [.arr .i64 2 y5]]=>some (.inl (y0,y1,y2,y3,y4,y5))
 | .exit 0,[.s (.ptr 0 0 none 0),.s .bad,.s (.ptr 1 0 none 0),.s (.ptr 2 0 none 0)],[.cells 28 [.arr .i8 81 y0,.arr .i8 16 y1,.one [.i .i8 y2]],.cells 91 [.arr .i64 9 y3],.cells 124 [.arr .i64 2 y4]]=>some (.inr (y0,y1,y2,y3,y4))
 | _,_,_=>none
def qNb:Ex->List V->List Obj->Option ((Int×LI×Int×LI×LI×Int×LI×LI) ⊕ (LI×Int×LI×LI×Int×LI×LI)):=fun e vs objs=>match e,vs,objs with
 | .ret,[.s (.ptr 0 0 none 0),.s (.i .i64 y0),.s (.ptr 1 0 none 0),.s (.ptr 2 0 none 0),.agg [.arr .i8 16 y1],.s (.i .i64 y2)],[.cells 28 [.arr .i8 81 y3,.arr .i8 16 y4,.one [.i .i8 y5]],.cells 91 [.arr .i64 9 y6],.cells 124 [.arr .i64 2 y7]]=>some (.inl (y0,y1,y2,y3,y4,y5,y6,y7))
 | .exit 9,[.s (.ptr 0 0 none 0),.s .bad,.s (.ptr 1 0 none 0),.s (.ptr 2 0 none 0),.agg [.arr .i8 16 y0],.s (.i .i64 y1)],[.cells 28 [.arr .i8 81 y2,.arr .i8 16 y3,.one [.i .i8 y4]],.cells 91 [.arr .i64 9 y5],.cells 124 [.arr .i64 2 y6]]=>some (.inr (y0,y1,y2,y3,y4,y5,y6))
 | _,_,_=>none
def qNZ:Ex->List V->List Obj->Option ((Int×LI×LI×Int×LI×LI) ⊕ (LI×LI×Int×LI×LI)):=fun e vs objs=>match e,vs,objs with
 | .ret,[.s (.ptr 0 0 none 0),.s (.i .i64 y0),.s (.ptr 1 0 none 0),.s (.ptr 2 0 none 0)],[.cells 28 [.arr .i8 81 y1,.arr .i8 16 y2,.one [.i .i8 y3]],.cells 91 [.arr .i64 9 y4],.cells 124 [.arr .i64 2 y5]]=>some (.inl (y0,y1,y2,y3,y4,y5))
 | .exit 7,[.s (.ptr 0 0 none 0),.s .bad,.s (.ptr 1 0 none 0),.s (.ptr 2 0 none 0)],[.cells 28 [.arr .i8 81 y0,.arr .i8 16 y1,.one [.i .i8 y2]],.cells 91 [.arr .i64 9 y3],.cells 124 [.arr .i64 2 y4]]=>some (.inr (y0,y1,y2,y3,y4))
 | _,_,_=>none
def qNd:Ex->List V->List Obj->Option ((Int×LI×LI×Int) ⊕ (LI×LI×Int)):=fun e vs objs=>match e,vs,objs with
 | .ret,[.s (.ptr 0 0 none 0),.s (.i .i64 y0)],[.cells 28 [.arr .i8 81 y1,.arr .i8 16 y2,.one [.i .i8 y3]]]=>some (.inl (y0,y1,y2,y3))
 | .exit 11,[.s (.ptr 0 0 none 0),.s .bad],[.cells 28 [.arr .i8 81 y0,.arr .i8 16 y1,.one [.i .i8 y2]]]=>some (.inr (y0,y1,y2))
 | _,_,_=>none
def qNk:HL:=fun vs objs K=>match vs,objs with
 | [.s (.ptr 0 0 none 0),.s (.ptr 1 0 none 0),.s (.ptr 2 0 none 0),.agg [.arr .i8 81 x0],.s (.i .i64 x1)],[.cells 28 [.arr .i8 81 x2,.arr .i8 16 x3,.one [.i .i8 x4]],.cells 91 [.arr .i64 9 x5],.cells 124 [.arr .i64 2 x6]]=>ob (qCN qB x0 x1 x2 x3 x4 x5 x6) fun t0=>sw t0 (fun z=>K (.ret) ([.s (.ptr 0 0 none 0),.s (.i .i64 (z.1)),.s (.ptr 1 0 none 0),.s (.ptr 2 0 none 0)]) ([.cells 28 [.arr .i8 81 (z.2.1),.arr .i8 16 (z.2.2.1),.one [.i .i8 (z.2.2.2.1)]],.cells 91 [.arr .i64 9 (z.2.2.2.2.1)],.cells 124 [.arr .i64 2 (z.2.2.2.2.2)]])) (fun z=>K (.exit 0) ([.s (.ptr 0 0 none 0),.s .bad,.s (.ptr 1 0 none 0),.s (.ptr 2 0 none 0)]) ([.cells 28 [.arr .i8 81 (z.1),.arr .i8 16 (z.2.1),.one [.i .i8 (z.2.2.1)]],.cells 91 [.arr .i64 9 (z.2.2.2.1)],.cells 124 [.arr .i64 2 (z.2.2.2.2)]]))
 | _,_=>none
def qNi:HL:=fun vs objs K=>match vs,objs with
 | [.s (.ptr 0 0 none 0),.s (.ptr 1 0 none 0),.s (.ptr 2 0 none 0),.agg [.arr .i8 16 x0],.s (.i .i64 x1),.agg [.arr .i8 8 x2],.s (.i .i64 x3)],[.cells 28 [.arr .i8 81 x4,.arr .i8 16 x5,.one [.i .i8 x6]],.cells 91 [.arr .i64 9 x7],.cells 124 [.arr .i64 2 x8]]=>ob (qC1 qB x0 x1 x2 x3 x4 x5 x6 x7 x8) fun t0=>sw t0 (fun z=>K (.ret) ([.s (.ptr 0 0 none 0),.s (.i .i64 (z.1)),.s (.ptr 1 0 none 0),.s (.ptr 2 0 none 0),.agg [.arr .i8 16 (z.2.1)],.s (.i .i64 (z.2.2.1))]) ([.cells 28 [.arr .i8 81 (z.2.2.2.1),.arr .i8 16 (z.2.2.2.2.1),.one [.i .i8 (z.2.2.2.2.2.1)]],.cells 91 [.arr .i64 9 (z.2.2.2.2.2.2.1)],.cells 124 [.arr .i64 2 (z.2.2.2.2.2.2.2)]])) (fun z=>K (.exit 9) ([.s (.ptr 0 0 none 0),.s .bad,.s (.ptr 1 0 none 0),.s (.ptr 2 0 none 0),.agg [.arr .i8 16 (z.1)],.s (.i .i64 (z.2.1))]) ([.cells 28 [.arr .i8 81 (z.2.2.1),.arr .i8 16 (z.2.2.2.1),.one [.i .i8 (z.2.2.2.2.1)]],.cells 91 [.arr .i64 9 (z.2.2.2.2.2.1)],.cells 124 [.arr .i64 2 (z.2.2.2.2.2.2)]]))
 | _,_=>none
def qNh:HL:=fun vs objs K=>match vs,objs with
 | [.s (.ptr 0 0 none 0),.s (.ptr 1 0 none 0),.s (.ptr 2 0 none 0),.agg [.arr .i8 16 x0],.s (.i .i64 x1)],[.cells 28 [.arr .i8 81 x2,.arr .i8 16 x3,.one [.i .i8 x4]],.cells 91 [.arr .i64 9 x5],.cells 124 [.arr .i64 2 x6]]=>ob (qCf qB x0 x1 x2 x3 x4 x5 x6) fun t0=>sw t0 (fun z=>K (.ret) ([.s (.ptr 0 0 none 0),.s (.i .i64 (z.1)),.s (.ptr 1 0 none 0),.s (.ptr 2 0 none 0)]) ([.cells 28 [.arr .i8 81 (z.2.1),.arr .i8 16 (z.2.2.1),.one [.i .i8 (z.2.2.2.1)]],.cells 91 [.arr .i64 9 (z.2.2.2.2.1)],.cells 124 [.arr .i64 2 (z.2.2.2.2.2)]])) (fun z=>K (.exit 7) ([.s (.ptr 0 0 none 0),.s .bad,.s (.ptr 1 0 none 0),.s (.ptr 2 0 none 0)]) ([.cells 28 [.arr .i8 81 (z.1),.arr .i8 16 (z.2.1),.one [.i .i8 (z.2.2.1)]],.cells 91 [.arr .i64 9 (z.2.2.2.1)],.cells 124 [.arr .i64 2 (z.2.2.2.2)]]))
 | _,_=>none
def qNj:HL:=fun vs objs K=>match vs,objs with
 | [.s (.ptr 0 0 none 0),.s (.ptr 1 0 none 0),.s (.i .i64 x0)],[.cells 28 [.arr .i8 81 x1,.arr .i8 16 x2,.one [.i .i8 x3]],.cells 91 [.arr .i64 9 x4]]=>ob (qDU qB x0 x1 x2 x3 x4) fun t0=>sw t0 (fun z=>K (.ret) ([.s (.ptr 0 0 none 0),.s (.i .i64 (z.1))]) ([.cells 28 [.arr .i8 81 (z.2.1),.arr .i8 16 (z.2.2.1),.one [.i .i8 (z.2.2.2)]]])) (fun z=>K (.exit 11) ([.s (.ptr 0 0 none 0),.s .bad]) ([.cells 28 [.arr .i8 81 (z.1),.arr .i8 16 (z.2.1),.one [.i .i8 (z.2.2)]]]))
 | _,_=>none
def qhE:{R:Type}->Nat->List V->List Obj->(Ex->List V->List Obj->Option R)->Option R:=fun q vs objs K=>bif Nat.beq q 6 then qNk vs objs K else bif Nat.beq q 20 then qNi vs objs K else bif Nat.beq q 17 then qNh vs objs K else bif Nat.beq q 30 then qNj vs objs K else none
def qDS:Ctx:=mkC 98 ((qU2 (qZt (qLl (qDj (qCr qI)))))) [(6,[1,3,4,22,23],[1,2,3,4]),(17,[1,3,4,51,52],[1,2,3,4]),(20,[1,3,4,51,52,55,56],[1,2,3,4,51,52]),(30,[1,3,12],[1,2])] qhE
theorem qIn:CtxOK Tryz.prog qDS:=mkC_ok ((qhs _ (qoK _ (qQU _ (qET _ (qDC _ qK))))))
def qNg (f:Nat) (x0:LI) (x1:Int) (x2 x3:LI) (x4:Int) (x5 x6:LI):Option ((Int×LI×LI×Int×LI×LI) ⊕ (LI×LI×Int×LI×LI)):=qe qDS 0 [1,3,4,22,23] [1,2,3,4] (qE Tryz.f52 6) f ([.s (.ptr 0 0 none 0),.s (.ptr 1 0 none 0),.s (.ptr 2 0 none 0),.agg [.arr .i8 81 x0],.s (.i .i64 x1)]) ([.cells 28 [.arr .i8 81 x2,.arr .i8 16 x3,.one [.i .i8 x4]],.cells 91 [.arr .i64 9 x5],.cells 124 [.arr .i64 2 x6]]) qNf
theorem qhD (f:Nat) (x0:LI) (x1:Int) (x2 x3:LI) (x4:Int) (x5 x6:LI):qNg (f+1) x0 x1 x2 x3 x4 x5 x6=qEy (qNg f) x0 x1 x2 x3 x4 x5 x6:=by kernel_rfl
theorem qUI:∀ f,qNg f=qCN f
 | 0=>rfl
 | f+1=>by funext x0 x1 x2 x3 x4 x5 x6; rw [qhD,qUI f]; rfl
def qNc (f:Nat) (x0:LI) (x1:Int) (x2:LI) (x3:Int) (x4 x5:LI) (x6:Int) (x7 x8:LI):Option ((Int×LI×Int×LI×LI×Int×LI×LI) ⊕ (LI×Int×LI×LI×Int×LI×LI)):=qe qDS 0 [1,3,4,51,52,55,56] [1,2,3,4,51,52] (qE Tryz.f52 20) f ([.s (.ptr 0 0 none 0),.s (.ptr 1 0 none 0),.s (.ptr 2 0 none 0),.agg [.arr .i8 16 x0],.s (.i .i64 x1),.agg [.arr .i8 8 x2],.s (.i .i64 x3)]) ([.cells 28 [.arr .i8 81 x4,.arr .i8 16 x5,.one [.i .i8 x6]],.cells 91 [.arr .i64 9 x7],.cells 124 [.arr .i64 2 x8]]) qNb
theorem qhB (f:Nat) (x0:LI) (x1:Int) (x2:LI) (x3:Int) (x4 x5:LI) (x6:Int) (x7 x8:LI):qNc (f+1) x0 x1 x2 x3 x4 x5 x6 x7 x8=qEx (qNc f) x0 x1 x2 x3 x4 x5 x6 x7 x8:=by kernel_rfl
theorem qUG:∀ f,qNc f=qC1 f
 | 0=>rfl
 | f+1=>by funext x0 x1 x2 x3 x4 x5 x6 x7 x8; rw [qhB,qUG f]; rfl
def qNa (f:Nat) (x0:LI) (x1:Int) (x2 x3:LI) (x4:Int) (x5 x6:LI):Option ((Int×LI×LI×Int×LI×LI) ⊕ (LI×LI×Int×LI×LI)):=qe qDS 0 [1,3,4,51,52] [1,2,3,4] (qE Tryz.f52 17) f ([.s (.ptr 0 0 none 0),.s (.ptr 1 0 none 0),.s (.ptr 2 0 none 0),.agg [.arr .i8 16 x0],.s (.i .i64 x1)]) ([.cells 28 [.arr .i8 81 x2,.arr .i8 16 x3,.one [.i .i8 x4]],.cells 91 [.arr .i64 9 x5],.cells 124 [.arr .i64 2 x6]]) qNZ
theorem qhA (f:Nat) (x0:LI) (x1:Int) (x2 x3:LI) (x4:Int) (x5 x6:LI):qNa (f+1) x0 x1 x2 x3 x4 x5 x6=qDT (qNa f) x0 x1 x2 x3 x4 x5 x6:=by kernel_rfl
theorem qUF:∀ f,qNa f=qCf f
 | 0=>rfl
 | f+1=>by funext x0 x1 x2 x3 x4 x5 x6; rw [qhA,qUF f]; rfl
def qNe (f:Nat) (x0:Int) (x1 x2:LI) (x3:Int) (x4:LI):Option ((Int×LI×LI×Int) ⊕ (LI×LI×Int)):=qe qDS 0 [1,3,12] [1,2] (qE Tryz.f52 30) f ([.s (.ptr 0 0 none 0),.s (.ptr 1 0 none 0),.s (.i .i64 x0)]) ([.cells 28 [.arr .i8 81 x1,.arr .i8 16 x2,.one [.i .i8 x3]],.cells 91 [.arr .i64 9 x4]]) qNd
theorem qhC (f:Nat) (x0:Int) (x1 x2:LI) (x3:Int) (x4:LI):qNe (f+1) x0 x1 x2 x3 x4=qGz (qNe f) x0 x1 x2 x3 x4:=by kernel_rfl
theorem qUH:∀ f,qNe f=qDU f
 | 0=>rfl
 | f+1=>by funext x0 x1 x2 x3 x4; rw [qhC,qUH f]; rfl
theorem qhJ:qa Tryz.prog qDS 0 (qE Tryz.f52 6):=
 qg mixed qIn (qM.of (l':=[]) (by kernel_rfl) trivial) (q:=6) (kin:=[1,3,4,22,23]) (kout:=[1,2,3,4]) (by kernel_rfl) (by kernel_rfl) fun vs objs K r h=>by
  replace h:qNk vs objs K=some r:=h
  unfold qNk at h
  split at h
  ·skip
   obtain ⟨t,h1,h2⟩:=qD h
   rw [<- qUI] at h1
   refine ⟨_,qNf,t,qB,h1,fun e vs' objs' hd=>?_⟩
   unfold qNf at hd
   split at hd
   ·skip
    cases hd
    exact h2
   ·skip
    cases hd
    exact h2
   ·cases hd
  ·cases h
theorem qhH:qa Tryz.prog qDS 0 (qE Tryz.f52 20):=
 qg mixed qIn (qM.of (l':=[]) (by kernel_rfl) trivial) (q:=20) (kin:=[1,3,4,51,52,55,56]) (kout:=[1,2,3,4,51,52]) (by kernel_rfl) (by kernel_rfl) fun vs objs K r h=>by
  replace h:qNi vs objs K=some r:=h
  unfold qNi at h
  split at h
  ·skip
   obtain ⟨t,h1,h2⟩:=qD h
   rw [<- qUG] at h1
   refine ⟨_,qNb,t,qB,h1,fun e vs' objs' hd=>?_⟩
   unfold qNb at hd
   split at hd
   ·skip
    cases hd
    exact h2
   ·skip
    cases hd
    exact h2
   ·cases hd
  ·cases h
theorem qhI:qa Tryz.prog qDS 0 (qE Tryz.f52 30):=
 qg mixed qIn (qM.of (l':=[]) (by kernel_rfl) trivial) (q:=30) (kin:=[1,3,12]) (kout:=[1,2]) (by kernel_rfl) (by kernel_rfl) fun vs objs K r h=>by
  replace h:qNj vs objs K=some r:=h
  unfold qNj at h
  split at h
  ·skip
   obtain ⟨t,h1,h2⟩:=qD h
   rw [<- qUH] at h1
   refine ⟨_,qNd,t,qB,h1,fun e vs' objs' hd=>?_⟩
   unfold qNd at hd
   split at hd
   ·skip
    cases hd
    exact h2
   ·skip
    cases hd
    exact h2
   ·cases hd
  ·cases h
theorem qhG:qa Tryz.prog qDS 0 (qE Tryz.f52 17):=
 qg mixed qIn (qM.of (l':=[qE Tryz.f52 20]) (by kernel_rfl) ⟨qhH,trivial⟩) (q:=17) (kin:=[1,3,4,51,52]) (kout:=[1,2,3,4]) (by kernel_rfl) (by kernel_rfl) fun vs objs K r h=>by
  replace h:qNh vs objs K=some r:=h
  unfold qNh at h
  split at h
  ·skip
   obtain ⟨t,h1,h2⟩:=qD h
   rw [<- qUF] at h1
   refine ⟨_,qNZ,t,qB,h1,fun e vs' objs' hd=>?_⟩
   unfold qNZ at hd
   split at hd
   ·skip
    cases hd
    exact h2
   ·skip
    cases hd
    exact h2
   ·cases hd
  ·cases h
def qUE:V->List Obj->Option (Int):=fun v objs=>match v,objs with
 | .s (.i .i64 y0),[]=>some (y0)
 | _,_=>none
theorem qg9 (x0 x1:LI) (x2:Int):fnE qDS Tryz.f52 ([.agg [.arr .i8 81 x0,.arr .i8 16 x1,.one [.i .i8 x2]]]) ([]) qUE=qIm x0 x1 x2:=by kernel_rfl
def qUD:HA:=fun o vs objs K=>match vs,objs with
 | [.agg [.arr .i8 81 x0,.arr .i8 16 x1,.one [.i .i8 x2]]],[]=>ob (qIm x0 x1 x2) fun y0=>K false (.s (.i .i64 y0)) ([])
 | _,_=>o 52 vs objs K
def qUJ (o:Orc):Orc:=qJ 52 (qUD o) o
theorem qhF:OQ Tryz.prog qUJ:=fun _ ho=>qL ho fun vs objs K r h=>by
 unfold qUD at h
 split at h
 ·skip
  obtain ⟨t,h1,h2⟩:=qD h
  refine q7 mixed qIn (fn:=Tryz.f52) (b:=(Tryz.f52).body.getD .skip) (by kernel_rfl) (by kernel_rfl) (by kernel_rfl) ((qg9 _ _ _).trans h1) (m:=0) rfl (qM.of (l':=[qE Tryz.f52 6,qE Tryz.f52 17,qE Tryz.f52 30]) (by kernel_rfl) ⟨qhJ,qhG,qhI,trivial⟩) fun v objs' hd=>?_
  unfold qUE at hd;split at hd;(cases hd;exact h2);cases hd
 ·exact ho _ _ _ _ _ h
def qNV:Ctx:=mkC 14 (qI) [] qU
theorem qg4:CtxOK Tryz.prog qNV:=mkC_ok (qK)
def qNW:V->List Obj->Option (Int):=fun v objs=>match v,objs with
 | .s (.i .i64 y0),[]=>some (y0)
 | _,_=>none
theorem qg3 (B:{R:Type}->Bool->Option R->Option R->Option R) (x0:Int):fnE { qNV with brg:=B } Tryz.f149 ([.s (.i .u64 x0)]) ([]) qNW=qNU B x0:=by kernel_rfl
theorem qg2 (x0:Int):fnE qNV Tryz.f149 ([.s (.i .u64 x0)]) ([]) qNW=qEw x0:=qg3 br x0
def qT8:HA:=fun o vs objs K=>match vs,objs with
 | [.s (.i .u64 x0)],[]=>ob (qEw x0) fun y0=>K false (.s (.i .i64 y0)) ([])
 | _,_=>o 149 vs objs K
def qNX (o:Orc):Orc:=qJ 149 (qT8 o) o
theorem qT9:OQ Tryz.prog qNX:=fun _ ho=>qL ho fun vs objs K r h=>by
 unfold qT8 at h
 split at h
 ·skip
  obtain ⟨t,h1,h2⟩:=qD h
  refine qX mixed qg4 ((qg2 _).trans h1) (by kernel_rfl) fun v objs' hd=>?_
  unfold qNW at hd;split at hd;(cases hd;exact h2);cases hd
 ·exact ho _ _ _ _ _ h
def qdK:Ctx:=mkC 18 ((qNX qI)) [] qU
theorem qr0:CtxOK Tryz.prog qdK:=mkC_ok ((qT9 _ qK))
def qdL:V->List Obj->Option (Int):=fun v objs=>match v,objs with
 | .s (.i .i64 y0),[]=>some (y0)
 | _,_=>none
theorem qrz (x0 x1:Int):fnE qdK Tryz.f126 ([.agg [.one [.i .u64 x0,.i .u64 x1]]]) ([]) qdL=qGd x0 x1:=by kernel_rfl
def qdJ:HA:=fun o vs objs K=>match vs,objs with
 | [.agg [.one [.i .u64 x0,.i .u64 x1]]],[]=>ob (qGd x0 x1) fun y0=>K false (.s (.i .i64 y0)) ([])
 | _,_=>o 126 vs objs K
def qMS (o:Orc):Orc:=qJ 126 (qdJ o) o
theorem qSF:OQ Tryz.prog qMS:=fun _ ho=>qL ho fun vs objs K r h=>by
 unfold qdJ at h
 split at h
 ·skip
  obtain ⟨t,h1,h2⟩:=qD h
  refine qX mixed qr0 ((qrz _ _).trans h1) (by kernel_rfl) fun v objs' hd=>?_
  unfold qdL at hd;split at hd;(cases hd;exact h2);cases hd
 ·exact ho _ _ _ _ _ h
def qUS:Ctx:=mkC 9 ((qMS (qF5 qI))) [] qU
theorem qhQ:CtxOK Tryz.prog qUS:=mkC_ok ((qSF _ (qG1 _ qK)))
def qUT:V->List Obj->Option (Int):=fun v objs=>match v,objs with
 | .s (.i .i64 y0),[]=>some (y0)
 | _,_=>none
theorem qhP (x0:Int) (x1 x2:LI) (x3:Int) (x4 x5:LL):fnE qUS Tryz.f112 ([.s (.ptr 0 0 none 0),.s (.i .i64 x0)]) ([.rcells 72 [.arr .i8 81 x1,.arr .i8 16 x2,.one [.i .i8 x3],.rows [.i .u64,.i .u64] 32 x4,.rows [.i .u64,.i .u64] 2 x5]]) (qAK 1 qUT)=qF3 x0 x1 x2 x3 x4 x5:=by kernel_rfl
def qUR:HA:=fun o vs objs K=>match vs,List.map Obj.toRO objs with
 | [.s (.ptr 0 0 none 0),.s (.i .i64 x0)],[.rcells 72 [.arr .i8 81 x1,.arr .i8 16 x2,.one [.i .i8 x3],.rows [.i .u64,.i .u64] 32 x4,.rows [.i .u64,.i .u64] 2 x5]]=>ob (qF3 x0 x1 x2 x3 x4 x5) fun y0=>K true (.s (.i .i64 y0)) ([])
 | _,_=>o 112 vs objs K
def qKM (o:Orc):Orc:=qJ 112 (qUR o) o
theorem qNm:OQ Tryz.prog qKM:=fun _ ho=>qL ho fun vs objs K r h=>by
 unfold qUR at h
 split at h
 ·skip
  have hq:List.map Obj.toRO objs=_:=(by rename_i hq; first | exact hq | assumption)
  obtain ⟨t,h1,h2⟩:=qD h
  refine qAc mixed qhQ (m:=1) (fn:=Tryz.f112) (b:=(Tryz.f112).body.getD .skip) (by kernel_rfl) (by kernel_rfl) (by kernel_rfl) hq (by kernel_rfl) (by kernel_rfl) (qM.of (l':=[]) (by kernel_rfl) trivial) ((qhP _ _ _ _ _ _).trans h1) fun v objs' hd=>?_
  unfold qUT at hd;split at hd;(cases hd;exact h2);cases hd
 ·exact ho _ _ _ _ _ h
def qUu:Ctx:=mkC 14 ((qGf qI)) [] qU
theorem qhm:CtxOK Tryz.prog qUu:=mkC_ok ((qIS _ qK))
def qUv:V->List Obj->Option (Int×Int):=fun v objs=>match v,objs with
 | .agg [.one [.i .u64 y0,.i .u64 y1]],[]=>some (y0,y1)
 | _,_=>none
theorem qhl (x0 x1:LI) (x2:Int) (x3 x4:LL):fnE qUu Tryz.f113 ([.s (.ptr 0 0 none 0)]) ([.rcells 72 [.arr .i8 81 x0,.arr .i8 16 x1,.one [.i .i8 x2],.rows [.i .u64,.i .u64] 32 x3,.rows [.i .u64,.i .u64] 2 x4]]) (qAK 1 qUv)=qC3 x0 x1 x2 x3 x4:=by kernel_rfl
def qUt:HA:=fun o vs objs K=>match vs,List.map Obj.toRO objs with
 | [.s (.ptr 0 0 none 0)],[.rcells 72 [.arr .i8 81 x0,.arr .i8 16 x1,.one [.i .i8 x2],.rows [.i .u64,.i .u64] 32 x3,.rows [.i .u64,.i .u64] 2 x4]]=>ob (qC3 x0 x1 x2 x3 x4) fun z=>K true (.agg [.one [.i .u64 (z.1),.i .u64 (z.2)]]) ([])
 | _,_=>o 113 vs objs K
def qG3 (o:Orc):Orc:=qJ 113 (qUt o) o
theorem qIo:OQ Tryz.prog qG3:=fun _ ho=>qL ho fun vs objs K r h=>by
 unfold qUt at h
 split at h
 ·skip
  have hq:List.map Obj.toRO objs=_:=(by rename_i hq; first | exact hq | assumption)
  obtain ⟨t,h1,h2⟩:=qD h
  refine qAc mixed qhm (m:=1) (fn:=Tryz.f113) (b:=(Tryz.f113).body.getD .skip) (by kernel_rfl) (by kernel_rfl) (by kernel_rfl) hq (by kernel_rfl) (by kernel_rfl) (qM.of (l':=[]) (by kernel_rfl) trivial) ((qhl _ _ _ _ _).trans h1) fun v objs' hd=>?_
  unfold qUv at hd;split at hd;(cases hd;exact h2);cases hd
 ·exact ho _ _ _ _ _ h
def qGk (n:Nat) {R:Type} (o:Orc) (vs:List V) (objs:List Obj) (K:Bool->V->List Obj->Option R):Option R:=match vs,objs with
 | [.s (.i .i64 x0)],[]=>ob (qGj n x0) fun z=>K false (.s (.sl 0 0 (z.1) true)) ([.sli 164 false (.rows [.i .i64,.i .i64] (z.2.1) (z.2.2))])
 | _,_=>o 160 vs objs K
def qSh (n:Nat) (o:Orc):Orc:=fun f vs objs K=>bif Nat.beq f 160 then qGk n o vs objs K else o f vs objs K
def qs9 (n:Nat):Orc:=qSh n qI
def qeO (n:Nat):Ctx:=mkC 57 (qs9 n) [] qU
def qeP:V->List Obj->Option (Nat×Nat×LL):=fun v objs=>match v,objs with
 | .s (.sl 0 0 y0 true),[.sli 164 false (.rows [.i .i64,.i .i64] y1 y2)]=>some (y0,y1,y2)
 | _,_=>none
theorem qs6 (n:Nat) (x0:Int):fnE (qeO n) Tryz.f160 ([.s (.i .i64 x0)]) ([]) qeP=qGj (n+1) x0:=by kernel_rfl
theorem qs7 (n:Nat) (hc:CtxOK Tryz.prog (qeO n)) {vs:List V} {objs:List Obj} (x0:Int) {R:Type} {K:Bool->V->List Obj->Option R} {r:R} (hv:vs=[.s (.i .i64 x0)]) (ho:objs=[]) (h:ob (qGj (n+1) x0) (fun z=>K false (.s (.sl 0 0 (z.1) true)) ([.sli 164 false (.rows [.i .i64,.i .i64] (z.2.1) (z.2.2))]))=some r):
  ∃ p v objs',K p v objs'=some r /\ qDO Tryz.prog 160 vs objs p v objs':=by
 subst hv
 subst ho
 obtain ⟨t,h1,h2⟩:=qD h
 refine qM9 mixed hc (objs:=[]) (fn:=Tryz.f160) (b:=(Tryz.f160).body.getD .skip) (by kernel_rfl) (by kernel_rfl) (by kernel_rfl) (qM.of (l':=[]) (by kernel_rfl) trivial) ((qs6 n x0).trans h1) fun v objs' hd=>?_
 unfold qeP at hd;split at hd;(cases hd;exact h2);cases hd
theorem qs8:∀ (n:Nat) (o:Orc) (ho:qCx Tryz.prog o),qCx Tryz.prog (qSh n o):=by
 intro n
 induction n with
 | zero=>
   intro o ho R f vs objs K r h
   replace h:(bif Nat.beq f 160 then qGk 0 o vs objs K else o f vs objs K)=some r:=h
   cases hf:Nat.beq f 160 with
   | false=>rw [hf] at h; exact ho f vs objs K r h
   | true=>
     rw [hf] at h
     have e:=Nat.eq_of_beq_eq_true hf
     subst e
     replace h:qGk 0 o vs objs K=some r:=h
     unfold qGk at h
     split at h
     ·skip
      cases h
     ·exact ho _ _ _ _ _ h
 | succ n ih=>
   intro o ho R f vs objs K r h
   replace h:(bif Nat.beq f 160 then qGk (n+1) o vs objs K else o f vs objs K)=some r:=h
   cases hf:Nat.beq f 160 with
   | false=>rw [hf] at h; exact ho f vs objs K r h
   | true=>
     rw [hf] at h
     have e:=Nat.eq_of_beq_eq_true hf
     subst e
     replace h:qGk (n+1) o vs objs K=some r:=h
     unfold qGk at h
     split at h
     ·skip
      exact qs7 n ⟨tab_ok,ih _ qK,eqs_ok,bytes_ok,fun _ _ _=>rfl,exts_ok⟩ _ rfl rfl h
     ·exact ho _ _ _ _ _ h
def qeL:Ctx:=mkC 15 (qI) [] qU
theorem qs5:CtxOK Tryz.prog qeL:=mkC_ok (qK)
def qeM:V->List Obj->Option (Int×Int):=fun v objs=>match v,objs with
 | .agg [.one [.i .i64 y0,.i .i64 y1]],[]=>some (y0,y1)
 | _,_=>none
theorem qs4 (x0 x1 x2:Int):fnE qeL Tryz.f151 ([.agg [.one [.i .i64 x0,.i .i64 x1]],.s (.i .i64 x2)]) ([]) qeM=qFs x0 x1 x2:=by kernel_rfl
def qeK:HA:=fun o vs objs K=>match vs,objs with
 | [.agg [.one [.i .i64 x0,.i .i64 x1]],.s (.i .i64 x2)],[]=>ob (qFs x0 x1 x2) fun z=>K false (.agg [.one [.i .i64 (z.1),.i .i64 (z.2)]]) ([])
 | _,_=>o 151 vs objs K
def qSg (o:Orc):Orc:=qJ 151 (qeK o) o
theorem qeN:OQ Tryz.prog qSg:=fun _ ho=>qL ho fun vs objs K r h=>by
 unfold qeK at h
 split at h
 ·skip
  obtain ⟨t,h1,h2⟩:=qD h
  refine qX mixed qs5 ((qs4 _ _ _).trans h1) (by kernel_rfl) fun v objs' hd=>?_
  unfold qeM at hd;split at hd;(cases hd;exact h2);cases hd
 ·exact ho _ _ _ _ _ h
def qdH:Ctx:=mkC 5 (qI) [] qU
theorem qry:CtxOK Tryz.prog qdH:=mkC_ok (qK)
def qdI:V->List Obj->Option (Int):=fun v objs=>match v,objs with
 | .s (.i .i64 y0),[]=>some (y0)
 | _,_=>none
theorem qrx (x0:Int):fnE qdH Tryz.f104 ([.s (.i .i64 x0)]) ([]) qdI=qGc x0:=by kernel_rfl
def qdG:HA:=fun o vs objs K=>match vs,objs with
 | [.s (.i .i64 x0)],[]=>ob (qGc x0) fun y0=>K false (.s (.i .i64 y0)) ([])
 | _,_=>o 104 vs objs K
def qMR (o:Orc):Orc:=qJ 104 (qdG o) o
theorem qSE:OQ Tryz.prog qMR:=fun _ ho=>qL ho fun vs objs K r h=>by
 unfold qdG at h
 split at h
 ·skip
  obtain ⟨t,h1,h2⟩:=qD h
  refine qX mixed qry ((qrx _).trans h1) (by kernel_rfl) fun v objs' hd=>?_
  unfold qdI at hd;split at hd;(cases hd;exact h2);cases hd
 ·exact ho _ _ _ _ _ h
def qeH:Ctx:=mkC 42 ((set_Squareo (qMX (qMR qI)))) [] qU
theorem qs3:CtxOK Tryz.prog qeH:=mkC_ok ((set_Squareo_ok _ (qSO _ (qSE _ qK))))
def qeI:V->List Obj->Option (Int):=fun v objs=>match v,objs with
 | .s (.i .i64 y0),[]=>some (y0)
 | _,_=>none
theorem qs2 (x0 x1 x2:Int):fnE qeH Tryz.f159 ([.agg [.one [.i .i64 x0,.i .i64 x1]],.s (.i .i64 x2)]) ([]) qeI=qGi x0 x1 x2:=by kernel_rfl
def qeG:HA:=fun o vs objs K=>match vs,objs with
 | [.agg [.one [.i .i64 x0,.i .i64 x1]],.s (.i .i64 x2)],[]=>ob (qGi x0 x1 x2) fun y0=>K false (.s (.i .i64 y0)) ([])
 | _,_=>o 159 vs objs K
def qSf (o:Orc):Orc:=qJ 159 (qeG o) o
theorem qeJ:OQ Tryz.prog qSf:=fun _ ho=>qL ho fun vs objs K r h=>by
 unfold qeG at h
 split at h
 ·skip
  obtain ⟨t,h1,h2⟩:=qD h
  refine qX mixed qs3 ((qs2 _ _ _).trans h1) (by kernel_rfl) fun v objs' hd=>?_
  unfold qeI at hd;split at hd;(cases hd;exact h2);cases hd
 ·exact ho _ _ _ _ _ h
def qSj:Ex->List V->List Obj->Option (Int×Int×Int×Int):=fun e vs objs=>match e,vs,objs with
 | .exit 0,[.s (.ptr 0 0 none 0),.s (.ptr 1 0 none 0)],[.cells 68 [.one [.i .u64 y0,.i .u64 y1]],.cells 68 [.one [.i .u64 y2,.i .u64 y3]]]=>some (y0,y1,y2,y3)
 | _,_,_=>none
def qSl:HL:=fun vs objs K=>match vs,objs with
 | [.s (.i .i8 x0),.s (.i .i64 x1),.s (.ptr 0 0 none 0),.s (.ptr 1 0 none 0),.s (.sl 2 0 x2 true),.s (.i .i64 x3),.s (.i .i64 x4)],[.cells 68 [.one [.i .u64 x5,.i .u64 x6]],.cells 68 [.one [.i .u64 x7,.i .u64 x8]],.sli 164 false (.rows [.i .i64,.i .i64] x9 x10)]=>ob (qFu qB x0 x1 x2 x3 x4 x5 x6 x7 x8 x9 x10) fun z=>K (.exit 0) ([.s (.ptr 0 0 none 0),.s (.ptr 1 0 none 0)]) ([.cells 68 [.one [.i .u64 (z.1),.i .u64 (z.2.1)]],.cells 68 [.one [.i .u64 (z.2.2.1),.i .u64 (z.2.2.2)]]])
 | _,_=>none
def qtF:{R:Type}->Nat->List V->List Obj->(Ex->List V->List Obj->Option R)->Option R:=fun q vs objs K=>bif Nat.beq q 3 then qSl vs objs K else none
def qMj:Ctx:=mkC 26 ((qEe (qSf (qSg (qDj (qSh qB (qCr qI))))))) [(3,[0,1,4,5,10,11,12],[4,5])] qtF
theorem qeV:CtxOK Tryz.prog qMj:=mkC_ok ((qFq _ (qeJ _ (qeN _ (qET _ (qs8 qB _ (qDC _ qK)))))))
def qSk (f:Nat) (x0 x1:Int) (x2:Nat) (x3 x4:Int) (x5 x6:Int) (x7 x8:Int) (x9:Nat) (x10:LL):Option (Int×Int×Int×Int):=qe qMj 0 [0,1,4,5,10,11,12] [4,5] (qE Tryz.f150 3) f ([.s (.i .i8 x0),.s (.i .i64 x1),.s (.ptr 0 0 none 0),.s (.ptr 1 0 none 0),.s (.sl 2 0 x2 true),.s (.i .i64 x3),.s (.i .i64 x4)]) ([.cells 68 [.one [.i .u64 x5,.i .u64 x6]],.cells 68 [.one [.i .u64 x7,.i .u64 x8]],.sli 164 false (.rows [.i .i64,.i .i64] x9 x10)]) qSj
theorem qtE (f:Nat) (x0 x1:Int) (x2:Nat) (x3 x4:Int) (x5 x6:Int) (x7 x8:Int) (x9:Nat) (x10:LL):qSk (f+1) x0 x1 x2 x3 x4 x5 x6 x7 x8 x9 x10=qIZ (qSk f) x0 x1 x2 x3 x4 x5 x6 x7 x8 x9 x10:=by kernel_rfl
theorem qeX:∀ f,qSk f=qFu f
 | 0=>rfl
 | f+1=>by funext x0 x1 x2 x3 x4 x5 x6 x7 x8 x9 x10; rw [qtE,qeX f]; rfl
theorem qtH:qa Tryz.prog qMj 0 (qE Tryz.f150 3):=
 qg mixed qeV (qM.of (l':=[]) (by kernel_rfl) trivial) (q:=3) (kin:=[0,1,4,5,10,11,12]) (kout:=[4,5]) (by kernel_rfl) (by kernel_rfl) fun vs objs K r h=>by
  replace h:qSl vs objs K=some r:=h
  unfold qSl at h
  split at h
  ·skip
   obtain ⟨t,h1,h2⟩:=qD h
   rw [<- qeX] at h1
   refine ⟨_,qSj,t,qB,h1,fun e vs' objs' hd=>?_⟩
   unfold qSj at hd;split at hd;(cases hd;exact h2);cases hd
  ·cases h
def qeW:V->List Obj->Option (Int×Int):=fun v objs=>match v,objs with
 | .agg [.one [.i .u64 y0,.i .u64 y1]],[]=>some (y0,y1)
 | _,_=>none
theorem qtD (x0 x1:Int):fnE qMj Tryz.f150 ([.s (.i .i8 x0),.s (.i .i64 x1)]) ([]) qeW=qJq x0 x1:=by kernel_rfl
def qeU:HA:=fun o vs objs K=>match vs,objs with
 | [.s (.i .i8 x0),.s (.i .i64 x1)],[]=>ob (qJq x0 x1) fun z=>K false (.agg [.one [.i .u64 (z.1),.i .u64 (z.2)]]) ([])
 | _,_=>o 150 vs objs K
def qeY (o:Orc):Orc:=qJ 150 (qeU o) o
theorem qtG:OQ Tryz.prog qeY:=fun _ ho=>qL ho fun vs objs K r h=>by
 unfold qeU at h
 split at h
 ·skip
  obtain ⟨t,h1,h2⟩:=qD h
  refine q7 mixed qeV (fn:=Tryz.f150) (b:=(Tryz.f150).body.getD .skip) (by kernel_rfl) (by kernel_rfl) (by kernel_rfl) ((qtD _ _).trans h1) (m:=0) rfl (qM.of (l':=[qE Tryz.f150 3]) (by kernel_rfl) ⟨qtH,trivial⟩) fun v objs' hd=>?_
  unfold qeW at hd;split at hd;(cases hd;exact h2);cases hd
 ·exact ho _ _ _ _ _ h
def qaF:Ctx:=mkC 24 (qI) [] qU
theorem qot:CtxOK Tryz.prog qaF:=mkC_ok (qK)
def qaG:V->List Obj->Option (Nat×Nat×LL):=fun v objs=>match v,objs with
 | .s (.sl 0 0 y0 true),[.sli 164 false (.rows [.i .i64,.i .i64] y1 y2)]=>some (y0,y1,y2)
 | _,_=>none
theorem qos (x0:Int):fnE qaF Tryz.f146 ([.s (.i .i64 x0)]) ([]) qaG=qGS x0:=by kernel_rfl
def qaE:HA:=fun o vs objs K=>match vs,objs with
 | [.s (.i .i64 x0)],[]=>ob (qGS x0) fun z=>K false (.s (.sl 0 0 (z.1) true)) ([.sli 164 false (.rows [.i .i64,.i .i64] (z.2.1) (z.2.2))])
 | _,_=>o 146 vs objs K
def qQe (o:Orc):Orc:=qJ 146 (qaE o) o
theorem qaH:OQ Tryz.prog qQe:=fun _ ho=>qL ho fun vs objs K r h=>by
 unfold qaE at h
 split at h
 ·skip
  obtain ⟨t,h1,h2⟩:=qD h
  refine qX mixed qot ((qos _).trans h1) (by kernel_rfl) fun v objs' hd=>?_
  unfold qaG at hd;split at hd;(cases hd;exact h2);cases hd
 ·exact ho _ _ _ _ _ h
end
end Go.Kk.KkLN
