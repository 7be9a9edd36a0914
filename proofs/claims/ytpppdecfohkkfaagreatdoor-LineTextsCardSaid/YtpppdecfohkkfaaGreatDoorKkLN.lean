/- Printed by a tool of this project (KkGen): the program's functions come to the plain ones. -/
import Derived.Test.YtpppdecfohkkfaaGreatDoorProg
import Derived.Test.YtpppdecfohkkfaaGreatDoorKkTold
import Derived.Test.YtpppdecfohkkfaaGreatDoorKkPl
namespace Go.Kk.KkLN
noncomputable section
open Go.Proofs Go.Kk.Pl
set_option maxRecDepth 100000
set_option maxHeartbeats 4000000
def tab:Tab:=[(1,.sc (.f)),
 (2,.sc (.i .i64)),
 (3,.sc (.i .i64)),
 (4,.sc (.b)),
 (5,.sc (.i .u8)),
 (6,.sc (.i .u8)),
 (7,.st [.one [.i .i64,.i .i64,.b,.i .u8]] [(0,0,2),(0,1,3),(0,2,4),(0,3,6)]),
 (8,.st [.one [.i .i64,.i .i64,.b,.i .u8]] [(0,0,2),(0,1,3),(0,2,4),(0,3,6)]),
 (9,.sc (.str)),
 (10,.sc (.str)),
 (11,.sc (.str)),
 (12,.sc (.i .u64)),
 (13,.st [.one [.str,.i .u64]] [(0,0,9),(0,1,12)]),
 (14,.st [.one [.str,.i .u64]] [(0,0,9),(0,1,12)]),
 (15,.sc (.p)),
 (16,.sc (.p)),
 (17,.sc (.p)),
 (18,.st [.one [.p]] [(0,0,17)]),
 (19,.st [.one [.p]] [(0,0,17)]),
 (21,.sc (.i .i32)),
 (22,.sc (.i .i8)),
 (23,.sc (.i .i8)),
 (24,.ar 81 1 23 (.arr .i8 81)),
 (25,.ar 8 1 22 (.arr .i8 8)),
 (26,.ar 2 8 25 (.arr .i8 16)),
 (27,.st [.arr .i8 81,.arr .i8 16,.one [.i .i8]] [(0,0,24),(1,0,26),(2,0,22)]),
 (28,.st [.arr .i8 81,.arr .i8 16,.one [.i .i8]] [(0,0,24),(1,0,26),(2,0,22)]),
 (29,.sc (.sl 37)),
 (30,.sc (.f)),
 (31,.sc (.i .i64)),
 (33,.sc (.f)),
 (34,.sc (.f)),
 (35,.sc (.f)),
 (36,.st [.one [.i .i64,.i .i64,.i .i64,.b]] [(0,0,3),(0,1,3),(0,2,3),(0,3,4)]),
 (37,.st [.one [.i .i64,.i .i64,.i .i64,.b]] [(0,0,3),(0,1,3),(0,2,3),(0,3,4)]),
 (38,.sc (.f)),
 (39,.sc (.f)),
 (40,.sc (.f)),
 (41,.sc (.f)),
 (43,.sc (.f)),
 (44,.sc (.f)),
 (46,.sc (.f)),
 (47,.sc (.f)),
 (48,.sc (.sl 3)),
 (49,.sc (.f)),
 (50,.sc (.f)),
 (52,.sc (.f)),
 (53,.sc (.f)),
 (54,.sc (.f)),
 (55,.sc (.f)),
 (56,.sc (.f)),
 (57,.sc (.f)),
 (58,.sc (.p)),
 (59,.sc (.f)),
 (60,.sc (.f)),
 (61,.sc (.p)),
 (62,.sc (.i .u64)),
 (63,.sc (.i .u64)),
 (64,.sc (.sl 98)),
 (65,.st [.one [.p,.i .u64,.sl 98]] [(0,0,61),(0,1,63),(0,2,64)]),
 (66,.st [.one [.p,.i .u64,.sl 98]] [(0,0,61),(0,1,63),(0,2,64)]),
 (67,.st [.one [.i .u64,.i .u64]] [(0,0,62),(0,1,62)]),
 (68,.st [.one [.i .u64,.i .u64]] [(0,0,62),(0,1,62)]),
 (69,.ar 32 1 68 (.rows [.i .u64,.i .u64] 32)),
 (70,.ar 2 1 68 (.rows [.i .u64,.i .u64] 2)),
 (71,.st [.arr .i8 81,.arr .i8 16,.one [.i .i8],.rows [.i .u64,.i .u64] 32,.rows [.i .u64,.i .u64] 2] [(0,0,28),(3,0,69),(4,0,70)]),
 (72,.st [.arr .i8 81,.arr .i8 16,.one [.i .i8],.rows [.i .u64,.i .u64] 32,.rows [.i .u64,.i .u64] 2] [(0,0,28),(3,0,69),(4,0,70)]),
 (73,.sc (.f)),
 (74,.sc (.f)),
 (75,.sc (.f)),
 (76,.sc (.f)),
 (77,.sc (.sl 9)),
 (78,.sc (.f)),
 (79,.sc (.f)),
 (81,.sc (.f)),
 (82,.sc (.f)),
 (83,.sc (.f)),
 (84,.sc (.f)),
 (85,.sc (.f)),
 (86,.sc (.f)),
 (87,.ar 81 1 4 (.barr 81)),
 (88,.sc (.f)),
 (89,.sc (.f)),
 (90,.sc (.f)),
 (91,.ar 9 1 3 (.arr .i64 9)),
 (92,.sc (.f)),
 (93,.sc (.f)),
 (94,.sc (.f)),
 (95,.sc (.f)),
 (96,.sc (.f)),
 (97,.st [.one [.i .i64,.i .i64,.i .i64,.b,.i .i8,.i .i8]] [(0,0,37),(0,4,23),(0,5,23)]),
 (98,.st [.one [.i .i64,.i .i64,.i .i64,.b,.i .i8,.i .i8]] [(0,0,37),(0,4,23),(0,5,23)]),
 (99,.sc (.f)),
 (100,.sc (.f)),
 (101,.sc (.f)),
 (102,.sc (.f)),
 (103,.sc (.f)),
 (104,.sc (.f)),
 (105,.sc (.f)),
 (106,.sc (.f)),
 (107,.sc (.p)),
 (108,.sc (.sl 5)),
 (109,.st [.one [.p,.sl 5]] [(0,0,107),(0,1,108)]),
 (110,.st [.one [.p,.sl 5]] [(0,0,107),(0,1,108)]),
 (111,.sc (.f)),
 (115,.sc (.f)),
 (116,.sc (.f)),
 (117,.sc (.f)),
 (118,.sc (.sl 21)),
 (119,.sc (.f)),
 (121,.sc (.f)),
 (122,.sc (.f)),
 (123,.sc (.f)),
 (124,.ar 2 1 3 (.arr .i64 2)),
 (125,.sc (.f)),
 (126,.sc (.f)),
 (127,.sc (.f)),
 (128,.sc (.m 3 68)),
 (129,.st [.one [.p,.i .i64,.i .i64,.i .u64,.i .u64,.m 3 68,.b]] [(0,0,61),(0,1,3),(0,2,3),(0,3,68),(0,5,128),(0,6,4)]),
 (130,.st [.one [.p,.i .i64,.i .i64,.i .u64,.i .u64,.m 3 68,.b]] [(0,0,61),(0,1,3),(0,2,3),(0,3,68),(0,5,128),(0,6,4)]),
 (131,.sc (.f)),
 (132,.sc (.f)),
 (133,.sc (.f)),
 (134,.sc (.p)),
 (135,.sc (.f)),
 (136,.sc (.f)),
 (137,.sc (.f)),
 (138,.sc (.f)),
 (139,.sc (.f)),
 (140,.sc (.f)),
 (141,.sc (.f)),
 (142,.sc (.f)),
 (143,.sc (.f)),
 (144,.sc (.f)),
 (145,.sc (.f)),
 (146,.sc (.f)),
 (147,.sc (.f)),
 (149,.sc (.f)),
 (150,.sc (.f)),
 (152,.sc (.f)),
 (153,.sc (.f)),
 (155,.sc (.f)),
 (156,.sc (.f)),
 (158,.sc (.f)),
 (159,.sc (.f)),
 (160,.sc (.i .u64)),
 (161,.sc (.sl 164)),
 (162,.sc (.f)),
 (163,.st [.one [.i .i64,.i .i64]] [(0,0,3),(0,1,3)]),
 (164,.st [.one [.i .i64,.i .i64]] [(0,0,3),(0,1,3)]),
 (165,.sc (.f)),
 (166,.sc (.f)),
 (167,.sc (.f)),
 (168,.sc (.f)),
 (169,.ar 64 1 5 (.arr .u8 64)),
 (170,.ar 256 1 5 (.arr .u8 256)),
 (171,.st [.one [.i .u8,.i .u8]] [(0,0,5),(0,1,5)]),
 (172,.st [.one [.i .u8,.i .u8]] [(0,0,5),(0,1,5)]),
 (173,.ar 16 1 172 (.rows [.i .u8,.i .u8] 16)),
 (174,.sc (.i .u32)),
 (176,.sc (.f)),
 (177,.st [.one [.p,.p,.p,.str]] [(0,0,17),(0,1,17),(0,2,17),(0,3,9)]),
 (178,.st [.one [.p,.p,.p,.str]] [(0,0,17),(0,1,17),(0,2,17),(0,3,9)]),
 (182,.sc (.i .u8)),
 (183,.sc (.i .u8)),
 (184,.sc (.f)),
 (185,.sc (.i .i32)),
 (186,.sc (.i .i32)),
 (187,.st [.one [.i .u64,.i .u64,.i .u32,.i .u8,.i .u8,.i .u8,.i .u8,.f,.p,.i .i32,.i .i32]] [(0,0,12),(0,1,12),(0,2,174),(0,3,182),(0,4,5),(0,5,5),(0,6,183),(0,7,184),(0,8,134),(0,9,185),(0,10,186)]),
 (188,.st [.one [.i .u64,.i .u64,.i .u32,.i .u8,.i .u8,.i .u8,.i .u8,.f,.p,.i .i32,.i .i32]] [(0,0,12),(0,1,12),(0,2,174),(0,3,182),(0,4,5),(0,5,5),(0,6,183),(0,7,184),(0,8,134),(0,9,185),(0,10,186)])]
def eqs:List TypeId:=[3,9,24,25,26,27,28,31,36,37,67,68,124,163,164]
def bytes:List (TypeId×Nat):=[(37,32),(3,8),(98,40),(9,16),(5,1),(21,4),(164,16)]
theorem mixed:Tryz.prog.follows .mixedOrders=true:=by kernel_rfl
theorem tab_ok:∀ t L,Tab.get tab t=some L->LayOK Tryz.prog tab t L:=qbn (P:=Tryz.prog) (tab:=tab) (l:=tab) (by kernel_rfl)
theorem eqs_ok:∀ t L,qD1 t eqs=true->Tab.get tab t=some L->∃ f ck,f<=10000 /\ qA3 Tryz.prog f t=some ck /\ qBM L.segTs=some ck /\ Tryz.prog.eqGuardType Tryz.prog.depth t=false:=qUE (P:=Tryz.prog) (tab:=tab) (l:=eqs) (by kernel_rfl)
theorem bytes_ok:∀ t n,byN t bytes=some n->∃ i,Tryz.prog.info? t=some i /\ i.bytes=n:=qTL (P:=Tryz.prog) (l:=bytes) (by kernel_rfl)
def mkC (nt:Nat) (orc:Orc) (keeps:List (Nat×List Nat×List Nat)) (lp:{R:Type}->Nat->List V->List Obj->(Ex->List V->List Obj->Option R)->Option R):Ctx:={tab:=tab,eqs:=eqs,bytes:=bytes,nt:=nt,orc:=orc,keeps:=keeps,lp:=lp}
theorem exts_ok:qMA Tryz.prog:=exts_told
theorem mkC_ok {nt:Nat} {orc:Orc} {keeps:List (Nat×List Nat×List Nat)} {lp:{R:Type}->Nat->List V->List Obj->(Ex->List V->List Obj->Option R)->Option R} (h:qCj Tryz.prog orc):CtxOK Tryz.prog (mkC nt orc keeps lp):=⟨tab_ok,h,eqs_ok,bytes_ok,fun _ _ _=>rfl,exts_ok⟩
def set_Squarec:Ctx:=mkC 23 (qL) [] qa
theorem set_Squarec_ok:CtxOK Tryz.prog set_Squarec:=mkC_ok (qN)
def set_Squared:V->List Obj->Option (Int):=fun v objs=>match v,objs with
 | .s (.i .i64 y0),[]=>some (y0)
 | _,_=>none
theorem set_Square_eq (x0 x1:Int):fnE set_Squarec Tryz.f50 ([.s (.i .i64 x0),.s (.i .i64 x1)]) ([]) set_Squared=qB2 x0 x1:=by kernel_rfl
def set_Squarea:HA:=fun o vs objs K=>match vs,objs with
 | [.s (.i .i64 x0),.s (.i .i64 x1)],[]=>ob (qB2 x0 x1) fun y0=>K false (.s (.i .i64 y0)) ([])
 | _,_=>o 50 vs objs K
def set_Squareo (o:Orc):Orc:=qM 50 (set_Squarea o) o
theorem set_Squareo_ok:OQ Tryz.prog set_Squareo:=fun _ ho=>qQ ho fun vs objs K r h=>by
 unfold set_Squarea at h
 split at h
 ·skip
  obtain ⟨t,h1,h2⟩:=qG h
  refine qd mixed set_Squarec_ok ((set_Square_eq _ _).trans h1) (by kernel_rfl) fun v objs' hd=>?_
  unfold set_Squared at hd;split at hd;(cases hd;exact h2);cases hd
 ·exact ho _ _ _ _ _ h
def qSv:Ctx:=mkC 14 ((set_Squareo qL)) [] qa
theorem qd8:CtxOK Tryz.prog qSv:=mkC_ok ((set_Squareo_ok _ qN))
def qSw:V->List Obj->Option (Int):=fun v objs=>match v,objs with
 | .s (.i .i64 y0),[]=>some (y0)
 | _,_=>none
theorem qd7 (x0 x1 x2:Int):fnE qSv Tryz.f49 ([.s (.i .i64 x0),.s (.ptr 0 0 none 0),.s (.ptr 1 0 none 0)]) ([.rcells 3 [.one [.i .i64 x1]],.rcells 3 [.one [.i .i64 x2]]]) (qAE 2 qSw)=qJY x0 x1 x2:=by kernel_rfl
def qSu:HA:=fun o vs objs K=>match vs,List.map Obj.toRO objs with
 | [.s (.i .i64 x0),.s (.ptr 0 0 none 0),.s (.ptr 1 0 none 0)],[.rcells 3 [.one [.i .i64 x1]],.rcells 3 [.one [.i .i64 x2]]]=>ob (qJY x0 x1 x2) fun y0=>K true (.s (.i .i64 y0)) ([])
 | _,_=>o 49 vs objs K
def qSx (o:Orc):Orc:=qM 49 (qSu o) o
theorem qd9:OQ Tryz.prog qSx:=fun _ ho=>qQ ho fun vs objs K r h=>by
 unfold qSu at h
 split at h
 ·skip
  have hq:List.map Obj.toRO objs=_:=(by rename_i hq;first | exact hq | assumption)
  obtain ⟨t,h1,h2⟩:=qG h
  refine qAU mixed qd8 (m:=2) (fn:=Tryz.f49) (b:=(Tryz.f49).body.getD .skip) (by kernel_rfl) (by kernel_rfl) (by kernel_rfl) hq (by kernel_rfl) (by kernel_rfl) (qR.of (l':=[]) (by kernel_rfl) trivial) ((qd7 _ _ _).trans h1) fun v objs' hd=>?_
  unfold qSw at hd;split at hd;(cases hd;exact h2);cases hd
 ·exact ho _ _ _ _ _ h
def qXt:Ctx:=mkC 28 (qL) [] qa
theorem qkX:CtxOK Tryz.prog qXt:=mkC_ok (qN)
def qXu:V->List Obj->Option (Int):=fun v objs=>match v,objs with
 | .s (.i .i8 y0),[]=>some (y0)
 | _,_=>none
theorem qkW (x0 x1:Int):fnE qXt Tryz.f51 ([.s (.i .i64 x0),.s (.i .i64 x1)]) ([]) qXu=qAh x0 x1:=by kernel_rfl
def qXs:HA:=fun o vs objs K=>match vs,objs with
 | [.s (.i .i64 x0),.s (.i .i64 x1)],[]=>ob (qAh x0 x1) fun y0=>K false (.s (.i .i8 y0)) ([])
 | _,_=>o 51 vs objs K
def qDS (o:Orc):Orc:=qM 51 (qXs o) o
theorem qD4:OQ Tryz.prog qDS:=fun _ ho=>qQ ho fun vs objs K r h=>by
 unfold qXs at h
 split at h
 ·skip
  obtain ⟨t,h1,h2⟩:=qG h
  refine qd mixed qkX ((qkW _ _).trans h1) (by kernel_rfl) fun v objs' hd=>?_
  unfold qXu at hd;split at hd;(cases hd;exact h2);cases hd
 ·exact ho _ _ _ _ _ h
def qM1:Ex->List V->List Obj->Option (Int×LI×LI×Int×LI×LI×Int×LI):=fun e vs objs=>match e,vs,objs with
 | .exit 2,[.s (.ptr 0 0 none 0),.s (.ptr 1 0 none 0),.s (.ptr 2 0 none 0),.s (.i .i64 y0)],[.cells 28 [.arr .i8 81 y1,.arr .i8 16 y2,.one [.i .i8 y3]],.cells 28 [.arr .i8 81 y4,.arr .i8 16 y5,.one [.i .i8 y6]],.cells 91 [.arr .i64 9 y7]]=>some (y0,y1,y2,y3,y4,y5,y6,y7)
 | _,_,_=>none
def qMz:Ex->List V->List Obj->Option (LI×LI×Int×LI×LI×Int):=fun e vs objs=>match e,vs,objs with
 | .exit 0,[.s (.ptr 0 0 none 0),.s (.ptr 1 0 none 0)],[.cells 28 [.arr .i8 81 y0,.arr .i8 16 y1,.one [.i .i8 y2]],.cells 28 [.arr .i8 81 y3,.arr .i8 16 y4,.one [.i .i8 y5]]]=>some (y0,y1,y2,y3,y4,y5)
 | _,_,_=>none
def qM4:HL:=fun vs objs K=>match vs,objs with
 | [.s (.ptr 0 0 none 0),.s (.ptr 1 0 none 0),.s (.ptr 2 0 none 0),.s (.ptr 3 0 none 0),.s (.i .i64 x0),.s (.i .i64 x1)],[.cells 28 [.arr .i8 81 x2,.arr .i8 16 x3,.one [.i .i8 x4]],.cells 28 [.arr .i8 81 x5,.arr .i8 16 x6,.one [.i .i8 x7]],.cells 91 [.arr .i64 9 x8],.cells 3 [.one [.i .i64 x9]]]=>ob (qJa qD x0 x1 x2 x3 x4 x5 x6 x7 x8 x9) fun z=>K (.exit 2) ([.s (.ptr 0 0 none 0),.s (.ptr 1 0 none 0),.s (.ptr 2 0 none 0),.s (.i .i64 (z.1))]) ([.cells 28 [.arr .i8 81 (z.2.1),.arr .i8 16 (z.2.2.1),.one [.i .i8 (z.2.2.2.1)]],.cells 28 [.arr .i8 81 (z.2.2.2.2.1),.arr .i8 16 (z.2.2.2.2.2.1),.one [.i .i8 (z.2.2.2.2.2.2.1)]],.cells 91 [.arr .i64 9 (z.2.2.2.2.2.2.2)]])
 | _,_=>none
def qM3:HL:=fun vs objs K=>match vs,objs with
 | [.s (.ptr 0 0 none 0),.s (.ptr 1 0 none 0),.s (.ptr 2 0 none 0),.s (.i .i64 x0)],[.cells 28 [.arr .i8 81 x1,.arr .i8 16 x2,.one [.i .i8 x3]],.cells 28 [.arr .i8 81 x4,.arr .i8 16 x5,.one [.i .i8 x6]],.cells 91 [.arr .i64 9 x7]]=>ob (qJZ qD x0 x1 x2 x3 x4 x5 x6 x7) fun z=>K (.exit 0) ([.s (.ptr 0 0 none 0),.s (.ptr 1 0 none 0)]) ([.cells 28 [.arr .i8 81 (z.1),.arr .i8 16 (z.2.1),.one [.i .i8 (z.2.2.1)]],.cells 28 [.arr .i8 81 (z.2.2.2.1),.arr .i8 16 (z.2.2.2.2.1),.one [.i .i8 (z.2.2.2.2.2)]]])
 | _,_=>none
def qeD:{R:Type}->Nat->List V->List Obj->(Ex->List V->List Obj->Option R)->Option R:=fun q vs objs K=>bif Nat.beq q 7 then qM4 vs objs K else bif Nat.beq q 4 then qM3 vs objs K else none
def qGP:Ctx:=mkC 44 ((set_Squareo (qDS (qSx qL)))) [(4,[0,1,2,7],[0,1]),(7,[0,1,2,3,7,10],[0,1,2,7])] qeD
theorem qMy:CtxOK Tryz.prog qGP:=mkC_ok ((set_Squareo_ok _ (qD4 _ (qd9 _ qN))))
def qM2 (f:Nat) (x0 x1:Int) (x2 x3:LI) (x4:Int) (x5 x6:LI) (x7:Int) (x8:LI) (x9:Int):Option (Int×LI×LI×Int×LI×LI×Int×LI):=qi qGP 0 [0,1,2,3,7,10] [0,1,2,7] (qI Tryz.f22 7) f ([.s (.ptr 0 0 none 0),.s (.ptr 1 0 none 0),.s (.ptr 2 0 none 0),.s (.ptr 3 0 none 0),.s (.i .i64 x0),.s (.i .i64 x1)]) ([.cells 28 [.arr .i8 81 x2,.arr .i8 16 x3,.one [.i .i8 x4]],.cells 28 [.arr .i8 81 x5,.arr .i8 16 x6,.one [.i .i8 x7]],.cells 91 [.arr .i64 9 x8],.cells 3 [.one [.i .i64 x9]]]) qM1
theorem qeC (f:Nat) (x0 x1:Int) (x2 x3:LI) (x4:Int) (x5 x6:LI) (x7:Int) (x8:LI) (x9:Int):qM2 (f+1) x0 x1 x2 x3 x4 x5 x6 x7 x8 x9=qS3 (qM2 f) x0 x1 x2 x3 x4 x5 x6 x7 x8 x9:=by kernel_rfl
theorem qS2:∀ f,qM2 f=qJa f
 | 0=>rfl
 | f+1=>by funext x0 x1 x2 x3 x4 x5 x6 x7 x8 x9;rw [qeC,qS2 f];rfl
def qM0 (f:Nat) (x0:Int) (x1 x2:LI) (x3:Int) (x4 x5:LI) (x6:Int) (x7:LI):Option (LI×LI×Int×LI×LI×Int):=qi qGP 0 [0,1,2,7] [0,1] (qI Tryz.f22 4) f ([.s (.ptr 0 0 none 0),.s (.ptr 1 0 none 0),.s (.ptr 2 0 none 0),.s (.i .i64 x0)]) ([.cells 28 [.arr .i8 81 x1,.arr .i8 16 x2,.one [.i .i8 x3]],.cells 28 [.arr .i8 81 x4,.arr .i8 16 x5,.one [.i .i8 x6]],.cells 91 [.arr .i64 9 x7]]) qMz
theorem qeB (f:Nat) (x0:Int) (x1 x2:LI) (x3:Int) (x4 x5:LI) (x6:Int) (x7:LI):qM0 (f+1) x0 x1 x2 x3 x4 x5 x6 x7=qS1 (qM0 f) x0 x1 x2 x3 x4 x5 x6 x7:=by kernel_rfl
theorem qS0:∀ f,qM0 f=qJZ f
 | 0=>rfl
 | f+1=>by funext x0 x1 x2 x3 x4 x5 x6 x7;rw [qeB,qS0 f];rfl
theorem qeG:qe Tryz.prog qGP 0 (qI Tryz.f22 7):=
 qj mixed qMy (qR.of (l':=[]) (by kernel_rfl) trivial) (q:=7) (kin:=[0,1,2,3,7,10]) (kout:=[0,1,2,7]) (by kernel_rfl) (by kernel_rfl) fun vs objs K r h=>by
  replace h:qM4 vs objs K=some r:=h
  unfold qM4 at h
  split at h
  ·skip
   obtain ⟨t,h1,h2⟩:=qG h
   rw [<- qS2] at h1
   refine ⟨_,qM1,t,qD,h1,fun e vs' objs' hd=>?_⟩
   unfold qM1 at hd;split at hd;(cases hd;exact h2);cases hd
  ·cases h
theorem qeF:qe Tryz.prog qGP 0 (qI Tryz.f22 4):=
 qj mixed qMy (qR.of (l':=[qI Tryz.f22 7]) (by kernel_rfl) ⟨qeG,trivial⟩) (q:=4) (kin:=[0,1,2,7]) (kout:=[0,1]) (by kernel_rfl) (by kernel_rfl) fun vs objs K r h=>by
  replace h:qM3 vs objs K=some r:=h
  unfold qM3 at h
  split at h
  ·skip
   obtain ⟨t,h1,h2⟩:=qG h
   rw [<- qS0] at h1
   refine ⟨_,qMz,t,qD,h1,fun e vs' objs' hd=>?_⟩
   unfold qMz at hd;split at hd;(cases hd;exact h2);cases hd
  ·cases h
def qSz:V->List Obj->Option (LI×LI×Int):=fun v objs=>match v,objs with
 | .agg [.arr .i8 81 y0,.arr .i8 16 y1,.one [.i .i8 y2]],[]=>some (y0,y1,y2)
 | _,_=>none
theorem qeA:fnE qGP Tryz.f22 ([]) ([]) qSz=qMx  := by kernel_rfl
def qSy:HA:=fun o vs objs K=>match vs,objs with
 | [],[]=>ob (qMx ) fun z=>K false (.agg [.arr .i8 81 (z.1),.arr .i8 16 (z.2.1),.one [.i .i8 (z.2.2)]]) ([])
 | _,_=>o 22 vs objs K
def qS4 (o:Orc):Orc:=qM 22 (qSy o) o
theorem qeE:OQ Tryz.prog qS4:=fun _ ho=>qQ ho fun vs objs K r h=>by
 unfold qSy at h
 split at h
 ·skip
  obtain ⟨t,h1,h2⟩:=qG h
  refine qAc mixed qMy (fn:=Tryz.f22) (b:=(Tryz.f22).body.getD .skip) (by kernel_rfl) (by kernel_rfl) (by kernel_rfl) ((qeA).trans h1) (m:=0) rfl (qR.of (l':=[qI Tryz.f22 4]) (by kernel_rfl) ⟨qeF,trivial⟩) fun v objs' hd=>?_
  unfold qSz at hd;split at hd;(cases hd;exact h2);cases hd
 ·exact ho _ _ _ _ _ h
def qXm:Ctx:=mkC 28 (qL) [] qa
theorem qkS:CtxOK Tryz.prog qXm:=mkC_ok (qN)
def qXn:V->List Obj->Option (Int):=fun v objs=>match v,objs with
 | .s (.i .i64 y0),[]=>some (y0)
 | _,_=>none
theorem qkR (x0:Int):fnE qXm Tryz.f60 ([.s (.i .i8 x0)]) ([]) qXn=q9 x0:=by kernel_rfl
def qXl:HA:=fun o vs objs K=>match vs,objs with
 | [.s (.i .i8 x0)],[]=>ob (q9 x0) fun y0=>K false (.s (.i .i64 y0)) ([])
 | _,_=>o 60 vs objs K
def qCa (o:Orc):Orc:=qM 60 (qXl o) o
theorem qCv:OQ Tryz.prog qCa:=fun _ ho=>qQ ho fun vs objs K r h=>by
 unfold qXl at h
 split at h
 ·skip
  obtain ⟨t,h1,h2⟩:=qG h
  refine qd mixed qkS ((qkR _).trans h1) (by kernel_rfl) fun v objs' hd=>?_
  unfold qXn at hd;split at hd;(cases hd;exact h2);cases hd
 ·exact ho _ _ _ _ _ h
def qX4:Ctx:=mkC 10 ((qCa qL)) [] qa
theorem qkg:CtxOK Tryz.prog qX4:=mkC_ok ((qCv _ qN))
def qX5:V->List Obj->Option (Int):=fun v objs=>match v,objs with
 | .s (.i .i64 y0),[]=>some (y0)
 | _,_=>none
theorem qkf (x0:Int):fnE qX4 Tryz.f82 ([.s (.i .i8 x0)]) ([]) qX5=qAI x0:=by kernel_rfl
def qX3:HA:=fun o vs objs K=>match vs,objs with
 | [.s (.i .i8 x0)],[]=>ob (qAI x0) fun y0=>K false (.s (.i .i64 y0)) ([])
 | _,_=>o 82 vs objs K
def qDU (o:Orc):Orc:=qM 82 (qX3 o) o
theorem qD5:OQ Tryz.prog qDU:=fun _ ho=>qQ ho fun vs objs K r h=>by
 unfold qX3 at h
 split at h
 ·skip
  obtain ⟨t,h1,h2⟩:=qG h
  refine qd mixed qkg ((qkf _).trans h1) (by kernel_rfl) fun v objs' hd=>?_
  unfold qX5 at hd;split at hd;(cases hd;exact h2);cases hd
 ·exact ho _ _ _ _ _ h
def qX1:Ctx:=mkC 13 ((qDS qL)) [] qa
theorem qke:CtxOK Tryz.prog qX1:=mkC_ok ((qD4 _ qN))
def qX2:V->List Obj->Option (Int):=fun v objs=>match v,objs with
 | .s (.i .i64 y0),[]=>some (y0)
 | _,_=>none
theorem qkd (x0:Int):fnE qX1 Tryz.f61 ([.s (.i .i64 x0)]) ([]) qX2=qCw x0:=by kernel_rfl
def qX0:HA:=fun o vs objs K=>match vs,objs with
 | [.s (.i .i64 x0)],[]=>ob (qCw x0) fun y0=>K false (.s (.i .i64 y0)) ([])
 | _,_=>o 61 vs objs K
def qKx (o:Orc):Orc:=qM 61 (qX0 o) o
theorem qPc:OQ Tryz.prog qKx:=fun _ ho=>qQ ho fun vs objs K r h=>by
 unfold qX0 at h
 split at h
 ·skip
  obtain ⟨t,h1,h2⟩:=qG h
  refine qd mixed qke ((qkd _).trans h1) (by kernel_rfl) fun v objs' hd=>?_
  unfold qX2 at hd;split at hd;(cases hd;exact h2);cases hd
 ·exact ho _ _ _ _ _ h
def qX7:Ctx:=mkC 15 (qL) [] qa
theorem qki:CtxOK Tryz.prog qX7:=mkC_ok (qN)
def qX8:V->List Obj->Option (Int):=fun v objs=>match v,objs with
 | .s (.i .i64 y0),[]=>some (y0)
 | _,_=>none
theorem qkh (x0:Int):fnE qX7 Tryz.f90 ([.s (.i .i64 x0)]) ([]) qX8=qPd x0:=by kernel_rfl
def qX6:HA:=fun o vs objs K=>match vs,objs with
 | [.s (.i .i64 x0)],[]=>ob (qPd x0) fun y0=>K false (.s (.i .i64 y0)) ([])
 | _,_=>o 90 vs objs K
def qX9 (o:Orc):Orc:=qM 90 (qX6 o) o
theorem qkj:OQ Tryz.prog qX9:=fun _ ho=>qQ ho fun vs objs K r h=>by
 unfold qX6 at h
 split at h
 ·skip
  obtain ⟨t,h1,h2⟩:=qG h
  refine qd mixed qki ((qkh _).trans h1) (by kernel_rfl) fun v objs' hd=>?_
  unfold qX8 at hd;split at hd;(cases hd;exact h2);cases hd
 ·exact ho _ _ _ _ _ h
def qaF:Ctx:=mkC 5 (qL) [] qa
theorem qmw:CtxOK Tryz.prog qaF:=mkC_ok (qN)
def qaG:V->List Obj->Option (Int):=fun v objs=>match v,objs with
 | .s (.i .i64 y0),[]=>some (y0)
 | _,_=>none
theorem qmv (x0:Int):fnE qaF Tryz.f105 ([.s (.i .i64 x0)]) ([]) qaG=qE9 x0:=by kernel_rfl
def qaE:HA:=fun o vs objs K=>match vs,objs with
 | [.s (.i .i64 x0)],[]=>ob (qE9 x0) fun y0=>K false (.s (.i .i64 y0)) ([])
 | _,_=>o 105 vs objs K
def qLX (o:Orc):Orc:=qM 105 (qaE o) o
theorem qQa:OQ Tryz.prog qLX:=fun _ ho=>qQ ho fun vs objs K r h=>by
 unfold qaE at h
 split at h
 ·skip
  obtain ⟨t,h1,h2⟩:=qG h
  refine qd mixed qmw ((qmv _).trans h1) (by kernel_rfl) fun v objs' hd=>?_
  unfold qaG at hd;split at hd;(cases hd;exact h2);cases hd
 ·exact ho _ _ _ _ _ h
def qau:Ctx:=mkC 23 ((qLX qL)) [] qa
theorem qnn:CtxOK Tryz.prog qau:=mkC_ok ((qQa _ qN))
def qav:V->List Obj->Option (Int):=fun v objs=>match v,objs with
 | .s (.i .i64 y0),[]=>some (y0)
 | _,_=>none
theorem qnm (x0 x1:Int):fnE qau Tryz.f144 ([.s (.i .i64 x0),.s (.i .i64 x1)]) ([]) qav=qFD x0 x1:=by kernel_rfl
def qat:HA:=fun o vs objs K=>match vs,objs with
 | [.s (.i .i64 x0),.s (.i .i64 x1)],[]=>ob (qFD x0 x1) fun y0=>K false (.s (.i .i64 y0)) ([])
 | _,_=>o 144 vs objs K
def qQv (o:Orc):Orc:=qM 144 (qat o) o
theorem qaw:OQ Tryz.prog qQv:=fun _ ho=>qQ ho fun vs objs K r h=>by
 unfold qat at h
 split at h
 ·skip
  obtain ⟨t,h1,h2⟩:=qG h
  refine qd mixed qnn ((qnm _ _).trans h1) (by kernel_rfl) fun v objs' hd=>?_
  unfold qav at hd;split at hd;(cases hd;exact h2);cases hd
 ·exact ho _ _ _ _ _ h
def qah:Ctx:=mkC 25 ((qCa (qQv (qDU qL)))) [] qa
theorem qnc:CtxOK Tryz.prog qah:=mkC_ok ((qCv _ (qaw _ (qD5 _ qN))))
def qai:V->List Obj->Option (Bool):=fun v objs=>match v,objs with
 | .s (.b y0),[]=>some (y0)
 | _,_=>none
theorem qnb (x0 x1:Int):fnE qah Tryz.f118 ([.s (.i .i8 x0),.s (.i .i64 x1)]) ([]) qai=qDe x0 x1:=by kernel_rfl
def qag:HA:=fun o vs objs K=>match vs,objs with
 | [.s (.i .i8 x0),.s (.i .i64 x1)],[]=>ob (qDe x0 x1) fun y0=>K false (.s (.b y0)) ([])
 | _,_=>o 118 vs objs K
def qLi (o:Orc):Orc:=qM 118 (qag o) o
theorem qQr:OQ Tryz.prog qLi:=fun _ ho=>qQ ho fun vs objs K r h=>by
 unfold qag at h
 split at h
 ·skip
  obtain ⟨t,h1,h2⟩:=qG h
  refine qd mixed qnc ((qnb _ _).trans h1) (by kernel_rfl) fun v objs' hd=>?_
  unfold qai at hd;split at hd;(cases hd;exact h2);cases hd
 ·exact ho _ _ _ _ _ h
def qaS:Ctx:=mkC 21 (qL) [] qa
theorem qm9:CtxOK Tryz.prog qaS:=mkC_ok (qN)
def qaT:V->List Obj->Option (Int×Int):=fun v objs=>match v,objs with
 | .agg [.one [.i .u64 y0,.i .u64 y1]],[]=>some (y0,y1)
 | _,_=>none
theorem qm8 (x0:Int):fnE qaS Tryz.f142 ([.s (.i .i64 x0)]) ([]) qaT=qFB x0:=by kernel_rfl
def qaR:HA:=fun o vs objs K=>match vs,objs with
 | [.s (.i .i64 x0)],[]=>ob (qFB x0) fun z=>K false (.agg [.one [.i .u64 (z.1),.i .u64 (z.2)]]) ([])
 | _,_=>o 142 vs objs K
def qLc (o:Orc):Orc:=qM 142 (qaR o) o
theorem qQi:OQ Tryz.prog qLc:=fun _ ho=>qQ ho fun vs objs K r h=>by
 unfold qaR at h
 split at h
 ·skip
  obtain ⟨t,h1,h2⟩:=qG h
  refine qd mixed qm9 ((qm8 _).trans h1) (by kernel_rfl) fun v objs' hd=>?_
  unfold qaT at hd;split at hd;(cases hd;exact h2);cases hd
 ·exact ho _ _ _ _ _ h
def qZ0:Ctx:=mkC 16 (qL) [] qa
theorem qmk:CtxOK Tryz.prog qZ0:=mkC_ok (qN)
def qZ1:V->List Obj->Option (Int×Int):=fun v objs=>match v,objs with
 | .agg [.one [.i .u64 y0,.i .u64 y1]],[]=>some (y0,y1)
 | _,_=>none
theorem qmj (x0 x1:Int) (x2 x3:Int):fnE qZ0 Tryz.f131 ([.agg [.one [.i .u64 x0,.i .u64 x1]],.agg [.one [.i .u64 x2,.i .u64 x3]]]) ([]) qZ1=qE7 x0 x1 x2 x3:=by kernel_rfl
def qZz:HA:=fun o vs objs K=>match vs,objs with
 | [.agg [.one [.i .u64 x0,.i .u64 x1]],.agg [.one [.i .u64 x2,.i .u64 x3]]],[]=>ob (qE7 x0 x1 x2 x3) fun z=>K false (.agg [.one [.i .u64 (z.1),.i .u64 (z.2)]]) ([])
 | _,_=>o 131 vs objs K
def qLV (o:Orc):Orc:=qM 131 (qZz o) o
theorem qQW:OQ Tryz.prog qLV:=fun _ ho=>qQ ho fun vs objs K r h=>by
 unfold qZz at h
 split at h
 ·skip
  obtain ⟨t,h1,h2⟩:=qG h
  refine qd mixed qmk ((qmj _ _ _ _).trans h1) (by kernel_rfl) fun v objs' hd=>?_
  unfold qZ1 at hd;split at hd;(cases hd;exact h2);cases hd
 ·exact ho _ _ _ _ _ h
def qaP:Ctx:=mkC 9 ((qLV (qLc qL))) [] qa
theorem qm6:CtxOK Tryz.prog qaP:=mkC_ok ((qQW _ (qQi _ qN)))
def qaQ:V->List Obj->Option (Int×Int):=fun v objs=>match v,objs with
 | .agg [.one [.i .u64 y0,.i .u64 y1]],[]=>some (y0,y1)
 | _,_=>none
theorem qm5 (x0 x1 x2:Int):fnE qaP Tryz.f114 ([.agg [.one [.i .u64 x0,.i .u64 x1]],.s (.i .i64 x2)]) ([]) qaQ=qEL x0 x1 x2:=by kernel_rfl
def qaO:HA:=fun o vs objs K=>match vs,objs with
 | [.agg [.one [.i .u64 x0,.i .u64 x1]],.s (.i .i64 x2)],[]=>ob (qEL x0 x1 x2) fun z=>K false (.agg [.one [.i .u64 (z.1),.i .u64 (z.2)]]) ([])
 | _,_=>o 114 vs objs K
def qIu (o:Orc):Orc:=qM 114 (qaO o) o
theorem qLb:OQ Tryz.prog qIu:=fun _ ho=>qQ ho fun vs objs K r h=>by
 unfold qaO at h
 split at h
 ·skip
  obtain ⟨t,h1,h2⟩:=qG h
  refine qd mixed qm6 ((qm5 _ _ _).trans h1) (by kernel_rfl) fun v objs' hd=>?_
  unfold qaQ at hd;split at hd;(cases hd;exact h2);cases hd
 ·exact ho _ _ _ _ _ h
def qaC:Ctx:=mkC 16 (qL) [] qa
theorem qmu:CtxOK Tryz.prog qaC:=mkC_ok (qN)
def qaD:V->List Obj->Option (Int×Int):=fun v objs=>match v,objs with
 | .agg [.one [.i .u64 y0,.i .u64 y1]],[]=>some (y0,y1)
 | _,_=>none
theorem qmt (x0 x1:Int) (x2 x3:Int):fnE qaC Tryz.f127 ([.agg [.one [.i .u64 x0,.i .u64 x1]],.agg [.one [.i .u64 x2,.i .u64 x3]]]) ([]) qaD=qDb x0 x1 x2 x3:=by kernel_rfl
def qaB:HA:=fun o vs objs K=>match vs,objs with
 | [.agg [.one [.i .u64 x0,.i .u64 x1]],.agg [.one [.i .u64 x2,.i .u64 x3]]],[]=>ob (qDb x0 x1 x2 x3) fun z=>K false (.agg [.one [.i .u64 (z.1),.i .u64 (z.2)]]) ([])
 | _,_=>o 127 vs objs K
def qF1 (o:Orc):Orc:=qM 127 (qaB o) o
theorem qHf:OQ Tryz.prog qF1:=fun _ ho=>qQ ho fun vs objs K r h=>by
 unfold qaB at h
 split at h
 ·skip
  obtain ⟨t,h1,h2⟩:=qG h
  refine qd mixed qmu ((qmt _ _ _ _).trans h1) (by kernel_rfl) fun v objs' hd=>?_
  unfold qaD at hd;split at hd;(cases hd;exact h2);cases hd
 ·exact ho _ _ _ _ _ h
def qaM:Ctx:=mkC 9 ((qF1 (qLc qL))) [] qa
theorem qm4:CtxOK Tryz.prog qaM:=mkC_ok ((qHf _ (qQi _ qN)))
def qaN:V->List Obj->Option (Int×Int):=fun v objs=>match v,objs with
 | .agg [.one [.i .u64 y0,.i .u64 y1]],[]=>some (y0,y1)
 | _,_=>none
theorem qm3 (x0 x1 x2:Int):fnE qaM Tryz.f115 ([.agg [.one [.i .u64 x0,.i .u64 x1]],.s (.i .i64 x2)]) ([]) qaN=qA1 x0 x1 x2:=by kernel_rfl
def qaL:HA:=fun o vs objs K=>match vs,objs with
 | [.agg [.one [.i .u64 x0,.i .u64 x1]],.s (.i .i64 x2)],[]=>ob (qA1 x0 x1 x2) fun z=>K false (.agg [.one [.i .u64 (z.1),.i .u64 (z.2)]]) ([])
 | _,_=>o 115 vs objs K
def qEK (o:Orc):Orc:=qM 115 (qaL o) o
theorem qFA:OQ Tryz.prog qEK:=fun _ ho=>qQ ho fun vs objs K r h=>by
 unfold qaL at h
 split at h
 ·skip
  obtain ⟨t,h1,h2⟩:=qG h
  refine qd mixed qm4 ((qm3 _ _ _).trans h1) (by kernel_rfl) fun v objs' hd=>?_
  unfold qaN at hd;split at hd;(cases hd;exact h2);cases hd
 ·exact ho _ _ _ _ _ h
def qSs:Ctx:=mkC 90 ((qEK (qCa (qDU (qIu qL))))) [] qa
theorem qd6:CtxOK Tryz.prog qSs:=mkC_ok ((qFA _ (qCv _ (qD5 _ (qLb _ qN)))))
def qSt:V->List Obj->Option (LI×LI×Int×LL×LL):=fun v objs=>match v,objs with
 | .tup [],[.cells 72 [.arr .i8 81 y0,.arr .i8 16 y1,.one [.i .i8 y2],.rows [.i .u64,.i .u64] 32 y3,.rows [.i .u64,.i .u64] 2 y4]]=>some (y0,y1,y2,y3,y4)
 | _,_=>none
theorem qd5 (x0 x1:Int) (x2 x3:LI) (x4:Int) (x5 x6:LL):fnE qSs Tryz.f85 ([.s (.ptr 0 0 none 0),.s (.i .i64 x0),.s (.i .i8 x1)]) ([.cells 72 [.arr .i8 81 x2,.arr .i8 16 x3,.one [.i .i8 x4],.rows [.i .u64,.i .u64] 32 x5,.rows [.i .u64,.i .u64] 2 x6]]) qSt=qFT x0 x1 x2 x3 x4 x5 x6:=by kernel_rfl
def qSr:HA:=fun o vs objs K=>match vs,objs with
 | [.s (.ptr 0 0 none 0),.s (.i .i64 x0),.s (.i .i8 x1)],[.cells 72 [.arr .i8 81 x2,.arr .i8 16 x3,.one [.i .i8 x4],.rows [.i .u64,.i .u64] 32 x5,.rows [.i .u64,.i .u64] 2 x6]]=>ob (qFT x0 x1 x2 x3 x4 x5 x6) fun z=>K false (.tup []) ([.cells 72 [.arr .i8 81 (z.1),.arr .i8 16 (z.2.1),.one [.i .i8 (z.2.2.1)],.rows [.i .u64,.i .u64] 32 (z.2.2.2.1),.rows [.i .u64,.i .u64] 2 (z.2.2.2.2)]])
 | _,_=>o 85 vs objs K
def qJX (o:Orc):Orc:=qM 85 (qSr o) o
theorem qMw:OQ Tryz.prog qJX:=fun _ ho=>qQ ho fun vs objs K r h=>by
 unfold qSr at h
 split at h
 ·skip
  obtain ⟨t,h1,h2⟩:=qG h
  refine qd mixed qd6 ((qd5 _ _ _ _ _ _ _).trans h1) (by kernel_rfl) fun v objs' hd=>?_
  unfold qSt at hd;split at hd;(cases hd;exact h2);cases hd
 ·exact ho _ _ _ _ _ h
def qMr:Ex->List V->List Obj->Option (LI×LI×Int×LL×LL):=fun e vs objs=>match e,vs,objs with
 | .exit 0,[.s (.ptr 0 0 none 0)],[.cells 72 [.arr .i8 81 y0,.arr .i8 16 y1,.one [.i .i8 y2],.rows [.i .u64,.i .u64] 32 y3,.rows [.i .u64,.i .u64] 2 y4]]=>some (y0,y1,y2,y3,y4)
 | _,_,_=>none
def qMu:HL:=fun vs objs K=>match vs,objs with
 | [.s (.ptr 0 0 none 0),.agg [.arr .i8 81 x0],.s (.i .i64 x1)],[.cells 72 [.arr .i8 81 x2,.arr .i8 16 x3,.one [.i .i8 x4],.rows [.i .u64,.i .u64] 32 x5,.rows [.i .u64,.i .u64] 2 x6]]=>ob (qJV qD x0 x1 x2 x3 x4 x5 x6) fun z=>K (.exit 0) ([.s (.ptr 0 0 none 0)]) ([.cells 72 [.arr .i8 81 (z.1),.arr .i8 16 (z.2.1),.one [.i .i8 (z.2.2.1)],.rows [.i .u64,.i .u64] 32 (z.2.2.2.1),.rows [.i .u64,.i .u64] 2 (z.2.2.2.2)]])
 | _,_=>none
def qdz:{R:Type}->Nat->List V->List Obj->(Ex->List V->List Obj->Option R)->Option R:=fun q vs objs K=>bif Nat.beq q 4 then qMu vs objs K else none
def qJU:Ctx:=mkC 32 ((qJX qL)) [(4,[3,21,22],[3])] qdz
theorem qSg:CtxOK Tryz.prog qJU:=mkC_ok ((qMw _ qN))
def qMs (f:Nat) (x0:LI) (x1:Int) (x2 x3:LI) (x4:Int) (x5 x6:LL):Option (LI×LI×Int×LL×LL):=qi qJU 0 [3,21,22] [3] (qI Tryz.f42 4) f ([.s (.ptr 0 0 none 0),.agg [.arr .i8 81 x0],.s (.i .i64 x1)]) ([.cells 72 [.arr .i8 81 x2,.arr .i8 16 x3,.one [.i .i8 x4],.rows [.i .u64,.i .u64] 32 x5,.rows [.i .u64,.i .u64] 2 x6]]) qMr
theorem qdy (f:Nat) (x0:LI) (x1:Int) (x2 x3:LI) (x4:Int) (x5 x6:LL):qMs (f+1) x0 x1 x2 x3 x4 x5 x6=qSj (qMs f) x0 x1 x2 x3 x4 x5 x6:=by kernel_rfl
theorem qSi:∀ f,qMs f=qJV f
 | 0=>rfl
 | f+1=>by funext x0 x1 x2 x3 x4 x5 x6;rw [qdy,qSi f];rfl
theorem qd0:qe Tryz.prog qJU 0 (qI Tryz.f42 4):=
 qj mixed qSg (qR.of (l':=[]) (by kernel_rfl) trivial) (q:=4) (kin:=[3,21,22]) (kout:=[3]) (by kernel_rfl) (by kernel_rfl) fun vs objs K r h=>by
  replace h:qMu vs objs K=some r:=h
  unfold qMu at h
  split at h
  ·skip
   obtain ⟨t,h1,h2⟩:=qG h
   rw [<- qSi] at h1
   refine ⟨_,qMr,t,qD,h1,fun e vs' objs' hd=>?_⟩
   unfold qMr at hd;split at hd;(cases hd;exact h2);cases hd
  ·cases h
def qSh:V->List Obj->Option (LI×LI×Int×LL×LL):=fun v objs=>match v,objs with
 | .s (.ptr 0 0 none 0),[.cells 72 [.arr .i8 81 y0,.arr .i8 16 y1,.one [.i .i8 y2],.rows [.i .u64,.i .u64] 32 y3,.rows [.i .u64,.i .u64] 2 y4]]=>some (y0,y1,y2,y3,y4)
 | _,_=>none
theorem qdx (x0 x1:LI) (x2:Int):fnE qJU Tryz.f42 ([.agg [.arr .i8 81 x0,.arr .i8 16 x1,.one [.i .i8 x2]]]) ([]) qSh=qH2 x0 x1 x2:=by kernel_rfl
def qSf:HA:=fun o vs objs K=>match vs,objs with
 | [.agg [.arr .i8 81 x0,.arr .i8 16 x1,.one [.i .i8 x2]]],[]=>ob (qH2 x0 x1 x2) fun z=>K false (.s (.ptr 0 0 none 0)) ([.cells 72 [.arr .i8 81 (z.1),.arr .i8 16 (z.2.1),.one [.i .i8 (z.2.2.1)],.rows [.i .u64,.i .u64] 32 (z.2.2.2.1),.rows [.i .u64,.i .u64] 2 (z.2.2.2.2)]])
 | _,_=>o 42 vs objs K
def qJW (o:Orc):Orc:=qM 42 (qSf o) o
theorem qMt:OQ Tryz.prog qJW:=fun _ ho=>qQ ho fun vs objs K r h=>by
 unfold qSf at h
 split at h
 ·skip
  obtain ⟨t,h1,h2⟩:=qG h
  refine qAc mixed qSg (fn:=Tryz.f42) (b:=(Tryz.f42).body.getD .skip) (by kernel_rfl) (by kernel_rfl) (by kernel_rfl) ((qdx _ _ _).trans h1) (m:=0) rfl (qR.of (l':=[qI Tryz.f42 4]) (by kernel_rfl) ⟨qd0,trivial⟩) fun v objs' hd=>?_
  unfold qSh at hd;split at hd;(cases hd;exact h2);cases hd
 ·exact ho _ _ _ _ _ h
def qSl:Ctx:=mkC 20 ((qDS qL)) [] qa
theorem qd2:CtxOK Tryz.prog qSl:=mkC_ok ((qD4 _ qN))
def qSm:V->List Obj->Option (Int×Int):=fun v objs=>match v,objs with
 | .agg [.one [.i .u64 y0,.i .u64 y1]],[]=>some (y0,y1)
 | _,_=>none
theorem qd1 (x0 x1:Int) (x2 x3:LI) (x4:Int) (x5 x6:LL):fnE qSl Tryz.f119 ([.s (.ptr 0 0 none 0),.s (.i .i64 x0),.s (.i .i64 x1)]) ([.rcells 72 [.arr .i8 81 x2,.arr .i8 16 x3,.one [.i .i8 x4],.rows [.i .u64,.i .u64] 32 x5,.rows [.i .u64,.i .u64] 2 x6]]) (qAE 1 qSm)=qCm x0 x1 x2 x3 x4 x5 x6:=by kernel_rfl
def qSk:HA:=fun o vs objs K=>match vs,List.map Obj.toRO objs with
 | [.s (.ptr 0 0 none 0),.s (.i .i64 x0),.s (.i .i64 x1)],[.rcells 72 [.arr .i8 81 x2,.arr .i8 16 x3,.one [.i .i8 x4],.rows [.i .u64,.i .u64] 32 x5,.rows [.i .u64,.i .u64] 2 x6]]=>ob (qCm x0 x1 x2 x3 x4 x5 x6) fun z=>K true (.agg [.one [.i .u64 (z.1),.i .u64 (z.2)]]) ([])
 | _,_=>o 119 vs objs K
def qFR (o:Orc):Orc:=qM 119 (qSk o) o
theorem qGO:OQ Tryz.prog qFR:=fun _ ho=>qQ ho fun vs objs K r h=>by
 unfold qSk at h
 split at h
 ·skip
  have hq:List.map Obj.toRO objs=_:=(by rename_i hq;first | exact hq | assumption)
  obtain ⟨t,h1,h2⟩:=qG h
  refine qAU mixed qd2 (m:=1) (fn:=Tryz.f119) (b:=(Tryz.f119).body.getD .skip) (by kernel_rfl) (by kernel_rfl) (by kernel_rfl) hq (by kernel_rfl) (by kernel_rfl) (qR.of (l':=[]) (by kernel_rfl) trivial) ((qd1 _ _ _ _ _ _ _).trans h1) fun v objs' hd=>?_
  unfold qSm at hd;split at hd;(cases hd;exact h2);cases hd
 ·exact ho _ _ _ _ _ h
def qQS:Ex->List V->List Obj->Option (Int×Int×Int×Int):=fun e vs objs=>match e,vs,objs with
 | .exit 0,[.s (.ptr 0 0 none 0),.s (.ptr 1 0 none 0)],[.cells 68 [.one [.i .u64 y0,.i .u64 y1]],.cells 68 [.one [.i .u64 y2,.i .u64 y3]]]=>some (y0,y1,y2,y3)
 | _,_,_=>none
def qQV:HL:=fun vs objs K=>match vs,objs with
 | [.s (.i .i64 x0),.s (.ptr 0 0 none 0),.s (.ptr 1 0 none 0),.s (.i .i64 x1)],[.cells 68 [.one [.i .u64 x2,.i .u64 x3]],.cells 68 [.one [.i .u64 x4,.i .u64 x5]]]=>ob (qLU qD x0 x1 x2 x3 x4 x5) fun z=>K (.exit 0) ([.s (.ptr 0 0 none 0),.s (.ptr 1 0 none 0)]) ([.cells 68 [.one [.i .u64 (z.1),.i .u64 (z.2.1)]],.cells 68 [.one [.i .u64 (z.2.2.1),.i .u64 (z.2.2.2)]]])
 | _,_=>none
def qmh:{R:Type}->Nat->List V->List Obj->(Ex->List V->List Obj->Option R)->Option R:=fun q vs objs K=>bif Nat.beq q 3 then qQV vs objs K else none
def qLT:Ctx:=mkC 15 ((qEK (set_Squareo qL))) [(3,[0,2,3,5],[2,3])] qmh
theorem qZu:CtxOK Tryz.prog qLT:=mkC_ok ((qFA _ (set_Squareo_ok _ qN)))
def qQT (f:Nat) (x0 x1:Int) (x2 x3:Int) (x4 x5:Int):Option (Int×Int×Int×Int):=qi qLT 0 [0,2,3,5] [2,3] (qI Tryz.f121 3) f ([.s (.i .i64 x0),.s (.ptr 0 0 none 0),.s (.ptr 1 0 none 0),.s (.i .i64 x1)]) ([.cells 68 [.one [.i .u64 x2,.i .u64 x3]],.cells 68 [.one [.i .u64 x4,.i .u64 x5]]]) qQS
theorem qmg (f:Nat) (x0 x1:Int) (x2 x3:Int) (x4 x5:Int):qQT (f+1) x0 x1 x2 x3 x4 x5=qZx (qQT f) x0 x1 x2 x3 x4 x5:=by kernel_rfl
theorem qZw:∀ f,qQT f=qLU f
 | 0=>rfl
 | f+1=>by funext x0 x1 x2 x3 x4 x5;rw [qmg,qZw f];rfl
theorem qmi:qe Tryz.prog qLT 0 (qI Tryz.f121 3):=
 qj mixed qZu (qR.of (l':=[]) (by kernel_rfl) trivial) (q:=3) (kin:=[0,2,3,5]) (kout:=[2,3]) (by kernel_rfl) (by kernel_rfl) fun vs objs K r h=>by
  replace h:qQV vs objs K=some r:=h
  unfold qQV at h
  split at h
  ·skip
   obtain ⟨t,h1,h2⟩:=qG h
   rw [<- qZw] at h1
   refine ⟨_,qQS,t,qD,h1,fun e vs' objs' hd=>?_⟩
   unfold qQS at hd;split at hd;(cases hd;exact h2);cases hd
  ·cases h
def qZv:V->List Obj->Option (Int×Int):=fun v objs=>match v,objs with
 | .agg [.one [.i .u64 y0,.i .u64 y1]],[]=>some (y0,y1)
 | _,_=>none
theorem qmf (x0:Int):fnE qLT Tryz.f121 ([.s (.i .i64 x0)]) ([]) qZv=qHc x0:=by kernel_rfl
def qZt:HA:=fun o vs objs K=>match vs,objs with
 | [.s (.i .i64 x0)],[]=>ob (qHc x0) fun z=>K false (.agg [.one [.i .u64 (z.1),.i .u64 (z.2)]]) ([])
 | _,_=>o 121 vs objs K
def qQU (o:Orc):Orc:=qM 121 (qZt o) o
theorem qZy:OQ Tryz.prog qQU:=fun _ ho=>qQ ho fun vs objs K r h=>by
 unfold qZt at h
 split at h
 ·skip
  obtain ⟨t,h1,h2⟩:=qG h
  refine qAc mixed qZu (fn:=Tryz.f121) (b:=(Tryz.f121).body.getD .skip) (by kernel_rfl) (by kernel_rfl) (by kernel_rfl) ((qmf _).trans h1) (m:=0) rfl (qR.of (l':=[qI Tryz.f121 3]) (by kernel_rfl) ⟨qmi,trivial⟩) fun v objs' hd=>?_
  unfold qZv at hd;split at hd;(cases hd;exact h2);cases hd
 ·exact ho _ _ _ _ _ h
def qZc:Ctx:=mkC 16 (qL) [] qa
theorem qmU:CtxOK Tryz.prog qZc:=mkC_ok (qN)
def qZd:V->List Obj->Option (Int×Int):=fun v objs=>match v,objs with
 | .agg [.one [.i .u64 y0,.i .u64 y1]],[]=>some (y0,y1)
 | _,_=>none
theorem qmT (x0 x1:Int) (x2 x3:Int):fnE qZc Tryz.f120 ([.agg [.one [.i .u64 x0,.i .u64 x1]],.agg [.one [.i .u64 x2,.i .u64 x3]]]) ([]) qZd=qCe x0 x1 x2 x3:=by kernel_rfl
def qZb:HA:=fun o vs objs K=>match vs,objs with
 | [.agg [.one [.i .u64 x0,.i .u64 x1]],.agg [.one [.i .u64 x2,.i .u64 x3]]],[]=>ob (qCe x0 x1 x2 x3) fun z=>K false (.agg [.one [.i .u64 (z.1),.i .u64 (z.2)]]) ([])
 | _,_=>o 120 vs objs K
def qE6 (o:Orc):Orc:=qM 120 (qZb o) o
theorem qFw:OQ Tryz.prog qE6:=fun _ ho=>qQ ho fun vs objs K r h=>by
 unfold qZb at h
 split at h
 ·skip
  obtain ⟨t,h1,h2⟩:=qG h
  refine qd mixed qmU ((qmT _ _ _ _).trans h1) (by kernel_rfl) fun v objs' hd=>?_
  unfold qZd at hd;split at hd;(cases hd;exact h2);cases hd
 ·exact ho _ _ _ _ _ h
def qSC:Ctx:=mkC 35 (qL) [] qa
theorem qdW:CtxOK Tryz.prog qSC:=mkC_ok (qN)
def qSD:V->List Obj->Option (Int):=fun v objs=>match v,objs with
 | .s (.i .i64 y0),[]=>some (y0)
 | _,_=>none
theorem qdV (x0:Int):fnE qSC Tryz.f145 ([.s (.i .u64 x0)]) ([]) qSD=qFO x0:=by kernel_rfl
def qSB:HA:=fun o vs objs K=>match vs,objs with
 | [.s (.i .u64 x0)],[]=>ob (qFO x0) fun y0=>K false (.s (.i .i64 y0)) ([])
 | _,_=>o 145 vs objs K
def qSE (o:Orc):Orc:=qM 145 (qSB o) o
theorem qdX:OQ Tryz.prog qSE:=fun _ ho=>qQ ho fun vs objs K r h=>by
 unfold qSB at h
 split at h
 ·skip
  obtain ⟨t,h1,h2⟩:=qG h
  refine qd mixed qdW ((qdV _).trans h1) (by kernel_rfl) fun v objs' hd=>?_
  unfold qSD at hd;split at hd;(cases hd;exact h2);cases hd
 ·exact ho _ _ _ _ _ h
def qZf:Ctx:=mkC 10 ((qSE qL)) [] qa
theorem qmW:CtxOK Tryz.prog qZf:=mkC_ok ((qdX _ qN))
def qZg:V->List Obj->Option (Int):=fun v objs=>match v,objs with
 | .s (.i .i64 y0),[]=>some (y0)
 | _,_=>none
theorem qmV (x0 x1:Int):fnE qZf Tryz.f122 ([.agg [.one [.i .u64 x0,.i .u64 x1]]]) ([]) qZg=qFx x0 x1:=by kernel_rfl
def qZe:HA:=fun o vs objs K=>match vs,objs with
 | [.agg [.one [.i .u64 x0,.i .u64 x1]]],[]=>ob (qFx x0 x1) fun y0=>K false (.s (.i .i64 y0)) ([])
 | _,_=>o 122 vs objs K
def qLQ (o:Orc):Orc:=qM 122 (qZe o) o
theorem qQP:OQ Tryz.prog qLQ:=fun _ ho=>qQ ho fun vs objs K r h=>by
 unfold qZe at h
 split at h
 ·skip
  obtain ⟨t,h1,h2⟩:=qG h
  refine qd mixed qmW ((qmV _ _).trans h1) (by kernel_rfl) fun v objs' hd=>?_
  unfold qZg at hd;split at hd;(cases hd;exact h2);cases hd
 ·exact ho _ _ _ _ _ h
def qM7:Ex->List V->List Obj->Option ((Int×LI×LI×Int)⊕(LI×LI×Int)):=fun e vs objs=>match e,vs,objs with
 | .ret,[.s (.ptr 0 0 none 0),.s (.i .i64 y0)],[.cells 28 [.arr .i8 81 y1,.arr .i8 16 y2,.one [.i .i8 y3]]]=>some (.inl (y0,y1,y2,y3))
 | .exit 0,[.s (.ptr 0 0 none 0),.s .bad],[.cells 28 [.arr .i8 81 y0,.arr .i8 16 y1,.one [.i .i8 y2]]]=>some (.inr (y0,y1,y2))
 | _,_,_=>none
def qM5:Ex->List V->List Obj->Option ((Int×Int×LI×LI×Int×LL×LL)⊕(Int×LI×LI×Int×LL×LL)):=fun e vs objs=>match e,vs,objs with
 | .ret,[.s (.i .i64 y0),.s (.ptr 0 0 none 0),.s (.i .i64 y1)],[.cells 72 [.arr .i8 81 y2,.arr .i8 16 y3,.one [.i .i8 y4],.rows [.i .u64,.i .u64] 32 y5,.rows [.i .u64,.i .u64] 2 y6]]=>some (.inl (y0,y1,y2,y3,y4,y5,y6))
 | .exit 4,[.s .bad,.s (.ptr 0 0 none 0),.s (.i .i64 y0)],[.cells 72 [.arr .i8 81 y1,.arr .i8 16 y2,.one [.i .i8 y3],.rows [.i .u64,.i .u64] 32 y4,.rows [.i .u64,.i .u64] 2 y5]]=>some (.inr (y0,y1,y2,y3,y4,y5))
 | _,_,_=>none
def qM9:Ex->List V->List Obj->Option ((Int)⊕(Unit)):=fun e vs objs=>match e,vs,objs with
 | .ret,[.s (.i .i64 y0)],[]=>some (.inl (y0))
 | .exit 2,[.s .bad],[]=>some (.inr ())
 | _,_,_=>none
def qNC:HL:=fun vs objs K=>match vs,objs with
 | [.s (.ptr 0 0 none 0),.agg [.arr .i8 81 x0],.s (.i .i64 x1)],[.cells 28 [.arr .i8 81 x2,.arr .i8 16 x3,.one [.i .i8 x4]]]=>ob (qJe qD x0 x1 x2 x3 x4) fun t0=>sw t0 (fun z=>K (.ret) ([.s (.ptr 0 0 none 0),.s (.i .i64 (z.1))]) ([.cells 28 [.arr .i8 81 (z.2.1),.arr .i8 16 (z.2.2.1),.one [.i .i8 (z.2.2.2)]]])) (fun z=>K (.exit 0) ([.s (.ptr 0 0 none 0),.s .bad]) ([.cells 28 [.arr .i8 81 (z.1),.arr .i8 16 (z.2.1),.one [.i .i8 (z.2.2)]]]))
 | _,_=>none
def qNB:HL:=fun vs objs K=>match vs,objs with
 | [.s (.ptr 0 0 none 0),.s (.i .i64 x0),.s (.i .i64 x1),.s (.i .i64 x2)],[.cells 72 [.arr .i8 81 x3,.arr .i8 16 x4,.one [.i .i8 x5],.rows [.i .u64,.i .u64] 32 x6,.rows [.i .u64,.i .u64] 2 x7]]=>ob (qJd qD x0 x1 x2 x3 x4 x5 x6 x7) fun t0=>sw t0 (fun z=>K (.ret) ([.s (.i .i64 (z.1)),.s (.ptr 0 0 none 0),.s (.i .i64 (z.2.1))]) ([.cells 72 [.arr .i8 81 (z.2.2.1),.arr .i8 16 (z.2.2.2.1),.one [.i .i8 (z.2.2.2.2.1)],.rows [.i .u64,.i .u64] 32 (z.2.2.2.2.2.1),.rows [.i .u64,.i .u64] 2 (z.2.2.2.2.2.2)]])) (fun z=>K (.exit 4) ([.s .bad,.s (.ptr 0 0 none 0),.s (.i .i64 (z.1))]) ([.cells 72 [.arr .i8 81 (z.2.1),.arr .i8 16 (z.2.2.1),.one [.i .i8 (z.2.2.2.1)],.rows [.i .u64,.i .u64] 32 (z.2.2.2.2.1),.rows [.i .u64,.i .u64] 2 (z.2.2.2.2.2)]]))
 | _,_=>none
def qND:HL:=fun vs objs K=>match vs,objs with
 | [.s (.ptr 0 0 none 0),.s (.i .i64 x0)],[.cells 72 [.arr .i8 81 x1,.arr .i8 16 x2,.one [.i .i8 x3],.rows [.i .u64,.i .u64] 32 x4,.rows [.i .u64,.i .u64] 2 x5]]=>ob (qJf qD x0 x1 x2 x3 x4 x5) fun t0=>sw t0 (fun y0=>K (.ret) ([.s (.i .i64 y0)]) ([])) (fun _=>K (.exit 2) ([.s .bad]) ([]))
 | _,_=>none
def qeN:{R:Type}->Nat->List V->List Obj->(Ex->List V->List Obj->Option R)->Option R:=fun q vs objs K=>bif Nat.beq q 2 then qNC vs objs K else bif Nat.beq q 12 then qNB vs objs K else bif Nat.beq q 9 then qND vs objs K else none
def qEe:Ctx:=mkC 36 ((qLQ (qE6 (qQU (qFR (qJW (qLi qL))))))) [(2,[1,9,10],[1,2]),(9,[5,20],[2]),(12,[5,6,20,23],[2,5,20])] qeN
theorem qJc:CtxOK Tryz.prog qEe:=mkC_ok ((qQP _ (qFw _ (qZy _ (qGO _ (qMt _ (qQr _ qN)))))))
def qM8 (f:Nat) (x0:LI) (x1:Int) (x2 x3:LI) (x4:Int):Option ((Int×LI×LI×Int)⊕(LI×LI×Int)):=qi qEe 0 [1,9,10] [1,2] (qI Tryz.f91 2) f ([.s (.ptr 0 0 none 0),.agg [.arr .i8 81 x0],.s (.i .i64 x1)]) ([.cells 28 [.arr .i8 81 x2,.arr .i8 16 x3,.one [.i .i8 x4]]]) qM7
theorem qeL (f:Nat) (x0:LI) (x1:Int) (x2 x3:LI) (x4:Int):qM8 (f+1) x0 x1 x2 x3 x4=qTE (qM8 f) x0 x1 x2 x3 x4:=by kernel_rfl
theorem qTD:∀ f,qM8 f=qJe f
 | 0=>rfl
 | f+1=>by funext x0 x1 x2 x3 x4;rw [qeL,qTD f];rfl
def qM6 (f:Nat) (x0 x1 x2:Int) (x3 x4:LI) (x5:Int) (x6 x7:LL):Option ((Int×Int×LI×LI×Int×LL×LL)⊕(Int×LI×LI×Int×LL×LL)):=qi qEe 0 [5,6,20,23] [2,5,20] (qI Tryz.f91 12) f ([.s (.ptr 0 0 none 0),.s (.i .i64 x0),.s (.i .i64 x1),.s (.i .i64 x2)]) ([.cells 72 [.arr .i8 81 x3,.arr .i8 16 x4,.one [.i .i8 x5],.rows [.i .u64,.i .u64] 32 x6,.rows [.i .u64,.i .u64] 2 x7]]) qM5
theorem qeK (f:Nat) (x0 x1 x2:Int) (x3 x4:LI) (x5:Int) (x6 x7:LL):qM6 (f+1) x0 x1 x2 x3 x4 x5 x6 x7=qTC (qM6 f) x0 x1 x2 x3 x4 x5 x6 x7:=by kernel_rfl
theorem qTB:∀ f,qM6 f=qJd f
 | 0=>rfl
 | f+1=>by funext x0 x1 x2 x3 x4 x5 x6 x7;rw [qeK,qTB f];rfl
def qNA (f:Nat) (x0:Int) (x1 x2:LI) (x3:Int) (x4 x5:LL):Option ((Int)⊕(Unit)):=qi qEe 0 [5,20] [2] (qI Tryz.f91 9) f ([.s (.ptr 0 0 none 0),.s (.i .i64 x0)]) ([.cells 72 [.arr .i8 81 x1,.arr .i8 16 x2,.one [.i .i8 x3],.rows [.i .u64,.i .u64] 32 x4,.rows [.i .u64,.i .u64] 2 x5]]) qM9
theorem qeM (f:Nat) (x0:Int) (x1 x2:LI) (x3:Int) (x4 x5:LL):qNA (f+1) x0 x1 x2 x3 x4 x5=qTG (qNA f) x0 x1 x2 x3 x4 x5:=by kernel_rfl
theorem qTF:∀ f,qNA f=qJf f
 | 0=>rfl
 | f+1=>by funext x0 x1 x2 x3 x4 x5;rw [qeM,qTF f];rfl
theorem qeQ:qe Tryz.prog qEe 0 (qI Tryz.f91 2):=
 qj mixed qJc (qR.of (l':=[]) (by kernel_rfl) trivial) (q:=2) (kin:=[1,9,10]) (kout:=[1,2]) (by kernel_rfl) (by kernel_rfl) fun vs objs K r h=>by
  replace h:qNC vs objs K=some r:=h
  unfold qNC at h
  split at h
  ·skip
   obtain ⟨t,h1,h2⟩:=qG h
   rw [<- qTD] at h1
   refine ⟨_,qM7,t,qD,h1,fun e vs' objs' hd=>?_⟩
   unfold qM7 at hd
   split at hd
   ·skip
    cases hd
    exact h2
   ·skip
    cases hd
    exact h2
   ·cases hd
  ·cases h
theorem qeP:qe Tryz.prog qEe 0 (qI Tryz.f91 12):=
 qj mixed qJc (qR.of (l':=[]) (by kernel_rfl) trivial) (q:=12) (kin:=[5,6,20,23]) (kout:=[2,5,20]) (by kernel_rfl) (by kernel_rfl) fun vs objs K r h=>by
  replace h:qNB vs objs K=some r:=h
  unfold qNB at h
  split at h
  ·skip
   obtain ⟨t,h1,h2⟩:=qG h
   rw [<- qTB] at h1
   refine ⟨_,qM5,t,qD,h1,fun e vs' objs' hd=>?_⟩
   unfold qM5 at hd
   split at hd
   ·skip
    cases hd
    exact h2
   ·skip
    cases hd
    exact h2
   ·cases hd
  ·cases h
theorem qeR:qe Tryz.prog qEe 0 (qI Tryz.f91 9):=
 qj mixed qJc (qR.of (l':=[qI Tryz.f91 12]) (by kernel_rfl) ⟨qeP,trivial⟩) (q:=9) (kin:=[5,20]) (kout:=[2]) (by kernel_rfl) (by kernel_rfl) fun vs objs K r h=>by
  replace h:qND vs objs K=some r:=h
  unfold qND at h
  split at h
  ·skip
   obtain ⟨t,h1,h2⟩:=qG h
   rw [<- qTF] at h1
   refine ⟨_,qM9,t,qD,h1,fun e vs' objs' hd=>?_⟩
   unfold qM9 at hd
   split at hd
   ·skip
    cases hd
    exact h2
   ·skip
    cases hd
    exact h2
   ·cases hd
  ·cases h
def qTA:V->List Obj->Option (Int):=fun v objs=>match v,objs with
 | .s (.i .i64 y0),[]=>some (y0)
 | _,_=>none
theorem qeJ (x0 x1:LI) (x2:Int):fnE qEe Tryz.f91 ([.agg [.arr .i8 81 x0,.arr .i8 16 x1,.one [.i .i8 x2]]]) ([]) qTA=qJb x0 x1 x2:=by kernel_rfl
def qS9:HA:=fun o vs objs K=>match vs,objs with
 | [.agg [.arr .i8 81 x0,.arr .i8 16 x1,.one [.i .i8 x2]]],[]=>ob (qJb x0 x1 x2) fun y0=>K false (.s (.i .i64 y0)) ([])
 | _,_=>o 91 vs objs K
def qTH (o:Orc):Orc:=qM 91 (qS9 o) o
theorem qeO:OQ Tryz.prog qTH:=fun _ ho=>qQ ho fun vs objs K r h=>by
 unfold qS9 at h
 split at h
 ·skip
  obtain ⟨t,h1,h2⟩:=qG h
  refine qAc mixed qJc (fn:=Tryz.f91) (b:=(Tryz.f91).body.getD .skip) (by kernel_rfl) (by kernel_rfl) (by kernel_rfl) ((qeJ _ _ _).trans h1) (m:=0) rfl (qR.of (l':=[qI Tryz.f91 2,qI Tryz.f91 9]) (by kernel_rfl) ⟨qeQ,qeR,trivial⟩) fun v objs' hd=>?_
  unfold qTA at hd;split at hd;(cases hd;exact h2);cases hd
 ·exact ho _ _ _ _ _ h
def qMj:Ex->List V->List Obj->Option ((Int×LI×LI×Int×LI×LI)⊕(LI×LI×Int×LI×LI)):=fun e vs objs=>match e,vs,objs with
 | .ret,[.s (.ptr 0 0 none 0),.s (.i .i64 y0),.s (.ptr 1 0 none 0),.s (.ptr 2 0 none 0)],[.cells 28 [.arr .i8 81 y1,.arr .i8 16 y2,.one [.i .i8 y3]],.cells 91 [.arr .i64 9 y4],.cells 124 [.arr .i64 2 y5]]=>some (.inl (y0,y1,y2,y3,y4,y5))
 | .exit 0,[.s (.ptr 0 0 none 0),.s .bad,.s (.ptr 1 0 none 0),.s (.ptr 2 0 none 0)],[.cells 28 [.arr .i8 81 y0,.arr .i8 16 y1,.one [.i .i8 y2]],.cells 91 [.arr .i64 9 y3],.cells 124 [.arr .i64 2 y4]]=>some (.inr (y0,y1,y2,y3,y4))
 | _,_,_=>none
def qMf:Ex->List V->List Obj->Option ((Int×LI×Int×LI×LI×Int×LI×LI)⊕(LI×Int×LI×LI×Int×LI×LI)):=fun e vs objs=>match e,vs,objs with
 | .ret,[.s (.ptr 0 0 none 0),.s (.i .i64 y0),.s (.ptr 1 0 none 0),.s (.ptr 2 0 none 0),.agg [.arr .i8 16 y1],.s (.i .i64 y2)],[.cells 28 [.arr .i8 81 y3,.arr .i8 16 y4,.one [.i .i8 y5]],.cells 91 [.arr .i64 9 y6],.cells 124 [.arr .i64 2 y7]]=>some (.inl (y0,y1,y2,y3,y4,y5,y6,y7))
 | .exit 9,[.s (.ptr 0 0 none 0),.s .bad,.s (.ptr 1 0 none 0),.s (.ptr 2 0 none 0),.agg [.arr .i8 16 y0],.s (.i .i64 y1)],[.cells 28 [.arr .i8 81 y2,.arr .i8 16 y3,.one [.i .i8 y4]],.cells 91 [.arr .i64 9 y5],.cells 124 [.arr .i64 2 y6]]=>some (.inr (y0,y1,y2,y3,y4,y5,y6))
 | _,_,_=>none
def qMd:Ex->List V->List Obj->Option ((Int×LI×LI×Int×LI×LI)⊕(LI×LI×Int×LI×LI)):=fun e vs objs=>match e,vs,objs with
 | .ret,[.s (.ptr 0 0 none 0),.s (.i .i64 y0),.s (.ptr 1 0 none 0),.s (.ptr 2 0 none 0)],[.cells 28 [.arr .i8 81 y1,.arr .i8 16 y2,.one [.i .i8 y3]],.cells 91 [.arr .i64 9 y4],.cells 124 [.arr .i64 2 y5]]=>some (.inl (y0,y1,y2,y3,y4,y5))
 | .exit 7,[.s (.ptr 0 0 none 0),.s .bad,.s (.ptr 1 0 none 0),.s (.ptr 2 0 none 0)],[.cells 28 [.arr .i8 81 y0,.arr .i8 16 y1,.one [.i .i8 y2]],.cells 91 [.arr .i64 9 y3],.cells 124 [.arr .i64 2 y4]]=>some (.inr (y0,y1,y2,y3,y4))
 | _,_,_=>none
def qMh:Ex->List V->List Obj->Option ((Int×LI×LI×Int)⊕(LI×LI×Int)):=fun e vs objs=>match e,vs,objs with
 | .ret,[.s (.ptr 0 0 none 0),.s (.i .i64 y0)],[.cells 28 [.arr .i8 81 y1,.arr .i8 16 y2,.one [.i .i8 y3]]]=>some (.inl (y0,y1,y2,y3))
 | .exit 11,[.s (.ptr 0 0 none 0),.s .bad],[.cells 28 [.arr .i8 81 y0,.arr .i8 16 y1,.one [.i .i8 y2]]]=>some (.inr (y0,y1,y2))
 | _,_,_=>none
def qMo:HL:=fun vs objs K=>match vs,objs with
 | [.s (.ptr 0 0 none 0),.s (.ptr 1 0 none 0),.s (.ptr 2 0 none 0),.agg [.arr .i8 81 x0],.s (.i .i64 x1)],[.cells 28 [.arr .i8 81 x2,.arr .i8 16 x3,.one [.i .i8 x4]],.cells 91 [.arr .i64 9 x5],.cells 124 [.arr .i64 2 x6]]=>ob (qH1 qD x0 x1 x2 x3 x4 x5 x6) fun t0=>sw t0 (fun z=>K (.ret) ([.s (.ptr 0 0 none 0),.s (.i .i64 (z.1)),.s (.ptr 1 0 none 0),.s (.ptr 2 0 none 0)]) ([.cells 28 [.arr .i8 81 (z.2.1),.arr .i8 16 (z.2.2.1),.one [.i .i8 (z.2.2.2.1)]],.cells 91 [.arr .i64 9 (z.2.2.2.2.1)],.cells 124 [.arr .i64 2 (z.2.2.2.2.2)]])) (fun z=>K (.exit 0) ([.s (.ptr 0 0 none 0),.s .bad,.s (.ptr 1 0 none 0),.s (.ptr 2 0 none 0)]) ([.cells 28 [.arr .i8 81 (z.1),.arr .i8 16 (z.2.1),.one [.i .i8 (z.2.2.1)]],.cells 91 [.arr .i64 9 (z.2.2.2.1)],.cells 124 [.arr .i64 2 (z.2.2.2.2)]]))
 | _,_=>none
def qMm:HL:=fun vs objs K=>match vs,objs with
 | [.s (.ptr 0 0 none 0),.s (.ptr 1 0 none 0),.s (.ptr 2 0 none 0),.agg [.arr .i8 16 x0],.s (.i .i64 x1),.agg [.arr .i8 8 x2],.s (.i .i64 x3)],[.cells 28 [.arr .i8 81 x4,.arr .i8 16 x5,.one [.i .i8 x6]],.cells 91 [.arr .i64 9 x7],.cells 124 [.arr .i64 2 x8]]=>ob (qJQ qD x0 x1 x2 x3 x4 x5 x6 x7 x8) fun t0=>sw t0 (fun z=>K (.ret) ([.s (.ptr 0 0 none 0),.s (.i .i64 (z.1)),.s (.ptr 1 0 none 0),.s (.ptr 2 0 none 0),.agg [.arr .i8 16 (z.2.1)],.s (.i .i64 (z.2.2.1))]) ([.cells 28 [.arr .i8 81 (z.2.2.2.1),.arr .i8 16 (z.2.2.2.2.1),.one [.i .i8 (z.2.2.2.2.2.1)]],.cells 91 [.arr .i64 9 (z.2.2.2.2.2.2.1)],.cells 124 [.arr .i64 2 (z.2.2.2.2.2.2.2)]])) (fun z=>K (.exit 9) ([.s (.ptr 0 0 none 0),.s .bad,.s (.ptr 1 0 none 0),.s (.ptr 2 0 none 0),.agg [.arr .i8 16 (z.1)],.s (.i .i64 (z.2.1))]) ([.cells 28 [.arr .i8 81 (z.2.2.1),.arr .i8 16 (z.2.2.2.1),.one [.i .i8 (z.2.2.2.2.1)]],.cells 91 [.arr .i64 9 (z.2.2.2.2.2.1)],.cells 124 [.arr .i64 2 (z.2.2.2.2.2.2)]]))
 | _,_=>none
def qMl:HL:=fun vs objs K=>match vs,objs with
 | [.s (.ptr 0 0 none 0),.s (.ptr 1 0 none 0),.s (.ptr 2 0 none 0),.agg [.arr .i8 16 x0],.s (.i .i64 x1)],[.cells 28 [.arr .i8 81 x2,.arr .i8 16 x3,.one [.i .i8 x4]],.cells 91 [.arr .i64 9 x5],.cells 124 [.arr .i64 2 x6]]=>ob (qHz qD x0 x1 x2 x3 x4 x5 x6) fun t0=>sw t0 (fun z=>K (.ret) ([.s (.ptr 0 0 none 0),.s (.i .i64 (z.1)),.s (.ptr 1 0 none 0),.s (.ptr 2 0 none 0)]) ([.cells 28 [.arr .i8 81 (z.2.1),.arr .i8 16 (z.2.2.1),.one [.i .i8 (z.2.2.2.1)]],.cells 91 [.arr .i64 9 (z.2.2.2.2.1)],.cells 124 [.arr .i64 2 (z.2.2.2.2.2)]])) (fun z=>K (.exit 7) ([.s (.ptr 0 0 none 0),.s .bad,.s (.ptr 1 0 none 0),.s (.ptr 2 0 none 0)]) ([.cells 28 [.arr .i8 81 (z.1),.arr .i8 16 (z.2.1),.one [.i .i8 (z.2.2.1)]],.cells 91 [.arr .i64 9 (z.2.2.2.1)],.cells 124 [.arr .i64 2 (z.2.2.2.2)]]))
 | _,_=>none
def qMn:HL:=fun vs objs K=>match vs,objs with
 | [.s (.ptr 0 0 none 0),.s (.ptr 1 0 none 0),.s (.i .i64 x0)],[.cells 28 [.arr .i8 81 x1,.arr .i8 16 x2,.one [.i .i8 x3]],.cells 91 [.arr .i64 9 x4]]=>ob (qH0 qD x0 x1 x2 x3 x4) fun t0=>sw t0 (fun z=>K (.ret) ([.s (.ptr 0 0 none 0),.s (.i .i64 (z.1))]) ([.cells 28 [.arr .i8 81 (z.2.1),.arr .i8 16 (z.2.2.1),.one [.i .i8 (z.2.2.2)]]])) (fun z=>K (.exit 11) ([.s (.ptr 0 0 none 0),.s .bad]) ([.cells 28 [.arr .i8 81 (z.1),.arr .i8 16 (z.2.1),.one [.i .i8 (z.2.2)]]]))
 | _,_=>none
def qdk:{R:Type}->Nat->List V->List Obj->(Ex->List V->List Obj->Option R)->Option R:=fun q vs objs K=>bif Nat.beq q 6 then qMo vs objs K else bif Nat.beq q 20 then qMm vs objs K else bif Nat.beq q 17 then qMl vs objs K else bif Nat.beq q 30 then qMn vs objs K else none
def qDB:Ctx:=mkC 98 ((qTH (qX9 (qKx (qDU (qCa qL)))))) [(6,[1,3,4,22,23],[1,2,3,4]),(17,[1,3,4,51,52],[1,2,3,4]),(20,[1,3,4,51,52,55,56],[1,2,3,4,51,52]),(30,[1,3,12],[1,2])] qdk
theorem qHy:CtxOK Tryz.prog qDB:=mkC_ok ((qeO _ (qkj _ (qPc _ (qD5 _ (qCv _ qN))))))
def qMk (f:Nat) (x0:LI) (x1:Int) (x2 x3:LI) (x4:Int) (x5 x6:LI):Option ((Int×LI×LI×Int×LI×LI)⊕(LI×LI×Int×LI×LI)):=qi qDB 0 [1,3,4,22,23] [1,2,3,4] (qI Tryz.f52 6) f ([.s (.ptr 0 0 none 0),.s (.ptr 1 0 none 0),.s (.ptr 2 0 none 0),.agg [.arr .i8 81 x0],.s (.i .i64 x1)]) ([.cells 28 [.arr .i8 81 x2,.arr .i8 16 x3,.one [.i .i8 x4]],.cells 91 [.arr .i64 9 x5],.cells 124 [.arr .i64 2 x6]]) qMj
theorem qdj (f:Nat) (x0:LI) (x1:Int) (x2 x3:LI) (x4:Int) (x5 x6:LI):qMk (f+1) x0 x1 x2 x3 x4 x5 x6=qST (qMk f) x0 x1 x2 x3 x4 x5 x6:=by kernel_rfl
theorem qSS:∀ f,qMk f=qH1 f
 | 0=>rfl
 | f+1=>by funext x0 x1 x2 x3 x4 x5 x6;rw [qdj,qSS f];rfl
def qMg (f:Nat) (x0:LI) (x1:Int) (x2:LI) (x3:Int) (x4 x5:LI) (x6:Int) (x7 x8:LI):Option ((Int×LI×Int×LI×LI×Int×LI×LI)⊕(LI×Int×LI×LI×Int×LI×LI)):=qi qDB 0 [1,3,4,51,52,55,56] [1,2,3,4,51,52] (qI Tryz.f52 20) f ([.s (.ptr 0 0 none 0),.s (.ptr 1 0 none 0),.s (.ptr 2 0 none 0),.agg [.arr .i8 16 x0],.s (.i .i64 x1),.agg [.arr .i8 8 x2],.s (.i .i64 x3)]) ([.cells 28 [.arr .i8 81 x4,.arr .i8 16 x5,.one [.i .i8 x6]],.cells 91 [.arr .i64 9 x7],.cells 124 [.arr .i64 2 x8]]) qMf
theorem qdh (f:Nat) (x0:LI) (x1:Int) (x2:LI) (x3:Int) (x4 x5:LI) (x6:Int) (x7 x8:LI):qMg (f+1) x0 x1 x2 x3 x4 x5 x6 x7 x8=qSP (qMg f) x0 x1 x2 x3 x4 x5 x6 x7 x8:=by kernel_rfl
theorem qSO:∀ f,qMg f=qJQ f
 | 0=>rfl
 | f+1=>by funext x0 x1 x2 x3 x4 x5 x6 x7 x8;rw [qdh,qSO f];rfl
def qMe (f:Nat) (x0:LI) (x1:Int) (x2 x3:LI) (x4:Int) (x5 x6:LI):Option ((Int×LI×LI×Int×LI×LI)⊕(LI×LI×Int×LI×LI)):=qi qDB 0 [1,3,4,51,52] [1,2,3,4] (qI Tryz.f52 17) f ([.s (.ptr 0 0 none 0),.s (.ptr 1 0 none 0),.s (.ptr 2 0 none 0),.agg [.arr .i8 16 x0],.s (.i .i64 x1)]) ([.cells 28 [.arr .i8 81 x2,.arr .i8 16 x3,.one [.i .i8 x4]],.cells 91 [.arr .i64 9 x5],.cells 124 [.arr .i64 2 x6]]) qMd
theorem qdg (f:Nat) (x0:LI) (x1:Int) (x2 x3:LI) (x4:Int) (x5 x6:LI):qMe (f+1) x0 x1 x2 x3 x4 x5 x6=qSN (qMe f) x0 x1 x2 x3 x4 x5 x6:=by kernel_rfl
theorem qSM:∀ f,qMe f=qHz f
 | 0=>rfl
 | f+1=>by funext x0 x1 x2 x3 x4 x5 x6;rw [qdg,qSM f];rfl
def qMi (f:Nat) (x0:Int) (x1 x2:LI) (x3:Int) (x4:LI):Option ((Int×LI×LI×Int)⊕(LI×LI×Int)):=qi qDB 0 [1,3,12] [1,2] (qI Tryz.f52 30) f ([.s (.ptr 0 0 none 0),.s (.ptr 1 0 none 0),.s (.i .i64 x0)]) ([.cells 28 [.arr .i8 81 x1,.arr .i8 16 x2,.one [.i .i8 x3]],.cells 91 [.arr .i64 9 x4]]) qMh
theorem qdi (f:Nat) (x0:Int) (x1 x2:LI) (x3:Int) (x4:LI):qMi (f+1) x0 x1 x2 x3 x4=qSR (qMi f) x0 x1 x2 x3 x4:=by kernel_rfl
theorem qSQ:∀ f,qMi f=qH0 f
 | 0=>rfl
 | f+1=>by funext x0 x1 x2 x3 x4;rw [qdi,qSQ f];rfl
theorem qdp:qe Tryz.prog qDB 0 (qI Tryz.f52 6):=
 qj mixed qHy (qR.of (l':=[]) (by kernel_rfl) trivial) (q:=6) (kin:=[1,3,4,22,23]) (kout:=[1,2,3,4]) (by kernel_rfl) (by kernel_rfl) fun vs objs K r h=>by
  replace h:qMo vs objs K=some r:=h
  unfold qMo at h
  split at h
  ·skip
   obtain ⟨t,h1,h2⟩:=qG h
   rw [<- qSS] at h1
   refine ⟨_,qMj,t,qD,h1,fun e vs' objs' hd=>?_⟩
   unfold qMj at hd
   split at hd
   ·skip
    cases hd
    exact h2
   ·skip
    cases hd
    exact h2
   ·cases hd
  ·cases h
theorem qdn:qe Tryz.prog qDB 0 (qI Tryz.f52 20):=
 qj mixed qHy (qR.of (l':=[]) (by kernel_rfl) trivial) (q:=20) (kin:=[1,3,4,51,52,55,56]) (kout:=[1,2,3,4,51,52]) (by kernel_rfl) (by kernel_rfl) fun vs objs K r h=>by
  replace h:qMm vs objs K=some r:=h
  unfold qMm at h
  split at h
  ·skip
   obtain ⟨t,h1,h2⟩:=qG h
   rw [<- qSO] at h1
   refine ⟨_,qMf,t,qD,h1,fun e vs' objs' hd=>?_⟩
   unfold qMf at hd
   split at hd
   ·skip
    cases hd
    exact h2
   ·skip
    cases hd
    exact h2
   ·cases hd
  ·cases h
theorem qdo:qe Tryz.prog qDB 0 (qI Tryz.f52 30):=
 qj mixed qHy (qR.of (l':=[]) (by kernel_rfl) trivial) (q:=30) (kin:=[1,3,12]) (kout:=[1,2]) (by kernel_rfl) (by kernel_rfl) fun vs objs K r h=>by
  replace h:qMn vs objs K=some r:=h
  unfold qMn at h
  split at h
  ·skip
   obtain ⟨t,h1,h2⟩:=qG h
   rw [<- qSQ] at h1
   refine ⟨_,qMh,t,qD,h1,fun e vs' objs' hd=>?_⟩
   unfold qMh at hd
   split at hd
   ·skip
    cases hd
    exact h2
   ·skip
    cases hd
    exact h2
   ·cases hd
  ·cases h
theorem qdm:qe Tryz.prog qDB 0 (qI Tryz.f52 17):=
 qj mixed qHy (qR.of (l':=[qI Tryz.f52 20]) (by kernel_rfl) ⟨qdn,trivial⟩) (q:=17) (kin:=[1,3,4,51,52]) (kout:=[1,2,3,4]) (by kernel_rfl) (by kernel_rfl) fun vs objs K r h=>by
  replace h:qMl vs objs K=some r:=h
  unfold qMl at h
  split at h
  ·skip
   obtain ⟨t,h1,h2⟩:=qG h
   rw [<- qSM] at h1
   refine ⟨_,qMd,t,qD,h1,fun e vs' objs' hd=>?_⟩
   unfold qMd at hd
   split at hd
   ·skip
    cases hd
    exact h2
   ·skip
    cases hd
    exact h2
   ·cases hd
  ·cases h
def qSL:V->List Obj->Option (Int):=fun v objs=>match v,objs with
 | .s (.i .i64 y0),[]=>some (y0)
 | _,_=>none
theorem qdf (x0 x1:LI) (x2:Int):fnE qDB Tryz.f52 ([.agg [.arr .i8 81 x0,.arr .i8 16 x1,.one [.i .i8 x2]]]) ([]) qSL=qMc x0 x1 x2:=by kernel_rfl
def qSK:HA:=fun o vs objs K=>match vs,objs with
 | [.agg [.arr .i8 81 x0,.arr .i8 16 x1,.one [.i .i8 x2]]],[]=>ob (qMc x0 x1 x2) fun y0=>K false (.s (.i .i64 y0)) ([])
 | _,_=>o 52 vs objs K
def qSU (o:Orc):Orc:=qM 52 (qSK o) o
theorem qdl:OQ Tryz.prog qSU:=fun _ ho=>qQ ho fun vs objs K r h=>by
 unfold qSK at h
 split at h
 ·skip
  obtain ⟨t,h1,h2⟩:=qG h
  refine qAc mixed qHy (fn:=Tryz.f52) (b:=(Tryz.f52).body.getD .skip) (by kernel_rfl) (by kernel_rfl) (by kernel_rfl) ((qdf _ _ _).trans h1) (m:=0) rfl (qR.of (l':=[qI Tryz.f52 6,qI Tryz.f52 17,qI Tryz.f52 30]) (by kernel_rfl) ⟨qdp,qdm,qdo,trivial⟩) fun v objs' hd=>?_
  unfold qSL at hd;split at hd;(cases hd;exact h2);cases hd
 ·exact ho _ _ _ _ _ h
def qMY:Ctx:=mkC 14 (qL) [] qa
theorem qda:CtxOK Tryz.prog qMY:=mkC_ok (qN)
def qMZ:V->List Obj->Option (Int):=fun v objs=>match v,objs with
 | .s (.i .i64 y0),[]=>some (y0)
 | _,_=>none
theorem qdZ (B:{R:Type}->Bool->Option R->Option R->Option R) (x0:Int):fnE { qMY with brg:=B } Tryz.f149 ([.s (.i .u64 x0)]) ([]) qMZ=qMX B x0:=by kernel_rfl
theorem qdY (x0:Int):fnE qMY Tryz.f149 ([.s (.i .u64 x0)]) ([]) qMZ=qEd x0:=qdZ br x0
def qSF:HA:=fun o vs objs K=>match vs,objs with
 | [.s (.i .u64 x0)],[]=>ob (qEd x0) fun y0=>K false (.s (.i .i64 y0)) ([])
 | _,_=>o 149 vs objs K
def qMa (o:Orc):Orc:=qM 149 (qSF o) o
theorem qSG:OQ Tryz.prog qMa:=fun _ ho=>qQ ho fun vs objs K r h=>by
 unfold qSF at h
 split at h
 ·skip
  obtain ⟨t,h1,h2⟩:=qG h
  refine qd mixed qda ((qdY _).trans h1) (by kernel_rfl) fun v objs' hd=>?_
  unfold qMZ at hd;split at hd;(cases hd;exact h2);cases hd
 ·exact ho _ _ _ _ _ h
def qZo:Ctx:=mkC 18 ((qMa qL)) [] qa
theorem qmc:CtxOK Tryz.prog qZo:=mkC_ok ((qSG _ qN))
def qZp:V->List Obj->Option (Int):=fun v objs=>match v,objs with
 | .s (.i .i64 y0),[]=>some (y0)
 | _,_=>none
theorem qmb (x0 x1:Int):fnE qZo Tryz.f126 ([.agg [.one [.i .u64 x0,.i .u64 x1]]]) ([]) qZp=qFz x0 x1:=by kernel_rfl
def qZn:HA:=fun o vs objs K=>match vs,objs with
 | [.agg [.one [.i .u64 x0,.i .u64 x1]]],[]=>ob (qFz x0 x1) fun y0=>K false (.s (.i .i64 y0)) ([])
 | _,_=>o 126 vs objs K
def qLS (o:Orc):Orc:=qM 126 (qZn o) o
theorem qQR:OQ Tryz.prog qLS:=fun _ ho=>qQ ho fun vs objs K r h=>by
 unfold qZn at h
 split at h
 ·skip
  obtain ⟨t,h1,h2⟩:=qG h
  refine qd mixed qmc ((qmb _ _).trans h1) (by kernel_rfl) fun v objs' hd=>?_
  unfold qZp at hd;split at hd;(cases hd;exact h2);cases hd
 ·exact ho _ _ _ _ _ h
def qSd:Ctx:=mkC 9 ((qLS (qFR qL))) [] qa
theorem qdw:CtxOK Tryz.prog qSd:=mkC_ok ((qQR _ (qGO _ qN)))
def qSe:V->List Obj->Option (Int):=fun v objs=>match v,objs with
 | .s (.i .i64 y0),[]=>some (y0)
 | _,_=>none
theorem qdv (x0:Int) (x1 x2:LI) (x3:Int) (x4 x5:LL):fnE qSd Tryz.f112 ([.s (.ptr 0 0 none 0),.s (.i .i64 x0)]) ([.rcells 72 [.arr .i8 81 x1,.arr .i8 16 x2,.one [.i .i8 x3],.rows [.i .u64,.i .u64] 32 x4,.rows [.i .u64,.i .u64] 2 x5]]) (qAE 1 qSe)=qFQ x0 x1 x2 x3 x4 x5:=by kernel_rfl
def qSc:HA:=fun o vs objs K=>match vs,List.map Obj.toRO objs with
 | [.s (.ptr 0 0 none 0),.s (.i .i64 x0)],[.rcells 72 [.arr .i8 81 x1,.arr .i8 16 x2,.one [.i .i8 x3],.rows [.i .u64,.i .u64] 32 x4,.rows [.i .u64,.i .u64] 2 x5]]=>ob (qFQ x0 x1 x2 x3 x4 x5) fun y0=>K true (.s (.i .i64 y0)) ([])
 | _,_=>o 112 vs objs K
def qJT (o:Orc):Orc:=qM 112 (qSc o) o
theorem qMq:OQ Tryz.prog qJT:=fun _ ho=>qQ ho fun vs objs K r h=>by
 unfold qSc at h
 split at h
 ·skip
  have hq:List.map Obj.toRO objs=_:=(by rename_i hq;first | exact hq | assumption)
  obtain ⟨t,h1,h2⟩:=qG h
  refine qAU mixed qdw (m:=1) (fn:=Tryz.f112) (b:=(Tryz.f112).body.getD .skip) (by kernel_rfl) (by kernel_rfl) (by kernel_rfl) hq (by kernel_rfl) (by kernel_rfl) (qR.of (l':=[]) (by kernel_rfl) trivial) ((qdv _ _ _ _ _ _).trans h1) fun v objs' hd=>?_
  unfold qSe at hd;split at hd;(cases hd;exact h2);cases hd
 ·exact ho _ _ _ _ _ h
def qS6:Ctx:=mkC 14 ((qF1 qL)) [] qa
theorem qeI:CtxOK Tryz.prog qS6:=mkC_ok ((qHf _ qN))
def qS7:V->List Obj->Option (Int×Int):=fun v objs=>match v,objs with
 | .agg [.one [.i .u64 y0,.i .u64 y1]],[]=>some (y0,y1)
 | _,_=>none
theorem qeH (x0 x1:LI) (x2:Int) (x3 x4:LL):fnE qS6 Tryz.f113 ([.s (.ptr 0 0 none 0)]) ([.rcells 72 [.arr .i8 81 x0,.arr .i8 16 x1,.one [.i .i8 x2],.rows [.i .u64,.i .u64] 32 x3,.rows [.i .u64,.i .u64] 2 x4]]) (qAE 1 qS7)=qCn x0 x1 x2 x3 x4:=by kernel_rfl
def qS5:HA:=fun o vs objs K=>match vs,List.map Obj.toRO objs with
 | [.s (.ptr 0 0 none 0)],[.rcells 72 [.arr .i8 81 x0,.arr .i8 16 x1,.one [.i .i8 x2],.rows [.i .u64,.i .u64] 32 x3,.rows [.i .u64,.i .u64] 2 x4]]=>ob (qCn x0 x1 x2 x3 x4) fun z=>K true (.agg [.one [.i .u64 (z.1),.i .u64 (z.2)]]) ([])
 | _,_=>o 113 vs objs K
def qGQ (o:Orc):Orc:=qM 113 (qS5 o) o
theorem qH3:OQ Tryz.prog qGQ:=fun _ ho=>qQ ho fun vs objs K r h=>by
 unfold qS5 at h
 split at h
 ·skip
  have hq:List.map Obj.toRO objs=_:=(by rename_i hq;first | exact hq | assumption)
  obtain ⟨t,h1,h2⟩:=qG h
  refine qAU mixed qeI (m:=1) (fn:=Tryz.f113) (b:=(Tryz.f113).body.getD .skip) (by kernel_rfl) (by kernel_rfl) (by kernel_rfl) hq (by kernel_rfl) (by kernel_rfl) (qR.of (l':=[]) (by kernel_rfl) trivial) ((qeH _ _ _ _ _).trans h1) fun v objs' hd=>?_
  unfold qS7 at hd;split at hd;(cases hd;exact h2);cases hd
 ·exact ho _ _ _ _ _ h
def qF7 (n:Nat) {R:Type} (o:Orc) (vs:List V) (objs:List Obj) (K:Bool->V->List Obj->Option R):Option R:=match vs,objs with
 | [.s (.i .i64 x0)],[]=>ob (qF6 n x0) fun z=>K false (.s (.sl 0 0 (z.1) true)) ([.sli 164 false (.rows [.i .i64,.i .i64] (z.2.1) (z.2.2))])
 | _,_=>o 160 vs objs K
def qQu (n:Nat) (o:Orc):Orc:=fun f vs objs K=>bif Nat.beq f 160 then qF7 n o vs objs K else o f vs objs K
def qnk (n:Nat):Orc:=qQu n qL
def qar (n:Nat):Ctx:=mkC 57 (qnk n) [] qa
def qas:V->List Obj->Option (Nat×Nat×LL):=fun v objs=>match v,objs with
 | .s (.sl 0 0 y0 true),[.sli 164 false (.rows [.i .i64,.i .i64] y1 y2)]=>some (y0,y1,y2)
 | _,_=>none
theorem qnh (n:Nat) (x0:Int):fnE (qar n) Tryz.f160 ([.s (.i .i64 x0)]) ([]) qas=qF6 (n+1) x0:=by kernel_rfl
theorem qni (n:Nat) (hc:CtxOK Tryz.prog (qar n)) {vs:List V} {objs:List Obj} (x0:Int) {R:Type} {K:Bool->V->List Obj->Option R} {r:R} (hv:vs=[.s (.i .i64 x0)]) (ho:objs=[]) (h:ob (qF6 (n+1) x0) (fun z=>K false (.s (.sl 0 0 (z.1) true)) ([.sli 164 false (.rows [.i .i64,.i .i64] (z.2.1) (z.2.2))]))=some r):
  ∃ p v objs',K p v objs'=some r /\ qC6 Tryz.prog 160 vs objs p v objs':=by
 subst hv
 subst ho
 obtain ⟨t,h1,h2⟩:=qG h
 refine qMD mixed hc (objs:=[]) (fn:=Tryz.f160) (b:=(Tryz.f160).body.getD .skip) (by kernel_rfl) (by kernel_rfl) (by kernel_rfl) (qR.of (l':=[]) (by kernel_rfl) trivial) ((qnh n x0).trans h1) fun v objs' hd=>?_
 unfold qas at hd;split at hd;(cases hd;exact h2);cases hd
theorem qnj:∀ (n:Nat) (o:Orc) (ho:qCj Tryz.prog o),qCj Tryz.prog (qQu n o):=by
 intro n
 induction n with
 | zero=>
   intro o ho R f vs objs K r h
   replace h:(bif Nat.beq f 160 then qF7 0 o vs objs K else o f vs objs K)=some r:=h
   cases hf:Nat.beq f 160 with
   | false=>rw [hf] at h;exact ho f vs objs K r h
   | true=>
     rw [hf] at h
     have e:=Nat.eq_of_beq_eq_true hf
     subst e
     replace h:qF7 0 o vs objs K=some r:=h
     unfold qF7 at h
     split at h
     ·skip
      cases h
     ·exact ho _ _ _ _ _ h
 | succ n ih=>
   intro o ho R f vs objs K r h
   replace h:(bif Nat.beq f 160 then qF7 (n+1) o vs objs K else o f vs objs K)=some r:=h
   cases hf:Nat.beq f 160 with
   | false=>rw [hf] at h;exact ho f vs objs K r h
   | true=>
     rw [hf] at h
     have e:=Nat.eq_of_beq_eq_true hf
     subst e
     replace h:qF7 (n+1) o vs objs K=some r:=h
     unfold qF7 at h
     split at h
     ·skip
      exact qni n ⟨tab_ok,ih _ qN,eqs_ok,bytes_ok,fun _ _ _=>rfl,exts_ok⟩ _ rfl rfl h
     ·exact ho _ _ _ _ _ h
def qao:Ctx:=mkC 15 (qL) [] qa
theorem qng:CtxOK Tryz.prog qao:=mkC_ok (qN)
def qap:V->List Obj->Option (Int×Int):=fun v objs=>match v,objs with
 | .agg [.one [.i .i64 y0,.i .i64 y1]],[]=>some (y0,y1)
 | _,_=>none
theorem qnf (x0 x1 x2:Int):fnE qao Tryz.f151 ([.agg [.one [.i .i64 x0,.i .i64 x1]],.s (.i .i64 x2)]) ([]) qap=qFC x0 x1 x2:=by kernel_rfl
def qan:HA:=fun o vs objs K=>match vs,objs with
 | [.agg [.one [.i .i64 x0,.i .i64 x1]],.s (.i .i64 x2)],[]=>ob (qFC x0 x1 x2) fun z=>K false (.agg [.one [.i .i64 (z.1),.i .i64 (z.2)]]) ([])
 | _,_=>o 151 vs objs K
def qQt (o:Orc):Orc:=qM 151 (qan o) o
theorem qaq:OQ Tryz.prog qQt:=fun _ ho=>qQ ho fun vs objs K r h=>by
 unfold qan at h
 split at h
 ·skip
  obtain ⟨t,h1,h2⟩:=qG h
  refine qd mixed qng ((qnf _ _ _).trans h1) (by kernel_rfl) fun v objs' hd=>?_
  unfold qap at hd;split at hd;(cases hd;exact h2);cases hd
 ·exact ho _ _ _ _ _ h
def qZl:Ctx:=mkC 5 (qL) [] qa
theorem qma:CtxOK Tryz.prog qZl:=mkC_ok (qN)
def qZm:V->List Obj->Option (Int):=fun v objs=>match v,objs with
 | .s (.i .i64 y0),[]=>some (y0)
 | _,_=>none
theorem qmZ (x0:Int):fnE qZl Tryz.f104 ([.s (.i .i64 x0)]) ([]) qZm=qFy x0:=by kernel_rfl
def qZk:HA:=fun o vs objs K=>match vs,objs with
 | [.s (.i .i64 x0)],[]=>ob (qFy x0) fun y0=>K false (.s (.i .i64 y0)) ([])
 | _,_=>o 104 vs objs K
def qLR (o:Orc):Orc:=qM 104 (qZk o) o
theorem qQQ:OQ Tryz.prog qLR:=fun _ ho=>qQ ho fun vs objs K r h=>by
 unfold qZk at h
 split at h
 ·skip
  obtain ⟨t,h1,h2⟩:=qG h
  refine qd mixed qma ((qmZ _).trans h1) (by kernel_rfl) fun v objs' hd=>?_
  unfold qZm at hd;split at hd;(cases hd;exact h2);cases hd
 ·exact ho _ _ _ _ _ h
def qak:Ctx:=mkC 42 ((set_Squareo (qLX (qLR qL)))) [] qa
theorem qne:CtxOK Tryz.prog qak:=mkC_ok ((set_Squareo_ok _ (qQa _ (qQQ _ qN))))
def qal:V->List Obj->Option (Int):=fun v objs=>match v,objs with
 | .s (.i .i64 y0),[]=>some (y0)
 | _,_=>none
theorem qnd (x0 x1 x2:Int):fnE qak Tryz.f159 ([.agg [.one [.i .i64 x0,.i .i64 x1]],.s (.i .i64 x2)]) ([]) qal=qF5 x0 x1 x2:=by kernel_rfl
def qaj:HA:=fun o vs objs K=>match vs,objs with
 | [.agg [.one [.i .i64 x0,.i .i64 x1]],.s (.i .i64 x2)],[]=>ob (qF5 x0 x1 x2) fun y0=>K false (.s (.i .i64 y0)) ([])
 | _,_=>o 159 vs objs K
def qQs (o:Orc):Orc:=qM 159 (qaj o) o
theorem qam:OQ Tryz.prog qQs:=fun _ ho=>qQ ho fun vs objs K r h=>by
 unfold qaj at h
 split at h
 ·skip
  obtain ⟨t,h1,h2⟩:=qG h
  refine qd mixed qne ((qnd _ _ _).trans h1) (by kernel_rfl) fun v objs' hd=>?_
  unfold qal at hd;split at hd;(cases hd;exact h2);cases hd
 ·exact ho _ _ _ _ _ h
def qQw:Ex->List V->List Obj->Option (Int×Int×Int×Int):=fun e vs objs=>match e,vs,objs with
 | .exit 0,[.s (.ptr 0 0 none 0),.s (.ptr 1 0 none 0)],[.cells 68 [.one [.i .u64 y0,.i .u64 y1]],.cells 68 [.one [.i .u64 y2,.i .u64 y3]]]=>some (y0,y1,y2,y3)
 | _,_,_=>none
def qQy:HL:=fun vs objs K=>match vs,objs with
 | [.s (.i .i8 x0),.s (.i .i64 x1),.s (.ptr 0 0 none 0),.s (.ptr 1 0 none 0),.s (.sl 2 0 x2 true),.s (.i .i64 x3),.s (.i .i64 x4)],[.cells 68 [.one [.i .u64 x5,.i .u64 x6]],.cells 68 [.one [.i .u64 x7,.i .u64 x8]],.sli 164 false (.rows [.i .i64,.i .i64] x9 x10)]=>ob (qFE qD x0 x1 x2 x3 x4 x5 x6 x7 x8 x9 x10) fun z=>K (.exit 0) ([.s (.ptr 0 0 none 0),.s (.ptr 1 0 none 0)]) ([.cells 68 [.one [.i .u64 (z.1),.i .u64 (z.2.1)]],.cells 68 [.one [.i .u64 (z.2.2.1),.i .u64 (z.2.2.2)]]])
 | _,_=>none
def qnq:{R:Type}->Nat->List V->List Obj->(Ex->List V->List Obj->Option R)->Option R:=fun q vs objs K=>bif Nat.beq q 3 then qQy vs objs K else none
def qLj:Ctx:=mkC 26 ((qEK (qQs (qQt (qDU (qQu qD (qCa qL))))))) [(3,[0,1,4,5,10,11,12],[4,5])] qnq
theorem qay:CtxOK Tryz.prog qLj:=mkC_ok ((qFA _ (qam _ (qaq _ (qD5 _ (qnj qD _ (qCv _ qN)))))))
def qQx (f:Nat) (x0 x1:Int) (x2:Nat) (x3 x4:Int) (x5 x6:Int) (x7 x8:Int) (x9:Nat) (x10:LL):Option (Int×Int×Int×Int):=qi qLj 0 [0,1,4,5,10,11,12] [4,5] (qI Tryz.f150 3) f ([.s (.i .i8 x0),.s (.i .i64 x1),.s (.ptr 0 0 none 0),.s (.ptr 1 0 none 0),.s (.sl 2 0 x2 true),.s (.i .i64 x3),.s (.i .i64 x4)]) ([.cells 68 [.one [.i .u64 x5,.i .u64 x6]],.cells 68 [.one [.i .u64 x7,.i .u64 x8]],.sli 164 false (.rows [.i .i64,.i .i64] x9 x10)]) qQw
theorem qnp (f:Nat) (x0 x1:Int) (x2:Nat) (x3 x4:Int) (x5 x6:Int) (x7 x8:Int) (x9:Nat) (x10:LL):qQx (f+1) x0 x1 x2 x3 x4 x5 x6 x7 x8 x9 x10=qHm (qQx f) x0 x1 x2 x3 x4 x5 x6 x7 x8 x9 x10:=by kernel_rfl
theorem qa0:∀ f,qQx f=qFE f
 | 0=>rfl
 | f+1=>by funext x0 x1 x2 x3 x4 x5 x6 x7 x8 x9 x10;rw [qnp,qa0 f];rfl
theorem qns:qe Tryz.prog qLj 0 (qI Tryz.f150 3):=
 qj mixed qay (qR.of (l':=[]) (by kernel_rfl) trivial) (q:=3) (kin:=[0,1,4,5,10,11,12]) (kout:=[4,5]) (by kernel_rfl) (by kernel_rfl) fun vs objs K r h=>by
  replace h:qQy vs objs K=some r:=h
  unfold qQy at h
  split at h
  ·skip
   obtain ⟨t,h1,h2⟩:=qG h
   rw [<- qa0] at h1
   refine ⟨_,qQw,t,qD,h1,fun e vs' objs' hd=>?_⟩
   unfold qQw at hd;split at hd;(cases hd;exact h2);cases hd
  ·cases h
def qaz:V->List Obj->Option (Int×Int):=fun v objs=>match v,objs with
 | .agg [.one [.i .u64 y0,.i .u64 y1]],[]=>some (y0,y1)
 | _,_=>none
theorem qno (x0 x1:Int):fnE qLj Tryz.f150 ([.s (.i .i8 x0),.s (.i .i64 x1)]) ([]) qaz=qIy x0 x1:=by kernel_rfl
def qax:HA:=fun o vs objs K=>match vs,objs with
 | [.s (.i .i8 x0),.s (.i .i64 x1)],[]=>ob (qIy x0 x1) fun z=>K false (.agg [.one [.i .u64 (z.1),.i .u64 (z.2)]]) ([])
 | _,_=>o 150 vs objs K
def qa1 (o:Orc):Orc:=qM 150 (qax o) o
theorem qnr:OQ Tryz.prog qa1:=fun _ ho=>qQ ho fun vs objs K r h=>by
 unfold qax at h
 split at h
 ·skip
  obtain ⟨t,h1,h2⟩:=qG h
  refine qAc mixed qay (fn:=Tryz.f150) (b:=(Tryz.f150).body.getD .skip) (by kernel_rfl) (by kernel_rfl) (by kernel_rfl) ((qno _ _).trans h1) (m:=0) rfl (qR.of (l':=[qI Tryz.f150 3]) (by kernel_rfl) ⟨qns,trivial⟩) fun v objs' hd=>?_
  unfold qaz at hd;split at hd;(cases hd;exact h2);cases hd
 ·exact ho _ _ _ _ _ h
def qYW:Ctx:=mkC 24 (qL) [] qa
theorem qk9:CtxOK Tryz.prog qYW:=mkC_ok (qN)
def qYX:V->List Obj->Option (Nat×Nat×LL):=fun v objs=>match v,objs with
 | .s (.sl 0 0 y0 true),[.sli 164 false (.rows [.i .i64,.i .i64] y1 y2)]=>some (y0,y1,y2)
 | _,_=>none
theorem qk8 (x0:Int):fnE qYW Tryz.f146 ([.s (.i .i64 x0)]) ([]) qYX=qFo x0:=by kernel_rfl
def qYV:HA:=fun o vs objs K=>match vs,objs with
 | [.s (.i .i64 x0)],[]=>ob (qFo x0) fun z=>K false (.s (.sl 0 0 (z.1) true)) ([.sli 164 false (.rows [.i .i64,.i .i64] (z.2.1) (z.2.2))])
 | _,_=>o 146 vs objs K
def qPp (o:Orc):Orc:=qM 146 (qYV o) o
theorem qYY:OQ Tryz.prog qPp:=fun _ ho=>qQ ho fun vs objs K r h=>by
 unfold qYV at h
 split at h
 ·skip
  obtain ⟨t,h1,h2⟩:=qG h
  refine qd mixed qk9 ((qk8 _).trans h1) (by kernel_rfl) fun v objs' hd=>?_
  unfold qYX at hd;split at hd;(cases hd;exact h2);cases hd
 ·exact ho _ _ _ _ _ h
end
end Go.Kk.KkLN
