/- Printed by a tool of this project (KkGen): the program's functions come to the plain ones. -/
import Derived.Test.YtjckfjagajmekaaGreatDoorProg
import Derived.Test.YtjckfjagajmekaaGreatDoorKkB
import Derived.Test.YtjckfjagajmekaaGreatDoorKkPl
namespace Go.Kk.KkSR
noncomputable section
open Go.Proofs Go.Kk.Pl
set_option maxRecDepth 100000
set_option maxHeartbeats 4000000
def tab:Tab:=[(1,.sc (.f)),
 (2,.sc (.i .i64)),
 (3,.sc (.i .i64)),
 (4,.sc (.b)),
 (5,.sc (.i .u8)),
 (6,.sc (.i .u8)),
 (7,.st [.one [.i .i64,.i .i64,.b,.i .u8]] [(0,0,2),(0,1,3),(0,2,4),(0,3,6)]),
 (8,.st [.one [.i .i64,.i .i64,.b,.i .u8]] [(0,0,2),(0,1,3),(0,2,4),(0,3,6)]),
 (9,.sc (.str)),
 (10,.sc (.str)),
 (11,.sc (.str)),
 (12,.sc (.i .u64)),
 (13,.st [.one [.str,.i .u64]] [(0,0,9),(0,1,12)]),
 (14,.st [.one [.str,.i .u64]] [(0,0,9),(0,1,12)]),
 (15,.sc (.p)),
 (16,.sc (.p)),
 (17,.sc (.p)),
 (18,.st [.one [.p]] [(0,0,17)]),
 (19,.st [.one [.p]] [(0,0,17)]),
 (21,.sc (.i .i32)),
 (22,.sc (.sl 31)),
 (23,.sc (.i .i8)),
 (24,.sc (.i .i8)),
 (25,.ar 81 1 24 (.arr .i8 81)),
 (26,.ar 8 1 23 (.arr .i8 8)),
 (27,.ar 2 8 26 (.arr .i8 16)),
 (28,.st [.arr .i8 81,.arr .i8 16,.one [.i .i8]] [(0,0,25),(1,0,27),(2,0,23)]),
 (29,.st [.arr .i8 81,.arr .i8 16,.one [.i .i8]] [(0,0,25),(1,0,27),(2,0,23)]),
 (30,.st [.arr .i8 81,.arr .i8 16,.one [.i .i8],.one [.i .i64,.i .i64]] [(0,0,29),(3,0,3),(3,1,3)]),
 (31,.st [.arr .i8 81,.arr .i8 16,.one [.i .i8],.one [.i .i64,.i .i64]] [(0,0,29),(3,0,3),(3,1,3)]),
 (32,.sc (.f)),
 (33,.sc (.f)),
 (34,.sc (.p)),
 (35,.sc (.f)),
 (36,.sc (.sl 41)),
 (37,.st [.one [.i .i64,.i .i64,.sl 41,.i .i64,.b]] [(0,0,3),(0,1,3),(0,2,36),(0,3,3),(0,4,4)]),
 (38,.st [.one [.i .i64,.i .i64,.sl 41,.i .i64,.b]] [(0,0,3),(0,1,3),(0,2,36),(0,3,3),(0,4,4)]),
 (39,.sc (.f)),
 (40,.st [.one [.i .i64,.i .i64,.i .i64,.b]] [(0,0,3),(0,1,3),(0,2,3),(0,3,4)]),
 (41,.st [.one [.i .i64,.i .i64,.i .i64,.b]] [(0,0,3),(0,1,3),(0,2,3),(0,3,4)]),
 (42,.sc (.f)),
 (43,.sc (.f)),
 (44,.sc (.f)),
 (45,.sc (.i .i64)),
 (47,.sc (.f)),
 (48,.sc (.f)),
 (49,.sc (.f)),
 (50,.sc (.f)),
 (51,.sc (.p)),
 (52,.sc (.f)),
 (54,.sc (.f)),
 (55,.sc (.f)),
 (56,.sc (.p)),
 (57,.sc (.f)),
 (58,.sc (.p)),
 (59,.st [.one [.p,.p,.i .i64,.i .i64]] [(0,0,58),(0,1,56),(0,2,3),(0,3,3)]),
 (60,.st [.one [.p,.p,.i .i64,.i .i64]] [(0,0,58),(0,1,56),(0,2,3),(0,3,3)]),
 (61,.sc (.i .u64)),
 (62,.sc (.i .u64)),
 (63,.sc (.sl 125)),
 (64,.st [.one [.p,.i .u64,.sl 125]] [(0,0,51),(0,1,62),(0,2,63)]),
 (65,.st [.one [.p,.i .u64,.sl 125]] [(0,0,51),(0,1,62),(0,2,63)]),
 (67,.sc (.f)),
 (68,.sc (.f)),
 (70,.sc (.f)),
 (71,.st [.one [.i .u64,.i .u64]] [(0,0,61),(0,1,61)]),
 (72,.st [.one [.i .u64,.i .u64]] [(0,0,61),(0,1,61)]),
 (73,.sc (.m 3 72)),
 (74,.st [.one [.p,.i .i64,.i .i64,.i .u64,.i .u64,.m 3 72,.b]] [(0,0,51),(0,1,3),(0,2,3),(0,3,72),(0,5,73),(0,6,4)]),
 (75,.st [.one [.p,.i .i64,.i .i64,.i .u64,.i .u64,.m 3 72,.b]] [(0,0,51),(0,1,3),(0,2,3),(0,3,72),(0,5,73),(0,6,4)]),
 (76,.sc (.f)),
 (77,.sc (.f)),
 (78,.sc (.f)),
 (79,.sc (.f)),
 (80,.sc (.f)),
 (81,.ar 32 1 72 (.rows [.i .u64,.i .u64] 32)),
 (82,.ar 2 1 72 (.rows [.i .u64,.i .u64] 2)),
 (83,.st [.arr .i8 81,.arr .i8 16,.one [.i .i8],.rows [.i .u64,.i .u64] 32,.rows [.i .u64,.i .u64] 2] [(0,0,29),(3,0,81),(4,0,82)]),
 (84,.st [.arr .i8 81,.arr .i8 16,.one [.i .i8],.rows [.i .u64,.i .u64] 32,.rows [.i .u64,.i .u64] 2] [(0,0,29),(3,0,81),(4,0,82)]),
 (85,.sc (.f)),
 (86,.sc (.f)),
 (87,.sc (.f)),
 (88,.sc (.f)),
 (89,.ar 81 1 4 (.barr 81)),
 (90,.sc (.f)),
 (91,.sc (.f)),
 (92,.sc (.f)),
 (93,.st [.one [.i .i64,.i .i64,.i .i64,.i .i64,.i .i64,.i .i64,.b]] [(0,0,3),(0,1,3),(0,2,3),(0,3,41)]),
 (94,.st [.one [.i .i64,.i .i64,.i .i64,.i .i64,.i .i64,.i .i64,.b]] [(0,0,3),(0,1,3),(0,2,3),(0,3,41)]),
 (96,.sc (.f)),
 (97,.sc (.f)),
 (98,.sc (.f)),
 (99,.sc (.f)),
 (100,.sc (.f)),
 (101,.sc (.f)),
 (102,.sc (.sl 135)),
 (103,.st [.one [.sl 135,.i .i64]] [(0,0,102),(0,1,3)]),
 (104,.st [.one [.sl 135,.i .i64]] [(0,0,102),(0,1,3)]),
 (105,.sc (.f)),
 (106,.sc (.f)),
 (107,.sc (.f)),
 (108,.sc (.f)),
 (109,.sc (.f)),
 (110,.sc (.sl 3)),
 (111,.sc (.f)),
 (112,.sc (.f)),
 (113,.sc (.f)),
 (114,.sc (.f)),
 (116,.sc (.f)),
 (117,.sc (.f)),
 (118,.sc (.f)),
 (120,.sc (.f)),
 (121,.sc (.f)),
 (122,.sc (.f)),
 (123,.sc (.f)),
 (124,.st [.one [.i .i64,.i .i64,.i .i64,.b,.i .i8,.i .i8]] [(0,0,41),(0,4,24),(0,5,24)]),
 (125,.st [.one [.i .i64,.i .i64,.i .i64,.b,.i .i8,.i .i8]] [(0,0,41),(0,4,24),(0,5,24)]),
 (126,.sc (.f)),
 (127,.sc (.f)),
 (128,.sc (.f)),
 (129,.sc (.f)),
 (130,.sc (.f)),
 (131,.ar 2 1 3 (.arr .i64 2)),
 (132,.sc (.p)),
 (133,.sc (.f)),
 (134,.st [.one [.b],.arr .i8 81,.arr .i8 16,.one [.i .i8],.one [.i .i64,.i .i64,.i .i64,.i .i64,.i .i64,.i .i64,.b]] [(0,0,4),(1,0,29),(4,0,94)]),
 (135,.st [.one [.b],.arr .i8 81,.arr .i8 16,.one [.i .i8],.one [.i .i64,.i .i64,.i .i64,.i .i64,.i .i64,.i .i64,.b]] [(0,0,4),(1,0,29),(4,0,94)]),
 (136,.sc (.f)),
 (137,.sc (.f)),
 (138,.sc (.sl 141)),
 (139,.sc (.f)),
 (140,.st [.one [.i .i64,.i .i64]] [(0,0,3),(0,1,3)]),
 (141,.st [.one [.i .i64,.i .i64]] [(0,0,3),(0,1,3)]),
 (142,.sc (.f)),
 (143,.sc (.f)),
 (144,.sc (.f)),
 (145,.sc (.f)),
 (146,.sc (.f)),
 (147,.sc (.f)),
 (148,.sc (.f)),
 (149,.sc (.f)),
 (150,.sc (.i .u64)),
 (151,.ar 64 1 5 (.arr .u8 64)),
 (152,.sc (.f)),
 (153,.st [.one [.p,.p,.p,.str]] [(0,0,17),(0,1,17),(0,2,17),(0,3,9)]),
 (154,.st [.one [.p,.p,.p,.str]] [(0,0,17),(0,1,17),(0,2,17),(0,3,9)]),
 (158,.sc (.i .u32)),
 (159,.sc (.i .u8)),
 (160,.sc (.i .u8)),
 (161,.sc (.f)),
 (162,.sc (.p)),
 (163,.sc (.i .i32)),
 (164,.sc (.i .i32)),
 (165,.st [.one [.i .u64,.i .u64,.i .u32,.i .u8,.i .u8,.i .u8,.i .u8,.f,.p,.i .i32,.i .i32]] [(0,0,12),(0,1,12),(0,2,158),(0,3,159),(0,4,5),(0,5,5),(0,6,160),(0,7,161),(0,8,162),(0,9,163),(0,10,164)]),
 (166,.st [.one [.i .u64,.i .u64,.i .u32,.i .u8,.i .u8,.i .u8,.i .u8,.f,.p,.i .i32,.i .i32]] [(0,0,12),(0,1,12),(0,2,158),(0,3,159),(0,4,5),(0,5,5),(0,6,160),(0,7,161),(0,8,162),(0,9,163),(0,10,164)])]
def eqs:List TypeId:=[3,25,26,27,28,29,40,41,71,72,131,140,141]
def bytes:List (TypeId×Nat):=[(31,120),(41,32),(125,40),(135,160),(3,8),(141,16)]
theorem mixed:Tryz.prog.follows .mixedOrders=true:=by kernel_rfl
theorem tab_ok:∀ t L,Tab.get tab t=some L->LayOK Tryz.prog tab t L:=qbe (P:=Tryz.prog) (tab:=tab) (l:=tab) (by kernel_rfl)
theorem eqs_ok:∀ t L,qEM t eqs=true->Tab.get tab t=some L->∃ f ck,f<=10000 /\ qBA Tryz.prog f t=some ck /\ qBW L.segTs=some ck /\ Tryz.prog.eqGuardType Tryz.prog.depth t=false:=qT8 (P:=Tryz.prog) (tab:=tab) (l:=eqs) (by kernel_rfl)
theorem bytes_ok:∀ t n,byN t bytes=some n->∃ i,Tryz.prog.info? t=some i /\ i.bytes=n:=qS9 (P:=Tryz.prog) (l:=bytes) (by kernel_rfl)
def mkC (nt:Nat) (orc:Orc) (keeps:List (Nat×List Nat×List Nat)) (lp:{R:Type}->Nat->List V->List Obj->(Ex->List V->List Obj->Option R)->Option R):Ctx:={tab:=tab,eqs:=eqs,bytes:=bytes,nt:=nt,orc:=orc,keeps:=keeps,lp:=lp}
theorem exts_ok:qRy Tryz.prog:=fun e h=>by cases h
theorem mkC_ok {nt:Nat} {orc:Orc} {keeps:List (Nat×List Nat×List Nat)} {lp:{R:Type}->Nat->List V->List Obj->(Ex->List V->List Obj->Option R)->Option R} (h:qCM Tryz.prog orc):CtxOK Tryz.prog (mkC nt orc keeps lp):=⟨tab_ok,h,eqs_ok,bytes_ok,fun _ _ _=>rfl,exts_ok⟩
def kL0:List CK:=List.replicate 1 (.b)++List.replicate 98 (.i .i8)++List.replicate 6 (.i .i64)++List.replicate 1 (.b)
def kL1:List CK:=List.replicate 98 (.i .i8)++List.replicate 2 (.i .i64)
def table_Newc:Ctx:=mkC 14 (qO) [] qW
theorem table_Newc_ok:CtxOK Tryz.prog table_Newc:=mkC_ok (qP)
def table_Newd:V->List Obj->Option ((Int)⊕(Int×Nat×Int×Nat×LL)):=fun v objs=>match v,objs with
 | .tup [W.s .nilp,W.s (.i .i64 y0)],[]=>some (.inl (y0))
 | .tup [W.s (.ptr 0 0 none 0),W.s (.i .i64 y0)],[.cells 104 [.one [.sl 1 0 y1 true,.i .i64 y2]],.sli 135 false (.rows kk0 y3 y4)]=>bif decide (kk0=kL0) then some (.inr (y0,y1,y2,y3,y4)) else none
 | _,_=>none
theorem table_New_eq (x0:Int):fnE table_Newc Tryz.f25 ([.s (.i .i64 x0)]) ([]) table_Newd=qJa x0:=by kernel_rfl
def table_Newa:HA:=fun o vs objs K=>match vs,objs with
 | [.s (.i .i64 x0)],[]=>ob (qJa x0) fun t0=>sw t0 (fun y0=>K false (.tup [W.s .nilp,W.s (.i .i64 y0)]) ([])) (fun z=>K false (.tup [W.s (.ptr 0 0 none 0),W.s (.i .i64 (z.1))]) ([.cells 104 [.one [.sl 1 0 (z.2.1) true,.i .i64 (z.2.2.1)]],.sli 135 false (.rows kL0 (z.2.2.2.1) (z.2.2.2.2))]))
 | _,_=>o 25 vs objs K
def table_Newo (o:Orc):Orc:=qR 25 (table_Newa o) o
theorem table_Newo_ok:OQ Tryz.prog table_Newo:=fun _ ho=>qS ho fun vs objs K r h=>by
 unfold table_Newa at h
 split at h
 ·skip
  obtain⟨t,h1,h2⟩:=qG h
  refine qa mixed table_Newc_ok ((table_New_eq _).trans h1) (by kernel_rfl) fun v objs' hd=>?_
  unfold table_Newd at hd
  split at hd
  ·skip
   cases hd
   exact h2
  ·skip
   have g:=(qU hd).1
   replace hd:=(qU hd).2
   obtain rfl:=of_decide_eq_true g
   cases hd
   exact h2
  ·cases hd
 ·exact ho _ _ _ _ _ h
def qZQ:Ctx:=mkC 17 ((table_Newo qO)) [(2097152,[60,0,1],[])] qW
theorem qmW:CtxOK Tryz.prog qZQ:=mkC_ok ((table_Newo_ok _ qP))
def qZR:V->List Obj->Option ((Int)⊕((Int×Int×Int)⊕(Int×Int×Int×Nat×Int×Nat×LL))):=fun v objs=>match v,objs with
 | .tup [W.s .nilp,W.s (.i .i64 y0)],[]=>some (.inl (y0))
 | .tup [W.s (.ptr 0 0 none 0),W.s (.i .i64 y0)],[.cells 60 [.one [.nilp,.bad,.i .i64 y1,.i .i64 y2]]]=>some (.inr (.inl (y0,y1,y2)))
 | .tup [W.s (.ptr 0 0 none 0),W.s (.i .i64 y0)],[.cells 60 [.one [.ptr 1 0 none 0,.bad,.i .i64 y1,.i .i64 y2]],.cells 104 [.one [.sl 2 0 y3 true,.i .i64 y4]],.sli 135 false (.rows kk0 y5 y6)]=>bif decide (kk0=kL0) then some (.inr (.inr (y0,y1,y2,y3,y4,y5,y6))) else none
 | _,_=>none
theorem qmV (x0:Int):fnE qZQ Tryz.f12 ([.s (.i .i64 x0)]) ([]) qZR=qGF x0:=by kernel_rfl
def qZP:HA:=fun o vs objs K=>match vs,objs with
 | [.s (.i .i64 x0)],[]=>ob (qGF x0) fun t0=>sw t0 (fun y0=>K false (.tup [W.s .nilp,W.s (.i .i64 y0)]) ([])) (fun t1=>sw t1 (fun z=>K false (.tup [W.s (.ptr 0 0 none 0),W.s (.i .i64 (z.1))]) ([.cells 60 [.one [.nilp,.bad,.i .i64 (z.2.1),.i .i64 (z.2.2)]]])) (fun z=>K false (.tup [W.s (.ptr 0 0 none 0),W.s (.i .i64 (z.1))]) ([.cells 60 [.one [.ptr 1 0 none 0,.bad,.i .i64 (z.2.1),.i .i64 (z.2.2.1)]],.cells 104 [.one [.sl 2 0 (z.2.2.2.1) true,.i .i64 (z.2.2.2.2.1)]],.sli 135 false (.rows kL0 (z.2.2.2.2.2.1) (z.2.2.2.2.2.2))])))
 | _,_=>o 12 vs objs K
def qQR (o:Orc):Orc:=qR 12 (qZP o) o
theorem qZS:OQ Tryz.prog qQR:=fun _ ho=>qS ho fun vs objs K r h=>by
 unfold qZP at h
 split at h
 ·skip
  obtain⟨t,h1,h2⟩:=qG h
  refine qa mixed qmW ((qmV _).trans h1) (by kernel_rfl) fun v objs' hd=>?_
  unfold qZR at hd
  split at hd
  ·skip
   cases hd
   exact h2
  ·skip
   cases hd
   exact h2
  ·skip
   have g:=(qU hd).1
   replace hd:=(qU hd).2
   obtain rfl:=of_decide_eq_true g
   cases hd
   exact h2
  ·cases hd
 ·exact ho _ _ _ _ _ h
def qao:Ctx:=mkC 21 (qO) [] qW
theorem qng:CtxOK Tryz.prog qao:=mkC_ok (qP)
def qap:V->List Obj->Option (Int×Int):=fun v objs=>match v,objs with
 | .agg [.one [.i .u64 y0,.i .u64 y1]],[]=>some (y0,y1)
 | _,_=>none
theorem qnf (x0:Int):fnE qao Tryz.f111 ([.s (.i .i64 x0)]) ([]) qap=qDs x0:=by kernel_rfl
def qan:HA:=fun o vs objs K=>match vs,objs with
 | [.s (.i .i64 x0)],[]=>ob (qDs x0) fun z=>K false (.agg [.one [.i .u64 (z.1),.i .u64 (z.2)]]) ([])
 | _,_=>o 111 vs objs K
def qLv (o:Orc):Orc:=qR 111 (qan o) o
theorem qQ2:OQ Tryz.prog qLv:=fun _ ho=>qS ho fun vs objs K r h=>by
 unfold qan at h
 split at h
 ·skip
  obtain⟨t,h1,h2⟩:=qG h
  refine qa mixed qng ((qnf _).trans h1) (by kernel_rfl) fun v objs' hd=>?_
  unfold qap at hd;split at hd;(cases hd;exact h2);cases hd
 ·exact ho _ _ _ _ _ h
def qaI:Ctx:=mkC 16 (qO) [] qW
theorem qnF:CtxOK Tryz.prog qaI:=mkC_ok (qP)
def qaJ:V->List Obj->Option (Int×Int):=fun v objs=>match v,objs with
 | .agg [.one [.i .u64 y0,.i .u64 y1]],[]=>some (y0,y1)
 | _,_=>none
theorem qnE (x0 x1:Int) (x2 x3:Int):fnE qaI Tryz.f69 ([.agg [.one [.i .u64 x0,.i .u64 x1]],.agg [.one [.i .u64 x2,.i .u64 x3]]]) ([]) qaJ=qEW x0 x1 x2 x3:=by kernel_rfl
def qaH:HA:=fun o vs objs K=>match vs,objs with
 | [.agg [.one [.i .u64 x0,.i .u64 x1]],.agg [.one [.i .u64 x2,.i .u64 x3]]],[]=>ob (qEW x0 x1 x2 x3) fun z=>K false (.agg [.one [.i .u64 (z.1),.i .u64 (z.2)]]) ([])
 | _,_=>o 69 vs objs K
def qLo (o:Orc):Orc:=qR 69 (qaH o) o
theorem qQp:OQ Tryz.prog qLo:=fun _ ho=>qS ho fun vs objs K r h=>by
 unfold qaH at h
 split at h
 ·skip
  obtain⟨t,h1,h2⟩:=qG h
  refine qa mixed qnF ((qnE _ _ _ _).trans h1) (by kernel_rfl) fun v objs' hd=>?_
  unfold qaJ at hd;split at hd;(cases hd;exact h2);cases hd
 ·exact ho _ _ _ _ _ h
def qal:Ctx:=mkC 9 ((qLo (qLv qO))) [] qW
theorem qnd:CtxOK Tryz.prog qal:=mkC_ok ((qQp _ (qQ2 _ qP)))
def qam:V->List Obj->Option (Int×Int):=fun v objs=>match v,objs with
 | .agg [.one [.i .u64 y0,.i .u64 y1]],[]=>some (y0,y1)
 | _,_=>none
theorem qnc (x0 x1 x2:Int):fnE qal Tryz.f73 ([.agg [.one [.i .u64 x0,.i .u64 x1]],.s (.i .i64 x2)]) ([]) qam=qC8 x0 x1 x2:=by kernel_rfl
def qak:HA:=fun o vs objs K=>match vs,objs with
 | [.agg [.one [.i .u64 x0,.i .u64 x1]],.s (.i .i64 x2)],[]=>ob (qC8 x0 x1 x2) fun z=>K false (.agg [.one [.i .u64 (z.1),.i .u64 (z.2)]]) ([])
 | _,_=>o 73 vs objs K
def qJU (o:Orc):Orc:=qR 73 (qak o) o
theorem qLu:OQ Tryz.prog qJU:=fun _ ho=>qS ho fun vs objs K r h=>by
 unfold qak at h
 split at h
 ·skip
  obtain⟨t,h1,h2⟩:=qG h
  refine qa mixed qnd ((qnc _ _ _).trans h1) (by kernel_rfl) fun v objs' hd=>?_
  unfold qam at hd;split at hd;(cases hd;exact h2);cases hd
 ·exact ho _ _ _ _ _ h
def qWr:Ctx:=mkC 28 (qO) [] qW
theorem qji:CtxOK Tryz.prog qWr:=mkC_ok (qP)
def qWs:V->List Obj->Option (Int):=fun v objs=>match v,objs with
 | .s (.i .i64 y0),[]=>some (y0)
 | _,_=>none
theorem qjh (x0:Int):fnE qWr Tryz.f81 ([.s (.i .i8 x0)]) ([]) qWs=qAA x0:=by kernel_rfl
def qWq:HA:=fun o vs objs K=>match vs,objs with
 | [.s (.i .i8 x0)],[]=>ob (qAA x0) fun y0=>K false (.s (.i .i64 y0)) ([])
 | _,_=>o 81 vs objs K
def qCs (o:Orc):Orc:=qR 81 (qWq o) o
theorem qC3:OQ Tryz.prog qCs:=fun _ ho=>qS ho fun vs objs K r h=>by
 unfold qWq at h
 split at h
 ·skip
  obtain⟨t,h1,h2⟩:=qG h
  refine qa mixed qji ((qjh _).trans h1) (by kernel_rfl) fun v objs' hd=>?_
  unfold qWs at hd;split at hd;(cases hd;exact h2);cases hd
 ·exact ho _ _ _ _ _ h
def qW2:Ctx:=mkC 10 ((qCs qO)) [] qW
theorem qjp:CtxOK Tryz.prog qW2:=mkC_ok ((qC3 _ qP))
def qW3:V->List Obj->Option (Int):=fun v objs=>match v,objs with
 | .s (.i .i64 y0),[]=>some (y0)
 | _,_=>none
theorem qjo (x0:Int):fnE qW2 Tryz.f80 ([.s (.i .i8 x0)]) ([]) qW3=qAO x0:=by kernel_rfl
def qW1:HA:=fun o vs objs K=>match vs,objs with
 | [.s (.i .i8 x0)],[]=>ob (qAO x0) fun y0=>K false (.s (.i .i64 y0)) ([])
 | _,_=>o 80 vs objs K
def qFA (o:Orc):Orc:=qR 80 (qW1 o) o
theorem qF4:OQ Tryz.prog qFA:=fun _ ho=>qS ho fun vs objs K r h=>by
 unfold qW1 at h
 split at h
 ·skip
  obtain⟨t,h1,h2⟩:=qG h
  refine qa mixed qjp ((qjo _).trans h1) (by kernel_rfl) fun v objs' hd=>?_
  unfold qW3 at hd;split at hd;(cases hd;exact h2);cases hd
 ·exact ho _ _ _ _ _ h
def qaU:Ctx:=mkC 16 (qO) [] qW
theorem qnP:CtxOK Tryz.prog qaU:=mkC_ok (qP)
def qaV:V->List Obj->Option (Int×Int):=fun v objs=>match v,objs with
 | .agg [.one [.i .u64 y0,.i .u64 y1]],[]=>some (y0,y1)
 | _,_=>none
theorem qnO (x0 x1:Int) (x2 x3:Int):fnE qaU Tryz.f62 ([.agg [.one [.i .u64 x0,.i .u64 x1]],.agg [.one [.i .u64 x2,.i .u64 x3]]]) ([]) qaV=qC7 x0 x1 x2 x3:=by kernel_rfl
def qaT:HA:=fun o vs objs K=>match vs,objs with
 | [.agg [.one [.i .u64 x0,.i .u64 x1]],.agg [.one [.i .u64 x2,.i .u64 x3]]],[]=>ob (qC7 x0 x1 x2 x3) fun z=>K false (.agg [.one [.i .u64 (z.1),.i .u64 (z.2)]]) ([])
 | _,_=>o 62 vs objs K
def qGM (o:Orc):Orc:=qR 62 (qaT o) o
theorem qH3:OQ Tryz.prog qGM:=fun _ ho=>qS ho fun vs objs K r h=>by
 unfold qaT at h
 split at h
 ·skip
  obtain⟨t,h1,h2⟩:=qG h
  refine qa mixed qnP ((qnO _ _ _ _).trans h1) (by kernel_rfl) fun v objs' hd=>?_
  unfold qaV at hd;split at hd;(cases hd;exact h2);cases hd
 ·exact ho _ _ _ _ _ h
def qai:Ctx:=mkC 9 ((qGM (qLv qO))) [] qW
theorem qnb:CtxOK Tryz.prog qai:=mkC_ok ((qH3 _ (qQ2 _ qP)))
def qaj:V->List Obj->Option (Int×Int):=fun v objs=>match v,objs with
 | .agg [.one [.i .u64 y0,.i .u64 y1]],[]=>some (y0,y1)
 | _,_=>none
theorem qna (x0 x1 x2:Int):fnE qai Tryz.f82 ([.agg [.one [.i .u64 x0,.i .u64 x1]],.s (.i .i64 x2)]) ([]) qaj=qAx x0 x1 x2:=by kernel_rfl
def qah:HA:=fun o vs objs K=>match vs,objs with
 | [.agg [.one [.i .u64 x0,.i .u64 x1]],.s (.i .i64 x2)],[]=>ob (qAx x0 x1 x2) fun z=>K false (.agg [.one [.i .u64 (z.1),.i .u64 (z.2)]]) ([])
 | _,_=>o 82 vs objs K
def qEZ (o:Orc):Orc:=qR 82 (qah o) o
theorem qFR:OQ Tryz.prog qEZ:=fun _ ho=>qS ho fun vs objs K r h=>by
 unfold qah at h
 split at h
 ·skip
  obtain⟨t,h1,h2⟩:=qG h
  refine qa mixed qnb ((qna _ _ _).trans h1) (by kernel_rfl) fun v objs' hd=>?_
  unfold qaj at hd;split at hd;(cases hd;exact h2);cases hd
 ·exact ho _ _ _ _ _ h
def qS1:Ctx:=mkC 90 ((qEZ (qCs (qFA (qJU qO))))) [] qW
theorem qeB:CtxOK Tryz.prog qS1:=mkC_ok ((qFR _ (qC3 _ (qF4 _ (qLu _ qP)))))
def qS2:V->List Obj->Option (LI×LI×Int×LL×LL):=fun v objs=>match v,objs with
 | .tup [],[.cells 84 [.arr .i8 81 y0,.arr .i8 16 y1,.one [.i .i8 y2],.rows [.i .u64,.i .u64] 32 y3,.rows [.i .u64,.i .u64] 2 y4]]=>some (y0,y1,y2,y3,y4)
 | _,_=>none
theorem qeA (x0 x1:Int) (x2 x3:LI) (x4:Int) (x5 x6:LL):fnE qS1 Tryz.f33 ([.s (.ptr 0 0 none 0),.s (.i .i64 x0),.s (.i .i8 x1)]) ([.cells 84 [.arr .i8 81 x2,.arr .i8 16 x3,.one [.i .i8 x4],.rows [.i .u64,.i .u64] 32 x5,.rows [.i .u64,.i .u64] 2 x6]]) qS2=qD7 x0 x1 x2 x3 x4 x5 x6:=by kernel_rfl
def qS0:HA:=fun o vs objs K=>match vs,objs with
 | [.s (.ptr 0 0 none 0),.s (.i .i64 x0),.s (.i .i8 x1)],[.cells 84 [.arr .i8 81 x2,.arr .i8 16 x3,.one [.i .i8 x4],.rows [.i .u64,.i .u64] 32 x5,.rows [.i .u64,.i .u64] 2 x6]]=>ob (qD7 x0 x1 x2 x3 x4 x5 x6) fun z=>K false (.tup []) ([.cells 84 [.arr .i8 81 (z.1),.arr .i8 16 (z.2.1),.one [.i .i8 (z.2.2.1)],.rows [.i .u64,.i .u64] 32 (z.2.2.2.1),.rows [.i .u64,.i .u64] 2 (z.2.2.2.2)]])
 | _,_=>o 33 vs objs K
def qJz (o:Orc):Orc:=qR 33 (qS0 o) o
theorem qMy:OQ Tryz.prog qJz:=fun _ ho=>qS ho fun vs objs K r h=>by
 unfold qS0 at h
 split at h
 ·skip
  obtain⟨t,h1,h2⟩:=qG h
  refine qa mixed qeB ((qeA _ _ _ _ _ _ _).trans h1) (by kernel_rfl) fun v objs' hd=>?_
  unfold qS2 at hd;split at hd;(cases hd;exact h2);cases hd
 ·exact ho _ _ _ _ _ h
def qMt:Ex->List V->List Obj->Option (LI×LI×Int×LL×LL):=fun e vs objs=>match e,vs,objs with
 | .exit 0,[.s (.ptr 0 0 none 0)],[.cells 84 [.arr .i8 81 y0,.arr .i8 16 y1,.one [.i .i8 y2],.rows [.i .u64,.i .u64] 32 y3,.rows [.i .u64,.i .u64] 2 y4]]=>some (y0,y1,y2,y3,y4)
 | _,_,_=>none
def qMw:HL:=fun vs objs K=>match vs,objs with
 | [.s (.ptr 0 0 none 0),.agg [.arr .i8 81 x0],.s (.i .i64 x1)],[.cells 84 [.arr .i8 81 x2,.arr .i8 16 x3,.one [.i .i8 x4],.rows [.i .u64,.i .u64] 32 x5,.rows [.i .u64,.i .u64] 2 x6]]=>ob (qB5 qC x0 x1 x2 x3 x4 x5 x6) fun z=>K (.exit 0) ([.s (.ptr 0 0 none 0)]) ([.cells 84 [.arr .i8 81 (z.1),.arr .i8 16 (z.2.1),.one [.i .i8 (z.2.2.1)],.rows [.i .u64,.i .u64] 32 (z.2.2.2.1),.rows [.i .u64,.i .u64] 2 (z.2.2.2.2)]])
 | _,_=>none
def qd4:{R:Type}->Nat->List V->List Obj->(Ex->List V->List Obj->Option R)->Option R:=fun q vs objs K=>bif Nat.beq q 4 then qMw vs objs K else none
def qJy:Ctx:=mkC 32 ((qJz qO)) [(4,[3,21,22],[3])] qd4
theorem qSp:CtxOK Tryz.prog qJy:=mkC_ok ((qMy _ qP))
def qMu (f:Nat) (x0:LI) (x1:Int) (x2 x3:LI) (x4:Int) (x5 x6:LL):Option (LI×LI×Int×LL×LL):=qh qJy 0 [3,21,22] [3] (qI Tryz.f15 4) f ([.s (.ptr 0 0 none 0),.agg [.arr .i8 81 x0],.s (.i .i64 x1)]) ([.cells 84 [.arr .i8 81 x2,.arr .i8 16 x3,.one [.i .i8 x4],.rows [.i .u64,.i .u64] 32 x5,.rows [.i .u64,.i .u64] 2 x6]]) qMt
theorem qd3 (f:Nat) (x0:LI) (x1:Int) (x2 x3:LI) (x4:Int) (x5 x6:LL):qMu (f+1) x0 x1 x2 x3 x4 x5 x6=qDJ (qMu f) x0 x1 x2 x3 x4 x5 x6:=by kernel_rfl
theorem qSr:∀ f,qMu f=qB5 f
 | 0=>rfl
 | f+1=>by funext x0 x1 x2 x3 x4 x5 x6;rw[qd3,qSr f];rfl
theorem qd5:qd Tryz.prog qJy 0 (qI Tryz.f15 4):=
 ql mixed qSp (qT.of (l':=[]) (by kernel_rfl) trivial) (q:=4) (kin:=[3,21,22]) (kout:=[3]) (by kernel_rfl) (by kernel_rfl) fun vs objs K r h=>by
  replace h:qMw vs objs K=some r:=h
  unfold qMw at h
  split at h
  ·skip
   obtain⟨t,h1,h2⟩:=qG h
   rw[<- qSr] at h1
   refine⟨_,qMt,t,qC,h1,fun e vs' objs' hd=>?_⟩
   unfold qMt at hd;split at hd;(cases hd;exact h2);cases hd
  ·cases h
def qSq:V->List Obj->Option (LI×LI×Int×LL×LL):=fun v objs=>match v,objs with
 | .s (.ptr 0 0 none 0),[.cells 84 [.arr .i8 81 y0,.arr .i8 16 y1,.one [.i .i8 y2],.rows [.i .u64,.i .u64] 32 y3,.rows [.i .u64,.i .u64] 2 y4]]=>some (y0,y1,y2,y3,y4)
 | _,_=>none
theorem qd2 (x0 x1:LI) (x2:Int):fnE qJy Tryz.f15 ([.agg [.arr .i8 81 x0,.arr .i8 16 x1,.one [.i .i8 x2]]]) ([]) qSq=qBr x0 x1 x2:=by kernel_rfl
def qSo:HA:=fun o vs objs K=>match vs,objs with
 | [.agg [.arr .i8 81 x0,.arr .i8 16 x1,.one [.i .i8 x2]]],[]=>ob (qBr x0 x1 x2) fun z=>K false (.s (.ptr 0 0 none 0)) ([.cells 84 [.arr .i8 81 (z.1),.arr .i8 16 (z.2.1),.one [.i .i8 (z.2.2.1)],.rows [.i .u64,.i .u64] 32 (z.2.2.2.1),.rows [.i .u64,.i .u64] 2 (z.2.2.2.2)]])
 | _,_=>o 15 vs objs K
def qMv (o:Orc):Orc:=qR 15 (qSo o) o
theorem qSs:OQ Tryz.prog qMv:=fun _ ho=>qS ho fun vs objs K r h=>by
 unfold qSo at h
 split at h
 ·skip
  obtain⟨t,h1,h2⟩:=qG h
  refine qAY mixed qSp (fn:=Tryz.f15) (b:=(Tryz.f15).body.getD .skip) (by kernel_rfl) (by kernel_rfl) (by kernel_rfl) ((qd2 _ _ _).trans h1) (m:=0) rfl (qT.of (l':=[qI Tryz.f15 4]) (by kernel_rfl) ⟨qd5,trivial⟩) fun v objs' hd=>?_
  unfold qSq at hd;split at hd;(cases hd;exact h2);cases hd
 ·exact ho _ _ _ _ _ h
def qVR:Ctx:=mkC 19 (qO) [] qW
theorem qg8:CtxOK Tryz.prog qVR:=mkC_ok (qP)
def qVS:V->List Obj->Option (Int):=fun v objs=>match v,objs with
 | .s (.i .u64 y0),[]=>some (y0)
 | _,_=>none
theorem qg7 (x0:Int):fnE qVR Tryz.f118 ([.s (.i .u64 x0)]) ([]) qVS=qDX x0:=by kernel_rfl
def qVQ:HA:=fun o vs objs K=>match vs,objs with
 | [.s (.i .u64 x0)],[]=>ob (qDX x0) fun y0=>K false (.s (.i .u64 y0)) ([])
 | _,_=>o 118 vs objs K
def qKX (o:Orc):Orc:=qR 118 (qVQ o) o
theorem qN7:OQ Tryz.prog qKX:=fun _ ho=>qS ho fun vs objs K r h=>by
 unfold qVQ at h
 split at h
 ·skip
  obtain⟨t,h1,h2⟩:=qG h
  refine qa mixed qg8 ((qg7 _).trans h1) (by kernel_rfl) fun v objs' hd=>?_
  unfold qVS at hd;split at hd;(cases hd;exact h2);cases hd
 ·exact ho _ _ _ _ _ h
def qVG:Ctx:=mkC 23 ((qKX (qCs qO))) [] qW
theorem qg4:CtxOK Tryz.prog qVG:=mkC_ok ((qN7 _ (qC3 _ qP)))
def qVH:V->List Obj->Option (Int):=fun v objs=>match v,objs with
 | .s (.i .u64 y0),[]=>some (y0)
 | _,_=>none
theorem qg3 (x0 x1:Int):fnE qVG Tryz.f93 ([.s (.i .i64 x0),.s (.i .i8 x1)]) ([]) qVH=qCA x0 x1:=by kernel_rfl
def qVF:HA:=fun o vs objs K=>match vs,objs with
 | [.s (.i .i64 x0),.s (.i .i8 x1)],[]=>ob (qCA x0 x1) fun y0=>K false (.s (.i .u64 y0)) ([])
 | _,_=>o 93 vs objs K
def qN5 (o:Orc):Orc:=qR 93 (qVF o) o
theorem qVI:OQ Tryz.prog qN5:=fun _ ho=>qS ho fun vs objs K r h=>by
 unfold qVF at h
 split at h
 ·skip
  obtain⟨t,h1,h2⟩:=qG h
  refine qa mixed qg4 ((qg3 _ _).trans h1) (by kernel_rfl) fun v objs' hd=>?_
  unfold qVH at hd;split at hd;(cases hd;exact h2);cases hd
 ·exact ho _ _ _ _ _ h
def qU6:Ctx:=mkC 41 ((qKX qO)) [] qW
theorem qgu:CtxOK Tryz.prog qU6:=mkC_ok ((qN7 _ qP))
def qU7:V->List Obj->Option (Int):=fun v objs=>match v,objs with
 | .s (.i .u64 y0),[]=>some (y0)
 | _,_=>none
theorem qgt (x0 x1 x2:Int):fnE qU6 Tryz.f94 ([.s (.i .i64 x0),.s (.i .i64 x1),.s (.i .i64 x2)]) ([]) qU7=qCo x0 x1 x2:=by kernel_rfl
def qU5:HA:=fun o vs objs K=>match vs,objs with
 | [.s (.i .i64 x0),.s (.i .i64 x1),.s (.i .i64 x2)],[]=>ob (qCo x0 x1 x2) fun y0=>K false (.s (.i .u64 y0)) ([])
 | _,_=>o 94 vs objs K
def qNu (o:Orc):Orc:=qR 94 (qU5 o) o
theorem qU8:OQ Tryz.prog qNu:=fun _ ho=>qS ho fun vs objs K r h=>by
 unfold qU5 at h
 split at h
 ·skip
  obtain⟨t,h1,h2⟩:=qG h
  refine qa mixed qgu ((qgt _ _ _).trans h1) (by kernel_rfl) fun v objs' hd=>?_
  unfold qU7 at hd;split at hd;(cases hd;exact h2);cases hd
 ·exact ho _ _ _ _ _ h
def qVK:Ctx:=mkC 2 ((qKX qO)) [] qW
theorem qg6:CtxOK Tryz.prog qVK:=mkC_ok ((qN7 _ qP))
def qVL:V->List Obj->Option (Int):=fun v objs=>match v,objs with
 | .s (.i .u64 y0),[]=>some (y0)
 | _,_=>none
theorem qg5:fnE qVK Tryz.f95 ([]) ([]) qVL=qCq  := by kernel_rfl
def qVJ:HA:=fun o vs objs K=>match vs,objs with
 | [],[]=>ob (qCq ) fun y0=>K false (.s (.i .u64 y0)) ([])
 | _,_=>o 95 vs objs K
def qN6 (o:Orc):Orc:=qR 95 (qVJ o) o
theorem qVM:OQ Tryz.prog qN6:=fun _ ho=>qS ho fun vs objs K r h=>by
 unfold qVJ at h
 split at h
 ·skip
  obtain⟨t,h1,h2⟩:=qG h
  refine qa mixed qg6 ((qg5).trans h1) (by kernel_rfl) fun v objs' hd=>?_
  unfold qVL at hd;split at hd;(cases hd;exact h2);cases hd
 ·exact ho _ _ _ _ _ h
def qNx:Ex->List V->List Obj->Option (Int×LI×LI×Int):=fun e vs objs=>match e,vs,objs with
 | .exit 0,[.s (.ptr 0 0 none 0),.s (.i .u64 y0)],[.cells 29 [.arr .i8 81 y1,.arr .i8 16 y2,.one [.i .i8 y3]]]=>some (y0,y1,y2,y3)
 | _,_,_=>none
def qNv:Ex->List V->List Obj->Option (Int×LI×Int×LI×LI×Int):=fun e vs objs=>match e,vs,objs with
 | .exit 4,[.s (.ptr 0 0 none 0),.s (.i .u64 y0),.agg [.arr .i8 16 y1],.s (.i .i64 y2)],[.cells 29 [.arr .i8 81 y3,.arr .i8 16 y4,.one [.i .i8 y5]]]=>some (y0,y1,y2,y3,y4,y5)
 | _,_,_=>none
def qNz:Ex->List V->List Obj->Option (Int×LI×LI×Int):=fun e vs objs=>match e,vs,objs with
 | .exit 2,[.s (.ptr 0 0 none 0),.s (.i .u64 y0)],[.cells 29 [.arr .i8 81 y1,.arr .i8 16 y2,.one [.i .i8 y3]]]=>some (y0,y1,y2,y3)
 | _,_,_=>none
def qN3:HL:=fun vs objs K=>match vs,objs with
 | [.s (.ptr 0 0 none 0),.s (.i .u64 x0),.agg [.arr .i8 81 x1],.s (.i .i64 x2)],[.cells 29 [.arr .i8 81 x3,.arr .i8 16 x4,.one [.i .i8 x5]]]=>ob (qCR qC x0 x1 x2 x3 x4 x5) fun z=>K (.exit 0) ([.s (.ptr 0 0 none 0),.s (.i .u64 (z.1))]) ([.cells 29 [.arr .i8 81 (z.2.1),.arr .i8 16 (z.2.2.1),.one [.i .i8 (z.2.2.2)]]])
 | _,_=>none
def qN2:HL:=fun vs objs K=>match vs,objs with
 | [.s (.ptr 0 0 none 0),.s (.i .u64 x0),.s (.i .i64 x1),.agg [.arr .i8 16 x2],.s (.i .i64 x3),.agg [.arr .i8 8 x4],.s (.i .i64 x5)],[.cells 29 [.arr .i8 81 x6,.arr .i8 16 x7,.one [.i .i8 x8]]]=>ob (qCp qC x0 x1 x2 x3 x4 x5 x6 x7 x8) fun z=>K (.exit 4) ([.s (.ptr 0 0 none 0),.s (.i .u64 (z.1)),.agg [.arr .i8 16 (z.2.1)],.s (.i .i64 (z.2.2.1))]) ([.cells 29 [.arr .i8 81 (z.2.2.2.1),.arr .i8 16 (z.2.2.2.2.1),.one [.i .i8 (z.2.2.2.2.2)]]])
 | _,_=>none
def qN4:HL:=fun vs objs K=>match vs,objs with
 | [.s (.ptr 0 0 none 0),.s (.i .u64 x0),.agg [.arr .i8 16 x1],.s (.i .i64 x2)],[.cells 29 [.arr .i8 81 x3,.arr .i8 16 x4,.one [.i .i8 x5]]]=>ob (qBt qC x0 x1 x2 x3 x4 x5) fun z=>K (.exit 2) ([.s (.ptr 0 0 none 0),.s (.i .u64 (z.1))]) ([.cells 29 [.arr .i8 81 (z.2.1),.arr .i8 16 (z.2.2.1),.one [.i .i8 (z.2.2.2)]]])
 | _,_=>none
def qgz:{R:Type}->Nat->List V->List Obj->(Ex->List V->List Obj->Option R)->Option R:=fun q vs objs K=>bif Nat.beq q 3 then qN3 vs objs K else bif Nat.beq q 11 then qN2 vs objs K else bif Nat.beq q 8 then qN4 vs objs K else none
def qE6:Ctx:=mkC 49 ((qN6 (qNu (qN5 qO)))) [(3,[1,3,11,12],[1,3]),(8,[1,3,23,24],[1,3]),(11,[1,3,6,23,24,28,29],[1,3,23,24])] qgz
theorem qKW:CtxOK Tryz.prog qE6:=mkC_ok ((qVM _ (qU8 _ (qVI _ qP))))
def qNy (f:Nat) (x0:Int) (x1:LI) (x2:Int) (x3 x4:LI) (x5:Int):Option (Int×LI×LI×Int):=qh qE6 0 [1,3,11,12] [1,3] (qI Tryz.f44 3) f ([.s (.ptr 0 0 none 0),.s (.i .u64 x0),.agg [.arr .i8 81 x1],.s (.i .i64 x2)]) ([.cells 29 [.arr .i8 81 x3,.arr .i8 16 x4,.one [.i .i8 x5]]]) qNx
theorem qgx (f:Nat) (x0:Int) (x1:LI) (x2:Int) (x3 x4:LI) (x5:Int):qNy (f+1) x0 x1 x2 x3 x4 x5=qDV (qNy f) x0 x1 x2 x3 x4 x5:=by kernel_rfl
theorem qVC:∀ f,qNy f=qCR f
 | 0=>rfl
 | f+1=>by funext x0 x1 x2 x3 x4 x5;rw[qgx,qVC f];rfl
def qNw (f:Nat) (x0 x1:Int) (x2:LI) (x3:Int) (x4:LI) (x5:Int) (x6 x7:LI) (x8:Int):Option (Int×LI×Int×LI×LI×Int):=qh qE6 0 [1,3,6,23,24,28,29] [1,3,23,24] (qI Tryz.f44 11) f ([.s (.ptr 0 0 none 0),.s (.i .u64 x0),.s (.i .i64 x1),.agg [.arr .i8 16 x2],.s (.i .i64 x3),.agg [.arr .i8 8 x4],.s (.i .i64 x5)]) ([.cells 29 [.arr .i8 81 x6,.arr .i8 16 x7,.one [.i .i8 x8]]]) qNv
theorem qgw (f:Nat) (x0 x1:Int) (x2:LI) (x3:Int) (x4:LI) (x5:Int) (x6 x7:LI) (x8:Int):qNw (f+1) x0 x1 x2 x3 x4 x5 x6 x7 x8=qDU (qNw f) x0 x1 x2 x3 x4 x5 x6 x7 x8:=by kernel_rfl
theorem qVB:∀ f,qNw f=qCp f
 | 0=>rfl
 | f+1=>by funext x0 x1 x2 x3 x4 x5 x6 x7 x8;rw[qgw,qVB f];rfl
def qN0 (f:Nat) (x0:Int) (x1:LI) (x2:Int) (x3 x4:LI) (x5:Int):Option (Int×LI×LI×Int):=qh qE6 0 [1,3,23,24] [1,3] (qI Tryz.f44 8) f ([.s (.ptr 0 0 none 0),.s (.i .u64 x0),.agg [.arr .i8 16 x1],.s (.i .i64 x2)]) ([.cells 29 [.arr .i8 81 x3,.arr .i8 16 x4,.one [.i .i8 x5]]]) qNz
theorem qgy (f:Nat) (x0:Int) (x1:LI) (x2:Int) (x3 x4:LI) (x5:Int):qN0 (f+1) x0 x1 x2 x3 x4 x5=qDW (qN0 f) x0 x1 x2 x3 x4 x5:=by kernel_rfl
theorem qVD:∀ f,qN0 f=qBt f
 | 0=>rfl
 | f+1=>by funext x0 x1 x2 x3 x4 x5;rw[qgy,qVD f];rfl
theorem qg1:qd Tryz.prog qE6 0 (qI Tryz.f44 3):=
 ql mixed qKW (qT.of (l':=[]) (by kernel_rfl) trivial) (q:=3) (kin:=[1,3,11,12]) (kout:=[1,3]) (by kernel_rfl) (by kernel_rfl) fun vs objs K r h=>by
  replace h:qN3 vs objs K=some r:=h
  unfold qN3 at h
  split at h
  ·skip
   obtain⟨t,h1,h2⟩:=qG h
   rw[<- qVC] at h1
   refine⟨_,qNx,t,qC,h1,fun e vs' objs' hd=>?_⟩
   unfold qNx at hd;split at hd;(cases hd;exact h2);cases hd
  ·cases h
theorem qg0:qd Tryz.prog qE6 0 (qI Tryz.f44 11):=
 ql mixed qKW (qT.of (l':=[]) (by kernel_rfl) trivial) (q:=11) (kin:=[1,3,6,23,24,28,29]) (kout:=[1,3,23,24]) (by kernel_rfl) (by kernel_rfl) fun vs objs K r h=>by
  replace h:qN2 vs objs K=some r:=h
  unfold qN2 at h
  split at h
  ·skip
   obtain⟨t,h1,h2⟩:=qG h
   rw[<- qVB] at h1
   refine⟨_,qNv,t,qC,h1,fun e vs' objs' hd=>?_⟩
   unfold qNv at hd;split at hd;(cases hd;exact h2);cases hd
  ·cases h
theorem qg2:qd Tryz.prog qE6 0 (qI Tryz.f44 8):=
 ql mixed qKW (qT.of (l':=[qI Tryz.f44 11]) (by kernel_rfl) ⟨qg0,trivial⟩) (q:=8) (kin:=[1,3,23,24]) (kout:=[1,3]) (by kernel_rfl) (by kernel_rfl) fun vs objs K r h=>by
  replace h:qN4 vs objs K=some r:=h
  unfold qN4 at h
  split at h
  ·skip
   obtain⟨t,h1,h2⟩:=qG h
   rw[<- qVD] at h1
   refine⟨_,qNz,t,qC,h1,fun e vs' objs' hd=>?_⟩
   unfold qNz at hd;split at hd;(cases hd;exact h2);cases hd
  ·cases h
def qVA:V->List Obj->Option (Int):=fun v objs=>match v,objs with
 | .s (.i .u64 y0),[]=>some (y0)
 | _,_=>none
theorem qgv (x0 x1:LI) (x2:Int):fnE qE6 Tryz.f44 ([.agg [.arr .i8 81 x0,.arr .i8 16 x1,.one [.i .i8 x2]]]) ([]) qVA=qDT x0 x1 x2:=by kernel_rfl
def qU9:HA:=fun o vs objs K=>match vs,objs with
 | [.agg [.arr .i8 81 x0,.arr .i8 16 x1,.one [.i .i8 x2]]],[]=>ob (qDT x0 x1 x2) fun y0=>K false (.s (.i .u64 y0)) ([])
 | _,_=>o 44 vs objs K
def qN1 (o:Orc):Orc:=qR 44 (qU9 o) o
theorem qVE:OQ Tryz.prog qN1:=fun _ ho=>qS ho fun vs objs K r h=>by
 unfold qU9 at h
 split at h
 ·skip
  obtain⟨t,h1,h2⟩:=qG h
  refine qAY mixed qKW (fn:=Tryz.f44) (b:=(Tryz.f44).body.getD .skip) (by kernel_rfl) (by kernel_rfl) (by kernel_rfl) ((qgv _ _ _).trans h1) (m:=0) rfl (qT.of (l':=[qI Tryz.f44 3,qI Tryz.f44 8]) (by kernel_rfl) ⟨qg1,qg2,trivial⟩) fun v objs' hd=>?_
  unfold qVA at hd;split at hd;(cases hd;exact h2);cases hd
 ·exact ho _ _ _ _ _ h
def qT0:Ctx:=mkC 14 ((qN1 (qMv qO))) [] qW
theorem qfJ:CtxOK Tryz.prog qT0:=mkC_ok ((qVE _ (qSs _ qP)))
def qT1:V->List Obj->Option (Int×Nat×LI×LI×Int×LL×LL×Nat×LL):=fun v objs=>match v,objs with
 | .s (.ptr 0 0 none 0),[.cells 65 [.one [.ptr 1 0 none 0,.i .u64 y0,.sl 2 0 y1 true]],.cells 84 [.arr .i8 81 y2,.arr .i8 16 y3,.one [.i .i8 y4],.rows [.i .u64,.i .u64] 32 y5,.rows [.i .u64,.i .u64] 2 y6],.sli 125 false (.rows [.i .i64,.i .i64,.i .i64,.b,.i .i8,.i .i8] y7 y8)]=>some (y0,y1,y2,y3,y4,y5,y6,y7,y8)
 | _,_=>none
theorem qfI (x0 x1:LI) (x2:Int):fnE qT0 Tryz.f19 ([.agg [.arr .i8 81 x0,.arr .i8 16 x1,.one [.i .i8 x2]]]) ([]) qT1=qEC x0 x1 x2:=by kernel_rfl
def qTz:HA:=fun o vs objs K=>match vs,objs with
 | [.agg [.arr .i8 81 x0,.arr .i8 16 x1,.one [.i .i8 x2]]],[]=>ob (qEC x0 x1 x2) fun z=>K false (.s (.ptr 0 0 none 0)) ([.cells 65 [.one [.ptr 1 0 none 0,.i .u64 (z.1),.sl 2 0 (z.2.1) true]],.cells 84 [.arr .i8 81 (z.2.2.1),.arr .i8 16 (z.2.2.2.1),.one [.i .i8 (z.2.2.2.2.1)],.rows [.i .u64,.i .u64] 32 (z.2.2.2.2.2.1),.rows [.i .u64,.i .u64] 2 (z.2.2.2.2.2.2.1)],.sli 125 false (.rows [.i .i64,.i .i64,.i .i64,.b,.i .i8,.i .i8] (z.2.2.2.2.2.2.2.1) (z.2.2.2.2.2.2.2.2))])
 | _,_=>o 19 vs objs K
def qJ9 (o:Orc):Orc:=qR 19 (qTz o) o
theorem qNH:OQ Tryz.prog qJ9:=fun _ ho=>qS ho fun vs objs K r h=>by
 unfold qTz at h
 split at h
 ·skip
  obtain⟨t,h1,h2⟩:=qG h
  refine qa mixed qfJ ((qfI _ _ _).trans h1) (by kernel_rfl) fun v objs' hd=>?_
  unfold qT1 at hd;split at hd;(cases hd;exact h2);cases hd
 ·exact ho _ _ _ _ _ h
def qWv:Ctx:=mkC 28 (qO) [] qW
theorem qjk:CtxOK Tryz.prog qWv:=mkC_ok (qP)
def qWw:V->List Obj->Option (Int):=fun v objs=>match v,objs with
 | .s (.i .i8 y0),[]=>some (y0)
 | _,_=>none
theorem qjj (x0 x1:Int):fnE qWv Tryz.f78 ([.s (.i .i64 x0),.s (.i .i64 x1)]) ([]) qWw=qAg x0 x1:=by kernel_rfl
def qWu:HA:=fun o vs objs K=>match vs,objs with
 | [.s (.i .i64 x0),.s (.i .i64 x1)],[]=>ob (qAg x0 x1) fun y0=>K false (.s (.i .i8 y0)) ([])
 | _,_=>o 78 vs objs K
def qF3 (o:Orc):Orc:=qR 78 (qWu o) o
theorem qHZ:OQ Tryz.prog qF3:=fun _ ho=>qS ho fun vs objs K r h=>by
 unfold qWu at h
 split at h
 ·skip
  obtain⟨t,h1,h2⟩:=qG h
  refine qa mixed qjk ((qjj _ _).trans h1) (by kernel_rfl) fun v objs' hd=>?_
  unfold qWw at hd;split at hd;(cases hd;exact h2);cases hd
 ·exact ho _ _ _ _ _ h
def qSu:Ctx:=mkC 20 ((qF3 qO)) [] qW
theorem qd7:CtxOK Tryz.prog qSu:=mkC_ok ((qHZ _ qP))
def qSv:V->List Obj->Option (Int×Int):=fun v objs=>match v,objs with
 | .agg [.one [.i .u64 y0,.i .u64 y1]],[]=>some (y0,y1)
 | _,_=>none
theorem qd6 (x0 x1:Int) (x2 x3:LI) (x4:Int) (x5 x6:LL):fnE qSu Tryz.f63 ([.s (.ptr 0 0 none 0),.s (.i .i64 x0),.s (.i .i64 x1)]) ([.rcells 84 [.arr .i8 81 x2,.arr .i8 16 x3,.one [.i .i8 x4],.rows [.i .u64,.i .u64] 32 x5,.rows [.i .u64,.i .u64] 2 x6]]) (qAo 1 qSv)=qDK x0 x1 x2 x3 x4 x5 x6:=by kernel_rfl
def qSt:HA:=fun o vs objs K=>match vs,List.map Obj.toRO objs with
 | [.s (.ptr 0 0 none 0),.s (.i .i64 x0),.s (.i .i64 x1)],[.rcells 84 [.arr .i8 81 x2,.arr .i8 16 x3,.one [.i .i8 x4],.rows [.i .u64,.i .u64] 32 x5,.rows [.i .u64,.i .u64] 2 x6]]=>ob (qDK x0 x1 x2 x3 x4 x5 x6) fun z=>K true (.agg [.one [.i .u64 (z.1),.i .u64 (z.2)]]) ([])
 | _,_=>o 63 vs objs K
def qGo (o:Orc):Orc:=qR 63 (qSt o) o
theorem qIR:OQ Tryz.prog qGo:=fun _ ho=>qS ho fun vs objs K r h=>by
 unfold qSt at h
 split at h
 ·skip
  have hq:List.map Obj.toRO objs=_:=(by rename_i hq;first | exact hq | assumption)
  obtain⟨t,h1,h2⟩:=qG h
  refine qA5 mixed qd7 (m:=1) (fn:=Tryz.f63) (b:=(Tryz.f63).body.getD .skip) (by kernel_rfl) (by kernel_rfl) (by kernel_rfl) hq (by kernel_rfl) (by kernel_rfl) (qT.of (l':=[]) (by kernel_rfl) trivial) ((qd6 _ _ _ _ _ _ _).trans h1) fun v objs' hd=>?_
  unfold qSv at hd;split at hd;(cases hd;exact h2);cases hd
 ·exact ho _ _ _ _ _ h
def qMn:Ctx:=mkC 14 (qO) [] qW
theorem qdp:CtxOK Tryz.prog qMn:=mkC_ok (qP)
def qMo:V->List Obj->Option (Int):=fun v objs=>match v,objs with
 | .s (.i .i64 y0),[]=>some (y0)
 | _,_=>none
theorem qdo (B:{R:Type}->Bool->Option R->Option R->Option R) (x0:Int):fnE { qMn with brg:=B } Tryz.f106 ([.s (.i .u64 x0)]) ([]) qMo=qMm B x0:=by kernel_rfl
theorem qdn (x0:Int):fnE qMn Tryz.f106 ([.s (.i .u64 x0)]) ([]) qMo=qEo x0:=qdo br x0
def qSZ:HA:=fun o vs objs K=>match vs,objs with
 | [.s (.i .u64 x0)],[]=>ob (qEo x0) fun y0=>K false (.s (.i .i64 y0)) ([])
 | _,_=>o 106 vs objs K
def qMp (o:Orc):Orc:=qR 106 (qSZ o) o
theorem qSa:OQ Tryz.prog qMp:=fun _ ho=>qS ho fun vs objs K r h=>by
 unfold qSZ at h
 split at h
 ·skip
  obtain⟨t,h1,h2⟩:=qG h
  refine qa mixed qdp ((qdn _).trans h1) (by kernel_rfl) fun v objs' hd=>?_
  unfold qMo at hd;split at hd;(cases hd;exact h2);cases hd
 ·exact ho _ _ _ _ _ h
def qZ6:Ctx:=mkC 18 ((qMp qO)) [] qW
theorem qm6:CtxOK Tryz.prog qZ6:=mkC_ok ((qSa _ qP))
def qZ7:V->List Obj->Option (Int):=fun v objs=>match v,objs with
 | .s (.i .i64 y0),[]=>some (y0)
 | _,_=>none
theorem qm5 (x0 x1:Int):fnE qZ6 Tryz.f61 ([.agg [.one [.i .u64 x0,.i .u64 x1]]]) ([]) qZ7=qGK x0 x1:=by kernel_rfl
def qZ5:HA:=fun o vs objs K=>match vs,objs with
 | [.agg [.one [.i .u64 x0,.i .u64 x1]]],[]=>ob (qGK x0 x1) fun y0=>K false (.s (.i .i64 y0)) ([])
 | _,_=>o 61 vs objs K
def qLl (o:Orc):Orc:=qR 61 (qZ5 o) o
theorem qQl:OQ Tryz.prog qLl:=fun _ ho=>qS ho fun vs objs K r h=>by
 unfold qZ5 at h
 split at h
 ·skip
  obtain⟨t,h1,h2⟩:=qG h
  refine qa mixed qm6 ((qm5 _ _).trans h1) (by kernel_rfl) fun v objs' hd=>?_
  unfold qZ7 at hd;split at hd;(cases hd;exact h2);cases hd
 ·exact ho _ _ _ _ _ h
def qSm:Ctx:=mkC 9 ((qLl (qGo qO))) [] qW
theorem qd1:CtxOK Tryz.prog qSm:=mkC_ok ((qQl _ (qIR _ qP)))
def qSn:V->List Obj->Option (Int):=fun v objs=>match v,objs with
 | .s (.i .i64 y0),[]=>some (y0)
 | _,_=>none
theorem qd0 (x0:Int) (x1 x2:LI) (x3:Int) (x4 x5:LL):fnE qSm Tryz.f56 ([.s (.ptr 0 0 none 0),.s (.i .i64 x0)]) ([.rcells 84 [.arr .i8 81 x1,.arr .i8 16 x2,.one [.i .i8 x3],.rows [.i .u64,.i .u64] 32 x4,.rows [.i .u64,.i .u64] 2 x5]]) (qAo 1 qSn)=qFm x0 x1 x2 x3 x4 x5:=by kernel_rfl
def qSl:HA:=fun o vs objs K=>match vs,List.map Obj.toRO objs with
 | [.s (.ptr 0 0 none 0),.s (.i .i64 x0)],[.rcells 84 [.arr .i8 81 x1,.arr .i8 16 x2,.one [.i .i8 x3],.rows [.i .u64,.i .u64] 32 x4,.rows [.i .u64,.i .u64] 2 x5]]=>ob (qFm x0 x1 x2 x3 x4 x5) fun y0=>K true (.s (.i .i64 y0)) ([])
 | _,_=>o 56 vs objs K
def qJx (o:Orc):Orc:=qR 56 (qSl o) o
theorem qMs:OQ Tryz.prog qJx:=fun _ ho=>qS ho fun vs objs K r h=>by
 unfold qSl at h
 split at h
 ·skip
  have hq:List.map Obj.toRO objs=_:=(by rename_i hq;first | exact hq | assumption)
  obtain⟨t,h1,h2⟩:=qG h
  refine qA5 mixed qd1 (m:=1) (fn:=Tryz.f56) (b:=(Tryz.f56).body.getD .skip) (by kernel_rfl) (by kernel_rfl) (by kernel_rfl) hq (by kernel_rfl) (by kernel_rfl) (qT.of (l':=[]) (by kernel_rfl) trivial) ((qd0 _ _ _ _ _ _).trans h1) fun v objs' hd=>?_
  unfold qSn at hd;split at hd;(cases hd;exact h2);cases hd
 ·exact ho _ _ _ _ _ h
def qZq:Ctx:=mkC 2 (qO) [] qW
theorem qmw:CtxOK Tryz.prog qZq:=mkC_ok (qP)
def qZr:V->List Obj->Option (Int×Int):=fun v objs=>match v,objs with
 | .agg [.one [.i .u64 y0,.i .u64 y1]],[]=>some (y0,y1)
 | _,_=>none
theorem qmv:fnE qZq Tryz.f29 ([]) ([]) qZr=qGI  := by kernel_rfl
def qZp:HA:=fun o vs objs K=>match vs,objs with
 | [],[]=>ob (qGI ) fun z=>K false (.agg [.one [.i .u64 (z.1),.i .u64 (z.2)]]) ([])
 | _,_=>o 29 vs objs K
def qJP (o:Orc):Orc:=qR 29 (qZp o) o
theorem qLi:OQ Tryz.prog qJP:=fun _ ho=>qS ho fun vs objs K r h=>by
 unfold qZp at h
 split at h
 ·skip
  obtain⟨t,h1,h2⟩:=qG h
  refine qa mixed qmw ((qmv).trans h1) (by kernel_rfl) fun v objs' hd=>?_
  unfold qZr at hd;split at hd;(cases hd;exact h2);cases hd
 ·exact ho _ _ _ _ _ h
def qQw:Ex->List V->List Obj->Option (Nat×Int×Int×Nat×LI):=fun e vs objs=>match e,vs,objs with
 | .exit 0,[.s (.ptr 0 0 none 0),.s (.sl 1 0 y0 true)],[.cells 72 [.one [.i .u64 y1,.i .u64 y2]],.sli 3 false (.arr .i64 y3 y4)]=>some (y0,y1,y2,y3,y4)
 | _,_,_=>none
def qQy:Ex->List V->List Obj->Option (Nat×Nat×LI):=fun e vs objs=>match e,vs,objs with
 | .exit 2,[.s (.sl 0 0 y0 true)],[.sli 3 false (.arr .i64 y1 y2)]=>some (y0,y1,y2)
 | _,_,_=>none
def qQ0:HL:=fun vs objs K=>match vs,objs with
 | [.s (.ptr 0 0 none 0),.s (.sl 1 0 x0 true)],[.cells 72 [.one [.i .u64 x1,.i .u64 x2]],.sli 3 false (.arr .i64 x3 x4)]=>ob (qH5 qC x0 x1 x2 x3 x4) fun z=>K (.exit 0) ([.s (.ptr 0 0 none 0),.s (.sl 1 0 (z.1) true)]) ([.cells 72 [.one [.i .u64 (z.2.1),.i .u64 (z.2.2.1)]],.sli 3 false (.arr .i64 (z.2.2.2.1) (z.2.2.2.2))])
 | _,_=>none
def qQ1:HL:=fun vs objs K=>match vs,objs with
 | [.s (.ptr 0 0 none 0),.s (.sl 1 0 x0 true)],[.cells 72 [.one [.i .u64 x1,.i .u64 x2]],.sli 3 false (.arr .i64 x3 x4)]=>ob (qH6 qC x0 x1 x2 x3 x4) fun z=>K (.exit 2) ([.s (.sl 0 0 (z.1) true)]) ([.sli 3 false (.arr .i64 (z.2.1) (z.2.2))])
 | _,_=>none
def qnX:{R:Type}->Nat->List V->List Obj->(Ex->List V->List Obj->Option R)->Option R:=fun q vs objs K=>bif Nat.beq q 2 then qQ0 vs objs K else bif Nat.beq q 5 then qQ1 vs objs K else none
def qH4:Ctx:=mkC 38 ((qMp qO)) [(2,[1,3],[1,3]),(5,[1,3],[3])] qnX
theorem qQv:CtxOK Tryz.prog qH4:=mkC_ok ((qSa _ qP))
def qQx (f:Nat) (x0:Nat) (x1 x2:Int) (x3:Nat) (x4:LI):Option (Nat×Int×Int×Nat×LI):=qh qH4 0 [1,3] [1,3] (qI Tryz.f65 2) f ([.s (.ptr 0 0 none 0),.s (.sl 1 0 x0 true)]) ([.cells 72 [.one [.i .u64 x1,.i .u64 x2]],.sli 3 false (.arr .i64 x3 x4)]) qQw
theorem qnV (f:Nat) (x0:Nat) (x1 x2:Int) (x3:Nat) (x4:LI):qQx (f+1) x0 x1 x2 x3 x4=qLr (qQx f) x0 x1 x2 x3 x4:=by kernel_rfl
theorem qaf:∀ f,qQx f=qH5 f
 | 0=>rfl
 | f+1=>by funext x0 x1 x2 x3 x4;rw[qnV,qaf f];rfl
def qQz (f:Nat) (x0:Nat) (x1 x2:Int) (x3:Nat) (x4:LI):Option (Nat×Nat×LI):=qh qH4 0 [1,3] [3] (qI Tryz.f65 5) f ([.s (.ptr 0 0 none 0),.s (.sl 1 0 x0 true)]) ([.cells 72 [.one [.i .u64 x1,.i .u64 x2]],.sli 3 false (.arr .i64 x3 x4)]) qQy
theorem qnW (f:Nat) (x0:Nat) (x1 x2:Int) (x3:Nat) (x4:LI):qQz (f+1) x0 x1 x2 x3 x4=qLs (qQz f) x0 x1 x2 x3 x4:=by kernel_rfl
theorem qag:∀ f,qQz f=qH6 f
 | 0=>rfl
 | f+1=>by funext x0 x1 x2 x3 x4;rw[qnW,qag f];rfl
theorem qnY:qd Tryz.prog qH4 0 (qI Tryz.f65 2):=
 ql mixed qQv (qT.of (l':=[]) (by kernel_rfl) trivial) (q:=2) (kin:=[1,3]) (kout:=[1,3]) (by kernel_rfl) (by kernel_rfl) fun vs objs K r h=>by
  replace h:qQ0 vs objs K=some r:=h
  unfold qQ0 at h
  split at h
  ·skip
   obtain⟨t,h1,h2⟩:=qG h
   rw[<- qaf] at h1
   refine⟨_,qQw,t,qC,h1,fun e vs' objs' hd=>?_⟩
   unfold qQw at hd;split at hd;(cases hd;exact h2);cases hd
  ·cases h
theorem qnZ:qd Tryz.prog qH4 0 (qI Tryz.f65 5):=
 ql mixed qQv (qT.of (l':=[]) (by kernel_rfl) trivial) (q:=5) (kin:=[1,3]) (kout:=[3]) (by kernel_rfl) (by kernel_rfl) fun vs objs K r h=>by
  replace h:qQ1 vs objs K=some r:=h
  unfold qQ1 at h
  split at h
  ·skip
   obtain⟨t,h1,h2⟩:=qG h
   rw[<- qag] at h1
   refine⟨_,qQy,t,qC,h1,fun e vs' objs' hd=>?_⟩
   unfold qQy at hd;split at hd;(cases hd;exact h2);cases hd
  ·cases h
def qae:V->List Obj->Option (Nat×Nat×LI):=fun v objs=>match v,objs with
 | .s (.sl 0 0 y0 true),[.sli 3 false (.arr .i64 y1 y2)]=>some (y0,y1,y2)
 | _,_=>none
theorem qnU (x0 x1:Int):fnE qH4 Tryz.f65 ([.agg [.one [.i .u64 x0,.i .u64 x1]]]) ([]) qae=qEY x0 x1:=by kernel_rfl
def qad:HA:=fun o vs objs K=>match vs,objs with
 | [.agg [.one [.i .u64 x0,.i .u64 x1]]],[]=>ob (qEY x0 x1) fun z=>K false (.s (.sl 0 0 (z.1) true)) ([.sli 3 false (.arr .i64 (z.2.1) (z.2.2))])
 | _,_=>o 65 vs objs K
def qJT (o:Orc):Orc:=qR 65 (qad o) o
theorem qLt:OQ Tryz.prog qJT:=fun _ ho=>qS ho fun vs objs K r h=>by
 unfold qad at h
 split at h
 ·skip
  obtain⟨t,h1,h2⟩:=qG h
  refine qAY mixed qQv (fn:=Tryz.f65) (b:=(Tryz.f65).body.getD .skip) (by kernel_rfl) (by kernel_rfl) (by kernel_rfl) ((qnU _ _).trans h1) (m:=0) rfl (qT.of (l':=[qI Tryz.f65 2,qI Tryz.f65 5]) (by kernel_rfl) ⟨qnY,qnZ,trivial⟩) fun v objs' hd=>?_
  unfold qae at hd;split at hd;(cases hd;exact h2);cases hd
 ·exact ho _ _ _ _ _ h
def qXO:Ctx:=mkC 24 (qO) [] qW
theorem qkG:CtxOK Tryz.prog qXO:=mkC_ok (qP)
def qXP:V->List Obj->Option (Nat×Nat×LL):=fun v objs=>match v,objs with
 | .s (.sl 0 0 y0 true),[.sli 141 false (.rows [.i .i64,.i .i64] y1 y2)]=>some (y0,y1,y2)
 | _,_=>none
theorem qkF (x0:Int):fnE qXO Tryz.f103 ([.s (.i .i64 x0)]) ([]) qXP=qF6 x0:=by kernel_rfl
def qXN:HA:=fun o vs objs K=>match vs,objs with
 | [.s (.i .i64 x0)],[]=>ob (qF6 x0) fun z=>K false (.s (.sl 0 0 (z.1) true)) ([.sli 141 false (.rows [.i .i64,.i .i64] (z.2.1) (z.2.2))])
 | _,_=>o 103 vs objs K
def qPK (o:Orc):Orc:=qR 103 (qXN o) o
theorem qXQ:OQ Tryz.prog qPK:=fun _ ho=>qS ho fun vs objs K r h=>by
 unfold qXN at h
 split at h
 ·skip
  obtain⟨t,h1,h2⟩:=qG h
  refine qa mixed qkG ((qkF _).trans h1) (by kernel_rfl) fun v objs' hd=>?_
  unfold qXP at hd;split at hd;(cases hd;exact h2);cases hd
 ·exact ho _ _ _ _ _ h
def qQq:Ex->List V->List Obj->Option (Nat×LI×Int×Int×Int×Int):=fun e vs objs=>match e,vs,objs with
 | .exit 0,[.s (.ptr 1 0 none 0),.s (.ptr 2 0 none 0)],[.sli 3 true (.arr .i64 y0 y1),.cells 72 [.one [.i .u64 y2,.i .u64 y3]],.cells 72 [.one [.i .u64 y4,.i .u64 y5]]]=>some (y0,y1,y2,y3,y4,y5)
 | _,_,_=>none
def qQs:HL:=fun vs objs K=>match vs,objs with
 | [.s (.ptr 1 0 none 0),.s (.ptr 2 0 none 0),.s (.sl 0 0 x0 true),.s (.i .i64 x1),.s (.i .i64 x2)],[.sli 3 true (.arr .i64 x3 x4),.cells 72 [.one [.i .u64 x5,.i .u64 x6]],.cells 72 [.one [.i .u64 x7,.i .u64 x8]]]=>ob (qFQ qC x0 x1 x2 x3 x4 x5 x6 x7 x8) fun z=>K (.exit 0) ([.s (.ptr 1 0 none 0),.s (.ptr 2 0 none 0)]) ([.sli 3 true (.arr .i64 (z.1) (z.2.1)),.cells 72 [.one [.i .u64 (z.2.2.1),.i .u64 (z.2.2.2.1)]],.cells 72 [.one [.i .u64 (z.2.2.2.2.1),.i .u64 (z.2.2.2.2.2)]]])
 | _,_=>none
def qnL:{R:Type}->Nat->List V->List Obj->(Ex->List V->List Obj->Option R)->Option R:=fun q vs objs K=>bif Nat.beq q 3 then qQs vs objs K else none
def qLp:Ctx:=mkC 17 ((qEZ qO)) [(3,[2,3,6,7,8],[2,3])] qnL
theorem qaP:CtxOK Tryz.prog qLp:=mkC_ok ((qFR _ qP))
def qQr (f:Nat) (x0:Nat) (x1 x2:Int) (x3:Nat) (x4:LI) (x5 x6:Int) (x7 x8:Int):Option (Nat×LI×Int×Int×Int×Int):=qh qLp 1 [2,3,6,7,8] [2,3] (qI Tryz.f105 3) f ([.s (.ptr 1 0 none 0),.s (.ptr 2 0 none 0),.s (.sl 0 0 x0 true),.s (.i .i64 x1),.s (.i .i64 x2)]) ([.sli 3 true (.arr .i64 x3 x4),.cells 72 [.one [.i .u64 x5,.i .u64 x6]],.cells 72 [.one [.i .u64 x7,.i .u64 x8]]]) qQq
theorem qnK (f:Nat) (x0:Nat) (x1 x2:Int) (x3:Nat) (x4:LI) (x5 x6:Int) (x7 x8:Int):qQr (f+1) x0 x1 x2 x3 x4 x5 x6 x7 x8=qH2 (qQr f) x0 x1 x2 x3 x4 x5 x6 x7 x8:=by kernel_rfl
theorem qaR:∀ f,qQr f=qFQ f
 | 0=>rfl
 | f+1=>by funext x0 x1 x2 x3 x4 x5 x6 x7 x8;rw[qnK,qaR f];rfl
theorem qnN:qd Tryz.prog qLp 1 (qI Tryz.f105 3):=
 ql mixed qaP (qT.of (l':=[]) (by kernel_rfl) trivial) (q:=3) (kin:=[2,3,6,7,8]) (kout:=[2,3]) (by kernel_rfl) (by kernel_rfl) fun vs objs K r h=>by
  replace h:qQs vs objs K=some r:=h
  unfold qQs at h
  split at h
  ·skip
   obtain⟨t,h1,h2⟩:=qG h
   rw[<- qaR] at h1
   refine⟨_,qQq,t,qC,h1,fun e vs' objs' hd=>?_⟩
   unfold qQq at hd;split at hd;(cases hd;exact h2);cases hd
  ·cases h
def qaQ:V->List Obj->Option (Int×Int):=fun v objs=>match v,objs with
 | .agg [.one [.i .u64 y0,.i .u64 y1]],[]=>some (y0,y1)
 | _,_=>none
theorem qnJ (x0 x1:Nat) (x2:LI):fnE qLp Tryz.f105 ([.s (.sl 0 0 x0 true)]) ([.sli 3 true (.arr .i64 x1 x2)]) (qAo 1 qaQ)=qH1 x0 x1 x2:=by kernel_rfl
def qaO:HA:=fun o vs objs K=>match vs,List.map Obj.toRO objs with
 | [.s (.sl 0 0 x0 true)],[.sli 3 true (.arr .i64 x1 x2)]=>ob (qH1 x0 x1 x2) fun z=>K true (.agg [.one [.i .u64 (z.1),.i .u64 (z.2)]]) ([])
 | _,_=>o 105 vs objs K
def qaS (o:Orc):Orc:=qR 105 (qaO o) o
theorem qnM:OQ Tryz.prog qaS:=fun _ ho=>qS ho fun vs objs K r h=>by
 unfold qaO at h
 split at h
 ·skip
  have hq:List.map Obj.toRO objs=_:=(by rename_i hq;first | exact hq | assumption)
  obtain⟨t,h1,h2⟩:=qG h
  refine qA5 mixed qaP (m:=1) (fn:=Tryz.f105) (b:=(Tryz.f105).body.getD .skip) (by kernel_rfl) (by kernel_rfl) (by kernel_rfl) hq (by kernel_rfl) (by kernel_rfl) (qT.of (l':=[qI Tryz.f105 3]) (by kernel_rfl) ⟨qnN,trivial⟩) ((qnJ _ _ _).trans h1) fun v objs' hd=>?_
  unfold qaQ at hd;split at hd;(cases hd;exact h2);cases hd
 ·exact ho _ _ _ _ _ h
def qZ3:Ctx:=mkC 5 (qO) [] qW
theorem qm4:CtxOK Tryz.prog qZ3:=mkC_ok (qP)
def qZ4:V->List Obj->Option (Int):=fun v objs=>match v,objs with
 | .s (.i .i64 y0),[]=>some (y0)
 | _,_=>none
theorem qm3 (x0:Int):fnE qZ3 Tryz.f114 ([.s (.i .i64 x0)]) ([]) qZ4=qFP x0:=by kernel_rfl
def qZ2:HA:=fun o vs objs K=>match vs,objs with
 | [.s (.i .i64 x0)],[]=>ob (qFP x0) fun y0=>K false (.s (.i .i64 y0)) ([])
 | _,_=>o 114 vs objs K
def qLk (o:Orc):Orc:=qR 114 (qZ2 o) o
theorem qQk:OQ Tryz.prog qLk:=fun _ ho=>qS ho fun vs objs K r h=>by
 unfold qZ2 at h
 split at h
 ·skip
  obtain⟨t,h1,h2⟩:=qG h
  refine qa mixed qm4 ((qm3 _).trans h1) (by kernel_rfl) fun v objs' hd=>?_
  unfold qZ4 at hd;split at hd;(cases hd;exact h2);cases hd
 ·exact ho _ _ _ _ _ h
def qaX:Ctx:=mkC 5 (qO) [] qW
theorem qnR:CtxOK Tryz.prog qaX:=mkC_ok (qP)
def qaY:V->List Obj->Option (Int):=fun v objs=>match v,objs with
 | .s (.i .i64 y0),[]=>some (y0)
 | _,_=>none
theorem qnQ (x0:Int):fnE qaX Tryz.f120 ([.s (.i .i64 x0)]) ([]) qaY=qEX x0:=by kernel_rfl
def qaW:HA:=fun o vs objs K=>match vs,objs with
 | [.s (.i .i64 x0)],[]=>ob (qEX x0) fun y0=>K false (.s (.i .i64 y0)) ([])
 | _,_=>o 120 vs objs K
def qLq (o:Orc):Orc:=qR 120 (qaW o) o
theorem qQt:OQ Tryz.prog qLq:=fun _ ho=>qS ho fun vs objs K r h=>by
 unfold qaW at h
 split at h
 ·skip
  obtain⟨t,h1,h2⟩:=qG h
  refine qa mixed qnR ((qnQ _).trans h1) (by kernel_rfl) fun v objs' hd=>?_
  unfold qaY at hd;split at hd;(cases hd;exact h2);cases hd
 ·exact ho _ _ _ _ _ h
def qaa:Ctx:=mkC 23 (qO) [] qW
theorem qnT:CtxOK Tryz.prog qaa:=mkC_ok (qP)
def qab:V->List Obj->Option (Int):=fun v objs=>match v,objs with
 | .s (.i .i64 y0),[]=>some (y0)
 | _,_=>none
theorem qnS (x0 x1:Int):fnE qaa Tryz.f124 ([.s (.i .i64 x0),.s (.i .i64 x1)]) ([]) qab=qGN x0 x1:=by kernel_rfl
def qaZ:HA:=fun o vs objs K=>match vs,objs with
 | [.s (.i .i64 x0),.s (.i .i64 x1)],[]=>ob (qGN x0 x1) fun y0=>K false (.s (.i .i64 y0)) ([])
 | _,_=>o 124 vs objs K
def qQu (o:Orc):Orc:=qR 124 (qaZ o) o
theorem qac:OQ Tryz.prog qQu:=fun _ ho=>qS ho fun vs objs K r h=>by
 unfold qaZ at h
 split at h
 ·skip
  obtain⟨t,h1,h2⟩:=qG h
  refine qa mixed qnT ((qnS _ _).trans h1) (by kernel_rfl) fun v objs' hd=>?_
  unfold qab at hd;split at hd;(cases hd;exact h2);cases hd
 ·exact ho _ _ _ _ _ h
def qbD:Ctx:=mkC 42 ((qQu (qLq (qLk qO)))) [] qW
theorem qoK:CtxOK Tryz.prog qbD:=mkC_ok ((qac _ (qQt _ (qQk _ qP))))
def qbE:V->List Obj->Option (Int):=fun v objs=>match v,objs with
 | .s (.i .i64 y0),[]=>some (y0)
 | _,_=>none
theorem qoJ (x0 x1 x2:Int):fnE qbD Tryz.f121 ([.agg [.one [.i .i64 x0,.i .i64 x1]],.s (.i .i64 x2)]) ([]) qbE=qGR x0 x1 x2:=by kernel_rfl
def qbC:HA:=fun o vs objs K=>match vs,objs with
 | [.agg [.one [.i .i64 x0,.i .i64 x1]],.s (.i .i64 x2)],[]=>ob (qGR x0 x1 x2) fun y0=>K false (.s (.i .i64 y0)) ([])
 | _,_=>o 121 vs objs K
def qRF (o:Orc):Orc:=qR 121 (qbC o) o
theorem qbF:OQ Tryz.prog qRF:=fun _ ho=>qS ho fun vs objs K r h=>by
 unfold qbC at h
 split at h
 ·skip
  obtain⟨t,h1,h2⟩:=qG h
  refine qa mixed qoK ((qoJ _ _ _).trans h1) (by kernel_rfl) fun v objs' hd=>?_
  unfold qbE at hd;split at hd;(cases hd;exact h2);cases hd
 ·exact ho _ _ _ _ _ h
def qZt:Ctx:=mkC 16 (qO) [] qW
theorem qmy:CtxOK Tryz.prog qZt:=mkC_ok (qP)
def qZu:V->List Obj->Option (Int×Int):=fun v objs=>match v,objs with
 | .agg [.one [.i .u64 y0,.i .u64 y1]],[]=>some (y0,y1)
 | _,_=>none
theorem qmx (x0 x1:Int) (x2 x3:Int):fnE qZt Tryz.f70 ([.agg [.one [.i .u64 x0,.i .u64 x1]],.agg [.one [.i .u64 x2,.i .u64 x3]]]) ([]) qZu=qC6 x0 x1 x2 x3:=by kernel_rfl
def qZs:HA:=fun o vs objs K=>match vs,objs with
 | [.agg [.one [.i .u64 x0,.i .u64 x1]],.agg [.one [.i .u64 x2,.i .u64 x3]]],[]=>ob (qC6 x0 x1 x2 x3) fun z=>K false (.agg [.one [.i .u64 (z.1),.i .u64 (z.2)]]) ([])
 | _,_=>o 70 vs objs K
def qGJ (o:Orc):Orc:=qR 70 (qZs o) o
theorem qHy:OQ Tryz.prog qGJ:=fun _ ho=>qS ho fun vs objs K r h=>by
 unfold qZs at h
 split at h
 ·skip
  obtain⟨t,h1,h2⟩:=qG h
  refine qa mixed qmy ((qmx _ _ _ _).trans h1) (by kernel_rfl) fun v objs' hd=>?_
  unfold qZu at hd;split at hd;(cases hd;exact h2);cases hd
 ·exact ho _ _ _ _ _ h
def qZ0:Ctx:=mkC 6 (qO) [] qW
theorem qm2:CtxOK Tryz.prog qZ0:=mkC_ok (qP)
def qZ1:V->List Obj->Option (Bool):=fun v objs=>match v,objs with
 | .s (.b y0),[]=>some (y0)
 | _,_=>none
theorem qm1 (x0 x1:Int):fnE qZ0 Tryz.f74 ([.agg [.one [.i .u64 x0,.i .u64 x1]]]) ([]) qZ1=qFO x0 x1:=by kernel_rfl
def qZz:HA:=fun o vs objs K=>match vs,objs with
 | [.agg [.one [.i .u64 x0,.i .u64 x1]]],[]=>ob (qFO x0 x1) fun y0=>K false (.s (.b y0)) ([])
 | _,_=>o 74 vs objs K
def qJQ (o:Orc):Orc:=qR 74 (qZz o) o
theorem qLj:OQ Tryz.prog qJQ:=fun _ ho=>qS ho fun vs objs K r h=>by
 unfold qZz at h
 split at h
 ·skip
  obtain⟨t,h1,h2⟩:=qG h
  refine qa mixed qm2 ((qm1 _ _).trans h1) (by kernel_rfl) fun v objs' hd=>?_
  unfold qZ1 at hd;split at hd;(cases hd;exact h2);cases hd
 ·exact ho _ _ _ _ _ h
def qZ9:Ctx:=mkC 11 ((qJQ (qGJ (qLv qO)))) [] qW
theorem qm8:CtxOK Tryz.prog qZ9:=mkC_ok ((qLj _ (qHy _ (qQ2 _ qP))))
def qaA:V->List Obj->Option (Bool):=fun v objs=>match v,objs with
 | .s (.b y0),[]=>some (y0)
 | _,_=>none
theorem qm7 (x0 x1 x2:Int):fnE qZ9 Tryz.f75 ([.agg [.one [.i .u64 x0,.i .u64 x1]],.s (.i .i64 x2)]) ([]) qaA=qCG x0 x1 x2:=by kernel_rfl
def qZ8:HA:=fun o vs objs K=>match vs,objs with
 | [.agg [.one [.i .u64 x0,.i .u64 x1]],.s (.i .i64 x2)],[]=>ob (qCG x0 x1 x2) fun y0=>K false (.s (.b y0)) ([])
 | _,_=>o 75 vs objs K
def qGL (o:Orc):Orc:=qR 75 (qZ8 o) o
theorem qH0:OQ Tryz.prog qGL:=fun _ ho=>qS ho fun vs objs K r h=>by
 unfold qZ8 at h
 split at h
 ·skip
  obtain⟨t,h1,h2⟩:=qG h
  refine qa mixed qm8 ((qm7 _ _ _).trans h1) (by kernel_rfl) fun v objs' hd=>?_
  unfold qaA at hd;split at hd;(cases hd;exact h2);cases hd
 ·exact ho _ _ _ _ _ h
def qPP:Ex->List V->List Obj->Option (Int×Int×Int×Int):=fun e vs objs=>match e,vs,objs with
 | .exit 0,[.s (.ptr 0 0 none 0),.s (.ptr 1 0 none 0)],[.cells 72 [.one [.i .u64 y0,.i .u64 y1]],.cells 72 [.one [.i .u64 y2,.i .u64 y3]]]=>some (y0,y1,y2,y3)
 | _,_,_=>none
def qPS:HL:=fun vs objs K=>match vs,objs with
 | [.s (.i .i64 x0),.s (.ptr 0 0 none 0),.s (.ptr 1 0 none 0),.s (.ptr 2 0 none 0),.s (.ptr 3 0 none 0)],[.cells 141 [.one [.i .i64 x1,.i .i64 x2]],.cells 72 [.one [.i .u64 x3,.i .u64 x4]],.cells 72 [.one [.i .u64 x5,.i .u64 x6]],.cells 72 [.one [.i .u64 x7,.i .u64 x8]]]=>ob (qF7 qC x0 x1 x2 x3 x4 x5 x6 x7 x8) fun z=>K (.exit 0) ([.s (.ptr 0 0 none 0),.s (.ptr 1 0 none 0)]) ([.cells 72 [.one [.i .u64 (z.1),.i .u64 (z.2.1)]],.cells 72 [.one [.i .u64 (z.2.2.1),.i .u64 (z.2.2.2)]]])
 | _,_=>none
def qkN:{R:Type}->Nat->List V->List Obj->(Ex->List V->List Obj->Option R)->Option R:=fun q vs objs K=>bif Nat.beq q 5 then qPS vs objs K else none
def qLI:Ctx:=mkC 27 ((qGL (qEZ (qRF qO)))) [(5,[0,4,5,6,7],[6,7])] qkN
theorem qXW:CtxOK Tryz.prog qLI:=mkC_ok ((qH0 _ (qFR _ (qbF _ qP))))
def qPQ (f:Nat) (x0 x1:Int) (x2 x3:Int) (x4 x5:Int) (x6 x7 x8:Int):Option (Int×Int×Int×Int):=qh qLI 0 [0,4,5,6,7] [6,7] (qI Tryz.f104 5) f ([.s (.i .i64 x0),.s (.ptr 0 0 none 0),.s (.ptr 1 0 none 0),.s (.ptr 2 0 none 0),.s (.ptr 3 0 none 0)]) ([.cells 141 [.one [.i .i64 x1,.i .i64 x2]],.cells 72 [.one [.i .u64 x3,.i .u64 x4]],.cells 72 [.one [.i .u64 x5,.i .u64 x6]],.cells 72 [.one [.i .u64 x7,.i .u64 x8]]]) qPP
theorem qkM (f:Nat) (x0 x1:Int) (x2 x3:Int) (x4 x5:Int) (x6 x7 x8:Int):qPQ (f+1) x0 x1 x2 x3 x4 x5 x6 x7 x8=qHh (qPQ f) x0 x1 x2 x3 x4 x5 x6 x7 x8:=by kernel_rfl
theorem qXY:∀ f,qPQ f=qF7 f
 | 0=>rfl
 | f+1=>by funext x0 x1 x2 x3 x4 x5 x6 x7 x8;rw[qkM,qXY f];rfl
theorem qkO:qd Tryz.prog qLI 0 (qI Tryz.f104 5):=
 ql mixed qXW (qT.of (l':=[]) (by kernel_rfl) trivial) (q:=5) (kin:=[0,4,5,6,7]) (kout:=[6,7]) (by kernel_rfl) (by kernel_rfl) fun vs objs K r h=>by
  replace h:qPS vs objs K=some r:=h
  unfold qPS at h
  split at h
  ·skip
   obtain⟨t,h1,h2⟩:=qG h
   rw[<- qXY] at h1
   refine⟨_,qPP,t,qC,h1,fun e vs' objs' hd=>?_⟩
   unfold qPP at hd;split at hd;(cases hd;exact h2);cases hd
  ·cases h
def qXX:V->List Obj->Option (Int×Int):=fun v objs=>match v,objs with
 | .agg [.one [.i .u64 y0,.i .u64 y1]],[]=>some (y0,y1)
 | _,_=>none
theorem qkL (x0 x1:Int) (x2 x3 x4:Int):fnE qLI Tryz.f104 ([.s (.i .i64 x0),.agg [.one [.i .i64 x1,.i .i64 x2]],.agg [.one [.i .u64 x3,.i .u64 x4]]]) ([]) qXX=qHg x0 x1 x2 x3 x4:=by kernel_rfl
def qXV:HA:=fun o vs objs K=>match vs,objs with
 | [.s (.i .i64 x0),.agg [.one [.i .i64 x1,.i .i64 x2]],.agg [.one [.i .u64 x3,.i .u64 x4]]],[]=>ob (qHg x0 x1 x2 x3 x4) fun z=>K false (.agg [.one [.i .u64 (z.1),.i .u64 (z.2)]]) ([])
 | _,_=>o 104 vs objs K
def qPR (o:Orc):Orc:=qR 104 (qXV o) o
theorem qXZ:OQ Tryz.prog qPR:=fun _ ho=>qS ho fun vs objs K r h=>by
 unfold qXV at h
 split at h
 ·skip
  obtain⟨t,h1,h2⟩:=qG h
  refine qAY mixed qXW (fn:=Tryz.f104) (b:=(Tryz.f104).body.getD .skip) (by kernel_rfl) (by kernel_rfl) (by kernel_rfl) ((qkL _ _ _ _ _).trans h1) (m:=0) rfl (qT.of (l':=[qI Tryz.f104 5]) (by kernel_rfl) ⟨qkO,trivial⟩) fun v objs' hd=>?_
  unfold qXX at hd;split at hd;(cases hd;exact h2);cases hd
 ·exact ho _ _ _ _ _ h
def qPG:Ex->List V->List Obj->Option ((Int×Int)⊕(Int×Int)):=fun e vs objs=>match e,vs,objs with
 | .ret,[.s (.ptr 0 0 none 0)],[.cells 72 [.one [.i .u64 y0,.i .u64 y1]]]=>some (.inl (y0,y1))
 | .exit 0,[.s (.ptr 0 0 none 0)],[.cells 72 [.one [.i .u64 y0,.i .u64 y1]]]=>some (.inr (y0,y1))
 | _,_,_=>none
def qPJ:HL:=fun vs objs K=>match vs,objs with
 | [.s (.i .i64 x0),.s (.i .i64 x1),.s (.ptr 0 0 none 0),.s (.sl 1 0 x2 true),.s (.i .i64 x3),.s (.i .i64 x4)],[.cells 72 [.one [.i .u64 x5,.i .u64 x6]],.sli 141 false (.rows [.i .i64,.i .i64] x7 x8)]=>ob (qFC qC x0 x1 x2 x3 x4 x5 x6 x7 x8) fun t0=>sw t0 (fun z=>K (.ret) ([.s (.ptr 0 0 none 0)]) ([.cells 72 [.one [.i .u64 (z.1),.i .u64 (z.2)]]])) (fun z=>K (.exit 0) ([.s (.ptr 0 0 none 0)]) ([.cells 72 [.one [.i .u64 (z.1),.i .u64 (z.2)]]]))
 | _,_=>none
def qkD:{R:Type}->Nat->List V->List Obj->(Ex->List V->List Obj->Option R)->Option R:=fun q vs objs K=>bif Nat.beq q 2 then qPJ vs objs K else none
def qLF:Ctx:=mkC 30 ((qJU (qGL (qPR (qaS (qPK qO)))))) [(2,[0,1,4,10,11,12],[4])] qkD
theorem qXJ:CtxOK Tryz.prog qLF:=mkC_ok ((qLu _ (qH0 _ (qXZ _ (qnM _ (qXQ _ qP))))))
def qPH (f:Nat) (x0 x1:Int) (x2:Nat) (x3 x4:Int) (x5 x6:Int) (x7:Nat) (x8:LL):Option ((Int×Int)⊕(Int×Int)):=qh qLF 0 [0,1,4,10,11,12] [4] (qI Tryz.f60 2) f ([.s (.i .i64 x0),.s (.i .i64 x1),.s (.ptr 0 0 none 0),.s (.sl 1 0 x2 true),.s (.i .i64 x3),.s (.i .i64 x4)]) ([.cells 72 [.one [.i .u64 x5,.i .u64 x6]],.sli 141 false (.rows [.i .i64,.i .i64] x7 x8)]) qPG
theorem qkC (f:Nat) (x0 x1:Int) (x2:Nat) (x3 x4:Int) (x5 x6:Int) (x7:Nat) (x8:LL):qPH (f+1) x0 x1 x2 x3 x4 x5 x6 x7 x8=qHe (qPH f) x0 x1 x2 x3 x4 x5 x6 x7 x8:=by kernel_rfl
theorem qXL:∀ f,qPH f=qFC f
 | 0=>rfl
 | f+1=>by funext x0 x1 x2 x3 x4 x5 x6 x7 x8;rw[qkC,qXL f];rfl
theorem qkE:qd Tryz.prog qLF 0 (qI Tryz.f60 2):=
 ql mixed qXJ (qT.of (l':=[]) (by kernel_rfl) trivial) (q:=2) (kin:=[0,1,4,10,11,12]) (kout:=[4]) (by kernel_rfl) (by kernel_rfl) fun vs objs K r h=>by
  replace h:qPJ vs objs K=some r:=h
  unfold qPJ at h
  split at h
  ·skip
   obtain⟨t,h1,h2⟩:=qG h
   rw[<- qXL] at h1
   refine⟨_,qPG,t,qC,h1,fun e vs' objs' hd=>?_⟩
   unfold qPG at hd
   split at hd
   ·skip
    cases hd
    exact h2
   ·skip
    cases hd
    exact h2
   ·cases hd
  ·cases h
def qXK:V->List Obj->Option (Int×Int):=fun v objs=>match v,objs with
 | .agg [.one [.i .u64 y0,.i .u64 y1]],[]=>some (y0,y1)
 | _,_=>none
theorem qkB (x0 x1:Int):fnE qLF Tryz.f60 ([.s (.i .i64 x0),.s (.i .i64 x1)]) ([]) qXK=qHd x0 x1:=by kernel_rfl
def qXI:HA:=fun o vs objs K=>match vs,objs with
 | [.s (.i .i64 x0),.s (.i .i64 x1)],[]=>ob (qHd x0 x1) fun z=>K false (.agg [.one [.i .u64 (z.1),.i .u64 (z.2)]]) ([])
 | _,_=>o 60 vs objs K
def qPI (o:Orc):Orc:=qR 60 (qXI o) o
theorem qXM:OQ Tryz.prog qPI:=fun _ ho=>qS ho fun vs objs K r h=>by
 unfold qXI at h
 split at h
 ·skip
  obtain⟨t,h1,h2⟩:=qG h
  refine qAY mixed qXJ (fn:=Tryz.f60) (b:=(Tryz.f60).body.getD .skip) (by kernel_rfl) (by kernel_rfl) (by kernel_rfl) ((qkB _ _).trans h1) (m:=0) rfl (qT.of (l':=[qI Tryz.f60 2]) (by kernel_rfl) ⟨qkE,trivial⟩) fun v objs' hd=>?_
  unfold qXK at hd;split at hd;(cases hd;exact h2);cases hd
 ·exact ho _ _ _ _ _ h
def qS4:Ctx:=mkC 14 ((qGM qO)) [] qW
theorem qeD:CtxOK Tryz.prog qS4:=mkC_ok ((qH3 _ qP))
def qS5:V->List Obj->Option (Int×Int):=fun v objs=>match v,objs with
 | .agg [.one [.i .u64 y0,.i .u64 y1]],[]=>some (y0,y1)
 | _,_=>none
theorem qeC (x0 x1:LI) (x2:Int) (x3 x4:LL):fnE qS4 Tryz.f68 ([.s (.ptr 0 0 none 0)]) ([.rcells 84 [.arr .i8 81 x0,.arr .i8 16 x1,.one [.i .i8 x2],.rows [.i .u64,.i .u64] 32 x3,.rows [.i .u64,.i .u64] 2 x4]]) (qAo 1 qS5)=qCx x0 x1 x2 x3 x4:=by kernel_rfl
def qS3:HA:=fun o vs objs K=>match vs,List.map Obj.toRO objs with
 | [.s (.ptr 0 0 none 0)],[.rcells 84 [.arr .i8 81 x0,.arr .i8 16 x1,.one [.i .i8 x2],.rows [.i .u64,.i .u64] 32 x3,.rows [.i .u64,.i .u64] 2 x4]]=>ob (qCx x0 x1 x2 x3 x4) fun z=>K true (.agg [.one [.i .u64 (z.1),.i .u64 (z.2)]]) ([])
 | _,_=>o 68 vs objs K
def qGp (o:Orc):Orc:=qR 68 (qS3 o) o
theorem qIS:OQ Tryz.prog qGp:=fun _ ho=>qS ho fun vs objs K r h=>by
 unfold qS3 at h
 split at h
 ·skip
  have hq:List.map Obj.toRO objs=_:=(by rename_i hq;first | exact hq | assumption)
  obtain⟨t,h1,h2⟩:=qG h
  refine qA5 mixed qeD (m:=1) (fn:=Tryz.f68) (b:=(Tryz.f68).body.getD .skip) (by kernel_rfl) (by kernel_rfl) (by kernel_rfl) hq (by kernel_rfl) (by kernel_rfl) (qT.of (l':=[]) (by kernel_rfl) trivial) ((qeC _ _ _ _ _).trans h1) fun v objs' hd=>?_
  unfold qS5 at hd;split at hd;(cases hd;exact h2);cases hd
 ·exact ho _ _ _ _ _ h
def qSW:Ctx:=mkC 35 (qO) [] qW
theorem qdl:CtxOK Tryz.prog qSW:=mkC_ok (qP)
def qSX:V->List Obj->Option (Int):=fun v objs=>match v,objs with
 | .s (.i .i64 y0),[]=>some (y0)
 | _,_=>none
theorem qdk (x0:Int):fnE qSW Tryz.f102 ([.s (.i .u64 x0)]) ([]) qSX=qFk x0:=by kernel_rfl
def qSV:HA:=fun o vs objs K=>match vs,objs with
 | [.s (.i .u64 x0)],[]=>ob (qFk x0) fun y0=>K false (.s (.i .i64 y0)) ([])
 | _,_=>o 102 vs objs K
def qSY (o:Orc):Orc:=qR 102 (qSV o) o
theorem qdm:OQ Tryz.prog qSY:=fun _ ho=>qS ho fun vs objs K r h=>by
 unfold qSV at h
 split at h
 ·skip
  obtain⟨t,h1,h2⟩:=qG h
  refine qa mixed qdl ((qdk _).trans h1) (by kernel_rfl) fun v objs' hd=>?_
  unfold qSX at hd;split at hd;(cases hd;exact h2);cases hd
 ·exact ho _ _ _ _ _ h
def qZw:Ctx:=mkC 10 ((qSY qO)) [] qW
theorem qm0:CtxOK Tryz.prog qZw:=mkC_ok ((qdm _ qP))
def qZx:V->List Obj->Option (Int):=fun v objs=>match v,objs with
 | .s (.i .i64 y0),[]=>some (y0)
 | _,_=>none
theorem qmz (x0 x1:Int):fnE qZw Tryz.f59 ([.agg [.one [.i .u64 x0,.i .u64 x1]]]) ([]) qZx=qHz x0 x1:=by kernel_rfl
def qZv:HA:=fun o vs objs K=>match vs,objs with
 | [.agg [.one [.i .u64 x0,.i .u64 x1]]],[]=>ob (qHz x0 x1) fun y0=>K false (.s (.i .i64 y0)) ([])
 | _,_=>o 59 vs objs K
def qQj (o:Orc):Orc:=qR 59 (qZv o) o
theorem qZy:OQ Tryz.prog qQj:=fun _ ho=>qS ho fun vs objs K r h=>by
 unfold qZv at h
 split at h
 ·skip
  obtain⟨t,h1,h2⟩:=qG h
  refine qa mixed qm0 ((qmz _ _).trans h1) (by kernel_rfl) fun v objs' hd=>?_
  unfold qZx at hd;split at hd;(cases hd;exact h2);cases hd
 ·exact ho _ _ _ _ _ h
def qSx:Ctx:=mkC 18 (qO) [] qW
theorem qd9:CtxOK Tryz.prog qSx:=mkC_ok (qP)
def qSy:V->List Obj->Option (Int×Int):=fun v objs=>match v,objs with
 | .agg [.one [.i .u64 y0,.i .u64 y1]],[]=>some (y0,y1)
 | _,_=>none
theorem qd8 (x0:Int) (x1 x2:LI) (x3:Int) (x4 x5:LL):fnE qSx Tryz.f64 ([.s (.ptr 0 0 none 0),.s (.i .i64 x0)]) ([.rcells 84 [.arr .i8 81 x1,.arr .i8 16 x2,.one [.i .i8 x3],.rows [.i .u64,.i .u64] 32 x4,.rows [.i .u64,.i .u64] 2 x5]]) (qAo 1 qSy)=qFn x0 x1 x2 x3 x4 x5:=by kernel_rfl
def qSw:HA:=fun o vs objs K=>match vs,List.map Obj.toRO objs with
 | [.s (.ptr 0 0 none 0),.s (.i .i64 x0)],[.rcells 84 [.arr .i8 81 x1,.arr .i8 16 x2,.one [.i .i8 x3],.rows [.i .u64,.i .u64] 32 x4,.rows [.i .u64,.i .u64] 2 x5]]=>ob (qFn x0 x1 x2 x3 x4 x5) fun z=>K true (.agg [.one [.i .u64 (z.1),.i .u64 (z.2)]]) ([])
 | _,_=>o 64 vs objs K
def qMx (o:Orc):Orc:=qR 64 (qSw o) o
theorem qSz:OQ Tryz.prog qMx:=fun _ ho=>qS ho fun vs objs K r h=>by
 unfold qSw at h
 split at h
 ·skip
  have hq:List.map Obj.toRO objs=_:=(by rename_i hq;first | exact hq | assumption)
  obtain⟨t,h1,h2⟩:=qG h
  refine qA5 mixed qd9 (m:=1) (fn:=Tryz.f64) (b:=(Tryz.f64).body.getD .skip) (by kernel_rfl) (by kernel_rfl) (by kernel_rfl) hq (by kernel_rfl) (by kernel_rfl) (qT.of (l':=[]) (by kernel_rfl) trivial) ((qd8 _ _ _ _ _ _).trans h1) fun v objs' hd=>?_
  unfold qSy at hd;split at hd;(cases hd;exact h2);cases hd
 ·exact ho _ _ _ _ _ h
def qSc:Ctx:=mkC 18 (qO) [] qW
theorem qdu:CtxOK Tryz.prog qSc:=mkC_ok (qP)
def qSd:V->List Obj->Option (Int):=fun v objs=>match v,objs with
 | .s (.i .i8 y0),[]=>some (y0)
 | _,_=>none
theorem qdt (x0:Int) (x1 x2:LI) (x3:Int) (x4 x5:LL):fnE qSc Tryz.f66 ([.s (.ptr 0 0 none 0),.s (.i .i64 x0)]) ([.rcells 84 [.arr .i8 81 x1,.arr .i8 16 x2,.one [.i .i8 x3],.rows [.i .u64,.i .u64] 32 x4,.rows [.i .u64,.i .u64] 2 x5]]) (qAo 1 qSd)=qAd x0 x1 x2 x3 x4 x5:=by kernel_rfl
def qSb:HA:=fun o vs objs K=>match vs,List.map Obj.toRO objs with
 | [.s (.ptr 0 0 none 0),.s (.i .i64 x0)],[.rcells 84 [.arr .i8 81 x1,.arr .i8 16 x2,.one [.i .i8 x3],.rows [.i .u64,.i .u64] 32 x4,.rows [.i .u64,.i .u64] 2 x5]]=>ob (qAd x0 x1 x2 x3 x4 x5) fun y0=>K true (.s (.i .i8 y0)) ([])
 | _,_=>o 66 vs objs K
def qFl (o:Orc):Orc:=qR 66 (qSb o) o
theorem qGn:OQ Tryz.prog qFl:=fun _ ho=>qS ho fun vs objs K r h=>by
 unfold qSb at h
 split at h
 ·skip
  have hq:List.map Obj.toRO objs=_:=(by rename_i hq;first | exact hq | assumption)
  obtain⟨t,h1,h2⟩:=qG h
  refine qA5 mixed qdu (m:=1) (fn:=Tryz.f66) (b:=(Tryz.f66).body.getD .skip) (by kernel_rfl) (by kernel_rfl) (by kernel_rfl) hq (by kernel_rfl) (by kernel_rfl) (qT.of (l':=[]) (by kernel_rfl) trivial) ((qdt _ _ _ _ _ _).trans h1) fun v objs' hd=>?_
  unfold qSd at hd;split at hd;(cases hd;exact h2);cases hd
 ·exact ho _ _ _ _ _ h
def qGT (n:Nat) {R:Type} (o:Orc) (vs:List V) (objs:List Obj) (K:Bool->V->List Obj->Option R):Option R:=match vs,objs with
 | [.s (.i .i64 x0)],[]=>ob (qGS n x0) fun z=>K false (.s (.sl 0 0 (z.1) true)) ([.sli 141 false (.rows [.i .i64,.i .i64] (z.2.1) (z.2.2))])
 | _,_=>o 122 vs objs K
def qRH (n:Nat) (o:Orc):Orc:=fun f vs objs K=>bif Nat.beq f 122 then qGT n o vs objs K else o f vs objs K
def qoQ (n:Nat):Orc:=qRH n qO
def qbK (n:Nat):Ctx:=mkC 57 (qoQ n) [] qW
def qbL:V->List Obj->Option (Nat×Nat×LL):=fun v objs=>match v,objs with
 | .s (.sl 0 0 y0 true),[.sli 141 false (.rows [.i .i64,.i .i64] y1 y2)]=>some (y0,y1,y2)
 | _,_=>none
theorem qoN (n:Nat) (x0:Int):fnE (qbK n) Tryz.f122 ([.s (.i .i64 x0)]) ([]) qbL=qGS (n+1) x0:=by kernel_rfl
theorem qoO (n:Nat) (hc:CtxOK Tryz.prog (qbK n)) {vs:List V} {objs:List Obj} (x0:Int) {R:Type} {K:Bool->V->List Obj->Option R} {r:R} (hv:vs=[.s (.i .i64 x0)]) (ho:objs=[]) (h:ob (qGS (n+1) x0) (fun z=>K false (.s (.sl 0 0 (z.1) true)) ([.sli 141 false (.rows [.i .i64,.i .i64] (z.2.1) (z.2.2))]))=some r):
  ∃ p v objs',K p v objs'=some r /\ qD0 Tryz.prog 122 vs objs p v objs':=by
 subst hv
 subst ho
 obtain⟨t,h1,h2⟩:=qG h
 refine qJq mixed hc (objs:=[]) (fn:=Tryz.f122) (b:=(Tryz.f122).body.getD .skip) (by kernel_rfl) (by kernel_rfl) (by kernel_rfl) (qT.of (l':=[]) (by kernel_rfl) trivial) ((qoN n x0).trans h1) fun v objs' hd=>?_
 unfold qbL at hd;split at hd;(cases hd;exact h2);cases hd
theorem qoP:∀ (n:Nat) (o:Orc) (_:qCM Tryz.prog o),qCM Tryz.prog (qRH n o):=by
 intro n
 induction n with
 | zero=>
   intro o ho R f vs objs K r h
   replace h:(bif Nat.beq f 122 then qGT 0 o vs objs K else o f vs objs K)=some r:=h
   cases hf:Nat.beq f 122 with
   | false=>rw[hf] at h;exact ho f vs objs K r h
   | true=>
     rw[hf] at h
     have e:=Nat.eq_of_beq_eq_true hf
     subst e
     replace h:qGT 0 o vs objs K=some r:=h
     unfold qGT at h
     split at h
     ·skip
      cases h
     ·exact ho _ _ _ _ _ h
 | succ n ih=>
   intro o ho R f vs objs K r h
   replace h:(bif Nat.beq f 122 then qGT (n+1) o vs objs K else o f vs objs K)=some r:=h
   cases hf:Nat.beq f 122 with
   | false=>rw[hf] at h;exact ho f vs objs K r h
   | true=>
     rw[hf] at h
     have e:=Nat.eq_of_beq_eq_true hf
     subst e
     replace h:qGT (n+1) o vs objs K=some r:=h
     unfold qGT at h
     split at h
     ·skip
      exact qoO n ⟨tab_ok,ih _ qP,eqs_ok,bytes_ok,fun _ _ _=>rfl,exts_ok⟩ _ rfl rfl h
     ·exact ho _ _ _ _ _ h
def qbH:Ctx:=mkC 15 (qO) [] qW
theorem qoM:CtxOK Tryz.prog qbH:=mkC_ok (qP)
def qbI:V->List Obj->Option (Int×Int):=fun v objs=>match v,objs with
 | .agg [.one [.i .i64 y0,.i .i64 y1]],[]=>some (y0,y1)
 | _,_=>none
theorem qoL (x0 x1 x2:Int):fnE qbH Tryz.f108 ([.agg [.one [.i .i64 x0,.i .i64 x1]],.s (.i .i64 x2)]) ([]) qbI=qFS x0 x1 x2:=by kernel_rfl
def qbG:HA:=fun o vs objs K=>match vs,objs with
 | [.agg [.one [.i .i64 x0,.i .i64 x1]],.s (.i .i64 x2)],[]=>ob (qFS x0 x1 x2) fun z=>K false (.agg [.one [.i .i64 (z.1),.i .i64 (z.2)]]) ([])
 | _,_=>o 108 vs objs K
def qRG (o:Orc):Orc:=qR 108 (qbG o) o
theorem qbJ:OQ Tryz.prog qRG:=fun _ ho=>qS ho fun vs objs K r h=>by
 unfold qbG at h
 split at h
 ·skip
  obtain⟨t,h1,h2⟩:=qG h
  refine qa mixed qoM ((qoL _ _ _).trans h1) (by kernel_rfl) fun v objs' hd=>?_
  unfold qbI at hd;split at hd;(cases hd;exact h2);cases hd
 ·exact ho _ _ _ _ _ h
end
end Go.Kk.KkSR
