/- Printed by a tool of this project (KkGen): the program's functions come to the plain ones. -/
import Derived.Test.YtjckfjagajmekaaGreatDoorProg
import Derived.Test.YtjckfjagajmekaaGreatDoorKkB
import Derived.Test.YtjckfjagajmekaaGreatDoorKkPl
namespace Go.Kk.KkSR
noncomputable section
open Go.Proofs Go.Kk.Pl
set_option maxRecDepth 100000
set_option maxHeartbeats 4000000
def tab:Tab:=[(1,.sc (.f)),
 (2,.sc (.i .i64)),
 (3,.sc (.i .i64)),
 (4,.sc (.b)),
 (5,.sc (.i .u8)),
 (6,.sc (.i .u8)),
 (7,.st [.one [.i .i64,.i .i64,.b,.i .u8]] [(0,0,2),(0,1,3),(0,2,4),(0,3,6)]),
 (8,.st [.one [.i .i64,.i .i64,.b,.i .u8]] [(0,0,2),(0,1,3),(0,2,4),(0,3,6)]),
 (9,.sc (.str)),
 (10,.sc (.str)),
 (11,.sc (.str)),
 (12,.sc (.i .u64)),
 (13,.st [.one [.str,.i .u64]] [(0,0,9),(0,1,12)]),
 (14,.st [.one [.str,.i .u64]] [(0,0,9),(0,1,12)]),
 (15,.sc (.p)),
 (16,.sc (.p)),
 (17,.sc (.p)),
 (18,.st [.one [.p]] [(0,0,17)]),
 (19,.st [.one [.p]] [(0,0,17)]),
 (21,.sc (.i .i32)),
 (22,.sc (.sl 31)),
 (23,.sc (.i .i8)),
 (24,.sc (.i .i8)),
 (25,.ar 81 1 24 (.arr .i8 81)),
 (26,.ar 8 1 23 (.arr .i8 8)),
 (27,.ar 2 8 26 (.arr .i8 16)),
 (28,.st [.arr .i8 81,.arr .i8 16,.one [.i .i8]] [(0,0,25),(1,0,27),(2,0,23)]),
 (29,.st [.arr .i8 81,.arr .i8 16,.one [.i .i8]] [(0,0,25),(1,0,27),(2,0,23)]),
 (30,.st [.arr .i8 81,.arr .i8 16,.one [.i .i8],.one [.i .i64,.i .i64]] [(0,0,29),(3,0,3),(3,1,3)]),
 (31,.st [.arr .i8 81,.arr .i8 16,.one [.i .i8],.one [.i .i64,.i .i64]] [(0,0,29),(3,0,3),(3,1,3)]),
 (32,.sc (.f)),
 (33,.sc (.f)),
 (34,.sc (.p)),
 (35,.sc (.f)),
 (36,.sc (.sl 41)),
 (37,.st [.one [.i .i64,.i .i64,.sl 41,.i .i64,.b]] [(0,0,3),(0,1,3),(0,2,36),(0,3,3),(0,4,4)]),
 (38,.st [.one [.i .i64,.i .i64,.sl 41,.i .i64,.b]] [(0,0,3),(0,1,3),(0,2,36),(0,3,3),(0,4,4)]),
 (39,.sc (.f)),
 (40,.st [.one [.i .i64,.i .i64,.i .i64,.b]] [(0,0,3),(0,1,3),(0,2,3),(0,3,4)]),
 (41,.st [.one [.i .i64,.i .i64,.i .i64,.b]] [(0,0,3),(0,1,3),(0,2,3),(0,3,4)]),
 (42,.sc (.f)),
 (43,.sc (.f)),
 (44,.sc (.f)),
 (45,.sc (.i .i64)),
 (47,.sc (.f)),
 (48,.sc (.f)),
 (49,.sc (.f)),
 (50,.sc (.f)),
 (51,.sc (.p)),
 (52,.sc (.f)),
 (54,.sc (.f)),
 (55,.sc (.f)),
 (56,.sc (.p)),
 (57,.sc (.f)),
 (58,.sc (.p)),
 (59,.st [.one [.p,.p,.i .i64,.i .i64]] [(0,0,58),(0,1,56),(0,2,3),(0,3,3)]),
 (60,.st [.one [.p,.p,.i .i64,.i .i64]] [(0,0,58),(0,1,56),(0,2,3),(0,3,3)]),
 (61,.sc (.i .u64)),
 (62,.sc (.i .u64)),
 (63,.sc (.sl 125)),
 (64,.st [.one [.p,.i .u64,.sl 125]] [(0,0,51),(0,1,62),(0,2,63)]),
 (65,.st [.one [.p,.i .u64,.sl 125]] [(0,0,51),(0,1,62),(0,2,63)]),
 (67,.sc (.f)),
 (68,.sc (.f)),
 (70,.sc (.f)),
 (71,.st [.one [.i .u64,.i .u64]] [(0,0,61),(0,1,61)]),
 (72,.st [.one [.i .u64,.i .u64]] [(0,0,61),(0,1,61)]),
 (73,.sc (.m 3 72)),
 (74,.st [.one [.p,.i .i64,.i .i64,.i .u64,.i .u64,.m 3 72,.b]] [(0,0,51),(0,1,3),(0,2,3),(0,3,72),(0,5,73),(0,6,4)]),
 (75,.st [.one [.p,.i .i64,.i .i64,.i .u64,.i .u64,.m 3 72,.b]] [(0,0,51),(0,1,3),(0,2,3),(0,3,72),(0,5,73),(0,6,4)]),
 (76,.sc (.f)),
 (77,.sc (.f)),
 (78,.sc (.f)),
 (79,.sc (.f)),
 (80,.sc (.f)),
 (81,.ar 32 1 72 (.rows [.i .u64,.i .u64] 32)),
 (82,.ar 2 1 72 (.rows [.i .u64,.i .u64] 2)),
 (83,.st [.arr .i8 81,.arr .i8 16,.one [.i .i8],.rows [.i .u64,.i .u64] 32,.rows [.i .u64,.i .u64] 2] [(0,0,29),(3,0,81),(4,0,82)]),
 (84,.st [.arr .i8 81,.arr .i8 16,.one [.i .i8],.rows [.i .u64,.i .u64] 32,.rows [.i .u64,.i .u64] 2] [(0,0,29),(3,0,81),(4,0,82)]),
 (85,.sc (.f)),
 (86,.sc (.f)),
 (87,.sc (.f)),
 (88,.sc (.f)),
 (89,.ar 81 1 4 (.barr 81)),
 (90,.sc (.f)),
 (91,.sc (.f)),
 (92,.sc (.f)),
 (93,.st [.one [.i .i64,.i .i64,.i .i64,.i .i64,.i .i64,.i .i64,.b]] [(0,0,3),(0,1,3),(0,2,3),(0,3,41)]),
 (94,.st [.one [.i .i64,.i .i64,.i .i64,.i .i64,.i .i64,.i .i64,.b]] [(0,0,3),(0,1,3),(0,2,3),(0,3,41)]),
 (96,.sc (.f)),
 (97,.sc (.f)),
 (98,.sc (.f)),
 (99,.sc (.f)),
 (100,.sc (.f)),
 (101,.sc (.f)),
 (102,.sc (.sl 135)),
 (103,.st [.one [.sl 135,.i .i64]] [(0,0,102),(0,1,3)]),
 (104,.st [.one [.sl 135,.i .i64]] [(0,0,102),(0,1,3)]),
 (105,.sc (.f)),
 (106,.sc (.f)),
 (107,.sc (.f)),
 (108,.sc (.f)),
 (109,.sc (.f)),
 (110,.sc (.sl 3)),
 (111,.sc (.f)),
 (112,.sc (.f)),
 (113,.sc (.f)),
 (114,.sc (.f)),
 (116,.sc (.f)),
 (117,.sc (.f)),
 (118,.sc (.f)),
 (120,.sc (.f)),
 (121,.sc (.f)),
 (122,.sc (.f)),
 (123,.sc (.f)),
 (124,.st [.one [.i .i64,.i .i64,.i .i64,.b,.i .i8,.i .i8]] [(0,0,41),(0,4,24),(0,5,24)]),
 (125,.st [.one [.i .i64,.i .i64,.i .i64,.b,.i .i8,.i .i8]] [(0,0,41),(0,4,24),(0,5,24)]),
 (126,.sc (.f)),
 (127,.sc (.f)),
 (128,.sc (.f)),
 (129,.sc (.f)),
 (130,.sc (.f)),
 (131,.ar 2 1 3 (.arr .i64 2)),
 (132,.sc (.p)),
 (133,.sc (.f)),
 (134,.st [.one [.b],.arr .i8 81,.arr .i8 16,.one [.i .i8],.one [.i .i64,.i .i64,.i .i64,.i .i64,.i .i64,.i .i64,.b]] [(0,0,4),(1,0,29),(4,0,94)]),
 (135,.st [.one [.b],.arr .i8 81,.arr .i8 16,.one [.i .i8],.one [.i .i64,.i .i64,.i .i64,.i .i64,.i .i64,.i .i64,.b]] [(0,0,4),(1,0,29),(4,0,94)]),
 (136,.sc (.f)),
 (137,.sc (.f)),
 (138,.sc (.sl 141)),
 (139,.sc (.f)),
 (140,.st [.one [.i .i64,.i .i64]] [(0,0,3),(0,1,3)]),
 (141,.st [.one [.i .i64,.i .i64]] [(0,0,3),(0,1,3)]),
 (142,.sc (.f)),
 (143,.sc (.f)),
 (144,.sc (.f)),
 (145,.sc (.f)),
 (146,.sc (.f)),
 (147,.sc (.f)),
 (148,.sc (.f)),
 (149,.sc (.f)),
 (150,.sc (.i .u64)),
 (151,.ar 64 1 5 (.arr .u8 64)),
 (152,.sc (.f)),
 (153,.st [.one [.p,.p,.p,.str]] [(0,0,17),(0,1,17),(0,2,17),(0,3,9)]),
 (154,.st [.one [.p,.p,.p,.str]] [(0,0,17),(0,1,17),(0,2,17),(0,3,9)]),
 (158,.sc (.i .u32)),
 (159,.sc (.i .u8)),
 (160,.sc (.i .u8)),
 (161,.sc (.f)),
 (162,.sc (.p)),
 (163,.sc (.i .i32)),
 (164,.sc (.i .i32)),
 (165,.st [.one [.i .u64,.i .u64,.i .u32,.i .u8,.i .u8,.i .u8,.i .u8,.f,.p,.i .i32,.i .i32]] [(0,0,12),(0,1,12),(0,2,158),(0,3,159),(0,4,5),(0,5,5),(0,6,160),(0,7,161),(0,8,162),(0,9,163),(0,10,164)]),
 (166,.st [.one [.i .u64,.i .u64,.i .u32,.i .u8,.i .u8,.i .u8,.i .u8,.f,.p,.i .i32,.i .i32]] [(0,0,12),(0,1,12),(0,2,158),(0,3,159),(0,4,5),(0,5,5),(0,6,160),(0,7,161),(0,8,162),(0,9,163),(0,10,164)])]
def eqs:List TypeId:=[3,25,26,27,28,29,40,41,71,72,131,140,141]
def bytes:List (TypeId×Nat):=[(31,120),(41,32),(125,40),(135,160),(3,8),(141,16)]
theorem mixed:Tryz.prog.follows .mixedOrders=true:=by kernel_rfl
theorem tab_ok:∀ t L,Tab.get tab t=some L->LayOK Tryz.prog tab t L:=qbi (P:=Tryz.prog) (tab:=tab) (l:=tab) (by kernel_rfl)
theorem eqs_ok:∀ t L,qDg t eqs=true->Tab.get tab t=some L->∃ f ck,f<=10000 /\ qA2 Tryz.prog f t=some ck /\ qBJ L.segTs=some ck /\ Tryz.prog.eqGuardType Tryz.prog.depth t=false:=qTb (P:=Tryz.prog) (tab:=tab) (l:=eqs) (by kernel_rfl)
theorem bytes_ok:∀ t n,byN t bytes=some n->∃ i,Tryz.prog.info? t=some i /\ i.bytes=n:=qSh (P:=Tryz.prog) (l:=bytes) (by kernel_rfl)
def mkC (nt:Nat) (orc:Orc) (keeps:List (Nat×List Nat×List Nat)) (lp:{R:Type}->Nat->List V->List Obj->(Ex->List V->List Obj->Option R)->Option R):Ctx:={tab:=tab,eqs:=eqs,bytes:=bytes,nt:=nt,orc:=orc,keeps:=keeps,lp:=lp}
theorem exts_ok:qRe Tryz.prog:=fun e h=>by cases h
theorem mkC_ok {nt:Nat} {orc:Orc} {keeps:List (Nat×List Nat×List Nat)} {lp:{R:Type}->Nat->List V->List Obj->(Ex->List V->List Obj->Option R)->Option R} (h:qB9 Tryz.prog orc):CtxOK Tryz.prog (mkC nt orc keeps lp):=⟨tab_ok,h,eqs_ok,bytes_ok,fun _ _ _=>rfl,exts_ok⟩
def kL0:List CK:=List.replicate 1 (.b)++List.replicate 98 (.i .i8)++List.replicate 6 (.i .i64)++List.replicate 1 (.b)
def kL1:List CK:=List.replicate 98 (.i .i8)++List.replicate 2 (.i .i64)
def table_Newc:Ctx:=mkC 14 (qH) [] qS
theorem table_Newc_ok:CtxOK Tryz.prog table_Newc:=mkC_ok (qI)
def table_Newd:V->List Obj->Option ((Int)⊕(Int×Nat×Int×Nat×LL)):=fun v objs=>match v,objs with
 | .tup [W.s .nilp,W.s (.i .i64 y0)],[]=>some (.inl (y0))
 | .tup [W.s (.ptr 0 0 none 0),W.s (.i .i64 y0)],[.cells 104 [.one [.sl 1 0 y1 true,.i .i64 y2]],.sli 135 false (.rows kk0 y3 y4)]=>bif decide (kk0=kL0) then some (.inr (y0,y1,y2,y3,y4)) else none
 | _,_=>none
theorem table_New_eq (x0:Int):fnE table_Newc Tryz.f25 ([.s (.i .i64 x0)]) ([]) table_Newd=qFv x0:=by kernel_rfl
def table_Newa:HA:=fun o vs objs K=>match vs,objs with
 | [.s (.i .i64 x0)],[]=>ob (qFv x0) fun t0=>sw t0 (fun y0=>K false (.tup [W.s .nilp,W.s (.i .i64 y0)]) ([])) (fun z=>K false (.tup [W.s (.ptr 0 0 none 0),W.s (.i .i64 (z.1))]) ([.cells 104 [.one [.sl 1 0 (z.2.1) true,.i .i64 (z.2.2.1)]],.sli 135 false (.rows kL0 (z.2.2.2.1) (z.2.2.2.2))]))
 | _,_=>o 25 vs objs K
def table_Newo (o:Orc):Orc:=qJ 25 (table_Newa o) o
theorem table_Newo_ok:OQ Tryz.prog table_Newo:=fun _ ho=>qK ho fun vs objs K r h=>by
 unfold table_Newa at h
 split at h
 ·skip
  obtain⟨t,h1,h2⟩:=qD h
  refine qV mixed table_Newc_ok ((table_New_eq _).trans h1) (by kernel_rfl) fun v objs' hd=>?_
  unfold table_Newd at hd
  split at hd
  ·skip
   cases hd
   exact h2
  ·skip
   have g:=(qR hd).1
   replace hd:=(qR hd).2
   obtain rfl:=of_decide_eq_true g
   cases hd
   exact h2
  ·cases hd
 ·exact ho _ _ _ _ _ h
def qZT:Ctx:=mkC 17 ((table_Newo qH)) [(2097152,[60,0,1],[])] qS
theorem qme:CtxOK Tryz.prog qZT:=mkC_ok ((table_Newo_ok _ qI))
def qZU:V->List Obj->Option ((Int)⊕((Int×Int×Int)⊕(Int×Int×Int×Nat×Int×Nat×LL))):=fun v objs=>match v,objs with
 | .tup [W.s .nilp,W.s (.i .i64 y0)],[]=>some (.inl (y0))
 | .tup [W.s (.ptr 0 0 none 0),W.s (.i .i64 y0)],[.cells 60 [.one [.nilp,.bad,.i .i64 y1,.i .i64 y2]]]=>some (.inr (.inl (y0,y1,y2)))
 | .tup [W.s (.ptr 0 0 none 0),W.s (.i .i64 y0)],[.cells 60 [.one [.ptr 1 0 none 0,.bad,.i .i64 y1,.i .i64 y2]],.cells 104 [.one [.sl 2 0 y3 true,.i .i64 y4]],.sli 135 false (.rows kk0 y5 y6)]=>bif decide (kk0=kL0) then some (.inr (.inr (y0,y1,y2,y3,y4,y5,y6))) else none
 | _,_=>none
theorem qmd (x0:Int):fnE qZT Tryz.f12 ([.s (.i .i64 x0)]) ([]) qZU=qEm x0:=by kernel_rfl
def qZS:HA:=fun o vs objs K=>match vs,objs with
 | [.s (.i .i64 x0)],[]=>ob (qEm x0) fun t0=>sw t0 (fun y0=>K false (.tup [W.s .nilp,W.s (.i .i64 y0)]) ([])) (fun t1=>sw t1 (fun z=>K false (.tup [W.s (.ptr 0 0 none 0),W.s (.i .i64 (z.1))]) ([.cells 60 [.one [.nilp,.bad,.i .i64 (z.2.1),.i .i64 (z.2.2)]]])) (fun z=>K false (.tup [W.s (.ptr 0 0 none 0),W.s (.i .i64 (z.1))]) ([.cells 60 [.one [.ptr 1 0 none 0,.bad,.i .i64 (z.2.1),.i .i64 (z.2.2.1)]],.cells 104 [.one [.sl 2 0 (z.2.2.2.1) true,.i .i64 (z.2.2.2.2.1)]],.sli 135 false (.rows kL0 (z.2.2.2.2.2.1) (z.2.2.2.2.2.2))])))
 | _,_=>o 12 vs objs K
def qP6 (o:Orc):Orc:=qJ 12 (qZS o) o
theorem qZV:OQ Tryz.prog qP6:=fun _ ho=>qK ho fun vs objs K r h=>by
 unfold qZS at h
 split at h
 ·skip
  obtain⟨t,h1,h2⟩:=qD h
  refine qV mixed qme ((qmd _).trans h1) (by kernel_rfl) fun v objs' hd=>?_
  unfold qZU at hd
  split at hd
  ·skip
   cases hd
   exact h2
  ·skip
   cases hd
   exact h2
  ·skip
   have g:=(qR hd).1
   replace hd:=(qR hd).2
   obtain rfl:=of_decide_eq_true g
   cases hd
   exact h2
  ·cases hd
 ·exact ho _ _ _ _ _ h
def qas:Ctx:=mkC 21 (qH) [] qS
theorem qnp:CtxOK Tryz.prog qas:=mkC_ok (qI)
def qat:V->List Obj->Option (Int×Int):=fun v objs=>match v,objs with
 | .agg [.one [.i .u64 y0,.i .u64 y1]],[]=>some (y0,y1)
 | _,_=>none
theorem qno (x0:Int):fnE qas Tryz.f111 ([.s (.i .i64 x0)]) ([]) qat=qEu x0:=by kernel_rfl
def qar:HA:=fun o vs objs K=>match vs,objs with
 | [.s (.i .i64 x0)],[]=>ob (qEu x0) fun z=>K false (.agg [.one [.i .u64 (z.1),.i .u64 (z.2)]]) ([])
 | _,_=>o 111 vs objs K
def qLO (o:Orc):Orc:=qJ 111 (qar o) o
theorem qQh:OQ Tryz.prog qLO:=fun _ ho=>qK ho fun vs objs K r h=>by
 unfold qar at h
 split at h
 ·skip
  obtain⟨t,h1,h2⟩:=qD h
  refine qV mixed qnp ((qno _).trans h1) (by kernel_rfl) fun v objs' hd=>?_
  unfold qat at hd;split at hd;(cases hd;exact h2);cases hd
 ·exact ho _ _ _ _ _ h
def qaM:Ctx:=mkC 16 (qH) [] qS
theorem qnO:CtxOK Tryz.prog qaM:=mkC_ok (qI)
def qaN:V->List Obj->Option (Int×Int):=fun v objs=>match v,objs with
 | .agg [.one [.i .u64 y0,.i .u64 y1]],[]=>some (y0,y1)
 | _,_=>none
theorem qnN (x0 x1:Int) (x2 x3:Int):fnE qaM Tryz.f69 ([.agg [.one [.i .u64 x0,.i .u64 x1]],.agg [.one [.i .u64 x2,.i .u64 x3]]]) ([]) qaN=qEq x0 x1 x2 x3:=by kernel_rfl
def qaL:HA:=fun o vs objs K=>match vs,objs with
 | [.agg [.one [.i .u64 x0,.i .u64 x1]],.agg [.one [.i .u64 x2,.i .u64 x3]]],[]=>ob (qEq x0 x1 x2 x3) fun z=>K false (.agg [.one [.i .u64 (z.1),.i .u64 (z.2)]]) ([])
 | _,_=>o 69 vs objs K
def qLH (o:Orc):Orc:=qJ 69 (qaL o) o
theorem qQU:OQ Tryz.prog qLH:=fun _ ho=>qK ho fun vs objs K r h=>by
 unfold qaL at h
 split at h
 ·skip
  obtain⟨t,h1,h2⟩:=qD h
  refine qV mixed qnO ((qnN _ _ _ _).trans h1) (by kernel_rfl) fun v objs' hd=>?_
  unfold qaN at hd;split at hd;(cases hd;exact h2);cases hd
 ·exact ho _ _ _ _ _ h
def qap:Ctx:=mkC 9 ((qLH (qLO qH))) [] qS
theorem qnm:CtxOK Tryz.prog qap:=mkC_ok ((qQU _ (qQh _ qI)))
def qaq:V->List Obj->Option (Int×Int):=fun v objs=>match v,objs with
 | .agg [.one [.i .u64 y0,.i .u64 y1]],[]=>some (y0,y1)
 | _,_=>none
theorem qnl (x0 x1 x2:Int):fnE qap Tryz.f73 ([.agg [.one [.i .u64 x0,.i .u64 x1]],.s (.i .i64 x2)]) ([]) qaq=qDu x0 x1 x2:=by kernel_rfl
def qao:HA:=fun o vs objs K=>match vs,objs with
 | [.agg [.one [.i .u64 x0,.i .u64 x1]],.s (.i .i64 x2)],[]=>ob (qDu x0 x1 x2) fun z=>K false (.agg [.one [.i .u64 (z.1),.i .u64 (z.2)]]) ([])
 | _,_=>o 73 vs objs K
def qI1 (o:Orc):Orc:=qJ 73 (qao o) o
theorem qLN:OQ Tryz.prog qI1:=fun _ ho=>qK ho fun vs objs K r h=>by
 unfold qao at h
 split at h
 ·skip
  obtain⟨t,h1,h2⟩:=qD h
  refine qV mixed qnm ((qnl _ _ _).trans h1) (by kernel_rfl) fun v objs' hd=>?_
  unfold qaq at hd;split at hd;(cases hd;exact h2);cases hd
 ·exact ho _ _ _ _ _ h
def qV3:Ctx:=mkC 28 (qH) [] qS
theorem qi7:CtxOK Tryz.prog qV3:=mkC_ok (qI)
def qV4:V->List Obj->Option (Int):=fun v objs=>match v,objs with
 | .s (.i .i64 y0),[]=>some (y0)
 | _,_=>none
theorem qi6 (x0:Int):fnE qV3 Tryz.f81 ([.s (.i .i8 x0)]) ([]) qV4=qAQ x0:=by kernel_rfl
def qV2:HA:=fun o vs objs K=>match vs,objs with
 | [.s (.i .i8 x0)],[]=>ob (qAQ x0) fun y0=>K false (.s (.i .i64 y0)) ([])
 | _,_=>o 81 vs objs K
def qCX (o:Orc):Orc:=qJ 81 (qV2 o) o
theorem qCi:OQ Tryz.prog qCX:=fun _ ho=>qK ho fun vs objs K r h=>by
 unfold qV2 at h
 split at h
 ·skip
  obtain⟨t,h1,h2⟩:=qD h
  refine qV mixed qi7 ((qi6 _).trans h1) (by kernel_rfl) fun v objs' hd=>?_
  unfold qV4 at hd;split at hd;(cases hd;exact h2);cases hd
 ·exact ho _ _ _ _ _ h
def qWD:Ctx:=mkC 10 ((qCX qH)) [] qS
theorem qjD:CtxOK Tryz.prog qWD:=mkC_ok ((qCi _ qI))
def qWE:V->List Obj->Option (Int):=fun v objs=>match v,objs with
 | .s (.i .i64 y0),[]=>some (y0)
 | _,_=>none
theorem qjC (x0:Int):fnE qWD Tryz.f80 ([.s (.i .i8 x0)]) ([]) qWE=qAy x0:=by kernel_rfl
def qWC:HA:=fun o vs objs K=>match vs,objs with
 | [.s (.i .i8 x0)],[]=>ob (qAy x0) fun y0=>K false (.s (.i .i64 y0)) ([])
 | _,_=>o 80 vs objs K
def qES (o:Orc):Orc:=qJ 80 (qWC o) o
theorem qFW:OQ Tryz.prog qES:=fun _ ho=>qK ho fun vs objs K r h=>by
 unfold qWC at h
 split at h
 ·skip
  obtain⟨t,h1,h2⟩:=qD h
  refine qV mixed qjD ((qjC _).trans h1) (by kernel_rfl) fun v objs' hd=>?_
  unfold qWE at hd;split at hd;(cases hd;exact h2);cases hd
 ·exact ho _ _ _ _ _ h
def qaY:Ctx:=mkC 16 (qH) [] qS
theorem qnY:CtxOK Tryz.prog qaY:=mkC_ok (qI)
def qaZ:V->List Obj->Option (Int×Int):=fun v objs=>match v,objs with
 | .agg [.one [.i .u64 y0,.i .u64 y1]],[]=>some (y0,y1)
 | _,_=>none
theorem qnX (x0 x1:Int) (x2 x3:Int):fnE qaY Tryz.f62 ([.agg [.one [.i .u64 x0,.i .u64 x1]],.agg [.one [.i .u64 x2,.i .u64 x3]]]) ([]) qaZ=qDM x0 x1 x2 x3:=by kernel_rfl
def qaX:HA:=fun o vs objs K=>match vs,objs with
 | [.agg [.one [.i .u64 x0,.i .u64 x1]],.agg [.one [.i .u64 x2,.i .u64 x3]]],[]=>ob (qDM x0 x1 x2 x3) fun z=>K false (.agg [.one [.i .u64 (z.1),.i .u64 (z.2)]]) ([])
 | _,_=>o 62 vs objs K
def qFn (o:Orc):Orc:=qJ 62 (qaX o) o
theorem qHb:OQ Tryz.prog qFn:=fun _ ho=>qK ho fun vs objs K r h=>by
 unfold qaX at h
 split at h
 ·skip
  obtain⟨t,h1,h2⟩:=qD h
  refine qV mixed qnY ((qnX _ _ _ _).trans h1) (by kernel_rfl) fun v objs' hd=>?_
  unfold qaZ at hd;split at hd;(cases hd;exact h2);cases hd
 ·exact ho _ _ _ _ _ h
def qam:Ctx:=mkC 9 ((qFn (qLO qH))) [] qS
theorem qnk:CtxOK Tryz.prog qam:=mkC_ok ((qHb _ (qQh _ qI)))
def qan:V->List Obj->Option (Int×Int):=fun v objs=>match v,objs with
 | .agg [.one [.i .u64 y0,.i .u64 y1]],[]=>some (y0,y1)
 | _,_=>none
theorem qnj (x0 x1 x2:Int):fnE qam Tryz.f82 ([.agg [.one [.i .u64 x0,.i .u64 x1]],.s (.i .i64 x2)]) ([]) qan=qA1 x0 x1 x2:=by kernel_rfl
def qal:HA:=fun o vs objs K=>match vs,objs with
 | [.agg [.one [.i .u64 x0,.i .u64 x1]],.s (.i .i64 x2)],[]=>ob (qA1 x0 x1 x2) fun z=>K false (.agg [.one [.i .u64 (z.1),.i .u64 (z.2)]]) ([])
 | _,_=>o 82 vs objs K
def qDt (o:Orc):Orc:=qJ 82 (qal o) o
theorem qEt:OQ Tryz.prog qDt:=fun _ ho=>qK ho fun vs objs K r h=>by
 unfold qal at h
 split at h
 ·skip
  obtain⟨t,h1,h2⟩:=qD h
  refine qV mixed qnk ((qnj _ _ _).trans h1) (by kernel_rfl) fun v objs' hd=>?_
  unfold qan at hd;split at hd;(cases hd;exact h2);cases hd
 ·exact ho _ _ _ _ _ h
def qSa:Ctx:=mkC 90 ((qDt (qCX (qES (qI1 qH))))) [] qS
theorem qd7:CtxOK Tryz.prog qSa:=mkC_ok ((qEt _ (qCi _ (qFW _ (qLN _ qI)))))
def qSb:V->List Obj->Option (LI×LI×Int×LL×LL):=fun v objs=>match v,objs with
 | .tup [],[.cells 84 [.arr .i8 81 y0,.arr .i8 16 y1,.one [.i .i8 y2],.rows [.i .u64,.i .u64] 32 y3,.rows [.i .u64,.i .u64] 2 y4]]=>some (y0,y1,y2,y3,y4)
 | _,_=>none
theorem qd6 (x0 x1:Int) (x2 x3:LI) (x4:Int) (x5 x6:LL):fnE qSa Tryz.f33 ([.s (.ptr 0 0 none 0),.s (.i .i64 x0),.s (.i .i8 x1)]) ([.cells 84 [.arr .i8 81 x2,.arr .i8 16 x3,.one [.i .i8 x4],.rows [.i .u64,.i .u64] 32 x5,.rows [.i .u64,.i .u64] 2 x6]]) qSb=qE9 x0 x1 x2 x3 x4 x5 x6:=by kernel_rfl
def qSZ:HA:=fun o vs objs K=>match vs,objs with
 | [.s (.ptr 0 0 none 0),.s (.i .i64 x0),.s (.i .i8 x1)],[.cells 84 [.arr .i8 81 x2,.arr .i8 16 x3,.one [.i .i8 x4],.rows [.i .u64,.i .u64] 32 x5,.rows [.i .u64,.i .u64] 2 x6]]=>ob (qE9 x0 x1 x2 x3 x4 x5 x6) fun z=>K false (.tup []) ([.cells 84 [.arr .i8 81 (z.1),.arr .i8 16 (z.2.1),.one [.i .i8 (z.2.2.1)],.rows [.i .u64,.i .u64] 32 (z.2.2.2.1),.rows [.i .u64,.i .u64] 2 (z.2.2.2.2)]])
 | _,_=>o 33 vs objs K
def qJY (o:Orc):Orc:=qJ 33 (qSZ o) o
theorem qMS:OQ Tryz.prog qJY:=fun _ ho=>qK ho fun vs objs K r h=>by
 unfold qSZ at h
 split at h
 ·skip
  obtain⟨t,h1,h2⟩:=qD h
  refine qV mixed qd7 ((qd6 _ _ _ _ _ _ _).trans h1) (by kernel_rfl) fun v objs' hd=>?_
  unfold qSb at hd;split at hd;(cases hd;exact h2);cases hd
 ·exact ho _ _ _ _ _ h
def qMO:Ex->List V->List Obj->Option (LI×LI×Int×LL×LL):=fun e vs objs=>match e,vs,objs with
 | .exit 0,[.s (.ptr 0 0 none 0)],[.cells 84 [.arr .i8 81 y0,.arr .i8 16 y1,.one [.i .i8 y2],.rows [.i .u64,.i .u64] 32 y3,.rows [.i .u64,.i .u64] 2 y4]]=>some (y0,y1,y2,y3,y4)
 | _,_,_=>none
def qMQ:HL:=fun vs objs K=>match vs,objs with
 | [.s (.ptr 0 0 none 0),.agg [.arr .i8 81 x0],.s (.i .i64 x1)],[.cells 84 [.arr .i8 81 x2,.arr .i8 16 x3,.one [.i .i8 x4],.rows [.i .u64,.i .u64] 32 x5,.rows [.i .u64,.i .u64] 2 x6]]=>ob (qDX qC x0 x1 x2 x3 x4 x5 x6) fun z=>K (.exit 0) ([.s (.ptr 0 0 none 0)]) ([.cells 84 [.arr .i8 81 (z.1),.arr .i8 16 (z.2.1),.one [.i .i8 (z.2.2.1)],.rows [.i .u64,.i .u64] 32 (z.2.2.2.1),.rows [.i .u64,.i .u64] 2 (z.2.2.2.2)]])
 | _,_=>none
def qdz:{R:Type}->Nat->List V->List Obj->(Ex->List V->List Obj->Option R)->Option R:=fun q vs objs K=>bif Nat.beq q 4 then qMQ vs objs K else none
def qJX:Ctx:=mkC 32 ((qJY qH)) [(4,[3,21,22],[3])] qdz
theorem qSO:CtxOK Tryz.prog qJX:=mkC_ok ((qMS _ qI))
def qMP (f:Nat) (x0:LI) (x1:Int) (x2 x3:LI) (x4:Int) (x5 x6:LL):Option (LI×LI×Int×LL×LL):=qe qJX 0 [3,21,22] [3] (qF Tryz.f15 4) f ([.s (.ptr 0 0 none 0),.agg [.arr .i8 81 x0],.s (.i .i64 x1)]) ([.cells 84 [.arr .i8 81 x2,.arr .i8 16 x3,.one [.i .i8 x4],.rows [.i .u64,.i .u64] 32 x5,.rows [.i .u64,.i .u64] 2 x6]]) qMO
theorem qdy (f:Nat) (x0:LI) (x1:Int) (x2 x3:LI) (x4:Int) (x5 x6:LL):qMP (f+1) x0 x1 x2 x3 x4 x5 x6=qGA (qMP f) x0 x1 x2 x3 x4 x5 x6:=by kernel_rfl
theorem qSQ:∀ f,qMP f=qDX f
 | 0=>rfl
 | f+1=>by funext x0 x1 x2 x3 x4 x5 x6;rw[qdy,qSQ f];rfl
theorem qd1:qc Tryz.prog qJX 0 (qF Tryz.f15 4):=
 qg mixed qSO (qP.of (l':=[]) (by kernel_rfl) trivial) (q:=4) (kin:=[3,21,22]) (kout:=[3]) (by kernel_rfl) (by kernel_rfl) fun vs objs K r h=>by
  replace h:qMQ vs objs K=some r:=h
  unfold qMQ at h
  split at h
  ·skip
   obtain⟨t,h1,h2⟩:=qD h
   rw[<- qSQ] at h1
   refine⟨_,qMO,t,qC,h1,fun e vs' objs' hd=>?_⟩
   unfold qMO at hd;split at hd;(cases hd;exact h2);cases hd
  ·cases h
def qSP:V->List Obj->Option (LI×LI×Int×LL×LL):=fun v objs=>match v,objs with
 | .s (.ptr 0 0 none 0),[.cells 84 [.arr .i8 81 y0,.arr .i8 16 y1,.one [.i .i8 y2],.rows [.i .u64,.i .u64] 32 y3,.rows [.i .u64,.i .u64] 2 y4]]=>some (y0,y1,y2,y3,y4)
 | _,_=>none
theorem qdx (x0 x1:LI) (x2:Int):fnE qJX Tryz.f15 ([.agg [.arr .i8 81 x0,.arr .i8 16 x1,.one [.i .i8 x2]]]) ([]) qSP=qHz x0 x1 x2:=by kernel_rfl
def qSN:HA:=fun o vs objs K=>match vs,objs with
 | [.agg [.arr .i8 81 x0,.arr .i8 16 x1,.one [.i .i8 x2]]],[]=>ob (qHz x0 x1 x2) fun z=>K false (.s (.ptr 0 0 none 0)) ([.cells 84 [.arr .i8 81 (z.1),.arr .i8 16 (z.2.1),.one [.i .i8 (z.2.2.1)],.rows [.i .u64,.i .u64] 32 (z.2.2.2.1),.rows [.i .u64,.i .u64] 2 (z.2.2.2.2)]])
 | _,_=>o 15 vs objs K
def qSR (o:Orc):Orc:=qJ 15 (qSN o) o
theorem qd0:OQ Tryz.prog qSR:=fun _ ho=>qK ho fun vs objs K r h=>by
 unfold qSN at h
 split at h
 ·skip
  obtain⟨t,h1,h2⟩:=qD h
  refine qAM mixed qSO (fn:=Tryz.f15) (b:=(Tryz.f15).body.getD .skip) (by kernel_rfl) (by kernel_rfl) (by kernel_rfl) ((qdx _ _ _).trans h1) (m:=0) rfl (qP.of (l':=[qF Tryz.f15 4]) (by kernel_rfl) ⟨qd1,trivial⟩) fun v objs' hd=>?_
  unfold qSP at hd;split at hd;(cases hd;exact h2);cases hd
 ·exact ho _ _ _ _ _ h
def qUn:Ctx:=mkC 19 (qH) [] qS
theorem qgq:CtxOK Tryz.prog qUn:=mkC_ok (qI)
def qUo:V->List Obj->Option (Int):=fun v objs=>match v,objs with
 | .s (.i .u64 y0),[]=>some (y0)
 | _,_=>none
theorem qgp (x0:Int):fnE qUn Tryz.f118 ([.s (.i .u64 x0)]) ([]) qUo=qFM x0:=by kernel_rfl
def qUm:HA:=fun o vs objs K=>match vs,objs with
 | [.s (.i .u64 x0)],[]=>ob (qFM x0) fun y0=>K false (.s (.i .u64 y0)) ([])
 | _,_=>o 118 vs objs K
def qJ1 (o:Orc):Orc:=qJ 118 (qUm o) o
theorem qNX:OQ Tryz.prog qJ1:=fun _ ho=>qK ho fun vs objs K r h=>by
 unfold qUm at h
 split at h
 ·skip
  obtain⟨t,h1,h2⟩:=qD h
  refine qV mixed qgq ((qgp _).trans h1) (by kernel_rfl) fun v objs' hd=>?_
  unfold qUo at hd;split at hd;(cases hd;exact h2);cases hd
 ·exact ho _ _ _ _ _ h
def qUd:Ctx:=mkC 23 ((qJ1 (qCX qH))) [] qS
theorem qgm:CtxOK Tryz.prog qUd:=mkC_ok ((qNX _ (qCi _ qI)))
def qUe:V->List Obj->Option (Int):=fun v objs=>match v,objs with
 | .s (.i .u64 y0),[]=>some (y0)
 | _,_=>none
theorem qgl (x0 x1:Int):fnE qUd Tryz.f93 ([.s (.i .i64 x0),.s (.i .i8 x1)]) ([]) qUe=qFL x0 x1:=by kernel_rfl
def qUc:HA:=fun o vs objs K=>match vs,objs with
 | [.s (.i .i64 x0),.s (.i .i8 x1)],[]=>ob (qFL x0 x1) fun y0=>K false (.s (.i .u64 y0)) ([])
 | _,_=>o 93 vs objs K
def qNV (o:Orc):Orc:=qJ 93 (qUc o) o
theorem qUf:OQ Tryz.prog qNV:=fun _ ho=>qK ho fun vs objs K r h=>by
 unfold qUc at h
 split at h
 ·skip
  obtain⟨t,h1,h2⟩:=qD h
  refine qV mixed qgm ((qgl _ _).trans h1) (by kernel_rfl) fun v objs' hd=>?_
  unfold qUe at hd;split at hd;(cases hd;exact h2);cases hd
 ·exact ho _ _ _ _ _ h
def qUT:Ctx:=mkC 41 ((qJ1 qH)) [] qS
theorem qgc:CtxOK Tryz.prog qUT:=mkC_ok ((qNX _ qI))
def qUU:V->List Obj->Option (Int):=fun v objs=>match v,objs with
 | .s (.i .u64 y0),[]=>some (y0)
 | _,_=>none
theorem qgb (x0 x1 x2:Int):fnE qUT Tryz.f94 ([.s (.i .i64 x0),.s (.i .i64 x1),.s (.i .i64 x2)]) ([]) qUU=qFJ x0 x1 x2:=by kernel_rfl
def qUS:HA:=fun o vs objs K=>match vs,objs with
 | [.s (.i .i64 x0),.s (.i .i64 x1),.s (.i .i64 x2)],[]=>ob (qFJ x0 x1 x2) fun y0=>K false (.s (.i .u64 y0)) ([])
 | _,_=>o 94 vs objs K
def qNK (o:Orc):Orc:=qJ 94 (qUS o) o
theorem qUV:OQ Tryz.prog qNK:=fun _ ho=>qK ho fun vs objs K r h=>by
 unfold qUS at h
 split at h
 ·skip
  obtain⟨t,h1,h2⟩:=qD h
  refine qV mixed qgc ((qgb _ _ _).trans h1) (by kernel_rfl) fun v objs' hd=>?_
  unfold qUU at hd;split at hd;(cases hd;exact h2);cases hd
 ·exact ho _ _ _ _ _ h
def qUh:Ctx:=mkC 2 ((qJ1 qH)) [] qS
theorem qgo:CtxOK Tryz.prog qUh:=mkC_ok ((qNX _ qI))
def qUi:V->List Obj->Option (Int):=fun v objs=>match v,objs with
 | .s (.i .u64 y0),[]=>some (y0)
 | _,_=>none
theorem qgn:fnE qUh Tryz.f95 ([]) ([]) qUi=qGh  := by kernel_rfl
def qUg:HA:=fun o vs objs K=>match vs,objs with
 | [],[]=>ob (qGh ) fun y0=>K false (.s (.i .u64 y0)) ([])
 | _,_=>o 95 vs objs K
def qNW (o:Orc):Orc:=qJ 95 (qUg o) o
theorem qUj:OQ Tryz.prog qNW:=fun _ ho=>qK ho fun vs objs K r h=>by
 unfold qUg at h
 split at h
 ·skip
  obtain⟨t,h1,h2⟩:=qD h
  refine qV mixed qgo ((qgn).trans h1) (by kernel_rfl) fun v objs' hd=>?_
  unfold qUi at hd;split at hd;(cases hd;exact h2);cases hd
 ·exact ho _ _ _ _ _ h
def qNN:Ex->List V->List Obj->Option (Int×LI×LI×Int):=fun e vs objs=>match e,vs,objs with
 | .exit 0,[.s (.ptr 0 0 none 0),.s (.i .u64 y0)],[.cells 29 [.arr .i8 81 y1,.arr .i8 16 y2,.one [.i .i8 y3]]]=>some (y0,y1,y2,y3)
 | _,_,_=>none
def qNL:Ex->List V->List Obj->Option (Int×LI×Int×LI×LI×Int):=fun e vs objs=>match e,vs,objs with
 | .exit 4,[.s (.ptr 0 0 none 0),.s (.i .u64 y0),.agg [.arr .i8 16 y1],.s (.i .i64 y2)],[.cells 29 [.arr .i8 81 y3,.arr .i8 16 y4,.one [.i .i8 y5]]]=>some (y0,y1,y2,y3,y4,y5)
 | _,_,_=>none
def qNP:Ex->List V->List Obj->Option (Int×LI×LI×Int):=fun e vs objs=>match e,vs,objs with
 | .exit 2,[.s (.ptr 0 0 none 0),.s (.i .u64 y0)],[.cells 29 [.arr .i8 81 y1,.arr .i8 16 y2,.one [.i .i8 y3]]]=>some (y0,y1,y2,y3)
 | _,_,_=>none
def qNT:HL:=fun vs objs K=>match vs,objs with
 | [.s (.ptr 0 0 none 0),.s (.i .u64 x0),.agg [.arr .i8 81 x1],.s (.i .i64 x2)],[.cells 29 [.arr .i8 81 x3,.arr .i8 16 x4,.one [.i .i8 x5]]]=>ob (qEM qC x0 x1 x2 x3 x4 x5) fun z=>K (.exit 0) ([.s (.ptr 0 0 none 0),.s (.i .u64 (z.1))]) ([.cells 29 [.arr .i8 81 (z.2.1),.arr .i8 16 (z.2.2.1),.one [.i .i8 (z.2.2.2)]]])
 | _,_=>none
def qNS:HL:=fun vs objs K=>match vs,objs with
 | [.s (.ptr 0 0 none 0),.s (.i .u64 x0),.s (.i .i64 x1),.agg [.arr .i8 16 x2],.s (.i .i64 x3),.agg [.arr .i8 8 x4],.s (.i .i64 x5)],[.cells 29 [.arr .i8 81 x6,.arr .i8 16 x7,.one [.i .i8 x8]]]=>ob (qFK qC x0 x1 x2 x3 x4 x5 x6 x7 x8) fun z=>K (.exit 4) ([.s (.ptr 0 0 none 0),.s (.i .u64 (z.1)),.agg [.arr .i8 16 (z.2.1)],.s (.i .i64 (z.2.2.1))]) ([.cells 29 [.arr .i8 81 (z.2.2.2.1),.arr .i8 16 (z.2.2.2.2.1),.one [.i .i8 (z.2.2.2.2.2)]]])
 | _,_=>none
def qNU:HL:=fun vs objs K=>match vs,objs with
 | [.s (.ptr 0 0 none 0),.s (.i .u64 x0),.agg [.arr .i8 16 x1],.s (.i .i64 x2)],[.cells 29 [.arr .i8 81 x3,.arr .i8 16 x4,.one [.i .i8 x5]]]=>ob (qEN qC x0 x1 x2 x3 x4 x5) fun z=>K (.exit 2) ([.s (.ptr 0 0 none 0),.s (.i .u64 (z.1))]) ([.cells 29 [.arr .i8 81 (z.2.1),.arr .i8 16 (z.2.2.1),.one [.i .i8 (z.2.2.2)]]])
 | _,_=>none
def qgh:{R:Type}->Nat->List V->List Obj->(Ex->List V->List Obj->Option R)->Option R:=fun q vs objs K=>bif Nat.beq q 3 then qNT vs objs K else bif Nat.beq q 11 then qNS vs objs K else bif Nat.beq q 8 then qNU vs objs K else none
def qEL:Ctx:=mkC 49 ((qNW (qNK (qNV qH)))) [(3,[1,3,11,12],[1,3]),(8,[1,3,23,24],[1,3]),(11,[1,3,6,23,24,28,29],[1,3,23,24])] qgh
theorem qJ0:CtxOK Tryz.prog qEL:=mkC_ok ((qUj _ (qUV _ (qUf _ qI))))
def qNO (f:Nat) (x0:Int) (x1:LI) (x2:Int) (x3 x4:LI) (x5:Int):Option (Int×LI×LI×Int):=qe qEL 0 [1,3,11,12] [1,3] (qF Tryz.f44 3) f ([.s (.ptr 0 0 none 0),.s (.i .u64 x0),.agg [.arr .i8 81 x1],.s (.i .i64 x2)]) ([.cells 29 [.arr .i8 81 x3,.arr .i8 16 x4,.one [.i .i8 x5]]]) qNN
theorem qgf (f:Nat) (x0:Int) (x1:LI) (x2:Int) (x3 x4:LI) (x5:Int):qNO (f+1) x0 x1 x2 x3 x4 x5=qGf (qNO f) x0 x1 x2 x3 x4 x5:=by kernel_rfl
theorem qUZ:∀ f,qNO f=qEM f
 | 0=>rfl
 | f+1=>by funext x0 x1 x2 x3 x4 x5;rw[qgf,qUZ f];rfl
def qNM (f:Nat) (x0 x1:Int) (x2:LI) (x3:Int) (x4:LI) (x5:Int) (x6 x7:LI) (x8:Int):Option (Int×LI×Int×LI×LI×Int):=qe qEL 0 [1,3,6,23,24,28,29] [1,3,23,24] (qF Tryz.f44 11) f ([.s (.ptr 0 0 none 0),.s (.i .u64 x0),.s (.i .i64 x1),.agg [.arr .i8 16 x2],.s (.i .i64 x3),.agg [.arr .i8 8 x4],.s (.i .i64 x5)]) ([.cells 29 [.arr .i8 81 x6,.arr .i8 16 x7,.one [.i .i8 x8]]]) qNL
theorem qge (f:Nat) (x0 x1:Int) (x2:LI) (x3:Int) (x4:LI) (x5:Int) (x6 x7:LI) (x8:Int):qNM (f+1) x0 x1 x2 x3 x4 x5 x6 x7 x8=qGe (qNM f) x0 x1 x2 x3 x4 x5 x6 x7 x8:=by kernel_rfl
theorem qUY:∀ f,qNM f=qFK f
 | 0=>rfl
 | f+1=>by funext x0 x1 x2 x3 x4 x5 x6 x7 x8;rw[qge,qUY f];rfl
def qNQ (f:Nat) (x0:Int) (x1:LI) (x2:Int) (x3 x4:LI) (x5:Int):Option (Int×LI×LI×Int):=qe qEL 0 [1,3,23,24] [1,3] (qF Tryz.f44 8) f ([.s (.ptr 0 0 none 0),.s (.i .u64 x0),.agg [.arr .i8 16 x1],.s (.i .i64 x2)]) ([.cells 29 [.arr .i8 81 x3,.arr .i8 16 x4,.one [.i .i8 x5]]]) qNP
theorem qgg (f:Nat) (x0:Int) (x1:LI) (x2:Int) (x3 x4:LI) (x5:Int):qNQ (f+1) x0 x1 x2 x3 x4 x5=qGg (qNQ f) x0 x1 x2 x3 x4 x5:=by kernel_rfl
theorem qUa:∀ f,qNQ f=qEN f
 | 0=>rfl
 | f+1=>by funext x0 x1 x2 x3 x4 x5;rw[qgg,qUa f];rfl
theorem qgj:qc Tryz.prog qEL 0 (qF Tryz.f44 3):=
 qg mixed qJ0 (qP.of (l':=[]) (by kernel_rfl) trivial) (q:=3) (kin:=[1,3,11,12]) (kout:=[1,3]) (by kernel_rfl) (by kernel_rfl) fun vs objs K r h=>by
  replace h:qNT vs objs K=some r:=h
  unfold qNT at h
  split at h
  ·skip
   obtain⟨t,h1,h2⟩:=qD h
   rw[<- qUZ] at h1
   refine⟨_,qNN,t,qC,h1,fun e vs' objs' hd=>?_⟩
   unfold qNN at hd;split at hd;(cases hd;exact h2);cases hd
  ·cases h
theorem qgi:qc Tryz.prog qEL 0 (qF Tryz.f44 11):=
 qg mixed qJ0 (qP.of (l':=[]) (by kernel_rfl) trivial) (q:=11) (kin:=[1,3,6,23,24,28,29]) (kout:=[1,3,23,24]) (by kernel_rfl) (by kernel_rfl) fun vs objs K r h=>by
  replace h:qNS vs objs K=some r:=h
  unfold qNS at h
  split at h
  ·skip
   obtain⟨t,h1,h2⟩:=qD h
   rw[<- qUY] at h1
   refine⟨_,qNL,t,qC,h1,fun e vs' objs' hd=>?_⟩
   unfold qNL at hd;split at hd;(cases hd;exact h2);cases hd
  ·cases h
theorem qgk:qc Tryz.prog qEL 0 (qF Tryz.f44 8):=
 qg mixed qJ0 (qP.of (l':=[qF Tryz.f44 11]) (by kernel_rfl) ⟨qgi,trivial⟩) (q:=8) (kin:=[1,3,23,24]) (kout:=[1,3]) (by kernel_rfl) (by kernel_rfl) fun vs objs K r h=>by
  replace h:qNU vs objs K=some r:=h
  unfold qNU at h
  split at h
  ·skip
   obtain⟨t,h1,h2⟩:=qD h
   rw[<- qUa] at h1
   refine⟨_,qNP,t,qC,h1,fun e vs' objs' hd=>?_⟩
   unfold qNP at hd;split at hd;(cases hd;exact h2);cases hd
  ·cases h
def qUX:V->List Obj->Option (Int):=fun v objs=>match v,objs with
 | .s (.i .u64 y0),[]=>some (y0)
 | _,_=>none
theorem qgd (x0 x1:LI) (x2:Int):fnE qEL Tryz.f44 ([.agg [.arr .i8 81 x0,.arr .i8 16 x1,.one [.i .i8 x2]]]) ([]) qUX=qEK x0 x1 x2:=by kernel_rfl
def qUW:HA:=fun o vs objs K=>match vs,objs with
 | [.agg [.arr .i8 81 x0,.arr .i8 16 x1,.one [.i .i8 x2]]],[]=>ob (qEK x0 x1 x2) fun y0=>K false (.s (.i .u64 y0)) ([])
 | _,_=>o 44 vs objs K
def qNR (o:Orc):Orc:=qJ 44 (qUW o) o
theorem qUb:OQ Tryz.prog qNR:=fun _ ho=>qK ho fun vs objs K r h=>by
 unfold qUW at h
 split at h
 ·skip
  obtain⟨t,h1,h2⟩:=qD h
  refine qAM mixed qJ0 (fn:=Tryz.f44) (b:=(Tryz.f44).body.getD .skip) (by kernel_rfl) (by kernel_rfl) (by kernel_rfl) ((qgd _ _ _).trans h1) (m:=0) rfl (qP.of (l':=[qF Tryz.f44 3,qF Tryz.f44 8]) (by kernel_rfl) ⟨qgj,qgk,trivial⟩) fun v objs' hd=>?_
  unfold qUX at hd;split at hd;(cases hd;exact h2);cases hd
 ·exact ho _ _ _ _ _ h
def qTS:Ctx:=mkC 14 ((qNR (qSR qH))) [] qS
theorem qfB:CtxOK Tryz.prog qTS:=mkC_ok ((qUb _ (qd0 _ qI)))
def qTT:V->List Obj->Option (Int×Nat×LI×LI×Int×LL×LL×Nat×LL):=fun v objs=>match v,objs with
 | .s (.ptr 0 0 none 0),[.cells 65 [.one [.ptr 1 0 none 0,.i .u64 y0,.sl 2 0 y1 true]],.cells 84 [.arr .i8 81 y2,.arr .i8 16 y3,.one [.i .i8 y4],.rows [.i .u64,.i .u64] 32 y5,.rows [.i .u64,.i .u64] 2 y6],.sli 125 false (.rows [.i .i64,.i .i64,.i .i64,.b,.i .i8,.i .i8] y7 y8)]=>some (y0,y1,y2,y3,y4,y5,y6,y7,y8)
 | _,_=>none
theorem qfA (x0 x1:LI) (x2:Int):fnE qTS Tryz.f19 ([.agg [.arr .i8 81 x0,.arr .i8 16 x1,.one [.i .i8 x2]]]) ([]) qTT=qGK x0 x1 x2:=by kernel_rfl
def qTR:HA:=fun o vs objs K=>match vs,objs with
 | [.agg [.arr .i8 81 x0,.arr .i8 16 x1,.one [.i .i8 x2]]],[]=>ob (qGK x0 x1 x2) fun z=>K false (.s (.ptr 0 0 none 0)) ([.cells 65 [.one [.ptr 1 0 none 0,.i .u64 (z.1),.sl 2 0 (z.2.1) true]],.cells 84 [.arr .i8 81 (z.2.2.1),.arr .i8 16 (z.2.2.2.1),.one [.i .i8 (z.2.2.2.2.1)],.rows [.i .u64,.i .u64] 32 (z.2.2.2.2.2.1),.rows [.i .u64,.i .u64] 2 (z.2.2.2.2.2.2.1)],.sli 125 false (.rows [.i .i64,.i .i64,.i .i64,.b,.i .i8,.i .i8] (z.2.2.2.2.2.2.2.1) (z.2.2.2.2.2.2.2.2))])
 | _,_=>o 19 vs objs K
def qMm (o:Orc):Orc:=qJ 19 (qTR o) o
theorem qTU:OQ Tryz.prog qMm:=fun _ ho=>qK ho fun vs objs K r h=>by
 unfold qTR at h
 split at h
 ·skip
  obtain⟨t,h1,h2⟩:=qD h
  refine qV mixed qfB ((qfA _ _ _).trans h1) (by kernel_rfl) fun v objs' hd=>?_
  unfold qTT at hd;split at hd;(cases hd;exact h2);cases hd
 ·exact ho _ _ _ _ _ h
def qV6:Ctx:=mkC 28 (qH) [] qS
theorem qi9:CtxOK Tryz.prog qV6:=mkC_ok (qI)
def qV7:V->List Obj->Option (Int):=fun v objs=>match v,objs with
 | .s (.i .i8 y0),[]=>some (y0)
 | _,_=>none
theorem qi8 (x0 x1:Int):fnE qV6 Tryz.f78 ([.s (.i .i64 x0),.s (.i .i64 x1)]) ([]) qV7=qBj x0 x1:=by kernel_rfl
def qV5:HA:=fun o vs objs K=>match vs,objs with
 | [.s (.i .i64 x0),.s (.i .i64 x1)],[]=>ob (qBj x0 x1) fun y0=>K false (.s (.i .i8 y0)) ([])
 | _,_=>o 78 vs objs K
def qFV (o:Orc):Orc:=qJ 78 (qV5 o) o
theorem qGv:OQ Tryz.prog qFV:=fun _ ho=>qK ho fun vs objs K r h=>by
 unfold qV5 at h
 split at h
 ·skip
  obtain⟨t,h1,h2⟩:=qD h
  refine qV mixed qi9 ((qi8 _ _).trans h1) (by kernel_rfl) fun v objs' hd=>?_
  unfold qV7 at hd;split at hd;(cases hd;exact h2);cases hd
 ·exact ho _ _ _ _ _ h
def qST:Ctx:=mkC 20 ((qFV qH)) [] qS
theorem qd3:CtxOK Tryz.prog qST:=mkC_ok ((qGv _ qI))
def qSU:V->List Obj->Option (Int×Int):=fun v objs=>match v,objs with
 | .agg [.one [.i .u64 y0,.i .u64 y1]],[]=>some (y0,y1)
 | _,_=>none
theorem qd2 (x0 x1:Int) (x2 x3:LI) (x4:Int) (x5 x6:LL):fnE qST Tryz.f63 ([.s (.ptr 0 0 none 0),.s (.i .i64 x0),.s (.i .i64 x1)]) ([.rcells 84 [.arr .i8 81 x2,.arr .i8 16 x3,.one [.i .i8 x4],.rows [.i .u64,.i .u64] 32 x5,.rows [.i .u64,.i .u64] 2 x6]]) (qAg 1 qSU)=qCw x0 x1 x2 x3 x4 x5 x6:=by kernel_rfl
def qSS:HA:=fun o vs objs K=>match vs,List.map Obj.toRO objs with
 | [.s (.ptr 0 0 none 0),.s (.i .i64 x0),.s (.i .i64 x1)],[.rcells 84 [.arr .i8 81 x2,.arr .i8 16 x3,.one [.i .i8 x4],.rows [.i .u64,.i .u64] 32 x5,.rows [.i .u64,.i .u64] 2 x6]]=>ob (qCw x0 x1 x2 x3 x4 x5 x6) fun z=>K true (.agg [.one [.i .u64 (z.1),.i .u64 (z.2)]]) ([])
 | _,_=>o 63 vs objs K
def qGB (o:Orc):Orc:=qJ 63 (qSS o) o
theorem qH0:OQ Tryz.prog qGB:=fun _ ho=>qK ho fun vs objs K r h=>by
 unfold qSS at h
 split at h
 ·skip
  have hq:List.map Obj.toRO objs=_:=(by rename_i hq;first | exact hq | assumption)
  obtain⟨t,h1,h2⟩:=qD h
  refine qAv mixed qd3 (m:=1) (fn:=Tryz.f63) (b:=(Tryz.f63).body.getD .skip) (by kernel_rfl) (by kernel_rfl) (by kernel_rfl) hq (by kernel_rfl) (by kernel_rfl) (qP.of (l':=[]) (by kernel_rfl) trivial) ((qd2 _ _ _ _ _ _ _).trans h1) fun v objs' hd=>?_
  unfold qSU at hd;split at hd;(cases hd;exact h2);cases hd
 ·exact ho _ _ _ _ _ h
def qMI:Ctx:=mkC 14 (qH) [] qS
theorem qdm:CtxOK Tryz.prog qMI:=mkC_ok (qI)
def qMJ:V->List Obj->Option (Int):=fun v objs=>match v,objs with
 | .s (.i .i64 y0),[]=>some (y0)
 | _,_=>none
theorem qdl (B:{R:Type}->Bool->Option R->Option R->Option R) (x0:Int):fnE { qMI with brg:=B } Tryz.f106 ([.s (.i .u64 x0)]) ([]) qMJ=qMH B x0:=by kernel_rfl
theorem qdk (x0:Int):fnE qMI Tryz.f106 ([.s (.i .u64 x0)]) ([]) qMJ=qD7 x0:=qdl br x0
def qR8:HA:=fun o vs objs K=>match vs,objs with
 | [.s (.i .u64 x0)],[]=>ob (qD7 x0) fun y0=>K false (.s (.i .i64 y0)) ([])
 | _,_=>o 106 vs objs K
def qMK (o:Orc):Orc:=qJ 106 (qR8 o) o
theorem qR9:OQ Tryz.prog qMK:=fun _ ho=>qK ho fun vs objs K r h=>by
 unfold qR8 at h
 split at h
 ·skip
  obtain⟨t,h1,h2⟩:=qD h
  refine qV mixed qdm ((qdk _).trans h1) (by kernel_rfl) fun v objs' hd=>?_
  unfold qMJ at hd;split at hd;(cases hd;exact h2);cases hd
 ·exact ho _ _ _ _ _ h
def qaA:Ctx:=mkC 18 ((qMK qH)) [] qS
theorem qnF:CtxOK Tryz.prog qaA:=mkC_ok ((qR9 _ qI))
def qaB:V->List Obj->Option (Int):=fun v objs=>match v,objs with
 | .s (.i .i64 y0),[]=>some (y0)
 | _,_=>none
theorem qnE (x0 x1:Int):fnE qaA Tryz.f61 ([.agg [.one [.i .u64 x0,.i .u64 x1]]]) ([]) qaB=qFl x0 x1:=by kernel_rfl
def qZ9:HA:=fun o vs objs K=>match vs,objs with
 | [.agg [.one [.i .u64 x0,.i .u64 x1]]],[]=>ob (qFl x0 x1) fun y0=>K false (.s (.i .i64 y0)) ([])
 | _,_=>o 61 vs objs K
def qLE (o:Orc):Orc:=qJ 61 (qZ9 o) o
theorem qQQ:OQ Tryz.prog qLE:=fun _ ho=>qK ho fun vs objs K r h=>by
 unfold qZ9 at h
 split at h
 ·skip
  obtain⟨t,h1,h2⟩:=qD h
  refine qV mixed qnF ((qnE _ _).trans h1) (by kernel_rfl) fun v objs' hd=>?_
  unfold qaB at hd;split at hd;(cases hd;exact h2);cases hd
 ·exact ho _ _ _ _ _ h
def qSL:Ctx:=mkC 9 ((qLE (qGB qH))) [] qS
theorem qdw:CtxOK Tryz.prog qSL:=mkC_ok ((qQQ _ (qH0 _ qI)))
def qSM:V->List Obj->Option (Int):=fun v objs=>match v,objs with
 | .s (.i .i64 y0),[]=>some (y0)
 | _,_=>none
theorem qdv (x0:Int) (x1 x2:LI) (x3:Int) (x4 x5:LL):fnE qSL Tryz.f56 ([.s (.ptr 0 0 none 0),.s (.i .i64 x0)]) ([.rcells 84 [.arr .i8 81 x1,.arr .i8 16 x2,.one [.i .i8 x3],.rows [.i .u64,.i .u64] 32 x4,.rows [.i .u64,.i .u64] 2 x5]]) (qAg 1 qSM)=qE7 x0 x1 x2 x3 x4 x5:=by kernel_rfl
def qSK:HA:=fun o vs objs K=>match vs,List.map Obj.toRO objs with
 | [.s (.ptr 0 0 none 0),.s (.i .i64 x0)],[.rcells 84 [.arr .i8 81 x1,.arr .i8 16 x2,.one [.i .i8 x3],.rows [.i .u64,.i .u64] 32 x4,.rows [.i .u64,.i .u64] 2 x5]]=>ob (qE7 x0 x1 x2 x3 x4 x5) fun y0=>K true (.s (.i .i64 y0)) ([])
 | _,_=>o 56 vs objs K
def qJW (o:Orc):Orc:=qJ 56 (qSK o) o
theorem qMN:OQ Tryz.prog qJW:=fun _ ho=>qK ho fun vs objs K r h=>by
 unfold qSK at h
 split at h
 ·skip
  have hq:List.map Obj.toRO objs=_:=(by rename_i hq;first | exact hq | assumption)
  obtain⟨t,h1,h2⟩:=qD h
  refine qAv mixed qdw (m:=1) (fn:=Tryz.f56) (b:=(Tryz.f56).body.getD .skip) (by kernel_rfl) (by kernel_rfl) (by kernel_rfl) hq (by kernel_rfl) (by kernel_rfl) (qP.of (l':=[]) (by kernel_rfl) trivial) ((qdv _ _ _ _ _ _).trans h1) fun v objs' hd=>?_
  unfold qSM at hd;split at hd;(cases hd;exact h2);cases hd
 ·exact ho _ _ _ _ _ h
def qZu:Ctx:=mkC 2 (qH) [] qS
theorem qm5:CtxOK Tryz.prog qZu:=mkC_ok (qI)
def qZv:V->List Obj->Option (Int×Int):=fun v objs=>match v,objs with
 | .agg [.one [.i .u64 y0,.i .u64 y1]],[]=>some (y0,y1)
 | _,_=>none
theorem qm4:fnE qZu Tryz.f29 ([]) ([]) qZv=qFi  := by kernel_rfl
def qZt:HA:=fun o vs objs K=>match vs,objs with
 | [],[]=>ob (qFi ) fun z=>K false (.agg [.one [.i .u64 (z.1),.i .u64 (z.2)]]) ([])
 | _,_=>o 29 vs objs K
def qIw (o:Orc):Orc:=qJ 29 (qZt o) o
theorem qLB:OQ Tryz.prog qIw:=fun _ ho=>qK ho fun vs objs K r h=>by
 unfold qZt at h
 split at h
 ·skip
  obtain⟨t,h1,h2⟩:=qD h
  refine qV mixed qm5 ((qm4).trans h1) (by kernel_rfl) fun v objs' hd=>?_
  unfold qZv at hd;split at hd;(cases hd;exact h2);cases hd
 ·exact ho _ _ _ _ _ h
def qQb:Ex->List V->List Obj->Option (Nat×Int×Int×Nat×LI):=fun e vs objs=>match e,vs,objs with
 | .exit 0,[.s (.ptr 0 0 none 0),.s (.sl 1 0 y0 true)],[.cells 72 [.one [.i .u64 y1,.i .u64 y2]],.sli 3 false (.arr .i64 y3 y4)]=>some (y0,y1,y2,y3,y4)
 | _,_,_=>none
def qQd:Ex->List V->List Obj->Option (Nat×Nat×LI):=fun e vs objs=>match e,vs,objs with
 | .exit 2,[.s (.sl 0 0 y0 true)],[.sli 3 false (.arr .i64 y1 y2)]=>some (y0,y1,y2)
 | _,_,_=>none
def qQf:HL:=fun vs objs K=>match vs,objs with
 | [.s (.ptr 0 0 none 0),.s (.sl 1 0 x0 true)],[.cells 72 [.one [.i .u64 x1,.i .u64 x2]],.sli 3 false (.arr .i64 x3 x4)]=>ob (qHe qC x0 x1 x2 x3 x4) fun z=>K (.exit 0) ([.s (.ptr 0 0 none 0),.s (.sl 1 0 (z.1) true)]) ([.cells 72 [.one [.i .u64 (z.2.1),.i .u64 (z.2.2.1)]],.sli 3 false (.arr .i64 (z.2.2.2.1) (z.2.2.2.2))])
 | _,_=>none
def qQg:HL:=fun vs objs K=>match vs,objs with
 | [.s (.ptr 0 0 none 0),.s (.sl 1 0 x0 true)],[.cells 72 [.one [.i .u64 x1,.i .u64 x2]],.sli 3 false (.arr .i64 x3 x4)]=>ob (qHf qC x0 x1 x2 x3 x4) fun z=>K (.exit 2) ([.s (.sl 0 0 (z.1) true)]) ([.sli 3 false (.arr .i64 (z.2.1) (z.2.2))])
 | _,_=>none
def qng:{R:Type}->Nat->List V->List Obj->(Ex->List V->List Obj->Option R)->Option R:=fun q vs objs K=>bif Nat.beq q 2 then qQf vs objs K else bif Nat.beq q 5 then qQg vs objs K else none
def qHd:Ctx:=mkC 38 ((qMK qH)) [(2,[1,3],[1,3]),(5,[1,3],[3])] qng
theorem qQa:CtxOK Tryz.prog qHd:=mkC_ok ((qR9 _ qI))
def qQc (f:Nat) (x0:Nat) (x1 x2:Int) (x3:Nat) (x4:LI):Option (Nat×Int×Int×Nat×LI):=qe qHd 0 [1,3] [1,3] (qF Tryz.f65 2) f ([.s (.ptr 0 0 none 0),.s (.sl 1 0 x0 true)]) ([.cells 72 [.one [.i .u64 x1,.i .u64 x2]],.sli 3 false (.arr .i64 x3 x4)]) qQb
theorem qne (f:Nat) (x0:Nat) (x1 x2:Int) (x3:Nat) (x4:LI):qQc (f+1) x0 x1 x2 x3 x4=qLK (qQc f) x0 x1 x2 x3 x4:=by kernel_rfl
theorem qaj:∀ f,qQc f=qHe f
 | 0=>rfl
 | f+1=>by funext x0 x1 x2 x3 x4;rw[qne,qaj f];rfl
def qQe (f:Nat) (x0:Nat) (x1 x2:Int) (x3:Nat) (x4:LI):Option (Nat×Nat×LI):=qe qHd 0 [1,3] [3] (qF Tryz.f65 5) f ([.s (.ptr 0 0 none 0),.s (.sl 1 0 x0 true)]) ([.cells 72 [.one [.i .u64 x1,.i .u64 x2]],.sli 3 false (.arr .i64 x3 x4)]) qQd
theorem qnf (f:Nat) (x0:Nat) (x1 x2:Int) (x3:Nat) (x4:LI):qQe (f+1) x0 x1 x2 x3 x4=qLL (qQe f) x0 x1 x2 x3 x4:=by kernel_rfl
theorem qak:∀ f,qQe f=qHf f
 | 0=>rfl
 | f+1=>by funext x0 x1 x2 x3 x4;rw[qnf,qak f];rfl
theorem qnh:qc Tryz.prog qHd 0 (qF Tryz.f65 2):=
 qg mixed qQa (qP.of (l':=[]) (by kernel_rfl) trivial) (q:=2) (kin:=[1,3]) (kout:=[1,3]) (by kernel_rfl) (by kernel_rfl) fun vs objs K r h=>by
  replace h:qQf vs objs K=some r:=h
  unfold qQf at h
  split at h
  ·skip
   obtain⟨t,h1,h2⟩:=qD h
   rw[<- qaj] at h1
   refine⟨_,qQb,t,qC,h1,fun e vs' objs' hd=>?_⟩
   unfold qQb at hd;split at hd;(cases hd;exact h2);cases hd
  ·cases h
theorem qni:qc Tryz.prog qHd 0 (qF Tryz.f65 5):=
 qg mixed qQa (qP.of (l':=[]) (by kernel_rfl) trivial) (q:=5) (kin:=[1,3]) (kout:=[3]) (by kernel_rfl) (by kernel_rfl) fun vs objs K r h=>by
  replace h:qQg vs objs K=some r:=h
  unfold qQg at h
  split at h
  ·skip
   obtain⟨t,h1,h2⟩:=qD h
   rw[<- qak] at h1
   refine⟨_,qQd,t,qC,h1,fun e vs' objs' hd=>?_⟩
   unfold qQd at hd;split at hd;(cases hd;exact h2);cases hd
  ·cases h
def qai:V->List Obj->Option (Nat×Nat×LI):=fun v objs=>match v,objs with
 | .s (.sl 0 0 y0 true),[.sli 3 false (.arr .i64 y1 y2)]=>some (y0,y1,y2)
 | _,_=>none
theorem qnd (x0 x1:Int):fnE qHd Tryz.f65 ([.agg [.one [.i .u64 x0,.i .u64 x1]]]) ([]) qai=qDs x0 x1:=by kernel_rfl
def qah:HA:=fun o vs objs K=>match vs,objs with
 | [.agg [.one [.i .u64 x0,.i .u64 x1]]],[]=>ob (qDs x0 x1) fun z=>K false (.s (.sl 0 0 (z.1) true)) ([.sli 3 false (.arr .i64 (z.2.1) (z.2.2))])
 | _,_=>o 65 vs objs K
def qI0 (o:Orc):Orc:=qJ 65 (qah o) o
theorem qLM:OQ Tryz.prog qI0:=fun _ ho=>qK ho fun vs objs K r h=>by
 unfold qah at h
 split at h
 ·skip
  obtain⟨t,h1,h2⟩:=qD h
  refine qAM mixed qQa (fn:=Tryz.f65) (b:=(Tryz.f65).body.getD .skip) (by kernel_rfl) (by kernel_rfl) (by kernel_rfl) ((qnd _ _).trans h1) (m:=0) rfl (qP.of (l':=[qF Tryz.f65 2,qF Tryz.f65 5]) (by kernel_rfl) ⟨qnh,qni,trivial⟩) fun v objs' hd=>?_
  unfold qai at hd;split at hd;(cases hd;exact h2);cases hd
 ·exact ho _ _ _ _ _ h
def qWb:Ctx:=mkC 24 (qH) [] qS
theorem qjk:CtxOK Tryz.prog qWb:=mkC_ok (qI)
def qWc:V->List Obj->Option (Nat×Nat×LL):=fun v objs=>match v,objs with
 | .s (.sl 0 0 y0 true),[.sli 141 false (.rows [.i .i64,.i .i64] y1 y2)]=>some (y0,y1,y2)
 | _,_=>none
theorem qjj (x0:Int):fnE qWb Tryz.f103 ([.s (.i .i64 x0)]) ([]) qWc=qFY x0:=by kernel_rfl
def qWa:HA:=fun o vs objs K=>match vs,objs with
 | [.s (.i .i64 x0)],[]=>ob (qFY x0) fun z=>K false (.s (.sl 0 0 (z.1) true)) ([.sli 141 false (.rows [.i .i64,.i .i64] (z.2.1) (z.2.2))])
 | _,_=>o 103 vs objs K
def qOS (o:Orc):Orc:=qJ 103 (qWa o) o
theorem qWd:OQ Tryz.prog qOS:=fun _ ho=>qK ho fun vs objs K r h=>by
 unfold qWa at h
 split at h
 ·skip
  obtain⟨t,h1,h2⟩:=qD h
  refine qV mixed qjk ((qjj _).trans h1) (by kernel_rfl) fun v objs' hd=>?_
  unfold qWc at hd;split at hd;(cases hd;exact h2);cases hd
 ·exact ho _ _ _ _ _ h
def qQV:Ex->List V->List Obj->Option (Nat×LI×Int×Int×Int×Int):=fun e vs objs=>match e,vs,objs with
 | .exit 0,[.s (.ptr 1 0 none 0),.s (.ptr 2 0 none 0)],[.sli 3 true (.arr .i64 y0 y1),.cells 72 [.one [.i .u64 y2,.i .u64 y3]],.cells 72 [.one [.i .u64 y4,.i .u64 y5]]]=>some (y0,y1,y2,y3,y4,y5)
 | _,_,_=>none
def qQX:HL:=fun vs objs K=>match vs,objs with
 | [.s (.ptr 1 0 none 0),.s (.ptr 2 0 none 0),.s (.sl 0 0 x0 true),.s (.i .i64 x1),.s (.i .i64 x2)],[.sli 3 true (.arr .i64 x3 x4),.cells 72 [.one [.i .u64 x5,.i .u64 x6]],.cells 72 [.one [.i .u64 x7,.i .u64 x8]]]=>ob (qEr qC x0 x1 x2 x3 x4 x5 x6 x7 x8) fun z=>K (.exit 0) ([.s (.ptr 1 0 none 0),.s (.ptr 2 0 none 0)]) ([.sli 3 true (.arr .i64 (z.1) (z.2.1)),.cells 72 [.one [.i .u64 (z.2.2.1),.i .u64 (z.2.2.2.1)]],.cells 72 [.one [.i .u64 (z.2.2.2.2.1),.i .u64 (z.2.2.2.2.2)]]])
 | _,_=>none
def qnU:{R:Type}->Nat->List V->List Obj->(Ex->List V->List Obj->Option R)->Option R:=fun q vs objs K=>bif Nat.beq q 3 then qQX vs objs K else none
def qLI:Ctx:=mkC 17 ((qDt qH)) [(3,[2,3,6,7,8],[2,3])] qnU
theorem qaT:CtxOK Tryz.prog qLI:=mkC_ok ((qEt _ qI))
def qQW (f:Nat) (x0:Nat) (x1 x2:Int) (x3:Nat) (x4:LI) (x5 x6:Int) (x7 x8:Int):Option (Nat×LI×Int×Int×Int×Int):=qe qLI 1 [2,3,6,7,8] [2,3] (qF Tryz.f105 3) f ([.s (.ptr 1 0 none 0),.s (.ptr 2 0 none 0),.s (.sl 0 0 x0 true),.s (.i .i64 x1),.s (.i .i64 x2)]) ([.sli 3 true (.arr .i64 x3 x4),.cells 72 [.one [.i .u64 x5,.i .u64 x6]],.cells 72 [.one [.i .u64 x7,.i .u64 x8]]]) qQV
theorem qnT (f:Nat) (x0:Nat) (x1 x2:Int) (x3:Nat) (x4:LI) (x5 x6:Int) (x7 x8:Int):qQW (f+1) x0 x1 x2 x3 x4 x5 x6 x7 x8=qHa (qQW f) x0 x1 x2 x3 x4 x5 x6 x7 x8:=by kernel_rfl
theorem qaV:∀ f,qQW f=qEr f
 | 0=>rfl
 | f+1=>by funext x0 x1 x2 x3 x4 x5 x6 x7 x8;rw[qnT,qaV f];rfl
theorem qnW:qc Tryz.prog qLI 1 (qF Tryz.f105 3):=
 qg mixed qaT (qP.of (l':=[]) (by kernel_rfl) trivial) (q:=3) (kin:=[2,3,6,7,8]) (kout:=[2,3]) (by kernel_rfl) (by kernel_rfl) fun vs objs K r h=>by
  replace h:qQX vs objs K=some r:=h
  unfold qQX at h
  split at h
  ·skip
   obtain⟨t,h1,h2⟩:=qD h
   rw[<- qaV] at h1
   refine⟨_,qQV,t,qC,h1,fun e vs' objs' hd=>?_⟩
   unfold qQV at hd;split at hd;(cases hd;exact h2);cases hd
  ·cases h
def qaU:V->List Obj->Option (Int×Int):=fun v objs=>match v,objs with
 | .agg [.one [.i .u64 y0,.i .u64 y1]],[]=>some (y0,y1)
 | _,_=>none
theorem qnS (x0 x1:Nat) (x2:LI):fnE qLI Tryz.f105 ([.s (.sl 0 0 x0 true)]) ([.sli 3 true (.arr .i64 x1 x2)]) (qAg 1 qaU)=qHZ x0 x1 x2:=by kernel_rfl
def qaS:HA:=fun o vs objs K=>match vs,List.map Obj.toRO objs with
 | [.s (.sl 0 0 x0 true)],[.sli 3 true (.arr .i64 x1 x2)]=>ob (qHZ x0 x1 x2) fun z=>K true (.agg [.one [.i .u64 (z.1),.i .u64 (z.2)]]) ([])
 | _,_=>o 105 vs objs K
def qaW (o:Orc):Orc:=qJ 105 (qaS o) o
theorem qnV:OQ Tryz.prog qaW:=fun _ ho=>qK ho fun vs objs K r h=>by
 unfold qaS at h
 split at h
 ·skip
  have hq:List.map Obj.toRO objs=_:=(by rename_i hq;first | exact hq | assumption)
  obtain⟨t,h1,h2⟩:=qD h
  refine qAv mixed qaT (m:=1) (fn:=Tryz.f105) (b:=(Tryz.f105).body.getD .skip) (by kernel_rfl) (by kernel_rfl) (by kernel_rfl) hq (by kernel_rfl) (by kernel_rfl) (qP.of (l':=[qF Tryz.f105 3]) (by kernel_rfl) ⟨qnW,trivial⟩) ((qnS _ _ _).trans h1) fun v objs' hd=>?_
  unfold qaU at hd;split at hd;(cases hd;exact h2);cases hd
 ·exact ho _ _ _ _ _ h
def qZ7:Ctx:=mkC 5 (qH) [] qS
theorem qnD:CtxOK Tryz.prog qZ7:=mkC_ok (qI)
def qZ8:V->List Obj->Option (Int):=fun v objs=>match v,objs with
 | .s (.i .i64 y0),[]=>some (y0)
 | _,_=>none
theorem qnC (x0:Int):fnE qZ7 Tryz.f114 ([.s (.i .i64 x0)]) ([]) qZ8=qFk x0:=by kernel_rfl
def qZ6:HA:=fun o vs objs K=>match vs,objs with
 | [.s (.i .i64 x0)],[]=>ob (qFk x0) fun y0=>K false (.s (.i .i64 y0)) ([])
 | _,_=>o 114 vs objs K
def qLD (o:Orc):Orc:=qJ 114 (qZ6 o) o
theorem qQP:OQ Tryz.prog qLD:=fun _ ho=>qK ho fun vs objs K r h=>by
 unfold qZ6 at h
 split at h
 ·skip
  obtain⟨t,h1,h2⟩:=qD h
  refine qV mixed qnD ((qnC _).trans h1) (by kernel_rfl) fun v objs' hd=>?_
  unfold qZ8 at hd;split at hd;(cases hd;exact h2);cases hd
 ·exact ho _ _ _ _ _ h
def qab:Ctx:=mkC 5 (qH) [] qS
theorem qna:CtxOK Tryz.prog qab:=mkC_ok (qI)
def qac:V->List Obj->Option (Int):=fun v objs=>match v,objs with
 | .s (.i .i64 y0),[]=>some (y0)
 | _,_=>none
theorem qnZ (x0:Int):fnE qab Tryz.f120 ([.s (.i .i64 x0)]) ([]) qac=qEs x0:=by kernel_rfl
def qaa:HA:=fun o vs objs K=>match vs,objs with
 | [.s (.i .i64 x0)],[]=>ob (qEs x0) fun y0=>K false (.s (.i .i64 y0)) ([])
 | _,_=>o 120 vs objs K
def qLJ (o:Orc):Orc:=qJ 120 (qaa o) o
theorem qQY:OQ Tryz.prog qLJ:=fun _ ho=>qK ho fun vs objs K r h=>by
 unfold qaa at h
 split at h
 ·skip
  obtain⟨t,h1,h2⟩:=qD h
  refine qV mixed qna ((qnZ _).trans h1) (by kernel_rfl) fun v objs' hd=>?_
  unfold qac at hd;split at hd;(cases hd;exact h2);cases hd
 ·exact ho _ _ _ _ _ h
def qae:Ctx:=mkC 23 (qH) [] qS
theorem qnc:CtxOK Tryz.prog qae:=mkC_ok (qI)
def qaf:V->List Obj->Option (Int):=fun v objs=>match v,objs with
 | .s (.i .i64 y0),[]=>some (y0)
 | _,_=>none
theorem qnb (x0 x1:Int):fnE qae Tryz.f124 ([.s (.i .i64 x0),.s (.i .i64 x1)]) ([]) qaf=qHc x0 x1:=by kernel_rfl
def qad:HA:=fun o vs objs K=>match vs,objs with
 | [.s (.i .i64 x0),.s (.i .i64 x1)],[]=>ob (qHc x0 x1) fun y0=>K false (.s (.i .i64 y0)) ([])
 | _,_=>o 124 vs objs K
def qQZ (o:Orc):Orc:=qJ 124 (qad o) o
theorem qag:OQ Tryz.prog qQZ:=fun _ ho=>qK ho fun vs objs K r h=>by
 unfold qad at h
 split at h
 ·skip
  obtain⟨t,h1,h2⟩:=qD h
  refine qV mixed qnc ((qnb _ _).trans h1) (by kernel_rfl) fun v objs' hd=>?_
  unfold qaf at hd;split at hd;(cases hd;exact h2);cases hd
 ·exact ho _ _ _ _ _ h
def qbG:Ctx:=mkC 42 ((qQZ (qLJ (qLD qH)))) [] qS
theorem qoS:CtxOK Tryz.prog qbG:=mkC_ok ((qag _ (qQY _ (qQP _ qI))))
def qbH:V->List Obj->Option (Int):=fun v objs=>match v,objs with
 | .s (.i .i64 y0),[]=>some (y0)
 | _,_=>none
theorem qoR (x0 x1 x2:Int):fnE qbG Tryz.f121 ([.agg [.one [.i .i64 x0,.i .i64 x1]],.s (.i .i64 x2)]) ([]) qbH=qFr x0 x1 x2:=by kernel_rfl
def qbF:HA:=fun o vs objs K=>match vs,objs with
 | [.agg [.one [.i .i64 x0,.i .i64 x1]],.s (.i .i64 x2)],[]=>ob (qFr x0 x1 x2) fun y0=>K false (.s (.i .i64 y0)) ([])
 | _,_=>o 121 vs objs K
def qQt (o:Orc):Orc:=qJ 121 (qbF o) o
theorem qbI:OQ Tryz.prog qQt:=fun _ ho=>qK ho fun vs objs K r h=>by
 unfold qbF at h
 split at h
 ·skip
  obtain⟨t,h1,h2⟩:=qD h
  refine qV mixed qoS ((qoR _ _ _).trans h1) (by kernel_rfl) fun v objs' hd=>?_
  unfold qbH at hd;split at hd;(cases hd;exact h2);cases hd
 ·exact ho _ _ _ _ _ h
def qZx:Ctx:=mkC 16 (qH) [] qS
theorem qm7:CtxOK Tryz.prog qZx:=mkC_ok (qI)
def qZy:V->List Obj->Option (Int×Int):=fun v objs=>match v,objs with
 | .agg [.one [.i .u64 y0,.i .u64 y1]],[]=>some (y0,y1)
 | _,_=>none
theorem qm6 (x0 x1:Int) (x2 x3:Int):fnE qZx Tryz.f70 ([.agg [.one [.i .u64 x0,.i .u64 x1]],.agg [.one [.i .u64 x2,.i .u64 x3]]]) ([]) qZy=qCn x0 x1 x2 x3:=by kernel_rfl
def qZw:HA:=fun o vs objs K=>match vs,objs with
 | [.agg [.one [.i .u64 x0,.i .u64 x1]],.agg [.one [.i .u64 x2,.i .u64 x3]]],[]=>ob (qCn x0 x1 x2 x3) fun z=>K false (.agg [.one [.i .u64 (z.1),.i .u64 (z.2)]]) ([])
 | _,_=>o 70 vs objs K
def qFj (o:Orc):Orc:=qJ 70 (qZw o) o
theorem qHW:OQ Tryz.prog qFj:=fun _ ho=>qK ho fun vs objs K r h=>by
 unfold qZw at h
 split at h
 ·skip
  obtain⟨t,h1,h2⟩:=qD h
  refine qV mixed qm7 ((qm6 _ _ _ _).trans h1) (by kernel_rfl) fun v objs' hd=>?_
  unfold qZy at hd;split at hd;(cases hd;exact h2);cases hd
 ·exact ho _ _ _ _ _ h
def qZ4:Ctx:=mkC 6 (qH) [] qS
theorem qnB:CtxOK Tryz.prog qZ4:=mkC_ok (qI)
def qZ5:V->List Obj->Option (Bool):=fun v objs=>match v,objs with
 | .s (.b y0),[]=>some (y0)
 | _,_=>none
theorem qnA (x0 x1:Int):fnE qZ4 Tryz.f74 ([.agg [.one [.i .u64 x0,.i .u64 x1]]]) ([]) qZ5=qEp x0 x1:=by kernel_rfl
def qZ3:HA:=fun o vs objs K=>match vs,objs with
 | [.agg [.one [.i .u64 x0,.i .u64 x1]]],[]=>ob (qEp x0 x1) fun y0=>K false (.s (.b y0)) ([])
 | _,_=>o 74 vs objs K
def qIx (o:Orc):Orc:=qJ 74 (qZ3 o) o
theorem qLC:OQ Tryz.prog qIx:=fun _ ho=>qK ho fun vs objs K r h=>by
 unfold qZ3 at h
 split at h
 ·skip
  obtain⟨t,h1,h2⟩:=qD h
  refine qV mixed qnB ((qnA _ _).trans h1) (by kernel_rfl) fun v objs' hd=>?_
  unfold qZ5 at hd;split at hd;(cases hd;exact h2);cases hd
 ·exact ho _ _ _ _ _ h
def qaD:Ctx:=mkC 11 ((qIx (qFj (qLO qH)))) [] qS
theorem qnH:CtxOK Tryz.prog qaD:=mkC_ok ((qLC _ (qHW _ (qQh _ qI))))
def qaE:V->List Obj->Option (Bool):=fun v objs=>match v,objs with
 | .s (.b y0),[]=>some (y0)
 | _,_=>none
theorem qnG (x0 x1 x2:Int):fnE qaD Tryz.f75 ([.agg [.one [.i .u64 x0,.i .u64 x1]],.s (.i .i64 x2)]) ([]) qaE=qB3 x0 x1 x2:=by kernel_rfl
def qaC:HA:=fun o vs objs K=>match vs,objs with
 | [.agg [.one [.i .u64 x0,.i .u64 x1]],.s (.i .i64 x2)],[]=>ob (qB3 x0 x1 x2) fun y0=>K false (.s (.b y0)) ([])
 | _,_=>o 75 vs objs K
def qFm (o:Orc):Orc:=qJ 75 (qaC o) o
theorem qHY:OQ Tryz.prog qFm:=fun _ ho=>qK ho fun vs objs K r h=>by
 unfold qaC at h
 split at h
 ·skip
  obtain⟨t,h1,h2⟩:=qD h
  refine qV mixed qnH ((qnG _ _ _).trans h1) (by kernel_rfl) fun v objs' hd=>?_
  unfold qaE at hd;split at hd;(cases hd;exact h2);cases hd
 ·exact ho _ _ _ _ _ h
def qOX:Ex->List V->List Obj->Option (Int×Int×Int×Int):=fun e vs objs=>match e,vs,objs with
 | .exit 0,[.s (.ptr 0 0 none 0),.s (.ptr 1 0 none 0)],[.cells 72 [.one [.i .u64 y0,.i .u64 y1]],.cells 72 [.one [.i .u64 y2,.i .u64 y3]]]=>some (y0,y1,y2,y3)
 | _,_,_=>none
def qOa:HL:=fun vs objs K=>match vs,objs with
 | [.s (.i .i64 x0),.s (.ptr 0 0 none 0),.s (.ptr 1 0 none 0),.s (.ptr 2 0 none 0),.s (.ptr 3 0 none 0)],[.cells 141 [.one [.i .i64 x1,.i .i64 x2]],.cells 72 [.one [.i .u64 x3,.i .u64 x4]],.cells 72 [.one [.i .u64 x5,.i .u64 x6]],.cells 72 [.one [.i .u64 x7,.i .u64 x8]]]=>ob (qFZ qC x0 x1 x2 x3 x4 x5 x6 x7 x8) fun z=>K (.exit 0) ([.s (.ptr 0 0 none 0),.s (.ptr 1 0 none 0)]) ([.cells 72 [.one [.i .u64 (z.1),.i .u64 (z.2.1)]],.cells 72 [.one [.i .u64 (z.2.2.1),.i .u64 (z.2.2.2)]]])
 | _,_=>none
def qjr:{R:Type}->Nat->List V->List Obj->(Ex->List V->List Obj->Option R)->Option R:=fun q vs objs K=>bif Nat.beq q 5 then qOa vs objs K else none
def qKg:Ctx:=mkC 27 ((qFm (qDt (qQt qH)))) [(5,[0,4,5,6,7],[6,7])] qjr
theorem qWj:CtxOK Tryz.prog qKg:=mkC_ok ((qHY _ (qEt _ (qbI _ qI))))
def qOY (f:Nat) (x0 x1:Int) (x2 x3:Int) (x4 x5:Int) (x6 x7 x8:Int):Option (Int×Int×Int×Int):=qe qKg 0 [0,4,5,6,7] [6,7] (qF Tryz.f104 5) f ([.s (.i .i64 x0),.s (.ptr 0 0 none 0),.s (.ptr 1 0 none 0),.s (.ptr 2 0 none 0),.s (.ptr 3 0 none 0)]) ([.cells 141 [.one [.i .i64 x1,.i .i64 x2]],.cells 72 [.one [.i .u64 x3,.i .u64 x4]],.cells 72 [.one [.i .u64 x5,.i .u64 x6]],.cells 72 [.one [.i .u64 x7,.i .u64 x8]]]) qOX
theorem qjq (f:Nat) (x0 x1:Int) (x2 x3:Int) (x4 x5:Int) (x6 x7 x8:Int):qOY (f+1) x0 x1 x2 x3 x4 x5 x6 x7 x8=qG4 (qOY f) x0 x1 x2 x3 x4 x5 x6 x7 x8:=by kernel_rfl
theorem qWl:∀ f,qOY f=qFZ f
 | 0=>rfl
 | f+1=>by funext x0 x1 x2 x3 x4 x5 x6 x7 x8;rw[qjq,qWl f];rfl
theorem qjs:qc Tryz.prog qKg 0 (qF Tryz.f104 5):=
 qg mixed qWj (qP.of (l':=[]) (by kernel_rfl) trivial) (q:=5) (kin:=[0,4,5,6,7]) (kout:=[6,7]) (by kernel_rfl) (by kernel_rfl) fun vs objs K r h=>by
  replace h:qOa vs objs K=some r:=h
  unfold qOa at h
  split at h
  ·skip
   obtain⟨t,h1,h2⟩:=qD h
   rw[<- qWl] at h1
   refine⟨_,qOX,t,qC,h1,fun e vs' objs' hd=>?_⟩
   unfold qOX at hd;split at hd;(cases hd;exact h2);cases hd
  ·cases h
def qWk:V->List Obj->Option (Int×Int):=fun v objs=>match v,objs with
 | .agg [.one [.i .u64 y0,.i .u64 y1]],[]=>some (y0,y1)
 | _,_=>none
theorem qjp (x0 x1:Int) (x2 x3 x4:Int):fnE qKg Tryz.f104 ([.s (.i .i64 x0),.agg [.one [.i .i64 x1,.i .i64 x2]],.agg [.one [.i .u64 x3,.i .u64 x4]]]) ([]) qWk=qG3 x0 x1 x2 x3 x4:=by kernel_rfl
def qWi:HA:=fun o vs objs K=>match vs,objs with
 | [.s (.i .i64 x0),.agg [.one [.i .i64 x1,.i .i64 x2]],.agg [.one [.i .u64 x3,.i .u64 x4]]],[]=>ob (qG3 x0 x1 x2 x3 x4) fun z=>K false (.agg [.one [.i .u64 (z.1),.i .u64 (z.2)]]) ([])
 | _,_=>o 104 vs objs K
def qOZ (o:Orc):Orc:=qJ 104 (qWi o) o
theorem qWm:OQ Tryz.prog qOZ:=fun _ ho=>qK ho fun vs objs K r h=>by
 unfold qWi at h
 split at h
 ·skip
  obtain⟨t,h1,h2⟩:=qD h
  refine qAM mixed qWj (fn:=Tryz.f104) (b:=(Tryz.f104).body.getD .skip) (by kernel_rfl) (by kernel_rfl) (by kernel_rfl) ((qjp _ _ _ _ _).trans h1) (m:=0) rfl (qP.of (l':=[qF Tryz.f104 5]) (by kernel_rfl) ⟨qjs,trivial⟩) fun v objs' hd=>?_
  unfold qWk at hd;split at hd;(cases hd;exact h2);cases hd
 ·exact ho _ _ _ _ _ h
def qOO:Ex->List V->List Obj->Option ((Int×Int)⊕(Int×Int)):=fun e vs objs=>match e,vs,objs with
 | .ret,[.s (.ptr 0 0 none 0)],[.cells 72 [.one [.i .u64 y0,.i .u64 y1]]]=>some (.inl (y0,y1))
 | .exit 0,[.s (.ptr 0 0 none 0)],[.cells 72 [.one [.i .u64 y0,.i .u64 y1]]]=>some (.inr (y0,y1))
 | _,_,_=>none
def qOR:HL:=fun vs objs K=>match vs,objs with
 | [.s (.i .i64 x0),.s (.i .i64 x1),.s (.ptr 0 0 none 0),.s (.sl 1 0 x2 true),.s (.i .i64 x3),.s (.i .i64 x4)],[.cells 72 [.one [.i .u64 x5,.i .u64 x6]],.sli 141 false (.rows [.i .i64,.i .i64] x7 x8)]=>ob (qEU qC x0 x1 x2 x3 x4 x5 x6 x7 x8) fun t0=>sw t0 (fun z=>K (.ret) ([.s (.ptr 0 0 none 0)]) ([.cells 72 [.one [.i .u64 (z.1),.i .u64 (z.2)]]])) (fun z=>K (.exit 0) ([.s (.ptr 0 0 none 0)]) ([.cells 72 [.one [.i .u64 (z.1),.i .u64 (z.2)]]]))
 | _,_=>none
def qjh:{R:Type}->Nat->List V->List Obj->(Ex->List V->List Obj->Option R)->Option R:=fun q vs objs K=>bif Nat.beq q 2 then qOR vs objs K else none
def qKd:Ctx:=mkC 30 ((qI1 (qFm (qOZ (qaW (qOS qH)))))) [(2,[0,1,4,10,11,12],[4])] qjh
theorem qWW:CtxOK Tryz.prog qKd:=mkC_ok ((qLN _ (qHY _ (qWm _ (qnV _ (qWd _ qI))))))
def qOP (f:Nat) (x0 x1:Int) (x2:Nat) (x3 x4:Int) (x5 x6:Int) (x7:Nat) (x8:LL):Option ((Int×Int)⊕(Int×Int)):=qe qKd 0 [0,1,4,10,11,12] [4] (qF Tryz.f60 2) f ([.s (.i .i64 x0),.s (.i .i64 x1),.s (.ptr 0 0 none 0),.s (.sl 1 0 x2 true),.s (.i .i64 x3),.s (.i .i64 x4)]) ([.cells 72 [.one [.i .u64 x5,.i .u64 x6]],.sli 141 false (.rows [.i .i64,.i .i64] x7 x8)]) qOO
theorem qjg (f:Nat) (x0 x1:Int) (x2:Nat) (x3 x4:Int) (x5 x6:Int) (x7:Nat) (x8:LL):qOP (f+1) x0 x1 x2 x3 x4 x5 x6 x7 x8=qG1 (qOP f) x0 x1 x2 x3 x4 x5 x6 x7 x8:=by kernel_rfl
theorem qWY:∀ f,qOP f=qEU f
 | 0=>rfl
 | f+1=>by funext x0 x1 x2 x3 x4 x5 x6 x7 x8;rw[qjg,qWY f];rfl
theorem qji:qc Tryz.prog qKd 0 (qF Tryz.f60 2):=
 qg mixed qWW (qP.of (l':=[]) (by kernel_rfl) trivial) (q:=2) (kin:=[0,1,4,10,11,12]) (kout:=[4]) (by kernel_rfl) (by kernel_rfl) fun vs objs K r h=>by
  replace h:qOR vs objs K=some r:=h
  unfold qOR at h
  split at h
  ·skip
   obtain⟨t,h1,h2⟩:=qD h
   rw[<- qWY] at h1
   refine⟨_,qOO,t,qC,h1,fun e vs' objs' hd=>?_⟩
   unfold qOO at hd
   split at hd
   ·skip
    cases hd
    exact h2
   ·skip
    cases hd
    exact h2
   ·cases hd
  ·cases h
def qWX:V->List Obj->Option (Int×Int):=fun v objs=>match v,objs with
 | .agg [.one [.i .u64 y0,.i .u64 y1]],[]=>some (y0,y1)
 | _,_=>none
theorem qjf (x0 x1:Int):fnE qKd Tryz.f60 ([.s (.i .i64 x0),.s (.i .i64 x1)]) ([]) qWX=qG0 x0 x1:=by kernel_rfl
def qWV:HA:=fun o vs objs K=>match vs,objs with
 | [.s (.i .i64 x0),.s (.i .i64 x1)],[]=>ob (qG0 x0 x1) fun z=>K false (.agg [.one [.i .u64 (z.1),.i .u64 (z.2)]]) ([])
 | _,_=>o 60 vs objs K
def qOQ (o:Orc):Orc:=qJ 60 (qWV o) o
theorem qWZ:OQ Tryz.prog qOQ:=fun _ ho=>qK ho fun vs objs K r h=>by
 unfold qWV at h
 split at h
 ·skip
  obtain⟨t,h1,h2⟩:=qD h
  refine qAM mixed qWW (fn:=Tryz.f60) (b:=(Tryz.f60).body.getD .skip) (by kernel_rfl) (by kernel_rfl) (by kernel_rfl) ((qjf _ _).trans h1) (m:=0) rfl (qP.of (l':=[qF Tryz.f60 2]) (by kernel_rfl) ⟨qji,trivial⟩) fun v objs' hd=>?_
  unfold qWX at hd;split at hd;(cases hd;exact h2);cases hd
 ·exact ho _ _ _ _ _ h
def qSd:Ctx:=mkC 14 ((qFn qH)) [] qS
theorem qd9:CtxOK Tryz.prog qSd:=mkC_ok ((qHb _ qI))
def qSe:V->List Obj->Option (Int×Int):=fun v objs=>match v,objs with
 | .agg [.one [.i .u64 y0,.i .u64 y1]],[]=>some (y0,y1)
 | _,_=>none
theorem qd8 (x0 x1:LI) (x2:Int) (x3 x4:LL):fnE qSd Tryz.f68 ([.s (.ptr 0 0 none 0)]) ([.rcells 84 [.arr .i8 81 x0,.arr .i8 16 x1,.one [.i .i8 x2],.rows [.i .u64,.i .u64] 32 x3,.rows [.i .u64,.i .u64] 2 x4]]) (qAg 1 qSe)=qCc x0 x1 x2 x3 x4:=by kernel_rfl
def qSc:HA:=fun o vs objs K=>match vs,List.map Obj.toRO objs with
 | [.s (.ptr 0 0 none 0)],[.rcells 84 [.arr .i8 81 x0,.arr .i8 16 x1,.one [.i .i8 x2],.rows [.i .u64,.i .u64] 32 x3,.rows [.i .u64,.i .u64] 2 x4]]=>ob (qCc x0 x1 x2 x3 x4) fun z=>K true (.agg [.one [.i .u64 (z.1),.i .u64 (z.2)]]) ([])
 | _,_=>o 68 vs objs K
def qGC (o:Orc):Orc:=qJ 68 (qSc o) o
theorem qH1:OQ Tryz.prog qGC:=fun _ ho=>qK ho fun vs objs K r h=>by
 unfold qSc at h
 split at h
 ·skip
  have hq:List.map Obj.toRO objs=_:=(by rename_i hq;first | exact hq | assumption)
  obtain⟨t,h1,h2⟩:=qD h
  refine qAv mixed qd9 (m:=1) (fn:=Tryz.f68) (b:=(Tryz.f68).body.getD .skip) (by kernel_rfl) (by kernel_rfl) (by kernel_rfl) hq (by kernel_rfl) (by kernel_rfl) (qP.of (l':=[]) (by kernel_rfl) trivial) ((qd8 _ _ _ _ _).trans h1) fun v objs' hd=>?_
  unfold qSe at hd;split at hd;(cases hd;exact h2);cases hd
 ·exact ho _ _ _ _ _ h
def qR5:Ctx:=mkC 35 (qH) [] qS
theorem qdi:CtxOK Tryz.prog qR5:=mkC_ok (qI)
def qR6:V->List Obj->Option (Int):=fun v objs=>match v,objs with
 | .s (.i .i64 y0),[]=>some (y0)
 | _,_=>none
theorem qdh (x0:Int):fnE qR5 Tryz.f102 ([.s (.i .u64 x0)]) ([]) qR6=qE5 x0:=by kernel_rfl
def qR4:HA:=fun o vs objs K=>match vs,objs with
 | [.s (.i .u64 x0)],[]=>ob (qE5 x0) fun y0=>K false (.s (.i .i64 y0)) ([])
 | _,_=>o 102 vs objs K
def qR7 (o:Orc):Orc:=qJ 102 (qR4 o) o
theorem qdj:OQ Tryz.prog qR7:=fun _ ho=>qK ho fun vs objs K r h=>by
 unfold qR4 at h
 split at h
 ·skip
  obtain⟨t,h1,h2⟩:=qD h
  refine qV mixed qdi ((qdh _).trans h1) (by kernel_rfl) fun v objs' hd=>?_
  unfold qR6 at hd;split at hd;(cases hd;exact h2);cases hd
 ·exact ho _ _ _ _ _ h
def qZ0:Ctx:=mkC 10 ((qR7 qH)) [] qS
theorem qm9:CtxOK Tryz.prog qZ0:=mkC_ok ((qdj _ qI))
def qZ1:V->List Obj->Option (Int):=fun v objs=>match v,objs with
 | .s (.i .i64 y0),[]=>some (y0)
 | _,_=>none
theorem qm8 (x0 x1:Int):fnE qZ0 Tryz.f59 ([.agg [.one [.i .u64 x0,.i .u64 x1]]]) ([]) qZ1=qHX x0 x1:=by kernel_rfl
def qZz:HA:=fun o vs objs K=>match vs,objs with
 | [.agg [.one [.i .u64 x0,.i .u64 x1]]],[]=>ob (qHX x0 x1) fun y0=>K false (.s (.i .i64 y0)) ([])
 | _,_=>o 59 vs objs K
def qQO (o:Orc):Orc:=qJ 59 (qZz o) o
theorem qZ2:OQ Tryz.prog qQO:=fun _ ho=>qK ho fun vs objs K r h=>by
 unfold qZz at h
 split at h
 ·skip
  obtain⟨t,h1,h2⟩:=qD h
  refine qV mixed qm9 ((qm8 _ _).trans h1) (by kernel_rfl) fun v objs' hd=>?_
  unfold qZ1 at hd;split at hd;(cases hd;exact h2);cases hd
 ·exact ho _ _ _ _ _ h
def qSW:Ctx:=mkC 18 (qH) [] qS
theorem qd5:CtxOK Tryz.prog qSW:=mkC_ok (qI)
def qSX:V->List Obj->Option (Int×Int):=fun v objs=>match v,objs with
 | .agg [.one [.i .u64 y0,.i .u64 y1]],[]=>some (y0,y1)
 | _,_=>none
theorem qd4 (x0:Int) (x1 x2:LI) (x3:Int) (x4 x5:LL):fnE qSW Tryz.f64 ([.s (.ptr 0 0 none 0),.s (.i .i64 x0)]) ([.rcells 84 [.arr .i8 81 x1,.arr .i8 16 x2,.one [.i .i8 x3],.rows [.i .u64,.i .u64] 32 x4,.rows [.i .u64,.i .u64] 2 x5]]) (qAg 1 qSX)=qE8 x0 x1 x2 x3 x4 x5:=by kernel_rfl
def qSV:HA:=fun o vs objs K=>match vs,List.map Obj.toRO objs with
 | [.s (.ptr 0 0 none 0),.s (.i .i64 x0)],[.rcells 84 [.arr .i8 81 x1,.arr .i8 16 x2,.one [.i .i8 x3],.rows [.i .u64,.i .u64] 32 x4,.rows [.i .u64,.i .u64] 2 x5]]=>ob (qE8 x0 x1 x2 x3 x4 x5) fun z=>K true (.agg [.one [.i .u64 (z.1),.i .u64 (z.2)]]) ([])
 | _,_=>o 64 vs objs K
def qMR (o:Orc):Orc:=qJ 64 (qSV o) o
theorem qSY:OQ Tryz.prog qMR:=fun _ ho=>qK ho fun vs objs K r h=>by
 unfold qSV at h
 split at h
 ·skip
  have hq:List.map Obj.toRO objs=_:=(by rename_i hq;first | exact hq | assumption)
  obtain⟨t,h1,h2⟩:=qD h
  refine qAv mixed qd5 (m:=1) (fn:=Tryz.f64) (b:=(Tryz.f64).body.getD .skip) (by kernel_rfl) (by kernel_rfl) (by kernel_rfl) hq (by kernel_rfl) (by kernel_rfl) (qP.of (l':=[]) (by kernel_rfl) trivial) ((qd4 _ _ _ _ _ _).trans h1) fun v objs' hd=>?_
  unfold qSX at hd;split at hd;(cases hd;exact h2);cases hd
 ·exact ho _ _ _ _ _ h
def qSB:Ctx:=mkC 18 (qH) [] qS
theorem qdp:CtxOK Tryz.prog qSB:=mkC_ok (qI)
def qSC:V->List Obj->Option (Int):=fun v objs=>match v,objs with
 | .s (.i .i8 y0),[]=>some (y0)
 | _,_=>none
theorem qdo (x0:Int) (x1 x2:LI) (x3:Int) (x4 x5:LL):fnE qSB Tryz.f66 ([.s (.ptr 0 0 none 0),.s (.i .i64 x0)]) ([.rcells 84 [.arr .i8 81 x1,.arr .i8 16 x2,.one [.i .i8 x3],.rows [.i .u64,.i .u64] 32 x4,.rows [.i .u64,.i .u64] 2 x5]]) (qAg 1 qSC)=qBI x0 x1 x2 x3 x4 x5:=by kernel_rfl
def qSA:HA:=fun o vs objs K=>match vs,List.map Obj.toRO objs with
 | [.s (.ptr 0 0 none 0),.s (.i .i64 x0)],[.rcells 84 [.arr .i8 81 x1,.arr .i8 16 x2,.one [.i .i8 x3],.rows [.i .u64,.i .u64] 32 x4,.rows [.i .u64,.i .u64] 2 x5]]=>ob (qBI x0 x1 x2 x3 x4 x5) fun y0=>K true (.s (.i .i8 y0)) ([])
 | _,_=>o 66 vs objs K
def qE6 (o:Orc):Orc:=qJ 66 (qSA o) o
theorem qF9:OQ Tryz.prog qE6:=fun _ ho=>qK ho fun vs objs K r h=>by
 unfold qSA at h
 split at h
 ·skip
  have hq:List.map Obj.toRO objs=_:=(by rename_i hq;first | exact hq | assumption)
  obtain⟨t,h1,h2⟩:=qD h
  refine qAv mixed qdp (m:=1) (fn:=Tryz.f66) (b:=(Tryz.f66).body.getD .skip) (by kernel_rfl) (by kernel_rfl) (by kernel_rfl) hq (by kernel_rfl) (by kernel_rfl) (qP.of (l':=[]) (by kernel_rfl) trivial) ((qdo _ _ _ _ _ _).trans h1) fun v objs' hd=>?_
  unfold qSC at hd;split at hd;(cases hd;exact h2);cases hd
 ·exact ho _ _ _ _ _ h
def qFt (n:Nat) {R:Type} (o:Orc) (vs:List V) (objs:List Obj) (K:Bool->V->List Obj->Option R):Option R:=match vs,objs with
 | [.s (.i .i64 x0)],[]=>ob (qFs n x0) fun z=>K false (.s (.sl 0 0 (z.1) true)) ([.sli 141 false (.rows [.i .i64,.i .i64] (z.2.1) (z.2.2))])
 | _,_=>o 122 vs objs K
def qQv (n:Nat) (o:Orc):Orc:=fun f vs objs K=>bif Nat.beq f 122 then qFt n o vs objs K else o f vs objs K
def qoY (n:Nat):Orc:=qQv n qH
def qbN (n:Nat):Ctx:=mkC 57 (qoY n) [] qS
def qbO:V->List Obj->Option (Nat×Nat×LL):=fun v objs=>match v,objs with
 | .s (.sl 0 0 y0 true),[.sli 141 false (.rows [.i .i64,.i .i64] y1 y2)]=>some (y0,y1,y2)
 | _,_=>none
theorem qoV (n:Nat) (x0:Int):fnE (qbN n) Tryz.f122 ([.s (.i .i64 x0)]) ([]) qbO=qFs (n+1) x0:=by kernel_rfl
theorem qoW (n:Nat) (hc:CtxOK Tryz.prog (qbN n)) {vs:List V} {objs:List Obj} (x0:Int) {R:Type} {K:Bool->V->List Obj->Option R} {r:R} (hv:vs=[.s (.i .i64 x0)]) (ho:objs=[]) (h:ob (qFs (n+1) x0) (fun z=>K false (.s (.sl 0 0 (z.1) true)) ([.sli 141 false (.rows [.i .i64,.i .i64] (z.2.1) (z.2.2))]))=some r):
  ∃ p v objs',K p v objs'=some r /\ qDR Tryz.prog 122 vs objs p v objs':=by
 subst hv
 subst ho
 obtain⟨t,h1,h2⟩:=qD h
 refine qJM mixed hc (objs:=[]) (fn:=Tryz.f122) (b:=(Tryz.f122).body.getD .skip) (by kernel_rfl) (by kernel_rfl) (by kernel_rfl) (qP.of (l':=[]) (by kernel_rfl) trivial) ((qoV n x0).trans h1) fun v objs' hd=>?_
 unfold qbO at hd;split at hd;(cases hd;exact h2);cases hd
theorem qoX:∀ (n:Nat) (o:Orc) (_:qB9 Tryz.prog o),qB9 Tryz.prog (qQv n o):=by
 intro n
 induction n with
 | zero=>
   intro o ho R f vs objs K r h
   replace h:(bif Nat.beq f 122 then qFt 0 o vs objs K else o f vs objs K)=some r:=h
   cases hf:Nat.beq f 122 with
   | false=>rw[hf] at h;exact ho f vs objs K r h
   | true=>
     rw[hf] at h
     have e:=Nat.eq_of_beq_eq_true hf
     subst e
     replace h:qFt 0 o vs objs K=some r:=h
     unfold qFt at h
     split at h
     ·skip
      cases h
     ·exact ho _ _ _ _ _ h
 | succ n ih=>
   intro o ho R f vs objs K r h
   replace h:(bif Nat.beq f 122 then qFt (n+1) o vs objs K else o f vs objs K)=some r:=h
   cases hf:Nat.beq f 122 with
   | false=>rw[hf] at h;exact ho f vs objs K r h
   | true=>
     rw[hf] at h
     have e:=Nat.eq_of_beq_eq_true hf
     subst e
     replace h:qFt (n+1) o vs objs K=some r:=h
     unfold qFt at h
     split at h
     ·skip
      exact qoW n ⟨tab_ok,ih _ qI,eqs_ok,bytes_ok,fun _ _ _=>rfl,exts_ok⟩ _ rfl rfl h
     ·exact ho _ _ _ _ _ h
def qbK:Ctx:=mkC 15 (qH) [] qS
theorem qoU:CtxOK Tryz.prog qbK:=mkC_ok (qI)
def qbL:V->List Obj->Option (Int×Int):=fun v objs=>match v,objs with
 | .agg [.one [.i .i64 y0,.i .i64 y1]],[]=>some (y0,y1)
 | _,_=>none
theorem qoT (x0 x1 x2:Int):fnE qbK Tryz.f108 ([.agg [.one [.i .i64 x0,.i .i64 x1]],.s (.i .i64 x2)]) ([]) qbL=qEw x0 x1 x2:=by kernel_rfl
def qbJ:HA:=fun o vs objs K=>match vs,objs with
 | [.agg [.one [.i .i64 x0,.i .i64 x1]],.s (.i .i64 x2)],[]=>ob (qEw x0 x1 x2) fun z=>K false (.agg [.one [.i .i64 (z.1),.i .i64 (z.2)]]) ([])
 | _,_=>o 108 vs objs K
def qQu (o:Orc):Orc:=qJ 108 (qbJ o) o
theorem qbM:OQ Tryz.prog qQu:=fun _ ho=>qK ho fun vs objs K r h=>by
 unfold qbJ at h
 split at h
 ·skip
  obtain⟨t,h1,h2⟩:=qD h
  refine qV mixed qoU ((qoT _ _ _).trans h1) (by kernel_rfl) fun v objs' hd=>?_
  unfold qbL at hd;split at hd;(cases hd;exact h2);cases hd
 ·exact ho _ _ _ _ _ h
end
end Go.Kk.KkSR
