/- Printed by a tool of this project (KkGen): the program's functions come to the plain ones. -/
import Derived.Test.YtjckfjagajmekaaGreatDoorProg
import Derived.Test.YtjckfjagajmekaaGreatDoorKkB
import Derived.Test.YtjckfjagajmekaaGreatDoorKkPl
namespace Go.Kk.KkSL
noncomputable section
open Go.Proofs Go.Kk.Pl
set_option maxRecDepth 100000
set_option maxHeartbeats 4000000
def tab:Tab:=[(1,.sc (.f)),
 (2,.sc (.i .i64)),
 (3,.sc (.i .i64)),
 (4,.sc (.b)),
 (5,.sc (.i .u8)),
 (6,.sc (.i .u8)),
 (7,.st [.one [.i .i64,.i .i64,.b,.i .u8]] [(0,0,2),(0,1,3),(0,2,4),(0,3,6)]),
 (8,.st [.one [.i .i64,.i .i64,.b,.i .u8]] [(0,0,2),(0,1,3),(0,2,4),(0,3,6)]),
 (9,.sc (.str)),
 (10,.sc (.str)),
 (11,.sc (.str)),
 (12,.sc (.i .u64)),
 (13,.st [.one [.str,.i .u64]] [(0,0,9),(0,1,12)]),
 (14,.st [.one [.str,.i .u64]] [(0,0,9),(0,1,12)]),
 (15,.sc (.p)),
 (16,.sc (.p)),
 (17,.sc (.p)),
 (18,.st [.one [.p]] [(0,0,17)]),
 (19,.st [.one [.p]] [(0,0,17)]),
 (21,.sc (.i .i32)),
 (22,.sc (.sl 31)),
 (23,.sc (.i .i8)),
 (24,.sc (.i .i8)),
 (25,.ar 81 1 24 (.arr .i8 81)),
 (26,.ar 8 1 23 (.arr .i8 8)),
 (27,.ar 2 8 26 (.arr .i8 16)),
 (28,.st [.arr .i8 81,.arr .i8 16,.one [.i .i8]] [(0,0,25),(1,0,27),(2,0,23)]),
 (29,.st [.arr .i8 81,.arr .i8 16,.one [.i .i8]] [(0,0,25),(1,0,27),(2,0,23)]),
 (30,.st [.arr .i8 81,.arr .i8 16,.one [.i .i8],.one [.i .i64,.i .i64]] [(0,0,29),(3,0,3),(3,1,3)]),
 (31,.st [.arr .i8 81,.arr .i8 16,.one [.i .i8],.one [.i .i64,.i .i64]] [(0,0,29),(3,0,3),(3,1,3)]),
 (32,.sc (.f)),
 (33,.sc (.f)),
 (34,.sc (.p)),
 (35,.sc (.f)),
 (36,.sc (.sl 41)),
 (37,.st [.one [.i .i64,.i .i64,.sl 41,.i .i64,.b]] [(0,0,3),(0,1,3),(0,2,36),(0,3,3),(0,4,4)]),
 (38,.st [.one [.i .i64,.i .i64,.sl 41,.i .i64,.b]] [(0,0,3),(0,1,3),(0,2,36),(0,3,3),(0,4,4)]),
 (39,.sc (.f)),
 (40,.st [.one [.i .i64,.i .i64,.i .i64,.b]] [(0,0,3),(0,1,3),(0,2,3),(0,3,4)]),
 (41,.st [.one [.i .i64,.i .i64,.i .i64,.b]] [(0,0,3),(0,1,3),(0,2,3),(0,3,4)]),
 (42,.sc (.f)),
 (43,.sc (.f)),
 (44,.sc (.f)),
 (45,.sc (.i .i64)),
 (47,.sc (.f)),
 (48,.sc (.f)),
 (49,.sc (.f)),
 (50,.sc (.f)),
 (51,.sc (.p)),
 (52,.sc (.f)),
 (54,.sc (.f)),
 (55,.sc (.f)),
 (56,.sc (.p)),
 (57,.sc (.f)),
 (58,.sc (.p)),
 (59,.st [.one [.p,.p,.i .i64,.i .i64]] [(0,0,58),(0,1,56),(0,2,3),(0,3,3)]),
 (60,.st [.one [.p,.p,.i .i64,.i .i64]] [(0,0,58),(0,1,56),(0,2,3),(0,3,3)]),
 (61,.sc (.i .u64)),
 (62,.sc (.i .u64)),
 (63,.sc (.sl 125)),
 (64,.st [.one [.p,.i .u64,.sl 125]] [(0,0,51),(0,1,62),(0,2,63)]),
 (65,.st [.one [.p,.i .u64,.sl 125]] [(0,0,51),(0,1,62),(0,2,63)]),
 (67,.sc (.f)),
 (68,.sc (.f)),
 (70,.sc (.f)),
 (71,.st [.one [.i .u64,.i .u64]] [(0,0,61),(0,1,61)]),
 (72,.st [.one [.i .u64,.i .u64]] [(0,0,61),(0,1,61)]),
 (73,.sc (.m 3 72)),
 (74,.st [.one [.p,.i .i64,.i .i64,.i .u64,.i .u64,.m 3 72,.b]] [(0,0,51),(0,1,3),(0,2,3),(0,3,72),(0,5,73),(0,6,4)]),
 (75,.st [.one [.p,.i .i64,.i .i64,.i .u64,.i .u64,.m 3 72,.b]] [(0,0,51),(0,1,3),(0,2,3),(0,3,72),(0,5,73),(0,6,4)]),
 (76,.sc (.f)),
 (77,.sc (.f)),
 (78,.sc (.f)),
 (79,.sc (.f)),
 (80,.sc (.f)),
 (81,.ar 32 1 72 (.rows [.i .u64,.i .u64] 32)),
 (82,.ar 2 1 72 (.rows [.i .u64,.i .u64] 2)),
 (83,.st [.arr .i8 81,.arr .i8 16,.one [.i .i8],.rows [.i .u64,.i .u64] 32,.rows [.i .u64,.i .u64] 2] [(0,0,29),(3,0,81),(4,0,82)]),
 (84,.st [.arr .i8 81,.arr .i8 16,.one [.i .i8],.rows [.i .u64,.i .u64] 32,.rows [.i .u64,.i .u64] 2] [(0,0,29),(3,0,81),(4,0,82)]),
 (85,.sc (.f)),
 (86,.sc (.f)),
 (87,.sc (.f)),
 (88,.sc (.f)),
 (89,.ar 81 1 4 (.barr 81)),
 (90,.sc (.f)),
 (91,.sc (.f)),
 (92,.sc (.f)),
 (93,.st [.one [.i .i64,.i .i64,.i .i64,.i .i64,.i .i64,.i .i64,.b]] [(0,0,3),(0,1,3),(0,2,3),(0,3,41)]),
 (94,.st [.one [.i .i64,.i .i64,.i .i64,.i .i64,.i .i64,.i .i64,.b]] [(0,0,3),(0,1,3),(0,2,3),(0,3,41)]),
 (96,.sc (.f)),
 (97,.sc (.f)),
 (98,.sc (.f)),
 (99,.sc (.f)),
 (100,.sc (.f)),
 (101,.sc (.f)),
 (102,.sc (.sl 135)),
 (103,.st [.one [.sl 135,.i .i64]] [(0,0,102),(0,1,3)]),
 (104,.st [.one [.sl 135,.i .i64]] [(0,0,102),(0,1,3)]),
 (105,.sc (.f)),
 (106,.sc (.f)),
 (107,.sc (.f)),
 (108,.sc (.f)),
 (109,.sc (.f)),
 (110,.sc (.sl 3)),
 (111,.sc (.f)),
 (112,.sc (.f)),
 (113,.sc (.f)),
 (114,.sc (.f)),
 (116,.sc (.f)),
 (117,.sc (.f)),
 (118,.sc (.f)),
 (120,.sc (.f)),
 (121,.sc (.f)),
 (122,.sc (.f)),
 (123,.sc (.f)),
 (124,.st [.one [.i .i64,.i .i64,.i .i64,.b,.i .i8,.i .i8]] [(0,0,41),(0,4,24),(0,5,24)]),
 (125,.st [.one [.i .i64,.i .i64,.i .i64,.b,.i .i8,.i .i8]] [(0,0,41),(0,4,24),(0,5,24)]),
 (126,.sc (.f)),
 (127,.sc (.f)),
 (128,.sc (.f)),
 (129,.sc (.f)),
 (130,.sc (.f)),
 (131,.ar 2 1 3 (.arr .i64 2)),
 (132,.sc (.p)),
 (133,.sc (.f)),
 (134,.st [.one [.b],.arr .i8 81,.arr .i8 16,.one [.i .i8],.one [.i .i64,.i .i64,.i .i64,.i .i64,.i .i64,.i .i64,.b]] [(0,0,4),(1,0,29),(4,0,94)]),
 (135,.st [.one [.b],.arr .i8 81,.arr .i8 16,.one [.i .i8],.one [.i .i64,.i .i64,.i .i64,.i .i64,.i .i64,.i .i64,.b]] [(0,0,4),(1,0,29),(4,0,94)]),
 (136,.sc (.f)),
 (137,.sc (.f)),
 (138,.sc (.sl 141)),
 (139,.sc (.f)),
 (140,.st [.one [.i .i64,.i .i64]] [(0,0,3),(0,1,3)]),
 (141,.st [.one [.i .i64,.i .i64]] [(0,0,3),(0,1,3)]),
 (142,.sc (.f)),
 (143,.sc (.f)),
 (144,.sc (.f)),
 (145,.sc (.f)),
 (146,.sc (.f)),
 (147,.sc (.f)),
 (148,.sc (.f)),
 (149,.sc (.f)),
 (150,.sc (.i .u64)),
 (151,.ar 64 1 5 (.arr .u8 64)),
 (152,.sc (.f)),
 (153,.st [.one [.p,.p,.p,.str]] [(0,0,17),(0,1,17),(0,2,17),(0,3,9)]),
 (154,.st [.one [.p,.p,.p,.str]] [(0,0,17),(0,1,17),(0,2,17),(0,3,9)]),
 (158,.sc (.i .u32)),
 (159,.sc (.i .u8)),
 (160,.sc (.i .u8)),
 (161,.sc (.f)),
 (162,.sc (.p)),
 (163,.sc (.i .i32)),
 (164,.sc (.i .i32)),
 (165,.st [.one [.i .u64,.i .u64,.i .u32,.i .u8,.i .u8,.i .u8,.i .u8,.f,.p,.i .i32,.i .i32]] [(0,0,12),(0,1,12),(0,2,158),(0,3,159),(0,4,5),(0,5,5),(0,6,160),(0,7,161),(0,8,162),(0,9,163),(0,10,164)]),
 (166,.st [.one [.i .u64,.i .u64,.i .u32,.i .u8,.i .u8,.i .u8,.i .u8,.f,.p,.i .i32,.i .i32]] [(0,0,12),(0,1,12),(0,2,158),(0,3,159),(0,4,5),(0,5,5),(0,6,160),(0,7,161),(0,8,162),(0,9,163),(0,10,164)])]
def eqs:List TypeId:=[3,25,26,27,28,29,40,41,71,72,131,140,141]
def bytes:List (TypeId×Nat):=[(31,120),(41,32),(125,40),(135,160),(3,8),(141,16)]
theorem mixed:Tryz.prog.follows .mixedOrders=true:=by kernel_rfl
theorem tab_ok:∀ t L,Tab.get tab t=some L->LayOK Tryz.prog tab t L:=qcx (P:=Tryz.prog) (tab:=tab) (l:=tab) (by kernel_rfl)
theorem eqs_ok:∀ t L,qEN t eqs=true->Tab.get tab t=some L->∃ f ck,f<=10000 /\ qBB Tryz.prog f t=some ck /\ qBR L.segTs=some ck /\ Tryz.prog.eqGuardType Tryz.prog.depth t=false:=qUf (P:=Tryz.prog) (tab:=tab) (l:=eqs) (by kernel_rfl)
theorem bytes_ok:∀ t n,byN t bytes=some n->∃ i,Tryz.prog.info? t=some i /\ i.bytes=n:=qTo (P:=Tryz.prog) (l:=bytes) (by kernel_rfl)
def mkC (nt:Nat) (orc:Orc) (keeps:List (Nat×List Nat×List Nat)) (lp:{R:Type}->Nat->List V->List Obj->(Ex->List V->List Obj->Option R)->Option R):Ctx:={tab:=tab,eqs:=eqs,bytes:=bytes,nt:=nt,orc:=orc,keeps:=keeps,lp:=lp}
theorem exts_ok:qSg Tryz.prog:=fun e h=>by cases h
theorem mkC_ok {nt:Nat} {orc:Orc} {keeps:List (Nat×List Nat×List Nat)} {lp:{R:Type}->Nat->List V->List Obj->(Ex->List V->List Obj->Option R)->Option R} (h:qCM Tryz.prog orc):CtxOK Tryz.prog (mkC nt orc keeps lp):=⟨tab_ok,h,eqs_ok,bytes_ok,fun _ _ _=>rfl,exts_ok⟩
def kL0:List CK:=List.replicate 1 (.b)++List.replicate 98 (.i .i8)++List.replicate 6 (.i .i64)++List.replicate 1 (.b)
def kL1:List CK:=List.replicate 98 (.i .i8)++List.replicate 2 (.i .i64)
def table_New_v1c:Ctx:=mkC 14 (qM) [] qW
theorem table_New_v1c_ok:CtxOK Tryz.prog table_New_v1c:=mkC_ok (qO)
def table_New_v1d:V->List Obj->Option ((Unit)⊕(Nat×Nat×LL)):=fun v objs=>match v,objs with
 | .tup [W.s .nilp,W.s (.i .i64 1)],[]=>some (.inl ())
 | .tup [W.s (.ptr 0 0 none 0),W.s (.i .i64 0)],[.cells 104 [.one [.sl 1 0 y0 true,.i .i64 0]],.sli 135 false (.rows kk0 y1 y2)]=>bif decide (kk0=kL0) then some (.inr (y0,y1,y2)) else none
 | _,_=>none
theorem table_New_v1_eq (x0:Int):fnE table_New_v1c Tryz.f25 ([.s (.i .i64 x0)]) ([]) table_New_v1d=qJ3 x0:=by kernel_rfl
def table_New_v1a:HA:=fun o vs objs K=>match vs,objs with
 | [.s (.i .i64 x0)],[]=>ob (qJ3 x0) fun t0=>sw t0 (fun _=>K false (.tup [W.s .nilp,W.s (.i .i64 1)]) ([])) (fun z=>K false (.tup [W.s (.ptr 0 0 none 0),W.s (.i .i64 0)]) ([.cells 104 [.one [.sl 1 0 (z.1) true,.i .i64 0]],.sli 135 false (.rows kL0 (z.2.1) (z.2.2))]))
 | _,_=>o 25 vs objs K
def table_New_v1o (o:Orc):Orc:=qP 25 (table_New_v1a o) o
theorem table_New_v1o_ok:OQ Tryz.prog table_New_v1o:=fun _ ho=>qQ ho fun vs objs K r h=>by
 unfold table_New_v1a at h
 split at h
 ·skip
  obtain⟨t,h1,h2⟩:=qF h
  refine qa mixed table_New_v1c_ok ((table_New_v1_eq _).trans h1) (by kernel_rfl) fun v objs' hd=>?_
  unfold table_New_v1d at hd
  split at hd
  ·skip
   cases hd
   exact h2
  ·skip
   have g:=(qN hd).1
   replace hd:=(qN hd).2
   obtain rfl:=of_decide_eq_true g
   cases hd
   exact h2
  ·cases hd
 ·exact ho _ _ _ _ _ h
def qas:Ctx:=mkC 17 ((table_New_v1o qM)) [(2097152,[60,0,1],[])] qW
theorem qoe:CtxOK Tryz.prog qas:=mkC_ok ((table_New_v1o_ok _ qO))
def qat:V->List Obj->Option ((Unit)⊕(Nat×Nat×LL)):=fun v objs=>match v,objs with
 | .tup [W.s .nilp,W.s (.i .i64 1)],[]=>some (.inl ())
 | .tup [W.s (.ptr 0 0 none 0),W.s (.i .i64 0)],[.cells 60 [.one [.ptr 1 0 none 0,.bad,.i .i64 0,.i .i64 0]],.cells 104 [.one [.sl 2 0 y0 true,.i .i64 0]],.sli 135 false (.rows kk0 y1 y2)]=>bif decide (kk0=kL0) then some (.inr (y0,y1,y2)) else none
 | _,_=>none
theorem qod (x0:Int):fnE qas Tryz.f12 ([.s (.i .i64 x0)]) ([]) qat=qGT x0:=by kernel_rfl
def qar:HA:=fun o vs objs K=>match vs,objs with
 | [.s (.i .i64 x0)],[]=>ob (qGT x0) fun t0=>sw t0 (fun _=>K false (.tup [W.s .nilp,W.s (.i .i64 1)]) ([])) (fun z=>K false (.tup [W.s (.ptr 0 0 none 0),W.s (.i .i64 0)]) ([.cells 60 [.one [.ptr 1 0 none 0,.bad,.i .i64 0,.i .i64 0]],.cells 104 [.one [.sl 2 0 (z.1) true,.i .i64 0]],.sli 135 false (.rows kL0 (z.2.1) (z.2.2))]))
 | _,_=>o 12 vs objs K
def qRJ (o:Orc):Orc:=qP 12 (qar o) o
theorem qau:OQ Tryz.prog qRJ:=fun _ ho=>qQ ho fun vs objs K r h=>by
 unfold qar at h
 split at h
 ·skip
  obtain⟨t,h1,h2⟩:=qF h
  refine qa mixed qoe ((qod _).trans h1) (by kernel_rfl) fun v objs' hd=>?_
  unfold qat at hd
  split at hd
  ·skip
   cases hd
   exact h2
  ·skip
   have g:=(qN hd).1
   replace hd:=(qN hd).2
   obtain rfl:=of_decide_eq_true g
   cases hd
   exact h2
  ·cases hd
 ·exact ho _ _ _ _ _ h
def qb6:Ctx:=mkC 21 (qM) [] qW
theorem qph:CtxOK Tryz.prog qb6:=mkC_ok (qO)
def qb7:V->List Obj->Option (Int×Int):=fun v objs=>match v,objs with
 | .agg [.one [.i .u64 y0,.i .u64 y1]],[]=>some (y0,y1)
 | _,_=>none
theorem qpg (x0:Int):fnE qb6 Tryz.f111 ([.s (.i .i64 x0)]) ([]) qb7=qFh x0:=by kernel_rfl
def qb5:HA:=fun o vs objs K=>match vs,objs with
 | [.s (.i .i64 x0)],[]=>ob (qFh x0) fun z=>K false (.agg [.one [.i .u64 (z.1),.i .u64 (z.2)]]) ([])
 | _,_=>o 111 vs objs K
def qMN (o:Orc):Orc:=qP 111 (qb5 o) o
theorem qRn:OQ Tryz.prog qMN:=fun _ ho=>qQ ho fun vs objs K r h=>by
 unfold qb5 at h
 split at h
 ·skip
  obtain⟨t,h1,h2⟩:=qF h
  refine qa mixed qph ((qpg _).trans h1) (by kernel_rfl) fun v objs' hd=>?_
  unfold qb7 at hd;split at hd;(cases hd;exact h2);cases hd
 ·exact ho _ _ _ _ _ h
def qba:Ctx:=mkC 16 (qM) [] qW
theorem qpG:CtxOK Tryz.prog qba:=mkC_ok (qO)
def qbb:V->List Obj->Option (Int×Int):=fun v objs=>match v,objs with
 | .agg [.one [.i .u64 y0,.i .u64 y1]],[]=>some (y0,y1)
 | _,_=>none
theorem qpF (x0 x1:Int) (x2 x3:Int):fnE qba Tryz.f69 ([.agg [.one [.i .u64 x0,.i .u64 x1]],.agg [.one [.i .u64 x2,.i .u64 x3]]]) ([]) qbb=qFe x0 x1 x2 x3:=by kernel_rfl
def qbZ:HA:=fun o vs objs K=>match vs,objs with
 | [.agg [.one [.i .u64 x0,.i .u64 x1]],.agg [.one [.i .u64 x2,.i .u64 x3]]],[]=>ob (qFe x0 x1 x2 x3) fun z=>K false (.agg [.one [.i .u64 (z.1),.i .u64 (z.2)]]) ([])
 | _,_=>o 69 vs objs K
def qMG (o:Orc):Orc:=qP 69 (qbZ o) o
theorem qRa:OQ Tryz.prog qMG:=fun _ ho=>qQ ho fun vs objs K r h=>by
 unfold qbZ at h
 split at h
 ·skip
  obtain⟨t,h1,h2⟩:=qF h
  refine qa mixed qpG ((qpF _ _ _ _).trans h1) (by kernel_rfl) fun v objs' hd=>?_
  unfold qbb at hd;split at hd;(cases hd;exact h2);cases hd
 ·exact ho _ _ _ _ _ h
def qb3:Ctx:=mkC 9 ((qMG (qMN qM))) [] qW
theorem qpe:CtxOK Tryz.prog qb3:=mkC_ok ((qRa _ (qRn _ qO)))
def qb4:V->List Obj->Option (Int×Int):=fun v objs=>match v,objs with
 | .agg [.one [.i .u64 y0,.i .u64 y1]],[]=>some (y0,y1)
 | _,_=>none
theorem qpd (x0 x1 x2:Int):fnE qb3 Tryz.f73 ([.agg [.one [.i .u64 x0,.i .u64 x1]],.s (.i .i64 x2)]) ([]) qb4=qEb x0 x1 x2:=by kernel_rfl
def qb2:HA:=fun o vs objs K=>match vs,objs with
 | [.agg [.one [.i .u64 x0,.i .u64 x1]],.s (.i .i64 x2)],[]=>ob (qEb x0 x1 x2) fun z=>K false (.agg [.one [.i .u64 (z.1),.i .u64 (z.2)]]) ([])
 | _,_=>o 73 vs objs K
def qJv (o:Orc):Orc:=qP 73 (qb2 o) o
theorem qMM:OQ Tryz.prog qJv:=fun _ ho=>qQ ho fun vs objs K r h=>by
 unfold qb2 at h
 split at h
 ·skip
  obtain⟨t,h1,h2⟩:=qF h
  refine qa mixed qpe ((qpd _ _ _).trans h1) (by kernel_rfl) fun v objs' hd=>?_
  unfold qb4 at hd;split at hd;(cases hd;exact h2);cases hd
 ·exact ho _ _ _ _ _ h
def qXU:Ctx:=mkC 28 (qM) [] qW
theorem qk6:CtxOK Tryz.prog qXU:=mkC_ok (qO)
def qXV:V->List Obj->Option (Int):=fun v objs=>match v,objs with
 | .s (.i .i64 y0),[]=>some (y0)
 | _,_=>none
theorem qk5 (x0:Int):fnE qXU Tryz.f81 ([.s (.i .i8 x0)]) ([]) qXV=qAC x0:=by kernel_rfl
def qXT:HA:=fun o vs objs K=>match vs,objs with
 | [.s (.i .i8 x0)],[]=>ob (qAC x0) fun y0=>K false (.s (.i .i64 y0)) ([])
 | _,_=>o 81 vs objs K
def qCt (o:Orc):Orc:=qP 81 (qXT o) o
theorem qC8:OQ Tryz.prog qCt:=fun _ ho=>qQ ho fun vs objs K r h=>by
 unfold qXT at h
 split at h
 ·skip
  obtain⟨t,h1,h2⟩:=qF h
  refine qa mixed qk6 ((qk5 _).trans h1) (by kernel_rfl) fun v objs' hd=>?_
  unfold qXV at hd;split at hd;(cases hd;exact h2);cases hd
 ·exact ho _ _ _ _ _ h
def qXf:Ctx:=mkC 10 ((qCt qM)) [] qW
theorem qlD:CtxOK Tryz.prog qXf:=mkC_ok ((qC8 _ qO))
def qXg:V->List Obj->Option (Int):=fun v objs=>match v,objs with
 | .s (.i .i64 y0),[]=>some (y0)
 | _,_=>none
theorem qlC (x0:Int):fnE qXf Tryz.f80 ([.s (.i .i8 x0)]) ([]) qXg=qAQ x0:=by kernel_rfl
def qXe:HA:=fun o vs objs K=>match vs,objs with
 | [.s (.i .i8 x0)],[]=>ob (qAQ x0) fun y0=>K false (.s (.i .i64 y0)) ([])
 | _,_=>o 80 vs objs K
def qFH (o:Orc):Orc:=qP 80 (qXe o) o
theorem qGH:OQ Tryz.prog qFH:=fun _ ho=>qQ ho fun vs objs K r h=>by
 unfold qXe at h
 split at h
 ·skip
  obtain⟨t,h1,h2⟩:=qF h
  refine qa mixed qlD ((qlC _).trans h1) (by kernel_rfl) fun v objs' hd=>?_
  unfold qXg at hd;split at hd;(cases hd;exact h2);cases hd
 ·exact ho _ _ _ _ _ h
def qbm:Ctx:=mkC 16 (qM) [] qW
theorem qpQ:CtxOK Tryz.prog qbm:=mkC_ok (qO)
def qbn:V->List Obj->Option (Int×Int):=fun v objs=>match v,objs with
 | .agg [.one [.i .u64 y0,.i .u64 y1]],[]=>some (y0,y1)
 | _,_=>none
theorem qpP (x0 x1:Int) (x2 x3:Int):fnE qbm Tryz.f62 ([.agg [.one [.i .u64 x0,.i .u64 x1]],.agg [.one [.i .u64 x2,.i .u64 x3]]]) ([]) qbn=qDv x0 x1 x2 x3:=by kernel_rfl
def qbl:HA:=fun o vs objs K=>match vs,objs with
 | [.agg [.one [.i .u64 x0,.i .u64 x1]],.agg [.one [.i .u64 x2,.i .u64 x3]]],[]=>ob (qDv x0 x1 x2 x3) fun z=>K false (.agg [.one [.i .u64 (z.1),.i .u64 (z.2)]]) ([])
 | _,_=>o 62 vs objs K
def qGZ (o:Orc):Orc:=qP 62 (qbl o) o
theorem qIJ:OQ Tryz.prog qGZ:=fun _ ho=>qQ ho fun vs objs K r h=>by
 unfold qbl at h
 split at h
 ·skip
  obtain⟨t,h1,h2⟩:=qF h
  refine qa mixed qpQ ((qpP _ _ _ _).trans h1) (by kernel_rfl) fun v objs' hd=>?_
  unfold qbn at hd;split at hd;(cases hd;exact h2);cases hd
 ·exact ho _ _ _ _ _ h
def qb0:Ctx:=mkC 9 ((qGZ (qMN qM))) [] qW
theorem qpc:CtxOK Tryz.prog qb0:=mkC_ok ((qIJ _ (qRn _ qO)))
def qb1:V->List Obj->Option (Int×Int):=fun v objs=>match v,objs with
 | .agg [.one [.i .u64 y0,.i .u64 y1]],[]=>some (y0,y1)
 | _,_=>none
theorem qpb (x0 x1 x2:Int):fnE qb0 Tryz.f82 ([.agg [.one [.i .u64 x0,.i .u64 x1]],.s (.i .i64 x2)]) ([]) qb1=qBA x0 x1 x2:=by kernel_rfl
def qbz:HA:=fun o vs objs K=>match vs,objs with
 | [.agg [.one [.i .u64 x0,.i .u64 x1]],.s (.i .i64 x2)],[]=>ob (qBA x0 x1 x2) fun z=>K false (.agg [.one [.i .u64 (z.1),.i .u64 (z.2)]]) ([])
 | _,_=>o 82 vs objs K
def qEa (o:Orc):Orc:=qP 82 (qbz o) o
theorem qFg:OQ Tryz.prog qEa:=fun _ ho=>qQ ho fun vs objs K r h=>by
 unfold qbz at h
 split at h
 ·skip
  obtain⟨t,h1,h2⟩:=qF h
  refine qa mixed qpc ((qpb _ _ _).trans h1) (by kernel_rfl) fun v objs' hd=>?_
  unfold qb1 at hd;split at hd;(cases hd;exact h2);cases hd
 ·exact ho _ _ _ _ _ h
def qTg:Ctx:=mkC 90 ((qEa (qCt (qFH (qJv qM))))) [] qW
theorem qfP:CtxOK Tryz.prog qTg:=mkC_ok ((qFg _ (qC8 _ (qGH _ (qMM _ qO)))))
def qTh:V->List Obj->Option (LI×LI×Int×LL×LL):=fun v objs=>match v,objs with
 | .tup [],[.cells 84 [.arr .i8 81 y0,.arr .i8 16 y1,.one [.i .i8 y2],.rows [.i .u64,.i .u64] 32 y3,.rows [.i .u64,.i .u64] 2 y4]]=>some (y0,y1,y2,y3,y4)
 | _,_=>none
theorem qfO (x0 x1:Int) (x2 x3:LI) (x4:Int) (x5 x6:LL):fnE qTg Tryz.f33 ([.s (.ptr 0 0 none 0),.s (.i .i64 x0),.s (.i .i8 x1)]) ([.cells 84 [.arr .i8 81 x2,.arr .i8 16 x3,.one [.i .i8 x4],.rows [.i .u64,.i .u64] 32 x5,.rows [.i .u64,.i .u64] 2 x6]]) qTh=qF0 x0 x1 x2 x3 x4 x5 x6:=by kernel_rfl
def qTf:HA:=fun o vs objs K=>match vs,objs with
 | [.s (.ptr 0 0 none 0),.s (.i .i64 x0),.s (.i .i8 x1)],[.cells 84 [.arr .i8 81 x2,.arr .i8 16 x3,.one [.i .i8 x4],.rows [.i .u64,.i .u64] 32 x5,.rows [.i .u64,.i .u64] 2 x6]]=>ob (qF0 x0 x1 x2 x3 x4 x5 x6) fun z=>K false (.tup []) ([.cells 84 [.arr .i8 81 (z.1),.arr .i8 16 (z.2.1),.one [.i .i8 (z.2.2.1)],.rows [.i .u64,.i .u64] 32 (z.2.2.2.1),.rows [.i .u64,.i .u64] 2 (z.2.2.2.2)]])
 | _,_=>o 33 vs objs K
def qKR (o:Orc):Orc:=qP 33 (qTf o) o
theorem qNL:OQ Tryz.prog qKR:=fun _ ho=>qQ ho fun vs objs K r h=>by
 unfold qTf at h
 split at h
 ·skip
  obtain⟨t,h1,h2⟩:=qF h
  refine qa mixed qfP ((qfO _ _ _ _ _ _ _).trans h1) (by kernel_rfl) fun v objs' hd=>?_
  unfold qTh at hd;split at hd;(cases hd;exact h2);cases hd
 ·exact ho _ _ _ _ _ h
def qNH:Ex->List V->List Obj->Option (LI×LI×Int×LL×LL):=fun e vs objs=>match e,vs,objs with
 | .exit 0,[.s (.ptr 0 0 none 0)],[.cells 84 [.arr .i8 81 y0,.arr .i8 16 y1,.one [.i .i8 y2],.rows [.i .u64,.i .u64] 32 y3,.rows [.i .u64,.i .u64] 2 y4]]=>some (y0,y1,y2,y3,y4)
 | _,_,_=>none
def qNJ:HL:=fun vs objs K=>match vs,objs with
 | [.s (.ptr 0 0 none 0),.agg [.arr .i8 81 x0],.s (.i .i64 x1)],[.cells 84 [.arr .i8 81 x2,.arr .i8 16 x3,.one [.i .i8 x4],.rows [.i .u64,.i .u64] 32 x5,.rows [.i .u64,.i .u64] 2 x6]]=>ob (qEB qC x0 x1 x2 x3 x4 x5 x6) fun z=>K (.exit 0) ([.s (.ptr 0 0 none 0)]) ([.cells 84 [.arr .i8 81 (z.1),.arr .i8 16 (z.2.1),.one [.i .i8 (z.2.2.1)],.rows [.i .u64,.i .u64] 32 (z.2.2.2.1),.rows [.i .u64,.i .u64] 2 (z.2.2.2.2)]])
 | _,_=>none
def qfH:{R:Type}->Nat->List V->List Obj->(Ex->List V->List Obj->Option R)->Option R:=fun q vs objs K=>bif Nat.beq q 4 then qNJ vs objs K else none
def qKQ:Ctx:=mkC 32 ((qKR qM)) [(4,[3,21,22],[3])] qfH
theorem qTU:CtxOK Tryz.prog qKQ:=mkC_ok ((qNL _ qO))
def qNI (f:Nat) (x0:LI) (x1:Int) (x2 x3:LI) (x4:Int) (x5 x6:LL):Option (LI×LI×Int×LL×LL):=qh qKQ 0 [3,21,22] [3] (qG Tryz.f15 4) f ([.s (.ptr 0 0 none 0),.agg [.arr .i8 81 x0],.s (.i .i64 x1)]) ([.cells 84 [.arr .i8 81 x2,.arr .i8 16 x3,.one [.i .i8 x4],.rows [.i .u64,.i .u64] 32 x5,.rows [.i .u64,.i .u64] 2 x6]]) qNH
theorem qfG (f:Nat) (x0:LI) (x1:Int) (x2 x3:LI) (x4:Int) (x5 x6:LL):qNI (f+1) x0 x1 x2 x3 x4 x5 x6=qGy (qNI f) x0 x1 x2 x3 x4 x5 x6:=by kernel_rfl
theorem qTW:∀ f,qNI f=qEB f
 | 0=>rfl
 | f+1=>by funext x0 x1 x2 x3 x4 x5 x6;rw[qfG,qTW f];rfl
theorem qfJ:qe Tryz.prog qKQ 0 (qG Tryz.f15 4):=
 qj mixed qTU (qT.of (l':=[]) (by kernel_rfl) trivial) (q:=4) (kin:=[3,21,22]) (kout:=[3]) (by kernel_rfl) (by kernel_rfl) fun vs objs K r h=>by
  replace h:qNJ vs objs K=some r:=h
  unfold qNJ at h
  split at h
  ·skip
   obtain⟨t,h1,h2⟩:=qF h
   rw[<- qTW] at h1
   refine⟨_,qNH,t,qC,h1,fun e vs' objs' hd=>?_⟩
   unfold qNH at hd;split at hd;(cases hd;exact h2);cases hd
  ·cases h
def qTV:V->List Obj->Option (LI×LI×Int×LL×LL):=fun v objs=>match v,objs with
 | .s (.ptr 0 0 none 0),[.cells 84 [.arr .i8 81 y0,.arr .i8 16 y1,.one [.i .i8 y2],.rows [.i .u64,.i .u64] 32 y3,.rows [.i .u64,.i .u64] 2 y4]]=>some (y0,y1,y2,y3,y4)
 | _,_=>none
theorem qfF (x0 x1:LI) (x2:Int):fnE qKQ Tryz.f15 ([.agg [.arr .i8 81 x0,.arr .i8 16 x1,.one [.i .i8 x2]]]) ([]) qTV=qIl x0 x1 x2:=by kernel_rfl
def qTT:HA:=fun o vs objs K=>match vs,objs with
 | [.agg [.arr .i8 81 x0,.arr .i8 16 x1,.one [.i .i8 x2]]],[]=>ob (qIl x0 x1 x2) fun z=>K false (.s (.ptr 0 0 none 0)) ([.cells 84 [.arr .i8 81 (z.1),.arr .i8 16 (z.2.1),.one [.i .i8 (z.2.2.1)],.rows [.i .u64,.i .u64] 32 (z.2.2.2.1),.rows [.i .u64,.i .u64] 2 (z.2.2.2.2)]])
 | _,_=>o 15 vs objs K
def qTX (o:Orc):Orc:=qP 15 (qTT o) o
theorem qfI:OQ Tryz.prog qTX:=fun _ ho=>qQ ho fun vs objs K r h=>by
 unfold qTT at h
 split at h
 ·skip
  obtain⟨t,h1,h2⟩:=qF h
  refine qAe mixed qTU (fn:=Tryz.f15) (b:=(Tryz.f15).body.getD .skip) (by kernel_rfl) (by kernel_rfl) (by kernel_rfl) ((qfF _ _ _).trans h1) (m:=0) rfl (qT.of (l':=[qG Tryz.f15 4]) (by kernel_rfl) ⟨qfJ,trivial⟩) fun v objs' hd=>?_
  unfold qTV at hd;split at hd;(cases hd;exact h2);cases hd
 ·exact ho _ _ _ _ _ h
def qVz:Ctx:=mkC 19 (qM) [] qW
theorem qiL:CtxOK Tryz.prog qVz:=mkC_ok (qO)
def qV0:V->List Obj->Option (Int):=fun v objs=>match v,objs with
 | .s (.i .u64 y0),[]=>some (y0)
 | _,_=>none
theorem qiK (x0:Int):fnE qVz Tryz.f118 ([.s (.i .u64 x0)]) ([]) qV0=qDX x0:=by kernel_rfl
def qVy:HA:=fun o vs objs K=>match vs,objs with
 | [.s (.i .u64 x0)],[]=>ob (qDX x0) fun y0=>K false (.s (.i .u64 y0)) ([])
 | _,_=>o 118 vs objs K
def qKu (o:Orc):Orc:=qP 118 (qVy o) o
theorem qOU:OQ Tryz.prog qKu:=fun _ ho=>qQ ho fun vs objs K r h=>by
 unfold qVy at h
 split at h
 ·skip
  obtain⟨t,h1,h2⟩:=qF h
  refine qa mixed qiL ((qiK _).trans h1) (by kernel_rfl) fun v objs' hd=>?_
  unfold qV0 at hd;split at hd;(cases hd;exact h2);cases hd
 ·exact ho _ _ _ _ _ h
def qVo:Ctx:=mkC 23 ((qKu (qCt qM))) [] qW
theorem qiH:CtxOK Tryz.prog qVo:=mkC_ok ((qOU _ (qC8 _ qO)))
def qVp:V->List Obj->Option (Int):=fun v objs=>match v,objs with
 | .s (.i .u64 y0),[]=>some (y0)
 | _,_=>none
theorem qiG (x0 x1:Int):fnE qVo Tryz.f93 ([.s (.i .i64 x0),.s (.i .i8 x1)]) ([]) qVp=qCA x0 x1:=by kernel_rfl
def qVn:HA:=fun o vs objs K=>match vs,objs with
 | [.s (.i .i64 x0),.s (.i .i8 x1)],[]=>ob (qCA x0 x1) fun y0=>K false (.s (.i .u64 y0)) ([])
 | _,_=>o 93 vs objs K
def qOS (o:Orc):Orc:=qP 93 (qVn o) o
theorem qVq:OQ Tryz.prog qOS:=fun _ ho=>qQ ho fun vs objs K r h=>by
 unfold qVn at h
 split at h
 ·skip
  obtain⟨t,h1,h2⟩:=qF h
  refine qa mixed qiH ((qiG _ _).trans h1) (by kernel_rfl) fun v objs' hd=>?_
  unfold qVp at hd;split at hd;(cases hd;exact h2);cases hd
 ·exact ho _ _ _ _ _ h
def qVe:Ctx:=mkC 41 ((qKu qM)) [] qW
theorem qh7:CtxOK Tryz.prog qVe:=mkC_ok ((qOU _ qO))
def qVf:V->List Obj->Option (Int):=fun v objs=>match v,objs with
 | .s (.i .u64 y0),[]=>some (y0)
 | _,_=>none
theorem qh6 (x0 x1 x2:Int):fnE qVe Tryz.f94 ([.s (.i .i64 x0),.s (.i .i64 x1),.s (.i .i64 x2)]) ([]) qVf=qCo x0 x1 x2:=by kernel_rfl
def qVd:HA:=fun o vs objs K=>match vs,objs with
 | [.s (.i .i64 x0),.s (.i .i64 x1),.s (.i .i64 x2)],[]=>ob (qCo x0 x1 x2) fun y0=>K false (.s (.i .u64 y0)) ([])
 | _,_=>o 94 vs objs K
def qOH (o:Orc):Orc:=qP 94 (qVd o) o
theorem qVg:OQ Tryz.prog qOH:=fun _ ho=>qQ ho fun vs objs K r h=>by
 unfold qVd at h
 split at h
 ·skip
  obtain⟨t,h1,h2⟩:=qF h
  refine qa mixed qh7 ((qh6 _ _ _).trans h1) (by kernel_rfl) fun v objs' hd=>?_
  unfold qVf at hd;split at hd;(cases hd;exact h2);cases hd
 ·exact ho _ _ _ _ _ h
def qVs:Ctx:=mkC 2 ((qKu qM)) [] qW
theorem qiJ:CtxOK Tryz.prog qVs:=mkC_ok ((qOU _ qO))
def qVt:V->List Obj->Option (Int):=fun v objs=>match v,objs with
 | .s (.i .u64 y0),[]=>some (y0)
 | _,_=>none
theorem qiI:fnE qVs Tryz.f95 ([]) ([]) qVt=qCq  := by kernel_rfl
def qVr:HA:=fun o vs objs K=>match vs,objs with
 | [],[]=>ob (qCq ) fun y0=>K false (.s (.i .u64 y0)) ([])
 | _,_=>o 95 vs objs K
def qOT (o:Orc):Orc:=qP 95 (qVr o) o
theorem qVu:OQ Tryz.prog qOT:=fun _ ho=>qQ ho fun vs objs K r h=>by
 unfold qVr at h
 split at h
 ·skip
  obtain⟨t,h1,h2⟩:=qF h
  refine qa mixed qiJ ((qiI).trans h1) (by kernel_rfl) fun v objs' hd=>?_
  unfold qVt at hd;split at hd;(cases hd;exact h2);cases hd
 ·exact ho _ _ _ _ _ h
def qOK:Ex->List V->List Obj->Option (Int×LI×LI×Int):=fun e vs objs=>match e,vs,objs with
 | .exit 0,[.s (.ptr 0 0 none 0),.s (.i .u64 y0)],[.cells 29 [.arr .i8 81 y1,.arr .i8 16 y2,.one [.i .i8 y3]]]=>some (y0,y1,y2,y3)
 | _,_,_=>none
def qOI:Ex->List V->List Obj->Option (Int×LI×Int×LI×LI×Int):=fun e vs objs=>match e,vs,objs with
 | .exit 4,[.s (.ptr 0 0 none 0),.s (.i .u64 y0),.agg [.arr .i8 16 y1],.s (.i .i64 y2)],[.cells 29 [.arr .i8 81 y3,.arr .i8 16 y4,.one [.i .i8 y5]]]=>some (y0,y1,y2,y3,y4,y5)
 | _,_,_=>none
def qOM:Ex->List V->List Obj->Option (Int×LI×LI×Int):=fun e vs objs=>match e,vs,objs with
 | .exit 2,[.s (.ptr 0 0 none 0),.s (.i .u64 y0)],[.cells 29 [.arr .i8 81 y1,.arr .i8 16 y2,.one [.i .i8 y3]]]=>some (y0,y1,y2,y3)
 | _,_,_=>none
def qOQ:HL:=fun vs objs K=>match vs,objs with
 | [.s (.ptr 0 0 none 0),.s (.i .u64 x0),.agg [.arr .i8 81 x1],.s (.i .i64 x2)],[.cells 29 [.arr .i8 81 x3,.arr .i8 16 x4,.one [.i .i8 x5]]]=>ob (qCT qC x0 x1 x2 x3 x4 x5) fun z=>K (.exit 0) ([.s (.ptr 0 0 none 0),.s (.i .u64 (z.1))]) ([.cells 29 [.arr .i8 81 (z.2.1),.arr .i8 16 (z.2.2.1),.one [.i .i8 (z.2.2.2)]]])
 | _,_=>none
def qOP:HL:=fun vs objs K=>match vs,objs with
 | [.s (.ptr 0 0 none 0),.s (.i .u64 x0),.s (.i .i64 x1),.agg [.arr .i8 16 x2],.s (.i .i64 x3),.agg [.arr .i8 8 x4],.s (.i .i64 x5)],[.cells 29 [.arr .i8 81 x6,.arr .i8 16 x7,.one [.i .i8 x8]]]=>ob (qCp qC x0 x1 x2 x3 x4 x5 x6 x7 x8) fun z=>K (.exit 4) ([.s (.ptr 0 0 none 0),.s (.i .u64 (z.1)),.agg [.arr .i8 16 (z.2.1)],.s (.i .i64 (z.2.2.1))]) ([.cells 29 [.arr .i8 81 (z.2.2.2.1),.arr .i8 16 (z.2.2.2.2.1),.one [.i .i8 (z.2.2.2.2.2)]]])
 | _,_=>none
def qOR:HL:=fun vs objs K=>match vs,objs with
 | [.s (.ptr 0 0 none 0),.s (.i .u64 x0),.agg [.arr .i8 16 x1],.s (.i .i64 x2)],[.cells 29 [.arr .i8 81 x3,.arr .i8 16 x4,.one [.i .i8 x5]]]=>ob (qBr qC x0 x1 x2 x3 x4 x5) fun z=>K (.exit 2) ([.s (.ptr 0 0 none 0),.s (.i .u64 (z.1))]) ([.cells 29 [.arr .i8 81 (z.2.1),.arr .i8 16 (z.2.2.1),.one [.i .i8 (z.2.2.2)]]])
 | _,_=>none
def qiC:{R:Type}->Nat->List V->List Obj->(Ex->List V->List Obj->Option R)->Option R:=fun q vs objs K=>bif Nat.beq q 3 then qOQ vs objs K else bif Nat.beq q 11 then qOP vs objs K else bif Nat.beq q 8 then qOR vs objs K else none
def qE7:Ctx:=mkC 49 ((qOT (qOH (qOS qM)))) [(3,[1,3,11,12],[1,3]),(8,[1,3,23,24],[1,3]),(11,[1,3,6,23,24,28,29],[1,3,23,24])] qiC
theorem qKt:CtxOK Tryz.prog qE7:=mkC_ok ((qVu _ (qVg _ (qVq _ qO))))
def qOL (f:Nat) (x0:Int) (x1:LI) (x2:Int) (x3 x4:LI) (x5:Int):Option (Int×LI×LI×Int):=qh qE7 0 [1,3,11,12] [1,3] (qG Tryz.f44 3) f ([.s (.ptr 0 0 none 0),.s (.i .u64 x0),.agg [.arr .i8 81 x1],.s (.i .i64 x2)]) ([.cells 29 [.arr .i8 81 x3,.arr .i8 16 x4,.one [.i .i8 x5]]]) qOK
theorem qiA (f:Nat) (x0:Int) (x1:LI) (x2:Int) (x3 x4:LI) (x5:Int):qOL (f+1) x0 x1 x2 x3 x4 x5=qDV (qOL f) x0 x1 x2 x3 x4 x5:=by kernel_rfl
theorem qVk:∀ f,qOL f=qCT f
 | 0=>rfl
 | f+1=>by funext x0 x1 x2 x3 x4 x5;rw[qiA,qVk f];rfl
def qOJ (f:Nat) (x0 x1:Int) (x2:LI) (x3:Int) (x4:LI) (x5:Int) (x6 x7:LI) (x8:Int):Option (Int×LI×Int×LI×LI×Int):=qh qE7 0 [1,3,6,23,24,28,29] [1,3,23,24] (qG Tryz.f44 11) f ([.s (.ptr 0 0 none 0),.s (.i .u64 x0),.s (.i .i64 x1),.agg [.arr .i8 16 x2],.s (.i .i64 x3),.agg [.arr .i8 8 x4],.s (.i .i64 x5)]) ([.cells 29 [.arr .i8 81 x6,.arr .i8 16 x7,.one [.i .i8 x8]]]) qOI
theorem qh9 (f:Nat) (x0 x1:Int) (x2:LI) (x3:Int) (x4:LI) (x5:Int) (x6 x7:LI) (x8:Int):qOJ (f+1) x0 x1 x2 x3 x4 x5 x6 x7 x8=qDU (qOJ f) x0 x1 x2 x3 x4 x5 x6 x7 x8:=by kernel_rfl
theorem qVj:∀ f,qOJ f=qCp f
 | 0=>rfl
 | f+1=>by funext x0 x1 x2 x3 x4 x5 x6 x7 x8;rw[qh9,qVj f];rfl
def qON (f:Nat) (x0:Int) (x1:LI) (x2:Int) (x3 x4:LI) (x5:Int):Option (Int×LI×LI×Int):=qh qE7 0 [1,3,23,24] [1,3] (qG Tryz.f44 8) f ([.s (.ptr 0 0 none 0),.s (.i .u64 x0),.agg [.arr .i8 16 x1],.s (.i .i64 x2)]) ([.cells 29 [.arr .i8 81 x3,.arr .i8 16 x4,.one [.i .i8 x5]]]) qOM
theorem qiB (f:Nat) (x0:Int) (x1:LI) (x2:Int) (x3 x4:LI) (x5:Int):qON (f+1) x0 x1 x2 x3 x4 x5=qDW (qON f) x0 x1 x2 x3 x4 x5:=by kernel_rfl
theorem qVl:∀ f,qON f=qBr f
 | 0=>rfl
 | f+1=>by funext x0 x1 x2 x3 x4 x5;rw[qiB,qVl f];rfl
theorem qiE:qe Tryz.prog qE7 0 (qG Tryz.f44 3):=
 qj mixed qKt (qT.of (l':=[]) (by kernel_rfl) trivial) (q:=3) (kin:=[1,3,11,12]) (kout:=[1,3]) (by kernel_rfl) (by kernel_rfl) fun vs objs K r h=>by
  replace h:qOQ vs objs K=some r:=h
  unfold qOQ at h
  split at h
  ·skip
   obtain⟨t,h1,h2⟩:=qF h
   rw[<- qVk] at h1
   refine⟨_,qOK,t,qC,h1,fun e vs' objs' hd=>?_⟩
   unfold qOK at hd;split at hd;(cases hd;exact h2);cases hd
  ·cases h
theorem qiD:qe Tryz.prog qE7 0 (qG Tryz.f44 11):=
 qj mixed qKt (qT.of (l':=[]) (by kernel_rfl) trivial) (q:=11) (kin:=[1,3,6,23,24,28,29]) (kout:=[1,3,23,24]) (by kernel_rfl) (by kernel_rfl) fun vs objs K r h=>by
  replace h:qOP vs objs K=some r:=h
  unfold qOP at h
  split at h
  ·skip
   obtain⟨t,h1,h2⟩:=qF h
   rw[<- qVj] at h1
   refine⟨_,qOI,t,qC,h1,fun e vs' objs' hd=>?_⟩
   unfold qOI at hd;split at hd;(cases hd;exact h2);cases hd
  ·cases h
theorem qiF:qe Tryz.prog qE7 0 (qG Tryz.f44 8):=
 qj mixed qKt (qT.of (l':=[qG Tryz.f44 11]) (by kernel_rfl) ⟨qiD,trivial⟩) (q:=8) (kin:=[1,3,23,24]) (kout:=[1,3]) (by kernel_rfl) (by kernel_rfl) fun vs objs K r h=>by
  replace h:qOR vs objs K=some r:=h
  unfold qOR at h
  split at h
  ·skip
   obtain⟨t,h1,h2⟩:=qF h
   rw[<- qVl] at h1
   refine⟨_,qOM,t,qC,h1,fun e vs' objs' hd=>?_⟩
   unfold qOM at hd;split at hd;(cases hd;exact h2);cases hd
  ·cases h
def qVi:V->List Obj->Option (Int):=fun v objs=>match v,objs with
 | .s (.i .u64 y0),[]=>some (y0)
 | _,_=>none
theorem qh8 (x0 x1:LI) (x2:Int):fnE qE7 Tryz.f44 ([.agg [.arr .i8 81 x0,.arr .i8 16 x1,.one [.i .i8 x2]]]) ([]) qVi=qDT x0 x1 x2:=by kernel_rfl
def qVh:HA:=fun o vs objs K=>match vs,objs with
 | [.agg [.arr .i8 81 x0,.arr .i8 16 x1,.one [.i .i8 x2]]],[]=>ob (qDT x0 x1 x2) fun y0=>K false (.s (.i .u64 y0)) ([])
 | _,_=>o 44 vs objs K
def qOO (o:Orc):Orc:=qP 44 (qVh o) o
theorem qVm:OQ Tryz.prog qOO:=fun _ ho=>qQ ho fun vs objs K r h=>by
 unfold qVh at h
 split at h
 ·skip
  obtain⟨t,h1,h2⟩:=qF h
  refine qAe mixed qKt (fn:=Tryz.f44) (b:=(Tryz.f44).body.getD .skip) (by kernel_rfl) (by kernel_rfl) (by kernel_rfl) ((qh8 _ _ _).trans h1) (m:=0) rfl (qT.of (l':=[qG Tryz.f44 3,qG Tryz.f44 8]) (by kernel_rfl) ⟨qiE,qiF,trivial⟩) fun v objs' hd=>?_
  unfold qVi at hd;split at hd;(cases hd;exact h2);cases hd
 ·exact ho _ _ _ _ _ h
def qUW:Ctx:=mkC 14 ((qOO (qTX qM))) [] qW
theorem qgY:CtxOK Tryz.prog qUW:=mkC_ok ((qVm _ (qfI _ qO)))
def qUX:V->List Obj->Option (Int×Nat×LI×LI×Int×LL×LL×Nat×LL):=fun v objs=>match v,objs with
 | .s (.ptr 0 0 none 0),[.cells 65 [.one [.ptr 1 0 none 0,.i .u64 y0,.sl 2 0 y1 true]],.cells 84 [.arr .i8 81 y2,.arr .i8 16 y3,.one [.i .i8 y4],.rows [.i .u64,.i .u64] 32 y5,.rows [.i .u64,.i .u64] 2 y6],.sli 125 false (.rows [.i .i64,.i .i64,.i .i64,.b,.i .i8,.i .i8] y7 y8)]=>some (y0,y1,y2,y3,y4,y5,y6,y7,y8)
 | _,_=>none
theorem qgX (x0 x1:LI) (x2:Int):fnE qUW Tryz.f19 ([.agg [.arr .i8 81 x0,.arr .i8 16 x1,.one [.i .i8 x2]]]) ([]) qUX=qIz x0 x1 x2:=by kernel_rfl
def qUV:HA:=fun o vs objs K=>match vs,objs with
 | [.agg [.arr .i8 81 x0,.arr .i8 16 x1,.one [.i .i8 x2]]],[]=>ob (qIz x0 x1 x2) fun z=>K false (.s (.ptr 0 0 none 0)) ([.cells 65 [.one [.ptr 1 0 none 0,.i .u64 (z.1),.sl 2 0 (z.2.1) true]],.cells 84 [.arr .i8 81 (z.2.2.1),.arr .i8 16 (z.2.2.2.1),.one [.i .i8 (z.2.2.2.2.1)],.rows [.i .u64,.i .u64] 32 (z.2.2.2.2.2.1),.rows [.i .u64,.i .u64] 2 (z.2.2.2.2.2.2.1)],.sli 125 false (.rows [.i .i64,.i .i64,.i .i64,.b,.i .i8,.i .i8] (z.2.2.2.2.2.2.2.1) (z.2.2.2.2.2.2.2.2))])
 | _,_=>o 19 vs objs K
def qUY (o:Orc):Orc:=qP 19 (qUV o) o
theorem qgZ:OQ Tryz.prog qUY:=fun _ ho=>qQ ho fun vs objs K r h=>by
 unfold qUV at h
 split at h
 ·skip
  obtain⟨t,h1,h2⟩:=qF h
  refine qa mixed qgY ((qgX _ _ _).trans h1) (by kernel_rfl) fun v objs' hd=>?_
  unfold qUX at hd;split at hd;(cases hd;exact h2);cases hd
 ·exact ho _ _ _ _ _ h
def qXY:Ctx:=mkC 28 (qM) [] qW
theorem qk8:CtxOK Tryz.prog qXY:=mkC_ok (qO)
def qXZ:V->List Obj->Option (Int):=fun v objs=>match v,objs with
 | .s (.i .i8 y0),[]=>some (y0)
 | _,_=>none
theorem qk7 (x0 x1:Int):fnE qXY Tryz.f78 ([.s (.i .i64 x0),.s (.i .i64 x1)]) ([]) qXZ=qAy x0 x1:=by kernel_rfl
def qXX:HA:=fun o vs objs K=>match vs,objs with
 | [.s (.i .i64 x0),.s (.i .i64 x1)],[]=>ob (qAy x0 x1) fun y0=>K false (.s (.i .i8 y0)) ([])
 | _,_=>o 78 vs objs K
def qGG (o:Orc):Orc:=qP 78 (qXX o) o
theorem qHi:OQ Tryz.prog qGG:=fun _ ho=>qQ ho fun vs objs K r h=>by
 unfold qXX at h
 split at h
 ·skip
  obtain⟨t,h1,h2⟩:=qF h
  refine qa mixed qk8 ((qk7 _ _).trans h1) (by kernel_rfl) fun v objs' hd=>?_
  unfold qXZ at hd;split at hd;(cases hd;exact h2);cases hd
 ·exact ho _ _ _ _ _ h
def qTZ:Ctx:=mkC 20 ((qGG qM)) [] qW
theorem qfL:CtxOK Tryz.prog qTZ:=mkC_ok ((qHi _ qO))
def qTa:V->List Obj->Option (Int×Int):=fun v objs=>match v,objs with
 | .agg [.one [.i .u64 y0,.i .u64 y1]],[]=>some (y0,y1)
 | _,_=>none
theorem qfK (x0 x1:Int) (x2 x3:LI) (x4:Int) (x5 x6:LL):fnE qTZ Tryz.f63 ([.s (.ptr 0 0 none 0),.s (.i .i64 x0),.s (.i .i64 x1)]) ([.rcells 84 [.arr .i8 81 x2,.arr .i8 16 x3,.one [.i .i8 x4],.rows [.i .u64,.i .u64] 32 x5,.rows [.i .u64,.i .u64] 2 x6]]) (qAc 1 qTa)=qDL x0 x1 x2 x3 x4 x5 x6:=by kernel_rfl
def qTY:HA:=fun o vs objs K=>match vs,List.map Obj.toRO objs with
 | [.s (.ptr 0 0 none 0),.s (.i .i64 x0),.s (.i .i64 x1)],[.rcells 84 [.arr .i8 81 x2,.arr .i8 16 x3,.one [.i .i8 x4],.rows [.i .u64,.i .u64] 32 x5,.rows [.i .u64,.i .u64] 2 x6]]=>ob (qDL x0 x1 x2 x3 x4 x5 x6) fun z=>K true (.agg [.one [.i .u64 (z.1),.i .u64 (z.2)]]) ([])
 | _,_=>o 63 vs objs K
def qGz (o:Orc):Orc:=qP 63 (qTY o) o
theorem qIm:OQ Tryz.prog qGz:=fun _ ho=>qQ ho fun vs objs K r h=>by
 unfold qTY at h
 split at h
 ·skip
  have hq:List.map Obj.toRO objs=_:=(by rename_i hq;first | exact hq | assumption)
  obtain⟨t,h1,h2⟩:=qF h
  refine qAi mixed qfL (m:=1) (fn:=Tryz.f63) (b:=(Tryz.f63).body.getD .skip) (by kernel_rfl) (by kernel_rfl) (by kernel_rfl) hq (by kernel_rfl) (by kernel_rfl) (qT.of (l':=[]) (by kernel_rfl) trivial) ((qfK _ _ _ _ _ _ _).trans h1) fun v objs' hd=>?_
  unfold qTa at hd;split at hd;(cases hd;exact h2);cases hd
 ·exact ho _ _ _ _ _ h
def qNC:Ctx:=mkC 14 (qM) [] qW
theorem qe3:CtxOK Tryz.prog qNC:=mkC_ok (qO)
def qND:V->List Obj->Option (Int):=fun v objs=>match v,objs with
 | .s (.i .i64 y0),[]=>some (y0)
 | _,_=>none
theorem qe2 (B:{R:Type}->Bool->Option R->Option R->Option R) (x0:Int):fnE { qNC with brg:=B } Tryz.f106 ([.s (.i .u64 x0)]) ([]) qND=qNB B x0:=by kernel_rfl
theorem qe1 (x0:Int):fnE qNC Tryz.f106 ([.s (.i .u64 x0)]) ([]) qND=qEs x0:=qe2 br x0
def qTE:HA:=fun o vs objs K=>match vs,objs with
 | [.s (.i .u64 x0)],[]=>ob (qEs x0) fun y0=>K false (.s (.i .i64 y0)) ([])
 | _,_=>o 106 vs objs K
def qNE (o:Orc):Orc:=qP 106 (qTE o) o
theorem qTF:OQ Tryz.prog qNE:=fun _ ho=>qQ ho fun vs objs K r h=>by
 unfold qTE at h
 split at h
 ·skip
  obtain⟨t,h1,h2⟩:=qF h
  refine qa mixed qe3 ((qe1 _).trans h1) (by kernel_rfl) fun v objs' hd=>?_
  unfold qND at hd;split at hd;(cases hd;exact h2);cases hd
 ·exact ho _ _ _ _ _ h
def qbO:Ctx:=mkC 18 ((qNE qM)) [] qW
theorem qo7:CtxOK Tryz.prog qbO:=mkC_ok ((qTF _ qO))
def qbP:V->List Obj->Option (Int):=fun v objs=>match v,objs with
 | .s (.i .i64 y0),[]=>some (y0)
 | _,_=>none
theorem qo6 (x0 x1:Int):fnE qbO Tryz.f61 ([.agg [.one [.i .u64 x0,.i .u64 x1]]]) ([]) qbP=qGX x0 x1:=by kernel_rfl
def qbN:HA:=fun o vs objs K=>match vs,objs with
 | [.agg [.one [.i .u64 x0,.i .u64 x1]]],[]=>ob (qGX x0 x1) fun y0=>K false (.s (.i .i64 y0)) ([])
 | _,_=>o 61 vs objs K
def qMD (o:Orc):Orc:=qP 61 (qbN o) o
theorem qRW:OQ Tryz.prog qMD:=fun _ ho=>qQ ho fun vs objs K r h=>by
 unfold qbN at h
 split at h
 ·skip
  obtain⟨t,h1,h2⟩:=qF h
  refine qa mixed qo7 ((qo6 _ _).trans h1) (by kernel_rfl) fun v objs' hd=>?_
  unfold qbP at hd;split at hd;(cases hd;exact h2);cases hd
 ·exact ho _ _ _ _ _ h
def qTR:Ctx:=mkC 9 ((qMD (qGz qM))) [] qW
theorem qfE:CtxOK Tryz.prog qTR:=mkC_ok ((qRW _ (qIm _ qO)))
def qTS:V->List Obj->Option (Int):=fun v objs=>match v,objs with
 | .s (.i .i64 y0),[]=>some (y0)
 | _,_=>none
theorem qfD (x0:Int) (x1 x2:LI) (x3:Int) (x4 x5:LL):fnE qTR Tryz.f56 ([.s (.ptr 0 0 none 0),.s (.i .i64 x0)]) ([.rcells 84 [.arr .i8 81 x1,.arr .i8 16 x2,.one [.i .i8 x3],.rows [.i .u64,.i .u64] 32 x4,.rows [.i .u64,.i .u64] 2 x5]]) (qAc 1 qTS)=qFy x0 x1 x2 x3 x4 x5:=by kernel_rfl
def qTQ:HA:=fun o vs objs K=>match vs,List.map Obj.toRO objs with
 | [.s (.ptr 0 0 none 0),.s (.i .i64 x0)],[.rcells 84 [.arr .i8 81 x1,.arr .i8 16 x2,.one [.i .i8 x3],.rows [.i .u64,.i .u64] 32 x4,.rows [.i .u64,.i .u64] 2 x5]]=>ob (qFy x0 x1 x2 x3 x4 x5) fun y0=>K true (.s (.i .i64 y0)) ([])
 | _,_=>o 56 vs objs K
def qKP (o:Orc):Orc:=qP 56 (qTQ o) o
theorem qNG:OQ Tryz.prog qKP:=fun _ ho=>qQ ho fun vs objs K r h=>by
 unfold qTQ at h
 split at h
 ·skip
  have hq:List.map Obj.toRO objs=_:=(by rename_i hq;first | exact hq | assumption)
  obtain⟨t,h1,h2⟩:=qF h
  refine qAi mixed qfE (m:=1) (fn:=Tryz.f56) (b:=(Tryz.f56).body.getD .skip) (by kernel_rfl) (by kernel_rfl) (by kernel_rfl) hq (by kernel_rfl) (by kernel_rfl) (qT.of (l':=[]) (by kernel_rfl) trivial) ((qfD _ _ _ _ _ _).trans h1) fun v objs' hd=>?_
  unfold qTS at hd;split at hd;(cases hd;exact h2);cases hd
 ·exact ho _ _ _ _ _ h
def qa8:Ctx:=mkC 2 (qM) [] qW
theorem qox:CtxOK Tryz.prog qa8:=mkC_ok (qO)
def qa9:V->List Obj->Option (Int×Int):=fun v objs=>match v,objs with
 | .agg [.one [.i .u64 y0,.i .u64 y1]],[]=>some (y0,y1)
 | _,_=>none
theorem qow:fnE qa8 Tryz.f29 ([]) ([]) qa9=qGV  := by kernel_rfl
def qa7:HA:=fun o vs objs K=>match vs,objs with
 | [],[]=>ob (qGV ) fun z=>K false (.agg [.one [.i .u64 (z.1),.i .u64 (z.2)]]) ([])
 | _,_=>o 29 vs objs K
def qJq (o:Orc):Orc:=qP 29 (qa7 o) o
theorem qMA:OQ Tryz.prog qJq:=fun _ ho=>qQ ho fun vs objs K r h=>by
 unfold qa7 at h
 split at h
 ·skip
  obtain⟨t,h1,h2⟩:=qF h
  refine qa mixed qox ((qow).trans h1) (by kernel_rfl) fun v objs' hd=>?_
  unfold qa9 at hd;split at hd;(cases hd;exact h2);cases hd
 ·exact ho _ _ _ _ _ h
def qRh:Ex->List V->List Obj->Option (Nat×Int×Int×Nat×LI):=fun e vs objs=>match e,vs,objs with
 | .exit 0,[.s (.ptr 0 0 none 0),.s (.sl 1 0 y0 true)],[.cells 72 [.one [.i .u64 y1,.i .u64 y2]],.sli 3 false (.arr .i64 y3 y4)]=>some (y0,y1,y2,y3,y4)
 | _,_,_=>none
def qRj:Ex->List V->List Obj->Option (Nat×Nat×LI):=fun e vs objs=>match e,vs,objs with
 | .exit 2,[.s (.sl 0 0 y0 true)],[.sli 3 false (.arr .i64 y1 y2)]=>some (y0,y1,y2)
 | _,_,_=>none
def qRl:HL:=fun vs objs K=>match vs,objs with
 | [.s (.ptr 0 0 none 0),.s (.sl 1 0 x0 true)],[.cells 72 [.one [.i .u64 x1,.i .u64 x2]],.sli 3 false (.arr .i64 x3 x4)]=>ob (qIL qC x0 x1 x2 x3 x4) fun z=>K (.exit 0) ([.s (.ptr 0 0 none 0),.s (.sl 1 0 (z.1) true)]) ([.cells 72 [.one [.i .u64 (z.2.1),.i .u64 (z.2.2.1)]],.sli 3 false (.arr .i64 (z.2.2.2.1) (z.2.2.2.2))])
 | _,_=>none
def qRm:HL:=fun vs objs K=>match vs,objs with
 | [.s (.ptr 0 0 none 0),.s (.sl 1 0 x0 true)],[.cells 72 [.one [.i .u64 x1,.i .u64 x2]],.sli 3 false (.arr .i64 x3 x4)]=>ob (qIM qC x0 x1 x2 x3 x4) fun z=>K (.exit 2) ([.s (.sl 0 0 (z.1) true)]) ([.sli 3 false (.arr .i64 (z.2.1) (z.2.2))])
 | _,_=>none
def qpY:{R:Type}->Nat->List V->List Obj->(Ex->List V->List Obj->Option R)->Option R:=fun q vs objs K=>bif Nat.beq q 2 then qRl vs objs K else bif Nat.beq q 5 then qRm vs objs K else none
def qIK:Ctx:=mkC 38 ((qNE qM)) [(2,[1,3],[1,3]),(5,[1,3],[3])] qpY
theorem qRg:CtxOK Tryz.prog qIK:=mkC_ok ((qTF _ qO))
def qRi (f:Nat) (x0:Nat) (x1 x2:Int) (x3:Nat) (x4:LI):Option (Nat×Int×Int×Nat×LI):=qh qIK 0 [1,3] [1,3] (qG Tryz.f65 2) f ([.s (.ptr 0 0 none 0),.s (.sl 1 0 x0 true)]) ([.cells 72 [.one [.i .u64 x1,.i .u64 x2]],.sli 3 false (.arr .i64 x3 x4)]) qRh
theorem qpW (f:Nat) (x0:Nat) (x1 x2:Int) (x3:Nat) (x4:LI):qRi (f+1) x0 x1 x2 x3 x4=qMJ (qRi f) x0 x1 x2 x3 x4:=by kernel_rfl
theorem qbx:∀ f,qRi f=qIL f
 | 0=>rfl
 | f+1=>by funext x0 x1 x2 x3 x4;rw[qpW,qbx f];rfl
def qRk (f:Nat) (x0:Nat) (x1 x2:Int) (x3:Nat) (x4:LI):Option (Nat×Nat×LI):=qh qIK 0 [1,3] [3] (qG Tryz.f65 5) f ([.s (.ptr 0 0 none 0),.s (.sl 1 0 x0 true)]) ([.cells 72 [.one [.i .u64 x1,.i .u64 x2]],.sli 3 false (.arr .i64 x3 x4)]) qRj
theorem qpX (f:Nat) (x0:Nat) (x1 x2:Int) (x3:Nat) (x4:LI):qRk (f+1) x0 x1 x2 x3 x4=qMK (qRk f) x0 x1 x2 x3 x4:=by kernel_rfl
theorem qby:∀ f,qRk f=qIM f
 | 0=>rfl
 | f+1=>by funext x0 x1 x2 x3 x4;rw[qpX,qby f];rfl
theorem qpZ:qe Tryz.prog qIK 0 (qG Tryz.f65 2):=
 qj mixed qRg (qT.of (l':=[]) (by kernel_rfl) trivial) (q:=2) (kin:=[1,3]) (kout:=[1,3]) (by kernel_rfl) (by kernel_rfl) fun vs objs K r h=>by
  replace h:qRl vs objs K=some r:=h
  unfold qRl at h
  split at h
  ·skip
   obtain⟨t,h1,h2⟩:=qF h
   rw[<- qbx] at h1
   refine⟨_,qRh,t,qC,h1,fun e vs' objs' hd=>?_⟩
   unfold qRh at hd;split at hd;(cases hd;exact h2);cases hd
  ·cases h
theorem qpa:qe Tryz.prog qIK 0 (qG Tryz.f65 5):=
 qj mixed qRg (qT.of (l':=[]) (by kernel_rfl) trivial) (q:=5) (kin:=[1,3]) (kout:=[3]) (by kernel_rfl) (by kernel_rfl) fun vs objs K r h=>by
  replace h:qRm vs objs K=some r:=h
  unfold qRm at h
  split at h
  ·skip
   obtain⟨t,h1,h2⟩:=qF h
   rw[<- qby] at h1
   refine⟨_,qRj,t,qC,h1,fun e vs' objs' hd=>?_⟩
   unfold qRj at hd;split at hd;(cases hd;exact h2);cases hd
  ·cases h
def qbw:V->List Obj->Option (Nat×Nat×LI):=fun v objs=>match v,objs with
 | .s (.sl 0 0 y0 true),[.sli 3 false (.arr .i64 y1 y2)]=>some (y0,y1,y2)
 | _,_=>none
theorem qpV (x0 x1:Int):fnE qIK Tryz.f65 ([.agg [.one [.i .u64 x0,.i .u64 x1]]]) ([]) qbw=qEZ x0 x1:=by kernel_rfl
def qbv:HA:=fun o vs objs K=>match vs,objs with
 | [.agg [.one [.i .u64 x0,.i .u64 x1]]],[]=>ob (qEZ x0 x1) fun z=>K false (.s (.sl 0 0 (z.1) true)) ([.sli 3 false (.arr .i64 (z.2.1) (z.2.2))])
 | _,_=>o 65 vs objs K
def qJu (o:Orc):Orc:=qP 65 (qbv o) o
theorem qML:OQ Tryz.prog qJu:=fun _ ho=>qQ ho fun vs objs K r h=>by
 unfold qbv at h
 split at h
 ·skip
  obtain⟨t,h1,h2⟩:=qF h
  refine qAe mixed qRg (fn:=Tryz.f65) (b:=(Tryz.f65).body.getD .skip) (by kernel_rfl) (by kernel_rfl) (by kernel_rfl) ((qpV _ _).trans h1) (m:=0) rfl (qT.of (l':=[qG Tryz.f65 2,qG Tryz.f65 5]) (by kernel_rfl) ⟨qpZ,qpa,trivial⟩) fun v objs' hd=>?_
  unfold qbw at hd;split at hd;(cases hd;exact h2);cases hd
 ·exact ho _ _ _ _ _ h
def qX3:Ctx:=mkC 24 (qM) [] qW
theorem qlk:CtxOK Tryz.prog qX3:=mkC_ok (qO)
def qX4:V->List Obj->Option (Nat×Nat×LL):=fun v objs=>match v,objs with
 | .s (.sl 0 0 y0 true),[.sli 141 false (.rows [.i .i64,.i .i64] y1 y2)]=>some (y0,y1,y2)
 | _,_=>none
theorem qlj (x0:Int):fnE qX3 Tryz.f103 ([.s (.i .i64 x0)]) ([]) qX4=qGJ x0:=by kernel_rfl
def qX2:HA:=fun o vs objs K=>match vs,objs with
 | [.s (.i .i64 x0)],[]=>ob (qGJ x0) fun z=>K false (.s (.sl 0 0 (z.1) true)) ([.sli 141 false (.rows [.i .i64,.i .i64] (z.2.1) (z.2.2))])
 | _,_=>o 103 vs objs K
def qPj (o:Orc):Orc:=qP 103 (qX2 o) o
theorem qX5:OQ Tryz.prog qPj:=fun _ ho=>qQ ho fun vs objs K r h=>by
 unfold qX2 at h
 split at h
 ·skip
  obtain⟨t,h1,h2⟩:=qF h
  refine qa mixed qlk ((qlj _).trans h1) (by kernel_rfl) fun v objs' hd=>?_
  unfold qX4 at hd;split at hd;(cases hd;exact h2);cases hd
 ·exact ho _ _ _ _ _ h
def qRb:Ex->List V->List Obj->Option (Nat×LI×Int×Int×Int×Int):=fun e vs objs=>match e,vs,objs with
 | .exit 0,[.s (.ptr 1 0 none 0),.s (.ptr 2 0 none 0)],[.sli 3 true (.arr .i64 y0 y1),.cells 72 [.one [.i .u64 y2,.i .u64 y3]],.cells 72 [.one [.i .u64 y4,.i .u64 y5]]]=>some (y0,y1,y2,y3,y4,y5)
 | _,_,_=>none
def qRd:HL:=fun vs objs K=>match vs,objs with
 | [.s (.ptr 1 0 none 0),.s (.ptr 2 0 none 0),.s (.sl 0 0 x0 true),.s (.i .i64 x1),.s (.i .i64 x2)],[.sli 3 true (.arr .i64 x3 x4),.cells 72 [.one [.i .u64 x5,.i .u64 x6]],.cells 72 [.one [.i .u64 x7,.i .u64 x8]]]=>ob (qFf qC x0 x1 x2 x3 x4 x5 x6 x7 x8) fun z=>K (.exit 0) ([.s (.ptr 1 0 none 0),.s (.ptr 2 0 none 0)]) ([.sli 3 true (.arr .i64 (z.1) (z.2.1)),.cells 72 [.one [.i .u64 (z.2.2.1),.i .u64 (z.2.2.2.1)]],.cells 72 [.one [.i .u64 (z.2.2.2.2.1),.i .u64 (z.2.2.2.2.2)]]])
 | _,_=>none
def qpM:{R:Type}->Nat->List V->List Obj->(Ex->List V->List Obj->Option R)->Option R:=fun q vs objs K=>bif Nat.beq q 3 then qRd vs objs K else none
def qMH:Ctx:=mkC 17 ((qEa qM)) [(3,[2,3,6,7,8],[2,3])] qpM
theorem qbh:CtxOK Tryz.prog qMH:=mkC_ok ((qFg _ qO))
def qRc (f:Nat) (x0:Nat) (x1 x2:Int) (x3:Nat) (x4:LI) (x5 x6:Int) (x7 x8:Int):Option (Nat×LI×Int×Int×Int×Int):=qh qMH 1 [2,3,6,7,8] [2,3] (qG Tryz.f105 3) f ([.s (.ptr 1 0 none 0),.s (.ptr 2 0 none 0),.s (.sl 0 0 x0 true),.s (.i .i64 x1),.s (.i .i64 x2)]) ([.sli 3 true (.arr .i64 x3 x4),.cells 72 [.one [.i .u64 x5,.i .u64 x6]],.cells 72 [.one [.i .u64 x7,.i .u64 x8]]]) qRb
theorem qpL (f:Nat) (x0:Nat) (x1 x2:Int) (x3:Nat) (x4:LI) (x5 x6:Int) (x7 x8:Int):qRc (f+1) x0 x1 x2 x3 x4 x5 x6 x7 x8=qII (qRc f) x0 x1 x2 x3 x4 x5 x6 x7 x8:=by kernel_rfl
theorem qbj:∀ f,qRc f=qFf f
 | 0=>rfl
 | f+1=>by funext x0 x1 x2 x3 x4 x5 x6 x7 x8;rw[qpL,qbj f];rfl
theorem qpO:qe Tryz.prog qMH 1 (qG Tryz.f105 3):=
 qj mixed qbh (qT.of (l':=[]) (by kernel_rfl) trivial) (q:=3) (kin:=[2,3,6,7,8]) (kout:=[2,3]) (by kernel_rfl) (by kernel_rfl) fun vs objs K r h=>by
  replace h:qRd vs objs K=some r:=h
  unfold qRd at h
  split at h
  ·skip
   obtain⟨t,h1,h2⟩:=qF h
   rw[<- qbj] at h1
   refine⟨_,qRb,t,qC,h1,fun e vs' objs' hd=>?_⟩
   unfold qRb at hd;split at hd;(cases hd;exact h2);cases hd
  ·cases h
def qbi:V->List Obj->Option (Int×Int):=fun v objs=>match v,objs with
 | .agg [.one [.i .u64 y0,.i .u64 y1]],[]=>some (y0,y1)
 | _,_=>none
theorem qpK (x0 x1:Nat) (x2:LI):fnE qMH Tryz.f105 ([.s (.sl 0 0 x0 true)]) ([.sli 3 true (.arr .i64 x1 x2)]) (qAc 1 qbi)=qIH x0 x1 x2:=by kernel_rfl
def qbg:HA:=fun o vs objs K=>match vs,List.map Obj.toRO objs with
 | [.s (.sl 0 0 x0 true)],[.sli 3 true (.arr .i64 x1 x2)]=>ob (qIH x0 x1 x2) fun z=>K true (.agg [.one [.i .u64 (z.1),.i .u64 (z.2)]]) ([])
 | _,_=>o 105 vs objs K
def qbk (o:Orc):Orc:=qP 105 (qbg o) o
theorem qpN:OQ Tryz.prog qbk:=fun _ ho=>qQ ho fun vs objs K r h=>by
 unfold qbg at h
 split at h
 ·skip
  have hq:List.map Obj.toRO objs=_:=(by rename_i hq;first | exact hq | assumption)
  obtain⟨t,h1,h2⟩:=qF h
  refine qAi mixed qbh (m:=1) (fn:=Tryz.f105) (b:=(Tryz.f105).body.getD .skip) (by kernel_rfl) (by kernel_rfl) (by kernel_rfl) hq (by kernel_rfl) (by kernel_rfl) (qT.of (l':=[qG Tryz.f105 3]) (by kernel_rfl) ⟨qpO,trivial⟩) ((qpK _ _ _).trans h1) fun v objs' hd=>?_
  unfold qbi at hd;split at hd;(cases hd;exact h2);cases hd
 ·exact ho _ _ _ _ _ h
def qbL:Ctx:=mkC 5 (qM) [] qW
theorem qo5:CtxOK Tryz.prog qbL:=mkC_ok (qO)
def qbM:V->List Obj->Option (Int):=fun v objs=>match v,objs with
 | .s (.i .i64 y0),[]=>some (y0)
 | _,_=>none
theorem qo4 (x0:Int):fnE qbL Tryz.f114 ([.s (.i .i64 x0)]) ([]) qbM=qFd x0:=by kernel_rfl
def qbK:HA:=fun o vs objs K=>match vs,objs with
 | [.s (.i .i64 x0)],[]=>ob (qFd x0) fun y0=>K false (.s (.i .i64 y0)) ([])
 | _,_=>o 114 vs objs K
def qMC (o:Orc):Orc:=qP 114 (qbK o) o
theorem qRV:OQ Tryz.prog qMC:=fun _ ho=>qQ ho fun vs objs K r h=>by
 unfold qbK at h
 split at h
 ·skip
  obtain⟨t,h1,h2⟩:=qF h
  refine qa mixed qo5 ((qo4 _).trans h1) (by kernel_rfl) fun v objs' hd=>?_
  unfold qbM at hd;split at hd;(cases hd;exact h2);cases hd
 ·exact ho _ _ _ _ _ h
def qbp:Ctx:=mkC 5 (qM) [] qW
theorem qpS:CtxOK Tryz.prog qbp:=mkC_ok (qO)
def qbq:V->List Obj->Option (Int):=fun v objs=>match v,objs with
 | .s (.i .i64 y0),[]=>some (y0)
 | _,_=>none
theorem qpR (x0:Int):fnE qbp Tryz.f120 ([.s (.i .i64 x0)]) ([]) qbq=qEY x0:=by kernel_rfl
def qbo:HA:=fun o vs objs K=>match vs,objs with
 | [.s (.i .i64 x0)],[]=>ob (qEY x0) fun y0=>K false (.s (.i .i64 y0)) ([])
 | _,_=>o 120 vs objs K
def qMI (o:Orc):Orc:=qP 120 (qbo o) o
theorem qRe:OQ Tryz.prog qMI:=fun _ ho=>qQ ho fun vs objs K r h=>by
 unfold qbo at h
 split at h
 ·skip
  obtain⟨t,h1,h2⟩:=qF h
  refine qa mixed qpS ((qpR _).trans h1) (by kernel_rfl) fun v objs' hd=>?_
  unfold qbq at hd;split at hd;(cases hd;exact h2);cases hd
 ·exact ho _ _ _ _ _ h
def qbs:Ctx:=mkC 23 (qM) [] qW
theorem qpU:CtxOK Tryz.prog qbs:=mkC_ok (qO)
def qbt:V->List Obj->Option (Int):=fun v objs=>match v,objs with
 | .s (.i .i64 y0),[]=>some (y0)
 | _,_=>none
theorem qpT (x0 x1:Int):fnE qbs Tryz.f124 ([.s (.i .i64 x0),.s (.i .i64 x1)]) ([]) qbt=qGa x0 x1:=by kernel_rfl
def qbr:HA:=fun o vs objs K=>match vs,objs with
 | [.s (.i .i64 x0),.s (.i .i64 x1)],[]=>ob (qGa x0 x1) fun y0=>K false (.s (.i .i64 y0)) ([])
 | _,_=>o 124 vs objs K
def qRf (o:Orc):Orc:=qP 124 (qbr o) o
theorem qbu:OQ Tryz.prog qRf:=fun _ ho=>qQ ho fun vs objs K r h=>by
 unfold qbr at h
 split at h
 ·skip
  obtain⟨t,h1,h2⟩:=qF h
  refine qa mixed qpU ((qpT _ _).trans h1) (by kernel_rfl) fun v objs' hd=>?_
  unfold qbt at hd;split at hd;(cases hd;exact h2);cases hd
 ·exact ho _ _ _ _ _ h
def qcW:Ctx:=mkC 42 ((qRf (qMI (qMC qM)))) [] qW
theorem qqK:CtxOK Tryz.prog qcW:=mkC_ok ((qbu _ (qRe _ (qRV _ qO))))
def qcX:V->List Obj->Option (Int):=fun v objs=>match v,objs with
 | .s (.i .i64 y0),[]=>some (y0)
 | _,_=>none
theorem qqJ (x0 x1 x2:Int):fnE qcW Tryz.f121 ([.agg [.one [.i .i64 x0,.i .i64 x1]],.s (.i .i64 x2)]) ([]) qcX=qGe x0 x1 x2:=by kernel_rfl
def qcV:HA:=fun o vs objs K=>match vs,objs with
 | [.agg [.one [.i .i64 x0,.i .i64 x1]],.s (.i .i64 x2)],[]=>ob (qGe x0 x1 x2) fun y0=>K false (.s (.i .i64 y0)) ([])
 | _,_=>o 121 vs objs K
def qRz (o:Orc):Orc:=qP 121 (qcV o) o
theorem qcY:OQ Tryz.prog qRz:=fun _ ho=>qQ ho fun vs objs K r h=>by
 unfold qcV at h
 split at h
 ·skip
  obtain⟨t,h1,h2⟩:=qF h
  refine qa mixed qqK ((qqJ _ _ _).trans h1) (by kernel_rfl) fun v objs' hd=>?_
  unfold qcX at hd;split at hd;(cases hd;exact h2);cases hd
 ·exact ho _ _ _ _ _ h
def qbB:Ctx:=mkC 16 (qM) [] qW
theorem qoz:CtxOK Tryz.prog qbB:=mkC_ok (qO)
def qbC:V->List Obj->Option (Int×Int):=fun v objs=>match v,objs with
 | .agg [.one [.i .u64 y0,.i .u64 y1]],[]=>some (y0,y1)
 | _,_=>none
theorem qoy (x0 x1:Int) (x2 x3:Int):fnE qbB Tryz.f70 ([.agg [.one [.i .u64 x0,.i .u64 x1]],.agg [.one [.i .u64 x2,.i .u64 x3]]]) ([]) qbC=qDE x0 x1 x2 x3:=by kernel_rfl
def qbA:HA:=fun o vs objs K=>match vs,objs with
 | [.agg [.one [.i .u64 x0,.i .u64 x1]],.agg [.one [.i .u64 x2,.i .u64 x3]]],[]=>ob (qDE x0 x1 x2 x3) fun z=>K false (.agg [.one [.i .u64 (z.1),.i .u64 (z.2)]]) ([])
 | _,_=>o 70 vs objs K
def qGW (o:Orc):Orc:=qP 70 (qbA o) o
theorem qIE:OQ Tryz.prog qGW:=fun _ ho=>qQ ho fun vs objs K r h=>by
 unfold qbA at h
 split at h
 ·skip
  obtain⟨t,h1,h2⟩:=qF h
  refine qa mixed qoz ((qoy _ _ _ _).trans h1) (by kernel_rfl) fun v objs' hd=>?_
  unfold qbC at hd;split at hd;(cases hd;exact h2);cases hd
 ·exact ho _ _ _ _ _ h
def qbI:Ctx:=mkC 6 (qM) [] qW
theorem qo3:CtxOK Tryz.prog qbI:=mkC_ok (qO)
def qbJ:V->List Obj->Option (Bool):=fun v objs=>match v,objs with
 | .s (.b y0),[]=>some (y0)
 | _,_=>none
theorem qo2 (x0 x1:Int):fnE qbI Tryz.f74 ([.agg [.one [.i .u64 x0,.i .u64 x1]]]) ([]) qbJ=qFc x0 x1:=by kernel_rfl
def qbH:HA:=fun o vs objs K=>match vs,objs with
 | [.agg [.one [.i .u64 x0,.i .u64 x1]]],[]=>ob (qFc x0 x1) fun y0=>K false (.s (.b y0)) ([])
 | _,_=>o 74 vs objs K
def qJr (o:Orc):Orc:=qP 74 (qbH o) o
theorem qMB:OQ Tryz.prog qJr:=fun _ ho=>qQ ho fun vs objs K r h=>by
 unfold qbH at h
 split at h
 ·skip
  obtain⟨t,h1,h2⟩:=qF h
  refine qa mixed qo3 ((qo2 _ _).trans h1) (by kernel_rfl) fun v objs' hd=>?_
  unfold qbJ at hd;split at hd;(cases hd;exact h2);cases hd
 ·exact ho _ _ _ _ _ h
def qbR:Ctx:=mkC 11 ((qJr (qGW (qMN qM)))) [] qW
theorem qo9:CtxOK Tryz.prog qbR:=mkC_ok ((qMB _ (qIE _ (qRn _ qO))))
def qbS:V->List Obj->Option (Bool):=fun v objs=>match v,objs with
 | .s (.b y0),[]=>some (y0)
 | _,_=>none
theorem qo8 (x0 x1 x2:Int):fnE qbR Tryz.f75 ([.agg [.one [.i .u64 x0,.i .u64 x1]],.s (.i .i64 x2)]) ([]) qbS=qCI x0 x1 x2:=by kernel_rfl
def qbQ:HA:=fun o vs objs K=>match vs,objs with
 | [.agg [.one [.i .u64 x0,.i .u64 x1]],.s (.i .i64 x2)],[]=>ob (qCI x0 x1 x2) fun y0=>K false (.s (.b y0)) ([])
 | _,_=>o 75 vs objs K
def qGY (o:Orc):Orc:=qP 75 (qbQ o) o
theorem qIG:OQ Tryz.prog qGY:=fun _ ho=>qQ ho fun vs objs K r h=>by
 unfold qbQ at h
 split at h
 ·skip
  obtain⟨t,h1,h2⟩:=qF h
  refine qa mixed qo9 ((qo8 _ _ _).trans h1) (by kernel_rfl) fun v objs' hd=>?_
  unfold qbS at hd;split at hd;(cases hd;exact h2);cases hd
 ·exact ho _ _ _ _ _ h
def qPo:Ex->List V->List Obj->Option (Int×Int×Int×Int):=fun e vs objs=>match e,vs,objs with
 | .exit 0,[.s (.ptr 0 0 none 0),.s (.ptr 1 0 none 0)],[.cells 72 [.one [.i .u64 y0,.i .u64 y1]],.cells 72 [.one [.i .u64 y2,.i .u64 y3]]]=>some (y0,y1,y2,y3)
 | _,_,_=>none
def qPr:HL:=fun vs objs K=>match vs,objs with
 | [.s (.i .i64 x0),.s (.ptr 0 0 none 0),.s (.ptr 1 0 none 0),.s (.ptr 2 0 none 0),.s (.ptr 3 0 none 0)],[.cells 141 [.one [.i .i64 x1,.i .i64 x2]],.cells 72 [.one [.i .u64 x3,.i .u64 x4]],.cells 72 [.one [.i .u64 x5,.i .u64 x6]],.cells 72 [.one [.i .u64 x7,.i .u64 x8]]]=>ob (qGK qC x0 x1 x2 x3 x4 x5 x6 x7 x8) fun z=>K (.exit 0) ([.s (.ptr 0 0 none 0),.s (.ptr 1 0 none 0)]) ([.cells 72 [.one [.i .u64 (z.1),.i .u64 (z.2.1)]],.cells 72 [.one [.i .u64 (z.2.2.1),.i .u64 (z.2.2.2)]]])
 | _,_=>none
def qlr:{R:Type}->Nat->List V->List Obj->(Ex->List V->List Obj->Option R)->Option R:=fun q vs objs K=>bif Nat.beq q 5 then qPr vs objs K else none
def qLh:Ctx:=mkC 27 ((qGY (qEa (qRz qM)))) [(5,[0,4,5,6,7],[6,7])] qlr
theorem qYB:CtxOK Tryz.prog qLh:=mkC_ok ((qIG _ (qFg _ (qcY _ qO))))
def qPp (f:Nat) (x0 x1:Int) (x2 x3:Int) (x4 x5:Int) (x6 x7 x8:Int):Option (Int×Int×Int×Int):=qh qLh 0 [0,4,5,6,7] [6,7] (qG Tryz.f104 5) f ([.s (.i .i64 x0),.s (.ptr 0 0 none 0),.s (.ptr 1 0 none 0),.s (.ptr 2 0 none 0),.s (.ptr 3 0 none 0)]) ([.cells 141 [.one [.i .i64 x1,.i .i64 x2]],.cells 72 [.one [.i .u64 x3,.i .u64 x4]],.cells 72 [.one [.i .u64 x5,.i .u64 x6]],.cells 72 [.one [.i .u64 x7,.i .u64 x8]]]) qPo
theorem qlq (f:Nat) (x0 x1:Int) (x2 x3:Int) (x4 x5:Int) (x6 x7 x8:Int):qPp (f+1) x0 x1 x2 x3 x4 x5 x6 x7 x8=qHq (qPp f) x0 x1 x2 x3 x4 x5 x6 x7 x8:=by kernel_rfl
theorem qYD:∀ f,qPp f=qGK f
 | 0=>rfl
 | f+1=>by funext x0 x1 x2 x3 x4 x5 x6 x7 x8;rw[qlq,qYD f];rfl
theorem qls:qe Tryz.prog qLh 0 (qG Tryz.f104 5):=
 qj mixed qYB (qT.of (l':=[]) (by kernel_rfl) trivial) (q:=5) (kin:=[0,4,5,6,7]) (kout:=[6,7]) (by kernel_rfl) (by kernel_rfl) fun vs objs K r h=>by
  replace h:qPr vs objs K=some r:=h
  unfold qPr at h
  split at h
  ·skip
   obtain⟨t,h1,h2⟩:=qF h
   rw[<- qYD] at h1
   refine⟨_,qPo,t,qC,h1,fun e vs' objs' hd=>?_⟩
   unfold qPo at hd;split at hd;(cases hd;exact h2);cases hd
  ·cases h
def qYC:V->List Obj->Option (Int×Int):=fun v objs=>match v,objs with
 | .agg [.one [.i .u64 y0,.i .u64 y1]],[]=>some (y0,y1)
 | _,_=>none
theorem qlp (x0 x1:Int) (x2 x3 x4:Int):fnE qLh Tryz.f104 ([.s (.i .i64 x0),.agg [.one [.i .i64 x1,.i .i64 x2]],.agg [.one [.i .u64 x3,.i .u64 x4]]]) ([]) qYC=qHp x0 x1 x2 x3 x4:=by kernel_rfl
def qYA:HA:=fun o vs objs K=>match vs,objs with
 | [.s (.i .i64 x0),.agg [.one [.i .i64 x1,.i .i64 x2]],.agg [.one [.i .u64 x3,.i .u64 x4]]],[]=>ob (qHp x0 x1 x2 x3 x4) fun z=>K false (.agg [.one [.i .u64 (z.1),.i .u64 (z.2)]]) ([])
 | _,_=>o 104 vs objs K
def qPq (o:Orc):Orc:=qP 104 (qYA o) o
theorem qYE:OQ Tryz.prog qPq:=fun _ ho=>qQ ho fun vs objs K r h=>by
 unfold qYA at h
 split at h
 ·skip
  obtain⟨t,h1,h2⟩:=qF h
  refine qAe mixed qYB (fn:=Tryz.f104) (b:=(Tryz.f104).body.getD .skip) (by kernel_rfl) (by kernel_rfl) (by kernel_rfl) ((qlp _ _ _ _ _).trans h1) (m:=0) rfl (qT.of (l':=[qG Tryz.f104 5]) (by kernel_rfl) ⟨qls,trivial⟩) fun v objs' hd=>?_
  unfold qYC at hd;split at hd;(cases hd;exact h2);cases hd
 ·exact ho _ _ _ _ _ h
def qPf:Ex->List V->List Obj->Option ((Int×Int)⊕(Int×Int)):=fun e vs objs=>match e,vs,objs with
 | .ret,[.s (.ptr 0 0 none 0)],[.cells 72 [.one [.i .u64 y0,.i .u64 y1]]]=>some (.inl (y0,y1))
 | .exit 0,[.s (.ptr 0 0 none 0)],[.cells 72 [.one [.i .u64 y0,.i .u64 y1]]]=>some (.inr (y0,y1))
 | _,_,_=>none
def qPi:HL:=fun vs objs K=>match vs,objs with
 | [.s (.i .i64 x0),.s (.i .i64 x1),.s (.ptr 0 0 none 0),.s (.sl 1 0 x2 true),.s (.i .i64 x3),.s (.i .i64 x4)],[.cells 72 [.one [.i .u64 x5,.i .u64 x6]],.sli 141 false (.rows [.i .i64,.i .i64] x7 x8)]=>ob (qFJ qC x0 x1 x2 x3 x4 x5 x6 x7 x8) fun t0=>sw t0 (fun z=>K (.ret) ([.s (.ptr 0 0 none 0)]) ([.cells 72 [.one [.i .u64 (z.1),.i .u64 (z.2)]]])) (fun z=>K (.exit 0) ([.s (.ptr 0 0 none 0)]) ([.cells 72 [.one [.i .u64 (z.1),.i .u64 (z.2)]]]))
 | _,_=>none
def qlh:{R:Type}->Nat->List V->List Obj->(Ex->List V->List Obj->Option R)->Option R:=fun q vs objs K=>bif Nat.beq q 2 then qPi vs objs K else none
def qLe:Ctx:=mkC 30 ((qJv (qGY (qPq (qbk (qPj qM)))))) [(2,[0,1,4,10,11,12],[4])] qlh
theorem qXy:CtxOK Tryz.prog qLe:=mkC_ok ((qMM _ (qIG _ (qYE _ (qpN _ (qX5 _ qO))))))
def qPg (f:Nat) (x0 x1:Int) (x2:Nat) (x3 x4:Int) (x5 x6:Int) (x7:Nat) (x8:LL):Option ((Int×Int)⊕(Int×Int)):=qh qLe 0 [0,1,4,10,11,12] [4] (qG Tryz.f60 2) f ([.s (.i .i64 x0),.s (.i .i64 x1),.s (.ptr 0 0 none 0),.s (.sl 1 0 x2 true),.s (.i .i64 x3),.s (.i .i64 x4)]) ([.cells 72 [.one [.i .u64 x5,.i .u64 x6]],.sli 141 false (.rows [.i .i64,.i .i64] x7 x8)]) qPf
theorem qlg (f:Nat) (x0 x1:Int) (x2:Nat) (x3 x4:Int) (x5 x6:Int) (x7:Nat) (x8:LL):qPg (f+1) x0 x1 x2 x3 x4 x5 x6 x7 x8=qHn (qPg f) x0 x1 x2 x3 x4 x5 x6 x7 x8:=by kernel_rfl
theorem qX0:∀ f,qPg f=qFJ f
 | 0=>rfl
 | f+1=>by funext x0 x1 x2 x3 x4 x5 x6 x7 x8;rw[qlg,qX0 f];rfl
theorem qli:qe Tryz.prog qLe 0 (qG Tryz.f60 2):=
 qj mixed qXy (qT.of (l':=[]) (by kernel_rfl) trivial) (q:=2) (kin:=[0,1,4,10,11,12]) (kout:=[4]) (by kernel_rfl) (by kernel_rfl) fun vs objs K r h=>by
  replace h:qPi vs objs K=some r:=h
  unfold qPi at h
  split at h
  ·skip
   obtain⟨t,h1,h2⟩:=qF h
   rw[<- qX0] at h1
   refine⟨_,qPf,t,qC,h1,fun e vs' objs' hd=>?_⟩
   unfold qPf at hd
   split at hd
   ·skip
    cases hd
    exact h2
   ·skip
    cases hd
    exact h2
   ·cases hd
  ·cases h
def qXz:V->List Obj->Option (Int×Int):=fun v objs=>match v,objs with
 | .agg [.one [.i .u64 y0,.i .u64 y1]],[]=>some (y0,y1)
 | _,_=>none
theorem qlf (x0 x1:Int):fnE qLe Tryz.f60 ([.s (.i .i64 x0),.s (.i .i64 x1)]) ([]) qXz=qHm x0 x1:=by kernel_rfl
def qXx:HA:=fun o vs objs K=>match vs,objs with
 | [.s (.i .i64 x0),.s (.i .i64 x1)],[]=>ob (qHm x0 x1) fun z=>K false (.agg [.one [.i .u64 (z.1),.i .u64 (z.2)]]) ([])
 | _,_=>o 60 vs objs K
def qPh (o:Orc):Orc:=qP 60 (qXx o) o
theorem qX1:OQ Tryz.prog qPh:=fun _ ho=>qQ ho fun vs objs K r h=>by
 unfold qXx at h
 split at h
 ·skip
  obtain⟨t,h1,h2⟩:=qF h
  refine qAe mixed qXy (fn:=Tryz.f60) (b:=(Tryz.f60).body.getD .skip) (by kernel_rfl) (by kernel_rfl) (by kernel_rfl) ((qlf _ _).trans h1) (m:=0) rfl (qT.of (l':=[qG Tryz.f60 2]) (by kernel_rfl) ⟨qli,trivial⟩) fun v objs' hd=>?_
  unfold qXz at hd;split at hd;(cases hd;exact h2);cases hd
 ·exact ho _ _ _ _ _ h
def qTj:Ctx:=mkC 14 ((qGZ qM)) [] qW
theorem qfR:CtxOK Tryz.prog qTj:=mkC_ok ((qIJ _ qO))
def qTk:V->List Obj->Option (Int×Int):=fun v objs=>match v,objs with
 | .agg [.one [.i .u64 y0,.i .u64 y1]],[]=>some (y0,y1)
 | _,_=>none
theorem qfQ (x0 x1:LI) (x2:Int) (x3 x4:LL):fnE qTj Tryz.f68 ([.s (.ptr 0 0 none 0)]) ([.rcells 84 [.arr .i8 81 x0,.arr .i8 16 x1,.one [.i .i8 x2],.rows [.i .u64,.i .u64] 32 x3,.rows [.i .u64,.i .u64] 2 x4]]) (qAc 1 qTk)=qC3 x0 x1 x2 x3 x4:=by kernel_rfl
def qTi:HA:=fun o vs objs K=>match vs,List.map Obj.toRO objs with
 | [.s (.ptr 0 0 none 0)],[.rcells 84 [.arr .i8 81 x0,.arr .i8 16 x1,.one [.i .i8 x2],.rows [.i .u64,.i .u64] 32 x3,.rows [.i .u64,.i .u64] 2 x4]]=>ob (qC3 x0 x1 x2 x3 x4) fun z=>K true (.agg [.one [.i .u64 (z.1),.i .u64 (z.2)]]) ([])
 | _,_=>o 68 vs objs K
def qG0 (o:Orc):Orc:=qP 68 (qTi o) o
theorem qIn:OQ Tryz.prog qG0:=fun _ ho=>qQ ho fun vs objs K r h=>by
 unfold qTi at h
 split at h
 ·skip
  have hq:List.map Obj.toRO objs=_:=(by rename_i hq;first | exact hq | assumption)
  obtain⟨t,h1,h2⟩:=qF h
  refine qAi mixed qfR (m:=1) (fn:=Tryz.f68) (b:=(Tryz.f68).body.getD .skip) (by kernel_rfl) (by kernel_rfl) (by kernel_rfl) hq (by kernel_rfl) (by kernel_rfl) (qT.of (l':=[]) (by kernel_rfl) trivial) ((qfQ _ _ _ _ _).trans h1) fun v objs' hd=>?_
  unfold qTk at hd;split at hd;(cases hd;exact h2);cases hd
 ·exact ho _ _ _ _ _ h
def qTB:Ctx:=mkC 35 (qM) [] qW
theorem qez:CtxOK Tryz.prog qTB:=mkC_ok (qO)
def qTC:V->List Obj->Option (Int):=fun v objs=>match v,objs with
 | .s (.i .i64 y0),[]=>some (y0)
 | _,_=>none
theorem qey (x0:Int):fnE qTB Tryz.f102 ([.s (.i .u64 x0)]) ([]) qTC=qFw x0:=by kernel_rfl
def qTA:HA:=fun o vs objs K=>match vs,objs with
 | [.s (.i .u64 x0)],[]=>ob (qFw x0) fun y0=>K false (.s (.i .i64 y0)) ([])
 | _,_=>o 102 vs objs K
def qTD (o:Orc):Orc:=qP 102 (qTA o) o
theorem qe0:OQ Tryz.prog qTD:=fun _ ho=>qQ ho fun vs objs K r h=>by
 unfold qTA at h
 split at h
 ·skip
  obtain⟨t,h1,h2⟩:=qF h
  refine qa mixed qez ((qey _).trans h1) (by kernel_rfl) fun v objs' hd=>?_
  unfold qTC at hd;split at hd;(cases hd;exact h2);cases hd
 ·exact ho _ _ _ _ _ h
def qbE:Ctx:=mkC 10 ((qTD qM)) [] qW
theorem qo1:CtxOK Tryz.prog qbE:=mkC_ok ((qe0 _ qO))
def qbF:V->List Obj->Option (Int):=fun v objs=>match v,objs with
 | .s (.i .i64 y0),[]=>some (y0)
 | _,_=>none
theorem qo0 (x0 x1:Int):fnE qbE Tryz.f59 ([.agg [.one [.i .u64 x0,.i .u64 x1]]]) ([]) qbF=qIF x0 x1:=by kernel_rfl
def qbD:HA:=fun o vs objs K=>match vs,objs with
 | [.agg [.one [.i .u64 x0,.i .u64 x1]]],[]=>ob (qIF x0 x1) fun y0=>K false (.s (.i .i64 y0)) ([])
 | _,_=>o 59 vs objs K
def qRU (o:Orc):Orc:=qP 59 (qbD o) o
theorem qbG:OQ Tryz.prog qRU:=fun _ ho=>qQ ho fun vs objs K r h=>by
 unfold qbD at h
 split at h
 ·skip
  obtain⟨t,h1,h2⟩:=qF h
  refine qa mixed qo1 ((qo0 _ _).trans h1) (by kernel_rfl) fun v objs' hd=>?_
  unfold qbF at hd;split at hd;(cases hd;exact h2);cases hd
 ·exact ho _ _ _ _ _ h
def qTc:Ctx:=mkC 18 (qM) [] qW
theorem qfN:CtxOK Tryz.prog qTc:=mkC_ok (qO)
def qTd:V->List Obj->Option (Int×Int):=fun v objs=>match v,objs with
 | .agg [.one [.i .u64 y0,.i .u64 y1]],[]=>some (y0,y1)
 | _,_=>none
theorem qfM (x0:Int) (x1 x2:LI) (x3:Int) (x4 x5:LL):fnE qTc Tryz.f64 ([.s (.ptr 0 0 none 0),.s (.i .i64 x0)]) ([.rcells 84 [.arr .i8 81 x1,.arr .i8 16 x2,.one [.i .i8 x3],.rows [.i .u64,.i .u64] 32 x4,.rows [.i .u64,.i .u64] 2 x5]]) (qAc 1 qTd)=qFz x0 x1 x2 x3 x4 x5:=by kernel_rfl
def qTb:HA:=fun o vs objs K=>match vs,List.map Obj.toRO objs with
 | [.s (.ptr 0 0 none 0),.s (.i .i64 x0)],[.rcells 84 [.arr .i8 81 x1,.arr .i8 16 x2,.one [.i .i8 x3],.rows [.i .u64,.i .u64] 32 x4,.rows [.i .u64,.i .u64] 2 x5]]=>ob (qFz x0 x1 x2 x3 x4 x5) fun z=>K true (.agg [.one [.i .u64 (z.1),.i .u64 (z.2)]]) ([])
 | _,_=>o 64 vs objs K
def qNK (o:Orc):Orc:=qP 64 (qTb o) o
theorem qTe:OQ Tryz.prog qNK:=fun _ ho=>qQ ho fun vs objs K r h=>by
 unfold qTb at h
 split at h
 ·skip
  have hq:List.map Obj.toRO objs=_:=(by rename_i hq;first | exact hq | assumption)
  obtain⟨t,h1,h2⟩:=qF h
  refine qAi mixed qfN (m:=1) (fn:=Tryz.f64) (b:=(Tryz.f64).body.getD .skip) (by kernel_rfl) (by kernel_rfl) (by kernel_rfl) hq (by kernel_rfl) (by kernel_rfl) (qT.of (l':=[]) (by kernel_rfl) trivial) ((qfM _ _ _ _ _ _).trans h1) fun v objs' hd=>?_
  unfold qTd at hd;split at hd;(cases hd;exact h2);cases hd
 ·exact ho _ _ _ _ _ h
def qTH:Ctx:=mkC 18 (qM) [] qW
theorem qe7:CtxOK Tryz.prog qTH:=mkC_ok (qO)
def qTI:V->List Obj->Option (Int):=fun v objs=>match v,objs with
 | .s (.i .i8 y0),[]=>some (y0)
 | _,_=>none
theorem qe6 (x0:Int) (x1 x2:LI) (x3:Int) (x4 x5:LL):fnE qTH Tryz.f66 ([.s (.ptr 0 0 none 0),.s (.i .i64 x0)]) ([.rcells 84 [.arr .i8 81 x1,.arr .i8 16 x2,.one [.i .i8 x3],.rows [.i .u64,.i .u64] 32 x4,.rows [.i .u64,.i .u64] 2 x5]]) (qAc 1 qTI)=qAf x0 x1 x2 x3 x4 x5:=by kernel_rfl
def qTG:HA:=fun o vs objs K=>match vs,List.map Obj.toRO objs with
 | [.s (.ptr 0 0 none 0),.s (.i .i64 x0)],[.rcells 84 [.arr .i8 81 x1,.arr .i8 16 x2,.one [.i .i8 x3],.rows [.i .u64,.i .u64] 32 x4,.rows [.i .u64,.i .u64] 2 x5]]=>ob (qAf x0 x1 x2 x3 x4 x5) fun y0=>K true (.s (.i .i8 y0)) ([])
 | _,_=>o 66 vs objs K
def qFx (o:Orc):Orc:=qP 66 (qTG o) o
theorem qGx:OQ Tryz.prog qFx:=fun _ ho=>qQ ho fun vs objs K r h=>by
 unfold qTG at h
 split at h
 ·skip
  have hq:List.map Obj.toRO objs=_:=(by rename_i hq;first | exact hq | assumption)
  obtain⟨t,h1,h2⟩:=qF h
  refine qAi mixed qe7 (m:=1) (fn:=Tryz.f66) (b:=(Tryz.f66).body.getD .skip) (by kernel_rfl) (by kernel_rfl) (by kernel_rfl) hq (by kernel_rfl) (by kernel_rfl) (qT.of (l':=[]) (by kernel_rfl) trivial) ((qe6 _ _ _ _ _ _).trans h1) fun v objs' hd=>?_
  unfold qTI at hd;split at hd;(cases hd;exact h2);cases hd
 ·exact ho _ _ _ _ _ h
def qGg (n:Nat) {R:Type} (o:Orc) (vs:List V) (objs:List Obj) (K:Bool->V->List Obj->Option R):Option R:=match vs,objs with
 | [.s (.i .i64 x0)],[]=>ob (qGf n x0) fun z=>K false (.s (.sl 0 0 (z.1) true)) ([.sli 141 false (.rows [.i .i64,.i .i64] (z.2.1) (z.2.2))])
 | _,_=>o 122 vs objs K
def qR1 (n:Nat) (o:Orc):Orc:=fun f vs objs K=>bif Nat.beq f 122 then qGg n o vs objs K else o f vs objs K
def qqQ (n:Nat):Orc:=qR1 n qM
def qcd (n:Nat):Ctx:=mkC 57 (qqQ n) [] qW
def qce:V->List Obj->Option (Nat×Nat×LL):=fun v objs=>match v,objs with
 | .s (.sl 0 0 y0 true),[.sli 141 false (.rows [.i .i64,.i .i64] y1 y2)]=>some (y0,y1,y2)
 | _,_=>none
theorem qqN (n:Nat) (x0:Int):fnE (qcd n) Tryz.f122 ([.s (.i .i64 x0)]) ([]) qce=qGf (n+1) x0:=by kernel_rfl
theorem qqO (n:Nat) (hc:CtxOK Tryz.prog (qcd n)) {vs:List V} {objs:List Obj} (x0:Int) {R:Type} {K:Bool->V->List Obj->Option R} {r:R} (hv:vs=[.s (.i .i64 x0)]) (ho:objs=[]) (h:ob (qGf (n+1) x0) (fun z=>K false (.s (.sl 0 0 (z.1) true)) ([.sli 141 false (.rows [.i .i64,.i .i64] (z.2.1) (z.2.2))]))=some r):
  ∃ p v objs',K p v objs'=some r /\ qD5 Tryz.prog 122 vs objs p v objs':=by
 subst hv
 subst ho
 obtain⟨t,h1,h2⟩:=qF h
 refine qKI mixed hc (objs:=[]) (fn:=Tryz.f122) (b:=(Tryz.f122).body.getD .skip) (by kernel_rfl) (by kernel_rfl) (by kernel_rfl) (qT.of (l':=[]) (by kernel_rfl) trivial) ((qqN n x0).trans h1) fun v objs' hd=>?_
 unfold qce at hd;split at hd;(cases hd;exact h2);cases hd
theorem qqP:∀ (n:Nat) (o:Orc) (_:qCM Tryz.prog o),qCM Tryz.prog (qR1 n o):=by
 intro n
 induction n with
 | zero=>
   intro o ho R f vs objs K r h
   replace h:(bif Nat.beq f 122 then qGg 0 o vs objs K else o f vs objs K)=some r:=h
   cases hf:Nat.beq f 122 with
   | false=>rw[hf] at h;exact ho f vs objs K r h
   | true=>
     rw[hf] at h
     have e:=Nat.eq_of_beq_eq_true hf
     subst e
     replace h:qGg 0 o vs objs K=some r:=h
     unfold qGg at h
     split at h
     ·skip
      cases h
     ·exact ho _ _ _ _ _ h
 | succ n ih=>
   intro o ho R f vs objs K r h
   replace h:(bif Nat.beq f 122 then qGg (n+1) o vs objs K else o f vs objs K)=some r:=h
   cases hf:Nat.beq f 122 with
   | false=>rw[hf] at h;exact ho f vs objs K r h
   | true=>
     rw[hf] at h
     have e:=Nat.eq_of_beq_eq_true hf
     subst e
     replace h:qGg (n+1) o vs objs K=some r:=h
     unfold qGg at h
     split at h
     ·skip
      exact qqO n ⟨tab_ok,ih _ qO,eqs_ok,bytes_ok,fun _ _ _=>rfl,exts_ok⟩ _ rfl rfl h
     ·exact ho _ _ _ _ _ h
def qca:Ctx:=mkC 15 (qM) [] qW
theorem qqM:CtxOK Tryz.prog qca:=mkC_ok (qO)
def qcb:V->List Obj->Option (Int×Int):=fun v objs=>match v,objs with
 | .agg [.one [.i .i64 y0,.i .i64 y1]],[]=>some (y0,y1)
 | _,_=>none
theorem qqL (x0 x1 x2:Int):fnE qca Tryz.f108 ([.agg [.one [.i .i64 x0,.i .i64 x1]],.s (.i .i64 x2)]) ([]) qcb=qFi x0 x1 x2:=by kernel_rfl
def qcZ:HA:=fun o vs objs K=>match vs,objs with
 | [.agg [.one [.i .i64 x0,.i .i64 x1]],.s (.i .i64 x2)],[]=>ob (qFi x0 x1 x2) fun z=>K false (.agg [.one [.i .i64 (z.1),.i .i64 (z.2)]]) ([])
 | _,_=>o 108 vs objs K
def qR0 (o:Orc):Orc:=qP 108 (qcZ o) o
theorem qcc:OQ Tryz.prog qR0:=fun _ ho=>qQ ho fun vs objs K r h=>by
 unfold qcZ at h
 split at h
 ·skip
  obtain⟨t,h1,h2⟩:=qF h
  refine qa mixed qqM ((qqL _ _ _).trans h1) (by kernel_rfl) fun v objs' hd=>?_
  unfold qcb at hd;split at hd;(cases hd;exact h2);cases hd
 ·exact ho _ _ _ _ _ h
end
end Go.Kk.KkSL
