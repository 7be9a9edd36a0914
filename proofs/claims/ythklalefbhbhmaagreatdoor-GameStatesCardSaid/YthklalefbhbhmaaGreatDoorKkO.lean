/-
 Each operation that the pure interpreter takes is the machine's.
-/
import Derived.Test.YthklalefbhbhmaaGreatDoorKkS
import Derived.DeepKeys
import Derived.Laws.Strings
namespace Go.Kk
def qJ0:Kd->Value
 | .i k=>.int k 0
 | .b=>.bool false
 | .str=>.string ByteArray.empty
 | .p=>.pointer none
 | .sl _=>.slice none 0 0
 | .m _ _=>.map none
 | .f=>.nilFunc
def SegT.zeros:SegT->List Value
 | .one ks=>ks.map qJ0
 | .arr k n=>List.replicate n (.int k 0)
 | .barr n=>List.replicate n (.bool false)
 | .rows ks n=>(List.replicate n (ks.map fun c=>match c with
   | .i k=>Value.int k 0
   | .b=>.bool false
   | .s=>.string ByteArray.empty)).flatten
structure LayOK (P:Program) (tab:Tab) (t:TypeId) (L:Lay):Prop where
 info:∃ i z,P.info? t=some i /\ i.size=L.size /\ i.zero=some z /\ z.cells.toList=L.segTs.flatMap SegT.zeros
 desc:match L with
  | .sc kd=>∃ d,P.underlying t=some d /\ (match kd with
    | .i k=>d=.int k
    | .b=>d=.bool
    | .str=>d=.string
    | .p=>∃ e,d=.pointer e
    | .sl e=>d=.slice e
    | .m k e=>d=.map k e
    | .f=>∃ x y z,d=.func x y z)
  | .st ts fl=>∃ fs:Array Field,P.underlying t=some (.struct fs) /\ fs.size=fl.length /\ ∀ (j:Nat) (f:Field),fs[j]? = some f->∃ a b Lf,fl[j]? = some (a,b,f.type) /\ tab.get f.type=some Lf /\
    f.offset = qp ((ts.map SegT.shp).take a) + b /\ f.name ≠ "_" /\ 0 < Lf.size /\ (∃ i, P.info? f.type = some i /\ i.size = Lf.size)
  | .ar n m e sg=>P.underlying t=some (.array n e) /\ 0<m /\ 0<sg.shp.width /\ sg.shp=.tbl sg.shp.width (n*m) /\ ∃ Le i,tab.get e=some Le /\ P.info? e=some i /\ i.size=m*sg.shp.width /\ Le.size=m*sg.shp.width
 zag:∀ i z,P.info? t=some i->i.zero=some z->match L with
  | .sc _=>z.cells = #[z]
  | _=>∃ c,z=.agg c
def qQ (P:Program) (o:Oper) (ρ:Rg) (h:Hp) (nx:Nat) (v:V) (up:Hp) (nx':Nat):Prop:=
 ∀ (nm:Nm) (w:World) (a:Act),(∀ x∈o.op.operands,qS ⟨nm,h,nx⟩ (ev ρ x) (a.eval x))->RelH ⟨nm,h,nx⟩ w->
   ∀ (N:Act->World->Prop) (Q:Exit->Act->World->Prop),(∀ vr nm' w',qS ⟨nm',up++h,nx'⟩ v vr->RelH ⟨nm',up++h,nx'⟩ w'->Frame' ⟨nm,h,nx⟩ w w'->
     Ext ⟨nm,h,nx⟩ ⟨nm',up++h,nx'⟩ w->N (a.put o.dst vr) w')->o.wp P a w N Q
theorem qQ.pure {P:Program} {o:Oper} {ρ:Rg} {h:Hp} {nx:Nat} {v:V}
  (hp:∀ (nm:Nm) (w:World) (a:Act),(∀ x∈o.op.operands,qS ⟨nm,h,nx⟩ (ev ρ x) (a.eval x))->RelH ⟨nm,h,nx⟩ w->
   ∃ vr,(execOp a.eval o).run P w=.ok (.value vr) w /\ qS ⟨nm,h,nx⟩ v vr):qQ P o ρ h nx v [] nx:=by
 intro nm w a hx hh N Q hN
 obtain⟨vr,h1,h2⟩:=hp nm w a hx hh
 unfold Oper.wp
 rw[h1]
 exact hN vr nm w h2 hh (Frame'.refl _ _) (Ext.refl hh)
theorem qgS (e:Env) (v:Value):qS e (qNr v) v:=by
 cases v<;>simp only[qNr]
 case int k n=>
  cases hd:decide (k.wrap n=n) with
  | true=>exact⟨rfl,by simpa using hd⟩
  | false=>trivial
 case bool=>rfl
 case string=>rfl
 case pointer a=>cases a<;>trivial
 case map a=>cases a<;>trivial
 case slice a l c=>
  split
  ·rename_i hq;cases hq
  ·rename_i hq;cases hq
  ·rename_i hq;cases hq
  ·rename_i hq;cases hq
  ·rename_i hq;cases hq
  ·rename_i hq;rw[hq];rfl
  ·trivial
 all_goals trivial
theorem qL5 (L:Lay):L.size=qBm L.segTs:=rfl
theorem qR3 (ts:List SegT):qFb ts=qBm ts:=by
 induction ts with
 | nil=>rfl
 | cons t ts ih=>simp[qFb,qBm,qp] at ih ⊢;exact ih
theorem qbr {P:Program} {tab:Tab} {t:TypeId} {L:Lay} (hL:LayOK P tab t L) (w:World):(isAgg t).run P w=.ok L.agg w:=by
 have h:=hL.desc
 unfold isAgg
 cases L with
 | sc kd=>
   obtain⟨d,hd,hk⟩:=h
   rw[Sem.run_bind,run_underlying hd]
   cases kd<;>simp only at hk
   ·subst hk;rfl
   ·subst hk;rfl
   ·subst hk;rfl
   ·obtain⟨e,rfl⟩:=hk;rfl
   ·subst hk;rfl
   ·subst hk;rfl
   ·obtain⟨x,y,z,rfl⟩:=hk;rfl
 | st ts fl=>
   obtain⟨fs,hd,_⟩:=h
   rw[Sem.run_bind,run_underlying hd];rfl
 | ar n m e sg=>
   obtain⟨hd,_⟩:=h
   rw[Sem.run_bind,run_underlying hd];rfl
theorem qRz {P:Program} {tab:Tab} {t:TypeId} {L:Lay} (hL:LayOK P tab t L) (w:World):(sizeOf t).run P w=.ok L.size w:=by
 obtain⟨i,z,h1,h2,_⟩:=hL.info
 simp[sizeOf,typeInfo,h1,h2]
theorem qJN {P:Program} {tab:Tab} {t:TypeId} {L:Lay} (hL:LayOK P tab t L) {w:World} {b off:Nat} {vs:List Value} (hlen:vs.length=L.size)
  (hc:∀ j u,vs[j]? = some u->w.cell? ⟨b,off+j,none⟩=some u):
  (loadVar t ⟨b,off,none⟩).run P w=.ok (match L.agg with
   | true=>.agg vs.toArray
   | false=>vs.headD undef) w:=by
 unfold loadVar
 rw[Sem.run_bind,qbr hL,Result.andThen_ok]
 cases ha:L.agg with
 | true=>
   simp only[if_true,Sem.run_bind,qRz hL,Result.andThen_ok,<- hlen]
   rw[run_loadCells_list (P:=P) w ⟨b,off,none⟩ vs (fun j v hv=>by rw[Addr.add_lit];exact hc j v hv)]
   rfl
 | false=>
   cases L with
   | sc kd=>
     have h1:vs.length=1:=hlen
     match vs,h1 with
     | [v],_=>
       have:=hc 0 v (by simp)
       simp only[Nat.add_zero] at this
       simp[this]
   | st ts fl=>simp[Lay.agg] at ha
   | ar n m e sg=>simp[Lay.agg] at ha
theorem qZb {P:Program} {tab:Tab} {t:TypeId} {L:Lay} (hL:LayOK P tab t L) {w:World} {b off:Nat} {arr:Array Value} {T:TypeId} {v:Value}
  (hb:w.heap[b]? = some (.cells arr T (0,0))) (hlen:v.cells.toList.length=L.size) (hoff:off+v.cells.toList.length<=arr.size) (h1:∀ u∈v.cells.toList,u.oneCell'=true):
  (storeVar t ⟨b,off,none⟩ v).run P w=.ok () (w.setRow b (over arr.toList off v.cells.toList).toArray):=by
 have hst:=run_storeCells_at P b off T v.cells.toList 0 arr w hb (by simpa using hoff) h1
 simp only[Nat.add_zero] at hst
 unfold storeVar
 have hsz:v.cells.size=L.size:=by simpa using hlen
 simp only[Sem.run_bind,qRz hL,Result.andThen_ok,hsz,ne_eq,not_true_eq_false,if_false]
 rw[hst]
 simp[over]
theorem qSx {e:Env} {w w':World} {o b:Nat} {x':Obj} (h:RelH e w) (ho:o<e.nx) (hown:(e.h.get o).owned=true) (hsh:x'.shape=(e.h.get o).shape)
  (_hown':x'.owned=true) (hb:Has e.nm o b) (hobj:qG ⟨e.nm,(o,x') :: e.h,e.nx⟩ w' o) (hother:∀ k,k≠b->w'.heap[k]? = w.heap[k]?)
  (hos:w'.os=w.os) (htape:w'.tape=w.tape) (hout:w'.output=w.output) (hsize:w.heap.size<=w'.heap.size):
  RelH ⟨e.nm,(o,x') :: e.h,e.nx⟩ w' /\ Frame' e w w' /\ Ext e ⟨e.nm,(o,x') :: e.h,e.nx⟩ w:=by
 have hget:∀ q,q≠o->Hp.get ((o,x') :: e.h) q=e.h.get q:=by
  intro q hq
  simp only[Hp.get]
  have:Nat.beq o q=false:=by
   cases hbq:Nat.beq o q with
   | false=>rfl
   | true=>exact absurd (Nat.eq_of_beq_eq_true hbq) (Ne.symm hq)
  rw[this];rfl
 have hself:Hp.get ((o,x') :: e.h) o=x':=by simp[Hp.get]
 have hshape:∀ q,(Hp.get ((o,x') :: e.h) q).shape=(e.h.get q).shape:=by
  intro q
  by_cases hq:q=o
  ·subst hq;rw[hself,hsh]
  ·rw[hget q hq]
 have howned:∀ q,(Hp.get ((o,x') :: e.h) q).owned=true->(e.h.get q).owned=true:=by
  intro q hq'
  by_cases hq:q=o
  ·subst hq;exact hown
  ·rw[hget q hq] at hq';exact hq'
 have hext:Ext e ⟨e.nm,(o,x') :: e.h,e.nx⟩ w:=by
  refine⟨Nat.le_refl _,fun q _=>⟨rfl,.inl (hshape q),howned q⟩,fun q bq hq hd _=>?_⟩
  rw[hshape q,h.new q hq] at hd
  exact absurd rfl hd
 have hframe:Frame' e w w':=⟨hos,htape,hout,hsize,fun k _ hno=>hother k fun hkb=>hno o hown (hkb ▸ hb)⟩
 refine⟨⟨fun q=>?_,fun q hq=>?_,fun q q' y hne hq hq' hy=>?_,h.fix.go hframe hext.toM⟩,hframe,hext⟩
 ·by_cases hq:q=o
  ·subst hq;exact hobj
  ·by_cases hd:(e.h.get q).shape=.dead
   ·have:e.h.get q=.dead:=by cases hz:e.h.get q<;>rw[hz] at hd<;>simp[Obj.shape] at hd
    unfold qG;show match Hp.get ((o,x') :: e.h) q with | _=>_
    rw[hget q hq,this];trivial
   ·have h2:qG e w' q:=qG.frame (h.obj q) hsize fun bq hbq=>hother bq fun hbb=>by
     subst hbb
     exact h.apart o q bq (Ne.symm hq) hown hd hb hbq
    refine qG.ren (g:=id) h2 ?_ rfl fun r _ hr=>hext.same hr
    show Hp.get ((o,x') :: e.h) q=_
    rw[hget q hq]
    cases e.h.get q<;>simp[Obj.ren,qC2]
 ·have hne:q≠o:=by
   have:e.nx<=q:=hq
   omega
  show Hp.get ((o,x') :: e.h) q=.dead
  rw[hget q hne];exact h.new q hq
 ·have hq1:=howned q hq
  have hq2:(e.h.get q').shape≠.dead:=by rw[<- hshape q'];exact hq'
  exact h.apart q q' y hne hq1 hq2 hy
theorem qJF {e:Env} {w w':World} {up:Hp} {nm':Nm} {nx':Nat} (h:RelH e w) (hnx:e.nx<=nx') (hold:∀ o,o<e.nx->up.lookup o=none /\ nm' o=e.nm o)
  (hend:∀ o,nx'<=o->up.lookup o=none) (hobj:∀ o,e.nx<=o->o<nx'->qG ⟨nm',up++e.h,nx'⟩ w' o)
  (hblk:∀ o x,e.nx<=o->Has nm' o x->o=e.nx /\ w.heap.size<=x)
  (hother:∀ k,k<w.heap.size->w'.heap[k]? = w.heap[k]?) (hos:w'.os=w.os) (htape:w'.tape=w.tape) (hout:w'.output=w.output) (hsize:w.heap.size<=w'.heap.size):
  RelH ⟨nm',up++e.h,nx'⟩ w' /\ Frame' e w w' /\ Ext e ⟨nm',up++e.h,nx'⟩ w:=by
 have hget:∀ q,q<e.nx->Hp.get (up++e.h) q=e.h.get q:=fun q hq=>by rw[qm,(hold q hq).1]
 have hext:Ext e ⟨nm',up++e.h,nx'⟩ w:=by
  refine⟨hnx,fun q hq=>⟨(hold q hq).2,?_⟩,fun q x hq _ hx=>.inl (hblk q x hq hx).2⟩
  show (_ \/ _) /\ _
  rw[hget q hq]
  exact⟨.inl rfl,id⟩
 have hlive:∀ q x,(e.h.get q).shape≠.dead->q<e.nx->Has e.nm q x->x<w.heap.size:=fun q x hd _ hx=>qG.lt (h.obj q) hd hx
 have hframe:Frame' e w w':=⟨hos,htape,hout,hsize,fun k hk _=>hother k hk⟩
 refine⟨⟨fun q=>?_,fun q hq=>?_,fun q q' y hne hq hq' hy hy'=>?_,h.fix.go hframe hext.toM⟩,hframe,hext⟩
 ·rcases Nat.lt_or_ge q e.nx with hq | hq
  ·by_cases hd:(e.h.get q).shape=.dead
   ·have:e.h.get q=.dead:=by cases hz:e.h.get q<;>rw[hz] at hd<;>simp[Obj.shape] at hd
    unfold qG;show match Hp.get (up++e.h) q with | _=>_
    rw[hget q hq,this];trivial
   ·have h2:qG e w' q:=qG.frame (h.obj q) hsize fun bq hbq=>hother bq (hlive q bq hd hq hbq)
    refine qG.ren (g:=id) h2 ?_ (hold q hq).2 fun r _ hr=>hext.same hr
    show Hp.get (up++e.h) q=_
    rw[hget q hq]
    cases e.h.get q<;>simp[Obj.ren,qC2]
  ·rcases Nat.lt_or_ge q nx' with hq' | hq'
   ·exact hobj q hq hq'
   ·unfold qG;show match Hp.get (up++e.h) q with | _=>_
    rw[qm,hend q hq',h.new q hq];trivial
 ·show Hp.get (up++e.h) q=.dead
  rw[qm,hend q hq]
  exact h.new q (Nat.le_trans hnx hq)
 ·rcases Nat.lt_or_ge q e.nx with a | a<;>rcases Nat.lt_or_ge q' e.nx with b | b
  ·have hq1:(Hp.get (up++e.h) q).owned=true:=hq
   have hq2:(Hp.get (up++e.h) q').shape≠.dead:=hq'
   rw[hget q a] at hq1
   rw[hget q' b] at hq2
   simp only[Has,(hold q a).2,(hold q' b).2] at hy hy'
   exact h.apart q q' y hne hq1 hq2 hy hy'
  ·have hq1:(Hp.get (up++e.h) q).owned=true:=hq
   rw[hget q a] at hq1
   have h1:=(hblk q' y b hy').2
   simp only[Has,(hold q a).2] at hy
   have h2:=hlive q y (by cases hz:e.h.get q<;>rw[hz] at hq1<;>simp[Obj.owned] at hq1<;>simp[Obj.shape]) a hy
   omega
  ·have hq2:(Hp.get (up++e.h) q').shape≠.dead:=hq'
   rw[hget q' b] at hq2
   have h1:=(hblk q y a hy).2
   simp only[Has,(hold q' b).2] at hy'
   have h2:=hlive q' y hq2 b hy'
   omega
  ·exact hne ((hblk q y a hy).1.trans (hblk q' y b hy').1.symm)
section
variable {P:Program} {o:Oper} {ρ:Rg} {h:Hp} {nx:Nat}
theorem qBl {e:Env} {k:IntKind} {n:Int} {v:Value} (h:qS e (.s (.i k n)) v):v=.int k n /\ k.wrap n=n:=h
theorem qEd (k:IntKind) (n:Int):k.wrap (k.wrap n)=k.wrap n:=by
 have hb:(2:Int) ^ k.bits=256 \/ (2:Int) ^ k.bits=65536 \/ (2:Int) ^ k.bits=4294967296 \/ (2:Int) ^ k.bits=18446744073709551616:=by cases k<;>simp[IntKind.bits]
 cases k<;>simp[IntKind.wrap,IntKind.bits,IntKind.signed]<;>(repeat' split)<;>omega
theorem qMV {k:IntKind} {n:Int} (h:k.wrap n=n):k.min<=n /\ n<=k.max:=by
 cases k<;>simp[IntKind.wrap,IntKind.bits,IntKind.signed] at h<;>simp[IntKind.min,IntKind.max,IntKind.bits,IntKind.signed]<;>(try (split at h))<;>omega
theorem qCG {k:IntKind} {n:Int} (h1:k.min<=n) (h2:n<=k.max):k.wrap n=n:=by
 cases k<;>simp[IntKind.min,IntKind.max,IntKind.bits,IntKind.signed] at h1 h2<;>simp[IntKind.wrap,IntKind.bits,IntKind.signed]<;>(try split)<;>omega
theorem qdc {k k':IntKind} {n:Int} (hw:IntKind.within k k'=true) (h:k.wrap n=n):k'.wrap n=n:=by
 obtain⟨h1,h2⟩:=qMV h
 apply qCG<;>cases k<;>cases k'<;>simp[IntKind.within] at hw<;>simp[IntKind.min,IntKind.max,IntKind.bits,IntKind.signed] at h1 h2 ⊢ <;> omega
theorem qpE {R:Type} {op:BinOp} {k:IntKind} {a d:Int} {K:S->Option R} {r:R} (h:qDC op k a d K=some r) (ha:k.wrap a=a) (hd:op=.shl \/ op=.shr \/ k.wrap d=d)
  (t:TypeId) (x y:Operand) (kd:IntKind) (hk:op=.shl \/ op=.shr \/ kd=k):
  ∃ z vr,K z=some r /\ (∀ (w:World),(do eqGuard op t x y (.int k a) (.int kd d);binOp op t (.int k a) (.int kd d)).run P w=.ok vr w) /\ ∀ e,qI e z vr:=by
 have hg:∀ w,(eqGuard op t x y (.int k a) (.int kd d)).run P w=.ok () w:=by
  intro w
  unfold eqGuard
  split<;>rfl
 have tm:k.wrap d=d->k.wrap (a.tmod d)=a.tmod d:=by
  intro hd
  obtain⟨a1,a2⟩:=qMV ha
  obtain⟨d1,d2⟩:=qMV hd
  have h0:k.min<=0:=by cases k<;>simp[IntKind.min,IntKind.bits,IntKind.signed]
  have h3:0<=k.max:=by cases k<;>simp[IntKind.max,IntKind.bits,IntKind.signed]
  rcases Int.le_total 0 a with hpos | hneg
  ·have b1:=Int.tmod_nonneg d hpos
   have b2:a.tmod d<=a:=by
    have h5:=Int.natAbs_tmod a d
    have h6:=Nat.mod_le a.natAbs d.natAbs
    omega
   exact qCG (by omega) (by omega)
  ·have b1:a.tmod d<=0:=by
    have:=Int.tmod_nonneg d (show 0 <= -a by omega)
    rw[Int.neg_tmod] at this;omega
   have b2:a<=a.tmod d:=by
    have h5:=Int.natAbs_tmod a d
    have h6:=Nat.mod_le a.natAbs d.natAbs
    omega
   exact qCG (by omega) (by omega)
 have fd:∀ n:Nat,k.wrap (a.fdiv (2 ^ n))=a.fdiv (2 ^ n):=by
  intro n
  obtain⟨a1,a2⟩:=qMV ha
  have hp:(0:Int)<2 ^ n:=Int.pow_pos (by omega)
  have h0:k.min<=0:=by cases k<;>simp[IntKind.min,IntKind.bits,IntKind.signed]
  rw[Int.fdiv_eq_ediv_of_nonneg _ (Int.le_of_lt hp)]
  rcases Int.le_total 0 a with hpos | hneg
  ·have b1:=Int.ediv_nonneg hpos (Int.le_of_lt hp)
   have b2:=Int.ediv_le_self (2 ^ n) hpos
   exact qCG (by omega) (by omega)
  ·have b1:a<=a / 2 ^ n:=by
    rw[Int.le_ediv_iff_mul_le hp]
    have h7:(1:Int)<=2 ^ n:=hp
    have h8:0<=(-a)*(2 ^ n - 1):=Int.mul_nonneg (by omega) (by omega)
    have h9:(-a)*(2 ^ n - 1)=a - a*2 ^ n:=by rw[Int.mul_sub,Int.neg_mul];omega
    omega
   have b2:a / 2 ^ n<=0:=by
    have:=Int.ediv_le_ediv hp hneg
    simpa using this
   have h3:0<=k.max:=by cases k<;>simp[IntKind.max,IntKind.bits,IntKind.signed]
   exact qCG (by omega) (by omega)
 have bt:∀ op,k.wrap (qD op k a d)=qD op k a d:=by
  intro op
  cases op<;>simp only[qD]<;>exact qEd _ _
 cases op<;>simp only[qDC] at h<;>simp only[Sem.run_bind,hg,Result.andThen_ok]
 case add => obtain rfl:kd=k:=by simpa using hk
             exact⟨_,_,h,fun w=>by simp[binOp,Op.intArith],fun e=>⟨rfl,qEd _ _⟩⟩
 case sub => obtain rfl:kd=k:=by simpa using hk
             exact⟨_,_,h,fun w=>by simp[binOp,Op.intArith],fun e=>⟨rfl,qEd _ _⟩⟩
 case mul => obtain rfl:kd=k:=by simpa using hk
             exact⟨_,_,h,fun w=>by simp[binOp,Op.intArith],fun e=>⟨rfl,qEd _ _⟩⟩
 case quo=>
  obtain rfl:kd=k:=by simpa using hk
  cases hz:decide (d=0) with
  | true=>rw[hz] at h;cases h
  | false=>
    rw[hz] at h
    have hz:d≠0:=by simpa using hz
    exact⟨_,_,h,fun w=>by simp[binOp,Op.intDiv,hz],fun e=>⟨rfl,qEd _ _⟩⟩
 case rem=>
  obtain rfl:kd=k:=by simpa using hk
  cases hz:decide (d=0) with
  | true=>rw[hz] at h;cases h
  | false=>
    rw[hz] at h
    have hz:d≠0:=by simpa using hz
    exact⟨_,_,h,fun w=>by simp[binOp,Op.intDiv,hz],fun e=>⟨rfl,tm (by simpa using hd)⟩⟩
 case and => obtain rfl:kd=k:=by simpa using hk
             exact⟨_,_,h,fun w=>by simp[binOp,Op.intBits,qD],fun e=>⟨rfl,bt _⟩⟩
 case or => obtain rfl:kd=k:=by simpa using hk
            exact⟨_,_,h,fun w=>by simp[binOp,Op.intBits,qD],fun e=>⟨rfl,bt _⟩⟩
 case xor => obtain rfl:kd=k:=by simpa using hk
             exact⟨_,_,h,fun w=>by simp[binOp,Op.intBits,qD],fun e=>⟨rfl,bt _⟩⟩
 case andNot => obtain rfl:kd=k:=by simpa using hk
                exact⟨_,_,h,fun w=>by simp[binOp,Op.intBits,qD],fun e=>⟨rfl,bt _⟩⟩
 case shl=>
  cases hz:decide (d<0) with
  | true=>rw[hz] at h;cases h
  | false=>
    rw[hz] at h
    have hz:¬ d<0:=by simpa using hz
    exact⟨_,_,h,fun w=>by simp[binOp,Op.shift,hz],fun e=>⟨rfl,qEd _ _⟩⟩
 case shr=>
  cases hz:decide (d<0) with
  | true=>rw[hz] at h;cases h
  | false=>
    rw[hz] at h
    have hz:¬ d<0:=by simpa using hz
    exact⟨_,_,h,fun w=>by simp[binOp,Op.shift,hz],fun e=>⟨rfl,fd _⟩⟩
 case eql => obtain rfl:kd=k:=by simpa using hk
             exact⟨_,_,h,fun w=>by simp[binOp,Op.intCmp],fun e=>rfl⟩
 case neq => obtain rfl:kd=k:=by simpa using hk
             exact⟨_,_,h,fun w=>by simp[binOp,Op.intCmp],fun e=>rfl⟩
 case lss => obtain rfl:kd=k:=by simpa using hk
             exact⟨_,_,h,fun w=>by simp[binOp,Op.intCmp],fun e=>rfl⟩
 case leq => obtain rfl:kd=k:=by simpa using hk
             exact⟨_,_,h,fun w=>by simp[binOp,Op.intCmp],fun e=>rfl⟩
 case gtr => obtain rfl:kd=k:=by simpa using hk
             exact⟨_,_,h,fun w=>by simp[binOp,Op.intCmp],fun e=>rfl⟩
 case geq => obtain rfl:kd=k:=by simpa using hk
             exact⟨_,_,h,fun w=>by simp[binOp,Op.intCmp],fun e=>rfl⟩
theorem qlM {x:Operand} {op:UnOp} {t:TypeId} {y z:S} (ho:o.op=.unOp op t x) (hx:ev ρ x=.s y) (hz:unE op y=some z):qQ P o ρ h nx (.s z) [] nx:=
 qQ.pure fun nm w a hr _=>by
  have h1:=hr x (by simp[ho,Op.operands])
  rw[hx] at h1
  cases y<;>simp only[unE] at hz<;>try cases hz
  ·rename_i k n
   obtain⟨h1,h2⟩:=qBl h1
   cases op<;>simp only at hz<;>cases hz
   ·exact⟨_,by simp[execOp,ho,h1,Op.unary,Op.intArith],⟨rfl,qEd _ _⟩⟩
   ·exact⟨_,by simp only[execOp,ho,h1,Op.unary,Op.intBits,qD,Sem.run_bind,Sem.run_pure,Result.andThen_ok],⟨rfl,qEd _ _⟩⟩
  ·rename_i b
   have h1:a.eval x=.bool b:=h1
   cases op<;>simp only at hz<;>cases hz
   exact⟨_,by simp[execOp,ho,h1,Op.unary],rfl⟩
theorem qkq {tab:Tab} (htab:∀ t L,tab.get t=some L->LayOK P tab t L) {x:Operand} {src dst:TypeId} {k k':IntKind} {n:Int} (ho:o.op=.convert src dst x) (hx:ev ρ x=.s (.i k n))
  (hd:tab.get dst=some (.sc (.i k'))) (hs:∃ d,P.underlying src=some d):qQ P o ρ h nx (.s (.i k' (conv k k' n))) [] nx:=
 qQ.pure fun nm w a hr _=>by
  have h1:=hr x (by simp[ho,Op.operands])
  rw[hx] at h1
  obtain⟨h1,h2⟩:=qBl h1
  obtain⟨d,hd1,hd2⟩:=(htab dst _ hd).desc
  simp only at hd2
  subst hd2
  obtain⟨d',hs⟩:=hs
  refine⟨.int k' (k'.wrap n),?_,?_⟩
  ·simp[execOp,ho,h1,convert,run_underlying hs,run_underlying hd1,Conv.intToInt]
  ·unfold conv
   cases hw:IntKind.within k k' with
   | true=>exact⟨by rw[cond_true,qdc hw h2],qdc hw h2⟩
   | false=>exact⟨rfl,qEd _ _⟩
theorem qlG {x:Operand} {ob sg:Nat} {row:Option (Nat×Nat)} {col:Nat} (ho:o.op=.nilCheck x) (hx:ev ρ x=.s (.ptr ob sg row col)) (hl:(h.get ob).shape≠.dead):
  qQ P o ρ h nx (.s (.ptr ob sg row col)) [] nx:=
 qQ.pure fun nm w a hr _=>by
  have h1:=hr x (by simp[ho,Op.operands])
  rw[hx] at h1
  have h2:∃ q,a.eval x=.pointer (some q):=by
   obtain⟨_,h2⟩:=h1
   cases hsh:(h.get ob).shape with
   | dead=>exact absurd hsh hl
   | cells sh=>simp only[hsh] at h2;obtain⟨_,b,off,cap,_,h⟩:=h2;exact⟨_,h⟩
   | sli s=>simp only[hsh] at h2;obtain⟨_,b,off,cap,_,h⟩:=h2;exact⟨_,h⟩
   | map=>simp only[hsh] at h2
   | pol wd=>simp only[hsh] at h2
  obtain⟨q,h2⟩:=h2
  refine⟨.pointer (some q),by simp[execOp,ho,h2],?_⟩
  rw[<- h2];exact h1
theorem qkt {x:Operand} {j:Nat} {l:List W} {y:W} (ho:o.op=.extract x j) (hx:ev ρ x=.tup l) (hj:l[j]? = some y):qQ P o ρ h nx y.v [] nx:=
 qQ.pure fun nm w a hr _=>by
  have h1:=hr x (by simp[ho,Op.operands])
  rw[hx] at h1
  obtain⟨arr,h2,h3⟩:=h1
  obtain⟨v,hv,hr⟩:=qB.get j h3 hj
  refine⟨v,?_,hr.v⟩
  have hv':arr[j]? = some v:=by simpa using hv
  simp[execOp,ho,h2,Instr.extract,hv']
end
theorem qGU {e:Env} {v:V} {x:Value} (h:qS e v x) (hv:v.good=true):qB (qI e) v.flat x.cells.toList /\ v.ok /\ (∀ u∈x.cells.toList,u.oneCell'=true):=by
 have one:∀ (l:List S) (m:List Value),qB (qI e) l m->(∀ s∈l,s.good=true)->∀ u∈m,u.oneCell'=true:=by
  intro l
  induction l with
  | nil=>intro m hm _ u hu;cases m with
    | nil=>cases hu
    | cons _ _=>exact hm.elim
  | cons s l ih=>intro m hm hg u hu;cases m with
    | nil=>cases hu
    | cons y m=>
      rcases List.mem_cons.1 hu with rfl | hu
      ·exact qI.oneCell hm.1 (hg s (by simp))
      ·exact ih m hm.2 (fun z hz=>hg z (by simp[hz])) u hu
 cases v with
 | tup l=>cases hv
 | s s=>
   have h1:s.good=true:=hv
   have h2:=qI.oneCell (show qI e s x from h) h1
   have:x.cells = #[x]:=by cases x<;>simp[Value.oneCell'] at h2<;>rfl
   rw[this]
   refine⟨⟨h,trivial⟩,trivial,fun u hu=>?_⟩
   simp at hu
   rw[hu];exact h2
 | agg l=>
   obtain⟨arr,rfl,h1,h2⟩:=h
   refine⟨h1,h2,one _ _ h1 fun s hs=>?_⟩
   obtain⟨g,hg,hsg⟩:=List.mem_flatMap.1 hs
   have hgg:g.good=true:=List.all_eq_true.1 hv g hg
   cases g with
   | one vs=>exact List.all_eq_true.1 hgg s hsg
   | arr k n l=>obtain⟨_,_,rfl⟩:=List.mem_map.1 hsg;rfl
   | barr n l=>obtain⟨_,_,rfl⟩:=List.mem_map.1 hsg;rfl
   | rows ks n xs=>
     obtain⟨r,_,hr⟩:=List.mem_flatMap.1 hsg
     have:∀ (ks:List CK) (r:List Int) (s:S),s∈mks ks r->s.good=true:=by
      intro ks
      induction ks with
      | nil=>intro r s hs;simp[mks] at hs
      | cons c ks ih=>
        intro r s hs
        rcases List.mem_cons.1 hs with rfl | hs
        ·cases c<;>rfl
        ·exact ih _ _ hs
     exact this ks r s hr
theorem qGV {e:Env} {l:List S} {m:List Value} (h:qB (qI e) l m):∀ s∈l,s.rng:=by
 induction l generalizing m with
 | nil=>intro s hs;cases hs
 | cons x l ih=>
   intro s hs
   cases m with
   | nil=>exact h.elim
   | cons y m=>
     rcases List.mem_cons.1 hs with rfl | hs
     ·cases s<;>first | trivial | exact h.1.2
     ·exact ih h.2 s hs
theorem qqL {l:List Seg} (h:oks l):qMK l=(qc l).length:=by
 rw[qHH h]
 induction l with
 | nil=>rfl
 | cons g l ih=>simp[qMK,qp,ih (qAV.1 h).2]
theorem qMJ {tab:Tab} {t:TypeId} {v:V} (h:qCn (tab.get t) v=true) (hv:v.ok):∃ L,tab.get t=some L /\ v.flat.length=L.size:=by
 cases hL:tab.get t with
 | none=>rw[hL] at h;cases h
 | some L=>
   rw[hL] at h
   refine⟨L,rfl,?_⟩
   simp only[qCn] at h
   cases v with
   | tup l=>simp[V.size?] at h
   | s x=>simp[V.size?,Lay.sizeN,qR3] at h;simpa[V.flat,qL5] using h
   | agg l=>simp[V.size?,Lay.sizeN,qR3,qqL hv] at h;simpa[V.flat,qL5] using h
section
variable {P:Program} {o:Oper} {ρ:Rg} {h:Hp} {nx:Nat}
theorem qfb {nm:Nm} {w:World} {t:TypeId} {l:List Seg} {arr:Array Value} (hh:RelH ⟨nm,h,nx⟩ w) (hok:oks l) (hr:qB (qI ⟨nm,h,nx⟩) (qc l) arr.toList):
  ∃ nm',nm' nx=some (w.heap.size,0,0) /\ RelH ⟨nm',[(nx,.cells t l)]++h,nx+1⟩ (w.alloc (.cells arr t)) /\ Frame' ⟨nm,h,nx⟩ w (w.alloc (.cells arr t)) /\
    Ext ⟨nm,h,nx⟩ ⟨nm',[(nx,.cells t l)]++h,nx+1⟩ w:=by
 let nm':Nm:=fun q=>if q=nx then some (w.heap.size,0,0) else if q<nx then nm q else none
 have hlook:∀ q,q≠nx->List.lookup q [(nx,Obj.cells t l)]=none:=fun q hq=>by simp[List.lookup,beq_eq_false_iff_ne.2 hq]
 have hself:List.lookup nx [(nx,Obj.cells t l)]=some (.cells t l):=by simp[List.lookup]
 have hsame:∀ q,q<nx->qBd ⟨nm,h,nx⟩ ⟨nm',[(nx,.cells t l)]++h,nx+1⟩ id q:=by
  intro q hq
  refine⟨Nat.lt_succ_of_lt hq,.inr ⟨?_,?_⟩⟩
  ·show (Hp.get (_++h) q).shape=_
   rw[qm,hlook q (by omega)]
  ·show nm' q=nm q
   simp only[nm'];rw[if_neg (by omega),if_pos hq]
 refine⟨nm',by simp[nm'],qJF hh (Nat.le_succ _) (fun q hq=>⟨hlook q (by have:q<nx:=hq;omega),?_⟩) (fun q hq=>hlook q (by omega)) (fun q hq hq'=>?_) (fun q x hq hx=>?_) (fun k hk=>by simp only[World.alloc,Array.getElem?_push,Nat.ne_of_lt hk,if_false]) rfl rfl rfl (by simp)⟩
 ·have hq:q<nx:=hq
  simp only[nm'];rw[if_neg (by omega),if_pos hq]
 ·have e1:q=nx:=by have:nx<=q:=hq;omega
  subst e1
  have hg:Hp.get ([(q,Obj.cells t l)]++h) q=.cells t l:=by rw[qm,hself]
  unfold qG
  dsimp only
  rw[hg]
  refine⟨hok,w.heap.size,arr,by simp[nm'],heap_alloc_new w _,?_⟩
  have:=qGT (g:=id) hr fun r _ hr'=>hsame r hr'
  rwa [qC2] at this
 ·have hq:nx<=q:=hq
  simp only[Has,nm'] at hx
  by_cases e1:q=nx
  ·subst e1;rw[if_pos rfl] at hx;have:=qDB hx (by unfold big;omega);exact⟨rfl,by omega⟩
  ·rw[if_neg e1,if_neg (by omega)] at hx;cases hx
theorem qkp {x:Operand} {t:TypeId} {l:List Seg} (ho:o.op=.box t x) (hl:(ev ρ x).segs? = some l) (hg:(ev ρ x).good=true):
  qQ P o ρ h nx (.s (.ptr nx 0 none 0)) [(nx,.cells t l)] (nx+1):=by
 intro nm w a hr hh N Q hN
 have h1:=hr x (by simp[ho,Op.operands])
 obtain⟨c1,c2,c3⟩:=qGU h1 hg
 have hfl:qc l=(ev ρ x).flat:=by
  cases hv:ev ρ x<;>rw[hv] at hl<;>simp[V.segs?] at hl<;>subst hl<;>simp[V.flat,Seg.flat]
 have hok:oks l:=by
  cases hv:ev ρ x<;>rw[hv] at hl c2<;>simp[V.segs?] at hl<;>subst hl
  ·exact qAV.2 ⟨trivial,qCT⟩
  ·exact c2
 obtain⟨nm',n1,n2,n3,n4⟩:=qfb (t:=t) (arr:=(a.eval x).cells) hh hok (by rw[hfl];exact c1)
 unfold Oper.wp
 have hrun:(execOp a.eval o).run P w=.ok (.value (.pointer (some ⟨w.heap.size,0,none⟩))) (w.alloc (.cells (a.eval x).cells t)):=by
  simp[execOp,ho,Instr.box,newVar,newRow]
 rw[hrun]
 refine hN _ nm' _ ?_ n2 n3 n4
 refine⟨Nat.lt_succ_self _,?_⟩
 show match (Hp.get ([(nx,Obj.cells t l)]++h) nx).shape with | _=>_
 have:Hp.get ([(nx,Obj.cells t l)]++h) nx=.cells t l:=by rw[qm];simp[List.lookup]
 rw[this]
 refine⟨trivial,w.heap.size,0,0,n1,?_⟩
 simp[qX,qp]
theorem qP9 {e:Env} {w:World} {ob sg:Nat} {row:Option (Nat×Nat)} {col:Nat} {v:Value} {t:TypeId} {l:List Seg} (hh:RelH e w) (hv:qI e (.ptr ob sg row col) v)
  (ho:e.h.get ob=.cells t l \/ e.h.get ob=.rcells t l):∃ b arr,e.nm ob=some (b,0,0) /\ w.heap[b]? = some (.cells arr t (0,0)) /\ qB (qI e) (qc l) arr.toList /\ oks l /\ qGX (qU l) sg row col /\
   v=.pointer (some ⟨b,qX (qU l) sg row col,none⟩):=by
 have h1:=hh.obj ob
 unfold qG at h1
 obtain⟨_,h6⟩:=hv
 rcases ho with ho | ho <;>
 ·rw[ho] at h1
  obtain⟨h2,b,arr,h3,h4,h5⟩:=h1
  rw[ho] at h6
  obtain⟨h7,b',off,cap,h8,h9⟩:=h6
  rw[h3] at h8
  cases h8
  exact⟨b,arr,h3,h4,h5,h2,h7,by simpa using h9⟩
theorem qJp {α:Type} {l:List α} {off n j:Nat} {u:α} (h:(sub l off n)[j]? = some u):l[off+j]? = some u /\ j<n:=by
 unfold sub at h
 rw[List.getElem?_take] at h
 split at h
 ·rw[List.getElem?_drop] at h;exact⟨h,by assumption⟩
 ·cases h
theorem qHb {e:Env} {segs:List Seg} {off:Nat} {L:Lay} {v:V} {vs:List Value} (hl:Loaded segs off L v) (hc:qB (qI e) (sub (qc segs) off L.size) vs):
  qS e v (match L.agg with
   | true=>.agg vs.toArray
   | false=>vs.headD undef):=by
 rw[<- hl.flat] at hc
 cases ha:L.agg with
 | true=>
   obtain⟨l,rfl,_⟩:=hl.agg ha
   exact⟨vs.toArray,rfl,by simpa[V.flat] using hc,hl.ok⟩
 | false=>
   obtain⟨s,rfl⟩:=hl.sc ha
   cases vs with
   | nil=>exact hc.elim
   | cons x vs=>exact hc.1
theorem qYe {tab:Tab} (htab:∀ t L,tab.get t=some L->LayOK P tab t L) {x:Operand} {t T:TypeId} {ob sg:Nat} {row:Option (Nat×Nat)} {col:Nat} {l:List Seg} {L:Lay} {v:V}
  (ho:o.op=.load t x) (hx:ev ρ x=.s (.ptr ob sg row col)) (hob:h.get ob=.cells T l \/ h.get ob=.rcells T l) (hL:tab.get t=some L) (hv:loadAt l sg row col L=some v):qQ P o ρ h nx v [] nx:=
 qQ.pure fun nm w a hr hh=>by
  have h1:=hr x (by simp[ho,Op.operands])
  rw[hx] at h1
  obtain⟨b,arr,_,c2,c3,c4,c5,c6⟩:=qP9 hh h1 hob
  have hld:=qHa hv c4 c5
  have hlen:(sub arr.toList (qX (qU l) sg row col) L.size).length=L.size:=by
   have:=qB.length c3
   have:=hld.len
   simp[sub];simp at *;omega
  have hrun:=qJN (P:=P) (w:=w) (b:=b) (off:=qX (qU l) sg row col) (htab t L hL) hlen fun j u hu=>by
   obtain⟨g1,_⟩:=qJp hu
   simp only[World.cell?,c2]
   simpa using g1
  refine⟨_,?_,qHb hld (qB.take _ (qB.drop _ c3))⟩
  simp only[execOp,ho,c6,Instr.loadAt,Instr.sureAddr,Sem.run_bind,Sem.run_pure,Result.andThen_ok,hrun]
  rfl
theorem qB.over {α β:Type} {R:α->β->Prop} {l:List α} {m:List β} {off:Nat} {a:List α} {b:List β} (h:qB R l m) (h':qB R a b):qB R (over l off a) (over m off b):=by
 unfold Kk.over
 have:=qB.length h'
 rw[this]
 exact qB.append (qB.append (qB.take _ h) h') (qB.drop _ h)
theorem qSj (l:List Seg) (sg:Nat) (row:Option (Nat×Nat)) (col:Nat) (v:V):stk l sg row col v=v \/ ∃ o lo len,v=.s (.sl o lo len true) /\ stk l sg row col v=.s (.sl o lo len false):=by
 unfold stk
 split
 ·cases qYn l[sg]? col with
  | true=>exact .inr ⟨_,_,_,rfl,rfl⟩
  | false=>exact .inl rfl
 ·exact .inl rfl
theorem qq4 (l:List Seg) (sg:Nat) (row:Option (Nat×Nat)) (col:Nat) {e:Env} {v:V} {u:Value} (h:qS e v u):qS e (stk l sg row col v) u:=by
 rcases qSj l sg row col v with h1 | ⟨o,lo,len,h1,h2⟩
 ·rw[h1];exact h
 ·rw[h2]
  rw[h1] at h
  obtain⟨h3,h4⟩:=h
  refine⟨h3,?_⟩
  cases hs:(e.h.get o).shape<;>rw[hs] at h4<;>simp only at h4 ⊢
  ·exact h4
  ·unfold qAB at h4 ⊢
   split at h4
   ·exact h4
   ·obtain⟨c,c1,c2,c3,_⟩:=h4
    exact⟨c,c1,c2,c3,fun h=>by cases h⟩
theorem qq3 (l:List Seg) (sg:Nat) (row:Option (Nat×Nat)) (col:Nat) (v:V):(stk l sg row col v).good=v.good:=by
 rcases qSj l sg row col v with h1 | ⟨o,lo,len,h1,h2⟩
 ·rw[h1]
 ·rw[h2,h1];rfl
theorem qq2 (l:List Seg) (sg:Nat) (row:Option (Nat×Nat)) (col:Nat) {L:Option Lay} (v:V):qCn L (stk l sg row col v)=qCn L v:=by
 rcases qSj l sg row col v with h1 | ⟨o,lo,len,h1,h2⟩
 ·rw[h1]
 ·rw[h2,h1];cases L<;>rfl
theorem qlK {tab:Tab} (htab:∀ t L,tab.get t=some L->LayOK P tab t L) {x y:Operand} {t T:TypeId} {ob sg:Nat} {row:Option (Nat×Nat)} {col:Nat} {l l':List Seg}
  (ho:o.op=.store t x y) (hx:ev ρ x=.s (.ptr ob sg row col)) (hob:h.get ob=.cells T l) (hg:(ev ρ y).good=true) (hsz:qCn (tab.get t) (ev ρ y)=true)
  (hv:storeAt l sg row col (stk l sg row col (ev ρ y))=some l'):qQ P o ρ h nx qCF [(ob,.cells T l')] nx:=by
 intro nm w a hr hh N Q hN
 have h1:=hr x (by simp[ho,Op.operands])
 rw[hx] at h1
 have h2:=qq4 l sg row col (hr y (by simp[ho,Op.operands]))
 rw[<- qq3 l sg row col] at hg
 rw[<- qq2 l sg row col] at hsz
 obtain⟨b,arr,c1,c2,c3,c4,c5,c6⟩:=qP9 hh h1 (.inl hob)
 obtain⟨d1,d2,d3⟩:=qGU h2 hg
 have hst:=qIR hv c4 c5 d2 (qGV d1)
 obtain⟨L,hL,hLs⟩:=qMJ hsz d2
 have hcl:=qB.length c3
 have hdl:=qB.length d1
 have hrun:=qZb (P:=P) (v:=a.eval y) (off:=qX (qU l) sg row col) (htab t L hL) c2 (by omega) (by have:=hst.len;simp at *;omega) d3
 let w':=w.setRow b (over arr.toList (qX (qU l) sg row col) (a.eval y).cells.toList).toArray
 have hrel:=qSx (e:=⟨nm,h,nx⟩) (w:=w) (w':=w') (o:=ob) (b:=b) (x':=.cells T l') hh h1.1 (by show (h.get ob).owned=true;rw[hob];rfl) (by show _=(h.get ob).shape;rw[hob];simp[Obj.shape,hst.shp]) rfl
  (qCc (show nm ob=_ from c1)) (by
   unfold qG
   show match Hp.get ((ob,Obj.cells T l') :: h) ob with | _=>_
   have:Hp.get ((ob,Obj.cells T l') :: h) ob=.cells T l':=by simp[Hp.get]
   rw[this]
   refine⟨hst.ok,b,_,c1,setRow_heap w b arr _ T (0,0) c2,?_⟩
   rw[hst.flat]
   have base:qB (qI ⟨nm,h,nx⟩) (over (qc l) (qX (qU l) sg row col) (stk l sg row col (ev ρ y)).flat) (over arr.toList (qX (qU l) sg row col) (a.eval y).cells.toList):=qB.over c3 d1
   refine qB.mono (fun s u hu=>?_) base
   have hsame:∀ q,q<nx->qBd ⟨nm,h,nx⟩ ⟨nm,(ob,.cells T l') :: h,nx⟩ id q:=by
    intro q hq
    refine⟨hq,.inr ⟨?_,rfl⟩⟩
    show (Hp.get ((ob,Obj.cells T l') :: h) q).shape=(h.get q).shape
    by_cases hqo:q=ob
    ·subst hqo;rw[this,hob];simp[Obj.shape,hst.shp]
    ·simp only[Hp.get]
     have:Nat.beq ob q=false:=by
      cases hbq:Nat.beq ob q with
      | false=>rfl
      | true=>exact absurd (Nat.eq_of_beq_eq_true hbq) (Ne.symm hqo)
     rw[this];rfl
   have:=qI.ren (g:=id) hu fun r _ hr'=>hsame r hr'
   rwa [S.ren_id] at this)
  (fun k hk=>setRow_other w b k _ hk) rfl rfl rfl (by simp[w'])
 unfold Oper.wp
 have hex:(execOp a.eval o).run P w=.ok .skip w':=by
  simp only[execOp,ho,c6,Instr.storeAt,Instr.sureAddr,Sem.run_bind,Sem.run_pure,Result.andThen_ok,hrun]
  rfl
 rw[hex]
 exact hN undef nm w' ⟨#[],rfl,trivial⟩ hrel.1 hrel.2.1 hrel.2.2
end
theorem qBT {e:Env} {ob sg:Nat} {row:Option (Nat×Nat)} {col:Nat} {v:Value} (hm:(e.h.get ob).isMem=true):
  qI e (.ptr ob sg row col) v↔ob<e.nx /\ qEf e.nm ob (qU (e.h.get ob).segs) sg row col v:=by
 cases hx:e.h.get ob with
 | dead=>rw[hx] at hm;cases hm
 | map a b c=>rw[hx] at hm;cases hm
 | iter a b=>rw[hx] at hm;cases hm
 | maps a b c=>rw[hx] at hm;cases hm
 | pol a b=>rw[hx] at hm;cases hm
 | cells t l=>simp only[qI,hx,Obj.shape,Obj.segs]
 | rcells t l=>simp only[qI,hx,Obj.shape,Obj.segs]
 | sli t ro g=>simp only[qI,hx,Obj.shape,Obj.segs,shps_cons,shps_nil]
theorem qPh {x:Obj} {sg:Nat} {g:Seg} (h:x.segs[sg]? = some g):x.isMem=true:=by
 cases x<;>simp[Obj.segs] at h<;>rfl
section
variable {P:Program} {o:Oper} {ρ:Rg} {h:Hp} {nx:Nat} {tab:Tab}
theorem qRy {t:TypeId} {ts:List SegT} {fl:List (Nat×Nat×TypeId)} {f fs fc:Nat} {ft:TypeId} (hL:LayOK P tab t (.st ts fl)) (hf:fl[f]? = some (fs,fc,ft)) (w:World) (b off:Nat):
  (Instr.fieldAt t (.pointer (some ⟨b,off,none⟩)) f).run P w=.ok (.pointer (some ⟨b,off+(qp ((ts.map SegT.shp).take fs)+fc),none⟩)) w:=by
 obtain⟨fls,hu,hsz,hall⟩:=hL.desc
 have hlt:f<fls.size:=by rw[hsz];exact getElem?_lt hf
 have hg:fls[f]? = some fls[f]:=Array.getElem?_eq_getElem hlt
 obtain⟨a,b',Lf,h1,_,h3,_,h5,i,h6,h7⟩:=hall f _ hg
 rw[hf] at h1
 simp only[Option.some.injEq,Prod.mk.injEq] at h1
 obtain⟨rfl,rfl,rfl⟩:=h1
 unfold Instr.fieldAt
 rw[Sem.run_bind,run_underlying hu]
 simp only[Result.andThen_ok,hg,Sem.run_bind,Instr.sureAddr,Sem.run_pure,fieldPlace,sizeOf,typeInfo,run_program,h6]
 have:¬ i.size=0:=by omega
 simp only[this,if_false,Sem.run_pure,Result.andThen_ok,Addr.add_lit,h3]
theorem qkw {x:Operand} {t:TypeId} {f fs fc:Nat} {ft:TypeId} {ts:List SegT} {fl:List (Nat×Nat×TypeId)} {ob sg col:Nat} (hL:LayOK P tab t (.st ts fl))
  (ho:o.op=.fieldAddr t x f) (hx:ev ρ x=.s (.ptr ob sg none col)) (hf:fl[f]? = some (fs,fc,ft)) (hm:(h.get ob).isMem=true) (hz:fs=0):
  qQ P o ρ h nx (.s (.ptr ob sg none (col+fc))) [] nx:=
 qQ.pure fun nm w a hr _=>by
  subst hz
  have h1:=hr x (by simp[ho,Op.operands])
  rw[hx] at h1
  obtain⟨h2,h3,b,off,cap,h4,h5⟩:=(qBT (e:=⟨nm,h,nx⟩) hm).1 h1
  refine⟨_,by simp only[execOp,ho,h5,Sem.run_bind,qRy hL hf,Result.andThen_ok];rfl,(qBT (e:=⟨nm,h,nx⟩) hm).2 ⟨h2,trivial,b,off,cap,h4,?_⟩⟩
  simp only[qX,List.take_zero,qp,Nat.zero_add]
  rw[show off+(qp (List.take sg (qU (h.get ob).segs))+col)+fc=off+(qp (List.take sg (qU (h.get ob).segs))+(col+fc)) by omega]
theorem qkv {x:Operand} {t:TypeId} {f fs fc:Nat} {ft:TypeId} {ts:List SegT} {fl:List (Nat×Nat×TypeId)} {ob sg:Nat} (hL:LayOK P tab t (.st ts fl))
  (ho:o.op=.fieldAddr t x f) (hx:ev ρ x=.s (.ptr ob sg none 0)) (hf:fl[f]? = some (fs,fc,ft)) (hm:(h.get ob).isMem=true)
  (hfit:qBr (((h.get ob).segs.drop sg).take fs) (ts.take fs)=true):
  qQ P o ρ h nx (.s (.ptr ob (sg+fs) none fc)) [] nx:=
 qQ.pure fun nm w a hr _=>by
  have h1:=hr x (by simp[ho,Op.operands])
  rw[hx] at h1
  obtain⟨h2,h3,b,off,cap,h4,h5⟩:=(qBT (e:=⟨nm,h,nx⟩) hm).1 h1
  refine⟨_,by simp only[execOp,ho,h5,Sem.run_bind,qRy hL hf,Result.andThen_ok];rfl,(qBT (e:=⟨nm,h,nx⟩) hm).2 ⟨h2,trivial,b,off,cap,h4,?_⟩⟩
  have hs:=qKZ hfit
  have e1:qp (List.take (sg+fs) (qU (h.get ob).segs))=qp (List.take sg (qU (h.get ob).segs))+qp ((ts.map SegT.shp).take fs):=by
   rw[List.take_add,qqN,<- List.map_take,<- hs]
   congr 2
   simp[qU,List.map_drop]
  simp only[qX,Nat.add_zero,e1]
  rw[show off+qp (List.take sg (qU (h.get ob).segs))+(qp ((ts.map SegT.shp).take fs)+fc)=off+(qp (List.take sg (qU (h.get ob).segs))+qp ((ts.map SegT.shp).take fs)+fc) by omega]
theorem qdb {x:Obj} {sg k:Nat} (h:k<qDS x sg):∃ w n,(qU x.segs)[sg]? = some (.tbl w n) /\ w=qDS x sg:=by
 unfold qDS at h ⊢
 cases hg:x.segs[sg]? with
 | none=>simp[hg] at h
 | some g=>
   rw[hg] at h
   have:=qAM hg
   cases g with
   | one vs=>simp at h
   | arr k n l=>exact⟨_,_,this,rfl⟩
   | barr n l=>exact⟨_,_,this,rfl⟩
   | rows ks n xs=>exact⟨_,_,this,rfl⟩
theorem qbv {x:Obj} {sg:Nat} {s:Shp} (h:(qU x.segs)[sg]? = some s):x.isMem=true:=by
 cases hg:x.segs[sg]? with
 | none=>simp[qU,hg] at h
 | some g=>exact qPh hg
theorem qkx {x:Operand} {t:TypeId} {f fs fc:Nat} {ft:TypeId} {ts:List SegT} {fl:List (Nat×Nat×TypeId)} {ob sg col:Nat} {r:Nat×Nat} (hL:LayOK P tab t (.st ts fl))
  (ho:o.op=.fieldAddr t x f) (hx:ev ρ x=.s (.ptr ob sg (some r) col)) (hf:fl[f]? = some (fs,fc,ft)) (hw:col+qFb (ts.take fs)+fc<qDS (h.get ob) sg):
  qQ P o ρ h nx (.s (.ptr ob sg (some r) (col+qFb (ts.take fs)+fc))) [] nx:=
 qQ.pure fun nm w a hr _=>by
  obtain⟨j,lim⟩:=r
  obtain⟨wd,n,hsh,hwd⟩:=qdb hw
  have hm:=qbv hsh
  have h1:=hr x (by simp[ho,Op.operands])
  rw[hx] at h1
  obtain⟨h2,⟨h3,w',n',g1,g2,g3⟩,b,off,cap,h4,h5⟩:=(qBT (e:=⟨nm,h,nx⟩) hm).1 h1
  have g1:(qU (h.get ob).segs)[sg]? = some (.tbl w' n'):=g1
  rw[hsh] at g1
  cases g1
  refine⟨_,by simp only[execOp,ho,h5,Sem.run_bind,qRy hL hf,Result.andThen_ok];rfl,(qBT (e:=⟨nm,h,nx⟩) hm).2 ⟨h2,⟨h3,wd,n,hsh,g2,by omega⟩,b,off,cap,h4,?_⟩⟩
  simp only[qX,qR3,qBm,List.map_take]
  congr 3
  omega
theorem qL1 {t:TypeId} {n m:Nat} {e:TypeId} {sg:SegT} (hL:LayOK P tab t (.ar n m e sg)) (w:World) (b off:Nat) (k:IntKind) {j:Int} (hj:inB j n=true):
  (Instr.indexAt t (.pointer (some ⟨b,off,none⟩)) (.int k j)).run P w=.ok (.pointer (some ⟨b,off+j.toNat*(m*sg.shp.width),none⟩)) w:=by
 obtain⟨hu,_,_,_,Le,i,_,hi,hs,_⟩:=hL.desc
 simp only[inB,Bool.and_eq_true,decide_eq_true_eq] at hj
 unfold Instr.indexAt
 simp only[asIntOf,Sem.run_bind,Sem.run_pure,Result.andThen_ok,run_underlying hu,Instr.sureAddr]
 rw[if_pos ⟨hj.1,hj.2⟩]
 simp only[sizeOf,typeInfo,Sem.run_bind,Sem.run_pure,Result.andThen_ok,run_program,hi,hs,Addr.add_lit]
theorem qbq {t e:TypeId} (hu:P.underlying t=some (.slice e)) {i:TypeInfo} (hi:P.info? e=some i) (w:World) (b off len cap:Nat) (k:IntKind) {j:Int} (hj:inB j len=true):
  (Instr.indexAt t (.slice (some ⟨b,off,none⟩) len cap) (.int k j)).run P w=.ok (.pointer (some ⟨b,off+j.toNat*i.size,none⟩)) w:=by
 simp only[inB,Bool.and_eq_true,decide_eq_true_eq] at hj
 unfold Instr.indexAt
 simp only[asIntOf,Sem.run_bind,Sem.run_pure,Result.andThen_ok,run_underlying hu]
 rw[if_pos ⟨hj.1,hj.2⟩]
 simp only[sizeOf,typeInfo,Sem.run_bind,Sem.run_pure,Result.andThen_ok,run_program,hi,Addr.add_lit]
theorem qk2 {x y:Operand} {t e:TypeId} {n m:Nat} {tg:SegT} {ob sg:Nat} {k:IntKind} {j:Int} (hL:LayOK P tab t (.ar n m e tg))
  (ho:o.op=.indexAddr t x y) (hx:ev ρ x=.s (.ptr ob sg none 0)) (hy:ev ρ y=.s (.i k j)) (hj:inB j n=true) (hf:qKa ((h.get ob).segs[sg]?) tg=true):
  qQ P o ρ h nx (.s (.ptr ob sg (some (j.toNat*m,m)) 0)) [] nx:=
 qQ.pure fun nm w a hr _=>by
  cases hg:(h.get ob).segs[sg]? with
  | none=>rw[hg] at hf;cases hf
  | some g=>
    rw[hg] at hf
    have hsh:=qKb hf
    have hm:=qPh hg
    have h1:=hr x (by simp[ho,Op.operands])
    rw[hx] at h1
    have h1':=hr y (by simp[ho,Op.operands])
    rw[hy] at h1'
    obtain⟨h1',_⟩:=qBl h1'
    obtain⟨h2,h3,b,off,cap,h4,h5⟩:=(qBT (e:=⟨nm,h,nx⟩) hm).1 h1
    obtain⟨_,hm0,hwpos,htg,_⟩:=hL.desc
    have hgs:(qU (h.get ob).segs)[sg]? = some (.tbl tg.shp.width (n*m)):=by rw[qAM hg,hsh,htg];rfl
    have hj':=hj
    simp only[inB,Bool.and_eq_true,decide_eq_true_eq] at hj'
    have hjn:j.toNat*m+m<=n*m:=by
     have:j.toNat+1<=n:=by omega
     have:=Nat.mul_le_mul_right m this
     rw[Nat.add_mul] at this;omega
    refine⟨_,by simp only[execOp,ho,h5,h1',Sem.run_bind,qL1 hL w b _ k hj,Result.andThen_ok];rfl,
     (qBT (e:=⟨nm,h,nx⟩) hm).2 ⟨h2,⟨hm0,_,_,hgs,hjn,hwpos⟩,b,off,cap,h4,?_⟩⟩
    simp only[qX,hgs,Option.map_some,Option.getD_some,Shp.width,Nat.add_zero]
    rw[Nat.mul_assoc]
    congr 3
    omega
theorem qhY:fx.all (fun p=>p.2.2.all fun n=>p.2.1.wrap n==n)=true:=by decide +kernel
theorem qVd {g:Nat} {k:IntKind} {l:List Int}:∀ {f:List (Nat×IntKind×List Int)},qI0 g f=some (k,l)->∃ g',(g',k,l)∈f
 | [],h=>by cases h
 | (k',x) :: r,h=>by
   simp only[qI0] at h
   cases hb:Nat.beq k' g with
   | true=>rw[hb] at h;simp only[cond_true,Option.some.injEq] at h;subst h;exact⟨k',by simp⟩
   | false=>rw[hb] at h;obtain⟨g',hg⟩:=qVd (f:=r) h;exact⟨g',by simp[hg]⟩
theorem qhX {g:Nat} {k:IntKind} {l:List Int} (h:qBN g=some (k,l)) {j:Nat} (hj:j<l.length):k.wrap (l.getD j 0)=l.getD j 0:=by
 obtain⟨g',hm⟩:=qVd h
 have:=qhY
 rw[List.all_eq_true] at this
 have:=this _ hm
 simp only[List.all_eq_true,beq_iff_eq] at this
 rw[List.getD_eq_getElem?_getD,List.getElem?_eq_getElem hj]
 exact this _ (List.getElem_mem _)
theorem qk1 {x y:Operand} {t e:TypeId} {n n':Nat} {k':IntKind} {g:Nat} {k kj:IntKind} {l:List Int} {j:Int} (hL:LayOK P tab t (.ar n 1 e (.arr k' n')))
  (ho:o.op=.indexAddr t x y) (hx:ev ρ x=.s (.gp g 0)) (hy:ev ρ y=.s (.i kj j)) (hj:inB j n=true) (hg:qBN g=some (k,l)) (hn:l.length=n):
  qQ P o ρ h nx (.s (.gp g j.toNat)) [] nx:=
 qQ.pure fun nm w a hr _=>by
  have h1:=hr x (by simp[ho,Op.operands])
  rw[hx] at h1
  have h1':=hr y (by simp[ho,Op.operands])
  rw[hy] at h1'
  obtain⟨h1',_⟩:=qBl h1'
  obtain⟨h5,_⟩:a.eval x=.pointer (some ⟨g,0,none⟩) /\ _:=h1
  have hj':=hj
  simp only[inB,Bool.and_eq_true,decide_eq_true_eq] at hj'
  refine⟨_,by simp only[execOp,ho,h5,h1',Sem.run_bind,qL1 hL w g 0 kj hj,Result.andThen_ok];rfl,?_,k,l,hg,by omega⟩
  simp[SegT.shp,Shp.width]
theorem qk8 {x:Operand} {t:TypeId} {g j:Nat} {k:IntKind} {l:List Int} (hL:LayOK P tab t (.sc (.i k)))
  (ho:o.op=.load t x) (hx:ev ρ x=.s (.gp g j)) (hg:qBN g=some (k,l)):qQ P o ρ h nx (.s (.i k (l.getD j 0))) [] nx:=
 qQ.pure fun nm w a hr hh=>by
  have h1:=hr x (by simp[ho,Op.operands])
  rw[hx] at h1
  obtain⟨c6,k',l',hg',hj⟩:a.eval x=.pointer (some ⟨g,j,none⟩) /\ ∃ k l,qBN g=some (k,l) /\ j<l.length:=h1
  rw[hg] at hg'
  cases hg'
  obtain⟨⟨arr,t',fr,c2,c3⟩,_⟩:=hh.fix g k l hg
  have hrun:=qJN (P:=P) (w:=w) (b:=g) (off:=j) hL (vs:=[.int k (l.getD j 0)]) rfl fun i u hu=>by
   cases i with
   | succ i=>simp at hu
   | zero=>
     simp only[List.getElem?_cons_zero,Option.some.injEq] at hu
     subst hu
     simp only[World.cell?,c2,Nat.add_zero]
     rw[<- Array.getElem?_toList,c3,List.getElem?_map,List.getElem?_eq_getElem hj,List.getD_eq_getElem?_getD,List.getElem?_eq_getElem hj]
     rfl
  refine⟨.int k (l.getD j 0),?_,rfl,qhX hg hj⟩
  simp only[execOp,ho,c6,Instr.loadAt,Instr.sureAddr,Sem.run_bind,Sem.run_pure,Result.andThen_ok,hrun]
  rfl
theorem qk3 {x y:Operand} {t e:TypeId} {n m:Nat} {tg:SegT} {ob sg r lim col:Nat} {k:IntKind} {j:Int} (hL:LayOK P tab t (.ar n m e tg))
  (ho:o.op=.indexAddr t x y) (hx:ev ρ x=.s (.ptr ob sg (some (r,lim)) col)) (hy:ev ρ y=.s (.i k j)) (hj:inB j n=true) (hw:qDS (h.get ob) sg=1) (hlim:n*m<=lim)
  (htw:tg.shp.width=1):qQ P o ρ h nx (.s (.ptr ob sg (some (r+j.toNat*m,m)) col)) [] nx:=
 qQ.pure fun nm w a hr _=>by
  obtain⟨wd,n0,hsh,hwd⟩:=qdb (x:=h.get ob) (sg:=sg) (k:=0) (by omega)
  have hm:=qbv hsh
  have h1:=hr x (by simp[ho,Op.operands])
  rw[hx] at h1
  have h1':=hr y (by simp[ho,Op.operands])
  rw[hy] at h1'
  obtain⟨h1',_⟩:=qBl h1'
  obtain⟨h2,⟨h3,w',n',g1,g2,g3⟩,b,off,cap,h4,h5⟩:=(qBT (e:=⟨nm,h,nx⟩) hm).1 h1
  have g1:(qU (h.get ob).segs)[sg]? = some (.tbl w' n'):=g1
  rw[hsh] at g1
  cases g1
  rw[hw] at hwd
  subst hwd
  obtain⟨_,hm0,_,_,_⟩:=hL.desc
  have hj':=hj
  simp only[inB,Bool.and_eq_true,decide_eq_true_eq] at hj'
  have hjn:j.toNat*m+m<=n*m:=by
   have:j.toNat+1<=n:=by omega
   have:=Nat.mul_le_mul_right m this
   rw[Nat.add_mul] at this;omega
  refine⟨_,by simp only[execOp,ho,h5,h1',Sem.run_bind,qL1 hL w b _ k hj,Result.andThen_ok];rfl,
   (qBT (e:=⟨nm,h,nx⟩) hm).2 ⟨h2,⟨hm0,_,_,hsh,by omega,g3⟩,b,off,cap,h4,?_⟩⟩
  rw[htw]
  simp only[qX,hsh,Option.map_some,Option.getD_some,Shp.width,Nat.mul_one]
  congr 3
  omega
theorem qo0 {g:Option Seg} {col n:Nat} {t:SegT} (h:qD4 g col n t=true):∃ ks nn xs k n1,g=some (.rows ks nn xs) /\ t=.arr k n1 /\ col+n<=ks.length:=by
 unfold qD4 at h
 split at h
 ·refine⟨_,_,_,_,_,rfl,rfl,?_⟩
  split at h
  ·simp only[Bool.and_eq_true,Nat.ble_eq] at h;exact h.2
  ·cases h
 ·cases h
theorem qk0 {x y:Operand} {t e:TypeId} {n m:Nat} {tg:SegT} {ob sg r lim col:Nat} {k:IntKind} {j:Int} (hL:LayOK P tab t (.ar n m e tg))
  (ho:o.op=.indexAddr t x y) (hx:ev ρ x=.s (.ptr ob sg (some (r,lim)) col)) (hy:ev ρ y=.s (.i k j)) (hj:inB j n=true) (hw:qD4 ((h.get ob).segs[sg]?) col (n*m) tg=true):
  qQ P o ρ h nx (.s (.ptr ob sg (some (r,lim)) (col+j.toNat*m))) [] nx:=
 qQ.pure fun nm w a hr _=>by
   obtain⟨ks,nn,xs,k1,n1,hg,rfl,hle⟩:=qo0 hw
   have hm:=qPh hg
   have h1:=hr x (by simp[ho,Op.operands])
   rw[hx] at h1
   have h1':=hr y (by simp[ho,Op.operands])
   rw[hy] at h1'
   obtain⟨h1',_⟩:=qBl h1'
   obtain⟨h2,⟨h3,w',n',g1,g2,g3⟩,b,off,cap,h4,h5⟩:=(qBT (e:=⟨nm,h,nx⟩) hm).1 h1
   have g1:(qU (h.get ob).segs)[sg]? = some (.tbl w' n'):=g1
   have g1':=g1
   rw[qAM hg] at g1'
   simp[Seg.shp] at g1'
   obtain⟨rfl,rfl⟩:=g1'
   obtain⟨_,hm0,_,_,_⟩:=hL.desc
   have hj':=hj
   simp only[inB,Bool.and_eq_true,decide_eq_true_eq] at hj'
   have hjn:j.toNat*m+m<=n*m:=by
    have:j.toNat+1<=n:=by omega
    have:=Nat.mul_le_mul_right m this
    rw[Nat.add_mul] at this;omega
   refine⟨_,by simp only[execOp,ho,h5,h1',Sem.run_bind,qL1 hL w b _ k hj,Result.andThen_ok];rfl,
    (qBT (e:=⟨nm,h,nx⟩) hm).2 ⟨h2,⟨h3,_,_,g1,g2,by omega⟩,b,off,cap,h4,?_⟩⟩
   simp only[qX,g1,Option.map_some,Option.getD_some,Shp.width,SegT.shp,Nat.mul_one]
   congr 3
   omega
end
def qCX (hp:Hp) (a b:Nat):Prop:=∀ q,(hp.lookup q=none /\ ¬(a<=q /\ q<b)) \/ (a<=q /\ q<b /\ ∃ e g,hp.lookup q=some (.sli e false g) /\ g.ok /\ g.shp.rows=0)
theorem qVD {L:Option Lay} {g:Seg} (h:qz L=some g):g.ok /\ g.shp.rows=0:=by
 unfold qz at h
 split at h<;>try cases h
 ·exact⟨⟨rfl,fun x hx=>by cases hx⟩,rfl⟩
 ·exact⟨rfl,rfl⟩
 ·exact⟨⟨rfl,fun x hx=>by cases hx⟩,rfl⟩
 ·split at h<;>cases h
  exact⟨⟨rfl,fun x hx=>by cases hx⟩,rfl⟩
theorem qPd (a b:Hp) (q:Nat):(a++b).lookup q=match a.lookup q with
  | some x=>some x
  | none=>b.lookup q:=by
 induction a with
 | nil=>rfl
 | cons p a ih=>
   obtain⟨k,x⟩:=p
   simp only[List.cons_append,List.lookup]
   cases hq:q==k with
   | true=>rfl
   | false=>exact ih
theorem qCX.nil (a:Nat):qCX [] a a:=fun q=>.inl ⟨rfl,by omega⟩
theorem qCX.append {x y:Hp} {a b c:Nat} (h1:qCX x a b) (h2:qCX y b c) (hab:a<=b) (hbc:b<=c):qCX (x++y) a c:=by
 intro q
 rw[qPd]
 rcases h1 q with⟨e1,n1⟩ | ⟨i1,i2,e,g,e1,r⟩
 ·rw[e1]
  rcases h2 q with⟨e2,n2⟩ | ⟨j1,j2,e,g,e2,r⟩
  ·exact .inl ⟨e2,by omega⟩
  ·exact .inr ⟨by omega,j2,e,g,e2,r⟩
 ·rw[e1]
  exact .inr ⟨i1,by omega,e,g,rfl,r⟩
def qJ3 (e:Env) (hp:Hp) (a b:Nat):Prop:=∀ q,a<=q->q<b->q<e.nx /\ e.nm q=none /\ e.h.get q=(hp.lookup q).getD .dead
theorem qrY {tab:Tab}:∀ {ks:List Kd} {a b:Nat} {l:List S} {hp:Hp},qB1 tab ks a=some (l,hp,b)->
  a<=b /\ qCX hp a b /\ l.length=ks.length /\ ∀ e:Env,qJ3 e hp a b->qB (qI e) l (ks.map qJ0):=by
 intro ks
 induction ks with
 | nil=>
   intro a b l hp h
   simp[qB1] at h
   obtain⟨rfl,rfl,rfl⟩:=h
   exact⟨Nat.le_refl _,qCX.nil _,rfl,fun e _=>trivial⟩
 | cons k ks ih=>
   intro a b l hp h
   have plain:∀ (x:S),(match (some x:Option S),qB1 tab ks a with
     | some x,some (l,h,nx')=>some (x :: l,h,nx')
     | _,_=>none)=some (l,hp,b)->(∀ e,qI e x (qJ0 k))->
     a<=b /\ qCX hp a b /\ l.length=(k :: ks).length /\ ∀ e:Env,qJ3 e hp a b->qB (qI e) l ((k :: ks).map qJ0):=by
    intro x hx hr
    split at hx<;>simp at hx
    rename_i x' l' h' nx' e1 e2
    cases e1
    obtain⟨rfl,rfl,rfl⟩:=hx
    obtain⟨i1,i2,i3,i4⟩:=ih e2
    exact⟨i1,i2,by simp[i3],fun e he=>⟨hr e,i4 e he⟩⟩
   cases k with
   | sl e'=>
     simp only[qB1] at h
     split at h<;>simp at h
     rename_i g l' h' nx' e1 e2
     obtain⟨rfl,rfl,rfl⟩:=h
     obtain⟨i1,i2,i3,i4⟩:=ih e2
     obtain⟨g1,g2⟩:=qVD e1
     refine⟨by omega,fun q=>?_,by simp[i3],fun e he=>⟨?_,i4 e fun q hq hq'=>?_⟩⟩
     ·by_cases hqa:q=a
      ·subst hqa
       exact .inr ⟨Nat.le_refl _,by omega,e',g,by simp[List.lookup],g1,g2⟩
      ·have hne:(q==a)=false:=by rw[beq_eq_false_iff_ne];exact hqa
       simp only[List.lookup,hne]
       rcases i2 q with⟨e3,n3⟩ | ⟨j1,j2,r⟩
       ·exact .inl ⟨e3,by omega⟩
       ·exact .inr ⟨by omega,j2,r⟩
     ·obtain⟨n1,n2,n3⟩:=he a (Nat.le_refl _) (by omega)
      simp only[List.lookup,beq_self_eq_true,Option.getD_some] at n3
      refine⟨n1,?_⟩
      rw[n3]
      simp only[Obj.shape,qAB,n2]
      exact⟨trivial,trivial,rfl⟩
     ·obtain⟨n1,n2,n3⟩:=he q (by omega) hq'
      have hne:(q==a)=false:=by rw[beq_eq_false_iff_ne];omega
      simp only[List.lookup,hne] at n3
      exact⟨n1,n2,n3⟩
   | i k=>exact plain _ h fun e=>⟨rfl,by cases k<;>rfl⟩
   | b=>exact plain _ h fun e=>rfl
   | str=>exact plain _ h fun e=>rfl
   | p=>exact plain _ h fun e=>rfl
   | m=>exact plain _ h fun e=>rfl
   | f=>simp[qB1] at h
theorem qhC (ks:List CK) (n:Nat) (e:Env):qB (qI e) ((List.replicate n (List.replicate ks.length (0:Int))).flatMap (mks ks)) (List.replicate n (ks.map fun c=>match c with
  | .i k=>Value.int k 0
  | .b=>.bool false
  | .s=>.string ByteArray.empty)).flatten:=by
 have one:∀ ks:List CK,qB (qI e) (mks ks (List.replicate ks.length 0)) (ks.map fun c=>match c with
   | .i k=>Value.int k 0
   | .b=>.bool false
   | .s=>.string ByteArray.empty):=by
  intro ks
  induction ks with
  | nil=>trivial
  | cons c ks ih=>
    simp only[List.length_cons,List.replicate_succ,mks,List.headD_cons,List.tail_cons,List.map_cons]
    refine⟨?_,ih⟩
    cases c with
    | i k=>exact⟨rfl,by cases k<;>rfl⟩
    | b=>rfl
    | s=>rfl
 induction n with
 | zero=>trivial
 | succ n ih=>
   simp only[List.replicate_succ,List.flatMap_cons,List.flatten_cons]
   exact qB.append (one ks) ih
theorem qMW {tab:Tab}:∀ {ts:List SegT} {a b:Nat} {l:List Seg} {hp:Hp},qAd tab ts a=some (l,hp,b)->
  a<=b /\ qCX hp a b /\ oks l /\ qU l=ts.map SegT.shp /\ ∀ e:Env,qJ3 e hp a b->qB (qI e) (qc l) (ts.flatMap SegT.zeros):=by
 intro ts
 induction ts with
 | nil=>
   intro a b l hp h
   simp[qAd] at h
   obtain⟨rfl,rfl,rfl⟩:=h
   exact⟨Nat.le_refl _,qCX.nil _,qCT,rfl,fun e _=>trivial⟩
 | cons t ts ih=>
   intro a b l hp h
   cases t with
   | one ks=>
     simp only[qAd] at h
     split at h<;>try cases h
     rename_i vs h1 m e1
     split at h<;>try cases h
     rename_i l' h2 m' e2
     obtain⟨i1,i2,i3,i4⟩:=qrY e1
     obtain⟨j1,j2,j3,j4,j5⟩:=ih e2
     refine⟨by omega,i2.append j2 i1 j1,qAV.2 ⟨trivial,j3⟩,by simp[Seg.shp,SegT.shp,i3,j4],fun e he=>?_⟩
     simp only[flats_cons,List.flatMap_cons]
     refine qB.append (i4 e fun q hq hq'=>?_) (j5 e fun q hq hq'=>?_)
     ·obtain⟨n1,n2,n3⟩:=he q hq (by omega)
      rw[qPd] at n3
      rcases i2 q with⟨_,n⟩ | ⟨_,_,e0,g,e3,_⟩
      ·omega
      ·rw[e3] at n3 ⊢;exact⟨n1,n2,n3⟩
     ·obtain⟨n1,n2,n3⟩:=he q (by omega) hq'
      rw[qPd] at n3
      rcases i2 q with⟨e3,_⟩ | ⟨_,_,_⟩
      ·rw[e3] at n3;exact⟨n1,n2,n3⟩
      ·omega
   | arr k n=>
     simp only[qAd] at h
     split at h<;>try cases h
     rename_i l' e2
     obtain⟨j1,j2,j3,j4,j5⟩:=ih e2
     have hw:k.wrap 0=0:=by cases k<;>rfl
     refine⟨j1,j2,qAV.2 ⟨⟨by simp,fun x hx=>by rw[List.eq_of_mem_replicate hx];exact hw⟩,j3⟩,by simp[Seg.shp,SegT.shp,j4],fun e he=>?_⟩
     simp only[flats_cons,List.flatMap_cons]
     refine qB.append ?_ (j5 e he)
     simp only[Seg.flat,SegT.zeros,List.map_replicate]
     clear e2 ih j5 he
     induction n with
     | zero=>trivial
     | succ n ih=>simp only[List.replicate_succ];exact⟨⟨rfl,hw⟩,ih⟩
   | barr n=>
     simp only[qAd] at h
     split at h<;>try cases h
     rename_i l' e2
     obtain⟨j1,j2,j3,j4,j5⟩:=ih e2
     refine⟨j1,j2,qAV.2 ⟨by simp[Seg.ok],j3⟩,by simp[Seg.shp,SegT.shp,j4],fun e he=>?_⟩
     simp only[flats_cons,List.flatMap_cons]
     refine qB.append ?_ (j5 e he)
     simp only[Seg.flat,SegT.zeros,List.map_replicate]
     clear e2 ih j5 he
     induction n with
     | zero=>trivial
     | succ n ih=>simp only[List.replicate_succ];exact⟨rfl,ih⟩
   | rows ks n=>
     simp only[qAd] at h
     split at h<;>try cases h
     rename_i l' e2
     obtain⟨j1,j2,j3,j4,j5⟩:=ih e2
     refine⟨j1,j2,qAV.2 ⟨⟨by simp,fun r hr=>?_⟩,j3⟩,by simp[Seg.shp,SegT.shp,j4],fun e he=>?_⟩
     ·rw[List.eq_of_mem_replicate hr]
      clear e2 ih j5 hr
      induction ks with
      | nil=>trivial
      | cons c ks ih=>exact⟨by cases c with | i k=>exact (by cases k<;>rfl:k.wrap 0=0) | b=>exact .inl rfl | s=>rfl,ih⟩
     ·simp only[flats_cons,List.flatMap_cons]
      exact qB.append (qhC ks n e) (j5 e he)
section
variable {P:Program} {o:Oper} {ρ:Rg} {h:Hp} {nx:Nat} {tab:Tab}
theorem qYb {t:TypeId} {L:Lay} {l:List Seg} {hp:Hp} {nx':Nat} (hL:LayOK P tab t L) (ho:o.op=.alloc t) (hz:qAd tab L.segTs (nx+1)=some (l,hp,nx')):
  qQ P o ρ h nx (.s (.ptr nx 0 none 0)) ((nx,.cells t l) :: hp) nx':=by
 intro nm w a _ hh N Q hN
 obtain⟨i,z,hi,_,hzz,hzc⟩:=hL.info
 obtain⟨z1,z2,z3,_,z5⟩:=qMW hz
 let nm':Nm:=fun q=>if q=nx then some (w.heap.size,0,0) else if q<nx then nm q else none
 let e':Env:=⟨nm',((nx,.cells t l) :: hp)++h,nx'⟩
 have hl0:List.lookup nx ((nx,Obj.cells t l) :: hp)=some (.cells t l):=by simp[List.lookup]
 have hl1:∀ q,q≠nx->List.lookup q ((nx,Obj.cells t l) :: hp)=hp.lookup q:=fun q hq=>by simp[List.lookup,beq_eq_false_iff_ne.2 hq]
 have hlow:∀ q,q<nx+1->hp.lookup q=none:=fun q hq=>by
  rcases z2 q with⟨e1,_⟩ | ⟨e1,_,_⟩
  ·exact e1
  ·omega
 have hhigh:∀ q,nx'<=q->hp.lookup q=none:=fun q hq=>by
  rcases z2 q with⟨e1,_⟩ | ⟨_,e1,_⟩
  ·exact e1
  ·omega
 have hrel:=qJF (e:=⟨nm,h,nx⟩) (w:=w) (w':=w.alloc (.cells z.cells t)) (up:=(nx,.cells t l) :: hp) (nm':=nm') (nx':=nx') hh (by show nx<=nx';omega)
  (fun q hq=>⟨by have hq:q<nx:=hq;rw[hl1 q (by omega)];exact hlow q (by omega),by have hq:q<nx:=hq;simp only[nm'];rw[if_neg (by omega),if_pos hq]⟩)
  (fun q hq=>by rw[hl1 q (by omega)];exact hhigh q hq)
  (fun q hq hq'=>by
   have hq:nx<=q:=hq
   by_cases e1:q=nx
   ·subst e1
    have hg:e'.h.get q=.cells t l:=by show Hp.get (_++h) q=_;rw[qm,hl0]
    have hnq:e'.nm q=some (w.heap.size,0,0):=by simp[e',nm']
    show qG e' _ q
    unfold qG
    rw[hg]
    refine⟨z3,w.heap.size,z.cells,hnq,heap_alloc_new w _,?_⟩
    rw[hzc]
    refine z5 e' fun r hr hr'=>⟨by show r<nx';omega,by simp only[e',nm'];rw[if_neg (by omega),if_neg (by omega)],?_⟩
    show Hp.get (_++h) r=_
    rw[qm,hl1 r (by omega)]
    rcases z2 r with⟨_,n⟩ | ⟨_,_,e0,g,e3,_⟩
    ·omega
    ·rw[e3];rfl
   ·have hnq:e'.nm q=none:=by simp only[e',nm'];rw[if_neg e1,if_neg (by omega)]
    rcases z2 q with⟨_,n⟩ | ⟨_,_,e0,g,e3,g1,g2⟩
    ·omega
    ·have hg:e'.h.get q=.sli e0 false g:=by show Hp.get (_++h) q=_;rw[qm,hl1 q e1,e3]
     show qG e' _ q
     unfold qG
     rw[hg,hnq]
     exact⟨g1,g2⟩)
  (fun q x hq hx=>by
   have hq:nx<=q:=hq
   simp only[Has,nm'] at hx
   by_cases e1:q=nx
   ·subst e1;rw[if_pos rfl] at hx;have:=qDB hx (by unfold big;omega);exact⟨rfl,by omega⟩
   ·rw[if_neg e1,if_neg (by omega)] at hx;cases hx)
  (fun k hk=>by simp only[World.alloc,Array.getElem?_push,Nat.ne_of_lt hk,if_false]) rfl rfl rfl (by simp)
 unfold Oper.wp
 have hrun:(execOp a.eval o).run P w=.ok (.value (.pointer (some ⟨w.heap.size,0,none⟩))) (w.alloc (.cells z.cells t)):=by
  simp[execOp,ho,Instr.alloc,zeroValue,typeInfo,hi,hzz,newVar,newRow]
 rw[hrun]
 refine hN _ nm' _ ?_ hrel.1 hrel.2.1 hrel.2.2
 refine (qBT (e:=e') ?_).2 ⟨by show nx<nx';omega,trivial,w.heap.size,0,0,by simp[e',nm'],?_⟩
 ·show (Hp.get (_++h) nx).isMem=true
  rw[qm,hl0];rfl
 ·simp[qX,qp]
end
def CKv (c:CK) (v:Value):Prop:=match c with
 | .i k=>∃ n,v=.int k n
 | .b=>∃ x,v=.bool x
 | .s=>∃ x,v=.string x
def ceq:List Value->List Value->Bool
 | .int _ a :: r,.int _ b :: s=>(a==b)&&ceq r s
 | .bool a :: r,.bool b :: s=>(a==b)&&ceq r s
 | .string a :: r,.string b :: s=>(a==b)&&ceq r s
 | [],[]=>true
 | _,_=>false
theorem qIp:∀ {ck:List CK} {a b c d:List Value},qB CKv ck a->qB CKv ck b->ceq (a++c) (b++d)=(ceq a b&&ceq c d):=by
 intro ck
 induction ck with
 | nil=>
   intro a b c d ha hb
   cases a with
   | cons _ _=>exact ha.elim
   | nil=>cases b with
     | cons _ _=>exact hb.elim
     | nil=>simp[ceq]
 | cons k ck ih=>
   intro a b c d ha hb
   cases a with
   | nil=>exact ha.elim
   | cons x a=>cases b with
     | nil=>exact hb.elim
     | cons y b=>
       have h:=ih (c:=c) (d:=d) ha.2 hb.2
       cases k with
       | i k=>
         obtain⟨n,rfl⟩:=ha.1
         obtain⟨m,rfl⟩:=hb.1
         simp only[List.cons_append,ceq,h,Bool.and_assoc]
       | b=>
         obtain⟨n,rfl⟩:=ha.1
         obtain⟨m,rfl⟩:=hb.1
         simp only[List.cons_append,ceq,h,Bool.and_assoc]
       | s=>
         obtain⟨n,rfl⟩:=ha.1
         obtain⟨m,rfl⟩:=hb.1
         simp only[List.cons_append,ceq,h,Bool.and_assoc]
def qFz (g:TypeId->Option (List CK)):List Field->Nat->Option (List CK)
 | [],_=>some []
 | f :: r, off => match g f.type, decide (f.name ≠ "_" /\ f.offset = off) with
   | some l,true=>match qFz g r (off+l.length) with
     | some m=>some (l++m)
     | none=>none
   | _,_=>none
def qG9 (P:Program) (g:TypeId->Option (List CK)) (t:TypeId):Option (List CK):=match P.underlying t with
 | some .bool=>some [CK.b]
 | some (.int k)=>some [.i k]
 | some .string=>some [.s]
 | some (.array n e)=>match g e with
   | some l=>some (List.replicate n l).flatten
   | none=>none
 | some (.struct fs)=>match P.stoodInHeld t with
   | true=>none
   | false=>qFz g fs.toList 0
 | _=>none
def qA8 (P:Program):Nat->TypeId->Option (List CK)
 | 0,_=>none
 | f + 1,t=>match qG9 P (qA8 P f) t,P.info? t with
   | some l,some i=>match decide (i.size=l.length) with
     | true=>some l
     | false=>none
   | _,_=>none
def qAn (P:Program) (t:TypeId):Bool:=match P.underlying t with
 | some (.struct _)=>true
 | some (.array _ _)=>true
 | _=>false
def mkV (P:Program) (t:TypeId) (xs:List Value):Value:=match qAn P t with
 | true=>.agg xs.toArray
 | false=>xs.headD undef
theorem qIT {P:Program} {f:Nat} {t:TypeId} {ck:List CK} (h:qA8 P f t=some ck):∃ f',f=f'+1 /\ qG9 P (qA8 P f') t=some ck /\ ∃ i,P.info? t=some i /\ i.size=ck.length:=by
 cases f with
 | zero=>cases h
 | succ f=>
   refine⟨f,rfl,?_⟩
   unfold qA8 at h
   split at h<;>try cases h
   rename_i l i hl hi
   split at h<;>cases h
   rename_i hd
   exact⟨hl,i,hi,by simpa using hd⟩
theorem qH8 {P:Program} {f:Nat} {t:TypeId} {ck:List CK} (h:qA8 P f t=some ck) (w:World) (cs:List Value) (off:Nat) (hl:off+ck.length<=cs.length):
  (part t cs.toArray off).run P w=.ok (mkV P t (sub cs off ck.length)) w:=by
 obtain⟨f,rfl,hc,i,hi,hs⟩:=qIT h
 have hu:∃ d,P.underlying t=some d /\ (qAn P t=true \/ ck.length=1):=by
  unfold qG9 at hc
  cases hd:P.underlying t with
  | none=>rw[hd] at hc;cases hc
  | some d=>
    refine⟨d,rfl,?_⟩
    rw[hd] at hc
    unfold qAn
    rw[hd]
    cases d<;>simp only at hc ⊢ <;> first | exact .inl trivial | (cases hc;exact .inr rfl) | cases hc
 obtain⟨d,hd,hk⟩:=hu
 have hag:(isAgg t).run P w=.ok (qAn P t) w:=by
  unfold isAgg qAn
  rw[Sem.run_bind,run_underlying hd,hd]
  cases d<;>rfl
 unfold part mkV
 rw[Sem.run_bind,hag,Result.andThen_ok]
 cases ha:qAn P t with
 | true=>
   have he:cs.toArray.extract off (off+ck.length)=(sub cs off ck.length).toArray:=by
    apply Array.ext'
    rw[Array.toList_extract]
    simp only[sub,List.take_drop]
    rw[show off+(off+ck.length - off)=off+ck.length by omega]
   simp only[if_true,Sem.run_bind,sizeOf,typeInfo,run_program,hi,Result.andThen_ok,Sem.run_pure,hs,he]
 | false=>
   have h1:ck.length=1:=by
    rcases hk with hk | hk
    ·rw[hk] at ha;cases ha
    ·exact hk
   have hlt:off<cs.length:=by omega
   simp only[Bool.false_eq_true,if_false]
   have hg:cs.toArray[off]? = some cs[off]:=by simp[hlt]
   have hsub:sub cs off ck.length=[cs[off]]:=by rw[h1];exact qGk (List.getElem?_eq_getElem hlt)
   rw[hg,hsub]
   rfl
theorem qKT {α:Type} (l:List α) (a n:Nat):l.drop a=sub l a n++l.drop (a+n):=by
 unfold sub
 rw[<- List.drop_drop,List.take_append_drop]
theorem qGn {α β:Type} {R:α->β->Prop} {pre a post:List α} {m:List β} (h:qB R (pre++(a++post)) m):qB R a (sub m pre.length a.length) /\ qB R post (m.drop (pre.length+a.length)) /\ pre.length+a.length+post.length=m.length:=by
 have h1:=qB.drop pre.length h
 rw[List.drop_left] at h1
 have h2:=qB.take a.length h1
 rw[List.take_left] at h2
 have h3:=qB.drop a.length h1
 rw[List.drop_left,List.drop_drop] at h3
 have h4:=qB.length h
 simp at h4
 exact⟨h2,h3,by omega⟩
theorem qdN (s:ByteArray):s.toList=s.data.toList:=ByteArray.toList_eq s
theorem qrG (s t:ByteArray):(s.toList==t.toList)=(s==t):=by
 rw[qMv,qdN,qdN]
 cases s;cases t
 rw[Bool.eq_iff_iff]
 simp
theorem qVG {P:Program}:∀ (f:Nat) (t:TypeId) (ck:List CK),qA8 P f t=some ck->∀ (d:Nat),f<=d->∀ (xs ys:List Value),qB CKv ck xs->qB CKv ck ys->∀ w:World,
  (Op.equalIn d t (mkV P t xs) (mkV P t ys)).run P w=.ok (ceq xs ys) w:=by
 intro f
 induction f with
 | zero=>intro t ck h;cases h
 | succ f ih=>
   intro t ck h d hd xs ys hx hy w
   obtain⟨d,rfl⟩:∃ m,d=m+1:=⟨d - 1,by omega⟩
   obtain⟨f',e1,hc,i,hi,hs⟩:=qIT h
   cases e1
   unfold qG9 at hc
   unfold mkV qAn
   cases hu:P.underlying t with
   | none=>rw[hu] at hc;cases hc
   | some desc=>
     rw[hu] at hc
     cases desc<;>simp only at hc<;>try cases hc
     ·match xs,ys,hx,hy with
      | [x],[y],hx,hy=>
        obtain⟨a,rfl⟩:=hx.1
        obtain⟨b,rfl⟩:=hy.1
        simp only[List.headD_cons]
        rw[run_equalIn_bool' w d t a b hu]
        simp[ceq]
     ·match xs,ys,hx,hy with
      | [x],[y],hx,hy=>
        obtain⟨a,rfl⟩:=hx.1
        obtain⟨b,rfl⟩:=hy.1
        simp only[List.headD_cons]
        rw[run_equalIn_int w d t _ _ a b hu]
        simp[ceq]
     ·match xs,ys,hx,hy with
      | [x],[y],hx,hy=>
        obtain⟨a,rfl⟩:=hx.1
        obtain⟨b,rfl⟩:=hy.1
        simp only[List.headD_cons]
        rw[run_equalIn_string w d t a b hu]
        simp[ceq,qrG]
     ·rename_i n e
      split at hc<;>cases hc
      rename_i le hle
      obtain⟨_,_,_,ie,hie,hse⟩:=qIT hle
      simp only
      rw[run_equalIn_array w d xs.toArray ys.toArray hu hie]
      have hco:P.cellsOf e=le.length:=by simp[Program.cellsOf,hie,hse]
      rw[hco]
      have key:∀ (m i:Nat) (pre:List CK),i+m=n->pre.length=i*le.length->(List.replicate n le).flatten=pre++(List.replicate m le).flatten->
        (Op.eqItems d e le.length xs.toArray ys.toArray (List.range' i m)).run P w=.ok (ceq (xs.drop (i*le.length)) (ys.drop (i*le.length))) w:=by
       intro m
       induction m with
       | zero=>
         intro i pre him hp he
         have h1:xs.drop (i*le.length)=[]:=List.drop_eq_nil_of_le (by
          have:=qB.length hx;rw[he] at this;simp at this;omega)
         have h2:ys.drop (i*le.length)=[]:=List.drop_eq_nil_of_le (by
          have:=qB.length hy;rw[he] at this;simp at this;omega)
         simp[Op.eqItems,h1,h2,ceq]
       | succ m ihm=>
         intro i pre him hp he
         have he':=he
         rw[List.replicate_succ,List.flatten_cons] at he'
         rw[he'] at hx hy
         obtain⟨x1,x2,x3⟩:=qGn hx
         obtain⟨y1,y2,y3⟩:=qGn hy
         rw[hp] at x1 x2 x3 y1 y2 y3
         have hnext:=ihm (i+1) (pre++le) (by omega) (by rw[List.length_append,hp,Nat.add_mul];omega) (by rw[he',List.append_assoc])
         simp only[List.range'_succ,Op.eqItems,Sem.run_bind,qH8 hle w xs (i*le.length) (by omega),qH8 hle w ys (i*le.length) (by omega),Result.andThen_ok,
          ih e le hle d (by omega) _ _ x1 y1 w]
         rw[qKT xs (i*le.length) le.length,qKT ys (i*le.length) le.length,qIp x1 y1]
         cases hq:ceq (sub xs (i*le.length) le.length) (sub ys (i*le.length) le.length) with
         | false=>simp
         | true=>
           simp only[Bool.not_true,Bool.false_eq_true,if_false,Bool.true_and]
           rw[hnext]
           congr 3<;>rw[Nat.add_mul,Nat.one_mul]
      have:=key n 0 [] (by omega) (by simp) (by simp)
      simpa[List.range_eq_range'] using this
     ·rename_i fs
      split at hc<;>try cases hc
      rename_i hst
      have hfs:P.fieldsOf t=fs:=by simp[Program.fieldsOf,hu]
      rw[run_equalIn_struct w d t _ _ (by rw[hfs];exact hu) hst,hfs]
      have key:∀ (l:List Field) (off:Nat) (pre post:List CK),qFz (qA8 P f) l off=some post->pre.length=off->ck=pre++post->
        (Op.eqFields d xs.toArray ys.toArray l).run P w=.ok (ceq (xs.drop off) (ys.drop off)) w:=by
       intro l
       induction l with
       | nil=>
         intro off pre post hl hp he
         simp[qFz] at hl
         subst hl
         have h1:xs.drop off=[]:=List.drop_eq_nil_of_le (by have:=qB.length hx;rw[he] at this;simp at this;omega)
         have h2:ys.drop off=[]:=List.drop_eq_nil_of_le (by have:=qB.length hy;rw[he] at this;simp at this;omega)
         simp[Op.eqFields,h1,h2,ceq]
       | cons fd l ihl=>
         intro off pre post hl hp he
         simp only[qFz] at hl
         split at hl<;>try cases hl
         rename_i le hle hdec
         split at hl<;>cases hl
         rename_i m hm
         simp only[decide_eq_true_eq] at hdec
         obtain⟨hn,hof⟩:=hdec
         rw[he] at hx hy
         obtain⟨x1,x2,x3⟩:=qGn hx
         obtain⟨y1,y2,y3⟩:=qGn hy
         rw[hp] at x1 x2 x3 y1 y2 y3
         have hnext:=ihl (off+le.length) (pre++le) m hm (by simp[hp]) (by rw[he,List.append_assoc])
         simp only[Op.eqFields,hn,ne_eq,not_false_eq_true,if_true,Sem.run_bind,hof,qH8 hle w xs off (by omega),qH8 hle w ys off (by omega),Result.andThen_ok,
          ih fd.type le hle d (by omega) _ _ x1 y1 w]
         rw[qKT xs off le.length,qKT ys off le.length,qIp x1 y1]
         cases hq:ceq (sub xs off le.length) (sub ys off le.length) with
         | false=>simp
         | true=>
           simp only[Bool.not_true,Bool.false_eq_true,if_false,Bool.true_and]
           exact hnext
      have:=key fs.toList 0 [] ck hc rfl rfl
      simpa using this
def qBJ:List SegT->Option (List CK)
 | []=>some []
 | t :: r=>match (match t with
   | .one ks=>kcks? ks
   | .arr k n=>some (List.replicate n (.i k))
   | .barr n=>some (List.replicate n .b)
   | .rows ks n=>some (List.replicate n ks).flatten),qBJ r with
   | some a,some b=>some (a++b)
   | _,_=>none
theorem qlX {e : Env}:∀ {a b:List S} {ks:List Kd} {xs ys:List Value} {z:Bool},qB4 a ks=true->qB4 b ks=true->ones? a b=some z->qB (qI e) a xs->qB (qI e) b ys->
  ∃ ck,kcks? ks=some ck /\ qB CKv ck xs /\ qB CKv ck ys /\ ceq xs ys=z:=by
 intro a
 induction a with
 | nil =>
   intro b ks xs ys z h1 h2 h3 h4 h5
   cases ks with
   | cons _ _=>simp[qB4] at h1
   | nil => cases b with
     | cons _ _=>simp[qB4] at h2
     | nil=>
       cases xs with
       | cons _ _=>exact h4.elim
       | nil=>cases ys with
         | cons _ _=>exact h5.elim
         | nil=>simp[ones?] at h3;subst h3;exact⟨[],rfl,trivial,trivial,rfl⟩
 | cons s a ih =>
   intro b ks xs ys z h1 h2 h3 h4 h5
   cases b with
   | nil=>cases a<;>simp[ones?] at h3
   | cons s' b =>
     cases ks with
     | nil=>simp[qB4] at h1
     | cons k ks =>
       cases xs with
       | nil=>exact h4.elim
       | cons x xs=>cases ys with
         | nil=>exact h5.elim
         | cons y ys=>
           have hz:∃ z1 z2,s.eq? s'=some z1 /\ ones? a b=some z2 /\ z=(z1&&z2):=by
            cases a with
            | nil=>cases b with
              | nil=>simp only[ones?] at h3;exact⟨z,true,h3,rfl,by simp⟩
              | cons _ _=>
                exfalso
                have a1:ks=[]:=by cases ks with
                 | nil=>rfl
                 | cons _ _=>cases s<;>cases k<;>simp[qB4] at h1
                subst a1
                cases s'<;>cases k<;>simp[qB4] at h2
            | cons s2 a=>
              cases b with
              | nil=>
                exfalso
                simp only[ones?] at h3
                split at h3
                ·rename_i heq;simp at heq
                ·cases h3
              | cons s3 b=>
                simp only[ones?] at h3
                split at h3<;>cases h3
                rename_i z1 z2 e1 e2
                exact⟨z1,z2,e1,by simpa only[ones?] using e2,rfl⟩
           obtain⟨z1,z2,e1,e2,rfl⟩:=hz
           have mk1:∀ (c:CK),k.ck? = some c->qB4 a ks=true->qB4 b ks=true->CKv c x->CKv c y->ceq [x] [y]=z1->
             ∃ ck,kcks? (k :: ks)=some ck /\ qB CKv ck (x :: xs) /\ qB CKv ck (y :: ys) /\ ceq (x :: xs) (y :: ys)=(z1&&z2):=by
            intro c hc ha hb hx hy hq
            obtain⟨ck,c1,c2,c3,c4⟩:=ih ha hb e2 h4.2 h5.2
            refine⟨c :: ck,by simp[kcks?,hc,c1],⟨hx,c2⟩,⟨hy,c3⟩,?_⟩
            have:=qIp (ck:=[c]) (a:=[x]) (b:=[y]) (c:=xs) (d:=ys) ⟨hx,trivial⟩ ⟨hy,trivial⟩
            simp only[List.singleton_append] at this
            rw[this,hq,c4]
           cases s with
           | i k1 n=>
             cases s' with
             | i k2 m=>
               have h1:(k.isInt k1&&qB4 a ks)=true:=by cases k<;>exact h1
               have h2:(k.isInt k2&&qB4 b ks)=true:=by cases k<;>exact h2
               simp only[Bool.and_eq_true] at h1 h2
               obtain⟨p1,p2⟩:=h1
               obtain⟨q1,q2⟩:=h2
               cases k<;>simp[Kd.isInt] at p1 q1
               subst p1;subst q1
               simp[S.eq?] at e1
               exact mk1 (.i _) rfl p2 q2 ⟨n,h4.1.1⟩ ⟨m,h5.1.1⟩ (by rw[h4.1.1,h5.1.1];simp[ceq,e1])
             | _=>simp[S.eq?] at e1
           | b n=>
             cases s' with
             | b m=>
               cases k<;>simp[qB4] at h1 h2
               simp[S.eq?] at e1
               have hx:x=.bool n:=h4.1
               have hy:y=.bool m:=h5.1
               exact mk1 .b rfl h1 h2 ⟨n,hx⟩ ⟨m,hy⟩ (by rw[hx,hy];simp[ceq,e1])
             | _=>simp[S.eq?] at e1
           | _=>simp[S.eq?] at e1
theorem qOs {e:Env} {k:IntKind}:∀ {l:List Int} {xs:List Value},qB (qI e) (l.map (S.i k)) xs->xs=l.map (Value.int k)
 | [],[],_=>rfl
 | _ :: _,_ :: _,h=>by simp[h.1.1,qOs h.2]
 | [],_ :: _,h=>h.elim
 | _ :: _,[],h=>h.elim
theorem qNf {e:Env}:∀ {l:List Bool} {xs:List Value},qB (qI e) (l.map S.b) xs->xs=l.map Value.bool
 | [],[],_=>rfl
 | _ :: _,x :: _,h=>by
   have h1:x=_:=h.1
   simp[h1,qNf h.2]
 | [],_ :: _,h=>h.elim
 | _ :: _,[],h=>h.elim
theorem qUc (k:IntKind):∀ (a b:List Int),a.length=b.length->ceq (a.map (Value.int k)) (b.map (Value.int k))=(a==b)
 | [],[],_=>rfl
 | x :: a,y :: b,h=>by
   simp only[List.map_cons,ceq,qUc k a b (by simpa using h)]
   rfl
 | [],_ :: _,h=>by simp at h
 | _ :: _,[],h=>by simp at h
theorem qUb:∀ (a b:List Bool),a.length=b.length->ceq (a.map Value.bool) (b.map Value.bool)=(a==b)
 | [],[],_=>rfl
 | x :: a,y :: b,h=>by
   simp only[List.map_cons,ceq,qUb a b (by simpa using h)]
   rfl
 | [],_ :: _,h=>by simp at h
 | _ :: _,[],h=>by simp at h
theorem qNn (k:IntKind):∀ (n:Nat) (l:List Int),l.length=n->qB CKv (List.replicate n (.i k)) (l.map (Value.int k))
 | 0,[],_=>trivial
 | n+1,x :: l,h=>⟨⟨x,rfl⟩,qNn k n l (by simpa using h)⟩
 | 0,_ :: _,h=>by simp at h
 | n+1,[],h=>by simp at h
theorem qNm:∀ (n:Nat) (l:List Bool),l.length=n->qB CKv (List.replicate n .b) (l.map Value.bool)
 | 0,[],_=>trivial
 | n+1,x :: l,h=>⟨⟨x,rfl⟩,qNm n l (by simpa using h)⟩
 | 0,_ :: _,h=>by simp at h
 | n+1,[],h=>by simp at h
theorem qRw {e:Env}:∀ {ks:List CK} {r t:List Int} {xs ys:List Value},qq ks r->qq ks t->qB (qI e) (mks ks r) xs->qB (qI e) (mks ks t) ys->
  qB CKv ks xs /\ qB CKv ks ys /\ ceq xs ys=(r==t):=by
 intro ks
 induction ks with
 | nil =>
   intro r t xs ys h1 h2 h3 h4
   cases r with
   | cons _ _=>exact h1.elim
   | nil => cases t with
     | cons _ _=>exact h2.elim
     | nil=>cases xs with
       | cons _ _=>exact h3.elim
       | nil=>cases ys with
         | cons _ _=>exact h4.elim
         | nil=>exact⟨trivial,trivial,rfl⟩
 | cons c ks ih=>
   intro r t xs ys h1 h2 h3 h4
   cases r with
   | nil=>exact h1.elim
   | cons a r => cases t with
     | nil=>exact h2.elim
     | cons b t=>cases xs with
       | nil=>exact h3.elim
       | cons x xs=>cases ys with
         | nil=>exact h4.elim
         | cons y ys=>
           obtain⟨i1,i2,i3⟩:=ih h1.2 h2.2 h3.2 h4.2
           cases c with
           | i k=>
             have hx:x=.int k a:=h3.1.1
             have hy:y=.int k b:=h4.1.1
             subst hx;subst hy
             exact⟨⟨⟨_,rfl⟩,i1⟩,⟨⟨_,rfl⟩,i2⟩,by simp only[ceq,i3];rfl⟩
           | b=>
             have hx:x=.bool (a != 0):=h3.1
             have hy:y=.bool (b != 0):=h4.1
             subst hx;subst hy
             refine⟨⟨⟨_,rfl⟩,i1⟩,⟨⟨_,rfl⟩,i2⟩,?_⟩
             simp only[ceq,i3]
             have e1:((a != 0)==(b != 0))=(a==b):=by
              rcases h1.1 with rfl | rfl<;>rcases h2.1 with rfl | rfl<;>rfl
             rw[e1];rfl
           | s=>
             have hx:x=.string (qBK a):=h3.1
             have hy:y=.string (qBK b):=h4.1
             subst hx;subst hy
             refine⟨⟨⟨_,rfl⟩,i1⟩,⟨⟨_,rfl⟩,i2⟩,?_⟩
             simp only[ceq,i3]
             have q1:qBL (qBK a)=a:=h1.1
             have q2:qBL (qBK b)=b:=h2.1
             have e1:(qBK a==qBK b)=(a==b):=by rw[<- qVE,q1,q2]
             rw[e1];rfl
theorem qbl {e:Env} {ks:List CK}:∀ {a b:List (List Int)} {xs ys:List Value},a.length=b.length->(∀ r∈a,qq ks r)->(∀ r∈b,qq ks r)->
  qB (qI e) (a.flatMap (mks ks)) xs->qB (qI e) (b.flatMap (mks ks)) ys->
  qB CKv (List.replicate a.length ks).flatten xs /\ qB CKv (List.replicate a.length ks).flatten ys /\ ceq xs ys=(a==b)
 | [],[],xs,ys,_,_,_,h3,h4=>by
   cases xs with
   | cons _ _=>exact h3.elim
   | nil=>cases ys with
     | cons _ _=>exact h4.elim
     | nil=>exact⟨trivial,trivial,rfl⟩
 | r :: a,t :: b,xs,ys,hl,h1,h2,h3,h4=>by
   simp only[List.flatMap_cons] at h3 h4
   have t3:=qB.take (mks ks r).length h3
   have d3:=qB.drop (mks ks r).length h3
   have t4:=qB.take (mks ks t).length h4
   have d4:=qB.drop (mks ks t).length h4
   rw[List.take_left] at t3 t4
   rw[List.drop_left] at d3 d4
   rw[qBP] at t3 t4 d3 d4
   obtain⟨i1,i2,i3⟩:=qbl (by simpa using hl) (fun q hq=>h1 q (by simp[hq])) (fun q hq=>h2 q (by simp[hq])) d3 d4
   obtain⟨j1,j2,j3⟩:=qRw (h1 r (by simp)) (h2 t (by simp)) t3 t4
   have ex:=List.take_append_drop ks.length xs
   have ey:=List.take_append_drop ks.length ys
   simp only[List.length_cons,List.replicate_succ,List.flatten_cons]
   refine⟨ex ▸ qB.append j1 i1,ey ▸ qB.append j2 i2,?_⟩
   conv=>lhs;rw[<- ex,<- ey]
   rw[qIp j1 j2,j3,i3]
   rfl
 | [],_ :: _,_,_,h,_,_,_,_=>by simp at h
 | _ :: _,[],_,_,h,_,_,_,_=>by simp at h
theorem qpT {e:Env} {g g':Seg} {t:SegT} {xs ys:List Value} {z:Bool} (k1:g.kinds t=true) (k2:g'.kinds t=true) (hz:g.eq? g'=some z) (o1:g.ok) (o2:g'.ok)
  (r1:qB (qI e) g.flat xs) (r2:qB (qI e) g'.flat ys):∃ ck,qBJ [t]=some ck /\ qB CKv ck xs /\ qB CKv ck ys /\ ceq xs ys=z:=by
 cases t with
 | one ks=>
   cases g<;>simp[Seg.kinds,Seg.fits] at k1
   cases g'<;>simp[Seg.kinds,Seg.fits] at k2
   simp only[Seg.eq?] at hz
   obtain⟨ck,c1,c2,c3,c4⟩:=qlX k1 k2 hz r1 r2
   exact⟨ck,by simp[qBJ,c1],c2,c3,c4⟩
 | arr k n=>
   cases g<;>simp[Seg.kinds,Seg.fits] at k1
   cases g'<;>simp[Seg.kinds,Seg.fits] at k2
   obtain⟨rfl,rfl⟩:=k1
   obtain⟨rfl,rfl⟩:=k2
   simp[Seg.eq?] at hz
   have hx:=qOs r1
   have hy:=qOs r2
   refine⟨_,by simp[qBJ],hx ▸ qNn _ _ _ o1.1,hy ▸ qNn _ _ _ o2.1,?_⟩
   rw[hx,hy,qUc _ _ _ (o1.1.trans o2.1.symm),hz]
 | barr n=>
   cases g<;>simp[Seg.kinds,Seg.fits] at k1
   cases g'<;>simp[Seg.kinds,Seg.fits] at k2
   subst k1
   subst k2
   simp[Seg.eq?] at hz
   have hx:=qNf r1
   have hy:=qNf r2
   refine⟨_,by simp[qBJ],hx ▸ qNm _ _ o1,hy ▸ qNm _ _ o2,?_⟩
   rw[hx,hy,qUb _ _ ((show _=_ from o1).trans (show _=_ from o2).symm),hz]
 | rows ks n=>
   cases g<;>simp[Seg.kinds,Seg.fits] at k1
   cases g'<;>simp[Seg.kinds,Seg.fits] at k2
   obtain⟨rfl,rfl⟩:=k1
   obtain⟨rfl,rfl⟩:=k2
   simp[Seg.eq?] at hz
   obtain⟨c1,c2,c3⟩:=qbl (o1.1.trans o2.1.symm) o1.2 o2.2 r1 r2
   rw[o1.1] at c1 c2
   exact⟨_,by simp[qBJ],c1,c2,by rw[c3,hz]⟩
theorem qpW {e:Env}:∀ {ts:List SegT} {l m:List Seg} {xs ys:List Value} {z:Bool},qCQ l ts=true->qCQ m ts=true->segs? l m=some z->oks l->oks m->
  qB (qI e) (qc l) xs->qB (qI e) (qc m) ys->∃ ck,qBJ ts=some ck /\ qB CKv ck xs /\ qB CKv ck ys /\ ceq xs ys=z:=by
 intro ts
 induction ts with
 | nil =>
   intro l m xs ys z k1 k2 hz _ _ r1 r2
   cases l with
   | cons _ _=>simp[qCQ] at k1
   | nil => cases m with
     | cons _ _=>simp[qCQ] at k2
     | nil=>cases xs with
       | cons _ _=>exact r1.elim
       | nil=>cases ys with
         | cons _ _=>exact r2.elim
         | nil=>simp[segs?] at hz;subst hz;exact⟨[],rfl,trivial,trivial,rfl⟩
 | cons t ts ih=>
   intro l m xs ys z k1 k2 hz o1 o2 r1 r2
   cases l with
   | nil=>simp[qCQ] at k1
   | cons g l=>cases m with
     | nil=>simp[qCQ] at k2
     | cons g' m=>
       simp only[qCQ,Bool.and_eq_true] at k1 k2
       have hzz:∃ z1 z2,g.eq? g'=some z1 /\ segs? l m=some z2 /\ z=(z1&&z2):=by
        cases l with
        | nil=>cases m with
          | nil=>simp only[segs?] at hz;exact⟨z,true,hz,rfl,by simp⟩
          | cons _ _=>
            cases ts with
            | nil=>simp[qCQ] at k2
            | cons _ _=>simp[qCQ] at k1
        | cons g2 l=>
          cases m with
          | nil=>
            exfalso
            simp only[segs?] at hz
            split at hz
            ·rename_i heq;simp at heq
            ·cases hz
          | cons g3 m=>
            simp only[segs?] at hz
            split at hz<;>cases hz
            rename_i z1 z2 e1 e2
            exact⟨z1,z2,e1,by simpa only[segs?] using e2,rfl⟩
       obtain⟨z1,z2,e1,e2,rfl⟩:=hzz
       obtain⟨o1a,o1b⟩:=qAV.1 o1
       obtain⟨o2a,o2b⟩:=qAV.1 o2
       simp only[flats_cons] at r1 r2
       have t1:=qB.take g.flat.length r1
       have d1:=qB.drop g.flat.length r1
       have t2:=qB.take g'.flat.length r2
       have d2:=qB.drop g'.flat.length r2
       rw[List.take_left] at t1 t2
       rw[List.drop_left] at d1 d2
       obtain⟨c1,p1,p2,p3,p4⟩:=qpT k1.1 k2.1 e1 o1a o2a t1 t2
       obtain⟨c2,q1,q2,q3,q4⟩:=ih k1.2 k2.2 e2 o1b o2b d1 d2
       have ex:=List.take_append_drop g.flat.length xs
       have ey:=List.take_append_drop g'.flat.length ys
       refine⟨c1++c2,?_,ex ▸ qB.append p2 q2,ey ▸ qB.append p3 q3,?_⟩
       ·simp only[qBJ] at p1 ⊢
        split at p1<;>cases p1
        rename_i a b h1 h2
        cases h2
        rw[h1,q1];simp
       ·conv=>lhs;rw[<- ex,<- ey]
        rw[qIp p2 p3,p4,q4]
section
variable {P:Program} {o:Oper} {ρ:Rg} {h:Hp} {nx:Nat} {tab:Tab}
theorem qHD {R:Type} {op:BinOp} {z:Bool} {K:V->Option R} {r:R} (h:qEF op z K=some r):(op=.eql /\ K (.s (.b z))=some r) \/ (op=.neq /\ K (.s (.b (!z)))=some r):=by
 cases op<;>simp[qEF] at h<;>simp[h]
theorem qkr {x y:Operand} {t yt:TypeId} {op:BinOp} {l m:List Seg} {L:Lay} {z:Bool} (ho:o.op=.binOp op t x y yt) (hx:ev ρ x=.agg l) (hy:ev ρ y=.agg m)
  (hL:LayOK P tab t L) (ha:L.isAgg=true) (k1:qCQ l L.segTs=true) (k2:qCQ m L.segTs=true) (hz:segs? l m=some z)
  (heq:∃ f ck,f<=10000 /\ qA8 P f t=some ck /\ qBJ L.segTs=some ck /\ P.eqGuardType P.depth t=false):
  (op=.eql->qQ P o ρ h nx (.s (.b z)) [] nx) /\ (op=.neq->qQ P o ρ h nx (.s (.b (!z))) [] nx):=by
 obtain⟨f,ck,hf,hck,hcs,hgd⟩:=heq
 have hag:qAn P t=true:=by
  have hd:=hL.desc
  unfold qAn
  cases L with
  | sc kd=>cases ha
  | st ts fl=>obtain⟨fs,hu,_⟩:=hd;rw[hu]
  | ar n q e sg=>obtain⟨hu,_⟩:=hd;rw[hu]
 have key:∀ (nm:Nm) (w:World) (a:Act),(∀ x∈o.op.operands,qS ⟨nm,h,nx⟩ (ev ρ x) (a.eval x))->
   ∃ xs ys,a.eval x=.agg xs /\ a.eval y=.agg ys /\ (Op.equalIn 10000 t (.agg xs) (.agg ys)).run P w=.ok z w:=by
  intro nm w a hr
  have h1:=hr x (by simp[ho,Op.operands])
  have h2:=hr y (by simp[ho,Op.operands])
  rw[hx] at h1
  rw[hy] at h2
  obtain⟨xs,e1,r1,o1⟩:=h1
  obtain⟨ys,e2,r2,o2⟩:=h2
  obtain⟨ck',c1,c2,c3,c4⟩:=qpW k1 k2 hz o1 o2 r1 r2
  rw[hcs] at c1
  cases c1
  refine⟨xs,ys,e1,e2,?_⟩
  have:=qVG f t ck hck 10000 hf xs.toList ys.toList c2 c3 w
  simp only[mkV,hag,Array.toArray_toList] at this
  rw[this,c4]
 constructor
 ·intro hop
  subst hop
  refine qQ.pure fun nm w a hr _=>?_
  obtain⟨xs,ys,e1,e2,e3⟩:=key nm w a hr
  exact⟨.bool z,by simp only[execOp,ho,e1,e2,Sem.run_bind,run_eqGuard_agg w _ _ _ _ _ _ hgd,Result.andThen_ok,run_eql_struct,e3];rfl,rfl⟩
 ·intro hop
  subst hop
  refine qQ.pure fun nm w a hr _=>?_
  obtain⟨xs,ys,e1,e2,e3⟩:=key nm w a hr
  exact⟨.bool (!z),by simp only[execOp,ho,e1,e2,Sem.run_bind,run_eqGuard_agg w _ _ _ _ _ _ hgd,Result.andThen_ok,run_neq_struct,e3];rfl,rfl⟩
theorem qks {x y:Operand} {t yt:TypeId} {op:BinOp} {p q:Bool} (ho:o.op=.binOp op t x y yt) (hx:ev ρ x=.s (.b p)) (hy:ev ρ y=.s (.b q)) (hu:P.underlying t=some .bool):
  (op=.eql->qQ P o ρ h nx (.s (.b (p==q))) [] nx) /\ (op=.neq->qQ P o ρ h nx (.s (.b (!(p==q)))) [] nx):=by
 constructor
 all_goals
  intro hop
  subst hop
  refine qQ.pure fun nm w a hr _=>?_
  have h1:=hr x (by simp[ho,Op.operands])
  have h2:=hr y (by simp[ho,Op.operands])
  rw[hx] at h1
  rw[hy] at h2
  have h1:a.eval x=.bool p:=h1
  have h2:a.eval y=.bool q:=h2
  refine⟨_,by simp only[execOp,ho,h1,h2,Sem.run_bind,eqGuard,binOp,Bool.not_true,Bool.false_eq_true,if_false,Sem.run_pure,Result.andThen_ok,run_equal_bool w t p q hu],rfl⟩
theorem qpB {t e:TypeId} (hu:P.underlying t=some (.pointer e)) (w:World) (q:Option Addr) (d:Nat):(Op.equalIn (d+1) t (.pointer none) (.pointer q)).run P w=.ok q.isNone w:=by
 unfold Op.equalIn
 simp only[Sem.run_bind,run_underlying hu,Result.andThen_ok,Sem.run_pure]
theorem qpC {t e:TypeId} (hu:P.underlying t=some (.pointer e)) (w:World) (a:Addr) (d:Nat):(Op.equalIn (d+1) t (.pointer (some a)) (.pointer none)).run P w=.ok false w:=by
 unfold Op.equalIn
 simp only[Sem.run_bind,run_underlying hu,Result.andThen_ok,Sem.run_pure]
theorem qbp {t e:TypeId} (hu:P.underlying t=some (.pointer e)) (w:World) (q:Option Addr):(Op.equal t (.pointer none) (.pointer q)).run P w=.ok q.isNone w:=qpB hu w q 9999
theorem qpD {t e:TypeId} (hu:P.underlying t=some (.pointer e)) (w:World) (a:Addr):(Op.equal t (.pointer (some a)) (.pointer none)).run P w=.ok false w:=qpC hu w a 9999
theorem qPv {x y:Operand} {t yt e:TypeId} {op:BinOp} {ob sg:Nat} {row:Option (Nat×Nat)} {col:Nat} {z:Bool} (ho:o.op=.binOp op t x y yt) (hu:P.underlying t=some (.pointer e))
  (hxy:(ev ρ x=.s .nilp /\ ev ρ y=.s .nilp /\ z=true) \/ (z=false /\ (h.get ob).isMem=true /\ ((ev ρ x=.s .nilp /\ ev ρ y=.s (.ptr ob sg row col)) \/ (ev ρ y=.s .nilp /\ ev ρ x=.s (.ptr ob sg row col))))):
  (op=.eql->qQ P o ρ h nx (.s (.b z)) [] nx) /\ (op=.neq->qQ P o ρ h nx (.s (.b (!z))) [] nx):=by
 have key:∀ (nm:Nm) (w:World) (a:Act),(∀ x∈o.op.operands,qS ⟨nm,h,nx⟩ (ev ρ x) (a.eval x))->
   ∃ p q,a.eval x=.pointer p /\ a.eval y=.pointer q /\ (Op.equal t (.pointer p) (.pointer q)).run P w=.ok z w:=by
  intro nm w a hr
  have h1:=hr x (by simp[ho,Op.operands])
  have h2:=hr y (by simp[ho,Op.operands])
  rcases hxy with⟨hx,hy,rfl⟩ | ⟨rfl,hm,⟨hx,hy⟩ | ⟨hy,hx⟩⟩
  ·rw[hx] at h1
   rw[hy] at h2
   exact⟨none,none,h1,h2,qbp hu w none⟩
  ·rw[hx] at h1
   rw[hy] at h2
   obtain⟨_,_,b,off,cap,_,h3⟩:=(qBT (e:=⟨nm,h,nx⟩) hm).1 h2
   exact⟨none,_,h1,h3,qbp hu w _⟩
  ·rw[hx] at h1
   rw[hy] at h2
   obtain⟨_,_,b,off,cap,_,h3⟩:=(qBT (e:=⟨nm,h,nx⟩) hm).1 h1
   exact⟨_,none,h3,h2,qpD hu w _⟩
 constructor
 ·intro hop
  subst hop
  refine qQ.pure fun nm w a hr _=>?_
  obtain⟨p,q,e1,e2,e3⟩:=key nm w a hr
  exact⟨.bool z,by simp only[execOp,ho,e1,e2,Sem.run_bind,eqGuard,binOp,Bool.not_true,Bool.false_eq_true,if_false,Sem.run_pure,Result.andThen_ok,e3],rfl⟩
 ·intro hop
  subst hop
  refine qQ.pure fun nm w a hr _=>?_
  obtain⟨p,q,e1,e2,e3⟩:=key nm w a hr
  exact⟨.bool (!z),by simp only[execOp,ho,e1,e2,Sem.run_bind,eqGuard,binOp,Bool.not_true,Bool.false_eq_true,if_false,Sem.run_pure,Result.andThen_ok,e3],rfl⟩
theorem qZa {t:TypeId} {L:Lay} (hL:LayOK P tab t L) {w:World} {arr:Array Value} {off:Nat} (hl:off+L.size<=arr.toList.length):
  (part t arr off).run P w=.ok (match L.agg with
   | true=>.agg (sub arr.toList off L.size).toArray
   | false=>(sub arr.toList off L.size).headD undef) w:=by
 unfold part
 rw[Sem.run_bind,qbr hL,Result.andThen_ok]
 cases ha:L.agg with
 | true=>
   have he:arr.extract off (off+L.size)=(sub arr.toList off L.size).toArray:=by
    apply Array.ext'
    rw[Array.toList_extract]
    simp only[sub,List.take_drop]
    rw[show off+(off+L.size - off)=off+L.size by omega]
   simp only[if_true,Sem.run_bind,qRz hL,Result.andThen_ok,Sem.run_pure,he]
 | false=>
   cases L with
   | sc kd=>
     have h1:(Lay.sc kd).size=1:=rfl
     rw[h1] at hl ⊢
     have hlt:off<arr.toList.length:=by omega
     have hg:arr[off]? = some arr.toList[off]:=by simp
     have hsub:sub arr.toList off 1=[arr.toList[off]]:=qGk (List.getElem?_eq_getElem hlt)
     simp only[Bool.false_eq_true,if_false]
     rw[hg,hsub]
     rfl
   | st ts fl=>simp[Lay.agg] at ha
   | ar n m e sg=>simp[Lay.agg] at ha
theorem qku {x:Operand} {t ft:TypeId} {f fs fc:Nat} {l:List Seg} {ts:List SegT} {fl:List (Nat×Nat×TypeId)} {L:Lay} {v:V} (hS:LayOK P tab t (.st ts fl)) (ho:o.op=.field t x f)
  (hx:ev ρ x=.agg l) (hf:fl[f]? = some (fs,fc,ft)) (hL:LayOK P tab ft L) (hg:tab.get ft=some L) (hv:loadAt l fs none fc L=some v) (hfit:qBr (l.take fs) (ts.take fs)=true):
  qQ P o ρ h nx v [] nx:=
 qQ.pure fun nm w a hr _=>by
  have h1:=hr x (by simp[ho,Op.operands])
  rw[hx] at h1
  obtain⟨arr,e1,r1,o1⟩:=h1
  have hld:=qHa hv o1 trivial
  obtain⟨fls,hu,hsz,hall⟩:=hS.desc
  have hlt:f<fls.size:=by rw[hsz];exact getElem?_lt hf
  have hgf:fls[f]? = some fls[f]:=Array.getElem?_eq_getElem hlt
  obtain⟨a',b',Lf,q1,q2,q3,_⟩:=hall f _ hgf
  rw[hf] at q1
  simp only[Option.some.injEq,Prod.mk.injEq] at q1
  obtain⟨rfl,rfl,rfl⟩:=q1
  have hoff:fls[f].offset=qX (qU l) fs none fc:=by
   rw[q3]
   simp only[qX]
   rw[<- qch,qKZ hfit,List.map_take]
  have hlen:=hld.len
  rw[qB.length r1] at hlen
  refine⟨_,?_,qHb hld (qB.take _ (qB.drop _ r1))⟩
  simp only[execOp,ho,e1,Instr.field,Sem.run_bind,run_underlying hu,Result.andThen_ok,hgf,asAgg,Sem.run_pure,hoff,qZa hL hlen]
  rfl
theorem qkz {x y:Operand} {t e:TypeId} {n m:Nat} {g:Seg} {tg:SegT} {L:Lay} {v:V} {k:IntKind} {j:Int} (hA:LayOK P tab t (.ar n m e tg)) (ho:o.op=.index t x y)
  (hx:ev ρ x=.agg [g]) (hy:ev ρ y=.s (.i k j)) (hj:inB j n=true) (hfit:g.fits tg=true) (hL:LayOK P tab e L) (hge:tab.get e=some L)
  (hv:loadAt [g] 0 (some (j.toNat*m,m)) 0 L=some v):qQ P o ρ h nx v [] nx:=
 qQ.pure fun nm w a hr _=>by
  have h1:=hr x (by simp[ho,Op.operands])
  rw[hx] at h1
  have h2:=hr y (by simp[ho,Op.operands])
  rw[hy] at h2
  obtain⟨h2,_⟩:=qBl h2
  obtain⟨arr,e1,r1,o1⟩:=h1
  obtain⟨hu,hm0,hw0,htg,Le,i,hge',hi,hs,hLs⟩:=hA.desc
  rw[hge] at hge'
  cases hge'
  have hsh:=qKb hfit
  have hj':=hj
  simp only[inB,Bool.and_eq_true,decide_eq_true_eq] at hj'
  have hjn:j.toNat*m+m<=n*m:=by
   have:j.toNat+1<=n:=by omega
   have:=Nat.mul_le_mul_right m this
   rw[Nat.add_mul] at this;omega
  have hld:=qHa hv o1 ⟨hm0,_,_,by rw[shps_cons,hsh,htg];rfl,hjn,hw0⟩
  have hoff:qX (qU [g]) 0 (some (j.toNat*m,m)) 0=j.toNat*i.size:=by
   simp only[qX,shps_cons,hsh,List.take_zero,qp,List.getElem?_cons_zero,Option.map_some,Option.getD_some,Nat.zero_add,Nat.add_zero,hs,Nat.mul_assoc]
  have hlen:=hld.len
  rw[qB.length r1,hoff] at hlen
  have hrel:=qHb hld (qB.take _ (qB.drop _ r1))
  rw[hoff] at hrel
  refine⟨_,?_,hrel⟩
  simp only[execOp,ho,e1,h2,Instr.index,asIntOf,Sem.run_bind,Sem.run_pure,run_underlying hu,Result.andThen_ok]
  rw[if_pos ⟨hj'.1,hj'.2⟩]
  simp only[sizeOf,typeInfo,Sem.run_bind,run_program,hi,Result.andThen_ok,Sem.run_pure,qZa hL hlen]
  rfl
theorem qYd {c:Ctx} {R:Type} {cl:Call} {f:Operand} {fid:FuncId} {caps:List Nat} {K:Kt R} {r:R} (hc:qDW P c.orc) (ho:o.op=.call cl) (hcl:cl.callee=.value f)
  (hf:ev ρ f=.s (.fn fid caps)) (hE:qNi c h nx fid ((cl.args.toList.map (ev ρ))++caps.map fun q=>.s (.ptr q 0 none 0)) K=some r) (hcap:caps.all (fun q=>(h.get q).isCell)=true):
  ∃ v up nx',K v up nx'=some r /\ qQ P o ρ h nx v up nx' /\ (up=[]->nx'=nx->(∀ q∈qB9 h 64 [] ((qIo ρ cl caps).flatMap V.refs),(h.get q).live=true)->
    ∀ h2 nx2,(∀ q∈qB9 h 64 [] ((qIo ρ cl caps).flatMap V.refs),Hp.get h2 q=Hp.get h q)->qQ P o ρ h2 nx2 v [] nx2):=by
 show ∃ v up nx',K v up nx'=some r /\ qQ P o ρ h nx v up nx' /\ (up=[]->nx'=nx->(∀ q∈qB9 h 64 [] ((cl.args.toList.map (ev ρ)++caps.map fun q=>V.s (.ptr q 0 none 0)).flatMap V.refs),(h.get q).live=true)->
   ∀ h2 nx2,(∀ q∈qB9 h 64 [] ((cl.args.toList.map (ev ρ)++caps.map fun q=>V.s (.ptr q 0 none 0)).flatMap V.refs),Hp.get h2 q=Hp.get h q)->qQ P o ρ h2 nx2 v [] nx2)
 unfold qNi at hE
 simp only[qHE,qN1,qN3] at hE
 generalize hks:qB9 h 64 [] ((cl.args.toList.map (ev ρ)++caps.map fun q=>V.s (.ptr q 0 none 0)).flatMap V.refs)=ks at hE ⊢
 cases hb:(qGB ks&&ks.all (fun o=>Nat.blt o nx)&&qEv ks ((cl.args.toList.map (ev ρ)++caps.map fun q=>V.s (.ptr q 0 none 0)).flatMap V.refs)&&ks.all (fun o=>qEv ks (h.get o).refs)) with
 | false=>rw[hb] at hE;cases hE
 | true =>
   rw[hb] at hE
   simp only[Bool.and_eq_true] at hb
   obtain⟨⟨⟨hn,hlt⟩,hcl1⟩,hcl2⟩:=hb
   have hn:=qYW.1 hn
   have hlt:∀ q∈ks,q<nx:=fun q hq=>by
    have:=List.all_eq_true.1 hlt q hq
    simpa[Nat.blt_eq] using this
   have hcl1:=qKR.1 hcl1
   have hcl2:∀ q∈ks,∀ x∈(h.get q).refs,x∈ks:=fun q hq=>qKR.1 (List.all_eq_true.1 hcl2 q hq)
   have prep:qS6 P fid->∀ (h2:Hp) (nx2:Nat),(∀ q∈ks,Hp.get h2 q=Hp.get h q)->∀ (nm:Nm) (w:World) (a:Act),(∀ x∈o.op.operands,qS ⟨nm,h2,nx2⟩ (ev ρ x) (a.eval x))->RelH ⟨nm,h2,nx2⟩ w->
     ∃ args:Array Value,(execOp a.eval o).run P w=.ok (.enter fid args) w /\ RelH (qx ⟨nm,h2,nx2⟩ ks) w /\
       qB (qS (qx ⟨nm,h2,nx2⟩ ks)) ((cl.args.toList.map (ev ρ)++caps.map fun q=>V.s (.ptr q 0 none 0)).map (V.ren fun x=>qAE x ks)) args.toList:=by
    intro hplain h2 nx2 agree nm w a hr hh
    let e:Env:=⟨nm,h2,nx2⟩
    have hfv:=hr f (by simp[ho,Op.operands,Call.operands,hcl])
    rw[hf] at hfv
    obtain⟨cvs,hfe,hcv⟩:=hfv
    have hargs:qB (qS e) (cl.args.toList.map (ev ρ)) (cl.args.map a.eval).toList:=by
     rw[Array.toList_map]
     have:∀ l:List Operand,(∀ x∈l,x∈cl.args.toList)->qB (qS e) (l.map (ev ρ)) (l.map a.eval):=by
      intro l
      induction l with
      | nil=>intro _;trivial
      | cons x l ih=>
        intro hl
        refine⟨hr x ?_,ih fun y hy=>hl y (by simp[hy])⟩
        have:=hl x (by simp)
        simp only[ho,Op.operands,Call.operands,hcl]
        simp;right;simpa using this
     exact this _ fun _ h=>h
    have hcaps:qB (qS e) (caps.map fun q=>V.s (.ptr q 0 none 0)) cvs:=by
     refine qB.map_left (qB.mono_mem (fun q u hq hu=>?_) hcv)
     have hqk:q∈ks:=hcl1 q (List.mem_flatMap.2 ⟨.s (.ptr q 0 none 0),List.mem_append_right _ (List.mem_map.2 ⟨q,hq,rfl⟩),by simp[V.refs,S.refs]⟩)
     have hcell:=List.all_eq_true.1 hcap q hq
     rw[<- agree q hqk] at hcell
     have hm:(Hp.get h2 q).isMem=true:=by cases hz:Hp.get h2 q<;>rw[hz] at hcell<;>simp[Obj.isCell] at hcell<;>rfl
     obtain⟨u1,u2⟩:=hu
     have hsh:∃ sh,(Hp.get h2 q).shape=.cells sh:=by cases hz:Hp.get h2 q<;>rw[hz] at hcell<;>simp[Obj.isCell] at hcell<;>exact⟨_,rfl⟩
     obtain⟨sh,hsh⟩:=hsh
     simp only[hsh] at u2
     obtain⟨b,off,cap,u3,u4⟩:=u2
     exact (qBT (e:=e) hm).2 ⟨u1,trivial,b,off,cap,u3,by simp[qX,qp,u4]⟩
    have hall:=qB.append hargs hcaps
    have hsub:=qSk (e:=e) (ks:=ks) hh hn (fun q hq x hx=>hcl2 q hq x (by rw[<- agree q hq];exact hx))
    obtain⟨fn,p1,p2,p3⟩:=hplain
    refine⟨cl.args.map a.eval++cvs.toArray,?_,hsub,?_⟩
    ·simp only[execOp,ho,resolve,hcl,hfe,Deferred.ofValue,invoke,callFunc,Sem.run_bind,Sem.run_pure,Result.andThen_ok,run_program,p1,p2,p3]
     simp
    ·simp only[Array.toList_append]
     exact qB.map_left (qB.mono_mem (fun x u hx hu=>qS.ren hu fun q hq _=>qMT (hcl1 q (List.mem_flatMap.2 ⟨x,hx,hq⟩))) hall)
   have cutEq:∀ h2:Hp,(∀ q∈ks,Hp.get h2 q=Hp.get h q)->cut h2 ks=cut h ks:=fun h2 agree=>List.map_congr_left fun q hq=>by rw[agree q hq]
   have hlen2:(cut h ks).length=ks.length:=qEw h ks
   have hlen3:((cut h ks).map Obj.toRO).length=ks.length:=by rw[List.length_map,hlen2]
   have pure0:∀ {v:V} {old:List Obj} (base:Nat),(∀ x∈(cut h ks).map Obj.toRO,x.owned=false)->old.length=(cut h ks).length->(∀ x∈old,x.live=true)->
     qD8 P fid ((cl.args.toList.map (ev ρ)++caps.map fun q=>V.s (.ptr q 0 none 0)).map (V.ren fun x=>qAE x ks)) ((cut h ks).map Obj.toRO) v old->(∀ q∈ks,(h.get q).live=true)->
     ∀ h2 nx2,(∀ q∈ks,Hp.get h2 q=Hp.get h q)->qQ P o ρ h2 nx2 (v.ren (qAC base ks)) [] nx2:=by
    intro v old base hro holdlen hlive hcall hlv h2 nx2 agree nm w a hr hh N Q hN
    obtain⟨hplain,hcall⟩:=hcall
    obtain⟨args,hrun,hsub,hargs'⟩:=prep hplain h2 nx2 agree nm w a hr hh
    have hlt2:∀ q∈ks,q<nx2:=fun q hq=>by
     rcases Nat.lt_or_ge q nx2 with h | h
     ·exact h
     ·have:=hh.new q h
      have this:Hp.get h2 q=.dead:=this
      have hl:=hlv q hq
      rw[<- agree q hq,this] at hl;cases hl
    have ceq:=cutEq h2 agree
    have hsub2:RelH ⟨(qx ⟨nm,h2,nx2⟩ ks).nm,qH [] 0 (cut h ks),(cut h ks).length⟩ w:=by rw[hlen2,<- ceq];exact hsub
    have hsub3:=qbf hsub2 hro
    have hgo:=hcall (qx ⟨nm,h2,nx2⟩ ks).nm w args (by
     rw[hlen3]
     refine qB.mono (fun x u hu=>?_) hargs'
     have hu2:qS ⟨(qx ⟨nm,h2,nx2⟩ ks).nm,qH [] 0 (cut h ks),(cut h ks).length⟩ x u:=by rw[hlen2,<- ceq];exact hu
     have:=qbg hu2
     rwa [hlen2] at this) (by rw[hlen3];rw[hlen2] at hsub3;exact hsub3)
    unfold Oper.wp
    rw[hrun]
    refine Calls.mono hgo.1 fun en w' hpost=>?_
    obtain⟨vr,nm',rfl,q1,q2,q3,q4⟩:=hpost
    rw[hlen3] at q3 q4
    obtain⟨s1,s2,s3,s4⟩:=qmK (e:=⟨nm,h2,nx2⟩) (g:=qAC base ks) hh hlt2 (fun i q hi=>qJG hi) (by rw[holdlen,hlen2]) hlive (by show ∀ x∈(cut h2 ks).map Obj.toRO,_;rw[ceq];exact hro) q1
     (by show Frame' ⟨_,qH [] 0 ((cut h2 ks).map Obj.toRO),_⟩ w w';rw[ceq];exact q3) (by show Ext ⟨_,qH [] 0 ((cut h2 ks).map Obj.toRO),_⟩ _ w;rw[ceq];exact q4)
    exact hN vr nm w' s1 s2 s3 s4
   obtain⟨p,v,objs',hK,hany⟩:=hc fid _ _ _ r hE
   cases p with
   | true=>
     obtain⟨hro,hown,old,holdlen,hlive,hplain,hcall⟩:=hany
     refine⟨_,_,_,hK,fun nm w a hr hh N Q hN=>?_,fun hup _ hlv h2 nx2 agree=>?_⟩
     ·obtain⟨args,hrun,hsub,hargs'⟩:=prep hplain h nx (fun _ _=>rfl) nm w a hr hh
      have hsub2:RelH ⟨(qx ⟨nm,h,nx⟩ ks).nm,qH [] 0 (cut h ks),(cut h ks).length⟩ w:=by rw[hlen2];exact hsub
      have hsub3:=qbf hsub2 hro
      have hgo:=hcall (qx ⟨nm,h,nx⟩ ks).nm w args (by
       rw[hlen3]
       refine qB.mono (fun x u hu=>?_) hargs'
       have hu2:qS ⟨(qx ⟨nm,h,nx⟩ ks).nm,qH [] 0 (cut h ks),(cut h ks).length⟩ x u:=by rw[hlen2];exact hu
       have:=qbg hu2
       rwa [hlen2] at this) (by rw[hlen3];rw[hlen2] at hsub3;exact hsub3)
      unfold Oper.wp
      rw[hrun]
      refine Calls.mono hgo.1 fun en w' hpost=>?_
      obtain⟨vr,nm',rfl,q1,q2,q3,q4⟩:=hpost
      rw[hlen3] at q3 q4
      obtain⟨nm2,s1,s2,s3,s4⟩:=qmJ (e:=⟨nm,h,nx⟩) hh hlt (by rw[holdlen,hlen2]) hlive hown hro q1 q2 q3 q4
      exact hN vr nm2 w' s1 s2 s3 s4
     ·cases objs' with
      | cons x l=>simp[qH] at hup
      | nil=>
        rw[List.append_nil] at hcall
        exact pure0 nx hro holdlen hlive ⟨hplain,hcall⟩ hlv h2 nx2 agree
   | false=>
     obtain⟨hplain,hcall⟩:=hany
     simp only at hK
     cases hle:Nat.ble ks.length objs'.length with
     | false=>rw[hle] at hK;cases hK
     | true=>
       rw[hle] at hK
       have hle:=Nat.le_of_ble_eq_true hle
       refine⟨_,_,_,hK,fun nm w a hr hh N Q hN=>?_,fun hup _ hlv h2 nx2 agree=>?_⟩
       ·obtain⟨args,hrun,hsub,hargs'⟩:=prep hplain h nx (fun _ _=>rfl) nm w a hr hh
        have hgo:=hcall (qx ⟨nm,h,nx⟩ ks).nm w args (by rw[hlen2];exact hargs') (by rw[hlen2];exact hsub)
        unfold Oper.wp
        rw[hrun]
        refine Calls.mono hgo.1 fun en w' hpost=>?_
        obtain⟨vr,nm',rfl,q1,q2,q3,q4⟩:=hpost
        rw[hlen2] at q3 q4
        obtain⟨nm2,s1,s2,s3,s4⟩:=qfl (e:=⟨nm,h,nx⟩) hh hn hlt hle q1 q2 q3 q4
        exact hN vr nm2 w' s1 s2 s3 s4
       ·have ho0:objs'=[]:=by
         cases objs' with
         | nil=>rfl
         | cons x l=>cases ks<;>simp[qH] at hup
        subst ho0
        have hk0:ks=[]:=List.eq_nil_of_length_eq_zero (by simpa using hle)
        subst hk0
        exact pure0 (old:=[]) nx (fun x hx=>by simp[cut] at hx) rfl (fun x hx=>by cases hx) ⟨hplain,hcall⟩ hlv h2 nx2 agree
end
theorem qhJ (off:Nat):∀ (vs:List Value) (k:Nat) (cells:Array Value),off+k+vs.length<=cells.size->
  ((vs.zipIdx k).foldl (fun (cs:Array Value) (p:Value×Nat)=>cs.setIfInBounds (off+p.2) p.1) cells).toList=over cells.toList (off+k) vs:=by
 intro vs
 induction vs with
 | nil=>intro k cells _;simp[over]
 | cons v vs ih=>
   intro k cells h
   simp only[List.length_cons] at h
   simp only[List.zipIdx_cons,List.foldl_cons]
   rw[ih (k+1) _ (by simp;omega)]
   simp only[Array.toList_setIfInBounds]
   rw[qJI _ _ _ (by simp;omega)]
   have e1:over (over cells.toList (off+k) [v]) (off+(k+1)) vs=over cells.toList (off+k) (v :: vs):=by
    have hs:cells.toList=cells.toList.take (off+k)++cells.toList.drop (off+k):=(List.take_append_drop _ _).symm
    have hl:(cells.toList.take (off+k)).length=off+k:=by simp;omega
    generalize cells.toList.take (off+k)=A at *
    generalize cells.toList.drop (off+k)=B at *
    rw[hs]
    have a1:over (A++B) (off+k) [v]=A++over B 0 [v]:=by
     have:=qHk A B 0 [v]
     rwa [hl,Nat.add_zero] at this
    have a2:over (A++B) (off+k) (v :: vs)=A++over B 0 (v :: vs):=by
     have:=qHk A B 0 (v :: vs)
     rwa [hl,Nat.add_zero] at this
    have a3:over (A++over B 0 [v]) (off+(k+1)) vs=A++over (over B 0 [v]) 1 vs:=by
     have:=qHk A (over B 0 [v]) 1 vs
     rwa [hl,Nat.add_assoc] at this
    rw[a1,a2,a3]
    congr 1
    have hB:1<=B.length:=by
     have:=congrArg List.length hs
     simp only[List.length_append,Array.length_toList] at this
     omega
    cases B with
    | nil=>simp at hB
    | cons b B=>simp[over,Nat.add_comm 1]
   rw[e1]
theorem qVP {place:Nat->Option (Nat×Nat)} {cells:Array Value} {i off size:Nat} {v:Value} {rest:List (Nat×Value)} (hp:place i=some (off,size)) (hs:v.cells.size=size)
  (hl:off+size<=cells.size):∃ cells',Instr.fill place cells ((i,v) :: rest)=Instr.fill place cells' rest /\ cells'.toList=over cells.toList off v.cells.toList:=by
 refine⟨v.cells.zipIdx.foldl (fun cs (p:Value×Nat)=>cs.setIfInBounds (off+p.2) p.1) cells,?_,?_⟩
 ·simp only[Instr.fill,hp]
  have:(v.cells.size≠size||off+v.cells.size>cells.size)=false:=by
   simp[hs];omega
  rw[if_neg (by rw[this];simp)]
 ·have:=qhJ off v.cells.toList 0 cells (by simp;omega)
  simp only[Nat.add_zero] at this
  rw[<- this,<- Array.foldl_toList]
  congr 1
  congr 1
  simp
def qIX (e:Env) (p:Nat×V) (q:Nat×Value):Prop:=p.1=q.1 /\ qS e p.2 q.2
theorem qpX {e:Env} {tab:Tab} {ts:List SegT} {fl:List (Nat×Nat×TypeId)} {place:Nat->Option (Nat×Nat)}
  (hpl:∀ (j a b:Nat) ft L,fl[j]? = some (a,b,ft)->tab.get ft=some L->place j=some (qp ((ts.map SegT.shp).take a)+b,L.size)):
  ∀ (ps:List (Nat×V)) (qs:List (Nat×Value)) (l l':List Seg) (cells:Array Value),qIC tab fl ps l=some l'->qB (qIX e) ps qs->qB (qI e) (qc l) cells.toList->oks l->
    qU l=ts.map SegT.shp->∃ cells',Instr.fill place cells qs=some cells' /\ qB (qI e) (qc l') cells'.toList /\ oks l':=by
 intro ps
 induction ps with
 | nil=>
   intro qs l l' cells h hq hr ho _
   cases qs with
   | cons _ _=>exact hq.elim
   | nil=>simp[qIC] at h;subst h;exact⟨cells,rfl,hr,ho⟩
 | cons p ps ih=>
   intro qs l l' cells h hq hr ho hs
   cases qs with
   | nil=>exact hq.elim
   | cons q qs=>
     obtain⟨j,v⟩:=p
     obtain⟨j',u⟩:=q
     obtain⟨⟨rfl,hv⟩,hq2⟩:=hq
     simp only[qIC] at h
     split at h<;>try cases h
     rename_i fs fc ft hf
     cases hb:(v.good&&qCn (tab.get ft) v) with
     | false=>rw[hb] at h;cases h
     | true=>
       rw[hb] at h
       simp only[cond_true] at h
       split at h<;>try cases h
       rename_i l1 hl1
       simp only[Bool.and_eq_true] at hb
       obtain⟨d1,d2,d3⟩:=qGU hv hb.1
       obtain⟨L,hL,hLs⟩:=qMJ hb.2 d2
       have hst:=qIR hl1 ho trivial d2 (qGV d1)
       have hoff:qX (qU l) fs none fc=qp ((ts.map SegT.shp).take fs)+fc:=by simp only[qX,hs]
       have hcl:=qB.length hr
       have hdl:=qB.length d1
       have hlen:=hst.len
       rw[hoff] at hlen
       obtain⟨cells1,f1,f2⟩:=qVP (rest:=qs) (cells:=cells) (v:=u) (hpl j fs fc ft L hf hL) (by simp at hdl;omega) (by simp at hcl hdl;omega)
       obtain⟨cells',g1,g2,g3⟩:=ih qs l1 l' cells1 h hq2 (by rw[hst.flat,f2,hoff];exact qB.over hr d1) hst.ok (hst.shp.trans hs)
       exact⟨cells',f1.trans g1,g2,g3⟩
theorem qR5 {e:Env} {tab:Tab} {te:TypeId} {n m wd sz:Nat} {Le:Lay} (hm:0<m) (hw:0<wd) (hLe:tab.get te=some Le) (hsz:Le.size=m*wd) (hsz2:sz=m*wd):
  ∀ (ps:List (Nat×V)) (qs:List (Nat×Value)) (l l':List Seg) (cells:Array Value),qCC tab te n m ps l=some l'->qB (qIX e) ps qs->qB (qI e) (qc l) cells.toList->oks l->
    qU l=[.tbl wd (n*m)]->∃ cells',Instr.fill (fun i=>some (i*sz,sz)) cells qs=some cells' /\ qB (qI e) (qc l') cells'.toList /\ oks l':=by
 intro ps
 induction ps with
 | nil=>
   intro qs l l' cells h hq hr ho _
   cases qs with
   | cons _ _=>exact hq.elim
   | nil=>simp[qCC] at h;subst h;exact⟨cells,rfl,hr,ho⟩
 | cons p ps ih=>
   intro qs l l' cells h hq hr ho hs
   cases qs with
   | nil=>exact hq.elim
   | cons q qs=>
     obtain⟨j,v⟩:=p
     obtain⟨j',u⟩:=q
     obtain⟨⟨rfl,hv⟩,hq2⟩:=hq
     simp only[qCC] at h
     cases hb:(Nat.blt j n&&v.good&&qCn (tab.get te) v) with
     | false=>rw[hb] at h;cases h
     | true=>
       rw[hb] at h
       simp only[cond_true] at h
       split at h<;>try cases h
       rename_i l1 hl1
       simp only[Bool.and_eq_true,Nat.blt_eq] at hb
       obtain⟨⟨hj,hg⟩,hf⟩:=hb
       obtain⟨d1,d2,d3⟩:=qGU hv hg
       obtain⟨L,hL,hLs⟩:=qMJ hf d2
       rw[hLe] at hL
       cases hL
       have hjn:j*m+m<=n*m:=by
        have:=Nat.mul_le_mul_right m (show j+1<=n by omega)
        rw[Nat.add_mul] at this;omega
       have hst:=qIR hl1 ho ⟨hm,wd,n*m,by rw[hs];rfl,hjn,hw⟩ d2 (qGV d1)
       have hoff:qX (qU l) 0 (some (j*m,m)) 0=j*sz:=by
        simp only[qX,hs,List.take_zero,qp,List.getElem?_cons_zero,Option.map_some,Option.getD_some,Shp.width,Nat.zero_add,Nat.add_zero,hsz2,Nat.mul_assoc]
       have hcl:=qB.length hr
       have hdl:=qB.length d1
       have hlen:=hst.len
       rw[hoff] at hlen
       obtain⟨cells1,f1,f2⟩:=qVP (place:=fun i=>some (i*sz,sz)) (rest:=qs) (cells:=cells) (v:=u) (i:=j) rfl (by simp at hdl;omega) (by simp at hcl hdl;omega)
       obtain⟨cells',g1,g2,g3⟩:=ih qs l1 l' cells1 h hq2 (by rw[hst.flat,f2,hoff];exact qB.over hr d1) hst.ok (hst.shp.trans hs)
       exact⟨cells',f1.trans g1,g2,g3⟩
section
variable {P:Program} {o:Oper} {ρ:Rg} {h:Hp} {nx:Nat} {tab:Tab}
theorem qPr {nm:Nm} {w:World} {hp:Hp} {nx':Nat} (hh:RelH ⟨nm,h,nx⟩ w) (hle:nx<=nx') (hn:qCX hp nx nx'):
  ∃ nm',qJ3 ⟨nm',hp++h,nx'⟩ hp nx nx' /\ RelH ⟨nm',hp++h,nx'⟩ w /\ Frame' ⟨nm,h,nx⟩ w w /\ Ext ⟨nm,h,nx⟩ ⟨nm',hp++h,nx'⟩ w:=by
 let nm':Nm:=fun q=>if q<nx then nm q else none
 have hlow:∀ q,q<nx->hp.lookup q=none:=fun q hq=>by
  rcases hn q with⟨e1,_⟩ | ⟨e1,_,_⟩
  ·exact e1
  ·omega
 have hhigh:∀ q,nx'<=q->hp.lookup q=none:=fun q hq=>by
  rcases hn q with⟨e1,_⟩ | ⟨_,e1,_⟩
  ·exact e1
  ·omega
 have hget:∀ q,nx<=q->q<nx'->Hp.get (hp++h) q=(hp.lookup q).getD .dead:=fun q hq hq'=>by
  rcases hn q with⟨_,n⟩ | ⟨_,_,e,g,e1,_⟩
  ·omega
  ·rw[qm,e1];rfl
 have hnew:=qJF (e:=⟨nm,h,nx⟩) (w:=w) (w':=w) (up:=hp) (nm':=nm') (nx':=nx') hh hle (fun q hq=>⟨hlow q hq,by have hq:q<nx:=hq;simp only[nm'];rw[if_pos hq]⟩) hhigh
  (fun q hq hq'=>by
   have hq:nx<=q:=hq
   have hnq:nm' q=none:=by simp only[nm'];rw[if_neg (by omega)]
   rcases hn q with⟨_,n⟩ | ⟨_,_,e,g,e1,g1,g2⟩
   ·omega
   ·have hg:Hp.get (hp++h) q=.sli e false g:=by rw[hget q hq hq',e1];rfl
    unfold qG
    dsimp only
    rw[hg,hnq]
    exact⟨g1,g2⟩)
  (fun q x hq hx=>by
   have hq:nx<=q:=hq
   simp only[Has,nm'] at hx
   rw[if_neg (by omega)] at hx
   cases hx)
  (fun _ _=>rfl) rfl rfl rfl (Nat.le_refl _)
 exact⟨nm',fun q hq hq'=>⟨hq',by simp only[nm'];rw[if_neg (by omega)],hget q hq hq'⟩,hnew.1,hnew.2.1,hnew.2.2⟩
theorem qGF {e:Env} {a:Act}:∀ (ps:List (Nat×Operand)),(∀ p∈ps,qS e (ev ρ p.2) (a.eval p.2))->qB (qIX e) (ps.map fun p=>(p.1,ev ρ p.2)) (ps.map fun p=>(p.1,a.eval p.2))
 | [],_=>trivial
 | p :: ps,h=>⟨⟨rfl,h p (by simp)⟩,qGF ps fun q hq=>h q (by simp[hq])⟩
theorem qPu {t:TypeId} {ps:Array (Nat×Operand)} {ts:List SegT} {fl:List (Nat×Nat×TypeId)} {l l':List Seg} {hp:Hp} {nx':Nat} (hL:LayOK P tab t (.st ts fl)) (ho:o.op=.build t ps)
  (hz:qAd tab ts nx=some (l,hp,nx')) (hs:qIC tab fl (ps.toList.map fun p=>(p.1,ev ρ p.2)) l=some l'):qQ P o ρ h nx (.agg l') hp nx':=by
 intro nm w a hr hh N Q hN
 obtain⟨i,z,hi,_,hzz,hzc⟩:=hL.info
 obtain⟨z1,z2,z3,z4,z5⟩:=qMW hz
 obtain⟨nm',n1,n2,n3,n4⟩:=qPr hh z1 z2
 obtain⟨fls,hu,hsz,hall⟩:=hL.desc
 have hmap:∀ (gs:List Field),(∀ f∈gs,∃ i,P.info? f.type=some i)->∃ pl,gs.mapM (fun f=>(P.info? f.type).map fun i=>(f.offset,i.size))=some pl /\ pl.length=gs.length /\
   ∀ (j:Nat) (f:Field),gs[j]? = some f->∃ i,P.info? f.type=some i /\ pl[j]? = some (f.offset,i.size):=by
  intro gs
  induction gs with
  | nil=>intro _;exact⟨[],rfl,rfl,fun j f hj=>by simp at hj⟩
  | cons g gs ih=>
    intro hg
    obtain⟨pl,p1,p2,p3⟩:=ih fun f hf=>hg f (by simp[hf])
    obtain⟨i,hi⟩:=hg g (by simp)
    refine⟨(g.offset,i.size) :: pl,?_,by simp[p2],fun j f hj=>?_⟩
    ·rw[List.mapM_cons,hi,p1];rfl
    ·cases j with
     | zero=>simp at hj;subst hj;exact⟨i,hi,by simp⟩
     | succ j=>simpa using p3 j f (by simpa using hj)
 obtain⟨pl,p1,p2,p3⟩:=hmap fls.toList fun f hf=>by
  obtain⟨j,hj⟩:=List.getElem?_of_mem hf
  obtain⟨_,_,_,_,_,_,_,_,i,hi,_⟩:=hall j f (by simpa using hj)
  exact⟨i,hi⟩
 obtain⟨cells',c1,c2,c3⟩:=qpX (e:=⟨nm',hp++h,nx'⟩) (tab:=tab) (ts:=ts) (fl:=fl) (place:=fun j=>pl.toArray[j]?) (fun j a' b' ft L hf hg=>by
   have hlt:=getElem?_lt hf
   have hgf:fls[j]? = some fls[j]:=Array.getElem?_eq_getElem (by omega)
   obtain⟨a1,b1,L1,q1,q2,q3,_,_,i1,q4,q5⟩:=hall j _ hgf
   rw[hf] at q1
   simp only[Option.some.injEq,Prod.mk.injEq] at q1
   obtain⟨rfl,rfl,rfl⟩:=q1
   rw[hg] at q2
   cases q2
   obtain⟨i2,r1,r2⟩:=p3 j fls[j] (by rw[Array.getElem?_toList];exact hgf)
   rw[q4] at r1
   cases r1
   simp only[List.getElem?_toArray,r2,q3,q5])
  _ (ps.toList.map fun p=>(p.1,a.eval p.2)) l l' z.cells hs (qGF _ fun p hp'=>(hr p.2 (by simp only[ho,Op.operands];simp;exact⟨p.1,by simpa using hp'⟩)).ext n4) (by rw[hzc];exact z5 _ n1) z3 z4
 unfold Oper.wp
 have hrun:(execOp a.eval o).run P w=.ok (.value (.agg cells')) w:=by
  have hb:P.built t (ps.map fun p=>(p.1,a.eval p.2)).toList=some cells':=by
   unfold Program.built
   simp only[hi,hu,hzz,p1,Array.toList_map]
   exact c1
  simp only[execOp,ho,Sem.run_bind,run_build w t _ cells' hb,Result.andThen_ok]
  rfl
 rw[hrun]
 exact hN _ nm' w ⟨cells',rfl,c2,c3⟩ n2 n3 n4
theorem qPt {t e:TypeId} {ps:Array (Nat×Operand)} {n m:Nat} {tg:SegT} {l l':List Seg} {hp:Hp} {nx':Nat} (hL:LayOK P tab t (.ar n m e tg)) (ho:o.op=.build t ps)
  (hz:qAd tab [tg] nx=some (l,hp,nx')) (hs:qCC tab e n m (ps.toList.map fun p=>(p.1,ev ρ p.2)) l=some l'):qQ P o ρ h nx (.agg l') hp nx':=by
 intro nm w a hr hh N Q hN
 obtain⟨i,z,hi,_,hzz,hzc⟩:=hL.info
 obtain⟨z1,z2,z3,z4,z5⟩:=qMW hz
 obtain⟨nm',n1,n2,n3,n4⟩:=qPr hh z1 z2
 obtain⟨hu,hm0,hw0,htg,Le,ie,hge,hie,hse,hLs⟩:=hL.desc
 obtain⟨cells',c1,c2,c3⟩:=qR5 (e:=⟨nm',hp++h,nx'⟩) (n:=n) hm0 hw0 hge hLs hse _ (ps.toList.map fun p=>(p.1,a.eval p.2)) l l' z.cells hs
  (qGF _ fun p hp'=>(hr p.2 (by simp only[ho,Op.operands];simp;exact⟨p.1,by simpa using hp'⟩)).ext n4) (by rw[hzc];exact z5 _ n1) z3 (by rw[z4];simp only[List.map_cons,List.map_nil];rw[<- htg])
 unfold Oper.wp
 have hrun:(execOp a.eval o).run P w=.ok (.value (.agg cells')) w:=by
  have hb:P.built t (ps.map fun p=>(p.1,a.eval p.2)).toList=some cells':=by
   unfold Program.built
   simp only[hi,hu,hzz,hie,Array.toList_map]
   exact c1
  simp only[execOp,ho,Sem.run_bind,run_build w t _ cells' hb,Result.andThen_ok]
  rfl
 rw[hrun]
 exact hN _ nm' w ⟨cells',rfl,c2,c3⟩ n2 n3 n4
end
section
variable {P:Program} {o:Oper} {ρ:Rg} {h:Hp} {nx:Nat} {tab:Tab}
theorem qST {e:Env} {w:World} {ob sg:Nat} {row:Option (Nat×Nat)} {col:Nat} {v:Value} {t:TypeId} {ro:Bool} {g:Seg} (hh:RelH e w) (hv:qI e (.ptr ob sg row col) v)
  (ho:e.h.get ob=.sli t ro g):∃ b off cap,e.nm ob=some (b,off,cap) /\ g.ok /\ qGX [g.shp] sg row col /\ v=.pointer (some ⟨b,off+qX [g.shp] sg row col,none⟩) /\
   ∃ vs,qB (qI qAo) g.flat vs /\ ∀ j u,vs[j]? = some u->w.cell? ⟨b,off+j,none⟩=some u:=by
 have h1:=hh.obj ob
 unfold qG at h1
 obtain⟨_,h6⟩:=hv
 rw[ho] at h6
 obtain⟨h7,b,off,cap,h8,h9⟩:=h6
 rw[ho] at h1
 cases ro with
 | false=>
   simp only[h8] at h1
   obtain⟨g1,rfl,arr,g2,g3,g4,g5,g6⟩:=h1
   refine⟨b,0,cap,h8,g1,h7,h9,_,g6,fun j u hu=>?_⟩
   rw[List.getElem?_take] at hu
   split at hu
   ·simp only[World.cell?,g2,Nat.zero_add]
    simpa using hu
   ·cases hu
 | true=>
   simp only[h8] at h1
   obtain⟨g1,g2,_,g3⟩:=h1
   refine⟨b,off,cap,h8,g1,h7,h9,(List.range g.flat.length).map (fun j=>(w.cell? ⟨b,off+j,none⟩).getD undef),?_,fun j u hu=>?_⟩
   ·have:∀ (l:List S) (k:Nat),(∀ j s,l[j]? = some s->∃ v,w.cell? ⟨b,off+(k+j),none⟩=some v /\ qI qAo s v)->
      qB (qI qAo) l ((List.range' k l.length).map (fun j=>(w.cell? ⟨b,off+j,none⟩).getD undef)):=by
     intro l
     induction l with
     | nil=>intro k _;trivial
     | cons s l ih=>
       intro k hl
       simp only[List.length_cons,List.range'_succ,List.map_cons]
       refine⟨?_,ih (k+1) fun j s' hj=>by have:=hl (j+1) s' (by simpa using hj);rwa [show k+(j+1)=k+1+j by omega] at this⟩
       obtain⟨v,hv,hr⟩:=hl 0 s (by simp)
       simp only[Nat.add_zero] at hv
       rw[hv];exact hr
    have:=this g.flat 0 fun j s hj=>by rw[Nat.zero_add];exact g3 j s hj
    rwa [<- List.range_eq_range'] at this
   ·simp only[List.getElem?_map] at hu
    cases hr:(List.range g.flat.length)[j]? with
    | none=>rw[hr] at hu;cases hu
    | some q=>
      rw[hr] at hu
      have hlt:=getElem?_lt hr
      simp only[List.length_range] at hlt
      have hq:q=j:=by
       rw[List.getElem?_range hlt] at hr
       exact (Option.some.inj hr).symm
      subst hq
      obtain⟨v,hv,_⟩:=g3 q _ (List.getElem?_eq_getElem hlt)
      simp only[Option.map_some,hv,Option.getD_some,Option.some.injEq] at hu
      rw[hv,hu]
theorem qk9 {x:Operand} {t T:TypeId} {ob sg:Nat} {row:Option (Nat×Nat)} {col:Nat} {ro:Bool} {g:Seg} {L:Lay} {v:V} (hL:LayOK P tab t L)
  (ho:o.op=.load t x) (hx:ev ρ x=.s (.ptr ob sg row col)) (hob:h.get ob=.sli T ro g) (hv:loadAt [g] sg row col L=some v):qQ P o ρ h nx v [] nx:=
 qQ.pure fun nm w a hr hh=>by
  have h1:=hr x (by simp[ho,Op.operands])
  rw[hx] at h1
  obtain⟨b,off,cap,_,c4,c5,c6,vs,c7,c8⟩:=qST (e:=⟨nm,h,nx⟩) hh h1 hob
  have hld:=qHa hv (qAV.2 ⟨c4,qCT⟩) c5
  have hfl:qc [g]=g.flat:=by simp
  have hlen:(sub vs (qX [g.shp] sg row col) L.size).length=L.size:=by
   have:=qB.length c7
   have:=hld.len
   rw[hfl] at this
   simp only[shps_cons,shps_nil] at this
   simp[sub];omega
  have hrun:=qJN (P:=P) (w:=w) (b:=b) (off:=off+qX [g.shp] sg row col) hL hlen fun j u hu=>by
   obtain⟨g1,_⟩:=qJp hu
   have:=c8 _ _ g1
   rwa [<- Nat.add_assoc] at this
  refine⟨_,?_,qHb hld (by rw[hfl];exact qB.mono (fun _ _ hu=>qI.of0 hu) (qB.take _ (qB.drop _ c7)))⟩
  simp only[execOp,ho,c6,Instr.loadAt,Instr.sureAddr,Sem.run_bind,Sem.run_pure,Result.andThen_ok,hrun]
  rfl
theorem qRt {e:Env} {g:Seg} (hg:∀ vs,g≠.one vs):∀ {vs:List Value},qB (qI e) g.flat vs->qB (qI qAo) g.flat vs:=by
 intro vs h
 refine qB.mono_mem (fun s v hs hv=>?_) h
 cases g with
 | one vs=>exact absurd rfl (hg vs)
 | arr k n l=>obtain⟨_,_,rfl⟩:=List.mem_map.1 hs;exact hv
 | barr n l=>obtain⟨_,_,rfl⟩:=List.mem_map.1 hs;exact hv
 | rows ks n xs=>
   obtain⟨r,_,hr⟩:=List.mem_flatMap.1 hs
   have:∀ (ks:List CK) (r:List Int) (s:S),s∈mks ks r->qI e s v->qI qAo s v:=by
    intro ks
    induction ks with
    | nil=>intro r s hs;simp[mks] at hs
    | cons c ks ih=>
      intro r s hs hv
      rcases List.mem_cons.1 hs with rfl | hs
      ·cases c<;>exact hv
      ·exact ih _ _ hs hv
   exact this ks r s hr hv
theorem qli {α:Type} (l:List α) (off n:Nat) (new:List α) (h:off+new.length<=n) (hn:n<=l.length):(over l off new).take n=over (l.take n) off new:=by
 unfold over
 have e1:(l.take off).length=off:=by simp;omega
 have e2:(l.take off++new).length=off+new.length:=by simp;omega
 rw[List.take_take,Nat.min_eq_left (by omega),List.drop_take,List.take_append,List.take_of_length_le (l:=l.take off++new) (by omega),e2]
theorem qlL {x y:Operand} {t T:TypeId} {ob sg:Nat} {row:Option (Nat×Nat)} {col:Nat} {g g':Seg} (htab:∀ t L,tab.get t=some L->LayOK P tab t L)
  (ho:o.op=.store t x y) (hx:ev ρ x=.s (.ptr ob sg row col)) (hob:h.get ob=.sli T false g) (hg:(ev ρ y).good=true) (hsz:qCn (tab.get t) (ev ρ y)=true)
  (hv:storeAt [g] sg row col (ev ρ y)=some [g']) (hone:g'.isTbl=true):qQ P o ρ h nx qCF [(ob,.sli T false g')] nx:=by
 intro nm w a hr hh N Q hN
 have h1:=hr x (by simp[ho,Op.operands])
 rw[hx] at h1
 have h2:=hr y (by simp[ho,Op.operands])
 obtain⟨b,off,cap,c1,c4,c5,c6,_⟩:=qST (e:=⟨nm,h,nx⟩) hh h1 hob
 have hob':=hh.obj ob
 unfold qG at hob'
 rw[show (Env.h ⟨nm,h,nx⟩).get ob=_ from hob] at hob'
 have c1':nm ob=some (b,off,cap):=c1
 simp only[c1'] at hob'
 obtain⟨_,rfl,arr,g2,g3,g4,g5,g6⟩:=hob'
 obtain⟨d1,d2,d3⟩:=qGU h2 hg
 have hst:=qIR hv (qAV.2 ⟨c4,qCT⟩) c5 d2 (qGV d1)
 obtain⟨L,hL,hLs⟩:=qMJ hsz d2
 have hfl:qc [g]=g.flat:=by simp
 have hfl':qc [g']=g'.flat:=by simp
 have hsh:g'.shp=g.shp:=by have:=hst.shp;simpa[qU] using this
 have hok':g'.ok:=(qAV.1 hst.ok).1
 have hdl:=qB.length d1
 have hlen:=hst.len
 rw[hfl,Seg.flat_length c4] at hlen
 have hsz2:g.shp.size<=arr.toList.length:=by
  have:g.shp.size=g.shp.rows*g.shp.width \/ g.shp.width=0 /\ g.shp.rows=0:=by
   cases hq:g.shp with
   | one n=>right;exact⟨rfl,rfl⟩
   | tbl wd n=>left;rfl
  have hl6:=qB.length g6
  rw[Seg.flat_length c4,List.length_take] at hl6
  omega
 let p:=qX [g.shp] sg row col
 have hp:p+(a.eval y).cells.toList.length<=g.shp.size:=by
  simp only[shps_cons,shps_nil] at hlen
  show qX [g.shp] sg row col+_<=_
  omega
 have hrun:=qZb (P:=P) (v:=a.eval y) (off:=p) (htab t L hL) g2 (by omega) (by simp at hsz2 hp ⊢;omega) d3
 let w':=w.setRow b (over arr.toList p (a.eval y).cells.toList).toArray
 have hrel:=qSx (e:=⟨nm,h,nx⟩) (w:=w) (w':=w') (o:=ob) (b:=b) (x':=.sli T false g') hh h1.1 (by show (h.get ob).owned=true;rw[hob];rfl) (by show _=(h.get ob).shape;rw[hob];simp[Obj.shape,hsh]) rfl
  (qCc (show nm ob=_ from c1) (by unfold maxLen at g5;unfold big;omega)) (by
   have hget:Hp.get ((ob,Obj.sli T false g') :: h) ob=.sli T false g':=by simp[Hp.get]
   unfold qG
   dsimp only
   rw[hget]
   simp only[show nm ob=_ from c1]
   refine⟨hok',trivial,_,setRow_heap w b arr _ T (0,0) g2,?_,by rw[hsh];exact g4,g5,?_⟩
   ·rw[hsh,<- g3]
    simp only[List.size_toArray]
    rw[qlh _ _ _ (by omega)]
    simp
   ·rw[hsh]
    simp only
    rw[qli _ _ _ _ hp hsz2]
    refine qRt (e:=⟨nm,h,nx⟩) (fun vs hvs=>by rw[hvs] at hone;cases hone) ?_
    rw[<- hfl',hst.flat,hfl]
    exact qB.over (qB.mono (fun _ _ hu=>qI.of0 hu) g6) d1)
  (fun k hk=>setRow_other w b k _ hk) rfl rfl rfl (by simp[w'])
 unfold Oper.wp
 have hex:(execOp a.eval o).run P w=.ok .skip w':=by
  simp only[execOp,ho,c6,Instr.storeAt,Instr.sureAddr,Sem.run_bind,Sem.run_pure,Result.andThen_ok,Nat.zero_add]
  rw[show qX [g.shp] sg row col=p from rfl,hrun]
  rfl
 rw[hex]
 exact hN undef nm w' ⟨#[],rfl,trivial⟩ hrel.1 hrel.2.1 hrel.2.2
theorem qIw {L:Lay} {g:Seg} (h:qz (some L)=some g):g.shp.width=L.size /\ 0<g.shp.width \/ g.shp.width=0:=by
 unfold qz at h
 split at h<;>try cases h
 ·rename_i k e;cases e;left;exact⟨rfl,Nat.one_pos⟩
 ·rename_i e;cases e;left;exact⟨rfl,Nat.one_pos⟩
 ·rename_i e;cases e;left;exact⟨rfl,Nat.one_pos⟩
 ·rename_i ts fl e
  cases e
  split at h<;>cases h
  rename_i ks hk
  by_cases hz:ks.length=0
  ·right;simpa[Seg.shp,Shp.width] using hz
  ·left
   refine⟨?_,by simp[Seg.shp,Shp.width];omega⟩
   simp only[Seg.shp,Shp.width,qL5,Lay.segTs]
   clear hz
   induction ts generalizing ks with
   | nil=>simp[qAL] at hk;subst hk;rfl
   | cons t ts ih=>
     have kl:∀ {qs:List Kd} {c:List CK},kcks? qs=some c->c.length=qs.length:=by
      intro qs
      induction qs with
      | nil=>intro c h;simp[kcks?] at h;subst h;rfl
      | cons q qs ih2=>
        intro c h
        simp only[kcks?] at h
        split at h<;>cases h
        rename_i n l _ e6
        simp[ih2 e6]
     cases t<;>simp only[qAL] at hk<;>(try (split at hk<;>cases hk))<;>(try cases hk)
     ·rename_i a b e1 e2
      simp[qBm,qp,SegT.shp,Shp.size,kl e1] at *
      rw[ih b e2]
     ·rename_i b e2
      simp[qBm,qp,SegT.shp,Shp.size] at *
      rw[ih b e2]
     ·rename_i b e2
      simp[qBm,qp,SegT.shp,Shp.size] at *
      rw[ih b e2]
theorem qk4 {x y:Operand} {t e T:TypeId} {ob lo len:Nat} {full ro:Bool} {g g0:Seg} {k:IntKind} {j:Int} (htab:∀ t L,tab.get t=some L->LayOK P tab t L) (hL:LayOK P tab t (.sc (.sl e)))
  (ho:o.op=.indexAddr t x y) (hx:ev ρ x=.s (.sl ob lo len full)) (hy:ev ρ y=.s (.i k j)) (hj:inB j len=true) (hob:h.get ob=.sli T ro g) (he:qz (tab.get e)=some g0)
  (hwd:g.shp.width=g0.shp.width) (hpos:0<g.shp.width):qQ P o ρ h nx (.s (.ptr ob 0 (some (lo+j.toNat,1)) 0)) [] nx:=
 qQ.pure fun nm w a hr hh=>by
  have h1:=hr x (by simp[ho,Op.operands])
  rw[hx] at h1
  have h2:=hr y (by simp[ho,Op.operands])
  rw[hy] at h2
  obtain⟨h2,_⟩:=qBl h2
  obtain⟨h3,h4⟩:=h1
  rw[show (Env.h ⟨nm,h,nx⟩).get ob=_ from hob] at h4
  have h4:qAB nm ob g.shp lo len full (a.eval x):=h4
  have hj':=hj
  simp only[inB,Bool.and_eq_true,decide_eq_true_eq] at hj'
  unfold qAB at h4
  split at h4
  ·omega
  ·rename_i b off cap hnm
   obtain⟨c,h5,h6,h7,h8⟩:=h4
   obtain⟨d,hu,hd⟩:=hL.desc
   simp only at hd
   subst hd
   cases hge:tab.get e with
   | none=>rw[hge] at he;simp[qz] at he
   | some Le=>
     rw[hge] at he
     obtain⟨i,z,hi,hs,_⟩:=(htab e Le hge).info
     have hwe:g.shp.width=i.size:=by
      rcases qIw he with⟨q1,_⟩ | q1
      ·rw[hwd,q1,hs]
      ·omega
     have hm:(h.get ob).isMem=true:=by rw[hob];rfl
     have hrows:∃ wd n,g.shp=.tbl wd n:=by
      cases hq:g.shp with
      | one n=>rw[hq] at hpos;exact absurd hpos (Nat.lt_irrefl _)
      | tbl wd n=>exact⟨_,_,rfl⟩
     obtain⟨wd,n,hgs⟩:=hrows
     refine⟨_,by simp only[execOp,ho,h5,h2,Sem.run_bind,qbq hu hi w b _ len c k hj,Result.andThen_ok];rfl,(qBT (e:=⟨nm,h,nx⟩) hm).2 ⟨h3,?_,b,off,cap,hnm,?_⟩⟩
     ·show qGX (qU (h.get ob).segs) 0 (some (lo+j.toNat,1)) 0
      rw[hob]
      refine⟨Nat.le_refl _,wd,n,by simp[Obj.segs,hgs],?_,?_⟩
      ·rw[hgs] at h7;simp only[Shp.rows] at h7;omega
      ·rw[hgs] at hpos;exact hpos
     ·show _=Value.pointer (some ⟨b,off+qX (qU (h.get ob).segs) 0 (some (lo+j.toNat,1)) 0,none⟩)
      rw[hob]
      simp only[Obj.segs,shps_cons,shps_nil,qX,List.take_zero,qp,List.getElem?_cons_zero,Option.map_some,Option.getD_some,Nat.zero_add,Nat.add_zero,Nat.add_mul,hwe]
      congr 3
      omega
end
end Go.Kk
