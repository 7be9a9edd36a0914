/-
 Each operation that the pure interpreter takes is the machine's.
-/
import Derived.Test.YtcilcokdgpnkmaaGreatDoorKkS
import Derived.DeepKeys
import Derived.Laws.Strings
namespace Go.Kk
def qKt:Kd->Value
 | .i k=>.int k 0
 | .b=>.bool false
 | .str=>.string ByteArray.empty
 | .p=>.pointer none
 | .sl _=>.slice none 0 0
 | .m _ _=>.map none
 | .f=>.nilFunc
def SegT.zeros:SegT->List Value
 | .one ks=>ks.map qKt
 | .arr k n=>List.replicate n (.int k 0)
 | .barr n=>List.replicate n (.bool false)
 | .rows ks n=>(List.replicate n (ks.map fun c=>match c with
   | .i k=>Value.int k 0
   | .b=>.bool false
   | .s=>.string ByteArray.empty)).flatten
structure LayOK (P:Program) (tab:Tab) (t:TypeId) (L:Lay):Prop where
 info:∃ i z,P.info? t=some i /\ i.size=L.size /\ i.zero=some z /\ z.cells.toList=L.segTs.flatMap SegT.zeros
 desc:match L with
  | .sc kd=>∃ d,P.underlying t=some d /\ (match kd with
    | .i k=>d=.int k
    | .b=>d=.bool
    | .str=>d=.string
    | .p=>∃ e,d=.pointer e
    | .sl e=>d=.slice e
    | .m k e=>d=.map k e
    | .f=>∃ x y z,d=.func x y z)
  | .st ts fl=>∃ fs:Array Field,P.underlying t=some (.struct fs) /\ fs.size=fl.length /\ ∀ (j:Nat) (f:Field),fs[j]? = some f->∃ a b Lf,fl[j]? = some (a,b,f.type) /\ tab.get f.type=some Lf /\
    f.offset = qn ((ts.map SegT.shp).take a) + b /\ f.name ≠ "_" /\ 0 < Lf.size /\ (∃ i, P.info? f.type = some i /\ i.size = Lf.size)
  | .ar n m e sg=>P.underlying t=some (.array n e) /\ 0<m /\ 0<sg.shp.width /\ sg.shp=.tbl sg.shp.width (n*m) /\ ∃ Le i,tab.get e=some Le /\ P.info? e=some i /\ i.size=m*sg.shp.width /\ Le.size=m*sg.shp.width
 zag:∀ i z,P.info? t=some i->i.zero=some z->match L with
  | .sc _=>z.cells = #[z]
  | _=>∃ c,z=.agg c
def qT (P:Program) (o:Oper) (ρ:Rg) (h:Hp) (nx:Nat) (v:V) (up:Hp) (nx':Nat):Prop:=
 ∀ (nm:Nm) (w:World) (a:Act),(∀ x∈o.op.operands,qP ⟨nm,h,nx⟩ (ev ρ x) (a.eval x))->RelH ⟨nm,h,nx⟩ w->
   ∀ (N:Act->World->Prop) (Q:Exit->Act->World->Prop),(∀ vr nm' w',qP ⟨nm',up++h,nx'⟩ v vr->RelH ⟨nm',up++h,nx'⟩ w'->Frame' ⟨nm,h,nx⟩ w w'->
     Ext ⟨nm,h,nx⟩ ⟨nm',up++h,nx'⟩ w->N (a.put o.dst vr) w')->o.wp P a w N Q
theorem qT.pure {P:Program} {o:Oper} {ρ:Rg} {h:Hp} {nx:Nat} {v:V}
  (hp:∀ (nm:Nm) (w:World) (a:Act),(∀ x∈o.op.operands,qP ⟨nm,h,nx⟩ (ev ρ x) (a.eval x))->RelH ⟨nm,h,nx⟩ w->
   ∃ vr,(execOp a.eval o).run P w=.ok (.value vr) w /\ qP ⟨nm,h,nx⟩ v vr):qT P o ρ h nx v [] nx:=by
 intro nm w a hx hh N Q hN
 obtain⟨vr,h1,h2⟩:=hp nm w a hx hh
 unfold Oper.wp
 rw[h1]
 exact hN vr nm w h2 hh (Frame'.refl _ _) (Ext.refl hh)
theorem qiZ (e:Env) (v:Value):qP e (qOm v) v:=by
 cases v<;>simp only[qOm]
 case int k n=>
  cases hd:decide (k.wrap n=n) with
  | true=>exact⟨rfl,by simpa using hd⟩
  | false=>trivial
 case bool=>rfl
 case string=>rfl
 case pointer a=>cases a<;>trivial
 case map a=>cases a<;>trivial
 case slice a l c=>
  split
  ·rename_i hq;cases hq
  ·rename_i hq;cases hq
  ·rename_i hq;cases hq
  ·rename_i hq;cases hq
  ·rename_i hq;cases hq
  ·rename_i hq;rw[hq];rfl
  ·trivial
 all_goals trivial
theorem qMs (L:Lay):L.size=qBY L.segTs:=rfl
theorem qSG (ts:List SegT):qGH ts=qBY ts:=by
 induction ts with
 | nil=>rfl
 | cons t ts ih=>simp[qGH,qBY,qn] at ih ⊢;exact ih
theorem qcM {P:Program} {tab:Tab} {t:TypeId} {L:Lay} (hL:LayOK P tab t L) (w:World):(isAgg t).run P w=.ok L.agg w:=by
 have h:=hL.desc
 unfold isAgg
 cases L with
 | sc kd=>
   obtain⟨d,hd,hk⟩:=h
   rw[Sem.run_bind,run_underlying hd]
   cases kd<;>simp only at hk
   ·subst hk;rfl
   ·subst hk;rfl
   ·subst hk;rfl
   ·obtain⟨e,rfl⟩:=hk;rfl
   ·subst hk;rfl
   ·subst hk;rfl
   ·obtain⟨x,y,z,rfl⟩:=hk;rfl
 | st ts fl=>
   obtain⟨fs,hd,_⟩:=h
   rw[Sem.run_bind,run_underlying hd];rfl
 | ar n m e sg=>
   obtain⟨hd,_⟩:=h
   rw[Sem.run_bind,run_underlying hd];rfl
theorem qR5 {P:Program} {tab:Tab} {t:TypeId} {L:Lay} (hL:LayOK P tab t L) (w:World):(sizeOf t).run P w=.ok L.size w:=by
 obtain⟨i,z,h1,h2,_⟩:=hL.info
 simp[sizeOf,typeInfo,h1,h2]
theorem qMR {P:Program} {tab:Tab} {t:TypeId} {L:Lay} (hL:LayOK P tab t L) {w:World} {b off:Nat} {vs:List Value} (hlen:vs.length=L.size)
  (hc:∀ j u,vs[j]? = some u->w.cell? ⟨b,off+j,none⟩=some u):
  (loadVar t ⟨b,off,none⟩).run P w=.ok (match L.agg with
   | true=>.agg vs.toArray
   | false=>vs.headD undef) w:=by
 unfold loadVar
 rw[Sem.run_bind,qcM hL,Result.andThen_ok]
 cases ha:L.agg with
 | true=>
   simp only[if_true,Sem.run_bind,qR5 hL,Result.andThen_ok,<- hlen]
   rw[run_loadCells_list (P:=P) w ⟨b,off,none⟩ vs (fun j v hv=>by rw[Addr.add_lit];exact hc j v hv)]
   rfl
 | false=>
   cases L with
   | sc kd=>
     have h1:vs.length=1:=hlen
     match vs,h1 with
     | [v],_=>
       have:=hc 0 v (by simp)
       simp only[Nat.add_zero] at this
       simp[this]
   | st ts fl=>simp[Lay.agg] at ha
   | ar n m e sg=>simp[Lay.agg] at ha
theorem qZp {P:Program} {tab:Tab} {t:TypeId} {L:Lay} (hL:LayOK P tab t L) {w:World} {b off:Nat} {arr:Array Value} {T:TypeId} {v:Value}
  (hb:w.heap[b]? = some (.cells arr T (0,0))) (hlen:v.cells.toList.length=L.size) (hoff:off+v.cells.toList.length<=arr.size) (h1:∀ u∈v.cells.toList,u.oneCell'=true):
  (storeVar t ⟨b,off,none⟩ v).run P w=.ok () (w.setRow b (over arr.toList off v.cells.toList).toArray):=by
 have hst:=run_storeCells_at P b off T v.cells.toList 0 arr w hb (by simpa using hoff) h1
 simp only[Nat.add_zero] at hst
 unfold storeVar
 have hsz:v.cells.size=L.size:=by simpa using hlen
 simp only[Sem.run_bind,qR5 hL,Result.andThen_ok,hsz,ne_eq,not_true_eq_false,if_false]
 rw[hst]
 simp[over]
theorem qNQ {e:Env} {w w':World} {o b:Nat} {x':Obj} (h:RelH e w) (ho:o<e.nx) (hown:(e.h.get o).owned=true) (hsh:x'.shape=(e.h.get o).shape)
  (_hown':x'.owned=true) (hb:blk e.nm o=some b) (hobj:qS ⟨e.nm,(o,x') :: e.h,e.nx⟩ w' o) (hother:∀ k,k≠b->w'.heap[k]? = w.heap[k]?)
  (hos:w'.os=w.os) (htape:w'.tape=w.tape) (hout:w'.output=w.output) (hsize:w.heap.size<=w'.heap.size):
  RelH ⟨e.nm,(o,x') :: e.h,e.nx⟩ w' /\ Frame' e w w' /\ Ext e ⟨e.nm,(o,x') :: e.h,e.nx⟩ w:=by
 have hget:∀ q,q≠o->Hp.get ((o,x') :: e.h) q=e.h.get q:=by
  intro q hq
  simp only[Hp.get]
  have:Nat.beq o q=false:=by
   cases hbq:Nat.beq o q with
   | false=>rfl
   | true=>exact absurd (Nat.eq_of_beq_eq_true hbq) (Ne.symm hq)
  rw[this];rfl
 have hself:Hp.get ((o,x') :: e.h) o=x':=by simp[Hp.get]
 have hshape:∀ q,(Hp.get ((o,x') :: e.h) q).shape=(e.h.get q).shape:=by
  intro q
  by_cases hq:q=o
  ·subst hq;rw[hself,hsh]
  ·rw[hget q hq]
 have howned:∀ q,(Hp.get ((o,x') :: e.h) q).owned=true->(e.h.get q).owned=true:=by
  intro q hq'
  by_cases hq:q=o
  ·subst hq;exact hown
  ·rw[hget q hq] at hq';exact hq'
 have hext:Ext e ⟨e.nm,(o,x') :: e.h,e.nx⟩ w:=by
  refine⟨Nat.le_refl _,fun q _=>⟨rfl,.inl (hshape q),howned q⟩,fun q bq hq hd _=>?_⟩
  rw[hshape q,h.new q hq] at hd
  exact absurd rfl hd
 have hframe:Frame' e w w':=⟨hos,htape,hout,hsize,fun k _ hno=>hother k fun hkb=>hno o hown (hkb ▸ hb)⟩
 refine⟨⟨fun q=>?_,fun q hq=>?_,fun q q' y hne hq hq' hy=>?_,h.fix.go hframe hext.toM⟩,hframe,hext⟩
 ·by_cases hq:q=o
  ·subst hq;exact hobj
  ·by_cases hd:(e.h.get q).shape=.dead
   ·have:e.h.get q=.dead:=by cases hz:e.h.get q<;>rw[hz] at hd<;>simp[Obj.shape] at hd
    unfold qS;show match Hp.get ((o,x') :: e.h) q with | _=>_
    rw[hget q hq,this];trivial
   ·have h2:qS e w' q:=qS.frame (h.obj q) hsize fun bq hbq=>hother bq fun hbb=>by
     subst hbb
     exact h.apart o q bq (Ne.symm hq) hown hd hb hbq
    refine qS.ren (g:=id) h2 ?_ rfl fun r _ hr=>hext.same hr
    show Hp.get ((o,x') :: e.h) q=_
    rw[hget q hq]
    cases e.h.get q<;>simp[Obj.ren,qCO]
 ·have hne:q≠o:=by
   have:e.nx<=q:=hq
   omega
  show Hp.get ((o,x') :: e.h) q=.dead
  rw[hget q hne];exact h.new q hq
 ·have hq1:=howned q hq
  have hq2:(e.h.get q').shape≠.dead:=by rw[<- hshape q'];exact hq'
  exact h.apart q q' y hne hq1 hq2 hy
theorem qJ7 {e:Env} {w w':World} {up:Hp} {nm':Nm} {nx':Nat} (h:RelH e w) (hnx:e.nx<=nx') (hold:∀ o,o<e.nx->up.lookup o=none /\ nm' o=e.nm o)
  (hend:∀ o,nx'<=o->up.lookup o=none) (hobj:∀ o,e.nx<=o->o<nx'->qS ⟨nm',up++e.h,nx'⟩ w' o)
  (hblk:∀ o x,e.nx<=o->blk nm' o=some x->o=e.nx /\ w.heap.size<=x)
  (hother:∀ k,k<w.heap.size->w'.heap[k]? = w.heap[k]?) (hos:w'.os=w.os) (htape:w'.tape=w.tape) (hout:w'.output=w.output) (hsize:w.heap.size<=w'.heap.size):
  RelH ⟨nm',up++e.h,nx'⟩ w' /\ Frame' e w w' /\ Ext e ⟨nm',up++e.h,nx'⟩ w:=by
 have hget:∀ q,q<e.nx->Hp.get (up++e.h) q=e.h.get q:=fun q hq=>by rw[qu,(hold q hq).1]
 have hext:Ext e ⟨nm',up++e.h,nx'⟩ w:=by
  refine⟨hnx,fun q hq=>⟨(hold q hq).2,?_⟩,fun q x hq _ hx=>.inl (hblk q x hq hx).2⟩
  show (_ \/ _) /\ _
  rw[hget q hq]
  exact⟨.inl rfl,id⟩
 have hlive:∀ q x,(e.h.get q).shape≠.dead->q<e.nx->blk e.nm q=some x->x<w.heap.size:=fun q x hd _ hx=>qS.lt (h.obj q) hd hx
 have hframe:Frame' e w w':=⟨hos,htape,hout,hsize,fun k hk _=>hother k hk⟩
 refine⟨⟨fun q=>?_,fun q hq=>?_,fun q q' y hne hq hq' hy hy'=>?_,h.fix.go hframe hext.toM⟩,hframe,hext⟩
 ·rcases Nat.lt_or_ge q e.nx with hq | hq
  ·by_cases hd:(e.h.get q).shape=.dead
   ·have:e.h.get q=.dead:=by cases hz:e.h.get q<;>rw[hz] at hd<;>simp[Obj.shape] at hd
    unfold qS;show match Hp.get (up++e.h) q with | _=>_
    rw[hget q hq,this];trivial
   ·have h2:qS e w' q:=qS.frame (h.obj q) hsize fun bq hbq=>hother bq (hlive q bq hd hq hbq)
    refine qS.ren (g:=id) h2 ?_ (hold q hq).2 fun r _ hr=>hext.same hr
    show Hp.get (up++e.h) q=_
    rw[hget q hq]
    cases e.h.get q<;>simp[Obj.ren,qCO]
  ·rcases Nat.lt_or_ge q nx' with hq' | hq'
   ·exact hobj q hq hq'
   ·unfold qS;show match Hp.get (up++e.h) q with | _=>_
    rw[qu,hend q hq',h.new q hq];trivial
 ·show Hp.get (up++e.h) q=.dead
  rw[qu,hend q hq]
  exact h.new q (Nat.le_trans hnx hq)
 ·rcases Nat.lt_or_ge q e.nx with a | a<;>rcases Nat.lt_or_ge q' e.nx with b | b
  ·have hq1:(Hp.get (up++e.h) q).owned=true:=hq
   have hq2:(Hp.get (up++e.h) q').shape≠.dead:=hq'
   rw[hget q a] at hq1
   rw[hget q' b] at hq2
   simp only[blk,(hold q a).2,(hold q' b).2] at hy hy'
   exact h.apart q q' y hne hq1 hq2 hy hy'
  ·have hq1:(Hp.get (up++e.h) q).owned=true:=hq
   rw[hget q a] at hq1
   have h1:=(hblk q' y b hy').2
   simp only[blk,(hold q a).2] at hy
   have h2:=hlive q y (by cases hz:e.h.get q<;>rw[hz] at hq1<;>simp[Obj.owned] at hq1<;>simp[Obj.shape]) a hy
   omega
  ·have hq2:(Hp.get (up++e.h) q').shape≠.dead:=hq'
   rw[hget q' b] at hq2
   have h1:=(hblk q y a hy).2
   simp only[blk,(hold q' b).2] at hy'
   have h2:=hlive q' y hq2 b hy'
   omega
  ·exact hne ((hblk q y a hy).1.trans (hblk q' y b hy').1.symm)
section
variable {P:Program} {o:Oper} {ρ:Rg} {h:Hp} {nx:Nat}
theorem qBq {e:Env} {k:IntKind} {n:Int} {v:Value} (h:qP e (.s (.i k n)) v):v=.int k n /\ k.wrap n=n:=h
theorem qFE (k:IntKind) (n:Int):k.wrap (k.wrap n)=k.wrap n:=by
 have hb:(2:Int) ^ k.bits=256 \/ (2:Int) ^ k.bits=65536 \/ (2:Int) ^ k.bits=4294967296 \/ (2:Int) ^ k.bits=18446744073709551616:=by cases k<;>simp[IntKind.bits]
 cases k<;>simp[IntKind.wrap,IntKind.bits,IntKind.signed]<;>(repeat' split)<;>omega
theorem qNU {k:IntKind} {n:Int} (h:k.wrap n=n):k.min<=n /\ n<=k.max:=by
 cases k<;>simp[IntKind.wrap,IntKind.bits,IntKind.signed] at h<;>simp[IntKind.min,IntKind.max,IntKind.bits,IntKind.signed]<;>(try (split at h))<;>omega
theorem qCU {k:IntKind} {n:Int} (h1:k.min<=n) (h2:n<=k.max):k.wrap n=n:=by
 cases k<;>simp[IntKind.min,IntKind.max,IntKind.bits,IntKind.signed] at h1 h2<;>simp[IntKind.wrap,IntKind.bits,IntKind.signed]<;>(try split)<;>omega
theorem qfX {k k':IntKind} {n:Int} (hw:IntKind.within k k'=true) (h:k.wrap n=n):k'.wrap n=n:=by
 obtain⟨h1,h2⟩:=qNU h
 apply qCU<;>cases k<;>cases k'<;>simp[IntKind.within] at hw<;>simp[IntKind.min,IntKind.max,IntKind.bits,IntKind.signed] at h1 h2 ⊢ <;> omega
theorem qqm {R:Type} {op:BinOp} {k:IntKind} {a d:Int} {K:S->Option R} {r:R} (h:qDM op k a d K=some r) (ha:k.wrap a=a) (hd:op=.shl \/ op=.shr \/ k.wrap d=d)
  (t:TypeId) (x y:Operand) (kd:IntKind) (hk:op=.shl \/ op=.shr \/ kd=k):
  ∃ z vr,K z=some r /\ (∀ (w:World),(do eqGuard op t x y (.int k a) (.int kd d);binOp op t (.int k a) (.int kd d)).run P w=.ok vr w) /\ ∀ e,qR e z vr:=by
 have hg:∀ w,(eqGuard op t x y (.int k a) (.int kd d)).run P w=.ok () w:=by
  intro w
  unfold eqGuard
  split<;>rfl
 have tm:k.wrap d=d->k.wrap (a.tmod d)=a.tmod d:=by
  intro hd
  obtain⟨a1,a2⟩:=qNU ha
  obtain⟨d1,d2⟩:=qNU hd
  have h0:k.min<=0:=by cases k<;>simp[IntKind.min,IntKind.bits,IntKind.signed]
  have h3:0<=k.max:=by cases k<;>simp[IntKind.max,IntKind.bits,IntKind.signed]
  rcases Int.le_total 0 a with hpos | hneg
  ·have b1:=Int.tmod_nonneg d hpos
   have b2:a.tmod d<=a:=by
    have h5:=Int.natAbs_tmod a d
    have h6:=Nat.mod_le a.natAbs d.natAbs
    omega
   exact qCU (by omega) (by omega)
  ·have b1:a.tmod d<=0:=by
    have:=Int.tmod_nonneg d (show 0 <= -a by omega)
    rw[Int.neg_tmod] at this;omega
   have b2:a<=a.tmod d:=by
    have h5:=Int.natAbs_tmod a d
    have h6:=Nat.mod_le a.natAbs d.natAbs
    omega
   exact qCU (by omega) (by omega)
 have fd:∀ n:Nat,k.wrap (a.fdiv (2 ^ n))=a.fdiv (2 ^ n):=by
  intro n
  obtain⟨a1,a2⟩:=qNU ha
  have hp:(0:Int)<2 ^ n:=Int.pow_pos (by omega)
  have h0:k.min<=0:=by cases k<;>simp[IntKind.min,IntKind.bits,IntKind.signed]
  rw[Int.fdiv_eq_ediv_of_nonneg _ (Int.le_of_lt hp)]
  rcases Int.le_total 0 a with hpos | hneg
  ·have b1:=Int.ediv_nonneg hpos (Int.le_of_lt hp)
   have b2:=Int.ediv_le_self (2 ^ n) hpos
   exact qCU (by omega) (by omega)
  ·have b1:a<=a / 2 ^ n:=by
    rw[Int.le_ediv_iff_mul_le hp]
    have h7:(1:Int)<=2 ^ n:=hp
    have h8:0<=(-a)*(2 ^ n - 1):=Int.mul_nonneg (by omega) (by omega)
    have h9:(-a)*(2 ^ n - 1)=a - a*2 ^ n:=by rw[Int.mul_sub,Int.neg_mul];omega
    omega
   have b2:a / 2 ^ n<=0:=by
    have:=Int.ediv_le_ediv hp hneg
    simpa using this
   have h3:0<=k.max:=by cases k<;>simp[IntKind.max,IntKind.bits,IntKind.signed]
   exact qCU (by omega) (by omega)
 have bt:∀ op,k.wrap (qF op k a d)=qF op k a d:=by
  intro op
  cases op<;>simp only[qF]<;>exact qFE _ _
 cases op<;>simp only[qDM] at h<;>simp only[Sem.run_bind,hg,Result.andThen_ok]
 case add => obtain rfl:kd=k:=by simpa using hk
             exact⟨_,_,h,fun w=>by simp[binOp,Op.intArith],fun e=>⟨rfl,qFE _ _⟩⟩
 case sub => obtain rfl:kd=k:=by simpa using hk
             exact⟨_,_,h,fun w=>by simp[binOp,Op.intArith],fun e=>⟨rfl,qFE _ _⟩⟩
 case mul => obtain rfl:kd=k:=by simpa using hk
             exact⟨_,_,h,fun w=>by simp[binOp,Op.intArith],fun e=>⟨rfl,qFE _ _⟩⟩
 case quo=>
  obtain rfl:kd=k:=by simpa using hk
  cases hz:decide (d=0) with
  | true=>rw[hz] at h;cases h
  | false=>
    rw[hz] at h
    have hz:d≠0:=by simpa using hz
    exact⟨_,_,h,fun w=>by simp[binOp,Op.intDiv,hz],fun e=>⟨rfl,qFE _ _⟩⟩
 case rem=>
  obtain rfl:kd=k:=by simpa using hk
  cases hz:decide (d=0) with
  | true=>rw[hz] at h;cases h
  | false=>
    rw[hz] at h
    have hz:d≠0:=by simpa using hz
    exact⟨_,_,h,fun w=>by simp[binOp,Op.intDiv,hz],fun e=>⟨rfl,tm (by simpa using hd)⟩⟩
 case and => obtain rfl:kd=k:=by simpa using hk
             exact⟨_,_,h,fun w=>by simp[binOp,Op.intBits,qF],fun e=>⟨rfl,bt _⟩⟩
 case or => obtain rfl:kd=k:=by simpa using hk
            exact⟨_,_,h,fun w=>by simp[binOp,Op.intBits,qF],fun e=>⟨rfl,bt _⟩⟩
 case xor => obtain rfl:kd=k:=by simpa using hk
             exact⟨_,_,h,fun w=>by simp[binOp,Op.intBits,qF],fun e=>⟨rfl,bt _⟩⟩
 case andNot => obtain rfl:kd=k:=by simpa using hk
                exact⟨_,_,h,fun w=>by simp[binOp,Op.intBits,qF],fun e=>⟨rfl,bt _⟩⟩
 case shl=>
  cases hz:decide (d<0) with
  | true=>rw[hz] at h;cases h
  | false=>
    rw[hz] at h
    have hz:¬ d<0:=by simpa using hz
    exact⟨_,_,h,fun w=>by simp[binOp,Op.shift,hz],fun e=>⟨rfl,qFE _ _⟩⟩
 case shr=>
  cases hz:decide (d<0) with
  | true=>rw[hz] at h;cases h
  | false=>
    rw[hz] at h
    have hz:¬ d<0:=by simpa using hz
    exact⟨_,_,h,fun w=>by simp[binOp,Op.shift,hz],fun e=>⟨rfl,fd _⟩⟩
 case eql => obtain rfl:kd=k:=by simpa using hk
             exact⟨_,_,h,fun w=>by simp[binOp,Op.intCmp],fun e=>rfl⟩
 case neq => obtain rfl:kd=k:=by simpa using hk
             exact⟨_,_,h,fun w=>by simp[binOp,Op.intCmp],fun e=>rfl⟩
 case lss => obtain rfl:kd=k:=by simpa using hk
             exact⟨_,_,h,fun w=>by simp[binOp,Op.intCmp],fun e=>rfl⟩
 case leq => obtain rfl:kd=k:=by simpa using hk
             exact⟨_,_,h,fun w=>by simp[binOp,Op.intCmp],fun e=>rfl⟩
 case gtr => obtain rfl:kd=k:=by simpa using hk
             exact⟨_,_,h,fun w=>by simp[binOp,Op.intCmp],fun e=>rfl⟩
 case geq => obtain rfl:kd=k:=by simpa using hk
             exact⟨_,_,h,fun w=>by simp[binOp,Op.intCmp],fun e=>rfl⟩
theorem qmr {x:Operand} {op:UnOp} {t:TypeId} {y z:S} (ho:o.op=.unOp op t x) (hx:ev ρ x=.s y) (hz:unE op y=some z):qT P o ρ h nx (.s z) [] nx:=
 qT.pure fun nm w a hr _=>by
  have h1:=hr x (by simp[ho,Op.operands])
  rw[hx] at h1
  cases y<;>simp only[unE] at hz<;>try cases hz
  ·rename_i k n
   obtain⟨h1,h2⟩:=qBq h1
   cases op<;>simp only at hz<;>cases hz
   ·exact⟨_,by simp[execOp,ho,h1,Op.unary,Op.intArith],⟨rfl,qFE _ _⟩⟩
   ·exact⟨_,by simp only[execOp,ho,h1,Op.unary,Op.intBits,qF,Sem.run_bind,Sem.run_pure,Result.andThen_ok],⟨rfl,qFE _ _⟩⟩
  ·rename_i b
   have h1:a.eval x=.bool b:=h1
   cases op<;>simp only at hz<;>cases hz
   exact⟨_,by simp[execOp,ho,h1,Op.unary],rfl⟩
theorem qmP {tab:Tab} (htab:∀ t L,tab.get t=some L->LayOK P tab t L) {x:Operand} {src dst:TypeId} {k k':IntKind} {n:Int} (ho:o.op=.convert src dst x) (hx:ev ρ x=.s (.i k n))
  (hd:tab.get dst=some (.sc (.i k'))) (hs:∃ d,P.underlying src=some d):qT P o ρ h nx (.s (.i k' (conv k k' n))) [] nx:=
 qT.pure fun nm w a hr _=>by
  have h1:=hr x (by simp[ho,Op.operands])
  rw[hx] at h1
  obtain⟨h1,h2⟩:=qBq h1
  obtain⟨d,hd1,hd2⟩:=(htab dst _ hd).desc
  simp only at hd2
  subst hd2
  obtain⟨d',hs⟩:=hs
  refine⟨.int k' (k'.wrap n),?_,?_⟩
  ·simp[execOp,ho,h1,convert,run_underlying hs,run_underlying hd1,Conv.intToInt]
  ·unfold conv
   cases hw:IntKind.within k k' with
   | true=>exact⟨by rw[cond_true,qfX hw h2],qfX hw h2⟩
   | false=>exact⟨rfl,qFE _ _⟩
theorem qmm {x:Operand} {ob sg:Nat} {row:Option (Nat×Nat)} {col:Nat} (ho:o.op=.nilCheck x) (hx:ev ρ x=.s (.ptr ob sg row col)) (hl:(h.get ob).shape≠.dead):
  qT P o ρ h nx (.s (.ptr ob sg row col)) [] nx:=
 qT.pure fun nm w a hr _=>by
  have h1:=hr x (by simp[ho,Op.operands])
  rw[hx] at h1
  have h2:∃ q,a.eval x=.pointer (some q):=by
   obtain⟨_,h2⟩:=h1
   cases hsh:(h.get ob).shape with
   | dead=>exact absurd hsh hl
   | cells sh=>simp only[hsh] at h2;obtain⟨_,b,off,cap,_,h⟩:=h2;exact⟨_,h⟩
   | sli s=>simp only[hsh] at h2;obtain⟨_,b,off,cap,_,h⟩:=h2;exact⟨_,h⟩
   | map=>simp only[hsh] at h2
  obtain⟨q,h2⟩:=h2
  refine⟨.pointer (some q),by simp[execOp,ho,h2],?_⟩
  rw[<- h2];exact h1
theorem qmT {x:Operand} {j:Nat} {l:List W} {y:W} (ho:o.op=.extract x j) (hx:ev ρ x=.tup l) (hj:l[j]? = some y):qT P o ρ h nx y.v [] nx:=
 qT.pure fun nm w a hr _=>by
  have h1:=hr x (by simp[ho,Op.operands])
  rw[hx] at h1
  obtain⟨arr,h2,h3⟩:=h1
  obtain⟨v,hv,hr⟩:=qC.get j h3 hj
  refine⟨v,?_,hr.v⟩
  have hv':arr[j]? = some v:=by simpa using hv
  simp[execOp,ho,h2,Instr.extract,hv']
end
theorem qG7 {e:Env} {v:V} {x:Value} (h:qP e v x) (hv:v.good=true):qC (qR e) v.flat x.cells.toList /\ v.ok /\ (∀ u∈x.cells.toList,u.oneCell'=true):=by
 have one:∀ (l:List S) (m:List Value),qC (qR e) l m->(∀ s∈l,s.good=true)->∀ u∈m,u.oneCell'=true:=by
  intro l
  induction l with
  | nil=>intro m hm _ u hu;cases m with
    | nil=>cases hu
    | cons _ _=>exact hm.elim
  | cons s l ih=>intro m hm hg u hu;cases m with
    | nil=>cases hu
    | cons y m=>
      rcases List.mem_cons.1 hu with rfl | hu
      ·exact qR.oneCell hm.1 (hg s (by simp))
      ·exact ih m hm.2 (fun z hz=>hg z (by simp[hz])) u hu
 cases v with
 | tup l=>cases hv
 | s s=>
   have h1:s.good=true:=hv
   have h2:=qR.oneCell (show qR e s x from h) h1
   have:x.cells = #[x]:=by cases x<;>simp[Value.oneCell'] at h2<;>rfl
   rw[this]
   refine⟨⟨h,trivial⟩,trivial,fun u hu=>?_⟩
   simp at hu
   rw[hu];exact h2
 | agg l=>
   obtain⟨arr,rfl,h1,h2⟩:=h
   refine⟨h1,h2,one _ _ h1 fun s hs=>?_⟩
   obtain⟨g,hg,hsg⟩:=List.mem_flatMap.1 hs
   have hgg:g.good=true:=List.all_eq_true.1 hv g hg
   cases g with
   | one vs=>exact List.all_eq_true.1 hgg s hsg
   | arr k n l=>obtain⟨_,_,rfl⟩:=List.mem_map.1 hsg;rfl
   | barr n l=>obtain⟨_,_,rfl⟩:=List.mem_map.1 hsg;rfl
   | rows ks n xs=>
     obtain⟨r,_,hr⟩:=List.mem_flatMap.1 hsg
     have:∀ (ks:List CK) (r:List Int) (s:S),s∈mks ks r->s.good=true:=by
      intro ks
      induction ks with
      | nil=>intro r s hs;simp[mks] at hs
      | cons c ks ih=>
        intro r s hs
        rcases List.mem_cons.1 hs with rfl | hs
        ·cases c<;>rfl
        ·exact ih _ _ hs
     exact this ks r s hr
theorem qG8 {e:Env} {l:List S} {m:List Value} (h:qC (qR e) l m):∀ s∈l,s.rng:=by
 induction l generalizing m with
 | nil=>intro s hs;cases hs
 | cons x l ih=>
   intro s hs
   cases m with
   | nil=>exact h.elim
   | cons y m=>
     rcases List.mem_cons.1 hs with rfl | hs
     ·cases s<;>first | trivial | exact h.1.2
     ·exact ih h.2 s hs
theorem qsD {l:List Seg} (h:oks l):qNB l=(qf l).length:=by
 rw[qHx h]
 induction l with
 | nil=>rfl
 | cons g l ih=>simp[qNB,qn,ih (qAX.1 h).2]
theorem qNA {tab:Tab} {t:TypeId} {v:V} (h:qCp (tab.get t) v=true) (hv:v.ok):∃ L,tab.get t=some L /\ v.flat.length=L.size:=by
 cases hL:tab.get t with
 | none=>rw[hL] at h;cases h
 | some L=>
   rw[hL] at h
   refine⟨L,rfl,?_⟩
   simp only[qCp] at h
   cases v with
   | tup l=>simp[V.size?] at h
   | s x=>simp[V.size?,Lay.sizeN,qSG] at h;simpa[V.flat,qMs] using h
   | agg l=>simp[V.size?,Lay.sizeN,qSG,qsD hv] at h;simpa[V.flat,qMs] using h
section
variable {P:Program} {o:Oper} {ρ:Rg} {h:Hp} {nx:Nat}
theorem qhp {nm:Nm} {w:World} {t:TypeId} {l:List Seg} {arr:Array Value} (hh:RelH ⟨nm,h,nx⟩ w) (hok:oks l) (hr:qC (qR ⟨nm,h,nx⟩) (qf l) arr.toList):
  ∃ nm',nm' nx=some (w.heap.size,0,0) /\ RelH ⟨nm',[(nx,.cells t l)]++h,nx+1⟩ (w.alloc (.cells arr t)) /\ Frame' ⟨nm,h,nx⟩ w (w.alloc (.cells arr t)) /\
    Ext ⟨nm,h,nx⟩ ⟨nm',[(nx,.cells t l)]++h,nx+1⟩ w:=by
 let nm':Nm:=fun q=>if q=nx then some (w.heap.size,0,0) else if q<nx then nm q else none
 have hlook:∀ q,q≠nx->List.lookup q [(nx,Obj.cells t l)]=none:=fun q hq=>by simp[List.lookup,beq_eq_false_iff_ne.2 hq]
 have hself:List.lookup nx [(nx,Obj.cells t l)]=some (.cells t l):=by simp[List.lookup]
 have hsame:∀ q,q<nx->qA3 ⟨nm,h,nx⟩ ⟨nm',[(nx,.cells t l)]++h,nx+1⟩ id q:=by
  intro q hq
  refine⟨Nat.lt_succ_of_lt hq,.inr ⟨?_,?_⟩⟩
  ·show (Hp.get (_++h) q).shape=_
   rw[qu,hlook q (by omega)]
  ·show nm' q=nm q
   simp only[nm'];rw[if_neg (by omega),if_pos hq]
 refine⟨nm',by simp[nm'],qJ7 hh (Nat.le_succ _) (fun q hq=>⟨hlook q (by have:q<nx:=hq;omega),?_⟩) (fun q hq=>hlook q (by omega)) (fun q hq hq'=>?_) (fun q x hq hx=>?_) (fun k hk=>by simp only[World.alloc,Array.getElem?_push,Nat.ne_of_lt hk,if_false]) rfl rfl rfl (by simp)⟩
 ·have hq:q<nx:=hq
  simp only[nm'];rw[if_neg (by omega),if_pos hq]
 ·have e1:q=nx:=by have:nx<=q:=hq;omega
  subst e1
  have hg:Hp.get ([(q,Obj.cells t l)]++h) q=.cells t l:=by rw[qu,hself]
  unfold qS
  dsimp only
  rw[hg]
  refine⟨hok,w.heap.size,arr,by simp[nm'],heap_alloc_new w _,?_⟩
  have:=qG6 (g:=id) hr fun r _ hr'=>hsame r hr'
  rwa [qCO] at this
 ·have hq:nx<=q:=hq
  simp only[blk,nm'] at hx
  by_cases e1:q=nx
  ·subst e1;simp at hx;exact⟨rfl,by omega⟩
  ·rw[if_neg e1,if_neg (by omega)] at hx;cases hx
theorem qmO {x:Operand} {t:TypeId} {l:List Seg} (ho:o.op=.box t x) (hl:(ev ρ x).segs? = some l) (hg:(ev ρ x).good=true):
  qT P o ρ h nx (.s (.ptr nx 0 none 0)) [(nx,.cells t l)] (nx+1):=by
 intro nm w a hr hh N Q hN
 have h1:=hr x (by simp[ho,Op.operands])
 obtain⟨c1,c2,c3⟩:=qG7 h1 hg
 have hfl:qf l=(ev ρ x).flat:=by
  cases hv:ev ρ x<;>rw[hv] at hl<;>simp[V.segs?] at hl<;>subst hl<;>simp[V.flat,Seg.flat]
 have hok:oks l:=by
  cases hv:ev ρ x<;>rw[hv] at hl c2<;>simp[V.segs?] at hl<;>subst hl
  ·exact qAX.2 ⟨trivial,qCh⟩
  ·exact c2
 obtain⟨nm',n1,n2,n3,n4⟩:=qhp (t:=t) (arr:=(a.eval x).cells) hh hok (by rw[hfl];exact c1)
 unfold Oper.wp
 have hrun:(execOp a.eval o).run P w=.ok (.value (.pointer (some ⟨w.heap.size,0,none⟩))) (w.alloc (.cells (a.eval x).cells t)):=by
  simp[execOp,ho,Instr.box,newVar,newRow]
 rw[hrun]
 refine hN _ nm' _ ?_ n2 n3 n4
 refine⟨Nat.lt_succ_self _,?_⟩
 show match (Hp.get ([(nx,Obj.cells t l)]++h) nx).shape with | _=>_
 have:Hp.get ([(nx,Obj.cells t l)]++h) nx=.cells t l:=by rw[qu];simp[List.lookup]
 rw[this]
 refine⟨trivial,w.heap.size,0,0,n1,?_⟩
 simp[qd,qn]
theorem qQb {e:Env} {w:World} {ob sg:Nat} {row:Option (Nat×Nat)} {col:Nat} {v:Value} {t:TypeId} {l:List Seg} (hh:RelH e w) (hv:qR e (.ptr ob sg row col) v)
  (ho:e.h.get ob=.cells t l \/ e.h.get ob=.rcells t l):∃ b arr,e.nm ob=some (b,0,0) /\ w.heap[b]? = some (.cells arr t (0,0)) /\ qC (qR e) (qf l) arr.toList /\ oks l /\ qIu (qX l) sg row col /\
   v=.pointer (some ⟨b,qd (qX l) sg row col,none⟩):=by
 have h1:=hh.obj ob
 unfold qS at h1
 obtain⟨_,h6⟩:=hv
 rcases ho with ho | ho <;>
 ·rw[ho] at h1
  obtain⟨h2,b,arr,h3,h4,h5⟩:=h1
  rw[ho] at h6
  obtain⟨h7,b',off,cap,h8,h9⟩:=h6
  rw[h3] at h8
  cases h8
  exact⟨b,arr,h3,h4,h5,h2,h7,by simpa using h9⟩
theorem qNL {α:Type} {l:List α} {off n j:Nat} {u:α} (h:(sub l off n)[j]? = some u):l[off+j]? = some u /\ j<n:=by
 unfold sub at h
 rw[List.getElem?_take] at h
 split at h
 ·rw[List.getElem?_drop] at h;exact⟨h,by assumption⟩
 ·cases h
theorem qJ2 {e:Env} {segs:List Seg} {off:Nat} {L:Lay} {v:V} {vs:List Value} (hl:Loaded segs off L v) (hc:qC (qR e) (sub (qf segs) off L.size) vs):
  qP e v (match L.agg with
   | true=>.agg vs.toArray
   | false=>vs.headD undef):=by
 rw[<- hl.flat] at hc
 cases ha:L.agg with
 | true=>
   obtain⟨l,rfl,_⟩:=hl.agg ha
   exact⟨vs.toArray,rfl,by simpa[V.flat] using hc,hl.ok⟩
 | false=>
   obtain⟨s,rfl⟩:=hl.sc ha
   cases vs with
   | nil=>exact hc.elim
   | cons x vs=>exact hc.1
theorem qYl {tab:Tab} (htab:∀ t L,tab.get t=some L->LayOK P tab t L) {x:Operand} {t T:TypeId} {ob sg:Nat} {row:Option (Nat×Nat)} {col:Nat} {l:List Seg} {L:Lay} {v:V}
  (ho:o.op=.load t x) (hx:ev ρ x=.s (.ptr ob sg row col)) (hob:h.get ob=.cells T l \/ h.get ob=.rcells T l) (hL:tab.get t=some L) (hv:loadAt l sg row col L=some v):qT P o ρ h nx v [] nx:=
 qT.pure fun nm w a hr hh=>by
  have h1:=hr x (by simp[ho,Op.operands])
  rw[hx] at h1
  obtain⟨b,arr,_,c2,c3,c4,c5,c6⟩:=qQb hh h1 hob
  have hld:=qJ1 hv c4 c5
  have hlen:(sub arr.toList (qd (qX l) sg row col) L.size).length=L.size:=by
   have:=qC.length c3
   have:=hld.len
   simp[sub];simp at *;omega
  have hrun:=qMR (P:=P) (w:=w) (b:=b) (off:=qd (qX l) sg row col) (htab t L hL) hlen fun j u hu=>by
   obtain⟨g1,_⟩:=qNL hu
   simp only[World.cell?,c2]
   simpa using g1
  refine⟨_,?_,qJ2 hld (qC.take _ (qC.drop _ c3))⟩
  simp only[execOp,ho,c6,Instr.loadAt,Instr.sureAddr,Sem.run_bind,Sem.run_pure,Result.andThen_ok,hrun]
  rfl
theorem qC.over {α β:Type} {R:α->β->Prop} {l:List α} {m:List β} {off:Nat} {a:List α} {b:List β} (h:qC R l m) (h':qC R a b):qC R (over l off a) (over m off b):=by
 unfold Kk.over
 have:=qC.length h'
 rw[this]
 exact qC.append (qC.append (qC.take _ h) h') (qC.drop _ h)
theorem qSx (l:List Seg) (sg:Nat) (row:Option (Nat×Nat)) (col:Nat) (v:V):stk l sg row col v=v \/ ∃ o lo len,v=.s (.sl o lo len true) /\ stk l sg row col v=.s (.sl o lo len false):=by
 unfold stk
 split
 ·cases qYx l[sg]? col with
  | true=>exact .inr ⟨_,_,_,rfl,rfl⟩
  | false=>exact .inl rfl
 ·exact .inl rfl
theorem qs9 (l:List Seg) (sg:Nat) (row:Option (Nat×Nat)) (col:Nat) {e:Env} {v:V} {u:Value} (h:qP e v u):qP e (stk l sg row col v) u:=by
 rcases qSx l sg row col v with h1 | ⟨o,lo,len,h1,h2⟩
 ·rw[h1];exact h
 ·rw[h2]
  rw[h1] at h
  obtain⟨h3,h4⟩:=h
  refine⟨h3,?_⟩
  cases hs:(e.h.get o).shape<;>rw[hs] at h4<;>simp only at h4 ⊢
  ·exact h4
  ·unfold qAE at h4 ⊢
   split at h4
   ·exact h4
   ·obtain⟨c,c1,c2,c3,_⟩:=h4
    exact⟨c,c1,c2,c3,fun h=>by cases h⟩
theorem qs8 (l:List Seg) (sg:Nat) (row:Option (Nat×Nat)) (col:Nat) (v:V):(stk l sg row col v).good=v.good:=by
 rcases qSx l sg row col v with h1 | ⟨o,lo,len,h1,h2⟩
 ·rw[h1]
 ·rw[h2,h1];rfl
theorem qs7 (l:List Seg) (sg:Nat) (row:Option (Nat×Nat)) (col:Nat) {L:Option Lay} (v:V):qCp L (stk l sg row col v)=qCp L v:=by
 rcases qSx l sg row col v with h1 | ⟨o,lo,len,h1,h2⟩
 ·rw[h1]
 ·rw[h2,h1];cases L<;>rfl
theorem qmp {tab:Tab} (htab:∀ t L,tab.get t=some L->LayOK P tab t L) {x y:Operand} {t T:TypeId} {ob sg:Nat} {row:Option (Nat×Nat)} {col:Nat} {l l':List Seg}
  (ho:o.op=.store t x y) (hx:ev ρ x=.s (.ptr ob sg row col)) (hob:h.get ob=.cells T l) (hg:(ev ρ y).good=true) (hsz:qCp (tab.get t) (ev ρ y)=true)
  (hv:storeAt l sg row col (stk l sg row col (ev ρ y))=some l'):qT P o ρ h nx qCq [(ob,.cells T l')] nx:=by
 intro nm w a hr hh N Q hN
 have h1:=hr x (by simp[ho,Op.operands])
 rw[hx] at h1
 have h2:=qs9 l sg row col (hr y (by simp[ho,Op.operands]))
 rw[<- qs8 l sg row col] at hg
 rw[<- qs7 l sg row col] at hsz
 obtain⟨b,arr,c1,c2,c3,c4,c5,c6⟩:=qQb hh h1 (.inl hob)
 obtain⟨d1,d2,d3⟩:=qG7 h2 hg
 have hst:=qGP hv c4 c5 d2 (qG8 d1)
 obtain⟨L,hL,hLs⟩:=qNA hsz d2
 have hcl:=qC.length c3
 have hdl:=qC.length d1
 have hrun:=qZp (P:=P) (v:=a.eval y) (off:=qd (qX l) sg row col) (htab t L hL) c2 (by omega) (by have:=hst.len;simp at *;omega) d3
 let w':=w.setRow b (over arr.toList (qd (qX l) sg row col) (a.eval y).cells.toList).toArray
 have hrel:=qNQ (e:=⟨nm,h,nx⟩) (w:=w) (w':=w') (o:=ob) (b:=b) (x':=.cells T l') hh h1.1 (by show (h.get ob).owned=true;rw[hob];rfl) (by show _=(h.get ob).shape;rw[hob];simp[Obj.shape,hst.shp]) rfl
  (by show (nm ob).map (·.1)=some b;rw[show nm ob=_ from c1];rfl) (by
   unfold qS
   show match Hp.get ((ob,Obj.cells T l') :: h) ob with | _=>_
   have:Hp.get ((ob,Obj.cells T l') :: h) ob=.cells T l':=by simp[Hp.get]
   rw[this]
   refine⟨hst.ok,b,_,c1,setRow_heap w b arr _ T (0,0) c2,?_⟩
   rw[hst.flat]
   have base:qC (qR ⟨nm,h,nx⟩) (over (qf l) (qd (qX l) sg row col) (stk l sg row col (ev ρ y)).flat) (over arr.toList (qd (qX l) sg row col) (a.eval y).cells.toList):=qC.over c3 d1
   refine qC.mono (fun s u hu=>?_) base
   have hsame:∀ q,q<nx->qA3 ⟨nm,h,nx⟩ ⟨nm,(ob,.cells T l') :: h,nx⟩ id q:=by
    intro q hq
    refine⟨hq,.inr ⟨?_,rfl⟩⟩
    show (Hp.get ((ob,Obj.cells T l') :: h) q).shape=(h.get q).shape
    by_cases hqo:q=ob
    ·subst hqo;rw[this,hob];simp[Obj.shape,hst.shp]
    ·simp only[Hp.get]
     have:Nat.beq ob q=false:=by
      cases hbq:Nat.beq ob q with
      | false=>rfl
      | true=>exact absurd (Nat.eq_of_beq_eq_true hbq) (Ne.symm hqo)
     rw[this];rfl
   have:=qR.ren (g:=id) hu fun r _ hr'=>hsame r hr'
   rwa [S.ren_id] at this)
  (fun k hk=>setRow_other w b k _ hk) rfl rfl rfl (by simp[w'])
 unfold Oper.wp
 have hex:(execOp a.eval o).run P w=.ok .skip w':=by
  simp only[execOp,ho,c6,Instr.storeAt,Instr.sureAddr,Sem.run_bind,Sem.run_pure,Result.andThen_ok,hrun]
  rfl
 rw[hex]
 exact hN undef nm w' ⟨#[],rfl,trivial⟩ hrel.1 hrel.2.1 hrel.2.2
end
theorem qBO {e:Env} {ob sg:Nat} {row:Option (Nat×Nat)} {col:Nat} {v:Value} (hm:(e.h.get ob).isMem=true):
  qR e (.ptr ob sg row col) v↔ob<e.nx /\ qFG e.nm ob (qX (e.h.get ob).segs) sg row col v:=by
 cases hx:e.h.get ob with
 | dead=>rw[hx] at hm;cases hm
 | map a b c=>rw[hx] at hm;cases hm
 | iter a b=>rw[hx] at hm;cases hm
 | cells t l=>simp only[qR,hx,Obj.shape,Obj.segs]
 | rcells t l=>simp only[qR,hx,Obj.shape,Obj.segs]
 | sli t ro g=>simp only[qR,hx,Obj.shape,Obj.segs,shps_cons,shps_nil]
theorem qQF {x:Obj} {sg:Nat} {g:Seg} (h:x.segs[sg]? = some g):x.isMem=true:=by
 cases x<;>simp[Obj.segs] at h<;>rfl
section
variable {P:Program} {o:Oper} {ρ:Rg} {h:Hp} {nx:Nat} {tab:Tab}
theorem qR4 {t:TypeId} {ts:List SegT} {fl:List (Nat×Nat×TypeId)} {f fs fc:Nat} {ft:TypeId} (hL:LayOK P tab t (.st ts fl)) (hf:fl[f]? = some (fs,fc,ft)) (w:World) (b off:Nat):
  (Instr.fieldAt t (.pointer (some ⟨b,off,none⟩)) f).run P w=.ok (.pointer (some ⟨b,off+(qn ((ts.map SegT.shp).take fs)+fc),none⟩)) w:=by
 obtain⟨fls,hu,hsz,hall⟩:=hL.desc
 have hlt:f<fls.size:=by rw[hsz];exact getElem?_lt hf
 have hg:fls[f]? = some fls[f]:=Array.getElem?_eq_getElem hlt
 obtain⟨a,b',Lf,h1,_,h3,_,h5,i,h6,h7⟩:=hall f _ hg
 rw[hf] at h1
 simp only[Option.some.injEq,Prod.mk.injEq] at h1
 obtain⟨rfl,rfl,rfl⟩:=h1
 unfold Instr.fieldAt
 rw[Sem.run_bind,run_underlying hu]
 simp only[Result.andThen_ok,hg,Sem.run_bind,Instr.sureAddr,Sem.run_pure,fieldPlace,sizeOf,typeInfo,run_program,h6]
 have:¬ i.size=0:=by omega
 simp only[this,if_false,Sem.run_pure,Result.andThen_ok,Addr.add_lit,h3]
theorem qmW {x:Operand} {t:TypeId} {f fs fc:Nat} {ft:TypeId} {ts:List SegT} {fl:List (Nat×Nat×TypeId)} {ob sg col:Nat} (hL:LayOK P tab t (.st ts fl))
  (ho:o.op=.fieldAddr t x f) (hx:ev ρ x=.s (.ptr ob sg none col)) (hf:fl[f]? = some (fs,fc,ft)) (hm:(h.get ob).isMem=true) (hz:fs=0):
  qT P o ρ h nx (.s (.ptr ob sg none (col+fc))) [] nx:=
 qT.pure fun nm w a hr _=>by
  subst hz
  have h1:=hr x (by simp[ho,Op.operands])
  rw[hx] at h1
  obtain⟨h2,h3,b,off,cap,h4,h5⟩:=(qBO (e:=⟨nm,h,nx⟩) hm).1 h1
  refine⟨_,by simp only[execOp,ho,h5,Sem.run_bind,qR4 hL hf,Result.andThen_ok];rfl,(qBO (e:=⟨nm,h,nx⟩) hm).2 ⟨h2,trivial,b,off,cap,h4,?_⟩⟩
  simp only[qd,List.take_zero,qn,Nat.zero_add]
  rw[show off+(qn (List.take sg (qX (h.get ob).segs))+col)+fc=off+(qn (List.take sg (qX (h.get ob).segs))+(col+fc)) by omega]
theorem qmV {x:Operand} {t:TypeId} {f fs fc:Nat} {ft:TypeId} {ts:List SegT} {fl:List (Nat×Nat×TypeId)} {ob sg:Nat} (hL:LayOK P tab t (.st ts fl))
  (ho:o.op=.fieldAddr t x f) (hx:ev ρ x=.s (.ptr ob sg none 0)) (hf:fl[f]? = some (fs,fc,ft)) (hm:(h.get ob).isMem=true)
  (hfit:qBc (((h.get ob).segs.drop sg).take fs) (ts.take fs)=true):
  qT P o ρ h nx (.s (.ptr ob (sg+fs) none fc)) [] nx:=
 qT.pure fun nm w a hr _=>by
  have h1:=hr x (by simp[ho,Op.operands])
  rw[hx] at h1
  obtain⟨h2,h3,b,off,cap,h4,h5⟩:=(qBO (e:=⟨nm,h,nx⟩) hm).1 h1
  refine⟨_,by simp only[execOp,ho,h5,Sem.run_bind,qR4 hL hf,Result.andThen_ok];rfl,(qBO (e:=⟨nm,h,nx⟩) hm).2 ⟨h2,trivial,b,off,cap,h4,?_⟩⟩
  have hs:=qLU hfit
  have e1:qn (List.take (sg+fs) (qX (h.get ob).segs))=qn (List.take sg (qX (h.get ob).segs))+qn ((ts.map SegT.shp).take fs):=by
   rw[List.take_add,qsF,<- List.map_take,<- hs]
   congr 2
   simp[qX,List.map_drop]
  simp only[qd,Nat.add_zero,e1]
  rw[show off+qn (List.take sg (qX (h.get ob).segs))+(qn ((ts.map SegT.shp).take fs)+fc)=off+(qn (List.take sg (qX (h.get ob).segs))+qn ((ts.map SegT.shp).take fs)+fc) by omega]
theorem qfV {x:Obj} {sg k:Nat} (h:k<qDd x sg):∃ w n,(qX x.segs)[sg]? = some (.tbl w n) /\ w=qDd x sg:=by
 unfold qDd at h ⊢
 cases hg:x.segs[sg]? with
 | none=>simp[hg] at h
 | some g=>
   rw[hg] at h
   have:=qAM hg
   cases g with
   | one vs=>simp at h
   | arr k n l=>exact⟨_,_,this,rfl⟩
   | barr n l=>exact⟨_,_,this,rfl⟩
   | rows ks n xs=>exact⟨_,_,this,rfl⟩
theorem qch {x:Obj} {sg:Nat} {s:Shp} (h:(qX x.segs)[sg]? = some s):x.isMem=true:=by
 cases hg:x.segs[sg]? with
 | none=>simp[qX,hg] at h
 | some g=>exact qQF hg
theorem qmX {x:Operand} {t:TypeId} {f fs fc:Nat} {ft:TypeId} {ts:List SegT} {fl:List (Nat×Nat×TypeId)} {ob sg col:Nat} {r:Nat×Nat} (hL:LayOK P tab t (.st ts fl))
  (ho:o.op=.fieldAddr t x f) (hx:ev ρ x=.s (.ptr ob sg (some r) col)) (hf:fl[f]? = some (fs,fc,ft)) (hw:col+qGH (ts.take fs)+fc<qDd (h.get ob) sg):
  qT P o ρ h nx (.s (.ptr ob sg (some r) (col+qGH (ts.take fs)+fc))) [] nx:=
 qT.pure fun nm w a hr _=>by
  obtain⟨j,lim⟩:=r
  obtain⟨wd,n,hsh,hwd⟩:=qfV hw
  have hm:=qch hsh
  have h1:=hr x (by simp[ho,Op.operands])
  rw[hx] at h1
  obtain⟨h2,⟨h3,w',n',g1,g2,g3⟩,b,off,cap,h4,h5⟩:=(qBO (e:=⟨nm,h,nx⟩) hm).1 h1
  have g1:(qX (h.get ob).segs)[sg]? = some (.tbl w' n'):=g1
  rw[hsh] at g1
  cases g1
  refine⟨_,by simp only[execOp,ho,h5,Sem.run_bind,qR4 hL hf,Result.andThen_ok];rfl,(qBO (e:=⟨nm,h,nx⟩) hm).2 ⟨h2,⟨h3,wd,n,hsh,g2,by omega⟩,b,off,cap,h4,?_⟩⟩
  simp only[qd,qSG,qBY,List.map_take]
  congr 3
  omega
theorem qMm {t:TypeId} {n m:Nat} {e:TypeId} {sg:SegT} (hL:LayOK P tab t (.ar n m e sg)) (w:World) (b off:Nat) (k:IntKind) {j:Int} (hj:inB j n=true):
  (Instr.indexAt t (.pointer (some ⟨b,off,none⟩)) (.int k j)).run P w=.ok (.pointer (some ⟨b,off+j.toNat*(m*sg.shp.width),none⟩)) w:=by
 obtain⟨hu,_,_,_,Le,i,_,hi,hs,_⟩:=hL.desc
 simp only[inB,Bool.and_eq_true,decide_eq_true_eq] at hj
 unfold Instr.indexAt
 simp only[asIntOf,Sem.run_bind,Sem.run_pure,Result.andThen_ok,run_underlying hu,Instr.sureAddr]
 rw[if_pos ⟨hj.1,hj.2⟩]
 simp only[sizeOf,typeInfo,Sem.run_bind,Sem.run_pure,Result.andThen_ok,run_program,hi,hs,Addr.add_lit]
theorem qql {t e:TypeId} (hu:P.underlying t=some (.slice e)) {i:TypeInfo} (hi:P.info? e=some i) (w:World) (b off len cap:Nat) (k:IntKind) {j:Int} (hj:inB j len=true):
  (Instr.indexAt t (.slice (some ⟨b,off,none⟩) len cap) (.int k j)).run P w=.ok (.pointer (some ⟨b,off+j.toNat*i.size,none⟩)) w:=by
 simp only[inB,Bool.and_eq_true,decide_eq_true_eq] at hj
 unfold Instr.indexAt
 simp only[asIntOf,Sem.run_bind,Sem.run_pure,Result.andThen_ok,run_underlying hu]
 rw[if_pos ⟨hj.1,hj.2⟩]
 simp only[sizeOf,typeInfo,Sem.run_bind,Sem.run_pure,Result.andThen_ok,run_program,hi,Addr.add_lit]
theorem qmb {x y:Operand} {t e:TypeId} {n m:Nat} {tg:SegT} {ob sg:Nat} {k:IntKind} {j:Int} (hL:LayOK P tab t (.ar n m e tg))
  (ho:o.op=.indexAddr t x y) (hx:ev ρ x=.s (.ptr ob sg none 0)) (hy:ev ρ y=.s (.i k j)) (hj:inB j n=true) (hf:qLV ((h.get ob).segs[sg]?) tg=true):
  qT P o ρ h nx (.s (.ptr ob sg (some (j.toNat*m,m)) 0)) [] nx:=
 qT.pure fun nm w a hr _=>by
  cases hg:(h.get ob).segs[sg]? with
  | none=>rw[hg] at hf;cases hf
  | some g=>
    rw[hg] at hf
    have hsh:=qLW hf
    have hm:=qQF hg
    have h1:=hr x (by simp[ho,Op.operands])
    rw[hx] at h1
    have h1':=hr y (by simp[ho,Op.operands])
    rw[hy] at h1'
    obtain⟨h1',_⟩:=qBq h1'
    obtain⟨h2,h3,b,off,cap,h4,h5⟩:=(qBO (e:=⟨nm,h,nx⟩) hm).1 h1
    obtain⟨_,hm0,hwpos,htg,_⟩:=hL.desc
    have hgs:(qX (h.get ob).segs)[sg]? = some (.tbl tg.shp.width (n*m)):=by rw[qAM hg,hsh,htg];rfl
    have hj':=hj
    simp only[inB,Bool.and_eq_true,decide_eq_true_eq] at hj'
    have hjn:j.toNat*m+m<=n*m:=by
     have:j.toNat+1<=n:=by omega
     have:=Nat.mul_le_mul_right m this
     rw[Nat.add_mul] at this;omega
    refine⟨_,by simp only[execOp,ho,h5,h1',Sem.run_bind,qMm hL w b _ k hj,Result.andThen_ok];rfl,
     (qBO (e:=⟨nm,h,nx⟩) hm).2 ⟨h2,⟨hm0,_,_,hgs,hjn,hwpos⟩,b,off,cap,h4,?_⟩⟩
    simp only[qd,hgs,Option.map_some,Option.getD_some,Shp.width,Nat.add_zero]
    rw[Nat.mul_assoc]
    congr 3
    omega
theorem qjd:fx.all (fun p=>p.2.2.all fun n=>p.2.1.wrap n==n)=true:=by decide +kernel
theorem qWY {g:Nat} {k:IntKind} {l:List Int}:∀ {f:List (Nat×IntKind×List Int)},qJr g f=some (k,l)->∃ g',(g',k,l)∈f
 | [],h=>by cases h
 | (k',x) :: r,h=>by
   simp only[qJr] at h
   cases hb:Nat.beq k' g with
   | true=>rw[hb] at h;simp only[cond_true,Option.some.injEq] at h;subst h;exact⟨k',by simp⟩
   | false=>rw[hb] at h;obtain⟨g',hg⟩:=qWY (f:=r) h;exact⟨g',by simp[hg]⟩
theorem qjc {g:Nat} {k:IntKind} {l:List Int} (h:qBd g=some (k,l)) {j:Nat} (hj:j<l.length):k.wrap (l.getD j 0)=l.getD j 0:=by
 obtain⟨g',hm⟩:=qWY h
 have:=qjd
 rw[List.all_eq_true] at this
 have:=this _ hm
 simp only[List.all_eq_true,beq_iff_eq] at this
 rw[List.getD_eq_getElem?_getD,List.getElem?_eq_getElem hj]
 exact this _ (List.getElem_mem _)
theorem qma {x y:Operand} {t e:TypeId} {n n':Nat} {k':IntKind} {g:Nat} {k kj:IntKind} {l:List Int} {j:Int} (hL:LayOK P tab t (.ar n 1 e (.arr k' n')))
  (ho:o.op=.indexAddr t x y) (hx:ev ρ x=.s (.gp g 0)) (hy:ev ρ y=.s (.i kj j)) (hj:inB j n=true) (hg:qBd g=some (k,l)) (hn:l.length=n):
  qT P o ρ h nx (.s (.gp g j.toNat)) [] nx:=
 qT.pure fun nm w a hr _=>by
  have h1:=hr x (by simp[ho,Op.operands])
  rw[hx] at h1
  have h1':=hr y (by simp[ho,Op.operands])
  rw[hy] at h1'
  obtain⟨h1',_⟩:=qBq h1'
  obtain⟨h5,_⟩:a.eval x=.pointer (some ⟨g,0,none⟩) /\ _:=h1
  have hj':=hj
  simp only[inB,Bool.and_eq_true,decide_eq_true_eq] at hj'
  refine⟨_,by simp only[execOp,ho,h5,h1',Sem.run_bind,qMm hL w g 0 kj hj,Result.andThen_ok];rfl,?_,k,l,hg,by omega⟩
  simp[SegT.shp,Shp.width]
theorem qmf {x:Operand} {t:TypeId} {g j:Nat} {k:IntKind} {l:List Int} (hL:LayOK P tab t (.sc (.i k)))
  (ho:o.op=.load t x) (hx:ev ρ x=.s (.gp g j)) (hg:qBd g=some (k,l)):qT P o ρ h nx (.s (.i k (l.getD j 0))) [] nx:=
 qT.pure fun nm w a hr hh=>by
  have h1:=hr x (by simp[ho,Op.operands])
  rw[hx] at h1
  obtain⟨c6,k',l',hg',hj⟩:a.eval x=.pointer (some ⟨g,j,none⟩) /\ ∃ k l,qBd g=some (k,l) /\ j<l.length:=h1
  rw[hg] at hg'
  cases hg'
  obtain⟨⟨arr,t',fr,c2,c3⟩,_⟩:=hh.fix g k l hg
  have hrun:=qMR (P:=P) (w:=w) (b:=g) (off:=j) hL (vs:=[.int k (l.getD j 0)]) rfl fun i u hu=>by
   cases i with
   | succ i=>simp at hu
   | zero=>
     simp only[List.getElem?_cons_zero,Option.some.injEq] at hu
     subst hu
     simp only[World.cell?,c2,Nat.add_zero]
     rw[<- Array.getElem?_toList,c3,List.getElem?_map,List.getElem?_eq_getElem hj,List.getD_eq_getElem?_getD,List.getElem?_eq_getElem hj]
     rfl
  refine⟨.int k (l.getD j 0),?_,rfl,qjc hg hj⟩
  simp only[execOp,ho,c6,Instr.loadAt,Instr.sureAddr,Sem.run_bind,Sem.run_pure,Result.andThen_ok,hrun]
  rfl
theorem qmc {x y:Operand} {t e:TypeId} {n m:Nat} {tg:SegT} {ob sg r lim col:Nat} {k:IntKind} {j:Int} (hL:LayOK P tab t (.ar n m e tg))
  (ho:o.op=.indexAddr t x y) (hx:ev ρ x=.s (.ptr ob sg (some (r,lim)) col)) (hy:ev ρ y=.s (.i k j)) (hj:inB j n=true) (hw:qDd (h.get ob) sg=1) (hlim:n*m<=lim)
  (htw:tg.shp.width=1):qT P o ρ h nx (.s (.ptr ob sg (some (r+j.toNat*m,m)) col)) [] nx:=
 qT.pure fun nm w a hr _=>by
  obtain⟨wd,n0,hsh,hwd⟩:=qfV (x:=h.get ob) (sg:=sg) (k:=0) (by omega)
  have hm:=qch hsh
  have h1:=hr x (by simp[ho,Op.operands])
  rw[hx] at h1
  have h1':=hr y (by simp[ho,Op.operands])
  rw[hy] at h1'
  obtain⟨h1',_⟩:=qBq h1'
  obtain⟨h2,⟨h3,w',n',g1,g2,g3⟩,b,off,cap,h4,h5⟩:=(qBO (e:=⟨nm,h,nx⟩) hm).1 h1
  have g1:(qX (h.get ob).segs)[sg]? = some (.tbl w' n'):=g1
  rw[hsh] at g1
  cases g1
  rw[hw] at hwd
  subst hwd
  obtain⟨_,hm0,_,_,_⟩:=hL.desc
  have hj':=hj
  simp only[inB,Bool.and_eq_true,decide_eq_true_eq] at hj'
  have hjn:j.toNat*m+m<=n*m:=by
   have:j.toNat+1<=n:=by omega
   have:=Nat.mul_le_mul_right m this
   rw[Nat.add_mul] at this;omega
  refine⟨_,by simp only[execOp,ho,h5,h1',Sem.run_bind,qMm hL w b _ k hj,Result.andThen_ok];rfl,
   (qBO (e:=⟨nm,h,nx⟩) hm).2 ⟨h2,⟨hm0,_,_,hsh,by omega,g3⟩,b,off,cap,h4,?_⟩⟩
  rw[htw]
  simp only[qd,hsh,Option.map_some,Option.getD_some,Shp.width,Nat.mul_one]
  congr 3
  omega
theorem qqW {g:Option Seg} {col n:Nat} {t:SegT} (h:qEB g col n t=true):∃ ks nn xs k n1,g=some (.rows ks nn xs) /\ t=.arr k n1 /\ col+n<=ks.length:=by
 unfold qEB at h
 split at h
 ·refine⟨_,_,_,_,_,rfl,rfl,?_⟩
  split at h
  ·simp only[Bool.and_eq_true,Nat.ble_eq] at h;exact h.2
  ·cases h
 ·cases h
theorem qmZ {x y:Operand} {t e:TypeId} {n m:Nat} {tg:SegT} {ob sg r lim col:Nat} {k:IntKind} {j:Int} (hL:LayOK P tab t (.ar n m e tg))
  (ho:o.op=.indexAddr t x y) (hx:ev ρ x=.s (.ptr ob sg (some (r,lim)) col)) (hy:ev ρ y=.s (.i k j)) (hj:inB j n=true) (hw:qEB ((h.get ob).segs[sg]?) col (n*m) tg=true):
  qT P o ρ h nx (.s (.ptr ob sg (some (r,lim)) (col+j.toNat*m))) [] nx:=
 qT.pure fun nm w a hr _=>by
   obtain⟨ks,nn,xs,k1,n1,hg,rfl,hle⟩:=qqW hw
   have hm:=qQF hg
   have h1:=hr x (by simp[ho,Op.operands])
   rw[hx] at h1
   have h1':=hr y (by simp[ho,Op.operands])
   rw[hy] at h1'
   obtain⟨h1',_⟩:=qBq h1'
   obtain⟨h2,⟨h3,w',n',g1,g2,g3⟩,b,off,cap,h4,h5⟩:=(qBO (e:=⟨nm,h,nx⟩) hm).1 h1
   have g1:(qX (h.get ob).segs)[sg]? = some (.tbl w' n'):=g1
   have g1':=g1
   rw[qAM hg] at g1'
   simp[Seg.shp] at g1'
   obtain⟨rfl,rfl⟩:=g1'
   obtain⟨_,hm0,_,_,_⟩:=hL.desc
   have hj':=hj
   simp only[inB,Bool.and_eq_true,decide_eq_true_eq] at hj'
   have hjn:j.toNat*m+m<=n*m:=by
    have:j.toNat+1<=n:=by omega
    have:=Nat.mul_le_mul_right m this
    rw[Nat.add_mul] at this;omega
   refine⟨_,by simp only[execOp,ho,h5,h1',Sem.run_bind,qMm hL w b _ k hj,Result.andThen_ok];rfl,
    (qBO (e:=⟨nm,h,nx⟩) hm).2 ⟨h2,⟨h3,_,_,g1,g2,by omega⟩,b,off,cap,h4,?_⟩⟩
   simp only[qd,g1,Option.map_some,Option.getD_some,Shp.width,SegT.shp,Nat.mul_one]
   congr 3
   omega
end
def qCW (hp:Hp) (a b:Nat):Prop:=∀ q,(hp.lookup q=none /\ ¬(a<=q /\ q<b)) \/ (a<=q /\ q<b /\ ∃ e g,hp.lookup q=some (.sli e false g) /\ g.ok /\ g.shp.rows=0)
theorem qV9 {L:Option Lay} {g:Seg} (h:qy L=some g):g.ok /\ g.shp.rows=0:=by
 unfold qy at h
 split at h<;>try cases h
 ·exact⟨⟨rfl,fun x hx=>by cases hx⟩,rfl⟩
 ·exact⟨rfl,rfl⟩
 ·exact⟨⟨rfl,fun x hx=>by cases hx⟩,rfl⟩
 ·split at h<;>cases h
  exact⟨⟨rfl,fun x hx=>by cases hx⟩,rfl⟩
theorem qQB (a b:Hp) (q:Nat):(a++b).lookup q=match a.lookup q with
  | some x=>some x
  | none=>b.lookup q:=by
 induction a with
 | nil=>rfl
 | cons p a ih=>
   obtain⟨k,x⟩:=p
   simp only[List.cons_append,List.lookup]
   cases hq:q==k with
   | true=>rfl
   | false=>exact ih
theorem qCW.nil (a:Nat):qCW [] a a:=fun q=>.inl ⟨rfl,by omega⟩
theorem qCW.append {x y:Hp} {a b c:Nat} (h1:qCW x a b) (h2:qCW y b c) (hab:a<=b) (hbc:b<=c):qCW (x++y) a c:=by
 intro q
 rw[qQB]
 rcases h1 q with⟨e1,n1⟩ | ⟨i1,i2,e,g,e1,r⟩
 ·rw[e1]
  rcases h2 q with⟨e2,n2⟩ | ⟨j1,j2,e,g,e2,r⟩
  ·exact .inl ⟨e2,by omega⟩
  ·exact .inr ⟨by omega,j2,e,g,e2,r⟩
 ·rw[e1]
  exact .inr ⟨i1,by omega,e,g,rfl,r⟩
def qKw (e:Env) (hp:Hp) (a b:Nat):Prop:=∀ q,a<=q->q<b->q<e.nx /\ e.nm q=none /\ e.h.get q=(hp.lookup q).getD .dead
theorem quM {tab:Tab}:∀ {ks:List Kd} {a b:Nat} {l:List S} {hp:Hp},qBw tab ks a=some (l,hp,b)->
  a<=b /\ qCW hp a b /\ l.length=ks.length /\ ∀ e:Env,qKw e hp a b->qC (qR e) l (ks.map qKt):=by
 intro ks
 induction ks with
 | nil=>
   intro a b l hp h
   simp[qBw] at h
   obtain⟨rfl,rfl,rfl⟩:=h
   exact⟨Nat.le_refl _,qCW.nil _,rfl,fun e _=>trivial⟩
 | cons k ks ih=>
   intro a b l hp h
   have plain:∀ (x:S),(match (some x:Option S),qBw tab ks a with
     | some x,some (l,h,nx')=>some (x :: l,h,nx')
     | _,_=>none)=some (l,hp,b)->(∀ e,qR e x (qKt k))->
     a<=b /\ qCW hp a b /\ l.length=(k :: ks).length /\ ∀ e:Env,qKw e hp a b->qC (qR e) l ((k :: ks).map qKt):=by
    intro x hx hr
    split at hx<;>simp at hx
    rename_i x' l' h' nx' e1 e2
    cases e1
    obtain⟨rfl,rfl,rfl⟩:=hx
    obtain⟨i1,i2,i3,i4⟩:=ih e2
    exact⟨i1,i2,by simp[i3],fun e he=>⟨hr e,i4 e he⟩⟩
   cases k with
   | sl e'=>
     simp only[qBw] at h
     split at h<;>simp at h
     rename_i g l' h' nx' e1 e2
     obtain⟨rfl,rfl,rfl⟩:=h
     obtain⟨i1,i2,i3,i4⟩:=ih e2
     obtain⟨g1,g2⟩:=qV9 e1
     refine⟨by omega,fun q=>?_,by simp[i3],fun e he=>⟨?_,i4 e fun q hq hq'=>?_⟩⟩
     ·by_cases hqa:q=a
      ·subst hqa
       exact .inr ⟨Nat.le_refl _,by omega,e',g,by simp[List.lookup],g1,g2⟩
      ·have hne:(q==a)=false:=by rw[beq_eq_false_iff_ne];exact hqa
       simp only[List.lookup,hne]
       rcases i2 q with⟨e3,n3⟩ | ⟨j1,j2,r⟩
       ·exact .inl ⟨e3,by omega⟩
       ·exact .inr ⟨by omega,j2,r⟩
     ·obtain⟨n1,n2,n3⟩:=he a (Nat.le_refl _) (by omega)
      simp only[List.lookup,beq_self_eq_true,Option.getD_some] at n3
      refine⟨n1,?_⟩
      rw[n3]
      simp only[Obj.shape,qAE,n2]
      exact⟨trivial,trivial,rfl⟩
     ·obtain⟨n1,n2,n3⟩:=he q (by omega) hq'
      have hne:(q==a)=false:=by rw[beq_eq_false_iff_ne];omega
      simp only[List.lookup,hne] at n3
      exact⟨n1,n2,n3⟩
   | i k=>exact plain _ h fun e=>⟨rfl,by cases k<;>rfl⟩
   | b=>exact plain _ h fun e=>rfl
   | str=>exact plain _ h fun e=>rfl
   | p=>exact plain _ h fun e=>rfl
   | m=>exact plain _ h fun e=>rfl
   | f=>simp[qBw] at h
theorem qjK (ks:List CK) (n:Nat) (e:Env):qC (qR e) ((List.replicate n (List.replicate ks.length (0:Int))).flatMap (mks ks)) (List.replicate n (ks.map fun c=>match c with
  | .i k=>Value.int k 0
  | .b=>.bool false
  | .s=>.string ByteArray.empty)).flatten:=by
 have one:∀ ks:List CK,qC (qR e) (mks ks (List.replicate ks.length 0)) (ks.map fun c=>match c with
   | .i k=>Value.int k 0
   | .b=>.bool false
   | .s=>.string ByteArray.empty):=by
  intro ks
  induction ks with
  | nil=>trivial
  | cons c ks ih=>
    simp only[List.length_cons,List.replicate_succ,mks,List.headD_cons,List.tail_cons,List.map_cons]
    refine⟨?_,ih⟩
    cases c with
    | i k=>exact⟨rfl,by cases k<;>rfl⟩
    | b=>rfl
    | s=>rfl
 induction n with
 | zero=>trivial
 | succ n ih=>
   simp only[List.replicate_succ,List.flatMap_cons,List.flatten_cons]
   exact qC.append (one ks) ih
theorem qNV {tab:Tab}:∀ {ts:List SegT} {a b:Nat} {l:List Seg} {hp:Hp},qAZ tab ts a=some (l,hp,b)->
  a<=b /\ qCW hp a b /\ oks l /\ qX l=ts.map SegT.shp /\ ∀ e:Env,qKw e hp a b->qC (qR e) (qf l) (ts.flatMap SegT.zeros):=by
 intro ts
 induction ts with
 | nil=>
   intro a b l hp h
   simp[qAZ] at h
   obtain⟨rfl,rfl,rfl⟩:=h
   exact⟨Nat.le_refl _,qCW.nil _,qCh,rfl,fun e _=>trivial⟩
 | cons t ts ih=>
   intro a b l hp h
   cases t with
   | one ks=>
     simp only[qAZ] at h
     split at h<;>try cases h
     rename_i vs h1 m e1
     split at h<;>try cases h
     rename_i l' h2 m' e2
     obtain⟨i1,i2,i3,i4⟩:=quM e1
     obtain⟨j1,j2,j3,j4,j5⟩:=ih e2
     refine⟨by omega,i2.append j2 i1 j1,qAX.2 ⟨trivial,j3⟩,by simp[Seg.shp,SegT.shp,i3,j4],fun e he=>?_⟩
     simp only[flats_cons,List.flatMap_cons]
     refine qC.append (i4 e fun q hq hq'=>?_) (j5 e fun q hq hq'=>?_)
     ·obtain⟨n1,n2,n3⟩:=he q hq (by omega)
      rw[qQB] at n3
      rcases i2 q with⟨_,n⟩ | ⟨_,_,e0,g,e3,_⟩
      ·omega
      ·rw[e3] at n3 ⊢;exact⟨n1,n2,n3⟩
     ·obtain⟨n1,n2,n3⟩:=he q (by omega) hq'
      rw[qQB] at n3
      rcases i2 q with⟨e3,_⟩ | ⟨_,_,_⟩
      ·rw[e3] at n3;exact⟨n1,n2,n3⟩
      ·omega
   | arr k n=>
     simp only[qAZ] at h
     split at h<;>try cases h
     rename_i l' e2
     obtain⟨j1,j2,j3,j4,j5⟩:=ih e2
     have hw:k.wrap 0=0:=by cases k<;>rfl
     refine⟨j1,j2,qAX.2 ⟨⟨by simp,fun x hx=>by rw[List.eq_of_mem_replicate hx];exact hw⟩,j3⟩,by simp[Seg.shp,SegT.shp,j4],fun e he=>?_⟩
     simp only[flats_cons,List.flatMap_cons]
     refine qC.append ?_ (j5 e he)
     simp only[Seg.flat,SegT.zeros,List.map_replicate]
     clear e2 ih j5 he
     induction n with
     | zero=>trivial
     | succ n ih=>simp only[List.replicate_succ];exact⟨⟨rfl,hw⟩,ih⟩
   | barr n=>
     simp only[qAZ] at h
     split at h<;>try cases h
     rename_i l' e2
     obtain⟨j1,j2,j3,j4,j5⟩:=ih e2
     refine⟨j1,j2,qAX.2 ⟨by simp[Seg.ok],j3⟩,by simp[Seg.shp,SegT.shp,j4],fun e he=>?_⟩
     simp only[flats_cons,List.flatMap_cons]
     refine qC.append ?_ (j5 e he)
     simp only[Seg.flat,SegT.zeros,List.map_replicate]
     clear e2 ih j5 he
     induction n with
     | zero=>trivial
     | succ n ih=>simp only[List.replicate_succ];exact⟨rfl,ih⟩
   | rows ks n=>
     simp only[qAZ] at h
     split at h<;>try cases h
     rename_i l' e2
     obtain⟨j1,j2,j3,j4,j5⟩:=ih e2
     refine⟨j1,j2,qAX.2 ⟨⟨by simp,fun r hr=>?_⟩,j3⟩,by simp[Seg.shp,SegT.shp,j4],fun e he=>?_⟩
     ·rw[List.eq_of_mem_replicate hr]
      clear e2 ih j5 hr
      induction ks with
      | nil=>trivial
      | cons c ks ih=>exact⟨by cases c with | i k=>exact (by cases k<;>rfl:k.wrap 0=0) | b=>exact .inl rfl | s=>rfl,ih⟩
     ·simp only[flats_cons,List.flatMap_cons]
      exact qC.append (qjK ks n e) (j5 e he)
section
variable {P:Program} {o:Oper} {ρ:Rg} {h:Hp} {nx:Nat} {tab:Tab}
theorem qYi {t:TypeId} {L:Lay} {l:List Seg} {hp:Hp} {nx':Nat} (hL:LayOK P tab t L) (ho:o.op=.alloc t) (hz:qAZ tab L.segTs (nx+1)=some (l,hp,nx')):
  qT P o ρ h nx (.s (.ptr nx 0 none 0)) ((nx,.cells t l) :: hp) nx':=by
 intro nm w a _ hh N Q hN
 obtain⟨i,z,hi,_,hzz,hzc⟩:=hL.info
 obtain⟨z1,z2,z3,_,z5⟩:=qNV hz
 let nm':Nm:=fun q=>if q=nx then some (w.heap.size,0,0) else if q<nx then nm q else none
 let e':Env:=⟨nm',((nx,.cells t l) :: hp)++h,nx'⟩
 have hl0:List.lookup nx ((nx,Obj.cells t l) :: hp)=some (.cells t l):=by simp[List.lookup]
 have hl1:∀ q,q≠nx->List.lookup q ((nx,Obj.cells t l) :: hp)=hp.lookup q:=fun q hq=>by simp[List.lookup,beq_eq_false_iff_ne.2 hq]
 have hlow:∀ q,q<nx+1->hp.lookup q=none:=fun q hq=>by
  rcases z2 q with⟨e1,_⟩ | ⟨e1,_,_⟩
  ·exact e1
  ·omega
 have hhigh:∀ q,nx'<=q->hp.lookup q=none:=fun q hq=>by
  rcases z2 q with⟨e1,_⟩ | ⟨_,e1,_⟩
  ·exact e1
  ·omega
 have hrel:=qJ7 (e:=⟨nm,h,nx⟩) (w:=w) (w':=w.alloc (.cells z.cells t)) (up:=(nx,.cells t l) :: hp) (nm':=nm') (nx':=nx') hh (by show nx<=nx';omega)
  (fun q hq=>⟨by have hq:q<nx:=hq;rw[hl1 q (by omega)];exact hlow q (by omega),by have hq:q<nx:=hq;simp only[nm'];rw[if_neg (by omega),if_pos hq]⟩)
  (fun q hq=>by rw[hl1 q (by omega)];exact hhigh q hq)
  (fun q hq hq'=>by
   have hq:nx<=q:=hq
   by_cases e1:q=nx
   ·subst e1
    have hg:e'.h.get q=.cells t l:=by show Hp.get (_++h) q=_;rw[qu,hl0]
    have hnq:e'.nm q=some (w.heap.size,0,0):=by simp[e',nm']
    show qS e' _ q
    unfold qS
    rw[hg]
    refine⟨z3,w.heap.size,z.cells,hnq,heap_alloc_new w _,?_⟩
    rw[hzc]
    refine z5 e' fun r hr hr'=>⟨by show r<nx';omega,by simp only[e',nm'];rw[if_neg (by omega),if_neg (by omega)],?_⟩
    show Hp.get (_++h) r=_
    rw[qu,hl1 r (by omega)]
    rcases z2 r with⟨_,n⟩ | ⟨_,_,e0,g,e3,_⟩
    ·omega
    ·rw[e3];rfl
   ·have hnq:e'.nm q=none:=by simp only[e',nm'];rw[if_neg e1,if_neg (by omega)]
    rcases z2 q with⟨_,n⟩ | ⟨_,_,e0,g,e3,g1,g2⟩
    ·omega
    ·have hg:e'.h.get q=.sli e0 false g:=by show Hp.get (_++h) q=_;rw[qu,hl1 q e1,e3]
     show qS e' _ q
     unfold qS
     rw[hg,hnq]
     exact⟨g1,g2⟩)
  (fun q x hq hx=>by
   have hq:nx<=q:=hq
   simp only[blk,nm'] at hx
   by_cases e1:q=nx
   ·subst e1;simp at hx;exact⟨rfl,by omega⟩
   ·rw[if_neg e1,if_neg (by omega)] at hx;cases hx)
  (fun k hk=>by simp only[World.alloc,Array.getElem?_push,Nat.ne_of_lt hk,if_false]) rfl rfl rfl (by simp)
 unfold Oper.wp
 have hrun:(execOp a.eval o).run P w=.ok (.value (.pointer (some ⟨w.heap.size,0,none⟩))) (w.alloc (.cells z.cells t)):=by
  simp[execOp,ho,Instr.alloc,zeroValue,typeInfo,hi,hzz,newVar,newRow]
 rw[hrun]
 refine hN _ nm' _ ?_ hrel.1 hrel.2.1 hrel.2.2
 refine (qBO (e:=e') ?_).2 ⟨by show nx<nx';omega,trivial,w.heap.size,0,0,by simp[e',nm'],?_⟩
 ·show (Hp.get (_++h) nx).isMem=true
  rw[qu,hl0];rfl
 ·simp[qd,qn]
end
def CKv (c:CK) (v:Value):Prop:=match c with
 | .i k=>∃ n,v=.int k n
 | .b=>∃ x,v=.bool x
 | .s=>∃ x,v=.string x
def ceq:List Value->List Value->Bool
 | .int _ a :: r,.int _ b :: s=>(a==b)&&ceq r s
 | .bool a :: r,.bool b :: s=>(a==b)&&ceq r s
 | .string a :: r,.string b :: s=>(a==b)&&ceq r s
 | [],[]=>true
 | _,_=>false
theorem qJe:∀ {ck:List CK} {a b c d:List Value},qC CKv ck a->qC CKv ck b->ceq (a++c) (b++d)=(ceq a b&&ceq c d):=by
 intro ck
 induction ck with
 | nil=>
   intro a b c d ha hb
   cases a with
   | cons _ _=>exact ha.elim
   | nil=>cases b with
     | cons _ _=>exact hb.elim
     | nil=>simp[ceq]
 | cons k ck ih=>
   intro a b c d ha hb
   cases a with
   | nil=>exact ha.elim
   | cons x a=>cases b with
     | nil=>exact hb.elim
     | cons y b=>
       have h:=ih (c:=c) (d:=d) ha.2 hb.2
       cases k with
       | i k=>
         obtain⟨n,rfl⟩:=ha.1
         obtain⟨m,rfl⟩:=hb.1
         simp only[List.cons_append,ceq,h,Bool.and_assoc]
       | b=>
         obtain⟨n,rfl⟩:=ha.1
         obtain⟨m,rfl⟩:=hb.1
         simp only[List.cons_append,ceq,h,Bool.and_assoc]
       | s=>
         obtain⟨n,rfl⟩:=ha.1
         obtain⟨m,rfl⟩:=hb.1
         simp only[List.cons_append,ceq,h,Bool.and_assoc]
def qGo (g:TypeId->Option (List CK)):List Field->Nat->Option (List CK)
 | [],_=>some []
 | f :: r, off => match g f.type, decide (f.name ≠ "_" /\ f.offset = off) with
   | some l,true=>match qGo g r (off+l.length) with
     | some m=>some (l++m)
     | none=>none
   | _,_=>none
def qHo (P:Program) (g:TypeId->Option (List CK)) (t:TypeId):Option (List CK):=match P.underlying t with
 | some .bool=>some [CK.b]
 | some (.int k)=>some [.i k]
 | some .string=>some [.s]
 | some (.array n e)=>match g e with
   | some l=>some (List.replicate n l).flatten
   | none=>none
 | some (.struct fs)=>match P.stoodInHeld t with
   | true=>none
   | false=>qGo g fs.toList 0
 | _=>none
def qBE (P:Program):Nat->TypeId->Option (List CK)
 | 0,_=>none
 | f + 1,t=>match qHo P (qBE P f) t,P.info? t with
   | some l,some i=>match decide (i.size=l.length) with
     | true=>some l
     | false=>none
   | _,_=>none
def qAu (P:Program) (t:TypeId):Bool:=match P.underlying t with
 | some (.struct _)=>true
 | some (.array _ _)=>true
 | _=>false
def mkV (P:Program) (t:TypeId) (xs:List Value):Value:=match qAu P t with
 | true=>.agg xs.toArray
 | false=>xs.headD undef
theorem qJF {P:Program} {f:Nat} {t:TypeId} {ck:List CK} (h:qBE P f t=some ck):∃ f',f=f'+1 /\ qHo P (qBE P f') t=some ck /\ ∃ i,P.info? t=some i /\ i.size=ck.length:=by
 cases f with
 | zero=>cases h
 | succ f=>
   refine⟨f,rfl,?_⟩
   unfold qBE at h
   split at h<;>try cases h
   rename_i l i hl hi
   split at h<;>cases h
   rename_i hd
   exact⟨hl,i,hi,by simpa using hd⟩
theorem qIv {P:Program} {f:Nat} {t:TypeId} {ck:List CK} (h:qBE P f t=some ck) (w:World) (cs:List Value) (off:Nat) (hl:off+ck.length<=cs.length):
  (part t cs.toArray off).run P w=.ok (mkV P t (sub cs off ck.length)) w:=by
 obtain⟨f,rfl,hc,i,hi,hs⟩:=qJF h
 have hu:∃ d,P.underlying t=some d /\ (qAu P t=true \/ ck.length=1):=by
  unfold qHo at hc
  cases hd:P.underlying t with
  | none=>rw[hd] at hc;cases hc
  | some d=>
    refine⟨d,rfl,?_⟩
    rw[hd] at hc
    unfold qAu
    rw[hd]
    cases d<;>simp only at hc ⊢ <;> first | exact .inl trivial | (cases hc;exact .inr rfl) | cases hc
 obtain⟨d,hd,hk⟩:=hu
 have hag:(isAgg t).run P w=.ok (qAu P t) w:=by
  unfold isAgg qAu
  rw[Sem.run_bind,run_underlying hd,hd]
  cases d<;>rfl
 unfold part mkV
 rw[Sem.run_bind,hag,Result.andThen_ok]
 cases ha:qAu P t with
 | true=>
   have he:cs.toArray.extract off (off+ck.length)=(sub cs off ck.length).toArray:=by
    apply Array.ext'
    rw[Array.toList_extract]
    simp only[sub,List.take_drop]
    rw[show off+(off+ck.length - off)=off+ck.length by omega]
   simp only[if_true,Sem.run_bind,sizeOf,typeInfo,run_program,hi,Result.andThen_ok,Sem.run_pure,hs,he]
 | false=>
   have h1:ck.length=1:=by
    rcases hk with hk | hk
    ·rw[hk] at ha;cases ha
    ·exact hk
   have hlt:off<cs.length:=by omega
   simp only[Bool.false_eq_true,if_false]
   have hg:cs.toArray[off]? = some cs[off]:=by simp[hlt]
   have hsub:sub cs off ck.length=[cs[off]]:=by rw[h1];exact qHQ (List.getElem?_eq_getElem hlt)
   rw[hg,hsub]
   rfl
theorem qLO {α:Type} (l:List α) (a n:Nat):l.drop a=sub l a n++l.drop (a+n):=by
 unfold sub
 rw[<- List.drop_drop,List.take_append_drop]
theorem qHZ {α β:Type} {R:α->β->Prop} {pre a post:List α} {m:List β} (h:qC R (pre++(a++post)) m):qC R a (sub m pre.length a.length) /\ qC R post (m.drop (pre.length+a.length)) /\ pre.length+a.length+post.length=m.length:=by
 have h1:=qC.drop pre.length h
 rw[List.drop_left] at h1
 have h2:=qC.take a.length h1
 rw[List.take_left] at h2
 have h3:=qC.drop a.length h1
 rw[List.drop_left,List.drop_drop] at h3
 have h4:=qC.length h
 simp at h4
 exact⟨h2,h3,by omega⟩
theorem qel (s:ByteArray):s.toList=s.data.toList:=ByteArray.toList_eq s
theorem qtX (s t:ByteArray):(s.toList==t.toList)=(s==t):=by
 rw[qNw,qel,qel]
 cases s;cases t
 rw[Bool.eq_iff_iff]
 simp
theorem qWC {P:Program}:∀ (f:Nat) (t:TypeId) (ck:List CK),qBE P f t=some ck->∀ (d:Nat),f<=d->∀ (xs ys:List Value),qC CKv ck xs->qC CKv ck ys->∀ w:World,
  (Op.equalIn d t (mkV P t xs) (mkV P t ys)).run P w=.ok (ceq xs ys) w:=by
 intro f
 induction f with
 | zero=>intro t ck h;cases h
 | succ f ih=>
   intro t ck h d hd xs ys hx hy w
   obtain⟨d,rfl⟩:∃ m,d=m+1:=⟨d - 1,by omega⟩
   obtain⟨f',e1,hc,i,hi,hs⟩:=qJF h
   cases e1
   unfold qHo at hc
   unfold mkV qAu
   cases hu:P.underlying t with
   | none=>rw[hu] at hc;cases hc
   | some desc=>
     rw[hu] at hc
     cases desc<;>simp only at hc<;>try cases hc
     ·match xs,ys,hx,hy with
      | [x],[y],hx,hy=>
        obtain⟨a,rfl⟩:=hx.1
        obtain⟨b,rfl⟩:=hy.1
        simp only[List.headD_cons]
        rw[run_equalIn_bool' w d t a b hu]
        simp[ceq]
     ·match xs,ys,hx,hy with
      | [x],[y],hx,hy=>
        obtain⟨a,rfl⟩:=hx.1
        obtain⟨b,rfl⟩:=hy.1
        simp only[List.headD_cons]
        rw[run_equalIn_int w d t _ _ a b hu]
        simp[ceq]
     ·match xs,ys,hx,hy with
      | [x],[y],hx,hy=>
        obtain⟨a,rfl⟩:=hx.1
        obtain⟨b,rfl⟩:=hy.1
        simp only[List.headD_cons]
        rw[run_equalIn_string w d t a b hu]
        simp[ceq,qtX]
     ·rename_i n e
      split at hc<;>cases hc
      rename_i le hle
      obtain⟨_,_,_,ie,hie,hse⟩:=qJF hle
      simp only
      rw[run_equalIn_array w d xs.toArray ys.toArray hu hie]
      have hco:P.cellsOf e=le.length:=by simp[Program.cellsOf,hie,hse]
      rw[hco]
      have key:∀ (m i:Nat) (pre:List CK),i+m=n->pre.length=i*le.length->(List.replicate n le).flatten=pre++(List.replicate m le).flatten->
        (Op.eqItems d e le.length xs.toArray ys.toArray (List.range' i m)).run P w=.ok (ceq (xs.drop (i*le.length)) (ys.drop (i*le.length))) w:=by
       intro m
       induction m with
       | zero=>
         intro i pre him hp he
         have h1:xs.drop (i*le.length)=[]:=List.drop_eq_nil_of_le (by
          have:=qC.length hx;rw[he] at this;simp at this;omega)
         have h2:ys.drop (i*le.length)=[]:=List.drop_eq_nil_of_le (by
          have:=qC.length hy;rw[he] at this;simp at this;omega)
         simp[Op.eqItems,h1,h2,ceq]
       | succ m ihm=>
         intro i pre him hp he
         have he':=he
         rw[List.replicate_succ,List.flatten_cons] at he'
         rw[he'] at hx hy
         obtain⟨x1,x2,x3⟩:=qHZ hx
         obtain⟨y1,y2,y3⟩:=qHZ hy
         rw[hp] at x1 x2 x3 y1 y2 y3
         have hnext:=ihm (i+1) (pre++le) (by omega) (by rw[List.length_append,hp,Nat.add_mul];omega) (by rw[he',List.append_assoc])
         simp only[List.range'_succ,Op.eqItems,Sem.run_bind,qIv hle w xs (i*le.length) (by omega),qIv hle w ys (i*le.length) (by omega),Result.andThen_ok,
          ih e le hle d (by omega) _ _ x1 y1 w]
         rw[qLO xs (i*le.length) le.length,qLO ys (i*le.length) le.length,qJe x1 y1]
         cases hq:ceq (sub xs (i*le.length) le.length) (sub ys (i*le.length) le.length) with
         | false=>simp
         | true=>
           simp only[Bool.not_true,Bool.false_eq_true,if_false,Bool.true_and]
           rw[hnext]
           congr 3<;>rw[Nat.add_mul,Nat.one_mul]
      have:=key n 0 [] (by omega) (by simp) (by simp)
      simpa[List.range_eq_range'] using this
     ·rename_i fs
      split at hc<;>try cases hc
      rename_i hst
      have hfs:P.fieldsOf t=fs:=by simp[Program.fieldsOf,hu]
      rw[run_equalIn_struct w d t _ _ (by rw[hfs];exact hu) hst,hfs]
      have key:∀ (l:List Field) (off:Nat) (pre post:List CK),qGo (qBE P f) l off=some post->pre.length=off->ck=pre++post->
        (Op.eqFields d xs.toArray ys.toArray l).run P w=.ok (ceq (xs.drop off) (ys.drop off)) w:=by
       intro l
       induction l with
       | nil=>
         intro off pre post hl hp he
         simp[qGo] at hl
         subst hl
         have h1:xs.drop off=[]:=List.drop_eq_nil_of_le (by have:=qC.length hx;rw[he] at this;simp at this;omega)
         have h2:ys.drop off=[]:=List.drop_eq_nil_of_le (by have:=qC.length hy;rw[he] at this;simp at this;omega)
         simp[Op.eqFields,h1,h2,ceq]
       | cons fd l ihl=>
         intro off pre post hl hp he
         simp only[qGo] at hl
         split at hl<;>try cases hl
         rename_i le hle hdec
         split at hl<;>cases hl
         rename_i m hm
         simp only[decide_eq_true_eq] at hdec
         obtain⟨hn,hof⟩:=hdec
         rw[he] at hx hy
         obtain⟨x1,x2,x3⟩:=qHZ hx
         obtain⟨y1,y2,y3⟩:=qHZ hy
         rw[hp] at x1 x2 x3 y1 y2 y3
         have hnext:=ihl (off+le.length) (pre++le) m hm (by simp[hp]) (by rw[he,List.append_assoc])
         simp only[Op.eqFields,hn,ne_eq,not_false_eq_true,if_true,Sem.run_bind,hof,qIv hle w xs off (by omega),qIv hle w ys off (by omega),Result.andThen_ok,
          ih fd.type le hle d (by omega) _ _ x1 y1 w]
         rw[qLO xs off le.length,qLO ys off le.length,qJe x1 y1]
         cases hq:ceq (sub xs off le.length) (sub ys off le.length) with
         | false=>simp
         | true=>
           simp only[Bool.not_true,Bool.false_eq_true,if_false,Bool.true_and]
           exact hnext
      have:=key fs.toList 0 [] ck hc rfl rfl
      simpa using this
def qBU:List SegT->Option (List CK)
 | []=>some []
 | t :: r=>match (match t with
   | .one ks=>kcks? ks
   | .arr k n=>some (List.replicate n (.i k))
   | .barr n=>some (List.replicate n .b)
   | .rows ks n=>some (List.replicate n ks).flatten),qBU r with
   | some a,some b=>some (a++b)
   | _,_=>none
theorem qmz {e : Env}:∀ {a b:List S} {ks:List Kd} {xs ys:List Value} {z:Bool},qB2 a ks=true->qB2 b ks=true->ones? a b=some z->qC (qR e) a xs->qC (qR e) b ys->
  ∃ ck,kcks? ks=some ck /\ qC CKv ck xs /\ qC CKv ck ys /\ ceq xs ys=z:=by
 intro a
 induction a with
 | nil =>
   intro b ks xs ys z h1 h2 h3 h4 h5
   cases ks with
   | cons _ _=>simp[qB2] at h1
   | nil => cases b with
     | cons _ _=>simp[qB2] at h2
     | nil=>
       cases xs with
       | cons _ _=>exact h4.elim
       | nil=>cases ys with
         | cons _ _=>exact h5.elim
         | nil=>simp[ones?] at h3;subst h3;exact⟨[],rfl,trivial,trivial,rfl⟩
 | cons s a ih =>
   intro b ks xs ys z h1 h2 h3 h4 h5
   cases b with
   | nil=>cases a<;>simp[ones?] at h3
   | cons s' b =>
     cases ks with
     | nil=>simp[qB2] at h1
     | cons k ks =>
       cases xs with
       | nil=>exact h4.elim
       | cons x xs=>cases ys with
         | nil=>exact h5.elim
         | cons y ys=>
           have hz:∃ z1 z2,s.eq? s'=some z1 /\ ones? a b=some z2 /\ z=(z1&&z2):=by
            cases a with
            | nil=>cases b with
              | nil=>simp only[ones?] at h3;exact⟨z,true,h3,rfl,by simp⟩
              | cons _ _=>
                exfalso
                have a1:ks=[]:=by cases ks with
                 | nil=>rfl
                 | cons _ _=>cases s<;>cases k<;>simp[qB2] at h1
                subst a1
                cases s'<;>cases k<;>simp[qB2] at h2
            | cons s2 a=>
              cases b with
              | nil=>
                exfalso
                simp only[ones?] at h3
                split at h3
                ·rename_i heq;simp at heq
                ·cases h3
              | cons s3 b=>
                simp only[ones?] at h3
                split at h3<;>cases h3
                rename_i z1 z2 e1 e2
                exact⟨z1,z2,e1,by simpa only[ones?] using e2,rfl⟩
           obtain⟨z1,z2,e1,e2,rfl⟩:=hz
           have mk1:∀ (c:CK),k.ck? = some c->qB2 a ks=true->qB2 b ks=true->CKv c x->CKv c y->ceq [x] [y]=z1->
             ∃ ck,kcks? (k :: ks)=some ck /\ qC CKv ck (x :: xs) /\ qC CKv ck (y :: ys) /\ ceq (x :: xs) (y :: ys)=(z1&&z2):=by
            intro c hc ha hb hx hy hq
            obtain⟨ck,c1,c2,c3,c4⟩:=ih ha hb e2 h4.2 h5.2
            refine⟨c :: ck,by simp[kcks?,hc,c1],⟨hx,c2⟩,⟨hy,c3⟩,?_⟩
            have:=qJe (ck:=[c]) (a:=[x]) (b:=[y]) (c:=xs) (d:=ys) ⟨hx,trivial⟩ ⟨hy,trivial⟩
            simp only[List.singleton_append] at this
            rw[this,hq,c4]
           cases s with
           | i k1 n=>
             cases s' with
             | i k2 m=>
               have h1:(k.isInt k1&&qB2 a ks)=true:=by cases k<;>exact h1
               have h2:(k.isInt k2&&qB2 b ks)=true:=by cases k<;>exact h2
               simp only[Bool.and_eq_true] at h1 h2
               obtain⟨p1,p2⟩:=h1
               obtain⟨q1,q2⟩:=h2
               cases k<;>simp[Kd.isInt] at p1 q1
               subst p1;subst q1
               simp[S.eq?] at e1
               exact mk1 (.i _) rfl p2 q2 ⟨n,h4.1.1⟩ ⟨m,h5.1.1⟩ (by rw[h4.1.1,h5.1.1];simp[ceq,e1])
             | _=>simp[S.eq?] at e1
           | b n=>
             cases s' with
             | b m=>
               cases k<;>simp[qB2] at h1 h2
               simp[S.eq?] at e1
               have hx:x=.bool n:=h4.1
               have hy:y=.bool m:=h5.1
               exact mk1 .b rfl h1 h2 ⟨n,hx⟩ ⟨m,hy⟩ (by rw[hx,hy];simp[ceq,e1])
             | _=>simp[S.eq?] at e1
           | _=>simp[S.eq?] at e1
theorem qPX {e:Env} {k:IntKind}:∀ {l:List Int} {xs:List Value},qC (qR e) (l.map (S.i k)) xs->xs=l.map (Value.int k)
 | [],[],_=>rfl
 | _ :: _,_ :: _,h=>by simp[h.1.1,qPX h.2]
 | [],_ :: _,h=>h.elim
 | _ :: _,[],h=>h.elim
theorem qOd {e:Env}:∀ {l:List Bool} {xs:List Value},qC (qR e) (l.map S.b) xs->xs=l.map Value.bool
 | [],[],_=>rfl
 | _ :: _,x :: _,h=>by
   have h1:x=_:=h.1
   simp[h1,qOd h.2]
 | [],_ :: _,h=>h.elim
 | _ :: _,[],h=>h.elim
theorem qVP (k:IntKind):∀ (a b:List Int),a.length=b.length->ceq (a.map (Value.int k)) (b.map (Value.int k))=(a==b)
 | [],[],_=>rfl
 | x :: a,y :: b,h=>by
   simp only[List.map_cons,ceq,qVP k a b (by simpa using h)]
   rfl
 | [],_ :: _,h=>by simp at h
 | _ :: _,[],h=>by simp at h
theorem qVO:∀ (a b:List Bool),a.length=b.length->ceq (a.map Value.bool) (b.map Value.bool)=(a==b)
 | [],[],_=>rfl
 | x :: a,y :: b,h=>by
   simp only[List.map_cons,ceq,qVO a b (by simpa using h)]
   rfl
 | [],_ :: _,h=>by simp at h
 | _ :: _,[],h=>by simp at h
theorem qOj (k:IntKind):∀ (n:Nat) (l:List Int),l.length=n->qC CKv (List.replicate n (.i k)) (l.map (Value.int k))
 | 0,[],_=>trivial
 | n+1,x :: l,h=>⟨⟨x,rfl⟩,qOj k n l (by simpa using h)⟩
 | 0,_ :: _,h=>by simp at h
 | n+1,[],h=>by simp at h
theorem qOi:∀ (n:Nat) (l:List Bool),l.length=n->qC CKv (List.replicate n .b) (l.map Value.bool)
 | 0,[],_=>trivial
 | n+1,x :: l,h=>⟨⟨x,rfl⟩,qOi n l (by simpa using h)⟩
 | 0,_ :: _,h=>by simp at h
 | n+1,[],h=>by simp at h
theorem qR2 {e:Env}:∀ {ks:List CK} {r t:List Int} {xs ys:List Value},qAC ks r->qAC ks t->qC (qR e) (mks ks r) xs->qC (qR e) (mks ks t) ys->
  qC CKv ks xs /\ qC CKv ks ys /\ ceq xs ys=(r==t):=by
 intro ks
 induction ks with
 | nil =>
   intro r t xs ys h1 h2 h3 h4
   cases r with
   | cons _ _=>exact h1.elim
   | nil => cases t with
     | cons _ _=>exact h2.elim
     | nil=>cases xs with
       | cons _ _=>exact h3.elim
       | nil=>cases ys with
         | cons _ _=>exact h4.elim
         | nil=>exact⟨trivial,trivial,rfl⟩
 | cons c ks ih=>
   intro r t xs ys h1 h2 h3 h4
   cases r with
   | nil=>exact h1.elim
   | cons a r => cases t with
     | nil=>exact h2.elim
     | cons b t=>cases xs with
       | nil=>exact h3.elim
       | cons x xs=>cases ys with
         | nil=>exact h4.elim
         | cons y ys=>
           obtain⟨i1,i2,i3⟩:=ih h1.2 h2.2 h3.2 h4.2
           cases c with
           | i k=>
             have hx:x=.int k a:=h3.1.1
             have hy:y=.int k b:=h4.1.1
             subst hx;subst hy
             exact⟨⟨⟨_,rfl⟩,i1⟩,⟨⟨_,rfl⟩,i2⟩,by simp only[ceq,i3];rfl⟩
           | b=>
             have hx:x=.bool (a != 0):=h3.1
             have hy:y=.bool (b != 0):=h4.1
             subst hx;subst hy
             refine⟨⟨⟨_,rfl⟩,i1⟩,⟨⟨_,rfl⟩,i2⟩,?_⟩
             simp only[ceq,i3]
             have e1:((a != 0)==(b != 0))=(a==b):=by
              rcases h1.1 with rfl | rfl<;>rcases h2.1 with rfl | rfl<;>rfl
             rw[e1];rfl
           | s=>
             have hx:x=.string (qBH a):=h3.1
             have hy:y=.string (qBH b):=h4.1
             subst hx;subst hy
             refine⟨⟨⟨_,rfl⟩,i1⟩,⟨⟨_,rfl⟩,i2⟩,?_⟩
             simp only[ceq,i3]
             have q1:qBJ (qBH a)=a:=h1.1
             have q2:qBJ (qBH b)=b:=h2.1
             have e1:(qBH a==qBH b)=(a==b):=by rw[<- qWA,q1,q2]
             rw[e1];rfl
theorem qcH {e:Env} {ks:List CK}:∀ {a b:List (List Int)} {xs ys:List Value},a.length=b.length->(∀ r∈a,qAC ks r)->(∀ r∈b,qAC ks r)->
  qC (qR e) (a.flatMap (mks ks)) xs->qC (qR e) (b.flatMap (mks ks)) ys->
  qC CKv (List.replicate a.length ks).flatten xs /\ qC CKv (List.replicate a.length ks).flatten ys /\ ceq xs ys=(a==b)
 | [],[],xs,ys,_,_,_,h3,h4=>by
   cases xs with
   | cons _ _=>exact h3.elim
   | nil=>cases ys with
     | cons _ _=>exact h4.elim
     | nil=>exact⟨trivial,trivial,rfl⟩
 | r :: a,t :: b,xs,ys,hl,h1,h2,h3,h4=>by
   simp only[List.flatMap_cons] at h3 h4
   have t3:=qC.take (mks ks r).length h3
   have d3:=qC.drop (mks ks r).length h3
   have t4:=qC.take (mks ks t).length h4
   have d4:=qC.drop (mks ks t).length h4
   rw[List.take_left] at t3 t4
   rw[List.drop_left] at d3 d4
   rw[qBM] at t3 t4 d3 d4
   obtain⟨i1,i2,i3⟩:=qcH (by simpa using hl) (fun q hq=>h1 q (by simp[hq])) (fun q hq=>h2 q (by simp[hq])) d3 d4
   obtain⟨j1,j2,j3⟩:=qR2 (h1 r (by simp)) (h2 t (by simp)) t3 t4
   have ex:=List.take_append_drop ks.length xs
   have ey:=List.take_append_drop ks.length ys
   simp only[List.length_cons,List.replicate_succ,List.flatten_cons]
   refine⟨ex ▸ qC.append j1 i1,ey ▸ qC.append j2 i2,?_⟩
   conv=>lhs;rw[<- ex,<- ey]
   rw[qJe j1 j2,j3,i3]
   rfl
 | [],_ :: _,_,_,h,_,_,_,_=>by simp at h
 | _ :: _,[],_,_,h,_,_,_,_=>by simp at h
theorem qrH {e:Env} {g g':Seg} {t:SegT} {xs ys:List Value} {z:Bool} (k1:g.kinds t=true) (k2:g'.kinds t=true) (hz:g.eq? g'=some z) (o1:g.ok) (o2:g'.ok)
  (r1:qC (qR e) g.flat xs) (r2:qC (qR e) g'.flat ys):∃ ck,qBU [t]=some ck /\ qC CKv ck xs /\ qC CKv ck ys /\ ceq xs ys=z:=by
 cases t with
 | one ks=>
   cases g<;>simp[Seg.kinds,Seg.fits] at k1
   cases g'<;>simp[Seg.kinds,Seg.fits] at k2
   simp only[Seg.eq?] at hz
   obtain⟨ck,c1,c2,c3,c4⟩:=qmz k1 k2 hz r1 r2
   exact⟨ck,by simp[qBU,c1],c2,c3,c4⟩
 | arr k n=>
   cases g<;>simp[Seg.kinds,Seg.fits] at k1
   cases g'<;>simp[Seg.kinds,Seg.fits] at k2
   obtain⟨rfl,rfl⟩:=k1
   obtain⟨rfl,rfl⟩:=k2
   simp[Seg.eq?] at hz
   have hx:=qPX r1
   have hy:=qPX r2
   refine⟨_,by simp[qBU],hx ▸ qOj _ _ _ o1.1,hy ▸ qOj _ _ _ o2.1,?_⟩
   rw[hx,hy,qVP _ _ _ (o1.1.trans o2.1.symm),hz]
 | barr n=>
   cases g<;>simp[Seg.kinds,Seg.fits] at k1
   cases g'<;>simp[Seg.kinds,Seg.fits] at k2
   subst k1
   subst k2
   simp[Seg.eq?] at hz
   have hx:=qOd r1
   have hy:=qOd r2
   refine⟨_,by simp[qBU],hx ▸ qOi _ _ o1,hy ▸ qOi _ _ o2,?_⟩
   rw[hx,hy,qVO _ _ ((show _=_ from o1).trans (show _=_ from o2).symm),hz]
 | rows ks n=>
   cases g<;>simp[Seg.kinds,Seg.fits] at k1
   cases g'<;>simp[Seg.kinds,Seg.fits] at k2
   obtain⟨rfl,rfl⟩:=k1
   obtain⟨rfl,rfl⟩:=k2
   simp[Seg.eq?] at hz
   obtain⟨c1,c2,c3⟩:=qcH (o1.1.trans o2.1.symm) o1.2 o2.2 r1 r2
   rw[o1.1] at c1 c2
   exact⟨_,by simp[qBU],c1,c2,by rw[c3,hz]⟩
theorem qrI {e:Env}:∀ {ts:List SegT} {l m:List Seg} {xs ys:List Value} {z:Bool},qCJ l ts=true->qCJ m ts=true->segs? l m=some z->oks l->oks m->
  qC (qR e) (qf l) xs->qC (qR e) (qf m) ys->∃ ck,qBU ts=some ck /\ qC CKv ck xs /\ qC CKv ck ys /\ ceq xs ys=z:=by
 intro ts
 induction ts with
 | nil =>
   intro l m xs ys z k1 k2 hz _ _ r1 r2
   cases l with
   | cons _ _=>simp[qCJ] at k1
   | nil => cases m with
     | cons _ _=>simp[qCJ] at k2
     | nil=>cases xs with
       | cons _ _=>exact r1.elim
       | nil=>cases ys with
         | cons _ _=>exact r2.elim
         | nil=>simp[segs?] at hz;subst hz;exact⟨[],rfl,trivial,trivial,rfl⟩
 | cons t ts ih=>
   intro l m xs ys z k1 k2 hz o1 o2 r1 r2
   cases l with
   | nil=>simp[qCJ] at k1
   | cons g l=>cases m with
     | nil=>simp[qCJ] at k2
     | cons g' m=>
       simp only[qCJ,Bool.and_eq_true] at k1 k2
       have hzz:∃ z1 z2,g.eq? g'=some z1 /\ segs? l m=some z2 /\ z=(z1&&z2):=by
        cases l with
        | nil=>cases m with
          | nil=>simp only[segs?] at hz;exact⟨z,true,hz,rfl,by simp⟩
          | cons _ _=>
            cases ts with
            | nil=>simp[qCJ] at k2
            | cons _ _=>simp[qCJ] at k1
        | cons g2 l=>
          cases m with
          | nil=>
            exfalso
            simp only[segs?] at hz
            split at hz
            ·rename_i heq;simp at heq
            ·cases hz
          | cons g3 m=>
            simp only[segs?] at hz
            split at hz<;>cases hz
            rename_i z1 z2 e1 e2
            exact⟨z1,z2,e1,by simpa only[segs?] using e2,rfl⟩
       obtain⟨z1,z2,e1,e2,rfl⟩:=hzz
       obtain⟨o1a,o1b⟩:=qAX.1 o1
       obtain⟨o2a,o2b⟩:=qAX.1 o2
       simp only[flats_cons] at r1 r2
       have t1:=qC.take g.flat.length r1
       have d1:=qC.drop g.flat.length r1
       have t2:=qC.take g'.flat.length r2
       have d2:=qC.drop g'.flat.length r2
       rw[List.take_left] at t1 t2
       rw[List.drop_left] at d1 d2
       obtain⟨c1,p1,p2,p3,p4⟩:=qrH k1.1 k2.1 e1 o1a o2a t1 t2
       obtain⟨c2,q1,q2,q3,q4⟩:=ih k1.2 k2.2 e2 o1b o2b d1 d2
       have ex:=List.take_append_drop g.flat.length xs
       have ey:=List.take_append_drop g'.flat.length ys
       refine⟨c1++c2,?_,ex ▸ qC.append p2 q2,ey ▸ qC.append p3 q3,?_⟩
       ·simp only[qBU] at p1 ⊢
        split at p1<;>cases p1
        rename_i a b h1 h2
        cases h2
        rw[h1,q1];simp
       ·conv=>lhs;rw[<- ex,<- ey]
        rw[qJe p2 p3,p4,q4]
section
variable {P:Program} {o:Oper} {ρ:Rg} {h:Hp} {nx:Nat} {tab:Tab}
theorem qHs {R:Type} {op:BinOp} {z:Bool} {K:V->Option R} {r:R} (h:qEX op z K=some r):(op=.eql /\ K (.s (.b z))=some r) \/ (op=.neq /\ K (.s (.b (!z)))=some r):=by
 cases op<;>simp[qEX] at h<;>simp[h]
theorem qmR {x y:Operand} {t yt:TypeId} {op:BinOp} {l m:List Seg} {L:Lay} {z:Bool} (ho:o.op=.binOp op t x y yt) (hx:ev ρ x=.agg l) (hy:ev ρ y=.agg m)
  (hL:LayOK P tab t L) (ha:L.isAgg=true) (k1:qCJ l L.segTs=true) (k2:qCJ m L.segTs=true) (hz:segs? l m=some z)
  (heq:∃ f ck,f<=10000 /\ qBE P f t=some ck /\ qBU L.segTs=some ck /\ P.eqGuardType P.depth t=false):
  (op=.eql->qT P o ρ h nx (.s (.b z)) [] nx) /\ (op=.neq->qT P o ρ h nx (.s (.b (!z))) [] nx):=by
 obtain⟨f,ck,hf,hck,hcs,hgd⟩:=heq
 have hag:qAu P t=true:=by
  have hd:=hL.desc
  unfold qAu
  cases L with
  | sc kd=>cases ha
  | st ts fl=>obtain⟨fs,hu,_⟩:=hd;rw[hu]
  | ar n q e sg=>obtain⟨hu,_⟩:=hd;rw[hu]
 have key:∀ (nm:Nm) (w:World) (a:Act),(∀ x∈o.op.operands,qP ⟨nm,h,nx⟩ (ev ρ x) (a.eval x))->
   ∃ xs ys,a.eval x=.agg xs /\ a.eval y=.agg ys /\ (Op.equalIn 10000 t (.agg xs) (.agg ys)).run P w=.ok z w:=by
  intro nm w a hr
  have h1:=hr x (by simp[ho,Op.operands])
  have h2:=hr y (by simp[ho,Op.operands])
  rw[hx] at h1
  rw[hy] at h2
  obtain⟨xs,e1,r1,o1⟩:=h1
  obtain⟨ys,e2,r2,o2⟩:=h2
  obtain⟨ck',c1,c2,c3,c4⟩:=qrI k1 k2 hz o1 o2 r1 r2
  rw[hcs] at c1
  cases c1
  refine⟨xs,ys,e1,e2,?_⟩
  have:=qWC f t ck hck 10000 hf xs.toList ys.toList c2 c3 w
  simp only[mkV,hag,Array.toArray_toList] at this
  rw[this,c4]
 constructor
 ·intro hop
  subst hop
  refine qT.pure fun nm w a hr _=>?_
  obtain⟨xs,ys,e1,e2,e3⟩:=key nm w a hr
  exact⟨.bool z,by simp only[execOp,ho,e1,e2,Sem.run_bind,run_eqGuard_agg w _ _ _ _ _ _ hgd,Result.andThen_ok,run_eql_struct,e3];rfl,rfl⟩
 ·intro hop
  subst hop
  refine qT.pure fun nm w a hr _=>?_
  obtain⟨xs,ys,e1,e2,e3⟩:=key nm w a hr
  exact⟨.bool (!z),by simp only[execOp,ho,e1,e2,Sem.run_bind,run_eqGuard_agg w _ _ _ _ _ _ hgd,Result.andThen_ok,run_neq_struct,e3];rfl,rfl⟩
theorem qmS {x y:Operand} {t yt:TypeId} {op:BinOp} {p q:Bool} (ho:o.op=.binOp op t x y yt) (hx:ev ρ x=.s (.b p)) (hy:ev ρ y=.s (.b q)) (hu:P.underlying t=some .bool):
  (op=.eql->qT P o ρ h nx (.s (.b (p==q))) [] nx) /\ (op=.neq->qT P o ρ h nx (.s (.b (!(p==q)))) [] nx):=by
 constructor
 all_goals
  intro hop
  subst hop
  refine qT.pure fun nm w a hr _=>?_
  have h1:=hr x (by simp[ho,Op.operands])
  have h2:=hr y (by simp[ho,Op.operands])
  rw[hx] at h1
  rw[hy] at h2
  have h1:a.eval x=.bool p:=h1
  have h2:a.eval y=.bool q:=h2
  refine⟨_,by simp only[execOp,ho,h1,h2,Sem.run_bind,eqGuard,binOp,Bool.not_true,Bool.false_eq_true,if_false,Sem.run_pure,Result.andThen_ok,run_equal_bool w t p q hu],rfl⟩
theorem qqi {t e:TypeId} (hu:P.underlying t=some (.pointer e)) (w:World) (q:Option Addr) (d:Nat):(Op.equalIn (d+1) t (.pointer none) (.pointer q)).run P w=.ok q.isNone w:=by
 unfold Op.equalIn
 simp only[Sem.run_bind,run_underlying hu,Result.andThen_ok,Sem.run_pure]
theorem qqj {t e:TypeId} (hu:P.underlying t=some (.pointer e)) (w:World) (a:Addr) (d:Nat):(Op.equalIn (d+1) t (.pointer (some a)) (.pointer none)).run P w=.ok false w:=by
 unfold Op.equalIn
 simp only[Sem.run_bind,run_underlying hu,Result.andThen_ok,Sem.run_pure]
theorem qcL {t e:TypeId} (hu:P.underlying t=some (.pointer e)) (w:World) (q:Option Addr):(Op.equal t (.pointer none) (.pointer q)).run P w=.ok q.isNone w:=qqi hu w q 9999
theorem qqk {t e:TypeId} (hu:P.underlying t=some (.pointer e)) (w:World) (a:Addr):(Op.equal t (.pointer (some a)) (.pointer none)).run P w=.ok false w:=qqj hu w a 9999
theorem qQR {x y:Operand} {t yt e:TypeId} {op:BinOp} {ob sg:Nat} {row:Option (Nat×Nat)} {col:Nat} {z:Bool} (ho:o.op=.binOp op t x y yt) (hu:P.underlying t=some (.pointer e))
  (hxy:(ev ρ x=.s .nilp /\ ev ρ y=.s .nilp /\ z=true) \/ (z=false /\ (h.get ob).isMem=true /\ ((ev ρ x=.s .nilp /\ ev ρ y=.s (.ptr ob sg row col)) \/ (ev ρ y=.s .nilp /\ ev ρ x=.s (.ptr ob sg row col))))):
  (op=.eql->qT P o ρ h nx (.s (.b z)) [] nx) /\ (op=.neq->qT P o ρ h nx (.s (.b (!z))) [] nx):=by
 have key:∀ (nm:Nm) (w:World) (a:Act),(∀ x∈o.op.operands,qP ⟨nm,h,nx⟩ (ev ρ x) (a.eval x))->
   ∃ p q,a.eval x=.pointer p /\ a.eval y=.pointer q /\ (Op.equal t (.pointer p) (.pointer q)).run P w=.ok z w:=by
  intro nm w a hr
  have h1:=hr x (by simp[ho,Op.operands])
  have h2:=hr y (by simp[ho,Op.operands])
  rcases hxy with⟨hx,hy,rfl⟩ | ⟨rfl,hm,⟨hx,hy⟩ | ⟨hy,hx⟩⟩
  ·rw[hx] at h1
   rw[hy] at h2
   exact⟨none,none,h1,h2,qcL hu w none⟩
  ·rw[hx] at h1
   rw[hy] at h2
   obtain⟨_,_,b,off,cap,_,h3⟩:=(qBO (e:=⟨nm,h,nx⟩) hm).1 h2
   exact⟨none,_,h1,h3,qcL hu w _⟩
  ·rw[hx] at h1
   rw[hy] at h2
   obtain⟨_,_,b,off,cap,_,h3⟩:=(qBO (e:=⟨nm,h,nx⟩) hm).1 h1
   exact⟨_,none,h3,h2,qqk hu w _⟩
 constructor
 ·intro hop
  subst hop
  refine qT.pure fun nm w a hr _=>?_
  obtain⟨p,q,e1,e2,e3⟩:=key nm w a hr
  exact⟨.bool z,by simp only[execOp,ho,e1,e2,Sem.run_bind,eqGuard,binOp,Bool.not_true,Bool.false_eq_true,if_false,Sem.run_pure,Result.andThen_ok,e3],rfl⟩
 ·intro hop
  subst hop
  refine qT.pure fun nm w a hr _=>?_
  obtain⟨p,q,e1,e2,e3⟩:=key nm w a hr
  exact⟨.bool (!z),by simp only[execOp,ho,e1,e2,Sem.run_bind,eqGuard,binOp,Bool.not_true,Bool.false_eq_true,if_false,Sem.run_pure,Result.andThen_ok,e3],rfl⟩
theorem qZo {t:TypeId} {L:Lay} (hL:LayOK P tab t L) {w:World} {arr:Array Value} {off:Nat} (hl:off+L.size<=arr.toList.length):
  (part t arr off).run P w=.ok (match L.agg with
   | true=>.agg (sub arr.toList off L.size).toArray
   | false=>(sub arr.toList off L.size).headD undef) w:=by
 unfold part
 rw[Sem.run_bind,qcM hL,Result.andThen_ok]
 cases ha:L.agg with
 | true=>
   have he:arr.extract off (off+L.size)=(sub arr.toList off L.size).toArray:=by
    apply Array.ext'
    rw[Array.toList_extract]
    simp only[sub,List.take_drop]
    rw[show off+(off+L.size - off)=off+L.size by omega]
   simp only[if_true,Sem.run_bind,qR5 hL,Result.andThen_ok,Sem.run_pure,he]
 | false=>
   cases L with
   | sc kd=>
     have h1:(Lay.sc kd).size=1:=rfl
     rw[h1] at hl ⊢
     have hlt:off<arr.toList.length:=by omega
     have hg:arr[off]? = some arr.toList[off]:=by simp
     have hsub:sub arr.toList off 1=[arr.toList[off]]:=qHQ (List.getElem?_eq_getElem hlt)
     simp only[Bool.false_eq_true,if_false]
     rw[hg,hsub]
     rfl
   | st ts fl=>simp[Lay.agg] at ha
   | ar n m e sg=>simp[Lay.agg] at ha
theorem qmU {x:Operand} {t ft:TypeId} {f fs fc:Nat} {l:List Seg} {ts:List SegT} {fl:List (Nat×Nat×TypeId)} {L:Lay} {v:V} (hS:LayOK P tab t (.st ts fl)) (ho:o.op=.field t x f)
  (hx:ev ρ x=.agg l) (hf:fl[f]? = some (fs,fc,ft)) (hL:LayOK P tab ft L) (hg:tab.get ft=some L) (hv:loadAt l fs none fc L=some v) (hfit:qBc (l.take fs) (ts.take fs)=true):
  qT P o ρ h nx v [] nx:=
 qT.pure fun nm w a hr _=>by
  have h1:=hr x (by simp[ho,Op.operands])
  rw[hx] at h1
  obtain⟨arr,e1,r1,o1⟩:=h1
  have hld:=qJ1 hv o1 trivial
  obtain⟨fls,hu,hsz,hall⟩:=hS.desc
  have hlt:f<fls.size:=by rw[hsz];exact getElem?_lt hf
  have hgf:fls[f]? = some fls[f]:=Array.getElem?_eq_getElem hlt
  obtain⟨a',b',Lf,q1,q2,q3,_⟩:=hall f _ hgf
  rw[hf] at q1
  simp only[Option.some.injEq,Prod.mk.injEq] at q1
  obtain⟨rfl,rfl,rfl⟩:=q1
  have hoff:fls[f].offset=qd (qX l) fs none fc:=by
   rw[q3]
   simp only[qd]
   rw[<- qdi,qLU hfit,List.map_take]
  have hlen:=hld.len
  rw[qC.length r1] at hlen
  refine⟨_,?_,qJ2 hld (qC.take _ (qC.drop _ r1))⟩
  simp only[execOp,ho,e1,Instr.field,Sem.run_bind,run_underlying hu,Result.andThen_ok,hgf,asAgg,Sem.run_pure,hoff,qZo hL hlen]
  rfl
theorem qmY {x y:Operand} {t e:TypeId} {n m:Nat} {g:Seg} {tg:SegT} {L:Lay} {v:V} {k:IntKind} {j:Int} (hA:LayOK P tab t (.ar n m e tg)) (ho:o.op=.index t x y)
  (hx:ev ρ x=.agg [g]) (hy:ev ρ y=.s (.i k j)) (hj:inB j n=true) (hfit:g.fits tg=true) (hL:LayOK P tab e L) (hge:tab.get e=some L)
  (hv:loadAt [g] 0 (some (j.toNat*m,m)) 0 L=some v):qT P o ρ h nx v [] nx:=
 qT.pure fun nm w a hr _=>by
  have h1:=hr x (by simp[ho,Op.operands])
  rw[hx] at h1
  have h2:=hr y (by simp[ho,Op.operands])
  rw[hy] at h2
  obtain⟨h2,_⟩:=qBq h2
  obtain⟨arr,e1,r1,o1⟩:=h1
  obtain⟨hu,hm0,hw0,htg,Le,i,hge',hi,hs,hLs⟩:=hA.desc
  rw[hge] at hge'
  cases hge'
  have hsh:=qLW hfit
  have hj':=hj
  simp only[inB,Bool.and_eq_true,decide_eq_true_eq] at hj'
  have hjn:j.toNat*m+m<=n*m:=by
   have:j.toNat+1<=n:=by omega
   have:=Nat.mul_le_mul_right m this
   rw[Nat.add_mul] at this;omega
  have hld:=qJ1 hv o1 ⟨hm0,_,_,by rw[shps_cons,hsh,htg];rfl,hjn,hw0⟩
  have hoff:qd (qX [g]) 0 (some (j.toNat*m,m)) 0=j.toNat*i.size:=by
   simp only[qd,shps_cons,hsh,List.take_zero,qn,List.getElem?_cons_zero,Option.map_some,Option.getD_some,Nat.zero_add,Nat.add_zero,hs,Nat.mul_assoc]
  have hlen:=hld.len
  rw[qC.length r1,hoff] at hlen
  have hrel:=qJ2 hld (qC.take _ (qC.drop _ r1))
  rw[hoff] at hrel
  refine⟨_,?_,hrel⟩
  simp only[execOp,ho,e1,h2,Instr.index,asIntOf,Sem.run_bind,Sem.run_pure,run_underlying hu,Result.andThen_ok]
  rw[if_pos ⟨hj'.1,hj'.2⟩]
  simp only[sizeOf,typeInfo,Sem.run_bind,run_program,hi,Result.andThen_ok,Sem.run_pure,qZo hL hlen]
  rfl
theorem qYk {c:Ctx} {R:Type} {cl:Call} {f:Operand} {fid:FuncId} {caps:List Nat} {K:Kt R} {r:R} (hc:qBx P c.orc) (ho:o.op=.call cl) (hcl:cl.callee=.value f)
  (hf:ev ρ f=.s (.fn fid caps)) (hE:qJd c h nx fid ((cl.args.toList.map (ev ρ))++caps.map fun q=>.s (.ptr q 0 none 0)) K=some r) (hcap:caps.all (fun q=>(h.get q).isCell)=true):
  ∃ v up nx',K v up nx'=some r /\ qT P o ρ h nx v up nx' /\ (up=[]->nx'=nx->(∀ q∈qBX h 64 [] ((qJc ρ cl caps).flatMap V.refs),(h.get q).live=true)->
    ∀ h2 nx2,(∀ q∈qBX h 64 [] ((qJc ρ cl caps).flatMap V.refs),Hp.get h2 q=Hp.get h q)->qT P o ρ h2 nx2 v [] nx2):=by
 show ∃ v up nx',K v up nx'=some r /\ qT P o ρ h nx v up nx' /\ (up=[]->nx'=nx->(∀ q∈qBX h 64 [] ((cl.args.toList.map (ev ρ)++caps.map fun q=>V.s (.ptr q 0 none 0)).flatMap V.refs),(h.get q).live=true)->
   ∀ h2 nx2,(∀ q∈qBX h 64 [] ((cl.args.toList.map (ev ρ)++caps.map fun q=>V.s (.ptr q 0 none 0)).flatMap V.refs),Hp.get h2 q=Hp.get h q)->qT P o ρ h2 nx2 v [] nx2)
 unfold qJd at hE
 simp only[qEY,qJm,qJo] at hE
 generalize hks:qBX h 64 [] ((cl.args.toList.map (ev ρ)++caps.map fun q=>V.s (.ptr q 0 none 0)).flatMap V.refs)=ks at hE ⊢
 cases hb:(qEh ks&&ks.all (fun o=>Nat.blt o nx)&&qCw ks ((cl.args.toList.map (ev ρ)++caps.map fun q=>V.s (.ptr q 0 none 0)).flatMap V.refs)&&ks.all (fun o=>qCw ks (h.get o).refs)) with
 | false=>rw[hb] at hE;cases hE
 | true =>
   rw[hb] at hE
   simp only[Bool.and_eq_true] at hb
   obtain⟨⟨⟨hn,hlt⟩,hcl1⟩,hcl2⟩:=hb
   have hn:=qLz.1 hn
   have hlt:∀ q∈ks,q<nx:=fun q hq=>by
    have:=List.all_eq_true.1 hlt q hq
    simpa[Nat.blt_eq] using this
   have hcl1:=qFY.1 hcl1
   have hcl2:∀ q∈ks,∀ x∈(h.get q).refs,x∈ks:=fun q hq=>qFY.1 (List.all_eq_true.1 hcl2 q hq)
   have prep:qNa P fid->∀ (h2:Hp) (nx2:Nat),(∀ q∈ks,Hp.get h2 q=Hp.get h q)->∀ (nm:Nm) (w:World) (a:Act),(∀ x∈o.op.operands,qP ⟨nm,h2,nx2⟩ (ev ρ x) (a.eval x))->RelH ⟨nm,h2,nx2⟩ w->
     ∃ args:Array Value,(execOp a.eval o).run P w=.ok (.enter fid args) w /\ RelH (qm ⟨nm,h2,nx2⟩ ks) w /\
       qC (qP (qm ⟨nm,h2,nx2⟩ ks)) ((cl.args.toList.map (ev ρ)++caps.map fun q=>V.s (.ptr q 0 none 0)).map (V.ren fun x=>qz x ks)) args.toList:=by
    intro hplain h2 nx2 agree nm w a hr hh
    let e:Env:=⟨nm,h2,nx2⟩
    have hfv:=hr f (by simp[ho,Op.operands,Call.operands,hcl])
    rw[hf] at hfv
    obtain⟨cvs,hfe,hcv⟩:=hfv
    have hargs:qC (qP e) (cl.args.toList.map (ev ρ)) (cl.args.map a.eval).toList:=by
     rw[Array.toList_map]
     have:∀ l:List Operand,(∀ x∈l,x∈cl.args.toList)->qC (qP e) (l.map (ev ρ)) (l.map a.eval):=by
      intro l
      induction l with
      | nil=>intro _;trivial
      | cons x l ih=>
        intro hl
        refine⟨hr x ?_,ih fun y hy=>hl y (by simp[hy])⟩
        have:=hl x (by simp)
        simp only[ho,Op.operands,Call.operands,hcl]
        simp;right;simpa using this
     exact this _ fun _ h=>h
    have hcaps:qC (qP e) (caps.map fun q=>V.s (.ptr q 0 none 0)) cvs:=by
     refine qC.map_left (qC.mono_mem (fun q u hq hu=>?_) hcv)
     have hqk:q∈ks:=hcl1 q (List.mem_flatMap.2 ⟨.s (.ptr q 0 none 0),List.mem_append_right _ (List.mem_map.2 ⟨q,hq,rfl⟩),by simp[V.refs,S.refs]⟩)
     have hcell:=List.all_eq_true.1 hcap q hq
     rw[<- agree q hqk] at hcell
     have hm:(Hp.get h2 q).isMem=true:=by cases hz:Hp.get h2 q<;>rw[hz] at hcell<;>simp[Obj.isCell] at hcell<;>rfl
     obtain⟨u1,u2⟩:=hu
     have hsh:∃ sh,(Hp.get h2 q).shape=.cells sh:=by cases hz:Hp.get h2 q<;>rw[hz] at hcell<;>simp[Obj.isCell] at hcell<;>exact⟨_,rfl⟩
     obtain⟨sh,hsh⟩:=hsh
     simp only[hsh] at u2
     obtain⟨b,off,cap,u3,u4⟩:=u2
     exact (qBO (e:=e) hm).2 ⟨u1,trivial,b,off,cap,u3,by simp[qd,qn,u4]⟩
    have hall:=qC.append hargs hcaps
    have hsub:=qKl (e:=e) (ks:=ks) hh hn (fun q hq x hx=>hcl2 q hq x (by rw[<- agree q hq];exact hx))
    obtain⟨fn,p1,p2,p3⟩:=hplain
    refine⟨cl.args.map a.eval++cvs.toArray,?_,hsub,?_⟩
    ·simp only[execOp,ho,resolve,hcl,hfe,Deferred.ofValue,invoke,callFunc,Sem.run_bind,Sem.run_pure,Result.andThen_ok,run_program,p1,p2,p3]
     simp
    ·simp only[Array.toList_append]
     exact qC.map_left (qC.mono_mem (fun x u hx hu=>qP.ren hu fun q hq _=>qJB (hcl1 q (List.mem_flatMap.2 ⟨x,hx,hq⟩))) hall)
   have cutEq:∀ h2:Hp,(∀ q∈ks,Hp.get h2 q=Hp.get h q)->cut h2 ks=cut h ks:=fun h2 agree=>List.map_congr_left fun q hq=>by rw[agree q hq]
   have hlen2:(cut h ks).length=ks.length:=qCF h ks
   have hlen3:((cut h ks).map Obj.toRO).length=ks.length:=by rw[List.length_map,hlen2]
   have pure0:∀ {v:V} {old:List Obj} (base:Nat),(∀ x∈(cut h ks).map Obj.toRO,x.owned=false)->old.length=(cut h ks).length->(∀ x∈old,x.live=true)->
     qDD P fid ((cl.args.toList.map (ev ρ)++caps.map fun q=>V.s (.ptr q 0 none 0)).map (V.ren fun x=>qz x ks)) ((cut h ks).map Obj.toRO) v old->(∀ q∈ks,(h.get q).live=true)->
     ∀ h2 nx2,(∀ q∈ks,Hp.get h2 q=Hp.get h q)->qT P o ρ h2 nx2 (v.ren (qAA base ks)) [] nx2:=by
    intro v old base hro holdlen hlive hcall hlv h2 nx2 agree nm w a hr hh N Q hN
    obtain⟨hplain,hcall⟩:=hcall
    obtain⟨args,hrun,hsub,hargs'⟩:=prep hplain h2 nx2 agree nm w a hr hh
    have hlt2:∀ q∈ks,q<nx2:=fun q hq=>by
     rcases Nat.lt_or_ge q nx2 with h | h
     ·exact h
     ·have:=hh.new q h
      have this:Hp.get h2 q=.dead:=this
      have hl:=hlv q hq
      rw[<- agree q hq,this] at hl;cases hl
    have ceq:=cutEq h2 agree
    have hsub2:RelH ⟨(qm ⟨nm,h2,nx2⟩ ks).nm,qJ [] 0 (cut h ks),(cut h ks).length⟩ w:=by rw[hlen2,<- ceq];exact hsub
    have hsub3:=qRx hsub2 hro
    have hgo:=hcall (qm ⟨nm,h2,nx2⟩ ks).nm w args (by
     rw[hlen3]
     refine qC.mono (fun x u hu=>?_) hargs'
     have hu2:qP ⟨(qm ⟨nm,h2,nx2⟩ ks).nm,qJ [] 0 (cut h ks),(cut h ks).length⟩ x u:=by rw[hlen2,<- ceq];exact hu
     have:=qRy hu2
     rwa [hlen2] at this) (by rw[hlen3];rw[hlen2] at hsub3;exact hsub3)
    unfold Oper.wp
    rw[hrun]
    refine Calls.mono hgo.1 fun en w' hpost=>?_
    obtain⟨vr,nm',rfl,q1,q2,q3,q4⟩:=hpost
    rw[hlen3] at q3 q4
    obtain⟨s1,s2,s3,s4⟩:=qng (e:=⟨nm,h2,nx2⟩) (g:=qAA base ks) hh hlt2 (fun i q hi=>qJ8 hi) (by rw[holdlen,hlen2]) hlive (by show ∀ x∈(cut h2 ks).map Obj.toRO,_;rw[ceq];exact hro) q1
     (by show Frame' ⟨_,qJ [] 0 ((cut h2 ks).map Obj.toRO),_⟩ w w';rw[ceq];exact q3) (by show Ext ⟨_,qJ [] 0 ((cut h2 ks).map Obj.toRO),_⟩ _ w;rw[ceq];exact q4)
    exact hN vr nm w' s1 s2 s3 s4
   obtain⟨p,v,objs',hK,hany⟩:=hc fid _ _ _ r hE
   cases p with
   | true=>
     obtain⟨hro,hown,old,holdlen,hlive,hplain,hcall⟩:=hany
     refine⟨_,_,_,hK,fun nm w a hr hh N Q hN=>?_,fun hup _ hlv h2 nx2 agree=>?_⟩
     ·obtain⟨args,hrun,hsub,hargs'⟩:=prep hplain h nx (fun _ _=>rfl) nm w a hr hh
      have hsub2:RelH ⟨(qm ⟨nm,h,nx⟩ ks).nm,qJ [] 0 (cut h ks),(cut h ks).length⟩ w:=by rw[hlen2];exact hsub
      have hsub3:=qRx hsub2 hro
      have hgo:=hcall (qm ⟨nm,h,nx⟩ ks).nm w args (by
       rw[hlen3]
       refine qC.mono (fun x u hu=>?_) hargs'
       have hu2:qP ⟨(qm ⟨nm,h,nx⟩ ks).nm,qJ [] 0 (cut h ks),(cut h ks).length⟩ x u:=by rw[hlen2];exact hu
       have:=qRy hu2
       rwa [hlen2] at this) (by rw[hlen3];rw[hlen2] at hsub3;exact hsub3)
      unfold Oper.wp
      rw[hrun]
      refine Calls.mono hgo.1 fun en w' hpost=>?_
      obtain⟨vr,nm',rfl,q1,q2,q3,q4⟩:=hpost
      rw[hlen3] at q3 q4
      obtain⟨nm2,s1,s2,s3,s4⟩:=qZM (e:=⟨nm,h,nx⟩) hh hlt (by rw[holdlen,hlen2]) hlive hown hro q1 q2 q3 q4
      exact hN vr nm2 w' s1 s2 s3 s4
     ·cases objs' with
      | cons x l=>simp[qJ] at hup
      | nil=>
        rw[List.append_nil] at hcall
        exact pure0 nx hro holdlen hlive ⟨hplain,hcall⟩ hlv h2 nx2 agree
   | false=>
     obtain⟨hplain,hcall⟩:=hany
     simp only at hK
     cases hle:Nat.ble ks.length objs'.length with
     | false=>rw[hle] at hK;cases hK
     | true=>
       rw[hle] at hK
       have hle:=Nat.le_of_ble_eq_true hle
       refine⟨_,_,_,hK,fun nm w a hr hh N Q hN=>?_,fun hup _ hlv h2 nx2 agree=>?_⟩
       ·obtain⟨args,hrun,hsub,hargs'⟩:=prep hplain h nx (fun _ _=>rfl) nm w a hr hh
        have hgo:=hcall (qm ⟨nm,h,nx⟩ ks).nm w args (by rw[hlen2];exact hargs') (by rw[hlen2];exact hsub)
        unfold Oper.wp
        rw[hrun]
        refine Calls.mono hgo.1 fun en w' hpost=>?_
        obtain⟨vr,nm',rfl,q1,q2,q3,q4⟩:=hpost
        rw[hlen2] at q3 q4
        obtain⟨nm2,s1,s2,s3,s4⟩:=qVH (e:=⟨nm,h,nx⟩) hh hn hlt hle q1 q2 q3 q4
        exact hN vr nm2 w' s1 s2 s3 s4
       ·have ho0:objs'=[]:=by
         cases objs' with
         | nil=>rfl
         | cons x l=>cases ks<;>simp[qJ] at hup
        subst ho0
        have hk0:ks=[]:=List.eq_nil_of_length_eq_zero (by simpa using hle)
        subst hk0
        exact pure0 (old:=[]) nx (fun x hx=>by simp[cut] at hx) rfl (fun x hx=>by cases hx) ⟨hplain,hcall⟩ hlv h2 nx2 agree
theorem qix {c:Ctx} {R:Type} {fid:FuncId} {vals0:List V} {K:Kt R} {r:R} (hc:qBx P c.orc) (hE:qLF c h nx fid vals0 K=some r):
  ∃ v up nx',K v up nx'=some r /\ qNa P fid /\ ∀ (nm:Nm) (w:World) (args:Array Value),qC (qP ⟨nm,h,nx⟩) vals0 args.toList->RelH ⟨nm,h,nx⟩ w->∀ u,CallsD P fid args u w fun en u' w'=>u'=u /\
    ∃ vr nm',en=.returned vr /\ qP ⟨nm',up++h,nx'⟩ v vr /\ RelH ⟨nm',up++h,nx'⟩ w' /\ Frame' ⟨nm,h,nx⟩ w w' /\ Ext ⟨nm,h,nx⟩ ⟨nm',up++h,nx'⟩ w:=by
 unfold qLF at hE
 cases htold:qCM fid told with
 | true=>rw[htold] at hE;cases hE
 | false=>
 rw[htold] at hE
 simp only[cond_false] at hE
 unfold qJd at hE
 simp only[qEY,qJm,qJo] at hE
 generalize hks:qBX h 64 [] (vals0.flatMap V.refs)=ks at hE
 cases hb:(qEh ks&&ks.all (fun o=>Nat.blt o nx)&&qCw ks (vals0.flatMap V.refs)&&ks.all (fun o=>qCw ks (h.get o).refs)) with
 | false=>rw[hb] at hE;cases hE
 | true=>
   rw[hb] at hE
   simp only[Bool.and_eq_true] at hb
   obtain⟨⟨⟨hn,hlt⟩,hcl1⟩,hcl2⟩:=hb
   have hn:=qLz.1 hn
   have hlt:∀ q∈ks,q<nx:=fun q hq=>by
    have:=List.all_eq_true.1 hlt q hq
    simpa[Nat.blt_eq] using this
   have hcl1:=qFY.1 hcl1
   have hcl2:∀ q∈ks,∀ x∈(h.get q).refs,x∈ks:=fun q hq=>qFY.1 (List.all_eq_true.1 hcl2 q hq)
   have prep:∀ (nm:Nm) (w:World) (args:Array Value),qC (qP ⟨nm,h,nx⟩) vals0 args.toList->RelH ⟨nm,h,nx⟩ w->
     RelH (qm ⟨nm,h,nx⟩ ks) w /\ qC (qP (qm ⟨nm,h,nx⟩ ks)) (vals0.map (V.ren fun x=>qz x ks)) args.toList:=by
    intro nm w args hargs hh
    refine⟨qKl (e:=⟨nm,h,nx⟩) (ks:=ks) hh hn hcl2,?_⟩
    exact qC.map_left (qC.mono_mem (fun x u hx hu=>qP.ren hu fun q hq _=>qJB (hcl1 q (List.mem_flatMap.2 ⟨x,hx,hq⟩))) hargs)
   have hlen2:(cut h ks).length=ks.length:=qCF h ks
   have hlen3:((cut h ks).map Obj.toRO).length=ks.length:=by rw[List.length_map,hlen2]
   obtain⟨p,v,objs',hK,hany⟩:=hc fid _ _ _ r hE
   cases p with
   | true=>
     obtain⟨hro,hown,old,holdlen,hlive,hplain,hcall⟩:=hany
     refine⟨_,_,_,hK,hplain,fun nm w args hargs hh u=>?_⟩
     obtain⟨hsub,hargs'⟩:=prep nm w args hargs hh
     have hsub2:RelH ⟨(qm ⟨nm,h,nx⟩ ks).nm,qJ [] 0 (cut h ks),(cut h ks).length⟩ w:=by rw[hlen2];exact hsub
     have hsub3:=qRx hsub2 hro
     have hgo:=hcall (qm ⟨nm,h,nx⟩ ks).nm w args (by
      rw[hlen3]
      refine qC.mono (fun x u hu=>?_) hargs'
      have hu2:qP ⟨(qm ⟨nm,h,nx⟩ ks).nm,qJ [] 0 (cut h ks),(cut h ks).length⟩ x u:=by rw[hlen2];exact hu
      have:=qRy hu2
      rwa [hlen2] at this) (by rw[hlen3];rw[hlen2] at hsub3;exact hsub3)
     refine CallsD.mono (hgo.2 htold u) fun en u' w' hpost=>?_
     obtain⟨hu,vr,nm',he,q1,q2,q3,q4⟩:=hpost
     rw[hlen3] at q3 q4
     obtain⟨nm2,s1,s2,s3,s4⟩:=qZM (e:=⟨nm,h,nx⟩) hh hlt (by rw[holdlen,hlen2]) hlive hown hro q1 q2 q3 q4
     exact⟨hu,vr,nm2,he,s1,s2,s3,s4⟩
   | false=>
     obtain⟨hplain,hcall⟩:=hany
     simp only at hK
     cases hle:Nat.ble ks.length objs'.length with
     | false=>rw[hle] at hK;cases hK
     | true=>
       rw[hle] at hK
       have hle:=Nat.le_of_ble_eq_true hle
       refine⟨_,_,_,hK,hplain,fun nm w args hargs hh u=>?_⟩
       obtain⟨hsub,hargs'⟩:=prep nm w args hargs hh
       have hgo:=hcall (qm ⟨nm,h,nx⟩ ks).nm w args (by rw[hlen2];exact hargs') (by rw[hlen2];exact hsub)
       refine CallsD.mono (hgo.2 htold u) fun en u' w' hpost=>?_
       obtain⟨hu,vr,nm',he,q1,q2,q3,q4⟩:=hpost
       rw[hlen2] at q3 q4
       obtain⟨nm2,s1,s2,s3,s4⟩:=qVH (e:=⟨nm,h,nx⟩) hh hn hlt hle q1 q2 q3 q4
       exact⟨hu,vr,nm2,he,s1,s2,s3,s4⟩
end
theorem qjR (off:Nat):∀ (vs:List Value) (k:Nat) (cells:Array Value),off+k+vs.length<=cells.size->
  ((vs.zipIdx k).foldl (fun (cs:Array Value) (p:Value×Nat)=>cs.setIfInBounds (off+p.2) p.1) cells).toList=over cells.toList (off+k) vs:=by
 intro vs
 induction vs with
 | nil=>intro k cells _;simp[over]
 | cons v vs ih=>
   intro k cells h
   simp only[List.length_cons] at h
   simp only[List.zipIdx_cons,List.foldl_cons]
   rw[ih (k+1) _ (by simp;omega)]
   simp only[Array.toList_setIfInBounds]
   rw[qKB _ _ _ (by simp;omega)]
   have e1:over (over cells.toList (off+k) [v]) (off+(k+1)) vs=over cells.toList (off+k) (v :: vs):=by
    have hs:cells.toList=cells.toList.take (off+k)++cells.toList.drop (off+k):=(List.take_append_drop _ _).symm
    have hl:(cells.toList.take (off+k)).length=off+k:=by simp;omega
    generalize cells.toList.take (off+k)=A at *
    generalize cells.toList.drop (off+k)=B at *
    rw[hs]
    have a1:over (A++B) (off+k) [v]=A++over B 0 [v]:=by
     have:=qIS A B 0 [v]
     rwa [hl,Nat.add_zero] at this
    have a2:over (A++B) (off+k) (v :: vs)=A++over B 0 (v :: vs):=by
     have:=qIS A B 0 (v :: vs)
     rwa [hl,Nat.add_zero] at this
    have a3:over (A++over B 0 [v]) (off+(k+1)) vs=A++over (over B 0 [v]) 1 vs:=by
     have:=qIS A (over B 0 [v]) 1 vs
     rwa [hl,Nat.add_assoc] at this
    rw[a1,a2,a3]
    congr 1
    have hB:1<=B.length:=by
     have:=congrArg List.length hs
     simp only[List.length_append,Array.length_toList] at this
     omega
    cases B with
    | nil=>simp at hB
    | cons b B=>simp[over,Nat.add_comm 1]
   rw[e1]
theorem qWN {place:Nat->Option (Nat×Nat)} {cells:Array Value} {i off size:Nat} {v:Value} {rest:List (Nat×Value)} (hp:place i=some (off,size)) (hs:v.cells.size=size)
  (hl:off+size<=cells.size):∃ cells',Instr.fill place cells ((i,v) :: rest)=Instr.fill place cells' rest /\ cells'.toList=over cells.toList off v.cells.toList:=by
 refine⟨v.cells.zipIdx.foldl (fun cs (p:Value×Nat)=>cs.setIfInBounds (off+p.2) p.1) cells,?_,?_⟩
 ·simp only[Instr.fill,hp]
  have:(v.cells.size≠size||off+v.cells.size>cells.size)=false:=by
   simp[hs];omega
  rw[if_neg (by rw[this];simp)]
 ·have:=qjR off v.cells.toList 0 cells (by simp;omega)
  simp only[Nat.add_zero] at this
  rw[<- this,<- Array.foldl_toList]
  congr 1
  congr 1
  simp
def qJN (e:Env) (p:Nat×V) (q:Nat×Value):Prop:=p.1=q.1 /\ qP e p.2 q.2
theorem qrJ {e:Env} {tab:Tab} {ts:List SegT} {fl:List (Nat×Nat×TypeId)} {place:Nat->Option (Nat×Nat)}
  (hpl:∀ (j a b:Nat) ft L,fl[j]? = some (a,b,ft)->tab.get ft=some L->place j=some (qn ((ts.map SegT.shp).take a)+b,L.size)):
  ∀ (ps:List (Nat×V)) (qs:List (Nat×Value)) (l l':List Seg) (cells:Array Value),qIx tab fl ps l=some l'->qC (qJN e) ps qs->qC (qR e) (qf l) cells.toList->oks l->
    qX l=ts.map SegT.shp->∃ cells',Instr.fill place cells qs=some cells' /\ qC (qR e) (qf l') cells'.toList /\ oks l':=by
 intro ps
 induction ps with
 | nil=>
   intro qs l l' cells h hq hr ho _
   cases qs with
   | cons _ _=>exact hq.elim
   | nil=>simp[qIx] at h;subst h;exact⟨cells,rfl,hr,ho⟩
 | cons p ps ih=>
   intro qs l l' cells h hq hr ho hs
   cases qs with
   | nil=>exact hq.elim
   | cons q qs=>
     obtain⟨j,v⟩:=p
     obtain⟨j',u⟩:=q
     obtain⟨⟨rfl,hv⟩,hq2⟩:=hq
     simp only[qIx] at h
     split at h<;>try cases h
     rename_i fs fc ft hf
     cases hb:(v.good&&qCp (tab.get ft) v) with
     | false=>rw[hb] at h;cases h
     | true=>
       rw[hb] at h
       simp only[cond_true] at h
       split at h<;>try cases h
       rename_i l1 hl1
       simp only[Bool.and_eq_true] at hb
       obtain⟨d1,d2,d3⟩:=qG7 hv hb.1
       obtain⟨L,hL,hLs⟩:=qNA hb.2 d2
       have hst:=qGP hl1 ho trivial d2 (qG8 d1)
       have hoff:qd (qX l) fs none fc=qn ((ts.map SegT.shp).take fs)+fc:=by simp only[qd,hs]
       have hcl:=qC.length hr
       have hdl:=qC.length d1
       have hlen:=hst.len
       rw[hoff] at hlen
       obtain⟨cells1,f1,f2⟩:=qWN (rest:=qs) (cells:=cells) (v:=u) (hpl j fs fc ft L hf hL) (by simp at hdl;omega) (by simp at hcl hdl;omega)
       obtain⟨cells',g1,g2,g3⟩:=ih qs l1 l' cells1 h hq2 (by rw[hst.flat,f2,hoff];exact qC.over hr d1) hst.ok (hst.shp.trans hs)
       exact⟨cells',f1.trans g1,g2,g3⟩
theorem qSH {e:Env} {tab:Tab} {te:TypeId} {n m wd sz:Nat} {Le:Lay} (hm:0<m) (hw:0<wd) (hLe:tab.get te=some Le) (hsz:Le.size=m*wd) (hsz2:sz=m*wd):
  ∀ (ps:List (Nat×V)) (qs:List (Nat×Value)) (l l':List Seg) (cells:Array Value),qB7 tab te n m ps l=some l'->qC (qJN e) ps qs->qC (qR e) (qf l) cells.toList->oks l->
    qX l=[.tbl wd (n*m)]->∃ cells',Instr.fill (fun i=>some (i*sz,sz)) cells qs=some cells' /\ qC (qR e) (qf l') cells'.toList /\ oks l':=by
 intro ps
 induction ps with
 | nil=>
   intro qs l l' cells h hq hr ho _
   cases qs with
   | cons _ _=>exact hq.elim
   | nil=>simp[qB7] at h;subst h;exact⟨cells,rfl,hr,ho⟩
 | cons p ps ih=>
   intro qs l l' cells h hq hr ho hs
   cases qs with
   | nil=>exact hq.elim
   | cons q qs=>
     obtain⟨j,v⟩:=p
     obtain⟨j',u⟩:=q
     obtain⟨⟨rfl,hv⟩,hq2⟩:=hq
     simp only[qB7] at h
     cases hb:(Nat.blt j n&&v.good&&qCp (tab.get te) v) with
     | false=>rw[hb] at h;cases h
     | true=>
       rw[hb] at h
       simp only[cond_true] at h
       split at h<;>try cases h
       rename_i l1 hl1
       simp only[Bool.and_eq_true,Nat.blt_eq] at hb
       obtain⟨⟨hj,hg⟩,hf⟩:=hb
       obtain⟨d1,d2,d3⟩:=qG7 hv hg
       obtain⟨L,hL,hLs⟩:=qNA hf d2
       rw[hLe] at hL
       cases hL
       have hjn:j*m+m<=n*m:=by
        have:=Nat.mul_le_mul_right m (show j+1<=n by omega)
        rw[Nat.add_mul] at this;omega
       have hst:=qGP hl1 ho ⟨hm,wd,n*m,by rw[hs];rfl,hjn,hw⟩ d2 (qG8 d1)
       have hoff:qd (qX l) 0 (some (j*m,m)) 0=j*sz:=by
        simp only[qd,hs,List.take_zero,qn,List.getElem?_cons_zero,Option.map_some,Option.getD_some,Shp.width,Nat.zero_add,Nat.add_zero,hsz2,Nat.mul_assoc]
       have hcl:=qC.length hr
       have hdl:=qC.length d1
       have hlen:=hst.len
       rw[hoff] at hlen
       obtain⟨cells1,f1,f2⟩:=qWN (place:=fun i=>some (i*sz,sz)) (rest:=qs) (cells:=cells) (v:=u) (i:=j) rfl (by simp at hdl;omega) (by simp at hcl hdl;omega)
       obtain⟨cells',g1,g2,g3⟩:=ih qs l1 l' cells1 h hq2 (by rw[hst.flat,f2,hoff];exact qC.over hr d1) hst.ok (hst.shp.trans hs)
       exact⟨cells',f1.trans g1,g2,g3⟩
section
variable {P:Program} {o:Oper} {ρ:Rg} {h:Hp} {nx:Nat} {tab:Tab}
theorem qQO {nm:Nm} {w:World} {hp:Hp} {nx':Nat} (hh:RelH ⟨nm,h,nx⟩ w) (hle:nx<=nx') (hn:qCW hp nx nx'):
  ∃ nm',qKw ⟨nm',hp++h,nx'⟩ hp nx nx' /\ RelH ⟨nm',hp++h,nx'⟩ w /\ Frame' ⟨nm,h,nx⟩ w w /\ Ext ⟨nm,h,nx⟩ ⟨nm',hp++h,nx'⟩ w:=by
 let nm':Nm:=fun q=>if q<nx then nm q else none
 have hlow:∀ q,q<nx->hp.lookup q=none:=fun q hq=>by
  rcases hn q with⟨e1,_⟩ | ⟨e1,_,_⟩
  ·exact e1
  ·omega
 have hhigh:∀ q,nx'<=q->hp.lookup q=none:=fun q hq=>by
  rcases hn q with⟨e1,_⟩ | ⟨_,e1,_⟩
  ·exact e1
  ·omega
 have hget:∀ q,nx<=q->q<nx'->Hp.get (hp++h) q=(hp.lookup q).getD .dead:=fun q hq hq'=>by
  rcases hn q with⟨_,n⟩ | ⟨_,_,e,g,e1,_⟩
  ·omega
  ·rw[qu,e1];rfl
 have hnew:=qJ7 (e:=⟨nm,h,nx⟩) (w:=w) (w':=w) (up:=hp) (nm':=nm') (nx':=nx') hh hle (fun q hq=>⟨hlow q hq,by have hq:q<nx:=hq;simp only[nm'];rw[if_pos hq]⟩) hhigh
  (fun q hq hq'=>by
   have hq:nx<=q:=hq
   have hnq:nm' q=none:=by simp only[nm'];rw[if_neg (by omega)]
   rcases hn q with⟨_,n⟩ | ⟨_,_,e,g,e1,g1,g2⟩
   ·omega
   ·have hg:Hp.get (hp++h) q=.sli e false g:=by rw[hget q hq hq',e1];rfl
    unfold qS
    dsimp only
    rw[hg,hnq]
    exact⟨g1,g2⟩)
  (fun q x hq hx=>by
   have hq:nx<=q:=hq
   simp only[blk,nm'] at hx
   rw[if_neg (by omega)] at hx
   cases hx)
  (fun _ _=>rfl) rfl rfl rfl (Nat.le_refl _)
 exact⟨nm',fun q hq hq'=>⟨hq',by simp only[nm'];rw[if_neg (by omega)],hget q hq hq'⟩,hnew.1,hnew.2.1,hnew.2.2⟩
theorem qGx {e:Env} {a:Act}:∀ (ps:List (Nat×Operand)),(∀ p∈ps,qP e (ev ρ p.2) (a.eval p.2))->qC (qJN e) (ps.map fun p=>(p.1,ev ρ p.2)) (ps.map fun p=>(p.1,a.eval p.2))
 | [],_=>trivial
 | p :: ps,h=>⟨⟨rfl,h p (by simp)⟩,qGx ps fun q hq=>h q (by simp[hq])⟩
theorem qQQ {t:TypeId} {ps:Array (Nat×Operand)} {ts:List SegT} {fl:List (Nat×Nat×TypeId)} {l l':List Seg} {hp:Hp} {nx':Nat} (hL:LayOK P tab t (.st ts fl)) (ho:o.op=.build t ps)
  (hz:qAZ tab ts nx=some (l,hp,nx')) (hs:qIx tab fl (ps.toList.map fun p=>(p.1,ev ρ p.2)) l=some l'):qT P o ρ h nx (.agg l') hp nx':=by
 intro nm w a hr hh N Q hN
 obtain⟨i,z,hi,_,hzz,hzc⟩:=hL.info
 obtain⟨z1,z2,z3,z4,z5⟩:=qNV hz
 obtain⟨nm',n1,n2,n3,n4⟩:=qQO hh z1 z2
 obtain⟨fls,hu,hsz,hall⟩:=hL.desc
 have hmap:∀ (gs:List Field),(∀ f∈gs,∃ i,P.info? f.type=some i)->∃ pl,gs.mapM (fun f=>(P.info? f.type).map fun i=>(f.offset,i.size))=some pl /\ pl.length=gs.length /\
   ∀ (j:Nat) (f:Field),gs[j]? = some f->∃ i,P.info? f.type=some i /\ pl[j]? = some (f.offset,i.size):=by
  intro gs
  induction gs with
  | nil=>intro _;exact⟨[],rfl,rfl,fun j f hj=>by simp at hj⟩
  | cons g gs ih=>
    intro hg
    obtain⟨pl,p1,p2,p3⟩:=ih fun f hf=>hg f (by simp[hf])
    obtain⟨i,hi⟩:=hg g (by simp)
    refine⟨(g.offset,i.size) :: pl,?_,by simp[p2],fun j f hj=>?_⟩
    ·rw[List.mapM_cons,hi,p1];rfl
    ·cases j with
     | zero=>simp at hj;subst hj;exact⟨i,hi,by simp⟩
     | succ j=>simpa using p3 j f (by simpa using hj)
 obtain⟨pl,p1,p2,p3⟩:=hmap fls.toList fun f hf=>by
  obtain⟨j,hj⟩:=List.getElem?_of_mem hf
  obtain⟨_,_,_,_,_,_,_,_,i,hi,_⟩:=hall j f (by simpa using hj)
  exact⟨i,hi⟩
 obtain⟨cells',c1,c2,c3⟩:=qrJ (e:=⟨nm',hp++h,nx'⟩) (tab:=tab) (ts:=ts) (fl:=fl) (place:=fun j=>pl.toArray[j]?) (fun j a' b' ft L hf hg=>by
   have hlt:=getElem?_lt hf
   have hgf:fls[j]? = some fls[j]:=Array.getElem?_eq_getElem (by omega)
   obtain⟨a1,b1,L1,q1,q2,q3,_,_,i1,q4,q5⟩:=hall j _ hgf
   rw[hf] at q1
   simp only[Option.some.injEq,Prod.mk.injEq] at q1
   obtain⟨rfl,rfl,rfl⟩:=q1
   rw[hg] at q2
   cases q2
   obtain⟨i2,r1,r2⟩:=p3 j fls[j] (by rw[Array.getElem?_toList];exact hgf)
   rw[q4] at r1
   cases r1
   simp only[List.getElem?_toArray,r2,q3,q5])
  _ (ps.toList.map fun p=>(p.1,a.eval p.2)) l l' z.cells hs (qGx _ fun p hp'=>(hr p.2 (by simp only[ho,Op.operands];simp;exact⟨p.1,by simpa using hp'⟩)).ext n4) (by rw[hzc];exact z5 _ n1) z3 z4
 unfold Oper.wp
 have hrun:(execOp a.eval o).run P w=.ok (.value (.agg cells')) w:=by
  have hb:P.built t (ps.map fun p=>(p.1,a.eval p.2)).toList=some cells':=by
   unfold Program.built
   simp only[hi,hu,hzz,p1,Array.toList_map]
   exact c1
  simp only[execOp,ho,Sem.run_bind,run_build w t _ cells' hb,Result.andThen_ok]
  rfl
 rw[hrun]
 exact hN _ nm' w ⟨cells',rfl,c2,c3⟩ n2 n3 n4
theorem qQP {t e:TypeId} {ps:Array (Nat×Operand)} {n m:Nat} {tg:SegT} {l l':List Seg} {hp:Hp} {nx':Nat} (hL:LayOK P tab t (.ar n m e tg)) (ho:o.op=.build t ps)
  (hz:qAZ tab [tg] nx=some (l,hp,nx')) (hs:qB7 tab e n m (ps.toList.map fun p=>(p.1,ev ρ p.2)) l=some l'):qT P o ρ h nx (.agg l') hp nx':=by
 intro nm w a hr hh N Q hN
 obtain⟨i,z,hi,_,hzz,hzc⟩:=hL.info
 obtain⟨z1,z2,z3,z4,z5⟩:=qNV hz
 obtain⟨nm',n1,n2,n3,n4⟩:=qQO hh z1 z2
 obtain⟨hu,hm0,hw0,htg,Le,ie,hge,hie,hse,hLs⟩:=hL.desc
 obtain⟨cells',c1,c2,c3⟩:=qSH (e:=⟨nm',hp++h,nx'⟩) (n:=n) hm0 hw0 hge hLs hse _ (ps.toList.map fun p=>(p.1,a.eval p.2)) l l' z.cells hs
  (qGx _ fun p hp'=>(hr p.2 (by simp only[ho,Op.operands];simp;exact⟨p.1,by simpa using hp'⟩)).ext n4) (by rw[hzc];exact z5 _ n1) z3 (by rw[z4];simp only[List.map_cons,List.map_nil];rw[<- htg])
 unfold Oper.wp
 have hrun:(execOp a.eval o).run P w=.ok (.value (.agg cells')) w:=by
  have hb:P.built t (ps.map fun p=>(p.1,a.eval p.2)).toList=some cells':=by
   unfold Program.built
   simp only[hi,hu,hzz,hie,Array.toList_map]
   exact c1
  simp only[execOp,ho,Sem.run_bind,run_build w t _ cells' hb,Result.andThen_ok]
  rfl
 rw[hrun]
 exact hN _ nm' w ⟨cells',rfl,c2,c3⟩ n2 n3 n4
end
section
variable {P:Program} {o:Oper} {ρ:Rg} {h:Hp} {nx:Nat} {tab:Tab}
theorem qSf {e:Env} {w:World} {ob sg:Nat} {row:Option (Nat×Nat)} {col:Nat} {v:Value} {t:TypeId} {ro:Bool} {g:Seg} (hh:RelH e w) (hv:qR e (.ptr ob sg row col) v)
  (ho:e.h.get ob=.sli t ro g):∃ b off cap,e.nm ob=some (b,off,cap) /\ g.ok /\ qIu [g.shp] sg row col /\ v=.pointer (some ⟨b,off+qd [g.shp] sg row col,none⟩) /\
   ∃ vs,qC (qR qAw) g.flat vs /\ ∀ j u,vs[j]? = some u->w.cell? ⟨b,off+j,none⟩=some u:=by
 have h1:=hh.obj ob
 unfold qS at h1
 obtain⟨_,h6⟩:=hv
 rw[ho] at h6
 obtain⟨h7,b,off,cap,h8,h9⟩:=h6
 rw[ho] at h1
 cases ro with
 | false=>
   simp only[h8] at h1
   obtain⟨g1,rfl,arr,g2,g3,g4,g5,g6⟩:=h1
   refine⟨b,0,cap,h8,g1,h7,h9,_,g6,fun j u hu=>?_⟩
   rw[List.getElem?_take] at hu
   split at hu
   ·simp only[World.cell?,g2,Nat.zero_add]
    simpa using hu
   ·cases hu
 | true=>
   simp only[h8] at h1
   obtain⟨g1,g2,_,g3⟩:=h1
   refine⟨b,off,cap,h8,g1,h7,h9,(List.range g.flat.length).map (fun j=>(w.cell? ⟨b,off+j,none⟩).getD undef),?_,fun j u hu=>?_⟩
   ·have:∀ (l:List S) (k:Nat),(∀ j s,l[j]? = some s->∃ v,w.cell? ⟨b,off+(k+j),none⟩=some v /\ qR qAw s v)->
      qC (qR qAw) l ((List.range' k l.length).map (fun j=>(w.cell? ⟨b,off+j,none⟩).getD undef)):=by
     intro l
     induction l with
     | nil=>intro k _;trivial
     | cons s l ih=>
       intro k hl
       simp only[List.length_cons,List.range'_succ,List.map_cons]
       refine⟨?_,ih (k+1) fun j s' hj=>by have:=hl (j+1) s' (by simpa using hj);rwa [show k+(j+1)=k+1+j by omega] at this⟩
       obtain⟨v,hv,hr⟩:=hl 0 s (by simp)
       simp only[Nat.add_zero] at hv
       rw[hv];exact hr
    have:=this g.flat 0 fun j s hj=>by rw[Nat.zero_add];exact g3 j s hj
    rwa [<- List.range_eq_range'] at this
   ·simp only[List.getElem?_map] at hu
    cases hr:(List.range g.flat.length)[j]? with
    | none=>rw[hr] at hu;cases hu
    | some q=>
      rw[hr] at hu
      have hlt:=getElem?_lt hr
      simp only[List.length_range] at hlt
      have hq:q=j:=by
       rw[List.getElem?_range hlt] at hr
       exact (Option.some.inj hr).symm
      subst hq
      obtain⟨v,hv,_⟩:=g3 q _ (List.getElem?_eq_getElem hlt)
      simp only[Option.map_some,hv,Option.getD_some,Option.some.injEq] at hu
      rw[hv,hu]
theorem qmg {x:Operand} {t T:TypeId} {ob sg:Nat} {row:Option (Nat×Nat)} {col:Nat} {ro:Bool} {g:Seg} {L:Lay} {v:V} (hL:LayOK P tab t L)
  (ho:o.op=.load t x) (hx:ev ρ x=.s (.ptr ob sg row col)) (hob:h.get ob=.sli T ro g) (hv:loadAt [g] sg row col L=some v):qT P o ρ h nx v [] nx:=
 qT.pure fun nm w a hr hh=>by
  have h1:=hr x (by simp[ho,Op.operands])
  rw[hx] at h1
  obtain⟨b,off,cap,_,c4,c5,c6,vs,c7,c8⟩:=qSf (e:=⟨nm,h,nx⟩) hh h1 hob
  have hld:=qJ1 hv (qAX.2 ⟨c4,qCh⟩) c5
  have hfl:qf [g]=g.flat:=by simp
  have hlen:(sub vs (qd [g.shp] sg row col) L.size).length=L.size:=by
   have:=qC.length c7
   have:=hld.len
   rw[hfl] at this
   simp only[shps_cons,shps_nil] at this
   simp[sub];omega
  have hrun:=qMR (P:=P) (w:=w) (b:=b) (off:=off+qd [g.shp] sg row col) hL hlen fun j u hu=>by
   obtain⟨g1,_⟩:=qNL hu
   have:=c8 _ _ g1
   rwa [<- Nat.add_assoc] at this
  refine⟨_,?_,qJ2 hld (by rw[hfl];exact qC.mono (fun _ _ hu=>qR.of0 hu) (qC.take _ (qC.drop _ c7)))⟩
  simp only[execOp,ho,c6,Instr.loadAt,Instr.sureAddr,Sem.run_bind,Sem.run_pure,Result.andThen_ok,hrun]
  rfl
theorem qRw {e:Env} {g:Seg} (hg:∀ vs,g≠.one vs):∀ {vs:List Value},qC (qR e) g.flat vs->qC (qR qAw) g.flat vs:=by
 intro vs h
 refine qC.mono_mem (fun s v hs hv=>?_) h
 cases g with
 | one vs=>exact absurd rfl (hg vs)
 | arr k n l=>obtain⟨_,_,rfl⟩:=List.mem_map.1 hs;exact hv
 | barr n l=>obtain⟨_,_,rfl⟩:=List.mem_map.1 hs;exact hv
 | rows ks n xs=>
   obtain⟨r,_,hr⟩:=List.mem_flatMap.1 hs
   have:∀ (ks:List CK) (r:List Int) (s:S),s∈mks ks r->qR e s v->qR qAw s v:=by
    intro ks
    induction ks with
    | nil=>intro r s hs;simp[mks] at hs
    | cons c ks ih=>
      intro r s hs hv
      rcases List.mem_cons.1 hs with rfl | hs
      ·cases c<;>exact hv
      ·exact ih _ _ hs hv
   exact this ks r s hr hv
theorem qYw {α:Type} (l:List α) (off n:Nat) (new:List α) (h:off+new.length<=n) (hn:n<=l.length):(over l off new).take n=over (l.take n) off new:=by
 unfold over
 have e1:(l.take off).length=off:=by simp;omega
 have e2:(l.take off++new).length=off+new.length:=by simp;omega
 rw[List.take_take,Nat.min_eq_left (by omega),List.drop_take,List.take_append,List.take_of_length_le (l:=l.take off++new) (by omega),e2]
theorem qmq {x y:Operand} {t T:TypeId} {ob sg:Nat} {row:Option (Nat×Nat)} {col:Nat} {g g':Seg} (htab:∀ t L,tab.get t=some L->LayOK P tab t L)
  (ho:o.op=.store t x y) (hx:ev ρ x=.s (.ptr ob sg row col)) (hob:h.get ob=.sli T false g) (hg:(ev ρ y).good=true) (hsz:qCp (tab.get t) (ev ρ y)=true)
  (hv:storeAt [g] sg row col (ev ρ y)=some [g']) (hone:g'.isTbl=true):qT P o ρ h nx qCq [(ob,.sli T false g')] nx:=by
 intro nm w a hr hh N Q hN
 have h1:=hr x (by simp[ho,Op.operands])
 rw[hx] at h1
 have h2:=hr y (by simp[ho,Op.operands])
 obtain⟨b,off,cap,c1,c4,c5,c6,_⟩:=qSf (e:=⟨nm,h,nx⟩) hh h1 hob
 have hob':=hh.obj ob
 unfold qS at hob'
 rw[show (Env.h ⟨nm,h,nx⟩).get ob=_ from hob] at hob'
 have c1':nm ob=some (b,off,cap):=c1
 simp only[c1'] at hob'
 obtain⟨_,rfl,arr,g2,g3,g4,g5,g6⟩:=hob'
 obtain⟨d1,d2,d3⟩:=qG7 h2 hg
 have hst:=qGP hv (qAX.2 ⟨c4,qCh⟩) c5 d2 (qG8 d1)
 obtain⟨L,hL,hLs⟩:=qNA hsz d2
 have hfl:qf [g]=g.flat:=by simp
 have hfl':qf [g']=g'.flat:=by simp
 have hsh:g'.shp=g.shp:=by have:=hst.shp;simpa[qX] using this
 have hok':g'.ok:=(qAX.1 hst.ok).1
 have hdl:=qC.length d1
 have hlen:=hst.len
 rw[hfl,Seg.flat_length c4] at hlen
 have hsz2:g.shp.size<=arr.toList.length:=by
  have:g.shp.size=g.shp.rows*g.shp.width \/ g.shp.width=0 /\ g.shp.rows=0:=by
   cases hq:g.shp with
   | one n=>right;exact⟨rfl,rfl⟩
   | tbl wd n=>left;rfl
  have hl6:=qC.length g6
  rw[Seg.flat_length c4,List.length_take] at hl6
  omega
 let p:=qd [g.shp] sg row col
 have hp:p+(a.eval y).cells.toList.length<=g.shp.size:=by
  simp only[shps_cons,shps_nil] at hlen
  show qd [g.shp] sg row col+_<=_
  omega
 have hrun:=qZp (P:=P) (v:=a.eval y) (off:=p) (htab t L hL) g2 (by omega) (by simp at hsz2 hp ⊢;omega) d3
 let w':=w.setRow b (over arr.toList p (a.eval y).cells.toList).toArray
 have hrel:=qNQ (e:=⟨nm,h,nx⟩) (w:=w) (w':=w') (o:=ob) (b:=b) (x':=.sli T false g') hh h1.1 (by show (h.get ob).owned=true;rw[hob];rfl) (by show _=(h.get ob).shape;rw[hob];simp[Obj.shape,hsh]) rfl
  (by show (nm ob).map (·.1)=some b;rw[show nm ob=_ from c1];rfl) (by
   have hget:Hp.get ((ob,Obj.sli T false g') :: h) ob=.sli T false g':=by simp[Hp.get]
   unfold qS
   dsimp only
   rw[hget]
   simp only[show nm ob=_ from c1]
   refine⟨hok',trivial,_,setRow_heap w b arr _ T (0,0) g2,?_,by rw[hsh];exact g4,g5,?_⟩
   ·rw[hsh,<- g3]
    simp only[List.size_toArray]
    rw[qYv _ _ _ (by omega)]
    simp
   ·rw[hsh]
    simp only
    rw[qYw _ _ _ _ hp hsz2]
    refine qRw (e:=⟨nm,h,nx⟩) (fun vs hvs=>by rw[hvs] at hone;cases hone) ?_
    rw[<- hfl',hst.flat,hfl]
    exact qC.over (qC.mono (fun _ _ hu=>qR.of0 hu) g6) d1)
  (fun k hk=>setRow_other w b k _ hk) rfl rfl rfl (by simp[w'])
 unfold Oper.wp
 have hex:(execOp a.eval o).run P w=.ok .skip w':=by
  simp only[execOp,ho,c6,Instr.storeAt,Instr.sureAddr,Sem.run_bind,Sem.run_pure,Result.andThen_ok,Nat.zero_add]
  rw[show qd [g.shp] sg row col=p from rfl,hrun]
  rfl
 rw[hex]
 exact hN undef nm w' ⟨#[],rfl,trivial⟩ hrel.1 hrel.2.1 hrel.2.2
theorem qJk {L:Lay} {g:Seg} (h:qy (some L)=some g):g.shp.width=L.size /\ 0<g.shp.width \/ g.shp.width=0:=by
 unfold qy at h
 split at h<;>try cases h
 ·rename_i k e;cases e;left;exact⟨rfl,Nat.one_pos⟩
 ·rename_i e;cases e;left;exact⟨rfl,Nat.one_pos⟩
 ·rename_i e;cases e;left;exact⟨rfl,Nat.one_pos⟩
 ·rename_i ts fl e
  cases e
  split at h<;>cases h
  rename_i ks hk
  by_cases hz:ks.length=0
  ·right;simpa[Seg.shp,Shp.width] using hz
  ·left
   refine⟨?_,by simp[Seg.shp,Shp.width];omega⟩
   simp only[Seg.shp,Shp.width,qMs,Lay.segTs]
   clear hz
   induction ts generalizing ks with
   | nil=>simp[qAQ] at hk;subst hk;rfl
   | cons t ts ih=>
     have kl:∀ {qs:List Kd} {c:List CK},kcks? qs=some c->c.length=qs.length:=by
      intro qs
      induction qs with
      | nil=>intro c h;simp[kcks?] at h;subst h;rfl
      | cons q qs ih2=>
        intro c h
        simp only[kcks?] at h
        split at h<;>cases h
        rename_i n l _ e6
        simp[ih2 e6]
     cases t<;>simp only[qAQ] at hk<;>(try (split at hk<;>cases hk))<;>(try cases hk)
     ·rename_i a b e1 e2
      simp[qBY,qn,SegT.shp,Shp.size,kl e1] at *
      rw[ih b e2]
     ·rename_i b e2
      simp[qBY,qn,SegT.shp,Shp.size] at *
      rw[ih b e2]
     ·rename_i b e2
      simp[qBY,qn,SegT.shp,Shp.size] at *
      rw[ih b e2]
theorem qmd {x y:Operand} {t e T:TypeId} {ob lo len:Nat} {full ro:Bool} {g g0:Seg} {k:IntKind} {j:Int} (htab:∀ t L,tab.get t=some L->LayOK P tab t L) (hL:LayOK P tab t (.sc (.sl e)))
  (ho:o.op=.indexAddr t x y) (hx:ev ρ x=.s (.sl ob lo len full)) (hy:ev ρ y=.s (.i k j)) (hj:inB j len=true) (hob:h.get ob=.sli T ro g) (he:qy (tab.get e)=some g0)
  (hwd:g.shp.width=g0.shp.width) (hpos:0<g.shp.width):qT P o ρ h nx (.s (.ptr ob 0 (some (lo+j.toNat,1)) 0)) [] nx:=
 qT.pure fun nm w a hr hh=>by
  have h1:=hr x (by simp[ho,Op.operands])
  rw[hx] at h1
  have h2:=hr y (by simp[ho,Op.operands])
  rw[hy] at h2
  obtain⟨h2,_⟩:=qBq h2
  obtain⟨h3,h4⟩:=h1
  rw[show (Env.h ⟨nm,h,nx⟩).get ob=_ from hob] at h4
  have h4:qAE nm ob g.shp lo len full (a.eval x):=h4
  have hj':=hj
  simp only[inB,Bool.and_eq_true,decide_eq_true_eq] at hj'
  unfold qAE at h4
  split at h4
  ·omega
  ·rename_i b off cap hnm
   obtain⟨c,h5,h6,h7,h8⟩:=h4
   obtain⟨d,hu,hd⟩:=hL.desc
   simp only at hd
   subst hd
   cases hge:tab.get e with
   | none=>rw[hge] at he;simp[qy] at he
   | some Le=>
     rw[hge] at he
     obtain⟨i,z,hi,hs,_⟩:=(htab e Le hge).info
     have hwe:g.shp.width=i.size:=by
      rcases qJk he with⟨q1,_⟩ | q1
      ·rw[hwd,q1,hs]
      ·omega
     have hm:(h.get ob).isMem=true:=by rw[hob];rfl
     have hrows:∃ wd n,g.shp=.tbl wd n:=by
      cases hq:g.shp with
      | one n=>rw[hq] at hpos;exact absurd hpos (Nat.lt_irrefl _)
      | tbl wd n=>exact⟨_,_,rfl⟩
     obtain⟨wd,n,hgs⟩:=hrows
     refine⟨_,by simp only[execOp,ho,h5,h2,Sem.run_bind,qql hu hi w b _ len c k hj,Result.andThen_ok];rfl,(qBO (e:=⟨nm,h,nx⟩) hm).2 ⟨h3,?_,b,off,cap,hnm,?_⟩⟩
     ·show qIu (qX (h.get ob).segs) 0 (some (lo+j.toNat,1)) 0
      rw[hob]
      refine⟨Nat.le_refl _,wd,n,by simp[Obj.segs,hgs],?_,?_⟩
      ·rw[hgs] at h7;simp only[Shp.rows] at h7;omega
      ·rw[hgs] at hpos;exact hpos
     ·show _=Value.pointer (some ⟨b,off+qd (qX (h.get ob).segs) 0 (some (lo+j.toNat,1)) 0,none⟩)
      rw[hob]
      simp only[Obj.segs,shps_cons,shps_nil,qd,List.take_zero,qn,List.getElem?_cons_zero,Option.map_some,Option.getD_some,Nat.zero_add,Nat.add_zero,Nat.add_mul,hwe]
      congr 3
      omega
end
end Go.Kk
