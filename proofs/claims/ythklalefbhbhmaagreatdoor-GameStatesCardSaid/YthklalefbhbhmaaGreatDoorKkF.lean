/-
 Regions: those in their order, and those whose order is drawn.
-/
import Derived.Test.YthklalefbhbhmaaGreatDoorKkD
import Derived.Orders
namespace Go.Kk
structure Onto (e0:Env) (w0:World) (e:Env) (w:World):Prop where
 fr:Frame' e0 w0 w
 ex:Ext e0 e w0
theorem Onto.refl {e:Env} {w:World} (h:RelH e w):Onto e w e w:=⟨Frame'.refl _ _,Ext.refl h⟩
theorem Onto.trans {e0 e1 e2:Env} {w0 w1 w2:World} (a:Onto e0 w0 e1 w1) (b:Onto e1 w1 e2 w2):Onto e0 w0 e2 w2:=by
 have own1:∀ o b,(e1.h.get o).shape≠.dead->Has e1.nm o b->w0.heap.size<=b \/ ∃ o',(e0.h.get o').shape≠.dead /\ Has e0.nm o' b /\ ((e1.h.get o).owned=true->(e0.h.get o').owned=true):=by
  intro o b' ho hb
  rcases Nat.lt_or_ge o e0.nx with h | h
  ·obtain⟨x1,x2,x3⟩:=a.ex.old o h
   refine .inr ⟨o,?_,by simp only[Has] at hb ⊢;rw[<- x1];exact hb,x3⟩
   rcases x2 with x2 | x2
   ·rwa [<- x2]
   ·exact absurd x2 ho
  ·exact a.ex.own o b' h ho hb
 refine⟨⟨b.fr.os.trans a.fr.os,b.fr.tape.trans a.fr.tape,b.fr.output.trans a.fr.output,Nat.le_trans a.fr.size b.fr.size,fun k hk hno=>?_⟩,⟨Nat.le_trans a.ex.nx b.ex.nx,fun o ho=>?_,fun o b' ho hd hb=>?_⟩⟩
 ·rw[b.fr.block k (Nat.lt_of_lt_of_le hk a.fr.size) fun o ho hb=>?_]
  ·exact a.fr.block k hk hno
  ·rcases own1 o k (qAr ho) hb with h | ⟨o',_,h2,h3⟩
   ·omega
   ·exact hno o' (h3 ho) h2
 ·obtain⟨x1,x2,x3⟩:=a.ex.old o ho
  obtain⟨y1,y2,y3⟩:=b.ex.old o (Nat.lt_of_lt_of_le ho a.ex.nx)
  refine⟨y1.trans x1,?_,fun h=>x3 (y3 h)⟩
  rcases y2 with y2 | y2
  ·rw[y2];exact x2
  ·exact .inr y2
 ·rcases Nat.lt_or_ge o e1.nx with h | h
  ·obtain⟨y1,y2,y3⟩:=b.ex.old o h
   have hd1:(e1.h.get o).shape≠.dead:=by
    rcases y2 with y2 | y2
    ·rwa [<- y2]
    ·exact absurd y2 hd
   rcases a.ex.own o b' ho hd1 (by simp only[Has] at hb ⊢;rw[<- y1];exact hb) with h1 | ⟨o',h1,h2,h3⟩
   ·exact .inl h1
   ·exact .inr ⟨o',h1,h2,fun h=>h3 (y3 h)⟩
  ·rcases b.ex.own o b' h hd hb with h1 | ⟨o',h1,h2,h3⟩
   ·exact .inl (Nat.le_trans a.fr.size h1)
   ·rcases own1 o' b' h1 h2 with h4 | ⟨o'',h4,h5,h6⟩
    ·exact .inl h4
    ·exact .inr ⟨o'',h4,h5,fun h=>h6 (h3 h)⟩
structure SR (c:Ctx) (Z:List Deferred) (e:Env) (ρ:Rg) (a:Act) (w:World):Prop where
 reg:∀ t,qS e (Rg.get ρ t) (a.tmps.getD t undef)
 size:a.tmps.size=c.nt
 defers:a.defers=Z
 hp:RelH e w
theorem qYl {e:Env} {ρ:Rg} {a:Act} {x:Operand} (h:∀ t,x=.tmp t->qS e (Rg.get ρ t) (a.tmps.getD t undef)):qS e (ev ρ x) (a.eval x):=by
 cases x with
 | tmp t=>exact h t rfl
 | const v=>exact qgS e v
 | func f=>exact⟨[],rfl,trivial⟩
 | global g=>
   simp only[ev]
   split
   ·rename_i hg
    exact⟨rfl,_,_,hg,Nat.succ_pos _⟩
   ·trivial
theorem qHo {a:Act} {dst:Option Tmp} {v:Value} {n:Nat} (hs:a.tmps.size=n) (hd:∀ d,dst=some d->d<n) (t:Nat):
  (a.put dst v).tmps.getD t undef=if dst=some t then v else a.tmps.getD t undef:=by
 cases dst with
 | none=>simp[Act.put]
 | some d=>
   have:=hd d rfl
   by_cases h:d=t
   ·subst h
    simp[Act.put,Array.getD_eq_getD_getElem?,hs,this]
   ·simp[Act.put,Array.getD_eq_getD_getElem?,h]
theorem qLb {a:Act} {dst:Option Tmp} {v:Value}:(a.put dst v).tmps.size=a.tmps.size:=by cases dst<;>simp[Act.put]
theorem qLa {a:Act} {dst:Option Tmp} {v:Value}:(a.put dst v).defers=a.defers:=by cases dst<;>rfl
theorem qSu (e:Env):qS e qCF undef:=⟨#[],rfl,trivial⟩
section
variable {P:Program} {c:Ctx} {Z:List Deferred}
theorem qlf {ops:List Oper} (hc:CtxOK P c):∀ (l:List Oper) {R:Type} {ρ:Rg} {h:Hp} {nx:Nat} {K:Rg->Hp->Nat->Option R} {r:R},qPy c ops l ρ h nx K=some r->
  ∃ ρ' h' nx',K ρ' h' nx'=some r /\ ∀ {Z:List Deferred} {nm:Nm} {a:Act} {w:World} {Q:Exit->Act->World->Prop},SR c Z ⟨nm,h,nx⟩ ρ a w->
    (∀ nm' a' w',SR c Z ⟨nm',h',nx'⟩ ρ' a' w'->Onto ⟨nm,h,nx⟩ w ⟨nm',h',nx'⟩ w'->Q .normal a' w')->wpList P ops.toArray Q l a w:=by
 intro l
 induction l with
 | nil=>intro R ρ h nx K r hE;exact⟨ρ,h,nx,hE,fun hs hQ=>hQ _ _ _ hs (Onto.refl hs.hp)⟩
 | cons o l ih=>
   intro R ρ h nx K r hE
   obtain⟨want,v,up,nx',ρ',h1,h2,h3⟩:=qct hc hE
   obtain⟨ρ'',h'',nx'',k1,k2⟩:=ih h1
   refine⟨ρ'',h'',nx'',k1,fun {Z nm a w Q} hs hQ=>?_⟩
   have hw:=h2.wtd ⟨nm,h,nx⟩ a fun t _=>hs.reg t
   unfold wpList
   rw[hw]
   cases want with
   | true=>
     rw[if_pos rfl]
     refine .inl (h2.run rfl nm w a (fun x _=>qYl fun t _=>hs.reg t) hs.hp _ Q fun vr nm' w' r1 r2 r3 r4=>?_)
     refine k2 ⟨fun t=>?_,qLb.trans hs.size,qLa.trans hs.defers,r2⟩ fun nm'' a'' w'' e2 e3=>hQ _ _ _ e2 (Onto.trans ⟨r3,r4⟩ e3)
     rw[h3 t,qHo hs.size h2.dst]
     split
     ·exact r1
     ·exact (hs.reg t).ext r4
   | false=>
     obtain⟨rfl,rfl,rfl⟩:=h2.skip rfl
     rw[if_neg (by simp)]
     refine k2 ⟨fun t=>?_,qLb.trans hs.size,qLa.trans hs.defers,hs.hp⟩ hQ
     rw[h3 t,qHo hs.size h2.dst]
     split
     ·exact qSu _
     ·exact hs.reg t
theorem qdt {ops:List Oper} {D:Nat->Prop} (down:∀ i o,ops[i]? = some o->D i->∀ e∈o.after,Region.binds .any e=true->D e.on):
  ∀ (l:List Oper) (tb:List Nat) (k:Nat),tb.length=k->ops.drop k=l->(∀ i o,i<k->ops[i]? = some o->(∀ e∈o.after,Region.binds .any e=true->D e.on)->∀ j,Nat.testBit (tb.getD i 0) j=true->D j)->
    (∀ i o,k<=i->ops[i]? = some o->qFu o i=true)->
    ∀ i o,ops[i]? = some o->(∀ e∈o.after,Region.binds .any e=true->D e.on)->∀ j,Nat.testBit ((qA9 l tb).getD i 0) j=true->D j:=by
 intro l
 induction l with
 | nil=>
   intro tb k hk hd hI _ i o ho he j hj
   have:ops.length<=k:=by simpa using hd
   exact hI i o (by have:=getElem?_lt ho;omega) ho he j hj
 | cons o l ih=>
   intro tb k hk hd hI hE
   have hko:ops[k]? = some o:=by
    have:=congrArg (·[0]?) hd
    simpa using this
   refine ih _ (k+1) (by simp[hk]) (by rw[<- List.drop_drop,hd];rfl) (fun i o' hi ho' he j hj=>?_) (fun i o' hi ho'=>hE i o' (by omega) ho')
   rcases Nat.lt_or_ge i k with hlt | hge
   ·rw[List.getD_eq_getElem?_getD,List.getElem?_append_left (by omega),<- List.getD_eq_getElem?_getD] at hj
    exact hI i o' hlt ho' he j hj
   ·have : i=k:=by omega
    subst this
    rw[hko] at ho'
    cases ho'
    rw[List.getD_eq_getElem?_getD,List.getElem?_append_right (by omega)] at hj
    simp only[hk,Nat.sub_self,List.getElem?_cons_zero,Option.getD_some] at hj
    have hmem:∀ e∈o.after.toList,Region.binds .any e=true->D e.on:=fun e he' hb=>he e (by simpa using he') hb
    have hed:=hE i o (Nat.le_refl _) hko
    unfold qFu at hed
    rw[List.all_eq_true] at hed
    revert hj hmem hed
    generalize o.after.toList=es
    intro hj hmem hed
    induction es with
    | nil=>simp at hj
    | cons e es ihs=>
      simp only[List.foldr_cons] at hj
      have tail:=fun hj=>ihs hj (fun e' he' hb=>hmem e' (by simp[he']) hb) (fun e' he'=>hed e' (by simp[he']))
      cases hb:Region.binds .any e with
      | false=>rw[hb] at hj;exact tail hj
      | true=>
        rw[hb] at hj
        simp only[cond_true,Nat.testBit_or,Bool.or_eq_true] at hj
        have hde:=hmem e (by simp) hb
        rcases hj with (hj | hj) | hj
        ·exact tail hj
        ·rw[Nat.one_shiftLeft,Nat.testBit_two_pow] at hj
         have:e.on=j:=by simpa using hj
         rw[<- this];exact hde
        ·have hlt:e.on<i:=by
          have:=hed e (by simp)
          rw[hb] at this
          simpa[Nat.blt_eq] using this
         obtain⟨oe,hoe⟩:∃ oe,ops[e.on]? = some oe:=by
          have:=getElem?_lt hko
          exact⟨_,List.getElem?_eq_getElem (by omega)⟩
         exact hI e.on oe hlt hoe (fun e' he' hb'=>down e.on oe hoe hde e' he' hb') j hj
theorem qlj {ops:List Oper} {x:Oper} {tx:List Nat} {m:Nat}:∀ (l:List Oper) (i:Nat),qLR ops x tx m i l=true->∀ j y,l[j]? = some y->
  Nat.testBit m (i+j)=true \/ (qCL x.dst (qAl ops y)=false /\ qCL y.dst tx=false /\ qCr x.dst y.dst=false):=by
 intro l
 induction l with
 | nil=>intro i _ j y hy;cases hy
 | cons z l ih=>
   intro i h j y hy
   simp only[qLR,Bool.and_eq_true,Bool.or_eq_true,Bool.not_eq_true'] at h
   cases j with
   | zero=>
     cases hy
     rcases h.1 with h1 | ⟨⟨h1,h2⟩,h3⟩
     ·exact .inl h1
     ·exact .inr ⟨h1,h2,h3⟩
   | succ j=>
     have:=ih (i+1) h.2 j y (by simpa using hy)
     rwa [show i+1+j=i+(j+1) by omega] at this
theorem qlk {ops:List Oper} {tb:List Nat}:∀ (l pre:List Oper) (k:Nat),pre.length=k->qLS ops tb k pre l=true->∀ i o,l[i]? = some o->qFu o (k+i)=true /\
  ∀ j y,j<k+i->(pre++l)[j]? = some y->Nat.testBit (tb.getD (k+i) 0) j=true \/
    (qCL o.dst (qAl ops y)=false /\ qCL y.dst (qAl ops o)=false /\ qCr o.dst y.dst=false):=by
 intro l
 induction l with
 | nil=>intro pre k _ _ i o ho;cases ho
 | cons z l ih=>
   intro pre k hk h i o ho
   simp only[qLS,Bool.and_eq_true] at h
   cases i with
   | zero=>
     cases ho
     refine⟨h.1.1,fun j y hj hy=>?_⟩
     have:=qlj pre 0 h.1.2 j y (by rwa [List.getElem?_append_left (by omega)] at hy)
     simpa using this
   | succ i=>
     have:=ih (pre++[z]) (k+1) (by simp[hk]) h.2 i o (by simpa using ho)
     rw[show k+1+i=k+(i+1) by omega] at this
     refine⟨this.1,fun j y hj hy=>this.2 j y hj ?_⟩
     rw[<- hy];simp
theorem qMe:∀ {l m:List Nat},qGo l m=true->∀ x∈l,x ∉ m:=by
 intro l
 induction l with
 | nil=>intro m _ x hx;cases hx
 | cons y l ih=>
   intro m h x hx
   simp only[qGo,Bool.and_eq_true,Bool.not_eq_true'] at h
   rcases List.mem_cons.1 hx with rfl | hx
   ·intro hm;rw[qK9.2 hm] at h;cases h.1
   ·exact ih h.2 x hx
theorem qj2 {x:Lg} {m:Nat}:∀ (l:List Lg) (i:Nat),qK8 x m i l=true->∀ j y,l[j]? = some y->Nat.testBit m (i+j)=true \/ ((x.soft=true \/ y.soft=true \/ x.fr=true) /\ (∀ o∈x.reads,o ∉ y.hurts x.deep) /\ ∀ o∈y.reads,o ∉ x.hurts y.deep):=by
 intro l
 induction l with
 | nil=>intro i _ j y hy;cases hy
 | cons z l ih=>
   intro i h j y hy
   simp only[qK8,Bool.and_eq_true,Bool.or_eq_true] at h
   cases j with
   | zero=>
     cases hy
     rcases h.1 with h1 | ⟨⟨h0,h1⟩,h2⟩
     ·exact .inl h1
     ·exact .inr ⟨by simpa[or_assoc] using h0,qMe h1,qMe h2⟩
   | succ j=>
     have:=ih (i+1) h.2 j y (by simpa using hy)
     rwa [show i+1+j=i+(j+1) by omega] at this
def qIW (x y:Lg) (m i:Nat) (pre:List Lg):Prop:=
 ((y.fr=true \/ x.fr=true)->qCr x.dt y.dt=false) /\
 (y.fr=true->(Nat.testBit m i=true /\ ∀ k z,k<i->pre[k]? = some z->z.soft=false->Nat.testBit m k=true) \/ (qCL y.dt x.tm=false /\ ∀ o∈x.reads,o ∉ y.hurts x.deep))
theorem qhO {x:Lg} {m:Nat} {pre:List Lg}:∀ (l:List Lg) (i hm:Nat),qKd x m i hm l=true->pre.drop i=l->(∀ k z,k<i->pre[k]? = some z->z.soft=false->Nat.testBit hm k=true)->
  ∀ j y,l[j]? = some y->qIW x y m (i+j) pre:=by
 intro l
 induction l with
 | nil=>intro i hm _ _ _ j y hy;cases hy
 | cons z l ih=>
   intro i hm h hd hh j y hy
   simp only[qKd,Bool.and_eq_true,Bool.or_eq_true,Bool.not_eq_true',Nat.beq_eq] at h
   obtain⟨⟨h1,h2⟩,h3⟩:=h
   cases j with
   | zero=>
     cases hy
     refine⟨fun hf=>?_,fun hf=>?_⟩
     ·rcases h1 with h1 | h1
      ·rcases hf with hf | hf
       ·rw[h1.1] at hf;cases hf
       ·rw[h1.2] at hf;cases hf
      ·exact h1
     ·rcases h2 with h2 | h2 | h2
      ·rw[h2] at hf;cases hf
      ·refine .inl ⟨h2.1,fun k u hk hu hs=>?_⟩
       have:=hh k u hk hu hs
       rw[<- h2.2,Nat.testBit_and,Bool.and_eq_true] at this
       exact this.2
      ·exact .inr ⟨h2.1,qMe h2.2⟩
   | succ j=>
     have:=ih (i+1) (bif z.soft then hm else hm ||| 1 <<< i) h3 (by rw[<- List.drop_drop,hd];rfl) (fun k u hk hu hs=>by
      rcases Nat.lt_or_ge k i with hki | hki
      ·have:=hh k u hki hu hs
       cases z.soft with
       | true=>exact this
       | false=>simp only[cond_false,Nat.testBit_or,this,Bool.true_or]
      ·have hki:k=i:=by omega
       subst hki
       have hz:pre[k]? = some z:=by have:=congrArg (·[0]?) hd;simpa using this
       rw[hz] at hu
       cases hu
       rw[hs]
       simp[Nat.testBit_or]) j y (by simpa using hy)
     rwa [show i+1+j=i+(j+1) by omega] at this
theorem qhN {tb:List Nat}:∀ (l pre:List Lg) (k:Nat),pre.length=k->qHc tb k pre l=true->∀ i x,l[i]? = some x->∀ j y,j<k+i->(pre++l)[j]? = some y->
  qIW x y (tb.getD (k+i) 0) j (pre++l):=by
 intro l
 induction l with
 | nil=>intro pre k _ _ i o ho;cases ho
 | cons z l ih=>
   intro pre k hk h i o ho
   simp only[qHc,Bool.and_eq_true] at h
   cases i with
   | zero=>
     cases ho
     intro j y hj hy
     have hyp:pre[j]? = some y:=by rwa [List.getElem?_append_left (by omega)] at hy
     have:=qhO (pre:=pre) pre 0 0 h.1.2 rfl (fun k z hk=>by omega) j y hyp
     rw[Nat.zero_add] at this
     refine⟨this.1,fun hf=>?_⟩
     rcases this.2 hf with⟨h1,h2⟩ | h1
     ·refine .inl ⟨h1,fun q u hq hu hs=>h2 q u hq ?_ hs⟩
      rwa [List.getElem?_append_left (by omega)] at hu
     ·exact .inr h1
   | succ i=>
     have:=ih (pre++[z]) (k+1) (by simp[hk]) h.2 i o (by simpa using ho)
     rw[show k+1+i=k+(i+1) by omega,List.append_assoc,List.singleton_append] at this
     intro j y hj hy
     exact this j y hj hy
theorem qj1 {tb:List Nat}:∀ (l pre:List Lg) (k:Nat),pre.length=k->qHc tb k pre l=true->∀ i x,l[i]? = some x->∀ j y,j<k+i->(pre++l)[j]? = some y->
  Nat.testBit (tb.getD (k+i) 0) j=true \/ ((x.soft=true \/ y.soft=true \/ x.fr=true) /\ (∀ o∈x.reads,o ∉ y.hurts x.deep) /\ ∀ o∈y.reads,o ∉ x.hurts y.deep):=by
 intro l
 induction l with
 | nil=>intro pre k _ _ i o ho;cases ho
 | cons z l ih=>
   intro pre k hk h i o ho
   simp only[qHc,Bool.and_eq_true] at h
   cases i with
   | zero=>
     cases ho
     intro j y hj hy
     have:=qj2 pre 0 h.1.1 j y (by rwa [List.getElem?_append_left (by omega)] at hy)
     simpa using this
   | succ i=>
     have:=ih (pre++[z]) (k+1) (by simp[hk]) h.2 i o (by simpa using ho)
     rw[show k+1+i=k+(i+1) by omega] at this
     intro j y hj hy
     refine this j y hj ?_
     rw[<- hy];simp
structure FreshOK (P:Program) (o:Oper) (ρ:Rg) (nx:Nat) (v:V) (up:Hp) (nx':Nat) (Cn:Go.Obj->Prop) (val:Nat->Value) (d:Tmp):Prop where
 grd:o.guard=none
 dst:o.dst=some d
 hard:qA0 o.op=false /\ qAm o.op=false /\ qBg o.op=false
 run:∀ {e:Env} {w:World} {a:Act},(∀ x∈o.op.operands,qS e (ev ρ x) (a.eval x))->∃ x:Go.Obj,Cn x /\ (execOp a.eval o).run P w=.ok (.value (val w.heap.size)) (w.alloc x)
 canon:∀ {nm:Nm} {h:Hp} {w w0:World} {b:Nat} {x:Go.Obj},RelH ⟨nm,h,nx⟩ w->w.heap[b]? = some x->Cn x->w0.heap.size<=b->(∀ q,(Hp.get h q).shape≠.dead->¬ Has nm q b)->(∀ g k l,qBN g=some (k,l)->b≠g)->
  ∃ nm',RelH ⟨nm',up++h,nx'⟩ w /\ Ext ⟨nm,h,nx⟩ ⟨nm',up++h,nx'⟩ w0 /\ qS ⟨nm',up++h,nx'⟩ v (val b) /\
    ∀ q b',(Hp.get (up++h) q).shape≠.dead->Has nm' q b'->b'=b \/ ((Hp.get h q).shape≠.dead /\ Has nm q b')
theorem qLI {e:Env} {w:World} {up:Hp} {nm':Nm} {nx' b:Nat} (h:RelH e w) (hnx:e.nx<=nx') (hold:∀ o,o<e.nx->up.lookup o=none /\ nm' o=e.nm o)
  (hend:∀ o,nx'<=o->up.lookup o=none) (hobj:∀ o,e.nx<=o->o<nx'->qG ⟨nm',up++e.h,nx'⟩ w o)
  (hblk:∀ o x,e.nx<=o->Has nm' o x->o=e.nx /\ x=b) (hfr:∀ q,(e.h.get q).shape≠.dead->¬ Has e.nm q b) (hnfx:∀ g k l,qBN g=some (k,l)->b≠g)
  {w0:World} (hw0:w0.heap.size<=b):RelH ⟨nm',up++e.h,nx'⟩ w /\ Ext e ⟨nm',up++e.h,nx'⟩ w0:=by
 have hget:∀ q,q<e.nx->Hp.get (up++e.h) q=e.h.get q:=fun q hq=>by rw[qm,(hold q hq).1]
 have hext:Ext e ⟨nm',up++e.h,nx'⟩ w0:=by
  refine⟨hnx,fun q hq=>⟨(hold q hq).2,?_⟩,fun q x hq _ hx=>.inl (by rw[(hblk q x hq hx).2];exact hw0)⟩
  show (_ \/ _) /\ _
  rw[hget q hq]
  exact⟨.inl rfl,id⟩
 refine⟨⟨fun q=>?_,fun q hq=>?_,fun q q' y hne hq hq' hy hy'=>?_,fun g k l hg=>?_⟩,hext⟩
 ·rcases Nat.lt_or_ge q e.nx with hq | hq
  ·by_cases hd:(e.h.get q).shape=.dead
   ·have:e.h.get q=.dead:=by cases hz:e.h.get q<;>rw[hz] at hd<;>simp[Obj.shape] at hd
    unfold qG;show match Hp.get (up++e.h) q with | _=>_
    rw[hget q hq,this];trivial
   ·refine qG.ren (g:=id) (h.obj q) ?_ (hold q hq).2 fun r _ hr=>hext.same hr
    show Hp.get (up++e.h) q=_
    rw[hget q hq]
    cases e.h.get q<;>simp[Obj.ren,qC2]
  ·rcases Nat.lt_or_ge q nx' with hq' | hq'
   ·exact hobj q hq hq'
   ·unfold qG;show match Hp.get (up++e.h) q with | _=>_
    rw[qm,hend q hq',h.new q hq];trivial
 ·show Hp.get (up++e.h) q=.dead
  rw[qm,hend q hq]
  exact h.new q (Nat.le_trans hnx hq)
 ·rcases Nat.lt_or_ge q e.nx with a | a<;>rcases Nat.lt_or_ge q' e.nx with b' | b'
  ·have hq1:(Hp.get (up++e.h) q).owned=true:=hq
   have hq2:(Hp.get (up++e.h) q').shape≠.dead:=hq'
   rw[hget q a] at hq1
   rw[hget q' b'] at hq2
   simp only[Has,(hold q a).2,(hold q' b').2] at hy hy'
   exact h.apart q q' y hne hq1 hq2 hy hy'
  ·have hq1:(Hp.get (up++e.h) q).owned=true:=hq
   rw[hget q a] at hq1
   have h1:=(hblk q' y b' hy').2
   simp only[Has,(hold q a).2] at hy
   exact hfr q (qAr hq1) (by rw[<- h1];exact hy)
  ·have hq2:(Hp.get (up++e.h) q').shape≠.dead:=hq'
   rw[hget q' b'] at hq2
   have h1:=(hblk q y a hy).2
   simp only[Has,(hold q' b').2] at hy'
   exact hfr q' hq2 (by rw[<- h1];exact hy')
  ·exact hne ((hblk q y a hy).1.trans (hblk q' y b' hy').1.symm)
 ·obtain⟨h1,h2⟩:=h.fix g k l hg
  refine⟨h1,fun q hq=>?_⟩
  rcases Nat.lt_or_ge q e.nx with a | a
  ·have hq1:(Hp.get (up++e.h) q).owned=true:=hq
   rw[hget q a] at hq1
   simp only[Has,(hold q a).2]
   exact h2 q hq1
  ·intro hx
   have:=(hblk q g a hx).2
   exact hnfx g k l hg this.symm
theorem Onto.more {e0 e1 e2:Env} {w0 w1:World} (a:Onto e0 w0 e1 w1) (b:Ext e1 e2 w0):Onto e0 w0 e2 w1:=by
 have own1:∀ o b,(e1.h.get o).shape≠.dead->Has e1.nm o b->w0.heap.size<=b \/ ∃ o',(e0.h.get o').shape≠.dead /\ Has e0.nm o' b /\ ((e1.h.get o).owned=true->(e0.h.get o').owned=true):=by
  intro o b' ho hb
  rcases Nat.lt_or_ge o e0.nx with h | h
  ·obtain⟨x1,x2,x3⟩:=a.ex.old o h
   refine .inr ⟨o,?_,by simp only[Has] at hb ⊢;rw[<- x1];exact hb,x3⟩
   rcases x2 with x2 | x2
   ·rwa [<- x2]
   ·exact absurd x2 ho
  ·exact a.ex.own o b' h ho hb
 refine⟨a.fr,⟨Nat.le_trans a.ex.nx b.nx,fun o ho=>?_,fun o b' ho hd hb=>?_⟩⟩
 ·obtain⟨x1,x2,x3⟩:=a.ex.old o ho
  obtain⟨y1,y2,y3⟩:=b.old o (Nat.lt_of_lt_of_le ho a.ex.nx)
  refine⟨y1.trans x1,?_,fun h=>x3 (y3 h)⟩
  rcases y2 with y2 | y2
  ·rw[y2];exact x2
  ·exact .inr y2
 ·rcases Nat.lt_or_ge o e1.nx with h | h
  ·obtain⟨y1,y2,y3⟩:=b.old o h
   have hd1:(e1.h.get o).shape≠.dead:=by
    rcases y2 with y2 | y2
    ·rwa [<- y2]
    ·exact absurd y2 hd
   rcases a.ex.own o b' ho hd1 (by simp only[Has] at hb ⊢;rw[<- y1];exact hb) with h1 | ⟨o',h1,h2,h3⟩
   ·exact .inl h1
   ·exact .inr ⟨o',h1,h2,fun h=>h3 (y3 h)⟩
  ·rcases b.own o b' h hd hb with h1 | ⟨o',h1,h2,h3⟩
   ·exact .inl h1
   ·rcases own1 o' b' h1 h2 with h4 | ⟨o'',h4,h5,h6⟩
    ·exact .inl h4
    ·exact .inr ⟨o'',h4,h5,fun h=>h6 (h3 h)⟩
structure PBlk (e:Env) (w0 w:World) (Cn:Go.Obj->Prop) (b:Nat):Prop where
 cells:∃ x,w.heap[b]? = some x /\ Cn x
 new:w0.heap.size<=b
 fresh:∀ q,(e.h.get q).shape≠.dead->¬ Has e.nm q b
 nfx:∀ g k l,qBN g=some (k,l)->b≠g
theorem PBlk.go {e e':Env} {w0 w w':World} {Cn:Go.Obj->Prop} {b:Nat} (h:PBlk e w0 w Cn b) (f:Frame' e w w') (x:Ext e e' w):PBlk e' w0 w' Cn b:=by
 obtain⟨zs,h2,h3⟩:=h.cells
 have hlt:b<w.heap.size:=(Array.getElem?_eq_some_iff.1 h2).1
 refine⟨⟨zs,by rw[f.block b hlt fun q hq=>h.fresh q (qAr hq)];exact h2,h3⟩,h.new,fun q hq hb=>?_,h.nfx⟩
 rcases Nat.lt_or_ge q e.nx with a | a
 ·obtain⟨x1,x2,_⟩:=x.old q a
  refine h.fresh q ?_ (by simp only[Has] at hb ⊢;rw[<- x1];exact hb)
  rcases x2 with x2 | x2
  ·rwa [<- x2]
  ·exact absurd x2 hq
 ·rcases x.own q b a hq hb with h1 | ⟨o',h1,h2,_⟩
  ·omega
  ·exact h.fresh o' h1 h2
theorem qfs {w0 w:World} {nm:Nm} {h:Hp} {nx nx':Nat} {t:TypeId} {L:Lay} {l:List Seg} {hp:Hp} {b:Nat} {zs:Array Value} (hz:qAd c.tab L.segTs (nx+1)=some (l,hp,nx'))
  (hrel:RelH ⟨nm,h,nx⟩ w) (hcell:w.heap[b]? = some (.cells zs t (0,0))) (hzs:zs.toList=L.segTs.flatMap SegT.zeros) (hnew:w0.heap.size<=b) (hfresh:∀ q,(Hp.get h q).shape≠.dead->¬ Has nm q b) (hnfx:∀ g k l,qBN g=some (k,l)->b≠g):
  ∃ nm',RelH ⟨nm',((nx,.cells t l) :: hp)++h,nx'⟩ w /\ Ext ⟨nm,h,nx⟩ ⟨nm',((nx,.cells t l) :: hp)++h,nx'⟩ w0 /\ qS ⟨nm',((nx,.cells t l) :: hp)++h,nx'⟩ (.s (.ptr nx 0 none 0)) (.pointer (some ⟨b,0,none⟩)) /\
    ∀ q b',(Hp.get (((nx,.cells t l) :: hp)++h) q).shape≠.dead->Has nm' q b'->b'=b \/ ((Hp.get h q).shape≠.dead /\ Has nm q b'):=by
 obtain⟨z1,z2,z3,_,z5⟩:=qMW hz
 let nm':Nm:=fun q=>if q=nx then some (b,0,0) else if q<nx then nm q else none
 let e':Env:=⟨nm',((nx,.cells t l) :: hp)++h,nx'⟩
 have hl0:List.lookup nx ((nx,Obj.cells t l) :: hp)=some (.cells t l):=by simp[List.lookup]
 have hl1:∀ q,q≠nx->List.lookup q ((nx,Obj.cells t l) :: hp)=hp.lookup q:=fun q hq=>by simp[List.lookup,beq_eq_false_iff_ne.2 hq]
 have hlow:∀ q,q<nx+1->hp.lookup q=none:=fun q hq=>by
  rcases z2 q with⟨e1,_⟩ | ⟨e1,_,_⟩
  ·exact e1
  ·omega
 have hhigh:∀ q,nx'<=q->hp.lookup q=none:=fun q hq=>by
  rcases z2 q with⟨e1,_⟩ | ⟨_,e1,_⟩
  ·exact e1
  ·omega
 have hrel2:=qLI (e:=⟨nm,h,nx⟩) (w:=w) (up:=(nx,.cells t l) :: hp) (nm':=nm') (nx':=nx') (b:=b) hrel (by show nx<=nx';omega)
  (fun q hq=>⟨by have hq:q<nx:=hq;rw[hl1 q (by omega)];exact hlow q (by omega),by have hq:q<nx:=hq;simp only[nm'];rw[if_neg (by omega),if_pos hq]⟩)
  (fun q hq=>by rw[hl1 q (by omega)];exact hhigh q hq)
  (fun q hq hq'=>by
   have hq:nx<=q:=hq
   by_cases e1:q=nx
   ·subst e1
    have hg:e'.h.get q=.cells t l:=by show Hp.get (_++h) q=_;rw[qm,hl0]
    have hnq:e'.nm q=some (b,0,0):=by simp[e',nm']
    show qG e' _ q
    unfold qG
    rw[hg]
    refine⟨z3,b,zs,hnq,hcell,?_⟩
    rw[hzs]
    refine z5 e' fun r hr hr'=>⟨by show r<nx';omega,by simp only[e',nm'];rw[if_neg (by omega),if_neg (by omega)],?_⟩
    show Hp.get (_++h) r=_
    rw[qm,hl1 r (by omega)]
    rcases z2 r with⟨_,n⟩ | ⟨_,_,e0,g,e3,_⟩
    ·omega
    ·rw[e3];rfl
   ·have hnq:e'.nm q=none:=by simp only[e',nm'];rw[if_neg e1,if_neg (by omega)]
    rcases z2 q with⟨_,n⟩ | ⟨_,_,e0,g,e3,g1,g2⟩
    ·omega
    ·have hg:e'.h.get q=.sli e0 false g:=by show Hp.get (_++h) q=_;rw[qm,hl1 q e1,e3]
     show qG e' _ q
     unfold qG
     rw[hg,hnq]
     exact⟨g1,g2⟩)
  (fun q x hq hx=>by
   have hq:nx<=q:=hq
   simp only[Has,nm'] at hx
   by_cases e1:q=nx
   ·subst e1;rw[if_pos rfl] at hx;have:=qDB hx (by unfold big;omega);exact⟨rfl,this⟩
   ·rw[if_neg e1,if_neg (by omega)] at hx;cases hx)
  hfresh hnfx hnew
 refine⟨nm',hrel2.1,hrel2.2,?_,fun q b' hq hb'=>?_⟩
 ·refine (qBT (e:=e') ?_).2 ⟨by show nx<nx';omega,trivial,b,0,0,by simp[e',nm'],?_⟩
  ·show (Hp.get (_++h) nx).isMem=true
   rw[qm,hl0];rfl
  ·simp[qX,qp]
 ·simp only[Has,nm'] at hb'
  by_cases e1:q=nx
  ·subst e1;rw[if_pos rfl] at hb';have:=qDB hb' (by unfold big;omega);exact .inl this
  ·rw[if_neg e1] at hb'
   by_cases e2:q<nx
   ·rw[if_pos e2] at hb'
    rw[qm,hl1 q e1,hlow q (by omega)] at hq
    exact .inr ⟨hq,hb'⟩
   ·rw[if_neg e2] at hb';cases hb'
theorem qfv {w0 w:World} {nm:Nm} {h:Hp} {nx n:Nat} {e:TypeId} {g:Seg} {b:Nat} {zs:Array Value} (hok:g.ok) (ht:g.isTbl=true) (hn:g.shp.rows=n) (hcm:n<=maxLen)
  (hrel:RelH ⟨nm,h,nx⟩ w) (hcell:w.heap[b]? = some (.cells zs e (0,0))) (hsz:zs.size=n*g.shp.width) (hr:qB (qI qAo) g.flat zs.toList) (hnew:w0.heap.size<=b) (hfresh:∀ q,(Hp.get h q).shape≠.dead->¬ Has nm q b) (hnfx:∀ g k l,qBN g=some (k,l)->b≠g):
  ∃ nm',RelH ⟨nm',[(nx,.sli e false g)]++h,nx+1⟩ w /\ Ext ⟨nm,h,nx⟩ ⟨nm',[(nx,.sli e false g)]++h,nx+1⟩ w0 /\ qS ⟨nm',[(nx,.sli e false g)]++h,nx+1⟩ (.s (.sl nx 0 n true)) (.slice (some ⟨b,0,none⟩) n n) /\
    ∀ q b',(Hp.get ([(nx,.sli e false g)]++h) q).shape≠.dead->Has nm' q b'->b'=b \/ ((Hp.get h q).shape≠.dead /\ Has nm q b'):=by
 let nm':Nm:=fun q=>if q=nx then some (b,0,n) else if q<nx then nm q else none
 have hlook:∀ q,q≠nx->List.lookup q [(nx,Obj.sli e false g)]=none:=fun q hq=>by simp[List.lookup,beq_eq_false_iff_ne.2 hq]
 have hself:List.lookup nx [(nx,Obj.sli e false g)]=some (.sli e false g):=by simp[List.lookup]
 have hg:Hp.get ([(nx,Obj.sli e false g)]++h) nx=.sli e false g:=by rw[qm,hself]
 obtain⟨_,t1,t2,t3⟩:=qEb ht
 have hrel2:=qLI (e:=⟨nm,h,nx⟩) (w:=w) (up:=[(nx,.sli e false g)]) (nm':=nm') (nx':=nx+1) (b:=b) hrel (Nat.le_succ _)
  (fun q hq=>⟨hlook q (by have:q<nx:=hq;omega),by have hq:q<nx:=hq;simp only[nm'];rw[if_neg (by omega),if_pos hq]⟩) (fun q hq=>hlook q (by omega))
  (fun q hq hq'=>by
   have e1:q=nx:=by have:nx<=q:=hq;omega
   subst e1
   unfold qG
   dsimp only
   rw[hg]
   simp only[nm',if_true]
   refine⟨hok,trivial,zs,hcell,hsz,by omega,hcm,?_⟩
   rw[List.take_of_length_le (by rw[t3,<- t2,hn];simp;omega)]
   exact hr)
  (fun q x hq hx=>by
   have hq:nx<=q:=hq
   simp only[Has,nm'] at hx
   by_cases e1:q=nx
   ·subst e1;rw[if_pos rfl] at hx;have:=qDB hx (by unfold big;unfold maxLen at hcm;omega);exact⟨rfl,this⟩
   ·rw[if_neg e1,if_neg (by omega)] at hx;cases hx)
  hfresh hnfx hnew
 refine⟨nm',hrel2.1,hrel2.2,⟨Nat.lt_succ_self _,?_⟩,fun q b' hq hb'=>?_⟩
 ·show match (Hp.get ([(nx,Obj.sli e false g)]++h) nx).shape with | _=>_
  rw[hg]
  show qAB nm' nx g.shp 0 n true _
  unfold qAB
  simp only[nm',if_true]
  exact⟨n,by simp,Nat.le_refl _,by omega,by simp⟩
 ·simp only[Has,nm'] at hb'
  by_cases e1:q=nx
  ·subst e1;rw[if_pos rfl] at hb';have:=qDB hb' (by unfold big;unfold maxLen at hcm;omega);exact .inl this
  ·rw[if_neg e1] at hb'
   by_cases e2:q<nx
   ·rw[if_pos e2] at hb'
    rw[qm,hlook q e1] at hq
    exact .inr ⟨hq,hb'⟩
   ·rw[if_neg e2] at hb';cases hb'
theorem qfu {w0 w:World} {nm:Nm} {h:Hp} {nx b:Nat} {e:TypeId} {ka:Bool} {kks:List CK} {ps:PS} (hps:ps.len=0) (hrel:RelH ⟨nm,h,nx⟩ w) (hcell:w.heap[b]? = some (.map #[] 0)) (hnew:w0.heap.size<=b) (hfresh:∀ q,(Hp.get h q).shape≠.dead->¬ Has nm q b) (hnfx:∀ g k l,qBN g=some (k,l)->b≠g):
  ∃ nm',RelH ⟨nm',[(nx,.maps ka kks [] (nx+1) none),(nx+1,.pol e ps)]++h,nx+2⟩ w /\ Ext ⟨nm,h,nx⟩ ⟨nm',[(nx,.maps ka kks [] (nx+1) none),(nx+1,.pol e ps)]++h,nx+2⟩ w0 /\
    qS ⟨nm',[(nx,.maps ka kks [] (nx+1) none),(nx+1,.pol e ps)]++h,nx+2⟩ (.s (.mp nx)) (.map (some b)) /\
    ∀ q b',(Hp.get ([(nx,.maps ka kks [] (nx+1) none),(nx+1,.pol e ps)]++h) q).shape≠.dead->Has nm' q b'->b'=b \/ ((Hp.get h q).shape≠.dead /\ Has nm q b'):=by
 let nm':Nm:=fun q=>if q=nx then some (b,0,0) else if q=nx+1 then some (0,0,big+qAH []) else if q<nx then nm q else none
 have n0:nm' nx=some (b,0,0):=by simp[nm']
 have n1:nm' (nx+1)=some (0,0,big+qAH []):=by simp[nm']
 have n2:∀ q,q<nx->nm' q=nm q:=fun q hq=>by simp only[nm'];rw[if_neg (by omega),if_neg (by omega),if_pos hq]
 have n3:∀ q,nx+2<=q->nm' q=none:=fun q hq=>by simp only[nm'];rw[if_neg (by omega),if_neg (by omega),if_neg (by omega)]
 have hlook:∀ q,q≠nx->q≠nx+1->List.lookup q [(nx,Obj.maps ka kks [] (nx+1) none),(nx+1,.pol e ps)]=none:=fun q h1 h2=>by rw[lkp,if_neg h1,lkp,if_neg h2,lkn]
 have g0:Hp.get ([(nx,Obj.maps ka kks [] (nx+1) none),(nx+1,.pol e ps)]++h) nx=.maps ka kks [] (nx+1) none:=by rw[qm,lkp,if_pos rfl]
 have g1:Hp.get ([(nx,Obj.maps ka kks [] (nx+1) none),(nx+1,.pol e ps)]++h) (nx+1)=.pol e ps:=by rw[qm,lkp,if_neg (by omega),lkp,if_pos rfl]
 have hrel2:=qLI (e:=⟨nm,h,nx⟩) (w:=w) (up:=[(nx,Obj.maps ka kks [] (nx+1) none),(nx+1,.pol e ps)]) (nm':=nm') (nx':=nx+2) (b:=b) hrel (by show nx<=nx+2;omega)
  (fun q hq=>by have hq:q<nx:=hq;exact⟨hlook q (by omega) (by omega),n2 q hq⟩) (fun q hq=>hlook q (by omega) (by omega))
  (fun q hq hq'=>by
   have hq:nx<=q:=hq
   by_cases e1:q=nx
   ·subst e1
    unfold qG
    dsimp only
    rw[g0]
    refine⟨b,#[],0,n0,hcell,trivial,by omega,?_⟩
    rw[g1]
    exact⟨0,[],n1,rfl,fun j m hj=>by simp at hj⟩
   ·have e2:q=nx+1:=by omega
    subst e2
    unfold qG
    dsimp only
    rw[g1]
    exact⟨0,[],n1,hps.symm,fun j c hj=>by simp at hj,fun j j' x l k l' k' hj=>by simp at hj⟩)
  (fun q x hq hx=>by
   have hq:nx<=q:=hq
   by_cases e1:q=nx
   ·subst e1
    exact⟨rfl,qCv n0 (by unfold big;omega) hx⟩
   ·by_cases e2:q=nx+1
    ·subst e2
     obtain⟨_,_,h⟩:=(qCN n1).1 hx
     cases h
    ·unfold Has at hx
     rw[n3 q (by omega)] at hx
     cases hx)
  hfresh hnfx hnew
 refine⟨nm',hrel2.1,hrel2.2,⟨by show nx<nx+2;omega,?_⟩,fun q b' hq hb'=>?_⟩
 ·rw[g0]
  exact⟨b,0,0,n0,rfl⟩
 ·by_cases e1:q=nx
  ·subst e1
   exact .inl (qCv n0 (by unfold big;omega) hb')
  ·by_cases e2:q=nx+1
   ·subst e2
    obtain⟨_,_,h⟩:=(qCN n1).1 hb'
    cases h
   ·by_cases e3:q<nx
    ·rw[qm,hlook q e1 e2] at hq
     unfold Has at hb' ⊢
     rw[n2 q e3] at hb'
     exact .inr ⟨hq,hb'⟩
    ·unfold Has at hb'
     rw[n3 q (by omega)] at hb'
     cases hb'
theorem qft {w0 w:World} {nm:Nm} {h:Hp} {nx b:Nat} {ka va:Bool} {ks vs:List CK} (hrel:RelH ⟨nm,h,nx⟩ w) (hcell:w.heap[b]? = some (.map #[] 0)) (hnew:w0.heap.size<=b) (hfresh:∀ q,(Hp.get h q).shape≠.dead->¬ Has nm q b) (hnfx:∀ g k l,qBN g=some (k,l)->b≠g):
  ∃ nm',RelH ⟨nm',[(nx,.map ka va ks vs [])]++h,nx+1⟩ w /\ Ext ⟨nm,h,nx⟩ ⟨nm',[(nx,.map ka va ks vs [])]++h,nx+1⟩ w0 /\ qS ⟨nm',[(nx,.map ka va ks vs [])]++h,nx+1⟩ (.s (.mp nx)) (.map (some b)) /\
    ∀ q b',(Hp.get ([(nx,.map ka va ks vs [])]++h) q).shape≠.dead->Has nm' q b'->b'=b \/ ((Hp.get h q).shape≠.dead /\ Has nm q b'):=by
 let nm':Nm:=fun q=>if q=nx then some (b,0,0) else if q<nx then nm q else none
 have n0:nm' nx=some (b,0,0):=by simp[nm']
 have n2:∀ q,q<nx->nm' q=nm q:=fun q hq=>by simp only[nm'];rw[if_neg (by omega),if_pos hq]
 have n3:∀ q,nx+1<=q->nm' q=none:=fun q hq=>by simp only[nm'];rw[if_neg (by omega),if_neg (by omega)]
 have hlook:∀ q,q≠nx->List.lookup q [(nx,Obj.map ka va ks vs [])]=none:=fun q h1=>by rw[lkp,if_neg h1,lkn]
 have g0:Hp.get ([(nx,Obj.map ka va ks vs [])]++h) nx=.map ka va ks vs []:=by rw[qm,lkp,if_pos rfl]
 have hrel2:=qLI (e:=⟨nm,h,nx⟩) (w:=w) (up:=[(nx,Obj.map ka va ks vs [])]) (nm':=nm') (nx':=nx+1) (b:=b) hrel (Nat.le_succ _)
  (fun q hq=>by have hq:q<nx:=hq;exact⟨hlook q (by omega),n2 q hq⟩) (fun q hq=>hlook q (by omega))
  (fun q hq hq'=>by
   have hq:nx<=q:=hq
   have e1:q=nx:=by omega
   subst e1
   unfold qG
   dsimp only
   rw[g0]
   exact⟨b,#[],0,n0,hcell,trivial⟩)
  (fun q x hq hx=>by
   have hq:nx<=q:=hq
   by_cases e1:q=nx
   ·subst e1
    exact⟨rfl,qCv n0 (by unfold big;omega) hx⟩
   ·unfold Has at hx
    rw[n3 q (by omega)] at hx
    cases hx)
  hfresh hnfx hnew
 refine⟨nm',hrel2.1,hrel2.2,⟨Nat.lt_succ_self _,?_⟩,fun q b' hq hb'=>?_⟩
 ·rw[g0]
  exact⟨b,0,0,n0,rfl⟩
 ·by_cases e1:q=nx
  ·subst e1
   exact .inl (qCv n0 (by unfold big;omega) hb')
  ·by_cases e3:q<nx
   ·rw[qm,hlook q e1] at hq
    unfold Has at hb' ⊢
    rw[n2 q e3] at hb'
    exact .inr ⟨hq,hb'⟩
   ·unfold Has at hb'
    rw[n3 q (by omega)] at hb'
    cases hb'
theorem qq0 {ops:List Oper} {o:Oper} {ρ:Rg} {h:Hp} {nx:Nat} {R:Type} {K:Rg->Hp->Nat->Option R} {r:R} (hc:CtxOK P c) (hf:qu o=true) (hE:qFj c ops o ρ h nx K=some r):
  ∃ v up nx' ρ' Cn val d,K ρ' (up++h) nx'=some r /\ StepOK P c ops o ρ h nx true v up nx' /\ qEg o ρ ρ' v /\ FreshOK P o ρ nx v up nx' Cn val d:=by
 unfold qu at hf
 split at hf<;>try cases hf
 ·rename_i t d hop hg hd
  unfold qFj at hE
  rw[hg] at hE
  simp only[hop] at hE
  unfold qDM at hE
  simp only[opE,qCO,qk,hop,cond_false] at hE
  cases hL:c.tab.get t with
  | none=>rw[hL] at hE;cases hE
  | some L=>
    rw[hL] at hE
    simp only at hE
    cases hz:qAd c.tab L.segTs (nx+1) with
    | none=>rw[hz] at hE;cases hE
    | some z=>
      obtain⟨l,hp,nx'⟩:=z
      rw[hz] at hE
      simp only[qFx,qE0,qCM,qGp,hd] at hE
      obtain⟨hb,hE⟩:=qg hE
      refine⟨.s (.ptr nx 0 none 0),(nx,.cells t l) :: hp,nx',_,fun x=>∃ zs:Array Value,x=.cells zs t (0,0) /\ zs.toList=L.segTs.flatMap SegT.zeros,fun b=>.pointer (some ⟨b,0,none⟩),d,hE,⟨fun e a _=>by simp[Region.wanted,hg],fun _=>qYb (hc.tab t L hL) hop hz,fun hh=>?_,(fun hh=>by cases hh),fun d' hd'=>?_⟩,fun u=>?_,⟨hg,hd,?_,?_,?_⟩⟩
      ·exfalso
       simp[qC3,qA0,qAm,qBg,hop] at hh
      ·rw[hd] at hd';cases hd';simpa[Nat.blt_eq] using hb
      ·rw[qDA,hd];simp
      ·simp[qA0,qAm,qBg,hop]
      ·intro e w a _
       obtain⟨i,z,hi,_,hzz,hzc⟩:=(hc.tab t L hL).info
       exact⟨_,⟨z.cells,rfl,hzc⟩,by simp[execOp,hop,Instr.alloc,zeroValue,typeInfo,hi,hzz,newVar,newRow]⟩
      ·intro nm h w w0 b x hrel hcell ⟨zs,hx,hzs⟩ hnew hfresh hnfx
       subst hx
       exact qfs hz hrel hcell hzs hnew hfresh hnfx
 ·rename_i t n ps d hop hg hd
  unfold qFj at hE
  rw[hg] at hE
  simp only[hop] at hE
  unfold qDM at hE
  simp only[opE,qCO,qk,hop,cond_false] at hE
  split at hE<;>try cases hE
  rename_i e hL
  split at hE<;>try cases hE
  rename_i g hge
  obtain⟨hb0,hE⟩:=qg hE
  simp only[Bool.and_eq_true,Nat.blt_eq,Nat.ble_eq] at hb0
  split at hE<;>try cases hE
  rename_i g' hs
  simp only[qFx,qE0,qCM,qGp,hd] at hE
  obtain⟨hb,hE⟩:=qg hE
  have hOK:qQ P o ρ h nx (.s (.sl nx 0 n true)) [(nx,.sli e false g')] (nx+1):=by
   obtain⟨v,up,nx',k1,k2⟩:=qYc (K:=fun v up nx'=>some (v,up,nx')) (h:=h) (fun t L hh=>hc.tab t L hh) hop hL hge hb0.1 hb0.2 hs rfl
   cases k1
   exact k2
  refine⟨.s (.sl nx 0 n true),[(nx,.sli e false g')],nx+1,_,fun x=>∃ zs:Array Value,x=.cells zs e (0,0) /\ g'.ok /\ g'.isTbl=true /\ g'.shp=.tbl g.shp.width n /\ zs.toList.length=n*g.shp.width /\ qB (qI qAo) g'.flat zs.toList,fun b=>.slice (some ⟨b,0,none⟩) n n,d,hE,⟨fun e a _=>by simp[Region.wanted,hg],fun _=>hOK,fun hh=>?_,(fun hh=>by cases hh),fun d' hd'=>?_⟩,fun u=>?_,⟨hg,hd,?_,?_,?_⟩⟩
  ·exfalso
   simp[qC3,qA0,qAm,qBg,hop] at hh
  ·rw[hd] at hd';cases hd';simpa[Nat.blt_eq] using hb
  ·rw[qDA,hd];simp
  ·simp[qA0,qAm,qBg,hop]
  ·intro env w a hr
   obtain⟨cells',q1,q2,q3,q4,q5,q6⟩:=qfe (env:=env) (w:=w) (fun t L hh=>hc.tab t L hh) hop hL hge hb0.1 hb0.2 hs hr
   exact⟨_,⟨cells',rfl,q1,q2,q3,by simpa using q4,q5⟩,q6⟩
  ·intro nm h w w0 b x hrel hcell ⟨zs,hx,q1,q2,q3,q4,q5⟩ hnew hfresh hnfx
   subst hx
   have hw:g'.shp.width=g.shp.width:=by rw[q3];rfl
   exact qfv q1 q2 (by rw[q3];rfl) (by have:=Nat.le_trans (Nat.le_mul_of_pos_right n hb0.1) hb0.2;simp only[maxLen];omega) hrel hcell (by rw[hw];simpa using q4) q5 hnew hfresh hnfx
 ·rename_i t d hop hg hd
  unfold qFj at hE
  rw[hg] at hE
  simp only[hop] at hE
  unfold qDM at hE
  simp only[opE,hop] at hE
  have hrunM:∀ {e:Env} {w:World} {a:Act},(∀ x∈o.op.operands,qS e (ev ρ x) (a.eval x))->∃ x:Go.Obj,x=.map #[] 0 /\ (execOp a.eval o).run P w=.ok (.value (.map (some w.heap.size))) (w.alloc x):=fun _=>⟨_,rfl,by simp[execOp,hop,Instr.makeMap]⟩
  cases hpl:qCO c (.makeMap t none) ρ h with
  | true=>
    rw[hpl] at hE
    simp only[cond_true,qC1,hop] at hE
    split at hE<;>try cases hE
    rename_i Lk a e hM
    split at hE<;>try cases hE
    rename_i g hge
    split at hE<;>try cases hE
    rename_i ps hps
    simp only[qFx,qE0,qCM,qGp,hd] at hE
    obtain⟨hb,hE⟩:=qg hE
    refine⟨.s (.mp nx),[(nx,.maps Lk.isAgg a [] (nx+1) none),(nx+1,.pol e ps)],nx+2,_,fun x=>x=.map #[] 0,fun b=>.map (some b),d,hE,⟨fun e a _=>by simp[Region.wanted,hg],fun _=>qYg hop (qPs hps),fun hh=>?_,(fun hh=>by cases hh),fun d' hd'=>?_⟩,fun u=>?_,⟨hg,hd,?_,hrunM,?_⟩⟩
    ·exfalso
     simp[qC3,qA0,qAm,qBg,hop] at hh
    ·rw[hd] at hd';cases hd';simpa[Nat.blt_eq] using hb
    ·rw[qDA,hd];simp
    ·simp[qA0,qAm,qBg,hop]
    ·intro nm h w w0 b x hrel hcell hx hnew hfresh hnfx
     subst hx
     exact qfu (qPs hps) hrel hcell hnew hfresh hnfx
  | false=>
    rw[hpl] at hE
    simp only[cond_false,qk,hop] at hE
    split at hE<;>try cases hE
    rename_i Lk a Le b hM
    simp only[qFx,qE0,qCM,qGp,hd] at hE
    obtain⟨hb,hE⟩:=qg hE
    refine⟨.s (.mp nx),[(nx,.map Lk.isAgg Le.isAgg a b [])],nx+1,_,fun x=>x=.map #[] 0,fun b=>.map (some b),d,hE,⟨fun e a _=>by simp[Region.wanted,hg],fun _=>qYf hop,fun hh=>?_,(fun hh=>by cases hh),fun d' hd'=>?_⟩,fun u=>?_,⟨hg,hd,?_,hrunM,?_⟩⟩
    ·exfalso
     simp[qC3,qA0,qAm,qBg,hop] at hh
    ·rw[hd] at hd';cases hd';simpa[Nat.blt_eq] using hb
    ·rw[qDA,hd];simp
    ·simp[qA0,qAm,qBg,hop]
    ·intro nm h w w0 b' x hrel hcell hx hnew hfresh hnfx
     subst hx
     exact qft hrel hcell hnew hfresh hnfx
structure Tr where
 ρ:Nat->Rg
 h:Nat->Hp
 nx:Nat->Nat
 want:Nat->Bool
 v:Nat->V
 up:Nat->Hp
 sf:Nat->Bool
structure TrOK (P:Program) (c:Ctx) (ops:List Oper) (T:Tr) (lg:List Lg) (i:Nat) (o:Oper):Prop where
 step:StepOK P c ops o (T.ρ i) (T.h i) (T.nx i) (T.want i) (T.v i) (T.up i) (T.nx (i+1))
 put:qEg o (T.ρ i) (T.ρ (i+1)) (T.v i)
 hp:T.h (i+1)=T.up i++T.h i
 sf:T.sf i=qC3 o (T.up i) (T.nx i) (T.nx (i+1)) (T.h i) (qAy (T.ρ i) (T.h i) o)
 log:lg[i]? = some ⟨T.sf i,qBp o.op,qAy (T.ρ i) (T.h i) o,(T.up i).map (·.1),qEc (T.h i) (T.up i),qu o,qAl ops o,o.dst⟩
 fresh:qu o=true->∃ Cn val d,T.want i=true /\ FreshOK P o (T.ρ i) (T.nx i) (T.v i) (T.up i) (T.nx (i+1)) Cn val d
theorem qle {ops:List Oper} (hc:CtxOK P c):∀ (l:List Oper) (k:Nat) {R:Type} {lg:List Lg} {ρ:Rg} {h:Hp} {nx:Nat} {K:List Lg->Rg->Hp->Nat->Option R} {r:R},
  qLQ c ops l lg ρ h nx K=some r->ops.drop k=l->lg.length=k->k<=ops.length->
  ∃ T lgF,T.ρ k = ρ /\ T.h k=h /\ T.nx k=nx /\ K lgF (T.ρ ops.length) (T.h ops.length) (T.nx ops.length)=some r /\ lgF.take k=lg /\ ∀ i o,k<=i->ops[i]? = some o->TrOK P c ops T lgF i o:=by
 intro l
 induction l with
 | nil=>
   intro k R lg ρ h nx K r hE hd hl hkl
   have hk:k=ops.length:=by
    have:ops.length<=k:=by simpa using hd
    omega
   subst hk
   exact⟨⟨fun _=>ρ,fun _=>h,fun _=>nx,fun _=>false,fun _=>qCF,fun _=>[],fun _=>false⟩,lg,rfl,rfl,rfl,hE,by rw[<- hl];simp,fun i o hi ho=>by have:=getElem?_lt ho;omega⟩
 | cons o l ih=>
   intro k R lg ρ h nx K r hE hd hl hkl
   have hko:ops[k]? = some o:=by
    have:=congrArg (·[0]?) hd
    simpa using this
   have hklt:=getElem?_lt hko
   have hkey:∃ want v up nx' ρ',(fun ρ' h' nx'=>fNs (qAy ρ h o) fun rd=>fHp (h'.take (h'.length - h.length)) fun up=>fNs (up.map (·.1)) fun wr=>
     qLQ c ops l (lg++[⟨qC3 o up nx nx' h rd,qBp o.op,rd,wr,qEc h up,qu o,qAl ops o,o.dst⟩]) ρ' h' nx' K) ρ' (up++h) nx'=some r /\ StepOK P c ops o ρ h nx want v up nx' /\ qEg o ρ ρ' v /\
     (qu o=true->∃ Cn val d,want=true /\ FreshOK P o ρ nx v up nx' Cn val d):=by
    cases hf:qu o with
    | true=>
      obtain⟨v,up,nx',ρ',Cn,val,d,h1,h2,h3,h4⟩:=qq0 hc hf hE
      rw[hf] at h1
      exact⟨true,v,up,nx',ρ',h1,h2,h3,fun _=>⟨Cn,val,d,rfl,h4⟩⟩
    | false=>
      obtain⟨want,v,up,nx',ρ',h1,h2,h3⟩:=qct hc hE
      rw[hf] at h1
      exact⟨want,v,up,nx',ρ',h1,h2,h3,fun h=>by cases h⟩
   obtain⟨want,v,up,nx',ρ',h1,h2,h3,hfr⟩:=hkey
   simp only[qHE,qE0] at h1
   have hup:((up++h).take ((up++h).length - h.length))=up:=by
    rw[List.length_append,Nat.add_sub_cancel];simp
   obtain⟨T,lgF,t1,t2,t3,t4,t5,t6⟩:=ih (k+1) h1 (by rw[<- List.drop_drop,hd];rfl) (by simp[hl]) (by omega)
   rw[hup] at t5
   have hsel:∀ {α:Type} (x:α) (f:Nat->α) (i:Nat),k<i->(if i=k then x else f i)=f i:=fun x f i hi=>if_neg (by omega)
   refine⟨⟨fun i=>if i=k then ρ else T.ρ i,fun i=>if i=k then h else T.h i,fun i=>if i=k then nx else T.nx i,fun i=>if i=k then want else T.want i,fun i=>if i=k then v else T.v i,
    fun i=>if i=k then up else T.up i,fun i=>if i=k then qC3 o up nx nx' h (qAy ρ h o) else T.sf i⟩,lgF,if_pos rfl,if_pos rfl,if_pos rfl,?_,?_,fun i o' hi ho'=>?_⟩
   ·simp only[hsel _ _ _ hklt];exact t4
   ·have:=congrArg (List.take k) t5
    rw[List.take_take,Nat.min_eq_left (by omega)] at this
    rw[this,<- hl];simp
   ·rcases Nat.lt_or_ge k i with hlt | hge
    ·obtain⟨x1,x2,x3,x5,x4,x6⟩:=t6 i o' hlt ho'
     refine⟨?_,?_,?_,?_,?_,?_⟩
     ·simp only[hsel _ _ _ hlt,hsel _ _ _ (Nat.lt_succ_of_lt hlt)];exact x1
     ·simp only[hsel _ _ _ hlt,hsel _ _ _ (Nat.lt_succ_of_lt hlt)];exact x2
     ·simp only[hsel _ _ _ hlt,hsel _ _ _ (Nat.lt_succ_of_lt hlt)];exact x3
     ·simp only[hsel _ _ _ hlt,hsel _ _ _ (Nat.lt_succ_of_lt hlt)];exact x5
     ·simp only[hsel _ _ _ hlt];exact x4
     ·simp only[hsel _ _ _ hlt,hsel _ _ _ (Nat.lt_succ_of_lt hlt)];exact x6
    ·have:i=k:=by omega
     subst this
     rw[hko] at ho'
     cases ho'
     have hs:(i+1=i)=False:=by simp
     refine⟨?_,?_,?_,?_,?_,?_⟩
     ·simp only[if_true,if_false,hs,t3];exact h2
     ·simp only[if_true,if_false,hs,t1];exact h3
     ·simp only[if_true,if_false,hs,t2]
     ·simp only[if_true,if_false,hs,t3]
     ·simp only[if_true]
      have:=congrArg (·[i]?) t5
      simp only[List.getElem?_take,Nat.lt_succ_self,if_true] at this
      rw[this,List.getElem?_append_right (by omega),hl,Nat.sub_self]
      rfl
     ·simp only[if_true,if_false,hs,t3];exact hfr
section
variable {ops:List Oper} {T:Tr} {lg:List Lg}
theorem qSr (hT:∀ i o,ops[i]? = some o->TrOK P c ops T lg i o) {t:Nat} {i:Nat}:∀ (n:Nat),i+n<=ops.length->(∀ j o,i<=j->j<i+n->ops[j]? = some o->o.dst≠some t)->
  Rg.get (T.ρ (i+n)) t=Rg.get (T.ρ i) t:=by
 intro n
 induction n with
 | zero=>intro _ _;rfl
 | succ n ih=>
   intro hn hno
   obtain⟨o,ho⟩:∃ o,ops[i+n]? = some o:=⟨_,List.getElem?_eq_getElem (by omega)⟩
   have:=(hT _ o ho).put t
   rw[if_neg (hno _ o (by omega) (by omega) ho)] at this
   rw[show i+(n+1)=i+n+1 by omega,this]
   exact ih (by omega) fun j o h1 h2=>hno j o h1 (by omega)
theorem qj3 {up:Hp} {ob:Nat} (h:ob ∉ up.map (·.1)):up.lookup ob=none:=by
 induction up with
 | nil=>rfl
 | cons p up ih=>
   obtain⟨k,x⟩:=p
   simp only[List.map_cons,List.mem_cons,not_or] at h
   simp[List.lookup,beq_eq_false_iff_ne.2 h.1,ih h.2]
theorem qrL {h up:Hp} {ob:Nat} {x:Obj} (hn:ob ∉ qEc h up) (hl:up.lookup ob=some x):qAD x (Hp.get h ob)=true:=by
 induction up with
 | nil=>cases hl
 | cons p up ih=>
   obtain⟨k,y⟩:=p
   simp only[qEc] at hn
   by_cases hk:ob=k
   ·subst hk
    simp only[List.lookup,beq_self_eq_true] at hl
    cases hl
    cases hs:qJa x (Hp.get h ob) with
    | true=>exact qpI hs
    | false=>rw[hs] at hn;simp at hn
   ·simp only[List.lookup,beq_eq_false_iff_ne.2 hk] at hl
    refine ih ?_ hl
    cases hs:qJa y (Hp.get h k) with
    | true=>rw[hs] at hn;exact hn
    | false=>rw[hs] at hn;simp only[cond_false,List.mem_cons,not_or] at hn;exact hn.2
theorem qdP (hT:∀ i o,ops[i]? = some o->TrOK P c ops T lg i o) {ob:Nat} {i:Nat} {d:Bool}:∀ (n:Nat),i+n<=ops.length->
  (∀ j o,i<=j->j<i+n->ops[j]? = some o->T.sf j=false->ob ∉ Lg.hurts ⟨T.sf j,qBp o.op,qAy (T.ρ j) (T.h j) o,(T.up j).map (·.1),qEc (T.h j) (T.up j),qu o,qAl ops o,o.dst⟩ d)->
  qCS d (Hp.get (T.h (i+n)) ob) (Hp.get (T.h i) ob):=by
 intro n
 induction n with
 | zero=>intro _ _;exact qJE _ _
 | succ n ih=>
   intro hn hno
   obtain⟨o,ho⟩:∃ o,ops[i+n]? = some o:=⟨_,List.getElem?_eq_getElem (by omega)⟩
   have h1:=(hT _ o ho).hp
   refine qkZ ?_ (ih (by omega) fun j o h1 h2=>hno j o h1 (by omega))
   rw[show i+(n+1)=i+n+1 by omega,h1,qm]
   cases hs:T.sf (i+n) with
   | true=>rw[((hT _ o ho).step.soft ((hT _ o ho).sf ▸ hs)).1];exact qJE _ _
   | false=>
     have h2:=hno _ o (by omega) (by omega) ho hs
     cases d with
     | true=>rw[qj3 h2];exact qJE _ _
     | false=>
       cases hl:(T.up (i+n)).lookup ob with
       | none=>exact qJE _ _
       | some x=>exact qrL h2 hl
structure InvP (P:Program) (c:Ctx) (ops:List Oper) (T:Tr) (e0:Env) (w0:World) (D:Nat->Prop) (a:Act) (w:World) (p:Nat) (nm:Nm) (β:Nat->Nat):Prop where
 ple:p<=ops.length
 hard:∀ i o,ops[i]? = some o->T.sf i=false->qu o=false->(D i↔i<p)
 frd:∀ i o,ops[i]? = some o->qu o=true->i<p->D i
 rel:RelH ⟨nm,T.h p,T.nx p⟩ w
 onto:Onto e0 w0 ⟨nm,T.h p,T.nx p⟩ w
 pend:∀ q o,ops[q]? = some o->qu o=true->D q->p<=q->∃ Cn val d,FreshOK P o (T.ρ q) (T.nx q) (T.v q) (T.up q) (T.nx (q+1)) Cn val d /\ PBlk ⟨nm,T.h p,T.nx p⟩ w0 w Cn (β q) /\ a.tmps.getD d undef=val (β q)
 inj:∀ q q' o o',ops[q]? = some o->ops[q']? = some o'->qu o=true->qu o'=true->D q->D q'->p<=q->p<=q'->β q = β q'->q=q'
 regs:∀ t i,i<=ops.length->(∀ j o,ops[j]? = some o->o.dst=some t->(D j↔j<i))->(∀ q o,ops[q]? = some o->qu o=true->o.dst=some t->q<p \/ i<=q)->
  qS ⟨nm,T.h p,T.nx p⟩ (Rg.get (T.ρ i) t) (a.tmps.getD t undef)
structure Inv (P:Program) (c:Ctx) (Z:List Deferred) (ops:List Oper) (T:Tr) (e0:Env) (w0:World) (D:Nat->Prop) (a:Act) (w:World):Prop where
 down:∀ i o,ops[i]? = some o->D i->∀ e∈o.after,Region.binds .any e=true->D e.on
 st:∃ p nm β,InvP P c ops T e0 w0 D a w p nm β
 size:a.tmps.size=c.nt
 defers:a.defers=Z
theorem qhV (hT:∀ i o,ops[i]? = some o->TrOK P c ops T lg i o) {i:Nat} {o:Oper} (ho:ops[i]? = some o) (hf:qu o=true):T.sf i=false:=by
 obtain⟨_,_,_,_,h⟩:=(hT i o ho).fresh hf
 rw[(hT i o ho).sf]
 simp[qC3,h.hard.1,h.hard.2.1,h.hard.2.2]
def qIY (ops:List Oper):Prop:=∀ (q k:Nat) (o y:Oper) (t:Tmp),ops[q]? = some o->ops[k]? = some y->qu o=true->o.dst=some t->y.dst=some t->k=q
theorem qdm {e0:Env} {w0:World} {D:Nat->Prop} {a:Act} {w:World} {p:Nat} {nm:Nm} {β:Nat->Nat} {o:Oper} (hc:CtxOK P c)
  (hT:∀ i o,ops[i]? = some o->TrOK P c ops T lg i o) (hu:qIY ops) (hI:InvP P c ops T e0 w0 D a w p nm β) (ho:ops[p]? = some o) (hd:T.sf p=true \/ (qu o=true /\ D p)):
  ∃ nm',InvP P c ops T e0 w0 D a w (p+1) nm' β:=by
 have hplt:=getElem?_lt ho
 have hTp:=hT p o ho
 by_cases hs:T.sf p=true
 ·have hnf:qu o=false:=by
   cases hf:qu o with
   | false=>rfl
   | true=>rw[qhV hT ho hf] at hs;cases hs
  obtain⟨s1,s2,_⟩:=hTp.step.soft (hTp.sf ▸ hs)
  have e1:T.h (p+1)=T.h p:=by rw[hTp.hp,s1];rfl
  refine⟨nm,hplt,fun i y hi hy hf=>?_,fun i y hi hf hlt=>?_,by rw[e1,s2];exact hI.rel,by rw[e1,s2];exact hI.onto,fun q y hq hf h3 h4=>by rw[e1,s2];exact hI.pend q y hq hf h3 (by omega),
   fun q q' y y' hq hq' hf hf' h1 h2 h3 h4=>hI.inj q q' y y' hq hq' hf hf' h1 h2 (by omega) (by omega),fun t i hi hcut hcond=>?_⟩
  ·rw[hI.hard i y hi hy hf]
   have:i≠p:=fun h=>by subst h;rw[hs] at hy;cases hy
   omega
  ·have:i≠p:=fun h=>by subst h;rw[ho] at hi;cases hi;rw[hf] at hnf;cases hnf
   exact hI.frd i y hi hf (by omega)
  ·rw[e1,s2]
   refine hI.regs t i hi hcut fun q y hq hf hdst=>?_
   have:q≠p:=fun h=>by subst h;rw[ho] at hq;cases hq;rw[hf] at hnf;cases hnf
   rcases hcond q y hq hf hdst with h | h
   ·left;omega
   ·exact .inr h
 ·obtain⟨hf,hD⟩:=hd.resolve_left hs
  obtain⟨Cn,val,d,hF,hb,htmp⟩:=hI.pend p o ho hf hD (Nat.le_refl _)
  obtain⟨zs,hcell,hzs⟩:=hb.cells
  obtain⟨nm',k1,k3,k4,k5⟩:=hF.canon hI.rel hcell hzs hb.new hb.fresh hb.nfx
  have k2:=hI.onto.more k3
  rw[<- hTp.hp] at k1 k2 k3 k4 k5
  refine⟨nm',hplt,fun i y hi hy hf'=>?_,fun i y hi hf' hlt=>?_,k1,k2,fun q y hq hf' h3 h4=>?_,fun q q' y y' hq hq' hf1 hf2 h1 h2 h3 h4=>hI.inj q q' y y' hq hq' hf1 hf2 h1 h2 (by omega) (by omega),fun t' i hi hcut hcond=>?_⟩
  ·rw[hI.hard i y hi hy hf']
   have:i≠p:=fun h=>by subst h;rw[ho] at hi;cases hi;rw[hf] at hf';cases hf'
   omega
  ·by_cases hip:i=p
   ·subst hip;exact hD
   ·exact hI.frd i y hi hf' (by omega)
  ·obtain⟨Cn',val',d',q0,q1,q2⟩:=hI.pend q y hq hf' h3 (by omega)
   refine⟨Cn',val',d',q0,⟨q1.cells,q1.new,fun o' ho' hb'=>?_,q1.nfx⟩,q2⟩
   rcases k5 o' _ ho' hb' with h | ⟨h5,h6⟩
   ·have:=hI.inj q p y o hq ho hf' hf h3 hD (by omega) (Nat.le_refl _) h
    omega
   ·exact q1.fresh o' h5 h6
  ·by_cases hcase:o.dst=some t' /\ p<i
   ·obtain⟨hdst,hpi⟩:=hcase
    have:=qSr hT (t:=t') (i:=p+1) (i - (p+1)) (by omega) fun k y h1 h2 hk hy=>by
     have:=hu p k o y t' ho hk hf hdst hy
     omega
    rw[show p+1+(i - (p+1))=i by omega] at this
    rw[this,hTp.put t',if_pos hdst]
    rw[hF.dst] at hdst
    cases hdst
    rw[htmp]
    exact k4
   ·refine (hI.regs t' i hi hcut fun q y hq hf' hdst=>?_).ext k3
    rcases hcond q y hq hf' hdst with h | h
    ·by_cases hqp:q=p
     ·subst hqp
      rw[ho] at hq;cases hq
      right
      rcases Nat.lt_or_ge q i with h' | h'
      ·exact absurd ⟨hdst,h'⟩ hcase
      ·exact h'
     ·left;omega
    ·exact .inr h
theorem adv {e0:Env} {w0:World} {D:Nat->Prop} {a:Act} {w:World} {β:Nat->Nat} (hc:CtxOK P c)
  (hT:∀ i o,ops[i]? = some o->TrOK P c ops T lg i o) (hu:qIY ops):∀ (n p:Nat) (nm:Nm),InvP P c ops T e0 w0 D a w p nm β->p+n<=ops.length->(∀ k o,p<=k->k<p+n->ops[k]? = some o->T.sf k=false->D k)->
  ∃ nm',InvP P c ops T e0 w0 D a w (p+n) nm' β:=by
 intro n
 induction n with
 | zero=>intro p nm hI _ _;exact⟨nm,hI⟩
 | succ n ih=>
   intro p nm hI hn hd
   obtain⟨o,ho⟩:∃ o,ops[p]? = some o:=⟨_,List.getElem?_eq_getElem (by omega)⟩
   have h1:T.sf p=true \/ (qu o=true /\ D p):=by
    cases hs:T.sf p with
    | true=>exact .inl rfl
    | false=>
      have hD:=hd p o (Nat.le_refl _) (by omega) ho hs
      cases hf:qu o with
      | true=>exact .inr ⟨rfl,hD⟩
      | false=>
        have:=(hI.hard p o ho hs hf).1 hD
        omega
   obtain⟨nm',hI'⟩:=qdm hc hT hu hI ho h1
   obtain⟨nm'',hI''⟩:=ih (p+1) nm' hI' (by omega) fun k y h1 h2 hk hs=>hd k y (by omega) (by omega) hk hs
   exact⟨nm'',by rwa [show p+(n+1)=p+1+n by omega]⟩
theorem qds {e:Env} {w:World} (h:RelH e w) (x:Go.Obj):RelH e (w.alloc x) /\ Frame' e w (w.alloc x):=by
 have hblk:∀ k,k<w.heap.size->(w.alloc x).heap[k]? = w.heap[k]?:=fun k hk=>by simp only[World.alloc,Array.getElem?_push,Nat.ne_of_lt hk,if_false]
 have hframe:Frame' e w (w.alloc x):=⟨rfl,rfl,rfl,by simp,fun k hk _=>hblk k hk⟩
 refine⟨⟨fun q=>?_,h.new,h.apart,h.fix.go hframe (Ext.refl h).toM⟩,hframe⟩
 by_cases hd:(e.h.get q).shape=.dead
 ·have:e.h.get q=.dead:=by cases hz:e.h.get q<;>rw[hz] at hd<;>simp[Obj.shape] at hd
  unfold qG;rw[this];trivial
 ·exact qG.frame (h.obj q) (by simp) fun bq hbq=>hblk bq (qG.lt (h.obj q) hd hbq)
theorem qig {e0:Env} {w0:World} {D:Nat->Prop} {a:Act} {w:World} {j:Nat} {o:Oper} {K:Act->World->Prop} {Q:Exit->Act->World->Prop} (hc:CtxOK P c)
  (hT:∀ i o,ops[i]? = some o->TrOK P c ops T lg i o)
  (anc:∀ (D:Nat->Prop),(∀ i o,ops[i]? = some o->D i->∀ e∈o.after,Region.binds .any e=true->D e.on)->∀ i o,ops[i]? = some o->(∀ e∈o.after,Region.binds .any e=true->D e.on)->
   ∀ j,Nat.testBit ((qA9 ops []).getD i 0) j=true->D j)
  (hp:∀ i o,ops[i]? = some o->∀ j y,j<i->ops[j]? = some y->Nat.testBit ((qA9 ops []).getD i 0) j=true \/
   (qCL o.dst (qAl ops y)=false /\ qCL y.dst (qAl ops o)=false /\ qCr o.dst y.dst=false))
  (hl:∀ i x,lg[i]? = some x->∀ j y,j<i->lg[j]? = some y->Nat.testBit ((qA9 ops []).getD i 0) j=true \/ ((x.soft=true \/ y.soft=true \/ x.fr=true) /\ (∀ o∈x.reads,o ∉ y.hurts x.deep) /\ ∀ o∈y.reads,o ∉ x.hurts y.deep))
  (hfs:∀ i x,lg[i]? = some x->∀ j y,j<i->lg[j]? = some y->qIW x y ((qA9 ops []).getD i 0) j lg) (hu:qIY ops)
  (hI:Inv P c Z ops T e0 w0 D a w) (hj:ops[j]? = some o) (hnot:¬ D j) (hed:∀ e∈o.after,Region.binds .any e=true->D e.on)
  (hK:∀ a' w',Inv P c Z ops T e0 w0 (fun i=>D i \/ i=j) a' w'->K a' w'):
  if Region.wanted o (yielded ops.toArray a.tmps) then o.wp P a w K Q else K (a.put o.dst undef) w:=by
 obtain⟨down,⟨p0,nm0,β,hI0⟩,hsize,hdef⟩:=hI
 have hjlt:=getElem?_lt hj
 have before:∀ i,Nat.testBit ((qA9 ops []).getD j 0) i=true->D i:=anc D down j o hj hed
 have after:∀ i y,ops[i]? = some y->Nat.testBit ((qA9 ops []).getD i 0) j=true->¬ D i:=fun i y hi hb hd=>hnot (anc D down i y hi (down i y hi hd) j hb)
 have inIn:∀ {d:Option Tmp} {l:List Nat} {t:Nat},d=some t->t∈l->qCL d l=true:=fun hd hm=>by subst hd;exact qK9.2 hm
 have hTj:=hT j o hj
 have norm:∃ p nm,InvP P c ops T e0 w0 D a w p nm β /\ (∀ i y,i<j->ops[i]? = some y->qu y=true->Nat.testBit ((qA9 ops []).getD j 0) i=true->(∀ k z,k<i->lg[k]? = some z->z.soft=false->Nat.testBit ((qA9 ops []).getD j 0) k=true)->i<p) /\
   (T.sf j=false->qu o=false->p=j):=by
  by_cases hcase:T.sf j=false /\ qu o=false
  ·obtain⟨hs,hf⟩:=hcase
   have hple:p0<=j:=by
    rcases Nat.lt_or_ge j p0 with h | h
    ·exact absurd ((hI0.hard j o hj hs hf).2 h) hnot
    ·exact h
   obtain⟨nm',hI'⟩:=adv hc hT hu (j - p0) p0 nm0 hI0 (by omega) fun k y h1 h2 hk hy=>by
    rcases hl j _ hTj.log k _ (by omega) (hT k y hk).log with hb | ⟨hb,_⟩
    ·exact before k hb
    ·rcases hb with hb | hb | hb
     ·exact absurd (hs.symm.trans hb) (by simp)
     ·exact absurd (hy.symm.trans hb) (by simp)
     ·exact absurd (hf.symm.trans hb) (by simp)
   rw[show p0+(j - p0)=j by omega] at hI'
   exact⟨j,nm',hI',fun i y hi _ _ _ _=>hi,fun _ _=>rfl⟩
  ·have go:∀ m,m<=j->∃ p nm,InvP P c ops T e0 w0 D a w p nm β /\ (∀ i y,i<m->ops[i]? = some y->qu y=true->Nat.testBit ((qA9 ops []).getD j 0) i=true->(∀ k z,k<i->lg[k]? = some z->z.soft=false->Nat.testBit ((qA9 ops []).getD j 0) k=true)->i<p):=by
    intro m
    induction m with
    | zero=>intro _;exact⟨p0,nm0,hI0,fun i y hi=>by omega⟩
    | succ m ih=>
      intro hm
      obtain⟨p,nm,h1,h2⟩:=ih (by omega)
      by_cases hneed:∃ y,ops[m]? = some y /\ qu y=true /\ Nat.testBit ((qA9 ops []).getD j 0) m=true /\ (∀ k z,k<m->lg[k]? = some z->z.soft=false->Nat.testBit ((qA9 ops []).getD j 0) k=true) /\ p<=m
      ·obtain⟨y,hy,hfy,hbit,hfull,hpm⟩:=hneed
       obtain⟨nm',hI'⟩:=adv hc hT hu (m+1 - p) p nm h1 (by omega) fun k z h3 h4 hk hz=>by
        by_cases hkm:k=m
        ·subst hkm;exact before k hbit
        ·exact before k (hfull k _ (by omega) (hT k z hk).log hz)
       rw[show p+(m+1 - p)=m+1 by omega] at hI'
       exact⟨m+1,nm',hI',fun i y hi _ _ _ _=>hi⟩
      ·refine⟨p,nm,h1,fun i y hi hiy hfy hbit hfull=>?_⟩
       by_cases him:i=m
       ·subst him
        rcases Nat.lt_or_ge i p with h | h
        ·exact h
        ·exact absurd ⟨y,hiy,hfy,hbit,hfull,h⟩ hneed
       ·exact h2 i y (by omega) hiy hfy hbit hfull
   obtain⟨p,nm,h1,h2⟩:=go j (Nat.le_refl _)
   exact⟨p,nm,h1,h2,fun hs hf=>absurd ⟨hs,hf⟩ hcase⟩
 obtain⟨p,nm,hIP,hfullp,hpj⟩:=norm
 have cutj:∀ t∈qAl ops o,∀ i y,ops[i]? = some y->y.dst=some t->(D i↔i<j):=by
  intro t ht i y hi hy
  rcases Nat.lt_trichotomy i j with h | h | h
  ·refine⟨fun _=>h,fun _=>?_⟩
   rcases hp j o hj i y h hi with hb | ⟨_,hb,_⟩
   ·exact before i hb
   ·rw[inIn hy ht] at hb;cases hb
  ·subst h;exact⟨fun hd=>absurd hd hnot,fun h=>absurd h (Nat.lt_irrefl _)⟩
  ·refine⟨fun hd=>?_,fun h'=>by omega⟩
   rcases hp i y hi j o h hj with hb | ⟨hb,_,_⟩
   ·exact absurd hd (after i y hi hb)
   ·rw[inIn hy ht] at hb;cases hb
 have seen:∀ i y,i<j->ops[i]? = some y->qu y=true->i<p \/ (qCL y.dst (qAl ops o)=false /\ ∀ ob∈qAy (T.ρ j) (T.h j) o,ob ∉ Lg.hurts ⟨T.sf i,qBp y.op,qAy (T.ρ i) (T.h i) y,(T.up i).map (·.1),qEc (T.h i) (T.up i),qu y,qAl ops y,y.dst⟩ (qBp o.op)):=by
  intro i y hi hy hf
  rcases (hfs j _ hTj.log i _ hi (hT i y hy).log).2 hf with⟨h1,h2⟩ | h
  ·exact .inl (hfullp i y hi hy hf h1 h2)
  ·exact .inr h
 have regs:∀ t∈qAl ops o,qS ⟨nm,T.h p,T.nx p⟩ (Rg.get (T.ρ j) t) (a.tmps.getD t undef):=fun t ht=>hIP.regs t j (Nat.le_of_lt hjlt) (cutj t ht) fun q y hq hf hdst=>by
  rcases Nat.lt_or_ge q j with h | h
  ·rcases seen q y h hq hf with h1 | ⟨h1,_⟩
   ·exact .inl h1
   ·rw[inIn hdst ht] at h1;cases h1
  ·exact .inr h
 have opnds:∀ x∈o.op.operands,qS ⟨nm,T.h p,T.nx p⟩ (ev (T.ρ j) x) (a.eval x):=fun x hx=>qYl fun t ht=>regs t (by
  subst ht
  exact List.mem_append_left _ (List.mem_flatMap.2 ⟨.tmp t,by simpa using hx,by simp⟩))
 rw[hTj.step.wtd _ a regs]
 have softSame:T.sf j=true->∀ ob∈qAy (T.ρ j) (T.h j) o,qCS (qBp o.op) (Hp.get (T.h p) ob) (Hp.get (T.h j) ob):=by
  intro hs ob hob
  rcases Nat.le_total p j with h | h
  ·have:=qdP hT (ob:=ob) (i:=p) (d:=qBp o.op) (j - p) (by omega) fun i y h1 h2 hi hy=>by
    cases hf:qu y with
    | true=>
      rcases seen i y (by omega) hi hf with h3 | ⟨_,h3⟩
      ·omega
      ·rw[hf] at h3;exact h3 ob hob
    | false=>
      have hnd:¬ D i:=fun hd=>by have:=(hIP.hard i y hi hy hf).1 hd;omega
      rcases hl j _ hTj.log i _ (by omega) (hT i y hi).log with hb | ⟨_,hb,_⟩
      ·exact absurd (before i hb) hnd
      ·rw[hf] at hb;exact hb ob hob
   rw[show p+(j - p)=j by omega] at this
   exact qkY this
  ·have:=qdP hT (ob:=ob) (i:=j) (d:=qBp o.op) (p - j) (by have:=hIP.ple;omega) fun i y h1 h2 hi hy=>by
    have hd:D i:=by
     cases hf:qu y with
     | true=>exact hIP.frd i y hi hf (by omega)
     | false=>exact (hIP.hard i y hi hy hf).2 (by omega)
    have hij:j<i:=by
     rcases Nat.lt_or_ge j i with h | h
     ·exact h
     ·have:i=j:=by omega
      subst this;exact absurd hd hnot
    rcases hl i _ (hT i y hi).log j _ hij hTj.log with hb | ⟨_,_,hb⟩
    ·exact absurd hd (after i y hi hb)
    ·exact hb ob hob
   rw[show j+(p - j)=p by omega] at this
   exact this
 have down':∀ i y,ops[i]? = some y->(D i \/ i=j)->∀ e∈y.after,Region.binds .any e=true->(D e.on \/ e.on=j):=by
  intro i y hi hd e he hb
  rcases hd with hd | rfl
  ·exact .inl (down i y hi hd e he hb)
  ·rw[hj] at hi;cases hi;exact .inl (hed e he hb)
 have newreg:∀ {e':Env} {vr:Value} {p':Nat},qS e' (T.v j) vr->(∀ {v:V} {u:Value},qS ⟨nm,T.h p,T.nx p⟩ v u->qS e' v u)->(∀ q y,ops[q]? = some y->qu y=true->q<p'->q<p)->
   ∀ t i,i<=ops.length->(∀ k y,ops[k]? = some y->y.dst=some t->((D k \/ k=j)↔k<i))->(∀ q y,ops[q]? = some y->qu y=true->y.dst=some t->q<p' \/ i<=q)->qS e' (Rg.get (T.ρ i) t) ((a.put o.dst vr).tmps.getD t undef):=by
  intro e' vr p' hv hext hpp t i hi hcut hcond
  rw[qHo hsize hTj.step.dst]
  split
  ·rename_i hd
   have hji:j<i:=(hcut j o hj hd).1 (.inr rfl)
   have:=qSr hT (t:=t) (i:=j+1) (i - (j+1)) (by omega) fun k y h1 h2 hk hy=>by
    have hdk:D k:=by
     rcases (hcut k y hk hy).2 (by omega) with h | h
     ·exact h
     ·omega
    rcases hp k y hk j o (by omega) hj with hb | ⟨_,_,hb⟩
    ·exact after k y hk hb hdk
    ·rw[hy,hd] at hb;simp[qCr] at hb
   rw[show j+1+(i - (j+1))=i by omega] at this
   rw[this,hTj.put t,if_pos hd]
   exact hv
  ·rename_i hd
   refine hext (hIP.regs t i hi (fun k y hk hy=>?_) fun q y hq hf hdst=>?_)
   ·have hkj:k≠j:=fun h=>by subst h;rw[hj] at hk;cases hk;exact hd hy
    rw[<- hcut k y hk hy]
    exact⟨.inl,fun h=>h.resolve_right hkj⟩
   ·rcases hcond q y hq hf hdst with h | h
    ·exact .inl (hpp q y hq hf h)
    ·exact .inr h
 have tmpKeep:∀ q y d vr,ops[q]? = some y->qu y=true->y.dst=some d->q≠j->(a.put o.dst vr).tmps.getD d undef=a.tmps.getD d undef:=by
  intro q y d vr hq hf hdst hqj
  rw[qHo hsize hTj.step.dst,if_neg]
  intro hd
  exact hqj (hu q j y o d hq hj hf hdst hd).symm
 have fin:∀ {nm':Nm} {vr:Value} {w':World} {p':Nat},(qu o=false)->(p'<=ops.length)->p<=p'->(∀ i y,ops[i]? = some y->T.sf i=false->qu y=false->((D i \/ i=j)↔i<p'))->(∀ q y,ops[q]? = some y->qu y=true->q<p'->q<p)->
   RelH ⟨nm',T.h p',T.nx p'⟩ w'->Frame' ⟨nm,T.h p,T.nx p⟩ w w'->Ext ⟨nm,T.h p,T.nx p⟩ ⟨nm',T.h p',T.nx p'⟩ w->qS ⟨nm',T.h p',T.nx p'⟩ (T.v j) vr->Inv P c Z ops T e0 w0 (fun i=>D i \/ i=j) (a.put o.dst vr) w':=by
  intro nm' vr w' p' hf h1 h2 h3 h4 r2 r3 r4 r1
  refine⟨down',⟨p',nm',β,h1,h3,fun i y hi hfy hlt=>.inl (hIP.frd i y hi hfy (h4 i y hi hfy hlt)),r2,hIP.onto.trans ⟨r3,r4⟩,fun q y hq hfy g3 g4=>?_,fun q q' y y' hq hq' hf1 hf2 g1 g2 g3 g4 he=>?_,newreg r1 (fun h=>h.ext r4) h4⟩,qLb.trans hsize,qLa.trans hdef⟩
  ·have hqj:q≠j:=fun h=>by subst h;rw[hj] at hq;cases hq;rw[hfy] at hf;cases hf
   obtain⟨Cn,val,d,k0,k1,k2⟩:=hIP.pend q y hq hfy (g3.resolve_right hqj) (by omega)
   exact⟨Cn,val,d,k0,k1.go r3 r4,by rw[tmpKeep q y d vr hq hfy k0.dst hqj];exact k2⟩
  ·have hqj:q≠j:=fun h=>by subst h;rw[hj] at hq;cases hq;rw[hf1] at hf;cases hf
   have hqj':q'≠j:=fun h=>by subst h;rw[hj] at hq';cases hq';rw[hf2] at hf;cases hf
   exact hIP.inj q q' y y' hq hq' hf1 hf2 (g1.resolve_right hqj) (g2.resolve_right hqj') (by omega) (by omega) he
 cases hfo:qu o with
 | true=>
   obtain⟨Cn,val,d,hwant,hF⟩:=hTj.fresh hfo
   rw[hwant,if_pos rfl]
   have hpj':p<=j:=by
    rcases Nat.lt_or_ge j p with h | h
    ·exact absurd (hIP.frd j o hj hfo h) hnot
    ·exact h
   obtain⟨zs,hzc,hrun⟩:=hF.run (w:=w) opnds
   obtain⟨m1,m2⟩:=qds hIP.rel zs
   have m3:Ext ⟨nm,T.h p,T.nx p⟩ ⟨nm,T.h p,T.nx p⟩ w:=Ext.refl hIP.rel
   unfold Oper.wp
   rw[hrun]
   refine hK _ _ ⟨down',⟨p,nm,fun q=>if q=j then w.heap.size else β q,hIP.ple,fun i y hi hy hf=>?_,fun i y hi hf hlt=>.inl (hIP.frd i y hi hf hlt),m1,hIP.onto.trans ⟨m2,m3⟩,fun q y hq hf g3 g4=>?_,fun q q' y y' hq hq' hf1 hf2 g1 g2 g3 g4 he=>?_,fun t' i hi hcut hcond=>?_⟩,qLb.trans hsize,qLa.trans hdef⟩
   ·rw[<- hIP.hard i y hi hy hf]
    have:i≠j:=fun h=>by subst h;rw[hj] at hi;cases hi;rw[hfo] at hf;cases hf
    exact⟨fun h=>h.resolve_right this,.inl⟩
   ·by_cases hqj:q=j
    ·subst hqj
     rw[hj] at hq;cases hq
     rw[if_pos rfl]
     refine⟨Cn,val,d,hF,⟨⟨zs,heap_alloc_new w _,hzc⟩,hIP.onto.fr.size,fun o' ho' hb'=>?_,fun g k l' hg hw=>?_⟩,?_⟩
     ·have:=qG.lt (hIP.rel.obj o') ho' hb'
      omega
     ·obtain⟨⟨arr,ty,fr,h1,_⟩,_⟩:=hIP.rel.fix g k l' hg
      have:=(Array.getElem?_eq_some_iff.1 h1).1
      omega
     ·rw[qHo hsize hTj.step.dst,if_pos hF.dst]
    ·rw[if_neg hqj]
     obtain⟨Cn',val',d',k0,k1,k2⟩:=hIP.pend q y hq hf (g3.resolve_right hqj) g4
     exact⟨Cn',val',d',k0,k1.go m2 m3,by rw[tmpKeep q y d' _ hq hf k0.dst hqj];exact k2⟩
   ·have lt:∀ q y,ops[q]? = some y->qu y=true->D q->p<=q->β q<w.heap.size:=fun q y hq hf hd hpq=>by
     obtain⟨_,_,_,_,k1,_⟩:=hIP.pend q y hq hf hd hpq
     obtain⟨_,k2,_⟩:=k1.cells
     exact (Array.getElem?_eq_some_iff.1 k2).1
    by_cases hqj:q=j<;>by_cases hqj':q'=j
    ·omega
    ·rw[if_pos hqj,if_neg hqj'] at he
     have:=lt q' y' hq' hf2 (g2.resolve_right hqj') g4
     omega
    ·rw[if_neg hqj,if_pos hqj'] at he
     have:=lt q y hq hf1 (g1.resolve_right hqj) g3
     omega
    ·rw[if_neg hqj,if_neg hqj'] at he
     exact hIP.inj q q' y y' hq hq' hf1 hf2 (g1.resolve_right hqj) (g2.resolve_right hqj') g3 g4 he
   ·have hd:o.dst≠some t':=fun hd=>by
     have h1:=(hcut j o hj hd).1 (.inr rfl)
     rcases hcond j o hj hfo hd with h2 | h2<;>omega
    rw[qHo hsize hTj.step.dst,if_neg hd]
    refine hIP.regs t' i hi (fun k y hk hy=>?_) hcond
    have hkj:k≠j:=fun h=>by subst h;rw[hj] at hk;cases hk;exact hd hy
    rw[<- hcut k y hk hy]
    exact⟨.inl,fun h=>h.resolve_right hkj⟩
 | false=>
   have hardCut:T.sf j=false->∀ i y,ops[i]? = some y->T.sf i=false->qu y=false->((D i \/ i=j)↔i<j+1):=by
    intro hs i y hi hy hf
    rw[hIP.hard i y hi hy hf,hpj hs hfo]
    omega
   have hardFr:T.sf j=false->∀ q y,ops[q]? = some y->qu y=true->q<j+1->q<p:=by
    intro hs q y hq hf hlt
    rw[hpj hs hfo]
    have:q≠j:=fun h=>by subst h;rw[hj] at hq;cases hq;rw[hfo] at hf;cases hf
    omega
   have softCut:T.sf j=true->∀ i y,ops[i]? = some y->T.sf i=false->qu y=false->((D i \/ i=j)↔i<p):=by
    intro hs i y hi hy hf
    rw[<- hIP.hard i y hi hy hf]
    refine⟨fun h=>h.resolve_right fun h=>?_,.inl⟩
    subst h;exact absurd (hs.symm.trans hy) (by simp)
   cases hw:T.want j with
   | true=>
     rw[if_pos rfl]
     cases hs:T.sf j with
     | true=>
       obtain⟨_,_,s3⟩:=hTj.step.soft (hTj.sf ▸ hs)
       refine s3 hw (T.h p) (T.nx p) (softSame hs) nm w a opnds hIP.rel _ Q fun vr nm' w' r1 r2 r3 r4=>hK _ _ (fin hfo hIP.ple (Nat.le_refl _) (softCut hs) (fun _ _ _ _ h=>h) r2 r3 r4 r1)
     | false=>
       have hpp:=hpj hs hfo
       have hrel:=hIP.rel
       have hop:=opnds
       rw[hpp] at hrel hop
       refine hTj.step.run hw nm w a hop hrel _ Q fun vr nm' w' r1 r2 r3 r4=>?_
       rw[<- hTj.hp] at r1 r2 r4
       exact hK _ _ (fin hfo hjlt (by omega) (hardCut hs) (hardFr hs) r2 (by rw[hpp];exact r3) (by rw[hpp];exact r4) r1)
   | false=>
     rw[if_neg (by simp)]
     obtain⟨k1,k2,k3⟩:=hTj.step.skip hw
     cases hs:T.sf j with
     | true=>
       exact hK _ _ (fin hfo hIP.ple (Nat.le_refl _) (softCut hs) (fun _ _ _ _ h=>h) hIP.rel (Frame'.refl _ _) (Ext.refl hIP.rel) (by rw[k1];exact qSu _))
     | false=>
       have hpp:=hpj hs hfo
       have e1:T.h (j+1)=T.h j:=by rw[hTj.hp,k2];rfl
       have hrel:=hIP.rel
       exact hK _ _ (fin (nm':=nm) hfo hjlt (by omega) (hardCut hs) (hardFr hs) (by rw[e1,k3,<- hpp];exact hrel) (Frame'.refl _ _) (by rw[e1,k3,hpp];rw[hpp] at hrel;exact Ext.refl hrel) (by rw[k1];exact qSu _))
theorem qg8 {l:List Nat} {f g:Nat->Bool} (h:∀ x∈l,g x=true->f x=true) {y:Nat} (hy:y∈l) (hf:f y=true) (hg:g y=false):(l.filter g).length<(l.filter f).length:=by
 induction l with
 | nil=>cases hy
 | cons x l ih=>
   have le:(l.filter g).length<=(l.filter f).length:=by
    clear ih hy
    induction l with
    | nil=>simp
    | cons z l ih2=>
      have:=ih2 fun x hx=>h x (by simp at hx ⊢;rcases hx with h | h<;>simp[h])
      simp only[List.filter_cons]
      cases hgz:g z with
      | true=>rw[h z (by simp) hgz];simpa using this
      | false=>cases f z<;>simp<;>omega
   simp only[List.filter_cons]
   rcases List.mem_cons.1 hy with rfl | hy
   ·rw[hf,hg];simp;omega
   ·have:=ih (fun z hz=>h z (by simp[hz])) hy
    cases hgx:g x with
    | true=>rw[h x (by simp) hgx];simpa using this
    | false=>cases f x<;>simp<;>omega
theorem qd3 {e0:Env} {w0:World} {Q:Exit->Act->World->Prop}
  (hT:∀ i o,ops[i]? = some o->TrOK P c ops T lg i o)
  (hedge:∀ i o,ops[i]? = some o->qFu o i=true)
  (anc:∀ (D:Nat->Prop),(∀ i o,ops[i]? = some o->D i->∀ e∈o.after,Region.binds .any e=true->D e.on)->∀ i o,ops[i]? = some o->(∀ e∈o.after,Region.binds .any e=true->D e.on)->
   ∀ j,Nat.testBit ((qA9 ops []).getD i 0) j=true->D j)
  (hp:∀ i o,ops[i]? = some o->∀ j y,j<i->ops[j]? = some y->Nat.testBit ((qA9 ops []).getD i 0) j=true \/
   (qCL o.dst (qAl ops y)=false /\ qCL y.dst (qAl ops o)=false /\ qCr o.dst y.dst=false))
  (hl:∀ i x,lg[i]? = some x->∀ j y,j<i->lg[j]? = some y->Nat.testBit ((qA9 ops []).getD i 0) j=true \/ ((x.soft=true \/ y.soft=true \/ x.fr=true) /\ (∀ o∈x.reads,o ∉ y.hurts x.deep) /\ ∀ o∈y.reads,o ∉ x.hurts y.deep))
  (hfs:∀ i x,lg[i]? = some x->∀ j y,j<i->lg[j]? = some y->qIW x y ((qA9 ops []).getD i 0) j lg) (hu:qIY ops) (hc:CtxOK P c)
  (hfin:∀ nm a w,SR c Z ⟨nm,T.h ops.length,T.nx ops.length⟩ (T.ρ ops.length) a w->Onto e0 w0 ⟨nm,T.h ops.length,T.nx ops.length⟩ w->Q .normal a w):
  ∀ (fuel:Nat) (listed:Array Bool) (a:Act) (w:World),listed.size=ops.length->((List.range ops.length).filter fun i=>!listed.getD i true).length<=fuel->
    Inv P c Z ops T e0 w0 (fun i=>listed.getD i false=true) a w->wpAny P .any ops.toArray Q fuel listed a w:=by
 have done:∀ (listed:Array Bool) (a:Act) (w:World),listed.size=ops.length->(∀ i,i<ops.length->listed.getD i true=true)->Inv P c Z ops T e0 w0 (fun i=>listed.getD i false=true) a w->Q .normal a w:=by
  intro listed a w hsz hall hI
  have hall':∀ i o,ops[i]? = some o->listed.getD i false=true:=by
   intro i o ho
   have hi:=getElem?_lt ho
   have:=hall i hi
   simpa[Array.getD_eq_getD_getElem?,Array.getElem?_eq_getElem (show i<listed.size by omega)] using this
  obtain⟨_,⟨p,nm,β,hIP⟩,hsize,hdef⟩:=hI
  obtain⟨nm',hI'⟩:=adv hc hT hu (ops.length - p) p nm hIP (by have:=hIP.ple;omega) fun k o _ _ hk _=>hall' k o hk
  rw[show p+(ops.length - p)=ops.length by have:=hIP.ple;omega] at hI'
  exact hfin nm' a w ⟨fun t=>hI'.regs t ops.length (Nat.le_refl _) (fun j o hj _=>⟨fun _=>getElem?_lt hj,fun _=>hall' j o hj⟩) fun q o hq _ _=>.inl (getElem?_lt hq),hsize,hdef,hI'.rel⟩ hI'.onto
 have qHU:∀ (listed:Array Bool),listed.size=ops.length->Region.ready .any ops.toArray listed=[]->∀ i,i<ops.length->listed.getD i true=true:=by
  intro listed hsz hr i
  induction i using Nat.strongRecOn with
  | _ i ih=>
    intro hi
    cases hq:listed.getD i true with
    | true=>rfl
    | false=>
      exfalso
      have hm:i∈Region.ready .any ops.toArray listed:=by
       rw[mem_ready]
       obtain⟨o,ho⟩:∃ o,ops[i]? = some o:=⟨_,List.getElem?_eq_getElem hi⟩
       refine⟨hq,o,by simpa using ho,fun e he hb=>?_⟩
       have hed:=hedge i o ho
       unfold qFu at hed
       rw[List.all_eq_true] at hed
       have:=hed e (by simpa using he)
       rw[hb] at this
       have hlt:e.on<i:=by simpa[Nat.blt_eq] using this
       have:=ih e.on hlt (by omega)
       simpa[Array.getD_eq_getD_getElem?,Array.getElem?_eq_getElem (show e.on<listed.size by omega)] using this
      rw[hr] at hm
      cases hm
 intro fuel
 induction fuel with
 | zero=>
   intro listed a w hsz hf hI
   have hall:∀ i,i<ops.length->listed.getD i true=true:=by
    intro i hi
    have:(List.range ops.length).filter (fun i=>!listed.getD i true)=[]:=List.length_eq_zero_iff.1 (by omega)
    rw[List.filter_eq_nil_iff] at this
    simpa using this i (by simpa using hi)
   refine⟨?_,done listed a w hsz hall hI⟩
   rw[List.eq_nil_iff_forall_not_mem]
   intro i hi
   obtain⟨h1,o,ho,_⟩:=mem_ready.1 hi
   rw[hall i (getElem?_lt (l:=ops) (by simpa using ho))] at h1
   cases h1
 | succ fuel ih=>
   intro listed a w hsz hf hI
   refine⟨fun hr=>done listed a w hsz (qHU listed hsz hr) hI,fun j hj=>?_⟩
   obtain⟨h1,o,ho,hed⟩:=mem_ready.1 hj
   have ho':ops[j]? = some o:=by simpa using ho
   have hjlt:=getElem?_lt ho'
   have hnot:¬ listed.getD j false=true:=by
    simp[Array.getD_eq_getD_getElem?,Array.getElem?_eq_getElem (show j<listed.size by omega)] at h1 ⊢
    exact h1
   have := qig (D:=fun i=>listed.getD i false=true) (K:=wpAny P .any ops.toArray Q fuel (listed.setIfInBounds j true)) (Q:=Q) (w:=w) hc hT anc hp hl hfs hu hI ho' hnot hed fun a' w' hI'=>by
    refine ih (listed.setIfInBounds j true) a' w' (by simpa using hsz) ?_ ?_
    ·have:((List.range ops.length).filter fun i=>!(listed.setIfInBounds j true).getD i true).length<((List.range ops.length).filter fun i=>!listed.getD i true).length:=
      qg8 (y:=j) (fun x _ hx=>by
       by_cases hxj:j=x
       ·subst hxj
        simp[Array.getD_eq_getD_getElem?,show j<listed.size by omega] at hx
       ·rwa [getD_set_ne true hxj] at hx) (by simpa using hjlt) (by rw[h1];rfl) (by simp[Array.getD_eq_getD_getElem?,show j<listed.size by omega])
     omega
    ·have he:(fun i=>(listed.setIfInBounds j true).getD i false=true)=(fun i=>listed.getD i false=true \/ i=j):=by
      funext i
      by_cases hij:j=i
      ·subst hij
       simp[Array.getD_eq_getD_getElem?,show j<listed.size by omega]
      ·rw[getD_set_ne false hij]
       simp only[eq_iff_iff]
       exact⟨.inl,fun h=>h.resolve_right (Ne.symm hij)⟩
     rw[he];exact hI'
   unfold wpOp
   rw[ho]
   simp only
   split
   ·rename_i hw;rw[if_pos hw] at this;exact .inl this
   ·rename_i hw;rw[if_neg hw] at this;exact this
end
theorem qor {ops:Array Oper} {draw:Bool} {id:Nat} {R:Type} {ρ:Rg} {h:Hp} {nx:Nat} {K:Rg->Hp->Nat->Option R} {r:R} (hm:P.follows .mixedOrders=true) (hc:CtxOK P c)
  (hE:qRr c ops.toList draw ρ h nx K=some r):∃ ρ' h' nx',K ρ' h' nx'=some r /\ ∀ {Z:List Deferred} {nm:Nm} {a:Act} {w:World} {Q:Exit->Act->World->Prop},SR c Z ⟨nm,h,nx⟩ ρ a w->
  (∀ nm' a' w',SR c Z ⟨nm',h',nx'⟩ ρ' a' w'->Onto ⟨nm,h,nx⟩ w ⟨nm',h',nx'⟩ w'->Q .normal a' w')->(Code.region id ops draw).wp P Q a w:=by
 unfold qRr at hE
 cases draw with
 | false=>
   obtain⟨ρ',h',nx',k1,k2⟩:=qlf hc ops.toList hE
   refine⟨ρ',h',nx',k1,fun hs hQ=>wp_region_list ?_⟩
   have:=k2 hs hQ
   simpa using this
 | true=>
   simp only[cond_true,qHE] at hE
   obtain⟨hpair,hE⟩:=qg hE
   obtain⟨T,lg,t1,t2,t3,t4,_,t6⟩:=qle hc ops.toList 0 hE (by simp) rfl (Nat.zero_le _)
   obtain⟨hlog,t4⟩:=qg t4
   have hT:∀ i o,ops.toList[i]? = some o->TrOK P c ops.toList T lg i o:=fun i o ho=>t6 i o (Nat.zero_le _) ho
   have hps:=qlk ops.toList [] 0 rfl hpair
   have hfs:∀ i x,lg[i]? = some x->∀ j y,j<i->lg[j]? = some y->qIW x y ((qA9 ops.toList []).getD i 0) j lg:=fun i x hx j y hji hy=>by
    have:=qhN lg [] 0 rfl hlog i x hx j y (by omega) (by simpa using hy)
    simpa using this
   have huq:qIY ops.toList:=by
    intro q k o y t hq hk hf hd hd'
    rcases Nat.lt_trichotomy q k with h | h | h
    ·have:=(hfs k _ (hT k y hk).log q _ h (hT q o hq).log).1 (.inl hf)
     rw[show qCr y.dst o.dst=true by rw[hd,hd'];simp[qCr]] at this
     cases this
    ·exact h.symm
    ·have:=(hfs q _ (hT q o hq).log k _ h (hT k y hk).log).1 (.inr hf)
     rw[show qCr o.dst y.dst=true by rw[hd,hd'];simp[qCr]] at this
     cases this
   have hedge:∀ i o,ops.toList[i]? = some o->qFu o i=true:=fun i o ho=>by have:=(hps i o ho).1;simpa using this
   refine⟨_,_,_,t4,fun {Z nm a w Q} hs hQ=>?_⟩
   have w2:SR c Z ⟨nm,h,nx⟩ ρ a { w with drawn:=w.drawn+1}:=by
    refine⟨hs.reg,hs.size,hs.defers,⟨fun o=>?_,hs.hp.new,hs.hp.apart,hs.hp.fix⟩⟩
    exact qG.frame (hs.hp.obj o) (Nat.le_refl _) fun _ _=>rfl
   have honto:Onto ⟨nm,h,nx⟩ w ⟨nm,h,nx⟩ { w with drawn:=w.drawn+1}:=⟨⟨rfl,rfl,rfl,Nat.le_refl _,fun _ _ _=>rfl⟩,Ext.refl hs.hp⟩
   apply wp_region_any hm
   have hz:∀ i,(Array.replicate ops.size false).getD i false=false:=fun i=>by
    rw[Array.getD_eq_getD_getElem?,Array.getElem?_replicate];split<;>rfl
   have key:=qd3 (Q:=Q) (e0:=⟨nm,h,nx⟩) (w0:=w) hT hedge
    (fun D down i o ho he j hj=>qdt down ops.toList [] 0 rfl (by simp) (fun i o hi=>by omega) (fun i o _ ho=>hedge i o ho) i o ho he j hj)
    (fun i o ho j y hji hy=>by have:=(hps i o ho).2 j y (by omega) (by simpa using hy);simpa using this)
    (fun i x hx j y hji hy=>by have:=qj1 lg [] 0 rfl hlog i x hx j y (by omega) (by simpa using hy);simpa using this)
    hfs huq hc
    (fun nm' a' w' k1 k2=>hQ _ _ _ k1 k2)
    ops.size (Array.replicate ops.size false) a { w with drawn:=w.drawn+1 } (by simp) (by
     refine Nat.le_trans (List.length_filter_le _ _) (by simp)) ⟨fun i o _ hd=>(by rw[hz] at hd;cases hd),⟨0,nm,fun _=>0,Nat.zero_le _,fun i o _ _ _=>by rw[hz];simp,fun i o _ _ h=>by omega,by rw[t2,t3];exact w2.hp,by rw[t2,t3];exact honto,fun q o _ _ hd _=>(by rw[hz] at hd;cases hd),
     fun q q' o o' _ _ _ _ hd _ _ _ _=>(by rw[hz] at hd;cases hd),fun t i hi hcut _=>?_⟩,hs.size,hs.defers⟩
   ·simpa using key
   ·have:=qSr hT (t:=t) (i:=0) i (by omega) fun j o _ hj ho hd=>by
     have:=(hcut j o ho hd).2 (by omega)
     rw[hz] at this;cases this
    rw[Nat.zero_add] at this
    rw[this,t1,t2,t3]
    exact hs.reg t
end
end Go.Kk
