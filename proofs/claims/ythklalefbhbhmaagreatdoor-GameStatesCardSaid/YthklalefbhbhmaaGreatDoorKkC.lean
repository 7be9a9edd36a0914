/-
 Code, loops, functions.
-/
import Derived.Test.YthklalefbhbhmaaGreatDoorKkF
import Derived.LoopN
import Derived.Laws.Sem
namespace Go.Kk
def Ex.to:Ex->Exit
 | .normal=>.normal
 | .exit i=>.exit i
 | .ret=>.ret
theorem qdi (ts:List Nat) (f:Nat->V) (t:Nat):Rg.get (qBE ts (ts.map f)) t=if t∈ts then f t else .s .bad:=by
 induction ts with
 | nil=>rfl
 | cons u ts ih=>
   rw[List.map_cons,qBE,qDA,ih]
   by_cases h:u=t
   ·subst h;simp
   ·have:t≠u:=fun e=>h e.symm
    simp[h,this]
theorem qra (g:V->V) (hg:g (.s .bad)=.s .bad) (t:Nat):∀ (ts:List Nat) (vs:List V),Rg.get (qBE ts (vs.map g)) t=g (Rg.get (qBE ts vs) t):=by
 intro ts
 induction ts with
 | nil=>intro vs;cases vs<;>exact hg.symm
 | cons u ts ih=>
   intro vs
   cases vs with
   | nil=>exact hg.symm
   | cons v vs=>
     rw[List.map_cons,qBE,qBE,qDA,qDA,ih]
     split<;>rfl
theorem qmX (a n i:Nat):(qBw a n)[i]? = if i<n then some (a+i) else none:=by
 induction n generalizing a i with
 | zero=>simp[qBw]
 | succ n ih=>
   cases i with
   | zero=>simp[qBw]
   | succ i=>
     simp only[qBw,List.getElem?_cons_succ,ih]
     by_cases h:i<n
     ·simp[h];omega
     ·simp[h]
theorem qZE (a n:Nat):(qBw a n).length=n:=by
 induction n generalizing a with
 | zero=>rfl
 | succ n ih=>simp[qBw,ih]
theorem qmo (h:Hp):∀ (f:Nat) (acc l:List Nat),∃ m,qB9 h f acc l=acc++m:=by
 intro f
 induction f with
 | zero=>intro acc l;exact⟨[],by simp[qB9]⟩
 | succ f ih=>
   intro acc l
   cases l with
   | nil=>exact⟨[],by simp[qB9]⟩
   | cons o t=>
     simp only[qB9]
     cases qDG o acc with
     | true=>exact ih acc t
     | false=>
       obtain⟨m,hm⟩:=ih (acc++[o]) (t++(h.get o).refs)
       exact⟨o :: m,by simp only[cond_false];rw[hm];simp⟩
structure Shut (m:Nat) (h:Hp) (nx:Nat) (vs:List V) (ks:List Nat):Prop where
 nodup:ks.Nodup
 lt:∀ o∈ks,o<nx
 vals:∀ v∈vs,∀ o∈v.refs,o∈ks
 closed:∀ o∈ks,∀ r∈(Hp.get h o).refs,r∈ks
 first:∀ i,i<m->ks[i]? = some i
 len:m<=ks.length
theorem qMI {m:Nat} {h:Hp} {nx:Nat} {vs:List V} {R:Type} {K:List Nat->List V->List Obj->Option R} {r:R} (hE:qEW m h nx vs K=some r):
  ∃ ks,Shut m h nx vs ks /\ K ks (vs.map (V.ren fun x=>qAE x ks)) (cut h ks)=some r:=by
 unfold qEW at hE
 simp only[qHE,qN1,qN3] at hE
 obtain⟨hb,hE⟩:=qg hE
 refine⟨_,?_,hE⟩
 simp only[Bool.and_eq_true,List.all_eq_true,Nat.blt_eq] at hb
 obtain⟨⟨⟨b1,b2⟩,b3⟩,b4⟩:=hb
 obtain⟨t,ht⟩:=qmo h 64 (qBw 0 m) ((qBw 0 m).flatMap (fun o=>(h.get o).refs)++vs.flatMap V.refs)
 refine⟨qYW.1 b1,b2,fun v hv o ho=>qKR.1 b3 o (List.mem_flatMap.2 ⟨v,hv,ho⟩),fun o ho r hr=>qKR.1 (b4 o ho) r hr,fun i hi=>?_,?_⟩
 ·rw[ht,List.getElem?_append_left (by rw[qZE];exact hi),qmX,if_pos hi,Nat.zero_add]
 ·rw[ht,List.length_append,qZE];omega
structure OntoM (m:Nat) (e0:Env) (w0:World) (e:Env) (w:World):Prop where
 fr:Frame' e0 w0 w
 ex:ExtM m e0 e w0
theorem Shut.idx {m:Nat} {h:Hp} {nx:Nat} {vs:List V} {ks:List Nat} (hs:Shut m h nx vs ks) {o i:Nat} (hi:ks[i]? = some o) (hm:m<=i):m<=o:=by
 rcases Nat.lt_or_ge o m with h' | h'
 ·have h1:=hs.first o h'
  have h2:=qOp hs.nodup h1
  have h3:=qOp hs.nodup hi
  omega
 ·exact h'
theorem qcj {m:Nat} {e0 e:Env} {w0 w:World} {vs:List V} {ks:List Nat} (hs:Shut m e.h e.nx vs ks) (hr:RelH e w) (ho:OntoM m e0 w0 e w):
  RelH (qx e ks) w /\ OntoM m e0 w0 (qx e ks) w /\ ∀ v∈vs,∀ vr,qS e v vr->qS (qx e ks) (v.ren fun x=>qAE x ks) vr:=by
 refine⟨qSk hr hs.nodup hs.closed,⟨ho.fr,⟨hs.len,fun o hom=>?_,fun o b hom hd hb=>?_⟩⟩,fun v hv vr hr=>qS.ren hr fun o ho _=>qMT (hs.vals v hv o ho)⟩
 ·have hg:=hs.first o hom
  obtain⟨x1,x2,x3⟩:=ho.ex.old o hom
  rw[qCV hg,qB0 hg,qBc,qB6]
  exact⟨x1,x2,x3⟩
 ·rcases Nat.lt_or_ge o ks.length with h | h
  ·have hg:ks[o]? = some ks[o]:=List.getElem?_eq_getElem h
   rw[qB0 hg,qBc] at hd
   simp only[Has,qCV hg] at hb
   have:=ho.ex.own ks[o] b (hs.idx hg hom) hd hb
   rw[qB0 hg,qB6]
   exact this
  ·rw[qEZ h] at hd;exact absurd rfl hd
theorem OntoM.trans {m:Nat} {e0 e1 e2:Env} {w0 w1 w2:World} (a:OntoM m e0 w0 e1 w1) (b:OntoM m e1 w1 e2 w2):OntoM m e0 w0 e2 w2:=by
 have own1:∀ o b,(e1.h.get o).shape≠.dead->Has e1.nm o b->w0.heap.size<=b \/ ∃ o',(e0.h.get o').shape≠.dead /\ Has e0.nm o' b /\ ((e1.h.get o).owned=true->(e0.h.get o').owned=true):=by
  intro o b' ho hb
  rcases Nat.lt_or_ge o m with h | h
  ·obtain⟨x1,x2,x3⟩:=a.ex.old o h
   refine .inr ⟨o,?_,by simp only[Has] at hb ⊢;rw[<- x1];exact hb,x3⟩
   rcases x2 with x2 | x2
   ·rwa [<- x2]
   ·exact absurd x2 ho
  ·exact a.ex.own o b' h ho hb
 refine⟨⟨b.fr.os.trans a.fr.os,b.fr.tape.trans a.fr.tape,b.fr.output.trans a.fr.output,Nat.le_trans a.fr.size b.fr.size,fun k hk hno=>?_⟩,⟨b.ex.nx,fun o ho=>?_,fun o b' ho hd hb=>?_⟩⟩
 ·rw[b.fr.block k (Nat.lt_of_lt_of_le hk a.fr.size) fun o ho hb=>?_]
  ·exact a.fr.block k hk hno
  ·rcases own1 o k (qAr ho) hb with h | ⟨o',_,h2,h3⟩
   ·omega
   ·exact hno o' (h3 ho) h2
 ·obtain⟨x1,x2,x3⟩:=a.ex.old o ho
  obtain⟨y1,y2,y3⟩:=b.ex.old o ho
  refine⟨y1.trans x1,?_,fun h=>x3 (y3 h)⟩
  rcases y2 with y2 | y2
  ·rw[y2];exact x2
  ·exact .inr y2
 ·rcases b.ex.own o b' ho hd hb with h1 | ⟨o',h1,h2,h3⟩
  ·exact .inl (Nat.le_trans a.fr.size h1)
  ·rcases own1 o' b' h1 h2 with h4 | ⟨o'',h4,h5,h6⟩
   ·exact .inl h4
   ·exact .inr ⟨o'',h4,h5,fun h=>h6 (h3 h)⟩
theorem Onto.toM {m:Nat} {e0 e:Env} {w0 w:World} (hm:m<=e0.nx) (h:Onto e0 w0 e w):OntoM m e0 w0 e w:=by
 refine⟨h.fr,⟨Nat.le_trans hm h.ex.nx,fun o ho=>h.ex.old o (Nat.lt_of_lt_of_le ho hm),fun o b ho hd hb=>?_⟩⟩
 rcases Nat.lt_or_ge o e0.nx with h' | h'
 ·obtain⟨x1,x2,x3⟩:=h.ex.old o h'
  refine .inr ⟨o,?_,by simp only[Has] at hb ⊢;rw[<- x1];exact hb,x3⟩
  rcases x2 with x2 | x2
  ·rwa [<- x2]
  ·exact absurd x2 hd
 ·exact h.ex.own o b h' hd hb
section
variable {P:Program} {c:Ctx} {Z:List Deferred}
def qMb (P:Program) (c:Ctx) (m:Nat) (b:Code) (kin kout:List Nat) (n:Nat) (vs:List V) (objs:List Obj) (e:Ex) (vs':List V) (objs':List Obj):Prop:=
 ∀ {Z:List Deferred} (nm:Nm) (a:Act) (w:World),SR c Z ⟨nm,qH [] 0 objs,objs.length⟩ (qBE kin vs) a w->∀ (Q:Exit->Act->World->Prop),
   (∀ nm' a' w',SR c Z ⟨nm',qH [] 0 objs',objs'.length⟩ (qBE kout vs') a' w'->OntoM m ⟨nm,qH [] 0 objs,objs.length⟩ w ⟨nm',qH [] 0 objs',objs'.length⟩ w'->Q e.to a' w')->
    Code.rounds P b Q n a w
def qe (P:Program) (c:Ctx) (m:Nat) (b:Code):Prop:=∀ q kin kout,qC9 b=some q->qKt c.keeps q=some (kin,kout)->
 ∀ {R:Type} (vs:List V) (objs:List Obj) (K:Ex->List V->List Obj->Option R) (r:R),c.lp q vs objs K=some r->m<=objs.length->
   ∃ e vs' objs' n,K e vs' objs'=some r /\ qMb P c m b kin kout n vs objs e vs' objs'
def qDV (P:Program) (c:Ctx) (m:Nat):Code->Prop
 | .seq a b=>qDV P c m a /\ qDV P c m b
 | .cond _ a b=>qDV P c m a /\ qDV P c m b
 | .block _ b=>qDV P c m b
 | .loop b=>qe P c m b
 | _=>True
def qS3 (P:Program) (c:Ctx) (code:Code) (s:St) (e:Ex) (s':St):Prop:=
 ∀ {Z:List Deferred} (nm:Nm) (a:Act) (w:World),SR c Z ⟨nm,s.h,s.nx⟩ s.ρ a w->∀ (Q:Exit->Act->World->Prop),
   (∀ nm' a' w',SR c Z ⟨nm',s'.h,s'.nx⟩ s'.ρ a' w'->Onto ⟨nm,s.h,s.nx⟩ w ⟨nm',s'.h,s'.nx⟩ w'->Q e.to a' w')->code.wp P Q a w
theorem qj4 {m:Nat} {b:Code} (hl:qe P c m b) {R:Type} {s:St} {K:Ex->St->Option R} {r:R} (hE:qPe c m b s K=some r):
  ∃ e s',K e s'=some r /\ qS3 P c (.loop b) s e s':=by
 unfold qPe at hE
 split at hE<;>try cases hE
 rename_i q hq
 split at hE<;>try cases hE
 rename_i kin kout hk
 rw[qJw] at hE
 obtain⟨ks,hs,hE⟩:=qMI hE
 obtain⟨e,vs',objs',n,h1,h2⟩:=hl q kin kout hq hk _ _ _ r hE (by rw[qEw];exact hs.len)
 obtain⟨hm,h1⟩:=qg h1
 simp only[Nat.ble_eq] at hm
 rw[qg1] at h1
 refine⟨e,_,h1,fun nm a w hr Q hQ=>?_⟩
 have hrel:RelH ⟨nm,s.h,s.nx⟩ w:=hr.hp
 have sub:RelH (qx ⟨nm,s.h,s.nx⟩ ks) w:=qSk hrel hs.nodup hs.closed
 refine wp_loop_rounds n (h2 (qx ⟨nm,s.h,s.nx⟩ ks).nm a w ⟨fun t=>?_,hr.size,hr.defers,?_⟩ Q fun nm' a' w' r1 r2=>?_)
 ·rw[qEw]
  show qS (qx ⟨nm,s.h,s.nx⟩ ks) _ _
  rw[List.map_map,qdi]
  split
  ·rename_i ht
   exact qS.ren (hr.reg t) fun o ho _=>qMT (hs.vals _ (List.mem_map.2 ⟨t,ht,rfl⟩) o ho)
  ·trivial
 ·rw[qEw];exact sub
 ·rw[qEw] at r2
  obtain⟨nm2,b1,b2,b3,b4⟩:=qTZ (e:=⟨nm,s.h,s.nx⟩) hrel hs.nodup hs.lt hs.len hm r1.hp r2.fr r2.ex
  refine hQ nm2 a' w' ⟨fun t=>?_,r1.size,r1.defers,b2⟩ ⟨b3,b4⟩
  show qS _ (Rg.get (qBE kout (vs'.map (V.ren (qAC s.nx (ks.take m))))) t) _
  rw[qra (V.ren (qAC s.nx (ks.take m))) rfl]
  exact b1 _ _ (r1.reg t)
theorem qUn {m:Nat} (hm:P.follows .mixedOrders=true) (hc:CtxOK P c):∀ (code:Code),qDV P c m code->∀ {R:Type} {s:St} {K:Ex->St->Option R} {r:R},qDe c m code s K=some r->
  ∃ e s',K e s'=some r /\ qS3 P c code s e s':=by
 intro code
 induction code with
 | skip=>intro _ R s K r hE;exact⟨.normal,s,hE,fun nm a w hr Q hQ=>wp_skip (hQ nm a w hr (Onto.refl hr.hp))⟩
 | region id ops draw=>
   intro _ R s K r hE
   simp only[qDe] at hE
   rw[qJw] at hE
   obtain⟨ρ',h',nx',k1,k2⟩:=qor (id:=id) hm hc hE
   exact⟨.normal,_,k1,fun nm a w hr Q hQ=>k2 hr hQ⟩
 | seq x y ihx ihy=>
   intro hl R s K r hE
   obtain⟨e,s',k1,k2⟩:=ihx hl.1 hE
   cases e with
   | normal=>
     obtain⟨e2,s2,k3,k4⟩:=ihy hl.2 k1
     exact⟨e2,s2,k3,fun nm a w hr Q hQ=>wp_seq (k2 nm a w hr _ fun nm' a' w' r1 r2=>k4 nm' a' w' r1 Q fun nm2 a2 w2 r3 r4=>hQ nm2 a2 w2 r3 (r2.trans r4))⟩
   | exit i=>exact⟨_,s',k1,fun nm a w hr Q hQ=>wp_seq (k2 nm a w hr _ fun nm' a' w' r1 r2=>hQ nm' a' w' r1 r2)⟩
   | ret=>exact⟨_,s',k1,fun nm a w hr Q hQ=>wp_seq (k2 nm a w hr _ fun nm' a' w' r1 r2=>hQ nm' a' w' r1 r2)⟩
 | cond x y z ihx ihy=>
   intro hl R s K r hE
   simp only[qDe] at hE
   split at hE<;>try cases hE
   rename_i t
   rw[qJw] at hE
   split at hE<;>try cases hE
   rename_i v hv
   have hreg:∀ {Z:List Deferred} {nm:Nm} {a:Act} {w:World},SR c Z ⟨nm,s.h,s.nx⟩ s.ρ a w->a.eval (.tmp t)=.bool v:=by
    intro Z nm a w hr
    have:=hr.reg t
    rw[hv] at this
    exact this
   rcases qAG hE with⟨rfl,hE⟩ | ⟨rfl,hE⟩
   ·obtain⟨e,s',k1,k2⟩:=ihx hl.1 hE
    exact⟨e,s',k1,fun nm a w hr Q hQ=>wp_cond_true (hreg hr) (k2 nm a w ⟨fun u=>by show qS _ (Rg.get (_ :: _) u) _;rw[qE8 hv];exact hr.reg u,hr.size,hr.defers,hr.hp⟩ Q hQ)⟩
   ·obtain⟨e,s',k1,k2⟩:=ihy hl.2 hE
    exact⟨e,s',k1,fun nm a w hr Q hQ=>wp_cond_false (hreg hr) (k2 nm a w ⟨fun u=>by show qS _ (Rg.get (_ :: _) u) _;rw[qE8 hv];exact hr.reg u,hr.size,hr.defers,hr.hp⟩ Q hQ)⟩
 | block id x ih=>
   intro hl R s K r hE
   obtain⟨e,s',k1,k2⟩:=ih hl hE
   cases e with
   | normal=>exact⟨.normal,s',k1,fun nm a w hr Q hQ=>wp_block (k2 nm a w hr _ fun nm' a' w' r1 r2=>hQ nm' a' w' r1 r2)⟩
   | ret=>exact⟨.ret,s',k1,fun nm a w hr Q hQ=>wp_block (k2 nm a w hr _ fun nm' a' w' r1 r2=>hQ nm' a' w' r1 r2)⟩
   | exit j=>
     simp only at k1
     cases hj:Nat.beq j id with
     | true=>
       rw[hj] at k1
       have hj:=Nat.eq_of_beq_eq_true hj
       subst hj
       exact⟨.normal,s',k1,fun nm a w hr Q hQ=>wp_block (k2 nm a w hr _ fun nm' a' w' r1 r2=>by simp only[Ex.to,Exit.inBlock,if_true];exact hQ nm' a' w' r1 r2)⟩
     | false=>
       rw[hj] at k1
       have hj:j≠id:=fun h=>by subst h;simp at hj
       exact⟨.exit j,s',k1,fun nm a w hr Q hQ=>wp_block (k2 nm a w hr _ fun nm' a' w' r1 r2=>by simp only[Ex.to,Exit.inBlock,hj,if_false];exact hQ nm' a' w' r1 r2)⟩
 | loop x _=>intro hl R s K r hE;exact qj4 hl hE
 | exit j=>intro _ R s K r hE;exact⟨.exit j,s,hE,fun nm a w hr Q hQ=>wp_exit (hQ nm a w hr (Onto.refl hr.hp))⟩
 | ret=>intro _ R s K r hE;exact⟨.ret,s,hE,fun nm a w hr Q hQ=>wp_ret (hQ nm a w hr (Onto.refl hr.hp))⟩
 | _=>intro _ R s K r hE;cases hE
theorem Onto.of {m:Nat} {e0 e:Env} {w0 w:World} (hm:m=e0.nx) (h:OntoM m e0 w0 e w):Onto e0 w0 e w:=by subst hm;exact⟨h.fr,h.ex.nx,h.ex.old,h.ex.own⟩
theorem qci {m:Nat} {s s':St} {kout ks:List Nat} {nm nm':Nm} {a':Act} {w w':World} (hm:m<=s.nx) (hs:Shut m s'.h s'.nx (kout.map s'.ρ.get) ks) (r1:SR c Z ⟨nm',s'.h,s'.nx⟩ s'.ρ a' w')
  (r2:Onto ⟨nm,s.h,s.nx⟩ w ⟨nm',s'.h,s'.nx⟩ w'):
  SR c Z ⟨(qx ⟨nm',s'.h,s'.nx⟩ ks).nm,qH [] 0 (cut s'.h ks),(cut s'.h ks).length⟩ (qBE kout ((kout.map s'.ρ.get).map (V.ren fun x=>qAE x ks))) a' w' /\
   OntoM m ⟨nm,s.h,s.nx⟩ w ⟨(qx ⟨nm',s'.h,s'.nx⟩ ks).nm,qH [] 0 (cut s'.h ks),(cut s'.h ks).length⟩ w':=by
 rw[qEw]
 obtain⟨u1,u2,u3⟩:=qcj (e:=⟨nm',s'.h,s'.nx⟩) hs r1.hp (Onto.toM hm r2)
 refine⟨⟨fun t=>?_,r1.size,r1.defers,u1⟩,u2⟩
 rw[List.map_map,qdi]
 split
 ·rename_i ht
  exact u3 _ (List.mem_map.2 ⟨t,ht,rfl⟩) _ (r1.reg t)
 ·trivial
theorem qj6 {m:Nat} {kin kout:List Nat} {b:Code} (hmo:P.follows .mixedOrders=true) (hc:CtxOK P c) (hl:qDV P c m b):∀ (f:Nat) {R:Type} {vs:List V} {objs:List Obj} {K:Ex->List V->List Obj->Option R} {r:R},
  qh c m kin kout b f vs objs K=some r->m<=objs.length->∃ e vs' objs',K e vs' objs'=some r /\ qMb P c m b kin kout f vs objs e vs' objs':=by
 intro f
 induction f with
 | zero=>intro R vs objs K r hE;cases hE
 | succ f ih=>
   intro R vs objs K r hE hm
   obtain⟨e,s',k1,k2⟩:=qUn hmo hc b hl hE
   rw[qJw] at k1
   have stop:∀ e',e=e'->e'≠.normal->(qEW m s'.h s'.nx (kout.map s'.ρ.get) fun _ vs' objs'=>K e' vs' objs')=some r->∃ e vs' objs',K e vs' objs'=some r /\ qMb P c m b kin kout (f+1) vs objs e vs' objs':=by
    intro e' he hne hE
    subst he
    obtain⟨ks,hs,k3⟩:=qMI hE
    refine⟨e,_,_,k3,fun nm a w hr Q hQ=>?_⟩
    rw[rounds_succ]
    refine k2 nm a w hr _ fun nm' a' w' r1 r2=>?_
    obtain⟨x1,x2⟩:=qci (s:=⟨qBE kin vs,qH [] 0 objs,objs.length⟩) hm hs r1 r2
    have:=hQ _ a' w' x1 x2
    cases e<;>first | exact absurd rfl hne | exact this
   cases e with
   | exit i=>exact stop _ rfl (by simp) k1
   | ret=>exact stop _ rfl (by simp) k1
   | normal=>
     obtain⟨ks,hs,k3⟩:=qMI k1
     obtain⟨e2,vs2,objs2,k4,k5⟩:=ih k3 (by rw[qEw];exact hs.len)
     refine⟨e2,vs2,objs2,k4,fun nm a w hr Q hQ=>?_⟩
     rw[rounds_succ]
     refine k2 nm a w hr _ fun nm' a' w' r1 r2=>?_
     obtain⟨x1,x2⟩:=qci (s:=⟨qBE kin vs,qH [] 0 objs,objs.length⟩) hm hs r1 r2
     exact k5 _ a' w' x1 Q fun nm2 a2 w2 r3 r4=>hQ nm2 a2 w2 r3 (OntoM.trans x2 r4)
theorem qos (hc:CtxOK P c) {s:St} {nm:Nm} {a:Act} {w:World} (hr:SR c Z ⟨nm,s.h,s.nx⟩ s.ρ a w):∀ {l:List ResultVar} {ws:List W},qGW c s l=some ws->
  ∃ vs:List Value,(l.mapM (m:=Sem) fun
    | .tmp t=>pure (a.tmps.getD t undef)
    | .cell x t=>do loadVar t (<- asAddr (a.tmps.getD x undef))).run P w=.ok vs w /\ qB (qCY ⟨nm,s.h,s.nx⟩) ws vs:=by
 intro l
 induction l with
 | nil=>intro ws h;cases h;exact⟨[],rfl,trivial⟩
 | cons x l ih=>
   intro ws h
   cases x with
   | tmp t=>
     simp only[qGW] at h
     split at h<;>cases h
     rename_i y ys hy hys
     obtain⟨vs,h1,h2⟩:=ih hys
     refine⟨a.tmps.getD t undef :: vs,?_,(hr.reg t).w hy,h2⟩
     simp only[List.mapM_cons,Sem.run_bind,Sem.run_pure,Result.andThen_ok,h1]
   | cell x t=>
     simp only[qGW] at h
     split at h<;>try cases h
     rename_i ob sg row col hx
     split at h<;>try cases h
     rename_i T g L hob hL
     split at h<;>try cases h
     rename_i v hv
     split at h<;>cases h
     rename_i y ys hy hys
     obtain⟨vs,h1,h2⟩:=ih hys
     have hp:=hr.reg x
     rw[hx] at hp
     obtain⟨b,arr,_,c2,c3,c4,c5,c6⟩:=qP9 (e:=⟨nm,s.h,s.nx⟩) hr.hp hp (.inl hob)
     have hld:=qHa hv c4 c5
     have hlen:(sub arr.toList (qX (qU g) sg row col) L.size).length=L.size:=by
      have:=qB.length c3
      have:=hld.len
      simp[sub];simp at *;omega
     have hrun:=qJN (P:=P) (w:=w) (b:=b) (off:=qX (qU g) sg row col) (hc.tab t L hL) hlen fun j u hu=>by
      obtain⟨g1,_⟩:=qJp hu
      simp only[World.cell?,c2]
      simpa using g1
     have hrel:=qHb (e:=⟨nm,s.h,s.nx⟩) hld (qB.take _ (qB.drop _ c3))
     refine⟨_ :: vs,?_,qS.w hrel hy,h2⟩
     have ha:(asAddr (a.tmps.getD x undef)).run P w=.ok ⟨b,qX (qU g) sg row col,none⟩ w:=by rw[c6];rfl
     simp only[List.mapM_cons,Sem.run_bind,ha,Sem.run_pure,Result.andThen_ok,hrun,h1]
     rfl
theorem qlW {e:Env} {ws:List W} {vs:List Value} (h:qB (qCY e) ws vs):qS e (one? ws) (if h:vs.toArray.size=1 then vs.toArray[0] else .tuple vs.toArray):=by
 match ws,vs,h with
 | [],[],_=>exact⟨#[],rfl,trivial⟩
 | [w],[v],h=>exact h.1.v
 | w :: w2 :: ws,v :: v2 :: vs,h=>simp only[one?];rw[dif_neg (by simp)];exact⟨_,rfl,h⟩
 | [],_ :: _,h=>exact h.elim
 | _ :: _,[],h=>exact h.elim
 | [_],_ :: _ :: _,h=>exact h.2.elim
 | _ :: _ :: _,[_],h=>exact h.2.elim
theorem qhI {f:FuncId} {fn:Func} {b:Code} {args:List V} {objs:List Obj} {R:Type} {K:V->List Obj->Option R} {r:R} (hmo:P.follows .mixedOrders=true) (hc:CtxOK P c)
  (hf : P.funcs[f]? = some fn) (hb : fn.body = some b) (hname : (fn.name == "runtime.NumGoroutine") = false) (hl : qDV P c objs.length b) (hE : fnE c fn args objs K = some r) :
  ∃ v objs',K v objs'=some r /\ qD8 P f args objs v objs':=by
 unfold fnE at hE
 rw[hb] at hE
 obtain⟨hn,hE⟩:=qg hE
 simp only[Bool.and_eq_true,Nat.beq_eq,Nat.ble_eq] at hn
 obtain⟨hn1,hn2⟩:=hn
 obtain⟨e,s',k1,k2⟩:=qUn hmo hc b hl hE
 rw[qJw] at k1
 have main:∀ l,(e=.normal \/ e=.ret)->qGW c s' fn.results.toList=some l->(qEW objs.length s'.h s'.nx [one? l] fun _ vs objs'=>match vs with
   | [v]=>K v objs'
   | _=>none)=some r->∃ v objs',K v objs'=some r /\ qD8 P f args objs v objs':=by
  intro l he hres hE
  obtain⟨ks,hs,k3⟩:=qMI hE
  refine⟨_,_,k3,⟨fn,hf,hname,by rw[hb];rfl⟩,fun nm w as hargs hh=>?_⟩
  have hlen:=qB.length hargs
  simp only[Array.length_toList] at hlen
  have W:b.wp P (bodyPost P fn fun en w'=>∃ vr nm',en=.returned vr /\ qS ⟨nm',qH [] 0 (cut s'.h ks),(cut s'.h ks).length⟩ ((one? l).ren fun x=>qAE x ks) vr /\ RelH ⟨nm',qH [] 0 (cut s'.h ks),(cut s'.h ks).length⟩ w' /\ Frame' ⟨nm,qH [] 0 objs,objs.length⟩ w w' /\ Ext ⟨nm,qH [] 0 objs,objs.length⟩ ⟨nm',qH [] 0 (cut s'.h ks),(cut s'.h ks).length⟩ w) { tmps:=as++Array.replicate (fn.ntmps - as.size) undef,defers:=[] } w:=?W
  ·exact⟨calls_of_wp hf hb W,fun _ u=>callsD_of_wp hf hb W⟩
  refine k2 nm _ w ⟨fun t=>?_,?_,rfl,hh⟩ _ fun nm' a' w' r1 r2=>?_
  ·-- the arguments
   have hz:∀ (n:Nat) (l:List V),Rg.get (qBE (qBw n l.length) l) t=if n<=t then (l[t - n]?).getD (.s .bad) else .s .bad:=by
    intro n l
    induction l generalizing n with
    | nil=>simp[qBw,qBE,Rg.get]
    | cons x l ih=>
      simp only[List.length_cons,qBw,qBE,qDA,ih]
      by_cases h1:n=t
      ·subst h1;simp
      ·rw[if_neg h1]
       by_cases h2:n+1<=t
       ·rw[if_pos h2,if_pos (by omega),show t - n=t - (n+1)+1 by omega];simp
       ·rw[if_neg h2,if_neg (by omega)]
   show qS _ (Rg.get (qBE (qBw 0 args.length) args) t) _
   rw[hz 0 args]
   simp only[Nat.zero_le,if_true,Nat.sub_zero]
   cases hv:args[t]? with
   | none=>trivial
   | some v=>
     obtain⟨u,hu,hru⟩:=qB.get t hargs hv
     have hu':as[t]? = some u:=by simpa using hu
     have hlt:t<as.size:=(Array.getElem?_eq_some_iff.1 hu').1
     simp only[Option.getD_some,Array.getD_eq_getD_getElem?]
     rw[Array.getElem?_append_left hlt,hu']
     exact hru
  ·simp only[Array.size_append,Array.size_replicate];omega
  ·obtain⟨u1,u2,u3⟩:=qcj (e0:=⟨nm,qH [] 0 objs,objs.length⟩) (e:=⟨nm',s'.h,s'.nx⟩) hs r1.hp (Onto.toM (Nat.le_refl _) r2)
   obtain⟨vs,v1,v2⟩:=qos hc r1 hres
   have hrun:(results fn a'.tmps).run P w'=.ok (if h:vs.toArray.size=1 then vs.toArray[0] else .tuple vs.toArray) w':=by
    have hm:(fn.results.mapM (m:=Sem) fun
      | .tmp t=>pure (a'.tmps.getD t undef)
      | .cell x t=>do loadVar t (<- asAddr (a'.tmps.getD x undef))).run P w'=.ok vs.toArray w':=by
     rw[Array.mapM_eq_mapM_toList,map_eq_pure_bind,Sem.run_bind,v1]
     rfl
    unfold results
    rw[Sem.run_bind]
    exact congrArg (fun z=>Result.andThen z fun a w'=>(pure (if h:a.size=1 then a[0] else Value.tuple a):Sem Value).run P w') hm
   have u4:=Onto.of (show objs.length=_ from rfl) u2
   have fin:a'.defers=[] /\ ∃ v,(results fn a'.tmps).run P w'=.ok v w' /\ ∃ vr nm',Ending.returned v=.returned vr /\ qS ⟨nm',qH [] 0 (cut s'.h ks),(cut s'.h ks).length⟩ ((one? l).ren fun x=>qAE x ks) vr /\
     RelH ⟨nm',qH [] 0 (cut s'.h ks),(cut s'.h ks).length⟩ w' /\ Frame' ⟨nm,qH [] 0 objs,objs.length⟩ w w' /\ Ext ⟨nm,qH [] 0 objs,objs.length⟩ ⟨nm',qH [] 0 (cut s'.h ks),(cut s'.h ks).length⟩ w:=by
    rw[qEw]
    exact⟨r1.defers,_,hrun,_,(qx ⟨nm',s'.h,s'.nx⟩ ks).nm,rfl,u3 _ (by simp) _ (qlW v2),u1,u4.fr,u4.ex⟩
   rcases he with rfl | rfl<;>exact fin
 cases e with
 | exit i=>cases k1
 | normal=>
   simp only at k1
   split at k1<;>try cases k1
   rename_i l hres
   exact main l (.inl rfl) hres k1
 | ret=>
   simp only at k1
   split at k1<;>try cases k1
   rename_i l hres
   exact main l (.inr rfl) hres k1
theorem qVY {f:FuncId} {fn:Func} {b:Code} {args:List V} {objs:List Obj} {R:Type} {K:V->List Obj->Option R} {r:R} (hmo:P.follows .mixedOrders=true) (hc:CtxOK P c)
  (hf : P.funcs[f]? = some fn) (hb : fn.body = some b) (hname : (fn.name == "runtime.NumGoroutine") = false) (hl : qDV P c objs.length b) (hE : fnE c fn args objs K = some r) :
  ∃ v objs',K v objs'=some r /\ qD8 P f args objs v objs':=qhI hmo hc hf hb hname hl hE
end
end Go.Kk
