/-
 Code, loops, functions.
-/
import Derived.Test.YtcilcokdgpnkmaaGreatDoorKkF
import Derived.LoopN
import Derived.Laws.Sem
namespace Go.Kk
def Ex.to:Ex->Exit
 | .normal=>.normal
 | .exit i=>.exit i
 | .ret=>.ret
theorem qTU (ts:List Nat) (f:Nat->V) (t:Nat):Rg.get (qAa ts (ts.map f)) t=if t∈ts then f t else .s .bad:=by
 induction ts with
 | nil=>rfl
 | cons u ts ih=>
   rw[List.map_cons,qAa,qDt,ih]
   by_cases h:u=t
   ·subst h;simp
   ·have:t≠u:=fun e=>h e.symm
    simp[h,this]
theorem qfd (g:V->V) (hg:g (.s .bad)=.s .bad) (t:Nat):∀ (ts:List Nat) (vs:List V),Rg.get (qAa ts (vs.map g)) t=g (Rg.get (qAa ts vs) t):=by
 intro ts
 induction ts with
 | nil=>intro vs;cases vs<;>exact hg.symm
 | cons u ts ih=>
   intro vs
   cases vs with
   | nil=>exact hg.symm
   | cons v vs=>
     rw[List.map_cons,qAa,qAa,qDt,qDt,ih]
     split<;>rfl
theorem qnt (a n i:Nat):(qAs a n)[i]? = if i<n then some (a+i) else none:=by
 induction n generalizing a i with
 | zero=>simp[qAs]
 | succ n ih=>
   cases i with
   | zero=>simp[qAs]
   | succ i=>
     simp only[qAs,List.getElem?_cons_succ,ih]
     by_cases h:i<n
     ·simp[h];omega
     ·simp[h]
theorem qQe (a n:Nat):(qAs a n).length=n:=by
 induction n generalizing a with
 | zero=>rfl
 | succ n ih=>simp[qAs,ih]
theorem qZn (h:Hp):∀ (f:Nat) (acc l:List Nat),∃ m,qBX h f acc l=acc++m:=by
 intro f
 induction f with
 | zero=>intro acc l;exact⟨[],by simp[qBX]⟩
 | succ f ih=>
   intro acc l
   cases l with
   | nil=>exact⟨[],by simp[qBX]⟩
   | cons o t=>
     simp only[qBX]
     cases qCM o acc with
     | true=>exact ih acc t
     | false=>
       obtain⟨m,hm⟩:=ih (acc++[o]) (t++(h.get o).refs)
       exact⟨o :: m,by simp only[cond_false];rw[hm];simp⟩
structure Shut (m:Nat) (h:Hp) (nx:Nat) (vs:List V) (ks:List Nat):Prop where
 nodup:ks.Nodup
 lt:∀ o∈ks,o<nx
 vals:∀ v∈vs,∀ o∈v.refs,o∈ks
 closed:∀ o∈ks,∀ r∈(Hp.get h o).refs,r∈ks
 first:∀ i,i<m->ks[i]? = some i
 len:m<=ks.length
theorem qKg {m:Nat} {h:Hp} {nx:Nat} {vs:List V} {R:Type} {K:List Nat->List V->List Obj->Option R} {r:R} (hE:qEF m h nx vs K=some r):
  ∃ ks,Shut m h nx vs ks /\ K ks (vs.map (V.ren fun x=>qz x ks)) (cut h ks)=some r:=by
 unfold qEF at hE
 simp only[qEY,qJm,qJo] at hE
 obtain⟨hb,hE⟩:=qV hE
 refine⟨_,?_,hE⟩
 simp only[Bool.and_eq_true,List.all_eq_true,Nat.blt_eq] at hb
 obtain⟨⟨⟨b1,b2⟩,b3⟩,b4⟩:=hb
 obtain⟨t,ht⟩:=qZn h 64 (qAs 0 m) ((qAs 0 m).flatMap (fun o=>(h.get o).refs)++vs.flatMap V.refs)
 refine⟨qLz.1 b1,b2,fun v hv o ho=>qFY.1 b3 o (List.mem_flatMap.2 ⟨v,hv,ho⟩),fun o ho r hr=>qFY.1 (b4 o ho) r hr,fun i hi=>?_,?_⟩
 ·rw[ht,List.getElem?_append_left (by rw[qQe];exact hi),qnt,if_pos hi,Nat.zero_add]
 ·rw[ht,List.length_append,qQe];omega
structure OntoM (m:Nat) (e0:Env) (w0:World) (e:Env) (w:World):Prop where
 fr:Frame' e0 w0 w
 ex:ExtM m e0 e w0
theorem Shut.idx {m:Nat} {h:Hp} {nx:Nat} {vs:List V} {ks:List Nat} (hs:Shut m h nx vs ks) {o i:Nat} (hi:ks[i]? = some o) (hm:m<=i):m<=o:=by
 rcases Nat.lt_or_ge o m with h' | h'
 ·have h1:=hs.first o h'
  have h2:=qPW hs.nodup h1
  have h3:=qPW hs.nodup hi
  omega
 ·exact h'
theorem qSe {m:Nat} {e0 e:Env} {w0 w:World} {vs:List V} {ks:List Nat} (hs:Shut m e.h e.nx vs ks) (hr:RelH e w) (ho:OntoM m e0 w0 e w):
  RelH (qm e ks) w /\ OntoM m e0 w0 (qm e ks) w /\ ∀ v∈vs,∀ vr,qP e v vr->qP (qm e ks) (v.ren fun x=>qz x ks) vr:=by
 refine⟨qKl hr hs.nodup hs.closed,⟨ho.fr,⟨hs.len,fun o hom=>?_,fun o b hom hd hb=>?_⟩⟩,fun v hv vr hr=>qP.ren hr fun o ho _=>qJB (hs.vals v hv o ho)⟩
 ·have hg:=hs.first o hom
  obtain⟨x1,x2,x3⟩:=ho.ex.old o hom
  rw[qCS hg,qBv hg,qBP,qB3]
  exact⟨x1,x2,x3⟩
 ·rcases Nat.lt_or_ge o ks.length with h | h
  ·have hg:ks[o]? = some ks[o]:=List.getElem?_eq_getElem h
   rw[qBv hg,qBP] at hd
   simp only[blk,qCS hg] at hb
   have:=ho.ex.own ks[o] b (hs.idx hg hom) hd hb
   rw[qBv hg,qB3]
   exact this
  ·rw[qE8 h] at hd;exact absurd rfl hd
theorem OntoM.trans {m:Nat} {e0 e1 e2:Env} {w0 w1 w2:World} (a:OntoM m e0 w0 e1 w1) (b:OntoM m e1 w1 e2 w2):OntoM m e0 w0 e2 w2:=by
 have own1:∀ o b,(e1.h.get o).shape≠.dead->blk e1.nm o=some b->w0.heap.size<=b \/ ∃ o',(e0.h.get o').shape≠.dead /\ blk e0.nm o'=some b /\ ((e1.h.get o).owned=true->(e0.h.get o').owned=true):=by
  intro o b' ho hb
  rcases Nat.lt_or_ge o m with h | h
  ·obtain⟨x1,x2,x3⟩:=a.ex.old o h
   refine .inr ⟨o,?_,by simp only[blk] at hb ⊢;rw[<- x1];exact hb,x3⟩
   rcases x2 with x2 | x2
   ·rwa [<- x2]
   ·exact absurd x2 ho
  ·exact a.ex.own o b' h ho hb
 refine⟨⟨b.fr.os.trans a.fr.os,b.fr.tape.trans a.fr.tape,b.fr.output.trans a.fr.output,Nat.le_trans a.fr.size b.fr.size,fun k hk hno=>?_⟩,⟨b.ex.nx,fun o ho=>?_,fun o b' ho hd hb=>?_⟩⟩
 ·rw[b.fr.block k (Nat.lt_of_lt_of_le hk a.fr.size) fun o ho hb=>?_]
  ·exact a.fr.block k hk hno
  ·rcases own1 o k (qCi ho) hb with h | ⟨o',_,h2,h3⟩
   ·omega
   ·exact hno o' (h3 ho) h2
 ·obtain⟨x1,x2,x3⟩:=a.ex.old o ho
  obtain⟨y1,y2,y3⟩:=b.ex.old o ho
  refine⟨y1.trans x1,?_,fun h=>x3 (y3 h)⟩
  rcases y2 with y2 | y2
  ·rw[y2];exact x2
  ·exact .inr y2
 ·rcases b.ex.own o b' ho hd hb with h1 | ⟨o',h1,h2,h3⟩
  ·exact .inl (Nat.le_trans a.fr.size h1)
  ·rcases own1 o' b' h1 h2 with h4 | ⟨o'',h4,h5,h6⟩
   ·exact .inl h4
   ·exact .inr ⟨o'',h4,h5,fun h=>h6 (h3 h)⟩
theorem Onto.toM {m:Nat} {e0 e:Env} {w0 w:World} (hm:m<=e0.nx) (h:Onto e0 w0 e w):OntoM m e0 w0 e w:=by
 refine⟨h.fr,⟨Nat.le_trans hm h.ex.nx,fun o ho=>h.ex.old o (Nat.lt_of_lt_of_le ho hm),fun o b ho hd hb=>?_⟩⟩
 rcases Nat.lt_or_ge o e0.nx with h' | h'
 ·obtain⟨x1,x2,x3⟩:=h.ex.old o h'
  refine .inr ⟨o,?_,by simp only[blk] at hb ⊢;rw[<- x1];exact hb,x3⟩
  rcases x2 with x2 | x2
  ·rwa [<- x2]
  ·exact absurd x2 hd
 ·exact h.ex.own o b h' hd hb
section
variable {P:Program} {c:Ctx} {Z:List Deferred}
def qNb (P:Program) (c:Ctx) (m:Nat) (b:Code) (kin kout:List Nat) (n:Nat) (vs:List V) (objs:List Obj) (e:Ex) (vs':List V) (objs':List Obj):Prop:=
 ∀ {Z:List Deferred} (nm:Nm) (a:Act) (w:World),SR c Z ⟨nm,qJ [] 0 objs,objs.length⟩ (qAa kin vs) a w->∀ (Q:Exit->Act->World->Prop),
   (∀ nm' a' w',SR c Z ⟨nm',qJ [] 0 objs',objs'.length⟩ (qAa kout vs') a' w'->OntoM m ⟨nm,qJ [] 0 objs,objs.length⟩ w ⟨nm',qJ [] 0 objs',objs'.length⟩ w'->Q e.to a' w')->
    Code.rounds P b Q n a w
def qg (P:Program) (c:Ctx) (m:Nat) (b:Code):Prop:=∀ q kin kout,qDL b=some q->qIC c.keeps q=some (kin,kout)->
 ∀ {R:Type} (vs:List V) (objs:List Obj) (K:Ex->List V->List Obj->Option R) (r:R),c.lp q vs objs K=some r->m<=objs.length->
   ∃ e vs' objs' n,K e vs' objs'=some r /\ qNb P c m b kin kout n vs objs e vs' objs'
def qCV (P:Program) (c:Ctx) (m:Nat):Code->Prop
 | .seq a b=>qCV P c m a /\ qCV P c m b
 | .cond _ a b=>qCV P c m a /\ qCV P c m b
 | .block _ b=>qCV P c m b
 | .loop b=>qg P c m b
 | _=>True
def qTW (P:Program) (c:Ctx) (code:Code) (s:St) (e:Ex) (s':St):Prop:=
 ∀ {Z:List Deferred} (nm:Nm) (a:Act) (w:World),SR c Z ⟨nm,s.h,s.nx⟩ s.ρ a w->∀ (Q:Exit->Act->World->Prop),
   (∀ nm' a' w',SR c Z ⟨nm',s'.h,s'.nx⟩ s'.ρ a' w'->Onto ⟨nm,s.h,s.nx⟩ w ⟨nm',s'.h,s'.nx⟩ w'->Q e.to a' w')->code.wp P Q a w
theorem qdt (mv:List Nat) (nx:Nat):∀ l,(qNF mv nx l).length=l.length
 | []=>rfl
 | _ :: r=>by simp[qNF,qdt mv nx r]
theorem qr8 {ms:List Nat} {h:Hp} {nx:Nat} {vs:List V} {R:Type} {K:List Nat->List V->List Obj->Option R} {r:R} (hE:qSd ms h nx vs K=some r):
  ∃ ks,(ks.Nodup /\ (∀ o∈ks,o<nx) /\ (∀ v∈vs,∀ o∈v.refs,o∈ks) /\ (∀ o∈ks,∀ r∈(Hp.get h o).refs,r∈ks) /\ ms.length<=ks.length) /\ K ks (vs.map (V.ren fun x=>qz x ks)) (cut h ks)=some r:=by
 unfold qSd at hE
 simp only[qEY,qJm,qJo] at hE
 obtain⟨hb,hE⟩:=qV hE
 refine⟨_,?_,hE⟩
 simp only[Bool.and_eq_true,List.all_eq_true,Nat.blt_eq] at hb
 obtain⟨⟨⟨b1,b2⟩,b3⟩,b4⟩:=hb
 obtain⟨t,ht⟩:=qZn h 64 ms (ms.flatMap (fun o=>(h.get o).refs)++vs.flatMap V.refs)
 refine⟨qLz.1 b1,b2,fun v hv o ho=>qFY.1 b3 o (List.mem_flatMap.2 ⟨v,hv,ho⟩),fun o ho r hr=>qFY.1 (b4 o ho) r hr,?_⟩
 rw[ht,List.length_append];omega
theorem RelH.bump {nm:Nm} {h:Hp} {nx nx':Nat} {w:World} (hh:RelH ⟨nm,h,nx⟩ w) (hle:nx<=nx'):RelH ⟨nm,h,nx'⟩ w:=by
 have hsm:∀ q,q<nx->qA3 ⟨nm,h,nx⟩ ⟨nm,h,nx'⟩ id q:=fun q hq=>⟨Nat.lt_of_lt_of_le hq hle,.inr ⟨rfl,rfl⟩⟩
 refine⟨fun q=>?_,fun q hq=>hh.new q (Nat.le_trans hle hq),hh.apart,hh.fix.sub fun q hq=>⟨q,hq,rfl⟩⟩
 refine qS.ren (g:=id) (hh.obj q) ?_ rfl fun r _ hr=>hsm r hr
 show h.get q=(h.get q).ren id
 cases h.get q<;>simp[Obj.ren,qCO]
theorem SR.bump {nm:Nm} {h:Hp} {nx nx':Nat} {ρ:Rg} {a:Act} {w:World} (hr:SR c Z ⟨nm,h,nx⟩ ρ a w) (hle:nx<=nx'):SR c Z ⟨nm,h,nx'⟩ ρ a w:=by
 refine⟨fun t=>?_,hr.size,hr.defers,hr.hp.bump hle⟩
 have:=qP.ren (g:=id) (e2:=⟨nm,h,nx'⟩) (hr.reg t) fun o _ ho=>⟨Nat.lt_of_lt_of_le ho hle,.inr ⟨rfl,rfl⟩⟩
 rwa [V.ren_id] at this
theorem Onto.unbump {nm:Nm} {h:Hp} {nx nx':Nat} {w w':World} {e':Env} (hh:RelH ⟨nm,h,nx⟩ w) (hle:nx<=nx') (ho:Onto ⟨nm,h,nx'⟩ w e' w'):Onto ⟨nm,h,nx⟩ w e' w':=by
 refine⟨⟨ho.fr.os,ho.fr.tape,ho.fr.output,ho.fr.size,ho.fr.block⟩,Nat.le_trans hle ho.ex.nx,fun o hlt=>ho.ex.old o (Nat.lt_of_lt_of_le hlt hle),fun o b hge hd hb=>?_⟩
 rcases Nat.lt_or_ge o nx' with h1 | h1
 ·obtain⟨_,x2,_⟩:=ho.ex.old o h1
  have h0:h.get o=.dead:=hh.new o hge
  rcases x2 with x2 | x2
  ·rw[x2] at hd
   exact absurd (by show (h.get o).shape=_;rw[h0];rfl) hd
  ·exact absurd x2 hd
 ·exact ho.ex.own o b h1 hd hb
theorem qlY {m:Nat} {b:Code} (hl:qg P c m b) {R:Type} {s:St} {K:Ex->St->Option R} {r:R} (hE:qQC c m b s K=some r):
  ∃ e s',K e s'=some r /\ qTW P c (.loop b) s e s':=by
 unfold qQC at hE
 split at hE<;>try cases hE
 rename_i q hq
 split at hE<;>try cases hE
 rename_i kin kout hk
 split at hE
 case h_2 i mv _=>
  rw[qGU,qCd,qEY] at hE
  obtain⟨ks,⟨g1,g2,g3,g4,g5⟩,hE⟩:=qr8 hE
  rw[qdt,qQe] at g5
  obtain⟨e,vs',objs',n,h1,h2⟩:=hl q kin kout hq hk _ _ _ r hE (by rw[qCF];exact g5)
  obtain⟨hm,h1⟩:=qV h1
  simp only[Nat.ble_eq] at hm
  rw[qWI] at h1
  refine⟨e,_,h1,fun nm a w hr0 Q hQ=>?_⟩
  have hr:=hr0.bump (Nat.le_add_right s.nx m)
  have hrel:RelH ⟨nm,s.h,s.nx+m⟩ w:=hr.hp
  have sub:RelH (qm ⟨nm,s.h,s.nx+m⟩ ks) w:=qKl hrel g1 g4
  refine wp_loop_rounds n (h2 (qm ⟨nm,s.h,s.nx+m⟩ ks).nm a w ⟨fun t=>?_,hr.size,hr.defers,?_⟩ Q fun nm' a' w' r1 r2=>?_)
  ·rw[qCF]
   show qP (qm ⟨nm,s.h,s.nx+m⟩ ks) _ _
   rw[List.map_map,qTU]
   split
   ·rename_i ht
    exact qP.ren (hr.reg t) fun o ho _=>qJB (g3 _ (List.mem_map.2 ⟨t,ht,rfl⟩) o ho)
   ·trivial
  ·rw[qCF];exact sub
  ·rw[qCF] at r2
   obtain⟨nm2,b1,b2,b3,b4⟩:=qNv (e:=⟨nm,s.h,s.nx+m⟩) hrel g1 g2 g5 hm r1.hp r2.fr r2.ex
   refine hQ nm2 a' w' ⟨fun t=>?_,r1.size,r1.defers,b2⟩ (Onto.unbump hr0.hp (Nat.le_add_right s.nx m) ⟨b3,b4⟩)
   show qP _ (Rg.get (qAa kout (vs'.map (V.ren (qAA (s.nx+m) (ks.take m))))) t) _
   rw[qfd (V.ren (qAA (s.nx+m) (ks.take m))) rfl]
   exact b1 _ _ (r1.reg t)
 rw[qGU] at hE
 obtain⟨ks,hs,hE⟩:=qKg hE
 obtain⟨e,vs',objs',n,h1,h2⟩:=hl q kin kout hq hk _ _ _ r hE (by rw[qCF];exact hs.len)
 obtain⟨hm,h1⟩:=qV h1
 simp only[Nat.ble_eq] at hm
 rw[qWI] at h1
 refine⟨e,_,h1,fun nm a w hr Q hQ=>?_⟩
 have hrel:RelH ⟨nm,s.h,s.nx⟩ w:=hr.hp
 have sub:RelH (qm ⟨nm,s.h,s.nx⟩ ks) w:=qKl hrel hs.nodup hs.closed
 refine wp_loop_rounds n (h2 (qm ⟨nm,s.h,s.nx⟩ ks).nm a w ⟨fun t=>?_,hr.size,hr.defers,?_⟩ Q fun nm' a' w' r1 r2=>?_)
 ·rw[qCF]
  show qP (qm ⟨nm,s.h,s.nx⟩ ks) _ _
  rw[List.map_map,qTU]
  split
  ·rename_i ht
   exact qP.ren (hr.reg t) fun o ho _=>qJB (hs.vals _ (List.mem_map.2 ⟨t,ht,rfl⟩) o ho)
  ·trivial
 ·rw[qCF];exact sub
 ·rw[qCF] at r2
  obtain⟨nm2,b1,b2,b3,b4⟩:=qNv (e:=⟨nm,s.h,s.nx⟩) hrel hs.nodup hs.lt hs.len hm r1.hp r2.fr r2.ex
  refine hQ nm2 a' w' ⟨fun t=>?_,r1.size,r1.defers,b2⟩ ⟨b3,b4⟩
  show qP _ (Rg.get (qAa kout (vs'.map (V.ren (qAA s.nx (ks.take m))))) t) _
  rw[qfd (V.ren (qAA s.nx (ks.take m))) rfl]
  exact b1 _ _ (r1.reg t)
theorem qJi {m:Nat} (hm:P.follows .mixedOrders=true) (hc:CtxOK P c):∀ (code:Code),qCV P c m code->∀ {R:Type} {s:St} {K:Ex->St->Option R} {r:R},qCE c m code s K=some r->
  ∃ e s',K e s'=some r /\ qTW P c code s e s':=by
 intro code
 induction code with
 | skip=>intro _ R s K r hE;exact⟨.normal,s,hE,fun nm a w hr Q hQ=>wp_skip (hQ nm a w hr (Onto.refl hr.hp))⟩
 | region id ops draw=>
   intro _ R s K r hE
   simp only[qCE] at hE
   rw[qGU] at hE
   obtain⟨ρ',h',nx',k1,k2⟩:=qqO (id:=id) hm hc hE
   exact⟨.normal,_,k1,fun nm a w hr Q hQ=>k2 hr hQ⟩
 | seq x y ihx ihy=>
   intro hl R s K r hE
   obtain⟨e,s',k1,k2⟩:=ihx hl.1 hE
   cases e with
   | normal=>
     obtain⟨e2,s2,k3,k4⟩:=ihy hl.2 k1
     exact⟨e2,s2,k3,fun nm a w hr Q hQ=>wp_seq (k2 nm a w hr _ fun nm' a' w' r1 r2=>k4 nm' a' w' r1 Q fun nm2 a2 w2 r3 r4=>hQ nm2 a2 w2 r3 (r2.trans r4))⟩
   | exit i=>exact⟨_,s',k1,fun nm a w hr Q hQ=>wp_seq (k2 nm a w hr _ fun nm' a' w' r1 r2=>hQ nm' a' w' r1 r2)⟩
   | ret=>exact⟨_,s',k1,fun nm a w hr Q hQ=>wp_seq (k2 nm a w hr _ fun nm' a' w' r1 r2=>hQ nm' a' w' r1 r2)⟩
 | cond x y z ihx ihy=>
   intro hl R s K r hE
   simp only[qCE] at hE
   split at hE<;>try cases hE
   rename_i t
   rw[qGU] at hE
   split at hE<;>try cases hE
   rename_i v hv
   have hreg:∀ {Z:List Deferred} {nm:Nm} {a:Act} {w:World},SR c Z ⟨nm,s.h,s.nx⟩ s.ρ a w->a.eval (.tmp t)=.bool v:=by
    intro Z nm a w hr
    have:=hr.reg t
    rw[hv] at this
    exact this
   rcases qAK hE with⟨rfl,hE⟩ | ⟨rfl,hE⟩
   ·obtain⟨e,s',k1,k2⟩:=ihx hl.1 hE
    exact⟨e,s',k1,fun nm a w hr Q hQ=>wp_cond_true (hreg hr) (k2 nm a w ⟨fun u=>by show qP _ (Rg.get (_ :: _) u) _;rw[qFh hv];exact hr.reg u,hr.size,hr.defers,hr.hp⟩ Q hQ)⟩
   ·obtain⟨e,s',k1,k2⟩:=ihy hl.2 hE
    exact⟨e,s',k1,fun nm a w hr Q hQ=>wp_cond_false (hreg hr) (k2 nm a w ⟨fun u=>by show qP _ (Rg.get (_ :: _) u) _;rw[qFh hv];exact hr.reg u,hr.size,hr.defers,hr.hp⟩ Q hQ)⟩
 | block id x ih=>
   intro hl R s K r hE
   obtain⟨e,s',k1,k2⟩:=ih hl hE
   cases e with
   | normal=>exact⟨.normal,s',k1,fun nm a w hr Q hQ=>wp_block (k2 nm a w hr _ fun nm' a' w' r1 r2=>hQ nm' a' w' r1 r2)⟩
   | ret=>exact⟨.ret,s',k1,fun nm a w hr Q hQ=>wp_block (k2 nm a w hr _ fun nm' a' w' r1 r2=>hQ nm' a' w' r1 r2)⟩
   | exit j=>
     simp only at k1
     cases hj:Nat.beq j id with
     | true=>
       rw[hj] at k1
       have hj:=Nat.eq_of_beq_eq_true hj
       subst hj
       exact⟨.normal,s',k1,fun nm a w hr Q hQ=>wp_block (k2 nm a w hr _ fun nm' a' w' r1 r2=>by simp only[Ex.to,Exit.inBlock,if_true];exact hQ nm' a' w' r1 r2)⟩
     | false=>
       rw[hj] at k1
       have hj:j≠id:=fun h=>by subst h;simp at hj
       exact⟨.exit j,s',k1,fun nm a w hr Q hQ=>wp_block (k2 nm a w hr _ fun nm' a' w' r1 r2=>by simp only[Ex.to,Exit.inBlock,hj,if_false];exact hQ nm' a' w' r1 r2)⟩
 | loop x _=>intro hl R s K r hE;exact qlY hl hE
 | exit j=>intro _ R s K r hE;exact⟨.exit j,s,hE,fun nm a w hr Q hQ=>wp_exit (hQ nm a w hr (Onto.refl hr.hp))⟩
 | ret=>intro _ R s K r hE;exact⟨.ret,s,hE,fun nm a w hr Q hQ=>wp_ret (hQ nm a w hr (Onto.refl hr.hp))⟩
 | _=>intro _ R s K r hE;cases hE
theorem Onto.of {m:Nat} {e0 e:Env} {w0 w:World} (hm:m=e0.nx) (h:OntoM m e0 w0 e w):Onto e0 w0 e w:=by subst hm;exact⟨h.fr,h.ex.nx,h.ex.old,h.ex.own⟩
theorem qdj {m:Nat} {s s':St} {kout ks:List Nat} {nm nm':Nm} {a':Act} {w w':World} (hm:m<=s.nx) (hs:Shut m s'.h s'.nx (kout.map s'.ρ.get) ks) (r1:SR c Z ⟨nm',s'.h,s'.nx⟩ s'.ρ a' w')
  (r2:Onto ⟨nm,s.h,s.nx⟩ w ⟨nm',s'.h,s'.nx⟩ w'):
  SR c Z ⟨(qm ⟨nm',s'.h,s'.nx⟩ ks).nm,qJ [] 0 (cut s'.h ks),(cut s'.h ks).length⟩ (qAa kout ((kout.map s'.ρ.get).map (V.ren fun x=>qz x ks))) a' w' /\
   OntoM m ⟨nm,s.h,s.nx⟩ w ⟨(qm ⟨nm',s'.h,s'.nx⟩ ks).nm,qJ [] 0 (cut s'.h ks),(cut s'.h ks).length⟩ w':=by
 rw[qCF]
 obtain⟨u1,u2,u3⟩:=qSe (e:=⟨nm',s'.h,s'.nx⟩) hs r1.hp (Onto.toM hm r2)
 refine⟨⟨fun t=>?_,r1.size,r1.defers,u1⟩,u2⟩
 rw[List.map_map,qTU]
 split
 ·rename_i ht
  exact u3 _ (List.mem_map.2 ⟨t,ht,rfl⟩) _ (r1.reg t)
 ·trivial
theorem qlb {m:Nat} {kin kout:List Nat} {b:Code} (hmo:P.follows .mixedOrders=true) (hc:CtxOK P c) (hl:qCV P c m b):∀ (f:Nat) {R:Type} {vs:List V} {objs:List Obj} {K:Ex->List V->List Obj->Option R} {r:R},
  qh c m kin kout b f vs objs K=some r->m<=objs.length->∃ e vs' objs',K e vs' objs'=some r /\ qNb P c m b kin kout f vs objs e vs' objs':=by
 intro f
 induction f with
 | zero=>intro R vs objs K r hE;cases hE
 | succ f ih=>
   intro R vs objs K r hE hm
   obtain⟨e,s',k1,k2⟩:=qJi hmo hc b hl hE
   rw[qGU] at k1
   have stop:∀ e',e=e'->e'≠.normal->(qEF m s'.h s'.nx (kout.map s'.ρ.get) fun _ vs' objs'=>K e' vs' objs')=some r->∃ e vs' objs',K e vs' objs'=some r /\ qNb P c m b kin kout (f+1) vs objs e vs' objs':=by
    intro e' he hne hE
    subst he
    obtain⟨ks,hs,k3⟩:=qKg hE
    refine⟨e,_,_,k3,fun nm a w hr Q hQ=>?_⟩
    rw[rounds_succ]
    refine k2 nm a w hr _ fun nm' a' w' r1 r2=>?_
    obtain⟨x1,x2⟩:=qdj (s:=⟨qAa kin vs,qJ [] 0 objs,objs.length⟩) hm hs r1 r2
    have:=hQ _ a' w' x1 x2
    cases e<;>first | exact absurd rfl hne | exact this
   cases e with
   | exit i=>exact stop _ rfl (by simp) k1
   | ret=>exact stop _ rfl (by simp) k1
   | normal=>
     obtain⟨ks,hs,k3⟩:=qKg k1
     obtain⟨e2,vs2,objs2,k4,k5⟩:=ih k3 (by rw[qCF];exact hs.len)
     refine⟨e2,vs2,objs2,k4,fun nm a w hr Q hQ=>?_⟩
     rw[rounds_succ]
     refine k2 nm a w hr _ fun nm' a' w' r1 r2=>?_
     obtain⟨x1,x2⟩:=qdj (s:=⟨qAa kin vs,qJ [] 0 objs,objs.length⟩) hm hs r1 r2
     exact k5 _ a' w' x1 Q fun nm2 a2 w2 r3 r4=>hQ nm2 a2 w2 r3 (OntoM.trans x2 r4)
theorem qcB (hc:CtxOK P c) {s:St} {nm:Nm} {a:Act} {w:World} (hr:SR c Z ⟨nm,s.h,s.nx⟩ s.ρ a w):∀ {l:List ResultVar} {ws:List W},qGE c s l=some ws->
  ∃ vs:List Value,(l.mapM (m:=Sem) fun
    | .tmp t=>pure (a.tmps.getD t undef)
    | .cell x t=>do loadVar t (<- asAddr (a.tmps.getD x undef))).run P w=.ok vs w /\ qC (qCX ⟨nm,s.h,s.nx⟩) ws vs:=by
 intro l
 induction l with
 | nil=>intro ws h;cases h;exact⟨[],rfl,trivial⟩
 | cons x l ih=>
   intro ws h
   cases x with
   | tmp t=>
     simp only[qGE] at h
     split at h<;>cases h
     rename_i y ys hy hys
     obtain⟨vs,h1,h2⟩:=ih hys
     refine⟨a.tmps.getD t undef :: vs,?_,(hr.reg t).w hy,h2⟩
     simp only[List.mapM_cons,Sem.run_bind,Sem.run_pure,Result.andThen_ok,h1]
   | cell x t=>
     simp only[qGE] at h
     split at h<;>try cases h
     rename_i ob sg row col hx
     split at h<;>try cases h
     rename_i T g L hob hL
     split at h<;>try cases h
     rename_i v hv
     split at h<;>cases h
     rename_i y ys hy hys
     obtain⟨vs,h1,h2⟩:=ih hys
     have hp:=hr.reg x
     rw[hx] at hp
     obtain⟨b,arr,_,c2,c3,c4,c5,c6⟩:=qQb (e:=⟨nm,s.h,s.nx⟩) hr.hp hp (.inl hob)
     have hld:=qJ1 hv c4 c5
     have hlen:(sub arr.toList (qd (qX g) sg row col) L.size).length=L.size:=by
      have:=qC.length c3
      have:=hld.len
      simp[sub];simp at *;omega
     have hrun:=qMR (P:=P) (w:=w) (b:=b) (off:=qd (qX g) sg row col) (hc.tab t L hL) hlen fun j u hu=>by
      obtain⟨g1,_⟩:=qNL hu
      simp only[World.cell?,c2]
      simpa using g1
     have hrel:=qJ2 (e:=⟨nm,s.h,s.nx⟩) hld (qC.take _ (qC.drop _ c3))
     refine⟨_ :: vs,?_,qP.w hrel hy,h2⟩
     have ha:(asAddr (a.tmps.getD x undef)).run P w=.ok ⟨b,qd (qX g) sg row col,none⟩ w:=by rw[c6];rfl
     simp only[List.mapM_cons,Sem.run_bind,ha,Sem.run_pure,Result.andThen_ok,hrun,h1]
     rfl
theorem qYo {e:Env} {ws:List W} {vs:List Value} (h:qC (qCX e) ws vs):qP e (one? ws) (if h:vs.toArray.size=1 then vs.toArray[0] else .tuple vs.toArray):=by
 match ws,vs,h with
 | [],[],_=>exact⟨#[],rfl,trivial⟩
 | [w],[v],h=>exact h.1.v
 | w :: w2 :: ws,v :: v2 :: vs,h=>simp only[one?];rw[dif_neg (by simp)];exact⟨_,rfl,h⟩
 | [],_ :: _,h=>exact h.elim
 | _ :: _,[],h=>exact h.elim
 | [_],_ :: _ :: _,h=>exact h.2.elim
 | _ :: _ :: _,[_],h=>exact h.2.elim
theorem qjQ {f:FuncId} {fn:Func} {b:Code} {args:List V} {objs:List Obj} {R:Type} {K:V->List Obj->Option R} {r:R} (hmo:P.follows .mixedOrders=true) (hc:CtxOK P c)
  (hf : P.funcs[f]? = some fn) (hb : fn.body = some b) (hname : (fn.name == "runtime.NumGoroutine") = false) (hl : qCV P c objs.length b) (hno : (qEZ b || qO7 c) = false) (hE : fnE c fn args objs K = some r) :
  ∃ v objs',K v objs'=some r /\ qDD P f args objs v objs':=by
 unfold fnE at hE
 rw[hb] at hE
 simp only[hno,cond_false] at hE
 obtain⟨hn,hE⟩:=qV hE
 simp only[Bool.and_eq_true,Nat.beq_eq,Nat.ble_eq] at hn
 obtain⟨hn1,hn2⟩:=hn
 obtain⟨e,s',k1,k2⟩:=qJi hmo hc b hl hE
 rw[qGU] at k1
 have main:∀ l,(e=.normal \/ e=.ret)->qGE c s' fn.results.toList=some l->(qEF objs.length s'.h s'.nx [one? l] fun _ vs objs'=>match vs with
   | [v]=>K v objs'
   | _=>none)=some r->∃ v objs',K v objs'=some r /\ qDD P f args objs v objs':=by
  intro l he hres hE
  obtain⟨ks,hs,k3⟩:=qKg hE
  refine⟨_,_,k3,⟨fn,hf,hname,by rw[hb];rfl⟩,fun nm w as hargs hh=>?_⟩
  have hlen:=qC.length hargs
  simp only[Array.length_toList] at hlen
  have W:b.wp P (bodyPost P fn fun en w'=>∃ vr nm',en=.returned vr /\ qP ⟨nm',qJ [] 0 (cut s'.h ks),(cut s'.h ks).length⟩ ((one? l).ren fun x=>qz x ks) vr /\ RelH ⟨nm',qJ [] 0 (cut s'.h ks),(cut s'.h ks).length⟩ w' /\ Frame' ⟨nm,qJ [] 0 objs,objs.length⟩ w w' /\ Ext ⟨nm,qJ [] 0 objs,objs.length⟩ ⟨nm',qJ [] 0 (cut s'.h ks),(cut s'.h ks).length⟩ w) { tmps:=as++Array.replicate (fn.ntmps - as.size) undef,defers:=[] } w:=?W
  ·exact⟨calls_of_wp hf hb W,fun _ u=>callsD_of_wp hf hb W⟩
  refine k2 nm _ w ⟨fun t=>?_,?_,rfl,hh⟩ _ fun nm' a' w' r1 r2=>?_
  ·-- the arguments
   have hz:∀ (n:Nat) (l:List V),Rg.get (qAa (qAs n l.length) l) t=if n<=t then (l[t - n]?).getD (.s .bad) else .s .bad:=by
    intro n l
    induction l generalizing n with
    | nil=>simp[qAs,qAa,Rg.get]
    | cons x l ih=>
      simp only[List.length_cons,qAs,qAa,qDt,ih]
      by_cases h1:n=t
      ·subst h1;simp
      ·rw[if_neg h1]
       by_cases h2:n+1<=t
       ·rw[if_pos h2,if_pos (by omega),show t - n=t - (n+1)+1 by omega];simp
       ·rw[if_neg h2,if_neg (by omega)]
   show qP _ (Rg.get (qAa (qAs 0 args.length) args) t) _
   rw[hz 0 args]
   simp only[Nat.zero_le,if_true,Nat.sub_zero]
   cases hv:args[t]? with
   | none=>trivial
   | some v=>
     obtain⟨u,hu,hru⟩:=qC.get t hargs hv
     have hu':as[t]? = some u:=by simpa using hu
     have hlt:t<as.size:=(Array.getElem?_eq_some_iff.1 hu').1
     simp only[Option.getD_some,Array.getD_eq_getD_getElem?]
     rw[Array.getElem?_append_left hlt,hu']
     exact hru
  ·simp only[Array.size_append,Array.size_replicate];omega
  ·obtain⟨u1,u2,u3⟩:=qSe (e0:=⟨nm,qJ [] 0 objs,objs.length⟩) (e:=⟨nm',s'.h,s'.nx⟩) hs r1.hp (Onto.toM (Nat.le_refl _) r2)
   obtain⟨vs,v1,v2⟩:=qcB hc r1 hres
   have hrun:(results fn a'.tmps).run P w'=.ok (if h:vs.toArray.size=1 then vs.toArray[0] else .tuple vs.toArray) w':=by
    have hm:(fn.results.mapM (m:=Sem) fun
      | .tmp t=>pure (a'.tmps.getD t undef)
      | .cell x t=>do loadVar t (<- asAddr (a'.tmps.getD x undef))).run P w'=.ok vs.toArray w':=by
     rw[Array.mapM_eq_mapM_toList,map_eq_pure_bind,Sem.run_bind,v1]
     rfl
    unfold results
    rw[Sem.run_bind]
    exact congrArg (fun z=>Result.andThen z fun a w'=>(pure (if h:a.size=1 then a[0] else Value.tuple a):Sem Value).run P w') hm
   have u4:=Onto.of (show objs.length=_ from rfl) u2
   have fin:a'.defers=[] /\ ∃ v,(results fn a'.tmps).run P w'=.ok v w' /\ ∃ vr nm',Ending.returned v=.returned vr /\ qP ⟨nm',qJ [] 0 (cut s'.h ks),(cut s'.h ks).length⟩ ((one? l).ren fun x=>qz x ks) vr /\
     RelH ⟨nm',qJ [] 0 (cut s'.h ks),(cut s'.h ks).length⟩ w' /\ Frame' ⟨nm,qJ [] 0 objs,objs.length⟩ w w' /\ Ext ⟨nm,qJ [] 0 objs,objs.length⟩ ⟨nm',qJ [] 0 (cut s'.h ks),(cut s'.h ks).length⟩ w:=by
    rw[qCF]
    exact⟨r1.defers,_,hrun,_,(qm ⟨nm',s'.h,s'.nx⟩ ks).nm,rfl,u3 _ (by simp) _ (qYo v2),u1,u4.fr,u4.ex⟩
   rcases he with rfl | rfl<;>exact fin
 cases e with
 | exit i=>cases k1
 | normal=>
   simp only at k1
   split at k1<;>try cases k1
   rename_i l hres
   exact main l (.inl rfl) hres k1
 | ret=>
   simp only at k1
   split at k1<;>try cases k1
   rename_i l hres
   exact main l (.inr rfl) hres k1
def qTX (e:Env) (d:Option (FuncId×V)) (D:List Deferred):Prop:=match d with
 | none=>D=[]
 | some (g,v)=>∃ u,D=[{target:=.fn (.func g) #[],args:=#[u]}] /\ qP e v u
def qTY (P:Program) (c:Ctx) (code:Code) (s:St) (d:Option (FuncId×V)) (e:Ex) (s':St):Prop:=
 ∀ (nm:Nm) (a:Act) (w:World),SR c [] ⟨nm,s.h,s.nx⟩ s.ρ a w->∀ (Q:Exit->Act->World->Prop),
   (∀ nm' a' w' D,SR c D ⟨nm',s'.h,s'.nx⟩ s'.ρ a' w'->Onto ⟨nm,s.h,s.nx⟩ w ⟨nm',s'.h,s'.nx⟩ w'->qTX ⟨nm',s'.h,s'.nx⟩ d D->Q e.to a' w')->code.wp P Q a w
theorem quH {ops:Array Oper} {o:Oper} {Q:Exit->Act->World->Prop}:∀ (l:List Oper) (a:Act) (w:World),
  wpList P ops (fun e a' w'=>match e with | .normal=>wpList P ops Q [o] a' w' | e=>Q e a' w') l a w->wpList P ops Q (l++[o]) a w:=by
 intro l
 induction l with
 | nil=>intro a w h;exact h
 | cons x l ih=>
   intro a w h
   have hx:∀ (N:Act->World->Prop),x.wp P a w N (fun e a' w'=>match e with | .normal=>wpList P ops Q [o] a' w' | e=>Q e a' w')->x.wp P a w N Q:=by
    intro N hN
    unfold Oper.wp Oper.upon at hN ⊢
    split at hN<;>exact hN
   show wpList P ops Q (x :: (l++[o])) a w
   unfold wpList at h ⊢
   split at h
   ·rename_i hw
    rw[if_pos hw]
    refine h.imp (fun h=>?_) (fun h=>⟨h.1,h.2⟩)
    exact Oper.wp_mono (fun a' w' h'=>ih a' w' h') (hx _ h)
   ·rename_i hw
    rw[if_neg hw]
    exact ih _ _ h
theorem qiw {a:Code} {ops l:List Oper} {o:Oper} {g:FuncId} {t:Tmp} (h:qLN a=some (ops,l,o,g,t)):
  ∃ id aops,a=.region id aops false /\ ops=aops.toList /\ ops=l++[o] /\ ∃ cl,o.op=.defer cl /\ o.guard=none /\ o.dst=none /\ cl.callee=.value (.func g) /\ cl.args.toList=[.tmp t]:=by
 unfold qLN at h
 split at h<;>try cases h
 rename_i id aops draw
 cases draw with
 | true=>cases h
 | false=>
   simp only[cond_false] at h
   split at h<;>try cases h
   rename_i o' l' hrev
   split at h<;>try cases h
   rename_i g' t' hdc
   refine⟨id,aops,rfl,rfl,?_,?_⟩
   ·have:=congrArg List.reverse hrev
    simpa using this
   ·unfold qV7 at hdc
    split at hdc<;>try cases hdc
    rename_i cl hop
    split at hdc<;>try cases hdc
    rename_i h1 h2 h3 h4
    exact⟨cl,hop,h1,h2,h3,h4⟩
theorem qiy {m:Nat} (hm:P.follows .mixedOrders=true) (hc:CtxOK P c):∀ (code:Code),qCV P c m code->∀ {R:Type} {s:St} {K:Option (FuncId×V)->Ex->St->Option R} {r:R},dfE c m code s K=some r->
  ∃ d e s',K d e s'=some r /\ qTY P c code s d e s':=by
 have leaf:∀ (code:Code),qCV P c m code->∀ {R:Type} {s:St} {K:Option (FuncId×V)->Ex->St->Option R} {r:R},(qCE c m code s fun e s'=>K none e s')=some r->
   ∃ d e s',K d e s'=some r /\ qTY P c code s d e s':=by
  intro code hl R s K r hE
  obtain⟨e,s',k1,k2⟩:=qJi hm hc code hl hE
  exact⟨none,e,s',k1,fun nm a w hr Q hQ=>k2 nm a w hr Q fun nm' a' w' r1 r2=>hQ nm' a' w' [] r1 r2 rfl⟩
 intro code
 induction code with
 | seq x y ihx ihy=>
   intro hl R s K r hE
   simp only[dfE] at hE
   cases hdo:qLN x with
   | none=>
     rw[hdo] at hE
     simp only at hE
     obtain⟨e,s',k1,k2⟩:=qJi hm hc x hl.1 hE
     cases e with
     | normal=>
       obtain⟨d,e2,s2,k3,k4⟩:=ihy hl.2 k1
       exact⟨d,e2,s2,k3,fun nm a w hr Q hQ=>wp_seq (k2 nm a w hr _ fun nm' a' w' r1 r2=>k4 nm' a' w' r1 Q fun nm2 a2 w2 D r3 r4 r5=>hQ nm2 a2 w2 D r3 (r2.trans r4) r5)⟩
     | exit i=>exact⟨none,_,s',k1,fun nm a w hr Q hQ=>wp_seq (k2 nm a w hr _ fun nm' a' w' r1 r2=>hQ nm' a' w' [] r1 r2 rfl)⟩
     | ret=>exact⟨none,_,s',k1,fun nm a w hr Q hQ=>wp_seq (k2 nm a w hr _ fun nm' a' w' r1 r2=>hQ nm' a' w' [] r1 r2 rfl)⟩
   | some p=>
     obtain⟨ops,l,o,g,t⟩:=p
     rw[hdo] at hE
     simp only at hE
     rw[qGU] at hE
     obtain⟨id,aops,rfl,e1,e2,cl,hop,hgd,hdst,hcal,harg⟩:=qiw hdo
     obtain⟨ρ',h',nx',k1,k2⟩:=qYt hc l hE
     obtain⟨e,s',k3,k4⟩:=qJi hm hc y hl.2 k1
     refine⟨some (g,Rg.get ρ' t),e,s',k3,fun nm a w hr Q hQ=>wp_seq (wp_region_list ?_)⟩
     rw[<- e1,e2]
     refine quH l a w ?_
     have hops:aops=ops.toArray:=by rw[e1]
     rw[hops]
     refine k2 hr fun nm1 a1 w1 r1 r2=>?_
     show wpList P ops.toArray _ [o] a1 w1
     have hwant:Region.wanted o (yielded ops.toArray a1.tmps)=true:=by unfold Region.wanted;rw[hgd]
     unfold wpList
     rw[if_pos hwant]
     refine .inl ?_
     have hargs:cl.args.map a1.eval = #[a1.tmps.getD t undef]:=by
      apply Array.toList_inj.mp
      rw[Array.toList_map,harg]
      rfl
     have hrun:(execOp a1.eval o).run P w1=.ok (.defer { target:=.fn (.func g) #[],args:=#[a1.tmps.getD t undef]}) w1:=by
      simp only[execOp,hop,resolve,hcal,hargs]
      rfl
     unfold Oper.wp
     rw[hrun,Oper.upon_defer,hdst]
     show y.wp P Q { tmps:=a1.tmps,defers:={target:=.fn (.func g) #[],args:=#[a1.tmps.getD t undef] } :: a1.defers } w1
     refine k4 nm1 { tmps:=a1.tmps,defers:={target:=.fn (.func g) #[],args:=#[a1.tmps.getD t undef] } :: a1.defers } w1 (Z:=[{target:=.fn (.func g) #[],args:=#[a1.tmps.getD t undef]}]) ⟨r1.reg,r1.size,?_,r1.hp⟩ _ fun nm2 a2 w2 r3 r4=>hQ nm2 a2 w2 _ r3 (r2.trans r4) ⟨_,rfl,(r1.reg t).ext r4.ex⟩
     show _ :: a1.defers=_
     rw[r1.defers]
 | _=>intro hl R s K r hE;exact leaf _ hl hE
theorem qPs {fn:Func} {tmps:Array Value} {R:Ending->World->Prop}:∀ (ds:List Deferred) (u:FrameMode) (w:World) (fr:Frame)
  (cs:List Frame),fr.mode=u->fr.defers=ds->fr.tmps=tmps->P.funcs[fr.fn]? = some fn->fr.kind=.deferred->Leaves P fn tmps R ds u w->
  ∃ e w' fr',R e w' /\ Comes P (lone fr cs w) (lone fr' cs w') e /\ fr'.kind=.deferred /\ fr'.going P w' e:=by
 intro ds
 induction ds with
 | nil=>
   intro u w fr cs hu hd ht hf hk h
   cases u with
   | run=>exact h.elim
   | returning=>
     obtain⟨v,hr,hR⟩:=h
     exact⟨.returned v,w,fr,hR,Steps.refl P _,hk,hu,hd,fn,hf,ht ▸ hr⟩
   | panicking chain=>exact⟨.panicked chain,w,fr,h,Steps.refl P _,hk,hu,hd,fn,hf⟩
 | cons d ds ih=>
   intro u w fr cs hu hd ht hf hk h
   obtain⟨hrun,fv,cap,f,args,htar,hinv,hcall⟩:=h
   have h1:=step_defer (cs:=cs) (hu ▸ hrun) hd htar hinv
   obtain⟨e,u',w',frX,hR,hsteps,hkX,hgo⟩:=hcall { fr with defers:=ds } cs hu
   cases e with
   | returned v=>
     have h2:=step_going_returned (c:={{ fr with defers:=ds } with mode:=u'}) (cs:=cs) hkX hgo
     obtain⟨e',w'',fr',hR',hs',hfn',hl'⟩:=ih (settle u') w' { { { fr with defers:=ds } with mode:=u' } with mode:=settle u' } cs rfl rfl ht hf hk hR
     exact⟨e',w'',fr',hR',Comes.of_steps (.head h1 (Steps.trans hsteps (.one h2))) hs',hfn',hl'⟩
   | panicked chain=>
     have h2:=step_going_panicked (c:={{ fr with defers:=ds } with mode:=u'}) (cs:=cs) hgo
     obtain⟨e',w'',fr',hR',hs',hfn',hl'⟩:=ih (raised u' chain) w' { { { fr with defers:=ds } with mode:=u' } with mode:=raised u' chain } cs rfl rfl ht hf hk hR
     exact⟨e',w'',fr',hR',Comes.of_steps (.head h1 (Steps.trans hsteps (.one h2))) hs',hfn',hl'⟩
   | outgrown=>exact⟨.outgrown,w',{fr with kind:=.deferred},hR,Outgrown.of_steps (.one h1) hsteps,rfl,trivial⟩
theorem qh1 {f:FuncId} {fn:Func} {b:Code} {args:Array Value} {u:FrameMode} {w:World} {R:Ending->World->Prop}
  (hf:P.funcs[f]? = some fn) (hb:fn.body=some b)
  (h:b.wp P (bodyPostD P fn R) { tmps:=args++Array.replicate (fn.ntmps - args.size) undef,defers:=[] } w):
  CallsD P f args u w fun e u' w'=>u'=u /\ R e w':=by
 intro c₀ cs hu
 let fr0:Frame:={(default:Frame) with fn:=f,kind:=.deferred}
 have henter:Frame.enter P f args .deferred =
   fr0.at { tmps:=args++Array.replicate (fn.ntmps - args.size) undef,defers:=[] } [.code b]:=by
  simp[Frame.enter,Frame.at,hf,hb,fr0]
 have hc:({c₀ with mode:=u}:Frame)=c₀:=by subst hu;rfl
 obtain⟨e,a',w',hq,harr⟩:=h fr0 [] (c₀ :: cs)
 rw[<- henter] at harr
 cases e with
 | normal=>
   obtain⟨e',w'',fr',hR,hs,hfn,hl⟩:=qPs a'.defers .returning w' { fr0.at a' [] with mode:=.returning } (c₀ :: cs) rfl rfl rfl hf rfl hq
   exact⟨e',u,w'',fr',⟨rfl,hR⟩,by rw[hc];exact Comes.of_steps (Steps.trans harr (.one step_end)) hs,hfn,hl⟩
 | ret=>
   obtain⟨todo,hs₀⟩:=harr
   obtain⟨e',w'',fr',hR,hs,hfn,hl⟩:=qPs a'.defers .returning w' { fr0.at a' todo with mode:=.returning } (c₀ :: cs) rfl rfl rfl hf rfl hq
   exact⟨e',u,w'',fr',⟨rfl,hR⟩,by rw[hc];exact Comes.of_steps hs₀ hs,hfn,hl⟩
 | panic chain=>
   obtain⟨todo,hs₀⟩:=harr
   obtain⟨e',w'',fr',hR,hs,hfn,hl⟩:=qPs a'.defers (.panicking chain) w' { fr0.at a' todo with mode:=.panicking chain } (c₀ :: cs) rfl rfl rfl hf rfl hq
   exact⟨e',u,w'',fr',⟨rfl,hR⟩,by rw[hc];exact Comes.of_steps hs₀ hs,hfn,hl⟩
 | exit id=>exact hq.elim
 | goto l=>exact hq.elim
 | outgrown=>exact⟨.outgrown,u,w',fr0,⟨rfl,hq⟩,harr.resolve_left (by simp[fr0]),rfl,trivial⟩
theorem qei {fn:Func} {m:Nat} {R:Type} {K:V->List Obj->Option R} {ρ:Rg} {h:Hp} {nx:Nat} {r:R} (hc:CtxOK P c) (hE:qNM c fn m K ρ h nx=some r):
  ∃ v objs',K v objs'=some r /\ ∀ {Z:List Deferred} {nm nm':Nm} {objs:List Obj} {a:Act} {w w':World},objs.length=m->SR c Z ⟨nm',h,nx⟩ ρ a w'->Onto ⟨nm,qJ [] 0 objs,objs.length⟩ w ⟨nm',h,nx⟩ w'->
    ∃ vr nm2,(results fn a.tmps).run P w'=.ok vr w' /\ qP ⟨nm2,qJ [] 0 objs',objs'.length⟩ v vr /\ RelH ⟨nm2,qJ [] 0 objs',objs'.length⟩ w' /\
      Frame' ⟨nm,qJ [] 0 objs,objs.length⟩ w w' /\ Ext ⟨nm,qJ [] 0 objs,objs.length⟩ ⟨nm2,qJ [] 0 objs',objs'.length⟩ w:=by
 unfold qNM at hE
 split at hE<;>try cases hE
 rename_i l hres
 obtain⟨ks,hs,k3⟩:=qKg hE
 refine⟨_,_,k3,fun {Z nm nm' objs a w w'} hm r1 r2=>?_⟩
 subst hm
 obtain⟨u1,u2,u3⟩:=qSe (e0:=⟨nm,qJ [] 0 objs,objs.length⟩) (e:=⟨nm',h,nx⟩) hs r1.hp (Onto.toM (Nat.le_refl _) r2)
 obtain⟨vs,v1,v2⟩:=qcB (s:=⟨ρ,h,nx⟩) hc r1 hres
 have hrun:(results fn a.tmps).run P w'=.ok (if h:vs.toArray.size=1 then vs.toArray[0] else .tuple vs.toArray) w':=by
  have hm:(fn.results.mapM (m:=Sem) fun
    | .tmp t=>pure (a.tmps.getD t undef)
    | .cell x t=>do loadVar t (<- asAddr (a.tmps.getD x undef))).run P w'=.ok vs.toArray w':=by
   rw[Array.mapM_eq_mapM_toList,map_eq_pure_bind,Sem.run_bind,v1]
   rfl
  unfold results
  rw[Sem.run_bind]
  exact congrArg (fun z=>Result.andThen z fun a w'=>(pure (if h:a.size=1 then a[0] else Value.tuple a):Sem Value).run P w') hm
 have u4:=Onto.of (show objs.length=_ from rfl) u2
 rw[qCF]
 exact⟨_,(qm ⟨nm',h,nx⟩ ks).nm,hrun,u3 _ (by simp) _ (qYo v2),u1,u4.fr,u4.ex⟩
theorem qJp (T sg col:Nat) (o:Nat):∀ h:Hp,Hp.get (fgH T sg col h) o=fgO T sg col (h.get o)
 | []=>rfl
 | (k,x) :: r=>by
   simp only[fgH,Hp.get]
   cases Nat.beq k o with
   | true=>rfl
   | false=>exact qJp T sg col o r
theorem qWK (T sg col:Nat) (x:Obj):fgO T sg col x=x \/ ∃ t l l',x=.cells t l /\ storeAt l sg none col (.s .bad)=some l' /\ fgO T sg col x=.cells t l':=by
 unfold fgO
 split
 ·cases Nat.beq _ T with
  | false=>exact .inl rfl
  | true=>
    simp only[cond_true]
    split
    ·rename_i l' h;exact .inr ⟨_,_,_,rfl,h,rfl⟩
    ·exact .inl rfl
 ·exact .inl rfl
theorem qjA (T sg col:Nat) (x:Obj) (ho:∀ t l,x=.cells t l->oks l):(fgO T sg col x).shape=x.shape /\ (fgO T sg col x).owned=x.owned:=by
 rcases qWK T sg col x with h | ⟨t,l,l',rfl,h,h2⟩
 ·rw[h];exact⟨rfl,rfl⟩
 ·have hst:=qGP h (ho _ _ rfl) trivial trivial (by intro s hs;simp only[V.flat,List.mem_singleton] at hs;subst hs;trivial)
  rw[h2]
  exact⟨by simp[Obj.shape,hst.shp],rfl⟩
theorem qm7 {e:Env} {off:Nat}:∀ {l:List S} {m:List Value},qC (qR e) l m->off+1<=l.length->qC (qR e) (over l off [.bad]) m:=by
 intro l m h hl
 have hlm:=qC.length h
 have hm:m=over m off [m[off]'(by omega)]:=by
  unfold over
  simp only[List.length_singleton]
  rw[List.append_assoc,List.singleton_append,<- List.drop_eq_getElem_cons (by omega),List.take_append_drop]
 rw[hm]
 exact qC.over h ⟨trivial,trivial⟩
theorem qjB {nm:Nm} {h:Hp} {nx:Nat} {w:World} (T sg col:Nat) (hh:RelH ⟨nm,h,nx⟩ w):RelH ⟨nm,fgH T sg col h,nx⟩ w /\ Onto ⟨nm,h,nx⟩ w ⟨nm,fgH T sg col h,nx⟩ w:=by
 have hoks:∀ q t l,h.get q=.cells t l->oks l:=by
  intro q t l hq
  have h1:=hh.obj q
  unfold qS at h1
  rw[show (Env.h ⟨nm,h,nx⟩).get q=_ from hq] at h1
  exact h1.1
 have hsh:∀ q,(Hp.get (fgH T sg col h) q).shape=(h.get q).shape /\ (Hp.get (fgH T sg col h) q).owned=(h.get q).owned:=by
  intro q
  rw[qJp]
  exact qjA T sg col _ (hoks q)
 have hsm:∀ q,q<nx->qA3 ⟨nm,h,nx⟩ ⟨nm,fgH T sg col h,nx⟩ id q:=fun q hq=>⟨hq,.inr ⟨(hsh q).1,rfl⟩⟩
 have hnew:∀ q,nx<=q->Hp.get (fgH T sg col h) q=.dead:=by
  intro q hq
  rw[qJp,hh.new q hq]
  rfl
 refine⟨⟨fun q=>?_,hnew,fun q q' y hne hq hq'=>?_,hh.fix.sub fun q hq=>⟨q,by rw[<- (hsh q).2];exact hq,rfl⟩⟩,Frame'.refl _ _,Nat.le_refl _,fun q hq=>⟨rfl,.inl (hsh q).1,fun h=>by rw[<- (hsh q).2];exact h⟩,fun q b hq hd _=>?_⟩
 ·rcases qWK T sg col (h.get q) with h1 | ⟨t,l,l',h1,h2,h3⟩
  ·refine qS.ren (g:=id) (hh.obj q) ?_ rfl fun r _ hr=>hsm r hr
   show Hp.get (fgH T sg col h) q=(h.get q).ren id
   rw[qJp,h1]
   cases h.get q<;>simp[Obj.ren,qCO]
  ·have h4:=hh.obj q
   unfold qS at h4
   rw[show (Env.h ⟨nm,h,nx⟩).get q=_ from h1] at h4
   obtain⟨h5,b,arr,h6,h7,h8⟩:=h4
   have hst:=qGP h2 h5 trivial trivial (by intro s hs;simp only[V.flat,List.mem_singleton] at hs;subst hs;trivial)
   unfold qS
   have hg:Hp.get (fgH T sg col h) q=.cells t l':=by rw[qJp,h3]
   rw[show (Env.h ⟨nm,fgH T sg col h,nx⟩).get q=_ from hg]
   refine⟨hst.ok,b,arr,h6,h7,?_⟩
   rw[hst.flat]
   have hl:=hst.len
   have h9:=qm7 (e:=⟨nm,h,nx⟩) h8 (by simpa[V.flat] using hl)
   refine qC.mono (fun s u hu=>?_) h9
   have:=qR.ren (g:=id) hu fun r _ hr'=>hsm r hr'
   rwa [S.ren_id] at this
 ·have hq:(Hp.get (fgH T sg col h) q).owned=true:=hq
  have hq':(Hp.get (fgH T sg col h) q').shape≠.dead:=hq'
  rw[(hsh q).2] at hq
  rw[(hsh q').1] at hq'
  exact hh.apart q q' y hne hq hq'
 ·have hd:(Hp.get (fgH T sg col h) q).shape≠.dead:=hd
  rw[hnew q hq] at hd
  exact absurd rfl hd
theorem qej {fn:Func} {m:Nat} {R:Type} {K:V->List Obj->Option R} {ρ:Rg} {h:Hp} {nx:Nat} {r:R} (hc:CtxOK P c) (hE:qJC c fn m K ρ h nx=some r):
  ∃ v objs',K v objs'=some r /\ ∀ {Z:List Deferred} {nm nm':Nm} {objs:List Obj} {a:Act} {w w':World},objs.length=m->SR c Z ⟨nm',h,nx⟩ ρ a w'->Onto ⟨nm,qJ [] 0 objs,objs.length⟩ w ⟨nm',h,nx⟩ w'->
    ∃ vr nm2,(results fn a.tmps).run P w'=.ok vr w' /\ qP ⟨nm2,qJ [] 0 objs',objs'.length⟩ v vr /\ RelH ⟨nm2,qJ [] 0 objs',objs'.length⟩ w' /\
      Frame' ⟨nm,qJ [] 0 objs,objs.length⟩ w w' /\ Ext ⟨nm,qJ [] 0 objs,objs.length⟩ ⟨nm2,qJ [] 0 objs',objs'.length⟩ w:=by
 unfold qJC at hE
 split at hE
 ·rename_i T sg col _
  rw[qFb] at hE
  obtain⟨v,objs',h1,h2⟩:=qei hc hE
  refine⟨v,objs',h1,fun {Z nm nm' objs a w w'} hm r1 r2=>?_⟩
  obtain⟨f1,f2⟩:=qjB T sg col r1.hp
  exact h2 hm ⟨fun t=>(r1.reg t).ext f2.ex,r1.size,r1.defers,f1⟩ (r2.trans f2)
 ·exact qei hc hE
theorem qf6 {nm:Nm} {objs:List Obj} {args:List V} {as:Array Value} {n:Nat} (hargs:qC (qP ⟨nm,qJ [] 0 objs,objs.length⟩) args as.toList) (t:Nat):
  qP ⟨nm,qJ [] 0 objs,objs.length⟩ (Rg.get (qAa (qAs 0 args.length) args) t) ((as++Array.replicate (n - as.size) undef).getD t undef):=by
 have hz:∀ (n:Nat) (l:List V),Rg.get (qAa (qAs n l.length) l) t=if n<=t then (l[t - n]?).getD (.s .bad) else .s .bad:=by
  intro n l
  induction l generalizing n with
  | nil=>simp[qAs,qAa,Rg.get]
  | cons x l ih=>
    simp only[List.length_cons,qAs,qAa,qDt,ih]
    by_cases h1:n=t
    ·subst h1;simp
    ·rw[if_neg h1]
     by_cases h2:n+1<=t
     ·rw[if_pos h2,if_pos (by omega),show t - n=t - (n+1)+1 by omega];simp
     ·rw[if_neg h2,if_neg (by omega)]
 rw[hz 0 args]
 simp only[Nat.zero_le,if_true,Nat.sub_zero]
 cases hv:args[t]? with
 | none=>trivial
 | some v=>
   obtain⟨u,hu,hru⟩:=qC.get t hargs hv
   have hu':as[t]? = some u:=by simpa using hu
   have hlt:t<as.size:=(Array.getElem?_eq_some_iff.1 hu').1
   simp only[Option.getD_some,Array.getD_eq_getD_getElem?]
   rw[Array.getElem?_append_left hlt,hu']
   exact hru
theorem qjP {f:FuncId} {fn:Func} {b:Code} {args:List V} {objs:List Obj} {R:Type} {K:V->List Obj->Option R} {r:R} (hmo:P.follows .mixedOrders=true) (hc:CtxOK P c)
  (hf : P.funcs[f]? = some fn) (hb : fn.body = some b) (hname : (fn.name == "runtime.NumGoroutine") = false) (hl : qCV P c objs.length b) (hE : fnD c fn b args objs K = some r) :
  ∃ v objs',K v objs'=some r /\ qDD P f args objs v objs':=by
 unfold fnD at hE
 obtain⟨hn,hE⟩:=qV hE
 simp only[Bool.and_eq_true,Nat.beq_eq,Nat.ble_eq] at hn
 obtain⟨hn1,hn2⟩:=hn
 obtain⟨d,e,s',k1,k2⟩:=qiy hmo hc b hl hE
 rw[qGU] at k1
 have hsz:∀ (as:Array Value),as.toList.length=args.length->(as++Array.replicate (fn.ntmps - as.size) undef).size=c.nt:=by
  intro as has
  simp only[Array.length_toList] at has
  simp only[Array.size_append,Array.size_replicate];omega
 have qDr:∀ {v:V} {objs':List Obj},K v objs'=some r->(e=.normal \/ e=.ret)->
   (∀ (nm:Nm) (w:World),RelH ⟨nm,qJ [] 0 objs,objs.length⟩ w->∀ nm' (a':Act) w' D,SR c D ⟨nm',s'.h,s'.nx⟩ s'.ρ a' w'->Onto ⟨nm,qJ [] 0 objs,objs.length⟩ w ⟨nm',s'.h,s'.nx⟩ w'->qTX ⟨nm',s'.h,s'.nx⟩ d D->
    Leaves P fn a'.tmps (fun en w'=>∃ vr nm',en=.returned vr /\ qP ⟨nm',qJ [] 0 objs',objs'.length⟩ v vr /\ RelH ⟨nm',qJ [] 0 objs',objs'.length⟩ w' /\ Frame' ⟨nm,qJ [] 0 objs,objs.length⟩ w w' /\ Ext ⟨nm,qJ [] 0 objs,objs.length⟩ ⟨nm',qJ [] 0 objs',objs'.length⟩ w) D .returning w')->
   ∃ v objs',K v objs'=some r /\ qDD P f args objs v objs':=by
  intro v objs' hK he hfin
  refine⟨v,objs',hK,⟨fn,hf,hname,by rw[hb];rfl⟩,fun nm w as hargs hh=>?_⟩
  have hlen:=qC.length hargs
  have W:b.wp P (bodyPostD P fn fun en w'=>∃ vr nm',en=.returned vr /\ qP ⟨nm',qJ [] 0 objs',objs'.length⟩ v vr /\ RelH ⟨nm',qJ [] 0 objs',objs'.length⟩ w' /\ Frame' ⟨nm,qJ [] 0 objs,objs.length⟩ w w' /\ Ext ⟨nm,qJ [] 0 objs,objs.length⟩ ⟨nm',qJ [] 0 objs',objs'.length⟩ w)
    { tmps:=as++Array.replicate (fn.ntmps - as.size) undef,defers:=[] } w:=by
   refine k2 nm _ w ⟨fun t=>qf6 hargs t,hsz as hlen.symm,rfl,hh⟩ _ fun nm' a' w' D r1 r2 r3=>?_
   have:=hfin nm w hh nm' a' w' D r1 r2 r3
   rw[<- r1.defers] at this
   rcases he with rfl | rfl<;>exact this
  exact⟨calls_of_wp_defers hf hb W,fun _ u=>qh1 hf hb W⟩
 have main:(e=.normal \/ e=.ret)->(match (generalizing:=false) d with
   | none=>qJC c fn objs.length K s'.ρ s'.h s'.nx
   | some (g,v)=>qLF c s'.h s'.nx g [v] fun _ up nx'=>fHp up fun up=>fN nx' fun nx'=>qGY up s'.h fun h=>qJC c fn objs.length K s'.ρ h nx')=some r->∃ v objs',K v objs'=some r /\ qDD P f args objs v objs':=by
  intro he hK
  cases d with
  | none=>
    obtain⟨v,objs',hKv,htail⟩:=qej hc hK
    refine qDr hKv he fun nm w hh nm' a' w' D r1 r2 r3=>?_
    have r3:D=[]:=r3
    subst r3
    obtain⟨vr,nm2,q1,q2⟩:=htail rfl r1 r2
    exact⟨vr,q1,vr,nm2,rfl,q2⟩
  | some p=>
    obtain⟨g,x⟩:=p
    simp only at hK
    obtain⟨y,up,nx',hK,hplain,hcall⟩:=qix hc.orc hK
    rw[qFb,qCd,qJR] at hK
    obtain⟨v,objs',hKv,htail⟩:=qej hc hK
    refine qDr hKv he fun nm w hh nm' a' w' D r1 r2 r3=>?_
    obtain⟨u,rfl,hu⟩:=r3
    obtain⟨gfn,p1,p2,p3⟩:=hplain
    refine leaves_cons (by simp) (f:=g) (args:=#[u]) ?_ ?_
    ·simp only[invoke,callFunc,Sem.run_bind,Result.andThen_ok,run_program,p1,p2,p3]
     simp
    ·refine CallsD.mono (hcall nm' w' #[u] ⟨hu,trivial⟩ r1.hp .returning) fun en u' w'' hpost=>?_
     obtain⟨rfl,vr,nm2,rfl,q1,q2,q3,q4⟩:=hpost
     have r1':SR c [{target:=.fn (.func g) #[],args:=#[u]}] ⟨nm2,up++s'.h,nx'⟩ s'.ρ a' w'':=⟨fun t=>(r1.reg t).ext q4,r1.size,r1.defers,q2⟩
     obtain⟨vr2,nm3,z1,z2⟩:=htail rfl r1' (r2.trans ⟨q3,q4⟩)
     show Leaves P fn a'.tmps _ [] .returning w''
     exact⟨vr2,z1,vr2,nm3,rfl,z2⟩
 cases e with
 | exit i=>cases k1
 | normal=>exact main (.inl rfl) k1
 | ret=>exact main (.inr rfl) k1
theorem qWU {f:FuncId} {fn:Func} {b:Code} {args:List V} {objs:List Obj} {R:Type} {K:V->List Obj->Option R} {r:R} (hmo:P.follows .mixedOrders=true) (hc:CtxOK P c)
  (hf : P.funcs[f]? = some fn) (hb : fn.body = some b) (hname : (fn.name == "runtime.NumGoroutine") = false) (hl : qCV P c objs.length b) (hE : fnE c fn args objs K = some r) :
  ∃ v objs',K v objs'=some r /\ qDD P f args objs v objs':=by
 cases hd:(qEZ b||qO7 c) with
 | false=>exact qjQ hmo hc hf hb hname hl hd hE
 | true=>
   unfold fnE at hE
   rw[hb] at hE
   simp only[hd,cond_true] at hE
   exact qjP hmo hc hf hb hname hl hE
end
end Go.Kk
