/-
 Maps whose values are slices, kept in a pool: the pure interpreter's answer is the machine's.
-/
import Derived.Test.YthklalefbhbhmaaGreatDoorKkM
namespace Go.Kk
theorem qNk {e:Env} {w w':World} {up:Hp} {nm':Nm} {nx':Nat} {D:List Nat} (h:RelH e w) (hnx:e.nx<=nx') (hnm:∀ q,q<e.nx->nm' q=e.nm q) (hend:∀ q,nx'<=q->up.lookup q=none)
  (hD:∀ q∈D,q<e.nx /\ (e.h.get q).owned=true) (hkeep:∀ q,q<e.nx->q ∉ D->up.lookup q=none)
  (hshape:∀ q∈D,(Hp.get (up++e.h) q).shape=(e.h.get q).shape \/ (Hp.get (up++e.h) q).shape=.dead)
  (hobj:∀ q,q<nx'->(q∈D \/ e.nx<=q)->qG ⟨nm',up++e.h,nx'⟩ w' q)
  (hown:∀ q x,e.nx<=q->q<nx'->Has nm' q x->w.heap.size<=x \/ ∃ q0∈D,Has e.nm q0 x /\ (Hp.get (up++e.h) q0).shape=.dead)
  (hap:∀ q q' x,e.nx<=q->q<nx'->e.nx<=q'->q'<nx'->q≠q'->Has nm' q x->¬ Has nm' q' x)
  (hother:∀ k,k<w.heap.size->(∀ q∈D,¬ Has e.nm q k)->w'.heap[k]? = w.heap[k]?)
  (hos:w'.os=w.os) (htape:w'.tape=w.tape) (hout:w'.output=w.output) (hsize:w.heap.size<=w'.heap.size):
  RelH ⟨nm',up++e.h,nx'⟩ w' /\ Frame' e w w' /\ Ext e ⟨nm',up++e.h,nx'⟩ w:=by
 have hget:∀ q,q<e.nx->q ∉ D->Hp.get (up++e.h) q=e.h.get q:=fun q hq hd=>by rw[qm,hkeep q hq hd]
 have hpast:∀ q,nx'<=q->Hp.get (up++e.h) q=.dead:=fun q hq=>by rw[qm,hend q hq];exact h.new q (by omega)
 have hsh:∀ q,q<e.nx->(Hp.get (up++e.h) q).shape=(e.h.get q).shape \/ (Hp.get (up++e.h) q).shape=.dead:=fun q hq=>by
  by_cases hd:q∈D
  ·exact hshape q hd
  ·rw[hget q hq hd];exact .inl rfl
 have hlv:∀ q,q<e.nx->(Hp.get (up++e.h) q).shape≠.dead->(e.h.get q).shape≠.dead:=fun q hq hd=>by
  rcases hsh q hq with h1 | h1
  ·rw[<- h1];exact hd
  ·exact absurd h1 hd
 have how:∀ q,q<e.nx->(Hp.get (up++e.h) q).owned=true->(e.h.get q).owned=true:=fun q hq ho=>by
  by_cases hd:q∈D
  ·exact (hD q hd).2
  ·rwa [hget q hq hd] at ho
 have hframe:Frame' e w w':=⟨hos,htape,hout,hsize,fun k hk hno=>hother k hk fun q hq=>hno q (hD q hq).2⟩
 have hext:Ext e ⟨nm',up++e.h,nx'⟩ w:=by
  refine⟨hnx,fun q hq=>⟨hnm q hq,hsh q hq,how q hq⟩,fun q x hq hd hx=>?_⟩
  have hlt:q<nx':=by
   rcases Nat.lt_or_ge q nx' with h1 | h1
   ·exact h1
   ·exact absurd (show (Hp.get (up++e.h) q).shape=.dead by rw[hpast q h1];rfl) hd
  rcases hown q x hq hlt hx with h1 | ⟨q0,h1,h2,_⟩
  ·exact .inl h1
  ·exact .inr ⟨q0,qAr (hD q0 h1).2,h2,fun _=>(hD q0 h1).2⟩
 have hold:∀ q y,q<e.nx->Has nm' q y->Has e.nm q y:=fun q y hq hy=>(qKr (hnm q hq)).1 hy
 refine⟨⟨fun q=>?_,fun q hq=>hpast q hq,fun q q' y hne hq hq' hy hy'=>?_,h.fix.go hframe hext.toM⟩,hframe,hext⟩
 ·rcases Nat.lt_or_ge q nx' with hlt | hge
  ·rcases Nat.lt_or_ge q e.nx with hq | hq
   ·by_cases hd:q∈D
    ·exact hobj q hlt (.inl hd)
    ·by_cases hdead:(e.h.get q).shape=.dead
     ·have:e.h.get q=.dead:=by cases hz:e.h.get q<;>rw[hz] at hdead<;>simp[Obj.shape] at hdead
      unfold qG
      show match Hp.get (up++e.h) q with | _=>_
      rw[hget q hq hd,this];trivial
     ·have h2:qG e w' q:=qG.frame (h.obj q) hsize fun b hb=>hother b (qG.lt (h.obj q) hdead hb) fun q0 hq0 hb0=>h.apart q0 q b (fun hh=>hd (hh ▸ hq0)) (hD q0 hq0).2 hdead hb0 hb
      refine qG.ren (g:=id) h2 ?_ (hnm q hq) fun r _ hr=>hext.same hr
      show Hp.get (up++e.h) q=_
      rw[hget q hq hd]
      cases e.h.get q<;>simp[Obj.ren,qC2]
   ·exact hobj q hlt (.inr hq)
  ·unfold qG
   show match Hp.get (up++e.h) q with | _=>_
   rw[hpast q hge];trivial
 ·have hq:(Hp.get (up++e.h) q).owned=true:=hq
  have hq':(Hp.get (up++e.h) q').shape≠.dead:=hq'
  have hl:q<nx':=by
   rcases Nat.lt_or_ge q nx' with h1 | h1
   ·exact h1
   ·rw[hpast q h1] at hq;cases hq
  have hl':q'<nx':=by
   rcases Nat.lt_or_ge q' nx' with h1 | h1
   ·exact h1
   ·rw[hpast q' h1] at hq';exact absurd rfl hq'
  rcases Nat.lt_or_ge q e.nx with a | a<;>rcases Nat.lt_or_ge q' e.nx with b | b
  ·exact h.apart q q' y hne (how q a hq) (hlv q' b hq') (hold q y a hy) (hold q' y b hy')
  ·rcases hown q' y b hl' hy' with h1 | ⟨q0,h1,h2,h3⟩
   ·have:=qG.lt (h.obj q) (qAr (how q a hq)) (hold q y a hy);omega
   ·refine h.apart q q0 y (fun hh=>?_) (how q a hq) (qAr (hD q0 h1).2) (hold q y a hy) h2
    subst hh
    exact absurd h3 (qAr hq)
  ·rcases hown q y a hl hy with h1 | ⟨q0,h1,h2,h3⟩
   ·have:=qG.lt (h.obj q') (hlv q' b hq') (hold q' y b hy');omega
   ·refine h.apart q0 q' y (fun hh=>?_) (hD q0 h1).2 (hlv q' b hq') h2 (hold q' y b hy')
    subst hh
    exact absurd h3 hq'
  ·exact hap q q' y a hl b hl' hne hy hy'
theorem qpV (ps:PS) (j:Nat):(ps.seg j).shp=.tbl ps.wd (ps.seg j).shp.rows:=by cases ps<;>rfl
theorem qR4 (ps:PS) (j:Nat):(ps.seg j).isTbl=true:=by cases ps<;>rfl
theorem qFc (ps:PS) (j:Nat):(ps.seg j).shp.width=ps.wd:=by cases ps<;>rfl
theorem qpU {ps:PS} {j:Nat} (h:ps.len<=j):(ps.seg j).ok /\ (ps.seg j).shp.rows=0 /\ (ps.seg j).flat=[]:=by
 cases ps with
 | a k l=>
   have:l.getD j []=[]:=by rw[List.getD_eq_getElem?_getD,List.getElem?_eq_none h];rfl
   simp only[PS.seg,this]
   exact⟨⟨rfl,fun x hx=>by cases hx⟩,rfl,rfl⟩
 | r ks l=>
   have:l.getD j []=[]:=by rw[List.getD_eq_getElem?_getD,List.getElem?_eq_none h];rfl
   simp only[PS.seg,this]
   exact⟨⟨rfl,fun x hx=>by cases hx⟩,rfl,rfl⟩
theorem qP7 {e:Env} {w:World} {p:Nat} {t:TypeId} {ps:PS} (hh:RelH e w) (hp:e.h.get p=.pol t ps):
  ∃ pb cs,e.nm p=some (pb,0,big+qAH cs) /\ cs.length=ps.len /\ (∀ j c,cs[j]? = some c->c=0 \/ qFl w t (ps.seg j) c) /\ ∀ (j j' x l k l' k':Nat),cs[j]? = some (qAN x l k)->cs[j']? = some (qAN x l' k')->j=j':=by
 have:=hh.obj p
 unfold qG at this
 rw[hp] at this
 exact this
theorem qIu {nm:Nm} {p pb pb':Nat} {cs cs':List Nat} (h:nm p=some (pb,0,big+qAH cs)) (h':nm p=some (pb',0,big+qAH cs')):cs'=cs:=by
 rw[h] at h'
 simp only[Option.some.injEq,Prod.mk.injEq,true_and] at h'
 exact qKU _ _ (by omega)
theorem qSy {e:Env} {w:World} {p j:Nat} {t:TypeId} {ps:PS} {v:Value} (hh:RelH e w) (hp:e.h.get p=.pol t ps) (hv:qI e (.vw p j) v):
  p < e.nx /\ (ps.seg j).ok /\ ∃ pb cs,e.nm p=some (pb,0,big+qAH cs) /\ cs.length=ps.len /\ (∀ j c,cs[j]? = some c->c=0 \/ qFl w t (ps.seg j) c) /\ (∀ (j j' x l k l' k':Nat),cs[j]? = some (qAN x l k)->cs[j']? = some (qAN x l' k')->j=j') /\
    ∃ xs,w.ownsRow 0 t ps.wd v (ps.seg j).shp.rows xs /\ qB (qI qAo) (ps.seg j).flat xs /\ (∀ x,v.ownBlock=some x->∃ len cap,cs[j]? = some (qAN x len cap)) /\ (∃ a c,v=.slice a (ps.seg j).shp.rows c) /\ (ps.seg j).shp.rows<=maxLen:=by
 obtain⟨pb,cs,h1,h2,h3,h4⟩:=qP7 hh hp
 obtain⟨h5,h6⟩:=hv
 rw[hp] at h6
 obtain⟨pb',cs',h7,h8⟩:=h6
 obtain rfl:=qIu h1 h7
 have nil:(ps.seg j).ok->(ps.seg j).shp.rows=0->v=.slice none 0 0->∃ xs,w.ownsRow 0 t ps.wd v (ps.seg j).shp.rows xs /\ qB (qI qAo) (ps.seg j).flat xs /\ (∀ x,v.ownBlock=some x->∃ len cap,cs'[j]? = some (qAN x len cap)) /\ (∃ a c,v=.slice a (ps.seg j).shp.rows c) /\ (ps.seg j).shp.rows<=maxLen:=by
  intro ho hr hv
  subst hv
  rw[hr]
  refine⟨[],World.ownsRow_nil w 0 t _,?_,fun x hx=>by simp[Value.ownBlock] at hx,⟨none,0,rfl⟩,Nat.zero_le _⟩
  have hl:=Seg.flat_length ho
  rw[(qEb (qR4 ps j)).choose_spec.2.2,<- (qEb (qR4 ps j)).choose_spec.2.1,hr,Nat.zero_mul] at hl
  rw[List.eq_nil_of_length_eq_zero hl]
  trivial
 cases hc:cs'[j]? with
 | none=>
   rw[hc] at h8
   have hj:ps.len<=j:=by rw[<- h2];exact List.getElem?_eq_none_iff.1 hc
   obtain⟨q1,q2,_⟩:=qpU hj
   exact⟨h5,q1,pb,cs',h1,h2,h3,h4,nil q1 q2 h8⟩
 | some c=>
   rw[hc] at h8
   rcases h8 with⟨rfl,hv⟩ | ⟨x,len,cap,rfl,rfl⟩
   ·rcases h3 j 1 hc with h9 | ⟨q1,h9 | ⟨x,cap,arr,h9,_⟩⟩
    ·omega
    ·exact⟨h5,q1,pb,cs',h1,h2,h3,h4,nil q1 h9.2 hv⟩
    ·exact absurd h9.symm (qJo _ _ _)
   ·rcases h3 j _ hc with h9 | ⟨q1,h9 | ⟨x',cap',arr,h9,g1,g2,g3,g4,g5⟩⟩
    ·have:=qMS x len cap;omega
    ·exact absurd h9.1 (qJo _ _ _)
    ·obtain⟨rfl,rfl,rfl⟩:=qMR h9
     obtain⟨_,t1,t2,t3⟩:=qEb (qR4 ps j)
     have hl:=qB.length g5
     rw[Seg.flat_length q1] at hl
     have e1:(ps.seg j).shp.size=(ps.seg j).shp.rows*ps.wd:=by rw[t3,<- t2,qFc]
     rw[qFc] at g2
     refine⟨h5,q1,pb,cs',h1,h2,h3,h4,arr.toList.take (ps.seg j).shp.size,⟨by rw[<- e1];exact hl.symm,.inr ⟨x,cap,arr,rfl,Nat.zero_le _,g1,g3,g4,g2,by rw[e1]⟩⟩,g5,fun y hy=>?_,⟨_,_,rfl⟩,by omega⟩
     have:x=y:=by simpa[Value.ownBlock] using hy
     subst this
     exact⟨_,_,hc⟩
section
variable {P:Program} {o:Oper} {ρ:Rg} {h:Hp} {nx:Nat} {c:Ctx}
theorem qk7 {cl:Call} {x:Operand} {t e t':TypeId} {p j:Nat} {ps:PS} (ho:o.op=.call cl) (hcl:cl.callee=.builtin .len) (hargs:cl.args = #[x]) (htys:cl.argTypes = #[t])
  (hx:ev ρ x=.s (.vw p j)) (hu:P.underlying t=some (.slice e)) (hp:h.get p=.pol t' ps):qQ P o ρ h nx (.s (.i .i64 (ps.seg j).shp.rows)) [] nx:=by
 refine qQ.pure fun nm w a hr hh=>?_
 have h1:=hr x (by simp[ho,Op.operands,Call.operands,hcl,hargs])
 rw[hx] at h1
 obtain⟨_,_,_,_,_,_,_,_,_,_,_,_,⟨b,c',q3⟩,hm⟩:=qSy (e:=⟨nm,h,nx⟩) hh hp h1
 unfold maxLen at hm
 refine⟨.int .i64 (ps.seg j).shp.rows,?_,rfl,qCG (by show (-9223372036854775808:Int)<=_;omega) (by show _<=(9223372036854775807:Int);omega)⟩
 simp[execOp,ho,resolve,hcl,hargs,htys,q3,invoke,builtin,Builtin.len_,goInt,run_underlying hu]
theorem qlH {x:Operand} {p j i col:Nat} (ho:o.op=.nilCheck x) (hx:ev ρ x=.s (.vp p j i col)) (hl:(h.get p).shape≠.dead):qQ P o ρ h nx (.s (.vp p j i col)) [] nx:=
 qQ.pure fun nm w a hr _=>by
  have h1:=hr x (by simp[ho,Op.operands])
  rw[hx] at h1
  have h2:∃ q,a.eval x=.pointer (some q):=by
   obtain⟨_,h2⟩:=h1
   cases hsh:(h.get p).shape with
   | dead=>exact absurd hsh hl
   | cells sh=>simp only[hsh] at h2
   | sli s=>simp only[hsh] at h2
   | map=>simp only[hsh] at h2
   | pol wd=>simp only[hsh] at h2;obtain⟨_,_,_,_,_,_,_,_,_,h⟩:=h2;exact⟨_,h⟩
  obtain⟨q,h2⟩:=h2
  refine⟨.pointer (some q),by simp[execOp,ho,h2],?_⟩
  rw[<- h2];exact h1
theorem qk5 {tab:Tab} {x y:Operand} {t e T:TypeId} {p j:Nat} {ps:PS} {k:IntKind} {n:Int} (htab:∀ t L,tab.get t=some L->LayOK P tab t L) (hL:LayOK P tab t (.sc (.sl e)))
  (ho:o.op=.indexAddr t x y) (hx:ev ρ x=.s (.vw p j)) (hy:ev ρ y=.s (.i k n)) (hj:inB n (ps.seg j).shp.rows=true) (hp:h.get p=.pol T ps) (hk:qBa (.sli e false (ps.seg j)) (qz (tab.get e))=true):
  qQ P o ρ h nx (.s (.vp p j n.toNat 0)) [] nx:=
 qQ.pure fun nm w a hr hh=>by
  have h1:=hr x (by simp[ho,Op.operands])
  rw[hx] at h1
  have h2:=hr y (by simp[ho,Op.operands])
  rw[hy] at h2
  obtain⟨h2,_⟩:=qBl h2
  obtain⟨T1,ro1,ga,g0,Le,s1,s2,s3,s4,_,s6,s7⟩:=qH9 hk
  cases s1
  obtain⟨d,hu,hd⟩:=hL.desc
  simp only at hd
  subst hd
  obtain⟨i,z,hi,hs,_⟩:=(htab e Le s2).info
  have hj':=hj
  simp only[inB,Bool.and_eq_true,decide_eq_true_eq] at hj'
  obtain⟨h5,h6⟩:=h1
  have h6':=h6
  rw[show (Env.h ⟨nm,h,nx⟩).get p=_ from hp] at h6'
  obtain⟨pb,cs,h7,h8⟩:=h6'
  obtain⟨_,g1,pb',cs',g2,g3,g4,g5,xs,g6,g7,g8,⟨b,c',g9⟩,_⟩:=qSy (e:=⟨nm,h,nx⟩) hh hp ⟨h5,h6⟩
  have h7:nm p=some (pb,0,big+qAH cs):=h7
  have g2:nm p=some (pb',0,big+qAH cs'):=g2
  obtain rfl:=qIu g2 h7
  cases hc:cs[j]? with
  | none=>rw[hc] at h8;rw[show a.eval x=_ from h8] at g9;simp only[Value.slice.injEq] at g9;omega
  | some cc=>
    rw[hc] at h8
    rcases h8 with⟨_,h8⟩ | ⟨x',len,cap,rfl,h8⟩
    ·rw[show a.eval x=_ from h8] at g9;simp only[Value.slice.injEq] at g9;omega
    ·have hlen:len=(ps.seg j).shp.rows:=by rw[h8] at g9;simp only[Value.slice.injEq] at g9;exact g9.2.1
     have hwd:ps.wd=i.size:=by rw[<- qFc ps j];omega
     refine⟨_,by simp only[execOp,ho,h8,h2,Sem.run_bind,qbq hu hi w x' 0 len cap k (by rw[hlen];exact hj),Result.andThen_ok];rfl,h5,?_⟩
     rw[show (Env.h ⟨nm,h,nx⟩).get p=_ from hp]
     refine⟨by rw[<- qFc ps j];exact s6,pb,cs,x',len,cap,h7,hc,by omega,?_⟩
     simp[hwd]
theorem qlA {x:Operand} {t T:TypeId} {p j i col:Nat} {ps:PS} {L:Lay} {v:V} {tab:Tab} (hL:LayOK P tab t L)
  (ho:o.op=.load t x) (hx:ev ρ x=.s (.vp p j i col)) (hp:h.get p=.pol T ps) (hv:loadAt [ps.seg j] 0 (some (i,1)) col L=some v):qQ P o ρ h nx v [] nx:=
 qQ.pure fun nm w a hr hh=>by
  have h1:=hr x (by simp[ho,Op.operands])
  rw[hx] at h1
  obtain⟨h5,h6⟩:=h1
  rw[show (Env.h ⟨nm,h,nx⟩).get p=_ from hp] at h6
  obtain⟨hcol,pb,cs,x',len,cap,h7,h8,h9,h10⟩:=h6
  obtain⟨pb',cs',g1,g2,g3,g4⟩:=qP7 (e:=⟨nm,h,nx⟩) hh hp
  obtain rfl:=qIu h7 g1
  rcases g3 j _ h8 with q | ⟨c4,q | ⟨x'',cap',arr,q1,q2,q3,q4,q5,q6⟩⟩
  ·have:=qMS x' len cap;omega
  ·exact absurd q.1 (qJo _ _ _)
  ·obtain⟨rfl,rfl,rfl⟩:=qMR q1
   have c5:qGX (qU [ps.seg j]) 0 (some (i,1)) col:=⟨Nat.le_refl _,ps.wd,(ps.seg j).shp.rows,by simp[<- qpV],by omega,hcol⟩
   have hld:=qHa hv (qAV.2 ⟨c4,qCT⟩) c5
   have hfl:qc [ps.seg j]=(ps.seg j).flat:=by simp
   have hoff:qX (qU [ps.seg j]) 0 (some (i,1)) col=i*ps.wd+col:=by simp[qX,qp,qFc]
   have hlen:(sub (arr.toList.take (ps.seg j).shp.size) (qX (qU [ps.seg j]) 0 (some (i,1)) col) L.size).length=L.size:=by
    have:=qB.length q6
    have:=hld.len
    rw[hfl] at this
    simp only[sub,List.length_take,List.length_drop] at *
    omega
   have hrun:=qJN (P:=P) (w:=w) (b:=x') (off:=qX (qU [ps.seg j]) 0 (some (i,1)) col) hL hlen fun jj u hu=>by
    obtain⟨g1,_⟩:=qJp hu
    rw[List.getElem?_take] at g1
    split at g1
    ·simp only[World.cell?,q2]
     simpa using g1
    ·cases g1
   refine⟨_,?_,qHb hld (by rw[hfl];exact qB.mono (fun _ _ hu=>qI.of0 hu) (qB.take _ (qB.drop _ q6)))⟩
   rw[hoff] at hrun ⊢
   simp only[execOp,ho,h10,Instr.loadAt,Instr.sureAddr,Sem.run_bind,Sem.run_pure,Result.andThen_ok,hrun]
   rfl
theorem qHn {α:Type}:∀ (l:List α) (i:Nat) (x:α),i<=l.length->(qAR l i x).length=if i<l.length then l.length else l.length+1
 | [],i,x,_=>by simp[qAR]
 | y :: r,0,x,_=>by simp[qAR]
 | y :: r,i+1,x,h=>by
   simp only[qAR,List.length_cons,qHn r i x (by simpa using h)]
   by_cases hi:i<r.length
   ·rw[if_pos hi,if_pos (by omega)]
   ·rw[if_neg hi,if_neg (by omega)]
theorem qFL {α:Type}:∀ (l:List α) (i:Nat) (x:α) (j:Nat),i<=l.length->(qAR l i x)[j]? = if j=i then some x else l[j]?
 | [],i,x,j,h=>by
   have:i=0:=by simpa using h
   subst this
   cases j<;>simp[qAR]
 | y :: r,0,x,j,_=>by cases j<;>simp[qAR]
 | y :: r,i+1,x,j,h=>by
   cases j with
   | zero=>simp[qAR]
   | succ j=>
     simp only[qAR,List.getElem?_cons_succ,qFL r i x j (by simpa using h)]
     by_cases hj:j=i
     ·rw[if_pos hj,if_pos (by omega)]
     ·rw[if_neg hj,if_neg (by omega)]
theorem qOn (r:List Int):∀ ks:List (List Int),qW r ks<=ks.length
 | []=>Nat.le_refl _
 | k :: l=>by
   unfold qW
   cases hk:k==r with
   | true=>simp
   | false=>simpa using qOn r l
theorem qLZ (r:List Int):∀ ks:List (List Int),qAj r ks=qAR ks (qW r ks) r
 | []=>rfl
 | k :: l=>by
   unfold qAj qW
   cases hk:k==r with
   | true=>
     have:k=r:=by simpa using hk
     subst this
     rfl
   | false=>simp only[cond_false,qLZ r l,qAR]
theorem qWn {r:List Int}:∀ {ks:List (List Int)},(∀ x∈ks,x≠r)->qW r ks=ks.length
 | [],_=>rfl
 | k :: l,h=>by
   have hk:(k==r)=false:=by simpa using h k (by simp)
   have ih:=qWn (r:=r) (ks:=l) fun x hx=>h x (List.mem_cons_of_mem _ hx)
   simp only[qW,hk,cond_false,List.length_cons,ih]
theorem qWo {r:List Int}:∀ {ks:List (List Int)} {i:Nat},ks[i]? = some r->(∀ i' x,i'<i->ks[i']? = some x->x≠r)->qW r ks=i
 | [],i,h,_=>by simp at h
 | k :: l,0,h,_=>by
   have:k=r:=by simpa using h
   subst this
   simp[qW]
 | k :: l,i+1,h,hb=>by
   have hk:(k==r)=false:=by simpa using hb 0 k (by omega) (by simp)
   simp only[qW,hk,cond_false,qWo (ks:=l) (i:=i) (by simpa using h) fun i' x hi hx=>hb (i'+1) x (by omega) (by simpa using hx)]
theorem qVZ {ks:List (List Int)} {r:List Int} {es:List MapEntry} {res:Option (Nat×Value)} (h:qCW (ks.map fun k=>(k,[])) r es 0 res):
  (res=none /\ qW r ks=ks.length) \/ ∃ e,es[qW r ks]? = some e /\ res=some (qW r ks,e.val) /\ qW r ks<ks.length:=by
 cases res with
 | none=>
   refine .inl ⟨rfl,qWn fun x hx=>?_⟩
   exact h (x,[]) (List.mem_map.2 ⟨x,hx,rfl⟩)
 | some p=>
   obtain⟨j,v⟩:=p
   obtain⟨i,e,u,rfl,h1,rfl,h3,h4⟩:=h
   have hi:ks[i]? = some r:=by
    rw[List.getElem?_map] at h3
    cases hk:ks[i]? with
    | none=>rw[hk] at h3;cases h3
    | some k=>rw[hk] at h3;simp at h3;rw[h3.1]
   have:qW r ks=i:=qWo hi fun i' x hi' hx=>h4 i' (x,[]) hi' (by rw[List.getElem?_map,hx];rfl)
   rw[this]
   exact .inr ⟨e,h1,by simp,getElem?_lt hi⟩
theorem qXL {ka:Bool} {kks:List CK} {ks:List (List Int)} {es:List MapEntry} (h:qB (fun r m=>qAS ka kks r m.key) ks es):qB (fun x m=>qAS ka kks x.1 m.key) (ks.map fun k=>(k,([]:List Int))) es:=qB.map_left h
structure MapsOK (P:Program) (t k e e':TypeId) (Lk:Lay) (a:List CK):Prop where
 und:P.underlying t=some (.map k e)
 key:∃ f,f<=10000 /\ qA8 P f k=some a
 kagg:qAn P k=Lk.isAgg
 ude:P.underlying e=some (.slice e')
 zero:∀ w,(zeroValue e).run P w=.ok (.slice none 0 0) w
theorem qX9 (htab:∀ t L,c.tab.get t=some L->LayOK P c.tab t L)
  (heqs:∀ t L,qC0 t c.eqs=true->c.tab.get t=some L->∃ f ck,f<=10000 /\ qA8 P f t=some ck /\ qBJ L.segTs=some ck /\ P.eqGuardType P.depth t=false)
  {t e':TypeId} {Lk:Lay} {a:List CK} (h:qHe c t=some ((Lk,a),e')):∃ k e,MapsOK P t k e e' Lk a:=by
 unfold qHe at h
 split at h<;>try cases h
 rename_i k e hL
 split at h<;>try cases h
 rename_i Lk' e'' hk he
 split at h<;>try cases h
 rename_i a' h1
 cases hm:qC0 k c.eqs with
 | false=>rw[hm] at h;cases h
 | true=>
   rw[hm] at h
   cases h
   obtain⟨f,ck,q1,q2,q3,_⟩:=heqs k _ hm hk
   obtain⟨d,hd,hd2⟩:=(htab t _ hL).desc
   simp only at hd2
   subst hd2
   have:=qIt h1 q3
   subst this
   obtain⟨d',hd',hd2'⟩:=(htab e _ he).desc
   simp only at hd2'
   subst hd2'
   obtain⟨i,z,z1,z2,z3,z4⟩:=(htab e _ he).info
   have hz:=(htab e _ he).zag i z z1 z3
   simp only at hz
   refine⟨k,e,hd,⟨f,q1,q2⟩,qS7 (htab k _ hk),hd',fun w=>?_⟩
   have hzz:z=.slice none 0 0:=by
    rw[hz] at z4
    have z5:[z]=[Value.slice none 0 0]:=z4
    simpa using z5
   simp[zeroValue,typeInfo,z1,z3,hzz]
theorem qYC {e:Env} {w:World} {ob:Nat} {v:Value} {ka:Bool} {kks:List CK} {ks:List (List Int)} {p:Nat} {l:Option Nat} (hh:RelH e w) (hv:qI e (.mp ob) v) (ho:e.h.get ob=.maps ka kks ks p l):
  ob<e.nx /\ ∃ b ents clock,e.nm ob=some (b,0,0) /\ v=.map (some b) /\ w.heap[b]? = some (.map ents clock) /\ qB (fun r m=>qAS ka kks r m.key) ks ents.toList /\ p<e.nx /\ match (e.h.get p).shape with
   | .pol _=>∃ pb cs,e.nm p=some (pb,0,big+qAH cs) /\ cs.length=ks.length /\ ∀ j m,ents.toList[j]? = some m->l=some j \/ qEh cs[j]? m.val
   | .dead=>∀ j m,ents.toList[j]? = some m->l=some j \/ ∃ a l c,m.val=.slice a l c
   | _=>False:=by
 have h1:=hh.obj ob
 unfold qG at h1
 rw[ho] at h1
 obtain⟨b,ents,clock,h2,h3,h4⟩:=h1
 obtain⟨h5,h6⟩:=hv
 rw[ho] at h6
 obtain⟨b',off,cap,h7,h8⟩:=h6
 rw[h2] at h7
 cases h7
 exact⟨h5,b,ents,clock,h2,h8,h3,h4⟩
theorem qlC {t k e e':TypeId} {m x:Operand} {ob p:Nat} {Lk:Lay} {a:List CK} {ks:List (List Int)} {r:List Int} (ho:o.op=.lookup t m x false)
  (hm:ev ρ m=.s (.mp ob)) (hx:(ev ρ x).row? = some (Lk.isAgg,a,r)) (hob:h.get ob=.maps Lk.isAgg a ks p none) (hM:MapsOK P t k e e' Lk a):qQ P o ρ h nx (.s (.vw p (qW r ks))) [] nx:=by
 refine qQ.pure fun nm w ac hr hh=>?_
 have h1:=hr m (by simp[ho,Op.operands])
 have h2:=hr x (by simp[ho,Op.operands])
 rw[hm] at h1
 obtain⟨q1,blk',ents,clock,q2,q3,q4,q5,q6,q7⟩:=qYC hh h1 hob
 have hk:=qJY h2 hx
 rw[<- hM.kagg] at hk q5
 obtain⟨f,hf,htc⟩:=hM.key
 obtain⟨res,r1,r2⟩:=qKw htc hf hk w (qXL q5)
 have hget:(getObj blk').run P w=.ok (.map ents clock) w:=by simp[getObj,Sem.run,q4]
 have hlen:ents.toList.length=ks.length:=(qB.length q5).symm
 have fin:∀ v,(ents.toList[qW r ks]? = none /\ v=.slice none 0 0 \/ ∃ e',ents.toList[qW r ks]? = some e' /\ v=e'.val)->qI ⟨nm,h,nx⟩ (.vw p (qW r ks)) v:=by
  intro v hv
  refine⟨q6,?_⟩
  cases hsh:((Env.h ⟨nm,h,nx⟩).get p).shape<;>rw[hsh] at q7<;>simp only at q7 ⊢
  ·rcases hv with⟨_,rfl⟩ | ⟨e',g1,rfl⟩
   ·exact⟨_,_,_,rfl⟩
   ·exact (q7 _ _ g1).elim (fun hh=>by cases hh) id
  ·obtain⟨pb,cs,g1,g2,g3⟩:=q7
   refine⟨pb,cs,g1,?_⟩
   rcases hv with⟨g4,rfl⟩ | ⟨e',g4,rfl⟩
   ·rw[List.getElem?_eq_none (by rw[g2,<- hlen];exact List.getElem?_eq_none_iff.1 g4)]
    rfl
   ·exact (g3 _ _ g4).elim (fun hh=>by cases hh) id
 have run:∃ v,(Instr.lookup t (.map (some blk')) (ac.eval x) false).run P w=.ok v w /\ qI ⟨nm,h,nx⟩ (.vw p (qW r ks)) v:=by
  unfold Instr.lookup
  simp only[Sem.run_bind,run_underlying hM.und,Result.andThen_ok,hget,Sem.run_pure,qKv htc hf hk w,r1]
  rcases qVZ r2 with⟨rfl,g1⟩ | ⟨e',g1,rfl,_⟩
  ·exact⟨_,by simp only[Sem.run_bind,hM.zero,Result.andThen_ok,Sem.run_pure];rfl,fin _ (.inl ⟨List.getElem?_eq_none (by rw[hlen,g1];exact Nat.le_refl _),rfl⟩)⟩
  ·exact⟨_,rfl,fin _ (.inr ⟨e',g1,rfl⟩)⟩
 obtain⟨v,v1,v2⟩:=run
 exact⟨_,by simp[execOp,ho,q3,v1],v2⟩
theorem lkp (q k:Nat) (x:Obj) (l:Hp):List.lookup q ((k,x) :: l)=if q=k then some x else List.lookup q l:=by
 by_cases h:q=k
 ·subst h;simp
 ·rw[if_neg h]
  simp[List.lookup,beq_eq_false_iff_ne.2 h]
theorem lkn (q:Nat):List.lookup q ([]:Hp)=none:=rfl
theorem qPs {g:Seg} {ps:PS} (h:PS.of g=some ps):ps.len=0:=by
 cases g<;>simp[PS.of] at h<;>subst h<;>rfl
theorem qYg {t e:TypeId} {ka:Bool} {kks:List CK} {ps:PS} (ho:o.op=.makeMap t none) (hps:ps.len=0):
  qQ P o ρ h nx (.s (.mp nx)) [(nx,.maps ka kks [] (nx+1) none),(nx+1,.pol e ps)] (nx+2):=by
 intro nm w a hr hh N Q hN
 let nm':Nm:=fun q=>if q=nx then some (w.heap.size,0,0) else if q=nx+1 then some (0,0,big+qAH []) else if q<nx then nm q else none
 have n0:nm' nx=some (w.heap.size,0,0):=by simp[nm']
 have n1:nm' (nx+1)=some (0,0,big+qAH []):=by simp[nm']
 have g0:Hp.get ([(nx,Obj.maps ka kks [] (nx+1) none),(nx+1,.pol e ps)]++h) nx=.maps ka kks [] (nx+1) none:=by rw[qm,lkp,if_pos rfl]
 have g1:Hp.get ([(nx,Obj.maps ka kks [] (nx+1) none),(nx+1,.pol e ps)]++h) (nx+1)=.pol e ps:=by rw[qm,lkp,if_neg (by omega),lkp,if_pos rfl]
 have hrel:=qNk (e:=⟨nm,h,nx⟩) (w:=w) (w':=w.alloc (.map #[] 0)) (up:=[(nx,Obj.maps ka kks [] (nx+1) none),(nx+1,.pol e ps)]) (nm':=nm') (nx':=nx+2) (D:=[]) hh (by show nx<=nx+2;omega)
  (fun q hq=>by have hq:q<nx:=hq;simp only[nm'];rw[if_neg (by omega),if_neg (by omega),if_pos hq])
  (fun q hq=>by rw[lkp,if_neg (by omega),lkp,if_neg (by omega),lkn]) (fun q hq=>by cases hq)
  (fun q hq _=>by have hq:q<nx:=hq;rw[lkp,if_neg (by omega),lkp,if_neg (by omega),lkn]) (fun q hq=>by cases hq)
  (fun q hq hd=>by
   have hd:nx<=q:=hd.elim (fun h=>by cases h) id
   by_cases e1:q=nx
   ·subst e1
    unfold qG
    dsimp only
    rw[g0]
    refine⟨w.heap.size,#[],0,n0,heap_alloc_new w _,trivial,by omega,?_⟩
    rw[g1]
    exact⟨0,[],n1,rfl,fun j m hj=>by simp at hj⟩
   ·have e2:q=nx+1:=by omega
    subst e2
    unfold qG
    dsimp only
    rw[g1]
    exact⟨0,[],n1,hps.symm,fun j c hj=>by simp at hj,fun j j' x l k l' k' hj=>by simp at hj⟩)
  (fun q x hq hlt hx=>by
   have hq:nx<=q:=hq
   by_cases e1:q=nx
   ·subst e1
    have:=qCv n0 (by unfold big;omega) hx
    exact .inl (by omega)
   ·have e2:q=nx+1:=by omega
    subst e2
    obtain⟨_,_,h⟩:=(qCN n1).1 hx
    cases h)
  (fun q q' x hq hlt hq' hlt' hne hx hx'=>by
   have hq:nx<=q:=hq
   have hq':nx<=q':=hq'
   have:q=nx+1 \/ q'=nx+1:=by omega
   rcases this with e2 | e2
   ·subst e2
    obtain⟨_,_,h⟩:=(qCN n1).1 hx
    cases h
   ·subst e2
    obtain⟨_,_,h⟩:=(qCN n1).1 hx'
    cases h)
  (fun k hk _=>by simp only[World.alloc,Array.getElem?_push,Nat.ne_of_lt hk,if_false]) rfl rfl rfl (by simp)
 unfold Oper.wp
 have hrun:(execOp a.eval o).run P w=.ok (.value (.map (some w.heap.size))) (w.alloc (.map #[] 0)):=by
  simp[execOp,ho,Instr.makeMap]
 rw[hrun]
 refine hN _ nm' _ ?_ hrel.1 hrel.2.1 hrel.2.2
 refine⟨by show nx<nx+2;omega,?_⟩
 rw[g0]
 exact⟨w.heap.size,0,0,n0,rfl⟩
theorem qky {cl:Call} {x y:Operand} {t:TypeId} {R:Type} {K:Kt R} {r:R} (htab:∀ t L,c.tab.get t=some L->LayOK P c.tab t L) (hby:∀ t n,byN t c.bytes=some n->∃ i,P.info? t=some i /\ i.bytes=n)
  (ho:o.op=.call cl) (hcl:cl.callee=.builtin .append) (ha:cl.args.toList=[x,y]) (ht:cl.argTypes.toList=[t,t]) (hE:qOl c t (ev ρ x) (ev ρ y) h nx K=some r):
  ∃ v up nx',K v up nx'=some r /\ qQ P o ρ h nx v up nx':=by
 have hargs:cl.args = #[x,y]:=by rw[<- ha]
 have htys:cl.argTypes = #[t,t]:=by rw[<- ht]
 unfold qOl at hE
 split at hE<;>try cases hE
 rename_i e p j ob2 lo2 m _ hL hx hy
 split at hE<;>try cases hE
 rename_i e' ps _ _ g2 by_ hp hob2 hbn
 obtain⟨hb,hE2⟩:=qg hE
 clear hE
 simp only[Bool.and_eq_true,Nat.blt_eq] at hb
 obtain⟨⟨⟨hee,hpos⟩,hk1⟩,hk2⟩:=hb
 have hee:=Nat.eq_of_beq_eq_true hee
 subst hee
 rcases qAG hE2 with⟨hsz,hE⟩ | ⟨_,hE⟩<;>try cases hE
 have hsz:=of_decide_eq_true hsz
 split at hE<;>try cases hE
 rename_i g' om hg' _
 split at hE<;>try cases hE
 rename_i ka kks ks q hom
 obtain⟨hqp,hE⟩:=qg hE
 have hqp:=Nat.eq_of_beq_eq_true hqp
 subst hqp
 refine⟨_,_,_,hE,fun nm w a hr hh N Q hN=>?_⟩
 obtain⟨T1,ro1,ga,g0,Le,s1,s2,s3,s4,_,s6,s7⟩:=qH9 hk1
 cases s1
 obtain⟨T2,ro2,gb,g0',Le',s1',s2',s3',s4',_,s6',s7'⟩:=qH9 hk2
 rw[hob2] at s1'
 cases s1'
 rw[s2] at s2'
 cases s2'
 have h1:=hr x (by simp[ho,Op.operands,Call.operands,hcl,hargs])
 rw[hx] at h1
 have h2:=hr y (by simp[ho,Op.operands,Call.operands,hcl,hargs])
 rw[hy] at h2
 obtain⟨hlt,o1,pb,cs,v1,v2,v3,v4,xs,o5,o6,o7,_,_⟩:=qSy (e:=⟨nm,h,nx⟩) hh hp h1
 have hlt:q<nx:=hlt
 obtain⟨p1,p2,vs,p3,p4,p5⟩:=qcm (e:=⟨nm,h,nx⟩) hh h2 hob2 s4'
 obtain⟨i,z,hi,his,hz,hzc⟩:=(htab e Le s2).info
 obtain⟨i',hi',hib⟩:=hby e by_ hbn
 rw[hi] at hi'
 cases hi'
 obtain⟨d,hu,hd⟩:=(htab t _ hL).desc
 simp only at hd
 subst hd
 have hw:ps.wd=i.size:=by rw[<- qFc ps j];omega
 have hw2:g2.shp.width=i.size:=by omega
 obtain⟨k1,k2,k3,k4⟩:=qLT (lo:=lo2) (n:=m) p1 s4' p2
 obtain⟨m1,m2,m3,m4,m5,_⟩:=qWu hg' o1 k1
 rw[k3] at m4
 have m4:g'.shp.rows=(ps.seg j).shp.rows+m:=m4
 have m3:g'.shp.width=ps.wd:=by rw[m3,qFc]
 obtain⟨v',w',a1,a2,a3,a4⟩:=qbo (P:=P) w t o.type e i z hu hi hz (qJ1 hzc his) (by rw[<- hw,<- qFc ps j];exact s6) (a.eval x) _ xs (by rw[<- hw];exact o5) (a.eval y) m vs (by rw[p4,hw2])
  (by rcases p5 with⟨q1,_,q3,q4⟩ | ⟨b,off,c,q1,_,q3⟩
      ·exact .inl ⟨q1,q3,q4⟩
      ·exact .inr ⟨b,off,c,q1,q3⟩)
  (by
   have hfl:(g2.part lo2 m).flat=sub g2.flat (lo2*g2.shp.width) (m*g2.shp.width):=k4
   exact qVX k2 (by rw[hfl];exact p3)) (by rw[hib];exact hsz) (by omega)
 have hqm:q≠om:=fun hh=>by subst hh;rw[hp] at hom;cases hom
 have homl:om<nx:=by
  rcases Nat.lt_or_ge om nx with h1 | h1
  ·exact h1
  ·have:=hh.new om h1
   rw[show (Env.h ⟨nm,h,nx⟩).get om=_ from hom] at this;cases this
 let B:Option (Nat×Nat×Nat):=match v' with
  | .slice (some a) _ c=>some (a.block,0,c)
  | _=>none
 let nm':Nm:=fun r=>if r=nx then B else if r=nx+1 then some (0,0,big+qAH (cs.set j 0)) else if r<nx then nm r else none
 let up:Hp:=[(nx,.sli e false g'),(nx+1,.pol e ps),(q,.dead),(om,.maps ka kks ks (nx+1) (some j))]
 have n0:nm' nx=B:=by simp[nm']
 have n1:nm' (nx+1)=some (0,0,big+qAH (cs.set j 0)):=by simp[nm']
 have nlo:∀ r,r<nx->nm' r=nm r:=fun r hr=>by simp only[nm'];rw[if_neg (by omega),if_neg (by omega),if_pos hr]
 have lk:∀ r,up.lookup r=if r=nx then some (.sli e false g') else if r=nx+1 then some (.pol e ps) else if r=q then some .dead else if r=om then some (.maps ka kks ks (nx+1) (some j)) else none:=fun r=>by
  simp only[up,lkp,lkn]
 have e0:Hp.get (up++h) nx=.sli e false g':=by rw[qm,lk,if_pos rfl]
 have e1:Hp.get (up++h) (nx+1)=.pol e ps:=by rw[qm,lk,if_neg (by omega),if_pos rfl]
 have eq':Hp.get (up++h) q=.dead:=by rw[qm,lk,if_neg (by omega),if_neg (by omega),if_pos rfl]
 have em:Hp.get (up++h) om=.maps ka kks ks (nx+1) (some j):=by rw[qm,lk,if_neg (by omega),if_neg (by omega),if_neg (Ne.symm hqm),if_pos rfl]
 have hB:(∀ x,qCu B x->v'.ownBlock=some x) /\ qG ⟨nm',up++h,nx+2⟩ w' nx /\ qAB nm' nx g'.shp 0 ((ps.seg j).shp.rows+m) true v':=by
  obtain⟨hl,hc⟩:=a2
  obtain⟨_,t1,t2,t3⟩:=qEb m2
  rcases hc with⟨rfl,hz'⟩ | ⟨b,cap,cur,rfl,_,c2,c3,c4,c5,c6⟩
  ·refine⟨fun x hx=>hx.elim,?_,?_⟩
   ·unfold qG
    dsimp only
    rw[e0]
    simp only[n0,B]
    exact⟨m1,by rw[m4];exact hz'⟩
   ·unfold qAB
    simp only[n0,B]
    exact⟨trivial,hz',trivial⟩
  ·have hBe:B=some (b,0,cap):=rfl
   refine⟨fun x hx=>?_,?_,?_⟩
   ·rw[hBe] at hx
    have:=qDB hx (by unfold maxLen at c4;unfold big;omega)
    subst this
    rfl
   ·unfold qG
    dsimp only
    rw[e0]
    simp only[n0,hBe]
    refine⟨m1,trivial,cur,c2,by rw[c5,m3,hw],by rw[m4];exact c3,c4,?_⟩
    rw[t3,<- t2,m4,m3,hw,c6,m5,k4]
    exact qB.append o6 p3
   ·unfold qAB
    simp only[n0,hBe]
    exact⟨cap,by simp,c3,by omega,by simp⟩
 obtain⟨hB1,hB2,hB3⟩:=hB
 have hsub:∀ x,(∃ l k,cs[j]? = some (qAN x l k))->Has nm q x:=fun x ⟨l,k,hj⟩=>(qCN v1).2 ⟨l,k,List.mem_of_getElem? hj⟩
 have qAT:∀ j' x l k,(cs.set j 0)[j']? = some (qAN x l k)->j'≠j /\ cs[j']? = some (qAN x l k):=fun j' x l k hj=>by
  rw[List.getElem?_set] at hj
  by_cases hjj:j=j'
  ·rw[if_pos hjj] at hj
   split at hj
   ·have:=qMS x l k;simp only[Option.some.injEq] at hj;omega
   ·cases hj
  ·rw[if_neg hjj] at hj;exact⟨Ne.symm hjj,hj⟩
 have hnewsub:∀ x,Has nm' (nx+1) x->∃ j' l k,j'≠j /\ cs[j']? = some (qAN x l k):=fun x hx=>by
  obtain⟨l,k,hm⟩:=(qCN n1).1 hx
  obtain⟨j',hj⟩:=List.mem_iff_getElem?.1 hm
  obtain⟨q1,q2⟩:=qAT j' x l k hj
  exact⟨j',l,k,q1,q2⟩
 have hqlive:((Env.h ⟨nm,h,nx⟩).get q).owned=true:=by show (h.get q).owned=true;rw[hp];rfl
 have homo:((Env.h ⟨nm,h,nx⟩).get om).owned=true:=by show (h.get om).owned=true;rw[hom];rfl
 have hql:∀ x,Has nm q x->x<w.heap.size:=fun x hx=>qG.lt (hh.obj q) (qAr hqlive) hx
 have hmap:qG ⟨nm',up++h,nx+2⟩ w' om:=by
  have:=hh.obj om
  unfold qG at this
  rw[show (Env.h ⟨nm,h,nx⟩).get om=_ from hom] at this
  obtain⟨b,ents,clock,r1,r2,r3,r4,r5⟩:=this
  rw[show (Env.h ⟨nm,h,nx⟩).get q=_ from hp] at r5
  obtain⟨pb',cs',r6,r7,r8⟩:=r5
  obtain rfl:=qIu v1 r6
  unfold qG
  dsimp only
  rw[em]
  have hbl:b<w.heap.size:=(Array.getElem?_eq_some_iff.1 r2).1
  refine⟨b,ents,clock,by rw[nlo om homl];exact r1,?_,r3,by omega,?_⟩
  ·rw[a3.block b hbl fun hh'=>hh.apart q om b hqm hqlive (qAr homo) (hsub b (o7 b hh'.symm)) (qCc r1)];exact r2
  ·rw[e1]
   refine⟨0,cs'.set j 0,n1,by rw[List.length_set];exact r7,fun j' mm hj'=>?_⟩
   by_cases hjj:j=j'
   ·exact .inl (by rw[hjj])
   ·refine .inr ?_
    rw[List.getElem?_set,if_neg hjj]
    exact (r8 j' mm hj').elim (fun h=>by cases h) id
 have hpol:qG ⟨nm',up++h,nx+2⟩ w' (nx+1):=by
  unfold qG
  dsimp only
  rw[e1]
  refine⟨0,cs.set j 0,n1,by rw[List.length_set];exact v2,fun j' cc hj'=>?_,fun j1 j2 x l k l' k' g1 g2=>v4 j1 j2 x l k l' k' (qAT _ _ _ _ g1).2 (qAT _ _ _ _ g2).2⟩
  rw[List.getElem?_set] at hj'
  by_cases hjj:j=j'
  ·rw[if_pos hjj] at hj'
   split at hj'<;>cases hj'
   exact .inl rfl
  ·rw[if_neg hjj] at hj'
   refine (v3 j' cc hj').imp id fun hs=>hs.frame fun x l k hc=>?_
   subst hc
   refine a3.block x (hql x ((qCN v1).2 ⟨l,k,List.mem_of_getElem? hj'⟩)) fun hh'=>?_
   obtain⟨l',k',hj2⟩:=o7 x hh'.symm
   exact hjj (v4 j j' x l' k' l k hj2 hj')
 have hrel:=qNk (e:=⟨nm,h,nx⟩) (w:=w) (w':=w') (up:=up) (nm':=nm') (nx':=nx+2) (D:=[q,om]) hh (by show nx<=nx+2;omega)
  (fun r hr=>nlo r hr)
  (fun r hr=>by rw[lk,if_neg (by omega),if_neg (by omega),if_neg (by omega),if_neg (by omega)])
  (fun r hr=>by
   rcases List.mem_cons.1 hr with rfl | hr
   ·exact⟨hlt,hqlive⟩
   ·rw[List.mem_singleton.1 hr];exact⟨homl,homo⟩)
  (fun r hr hd=>by
   have hr:r<nx:=hr
   simp only[List.mem_cons,List.not_mem_nil,or_false,not_or] at hd
   rw[lk,if_neg (by omega),if_neg (by omega),if_neg hd.1,if_neg hd.2])
  (fun r hr=>by
   rcases List.mem_cons.1 hr with rfl | hr
   ·right;show (Hp.get (up++h) r).shape=_;rw[eq'];rfl
   ·rw[List.mem_singleton.1 hr]
    left;show (Hp.get (up++h) om).shape=(h.get om).shape;rw[em,hom];rfl)
  (fun r hr hd=>by
   rcases hd with hd | hd
   ·rcases List.mem_cons.1 hd with rfl | hd
    ·unfold qG
     dsimp only
     rw[eq'];trivial
    ·rw[List.mem_singleton.1 hd];exact hmap
   ·have hd:nx<=r:=hd
    by_cases e1:r=nx
    ·subst e1;exact hB2
    ·have e2:r=nx+1:=by omega
     subst e2;exact hpol)
  (fun r x hq hlt' hx=>by
   have hq:nx<=r:=hq
   by_cases e1:r=nx
   ·subst e1
    have hx:qCu B x:=by unfold Has at hx;rwa [n0] at hx
    rcases a4 x (hB1 x hx) with h3 | h3
    ·exact .inl h3
    ·exact .inr ⟨q,by simp,hsub x (o7 x h3),by show (Hp.get (up++h) q).shape=_;rw[eq'];rfl⟩
   ·have e2:r=nx+1:=by omega
    subst e2
    obtain⟨j',l,k,_,hj⟩:=hnewsub x hx
    exact .inr ⟨q,by simp,(qCN v1).2 ⟨l,k,List.mem_of_getElem? hj⟩,by show (Hp.get (up++h) q).shape=_;rw[eq'];rfl⟩)
  (fun r r' x hq hlt' hq' hlt'' hne hx hx'=>by
   have hq:nx<=r:=hq
   have hq':nx<=r':=hq'
   have key:Has nm' nx x->Has nm' (nx+1) x->False:=fun hx hx'=>by
    have hx:qCu B x:=by unfold Has at hx;rwa [n0] at hx
    obtain⟨j',l,k,hjj,hj⟩:=hnewsub x hx'
    rcases a4 x (hB1 x hx) with h3 | h3
    ·have:=hql x ((qCN v1).2 ⟨l,k,List.mem_of_getElem? hj⟩);omega
    ·obtain⟨l',k',hj2⟩:=o7 x h3
     exact hjj (v4 j' j x l k l' k' hj hj2)
   by_cases e1:r=nx
   ·have e2:r'=nx+1:=by omega
    subst e1;subst e2;exact key hx hx'
   ·have e2:r=nx+1:=by omega
    have e3:r'=nx:=by omega
    subst e3;subst e2;exact key hx' hx)
  (fun k hk hno=>a3.block k hk fun hh'=>hno q (by simp) (hsub k (o7 k hh'.symm)))
  a3.os a3.tape a3.output a3.size
 unfold Oper.wp
 have hrun:(execOp a.eval o).run P w=.ok (.value v') w':=by
  simp[execOp,ho,resolve,hcl,hargs,htys,invoke,builtin,a1]
 rw[hrun]
 refine hN v' nm' w' ⟨by show nx<nx+2;omega,?_⟩ hrel.1 hrel.2.1 hrel.2.2
 show match (Hp.get (up++h) nx).shape with | _=>_
 rw[e0]
 exact hB3
theorem qmM {ps ps':PS} {i:Nat} {g:Seg} (h:PS.put ps i g=some ps'):g.isTbl=true /\ g.shp.width=ps.wd /\ ps'.wd=ps.wd /\
  (g.ok->i<=ps.len->ps'.len=(if i<ps.len then ps.len else ps.len+1) /\ ps'.seg i=g /\ ∀ j,j≠i->ps'.seg j=ps.seg j):=by
 unfold PS.put at h
 split at h
 ·rename_i k l k' n x
  obtain⟨hk,hg⟩:=qIg h
  subst hk
  subst hg
  refine⟨rfl,rfl,rfl,fun ho hi=>⟨qHn l i x hi,?_,fun j hj=>?_⟩⟩
  ·obtain⟨h1,_⟩:=ho
   simp only[PS.seg,List.getD_eq_getElem?_getD,qFL l i x i hi,if_true,Option.getD_some,h1]
  ·simp only[PS.seg,List.getD_eq_getElem?_getD,qFL l i x j hi,if_neg hj]
 ·rename_i ks l ks' n x
  obtain⟨hk,hg⟩:=qIg h
  subst hk
  subst hg
  refine⟨rfl,rfl,rfl,fun ho hi=>⟨qHn l i x hi,?_,fun j hj=>?_⟩⟩
  ·obtain⟨h1,_⟩:=ho
   simp only[PS.seg,List.getD_eq_getElem?_getD,qFL l i x i hi,if_true,Option.getD_some,h1]
  ·simp only[PS.seg,List.getD_eq_getElem?_getD,qFL l i x j hi,if_neg hj]
 ·cases h
theorem qll {g:Seg} {lo n:Nat} (h:(g.part lo n).isTbl=true):g.isTbl=true:=by cases g<;>first | rfl | cases h
theorem qlN {t k e e':TypeId} {m x y:Operand} {ob ob2 p lo len:Nat} {Lk:Lay} {a:List CK} {ks:List (List Int)} {r:List Int} {l:Option Nat} {ps ps':PS} {g:Seg} (ho:o.op=.mapUpdate t m x y)
  (hm:ev ρ m=.s (.mp ob)) (hx:(ev ρ x).row? = some (Lk.isAgg,a,r)) (hy:ev ρ y=.s (.sl ob2 lo len true)) (hob:h.get ob=.maps Lk.isAgg a ks p l) (hp:h.get p=.pol e' ps) (hob2:h.get ob2=.sli e' false g)
  (hM:MapsOK P t k e e' Lk a) (hl:qIf l (qW r ks)=true) (hps:PS.put ps (qW r ks) (g.part 0 len)=some ps'):
  qQ P o ρ h nx qCF [(nx,.pol e' ps'),(ob2,.dead),(p,.dead),(ob,.maps Lk.isAgg a (qAj r ks) nx none)] (nx+1):=by
 intro nm w ac hr hh N Q hN
 have h1:=hr m (by simp[ho,Op.operands])
 have h2:=hr x (by simp[ho,Op.operands])
 have h3:=hr y (by simp[ho,Op.operands])
 rw[hm] at h1
 rw[hy] at h3
 obtain⟨t1,t2,t3,t4⟩:=qmM hps
 have hgt:=qll t1
 obtain⟨q1,blk',ents,clock,q2,q3,q4,q5,q6,q7⟩:=qYC hh h1 hob
 have q1:ob<nx:=q1
 have q6:p<nx:=q6
 rw[show (Env.h ⟨nm,h,nx⟩).get p=_ from hp] at q7
 obtain⟨pb,cs,q8,q9,q10⟩:=q7
 obtain⟨pb',cs',g1,g2,g3,g4⟩:=qP7 (e:=⟨nm,h,nx⟩) hh hp
 obtain rfl:=qIu q8 g1
 have ob2l:ob2<nx:=h3.1
 obtain⟨s1,s2,s3,s4,xs,s5,s6⟩:=qcn (e:=⟨nm,h,nx⟩) hh h3 hob2 hgt
 have hil:qW r ks<=ps.len:=by rw[<- g2,q9];exact qOn r ks
 have hile:qW r ks<=cs'.length:=by rw[g2];exact hil
 obtain⟨k1,k2,k3,k4⟩:=qLT (lo:=0) (n:=len) s1 hgt (by omega)
 obtain⟨t5,t6,t7⟩:=t4 k1 hil
 have hk:=qJY h2 hx
 rw[<- hM.kagg] at hk q5
 obtain⟨f,hf,htc⟩:=hM.key
 obtain⟨res,r1,r2⟩:=qKw htc hf hk w (qXL q5)
 have hget:(getObj blk').run P w=.ok (.map ents clock) w:=by simp[getObj,Sem.run,q4]
 have qAT:∀ ob',(setObj blk' ob').run P w=.ok () { w with heap:=w.heap.setIfInBounds blk' ob'}:=fun ob'=>by simp[setObj,Sem.run,q4]
 have helen:ents.toList.length=ks.length:=(qB.length q5).symm
 have run:∃ ents' clock',(Instr.mapUpdate t (.map (some blk')) (ac.eval x) (ac.eval y)).run P w=.ok () { w with heap:=w.heap.setIfInBounds blk' (.map ents' clock') } /\
   qB (fun r m=>qAS (qAn P k) a r m.key) (qAj r ks) ents'.toList /\ ∀ j m,ents'.toList[j]? = some m->(j=qW r ks /\ m.val=ac.eval y) \/ (j≠qW r ks /\ ∃ m0,ents.toList[j]? = some m0 /\ m.val=m0.val):=by
  unfold Instr.mapUpdate
  simp only[Sem.run_bind,run_underlying hM.und,Result.andThen_ok,hget,qKv htc hf hk w,r1]
  rcases qVZ r2 with⟨rfl,e1⟩ | ⟨e1,e2,rfl,e3⟩
  ·refine⟨_,_,qAT _,?_,fun j mm hj=>?_⟩
   ·rw[Array.toList_push,qLZ,e1]
    have:qAR ks ks.length r=ks++[r]:=by
     apply List.ext_getElem?
     intro j
     rw[qFL ks _ r j (Nat.le_refl _)]
     by_cases hj:j=ks.length
     ·subst hj;simp
     ·rw[if_neg hj]
      rcases Nat.lt_or_ge j ks.length with h | h
      ·rw[List.getElem?_append_left h]
      ·rw[List.getElem?_eq_none (by omega),List.getElem?_eq_none (by simp;omega)]
    rw[this]
    exact qS8 q5 hk
   ·rw[Array.toList_push] at hj
    rcases Nat.lt_or_ge j ents.toList.length with h | h
    ·rw[List.getElem?_append_left h] at hj
     exact .inr ⟨by omega,mm,hj,rfl⟩
    ·rw[List.getElem?_append_right h] at hj
     have:j - ents.toList.length=0:=by
      cases hd:j - ents.toList.length with
      | zero=>rfl
      | succ d=>rw[hd] at hj;simp at hj
     rw[this] at hj
     simp only[List.getElem?_cons_zero,Option.some.injEq] at hj
     exact .inl ⟨by omega,by rw[<- hj]⟩
  ·have e2':ents[qW r ks]? = some e1:=by rw[<- Array.getElem?_toList];exact e2
   have hkr:ks[qW r ks]? = some r:=by
    obtain⟨i,e',u,e4,e5,e6,e7,e8⟩:=r2
    have:i=qW r ks:=by omega
    subst this
    rw[List.getElem?_map] at e7
    cases hk:ks[qW r ks]? with
    | none=>rw[hk] at e7;cases e7
    | some k=>rw[hk] at e7;simp at e7;rw[e7.1]
   obtain⟨e4,e5,e6⟩:=qB.get _ q5 hkr
   rw[e2] at e5
   cases e5
   have hkey:e1.key=ac.eval x:=qAS.eq e6 hk
   have hstay:(Instr.keyThatStays (((ents[qW r ks]?).map (·.key)).getD (ac.eval x)) (ac.eval x)).run P w=.ok (ac.eval x) w:=by
    rw[e2']
    simp only[Option.map_some,Option.getD_some,hkey]
    exact qcq hk w
   refine⟨ents.modify (qW r ks) fun e=>{e with key:=ac.eval x,val:=ac.eval y},clock,?_,?_,fun j mm hj=>?_⟩
   ·simp only[Sem.run_bind,hstay,Result.andThen_ok]
    exact qAT _
   ·have hpk:qAj r ks=ks.set (qW r ks) r:=by
     rw[qLZ]
     apply List.ext_getElem?
     intro j
     rw[qFL ks _ r j (by omega),List.getElem?_set]
     by_cases hj:j=qW r ks
     ·subst hj;rw[if_pos rfl,if_pos rfl,if_pos e3]
     ·rw[if_neg hj,if_neg (Ne.symm hj)]
    rw[hpk,Array.toList_modify]
    exact qMc q5 e2 hk
   ·rw[Array.toList_modify,List.getElem?_modify] at hj
    by_cases hji:qW r ks=j
    ·subst hji
     rw[e2] at hj
     simp at hj
     exact .inl ⟨rfl,by rw[<- hj]⟩
    ·refine .inr ⟨Ne.symm hji,mm,?_,rfl⟩
     cases hjj:ents.toList[j]? with
     | none=>rw[hjj] at hj;simp at hj
     | some m0=>rw[hjj] at hj;simp[hji] at hj;rw[hj]
 obtain⟨ents',clock',v1,v2,v3⟩:=run
 rw[hM.kagg] at v2
 have hblt:blk'<w.heap.size:=(Array.getElem?_eq_some_iff.1 q4).1
 let w':World:={w with heap:=w.heap.setIfInBounds blk' (.map ents' clock')}
 have hw':∀ k,k≠blk'->w'.heap[k]? = w.heap[k]?:=fun k hk=>by simp only[w'];rw[Array.getElem?_setIfInBounds_ne (Ne.symm hk)]
 have obp:ob≠p:=fun hh=>by subst hh;rw[hob] at hp;cases hp
 have ob2p:ob2≠p:=fun hh=>by subst hh;rw[hob2] at hp;cases hp
 have obo:ob≠ob2:=fun hh=>by subst hh;rw[hob] at hob2;cases hob2
 have ownp:((Env.h ⟨nm,h,nx⟩).get p).owned=true:=by show (h.get p).owned=true;rw[hp];rfl
 have ownb:((Env.h ⟨nm,h,nx⟩).get ob).owned=true:=by show (h.get ob).owned=true;rw[hob];rfl
 have own2:((Env.h ⟨nm,h,nx⟩).get ob2).owned=true:=by show (h.get ob2).owned=true;rw[hob2];rfl
 have main:Has nm ob blk':=qCc q2
 let C:Nat:=match ac.eval y with
  | .slice (some a) _ cap=>qAN a.block len cap
  | _=>1
 let nm':Nm:=fun q=>if q=nx then some (0,0,big+qAH (qAR cs' (qW r ks) C)) else if q<nx then nm q else none
 let up:Hp:=[(nx,.pol e' ps'),(ob2,.dead),(p,.dead),(ob,.maps Lk.isAgg a (qAj r ks) nx none)]
 have n0:nm' nx=some (0,0,big+qAH (qAR cs' (qW r ks) C)):=by simp[nm']
 have nlo:∀ q,q<nx->nm' q=nm q:=fun q hq=>by simp only[nm'];rw[if_neg (by omega),if_pos hq]
 have lk:∀ q,up.lookup q=if q=nx then some (.pol e' ps') else if q=ob2 then some .dead else if q=p then some .dead else if q=ob then some (.maps Lk.isAgg a (qAj r ks) nx none) else none:=fun q=>by
  simp only[up,lkp,lkn]
 have e0:Hp.get (up++h) nx=.pol e' ps':=by rw[qm,lk,if_pos rfl]
 have e2:Hp.get (up++h) ob2=.dead:=by rw[qm,lk,if_neg (by omega),if_pos rfl]
 have ep:Hp.get (up++h) p=.dead:=by rw[qm,lk,if_neg (by omega),if_neg (Ne.symm ob2p),if_pos rfl]
 have eb:Hp.get (up++h) ob=.maps Lk.isAgg a (qAj r ks) nx none:=by rw[qm,lk,if_neg (by omega),if_neg obo,if_neg obp,if_pos rfl]
 have hget':∀ j,(qAR cs' (qW r ks) C)[j]? = if j=qW r ks then some C else cs'[j]?:=fun j=>qFL cs' _ C j hile
 have hCs:(C=1 /\ len=0 /\ ac.eval y=.slice none 0 0) \/ ∃ b cap cur,C=qAN b len cap /\ ac.eval y=.slice (some ⟨b,0,none⟩) len cap /\ Has nm ob2 b /\ w.heap[b]? = some (.cells cur e' (0,0)) /\ cur.size=cap*g.shp.width /\ len<=cap /\ cap<=maxLen /\ cur.toList.take (len*g.shp.width)=xs:=by
  obtain⟨hl',hc⟩:=s5
  rcases hc with⟨hv,hz⟩ | ⟨b,cap,cur,hv,_,c2,c3,c4,c5,c6⟩
  ·left
   subst hz
   refine⟨?_,rfl,hv⟩
   show (match ac.eval y with
    | .slice (some a) _ cap=>qAN a.block 0 cap
    | _=>1)=1
   rw[hv]
  ·right
   refine⟨b,cap,cur,?_,hv,qG.blk_has (e:=⟨nm,h,nx⟩) (hh.obj ob2) hob2 ?_,c2,c5,c3,c4,c6⟩
   ·show (match ac.eval y with
     | .slice (some a) _ cap=>qAN a.block len cap
     | _=>1)=_
    rw[hv]
   ·rw[<- show (ac.eval y).ownBlock=blk nm ob2 from s4,hv];rfl
 have hVw:qEh (some C) (ac.eval y):=by
  rcases hCs with⟨c1,_,c2⟩ | ⟨b,cap,cur,c1,c2,_⟩
  ·exact .inl ⟨c1,c2⟩
  ·exact .inr ⟨b,len,cap,c1,c2⟩
 have hblkC:∀ x l' k',C=qAN x l' k'->Has nm ob2 x:=fun x l' k' hC=>by
  rcases hCs with⟨c1,_,_⟩ | ⟨b,cap,cur,c1,_,c3,_⟩
  ·exact absurd (hC.symm.trans c1) (qJo _ _ _)
  ·rw[hC] at c1
   obtain⟨rfl,_,_⟩:=qMR c1
   exact c3
 have hpsub:∀ x j l' k',cs'[j]? = some (qAN x l' k')->Has nm p x:=fun x j l' k' hj=>(qCN q8).2 ⟨l',k',List.mem_of_getElem? hj⟩
 have hslot:qFl w' e' (g.part 0 len) C:=by
  have krows:(g.part 0 len).shp.rows=len:=by rw[k3];rfl
  have kw:(g.part 0 len).shp.width=g.shp.width:=by rw[k3];rfl
  have ksz:(g.part 0 len).shp.size=len*g.shp.width:=by rw[k3];rfl
  refine⟨k1,?_⟩
  rcases hCs with⟨c1,c2,_⟩ | ⟨b,cap,cur,c1,c2,c3,c4,c5,c6,c7,c8⟩
  ·exact .inl ⟨c1,by rw[krows,c2]⟩
  ·refine .inr ⟨b,cap,cur,by rw[krows];exact c1,?_,by rw[kw];exact c5,by rw[krows];exact c6,c7,?_⟩
   ·rw[hw' b fun hb=>hh.apart ob ob2 b obo ownb (qAr own2) (by rw[hb];exact main) c3];exact c4
   ·rw[ksz,c8,k4,Nat.zero_mul];exact s6
 have hpol:qG ⟨nm',up++h,nx+1⟩ w' nx:=by
  unfold qG
  dsimp only
  rw[e0]
  refine⟨0,_,n0,?_,fun j cc hj=>?_,fun j1 j2 x l1 l2 l3 l4 g5 g6=>?_⟩
  ·rw[qHn _ _ _ hile,t5,g2]
  ·rw[hget'] at hj
   by_cases hji:j=qW r ks
   ·rw[if_pos hji] at hj
    cases hj
    rw[hji,t6]
    exact .inr hslot
   ·rw[if_neg hji] at hj
    rw[t7 j hji]
    refine (g3 j cc hj).imp id fun hs=>hs.frame fun x l1 k1 hc=>hw' x fun hxb=>?_
    subst hc
    exact hh.apart ob p x obp ownb (qAr ownp) (by rw[hxb];exact main) (hpsub x j l1 k1 hj)
  ·rw[hget'] at g5 g6
   by_cases h1:j1=qW r ks<;>by_cases h2:j2=qW r ks
   ·omega
   ·exfalso
    rw[if_pos h1] at g5
    rw[if_neg h2] at g6
    exact hh.apart ob2 p x ob2p own2 (qAr ownp) (hblkC x _ _ (by simpa using g5)) (hpsub x j2 _ _ g6)
   ·exfalso
    rw[if_neg h1] at g5
    rw[if_pos h2] at g6
    exact hh.apart ob2 p x ob2p own2 (qAr ownp) (hblkC x _ _ (by simpa using g6)) (hpsub x j1 _ _ g5)
   ·rw[if_neg h1] at g5
    rw[if_neg h2] at g6
    exact g4 j1 j2 x _ _ _ _ g5 g6
 have hmap:qG ⟨nm',up++h,nx+1⟩ w' ob:=by
  unfold qG
  dsimp only
  rw[eb]
  refine⟨blk',ents',clock',by rw[nlo ob q1];exact q2,by simp[w',hblt],v2,by omega,?_⟩
  rw[e0]
  refine⟨0,_,n0,?_,fun j mm hj=>.inr ?_⟩
  ·rw[qHn _ _ _ hile,qLZ,qHn _ _ _ (qOn r ks),q9]
  ·rw[hget']
   rcases v3 j mm hj with⟨h1,h2⟩ | ⟨h1,m0,h2,h3⟩
   ·rw[if_pos h1,h2];exact hVw
   ·rw[if_neg h1,h3]
    refine (q10 j m0 h2).elim (fun hlj=>?_) id
    exfalso
    rw[hlj] at hl
    exact h1 (Nat.eq_of_beq_eq_true hl)
 have hrel:=qNk (e:=⟨nm,h,nx⟩) (w:=w) (w':=w') (up:=up) (nm':=nm') (nx':=nx+1) (D:=[ob,p,ob2]) hh (by show nx<=nx+1;omega)
  (fun r hr=>nlo r hr)
  (fun r hr=>by rw[lk,if_neg (by omega),if_neg (by omega),if_neg (by omega),if_neg (by omega)])
  (fun r hr=>by
   simp only[List.mem_cons,List.not_mem_nil,or_false] at hr
   rcases hr with rfl | rfl | rfl
   ·exact⟨q1,ownb⟩
   ·exact⟨q6,ownp⟩
   ·exact⟨ob2l,own2⟩)
  (fun r hr hd=>by
   have hr:r<nx:=hr
   simp only[List.mem_cons,List.not_mem_nil,or_false,not_or] at hd
   rw[lk,if_neg (by omega),if_neg hd.2.2,if_neg hd.2.1,if_neg hd.1])
  (fun r hr=>by
   simp only[List.mem_cons,List.not_mem_nil,or_false] at hr
   rcases hr with rfl | rfl | rfl
   ·left;show (Hp.get (up++h) r).shape=(h.get r).shape;rw[eb,hob];rfl
   ·right;show (Hp.get (up++h) r).shape=_;rw[ep];rfl
   ·right;show (Hp.get (up++h) r).shape=_;rw[e2];rfl)
  (fun r hr hd=>by
   rcases hd with hd | hd
   ·simp only[List.mem_cons,List.not_mem_nil,or_false] at hd
    rcases hd with rfl | rfl | rfl
    ·exact hmap
    ·unfold qG;dsimp only;rw[ep];trivial
    ·unfold qG;dsimp only;rw[e2];trivial
   ·have hd:nx<=r:=hd
    have e1:r=nx:=by omega
    subst e1;exact hpol)
  (fun r' x hq hlt' hx=>by
   have hq:nx<=r':=hq
   have e1:r'=nx:=by omega
   subst e1
   obtain⟨l1,k1,hm⟩:=(qCN n0).1 hx
   obtain⟨j,hj⟩:=List.mem_iff_getElem?.1 hm
   rw[hget'] at hj
   by_cases hji:j=qW r ks
   ·rw[if_pos hji] at hj
    exact .inr ⟨ob2,by simp,hblkC x l1 k1 (by simpa using hj),by show (Hp.get (up++h) ob2).shape=_;rw[e2];rfl⟩
   ·rw[if_neg hji] at hj
    exact .inr ⟨p,by simp,hpsub x j l1 k1 hj,by show (Hp.get (up++h) p).shape=_;rw[ep];rfl⟩)
  (fun r r' x hq hlt' hq' hlt'' hne hx hx'=>by
   have hq:nx<=r:=hq
   have hq':nx<=r':=hq'
   omega)
  (fun k hk hno=>hw' k fun hkb=>hno ob (by simp) (by rw[hkb];exact main)) rfl rfl rfl (by simp[w'])
 unfold Oper.wp
 have hex:(execOp ac.eval o).run P w=.ok .skip w':=by
  simp only[execOp,ho,q3,Sem.run_bind,v1,Result.andThen_ok]
  rfl
 rw[hex]
 exact hN undef nm' w' ⟨#[],rfl,trivial⟩ hrel.1 hrel.2.1 hrel.2.2
end
end Go.Kk
