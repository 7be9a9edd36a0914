/-
 Slices that are made, grown, cut, emptied; function values that are made: the pure interpreter's answer is the machine's.
-/
import Derived.Test.YthklalefbhbhmaaGreatDoorKkO
namespace Go.Kk
section
variable {γ δ:Type} {f:γ->List δ} {w:Nat}
theorem qhE (xs:List γ) (hf:∀ x∈xs,(f x).length=w) (n:Nat):(xs.take n).flatMap f=(xs.flatMap f).take (n*w):=by
 induction xs generalizing n with
 | nil=>simp
 | cons x xs ih=>
   cases n with
   | zero=>simp
   | succ n=>
     have hx:=hf x (by simp)
     rw[List.take_succ_cons,List.flatMap_cons,List.flatMap_cons,ih (fun y hy=>hf y (by simp[hy])),List.take_append,hx,Nat.add_mul,Nat.one_mul,
      List.take_of_length_le (l:=f x) (by omega),Nat.add_sub_cancel]
theorem qhA (xs:List γ) (hf:∀ x∈xs,(f x).length=w) (n:Nat):(xs.drop n).flatMap f=(xs.flatMap f).drop (n*w):=by
 induction xs generalizing n with
 | nil=>simp
 | cons x xs ih=>
   cases n with
   | zero=>simp
   | succ n=>
     have hx:=hf x (by simp)
     rw[List.drop_succ_cons,List.flatMap_cons,ih (fun y hy=>hf y (by simp[hy])),List.drop_append,hx,Nat.add_mul,Nat.one_mul,
      List.drop_eq_nil_of_le (as:=f x) (by omega),Nat.add_sub_cancel,List.nil_append]
end
theorem qEb {g:Seg} (h:g.isTbl=true):∃ n,g.shp=.tbl g.shp.width n /\ g.shp.rows=n /\ g.shp.size=n*g.shp.width:=by
 cases g<;>simp[Seg.isTbl] at h<;>exact⟨_,rfl,rfl,rfl⟩
theorem qLT {g:Seg} (h:g.ok) (ht:g.isTbl=true) {lo n:Nat} (hn:lo+n<=g.shp.rows):
  (g.part lo n).ok /\ (g.part lo n).isTbl=true /\ (g.part lo n).shp=.tbl g.shp.width n /\ (g.part lo n).flat=sub g.flat (lo*g.shp.width) (n*g.shp.width):=by
 cases g with
 | one vs=>cases ht
 | arr k m l=>
   obtain⟨h1,h2⟩:=h
   simp only[Seg.shp,Shp.rows] at hn
   refine⟨⟨by simp;omega,fun x hx=>h2 x (List.mem_of_mem_drop (List.mem_of_mem_take hx))⟩,rfl,rfl,?_⟩
   simp[Seg.part,Seg.flat,Seg.shp,Shp.width,sub,List.map_take,List.map_drop]
 | barr m l=>
   have h1:l.length=m:=h
   simp only[Seg.shp,Shp.rows] at hn
   refine⟨by show (List.take n (List.drop lo l)).length=n;simp;omega,rfl,rfl,?_⟩
   simp[Seg.part,Seg.flat,Seg.shp,Shp.width,sub,List.map_take,List.map_drop]
 | rows ks m xs=>
   obtain⟨h1,h2⟩:=h
   simp only[Seg.shp,Shp.rows] at hn
   refine⟨⟨by simp;omega,fun x hx=>h2 x (List.mem_of_mem_drop (List.mem_of_mem_take hx))⟩,rfl,rfl,?_⟩
   simp only[Seg.part,Seg.flat,Seg.shp,Shp.width,sub]
   have hw:∀ x∈xs,(mks ks x).length=ks.length:=fun x _=>qBP ks x
   rw[qhE _ (fun x hx=>hw x (List.mem_of_mem_drop hx)),qhA _ hw]
theorem qIg {α:Type} {p:Prop} [Decidable p] {x r:α} (h:(bif decide p then some x else none)=some r):p /\ x=r:=by
 cases hd:decide p with
 | false=>rw[hd] at h;cases h
 | true=>rw[hd] at h;exact⟨of_decide_eq_true hd,Option.some.inj h⟩
theorem qWu {a b g:Seg} (h:Seg.join a b=some g) (ha:a.ok) (hb:b.ok):
  g.ok /\ g.isTbl=true /\ g.shp.width=a.shp.width /\ g.shp.rows=a.shp.rows+b.shp.rows /\ g.flat=a.flat++b.flat /\ b.shp.width=a.shp.width:=by
 unfold Seg.join at h
 split at h
 ·rename_i k n l k' n' l'
  obtain⟨hk,hg⟩:=qIg h
  subst hk
  subst hg
  obtain⟨a1,a2⟩:=ha
  obtain⟨b1,b2⟩:=hb
  refine⟨⟨by simp[a1,b1],fun x hx=>?_⟩,rfl,rfl,rfl,by simp[Seg.flat],rfl⟩
  rcases List.mem_append.1 hx with hx | hx
  ·exact a2 x hx
  ·exact b2 x hx
 ·rename_i n l n' l'
  cases h
  have ha:l.length=n:=ha
  have hb:l'.length=n':=hb
  exact⟨by show (l++l').length=_;simp[ha,hb],rfl,rfl,rfl,by simp[Seg.flat],rfl⟩
 ·rename_i ks n l ks' n' l'
  obtain⟨hk,hg⟩:=qIg h
  subst hk
  subst hg
  obtain⟨a1,a2⟩:=ha
  obtain⟨b1,b2⟩:=hb
  refine⟨⟨by simp[a1,b1],fun x hx=>?_⟩,rfl,rfl,rfl,by simp[Seg.flat],rfl⟩
  rcases List.mem_append.1 hx with hx | hx
  ·exact a2 x hx
  ·exact b2 x hx
 ·cases h
theorem qH9 {x:Obj} {L:Option Lay} (h:qBa x (qz L)=true):
  ∃ T ro g g0 Le,x=.sli T ro g /\ L=some Le /\ qz L=some g0 /\ g.isTbl=true /\ g.shp.width=g0.shp.width /\ 0<g.shp.width /\ g.shp.width=Le.size:=by
 have key:∀ g0,qz L=some g0->qBa x (some g0)=true->∃ T ro g,x=.sli T ro g /\ g.isTbl=true /\ g.shp.width=g0.shp.width /\ 0<g.shp.width:=by
  intro g0 hg0 hk
  unfold qBa at hk
  split at hk
  ·rename_i e;cases e;exact⟨_,_,_,rfl,rfl,rfl,Nat.one_pos⟩
  ·rename_i e;cases e;exact⟨_,_,_,rfl,rfl,rfl,Nat.one_pos⟩
  ·rename_i e
   cases e
   simp only[Bool.and_eq_true,decide_eq_true_eq,Nat.blt_eq] at hk
   obtain⟨rfl,hk2⟩:=hk
   exact⟨_,_,_,rfl,rfl,rfl,hk2⟩
  ·cases hk
 cases he:qz L with
 | none=>
   rw[he] at h
   exfalso
   unfold qBa at h
   split at h<;>first | (rename_i e;cases e;done) | cases h
 | some g0=>
   rw[he] at h
   obtain⟨T,ro,g,h1,h2,h3,h4⟩:=key g0 he h
   cases L with
   | none=>simp[qz] at he
   | some Le=>
     refine⟨T,ro,g,g0,Le,h1,rfl,rfl,h2,h3,h4,?_⟩
     rcases qIw he with⟨q,_⟩ | q<;>omega
theorem qVX {e:Env} {g:Seg} (ht:g.isTbl=true):∀ {vs:List Value},qB (qI e) g.flat vs->∀ u∈vs,u.oneCell'=true:=by
 intro vs h
 have hg:∀ s∈g.flat,s.good=true:=by
  cases g with
  | one vs=>cases ht
  | arr k n l=>intro s hs;obtain⟨_,_,rfl⟩:=List.mem_map.1 hs;rfl
  | barr n l=>intro s hs;obtain⟨_,_,rfl⟩:=List.mem_map.1 hs;rfl
  | rows ks n xs=>
    intro s hs
    obtain⟨r,_,hr⟩:=List.mem_flatMap.1 hs
    have:∀ (ks:List CK) (r:List Int) (s:S),s∈mks ks r->s.good=true:=by
     intro ks
     induction ks with
     | nil=>intro r s hs;simp[mks] at hs
     | cons c ks ih=>
       intro r s hs
       rcases List.mem_cons.1 hs with rfl | hs
       ·cases c<;>rfl
       ·exact ih _ _ hs
    exact this ks r s hr
 have : ∀ (l:List S) (vs:List Value),(∀ s∈l,s.good=true)->qB (qI e) l vs->∀ u∈vs,u.oneCell'=true:=by
  intro l
  induction l with
  | nil=>intro vs _ h u hu;cases vs with
    | nil=>cases hu
    | cons _ _=>exact h.elim
  | cons s l ih=>
    intro vs hl h u hu
    cases vs with
    | nil=>exact h.elim
    | cons v vs=>
      rcases List.mem_cons.1 hu with rfl | hu
      ·exact qI.oneCell h.1 (hl s (by simp))
      ·exact ih vs (fun s hs=>hl s (by simp[hs])) h.2 u hu
 exact this _ _ hg h
theorem qcm {e:Env} {w:World} {ob lo len:Nat} {full:Bool} {v:Value} {t:TypeId} {ro:Bool} {g:Seg} (hh:RelH e w) (hv:qI e (.sl ob lo len full) v)
  (ho:e.h.get ob=.sli t ro g) (ht:g.isTbl=true):g.ok /\ lo+len<=g.shp.rows /\
   ∃ vs,qB (qI qAo) (sub g.flat (lo*g.shp.width) (len*g.shp.width)) vs /\ vs.length=len*g.shp.width /\
     ((v=.slice none 0 0 /\ lo=0 /\ len=0 /\ vs=[]) \/ ∃ b off c,v=.slice (some ⟨b,off,none⟩) len c /\ len<=c /\ ∀ j u,vs[j]? = some u->w.cell? ⟨b,off+j,none⟩=some u):=by
 obtain⟨h1,h2⟩:=hv
 rw[ho] at h2
 have h2:qAB e.nm ob g.shp lo len full v:=h2
 have hgo:g.ok:=by
  have:=hh.obj ob
  unfold qG at this
  rw[ho] at this
  cases ro with
  | true=>exact this.1
  | false=>exact this.1
 unfold qAB at h2
 split at h2
 ·obtain⟨rfl,rfl,rfl⟩:=h2
  exact⟨hgo,by omega,[],by simp[sub,qB],by simp,.inl ⟨rfl,rfl,rfl,rfl⟩⟩
 ·rename_i b off cap hnm
  obtain⟨c,h3,h4,h5,_⟩:=h2
  obtain⟨n,t1,t2,t3⟩:=qEb ht
  have hp:qI e (.ptr ob 0 none 0) (.pointer (some ⟨b,off,none⟩)):=by
   refine⟨h1,?_⟩
   rw[ho]
   exact⟨trivial,b,off,cap,hnm,by simp[qX,qp]⟩
  obtain⟨b',off',cap',q1,_,_,_,vs,q2,q3⟩:=qST hh hp ho
  rw[hnm] at q1
  cases q1
  have hl:=qB.length q2
  rw[Seg.flat_length hgo,t3] at hl
  have hle:lo*g.shp.width+len*g.shp.width<=vs.length:=by
   rw[<- hl,<- Nat.add_mul,<- t2]
   exact Nat.mul_le_mul_right _ h5
  refine⟨hgo,h5,sub vs (lo*g.shp.width) (len*g.shp.width),qB.take _ (qB.drop _ q2),by simp[sub];omega,.inr ⟨b,off+lo*g.shp.width,c,h3,h4,fun j u hu=>?_⟩⟩
  obtain⟨g1,_⟩:=qJp hu
  have:=q3 _ _ g1
  rwa [<- Nat.add_assoc] at this
theorem qd5 {e:Env} {w w':World} {o:Nat} {x':Obj} {N:Option (Nat×Nat×Nat)} (h:RelH e w) (ho:o<e.nx) (hown:(e.h.get o).owned=true)
  (hobj:qG ⟨fun q=>if q=e.nx then N else if q<e.nx then e.nm q else none,[(e.nx,x'),(o,.dead)]++e.h,e.nx+1⟩ w' e.nx)
  (hblk:∀ x,qCu N x->w.heap.size<=x \/ Has e.nm o x) (hother:∀ k,k<w.heap.size->¬ Has e.nm o k->w'.heap[k]? = w.heap[k]?)
  (hos:w'.os=w.os) (htape:w'.tape=w.tape) (hout:w'.output=w.output) (hsize:w.heap.size<=w'.heap.size):
  RelH ⟨fun q=>if q=e.nx then N else if q<e.nx then e.nm q else none,[(e.nx,x'),(o,.dead)]++e.h,e.nx+1⟩ w' /\ Frame' e w w' /\
   Ext e ⟨fun q=>if q=e.nx then N else if q<e.nx then e.nm q else none,[(e.nx,x'),(o,.dead)]++e.h,e.nx+1⟩ w:=by
 have hne:o≠e.nx:=by omega
 have bne:∀ {a b:Nat},a≠b->Nat.beq a b=false:=fun {a b} hab=>by
  cases hbq:Nat.beq a b with
  | false=>rfl
  | true=>exact absurd (Nat.eq_of_beq_eq_true hbq) hab
 have hgn:Hp.get ([(e.nx,x'),(o,.dead)]++e.h) e.nx=x':=by simp[Hp.get]
 have hgo:Hp.get ([(e.nx,x'),(o,.dead)]++e.h) o=.dead:=by simp[Hp.get,bne (Ne.symm hne)]
 have hget:∀ q,q≠o->q≠e.nx->Hp.get ([(e.nx,x'),(o,.dead)]++e.h) q=e.h.get q:=fun q h1 h2=>by simp[Hp.get,bne (Ne.symm h1),bne (Ne.symm h2)]
 have hlive:=qAr hown
 have hext:Ext e ⟨fun q=>if q=e.nx then N else if q<e.nx then e.nm q else none,[(e.nx,x'),(o,.dead)]++e.h,e.nx+1⟩ w:=by
  refine⟨Nat.le_succ _,fun q hq=>⟨?_,?_⟩,fun q x hq hd hx=>?_⟩
  ·show (if q=e.nx then N else if q<e.nx then e.nm q else none)=_
   rw[if_neg (by omega),if_pos hq]
  ·by_cases hqo:q=o
   ·subst hqo
    show ((Hp.get _ q).shape=_ \/ (Hp.get _ q).shape=_) /\ ((Hp.get _ q).owned=true->_)
    rw[hgo]
    exact⟨.inr rfl,fun h=>by cases h⟩
   ·show ((Hp.get _ q).shape=_ \/ (Hp.get _ q).shape=_) /\ ((Hp.get _ q).owned=true->_)
    rw[hget q hqo (by omega)]
    exact⟨.inl rfl,id⟩
  ·by_cases hqn:q=e.nx
   ·subst hqn
    have hx:qCu N x:=by simpa[Has] using hx
    rcases hblk x hx with h1 | h1
    ·exact .inl h1
    ·exact .inr ⟨o,hlive,h1,fun _=>hown⟩
   ·have hx:qCu (if q=e.nx then N else if q<e.nx then e.nm q else none) x:=hx
    rw[if_neg hqn,if_neg (by omega)] at hx
    cases hx
 have hnm:∀ q,q<e.nx->(fun q=>if q=e.nx then N else if q<e.nx then e.nm q else none) q=e.nm q:=fun q hq=>by
  show (if q=e.nx then N else if q<e.nx then e.nm q else none)=_
  rw[if_neg (by omega),if_pos hq]
 have hbk:∀ q y,q<e.nx->Has (fun q=>if q=e.nx then N else if q<e.nx then e.nm q else none) q y->Has e.nm q y:=fun q y hq hy=>(qKr (hnm q hq)).1 hy
 refine⟨⟨fun q=>?_,fun q hq=>?_,fun q q' y hqq hq hq' hy hy'=>?_,h.fix.go ⟨hos,htape,hout,hsize,fun k hk hno=>hother k hk fun hk2=>hno o hown hk2⟩ hext.toM⟩,⟨hos,htape,hout,hsize,fun k hk hno=>hother k hk fun hk2=>hno o hown hk2⟩,hext⟩
 ·by_cases hqo:q=o
  ·subst hqo
   unfold qG
   show match Hp.get ([(e.nx,x'),(q,.dead)]++e.h) q with | _=>_
   rw[hgo];trivial
  ·by_cases hqn:q=e.nx
   ·subst hqn;exact hobj
   ·by_cases hd:(e.h.get q).shape=.dead
    ·have:e.h.get q=.dead:=by cases hz:e.h.get q<;>rw[hz] at hd<;>simp[Obj.shape] at hd
     unfold qG
     show match Hp.get ([(e.nx,x'),(o,.dead)]++e.h) q with | _=>_
     rw[hget q hqo hqn,this];trivial
    ·have hlt:q<e.nx:=by
      rcases Nat.lt_or_ge q e.nx with h1 | h1
      ·exact h1
      ·rw[h.new q h1] at hd;exact absurd rfl hd
     have h2:qG e w' q:=qG.frame (h.obj q) hsize fun bq hbq=>hother bq (qG.lt (h.obj q) hd hbq) fun hb=>h.apart o q bq (Ne.symm hqo) hown hd hb hbq
     refine qG.ren (g:=id) h2 ?_ (hnm q hlt) fun r _ hr=>hext.same hr
     show Hp.get ([(e.nx,x'),(o,.dead)]++e.h) q=_
     rw[hget q hqo hqn]
     cases e.h.get q<;>simp[Obj.ren,qC2]
 ·have hq:e.nx+1<=q:=hq
  show Hp.get ([(e.nx,x'),(o,.dead)]++e.h) q=.dead
  rw[hget q (by omega) (by omega)]
  exact h.new q (by omega)
 ·have hq:(Hp.get ([(e.nx,x'),(o,.dead)]++e.h) q).owned=true:=hq
  have hq':(Hp.get ([(e.nx,x'),(o,.dead)]++e.h) q').shape≠.dead:=hq'
  have hqo:q≠o:=fun h=>by subst h;rw[hgo] at hq;cases hq
  have hqo':q'≠o:=fun h=>by subst h;rw[hgo] at hq';exact hq' rfl
  have lt_of:∀ r,r≠o->r≠e.nx->(Hp.get ([(e.nx,x'),(o,.dead)]++e.h) r).shape≠.dead->r<e.nx:=fun r h1 h2 h3=>by
   rw[hget r h1 h2] at h3
   rcases Nat.lt_or_ge r e.nx with h4 | h4
   ·exact h4
   ·rw[h.new r h4] at h3;exact absurd rfl h3
  by_cases hqn:q=e.nx
  ·subst hqn
   have hqn':q'≠e.nx:=Ne.symm hqq
   have hlt:=lt_of q' hqo' hqn' hq'
   rw[hget q' hqo' hqn'] at hq'
   have hy:qCu N y:=by simpa[Has] using hy
   have hy':Has e.nm q' y:=hbk q' y hlt hy'
   rcases hblk y hy with h1 | h1
   ·have:=qG.lt (h.obj q') hq' hy';omega
   ·exact h.apart o q' y (Ne.symm hqo') hown hq' h1 hy'
  ·have hlt:=lt_of q hqo hqn (qAr hq)
   rw[hget q hqo hqn] at hq
   have hy:Has e.nm q y:=hbk q y hlt hy
   by_cases hqn':q'=e.nx
   ·subst hqn'
    have hy':qCu N y:=by simpa[Has] using hy'
    rcases hblk y hy' with h1 | h1
    ·have:=qG.lt (h.obj q) (qAr hq) hy;omega
    ·exact h.apart q o y hqo hq hlive hy h1
   ·have hlt':=lt_of q' hqo' hqn' hq'
    rw[hget q' hqo' hqn'] at hq'
    have hy':Has e.nm q' y:=hbk q' y hlt' hy'
    exact h.apart q q' y hqq hq hq' hy hy'
theorem qpA {P:Program} (w:World) (t ty e:TypeId) (i:TypeInfo) (ht:P.underlying t=some (.slice e)) (hi:P.info? e=some i) (base:Option Addr) (n c:Nat) (hn:n<=c):
  (Builtin.append_ #[t,t] ty #[.slice base n c,.slice none 0 0]).run P w=.ok (.slice base n c) w:=by
 cases base with
 | none=>simp[Builtin.append_,run_underlying ht,sizeOf,typeInfo,hi,Builtin.lenOf,hn,Builtin.firstCells]
 | some a=>simp[Builtin.append_,run_underlying ht,sizeOf,typeInfo,hi,Builtin.lenOf,hn,Builtin.firstCells,storeCells]
section
variable {P:Program} {o:Oper} {ρ:Rg} {h:Hp} {nx:Nat} {tab:Tab}
theorem qd4 {nm:Nm} {w w':World} {ob:Nat} {e:TypeId} {g g':Seg} {xs:List Value} {v':Value} {n base:Nat} (hh:RelH ⟨nm,h,nx⟩ w) (hob:h.get ob=.sli e false g) (hlt:ob<nx)
  (hg:g'.ok) (hgt:g'.isTbl=true) (hrows:g'.shp.rows=n) (hown:w'.ownsRow base e g'.shp.width v' n xs) (hrel:qB (qI qAo) g'.flat xs)
  (hblk:∀ x,v'.ownBlock=some x->w.heap.size<=x \/ Has nm ob x) (hother:∀ k,k<w.heap.size->some k≠blk nm ob->w'.heap[k]? = w.heap[k]?)
  (hos:w'.os=w.os) (htape:w'.tape=w.tape) (hout:w'.output=w.output) (hsize:w.heap.size<=w'.heap.size):
  ∃ nm',qS ⟨nm',[(nx,.sli e false g'),(ob,.dead)]++h,nx+1⟩ (.s (.sl nx 0 n true)) v' /\ RelH ⟨nm',[(nx,.sli e false g'),(ob,.dead)]++h,nx+1⟩ w' /\ Frame' ⟨nm,h,nx⟩ w w' /\
    Ext ⟨nm,h,nx⟩ ⟨nm',[(nx,.sli e false g'),(ob,.dead)]++h,nx+1⟩ w:=by
 let N:Option (Nat×Nat×Nat):=match v' with
  | .slice (some a) _ c=>some (a.block,0,c)
  | _=>none
 have hget:Hp.get ([(nx,Obj.sli e false g'),(ob,.dead)]++h) nx=.sli e false g':=by simp[Hp.get]
 have hkey:qG ⟨fun q=>if q=nx then N else if q<nx then nm q else none,[(nx,.sli e false g'),(ob,.dead)]++h,nx+1⟩ w' nx /\
   qAB (fun q=>if q=nx then N else if q<nx then nm q else none) nx g'.shp 0 n true v':=by
  obtain⟨hl,hc⟩:=hown
  obtain⟨_,t1,t2,t3⟩:=qEb hgt
  rcases hc with⟨rfl,rfl⟩ | ⟨b,cap,cur,rfl,_,c2,c3,c4,c5,c6⟩
  ·refine⟨?_,?_⟩
   ·unfold qG
    dsimp only
    rw[hget]
    simp only[if_true,N]
    exact⟨hg,hrows⟩
   ·unfold qAB
    simp[N]
  ·refine⟨?_,?_⟩
   ·unfold qG
    dsimp only
    rw[hget]
    simp only[if_true,N]
    refine⟨hg,trivial,cur,c2,c5,by omega,c4,?_⟩
    rw[t3,<- t2,hrows,c6]
    exact hrel
   ·unfold qAB
    simp only[if_true,N]
    exact⟨cap,by simp,c3,by omega,by simp⟩
 have hb':∀ x,qCu N x->w.heap.size<=x \/ Has nm ob x:=fun x hx=>by
  refine hblk x ?_
  obtain⟨hl,hc⟩:=hown
  rcases hc with⟨rfl,rfl⟩ | ⟨b,cap,cur,rfl,_,_,_,hcap,_⟩
  ·exact hx.elim
  ·have:=qDB (show qCu (some (b,0,cap)) x from hx) (by unfold maxLen at hcap;unfold big;omega)
   subst this
   rfl
 have hall:=qd5 (e:=⟨nm,h,nx⟩) (w:=w) (w':=w') (o:=ob) (x':=.sli e false g') (N:=N) hh hlt (by show (h.get ob).owned=true;rw[hob];rfl) hkey.1 hb' (fun k hk hno=>hother k hk fun hk2=>hno (qG.blk_has (hh.obj ob) hob hk2.symm)) hos htape hout hsize
 refine⟨_,⟨Nat.lt_succ_self _,?_⟩,hall⟩
 show match (Hp.get ([(nx,Obj.sli e false g'),(ob,.dead)]++h) nx).shape with | _=>_
 rw[hget]
 exact hkey.2
theorem qAG {α:Type} {b:Bool} {x y:Option α} {r:α} (h:br b x y=some r):(b=true /\ x=some r) \/ (b=false /\ y=some r):=by
 cases b
 ·exact .inr ⟨rfl,h⟩
 ·exact .inl ⟨rfl,h⟩
theorem qg {α:Type} {b:Bool} {x:Option α} {r:α} (h:(bif b then x else none)=some r):b=true /\ x=some r:=by
 cases b
 ·cases h
 ·exact⟨rfl,h⟩
theorem qcn {e:Env} {w:World} {ob lo len:Nat} {v:Value} {t:TypeId} {g:Seg} (hh:RelH e w) (hv:qI e (.sl ob lo len true) v)
  (ho:e.h.get ob=.sli t false g) (ht:g.isTbl=true):g.ok /\ len<=g.shp.rows /\ lo=0 /\ v.ownBlock=blk e.nm ob /\
   ∃ xs,w.ownsRow 0 t g.shp.width v len xs /\ qB (qI qAo) (sub g.flat 0 (len*g.shp.width)) xs:=by
 obtain⟨h1,h2⟩:=hv
 rw[ho] at h2
 have h2:qAB e.nm ob g.shp lo len true v:=h2
 have h3:=hh.obj ob
 unfold qG at h3
 rw[ho] at h3
 obtain⟨h4,h5⟩:=h3
 unfold qAB at h2
 split at h2
 ·rename_i hnm
  obtain⟨rfl,rfl,rfl⟩:=h2
  exact⟨h4,Nat.zero_le _,rfl,by simp[Value.ownBlock,blk,hnm],[],World.ownsRow_nil w 0 t _,by simp[sub,qB]⟩
 ·rename_i b off cap hnm
  obtain⟨c,rfl,q2,q3,q4⟩:=h2
  obtain⟨rfl,rfl⟩:=q4 rfl
  simp only[hnm] at h5
  obtain⟨rfl,arr,g2,g3,g4,g5,g6⟩:=h5
  obtain⟨_,t1,t2,t3⟩:=qEb ht
  have hsz:len*g.shp.width<=g.shp.size:=by rw[t3,<- t2];exact Nat.mul_le_mul_right _ (by omega)
  have hl:=qB.length g6
  rw[Seg.flat_length h4,List.length_take] at hl
  refine⟨h4,by omega,rfl,by simp[Value.ownBlock,blk,hnm],arr.toList.take (len*g.shp.width),⟨by rw[List.length_take];omega,.inr ⟨b,c,arr,by simp,Nat.zero_le _,g2,q2,g5,g3,rfl⟩⟩,?_⟩
  have:=qB.take (len*g.shp.width) g6
  rw[List.take_take,Nat.min_eq_left hsz] at this
  simpa[sub] using this
theorem qbo {P:Program} (w:World) (t ty e:TypeId) (i:TypeInfo) (z:Value) (ht:P.underlying t=some (.slice e)) (hi:P.info? e=some i) (hz:i.zero=some z) (hzs:z.cells.size=i.size) (hsz:0<i.size)
  (v:Value) (n:Nat) (xs:List Value) (hown:w.ownsRow 0 e i.size v n xs) (u:Value) (m:Nat) (news:List Value) (hl:news.length=m*i.size)
  (hu:(u=.slice none 0 0 /\ m=0 /\ news=[]) \/ ∃ b off c,u=.slice (some ⟨b,off,none⟩) m c /\ ∀ j x,news[j]? = some x->w.cell? ⟨b,off+j,none⟩=some x) (h1:∀ u∈news,u.oneCell'=true)
  (hb:(n+m)*i.bytes<=140737488355328) (hb0:0<i.bytes):
  ∃ v' w',(Builtin.append_ #[t,t] ty #[v,u]).run P w=.ok v' w' /\ w'.ownsRow 0 e i.size v' (n+m) (xs++news) /\ w.grownBy w' v.ownBlock /\ (∀ x,v'.ownBlock=some x->w.heap.size<=x \/ v.ownBlock=some x):=by
 have hmax:n+m<=maxLen:=by
  have:=Nat.le_trans (Nat.le_mul_of_pos_right (n+m) hb0) hb
  simp only[maxLen];omega
 rcases hu with⟨rfl,rfl,rfl⟩ | ⟨b2,off2,c2,rfl,hcells⟩
 ·have key:∀ base c,v=.slice base n c->n<=c->∃ v' w',(Builtin.append_ #[t,t] ty #[v,.slice none 0 0]).run P w=.ok v' w' /\ w'.ownsRow 0 e i.size v' (n+0) (xs++[]) /\ w.grownBy w' v.ownBlock /\
    (∀ x,v'.ownBlock=some x->w.heap.size<=x \/ v.ownBlock=some x):=by
   intro base c hv hn
   subst hv
   refine⟨_,w,qpA w t ty e i ht hi base n c hn,by simpa using hown,⟨rfl,rfl,rfl,Nat.le_refl _,fun _ _ _=>rfl⟩,fun x hx=>.inr hx⟩
  rcases hown.2 with⟨rfl,rfl⟩ | ⟨g,cap,cur,rfl,_,_,hnc,_⟩
  ·exact key none 0 rfl (Nat.le_refl _)
  ·exact key _ _ rfl hnc
 ·have hnews:∀ j x,news[j]? = some x->w.cell? ((⟨b2,off2,none⟩:Addr).add j)=some x:=fun j x hx=>by rw[Addr.add_lit];exact hcells j x hx
  have old0:∀ {w':World} {v':Value} {k xs'},w'.ownsRow w.heap.size e i.size v' k xs'->w'.ownsRow 0 e i.size v' k xs' /\ ∀ x,v'.ownBlock=some x->w.heap.size<=x:=by
   intro w' v' k xs' ho
   refine⟨⟨ho.1,?_⟩,fun x hx=>(ho.lt x hx).1⟩
   rcases ho.2 with hq | ⟨g,cap,cur,q1,_,q3⟩
   ·exact .inl hq
   ·exact .inr ⟨g,cap,cur,q1,Nat.zero_le _,q3⟩
  rcases hown.2 with⟨rfl,rfl⟩ | ⟨g,cap,cur,rfl,_,hg,hnc,hcm,hcs,htake⟩
  ·have hx:xs=[]:=List.eq_nil_of_length_eq_zero (by simpa using hown.1)
   subst hx
   obtain⟨v',w',a1,a2,a3,_⟩:=run_append_own (P:=P) w w.heap.size t ty e i z i.size i.bytes ht hi hz rfl rfl hzs hsz (.slice none 0 0) 0 [] (World.ownsRow_nil w _ e _) ⟨b2,off2,none⟩ m c2 news hl hnews h1 hmax hb (Nat.le_refl _)
   obtain⟨a4,a5⟩:=old0 a2
   exact⟨v',w',a1,a4,a3,fun x hx=>.inl (a5 x hx)⟩
  ·by_cases hroom:n+m<=cap
   ·have hfit:n*i.size+news.length<=cur.size:=by rw[hl,hcs,<- Nat.add_mul];exact Nat.mul_le_mul_right _ hroom
    have hr:=run_append_room (P:=P) w t ty e i ht hi g n cap cur hg ⟨b2,off2,none⟩ m c2 news hl hnews h1 hroom hfit
    have hlen:(xs++news).length=(n+m)*i.size:=by rw[List.length_append,hown.1,hl,Nat.add_mul]
    refine⟨_,_,hr,⟨hlen,.inr ⟨g,cap,_,rfl,Nat.zero_le _,setRow_heap w g cur _ e _ hg,hroom,hcm,?_,?_⟩⟩,
     ⟨rfl,rfl,rfl,by simp,fun k _ hk=>setRow_other w g k _ (fun e=>hk (by simp[Value.ownBlock,e]))⟩,fun x hx=>.inr hx⟩
    ·have:(cur.toList.take (n*i.size)).length=n*i.size:=by rw[htake];exact hown.1
     simp only[List.size_toArray,List.length_append,this,List.length_drop,Array.length_toList]
     omega
    ·rw[htake,<- hlen]
     exact List.take_left
   ·have holds:∀ j u,xs[j]? = some u->w.cell? ((⟨g,0,none⟩:Addr).add j)=some u:=hown.cells (g:=g) rfl
    obtain⟨v',w',a1,a2,a3⟩:=run_append_arg_grows (P:=P) w t ty e i z i.size i.bytes ht hi hz rfl rfl hzs hsz ⟨g,0,none⟩ n cap xs hown.1 holds ⟨b2,off2,none⟩ m c2 news hl hnews (by omega) hmax hb
    obtain⟨a4,a5⟩:=old0 a2
    exact⟨v',w',a1,a4,⟨a3.os,a3.tape,a3.output,a3.size,fun k hk _=>a3.block k hk (by simp)⟩,fun x hx=>.inl (a5 x hx)⟩
theorem qJ1 {L:Lay} {i:TypeInfo} {z:Value} (hz:z.cells.toList=L.segTs.flatMap SegT.zeros) (hs:i.size=L.size):z.cells.size=i.size:=by
 have key:∀ t:SegT,t.zeros.length=t.shp.size:=fun t=>by
  cases t with
  | one ks=>simp[SegT.zeros,SegT.shp,Shp.size]
  | arr k n=>simp[SegT.zeros,SegT.shp,Shp.size]
  | barr n=>simp[SegT.zeros,SegT.shp,Shp.size]
  | rows ks n=>simp[SegT.zeros,SegT.shp,Shp.size]
 have:∀ ts:List SegT,(ts.flatMap SegT.zeros).length=qBm ts:=fun ts=>by
  induction ts with
  | nil=>rfl
  | cons t ts ih=>rw[List.flatMap_cons,List.length_append,key,ih];simp[qBm,qp]
 rw[<- Array.length_toList,hz,this,hs,qL5]
theorem qko {c:Ctx} {R:Type} {K:Kt R} {r:R} {cl:Call} {x y:Operand} {t:TypeId} (htab:∀ t L,c.tab.get t=some L->LayOK P c.tab t L) (hby:∀ t n,byN t c.bytes=some n->∃ i,P.info? t=some i /\ i.bytes=n)
  (ho:o.op=.call cl) (hcl:cl.callee=.builtin .append) (ha:cl.args.toList=[x,y]) (ht:cl.argTypes.toList=[t,t]) (hE:qMg c t (ev ρ x) (ev ρ y) h nx K=some r):
  ∃ v up nx',K v up nx'=some r /\ qQ P o ρ h nx v up nx':=by
 have hargs:cl.args = #[x,y]:=by rw[<- ha]
 have htys:cl.argTypes = #[t,t]:=by rw[<- ht]
 unfold qMg at hE
 split at hE<;>try cases hE
 rename_i e ob lo0 len full ob2 lo2 m _ hL hx hy
 split at hE<;>try cases hE
 rename_i e' g _ _ g2 by_ hob hob2 hbn
 obtain⟨hb,hE2⟩:=qg hE
 clear hE
 simp only[Bool.and_eq_true,Bool.not_eq_true',Nat.blt_eq] at hb
 obtain⟨⟨⟨⟨⟨hfull,hee⟩,hne⟩,hpos⟩,hk1⟩,hk2⟩:=hb
 have hee:=Nat.eq_of_beq_eq_true hee
 subst hee
 subst hfull
 rcases qAG hE2 with⟨hsz,hE⟩ | ⟨_,hE⟩<;>try cases hE
 have hsz:=of_decide_eq_true hsz
 split at hE<;>try cases hE
 rename_i g' hg'
 refine⟨_,_,_,hE,fun nm w a hr hh N Q hN=>?_⟩
 obtain⟨T1,ro1,ga,g0,Le,s1,s2,s3,s4,_,s6,s7⟩:=qH9 hk1
 rw[hob] at s1
 cases s1
 obtain⟨T2,ro2,gb,g0',Le',s1',s2',s3',s4',_,s6',s7'⟩:=qH9 hk2
 rw[hob2] at s1'
 cases s1'
 rw[s2] at s2'
 cases s2'
 have h1:=hr x (by simp[ho,Op.operands,Call.operands,hcl,hargs])
 rw[hx] at h1
 have h2:=hr y (by simp[ho,Op.operands,Call.operands,hcl,hargs])
 rw[hy] at h2
 obtain⟨o1,o2,o3,o4,xs,o5,o6⟩:=qcn (e:=⟨nm,h,nx⟩) hh h1 hob s4
 obtain⟨p1,p2,vs,p3,p4,p5⟩:=qcm (e:=⟨nm,h,nx⟩) hh h2 hob2 s4'
 obtain⟨i,z,hi,his,hz,hzc⟩:=(htab e Le s2).info
 obtain⟨i',hi',hib⟩:=hby e by_ hbn
 rw[hi] at hi'
 cases hi'
 obtain⟨d,hu,hd⟩:=(htab t _ hL).desc
 simp only at hd
 subst hd
 have hw:g.shp.width=i.size:=by omega
 have hw2:g2.shp.width=i.size:=by omega
 obtain⟨j1,j2,j3,j4⟩:=qLT (lo:=0) (n:=len) o1 s4 (by omega)
 obtain⟨k1,k2,k3,k4⟩:=qLT (lo:=lo2) (n:=m) p1 s4' p2
 obtain⟨m1,m2,m3,m4,m5,_⟩:=qWu hg' j1 k1
 rw[j3] at m3 m4
 rw[k3] at m4
 have m3:g'.shp.width=g.shp.width:=m3
 have m4:g'.shp.rows=len+m:=m4
 obtain⟨v',w',a1,a2,a3,a4⟩:=qbo (P:=P) w t o.type e i z hu hi hz (qJ1 hzc his) (by omega) (a.eval x) len xs (by rw[<- hw];exact o5) (a.eval y) m vs (by rw[p4,hw2])
  (by rcases p5 with⟨q1,_,q3,q4⟩ | ⟨b,off,c,q1,_,q3⟩
      ·exact .inl ⟨q1,q3,q4⟩
      ·exact .inr ⟨b,off,c,q1,q3⟩)
  (by
   have hfl:(g2.part lo2 m).flat=sub g2.flat (lo2*g2.shp.width) (m*g2.shp.width):=k4
   exact qVX k2 (by rw[hfl];exact p3)) (by rw[hib];exact hsz) (by omega)
 obtain⟨nm',n1,n2,n3,n4⟩:=qd4 (g':=g') (xs:=xs++vs) (v':=v') (n:=len+m) (base:=0) hh hob h1.1 m1 m2 m4 (by rw[m3,hw];exact a2)
  (by rw[m5,j4,k4,Nat.zero_mul];exact qB.append o6 p3) (fun x hx=>(a4 x hx).imp id fun h=>qG.blk_has (hh.obj ob) hob (by rw[<- show (a.eval _).ownBlock=blk nm ob from o4];exact h))
  (fun k hk hk2=>a3.block k hk (by rw[o4];exact hk2)) a3.os a3.tape a3.output a3.size
 unfold Oper.wp
 have hrun:(execOp a.eval o).run P w=.ok (.value v') w':=by
  simp[execOp,ho,resolve,hcl,hargs,htys,invoke,builtin,a1]
 rw[hrun]
 exact hN v' nm' w' n1 n2 n3 n4
theorem qS1 {g:Seg} (ht:g.isTbl=true) (n:Nat):(g.zeros n).ok /\ (g.zeros n).isTbl=true /\ (g.zeros n).shp=.tbl g.shp.width n:=by
 cases g with
 | one vs=>cases ht
 | arr k m l=>
   refine⟨⟨by simp,fun x hx=>?_⟩,rfl,rfl⟩
   rw[List.eq_of_mem_replicate hx]
   cases k<;>rfl
 | barr m l=>exact⟨by show (List.replicate n false).length=n;simp,rfl,rfl⟩
 | rows ks m xs=>
   refine⟨⟨by simp,fun x hx=>?_⟩,rfl,rfl⟩
   rw[List.eq_of_mem_replicate hx]
   clear hx ht
   induction ks with
   | nil=>trivial
   | cons c ks ih=>
     refine⟨?_,ih⟩
     cases c with
     | i k=>cases k<;>rfl
     | b=>exact .inl rfl
     | s=>rfl
theorem qW0 {e:Env}:∀ {ks:List Kd} {cs:List CK},kcks? ks=some cs->qB (qI e) (mks cs (List.replicate cs.length 0)) (ks.map qJ0)
 | [],cs,h=>by simp[kcks?] at h;subst h;trivial
 | k :: ks,cs,h=>by
   simp only[kcks?] at h
   split at h<;>cases h
   rename_i n l e5 e6
   refine⟨?_,qW0 e6⟩
   cases k<;>simp[Kd.ck?] at e5<;>subst e5
   ·refine⟨rfl,?_⟩
    rename_i k
    show k.wrap 0=0
    cases k<;>rfl
   ·rfl
   ·rfl
theorem qPj (a b:List CK):mks (a++b) (List.replicate (a++b).length 0)=mks a (List.replicate a.length 0)++mks b (List.replicate b.length 0):=by
 rw[qF7,List.length_append,<- List.replicate_append_replicate]
 have h2:(List.replicate a.length (0:Int)++List.replicate b.length 0).drop a.length=List.replicate b.length 0:=by
  rw[List.drop_append,List.drop_eq_nil_of_le (by simp)];simp
 rw[h2]
 congr 1
 have h1:List.replicate a.length (0:Int)=(List.replicate a.length (0:Int)++List.replicate b.length 0).take a.length:=by
  rw[List.take_append,List.take_of_length_le (by simp)];simp
 rw[h1,qF9 _ _ _ (Nat.le_refl _)]
 rw[<- h1]
theorem qJV {e:Env}:∀ {ts:List SegT} {cs:List CK},qAL ts=some cs->qB (qI e) (mks cs (List.replicate cs.length 0)) (ts.flatMap SegT.zeros)
 | [],cs,h=>by simp[qAL] at h;subst h;trivial
 | t :: ts,cs,h=>by
   cases t<;>simp only[qAL] at h<;>(try (split at h<;>cases h))<;>(try cases h)
   ·rename_i a b e1 e2
    rw[qPj]
    exact qB.append (qW0 e1) (qJV e2)
   ·rename_i k n _ b e2
    rw[qPj,List.length_replicate,qLE k n _ (by simp)]
    refine qB.append ?_ (qJV e2)
    rw[List.map_replicate]
    show qB (qI e) _ (List.replicate n (.int k 0))
    clear e2
    induction n with
    | zero=>trivial
    | succ n ih=>
      rw[List.replicate_succ,List.replicate_succ]
      exact⟨⟨rfl,by cases k<;>rfl⟩,ih⟩
   ·rename_i n _ b e2
    rw[qPj,List.length_replicate,qPi n _ (by simp)]
    refine qB.append ?_ (qJV e2)
    rw[List.map_replicate,List.map_replicate]
    show qB (qI e) _ (List.replicate n (.bool false))
    clear e2
    induction n with
    | zero=>trivial
    | succ n ih=>
      rw[List.replicate_succ,List.replicate_succ]
      exact⟨rfl,ih⟩
theorem qS0 {e:Env} {L:Lay} {g:Seg} {zs:List Value} (hg:qz (some L)=some g) (hz:zs=L.segTs.flatMap SegT.zeros) (n:Nat):
  qB (qI e) (g.zeros n).flat ((List.replicate n zs).flatten):=by
 have one:qB (qI e) (g.zeros 1).flat zs:=by
  subst hz
  unfold qz at hg
  split at hg<;>try cases hg
  ·rename_i k e;cases e;exact⟨⟨rfl,by cases k<;>rfl⟩,trivial⟩
  ·rename_i e;cases e;exact⟨rfl,trivial⟩
  ·rename_i e;cases e;exact⟨rfl,trivial⟩
  ·rename_i ts fl e
   cases e
   split at hg<;>cases hg
   rename_i ks hk
   show qB (qI _) (List.flatMap (mks ks) (List.replicate 1 (List.replicate ks.length 0))) _
   simp only[List.replicate_one,List.flatMap_cons,List.flatMap_nil,List.append_nil]
   exact qJV hk
 induction n with
 | zero=>
   cases g with
   | one vs=>unfold qz at hg;split at hg<;>(try cases hg);split at hg<;>cases hg
   | arr k m l=>trivial
   | barr m l=>trivial
   | rows ks m xs=>trivial
 | succ n ih=>
   have hs:(g.zeros (n+1)).flat=(g.zeros 1).flat++(g.zeros n).flat:=by
    cases g with
    | one vs=>unfold qz at hg;split at hg<;>(try cases hg);split at hg<;>cases hg
    | arr k m l=>simp[Seg.zeros,Seg.flat,List.replicate_succ]
    | barr m l=>simp[Seg.zeros,Seg.flat,List.replicate_succ]
    | rows ks m xs=>simp[Seg.zeros,Seg.flat,List.replicate_succ]
   rw[hs,List.replicate_succ,List.flatten_cons]
   exact qB.append one ih
theorem qNx {L:Option Lay} {g:Seg} (h:qz L=some g):g.isTbl=true:=by
 unfold qz at h
 split at h<;>(try cases h)
 ·rfl
 ·rfl
 ·rfl
 ·split at h<;>cases h;rfl
theorem qPk (z:Array Value) (n:Nat) (hz:0<z.size):((Array.range (n*z.size)).map (z[· % z.size]!)).toList=(List.replicate n z.toList).flatten:=by
 induction n with
 | zero=>simp[Array.range_zero']
 | succ n ih=>
   have h1:(n+1)*z.size=n*z.size+z.size:=by rw[Nat.add_mul,Nat.one_mul]
   have h2:(List.replicate (n+1) z.toList).flatten=(List.replicate n z.toList).flatten++z.toList:=by
    rw[List.replicate_succ',List.flatten_append];simp
   rw[h2,<- ih,h1]
   apply List.ext_getElem?
   intro j
   simp only[Array.toList_map,Array.toList_range,List.getElem?_map,List.getElem?_append,List.length_map,List.length_range]
   by_cases hj:j<n*z.size
   ·rw[if_pos hj,List.getElem?_range (by omega),List.getElem?_range hj]
   ·rw[if_neg hj]
    by_cases hj2:j<n*z.size+z.size
    ·rw[List.getElem?_range hj2]
     have hm:j % z.size=j - n*z.size:=by
      have:j=(j - n*z.size)+z.size*n:=by rw[Nat.mul_comm z.size n];omega
      conv=>lhs;rw[this]
      rw[Nat.add_mul_mod_self_left,Nat.mod_eq_of_lt (by omega)]
     simp only[Option.map_some,hm]
     have hlt:j - n*z.size<z.size:=by omega
     rw[getElem!_pos z _ hlt]
     simp[hlt]
    ·rw[List.getElem?_eq_none (by simp;omega)]
     have:z.toList[j - n*z.size]? = none:=List.getElem?_eq_none (by simp;omega)
     rw[this];rfl
theorem qX8 {nm:Nm} {w:World} {e:TypeId} {g:Seg} {arr:Array Value} {n cap:Nat} (hh:RelH ⟨nm,h,nx⟩ w) (hok:g.ok) (ht:g.isTbl=true) (hn:g.shp.rows=n) (hnc:n<=cap) (hcm:cap<=maxLen)
  (hsz:arr.size=cap*g.shp.width) (hr:qB (qI qAo) g.flat (arr.toList.take (n*g.shp.width))):
  ∃ nm',qS ⟨nm',[(nx,.sli e false g)]++h,nx+1⟩ (.s (.sl nx 0 n true)) (.slice (some ⟨w.heap.size,0,none⟩) n cap) /\ RelH ⟨nm',[(nx,.sli e false g)]++h,nx+1⟩ (w.alloc (.cells arr e)) /\
    Frame' ⟨nm,h,nx⟩ w (w.alloc (.cells arr e)) /\ Ext ⟨nm,h,nx⟩ ⟨nm',[(nx,.sli e false g)]++h,nx+1⟩ w:=by
 let nm':Nm:=fun q=>if q=nx then some (w.heap.size,0,cap) else if q<nx then nm q else none
 have hlook:∀ q,q≠nx->List.lookup q [(nx,Obj.sli e false g)]=none:=fun q hq=>by simp[List.lookup,beq_eq_false_iff_ne.2 hq]
 have hself:List.lookup nx [(nx,Obj.sli e false g)]=some (.sli e false g):=by simp[List.lookup]
 have hg:Hp.get ([(nx,Obj.sli e false g)]++h) nx=.sli e false g:=by rw[qm,hself]
 obtain⟨_,t1,t2,t3⟩:=qEb ht
 have hrel:=qJF (e:=⟨nm,h,nx⟩) (w:=w) (w':=w.alloc (.cells arr e)) (up:=[(nx,.sli e false g)]) (nm':=nm') (nx':=nx+1) hh (Nat.le_succ _)
  (fun q hq=>⟨hlook q (by have:q<nx:=hq;omega),by have hq:q<nx:=hq;simp only[nm'];rw[if_neg (by omega),if_pos hq]⟩) (fun q hq=>hlook q (by omega))
  (fun q hq hq'=>by
   have e1:q=nx:=by have:nx<=q:=hq;omega
   subst e1
   unfold qG
   dsimp only
   rw[hg]
   simp only[nm',if_true]
   refine⟨hok,trivial,arr,heap_alloc_new w _,hsz,by omega,hcm,?_⟩
   rw[t3,<- t2,hn]
   exact hr)
  (fun q x hq hx=>by
   have hq:nx<=q:=hq
   simp only[Has,nm'] at hx
   by_cases e1:q=nx
   ·subst e1;rw[if_pos rfl] at hx;have:=qDB hx (by unfold big;unfold maxLen at hcm;omega);exact⟨rfl,by omega⟩
   ·rw[if_neg e1,if_neg (by omega)] at hx;cases hx)
  (fun k hk=>by simp only[World.alloc,Array.getElem?_push,Nat.ne_of_lt hk,if_false]) rfl rfl rfl (by simp)
 refine⟨nm',⟨Nat.lt_succ_self _,?_⟩,hrel⟩
 show match (Hp.get ([(nx,Obj.sli e false g)]++h) nx).shape with | _=>_
 rw[hg]
 show qAB nm' nx g.shp 0 n true _
 unfold qAB
 simp only[nm',if_true]
 exact⟨cap,by simp,hnc,by omega,by simp⟩
theorem qlE {c:Ctx} {R:Type} {K:Kt R} {r:R} {t e:TypeId} {x y:Operand} {k k':IntKind} {n n':Int} {g:Seg} {by_:Nat} (htab:∀ t L,c.tab.get t=some L->LayOK P c.tab t L)
  (hby:∀ t n,byN t c.bytes=some n->∃ i,P.info? t=some i /\ i.bytes=n) (ho:o.op=.makeSlice t x y) (hx:ev ρ x=.s (.i k n)) (hy:ev ρ y=.s (.i k' n')) (hL:c.tab.get t=some (.sc (.sl e)))
  (hg:qz (c.tab.get e)=some g) (hbn:byN e c.bytes=some by_) (hb0:0<by_) (hwp:0<g.shp.width) (h0:0<=n) (hn:n<=n') (hsz:(by_:Int)*n'<=281474976710656)
  (hE:K (.s (.sl nx 0 n.toNat true)) [(nx,.sli e false (g.zeros n.toNat))] (nx+1)=some r):
  ∃ v up nx',K v up nx'=some r /\ qQ P o ρ h nx v up nx':=by
 refine⟨_,_,_,hE,fun nm w a hr hh N Q hN=>?_⟩
 have h1:=hr x (by simp[ho,Op.operands])
 rw[hx] at h1
 obtain⟨h1,_⟩:=qBl h1
 have h2:=hr y (by simp[ho,Op.operands])
 rw[hy] at h2
 obtain⟨h2,_⟩:=qBl h2
 cases hge:c.tab.get e with
 | none=>rw[hge] at hg;simp[qz] at hg
 | some Le=>
   rw[hge] at hg
   obtain⟨i,z,hi,his,hz,hzc⟩:=(htab e Le hge).info
   obtain⟨i',hi',hib⟩:=hby e by_ hbn
   rw[hi] at hi'
   cases hi'
   obtain⟨d,hu,hd⟩:=(htab t _ hL).desc
   simp only at hd
   subst hd
   have hw:g.shp.width=i.size:=by
    rcases qIw hg with⟨q,_⟩ | q<;>omega
   have hzs:=qJ1 hzc his
   have hcap:n'.toNat<=maxLen:=by
    have:n'<=(by_:Int)*n':=by
     have:=Int.mul_le_mul_of_nonneg_right (show (1:Int)<=by_ by omega) (show 0<=n' by omega)
     omega
    simp only[maxLen];omega
   have hrun0:=run_make (P:=P) w t e i z hu hi hz k k' n n' h0 hn (by rw[hib];exact hsz) (by simp only[maxLen] at hcap;omega)
   obtain⟨z1,z2,z3⟩:=qS1 (qNx hg) n.toNat
   have hzw:(g.zeros n.toNat).shp.width=g.shp.width:=by rw[z3];rfl
   have hcells:(madeCells z.cells (n'.toNat*i.size)).toList=(List.replicate n'.toNat z.cells.toList).flatten:=by
    rw[<- hzs]
    exact qPk z.cells n'.toNat (by omega)
   obtain⟨nm',n1,n2,n3,n4⟩:=qX8 (e:=e) (g:=g.zeros n.toNat) (arr:=madeCells z.cells (n'.toNat*i.size)) (n:=n.toNat) (cap:=n'.toNat) hh z1 z2 (by rw[z3];rfl) (by omega) hcap
    (by rw[size_madeCells,hzw,hw]) (by
     rw[hzw,hcells]
     have hsplit:List.replicate n'.toNat z.cells.toList=List.replicate n.toNat z.cells.toList++List.replicate (n'.toNat - n.toNat) z.cells.toList:=by
      rw[List.replicate_append_replicate];congr 1;omega
     have hlen:(List.replicate n.toNat z.cells.toList).flatten.length=n.toNat*g.shp.width:=by simp[List.length_flatten,hzs,hw]
     rw[hsplit,List.flatten_append,<- hlen,List.take_left]
     exact qS0 hg hzc n.toNat)
   unfold Oper.wp
   have hrun:(execOp a.eval o).run P w=.ok (.value (.slice (some ⟨w.heap.size,0,none⟩) n.toNat n'.toNat)) (w.alloc (.cells (madeCells z.cells (n'.toNat*i.size)) e)):=by
    simp only[execOp,ho,h1,h2,Sem.run_bind,hrun0,Result.andThen_ok]
    rfl
   rw[hrun]
   exact hN _ nm' _ n1 n2 n3 n4
theorem qfe {c:Ctx} {t e:TypeId} {n:Nat} {ps:Array (Nat×Operand)} {g g':Seg} {env:Env} {w:World} {a:Act} (htab:∀ t L,c.tab.get t=some L->LayOK P c.tab t L)
  (ho:o.op=.buildSlice t n ps) (hL:c.tab.get t=some (.sc (.sl e))) (hg:qz (c.tab.get e)=some g) (hwp:0<g.shp.width) (hsz:n*g.shp.width<=16777216)
  (hs:qCC c.tab e n 1 (ps.toList.map fun p=>(p.1,ev ρ p.2)) [g.zeros n]=some [g']) (hr:∀ x∈o.op.operands,qS env (ev ρ x) (a.eval x)):
  ∃ cells':Array Value,g'.ok /\ g'.isTbl=true /\ g'.shp=.tbl g.shp.width n /\ cells'.size=n*g.shp.width /\ qB (qI qAo) g'.flat cells'.toList /\
    (execOp a.eval o).run P w=.ok (.value (.slice (some ⟨w.heap.size,0,none⟩) n n)) (w.alloc (.cells cells' e (0,0))):=by
 cases hge:c.tab.get e with
 | none=>rw[hge] at hg;simp[qz] at hg
 | some Le=>
   rw[hge] at hg
   obtain⟨i,z,hi,his,hz,hzc⟩:=(htab e Le hge).info
   obtain⟨d,hu,hd⟩:=(htab t _ hL).desc
   simp only at hd
   subst hd
   have hw:g.shp.width=i.size:=by
    rcases qIw hg with⟨q,_⟩ | q<;>omega
   have hzs:=qJ1 hzc his
   have htb:=qNx hg
   obtain⟨z1,z2,z3⟩:=qS1 htb n
   have hcells:((Array.range (n*i.size)).map (z.cells[· % z.cells.size]!)).toList=(List.replicate n z.cells.toList).flatten:=by
    rw[<- hzs];exact qPk z.cells n (by omega)
   obtain⟨cells',c1,c2,c3⟩:=qR5 (e:=env) (tab:=c.tab) (te:=e) (n:=n) (m:=1) (wd:=g.shp.width) (sz:=i.size) (Le:=Le) Nat.one_pos hwp hge (by omega) (by omega) _
    (ps.toList.map fun p=>(p.1,a.eval p.2)) [g.zeros n] [g'] ((Array.range (n*i.size)).map (z.cells[· % z.cells.size]!)) hs
    (qGF _ fun p hp'=>hr p.2 (by simp only[ho,Op.operands];simp;exact⟨p.1,by simpa using hp'⟩)) (by rw[hcells];simpa using qS0 hg hzc n) (qAV.2 ⟨z1,qCT⟩) (by simp[z3])
   have hg'ok:g'.ok:=(qAV.1 c3).1
   have hshape:∀ (ps:List (Nat×V)) (qs:List (Nat×Value)) (l l':List Seg),qCC c.tab e n 1 ps l=some l'->qB (qIX env) ps qs->oks l->qU l=[.tbl g.shp.width n]->qU l'=qU l:=by
    intro ps
    induction ps with
    | nil=>intro qs l l' h _ _ _;simp[qCC] at h;subst h;rfl
    | cons p ps ih=>
      intro qs l l' hh2 hq hok hsh
      cases qs with
      | nil=>exact hq.elim
      | cons q qs=>
        obtain⟨j,v⟩:=p
        obtain⟨⟨_,hv⟩,hq2⟩:=hq
        simp only[qCC] at hh2
        cases hb:(Nat.blt j n&&v.good&&qCn (c.tab.get e) v) with
        | false=>rw[hb] at hh2;cases hh2
        | true=>
          rw[hb] at hh2
          simp only[cond_true] at hh2
          split at hh2<;>try cases hh2
          rename_i l1 hl1
          simp only[Bool.and_eq_true,Nat.blt_eq] at hb
          obtain⟨⟨hj,hgd⟩,hf⟩:=hb
          obtain⟨d1,d2,d3⟩:=qGU hv hgd
          have hst:=qIR hl1 hok ⟨Nat.one_pos,g.shp.width,n,by rw[hsh];rfl,by omega,hwp⟩ d2 (qGV d1)
          exact (ih qs l1 l' hh2 hq2 hst.ok (hst.shp.trans hsh)).trans hst.shp
   have hsh:=hshape _ _ _ _ hs (qGF (a:=a) _ fun p hp'=>hr p.2 (by simp only[ho,Op.operands];simp;exact⟨p.1,by simpa using hp'⟩)) (qAV.2 ⟨z1,qCT⟩) (by simp[z3])
   have hsh:g'.shp=.tbl g.shp.width n:=by simpa[z3] using hsh
   have hgt:g'.isTbl=true:=by
    cases g' with
    | one vs=>simp[Seg.shp] at hsh
    | _=>rfl
   have hcl:=qB.length c2
   simp only[flats_cons,flats_nil,List.append_nil,Seg.flat_length hg'ok] at hcl
   have hcsz:cells'.size=n*g.shp.width:=by
    have:g'.shp.size=n*g.shp.width:=by rw[hsh];rfl
    simp at hcl;omega
   have hrun:(execOp a.eval o).run P w=.ok (.value (.slice (some ⟨w.heap.size,0,none⟩) n n)) (w.alloc (.cells cells' e)):=by
    have hlim:¬ (n*i.size>2 ^ 24):=by rw[<- hw];omega
    have hlim2:¬ (16777216<n*i.size):=by rw[<- hw];omega
    by_cases hz0:n*i.size=0
    ·have hn0:n=0:=by
      rcases Nat.mul_eq_zero.1 hz0 with q | q
      ·exact q
      ·omega
     have c1':=c1
     rw[hz0] at c1'
     simp[execOp,ho,Instr.buildSlice,run_underlying hu,sizeOf,typeInfo,hi,hz0,newRow]
     simp[Array.range_zero'] at c1' ⊢
     rw[show (List.map (fun p=>(p.fst,a.eval p.snd)) ps.toList)=_ from rfl] at c1'
     rw[c1']
     rfl
    ·simp[execOp,ho,Instr.buildSlice,run_underlying hu,sizeOf,typeInfo,hi,hz0,hlim2,zeroValue,hz,newRow]
     rw[c1]
     rfl
   exact⟨cells',hg'ok,hgt,hsh,hcsz,qRt (e:=env) (fun vs hvs=>by rw[hvs] at hgt;cases hgt) (by simpa using c2),hrun⟩
theorem qYc {c:Ctx} {R:Type} {K:Kt R} {r:R} {t e:TypeId} {n:Nat} {ps:Array (Nat×Operand)} {g g':Seg} (htab:∀ t L,c.tab.get t=some L->LayOK P c.tab t L)
  (ho:o.op=.buildSlice t n ps) (hL:c.tab.get t=some (.sc (.sl e))) (hg:qz (c.tab.get e)=some g) (hwp:0<g.shp.width) (hsz:n*g.shp.width<=16777216)
  (hs:qCC c.tab e n 1 (ps.toList.map fun p=>(p.1,ev ρ p.2)) [g.zeros n]=some [g'])
  (hE:K (.s (.sl nx 0 n true)) [(nx,.sli e false g')] (nx+1)=some r):∃ v up nx',K v up nx'=some r /\ qQ P o ρ h nx v up nx':=by
 refine⟨_,_,_,hE,fun nm w a hr hh N Q hN=>?_⟩
 cases hge:c.tab.get e with
 | none=>rw[hge] at hg;simp[qz] at hg
 | some Le=>
   rw[hge] at hg
   obtain⟨i,z,hi,his,hz,hzc⟩:=(htab e Le hge).info
   obtain⟨d,hu,hd⟩:=(htab t _ hL).desc
   simp only at hd
   subst hd
   have hw:g.shp.width=i.size:=by
    rcases qIw hg with⟨q,_⟩ | q<;>omega
   have hzs:=qJ1 hzc his
   have htb:=qNx hg
   obtain⟨z1,z2,z3⟩:=qS1 htb n
   have hcells:((Array.range (n*i.size)).map (z.cells[· % z.cells.size]!)).toList=(List.replicate n z.cells.toList).flatten:=by
    rw[<- hzs];exact qPk z.cells n (by omega)
   obtain⟨cells',c1,c2,c3⟩:=qR5 (e:=⟨nm,h,nx⟩) (tab:=c.tab) (te:=e) (n:=n) (m:=1) (wd:=g.shp.width) (sz:=i.size) (Le:=Le) Nat.one_pos hwp hge (by omega) (by omega) _
    (ps.toList.map fun p=>(p.1,a.eval p.2)) [g.zeros n] [g'] ((Array.range (n*i.size)).map (z.cells[· % z.cells.size]!)) hs
    (qGF _ fun p hp'=>hr p.2 (by simp only[ho,Op.operands];simp;exact⟨p.1,by simpa using hp'⟩)) (by rw[hcells];simpa using qS0 hg hzc n) (qAV.2 ⟨z1,qCT⟩) (by simp[z3])
   have hg'ok:g'.ok:=(qAV.1 c3).1
   have hshape:∀ (ps:List (Nat×V)) (qs:List (Nat×Value)) (l l':List Seg),qCC c.tab e n 1 ps l=some l'->qB (qIX ⟨nm,h,nx⟩) ps qs->oks l->qU l=[.tbl g.shp.width n]->qU l'=qU l:=by
    intro ps
    induction ps with
    | nil=>intro qs l l' h _ _ _;simp[qCC] at h;subst h;rfl
    | cons p ps ih=>
      intro qs l l' hh2 hq hok hsh
      cases qs with
      | nil=>exact hq.elim
      | cons q qs=>
        obtain⟨j,v⟩:=p
        obtain⟨⟨_,hv⟩,hq2⟩:=hq
        simp only[qCC] at hh2
        cases hb:(Nat.blt j n&&v.good&&qCn (c.tab.get e) v) with
        | false=>rw[hb] at hh2;cases hh2
        | true=>
          rw[hb] at hh2
          simp only[cond_true] at hh2
          split at hh2<;>try cases hh2
          rename_i l1 hl1
          simp only[Bool.and_eq_true,Nat.blt_eq] at hb
          obtain⟨⟨hj,hgd⟩,hf⟩:=hb
          obtain⟨d1,d2,d3⟩:=qGU hv hgd
          have hst:=qIR hl1 hok ⟨Nat.one_pos,g.shp.width,n,by rw[hsh];rfl,by omega,hwp⟩ d2 (qGV d1)
          exact (ih qs l1 l' hh2 hq2 hst.ok (hst.shp.trans hsh)).trans hst.shp
   have hsh:=hshape _ _ _ _ hs (qGF (a:=a) _ fun p hp'=>hr p.2 (by simp only[ho,Op.operands];simp;exact⟨p.1,by simpa using hp'⟩)) (qAV.2 ⟨z1,qCT⟩) (by simp[z3])
   have hsh:g'.shp=.tbl g.shp.width n:=by simpa[z3] using hsh
   have hgt:g'.isTbl=true:=by
    cases g' with
    | one vs=>simp[Seg.shp] at hsh
    | _=>rfl
   have hcl:=qB.length c2
   simp only[flats_cons,flats_nil,List.append_nil,Seg.flat_length hg'ok] at hcl
   have hcsz:cells'.size=n*g.shp.width:=by
    have:g'.shp.size=n*g.shp.width:=by rw[hsh];rfl
    simp at hcl;omega
   obtain⟨nm',n1,n2,n3,n4⟩:=qX8 (e:=e) (g:=g') (arr:=cells') (n:=n) (cap:=n) hh hg'ok hgt (by rw[hsh];rfl) (Nat.le_refl _)
    (by have:=Nat.le_trans (Nat.le_mul_of_pos_right n hwp) hsz;simp only[maxLen];omega) (by rw[hsh];exact hcsz) (by
     rw[hsh]
     show qB _ _ (cells'.toList.take (n*g.shp.width))
     rw[List.take_of_length_le (by simp;omega)]
     exact qRt (e:=⟨nm,h,nx⟩) (fun vs hvs=>by rw[hvs] at hgt;cases hgt) (by simpa using c2))
   unfold Oper.wp
   have hrun:(execOp a.eval o).run P w=.ok (.value (.slice (some ⟨w.heap.size,0,none⟩) n n)) (w.alloc (.cells cells' e)):=by
    have hlim:¬ (n*i.size>2 ^ 24):=by rw[<- hw];omega
    have hlim2:¬ (16777216<n*i.size):=by rw[<- hw];omega
    by_cases hz0:n*i.size=0
    ·have hn0:n=0:=by
      rcases Nat.mul_eq_zero.1 hz0 with q | q
      ·exact q
      ·omega
     have c1':=c1
     rw[hz0] at c1'
     simp[execOp,ho,Instr.buildSlice,run_underlying hu,sizeOf,typeInfo,hi,hz0,newRow]
     simp[Array.range_zero'] at c1' ⊢
     rw[show (List.map (fun p=>(p.fst,a.eval p.snd)) ps.toList)=_ from rfl] at c1'
     rw[c1']
     rfl
    ·simp[execOp,ho,Instr.buildSlice,run_underlying hu,sizeOf,typeInfo,hi,hz0,hlim2,zeroValue,hz,newRow]
     rw[c1]
     rfl
   rw[hrun]
   exact hN _ nm' _ n1 n2 n3 n4
theorem qpF {P:Program} (w:World) {t e:TypeId} {i:TypeInfo} (hu:P.underlying t=some (.slice e)) (hi:P.info? e=some i) (a:Option Addr) (len cap l h' m:Nat) (lo hi' mx:Option Value)
  (hb:(Instr.sliceBounds true len cap lo hi' mx).run P w=.ok (l,h',m) w):
  (Instr.sliceAt t (.slice a len cap) lo hi' mx).run P w=.ok (.slice (if m=l then a else a.map (·.add (l*i.size))) (h' - l) (m - l)) w:=by
 simp[Instr.sliceAt,Instr.slice,run_underlying hu,hb,sizeOf,typeInfo,hi]
theorem qie {x:Int} {n:Nat}:qOr x n=true↔0<=x /\ x<=n:=by simp[qOr]
theorem qlJ {c:Ctx} {R:Type} {K:Kt R} {r:R} {t e:TypeId} {x:Operand} {lo hi mx:Option Operand} {ob l len:Nat} {full:Bool} (htab:∀ t L,c.tab.get t=some L->LayOK P c.tab t L)
  (ho:o.op=.slice t x lo hi mx) (hx:ev ρ x=.s (.sl ob l len full)) (hL:c.tab.get t=some (.sc (.sl e))) (hk:qBa (h.get ob) (qz (c.tab.get e))=true)
  (hE:qIO ρ ob l len full lo hi mx nx K=some r):∃ v up nx',K v up nx'=some r /\ qQ P o ρ h nx v up nx':=by
 obtain⟨T,ro,g,g0,Le,s1,s2,s3,s4,_,s6,s7⟩:=qH9 hk
 obtain⟨i,z,hi0,his,hz,hzc⟩:=(htab e Le s2).info
 obtain⟨d,hu,hd⟩:=(htab t _ hL).desc
 simp only at hd
 subst hd
 have key:∃ h' l' m' f,K (.s (.sl ob (l+l') (h' - l') f)) [] nx=some r /\ h'<=len /\ (l'=0 \/ l'<h') /\ (f=true->full=true /\ l'=0 /\ m'=none) /\ (∀ m,m'=some m->h'<=m /\ m<=len) /\
   ∀ (nm:Nm) (w:World) (a:Act) (cap:Nat),(∀ x∈o.op.operands,qS ⟨nm,h,nx⟩ (ev ρ x) (a.eval x))->len<=cap->
     (Instr.sliceBounds true len cap (lo.map a.eval) (hi.map a.eval) (mx.map a.eval)).run P w=.ok (l',h',m'.getD cap) w:=by
  unfold qIO hiE at hE
  have hmem:∀ y,some y=lo \/ some y=hi \/ some y=mx->y∈o.op.operands:=by
   intro y hy
   rw[ho]
   simp only[Op.operands,Array.mem_append]
   rcases hy with rfl | rfl | rfl<;>simp
  have hint:∀ {nm:Nm} {a:Act} {y:Operand} {k:IntKind} {n:Int},(∀ x∈o.op.operands,qS ⟨nm,h,nx⟩ (ev ρ x) (a.eval x))->y∈o.op.operands->ev ρ y=.s (.i k n)->a.eval y=.int k n:=by
   intro nm a y k n hr hy hv
   have:=hr y hy
   rw[hv] at this
   exact this.1
  have hloE:∀ {h':Nat} {f1:Bool} ,loE ρ h' lo (fun l' f2=>K (.s (.sl ob (l+l') (h' - l') (full&&f1&&f2))) [] nx)=some r->
    ∃ l' f,K (.s (.sl ob (l+l') (h' - l') f)) [] nx=some r /\ (l'=0 \/ l'<h') /\ (f=true->full=true /\ f1=true /\ l'=0) /\
      ∀ (nm:Nm) (w:World) (a:Act) (code:BoundsCode),(∀ x∈o.op.operands,qS ⟨nm,h,nx⟩ (ev ρ x) (a.eval x))->
        (∀ v,lo.map a.eval=some v->(Instr.sliceBound v h' code).run P w=.ok l' w) /\ (lo.map a.eval=none->l'=0):=by
   intro h' f1 hE
   unfold loE at hE
   cases lo with
   | none=>
     refine⟨0,_,hE,.inl rfl,fun hf=>?_,fun nm w a code hr=>⟨fun v hv=>by simp at hv,fun _=>rfl⟩⟩
     simp at hf
     exact⟨hf.1,hf.2,rfl⟩
   | some y=>
     simp only at hE
     split at hE<;>try cases hE
     rename_i k n hv
     rcases qAG hE with⟨hb,hE⟩ | ⟨_,hE⟩<;>try cases hE
     simp only[Bool.and_eq_true,decide_eq_true_eq] at hb
     refine⟨n.toNat,_,hE,.inr (by omega),fun hf=>by simp at hf,fun nm w a code hr=>⟨fun v hv2=>?_,fun hn=>by simp at hn⟩⟩
     simp only[Option.map_some,Option.some.injEq] at hv2
     rw[<- hv2,hint hr (hmem y (.inl rfl)) hv,run_sliceBound (P:=P) w k n h' code hb.1 (by omega)]
  have hmxE:∀ {h':Nat},mxE ρ len h' hi mx (fun f1=>loE ρ h' lo (fun l' f2=>K (.s (.sl ob (l+l') (h' - l') (full&&f1&&f2))) [] nx))=some r->
    ∃ m' f1,loE ρ h' lo (fun l' f2=>K (.s (.sl ob (l+l') (h' - l') (full&&f1&&f2))) [] nx)=some r /\ (f1=true->m'=none) /\ (∀ m,m'=some m->h'<=m /\ m<=len) /\
      ∀ (nm:Nm) (w:World) (a:Act) (cap:Nat) (code:BoundsCode),(∀ x∈o.op.operands,qS ⟨nm,h,nx⟩ (ev ρ x) (a.eval x))->len<=cap->
        (∀ v,mx.map a.eval=some v->hi≠none /\ (Instr.sliceBound v cap code).run P w=.ok (m'.getD cap) w) /\ (mx.map a.eval=none->m'=none):=by
   intro h' hE
   unfold mxE at hE
   cases mx with
   | none=>exact⟨none,true,hE,fun _=>rfl,fun m hm=>by simp at hm,fun nm w a cap code hr hc=>⟨fun v hv=>by simp at hv,fun _=>rfl⟩⟩
   | some y=>
     simp only at hE
     split at hE<;>try cases hE
     rename_i k n hv _
     rcases qAG hE with⟨hb,hE⟩ | ⟨_,hE⟩<;>try cases hE
     simp only[Bool.and_eq_true,decide_eq_true_eq] at hb
     refine⟨some n.toNat,false,hE,fun hf=>(by cases hf),fun m hm=>(by simp at hm;omega),fun nm w a cap code hr hc=>⟨fun v hv2=>⟨by simp,?_⟩,fun hn=>by simp at hn⟩⟩
     simp only[Option.map_some,Option.some.injEq] at hv2
     rw[<- hv2,hint hr (hmem y (.inr (.inr rfl))) hv,run_sliceBound (P:=P) w k n cap code (by omega) (by omega)]
     rfl
  cases hi with
  | none=>
    simp only at hE
    obtain⟨m',f1,hE,e1,e2,e3⟩:=hmxE hE
    obtain⟨l',f,hE,e4,e5,e6⟩:=hloE hE
    refine⟨len,l',m',f,hE,Nat.le_refl _,e4,fun hf=>⟨(e5 hf).1,(e5 hf).2.2,e1 (e5 hf).2.1⟩,e2,fun nm w a cap hr hc=>?_⟩
    obtain⟨q1,q2⟩:=e3 nm w a cap .slice3Acap hr hc
    cases hmx:mx.map a.eval with
    | some v=>exact absurd rfl (q1 v hmx).1
    | none=>
      have hm':=q2 hmx
      subst hm'
      obtain⟨q3,q4⟩:=e6 nm w a .sliceB hr
      cases hlo:lo.map a.eval with
      | none=>simp[Instr.sliceBounds,q4 hlo]
      | some v=>simp[Instr.sliceBounds,q3 v hlo]
  | some y=>
    simp only at hE
    split at hE<;>try cases hE
    rename_i k n hv
    rcases qAG hE with⟨hb,hE⟩ | ⟨_,hE⟩<;>try cases hE
    obtain⟨b1,b2⟩:=qie.1 hb
    obtain⟨m',f1,hE,e1,e2,e3⟩:=hmxE hE
    obtain⟨l',f,hE,e4,e5,e6⟩:=hloE hE
    refine⟨n.toNat,l',m',f,hE,by omega,e4,fun hf=>⟨(e5 hf).1,(e5 hf).2.2,e1 (e5 hf).2.1⟩,e2,fun nm w a cap hr hc=>?_⟩
    obtain⟨q1,q2⟩:=e3 nm w a cap .slice3Acap hr hc
    have hy:=hint hr (hmem y (.inr (.inl rfl))) hv
    cases hmx:mx.map a.eval with
    | some v=>
      obtain⟨_,q5⟩:=q1 v hmx
      obtain⟨q3,q4⟩:=e6 nm w a .slice3C hr
      cases hm2:m' with
      | none=>
        subst hm2
        have qb:=run_sliceBound (P:=P) w k n cap .slice3B b1 (by omega)
        cases hlo:lo.map a.eval with
        | none=>have:=q4 hlo;subst this;simp only[Option.getD_none] at q5;simp[Instr.sliceBounds,q5,hy,qb]
        | some v=>simp only[Option.getD_none] at q5;simp[Instr.sliceBounds,q5,hy,qb,q3 v hlo]
      | some m=>
        subst hm2
        have:=e2 m rfl
        have qb:=run_sliceBound (P:=P) w k n m .slice3B b1 (by omega)
        cases hlo:lo.map a.eval with
        | none=>have:=q4 hlo;subst this;simp only[Option.getD_some] at q5;simp[Instr.sliceBounds,q5,hy,qb]
        | some v=>simp only[Option.getD_some] at q5;simp[Instr.sliceBounds,q5,hy,qb,q3 v hlo]
    | none=>
      have hm':=q2 hmx
      subst hm'
      obtain⟨q3,q4⟩:=e6 nm w a .sliceB hr
      have qb:=run_sliceBound (P:=P) w k n cap .sliceAcap b1 (by omega)
      cases hlo:lo.map a.eval with
      | none=>have:=q4 hlo;subst this;simp[Instr.sliceBounds,hy,qb]
      | some v=>simp[Instr.sliceBounds,hy,qb,q3 v hlo]
 obtain⟨h',l',m',f,hE,k1,k2,k3,k4,k5⟩:=key
 refine⟨_,_,_,hE,qQ.pure fun nm w a hr hh=>?_⟩
 have h1:=hr x (by rw[ho];simp[Op.operands])
 rw[hx] at h1
 obtain⟨h1,h2⟩:=h1
 rw[show (Env.h ⟨nm,h,nx⟩).get ob=_ from s1] at h2
 have h2:qAB nm ob g.shp l len full (a.eval x):=h2
 have hw:g.shp.width=i.size:=by omega
 have goal:∀ v,qAB nm ob g.shp (l+l') (h' - l') f v->qS ⟨nm,h,nx⟩ (.s (.sl ob (l+l') (h' - l') f)) v:=fun v hv=>by
  refine⟨h1,?_⟩
  rw[show (Env.h ⟨nm,h,nx⟩).get ob=_ from s1]
  exact hv
 have hrun:∀ a' cap,a.eval x=.slice a' len cap->len<=cap->
   (execOp a.eval o).run P w=.ok (.value (.slice (if m'.getD cap=l' then a' else a'.map (·.add (l'*i.size))) (h' - l') (m'.getD cap - l'))) w:=by
  intro a' cap he hc
  have:=qpF (P:=P) w hu hi0 a' len cap l' h' (m'.getD cap) (lo.map a.eval) (hi.map a.eval) (mx.map a.eval) (k5 nm w a cap hr hc)
  simp only[execOp,ho,he,Sem.run_bind,this,Result.andThen_ok]
  rfl
 unfold qAB at h2
 split at h2
 ·rename_i hnm
  obtain⟨rfl,rfl,hv⟩:=h2
  have hl0:l'=0:=by omega
  have hh0:h'=0:=by omega
  subst hl0
  subst hh0
  refine⟨_,hrun none 0 hv (Nat.le_refl _),goal _ ?_⟩
  unfold qAB
  rw[hnm]
  refine⟨by omega,by omega,?_⟩
  cases hm:m' with
  | none=>simp
  | some m => have:=k4 m hm;have:m=0:=by omega
              subst this;simp
 ·rename_i b off cap hnm
  obtain⟨cc,hv,c1,c2,c3⟩:=h2
  refine⟨_,hrun _ cc hv c1,goal _ ?_⟩
  unfold qAB
  rw[hnm]
  have hm':h'<=m'.getD cc:=by
   cases hm:m' with
   | none=>simp only[Option.getD_none];omega
   | some m=>have:=k4 m hm;simp only[Option.getD_some];omega
  have haddr:(if m'.getD cc=l' then some (⟨b,off+l*g.shp.width,none⟩:Addr) else (some (⟨b,off+l*g.shp.width,none⟩:Addr)).map (·.add (l'*i.size)))=some ⟨b,off+(l+l')*g.shp.width,none⟩:=by
   rcases k2 with rfl | k2
   ·split
    ·simp
    ·simp[Addr.add_lit]
   ·rw[if_neg (by omega)]
    simp only[Option.map_some,Addr.add_lit,<- hw,Nat.add_mul,Nat.add_assoc]
  simp only[haddr]
  refine⟨m'.getD cc - l',rfl,by omega,by omega,fun hf=>?_⟩
  obtain⟨f1,f2,f3⟩:=k3 hf
  obtain⟨f4,f5⟩:=c3 f1
  subst f2
  subst f3
  refine⟨by omega,?_⟩
  simp only[Option.getD_none];omega
end
end Go.Kk
