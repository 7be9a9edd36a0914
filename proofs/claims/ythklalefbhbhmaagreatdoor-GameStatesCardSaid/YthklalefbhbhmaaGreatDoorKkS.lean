/-
 What it means that the pure interpreter's state tells of a world: names of objects stand for blocks, values for values.
-/
import Derived.Test.YthklalefbhbhmaaGreatDoorKkR
import Derived.Defers
namespace Go.Kk
abbrev Nm:=Nat->Option (Nat×Nat×Nat)
structure Env where
 nm:Nm
 h:Hp
 nx:Nat
inductive OShp where
 | dead
 | cells (sh:List Shp)
 | sli (sh:Shp)
 | map
 | pol (wd:Nat)
def Obj.shape:Obj->OShp
 | .dead=>.dead
 | .cells _ l=>.cells (qU l)
 | .rcells _ l=>.cells (qU l)
 | .sli _ _ g=>.sli g.shp
 | .map _ _ _ _ _=>.map
 | .iter _ _=>.map
 | .maps _ _ _ _ _=>.map
 | .pol _ ps=>.pol ps.wd
def Obj.owned:Obj->Bool
 | .cells _ _=>true
 | .rcells _ _=>false
 | .sli _ ro _=>!ro
 | .map _ _ _ _ _=>true
 | .iter _ _=>true
 | .maps _ _ _ _ _=>true
 | .pol _ _=>true
 | .dead=>false
def qEf (nm:Nm) (o:Nat) (sh:List Shp) (sg:Nat) (row:Option (Nat×Nat)) (col:Nat) (v:Value):Prop:=
 qGX sh sg row col /\ ∃ b off cap,nm o=some (b,off,cap) /\ v=.pointer (some ⟨b,off+qX sh sg row col,none⟩)
def qAB (nm:Nm) (o:Nat) (s:Shp) (lo len:Nat) (full:Bool) (v:Value):Prop:=match nm o with
 | none=>lo=0 /\ len=0 /\ v=.slice none 0 0
 | some (b,off,cap)=>∃ c,v=.slice (some ⟨b,off+lo*s.width,none⟩) len c /\ len<=c /\ lo+len<=s.rows /\ (full=true->lo=0 /\ c=cap)
def big:Nat:=18446744073709551616
def qAH:List Nat->Nat
 | []=>0
 | x :: r=>2 ^ x*(2*qAH r+1)
theorem qKU:∀ (l m:List Nat),qAH l=qAH m->l=m:=by
 have key:∀ (x y a b:Nat),2 ^ x*(2*a+1)=2 ^ y*(2*b+1)->x<=y->x=y /\ a=b:=by
  intro x y a b h hxy
  obtain⟨d,rfl⟩:=Nat.exists_eq_add_of_le hxy
  rw[Nat.pow_add,Nat.mul_assoc] at h
  have h:=Nat.eq_of_mul_eq_mul_left (Nat.two_pow_pos x) h
  cases d with
  | zero=>exact⟨rfl,by simp at h;omega⟩
  | succ d=>
    have h2:2 ^ (d+1)*(2*b+1)=2*(2 ^ d*(2*b+1)):=by rw[Nat.pow_succ,Nat.mul_comm (2 ^ d) 2,Nat.mul_assoc]
    rw[h2] at h
    omega
 have pos:∀ (x:Nat) (l:List Nat),0<qAH (x :: l):=fun x l=>Nat.mul_pos (Nat.two_pow_pos x) (Nat.succ_pos _)
 intro l
 induction l with
 | nil=>
   intro m h
   cases m with
   | nil=>rfl
   | cons y m=>have:=pos y m;rw[<- h] at this;exact absurd this (by simp[qAH])
 | cons x l ih=>
   intro m h
   cases m with
   | nil=>have:=pos x l;rw[h] at this;exact absurd this (by simp[qAH])
   | cons y m=>
     simp only[qAH] at h
     rcases Nat.le_total x y with hxy | hxy
     ·obtain⟨rfl,h2⟩:=key _ _ _ _ h hxy
      rw[ih m h2]
     ·obtain⟨rfl,h2⟩:=key _ _ _ _ h.symm hxy
      rw[ih m h2.symm]
def qAN (x len cap:Nat):Nat:=qAH [x,len,cap]
theorem qMR {x len cap x' len' cap':Nat} (h:qAN x len cap=qAN x' len' cap'):x=x' /\ len=len' /\ cap=cap':=by
 have:=qKU _ _ h
 simp at this
 exact this
theorem qJo (x len cap:Nat):qAN x len cap≠1:=fun h=>by
 have:qAN x len cap=qAH [0]:=by rw[h];rfl
 have:=qKU _ _ this
 simp at this
theorem qMS (x len cap:Nat):0<qAN x len cap:=Nat.mul_pos (Nat.two_pow_pos x) (Nat.succ_pos _)
def qEh (c:Option Nat) (v:Value):Prop:=match c with
 | none=>v=.slice none 0 0
 | some c=>(c=1 /\ v=.slice none 0 0) \/ ∃ x len cap,c=qAN x len cap /\ v=.slice (some ⟨x,0,none⟩) len cap
theorem qEh.form {c:Option Nat} {v:Value} (h:qEh c v):∃ a l k,v=.slice a l k:=by
 unfold qEh at h
 split at h
 ·exact⟨_,_,_,h⟩
 ·rcases h with⟨_,h⟩ | ⟨_,_,_,_,h⟩<;>exact⟨_,_,_,h⟩
def qGm (e:Env) (o:Nat) (v:Value):Prop:=o<e.nx /\ match (e.h.get o).shape with
 | .cells _=>∃ b off cap,e.nm o=some (b,off,cap) /\ v=.pointer (some ⟨b,off,none⟩)
 | .dead=>∃ a,v=.pointer a
 | _=>False
def qI (e:Env):S->Value->Prop
 | .bad,_=>True
 | .i k n,v=>v=.int k n /\ k.wrap n=n
 | .b x,v=>v=.bool x
 | .str s,v=>v=.string s
 | .nilp,v=>v=.pointer none
 | .ptr o sg row col,v=>o<e.nx /\ match (e.h.get o).shape with
   | .cells sh=>qEf e.nm o sh sg row col v
   | .sli s=>qEf e.nm o [s] sg row col v
   | .dead=>∃ a,v=.pointer a
   | _=>False
 | .sl o lo len full,v=>o<e.nx /\ match (e.h.get o).shape with
   | .sli s=>qAB e.nm o s lo len full v
   | .dead=>∃ a l c,v=.slice a l c
   | _=>False
 | .nilm,v=>v=.map none
 | .nils,v=>v=.slice none 0 0
 | .mp o,v=>o<e.nx /\ match (e.h.get o).shape with
   | .map=>∃ b off cap,e.nm o=some (b,off,cap) /\ v=.map (some b)
   | .dead=>∃ a,v=.map a
   | _=>False
 | .it o,v=>o<e.nx /\ match (e.h.get o).shape with
   | .map=>∃ b off cap,e.nm o=some (b,off,cap) /\ v=.pointer (some ⟨b,0,none⟩)
   | .dead=>∃ a,v=.pointer a
   | _=>False
 | .fn f caps,v=>∃ vs:List Value,v=.func (.func f) #[] vs.toArray /\ qB (qGm e) caps vs
 | .gp g j,v=>v=.pointer (some ⟨g,j,none⟩) /\ ∃ k l,qBN g=some (k,l) /\ j<l.length
 | .vw p j,v=>p<e.nx /\ match (e.h.get p).shape with
   | .pol _=>∃ pb cs,e.nm p=some (pb,0,big+qAH cs) /\ qEh cs[j]? v
   | .dead=>∃ a l c,v=.slice a l c
   | _=>False
 | .vp p j i col,v=>p<e.nx /\ match (e.h.get p).shape with
   | .pol wd=>col<wd /\ ∃ pb cs x len cap,e.nm p=some (pb,0,big+qAH cs) /\ cs[j]? = some (qAN x len cap) /\ i<len /\ v=.pointer (some ⟨x,i*wd+col,none⟩)
   | .dead=>∃ a,v=.pointer a
   | _=>False
def qCY (e:Env):W->Value->Prop
 | .s x,v=>qI e x v
 | .agg l,v=>∃ arr,v=.agg arr /\ qB (qI e) (qc l) arr.toList /\ oks l
def qS (e:Env):V->Value->Prop
 | .s x,v=>qI e x v
 | .agg l,v=>∃ arr,v=.agg arr /\ qB (qI e) (qc l) arr.toList /\ oks l
 | .tup l,v=>∃ arr,v=.tuple arr /\ qB (qCY e) l arr.toList
theorem qCY.v {e:Env} {x:W} {v:Value} (h:qCY e x v):qS e x.v v:=by cases x<;>exact h
theorem qS.w {e:Env} {x:V} {y:W} {v:Value} (h:qS e x v) (hw:x.w? = some y):qCY e y v:=by
 cases x<;>simp[V.w?] at hw<;>subst hw<;>exact h
def qAo:Env:=⟨fun _=>none,[],0⟩
def mkA (agg:Bool) (xs:List Value):Value:=match agg with
 | true=>.agg xs.toArray
 | false=>xs.headD undef
def qAS (agg:Bool) (ks:List CK) (r:List Int) (v:Value):Prop:=qq ks r /\ (agg=true \/ ks.length=1) /\ ∃ xs,qB (qI qAo) (mks ks r) xs /\ v=mkA agg xs
def qMZ (ka va:Bool) (kks vks:List CK) (x:List Int×List Int) (m:MapEntry):Prop:=qAS ka kks x.1 m.key /\ qAS va vks x.2 m.val
def blk (nm:Nm) (o:Nat):Option Nat:=(nm o).map (·.1)
def qMa (c x:Nat):Prop:=∃ l len cap,c=big+qAH l /\ qAN x len cap∈l
theorem qWr {l:List Nat} {x:Nat}:qMa (big+qAH l) x ↔ ∃ len cap,qAN x len cap∈l:=
 ⟨fun⟨m,a,b,h1,h2⟩=>⟨a,b,by rw[qKU l m (by omega)];exact h2⟩,fun⟨a,b,h⟩=>⟨l,a,b,rfl,h⟩⟩
theorem qkd {c x:Nat} (h:c<big):¬ qMa c x:=fun⟨l,_,_,h1,_⟩=>by omega
def qCu (t:Option (Nat×Nat×Nat)) (x:Nat):Prop:=match t with
 | none=>False
 | some (b,_,c)=>(b=x /\ c<big) \/ qMa c x
def Has (nm:Nm) (o x:Nat):Prop:=qCu (nm o) x
theorem qCc {nm:Nm} {o b off c:Nat} (h:nm o=some (b,off,c)) (hc:c<big:=by unfold big;omega):Has nm o b:=by unfold Has;rw[h];exact .inl ⟨rfl,hc⟩
theorem qDB {b off c x:Nat} (h:qCu (some (b,off,c)) x) (hc:c<big):x=b:=by
 rcases h with h | h
 ·exact h.1.symm
 ·exact absurd h (qkd hc)
theorem qCv {nm:Nm} {o b off c x:Nat} (h:nm o=some (b,off,c)) (hc:c<big) (hx:Has nm o x):x=b:=by
 unfold Has at hx
 rw[h] at hx
 exact qDB hx hc
theorem qCN {nm:Nm} {o b off x:Nat} {l:List Nat} (h:nm o=some (b,off,big+qAH l)):Has nm o x ↔ ∃ len cap,qAN x len cap∈l:=by
 unfold Has
 rw[h]
 exact⟨fun hx=>hx.elim (fun hx=>by omega) qWr.1,fun hx=>.inr (qWr.2 hx)⟩
theorem qib {nm:Nm} {o x:Nat} (h:nm o=none):¬ Has nm o x:=by unfold Has;rw[h];exact id
theorem qKr {nm nm':Nm} {o o' x:Nat} (h:nm' o'=nm o):Has nm' o' x↔Has nm o x:=by unfold Has;rw[h]
def qFl (w:World) (t:TypeId) (g:Seg) (c:Nat):Prop:=g.ok /\ ((c=1 /\ g.shp.rows=0) \/ ∃ x cap arr,c=qAN x g.shp.rows cap /\ w.heap[x]? = some (.cells arr t (0,0)) /\ arr.size=cap*g.shp.width /\
 g.shp.rows<=cap /\ cap<=maxLen /\ qB (qI qAo) g.flat (arr.toList.take g.shp.size))
def qG (e:Env) (w:World) (o:Nat):Prop:=match e.h.get o with
 | .dead=>True
 | .cells t l=>oks l /\ ∃ b arr,e.nm o=some (b,0,0) /\ w.heap[b]? = some (.cells arr t (0,0)) /\ qB (qI e) (qc l) arr.toList
 | .rcells t l=>oks l /\ ∃ b arr,e.nm o=some (b,0,0) /\ w.heap[b]? = some (.cells arr t (0,0)) /\ qB (qI e) (qc l) arr.toList
 | .sli t false g=>g.ok /\ match e.nm o with
   | none=>g.shp.rows=0
   | some (b,off,cap)=>off=0 /\ ∃ arr,w.heap[b]? = some (.cells arr t (0,0)) /\ arr.size=cap*g.shp.width /\ g.shp.rows<=cap /\ cap<=maxLen /\ qB (qI qAo) g.flat (arr.toList.take g.shp.size)
 | .sli _ true g=>g.ok /\ match e.nm o with
   | none=>g.shp.rows=0
   | some (b,off,c)=>(b<w.heap.size /\ c<big) /\ g.shp.rows<=maxLen /\ ∀ j s,g.flat[j]? = some s->∃ v,w.cell? ⟨b,off+j,none⟩=some v /\ qI qAo s v
 | .map ka va kks vks es=>∃ b ents clock,e.nm o=some (b,0,0) /\ w.heap[b]? = some (.map ents clock) /\ qB (qMZ ka va kks vks) es ents.toList
 | .iter s pos=>(s.size:Int)<=9223372036854775807 /\ ∃ b,e.nm o=some (b,0,0) /\ w.heap[b]? = some (.stringIter s pos)
 | .maps ka kks ks p lent=>∃ b ents clock,e.nm o=some (b,0,0) /\ w.heap[b]? = some (.map ents clock) /\ qB (fun r m=>qAS ka kks r m.key) ks ents.toList /\ p<e.nx /\ match (e.h.get p).shape with
   | .pol _=>∃ pb cs,e.nm p=some (pb,0,big+qAH cs) /\ cs.length=ks.length /\ ∀ j m,ents.toList[j]? = some m->lent=some j \/ qEh cs[j]? m.val
   | .dead=>∀ j m,ents.toList[j]? = some m->lent=some j \/ ∃ a l c,m.val=.slice a l c
   | _=>False
 | .pol t ps=>∃ pb cs,e.nm o=some (pb,0,big+qAH cs) /\ cs.length=ps.len /\ (∀ j c,cs[j]? = some c->c=0 \/ qFl w t (ps.seg j) c) /\
   ∀ (j j' x l k l' k':Nat),cs[j]? = some (qAN x l k)->cs[j']? = some (qAN x l' k')->j=j'
def qCH (e:Env) (w:World):Prop:=∀ g k l,qBN g=some (k,l)->
 (∃ arr t fr,w.heap[g]? = some (.cells arr t fr) /\ arr.toList=l.map (Value.int k)) /\ ∀ o,(e.h.get o).owned=true->¬ Has e.nm o g
structure RelH (e:Env) (w:World):Prop where
 obj:∀ o,qG e w o
 new:∀ o,e.nx<=o->e.h.get o=.dead
 apart:∀ o o' x,o≠o'->(e.h.get o).owned=true->(e.h.get o').shape≠.dead->Has e.nm o x->¬ Has e.nm o' x
 fix:qCH e w
structure Frame' (e:Env) (w w':World):Prop where
 os:w'.os=w.os
 tape:w'.tape=w.tape
 output:w'.output=w.output
 size:w.heap.size<=w'.heap.size
 block:∀ k,k<w.heap.size->(∀ o,(e.h.get o).owned=true->¬ Has e.nm o k)->w'.heap[k]? = w.heap[k]?
structure Ext (e e':Env) (w:World):Prop where
 nx:e.nx<=e'.nx
 old:∀ o,o<e.nx->e'.nm o=e.nm o /\ ((e'.h.get o).shape=(e.h.get o).shape \/ (e'.h.get o).shape=.dead) /\ ((e'.h.get o).owned=true->(e.h.get o).owned=true)
 own:∀ o b,e.nx<=o->(e'.h.get o).shape≠.dead->Has e'.nm o b->w.heap.size<=b \/ ∃ o',(e.h.get o').shape≠.dead /\ Has e.nm o' b /\ ((e'.h.get o).owned=true->(e.h.get o').owned=true)
structure ExtM (m:Nat) (e e':Env) (w:World):Prop where
 nx:m<=e'.nx
 old:∀ o,o<m->e'.nm o=e.nm o /\ ((e'.h.get o).shape=(e.h.get o).shape \/ (e'.h.get o).shape=.dead) /\ ((e'.h.get o).owned=true->(e.h.get o).owned=true)
 own:∀ o b,m<=o->(e'.h.get o).shape≠.dead->Has e'.nm o b->w.heap.size<=b \/ ∃ o',(e.h.get o').shape≠.dead /\ Has e.nm o' b /\ ((e'.h.get o).owned=true->(e.h.get o').owned=true)
theorem Ext.toM {e e':Env} {w:World} (h:Ext e e' w):ExtM e.nx e e' w:=⟨h.nx,h.old,h.own⟩
theorem qAr {x:Obj} (h:x.owned=true):x.shape≠.dead:=by cases x<;>simp[Obj.owned] at h<;>simp[Obj.shape]
theorem qCH.go {m:Nat} {e e':Env} {w w':World} (h:qCH e w) (f:Frame' e w w') (x:ExtM m e e' w):qCH e' w':=by
 intro g k l hg
 obtain⟨⟨arr,t,fr,h1,h2⟩,h3⟩:=h g k l hg
 have hlt:g<w.heap.size:=by
  rcases Nat.lt_or_ge g w.heap.size with hh | hh
  ·exact hh
  ·rw[Array.getElem?_eq_none hh] at h1;cases h1
 refine⟨⟨arr,t,fr,by rw[f.block g hlt h3];exact h1,h2⟩,fun o ho hb=>?_⟩
 rcases Nat.lt_or_ge o m with hm | hm
 ·obtain⟨a,_,c⟩:=x.old o hm
  exact h3 o (c ho) ((qKr a).1 hb)
 ·rcases x.own o g hm (qAr ho) hb with hh | ⟨o',h4,h5,h6⟩
  ·omega
  ·exact h3 o' (h6 ho) h5
theorem qCH.sub {e e':Env} {w:World} (h:qCH e w) (hs:∀ o,(e'.h.get o).owned=true->∃ o',(e.h.get o').owned=true /\ e.nm o'=e'.nm o):qCH e' w:=by
 intro g k l hg
 obtain⟨h1,h3⟩:=h g k l hg
 refine⟨h1,fun o ho hb=>?_⟩
 obtain⟨o',h4,h5⟩:=hs o ho
 exact h3 o' h4 ((qKr h5).2 hb)
theorem Frame'.refl (e:Env) (w:World):Frame' e w w:=⟨rfl,rfl,rfl,Nat.le_refl _,fun _ _ _=>rfl⟩
theorem Ext.refl {e:Env} {w:World} (h:RelH e w):Ext e e w:=
 ⟨Nat.le_refl _,fun _ _=>⟨rfl,.inl rfl,id⟩,fun o b ho hd=>by rw[h.new o ho] at hd;exact absurd rfl hd⟩
def qBd (e1 e2:Env) (g:Nat->Nat) (o:Nat):Prop:=
 g o<e2.nx /\ ((e2.h.get (g o)).shape=.dead \/ ((e2.h.get (g o)).shape=(e1.h.get o).shape /\ e2.nm (g o)=e1.nm o))
theorem qEf.form {nm:Nm} {o:Nat} {sh:List Shp} {sg:Nat} {row:Option (Nat×Nat)} {col:Nat} {v:Value} (h:qEf nm o sh sg row col v):∃ a,v=.pointer a:=by
 obtain⟨_,b,off,cap,_,h⟩:=h
 exact⟨_,h⟩
theorem qAB.form {nm:Nm} {o:Nat} {s:Shp} {lo len:Nat} {full:Bool} {v:Value} (h:qAB nm o s lo len full v):∃ a l c,v=.slice a l c:=by
 unfold qAB at h
 split at h
 ·exact⟨_,_,_,h.2.2⟩
 ·obtain⟨c,h,_⟩:=h
  exact⟨_,_,_,h⟩
theorem qGm.ren {e1 e2:Env} {g:Nat->Nat} {o:Nat} {v:Value} (h:qGm e1 o v) (hs:qBd e1 e2 g o):qGm e2 (g o) v:=by
 obtain⟨h1,h2⟩:=h
 obtain⟨h3,h4⟩:=hs
 refine⟨h3,?_⟩
 rcases h4 with h4 | ⟨h4,h5⟩
 ·rw[h4]
  cases hsh:(e1.h.get o).shape<;>rw[hsh] at h2<;>simp only at h2 ⊢
  ·exact h2
  ·obtain⟨b,off,cap,_,h⟩:=h2
   exact⟨_,h⟩
 ·rw[h4,h5];exact h2
theorem qI.ren {e1 e2:Env} {g:Nat->Nat} {s:S} {v:Value} (h:qI e1 s v) (hs:∀ o∈s.refs,o<e1.nx->qBd e1 e2 g o):qI e2 (s.ren g) v:=by
 cases s with
 | ptr o sg row col=>
   obtain⟨h1,h2⟩:=h
   obtain⟨h3,h4⟩:=hs o (by simp[S.refs]) h1
   refine⟨h3,?_⟩
   rcases h4 with h4 | ⟨h4,h5⟩
   ·rw[h4]
    cases hsh:(e1.h.get o).shape<;>rw[hsh] at h2<;>simp only at h2 ⊢
    ·exact h2
    ·exact qEf.form h2
    ·exact qEf.form h2
   ·rw[h4]
    cases hsh:(e1.h.get o).shape<;>rw[hsh] at h2<;>simp only[qEf] at h2 ⊢ <;> first | exact h2 | (rw[h5];exact h2)
 | sl o lo len full=>
   obtain⟨h1,h2⟩:=h
   obtain⟨h3,h4⟩:=hs o (by simp[S.refs]) h1
   refine⟨h3,?_⟩
   rcases h4 with h4 | ⟨h4,h5⟩
   ·rw[h4]
    cases hsh:(e1.h.get o).shape<;>rw[hsh] at h2<;>simp only at h2 ⊢
    ·exact h2
    ·exact qAB.form h2
   ·rw[h4]
    cases hsh:(e1.h.get o).shape<;>rw[hsh] at h2<;>simp only[qAB] at h2 ⊢ <;> first | exact h2 | (rw[h5];exact h2)
 | mp o=>
   obtain⟨h1,h2⟩:=h
   obtain⟨h3,h4⟩:=hs o (by simp[S.refs]) h1
   refine⟨h3,?_⟩
   rcases h4 with h4 | ⟨h4,h5⟩
   ·rw[h4]
    cases hsh:(e1.h.get o).shape<;>rw[hsh] at h2<;>simp only at h2 ⊢
    ·exact h2
    ·obtain⟨b,off,cap,_,h⟩:=h2
     exact⟨_,h⟩
   ·rw[h4,h5];exact h2
 | it o=>
   obtain⟨h1,h2⟩:=h
   obtain⟨h3,h4⟩:=hs o (by simp[S.refs]) h1
   refine⟨h3,?_⟩
   rcases h4 with h4 | ⟨h4,h5⟩
   ·rw[h4]
    cases hsh:(e1.h.get o).shape<;>rw[hsh] at h2<;>simp only at h2 ⊢
    ·exact h2
    ·obtain⟨b,off,cap,_,h⟩:=h2
     exact⟨_,h⟩
   ·rw[h4,h5];exact h2
 | fn f caps=>
   obtain⟨vs,rfl,hc⟩:=h
   refine⟨vs,rfl,?_⟩
   refine qB.map_left (qB.mono_mem (fun o v ho hv=>?_) hc)
   exact qGm.ren hv (hs o (by simpa[S.refs] using ho) hv.1)
 | vw o j=>
   obtain⟨h1,h2⟩:=h
   obtain⟨h3,h4⟩:=hs o (by simp[S.refs]) h1
   refine⟨h3,?_⟩
   rcases h4 with h4 | ⟨h4,h5⟩
   ·rw[h4]
    cases hsh:(e1.h.get o).shape<;>rw[hsh] at h2<;>simp only at h2 ⊢
    ·exact h2
    ·obtain⟨_,_,_,h⟩:=h2
     exact qEh.form h
   ·rw[h4,h5];exact h2
 | vp o j i col=>
   obtain⟨h1,h2⟩:=h
   obtain⟨h3,h4⟩:=hs o (by simp[S.refs]) h1
   refine⟨h3,?_⟩
   rcases h4 with h4 | ⟨h4,h5⟩
   ·rw[h4]
    cases hsh:(e1.h.get o).shape<;>rw[hsh] at h2<;>simp only at h2 ⊢
    ·exact h2
    ·obtain⟨_,_,_,_,_,_,_,_,_,h⟩:=h2
     exact⟨_,h⟩
   ·rw[h4,h5];exact h2
 | _=>exact h
theorem S.ren_id (s:S):s.ren id=s:=by cases s<;>simp[S.ren]
theorem Seg.ren_id (s:Seg):s.ren id=s:=by
 cases s<;>simp[Seg.ren]
 exact (List.map_congr_left fun x _=>S.ren_id x).trans (List.map_id _)
theorem qhG (g:Nat->Nat) (s:Seg):(s.ren g).flat=s.flat.map (S.ren g):=by
 cases s with
 | one vs=>rfl
 | arr k n l=>simp[Seg.ren,Seg.flat,S.ren,Function.comp_def]
 | barr n l=>simp[Seg.ren,Seg.flat,S.ren,Function.comp_def]
 | rows ks n xs=>
   simp only[Seg.ren,Seg.flat,List.map_flatMap]
   congr 1
   funext r
   have:∀ (ks:List CK) (r:List Int),mks ks r=(mks ks r).map (S.ren g):=by
    intro ks
    induction ks with
    | nil=>intro r;rfl
    | cons c ks ih=>intro r;simp only[mks,List.map_cons];rw[<- ih];cases c<;>rfl
   exact this ks r
theorem qhH (g:Nat->Nat) (l:List Seg):qc (l.map (Seg.ren g))=(qc l).map (S.ren g):=by
 induction l with
 | nil=>rfl
 | cons x l ih=>simp only[List.map_cons,flats_cons,List.map_append,ih,qhG]
theorem qlI (g:Nat->Nat) (s:Seg):(s.ren g).ok↔s.ok:=by cases s<;>simp[Seg.ren,Seg.ok]
theorem qLN (g:Nat->Nat) (l:List Seg):oks (l.map (Seg.ren g))↔oks l:=by
 simp only[oks,List.mem_map,forall_exists_index,and_imp,forall_apply_eq_imp_iff₂,qlI]
theorem qqF (g:Nat->Nat) (s:Seg):(s.ren g).shp=s.shp:=by cases s<;>simp[Seg.ren,Seg.shp]
theorem qqG (g:Nat->Nat) (l:List Seg):qU (l.map (Seg.ren g))=qU l:=by simp[qU,Function.comp_def,qqF]
theorem qBc (g:Nat->Nat) (x:Obj):(x.ren g).shape=x.shape:=by cases x<;>simp[Obj.ren,Obj.shape,qqG]
theorem qB6 (g:Nat->Nat) (x:Obj):(x.ren g).owned=x.owned:=by cases x<;>rfl
theorem qkB {s:S} {g:Seg} (h:s∈g.flat) {o:Nat} (ho:o∈s.refs):o∈g.refs:=by
 cases g with
 | one vs=>exact List.mem_flatMap.2 ⟨s,h,ho⟩
 | arr k n l=>
   obtain⟨x,_,rfl⟩:=List.mem_map.1 h
   simp[S.refs] at ho
 | barr n l=>
   obtain⟨x,_,rfl⟩:=List.mem_map.1 h
   simp[S.refs] at ho
 | rows ks n xs=>
   exfalso
   obtain⟨r,_,h⟩:=List.mem_flatMap.1 h
   have:∀ (ks:List CK) (r:List Int) (s:S),s∈mks ks r->s.refs=[]:=by
    intro ks
    induction ks with
    | nil=>intro r s hs;simp[mks] at hs
    | cons c ks ih=>
      intro r s hs
      rcases List.mem_cons.1 hs with rfl | hs
      ·cases c<;>rfl
      ·exact ih _ _ hs
   rw[this ks r s h] at ho
   simp at ho
theorem qkC {s:S} {l:List Seg} (h:s∈qc l) {o:Nat} (ho:o∈s.refs):o∈qIB l:=by
 obtain⟨g,hg,hs⟩:=List.mem_flatMap.1 h
 exact List.mem_flatMap.2 ⟨g,hg,qkB hs ho⟩
theorem qGT {e1 e2:Env} {g:Nat->Nat} {l:List Seg} {vs:List Value} (h:qB (qI e1) (qc l) vs) (hs:∀ o∈qIB l,o<e1.nx->qBd e1 e2 g o):
  qB (qI e2) (qc (l.map (Seg.ren g))) vs:=by
 rw[qhH]
 exact qB.map_left (qB.mono_mem (fun s v hsm hv=>qI.ren hv fun o ho hlt=>hs o (qkC hsm ho) hlt) h)
theorem qCY.ren {e1 e2:Env} {g:Nat->Nat} {x:W} {v:Value} (h:qCY e1 x v) (hs:∀ o∈x.refs,o<e1.nx->qBd e1 e2 g o):qCY e2 (x.ren g) v:=by
 cases x with
 | s x=>exact qI.ren h hs
 | agg l=>
   obtain⟨arr,rfl,h1,h2⟩:=h
   exact⟨arr,rfl,qGT h1 hs,(qLN g l).2 h2⟩
theorem qS.ren {e1 e2:Env} {g:Nat->Nat} {x:V} {v:Value} (h:qS e1 x v) (hs:∀ o∈x.refs,o<e1.nx->qBd e1 e2 g o):qS e2 (x.ren g) v:=by
 cases x with
 | s x=>exact qI.ren h hs
 | agg l=>
   obtain⟨arr,rfl,h1,h2⟩:=h
   exact⟨arr,rfl,qGT h1 hs,(qLN g l).2 h2⟩
 | tup l=>
   obtain⟨arr,rfl,h1⟩:=h
   refine⟨arr,rfl,qB.map_left (qB.mono_mem (fun y v hy hv=>qCY.ren hv fun o ho hlt=>hs o ?_ hlt) h1)⟩
   exact List.mem_flatMap.2 ⟨y,hy,ho⟩
theorem qC2 (l:List Seg):l.map (Seg.ren id)=l:=(List.map_congr_left fun x _=>Seg.ren_id x).trans (List.map_id _)
theorem W.ren_id (x:W):x.ren id=x:=by cases x<;>simp[W.ren,S.ren_id,qC2]
theorem V.ren_id (x:V):x.ren id=x:=by
 cases x<;>simp[V.ren,S.ren_id,qC2]
 exact (List.map_congr_left fun x _=>W.ren_id x).trans (List.map_id _)
theorem Ext.same {e e':Env} {w:World} (h:Ext e e' w) {o:Nat} (ho:o<e.nx):qBd e e' id o:=by
 obtain⟨h1,h2,_⟩:=h.old o ho
 refine⟨Nat.lt_of_lt_of_le ho h.nx,?_⟩
 rcases h2 with h2 | h2
 ·exact .inr ⟨h2,h1⟩
 ·exact .inl h2
theorem qS.ext {e e':Env} {w:World} {s:V} {v:Value} (h:qS e s v) (he:Ext e e' w):qS e' s v:=by
 have:=qS.ren (g:=id) h fun o _ hlt=>he.same hlt
 rwa [V.ren_id] at this
theorem qI.of0 {e:Env} {s:S} {v:Value} (h:qI qAo s v):qI e s v:=by
 cases s with
 | ptr o sg row col=>exact absurd h.1 (Nat.not_lt_zero _)
 | sl o lo len full=>exact absurd h.1 (Nat.not_lt_zero _)
 | mp o=>exact absurd h.1 (Nat.not_lt_zero _)
 | it o=>exact absurd h.1 (Nat.not_lt_zero _)
 | fn f caps=>
   obtain⟨vs,rfl,hc⟩:=h
   exact⟨vs,rfl,qB.mono (fun o v hv=>absurd hv.1 (Nat.not_lt_zero _)) hc⟩
 | vw o j=>exact absurd h.1 (Nat.not_lt_zero _)
 | vp o j i col=>exact absurd h.1 (Nat.not_lt_zero _)
 | _=>exact h
theorem qG.ren {e1 e2:Env} {g:Nat->Nat} {w:World} {o o':Nat} (h:qG e1 w o) (hget:e2.h.get o'=(e1.h.get o).ren g) (hnm:e2.nm o'=e1.nm o)
  (hs:∀ r∈(e1.h.get o).refs,r<e1.nx->qBd e1 e2 g r):qG e2 w o':=by
 unfold qG at h ⊢
 rw[hget,hnm]
 cases hx:e1.h.get o with
 | dead=>trivial
 | cells t l=>
   rw[hx] at h hs
   simp only[Obj.ren] at h ⊢
   obtain⟨h1,b,arr,h2,h3,h4⟩:=h
   exact⟨(qLN g l).2 h1,b,arr,h2,h3,qGT h4 hs⟩
 | rcells t l=>
   rw[hx] at h hs
   simp only[Obj.ren] at h ⊢
   obtain⟨h1,b,arr,h2,h3,h4⟩:=h
   exact⟨(qLN g l).2 h1,b,arr,h2,h3,qGT h4 hs⟩
 | sli t ro sg=>rw[hx] at h;cases ro<;>exact h
 | map kks vks es=>rw[hx] at h;exact h
 | iter s pos=>rw[hx] at h;exact h
 | maps ka kks ks p lent=>
   rw[hx] at h hs
   simp only[Obj.ren] at h ⊢
   obtain⟨b,ents,clock,h1,h2,h3,h4,h5⟩:=h
   obtain⟨q1,q2⟩:=hs p (by simp[Obj.refs]) h4
   refine⟨b,ents,clock,h1,h2,h3,q1,?_⟩
   rcases q2 with q2 | ⟨q2,q3⟩
   ·rw[q2]
    cases hsh:(e1.h.get p).shape<;>rw[hsh] at h5<;>simp only at h5 ⊢
    ·exact h5
    ·obtain⟨_,_,_,_,h⟩:=h5
     exact fun j m hj=>(h j m hj).imp id fun hv=>hv.form
   ·rw[q2,q3];exact h5
 | pol t ps=>rw[hx] at h;exact h
theorem qFl.frame {w w':World} {t:TypeId} {g:Seg} {c:Nat} (h:qFl w t g c) (hb:∀ x len cap,c=qAN x len cap->w'.heap[x]? = w.heap[x]?):qFl w' t g c:=by
 obtain⟨h0,h⟩:=h
 refine⟨h0,?_⟩
 rcases h with h | ⟨x,cap,arr,h1,h2,h3⟩
 ·exact .inl h
 ·exact .inr ⟨x,cap,arr,h1,by rw[hb x _ _ h1];exact h2,h3⟩
theorem qG.frame {e:Env} {w w':World} {o:Nat} (h:qG e w o) (hsz:w.heap.size<=w'.heap.size) (hb:∀ b,Has e.nm o b->w'.heap[b]? = w.heap[b]?):qG e w' o:=by
 unfold qG at h ⊢
 cases hx:e.h.get o with
 | dead=>trivial
 | cells t l=>
   rw[hx] at h
   simp only at h ⊢
   obtain⟨h1,b,arr,h2,h3,h4⟩:=h
   exact⟨h1,b,arr,h2,by rw[hb b (qCc h2)];exact h3,h4⟩
 | rcells t l=>
   rw[hx] at h
   simp only at h ⊢
   obtain⟨h1,b,arr,h2,h3,h4⟩:=h
   exact⟨h1,b,arr,h2,by rw[hb b (qCc h2)];exact h3,h4⟩
 | sli t ro sg=>
   rw[hx] at h
   cases ro
   ·simp only at h ⊢
    refine⟨h.1,?_⟩
    have h2:=h.2
    cases hn:e.nm o with
    | none=>rw[hn] at h2;exact h2
    | some q=>
      obtain⟨b,off,cap⟩:=q
      rw[hn] at h2
      simp only at h2 ⊢
      obtain⟨r1,arr,r2,r3⟩:=h2
      exact⟨r1,arr,by rw[hb b (qCc hn (by have:=r3.2.2.1;unfold maxLen at this;unfold big;omega))];exact r2,r3⟩
   ·simp only at h ⊢
    refine⟨h.1,?_⟩
    have h2:=h.2
    cases hn:e.nm o with
    | none=>rw[hn] at h2;exact h2
    | some q=>
      obtain⟨b,off,cap⟩:=q
      rw[hn] at h2
      simp only at h2 ⊢
      refine⟨⟨by have:=h2.1.1;omega,h2.1.2⟩,h2.2.1,fun j s hj=>?_⟩
      obtain⟨v,hv,hr⟩:=h2.2.2 j s hj
      exact⟨v,by rw[World.cell?_of_block (w:=w) (hb b (qCc hn h2.1.2))];exact hv,hr⟩
 | map kks vks es=>
   rw[hx] at h
   simp only at h ⊢
   obtain⟨b,ents,clock,h2,h3,h4⟩:=h
   exact⟨b,ents,clock,h2,by rw[hb b (qCc h2)];exact h3,h4⟩
 | iter s pos=>
   rw[hx] at h
   simp only at h ⊢
   obtain⟨h0,b,h2,h3⟩:=h
   exact⟨h0,b,h2,by rw[hb b (qCc h2)];exact h3⟩
 | maps ka kks ks p lent=>
   rw[hx] at h
   simp only at h ⊢
   obtain⟨b,ents,clock,h2,h3,h4⟩:=h
   exact⟨b,ents,clock,h2,by rw[hb b (qCc h2)];exact h3,h4⟩
 | pol t ps=>
   rw[hx] at h
   simp only at h ⊢
   obtain⟨pb,cs,h1,h2,h3,h4⟩:=h
   refine⟨pb,cs,h1,h2,fun j c hj=>(h3 j c hj).imp id fun hs=>hs.frame fun x len cap hc=>?_,h4⟩
   exact hb x ((qCN h1).2 ⟨len,cap,by rw[<- hc];exact List.mem_of_getElem? hj⟩)
theorem qG.blk_has {e:Env} {w:World} {o x:Nat} {t:TypeId} {g:Seg} (h:qG e w o) (ho:e.h.get o=.sli t false g) (hb:blk e.nm o=some x):Has e.nm o x:=by
 unfold qG at h
 rw[ho] at h
 have h:=h.2
 unfold blk at hb
 cases hn:e.nm o with
 | none=>rw[hn] at hb;cases hb
 | some q=>
   obtain⟨b,off,cap⟩:=q
   rw[hn] at hb h
   simp only at h
   cases hb
   exact qCc hn (by have:=h.2;obtain⟨_,_,_,_,h5,_⟩:=this;unfold maxLen at h5;unfold big;omega)
theorem qG.lt {e:Env} {w:World} {o b:Nat} (h:qG e w o) (hl:(e.h.get o).shape≠.dead) (hb:Has e.nm o b):b<w.heap.size:=by
 unfold qG at h
 cases hx:e.h.get o with
 | dead=>rw[hx] at hl;exact absurd rfl hl
 | cells t l=>
   rw[hx] at h
   obtain⟨h1,b',arr,h2,h3,h4⟩:=h
   obtain rfl:=qCv h2 (by unfold big;omega) hb
   exact (Array.getElem?_eq_some_iff.1 h3).1
 | rcells t l=>
   rw[hx] at h
   obtain⟨h1,b',arr,h2,h3,h4⟩:=h
   obtain rfl:=qCv h2 (by unfold big;omega) hb
   exact (Array.getElem?_eq_some_iff.1 h3).1
 | sli t ro sg=>
   rw[hx] at h
   cases hn:e.nm o with
   | none=>exact absurd hb (qib hn)
   | some q=>
     obtain⟨b',off,cap⟩:=q
     cases ro
     ·simp only[hn] at h
      obtain⟨_,r1,arr,r2,r3,r4,r5,r6⟩:=h
      obtain rfl:=qCv hn (by unfold maxLen at r5;unfold big;omega) hb
      exact (Array.getElem?_eq_some_iff.1 r2).1
     ·simp only[hn] at h
      obtain rfl:=qCv hn h.2.1.2 hb
      exact h.2.1.1
 | map kks vks es=>
   rw[hx] at h
   obtain⟨b',ents,clock,h2,h3,h4⟩:=h
   obtain rfl:=qCv h2 (by unfold big;omega) hb
   exact (Array.getElem?_eq_some_iff.1 h3).1
 | iter s pos=>
   rw[hx] at h
   obtain⟨h0,b',h2,h3⟩:=h
   obtain rfl:=qCv h2 (by unfold big;omega) hb
   exact (Array.getElem?_eq_some_iff.1 h3).1
 | maps ka kks ks p lent=>
   rw[hx] at h
   obtain⟨b',ents,clock,h2,h3,h4⟩:=h
   obtain rfl:=qCv h2 (by unfold big;omega) hb
   exact (Array.getElem?_eq_some_iff.1 h3).1
 | pol t ps=>
   rw[hx] at h
   obtain⟨pb,cs,h1,h2,h3,h4⟩:=h
   obtain⟨len,cap,hm⟩:=(qCN h1).1 hb
   obtain⟨j,hj⟩:=List.mem_iff_getElem?.1 hm
   rcases h3 j _ hj with h5 | ⟨_,⟨h5,_⟩ | ⟨x,cap',arr,h5,h6,_⟩⟩
   ·have:=qMS b len cap;omega
   ·exact absurd h5 (qJo b len cap)
   ·obtain⟨rfl,_,_⟩:=qMR h5
    exact (Array.getElem?_eq_some_iff.1 h6).1
theorem qK9 {x:Nat} {l:List Nat}:qDG x l=true↔x∈l:=by
 induction l with
 | nil=>simp[qDG]
 | cons y l ih=>
   simp only[qDG,Bool.or_eq_true,ih,List.mem_cons,Nat.beq_eq]
   exact⟨fun h=>h.imp Eq.symm id,fun h=>h.imp Eq.symm id⟩
theorem qYW {l:List Nat}:qGB l=true↔l.Nodup:=by
 induction l with
 | nil=>simp[qGB]
 | cons y l ih=>
   simp only[qGB,Bool.and_eq_true,Bool.not_eq_true',List.nodup_cons,ih]
   rw[<- Bool.not_eq_true,qK9]
theorem qHR {x:Nat} {l:List Nat} (h:x∈l):qAE x l<l.length:=by
 induction l with
 | nil=>simp at h
 | cons y l ih=>
   simp only[qAE]
   cases hy:Nat.beq y x with
   | true=>simp
   | false=>
     have:x≠y:=fun e=>by subst e;simp at hy
     simpa using ih (by simpa[this] using h)
theorem qWm {x:Nat} {l:List Nat} (h:x∈l):l[qAE x l]? = some x:=by
 induction l with
 | nil=>simp at h
 | cons y l ih=>
   simp only[qAE]
   cases hy:Nat.beq y x with
   | true=>
     have e:y=x:=Nat.eq_of_beq_eq_true hy
     rw[e];rfl
   | false=>
     have:x≠y:=fun e=>by subst e;simp at hy
     simpa using ih (by simpa[this] using h)
theorem qOp {l:List Nat} (hn:l.Nodup) {i x:Nat} (h:l[i]? = some x):qAE x l=i:=by
 induction l generalizing i with
 | nil=>simp at h
 | cons y l ih=>
   simp only[qAE]
   cases i with
   | zero=>simp at h;subst h;simp
   | succ i=>
     have hx:x∈l:=List.mem_of_getElem? (by simpa using h)
     have hy:Nat.beq y x=false:=by
      cases hb:Nat.beq y x with
      | false=>rfl
      | true=>
        have:y=x:=by simpa using hb
        subst this
        exact absurd hx (List.nodup_cons.1 hn).1
     simp[hy,ih (List.nodup_cons.1 hn).2 (by simpa using h)]
theorem qJG {d:Nat} {l:List Nat} {i x:Nat} (h:l[i]? = some x):qAC d l i=x:=by
 induction l generalizing i with
 | nil=>simp at h
 | cons y l ih=>
   cases i with
   | zero=>simpa[qAC] using h
   | succ i=>simpa[qAC] using ih (by simpa using h)
theorem qLJ {d:Nat} {l:List Nat} {i:Nat} (h:l.length<=i):qAC d l i=d+(i - l.length):=by
 induction l generalizing i with
 | nil=>simp[qAC]
 | cons y l ih=>
   cases i with
   | zero=>simp at h
   | succ i=>simpa[qAC] using ih (by simpa using h)
theorem qm (a b:Hp) (o:Nat):Hp.get (a++b) o=match a.lookup o with
  | some x=>x
  | none=>Hp.get b o:=by
 induction a with
 | nil=>rfl
 | cons p a ih=>
   obtain⟨k,x⟩:=p
   simp only[List.cons_append,Hp.get,List.lookup]
   cases hk:Nat.beq k o with
   | true=>
     have:k=o:=by simpa using hk
     subst this
     simp
   | false=>
     have hne:(o==k)=false:=by
      rw[beq_eq_false_iff_ne]
      exact fun e=>by subst e;simp at hk
     simp[hne,ih]
theorem qJ2 (nx:Nat):∀ (objs:List Obj) (o:Nat),(qH [] nx objs).lookup o=if nx<=o then objs[o - nx]? else none:=by
 intro objs
 induction objs generalizing nx with
 | nil=>intro o;simp[qH]
 | cons x objs ih=>
   intro o
   simp only[qH,List.lookup]
   by_cases h:o=nx
   ·subst h;simp
   ·have hne:(o==nx)=false:=by rw[beq_eq_false_iff_ne];exact h
    simp only[hne,ih]
    by_cases h2:nx+1<=o
    ·rw[if_pos h2,if_pos (by omega)]
     have:o - nx=o - (nx+1)+1:=by omega
     rw[this];simp
    ·rw[if_neg h2,if_neg (by omega)]
theorem qMY {nx:Nat}:∀ {ks:List Nat} {objs:List Obj} (o:Nat),(∀ k∈ks,k<nx)->ks.length<=objs.length->
  (qH ks nx objs).lookup o=if o∈ks then objs[qAE o ks]? else if nx<=o then objs[ks.length+(o - nx)]? else none:=by
 intro ks
 induction ks with
 | nil=>intro objs o _ _;simp[qJ2]
 | cons k ks ih=>
   intro objs o hk hl
   cases objs with
   | nil=>simp at hl
   | cons x objs=>
     simp only[qH,List.lookup]
     by_cases h:o=k
     ·subst h;simp[qAE]
     ·have hne:(o==k)=false:=by rw[beq_eq_false_iff_ne];exact h
      have hkb:Nat.beq k o=false:=by
       cases hb:Nat.beq k o with
       | false=>rfl
       | true=>exact absurd (by simpa using hb) (Ne.symm h)
      simp only[hne,ih o (fun y hy=>hk y (by simp[hy])) (by simpa using hl),List.mem_cons,h,false_or,qAE,hkb,cond_false]
      by_cases hm:o∈ks
      ·simp[hm]
      ·simp only[hm,if_false]
       by_cases hx:nx<=o
       ·simp only[hx,if_true,List.length_cons]
        rw[show ks.length+1+(o - nx)=ks.length+(o - nx)+1 by omega]
        simp
       ·simp[hx]
theorem qI.oneCell {e:Env} {s:S} {v:Value} (h:qI e s v) (hg:s.good=true):v.oneCell'=true:=by
 cases s with
 | bad=>cases hg
 | i k n=>rw[h.1];rfl
 | b x=>rw[show v=_ from h];rfl
 | str x=>rw[show v=_ from h];rfl
 | nilp=>rw[show v=_ from h];rfl
 | nilm=>rw[show v=_ from h];rfl
 | nils=>rw[show v=_ from h];rfl
 | gp g j=>rw[h.1];rfl
 | vw o j=>
   obtain⟨_,h2⟩:=h
   cases hsh:(e.h.get o).shape<;>rw[hsh] at h2<;>simp only at h2
   ·obtain⟨a,l,c,rfl⟩:=h2;rfl
   ·obtain⟨_,_,_,h⟩:=h2
    obtain⟨a,l,c,rfl⟩:=h.form;rfl
 | vp o j i col=>
   obtain⟨_,h2⟩:=h
   cases hsh:(e.h.get o).shape<;>rw[hsh] at h2<;>simp only at h2
   ·obtain⟨a,rfl⟩:=h2;rfl
   ·obtain⟨_,_,_,_,_,_,_,_,_,rfl⟩:=h2;rfl
 | ptr o sg row col=>
   obtain⟨_,h2⟩:=h
   cases hsh:(e.h.get o).shape<;>rw[hsh] at h2<;>simp only at h2
   ·obtain⟨a,rfl⟩:=h2;rfl
   ·obtain⟨a,rfl⟩:=h2.form;rfl
   ·obtain⟨a,rfl⟩:=h2.form;rfl
 | sl o lo len full=>
   obtain⟨_,h2⟩:=h
   cases hsh:(e.h.get o).shape<;>rw[hsh] at h2<;>simp only at h2
   ·obtain⟨a,l,c,rfl⟩:=h2;rfl
   ·obtain⟨a,l,c,rfl⟩:=h2.form;rfl
 | mp o=>
   obtain⟨_,h2⟩:=h
   cases hsh:(e.h.get o).shape<;>rw[hsh] at h2<;>simp only at h2
   ·obtain⟨a,rfl⟩:=h2;rfl
   ·obtain⟨b,off,cap,_,rfl⟩:=h2;rfl
 | it o=>
   obtain⟨_,h2⟩:=h
   cases hsh:(e.h.get o).shape<;>rw[hsh] at h2<;>simp only at h2
   ·obtain⟨a,rfl⟩:=h2;rfl
   ·obtain⟨b,off,cap,_,rfl⟩:=h2;rfl
 | fn f caps=>obtain⟨vs,rfl,_⟩:=h;rfl
theorem qiR (l:Hp) (o:Nat):Hp.get l o=(l.lookup o).getD .dead:=by
 have:=qm l [] o
 rw[List.append_nil] at this
 rw[this]
 cases l.lookup o<;>rfl
theorem qAg (objs:List Obj) (i:Nat):Hp.get (qH [] 0 objs) i=(objs[i]?).getD .dead:=by
 rw[qiR,qJ2];simp
def qx (e:Env) (ks:List Nat):Env:=⟨fun i=>match ks[i]? with
 | some o=>e.nm o
 | none=>none,qH [] 0 (cut e.h ks),ks.length⟩
theorem qB0 {e:Env} {ks:List Nat} {i o:Nat} (h:ks[i]? = some o):(qx e ks).h.get i=(e.h.get o).ren (fun x=>qAE x ks):=by
 simp[qx,qAg,cut,h]
theorem qEZ {e:Env} {ks:List Nat} {i:Nat} (h:ks.length<=i):(qx e ks).h.get i=.dead:=by
 simp[qx,qAg,cut,List.getElem?_eq_none h]
theorem qCV {e:Env} {ks:List Nat} {i o:Nat} (h:ks[i]? = some o):(qx e ks).nm i=e.nm o:=by simp[qx,h]
theorem qMT {e:Env} {ks:List Nat} {o:Nat} (h:o∈ks):qBd e (qx e ks) (fun x=>qAE x ks) o:=by
 have hg:=qWm h
 refine⟨qHR h,.inr ⟨?_,qCV hg⟩⟩
 rw[qB0 hg,qBc]
theorem qKR {ks l:List Nat}:qEv ks l=true ↔ ∀ x∈l,x∈ks:=by simp[qEv,qK9]
theorem qSk {e:Env} {w:World} {ks:List Nat} (h:RelH e w) (hn:ks.Nodup) (hc:∀ o∈ks,∀ r∈(e.h.get o).refs,r∈ks):RelH (qx e ks) w:=by
 refine⟨fun i=>?_,fun i hi=>qEZ hi,fun i j x hij hi hj hx=>?_,h.fix.sub fun i hi=>?_⟩
 ·rcases Nat.lt_or_ge i ks.length with hi | hi
  ·have hg:ks[i]? = some ks[i]:=List.getElem?_eq_getElem hi
   exact qG.ren (h.obj ks[i]) (qB0 hg) (qCV hg) fun r hr _=>qMT (hc _ (List.getElem_mem hi) r hr)
  ·unfold qG;rw[qEZ hi];trivial
 ·rcases Nat.lt_or_ge i ks.length with hi' | hi'
  ·rcases Nat.lt_or_ge j ks.length with hj' | hj'
   ·have hgi:ks[i]? = some ks[i]:=List.getElem?_eq_getElem hi'
    have hgj:ks[j]? = some ks[j]:=List.getElem?_eq_getElem hj'
    rw[qB0 hgi,qB6] at hi
    rw[qB0 hgj,qBc] at hj
    simp only[Has,qCV hgi,qCV hgj] at hx ⊢
    exact h.apart _ _ x (fun he=>hij ((List.getElem_inj hn).1 he)) hi hj hx
   ·rw[qEZ hj'] at hj;exact absurd rfl hj
  ·rw[qEZ hi'] at hi;cases hi
 ·rcases Nat.lt_or_ge i ks.length with hi' | hi'
  ·have hgi:ks[i]? = some ks[i]:=List.getElem?_eq_getElem hi'
   rw[qB0 hgi,qB6] at hi
   exact⟨ks[i],hi,(qCV hgi).symm⟩
  ·rw[qEZ hi'] at hi;cases hi
def qS6 (P : Program) (f : FuncId) : Prop := ∃ fn, P.funcs[f]? = some fn /\ (fn.name == "runtime.NumGoroutine") = false /\ fn.body.isNone = false
def qD8 (P:Program) (f:FuncId) (vs:List V) (objs:List Obj) (v:V) (objs':List Obj):Prop:=qS6 P f /\
 ∀ (nm:Nm) (w:World) (args:Array Value),qB (qS ⟨nm,qH [] 0 objs,objs.length⟩) vs args.toList->RelH ⟨nm,qH [] 0 objs,objs.length⟩ w->
   (Calls P f args w fun en w'=>∃ vr nm',en=.returned vr /\ qS ⟨nm',qH [] 0 objs',objs'.length⟩ v vr /\ RelH ⟨nm',qH [] 0 objs',objs'.length⟩ w' /\
    Frame' ⟨nm,qH [] 0 objs,objs.length⟩ w w' /\ Ext ⟨nm,qH [] 0 objs,objs.length⟩ ⟨nm',qH [] 0 objs',objs'.length⟩ w) /\
   (qDG f told=false->∀ u,CallsD P f args u w fun en u' w'=>u'=u /\ ∃ vr nm',en=.returned vr /\ qS ⟨nm',qH [] 0 objs',objs'.length⟩ v vr /\ RelH ⟨nm',qH [] 0 objs',objs'.length⟩ w' /\
    Frame' ⟨nm,qH [] 0 objs,objs.length⟩ w w' /\ Ext ⟨nm,qH [] 0 objs,objs.length⟩ ⟨nm',qH [] 0 objs',objs'.length⟩ w)
def qdk (P:Program) (f:FuncId) (vs:List V) (objs:List Obj) (v:V) (new:List Obj):Prop:=
 (∀ x∈objs.map Obj.toRO,x.owned=false) /\ (∀ x∈new,x.owned=true) /\ ∃ old,old.length=objs.length /\ (∀ x∈old,x.live=true) /\ qD8 P f vs (objs.map Obj.toRO) v (old++new)
def qDT (P:Program) (f:FuncId) (vs:List V) (objs:List Obj) (p:Bool) (v:V) (objs':List Obj):Prop:=match p with
 | true=>qdk P f vs objs v objs'
 | false=>qD8 P f vs objs v objs'
def qDW (P:Program) (orc:{R:Type}->FuncId->List V->List Obj->(Bool->V->List Obj->Option R)->Option R):Prop:=
 ∀ {R:Type} (f:FuncId) (vs:List V) (objs:List Obj) (K:Bool->V->List Obj->Option R) (r:R),orc f vs objs K=some r->∃ p v objs',K p v objs'=some r /\ qDT P f vs objs p v objs'
theorem qJl (x:Obj):x.toRO.shape=x.shape:=by cases x<;>rfl
theorem qEw (h:Hp) (ks:List Nat):(cut h ks).length=ks.length:=by simp[cut]
theorem qNu (l:List Nat) (o:Nat):(qFs l).lookup o=if o∈l then some .dead else none:=by
 induction l with
 | nil=>simp[qFs]
 | cons k l ih=>
   simp only[qFs,List.lookup]
   by_cases h:o=k
   ·subst h;simp
   ·simp[beq_eq_false_iff_ne.2 h,ih,h]
theorem qTZ {m:Nat} {e:Env} {w w':World} {ks:List Nat} {nm':Nm} {objs':List Obj} (h:RelH e w) (hn:ks.Nodup) (hlt:∀ o∈ks,o<e.nx) (hm:m<=ks.length)
  (hlen:m<=objs'.length) (hh:RelH ⟨nm',qH [] 0 objs',objs'.length⟩ w')
  (hf:Frame' (qx e ks) w w') (hx:ExtM m (qx e ks) ⟨nm',qH [] 0 objs',objs'.length⟩ w):
  ∃ nm2:Nm,let e':Env:=⟨nm2,qH (ks.take m) e.nx (objs'.map (Obj.ren (qAC e.nx (ks.take m))))++(qFs (ks.drop m)++e.h),e.nx+(objs'.length - m)⟩;
    (∀ v vr,qS ⟨nm',qH [] 0 objs',objs'.length⟩ v vr->qS e' (v.ren (qAC e.nx (ks.take m))) vr) /\ RelH e' w' /\ Frame' e w w' /\ Ext e e' w:=by
 let es:Env:=⟨nm',qH [] 0 objs',objs'.length⟩
 let nm2:Nm:=fun o=>if e.nx<=o then nm' (m+(o - e.nx)) else e.nm o
 let e':Env:=⟨nm2,qH (ks.take m) e.nx (objs'.map (Obj.ren (qAC e.nx (ks.take m))))++(qFs (ks.drop m)++e.h),e.nx+(objs'.length - m)⟩
 have ktl:(ks.take m).length=m:=by simp;omega
 have kti:∀ o,o∈ks.take m->o∈ks:=fun o ho=>List.mem_of_mem_take ho
 have ktn:(ks.take m).Nodup:=hn.sublist (List.take_sublist _ _)
 have klt:∀ o∈ks.take m,o<e.nx:=fun o ho=>hlt o (kti o ho)
 have kget:∀ o,o∈ks.take m->ks[qAE o (ks.take m)]? = some o:=by
  intro o ho
  have h1:=qWm ho
  have h2:=qHR ho
  rw[ktl] at h2
  rw[List.getElem?_take,if_pos h2] at h1
  exact h1
 have kdrop:∀ o,o∈ks->o ∉ ks.take m->o∈ks.drop m:=by
  intro o ho hno
  rw[<- List.take_append_drop m ks] at ho
  exact (List.mem_append.1 ho).resolve_left hno
 have dropk:∀ o,o∈ks.drop m->o∈ks:=fun o ho=>List.mem_of_mem_drop ho
 have gin:∀ o,o∈ks.take m->e'.h.get o=(es.h.get (qAE o (ks.take m))).ren (qAC e.nx (ks.take m)):=by
  intro o ho
  have hi:=qHR ho
  rw[ktl] at hi
  show Hp.get (_++_) o=_
  rw[qm,qMY o klt (by simp;omega),if_pos ho]
  simp only[es,qAg,List.getElem?_map]
  rw[List.getElem?_eq_getElem (by omega)]
  rfl
 have gdead:∀ o,o∈ks->o ∉ ks.take m->e'.h.get o=.dead:=by
  intro o ho hno
  have:=hlt o ho
  show Hp.get (_++_) o=_
  rw[qm,qMY o klt (by simp;omega),if_neg hno,if_neg (by omega)]
  show Hp.get (_++_) o=_
  rw[qm,qNu,if_pos (kdrop o ho hno)]
 have gnew:∀ o,e.nx<=o->e'.h.get o=(es.h.get (m+(o - e.nx))).ren (qAC e.nx (ks.take m)):=by
  intro o ho
  have hnot:o ∉ ks.take m:=fun hm=>by have:=klt o hm;omega
  have hnot2:o ∉ ks.drop m:=fun hm=>by have:=hlt o (dropk o hm);omega
  show Hp.get (_++_) o=_
  rw[qm,qMY o klt (by simp;omega),if_neg hnot,if_pos ho]
  simp only[es,qAg,List.getElem?_map,ktl]
  cases hq:objs'[m+(o - e.nx)]? with
  | none=>
    simp only[Option.map_none,Option.getD_none]
    show Hp.get (_++_) o=_
    rw[qm,qNu,if_neg hnot2]
    show e.h.get o=_
    rw[h.new o ho];rfl
  | some x=>rfl
 have gout:∀ o,o ∉ ks->o<e.nx->e'.h.get o=e.h.get o:=by
  intro o hnot ho
  show Hp.get (_++_) o=_
  rw[qm,qMY o klt (by simp;omega),if_neg (fun hm=>hnot (kti o hm)),if_neg (by omega)]
  show Hp.get (_++_) o=_
  rw[qm,qNu,if_neg (fun hm=>hnot (dropk o hm))]
 have nin:∀ o,o∈ks.take m->nm2 o=nm' (qAE o (ks.take m)):=by
  intro o ho
  have h1:=(hx.old (qAE o (ks.take m)) (by have:=qHR ho;rwa [ktl] at this)).1
  have h2:=qCV (e:=e) (kget o ho)
  simp only[nm2]
  rw[if_neg (by have:=klt o ho;omega)]
  exact (h1.trans h2).symm
 have nnew:∀ o,e.nx<=o->nm2 o=nm' (m+(o - e.nx)):=fun o ho=>by simp only[nm2];rw[if_pos ho]
 have nout:∀ o,o<e.nx->nm2 o=e.nm o:=fun o ho=>by simp only[nm2];rw[if_neg (by omega)]
 have shin:∀ o,o∈ks.take m->((e'.h.get o).shape=(e.h.get o).shape \/ (e'.h.get o).shape=.dead) /\ ((e'.h.get o).owned=true->(e.h.get o).owned=true):=by
  intro o ho
  obtain⟨_,h2,h3⟩:=hx.old (qAE o (ks.take m)) (by have:=qHR ho;rwa [ktl] at this)
  rw[qB0 (kget o ho),qBc] at h2
  rw[qB0 (kget o ho),qB6] at h3
  rw[gin o ho,qBc,qB6]
  exact⟨h2,h3⟩
 have back:∀ i b,m<=i->(es.h.get i).shape≠.dead->Has nm' i b->w.heap.size<=b \/ ∃ j,∃ hj:j<ks.length,(e.h.get ks[j]).shape≠.dead /\ Has e.nm ks[j] b /\ ((es.h.get i).owned=true->(e.h.get ks[j]).owned=true):=by
  intro i b hi hd hb
  rcases hx.own i b hi hd hb with h1 | ⟨j,h1,h2,h3⟩
  ·exact .inl h1
  ·rcases Nat.lt_or_ge j ks.length with hj | hj
   ·have hg:ks[j]? = some ks[j]:=List.getElem?_eq_getElem hj
    rw[qB0 hg,qBc] at h1
    rw[qB0 hg,qB6] at h3
    simp only[Has,qCV hg] at h2
    exact .inr ⟨j,hj,h1,h2,h3⟩
   ·rw[qEZ hj] at h1;exact absurd rfl h1
 have hext:Ext e e' w:=by
  refine⟨Nat.le_add_right _ _,fun o ho=>⟨nout o ho,?_⟩,fun o b ho hd hb=>?_⟩
  ·by_cases hk:o∈ks
   ·by_cases hm:o∈ks.take m
    ·exact shin o hm
    ·rw[gdead o hk hm];exact⟨.inr rfl,fun h=>by cases h⟩
   ·rw[gout o hk ho];exact⟨.inl rfl,id⟩
  ·rw[gnew o ho,qBc] at hd
   simp only[Has,e'] at hb
   rw[nnew o ho] at hb
   rcases back (m+(o - e.nx)) b (Nat.le_add_right _ _) hd hb with h1 | ⟨j,hj,h1,h2,h3⟩
   ·exact .inl h1
   ·exact .inr ⟨_,h1,h2,fun hw=>h3 (by rw[gnew o ho,qB6] at hw;exact hw)⟩
 have hframe:Frame' e w w':=by
  refine⟨hf.os,hf.tape,hf.output,hf.size,fun k hk hno=>hf.block k hk fun i hi=>?_⟩
  rcases Nat.lt_or_ge i ks.length with hi' | hi'
  ·have hg:ks[i]? = some ks[i]:=List.getElem?_eq_getElem hi'
   rw[qB0 hg,qB6] at hi
   simp only[Has,qCV hg]
   exact hno _ hi
  ·rw[qEZ hi'] at hi;cases hi
 have hsame:∀ i,i<objs'.length->qBd es e' (qAC e.nx (ks.take m)) i:=by
  intro i hi
  rcases Nat.lt_or_ge i m with hi' | hi'
  ·have hg:(ks.take m)[i]? = some (ks.take m)[i]:=List.getElem?_eq_getElem (by omega)
   have hm:(ks.take m)[i]∈ks.take m:=List.getElem_mem _
   have hix:qAE (ks.take m)[i] (ks.take m)=i:=qOp ktn hg
   unfold qBd
   rw[qJG hg]
   refine⟨Nat.lt_of_lt_of_le (klt _ hm) (Nat.le_add_right _ _),.inr ⟨?_,?_⟩⟩
   ·rw[gin _ hm,qBc,hix]
   ·show nm2 _=_
    rw[nin _ hm,hix]
  ·unfold qBd
   rw[qLJ (by omega),ktl]
   refine⟨by show _<e.nx+_;omega,.inr ⟨?_,?_⟩⟩
   ·rw[gnew _ (Nat.le_add_right _ _),qBc,show m+(e.nx+(i - m) - e.nx)=i by omega]
   ·show nm2 _=_
    rw[nnew _ (Nat.le_add_right _ _),show m+(e.nx+(i - m) - e.nx)=i by omega]
 refine⟨nm2,fun v vr hv=>qS.ren hv fun i _ hi=>hsame i hi,⟨fun o=>?_,fun o ho=>?_,?_,h.fix.go hframe hext.toM⟩,hframe,hext⟩
 ·by_cases hk:o∈ks
  ·by_cases hm:o∈ks.take m
   ·exact qG.ren (hh.obj (qAE o (ks.take m))) (gin o hm) (nin o hm) fun r _ hr=>hsame r hr
   ·show qG e' w' o
    unfold qG;rw[gdead o hk hm];trivial
  ·rcases Nat.lt_or_ge o e.nx with ho | ho
   ·by_cases hd:(e.h.get o).shape=.dead
    ·have:e.h.get o=.dead:=by cases hq:e.h.get o<;>rw[hq] at hd<;>simp[Obj.shape] at hd
     show qG e' w' o
     unfold qG;rw[gout o hk ho,this];trivial
    ·have h1:=h.obj o
     have h2:qG e w' o:=qG.frame h1 hf.size fun b hb=>by
      refine hf.block b (qG.lt h1 hd hb) fun i hi hbi=>?_
      rcases Nat.lt_or_ge i ks.length with hi' | hi'
      ·have hg:ks[i]? = some ks[i]:=List.getElem?_eq_getElem hi'
       rw[qB0 hg,qB6] at hi
       simp only[Has,qCV hg] at hbi
       exact h.apart ks[i] o b (fun e=>hk (e ▸ List.getElem_mem hi')) hi hd hbi hb
      ·rw[qEZ hi'] at hi;cases hi
     refine qG.ren (g:=id) h2 ?_ (nout o ho) fun r _ hr=>hext.same hr
     rw[gout o hk ho]
     cases e.h.get o<;>simp[Obj.ren,qC2]
   ·exact qG.ren (hh.obj (m+(o - e.nx))) (gnew o ho) (nnew o ho) fun r _ hr=>hsame r hr
 ·have:objs'.length<=m+(o - e.nx):=by
   have:e.nx+(objs'.length - m)<=o:=ho
   omega
  show e'.h.get o=.dead
  rw[gnew o (Nat.le_trans (Nat.le_add_right _ _) ho),show es.h.get (m+(o - e.nx))=.dead from hh.new _ this]
  rfl
 ·intro o o' x hne ho ho' hbx hbx'
  have src:∀ q,(e'.h.get q).shape≠.dead->(∃ i,e'.h.get q=(es.h.get i).ren (qAC e.nx (ks.take m)) /\ nm2 q=nm' i /\ (i<m->ks[i]? = some q) /\ (m<=i->q=e.nx+(i - m))) \/ (q ∉ ks /\ q<e.nx):=by
   intro q hq
   by_cases hk:q∈ks
   ·by_cases hm:q∈ks.take m
    ·exact .inl ⟨qAE q (ks.take m),gin q hm,nin q hm,fun _=>kget q hm,fun hle=>by have:=qHR hm;omega⟩
    ·rw[gdead q hk hm] at hq;exact absurd rfl hq
   ·rcases Nat.lt_or_ge q e.nx with hq | hq
    ·exact .inr ⟨hk,hq⟩
    ·exact .inl ⟨m+(q - e.nx),gnew q hq,nnew q hq,fun hl=>by omega,fun _=>by omega⟩
  have hod:(e'.h.get o).shape≠.dead:=qAr ho
  have cross:∀ q i,nm2 q=nm' i->e'.h.get q=(es.h.get i).ren (qAC e.nx (ks.take m))->(i<m->ks[i]? = some q)->(e'.h.get q).shape≠.dead->Has nm2 q x->
    (w.heap.size<=x) \/ ∃ j,∃ hj:j<ks.length,(e.h.get ks[j]).shape≠.dead /\ Has e.nm ks[j] x /\ ((e'.h.get q).owned=true->(e.h.get ks[j]).owned=true):=by
   intro q i hnq hgq hkq hdq hbq
   rcases Nat.lt_or_ge i m with hi | hi
   ·obtain⟨o1,o2,o3⟩:=hx.old i hi
    have hg:ks[i]? = some ks[i]:=List.getElem?_eq_getElem (by omega)
    rw[qB0 hg,qBc] at o2
    rw[qB0 hg,qB6] at o3
    rw[hgq,qBc] at hdq
    refine .inr ⟨i,by omega,?_,?_,?_⟩
    ·rcases o2 with o2 | o2
     ·exact o2 ▸ hdq
     ·exact absurd o2 hdq
    ·simp only[Has] at hbq ⊢
     rw[hnq] at hbq
     have o1:nm' i=(qx e ks).nm i:=o1
     rw[o1,qCV hg] at hbq
     exact hbq
    ·rw[hgq,qB6];exact o3
   ·rw[hgq,qBc] at hdq
    have hbq':Has nm' i x:=by simp only[Has] at hbq ⊢;rw[<- hnq];exact hbq
    rcases back i x hi hdq hbq' with h1 | ⟨j,hj,h1,h2,h3⟩
    ·exact .inl h1
    ·exact .inr ⟨j,hj,h1,h2,fun hw=>h3 (by rw[hgq,qB6] at hw;exact hw)⟩
  rcases src o hod with⟨i,a1,a2,a3,a4⟩ | ⟨a1,a2⟩<;>rcases src o' ho' with⟨i',b1,b2,b3,b4⟩ | ⟨b1,b2⟩
  ·refine hh.apart i i' x (fun hii=>?_) (by rw[a1,qB6] at ho;exact ho) (by rw[b1,qBc] at ho';exact ho') (by simp only[Has] at hbx ⊢;rw[<- a2];exact hbx) (by simp only[Has] at hbx' ⊢;rw[<- b2];exact hbx')
   subst hii
   rcases Nat.lt_or_ge i m with hi | hi
   ·exact hne (Option.some.inj ((a3 hi).symm.trans (b3 hi)))
   ·exact hne ((a4 hi).trans (b4 hi).symm)
  ·rw[gout o' b1 b2] at ho'
   have hb':Has e.nm o' x:=by simp only[Has] at hbx' ⊢;rw[<- nout o' b2];exact hbx'
   rcases cross o i a2 a1 a3 hod hbx with h1 | ⟨j,hj,h1,h2,h3⟩
   ·have:=qG.lt (h.obj o') ho' hb';omega
   ·exact h.apart ks[j] o' x (fun e=>b1 (e ▸ List.getElem_mem hj)) (h3 ho) ho' h2 hb'
  ·rw[gout o a1 a2] at ho hod
   have hb:Has e.nm o x:=by simp only[Has] at hbx ⊢;rw[<- nout o a2];exact hbx
   rcases cross o' i' b2 b1 b3 ho' hbx' with h1 | ⟨j,hj,h1,h2,_⟩
   ·have:=qG.lt (h.obj o) hod hb;omega
   ·exact h.apart o ks[j] x (fun e=>a1 (e ▸ List.getElem_mem hj)) ho h1 hb h2
  ·rw[gout o a1 a2] at ho
   rw[gout o' b1 b2] at ho'
   exact h.apart o o' x hne ho ho' (by simp only[Has] at hbx ⊢;rw[<- nout o a2];exact hbx) (by simp only[Has] at hbx' ⊢;rw[<- nout o' b2];exact hbx')
theorem qfl {e:Env} {w w':World} {ks:List Nat} {nm':Nm} {objs':List Obj} {v:V} {vr:Value} (h:RelH e w) (hn:ks.Nodup) (hlt:∀ o∈ks,o<e.nx)
  (hlen:ks.length<=objs'.length) (hv:qS ⟨nm',qH [] 0 objs',objs'.length⟩ v vr) (hh:RelH ⟨nm',qH [] 0 objs',objs'.length⟩ w')
  (hf:Frame' (qx e ks) w w') (hx:Ext (qx e ks) ⟨nm',qH [] 0 objs',objs'.length⟩ w):
  ∃ nm2:Nm,let e':Env:=⟨nm2,qH ks e.nx (objs'.map (Obj.ren (qAC e.nx ks)))++e.h,e.nx+(objs'.length - ks.length)⟩;
    qS e' (v.ren (qAC e.nx ks)) vr /\ RelH e' w' /\ Frame' e w w' /\ Ext e e' w:=by
 obtain⟨nm2,h1,h2,h3,h4⟩:=qTZ (m:=ks.length) h hn hlt (Nat.le_refl _) hlen hh hf hx.toM
 rw[List.take_length,List.drop_length] at h1 h2 h4
 exact⟨nm2,h1 v vr hv,h2,h3,h4⟩
theorem qmJ {e:Env} {w w':World} {ks:List Nat} {nm':Nm} {old new:List Obj} {v:V} {vr:Value} (h:RelH e w) (hlt:∀ o∈ks,o<e.nx)
  (hlen:old.length=ks.length) (hlive:∀ x∈old,x.live=true) (hown:∀ x∈new,x.owned=true) (hro:∀ x∈(cut e.h ks).map Obj.toRO,x.owned=false)
  (hv:qS ⟨nm',qH [] 0 (old++new),(old++new).length⟩ v vr) (hh:RelH ⟨nm',qH [] 0 (old++new),(old++new).length⟩ w')
  (hf:Frame' ⟨(qx e ks).nm,qH [] 0 ((cut e.h ks).map Obj.toRO),ks.length⟩ w w')
  (hx:Ext ⟨(qx e ks).nm,qH [] 0 ((cut e.h ks).map Obj.toRO),ks.length⟩ ⟨nm',qH [] 0 (old++new),(old++new).length⟩ w):
  ∃ nm2:Nm,let e':Env:=⟨nm2,qH [] e.nx (new.map (Obj.ren (qAC e.nx ks)))++e.h,e.nx+new.length⟩;
    qS e' (v.ren (qAC e.nx ks)) vr /\ RelH e' w' /\ Frame' e w w' /\ Ext e e' w:=by
 let nm2:Nm:=fun q=>if q<e.nx then e.nm q else nm' (ks.length+(q - e.nx))
 let e':Env:=⟨nm2,qH [] e.nx (new.map (Obj.ren (qAC e.nx ks)))++e.h,e.nx+new.length⟩
 have noown:∀ o,(Hp.get (qH [] 0 ((cut e.h ks).map Obj.toRO)) o).owned=false:=by
  intro o
  rw[qAg]
  cases hq:((cut e.h ks).map Obj.toRO)[o]? with
  | none=>rfl
  | some x=>exact hro x (List.mem_of_getElem? hq)
 have same:∀ k,k<w.heap.size->w'.heap[k]? = w.heap[k]?:=fun k hk=>hf.block k hk fun o ho=>by
  have ho:(Hp.get (qH [] 0 ((cut e.h ks).map Obj.toRO)) o).owned=true:=ho
  rw[noown o] at ho;cases ho
 have gold:∀ q,q<e.nx->e'.h.get q=e.h.get q:=fun q hq=>by
  show Hp.get (_++e.h) q=_
  rw[qm,qJ2,if_neg (by omega)]
 have gnew:∀ j x,new[j]? = some x->e'.h.get (e.nx+j)=x.ren (qAC e.nx ks):=fun j x hj=>by
  show Hp.get (_++e.h) _=_
  rw[qm,qJ2,if_pos (by omega),show e.nx+j - e.nx=j by omega,List.getElem?_map,hj]
  rfl
 have gend:∀ q,e.nx+new.length<=q->e'.h.get q=.dead:=fun q hq=>by
  show Hp.get (_++e.h) _=_
  rw[qm,qJ2,if_pos (by omega),List.getElem?_eq_none (by simp;omega)]
  exact h.new q (by omega)
 have gcal:∀ i,(Env.h ⟨nm',qH [] 0 (old++new),(old++new).length⟩).get i=((old++new)[i]?).getD .dead:=fun i=>qAg _ i
 have gcn:∀ j x,new[j]? = some x->(Env.h ⟨nm',qH [] 0 (old++new),(old++new).length⟩).get (ks.length+j)=x:=fun j x hj=>by
  rw[gcal,List.getElem?_append_right (by omega),hlen,show ks.length+j - ks.length=j by omega,hj];rfl
 have sm:∀ i,i<(old++new).length->qBd ⟨nm',qH [] 0 (old++new),(old++new).length⟩ e' (qAC e.nx ks) i:=by
  intro i hi
  rcases Nat.lt_or_ge i ks.length with hik | hik
  ·have ho:ks[i]? = some ks[i]:=List.getElem?_eq_getElem hik
   have hol:=hlt ks[i] (List.mem_of_getElem? ho)
   refine⟨?_,.inr ⟨?_,?_⟩⟩
   ·rw[qJG ho];show ks[i]<e.nx+new.length;omega
   ·rw[qJG ho,gold _ hol]
    have hs:=(hx.old i hik).2.1
    have hd:(Env.h ⟨nm',qH [] 0 (old++new),(old++new).length⟩).get i=old[i]:=by
     rw[gcal,List.getElem?_append_left (by omega),List.getElem?_eq_getElem (by omega)];rfl
    have hro':(Env.h ⟨(qx e ks).nm,qH [] 0 ((cut e.h ks).map Obj.toRO),ks.length⟩).get i=((e.h.get ks[i]).ren (fun x=>qAE x ks)).toRO:=by
     show Hp.get (qH [] 0 _) i=_
     rw[qAg,List.getElem?_map]
     simp[cut,ho]
    rcases hs with hs | hs
    ·rw[hro',qJl,qBc] at hs
     exact hs.symm
    ·rw[hd] at hs
     have:=hlive old[i] (List.getElem_mem _)
     cases hz:old[i]<;>rw[hz] at hs this<;>simp[Obj.shape] at hs
     cases this
   ·rw[qJG ho]
    show nm2 ks[i]=nm' i
    have:=(hx.old i hik).1
    have this:nm' i=(qx e ks).nm i:=this
    rw[this,qCV ho]
    simp only[nm2];rw[if_pos hol]
  ·have hij:i - ks.length<new.length:=by rw[List.length_append] at hi;omega
   have hj:new[i - ks.length]? = some new[i - ks.length]:=List.getElem?_eq_getElem hij
   have hik2:ks.length+(i - ks.length)=i:=by omega
   refine⟨?_,.inr ⟨?_,?_⟩⟩
   ·rw[qLJ hik];show e.nx+(i - ks.length)<e.nx+new.length;omega
   ·rw[qLJ hik,gnew _ _ hj,qBc]
    have:=gcn _ _ hj
    rw[hik2] at this
    rw[this]
   ·rw[qLJ hik]
    show nm2 (e.nx+(i - ks.length))=nm' i
    simp only[nm2]
    rw[if_neg (by omega),show ks.length+(e.nx+(i - ks.length) - e.nx)=i by omega]
 have newblk:∀ j x b,new[j]? = some x->Has nm2 (e.nx+j) b->w.heap.size<=b:=by
  intro j x b hj hb
  have hb:Has nm' (ks.length+j) b:=by
   simp only[Has,nm2] at hb ⊢
   rw[if_neg (by omega),show ks.length+(e.nx+j - e.nx)=ks.length+j by omega] at hb
   exact hb
  have hxo:=hown x (List.mem_of_getElem? hj)
  rcases hx.own (ks.length+j) b (by show ks.length<=_;omega) (by rw[gcn j x hj];exact qAr hxo) hb with h1 | ⟨o',h1,h2,h3⟩
  ·exact h1
  ·have:=h3 (by rw[gcn j x hj];exact hxo)
   have this:(Hp.get (qH [] 0 ((cut e.h ks).map Obj.toRO)) o').owned=true:=this
   rw[noown o'] at this;cases this
 have hext:Ext e e' w:=by
  refine⟨Nat.le_add_right _ _,fun q hq=>⟨?_,?_⟩,fun q b hq hd hb=>.inl ?_⟩
  ·show nm2 q=_
   simp only[nm2];rw[if_pos hq]
  ·rw[gold q hq];exact⟨.inl rfl,id⟩
  ·rcases Nat.lt_or_ge (q - e.nx) new.length with hq2 | hq2
   ·have hj:new[q - e.nx]? = some new[q - e.nx]:=List.getElem?_eq_getElem hq2
    exact newblk _ _ b hj (by rw[show e.nx+(q - e.nx)=q by omega];exact hb)
   ·rw[gend q (by omega)] at hd;exact absurd rfl hd
 have hframe:Frame' e w w':=⟨hf.os,hf.tape,hf.output,hf.size,fun k hk _=>same k hk⟩
 refine⟨nm2,qS.ren hv fun o ho hlo=>sm o hlo,⟨fun q=>?_,fun q hq=>gend q hq,fun q q' y hne hq hq' hy hy'=>?_,h.fix.go hframe hext.toM⟩,hframe,hext⟩
 ·rcases Nat.lt_or_ge q e.nx with hq | hq
  ·by_cases hd:(e.h.get q).shape=.dead
   ·have:e.h.get q=.dead:=by cases hz:e.h.get q<;>rw[hz] at hd<;>simp[Obj.shape] at hd
    have:e'.h.get q=.dead:=by rw[gold q hq,this]
    show qG e' w' q
    unfold qG
    rw[this];trivial
   ·have h2:qG e w' q:=qG.frame (h.obj q) hf.size fun b hb=>same b (qG.lt (h.obj q) hd hb)
    refine qG.ren (g:=id) h2 ?_ ?_ fun r _ hr=>hext.same hr
    ·show e'.h.get q=_
     rw[gold q hq]
     cases e.h.get q<;>simp[Obj.ren,qC2]
    ·show nm2 q=_
     simp only[nm2];rw[if_pos hq]
  ·rcases Nat.lt_or_ge (q - e.nx) new.length with hq2 | hq2
   ·have hj:new[q - e.nx]? = some new[q - e.nx]:=List.getElem?_eq_getElem hq2
    have hq3:e.nx+(q - e.nx)=q:=by omega
    have g1:=gnew _ _ hj
    rw[hq3] at g1
    refine qG.ren (g:=qAC e.nx ks) (hh.obj (ks.length+(q - e.nx))) ?_ ?_ fun r hr hlr=>sm r hlr
    ·rw[gcn _ _ hj];exact g1
    ·show nm2 q=_
     simp only[nm2];rw[if_neg (by omega)]
   ·show qG e' w' q
    unfold qG
    rw[gend q (by omega)];trivial
 ·have low:∀ q,q<e.nx->Has nm2 q=Has e.nm q:=fun q hq=>by funext y;simp only[Has,nm2];rw[if_pos hq]
  have inn:∀ q,e.nx<=q->(e'.h.get q).shape≠.dead->q - e.nx<new.length:=fun q hq hd=>by
   rcases Nat.lt_or_ge (q - e.nx) new.length with h1 | h1
   ·exact h1
   ·rw[gend q (by omega)] at hd;exact absurd rfl hd
  have hq0:(e'.h.get q).owned=true:=hq
  have hq0':(e'.h.get q').shape≠.dead:=hq'
  have hy0:Has nm2 q y:=hy
  have hy0':Has nm2 q' y:=hy'
  rcases Nat.lt_or_ge q e.nx with a | a<;>rcases Nat.lt_or_ge q' e.nx with b | b
  ·rw[gold q a] at hq0
   rw[gold q' b] at hq0'
   rw[low q a] at hy0
   rw[low q' b] at hy0'
   exact h.apart q q' y hne hq0 hq0' hy0 hy0'
  ·have hj:=List.getElem?_eq_getElem (inn q' b hq0')
   have h1:=newblk _ _ y hj (by rw[show e.nx+(q' - e.nx)=q' by omega];exact hy0')
   rw[gold q a] at hq0
   rw[low q a] at hy0
   have:=qG.lt (h.obj q) (qAr hq0) hy0
   omega
  ·have hj:=List.getElem?_eq_getElem (inn q a (qAr hq0))
   have h1:=newblk _ _ y hj (by rw[show e.nx+(q - e.nx)=q by omega];exact hy0)
   rw[gold q' b] at hq0'
   rw[low q' b] at hy0'
   have:=qG.lt (h.obj q') hq0' hy0'
   omega
  ·have hj:=List.getElem?_eq_getElem (inn q a (qAr hq0))
   have hj':=List.getElem?_eq_getElem (inn q' b hq0')
   have conv:∀ q,e.nx<=q->Has nm2 q=Has nm' (ks.length+(q - e.nx)):=fun q hq=>by funext y;simp only[Has,nm2];rw[if_neg (by omega)]
   rw[conv q a] at hy0
   rw[conv q' b] at hy0'
   refine hh.apart (ks.length+(q - e.nx)) (ks.length+(q' - e.nx)) y (by omega) ?_ ?_ hy0 hy0'
   ·rw[gcn _ _ hj]
    have g1:=gnew _ _ hj
    rw[show e.nx+(q - e.nx)=q by omega] at g1
    rw[g1,qB6] at hq0
    exact hq0
   ·rw[gcn _ _ hj']
    have g1:=gnew _ _ hj'
    rw[show e.nx+(q' - e.nx)=q' by omega] at g1
    rw[g1,qBc] at hq0'
    exact hq0'
theorem qbf {nm:Nm} {objs:List Obj} {w:World} (h:RelH ⟨nm,qH [] 0 objs,objs.length⟩ w) (hro:∀ x∈objs.map Obj.toRO,x.owned=false):RelH ⟨nm,qH [] 0 (objs.map Obj.toRO),objs.length⟩ w:=by
 have hget:∀ o,Hp.get (qH [] 0 (objs.map Obj.toRO)) o=(Hp.get (qH [] 0 objs) o).toRO:=fun o=>by
  rw[qAg,qAg,List.getElem?_map]
  cases objs[o]? <;> rfl
 have hsame:∀ o,o<objs.length->qBd ⟨nm,qH [] 0 objs,objs.length⟩ ⟨nm,qH [] 0 (objs.map Obj.toRO),objs.length⟩ id o:=fun o ho=>
  ⟨ho,.inr ⟨by show (Hp.get _ o).shape=_;rw[hget,qJl],rfl⟩⟩
 refine⟨fun o=>?_,fun o ho=>?_,fun o o' x hne ho=>?_,h.fix.sub fun o ho=>?_⟩
 ·have h1:=h.obj o
  unfold qG at h1 ⊢
  dsimp only at h1 ⊢
  rw[hget o]
  cases hx:Hp.get (qH [] 0 objs) o with
  | dead=>trivial
  | cells t l=>
    rw[hx] at h1
    obtain⟨a1,b,arr,a2,a3,a4⟩:=h1
    refine⟨a1,b,arr,a2,a3,?_⟩
    have:=qGT (g:=id) a4 fun r _ hr=>hsame r hr
    rwa [qC2] at this
  | rcells t l=>
    rw[hx] at h1
    obtain⟨a1,b,arr,a2,a3,a4⟩:=h1
    refine⟨a1,b,arr,a2,a3,?_⟩
    have:=qGT (g:=id) a4 fun r _ hr=>hsame r hr
    rwa [qC2] at this
  | sli t ro g=>
    rw[hx] at h1
    cases ro with
    | true=>exact h1
    | false=>
      obtain⟨a1,a2⟩:=h1
      refine⟨a1,?_⟩
      cases hn:nm o with
      | none=>rw[hn] at a2;exact a2
      | some q=>
        obtain⟨b,off,cap⟩:=q
        rw[hn] at a2
        simp only at a2 ⊢
        obtain⟨rfl,arr,b2,b3,b4,b5,b6⟩:=a2
        refine⟨⟨(Array.getElem?_eq_some_iff.1 b2).1,by unfold maxLen at b5;unfold big;omega⟩,Nat.le_trans b4 b5,fun j s hj=>?_⟩
        obtain⟨u,hu,hr⟩:=qB.get j b6 hj
        refine⟨u,?_,hr⟩
        rw[List.getElem?_take] at hu
        split at hu
        ·simp only[World.cell?,b2,Nat.zero_add]
         simpa using hu
        ·cases hu
  | map kks vks es=>rw[hx] at h1;exact h1
  | iter s pos=>rw[hx] at h1;exact h1
  | maps ka kks ks p lent=>
    rw[hx] at h1
    simp only[Obj.toRO] at h1 ⊢
    rw[hget p,qJl]
    exact h1
  | pol t ps=>rw[hx] at h1;exact h1
 ·show Hp.get _ o=_
  have:=h.new o ho
  rw[hget o,show Hp.get (qH [] 0 objs) o=.dead from this];rfl
 ·have ho:(Hp.get (qH [] 0 (objs.map Obj.toRO)) o).owned=true:=ho
  rw[qAg] at ho
  cases hq:(objs.map Obj.toRO)[o]? with
  | none=>rw[hq] at ho;cases ho
  | some y=>rw[hq] at ho;rw[show (some y).getD Obj.dead=y from rfl,hro y (List.mem_of_getElem? hq)] at ho;cases ho
 ·have ho:(Hp.get (qH [] 0 (objs.map Obj.toRO)) o).owned=true:=ho
  rw[qAg] at ho
  cases hq:(objs.map Obj.toRO)[o]? with
  | none=>rw[hq] at ho;cases ho
  | some y=>rw[hq] at ho;rw[show (some y).getD Obj.dead=y from rfl,hro y (List.mem_of_getElem? hq)] at ho;cases ho
theorem qbg {nm:Nm} {objs:List Obj} {x:V} {v:Value} (h:qS ⟨nm,qH [] 0 objs,objs.length⟩ x v):qS ⟨nm,qH [] 0 (objs.map Obj.toRO),objs.length⟩ x v:=by
 have hget:∀ o,Hp.get (qH [] 0 (objs.map Obj.toRO)) o=(Hp.get (qH [] 0 objs) o).toRO:=fun o=>by
  rw[qAg,qAg,List.getElem?_map]
  cases objs[o]? <;> rfl
 have:=qS.ren (g:=id) (e2:=⟨nm,qH [] 0 (objs.map Obj.toRO),objs.length⟩) h fun o _ ho=>⟨ho,.inr ⟨by show (Hp.get _ o).shape=_;rw[hget,qJl],rfl⟩⟩
 rwa [V.ren_id] at this
theorem qmK {e:Env} {w w':World} {ks:List Nat} {nm':Nm} {old:List Obj} {v:V} {vr:Value} {g:Nat->Nat} (h:RelH e w) (hlt:∀ o∈ks,o<e.nx) (hg:∀ i o,ks[i]? = some o->g i=o)
  (hlen:old.length=ks.length) (hlive:∀ x∈old,x.live=true) (hro:∀ x∈(cut e.h ks).map Obj.toRO,x.owned=false)
  (hv:qS ⟨nm',qH [] 0 old,old.length⟩ v vr)
  (hf:Frame' ⟨(qx e ks).nm,qH [] 0 ((cut e.h ks).map Obj.toRO),ks.length⟩ w w')
  (hx:Ext ⟨(qx e ks).nm,qH [] 0 ((cut e.h ks).map Obj.toRO),ks.length⟩ ⟨nm',qH [] 0 old,old.length⟩ w):
  qS e (v.ren g) vr /\ RelH e w' /\ Frame' e w w' /\ Ext e e w:=by
 have noown:∀ o,(Hp.get (qH [] 0 ((cut e.h ks).map Obj.toRO)) o).owned=false:=by
  intro o
  rw[qAg]
  cases hq:((cut e.h ks).map Obj.toRO)[o]? with
  | none=>rfl
  | some x=>exact hro x (List.mem_of_getElem? hq)
 have same:∀ k,k<w.heap.size->w'.heap[k]? = w.heap[k]?:=fun k hk=>hf.block k hk fun o ho=>by
  have ho:(Hp.get (qH [] 0 ((cut e.h ks).map Obj.toRO)) o).owned=true:=ho
  rw[noown o] at ho;cases ho
 have sm:∀ i,i<old.length->qBd ⟨nm',qH [] 0 old,old.length⟩ e g i:=by
  intro i hi
  have hik:i<ks.length:=by omega
  have ho:ks[i]? = some ks[i]:=List.getElem?_eq_getElem hik
  rw[show qBd ⟨nm',qH [] 0 old,old.length⟩ e g i=(g i<e.nx /\ ((e.h.get (g i)).shape=.dead \/ ((e.h.get (g i)).shape=((Env.h ⟨nm',qH [] 0 old,old.length⟩).get i).shape /\ e.nm (g i)=nm' i))) from rfl,hg i _ ho]
  refine⟨hlt _ (List.mem_of_getElem? ho),.inr ⟨?_,?_⟩⟩
  ·have hs:=(hx.old i hik).2.1
   have hd:(Env.h ⟨nm',qH [] 0 old,old.length⟩).get i=old[i]:=by
    show Hp.get (qH [] 0 old) i=_
    rw[qAg,List.getElem?_eq_getElem hi];rfl
   have hro':(Env.h ⟨(qx e ks).nm,qH [] 0 ((cut e.h ks).map Obj.toRO),ks.length⟩).get i=((e.h.get ks[i]).ren (fun x=>qAE x ks)).toRO:=by
    show Hp.get (qH [] 0 _) i=_
    rw[qAg,List.getElem?_map]
    simp[cut,ho]
   rcases hs with hs | hs
   ·rw[hro',qJl,qBc] at hs
    exact hs.symm
   ·rw[hd] at hs
    have:=hlive old[i] (List.getElem_mem _)
    cases hz:old[i]<;>rw[hz] at hs this<;>simp[Obj.shape] at hs
    cases this
  ·have:=(hx.old i hik).1
   have this:nm' i=(qx e ks).nm i:=this
   rw[this,qCV ho]
 have hframe:Frame' e w w':=⟨hf.os,hf.tape,hf.output,hf.size,fun k hk _=>same k hk⟩
 refine⟨qS.ren hv fun o _ hlo=>sm o hlo,⟨fun q=>?_,h.new,h.apart,h.fix.go hframe (Ext.refl h).toM⟩,hframe,Ext.refl h⟩
 by_cases hd:(e.h.get q).shape=.dead
 ·have:e.h.get q=.dead:=by cases hz:e.h.get q<;>rw[hz] at hd<;>simp[Obj.shape] at hd
  unfold qG
  rw[this];trivial
 ·exact qG.frame (h.obj q) hf.size fun b hb=>same b (qG.lt (h.obj q) hd hb)
end Go.Kk
