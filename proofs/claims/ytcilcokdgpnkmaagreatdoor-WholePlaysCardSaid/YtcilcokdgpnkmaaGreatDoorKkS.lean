/-
 What it means that the pure interpreter's state tells of a world: names of objects stand for blocks, values for values.
-/
import Derived.Test.YtcilcokdgpnkmaaGreatDoorKkR
import Derived.Defers
namespace Go.Kk
abbrev Nm:=Nat->Option (Nat×Nat×Nat)
structure Env where
 nm:Nm
 h:Hp
 nx:Nat
inductive OShp where
 | dead
 | cells (sh:List Shp)
 | sli (sh:Shp)
 | map
def Obj.shape:Obj->OShp
 | .dead=>.dead
 | .cells _ l=>.cells (qX l)
 | .rcells _ l=>.cells (qX l)
 | .sli _ _ g=>.sli g.shp
 | .map _ _ _ _ _=>.map
 | .iter _ _=>.map
def Obj.owned:Obj->Bool
 | .cells _ _=>true
 | .rcells _ _=>false
 | .sli _ ro _=>!ro
 | .map _ _ _ _ _=>true
 | .iter _ _=>true
 | .dead=>false
def qFG (nm:Nm) (o:Nat) (sh:List Shp) (sg:Nat) (row:Option (Nat×Nat)) (col:Nat) (v:Value):Prop:=
 qIu sh sg row col /\ ∃ b off cap,nm o=some (b,off,cap) /\ v=.pointer (some ⟨b,off+qd sh sg row col,none⟩)
def qAE (nm:Nm) (o:Nat) (s:Shp) (lo len:Nat) (full:Bool) (v:Value):Prop:=match nm o with
 | none=>lo=0 /\ len=0 /\ v=.slice none 0 0
 | some (b,off,cap)=>∃ c,v=.slice (some ⟨b,off+lo*s.width,none⟩) len c /\ len<=c /\ lo+len<=s.rows /\ (full=true->lo=0 /\ c=cap)
def qHV (e:Env) (o:Nat) (v:Value):Prop:=o<e.nx /\ match (e.h.get o).shape with
 | .cells _=>∃ b off cap,e.nm o=some (b,off,cap) /\ v=.pointer (some ⟨b,off,none⟩)
 | .dead=>∃ a,v=.pointer a
 | _=>False
def qR (e:Env):S->Value->Prop
 | .bad,_=>True
 | .i k n,v=>v=.int k n /\ k.wrap n=n
 | .b x,v=>v=.bool x
 | .str s,v=>v=.string s
 | .nilp,v=>v=.pointer none
 | .ptr o sg row col,v=>o<e.nx /\ match (e.h.get o).shape with
   | .cells sh=>qFG e.nm o sh sg row col v
   | .sli s=>qFG e.nm o [s] sg row col v
   | .dead=>∃ a,v=.pointer a
   | .map=>False
 | .sl o lo len full,v=>o<e.nx /\ match (e.h.get o).shape with
   | .sli s=>qAE e.nm o s lo len full v
   | .dead=>∃ a l c,v=.slice a l c
   | _=>False
 | .nilm,v=>v=.map none
 | .nils,v=>v=.slice none 0 0
 | .mp o,v=>o<e.nx /\ match (e.h.get o).shape with
   | .map=>∃ b off cap,e.nm o=some (b,off,cap) /\ v=.map (some b)
   | .dead=>∃ a,v=.map a
   | _=>False
 | .it o,v=>o<e.nx /\ match (e.h.get o).shape with
   | .map=>∃ b off cap,e.nm o=some (b,off,cap) /\ v=.pointer (some ⟨b,0,none⟩)
   | .dead=>∃ a,v=.pointer a
   | _=>False
 | .fn f caps,v=>∃ vs:List Value,v=.func (.func f) #[] vs.toArray /\ qC (qHV e) caps vs
 | .gp g j,v=>v=.pointer (some ⟨g,j,none⟩) /\ ∃ k l,qBd g=some (k,l) /\ j<l.length
def qCX (e:Env):W->Value->Prop
 | .s x,v=>qR e x v
 | .agg l,v=>∃ arr,v=.agg arr /\ qC (qR e) (qf l) arr.toList /\ oks l
def qP (e:Env):V->Value->Prop
 | .s x,v=>qR e x v
 | .agg l,v=>∃ arr,v=.agg arr /\ qC (qR e) (qf l) arr.toList /\ oks l
 | .tup l,v=>∃ arr,v=.tuple arr /\ qC (qCX e) l arr.toList
theorem qCX.v {e:Env} {x:W} {v:Value} (h:qCX e x v):qP e x.v v:=by cases x<;>exact h
theorem qP.w {e:Env} {x:V} {y:W} {v:Value} (h:qP e x v) (hw:x.w? = some y):qCX e y v:=by
 cases x<;>simp[V.w?] at hw<;>subst hw<;>exact h
def qAw:Env:=⟨fun _=>none,[],0⟩
def mkA (agg:Bool) (xs:List Value):Value:=match agg with
 | true=>.agg xs.toArray
 | false=>xs.headD undef
def qBG (agg:Bool) (ks:List CK) (r:List Int) (v:Value):Prop:=qAC ks r /\ (agg=true \/ ks.length=1) /\ ∃ xs,qC (qR qAw) (mks ks r) xs /\ v=mkA agg xs
def qHW (ka va:Bool) (kks vks:List CK) (x:List Int×List Int) (m:MapEntry):Prop:=qBG ka kks x.1 m.key /\ qBG va vks x.2 m.val
def qS (e:Env) (w:World) (o:Nat):Prop:=match e.h.get o with
 | .dead=>True
 | .cells t l=>oks l /\ ∃ b arr,e.nm o=some (b,0,0) /\ w.heap[b]? = some (.cells arr t (0,0)) /\ qC (qR e) (qf l) arr.toList
 | .rcells t l=>oks l /\ ∃ b arr,e.nm o=some (b,0,0) /\ w.heap[b]? = some (.cells arr t (0,0)) /\ qC (qR e) (qf l) arr.toList
 | .sli t false g=>g.ok /\ match e.nm o with
   | none=>g.shp.rows=0
   | some (b,off,cap)=>off=0 /\ ∃ arr,w.heap[b]? = some (.cells arr t (0,0)) /\ arr.size=cap*g.shp.width /\ g.shp.rows<=cap /\ cap<=maxLen /\ qC (qR qAw) g.flat (arr.toList.take g.shp.size)
 | .sli _ true g=>g.ok /\ match e.nm o with
   | none=>g.shp.rows=0
   | some (b,off,_)=>b<w.heap.size /\ g.shp.rows<=maxLen /\ ∀ j s,g.flat[j]? = some s->∃ v,w.cell? ⟨b,off+j,none⟩=some v /\ qR qAw s v
 | .map ka va kks vks es=>∃ b ents clock,e.nm o=some (b,0,0) /\ w.heap[b]? = some (.map ents clock) /\ qC (qHW ka va kks vks) es ents.toList
 | .iter s pos=>(s.size:Int)<=9223372036854775807 /\ ∃ b,e.nm o=some (b,0,0) /\ w.heap[b]? = some (.stringIter s pos)
def blk (nm:Nm) (o:Nat):Option Nat:=(nm o).map (·.1)
def qDf (e:Env) (w:World):Prop:=∀ g k l,qBd g=some (k,l)->
 (∃ arr t fr,w.heap[g]? = some (.cells arr t fr) /\ arr.toList=l.map (Value.int k)) /\ ∀ o,(e.h.get o).owned=true->blk e.nm o≠some g
structure RelH (e:Env) (w:World):Prop where
 obj:∀ o,qS e w o
 new:∀ o,e.nx<=o->e.h.get o=.dead
 apart:∀ o o' x,o≠o'->(e.h.get o).owned=true->(e.h.get o').shape≠.dead->blk e.nm o=some x->blk e.nm o'≠some x
 fix:qDf e w
structure Frame' (e:Env) (w w':World):Prop where
 os:w'.os=w.os
 tape:w'.tape=w.tape
 output:w'.output=w.output
 size:w.heap.size<=w'.heap.size
 block:∀ k,k<w.heap.size->(∀ o,(e.h.get o).owned=true->blk e.nm o≠some k)->w'.heap[k]? = w.heap[k]?
structure Ext (e e':Env) (w:World):Prop where
 nx:e.nx<=e'.nx
 old:∀ o,o<e.nx->e'.nm o=e.nm o /\ ((e'.h.get o).shape=(e.h.get o).shape \/ (e'.h.get o).shape=.dead) /\ ((e'.h.get o).owned=true->(e.h.get o).owned=true)
 own:∀ o b,e.nx<=o->(e'.h.get o).shape≠.dead->blk e'.nm o=some b->w.heap.size<=b \/ ∃ o',(e.h.get o').shape≠.dead /\ blk e.nm o'=some b /\ ((e'.h.get o).owned=true->(e.h.get o').owned=true)
structure ExtM (m:Nat) (e e':Env) (w:World):Prop where
 nx:m<=e'.nx
 old:∀ o,o<m->e'.nm o=e.nm o /\ ((e'.h.get o).shape=(e.h.get o).shape \/ (e'.h.get o).shape=.dead) /\ ((e'.h.get o).owned=true->(e.h.get o).owned=true)
 own:∀ o b,m<=o->(e'.h.get o).shape≠.dead->blk e'.nm o=some b->w.heap.size<=b \/ ∃ o',(e.h.get o').shape≠.dead /\ blk e.nm o'=some b /\ ((e'.h.get o).owned=true->(e.h.get o').owned=true)
theorem Ext.toM {e e':Env} {w:World} (h:Ext e e' w):ExtM e.nx e e' w:=⟨h.nx,h.old,h.own⟩
theorem qCi {x:Obj} (h:x.owned=true):x.shape≠.dead:=by cases x<;>simp[Obj.owned] at h<;>simp[Obj.shape]
theorem qDf.go {m:Nat} {e e':Env} {w w':World} (h:qDf e w) (f:Frame' e w w') (x:ExtM m e e' w):qDf e' w':=by
 intro g k l hg
 obtain⟨⟨arr,t,fr,h1,h2⟩,h3⟩:=h g k l hg
 have hlt:g<w.heap.size:=by
  rcases Nat.lt_or_ge g w.heap.size with hh | hh
  ·exact hh
  ·rw[Array.getElem?_eq_none hh] at h1;cases h1
 refine⟨⟨arr,t,fr,by rw[f.block g hlt h3];exact h1,h2⟩,fun o ho hb=>?_⟩
 rcases Nat.lt_or_ge o m with hm | hm
 ·obtain⟨a,_,c⟩:=x.old o hm
  exact h3 o (c ho) (by rw[<- hb];simp only[blk,a])
 ·rcases x.own o g hm (qCi ho) hb with hh | ⟨o',h4,h5,h6⟩
  ·omega
  ·exact h3 o' (h6 ho) h5
theorem qDf.sub {e e':Env} {w:World} (h:qDf e w) (hs:∀ o,(e'.h.get o).owned=true->∃ o',(e.h.get o').owned=true /\ blk e.nm o'=blk e'.nm o):qDf e' w:=by
 intro g k l hg
 obtain⟨h1,h3⟩:=h g k l hg
 refine⟨h1,fun o ho hb=>?_⟩
 obtain⟨o',h4,h5⟩:=hs o ho
 exact h3 o' h4 (h5.trans hb)
theorem Frame'.refl (e:Env) (w:World):Frame' e w w:=⟨rfl,rfl,rfl,Nat.le_refl _,fun _ _ _=>rfl⟩
theorem Ext.refl {e:Env} {w:World} (h:RelH e w):Ext e e w:=
 ⟨Nat.le_refl _,fun _ _=>⟨rfl,.inl rfl,id⟩,fun o b ho hd=>by rw[h.new o ho] at hd;exact absurd rfl hd⟩
def qA3 (e1 e2:Env) (g:Nat->Nat) (o:Nat):Prop:=
 g o<e2.nx /\ ((e2.h.get (g o)).shape=.dead \/ ((e2.h.get (g o)).shape=(e1.h.get o).shape /\ e2.nm (g o)=e1.nm o))
theorem qFG.form {nm:Nm} {o:Nat} {sh:List Shp} {sg:Nat} {row:Option (Nat×Nat)} {col:Nat} {v:Value} (h:qFG nm o sh sg row col v):∃ a,v=.pointer a:=by
 obtain⟨_,b,off,cap,_,h⟩:=h
 exact⟨_,h⟩
theorem qAE.form {nm:Nm} {o:Nat} {s:Shp} {lo len:Nat} {full:Bool} {v:Value} (h:qAE nm o s lo len full v):∃ a l c,v=.slice a l c:=by
 unfold qAE at h
 split at h
 ·exact⟨_,_,_,h.2.2⟩
 ·obtain⟨c,h,_⟩:=h
  exact⟨_,_,_,h⟩
theorem qHV.ren {e1 e2:Env} {g:Nat->Nat} {o:Nat} {v:Value} (h:qHV e1 o v) (hs:qA3 e1 e2 g o):qHV e2 (g o) v:=by
 obtain⟨h1,h2⟩:=h
 obtain⟨h3,h4⟩:=hs
 refine⟨h3,?_⟩
 rcases h4 with h4 | ⟨h4,h5⟩
 ·rw[h4]
  cases hsh:(e1.h.get o).shape<;>rw[hsh] at h2<;>simp only at h2 ⊢
  ·exact h2
  ·obtain⟨b,off,cap,_,h⟩:=h2
   exact⟨_,h⟩
 ·rw[h4,h5];exact h2
theorem qR.ren {e1 e2:Env} {g:Nat->Nat} {s:S} {v:Value} (h:qR e1 s v) (hs:∀ o∈s.refs,o<e1.nx->qA3 e1 e2 g o):qR e2 (s.ren g) v:=by
 cases s with
 | ptr o sg row col=>
   obtain⟨h1,h2⟩:=h
   obtain⟨h3,h4⟩:=hs o (by simp[S.refs]) h1
   refine⟨h3,?_⟩
   rcases h4 with h4 | ⟨h4,h5⟩
   ·rw[h4]
    cases hsh:(e1.h.get o).shape<;>rw[hsh] at h2<;>simp only at h2 ⊢
    ·exact h2
    ·exact qFG.form h2
    ·exact qFG.form h2
   ·rw[h4]
    cases hsh:(e1.h.get o).shape<;>rw[hsh] at h2<;>simp only[qFG] at h2 ⊢ <;> first | exact h2 | (rw[h5];exact h2)
 | sl o lo len full=>
   obtain⟨h1,h2⟩:=h
   obtain⟨h3,h4⟩:=hs o (by simp[S.refs]) h1
   refine⟨h3,?_⟩
   rcases h4 with h4 | ⟨h4,h5⟩
   ·rw[h4]
    cases hsh:(e1.h.get o).shape<;>rw[hsh] at h2<;>simp only at h2 ⊢
    ·exact h2
    ·exact qAE.form h2
   ·rw[h4]
    cases hsh:(e1.h.get o).shape<;>rw[hsh] at h2<;>simp only[qAE] at h2 ⊢ <;> first | exact h2 | (rw[h5];exact h2)
 | mp o=>
   obtain⟨h1,h2⟩:=h
   obtain⟨h3,h4⟩:=hs o (by simp[S.refs]) h1
   refine⟨h3,?_⟩
   rcases h4 with h4 | ⟨h4,h5⟩
   ·rw[h4]
    cases hsh:(e1.h.get o).shape<;>rw[hsh] at h2<;>simp only at h2 ⊢
    ·exact h2
    ·obtain⟨b,off,cap,_,h⟩:=h2
     exact⟨_,h⟩
   ·rw[h4,h5];exact h2
 | it o=>
   obtain⟨h1,h2⟩:=h
   obtain⟨h3,h4⟩:=hs o (by simp[S.refs]) h1
   refine⟨h3,?_⟩
   rcases h4 with h4 | ⟨h4,h5⟩
   ·rw[h4]
    cases hsh:(e1.h.get o).shape<;>rw[hsh] at h2<;>simp only at h2 ⊢
    ·exact h2
    ·obtain⟨b,off,cap,_,h⟩:=h2
     exact⟨_,h⟩
   ·rw[h4,h5];exact h2
 | fn f caps=>
   obtain⟨vs,rfl,hc⟩:=h
   refine⟨vs,rfl,?_⟩
   refine qC.map_left (qC.mono_mem (fun o v ho hv=>?_) hc)
   exact qHV.ren hv (hs o (by simpa[S.refs] using ho) hv.1)
 | _=>exact h
theorem S.ren_id (s:S):s.ren id=s:=by cases s<;>simp[S.ren]
theorem Seg.ren_id (s:Seg):s.ren id=s:=by
 cases s<;>simp[Seg.ren]
 exact (List.map_congr_left fun x _=>S.ren_id x).trans (List.map_id _)
theorem qjN (g:Nat->Nat) (s:Seg):(s.ren g).flat=s.flat.map (S.ren g):=by
 cases s with
 | one vs=>rfl
 | arr k n l=>simp[Seg.ren,Seg.flat,S.ren,Function.comp_def]
 | barr n l=>simp[Seg.ren,Seg.flat,S.ren,Function.comp_def]
 | rows ks n xs=>
   simp only[Seg.ren,Seg.flat,List.map_flatMap]
   congr 1
   funext r
   have:∀ (ks:List CK) (r:List Int),mks ks r=(mks ks r).map (S.ren g):=by
    intro ks
    induction ks with
    | nil=>intro r;rfl
    | cons c ks ih=>intro r;simp only[mks,List.map_cons];rw[<- ih];cases c<;>rfl
   exact this ks r
theorem qjO (g:Nat->Nat) (l:List Seg):qf (l.map (Seg.ren g))=(qf l).map (S.ren g):=by
 induction l with
 | nil=>rfl
 | cons x l ih=>simp only[List.map_cons,flats_cons,List.map_append,ih,qjN]
theorem qmn (g:Nat->Nat) (s:Seg):(s.ren g).ok↔s.ok:=by cases s<;>simp[Seg.ren,Seg.ok]
theorem qL4 (g:Nat->Nat) (l:List Seg):oks (l.map (Seg.ren g))↔oks l:=by
 simp only[oks,List.mem_map,forall_exists_index,and_imp,forall_apply_eq_imp_iff₂,qmn]
theorem qr6 (g:Nat->Nat) (s:Seg):(s.ren g).shp=s.shp:=by cases s<;>simp[Seg.ren,Seg.shp]
theorem qr7 (g:Nat->Nat) (l:List Seg):qX (l.map (Seg.ren g))=qX l:=by simp[qX,Function.comp_def,qr6]
theorem qBP (g:Nat->Nat) (x:Obj):(x.ren g).shape=x.shape:=by cases x<;>simp[Obj.ren,Obj.shape,qr7]
theorem qB3 (g:Nat->Nat) (x:Obj):(x.ren g).owned=x.owned:=by cases x<;>rfl
theorem qli {s:S} {g:Seg} (h:s∈g.flat) {o:Nat} (ho:o∈s.refs):o∈g.refs:=by
 cases g with
 | one vs=>exact List.mem_flatMap.2 ⟨s,h,ho⟩
 | arr k n l=>
   obtain⟨x,_,rfl⟩:=List.mem_map.1 h
   simp[S.refs] at ho
 | barr n l=>
   obtain⟨x,_,rfl⟩:=List.mem_map.1 h
   simp[S.refs] at ho
 | rows ks n xs=>
   exfalso
   obtain⟨r,_,h⟩:=List.mem_flatMap.1 h
   have:∀ (ks:List CK) (r:List Int) (s:S),s∈mks ks r->s.refs=[]:=by
    intro ks
    induction ks with
    | nil=>intro r s hs;simp[mks] at hs
    | cons c ks ih=>
      intro r s hs
      rcases List.mem_cons.1 hs with rfl | hs
      ·cases c<;>rfl
      ·exact ih _ _ hs
   rw[this ks r s h] at ho
   simp at ho
theorem qlj {s:S} {l:List Seg} (h:s∈qf l) {o:Nat} (ho:o∈s.refs):o∈qIw l:=by
 obtain⟨g,hg,hs⟩:=List.mem_flatMap.1 h
 exact List.mem_flatMap.2 ⟨g,hg,qli hs ho⟩
theorem qG6 {e1 e2:Env} {g:Nat->Nat} {l:List Seg} {vs:List Value} (h:qC (qR e1) (qf l) vs) (hs:∀ o∈qIw l,o<e1.nx->qA3 e1 e2 g o):
  qC (qR e2) (qf (l.map (Seg.ren g))) vs:=by
 rw[qjO]
 exact qC.map_left (qC.mono_mem (fun s v hsm hv=>qR.ren hv fun o ho hlt=>hs o (qlj hsm ho) hlt) h)
theorem qCX.ren {e1 e2:Env} {g:Nat->Nat} {x:W} {v:Value} (h:qCX e1 x v) (hs:∀ o∈x.refs,o<e1.nx->qA3 e1 e2 g o):qCX e2 (x.ren g) v:=by
 cases x with
 | s x=>exact qR.ren h hs
 | agg l=>
   obtain⟨arr,rfl,h1,h2⟩:=h
   exact⟨arr,rfl,qG6 h1 hs,(qL4 g l).2 h2⟩
theorem qP.ren {e1 e2:Env} {g:Nat->Nat} {x:V} {v:Value} (h:qP e1 x v) (hs:∀ o∈x.refs,o<e1.nx->qA3 e1 e2 g o):qP e2 (x.ren g) v:=by
 cases x with
 | s x=>exact qR.ren h hs
 | agg l=>
   obtain⟨arr,rfl,h1,h2⟩:=h
   exact⟨arr,rfl,qG6 h1 hs,(qL4 g l).2 h2⟩
 | tup l=>
   obtain⟨arr,rfl,h1⟩:=h
   refine⟨arr,rfl,qC.map_left (qC.mono_mem (fun y v hy hv=>qCX.ren hv fun o ho hlt=>hs o ?_ hlt) h1)⟩
   exact List.mem_flatMap.2 ⟨y,hy,ho⟩
theorem qCO (l:List Seg):l.map (Seg.ren id)=l:=(List.map_congr_left fun x _=>Seg.ren_id x).trans (List.map_id _)
theorem W.ren_id (x:W):x.ren id=x:=by cases x<;>simp[W.ren,S.ren_id,qCO]
theorem V.ren_id (x:V):x.ren id=x:=by
 cases x<;>simp[V.ren,S.ren_id,qCO]
 exact (List.map_congr_left fun x _=>W.ren_id x).trans (List.map_id _)
theorem Ext.same {e e':Env} {w:World} (h:Ext e e' w) {o:Nat} (ho:o<e.nx):qA3 e e' id o:=by
 obtain⟨h1,h2,_⟩:=h.old o ho
 refine⟨Nat.lt_of_lt_of_le ho h.nx,?_⟩
 rcases h2 with h2 | h2
 ·exact .inr ⟨h2,h1⟩
 ·exact .inl h2
theorem qP.ext {e e':Env} {w:World} {s:V} {v:Value} (h:qP e s v) (he:Ext e e' w):qP e' s v:=by
 have:=qP.ren (g:=id) h fun o _ hlt=>he.same hlt
 rwa [V.ren_id] at this
theorem qR.of0 {e:Env} {s:S} {v:Value} (h:qR qAw s v):qR e s v:=by
 cases s with
 | ptr o sg row col=>exact absurd h.1 (Nat.not_lt_zero _)
 | sl o lo len full=>exact absurd h.1 (Nat.not_lt_zero _)
 | mp o=>exact absurd h.1 (Nat.not_lt_zero _)
 | it o=>exact absurd h.1 (Nat.not_lt_zero _)
 | fn f caps=>
   obtain⟨vs,rfl,hc⟩:=h
   exact⟨vs,rfl,qC.mono (fun o v hv=>absurd hv.1 (Nat.not_lt_zero _)) hc⟩
 | _=>exact h
theorem qS.ren {e1 e2:Env} {g:Nat->Nat} {w:World} {o o':Nat} (h:qS e1 w o) (hget:e2.h.get o'=(e1.h.get o).ren g) (hnm:e2.nm o'=e1.nm o)
  (hs:∀ r∈(e1.h.get o).refs,r<e1.nx->qA3 e1 e2 g r):qS e2 w o':=by
 unfold qS at h ⊢
 rw[hget,hnm]
 cases hx:e1.h.get o with
 | dead=>trivial
 | cells t l=>
   rw[hx] at h hs
   simp only[Obj.ren] at h ⊢
   obtain⟨h1,b,arr,h2,h3,h4⟩:=h
   exact⟨(qL4 g l).2 h1,b,arr,h2,h3,qG6 h4 hs⟩
 | rcells t l=>
   rw[hx] at h hs
   simp only[Obj.ren] at h ⊢
   obtain⟨h1,b,arr,h2,h3,h4⟩:=h
   exact⟨(qL4 g l).2 h1,b,arr,h2,h3,qG6 h4 hs⟩
 | sli t ro sg=>rw[hx] at h;cases ro<;>exact h
 | map kks vks es=>rw[hx] at h;exact h
 | iter s pos=>rw[hx] at h;exact h
theorem qS.frame {e:Env} {w w':World} {o:Nat} (h:qS e w o) (hsz:w.heap.size<=w'.heap.size) (hb:∀ b,blk e.nm o=some b->w'.heap[b]? = w.heap[b]?):qS e w' o:=by
 unfold qS at h ⊢
 cases hx:e.h.get o with
 | dead=>trivial
 | cells t l=>
   rw[hx] at h
   simp only at h ⊢
   obtain⟨h1,b,arr,h2,h3,h4⟩:=h
   exact⟨h1,b,arr,h2,by rw[hb b (by simp[blk,h2])];exact h3,h4⟩
 | rcells t l=>
   rw[hx] at h
   simp only at h ⊢
   obtain⟨h1,b,arr,h2,h3,h4⟩:=h
   exact⟨h1,b,arr,h2,by rw[hb b (by simp[blk,h2])];exact h3,h4⟩
 | sli t ro sg=>
   rw[hx] at h
   cases ro
   ·simp only at h ⊢
    refine⟨h.1,?_⟩
    have h2:=h.2
    cases hn:e.nm o with
    | none=>rw[hn] at h2;exact h2
    | some q=>
      obtain⟨b,off,cap⟩:=q
      rw[hn] at h2
      simp only at h2 ⊢
      obtain⟨r1,arr,r2,r3⟩:=h2
      exact⟨r1,arr,by rw[hb b (by simp[blk,hn])];exact r2,r3⟩
   ·simp only at h ⊢
    refine⟨h.1,?_⟩
    have h2:=h.2
    cases hn:e.nm o with
    | none=>rw[hn] at h2;exact h2
    | some q=>
      obtain⟨b,off,cap⟩:=q
      rw[hn] at h2
      simp only at h2 ⊢
      refine⟨by omega,h2.2.1,fun j s hj=>?_⟩
      obtain⟨v,hv,hr⟩:=h2.2.2 j s hj
      exact⟨v,by rw[World.cell?_of_block (w:=w) (hb b (by simp[blk,hn]))];exact hv,hr⟩
 | map kks vks es=>
   rw[hx] at h
   simp only at h ⊢
   obtain⟨b,ents,clock,h2,h3,h4⟩:=h
   exact⟨b,ents,clock,h2,by rw[hb b (by simp[blk,h2])];exact h3,h4⟩
 | iter s pos=>
   rw[hx] at h
   simp only at h ⊢
   obtain⟨h0,b,h2,h3⟩:=h
   exact⟨h0,b,h2,by rw[hb b (by simp[blk,h2])];exact h3⟩
theorem qS.lt {e:Env} {w:World} {o b:Nat} (h:qS e w o) (hl:(e.h.get o).shape≠.dead) (hb:blk e.nm o=some b):b<w.heap.size:=by
 unfold qS at h
 cases hx:e.h.get o with
 | dead=>rw[hx] at hl;exact absurd rfl hl
 | cells t l=>
   rw[hx] at h
   obtain⟨h1,b',arr,h2,h3,h4⟩:=h
   simp[blk,h2] at hb
   subst hb
   exact (Array.getElem?_eq_some_iff.1 h3).1
 | rcells t l=>
   rw[hx] at h
   obtain⟨h1,b',arr,h2,h3,h4⟩:=h
   simp[blk,h2] at hb
   subst hb
   exact (Array.getElem?_eq_some_iff.1 h3).1
 | sli t ro sg=>
   rw[hx] at h
   cases hn:e.nm o with
   | none=>simp[blk,hn] at hb
   | some q=>
     obtain⟨b',off,cap⟩:=q
     simp[blk,hn] at hb
     subst hb
     cases ro
     ·simp only[hn] at h
      obtain⟨_,r1,arr,r2,r3⟩:=h
      exact (Array.getElem?_eq_some_iff.1 r2).1
     ·simp only[hn] at h
      exact h.2.1
 | map kks vks es=>
   rw[hx] at h
   obtain⟨b',ents,clock,h2,h3,h4⟩:=h
   simp[blk,h2] at hb
   subst hb
   exact (Array.getElem?_eq_some_iff.1 h3).1
 | iter s pos=>
   rw[hx] at h
   obtain⟨h0,b',h2,h3⟩:=h
   simp[blk,h2] at hb
   subst hb
   exact (Array.getElem?_eq_some_iff.1 h3).1
theorem qLq {x:Nat} {l:List Nat}:qCM x l=true↔x∈l:=by
 induction l with
 | nil=>simp[qCM]
 | cons y l ih=>
   simp only[qCM,Bool.or_eq_true,ih,List.mem_cons,Nat.beq_eq]
   exact⟨fun h=>h.imp Eq.symm id,fun h=>h.imp Eq.symm id⟩
theorem qLz {l:List Nat}:qEh l=true↔l.Nodup:=by
 induction l with
 | nil=>simp[qEh]
 | cons y l ih=>
   simp only[qEh,Bool.and_eq_true,Bool.not_eq_true',List.nodup_cons,ih]
   rw[<- Bool.not_eq_true,qLq]
theorem qIA {x:Nat} {l:List Nat} (h:x∈l):qz x l<l.length:=by
 induction l with
 | nil=>simp at h
 | cons y l ih=>
   simp only[qz]
   cases hy:Nat.beq y x with
   | true=>simp
   | false=>
     have:x≠y:=fun e=>by subst e;simp at hy
     simpa using ih (by simpa[this] using h)
theorem qW1 {x:Nat} {l:List Nat} (h:x∈l):l[qz x l]? = some x:=by
 induction l with
 | nil=>simp at h
 | cons y l ih=>
   simp only[qz]
   cases hy:Nat.beq y x with
   | true=>
     have e:y=x:=Nat.eq_of_beq_eq_true hy
     rw[e];rfl
   | false=>
     have:x≠y:=fun e=>by subst e;simp at hy
     simpa using ih (by simpa[this] using h)
theorem qPW {l:List Nat} (hn:l.Nodup) {i x:Nat} (h:l[i]? = some x):qz x l=i:=by
 induction l generalizing i with
 | nil=>simp at h
 | cons y l ih=>
   simp only[qz]
   cases i with
   | zero=>simp at h;subst h;simp
   | succ i=>
     have hx:x∈l:=List.mem_of_getElem? (by simpa using h)
     have hy:Nat.beq y x=false:=by
      cases hb:Nat.beq y x with
      | false=>rfl
      | true=>
        have:y=x:=by simpa using hb
        subst this
        exact absurd hx (List.nodup_cons.1 hn).1
     simp[hy,ih (List.nodup_cons.1 hn).2 (by simpa using h)]
theorem qJ8 {d:Nat} {l:List Nat} {i x:Nat} (h:l[i]? = some x):qAA d l i=x:=by
 induction l generalizing i with
 | nil=>simp at h
 | cons y l ih=>
   cases i with
   | zero=>simpa[qAA] using h
   | succ i=>simpa[qAA] using ih (by simpa using h)
theorem qL1 {d:Nat} {l:List Nat} {i:Nat} (h:l.length<=i):qAA d l i=d+(i - l.length):=by
 induction l generalizing i with
 | nil=>simp[qAA]
 | cons y l ih=>
   cases i with
   | zero=>simp at h
   | succ i=>simpa[qAA] using ih (by simpa using h)
theorem qu (a b:Hp) (o:Nat):Hp.get (a++b) o=match a.lookup o with
  | some x=>x
  | none=>Hp.get b o:=by
 induction a with
 | nil=>rfl
 | cons p a ih=>
   obtain⟨k,x⟩:=p
   simp only[List.cons_append,Hp.get,List.lookup]
   cases hk:Nat.beq k o with
   | true=>
     have:k=o:=by simpa using hk
     subst this
     simp
   | false=>
     have hne:(o==k)=false:=by
      rw[beq_eq_false_iff_ne]
      exact fun e=>by subst e;simp at hk
     simp[hne,ih]
theorem qKu (nx:Nat):∀ (objs:List Obj) (o:Nat),(qJ [] nx objs).lookup o=if nx<=o then objs[o - nx]? else none:=by
 intro objs
 induction objs generalizing nx with
 | nil=>intro o;simp[qJ]
 | cons x objs ih=>
   intro o
   simp only[qJ,List.lookup]
   by_cases h:o=nx
   ·subst h;simp
   ·have hne:(o==nx)=false:=by rw[beq_eq_false_iff_ne];exact h
    simp only[hne,ih]
    by_cases h2:nx+1<=o
    ·rw[if_pos h2,if_pos (by omega)]
     have:o - nx=o - (nx+1)+1:=by omega
     rw[this];simp
    ·rw[if_neg h2,if_neg (by omega)]
theorem qNY {nx:Nat}:∀ {ks:List Nat} {objs:List Obj} (o:Nat),(∀ k∈ks,k<nx)->ks.length<=objs.length->
  (qJ ks nx objs).lookup o=if o∈ks then objs[qz o ks]? else if nx<=o then objs[ks.length+(o - nx)]? else none:=by
 intro ks
 induction ks with
 | nil=>intro objs o _ _;simp[qKu]
 | cons k ks ih=>
   intro objs o hk hl
   cases objs with
   | nil=>simp at hl
   | cons x objs=>
     simp only[qJ,List.lookup]
     by_cases h:o=k
     ·subst h;simp[qz]
     ·have hne:(o==k)=false:=by rw[beq_eq_false_iff_ne];exact h
      have hkb:Nat.beq k o=false:=by
       cases hb:Nat.beq k o with
       | false=>rfl
       | true=>exact absurd (by simpa using hb) (Ne.symm h)
      simp only[hne,ih o (fun y hy=>hk y (by simp[hy])) (by simpa using hl),List.mem_cons,h,false_or,qz,hkb,cond_false]
      by_cases hm:o∈ks
      ·simp[hm]
      ·simp only[hm,if_false]
       by_cases hx:nx<=o
       ·simp only[hx,if_true,List.length_cons]
        rw[show ks.length+1+(o - nx)=ks.length+(o - nx)+1 by omega]
        simp
       ·simp[hx]
theorem qR.oneCell {e:Env} {s:S} {v:Value} (h:qR e s v) (hg:s.good=true):v.oneCell'=true:=by
 cases s with
 | bad=>cases hg
 | i k n=>rw[h.1];rfl
 | b x=>rw[show v=_ from h];rfl
 | str x=>rw[show v=_ from h];rfl
 | nilp=>rw[show v=_ from h];rfl
 | nilm=>rw[show v=_ from h];rfl
 | nils=>rw[show v=_ from h];rfl
 | gp g j=>rw[h.1];rfl
 | ptr o sg row col=>
   obtain⟨_,h2⟩:=h
   cases hsh:(e.h.get o).shape<;>rw[hsh] at h2<;>simp only at h2
   ·obtain⟨a,rfl⟩:=h2;rfl
   ·obtain⟨a,rfl⟩:=h2.form;rfl
   ·obtain⟨a,rfl⟩:=h2.form;rfl
 | sl o lo len full=>
   obtain⟨_,h2⟩:=h
   cases hsh:(e.h.get o).shape<;>rw[hsh] at h2<;>simp only at h2
   ·obtain⟨a,l,c,rfl⟩:=h2;rfl
   ·obtain⟨a,l,c,rfl⟩:=h2.form;rfl
 | mp o=>
   obtain⟨_,h2⟩:=h
   cases hsh:(e.h.get o).shape<;>rw[hsh] at h2<;>simp only at h2
   ·obtain⟨a,rfl⟩:=h2;rfl
   ·obtain⟨b,off,cap,_,rfl⟩:=h2;rfl
 | it o=>
   obtain⟨_,h2⟩:=h
   cases hsh:(e.h.get o).shape<;>rw[hsh] at h2<;>simp only at h2
   ·obtain⟨a,rfl⟩:=h2;rfl
   ·obtain⟨b,off,cap,_,rfl⟩:=h2;rfl
 | fn f caps=>obtain⟨vs,rfl,_⟩:=h;rfl
theorem qj4 (l:Hp) (o:Nat):Hp.get l o=(l.lookup o).getD .dead:=by
 have:=qu l [] o
 rw[List.append_nil] at this
 rw[this]
 cases l.lookup o<;>rfl
theorem qBe (objs:List Obj) (i:Nat):Hp.get (qJ [] 0 objs) i=(objs[i]?).getD .dead:=by
 rw[qj4,qKu];simp
def qm (e:Env) (ks:List Nat):Env:=⟨fun i=>match ks[i]? with
 | some o=>e.nm o
 | none=>none,qJ [] 0 (cut e.h ks),ks.length⟩
theorem qBv {e:Env} {ks:List Nat} {i o:Nat} (h:ks[i]? = some o):(qm e ks).h.get i=(e.h.get o).ren (fun x=>qz x ks):=by
 simp[qm,qBe,cut,h]
theorem qE8 {e:Env} {ks:List Nat} {i:Nat} (h:ks.length<=i):(qm e ks).h.get i=.dead:=by
 simp[qm,qBe,cut,List.getElem?_eq_none h]
theorem qCS {e:Env} {ks:List Nat} {i o:Nat} (h:ks[i]? = some o):(qm e ks).nm i=e.nm o:=by simp[qm,h]
theorem qJB {e:Env} {ks:List Nat} {o:Nat} (h:o∈ks):qA3 e (qm e ks) (fun x=>qz x ks) o:=by
 have hg:=qW1 h
 refine⟨qIA h,.inr ⟨?_,qCS hg⟩⟩
 rw[qBv hg,qBP]
theorem qFY {ks l:List Nat}:qCw ks l=true ↔ ∀ x∈l,x∈ks:=by simp[qCw,qLq]
theorem qKl {e:Env} {w:World} {ks:List Nat} (h:RelH e w) (hn:ks.Nodup) (hc:∀ o∈ks,∀ r∈(e.h.get o).refs,r∈ks):RelH (qm e ks) w:=by
 refine⟨fun i=>?_,fun i hi=>qE8 hi,fun i j x hij hi hj hx=>?_,h.fix.sub fun i hi=>?_⟩
 ·rcases Nat.lt_or_ge i ks.length with hi | hi
  ·have hg:ks[i]? = some ks[i]:=List.getElem?_eq_getElem hi
   exact qS.ren (h.obj ks[i]) (qBv hg) (qCS hg) fun r hr _=>qJB (hc _ (List.getElem_mem hi) r hr)
  ·unfold qS;rw[qE8 hi];trivial
 ·rcases Nat.lt_or_ge i ks.length with hi' | hi'
  ·rcases Nat.lt_or_ge j ks.length with hj' | hj'
   ·have hgi:ks[i]? = some ks[i]:=List.getElem?_eq_getElem hi'
    have hgj:ks[j]? = some ks[j]:=List.getElem?_eq_getElem hj'
    rw[qBv hgi,qB3] at hi
    rw[qBv hgj,qBP] at hj
    simp only[blk,qCS hgi,qCS hgj] at hx ⊢
    exact h.apart _ _ x (fun he=>hij ((List.getElem_inj hn).1 he)) hi hj hx
   ·rw[qE8 hj'] at hj;exact absurd rfl hj
  ·rw[qE8 hi'] at hi;cases hi
 ·rcases Nat.lt_or_ge i ks.length with hi' | hi'
  ·have hgi:ks[i]? = some ks[i]:=List.getElem?_eq_getElem hi'
   rw[qBv hgi,qB3] at hi
   exact⟨ks[i],hi,by simp only[blk,qCS hgi]⟩
  ·rw[qE8 hi'] at hi;cases hi
def qNa (P : Program) (f : FuncId) : Prop := ∃ fn, P.funcs[f]? = some fn /\ (fn.name == "runtime.NumGoroutine") = false /\ fn.body.isNone = false
def qDD (P:Program) (f:FuncId) (vs:List V) (objs:List Obj) (v:V) (objs':List Obj):Prop:=qNa P f /\
 ∀ (nm:Nm) (w:World) (args:Array Value),qC (qP ⟨nm,qJ [] 0 objs,objs.length⟩) vs args.toList->RelH ⟨nm,qJ [] 0 objs,objs.length⟩ w->
   (Calls P f args w fun en w'=>∃ vr nm',en=.returned vr /\ qP ⟨nm',qJ [] 0 objs',objs'.length⟩ v vr /\ RelH ⟨nm',qJ [] 0 objs',objs'.length⟩ w' /\
    Frame' ⟨nm,qJ [] 0 objs,objs.length⟩ w w' /\ Ext ⟨nm,qJ [] 0 objs,objs.length⟩ ⟨nm',qJ [] 0 objs',objs'.length⟩ w) /\
   (qCM f told=false->∀ u,CallsD P f args u w fun en u' w'=>u'=u /\ ∃ vr nm',en=.returned vr /\ qP ⟨nm',qJ [] 0 objs',objs'.length⟩ v vr /\ RelH ⟨nm',qJ [] 0 objs',objs'.length⟩ w' /\
    Frame' ⟨nm,qJ [] 0 objs,objs.length⟩ w w' /\ Ext ⟨nm,qJ [] 0 objs,objs.length⟩ ⟨nm',qJ [] 0 objs',objs'.length⟩ w)
def qff (P:Program) (f:FuncId) (vs:List V) (objs:List Obj) (v:V) (new:List Obj):Prop:=
 (∀ x∈objs.map Obj.toRO,x.owned=false) /\ (∀ x∈new,x.owned=true) /\ ∃ old,old.length=objs.length /\ (∀ x∈old,x.live=true) /\ qDD P f vs (objs.map Obj.toRO) v (old++new)
def qDe (P:Program) (f:FuncId) (vs:List V) (objs:List Obj) (p:Bool) (v:V) (objs':List Obj):Prop:=match p with
 | true=>qff P f vs objs v objs'
 | false=>qDD P f vs objs v objs'
def qBx (P:Program) (orc:{R:Type}->FuncId->List V->List Obj->(Bool->V->List Obj->Option R)->Option R):Prop:=
 ∀ {R:Type} (f:FuncId) (vs:List V) (objs:List Obj) (K:Bool->V->List Obj->Option R) (r:R),orc f vs objs K=some r->∃ p v objs',K p v objs'=some r /\ qDe P f vs objs p v objs'
theorem qM8 (x:Obj):x.toRO.shape=x.shape:=by cases x<;>rfl
theorem qCF (h:Hp) (ks:List Nat):(cut h ks).length=ks.length:=by simp[cut]
theorem qOq (l:List Nat) (o:Nat):(qGk l).lookup o=if o∈l then some .dead else none:=by
 induction l with
 | nil=>simp[qGk]
 | cons k l ih=>
   simp only[qGk,List.lookup]
   by_cases h:o=k
   ·subst h;simp
   ·simp[beq_eq_false_iff_ne.2 h,ih,h]
theorem qNv {m:Nat} {e:Env} {w w':World} {ks:List Nat} {nm':Nm} {objs':List Obj} (h:RelH e w) (hn:ks.Nodup) (hlt:∀ o∈ks,o<e.nx) (hm:m<=ks.length)
  (hlen:m<=objs'.length) (hh:RelH ⟨nm',qJ [] 0 objs',objs'.length⟩ w')
  (hf:Frame' (qm e ks) w w') (hx:ExtM m (qm e ks) ⟨nm',qJ [] 0 objs',objs'.length⟩ w):
  ∃ nm2:Nm,let e':Env:=⟨nm2,qJ (ks.take m) e.nx (objs'.map (Obj.ren (qAA e.nx (ks.take m))))++(qGk (ks.drop m)++e.h),e.nx+(objs'.length - m)⟩;
    (∀ v vr,qP ⟨nm',qJ [] 0 objs',objs'.length⟩ v vr->qP e' (v.ren (qAA e.nx (ks.take m))) vr) /\ RelH e' w' /\ Frame' e w w' /\ Ext e e' w:=by
 let es:Env:=⟨nm',qJ [] 0 objs',objs'.length⟩
 let nm2:Nm:=fun o=>if e.nx<=o then nm' (m+(o - e.nx)) else e.nm o
 let e':Env:=⟨nm2,qJ (ks.take m) e.nx (objs'.map (Obj.ren (qAA e.nx (ks.take m))))++(qGk (ks.drop m)++e.h),e.nx+(objs'.length - m)⟩
 have ktl:(ks.take m).length=m:=by simp;omega
 have kti:∀ o,o∈ks.take m->o∈ks:=fun o ho=>List.mem_of_mem_take ho
 have ktn:(ks.take m).Nodup:=hn.sublist (List.take_sublist _ _)
 have klt:∀ o∈ks.take m,o<e.nx:=fun o ho=>hlt o (kti o ho)
 have kget:∀ o,o∈ks.take m->ks[qz o (ks.take m)]? = some o:=by
  intro o ho
  have h1:=qW1 ho
  have h2:=qIA ho
  rw[ktl] at h2
  rw[List.getElem?_take,if_pos h2] at h1
  exact h1
 have kdrop:∀ o,o∈ks->o ∉ ks.take m->o∈ks.drop m:=by
  intro o ho hno
  rw[<- List.take_append_drop m ks] at ho
  exact (List.mem_append.1 ho).resolve_left hno
 have dropk:∀ o,o∈ks.drop m->o∈ks:=fun o ho=>List.mem_of_mem_drop ho
 have gin:∀ o,o∈ks.take m->e'.h.get o=(es.h.get (qz o (ks.take m))).ren (qAA e.nx (ks.take m)):=by
  intro o ho
  have hi:=qIA ho
  rw[ktl] at hi
  show Hp.get (_++_) o=_
  rw[qu,qNY o klt (by simp;omega),if_pos ho]
  simp only[es,qBe,List.getElem?_map]
  rw[List.getElem?_eq_getElem (by omega)]
  rfl
 have gdead:∀ o,o∈ks->o ∉ ks.take m->e'.h.get o=.dead:=by
  intro o ho hno
  have:=hlt o ho
  show Hp.get (_++_) o=_
  rw[qu,qNY o klt (by simp;omega),if_neg hno,if_neg (by omega)]
  show Hp.get (_++_) o=_
  rw[qu,qOq,if_pos (kdrop o ho hno)]
 have gnew:∀ o,e.nx<=o->e'.h.get o=(es.h.get (m+(o - e.nx))).ren (qAA e.nx (ks.take m)):=by
  intro o ho
  have hnot:o ∉ ks.take m:=fun hm=>by have:=klt o hm;omega
  have hnot2:o ∉ ks.drop m:=fun hm=>by have:=hlt o (dropk o hm);omega
  show Hp.get (_++_) o=_
  rw[qu,qNY o klt (by simp;omega),if_neg hnot,if_pos ho]
  simp only[es,qBe,List.getElem?_map,ktl]
  cases hq:objs'[m+(o - e.nx)]? with
  | none=>
    simp only[Option.map_none,Option.getD_none]
    show Hp.get (_++_) o=_
    rw[qu,qOq,if_neg hnot2]
    show e.h.get o=_
    rw[h.new o ho];rfl
  | some x=>rfl
 have gout:∀ o,o ∉ ks->o<e.nx->e'.h.get o=e.h.get o:=by
  intro o hnot ho
  show Hp.get (_++_) o=_
  rw[qu,qNY o klt (by simp;omega),if_neg (fun hm=>hnot (kti o hm)),if_neg (by omega)]
  show Hp.get (_++_) o=_
  rw[qu,qOq,if_neg (fun hm=>hnot (dropk o hm))]
 have nin:∀ o,o∈ks.take m->nm2 o=nm' (qz o (ks.take m)):=by
  intro o ho
  have h1:=(hx.old (qz o (ks.take m)) (by have:=qIA ho;rwa [ktl] at this)).1
  have h2:=qCS (e:=e) (kget o ho)
  simp only[nm2]
  rw[if_neg (by have:=klt o ho;omega)]
  exact (h1.trans h2).symm
 have nnew:∀ o,e.nx<=o->nm2 o=nm' (m+(o - e.nx)):=fun o ho=>by simp only[nm2];rw[if_pos ho]
 have nout:∀ o,o<e.nx->nm2 o=e.nm o:=fun o ho=>by simp only[nm2];rw[if_neg (by omega)]
 have shin:∀ o,o∈ks.take m->((e'.h.get o).shape=(e.h.get o).shape \/ (e'.h.get o).shape=.dead) /\ ((e'.h.get o).owned=true->(e.h.get o).owned=true):=by
  intro o ho
  obtain⟨_,h2,h3⟩:=hx.old (qz o (ks.take m)) (by have:=qIA ho;rwa [ktl] at this)
  rw[qBv (kget o ho),qBP] at h2
  rw[qBv (kget o ho),qB3] at h3
  rw[gin o ho,qBP,qB3]
  exact⟨h2,h3⟩
 have back:∀ i b,m<=i->(es.h.get i).shape≠.dead->blk nm' i=some b->w.heap.size<=b \/ ∃ j,∃ hj:j<ks.length,(e.h.get ks[j]).shape≠.dead /\ blk e.nm ks[j]=some b /\ ((es.h.get i).owned=true->(e.h.get ks[j]).owned=true):=by
  intro i b hi hd hb
  rcases hx.own i b hi hd hb with h1 | ⟨j,h1,h2,h3⟩
  ·exact .inl h1
  ·rcases Nat.lt_or_ge j ks.length with hj | hj
   ·have hg:ks[j]? = some ks[j]:=List.getElem?_eq_getElem hj
    rw[qBv hg,qBP] at h1
    rw[qBv hg,qB3] at h3
    simp only[blk,qCS hg] at h2
    exact .inr ⟨j,hj,h1,h2,h3⟩
   ·rw[qE8 hj] at h1;exact absurd rfl h1
 have hext:Ext e e' w:=by
  refine⟨Nat.le_add_right _ _,fun o ho=>⟨nout o ho,?_⟩,fun o b ho hd hb=>?_⟩
  ·by_cases hk:o∈ks
   ·by_cases hm:o∈ks.take m
    ·exact shin o hm
    ·rw[gdead o hk hm];exact⟨.inr rfl,fun h=>by cases h⟩
   ·rw[gout o hk ho];exact⟨.inl rfl,id⟩
  ·rw[gnew o ho,qBP] at hd
   simp only[blk,e'] at hb
   rw[nnew o ho] at hb
   rcases back (m+(o - e.nx)) b (Nat.le_add_right _ _) hd hb with h1 | ⟨j,hj,h1,h2,h3⟩
   ·exact .inl h1
   ·exact .inr ⟨_,h1,h2,fun hw=>h3 (by rw[gnew o ho,qB3] at hw;exact hw)⟩
 have hframe:Frame' e w w':=by
  refine⟨hf.os,hf.tape,hf.output,hf.size,fun k hk hno=>hf.block k hk fun i hi=>?_⟩
  rcases Nat.lt_or_ge i ks.length with hi' | hi'
  ·have hg:ks[i]? = some ks[i]:=List.getElem?_eq_getElem hi'
   rw[qBv hg,qB3] at hi
   simp only[blk,qCS hg]
   exact hno _ hi
  ·rw[qE8 hi'] at hi;cases hi
 have hsame:∀ i,i<objs'.length->qA3 es e' (qAA e.nx (ks.take m)) i:=by
  intro i hi
  rcases Nat.lt_or_ge i m with hi' | hi'
  ·have hg:(ks.take m)[i]? = some (ks.take m)[i]:=List.getElem?_eq_getElem (by omega)
   have hm:(ks.take m)[i]∈ks.take m:=List.getElem_mem _
   have hix:qz (ks.take m)[i] (ks.take m)=i:=qPW ktn hg
   unfold qA3
   rw[qJ8 hg]
   refine⟨Nat.lt_of_lt_of_le (klt _ hm) (Nat.le_add_right _ _),.inr ⟨?_,?_⟩⟩
   ·rw[gin _ hm,qBP,hix]
   ·show nm2 _=_
    rw[nin _ hm,hix]
  ·unfold qA3
   rw[qL1 (by omega),ktl]
   refine⟨by show _<e.nx+_;omega,.inr ⟨?_,?_⟩⟩
   ·rw[gnew _ (Nat.le_add_right _ _),qBP,show m+(e.nx+(i - m) - e.nx)=i by omega]
   ·show nm2 _=_
    rw[nnew _ (Nat.le_add_right _ _),show m+(e.nx+(i - m) - e.nx)=i by omega]
 refine⟨nm2,fun v vr hv=>qP.ren hv fun i _ hi=>hsame i hi,⟨fun o=>?_,fun o ho=>?_,?_,h.fix.go hframe hext.toM⟩,hframe,hext⟩
 ·by_cases hk:o∈ks
  ·by_cases hm:o∈ks.take m
   ·exact qS.ren (hh.obj (qz o (ks.take m))) (gin o hm) (nin o hm) fun r _ hr=>hsame r hr
   ·show qS e' w' o
    unfold qS;rw[gdead o hk hm];trivial
  ·rcases Nat.lt_or_ge o e.nx with ho | ho
   ·by_cases hd:(e.h.get o).shape=.dead
    ·have:e.h.get o=.dead:=by cases hq:e.h.get o<;>rw[hq] at hd<;>simp[Obj.shape] at hd
     show qS e' w' o
     unfold qS;rw[gout o hk ho,this];trivial
    ·have h1:=h.obj o
     have h2:qS e w' o:=qS.frame h1 hf.size fun b hb=>by
      refine hf.block b (qS.lt h1 hd hb) fun i hi hbi=>?_
      rcases Nat.lt_or_ge i ks.length with hi' | hi'
      ·have hg:ks[i]? = some ks[i]:=List.getElem?_eq_getElem hi'
       rw[qBv hg,qB3] at hi
       simp only[blk,qCS hg] at hbi
       exact h.apart ks[i] o b (fun e=>hk (e ▸ List.getElem_mem hi')) hi hd hbi hb
      ·rw[qE8 hi'] at hi;cases hi
     refine qS.ren (g:=id) h2 ?_ (nout o ho) fun r _ hr=>hext.same hr
     rw[gout o hk ho]
     cases e.h.get o<;>simp[Obj.ren,qCO]
   ·exact qS.ren (hh.obj (m+(o - e.nx))) (gnew o ho) (nnew o ho) fun r _ hr=>hsame r hr
 ·have:objs'.length<=m+(o - e.nx):=by
   have:e.nx+(objs'.length - m)<=o:=ho
   omega
  show e'.h.get o=.dead
  rw[gnew o (Nat.le_trans (Nat.le_add_right _ _) ho),show es.h.get (m+(o - e.nx))=.dead from hh.new _ this]
  rfl
 ·intro o o' x hne ho ho' hbx hbx'
  have src:∀ q,(e'.h.get q).shape≠.dead->(∃ i,e'.h.get q=(es.h.get i).ren (qAA e.nx (ks.take m)) /\ nm2 q=nm' i /\ (i<m->ks[i]? = some q) /\ (m<=i->q=e.nx+(i - m))) \/ (q ∉ ks /\ q<e.nx):=by
   intro q hq
   by_cases hk:q∈ks
   ·by_cases hm:q∈ks.take m
    ·exact .inl ⟨qz q (ks.take m),gin q hm,nin q hm,fun _=>kget q hm,fun hle=>by have:=qIA hm;omega⟩
    ·rw[gdead q hk hm] at hq;exact absurd rfl hq
   ·rcases Nat.lt_or_ge q e.nx with hq | hq
    ·exact .inr ⟨hk,hq⟩
    ·exact .inl ⟨m+(q - e.nx),gnew q hq,nnew q hq,fun hl=>by omega,fun _=>by omega⟩
  have hod:(e'.h.get o).shape≠.dead:=qCi ho
  have cross:∀ q i,nm2 q=nm' i->e'.h.get q=(es.h.get i).ren (qAA e.nx (ks.take m))->(i<m->ks[i]? = some q)->(e'.h.get q).shape≠.dead->blk nm2 q=some x->
    (w.heap.size<=x) \/ ∃ j,∃ hj:j<ks.length,(e.h.get ks[j]).shape≠.dead /\ blk e.nm ks[j]=some x /\ ((e'.h.get q).owned=true->(e.h.get ks[j]).owned=true):=by
   intro q i hnq hgq hkq hdq hbq
   rcases Nat.lt_or_ge i m with hi | hi
   ·obtain⟨o1,o2,o3⟩:=hx.old i hi
    have hg:ks[i]? = some ks[i]:=List.getElem?_eq_getElem (by omega)
    rw[qBv hg,qBP] at o2
    rw[qBv hg,qB3] at o3
    rw[hgq,qBP] at hdq
    refine .inr ⟨i,by omega,?_,?_,?_⟩
    ·rcases o2 with o2 | o2
     ·exact o2 ▸ hdq
     ·exact absurd o2 hdq
    ·simp only[blk] at hbq ⊢
     rw[hnq] at hbq
     have o1:nm' i=(qm e ks).nm i:=o1
     rw[o1,qCS hg] at hbq
     exact hbq
    ·rw[hgq,qB3];exact o3
   ·rw[hgq,qBP] at hdq
    have hbq':blk nm' i=some x:=by simp only[blk] at hbq ⊢;rw[<- hnq];exact hbq
    rcases back i x hi hdq hbq' with h1 | ⟨j,hj,h1,h2,h3⟩
    ·exact .inl h1
    ·exact .inr ⟨j,hj,h1,h2,fun hw=>h3 (by rw[hgq,qB3] at hw;exact hw)⟩
  rcases src o hod with⟨i,a1,a2,a3,a4⟩ | ⟨a1,a2⟩<;>rcases src o' ho' with⟨i',b1,b2,b3,b4⟩ | ⟨b1,b2⟩
  ·refine hh.apart i i' x (fun hii=>?_) (by rw[a1,qB3] at ho;exact ho) (by rw[b1,qBP] at ho';exact ho') (by simp only[blk] at hbx ⊢;rw[<- a2];exact hbx) (by simp only[blk] at hbx' ⊢;rw[<- b2];exact hbx')
   subst hii
   rcases Nat.lt_or_ge i m with hi | hi
   ·exact hne (Option.some.inj ((a3 hi).symm.trans (b3 hi)))
   ·exact hne ((a4 hi).trans (b4 hi).symm)
  ·rw[gout o' b1 b2] at ho'
   have hb':blk e.nm o'=some x:=by simp only[blk] at hbx' ⊢;rw[<- nout o' b2];exact hbx'
   rcases cross o i a2 a1 a3 hod hbx with h1 | ⟨j,hj,h1,h2,h3⟩
   ·have:=qS.lt (h.obj o') ho' hb';omega
   ·exact h.apart ks[j] o' x (fun e=>b1 (e ▸ List.getElem_mem hj)) (h3 ho) ho' h2 hb'
  ·rw[gout o a1 a2] at ho hod
   have hb:blk e.nm o=some x:=by simp only[blk] at hbx ⊢;rw[<- nout o a2];exact hbx
   rcases cross o' i' b2 b1 b3 ho' hbx' with h1 | ⟨j,hj,h1,h2,_⟩
   ·have:=qS.lt (h.obj o) hod hb;omega
   ·exact h.apart o ks[j] x (fun e=>a1 (e ▸ List.getElem_mem hj)) ho h1 hb h2
  ·rw[gout o a1 a2] at ho
   rw[gout o' b1 b2] at ho'
   exact h.apart o o' x hne ho ho' (by simp only[blk] at hbx ⊢;rw[<- nout o a2];exact hbx) (by simp only[blk] at hbx' ⊢;rw[<- nout o' b2];exact hbx')
theorem qVH {e:Env} {w w':World} {ks:List Nat} {nm':Nm} {objs':List Obj} {v:V} {vr:Value} (h:RelH e w) (hn:ks.Nodup) (hlt:∀ o∈ks,o<e.nx)
  (hlen:ks.length<=objs'.length) (hv:qP ⟨nm',qJ [] 0 objs',objs'.length⟩ v vr) (hh:RelH ⟨nm',qJ [] 0 objs',objs'.length⟩ w')
  (hf:Frame' (qm e ks) w w') (hx:Ext (qm e ks) ⟨nm',qJ [] 0 objs',objs'.length⟩ w):
  ∃ nm2:Nm,let e':Env:=⟨nm2,qJ ks e.nx (objs'.map (Obj.ren (qAA e.nx ks)))++e.h,e.nx+(objs'.length - ks.length)⟩;
    qP e' (v.ren (qAA e.nx ks)) vr /\ RelH e' w' /\ Frame' e w w' /\ Ext e e' w:=by
 obtain⟨nm2,h1,h2,h3,h4⟩:=qNv (m:=ks.length) h hn hlt (Nat.le_refl _) hlen hh hf hx.toM
 rw[List.take_length,List.drop_length] at h1 h2 h4
 exact⟨nm2,h1 v vr hv,h2,h3,h4⟩
theorem qZM {e:Env} {w w':World} {ks:List Nat} {nm':Nm} {old new:List Obj} {v:V} {vr:Value} (h:RelH e w) (hlt:∀ o∈ks,o<e.nx)
  (hlen:old.length=ks.length) (hlive:∀ x∈old,x.live=true) (hown:∀ x∈new,x.owned=true) (hro:∀ x∈(cut e.h ks).map Obj.toRO,x.owned=false)
  (hv:qP ⟨nm',qJ [] 0 (old++new),(old++new).length⟩ v vr) (hh:RelH ⟨nm',qJ [] 0 (old++new),(old++new).length⟩ w')
  (hf:Frame' ⟨(qm e ks).nm,qJ [] 0 ((cut e.h ks).map Obj.toRO),ks.length⟩ w w')
  (hx:Ext ⟨(qm e ks).nm,qJ [] 0 ((cut e.h ks).map Obj.toRO),ks.length⟩ ⟨nm',qJ [] 0 (old++new),(old++new).length⟩ w):
  ∃ nm2:Nm,let e':Env:=⟨nm2,qJ [] e.nx (new.map (Obj.ren (qAA e.nx ks)))++e.h,e.nx+new.length⟩;
    qP e' (v.ren (qAA e.nx ks)) vr /\ RelH e' w' /\ Frame' e w w' /\ Ext e e' w:=by
 let nm2:Nm:=fun q=>if q<e.nx then e.nm q else nm' (ks.length+(q - e.nx))
 let e':Env:=⟨nm2,qJ [] e.nx (new.map (Obj.ren (qAA e.nx ks)))++e.h,e.nx+new.length⟩
 have noown:∀ o,(Hp.get (qJ [] 0 ((cut e.h ks).map Obj.toRO)) o).owned=false:=by
  intro o
  rw[qBe]
  cases hq:((cut e.h ks).map Obj.toRO)[o]? with
  | none=>rfl
  | some x=>exact hro x (List.mem_of_getElem? hq)
 have same:∀ k,k<w.heap.size->w'.heap[k]? = w.heap[k]?:=fun k hk=>hf.block k hk fun o ho=>by
  have ho:(Hp.get (qJ [] 0 ((cut e.h ks).map Obj.toRO)) o).owned=true:=ho
  rw[noown o] at ho;cases ho
 have gold:∀ q,q<e.nx->e'.h.get q=e.h.get q:=fun q hq=>by
  show Hp.get (_++e.h) q=_
  rw[qu,qKu,if_neg (by omega)]
 have gnew:∀ j x,new[j]? = some x->e'.h.get (e.nx+j)=x.ren (qAA e.nx ks):=fun j x hj=>by
  show Hp.get (_++e.h) _=_
  rw[qu,qKu,if_pos (by omega),show e.nx+j - e.nx=j by omega,List.getElem?_map,hj]
  rfl
 have gend:∀ q,e.nx+new.length<=q->e'.h.get q=.dead:=fun q hq=>by
  show Hp.get (_++e.h) _=_
  rw[qu,qKu,if_pos (by omega),List.getElem?_eq_none (by simp;omega)]
  exact h.new q (by omega)
 have gcal:∀ i,(Env.h ⟨nm',qJ [] 0 (old++new),(old++new).length⟩).get i=((old++new)[i]?).getD .dead:=fun i=>qBe _ i
 have gcn:∀ j x,new[j]? = some x->(Env.h ⟨nm',qJ [] 0 (old++new),(old++new).length⟩).get (ks.length+j)=x:=fun j x hj=>by
  rw[gcal,List.getElem?_append_right (by omega),hlen,show ks.length+j - ks.length=j by omega,hj];rfl
 have sm:∀ i,i<(old++new).length->qA3 ⟨nm',qJ [] 0 (old++new),(old++new).length⟩ e' (qAA e.nx ks) i:=by
  intro i hi
  rcases Nat.lt_or_ge i ks.length with hik | hik
  ·have ho:ks[i]? = some ks[i]:=List.getElem?_eq_getElem hik
   have hol:=hlt ks[i] (List.mem_of_getElem? ho)
   refine⟨?_,.inr ⟨?_,?_⟩⟩
   ·rw[qJ8 ho];show ks[i]<e.nx+new.length;omega
   ·rw[qJ8 ho,gold _ hol]
    have hs:=(hx.old i hik).2.1
    have hd:(Env.h ⟨nm',qJ [] 0 (old++new),(old++new).length⟩).get i=old[i]:=by
     rw[gcal,List.getElem?_append_left (by omega),List.getElem?_eq_getElem (by omega)];rfl
    have hro':(Env.h ⟨(qm e ks).nm,qJ [] 0 ((cut e.h ks).map Obj.toRO),ks.length⟩).get i=((e.h.get ks[i]).ren (fun x=>qz x ks)).toRO:=by
     show Hp.get (qJ [] 0 _) i=_
     rw[qBe,List.getElem?_map]
     simp[cut,ho]
    rcases hs with hs | hs
    ·rw[hro',qM8,qBP] at hs
     exact hs.symm
    ·rw[hd] at hs
     have:=hlive old[i] (List.getElem_mem _)
     cases hz:old[i]<;>rw[hz] at hs this<;>simp[Obj.shape] at hs
     cases this
   ·rw[qJ8 ho]
    show nm2 ks[i]=nm' i
    have:=(hx.old i hik).1
    have this:nm' i=(qm e ks).nm i:=this
    rw[this,qCS ho]
    simp only[nm2];rw[if_pos hol]
  ·have hij:i - ks.length<new.length:=by rw[List.length_append] at hi;omega
   have hj:new[i - ks.length]? = some new[i - ks.length]:=List.getElem?_eq_getElem hij
   have hik2:ks.length+(i - ks.length)=i:=by omega
   refine⟨?_,.inr ⟨?_,?_⟩⟩
   ·rw[qL1 hik];show e.nx+(i - ks.length)<e.nx+new.length;omega
   ·rw[qL1 hik,gnew _ _ hj,qBP]
    have:=gcn _ _ hj
    rw[hik2] at this
    rw[this]
   ·rw[qL1 hik]
    show nm2 (e.nx+(i - ks.length))=nm' i
    simp only[nm2]
    rw[if_neg (by omega),show ks.length+(e.nx+(i - ks.length) - e.nx)=i by omega]
 have newblk:∀ j x b,new[j]? = some x->blk nm2 (e.nx+j)=some b->w.heap.size<=b:=by
  intro j x b hj hb
  have hb:blk nm' (ks.length+j)=some b:=by
   simp only[blk,nm2] at hb ⊢
   rw[if_neg (by omega),show ks.length+(e.nx+j - e.nx)=ks.length+j by omega] at hb
   exact hb
  have hxo:=hown x (List.mem_of_getElem? hj)
  rcases hx.own (ks.length+j) b (by show ks.length<=_;omega) (by rw[gcn j x hj];exact qCi hxo) hb with h1 | ⟨o',h1,h2,h3⟩
  ·exact h1
  ·have:=h3 (by rw[gcn j x hj];exact hxo)
   have this:(Hp.get (qJ [] 0 ((cut e.h ks).map Obj.toRO)) o').owned=true:=this
   rw[noown o'] at this;cases this
 have hext:Ext e e' w:=by
  refine⟨Nat.le_add_right _ _,fun q hq=>⟨?_,?_⟩,fun q b hq hd hb=>.inl ?_⟩
  ·show nm2 q=_
   simp only[nm2];rw[if_pos hq]
  ·rw[gold q hq];exact⟨.inl rfl,id⟩
  ·rcases Nat.lt_or_ge (q - e.nx) new.length with hq2 | hq2
   ·have hj:new[q - e.nx]? = some new[q - e.nx]:=List.getElem?_eq_getElem hq2
    exact newblk _ _ b hj (by rw[show e.nx+(q - e.nx)=q by omega];exact hb)
   ·rw[gend q (by omega)] at hd;exact absurd rfl hd
 have hframe:Frame' e w w':=⟨hf.os,hf.tape,hf.output,hf.size,fun k hk _=>same k hk⟩
 refine⟨nm2,qP.ren hv fun o ho hlo=>sm o hlo,⟨fun q=>?_,fun q hq=>gend q hq,fun q q' y hne hq hq' hy hy'=>?_,h.fix.go hframe hext.toM⟩,hframe,hext⟩
 ·rcases Nat.lt_or_ge q e.nx with hq | hq
  ·by_cases hd:(e.h.get q).shape=.dead
   ·have:e.h.get q=.dead:=by cases hz:e.h.get q<;>rw[hz] at hd<;>simp[Obj.shape] at hd
    have:e'.h.get q=.dead:=by rw[gold q hq,this]
    show qS e' w' q
    unfold qS
    rw[this];trivial
   ·have h2:qS e w' q:=qS.frame (h.obj q) hf.size fun b hb=>same b (qS.lt (h.obj q) hd hb)
    refine qS.ren (g:=id) h2 ?_ ?_ fun r _ hr=>hext.same hr
    ·show e'.h.get q=_
     rw[gold q hq]
     cases e.h.get q<;>simp[Obj.ren,qCO]
    ·show nm2 q=_
     simp only[nm2];rw[if_pos hq]
  ·rcases Nat.lt_or_ge (q - e.nx) new.length with hq2 | hq2
   ·have hj:new[q - e.nx]? = some new[q - e.nx]:=List.getElem?_eq_getElem hq2
    have hq3:e.nx+(q - e.nx)=q:=by omega
    have g1:=gnew _ _ hj
    rw[hq3] at g1
    refine qS.ren (g:=qAA e.nx ks) (hh.obj (ks.length+(q - e.nx))) ?_ ?_ fun r hr hlr=>sm r hlr
    ·rw[gcn _ _ hj];exact g1
    ·show nm2 q=_
     simp only[nm2];rw[if_neg (by omega)]
   ·show qS e' w' q
    unfold qS
    rw[gend q (by omega)];trivial
 ·have low:∀ q,q<e.nx->blk nm2 q=blk e.nm q:=fun q hq=>by simp only[blk,nm2];rw[if_pos hq]
  have inn:∀ q,e.nx<=q->(e'.h.get q).shape≠.dead->q - e.nx<new.length:=fun q hq hd=>by
   rcases Nat.lt_or_ge (q - e.nx) new.length with h1 | h1
   ·exact h1
   ·rw[gend q (by omega)] at hd;exact absurd rfl hd
  have hq0:(e'.h.get q).owned=true:=hq
  have hq0':(e'.h.get q').shape≠.dead:=hq'
  have hy0:blk nm2 q=some y:=hy
  have hy0':blk nm2 q'=some y:=hy'
  rcases Nat.lt_or_ge q e.nx with a | a<;>rcases Nat.lt_or_ge q' e.nx with b | b
  ·rw[gold q a] at hq0
   rw[gold q' b] at hq0'
   rw[low q a] at hy0
   rw[low q' b] at hy0'
   exact h.apart q q' y hne hq0 hq0' hy0 hy0'
  ·have hj:=List.getElem?_eq_getElem (inn q' b hq0')
   have h1:=newblk _ _ y hj (by rw[show e.nx+(q' - e.nx)=q' by omega];exact hy0')
   rw[gold q a] at hq0
   rw[low q a] at hy0
   have:=qS.lt (h.obj q) (qCi hq0) hy0
   omega
  ·have hj:=List.getElem?_eq_getElem (inn q a (qCi hq0))
   have h1:=newblk _ _ y hj (by rw[show e.nx+(q - e.nx)=q by omega];exact hy0)
   rw[gold q' b] at hq0'
   rw[low q' b] at hy0'
   have:=qS.lt (h.obj q') hq0' hy0'
   omega
  ·have hj:=List.getElem?_eq_getElem (inn q a (qCi hq0))
   have hj':=List.getElem?_eq_getElem (inn q' b hq0')
   have conv:∀ q,e.nx<=q->blk nm2 q=blk nm' (ks.length+(q - e.nx)):=fun q hq=>by simp only[blk,nm2];rw[if_neg (by omega)]
   rw[conv q a] at hy0
   rw[conv q' b] at hy0'
   refine hh.apart (ks.length+(q - e.nx)) (ks.length+(q' - e.nx)) y (by omega) ?_ ?_ hy0 hy0'
   ·rw[gcn _ _ hj]
    have g1:=gnew _ _ hj
    rw[show e.nx+(q - e.nx)=q by omega] at g1
    rw[g1,qB3] at hq0
    exact hq0
   ·rw[gcn _ _ hj']
    have g1:=gnew _ _ hj'
    rw[show e.nx+(q' - e.nx)=q' by omega] at g1
    rw[g1,qBP] at hq0'
    exact hq0'
theorem qRx {nm:Nm} {objs:List Obj} {w:World} (h:RelH ⟨nm,qJ [] 0 objs,objs.length⟩ w) (hro:∀ x∈objs.map Obj.toRO,x.owned=false):RelH ⟨nm,qJ [] 0 (objs.map Obj.toRO),objs.length⟩ w:=by
 have hget:∀ o,Hp.get (qJ [] 0 (objs.map Obj.toRO)) o=(Hp.get (qJ [] 0 objs) o).toRO:=fun o=>by
  rw[qBe,qBe,List.getElem?_map]
  cases objs[o]? <;> rfl
 have hsame:∀ o,o<objs.length->qA3 ⟨nm,qJ [] 0 objs,objs.length⟩ ⟨nm,qJ [] 0 (objs.map Obj.toRO),objs.length⟩ id o:=fun o ho=>
  ⟨ho,.inr ⟨by show (Hp.get _ o).shape=_;rw[hget,qM8],rfl⟩⟩
 refine⟨fun o=>?_,fun o ho=>?_,fun o o' x hne ho=>?_,h.fix.sub fun o ho=>?_⟩
 ·have h1:=h.obj o
  unfold qS at h1 ⊢
  dsimp only at h1 ⊢
  rw[hget o]
  cases hx:Hp.get (qJ [] 0 objs) o with
  | dead=>trivial
  | cells t l=>
    rw[hx] at h1
    obtain⟨a1,b,arr,a2,a3,a4⟩:=h1
    refine⟨a1,b,arr,a2,a3,?_⟩
    have:=qG6 (g:=id) a4 fun r _ hr=>hsame r hr
    rwa [qCO] at this
  | rcells t l=>
    rw[hx] at h1
    obtain⟨a1,b,arr,a2,a3,a4⟩:=h1
    refine⟨a1,b,arr,a2,a3,?_⟩
    have:=qG6 (g:=id) a4 fun r _ hr=>hsame r hr
    rwa [qCO] at this
  | sli t ro g=>
    rw[hx] at h1
    cases ro with
    | true=>exact h1
    | false=>
      obtain⟨a1,a2⟩:=h1
      refine⟨a1,?_⟩
      cases hn:nm o with
      | none=>rw[hn] at a2;exact a2
      | some q=>
        obtain⟨b,off,cap⟩:=q
        rw[hn] at a2
        simp only at a2 ⊢
        obtain⟨rfl,arr,b2,b3,b4,b5,b6⟩:=a2
        refine⟨(Array.getElem?_eq_some_iff.1 b2).1,Nat.le_trans b4 b5,fun j s hj=>?_⟩
        obtain⟨u,hu,hr⟩:=qC.get j b6 hj
        refine⟨u,?_,hr⟩
        rw[List.getElem?_take] at hu
        split at hu
        ·simp only[World.cell?,b2,Nat.zero_add]
         simpa using hu
        ·cases hu
  | map kks vks es=>rw[hx] at h1;exact h1
  | iter s pos=>rw[hx] at h1;exact h1
 ·show Hp.get _ o=_
  have:=h.new o ho
  rw[hget o,show Hp.get (qJ [] 0 objs) o=.dead from this];rfl
 ·have ho:(Hp.get (qJ [] 0 (objs.map Obj.toRO)) o).owned=true:=ho
  rw[qBe] at ho
  cases hq:(objs.map Obj.toRO)[o]? with
  | none=>rw[hq] at ho;cases ho
  | some y=>rw[hq] at ho;rw[show (some y).getD Obj.dead=y from rfl,hro y (List.mem_of_getElem? hq)] at ho;cases ho
 ·have ho:(Hp.get (qJ [] 0 (objs.map Obj.toRO)) o).owned=true:=ho
  rw[qBe] at ho
  cases hq:(objs.map Obj.toRO)[o]? with
  | none=>rw[hq] at ho;cases ho
  | some y=>rw[hq] at ho;rw[show (some y).getD Obj.dead=y from rfl,hro y (List.mem_of_getElem? hq)] at ho;cases ho
theorem qRy {nm:Nm} {objs:List Obj} {x:V} {v:Value} (h:qP ⟨nm,qJ [] 0 objs,objs.length⟩ x v):qP ⟨nm,qJ [] 0 (objs.map Obj.toRO),objs.length⟩ x v:=by
 have hget:∀ o,Hp.get (qJ [] 0 (objs.map Obj.toRO)) o=(Hp.get (qJ [] 0 objs) o).toRO:=fun o=>by
  rw[qBe,qBe,List.getElem?_map]
  cases objs[o]? <;> rfl
 have:=qP.ren (g:=id) (e2:=⟨nm,qJ [] 0 (objs.map Obj.toRO),objs.length⟩) h fun o _ ho=>⟨ho,.inr ⟨by show (Hp.get _ o).shape=_;rw[hget,qM8],rfl⟩⟩
 rwa [V.ren_id] at this
theorem qng {e:Env} {w w':World} {ks:List Nat} {nm':Nm} {old:List Obj} {v:V} {vr:Value} {g:Nat->Nat} (h:RelH e w) (hlt:∀ o∈ks,o<e.nx) (hg:∀ i o,ks[i]? = some o->g i=o)
  (hlen:old.length=ks.length) (hlive:∀ x∈old,x.live=true) (hro:∀ x∈(cut e.h ks).map Obj.toRO,x.owned=false)
  (hv:qP ⟨nm',qJ [] 0 old,old.length⟩ v vr)
  (hf:Frame' ⟨(qm e ks).nm,qJ [] 0 ((cut e.h ks).map Obj.toRO),ks.length⟩ w w')
  (hx:Ext ⟨(qm e ks).nm,qJ [] 0 ((cut e.h ks).map Obj.toRO),ks.length⟩ ⟨nm',qJ [] 0 old,old.length⟩ w):
  qP e (v.ren g) vr /\ RelH e w' /\ Frame' e w w' /\ Ext e e w:=by
 have noown:∀ o,(Hp.get (qJ [] 0 ((cut e.h ks).map Obj.toRO)) o).owned=false:=by
  intro o
  rw[qBe]
  cases hq:((cut e.h ks).map Obj.toRO)[o]? with
  | none=>rfl
  | some x=>exact hro x (List.mem_of_getElem? hq)
 have same:∀ k,k<w.heap.size->w'.heap[k]? = w.heap[k]?:=fun k hk=>hf.block k hk fun o ho=>by
  have ho:(Hp.get (qJ [] 0 ((cut e.h ks).map Obj.toRO)) o).owned=true:=ho
  rw[noown o] at ho;cases ho
 have sm:∀ i,i<old.length->qA3 ⟨nm',qJ [] 0 old,old.length⟩ e g i:=by
  intro i hi
  have hik:i<ks.length:=by omega
  have ho:ks[i]? = some ks[i]:=List.getElem?_eq_getElem hik
  rw[show qA3 ⟨nm',qJ [] 0 old,old.length⟩ e g i=(g i<e.nx /\ ((e.h.get (g i)).shape=.dead \/ ((e.h.get (g i)).shape=((Env.h ⟨nm',qJ [] 0 old,old.length⟩).get i).shape /\ e.nm (g i)=nm' i))) from rfl,hg i _ ho]
  refine⟨hlt _ (List.mem_of_getElem? ho),.inr ⟨?_,?_⟩⟩
  ·have hs:=(hx.old i hik).2.1
   have hd:(Env.h ⟨nm',qJ [] 0 old,old.length⟩).get i=old[i]:=by
    show Hp.get (qJ [] 0 old) i=_
    rw[qBe,List.getElem?_eq_getElem hi];rfl
   have hro':(Env.h ⟨(qm e ks).nm,qJ [] 0 ((cut e.h ks).map Obj.toRO),ks.length⟩).get i=((e.h.get ks[i]).ren (fun x=>qz x ks)).toRO:=by
    show Hp.get (qJ [] 0 _) i=_
    rw[qBe,List.getElem?_map]
    simp[cut,ho]
   rcases hs with hs | hs
   ·rw[hro',qM8,qBP] at hs
    exact hs.symm
   ·rw[hd] at hs
    have:=hlive old[i] (List.getElem_mem _)
    cases hz:old[i]<;>rw[hz] at hs this<;>simp[Obj.shape] at hs
    cases this
  ·have:=(hx.old i hik).1
   have this:nm' i=(qm e ks).nm i:=this
   rw[this,qCS ho]
 have hframe:Frame' e w w':=⟨hf.os,hf.tape,hf.output,hf.size,fun k hk _=>same k hk⟩
 refine⟨qP.ren hv fun o _ hlo=>sm o hlo,⟨fun q=>?_,h.new,h.apart,h.fix.go hframe (Ext.refl h).toM⟩,hframe,Ext.refl h⟩
 by_cases hd:(e.h.get q).shape=.dead
 ·have:e.h.get q=.dead:=by cases hz:e.h.get q<;>rw[hz] at hd<;>simp[Obj.shape] at hd
  unfold qS
  rw[this];trivial
 ·exact qS.frame (h.obj q) hf.size fun b hb=>same b (qS.lt (h.obj q) hd hb)
end Go.Kk
