/-
 Lists of cells: what the pieces of a value are, laid out cell by cell; what reading and writing come to there. No program in sight.
-/
import Derived.Test.YthklalefbhbhmaaGreatDoorKkE
namespace Go.Kk
def qB {α β:Type} (R:α->β->Prop):List α->List β->Prop
 | [],[]=>True
 | a :: r,b :: t=>R a b /\ qB R r t
 | _,_=>False
section
variable {α β:Type} {R:α->β->Prop}
theorem qB.length:∀ {l:List α} {m:List β},qB R l m->l.length=m.length
 | [],[],_=>rfl
 | _ :: _,_ :: _,h=>by simp[qB.length h.2]
 | [],_ :: _,h=>h.elim
 | _ :: _,[],h=>h.elim
theorem qB.append:∀ {l:List α} {m:List β} {l':List α} {m':List β},qB R l m->qB R l' m'->qB R (l++l') (m++m')
 | [],[],_,_,_,h'=>h'
 | _ :: _,_ :: _,_,_,h,h'=>⟨h.1,qB.append h.2 h'⟩
 | [],_ :: _,_,_,h,_=>h.elim
 | _ :: _,[],_,_,h,_=>h.elim
theorem qB.take:∀ {l:List α} {m:List β} (n:Nat),qB R l m->qB R (l.take n) (m.take n)
 | [],[],n,_=>by simp[qB]
 | _ :: _,_ :: _,0,_=>by simp[qB]
 | _ :: _,_ :: _,n+1,h=>by simpa[qB] using ⟨h.1,qB.take n h.2⟩
 | [],_ :: _,_,h=>h.elim
 | _ :: _,[],_,h=>h.elim
theorem qB.drop:∀ {l:List α} {m:List β} (n:Nat),qB R l m->qB R (l.drop n) (m.drop n)
 | [],[],n,_=>by simp[qB]
 | _ :: _,_ :: _,0,h=>by simpa using h
 | _ :: _,_ :: _,n+1,h=>by simpa using qB.drop n h.2
 | [],_ :: _,_,h=>h.elim
 | _ :: _,[],_,h=>h.elim
theorem qB.get:∀ {l:List α} {m:List β} (n:Nat) {x:α},qB R l m->l[n]? = some x->∃ y,m[n]? = some y /\ R x y
 | a :: _,b :: _,0,x,h,hx=>by simp at hx;subst hx;exact⟨b,by simp,h.1⟩
 | _ :: _,_ :: _,n+1,x,h,hx=>by
   obtain⟨y,hy,hr⟩:=qB.get n h.2 (by simpa using hx)
   exact⟨y,by simpa using hy,hr⟩
 | [],[],_,_,_,hx=>by simp at hx
 | [],_ :: _,_,_,h,_=>h.elim
 | _ :: _,[],_,_,h,_=>h.elim
theorem qB.mono {R':α->β->Prop} (hr:∀ a b,R a b->R' a b):∀ {l:List α} {m:List β},qB R l m->qB R' l m
 | [],[],_=>trivial
 | _ :: _,_ :: _,h=>⟨hr _ _ h.1,qB.mono hr h.2⟩
 | [],_ :: _,h=>h.elim
 | _ :: _,[],h=>h.elim
theorem qB.mono_mem {R':α->β->Prop}:∀ {l:List α} {m:List β},(∀ a b,a∈l->R a b->R' a b)->qB R l m->qB R' l m
 | [],[],_,_=>trivial
 | a :: r,b :: t,hr,h=>⟨hr _ _ (by simp) h.1,qB.mono_mem (fun x y hx=>hr x y (by simp[hx])) h.2⟩
 | [],_ :: _,_,h=>h.elim
 | _ :: _,[],_,h=>h.elim
theorem qB.map_left {γ:Type} {f:γ->α}:∀ {l:List γ} {m:List β},qB (fun x y=>R (f x) y) l m->qB R (l.map f) m
 | [],[],_=>trivial
 | _ :: _,_ :: _,h=>⟨h.1,qB.map_left h.2⟩
 | [],_ :: _,h=>h.elim
 | _ :: _,[],h=>h.elim
end
def qp:List Shp->Nat
 | []=>0
 | a :: r=>a.size+qp r
def qX (l:List Shp) (sg:Nat) (row:Option (Nat×Nat)) (col:Nat):Nat:=
 qp (l.take sg)+match row with
  | none=>col
  | some (j,_)=>j*((l[sg]?).map Shp.width).getD 0+col
def qGX (l:List Shp) (sg:Nat) (row:Option (Nat×Nat)) (col:Nat):Prop:=match row with
 | none=>True
 | some (j,lim)=>1<=lim /\ ∃ w n,l[sg]? = some (.tbl w n) /\ j+lim<=n /\ col<w
def qFr (c:CK) (x:Int):Prop:=match c with
 | .i k=>k.wrap x=x
 | .b=>x=0 \/ x=1
 | .s=>qBL (qBK x)=x
theorem qUq:∀ (l:List UInt8) (f:Nat),qCb l<=f->qIv f (qCb l)=l
 | [],f,_=>by cases f<;>rfl
 | b :: r,f,h=>by
   have hb:b.toNat<256:=UInt8.toNat_lt b
   cases f with
   | zero=>simp[qCb] at h
   | succ f=>
     have e:qCb (b :: r)=(qCb r*256+b.toNat)+1:=by simp only[qCb];omega
     rw[e] at h ⊢
     simp only[qIv]
     have e1:(qCb r*256+b.toNat) % 256=b.toNat:=by omega
     have e2:(qCb r*256+b.toNat) / 256=qCb r:=by omega
     rw[e1,e2,qUq r f (by omega)]
     simp
theorem qHB (s:ByteArray):qBK (qBL s)=s:=by
 unfold qBK qBL
 show (⟨(qIv (qCb s.data.toList) (qCb s.data.toList)).toArray⟩:ByteArray)=s
 rw[qUq _ _ (Nat.le_refl _)]
theorem qNy (s:ByteArray):qBL (qBK (qBL s))=qBL s:=by rw[qHB]
theorem qMv (s t:ByteArray):(s==t)=decide (s=t):=by
 cases s with
 | mk a=>
   cases t with
   | mk b=>
     show (a==b)=_
     rw[Bool.eq_iff_iff]
     simp
theorem qVE (s t:ByteArray):(qBL s==qBL t)=(s==t):=by
 rw[qMv]
 by_cases h:s=t
 ·subst h;simp
 ·have:qBL s≠qBL t:=fun e=>h (by rw[<- qHB s,e,qHB])
  rw[beq_eq_false_iff_ne.2 this,decide_eq_false h]
def qq (ks:List CK) (r:List Int):Prop:=qB qFr ks r
def Seg.ok:Seg->Prop
 | .one _=>True
 | .arr k n l=>l.length=n /\ ∀ x∈l,k.wrap x=x
 | .barr n l=>l.length=n
 | .rows ks n xs=>xs.length=n /\ ∀ r∈xs,qq ks r
def Seg.flat:Seg->List S
 | .one vs=>vs
 | .arr k _ l=>l.map (S.i k)
 | .barr _ l=>l.map S.b
 | .rows ks _ xs=>xs.flatMap (mks ks)
def qc (l:List Seg):List S:=l.flatMap Seg.flat
def oks (l:List Seg):Prop:=∀ g∈l,g.ok
def qU (l:List Seg):List Shp:=l.map Seg.shp
@[simp] theorem flats_nil:qc []=[]:=rfl
@[simp] theorem flats_cons (g:Seg) (l:List Seg):qc (g :: l)=g.flat++qc l:=rfl
theorem qE1 (a b:List Seg):qc (a++b)=qc a++qc b:=by simp[qc]
@[simp] theorem shps_nil:qU []=[]:=rfl
@[simp] theorem shps_cons (g:Seg) (l:List Seg):qU (g :: l)=g.shp :: qU l:=rfl
theorem qMH (a b:List Seg):qU (a++b)=qU a++qU b:=by simp[qU]
theorem qCT:oks []:=fun _ h=>by cases h
theorem qAV {g:Seg} {l:List Seg}:oks (g :: l)↔g.ok /\ oks l:=by simp[oks]
theorem qYh {a b:List Seg}:oks (a++b)↔oks a /\ oks b:=by
 simp only[oks,List.mem_append]
 exact⟨fun h=>⟨fun g hg=>h g (.inl hg),fun g hg=>h g (.inr hg)⟩,fun h g hg=>hg.elim (h.1 g) (h.2 g)⟩
theorem qDL {ks:List CK} {r:List Int} (h:qq ks r):r.length=ks.length:=(qB.length h).symm
theorem qBP (ks:List CK):∀ r,(mks ks r).length=ks.length:=by
 induction ks with
 | nil=>intro r;rfl
 | cons c cs ih=>intro r;simp[mks,ih]
theorem qVU (ks:List CK) (xs:List (List Int)):(xs.flatMap (mks ks)).length=xs.length*ks.length:=by
 induction xs with
 | nil=>simp
 | cons x xs ih=>simp[ih,qBP,Nat.add_mul];omega
theorem Seg.flat_length {g:Seg} (h:g.ok):g.flat.length=g.shp.size:=by
 cases g with
 | one vs=>rfl
 | arr k n l=>simp[Seg.flat,Seg.shp,Shp.size,h.1]
 | barr n l=>simp only[Seg.ok] at h;simp[Seg.flat,Seg.shp,Shp.size,h]
 | rows ks n xs=>simp only[Seg.flat,Seg.shp,Shp.size];rw[qVU,h.1]
theorem qHH {l:List Seg} (h:oks l):(qc l).length=qp (qU l):=by
 induction l with
 | nil=>rfl
 | cons g l ih=>
   have h:=qAV.1 h
   simp[qp,Seg.flat_length h.1,ih h.2]
theorem qqN (a b:List Shp):qp (a++b)=qp a+qp b:=by
 induction a with
 | nil=>simp[qp]
 | cons x a ih=>simp[qp,ih];omega
theorem qML {α:Type} {l:List α} {n:Nat} {g:α} (h:l[n]? = some g):l=l.take n++g :: l.drop (n+1):=by
 have hlt:n<l.length:=by
  rcases Nat.lt_or_ge n l.length with h' | h'
  ·exact h'
  ·rw[List.getElem?_eq_none h'] at h;cases h
 have hg:l[n]=g:=by rw[List.getElem?_eq_getElem hlt] at h;exact Option.some.inj h
 conv=>lhs;rw[<- List.take_append_drop n l,List.drop_eq_getElem_cons hlt,hg]
theorem getElem?_lt {α:Type} {l:List α} {n:Nat} {g:α} (h:l[n]? = some g):n<l.length:=by
 rcases Nat.lt_or_ge n l.length with h' | h'
 ·exact h'
 ·rw[List.getElem?_eq_none h'] at h;cases h
theorem qKc {l:List Seg} {n:Nat} {g:Seg} (h:l[n]? = some g):qc l=qc (l.take n)++(g.flat++qc (l.drop (n+1))):=by
 conv=>lhs;rw[qML h,qE1,flats_cons]
theorem qLO {l:List Seg} (n:Nat) (h:oks l):oks (l.take n):=fun g hg=>h g (List.mem_of_mem_take hg)
theorem qPw {l:List Seg} (n:Nat) (h:oks l):oks (l.drop n):=fun g hg=>h g (List.mem_of_mem_drop hg)
theorem qAx {l:List Seg} {n:Nat} {g:Seg} (h:oks l) (hg:l[n]? = some g):g.ok:=h g (List.mem_of_getElem? hg)
theorem qch (l:List Seg) (n:Nat):qU (l.take n)=(qU l).take n:=by simp[qU]
theorem qFy {l:List Seg} (n:Nat) (h:oks l):(qc (l.take n)).length=qp ((qU l).take n):=by
 rw[qHH (qLO n h),qch]
def sub {α:Type} (l:List α) (off n:Nat):List α:=(l.drop off).take n
theorem qSm {α:Type} (a b:List α) (k n:Nat):sub (a++b) (a.length+k) n=sub b k n:=by
 unfold sub
 rw[List.drop_append,List.drop_eq_nil_of_le (by omega)]
 simp
theorem qSl {α:Type} (a b:List α) (k n:Nat) (h:k+n<=a.length):sub (a++b) k n=sub a k n:=by
 unfold sub
 rw[List.drop_append,List.take_append]
 have:n - (a.drop k).length=0:=by simp;omega
 rw[this]
 simp
theorem qdK {α:Type} (a:List α):sub a 0 a.length=a:=by simp[sub]
def over {α:Type} (l:List α) (off:Nat) (new:List α):List α:=l.take off++new++l.drop (off+new.length)
theorem qHk {α:Type} (a b:List α) (k:Nat) (new:List α):over (a++b) (a.length+k) new=a++over b k new:=by
 unfold over
 rw[List.take_append,List.take_of_length_le (by omega),List.drop_append]
 rw[List.drop_eq_nil_of_le (as:=a) (by omega),show a.length+k - a.length=k by omega,show a.length+k+new.length - a.length=k+new.length by omega]
 simp
theorem qPz {α:Type} (a b:List α) (k:Nat) (new:List α) (h:k+new.length<=a.length):over (a++b) k new=over a k new++b:=by
 unfold over
 rw[List.take_append,List.drop_append]
 have h1:k - a.length=0:=by omega
 have h2:k+new.length - a.length=0:=by omega
 simp[h1,h2]
theorem qlh {α:Type} (a:List α) (k:Nat) (new:List α) (h:k+new.length<=a.length):(over a k new).length=a.length:=by
 simp[over];omega
theorem qlg {α:Type} (a new:List α) (h:new.length=a.length):over a 0 new=new:=by
 simp[over,h]
section
variable {γ δ:Type} {f:γ->List δ} {w:Nat}
theorem qVW (xs:List γ) (hf:∀ x∈xs,(f x).length=w) (j:Nat) (hj:j<=xs.length):((xs.take j).flatMap f).length=j*w:=by
 induction xs generalizing j with
 | nil=>simp at hj;subst hj;simp
 | cons x xs ih=>
   cases j with
   | zero=>simp
   | succ j=>
     have:=ih (fun y hy=>hf y (by simp[hy])) j (by simpa using hj)
     simp only[List.take_succ_cons,List.flatMap_cons,List.length_append,this,hf x (by simp)]
     rw[Nat.add_mul];omega
theorem qVV (xs:List γ) (j:Nat) (x:γ) (hx:xs[j]? = some x):xs.flatMap f=(xs.take j).flatMap f++(f x++(xs.drop (j+1)).flatMap f):=by
 conv=>lhs;rw[qML hx,List.flatMap_append,List.flatMap_cons]
theorem qhD (xs:List γ) (hf:∀ x∈xs,(f x).length=w) (j:Nat) (x:γ) (hx:xs[j]? = some x) (col n:Nat) (h:col+n<=w):
  sub (xs.flatMap f) (j*w+col) n=sub (f x) col n:=by
 have hl:=qVW (f:=f) xs hf j (Nat.le_of_lt (getElem?_lt hx))
 rw[qVV xs j x hx,<- hl,qSm,qSl]
 rw[hf x (List.mem_of_getElem? hx)];exact h
theorem qSS {α:Type} (xs:List α) (j:Nat) (y:α) (h:j<xs.length):xs.set j y=xs.take j++y :: xs.drop (j+1):=List.set_eq_take_append_cons_drop.trans (by simp[h])
theorem qhB (xs:List γ) (hf:∀ x∈xs,(f x).length=w) (j:Nat) (x y:γ) (hx:xs[j]? = some x) (col:Nat) (new:List δ) (h:col+new.length<=w)
  (hy:f y=over (f x) col new):over (xs.flatMap f) (j*w+col) new=(xs.set j y).flatMap f:=by
 have hlt:=getElem?_lt hx
 have hl:=qVW (f:=f) xs hf j (Nat.le_of_lt hlt)
 rw[qVV xs j x hx,<- hl,qHk,qPz _ _ _ _ (by rw[hf x (List.mem_of_getElem? hx)];exact h),<- hy,qSS xs j y hlt,List.flatMap_append,List.flatMap_cons]
end
theorem qF7 (a b:List CK):∀ r,mks (a++b) r=mks a r++mks b (r.drop a.length):=by
 induction a with
 | nil=>intro r;simp[mks]
 | cons c a ih=>intro r;simp[mks,ih]
theorem qF9 (a:List CK):∀ r n,a.length<=n->mks a (r.take n)=mks a r:=by
 induction a with
 | nil=>intro r n _;rfl
 | cons c a ih=>
   intro r n hn
   cases r with
   | nil=>simp
   | cons x r=>
     cases n with
     | zero=>simp at hn
     | succ n=>simp[mks,ih r n (by simpa using hn)]
theorem qLF (ks:List CK) (r:List Int) (col n:Nat):sub (mks ks r) col n=mks (sub ks col n) (r.drop col):=by
 have h1:mks ks r=mks (ks.take col) r++mks (ks.drop col) (r.drop (ks.take col).length):=by rw[<- qF7,List.take_append_drop]
 unfold sub
 by_cases hc:col<=ks.length
 ·have hl:(ks.take col).length=col:=by simp;omega
  rw[h1,hl,List.drop_append,List.drop_eq_nil_of_le (by rw[qBP,hl];exact Nat.le_refl _),qBP,hl]
  simp only[Nat.sub_self,List.drop_zero,List.nil_append]
  have h2:mks (ks.drop col) (r.drop col)=mks ((ks.drop col).take n) (r.drop col)++mks ((ks.drop col).drop n) ((r.drop col).drop ((ks.drop col).take n).length):=by rw[<- qF7,List.take_append_drop]
  rw[h2,List.take_append]
  by_cases hn:n<=(ks.drop col).length
  ·have hl2:((ks.drop col).take n).length=n:=by rw[List.length_take];omega
   rw[List.take_of_length_le (by rw[qBP,hl2];exact Nat.le_refl _),qBP,hl2]
   simp
  ·have:(ks.drop col).drop n=[]:=List.drop_eq_nil_of_le (by omega)
   rw[this]
   simp only[mks,List.take_nil,List.append_nil]
   exact List.take_of_length_le (by rw[qBP,List.length_take];omega)
 ·have hd:ks.drop col=[]:=List.drop_eq_nil_of_le (by omega)
  rw[hd,List.drop_eq_nil_of_le (by rw[qBP];omega)]
  simp[mks]
theorem qLE (k:IntKind):∀ (n:Nat) (r:List Int),r.length=n->mks (List.replicate n (.i k)) r=r.map (S.i k):=by
 intro n
 induction n with
 | zero=>intro r h;simp at h;subst h;rfl
 | succ n ih=>
   intro r h
   cases r with
   | nil=>simp at h
   | cons x r=>simp[List.replicate_succ,mks,mk,ih r (by simpa using h)]
theorem qPi:∀ (n:Nat) (r:List Int),r.length=n->mks (List.replicate n .b) r=(r.map (· != 0)).map S.b:=by
 intro n
 induction n with
 | zero=>intro r h;simp at h;subst h;rfl
 | succ n ih=>
   intro r h
   cases r with
   | nil=>simp at h
   | cons x r=>have h2:=ih r (by simpa using h);simp only[List.replicate_succ,mks,mk,List.headD_cons,List.tail_cons,List.map_cons,h2]
theorem qRv {a b:List CK} {r:List Int} (h:qq (a++b) r):qq a (r.take a.length) /\ qq b (r.drop a.length):=by
 have h1:=qB.take a.length h
 have h2:=qB.drop a.length h
 simp only[List.take_left',List.drop_left'] at h1 h2
 exact⟨h1,h2⟩
theorem qbj {ks:List CK} {r:List Int} (h:qq ks r) (col n:Nat):qq (sub ks col n) (sub r col n):=qB.take n (qB.drop col h)
theorem qbi {k:IntKind}:∀ {n:Nat} {r:List Int},qq (List.replicate n (.i k)) r->r.length=n /\ ∀ x∈r,k.wrap x=x:=by
 intro n
 induction n with
 | zero=>intro r h;cases r with
   | nil=>simp
   | cons x r=>exact h.elim
 | succ n ih=>intro r h;cases r with
   | nil=>exact h.elim
   | cons x r=>
     obtain⟨h1,h2⟩:=h
     obtain⟨h3,h4⟩:=ih h2
     refine⟨by simp[h3],fun y hy=>?_⟩
     rcases List.mem_cons.1 hy with rfl | hy
     ·exact h1
     ·exact h4 y hy
theorem qSv:∀ (ts:List SegT) (r:List Int) (cs:List CK) (l:List Seg),qCo ts r=some l->qAL ts=some cs->qq cs r->
  qc l=mks cs r /\ oks l /\ qU l=ts.map SegT.shp:=by
 intro ts
 induction ts with
 | nil=>intro r cs l h1 h2 _;simp[qCo] at h1;simp[qAL] at h2;subst h1;subst h2;exact⟨rfl,qCT,rfl⟩
 | cons t ts ih=>
   intro r cs l h1 h2 h3
   cases t with
   | one ks=>
     simp only[qCo] at h1
     simp only[qAL] at h2
     split at h1<;>try cases h1
     rename_i c1 l1 e1 e2
     rw[e1] at h2
     split at h2<;>try cases h2
     rename_i a b e3 e4
     cases e3
     have hk:c1.length=ks.length:=by
      clear e2 ih h3 e4
      induction ks generalizing c1 with
      | nil=>simp[kcks?] at e1;subst e1;rfl
      | cons k ks ih2=>
        simp only[kcks?] at e1
        split at e1<;>try cases e1
        rename_i n l' _ e6
        simp[ih2 l' e6]
     obtain⟨h4,h5⟩:=qRv h3
     rw[hk] at h5
     obtain⟨i1,i2,i3⟩:=ih _ _ _ e2 e4 h5
     refine⟨?_,qAV.2 ⟨trivial,i2⟩,?_⟩
     ·rw[flats_cons,Seg.flat,i1,qF7,hk]
     ·simp[Seg.shp,SegT.shp,qBP,hk,i3]
   | arr k n=>
     simp only[qCo] at h1
     simp only[qAL] at h2
     split at h1<;>try cases h1
     rename_i l1 e2
     split at h2<;>try cases h2
     rename_i b e4
     obtain⟨h4,h5⟩:=qRv h3
     simp only[List.length_replicate] at h4 h5
     obtain⟨i1,i2,i3⟩:=ih _ _ _ e2 e4 h5
     obtain⟨j1,j2⟩:=qbi h4
     refine⟨?_,qAV.2 ⟨⟨j1,j2⟩,i2⟩,?_⟩
     ·rw[flats_cons,Seg.flat,i1,qF7,List.length_replicate,<- qLE k n _ j1,qF9 _ _ _ (by simp)]
     ·simp[Seg.shp,SegT.shp,i3]
   | barr n=>
     simp only[qCo] at h1
     simp only[qAL] at h2
     split at h1<;>try cases h1
     rename_i l1 e2
     split at h2<;>try cases h2
     rename_i b e4
     obtain⟨h4,h5⟩:=qRv h3
     simp only[List.length_replicate] at h4 h5
     obtain⟨i1,i2,i3⟩:=ih _ _ _ e2 e4 h5
     have j1:(r.take n).length=n:=by simpa using qDL h4
     refine⟨?_,qAV.2 ⟨by simpa[Seg.ok] using j1,i2⟩,?_⟩
     ·rw[flats_cons,Seg.flat,i1,qF7,List.length_replicate,<- qPi n _ j1,qF9 _ _ _ (by simp)]
     ·simp[Seg.shp,SegT.shp,i3]
   | rows ks n=>simp[qCo] at h1
def S.rng:S->Prop
 | .i k n=>k.wrap n=n
 | _=>True
theorem qGu (x:Bool):(bi x != 0)=x:=by cases x<;>rfl
theorem qkf:∀ (vs:List S) (a:List Int) (c:List CK),ns? vs=some a->cks? vs=some c->(∀ s∈vs,s.rng)->vs=mks c a /\ qq c a:=by
 intro vs
 induction vs with
 | nil=>intro a c h1 h2 _;simp[ns?] at h1;simp[cks?] at h2;subst h1;subst h2;exact⟨rfl,trivial⟩
 | cons x vs ih=>
   intro a c h1 h2 h3
   simp only[ns?] at h1
   simp only[cks?] at h2
   split at h1<;>try cases h1
   rename_i n l e1 e2
   split at h2<;>try cases h2
   rename_i k c' e3 e4
   obtain⟨i1,i2⟩:=ih l c' e2 e4 fun s hs=>h3 s (by simp[hs])
   have hx:=h3 x (by simp)
   cases x<;>simp[S.n?] at e1<;>simp[S.ck?] at e3
   ·subst e1;subst e3
    exact⟨by simp[mks,mk,<- i1],hx,i2⟩
   ·rename_i y
    subst e1;subst e3
    refine⟨by simp[mks,mk,<- i1,qGu],?_,i2⟩
    cases y
    ·exact .inl rfl
    ·exact .inr rfl
   ·rename_i y
    subst e1;subst e3
    exact⟨by simp[mks,mk,<- i1,qHB],qNy y,i2⟩
theorem qJW {a b:List CK} {r t:List Int} (h1:qq a r) (h2:qq b t):qq (a++b) (r++t):=qB.append h1 h2
theorem qF8 (a b:List CK) (r t:List Int) (h:r.length=a.length):mks (a++b) (r++t)=mks a r++mks b t:=by
 rw[qF7,<- h,List.drop_left]
 congr 1
 have:=qF9 a (r++t) a.length (Nat.le_refl _)
 rw[<- this,<- h,List.take_left]
theorem qdO:∀ (gs:List Seg) (cs:List CK) (r:List Int),qDR gs=some (cs,r)->oks gs->(∀ s∈qc gs,s.rng)->qc gs=mks cs r /\ qq cs r:=by
 intro gs
 induction gs with
 | nil=>intro cs r h _ _;simp[qDR] at h;obtain⟨rfl,rfl⟩:=h;exact⟨rfl,trivial⟩
 | cons g gs ih=>
   intro cs r h ho hr
   obtain⟨ho1,ho2⟩:=qAV.1 ho
   cases g with
   | one vs=>
     simp only[qDR] at h
     split at h<;>try cases h
     rename_i a c cs' b e1 e2 e3
     obtain⟨i1,i2⟩:=ih cs' b e3 ho2 fun s hs=>hr s (by simp[hs])
     obtain⟨j1,j2⟩:=qkf vs a c e1 e2 fun s hs=>hr s (by simp[Seg.flat,hs])
     exact⟨by rw[flats_cons,i1,qF8 _ _ _ _ (qDL j2),<- j1];rfl,qJW j2 i2⟩
   | arr k n l=>
     simp only[qDR] at h
     split at h<;>try cases h
     rename_i cs' b e3
     obtain⟨i1,i2⟩:=ih cs' b e3 ho2 fun s hs=>hr s (by simp[hs])
     obtain⟨hn,hk⟩:=ho1
     have j2:qq (List.replicate n (CK.i k)) l:=by
      clear e3 ho hr
      induction l generalizing n with
      | nil=>simp at hn;subst hn;trivial
      | cons x l ih2=>
        obtain⟨m,rfl⟩:∃ m,n=m+1:=⟨l.length,by simpa using hn.symm⟩
        exact⟨hk x (by simp),ih2 m (by simpa using hn) fun y hy=>hk y (by simp[hy])⟩
     exact⟨by rw[flats_cons,i1,qF8 _ _ _ _ (qDL j2),qLE k n l hn];rfl,qJW j2 i2⟩
   | barr n l=>
     simp only[qDR] at h
     split at h<;>try cases h
     rename_i cs' b e3
     obtain⟨i1,i2⟩:=ih cs' b e3 ho2 fun s hs=>hr s (by simp[hs])
     have hn:l.length=n:=ho1
     have j2:qq (List.replicate n CK.b) (l.map bi):=by
      clear e3 ho hr ho1
      induction l generalizing n with
      | nil=>simp at hn;subst hn;trivial
      | cons x l ih2=>
        obtain⟨m,rfl⟩:∃ m,n=m+1:=⟨l.length,by simpa using hn.symm⟩
        refine⟨?_,ih2 m (by simpa using hn)⟩
        cases x
        ·exact .inl rfl
        ·exact .inr rfl
     refine⟨?_,qJW j2 i2⟩
     rw[flats_cons,i1,qF8 _ _ _ _ (qDL j2),qPi n (l.map bi) (by simpa using hn)]
     simp[Seg.flat,Function.comp_def,qGu]
   | rows ks n xs=>simp[qDR] at h
def V.flat:V->List S
 | .s x=>[x]
 | .agg l=>qc l
 | .tup _=>[]
def V.ok:V->Prop
 | .s _=>True
 | .agg l=>oks l
 | .tup _=>True
def Lay.agg:Lay->Bool
 | .sc _=>false
 | _=>true
theorem qKb {g:Seg} {t:SegT} (h:g.fits t=true):g.shp=t.shp:=by
 cases g<;>cases t<;>simp[Seg.fits] at h<;>simp[Seg.shp,SegT.shp,h]
theorem qKZ:∀ {l:List Seg} {ts:List SegT},qBr l ts=true->qU l=ts.map SegT.shp
 | [],[],_=>rfl
 | g :: l,t :: ts,h=>by
   simp[qBr] at h
   simp[qKb h.1,qKZ h.2]
 | [],_ :: _,h=>by simp[qBr] at h
 | _ :: _,[],h=>by simp[qBr] at h
theorem qjw {g t:Seg} (h:g.like t=true):g.shp=t.shp:=by
 cases g<;>cases t<;>simp[Seg.like] at h<;>simp[Seg.shp,h]
theorem qXy:∀ {l ts:List Seg},qAI l ts=true->qU l=qU ts
 | [],[],_=>rfl
 | g :: l,t :: ts,h=>by
   simp[qAI] at h
   simp[qjw h.1,qXy h.2]
 | [],_ :: _,h=>by simp[qAI] at h
 | _ :: _,[],h=>by simp[qAI] at h
def qBm (ts:List SegT):Nat:=qp (ts.map SegT.shp)
def Lay.size (L:Lay):Nat:=qBm L.segTs
theorem qEa {segs:List Seg} {sg:Nat} {g:Seg} (ho:oks segs) (hg:segs[sg]? = some g) (k n:Nat) (h:k+n<=g.flat.length):
  sub (qc segs) (qp ((qU segs).take sg)+k) n=sub g.flat k n:=by
 rw[qKc hg,<- qFy sg ho,qSm,qSl _ _ _ _ h]
theorem qGk {α:Type} {l:List α} {k:Nat} {x:α} (h:l[k]? = some x):sub l k 1=[x]:=by
 have hlt:=getElem?_lt h
 unfold sub
 rw[List.drop_eq_getElem_cons hlt]
 rw[List.getElem?_eq_getElem hlt] at h
 simp at h
 simp[h]
theorem getElem?_getD {α:Type} (l:List α) (j:Nat) (d:α) (h:j<l.length):l[j]? = some (l.getD j d):=by
 simp[List.getD,List.getElem?_eq_getElem h]
theorem qAM {segs:List Seg} {sg:Nat} {g:Seg} (hg:segs[sg]? = some g):(qU segs)[sg]? = some g.shp:=by simp[qU,hg]
theorem qd6 {k:IntKind} {n:Nat} {l:List Int} (h:(Seg.arr k n l).ok) {j:Nat} (hj:j<n):sub (Seg.arr k n l).flat j 1=[S.i k (l.getD j 0)]:=by
 refine qGk ?_
 simp only[Seg.flat,List.getElem?_map,getElem?_getD l j 0 (by rw[h.1];exact hj),Option.map_some]
theorem qeY {n:Nat} {l:List Bool} (h:(Seg.barr n l).ok) {j:Nat} (hj:j<n):sub (Seg.barr n l).flat j 1=[S.b (l.getD j false)]:=by
 have hl:l.length=n:=h
 refine qGk ?_
 simp only[Seg.flat,List.getElem?_map,getElem?_getD l j false (by rw[hl];exact hj),Option.map_some]
theorem qd7 {k:IntKind} {n:Nat} {l:List Int} {j m:Nat}:sub (Seg.arr k n l).flat j m=((l.drop j).take m).map (S.i k):=by
 simp[Seg.flat,sub]
theorem qRx {ks:List CK} {n:Nat} {xs:List (List Int)} (h:(Seg.rows ks n xs).ok) {j:Nat} (hj:j<n) {col m:Nat} (hc:col+m<=ks.length):
  sub (Seg.rows ks n xs).flat (j*ks.length+col) m=mks (sub ks col m) ((xs.getD j []).drop col):=by
 simp only[Seg.flat]
 rw[qhD (w:=ks.length) xs (fun x _=>qBP ks x) j _ (getElem?_getD xs j [] (by rw[h.1];exact hj)) col m hc,qLF]
theorem qL0 {ks:List CK} {n:Nat} {xs:List (List Int)} (h:(Seg.rows ks n xs).ok) {j:Nat} (hj:j<n):qq ks (xs.getD j []):=by
 have:=getElem?_getD xs j [] (by rw[h.1];exact hj)
 exact h.2 _ (List.mem_of_getElem? this)
theorem qkH (ks:List CK):∀ (r:List Int) (c:Nat) (k:CK),ks[c]? = some k->(mks ks r)[c]? = some (mk k (r.getD c 0)):=by
 induction ks with
 | nil=>intro r c k h;simp at h
 | cons a ks ih=>
   intro r c k h
   cases c with
   | zero=>simp at h;subst h;cases r<;>simp[mks,List.getD]
   | succ c=>
     have:=ih r.tail c k (by simpa using h)
     simp only[mks,List.getElem?_cons_succ,this]
     cases r<;>simp[List.getD]
theorem qrP {ks:List CK} {k:CK} (h:qJu ks=some k) {c:Nat} (hc:c<ks.length):ks[c]? = some k:=by
 cases ks with
 | nil=>cases h
 | cons a r=>
   simp only[qJu] at h
   cases ha:r.all (fun c=>decide (c=a)) with
   | false=>rw[ha] at h;cases h
   | true=>
     rw[ha] at h
     cases h
     cases c with
     | zero=>rfl
     | succ c=>
       have hc':c<r.length:=by simpa using hc
       have:=List.all_eq_true.1 ha r[c] (List.getElem_mem hc')
       simp only[decide_eq_true_eq] at this
       simp[List.getElem?_eq_getElem hc',this]
theorem qUj {ks:List CK} {c:Nat} (hc:c<ks.length):qKP ks c=ks[c]?:=by
 unfold qKP
 split
 ·rename_i k hk;exact (qrP hk hc).symm
 ·rfl
structure Loaded (segs:List Seg) (off:Nat) (L:Lay) (v:V):Prop where
 flat:v.flat=sub (qc segs) off L.size
 ok:v.ok
 len:off+L.size<=(qc segs).length
 agg:L.agg=true->∃ l,v=.agg l /\ qU l=L.segTs.map SegT.shp
 sc:L.agg=false->∃ s,v=.s s
theorem qET {segs:List Seg} {sg:Nat} {g:Seg} (ho:oks segs) (hg:segs[sg]? = some g) {k n:Nat} (h:k+n<=g.flat.length):
  qp ((qU segs).take sg)+k+n<=(qc segs).length:=by
 rw[qKc hg,List.length_append,List.length_append,qFy sg ho]
 omega
theorem qHa {segs:List Seg} {sg:Nat} {row:Option (Nat×Nat)} {col:Nat} {L:Lay} {v:V} (h:loadAt segs sg row col L=some v) (ho:oks segs)
  (hr:qGX (qU segs) sg row col):Loaded segs (qX (qU segs) sg row col) L v:=by
 cases L with
 | sc kd=>
   have key:∃ x,v=.s x /\ [x]=sub (qc segs) (qX (qU segs) sg row col) 1 /\ qX (qU segs) sg row col+1<=(qc segs).length:=by
    simp only[loadAt] at h
    split at h
    ·rename_i vs hg
     split at h<;>try cases h
     rename_i x hx
     have hl:col+1<=(Seg.one vs).flat.length:=by have:=getElem?_lt hx;simp[Seg.flat];omega
     refine⟨x,rfl,?_,qET ho hg hl⟩
     simp only[qX]
     rw[qEa ho hg _ _ hl]
     exact (qGk hx).symm
    ·rename_i k n l j lim hg
     cases h
     obtain⟨h1,w,m,h2,h3,h4⟩:=hr
     rw[qAM hg] at h2
     simp[Seg.shp] at h2
     obtain⟨rfl,rfl⟩:=h2
     have hl:j*1+col+1<=(Seg.arr k n l).flat.length:=by rw[Seg.flat_length (qAx ho hg)];simp[Seg.shp,Shp.size];omega
     refine⟨_,rfl,?_,?_⟩
     ·simp only[qX,qAM hg,Option.map_some,Option.getD_some,Seg.shp,Shp.width]
      rw[qEa ho hg _ _ hl,show j*1+col=j by omega,qd6 (qAx ho hg) (by omega)]
     ·simp only[qX,qAM hg,Option.map_some,Option.getD_some,Seg.shp,Shp.width]
      exact qET ho hg hl
    ·rename_i n l j lim hg
     cases h
     obtain⟨h1,w,m,h2,h3,h4⟩:=hr
     rw[qAM hg] at h2
     simp[Seg.shp] at h2
     obtain⟨rfl,rfl⟩:=h2
     have hl:j*1+col+1<=(Seg.barr n l).flat.length:=by rw[Seg.flat_length (qAx ho hg)];simp[Seg.shp,Shp.size];omega
     refine⟨_,rfl,?_,?_⟩
     ·simp only[qX,qAM hg,Option.map_some,Option.getD_some,Seg.shp,Shp.width]
      rw[qEa ho hg _ _ hl,show j*1+col=j by omega,qeY (qAx ho hg) (by omega)]
     ·simp only[qX,qAM hg,Option.map_some,Option.getD_some,Seg.shp,Shp.width]
      exact qET ho hg hl
    ·rename_i ks n xs j lim hg
     cases hc:qUo ks col with
     | false=>rw[hc] at h;cases h
     | true=>
       rw[hc] at h
       cases h
       obtain⟨h1,w,m,h2,h3,h4⟩:=hr
       rw[qAM hg] at h2
       simp[Seg.shp] at h2
       obtain⟨rfl,rfl⟩:=h2
       have hc:col<ks.length:=h4
       have hl:j*ks.length+col+1<=(Seg.rows ks n xs).flat.length:=by
        rw[Seg.flat_length (qAx ho hg)];simp only[Seg.shp,Shp.size]
        have:(j+1)*ks.length<=n*ks.length:=Nat.mul_le_mul_right _ (by omega)
        rw[Nat.add_mul] at this;omega
       refine⟨_,rfl,?_,?_⟩
       ·simp only[qX,qAM hg,Option.map_some,Option.getD_some,Seg.shp,Shp.width]
        rw[qEa ho hg _ _ hl,qRx (qAx ho hg) (by omega) (by omega),<- qLF]
        have hk:ks[col]? = some ks[col]:=List.getElem?_eq_getElem hc
        rw[qGk (qkH ks _ col _ hk)]
        simp[qYI,qUj hc,hk]
       ·simp only[qX,qAM hg,Option.map_some,Option.getD_some,Seg.shp,Shp.width]
        exact qET ho hg hl
    ·cases h
   obtain⟨x,rfl,hx,hl⟩:=key
   have e:(Lay.sc kd).size=1:=rfl
   exact⟨by rw[e];exact hx,trivial,by rw[e];exact hl,fun h=>by simp[Lay.agg] at h,fun _=>⟨x,rfl⟩⟩
 | st ts fl=>
   suffices hs:∃ l,v=.agg l /\ qU l=ts.map SegT.shp /\ oks l /\ qc l=sub (qc segs) (qX (qU segs) sg row col) (qBm ts) /\ qX (qU segs) sg row col+qBm ts<=(qc segs).length by
    obtain⟨l,rfl,h1,h2,h3,h4⟩:=hs
    exact⟨h3,h2,h4,fun _=>⟨l,rfl,h1⟩,fun h=>by simp[Lay.agg] at h⟩
   simp only[loadAt] at h
   split at h
   ·split at h
    ·rename_i ks vs hg
     cases hc:Nat.ble (col+ks.length) vs.length with
     | false=>rw[hc] at h;cases h
     | true=>
       rw[hc] at h
       cases h
       have hc:col+ks.length<=vs.length:=Nat.le_of_ble_eq_true hc
       refine⟨_,rfl,?_,qAV.2 ⟨trivial,qCT⟩,?_,?_⟩
       ·simp[Seg.shp,SegT.shp,List.length_take];omega
       ·simp only[qX,qBm,List.map_cons,List.map_nil,qp,SegT.shp,Shp.size,Nat.add_zero]
        rw[qEa ho hg _ _ (by simpa[Seg.flat] using hc)]
        simp[Seg.flat,sub]
       ·simp only[qX,qBm,List.map_cons,List.map_nil,qp,SegT.shp,Shp.size,Nat.add_zero]
        exact qET ho hg (by simpa[Seg.flat] using hc)
    ·rename_i ts _ _ hg
     cases hc:(Nat.beq col 0&&qBr ((segs.drop sg).take ts.length) ts) with
     | false=>rw[hc] at h;cases h
     | true=>
       rw[hc] at h
       cases h
       simp only[Bool.and_eq_true,Nat.beq_eq] at hc
       obtain⟨rfl,hf⟩:=hc
       have hsh:=qKZ hf
       have hok:oks ((segs.drop sg).take ts.length):=qLO _ (qPw _ ho)
       have hlen:(qc ((segs.drop sg).take ts.length)).length=qBm ts:=by rw[qHH hok,hsh];rfl
       have hsplit:qc segs=qc (segs.take sg)++(qc ((segs.drop sg).take ts.length)++qc ((segs.drop sg).drop ts.length)):=by
        rw[<- qE1,List.take_append_drop,<- qE1,List.take_append_drop]
       refine⟨_,rfl,hsh,hok,?_,?_⟩
       ·simp only[qX,Nat.add_zero]
        rw[hsplit,<- qFy sg ho,<- Nat.add_zero (qc (segs.take sg)).length,qSm,qSl _ _ _ _ (by omega),<- hlen,qdK]
       ·simp only[qX,Nat.add_zero]
        rw[hsplit,List.length_append,List.length_append,qFy sg ho,hlen];omega
   ·rename_i j lim
    split at h<;>try cases h
    rename_i ks n xs cs hg hk
    cases hc:decide ((ks.drop col).take cs.length=cs) with
    | false=>rw[hc] at h;cases h
    | true=>
      rw[hc] at h
      simp only[cond_true] at h
      split at h<;>try cases h
      rename_i l hl
      have hc:(ks.drop col).take cs.length=cs:=by simpa using hc
      obtain⟨h1,w,m,h2,h3,h4⟩:=hr
      rw[qAM hg] at h2
      simp[Seg.shp] at h2
      obtain⟨rfl,rfl⟩:=h2
      have hrow:=qL0 (qAx ho hg) (j:=j) (by omega)
      have hro:qq cs (((xs.getD j []).drop col).take cs.length):=by
       have:=qbj hrow col cs.length
       unfold sub at this
       rwa [hc] at this
      obtain⟨u1,u2,u3⟩:=qSv ts _ cs l hl hk hro
      have hcl:col+cs.length<=ks.length:=by
       have:=congrArg List.length hc
       simp[List.length_take] at this
       omega
      have hsz:qBm ts=cs.length:=by
       have:=qHH u2
       rw[u1,qBP,u3] at this
       exact this.symm
      have hll:j*ks.length+col+cs.length<=(Seg.rows ks n xs).flat.length:=by
       rw[Seg.flat_length (qAx ho hg)];simp only[Seg.shp,Shp.size]
       have:(j+1)*ks.length<=n*ks.length:=Nat.mul_le_mul_right _ (by omega)
       rw[Nat.add_mul] at this;omega
      refine⟨l,rfl,u3,u2,?_,?_⟩
      ·simp only[qX,qAM hg,Option.map_some,Option.getD_some,Seg.shp,Shp.width]
       rw[hsz,qEa ho hg _ _ hll,qRx (qAx ho hg) (by omega) hcl,u1]
       unfold sub
       rw[hc,qF9 _ _ _ (Nat.le_refl _)]
      ·simp only[qX,qAM hg,Option.map_some,Option.getD_some,Seg.shp,Shp.width]
       rw[hsz]
       exact qET ho hg hll
 | ar n m e t=>
   suffices hs:∃ l,v=.agg l /\ qU l=[t.shp] /\ oks l /\ qc l=sub (qc segs) (qX (qU segs) sg row col) t.shp.size /\ qX (qU segs) sg row col+t.shp.size<=(qc segs).length by
    obtain⟨l,rfl,h1,h2,h3,h4⟩:=hs
    have e1:(Lay.ar n m e t).size=t.shp.size:=by simp[Lay.size,Lay.segTs,qBm,qp]
    exact⟨by rw[e1];exact h3,h2,by rw[e1];exact h4,fun _=>⟨l,rfl,h1⟩,fun h=>by simp[Lay.agg] at h⟩
   simp only[loadAt] at h
   split at h
   ·rename_i g hg
    cases hc:(Nat.beq col 0&&g.fits t) with
    | false=>rw[hc] at h;cases h
    | true=>
      rw[hc] at h
      cases h
      simp only[Bool.and_eq_true,Nat.beq_eq] at hc
      obtain⟨rfl,hf⟩:=hc
      have hsh:=qKb hf
      have hl:0+t.shp.size<=g.flat.length:=by rw[Seg.flat_length (qAx ho hg),hsh];omega
      refine⟨_,rfl,by simp[hsh],qAV.2 ⟨qAx ho hg,qCT⟩,?_,qET ho hg hl⟩
      simp only[qX]
      rw[qEa ho hg _ _ hl,<- hsh,<- Seg.flat_length (qAx ho hg),qdK]
      simp
   ·rename_i g j lim hg
    obtain⟨h1,w,q,h2,h3,h4⟩:=hr
    rw[qAM hg] at h2
    split at h
    ·rename_i k n0 l k' n'
     cases hc:(decide (k=k')&&Nat.ble n' lim) with
     | false=>rw[hc] at h;cases h
     | true=>
       rw[hc] at h
       cases h
       simp only[Bool.and_eq_true,decide_eq_true_eq] at hc
       obtain⟨rfl,hn⟩:=hc
       have hn:=Nat.le_of_ble_eq_true hn
       simp[Seg.shp] at h2
       obtain⟨rfl,rfl⟩:=h2
       obtain⟨o1,o2⟩:=qAx ho hg
       have hl:j*1+col+n'<=(Seg.arr k n0 l).flat.length:=by rw[Seg.flat_length (qAx ho hg)];simp[Seg.shp,Shp.size];omega
       refine⟨_,rfl,by simp[Seg.shp,SegT.shp],qAV.2 ⟨⟨?_,?_⟩,qCT⟩,?_,?_⟩
       ·rw[List.length_take,List.length_drop,o1];omega
       ·exact fun x hx=>o2 x (List.mem_of_mem_drop (List.mem_of_mem_take hx))
       ·simp only[qX,qAM hg,Option.map_some,Option.getD_some,Seg.shp,Shp.width,SegT.shp,Shp.size]
        rw[Nat.mul_one n',qEa ho hg _ _ hl,show j*1+col=j by omega,qd7]
        simp[Seg.flat]
       ·simp only[qX,qAM hg,Option.map_some,Option.getD_some,Seg.shp,Shp.width,SegT.shp,Shp.size]
        rw[Nat.mul_one n']
        exact qET ho hg hl
    ·rename_i ks n0 xs k' n'
     cases hc:decide ((ks.drop col).take n'=List.replicate n' (.i k')) with
     | false=>rw[hc] at h;cases h
     | true=>
       rw[hc] at h
       cases h
       have hc:(ks.drop col).take n'=List.replicate n' (.i k'):=by simpa using hc
       simp[Seg.shp] at h2
       obtain⟨rfl,rfl⟩:=h2
       have hrow:=qL0 (qAx ho hg) (j:=j) (by omega)
       have hro:qq (List.replicate n' (.i k')) (((xs.getD j []).drop col).take n'):=by
        have:=qbj hrow col n'
        unfold sub at this
        rwa [hc] at this
       obtain⟨o1,o2⟩:=qbi hro
       have hcl:col+n'<=ks.length:=by
        have:=congrArg List.length hc
        simp[List.length_take] at this
        omega
       have hll:j*ks.length+col+n'<=(Seg.rows ks n0 xs).flat.length:=by
        rw[Seg.flat_length (qAx ho hg)];simp only[Seg.shp,Shp.size]
        have:(j+1)*ks.length<=n0*ks.length:=Nat.mul_le_mul_right _ (by omega)
        rw[Nat.add_mul] at this;omega
       refine⟨_,rfl,by simp[Seg.shp,SegT.shp],qAV.2 ⟨⟨o1,o2⟩,qCT⟩,?_,?_⟩
       ·simp only[qX,qAM hg,Option.map_some,Option.getD_some,Seg.shp,Shp.width,SegT.shp,Shp.size]
        rw[Nat.mul_one n',qEa ho hg _ _ hll,qRx (qAx ho hg) (by omega) hcl]
        unfold sub
        rw[hc,flats_cons,flats_nil,List.append_nil,Seg.flat,<- qLE k' n' _ o1,qF9 _ _ _ (by simp)]
       ·simp only[qX,qAM hg,Option.map_some,Option.getD_some,Seg.shp,Shp.width,SegT.shp,Shp.size]
        rw[Nat.mul_one n']
        exact qET ho hg hll
    ·cases h
   ·cases h
structure Stored (segs:List Seg) (off:Nat) (new:List S) (segs':List Seg):Prop where
 flat:qc segs'=over (qc segs) off new
 ok:oks segs'
 shp:qU segs'=qU segs
 len:off+new.length<=(qc segs).length
theorem qGe {segs:List Seg} {sg:Nat} {g g':Seg} (ho:oks segs) (hg:segs[sg]? = some g) (hs:g'.shp=g.shp) (hok:g'.ok) (k:Nat) (new:List S)
  (hf:g'.flat=over g.flat k new) (hl:k+new.length<=g.flat.length):Stored segs (qp ((qU segs).take sg)+k) new (segs.set sg g'):=by
 have hlt:=getElem?_lt hg
 refine⟨?_,?_,?_,?_⟩
 ·rw[qSS segs sg g' hlt,qE1,flats_cons,qKc hg,<- qFy sg ho,qHk,qPz _ _ _ _ hl,hf]
 ·intro x hx
  rcases List.mem_or_eq_of_mem_set hx with h | h
  ·exact ho x h
  ·rw[h];exact hok
 ·unfold qU
  rw[List.map_set]
  apply List.ext_getElem?
  intro i
  rw[List.getElem?_set]
  split
  ·rename_i h
   subst h
   have hg':segs[sg]=g:=by rw[List.getElem?_eq_getElem hlt] at hg;exact Option.some.inj hg
   simp[hs,hlt,hg']
  ·rfl
 ·rw[qKc hg,List.length_append,List.length_append,qFy sg ho];omega
theorem qJI {α:Type} (l:List α) (k:Nat) (x:α) (h:k<l.length):l.set k x=over l k [x]:=by
 rw[qSS l k x h]
 simp[over]
theorem qYB {α β:Type} (f:α->β) (l:List α) (k:Nat) (new:List α):(over l k new).map f=over (l.map f) k (new.map f):=by
 simp[over]
theorem qbm {ks:List CK} {n:Nat} {xs:List (List Int)} (h:(Seg.rows ks n xs).ok) {j:Nat} (hj:j<n) {col:Nat} {new:List S} {r':List Int} (hr:qq ks r')
  (hc:col+new.length<=ks.length) (hy:mks ks r'=over (mks ks (xs.getD j [])) col new):
  (Seg.rows ks n (xs.set j r')).ok /\ (Seg.rows ks n (xs.set j r')).flat=over (Seg.rows ks n xs).flat (j*ks.length+col) new:=by
 obtain⟨h1,h2⟩:=h
 refine⟨⟨by simp[h1],fun r hm=>?_⟩,?_⟩
 ·rcases List.mem_or_eq_of_mem_set hm with h | h
  ·exact h2 r h
  ·rw[h];exact hr
 ·simp only[Seg.flat]
  rw[qhB (w:=ks.length) xs (fun x _=>qBP ks x) j _ r' (getElem?_getD xs j [] (by omega)) col new hc hy]
theorem qbh {ks:List CK} {r:List Int} {col:Nat} {cs:List CK} {t:List Int} (h:qq ks r) (ht:qq cs t) (hc:(ks.drop col).take cs.length=cs):
  qq ks (r.take col++t++r.drop (col+cs.length)):=by
 have e:ks=ks.take col++(cs++ks.drop (col+cs.length)):=by
  conv=>lhs;rw[<- List.take_append_drop col ks,<- List.take_append_drop cs.length (ks.drop col),hc,List.drop_drop]
 have h1:=qB.take col h
 have h2:=qB.drop (col+cs.length) h
 have:=qB.append h1 (qB.append ht h2)
 rw[<- e] at this
 simpa[qq,List.append_assoc] using this
theorem qYJ {ks:List CK} {r:List Int} {col:Nat} {cs:List CK} {t:List Int} (hr:r.length=ks.length) (ht:t.length=cs.length) (hc:(ks.drop col).take cs.length=cs) (_hcl:col+cs.length<=ks.length):
  mks ks (r.take col++t++r.drop (col+cs.length))=over (mks ks r) col (mks cs t):=by
 have e:ks=ks.take col++(cs++ks.drop (col+cs.length)):=by
  conv=>lhs;rw[<- List.take_append_drop col ks,<- List.take_append_drop cs.length (ks.drop col),hc,List.drop_drop]
 have hl:(r.take col).length=(ks.take col).length:=by simp[hr]
 have h1:mks ks (r.take col++t++r.drop (col+cs.length))=mks (ks.take col) (r.take col)++(mks cs t++mks (ks.drop (col+cs.length)) (r.drop (col+cs.length))):=by
  conv=>lhs;rw[e]
  rw[List.append_assoc,qF8 _ _ _ _ hl,qF8 _ _ _ _ ht]
 rw[h1]
 unfold over
 have ht2:(mks ks r).take col=mks (ks.take col) (r.take col):=by
  have:=qLF ks r 0 col
  simp only[sub,List.drop_zero] at this
  rw[this,qF9 _ _ _ (by simp;omega)]
 have hd:(mks ks r).drop (col+(mks cs t).length)=mks (ks.drop (col+cs.length)) (r.drop (col+cs.length)):=by
  rw[qBP]
  have:=qLF ks r (col+cs.length) (ks.length - (col+cs.length))
  unfold sub at this
  rw[List.take_of_length_le (by simp[qBP]),List.take_of_length_le (by simp)] at this
  exact this
 rw[ht2,hd,List.append_assoc]
theorem qIR {segs segs':List Seg} {sg:Nat} {row:Option (Nat×Nat)} {col:Nat} {v:V} (h:storeAt segs sg row col v=some segs') (ho:oks segs)
  (hr:qGX (qU segs) sg row col) (hv:v.ok) (hrng:∀ s∈v.flat,s.rng):Stored segs (qX (qU segs) sg row col) v.flat segs':=by
 cases v with
 | tup l=>simp[storeAt] at h
 | s x =>
   simp only[storeAt] at h
   simp only[V.flat]
   have hx:x.rng:=hrng x (by simp[V.flat])
   split at h
   ·rename_i vs hg
    cases hc:Nat.blt col vs.length with
    | false=>rw[hc] at h;cases h
    | true=>
      rw[hc] at h
      cases h
      have hc:col<vs.length:=by simpa[Nat.blt_eq] using hc
      simp only[qX]
      exact qGe (g':=.one (vs.set col x)) ho hg (by simp[Seg.shp]) trivial col [x] (qJI _ _ _ (by simpa[Seg.flat] using hc)) (by simp[Seg.flat];omega)
   ·rename_i k n l j lim hg
    split at h<;>try cases h
    rename_i k' a
    cases hc:decide (k=k') with
    | false=>rw[hc] at h;cases h
    | true=>
      rw[hc] at h
      cases h
      have hc:k=k':=by simpa using hc
      subst hc
      obtain⟨h1,w,m,h2,h3,h4⟩:=hr
      rw[qAM hg] at h2
      simp[Seg.shp] at h2
      obtain⟨rfl,rfl⟩:=h2
      obtain⟨o1,o2⟩:=qAx ho hg
      simp only[qX,qAM hg,Option.map_some,Option.getD_some,Seg.shp,Shp.width]
      refine qGe (g':=.arr k n (l.set j a)) ho hg (by simp[Seg.shp]) ⟨by simp[o1],fun y hy=>?_⟩ _ [S.i k a] ?_ ?_
      ·rcases List.mem_or_eq_of_mem_set hy with h | h
       ·exact o2 y h
       ·rw[h];exact hx
      ·simp only[Seg.flat]
       rw[show j*1+col=j by omega,qJI l j a (by omega),qYB];rfl
      ·simp[Seg.flat,o1];omega
   ·rename_i n l j lim hg
    split at h<;>try cases h
    rename_i a
    obtain⟨h1,w,m,h2,h3,h4⟩:=hr
    rw[qAM hg] at h2
    simp[Seg.shp] at h2
    obtain⟨rfl,rfl⟩:=h2
    have o1:l.length=n:=qAx ho hg
    simp only[qX,qAM hg,Option.map_some,Option.getD_some,Seg.shp,Shp.width]
    refine qGe ho hg (by simp[Seg.shp]) (by simpa[Seg.ok] using o1) _ [S.b a] ?_ ?_
    ·simp only[Seg.flat]
     rw[show j*1+col=j by omega,qJI l j a (by omega),qYB];rfl
    ·simp[Seg.flat,o1];omega
   ·rename_i ks n xs j lim hg
    obtain⟨h1,w,m,h2,h3,h4⟩:=hr
    rw[qAM hg] at h2
    simp[Seg.shp] at h2
    obtain⟨rfl,rfl⟩:=h2
    have hok:=qAx ho hg
    have hrow:=qL0 hok (j:=j) (by omega)
    have main:∀ (c:CK) (a:Int),ks[col]? = some c->qFr c a->Stored segs (qX (qU segs) sg (some (j,lim)) col) [mk c a] (segs.set sg (.rows ks n (xs.set j ((xs.getD j []).set col a)))):=by
     intro c a hk hca
     have hkl:(ks.drop col).take [c].length=[c]:=by simpa[sub] using qGk hk
     have hov:(xs.getD j []).set col a=(xs.getD j []).take col++[a]++(xs.getD j []).drop (col+[c].length):=by
      rw[qJI _ _ _ (by rw[qDL hrow];exact h4)];rfl
     have hro:=qbh (t:=[a]) (cs:=[c]) hrow ⟨hca,trivial⟩ hkl
     have hmo:=qYJ (t:=[a]) (cs:=[c]) (qDL hrow) rfl hkl (by simp;omega)
     rw[<- hov] at hro hmo
     have hst:=qbm hok (j:=j) (by omega) (col:=col) (new:=[mk c a]) hro (by simp;omega) hmo
     simp only[qX,qAM hg,Option.map_some,Option.getD_some,Seg.shp,Shp.width]
     refine qGe ho hg (by simp[Seg.shp]) hst.1 _ _ hst.2 ?_
     rw[Seg.flat_length hok];simp only[Seg.shp,Shp.size,List.length_cons,List.length_nil]
     have:(j+1)*ks.length<=n*ks.length:=Nat.mul_le_mul_right _ (by omega)
     rw[Nat.add_mul] at this;omega
    rw[qUj h4] at h
    split at h<;>try cases h
    ·rename_i k k' a hk
     cases hc:decide (k=k') with
     | false=>rw[hc] at h;cases h
     | true=>
       rw[hc] at h
       cases h
       have hc:k=k':=by simpa using hc
       subst hc
       exact main _ _ hk hx
    ·rename_i a hk
     have:=main _ (bi a) hk (by cases a;exact .inl rfl;exact .inr rfl)
     simpa[mk,qGu] using this
    ·rename_i a hk
     have:=main _ (qBL a) hk (qNy a)
     simpa[mk,qHB] using this
   ·cases h
 | agg gs=>
   simp only[storeAt] at h
   simp only[V.flat]
   have hgo:oks gs:=hv
   split at h
   ·split at h
    ·rename_i ws vs hg
     cases hc:Nat.ble (col+ws.length) vs.length with
     | false=>rw[hc] at h;cases h
     | true=>
       rw[hc] at h
       cases h
       have hc:=Nat.le_of_ble_eq_true hc
       simp only[qX]
       have e:qc [Seg.one ws]=ws:=by simp[Seg.flat]
       rw[e]
       refine qGe (g':=.one (vs.take col++ws++vs.drop (col+ws.length))) ho hg (by simp[Seg.shp];omega) trivial col ws rfl (by simpa[Seg.flat] using hc)
    ·rename_i gs _ _ hg
     cases hc:(Nat.beq col 0&&qAI gs ((segs.drop sg).take gs.length)) with
     | false=>rw[hc] at h;cases h
     | true=>
       rw[hc] at h
       cases h
       simp only[Bool.and_eq_true,Nat.beq_eq] at hc
       obtain⟨rfl,hf⟩:=hc
       have hsh:=qXy hf
       have hok:oks ((segs.drop sg).take gs.length):=qLO _ (qPw _ ho)
       have hlen:(qc ((segs.drop sg).take gs.length)).length=(qc gs).length:=by rw[qHH hok,qHH hgo,hsh]
       have hsegs:segs=segs.take sg++((segs.drop sg).take gs.length++segs.drop (sg+gs.length)):=by
        conv=>lhs;rw[<- List.take_append_drop sg segs,<- List.take_append_drop gs.length (segs.drop sg),List.drop_drop]
       have hsplit:qc segs=qc (segs.take sg)++(qc ((segs.drop sg).take gs.length)++qc (segs.drop (sg+gs.length))):=by
        conv=>lhs;rw[hsegs,qE1,qE1]
       have hoff:qX (qU segs) sg none 0=(qc (segs.take sg)).length+0:=by simp only[qX];rw[qFy sg ho]
       refine⟨?_,?_,?_,?_⟩
       ·rw[hoff,hsplit,qHk,qPz _ _ _ _ (by omega),qlg _ _ hlen.symm,qE1,qE1,List.append_assoc]
       ·rw[qYh,qYh]
        exact⟨⟨qLO _ ho,hgo⟩,qPw _ ho⟩
       ·conv=>rhs;rw[hsegs]
        rw[qMH,qMH,qMH,qMH,hsh,List.append_assoc]
       ·rw[hoff,hsplit,List.length_append,List.length_append,hlen];omega
   ·rename_i j lim
    split at h<;>try cases h
    ·rename_i ks n xs hg
     split at h<;>try cases h
     rename_i cs r htr
     cases hc:decide ((ks.drop col).take cs.length=cs) with
     | false=>rw[hc] at h;cases h
     | true=>
       rw[hc] at h
       cases h
       have hc:(ks.drop col).take cs.length=cs:=by simpa using hc
       obtain⟨h1,w,m,h2,h3,h4⟩:=hr
       rw[qAM hg] at h2
       simp[Seg.shp] at h2
       obtain⟨rfl,rfl⟩:=h2
       have hok:=qAx ho hg
       have hrow:=qL0 hok (j:=j) (by omega)
       obtain⟨t1,t2⟩:=qdO gs cs r htr hgo hrng
       have hcl:col+cs.length<=ks.length:=by
        have:=congrArg List.length hc
        simp[List.length_take] at this
        omega
       have hst:=qbm hok (j:=j) (by omega) (col:=col) (new:=mks cs r) (qbh hrow t2 hc) (by rw[qBP];exact hcl) (qYJ (qDL hrow) (qDL t2) hc hcl)
       simp only[qX,qAM hg,Option.map_some,Option.getD_some,Seg.shp,Shp.width]
       rw[t1]
       refine qGe ho hg (by simp[Seg.shp]) hst.1 _ _ hst.2 ?_
       rw[Seg.flat_length hok,qBP];simp only[Seg.shp,Shp.size]
       have:(j+1)*ks.length<=n*ks.length:=Nat.mul_le_mul_right _ (by omega)
       rw[Nat.add_mul] at this;omega
    ·rename_i k n l hg
     split at h<;>try cases h
     rename_i k' n' l'
     cases hc:(decide (k=k')&&Nat.ble n' lim) with
     | false=>rw[hc] at h;cases h
     | true=>
       rw[hc] at h
       cases h
       simp only[Bool.and_eq_true,decide_eq_true_eq] at hc
       obtain⟨rfl,hn⟩:=hc
       have hn:=Nat.le_of_ble_eq_true hn
       obtain⟨h1,w,m,h2,h3,h4⟩:=hr
       rw[qAM hg] at h2
       simp[Seg.shp] at h2
       obtain⟨rfl,rfl⟩:=h2
       obtain⟨o1,o2⟩:=qAx ho hg
       obtain⟨q1,q2⟩:(Seg.arr k n' l').ok:=hgo _ (by simp)
       simp only[qX,qAM hg,Option.map_some,Option.getD_some,Seg.shp,Shp.width]
       have e:qc [Seg.arr k n' l']=l'.map (S.i k):=by simp[Seg.flat]
       rw[e]
       refine qGe (g':=.arr k n (l.take j++l'++l.drop (j+n'))) ho hg (by simp[Seg.shp]) ⟨?_,fun y hy=>?_⟩ _ _ ?_ ?_
       ·simp;omega
       ·rcases List.mem_append.1 hy with hy | hy
        ·rcases List.mem_append.1 hy with hy | hy
         ·exact o2 y (List.mem_of_mem_take hy)
         ·exact q2 y hy
        ·exact o2 y (List.mem_of_mem_drop hy)
       ·simp only[Seg.flat]
        rw[show j*1+col=j by omega]
        simp[over,q1]
       ·simp[Seg.flat,o1,q1];omega
end Go.Kk
