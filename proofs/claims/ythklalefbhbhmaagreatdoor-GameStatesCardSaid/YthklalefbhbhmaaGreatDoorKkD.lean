/-
 Operations that only look: their answer hangs on the objects that they look at alone. One step of a region.
-/
import Derived.Test.YthklalefbhbhmaaGreatDoorKkX
namespace Go.Kk
section
variable {P:Program} {o:Oper} {ρ:Rg} {h:Hp} {nx:Nat} {c:Ctx} {R:Type} {K:Kt R} {r:R}
abbrev idK:Kt (V×Hp×Nat):=fun v up nx=>some (v,up,nx)
theorem qjv (g:Seg):g.like g=true:=by cases g<;>simp[Seg.like]
theorem qju (l:List Seg):qAI l l=true:=by
 induction l with
 | nil=>rfl
 | cons g l ih=>simp[qAI,qjv,ih]
theorem qjx {a b:Seg} (h:a.like b=true):b.like a=true:=by
 cases a<;>cases b<;>simp[Seg.like] at h ⊢ <;> simp[h]
theorem qPb:∀ {l m:List Seg},qAI l m=true->qAI m l=true
 | [],[],_=>rfl
 | a :: l,b :: m,h=>by
   simp only[qAI,Bool.and_eq_true] at h ⊢
   exact⟨qjx h.1,qPb h.2⟩
 | [],_ :: _,h=>by cases h
 | _ :: _,[],h=>by cases h
theorem qjy {a b c:Seg} (h:a.like b=true) (h':b.like c=true):a.like c=true:=by
 cases a<;>cases b<;>simp[Seg.like] at h<;>cases c<;>simp[Seg.like] at h' ⊢ <;> simp[h,h']
theorem qPc:∀ {l m n:List Seg},qAI l m=true->qAI m n=true->qAI l n=true
 | [],[],[],_,_=>rfl
 | a :: l,b :: m,c :: n,h,h'=>by
   simp only[qAI,Bool.and_eq_true] at h h' ⊢
   exact⟨qjy h.1 h'.1,qPc h.2 h'.2⟩
 | [],[],_ :: _,_,h=>by cases h
 | [],_ :: _,_,h,_=>by cases h
 | _ :: _,[],_,h,_=>by cases h
 | _ :: _,_ :: _,[],_,h=>by cases h
theorem qjE (g:Seg):g.kin g=true:=by cases g<;>simp[Seg.kin]
theorem qjF {a b:Seg} (h:a.kin b=true):b.kin a=true:=by
 cases a<;>cases b<;>simp[Seg.kin] at h ⊢ <;> simp[h]
theorem qjG {a b c:Seg} (h:a.kin b=true) (h':b.kin c=true):a.kin c=true:=by
 cases a<;>cases b<;>simp[Seg.kin] at h<;>cases c<;>simp[Seg.kin] at h' ⊢ <;> simp[h,h']
theorem qpQ (x:Obj):qAD x x=true:=by cases x<;>simp[qAD,qju,qjE]
theorem qpR {x y:Obj} (h:qAD x y=true):qAD y x=true:=by
 cases x<;>cases y<;>simp[qAD] at h ⊢
 ·exact⟨h.1.symm,qPb h.2⟩
 ·exact⟨h.1.symm,qPb h.2⟩
 ·exact⟨⟨h.1.1.symm,h.1.2.symm⟩,qjF h.2⟩
 ·exact⟨⟨⟨h.1.1.1.symm,h.1.1.2.symm⟩,h.1.2.symm⟩,h.2.symm⟩
 ·exact⟨⟨⟨⟨h.1.1.1.1.symm,h.1.1.1.2.symm⟩,h.1.1.2.symm⟩,h.1.2.symm⟩,h.2.symm⟩
 ·exact⟨h.1.symm,h.2.symm⟩
theorem qpP {x:Obj} {T:TypeId} {ps:PS} (h:qAD x (.pol T ps)=true):x=.pol T ps:=by
 cases x<;>simp[qAD] at h
 rw[h.1,h.2]
theorem qpS {x y z:Obj} (h:qAD x y=true) (h':qAD y z=true):qAD x z=true:=by
 cases x<;>cases y<;>simp[qAD] at h<;>cases z<;>simp[qAD] at h' ⊢
 ·exact⟨h.1.trans h'.1,qPc h.2 h'.2⟩
 ·exact⟨h.1.trans h'.1,qPc h.2 h'.2⟩
 ·exact⟨⟨h.1.1.trans h'.1.1,h.1.2.trans h'.1.2⟩,qjG h.2 h'.2⟩
 ·exact⟨⟨⟨h.1.1.1.trans h'.1.1.1,h.1.1.2.trans h'.1.1.2⟩,h.1.2.trans h'.1.2⟩,h.2.trans h'.2⟩
 ·exact⟨⟨⟨⟨h.1.1.1.1.trans h'.1.1.1.1,h.1.1.1.2.trans h'.1.1.1.2⟩,h.1.1.2.trans h'.1.1.2⟩,h.1.2.trans h'.1.2⟩,h.2.trans h'.2⟩
 ·exact⟨h.1.trans h'.1,h.2.trans h'.2⟩
theorem qX0 {a b:Seg} (h:a.like b=true) (t:SegT):a.fits t=b.fits t:=by
 cases a<;>cases b<;>simp[Seg.like] at h<;>cases t<;>simp[Seg.fits,h]
theorem qXx:∀ {l m:List Seg},qAI l m=true->∀ ts,qBr l ts=qBr m ts
 | [],[],_,ts=>rfl
 | a :: l,b :: m,h,ts=>by
   simp only[qAI,Bool.and_eq_true] at h
   cases ts with
   | nil=>rfl
   | cons t ts=>simp only[qBr,qX0 h.1,qXx h.2]
 | [],_ :: _,h,_=>by cases h
 | _ :: _,[],h,_=>by cases h
theorem qXw:∀ (n:Nat) {l m:List Seg},qAI l m=true->qAI (l.drop n) (m.drop n)=true
 | 0,l,m,h=>h
 | n+1,[],[],_=>rfl
 | n+1,a :: l,b :: m,h=>by
   simp only[qAI,Bool.and_eq_true] at h
   exact qXw n h.2
 | _+1,[],_ :: _,h=>by cases h
 | _+1,_ :: _,[],h=>by cases h
theorem qXz:∀ (n:Nat) {l m:List Seg},qAI l m=true->qAI (l.take n) (m.take n)=true
 | 0,l,m,h=>by simp[qAI]
 | n+1,[],[],_=>rfl
 | n+1,a :: l,b :: m,h=>by
   simp only[qAI,Bool.and_eq_true,List.take_succ_cons] at h ⊢
   exact⟨h.1,qXz n h.2⟩
 | _+1,[],_ :: _,h=>by cases h
 | _+1,_ :: _,[],h=>by cases h
theorem qK5:∀ {l m:List Seg} (i:Nat),qAI l m=true->(l[i]? = none /\ m[i]? = none) \/ ∃ a b,l[i]? = some a /\ m[i]? = some b /\ a.like b=true
 | [],[],i,_=>.inl ⟨by simp,by simp⟩
 | a :: l,b :: m,0,h=>by
   simp only[qAI,Bool.and_eq_true] at h
   exact .inr ⟨a,b,by simp,by simp,h.1⟩
 | a :: l,b :: m,i+1,h=>by
   simp only[qAI,Bool.and_eq_true] at h
   simpa using qK5 i h.2
 | [],_ :: _,_,h=>by cases h
 | _ :: _,[],_,h=>by cases h
theorem qL4 {x y:Obj} (h:qAD x y=true) (hc:x.isCell=true):qAI x.segs y.segs=true:=by
 cases x<;>cases y<;>simp[qAD] at h<;>simp[Obj.isCell] at hc<;>simp[Obj.segs,h]
theorem qL3 {x y:Obj} (h:qAD x y=true):x.isMem=y.isMem:=by cases x<;>cases y<;>simp[qAD] at h<;>rfl
theorem qJb {x y:Obj} (h:qAD x y=true):x.isCell=y.isCell:=by cases x<;>cases y<;>simp[qAD] at h<;>rfl
theorem qbt {x y:Obj} (h:qAD x y=true):x.live=y.live:=by cases x<;>cases y<;>simp[qAD] at h<;>rfl
theorem qR2 {x y:Obj} (h:qAD x y=true) (sg:Nat):qDS x sg=qDS y sg:=by
 cases hc:x.isCell with
 | true=>
   unfold qDS
   rcases qK5 sg (qL4 h hc) with⟨h1,h2⟩ | ⟨a,b,h1,h2,h3⟩
   ·rw[h1,h2]
   ·rw[h1,h2]
    cases a<;>cases b<;>simp[Seg.like] at h3<;>simp[h3]
 | false=>
   cases x<;>cases y<;>simp[qAD] at h<;>simp[Obj.isCell] at hc<;>try rfl
   rename_i g _ _ g'
   unfold qDS
   cases sg with
   | succ n=>simp[Obj.segs]
   | zero=>
     obtain⟨_,h3⟩:=h
     cases g<;>cases g'<;>simp[Seg.kin] at h3<;>simp[Obj.segs,h3]
theorem qR1 {x y:Obj} (h:qAD x y=true) (sg col n:Nat) (t:SegT):qD4 (x.segs[sg]?) col n t=qD4 (y.segs[sg]?) col n t:=by
 cases hc:x.isCell with
 | true=>
   rcases qK5 sg (qL4 h hc) with⟨h1,h2⟩ | ⟨a,b,h1,h2,h3⟩
   ·rw[h1,h2]
   ·rw[h1,h2]
    cases a<;>cases b<;>simp[Seg.like] at h3<;>cases t<;>simp[qD4,h3]
 | false=>
   cases x<;>cases y<;>simp[qAD] at h<;>simp[Obj.isCell] at hc<;>try rfl
   rename_i g _ _ g'
   cases sg with
   | succ n=>simp[Obj.segs]
   | zero=>
     obtain⟨_,h3⟩:=h
     cases g<;>cases g'<;>simp[Seg.kin] at h3<;>cases t<;>simp[Obj.segs,qD4,h3]
theorem qbs {x y:Obj} (h:qAD x y=true) (sg:Nat) (t:SegT):(x.isCell&&qKa (x.segs[sg]?) t)=(y.isCell&&qKa (y.segs[sg]?) t):=by
 rw[qJb h]
 cases hc:y.isCell with
 | false=>rfl
 | true=>
   rcases qK5 sg (qL4 h (by rw[qJb h];exact hc)) with⟨h1,h2⟩ | ⟨a,b,h1,h2,h3⟩
   ·rw[h1,h2]
   ·rw[h1,h2]
    simp only[Bool.true_and]
    exact qX0 h3 t
theorem qpO {x y:Obj} (h:qAD x y=true) (c:Bool) (sg fs:Nat) (ts:List SegT):(c&&x.isCell&&qBr ((x.segs.drop sg).take fs) ts)=(c&&y.isCell&&qBr ((y.segs.drop sg).take fs) ts):=by
 rw[qJb h]
 cases hc:y.isCell with
 | false=>simp
 | true=>rw[qXx (qXz fs (qXw sg (qL4 h (by rw[qJb h];exact hc)))) ts]
theorem qR0 {x y:Obj} (h:qAD x y=true) (e:Option Seg):qBa x e=qBa y e:=by
 cases x<;>cases y<;>simp[qAD] at h<;>try rfl
 rename_i g _ _ g'
 obtain⟨_,h3⟩:=h
 cases g<;>cases g'<;>simp[Seg.kin] at h3<;>cases e<;>try rfl
 all_goals rename_i z;cases z<;>simp[qBa,h3]
def qCS (deep:Bool) (x y:Obj):Prop:=match deep with
 | true=>x=y
 | false=>qAD x y=true
theorem qJE (d:Bool) (x:Obj):qCS d x x:=by cases d;exact qpQ x;exact rfl
theorem qkY {d:Bool} {x y:Obj} (h:qCS d x y):qCS d y x:=by cases d;exact qpR h;exact Eq.symm h
theorem qkZ {d:Bool} {x y z:Obj} (h:qCS d x y) (h':qCS d y z):qCS d x z:=by cases d;exact qpS h h';exact Eq.trans h h'
def qS5 (c:Ctx) (o:Oper) (ρ:Rg) (h:Hp) (nx:Nat) (K:Kt R) (r:R):Prop:=
 ∃ v,K v [] nx=some r /\ ∀ h2 nx2,(∀ ob∈qBR ρ o,qCS (qBp o.op) (Hp.get h2 ob) (Hp.get h ob))->qk c o ρ h2 nx2 idK=some (v,[],nx2)
theorem qBZ {x:Operand} {z:S} {ob:Nat} (hm:x∈o.op.operands) (hx:ev ρ x=.s z) (hob:ob∈z.refs):ob∈qBR ρ o:=by
 unfold qBR
 refine List.mem_flatMap.2 ⟨x,by simpa using hm,?_⟩
 rw[hx];exact hob
theorem qLc {x:Operand} {ty:TypeId} (hs:Operand.noSl x=true) (hE:qDq c ρ x ty nx K=some r):∃ v,K v [] nx=some r /\ ∀ nx2,qDq c ρ x ty nx2 idK=some (v,[],nx2):=by
 have hp:∀ {R:Type} (K:Kt R) (nx:Nat),qDq c ρ x ty nx K=(match ev ρ x with
   | .s z=>K (.s z) [] nx
   | .agg l=>K (.agg l) [] nx
   | .tup l=>K (.tup l) [] nx):=by
  intro R K nx
  unfold qDq
  split
  ·simp[Operand.noSl] at hs
  ·rfl
 rw[hp] at hE
 refine⟨ev ρ x,?_,fun nx2=>?_⟩
 ·split at hE<;>(rename_i e;rw[e];exact hE)
 ·rw[hp];split<;>(rename_i e;rw[e])
theorem qqP {ob l len:Nat} {full:Bool} {lo hi mx:Option Operand} (hE:qIO ρ ob l len full lo hi mx nx K=some r):∃ v,K v [] nx=some r /\ ∀ nx2,qIO ρ ob l len full lo hi mx nx2 idK=some (v,[],nx2):=by
 unfold qIO at hE ⊢
 have hlo:∀ {h':Nat} {f1:Bool},loE ρ h' lo (fun l' f2=>K (.s (.sl ob (l+l') (h' - l') (full&&f1&&f2))) [] nx)=some r->
   ∃ v,K v [] nx=some r /\ ∀ nx2,loE ρ h' lo (fun l' f2=>idK (.s (.sl ob (l+l') (h' - l') (full&&f1&&f2))) [] nx2)=some (v,[],nx2):=by
  intro h' f1 hE
  unfold loE at hE ⊢
  split at hE
  ·exact⟨_,hE,fun nx2=>rfl⟩
  ·split at hE<;>try cases hE
   rcases qAG hE with⟨hb,hE⟩ | ⟨_,hE⟩<;>try cases hE
   exact⟨_,hE,fun nx2=>by rw[hb];rfl⟩
 have hmx:∀ {h':Nat},mxE ρ len h' hi mx (fun f1=>loE ρ h' lo (fun l' f2=>K (.s (.sl ob (l+l') (h' - l') (full&&f1&&f2))) [] nx))=some r->
   ∃ v,K v [] nx=some r /\ ∀ nx2,mxE ρ len h' hi mx (fun f1=>loE ρ h' lo (fun l' f2=>idK (.s (.sl ob (l+l') (h' - l') (full&&f1&&f2))) [] nx2))=some (v,[],nx2):=by
  intro h' hE
  unfold mxE at hE ⊢
  split at hE
  ·exact hlo hE
  ·split at hE<;>try cases hE
   rcases qAG hE with⟨hb,hE⟩ | ⟨_,hE⟩<;>try cases hE
   obtain⟨v,h1,h2⟩:=hlo hE
   exact⟨v,h1,fun nx2=>by rw[hb];exact h2 nx2⟩
 unfold hiE at hE ⊢
 split at hE
 ·exact hmx hE
 ·split at hE<;>try cases hE
  rcases qAG hE with⟨hb,hE⟩ | ⟨_,hE⟩<;>try cases hE
  obtain⟨v,h1,h2⟩:=hmx hE
  exact⟨v,h1,fun nx2=>by rw[hb];exact h2 nx2⟩
theorem qUY {h2:Hp}:∀ {l:List Operand} {qs:List Nat},qDd ρ h l=some qs->(∀ x∈l,∀ z,ev ρ x=.s z->∀ ob∈z.refs,qAD (Hp.get h2 ob) (Hp.get h ob)=true)->qDd ρ h2 l=some qs
 | [],qs,hq,_=>by simpa[qDd] using hq
 | x :: l,qs,hq,hs=>by
   simp only[qDd] at hq ⊢
   split at hq<;>try cases hq
   rename_i q l' hx hl
   obtain⟨hb,hq⟩:=qg hq
   rw[hx,qUY hl fun y hy=>hs y (by simp[hy])]
   simp only
   rw[qJb (hs x (by simp) _ hx q (by simp[S.refs])),hb]
   exact hq
theorem qqU (hc:CtxOK P c) (hs:qA0 o.op=true) (hE:qk c o ρ h nx K=some r):qS5 c o ρ h nx K r:=by
 unfold qS5
 unfold qk at hE
 split at hE
 ·rename_i x ho
  rw[ho] at hs
  obtain⟨v,h1,h2⟩:=qLc hs hE
  exact⟨v,h1,fun h2' nx2 _=>by simp only[qk,ho];exact h2 nx2⟩
 ·rename_i x ho
  rw[ho] at hs
  obtain⟨v,h1,h2⟩:=qLc hs hE
  exact⟨v,h1,fun h2' nx2 _=>by simp only[qk,ho];exact h2 nx2⟩
 ·rename_i t x y ho
  rw[ho] at hs
  simp only[qA0,Bool.and_eq_true] at hs
  split at hE<;>try cases hE
  rename_i z ht
  rcases qAG hE with⟨rfl,hE⟩ | ⟨rfl,hE⟩
  ·obtain⟨v,h1,h2⟩:=qLc hs.1 hE
   exact⟨v,h1,fun h2' nx2 _=>by simp only[qk,ho,ht];exact h2 nx2⟩
  ·obtain⟨v,h1,h2⟩:=qLc hs.2 hE
   exact⟨v,h1,fun h2' nx2 _=>by simp only[qk,ho,ht];exact h2 nx2⟩
 ·rename_i ho;rw[ho] at hs;cases hs
 ·rename_i ho;rw[ho] at hs;cases hs
 ·rename_i ho;rw[ho] at hs;cases hs
 ·rename_i t x ho
  split at hE<;>try cases hE
  rename_i ob sg row col hx
  have hm:ob∈qBR ρ o:=qBZ (by simp[ho,Op.operands]) hx (by simp[S.refs])
  split at hE<;>try cases hE
  ·rename_i T l L hob hL
   split at hE<;>try cases hE
   rename_i v hv
   exact⟨_,hE,fun h2 nx2 hag=>by have e:=hag ob hm;rw[ho] at e;have e:Hp.get h2 ob=Hp.get h ob:=e;simp only[qk,ho,hx,e,hob,hL,hv]⟩
  ·rename_i T l L hob hL
   split at hE<;>try cases hE
   rename_i v hv
   exact⟨_,hE,fun h2 nx2 hag=>by have e:=hag ob hm;rw[ho] at e;have e:Hp.get h2 ob=Hp.get h ob:=e;simp only[qk,ho,hx,e,hob,hL,hv]⟩
  ·rename_i T ro g L hob hL
   split at hE<;>try cases hE
   rename_i v hv
   exact⟨_,hE,fun h2 nx2 hag=>by have e:=hag ob hm;rw[ho] at e;have e:Hp.get h2 ob=Hp.get h ob:=e;simp only[qk,ho,hx,e,hob,hL,hv]⟩
  ·rename_i g j hx
   split at hE<;>try cases hE
   rename_i k l k' hg hL
   obtain⟨hk,hE⟩:=qg hE
   exact⟨_,hE,fun h2 nx2 _=>by simp only[qk,ho,hx,hg,hL,hk,cond_true]⟩
 ·rename_i ho;rw[ho] at hs;cases hs
 ·rename_i x ho
  split at hE<;>try cases hE
  rename_i ob sg row col hx
  have hm:ob∈qBR ρ o:=qBZ (by simp[ho,Op.operands]) hx (by simp[S.refs])
  obtain⟨hl,hE⟩:=qg hE
  exact⟨_,hE,fun h2 nx2 hag=>by have e:=hag ob hm;rw[ho] at e;simp only[qk,ho,hx,qbt e,hl,cond_true]⟩
 ·rename_i op t x y yt ho
  have qE9:∀ {k:IntKind} {a d:Int},qDC op k a d (fun z=>K (.s z) [] nx)=some r->∃ v,K v [] nx=some r /\ ∀ nx2,qDC op k a d (fun z=>idK (.s z) [] nx2)=some (v,[],nx2):=by
   intro k a d hE
   cases op<;>simp only[qDC] at hE ⊢ <;> first
    | exact⟨_,hE,fun _=>rfl⟩
    | (rcases qAG hE with⟨hz,hE⟩ | ⟨hz,hE⟩<;>first | cases hE | exact⟨_,hE,fun _=>by rw[hz];rfl⟩)
  have eqs:∀ {z:Bool},qEF op z (fun z=>K z [] nx)=some r->∃ v,K v [] nx=some r /\ ∀ nx2,qEF op z (fun z=>idK z [] nx2)=some (v,[],nx2):=by
   intro z hE
   rcases qHD hE with⟨rfl,hE⟩ | ⟨rfl,hE⟩<;>exact⟨_,hE,fun _=>rfl⟩
  split at hE
  ·rename_i k a k' d hx hy
   split at hE
   ·obtain⟨v,h1,h2⟩:=qE9 hE
    exact⟨v,h1,fun _ nx2 _=>by simp only[qk,ho,hx,hy];exact h2 nx2⟩
   ·obtain⟨v,h1,h2⟩:=qE9 hE
    exact⟨v,h1,fun _ nx2 _=>by simp only[qk,ho,hx,hy];exact h2 nx2⟩
   ·rename_i n1 n2
    obtain⟨hk,hE⟩:=qg hE
    obtain⟨v,h1,h2⟩:=qE9 hE
    refine⟨v,h1,fun _ nx2 _=>?_⟩
    have:=h2 nx2
    cases op<;>first | exact absurd rfl n1 | exact absurd rfl n2 | (simp only[qk,ho,hx,hy,hk,cond_true];exact this)
  ·rename_i l m hx hy
   split at hE<;>try cases hE
   rename_i L hL
   obtain⟨hb,hE⟩:=qg hE
   split at hE<;>try cases hE
   rename_i z hz
   obtain⟨v,h1,h2⟩:=eqs hE
   exact⟨v,h1,fun _ nx2 _=>by simp only[qk,ho,hx,hy,hL,hb,cond_true,hz];exact h2 nx2⟩
  ·rename_i a d _ hx hy
   split at hE<;>try cases hE
   ·rename_i p q hL _
    obtain⟨v,h1,h2⟩:=eqs hE
    exact⟨v,h1,fun _ nx2 _=>by simp only[qk,ho,hx,hy,hL];exact h2 nx2⟩
   ·rename_i hL _
    obtain⟨v,h1,h2⟩:=eqs hE
    exact⟨v,h1,fun _ nx2 _=>by simp only[qk,ho,hx,hy,hL];exact h2 nx2⟩
   ·rename_i ob' _ _ _ hL _
    obtain⟨hm',hE⟩:=qg hE
    obtain⟨v,h1,h2⟩:=eqs hE
    exact⟨v,h1,fun _ nx2 hag=>by have e:=hag ob' (qBZ (by simp[ho,Op.operands]) hy (by simp[S.refs]));rw[ho] at e;simp only[qk,ho,hx,hy,hL,qL3 e,hm',cond_true];exact h2 nx2⟩
   ·rename_i ob' _ _ _ hL _
    obtain⟨hm',hE⟩:=qg hE
    obtain⟨v,h1,h2⟩:=eqs hE
    exact⟨v,h1,fun _ nx2 hag=>by have e:=hag ob' (qBZ (by simp[ho,Op.operands]) hx (by simp[S.refs]));rw[ho] at e;simp only[qk,ho,hx,hy,hL,qL3 e,hm',cond_true];exact h2 nx2⟩
  ·cases hE
 ·rename_i ho
  split at hE<;>try cases hE
  rename_i z hx
  split at hE<;>try cases hE
  rename_i z' hz
  exact⟨_,hE,fun _ nx2 _=>by simp only[qk,ho,hx,hz]⟩
 ·rename_i src dst x ho
  split at hE<;>try cases hE
  rename_i k n k' Ls hx hd hs'
  exact⟨_,hE,fun _ nx2 _=>by simp only[qk,ho,hx,hd,hs']⟩
 ·rename_i t x f ho
  split at hE<;>try cases hE
  rename_i ob sg row col ts fl hx hL
  have hm:ob∈qBR ρ o:=qBZ (by simp[ho,Op.operands]) hx (by simp[S.refs])
  split at hE<;>try cases hE
  rename_i fs fc ft hf
  split at hE
  ·cases hb:(Nat.beq fs 0&&(h.get ob).isMem) with
   | true=>
     rw[hb] at hE
     exact⟨_,hE,fun h2 nx2 hag=>by have e:=hag ob hm;rw[ho] at e;simp only[qk,ho,hx,hL,hf,qL3 e,hb,cond_true]⟩
   | false=>
     rw[hb] at hE
     obtain⟨hb2,hE⟩:=qg hE
     exact⟨_,hE,fun h2 nx2 hag=>by have e:=hag ob hm;rw[ho] at e;simp only[qk,ho,hx,hL,hf,qL3 e,qpO e,hb,hb2,cond_true,cond_false]⟩
  ·obtain⟨hb,hE⟩:=qg hE
   rw[qCM] at hE
   exact⟨_,hE,fun h2 nx2 hag=>by have e:=hag ob hm;rw[ho] at e;simp only[qk,ho,hx,hL,hf,qR2 e,hb,cond_true,qCM]⟩
 ·rename_i t x f ho
  split at hE<;>try cases hE
  rename_i l ts fl hx hL
  split at hE<;>try cases hE
  rename_i fs fc ft hf
  split at hE<;>try cases hE
  rename_i L hft
  split at hE<;>try cases hE
  rename_i v hv
  exact⟨_,hE,fun _ nx2 _=>by simp only[qk,ho,hx,hL,hf,hft,hv]⟩
 ·rename_i t x y ho
  split at hE<;>try cases hE
  ·rename_i ob sg row col k j n m e t' hx hy hL
   have hm':ob∈qBR ρ o:=qBZ (by simp[ho,Op.operands]) hx (by simp[S.refs])
   rcases qAG hE with⟨hj,hE1⟩ | ⟨_,hE1⟩<;>try cases hE1
   replace hE:=hE1
   clear hE1
   split at hE
   ·obtain⟨hb,hE⟩:=qg hE
    cases hm:Nat.beq m 1 with
    | true=>rw[hm] at hE;exact⟨_,hE,fun h2 nx2 hag=>by have e:=hag ob hm';rw[ho] at e;simp only[qk,ho,hx,hy,hL,hj,qbs e,hb,hm,cond_true,br]⟩
    | false=>rw[hm] at hE;exact⟨_,hE,fun h2 nx2 hag=>by have e:=hag ob hm';rw[ho] at e;simp only[qk,ho,hx,hy,hL,hj,qbs e,hb,hm,cond_true,cond_false,br]⟩
   ·rename_i q lim
    cases hcel:qD4 ((h.get ob).segs[sg]?) col (n*m) t' with
    | true=>
      rw[hcel] at hE
      exact⟨_,hE,fun h2 nx2 hag=>by have e:=hag ob hm';rw[ho] at e;simp only[qk,ho,hx,hy,hL,hj,qR1 e,hcel,cond_true,br]⟩
    | false=>
    rw[hcel] at hE
    obtain⟨hb,hE⟩:=qg hE
    cases hm:Nat.beq m 1 with
    | true=>rw[hm] at hE;exact⟨_,hE,fun h2 nx2 hag=>by have e:=hag ob hm';rw[ho] at e;simp only[qk,ho,hx,hy,hL,hj,qR1 e,hcel,cond_false,qR2 e,hb,hm,cond_true,br]⟩
    | false=>rw[hm] at hE;exact⟨_,hE,fun h2 nx2 hag=>by have e:=hag ob hm';rw[ho] at e;simp only[qk,ho,hx,hy,hL,hj,qR1 e,hcel,cond_false,qR2 e,hb,hm,cond_true,cond_false,br]⟩
  ·rename_i ob lo len full k j e hx hy hL
   have hm':ob∈qBR ρ o:=qBZ (by simp[ho,Op.operands]) hx (by simp[S.refs])
   obtain⟨hb,hE⟩:=qg hE
   rcases qAG hE with⟨hj,hE1⟩ | ⟨_,hE1⟩<;>try cases hE1
   replace hE:=hE1
   clear hE1
   cases full with
   | true=>
     simp only[cond_true] at hb
     exact⟨_,hE,fun h2 nx2 hag=>by have e:=hag ob hm';rw[ho] at e;simp only[qk,ho,hx,hy,hL,hj,qR0 e,cond_true,hb,br]⟩
   | false=>
     simp only[cond_false] at hb
     exact⟨_,hE,fun h2 nx2 hag=>by have e:=hag ob hm';rw[ho] at e;simp only[qk,ho,hx,hy,hL,hj,qR0 e,cond_false,hb,cond_true,br]⟩
  ·rename_i g k j n e k' n' hx hy hL
   split at hE<;>try cases hE
   rename_i k2 l hg
   obtain⟨hb,hE1⟩:=qg hE
   clear hE
   rw[hc.brg] at hE1
   rcases qAG hE1 with⟨hj,hE⟩ | ⟨_,hE⟩<;>try cases hE
   exact⟨_,hE,fun h2 nx2 _=>by simp only[qk,ho,hx,hy,hL,hg,hb,hj,cond_true,hc.brg,br]⟩
 ·rename_i t x y ho
  split at hE<;>try cases hE
  rename_i g k j n m e t' hx hy hL
  split at hE<;>try cases hE
  rename_i L he
  rcases qAG hE with⟨hj,hE1⟩ | ⟨_,hE1⟩<;>try cases hE1
  replace hE:=hE1
  clear hE1
  split at hE<;>try cases hE
  rename_i v hv
  exact⟨_,hE,fun _ nx2 _=>by simp only[qk,ho,hx,hy,hL,he,hj,hv,br]⟩
 ·rename_i x j ho
  split at hE<;>try cases hE
  rename_i l hx
  split at hE<;>try cases hE
  rename_i y hj
  exact⟨_,hE,fun _ nx2 _=>by simp only[qk,ho,hx,hj]⟩
 ·rename_i cl ho
  rw[ho] at hs
  split at hE<;>try cases hE
  ·rename_i f hcl;simp[qA0,hcl] at hs
  ·rename_i b hcl
   have e2:∀ h2 nx2,qk c o ρ h2 nx2 idK=qC6 c b cl.args.toList cl.argTypes.toList ρ h2 nx2 idK:=fun h2 nx2=>by simp only[qk,ho,hcl]
   have hE':=hE
   unfold qC6 at hE'
   split at hE'
   ·split at hE'<;>try cases hE'
    rename_i x t ha ht
    have hargs:cl.args = #[x]:=by rw[<- ha]
    split at hE'<;>try cases hE'
    case h_2=>
     rename_i ob k e' hx hL
     split at hE'<;>try cases hE'
     rename_i ka va ks vs es hob
     rcases qAG hE' with⟨hb,hE1⟩ | ⟨_,hE1⟩<;>try cases hE1
     refine⟨_,hE1,fun h2 nx2 hag=>?_⟩
     have e:=hag ob (qBZ (by simp[ho,Op.operands,Call.operands,hcl,hargs]) hx (by simp[S.refs]))
     rw[ho] at e
     have e:Hp.get h2 ob=Hp.get h ob:=e
     rw[e2]
     simp only[qC6,ha,ht,hx,hL,e,hob,hb,br]
    rename_i ob lo len full e hx hL
    obtain⟨hb,hE1⟩:=qg hE'
    refine⟨_,hE1,fun h2 nx2 hag=>?_⟩
    have e:=hag ob (qBZ (by simp[ho,Op.operands,Call.operands,hcl,hargs]) hx (by simp[S.refs]))
    rw[ho] at e
    have e:Hp.get h2 ob=Hp.get h ob:=e
    rw[e2]
    simp only[qC6,ha,ht,hx,hL,e,hb,cond_true]
   ·simp[qA0,hcl] at hs
   ·split at hE'<;>try cases hE'
    rename_i z hz
    exact⟨_,hE',fun h2 nx2 _=>by rw[e2];simp only[qC6,hz]⟩
   ·split at hE'<;>try cases hE'
    rename_i z hz
    exact⟨_,hE',fun h2 nx2 _=>by rw[e2];simp only[qC6,hz]⟩
   ·cases hE'
 ·rename_i ho;rw[ho] at hs;cases hs
 ·rename_i ho;rw[ho] at hs;cases hs
 ·rename_i t x lo hi mx ho
  split at hE<;>try cases hE
  rename_i ob l len full e hx hL
  obtain⟨hb,hE1⟩:=qg hE
  obtain⟨v,h1,h2⟩:=qqP hE1
  refine⟨v,h1,fun hp2 nx2 hag=>?_⟩
  have e:=hag ob (qBZ (by rw[ho];simp[Op.operands]) hx (by simp[S.refs]))
  rw[ho] at e
  simp only[qk,ho,hx,hL,qR0 e,hb,cond_true]
  exact h2 nx2
 ·rename_i f first caps ho
  split at hE<;>try cases hE
  rename_i qs hf hq
  refine⟨_,hE,fun hp2 nx2 hag=>?_⟩
  rw[ho] at hag
  have:=qUY (h2:=hp2) hq fun x hx z hz ob hob=>hag ob (qBZ (by rw[ho];simp only[Op.operands,Array.mem_append];exact .inr (by simpa using hx)) hz hob)
  simp only[qk,ho,hf,this]
 ·rename_i ho;rw[ho] at hs;cases hs
 ·rename_i ho;rw[ho] at hs;cases hs
 ·rename_i t m x okk ho
  split at hE<;>try cases hE
  rename_i ob Lk a Le b hm hM
  split at hE<;>try cases hE
  rename_i ka va ks vs es ka' a' r' hob hx
  obtain⟨hb,hE1⟩:=qg hE
  clear hE
  split at hE1<;>try cases hE1
  rename_i y hw
  refine⟨_,hE1,fun hp2 nx2 hag=>?_⟩
  have e:=hag ob (qBZ (by rw[ho];simp[Op.operands]) hm (by simp[S.refs]))
  rw[ho] at e
  have e:Hp.get hp2 ob=Hp.get h ob:=e
  simp only[qk,ho,hm,hM,e,hob,hx,hb,cond_true,hw]
 ·cases hE
def qdj (c:Ctx) (o:Oper) (ρ:Rg) (h:Hp) (nx:Nat) (K:Kt R) (r:R):Prop:=
 ∃ v,K v [] nx=some r /\ ∀ h2 nx2,(∀ ob∈qBR ρ o,qCS (qBp o.op) (Hp.get h2 ob) (Hp.get h ob))->opE c o ρ h2 nx2 idK=some (v,[],nx2)
theorem qWt {h2:Hp} (hs:qA0 o.op=true) (hn:∀ ob∈qBR ρ o,qCS (qBp o.op) (Hp.get h2 ob) (Hp.get h ob)):qCO c o.op ρ h2=qCO c o.op ρ h:=by
 have key:∀ op,o.op=op->qCO c op ρ h2=qCO c op ρ h:=by
  intro op ho
  cases op<;>try rfl
  ·rw[ho] at hs;cases hs
  ·rename_i t m x okk
   show qKs h2 (ev ρ m)=qKs h (ev ρ m)
   cases hm:ev ρ m with
   | s z=>cases z with
     | mp ob=>
       have e:=hn ob (qBZ (by rw[ho];simp[Op.operands]) hm (by simp[S.refs]))
       rw[ho] at e
       have e:Hp.get h2 ob=Hp.get h ob:=e
       show (Hp.get h2 ob).isMaps=(Hp.get h ob).isMaps
       rw[e]
     | _=>rfl
   | _=>rfl
  ·rw[ho] at hs;cases hs
 exact key _ rfl
theorem qqV (hs:qA0 o.op=true) (hE:qC1 c o ρ h nx K=some r):∃ v,K v [] nx=some r /\ ∀ h2 nx2,(∀ ob∈qBR ρ o,qCS (qBp o.op) (Hp.get h2 ob) (Hp.get h ob))->qC1 c o ρ h2 nx2 idK=some (v,[],nx2):=by
 unfold qC1 at hE
 split at hE
 ·rename_i t x ho
  split at hE<;>try cases hE
  rename_i p j i col hx
  split at hE<;>try cases hE
  rename_i T ps L hp hL
  split at hE<;>try cases hE
  rename_i v hv
  refine⟨_,hE,fun h2 nx2 hag=>?_⟩
  have e:=hag p (qBZ (by simp[ho,Op.operands]) hx (by simp[S.refs]))
  rw[ho] at e
  have e:Hp.get h2 p=Hp.get h p:=e
  simp only[qC1,ho,hx,e,hp,hL,hv]
 ·rename_i x ho
  split at hE<;>try cases hE
  rename_i p j i col hx
  obtain⟨hl,hE⟩:=qg hE
  refine⟨_,hE,fun h2 nx2 hag=>?_⟩
  have e:=hag p (qBZ (by simp[ho,Op.operands]) hx (by simp[S.refs]))
  rw[ho] at e
  simp only[qC1,ho,hx,qbt e,hl,cond_true]
 ·rename_i t x y ho
  split at hE<;>try cases hE
  rename_i p j k n e hx hy hL
  split at hE<;>try cases hE
  rename_i T ps hp
  obtain⟨hb,hE1⟩:=qg hE
  rcases qAG hE1 with⟨hj,hE2⟩ | ⟨_,hE2⟩<;>try cases hE2
  refine⟨_,hE2,fun h2 nx2 hag=>?_⟩
  have e:=hag p (qBZ (by simp[ho,Op.operands]) hx (by simp[S.refs]))
  rw[ho,hp] at e
  have e:=qpP e
  simp only[qC1,ho,hx,hy,hL,e,hb,hj,cond_true,br]
 ·rename_i cl ho
  rw[ho] at hs
  split at hE<;>try cases hE
  ·rename_i hcl
   split at hE<;>try cases hE
   rename_i x t ha ht
   have hargs:cl.args = #[x]:=by rw[<- ha]
   split at hE<;>try cases hE
   rename_i p j e hx hL
   split at hE<;>try cases hE
   rename_i T ps hp
   refine⟨_,hE,fun h2 nx2 hag=>?_⟩
   have e:=hag p (qBZ (by simp[ho,Op.operands,Call.operands,hcl,hargs]) hx (by simp[S.refs]))
   rw[ho] at e
   have e:Hp.get h2 p=Hp.get h p:=e
   simp only[qC1,ho,hcl,ha,ht,hx,hL,e,hp]
  ·rename_i hcl
   simp[qA0,hcl] at hs
 ·rename_i ho;rw[ho] at hs;cases hs
 ·rename_i t m x okk ho
  split at hE<;>try cases hE
  rename_i ob Lk a e hm hM
  split at hE<;>try cases hE
  rename_i ka kks ks p ka' a' r' hob hx
  obtain⟨hb,hE1⟩:=qg hE
  refine⟨_,hE1,fun h2 nx2 hag=>?_⟩
  have e:=hag ob (qBZ (by rw[ho];simp[Op.operands]) hm (by simp[S.refs]))
  rw[ho] at e
  have e:Hp.get h2 ob=Hp.get h ob:=e
  simp only[qC1,ho,hm,hM,e,hob,hx,hb,cond_true]
 ·rename_i ho;rw[ho] at hs;cases hs
 ·cases hE
theorem qqT (hc:CtxOK P c) (hs:qA0 o.op=true) (hE:opE c o ρ h nx K=some r):qdj c o ρ h nx K r:=by
 unfold opE at hE
 cases hv:qCO c o.op ρ h with
 | true=>
   rw[hv] at hE
   obtain⟨v,h1,h2⟩:=qqV hs hE
   refine⟨v,h1,fun h2' nx2 hag=>?_⟩
   unfold opE
   rw[qWt hs hag,hv]
   exact h2 h2' nx2 hag
 | false=>
   rw[hv] at hE
   obtain⟨v,h1,h2⟩:=qqU hc hs hE
   refine⟨v,h1,fun h2' nx2 hag=>?_⟩
   unfold opE
   rw[qWt hs hag,hv]
   exact h2 h2' nx2 hag
theorem qqS (hs:qA0 o.op=true):qAm o.op=false:=by
 cases hv:qAm o.op with
 | false=>rfl
 | true=>
   unfold qAm at hv
   split at hv<;>try cases hv
   rename_i cl ho
   split at hv<;>try cases hv
   rename_i f hcl
   rw[ho] at hs
   simp[qA0,hcl] at hs
theorem qmq (hv:qAm o.op=false):qAy ρ h o=qBR ρ o:=by
 unfold qAy
 split
 ·rename_i cl ho
  split
  ·rename_i f hcl
   rw[ho] at hv
   simp[qAm,hcl] at hv
  ·rfl
 ·rfl
theorem qrQ (hv:qAm o.op=true):qBp o.op=true:=by
 unfold qAm at hv
 split at hv<;>try cases hv
 rename_i cl ho
 rw[ho]
 rfl
theorem qSU {up:Hp} {nx':Nat} {rd:List Nat} (hs:qA0 o.op=false) (hd:qC3 o up nx nx' h rd=true):(qAm o.op=true \/ qBg o.op=true) /\ up=[] /\ nx'=nx /\ ∀ q∈rd,(h.get q).live=true:=by
 simp only[qC3,hs,Bool.false_or,Bool.and_eq_true,Bool.or_eq_true] at hd
 obtain⟨⟨⟨h1,h2⟩,h3⟩,h4⟩:=hd
 exact⟨h1,by simpa using h2,Nat.eq_of_beq_eq_true h3,fun q hq=>List.all_eq_true.1 h4 q hq⟩
theorem qQ.congr {ρ1:Rg} {v:V} {up:Hp} {nx':Nat} (hk:qQ P o ρ1 h nx v up nx') (he:∀ x∈o.op.operands,ev ρ1 x=ev ρ x):qQ P o ρ h nx v up nx':=by
 intro nm w a hr hh N Q hN
 exact hk nm w a (fun x hx=>by rw[he x hx];exact hr x hx) hh N Q hN
structure StepOK (P:Program) (c:Ctx) (ops:List Oper) (o:Oper) (ρ:Rg) (h:Hp) (nx:Nat) (want:Bool) (v:V) (up:Hp) (nx':Nat):Prop where
 wtd:∀ (e:Env) (a:Act),(∀ t∈qAl ops o,qS e (ρ.get t) (a.tmps.getD t undef))->Region.wanted o (yielded ops.toArray a.tmps)=want
 run:want=true->qQ P o ρ h nx v up nx'
 soft:qC3 o up nx nx' h (qAy ρ h o)=true->up=[] /\ nx'=nx /\ (want=true->∀ h2 nx2,(∀ ob∈qAy ρ h o,qCS (qBp o.op) (Hp.get h2 ob) (Hp.get h ob))->qQ P o ρ h2 nx2 v [] nx2)
 skip:want=false->v=qCF /\ up=[] /\ nx'=nx
 dst:∀ d,o.dst=some d->d<c.nt
def qEg (o:Oper) (ρ ρ':Rg) (v:V):Prop:=∀ t,Rg.get ρ' t=if o.dst=some t then v else Rg.get ρ t
theorem qVC:∀ (ops:List Oper) (j:Nat),qEz ops j=(ops[j]?).bind (·.dst)
 | [],j=>by simp[qEz]
 | o :: r,0=>by simp[qEz]
 | o :: r,j+1=>by simp[qEz,qVC r j]
theorem qDA (t u:Nat) (v:V) (ρ:Rg):Rg.get ((t,v) :: ρ) u=if t=u then v else Rg.get ρ u:=by
 simp only[Rg.get]
 by_cases h:t=u
 ·subst h;simp
 ·have:Nat.beq t u=false:=by
   cases hb:Nat.beq t u with
   | false=>rfl
   | true=>exact absurd (Nat.eq_of_beq_eq_true hb) h
  rw[this,if_neg h];rfl
theorem qE8 {t:Nat} {v:V} {ρ:Rg} (h:Rg.get ρ t=v) (u:Nat):Rg.get ((t,v) :: ρ) u=Rg.get ρ u:=by
 rw[qDA]
 split
 ·rename_i e;rw[<- e,h]
 ·rfl
theorem qgz {ρ1:Rg} (h:∀ u,Rg.get ρ1 u=Rg.get ρ u) (x:Operand):ev ρ1 x=ev ρ x:=by
 cases x<;>simp[ev,h]
theorem qct {ops:List Oper} {K:Rg->Hp->Nat->Option R} (hc:CtxOK P c) (hE:qFj c ops o ρ h nx K=some r):
  ∃ want v up nx' ρ',K ρ' (up++h) nx'=some r /\ StepOK P c ops o ρ h nx want v up nx' /\ qEg o ρ ρ' v:=by
 have hrun:∀ ρ1:Rg,(∀ u,Rg.get ρ1 u=Rg.get ρ u)->qDM c o h nx K ρ1=some r->(∀ (e:Env) (a:Act),(∀ t∈qAl ops o,qS e (ρ.get t) (a.tmps.getD t undef))->Region.wanted o (yielded ops.toArray a.tmps)=true)->
   ∃ want v up nx' ρ',K ρ' (up++h) nx'=some r /\ StepOK P c ops o ρ h nx want v up nx' /\ qEg o ρ ρ' v:=by
  intro ρ1 hρ hE hw
  unfold qDM at hE
  simp only[qFx,qE0,qCM,qGp] at hE
  have fin:∀ {v:V} {up:Hp} {nx':Nat},(match o.dst with
   | some d=>bif Nat.blt d c.nt then K ((d,v) :: ρ1) (up++h) nx' else none
   | none=>K ρ1 (up++h) nx')=some r->∃ ρ',K ρ' (up++h) nx'=some r /\ qEg o ρ ρ' v /\ ∀ d,o.dst=some d->d<c.nt:=by
   intro v up nx' hE
   cases hd:o.dst with
   | none=>
     rw[hd] at hE
     exact⟨ρ1,hE,fun t=>by rw[hρ t,hd,if_neg (by simp)],fun d hd=>by cases hd⟩
   | some d=>
     rw[hd] at hE
     obtain⟨hb,hE⟩:=qg hE
     refine⟨(d,v) :: ρ1,hE,fun t=>?_,fun d' hd'=>?_⟩
     ·rw[qDA,hd,hρ t];simp
     ·cases hd';simpa[Nat.blt_eq] using hb
  have ecg:∀ x,ev ρ1 x=ev ρ x:=qgz hρ
  have refsEq:qBR ρ1 o=qBR ρ o:=by unfold qBR;simp only[ecg]
  have evEq:ev ρ1=ev ρ:=funext ecg
  have readsEq:qAy ρ1 h o=qAy ρ h o:=by unfold qAy qIo;rw[refsEq,evEq]
  cases hs:qA0 o.op with
  | true=>
    obtain⟨v,h1,h2⟩:=qqT hc hs hE
    obtain⟨ρ',f1,f2,f3⟩:=fin (v:=v) (up:=[]) (nx':=nx) h1
    have all:∀ h2' nx2,(∀ ob∈qBR ρ o,qCS (qBp o.op) (Hp.get h2' ob) (Hp.get h ob))->qQ P o ρ h2' nx2 v [] nx2:=by
     intro h2' nx2 hag
     obtain⟨v',up',nx',e1,e2⟩:=qYk hc (h2 h2' nx2 (by rw[refsEq];exact hag))
     cases e1
     exact e2.congr fun x _=>ecg x
    exact⟨true,v,[],nx,ρ',f1,⟨hw,fun _=>all h nx fun _ _=>qJE _ _,fun _=>⟨rfl,rfl,fun _=>(by rw[qmq (qqS hs)];exact all)⟩,(fun hh=>by cases hh),f3⟩,f2⟩
  | false=>
    cases hv:qAm o.op with
    | true=>
      obtain⟨v,up,nx',h1,h2,h3⟩:=qfm hc hv hE
      obtain⟨ρ',f1,f2,f3⟩:=fin (v:=v) (up:=up) (nx':=nx') h1
      refine⟨true,v,up,nx',ρ',f1,⟨hw,fun _=>h2.congr fun x _=>ecg x,fun hh=>?_,(fun hh=>by cases hh),f3⟩,f2⟩
      obtain⟨_,g1,g2,g3⟩:=qSU hs hh
      refine⟨g1,g2,fun _ h2' nx2 hag=>?_⟩
      rw[qrQ hv] at hag
      rw[readsEq] at h3
      exact (h3 g1 g2 g3 h2' nx2 hag).congr fun x _=>ecg x
    | false=>
      cases hb:qBg o.op with
      | true=>
        obtain⟨v,up,nx',h1,h2,h3⟩:=qff hc hb hE
        obtain⟨ρ',f1,f2,f3⟩:=fin (v:=v) (up:=up) (nx':=nx') h1
        refine⟨true,v,up,nx',ρ',f1,⟨hw,fun _=>h2.congr fun x _=>ecg x,fun hh=>?_,(fun hh=>by cases hh),f3⟩,f2⟩
        obtain⟨_,g1,g2,_⟩:=qSU hs hh
        exact⟨g1,g2,fun _ h2' nx2 _=>(h3 g1 h2' nx2).congr fun x _=>ecg x⟩
      | false=>
        obtain⟨v,up,nx',h1,h2⟩:=qYk hc hE
        obtain⟨ρ',f1,f2,f3⟩:=fin (v:=v) (up:=up) (nx':=nx') h1
        exact⟨true,v,up,nx',ρ',f1,⟨hw,fun _=>h2.congr fun x _=>ecg x,fun hh=>absurd (qSU hs hh).1 (by rw[hv,hb];simp),(fun hh=>by cases hh),f3⟩,f2⟩
 have hskip:∀ ρ1:Rg,(∀ u,Rg.get ρ1 u=Rg.get ρ u)->qIN c o h nx K ρ1=some r->(∀ (e:Env) (a:Act),(∀ t∈qAl ops o,qS e (ρ.get t) (a.tmps.getD t undef))->Region.wanted o (yielded ops.toArray a.tmps)=false)->
   ∃ want v up nx' ρ',K ρ' (up++h) nx'=some r /\ StepOK P c ops o ρ h nx want v up nx' /\ qEg o ρ ρ' v:=by
  intro ρ1 hρ hE hw
  unfold qIN at hE
  have key:∃ ρ',K ρ' h nx=some r /\ qEg o ρ ρ' qCF /\ ∀ d,o.dst=some d->d<c.nt:=by
   cases hd:o.dst with
   | none=>
     rw[hd] at hE
     exact⟨ρ1,hE,fun t=>by rw[hρ t,hd,if_neg (by simp)],fun d hd=>by cases hd⟩
   | some d=>
     rw[hd] at hE
     obtain⟨hb,hE⟩:=qg hE
     refine⟨(d,qCF) :: ρ1,hE,fun t=>?_,fun d' hd'=>?_⟩
     ·rw[qDA,hd,hρ t];simp
     ·cases hd';simpa[Nat.blt_eq] using hb
  obtain⟨ρ',f1,f2,f3⟩:=key
  exact⟨false,qCF,[],nx,ρ',f1,⟨hw,(fun hh=>by cases hh),fun _=>⟨rfl,rfl,(fun hh=>by cases hh)⟩,fun _=>⟨rfl,rfl,rfl⟩,f3⟩,f2⟩
 unfold qFj at hE
 split at hE
 ·rename_i hg
  have hw:∀ (e:Env) (a:Act),(∀ t∈qAl ops o,qS e (ρ.get t) (a.tmps.getD t undef))->Region.wanted o (yielded ops.toArray a.tmps)=true:=fun e a _=>by simp[Region.wanted,hg]
  split at hE
  ·rename_i t x y ho
   split at hE
   ·rename_i z hz
    rcases qAG hE with⟨rfl,hE⟩ | ⟨rfl,hE⟩
    ·exact hrun _ (qE8 hz) hE hw
    ·exact hrun _ (qE8 hz) hE hw
   ·exact hrun _ (fun _=>rfl) hE hw
  ·exact hrun _ (fun _=>rfl) hE hw
 ·rename_i j want hg
  have hyl:∀ (a:Act),yielded ops.toArray a.tmps j=(match (qEz ops j).bind (a.tmps[·]?) with
    | some (.bool b)=>some b
    | _=>none):=fun a=>by simp only[yielded,qVC,List.getElem?_toArray];rfl
  split at hE
  ·rename_i hd
   refine hskip _ (fun _=>rfl) hE fun e a _=>?_
   simp[Region.wanted,hg,hyl,hd]
  ·rename_i t hd
   have hmem:t∈qAl ops o:=by simp[qAl,hg,hd]
   split at hE
   ·rename_i z hz
    have hy:∀ (e:Env) (a:Act),(∀ t∈qAl ops o,qS e (ρ.get t) (a.tmps.getD t undef))->Region.wanted o (yielded ops.toArray a.tmps)=(z==want):=by
     intro e a hr
     have h1:=hr t hmem
     rw[hz] at h1
     have h1:a.tmps.getD t undef=.bool z:=h1
     have h2:a.tmps[t]? = some (.bool z):=by
      cases hq:a.tmps[t]? with
      | none=>rw[Array.getD_eq_getD_getElem?,hq] at h1;cases h1
      | some q=>rw[Array.getD_eq_getD_getElem?,hq] at h1;exact congrArg some h1
     simp[Region.wanted,hg,hyl,hd,h2]
    rcases qAG hE with⟨rfl,hE⟩ | ⟨rfl,hE⟩<;>cases want
    ·exact hskip _ (qE8 hz) hE fun e a hr=>by rw[hy e a hr];rfl
    ·exact hrun _ (qE8 hz) hE fun e a hr=>by rw[hy e a hr];rfl
    ·exact hrun _ (qE8 hz) hE fun e a hr=>by rw[hy e a hr];rfl
    ·exact hskip _ (qE8 hz) hE fun e a hr=>by rw[hy e a hr];rfl
   ·rename_i hz
    refine hskip _ (fun _=>rfl) hE fun e a hr=>?_
    have h1:=hr t hmem
    rw[hz] at h1
    obtain⟨arr,h2,h3⟩:=h1
    have h4:∀ b,a.tmps[t]? ≠ some (.bool b):=by
     intro b hb
     simp[hb] at h2
    simp only[Region.wanted,hg,hyl,hd,Option.bind_some]
    cases hq:a.tmps[t]? with
    | none=>rfl
    | some q=>cases q<;>first | rfl | exact absurd hq (h4 _)
   ·cases hE
end
end Go.Kk
