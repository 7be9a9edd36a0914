/-
 Operations that only look: their answer hangs on the objects that they look at alone. One step of a region.
-/
import Derived.Test.YtpppdecfohkkfaaGreatDoorKkX
namespace Go.Kk
section
variable {P:Program} {o:Oper} {ρ:Rg} {h:Hp} {nx:Nat} {c:Ctx} {R:Type} {K:Kt R} {r:R}
abbrev idK:Kt (V×Hp×Nat):=fun v up nx=>some (v,up,nx)
theorem qlG (g:Seg):g.like g=true:=by cases g<;>simp [Seg.like]
theorem qlF (l:List Seg):qAH l l=true:=by
 induction l with
 | nil=>rfl
 | cons g l ih=>simp [qAH,qlG,ih]
theorem qlI {a b:Seg} (h:a.like b=true):b.like a=true:=by
 cases a<;>cases b<;>simp [Seg.like] at h ⊢ <;> simp [h]
theorem qPX:∀ {l m:List Seg},qAH l m=true->qAH m l=true
 | [],[],_=>rfl
 | a :: l,b :: m,h=>by
   simp only [qAH,Bool.and_eq_true] at h ⊢
   exact ⟨qlI h.1,qPX h.2⟩
 | [],_ :: _,h=>by cases h
 | _ :: _,[],h=>by cases h
theorem qlJ {a b c:Seg} (h:a.like b=true) (h':b.like c=true):a.like c=true:=by
 cases a<;>cases b<;>simp [Seg.like] at h<;>cases c<;>simp [Seg.like] at h' ⊢ <;> simp [h,h']
theorem qPY:∀ {l m n:List Seg},qAH l m=true->qAH m n=true->qAH l n=true
 | [],[],[],_,_=>rfl
 | a :: l,b :: m,c :: n,h,h'=>by
   simp only [qAH,Bool.and_eq_true] at h h' ⊢
   exact ⟨qlJ h.1 h'.1,qPY h.2 h'.2⟩
 | [],[],_ :: _,_,h=>by cases h
 | [],_ :: _,_,h,_=>by cases h
 | _ :: _,[],_,h,_=>by cases h
 | _ :: _,_ :: _,[],_,h=>by cases h
theorem qkX (g:Seg):g.kin g=true:=by cases g<;>simp [Seg.kin]
theorem qkY {a b:Seg} (h:a.kin b=true):b.kin a=true:=by
 cases a<;>cases b<;>simp [Seg.kin] at h ⊢ <;> simp [h]
theorem qkZ {a b c:Seg} (h:a.kin b=true) (h':b.kin c=true):a.kin c=true:=by
 cases a<;>cases b<;>simp [Seg.kin] at h<;>cases c<;>simp [Seg.kin] at h' ⊢ <;> simp [h,h']
theorem qq5 (x:Obj):qAF x x=true:=by cases x<;>simp [qAF,qlF,qkX]
theorem qq6 {x y:Obj} (h:qAF x y=true):qAF y x=true:=by
 cases x<;>cases y<;>simp [qAF] at h ⊢
 ·exact ⟨h.1.symm,qPX h.2⟩
 ·exact ⟨h.1.symm,qPX h.2⟩
 ·exact ⟨⟨h.1.1.symm,h.1.2.symm⟩,qkY h.2⟩
 ·exact ⟨⟨⟨h.1.1.1.symm,h.1.1.2.symm⟩,h.1.2.symm⟩,h.2.symm⟩
theorem qq7 {x y z:Obj} (h:qAF x y=true) (h':qAF y z=true):qAF x z=true:=by
 cases x<;>cases y<;>simp [qAF] at h<;>cases z<;>simp [qAF] at h' ⊢
 ·exact ⟨h.1.trans h'.1,qPY h.2 h'.2⟩
 ·exact ⟨h.1.trans h'.1,qPY h.2 h'.2⟩
 ·exact ⟨⟨h.1.1.trans h'.1.1,h.1.2.trans h'.1.2⟩,qkZ h.2 h'.2⟩
 ·exact ⟨⟨⟨h.1.1.1.trans h'.1.1.1,h.1.1.2.trans h'.1.1.2⟩,h.1.2.trans h'.1.2⟩,h.2.trans h'.2⟩
theorem qXk {a b:Seg} (h:a.like b=true) (t:SegT):a.fits t=b.fits t:=by
 cases a<;>cases b<;>simp [Seg.like] at h<;>cases t<;>simp [Seg.fits,h]
theorem qXh:∀ {l m:List Seg},qAH l m=true->∀ ts,qBh l ts=qBh m ts
 | [],[],_,ts=>rfl
 | a :: l,b :: m,h,ts=>by
   simp only [qAH,Bool.and_eq_true] at h
   cases ts with
   | nil=>rfl
   | cons t ts=>simp only [qBh,qXk h.1,qXh h.2]
 | [],_ :: _,h,_=>by cases h
 | _ :: _,[],h,_=>by cases h
theorem qXg:∀ (n:Nat) {l m:List Seg},qAH l m=true->qAH (l.drop n) (m.drop n)=true
 | 0,l,m,h=>h
 | n+1,[],[],_=>rfl
 | n+1,a :: l,b :: m,h=>by
   simp only [qAH,Bool.and_eq_true] at h
   exact qXg n h.2
 | _+1,[],_ :: _,h=>by cases h
 | _+1,_ :: _,[],h=>by cases h
theorem qXj:∀ (n:Nat) {l m:List Seg},qAH l m=true->qAH (l.take n) (m.take n)=true
 | 0,l,m,h=>by simp [qAH]
 | n+1,[],[],_=>rfl
 | n+1,a :: l,b :: m,h=>by
   simp only [qAH,Bool.and_eq_true,List.take_succ_cons] at h ⊢
   exact ⟨h.1,qXj n h.2⟩
 | _+1,[],_ :: _,h=>by cases h
 | _+1,_ :: _,[],h=>by cases h
theorem qK3:∀ {l m:List Seg} (i:Nat),qAH l m=true->(l[i]? = none /\ m[i]? = none) \/ ∃ a b,l[i]? = some a /\ m[i]? = some b /\ a.like b=true
 | [],[],i,_=>.inl ⟨by simp,by simp⟩
 | a :: l,b :: m,0,h=>by
   simp only [qAH,Bool.and_eq_true] at h
   exact .inr ⟨a,b,by simp,by simp,h.1⟩
 | a :: l,b :: m,i+1,h=>by
   simp only [qAH,Bool.and_eq_true] at h
   simpa using qK3 i h.2
 | [],_ :: _,_,h=>by cases h
 | _ :: _,[],_,h=>by cases h
theorem qL9 {x y:Obj} (h:qAF x y=true) (hc:x.isCell=true):qAH x.segs y.segs=true:=by
 cases x<;>cases y<;>simp [qAF] at h<;>simp [Obj.isCell] at hc<;>simp [Obj.segs,h]
theorem qL8 {x y:Obj} (h:qAF x y=true):x.isMem=y.isMem:=by cases x<;>cases y<;>simp [qAF] at h<;>rfl
theorem qJV {x y:Obj} (h:qAF x y=true):x.isCell=y.isCell:=by cases x<;>cases y<;>simp [qAF] at h<;>rfl
theorem qq4 {x y:Obj} (h:qAF x y=true):x.live=y.live:=by cases x<;>cases y<;>simp [qAF] at h<;>rfl
theorem qRp {x y:Obj} (h:qAF x y=true) (sg:Nat):qDL x sg=qDL y sg:=by
 cases hc:x.isCell with
 | true=>
   unfold qDL
   rcases qK3 sg (qL9 h hc) with ⟨h1,h2⟩ | ⟨a,b,h1,h2,h3⟩
   ·rw [h1,h2]
   ·rw [h1,h2]
    cases a<;>cases b<;>simp [Seg.like] at h3<;>simp [h3]
 | false=>
   cases x<;>cases y<;>simp [qAF] at h<;>simp [Obj.isCell] at hc<;>try rfl
   rename_i g _ _ g'
   unfold qDL
   cases sg with
   | succ n=>simp [Obj.segs]
   | zero=>
     obtain ⟨_,h3⟩:=h
     cases g<;>cases g'<;>simp [Seg.kin] at h3<;>simp [Obj.segs,h3]
theorem qRo {x y:Obj} (h:qAF x y=true) (sg col n:Nat) (t:SegT):qDz (x.segs[sg]?) col n t=qDz (y.segs[sg]?) col n t:=by
 cases hc:x.isCell with
 | true=>
   rcases qK3 sg (qL9 h hc) with ⟨h1,h2⟩ | ⟨a,b,h1,h2,h3⟩
   ·rw [h1,h2]
   ·rw [h1,h2]
    cases a<;>cases b<;>simp [Seg.like] at h3<;>cases t<;>simp [qDz,h3]
 | false=>
   cases x<;>cases y<;>simp [qAF] at h<;>simp [Obj.isCell] at hc<;>try rfl
   rename_i g _ _ g'
   cases sg with
   | succ n=>simp [Obj.segs]
   | zero=>
     obtain ⟨_,h3⟩:=h
     cases g<;>cases g'<;>simp [Seg.kin] at h3<;>cases t<;>simp [Obj.segs,qDz,h3]
theorem qcL {x y:Obj} (h:qAF x y=true) (sg:Nat) (t:SegT):(x.isCell&&qKc (x.segs[sg]?) t)=(y.isCell&&qKc (y.segs[sg]?) t):=by
 rw [qJV h]
 cases hc:y.isCell with
 | false=>rfl
 | true=>
   rcases qK3 sg (qL9 h (by rw [qJV h];exact hc)) with ⟨h1,h2⟩ | ⟨a,b,h1,h2,h3⟩
   ·rw [h1,h2]
   ·rw [h1,h2]
    simp only [Bool.true_and]
    exact qXk h3 t
theorem qq3 {x y:Obj} (h:qAF x y=true) (c:Bool) (sg fs:Nat) (ts:List SegT):(c&&x.isCell&&qBh ((x.segs.drop sg).take fs) ts)=(c&&y.isCell&&qBh ((y.segs.drop sg).take fs) ts):=by
 rw [qJV h]
 cases hc:y.isCell with
 | false=>simp
 | true=>rw [qXh (qXj fs (qXg sg (qL9 h (by rw [qJV h];exact hc)))) ts]
theorem qRn {x y:Obj} (h:qAF x y=true) (e:Option Seg):qBo x e=qBo y e:=by
 cases x<;>cases y<;>simp [qAF] at h<;>try rfl
 rename_i g _ _ g'
 obtain ⟨_,h3⟩:=h
 cases g<;>cases g'<;>simp [Seg.kin] at h3<;>cases e<;>try rfl
 all_goals rename_i z;cases z<;>simp [qBo,h3]
def qCT (deep:Bool) (x y:Obj):Prop:=match deep with
 | true=>x=y
 | false=>qAF x y=true
theorem qI9 (d:Bool) (x:Obj):qCT d x x:=by cases d;exact qq5 x;exact rfl
theorem qme {d:Bool} {x y:Obj} (h:qCT d x y):qCT d y x:=by cases d;exact qq6 h;exact Eq.symm h
theorem qmf {d:Bool} {x y z:Obj} (h:qCT d x y) (h':qCT d y z):qCT d x z:=by cases d;exact qq7 h h';exact Eq.trans h h'
def qS8 (c:Ctx) (o:Oper) (ρ:Rg) (h:Hp) (nx:Nat) (K:Kt R) (r:R):Prop:=
 ∃ v,K v [] nx=some r /\ ∀ h2 nx2,(∀ ob∈qBc ρ o,qCT (qBt o.op) (Hp.get h2 ob) (Hp.get h ob))->qm c o ρ h2 nx2 idK=some (v,[],nx2)
theorem qCY {x:Operand} {z:S} {ob:Nat} (hm:x∈o.op.operands) (hx:ev ρ x=.s z) (hob:ob∈z.refs):ob∈qBc ρ o:=by
 unfold qBc
 refine List.mem_flatMap.2 ⟨x,by simpa using hm,?_⟩
 rw [hx];exact hob
theorem qLl {x:Operand} {ty:TypeId} (hs:Operand.noSl x=true) (hE:qDp c ρ x ty nx K=some r):∃ v,K v [] nx=some r /\ ∀ nx2,qDp c ρ x ty nx2 idK=some (v,[],nx2):=by
 have hp:∀ {R:Type} (K:Kt R) (nx:Nat),qDp c ρ x ty nx K=(match ev ρ x with
   | .s z=>K (.s z) [] nx
   | .agg l=>K (.agg l) [] nx
   | .tup l=>K (.tup l) [] nx):=by
  intro R K nx
  unfold qDp
  split
  ·simp [Operand.noSl] at hs
  ·rfl
 rw [hp] at hE
 refine ⟨ev ρ x,?_,fun nx2=>?_⟩
 ·split at hE<;>(rename_i e;rw [e];exact hE)
 ·rw [hp];split<;>(rename_i e;rw [e])
theorem qr6 {ob l len:Nat} {full:Bool} {lo hi mx:Option Operand} (hE:qIJ ρ ob l len full lo hi mx nx K=some r):∃ v,K v [] nx=some r /\ ∀ nx2,qIJ ρ ob l len full lo hi mx nx2 idK=some (v,[],nx2):=by
 unfold qIJ at hE ⊢
 have hlo:∀ {h':Nat} {f1:Bool},loE ρ h' lo (fun l' f2=>K (.s (.sl ob (l+l') (h' - l') (full&&f1&&f2))) [] nx)=some r->
   ∃ v,K v [] nx=some r /\ ∀ nx2,loE ρ h' lo (fun l' f2=>idK (.s (.sl ob (l+l') (h' - l') (full&&f1&&f2))) [] nx2)=some (v,[],nx2):=by
  intro h' f1 hE
  unfold loE at hE ⊢
  split at hE
  ·exact ⟨_,hE,fun nx2=>rfl⟩
  ·split at hE<;>try cases hE
   rcases q9 hE with ⟨hb,hE⟩ | ⟨_,hE⟩<;>try cases hE
   exact ⟨_,hE,fun nx2=>by rw [hb];rfl⟩
 have hmx:∀ {h':Nat},mxE ρ len h' hi mx (fun f1=>loE ρ h' lo (fun l' f2=>K (.s (.sl ob (l+l') (h' - l') (full&&f1&&f2))) [] nx))=some r->
   ∃ v,K v [] nx=some r /\ ∀ nx2,mxE ρ len h' hi mx (fun f1=>loE ρ h' lo (fun l' f2=>idK (.s (.sl ob (l+l') (h' - l') (full&&f1&&f2))) [] nx2))=some (v,[],nx2):=by
  intro h' hE
  unfold mxE at hE ⊢
  split at hE
  ·exact hlo hE
  ·split at hE<;>try cases hE
   rcases q9 hE with ⟨hb,hE⟩ | ⟨_,hE⟩<;>try cases hE
   obtain ⟨v,h1,h2⟩:=hlo hE
   exact ⟨v,h1,fun nx2=>by rw [hb];exact h2 nx2⟩
 unfold hiE at hE ⊢
 split at hE
 ·exact hmx hE
 ·split at hE<;>try cases hE
  rcases q9 hE with ⟨hb,hE⟩ | ⟨_,hE⟩<;>try cases hE
  obtain ⟨v,h1,h2⟩:=hmx hE
  exact ⟨v,h1,fun nx2=>by rw [hb];exact h2 nx2⟩
theorem qUm {h2:Hp}:∀ {l:List Operand} {qs:List Nat},qDU ρ h l=some qs->(∀ x∈l,∀ z,ev ρ x=.s z->∀ ob∈z.refs,qAF (Hp.get h2 ob) (Hp.get h ob)=true)->qDU ρ h2 l=some qs
 | [],qs,hq,_=>by simpa [qDU] using hq
 | x :: l,qs,hq,hs=>by
   simp only [qDU] at hq ⊢
   split at hq<;>try cases hq
   rename_i q l' hx hl
   obtain ⟨hb,hq⟩:=ql hq
   rw [hx,qUm hl fun y hy=>hs y (by simp [hy])]
   simp only
   rw [qJV (hs x (by simp) _ hx q (by simp [S.refs])),hb]
   exact hq
theorem qsB (hc:CtxOK P c) (hs:qCZ o.op=true) (hE:qm c o ρ h nx K=some r):qS8 c o ρ h nx K r:=by
 unfold qS8
 unfold qm at hE
 split at hE
 ·rename_i x ho
  rw [ho] at hs
  obtain ⟨v,h1,h2⟩:=qLl hs hE
  exact ⟨v,h1,fun h2' nx2 _=>by simp only [qm,ho];exact h2 nx2⟩
 ·rename_i x ho
  rw [ho] at hs
  obtain ⟨v,h1,h2⟩:=qLl hs hE
  exact ⟨v,h1,fun h2' nx2 _=>by simp only [qm,ho];exact h2 nx2⟩
 ·rename_i t x y ho
  rw [ho] at hs
  simp only [qCZ,Bool.and_eq_true] at hs
  split at hE<;>try cases hE
  rename_i z ht
  rcases q9 hE with ⟨rfl,hE⟩ | ⟨rfl,hE⟩
  ·obtain ⟨v,h1,h2⟩:=qLl hs.1 hE
   exact ⟨v,h1,fun h2' nx2 _=>by simp only [qm,ho,ht];exact h2 nx2⟩
  ·obtain ⟨v,h1,h2⟩:=qLl hs.2 hE
   exact ⟨v,h1,fun h2' nx2 _=>by simp only [qm,ho,ht];exact h2 nx2⟩
 ·rename_i ho;rw [ho] at hs;cases hs
 ·rename_i ho;rw [ho] at hs;cases hs
 ·rename_i ho;rw [ho] at hs;cases hs
 ·rename_i t x ho
  split at hE<;>try cases hE
  rename_i ob sg row col hx
  have hm:ob∈qBc ρ o:=qCY (by simp [ho,Op.operands]) hx (by simp [S.refs])
  split at hE<;>try cases hE
  ·rename_i T l L hob hL
   split at hE<;>try cases hE
   rename_i v hv
   exact ⟨_,hE,fun h2 nx2 hag=>by have e:=hag ob hm;rw [ho] at e;have e:Hp.get h2 ob=Hp.get h ob:=e;simp only [qm,ho,hx,e,hob,hL,hv]⟩
  ·rename_i T l L hob hL
   split at hE<;>try cases hE
   rename_i v hv
   exact ⟨_,hE,fun h2 nx2 hag=>by have e:=hag ob hm;rw [ho] at e;have e:Hp.get h2 ob=Hp.get h ob:=e;simp only [qm,ho,hx,e,hob,hL,hv]⟩
  ·rename_i T ro g L hob hL
   split at hE<;>try cases hE
   rename_i v hv
   exact ⟨_,hE,fun h2 nx2 hag=>by have e:=hag ob hm;rw [ho] at e;have e:Hp.get h2 ob=Hp.get h ob:=e;simp only [qm,ho,hx,e,hob,hL,hv]⟩
  ·rename_i g j hx
   split at hE<;>try cases hE
   rename_i k l k' hg hL
   obtain ⟨hk,hE⟩:=ql hE
   exact ⟨_,hE,fun h2 nx2 _=>by simp only [qm,ho,hx,hg,hL,hk,cond_true]⟩
 ·rename_i ho;rw [ho] at hs;cases hs
 ·rename_i x ho
  split at hE<;>try cases hE
  rename_i ob sg row col hx
  have hm:ob∈qBc ρ o:=qCY (by simp [ho,Op.operands]) hx (by simp [S.refs])
  obtain ⟨hl,hE⟩:=ql hE
  exact ⟨_,hE,fun h2 nx2 hag=>by have e:=hag ob hm;rw [ho] at e;simp only [qm,ho,hx,qq4 e,hl,cond_true]⟩
 ·rename_i op t x y yt ho
  have qo:∀ {k:IntKind} {a d:Int},qC9 op k a d (fun z=>K (.s z) [] nx)=some r->∃ v,K v [] nx=some r /\ ∀ nx2,qC9 op k a d (fun z=>idK (.s z) [] nx2)=some (v,[],nx2):=by
   intro k a d hE
   cases op<;>simp only [qC9] at hE ⊢ <;> first
    | exact ⟨_,hE,fun _=>rfl⟩
    | (rcases q9 hE with ⟨hz,hE⟩ | ⟨hz,hE⟩<;>first | cases hE | exact ⟨_,hE,fun _=>by rw [hz];rfl⟩)
  have eqs:∀ {z:Bool},qEH op z (fun z=>K z [] nx)=some r->∃ v,K v [] nx=some r /\ ∀ nx2,qEH op z (fun z=>idK z [] nx2)=some (v,[],nx2):=by
   intro z hE
   rcases qG1 hE with ⟨rfl,hE⟩ | ⟨rfl,hE⟩<;>exact ⟨_,hE,fun _=>rfl⟩
  split at hE
  ·rename_i k a k' d hx hy
   split at hE
   ·obtain ⟨v,h1,h2⟩:=qo hE
    exact ⟨v,h1,fun _ nx2 _=>by simp only [qm,ho,hx,hy];exact h2 nx2⟩
   ·obtain ⟨v,h1,h2⟩:=qo hE
    exact ⟨v,h1,fun _ nx2 _=>by simp only [qm,ho,hx,hy];exact h2 nx2⟩
   ·rename_i n1 n2
    obtain ⟨hk,hE⟩:=ql hE
    obtain ⟨v,h1,h2⟩:=qo hE
    refine ⟨v,h1,fun _ nx2 _=>?_⟩
    have:=h2 nx2
    cases op<;>first | exact absurd rfl n1 | exact absurd rfl n2 | (simp only [qm,ho,hx,hy,hk,cond_true];exact this)
  ·rename_i l m hx hy
   split at hE<;>try cases hE
   rename_i L hL
   obtain ⟨hb,hE⟩:=ql hE
   split at hE<;>try cases hE
   rename_i z hz
   obtain ⟨v,h1,h2⟩:=eqs hE
   exact ⟨v,h1,fun _ nx2 _=>by simp only [qm,ho,hx,hy,hL,hb,cond_true,hz];exact h2 nx2⟩
  ·rename_i a d _ hx hy
   split at hE<;>try cases hE
   ·rename_i p q hL _
    obtain ⟨v,h1,h2⟩:=eqs hE
    exact ⟨v,h1,fun _ nx2 _=>by simp only [qm,ho,hx,hy,hL];exact h2 nx2⟩
   ·rename_i hL _
    obtain ⟨v,h1,h2⟩:=eqs hE
    exact ⟨v,h1,fun _ nx2 _=>by simp only [qm,ho,hx,hy,hL];exact h2 nx2⟩
   ·rename_i ob' _ _ _ hL _
    obtain ⟨hm',hE⟩:=ql hE
    obtain ⟨v,h1,h2⟩:=eqs hE
    exact ⟨v,h1,fun _ nx2 hag=>by have e:=hag ob' (qCY (by simp [ho,Op.operands]) hy (by simp [S.refs]));rw [ho] at e;simp only [qm,ho,hx,hy,hL,qL8 e,hm',cond_true];exact h2 nx2⟩
   ·rename_i ob' _ _ _ hL _
    obtain ⟨hm',hE⟩:=ql hE
    obtain ⟨v,h1,h2⟩:=eqs hE
    exact ⟨v,h1,fun _ nx2 hag=>by have e:=hag ob' (qCY (by simp [ho,Op.operands]) hx (by simp [S.refs]));rw [ho] at e;simp only [qm,ho,hx,hy,hL,qL8 e,hm',cond_true];exact h2 nx2⟩
  ·cases hE
 ·rename_i ho
  split at hE<;>try cases hE
  rename_i z hx
  split at hE<;>try cases hE
  rename_i z' hz
  exact ⟨_,hE,fun _ nx2 _=>by simp only [qm,ho,hx,hz]⟩
 ·rename_i src dst x ho
  split at hE<;>try cases hE
  rename_i k n k' Ls hx hd hs'
  exact ⟨_,hE,fun _ nx2 _=>by simp only [qm,ho,hx,hd,hs']⟩
 ·rename_i t x f ho
  split at hE<;>try cases hE
  rename_i ob sg row col ts fl hx hL
  have hm:ob∈qBc ρ o:=qCY (by simp [ho,Op.operands]) hx (by simp [S.refs])
  split at hE<;>try cases hE
  rename_i fs fc ft hf
  split at hE
  ·cases hb:(Nat.beq fs 0&&(h.get ob).isMem) with
   | true=>
     rw [hb] at hE
     exact ⟨_,hE,fun h2 nx2 hag=>by have e:=hag ob hm;rw [ho] at e;simp only [qm,ho,hx,hL,hf,qL8 e,hb,cond_true]⟩
   | false=>
     rw [hb] at hE
     obtain ⟨hb2,hE⟩:=ql hE
     exact ⟨_,hE,fun h2 nx2 hag=>by have e:=hag ob hm;rw [ho] at e;simp only [qm,ho,hx,hL,hf,qL8 e,qq3 e,hb,hb2,cond_true,cond_false]⟩
  ·obtain ⟨hb,hE⟩:=ql hE
   rw [qC7] at hE
   exact ⟨_,hE,fun h2 nx2 hag=>by have e:=hag ob hm;rw [ho] at e;simp only [qm,ho,hx,hL,hf,qRp e,hb,cond_true,qC7]⟩
 ·rename_i t x f ho
  split at hE<;>try cases hE
  rename_i l ts fl hx hL
  split at hE<;>try cases hE
  rename_i fs fc ft hf
  split at hE<;>try cases hE
  rename_i L hft
  split at hE<;>try cases hE
  rename_i v hv
  exact ⟨_,hE,fun _ nx2 _=>by simp only [qm,ho,hx,hL,hf,hft,hv]⟩
 ·rename_i t x y ho
  split at hE<;>try cases hE
  ·rename_i ob sg row col k j n m e t' hx hy hL
   have hm':ob∈qBc ρ o:=qCY (by simp [ho,Op.operands]) hx (by simp [S.refs])
   rcases q9 hE with ⟨hj,hE1⟩ | ⟨_,hE1⟩<;>try cases hE1
   replace hE:=hE1
   clear hE1
   split at hE
   ·obtain ⟨hb,hE⟩:=ql hE
    cases hm:Nat.beq m 1 with
    | true=>rw [hm] at hE;exact ⟨_,hE,fun h2 nx2 hag=>by have e:=hag ob hm';rw [ho] at e;simp only [qm,ho,hx,hy,hL,hj,qcL e,hb,hm,cond_true,br]⟩
    | false=>rw [hm] at hE;exact ⟨_,hE,fun h2 nx2 hag=>by have e:=hag ob hm';rw [ho] at e;simp only [qm,ho,hx,hy,hL,hj,qcL e,hb,hm,cond_true,cond_false,br]⟩
   ·rename_i q lim
    cases hcel:qDz ((h.get ob).segs[sg]?) col (n*m) t' with
    | true=>
      rw [hcel] at hE
      exact ⟨_,hE,fun h2 nx2 hag=>by have e:=hag ob hm';rw [ho] at e;simp only [qm,ho,hx,hy,hL,hj,qRo e,hcel,cond_true,br]⟩
    | false=>
    rw [hcel] at hE
    obtain ⟨hb,hE⟩:=ql hE
    cases hm:Nat.beq m 1 with
    | true=>rw [hm] at hE;exact ⟨_,hE,fun h2 nx2 hag=>by have e:=hag ob hm';rw [ho] at e;simp only [qm,ho,hx,hy,hL,hj,qRo e,hcel,cond_false,qRp e,hb,hm,cond_true,br]⟩
    | false=>rw [hm] at hE;exact ⟨_,hE,fun h2 nx2 hag=>by have e:=hag ob hm';rw [ho] at e;simp only [qm,ho,hx,hy,hL,hj,qRo e,hcel,cond_false,qRp e,hb,hm,cond_true,cond_false,br]⟩
  ·rename_i ob lo len full k j e hx hy hL
   have hm':ob∈qBc ρ o:=qCY (by simp [ho,Op.operands]) hx (by simp [S.refs])
   obtain ⟨hb,hE⟩:=ql hE
   rcases q9 hE with ⟨hj,hE1⟩ | ⟨_,hE1⟩<;>try cases hE1
   replace hE:=hE1
   clear hE1
   cases full with
   | true=>
     simp only [cond_true] at hb
     exact ⟨_,hE,fun h2 nx2 hag=>by have e:=hag ob hm';rw [ho] at e;simp only [qm,ho,hx,hy,hL,hj,qRn e,cond_true,hb,br]⟩
   | false=>
     simp only [cond_false] at hb
     exact ⟨_,hE,fun h2 nx2 hag=>by have e:=hag ob hm';rw [ho] at e;simp only [qm,ho,hx,hy,hL,hj,qRn e,cond_false,hb,cond_true,br]⟩
  ·rename_i g k j n e k' n' hx hy hL
   split at hE<;>try cases hE
   rename_i k2 l hg
   obtain ⟨hb,hE1⟩:=ql hE
   clear hE
   rw [hc.brg] at hE1
   rcases q9 hE1 with ⟨hj,hE⟩ | ⟨_,hE⟩<;>try cases hE
   exact ⟨_,hE,fun h2 nx2 _=>by simp only [qm,ho,hx,hy,hL,hg,hb,hj,cond_true,hc.brg,br]⟩
 ·rename_i t x y ho
  split at hE<;>try cases hE
  rename_i g k j n m e t' hx hy hL
  split at hE<;>try cases hE
  rename_i L he
  rcases q9 hE with ⟨hj,hE1⟩ | ⟨_,hE1⟩<;>try cases hE1
  replace hE:=hE1
  clear hE1
  split at hE<;>try cases hE
  rename_i v hv
  exact ⟨_,hE,fun _ nx2 _=>by simp only [qm,ho,hx,hy,hL,he,hj,hv,br]⟩
 ·rename_i x j ho
  split at hE<;>try cases hE
  rename_i l hx
  split at hE<;>try cases hE
  rename_i y hj
  exact ⟨_,hE,fun _ nx2 _=>by simp only [qm,ho,hx,hj]⟩
 ·rename_i cl ho
  rw [ho] at hs
  split at hE<;>try cases hE
  ·rename_i f hcl;simp [qCZ,hcl] at hs
  ·rename_i b hcl
   have e2:∀ h2 nx2,qm c o ρ h2 nx2 idK=qC1 c b cl.args.toList cl.argTypes.toList ρ h2 nx2 idK:=fun h2 nx2=>by simp only [qm,ho,hcl]
   have hE':=hE
   unfold qC1 at hE'
   split at hE'
   ·split at hE'<;>try cases hE'
    rename_i x t ha ht
    have hargs:cl.args = #[x]:=by rw [<- ha]
    split at hE'<;>try cases hE'
    case h_2=>
     rename_i ob k e' hx hL
     split at hE'<;>try cases hE'
     rename_i ka va ks vs es hob
     rcases q9 hE' with ⟨hb,hE1⟩ | ⟨_,hE1⟩<;>try cases hE1
     refine ⟨_,hE1,fun h2 nx2 hag=>?_⟩
     have e:=hag ob (qCY (by simp [ho,Op.operands,Call.operands,hcl,hargs]) hx (by simp [S.refs]))
     rw [ho] at e
     have e:Hp.get h2 ob=Hp.get h ob:=e
     rw [e2]
     simp only [qC1,ha,ht,hx,hL,e,hob,hb,br]
    rename_i ob lo len full e hx hL
    obtain ⟨hb,hE1⟩:=ql hE'
    refine ⟨_,hE1,fun h2 nx2 hag=>?_⟩
    have e:=hag ob (qCY (by simp [ho,Op.operands,Call.operands,hcl,hargs]) hx (by simp [S.refs]))
    rw [ho] at e
    have e:Hp.get h2 ob=Hp.get h ob:=e
    rw [e2]
    simp only [qC1,ha,ht,hx,hL,e,hb,cond_true]
   ·simp [qCZ,hcl] at hs
   ·simp [qCZ,hcl] at hs
   ·split at hE'<;>try cases hE'
    rename_i z hz
    exact ⟨_,hE',fun h2 nx2 _=>by rw [e2];simp only [qC1,hz]⟩
   ·split at hE'<;>try cases hE'
    rename_i z hz
    exact ⟨_,hE',fun h2 nx2 _=>by rw [e2];simp only [qC1,hz]⟩
   ·cases hE'
 ·rename_i ho;rw [ho] at hs;cases hs
 ·rename_i ho;rw [ho] at hs;cases hs
 ·rename_i t x lo hi mx ho
  split at hE<;>try cases hE
  rename_i ob l len full e hx hL
  obtain ⟨hb,hE1⟩:=ql hE
  obtain ⟨v,h1,h2⟩:=qr6 hE1
  refine ⟨v,h1,fun hp2 nx2 hag=>?_⟩
  have e:=hag ob (qCY (by rw [ho];simp [Op.operands]) hx (by simp [S.refs]))
  rw [ho] at e
  simp only [qm,ho,hx,hL,qRn e,hb,cond_true]
  exact h2 nx2
 ·rename_i f first caps ho
  split at hE<;>try cases hE
  rename_i qs hf hq
  refine ⟨_,hE,fun hp2 nx2 hag=>?_⟩
  rw [ho] at hag
  have:=qUm (h2:=hp2) hq fun x hx z hz ob hob=>hag ob (qCY (by rw [ho];simp only [Op.operands,Array.mem_append];exact .inr (by simpa using hx)) hz hob)
  simp only [qm,ho,hf,this]
 ·rename_i ho;rw [ho] at hs;cases hs
 ·rename_i ho;rw [ho] at hs;cases hs
 ·rename_i t m x okk ho
  split at hE<;>try cases hE
  rename_i ob Lk a Le b hm hM
  split at hE<;>try cases hE
  rename_i ka va ks vs es ka' a' r' hob hx
  obtain ⟨hb,hE1⟩:=ql hE
  clear hE
  split at hE1<;>try cases hE1
  rename_i y hw
  refine ⟨_,hE1,fun hp2 nx2 hag=>?_⟩
  have e:=hag ob (qCY (by rw [ho];simp [Op.operands]) hm (by simp [S.refs]))
  rw [ho] at e
  have e:Hp.get hp2 ob=Hp.get h ob:=e
  simp only [qm,ho,hm,hM,e,hob,hx,hb,cond_true,hw]
 ·rename_i ho;rw [ho] at hs;cases hs
 ·rename_i ho;rw [ho] at hs;cases hs
 ·cases hE
def qfH (c:Ctx) (o:Oper) (ρ:Rg) (h:Hp) (nx:Nat) (K:Kt R) (r:R):Prop:=
 ∃ v,K v [] nx=some r /\ ∀ h2 nx2,(∀ ob∈qBc ρ o,qCT (qBt o.op) (Hp.get h2 ob) (Hp.get h ob))->opE c o ρ h2 nx2 idK=some (v,[],nx2)
theorem qd1 {h2:Hp} (hn:∀ ob∈qBc ρ o,qCT (qBt o.op) (Hp.get h2 ob) (Hp.get h ob)):qCa c o.op ρ h2=qCa c o.op ρ h:=by
 cases ho:o.op with
 | convert src dst x=>
   simp only [qCa]
   split
   ·rename_i ob lo len full e hx hd hs
    have e1:=hn ob (qCY (by simp [ho,Op.operands]) hx (by simp [S.refs]))
    rw [ho] at e1
    have e1:Hp.get h2 ob=Hp.get h ob:=e1
    rw [e1]
   ·rfl
 | slice t x lo hi mx=>cases mx<;>rfl
 | _=>rfl
theorem qsA (hc:CtxOK P c) (hs:qCZ o.op=true) (hE:opE c o ρ h nx K=some r):qfH c o ρ h nx K r:=by
 unfold opE at hE
 cases hv:qCa c o.op ρ h with
 | some p=>
   obtain ⟨g,z⟩:=p
   rw [hv] at hE
   rcases q9 hE with ⟨rfl,hE1⟩ | ⟨_,hE1⟩<;>try cases hE1
   refine ⟨_,hE1,fun h2 nx2 hag=>?_⟩
   unfold opE
   rw [qd1 hag,hv]
   rfl
 | none=>
   rw [hv] at hE
   obtain ⟨v,h1,h2⟩:=qsB hc hs hE
   refine ⟨v,h1,fun h2' nx2 hag=>?_⟩
   unfold opE
   rw [qd1 hag,hv]
   exact h2 h2' nx2 hag
theorem qr9 (hs:qCZ o.op=true):qBq o.op=false:=by
 cases hv:qBq o.op with
 | false=>rfl
 | true=>
   unfold qBq at hv
   split at hv<;>try cases hv
   rename_i cl ho
   split at hv<;>try cases hv
   rename_i f hcl
   rw [ho] at hs
   simp [qCZ,hcl] at hs
theorem qot (hv:qBq o.op=false):qAu ρ h o=qBc ρ o:=by
 unfold qAu
 split
 ·rename_i cl ho
  split
  ·rename_i f hcl
   rw [ho] at hv
   simp [qBq,hcl] at hv
  ·rfl
 ·rfl
theorem qts (hv:qBq o.op=true):qBt o.op=true:=by
 unfold qBq at hv
 split at hv<;>try cases hv
 rename_i cl ho
 rw [ho]
 rfl
theorem qSG {up:Hp} {nx':Nat} {rd:List Nat} (hs:qCZ o.op=false) (hd:qEg o up nx nx' h rd=true):(qBq o.op=true \/ qEF o.op=true) /\ up=[] /\ nx'=nx /\ ∀ q∈rd,(h.get q).live=true:=by
 simp only [qEg,hs,Bool.false_or,Bool.and_eq_true,Bool.or_eq_true] at hd
 obtain ⟨⟨⟨h1,h2⟩,h3⟩,h4⟩:=hd
 exact ⟨h1,by simpa using h2,Nat.eq_of_beq_eq_true h3,fun q hq=>List.all_eq_true.1 h4 q hq⟩
theorem qS.congr {ρ1:Rg} {v:V} {up:Hp} {nx':Nat} (hk:qS P o ρ1 h nx v up nx') (he:∀ x∈o.op.operands,ev ρ1 x=ev ρ x):qS P o ρ h nx v up nx':=by
 intro nm w a hr hh N Q hN
 exact hk nm w a (fun x hx=>by rw [he x hx];exact hr x hx) hh N Q hN
structure StepOK (P:Program) (c:Ctx) (ops:List Oper) (o:Oper) (ρ:Rg) (h:Hp) (nx:Nat) (want:Bool) (v:V) (up:Hp) (nx':Nat):Prop where
 wtd:∀ (e:Env) (a:Act),(∀ t∈qAh ops o,qT e (ρ.get t) (a.tmps.getD t undef))->Region.wanted o (yielded ops.toArray a.tmps)=want
 run:want=true->qS P o ρ h nx v up nx'
 soft:qEg o up nx nx' h (qAu ρ h o)=true->up=[] /\ nx'=nx /\ (want=true->∀ h2 nx2,(∀ ob∈qAu ρ h o,qCT (qBt o.op) (Hp.get h2 ob) (Hp.get h ob))->qS P o ρ h2 nx2 v [] nx2)
 skip:want=false->v=qCF /\ up=[] /\ nx'=nx
 dst:∀ d,o.dst=some d->d<c.nt
def qEp (o:Oper) (ρ ρ':Rg) (v:V):Prop:=∀ t,Rg.get ρ' t=if o.dst=some t then v else Rg.get ρ t
theorem qVZ:∀ (ops:List Oper) (j:Nat),qE5 ops j=(ops[j]?).bind (·.dst)
 | [],j=>by simp [qE5]
 | o :: r,0=>by simp [qE5]
 | o :: r,j+1=>by simp [qE5,qVZ r j]
theorem qEK (t u:Nat) (v:V) (ρ:Rg):Rg.get ((t,v) :: ρ) u=if t=u then v else Rg.get ρ u:=by
 simp only [Rg.get]
 by_cases h:t=u
 ·subst h;simp
 ·have:Nat.beq t u=false:=by
   cases hb:Nat.beq t u with
   | false=>rfl
   | true=>exact absurd (Nat.eq_of_beq_eq_true hb) h
  rw [this,if_neg h];rfl
theorem qFB {t:Nat} {v:V} {ρ:Rg} (h:Rg.get ρ t=v) (u:Nat):Rg.get ((t,v) :: ρ) u=Rg.get ρ u:=by
 rw [qEK]
 split
 ·rename_i e;rw [<- e,h]
 ·rfl
theorem qif {ρ1:Rg} (h:∀ u,Rg.get ρ1 u=Rg.get ρ u) (x:Operand):ev ρ1 x=ev ρ x:=by
 cases x<;>simp [ev,h]
theorem qdW {ops:List Oper} {K:Rg->Hp->Nat->Option R} (hc:CtxOK P c) (hE:qIK c ops o ρ h nx K=some r):
  ∃ want v up nx' ρ',K ρ' (up++h) nx'=some r /\ StepOK P c ops o ρ h nx want v up nx' /\ qEp o ρ ρ' v:=by
 have hrun:∀ ρ1:Rg,(∀ u,Rg.get ρ1 u=Rg.get ρ u)->qEa c o h nx K ρ1=some r->(∀ (e:Env) (a:Act),(∀ t∈qAh ops o,qT e (ρ.get t) (a.tmps.getD t undef))->Region.wanted o (yielded ops.toArray a.tmps)=true)->
   ∃ want v up nx' ρ',K ρ' (up++h) nx'=some r /\ StepOK P c ops o ρ h nx want v up nx' /\ qEp o ρ ρ' v:=by
  intro ρ1 hρ hE hw
  unfold qEa at hE
  simp only [qKY,qG2,qC7,qJ2] at hE
  have fin:∀ {v:V} {up:Hp} {nx':Nat},(match o.dst with
   | some d=>bif Nat.blt d c.nt then K ((d,v) :: ρ1) (up++h) nx' else none
   | none=>K ρ1 (up++h) nx')=some r->∃ ρ',K ρ' (up++h) nx'=some r /\ qEp o ρ ρ' v /\ ∀ d,o.dst=some d->d<c.nt:=by
   intro v up nx' hE
   cases hd:o.dst with
   | none=>
     rw [hd] at hE
     exact ⟨ρ1,hE,fun t=>by rw [hρ t,hd,if_neg (by simp)],fun d hd=>by cases hd⟩
   | some d=>
     rw [hd] at hE
     obtain ⟨hb,hE⟩:=ql hE
     refine ⟨(d,v) :: ρ1,hE,fun t=>?_,fun d' hd'=>?_⟩
     ·rw [qEK,hd,hρ t];simp
     ·cases hd';simpa [Nat.blt_eq] using hb
  have ecg:∀ x,ev ρ1 x=ev ρ x:=qif hρ
  have refsEq:qBc ρ1 o=qBc ρ o:=by unfold qBc;simp only [ecg]
  have evEq:ev ρ1=ev ρ:=funext ecg
  have readsEq:qAu ρ1 h o=qAu ρ h o:=by unfold qAu qIe;rw [refsEq,evEq]
  cases hs:qCZ o.op with
  | true=>
    obtain ⟨v,h1,h2⟩:=qsA hc hs hE
    obtain ⟨ρ',f1,f2,f3⟩:=fin (v:=v) (up:=[]) (nx':=nx) h1
    have all:∀ h2' nx2,(∀ ob∈qBc ρ o,qCT (qBt o.op) (Hp.get h2' ob) (Hp.get h ob))->qS P o ρ h2' nx2 v [] nx2:=by
     intro h2' nx2 hag
     obtain ⟨v',up',nx',e1,e2⟩:=qZG hc (h2 h2' nx2 (by rw [refsEq];exact hag))
     cases e1
     exact e2.congr fun x _=>ecg x
    exact ⟨true,v,[],nx,ρ',f1,⟨hw,fun _=>all h nx fun _ _=>qI9 _ _,fun _=>⟨rfl,rfl,fun _=>(by rw [qot (qr9 hs)];exact all)⟩,(fun hh=>by cases hh),f3⟩,f2⟩
  | false=>
    cases hv:qBq o.op with
    | true=>
      obtain ⟨v,up,nx',h1,h2,h3⟩:=qhU hc hv hE
      obtain ⟨ρ',f1,f2,f3⟩:=fin (v:=v) (up:=up) (nx':=nx') h1
      refine ⟨true,v,up,nx',ρ',f1,⟨hw,fun _=>h2.congr fun x _=>ecg x,fun hh=>?_,(fun hh=>by cases hh),f3⟩,f2⟩
      obtain ⟨_,g1,g2,g3⟩:=qSG hs hh
      refine ⟨g1,g2,fun _ h2' nx2 hag=>?_⟩
      rw [qts hv] at hag
      rw [readsEq] at h3
      exact (h3 g1 g2 g3 h2' nx2 hag).congr fun x _=>ecg x
    | false=>
      cases hb:qEF o.op with
      | true=>
        obtain ⟨v,up,nx',h1,h2,h3⟩:=qhO hc hb hE
        obtain ⟨ρ',f1,f2,f3⟩:=fin (v:=v) (up:=up) (nx':=nx') h1
        refine ⟨true,v,up,nx',ρ',f1,⟨hw,fun _=>h2.congr fun x _=>ecg x,fun hh=>?_,(fun hh=>by cases hh),f3⟩,f2⟩
        obtain ⟨_,g1,g2,_⟩:=qSG hs hh
        exact ⟨g1,g2,fun _ h2' nx2 _=>(h3 g1 h2' nx2).congr fun x _=>ecg x⟩
      | false=>
        obtain ⟨v,up,nx',h1,h2⟩:=qZG hc hE
        obtain ⟨ρ',f1,f2,f3⟩:=fin (v:=v) (up:=up) (nx':=nx') h1
        exact ⟨true,v,up,nx',ρ',f1,⟨hw,fun _=>h2.congr fun x _=>ecg x,fun hh=>absurd (qSG hs hh).1 (by rw [hv,hb];simp),(fun hh=>by cases hh),f3⟩,f2⟩
 have hskip:∀ ρ1:Rg,(∀ u,Rg.get ρ1 u=Rg.get ρ u)->qII c o h nx K ρ1=some r->(∀ (e:Env) (a:Act),(∀ t∈qAh ops o,qT e (ρ.get t) (a.tmps.getD t undef))->Region.wanted o (yielded ops.toArray a.tmps)=false)->
   ∃ want v up nx' ρ',K ρ' (up++h) nx'=some r /\ StepOK P c ops o ρ h nx want v up nx' /\ qEp o ρ ρ' v:=by
  intro ρ1 hρ hE hw
  unfold qII at hE
  have key:∃ ρ',K ρ' h nx=some r /\ qEp o ρ ρ' qCF /\ ∀ d,o.dst=some d->d<c.nt:=by
   cases hd:o.dst with
   | none=>
     rw [hd] at hE
     exact ⟨ρ1,hE,fun t=>by rw [hρ t,hd,if_neg (by simp)],fun d hd=>by cases hd⟩
   | some d=>
     rw [hd] at hE
     obtain ⟨hb,hE⟩:=ql hE
     refine ⟨(d,qCF) :: ρ1,hE,fun t=>?_,fun d' hd'=>?_⟩
     ·rw [qEK,hd,hρ t];simp
     ·cases hd';simpa [Nat.blt_eq] using hb
  obtain ⟨ρ',f1,f2,f3⟩:=key
  exact ⟨false,qCF,[],nx,ρ',f1,⟨hw,(fun hh=>by cases hh),fun _=>⟨rfl,rfl,(fun hh=>by cases hh)⟩,fun _=>⟨rfl,rfl,rfl⟩,f3⟩,f2⟩
 unfold qIK at hE
 split at hE
 ·rename_i hg
  have hw:∀ (e:Env) (a:Act),(∀ t∈qAh ops o,qT e (ρ.get t) (a.tmps.getD t undef))->Region.wanted o (yielded ops.toArray a.tmps)=true:=fun e a _=>by simp [Region.wanted,hg]
  split at hE
  ·rename_i t x y ho
   split at hE
   ·rename_i z hz
    rcases q9 hE with ⟨rfl,hE⟩ | ⟨rfl,hE⟩
    ·exact hrun _ (qFB hz) hE hw
    ·exact hrun _ (qFB hz) hE hw
   ·exact hrun _ (fun _=>rfl) hE hw
  ·exact hrun _ (fun _=>rfl) hE hw
 ·rename_i j want hg
  have hyl:∀ (a:Act),yielded ops.toArray a.tmps j=(match (qE5 ops j).bind (a.tmps[·]?) with
    | some (.bool b)=>some b
    | _=>none):=fun a=>by simp only [yielded,qVZ,List.getElem?_toArray];rfl
  split at hE
  ·rename_i hd
   refine hskip _ (fun _=>rfl) hE fun e a _=>?_
   simp [Region.wanted,hg,hyl,hd]
  ·rename_i t hd
   have hmem:t∈qAh ops o:=by simp [qAh,hg,hd]
   split at hE
   ·rename_i z hz
    have hy:∀ (e:Env) (a:Act),(∀ t∈qAh ops o,qT e (ρ.get t) (a.tmps.getD t undef))->Region.wanted o (yielded ops.toArray a.tmps)=(z==want):=by
     intro e a hr
     have h1:=hr t hmem
     rw [hz] at h1
     have h1:a.tmps.getD t undef=.bool z:=h1
     have h2:a.tmps[t]? = some (.bool z):=by
      cases hq:a.tmps[t]? with
      | none=>rw [Array.getD_eq_getD_getElem?,hq] at h1;cases h1
      | some q=>rw [Array.getD_eq_getD_getElem?,hq] at h1;exact congrArg some h1
     simp [Region.wanted,hg,hyl,hd,h2]
    rcases q9 hE with ⟨rfl,hE⟩ | ⟨rfl,hE⟩<;>cases want
    ·exact hskip _ (qFB hz) hE fun e a hr=>by rw [hy e a hr];rfl
    ·exact hrun _ (qFB hz) hE fun e a hr=>by rw [hy e a hr];rfl
    ·exact hrun _ (qFB hz) hE fun e a hr=>by rw [hy e a hr];rfl
    ·exact hskip _ (qFB hz) hE fun e a hr=>by rw [hy e a hr];rfl
   ·rename_i hz
    refine hskip _ (fun _=>rfl) hE fun e a hr=>?_
    have h1:=hr t hmem
    rw [hz] at h1
    obtain ⟨arr,h2,h3⟩:=h1
    have h4:∀ b,a.tmps[t]? ≠ some (.bool b):=by
     intro b hb
     simp [hb] at h2
    simp only [Region.wanted,hg,hyl,hd,Option.bind_some]
    cases hq:a.tmps[t]? with
    | none=>rfl
    | some q=>cases q<;>first | rfl | exact absurd hq (h4 _)
   ·cases hE
end
end Go.Kk
