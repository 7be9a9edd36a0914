/-
 Maps: the pure interpreter's operations on them are the machine's.
-/
import Derived.Test.YthklalefbhbhmaaGreatDoorKkA
import Derived.MapKept
namespace Go.Kk
theorem qfx {P:Program} (em:Bool):∀ (f:Nat) (t:TypeId) (ck:List CK),qA8 P f t=some ck->∀ (d:Nat),f<=d->∀ (xs:List Value),qB CKv ck xs->∀ w:World,
  (Instr.checkKey em d t (mkV P t xs)).run P w=.ok () w:=by
 intro f
 induction f with
 | zero=>intro t ck h;cases h
 | succ f ih=>
   intro t ck h d hd xs hx w
   obtain⟨d,rfl⟩:∃ m,d=m+1:=⟨d - 1,by omega⟩
   obtain⟨f',e1,hc,i,hi,hs⟩:=qIT h
   cases e1
   unfold qG9 at hc
   unfold mkV qAn
   cases hu:P.underlying t with
   | none=>rw[hu] at hc;cases hc
   | some desc=>
     rw[hu] at hc
     cases desc<;>simp only at hc<;>try cases hc
     ·match xs,hx with
      | [x],hx=>
        obtain⟨a,rfl⟩:=hx.1
        simp[Instr.checkKey,run_underlying hu]
     ·match xs,hx with
      | [x],hx=>
        obtain⟨a,rfl⟩:=hx.1
        simp[Instr.checkKey,run_underlying hu]
     ·match xs,hx with
      | [x],hx=>
        obtain⟨a,rfl⟩:=hx.1
        simp[Instr.checkKey,run_underlying hu]
     ·rename_i n e
      split at hc<;>cases hc
      rename_i le hle
      obtain⟨_,_,_,ie,hie,hse⟩:=qIT hle
      have hsz:(sizeOf e).run P w=.ok le.length w:=by simp[sizeOf,typeInfo,hie,hse]
      simp only
      rw[Instr.checkKey]
      simp only[Sem.run_bind,run_underlying hu,Result.andThen_ok]
      simp only[Std.Legacy.Range.forIn_eq_forIn_range',Std.Legacy.Range.size,Nat.sub_zero,Nat.add_one_sub_one,Nat.div_one]
      have key:∀ (m i:Nat) (pre:List CK),i+m=n->pre.length=i*le.length->(List.replicate n le).flatten=pre++(List.replicate m le).flatten->
        (forIn (List.range' i m) PUnit.unit fun i _=>(do
         Instr.checkKey em d e (<- part e xs.toArray (i*(<- sizeOf e)))
         pure (ForInStep.yield PUnit.unit):Sem (ForInStep PUnit))).run P w=.ok PUnit.unit w:=by
       intro m
       induction m with
       | zero=>intro i pre _ _ _;simp
       | succ m ihm=>
         intro i pre him hp he
         have he':=he
         rw[List.replicate_succ,List.flatten_cons] at he'
         rw[he'] at hx
         obtain⟨x1,x2,x3⟩:=qGn hx
         rw[hp] at x1 x2 x3
         have hnext:=ihm (i+1) (pre++le) (by omega) (by rw[List.length_append,hp,Nat.add_mul];omega) (by rw[he',List.append_assoc])
         simp only[List.range'_succ,List.forIn_cons,Sem.run_bind,hsz,Result.andThen_ok,qH8 hle w xs (i*le.length) (by omega),ih e le hle d (by omega) _ x1 w,Sem.run_pure]
         exact hnext
      have h2:=key n 0 [] (by omega) (by simp) (by simp)
      simp at h2 ⊢
      rw[h2];rfl
     ·rename_i fs
      split at hc<;>try cases hc
      rename_i hst
      rw[Instr.checkKey]
      simp only[Sem.run_bind,run_underlying hu,Result.andThen_ok]
      rw[<- Array.forIn_toList]
      have key:∀ (l:List Field) (off:Nat) (pre post:List CK),qFz (qA8 P f) l off=some post->pre.length=off->ck=pre++post->
        (forIn l PUnit.unit fun f _=>(do
         if f.name ≠ "_" then do
          Instr.checkKey em d f.type (<- part f.type xs.toArray f.offset)
          pure (ForInStep.yield PUnit.unit)
         else pure (ForInStep.yield PUnit.unit):Sem (ForInStep PUnit))).run P w=.ok PUnit.unit w:=by
       intro l
       induction l with
       | nil=>intro off pre post _ _ _;simp
       | cons fd l ihl=>
         intro off pre post hl hp he
         simp only[qFz] at hl
         split at hl<;>try cases hl
         rename_i le hle hdec
         split at hl<;>cases hl
         rename_i m hm
         simp only[decide_eq_true_eq] at hdec
         obtain⟨hn,hof⟩:=hdec
         rw[he] at hx
         obtain⟨x1,x2,x3⟩:=qGn hx
         rw[hp] at x1 x2 x3
         have hnext:=ihl (off+le.length) (pre++le) m hm (by simp[hp]) (by rw[he,List.append_assoc])
         simp only[List.forIn_cons,Sem.run_bind,hn,ne_eq,not_false_eq_true,if_true,Result.andThen_ok,hof,qH8 hle w xs off (by omega),ih fd.type le hle d (by omega) _ x1 w,Sem.run_pure]
         exact hnext
      have h2:=key fs.toList 0 [] ck hc rfl rfl
      simp at h2 ⊢
      rw[h2];rfl
end Go.Kk
namespace Go.Kk
theorem qbe {e e':Env} {c:CK} {n:Int} {v:Value} (h:qI e (mk c n) v):qI e' (mk c n) v:=by cases c<;>exact h
theorem qRs {e e':Env}:∀ {ks:List CK} {r:List Int} {xs:List Value},qB (qI e) (mks ks r) xs->qB (qI e') (mks ks r) xs
 | [],_,[],_=>trivial
 | [],_,_ :: _,h=>h.elim
 | _ :: _,_,[],h=>h.elim
 | _ :: _,_,_ :: _,h=>⟨qbe h.1,qRs h.2⟩
theorem qkF {e e':Env} {c:CK} {n:Int} {v v':Value} (h:qI e (mk c n) v) (h':qI e' (mk c n) v'):v=v':=by
 cases c
 ·exact h.1.trans h'.1.symm
 ·exact Eq.trans h (Eq.symm h')
 ·exact Eq.trans h (Eq.symm h')
theorem qYK {e e':Env}:∀ {ks:List CK} {r:List Int} {xs ys:List Value},qB (qI e) (mks ks r) xs->qB (qI e') (mks ks r) ys->xs=ys
 | [],_,[],[],_,_=>rfl
 | [],_,_ :: _,_,h,_=>h.elim
 | [],_,[],_ :: _,_,h=>h.elim
 | _ :: _,_,[],_,h,_=>h.elim
 | _ :: _,_,_ :: _,[],_,h=>h.elim
 | _ :: _,_,_ :: _,_ :: _,h,h'=>by rw[qkF h.1 h'.1,qYK h.2 h'.2]
theorem qAS.eq {ag:Bool} {ks:List CK} {r:List Int} {v v':Value} (h:qAS ag ks r v) (h':qAS ag ks r v'):v=v':=by
 obtain⟨_,_,xs,h1,rfl⟩:=h
 obtain⟨_,_,ys,h2,rfl⟩:=h'
 rw[qYK h1 h2]
theorem qJY {e:Env} {x:V} {v:Value} {ag:Bool} {cs:List CK} {r:List Int} (h:qS e x v) (hx:x.row? = some (ag,cs,r)):qAS ag cs r v:=by
 cases x with
 | s x=>
   cases x<;>simp[V.row?,S.ck?,S.n?] at hx
   ·obtain⟨rfl,rfl,rfl⟩:=hx
    rename_i k n
    have h:v=.int k n /\ k.wrap n=n:=h
    exact⟨⟨h.2,trivial⟩,.inr rfl,[v],⟨h,trivial⟩,rfl⟩
   ·obtain⟨rfl,rfl,rfl⟩:=hx
    rename_i b
    have h:v=.bool b:=h
    refine⟨⟨by cases b<;>simp[qFr,bi,br],trivial⟩,.inr rfl,[v],⟨?_,trivial⟩,rfl⟩
    show qI qAo (.b (bi b != 0)) v
    rw[qGu];exact h
   ·obtain⟨rfl,rfl,rfl⟩:=hx
    rename_i b
    have h:v=.string b:=h
    refine⟨⟨qNy b,trivial⟩,.inr rfl,[v],⟨?_,trivial⟩,rfl⟩
    show qI qAo (.str (qBK (qBL b))) v
    rw[qHB];exact h
 | agg l=>
   simp only[V.row?] at hx
   split at hx<;>cases hx
   rename_i ht
   obtain⟨arr,rfl,h2,h3⟩:=h
   obtain⟨q1,q2⟩:=qdO l _ _ ht h3 (qGV h2)
   rw[q1] at h2
   exact⟨q2,.inl rfl,arr.toList,qRs h2,by simp[mkA]⟩
 | tup l=>cases hx
theorem qrT {e:Env} {L:Lay} {ks:List CK} {r:List Int} {x:W} {v:Value} (h:qAS L.isAgg ks r v) (hk:qAL L.segTs=some ks) (hx:qLz L r=some x):qCY e x v:=by
 obtain⟨h1,h2,xs,h3,rfl⟩:=h
 have agg:L.isAgg=true->(match qCo L.segTs r with
   | some l=>some (W.agg l)
   | none=>none)=some x->qCY e x (mkA L.isAgg xs):=by
  intro ha hx
  split at hx<;>cases hx
  rename_i l hl
  obtain⟨q1,q2,_⟩:=qSv _ _ _ _ hl hk h1
  rw[ha]
  exact⟨xs.toArray,rfl,by rw[q1];simpa using qRs h3,q2⟩
 cases L with
 | sc k=>
   simp only[qLz] at hx
   split at hx<;>cases hx
   rename_i c hc
   simp only[Lay.segTs,qAL,kcks?,hc,List.append_nil,Option.some.injEq] at hk
   subst hk
   match xs,h3 with
   | [y],h3=>exact qbe h3.1
 | st ts fl=>exact agg rfl hx
 | ar n m e' sg=>exact agg rfl hx
theorem qpN {d:TypeDesc} {ag:Bool} {ks:List CK} {r t:List Int} {v u:Value} {z:Bool} (h:qAS ag ks r v) (h':qAS ag ks t u) (hz:Instr.sameNow d v u=some z):z=true↔r=t:=by
 obtain⟨h1,h2,xs,h3,rfl⟩:=h
 obtain⟨g1,_,ys,g3,rfl⟩:=h'
 cases ag with
 | true=>exfalso;cases d<;>simp[Instr.sameNow,mkA] at hz
 | false =>
   match ks,h2 with
   | [c],_=>
     match r,t,xs,ys,h1,g1,h3,g3 with
     | [a],[b],[x],[y],h1,g1,h3,g3=>
       cases c with
       | i k=>
         obtain⟨rfl,_⟩:=h3.1
         obtain⟨rfl,_⟩:=g3.1
         have hz':Instr.sameNow d (.int k a) (.int k b)=some z:=hz
         cases d<;>simp[Instr.sameNow] at hz'
         rw[<- hz'];simp
       | b=>
         have e1:x=.bool (a != 0):=h3.1
         have e2:y=.bool (b != 0):=g3.1
         subst e1 e2
         have hz':Instr.sameNow d (.bool (a != 0)) (.bool (b != 0))=some z:=hz
         have ha:a=0 \/ a=1:=h1.1
         have hb:b=0 \/ b=1:=g1.1
         cases d<;>simp[Instr.sameNow] at hz'
         rw[<- hz']
         rcases ha with rfl | rfl<;>rcases hb with rfl | rfl<;>simp_all
       | s=>
         have e1:x=.string (qBK a):=h3.1
         have e2:y=.string (qBK b):=g3.1
         subst e1;subst e2
         have hz':Instr.sameNow d (.string (qBK a)) (.string (qBK b))=some z:=hz
         have q1:qBL (qBK a)=a:=h1.1
         have q2:qBL (qBK b)=b:=g1.1
         cases d<;>simp[Instr.sameNow] at hz'
         rw[<- hz',<- qVE,q1,q2];simp
def qCW (L:List (List Int×List Int)) (r:List Int) (es:List MapEntry) (off:Nat):Option (Nat×Value)->Prop
 | none=>∀ x∈L,x.1≠r
 | some (j,v)=>∃ i e u,j=off+i /\ es[i]? = some e /\ v=e.val /\ L[i]? = some (r,u) /\ ∀ i' x,i'<i->L[i']? = some x->x.1≠r
theorem qCW.here {L:List (List Int×List Int)} {r u:List Int} {es:List MapEntry} {e:MapEntry} {off:Nat}:qCW ((r,u) :: L) r (e :: es) off (some (off,e.val)):=
 ⟨0,e,u,rfl,rfl,rfl,rfl,fun i' _ h=>absurd h (by omega)⟩
theorem qCW.later {L:List (List Int×List Int)} {r:List Int} {x:List Int×List Int} {es:List MapEntry} {e:MapEntry} {off:Nat} {res:Option (Nat×Value)} (hx:x.1≠r) (h:qCW L r es (off+1) res):qCW (x :: L) r (e :: es) off res:=by
 cases res with
 | none=>
   intro y hy
   rcases List.mem_cons.1 hy with rfl | hy
   ·exact hx
   ·exact h y hy
 | some p=>
   obtain⟨j,v⟩:=p
   obtain⟨i,e',u,rfl,h1,h2,h3,h4⟩:=h
   refine⟨i+1,e',u,by omega,h1,h2,h3,fun i' y hi hy=>?_⟩
   cases i' with
   | zero=>simp at hy;subst hy;exact hx
   | succ i'=>exact h4 i' y (by omega) (by simpa using hy)
theorem qYY {d:TypeDesc} {ag:Bool} {ks:List CK} {r:List Int} {v:Value} (hr:qAS ag ks r v):∀ {L:List (List Int×List Int)} {es:List MapEntry} (off:Nat),qB (fun x m=>qAS ag ks x.1 m.key) L es->
  Instr.findNow d v es off=none \/ ∃ res,Instr.findNow d v es off=some res /\ qCW L r es off res
 | [],[],off,_=>.inr ⟨none,rfl,fun x hx=>by cases hx⟩
 | [],_ :: _,_,h=>h.elim
 | _ :: _,[],_,h=>h.elim
 | x :: L,e :: es,off,h=>by
   unfold Instr.findNow
   cases hs:Instr.sameNow d v e.key with
   | none=>exact .inl rfl
   | some z=>
     have hz:=qpN hr h.1 hs
     cases z with
     | true=>
       have:r=x.1:=hz.1 rfl
       obtain⟨x1,x2⟩:=x
       simp only at this
       subst this
       exact .inr ⟨_,rfl,qCW.here⟩
     | false=>
       have hne:x.1≠r:=fun hh=>by have:=hz.2 hh.symm;cases this
       rcases qYY hr (off+1) h.2 with hn | ⟨res,h1,h2⟩
       ·exact .inl hn
       ·exact .inr ⟨res,h1,qCW.later hne h2⟩
section
variable {P:Program}
theorem qTF {k:TypeId} {f:Nat} {ck:List CK} (htc:qA8 P f k=some ck) (hf:f<=10000) {r:List Int} {v:Value} (hr:qAS (qAn P k) ck r v) (w:World):∀ {L:List (List Int×List Int)} {es:List MapEntry} (off:Nat),qB (fun x m=>qAS (qAn P k) ck x.1 m.key) L es->
  ∃ res,(Instr.findAsking k v es off).run P w=.ok res w /\ qCW L r es off res
 | [],[],off,_=>⟨none,rfl,fun x hx=>by cases hx⟩
 | [],_ :: _,_,h=>h.elim
 | _ :: _,[],_,h=>h.elim
 | x :: L,e :: es,off,h=>by
   obtain⟨h1,h2,xs,h3,hv⟩:=id hr
   obtain⟨g1,g2,ys,g3,hk⟩:=h.1
   obtain⟨c1,c2,c3⟩:=qRw h1 g1 h3 g3
   have heq:(Op.equal k v e.key).run P w=.ok (ceq xs ys) w:=by
    have hm:∀ zs,mkA (qAn P k) zs=mkV P k zs:=fun zs=>by unfold mkV mkA;cases qAn P k<;>rfl
    rw[hv,hk,hm,hm]
    exact qVG f k ck htc 10000 hf xs ys c1 c2 w
   unfold Instr.findAsking
   rw[Sem.run_bind,heq,Result.andThen_ok,c3]
   by_cases hrr:r=x.1
   ·obtain⟨x1,x2⟩:=x
    simp only at hrr
    subst hrr
    simp only[beq_self_eq_true,if_true]
    exact⟨_,rfl,qCW.here⟩
   ·have:(r==x.1)=false:=by simpa using hrr
    rw[this]
    obtain⟨res,q1,q2⟩:=qTF htc hf hr w (off+1) h.2
    exact⟨res,q1,qCW.later (fun hh=>hrr hh.symm) q2⟩
theorem qKw {k:TypeId} {f:Nat} {ck:List CK} (htc:qA8 P f k=some ck) (hf:f<=10000) {r:List Int} {v:Value} (hr:qAS (qAn P k) ck r v) (w:World) {L:List (List Int×List Int)} {es:List MapEntry} (h:qB (fun x m=>qAS (qAn P k) ck x.1 m.key) L es):
  ∃ res,(Instr.findKey k v es).run P w=.ok res w /\ qCW L r es 0 res:=by
 have hu:∃ d,P.underlying k=some d:=by
  obtain⟨f',rfl,hc,_⟩:=qIT htc
  unfold qG9 at hc
  cases hd:P.underlying k with
  | none=>rw[hd] at hc;cases hc
  | some d=>exact⟨d,rfl⟩
 obtain⟨d,hd⟩:=hu
 unfold Instr.findKey
 rw[Sem.run_bind,run_underlying hd,Result.andThen_ok]
 rcases qYY (d:=d) hr 0 h with hn | ⟨res,h1,h2⟩
 ·rw[hn];exact qTF htc hf hr w 0 h
 ·rw[h1];exact⟨res,rfl,h2⟩
theorem qKv {k:TypeId} {f:Nat} {ck:List CK} (htc:qA8 P f k=some ck) (hf:f<=10000) {r:List Int} {v:Value} (hr:qAS (qAn P k) ck r v) (w:World) (em:Bool):(Instr.checkKey em 10000 k v).run P w=.ok () w:=by
 obtain⟨h1,h2,xs,h3,rfl⟩:=hr
 obtain⟨c1,_,_⟩:=qRw h1 h1 h3 h3
 have:=qfx em f k ck htc 10000 hf xs c1 w
 unfold mkV at this
 unfold mkA
 exact this
theorem qWd {L:List (List Int×List Int)} {r:List Int} (h:∀ x∈L,x.1≠r) (d v:List Int):qBB L r d=d /\ qBC L r=false /\ qAK L r v=L++[(r,v)]:=by
 induction L with
 | nil=>exact⟨rfl,rfl,rfl⟩
 | cons x L ih=>
   obtain⟨k,u⟩:=x
   have hk:(k==r)=false:=by simpa using h (k,u) (by simp)
   obtain⟨i1,i2,i3⟩:=ih fun y hy=>h y (by simp[hy])
   simp only[qBB,qBC,qAK,hk,cond_false,Bool.false_or,i1,i2,i3,List.cons_append,and_self]
theorem qWe {L:List (List Int×List Int)} {r u:List Int} {i:Nat} (hi:L[i]? = some (r,u)) (hb:∀ i' x,i'<i->L[i']? = some x->x.1≠r) (d v:List Int):qBB L r d=u /\ qBC L r=true /\ qAK L r v=L.set i (r,v):=by
 induction L generalizing i with
 | nil=>simp at hi
 | cons x L ih=>
   obtain⟨k,u'⟩:=x
   cases i with
   | zero=>
     simp at hi
     obtain⟨rfl,rfl⟩:=hi
     simp[qBB,qBC,qAK]
   | succ i=>
     have hk:(k==r)=false:=by simpa using hb 0 (k,u') (by omega) (by simp)
     obtain⟨i1,i2,i3⟩:=ih (i:=i) (by simpa using hi) fun i' x hi' hx=>hb (i'+1) x (by omega) (by simpa using hx)
     simp only[qBB,qBC,qAK,hk,cond_false,Bool.false_or,i1,i2,i3,List.set_cons_succ,and_self]
theorem qpJ {ag:Bool} {ks:List CK} {r:List Int} {v:Value} (h:qAS ag ks r v):Instr.sameBits 10000 v v=true:=by
 obtain⟨h1,h2,xs,h3,rfl⟩:=h
 have one:∀ (n:Nat) {ks:List CK} {r:List Int} {xs:List Value},qB (qI qAo) (mks ks r) xs->∀ x∈xs,Instr.sameBits n x x=true:=by
  intro n ks
  induction ks with
  | nil=>intro r xs h x hx;cases xs with
    | nil=>cases hx
    | cons _ _=>exact h.elim
  | cons c ks ih=>
    intro r xs h x hx
    cases xs with
    | nil=>exact h.elim
    | cons y ys=>
      rcases List.mem_cons.1 hx with rfl | hx
      ·cases c
       ·obtain⟨rfl,_⟩:=h.1
        simp[Instr.sameBits]
       ·have:x=.bool _:=h.1
        subst this
        simp[Instr.sameBits]
       ·have:x=.string _:=h.1
        subst this
        simp[Instr.sameBits,qMv]
      ·exact ih h.2 x hx
 cases ag with
 | true=>
   have:Instr.sameBits 10000 (.agg xs.toArray) (.agg xs.toArray)=(xs.toArray.size==xs.toArray.size&&(xs.toArray.toList.zip xs.toArray.toList).all fun (x,y)=>Instr.sameBits 9999 x y):=rfl
   show Instr.sameBits 10000 (.agg xs.toArray) (.agg xs.toArray)=true
   rw[this]
   simp only[beq_self_eq_true,Bool.true_and,List.all_eq_true]
   rintro ⟨x,y⟩ hxy
   have hz:∀ (l:List Value) (p:Value×Value),p∈l.zip l->p.1=p.2 /\ p.1∈l:=by
    intro l
    induction l with
    | nil=>intro p hp;cases hp
    | cons a l ih=>
      intro p hp
      rw[List.zip_cons_cons] at hp
      rcases List.mem_cons.1 hp with rfl | hp
      ·exact⟨rfl,by simp⟩
      ·exact⟨(ih p hp).1,by simp[(ih p hp).2]⟩
   obtain⟨e1,e2⟩:=hz _ _ hxy
   simp only at e1 e2
   subst e1
   exact one 9999 h3 x (by simpa using e2)
 | false=>
   match ks,h2 with
   | [c],_=>match xs,h3 with
     | [x],h3=>exact one 10000 (ks:=[c]) h3 x (by simp)
theorem qcq {ag:Bool} {ks:List CK} {r:List Int} {v:Value} (h:qAS ag ks r v) (w:World):(Instr.keyThatStays v v).run P w=.ok v w:=by
 unfold Instr.keyThatStays
 rw[qpJ h]
 rfl
variable {o:Oper} {ρ:Rg} {h:Hp} {nx:Nat} {c:Ctx}
theorem qS7 {tab:Tab} {t:TypeId} {L:Lay} (hL:LayOK P tab t L):qAn P t=L.isAgg:=by
 have hd:=hL.desc
 unfold qAn
 cases L with
 | sc kd=>
   obtain⟨d,hu,hk⟩:=hd
   rw[hu]
   cases kd<;>simp only at hk
   all_goals first | (subst hk;rfl) | (obtain⟨_,rfl⟩:=hk;rfl) | (obtain⟨_,_,rfl⟩:=hk;rfl) | (obtain⟨_,_,_,rfl⟩:=hk;rfl)
 | st ts fl=>obtain⟨fs,hu,_⟩:=hd;rw[hu];rfl
 | ar n q e sg=>obtain⟨hu,_⟩:=hd;rw[hu];rfl
structure MapOK (P:Program) (tab:Tab) (t k e:TypeId) (Lk Le:Lay) (a b:List CK):Prop where
 und:P.underlying t=some (.map k e)
 key:∃ f,f<=10000 /\ qA8 P f k=some a
 kagg:qAn P k=Lk.isAgg
 lay:LayOK P tab e Le
 row:qAL Le.segTs=some b
theorem qIt:∀ {ts:List SegT} {a b:List CK},qAL ts=some a->qBJ ts=some b->a=b
 | [],a,b,h1,h2=>by simp[qAL] at h1;simp[qBJ] at h2;rw[h1,h2]
 | t :: ts,a,b,h1,h2=>by
   cases t<;>simp only[qAL] at h1<;>simp only[qBJ] at h2
   ·split at h1<;>cases h1
    rename_i x y e1 e2
    split at h2<;>cases h2
    rename_i x' y' e3 e4
    rw[e1] at e3;cases e3
    rw[qIt e2 e4]
   ·split at h1<;>cases h1
    rename_i y e2
    split at h2<;>cases h2
    rename_i x' y' e3 e4
    cases e3
    rw[qIt e2 e4]
   ·split at h1<;>cases h1
    rename_i y e2
    split at h2<;>cases h2
    rename_i x' y' e3 e4
    cases e3
    rw[qIt e2 e4]
   ·cases h1
theorem qYA (htab:∀ t L,c.tab.get t=some L->LayOK P c.tab t L)
  (heqs:∀ t L,qC0 t c.eqs=true->c.tab.get t=some L->∃ f ck,f<=10000 /\ qA8 P f t=some ck /\ qBJ L.segTs=some ck /\ P.eqGuardType P.depth t=false)
  {t:TypeId} {Lk Le:Lay} {a b:List CK} (h:qJD c t=some ((Lk,a),(Le,b))):∃ k e,MapOK P c.tab t k e Lk Le a b:=by
 unfold qJD at h
 split at h<;>try cases h
 rename_i k e hL
 split at h<;>try cases h
 rename_i Lk' Le' hk he
 split at h<;>try cases h
 rename_i a' b' h1 h2
 cases hm:qC0 k c.eqs with
 | false=>rw[hm] at h;cases h
 | true=>
   rw[hm] at h
   cases h
   obtain⟨f,ck,q1,q2,q3,_⟩:=heqs k _ hm hk
   obtain⟨d,hd,hd2⟩:=(htab t _ hL).desc
   simp only at hd2
   subst hd2
   have:=qIt h1 q3
   subst this
   exact⟨k,e,hd,⟨f,q1,q2⟩,qS7 (htab k _ hk),htab e _ he,h2⟩
theorem qj8 {nm:Nm} {w:World} {ka va:Bool} {ks vs:List CK} (hh:RelH ⟨nm,h,nx⟩ w):
  ∃ nm',nm' nx=some (w.heap.size,0,0) /\ RelH ⟨nm',[(nx,.map ka va ks vs [])]++h,nx+1⟩ (w.alloc (.map #[] 0)) /\ Frame' ⟨nm,h,nx⟩ w (w.alloc (.map #[] 0)) /\
    Ext ⟨nm,h,nx⟩ ⟨nm',[(nx,.map ka va ks vs [])]++h,nx+1⟩ w:=by
 let nm':Nm:=fun q=>if q=nx then some (w.heap.size,0,0) else if q<nx then nm q else none
 have hlook:∀ q,q≠nx->List.lookup q [(nx,Obj.map ka va ks vs [])]=none:=fun q hq=>by simp[List.lookup,beq_eq_false_iff_ne.2 hq]
 have hself:List.lookup nx [(nx,Obj.map ka va ks vs [])]=some (.map ka va ks vs []):=by simp[List.lookup]
 refine⟨nm',by simp[nm'],qJF hh (Nat.le_succ _) (fun q hq=>⟨hlook q (by have:q<nx:=hq;omega),?_⟩) (fun q hq=>hlook q (by omega)) (fun q hq hq'=>?_) (fun q x hq hx=>?_) (fun k hk=>by simp only[World.alloc,Array.getElem?_push,Nat.ne_of_lt hk,if_false]) rfl rfl rfl (by simp)⟩
 ·have hq:q<nx:=hq
  simp only[nm'];rw[if_neg (by omega),if_pos hq]
 ·have e1:q=nx:=by have:nx<=q:=hq;omega
  subst e1
  have hg:Hp.get ([(q,Obj.map ka va ks vs [])]++h) q=.map ka va ks vs []:=by rw[qm,hself]
  unfold qG
  dsimp only
  rw[hg]
  exact⟨w.heap.size,#[],0,by simp[nm'],heap_alloc_new w _,trivial⟩
 ·have hq:nx<=q:=hq
  simp only[Has,nm'] at hx
  by_cases e1:q=nx
  ·subst e1;rw[if_pos rfl] at hx;have:=qDB hx (by unfold big;omega);exact⟨rfl,by omega⟩
  ·rw[if_neg e1,if_neg (by omega)] at hx;cases hx
theorem qYf {t:TypeId} {ka va:Bool} {ks vs:List CK} (ho:o.op=.makeMap t none):qQ P o ρ h nx (.s (.mp nx)) [(nx,.map ka va ks vs [])] (nx+1):=by
 intro nm w a hr hh N Q hN
 obtain⟨nm',n1,n2,n3,n4⟩:=qj8 (ka:=ka) (va:=va) (ks:=ks) (vs:=vs) hh
 unfold Oper.wp
 have hrun:(execOp a.eval o).run P w=.ok (.value (.map (some w.heap.size))) (w.alloc (.map #[] 0)):=by
  simp[execOp,ho,Instr.makeMap]
 rw[hrun]
 refine hN _ nm' _ ?_ n2 n3 n4
 refine⟨Nat.lt_succ_self _,?_⟩
 show match (Hp.get ([(nx,Obj.map ka va ks vs [])]++h) nx).shape with | _=>_
 have:Hp.get ([(nx,Obj.map ka va ks vs [])]++h) nx=.map ka va ks vs []:=by rw[qm];simp[List.lookup]
 rw[this]
 exact⟨w.heap.size,0,0,n1,rfl⟩
theorem qPl {e:Env} {w:World} {ob:Nat} {v:Value} {ka va:Bool} {ks vs:List CK} {es:List (List Int×List Int)} (hh:RelH e w) (hv:qI e (.mp ob) v) (ho:e.h.get ob=.map ka va ks vs es):
  ob<e.nx /\ ∃ b ents clock,e.nm ob=some (b,0,0) /\ v=.map (some b) /\ w.heap[b]? = some (.map ents clock) /\ qB (qMZ ka va ks vs) es ents.toList:=by
 have h1:=hh.obj ob
 unfold qG at h1
 rw[ho] at h1
 obtain⟨b,ents,clock,h2,h3,h4⟩:=h1
 obtain⟨h5,h6⟩:=hv
 rw[ho] at h6
 obtain⟨b',off,cap,h7,h8⟩:=h6
 rw[h2] at h7
 cases h7
 exact⟨h5,b,ents,clock,h2,h8,h3,h4⟩
theorem qrZ {tab:Tab} {e:TypeId} {Le:Lay} {b:List CK} (hL:LayOK P tab e Le) (hb:qAL Le.segTs=some b) (w:World):
  ∃ z,(zeroValue e).run P w=.ok z w /\ qAS Le.isAgg b (List.replicate b.length 0) z:=by
 obtain⟨i,z,h1,h2,h3,h4⟩:=hL.info
 have hz:=hL.zag i z h1 h3
 refine⟨z,by simp[zeroValue,typeInfo,h1,h3],?_,?_,z.cells.toList,?_,?_⟩
 ·have:∀ b:List CK,qq b (List.replicate b.length 0):=by
   intro b
   induction b with
   | nil=>trivial
   | cons c b ih=>exact⟨by cases c with
     | i k=>cases k<;>rfl
     | b=>exact .inl rfl
     | s=>rfl,ih⟩
  exact this b
 ·cases Le with
  | sc kd=>
    right
    simp only[Lay.segTs,qAL,kcks?] at hb
    split at hb<;>cases hb
    rename_i x y e1 e2
    cases e2
    split at e1<;>cases e1
    rename_i e3
    cases e3
    rfl
  | st ts fl=>exact .inl rfl
  | ar n q e sg=>exact .inl rfl
 ·rw[h4];exact qJV hb
 ·cases Le with
  | sc kd=>simp only at hz;rw[hz];rfl
  | st ts fl=>simp only at hz;obtain⟨cs,rfl⟩:=hz;simp[mkA,Lay.isAgg,Value.cells]
  | ar n q e sg=>simp only at hz;obtain⟨cs,rfl⟩:=hz;simp[mkA,Lay.isAgg,Value.cells]
theorem qlB {t k e:TypeId} {m x:Operand} {okk:Bool} {ob:Nat} {Lk Le:Lay} {a b:List CK} {es:List (List Int×List Int)} {r:List Int} {y:W} (ho:o.op=.lookup t m x okk)
  (hm:ev ρ m=.s (.mp ob)) (hx:(ev ρ x).row? = some (Lk.isAgg,a,r)) (hob:h.get ob=.map Lk.isAgg Le.isAgg a b es) (hM:MapOK P c.tab t k e Lk Le a b)
  (hw:qLz Le (qBB es r (List.replicate b.length 0))=some y):qQ P o ρ h nx (bif okk then .tup [y,.s (.b (qBC es r))] else y.v) [] nx:=by
 refine qQ.pure fun nm w ac hr hh=>?_
 have h1:=hr m (by simp[ho,Op.operands])
 have h2:=hr x (by simp[ho,Op.operands])
 rw[hm] at h1
 obtain⟨q1,blk',ents,clock,q2,q3,q4,q5⟩:=qPl hh h1 hob
 have hk:=qJY h2 hx
 rw[<- hM.kagg] at hk q5
 obtain⟨f,hf,htc⟩:=hM.key
 obtain⟨res,r1,r2⟩:=qKw htc hf hk w (qB.mono (fun _ _ h=>h.1) q5)
 obtain⟨z,z1,z2⟩:=qrZ hM.lay hM.row w
 have run:∃ v,(Instr.lookup t (.map (some blk')) (ac.eval x) okk).run P w=.ok (if okk then .tuple #[v,.bool (qBC es r)] else v) w /\ qAS Le.isAgg b (qBB es r (List.replicate b.length 0)) v:=by
  have hget:(getObj blk').run P w=.ok (.map ents clock) w:=by simp[getObj,Sem.run,q4]
  unfold Instr.lookup
  simp only[Sem.run_bind,run_underlying hM.und,Result.andThen_ok,hget,Sem.run_pure,qKv htc hf hk w,r1]
  cases res with
  | none=>
    obtain⟨g1,g2,_⟩:=qWd r2 (List.replicate b.length 0) []
    refine⟨z,?_,by rw[g1];exact z2⟩
    rw[g2]
    simp only[Sem.run_bind,z1,Result.andThen_ok,Sem.run_pure]
  | some p=>
    obtain⟨j,v⟩:=p
    obtain⟨i,e',u,g1,g2,rfl,g4,g5⟩:=r2
    obtain⟨k1,k2,_⟩:=qWe g4 g5 (List.replicate b.length 0) []
    obtain⟨e2,g6,g7⟩:=qB.get i q5 g4
    rw[g2] at g6
    cases g6
    refine⟨e'.val,?_,by rw[k1];exact g7.2⟩
    rw[k2]
    simp only
    cases okk<;>rfl
 obtain⟨v,v1,v2⟩:=run
 have hy:qCY ⟨nm,h,nx⟩ y v:=qrT v2 hM.row hw
 refine⟨_,by simp[execOp,ho,q3,v1];rfl,?_⟩
 cases okk with
 | false=>exact hy.v
 | true=>exact⟨_,rfl,hy,rfl,trivial⟩
theorem qS8 {α β:Type} {R:α->β->Prop} {l:List α} {m:List β} {x:α} {y:β} (h:qB R l m) (hx:R x y):qB R (l++[x]) (m++[y]):=qB.append h ⟨hx,trivial⟩
theorem qMc {α β:Type} {R:α->β->Prop} {x:α} {g:β->β}:∀ {l:List α} {m:List β} {i:Nat} {y:β},qB R l m->m[i]? = some y->R x (g y)->qB R (l.set i x) (m.modify i g)
 | [],[],i,_,_,h,_=>by simp at h
 | [],_ :: _,_,_,h,_,_=>h.elim
 | _ :: _,[],_,_,h,_,_=>h.elim
 | a :: l,b :: m,0,y,h,hy,hx=>by
   simp at hy
   subst hy
   exact⟨hx,h.2⟩
 | a :: l,b :: m,i+1,y,h,hy,hx=>by
   have:=qMc (i:=i) h.2 (by simpa using hy) hx
   exact⟨h.1,this⟩
theorem qlF {t k e:TypeId} {m x y:Operand} {ob:Nat} {Lk Le:Lay} {a b:List CK} {es:List (List Int×List Int)} {r v:List Int} (ho:o.op=.mapUpdate t m x y)
  (hm:ev ρ m=.s (.mp ob)) (hx:(ev ρ x).row? = some (Lk.isAgg,a,r)) (hy:(ev ρ y).row? = some (Le.isAgg,b,v)) (hob:h.get ob=.map Lk.isAgg Le.isAgg a b es) (hM:MapOK P c.tab t k e Lk Le a b):
  qQ P o ρ h nx qCF [(ob,.map Lk.isAgg Le.isAgg a b (qAK es r v))] nx:=by
 intro nm w ac hr hh N Q hN
 have h1:=hr m (by simp[ho,Op.operands])
 have h2:=hr x (by simp[ho,Op.operands])
 have h3:=hr y (by simp[ho,Op.operands])
 rw[hm] at h1
 obtain⟨q1,blk',ents,clock,q2,q3,q4,q5⟩:=qPl hh h1 hob
 have hk:=qJY h2 hx
 have hv:=qJY h3 hy
 rw[<- hM.kagg] at hk q5
 obtain⟨f,hf,htc⟩:=hM.key
 obtain⟨res,r1,r2⟩:=qKw htc hf hk w (qB.mono (fun _ _ h=>h.1) q5)
 have hget:(getObj blk').run P w=.ok (.map ents clock) w:=by simp[getObj,Sem.run,q4]
 have qAT:∀ ob',(setObj blk' ob').run P w=.ok () { w with heap:=w.heap.setIfInBounds blk' ob'}:=fun ob'=>by simp[setObj,Sem.run,q4]
 have run:∃ ents' clock',(Instr.mapUpdate t (.map (some blk')) (ac.eval x) (ac.eval y)).run P w=.ok () { w with heap:=w.heap.setIfInBounds blk' (.map ents' clock') } /\ qB (qMZ (qAn P k) Le.isAgg a b) (qAK es r v) ents'.toList:=by
  unfold Instr.mapUpdate
  simp only[Sem.run_bind,run_underlying hM.und,Result.andThen_ok,hget,qKv htc hf hk w,r1]
  cases res with
  | none=>
    obtain⟨_,_,g3⟩:=qWd r2 [] v
    refine⟨_,_,qAT _,?_⟩
    rw[g3,Array.toList_push]
    exact qS8 q5 ⟨hk,hv⟩
  | some p=>
    obtain⟨j,v'⟩:=p
    obtain⟨i,e',u,rfl,g2,rfl,g4,g5⟩:=r2
    obtain⟨_,_,k3⟩:=qWe g4 g5 [] v
    obtain⟨e2,g6,g7⟩:=qB.get i q5 g4
    rw[g2] at g6
    cases g6
    have hkey:e'.key=ac.eval x:=qAS.eq g7.1 hk
    have g2':ents[0+i]? = some e':=by rw[Nat.zero_add,<- Array.getElem?_toList];exact g2
    have hstay:(Instr.keyThatStays (((ents[0+i]?).map (·.key)).getD (ac.eval x)) (ac.eval x)).run P w=.ok (ac.eval x) w:=by
     rw[g2']
     simp only[Option.map_some,Option.getD_some,hkey]
     exact qcq hk w
    refine⟨ents.modify (0+i) fun e=>{e with key:=ac.eval x,val:=ac.eval y},clock,?_,?_⟩
    ·simp only[Sem.run_bind,hstay,Result.andThen_ok]
     exact qAT _
    ·rw[k3,Array.toList_modify,Nat.zero_add]
     exact qMc q5 g2 ⟨hk,hv⟩
 obtain⟨ents',clock',v1,v2⟩:=run
 rw[hM.kagg] at v2
 have hlt:blk'<w.heap.size:=(Array.getElem?_eq_some_iff.1 q4).1
 let w':World:={w with heap:=w.heap.setIfInBounds blk' (.map ents' clock')}
 have hrel:=qSx (e:=⟨nm,h,nx⟩) (w:=w) (w':=w') (o:=ob) (b:=blk') (x':=.map Lk.isAgg Le.isAgg a b (qAK es r v)) hh q1 (by show (h.get ob).owned=true;rw[hob];rfl) (by show _=(h.get ob).shape;rw[hob];rfl) rfl
  (qCc (show nm ob=_ from q2)) (by
   unfold qG
   show match Hp.get ((ob,Obj.map Lk.isAgg Le.isAgg a b (qAK es r v)) :: h) ob with | _=>_
   have:Hp.get ((ob,Obj.map Lk.isAgg Le.isAgg a b (qAK es r v)) :: h) ob=.map Lk.isAgg Le.isAgg a b (qAK es r v):=by simp[Hp.get]
   rw[this]
   exact⟨blk',ents',clock',q2,by simp[w',hlt],v2⟩)
  (fun k hk=>by simp only[w'];rw[Array.getElem?_setIfInBounds_ne (Ne.symm hk)]) rfl rfl rfl (by simp[w'])
 unfold Oper.wp
 have hex:(execOp ac.eval o).run P w=.ok .skip w':=by
  simp only[execOp,ho,q3,Sem.run_bind,v1,Result.andThen_ok]
  rfl
 rw[hex]
 exact hN undef nm w' ⟨#[],rfl,trivial⟩ hrel.1 hrel.2.1 hrel.2.2
theorem qk6 {cl:Call} {x:Operand} {t k e:TypeId} {ob:Nat} {ka va:Bool} {ks vs:List CK} {es:List (List Int×List Int)} (ho:o.op=.call cl) (hcl:cl.callee=.builtin .len) (hargs:cl.args = #[x]) (htys:cl.argTypes = #[t])
  (hx:ev ρ x=.s (.mp ob)) (hu:P.underlying t=some (.map k e)) (hob:h.get ob=.map ka va ks vs es) (hl:es.length<=140737488355328):qQ P o ρ h nx (.s (.i .i64 es.length)) [] nx:=by
 refine qQ.pure fun nm w a hr hh=>?_
 have h1:=hr x (by simp[ho,Op.operands,Call.operands,hcl,hargs])
 rw[hx] at h1
 obtain⟨q1,blk',ents,clock,q2,q3,q4,q5⟩:=qPl hh h1 hob
 have hget:(getObj blk').run P w=.ok (.map ents clock) w:=by simp[getObj,Sem.run,q4]
 have hlen:ents.size=es.length:=by have:=qB.length q5;simp at this;omega
 refine⟨.int .i64 es.length,?_,rfl,qCG (by show (-9223372036854775808:Int)<=_;omega) (by show _<=(9223372036854775807:Int);omega)⟩
 simp[execOp,ho,resolve,hcl,hargs,htys,q3,invoke,builtin,Builtin.len_,goInt,run_underlying hu,hget,hlen]
end
end Go.Kk
