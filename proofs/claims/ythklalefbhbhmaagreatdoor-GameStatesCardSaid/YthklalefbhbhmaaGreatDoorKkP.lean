/-
 From a told call to a row: the arguments opened, what is behind the call qEW.
-/
import Derived.Test.YthklalefbhbhmaaGreatDoorKkB
import Derived.ProofKit
namespace Go.Kk
open Go.ChangeShapes Go.WideShapes Go.ChangeAt Go.RowKit
def qIs (P:Program) (u:TypeId):Option CK:=match P.underlying u with
 | some (.int k)=>some (.i k)
 | some .bool=>some .b
 | _=>none
def qKQ (P:Program):List TypeId->Option (List CK)
 | []=>some []
 | u :: r=>match qIs P u,qKQ P r with
   | some a,some b=>some (a :: b)
   | _,_=>none
theorem qWh {k:IntKind} {n:Int} (h:k.has n):k.wrap n=n:=qCG h.1 h.2
theorem qUZ {P:Program} {w:World} {r:Reach} {base:Nat} {u:TypeId} {v:Value} {ck:CK} (hu:qIs P u=some ck) (h:Cell.okWide P w r base u v):∃ x,qFr ck x /\ ∀ e,qI e (mk ck x) v:=by
 unfold qIs at hu
 split at hu<;>try cases hu
 ·rename_i k hk
  unfold Cell.okWide at h
  rw[hk] at h
  replace h:Cell.ok P w r base u v:=by cases v<;>exact h
  unfold Cell.ok at h
  rw[hk] at h
  cases v<;>try exact h.elim
  rename_i k' n
  obtain⟨rfl,h2⟩:=h
  exact⟨n,qWh h2,fun e=>⟨rfl,qWh h2⟩⟩
 ·rename_i hk
  unfold Cell.okWide at h
  rw[hk] at h
  replace h:Cell.ok P w r base u v:=by cases v<;>exact h
  unfold Cell.ok at h
  rw[hk] at h
  cases v<;>try exact h.elim
  rename_i b
  refine⟨bi b,by cases b<;>simp[qFr,bi,br],fun e=>?_⟩
  cases b<;>rfl
theorem qUa {P:Program} {w:World} {r:Reach} {base:Nat}:∀ {us:List TypeId} {ks:List CK} {cs:List Value},qKQ P us=some ks->cs.length=us.length->
  (∀ (i:Nat) (v:Value),cs[i]? = some v->∃ u,us[i]? = some u /\ Cell.okWide P w r base u v)->∃ row,qq ks row /\ ∀ e,qB (qI e) (mks ks row) cs
 | [],ks,cs,h,hl,_=>by
   cases h
   have:cs=[]:=List.length_eq_zero_iff.1 hl
   subst this
   exact⟨[],trivial,fun _=>trivial⟩
 | u :: us,ks,cs,h,hl,hc=>by
   simp only[qKQ] at h
   split at h<;>cases h
   rename_i a b ha hb
   match cs,hl with
   | v :: cs,hl=>
     obtain⟨u',hu',hv⟩:=hc 0 v (by simp)
     simp at hu'
     subst hu'
     obtain⟨x,h1,h2⟩:=qUZ ha hv
     obtain⟨row,h3,h4⟩:=qUa (us:=us) (cs:=cs) hb (by simpa using hl) fun i v hi=>by
      obtain⟨u2,q1,q2⟩:=hc (i+1) v (by simpa using hi)
      exact⟨u2,by simpa using q1,q2⟩
     exact⟨x :: row,⟨h1,h3⟩,fun e=>⟨h2 e,h4 e⟩⟩
def opB (P:Program) (t:TypeId) (ts:List SegT):Bool:=
 (match P.underlying t with
  | some (.struct _)=>true
  | some (.array _ _)=>true
  | _=>false) &&
 (match P.cellTypes P.depth t,qAL ts with
  | some us,some ks=>(match qKQ P us with
    | some ks'=>decide (ks'=ks)&&Nat.beq (P.cellsOf t) us.length
    | none=>false)
  | _,_=>false)
theorem qlc {P:Program} {t:TypeId} {ts:List SegT} {w:World} {r:Reach} {base:Nat} {v:Value} (hb:opB P t ts=true) (hv:Value.okWide P w r base t v):
  ∃ ks row,qAL ts=some ks /\ qq ks row /\ ∀ segs,qCo ts row=some segs->∀ e,qS e (.agg segs) v:=by
 unfold opB at hb
 simp only[Bool.and_eq_true] at hb
 obtain⟨h1,h2⟩:=hb
 split at h2<;>try cases h2
 rename_i us ks hus hks
 split at h2<;>try cases h2
 rename_i ks' hks'
 simp only[Bool.and_eq_true,decide_eq_true_eq,Nat.beq_eq] at h2
 obtain⟨rfl,hlen⟩:=h2
 have hv':∃ cs,v=.agg cs /\ cs.size=P.cellsOf t /\ Row.okWide P w r base t cs:=by
  unfold Value.okWide at hv
  split at h1<;>try cases h1
  ·rename_i hu;rw[hu] at hv;exact hv
  ·rename_i hu;rw[hu] at hv;exact hv
 obtain⟨cs,rfl,hsz,us',hus',_,hcell⟩:=hv'
 rw[hus] at hus'
 cases hus'
 obtain⟨row,r1,r2⟩:=qUa (cs:=cs.toList) hks' (by simp[hsz,hlen]) fun i v hi=>by
  have hi':cs[i]? = some v:=by simpa using hi
  have hlt:i<us.length:=by have:=(Array.getElem?_eq_some_iff.1 hi').1;omega
  obtain⟨u,q1,q2⟩:=hcell i v hi'
  rw[Nat.mod_eq_of_lt hlt] at q1
  exact⟨u,q1,q2⟩
 refine⟨ks',row,hks,r1,fun segs hsegs e=>?_⟩
 obtain⟨f1,f2,_⟩:=qSv ts row ks' segs hsegs hks r1
 exact⟨cs,rfl,by rw[f1];exact r2 e,f2⟩
theorem qrf {P:Program} {t:TypeId} {ck:CK} {w:World} {r:Reach} {base:Nat} {v:Value} (hu:qIs P t=some ck) (hv:Value.okWide P w r base t v):∃ x,qFr ck x /\ ∀ e,qS e (.s (mk ck x)) v:=by
 unfold Value.okWide at hv
 have h2:Cell.okWide P w r base t v:=by
  unfold qIs at hu
  split at hu<;>try cases hu
  ·rename_i h;rw[h] at hv;exact hv
  ·rename_i h;rw[h] at hv;exact hv
 exact qUZ hu h2
def FxW (w:World):Prop:=∀ g k l,qBN g=some (k,l)->∃ arr t fr,w.heap[g]? = some (.cells arr t fr) /\ arr.toList=l.map (Value.int k)
theorem qCH.of {e:Env} {w:World} (h:FxW w) (hn:∀ o,(e.h.get o).owned=false):qCH e w:=fun g k l hg=>⟨h g k l hg,fun o ho=>by rw[hn o] at ho;cases ho⟩
theorem qhW {P:Program} {w:World} {k:IntKind} {l:List Int} {n:String} (hfx:fx=[(0,k,l)]) (hg:P.globalNamed n=some 0) (h:w.var? P n=some (l.map fun z=>Value.int k z).toArray):FxW w:=by
 intro g k' l' hq
 unfold qBN at hq
 rw[hfx] at hq
 simp only[qI0] at hq
 cases hb:Nat.beq 0 g with
 | false=>rw[hb] at hq;cases hq
 | true=>
   rw[hb] at hq
   have:=Nat.eq_of_beq_eq_true hb
   subst this
   simp only[cond_true,Option.some.injEq,Prod.mk.injEq] at hq
   obtain⟨rfl,rfl⟩:=hq
   unfold World.var? at h
   rw[hg] at h
   simp only[Option.bind_some] at h
   split at h
   ·rename_i cs t fr hc
    cases h
    exact⟨_,_,_,hc,by simp⟩
   ·cases h
theorem qrc {P:Program} {f:FuncId} {vs:List V} {args:Array Value} {W:World} (h:qD8 P f vs [] (.s (.b true)) []) (hfx:FxW W) (hr:∀ e,qB (qS e) vs args.toList):
  Calls P f args W fun en W'=>en=.returned (.bool true) /\ Below W.heap.size W W':=by
 have hh:RelH ⟨fun _=>none,qH [] 0 [],0⟩ W:=⟨fun o=>by unfold qG;trivial,fun _ _=>rfl,fun o o' x _ ho=>(by cases ho),qCH.of hfx fun _=>rfl⟩
 refine Calls.mono (h.2 (fun _=>none) W args (hr _) hh).1 fun en W' he=>?_
 obtain⟨vr,nm',rfl,h1,_,h3,_⟩:=he
 have h1:vr=.bool true:=h1
 subst h1
 exact⟨rfl,h3.os,h3.tape,h3.output,h3.size,fun k hk=>h3.block k hk fun o ho=>by cases ho⟩
theorem qin {W W':World} (hs:Below W.heap.size W W') (may:MemPlace->Prop):W.keptBut W' may:=by
 refine⟨hs.os,hs.output,fun i hi=>?_⟩
 rw[hs.block i hi]
 cases W.heap[i]? with
 | none=>trivial
 | some o=>cases o<;>first | exact⟨rfl,rfl,rfl,fun _ _=>rfl⟩ | exact .inr ⟨rfl,rfl⟩ | rfl
def qLf (P:Program):List TypeId->Bool
 | []=>true
 | t :: r=>P.readableRec t&&Nat.blt t P.types.size&&qLf P r
theorem qrK {H:Type} {enc:TypeId×Value->H} {P:Program} (hl:laidOutB P=true) {W W':World} (hs:Below W.heap.size W W'):
  ∀ {ts:List TypeId} {vs:List Value} {ds:List (DataW H)} {ps:List MemPlace},qLf P ts=true->DataW.TrodAll enc P W 0 (fun _=>true) true ts vs ds ps->(∀ x∈ps,x.block<W.heap.size)->
    DataW.TrodAll enc P W' 0 (fun b=>decide (b<W.heap.size)) true ts vs ds ps:=by
 intro ts
 induction ts with
 | nil=>
   intro vs ds ps _ h _
   obtain⟨rfl,rfl,rfl⟩:=trodAll_nil h
   exact rfl
 | cons t ts ih=>
   intro vs ds ps hts h hlt
   simp only[qLf,Bool.and_eq_true,Nat.blt_eq] at hts
   obtain⟨v,vs1,d,ds1,a,b,rfl,rfl,rfl,h1,h2⟩:=trodAll_cons h
   exact⟨a,b,Below.trod hl hts.1.1 hts.1.2 h1 hs (fun x hx=>hlt x (List.mem_append_left _ hx)),ih hts.2 h2 (fun x hx=>hlt x (List.mem_append_right _ hx)),rfl⟩
theorem qmH {H:Type} {enc:TypeId×Value->H} {P:Program} {fn:Func} {s:ChangeSpec} {W W':World} {args:Array Value} {ds gs:List (DataW H)} {before:List MemPlace} {tb:TypeId}
  (hl:laidOutB P=true) (hW:DataW.Whole enc P fn.params.toList s.vars false W args.toList ds gs before) (hv:s.vars=[]) (hf:s.fn H ds = { results:=[.lit (.bool true)],args:=ds})
  (hres:fn.resultTypes = #[tb]) (htb:P.underlying tb=some .bool) (hrec:qLf P fn.params.toList=true) (hs:Below W.heap.size W W'):
  s.post enc P fn false true false false W args (.bool true) W':=by
 obtain⟨p,q,hA,hV,rfl,_,_⟩:=id hW
 rw[hv] at hV
 obtain⟨rfl,rfl⟩:=trodVars_none hV
 have hlt:∀ x∈p,x.block<W.heap.size:=fun x hx=>by
  have:=hW.lt x (by simpa using hx)
  simpa using this
 refine⟨ds,[],p++[],[],p,[],hW,?_,?_,?_,qin hs _,fun h=>by cases h⟩
 ·rw[List.append_nil,hf,hres]
  exact trodAll_mk1 (shut_bool htb _)
 ·rw[List.append_nil,hf]
  exact qrK hl hs hrec hA hlt
 ·rw[List.append_nil,hf,hv]
  exact rfl
end Go.Kk
