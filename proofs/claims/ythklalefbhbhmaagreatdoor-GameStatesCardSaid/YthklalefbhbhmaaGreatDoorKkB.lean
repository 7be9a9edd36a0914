/-
 What is checked of a program by reckoning; the oracles for calls and loops, put together.
-/
import Derived.Test.YthklalefbhbhmaaGreatDoorKkC
namespace Go.Kk
def zB:Value->Value->Bool
 | .int k n,.int k' n'=>decide (k=k')&&decide (n=n')
 | .bool a,.bool b=>a==b
 | .string s,.string t=>Nat.beq s.size 0&&Nat.beq t.size 0
 | .pointer none,.pointer none=>true
 | .slice none 0 0,.slice none 0 0=>true
 | .map none,.map none=>true
 | .nilFunc,.nilFunc=>true
 | _,_=>false
theorem qrX {a b:Value} (h:zB a b=true):a=b:=by
 unfold zB at h
 split at h
 ·simp only[Bool.and_eq_true,decide_eq_true_eq] at h
  rw[h.1,h.2]
 ·simp at h;rw[h]
 ·rename_i s t
  simp only[Bool.and_eq_true,Nat.beq_eq] at h
  have e:∀ s:ByteArray,s.size=0->s=ByteArray.empty:=by
   intro s hs
   apply ByteArray.ext
   exact Array.eq_empty_of_size_eq_zero hs
  rw[e s h.1,e t h.2]
 all_goals first | rfl | cases h
def zBs:List Value->List Value->Bool
 | [],[]=>true
 | a :: r,b :: t=>zB a b&&zBs r t
 | _,_=>false
theorem qdg:∀ {l m:List Value},zBs l m=true->l=m
 | [],[],_=>rfl
 | a :: r,b :: t,h=>by
   simp only[zBs,Bool.and_eq_true] at h
   rw[qrX h.1,qdg h.2]
 | [],_ :: _,h=>by cases h
 | _ :: _,[],h=>by cases h
def qKY (P:Program) (tab:Tab) (ts:List SegT):List Field->List (Nat×Nat×TypeId)->Bool
 | [],[]=>true
 | f :: fs,(a,b,ft) :: fl=>Nat.beq f.type ft&&(match tab.get ft with
     | some Lf => Nat.beq f.offset (qp ((ts.map SegT.shp).take a) + b) && !decide (f.name = "_") && Nat.blt 0 Lf.size && (match P.info? ft with
       | some i=>Nat.beq i.size Lf.size
       | none=>false)
     | none=>false)&&qKY P tab ts fs fl
 | _,_=>false
theorem qVN {P:Program} {tab:Tab} {ts:List SegT}:∀ {fs:List Field} {fl:List (Nat×Nat×TypeId)},qKY P tab ts fs fl=true->fs.length=fl.length /\
  ∀ (j:Nat) (f:Field),fs[j]? = some f->∃ a b Lf,fl[j]? = some (a,b,f.type) /\ tab.get f.type=some Lf /\
    f.offset = qp ((ts.map SegT.shp).take a) + b /\ f.name ≠ "_" /\ 0 < Lf.size /\ (∃ i, P.info? f.type = some i /\ i.size = Lf.size)
 | [],[],_=>⟨rfl,fun j f h=>by simp at h⟩
 | f :: fs,(a,b,ft) :: fl,h=>by
   simp only[qKY,Bool.and_eq_true] at h
   obtain⟨⟨h1,h2⟩,h3⟩:=h
   obtain⟨i1,i2⟩:=qVN h3
   refine⟨by simp[i1],fun j g hg=>?_⟩
   cases j with
   | succ j=>exact i2 j g (by simpa using hg)
   | zero=>
     simp at hg
     subst hg
     have h1:=Nat.eq_of_beq_eq_true h1
     subst h1
     split at h2<;>try cases h2
     rename_i Lf hL
     simp only[Bool.and_eq_true,Nat.beq_eq,Bool.not_eq_true',decide_eq_false_iff_not,Nat.blt_eq] at h2
     obtain⟨⟨⟨q1,q2⟩,q3⟩,q4⟩:=h2
     split at q4<;>try cases q4
     rename_i i hi
     exact⟨a,b,Lf,by simp,hL,q1,q2,q3,i,hi,Nat.eq_of_beq_eq_true q4⟩
 | [],_ :: _,h=>by cases h
 | _ :: _,[],h=>by cases h
def qPI (P:Program) (tab:Tab) (t:TypeId) (L:Lay):Bool:=
 (match P.info? t with
  | some i=>Nat.beq i.size L.size&&(match i.zero with
    | some z=>zBs z.cells.toList (L.segTs.flatMap SegT.zeros)&&(match L,z with
      | .sc _,.agg _=>false
      | .sc _,_=>true
      | _,.agg _=>true
      | _,_=>false)
    | none=>false)
  | none=>false) &&
 (match L,P.underlying t with
  | .sc (.i k),some (.int k')=>decide (k'=k)
  | .sc .b,some .bool=>true
  | .sc .str,some .string=>true
  | .sc .p,some (.pointer _)=>true
  | .sc (.sl e),some (.slice e')=>Nat.beq e' e
  | .sc (.m k e),some (.map k' e')=>Nat.beq k' k&&Nat.beq e' e
  | .sc .f,some (.func _ _ _)=>true
  | .st ts fl,some (.struct fs)=>qKY P tab ts fs.toList fl
  | .ar n m e sg,some (.array n' e')=>Nat.beq n' n&&Nat.beq e' e&&Nat.blt 0 m&&Nat.blt 0 sg.shp.width&&decide (sg.shp=.tbl sg.shp.width (n*m))&&(match tab.get e,P.info? e with
    | some Le,some i=>Nat.beq i.size (m*sg.shp.width)&&Nat.beq Le.size (m*sg.shp.width)
    | _,_=>false)
  | _,_=>false)
theorem qjW {P:Program} {tab:Tab} {t:TypeId} {L:Lay} (h:qPI P tab t L=true):LayOK P tab t L:=by
 unfold qPI at h
 rw[Bool.and_eq_true] at h
 obtain⟨h1,h2⟩:=h
 refine LayOK.mk ?_ ?_ ?_
 ·split at h1<;>try cases h1
  rename_i i hi
  simp only[Bool.and_eq_true,Nat.beq_eq] at h1
  obtain⟨q1,q2⟩:=h1
  split at q2<;>try cases q2
  rename_i z hz
  rw[Bool.and_eq_true] at q2
  exact⟨i,z,hi,q1,hz,qdg q2.1⟩
 ·split at h2<;>try cases h2
  ·rename_i hu;simp only[decide_eq_true_eq] at h2;subst h2;exact⟨_,hu,rfl⟩
  ·rename_i hu;exact⟨_,hu,rfl⟩
  ·rename_i hu;exact⟨_,hu,rfl⟩
  ·rename_i hu;exact⟨_,hu,_,rfl⟩
  ·rename_i hu;simp only[Nat.beq_eq] at h2;subst h2;exact⟨_,hu,rfl⟩
  ·rename_i hu;simp only[Bool.and_eq_true,Nat.beq_eq] at h2;obtain⟨rfl,rfl⟩:=h2;exact⟨_,hu,rfl⟩
  ·rename_i hu;exact⟨_,hu,_,_,_,rfl⟩
  ·rename_i ts fl fs hu
   obtain⟨f1,f2⟩:=qVN h2
   exact⟨fs,hu,by simpa using f1,fun j f hf=>f2 j f (by simpa using hf)⟩
  ·rename_i n m e sg n' e' hu
   simp only[Bool.and_eq_true,Nat.beq_eq,Nat.blt_eq,decide_eq_true_eq] at h2
   obtain⟨⟨⟨⟨⟨rfl,rfl⟩,q3⟩,q4⟩,q5⟩,q6⟩:=h2
   split at q6<;>try cases q6
   rename_i Le i hg hi
   simp only[Bool.and_eq_true,Nat.beq_eq] at q6
   exact⟨hu,q3,q4,q5,Le,i,hg,hi,q6.1,q6.2⟩
 ·intro i z hi hz
  rw[hi] at h1
  simp only[hz,Bool.and_eq_true] at h1
  have h3:=h1.2.2
  cases L<;>cases z<;>first | rfl | exact⟨_,rfl⟩ | cases h3
def qSo (P:Program) (tab:Tab):Tab->Bool
 | []=>true
 | (t,L) :: r=>qPI P tab t L&&qSo P tab r
theorem qdL {P:Program} {tab:Tab}:∀ {l:Tab},qSo P tab l=true->∀ t L,Tab.get l t=some L->LayOK P tab t L
 | [],_,t,L,h=>by cases h
 | (u,M) :: r,hb,t,L,h=>by
   simp only[qSo,Bool.and_eq_true] at hb
   simp only[Tab.get] at h
   cases hu:Nat.beq u t with
   | true=>
     rw[hu] at h
     cases h
     have:=Nat.eq_of_beq_eq_true hu
     subst this
     exact qjW hb.1
   | false=>rw[hu] at h;exact qdL hb.2 t L h
def qN0 (P:Program) (tab:Tab):List TypeId->Bool
 | []=>true
 | t :: r=>(match tab.get t with
   | some L=>(match qA8 P 100 t,qBJ L.segTs with
     | some a,some b=>decide (a=b) && !P.eqGuardType P.depth t
     | _,_=>false)
   | none=>true)&&qN0 P tab r
theorem qVH {P:Program} {tab:Tab}:∀ {l:List TypeId},qN0 P tab l=true->∀ t L,qC0 t l=true->tab.get t=some L->
  ∃ f ck,f<=10000 /\ qA8 P f t=some ck /\ qBJ L.segTs=some ck /\ P.eqGuardType P.depth t=false
 | [],_,t,L,h,_=>by cases h
 | u :: r,hb,t,L,h,hL=>by
   simp only[qN0,Bool.and_eq_true] at hb
   simp only[qC0,Bool.or_eq_true] at h
   rcases h with h | h
   ·have:=Nat.eq_of_beq_eq_true h
    subst this
    have h1:=hb.1
    rw[hL] at h1
    simp only at h1
    split at h1<;>try cases h1
    rename_i a b ha hb'
    simp only[Bool.and_eq_true,decide_eq_true_eq,Bool.not_eq_true'] at h1
    obtain⟨rfl,h2⟩:=h1
    exact⟨100,a,by omega,ha,hb',h2⟩
   ·exact qVH hb.2 t L h hL
def qNh (P:Program):List (TypeId×Nat)->Bool
 | []=>true
 | (t,n) :: r=>(match P.info? t with
   | some i=>Nat.beq i.bytes n
   | none=>false)&&qNh P r
theorem qUU {P:Program}:∀ {l:List (TypeId×Nat)},qNh P l=true->∀ t n,byN t l=some n->∃ i,P.info? t=some i /\ i.bytes=n
 | [],_,t,n,h=>by cases h
 | (k,m) :: r,hb,t,n,h=>by
   simp only[qNh,Bool.and_eq_true] at hb
   obtain⟨h1,h2⟩:=hb
   simp only[byN] at h
   cases hk:Nat.beq k t with
   | true=>
     rw[hk] at h
     have hk:=Nat.eq_of_beq_eq_true hk
     subst hk
     cases h
     split at h1
     ·rename_i i hi;exact⟨i,hi,Nat.eq_of_beq_eq_true h1⟩
     ·cases h1
   | false=>rw[hk] at h;exact qUU h2 t n h
abbrev Orc:={R:Type}->FuncId->List V->List Obj->(Bool->V->List Obj->Option R)->Option R
def qK:Orc:=fun _ _ _ _=>none
theorem qM {P:Program}:qDW P qK:=fun _ _ _ _ _ h=>by cases h
def qV:{R:Type}->Nat->List V->List Obj->(Ex->List V->List Obj->Option R)->Option R:=fun _ _ _ _=>none
def qL (n:FuncId) (a:{R:Type}->List V->List Obj->(Bool->V->List Obj->Option R)->Option R) (o:Orc):Orc:=fun f vs objs K=>bif Nat.beq f n then a vs objs K else o f vs objs K
theorem qN {P:Program} {n:FuncId} {a:{R:Type}->List V->List Obj->(Bool->V->List Obj->Option R)->Option R} {o:Orc} (ho:qDW P o)
  (ha:∀ {R:Type} (vs:List V) (objs:List Obj) (K:Bool->V->List Obj->Option R) (r:R),a vs objs K=some r->∃ p v objs',K p v objs'=some r /\ qDT P n vs objs p v objs'):qDW P (qL n a o):=by
 intro R f vs objs K r h
 replace h:(bif Nat.beq f n then a vs objs K else o f vs objs K)=some r:=h
 cases hf:Nat.beq f n with
 | false=>rw[hf] at h;exact ho f vs objs K r h
 | true=>
   rw[hf] at h
   have e:=Nat.eq_of_beq_eq_true hf
   subst e
   exact ha vs objs K r h
theorem qE {α β:Type} {m:Option α} {k:α->Option β} {r:β} (h:ob m k=some r):∃ a,m=some a /\ k a=some r:=by
 cases m with
 | none=>cases h
 | some a=>exact⟨a,rfl,h⟩
def qBG:Code->List Code
 | .seq a b=>qBG a++qBG b
 | .cond _ a b=>qBG a++qBG b
 | .block _ b=>qBG b
 | .loop b=>[b]
 | _=>[]
theorem qPf {P:Program} {c:Ctx} {m:Nat}:∀ (code:Code),(∀ b∈qBG code,qe P c m b)->qDV P c m code:=by
 intro code
 induction code with
 | seq a b iha ihb=>intro h;exact⟨iha fun x hx=>h x (by simp[qBG,hx]),ihb fun x hx=>h x (by simp[qBG,hx])⟩
 | cond t a b iha ihb=>intro h;exact⟨iha fun x hx=>h x (by simp[qBG,hx]),ihb fun x hx=>h x (by simp[qBG,hx])⟩
 | block i b ih=>intro h;exact ih fun x hx=>h x (by simpa[qBG] using hx)
 | loop b _=>intro h;exact h b (by simp[qBG])
 | _=>intro _;trivial
def qF6:Code->List Code
 | .seq a b=>qF6 a++qF6 b
 | .cond _ a b=>qF6 a++qF6 b
 | .block _ b=>qF6 b
 | .loop b=>b :: qF6 b
 | _=>[]
def qN5 (q:Nat):List Code->Code
 | []=>.skip
 | b :: r=>match qC9 b with
   | some k=>bif Nat.beq k q then b else qN5 q r
   | none=>qN5 q r
def qF (fn:Func) (q:Nat):Code:=match fn.body with
 | some b=>qN5 q (qF6 b)
 | none=>.skip
def qP (p:Code->Prop):List Code->Prop
 | []=>True
 | a :: r=>p a /\ qP p r
theorem qP.of {p:Code->Prop} {l l':List Code} (h:l=l') (ha:qP p l'):∀ x∈l,p x:=by
 subst h
 induction l with
 | nil=>intro x hx;cases hx
 | cons a l ih=>
   intro x hx
   rcases List.mem_cons.1 hx with rfl | hx
   ·exact ha.1
   ·exact ih ha.2 x hx
theorem qj {P:Program} {c:Ctx} {m:Nat} {b:Code} (hmo:P.follows .mixedOrders=true) (hc:CtxOK P c) (hl:∀ x∈qBG b,qe P c m x) {q:Nat} {kin kout:List Nat} (hq:qC9 b=some q)
  (hk:qKt c.keeps q=some (kin,kout))
  (h:∀ {R:Type} (vs:List V) (objs:List Obj) (K:Ex->List V->List Obj->Option R) (r:R),c.lp q vs objs K=some r->
   ∃ (τ:Type) (D:Ex->List V->List Obj->Option τ) (t:τ) (f:Nat),qh c m kin kout b f vs objs D=some t /\ ∀ e vs' objs',D e vs' objs'=some t->K e vs' objs'=some r):qe P c m b:=by
 intro q' kin' kout' hq' hk' R vs objs K r hE hm
 rw[hq] at hq'
 cases hq'
 rw[hk] at hk'
 cases hk'
 obtain⟨τ,D,t,f,h1,h2⟩:=h vs objs K r hE
 obtain⟨e,vs',objs',h3,h4⟩:=qj6 hmo hc (qPf b hl) f h1 hm
 exact⟨e,vs',objs',f,h2 e vs' objs' h3,h4⟩
theorem qMd {P : Program} {c : Ctx} {f : FuncId} {fn : Func} {b : Code} (hmo : P.follows .mixedOrders = true) (hc : CtxOK P c) (hf : P.funcs[f]? = some fn) (hb : fn.body = some b) (hname : (fn.name == "runtime.NumGoroutine") = false)
  {vs:List V} {objs:List Obj} (hl:∀ x∈qBG b,qe P c objs.length x) {R τ:Type} {K:Bool->V->List Obj->Option R} {r:R} {D:V->List Obj->Option τ} {t:τ} (hE:fnE c fn vs objs D=some t)
  (hD:∀ v objs',D v objs'=some t->K false v objs'=some r):∃ p v objs',K p v objs'=some r /\ qDT P f vs objs p v objs':=by
 obtain⟨v,objs',h1,h2⟩:=qVY hmo hc hf hb hname (qPf b hl) hE
 exact⟨false,v,objs',hD v objs' h1,h2⟩
theorem qdy {P : Program} {c : Ctx} {f : FuncId} {fn : Func} {b : Code} (hmo : P.follows .mixedOrders = true) (hc : CtxOK P c) (hf : P.funcs[f]? = some fn) (hb : fn.body = some b) (hname : (fn.name == "runtime.NumGoroutine") = false)
  {vs:List V} {objs:List Obj} {m:Nat} {R τ:Type} {K:Bool->V->List Obj->Option R} {r:R} {D:V->List Obj->Option τ} {t:τ} (hE:fnE c fn vs objs D=some t) (hm:objs.length=m) (hl:∀ x∈qBG b,qe P c m x)
  (hD:∀ v objs',D v objs'=some t->K false v objs'=some r):∃ p v objs',K p v objs'=some r /\ qDT P f vs objs p v objs':=by
 subst hm
 exact qMd hmo hc hf hb hname hl hE hD
def qQA {τ:Type} (m:Nat) (D:V->List Obj->Option τ):V->List Obj->Option τ:=fun v objs=>
 bif Nat.ble m objs.length&&(objs.take m).all Obj.live&&(objs.drop m).all Obj.owned then D v (objs.drop m) else none
theorem qmL {P : Program} {c : Ctx} {f : FuncId} {fn : Func} {b : Code} (hmo : P.follows .mixedOrders = true) (hc : CtxOK P c) (hf : P.funcs[f]? = some fn) (hb : fn.body = some b) (hname : (fn.name == "runtime.NumGoroutine") = false)
  {vs:List V} {objs ro:List Obj} {m:Nat} (hro:objs.map Obj.toRO=ro) (hm:ro.length=m) (hno:ro.all (fun x=>!x.owned)=true) (hl:∀ x∈qBG b,qe P c ro.length x) {R τ:Type} {K:Bool->V->List Obj->Option R} {r:R}
  {D:V->List Obj->Option τ} {t:τ} (hE:fnE c fn vs ro (qQA m D)=some t) (hD:∀ v new,D v new=some t->K true v new=some r):∃ p v objs',K p v objs'=some r /\ qDT P f vs objs p v objs':=by
 obtain⟨v,objs',h1,h2⟩:=qVY hmo hc hf hb hname (qPf b hl) hE
 unfold qQA at h1
 obtain⟨hb1,h1⟩:=qg h1
 simp only[Bool.and_eq_true,Nat.ble_eq,List.all_eq_true] at hb1
 obtain⟨⟨b1,b2⟩,b3⟩:=hb1
 subst hm
 subst hro
 refine⟨true,v,objs'.drop (objs.map Obj.toRO).length,hD _ _ h1,fun x hx=>?_,b3,objs'.take (objs.map Obj.toRO).length,?_,b2,?_⟩
 ·have:=List.all_eq_true.1 hno x hx
  simpa using this
 ·rw[List.length_take];simp at b1 ⊢;omega
 ·rw[List.take_append_drop];exact h2
theorem qd {P:Program} {c:Ctx} {f:FuncId} {fn:Func} (hmo:P.follows .mixedOrders=true) (hc:CtxOK P c) {vs:List V} {objs:List Obj} {R τ:Type} {K:Bool->V->List Obj->Option R} {r:R} {D:V->List Obj->Option τ} {t:τ}
  (hE : fnE c fn vs objs D = some t) (hf : (P.funcs[f]?, fn.body.isSome && !(fn.name == "runtime.NumGoroutine") && (qBG (fn.body.getD .skip)).isEmpty) = (some fn, true))
  (hD:∀ v objs',D v objs'=some t->K false v objs'=some r):∃ p v objs',K p v objs'=some r /\ qDT P f vs objs p v objs':=by
 simp only[Prod.mk.injEq,Bool.and_eq_true,Bool.not_eq_true',List.isEmpty_iff] at hf
 obtain⟨h1,⟨h2,h3⟩,h4⟩:=hf
 refine qMd hmo hc h1 (b:=fn.body.getD .skip) ?_ h3 (fun x hx=>?_) hE hD
 ·cases hb:fn.body with
  | none=>rw[hb] at h2;cases h2
  | some b=>rfl
 ·rw[h4] at hx;cases hx
abbrev LI:=List Int
abbrev LL:=List (List Int)
abbrev OQ (P:Program) (f:Orc->Orc):Prop:=∀ o:Orc,qDW P o->qDW P (f o)
abbrev HA:Type 1:={R:Type}->Orc->List V->List Obj->(Bool->V->List Obj->Option R)->Option R
abbrev HL:Type 1:={R:Type}->List V->List Obj->(Ex->List V->List Obj->Option R)->Option R
theorem qAQ {P:Program} {c:Ctx} {f:FuncId} {fn:Func} (hmo:P.follows .mixedOrders=true) (hc:CtxOK P c) {vs:List V} {objs:List Obj} {m:Nat} {R τ:Type} {K:Bool->V->List Obj->Option R} {r:R} {D:V->List Obj->Option τ} {t:τ}
  (hE : fnE c fn vs objs D = some t) (hf : (P.funcs[f]?, fn.body.isSome && !(fn.name == "runtime.NumGoroutine")) = (some fn, true)) (hm : objs.length = m) (hl : ∀ x ∈ qBG (fn.body.getD .skip), qe P c m x)
  (hD:∀ v objs',D v objs'=some t->K false v objs'=some r):∃ p v objs',K p v objs'=some r /\ qDT P f vs objs p v objs':=by
 simp only[Prod.mk.injEq,Bool.and_eq_true,Bool.not_eq_true'] at hf
 obtain⟨h1,h2,h3⟩:=hf
 refine qdy hmo hc h1 (b:=fn.body.getD .skip) ?_ h3 hE hm hl hD
 cases hb:fn.body with
 | none=>rw[hb] at h2;cases h2
 | some b=>rfl
theorem qAs {P : Program} {c : Ctx} {f : FuncId} {fn : Func} (hmo : P.follows .mixedOrders = true) (hc : CtxOK P c) {vs : List V} {objs ro : List Obj} {m : Nat} (hf : (P.funcs[f]?, fn.body.isSome && !(fn.name == "runtime.NumGoroutine")) = (some fn, true))
  (hro:objs.map Obj.toRO=ro) (hm:ro.length=m) (hno:ro.all (fun x=>!x.owned)=true) (hl:∀ x∈qBG (fn.body.getD .skip),qe P c ro.length x) {R τ:Type} {K:Bool->V->List Obj->Option R} {r:R}
  {D:V->List Obj->Option τ} {t:τ} (hE:fnE c fn vs ro (qQA m D)=some t) (hD:∀ v new,D v new=some t->K true v new=some r):∃ p v objs',K p v objs'=some r /\ qDT P f vs objs p v objs':=by
 simp only[Prod.mk.injEq,Bool.and_eq_true,Bool.not_eq_true'] at hf
 obtain⟨h1,h2,h3⟩:=hf
 refine qmL hmo hc h1 (b:=fn.body.getD .skip) ?_ h3 hro hm hno hl hE hD
 cases hb:fn.body with
 | none=>rw[hb] at h2;cases h2
 | some b=>rfl
theorem ql {α:Type} {p:Prop} [Decidable p] {x:Option α} {r:α} (h:(bif decide p then x else none)=some r):p /\ x=some r:=⟨of_decide_eq_true (qg h).1,(qg h).2⟩
end Go.Kk
