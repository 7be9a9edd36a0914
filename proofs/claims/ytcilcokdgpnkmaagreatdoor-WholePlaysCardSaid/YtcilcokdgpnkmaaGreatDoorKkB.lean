/-
 What is checked of a program by reckoning; the oracles for calls and loops, put together.
-/
import Derived.Test.YtcilcokdgpnkmaaGreatDoorKkC
namespace Go.Kk
def zB:Value->Value->Bool
 | .int k n,.int k' n'=>decide (k=k')&&decide (n=n')
 | .bool a,.bool b=>a==b
 | .string s,.string t=>Nat.beq s.size 0&&Nat.beq t.size 0
 | .pointer none,.pointer none=>true
 | .slice none 0 0,.slice none 0 0=>true
 | .map none,.map none=>true
 | .nilFunc,.nilFunc=>true
 | _,_=>false
theorem quL {a b:Value} (h:zB a b=true):a=b:=by
 unfold zB at h
 split at h
 ·simp only[Bool.and_eq_true,decide_eq_true_eq] at h
  rw[h.1,h.2]
 ·simp at h;rw[h]
 ·rename_i s t
  simp only[Bool.and_eq_true,Nat.beq_eq] at h
  have e:∀ s:ByteArray,s.size=0->s=ByteArray.empty:=by
   intro s hs
   apply ByteArray.ext
   exact Array.eq_empty_of_size_eq_zero hs
  rw[e s h.1,e t h.2]
 all_goals first | rfl | cases h
def zBs:List Value->List Value->Bool
 | [],[]=>true
 | a :: r,b :: t=>zB a b&&zBs r t
 | _,_=>false
theorem qfb:∀ {l m:List Value},zBs l m=true->l=m
 | [],[],_=>rfl
 | a :: r,b :: t,h=>by
   simp only[zBs,Bool.and_eq_true] at h
   rw[quL h.1,qfb h.2]
 | [],_ :: _,h=>by cases h
 | _ :: _,[],h=>by cases h
def qLS (P:Program) (tab:Tab) (ts:List SegT):List Field->List (Nat×Nat×TypeId)->Bool
 | [],[]=>true
 | f :: fs,(a,b,ft) :: fl=>Nat.beq f.type ft&&(match tab.get ft with
     | some Lf => Nat.beq f.offset (qn ((ts.map SegT.shp).take a) + b) && !decide (f.name = "_") && Nat.blt 0 Lf.size && (match P.info? ft with
       | some i=>Nat.beq i.size Lf.size
       | none=>false)
     | none=>false)&&qLS P tab ts fs fl
 | _,_=>false
theorem qWM {P:Program} {tab:Tab} {ts:List SegT}:∀ {fs:List Field} {fl:List (Nat×Nat×TypeId)},qLS P tab ts fs fl=true->fs.length=fl.length /\
  ∀ (j:Nat) (f:Field),fs[j]? = some f->∃ a b Lf,fl[j]? = some (a,b,f.type) /\ tab.get f.type=some Lf /\
    f.offset = qn ((ts.map SegT.shp).take a) + b /\ f.name ≠ "_" /\ 0 < Lf.size /\ (∃ i, P.info? f.type = some i /\ i.size = Lf.size)
 | [],[],_=>⟨rfl,fun j f h=>by simp at h⟩
 | f :: fs,(a,b,ft) :: fl,h=>by
   simp only[qLS,Bool.and_eq_true] at h
   obtain⟨⟨h1,h2⟩,h3⟩:=h
   obtain⟨i1,i2⟩:=qWM h3
   refine⟨by simp[i1],fun j g hg=>?_⟩
   cases j with
   | succ j=>exact i2 j g (by simpa using hg)
   | zero=>
     simp at hg
     subst hg
     have h1:=Nat.eq_of_beq_eq_true h1
     subst h1
     split at h2<;>try cases h2
     rename_i Lf hL
     simp only[Bool.and_eq_true,Nat.beq_eq,Bool.not_eq_true',decide_eq_false_iff_not,Nat.blt_eq] at h2
     obtain⟨⟨⟨q1,q2⟩,q3⟩,q4⟩:=h2
     split at q4<;>try cases q4
     rename_i i hi
     exact⟨a,b,Lf,by simp,hL,q1,q2,q3,i,hi,Nat.eq_of_beq_eq_true q4⟩
 | [],_ :: _,h=>by cases h
 | _ :: _,[],h=>by cases h
def qPr (P:Program) (tab:Tab) (t:TypeId) (L:Lay):Bool:=
 (match P.info? t with
  | some i=>Nat.beq i.size L.size&&(match i.zero with
    | some z=>zBs z.cells.toList (L.segTs.flatMap SegT.zeros)&&(match L,z with
      | .sc _,.agg _=>false
      | .sc _,_=>true
      | _,.agg _=>true
      | _,_=>false)
    | none=>false)
  | none=>false) &&
 (match L,P.underlying t with
  | .sc (.i k),some (.int k')=>decide (k'=k)
  | .sc .b,some .bool=>true
  | .sc .str,some .string=>true
  | .sc .p,some (.pointer _)=>true
  | .sc (.sl e),some (.slice e')=>Nat.beq e' e
  | .sc (.m k e),some (.map k' e')=>Nat.beq k' k&&Nat.beq e' e
  | .sc .f,some (.func _ _ _)=>true
  | .st ts fl,some (.struct fs)=>qLS P tab ts fs.toList fl
  | .ar n m e sg,some (.array n' e')=>Nat.beq n' n&&Nat.beq e' e&&Nat.blt 0 m&&Nat.blt 0 sg.shp.width&&decide (sg.shp=.tbl sg.shp.width (n*m))&&(match tab.get e,P.info? e with
    | some Le,some i=>Nat.beq i.size (m*sg.shp.width)&&Nat.beq Le.size (m*sg.shp.width)
    | _,_=>false)
  | _,_=>false)
theorem qkx {P:Program} {tab:Tab} {t:TypeId} {L:Lay} (h:qPr P tab t L=true):LayOK P tab t L:=by
 unfold qPr at h
 rw[Bool.and_eq_true] at h
 obtain⟨h1,h2⟩:=h
 refine LayOK.mk ?_ ?_ ?_
 ·split at h1<;>try cases h1
  rename_i i hi
  simp only[Bool.and_eq_true,Nat.beq_eq] at h1
  obtain⟨q1,q2⟩:=h1
  split at q2<;>try cases q2
  rename_i z hz
  rw[Bool.and_eq_true] at q2
  exact⟨i,z,hi,q1,hz,qfb q2.1⟩
 ·split at h2<;>try cases h2
  ·rename_i hu;simp only[decide_eq_true_eq] at h2;subst h2;exact⟨_,hu,rfl⟩
  ·rename_i hu;exact⟨_,hu,rfl⟩
  ·rename_i hu;exact⟨_,hu,rfl⟩
  ·rename_i hu;exact⟨_,hu,_,rfl⟩
  ·rename_i hu;simp only[Nat.beq_eq] at h2;subst h2;exact⟨_,hu,rfl⟩
  ·rename_i hu;simp only[Bool.and_eq_true,Nat.beq_eq] at h2;obtain⟨rfl,rfl⟩:=h2;exact⟨_,hu,rfl⟩
  ·rename_i hu;exact⟨_,hu,_,_,_,rfl⟩
  ·rename_i ts fl fs hu
   obtain⟨f1,f2⟩:=qWM h2
   exact⟨fs,hu,by simpa using f1,fun j f hf=>f2 j f (by simpa using hf)⟩
  ·rename_i n m e sg n' e' hu
   simp only[Bool.and_eq_true,Nat.beq_eq,Nat.blt_eq,decide_eq_true_eq] at h2
   obtain⟨⟨⟨⟨⟨rfl,rfl⟩,q3⟩,q4⟩,q5⟩,q6⟩:=h2
   split at q6<;>try cases q6
   rename_i Le i hg hi
   simp only[Bool.and_eq_true,Nat.beq_eq] at q6
   exact⟨hu,q3,q4,q5,Le,i,hg,hi,q6.1,q6.2⟩
 ·intro i z hi hz
  rw[hi] at h1
  simp only[hz,Bool.and_eq_true] at h1
  have h3:=h1.2.2
  cases L<;>cases z<;>first | rfl | exact⟨_,rfl⟩ | cases h3
def qS1 (P:Program) (tab:Tab):Tab->Bool
 | []=>true
 | (t,L) :: r=>qPr P tab t L&&qS1 P tab r
theorem qeU {P:Program} {tab:Tab}:∀ {l:Tab},qS1 P tab l=true->∀ t L,Tab.get l t=some L->LayOK P tab t L
 | [],_,t,L,h=>by cases h
 | (u,M) :: r,hb,t,L,h=>by
   simp only[qS1,Bool.and_eq_true] at hb
   simp only[Tab.get] at h
   cases hu:Nat.beq u t with
   | true=>
     rw[hu] at h
     cases h
     have:=Nat.eq_of_beq_eq_true hu
     subst this
     exact qkx hb.1
   | false=>rw[hu] at h;exact qeU hb.2 t L h
def qO0 (P:Program) (tab:Tab):List TypeId->Bool
 | []=>true
 | t :: r=>(match tab.get t with
   | some L=>(match qBE P 100 t,qBU L.segTs with
     | some a,some b=>decide (a=b) && !P.eqGuardType P.depth t
     | _,_=>false)
   | none=>true)&&qO0 P tab r
theorem qWD {P:Program} {tab:Tab}:∀ {l:List TypeId},qO0 P tab l=true->∀ t L,qEg t l=true->tab.get t=some L->
  ∃ f ck,f<=10000 /\ qBE P f t=some ck /\ qBU L.segTs=some ck /\ P.eqGuardType P.depth t=false
 | [],_,t,L,h,_=>by cases h
 | u :: r,hb,t,L,h,hL=>by
   simp only[qO0,Bool.and_eq_true] at hb
   simp only[qEg,Bool.or_eq_true] at h
   rcases h with h | h
   ·have:=Nat.eq_of_beq_eq_true h
    subst this
    have h1:=hb.1
    rw[hL] at h1
    simp only at h1
    split at h1<;>try cases h1
    rename_i a b ha hb'
    simp only[Bool.and_eq_true,decide_eq_true_eq,Bool.not_eq_true'] at h1
    obtain⟨rfl,h2⟩:=h1
    exact⟨100,a,by omega,ha,hb',h2⟩
   ·exact qWD hb.2 t L h hL
def qOf (P:Program):List (TypeId×Nat)->Bool
 | []=>true
 | (t,n) :: r=>(match P.info? t with
   | some i=>Nat.beq i.bytes n
   | none=>false)&&qOf P r
theorem qVE {P:Program}:∀ {l:List (TypeId×Nat)},qOf P l=true->∀ t n,byN t l=some n->∃ i,P.info? t=some i /\ i.bytes=n
 | [],_,t,n,h=>by cases h
 | (k,m) :: r,hb,t,n,h=>by
   simp only[qOf,Bool.and_eq_true] at hb
   obtain⟨h1,h2⟩:=hb
   simp only[byN] at h
   cases hk:Nat.beq k t with
   | true=>
     rw[hk] at h
     have hk:=Nat.eq_of_beq_eq_true hk
     subst hk
     cases h
     split at h1
     ·rename_i i hi;exact⟨i,hi,Nat.eq_of_beq_eq_true h1⟩
     ·cases h1
   | false=>rw[hk] at h;exact qVE h2 t n h
abbrev Orc:={R:Type}->FuncId->List V->List Obj->(Bool->V->List Obj->Option R)->Option R
def qK:Orc:=fun _ _ _ _=>none
theorem qM {P:Program}:qBx P qK:=fun _ _ _ _ _ h=>by cases h
def qW:{R:Type}->Nat->List V->List Obj->(Ex->List V->List Obj->Option R)->Option R:=fun _ _ _ _=>none
def qN (n:FuncId) (a:{R:Type}->List V->List Obj->(Bool->V->List Obj->Option R)->Option R) (o:Orc):Orc:=fun f vs objs K=>bif Nat.beq f n then a vs objs K else o f vs objs K
theorem qO {P:Program} {n:FuncId} {a:{R:Type}->List V->List Obj->(Bool->V->List Obj->Option R)->Option R} {o:Orc} (ho:qBx P o)
  (ha:∀ {R:Type} (vs:List V) (objs:List Obj) (K:Bool->V->List Obj->Option R) (r:R),a vs objs K=some r->∃ p v objs',K p v objs'=some r /\ qDe P n vs objs p v objs'):qBx P (qN n a o):=by
 intro R f vs objs K r h
 replace h:(bif Nat.beq f n then a vs objs K else o f vs objs K)=some r:=h
 cases hf:Nat.beq f n with
 | false=>rw[hf] at h;exact ho f vs objs K r h
 | true=>
   rw[hf] at h
   have e:=Nat.eq_of_beq_eq_true hf
   subst e
   exact ha vs objs K r h
theorem qE {α β:Type} {m:Option α} {k:α->Option β} {r:β} (h:ob m k=some r):∃ a,m=some a /\ k a=some r:=by
 cases m with
 | none=>cases h
 | some a=>exact⟨a,rfl,h⟩
def qBV:Code->List Code
 | .seq a b=>qBV a++qBV b
 | .cond _ a b=>qBV a++qBV b
 | .block _ b=>qBV b
 | .loop b=>[b]
 | _=>[]
theorem qQD {P:Program} {c:Ctx} {m:Nat}:∀ (code:Code),(∀ b∈qBV code,qg P c m b)->qCV P c m code:=by
 intro code
 induction code with
 | seq a b iha ihb=>intro h;exact⟨iha fun x hx=>h x (by simp[qBV,hx]),ihb fun x hx=>h x (by simp[qBV,hx])⟩
 | cond t a b iha ihb=>intro h;exact⟨iha fun x hx=>h x (by simp[qBV,hx]),ihb fun x hx=>h x (by simp[qBV,hx])⟩
 | block i b ih=>intro h;exact ih fun x hx=>h x (by simpa[qBV] using hx)
 | loop b _=>intro h;exact h b (by simp[qBV])
 | _=>intro _;trivial
def qGr:Code->List Code
 | .seq a b=>qGr a++qGr b
 | .cond _ a b=>qGr a++qGr b
 | .block _ b=>qGr b
 | .loop b=>b :: qGr b
 | _=>[]
def qO3 (q:Nat):List Code->Code
 | []=>.skip
 | b :: r=>match qDL b with
   | some k=>bif Nat.beq k q then b else qO3 q r
   | none=>qO3 q r
def qG (fn:Func) (q:Nat):Code:=match fn.body with
 | some b=>qO3 q (qGr b)
 | none=>.skip
def qQ (p:Code->Prop):List Code->Prop
 | []=>True
 | a :: r=>p a /\ qQ p r
theorem qQ.of {p:Code->Prop} {l l':List Code} (h:l=l') (ha:qQ p l'):∀ x∈l,p x:=by
 subst h
 induction l with
 | nil=>intro x hx;cases hx
 | cons a l ih=>
   intro x hx
   rcases List.mem_cons.1 hx with rfl | hx
   ·exact ha.1
   ·exact ih ha.2 x hx
theorem qi {P:Program} {c:Ctx} {m:Nat} {b:Code} (hmo:P.follows .mixedOrders=true) (hc:CtxOK P c) (hl:∀ x∈qBV b,qg P c m x) {q:Nat} {kin kout:List Nat} (hq:qDL b=some q)
  (hk:qIC c.keeps q=some (kin,kout))
  (h:∀ {R:Type} (vs:List V) (objs:List Obj) (K:Ex->List V->List Obj->Option R) (r:R),c.lp q vs objs K=some r->
   ∃ (τ:Type) (D:Ex->List V->List Obj->Option τ) (t:τ) (f:Nat),qh c m kin kout b f vs objs D=some t /\ ∀ e vs' objs',D e vs' objs'=some t->K e vs' objs'=some r):qg P c m b:=by
 intro q' kin' kout' hq' hk' R vs objs K r hE hm
 rw[hq] at hq'
 cases hq'
 rw[hk] at hk'
 cases hk'
 obtain⟨τ,D,t,f,h1,h2⟩:=h vs objs K r hE
 obtain⟨e,vs',objs',h3,h4⟩:=qlb hmo hc (qQD b hl) f h1 hm
 exact⟨e,vs',objs',f,h2 e vs' objs' h3,h4⟩
theorem qJQ {P : Program} {c : Ctx} {f : FuncId} {fn : Func} {b : Code} (hmo : P.follows .mixedOrders = true) (hc : CtxOK P c) (hf : P.funcs[f]? = some fn) (hb : fn.body = some b) (hname : (fn.name == "runtime.NumGoroutine") = false)
  {vs:List V} {objs:List Obj} (hl:∀ x∈qBV b,qg P c objs.length x) {R τ:Type} {K:Bool->V->List Obj->Option R} {r:R} {D:V->List Obj->Option τ} {t:τ} (hE:fnE c fn vs objs D=some t)
  (hD:∀ v objs',D v objs'=some t->K false v objs'=some r):∃ p v objs',K p v objs'=some r /\ qDe P f vs objs p v objs':=by
 obtain⟨v,objs',h1,h2⟩:=qWU hmo hc hf hb hname (qQD b hl) hE
 exact⟨false,v,objs',hD v objs' h1,h2⟩
theorem qAR {P : Program} {c : Ctx} {f : FuncId} {fn : Func} {b : Code} (hmo : P.follows .mixedOrders = true) (hc : CtxOK P c) (hf : P.funcs[f]? = some fn) (hb : fn.body = some b) (hname : (fn.name == "runtime.NumGoroutine") = false)
  {vs:List V} {objs:List Obj} {m:Nat} {R τ:Type} {K:Bool->V->List Obj->Option R} {r:R} {D:V->List Obj->Option τ} {t:τ} (hE:fnE c fn vs objs D=some t) (hm:objs.length=m) (hl:∀ x∈qBV b,qg P c m x)
  (hD:∀ v objs',D v objs'=some t->K false v objs'=some r):∃ p v objs',K p v objs'=some r /\ qDe P f vs objs p v objs':=by
 subst hm
 exact qJQ hmo hc hf hb hname hl hE hD
def qAf {τ:Type} (m:Nat) (D:V->List Obj->Option τ):V->List Obj->Option τ:=fun v objs=>
 bif Nat.ble m objs.length&&(objs.take m).all Obj.live&&(objs.drop m).all Obj.owned then D v (objs.drop m) else none
theorem qAr {P : Program} {c : Ctx} {f : FuncId} {fn : Func} {b : Code} (hmo : P.follows .mixedOrders = true) (hc : CtxOK P c) (hf : P.funcs[f]? = some fn) (hb : fn.body = some b) (hname : (fn.name == "runtime.NumGoroutine") = false)
  {vs:List V} {objs ro:List Obj} {m:Nat} (hro:objs.map Obj.toRO=ro) (hm:ro.length=m) (hno:ro.all (fun x=>!x.owned)=true) (hl:∀ x∈qBV b,qg P c ro.length x) {R τ:Type} {K:Bool->V->List Obj->Option R} {r:R}
  {D:V->List Obj->Option τ} {t:τ} (hE:fnE c fn vs ro (qAf m D)=some t) (hD:∀ v new,D v new=some t->K true v new=some r):∃ p v objs',K p v objs'=some r /\ qDe P f vs objs p v objs':=by
 obtain⟨v,objs',h1,h2⟩:=qWU hmo hc hf hb hname (qQD b hl) hE
 unfold qAf at h1
 obtain⟨hb1,h1⟩:=qV h1
 simp only[Bool.and_eq_true,Nat.ble_eq,List.all_eq_true] at hb1
 obtain⟨⟨b1,b2⟩,b3⟩:=hb1
 subst hm
 subst hro
 refine⟨true,v,objs'.drop (objs.map Obj.toRO).length,hD _ _ h1,fun x hx=>?_,b3,objs'.take (objs.map Obj.toRO).length,?_,b2,?_⟩
 ·have:=List.all_eq_true.1 hno x hx
  simpa using this
 ·rw[List.length_take];simp at b1 ⊢;omega
 ·rw[List.take_append_drop];exact h2
theorem qa {P:Program} {c:Ctx} {f:FuncId} {fn:Func} (hmo:P.follows .mixedOrders=true) (hc:CtxOK P c) {vs:List V} {objs:List Obj} {R τ:Type} {K:Bool->V->List Obj->Option R} {r:R} {D:V->List Obj->Option τ} {t:τ}
  (hE : fnE c fn vs objs D = some t) (hf : (P.funcs[f]?, fn.body.isSome && !(fn.name == "runtime.NumGoroutine") && (qBV (fn.body.getD .skip)).isEmpty) = (some fn, true))
  (hD:∀ v objs',D v objs'=some t->K false v objs'=some r):∃ p v objs',K p v objs'=some r /\ qDe P f vs objs p v objs':=by
 simp only[Prod.mk.injEq,Bool.and_eq_true,Bool.not_eq_true',List.isEmpty_iff] at hf
 obtain⟨h1,⟨h2,h3⟩,h4⟩:=hf
 refine qJQ hmo hc h1 (b:=fn.body.getD .skip) ?_ h3 (fun x hx=>?_) hE hD
 ·cases hb:fn.body with
  | none=>rw[hb] at h2;cases h2
  | some b=>rfl
 ·rw[h4] at hx;cases hx
abbrev LI:=List Int
abbrev LL:=List (List Int)
abbrev OQ (P:Program) (f:Orc->Orc):Prop:=∀ o:Orc,qBx P o->qBx P (f o)
abbrev HA:Type 1:={R:Type}->Orc->List V->List Obj->(Bool->V->List Obj->Option R)->Option R
abbrev HL:Type 1:={R:Type}->List V->List Obj->(Ex->List V->List Obj->Option R)->Option R
end Go.Kk
