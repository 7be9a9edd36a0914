/-
 Functions that a contract of the library tells.
-/
import Derived.Test.YtpppdecfohkkfaaGreatDoorKkB
import Derived.Below
import Derived.Laws.Externs
namespace Go.Kk
open Go.RowKit
def qTi (P:Program):Prop:=∀ f,qBY f told=true->∀ {R:Type} (vs:List V) (objs:List Obj) (K:V->List Obj->Option R) (r:R),qKA f vs objs K=some r->∃ v,K v objs=some r /\ qCO P f vs objs v objs
theorem quQ {P:Program} (ht:qTi P) {f:FuncId} (hf:qBY f told=true) {vs:List V} {objs ro:List Obj} {m:Nat} (hro:objs.map Obj.toRO=ro) (hm:ro.length=m) (hno:ro.all (fun x=>!x.owned)=true) {R τ:Type}
  {K:Bool->V->List Obj->Option R} {r:R} {D:V->List Obj->Option τ} {t:τ} (hE:qKA f vs ro (qAM m D)=some t) (hD:∀ v new,D v new=some t->K true v new=some r):∃ p v objs',K p v objs'=some r /\ qEF P f vs objs p v objs':=by
 obtain⟨v,h1,h2⟩:=ht f hf vs ro (qAM m D) t hE
 unfold qAM at h1
 obtain⟨hb1,h1⟩:=qi h1
 simp only[Bool.and_eq_true,Nat.ble_eq,List.all_eq_true] at hb1
 obtain⟨⟨b1,b2⟩,b3⟩:=hb1
 subst hm
 subst hro
 refine⟨true,v,(objs.map Obj.toRO).drop (objs.map Obj.toRO).length,hD _ _ h1,fun x hx=>?_,b3,(objs.map Obj.toRO).take (objs.map Obj.toRO).length,?_,b2,?_⟩
 ·have:=List.all_eq_true.1 hno x hx
  simpa using this
 ·rw[List.length_take];simp
 ·rw[List.take_append_drop];exact h2
theorem quR {e:Env} {w w':World} (h:RelH e w) (hb:Below w.heap.size w w'):RelH e w':=by
 refine⟨fun o=>?_,h.new,h.apart,fun g k l hg=>?_⟩
 ·by_cases hd:(e.h.get o).shape=.dead
  ·have h0:=h.obj o
   unfold qT at h0 ⊢
   cases hx:e.h.get o<;>rw[hx] at hd<;>first | trivial | (simp[Obj.shape] at hd)
  ·exact (h.obj o).frame hb.size fun b hbk=>hb.block b ((h.obj o).lt hd hbk)
 ·obtain⟨⟨arr,t,fr,h1,h2⟩,h3⟩:=h.fix g k l hg
  refine⟨⟨arr,t,fr,?_,h2⟩,h3⟩
  rw[hb.block g,h1]
  rcases Nat.lt_or_ge g w.heap.size with h | h
  ·exact h
  ·rw[Array.getElem?_eq_none h] at h1;cases h1
theorem qfZ:∀ {xs:List (List Int)},(∀ r∈xs,qo [.s] r)->xs.flatMap (mks [.s])=(qEm xs).map S.str
 | [],_=>rfl
 | r :: xs,h=>by
   have hr:=h r (by simp)
   have:=qfZ (xs:=xs) fun r hr=>h r (by simp[hr])
   match r,hr with
   | [x],_=>
     rw[List.flatMap_cons,this]
     rfl
   | [],hr=>cases hr
   | x :: y :: r,hr=>exact absurd hr.2 (by intro h;cases h)
theorem qfa:∀ {l:List ByteArray} {us:List Value},qC (qO qAd) (l.map S.str) us->us=l.map Value.string
 | [],[],_=>rfl
 | x :: l,u :: us,h=>by
   have h1:u=.string x:=h.1
   rw[h1,qfa h.2]
   rfl
 | [],_ :: _,h=>h.elim
 | _ :: _,[],h=>h.elim
theorem qkr {P : Program} {f : FuncId} {fn : Func} (hfn : P.funcs[f]? = some fn) (hname : (fn.name == "runtime.NumGoroutine") = false) (hbody : fn.body.isNone = false) (hto : qBY f told = true)
  (hnone:∀ (a:Option Addr) (c:Nat) (sep:ByteArray) (w:World),Calls P f #[.slice a 0 c,.string sep] w fun e w'=>e=.returned (.string ⟨#[]⟩) /\ w'=w)
  (hjoin:∀ (bk o c:Nat) (xs:List ByteArray) (sep:ByteArray) (w:World),(∀ (j:Nat) x,xs[j]? = some x->w.cell? ⟨bk,o+j,none⟩=some (.string x))->bk<w.heap.size->xs.length<=140737488355328->xs.length<=c->
   (List.intercalate sep.data.toList (xs.map fun x=>x.data.toList)).length<=140737488355328->
   Calls P f #[.slice (some ⟨bk,o,none⟩) xs.length c,.string sep] w fun e w'=>e=.returned (.string ⟨(List.intercalate sep.data.toList (xs.map fun x=>x.data.toList)).toArray⟩) /\ Below w.heap.size w w')
  {R:Type} (vs:List V) (objs:List Obj) (K:V->List Obj->Option R) (r:R) (h:qKA f vs objs K=some r):∃ v,K v objs=some r /\ qCO P f vs objs v objs:=by
 unfold qKA at h
 split at h<;>try cases h
 rename_i lo len full sep t ro n xs
 rcases q8 h with⟨hfit,h⟩ | ⟨_,h⟩<;>try cases h
 unfold qO7 at hfit
 rw[Bool.and_eq_true,Nat.ble_eq,Nat.ble_eq] at hfit
 refine⟨_,h,⟨fn,hfn,hname,hbody⟩,fun nm w args hargs hh=>⟨?_,fun hx=>by rw[hto] at hx;cases hx⟩⟩
 have hal:∃ v0 v1,args = #[v0,v1]:=by
  have hlen:=qC.length hargs
  match hq:args.toList,hlen with
  | [a,b],_=>exact⟨a,b,by rw[<- Array.toList_inj];exact hq⟩
 obtain⟨v0,v1,rfl⟩:=hal
 obtain⟨h0,h1,_⟩:=hargs
 have h1:v1=.string sep:=h1
 subst h1
 have hget:(qH [] 0 [Obj.sli t ro (.rows [.s] n xs)]).get 0=.sli t ro (.rows [.s] n xs):=by rw[qAn];rfl
 obtain⟨hok,hle,us,q1,q2,q3⟩:=qSm (e:=⟨nm,qH [] 0 [Obj.sli t ro (.rows [.s] n xs)],1⟩) hh h0 hget rfl
 have q2:us.length=len*1:=q2
 have q1:qC (qO qAd) (sub (xs.flatMap (mks [.s])) (lo*1) (len*1)) us:=q1
 rw[Nat.mul_one] at q2
 rw[Nat.mul_one,Nat.mul_one,qfZ hok.2] at q1
 have hsub:sub ((qEm xs).map S.str) lo len=(qEm ((xs.drop lo).take len)).map S.str:=by simp[sub,qEm,List.map_drop,List.map_take]
 rw[hsub] at q1
 have hus:=qfa q1
 generalize hys:qEm ((xs.drop lo).take len)=ys at *
 have hyl:ys.length=len:=by rw[<- q2,hus,List.length_map]
 have fin:∀ w',Below w.heap.size w w'->∀ en:Ending,en=.returned (.string (qK6 ys sep))->∃ vr nm',en=.returned vr /\ qQ ⟨nm',qH [] 0 [Obj.sli t ro (.rows [.s] n xs)],1⟩ (.s (.str (qK6 ys sep))) vr /\ RelH ⟨nm',qH [] 0 [Obj.sli t ro (.rows [.s] n xs)],1⟩ w' /\
   Frame' ⟨nm,qH [] 0 [Obj.sli t ro (.rows [.s] n xs)],1⟩ w w' /\ Ext ⟨nm,qH [] 0 [Obj.sli t ro (.rows [.s] n xs)],1⟩ ⟨nm',qH [] 0 [Obj.sli t ro (.rows [.s] n xs)],1⟩ w:=
  fun w' hb en he=>⟨_,nm,he,rfl,quR hh hb,⟨hb.os,hb.tape,hb.output,hb.size,fun k hk _=>hb.block k hk⟩,Ext.refl hh⟩
 by_cases hz:len=0
 ·subst hz
  have:ys=[]:=List.eq_nil_of_length_eq_zero hyl
  subst this
  have hv:∃ a c,v0=.slice a 0 c:=by
   rcases q3 with⟨q4,_⟩ | ⟨b,off,c,q4,_⟩
   ·exact⟨_,_,q4⟩
   ·exact⟨_,_,q4⟩
  obtain⟨a,c,rfl⟩:=hv
  refine (hnone a c sep w).mono fun en w' he=>?_
  obtain⟨he,rfl⟩:=he
  exact fin w' (Below.refl _ _) en he
 ·rcases q3 with⟨q4,_,q5,_⟩ | ⟨b,off,c,rfl,q4,q5⟩
  ·exact absurd q5 hz
  ·have hcell:∀ (j:Nat) x,ys[j]? = some x->w.cell? ⟨b,off+j,none⟩=some (.string x):=fun j x hx=>q5 j _ (by rw[hus,List.getElem?_map,hx];rfl)
   have hb:b<w.heap.size:=by
    have:=hcell 0 (ys[0]'(by omega)) (List.getElem?_eq_getElem (by omega))
    exact World.block_lt_of_cell? _ _ this
   have:=hjoin b off c ys sep w hcell hb hfit.1 (by omega) hfit.2
   rw[hyl] at this
   exact this.mono fun en w' he=>fin w' he.2 en he.1
end Go.Kk
