/-
 From a told call to a row: the arguments opened, what is behind the call qDc.
-/
import Derived.Test.YtpppdecfohkkfaaGreatDoorKkB
import Derived.ProofKit
namespace Go.Kk
open Go.ChangeShapes Go.WideShapes Go.ChangeAt Go.RowKit
def FxW (w:World):Prop:=∀ g k l,qCB g=some (k,l)->∃ arr t fr,w.heap[g]? = some (.cells arr t fr) /\ arr.toList=l.map (Value.int k)
theorem qCi.of {e:Env} {w:World} (h:FxW w) (hn:∀ o,(e.h.get o).owned=false):qCi e w:=fun g k l hg=>⟨h g k l hg,fun o ho=>by rw [hn o] at ho;cases ho⟩
theorem qg2 {W W':World} (hs:Below W.heap.size W W') (may:MemPlace->Prop):W.keptBut W' may:=by
 refine ⟨hs.os,hs.output,fun i hi=>?_⟩
 rw [hs.block i hi]
 cases W.heap[i]? with
 | none=>trivial
 | some o=>cases o<;>first | exact ⟨rfl,rfl,rfl,fun _ _=>rfl⟩ | exact .inr ⟨rfl,rfl⟩ | rfl
def qLB (P:Program):List TypeId->Bool
 | []=>true
 | t :: r=>P.readableRec t&&Nat.blt t P.types.size&&qLB P r
theorem qon {H:Type} {enc:TypeId×Value->H} {P:Program} (hl:laidOutB P=true) {W W':World} (hs:Below W.heap.size W W'):
  ∀ {ts:List TypeId} {vs:List Value} {ds:List (DataW H)} {ps:List MemPlace},qLB P ts=true->DataW.TrodAll enc P W 0 (fun _=>true) true ts vs ds ps->(∀ x∈ps,x.block<W.heap.size)->
    DataW.TrodAll enc P W' 0 (fun b=>decide (b<W.heap.size)) true ts vs ds ps:=by
 intro ts
 induction ts with
 | nil=>
   intro vs ds ps _ h _
   obtain ⟨rfl,rfl,rfl⟩:=trodAll_nil h
   exact rfl
 | cons t ts ih=>
   intro vs ds ps hts h hlt
   simp only [qLB,Bool.and_eq_true,Nat.blt_eq] at hts
   obtain ⟨v,vs1,d,ds1,a,b,rfl,rfl,rfl,h1,h2⟩:=trodAll_cons h
   exact ⟨a,b,Below.trod hl hts.1.1 hts.1.2 h1 hs (fun x hx=>hlt x (List.mem_append_left _ hx)),ih hts.2 h2 (fun x hx=>hlt x (List.mem_append_right _ hx)),rfl⟩
theorem qkv {H:Type} {enc:TypeId×Value->H} {P:Program} {fn:Func} {s:ChangeSpec} {W W':World} {args:Array Value} {ds gs:List (DataW H)} {before:List MemPlace} {tb:TypeId}
  (hl:laidOutB P=true) (hW:DataW.Whole enc P fn.params.toList s.vars false W args.toList ds gs before) (hv:s.vars=[]) (hf:s.fn H ds = { results:=[.lit (.bool true)],args:=ds})
  (hres:fn.resultTypes = #[tb]) (htb:P.underlying tb=some .bool) (hrec:qLB P fn.params.toList=true) (hs:Below W.heap.size W W'):
  s.post enc P fn false true false false W args (.bool true) W':=by
 obtain ⟨p,q,hA,hV,rfl,_,_⟩:=id hW
 rw [hv] at hV
 obtain ⟨rfl,rfl⟩:=trodVars_none hV
 have hlt:∀ x∈p,x.block<W.heap.size:=fun x hx=>by
  have:=hW.lt x (by simpa using hx)
  simpa using this
 refine ⟨ds,[],p++[],[],p,[],hW,?_,?_,?_,qg2 hs _,fun h=>by cases h⟩
 ·rw [List.append_nil,hf,hres]
  exact trodAll_mk1 (shut_bool htb _)
 ·rw [List.append_nil,hf]
  exact qon hl hs hrec hA hlt
 ·rw [List.append_nil,hf,hv]
  exact rfl
end Go.Kk
