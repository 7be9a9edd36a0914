/-
 A slice of whole numbers, opened.
-/
import Derived.Test.YthklalefbhbhmaaGreatDoorKkQ
namespace Go.Kk
def qBq (xs:List (List Int)):List Int:=xs.map fun r=>r.headD 0
theorem qg9 (xs:List (List Int)):(qBq xs).length=xs.length:=by simp[qBq]
theorem qbk {k:IntKind} {r:List Int} (h:qq [.i k] r):r=[r.headD 0] /\ k.wrap (r.headD 0)=r.headD 0:=by
 match r,h with
 | [],h=>cases h
 | [x],h=>exact⟨rfl,h.1⟩
 | x :: y :: r,h=>exact absurd h.2 (by intro h;cases h)
theorem qlV {W:World} {T:TypeId} {k:IntKind} {v:Value} (h:v=.slice none 0 0 \/ ∃ (b off len cap:Nat) (xs:List (List Int)),v=.slice (some ⟨b,off,none⟩) len cap /\ b<W.heap.size /\ len<=cap /\ cap<=maxLen /\ xs.length=len /\ (∀ r∈xs,qq [.i k] r) /\
   ∀ j s,(xs.flatMap (mks [.i k]))[j]? = some s->∃ u,W.cell? ⟨b,off+j,none⟩=some u /\ ∀ e,qI e s u) (hfx:FxW W):
  ∃ (nm:Nm) (xs:List (List Int)),(∀ r∈xs,qq [.i k] r) /\ xs.length<=maxLen /\ qS ⟨nm,qH [] 0 [.sli T true (.arr k xs.length (qBq xs))],1⟩ (.s (.sl 0 0 xs.length false)) v /\
    RelH ⟨nm,qH [] 0 [.sli T true (.arr k xs.length (qBq xs))],1⟩ W:=by
 have apart:∀ (nm:Nm) (xs:List (List Int)) (o o' x:Nat),o≠o'->(Hp.get (qH [] 0 [Obj.sli T true (.arr k xs.length (qBq xs))]) o).owned=true->(Hp.get (qH [] 0 [Obj.sli T true (.arr k xs.length (qBq xs))]) o').shape≠.dead->Has nm o x->¬ Has nm o' x:=by
  intro nm xs o o' x _ ho
  rw[qAg] at ho
  cases o with
  | zero=>cases ho
  | succ o=>simp at ho;cases ho
 have new:∀ (xs:List (List Int)) (o:Nat),1<=o->Hp.get (qH [] 0 [Obj.sli T true (.arr k xs.length (qBq xs))]) o=.dead:=by
  intro xs o ho
  rw[qAg,List.getElem?_eq_none (by simpa using ho)];rfl
 have fixed:∀ (nm:Nm) (xs:List (List Int)),qCH ⟨nm,qH [] 0 [Obj.sli T true (.arr k xs.length (qBq xs))],1⟩ W:=fun nm xs=>qCH.of hfx fun o=>by
  show (Hp.get (qH [] 0 _) o).owned=false
  rw[qAg]
  cases o with
  | zero=>rfl
  | succ o=>simp;rfl
 have get0:∀ xs:List (List Int),Hp.get (qH [] 0 [Obj.sli T true (.arr k xs.length (qBq xs))]) 0=.sli T true (.arr k xs.length (qBq xs)):=fun xs=>by rw[qAg];rfl
 rcases h with rfl | ⟨b,off,len,cap,xs,rfl,hb,h1,h2,rfl,h4,h5⟩
 ·refine⟨fun _=>none,[],fun r hr=>(by cases hr),Nat.zero_le _,⟨Nat.one_pos,?_⟩,⟨fun o=>?_,new [],apart _ [],fixed _ []⟩⟩
  ·rw[show (Env.h ⟨fun _=>none,qH [] 0 [Obj.sli T true (.arr k ([]:List (List Int)).length (qBq []))],1⟩).get 0=_ from get0 []]
   exact⟨rfl,rfl,rfl⟩
  ·unfold qG
   dsimp only
   cases o with
   | zero=>rw[get0 []];exact⟨⟨rfl,fun r hr=>(by cases hr)⟩,rfl⟩
   | succ o=>rw[new [] (o+1) (by omega)];trivial
 ·have hfl:∀ (j:Nat) (s:S),((qBq xs).map (S.i k))[j]? = some s->(xs.flatMap (mks [.i k]))[j]? = some s:=by
   intro j s hj
   rw[<- hj]
   congr 1
   clear h1 h5 hj
   induction xs with
   | nil=>rfl
   | cons r xs ih=>
     have hr:=(qbk (h4 r (by simp))).1
     have:=ih fun r hr=>h4 r (by simp[hr])
     rw[List.flatMap_cons,this,hr]
     rfl
  refine⟨fun _=>some (b,off,cap),xs,h4,Nat.le_trans h1 h2,⟨Nat.one_pos,?_⟩,⟨fun o=>?_,new xs,apart _ xs,fixed _ xs⟩⟩
  ·rw[show (Env.h ⟨fun _=>some (b,off,cap),qH [] 0 [Obj.sli T true (.arr k xs.length (qBq xs))],1⟩).get 0=_ from get0 xs]
   exact⟨cap,by simp,h1,by simp[Seg.shp,Shp.rows],fun h=>by cases h⟩
  ·unfold qG
   dsimp only
   cases o with
   | zero=>
     rw[get0 xs]
     refine⟨⟨qg9 xs,fun x hx=>?_⟩,?_,Nat.le_trans h1 h2,fun j s hj=>?_⟩
     ·obtain⟨r,hr,rfl⟩:=List.mem_map.1 hx
      exact (qbk (h4 r hr)).2
     ·exact⟨hb,by unfold maxLen at *;unfold big;omega⟩
     ·obtain⟨u,hu,hr⟩:=h5 j s (hfl j s hj)
      exact⟨u,hu,hr _⟩
   | succ o=>rw[new xs (o+1) (by omega)];trivial
end Go.Kk
