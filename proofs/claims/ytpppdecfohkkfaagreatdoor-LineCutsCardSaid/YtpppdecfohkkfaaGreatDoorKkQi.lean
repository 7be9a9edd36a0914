/-
 A slice of whole numbers, opened.
-/
import Derived.Test.YtpppdecfohkkfaaGreatDoorKkQ
namespace Go.Kk
def qBe (xs:List (List Int)):List Int:=xs.map fun r=>r.headD 0
theorem qjs (xs:List (List Int)):(qBe xs).length=xs.length:=by simp[qBe]
theorem qdC {k:IntKind} {r:List Int} (h:qo [.i k] r):r=[r.headD 0] /\ k.wrap (r.headD 0)=r.headD 0:=by
 match r,h with
 | [],h=>cases h
 | [x],h=>exact⟨rfl,h.1⟩
 | x :: y :: r,h=>exact absurd h.2 (by intro h;cases h)
theorem qn2 {W:World} {T:TypeId} {k:IntKind} {v:Value} (h:v=.slice none 0 0 \/ ∃ (b off len cap:Nat) (xs:List (List Int)),v=.slice (some ⟨b,off,none⟩) len cap /\ b<W.heap.size /\ len<=cap /\ cap<=maxLen /\ xs.length=len /\ (∀ r∈xs,qo [.i k] r) /\
   ∀ j s,(xs.flatMap (mks [.i k]))[j]? = some s->∃ u,W.cell? ⟨b,off+j,none⟩=some u /\ ∀ e,qO e s u) (hfx:FxW W):
  ∃ (nm:Nm) (xs:List (List Int)),(∀ r∈xs,qo [.i k] r) /\ xs.length<=maxLen /\ qQ ⟨nm,qH [] 0 [.sli T true (.arr k xs.length (qBe xs))],1⟩ (.s (.sl 0 0 xs.length false)) v /\
    RelH ⟨nm,qH [] 0 [.sli T true (.arr k xs.length (qBe xs))],1⟩ W:=by
 have apart:∀ (nm:Nm) (xs:List (List Int)) (o o' x:Nat),o≠o'->(Hp.get (qH [] 0 [Obj.sli T true (.arr k xs.length (qBe xs))]) o).owned=true->(Hp.get (qH [] 0 [Obj.sli T true (.arr k xs.length (qBe xs))]) o').shape≠.dead->blk nm o=some x->blk nm o'≠some x:=by
  intro nm xs o o' x _ ho
  rw[qAn] at ho
  cases o with
  | zero=>cases ho
  | succ o=>simp at ho;cases ho
 have new:∀ (xs:List (List Int)) (o:Nat),1<=o->Hp.get (qH [] 0 [Obj.sli T true (.arr k xs.length (qBe xs))]) o=.dead:=by
  intro xs o ho
  rw[qAn,List.getElem?_eq_none (by simpa using ho)];rfl
 have fixed:∀ (nm:Nm) (xs:List (List Int)),qC3 ⟨nm,qH [] 0 [Obj.sli T true (.arr k xs.length (qBe xs))],1⟩ W:=fun nm xs=>qC3.of hfx fun o=>by
  show (Hp.get (qH [] 0 _) o).owned=false
  rw[qAn]
  cases o with
  | zero=>rfl
  | succ o=>simp;rfl
 have get0:∀ xs:List (List Int),Hp.get (qH [] 0 [Obj.sli T true (.arr k xs.length (qBe xs))]) 0=.sli T true (.arr k xs.length (qBe xs)):=fun xs=>by rw[qAn];rfl
 rcases h with rfl | ⟨b,off,len,cap,xs,rfl,hb,h1,h2,rfl,h4,h5⟩
 ·refine⟨fun _=>none,[],fun r hr=>(by cases hr),Nat.zero_le _,⟨Nat.one_pos,?_⟩,⟨fun o=>?_,new [],apart _ [],fixed _ []⟩⟩
  ·rw[show (Env.h ⟨fun _=>none,qH [] 0 [Obj.sli T true (.arr k ([]:List (List Int)).length (qBe []))],1⟩).get 0=_ from get0 []]
   exact⟨rfl,rfl,rfl⟩
  ·unfold qT
   dsimp only
   cases o with
   | zero=>rw[get0 []];exact⟨⟨rfl,fun r hr=>(by cases hr)⟩,rfl⟩
   | succ o=>rw[new [] (o+1) (by omega)];trivial
 ·have hfl:∀ (j:Nat) (s:S),((qBe xs).map (S.i k))[j]? = some s->(xs.flatMap (mks [.i k]))[j]? = some s:=by
   intro j s hj
   rw[<- hj]
   congr 1
   clear h1 h5 hj
   induction xs with
   | nil=>rfl
   | cons r xs ih=>
     have hr:=(qdC (h4 r (by simp))).1
     have:=ih fun r hr=>h4 r (by simp[hr])
     rw[List.flatMap_cons,this,hr]
     rfl
  refine⟨fun _=>some (b,off,cap),xs,h4,Nat.le_trans h1 h2,⟨Nat.one_pos,?_⟩,⟨fun o=>?_,new xs,apart _ xs,fixed _ xs⟩⟩
  ·rw[show (Env.h ⟨fun _=>some (b,off,cap),qH [] 0 [Obj.sli T true (.arr k xs.length (qBe xs))],1⟩).get 0=_ from get0 xs]
   exact⟨cap,by simp,h1,by simp[Seg.shp,Shp.rows],fun h=>by cases h⟩
  ·unfold qT
   dsimp only
   cases o with
   | zero=>
     rw[get0 xs]
     refine⟨⟨qjs xs,fun x hx=>?_⟩,?_,Nat.le_trans h1 h2,fun j s hj=>?_⟩
     ·obtain⟨r,hr,rfl⟩:=List.mem_map.1 hx
      exact (qdC (h4 r hr)).2
     ·exact hb
     ·obtain⟨u,hu,hr⟩:=h5 j s (hfl j s hj)
      exact⟨u,hu,hr _⟩
   | succ o=>rw[new xs (o+1) (by omega)];trivial
end Go.Kk
