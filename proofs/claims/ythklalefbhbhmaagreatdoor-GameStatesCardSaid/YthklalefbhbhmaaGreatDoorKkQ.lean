/-
 From a told call to a row, slices among the arguments: opened as objects that are only read.
-/
import Derived.Test.YthklalefbhbhmaaGreatDoorKkP
import Derived.OpenShut
namespace Go.Kk
open Go.ChangeShapes Go.WideShapes Go.ChangeAt Go.RowKit
def ckF (P:Program) (g:TypeId->Option (List CK)):List Field->Nat->Option (List CK)
 | [],_=>some []
 | f :: r,off=>match g f.type,Nat.beq f.offset off with
   | some l,true=>match Nat.beq (P.cellsOf f.type) l.length,ckF P g r (off+l.length) with
     | true,some m=>some (l++m)
     | _,_=>none
   | _,_=>none
def ckT (P:Program):Nat->TypeId->Option (List CK)
 | 0,_=>none
 | f + 1,t=>match P.underlying t with
   | some .bool=>some [CK.b]
   | some (.int k)=>some [.i k]
   | some (.array n e)=>match ckT P f e with
     | some l=>bif Nat.beq (P.cellsOf e) l.length&&Nat.beq (P.cellsOf t) (n*l.length) then some (List.replicate n l).flatten else none
     | none=>none
   | some (.struct fs)=>match ckF P (ckT P f) fs.toList 0 with
     | some l=>bif Nat.beq (P.cellsOf t) l.length then some l else none
     | none=>none
   | _=>none
theorem qUi {ks:List CK}:∀ (n:Nat) (cs:List Value),cs.length=n*ks.length->
  (∀ i,i<n->∃ row,qq ks row /\ ∀ e,qB (qI e) (mks ks row) ((cs.drop (i*ks.length)).take ks.length))->
  ∃ row,qq (List.replicate n ks).flatten row /\ ∀ e,qB (qI e) (mks (List.replicate n ks).flatten row) cs
 | 0,cs,hl,_=>by
   have:cs=[]:=List.eq_nil_of_length_eq_zero (by simpa using hl)
   subst this
   exact⟨[],trivial,fun _=>trivial⟩
 | n+1,cs,hl,h=>by
   obtain⟨r1,a1,a2⟩:=h 0 (Nat.succ_pos _)
   have hl':cs.length=n*ks.length+ks.length:=by rw[hl,Nat.add_mul,Nat.one_mul]
   obtain⟨r2,b1,b2⟩:=qUi (ks:=ks) n (cs.drop ks.length) (by simp;omega) fun i hi=>by
    obtain⟨row,c1,c2⟩:=h (i+1) (by omega)
    refine⟨row,c1,fun e=>?_⟩
    have:=c2 e
    rwa [Nat.add_mul,Nat.one_mul,Nat.add_comm,<- List.drop_drop] at this
   refine⟨r1++r2,?_,fun e=>?_⟩
   ·rw[List.replicate_succ,List.flatten_cons];exact qJW a1 b1
   ·rw[List.replicate_succ,List.flatten_cons,qF8 _ _ _ _ (qDL a1)]
    have h1:=a2 e
    simp only[Nat.zero_mul,List.drop_zero] at h1
    have:=qB.append h1 (b2 e)
    rwa [List.take_append_drop] at this
section
variable {H:Type} {enc:TypeId×Value->H} {P:Program} {w:World} {base:Nat} {spare:Nat->Bool} {held:Bool}
theorem qda {k:IntKind} {n:Int} (h:(Lit.int k n).wf=true):k.wrap n=n:=by
 refine qCG ?_ ?_ <;> · simp[Lit.wf] at h;omega
theorem qVO {g:TypeId->Option (List CK)} {m:Nat} {cs:List Value} (hg:∀ t ck cs' x,g t=some ck->DataW.trod enc P w base spare held m t cs'=some x->∃ row,qq ck row /\ ∀ e,qB (qI e) (mks ck row) cs'):
  ∀ (fs:List Field) (off:Nat) (ck:List CK),ckF P g fs off=some ck->off+ck.length=cs.length->(∀ f∈fs,∃ x,DataW.trod enc P w base spare held m f.type ((cs.drop f.offset).take (P.cellsOf f.type))=some x)->
    ∃ row,qq ck row /\ ∀ e,qB (qI e) (mks ck row) (cs.drop off)
 | [],off,ck,h,hl,_=>by
   simp[ckF] at h
   subst h
   have:cs.drop off=[]:=List.drop_eq_nil_of_le (by simp at hl;omega)
   rw[this]
   exact⟨[],trivial,fun _=>trivial⟩
 | f :: fs,off,ck,h,hl,hx=>by
   simp only[ckF] at h
   split at h<;>try cases h
   rename_i l hl1 ho
   split at h<;>cases h
   rename_i m' hc hm'
   have ho:=Nat.eq_of_beq_eq_true ho
   have hc:=Nat.eq_of_beq_eq_true hc
   obtain⟨x,hx1⟩:=hx f (by simp)
   obtain⟨r1,a1,a2⟩:=hg _ _ _ _ hl1 hx1
   simp only[List.length_append] at hl
   obtain⟨r2,b1,b2⟩:=qVO hg fs (off+l.length) m' hm' (by omega) fun f' hf'=>hx f' (by simp[hf'])
   refine⟨r1++r2,qJW a1 b1,fun e=>?_⟩
   rw[qF8 _ _ _ _ (qDL a1)]
   have h1:=a2 e
   rw[ho,hc] at h1
   have:=qB.append h1 (b2 e)
   rwa [<- List.drop_drop,List.take_append_drop] at this
theorem qSs:∀ (f:Nat) (t:TypeId) (ck:List CK) (m:Nat) (cs:List Value) (x:DataW H×List MemPlace),ckT P f t=some ck->DataW.trod enc P w base spare held m t cs=some x->
  ∃ row,qq ck row /\ ∀ e,qB (qI e) (mks ck row) cs
 | 0,t,ck,m,cs,x,h,_=>by simp[ckT] at h
 | f + 1,t,ck,m,cs,x,h,hx=>by
   simp only[ckT] at h
   split at h<;>try cases h
   ·rename_i hu
    obtain⟨b,rfl,_⟩:=DataW.trod_bool hu hx
    refine⟨[bi b],⟨by cases b<;>simp[qFr,bi,br],trivial⟩,fun e=>⟨?_,trivial⟩⟩
    cases b<;>rfl
   ·rename_i k hu
    obtain⟨n,rfl,_,hw⟩:=DataW.trod_int hu hx
    exact⟨[n],⟨qda hw,trivial⟩,fun e=>⟨⟨rfl,qda hw⟩,trivial⟩⟩
   ·rename_i n e hu
    split at h<;>try cases h
    rename_i l hl
    cases hb:(Nat.beq (P.cellsOf e) l.length&&Nat.beq (P.cellsOf t) (n*l.length)) with
    | false=>rw[hb] at h;cases h
    | true=>
      rw[hb] at h
      cases h
      simp only[Bool.and_eq_true,Nat.beq_eq] at hb
      obtain⟨xs,m',_,_,h3,h4,h5⟩:=DataW.trod_array hu hx
      refine qUi n cs (by omega) fun i hi=>?_
      have h6:=h5 i hi
      rw[hb.1,List.getElem?_eq_getElem (by omega)] at h6
      exact qSs f e l _ _ _ hl h6
   ·rename_i fs hu
    split at h<;>try cases h
    rename_i l hl
    cases hb:Nat.beq (P.cellsOf t) l.length with
    | false=>rw[hb] at h;cases h
    | true=>
      rw[hb] at h
      cases h
      have hb:=Nat.eq_of_beq_eq_true hb
      obtain⟨xs,m',_,_,h3,h4,h5⟩:=DataW.trod_struct hu hx
      have:=qVO (m:=m') (cs:=cs) (fun t ck cs' x h1 h2=>qSs f t ck _ _ _ h1 h2) fs.toList 0 _ hl (by omega) fun g hg=>by
       obtain⟨i,hi⟩:=List.getElem?_of_mem hg
       have h6:=h5 i g (by simpa using hi)
       have hlt:=getElem?_lt hi
       rw[List.getElem?_eq_getElem (by simp at hlt;omega)] at h6
       exact⟨_,h6⟩
      simpa using this
theorem qld {r:Reach} {b0:Nat} {t e:TypeId} {f:Nat} {ks:List CK} {v:Value} {d:DataW H} {p:List MemPlace} (ht:P.underlying t=some (.slice e)) (hk:ckT P f e=some ks) (hc:P.cellsOf e=ks.length)
  (hval:Value.okWide P w r b0 t v) (hd:DataW.Trod enc P w base spare held t v d p):
  v = .slice none 0 0 \/ ∃ (b off len cap:Nat) (xs:List (List Int)),v=.slice (some ⟨b,off,none⟩) len cap /\ b<w.heap.size /\ len<=cap /\ cap<=maxLen /\ xs.length=len /\ (∀ r∈xs,qq ks r) /\
    ∀ j s,(xs.flatMap (mks ks))[j]? = some s->∃ u,w.cell? ⟨b,off+j,none⟩=some u /\ ∀ e,qI e s u:=by
 obtain⟨fu,hd⟩:=hd
 have hcs:v.cells.toList=[v]:=by
  unfold Value.okWide at hval
  rw[ht] at hval
  unfold Cell.okWide at hval
  rw[ht] at hval
  cases v<;>first | rfl | (simp[Cell.ok,ht] at hval)
 rw[hcs] at hd
 rcases DataW.trod_slice ht hd with⟨h0,_⟩ | ⟨a,len,cap,elems,rest,n,_,h1,_,hb,hl,hm,hlen,hel,_,_⟩
 ·left
  simpa using h0
 ·right
  simp only[List.cons.injEq,and_true] at h1
  subst h1
  have hspot:a.spot=none:=by
   unfold Value.okWide at hval
   rw[ht] at hval
   unfold Cell.okWide at hval
   rw[ht] at hval
   simp only[Cell.ok,ht] at hval
   exact hval.2.2.2.1
  have hblk:a.block<w.heap.size:=by
   unfold Value.okWide at hval
   rw[ht] at hval
   unfold Cell.okWide at hval
   rw[ht] at hval
   simp only[Cell.ok,ht] at hval
   obtain⟨_,_,row,cells,hsh,_⟩:=hval.2.2
   unfold World.shape? at hsh
   rcases Nat.lt_or_ge a.block w.heap.size with h | h
   ·exact h
   ·rw[Array.getElem?_eq_none h] at hsh;simp at hsh
  obtain⟨b,off,spot⟩:=a
  simp only at hspot
  subst hspot
  have each:∀ i,i<len->∃ row,qq ks row /\ ∀ j s,(mks ks row)[j]? = some s->∃ u,w.cell? ⟨b,off+(i*ks.length+j),none⟩=some u /\ ∀ e,qI e s u:=by
   intro i hi
   have h2:=hel i hi
   rw[List.getElem?_eq_getElem (by omega)] at h2
   simp only[Option.bind_eq_some_iff] at h2
   obtain⟨cs,h3,h4⟩:=h2
   obtain⟨row,h5,h6⟩:=qSs f e ks _ _ _ hk h4
   refine⟨row,h5,fun j s hj=>?_⟩
   have h7:=World.cells?_some h3
   have hjl:=getElem?_lt hj
   rw[qBP] at hjl
   obtain⟨u,hu,_⟩:=qB.get j (h6 qAo) hj
   refine⟨u,?_,fun e=>?_⟩
   ·have h8:=h7.2.2 j (by rw[hc];exact hjl)
    rw[Addr.add_lit,Addr.add_lit,hc] at h8
    rw[<- Nat.add_assoc,h8,hu]
   ·obtain⟨u',hu',hr⟩:=qB.get j (h6 e) hj
    rw[hu] at hu'
    cases hu'
    exact hr
  have all:∀ n,n<=len->∃ xs:List (List Int),xs.length=n /\ (∀ r∈xs,qq ks r) /\ ∀ j s,(xs.flatMap (mks ks))[j]? = some s->∃ u,w.cell? ⟨b,off+j,none⟩=some u /\ ∀ e,qI e s u:=by
   intro n
   induction n with
   | zero=>intro _;exact⟨[],rfl,fun r hr=>(by cases hr),fun j s hj=>(by simp at hj)⟩
   | succ n ih=>
     intro hn
     obtain⟨xs,x1,x2,x3⟩:=ih (by omega)
     obtain⟨row,y1,y2⟩:=each n (by omega)
     refine⟨xs++[row],by simp[x1],fun r hr=>?_,fun j s hj=>?_⟩
     ·rcases List.mem_append.1 hr with hr | hr
      ·exact x2 r hr
      ·simp at hr;subst hr;exact y1
     ·rw[List.flatMap_append] at hj
      have hfl:(xs.flatMap (mks ks)).length=n*ks.length:=by rw[qVU,x1]
      rw[List.getElem?_append] at hj
      split at hj
      ·exact x3 j s hj
      ·rename_i hlt
       simp only[List.flatMap_cons,List.flatMap_nil,List.append_nil] at hj
       obtain⟨u,hu,hr⟩:=y2 _ s hj
       refine⟨u,?_,hr⟩
       rw[<- hu,hfl,show n*ks.length+(j - n*ks.length)=j by omega]
  obtain⟨xs,x1,x2,x3⟩:=all len (Nat.le_refl _)
  exact⟨b,off,len,cap,xs,rfl,hblk,hl,hm,x1,x2,x3⟩
end
theorem qfo {P:Program} {f:FuncId} {vs:List V} {objs objs':List Obj} {args:Array Value} {W:World} {nm:Nm} (h:qD8 P f vs objs (.s (.b true)) objs') (hr:qB (qS ⟨nm,qH [] 0 objs,objs.length⟩) vs args.toList)
  (hh:RelH ⟨nm,qH [] 0 objs,objs.length⟩ W) (hno:∀ o∈objs,o.owned=false):
  Calls P f args W fun en W'=>en=.returned (.bool true) /\ Below W.heap.size W W':=by
 refine Calls.mono (h.2 nm W args hr hh).1 fun en W' he=>?_
 obtain⟨vr,nm',rfl,h1,_,h3,_⟩:=he
 have h1:vr=.bool true:=h1
 subst h1
 refine⟨rfl,h3.os,h3.tape,h3.output,h3.size,fun k hk=>h3.block k hk fun o ho=>?_⟩
 have ho:(Hp.get (qH [] 0 objs) o).owned=true:=ho
 rw[qAg] at ho
 cases hq:objs[o]? with
 | none=>rw[hq] at ho;cases ho
 | some x=>rw[hq] at ho;rw[show (some x).getD Obj.dead=x from rfl,hno x (List.mem_of_getElem? hq)] at ho;cases ho
theorem qre {W:World} {T:TypeId} {ks:List CK} {v:Value} (h:v=.slice none 0 0 \/ ∃ (b off len cap:Nat) (xs:List (List Int)),v=.slice (some ⟨b,off,none⟩) len cap /\ b<W.heap.size /\ len<=cap /\ cap<=maxLen /\ xs.length=len /\ (∀ r∈xs,qq ks r) /\
   ∀ j s,(xs.flatMap (mks ks))[j]? = some s->∃ u,W.cell? ⟨b,off+j,none⟩=some u /\ ∀ e,qI e s u) (_hk:0<ks.length) (hfx:FxW W):
  ∃ (nm:Nm) (xs:List (List Int)),(∀ r∈xs,qq ks r) /\ xs.length<=maxLen /\ qS ⟨nm,qH [] 0 [.sli T true (.rows ks xs.length xs)],1⟩ (.s (.sl 0 0 xs.length false)) v /\
    RelH ⟨nm,qH [] 0 [.sli T true (.rows ks xs.length xs)],1⟩ W:=by
 have apart:∀ (nm:Nm) (xs:List (List Int)) (o o' x:Nat),o≠o'->(Hp.get (qH [] 0 [Obj.sli T true (.rows ks xs.length xs)]) o).owned=true->(Hp.get (qH [] 0 [Obj.sli T true (.rows ks xs.length xs)]) o').shape≠.dead->Has nm o x->¬ Has nm o' x:=by
  intro nm xs o o' x _ ho
  rw[qAg] at ho
  cases o with
  | zero=>cases ho
  | succ o=>simp at ho;cases ho
 have new:∀ (xs:List (List Int)) (o:Nat),1<=o->Hp.get (qH [] 0 [Obj.sli T true (.rows ks xs.length xs)]) o=.dead:=by
  intro xs o ho
  rw[qAg,List.getElem?_eq_none (by simpa using ho)];rfl
 have fixed:∀ (nm:Nm) (xs:List (List Int)),qCH ⟨nm,qH [] 0 [Obj.sli T true (.rows ks xs.length xs)],1⟩ W:=fun nm xs=>qCH.of hfx fun o=>by
  show (Hp.get (qH [] 0 _) o).owned=false
  rw[qAg]
  cases o with
  | zero=>rfl
  | succ o=>simp;rfl
 have get0:∀ xs:List (List Int),Hp.get (qH [] 0 [Obj.sli T true (.rows ks xs.length xs)]) 0=.sli T true (.rows ks xs.length xs):=fun xs=>by rw[qAg];rfl
 rcases h with rfl | ⟨b,off,len,cap,xs,rfl,hb,h1,h2,rfl,h4,h5⟩
 ·refine⟨fun _=>none,[],fun r hr=>(by cases hr),Nat.zero_le _,⟨Nat.one_pos,?_⟩,⟨fun o=>?_,new [],apart _ [],fixed _ []⟩⟩
  ·rw[show (Env.h ⟨fun _=>none,qH [] 0 [Obj.sli T true (.rows ks ([]:List (List Int)).length [])],1⟩).get 0=_ from get0 []]
   exact⟨rfl,rfl,rfl⟩
  ·unfold qG
   dsimp only
   cases o with
   | zero=>rw[get0 []];exact⟨⟨rfl,fun r hr=>(by cases hr)⟩,rfl⟩
   | succ o=>rw[new [] (o+1) (by omega)];trivial
 ·refine⟨fun _=>some (b,off,cap),xs,h4,Nat.le_trans h1 h2,⟨Nat.one_pos,?_⟩,⟨fun o=>?_,new xs,apart _ xs,fixed _ xs⟩⟩
  ·rw[show (Env.h ⟨fun _=>some (b,off,cap),qH [] 0 [Obj.sli T true (.rows ks xs.length xs)],1⟩).get 0=_ from get0 xs]
   exact⟨cap,by simp,h1,by simp[Seg.shp,Shp.rows],fun h=>by cases h⟩
  ·unfold qG
   dsimp only
   cases o with
   | zero=>
     rw[get0 xs]
     refine⟨⟨rfl,h4⟩,?_,Nat.le_trans h1 h2,fun j s hj=>?_⟩
     ·exact⟨hb,by unfold maxLen at h2;unfold big;omega⟩
     ·obtain⟨u,hu,hr⟩:=h5 j s hj
      exact⟨u,hu,hr _⟩
   | succ o=>rw[new xs (o+1) (by omega)];trivial
theorem qmG {ks:List CK} {row:List Int} (hks:qAL [SegT.arr .i8 81,.arr .i8 16,.one [.i .i8]]=some ks) (hrow:qq ks row):
  (row.take 81).length=81 /\ ((row.drop 81).take 16).length=16 /\ (∀ i,-128<=((row.drop 81).take 16).getD i 0 /\ ((row.drop 81).take 16).getD i 0<=127) /\ (∀ i,-128<=(row.take 81).getD i 0 /\ (row.take 81).getD i 0<=127) /\
   -128<=((row.drop 81).drop 16).headD 0 /\ ((row.drop 81).drop 16).headD 0<=127:=by
 have hl:=qDL hrow
 have hks':ks=List.replicate 98 (.i .i8):=by
  simp only[qAL,kcks?,Kd.ck?,Option.some.injEq] at hks
  rw[<- hks];rfl
 have hn:ks.length=98:=by rw[hks'];simp
 have all:∀ i,i<98->∃ x,row[i]? = some x /\ -128<=x /\ x<=127:=by
  intro i hi
  obtain⟨x,hx,hc⟩:=qB.get i hrow (by rw[hks',List.getElem?_replicate,if_pos hi])
  have hc:IntKind.wrap .i8 x=x:=hc
  refine⟨x,hx,?_⟩
  rw[<- hc]
  simp only[IntKind.wrap,IntKind.signed,IntKind.bits]
  simp
  omega
 refine⟨by simp;omega,by simp;omega,fun i=>?_,fun i=>?_,?_⟩
 ·by_cases hi:i<16
  ·obtain⟨x,hx,h1⟩:=all (81+i) (by omega)
   have:((row.drop 81).take 16).getD i 0=x:=by
    rw[List.getD_eq_getElem?_getD,List.getElem?_take,if_pos hi,List.getElem?_drop,hx]
    rfl
   rw[this];exact h1
  ·rw[List.getD_eq_getElem?_getD,List.getElem?_eq_none (by simp;omega)]
   simp
 ·by_cases hi:i<81
  ·obtain⟨x,hx,h1⟩:=all i (by omega)
   have:(row.take 81).getD i 0=x:=by
    rw[List.getD_eq_getElem?_getD,List.getElem?_take,if_pos hi,hx]
    rfl
   rw[this];exact h1
  ·rw[List.getD_eq_getElem?_getD,List.getElem?_eq_none (by simp;omega)]
   simp
 ·obtain⟨x,hx,h1⟩:=all 97 (by omega)
  have:((row.drop 81).drop 16).headD 0=x:=by
   rw[List.drop_drop,List.headD_eq_head?_getD,List.head?_drop,hx]
   rfl
  rw[this];exact h1
end Go.Kk
