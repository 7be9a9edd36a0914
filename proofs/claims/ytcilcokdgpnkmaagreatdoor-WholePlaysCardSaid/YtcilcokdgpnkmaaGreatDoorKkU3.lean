/- What the program's functions come to, told plainly: the texts of this project that this claim leans on, cut down to what is used. -/
import Derived.Test.YtcilcokdgpnkmaaGreatDoorKkU2
import Derived.Test.YtcilcokdgpnkmaaGreatDoorKkU1
namespace Go.Kk.Pl
theorem qDE {α:Type} {x y:α} {a b:Nat} (h:a<=b):br (decide (a<=b)) x y=x:=qD (by simpa using h)
theorem tkA {α:Type} {n:Nat} {L:List α} (h:n=L.length) (M:List α):List.append (List.take n L) M=L++M:=by
 subst h;rw[List.take_length];rfl
theorem qek {α:Type} {n:Nat} {L:List α} {m:α} (h:n=L.length) (M:List α):List.append (List.take (n+1) (L++[m])) M=L++m :: M:=by
 rw[tkA (by simp[h])];simp
def qAF (x f t:Int):List (List Int):=(if qDP x t then [] else [[f,t,0,0]])++(if qC3 x f t then [[f,t,0,1]] else [])
theorem qmx (x f t:Int):(qAF x f t).length<=2:=by
 unfold qAF;split<;>split<;>simp
theorem qHw {α β:Type} (g:α->List β) (k:Nat) (L:List α) (h:∀ a∈L,(g a).length<=k):(L.flatMap g).length<=k*L.length:=by
 induction L with
 | nil=>simp
 | cons a L ih=>
   rw[List.flatMap_cons,List.length_append,List.length_cons,Nat.mul_succ]
   have:=h a (by simp)
   have:=ih fun x hx=>h x (by simp[hx])
   omega
theorem qtV (x f:Int) (T:List Int) (S:Int) (N1:Nat) (a5 a6:Int) (b h:List Int) (S':Int) (by' sd':List (List Int)) (u v k1 k2:Int) (N2:Nat) (L2:List Int) (N3:Nat) (hT:T.length<=1000):∀ (n i:Nat),i+n=T.length->∀ (L:List (List Int)) (x0 x17:Nat),x0=L.length->x17=L.length->L.length<=1000000 - 2*n->∀ F,
  qFe (F+n+1) x0 S f x N1 a5 a6 T.length T.length i b h S' by' sd' u v x17 L k1 k2 N2 L2 N3 T =
   some ((L++(T.drop i).flatMap (qAF x f)).length,S,N1,a5,a6,b,h,S',by',sd',u,v,(L++(T.drop i).flatMap (qAF x f)).length,L++(T.drop i).flatMap (qAF x f),k1,k2,N2,L2):=by
 intro n
 induction n with
 | zero=>
   intro i hi L x0 x17 h0 h17 hb F
   show qH2 (qFe (F+0)) _ _ _ _ _ _ _ _ _ _ _ _ _ _ _ _ _ _ _ _ _ _ _ _ _=_
   unfold qH2
   rw[qY (by omega),List.drop_eq_nil_of_le (by omega)]
   simp only[List.flatMap_nil,List.append_nil,h0,h17]
 | succ n ih=>
   intro i hi L x0 x17 h0 h17 hb F
   show qH2 (qFe (F+n+1)) _ _ _ _ _ _ _ _ _ _ _ _ _ _ _ _ _ _ _ _ _ _ _ _ _=_
   unfold qH2
   have hil:i<T.length:=by omega
   have hget:T.getD i 0=T[i]:=qGZ hil
   have hd:T.drop i=T[i] :: T.drop (i+1):=List.drop_eq_getElem_cons hil
   rw[qZ (by omega),qU (by omega) (by omega),tn,hget,qnf,qA]
   simp only
   rw[w_s (by omega) (by omega),hd,List.flatMap_cons,<- List.append_assoc]
   rw[tkA h0,tkA h0,qek h0]
   have hi1:i+1+n=T.length:=by omega
   have ih':=ih (i+1) hi1
   cases hm:qDP x T[i] with
   | false=>
     rw[Bool.not_false,b_t,qDE (by omega)]
     cases hy:qC3 x f T[i] with
     | true=>
       rw[b_t,qDE (by omega)]
       have:=ih' (L++qAF x f T[i]) (x0+1+1) (x0+1+1) (by simp[qAF,hm,hy,h0]) (by simp[qAF,hm,hy,h0]) (by simp[qAF,hm,hy];omega) F
       rw[<- this]
       simp[qAF,hm,hy]
     | false=>
       rw[b_f]
       have:=ih' (L++qAF x f T[i]) (x0+1) (x0+1) (by simp[qAF,hm,hy,h0]) (by simp[qAF,hm,hy,h0]) (by simp[qAF,hm,hy];omega) F
       rw[<- this]
       simp[qAF,hm,hy]
   | true=>
     rw[Bool.not_true,b_f]
     cases hy:qC3 x f T[i] with
     | true=>
       rw[b_t,qDE (by omega)]
       have:=ih' (L++qAF x f T[i]) (x0+1) (x0+1) (by simp[qAF,hm,hy,h0]) (by simp[qAF,hm,hy,h0]) (by simp[qAF,hm,hy];omega) F
       rw[<- this]
       simp[qAF,hm,hy]
     | false=>
       rw[b_f]
       have:=ih' (L++qAF x f T[i]) x0 x17 (by simp[qAF,hm,hy,h0]) (by simp[qAF,hm,hy,h17]) (by simp[qAF,hm,hy];omega) F
       rw[<- this]
       simp[qAF,hm,hy]
def kgs (b:List Int) (c:Nat):Bool:=pcs b (pc 0 8) c||pcs b (pc 1 8) c
def qBf (b:List Int) (S:Int) (G:Nat->Bool) (f:Nat) (c:Nat):Bool:=((rch (b.getD f 0) f c (tk b) && !sdP b S c) && !kgs b c)&&G c
def qCf (b:List Int) (S:Int) (G:Nat->Bool) (f:Int):List (List Int):=(sq (qBf b S G f.toNat)).flatMap (qAF (b.getD f.toNat 0) f)
def qt (b:List Int) (S:Int) (G:Nat->Bool):List (List Int):=(sq (sdP b S)).flatMap (qCf b S G)
theorem qYZ (b:List Int) (S:Int) (G:Nat->Bool) (f:Int):(qCf b S G f).length<=162:=by
 unfold qCf
 have:=qHw (qAF (b.getD f.toNat 0) f) 2 (sq (qBf b S G f.toNat)) fun a _=>qmx _ _ _
 have:=qE7 (qBf b S G f.toNat)
 omega
theorem qhn {b:List Int} (hc:Clean b) (h:List Int) (S:Int) (G:Nat->Bool) (T:List Int) (hT:T.length<=1000) (hTr:∀ q∈T,0<=q /\ q<81) (N:Nat):∀ (n i:Nat),i+n=T.length->∀ (L:List (List Int)) (x0 x17:Nat),x0=L.length->x17=L.length->L.length<=900000 - 200*n->∀ F,
  qFd (F+n+1) x0 S T.length T.length i b h S (qI b) (qL b) (sLo G) (sHi G) x17 L (sLo (kgs b)) (sHi (kgs b)) N T =
   some ((L++(T.drop i).flatMap (qCf b S G)).length,b,h,S,qI b,qL b,(L++(T.drop i).flatMap (qCf b S G)).length,L++(T.drop i).flatMap (qCf b S G)):=by
 intro n
 induction n with
 | zero=>
   intro i hi L x0 x17 h0 h17 hb F
   show qH1 (qFd (F+0)) _ _ _ _ _ _ _ _ _ _ _ _ _ _ _ _ _ _=_
   unfold qH1
   rw[qY (by omega),List.drop_eq_nil_of_le (by omega)]
   simp only[List.flatMap_nil,List.append_nil,h0,h17]
 | succ n ih=>
   intro i hi L x0 x17 h0 h17 hb F
   show qH1 (qFd (F+n+1)) _ _ _ _ _ _ _ _ _ _ _ _ _ _ _ _ _ _=_
   unfold qH1
   have hil:i<T.length:=by omega
   have hget:T.getD i 0=T[i]:=qGZ hil
   have hd:T.drop i=T[i] :: T.drop (i+1):=List.drop_eq_getElem_cons hil
   obtain⟨q0,q1⟩:=hTr T[i] (List.getElem_mem hil)
   obtain⟨q,hq⟩:∃ q:Nat,T[i]=q:=⟨T[i].toNat,by omega⟩
   have hat:at_ b T[i]=b.getD q 0:=by rw[qAd ⟨q0,q1⟩,hq,tn]
   rw[qZ (by omega),qU (by omega) (by omega),tn,hget,qCB,qA,qKm hc,qA]
   simp only
   rw[hat,hq,qMM _ (by omega),qA]
   simp only
   rw[qQa,qA]
   simp only
   rw[qLt,qA]
   simp only
   rw[qLt,qA]
   simp only
   rw[qFJ,qA]
   simp only
   rw[qKh,qA]
   simp only
   rw[show (fun i=>((rch (b.getD q 0) q i (tk b) && !sdP b S i) && !kgs b i)&&G i)=qBf b S G q from rfl]
   have hlen:=qE7 (qBf b S G q)
   obtain⟨g,hg⟩:=qe (sq (qBf b S G q)).length (by omega)
   have:=qtV (b.getD q 0) q (sq (qBf b S G q)) S T.length T.length i b h S (qI b) (qL b) (sLo G) (sHi G) (sLo (kgs b)) (sHi (kgs b)) N T (sq (qBf b S G q)).length (by omega) (sq (qBf b S G q)).length 0 (by omega) L x0 x17 h0 h17 (by omega) g
   rw[<- hg] at this
   rw[show qFe qB x0 S q (b.getD q 0) T.length T.length i (sq (qBf b S G q)).length (Int.ofNat (sq (qBf b S G q)).length) 0 b h S (qI b) (qL b) (sLo G) (sHi G) x17 L (sLo (kgs b)) (sHi (kgs b)) N T (sq (qBf b S G q)).length (sq (qBf b S G q))=_ from this,qA]
   simp only
   have e:(List.drop 0 (sq (qBf b S G q))).flatMap (qAF (b.getD q 0) q)=qCf b S G T[i]:=by
    unfold qCf;rw[hq,tn,List.drop_zero]
   have hl2:=qYZ b S G T[i]
   rw[e,w_s (by omega) (by omega),hd,List.flatMap_cons,<- List.append_assoc]
   exact ih (i+1) (by omega) (L++qCf b S G T[i]) _ _ rfl rfl (by rw[List.length_append];omega) F
theorem qWZ {b:List Int} (hc:Clean b) (h:List Int) (S:Int) (G:Nat->Bool):qHz (sLo G) (sHi G) b h S (qI b) (qL b)=some ((qt b S G).length,(qt b S G).length,qt b S G):=by
 unfold qHz
 rw[qGv,qA]
 simp only
 rw[qGv,qA]
 simp only
 rw[qIR,qA]
 simp only
 rw[qQa,qA]
 simp only
 rw[qKh,qA]
 simp only
 have hlen:=qE7 (sdP b S)
 obtain⟨g,hg⟩:=qe (sq (sdP b S)).length (by omega)
 have:=qhn hc h S G (sq (sdP b S)) (by omega) (fun q hq=>⟨(qHK hq).1,(qHK hq).2.1⟩) (sq (sdP b S)).length (sq (sdP b S)).length 0 (by omega) [] 0 0 rfl rfl (by simp only[List.length_nil];omega) g
 rw[<- hg] at this
 rw[show qFd qB 0 S (sq (sdP b S)).length (Int.ofNat (sq (sdP b S)).length) 0 b h S (qI b) (qL b) (sLo G) (sHi G) 0 [] (sLo fun i=>pcs b (pc 0 8) i||pcs b (pc 1 8) i) (sHi fun i=>pcs b (pc 0 8) i||pcs b (pc 1 8) i) (sq (sdP b S)).length (sq (sdP b S))=_ from this,qA]
 rfl
def qBi (b h:List Int) (S:Int) (G:Nat->Bool) (k:Nat):List (List Int):=if hdP h S k<1 then [] else (sq fun i=>qAx b S k i&&G i).map fun t=>[0,t,(k:Int),0]
def qAS (b h:List Int) (S:Int) (G:Nat->Bool):List (List Int):=(List.range' 1 7).flatMap (qBi b h S G)
theorem qYa (b h:List Int) (S:Int) (G:Nat->Bool) (k:Nat):(qBi b h S G k).length<=81:=by
 unfold qBi
 split
 ·simp
 ·rw[List.length_map];exact qE7 _
theorem qtW (k:Int) (T:List Int) (S:Int) (b h:List Int) (S':Int) (by' sd':List (List Int)) (u v:Int) (N3:Nat) (hT:T.length<=1000):∀ (n i:Nat),i+n=T.length->∀ (L:List (List Int)) (x0 x17:Nat),x0=L.length->x17=L.length->L.length<=1000000 - 2*n->∀ F,
  qFg (F+n+1) x0 S k T.length T.length i b h S' by' sd' u v x17 L N3 T =
   some ((L++(T.drop i).map fun t=>[0,t,k,0]).length,S,k,b,h,S',by',sd',u,v,(L++(T.drop i).map fun t=>[0,t,k,0]).length,L++(T.drop i).map fun t=>[0,t,k,0]):=by
 intro n
 induction n with
 | zero=>
   intro i hi L x0 x17 h0 h17 hb F
   show qH5 (qFg (F+0)) _ _ _ _ _ _ _ _ _ _ _ _ _ _ _ _ _=_
   unfold qH5
   rw[qY (by omega),List.drop_eq_nil_of_le (by omega)]
   simp only[List.map_nil,List.append_nil,h0,h17]
 | succ n ih=>
   intro i hi L x0 x17 h0 h17 hb F
   show qH5 (qFg (F+n+1)) _ _ _ _ _ _ _ _ _ _ _ _ _ _ _ _ _=_
   unfold qH5
   have hil:i<T.length:=by omega
   have hget:T.getD i 0=T[i]:=qGZ hil
   have hd:T.drop i=T[i] :: T.drop (i+1):=List.drop_eq_getElem_cons hil
   rw[qZ (by omega),qU (by omega) (by omega),tn,hget,qDE (by omega),tkA h0,w_s (by omega) (by omega),hd,List.map_cons]
   have:=ih (i+1) (by omega) (L++[[0,T[i],k,0]]) (x0+1) (x0+1) (by simp[h0]) (by simp[h0]) (by simp;omega) F
   rw[List.append_assoc] at this
   exact this
theorem qi4 {b:List Int} (hc:Clean b) (h:List Int) (S:Int) (G:Nat->Bool):∀ (n k:Nat),k+n=8->∀ (L:List (List Int)) (x0 x17:Nat),x0=L.length->x17=L.length->L.length<=900000 - 200*n->∀ F,
  qFf (F+n+1) x0 S k b h S (qI b) (qL b) (sLo G) (sHi G) x17 L =
   some ((L++(List.range' k n).flatMap (qBi b h S G)).length,b,h,S,qI b,qL b,(L++(List.range' k n).flatMap (qBi b h S G)).length,L++(List.range' k n).flatMap (qBi b h S G)):=by
 intro n
 induction n with
 | zero=>
   intro k hk L x0 x17 h0 h17 hb F
   show qH4 (qFf (F+0)) _ _ _ _ _ _ _ _ _ _ _ _=_
   unfold qH4
   rw[qY (by omega)]
   simp only[List.range'_zero,List.flatMap_nil,List.append_nil,h0,h17]
 | succ n ih=>
   intro k hk L x0 x17 h0 h17 hb F
   show qH4 (qFf (F+n+1)) _ _ _ _ _ _ _ _ _ _ _ _=_
   unfold qH4
   have hl2:=qYa b h S G k
   rw[qZ (by omega),qj6,qA,List.range'_succ,List.flatMap_cons,<- List.append_assoc]
   have ih':=ih (k+1) (by omega) (L++qBi b h S G k)
   by_cases h1:hdP h S k<1
   ·have e:qBi b h S G k=[]:=by unfold qBi;rw[if_pos h1]
    rw[qZ h1,w_s (by omega) (by omega)]
    rw[e,List.append_nil] at ih' ⊢
    exact ih' x0 x17 h0 h17 (by omega) F
   ·have e:qBi b h S G k=(sq fun i=>qAx b S k i&&G i).map fun t=>[0,t,(k:Int),0]:=by unfold qBi;rw[if_neg h1]
    rw[qY h1,qjU hc,qA]
    simp only
    rw[qFJ,qA]
    simp only
    rw[qKh,qA]
    simp only
    have hlen:=qE7 fun i=>qAx b S k i&&G i
    obtain⟨g,hg⟩:=qe (sq fun i=>qAx b S k i&&G i).length (by omega)
    have:=qtW k (sq fun i=>qAx b S k i&&G i) S b h S (qI b) (qL b) (sLo G) (sHi G) (sq fun i=>qAx b S k i&&G i).length (by omega) (sq fun i=>qAx b S k i&&G i).length 0 (by omega) L x0 x17 h0 h17 (by omega) g
    rw[<- hg] at this
    rw[show qFg qB x0 S k (sq fun i=>qAx b S k i&&G i).length (Int.ofNat (sq fun i=>qAx b S k i&&G i).length) 0 b h S (qI b) (qL b) (sLo G) (sHi G) x17 L (sq fun i=>qAx b S k i&&G i).length (sq fun i=>qAx b S k i&&G i)=_ from this,qA]
    simp only
    rw[List.drop_zero,<- e,w_s (by omega) (by omega)]
    exact ih' _ _ rfl rfl (by rw[List.length_append];omega) F
theorem qje {b:List Int} (hc:Clean b) (h:List Int) (S:Int) (G:Nat->Bool):qJs (sLo G) (sHi G) b h S (qI b) (qL b)=some ((qAS b h S G).length,(qAS b h S G).length,qAS b h S G):=by
 unfold qJs
 obtain⟨g,hg⟩:=qe 7 (by omega)
 have:=qi4 hc h S G 7 1 (by omega) [] 0 0 rfl rfl (by simp only[List.length_nil];omega) g
 rw[<- hg] at this
 rw[show qFf qB 0 S 1 b h S (qI b) (qL b) (sLo G) (sHi G) 0 []=_ from this,qA]
 rfl
def mvs (b h:List Int) (S:Int):List (List Int):=qt b S (fun _=>true)++qAS b h S (fun _=>true)
theorem qLy (b:List Int) (S:Int) (G:Nat->Bool):(qt b S G).length<=162*81:=by
 unfold qt
 have:=qHw (qCf b S G) 162 (sq (sdP b S)) fun a _=>qYZ _ _ _ _
 have:=qE7 (sdP b S)
 omega
theorem qQM (b h:List Int) (S:Int) (G:Nat->Bool):(qAS b h S G).length<=81*7:=by
 unfold qAS
 have:=qHw (qBi b h S G) 81 (List.range' 1 7) fun a _=>qYa _ _ _ _ _
 rw[List.length_range'] at this
 omega
end Go.Kk.Pl
namespace Go.Kk.Pl
def qA0 (b h:List Int) (S:Int) (f t:Nat):List (List Int):=(if qAJ b h S f t 0 false then [[(f:Int),(t:Int),0,0]] else [])++(if qAJ b h S f t 0 true then [[(f:Int),(t:Int),0,1]] else [])
def rTo (b h:List Int) (S:Int) (f t:Nat):List (List Int):=if rch (b.getD f 0) f t (tk b) then qA0 b h S f t else []
def qBD (b h:List Int) (S:Int) (f:Nat):List (List Int):=if sd (b.getD f 0)=S then (List.range' 0 81).flatMap (rTo b h S f) else []
def qCN (b h:List Int) (S:Int) (k t:Nat):List (List Int):=if qAJ b h S 0 t k false then [[0,(t:Int),(k:Int),0]] else []
def qEl (b h:List Int) (S:Int) (k:Nat):List (List Int):=if hd_ h S k>0 then (List.range' 0 81).flatMap (qCN b h S k) else []
def qEk (b h:List Int) (S:Int):List (List Int):=(List.range' 0 81).flatMap (qBD b h S)++(List.range' 1 7).flatMap (qEl b h S)
theorem qnq (b h:List Int) (S:Int) (f t:Nat):(rTo b h S f t).length<=2:=by
 unfold rTo qA0
 split
 ·split<;>split<;>simp
 ·simp
theorem qZP (b h:List Int) (S:Int) (f:Nat):(qBD b h S f).length<=162:=by
 unfold qBD
 split
 ·have:=qHw (rTo b h S f) 2 (List.range' 0 81) fun a _=>qnq b h S f a
  rw[List.length_range'] at this
  omega
 ·simp
theorem qnj (b h:List Int) (S:Int) (k t:Nat):(qCN b h S k t).length<=1:=by
 unfold qCN;split<;>simp
theorem qnn (b h:List Int) (S:Int) (k:Nat):(qEl b h S k).length<=81:=by
 unfold qEl
 split
 ·have:=qHw (qCN b h S k) 1 (List.range' 0 81) fun a _=>qnj b h S k a
  rw[List.length_range'] at this
  omega
 ·simp
theorem qnp (b h:List Int) (S:Int) (f:Nat) (hf:f<81):∀ (n t:Nat),t+n=81->∀ (L:List (List Int)) (x0 x6:Nat),x0=L.length->x6=L.length->L.length<=1000000 - 2*n->∀ F,
  qF8 (F+n+1) x0 f t b h S x6 L (qDZ b) =
   some ((L++(List.range' t n).flatMap (rTo b h S f)).length,(f:Int),b,h,S,(L++(List.range' t n).flatMap (rTo b h S f)).length,L++(List.range' t n).flatMap (rTo b h S f),qDZ b):=by
 intro n
 induction n with
 | zero=>
   intro t ht L x0 x6 h0 h6 hb F
   show qIm (qF8 (F+0)) _ _ _ _ _ _ _ _ _=_
   unfold qIm
   rw[qY (by omega)]
   simp only[List.range'_zero,List.flatMap_nil,List.append_nil,h0,h6]
 | succ n ih=>
   intro t ht L x0 x6 h0 h6 hb F
   show qIm (qF8 (F+n+1)) _ _ _ _ _ _ _ _ _=_
   unfold qIm
   rw[qZ (by omega),qU (by omega) (by omega),tn,c_8,qQt b _ hf (by omega),qA,w_s (by omega) (by omega),List.range'_succ,List.flatMap_cons,<- List.append_assoc]
   have ih':=ih (t+1) (by omega) (L++rTo b h S f t)
   cases hr:rch (b.getD f 0) f t (tk b) with
   | false=>
     have e:rTo b h S f t=[]:=by unfold rTo;rw[hr];rfl
     rw[Bool.not_false,b_t]
     rw[e,List.append_nil] at ih' ⊢
     exact ih' x0 x6 h0 h6 (by omega) F
   | true=>
     have e:rTo b h S f t=qA0 b h S f t:=by unfold rTo;rw[hr];rfl
     rw[e] at ih' ⊢
     rw[Bool.not_true,b_f,qMj,qA,tkA h0,tkA h0,qek h0]
     cases hm:qAJ b h S f t 0 false with
     | true=>
       rw[b_t,qDE (by omega),qMj,qA]
       cases hy:qAJ b h S f t 0 true with
       | true=>
         rw[b_t,qDE (by omega)]
         have:=ih' (x0+1+1) (x0+1+1) (by simp[qA0,hm,hy,h0]) (by simp[qA0,hm,hy,h0]) (by simp[qA0,hm,hy];omega) F
         rw[<- this]
         simp[qA0,hm,hy]
       | false=>
         rw[b_f]
         have:=ih' (x0+1) (x0+1) (by simp[qA0,hm,hy,h0]) (by simp[qA0,hm,hy,h0]) (by simp[qA0,hm,hy];omega) F
         rw[<- this]
         simp[qA0,hm,hy]
     | false=>
       rw[b_f,qMj,qA]
       cases hy:qAJ b h S f t 0 true with
       | true=>
         rw[b_t,qDE (by omega)]
         have:=ih' (x0+1) (x0+1) (by simp[qA0,hm,hy,h0]) (by simp[qA0,hm,hy,h0]) (by simp[qA0,hm,hy];omega) F
         rw[<- this]
         simp[qA0,hm,hy]
       | false=>
         rw[b_f]
         have:=ih' x0 x6 (by simp[qA0,hm,hy,h0]) (by simp[qA0,hm,hy,h6]) (by simp[qA0,hm,hy];omega) F
         rw[<- this]
         simp[qA0,hm,hy]
theorem qnk (b h:List Int) (S:Int):∀ (n f:Nat),f+n=81->∀ (L:List (List Int)) (x0 x6:Nat),x0=L.length->x6=L.length->L.length<=900000 - 200*n->∀ F,
  qD8 (F+n+1) x0 f b h S x6 L (qDZ b) =
   some ((L++(List.range' f n).flatMap (qBD b h S)).length,b,h,S,(L++(List.range' f n).flatMap (qBD b h S)).length,L++(List.range' f n).flatMap (qBD b h S)):=by
 intro n
 induction n with
 | zero=>
   intro f hf L x0 x6 h0 h6 hb F
   show qIp (qD8 (F+0)) _ _ _ _ _ _ _ _=_
   unfold qIp
   rw[qY (by omega)]
   simp only[List.range'_zero,List.flatMap_nil,List.append_nil,h0,h6]
 | succ n ih=>
   intro f hf L x0 x6 h0 h6 hb F
   show qIp (qD8 (F+n+1)) _ _ _ _ _ _ _ _=_
   unfold qIp
   have hl:=qZP b h S f
   rw[qZ (by omega),qU (by omega) (by omega),tn,c_8,qEA,qA,List.range'_succ,List.flatMap_cons,<- List.append_assoc]
   have ih':=ih (f+1) (by omega) (L++qBD b h S f)
   by_cases h1:sd (b.getD f 0)=S
   ·have e:qBD b h S f=(List.range' 0 81).flatMap (rTo b h S f):=by unfold qBD;rw[if_pos h1]
    rw[qp h1]
    obtain⟨g,hg⟩:=qe 81 (by omega)
    have:=qnp b h S f (by omega) 81 0 (by omega) L x0 x6 h0 h6 (by omega) g
    rw[<- hg] at this
    rw[show qF8 qB x0 f 0 b h S x6 L (qDZ b)=_ from this,qA]
    simp only
    rw[w_s (by omega) (by omega),<- e]
    exact ih' _ _ rfl rfl (by rw[List.length_append];omega) F
   ·have e:qBD b h S f=[]:=by unfold qBD;rw[if_neg h1]
    rw[qo h1,w_s (by omega) (by omega)]
    rw[e,List.append_nil] at ih' ⊢
    exact ih' x0 x6 h0 h6 (by omega) F
theorem qni (b h:List Int) {S:Int} (hS:S=0 \/ S=1) (k:Nat) (hk:k<8):∀ (n t:Nat),t+n=81->∀ (L:List (List Int)) (x0 x6:Nat),x0=L.length->x6=L.length->L.length<=1000000 - 2*n->∀ F,
  qF9 (F+n+1) x0 k t b h S x6 L =
   some ((L++if hd_ h S k>0 then (List.range' t n).flatMap (qCN b h S k) else []).length,(k:Int),b,h,S,(L++if hd_ h S k>0 then (List.range' t n).flatMap (qCN b h S k) else []).length,L++if hd_ h S k>0 then (List.range' t n).flatMap (qCN b h S k) else []):=by
 intro n
 induction n with
 | zero=>
   intro t ht L x0 x6 h0 h6 hb F
   show qIo (qF9 (F+0)) _ _ _ _ _ _ _ _=_
   unfold qIo
   rw[qY (by omega)]
   simp only[List.range'_zero,List.flatMap_nil,ite_self,List.append_nil,h0,h6]
 | succ n ih=>
   intro t ht L x0 x6 h0 h6 hb F
   show qIo (qF9 (F+n+1)) _ _ _ _ _ _ _ _=_
   unfold qIo
   rw[qZ (by omega),qU (by omega) (by omega),qU (by omega) (by omega)]
   have ih':=ih (t+1) (by omega) (L++qCN b h S k t)
   by_cases h1:hd_ h S k>0
   ·rw[show List.getD h (S.toNat*8+Int.toNat (k:Int)) 0=hd_ h S k from rfl,qBR h1,qMj,qA,tkA h0,w_s (by omega) (by omega)]
    simp only[if_pos h1] at ih' ⊢
    rw[List.range'_succ,List.flatMap_cons,<- List.append_assoc]
    cases hm:qAJ b h S 0 t k false with
    | true=>
      have e:qCN b h S k t=[[0,(t:Int),(k:Int),0]]:=by unfold qCN;rw[hm];rfl
      rw[b_t,qDE (by omega)]
      rw[e] at ih' ⊢
      exact ih' (x0+1) (x0+1) (by simp[h0]) (by simp[h0]) (by simp;omega) F
    | false=>
      have e:qCN b h S k t=[]:=by unfold qCN;rw[hm];rfl
      rw[b_f]
      rw[e,List.append_nil] at ih' ⊢
      exact ih' x0 x6 h0 h6 (by omega) F
   ·rw[show List.getD h (S.toNat*8+Int.toNat (k:Int)) 0=hd_ h S k from rfl,qBS h1,if_neg h1,List.append_nil,h0,h6]
theorem qnm (b h:List Int) {S:Int} (hS:S=0 \/ S=1):∀ (n k:Nat),k+n=8->∀ (L:List (List Int)) (x0 x6:Nat),x0=L.length->x6=L.length->L.length<=900000 - 200*n->∀ F,
  qD7 (F+n+1) x0 k b h S x6 L =
   some ((L++(List.range' k n).flatMap (qEl b h S)).length,(L++(List.range' k n).flatMap (qEl b h S)).length,L++(List.range' k n).flatMap (qEl b h S)):=by
 intro n
 induction n with
 | zero=>
   intro k hk L x0 x6 h0 h6 hb F
   show qIn (qD7 (F+0)) _ _ _ _ _ _ _=_
   unfold qIn
   rw[qGd (by omega)]
   simp only[List.range'_zero,List.flatMap_nil,List.append_nil,h0,h6]
 | succ n ih=>
   intro k hk L x0 x6 h0 h6 hb F
   show qIn (qD7 (F+n+1)) _ _ _ _ _ _ _=_
   unfold qIn
   have hl:=qnn b h S k
   obtain⟨g,hg⟩:=qe 81 (by omega)
   have:=qni b h hS k (by omega) 81 0 (by omega) L x0 x6 h0 h6 (by omega) g
   rw[<- hg] at this
   rw[qGc (by omega),show qF9 qB x0 k 0 b h S x6 L=_ from this,qA]
   simp only
   have e:List.range' k (n+1)=k :: List.range' (k+1) n:=List.range'_succ
   rw[w_s (by omega) (by omega),e,List.flatMap_cons,<- List.append_assoc]
   exact ih (k+1) (by omega) (L++qEl b h S k) _ _ rfl rfl (by rw[List.length_append];omega) F
theorem qnl (b h:List Int) (S:Int):((List.range' 0 81).flatMap (qBD b h S)).length<=162*81:=by
 have:=qHw (qBD b h S) 162 (List.range' 0 81) fun a _=>qZP b h S a
 rw[List.length_range'] at this
 exact this
theorem qb6 (b h:List Int) {S:Int} (hS:S=0 \/ S=1):qIl b h S=some ((qEk b h S).length,(qEk b h S).length,qEk b h S):=by
 have main:(ob (qEv b h S) fun a3=>
  ob (qD8 qB 0 0 b h S 0 [] a3) fun (a4_0,a4_1,a4_2,a4_3,a4_4,a4_5)=>
  ob (qD7 qB a4_0 1 a4_1 a4_2 a4_3 a4_4 a4_5) fun (a10_0,a10_1,a10_2)=>
  (some (a10_0,a10_1,a10_2):Option (Nat×Nat×List (List Int))))=some ((qEk b h S).length,(qEk b h S).length,qEk b h S):=by
  rw[qS3,qA]
  have hl:=qnl b h S
  obtain⟨g,hg⟩:=qe 81 (by omega)
  have:=qnk b h S 81 0 (by omega) [] 0 0 rfl rfl (by simp only[List.length_nil];omega) g
  rw[<- hg,List.nil_append] at this
  rw[show qD8 qB 0 0 b h S 0 [] (qDZ b)=_ from this,qA]
  simp only
  obtain⟨g,hg⟩:=qe 7 (by omega)
  have:=qnm b h hS 7 1 (by omega) ((List.range' 0 81).flatMap (qBD b h S)) _ _ rfl rfl (by omega) g
  rw[<- hg] at this
  rw[show qD7 qB ((List.range' 0 81).flatMap (qBD b h S)).length 1 b h S ((List.range' 0 81).flatMap (qBD b h S)).length ((List.range' 0 81).flatMap (qBD b h S))=_ from this,qA]
  rfl
 unfold qIl
 rcases hS with rfl | rfl
 ·rw[qp rfl];exact main
 ·rw[qo (by omega),qp rfl];exact main
theorem qjM {α β γ:Type} (p:α->Bool) (f:α->β) (g:β->List γ) (L:List α):((L.filter p).map f).flatMap g=L.flatMap fun a=>if p a then g (f a) else []:=by
 induction L with
 | nil=>rfl
 | cons a L ih=>
   rw[List.filter_cons,List.flatMap_cons]
   cases h:p a with
   | true=>rw[if_pos rfl,if_pos rfl,List.map_cons,List.flatMap_cons,ih]
   | false=>rw[if_neg (by simp),if_neg (by simp),ih];rfl
theorem qSk {γ:Type} (p:Nat->Bool) (g:Int->List γ):(sq p).flatMap g=(List.range' 0 81).flatMap fun (i:Nat)=>if p i then g (i:Int) else []:=by
 unfold sq;rw[qjM,qZR];rfl
theorem qJq {α β:Type} {f g:α->List β} {L:List α} (h:∀ a∈L,f a=g a):L.flatMap f=L.flatMap g:=by
 induction L with
 | nil=>rfl
 | cons a L ih=>rw[List.flatMap_cons,List.flatMap_cons,h a (by simp),ih fun x hx=>h x (by simp[hx])]
theorem qsV {γ:Type} (p:Nat->Bool) (g:Int->γ):(sq p).map g=(List.range' 0 81).flatMap fun (i:Nat)=>if p i then [g (i:Int)] else []:=by
 rw[<- qSk p fun t=>[g t]]
 induction sq p with
 | nil=>rfl
 | cons a L ih=>rw[List.map_cons,List.flatMap_cons,ih];rfl
theorem qkn {b:List Int} (_hc:Clean b) {c:Nat} (_hcc:c<81):kgs b c=decide (kd (b.getD c 0)=8):=by
 unfold kgs pcs
 rw[qAy (.inl rfl) (by omega) (by omega) (by omega),qAy (.inr rfl) (by omega) (by omega) (by omega),Bool.eq_iff_iff]
 simp only[Bool.or_eq_true,decide_eq_true_eq]
 constructor
 ·rintro (⟨_,h⟩ | ⟨_,h⟩)<;>rw[h]<;>decide
 ·intro h
  have:=qMB (x:=b.getD c 0) (by omega)
  rw[h] at this
  have hs:=qE0 (x:=b.getD c 0) (by omega)
  rcases hs with h1 | h1<;>rw[h1,qAy (by omega) (by omega) (by omega) (by omega)] at this
  ·left;omega
  ·right;omega
theorem qYU {b:List Int} (_hc:Clean b) (h:List Int) {S:Int} (hS:S=0 \/ S=1) {f t:Nat} (hf:f<81) (ht:t<81) (hs:sd (b.getD f 0)=S) (hr:rch (b.getD f 0) f t (tk b)=true) (p:Bool):
  qAJ b h S f t 0 p=(decide (sd (b.getD t 0)≠S /\ kd (b.getD t 0)≠8)&&if p=true then qC3 (b.getD f 0) f t else !qDP (b.getD f 0) t):=by
 unfold qAJ qBb
 rw[if_neg (by simp),if_neg (by simp),qAd (by omega),qAd (by omega),tn,tn,hr,decide_eq_true (p:=S=0 \/ S=1) hS,Bool.true_and,Bool.true_and]
 by_cases hft:f=t
 ·subst hft
  have:decide (sd (b.getD f 0)=S /\ sd (b.getD f 0)≠S /\ kd (b.getD f 0)≠8)=false:=decide_eq_false fun hh=>hh.2.1 hs
  rw[this,Bool.false_and,Bool.and_false,Bool.false_and,decide_eq_false (p:=sd (b.getD f 0)≠S /\ kd (b.getD f 0)≠8) (fun hh=>hh.1 hs),Bool.false_and]
 ·have e:qCa f t 0 p=0:=by
   unfold qCa
   rw[if_neg (by omega),if_neg (by simp),if_neg (by omega),if_neg (by omega)]
  rw[decide_eq_true e,Bool.true_and]
  have:decide (sd (b.getD f 0)=S /\ sd (b.getD t 0)≠S /\ kd (b.getD t 0)≠8)=decide (sd (b.getD t 0)≠S /\ kd (b.getD t 0)≠8):=by simp[hs,-List.getD_eq_getElem?_getD]
  rw[this,Bool.and_assoc]
  congr 1
  cases p with
  | false=>simp
  | true=>
    simp only[Bool.not_true,Bool.false_or,if_true]
    unfold qC3
    rw[<- Bool.and_assoc,Bool.and_self]
theorem qtY {b:List Int} (hc:Clean b) (h:List Int) {S:Int} (hS:S=0 \/ S=1) {f t:Nat} (hf:f<81) (ht:t<81) (hs:sd (b.getD f 0)=S):
  (if qBf b S (fun _=>true) f t then qAF (b.getD f 0) f t else [])=rTo b h S f t:=by
 unfold rTo qA0 qAF qBf
 rw[qkn hc ht]
 cases hr:rch (b.getD f 0) f t (tk b) with
 | false=>simp
 | true=>
   rw[qYU hc h hS hf ht hs hr,qYU hc h hS hf ht hs hr]
   unfold sdP sds
   rw[decide_eq_true (p:=S=0 \/ S=1) hS]
   by_cases h1:sd (b.getD t 0)=S
   ·simp[h1,-List.getD_eq_getElem?_getD]
   ·by_cases h2:kd (b.getD t 0)=8
    ·simp[h2,-List.getD_eq_getElem?_getD]
    ·simp only[h1,h2,decide_false,Bool.and_self,Bool.not_false,Bool.true_and,ne_eq,not_false_eq_true,if_true,Bool.false_eq_true,if_false]
     cases qDP (b.getD f 0) t<;>cases qC3 (b.getD f 0) f t<;>rfl
theorem qQN {b:List Int} (hc:Clean b) (h:List Int) {S:Int} (hS:S=0 \/ S=1):mvs b h S=qEk b h S:=by
 unfold mvs qEk
 congr 1
 ·unfold qt
  rw[qSk]
  apply qJq
  intro f hf
  rw[List.mem_range'_1] at hf
  unfold qBD
  by_cases hs:sd (b.getD f 0)=S
  ·have:sdP b S f=true:=by unfold sdP sds;rw[decide_eq_true hs,decide_eq_true (p:=S=0 \/ S=1) hS];rfl
   rw[if_pos this,if_pos hs]
   unfold qCf
   rw[tn,qSk]
   apply qJq
   intro t ht
   rw[List.mem_range'_1] at ht
   exact qtY hc h hS (by omega) (by omega) hs
  ·have:sdP b S f=false:=by unfold sdP sds;rw[decide_eq_false hs,Bool.and_false]
   rw[if_neg (by simp[this]),if_neg hs]
 ·unfold qAS
  apply qJq
  intro k hk
  rw[List.mem_range'_1] at hk
  unfold qBi qEl
  have e:hdP h S k=hd_ h S k:=by unfold hdP;rw[if_pos ⟨hS,by omega,by omega⟩]
  rw[e]
  by_cases h1:hd_ h S k>0
  ·rw[if_neg (by omega),if_pos h1,qsV]
   apply qJq
   intro t ht
   rw[List.mem_range'_1] at ht
   unfold qCN
   rw[Bool.and_true]
   have:qAJ b h S 0 t k false=qAx b S k t:=by
    unfold qAJ qBb qAx qBB
    have e2:qCa 0 (t:Int) k false=0:=by
     unfold qCa
     rw[if_neg (by omega),if_pos (by omega),if_pos ⟨by omega,by omega,rfl,rfl⟩]
    rw[e2,qAy hS (by omega) (by omega) (by omega),qAy hS (by omega) (by omega) (by omega),if_pos (by omega),if_pos (by omega),decide_eq_true (p:=S=0 \/ S=1) hS,decide_eq_true (p:=(S=0 \/ S=1) /\ (1:Int)<=k /\ (k:Int)<=7) ⟨hS,by omega,by omega⟩,qOp _ (by omega),qAd (by omega),tn,decide_eq_true (p:=0<hd_ h S k) h1]
    unfold tk
    by_cases h2:(k:Int)=1
    ·rw[h2]
     by_cases h0:b.getD t 0=0<;>simp
    ·by_cases h0:b.getD t 0=0<;>simp[h2]
   rw[this]
  ·rw[if_pos (by omega),if_neg h1]
end Go.Kk.Pl
namespace Go.Kk.Pl
theorem hd0 (m:List Int):List.headD (List.take 4 m) 0=m.getD 0 0:=by cases m<;>rfl
theorem hd1 (m:List Int):List.headD (List.tail (List.take 4 m)) 0=m.getD 1 0:=by
 rcases m with _ | ⟨a,_ | ⟨b,m⟩⟩<;>rfl
theorem hd2 (m:List Int):List.headD (List.tail (List.tail (List.take 4 m))) 0=m.getD 2 0:=by
 rcases m with _ | ⟨a,_ | ⟨b,_ | ⟨c,m⟩⟩⟩<;>rfl
theorem hd3 (m:List Int):List.headD (List.tail (List.tail (List.tail (List.take 4 m)))) 0=m.getD 3 0:=by
 rcases m with _ | ⟨a,_ | ⟨b,_ | ⟨c,_ | ⟨d,m⟩⟩⟩⟩<;>rfl
theorem qmy {x f t:Int} {m:List Int} (h:m∈qAF x f t):∃ p:Int,m=[f,t,0,p]:=by
 unfold qAF at h
 rw[List.mem_append] at h
 rcases h with h | h
 ·split at h
  ·cases h
  ·exact⟨0,by simpa using h⟩
 ·split at h
  ·exact⟨1,by simpa using h⟩
  ·cases h
theorem qly {b:List Int} {S:Int} {G:Nat->Bool} {f:Int} {m:List Int} (h:m∈qCf b S G f):∃ t p:Int,m=[f,t,0,p]:=by
 unfold qCf at h
 obtain⟨t,_,ht⟩:=List.mem_flatMap.1 h
 obtain⟨p,hp⟩:=qmy ht
 exact⟨t,p,hp⟩
theorem qlw {b:List Int} {S:Int} {G:Nat->Bool} {m:List Int} (h:m∈qt b S G):∃ f t p:Int,m=[f,t,0,p]:=by
 unfold qt at h
 obtain⟨f,_,hf⟩:=List.mem_flatMap.1 h
 obtain⟨t,p,hp⟩:=qly hf
 exact⟨f,t,p,hp⟩
theorem qlz {b h:List Int} {S:Int} {G:Nat->Bool} {k:Nat} {m:List Int} (hm:m∈qBi b h S G k):∃ t:Int,m=[0,t,(k:Int),0]:=by
 unfold qBi at hm
 split at hm
 ·cases hm
 ·obtain⟨t,_,ht⟩:=List.mem_map.1 hm
  exact⟨t,ht.symm⟩
theorem qlx {b h:List Int} {S:Int} {G:Nat->Bool} {m:List Int} (hm:m∈qAS b h S G):∃ (k:Nat) (t:Int),1<=k /\ k<=7 /\ m=[0,t,(k:Int),0]:=by
 unfold qAS at hm
 obtain⟨k,hk,h2⟩:=List.mem_flatMap.1 hm
 rw[List.mem_range'_1] at hk
 obtain⟨t,ht⟩:=qlz h2
 exact⟨k,t,by omega,by omega,ht⟩
theorem qYb (b h:List Int) (S:Int):(mvs b h S).length<=20000:=by
 unfold mvs
 have h1:=qLy b S fun _=>true
 have h2:=qQM b h S fun _=>true
 rw[List.length_append]
 omega
end Go.Kk.Pl
namespace Go.Kk.Pl
theorem qj1 (es:List (List Int×List Int)) (r v r' d:List Int):qA7 (qAL es r v) r' d=if r'=r then v else qA7 es r' d:=by
 induction es with
 | nil=>
   by_cases h:r'=r
   ·subst h;simp[qAL,qA7]
   ·have:(r==r')=false:=by simpa using fun hh=>h hh.symm
    simp[qAL,qA7,this,h]
 | cons x es ih=>
   obtain⟨k,u⟩:=x
   by_cases hk:k=r
   ·subst hk
    by_cases h:r'=k
    ·subst h;simp[qAL,qA7]
    ·have:(k==r')=false:=by simpa using fun hh=>h hh.symm
     simp[qAL,qA7,this,h]
   ·have e1:(k==r)=false:=by simpa using hk
    by_cases hk':k=r'
    ·subst hk'
     simp[qAL,qA7,e1,hk]
    ·have e2:(k==r')=false:=by simpa using hk'
     simp only[qAL,e1,cond_false,qA7,e2,ih]
theorem qkA (es:List (List Int×List Int)) (r v r':List Int):qA8 (qAL es r v) r'=(decide (r'=r)||qA8 es r'):=by
 induction es with
 | nil=>
   by_cases h:r'=r
   ·subst h;simp[qAL,qA8]
   ·have:(r==r')=false:=by simpa using fun hh=>h hh.symm
    simp[qAL,qA8,this,h]
 | cons x es ih=>
   obtain⟨k,u⟩:=x
   by_cases hk:k=r
   ·subst hk
    by_cases h:r'=k
    ·subst h;simp[qAL,qA8]
    ·have:(k==r')=false:=by simpa using fun hh=>h hh.symm
     simp[qAL,qA8,this,h]
   ·have e1:(k==r)=false:=by simpa using hk
    by_cases hk':k=r'
    ·subst hk'
     simp[qAL,qA8,e1]
    ·have e2:(k==r')=false:=by simpa using hk'
     simp only[qAL,e1,cond_false,qA8,e2,ih,Bool.false_or]
structure MvOK (b h:List Int) (S f t d p:Int):Prop where
 pp:p=0 \/ p=1
 mov:qAJ b h S f t d (p != 0)=true
 tr:0<=t /\ t<81
 fr:0<=f /\ f<81
 dr:0<=d /\ d<=7
 drop:d≠0->f=0 /\ p=0 /\ 0<hd_ h S d /\ at_ b t=0
theorem ql0 {b h:List Int} (hc:Clean b) {S:Int} (hS:S=0 \/ S=1) {m:List Int} (hm:m∈mvs b h S):∃ f t d p:Int,m=[f,t,d,p] /\ MvOK b h S f t d p:=by
 rw[qQN hc h hS] at hm
 unfold qEk at hm
 rw[List.mem_append] at hm
 rcases hm with hm | hm
 ·obtain⟨f,hf,hm⟩:=List.mem_flatMap.1 hm
  rw[List.mem_range'_1] at hf
  unfold qBD at hm
  split at hm<;>try cases hm
  obtain⟨t,ht,hm⟩:=List.mem_flatMap.1 hm
  rw[List.mem_range'_1] at ht
  unfold rTo at hm
  split at hm<;>try cases hm
  unfold qA0 at hm
  rw[List.mem_append] at hm
  rcases hm with hm | hm
  ·split at hm
   ·rename_i hmv
    rw[List.mem_singleton] at hm
    exact⟨f,t,0,0,hm,.inl rfl,hmv,by omega,by omega,by omega,fun h=>absurd rfl h⟩
   ·cases hm
  ·split at hm
   ·rename_i hmv
    rw[List.mem_singleton] at hm
    exact⟨f,t,0,1,hm,.inr rfl,hmv,by omega,by omega,by omega,fun h=>absurd rfl h⟩
   ·cases hm
 ·obtain⟨k,hk,hm⟩:=List.mem_flatMap.1 hm
  rw[List.mem_range'_1] at hk
  unfold qEl at hm
  split at hm<;>try cases hm
  rename_i hh
  obtain⟨t,ht,hm⟩:=List.mem_flatMap.1 hm
  rw[List.mem_range'_1] at ht
  unfold qCN at hm
  split at hm
  case isFalse=>cases hm
  rename_i hmv
  rw[List.mem_singleton] at hm
  refine⟨0,t,k,0,hm,.inl rfl,hmv,by omega,by omega,by omega,fun h=>⟨rfl,rfl,hh,?_⟩⟩
  have:=hmv
  unfold qAJ qBb at this
  rw[if_pos h] at this
  simp only[Bool.and_eq_true,decide_eq_true_eq] at this
  exact this.1.2.2.2
end Go.Kk.Pl
namespace Go.Kk.Pl
theorem qeR {x:Int} {a c:Nat} (h:qA2 x a c=true):-1<=df a c /\ df a c<=1 /\ -2<=dr a c /\ dr a c<=2 /\ (dr a c=2 \/ dr a c = -2->df a c=1 \/ df a c = -1) /\ ¬ (df a c=0 /\ dr a c=0):=by
 have h:=of_decide_eq_true h
 unfold qB9 at h
 have:upS x a c=dr a c \/ upS x a c = - dr a c:=by unfold upS;split<;>simp
 omega
theorem qNK {x:Int} {a c:Nat} (h:qA2 x a c=true):btw a c=[]:=by
 have hs:=qeR h
 unfold btw
 by_cases hl:qv a c=0
 ·rw[if_pos hl]
 ·rw[if_neg hl]
  have hl:=(qLo a c).mp hl
  unfold qEe at hl
  have:mx a c<=1:=by
   unfold mx
   split<;>omega
  rw[show mx a c - 1=0 by omega]
  rfl
theorem qs6 {x:Int} {a:Nat}:qA2 x a a=false:=by
 cases h:qA2 x a a with
 | false=>rfl
 | true=>exact absurd (qH7 a) (qeR h).2.2.2.2.2
theorem qsP {x:Int} {a:Nat}:qAm x a a=false:=by
 unfold qAm
 have:=qH7 a
 have:upS x a a=0:=by unfold upS;split<;>omega
 rw[decide_eq_false]
 unfold slK
 omega
theorem qZm {x:Int} {a:Nat} {t:Nat->Bool}:rch x a a t=false:=by
 unfold rch;rw[qs6,qsP];rfl
theorem qJb {k c f:Nat} (hk:k<81) (hc:c<81) (h:f∈btw c k):f<81 /\ f≠k /\ f≠c /\ ∃ n:Nat,(qBF (sgn (df k f)) (sgn (dr k f)) k)[n]? = some c /\ ∀ i,(i∈btw c k↔i∈(qBF (sgn (df k f)) (sgn (dr k f)) k).take n):=by
 have hf:f∈btw k c:=qJZ hc hk h
 have hl:qv k c≠0:=by intro h0;unfold btw at hf;rw[if_pos h0] at hf;cases hf
 have:=qLG ⟨k,hk⟩ ⟨c,hc⟩
 simp only[qJf,Bool.or_eq_true,decide_eq_true_eq,Bool.and_eq_true,beq_iff_eq,Bool.not_eq_true'] at this
 obtain⟨e1,e2,e3⟩:=this.resolve_left hl
 have hW:f∈qBF (sgn (df k c)) (sgn (dr k c)) k:=List.mem_of_mem_take (by rw[e1];exact hf)
 have hli:=(qLo k c).mp hl
 have sx:-1<=sgn (df k c) /\ sgn (df k c)<=1:=by unfold sgn;split<;>(try split)<;>omega
 have sy:-1<=sgn (dr k c) /\ sgn (dr k c)<=1:=by unfold sgn;split<;>(try split)<;>omega
 have sn:¬ (sgn (df k c)=0 /\ sgn (dr k c)=0):=by
  unfold qEe at hli
  unfold sgn
  split<;>split<;>(try split)<;>(try split)<;>omega
 have hB:=qVR ⟨((sgn (df k c)+1)*3+(sgn (dr k c)+1)).toNat,by omega⟩ ⟨k,hk⟩
 simp only at hB
 rw[show (((((sgn (df k c)+1)*3+(sgn (dr k c)+1)).toNat / 3:Nat):Int) - 1)=sgn (df k c) by omega,show (((((sgn (df k c)+1)*3+(sgn (dr k c)+1)).toNat % 3:Nat):Int) - 1)=sgn (dr k c) by omega] at hB
 have hB:=hB.resolve_left (by omega)
 unfold qOh at hB
 rw[List.all_eq_true] at hB
 have hB:=hB f hW
 simp only[Bool.and_eq_true,decide_eq_true_eq] at hB
 obtain⟨b1,b2,b3,b4⟩:=hB
 refine⟨b1,?_,?_,(btw k c).length,?_,?_⟩
 ·rintro rfl
  exact b2 (by unfold qv;rw[if_pos rfl])
 ·rintro rfl
  rw[List.contains_iff_mem.mpr hf] at e3
  cases e3
 ·rw[b3,b4];exact e2
 ·intro i
  rw[b3,b4,e1]
  exact⟨qJZ hc hk,qJZ hk hc⟩
theorem qVC {k c c' f:Nat} (hk:k<81) (hc:c<81) (hc':c'<81) (h:f∈btw c k) (h':f∈btw c' k) (hne:c≠c'):c∈btw c' k \/ c'∈btw c k:=by
 obtain⟨_,_,_,n,e,m⟩:=qJb hk hc h
 obtain⟨_,_,_,n',e',m'⟩:=qJb hk hc' h'
 rcases Nat.lt_trichotomy n n' with hn | hn | hn
 ·left
  rw[m',List.mem_iff_getElem?]
  exact⟨n,by rw[List.getElem?_take,if_pos hn];exact e⟩
 ·subst hn
  rw[e] at e'
  exact absurd (Option.some.inj e') hne
 ·right
  rw[m,List.mem_iff_getElem?]
  exact⟨n',by rw[List.getElem?_take,if_pos hn];exact e'⟩
def enm (b:List Int) (s:Int) (c:Nat):Bool:=decide (sd (b.getD c 0)=1 - s)
def atk (b:List Int) (s:Int) (k c:Nat):Bool:=enm b s c&&rch (b.getD c 0) c k (tk b)
def tk2 (b:List Int) (f t i:Nat):Bool:=decide (i=t)||(!decide (i=f)&&tk b i)
def qEP (b:List Int) (s:Int) (k f t c:Nat):Bool:=decide (c≠t)&&(enm b s c&&rch (b.getD c 0) c k (tk2 b f t))
def qAO (b:List Int) (s:Int) (k f c:Nat):Bool:=enm b s c&&(qAm (b.getD c 0) c k&&((btw c k).contains f&&(tk b f&&(decide (sd (b.getD f 0)=s)&&(btw c k).all fun i=>i==f || !tk b i))))
theorem qDR {b:List Int} {s:Int} {k f c:Nat}:qAO b s k f c=true↔enm b s c=true /\ qAm (b.getD c 0) c k=true /\ f∈btw c k /\ tk b f=true /\ sd (b.getD f 0)=s /\ ∀ i∈btw c k,i≠f->tk b i=false:=by
 unfold qAO
 simp only[Bool.and_eq_true,decide_eq_true_eq,List.all_eq_true,Bool.or_eq_true,beq_iff_eq,Bool.not_eq_true',List.contains_iff_mem]
 constructor
 ·rintro ⟨h1,h2,h3,h4,h5,h6⟩
  exact⟨h1,h2,h3,h4,h5,fun i hi hn=>(h6 i hi).resolve_left hn⟩
 ·rintro ⟨h1,h2,h3,h4,h5,h6⟩
  exact⟨h1,h2,h3,h4,h5,fun i hi=>by by_cases hn:i=f;exact .inl hn;exact .inr (h6 i hi hn)⟩
theorem qOz {b:List Int} {s:Int} (hs:s=0 \/ s=1) {c:Nat} (h:enm b s c=true):tk b c=true:=by
 have h:=of_decide_eq_true h
 unfold tk
 rw[decide_eq_true_eq]
 intro h0
 rw[h0,qKX] at h
 omega
theorem qZI {b:List Int} {s:Int} (hs:s=0 \/ s=1) {k f c c':Nat} (hk:k<81) (hc:c<81) (hc':c'<81) (h:qAO b s k f c=true) (h':qAO b s k f c'=true):c=c':=by
 apply Classical.byContradiction
 intro hne
 rw[qDR] at h h'
 rcases qVC hk hc hc' h.2.2.1 h'.2.2.1 hne with hm | hm
 ·have:=h'.2.2.2.2.2 c hm (fun e=>(qJb hk hc h.2.2.1).2.2.1 e.symm)
  rw[qOz hs h.1] at this
  cases this
 ·have:=h.2.2.2.2.2 c' hm (fun e=>(qJb hk hc' h'.2.2.1).2.2.1 e.symm)
  rw[qOz hs h'.1] at this
  cases this
theorem qZJ {b:List Int} {s:Int} {k f f' c:Nat} (h:qAO b s k f c=true) (h':qAO b s k f' c=true):f=f':=by
 apply Classical.byContradiction
 intro hne
 rw[qDR] at h h'
 have:=h'.2.2.2.2.2 f h.2.2.1 hne
 rw[h.2.2.2.1] at this
 cases this
theorem qB5 {x:Int} {a c:Nat} {t:Nat->Bool}:rch x a c t=true↔qA2 x a c=true \/ (qAm x a c=true /\ ∀ i∈btw a c,t i=false):=by
 unfold rch
 rw[Bool.or_eq_true,Bool.and_eq_true,qHy]
theorem qgA {b:List Int} {s:Int} {k f t:Nat} (hf:tk b f=true->sd (b.getD f 0)=s):
  (∀ c,c<81->qEP b s k f t c=false)↔(∀ c,c<81->atk b s k c=true->t=c \/ t∈btw c k) /\ (∀ c,c<81->qAO b s k f c=true->t=c \/ t∈btw c k):=by
 constructor
 ·intro h
  refine⟨fun c hc ha=>?_,fun c hc hp=>?_⟩
  ·apply Classical.byContradiction
   intro hn
   simp only[not_or] at hn
   have:=h c hc
   rw[show qEP b s k f t c=true from ?_] at this
   ·cases this
   ·simp only[atk,Bool.and_eq_true] at ha
    simp only[qEP,Bool.and_eq_true,decide_eq_true_eq]
    refine⟨fun e=>hn.1 e.symm,ha.1,?_⟩
    rw[qB5] at ha ⊢
    refine ha.2.imp id fun hh=>⟨hh.1,fun i hi=>?_⟩
    unfold tk2
    rw[hh.2 i hi,decide_eq_false (p:=i=t) (fun e=>hn.2 (e ▸ hi))]
    simp
  ·apply Classical.byContradiction
   intro hn
   simp only[not_or] at hn
   have:=h c hc
   rw[show qEP b s k f t c=true from ?_] at this
   ·cases this
   ·rw[qDR] at hp
    simp only[qEP,Bool.and_eq_true,decide_eq_true_eq]
    refine⟨fun e=>hn.1 e.symm,hp.1,?_⟩
    rw[qB5]
    refine .inr ⟨hp.2.1,fun i hi=>?_⟩
    unfold tk2
    rw[decide_eq_false (p:=i=t) (fun e=>hn.2 (e ▸ hi))]
    by_cases hif:i=f
    ·simp[hif]
    ·rw[hp.2.2.2.2.2 i hi hif];simp
 ·rintro ⟨h1,h2⟩ c hc
  cases ha:qEP b s k f t c with
  | false=>rfl
  | true=>
    exfalso
    simp only[qEP,Bool.and_eq_true,decide_eq_true_eq] at ha
    obtain⟨hct,he,hr⟩:=ha
    have tt:tk2 b f t t=true:=by unfold tk2;simp
    have out:t ∉ btw c k:=by
     intro hm
     rw[qB5] at hr
     rcases hr with hr | hr
     ·rw[qNK hr] at hm;cases hm
     ·rw[hr.2 t hm] at tt;cases tt
    cases hak:atk b s k c with
    | true=>exact (h1 c hc hak).elim (fun e=>hct e.symm) out
    | false=>
      unfold atk at hak
      rw[he,Bool.true_and] at hak
      have hn:¬ (qA2 (b.getD c 0) c k=true \/ (qAm (b.getD c 0) c k=true /\ ∀ i∈btw c k,tk b i=false)):=by
       rw[<- qB5,hak];simp
      simp only[not_or,not_and] at hn
      rw[qB5] at hr
      have hr:=hr.resolve_left hn.1
      have two:∀ i∈btw c k,i≠f->tk b i=false:=by
       intro i hi hif
       have:=hr.2 i hi
       unfold tk2 at this
       rw[decide_eq_false hif] at this
       simpa using (Bool.or_eq_false_iff.mp this).2
      have hmf:f∈btw c k /\ tk b f=true:=by
       apply Classical.byContradiction
       intro hh
       apply hn.2 hr.1
       intro i hi
       by_cases hif:i=f
       ·subst hif
        cases htk:tk b i with
        | false=>rfl
        | true=>exact absurd ⟨hi,htk⟩ hh
       ·exact two i hi hif
      exact (h2 c hc (qDR.mpr ⟨he,hr.1,hmf.1,hmf.2,hf hmf.2,two⟩)).elim (fun e=>hct e.symm) out
theorem qth {b:List Int} {s:Int} (hs:s=0 \/ s=1) {k c c' t:Nat} (hk:k<81) (hc:c<81) (hc':c'<81) (h:atk b s k c=true) (h':atk b s k c'=true) (hne:c≠c')
  (ht:t=c \/ t∈btw c k) (ht':t=c' \/ t∈btw c' k):False:=by
 have no:∀ {c c':Nat},atk b s k c=true->atk b s k c'=true->c∈btw c' k->False:=by
  intro c c' h h' hm
  simp only[atk,Bool.and_eq_true] at h h'
  rcases qB5.mp h'.2 with hr | hr
  ·rw[qNK hr] at hm;cases hm
  ·have:=hr.2 c hm
   rw[qOz hs h.1] at this;cases this
 rcases ht with rfl | ht
 ·rcases ht' with rfl | ht'
  ·exact hne rfl
  ·exact no h h' ht'
 ·rcases ht' with rfl | ht'
  ·exact no h' h ht
  ·rcases qVC hk hc hc' ht ht' hne with hm | hm
   ·exact no h h' hm
   ·exact no h' h hm
end Go.Kk.Pl
namespace Go.Kk.Pl
theorem qiT {f g:Nat->Bool} (h:∀ i,i<81->f i=g i):qAv f=qAv g:=by
 unfold qAv
 apply List.countP_congr
 intro i hi
 rw[h i (List.mem_range.mp hi)]
theorem qiX:∀ f:Fin 81,qAv (only ((f.val:Nat):Int))=1:=by decide +kernel
theorem qHq {g:Nat->Bool}:qAv g=1 ↔ ∃ f,f<81 /\ ∀ i,i<81->(g i=true↔i=f):=by
 constructor
 ·intro h
  unfold qAv at h
  rw[List.countP_eq_length_filter] at h
  obtain⟨f,hf⟩:=List.length_eq_one_iff.mp h
  have hm:∀ i,i∈(List.range 81).filter g↔i=f:=by rw[hf];simp
  refine⟨f,?_,fun i hi=>?_⟩
  ·have:=(hm f).mpr rfl
   rw[List.mem_filter,List.mem_range] at this
   exact this.1
  ·rw[<- hm i,List.mem_filter,List.mem_range]
   exact⟨fun h=>⟨hi,h⟩,fun h=>h.2⟩
 ·rintro ⟨f,hf,h⟩
  rw[<- qiX ⟨f,hf⟩]
  apply qiT
  intro i hi
  unfold only
  rw[Bool.eq_iff_iff,h i hi,decide_eq_true_eq]
  simp only
  omega
theorem qO9 {g:Nat->Bool} {f:Nat} (hf:f<81) (h:∀ i,i<81->(g i=true↔i=f)):fst g=f:=by
 apply qLZ hf ((h f hf).mpr rfl)
 intro i hi
 cases hg:g i with
 | false=>rfl
 | true=>exact absurd ((h i (by omega)).mp hg) (by omega)
def qEM (k c:Nat) (i:Nat):Bool:=(btw c k).contains i||only c i
def qEj (b:List Int) (s:Int) (k c:Nat):Option Nat:=(List.range 81).find? fun f=>qAO b s k f c
theorem qnV {b:List Int} {s:Int} {k c f:Nat} (h:qAO b s k f c=true) (hf:f<81):qEj b s k c=some f:=by
 unfold qEj
 cases hp:(List.range 81).find? fun f=>qAO b s k f c with
 | none=>
   rw[List.find?_eq_none] at hp
   exact absurd h (hp f (List.mem_range.mpr hf))
 | some f'=>
   have:=List.find?_some hp
   rw[qZJ this h]
theorem qZH {b:List Int} {s:Int} {k c:Nat} (h:∀ f,f<81->qAO b s k f c=false):qEj b s k c=none:=by
 unfold qEj
 rw[List.find?_eq_none]
 intro f hf
 rw[h f (List.mem_range.mp hf)]
 simp
def qBy (b:List Int) (s:Int) (k:Nat) (P:Nat->Bool) (es:List (List Int×List Int)):Prop:=
 ∀ f:Nat,f<81->(qA8 es [(f:Int)]=true ↔ ∃ c,c<81 /\ P c=true /\ qAO b s k f c=true) /\ ∀ c,c<81->P c=true->qAO b s k f c=true->qA7 es [(f:Int)] [0,0]=prS (qEM k c)
theorem qnY {b:List Int} (hcl:Clean b) (h:List Int) (S:Int) {s:Int} (hs:s=0 \/ s=1) {k:Nat} (hk:k<81) (x2:Nat) (x3 x4:Int) (x14:Nat) (x15:List Int) (N:Nat) (L:List Int) {i:Nat} (hi:i<L.length) (hl:L.length<=1000) {c:Nat} (hc:c<81) (hq:L[i]=(c:Int)) (he:enm b s c=true)
  (es:List (List Int×List Int)) (R:Int->Int->Nat->Int->Int->Nat->Int->Int->List Int->List Int->Int->List (List Int)->List (List Int)->List (List Int×List Int)->Nat->List Int->Nat->List Int->Option (Int×Int×Nat×Int×Int×List Int×List Int×Int×List (List Int)×List (List Int)×List (List Int×List Int)×Nat×List Int)):
  qGb R s k x2 x3 x4 L.length L.length i b h S (qI b) (qL b) es x14 x15 N L =
   R s k x2 x3 x4 L.length L.length ((i+1:Nat):Int) b h S (qI b) (qL b) (match qEj b s k c with | none=>es | some f=>qAL es [(f:Int)] (prS (qEM k c))) x14 x15 N L:=by
 unfold qGb
 have hget:L.getD i 0=L[i]:=qGZ hi
 rw[qZ (by omega),qU (by omega) (by omega),tn,hget,hq,qZS hc hk,qA]
 simp only
 rw[qKm hcl,qA]
 simp only
 rw[qFJ,qA]
 simp only
 rw[qOo,qA,w_s (n:=(i:Int)+1) (by omega) (by omega)]
 have inm:∀ f,f<81->qAO b s k f c=true->∀ i,i<81->(((btw c k).contains i&&tk b i)=true↔i=f):=by
  intro f _ hp i _
  rw[qDR] at hp
  rw[Bool.and_eq_true,List.contains_iff_mem]
  constructor
  ·rintro ⟨h1,h2⟩
   apply Classical.byContradiction
   intro hn
   rw[hp.2.2.2.2.2 i h1 hn] at h2;cases h2
  ·rintro rfl;exact⟨hp.2.2.1,hp.2.2.2.1⟩
 by_cases h1:((qAv fun i=>(btw c k).contains i&&tk b i:Nat):Int)=1
 ·rw [qp h1]
  obtain⟨f,hf,hm⟩:=qHq.mp (by omega:(qAv fun i=>(btw c k).contains i&&tk b i)=1)
  have only_f:∀ f',f'<81->qAO b s k f' c=true->f'=f:=fun f' hf' hp=>(hm f' hf').mp ((inm f' hf' hp f' hf').mpr rfl)
  have none':qAO b s k f c=false->qEj b s k c=none:=by
   intro h0
   apply qZH
   intro f' hf'
   cases hp:qAO b s k f' c with
   | false=>rfl
   | true=>rw[only_f f' hf' hp,h0] at hp;cases hp
  have hmf:=(hm f hf).mpr rfl
  rw[Bool.and_eq_true,List.contains_iff_mem] at hmf
  rw[qQa,qA]
  simp only
  rw[qFJ,qA]
  simp only
  rw[qJl,qA]
  by_cases hsd:sd (b.getD f 0)=s
  ·have hE0:isE (fun i=>((btw c k).contains i&&tk b i)&&sdP b s i)=false:=by
    cases hE:isE (fun i=>((btw c k).contains i&&tk b i)&&sdP b s i) with
    | false=>rfl
    | true=>
      have:=qCz.mp hE f hf
      rw[(hm f hf).mpr rfl] at this
      unfold sdP sds at this
      rw[decide_eq_true hs,decide_eq_true hsd] at this
      cases this
   rw[hE0,b_f]
   rw[qO4,qA,qCB,qA,qAd (by omega),tn]
   rw[qO9 hf hm,qA]
   simp only
   rw[qKs,qA]
   simp only
   rw[qMM _ hc,qA]
   simp only
   rw[qEa,qA]
   have hh:∀ g:Nat->Bool,has g (k:Int)=g k:=by
    intro g;unfold has;rw[decide_eq_true (by omega),decide_eq_true (by omega),tn];rfl
   rw[hh]
   cases hr1:rch (b.getD c 0) c k (fun i=>tk b i && !only f i) with
   | false=>
     rw[Bool.not_false,b_t,none' ?_]
     ·rfl
     ·cases hp:qAO b s k f c with
      | false=>rfl
      | true=>
        rw[qDR] at hp
        rw[<- hr1,qB5.mpr (.inr ⟨hp.2.1,?_⟩)]
        intro i hi
        by_cases hif:i=f
        ·subst hif;unfold only;simp
        ·rw[hp.2.2.2.2.2 i hi hif];rfl
   | true =>
     rw[Bool.not_true,b_f,qA,qA]
     simp only
     rw[qMM _ hc,qA]
     simp only
     rw[qEa,qA,hh]
     cases hr2:rch (b.getD c 0) c k (tk b) with
     | true=>
       rw[b_t,none' ?_]
       ·rfl
       ·cases hp:qAO b s k f c with
        | false=>rfl
        | true=>
          rw[qDR] at hp
          rcases qB5.mp hr2 with hr | hr
          ·rw[qNK hr] at hmf;cases hmf.1
          ·rw[hr.2 f hmf.1] at hmf;cases hmf.2
     | false=>
       have hn:¬ (qA2 (b.getD c 0) c k=true \/ (qAm (b.getD c 0) c k=true /\ ∀ i∈btw c k,tk b i=false)):=by
        rw[<- qB5,hr2];simp
       simp only[not_or] at hn
       have hp:qAO b s k f c=true:=by
        rw[qDR]
        refine⟨he,((qB5.mp hr1).resolve_left hn.1).1,hmf.1,hmf.2,hsd,fun i hi hif=>?_⟩
        cases htk:tk b i with
        | false=>rfl
        | true=>
          exact absurd ((hm i (qJa hc hk hi)).mp (by rw[Bool.and_eq_true,List.contains_iff_mem];exact⟨hi,htk⟩)) hif
       rw[b_f,qHU,qA,qnV hp hf]
       rfl
  ·have hE0:isE (fun i=>((btw c k).contains i&&tk b i)&&sdP b s i)=true:=by
    rw[qCz]
    intro i hi
    cases hx:((btw c k).contains i&&tk b i) with
    | false=>rfl
    | true=>
      rw[(hm i hi).mp hx]
      unfold sdP sds
      rw[decide_eq_false hsd];simp
   rw[hE0,b_t,none' ?_]
   ·rfl
   ·cases hp:qAO b s k f c with
    | false=>rfl
    | true=>exact absurd (qDR.mp hp).2.2.2.2.1 hsd
 ·rw [qo h1,qZH ?_]
  ·rfl
  ·intro f hf
   cases hp:qAO b s k f c with
   | false=>rfl
   | true=>
     have:=qHq.mpr ⟨f,hf,inm f hf hp⟩
     omega
theorem qnW {b:List Int} {s:Int} (hs:s=0 \/ s=1) {k:Nat} (hk:k<81) {P:Nat->Bool} {es:List (List Int×List Int)} (hP:qBy b s k P es) {c:Nat} (hc:c<81):
  qBy b s k (fun i=>P i||decide (i=c)) (match qEj b s k c with | none=>es | some f=>qAL es [(f:Int)] (prS (qEM k c))):=by
 cases hp:qEj b s k c with
 | none=>
   unfold qEj at hp
   rw[List.find?_eq_none] at hp
   intro f hf
   have hno:=hp f (List.mem_range.mpr hf)
   obtain⟨h1,h2⟩:=hP f hf
   refine⟨?_,?_⟩
   ·rw[h1]
    constructor
    ·rintro ⟨c',a,a',a''⟩;exact⟨c',a,by simp[a'],a''⟩
    ·rintro ⟨c',a,a',a''⟩
     rw[Bool.or_eq_true,decide_eq_true_eq] at a'
     rcases a' with a' | rfl
     ·exact⟨c',a,a',a''⟩
     ·exact absurd a'' hno
   ·intro c' a a' a''
    rw[Bool.or_eq_true,decide_eq_true_eq] at a'
    rcases a' with a' | rfl
    ·exact h2 c' a a' a''
    ·exact absurd a'' hno
 | some g=>
   have hg:=List.find?_some (show (List.range 81).find? (fun f=>qAO b s k f c)=some g from hp)
   have hg':g<81:=List.mem_range.mp (List.mem_of_find?_eq_some (show (List.range 81).find? (fun f=>qAO b s k f c)=some g from hp))
   intro f hf
   obtain⟨h1,h2⟩:=hP f hf
   simp only
   rw[qkA,qj1]
   by_cases hfg:f=g
   ·subst hfg
    rw[decide_eq_true rfl,if_pos rfl]
    refine⟨⟨fun _=>⟨c,hc,by simp,hg⟩,fun _=>rfl⟩,fun c' a _ a''=>?_⟩
    rw[qZI hs hk hc a hg a'']
   ·have hne:¬ ([(f:Int)]=[(g:Int)]):=by
     intro e
     have:=List.cons.inj e
     omega
    rw[decide_eq_false hne,if_neg hne,Bool.false_or]
    have hno:¬ qAO b s k f c=true:=fun hp'=>hfg (qZJ hp' hg)
    refine⟨?_,?_⟩
    ·rw[h1]
     constructor
     ·rintro ⟨c',a,a',a''⟩;exact⟨c',a,by simp[a'],a''⟩
     ·rintro ⟨c',a,a',a''⟩
      rw[Bool.or_eq_true,decide_eq_true_eq] at a'
      rcases a' with a' | rfl
      ·exact⟨c',a,a',a''⟩
      ·exact absurd a'' hno
    ·intro c' a a' a''
     rw[Bool.or_eq_true,decide_eq_true_eq] at a'
     rcases a' with a' | rfl
     ·exact h2 c' a a' a''
     ·exact absurd a'' hno
theorem qKC {b:List Int} {s:Int} {k:Nat} {P Q:Nat->Bool} {es:List (List Int×List Int)} (h:∀ i,i<81->P i=Q i) (hP:qBy b s k P es):qBy b s k Q es:=by
 intro f hf
 obtain⟨h1,h2⟩:=hP f hf
 refine⟨?_,fun c hc hq=>h2 c hc (by rw[h c hc];exact hq)⟩
 rw[h1]
 constructor
 ·rintro ⟨c,a,a',a''⟩;exact⟨c,a,by rw[<- h c a];exact a',a''⟩
 ·rintro ⟨c,a,a',a''⟩;exact⟨c,a,by rw[h c a];exact a',a''⟩
theorem qnX {b:List Int} (hcl:Clean b) (h:List Int) (S:Int) {s:Int} (hs:s=0 \/ s=1) {k:Nat} (hk:k<81) (x2:Nat) (x3 x4:Int) (x14:Nat) (x15:List Int) (N:Nat) (L:List Int) (hl:L.length<=1000) (hL:∀ q∈L,0<=q /\ q<81 /\ enm b s q.toNat=true):∀ (n i:Nat),i+n=L.length->∀ (P:Nat->Bool) (es:List (List Int×List Int)),qBy b s k P es->
  ∃ es',(∀ F,qFM (F+n+1) s k x2 x3 x4 L.length L.length i b h S (qI b) (qL b) es x14 x15 N L=some (s,(k:Int),x2,x3,x4,b,h,S,qI b,qL b,es',x14,x15)) /\ qBy b s k (fun c=>P c||(L.drop i).contains (c:Int)) es':=by
 intro n
 induction n with
 | zero=>
   intro i hi P es hP
   refine⟨es,fun F=>?_,?_⟩
   ·show qGb (qFM (F+0)) _ _ _ _ _ _ _ _ _ _ _ _ _ _ _ _ _ _=_
    unfold qGb
    rw[qY (by omega)]
   ·rw[List.drop_eq_nil_of_le (by omega)]
    exact qKC (fun i _=>by simp) hP
 | succ n ih=>
   intro i hi P es hP
   have hil:i<L.length:=by omega
   obtain⟨q0,q1,q2⟩:=hL L[i] (List.getElem_mem hil)
   obtain⟨c,hc⟩:∃ c:Nat,L[i]=c:=⟨L[i].toNat,by omega⟩
   rw[hc] at q0 q1 q2
   obtain⟨es',h1,h2⟩:=ih (i+1) (by omega) _ _ (qnW hs hk hP (c:=c) (by omega))
   refine⟨es',fun F=>?_,qKC (fun j _=>?_) h2⟩
   ·show qGb (qFM (F+n+1)) _ _ _ _ _ _ _ _ _ _ _ _ _ _ _ _ _ _=_
    rw[qnY hcl h S hs hk x2 x3 x4 x14 x15 N L hil hl (by omega) hc q2]
    exact h1 F
   ·rw[List.drop_eq_getElem_cons hil,List.contains_cons,hc,Bool.or_assoc]
    congr 2
    rw[Bool.eq_iff_iff,decide_eq_true_eq,beq_iff_eq]
    omega
def qAl:List Int:=[2,6,7,14,15]
theorem qkt {b:List Int} (hcl:Clean b) (h:List Int) (S:Int) {s:Int} (hs:s=0 \/ s=1) {k:Nat} (hk:k<81):∀ (n i:Nat),i+n=5->∀ (P:Nat->Bool) (es:List (List Int×List Int)),qBy b s k P es->
  ∃ es',(∀ F,qFL (F+n+1) s k 5 5 i b h S (qI b) (qL b) es 5 qAl=some (b,h,S,qI b,qL b,es')) /\ qBy b s k (fun c=>P c||(qAl.drop i).any fun x=>pcs b (pc (1 - s) x) c) es':=by
 intro n
 induction n with
 | zero=>
   intro i hi P es hP
   refine⟨es,fun F=>?_,?_⟩
   ·show qHf (qFL (F+0)) _ _ _ _ _ _ _ _ _ _ _ _ _=_
    unfold qHf
    rw[qY (by omega)]
   ·rw[List.drop_eq_nil_of_le (by show 5<=i;omega)]
    exact qKC (fun i _=>by simp) hP
 | succ n ih=>
   intro i hi P es hP
   have hil:i<qAl.length:=by show i<5;omega
   obtain⟨x,hx,hget,hdr⟩:∃ x,(x=2 \/ x=6 \/ x=7 \/ x=14 \/ x=15) /\ qAl.getD i 0=x /\ qAl.drop i=x :: qAl.drop (i+1):=by
    have:∀ j:Fin 5,(qAl.getD j.val 0=2 \/ qAl.getD j.val 0=6 \/ qAl.getD j.val 0=7 \/ qAl.getD j.val 0=14 \/ qAl.getD j.val 0=15) /\ qAl.drop j.val=qAl.getD j.val 0 :: qAl.drop (j.val+1):=by decide
    have:=this ⟨i,hil⟩
    exact⟨qAl.getD i 0,this.1,rfl,this.2⟩
   obtain⟨es1,h1,h2⟩:=qnX hcl h S hs hk 5 5 i 5 qAl (sq (pcs b (pc (1 - s) x))).length (sq (pcs b (pc (1 - s) x))) (by have:=qE7 (pcs b (pc (1 - s) x));omega) (by
    intro q hq
    obtain⟨a,a',a''⟩:=qHK hq
    refine⟨a,a',?_⟩
    have:=of_decide_eq_true a''
    unfold enm
    rw[this.2,(qED (s:=1 - s) (by omega) (k:=x) (by omega) (by omega) (by omega)).1]
    simp) (sq (pcs b (pc (1 - s) x))).length 0 (by omega) P es hP
   obtain⟨es',h3,h4⟩:=ih (i+1) (by omega) _ _ h2
   obtain⟨g,hg⟩:=qe (sq (pcs b (pc (1 - s) x))).length (by have:=qE7 (pcs b (pc (1 - s) x));omega)
   refine⟨es',fun F=>?_,qKC (fun j hj=>?_) h4⟩
   ·show qHf (qFL (F+n+1)) _ _ _ _ _ _ _ _ _ _ _ _ _=_
    unfold qHf
    rw[qZ (by omega),qU (by omega) (by omega),tn,hget,w_s (n:=1 - s) (by omega) (by omega),qGv,qA]
    simp only
    rw[qKh,qA]
    simp only
    have:=h1 g
    rw[<- hg] at this
    rw[show qFM qB s k 5 5 i (sq (pcs b (pc (1 - s) x))).length (Int.ofNat (sq (pcs b (pc (1 - s) x))).length) 0 b h S (qI b) (qL b) es 5 qAl (sq (pcs b (pc (1 - s) x))).length (sq (pcs b (pc (1 - s) x)))=_ from this,qA]
    simp only
    rw[w_s (n:=(i:Int)+1) (by omega) (by omega)]
    exact h3 F
   ·rw[hdr,List.any_cons,List.drop_zero,<- Bool.or_assoc]
    congr 2
    cases hp:pcs b (pc (1 - s) x) j with
    | true=>rw[List.contains_iff_mem.mpr (qYN hj hp)]
    | false=>
      cases hcn:(sq (pcs b (pc (1 - s) x))).contains (j:Int) with
      | false=>rfl
      | true=>
        have:=(qHK (List.contains_iff_mem.mp hcn)).2.2
        rw[tn,hp] at this
        cases this
theorem qsO {b:List Int} {s:Int} (_hs:s=0 \/ s=1) {c k:Nat} (he:enm b s c=true) (h:qAm (b.getD c 0) c k=true):(qAl.any fun x=>pcs b (pc (1 - s) x) c)=true:=by
 have he:=of_decide_eq_true he
 have h:=of_decide_eq_true h
 have hk:kd (b.getD c 0)=2 \/ kd (b.getD c 0)=6 \/ kd (b.getD c 0)=7 \/ kd (b.getD c 0)=14 \/ kd (b.getD c 0)=15:=by
  unfold slK at h;omega
 have hx:=qMB (x:=b.getD c 0) (by omega)
 rw[List.any_eq_true]
 refine⟨kd (b.getD c 0),?_,?_⟩
 ·unfold qAl
  rcases hk with h | h | h | h | h<;>rw[h]<;>simp
 ·unfold pcs
  rw[decide_eq_true_eq,<- he,<- hx]
  refine⟨fun h0=>?_,rfl⟩
  rw[h0,qFm] at hk
  omega
theorem qna {b:List Int} (hcl:Clean b) (h:List Int) (S:Int) {s:Int} (hs:s=0 \/ s=1):∃ es,qHd s b h S (qI b) (qL b)=some es /\
  (kg b s<0->es=[]) /\ (0<=kg b s->qBy b s (kg b s).toNat (fun c=>enm b s c&&(qAl.any fun x=>pcs b (pc (1 - s) x) c)) es):=by
 have hr:=qWX (pcs b (pc s 8))
 unfold qHd
 rw[qPp,show fst (pcs b (pc s 8))=kg b s from rfl,qA]
 by_cases hk:kg b s<0
 ·rw[qZ hk]
  exact⟨[],rfl,fun _=>rfl,fun h=>by omega⟩
 ·rw [qY hk]
  have hk1:kg b s<81:=hr.2
  obtain⟨k,hkk⟩:∃ k:Nat,kg b s=k:=⟨(kg b s).toNat,by omega⟩
  rw[hkk]
  have h0:qBy b s k (fun _=>false) []:=by
   intro f hf
   exact⟨⟨fun h=>(by cases h),fun⟨_,_,h,_⟩=>(by cases h)⟩,fun _ _ h=>(by cases h)⟩
  obtain⟨es,h1,h2⟩:=qkt hcl h S hs (k:=k) (by omega) 5 0 rfl _ [] h0
  obtain⟨g,hg⟩:=qe 5 (by omega)
  have:=h1 g
  rw[<- hg] at this
  refine⟨es,?_,fun h=>by omega,fun _=>?_⟩
  ·rw[show qFL qB s k 5 5 0 b h S (qI b) (qL b) [] 5 [2,6,7,14,15]=_ from this,qA]
  ·rw[tn]
   refine qKC (fun i _=>?_) h2
   rw[List.drop_zero,Bool.false_or]
   cases ha:(qAl.any fun x=>pcs b (pc (1 - s) x) i) with
   | false=>simp
   | true=>
     rw[List.any_eq_true] at ha
     obtain⟨x,hx,hp⟩:=ha
     have:=of_decide_eq_true hp
     unfold qAl at hx
     have hx':x=2 \/ x=6 \/ x=7 \/ x=14 \/ x=15:=by simpa using hx
     unfold enm
     rw[this.2,(qED (s:=1 - s) (by omega) (k:=x) (by omega) (by omega) (by omega)).1]
     simp
end Go.Kk.Pl
namespace Go.Kk.Pl
def laid (b:List Int) (s f d:Int) (p:Bool):Int:=if d≠0 then 16*s+d else if p=true then 16*s+up_ (kd (at_ b f)) else at_ b f
def was (b:List Int) (s f d:Int):Int:=if d≠0 then 16*s+d else at_ b f
def mb (b:List Int) (s f t d:Int) (p:Bool):List Int:=if d≠0 then put b t (laid b s f d p) else put (put b f 0) t (laid b s f d p)
def mh (b h:List Int) (s t d:Int):List Int:=if d≠0 then qw h s d (-1) else if at_ b t=0 then h else qw h s (rw_ (kd (at_ b t))) 1
def qD1 (K:Int) (b h:List Int) (s f t d:Int) (p:Bool):Int:=qLh (if d≠0 then qBC (qEc K h s d (-1)) b t (laid b s f d p) else
 if at_ b t=0 then qBC (qBC K b f 0) (put b f 0) t (laid b s f d p) else qEc (qBC (qBC K b f 0) (put b f 0) t (laid b s f d p)) h s (rw_ (kd (at_ b t))) 1)
theorem qGR {k:Int} (h:up_ k≠0):1<=up_ k /\ up_ k<=15 /\ up_ k≠13:=by
 unfold up_ at h ⊢
 split
 ·omega
 ·rename_i h2;rw[if_neg h2] at h;exact absurd rfl h
theorem qld {b:List Int} (hc:Clean b) (h:List Int) {s:Int} (hs:s=0 \/ s=1) (f t d:Int) (p:Bool):∃ c,(∀ K n by_ sides m st,qDq f t d p K n b h s by_ sides m st=some c) /\
  ((c=false /\ ∀ K n by_ sides m st,qCb f t d p K n b h s by_ sides m st=some (.inl (false,K,n,b,h,s,by_,sides,m,st))) \/
   (c=true /\ CanP b h s f t d p /\ ∀ K n by_ sides m st,(n+1)*40<=140737488355328->∃ by' sides',qCb f t d p K n b h s by_ sides m st =
    some (.inr (true,qD1 K b h s f t d p,n+1,mb b s f t d p,mh b h s t d,1 - s,by',sides',n+1,List.append (List.take n st) [[f,t,d,bi p,at_ b t,was b s f d]])))):=by
 obtain⟨c,hcan,hP⟩:=qVJ b h hs f t d p
 refine⟨c,hcan,?_⟩
 cases c with
 | false=>
   refine .inl ⟨rfl,fun K n by_ sides m st=>?_⟩
   unfold qCb
   rw[hcan,qA,qD (by rfl)]
 | true=>
   have hP:=hP rfl
   refine .inr ⟨rfl,hP,fun K n by_ sides m st hn=>?_⟩
   have hn':decide ((n+1)*40<=140737488355328)=true:=by simpa using hn
   unfold qCb
   rw[hcan,qA,qH (by rfl),qCB,qA]
   by_cases hd:d=0
   ·obtain⟨f0,f1,f2,g1,g2,g3,g4⟩:=hP.move hd
    rw[qH (by simpa using hd),qCB,qA]
    have hx:∀ {α:Type} (k:Int->Option α),(br p (ob (qAB (at_ b f)) fun a16=>ob (qC6 a16) fun a17=>ob (qAz s a17) k) (k (at_ b f)))=k (laid b s f d p):=by
     intro α k
     unfold laid
     rw[if_neg (by simpa using hd)]
     cases p with
     | false=>rfl
     | true=>
       obtain⟨u1,u2,u3⟩:=qGR (g4 rfl)
       rw[qD rfl,qAk,qA,qHS,qA,qGw hs u1 u2 u3,qA,if_pos rfl]
    obtain⟨by1,sides1,p1⟩:=qPS hc f 0 K n h s by_ sides m st
    obtain⟨by2,sides2,p2⟩:=qPS (hc.put f 0) t (laid b s f d p) (qBC K b f 0) n h s by1 sides1 m st
    have tail:∃ by' sides',(br (at_ b t != 0)
      (ob (qAB (at_ b t)) fun a37=>
      ob (qC5 a37) fun a38=>
      ob (qDK s a38 1 (qBC (qBC K b f 0) (put b f 0) t (laid b s f d p)) n (put (put b f 0) t (laid b s f d p)) h s by2 sides2 m st) fun (a39_0,a39_1,a39_2,a39_3,a39_4,a39_5,a39_6,a39_7,a39_8)=>
      ob (qCG a39_0 a39_1 a39_2 a39_3 a39_4 a39_5 a39_6 a39_7 a39_8) fun (a48_0,a48_1,a48_2,a48_3,a48_4,a48_5,a48_6,_,a48_8)=>
      br (decide ((a48_1+1)*40<=140737488355328))
       (some (Sum.inr (true,a48_0,a48_1+1,a48_2,a48_3,a48_4,a48_5,a48_6,a48_1+1,List.append (List.take a48_1 a48_8) [[f,t,d,bi p,at_ b t,at_ b f]])))
       (none))
      (ob (qCG (qBC (qBC K b f 0) (put b f 0) t (laid b s f d p)) n (put (put b f 0) t (laid b s f d p)) h s by2 sides2 m st) fun (a37_0,a37_1,a37_2,a37_3,a37_4,a37_5,a37_6,_,a37_8)=>
      br (decide ((a37_1+1)*40<=140737488355328))
       (some (Sum.inr (true,a37_0,a37_1+1,a37_2,a37_3,a37_4,a37_5,a37_6,a37_1+1,List.append (List.take a37_1 a37_8) [[f,t,d,bi p,at_ b t,at_ b f]])))
       (none)):Option ((Bool×Int×Nat×List Int×List Int×Int×List (List Int)×List (List Int)×Nat×List (List Int))⊕(Bool×Int×Nat×List Int×List Int×Int×List (List Int)×List (List Int)×Nat×List (List Int)))) =
      some (.inr (true,qD1 K b h s f t d p,n+1,mb b s f t d p,mh b h s t d,1 - s,by',sides',n+1,List.append (List.take n st) [[f,t,d,bi p,at_ b t,was b s f d]])):=by
     refine⟨by2,sides2,?_⟩
     unfold qD1 mb mh was
     by_cases ht:at_ b t=0
     ·rw[qH (by simpa using ht),qGq hs,qA]
      simp only
      rw[qD hn']
      simp[hd,ht]
     ·have hk:=(hc.at_ t).resolve_left ht
      obtain⟨r1,r2⟩:=qG9 hk g3
      obtain⟨k1,k2,k3⟩:=qBg (at_ b t)
      rw[qD (by simpa using ht),qAk,qA,qML k1 k2,qA,qH8 hs r1 r2 1 (.inl rfl),qA]
      simp only
      rw[qGq hs,qA]
      simp only
      rw[qD hn']
      simp[hd,ht]
    obtain⟨by',sides',ht⟩:=tail
    refine⟨by',sides',Eq.trans ?_ ht⟩
    cases p with
    | true=>
      have hx:=hx (fun a18=>ob (qBI f 0 K n b h s by_ sides m st) fun (a19_0,a19_1,a19_2,a19_3,a19_4,a19_5,a19_6,a19_7,a19_8)=>
       ob (qBI t a18 a19_0 a19_1 a19_2 a19_3 a19_4 a19_5 a19_6 a19_7 a19_8) fun r=>some r)
      rw[qD rfl] at hx ⊢
      obtain⟨u1,u2,u3⟩:=qGR (g4 rfl)
      have hl:laid b s f d true=16*s+up_ (kd (at_ b f)):=by unfold laid;rw[if_neg (by simpa using hd),if_pos rfl]
      rw[qAk,qA,qHS,qA,qGw hs u1 u2 u3,qA,p1,qA]
      simp only
      rw[<- hl,p2,qA]
    | false=>
      have hl:laid b s f d false=at_ b f:=by unfold laid;rw[if_neg (by simpa using hd),if_neg (by simp)]
      rw[qH rfl,p1,qA]
      simp only
      rw[hl] at p2 ⊢
      rw[p2,qA]
   ·obtain⟨d0,d1,d2,d3,g1,g2⟩:=hP.drop hd
    have hl:laid b s f d p=16*s+d:=by unfold laid;rw[if_pos hd]
    have e1:qAz s d=some (laid b s f d p):=by rw[hl];exact qGw hs (by omega) (by omega) (by omega)
    obtain⟨by1,sides1,p1⟩:=qPS hc t (laid b s f d p) (qEc K h s d (-1)) n (qw h s d (-1)) s by_ sides m st
    refine⟨by1,sides1,?_⟩
    rw[qD (by simpa using hd),e1,qA,qH8 hs (by omega) d1 (-1) (.inr rfl),qA]
    simp only
    rw[p1,qA]
    simp only
    rw[qGq hs,qA]
    simp only
    rw[qD hn']
    unfold qD1 mb mh was
    simp only[if_pos hd,hl]
end Go.Kk.Pl
namespace Go.Kk.Pl
theorem qmA {b:List Int} (hc:Clean b) (h:List Int) (s:Int):∀ (n i:Nat),i+n=81->∀ (B:List Int) (by_ sides:List (List Int)),Clean B->(∀ j,j<i->B.getD j 0=b.getD j 0)->
  ∃ by' sides',∀ f,qCD (f+n+1) b i B h s by_ sides=some (b,h,s,by',sides'):=by
 intro n
 induction n with
 | zero=>
   intro i hi B by_ sides hB hj
   have e:B=b:=by
    refine List.ext_getElem (by rw[hB.len,hc.len]) fun j h1 h2=>?_
    have:=hj j (by have:=hB.len;omega)
    rwa [List.getD_eq_getElem?_getD,List.getD_eq_getElem?_getD,List.getElem?_eq_getElem h1,List.getElem?_eq_getElem h2] at this
   subst e
   refine⟨by_,sides,fun f=>?_⟩
   show qDn (qCD (f+0)) _ _ _ _ _ _ _=_
   unfold qDn
   rw[qH (by simp;omega)]
 | succ n ih=>
   intro i hi B by_ sides hB hj
   have hz:Int.toNat (i:Int)=i:=by simp
   obtain⟨by1,sides1,p1⟩:=qZO hB i (b.getD i 0) h s by_ sides
   obtain⟨by',sides',h2⟩:=ih (i+1) (by omega) (put B i (b.getD i 0)) by1 sides1 (hB.put _ _) (by
    intro j hji
    unfold put
    rw[if_pos (by omega),hz]
    by_cases e:i=j
    ·subst e
     rw[List.getD_eq_getElem?_getD,List.getElem?_set_self (by rw[hB.len];omega),Option.getD_some]
     split
     ·rename_i hk
      rcases hc.ok i (by omega) with h0 | h0
      ·exact h0.symm
      ·exact absurd hk h0
     ·rfl
    ·rw[List.getD_eq_getElem?_getD,List.getElem?_set_ne e,<- List.getD_eq_getElem?_getD]
     exact hj j (by omega))
   refine⟨by',sides',fun f=>?_⟩
   show qDn (qCD (f+n+1)) _ _ _ _ _ _ _=_
   unfold qDn
   simp only[cond_true,hz]
   rw[qD (by simp;omega),qD (qx (by omega) (by omega)),p1,qA]
   simp only
   rw[qAN (by omega) (by omega)]
   exact h2 f
theorem qiQ:Clean (List.replicate 81 0):=⟨by simp,fun i hi=>.inl (by rw[List.getD_eq_getElem?_getD,List.getElem?_replicate,if_pos hi];rfl)⟩
theorem qgw {b:List Int} (hc:Clean b) (h:List Int) (s:Int):∃ by_ sides,qBz b h s=some (b,h,s,by_,sides):=by
 obtain⟨g,hg⟩:=qe 81 (by omega)
 obtain⟨by',sides',h1⟩:=qmA hc h s 81 0 (by omega) (List.replicate 81 0) (List.replicate 32 [0,0]) [[0,0],[0,0]] qiQ (fun j hj=>by omega)
 have h1:=h1 g
 rw[<- hg] at h1
 have h1:qCD qB b 0 (List.replicate 81 0) h s (List.replicate 32 [0,0]) [[0,0],[0,0]]=some (b,h,s,by',sides'):=h1
 refine⟨by',sides',?_⟩
 unfold qBz
 show ob (qCD qB b 0 (List.replicate 81 0) h s (List.replicate 32 [0,0]) [[0,0],[0,0]]) _=_
 rw[h1,qA]
def kof (b h:List Int) (s:Int):Int:=(qDv b h s).getD 0
theorem qXc (b h:List Int) (s:Int):qDv b h s=some (kof b h s):=by
 obtain⟨k,hk,_⟩:=qXZ b h s
 unfold kof;rw[hk];rfl
theorem qj5 {b:List Int} (hc:Clean b) (h:List Int) (s:Int):∃ by_ sides,qFZ b h s=some (kof b h s,0,b,h,s,by_,sides,0,[]):=by
 obtain⟨by_,sides,h1⟩:=qgw hc h s
 refine⟨by_,sides,?_⟩
 unfold qFZ
 rw[h1,qA]
 simp only
 rw[qXc,qA]
end Go.Kk.Pl
namespace Go.Kk.Pl
def dl (x k:Int):Int:=if rw_ (kd x)=k then 1 else 0
theorem qEU (x:Int) (l:List Int) (k:Int):(cnt (x :: l) k:Int)=cnt l k+dl x k:=by
 unfold cnt dl
 rw[List.countP_cons]
 by_cases h:rw_ (kd x)=k
 ·simp[h]
 ·have:(rw_ (kd x)==k)=false:=by simpa using h
  simp[h]
theorem qiY (x k:Int):∀ (l:List Int) (i:Nat),i<l.length->(cnt (l.set i x) k:Int)+dl (l.getD i 0) k=cnt l k+dl x k:=by
 intro l
 induction l with
 | nil=>intro i hi;simp at hi
 | cons y l ih=>
   intro i hi
   cases i with
   | zero=>
     simp only[List.set_cons_zero,qEU,List.getD_cons_zero]
     omega
   | succ i=>
     have:=ih i (by simpa using hi)
     simp only[List.set_cons_succ,qEU,List.getD_cons_succ]
     omega
theorem qkP (x:Int):kd (if kd x=0 then 0 else x)=kd x:=by
 split
 ·rename_i h;rw[h];exact qFm
 ·rfl
theorem qOl {b:List Int} (hl:b.length=81) {q:Int} (hq:0<=q /\ q<81) (x k:Int):(cnt (put b q x) k:Int)+dl (at_ b q) k=cnt b k+dl x k:=by
 unfold put at_
 rw[if_pos hq,if_pos hq]
 have:=qiY (if kd x=0 then 0 else x) k b q.toNat (by omega)
 have e:dl (if kd x=0 then 0 else x) k=dl x k:=by unfold dl;rw[qkP]
 rw[e] at this
 exact this
theorem qOw {k:Int} (h:1<=k):dl 0 k=0:=by
 unfold dl
 rw[if_neg]
 rw[qFm]
 unfold rw_
 rw[if_pos (by omega)]
 omega
theorem qGV {n:Int} (h1:-128<=n) (h2:n<=127):IntKind.wrap .i8 n=n:=qCU h1 h2
theorem quJ (n:Int):-128<=IntKind.wrap .i8 n /\ IntKind.wrap .i8 n<=127:=by
 simp[IntKind.wrap,IntKind.signed,IntKind.bits]
 omega
theorem qPV (h:List Int) (s k d:Int):(qw h s k d).length=h.length:=by simp[qw]
theorem qWQ {h:List Int} (hf:qAb h) (s k d:Int):qAb (qw h s k d):=by
 intro i
 unfold qw
 by_cases e:s.toNat*8+k.toNat=i
 ·by_cases hi:i<h.length
  ·subst e
   rw[List.getD_eq_getElem?_getD,List.getElem?_set_self hi]
   exact quJ _
  ·rw[List.getD_eq_getElem?_getD,List.getElem?_eq_none (by simpa using hi)]
   simp
 ·rw[List.getD_eq_getElem?_getD,List.getElem?_set_ne e,<- List.getD_eq_getElem?_getD]
  exact hf i
theorem qFi {h:List Int} (hl:h.length=16) {s k:Int} (hs:s=0 \/ s=1) (k0:0<=k) (k1:k<8) (d:Int) {s' k':Int} (hs':s'=0 \/ s'=1) (k0':0<=k') (k1':k'<8):
  hd_ (qw h s k d) s' k'=if s'=s /\ k'=k then IntKind.wrap .i8 (hd_ h s k+d) else hd_ h s' k':=by
 by_cases e:s'=s /\ k'=k
 ·obtain⟨rfl,rfl⟩:=e
  rw[if_pos ⟨rfl,rfl⟩]
  unfold qw
  rw[show hd_ (h.set (s'.toNat*8+k'.toNat) (IntKind.wrap .i8 (hd_ h s' k'+d))) s' k'=(h.set (s'.toNat*8+k'.toNat) (IntKind.wrap .i8 (hd_ h s' k'+d))).getD (s'.toNat*8+k'.toNat) 0 from rfl,
   List.getD_eq_getElem?_getD,List.getElem?_set_self (by rcases hs' with rfl | rfl<;>simp<;>omega)]
  rfl
 ·rw[if_neg e]
  unfold qw hd_
  rw[List.getD_eq_getElem?_getD,List.getElem?_set_ne (by rcases hs with rfl | rfl<;>rcases hs' with rfl | rfl<;>simp<;>omega),<- List.getD_eq_getElem?_getD]
theorem qHv {h:List Int} (hf:qAb h) (s k:Int):-128<=hd_ h s k /\ hd_ h s k<=127:=hf _
theorem qqp {k:Int} (h1:1<=k) (h2:k<8):rw_ k=k:=by
 unfold rw_
 rw[if_neg (by omega),if_neg (by omega)]
theorem qqq {k:Int} (h:up_ k≠0):rw_ (up_ k)=rw_ k:=by
 unfold up_ at h ⊢
 split
 ·unfold rw_
  rw[if_neg (by omega),if_pos (by omega),if_neg (by omega),if_neg (by omega)]
  omega
 ·rename_i h2;rw[if_neg h2] at h;exact absurd rfl h
theorem qnU {b h:List Int} {s:Int} (hS:Sound b h s) (hf:qAb h) (hl:h.length=16) {f t d:Int} {p:Bool} (hP:CanP b h s f t d p) {k:Int} (k0:1<=k) (k1:k<8):
  (cnt (mb b s f t d p) k:Int)+hd_ (mh b h s t d) 0 k+hd_ (mh b h s t d) 1 k=cnt b k+hd_ h 0 k+hd_ h 1 k:=by
 have hsd:=hS.side
 by_cases hd:d=0
 ·obtain⟨f0,f1,f2,g1,g2,g3,g4⟩:=hP.move hd
  unfold mb mh
  rw[if_neg (by simpa using hd),if_neg (by simpa using hd)]
  have c1:=qOl hS.clean.len ⟨f0,f1⟩ 0 k
  have c2:=qOl (hS.clean.put f 0).len hP.to_ (laid b s f d p) k
  have e1:at_ (put b f 0) t=at_ b t:=by rw[qDi hS.clean.len ⟨f0,f1⟩,if_neg (Ne.symm f2)]
  rw[e1] at c2
  rw[qOw k0] at c1
  have e2:dl (laid b s f d p) k=dl (at_ b f) k:=by
   unfold laid
   rw[if_neg (by simpa using hd)]
   cases p with
   | false=>rfl
   | true=>
     have hu:=g4 rfl
     obtain⟨u1,u2,u3⟩:=qGR hu
     rw[if_pos rfl]
     unfold dl
     rw[qIB hsd u1 u2 u3,qqq hu]
  rw[e2] at c2
  by_cases ht:at_ b t=0
  ·rw[if_pos ht]
   rw[ht,qOw k0] at c2
   omega
  ·rw[if_neg ht]
   have hk:=(hS.clean.at_ t).resolve_left ht
   obtain⟨r1,r2⟩:=qG9 hk g3
   have hc:=hS.counts _ r1 r2
   have h0:=hS.hands (rw_ (kd (at_ b t))) (by omega) r2
   rw[qFi hl hsd (by omega) r2 1 (.inl rfl) (by omega) k1,qFi hl hsd (by omega) r2 1 (.inr rfl) (by omega) k1]
   by_cases hkr:k=rw_ (kd (at_ b t))
   ·have e3:dl (at_ b t) k=1:=by unfold dl;rw[if_pos hkr.symm]
    rw[e3] at c2
    rcases hsd with rfl | rfl
    ·rw[if_pos ⟨rfl,hkr⟩,if_neg (by omega),qGV (by omega) (by omega),<- hkr]
     omega
    ·rw[if_neg (by omega),if_pos ⟨rfl,hkr⟩,qGV (by omega) (by omega),<- hkr]
     omega
   ·have e3:dl (at_ b t) k=0:=by unfold dl;rw[if_neg (Ne.symm hkr)]
    rw[e3] at c2
    rw[if_neg (fun h=>hkr h.2),if_neg (fun h=>hkr h.2)]
    omega
 ·obtain⟨d0,d1,d2,d3,g1,g2⟩:=hP.drop hd
  unfold mb mh
  rw[if_pos hd,if_pos hd]
  have c1:=qOl hS.clean.len hP.to_ (laid b s f d p) k
  have hl':laid b s f d p=16*s+d:=by unfold laid;rw[if_pos hd]
  rw[g2,qOw k0,hl'] at c1
  rw[hl']
  have hb:=qHv hf s d
  rw[qFi hl hsd (by omega) d1 (-1) (.inl rfl) (by omega) k1,qFi hl hsd (by omega) d1 (-1) (.inr rfl) (by omega) k1]
  have e3:dl (16*s+d) k=if d=k then 1 else 0:=by
   unfold dl
   rw[qIB hsd (by omega) (by omega) (by omega),qqp (by omega) d1]
  rw[e3] at c1
  by_cases hkd:k=d
  ·subst hkd
   rw[if_pos rfl] at c1
   rcases hsd with rfl | rfl
   ·rw[if_pos ⟨rfl,rfl⟩,if_neg (by omega),qGV (by omega) (by omega)]
    omega
   ·rw[if_neg (by omega),if_pos ⟨rfl,rfl⟩,qGV (by omega) (by omega)]
    omega
  ·rw[if_neg (Ne.symm hkd)] at c1
   rw[if_neg (fun h=>hkd h.2),if_neg (fun h=>hkd h.2)]
   omega
theorem qQE {b:List Int} (hc:Clean b) (s f t d:Int) (p:Bool):Clean (mb b s f t d p):=by
 unfold mb
 split
 ·exact hc.put _ _
 ·exact (hc.put _ _).put _ _
theorem qlk {h:List Int} (hf:qAb h) (b:List Int) (s t d:Int):qAb (mh b h s t d):=by
 unfold mh
 split
 ·exact qWQ hf _ _ _
 ·split
  ·exact hf
  ·exact qWQ hf _ _ _
theorem qll {h:List Int} (hl:h.length=16) (b:List Int) (s t d:Int):(mh b h s t d).length=16:=by
 unfold mh
 split
 ·rw[qPV];exact hl
 ·split
  ·exact hl
  ·rw[qPV];exact hl
end Go.Kk.Pl
namespace Go.Kk.Pl
theorem canP {b h:List Int} {s f t d:Int} {p:Bool} (hm:qBb b h s f t d p=true):(s=0 \/ s=1) /\ CanP b h s f t d p:=by
 unfold qBb at hm
 rw[Bool.and_eq_true,Bool.and_eq_true,decide_eq_true_eq,decide_eq_true_eq] at hm
 obtain⟨h1,hs,h2⟩:=hm
 obtain⟨ht,hd,hmv⟩:=qLH h1
 refine⟨hs,ht,fun d0=>?_,fun d0=>?_⟩
 ·rw[if_pos d0] at h2
  simp only[Bool.and_eq_true,decide_eq_true_eq] at h2
  have:=hd d0
  exact⟨by omega,by omega,this.2.2.1,this.2.2.2,by omega,h2.2⟩
 ·rw[if_neg (by simpa using d0)] at h2
  simp only[Bool.and_eq_true,decide_eq_true_eq,Bool.or_eq_true,Bool.not_eq_true'] at h2
  obtain⟨h3,h4⟩:=hmv d0
  exact⟨h3.1,h3.2,h4,h2.1.1,h2.1.2.1,h2.1.2.2,fun hp=>by
   rcases h2.2 with h5 | h5
   ·rw[hp] at h5;cases h5
   ·exact h5⟩
theorem qFt {b h:List Int} {s f t d:Int} {p:Bool} (hm:qAJ b h s f t d p=true):(s=0 \/ s=1) /\ CanP b h s f t d p:=by
 unfold qAJ at hm
 rw[Bool.and_eq_true] at hm
 exact canP hm.1
theorem qPZ {x s:Int} (hs:s=0 \/ s=1) (h:sd x=s):kd x≠0:=by
 intro h0
 rw[qcP h0] at h
 omega
theorem qFo {b h:List Int} {s f t d:Int} {p:Bool} (hs:s=0 \/ s=1) (hP:CanP b h s f t d p):sd (laid b s f d p)=s /\ kd (laid b s f d p)≠0 /\ (laid b s f d p=pc s 8↔d=0 /\ at_ b f=pc s 8):=by
 unfold laid
 by_cases hd:d=0
 ·have hm:=hP.move hd
  rw[if_neg (by simpa using hd)]
  cases p with
  | false=>
    rw[if_neg (by simp)]
    exact⟨hm.2.2.2.1,qPZ hs hm.2.2.2.1,fun h=>⟨hd,h⟩,fun h=>h.2⟩
  | true=>
    rw[if_pos rfl]
    have hu:=hm.2.2.2.2.2.2 rfl
    obtain⟨u1,u2,u3⟩:=qGR hu
    have hx:=qED hs u1 u2 u3
    rw[qAy hs u1 u2 u3] at hx
    have u8:up_ (kd (at_ b f))≠8:=by unfold up_;split<;>omega
    refine⟨hx.1,by rw[hx.2];omega,fun h=>?_,fun h=>?_⟩
    ·rw[qAy hs (by omega) (by omega) (by omega)] at h
     omega
    ·exfalso
     apply hu
     rw[h.2,(qED hs (by omega) (by omega) (by omega)).2]
     rfl
 ·have hm:=hP.drop hd
  rw[if_pos hd]
  have hx:=qED hs (k:=d) (by omega) (by omega) (by omega)
  rw[qAy hs (by omega) (by omega) (by omega)] at hx
  refine⟨hx.1,by rw[hx.2];exact hd,fun h=>?_,fun h=>absurd h.1 hd⟩
  rw[qAy hs (by omega) (by omega) (by omega)] at h
  omega
theorem qEf {b h:List Int} {s f t d:Int} {p:Bool} (hc:Clean b) (hs:s=0 \/ s=1) (hP:CanP b h s f t d p) {i:Nat} (hi:i<81):
  (mb b s f t d p).getD i 0=if i=t.toNat then laid b s f d p else if d=0 /\ i=f.toNat then 0 else b.getD i 0:=by
 have ht:=hP.to_
 have hl:=(qFo hs hP).2.1
 have e1:(mb b s f t d p).getD i 0=at_ (mb b s f t d p) i:=by rw[qAd (by omega),tn]
 have e2:b.getD i 0=at_ b i:=by rw[qAd (by omega),tn]
 rw[e1,e2]
 unfold mb
 by_cases hd:d=0
 ·have hm:=hP.move hd
  rw[if_neg (by simpa using hd),qDi (hc.put f 0).1 ht,if_neg hl,qDi hc.1 ⟨hm.1,hm.2.1⟩]
  by_cases h1:i=t.toNat
  ·rw[if_pos (c:=(i:Int)=t) (by omega),if_pos h1]
  ·rw[if_neg (c:=(i:Int)=t) (by omega),if_neg h1]
   by_cases h2:i=f.toNat
   ·rw[if_pos (c:=(i:Int)=f) (by omega),if_pos (c:=d=0 /\ i=f.toNat) ⟨hd,h2⟩];rfl
   ·rw[if_neg (c:=(i:Int)=f) (by omega),if_neg (fun h=>h2 h.2)]
 ·rw[if_pos hd,qDi hc.1 ht,if_neg hl]
  by_cases h1:i=t.toNat
  ·rw[if_pos h1,if_pos (by omega)]
  ·rw[if_neg h1,if_neg (by omega),if_neg (fun h=>hd h.1)]
def KS (b:List Int) (s:Int) (k:Nat):Prop:=k<81 /\ ∀ i,i<81->(b.getD i 0=pc s 8↔i=k)
theorem pc8 {s:Int} (hs:s=0 \/ s=1):pc s 8=16*s+8:=qAy hs (by omega) (by omega) (by omega)
theorem KS.kg {b:List Int} {s:Int} {k:Nat} (hs:s=0 \/ s=1) (h:KS b s k):kg b s=k:=by
 apply qO9 h.1
 intro i hi
 unfold pcs
 rw[decide_eq_true_eq,h.2 i hi,pc8 hs]
 exact⟨fun h=>h.2,fun h=>⟨by omega,h⟩⟩
theorem qLg {b h:List Int} {s':Int} (hz:qA5 b h s'=0) {s:Int} (hs:s=0 \/ s=1):∃ k,KS b s k:=by
 have hn:nP b 8=1 /\ nP b 24=1:=by
  unfold qA5 at hz
  split at hz
  ·omega
  ·split at hz
   ·omega
   ·split at hz
    ·omega
    ·split at hz
     ·omega
     ·rename_i h;simpa using h
 have:nP b (pc s 8)=1:=by
  rw[pc8 hs]
  rcases hs with rfl | rfl
  ·exact hn.1
  ·exact hn.2
 obtain⟨k,hk,h⟩:=qHq.mp (show qAv (fun i=>b.getD i 0==pc s 8)=1 from this)
 exact⟨k,hk,fun i hi=>by rw[<- h i hi,beq_iff_eq]⟩
theorem KS.sd {b:List Int} {s:Int} {k:Nat} (hs:s=0 \/ s=1) (h:KS b s k):sd (b.getD k 0)=s /\ kd (b.getD k 0)=8:=by
 rw[(h.2 k h.1).mpr rfl]
 exact qED hs (by omega) (by omega) (by omega)
theorem qPq {b h:List Int} {s f t d:Int} {p:Bool} (hc:Clean b) (hs:s=0 \/ s=1) (hP:CanP b h s f t d p) {k:Nat} (hk:KS b s k):
  KS (mb b s f t d p) s (if d=0 /\ f.toNat=k then t.toNat else k):=by
 have ht:=hP.to_
 have hl:=qFo hs hP
 have hkt:k≠t.toNat:=by
  intro e
  have h1:=(hk.sd hs)
  have e2:b.getD k 0=at_ b t:=by rw[qAd ht,e]
  rw[e2] at h1
  by_cases hd:d=0
  ·exact (hP.move hd).2.2.2.2.1 h1.1
  ·rw[(hP.drop hd).2.2.2.2.2,qFm] at h1
   omega
 have hp0:(0:Int)≠pc s 8:=by rw[pc8 hs];omega
 refine⟨by split;omega;exact hk.1,fun i hi=>?_⟩
 rw[qEf hc hs hP hi]
 by_cases h1:i=t.toNat
 ·rw[if_pos h1,hl.2.2]
  by_cases hd:d=0
  ·have hm:=hP.move hd
   rw[qAd ⟨hm.1,hm.2.1⟩,hk.2 _ (by omega)]
   by_cases hfk:f.toNat=k
   ·rw[if_pos ⟨hd,hfk⟩];exact⟨fun _=>h1,fun _=>⟨hd,hfk⟩⟩
   ·rw[if_neg (fun h=>hfk h.2)]
    exact⟨fun h=>absurd h.2 hfk,fun h=>absurd (h.symm.trans h1) hkt⟩
  ·rw[if_neg (fun h=>hd h.1)]
   exact⟨fun h=>absurd h.1 hd,fun h=>absurd (h.symm.trans h1) hkt⟩
 ·rw[if_neg h1]
  by_cases h2:d=0 /\ i=f.toNat
  ·rw[if_pos h2]
   refine⟨fun h=>absurd h hp0,fun h=>?_⟩
   split at h
   ·exact absurd h h1
   ·rename_i h3;exact absurd ⟨h2.1,by omega⟩ h3
  ·rw[if_neg h2,hk.2 i hi]
   split
   ·rename_i h3
    exact⟨fun h=>absurd ⟨h3.1,by omega⟩ h2,fun h=>absurd h h1⟩
   ·exact Iff.rfl
theorem qLf {b h:List Int} {s f t d:Int} {p:Bool} (hc:Clean b) (hs:s=0 \/ s=1) (hP:CanP b h s f t d p) {k:Nat} (hk:KS b (1 - s) k):
  KS (mb b s f t d p) (1 - s) k:=by
 have ht:=hP.to_
 have hl:=qFo hs hP
 have hs':1 - s=0 \/ 1 - s=1:=by omega
 have hkt:k≠t.toNat:=by
  intro e
  have h1:=(hk.sd hs')
  have e2:b.getD k 0=at_ b t:=by rw[qAd ht,e]
  rw[e2] at h1
  by_cases hd:d=0
  ·exact (hP.move hd).2.2.2.2.2.1 h1.2
  ·rw[(hP.drop hd).2.2.2.2.2,qFm] at h1
   omega
 have hp0:(0:Int)≠pc (1 - s) 8:=by rw[pc8 hs'];omega
 refine⟨hk.1,fun i hi=>?_⟩
 rw[qEf hc hs hP hi]
 by_cases h1:i=t.toNat
 ·rw[if_pos h1]
  refine⟨fun h=>?_,fun h=>absurd (h.symm.trans h1) hkt⟩
  have:=hl.1
  rw[h,(qED hs' (by omega) (by omega) (by omega)).1] at this
  omega
 ·rw[if_neg h1]
  by_cases h2:d=0 /\ i=f.toNat
  ·rw[if_pos h2]
   refine⟨fun h=>absurd h hp0,fun h=>?_⟩
   have hm:=hP.move h2.1
   have h3:=(hk.sd hs').1
   rw[<- h,h2.2,<- qAd ⟨hm.1,hm.2.1⟩,hm.2.2.2.1] at h3
   omega
  ·rw[if_neg h2]
   exact hk.2 i hi
theorem qFX {b:List Int} {s:Int} (hs:s=0 \/ s=1) {k:Nat} (hk:kg b s=k) (h81:k<81) (c:Nat):chs b s c=atk b s k c:=by
 unfold chs onS atk enm
 rw[hk,decide_eq_true (by omega),decide_eq_true (by omega),tn]
 rfl
def fof (f t d:Int):Nat:=if d=0 then f.toNat else t.toNat
theorem qS4 {b h:List Int} {s f t d:Int} {p:Bool} (hc:Clean b) (hs:s=0 \/ s=1) (hP:CanP b h s f t d p) {i:Nat} (hi:i<81):tk (mb b s f t d p) i=tk2 b (fof f t d) t.toNat i:=by
 have hl:=qFo hs hP
 unfold tk tk2 fof
 rw[qEf hc hs hP hi]
 by_cases h1:i=t.toNat
 ·rw[if_pos h1,decide_eq_true h1,Bool.true_or,decide_eq_true_eq]
  intro h0
  rw[h0,qFm] at hl
  exact hl.2.1 rfl
 ·rw[if_neg h1,decide_eq_false h1,Bool.false_or]
  by_cases hd:d=0
  ·rw[if_pos hd]
   by_cases h2:i=f.toNat
   ·rw[if_pos ⟨hd,h2⟩,decide_eq_true h2];simp
   ·rw[if_neg (fun h=>h2 h.2),decide_eq_false h2];rfl
  ·rw[if_neg hd,if_neg (fun h=>hd h.1),decide_eq_false h1];rfl
theorem qWB {b h:List Int} {s f t d:Int} {p:Bool} (hc:Clean b) (hs:s=0 \/ s=1) (hP:CanP b h s f t d p) {c:Nat} (hcc:c<81):enm (mb b s f t d p) s c=(decide (c≠t.toNat)&&enm b s c) /\ (enm (mb b s f t d p) s c=true->(mb b s f t d p).getD c 0=b.getD c 0):=by
 have hl:=qFo hs hP
 unfold enm
 rw[qEf hc hs hP hcc]
 by_cases h1:c=t.toNat
 ·rw[if_pos h1,hl.1,decide_eq_false (p:=s=1 - s) (by omega),decide_eq_false (p:=c≠t.toNat) (by simpa using h1)]
  exact⟨rfl,fun h=>by cases h⟩
 ·rw[if_neg h1,decide_eq_true (p:=c≠t.toNat) h1,Bool.true_and]
  by_cases h2:d=0 /\ c=f.toNat
  ·rw[if_pos h2,qKX]
   have hm:=hP.move h2.1
   rw[h2.2,<- qAd ⟨hm.1,hm.2.1⟩,hm.2.2.2.1,decide_eq_false (p:=(-1:Int)=1 - s) (by omega),decide_eq_false (p:=s=1 - s) (by omega)]
   exact⟨rfl,fun h=>by cases h⟩
  ·rw[if_neg h2]
   exact⟨rfl,fun _=>rfl⟩
theorem qVT {b h:List Int} {s f t d:Int} {p:Bool} (hc:Clean b) (hs:s=0 \/ s=1) (hP:CanP b h s f t d p) {k:Nat} (hk:KS b s k) (hn:¬ (d=0 /\ f.toNat=k)) {c:Nat} (hcc:c<81):
  chs (mb b s f t d p) s c=qEP b s k (fof f t d) t.toNat c:=by
 have hk2:=qPq hc hs hP hk
 rw[if_neg hn] at hk2
 rw[qFX hs (hk2.kg hs) hk.1]
 obtain⟨e1,e2⟩:=qWB hc hs hP hcc
 unfold atk qEP
 cases he:enm (mb b s f t d p) s c with
 | false=>
   rw[he] at e1
   rw[Bool.false_and,<- Bool.and_assoc,<- e1,Bool.false_and]
 | true=>
   rw[<- Bool.and_assoc,<- e1,he,Bool.true_and,Bool.true_and,e2 he]
   exact qZl hcc hk.1 (fun i hi=>qS4 hc hs hP hi)
theorem qVS {b h:List Int} {s f t d:Int} {p:Bool} (hc:Clean b) (hs:s=0 \/ s=1) (hP:CanP b h s f t d p) {k:Nat} (hk:KS b s k) (hn:d=0 /\ f.toNat=k) {c:Nat} (hcc:c<81):
  chs (mb b s f t d p) s c=onS b t (1 - s) (fun i=>tk b i && !only f i) c:=by
 have hk2:=qPq hc hs hP hk
 have ht:=hP.to_
 have hm:=hP.move hn.1
 rw[if_pos hn] at hk2
 rw[qFX hs (hk2.kg hs) hk2.1]
 obtain⟨e1,e2⟩:=qWB hc hs hP hcc
 unfold atk onS
 rw[decide_eq_true ht,decide_eq_true (p:=1 - s=0 \/ 1 - s=1) (by omega),Bool.true_and,Bool.true_and]
 show _=(enm b s c&&_)
 by_cases h1:c=t.toNat
 ·rw[e1,decide_eq_false (p:=c≠t.toNat) (by simpa using h1),<- h1,qZm,qZm,Bool.and_false,Bool.and_false]
 ·rw [decide_eq_true (p:=c≠t.toNat) h1,Bool.true_and] at e1
  rw[e1]
  cases he:enm b s c with
  | false=>rfl
  | true=>
    rw[e2 (by rw[e1,he]),Bool.true_and,Bool.true_and,Bool.eq_iff_iff,qB5,qB5]
    have:∀ i∈btw c t.toNat,tk (mb b s f t d p) i=(tk b i && !only f i):=by
     intro i hi
     have hw:=qJb (by omega) hcc hi
     rw[qS4 hc hs hP hw.1]
     unfold tk2 fof only
     rw[decide_eq_false hw.2.1,if_pos hn.1,Bool.false_or,Bool.and_comm]
     congr 2
     rw[decide_eq_decide]
     omega
    constructor
    ·rintro (h | ⟨h,h'⟩)
     ·exact .inl h
     ·exact .inr ⟨h,fun i hi=>by rw[<- this i hi];exact h' i hi⟩
    ·rintro (h | ⟨h,h'⟩)
     ·exact .inl h
     ·exact .inr ⟨h,fun i hi=>by rw[this i hi];exact h' i hi⟩
def qr (b:List Int) (s:Int) (t:Nat):Bool:=(List.range 81).all fun c=>!chs b s c||qEM (kg b s).toNat c t
def qG0 (b:List Int) (s:Int) (f t:Nat):Bool:=(List.range 81).all fun c=>!qAO b s (kg b s).toNat f c||qEM (kg b s).toNat c t
def stB (b:List Int) (s:Int) (f t:Nat):Bool:=if (f:Int)=kg b s then isE (onS b t (1 - s) (fun i=>tk b i && !only f i)) else qr b s t&&qG0 b s f t
theorem qKr {k c t:Nat}:qEM k c t=true↔t=c \/ t∈btw c k:=by
 unfold qEM only
 rw[Bool.or_eq_true,List.contains_iff_mem,decide_eq_true_eq]
 constructor
 ·rintro (h | h)
  ·exact .inr h
  ·exact .inl (by omega)
 ·rintro (h | h)
  ·exact .inr (by omega)
  ·exact .inl h
theorem qKA {b:List Int} {s:Int} (hs:s=0 \/ s=1) {k:Nat} (hk:KS b s k) {t:Nat}:qr b s t=true ↔ ∀ c,c<81->atk b s k c=true->t=c \/ t∈btw c k:=by
 have hkg:=hk.kg hs
 unfold qr
 rw[List.all_eq_true,hkg,tn]
 constructor
 ·intro h c hc ha
  have:=h c (List.mem_range.mpr hc)
  rw[qFX hs hkg hk.1,ha,Bool.not_true,Bool.false_or] at this
  exact qKr.mp this
 ·intro h c hc
  rw[qFX hs hkg hk.1]
  cases ha:atk b s k c with
  | false=>rfl
  | true=>
    rw[Bool.not_true,Bool.false_or]
    exact qKr.mpr (h c (List.mem_range.mp hc) ha)
theorem qMF {b:List Int} {s:Int} (hs:s=0 \/ s=1) {k:Nat} (hk:KS b s k) {f t:Nat}:qG0 b s f t=true ↔ ∀ c,c<81->qAO b s k f c=true->t=c \/ t∈btw c k:=by
 unfold qG0
 rw[List.all_eq_true,hk.kg hs,tn]
 constructor
 ·intro h c hc ha
  have:=h c (List.mem_range.mpr hc)
  rw[ha,Bool.not_true,Bool.false_or] at this
  exact qKr.mp this
 ·intro h c hc
  cases ha:qAO b s k f c with
  | false=>rfl
  | true=>
    rw[Bool.not_true,Bool.false_or]
    exact qKr.mpr (h c (List.mem_range.mp hc) ha)
theorem qMn {b h:List Int} {s f t d:Int} {p:Bool} (hc:Clean b) (hs:s=0 \/ s=1) (hP:CanP b h s f t d p) {k:Nat} (hk:KS b s k):
  (!inC (mb b s f t d p) s)=if d=0 then stB b s f.toNat t.toNat else qr b s t.toNat:=by
 have ht:=hP.to_
 unfold inC
 rw[Bool.not_not]
 by_cases hn:d=0 /\ f.toNat=k
 ·have hm:=hP.move hn.1
  rw[if_pos hn.1]
  unfold stB
  rw[if_pos (by rw[hk.kg hs,hn.2]),Bool.eq_iff_iff,qCz,qCz,show ((t.toNat:Nat):Int)=t by omega,show ((f.toNat:Nat):Int)=f by omega]
  constructor
  ·intro h i hi;rw[<- qVS hc hs hP hk hn hi];exact h i hi
  ·intro h i hi;rw[qVS hc hs hP hk hn hi];exact h i hi
 ·have hf:tk b (fof f t d)=true->sd (b.getD (fof f t d) 0)=s:=by
   unfold fof
   intro htk
   by_cases hd:d=0
   ·have hm:=hP.move hd
    rw[if_pos hd,<- qAd ⟨hm.1,hm.2.1⟩]
    exact hm.2.2.2.1
   ·rw[if_neg hd] at htk
    unfold tk at htk
    rw[<- qAd ht,(hP.drop hd).2.2.2.2.2] at htk
    simp at htk
  have key:=qgA (b:=b) (s:=s) (k:=k) (f:=fof f t d) (t:=t.toNat) hf
  have e:isE (chs (mb b s f t d p) s)=(qr b s t.toNat&&qG0 b s (fof f t d) t.toNat):=by
   rw[Bool.eq_iff_iff,qCz,Bool.and_eq_true,qKA hs hk,qMF hs hk,<- key]
   constructor
   ·intro h c hcc;rw[<- qVT hc hs hP hk hn hcc];exact h c hcc
   ·intro h c hcc;rw[qVT hc hs hP hk hn hcc];exact h c hcc
  rw[e]
  by_cases hd:d=0
  ·rw[if_pos hd]
   unfold stB
   have hm:=hP.move hd
   rw[if_neg (by rw[hk.kg hs];intro e;exact hn ⟨hd,by omega⟩)]
   unfold fof
   rw[if_pos hd]
  ·rw[if_neg hd]
   have:qG0 b s (fof f t d) t.toNat=true:=by
    rw[qMF hs hk]
    intro c _ hp
    have:=(qDR.mp hp).2.2.2.1
    unfold fof tk at this
    rw[if_neg hd,<- qAd ht,(hP.drop hd).2.2.2.2.2] at this
    simp at this
   rw[this,Bool.and_true]
theorem rw0:rw_ (kd 0)=0:=by decide
theorem qlh {b:List Int} {s f t:Int} {p:Bool} {h:List Int} (hs:s=0 \/ s=1) (hP:CanP b h s f t 0 p):mb b s f t 0 p=(b.set t.toNat (laid b s f 0 p)).set f.toNat 0:=by
 have hm:=hP.move rfl
 have ht:=hP.to_
 unfold mb put
 rw[if_neg (by simp),if_pos ht,if_pos ⟨hm.1,hm.2.1⟩,if_neg (qFo hs hP).2.1,show (if kd 0=0 then (0:Int) else 0)=0 by simp]
 exact List.set_comm _ _ (by omega)
theorem qQd {b h:List Int} {s f t d:Int} {p:Bool} (hc:Clean b) (hs:s=0 \/ s=1) (hP:CanP b h s f t d p):qF7 b h s f t d p=some (mb b s f t d p,mh b h s t d,1 - s):=by
 have ht:=hP.to_
 have hw:IntKind.wrap .i8 (1 - s)=1 - s:=w_8 (by omega) (by omega)
 have hin:br (inB s 2)=fun (x y:Option (List Int×List Int×Int))=>x:=by
  funext x y;exact qU (by omega) (by omega)
 have hint:br (inB t 81)=fun (x y:Option (List Int×List Int×Int))=>x:=by
  funext x y;exact qU (by omega) (by omega)
 unfold qF7
 simp only[hin,hint]
 by_cases hd:d=0
 ·subst hd
  have hm:=hP.move rfl
  have hinf:br (inB f 81)=fun (x y:Option (List Int×List Int×Int))=>x:=by
   funext x y;exact qU (by omega) (by omega)
  have hbf:at_ b f=16*s+kd (at_ b f):=by
   have h1:=qMB (qPZ hs hm.2.2.2.1)
   have h2:=qBg (at_ b f)
   have h3:=qPZ hs hm.2.2.2.1
   rw[hm.2.2.2.1,qAy hs (by omega) (by omega) (by omega)] at h1
   exact h1
  have hbb:=qBg (at_ b f)
  have hfin:∀ p',p'=p->br p'
    (some (List.set (List.set (List.set b (Int.toNat t) (List.getD b (Int.toNat f) 0)) (Int.toNat t) (IntKind.wrap IntKind.i8 (List.getD (List.set b (Int.toNat t) (List.getD b (Int.toNat f) 0)) (Int.toNat t) 0+8))) (Int.toNat f) 0))
    (some (List.set (List.set b (Int.toNat t) (List.getD b (Int.toNat f) 0)) (Int.toNat f) 0))=some (mb b s f t 0 p):=by
   rintro p' rfl
   rw[qlh hs hP]
   unfold laid
   rw[if_neg (by simp),<- qAd ⟨hm.1,hm.2.1⟩]
   cases p' with
   | false=>rfl
   | true=>
     have hu:=hm.2.2.2.2.2.2 rfl
     rw[b_t,qGp (by rw[hc.1];omega),if_pos rfl,if_pos rfl,List.set_set]
     have:up_ (kd (at_ b f))=kd (at_ b f)+8:=by
      unfold up_ at hu ⊢
      split
      ·rfl
      ·rename_i h;rw[if_neg h] at hu;exact absurd rfl hu
     rw[w_8 (by omega) (by omega),this,show at_ b f+8=16*s+(kd (at_ b f)+8) by omega]
  rw[qp rfl,qBp,qA,qb9,qA]
  simp only[hinf,c_8,<- qAd (b:=b) ht,hw]
  unfold mh
  rw[if_neg (by simp)]
  by_cases h0:at_ b t=0
  ·rw[if_pos h0,h0,rw0,qp rfl]
   have:=hfin p rfl
   cases p with
   | false=>rw[b_f] at this ⊢;rw[Option.some.inj this]
   | true=>rw[b_t] at this ⊢;rw[Option.some.inj this]
  ·rw[if_neg h0]
   have hr:=qG9 ((hc.at_ t).resolve_left h0) hm.2.2.2.2.2.1
   have hinr:br (inB (rw_ (kd (at_ b t))) 8)=fun (x y:Option (List Int×List Int×Int))=>x:=by
    funext x y;exact qU (by omega) (by omega)
   rw[qo (by omega)]
   simp only[hinr]
   have:=hfin p rfl
   cases p with
   | false=>rw[b_f] at this ⊢;rw[Option.some.inj this];rfl
   | true=>rw[b_t] at this ⊢;rw[Option.some.inj this];rfl
 ·have hm:=hP.drop hd
  have hind:br (inB d 8)=fun (x y:Option (List Int×List Int×Int))=>x:=by
   funext x y;exact qU (by omega) (by omega)
  simp only[hind]
  have hx:=(qFo hs hP).2.1
  unfold laid at hx
  rw[if_pos hd] at hx
  rw[qo hd,hw,w_s (n:=16*s) (by omega) (by omega),w_s (n:=16*s+d) (by omega) (by omega)]
  unfold mb mh put laid
  rw[if_pos hd,if_pos hd,if_pos ht,if_pos hd,if_neg hx]
  have:conv IntKind.i64 IntKind.i8 (16*s+d)=16*s+d:=by
   unfold conv;exact w_8 (by omega) (by omega)
  rw[this]
  rfl
end Go.Kk.Pl
