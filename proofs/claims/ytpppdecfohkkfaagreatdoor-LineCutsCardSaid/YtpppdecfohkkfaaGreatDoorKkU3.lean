/- What the program's functions come to, told plainly: the texts of this project that this claim leans on, cut down to what is used. -/
import Derived.Test.YtpppdecfohkkfaaGreatDoorKkU2
import Derived.Test.YtpppdecfohkkfaaGreatDoorKkU1
namespace Go.Kk.Pl
theorem qBu {α:Type} {x y:α} {a b:Nat} (h:a<=b):br (decide (a<=b)) x y=x:=qG (by simpa using h)
theorem tkA {α:Type} {n:Nat} {L:List α} (h:n=L.length) (M:List α):List.append (List.take n L) M=L++M:=by
 subst h;rw[List.take_length];rfl
theorem qff {α:Type} {n:Nat} {L:List α} {m:α} (h:n=L.length) (M:List α):List.append (List.take (n+1) (L++[m])) M=L++m :: M:=by
 rw[tkA (by simp[h])];simp
def qAC (x f t:Int):List (List Int):=(if qDF x t then [] else [[f,t,0,0]])++(if qCx x f t then [[f,t,0,1]] else [])
theorem qn0 (x f t:Int):(qAC x f t).length<=2:=by
 unfold qAC;split<;>split<;>simp
theorem qHN {α β:Type} (g:α->List β) (k:Nat) (L:List α) (h:∀ a∈L,(g a).length<=k):(L.flatMap g).length<=k*L.length:=by
 induction L with
 | nil=>simp
 | cons a L ih=>
   rw[List.flatMap_cons,List.length_append,List.length_cons,Nat.mul_succ]
   have:=h a (by simp)
   have:=ih fun x hx=>h x (by simp[hx])
   omega
theorem quM (x f:Int) (T:List Int) (S:Int) (N1:Nat) (a5 a6:Int) (b h:List Int) (S':Int) (by' sd':List (List Int)) (u v k1 k2:Int) (N2:Nat) (L2:List Int) (N3:Nat) (hT:T.length<=1000):∀ (n i:Nat),i+n=T.length->∀ (L:List (List Int)) (x0 x17:Nat),x0=L.length->x17=L.length->L.length<=1000000 - 2*n->∀ F,
  qFC (F+n+1) x0 S f x N1 a5 a6 T.length T.length i b h S' by' sd' u v x17 L k1 k2 N2 L2 N3 T =
   some ((L++(T.drop i).flatMap (qAC x f)).length,S,N1,a5,a6,b,h,S',by',sd',u,v,(L++(T.drop i).flatMap (qAC x f)).length,L++(T.drop i).flatMap (qAC x f),k1,k2,N2,L2):=by
 intro n
 induction n with
 | zero=>
   intro i hi L x0 x17 h0 h17 hb F
   show qHT (qFC (F+0)) _ _ _ _ _ _ _ _ _ _ _ _ _ _ _ _ _ _ _ _ _ _ _ _ _=_
   unfold qHT
   rw[qW (by omega),List.drop_eq_nil_of_le (by omega)]
   simp only[List.flatMap_nil,List.append_nil,h0,h17]
 | succ n ih=>
   intro i hi L x0 x17 h0 h17 hb F
   show qHT (qFC (F+n+1)) _ _ _ _ _ _ _ _ _ _ _ _ _ _ _ _ _ _ _ _ _ _ _ _ _=_
   unfold qHT
   have hil:i<T.length:=by omega
   have hget:T.getD i 0=T[i]:=qF1 hil
   have hd:T.drop i=T[i] :: T.drop (i+1):=List.drop_eq_getElem_cons hil
   rw[qe (by omega),qc (by omega) (by omega),tn,hget,qor,qA]
   simp only
   rw[w_s (by omega) (by omega),hd,List.flatMap_cons,<- List.append_assoc]
   rw[tkA h0,tkA h0,qff h0]
   have hi1:i+1+n=T.length:=by omega
   have ih':=ih (i+1) hi1
   cases hm:qDF x T[i] with
   | false=>
     rw[Bool.not_false,b_t,qBu (by omega)]
     cases hy:qCx x f T[i] with
     | true=>
       rw[b_t,qBu (by omega)]
       have:=ih' (L++qAC x f T[i]) (x0+1+1) (x0+1+1) (by simp[qAC,hm,hy,h0]) (by simp[qAC,hm,hy,h0]) (by simp[qAC,hm,hy];omega) F
       rw[<- this]
       simp[qAC,hm,hy]
     | false=>
       rw[b_f]
       have:=ih' (L++qAC x f T[i]) (x0+1) (x0+1) (by simp[qAC,hm,hy,h0]) (by simp[qAC,hm,hy,h0]) (by simp[qAC,hm,hy];omega) F
       rw[<- this]
       simp[qAC,hm,hy]
   | true=>
     rw[Bool.not_true,b_f]
     cases hy:qCx x f T[i] with
     | true=>
       rw[b_t,qBu (by omega)]
       have:=ih' (L++qAC x f T[i]) (x0+1) (x0+1) (by simp[qAC,hm,hy,h0]) (by simp[qAC,hm,hy,h0]) (by simp[qAC,hm,hy];omega) F
       rw[<- this]
       simp[qAC,hm,hy]
     | false=>
       rw[b_f]
       have:=ih' (L++qAC x f T[i]) x0 x17 (by simp[qAC,hm,hy,h0]) (by simp[qAC,hm,hy,h17]) (by simp[qAC,hm,hy];omega) F
       rw[<- this]
       simp[qAC,hm,hy]
def kgs (b:List Int) (c:Nat):Bool:=pcs b (pc 0 8) c||pcs b (pc 1 8) c
def qBh (b:List Int) (S:Int) (G:Nat->Bool) (f:Nat) (c:Nat):Bool:=((rch (b.getD f 0) f c (tk b) && !sdP b S c) && !kgs b c)&&G c
def qCX (b:List Int) (S:Int) (G:Nat->Bool) (f:Int):List (List Int):=(sq (qBh b S G f.toNat)).flatMap (qAC (b.getD f.toNat 0) f)
def qu (b:List Int) (S:Int) (G:Nat->Bool):List (List Int):=(sq (sdP b S)).flatMap (qCX b S G)
theorem qZE (b:List Int) (S:Int) (G:Nat->Bool) (f:Int):(qCX b S G f).length<=162:=by
 unfold qCX
 have:=qHN (qAC (b.getD f.toNat 0) f) 2 (sq (qBh b S G f.toNat)) fun a _=>qn0 _ _ _
 have:=qEl (qBh b S G f.toNat)
 omega
theorem qiH {b:List Int} (hc:Clean b) (h:List Int) (S:Int) (G:Nat->Bool) (T:List Int) (hT:T.length<=1000) (hTr:∀ q∈T,0<=q /\ q<81) (N:Nat):∀ (n i:Nat),i+n=T.length->∀ (L:List (List Int)) (x0 x17:Nat),x0=L.length->x17=L.length->L.length<=900000 - 200*n->∀ F,
  qFB (F+n+1) x0 S T.length T.length i b h S (qP b) (qS b) (sLo G) (sHi G) x17 L (sLo (kgs b)) (sHi (kgs b)) N T =
   some ((L++(T.drop i).flatMap (qCX b S G)).length,b,h,S,qP b,qS b,(L++(T.drop i).flatMap (qCX b S G)).length,L++(T.drop i).flatMap (qCX b S G)):=by
 intro n
 induction n with
 | zero=>
   intro i hi L x0 x17 h0 h17 hb F
   show qHS (qFB (F+0)) _ _ _ _ _ _ _ _ _ _ _ _ _ _ _ _ _ _=_
   unfold qHS
   rw[qW (by omega),List.drop_eq_nil_of_le (by omega)]
   simp only[List.flatMap_nil,List.append_nil,h0,h17]
 | succ n ih=>
   intro i hi L x0 x17 h0 h17 hb F
   show qHS (qFB (F+n+1)) _ _ _ _ _ _ _ _ _ _ _ _ _ _ _ _ _ _=_
   unfold qHS
   have hil:i<T.length:=by omega
   have hget:T.getD i 0=T[i]:=qF1 hil
   have hd:T.drop i=T[i] :: T.drop (i+1):=List.drop_eq_getElem_cons hil
   obtain⟨q0,q1⟩:=hTr T[i] (List.getElem_mem hil)
   obtain⟨q,hq⟩:∃ q:Nat,T[i]=q:=⟨T[i].toNat,by omega⟩
   have hat:at_ b T[i]=b.getD q 0:=by rw[qAa ⟨q0,q1⟩,hq,tn]
   rw[qe (by omega),qc (by omega) (by omega),tn,hget,qC5,qA,qJ7 hc,qA]
   simp only
   rw[hat,hq,qL3 _ (by omega),qA]
   simp only
   rw[qQa,qA]
   simp only
   rw[qLX,qA]
   simp only
   rw[qLX,qA]
   simp only
   rw[qEu,qA]
   simp only
   rw[qJ1,qA]
   simp only
   rw[show (fun i=>((rch (b.getD q 0) q i (tk b) && !sdP b S i) && !kgs b i)&&G i)=qBh b S G q from rfl]
   have hlen:=qEl (qBh b S G q)
   obtain⟨g,hg⟩:=qh (sq (qBh b S G q)).length (by omega)
   have:=quM (b.getD q 0) q (sq (qBh b S G q)) S T.length T.length i b h S (qP b) (qS b) (sLo G) (sHi G) (sLo (kgs b)) (sHi (kgs b)) N T (sq (qBh b S G q)).length (by omega) (sq (qBh b S G q)).length 0 (by omega) L x0 x17 h0 h17 (by omega) g
   rw[<- hg] at this
   rw[show qFC qB x0 S q (b.getD q 0) T.length T.length i (sq (qBh b S G q)).length (Int.ofNat (sq (qBh b S G q)).length) 0 b h S (qP b) (qS b) (sLo G) (sHi G) x17 L (sLo (kgs b)) (sHi (kgs b)) N T (sq (qBh b S G q)).length (sq (qBh b S G q))=_ from this,qA]
   simp only
   have e:(List.drop 0 (sq (qBh b S G q))).flatMap (qAC (b.getD q 0) q)=qCX b S G T[i]:=by
    unfold qCX;rw[hq,tn,List.drop_zero]
   have hl2:=qZE b S G T[i]
   rw[e,w_s (by omega) (by omega),hd,List.flatMap_cons,<- List.append_assoc]
   exact ih (i+1) (by omega) (L++qCX b S G T[i]) _ _ rfl rfl (by rw[List.length_append];omega) F
theorem qWX {b:List Int} (hc:Clean b) (h:List Int) (S:Int) (G:Nat->Bool):qHQ (sLo G) (sHi G) b h S (qP b) (qS b)=some ((qu b S G).length,(qu b S G).length,qu b S G):=by
 unfold qHQ
 rw[qGS,qA]
 simp only
 rw[qGS,qA]
 simp only
 rw[qHw,qA]
 simp only
 rw[qQa,qA]
 simp only
 rw[qJ1,qA]
 simp only
 have hlen:=qEl (sdP b S)
 obtain⟨g,hg⟩:=qh (sq (sdP b S)).length (by omega)
 have:=qiH hc h S G (sq (sdP b S)) (by omega) (fun q hq=>⟨(qGq hq).1,(qGq hq).2.1⟩) (sq (sdP b S)).length (sq (sdP b S)).length 0 (by omega) [] 0 0 rfl rfl (by simp only[List.length_nil];omega) g
 rw[<- hg] at this
 rw[show qFB qB 0 S (sq (sdP b S)).length (Int.ofNat (sq (sdP b S)).length) 0 b h S (qP b) (qS b) (sLo G) (sHi G) 0 [] (sLo fun i=>pcs b (pc 0 8) i||pcs b (pc 1 8) i) (sHi fun i=>pcs b (pc 0 8) i||pcs b (pc 1 8) i) (sq (sdP b S)).length (sq (sdP b S))=_ from this,qA]
 rfl
def qBk (b h:List Int) (S:Int) (G:Nat->Bool) (k:Nat):List (List Int):=if hdP h S k<1 then [] else (sq fun i=>qAv b S k i&&G i).map fun t=>[0,t,(k:Int),0]
def qAP (b h:List Int) (S:Int) (G:Nat->Bool):List (List Int):=(List.range' 1 7).flatMap (qBk b h S G)
theorem qZF (b h:List Int) (S:Int) (G:Nat->Bool) (k:Nat):(qBk b h S G k).length<=81:=by
 unfold qBk
 split
 ·simp
 ·rw[List.length_map];exact qEl _
theorem quN (k:Int) (T:List Int) (S:Int) (b h:List Int) (S':Int) (by' sd':List (List Int)) (u v:Int) (N3:Nat) (hT:T.length<=1000):∀ (n i:Nat),i+n=T.length->∀ (L:List (List Int)) (x0 x17:Nat),x0=L.length->x17=L.length->L.length<=1000000 - 2*n->∀ F,
  qFE (F+n+1) x0 S k T.length T.length i b h S' by' sd' u v x17 L N3 T =
   some ((L++(T.drop i).map fun t=>[0,t,k,0]).length,S,k,b,h,S',by',sd',u,v,(L++(T.drop i).map fun t=>[0,t,k,0]).length,L++(T.drop i).map fun t=>[0,t,k,0]):=by
 intro n
 induction n with
 | zero=>
   intro i hi L x0 x17 h0 h17 hb F
   show qHW (qFE (F+0)) _ _ _ _ _ _ _ _ _ _ _ _ _ _ _ _ _=_
   unfold qHW
   rw[qW (by omega),List.drop_eq_nil_of_le (by omega)]
   simp only[List.map_nil,List.append_nil,h0,h17]
 | succ n ih=>
   intro i hi L x0 x17 h0 h17 hb F
   show qHW (qFE (F+n+1)) _ _ _ _ _ _ _ _ _ _ _ _ _ _ _ _ _=_
   unfold qHW
   have hil:i<T.length:=by omega
   have hget:T.getD i 0=T[i]:=qF1 hil
   have hd:T.drop i=T[i] :: T.drop (i+1):=List.drop_eq_getElem_cons hil
   rw[qe (by omega),qc (by omega) (by omega),tn,hget,qBu (by omega),tkA h0,w_s (by omega) (by omega),hd,List.map_cons]
   have:=ih (i+1) (by omega) (L++[[0,T[i],k,0]]) (x0+1) (x0+1) (by simp[h0]) (by simp[h0]) (by simp;omega) F
   rw[List.append_assoc] at this
   exact this
theorem qjc {b:List Int} (hc:Clean b) (h:List Int) (S:Int) (G:Nat->Bool):∀ (n k:Nat),k+n=8->∀ (L:List (List Int)) (x0 x17:Nat),x0=L.length->x17=L.length->L.length<=900000 - 200*n->∀ F,
  qFD (F+n+1) x0 S k b h S (qP b) (qS b) (sLo G) (sHi G) x17 L =
   some ((L++(List.range' k n).flatMap (qBk b h S G)).length,b,h,S,qP b,qS b,(L++(List.range' k n).flatMap (qBk b h S G)).length,L++(List.range' k n).flatMap (qBk b h S G)):=by
 intro n
 induction n with
 | zero=>
   intro k hk L x0 x17 h0 h17 hb F
   show qHV (qFD (F+0)) _ _ _ _ _ _ _ _ _ _ _ _=_
   unfold qHV
   rw[qW (by omega)]
   simp only[List.range'_zero,List.flatMap_nil,List.append_nil,h0,h17]
 | succ n ih=>
   intro k hk L x0 x17 h0 h17 hb F
   show qHV (qFD (F+n+1)) _ _ _ _ _ _ _ _ _ _ _ _=_
   unfold qHV
   have hl2:=qZF b h S G k
   rw[qe (by omega),qke,qA,List.range'_succ,List.flatMap_cons,<- List.append_assoc]
   have ih':=ih (k+1) (by omega) (L++qBk b h S G k)
   by_cases h1:hdP h S k<1
   ·have e:qBk b h S G k=[]:=by unfold qBk;rw[if_pos h1]
    rw[qe h1,w_s (by omega) (by omega)]
    rw[e,List.append_nil] at ih' ⊢
    exact ih' x0 x17 h0 h17 (by omega) F
   ·have e:qBk b h S G k=(sq fun i=>qAv b S k i&&G i).map fun t=>[0,t,(k:Int),0]:=by unfold qBk;rw[if_neg h1]
    rw[qW h1,qj4 hc,qA]
    simp only
    rw[qEu,qA]
    simp only
    rw[qJ1,qA]
    simp only
    have hlen:=qEl fun i=>qAv b S k i&&G i
    obtain⟨g,hg⟩:=qh (sq fun i=>qAv b S k i&&G i).length (by omega)
    have:=quN k (sq fun i=>qAv b S k i&&G i) S b h S (qP b) (qS b) (sLo G) (sHi G) (sq fun i=>qAv b S k i&&G i).length (by omega) (sq fun i=>qAv b S k i&&G i).length 0 (by omega) L x0 x17 h0 h17 (by omega) g
    rw[<- hg] at this
    rw[show qFE qB x0 S k (sq fun i=>qAv b S k i&&G i).length (Int.ofNat (sq fun i=>qAv b S k i&&G i).length) 0 b h S (qP b) (qS b) (sLo G) (sHi G) x17 L (sq fun i=>qAv b S k i&&G i).length (sq fun i=>qAv b S k i&&G i)=_ from this,qA]
    simp only
    rw[List.drop_zero,<- e,w_s (by omega) (by omega)]
    exact ih' _ _ rfl rfl (by rw[List.length_append];omega) F
theorem qkE {b:List Int} (hc:Clean b) (h:List Int) (S:Int) (G:Nat->Bool):qJK (sLo G) (sHi G) b h S (qP b) (qS b)=some ((qAP b h S G).length,(qAP b h S G).length,qAP b h S G):=by
 unfold qJK
 obtain⟨g,hg⟩:=qh 7 (by omega)
 have:=qjc hc h S G 7 1 (by omega) [] 0 0 rfl rfl (by simp only[List.length_nil];omega) g
 rw[<- hg] at this
 rw[show qFD qB 0 S 1 b h S (qP b) (qS b) (sLo G) (sHi G) 0 []=_ from this,qA]
 rfl
def mvs (b h:List Int) (S:Int):List (List Int):=qu b S (fun _=>true)++qAP b h S (fun _=>true)
theorem qLe (b:List Int) (S:Int) (G:Nat->Bool):(qu b S G).length<=162*81:=by
 unfold qu
 have:=qHN (qCX b S G) 162 (sq (sdP b S)) fun a _=>qZE _ _ _ _
 have:=qEl (sdP b S)
 omega
theorem qQH (b h:List Int) (S:Int) (G:Nat->Bool):(qAP b h S G).length<=81*7:=by
 unfold qAP
 have:=qHN (qBk b h S G) 81 (List.range' 1 7) fun a _=>qZF _ _ _ _ _
 rw[List.length_range'] at this
 omega
end Go.Kk.Pl
namespace Go.Kk.Pl
def qAq (b h:List Int) (S:Int) (f t:Nat):List (List Int):=(if qz b h S f t 0 false then [[(f:Int),(t:Int),0,0]] else [])++(if qz b h S f t 0 true then [[(f:Int),(t:Int),0,1]] else [])
def rTo (b h:List Int) (S:Int) (f t:Nat):List (List Int):=if rch (b.getD f 0) f t (tk b) then qAq b h S f t else []
def qA5 (b h:List Int) (S:Int) (f:Nat):List (List Int):=if sd (b.getD f 0)=S then (List.range' 0 81).flatMap (rTo b h S f) else []
def qB2 (b h:List Int) (S:Int) (k t:Nat):List (List Int):=if qz b h S 0 t k false then [[0,(t:Int),(k:Int),0]] else []
def qDs (b h:List Int) (S:Int) (k:Nat):List (List Int):=if hd_ h S k>0 then (List.range' 0 81).flatMap (qB2 b h S k) else []
def qDr (b h:List Int) (S:Int):List (List Int):=(List.range' 0 81).flatMap (qA5 b h S)++(List.range' 1 7).flatMap (qDs b h S)
theorem qo0 (b h:List Int) (S:Int) (f t:Nat):(rTo b h S f t).length<=2:=by
 unfold rTo qAq
 split
 ·split<;>split<;>simp
 ·simp
theorem qaF (b h:List Int) (S:Int) (f:Nat):(qA5 b h S f).length<=162:=by
 unfold qA5
 split
 ·have:=qHN (rTo b h S f) 2 (List.range' 0 81) fun a _=>qo0 b h S f a
  rw[List.length_range'] at this
  omega
 ·simp
theorem qou (b h:List Int) (S:Int) (k t:Nat):(qB2 b h S k t).length<=1:=by
 unfold qB2;split<;>simp
theorem qoy (b h:List Int) (S:Int) (k:Nat):(qDs b h S k).length<=81:=by
 unfold qDs
 split
 ·have:=qHN (qB2 b h S k) 1 (List.range' 0 81) fun a _=>qou b h S k a
  rw[List.length_range'] at this
  omega
 ·simp
theorem qoz (b h:List Int) (S:Int) (f:Nat) (hf:f<81):∀ (n t:Nat),t+n=81->∀ (L:List (List Int)) (x0 x6:Nat),x0=L.length->x6=L.length->L.length<=1000000 - 2*n->∀ F,
  qFj (F+n+1) x0 f t b h S x6 L (qDP b) =
   some ((L++(List.range' t n).flatMap (rTo b h S f)).length,(f:Int),b,h,S,(L++(List.range' t n).flatMap (rTo b h S f)).length,L++(List.range' t n).flatMap (rTo b h S f),qDP b):=by
 intro n
 induction n with
 | zero=>
   intro t ht L x0 x6 h0 h6 hb F
   show qIH (qFj (F+0)) _ _ _ _ _ _ _ _ _=_
   unfold qIH
   rw[qW (by omega)]
   simp only[List.range'_zero,List.flatMap_nil,List.append_nil,h0,h6]
 | succ n ih=>
   intro t ht L x0 x6 h0 h6 hb F
   show qIH (qFj (F+n+1)) _ _ _ _ _ _ _ _ _=_
   unfold qIH
   rw[qe (by omega),qc (by omega) (by omega),tn,c_8,qQt b _ hf (by omega),qA,w_s (by omega) (by omega),List.range'_succ,List.flatMap_cons,<- List.append_assoc]
   have ih':=ih (t+1) (by omega) (L++rTo b h S f t)
   cases hr:rch (b.getD f 0) f t (tk b) with
   | false=>
     have e:rTo b h S f t=[]:=by unfold rTo;rw[hr];rfl
     rw[Bool.not_false,b_t]
     rw[e,List.append_nil] at ih' ⊢
     exact ih' x0 x6 h0 h6 (by omega) F
   | true=>
     have e:rTo b h S f t=qAq b h S f t:=by unfold rTo;rw[hr];rfl
     rw[e] at ih' ⊢
     rw[Bool.not_true,b_f,qJq,qA,tkA h0,tkA h0,qff h0]
     cases hm:qz b h S f t 0 false with
     | true=>
       rw[b_t,qBu (by omega),qJq,qA]
       cases hy:qz b h S f t 0 true with
       | true=>
         rw[b_t,qBu (by omega)]
         have:=ih' (x0+1+1) (x0+1+1) (by simp[qAq,hm,hy,h0]) (by simp[qAq,hm,hy,h0]) (by simp[qAq,hm,hy];omega) F
         rw[<- this]
         simp[qAq,hm,hy]
       | false=>
         rw[b_f]
         have:=ih' (x0+1) (x0+1) (by simp[qAq,hm,hy,h0]) (by simp[qAq,hm,hy,h0]) (by simp[qAq,hm,hy];omega) F
         rw[<- this]
         simp[qAq,hm,hy]
     | false=>
       rw[b_f,qJq,qA]
       cases hy:qz b h S f t 0 true with
       | true=>
         rw[b_t,qBu (by omega)]
         have:=ih' (x0+1) (x0+1) (by simp[qAq,hm,hy,h0]) (by simp[qAq,hm,hy,h0]) (by simp[qAq,hm,hy];omega) F
         rw[<- this]
         simp[qAq,hm,hy]
       | false=>
         rw[b_f]
         have:=ih' x0 x6 (by simp[qAq,hm,hy,h0]) (by simp[qAq,hm,hy,h6]) (by simp[qAq,hm,hy];omega) F
         rw[<- this]
         simp[qAq,hm,hy]
theorem qov (b h:List Int) (S:Int):∀ (n f:Nat),f+n=81->∀ (L:List (List Int)) (x0 x6:Nat),x0=L.length->x6=L.length->L.length<=900000 - 200*n->∀ F,
  qD5 (F+n+1) x0 f b h S x6 L (qDP b) =
   some ((L++(List.range' f n).flatMap (qA5 b h S)).length,b,h,S,(L++(List.range' f n).flatMap (qA5 b h S)).length,L++(List.range' f n).flatMap (qA5 b h S)):=by
 intro n
 induction n with
 | zero=>
   intro f hf L x0 x6 h0 h6 hb F
   show qIK (qD5 (F+0)) _ _ _ _ _ _ _ _=_
   unfold qIK
   rw[qW (by omega)]
   simp only[List.range'_zero,List.flatMap_nil,List.append_nil,h0,h6]
 | succ n ih=>
   intro f hf L x0 x6 h0 h6 hb F
   show qIK (qD5 (F+n+1)) _ _ _ _ _ _ _ _=_
   unfold qIK
   have hl:=qaF b h S f
   rw[qe (by omega),qc (by omega) (by omega),tn,c_8,qEf,qA,List.range'_succ,List.flatMap_cons,<- List.append_assoc]
   have ih':=ih (f+1) (by omega) (L++qA5 b h S f)
   by_cases h1:sd (b.getD f 0)=S
   ·have e:qA5 b h S f=(List.range' 0 81).flatMap (rTo b h S f):=by unfold qA5;rw[if_pos h1]
    rw[qr h1]
    obtain⟨g,hg⟩:=qh 81 (by omega)
    have:=qoz b h S f (by omega) 81 0 (by omega) L x0 x6 h0 h6 (by omega) g
    rw[<- hg] at this
    rw[show qFj qB x0 f 0 b h S x6 L (qDP b)=_ from this,qA]
    simp only
    rw[w_s (by omega) (by omega),<- e]
    exact ih' _ _ rfl rfl (by rw[List.length_append];omega) F
   ·have e:qA5 b h S f=[]:=by unfold qA5;rw[if_neg h1]
    rw[qp h1,w_s (by omega) (by omega)]
    rw[e,List.append_nil] at ih' ⊢
    exact ih' x0 x6 h0 h6 (by omega) F
theorem qot (b h:List Int) {S:Int} (hS:S=0 \/ S=1) (k:Nat) (hk:k<8):∀ (n t:Nat),t+n=81->∀ (L:List (List Int)) (x0 x6:Nat),x0=L.length->x6=L.length->L.length<=1000000 - 2*n->∀ F,
  qFk (F+n+1) x0 k t b h S x6 L =
   some ((L++if hd_ h S k>0 then (List.range' t n).flatMap (qB2 b h S k) else []).length,(k:Int),b,h,S,(L++if hd_ h S k>0 then (List.range' t n).flatMap (qB2 b h S k) else []).length,L++if hd_ h S k>0 then (List.range' t n).flatMap (qB2 b h S k) else []):=by
 intro n
 induction n with
 | zero=>
   intro t ht L x0 x6 h0 h6 hb F
   show qIJ (qFk (F+0)) _ _ _ _ _ _ _ _=_
   unfold qIJ
   rw[qW (by omega)]
   simp only[List.range'_zero,List.flatMap_nil,ite_self,List.append_nil,h0,h6]
 | succ n ih=>
   intro t ht L x0 x6 h0 h6 hb F
   show qIJ (qFk (F+n+1)) _ _ _ _ _ _ _ _=_
   unfold qIJ
   rw[qe (by omega),qc (by omega) (by omega),qc (by omega) (by omega)]
   have ih':=ih (t+1) (by omega) (L++qB2 b h S k t)
   by_cases h1:hd_ h S k>0
   ·rw[show List.getD h (S.toNat*8+Int.toNat (k:Int)) 0=hd_ h S k from rfl,qBS h1,qJq,qA,tkA h0,w_s (by omega) (by omega)]
    simp only[if_pos h1] at ih' ⊢
    rw[List.range'_succ,List.flatMap_cons,<- List.append_assoc]
    cases hm:qz b h S 0 t k false with
    | true=>
      have e:qB2 b h S k t=[[0,(t:Int),(k:Int),0]]:=by unfold qB2;rw[hm];rfl
      rw[b_t,qBu (by omega)]
      rw[e] at ih' ⊢
      exact ih' (x0+1) (x0+1) (by simp[h0]) (by simp[h0]) (by simp;omega) F
    | false=>
      have e:qB2 b h S k t=[]:=by unfold qB2;rw[hm];rfl
      rw[b_f]
      rw[e,List.append_nil] at ih' ⊢
      exact ih' x0 x6 h0 h6 (by omega) F
   ·rw[show List.getD h (S.toNat*8+Int.toNat (k:Int)) 0=hd_ h S k from rfl,qBT h1,if_neg h1,List.append_nil,h0,h6]
theorem qox (b h:List Int) {S:Int} (hS:S=0 \/ S=1):∀ (n k:Nat),k+n=8->∀ (L:List (List Int)) (x0 x6:Nat),x0=L.length->x6=L.length->L.length<=900000 - 200*n->∀ F,
  qD4 (F+n+1) x0 k b h S x6 L =
   some ((L++(List.range' k n).flatMap (qDs b h S)).length,(L++(List.range' k n).flatMap (qDs b h S)).length,L++(List.range' k n).flatMap (qDs b h S)):=by
 intro n
 induction n with
 | zero=>
   intro k hk L x0 x6 h0 h6 hb F
   show qII (qD4 (F+0)) _ _ _ _ _ _ _=_
   unfold qII
   rw[qKQ (by omega)]
   simp only[List.range'_zero,List.flatMap_nil,List.append_nil,h0,h6]
 | succ n ih=>
   intro k hk L x0 x6 h0 h6 hb F
   show qII (qD4 (F+n+1)) _ _ _ _ _ _ _=_
   unfold qII
   have hl:=qoy b h S k
   obtain⟨g,hg⟩:=qh 81 (by omega)
   have:=qot b h hS k (by omega) 81 0 (by omega) L x0 x6 h0 h6 (by omega) g
   rw[<- hg] at this
   rw[qKP (by omega),show qFk qB x0 k 0 b h S x6 L=_ from this,qA]
   simp only
   have e:List.range' k (n+1)=k :: List.range' (k+1) n:=List.range'_succ
   rw[w_s (by omega) (by omega),e,List.flatMap_cons,<- List.append_assoc]
   exact ih (k+1) (by omega) (L++qDs b h S k) _ _ rfl rfl (by rw[List.length_append];omega) F
theorem qow (b h:List Int) (S:Int):((List.range' 0 81).flatMap (qA5 b h S)).length<=162*81:=by
 have:=qHN (qA5 b h S) 162 (List.range' 0 81) fun a _=>qaF b h S a
 rw[List.length_range'] at this
 exact this
theorem qc1 (b h:List Int) {S:Int} (hS:S=0 \/ S=1):qIG b h S=some ((qDr b h S).length,(qDr b h S).length,qDr b h S):=by
 have main:(ob (qEc b h S) fun a3=>
  ob (qD5 qB 0 0 b h S 0 [] a3) fun (a4_0,a4_1,a4_2,a4_3,a4_4,a4_5)=>
  ob (qD4 qB a4_0 1 a4_1 a4_2 a4_3 a4_4 a4_5) fun (a10_0,a10_1,a10_2)=>
  (some (a10_0,a10_1,a10_2):Option (Nat×Nat×List (List Int))))=some ((qDr b h S).length,(qDr b h S).length,qDr b h S):=by
  rw[qTP,qA]
  have hl:=qow b h S
  obtain⟨g,hg⟩:=qh 81 (by omega)
  have:=qov b h S 81 0 (by omega) [] 0 0 rfl rfl (by simp only[List.length_nil];omega) g
  rw[<- hg,List.nil_append] at this
  rw[show qD5 qB 0 0 b h S 0 [] (qDP b)=_ from this,qA]
  simp only
  obtain⟨g,hg⟩:=qh 7 (by omega)
  have:=qox b h hS 7 1 (by omega) ((List.range' 0 81).flatMap (qA5 b h S)) _ _ rfl rfl (by omega) g
  rw[<- hg] at this
  rw[show qD4 qB ((List.range' 0 81).flatMap (qA5 b h S)).length 1 b h S ((List.range' 0 81).flatMap (qA5 b h S)).length ((List.range' 0 81).flatMap (qA5 b h S))=_ from this,qA]
  rfl
 unfold qIG
 rcases hS with rfl | rfl
 ·rw[qr rfl];exact main
 ·rw[qp (by omega),qr rfl];exact main
theorem qjw {α β γ:Type} (p:α->Bool) (f:α->β) (g:β->List γ) (L:List α):((L.filter p).map f).flatMap g=L.flatMap fun a=>if p a then g (f a) else []:=by
 induction L with
 | nil=>rfl
 | cons a L ih=>
   rw[List.filter_cons,List.flatMap_cons]
   cases h:p a with
   | true=>rw[if_pos rfl,if_pos rfl,List.map_cons,List.flatMap_cons,ih]
   | false=>rw[if_neg (by simp),if_neg (by simp),ih];rfl
theorem qSq {γ:Type} (p:Nat->Bool) (g:Int->List γ):(sq p).flatMap g=(List.range' 0 81).flatMap fun (i:Nat)=>if p i then g (i:Int) else []:=by
 unfold sq;rw[qjw,qaH];rfl
theorem qJI {α β:Type} {f g:α->List β} {L:List α} (h:∀ a∈L,f a=g a):L.flatMap f=L.flatMap g:=by
 induction L with
 | nil=>rfl
 | cons a L ih=>rw[List.flatMap_cons,List.flatMap_cons,h a (by simp),ih fun x hx=>h x (by simp[hx])]
theorem qtC {γ:Type} (p:Nat->Bool) (g:Int->γ):(sq p).map g=(List.range' 0 81).flatMap fun (i:Nat)=>if p i then [g (i:Int)] else []:=by
 rw[<- qSq p fun t=>[g t]]
 induction sq p with
 | nil=>rfl
 | cons a L ih=>rw[List.map_cons,List.flatMap_cons,ih];rfl
theorem qlK {b:List Int} (_hc:Clean b) {c:Nat} (_hcc:c<81):kgs b c=decide (kd (b.getD c 0)=8):=by
 unfold kgs pcs
 rw[qAw (.inl rfl) (by omega) (by omega) (by omega),qAw (.inr rfl) (by omega) (by omega) (by omega),Bool.eq_iff_iff]
 simp only[Bool.or_eq_true,decide_eq_true_eq]
 constructor
 ·rintro (⟨_,h⟩ | ⟨_,h⟩)<;>rw[h]<;>decide
 ·intro h
  have:=qLr (x:=b.getD c 0) (by omega)
  rw[h] at this
  have hs:=qIR (x:=b.getD c 0) (by omega)
  rcases hs with h1 | h1<;>rw[h1,qAw (by omega) (by omega) (by omega) (by omega)] at this
  ·left;omega
  ·right;omega
theorem qYs {b:List Int} (_hc:Clean b) (h:List Int) {S:Int} (hS:S=0 \/ S=1) {f t:Nat} (hf:f<81) (ht:t<81) (hs:sd (b.getD f 0)=S) (hr:rch (b.getD f 0) f t (tk b)=true) (p:Bool):
  qz b h S f t 0 p=(decide (sd (b.getD t 0)≠S /\ kd (b.getD t 0)≠8)&&if p=true then qCx (b.getD f 0) f t else !qDF (b.getD f 0) t):=by
 unfold qz qBv
 rw[if_neg (by simp),if_neg (by simp),qAa (by omega),qAa (by omega),tn,tn,hr,decide_eq_true (p:=S=0 \/ S=1) hS,Bool.true_and,Bool.true_and]
 by_cases hft:f=t
 ·subst hft
  have:decide (sd (b.getD f 0)=S /\ sd (b.getD f 0)≠S /\ kd (b.getD f 0)≠8)=false:=decide_eq_false fun hh=>hh.2.1 hs
  rw[this,Bool.false_and,Bool.and_false,Bool.false_and,decide_eq_false (p:=sd (b.getD f 0)≠S /\ kd (b.getD f 0)≠8) (fun hh=>hh.1 hs),Bool.false_and]
 ·have e:qCT f t 0 p=0:=by
   unfold qCT
   rw[if_neg (by omega),if_neg (by simp),if_neg (by omega),if_neg (by omega)]
  rw[decide_eq_true e,Bool.true_and]
  have:decide (sd (b.getD f 0)=S /\ sd (b.getD t 0)≠S /\ kd (b.getD t 0)≠8)=decide (sd (b.getD t 0)≠S /\ kd (b.getD t 0)≠8):=by simp[hs,-List.getD_eq_getElem?_getD]
  rw[this,Bool.and_assoc]
  congr 1
  cases p with
  | false=>simp
  | true=>
    simp only[Bool.not_true,Bool.false_or,if_true]
    unfold qCx
    rw[<- Bool.and_assoc,Bool.and_self]
theorem quP {b:List Int} (hc:Clean b) (h:List Int) {S:Int} (hS:S=0 \/ S=1) {f t:Nat} (hf:f<81) (ht:t<81) (hs:sd (b.getD f 0)=S):
  (if qBh b S (fun _=>true) f t then qAC (b.getD f 0) f t else [])=rTo b h S f t:=by
 unfold rTo qAq qAC qBh
 rw[qlK hc ht]
 cases hr:rch (b.getD f 0) f t (tk b) with
 | false=>simp
 | true=>
   rw[qYs hc h hS hf ht hs hr,qYs hc h hS hf ht hs hr]
   unfold sdP sds
   rw[decide_eq_true (p:=S=0 \/ S=1) hS]
   by_cases h1:sd (b.getD t 0)=S
   ·simp[h1,-List.getD_eq_getElem?_getD]
   ·by_cases h2:kd (b.getD t 0)=8
    ·simp[h2,-List.getD_eq_getElem?_getD]
    ·simp only[h1,h2,decide_false,Bool.and_self,Bool.not_false,Bool.true_and,ne_eq,not_false_eq_true,if_true,Bool.false_eq_true,if_false]
     cases qDF (b.getD f 0) t<;>cases qCx (b.getD f 0) f t<;>rfl
theorem qLf {b:List Int} (hc:Clean b) (h:List Int) {S:Int} (hS:S=0 \/ S=1):mvs b h S=qDr b h S:=by
 unfold mvs qDr
 congr 1
 ·unfold qu
  rw[qSq]
  apply qJI
  intro f hf
  rw[List.mem_range'_1] at hf
  unfold qA5
  by_cases hs:sd (b.getD f 0)=S
  ·have:sdP b S f=true:=by unfold sdP sds;rw[decide_eq_true hs,decide_eq_true (p:=S=0 \/ S=1) hS];rfl
   rw[if_pos this,if_pos hs]
   unfold qCX
   rw[tn,qSq]
   apply qJI
   intro t ht
   rw[List.mem_range'_1] at ht
   exact quP hc h hS (by omega) (by omega) hs
  ·have:sdP b S f=false:=by unfold sdP sds;rw[decide_eq_false hs,Bool.and_false]
   rw[if_neg (by simp[this]),if_neg hs]
 ·unfold qAP
  apply qJI
  intro k hk
  rw[List.mem_range'_1] at hk
  unfold qBk qDs
  have e:hdP h S k=hd_ h S k:=by unfold hdP;rw[if_pos ⟨hS,by omega,by omega⟩]
  rw[e]
  by_cases h1:hd_ h S k>0
  ·rw[if_neg (by omega),if_pos h1,qtC]
   apply qJI
   intro t ht
   rw[List.mem_range'_1] at ht
   unfold qB2
   rw[Bool.and_true]
   have:qz b h S 0 t k false=qAv b S k t:=by
    unfold qz qBv qAv qA7
    have e2:qCT 0 (t:Int) k false=0:=by
     unfold qCT
     rw[if_neg (by omega),if_pos (by omega),if_pos ⟨by omega,by omega,rfl,rfl⟩]
    rw[e2,qAw hS (by omega) (by omega) (by omega),qAw hS (by omega) (by omega) (by omega),if_pos (by omega),if_pos (by omega),decide_eq_true (p:=S=0 \/ S=1) hS,decide_eq_true (p:=(S=0 \/ S=1) /\ (1:Int)<=k /\ (k:Int)<=7) ⟨hS,by omega,by omega⟩,qOW _ (by omega),qAa (by omega),tn,decide_eq_true (p:=0<hd_ h S k) h1]
    unfold tk
    by_cases h2:(k:Int)=1
    ·rw[h2]
     by_cases h0:b.getD t 0=0<;>simp
    ·by_cases h0:b.getD t 0=0<;>simp[h2]
   rw[this]
  ·rw[if_pos (by omega),if_neg h1]
end Go.Kk.Pl
namespace Go.Kk.Pl
theorem hd0 (m:List Int):List.headD (List.take 4 m) 0=m.getD 0 0:=by cases m<;>rfl
theorem hd1 (m:List Int):List.headD (List.tail (List.take 4 m)) 0=m.getD 1 0:=by
 rcases m with _ | ⟨a,_ | ⟨b,m⟩⟩<;>rfl
theorem hd2 (m:List Int):List.headD (List.tail (List.tail (List.take 4 m))) 0=m.getD 2 0:=by
 rcases m with _ | ⟨a,_ | ⟨b,_ | ⟨c,m⟩⟩⟩<;>rfl
theorem hd3 (m:List Int):List.headD (List.tail (List.tail (List.tail (List.take 4 m)))) 0=m.getD 3 0:=by
 rcases m with _ | ⟨a,_ | ⟨b,_ | ⟨c,_ | ⟨d,m⟩⟩⟩⟩<;>rfl
theorem qn1 {x f t:Int} {m:List Int} (h:m∈qAC x f t):∃ p:Int,m=[f,t,0,p]:=by
 unfold qAC at h
 rw[List.mem_append] at h
 rcases h with h | h
 ·split at h
  ·cases h
  ·exact⟨0,by simpa using h⟩
 ·split at h
  ·exact⟨1,by simpa using h⟩
  ·cases h
theorem qm5 {b:List Int} {S:Int} {G:Nat->Bool} {f:Int} {m:List Int} (h:m∈qCX b S G f):∃ t p:Int,m=[f,t,0,p]:=by
 unfold qCX at h
 obtain⟨t,_,ht⟩:=List.mem_flatMap.1 h
 obtain⟨p,hp⟩:=qn1 ht
 exact⟨t,p,hp⟩
theorem qm3 {b:List Int} {S:Int} {G:Nat->Bool} {m:List Int} (h:m∈qu b S G):∃ f t p:Int,m=[f,t,0,p]:=by
 unfold qu at h
 obtain⟨f,_,hf⟩:=List.mem_flatMap.1 h
 obtain⟨t,p,hp⟩:=qm5 hf
 exact⟨f,t,p,hp⟩
theorem qm6 {b h:List Int} {S:Int} {G:Nat->Bool} {k:Nat} {m:List Int} (hm:m∈qBk b h S G k):∃ t:Int,m=[0,t,(k:Int),0]:=by
 unfold qBk at hm
 split at hm
 ·cases hm
 ·obtain⟨t,_,ht⟩:=List.mem_map.1 hm
  exact⟨t,ht.symm⟩
theorem qm4 {b h:List Int} {S:Int} {G:Nat->Bool} {m:List Int} (hm:m∈qAP b h S G):∃ (k:Nat) (t:Int),1<=k /\ k<=7 /\ m=[0,t,(k:Int),0]:=by
 unfold qAP at hm
 obtain⟨k,hk,h2⟩:=List.mem_flatMap.1 hm
 rw[List.mem_range'_1] at hk
 obtain⟨t,ht⟩:=qm6 h2
 exact⟨k,t,by omega,by omega,ht⟩
theorem qZG (b h:List Int) (S:Int):(mvs b h S).length<=20000:=by
 unfold mvs
 have h1:=qLe b S fun _=>true
 have h2:=qQH b h S fun _=>true
 rw[List.length_append]
 omega
end Go.Kk.Pl
namespace Go.Kk.Pl
theorem qkb (es:List (List Int×List Int)) (r v r' d:List Int):qA3 (qAH es r v) r' d=if r'=r then v else qA3 es r' d:=by
 induction es with
 | nil=>
   by_cases h:r'=r
   ·subst h;simp[qAH,qA3]
   ·have:(r==r')=false:=by simpa using fun hh=>h hh.symm
    simp[qAH,qA3,this,h]
 | cons x es ih=>
   obtain⟨k,u⟩:=x
   by_cases hk:k=r
   ·subst hk
    by_cases h:r'=k
    ·subst h;simp[qAH,qA3]
    ·have:(k==r')=false:=by simpa using fun hh=>h hh.symm
     simp[qAH,qA3,this,h]
   ·have e1:(k==r)=false:=by simpa using hk
    by_cases hk':k=r'
    ·subst hk'
     simp[qAH,qA3,e1,hk]
    ·have e2:(k==r')=false:=by simpa using hk'
     simp only[qAH,e1,cond_false,qA3,e2,ih]
theorem qki (es:List (List Int×List Int)) (r v r':List Int):qA4 (qAH es r v) r'=(decide (r'=r)||qA4 es r'):=by
 induction es with
 | nil=>
   by_cases h:r'=r
   ·subst h;simp[qAH,qA4]
   ·have:(r==r')=false:=by simpa using fun hh=>h hh.symm
    simp[qAH,qA4,this,h]
 | cons x es ih=>
   obtain⟨k,u⟩:=x
   by_cases hk:k=r
   ·subst hk
    by_cases h:r'=k
    ·subst h;simp[qAH,qA4]
    ·have:(k==r')=false:=by simpa using fun hh=>h hh.symm
     simp[qAH,qA4,this,h]
   ·have e1:(k==r)=false:=by simpa using hk
    by_cases hk':k=r'
    ·subst hk'
     simp[qAH,qA4,e1]
    ·have e2:(k==r')=false:=by simpa using hk'
     simp only[qAH,e1,cond_false,qA4,e2,ih,Bool.false_or]
structure MvOK (b h:List Int) (S f t d p:Int):Prop where
 pp:p=0 \/ p=1
 mov:qz b h S f t d (p != 0)=true
 tr:0<=t /\ t<81
 fr:0<=f /\ f<81
 dr:0<=d /\ d<=7
 drop:d≠0->f=0 /\ p=0 /\ 0<hd_ h S d /\ at_ b t=0
theorem qm7 {b h:List Int} (hc:Clean b) {S:Int} (hS:S=0 \/ S=1) {m:List Int} (hm:m∈mvs b h S):∃ f t d p:Int,m=[f,t,d,p] /\ MvOK b h S f t d p:=by
 rw[qLf hc h hS] at hm
 unfold qDr at hm
 rw[List.mem_append] at hm
 rcases hm with hm | hm
 ·obtain⟨f,hf,hm⟩:=List.mem_flatMap.1 hm
  rw[List.mem_range'_1] at hf
  unfold qA5 at hm
  split at hm<;>try cases hm
  obtain⟨t,ht,hm⟩:=List.mem_flatMap.1 hm
  rw[List.mem_range'_1] at ht
  unfold rTo at hm
  split at hm<;>try cases hm
  unfold qAq at hm
  rw[List.mem_append] at hm
  rcases hm with hm | hm
  ·split at hm
   ·rename_i hmv
    rw[List.mem_singleton] at hm
    exact⟨f,t,0,0,hm,.inl rfl,hmv,by omega,by omega,by omega,fun h=>absurd rfl h⟩
   ·cases hm
  ·split at hm
   ·rename_i hmv
    rw[List.mem_singleton] at hm
    exact⟨f,t,0,1,hm,.inr rfl,hmv,by omega,by omega,by omega,fun h=>absurd rfl h⟩
   ·cases hm
 ·obtain⟨k,hk,hm⟩:=List.mem_flatMap.1 hm
  rw[List.mem_range'_1] at hk
  unfold qDs at hm
  split at hm<;>try cases hm
  rename_i hh
  obtain⟨t,ht,hm⟩:=List.mem_flatMap.1 hm
  rw[List.mem_range'_1] at ht
  unfold qB2 at hm
  split at hm
  case isFalse=>cases hm
  rename_i hmv
  rw[List.mem_singleton] at hm
  refine⟨0,t,k,0,hm,.inl rfl,hmv,by omega,by omega,by omega,fun h=>⟨rfl,rfl,hh,?_⟩⟩
  have:=hmv
  unfold qz qBv at this
  rw[if_pos h] at this
  simp only[Bool.and_eq_true,decide_eq_true_eq] at this
  exact this.1.2.2.2
theorem qmb {b h:List Int} (hc:Clean b) {S:Int} (hS:S=0 \/ S=1) {f t d:Int} {p:Bool} (hm:qz b h S f t d p=true):[f,t,d,bi p]∈mvs b h S:=by
 rw[qLf hc h hS]
 unfold qDr
 rw[List.mem_append]
 have hm':=hm
 unfold qz qBv at hm'
 simp only[Bool.and_eq_true,decide_eq_true_eq] at hm'
 obtain⟨⟨hchk,_,hcan⟩,hw⟩:=hm'
 obtain⟨ht,hdr,hmv⟩:=qI8 hchk
 by_cases hd:d=0
 ·left
  subst hd
  obtain⟨hf,_⟩:=hmv rfl
  rw[if_neg (by simp)] at hcan hw
  simp only[Bool.and_eq_true,decide_eq_true_eq] at hcan hw
  refine List.mem_flatMap.2 ⟨f.toNat,by rw[List.mem_range'_1];omega,?_⟩
  unfold qA5
  rw[qAa hf] at hcan hw
  rw[if_pos hcan.1.1]
  refine List.mem_flatMap.2 ⟨t.toNat,by rw[List.mem_range'_1];omega,?_⟩
  unfold rTo
  rw[if_pos hw.1]
  unfold qAq
  rw[show ((f.toNat:Nat):Int)=f by omega,show ((t.toNat:Nat):Int)=t by omega,List.mem_append]
  cases p with
  | false=>left;rw[if_pos hm];simp[bi,br]
  | true=>right;rw[if_pos hm];simp[bi,br]
 ·right
  obtain⟨d1,d7,rfl,rfl⟩:=hdr hd
  rw[if_pos hd] at hcan
  simp only[Bool.and_eq_true,decide_eq_true_eq] at hcan
  refine List.mem_flatMap.2 ⟨d.toNat,by rw[List.mem_range'_1];omega,?_⟩
  unfold qDs
  rw[show ((d.toNat:Nat):Int)=d by omega,if_pos hcan.1]
  refine List.mem_flatMap.2 ⟨t.toNat,by rw[List.mem_range'_1];omega,?_⟩
  unfold qB2
  rw[show ((d.toNat:Nat):Int)=d by omega,show ((t.toNat:Nat):Int)=t by omega,if_pos hm]
  simp[bi,br]
end Go.Kk.Pl
namespace Go.Kk.Pl
theorem qew {x:Int} {a c:Nat} (h:qAy x a c=true):-1<=df a c /\ df a c<=1 /\ -2<=dr a c /\ dr a c<=2 /\ (dr a c=2 \/ dr a c = -2->df a c=1 \/ df a c = -1) /\ ¬ (df a c=0 /\ dr a c=0):=by
 have h:=of_decide_eq_true h
 unfold qB9 at h
 have:upS x a c=dr a c \/ upS x a c = - dr a c:=by unfold upS;split<;>simp
 omega
theorem qMw {x:Int} {a c:Nat} (h:qAy x a c=true):btw a c=[]:=by
 have hs:=qew h
 unfold btw
 by_cases hl:qy a c=0
 ·rw[if_pos hl]
 ·rw[if_neg hl]
  have hl:=(qLS a c).mp hl
  unfold qET at hl
  have:mx a c<=1:=by
   unfold mx
   split<;>omega
  rw[show mx a c - 1=0 by omega]
  rfl
theorem qti {x:Int} {a:Nat}:qAy x a a=false:=by
 cases h:qAy x a a with
 | false=>rfl
 | true=>exact absurd (qHY a) (qew h).2.2.2.2.2
theorem qs6 {x:Int} {a:Nat}:qAk x a a=false:=by
 unfold qAk
 have:=qHY a
 have:upS x a a=0:=by unfold upS;split<;>omega
 rw[decide_eq_false]
 unfold slK
 omega
theorem qad {x:Int} {a:Nat} {t:Nat->Bool}:rch x a a t=false:=by
 unfold rch;rw[qti,qs6];rfl
theorem qI3 {k c f:Nat} (hk:k<81) (hc:c<81) (h:f∈btw c k):f<81 /\ f≠k /\ f≠c /\ ∃ n:Nat,(qBD (sgn (df k f)) (sgn (dr k f)) k)[n]? = some c /\ ∀ i,(i∈btw c k↔i∈(qBD (sgn (df k f)) (sgn (dr k f)) k).take n):=by
 have hf:f∈btw k c:=qI1 hc hk h
 have hl:qy k c≠0:=by intro h0;unfold btw at hf;rw[if_pos h0] at hf;cases hf
 have:=qKg ⟨k,hk⟩ ⟨c,hc⟩
 simp only[qI7,Bool.or_eq_true,decide_eq_true_eq,Bool.and_eq_true,beq_iff_eq,Bool.not_eq_true'] at this
 obtain⟨e1,e2,e3⟩:=this.resolve_left hl
 have hW:f∈qBD (sgn (df k c)) (sgn (dr k c)) k:=List.mem_of_mem_take (by rw[e1];exact hf)
 have hli:=(qLS k c).mp hl
 have sx:-1<=sgn (df k c) /\ sgn (df k c)<=1:=by unfold sgn;split<;>(try split)<;>omega
 have sy:-1<=sgn (dr k c) /\ sgn (dr k c)<=1:=by unfold sgn;split<;>(try split)<;>omega
 have sn:¬ (sgn (df k c)=0 /\ sgn (dr k c)=0):=by
  unfold qET at hli
  unfold sgn
  split<;>split<;>(try split)<;>(try split)<;>omega
 have hB:=qVQ ⟨((sgn (df k c)+1)*3+(sgn (dr k c)+1)).toNat,by omega⟩ ⟨k,hk⟩
 simp only at hB
 rw[show (((((sgn (df k c)+1)*3+(sgn (dr k c)+1)).toNat / 3:Nat):Int) - 1)=sgn (df k c) by omega,show (((((sgn (df k c)+1)*3+(sgn (dr k c)+1)).toNat % 3:Nat):Int) - 1)=sgn (dr k c) by omega] at hB
 have hB:=hB.resolve_left (by omega)
 unfold qOM at hB
 rw[List.all_eq_true] at hB
 have hB:=hB f hW
 simp only[Bool.and_eq_true,decide_eq_true_eq] at hB
 obtain⟨b1,b2,b3,b4⟩:=hB
 refine⟨b1,?_,?_,(btw k c).length,?_,?_⟩
 ·rintro rfl
  exact b2 (by unfold qy;rw[if_pos rfl])
 ·rintro rfl
  rw[List.contains_iff_mem.mpr hf] at e3
  cases e3
 ·rw[b3,b4];exact e2
 ·intro i
  rw[b3,b4,e1]
  exact⟨qI1 hc hk,qI1 hk hc⟩
theorem qVE {k c c' f:Nat} (hk:k<81) (hc:c<81) (hc':c'<81) (h:f∈btw c k) (h':f∈btw c' k) (hne:c≠c'):c∈btw c' k \/ c'∈btw c k:=by
 obtain⟨_,_,_,n,e,m⟩:=qI3 hk hc h
 obtain⟨_,_,_,n',e',m'⟩:=qI3 hk hc' h'
 rcases Nat.lt_trichotomy n n' with hn | hn | hn
 ·left
  rw[m',List.mem_iff_getElem?]
  exact⟨n,by rw[List.getElem?_take,if_pos hn];exact e⟩
 ·subst hn
  rw[e] at e'
  exact absurd (Option.some.inj e') hne
 ·right
  rw[m,List.mem_iff_getElem?]
  exact⟨n',by rw[List.getElem?_take,if_pos hn];exact e'⟩
def enm (b:List Int) (s:Int) (c:Nat):Bool:=decide (sd (b.getD c 0)=1 - s)
def atk (b:List Int) (s:Int) (k c:Nat):Bool:=enm b s c&&rch (b.getD c 0) c k (tk b)
def tk2 (b:List Int) (f t i:Nat):Bool:=decide (i=t)||(!decide (i=f)&&tk b i)
def qEH (b:List Int) (s:Int) (k f t c:Nat):Bool:=decide (c≠t)&&(enm b s c&&rch (b.getD c 0) c k (tk2 b f t))
def qAJ (b:List Int) (s:Int) (k f c:Nat):Bool:=enm b s c&&(qAk (b.getD c 0) c k&&((btw c k).contains f&&(tk b f&&(decide (sd (b.getD f 0)=s)&&(btw c k).all fun i=>i==f || !tk b i))))
theorem qDH {b:List Int} {s:Int} {k f c:Nat}:qAJ b s k f c=true↔enm b s c=true /\ qAk (b.getD c 0) c k=true /\ f∈btw c k /\ tk b f=true /\ sd (b.getD f 0)=s /\ ∀ i∈btw c k,i≠f->tk b i=false:=by
 unfold qAJ
 simp only[Bool.and_eq_true,decide_eq_true_eq,List.all_eq_true,Bool.or_eq_true,beq_iff_eq,Bool.not_eq_true',List.contains_iff_mem]
 constructor
 ·rintro ⟨h1,h2,h3,h4,h5,h6⟩
  exact⟨h1,h2,h3,h4,h5,fun i hi hn=>(h6 i hi).resolve_left hn⟩
 ·rintro ⟨h1,h2,h3,h4,h5,h6⟩
  exact⟨h1,h2,h3,h4,h5,fun i hi=>by by_cases hn:i=f;exact .inl hn;exact .inr (h6 i hi hn)⟩
theorem qOc {b:List Int} {s:Int} (hs:s=0 \/ s=1) {c:Nat} (h:enm b s c=true):tk b c=true:=by
 have h:=of_decide_eq_true h
 unfold tk
 rw[decide_eq_true_eq]
 intro h0
 rw[h0,qJu] at h
 omega
theorem qZ7 {b:List Int} {s:Int} (hs:s=0 \/ s=1) {k f c c':Nat} (hk:k<81) (hc:c<81) (hc':c'<81) (h:qAJ b s k f c=true) (h':qAJ b s k f c'=true):c=c':=by
 apply Classical.byContradiction
 intro hne
 rw[qDH] at h h'
 rcases qVE hk hc hc' h.2.2.1 h'.2.2.1 hne with hm | hm
 ·have:=h'.2.2.2.2.2 c hm (fun e=>(qI3 hk hc h.2.2.1).2.2.1 e.symm)
  rw[qOc hs h.1] at this
  cases this
 ·have:=h.2.2.2.2.2 c' hm (fun e=>(qI3 hk hc' h'.2.2.1).2.2.1 e.symm)
  rw[qOc hs h'.1] at this
  cases this
theorem qZ8 {b:List Int} {s:Int} {k f f' c:Nat} (h:qAJ b s k f c=true) (h':qAJ b s k f' c=true):f=f':=by
 apply Classical.byContradiction
 intro hne
 rw[qDH] at h h'
 have:=h'.2.2.2.2.2 f h.2.2.1 hne
 rw[h.2.2.2.1] at this
 cases this
theorem qB4 {x:Int} {a c:Nat} {t:Nat->Bool}:rch x a c t=true↔qAy x a c=true \/ (qAk x a c=true /\ ∀ i∈btw a c,t i=false):=by
 unfold rch
 rw[Bool.or_eq_true,Bool.and_eq_true,qHP]
theorem qgi {b:List Int} {s:Int} {k f t:Nat} (hf:tk b f=true->sd (b.getD f 0)=s):
  (∀ c,c<81->qEH b s k f t c=false)↔(∀ c,c<81->atk b s k c=true->t=c \/ t∈btw c k) /\ (∀ c,c<81->qAJ b s k f c=true->t=c \/ t∈btw c k):=by
 constructor
 ·intro h
  refine⟨fun c hc ha=>?_,fun c hc hp=>?_⟩
  ·apply Classical.byContradiction
   intro hn
   simp only[not_or] at hn
   have:=h c hc
   rw[show qEH b s k f t c=true from ?_] at this
   ·cases this
   ·simp only[atk,Bool.and_eq_true] at ha
    simp only[qEH,Bool.and_eq_true,decide_eq_true_eq]
    refine⟨fun e=>hn.1 e.symm,ha.1,?_⟩
    rw[qB4] at ha ⊢
    refine ha.2.imp id fun hh=>⟨hh.1,fun i hi=>?_⟩
    unfold tk2
    rw[hh.2 i hi,decide_eq_false (p:=i=t) (fun e=>hn.2 (e ▸ hi))]
    simp
  ·apply Classical.byContradiction
   intro hn
   simp only[not_or] at hn
   have:=h c hc
   rw[show qEH b s k f t c=true from ?_] at this
   ·cases this
   ·rw[qDH] at hp
    simp only[qEH,Bool.and_eq_true,decide_eq_true_eq]
    refine⟨fun e=>hn.1 e.symm,hp.1,?_⟩
    rw[qB4]
    refine .inr ⟨hp.2.1,fun i hi=>?_⟩
    unfold tk2
    rw[decide_eq_false (p:=i=t) (fun e=>hn.2 (e ▸ hi))]
    by_cases hif:i=f
    ·simp[hif]
    ·rw[hp.2.2.2.2.2 i hi hif];simp
 ·rintro ⟨h1,h2⟩ c hc
  cases ha:qEH b s k f t c with
  | false=>rfl
  | true=>
    exfalso
    simp only[qEH,Bool.and_eq_true,decide_eq_true_eq] at ha
    obtain⟨hct,he,hr⟩:=ha
    have tt:tk2 b f t t=true:=by unfold tk2;simp
    have out:t ∉ btw c k:=by
     intro hm
     rw[qB4] at hr
     rcases hr with hr | hr
     ·rw[qMw hr] at hm;cases hm
     ·rw[hr.2 t hm] at tt;cases tt
    cases hak:atk b s k c with
    | true=>exact (h1 c hc hak).elim (fun e=>hct e.symm) out
    | false=>
      unfold atk at hak
      rw[he,Bool.true_and] at hak
      have hn:¬ (qAy (b.getD c 0) c k=true \/ (qAk (b.getD c 0) c k=true /\ ∀ i∈btw c k,tk b i=false)):=by
       rw[<- qB4,hak];simp
      simp only[not_or,not_and] at hn
      rw[qB4] at hr
      have hr:=hr.resolve_left hn.1
      have two:∀ i∈btw c k,i≠f->tk b i=false:=by
       intro i hi hif
       have:=hr.2 i hi
       unfold tk2 at this
       rw[decide_eq_false hif] at this
       simpa using (Bool.or_eq_false_iff.mp this).2
      have hmf:f∈btw c k /\ tk b f=true:=by
       apply Classical.byContradiction
       intro hh
       apply hn.2 hr.1
       intro i hi
       by_cases hif:i=f
       ·subst hif
        cases htk:tk b i with
        | false=>rfl
        | true=>exact absurd ⟨hi,htk⟩ hh
       ·exact two i hi hif
      exact (h2 c hc (qDH.mpr ⟨he,hr.1,hmf.1,hmf.2,hf hmf.2,two⟩)).elim (fun e=>hct e.symm) out
theorem quW {b:List Int} {s:Int} (hs:s=0 \/ s=1) {k c c' t:Nat} (hk:k<81) (hc:c<81) (hc':c'<81) (h:atk b s k c=true) (h':atk b s k c'=true) (hne:c≠c')
  (ht:t=c \/ t∈btw c k) (ht':t=c' \/ t∈btw c' k):False:=by
 have no:∀ {c c':Nat},atk b s k c=true->atk b s k c'=true->c∈btw c' k->False:=by
  intro c c' h h' hm
  simp only[atk,Bool.and_eq_true] at h h'
  rcases qB4.mp h'.2 with hr | hr
  ·rw[qMw hr] at hm;cases hm
  ·have:=hr.2 c hm
   rw[qOc hs h.1] at this;cases this
 rcases ht with rfl | ht
 ·rcases ht' with rfl | ht'
  ·exact hne rfl
  ·exact no h h' ht'
 ·rcases ht' with rfl | ht'
  ·exact no h' h ht
  ·rcases qVE hk hc hc' ht ht' hne with hm | hm
   ·exact no h h' hm
   ·exact no h' h hm
end Go.Kk.Pl
namespace Go.Kk.Pl
theorem qiz {f g:Nat->Bool} (h:∀ i,i<81->f i=g i):qAu f=qAu g:=by
 unfold qAu
 apply List.countP_congr
 intro i hi
 rw[h i (List.mem_range.mp hi)]
theorem qi3:∀ f:Fin 81,qAu (only ((f.val:Nat):Int))=1:=by decide +kernel
theorem qHJ {g:Nat->Bool}:qAu g=1 ↔ ∃ f,f<81 /\ ∀ i,i<81->(g i=true↔i=f):=by
 constructor
 ·intro h
  unfold qAu at h
  rw[List.countP_eq_length_filter] at h
  obtain⟨f,hf⟩:=List.length_eq_one_iff.mp h
  have hm:∀ i,i∈(List.range 81).filter g↔i=f:=by rw[hf];simp
  refine⟨f,?_,fun i hi=>?_⟩
  ·have:=(hm f).mpr rfl
   rw[List.mem_filter,List.mem_range] at this
   exact this.1
  ·rw[<- hm i,List.mem_filter,List.mem_range]
   exact⟨fun h=>⟨hi,h⟩,fun h=>h.2⟩
 ·rintro ⟨f,hf,h⟩
  rw[<- qi3 ⟨f,hf⟩]
  apply qiz
  intro i hi
  unfold only
  rw[Bool.eq_iff_iff,h i hi,decide_eq_true_eq]
  simp only
  omega
theorem qOk {g:Nat->Bool} {f:Nat} (hf:f<81) (h:∀ i,i<81->(g i=true↔i=f)):fst g=f:=by
 apply qKy hf ((h f hf).mpr rfl)
 intro i hi
 cases hg:g i with
 | false=>rfl
 | true=>exact absurd ((h i (by omega)).mp hg) (by omega)
def qED (k c:Nat) (i:Nat):Bool:=(btw c k).contains i||only c i
def qEa (b:List Int) (s:Int) (k c:Nat):Option Nat:=(List.range 81).find? fun f=>qAJ b s k f c
theorem qog {b:List Int} {s:Int} {k c f:Nat} (h:qAJ b s k f c=true) (hf:f<81):qEa b s k c=some f:=by
 unfold qEa
 cases hp:(List.range 81).find? fun f=>qAJ b s k f c with
 | none=>
   rw[List.find?_eq_none] at hp
   exact absurd h (hp f (List.mem_range.mpr hf))
 | some f'=>
   have:=List.find?_some hp
   rw[qZ8 this h]
theorem qZ6 {b:List Int} {s:Int} {k c:Nat} (h:∀ f,f<81->qAJ b s k f c=false):qEa b s k c=none:=by
 unfold qEa
 rw[List.find?_eq_none]
 intro f hf
 rw[h f (List.mem_range.mp hf)]
 simp
def qBt (b:List Int) (s:Int) (k:Nat) (P:Nat->Bool) (es:List (List Int×List Int)):Prop:=
 ∀ f:Nat,f<81->(qA4 es [(f:Int)]=true ↔ ∃ c,c<81 /\ P c=true /\ qAJ b s k f c=true) /\ ∀ c,c<81->P c=true->qAJ b s k f c=true->qA3 es [(f:Int)] [0,0]=prS (qED k c)
theorem qoj {b:List Int} (hcl:Clean b) (h:List Int) (S:Int) {s:Int} (hs:s=0 \/ s=1) {k:Nat} (hk:k<81) (x2:Nat) (x3 x4:Int) (x14:Nat) (x15:List Int) (N:Nat) (L:List Int) {i:Nat} (hi:i<L.length) (hl:L.length<=1000) {c:Nat} (hc:c<81) (hq:L[i]=(c:Int)) (he:enm b s c=true)
  (es:List (List Int×List Int)) (R:Int->Int->Nat->Int->Int->Nat->Int->Int->List Int->List Int->Int->List (List Int)->List (List Int)->List (List Int×List Int)->Nat->List Int->Nat->List Int->Option (Int×Int×Nat×Int×Int×List Int×List Int×Int×List (List Int)×List (List Int)×List (List Int×List Int)×Nat×List Int)):
  qF3 R s k x2 x3 x4 L.length L.length i b h S (qP b) (qS b) es x14 x15 N L =
   R s k x2 x3 x4 L.length L.length ((i+1:Nat):Int) b h S (qP b) (qS b) (match qEa b s k c with | none=>es | some f=>qAH es [(f:Int)] (prS (qED k c))) x14 x15 N L:=by
 unfold qF3
 have hget:L.getD i 0=L[i]:=qF1 hi
 rw[qe (by omega),qc (by omega) (by omega),tn,hget,hq,qaJ hc hk,qA]
 simp only
 rw[qJ7 hcl,qA]
 simp only
 rw[qEu,qA]
 simp only
 rw[qOV,qA,w_s (n:=(i:Int)+1) (by omega) (by omega)]
 have inm:∀ f,f<81->qAJ b s k f c=true->∀ i,i<81->(((btw c k).contains i&&tk b i)=true↔i=f):=by
  intro f _ hp i _
  rw[qDH] at hp
  rw[Bool.and_eq_true,List.contains_iff_mem]
  constructor
  ·rintro ⟨h1,h2⟩
   apply Classical.byContradiction
   intro hn
   rw[hp.2.2.2.2.2 i h1 hn] at h2;cases h2
  ·rintro rfl;exact⟨hp.2.2.1,hp.2.2.2.1⟩
 by_cases h1:((qAu fun i=>(btw c k).contains i&&tk b i:Nat):Int)=1
 ·rw [qr h1]
  obtain⟨f,hf,hm⟩:=qHJ.mp (by omega:(qAu fun i=>(btw c k).contains i&&tk b i)=1)
  have only_f:∀ f',f'<81->qAJ b s k f' c=true->f'=f:=fun f' hf' hp=>(hm f' hf').mp ((inm f' hf' hp f' hf').mpr rfl)
  have none':qAJ b s k f c=false->qEa b s k c=none:=by
   intro h0
   apply qZ6
   intro f' hf'
   cases hp:qAJ b s k f' c with
   | false=>rfl
   | true=>rw[only_f f' hf' hp,h0] at hp;cases hp
  have hmf:=(hm f hf).mpr rfl
  rw[Bool.and_eq_true,List.contains_iff_mem] at hmf
  rw[qQa,qA]
  simp only
  rw[qEu,qA]
  simp only
  rw[qJE,qA]
  by_cases hsd:sd (b.getD f 0)=s
  ·have hE0:isE (fun i=>((btw c k).contains i&&tk b i)&&sdP b s i)=false:=by
    cases hE:isE (fun i=>((btw c k).contains i&&tk b i)&&sdP b s i) with
    | false=>rfl
    | true=>
      have:=qCs.mp hE f hf
      rw[(hm f hf).mpr rfl] at this
      unfold sdP sds at this
      rw[decide_eq_true hs,decide_eq_true hsd] at this
      cases this
   rw[hE0,b_f]
   rw[qOh,qA,qC5,qA,qAa (by omega),tn]
   rw[qOk hf hm,qA]
   simp only
   rw[qKG,qA]
   simp only
   rw[qL3 _ hc,qA]
   simp only
   rw[qEQ,qA]
   have hh:∀ g:Nat->Bool,has g (k:Int)=g k:=by
    intro g;unfold has;rw[decide_eq_true (by omega),decide_eq_true (by omega),tn];rfl
   rw[hh]
   cases hr1:rch (b.getD c 0) c k (fun i=>tk b i && !only f i) with
   | false=>
     rw[Bool.not_false,b_t,none' ?_]
     ·rfl
     ·cases hp:qAJ b s k f c with
      | false=>rfl
      | true=>
        rw[qDH] at hp
        rw[<- hr1,qB4.mpr (.inr ⟨hp.2.1,?_⟩)]
        intro i hi
        by_cases hif:i=f
        ·subst hif;unfold only;simp
        ·rw[hp.2.2.2.2.2 i hi hif];rfl
   | true =>
     rw[Bool.not_true,b_f,qA,qA]
     simp only
     rw[qL3 _ hc,qA]
     simp only
     rw[qEQ,qA,hh]
     cases hr2:rch (b.getD c 0) c k (tk b) with
     | true=>
       rw[b_t,none' ?_]
       ·rfl
       ·cases hp:qAJ b s k f c with
        | false=>rfl
        | true=>
          rw[qDH] at hp
          rcases qB4.mp hr2 with hr | hr
          ·rw[qMw hr] at hmf;cases hmf.1
          ·rw[hr.2 f hmf.1] at hmf;cases hmf.2
     | false=>
       have hn:¬ (qAy (b.getD c 0) c k=true \/ (qAk (b.getD c 0) c k=true /\ ∀ i∈btw c k,tk b i=false)):=by
        rw[<- qB4,hr2];simp
       simp only[not_or] at hn
       have hp:qAJ b s k f c=true:=by
        rw[qDH]
        refine⟨he,((qB4.mp hr1).resolve_left hn.1).1,hmf.1,hmf.2,hsd,fun i hi hif=>?_⟩
        cases htk:tk b i with
        | false=>rfl
        | true=>
          exact absurd ((hm i (qI2 hc hk hi)).mp (by rw[Bool.and_eq_true,List.contains_iff_mem];exact⟨hi,htk⟩)) hif
       rw[b_f,qGx,qA,qog hp hf]
       rfl
  ·have hE0:isE (fun i=>((btw c k).contains i&&tk b i)&&sdP b s i)=true:=by
    rw[qCs]
    intro i hi
    cases hx:((btw c k).contains i&&tk b i) with
    | false=>rfl
    | true=>
      rw[(hm i hi).mp hx]
      unfold sdP sds
      rw[decide_eq_false hsd];simp
   rw[hE0,b_t,none' ?_]
   ·rfl
   ·cases hp:qAJ b s k f c with
    | false=>rfl
    | true=>exact absurd (qDH.mp hp).2.2.2.2.1 hsd
 ·rw [qp h1,qZ6 ?_]
  ·rfl
  ·intro f hf
   cases hp:qAJ b s k f c with
   | false=>rfl
   | true=>
     have:=qHJ.mpr ⟨f,hf,inm f hf hp⟩
     omega
theorem qoh {b:List Int} {s:Int} (hs:s=0 \/ s=1) {k:Nat} (hk:k<81) {P:Nat->Bool} {es:List (List Int×List Int)} (hP:qBt b s k P es) {c:Nat} (hc:c<81):
  qBt b s k (fun i=>P i||decide (i=c)) (match qEa b s k c with | none=>es | some f=>qAH es [(f:Int)] (prS (qED k c))):=by
 cases hp:qEa b s k c with
 | none=>
   unfold qEa at hp
   rw[List.find?_eq_none] at hp
   intro f hf
   have hno:=hp f (List.mem_range.mpr hf)
   obtain⟨h1,h2⟩:=hP f hf
   refine⟨?_,?_⟩
   ·rw[h1]
    constructor
    ·rintro ⟨c',a,a',a''⟩;exact⟨c',a,by simp[a'],a''⟩
    ·rintro ⟨c',a,a',a''⟩
     rw[Bool.or_eq_true,decide_eq_true_eq] at a'
     rcases a' with a' | rfl
     ·exact⟨c',a,a',a''⟩
     ·exact absurd a'' hno
   ·intro c' a a' a''
    rw[Bool.or_eq_true,decide_eq_true_eq] at a'
    rcases a' with a' | rfl
    ·exact h2 c' a a' a''
    ·exact absurd a'' hno
 | some g=>
   have hg:=List.find?_some (show (List.range 81).find? (fun f=>qAJ b s k f c)=some g from hp)
   have hg':g<81:=List.mem_range.mp (List.mem_of_find?_eq_some (show (List.range 81).find? (fun f=>qAJ b s k f c)=some g from hp))
   intro f hf
   obtain⟨h1,h2⟩:=hP f hf
   simp only
   rw[qki,qkb]
   by_cases hfg:f=g
   ·subst hfg
    rw[decide_eq_true rfl,if_pos rfl]
    refine⟨⟨fun _=>⟨c,hc,by simp,hg⟩,fun _=>rfl⟩,fun c' a _ a''=>?_⟩
    rw[qZ7 hs hk hc a hg a'']
   ·have hne:¬ ([(f:Int)]=[(g:Int)]):=by
     intro e
     have:=List.cons.inj e
     omega
    rw[decide_eq_false hne,if_neg hne,Bool.false_or]
    have hno:¬ qAJ b s k f c=true:=fun hp'=>hfg (qZ8 hp' hg)
    refine⟨?_,?_⟩
    ·rw[h1]
     constructor
     ·rintro ⟨c',a,a',a''⟩;exact⟨c',a,by simp[a'],a''⟩
     ·rintro ⟨c',a,a',a''⟩
      rw[Bool.or_eq_true,decide_eq_true_eq] at a'
      rcases a' with a' | rfl
      ·exact⟨c',a,a',a''⟩
      ·exact absurd a'' hno
    ·intro c' a a' a''
     rw[Bool.or_eq_true,decide_eq_true_eq] at a'
     rcases a' with a' | rfl
     ·exact h2 c' a a' a''
     ·exact absurd a'' hno
theorem qJb {b:List Int} {s:Int} {k:Nat} {P Q:Nat->Bool} {es:List (List Int×List Int)} (h:∀ i,i<81->P i=Q i) (hP:qBt b s k P es):qBt b s k Q es:=by
 intro f hf
 obtain⟨h1,h2⟩:=hP f hf
 refine⟨?_,fun c hc hq=>h2 c hc (by rw[h c hc];exact hq)⟩
 rw[h1]
 constructor
 ·rintro ⟨c,a,a',a''⟩;exact⟨c,a,by rw[<- h c a];exact a',a''⟩
 ·rintro ⟨c,a,a',a''⟩;exact⟨c,a,by rw[h c a];exact a',a''⟩
theorem qoi {b:List Int} (hcl:Clean b) (h:List Int) (S:Int) {s:Int} (hs:s=0 \/ s=1) {k:Nat} (hk:k<81) (x2:Nat) (x3 x4:Int) (x14:Nat) (x15:List Int) (N:Nat) (L:List Int) (hl:L.length<=1000) (hL:∀ q∈L,0<=q /\ q<81 /\ enm b s q.toNat=true):∀ (n i:Nat),i+n=L.length->∀ (P:Nat->Bool) (es:List (List Int×List Int)),qBt b s k P es->
  ∃ es',(∀ F,qEx (F+n+1) s k x2 x3 x4 L.length L.length i b h S (qP b) (qS b) es x14 x15 N L=some (s,(k:Int),x2,x3,x4,b,h,S,qP b,qS b,es',x14,x15)) /\ qBt b s k (fun c=>P c||(L.drop i).contains (c:Int)) es':=by
 intro n
 induction n with
 | zero=>
   intro i hi P es hP
   refine⟨es,fun F=>?_,?_⟩
   ·show qF3 (qEx (F+0)) _ _ _ _ _ _ _ _ _ _ _ _ _ _ _ _ _ _=_
    unfold qF3
    rw[qW (by omega)]
   ·rw[List.drop_eq_nil_of_le (by omega)]
    exact qJb (fun i _=>by simp) hP
 | succ n ih=>
   intro i hi P es hP
   have hil:i<L.length:=by omega
   obtain⟨q0,q1,q2⟩:=hL L[i] (List.getElem_mem hil)
   obtain⟨c,hc⟩:∃ c:Nat,L[i]=c:=⟨L[i].toNat,by omega⟩
   rw[hc] at q0 q1 q2
   obtain⟨es',h1,h2⟩:=ih (i+1) (by omega) _ _ (qoh hs hk hP (c:=c) (by omega))
   refine⟨es',fun F=>?_,qJb (fun j _=>?_) h2⟩
   ·show qF3 (qEx (F+n+1)) _ _ _ _ _ _ _ _ _ _ _ _ _ _ _ _ _ _=_
    rw[qoj hcl h S hs hk x2 x3 x4 x14 x15 N L hil hl (by omega) hc q2]
    exact h1 F
   ·rw[List.drop_eq_getElem_cons hil,List.contains_cons,hc,Bool.or_assoc]
    congr 2
    rw[Bool.eq_iff_iff,decide_eq_true_eq,beq_iff_eq]
    omega
def qAh:List Int:=[2,6,7,14,15]
theorem qlQ {b:List Int} (hcl:Clean b) (h:List Int) (S:Int) {s:Int} (hs:s=0 \/ s=1) {k:Nat} (hk:k<81):∀ (n i:Nat),i+n=5->∀ (P:Nat->Bool) (es:List (List Int×List Int)),qBt b s k P es->
  ∃ es',(∀ F,qEw (F+n+1) s k 5 5 i b h S (qP b) (qS b) es 5 qAh=some (b,h,S,qP b,qS b,es')) /\ qBt b s k (fun c=>P c||(qAh.drop i).any fun x=>pcs b (pc (1 - s) x) c) es':=by
 intro n
 induction n with
 | zero=>
   intro i hi P es hP
   refine⟨es,fun F=>?_,?_⟩
   ·show qG6 (qEw (F+0)) _ _ _ _ _ _ _ _ _ _ _ _ _=_
    unfold qG6
    rw[qW (by omega)]
   ·rw[List.drop_eq_nil_of_le (by show 5<=i;omega)]
    exact qJb (fun i _=>by simp) hP
 | succ n ih=>
   intro i hi P es hP
   have hil:i<qAh.length:=by show i<5;omega
   obtain⟨x,hx,hget,hdr⟩:∃ x,(x=2 \/ x=6 \/ x=7 \/ x=14 \/ x=15) /\ qAh.getD i 0=x /\ qAh.drop i=x :: qAh.drop (i+1):=by
    have:∀ j:Fin 5,(qAh.getD j.val 0=2 \/ qAh.getD j.val 0=6 \/ qAh.getD j.val 0=7 \/ qAh.getD j.val 0=14 \/ qAh.getD j.val 0=15) /\ qAh.drop j.val=qAh.getD j.val 0 :: qAh.drop (j.val+1):=by decide
    have:=this ⟨i,hil⟩
    exact⟨qAh.getD i 0,this.1,rfl,this.2⟩
   obtain⟨es1,h1,h2⟩:=qoi hcl h S hs hk 5 5 i 5 qAh (sq (pcs b (pc (1 - s) x))).length (sq (pcs b (pc (1 - s) x))) (by have:=qEl (pcs b (pc (1 - s) x));omega) (by
    intro q hq
    obtain⟨a,a',a''⟩:=qGq hq
    refine⟨a,a',?_⟩
    have:=of_decide_eq_true a''
    unfold enm
    rw[this.2,(qD8 (s:=1 - s) (by omega) (k:=x) (by omega) (by omega) (by omega)).1]
    simp) (sq (pcs b (pc (1 - s) x))).length 0 (by omega) P es hP
   obtain⟨es',h3,h4⟩:=ih (i+1) (by omega) _ _ h2
   obtain⟨g,hg⟩:=qh (sq (pcs b (pc (1 - s) x))).length (by have:=qEl (pcs b (pc (1 - s) x));omega)
   refine⟨es',fun F=>?_,qJb (fun j hj=>?_) h4⟩
   ·show qG6 (qEw (F+n+1)) _ _ _ _ _ _ _ _ _ _ _ _ _=_
    unfold qG6
    rw[qe (by omega),qc (by omega) (by omega),tn,hget,w_s (n:=1 - s) (by omega) (by omega),qGS,qA]
    simp only
    rw[qJ1,qA]
    simp only
    have:=h1 g
    rw[<- hg] at this
    rw[show qEx qB s k 5 5 i (sq (pcs b (pc (1 - s) x))).length (Int.ofNat (sq (pcs b (pc (1 - s) x))).length) 0 b h S (qP b) (qS b) es 5 qAh (sq (pcs b (pc (1 - s) x))).length (sq (pcs b (pc (1 - s) x)))=_ from this,qA]
    simp only
    rw[w_s (n:=(i:Int)+1) (by omega) (by omega)]
    exact h3 F
   ·rw[hdr,List.any_cons,List.drop_zero,<- Bool.or_assoc]
    congr 2
    cases hp:pcs b (pc (1 - s) x) j with
    | true=>rw[List.contains_iff_mem.mpr (qYn hj hp)]
    | false=>
      cases hcn:(sq (pcs b (pc (1 - s) x))).contains (j:Int) with
      | false=>rfl
      | true=>
        have:=(qGq (List.contains_iff_mem.mp hcn)).2.2
        rw[tn,hp] at this
        cases this
theorem qs5 {b:List Int} {s:Int} (_hs:s=0 \/ s=1) {c k:Nat} (he:enm b s c=true) (h:qAk (b.getD c 0) c k=true):(qAh.any fun x=>pcs b (pc (1 - s) x) c)=true:=by
 have he:=of_decide_eq_true he
 have h:=of_decide_eq_true h
 have hk:kd (b.getD c 0)=2 \/ kd (b.getD c 0)=6 \/ kd (b.getD c 0)=7 \/ kd (b.getD c 0)=14 \/ kd (b.getD c 0)=15:=by
  unfold slK at h;omega
 have hx:=qLr (x:=b.getD c 0) (by omega)
 rw[List.any_eq_true]
 refine⟨kd (b.getD c 0),?_,?_⟩
 ·unfold qAh
  rcases hk with h | h | h | h | h<;>rw[h]<;>simp
 ·unfold pcs
  rw[decide_eq_true_eq,<- he,<- hx]
  refine⟨fun h0=>?_,rfl⟩
  rw[h0,qFJ] at hk
  omega
theorem qol {b:List Int} (hcl:Clean b) (h:List Int) (S:Int) {s:Int} (hs:s=0 \/ s=1):∃ es,qG4 s b h S (qP b) (qS b)=some es /\
  (kg b s<0->es=[]) /\ (0<=kg b s->qBt b s (kg b s).toNat (fun c=>enm b s c&&(qAh.any fun x=>pcs b (pc (1 - s) x) c)) es):=by
 have hr:=qWV (pcs b (pc s 8))
 unfold qG4
 rw[qPO,show fst (pcs b (pc s 8))=kg b s from rfl,qA]
 by_cases hk:kg b s<0
 ·rw[qe hk]
  exact⟨[],rfl,fun _=>rfl,fun h=>by omega⟩
 ·rw [qW hk]
  have hk1:kg b s<81:=hr.2
  obtain⟨k,hkk⟩:∃ k:Nat,kg b s=k:=⟨(kg b s).toNat,by omega⟩
  rw[hkk]
  have h0:qBt b s k (fun _=>false) []:=by
   intro f hf
   exact⟨⟨fun h=>(by cases h),fun⟨_,_,h,_⟩=>(by cases h)⟩,fun _ _ h=>(by cases h)⟩
  obtain⟨es,h1,h2⟩:=qlQ hcl h S hs (k:=k) (by omega) 5 0 rfl _ [] h0
  obtain⟨g,hg⟩:=qh 5 (by omega)
  have:=h1 g
  rw[<- hg] at this
  refine⟨es,?_,fun h=>by omega,fun _=>?_⟩
  ·rw[show qEw qB s k 5 5 0 b h S (qP b) (qS b) [] 5 [2,6,7,14,15]=_ from this,qA]
  ·rw[tn]
   refine qJb (fun i _=>?_) h2
   rw[List.drop_zero,Bool.false_or]
   cases ha:(qAh.any fun x=>pcs b (pc (1 - s) x) i) with
   | false=>simp
   | true=>
     rw[List.any_eq_true] at ha
     obtain⟨x,hx,hp⟩:=ha
     have:=of_decide_eq_true hp
     unfold qAh at hx
     have hx':x=2 \/ x=6 \/ x=7 \/ x=14 \/ x=15:=by simpa using hx
     unfold enm
     rw[this.2,(qD8 (s:=1 - s) (by omega) (k:=x) (by omega) (by omega) (by omega)).1]
     simp
end Go.Kk.Pl
namespace Go.Kk.Pl
def laid (b:List Int) (s f d:Int) (p:Bool):Int:=if d≠0 then 16*s+d else if p=true then 16*s+up_ (kd (at_ b f)) else at_ b f
def was (b:List Int) (s f d:Int):Int:=if d≠0 then 16*s+d else at_ b f
def mb (b:List Int) (s f t d:Int) (p:Bool):List Int:=if d≠0 then put b t (laid b s f d p) else put (put b f 0) t (laid b s f d p)
def mh (b h:List Int) (s t d:Int):List Int:=if d≠0 then qx h s d (-1) else if at_ b t=0 then h else qx h s (rw_ (kd (at_ b t))) 1
def qHs (K:Int) (b h:List Int) (s f t d:Int) (p:Bool):Int:=qLD (if d≠0 then qCW (qFL K h s d (-1)) b t (laid b s f d p) else
 if at_ b t=0 then qCW (qCW K b f 0) (put b f 0) t (laid b s f d p) else qFL (qCW (qCW K b f 0) (put b f 0) t (laid b s f d p)) h s (rw_ (kd (at_ b t))) 1)
theorem qIm {k:Int} (h:up_ k≠0):1<=up_ k /\ up_ k<=15 /\ up_ k≠13:=by
 unfold up_ at h ⊢
 split
 ·omega
 ·rename_i h2;rw[if_neg h2] at h;exact absurd rfl h
end Go.Kk.Pl
namespace Go.Kk.Pl
def kof (b h:List Int) (s:Int):Int:=(qER b h s).getD 0
theorem qlS (b h:List Int) (s:Int):qER b h s=some (kof b h s):=by
 obtain⟨k,hk,_⟩:=qlJ b h s
 unfold kof;rw[hk];rfl
end Go.Kk.Pl
namespace Go.Kk.Pl
def dl (x k:Int):Int:=if rw_ (kd x)=k then 1 else 0
theorem qVa (x:Int) (l:List Int) (k:Int):(cnt (x :: l) k:Int)=cnt l k+dl x k:=by
 unfold cnt dl
 rw[List.countP_cons]
 by_cases h:rw_ (kd x)=k
 ·simp[h]
 ·have:(rw_ (kd x)==k)=false:=by simpa using h
  simp[h]
theorem qi4 (x k:Int):∀ (l:List Int) (i:Nat),i<l.length->(cnt (l.set i x) k:Int)+dl (l.getD i 0) k=cnt l k+dl x k:=by
 intro l
 induction l with
 | nil=>intro i hi;simp at hi
 | cons y l ih=>
   intro i hi
   cases i with
   | zero=>
     simp only[List.set_cons_zero,qVa,List.getD_cons_zero]
     omega
   | succ i=>
     have:=ih i (by simpa using hi)
     simp only[List.set_cons_succ,qVa,List.getD_cons_succ]
     omega
theorem qku (x:Int):kd (if kd x=0 then 0 else x)=kd x:=by
 split
 ·rename_i h;rw[h];exact qFJ
 ·rfl
theorem qOT {b:List Int} (hl:b.length=81) {q:Int} (hq:0<=q /\ q<81) (x k:Int):(cnt (put b q x) k:Int)+dl (at_ b q) k=cnt b k+dl x k:=by
 unfold put at_
 rw[if_pos hq,if_pos hq]
 have:=qi4 (if kd x=0 then 0 else x) k b q.toNat (by omega)
 have e:dl (if kd x=0 then 0 else x) k=dl x k:=by unfold dl;rw[qku]
 rw[e] at this
 exact this
theorem qOZ {k:Int} (h:1<=k):dl 0 k=0:=by
 unfold dl
 rw[if_neg]
 rw[qFJ]
 unfold rw_
 rw[if_pos (by omega)]
 omega
theorem qFz {n:Int} (h1:-128<=n) (h2:n<=127):IntKind.wrap .i8 n=n:=qBE h1 h2
theorem qur (n:Int):-128<=IntKind.wrap .i8 n /\ IntKind.wrap .i8 n<=127:=by
 simp[IntKind.wrap,IntKind.signed,IntKind.bits]
 omega
theorem qO4 (h:List Int) (s k d:Int):(qx h s k d).length=h.length:=by simp[qx]
theorem qWM {h:List Int} (hf:qAZ h) (s k d:Int):qAZ (qx h s k d):=by
 intro i
 unfold qx
 by_cases e:s.toNat*8+k.toNat=i
 ·by_cases hi:i<h.length
  ·subst e
   rw[List.getD_eq_getElem?_getD,List.getElem?_set_self hi]
   exact qur _
  ·rw[List.getD_eq_getElem?_getD,List.getElem?_eq_none (by simpa using hi)]
   simp
 ·rw[List.getD_eq_getElem?_getD,List.getElem?_set_ne e,<- List.getD_eq_getElem?_getD]
  exact hf i
theorem qFG {h:List Int} (hl:h.length=16) {s k:Int} (hs:s=0 \/ s=1) (k0:0<=k) (k1:k<8) (d:Int) {s' k':Int} (hs':s'=0 \/ s'=1) (k0':0<=k') (k1':k'<8):
  hd_ (qx h s k d) s' k'=if s'=s /\ k'=k then IntKind.wrap .i8 (hd_ h s k+d) else hd_ h s' k':=by
 by_cases e:s'=s /\ k'=k
 ·obtain⟨rfl,rfl⟩:=e
  rw[if_pos ⟨rfl,rfl⟩]
  unfold qx
  rw[show hd_ (h.set (s'.toNat*8+k'.toNat) (IntKind.wrap .i8 (hd_ h s' k'+d))) s' k'=(h.set (s'.toNat*8+k'.toNat) (IntKind.wrap .i8 (hd_ h s' k'+d))).getD (s'.toNat*8+k'.toNat) 0 from rfl,
   List.getD_eq_getElem?_getD,List.getElem?_set_self (by rcases hs' with rfl | rfl<;>simp<;>omega)]
  rfl
 ·rw[if_neg e]
  unfold qx hd_
  rw[List.getD_eq_getElem?_getD,List.getElem?_set_ne (by rcases hs with rfl | rfl<;>rcases hs' with rfl | rfl<;>simp<;>omega),<- List.getD_eq_getElem?_getD]
theorem qHM {h:List Int} (hf:qAZ h) (s k:Int):-128<=hd_ h s k /\ hd_ h s k<=127:=hf _
theorem qrw {k:Int} (h1:1<=k) (h2:k<8):rw_ k=k:=by
 unfold rw_
 rw[if_neg (by omega),if_neg (by omega)]
theorem qrx {k:Int} (h:up_ k≠0):rw_ (up_ k)=rw_ k:=by
 unfold up_ at h ⊢
 split
 ·unfold rw_
  rw[if_neg (by omega),if_pos (by omega),if_neg (by omega),if_neg (by omega)]
  omega
 ·rename_i h2;rw[if_neg h2] at h;exact absurd rfl h
theorem qof {b h:List Int} {s:Int} (hS:Sound b h s) (hf:qAZ h) (hl:h.length=16) {f t d:Int} {p:Bool} (hP:CanP b h s f t d p) {k:Int} (k0:1<=k) (k1:k<8):
  (cnt (mb b s f t d p) k:Int)+hd_ (mh b h s t d) 0 k+hd_ (mh b h s t d) 1 k=cnt b k+hd_ h 0 k+hd_ h 1 k:=by
 have hsd:=hS.side
 by_cases hd:d=0
 ·obtain⟨f0,f1,f2,g1,g2,g3,g4⟩:=hP.move hd
  unfold mb mh
  rw[if_neg (by simpa using hd),if_neg (by simpa using hd)]
  have c1:=qOT hS.clean.len ⟨f0,f1⟩ 0 k
  have c2:=qOT (hS.clean.put f 0).len hP.to_ (laid b s f d p) k
  have e1:at_ (put b f 0) t=at_ b t:=by rw[qDU hS.clean.len ⟨f0,f1⟩,if_neg (Ne.symm f2)]
  rw[e1] at c2
  rw[qOZ k0] at c1
  have e2:dl (laid b s f d p) k=dl (at_ b f) k:=by
   unfold laid
   rw[if_neg (by simpa using hd)]
   cases p with
   | false=>rfl
   | true=>
     have hu:=g4 rfl
     obtain⟨u1,u2,u3⟩:=qIm hu
     rw[if_pos rfl]
     unfold dl
     rw[qHb hsd u1 u2 u3,qrx hu]
  rw[e2] at c2
  by_cases ht:at_ b t=0
  ·rw[if_pos ht]
   rw[ht,qOZ k0] at c2
   omega
  ·rw[if_neg ht]
   have hk:=(hS.clean.at_ t).resolve_left ht
   obtain⟨r1,r2⟩:=qIQ hk g3
   have hc:=hS.counts _ r1 r2
   have h0:=hS.hands (rw_ (kd (at_ b t))) (by omega) r2
   rw[qFG hl hsd (by omega) r2 1 (.inl rfl) (by omega) k1,qFG hl hsd (by omega) r2 1 (.inr rfl) (by omega) k1]
   by_cases hkr:k=rw_ (kd (at_ b t))
   ·have e3:dl (at_ b t) k=1:=by unfold dl;rw[if_pos hkr.symm]
    rw[e3] at c2
    rcases hsd with rfl | rfl
    ·rw[if_pos ⟨rfl,hkr⟩,if_neg (by omega),qFz (by omega) (by omega),<- hkr]
     omega
    ·rw[if_neg (by omega),if_pos ⟨rfl,hkr⟩,qFz (by omega) (by omega),<- hkr]
     omega
   ·have e3:dl (at_ b t) k=0:=by unfold dl;rw[if_neg (Ne.symm hkr)]
    rw[e3] at c2
    rw[if_neg (fun h=>hkr h.2),if_neg (fun h=>hkr h.2)]
    omega
 ·obtain⟨d0,d1,d2,d3,g1,g2⟩:=hP.drop hd
  unfold mb mh
  rw[if_pos hd,if_pos hd]
  have c1:=qOT hS.clean.len hP.to_ (laid b s f d p) k
  have hl':laid b s f d p=16*s+d:=by unfold laid;rw[if_pos hd]
  rw[g2,qOZ k0,hl'] at c1
  rw[hl']
  have hb:=qHM hf s d
  rw[qFG hl hsd (by omega) d1 (-1) (.inl rfl) (by omega) k1,qFG hl hsd (by omega) d1 (-1) (.inr rfl) (by omega) k1]
  have e3:dl (16*s+d) k=if d=k then 1 else 0:=by
   unfold dl
   rw[qHb hsd (by omega) (by omega) (by omega),qrw (by omega) d1]
  rw[e3] at c1
  by_cases hkd:k=d
  ·subst hkd
   rw[if_pos rfl] at c1
   rcases hsd with rfl | rfl
   ·rw[if_pos ⟨rfl,rfl⟩,if_neg (by omega),qFz (by omega) (by omega)]
    omega
   ·rw[if_neg (by omega),if_pos ⟨rfl,rfl⟩,qFz (by omega) (by omega)]
    omega
  ·rw[if_neg (Ne.symm hkd)] at c1
   rw[if_neg (fun h=>hkd h.2),if_neg (fun h=>hkd h.2)]
   omega
theorem qP6 {b:List Int} (hc:Clean b) (s f t d:Int) (p:Bool):Clean (mb b s f t d p):=by
 unfold mb
 split
 ·exact hc.put _ _
 ·exact (hc.put _ _).put _ _
theorem qme {h:List Int} (hf:qAZ h) (b:List Int) (s t d:Int):qAZ (mh b h s t d):=by
 unfold mh
 split
 ·exact qWM hf _ _ _
 ·split
  ·exact hf
  ·exact qWM hf _ _ _
theorem qmf {h:List Int} (hl:h.length=16) (b:List Int) (s t d:Int):(mh b h s t d).length=16:=by
 unfold mh
 split
 ·rw[qO4];exact hl
 ·split
  ·exact hl
  ·rw[qO4];exact hl
end Go.Kk.Pl
namespace Go.Kk.Pl
theorem canP {b h:List Int} {s f t d:Int} {p:Bool} (hm:qBv b h s f t d p=true):(s=0 \/ s=1) /\ CanP b h s f t d p:=by
 unfold qBv at hm
 rw[Bool.and_eq_true,Bool.and_eq_true,decide_eq_true_eq,decide_eq_true_eq] at hm
 obtain⟨h1,hs,h2⟩:=hm
 obtain⟨ht,hd,hmv⟩:=qI8 h1
 refine⟨hs,ht,fun d0=>?_,fun d0=>?_⟩
 ·rw[if_pos d0] at h2
  simp only[Bool.and_eq_true,decide_eq_true_eq] at h2
  have:=hd d0
  exact⟨by omega,by omega,this.2.2.1,this.2.2.2,by omega,h2.2⟩
 ·rw[if_neg (by simpa using d0)] at h2
  simp only[Bool.and_eq_true,decide_eq_true_eq,Bool.or_eq_true,Bool.not_eq_true'] at h2
  obtain⟨h3,h4⟩:=hmv d0
  exact⟨h3.1,h3.2,h4,h2.1.1,h2.1.2.1,h2.1.2.2,fun hp=>by
   rcases h2.2 with h5 | h5
   ·rw[hp] at h5;cases h5
   ·exact h5⟩
theorem qFQ {b h:List Int} {s f t d:Int} {p:Bool} (hm:qz b h s f t d p=true):(s=0 \/ s=1) /\ CanP b h s f t d p:=by
 unfold qz at hm
 rw[Bool.and_eq_true] at hm
 exact canP hm.1
theorem qO9 {x s:Int} (hs:s=0 \/ s=1) (h:sd x=s):kd x≠0:=by
 intro h0
 rw[qdJ h0] at h
 omega
theorem qFM {b h:List Int} {s f t d:Int} {p:Bool} (hs:s=0 \/ s=1) (hP:CanP b h s f t d p):sd (laid b s f d p)=s /\ kd (laid b s f d p)≠0 /\ (laid b s f d p=pc s 8↔d=0 /\ at_ b f=pc s 8):=by
 unfold laid
 by_cases hd:d=0
 ·have hm:=hP.move hd
  rw[if_neg (by simpa using hd)]
  cases p with
  | false=>
    rw[if_neg (by simp)]
    exact⟨hm.2.2.2.1,qO9 hs hm.2.2.2.1,fun h=>⟨hd,h⟩,fun h=>h.2⟩
  | true=>
    rw[if_pos rfl]
    have hu:=hm.2.2.2.2.2.2 rfl
    obtain⟨u1,u2,u3⟩:=qIm hu
    have hx:=qD8 hs u1 u2 u3
    rw[qAw hs u1 u2 u3] at hx
    have u8:up_ (kd (at_ b f))≠8:=by unfold up_;split<;>omega
    refine⟨hx.1,by rw[hx.2];omega,fun h=>?_,fun h=>?_⟩
    ·rw[qAw hs (by omega) (by omega) (by omega)] at h
     omega
    ·exfalso
     apply hu
     rw[h.2,(qD8 hs (by omega) (by omega) (by omega)).2]
     rfl
 ·have hm:=hP.drop hd
  rw[if_pos hd]
  have hx:=qD8 hs (k:=d) (by omega) (by omega) (by omega)
  rw[qAw hs (by omega) (by omega) (by omega)] at hx
  refine⟨hx.1,by rw[hx.2];exact hd,fun h=>?_,fun h=>absurd h.1 hd⟩
  rw[qAw hs (by omega) (by omega) (by omega)] at h
  omega
theorem qEU {b h:List Int} {s f t d:Int} {p:Bool} (hc:Clean b) (hs:s=0 \/ s=1) (hP:CanP b h s f t d p) {i:Nat} (hi:i<81):
  (mb b s f t d p).getD i 0=if i=t.toNat then laid b s f d p else if d=0 /\ i=f.toNat then 0 else b.getD i 0:=by
 have ht:=hP.to_
 have hl:=(qFM hs hP).2.1
 have e1:(mb b s f t d p).getD i 0=at_ (mb b s f t d p) i:=by rw[qAa (by omega),tn]
 have e2:b.getD i 0=at_ b i:=by rw[qAa (by omega),tn]
 rw[e1,e2]
 unfold mb
 by_cases hd:d=0
 ·have hm:=hP.move hd
  rw[if_neg (by simpa using hd),qDU (hc.put f 0).1 ht,if_neg hl,qDU hc.1 ⟨hm.1,hm.2.1⟩]
  by_cases h1:i=t.toNat
  ·rw[if_pos (c:=(i:Int)=t) (by omega),if_pos h1]
  ·rw[if_neg (c:=(i:Int)=t) (by omega),if_neg h1]
   by_cases h2:i=f.toNat
   ·rw[if_pos (c:=(i:Int)=f) (by omega),if_pos (c:=d=0 /\ i=f.toNat) ⟨hd,h2⟩];rfl
   ·rw[if_neg (c:=(i:Int)=f) (by omega),if_neg (fun h=>h2 h.2)]
 ·rw[if_pos hd,qDU hc.1 ht,if_neg hl]
  by_cases h1:i=t.toNat
  ·rw[if_pos h1,if_pos (by omega)]
  ·rw[if_neg h1,if_neg (by omega),if_neg (fun h=>hd h.1)]
def KS (b:List Int) (s:Int) (k:Nat):Prop:=k<81 /\ ∀ i,i<81->(b.getD i 0=pc s 8↔i=k)
theorem pc8 {s:Int} (hs:s=0 \/ s=1):pc s 8=16*s+8:=qAw hs (by omega) (by omega) (by omega)
theorem KS.kg {b:List Int} {s:Int} {k:Nat} (hs:s=0 \/ s=1) (h:KS b s k):kg b s=k:=by
 apply qOk h.1
 intro i hi
 unfold pcs
 rw[decide_eq_true_eq,h.2 i hi,pc8 hs]
 exact⟨fun h=>h.2,fun h=>⟨by omega,h⟩⟩
theorem qLC {b h:List Int} {s':Int} (hz:qAt b h s'=0) {s:Int} (hs:s=0 \/ s=1):∃ k,KS b s k:=by
 have hn:nP b 8=1 /\ nP b 24=1:=by
  unfold qAt at hz
  split at hz
  ·omega
  ·split at hz
   ·omega
   ·split at hz
    ·omega
    ·split at hz
     ·omega
     ·rename_i h;simpa using h
 have:nP b (pc s 8)=1:=by
  rw[pc8 hs]
  rcases hs with rfl | rfl
  ·exact hn.1
  ·exact hn.2
 obtain⟨k,hk,h⟩:=qHJ.mp (show qAu (fun i=>b.getD i 0==pc s 8)=1 from this)
 exact⟨k,hk,fun i hi=>by rw[<- h i hi,beq_iff_eq]⟩
theorem KS.sd {b:List Int} {s:Int} {k:Nat} (hs:s=0 \/ s=1) (h:KS b s k):sd (b.getD k 0)=s /\ kd (b.getD k 0)=8:=by
 rw[(h.2 k h.1).mpr rfl]
 exact qD8 hs (by omega) (by omega) (by omega)
theorem qPP {b h:List Int} {s f t d:Int} {p:Bool} (hc:Clean b) (hs:s=0 \/ s=1) (hP:CanP b h s f t d p) {k:Nat} (hk:KS b s k):
  KS (mb b s f t d p) s (if d=0 /\ f.toNat=k then t.toNat else k):=by
 have ht:=hP.to_
 have hl:=qFM hs hP
 have hkt:k≠t.toNat:=by
  intro e
  have h1:=(hk.sd hs)
  have e2:b.getD k 0=at_ b t:=by rw[qAa ht,e]
  rw[e2] at h1
  by_cases hd:d=0
  ·exact (hP.move hd).2.2.2.2.1 h1.1
  ·rw[(hP.drop hd).2.2.2.2.2,qFJ] at h1
   omega
 have hp0:(0:Int)≠pc s 8:=by rw[pc8 hs];omega
 refine⟨by split;omega;exact hk.1,fun i hi=>?_⟩
 rw[qEU hc hs hP hi]
 by_cases h1:i=t.toNat
 ·rw[if_pos h1,hl.2.2]
  by_cases hd:d=0
  ·have hm:=hP.move hd
   rw[qAa ⟨hm.1,hm.2.1⟩,hk.2 _ (by omega)]
   by_cases hfk:f.toNat=k
   ·rw[if_pos ⟨hd,hfk⟩];exact⟨fun _=>h1,fun _=>⟨hd,hfk⟩⟩
   ·rw[if_neg (fun h=>hfk h.2)]
    exact⟨fun h=>absurd h.2 hfk,fun h=>absurd (h.symm.trans h1) hkt⟩
  ·rw[if_neg (fun h=>hd h.1)]
   exact⟨fun h=>absurd h.1 hd,fun h=>absurd (h.symm.trans h1) hkt⟩
 ·rw[if_neg h1]
  by_cases h2:d=0 /\ i=f.toNat
  ·rw[if_pos h2]
   refine⟨fun h=>absurd h hp0,fun h=>?_⟩
   split at h
   ·exact absurd h h1
   ·rename_i h3;exact absurd ⟨h2.1,by omega⟩ h3
  ·rw[if_neg h2,hk.2 i hi]
   split
   ·rename_i h3
    exact⟨fun h=>absurd ⟨h3.1,by omega⟩ h2,fun h=>absurd h h1⟩
   ·exact Iff.rfl
theorem qLB {b h:List Int} {s f t d:Int} {p:Bool} (hc:Clean b) (hs:s=0 \/ s=1) (hP:CanP b h s f t d p) {k:Nat} (hk:KS b (1 - s) k):
  KS (mb b s f t d p) (1 - s) k:=by
 have ht:=hP.to_
 have hl:=qFM hs hP
 have hs':1 - s=0 \/ 1 - s=1:=by omega
 have hkt:k≠t.toNat:=by
  intro e
  have h1:=(hk.sd hs')
  have e2:b.getD k 0=at_ b t:=by rw[qAa ht,e]
  rw[e2] at h1
  by_cases hd:d=0
  ·exact (hP.move hd).2.2.2.2.2.1 h1.2
  ·rw[(hP.drop hd).2.2.2.2.2,qFJ] at h1
   omega
 have hp0:(0:Int)≠pc (1 - s) 8:=by rw[pc8 hs'];omega
 refine⟨hk.1,fun i hi=>?_⟩
 rw[qEU hc hs hP hi]
 by_cases h1:i=t.toNat
 ·rw[if_pos h1]
  refine⟨fun h=>?_,fun h=>absurd (h.symm.trans h1) hkt⟩
  have:=hl.1
  rw[h,(qD8 hs' (by omega) (by omega) (by omega)).1] at this
  omega
 ·rw[if_neg h1]
  by_cases h2:d=0 /\ i=f.toNat
  ·rw[if_pos h2]
   refine⟨fun h=>absurd h hp0,fun h=>?_⟩
   have hm:=hP.move h2.1
   have h3:=(hk.sd hs').1
   rw[<- h,h2.2,<- qAa ⟨hm.1,hm.2.1⟩,hm.2.2.2.1] at h3
   omega
  ·rw[if_neg h2]
   exact hk.2 i hi
theorem qE7 {b:List Int} {s:Int} (hs:s=0 \/ s=1) {k:Nat} (hk:kg b s=k) (h81:k<81) (c:Nat):chs b s c=atk b s k c:=by
 unfold chs onS atk enm
 rw[hk,decide_eq_true (by omega),decide_eq_true (by omega),tn]
 rfl
def fof (f t d:Int):Nat:=if d=0 then f.toNat else t.toNat
theorem qTQ {b h:List Int} {s f t d:Int} {p:Bool} (hc:Clean b) (hs:s=0 \/ s=1) (hP:CanP b h s f t d p) {i:Nat} (hi:i<81):tk (mb b s f t d p) i=tk2 b (fof f t d) t.toNat i:=by
 have hl:=qFM hs hP
 unfold tk tk2 fof
 rw[qEU hc hs hP hi]
 by_cases h1:i=t.toNat
 ·rw[if_pos h1,decide_eq_true h1,Bool.true_or,decide_eq_true_eq]
  intro h0
  rw[h0,qFJ] at hl
  exact hl.2.1 rfl
 ·rw[if_neg h1,decide_eq_false h1,Bool.false_or]
  by_cases hd:d=0
  ·rw[if_pos hd]
   by_cases h2:i=f.toNat
   ·rw[if_pos ⟨hd,h2⟩,decide_eq_true h2];simp
   ·rw[if_neg (fun h=>h2 h.2),decide_eq_false h2];rfl
  ·rw[if_neg hd,if_neg (fun h=>hd h.1),decide_eq_false h1];rfl
theorem qV7 {b h:List Int} {s f t d:Int} {p:Bool} (hc:Clean b) (hs:s=0 \/ s=1) (hP:CanP b h s f t d p) {c:Nat} (hcc:c<81):enm (mb b s f t d p) s c=(decide (c≠t.toNat)&&enm b s c) /\ (enm (mb b s f t d p) s c=true->(mb b s f t d p).getD c 0=b.getD c 0):=by
 have hl:=qFM hs hP
 unfold enm
 rw[qEU hc hs hP hcc]
 by_cases h1:c=t.toNat
 ·rw[if_pos h1,hl.1,decide_eq_false (p:=s=1 - s) (by omega),decide_eq_false (p:=c≠t.toNat) (by simpa using h1)]
  exact⟨rfl,fun h=>by cases h⟩
 ·rw[if_neg h1,decide_eq_true (p:=c≠t.toNat) h1,Bool.true_and]
  by_cases h2:d=0 /\ c=f.toNat
  ·rw[if_pos h2,qJu]
   have hm:=hP.move h2.1
   rw[h2.2,<- qAa ⟨hm.1,hm.2.1⟩,hm.2.2.2.1,decide_eq_false (p:=(-1:Int)=1 - s) (by omega),decide_eq_false (p:=s=1 - s) (by omega)]
   exact⟨rfl,fun h=>by cases h⟩
  ·rw[if_neg h2]
   exact⟨rfl,fun _=>rfl⟩
theorem qVT {b h:List Int} {s f t d:Int} {p:Bool} (hc:Clean b) (hs:s=0 \/ s=1) (hP:CanP b h s f t d p) {k:Nat} (hk:KS b s k) (hn:¬ (d=0 /\ f.toNat=k)) {c:Nat} (hcc:c<81):
  chs (mb b s f t d p) s c=qEH b s k (fof f t d) t.toNat c:=by
 have hk2:=qPP hc hs hP hk
 rw[if_neg hn] at hk2
 rw[qE7 hs (hk2.kg hs) hk.1]
 obtain⟨e1,e2⟩:=qV7 hc hs hP hcc
 unfold atk qEH
 cases he:enm (mb b s f t d p) s c with
 | false=>
   rw[he] at e1
   rw[Bool.false_and,<- Bool.and_assoc,<- e1,Bool.false_and]
 | true=>
   rw[<- Bool.and_assoc,<- e1,he,Bool.true_and,Bool.true_and,e2 he]
   exact qac hcc hk.1 (fun i hi=>qTQ hc hs hP hi)
theorem qVS {b h:List Int} {s f t d:Int} {p:Bool} (hc:Clean b) (hs:s=0 \/ s=1) (hP:CanP b h s f t d p) {k:Nat} (hk:KS b s k) (hn:d=0 /\ f.toNat=k) {c:Nat} (hcc:c<81):
  chs (mb b s f t d p) s c=onS b t (1 - s) (fun i=>tk b i && !only f i) c:=by
 have hk2:=qPP hc hs hP hk
 have ht:=hP.to_
 have hm:=hP.move hn.1
 rw[if_pos hn] at hk2
 rw[qE7 hs (hk2.kg hs) hk2.1]
 obtain⟨e1,e2⟩:=qV7 hc hs hP hcc
 unfold atk onS
 rw[decide_eq_true ht,decide_eq_true (p:=1 - s=0 \/ 1 - s=1) (by omega),Bool.true_and,Bool.true_and]
 show _=(enm b s c&&_)
 by_cases h1:c=t.toNat
 ·rw[e1,decide_eq_false (p:=c≠t.toNat) (by simpa using h1),<- h1,qad,qad,Bool.and_false,Bool.and_false]
 ·rw [decide_eq_true (p:=c≠t.toNat) h1,Bool.true_and] at e1
  rw[e1]
  cases he:enm b s c with
  | false=>rfl
  | true=>
    rw[e2 (by rw[e1,he]),Bool.true_and,Bool.true_and,Bool.eq_iff_iff,qB4,qB4]
    have:∀ i∈btw c t.toNat,tk (mb b s f t d p) i=(tk b i && !only f i):=by
     intro i hi
     have hw:=qI3 (by omega) hcc hi
     rw[qTQ hc hs hP hw.1]
     unfold tk2 fof only
     rw[decide_eq_false hw.2.1,if_pos hn.1,Bool.false_or,Bool.and_comm]
     congr 2
     rw[decide_eq_decide]
     omega
    constructor
    ·rintro (h | ⟨h,h'⟩)
     ·exact .inl h
     ·exact .inr ⟨h,fun i hi=>by rw[<- this i hi];exact h' i hi⟩
    ·rintro (h | ⟨h,h'⟩)
     ·exact .inl h
     ·exact .inr ⟨h,fun i hi=>by rw[this i hi];exact h' i hi⟩
def qt (b:List Int) (s:Int) (t:Nat):Bool:=(List.range 81).all fun c=>!chs b s c||qED (kg b s).toNat c t
def qGV (b:List Int) (s:Int) (f t:Nat):Bool:=(List.range 81).all fun c=>!qAJ b s (kg b s).toNat f c||qED (kg b s).toNat c t
def stB (b:List Int) (s:Int) (f t:Nat):Bool:=if (f:Int)=kg b s then isE (onS b t (1 - s) (fun i=>tk b i && !only f i)) else qt b s t&&qGV b s f t
theorem qKF {k c t:Nat}:qED k c t=true↔t=c \/ t∈btw c k:=by
 unfold qED only
 rw[Bool.or_eq_true,List.contains_iff_mem,decide_eq_true_eq]
 constructor
 ·rintro (h | h)
  ·exact .inr h
  ·exact .inl (by omega)
 ·rintro (h | h)
  ·exact .inr (by omega)
  ·exact .inl h
theorem qJX {b:List Int} {s:Int} (hs:s=0 \/ s=1) {k:Nat} (hk:KS b s k) {t:Nat}:qt b s t=true ↔ ∀ c,c<81->atk b s k c=true->t=c \/ t∈btw c k:=by
 have hkg:=hk.kg hs
 unfold qt
 rw[List.all_eq_true,hkg,tn]
 constructor
 ·intro h c hc ha
  have:=h c (List.mem_range.mpr hc)
  rw[qE7 hs hkg hk.1,ha,Bool.not_true,Bool.false_or] at this
  exact qKF.mp this
 ·intro h c hc
  rw[qE7 hs hkg hk.1]
  cases ha:atk b s k c with
  | false=>rfl
  | true=>
    rw[Bool.not_true,Bool.false_or]
    exact qKF.mpr (h c (List.mem_range.mp hc) ha)
theorem qLx {b:List Int} {s:Int} (hs:s=0 \/ s=1) {k:Nat} (hk:KS b s k) {f t:Nat}:qGV b s f t=true ↔ ∀ c,c<81->qAJ b s k f c=true->t=c \/ t∈btw c k:=by
 unfold qGV
 rw[List.all_eq_true,hk.kg hs,tn]
 constructor
 ·intro h c hc ha
  have:=h c (List.mem_range.mpr hc)
  rw[ha,Bool.not_true,Bool.false_or] at this
  exact qKF.mp this
 ·intro h c hc
  cases ha:qAJ b s k f c with
  | false=>rfl
  | true=>
    rw[Bool.not_true,Bool.false_or]
    exact qKF.mpr (h c (List.mem_range.mp hc) ha)
theorem qMU {b h:List Int} {s f t d:Int} {p:Bool} (hc:Clean b) (hs:s=0 \/ s=1) (hP:CanP b h s f t d p) {k:Nat} (hk:KS b s k):
  (!inC (mb b s f t d p) s)=if d=0 then stB b s f.toNat t.toNat else qt b s t.toNat:=by
 have ht:=hP.to_
 unfold inC
 rw[Bool.not_not]
 by_cases hn:d=0 /\ f.toNat=k
 ·have hm:=hP.move hn.1
  rw[if_pos hn.1]
  unfold stB
  rw[if_pos (by rw[hk.kg hs,hn.2]),Bool.eq_iff_iff,qCs,qCs,show ((t.toNat:Nat):Int)=t by omega,show ((f.toNat:Nat):Int)=f by omega]
  constructor
  ·intro h i hi;rw[<- qVS hc hs hP hk hn hi];exact h i hi
  ·intro h i hi;rw[qVS hc hs hP hk hn hi];exact h i hi
 ·have hf:tk b (fof f t d)=true->sd (b.getD (fof f t d) 0)=s:=by
   unfold fof
   intro htk
   by_cases hd:d=0
   ·have hm:=hP.move hd
    rw[if_pos hd,<- qAa ⟨hm.1,hm.2.1⟩]
    exact hm.2.2.2.1
   ·rw[if_neg hd] at htk
    unfold tk at htk
    rw[<- qAa ht,(hP.drop hd).2.2.2.2.2] at htk
    simp at htk
  have key:=qgi (b:=b) (s:=s) (k:=k) (f:=fof f t d) (t:=t.toNat) hf
  have e:isE (chs (mb b s f t d p) s)=(qt b s t.toNat&&qGV b s (fof f t d) t.toNat):=by
   rw[Bool.eq_iff_iff,qCs,Bool.and_eq_true,qJX hs hk,qLx hs hk,<- key]
   constructor
   ·intro h c hcc;rw[<- qVT hc hs hP hk hn hcc];exact h c hcc
   ·intro h c hcc;rw[qVT hc hs hP hk hn hcc];exact h c hcc
  rw[e]
  by_cases hd:d=0
  ·rw[if_pos hd]
   unfold stB
   have hm:=hP.move hd
   rw[if_neg (by rw[hk.kg hs];intro e;exact hn ⟨hd,by omega⟩)]
   unfold fof
   rw[if_pos hd]
  ·rw[if_neg hd]
   have:qGV b s (fof f t d) t.toNat=true:=by
    rw[qLx hs hk]
    intro c _ hp
    have:=(qDH.mp hp).2.2.2.1
    unfold fof tk at this
    rw[if_neg hd,<- qAa ht,(hP.drop hd).2.2.2.2.2] at this
    simp at this
   rw[this,Bool.and_true]
theorem rw0:rw_ (kd 0)=0:=by decide
theorem qmZ {b:List Int} {s f t:Int} {p:Bool} {h:List Int} (hs:s=0 \/ s=1) (hP:CanP b h s f t 0 p):mb b s f t 0 p=(b.set t.toNat (laid b s f 0 p)).set f.toNat 0:=by
 have hm:=hP.move rfl
 have ht:=hP.to_
 unfold mb put
 rw[if_neg (by simp),if_pos ht,if_pos ⟨hm.1,hm.2.1⟩,if_neg (qFM hs hP).2.1,show (if kd 0=0 then (0:Int) else 0)=0 by simp]
 exact List.set_comm _ _ (by omega)
theorem qQd {b h:List Int} {s f t d:Int} {p:Bool} (hc:Clean b) (hs:s=0 \/ s=1) (hP:CanP b h s f t d p):qFi b h s f t d p=some (mb b s f t d p,mh b h s t d,1 - s):=by
 have ht:=hP.to_
 have hw:IntKind.wrap .i8 (1 - s)=1 - s:=w_8 (by omega) (by omega)
 have hin:br (inB s 2)=fun (x y:Option (List Int×List Int×Int))=>x:=by
  funext x y;exact qc (by omega) (by omega)
 have hint:br (inB t 81)=fun (x y:Option (List Int×List Int×Int))=>x:=by
  funext x y;exact qc (by omega) (by omega)
 unfold qFi
 simp only[hin,hint]
 by_cases hd:d=0
 ·subst hd
  have hm:=hP.move rfl
  have hinf:br (inB f 81)=fun (x y:Option (List Int×List Int×Int))=>x:=by
   funext x y;exact qc (by omega) (by omega)
  have hbf:at_ b f=16*s+kd (at_ b f):=by
   have h1:=qLr (qO9 hs hm.2.2.2.1)
   have h2:=qBx (at_ b f)
   have h3:=qO9 hs hm.2.2.2.1
   rw[hm.2.2.2.1,qAw hs (by omega) (by omega) (by omega)] at h1
   exact h1
  have hbb:=qBx (at_ b f)
  have hfin:∀ p',p'=p->br p'
    (some (List.set (List.set (List.set b (Int.toNat t) (List.getD b (Int.toNat f) 0)) (Int.toNat t) (IntKind.wrap IntKind.i8 (List.getD (List.set b (Int.toNat t) (List.getD b (Int.toNat f) 0)) (Int.toNat t) 0+8))) (Int.toNat f) 0))
    (some (List.set (List.set b (Int.toNat t) (List.getD b (Int.toNat f) 0)) (Int.toNat f) 0))=some (mb b s f t 0 p):=by
   rintro p' rfl
   rw[qmZ hs hP]
   unfold laid
   rw[if_neg (by simp),<- qAa ⟨hm.1,hm.2.1⟩]
   cases p' with
   | false=>rfl
   | true=>
     have hu:=hm.2.2.2.2.2.2 rfl
     rw[b_t,qGJ (by rw[hc.1];omega),if_pos rfl,if_pos rfl,List.set_set]
     have:up_ (kd (at_ b f))=kd (at_ b f)+8:=by
      unfold up_ at hu ⊢
      split
      ·rfl
      ·rename_i h;rw[if_neg h] at hu;exact absurd rfl hu
     rw[w_8 (by omega) (by omega),this,show at_ b f+8=16*s+(kd (at_ b f)+8) by omega]
  rw[qr rfl,qB6,qA,qc5,qA]
  simp only[hinf,c_8,<- qAa (b:=b) ht,hw]
  unfold mh
  rw[if_neg (by simp)]
  by_cases h0:at_ b t=0
  ·rw[if_pos h0,h0,rw0,qr rfl]
   have:=hfin p rfl
   cases p with
   | false=>rw[b_f] at this ⊢;rw[Option.some.inj this]
   | true=>rw[b_t] at this ⊢;rw[Option.some.inj this]
  ·rw[if_neg h0]
   have hr:=qIQ ((hc.at_ t).resolve_left h0) hm.2.2.2.2.2.1
   have hinr:br (inB (rw_ (kd (at_ b t))) 8)=fun (x y:Option (List Int×List Int×Int))=>x:=by
    funext x y;exact qc (by omega) (by omega)
   rw[qp (by omega)]
   simp only[hinr]
   have:=hfin p rfl
   cases p with
   | false=>rw[b_f] at this ⊢;rw[Option.some.inj this];rfl
   | true=>rw[b_t] at this ⊢;rw[Option.some.inj this];rfl
 ·have hm:=hP.drop hd
  have hind:br (inB d 8)=fun (x y:Option (List Int×List Int×Int))=>x:=by
   funext x y;exact qc (by omega) (by omega)
  simp only[hind]
  have hx:=(qFM hs hP).2.1
  unfold laid at hx
  rw[if_pos hd] at hx
  rw[qp hd,hw,w_s (n:=16*s) (by omega) (by omega),w_s (n:=16*s+d) (by omega) (by omega)]
  unfold mb mh put laid
  rw[if_pos hd,if_pos hd,if_pos ht,if_pos hd,if_neg hx]
  have:conv IntKind.i64 IntKind.i8 (16*s+d)=16*s+d:=by
   unfold conv;exact w_8 (by omega) (by omega)
  rw[this]
  rfl
end Go.Kk.Pl
namespace Go.Kk.Pl
def T_ (_:Nat):Bool:=true
theorem qok {b:List Int} (hcl:Clean b) (h:List Int) (S:Int) {s:Int} (hs:s=0 \/ s=1) {k:Nat} (hk:KS b s k):∃ es,qG4 s b h S (qP b) (qS b)=some es /\ qBt b s k (fun _=>true) es:=by
 obtain⟨es,h1,_,h3⟩:=qol hcl h S hs
 refine⟨es,h1,?_⟩
 have hkg:=hk.kg hs
 have h3:=h3 (by omega)
 rw[hkg,tn] at h3
 intro f hf
 obtain⟨a,a'⟩:=h3 f hf
 have hP:∀ c,qAJ b s k f c=true->(enm b s c&&(qAh.any fun x=>pcs b (pc (1 - s) x) c))=true:=by
  intro c hp
  have:=qDH.mp hp
  rw[this.1,qs5 hs this.1 this.2.1];rfl
 refine⟨?_,fun c hc _ hp=>a' c hc (hP c hp) hp⟩
 rw[a]
 constructor
 ·rintro ⟨c,x,_,x'⟩;exact⟨c,x,rfl,x'⟩
 ·rintro ⟨c,x,_,x'⟩;exact⟨c,x,hP c x',x'⟩
theorem qYc {b:List Int} (hcl:Clean b) (h:List Int) {s:Int} (hs:s=0 \/ s=1) {k:Nat} (hk:KS b s k):
  ∃ es chk,qHn b h s (qP b) (qS b)=some (s,(k:Int),sLo (qt b s),sHi (qt b s),chk,es) /\ qBt b s k (fun _=>true) es:=by
 obtain⟨es,he,hp⟩:=qok hcl h s hs hk
 have hkg:=hk.kg hs
 have hkg':fst (pcs b (pc s 8))=(k:Int):=hkg
 have ha:∀ c,chs b s c=atk b s k c:=qE7 hs hkg hk.1
 unfold qHn
 rw[qPO,hkg',qA,qKM,qA]
 simp only
 rw[he,qA,qOL hcl h s (by omega),qA]
 simp only
 rw[qOV,qA]
 by_cases n0:((qAu (chs b s):Nat):Int)=0
 ·rw[ql n0]
  have hE:isE (chs b s)=true:=by rw[qOS,decide_eq_true_eq];omega
  have:∀ i,i<81->(fun _:Nat=>true) i=qt b s i:=by
   intro i _
   symm
   show qt b s i=true
   rw[qJX hs hk]
   intro c hc h1
   rw[<- ha,qCs.mp hE c hc] at h1
   cases h1
  have:=qB8 this
  rw[this.1,this.2]
  exact⟨es,false,rfl,hp⟩
 ·rw [qk n0]
  by_cases n1:((qAu (chs b s):Nat):Int)=1
  ·obtain⟨f,hf,hm⟩:=qHJ.mp (show qAu (chs b s)=1 by omega)
   rw[ql n1,qOh,qA,qOk hf hm,qaJ hf hk.1,qA]
   simp only
   rw[qHw,qA]
   simp only
   have:∀ i,i<81->((btw f k).contains i||chs b s i)=qt b s i:=by
    intro i hi
    rw[Bool.eq_iff_iff,Bool.or_eq_true,List.contains_iff_mem,hm i hi,qJX hs hk]
    constructor
    ·intro h1 c hc h2
     rw[<- ha,hm c hc] at h2
     subst h2
     exact h1.elim .inr .inl
    ·intro h1
     exact (h1 f hf (by rw[<- ha];exact (hm f hf).mpr rfl)).elim .inr .inl
   have:=qB8 this
   rw[this.1,this.2]
   exact⟨es,true,rfl,hp⟩
  ·rw [qk n1]
   have hE:isE (chs b s)=false:=by
    rw[qOS,decide_eq_false_iff_not];omega
   obtain⟨c,hc,hc'⟩:∃ c,c<81 /\ chs b s c=true:=by
    apply Classical.byContradiction
    intro hno
    have:isE (chs b s)=true:=by
     rw[qCs]
     intro i hi
     cases hx:chs b s i with
     | false=>rfl
     | true=>exact absurd ⟨i,hi,hx⟩ hno
    rw[hE] at this;cases this
   obtain⟨c2,hc2,hc2',hne⟩:∃ c2,c2<81 /\ chs b s c2=true /\ c≠c2:=by
    apply Classical.byContradiction
    intro hno
    apply n1
    rw[qHJ.mpr ⟨c,hc,fun i hi=>⟨fun h1=>?_,fun h1=>h1 ▸ hc'⟩⟩]
    ·rfl
    ·apply Classical.byContradiction
     intro hx
     exact hno ⟨i,hi,h1,fun e=>hx e.symm⟩
   have:∀ i,i<81->(fun _:Nat=>false) i=qt b s i:=by
    intro i hi
    symm
    show qt b s i=false
    cases ho:qt b s i with
    | false=>rfl
    | true=>
      rw[qJX hs hk] at ho
      exact (quW hs hk.1 hc hc2 (by rw[<- ha];exact hc') (by rw[<- ha];exact hc2') hne (ho c hc (by rw[<- ha];exact hc')) (ho c2 hc2 (by rw[<- ha];exact hc2'))).elim
   have:=qB8 this
   rw[qBn,qBm] at this
   exact⟨es,true,by rw[<- this.1,<- this.2],hp⟩
theorem qeP {b:List Int} (hcl:Clean b) (h:List Int) (S:Int) {s:Int} (hs:s=0 \/ s=1) {k:Nat} (hk:KS b s k) {es:List (List Int×List Int)} (hp:qBt b s k (fun _=>true) es) {f t:Int} (hf:0<=f /\ f<81) (ht:0<=t /\ t<81) (d:Int) (p chk:Bool):
  qHo s (k:Int) (sLo (qt b s)) (sHi (qt b s)) chk f t d p b h S (qP b) (qS b) es=some (stB b s f.toNat t.toNat,b,h,S,qP b,qS b,es):=by
 obtain⟨f,rfl⟩:∃ n:Nat,f=n:=⟨f.toNat,by omega⟩
 obtain⟨t,rfl⟩:∃ n:Nat,t=n:=⟨t.toNat,by omega⟩
 rw[tn,tn]
 have hkg:=hk.kg hs
 have hh:∀ g:Nat->Bool,has g (t:Int)=g t:=by
  intro g;unfold has;rw[decide_eq_true (by omega),decide_eq_true (by omega),tn];rfl
 unfold qHo stB
 rw[hkg]
 by_cases hfk:(f:Int)=k
 ·rw[ql hfk,if_pos hfk,qJ7 hcl,qA]
  simp only
  rw[qKG,qA]
  simp only
  rw[w_s (n:=1 - s) (by omega) (by omega),qZS,qA]
  simp only
  rw[qJE,qA,hfk]
 ·rw[qk hfk,if_neg hfk,qEQ,qA,hh]
  cases ho:qt b s t with
  | false=>rfl
  | true=>
    rw[Bool.not_true,b_f,Bool.true_and]
    obtain⟨h1,h2⟩:=hp f (by omega)
    cases hM:qA4 es [(f:Int)] with
    | false=>
      rw[Bool.not_false,b_t]
      have:qGV b s f t=true:=by
       rw[qLx hs hk]
       intro c hc hpin
       rw[h1.mpr ⟨c,hc,rfl,hpin⟩] at hM;cases hM
      rw[this]
    | true=>
      obtain⟨c,hc,_,hpin⟩:=h1.mp hM
      rw[Bool.not_true,b_f,h2 c hc rfl hpin]
      show (ob (qCK (sLo (qED k c)) (sHi (qED k c)) (t:Int)) _)=_
      rw[qEQ,qA,hh]
      have:qED k c t=qGV b s f t:=by
       rw[Bool.eq_iff_iff,qKF,qLx hs hk]
       constructor
       ·intro h3 c' hc' hpin'
        rw[qZ7 hs hk.1 hc' hc hpin' hpin];exact h3
       ·intro h3;exact h3 c hc hpin
      rw[this]
def m0 (m:List Int):Int:=m.getD 0 0
def m1 (m:List Int):Int:=m.getD 1 0
def m2 (m:List Int):Int:=m.getD 2 0
def m3 (m:List Int):Bool:=m.getD 3 0 != 0
def Mv4 (m:List Int):Prop:=m=[m0 m,m1 m,m2 m,bi (m3 m)] /\ (0<=m0 m /\ m0 m<81) /\ (0<=m1 m /\ m1 m<81)
theorem qm2 {b h:List Int} {s f t d p:Int} (hok:MvOK b h s f t d p):Mv4 [f,t,d,p]:=by
 refine⟨?_,hok.fr,hok.tr⟩
 show [f,t,d,p]=[f,t,d,bi (p != 0)]
 rcases hok.pp with h0 | h0<;>rw[h0]<;>rfl
theorem qGQ {b h:List Int} (hc:Clean b) {s:Int} (hs:s=0 \/ s=1) {m:List Int} (hm:m∈mvs b h s):Mv4 m /\ qz b h s (m0 m) (m1 m) (m2 m) (m3 m)=true:=by
 obtain⟨f,t,d,p,rfl,hok⟩:=qm7 hc hs hm
 exact⟨qm2 hok,hok.mov⟩
theorem qLd {b:List Int} (hc:Clean b) (h:List Int) {s:Int} (hs:s=0 \/ s=1) {m:List Int} (hm:m∈qu b s T_):Mv4 m /\ qz b h s (m0 m) (m1 m) (m2 m) (m3 m)=true /\ m2 m=0:=by
 have h1:=qGQ hc hs (h:=h) (m:=m) (List.mem_append_left _ hm)
 obtain⟨f,t,p,rfl⟩:=qm3 hm
 exact⟨h1.1,h1.2,rfl⟩
theorem qQF {b:List Int} (hc:Clean b) {h:List Int} {s:Int} (hs:s=0 \/ s=1) {m:List Int} (hm:m∈qAP b h s T_):Mv4 m /\ qz b h s (m0 m) (m1 m) (m2 m) (m3 m)=true /\ m0 m=0 /\ 1<=m2 m /\ m2 m<=7 /\ m3 m=false:=by
 have h1:=qGQ hc hs (h:=h) (m:=m) (List.mem_append_right _ hm)
 obtain⟨k,t,hk,hk',rfl⟩:=qm4 hm
 exact⟨h1.1,h1.2,rfl,by show (1:Int)<=(k:Int);omega,by show (k:Int)<=7;omega,rfl⟩
theorem qQG (b h:List Int) (s:Int) (G:Nat->Bool):qAP b h s G=(qAP b h s T_).filter fun m=>G (m1 m).toNat:=by
 unfold qAP
 rw[List.filter_flatMap]
 apply qJI
 intro k _
 unfold qBk
 split
 ·rfl
 ·rw[List.filter_map]
  unfold sq
  rw[List.filter_map,List.map_map,List.map_map,List.filter_filter]
  congr 1
  apply List.filter_congr
  intro i _
  show (qAv b s k i&&G i)=(G (Int.toNat ((i:Nat):Int))&&(qAv b s k i&&true))
  rw[tn,Bool.and_true,Bool.and_comm]
theorem hdM {m:List Int}:List.headD (List.take 4 m) 0=m0 m /\ List.headD (List.tail (List.take 4 m)) 0=m1 m /\ List.headD (List.tail (List.tail (List.take 4 m))) 0=m2 m /\ (List.headD (List.tail (List.tail (List.tail (List.take 4 m)))) 0 != 0)=m3 m:=⟨hd0 m,hd1 m,hd2 m,by rw[hd3 m];rfl⟩
theorem atL {M:List (List Int)} {i:Nat} (hi:i<M.length):M.getD i []=M[i]:=by rw[List.getD_eq_getElem?_getD,List.getElem?_eq_getElem hi];rfl
def g1 (b:List Int) (s:Int) (m:List Int):Bool:=stB b s (m0 m).toNat (m1 m).toNat
theorem qgL {b:List Int} (hcl:Clean b) (h:List Int) (S:Int) {s:Int} (hs:s=0 \/ s=1) {k:Nat} (hk:KS b s k) {es:List (List Int×List Int)} (hp:qBt b s k (fun _=>true) es) (chk:Bool) (N:Nat) (M:List (List Int)) (hM:∀ m∈M,Mv4 m) (hl:M.length<=100000):∀ (n i:Nat),i+n=M.length->∀ (L:List (List Int)) (x0 x14:Nat),x0=L.length->x14=L.length->L.length+n<=1000000->∀ F,
  qFN (F+n+1) x0 M.length M.length i b h S (qP b) (qS b) s k (sLo (qt b s)) (sHi (qt b s)) chk x14 L N M es =
   some ((L++(M.drop i).filter (g1 b s)).length,b,h,S,qP b,qS b,s,(k:Int),sLo (qt b s),sHi (qt b s),chk,(L++(M.drop i).filter (g1 b s)).length,L++(M.drop i).filter (g1 b s),es):=by
 intro n
 induction n with
 | zero=>
   intro i hi L x0 x14 e0 e14 hb F
   show qHj (qFN (F+0)) _ _ _ _ _ _ _ _ _ _ _ _ _ _ _ _ _ _ _=_
   unfold qHj
   rw[qW (by omega),List.drop_eq_nil_of_le (by omega),List.filter_nil,List.append_nil,e0,e14]
 | succ n ih=>
   intro i hi L x0 x14 e0 e14 hb F
   show qHj (qFN (F+n+1)) _ _ _ _ _ _ _ _ _ _ _ _ _ _ _ _ _ _ _=_
   unfold qHj
   have hil:i<M.length:=by omega
   obtain⟨hm1,hm2,hm3⟩:=hM M[i] (List.getElem_mem hil)
   rw[qe (by omega),qc (by omega) (by omega),tn,atL hil]
   simp only[hdM]
   rw[qeP hcl h S hs hk hp hm2 hm3,qA]
   simp only
   rw[w_s (n:=(i:Int)+1) (by omega) (by omega),List.drop_eq_getElem_cons hil,List.filter_cons]
   show br (g1 b s M[i]) _ _=_
   cases hg:g1 b s M[i] with
   | true=>
     rw[b_t,qBu (by omega),<- hm1]
     rw[tkA e0]
     refine (ih (i+1) (by omega) (L++[M[i]]) (x0+1) (x0+1) (by simp;omega) (by simp;omega) (by simp;omega) F).trans ?_
     simp
   | false=>
     rw[b_f]
     exact ih (i+1) (by omega) L x0 x14 e0 e14 (by omega) F
def pb (b:List Int) (s:Int) (q:Int):List Int:=put b q (16*s+1)
def pmS (b:List Int) (s:Int) (q:Int):Bool:=decide (0<=q /\ q<81)&&(decide (at_ b q=0)&&(chs (pb b s q) (1 - s) q.toNat&&(qu (pb b s q) (1 - s) T_).all fun m=>!g1 (pb b s q) (1 - s) m))
theorem qoG {b:List Int} (b0 h0:List Int) (S0:Int) (by0 sd0:List (List Int)) (hcl:Clean b) (h:List Int) (S:Int) {s:Int} (hs:s=0 \/ s=1) {k:Nat} (hk:KS b s k) {es:List (List Int×List Int)} (hp:qBt b s k (fun _=>true) es) (chk:Bool) (N:Nat) (M:List (List Int)) (hM:∀ m∈M,Mv4 m) (hl:M.length<=100000):∀ (n i:Nat),i+n=M.length->∀ F,
  qFP (F+n+1) M.length M.length i b0 h0 S0 by0 sd0 s k (sLo (qt b s)) (sHi (qt b s)) chk N M b h S (qP b) (qS b) es =
   some (if (M.drop i).all (fun m=>!g1 b s m) then .inr (b0,h0,S0,by0,sd0) else .inl (false,b0,h0,S0,by0,sd0)):=by
 intro n
 induction n with
 | zero=>
   intro i hi F
   show qHm (qFP (F+0)) _ _ _ _ _ _ _ _ _ _ _ _ _ _ _ _ _ _ _ _ _=_
   unfold qHm
   rw[qW (by omega),List.drop_eq_nil_of_le (by omega)]
   rfl
 | succ n ih=>
   intro i hi F
   show qHm (qFP (F+n+1)) _ _ _ _ _ _ _ _ _ _ _ _ _ _ _ _ _ _ _ _ _=_
   unfold qHm
   have hil:i<M.length:=by omega
   obtain⟨hm1,hm2,hm3⟩:=hM M[i] (List.getElem_mem hil)
   rw[qe (by omega),qc (by omega) (by omega),tn,atL hil]
   simp only[hdM]
   rw[qeP hcl h S hs hk hp hm2 hm3,qA]
   simp only
   rw[w_s (n:=(i:Int)+1) (by omega) (by omega),List.drop_eq_getElem_cons hil,List.all_cons]
   show br (g1 b s M[i]) _ _=_
   cases hg:g1 b s M[i] with
   | true=>rw[b_t];rfl
   | false=>
     rw[b_f]
     exact ih (i+1) (by omega) F
theorem qGU (b:List Int) (s q:Int):pb b s q=mb b s 0 q 1 false:=by
 unfold pb mb laid
 rw[if_pos (by simp),if_pos (by simp)]
theorem qQU {b:List Int} {s q:Int} (hs:s=0 \/ s=1) (hq:0<=q /\ q<81) (h0:at_ b q=0):CanP b (List.replicate 16 1) s 0 q 1 false:=by
 refine⟨hq,fun _=>⟨by omega,by omega,rfl,rfl,?_,h0⟩,fun h=>absurd h (by omega)⟩
 rcases hs with rfl | rfl<;>decide
theorem qoF {b:List Int} (hcl:Clean b) (h:List Int) {s:Int} (hs:s=0 \/ s=1) {k:Nat} (hk:KS b (1 - s) k) (q:Int):qJR q b h s (qP b) (qS b)=some (pmS b s q):=by
 have hs':1 - s=0 \/ 1 - s=1:=by omega
 have hpc:pc s 1=16*s+1:=qAw hs (by omega) (by omega) (by omega)
 unfold qJR pmS
 rw[qLh,qA,hpc,qk (by omega)]
 by_cases q0:q<0
 ·rw[qe q0,decide_eq_false (p:=0<=q /\ q<81) (by omega)];rfl
 rw[qW q0]
 by_cases q1:q >= 81
 ·rw[qCB q1,decide_eq_false (p:=0<=q /\ q<81) (by omega)];rfl
 have hq:0<=q /\ q<81:=by omega
 rw[qBc q1,qC5,qA,decide_eq_true hq,Bool.true_and]
 by_cases h0:at_ b q=0
 ·have hP:=qQU hs hq h0
  have hk2:KS (pb b s q) (1 - s) k:=by rw[qGU];exact qLB hcl hs hP hk
  have hcl2:Clean (pb b s q):=hcl.put q _
  have w8:IntKind.wrap IntKind.i8 (1 - s)=1 - s:=w_8 (by omega) (by omega)
  rw[qr h0,decide_eq_true h0,Bool.true_and]
  unfold qKU
  rw[qA]
  simp only
  rw[qQc hcl,qA]
  simp only
  rw[show put b q (16*s+1)=pb b s q from rfl,w8,c_8,qOL hcl2 h (1 - s) (by omega),qA]
  simp only
  rw[qEQ,qA]
  have hh:has (chs (pb b s q) (1 - s)) q=chs (pb b s q) (1 - s) q.toNat:=by
   unfold has;rw[decide_eq_true hq.1,decide_eq_true hq.2];rfl
  rw[hh]
  cases hch:chs (pb b s q) (1 - s) q.toNat with
  | false=>rfl
  | true=>
    rw[Bool.not_true,b_f,Bool.true_and]
    obtain⟨es,chk,hl,hp⟩:=qYc hcl2 h hs' hk2
    have hlen:=qLe (pb b s q) (1 - s) T_
    rw[hl,qA]
    simp only
    rw[qKM,qA]
    simp only
    rw[show (fun _:Nat=>true)=T_ from rfl,qWX hcl2,qA]
    simp only
    obtain⟨g,hg⟩:=qh (qu (pb b s q) (1 - s) T_).length (by omega)
    have:=qoG b h s (qP b) (qS b) hcl2 h (1 - s) hs' hk2 hp chk (qu (pb b s q) (1 - s) T_).length (qu (pb b s q) (1 - s) T_) (fun m hm=>(qLd hcl2 h hs' hm).1) (by omega) (qu (pb b s q) (1 - s) T_).length 0 (by omega) g
    rw[<- hg] at this
    refine (congrArg (fun z=>ob z _) (this:qFP qB (qu (pb b s q) (1 - s) T_).length (Int.ofNat (qu (pb b s q) (1 - s) T_).length) 0 b h s (qP b) (qS b) (1 - s) k (sLo (qt (pb b s q) (1 - s))) (sHi (qt (pb b s q) (1 - s))) chk (qu (pb b s q) (1 - s) T_).length (qu (pb b s q) (1 - s) T_) (pb b s q) h (1 - s) (qP (pb b s q)) (qS (pb b s q)) es=_)).trans ?_
    rw[qA,List.drop_zero]
    cases (qu (pb b s q) (1 - s) T_).all fun m=>!g1 (pb b s q) (1 - s) m<;>rfl
 ·rw[qp h0,decide_eq_false h0];rfl
def g2 (b:List Int) (s:Int) (m:List Int):Bool:=!(decide (m2 m=1)&&pmS b s (m1 m))
theorem qgJ {b:List Int} (hcl:Clean b) (h:List Int) {s:Int} (hs:s=0 \/ s=1) {k:Nat} (hk:KS b (1 - s) k) (N:Nat) (M:List (List Int)) (hM:∀ m∈M,Mv4 m) (hl:M.length<=100000):∀ (n i:Nat),i+n=M.length->∀ (L:List (List Int)) (x0 x9:Nat),x0=L.length->x9=L.length->L.length+n<=1000000->∀ F,
  qES (F+n+1) x0 M.length M.length i b h s (qP b) (qS b) x9 L N M =
   some ((L++(M.drop i).filter (g2 b s)).length,b,h,s,qP b,qS b,(L++(M.drop i).filter (g2 b s)).length,L++(M.drop i).filter (g2 b s)):=by
 intro n
 induction n with
 | zero=>
   intro i hi L x0 x9 e0 e9 hb F
   show qHi (qES (F+0)) _ _ _ _ _ _ _ _ _ _ _ _ _=_
   unfold qHi
   rw[qW (by omega),List.drop_eq_nil_of_le (by omega),List.filter_nil,List.append_nil,e0,e9]
 | succ n ih=>
   intro i hi L x0 x9 e0 e9 hb F
   show qHi (qES (F+n+1)) _ _ _ _ _ _ _ _ _ _ _ _ _=_
   unfold qHi
   have hil:i<M.length:=by omega
   obtain⟨hm1,hm2,hm3⟩:=hM M[i] (List.getElem_mem hil)
   rw[qe (by omega),qc (by omega) (by omega),tn,atL hil]
   simp only[hdM]
   rw[w_s (n:=(i:Int)+1) (by omega) (by omega),List.drop_eq_getElem_cons hil,List.filter_cons,qBu (by omega),<- hm1,tkA e0]
   have add:g2 b s M[i]=true->qES (F+n+1) (x0+1) M.length M.length ((i:Int)+1) b h s (qP b) (qS b) (x0+1) (L++[M[i]]) N M =
    some ((L++if g2 b s M[i]=true then M[i] :: (M.drop (i+1)).filter (g2 b s) else (M.drop (i+1)).filter (g2 b s)).length,b,h,s,qP b,qS b,(L++if g2 b s M[i]=true then M[i] :: (M.drop (i+1)).filter (g2 b s) else (M.drop (i+1)).filter (g2 b s)).length,L++if g2 b s M[i]=true then M[i] :: (M.drop (i+1)).filter (g2 b s) else (M.drop (i+1)).filter (g2 b s)):=by
    intro hg
    refine (ih (i+1) (by omega) (L++[M[i]]) (x0+1) (x0+1) (by simp;omega) (by simp;omega) (by simp;omega) F).trans ?_
    rw[if_pos hg]
    simp
   by_cases hd:m2 M[i]=1
   ·rw[ql hd,qoF hcl h hs hk,qA]
    cases hpm:pmS b s (m1 M[i]) with
    | true=>
      have hg:g2 b s M[i]=false:=by unfold g2;rw[decide_eq_true hd,hpm];rfl
      rw[b_t,hg]
      exact ih (i+1) (by omega) L x0 x9 e0 e9 (by omega) F
    | false=>
      have hg:g2 b s M[i]=true:=by unfold g2;rw[hpm];simp
      rw[b_f]
      exact add hg
   ·have hg:g2 b s M[i]=true:=by unfold g2;rw[decide_eq_false hd];rfl
    rw[qk hd]
    exact add hg
def lgL (b h:List Int) (s:Int):List (List Int):=(qu b s T_).filter (g1 b s)++(qAP b h s (qt b s)).filter (g2 b s)
theorem qYC (b h:List Int) (s:Int):(lgL b h s).length<=20000:=by
 unfold lgL
 have h1:=qLe b s T_
 have h2:=qQH b h s (qt b s)
 have h3:=List.length_filter_le (g1 b s) (qu b s T_)
 have h4:=List.length_filter_le (g2 b s) (qAP b h s (qt b s))
 rw[List.length_append]
 omega
theorem qXn {b:List Int} (hcl:Clean b) (h:List Int) {s:Int} (hs:s=0 \/ s=1) {k k':Nat} (hk:KS b s k) (hk':KS b (1 - s) k'):qHg b h s (qP b) (qS b)=some ((lgL b h s).length,b,h,s,qP b,qS b,(lgL b h s).length,lgL b h s):=by
 unfold qHg
 obtain⟨es,chk,hl,hp⟩:=qYc hcl h hs hk
 have hlen:=qLe b s T_
 have hlen2:=qQH b h s (qt b s)
 have hlen3:=List.length_filter_le (g1 b s) (qu b s T_)
 rw[hl,qA]
 simp only
 rw[qKM,qA]
 simp only
 rw[show (fun _:Nat=>true)=T_ from rfl,qWX hcl,qA]
 simp only
 obtain⟨g,hg⟩:=qh (qu b s T_).length (by omega)
 have:=qgL hcl h s hs hk hp chk (qu b s T_).length (qu b s T_) (fun m hm=>(qLd hcl h hs hm).1) (by omega) (qu b s T_).length 0 (by omega) [] 0 0 rfl rfl (by simp only[List.length_nil];omega) g
 rw[<- hg,List.drop_zero,List.nil_append] at this
 rw[show qFN qB 0 (qu b s T_).length (Int.ofNat (qu b s T_).length) 0 b h s (qP b) (qS b) s k (sLo (qt b s)) (sHi (qt b s)) chk 0 [] (qu b s T_).length (qu b s T_) es=_ from this,qA]
 simp only
 rw[qkE hcl,qA]
 simp only
 have hM:∀ m∈qAP b h s (qt b s),Mv4 m:=by
  intro m hm
  rw[qQG] at hm
  exact (qQF hcl hs (List.mem_filter.mp hm).1).1
 obtain⟨g,hg⟩:=qh (qAP b h s (qt b s)).length (by omega)
 have:=qgJ hcl h hs hk' (qAP b h s (qt b s)).length (qAP b h s (qt b s)) hM (by omega) (qAP b h s (qt b s)).length 0 (by omega) ((qu b s T_).filter (g1 b s)) _ _ rfl rfl (by omega) g
 rw[<- hg,List.drop_zero] at this
 rw[show qES qB ((qu b s T_).filter (g1 b s)).length (qAP b h s (qt b s)).length (Int.ofNat (qAP b h s (qt b s)).length) 0 b h s (qP b) (qS b) ((qu b s T_).filter (g1 b s)).length ((qu b s T_).filter (g1 b s)) (qAP b h s (qt b s)).length (qAP b h s (qt b s))=_ from this,qA]
 rfl
def mbM (b:List Int) (s:Int) (m:List Int):List Int:=mb b s (m0 m) (m1 m) (m2 m) (m3 m)
def mhM (b h:List Int) (s:Int) (m:List Int):List Int:=mh b h s (m1 m) (m2 m)
def qBo (b:List Int) (s:Int) (m:List Int):Bool:=!inC (mbM b s m) s
def qJ5 (b h:List Int) (s:Int):Bool:=(mvs b h s).all fun m=>!qBo b s m
def qCw (b h:List Int) (s:Int) (m:List Int):Bool:=qBo b s m&&(decide (m2 m≠1) || !(inC (mbM b s m) (1 - s)&&qJ5 (mbM b s m) (mhM b h s m) (1 - s)))
theorem qdF {b h:List Int} {s:Int} (hc:Clean b) (hs:s=0 \/ s=1) {m:List Int} (hm:qz b h s (m0 m) (m1 m) (m2 m) (m3 m)=true):qIM b h s (m0 m) (m1 m) (m2 m) (m3 m)=some (qBo b s m):=by
 unfold qIM
 rw[qQd hc hs (qFQ hm).2,qA]
 simp only
 rw[qSB _ _ _ hs,qA]
 rfl
theorem qrm {b h:List Int} (hc:Clean b) {s:Int} (hs:s=0 \/ s=1) (N:Nat) (M:List (List Int)) (hM:∀ m∈M,qz b h s (m0 m) (m1 m) (m2 m) (m3 m)=true) (hl:M.length<=100000):∀ (n i:Nat),i+n=M.length->∀ F,
  qFm (F+n+1) M.length i b h s N M=some (if (M.drop i).all (fun m=>!qBo b s m) then .inr () else .inl false):=by
 intro n
 induction n with
 | zero=>
   intro i hi F
   show qIN (qFm (F+0)) _ _ _ _ _ _ _=_
   unfold qIN
   rw[qW (by simp only[Int.ofNat_eq_natCast];omega),List.drop_eq_nil_of_le (by omega)]
   rfl
 | succ n ih=>
   intro i hi F
   show qIN (qFm (F+n+1)) _ _ _ _ _ _ _=_
   unfold qIN
   have hil:i<M.length:=by omega
   rw[qe (by simp only[Int.ofNat_eq_natCast];omega),qc (by omega) (by omega),tn,atL hil]
   simp only[hdM]
   rw[qdF hc hs (hM _ (List.getElem_mem hil)),qA,w_s (n:=(i:Int)+1) (by omega) (by omega),List.drop_eq_getElem_cons hil,List.all_cons]
   cases hg:qBo b s M[i] with
   | true=>rw[b_t];rfl
   | false=>
     rw[b_f]
     exact ih (i+1) (by omega) F
theorem qrn {b:List Int} (hc:Clean b) (h:List Int) {s:Int} (hs:s=0 \/ s=1):qJp b h s=some (qJ5 b h s):=by
 unfold qJp
 rw[qc1 b h hs,qA,<- qLf hc h hs]
 simp only
 have hlen:=qZG b h s
 obtain⟨g,hg⟩:=qh (mvs b h s).length (by omega)
 have:=qrm hc hs (mvs b h s).length (mvs b h s) (fun m hm=>(qGQ hc hs hm).2) (by omega) (mvs b h s).length 0 (by omega) g
 rw[<- hg,List.drop_zero] at this
 rw[show qFm qB (mvs b h s).length 0 b h s (mvs b h s).length (mvs b h s)=_ from this,qA]
 unfold qJ5
 cases (mvs b h s).all fun m=>!qBo b s m<;>rfl
theorem qc8 {b h:List Int} {s:Int} (hc:Clean b) (hs:s=0 \/ s=1) {m:List Int} (hm:qz b h s (m0 m) (m1 m) (m2 m) (m3 m)=true):qGd b h s (m0 m) (m1 m) (m2 m) (m3 m)=some (qCw b h s m):=by
 have hs':1 - s=0 \/ 1 - s=1:=by omega
 unfold qGd qCw
 rw[qdF hc hs hm,qA]
 cases qBo b s m with
 | false=>rfl
 | true=>
   rw[Bool.not_true,b_f,Bool.true_and]
   by_cases hd:m2 m=1
   ·rw[qr hd,decide_eq_false (p:=m2 m≠1) (by simpa using hd),Bool.false_or,qQd hc hs (qFQ hm).2,qA]
    simp only
    rw[qSB _ _ _ hs',qA]
    show (br (!inC (mbM b s m) (1 - s)) _ _)=_
    cases inC (mbM b s m) (1 - s) with
    | false=>rfl
    | true=>
      rw[Bool.not_true,b_f,qrn (qP6 hc _ _ _ _ _) _ hs',qA]
      rfl
   ·rw[qp hd,decide_eq_true (p:=m2 m≠1) hd];rfl
theorem qo1 {b h:List Int} (hc:Clean b) {s:Int} (hs:s=0 \/ s=1) (N:Nat) (M:List (List Int)) (hM:∀ m∈M,Mv4 m /\ qz b h s (m0 m) (m1 m) (m2 m) (m3 m)=true) (hl:M.length<=100000):∀ (n i:Nat),i+n=M.length->∀ (L:List (List Int)) (x0 x6:Nat),x0=L.length->x6=L.length->L.length+n<=1000000->∀ F,
  qFl (F+n+1) x0 M.length i b h s x6 L N M=some ((L++(M.drop i).filter (qCw b h s)).length,(L++(M.drop i).filter (qCw b h s)).length,L++(M.drop i).filter (qCw b h s)):=by
 intro n
 induction n with
 | zero=>
   intro i hi L x0 x6 e0 e6 hb F
   show qIL (qFl (F+0)) _ _ _ _ _ _ _ _ _ _=_
   unfold qIL
   rw[qW (by simp only[Int.ofNat_eq_natCast];omega),List.drop_eq_nil_of_le (by omega),List.filter_nil,List.append_nil,e0,e6]
 | succ n ih=>
   intro i hi L x0 x6 e0 e6 hb F
   show qIL (qFl (F+n+1)) _ _ _ _ _ _ _ _ _ _=_
   unfold qIL
   have hil:i<M.length:=by omega
   obtain⟨hm1,hm2⟩:=hM M[i] (List.getElem_mem hil)
   rw[qe (by simp only[Int.ofNat_eq_natCast];omega),qc (by omega) (by omega),tn,atL hil]
   simp only[hdM]
   rw[qc8 hc hs hm2,qA,w_s (n:=(i:Int)+1) (by omega) (by omega),List.drop_eq_getElem_cons hil,List.filter_cons,qc (by omega) (by omega)]
   cases hg:qCw b h s M[i] with
   | true=>
     rw[b_t,qBu (by omega),<- hm1.1,tkA e0]
     refine (ih (i+1) (by omega) (L++[M[i]]) (x0+1) (x0+1) (by simp;omega) (by simp;omega) (by simp;omega) F).trans ?_
     simp
   | false=>
     rw[b_f]
     exact ih (i+1) (by omega) L x0 x6 e0 e6 (by omega) F
def rlL (b h:List Int) (s:Int):List (List Int):=(mvs b h s).filter (qCw b h s)
theorem qSC {b:List Int} (hc:Clean b) (h:List Int) {s:Int} (hs:s=0 \/ s=1):qJo b h s=some ((rlL b h s).length,(rlL b h s).length,rlL b h s):=by
 unfold qJo
 rw[qc1 b h hs,qA,<- qLf hc h hs]
 simp only
 have hlen:=qZG b h s
 obtain⟨g,hg⟩:=qh (mvs b h s).length (by omega)
 have:=qo1 hc hs (mvs b h s).length (mvs b h s) (fun m hm=>qGQ hc hs hm) (by omega) (mvs b h s).length 0 (by omega) [] 0 0 rfl rfl (by simp only[List.length_nil];omega) g
 rw[<- hg,List.drop_zero,List.nil_append] at this
 rw[show qFl qB 0 (mvs b h s).length 0 b h s 0 [] (mvs b h s).length (mvs b h s)=_ from this,qA]
 rfl
end Go.Kk.Pl
