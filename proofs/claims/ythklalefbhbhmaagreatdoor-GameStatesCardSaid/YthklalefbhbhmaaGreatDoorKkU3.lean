/- What the program's functions come to, told plainly: the texts of this project that this claim leans on, cut down to what is used. -/
import Derived.Test.YthklalefbhbhmaaGreatDoorKkU2
import Derived.Test.YthklalefbhbhmaaGreatDoorKkU1
namespace Go.Kk.Pl
theorem qC5 {α:Type} {x y:α} {a b:Nat} (h:a<=b):br (decide (a<=b)) x y=x:=qJ (by simpa using h)
theorem tkA {α:Type} {n:Nat} {L:List α} (h:n=L.length) (M:List α):List.append (List.take n L) M=L++M:=by
 subst h;rw[List.take_length];rfl
theorem qdM {α:Type} {n:Nat} {L:List α} {m:α} (h:n=L.length) (M:List α):List.append (List.take (n+1) (L++[m])) M=L++m :: M:=by
 rw[tkA (by simp[h])];simp
def qAF (x f t:Int):List (List Int):=(if qDH x t then [] else [[f,t,0,0]])++(if qCz x f t then [[f,t,0,1]] else [])
theorem qlT (x f t:Int):(qAF x f t).length<=2:=by
 unfold qAF;split<;>split<;>simp
theorem qHG {α β:Type} (g:α->List β) (k:Nat) (L:List α) (h:∀ a∈L,(g a).length<=k):(L.flatMap g).length<=k*L.length:=by
 induction L with
 | nil=>simp
 | cons a L ih=>
   rw[List.flatMap_cons,List.length_append,List.length_cons,Nat.mul_succ]
   have:=h a (by simp)
   have:=ih fun x hx=>h x (by simp[hx])
   omega
theorem qrE (x f:Int) (T:List Int) (S:Int) (N1:Nat) (a5 a6:Int) (b h:List Int) (S':Int) (by' sd':List (List Int)) (u v k1 k2:Int) (N2:Nat) (L2:List Int) (N3:Nat) (hT:T.length<=1000):∀ (n i:Nat),i+n=T.length->∀ (L:List (List Int)) (x0 x17:Nat),x0=L.length->x17=L.length->L.length<=1000000 - 2*n->∀ F,
  qE5 (F+n+1) x0 S f x N1 a5 a6 T.length T.length i b h S' by' sd' u v x17 L k1 k2 N2 L2 N3 T =
   some ((L++(T.drop i).flatMap (qAF x f)).length,S,N1,a5,a6,b,h,S',by',sd',u,v,(L++(T.drop i).flatMap (qAF x f)).length,L++(T.drop i).flatMap (qAF x f),k1,k2,N2,L2):=by
 intro n
 induction n with
 | zero=>
   intro i hi L x0 x17 h0 h17 hb F
   show qHL (qE5 (F+0)) _ _ _ _ _ _ _ _ _ _ _ _ _ _ _ _ _ _ _ _ _ _ _ _ _=_
   unfold qHL
   rw[qY (by omega),List.drop_eq_nil_of_le (by omega)]
   simp only[List.flatMap_nil,List.append_nil,h0,h17]
 | succ n ih=>
   intro i hi L x0 x17 h0 h17 hb F
   show qHL (qE5 (F+n+1)) _ _ _ _ _ _ _ _ _ _ _ _ _ _ _ _ _ _ _ _ _ _ _ _ _=_
   unfold qHL
   have hil:i<T.length:=by omega
   have hget:T.getD i 0=T[i]:=qFm hil
   have hd:T.drop i=T[i] :: T.drop (i+1):=List.drop_eq_getElem_cons hil
   rw[qf (by omega),qa (by omega) (by omega),tn,hget,qmI,qA]
   simp only
   rw[w_s (by omega) (by omega),hd,List.flatMap_cons,<- List.append_assoc]
   rw[tkA h0,tkA h0,qdM h0]
   have hi1:i+1+n=T.length:=by omega
   have ih':=ih (i+1) hi1
   cases hm:qDH x T[i] with
   | false=>
     rw[Bool.not_false,b_t,qC5 (by omega)]
     cases hy:qCz x f T[i] with
     | true=>
       rw[b_t,qC5 (by omega)]
       have:=ih' (L++qAF x f T[i]) (x0+1+1) (x0+1+1) (by simp[qAF,hm,hy,h0]) (by simp[qAF,hm,hy,h0]) (by simp[qAF,hm,hy];omega) F
       rw[<- this]
       simp[qAF,hm,hy]
     | false=>
       rw[b_f]
       have:=ih' (L++qAF x f T[i]) (x0+1) (x0+1) (by simp[qAF,hm,hy,h0]) (by simp[qAF,hm,hy,h0]) (by simp[qAF,hm,hy];omega) F
       rw[<- this]
       simp[qAF,hm,hy]
   | true=>
     rw[Bool.not_true,b_f]
     cases hy:qCz x f T[i] with
     | true=>
       rw[b_t,qC5 (by omega)]
       have:=ih' (L++qAF x f T[i]) (x0+1) (x0+1) (by simp[qAF,hm,hy,h0]) (by simp[qAF,hm,hy,h0]) (by simp[qAF,hm,hy];omega) F
       rw[<- this]
       simp[qAF,hm,hy]
     | false=>
       rw[b_f]
       have:=ih' (L++qAF x f T[i]) x0 x17 (by simp[qAF,hm,hy,h0]) (by simp[qAF,hm,hy,h17]) (by simp[qAF,hm,hy];omega) F
       rw[<- this]
       simp[qAF,hm,hy]
def kgs (b:List Int) (c:Nat):Bool:=pcs b (pc 0 8) c||pcs b (pc 1 8) c
def qBs (b:List Int) (S:Int) (G:Nat->Bool) (f:Nat) (c:Nat):Bool:=((rch (b.getD f 0) f c (tk b) && !sdP b S c) && !kgs b c)&&G c
def qCh (b:List Int) (S:Int) (G:Nat->Bool) (f:Int):List (List Int):=(sq (qBs b S G f.toNat)).flatMap (qAF (b.getD f.toNat 0) f)
def qw (b:List Int) (S:Int) (G:Nat->Bool):List (List Int):=(sq (sdP b S)).flatMap (qCh b S G)
theorem qYP (b:List Int) (S:Int) (G:Nat->Bool) (f:Int):(qCh b S G f).length<=162:=by
 unfold qCh
 have:=qHG (qAF (b.getD f.toNat 0) f) 2 (sq (qBs b S G f.toNat)) fun a _=>qlT _ _ _
 have:=qEX (qBs b S G f.toNat)
 omega
theorem qfZ {b:List Int} (hc:Clean b) (h:List Int) (S:Int) (G:Nat->Bool) (T:List Int) (hT:T.length<=1000) (hTr:∀ q∈T,0<=q /\ q<81) (N:Nat):∀ (n i:Nat),i+n=T.length->∀ (L:List (List Int)) (x0 x17:Nat),x0=L.length->x17=L.length->L.length<=900000 - 200*n->∀ F,
  qE4 (F+n+1) x0 S T.length T.length i b h S (qO b) (qR b) (sLo G) (sHi G) x17 L (sLo (kgs b)) (sHi (kgs b)) N T =
   some ((L++(T.drop i).flatMap (qCh b S G)).length,b,h,S,qO b,qR b,(L++(T.drop i).flatMap (qCh b S G)).length,L++(T.drop i).flatMap (qCh b S G)):=by
 intro n
 induction n with
 | zero=>
   intro i hi L x0 x17 h0 h17 hb F
   show qHK (qE4 (F+0)) _ _ _ _ _ _ _ _ _ _ _ _ _ _ _ _ _ _=_
   unfold qHK
   rw[qY (by omega),List.drop_eq_nil_of_le (by omega)]
   simp only[List.flatMap_nil,List.append_nil,h0,h17]
 | succ n ih=>
   intro i hi L x0 x17 h0 h17 hb F
   show qHK (qE4 (F+n+1)) _ _ _ _ _ _ _ _ _ _ _ _ _ _ _ _ _ _=_
   unfold qHK
   have hil:i<T.length:=by omega
   have hget:T.getD i 0=T[i]:=qFm hil
   have hd:T.drop i=T[i] :: T.drop (i+1):=List.drop_eq_getElem_cons hil
   obtain⟨q0,q1⟩:=hTr T[i] (List.getElem_mem hil)
   obtain⟨q,hq⟩:∃ q:Nat,T[i]=q:=⟨T[i].toNat,by omega⟩
   have hat:at_ b T[i]=b.getD q 0:=by rw[qAh ⟨q0,q1⟩,hq,tn]
   rw[qf (by omega),qa (by omega) (by omega),tn,hget,qC4,qA,qJq hc,qA]
   simp only
   rw[hat,hq,qLd _ (by omega),qA]
   simp only
   rw[qP6,qA]
   simp only
   rw[qLC,qA]
   simp only
   rw[qLC,qA]
   simp only
   rw[qEi,qA]
   simp only
   rw[qJm,qA]
   simp only
   rw[show (fun i=>((rch (b.getD q 0) q i (tk b) && !sdP b S i) && !kgs b i)&&G i)=qBs b S G q from rfl]
   have hlen:=qEX (qBs b S G q)
   obtain⟨g,hg⟩:=qi (sq (qBs b S G q)).length (by omega)
   have:=qrE (b.getD q 0) q (sq (qBs b S G q)) S T.length T.length i b h S (qO b) (qR b) (sLo G) (sHi G) (sLo (kgs b)) (sHi (kgs b)) N T (sq (qBs b S G q)).length (by omega) (sq (qBs b S G q)).length 0 (by omega) L x0 x17 h0 h17 (by omega) g
   rw[<- hg] at this
   rw[show qE5 qC x0 S q (b.getD q 0) T.length T.length i (sq (qBs b S G q)).length (Int.ofNat (sq (qBs b S G q)).length) 0 b h S (qO b) (qR b) (sLo G) (sHi G) x17 L (sLo (kgs b)) (sHi (kgs b)) N T (sq (qBs b S G q)).length (sq (qBs b S G q))=_ from this,qA]
   simp only
   have e:(List.drop 0 (sq (qBs b S G q))).flatMap (qAF (b.getD q 0) q)=qCh b S G T[i]:=by
    unfold qCh;rw[hq,tn,List.drop_zero]
   have hl2:=qYP b S G T[i]
   rw[e,w_s (by omega) (by omega),hd,List.flatMap_cons,<- List.append_assoc]
   exact ih (i+1) (by omega) (L++qCh b S G T[i]) _ _ rfl rfl (by rw[List.length_append];omega) F
theorem qWK {b:List Int} (hc:Clean b) (h:List Int) (S:Int) (G:Nat->Bool):qI3 (sLo G) (sHi G) b h S (qO b) (qR b)=some ((qw b S G).length,(qw b S G).length,qw b S G):=by
 unfold qI3
 rw[qGE,qA]
 simp only
 rw[qGE,qA]
 simp only
 rw[qHj,qA]
 simp only
 rw[qP6,qA]
 simp only
 rw[qJm,qA]
 simp only
 have hlen:=qEX (sdP b S)
 obtain⟨g,hg⟩:=qi (sq (sdP b S)).length (by omega)
 have:=qfZ hc h S G (sq (sdP b S)) (by omega) (fun q hq=>⟨(qGf hq).1,(qGf hq).2.1⟩) (sq (sdP b S)).length (sq (sdP b S)).length 0 (by omega) [] 0 0 rfl rfl (by simp only[List.length_nil];omega) g
 rw[<- hg] at this
 rw[show qE4 qC 0 S (sq (sdP b S)).length (Int.ofNat (sq (sdP b S)).length) 0 b h S (qO b) (qR b) (sLo G) (sHi G) 0 [] (sLo fun i=>pcs b (pc 0 8) i||pcs b (pc 1 8) i) (sHi fun i=>pcs b (pc 0 8) i||pcs b (pc 1 8) i) (sq (sdP b S)).length (sq (sdP b S))=_ from this,qA]
 rfl
def qBv (b h:List Int) (S:Int) (G:Nat->Bool) (k:Nat):List (List Int):=if hdP h S k<1 then [] else (sq fun i=>qA3 b S k i&&G i).map fun t=>[0,t,(k:Int),0]
def qAU (b h:List Int) (S:Int) (G:Nat->Bool):List (List Int):=(List.range' 1 7).flatMap (qBv b h S G)
theorem qYQ (b h:List Int) (S:Int) (G:Nat->Bool) (k:Nat):(qBv b h S G k).length<=81:=by
 unfold qBv
 split
 ·simp
 ·rw[List.length_map];exact qEX _
theorem qrF (k:Int) (T:List Int) (S:Int) (b h:List Int) (S':Int) (by' sd':List (List Int)) (u v:Int) (N3:Nat) (hT:T.length<=1000):∀ (n i:Nat),i+n=T.length->∀ (L:List (List Int)) (x0 x17:Nat),x0=L.length->x17=L.length->L.length<=1000000 - 2*n->∀ F,
  qE7 (F+n+1) x0 S k T.length T.length i b h S' by' sd' u v x17 L N3 T =
   some ((L++(T.drop i).map fun t=>[0,t,k,0]).length,S,k,b,h,S',by',sd',u,v,(L++(T.drop i).map fun t=>[0,t,k,0]).length,L++(T.drop i).map fun t=>[0,t,k,0]):=by
 intro n
 induction n with
 | zero=>
   intro i hi L x0 x17 h0 h17 hb F
   show qHN (qE7 (F+0)) _ _ _ _ _ _ _ _ _ _ _ _ _ _ _ _ _=_
   unfold qHN
   rw[qY (by omega),List.drop_eq_nil_of_le (by omega)]
   simp only[List.map_nil,List.append_nil,h0,h17]
 | succ n ih=>
   intro i hi L x0 x17 h0 h17 hb F
   show qHN (qE7 (F+n+1)) _ _ _ _ _ _ _ _ _ _ _ _ _ _ _ _ _=_
   unfold qHN
   have hil:i<T.length:=by omega
   have hget:T.getD i 0=T[i]:=qFm hil
   have hd:T.drop i=T[i] :: T.drop (i+1):=List.drop_eq_getElem_cons hil
   rw[qf (by omega),qa (by omega) (by omega),tn,hget,qC5 (by omega),tkA h0,w_s (by omega) (by omega),hd,List.map_cons]
   have:=ih (i+1) (by omega) (L++[[0,T[i],k,0]]) (x0+1) (x0+1) (by simp[h0]) (by simp[h0]) (by simp;omega) F
   rw[List.append_assoc] at this
   exact this
theorem qgw {b:List Int} (hc:Clean b) (h:List Int) (S:Int) (G:Nat->Bool):∀ (n k:Nat),k+n=8->∀ (L:List (List Int)) (x0 x17:Nat),x0=L.length->x17=L.length->L.length<=900000 - 200*n->∀ F,
  qE6 (F+n+1) x0 S k b h S (qO b) (qR b) (sLo G) (sHi G) x17 L =
   some ((L++(List.range' k n).flatMap (qBv b h S G)).length,b,h,S,qO b,qR b,(L++(List.range' k n).flatMap (qBv b h S G)).length,L++(List.range' k n).flatMap (qBv b h S G)):=by
 intro n
 induction n with
 | zero=>
   intro k hk L x0 x17 h0 h17 hb F
   show qHM (qE6 (F+0)) _ _ _ _ _ _ _ _ _ _ _ _=_
   unfold qHM
   rw[qY (by omega)]
   simp only[List.range'_zero,List.flatMap_nil,List.append_nil,h0,h17]
 | succ n ih=>
   intro k hk L x0 x17 h0 h17 hb F
   show qHM (qE6 (F+n+1)) _ _ _ _ _ _ _ _ _ _ _ _=_
   unfold qHM
   have hl2:=qYQ b h S G k
   rw[qf (by omega),qiW,qA,List.range'_succ,List.flatMap_cons,<- List.append_assoc]
   have ih':=ih (k+1) (by omega) (L++qBv b h S G k)
   by_cases h1:hdP h S k<1
   ·have e:qBv b h S G k=[]:=by unfold qBv;rw[if_pos h1]
    rw[qf h1,w_s (by omega) (by omega)]
    rw[e,List.append_nil] at ih' ⊢
    exact ih' x0 x17 h0 h17 (by omega) F
   ·have e:qBv b h S G k=(sq fun i=>qA3 b S k i&&G i).map fun t=>[0,t,(k:Int),0]:=by unfold qBv;rw[if_neg h1]
    rw[qY h1,qhP hc,qA]
    simp only
    rw[qEi,qA]
    simp only
    rw[qJm,qA]
    simp only
    have hlen:=qEX fun i=>qA3 b S k i&&G i
    obtain⟨g,hg⟩:=qi (sq fun i=>qA3 b S k i&&G i).length (by omega)
    have:=qrF k (sq fun i=>qA3 b S k i&&G i) S b h S (qO b) (qR b) (sLo G) (sHi G) (sq fun i=>qA3 b S k i&&G i).length (by omega) (sq fun i=>qA3 b S k i&&G i).length 0 (by omega) L x0 x17 h0 h17 (by omega) g
    rw[<- hg] at this
    rw[show qE7 qC x0 S k (sq fun i=>qA3 b S k i&&G i).length (Int.ofNat (sq fun i=>qA3 b S k i&&G i).length) 0 b h S (qO b) (qR b) (sLo G) (sHi G) x17 L (sq fun i=>qA3 b S k i&&G i).length (sq fun i=>qA3 b S k i&&G i)=_ from this,qA]
    simp only
    rw[List.drop_zero,<- e,w_s (by omega) (by omega)]
    exact ih' _ _ rfl rfl (by rw[List.length_append];omega) F
theorem qh5 {b:List Int} (hc:Clean b) (h:List Int) (S:Int) (G:Nat->Bool):qKl (sLo G) (sHi G) b h S (qO b) (qR b)=some ((qAU b h S G).length,(qAU b h S G).length,qAU b h S G):=by
 unfold qKl
 obtain⟨g,hg⟩:=qi 7 (by omega)
 have:=qgw hc h S G 7 1 (by omega) [] 0 0 rfl rfl (by simp only[List.length_nil];omega) g
 rw[<- hg] at this
 rw[show qE6 qC 0 S 1 b h S (qO b) (qR b) (sLo G) (sHi G) 0 []=_ from this,qA]
 rfl
def mvs (b h:List Int) (S:Int):List (List Int):=qw b S (fun _=>true)++qAU b h S (fun _=>true)
theorem qLH (b:List Int) (S:Int) (G:Nat->Bool):(qw b S G).length<=162*81:=by
 unfold qw
 have:=qHG (qCh b S G) 162 (sq (sdP b S)) fun a _=>qYP _ _ _ _
 have:=qEX (sdP b S)
 omega
theorem qPo (b h:List Int) (S:Int) (G:Nat->Bool):(qAU b h S G).length<=81*7:=by
 unfold qAU
 have:=qHG (qBv b h S G) 81 (List.range' 1 7) fun a _=>qYQ _ _ _ _ _
 rw[List.length_range'] at this
 omega
end Go.Kk.Pl
namespace Go.Kk.Pl
def qA5 (b h:List Int) (S:Int) (f t:Nat):List (List Int):=(if qAJ b h S f t 0 false then [[(f:Int),(t:Int),0,0]] else [])++(if qAJ b h S f t 0 true then [[(f:Int),(t:Int),0,1]] else [])
def rTo (b h:List Int) (S:Int) (f t:Nat):List (List Int):=if rch (b.getD f 0) f t (tk b) then qA5 b h S f t else []
def qBH (b h:List Int) (S:Int) (f:Nat):List (List Int):=if sd (b.getD f 0)=S then (List.range' 0 81).flatMap (rTo b h S f) else []
def qCU (b h:List Int) (S:Int) (k t:Nat):List (List Int):=if qAJ b h S 0 t k false then [[0,(t:Int),(k:Int),0]] else []
def qEO (b h:List Int) (S:Int) (k:Nat):List (List Int):=if hd_ h S k>0 then (List.range' 0 81).flatMap (qCU b h S k) else []
def qEN (b h:List Int) (S:Int):List (List Int):=(List.range' 0 81).flatMap (qBH b h S)++(List.range' 1 7).flatMap (qEO b h S)
theorem qmU (b h:List Int) (S:Int) (f t:Nat):(rTo b h S f t).length<=2:=by
 unfold rTo qA5
 split
 ·split<;>split<;>simp
 ·simp
theorem qZA (b h:List Int) (S:Int) (f:Nat):(qBH b h S f).length<=162:=by
 unfold qBH
 split
 ·have:=qHG (rTo b h S f) 2 (List.range' 0 81) fun a _=>qmU b h S f a
  rw[List.length_range'] at this
  omega
 ·simp
theorem qmO (b h:List Int) (S:Int) (k t:Nat):(qCU b h S k t).length<=1:=by
 unfold qCU;split<;>simp
theorem qmS (b h:List Int) (S:Int) (k:Nat):(qEO b h S k).length<=81:=by
 unfold qEO
 split
 ·have:=qHG (qCU b h S k) 1 (List.range' 0 81) fun a _=>qmO b h S k a
  rw[List.length_range'] at this
  omega
 ·simp
theorem qmT (b h:List Int) (S:Int) (f:Nat) (hf:f<81):∀ (n t:Nat),t+n=81->∀ (L:List (List Int)) (x0 x6:Nat),x0=L.length->x6=L.length->L.length<=1000000 - 2*n->∀ F,
  qFW (F+n+1) x0 f t b h S x6 L (qDQ b) =
   some ((L++(List.range' t n).flatMap (rTo b h S f)).length,(f:Int),b,h,S,(L++(List.range' t n).flatMap (rTo b h S f)).length,L++(List.range' t n).flatMap (rTo b h S f),qDQ b):=by
 intro n
 induction n with
 | zero=>
   intro t ht L x0 x6 h0 h6 hb F
   show qH0 (qFW (F+0)) _ _ _ _ _ _ _ _ _=_
   unfold qH0
   rw[qY (by omega)]
   simp only[List.range'_zero,List.flatMap_nil,List.append_nil,h0,h6]
 | succ n ih=>
   intro t ht L x0 x6 h0 h6 hb F
   show qH0 (qFW (F+n+1)) _ _ _ _ _ _ _ _ _=_
   unfold qH0
   rw[qf (by omega),qa (by omega) (by omega),tn,c_8,qQU b _ hf (by omega),qA,w_s (by omega) (by omega),List.range'_succ,List.flatMap_cons,<- List.append_assoc]
   have ih':=ih (t+1) (by omega) (L++rTo b h S f t)
   cases hr:rch (b.getD f 0) f t (tk b) with
   | false=>
     have e:rTo b h S f t=[]:=by unfold rTo;rw[hr];rfl
     rw[Bool.not_false,b_t]
     rw[e,List.append_nil] at ih' ⊢
     exact ih' x0 x6 h0 h6 (by omega) F
   | true=>
     have e:rTo b h S f t=qA5 b h S f t:=by unfold rTo;rw[hr];rfl
     rw[e] at ih' ⊢
     rw[Bool.not_true,b_f,qLy,qA,tkA h0,tkA h0,qdM h0]
     cases hm:qAJ b h S f t 0 false with
     | true=>
       rw[b_t,qC5 (by omega),qLy,qA]
       cases hy:qAJ b h S f t 0 true with
       | true=>
         rw[b_t,qC5 (by omega)]
         have:=ih' (x0+1+1) (x0+1+1) (by simp[qA5,hm,hy,h0]) (by simp[qA5,hm,hy,h0]) (by simp[qA5,hm,hy];omega) F
         rw[<- this]
         simp[qA5,hm,hy]
       | false=>
         rw[b_f]
         have:=ih' (x0+1) (x0+1) (by simp[qA5,hm,hy,h0]) (by simp[qA5,hm,hy,h0]) (by simp[qA5,hm,hy];omega) F
         rw[<- this]
         simp[qA5,hm,hy]
     | false=>
       rw[b_f,qLy,qA]
       cases hy:qAJ b h S f t 0 true with
       | true=>
         rw[b_t,qC5 (by omega)]
         have:=ih' (x0+1) (x0+1) (by simp[qA5,hm,hy,h0]) (by simp[qA5,hm,hy,h0]) (by simp[qA5,hm,hy];omega) F
         rw[<- this]
         simp[qA5,hm,hy]
       | false=>
         rw[b_f]
         have:=ih' x0 x6 (by simp[qA5,hm,hy,h0]) (by simp[qA5,hm,hy,h6]) (by simp[qA5,hm,hy];omega) F
         rw[<- this]
         simp[qA5,hm,hy]
theorem qmP (b h:List Int) (S:Int):∀ (n f:Nat),f+n=81->∀ (L:List (List Int)) (x0 x6:Nat),x0=L.length->x6=L.length->L.length<=900000 - 200*n->∀ F,
  qD3 (F+n+1) x0 f b h S x6 L (qDQ b) =
   some ((L++(List.range' f n).flatMap (qBH b h S)).length,b,h,S,(L++(List.range' f n).flatMap (qBH b h S)).length,L++(List.range' f n).flatMap (qBH b h S)):=by
 intro n
 induction n with
 | zero=>
   intro f hf L x0 x6 h0 h6 hb F
   show qH3 (qD3 (F+0)) _ _ _ _ _ _ _ _=_
   unfold qH3
   rw[qY (by omega)]
   simp only[List.range'_zero,List.flatMap_nil,List.append_nil,h0,h6]
 | succ n ih=>
   intro f hf L x0 x6 h0 h6 hb F
   show qH3 (qD3 (F+n+1)) _ _ _ _ _ _ _ _=_
   unfold qH3
   have hl:=qZA b h S f
   rw[qf (by omega),qa (by omega) (by omega),tn,c_8,qES,qA,List.range'_succ,List.flatMap_cons,<- List.append_assoc]
   have ih':=ih (f+1) (by omega) (L++qBH b h S f)
   by_cases h1:sd (b.getD f 0)=S
   ·have e:qBH b h S f=(List.range' 0 81).flatMap (rTo b h S f):=by unfold qBH;rw[if_pos h1]
    rw[qt h1]
    obtain⟨g,hg⟩:=qi 81 (by omega)
    have:=qmT b h S f (by omega) 81 0 (by omega) L x0 x6 h0 h6 (by omega) g
    rw[<- hg] at this
    rw[show qFW qC x0 f 0 b h S x6 L (qDQ b)=_ from this,qA]
    simp only
    rw[w_s (by omega) (by omega),<- e]
    exact ih' _ _ rfl rfl (by rw[List.length_append];omega) F
   ·have e:qBH b h S f=[]:=by unfold qBH;rw[if_neg h1]
    rw[qr h1,w_s (by omega) (by omega)]
    rw[e,List.append_nil] at ih' ⊢
    exact ih' x0 x6 h0 h6 (by omega) F
theorem qmN (b h:List Int) {S:Int} (hS:S=0 \/ S=1) (k:Nat) (hk:k<8):∀ (n t:Nat),t+n=81->∀ (L:List (List Int)) (x0 x6:Nat),x0=L.length->x6=L.length->L.length<=1000000 - 2*n->∀ F,
  qFX (F+n+1) x0 k t b h S x6 L =
   some ((L++if hd_ h S k>0 then (List.range' t n).flatMap (qCU b h S k) else []).length,(k:Int),b,h,S,(L++if hd_ h S k>0 then (List.range' t n).flatMap (qCU b h S k) else []).length,L++if hd_ h S k>0 then (List.range' t n).flatMap (qCU b h S k) else []):=by
 intro n
 induction n with
 | zero=>
   intro t ht L x0 x6 h0 h6 hb F
   show qH2 (qFX (F+0)) _ _ _ _ _ _ _ _=_
   unfold qH2
   rw[qY (by omega)]
   simp only[List.range'_zero,List.flatMap_nil,ite_self,List.append_nil,h0,h6]
 | succ n ih=>
   intro t ht L x0 x6 h0 h6 hb F
   show qH2 (qFX (F+n+1)) _ _ _ _ _ _ _ _=_
   unfold qH2
   rw[qf (by omega),qa (by omega) (by omega),qa (by omega) (by omega)]
   have ih':=ih (t+1) (by omega) (L++qCU b h S k t)
   by_cases h1:hd_ h S k>0
   ·rw[show List.getD h (S.toNat*8+Int.toNat (k:Int)) 0=hd_ h S k from rfl,qBe h1,qLy,qA,tkA h0,w_s (by omega) (by omega)]
    simp only[if_pos h1] at ih' ⊢
    rw[List.range'_succ,List.flatMap_cons,<- List.append_assoc]
    cases hm:qAJ b h S 0 t k false with
    | true=>
      have e:qCU b h S k t=[[0,(t:Int),(k:Int),0]]:=by unfold qCU;rw[hm];rfl
      rw[b_t,qC5 (by omega)]
      rw[e] at ih' ⊢
      exact ih' (x0+1) (x0+1) (by simp[h0]) (by simp[h0]) (by simp;omega) F
    | false=>
      have e:qCU b h S k t=[]:=by unfold qCU;rw[hm];rfl
      rw[b_f]
      rw[e,List.append_nil] at ih' ⊢
      exact ih' x0 x6 h0 h6 (by omega) F
   ·rw[show List.getD h (S.toNat*8+Int.toNat (k:Int)) 0=hd_ h S k from rfl,qBf h1,if_neg h1,List.append_nil,h0,h6]
theorem qmR (b h:List Int) {S:Int} (hS:S=0 \/ S=1):∀ (n k:Nat),k+n=8->∀ (L:List (List Int)) (x0 x6:Nat),x0=L.length->x6=L.length->L.length<=900000 - 200*n->∀ F,
  qD2 (F+n+1) x0 k b h S x6 L =
   some ((L++(List.range' k n).flatMap (qEO b h S)).length,(L++(List.range' k n).flatMap (qEO b h S)).length,L++(List.range' k n).flatMap (qEO b h S)):=by
 intro n
 induction n with
 | zero=>
   intro k hk L x0 x6 h0 h6 hb F
   show qH1 (qD2 (F+0)) _ _ _ _ _ _ _=_
   unfold qH1
   rw[qKA (by omega)]
   simp only[List.range'_zero,List.flatMap_nil,List.append_nil,h0,h6]
 | succ n ih=>
   intro k hk L x0 x6 h0 h6 hb F
   show qH1 (qD2 (F+n+1)) _ _ _ _ _ _ _=_
   unfold qH1
   have hl:=qmS b h S k
   obtain⟨g,hg⟩:=qi 81 (by omega)
   have:=qmN b h hS k (by omega) 81 0 (by omega) L x0 x6 h0 h6 (by omega) g
   rw[<- hg] at this
   rw[qJ9 (by omega),show qFX qC x0 k 0 b h S x6 L=_ from this,qA]
   simp only
   have e:List.range' k (n+1)=k :: List.range' (k+1) n:=List.range'_succ
   rw[w_s (by omega) (by omega),e,List.flatMap_cons,<- List.append_assoc]
   exact ih (k+1) (by omega) (L++qEO b h S k) _ _ rfl rfl (by rw[List.length_append];omega) F
theorem qmQ (b h:List Int) (S:Int):((List.range' 0 81).flatMap (qBH b h S)).length<=162*81:=by
 have:=qHG (qBH b h S) 162 (List.range' 0 81) fun a _=>qZA b h S a
 rw[List.length_range'] at this
 exact this
theorem qbZ (b h:List Int) {S:Int} (hS:S=0 \/ S=1):qJS b h S=some ((qEN b h S).length,(qEN b h S).length,qEN b h S):=by
 have main:(ob (qFT b h S) fun a3=>
  ob (qD3 qC 0 0 b h S 0 [] a3) fun (a4_0,a4_1,a4_2,a4_3,a4_4,a4_5)=>
  ob (qD2 qC a4_0 1 a4_1 a4_2 a4_3 a4_4 a4_5) fun (a10_0,a10_1,a10_2)=>
  (some (a10_0,a10_1,a10_2):Option (Nat×Nat×List (List Int))))=some ((qEN b h S).length,(qEN b h S).length,qEN b h S):=by
  rw[qSp,qA]
  have hl:=qmQ b h S
  obtain⟨g,hg⟩:=qi 81 (by omega)
  have:=qmP b h S 81 0 (by omega) [] 0 0 rfl rfl (by simp only[List.length_nil];omega) g
  rw[<- hg,List.nil_append] at this
  rw[show qD3 qC 0 0 b h S 0 [] (qDQ b)=_ from this,qA]
  simp only
  obtain⟨g,hg⟩:=qi 7 (by omega)
  have:=qmR b h hS 7 1 (by omega) ((List.range' 0 81).flatMap (qBH b h S)) _ _ rfl rfl (by omega) g
  rw[<- hg] at this
  rw[show qD2 qC ((List.range' 0 81).flatMap (qBH b h S)).length 1 b h S ((List.range' 0 81).flatMap (qBH b h S)).length ((List.range' 0 81).flatMap (qBH b h S))=_ from this,qA]
  rfl
 unfold qJS
 rcases hS with rfl | rfl
 ·rw[qt rfl];exact main
 ·rw[qr (by omega),qt rfl];exact main
theorem qhF {α β γ:Type} (p:α->Bool) (f:α->β) (g:β->List γ) (L:List α):((L.filter p).map f).flatMap g=L.flatMap fun a=>if p a then g (f a) else []:=by
 induction L with
 | nil=>rfl
 | cons a L ih=>
   rw[List.filter_cons,List.flatMap_cons]
   cases h:p a with
   | true=>rw[if_pos rfl,if_pos rfl,List.map_cons,List.flatMap_cons,ih]
   | false=>rw[if_neg (by simp),if_neg (by simp),ih];rfl
theorem qSV {γ:Type} (p:Nat->Bool) (g:Int->List γ):(sq p).flatMap g=(List.range' 0 81).flatMap fun (i:Nat)=>if p i then g (i:Int) else []:=by
 unfold sq;rw[qhF,qZD];rfl
theorem qIz {α β:Type} {f g:α->List β} {L:List α} (h:∀ a∈L,f a=g a):L.flatMap f=L.flatMap g:=by
 induction L with
 | nil=>rfl
 | cons a L ih=>rw[List.flatMap_cons,List.flatMap_cons,h a (by simp),ih fun x hx=>h x (by simp[hx])]
theorem qqY {γ:Type} (p:Nat->Bool) (g:Int->γ):(sq p).map g=(List.range' 0 81).flatMap fun (i:Nat)=>if p i then [g (i:Int)] else []:=by
 rw[<- qSV p fun t=>[g t]]
 induction sq p with
 | nil=>rfl
 | cons a L ih=>rw[List.map_cons,List.flatMap_cons,ih];rfl
theorem qjC {b:List Int} (_hc:Clean b) {c:Nat} (_hcc:c<81):kgs b c=decide (kd (b.getD c 0)=8):=by
 unfold kgs pcs
 rw[qA4 (.inl rfl) (by omega) (by omega) (by omega),qA4 (.inr rfl) (by omega) (by omega) (by omega),Bool.eq_iff_iff]
 simp only[Bool.or_eq_true,decide_eq_true_eq]
 constructor
 ·rintro (⟨_,h⟩ | ⟨_,h⟩)<;>rw[h]<;>decide
 ·intro h
  have:=qLU (x:=b.getD c 0) (by omega)
  rw[h] at this
  have hs:=qIA (x:=b.getD c 0) (by omega)
  rcases hs with h1 | h1<;>rw[h1,qA4 (by omega) (by omega) (by omega) (by omega)] at this
  ·left;omega
  ·right;omega
theorem qYL {b:List Int} (_hc:Clean b) (h:List Int) {S:Int} (hS:S=0 \/ S=1) {f t:Nat} (hf:f<81) (ht:t<81) (hs:sd (b.getD f 0)=S) (hr:rch (b.getD f 0) f t (tk b)=true) (p:Bool):
  qAJ b h S f t 0 p=(decide (sd (b.getD t 0)≠S /\ kd (b.getD t 0)≠8)&&if p=true then qCz (b.getD f 0) f t else !qDH (b.getD f 0) t):=by
 unfold qAJ qCK
 rw[if_neg (by simp),if_neg (by simp),qAh (by omega),qAh (by omega),tn,tn,hr,decide_eq_true (p:=S=0 \/ S=1) hS,Bool.true_and,Bool.true_and]
 by_cases hft:f=t
 ·subst hft
  have:decide (sd (b.getD f 0)=S /\ sd (b.getD f 0)≠S /\ kd (b.getD f 0)≠8)=false:=decide_eq_false fun hh=>hh.2.1 hs
  rw[this,Bool.false_and,Bool.and_false,Bool.false_and,decide_eq_false (p:=sd (b.getD f 0)≠S /\ kd (b.getD f 0)≠8) (fun hh=>hh.1 hs),Bool.false_and]
 ·have e:qCa f t 0 p=0:=by
   unfold qCa
   rw[if_neg (by omega),if_neg (by simp),if_neg (by omega),if_neg (by omega)]
  rw[decide_eq_true e,Bool.true_and]
  have:decide (sd (b.getD f 0)=S /\ sd (b.getD t 0)≠S /\ kd (b.getD t 0)≠8)=decide (sd (b.getD t 0)≠S /\ kd (b.getD t 0)≠8):=by simp[hs,-List.getD_eq_getElem?_getD]
  rw[this,Bool.and_assoc]
  congr 1
  cases p with
  | false=>simp
  | true=>
    simp only[Bool.not_true,Bool.false_or,if_true]
    unfold qCz
    rw[<- Bool.and_assoc,Bool.and_self]
theorem qrH {b:List Int} (hc:Clean b) (h:List Int) {S:Int} (hS:S=0 \/ S=1) {f t:Nat} (hf:f<81) (ht:t<81) (hs:sd (b.getD f 0)=S):
  (if qBs b S (fun _=>true) f t then qAF (b.getD f 0) f t else [])=rTo b h S f t:=by
 unfold rTo qA5 qAF qBs
 rw[qjC hc ht]
 cases hr:rch (b.getD f 0) f t (tk b) with
 | false=>simp
 | true=>
   rw[qYL hc h hS hf ht hs hr,qYL hc h hS hf ht hs hr]
   unfold sdP sds
   rw[decide_eq_true (p:=S=0 \/ S=1) hS]
   by_cases h1:sd (b.getD t 0)=S
   ·simp[h1,-List.getD_eq_getElem?_getD]
   ·by_cases h2:kd (b.getD t 0)=8
    ·simp[h2,-List.getD_eq_getElem?_getD]
    ·simp only[h1,h2,decide_false,Bool.and_self,Bool.not_false,Bool.true_and,ne_eq,not_false_eq_true,if_true,Bool.false_eq_true,if_false]
     cases qDH (b.getD f 0) t<;>cases qCz (b.getD f 0) f t<;>rfl
theorem qPp {b:List Int} (hc:Clean b) (h:List Int) {S:Int} (hS:S=0 \/ S=1):mvs b h S=qEN b h S:=by
 unfold mvs qEN
 congr 1
 ·unfold qw
  rw[qSV]
  apply qIz
  intro f hf
  rw[List.mem_range'_1] at hf
  unfold qBH
  by_cases hs:sd (b.getD f 0)=S
  ·have:sdP b S f=true:=by unfold sdP sds;rw[decide_eq_true hs,decide_eq_true (p:=S=0 \/ S=1) hS];rfl
   rw[if_pos this,if_pos hs]
   unfold qCh
   rw[tn,qSV]
   apply qIz
   intro t ht
   rw[List.mem_range'_1] at ht
   exact qrH hc h hS (by omega) (by omega) hs
  ·have:sdP b S f=false:=by unfold sdP sds;rw[decide_eq_false hs,Bool.and_false]
   rw[if_neg (by simp[this]),if_neg hs]
 ·unfold qAU
  apply qIz
  intro k hk
  rw[List.mem_range'_1] at hk
  unfold qBv qEO
  have e:hdP h S k=hd_ h S k:=by unfold hdP;rw[if_pos ⟨hS,by omega,by omega⟩]
  rw[e]
  by_cases h1:hd_ h S k>0
  ·rw[if_neg (by omega),if_pos h1,qqY]
   apply qIz
   intro t ht
   rw[List.mem_range'_1] at ht
   unfold qCU
   rw[Bool.and_true]
   have:qAJ b h S 0 t k false=qA3 b S k t:=by
    unfold qAJ qCK qA3 qBF
    have e2:qCa 0 (t:Int) k false=0:=by
     unfold qCa
     rw[if_neg (by omega),if_pos (by omega),if_pos ⟨by omega,by omega,rfl,rfl⟩]
    rw[e2,qA4 hS (by omega) (by omega) (by omega),qA4 hS (by omega) (by omega) (by omega),if_pos (by omega),if_pos (by omega),decide_eq_true (p:=S=0 \/ S=1) hS,decide_eq_true (p:=(S=0 \/ S=1) /\ (1:Int)<=k /\ (k:Int)<=7) ⟨hS,by omega,by omega⟩,qNt _ (by omega),qAh (by omega),tn,decide_eq_true (p:=0<hd_ h S k) h1]
    unfold tk
    by_cases h2:(k:Int)=1
    ·rw[h2]
     by_cases h0:b.getD t 0=0<;>simp
    ·by_cases h0:b.getD t 0=0<;>simp[h2]
   rw[this]
  ·rw[if_pos (by omega),if_neg h1]
end Go.Kk.Pl
namespace Go.Kk.Pl
theorem hd0 (m:List Int):List.headD (List.take 4 m) 0=m.getD 0 0:=by cases m<;>rfl
theorem hd1 (m:List Int):List.headD (List.tail (List.take 4 m)) 0=m.getD 1 0:=by
 rcases m with _ | ⟨a,_ | ⟨b,m⟩⟩<;>rfl
theorem hd2 (m:List Int):List.headD (List.tail (List.tail (List.take 4 m))) 0=m.getD 2 0:=by
 rcases m with _ | ⟨a,_ | ⟨b,_ | ⟨c,m⟩⟩⟩<;>rfl
theorem hd3 (m:List Int):List.headD (List.tail (List.tail (List.tail (List.take 4 m)))) 0=m.getD 3 0:=by
 rcases m with _ | ⟨a,_ | ⟨b,_ | ⟨c,_ | ⟨d,m⟩⟩⟩⟩<;>rfl
theorem qlU {x f t:Int} {m:List Int} (h:m∈qAF x f t):∃ p:Int,m=[f,t,0,p]:=by
 unfold qAF at h
 rw[List.mem_append] at h
 rcases h with h | h
 ·split at h
  ·cases h
  ·exact⟨0,by simpa using h⟩
 ·split at h
  ·exact⟨1,by simpa using h⟩
  ·cases h
theorem qkR {b:List Int} {S:Int} {G:Nat->Bool} {f:Int} {m:List Int} (h:m∈qCh b S G f):∃ t p:Int,m=[f,t,0,p]:=by
 unfold qCh at h
 obtain⟨t,_,ht⟩:=List.mem_flatMap.1 h
 obtain⟨p,hp⟩:=qlU ht
 exact⟨t,p,hp⟩
theorem qkP {b:List Int} {S:Int} {G:Nat->Bool} {m:List Int} (h:m∈qw b S G):∃ f t p:Int,m=[f,t,0,p]:=by
 unfold qw at h
 obtain⟨f,_,hf⟩:=List.mem_flatMap.1 h
 obtain⟨t,p,hp⟩:=qkR hf
 exact⟨f,t,p,hp⟩
theorem qkS {b h:List Int} {S:Int} {G:Nat->Bool} {k:Nat} {m:List Int} (hm:m∈qBv b h S G k):∃ t:Int,m=[0,t,(k:Int),0]:=by
 unfold qBv at hm
 split at hm
 ·cases hm
 ·obtain⟨t,_,ht⟩:=List.mem_map.1 hm
  exact⟨t,ht.symm⟩
theorem qkQ {b h:List Int} {S:Int} {G:Nat->Bool} {m:List Int} (hm:m∈qAU b h S G):∃ (k:Nat) (t:Int),1<=k /\ k<=7 /\ m=[0,t,(k:Int),0]:=by
 unfold qAU at hm
 obtain⟨k,hk,h2⟩:=List.mem_flatMap.1 hm
 rw[List.mem_range'_1] at hk
 obtain⟨t,ht⟩:=qkS h2
 exact⟨k,t,by omega,by omega,ht⟩
theorem qYR (b h:List Int) (S:Int):(mvs b h S).length<=20000:=by
 unfold mvs
 have h1:=qLH b S fun _=>true
 have h2:=qPo b h S fun _=>true
 rw[List.length_append]
 omega
end Go.Kk.Pl
namespace Go.Kk.Pl
theorem qiQ (es:List (List Int×List Int)) (r v r' d:List Int):qBB (qAK es r v) r' d=if r'=r then v else qBB es r' d:=by
 induction es with
 | nil=>
   by_cases h:r'=r
   ·subst h;simp[qAK,qBB]
   ·have:(r==r')=false:=by simpa using fun hh=>h hh.symm
    simp[qAK,qBB,this,h]
 | cons x es ih=>
   obtain⟨k,u⟩:=x
   by_cases hk:k=r
   ·subst hk
    by_cases h:r'=k
    ·subst h;simp[qAK,qBB]
    ·have:(k==r')=false:=by simpa using fun hh=>h hh.symm
     simp[qAK,qBB,this,h]
   ·have e1:(k==r)=false:=by simpa using hk
    by_cases hk':k=r'
    ·subst hk'
     simp[qAK,qBB,e1,hk]
    ·have e2:(k==r')=false:=by simpa using hk'
     simp only[qAK,e1,cond_false,qBB,e2,ih]
theorem qia (es:List (List Int×List Int)) (r v r':List Int):qBC (qAK es r v) r'=(decide (r'=r)||qBC es r'):=by
 induction es with
 | nil=>
   by_cases h:r'=r
   ·subst h;simp[qAK,qBC]
   ·have:(r==r')=false:=by simpa using fun hh=>h hh.symm
    simp[qAK,qBC,this,h]
 | cons x es ih=>
   obtain⟨k,u⟩:=x
   by_cases hk:k=r
   ·subst hk
    by_cases h:r'=k
    ·subst h;simp[qAK,qBC]
    ·have:(k==r')=false:=by simpa using fun hh=>h hh.symm
     simp[qAK,qBC,this,h]
   ·have e1:(k==r)=false:=by simpa using hk
    by_cases hk':k=r'
    ·subst hk'
     simp[qAK,qBC,e1]
    ·have e2:(k==r')=false:=by simpa using hk'
     simp only[qAK,e1,cond_false,qBC,e2,ih,Bool.false_or]
structure MvOK (b h:List Int) (S f t d p:Int):Prop where
 pp:p=0 \/ p=1
 mov:qAJ b h S f t d (p != 0)=true
 tr:0<=t /\ t<81
 fr:0<=f /\ f<81
 dr:0<=d /\ d<=7
 drop:d≠0->f=0 /\ p=0 /\ 0<hd_ h S d /\ at_ b t=0
theorem qkT {b h:List Int} (hc:Clean b) {S:Int} (hS:S=0 \/ S=1) {m:List Int} (hm:m∈mvs b h S):∃ f t d p:Int,m=[f,t,d,p] /\ MvOK b h S f t d p:=by
 rw[qPp hc h hS] at hm
 unfold qEN at hm
 rw[List.mem_append] at hm
 rcases hm with hm | hm
 ·obtain⟨f,hf,hm⟩:=List.mem_flatMap.1 hm
  rw[List.mem_range'_1] at hf
  unfold qBH at hm
  split at hm<;>try cases hm
  obtain⟨t,ht,hm⟩:=List.mem_flatMap.1 hm
  rw[List.mem_range'_1] at ht
  unfold rTo at hm
  split at hm<;>try cases hm
  unfold qA5 at hm
  rw[List.mem_append] at hm
  rcases hm with hm | hm
  ·split at hm
   ·rename_i hmv
    rw[List.mem_singleton] at hm
    exact⟨f,t,0,0,hm,.inl rfl,hmv,by omega,by omega,by omega,fun h=>absurd rfl h⟩
   ·cases hm
  ·split at hm
   ·rename_i hmv
    rw[List.mem_singleton] at hm
    exact⟨f,t,0,1,hm,.inr rfl,hmv,by omega,by omega,by omega,fun h=>absurd rfl h⟩
   ·cases hm
 ·obtain⟨k,hk,hm⟩:=List.mem_flatMap.1 hm
  rw[List.mem_range'_1] at hk
  unfold qEO at hm
  split at hm<;>try cases hm
  rename_i hh
  obtain⟨t,ht,hm⟩:=List.mem_flatMap.1 hm
  rw[List.mem_range'_1] at ht
  unfold qCU at hm
  split at hm
  case isFalse=>cases hm
  rename_i hmv
  rw[List.mem_singleton] at hm
  refine⟨0,t,k,0,hm,.inl rfl,hmv,by omega,by omega,by omega,fun h=>⟨rfl,rfl,hh,?_⟩⟩
  have:=hmv
  unfold qAJ qCK at this
  rw[if_pos h] at this
  simp only[Bool.and_eq_true,decide_eq_true_eq] at this
  exact this.1.2.2.2
end Go.Kk.Pl
namespace Go.Kk.Pl
theorem qdJ {x:Int} {a c:Nat} (h:qA7 x a c=true):-1<=df a c /\ df a c<=1 /\ -2<=dr a c /\ dr a c<=2 /\ (dr a c=2 \/ dr a c = -2->df a c=1 \/ df a c = -1) /\ ¬ (df a c=0 /\ dr a c=0):=by
 have h:=of_decide_eq_true h
 unfold qCE at h
 have:upS x a c=dr a c \/ upS x a c = - dr a c:=by unfold upS;split<;>simp
 omega
theorem qMQ {x:Int} {a c:Nat} (h:qA7 x a c=true):btw a c=[]:=by
 have hs:=qdJ h
 unfold btw
 by_cases hl:qAA a c=0
 ·rw[if_pos hl]
 ·rw[if_neg hl]
  have hl:=(qK7 a c).mp hl
  unfold qEJ at hl
  have:mx a c<=1:=by
   unfold mx
   split<;>omega
  rw[show mx a c - 1=0 by omega]
  rfl
theorem qq1 {x:Int} {a:Nat}:qA7 x a a=false:=by
 cases h:qA7 x a a with
 | false=>rfl
 | true=>exact absurd (qHP a) (qdJ h).2.2.2.2.2
theorem qqR {x:Int} {a:Nat}:qAt x a a=false:=by
 unfold qAt
 have:=qHP a
 have:upS x a a=0:=by unfold upS;split<;>omega
 rw[decide_eq_false]
 unfold slK
 omega
theorem qZZ {x:Int} {a:Nat} {t:Nat->Bool}:rch x a a t=false:=by
 unfold rch;rw[qq1,qqR];rfl
theorem qIn {k c f:Nat} (hk:k<81) (hc:c<81) (h:f∈btw c k):f<81 /\ f≠k /\ f≠c /\ ∃ n:Nat,(qBI (sgn (df k f)) (sgn (dr k f)) k)[n]? = some c /\ ∀ i,(i∈btw c k↔i∈(qBI (sgn (df k f)) (sgn (dr k f)) k).take n):=by
 have hf:f∈btw k c:=qIl hc hk h
 have hl:qAA k c≠0:=by intro h0;unfold btw at hf;rw[if_pos h0] at hf;cases hf
 have:=qKN ⟨k,hk⟩ ⟨c,hc⟩
 simp only[qIq,Bool.or_eq_true,decide_eq_true_eq,Bool.and_eq_true,beq_iff_eq,Bool.not_eq_true'] at this
 obtain⟨e1,e2,e3⟩:=this.resolve_left hl
 have hW:f∈qBI (sgn (df k c)) (sgn (dr k c)) k:=List.mem_of_mem_take (by rw[e1];exact hf)
 have hli:=(qK7 k c).mp hl
 have sx:-1<=sgn (df k c) /\ sgn (df k c)<=1:=by unfold sgn;split<;>(try split)<;>omega
 have sy:-1<=sgn (dr k c) /\ sgn (dr k c)<=1:=by unfold sgn;split<;>(try split)<;>omega
 have sn:¬ (sgn (df k c)=0 /\ sgn (dr k c)=0):=by
  unfold qEJ at hli
  unfold sgn
  split<;>split<;>(try split)<;>(try split)<;>omega
 have hB:=qUe ⟨((sgn (df k c)+1)*3+(sgn (dr k c)+1)).toNat,by omega⟩ ⟨k,hk⟩
 simp only at hB
 rw[show (((((sgn (df k c)+1)*3+(sgn (dr k c)+1)).toNat / 3:Nat):Int) - 1)=sgn (df k c) by omega,show (((((sgn (df k c)+1)*3+(sgn (dr k c)+1)).toNat % 3:Nat):Int) - 1)=sgn (dr k c) by omega] at hB
 have hB:=hB.resolve_left (by omega)
 unfold qNl at hB
 rw[List.all_eq_true] at hB
 have hB:=hB f hW
 simp only[Bool.and_eq_true,decide_eq_true_eq] at hB
 obtain⟨b1,b2,b3,b4⟩:=hB
 refine⟨b1,?_,?_,(btw k c).length,?_,?_⟩
 ·rintro rfl
  exact b2 (by unfold qAA;rw[if_pos rfl])
 ·rintro rfl
  rw[List.contains_iff_mem.mpr hf] at e3
  cases e3
 ·rw[b3,b4];exact e2
 ·intro i
  rw[b3,b4,e1]
  exact⟨qIl hc hk,qIl hk hc⟩
theorem qUS {k c c' f:Nat} (hk:k<81) (hc:c<81) (hc':c'<81) (h:f∈btw c k) (h':f∈btw c' k) (hne:c≠c'):c∈btw c' k \/ c'∈btw c k:=by
 obtain⟨_,_,_,n,e,m⟩:=qIn hk hc h
 obtain⟨_,_,_,n',e',m'⟩:=qIn hk hc' h'
 rcases Nat.lt_trichotomy n n' with hn | hn | hn
 ·left
  rw[m',List.mem_iff_getElem?]
  exact⟨n,by rw[List.getElem?_take,if_pos hn];exact e⟩
 ·subst hn
  rw[e] at e'
  exact absurd (Option.some.inj e') hne
 ·right
  rw[m,List.mem_iff_getElem?]
  exact⟨n',by rw[List.getElem?_take,if_pos hn];exact e'⟩
def enm (b:List Int) (s:Int) (c:Nat):Bool:=decide (sd (b.getD c 0)=1 - s)
def atk (b:List Int) (s:Int) (k c:Nat):Bool:=enm b s c&&rch (b.getD c 0) c k (tk b)
def tk2 (b:List Int) (f t i:Nat):Bool:=decide (i=t)||(!decide (i=f)&&tk b i)
def qD9 (b:List Int) (s:Int) (k f t c:Nat):Bool:=decide (c≠t)&&(enm b s c&&rch (b.getD c 0) c k (tk2 b f t))
def qAP (b:List Int) (s:Int) (k f c:Nat):Bool:=enm b s c&&(qAt (b.getD c 0) c k&&((btw c k).contains f&&(tk b f&&(decide (sd (b.getD f 0)=s)&&(btw c k).all fun i=>i==f || !tk b i))))
theorem qDJ {b:List Int} {s:Int} {k f c:Nat}:qAP b s k f c=true↔enm b s c=true /\ qAt (b.getD c 0) c k=true /\ f∈btw c k /\ tk b f=true /\ sd (b.getD f 0)=s /\ ∀ i∈btw c k,i≠f->tk b i=false:=by
 unfold qAP
 simp only[Bool.and_eq_true,decide_eq_true_eq,List.all_eq_true,Bool.or_eq_true,beq_iff_eq,Bool.not_eq_true',List.contains_iff_mem]
 constructor
 ·rintro ⟨h1,h2,h3,h4,h5,h6⟩
  exact⟨h1,h2,h3,h4,h5,fun i hi hn=>(h6 i hi).resolve_left hn⟩
 ·rintro ⟨h1,h2,h3,h4,h5,h6⟩
  exact⟨h1,h2,h3,h4,h5,fun i hi=>by by_cases hn:i=f;exact .inl hn;exact .inr (h6 i hi hn)⟩
theorem qNz {b:List Int} {s:Int} (hs:s=0 \/ s=1) {c:Nat} (h:enm b s c=true):tk b c=true:=by
 have h:=of_decide_eq_true h
 unfold tk
 rw[decide_eq_true_eq]
 intro h0
 rw[h0,qJc] at h
 omega
theorem qY4 {b:List Int} {s:Int} (hs:s=0 \/ s=1) {k f c c':Nat} (hk:k<81) (hc:c<81) (hc':c'<81) (h:qAP b s k f c=true) (h':qAP b s k f c'=true):c=c':=by
 apply Classical.byContradiction
 intro hne
 rw[qDJ] at h h'
 rcases qUS hk hc hc' h.2.2.1 h'.2.2.1 hne with hm | hm
 ·have:=h'.2.2.2.2.2 c hm (fun e=>(qIn hk hc h.2.2.1).2.2.1 e.symm)
  rw[qNz hs h.1] at this
  cases this
 ·have:=h.2.2.2.2.2 c' hm (fun e=>(qIn hk hc' h'.2.2.1).2.2.1 e.symm)
  rw[qNz hs h'.1] at this
  cases this
theorem qY5 {b:List Int} {s:Int} {k f f' c:Nat} (h:qAP b s k f c=true) (h':qAP b s k f' c=true):f=f':=by
 apply Classical.byContradiction
 intro hne
 rw[qDJ] at h h'
 have:=h'.2.2.2.2.2 f h.2.2.1 hne
 rw[h.2.2.2.1] at this
 cases this
theorem qB8 {x:Int} {a c:Nat} {t:Nat->Bool}:rch x a c t=true↔qA7 x a c=true \/ (qAt x a c=true /\ ∀ i∈btw a c,t i=false):=by
 unfold rch
 rw[Bool.or_eq_true,Bool.and_eq_true,qHI]
theorem qd9 {b:List Int} {s:Int} {k f t:Nat} (hf:tk b f=true->sd (b.getD f 0)=s):
  (∀ c,c<81->qD9 b s k f t c=false)↔(∀ c,c<81->atk b s k c=true->t=c \/ t∈btw c k) /\ (∀ c,c<81->qAP b s k f c=true->t=c \/ t∈btw c k):=by
 constructor
 ·intro h
  refine⟨fun c hc ha=>?_,fun c hc hp=>?_⟩
  ·apply Classical.byContradiction
   intro hn
   simp only[not_or] at hn
   have:=h c hc
   rw[show qD9 b s k f t c=true from ?_] at this
   ·cases this
   ·simp only[atk,Bool.and_eq_true] at ha
    simp only[qD9,Bool.and_eq_true,decide_eq_true_eq]
    refine⟨fun e=>hn.1 e.symm,ha.1,?_⟩
    rw[qB8] at ha ⊢
    refine ha.2.imp id fun hh=>⟨hh.1,fun i hi=>?_⟩
    unfold tk2
    rw[hh.2 i hi,decide_eq_false (p:=i=t) (fun e=>hn.2 (e ▸ hi))]
    simp
  ·apply Classical.byContradiction
   intro hn
   simp only[not_or] at hn
   have:=h c hc
   rw[show qD9 b s k f t c=true from ?_] at this
   ·cases this
   ·rw[qDJ] at hp
    simp only[qD9,Bool.and_eq_true,decide_eq_true_eq]
    refine⟨fun e=>hn.1 e.symm,hp.1,?_⟩
    rw[qB8]
    refine .inr ⟨hp.2.1,fun i hi=>?_⟩
    unfold tk2
    rw[decide_eq_false (p:=i=t) (fun e=>hn.2 (e ▸ hi))]
    by_cases hif:i=f
    ·simp[hif]
    ·rw[hp.2.2.2.2.2 i hi hif];simp
 ·rintro ⟨h1,h2⟩ c hc
  cases ha:qD9 b s k f t c with
  | false=>rfl
  | true=>
    exfalso
    simp only[qD9,Bool.and_eq_true,decide_eq_true_eq] at ha
    obtain⟨hct,he,hr⟩:=ha
    have tt:tk2 b f t t=true:=by unfold tk2;simp
    have out:t ∉ btw c k:=by
     intro hm
     rw[qB8] at hr
     rcases hr with hr | hr
     ·rw[qMQ hr] at hm;cases hm
     ·rw[hr.2 t hm] at tt;cases tt
    cases hak:atk b s k c with
    | true=>exact (h1 c hc hak).elim (fun e=>hct e.symm) out
    | false=>
      unfold atk at hak
      rw[he,Bool.true_and] at hak
      have hn:¬ (qA7 (b.getD c 0) c k=true \/ (qAt (b.getD c 0) c k=true /\ ∀ i∈btw c k,tk b i=false)):=by
       rw[<- qB8,hak];simp
      simp only[not_or,not_and] at hn
      rw[qB8] at hr
      have hr:=hr.resolve_left hn.1
      have two:∀ i∈btw c k,i≠f->tk b i=false:=by
       intro i hi hif
       have:=hr.2 i hi
       unfold tk2 at this
       rw[decide_eq_false hif] at this
       simpa using (Bool.or_eq_false_iff.mp this).2
      have hmf:f∈btw c k /\ tk b f=true:=by
       apply Classical.byContradiction
       intro hh
       apply hn.2 hr.1
       intro i hi
       by_cases hif:i=f
       ·subst hif
        cases htk:tk b i with
        | false=>rfl
        | true=>exact absurd ⟨hi,htk⟩ hh
       ·exact two i hi hif
      exact (h2 c hc (qDJ.mpr ⟨he,hr.1,hmf.1,hmf.2,hf hmf.2,two⟩)).elim (fun e=>hct e.symm) out
theorem qrM {b:List Int} {s:Int} (hs:s=0 \/ s=1) {k c c' t:Nat} (hk:k<81) (hc:c<81) (hc':c'<81) (h:atk b s k c=true) (h':atk b s k c'=true) (hne:c≠c')
  (ht:t=c \/ t∈btw c k) (ht':t=c' \/ t∈btw c' k):False:=by
 have no:∀ {c c':Nat},atk b s k c=true->atk b s k c'=true->c∈btw c' k->False:=by
  intro c c' h h' hm
  simp only[atk,Bool.and_eq_true] at h h'
  rcases qB8.mp h'.2 with hr | hr
  ·rw[qMQ hr] at hm;cases hm
  ·have:=hr.2 c hm
   rw[qNz hs h.1] at this;cases this
 rcases ht with rfl | ht
 ·rcases ht' with rfl | ht'
  ·exact hne rfl
  ·exact no h h' ht'
 ·rcases ht' with rfl | ht'
  ·exact no h' h ht
  ·rcases qUS hk hc hc' ht ht' hne with hm | hm
   ·exact no h h' hm
   ·exact no h' h hm
end Go.Kk.Pl
namespace Go.Kk.Pl
theorem qgM {f g:Nat->Bool} (h:∀ i,i<81->f i=g i):qA2 f=qA2 g:=by
 unfold qA2
 apply List.countP_congr
 intro i hi
 rw[h i (List.mem_range.mp hi)]
theorem qgQ:∀ f:Fin 81,qA2 (only ((f.val:Nat):Int))=1:=by decide +kernel
theorem qHA {g:Nat->Bool}:qA2 g=1 ↔ ∃ f,f<81 /\ ∀ i,i<81->(g i=true↔i=f):=by
 constructor
 ·intro h
  unfold qA2 at h
  rw[List.countP_eq_length_filter] at h
  obtain⟨f,hf⟩:=List.length_eq_one_iff.mp h
  have hm:∀ i,i∈(List.range 81).filter g↔i=f:=by rw[hf];simp
  refine⟨f,?_,fun i hi=>?_⟩
  ·have:=(hm f).mpr rfl
   rw[List.mem_filter,List.mem_range] at this
   exact this.1
  ·rw[<- hm i,List.mem_filter,List.mem_range]
   exact⟨fun h=>⟨hi,h⟩,fun h=>h.2⟩
 ·rintro ⟨f,hf,h⟩
  rw[<- qgQ ⟨f,hf⟩]
  apply qgM
  intro i hi
  unfold only
  rw[Bool.eq_iff_iff,h i hi,decide_eq_true_eq]
  simp only
  omega
theorem qN9 {g:Nat->Bool} {f:Nat} (hf:f<81) (h:∀ i,i<81->(g i=true↔i=f)):fst g=f:=by
 apply qKe hf ((h f hf).mpr rfl)
 intro i hi
 cases hg:g i with
 | false=>rfl
 | true=>exact absurd ((h i (by omega)).mp hg) (by omega)
def qD6 (k c:Nat) (i:Nat):Bool:=(btw c k).contains i||only c i
def qEM (b:List Int) (s:Int) (k c:Nat):Option Nat:=(List.range 81).find? fun f=>qAP b s k f c
theorem ql7 {b:List Int} {s:Int} {k c f:Nat} (h:qAP b s k f c=true) (hf:f<81):qEM b s k c=some f:=by
 unfold qEM
 cases hp:(List.range 81).find? fun f=>qAP b s k f c with
 | none=>
   rw[List.find?_eq_none] at hp
   exact absurd h (hp f (List.mem_range.mpr hf))
 | some f'=>
   have:=List.find?_some hp
   rw[qY5 this h]
theorem qY3 {b:List Int} {s:Int} {k c:Nat} (h:∀ f,f<81->qAP b s k f c=false):qEM b s k c=none:=by
 unfold qEM
 rw[List.find?_eq_none]
 intro f hf
 rw[h f (List.mem_range.mp hf)]
 simp
def qB2 (b:List Int) (s:Int) (k:Nat) (P:Nat->Bool) (es:List (List Int×List Int)):Prop:=
 ∀ f:Nat,f<81->(qBC es [(f:Int)]=true ↔ ∃ c,c<81 /\ P c=true /\ qAP b s k f c=true) /\ ∀ c,c<81->P c=true->qAP b s k f c=true->qBB es [(f:Int)] [0,0]=prS (qD6 k c)
theorem qmA {b:List Int} (hcl:Clean b) (h:List Int) (S:Int) {s:Int} (hs:s=0 \/ s=1) {k:Nat} (hk:k<81) (x2:Nat) (x3 x4:Int) (x14:Nat) (x15:List Int) (N:Nat) (L:List Int) {i:Nat} (hi:i<L.length) (hl:L.length<=1000) {c:Nat} (hc:c<81) (hq:L[i]=(c:Int)) (he:enm b s c=true)
  (es:List (List Int×List Int)) (R:Int->Int->Nat->Int->Int->Nat->Int->Int->List Int->List Int->Int->List (List Int)->List (List Int)->List (List Int×List Int)->Nat->List Int->Nat->List Int->Option (Int×Int×Nat×Int×Int×List Int×List Int×Int×List (List Int)×List (List Int)×List (List Int×List Int)×Nat×List Int)):
  qFn R s k x2 x3 x4 L.length L.length i b h S (qO b) (qR b) es x14 x15 N L =
   R s k x2 x3 x4 L.length L.length ((i+1:Nat):Int) b h S (qO b) (qR b) (match qEM b s k c with | none=>es | some f=>qAK es [(f:Int)] (prS (qD6 k c))) x14 x15 N L:=by
 unfold qFn
 have hget:L.getD i 0=L[i]:=qFm hi
 rw[qf (by omega),qa (by omega) (by omega),tn,hget,hq,qZG hc hk,qA]
 simp only
 rw[qJq hcl,qA]
 simp only
 rw[qEi,qA]
 simp only
 rw[qNs,qA,w_s (n:=(i:Int)+1) (by omega) (by omega)]
 have inm:∀ f,f<81->qAP b s k f c=true->∀ i,i<81->(((btw c k).contains i&&tk b i)=true↔i=f):=by
  intro f _ hp i _
  rw[qDJ] at hp
  rw[Bool.and_eq_true,List.contains_iff_mem]
  constructor
  ·rintro ⟨h1,h2⟩
   apply Classical.byContradiction
   intro hn
   rw[hp.2.2.2.2.2 i h1 hn] at h2;cases h2
  ·rintro rfl;exact⟨hp.2.2.1,hp.2.2.2.1⟩
 by_cases h1:((qA2 fun i=>(btw c k).contains i&&tk b i:Nat):Int)=1
 ·rw [qt h1]
  obtain⟨f,hf,hm⟩:=qHA.mp (by omega:(qA2 fun i=>(btw c k).contains i&&tk b i)=1)
  have only_f:∀ f',f'<81->qAP b s k f' c=true->f'=f:=fun f' hf' hp=>(hm f' hf').mp ((inm f' hf' hp f' hf').mpr rfl)
  have none':qAP b s k f c=false->qEM b s k c=none:=by
   intro h0
   apply qY3
   intro f' hf'
   cases hp:qAP b s k f' c with
   | false=>rfl
   | true=>rw[only_f f' hf' hp,h0] at hp;cases hp
  have hmf:=(hm f hf).mpr rfl
  rw[Bool.and_eq_true,List.contains_iff_mem] at hmf
  rw[qP6,qA]
  simp only
  rw[qEi,qA]
  simp only
  rw[qIx,qA]
  by_cases hsd:sd (b.getD f 0)=s
  ·have hE0:isE (fun i=>((btw c k).contains i&&tk b i)&&sdP b s i)=false:=by
    cases hE:isE (fun i=>((btw c k).contains i&&tk b i)&&sdP b s i) with
    | false=>rfl
    | true=>
      have:=qCw.mp hE f hf
      rw[(hm f hf).mpr rfl] at this
      unfold sdP sds at this
      rw[decide_eq_true hs,decide_eq_true hsd] at this
      cases this
   rw[hE0,b_f]
   rw[qN6,qA,qC4,qA,qAh (by omega),tn]
   rw[qN9 hf hm,qA]
   simp only
   rw[qJy,qA]
   simp only
   rw[qLd _ hc,qA]
   simp only
   rw[qEG,qA]
   have hh:∀ g:Nat->Bool,has g (k:Int)=g k:=by
    intro g;unfold has;rw[decide_eq_true (by omega),decide_eq_true (by omega),tn];rfl
   rw[hh]
   cases hr1:rch (b.getD c 0) c k (fun i=>tk b i && !only f i) with
   | false=>
     rw[Bool.not_false,b_t,none' ?_]
     ·rfl
     ·cases hp:qAP b s k f c with
      | false=>rfl
      | true=>
        rw[qDJ] at hp
        rw[<- hr1,qB8.mpr (.inr ⟨hp.2.1,?_⟩)]
        intro i hi
        by_cases hif:i=f
        ·subst hif;unfold only;simp
        ·rw[hp.2.2.2.2.2 i hi hif];rfl
   | true =>
     rw[Bool.not_true,b_f,qA,qA]
     simp only
     rw[qLd _ hc,qA]
     simp only
     rw[qEG,qA,hh]
     cases hr2:rch (b.getD c 0) c k (tk b) with
     | true=>
       rw[b_t,none' ?_]
       ·rfl
       ·cases hp:qAP b s k f c with
        | false=>rfl
        | true=>
          rw[qDJ] at hp
          rcases qB8.mp hr2 with hr | hr
          ·rw[qMQ hr] at hmf;cases hmf.1
          ·rw[hr.2 f hmf.1] at hmf;cases hmf.2
     | false=>
       have hn:¬ (qA7 (b.getD c 0) c k=true \/ (qAt (b.getD c 0) c k=true /\ ∀ i∈btw c k,tk b i=false)):=by
        rw[<- qB8,hr2];simp
       simp only[not_or] at hn
       have hp:qAP b s k f c=true:=by
        rw[qDJ]
        refine⟨he,((qB8.mp hr1).resolve_left hn.1).1,hmf.1,hmf.2,hsd,fun i hi hif=>?_⟩
        cases htk:tk b i with
        | false=>rfl
        | true=>
          exact absurd ((hm i (qIm hc hk hi)).mp (by rw[Bool.and_eq_true,List.contains_iff_mem];exact⟨hi,htk⟩)) hif
       rw[b_f,qGl,qA,ql7 hp hf]
       rfl
  ·have hE0:isE (fun i=>((btw c k).contains i&&tk b i)&&sdP b s i)=true:=by
    rw[qCw]
    intro i hi
    cases hx:((btw c k).contains i&&tk b i) with
    | false=>rfl
    | true=>
      rw[(hm i hi).mp hx]
      unfold sdP sds
      rw[decide_eq_false hsd];simp
   rw[hE0,b_t,none' ?_]
   ·rfl
   ·cases hp:qAP b s k f c with
    | false=>rfl
    | true=>exact absurd (qDJ.mp hp).2.2.2.2.1 hsd
 ·rw [qr h1,qY3 ?_]
  ·rfl
  ·intro f hf
   cases hp:qAP b s k f c with
   | false=>rfl
   | true=>
     have:=qHA.mpr ⟨f,hf,inm f hf hp⟩
     omega
theorem ql8 {b:List Int} {s:Int} (hs:s=0 \/ s=1) {k:Nat} (hk:k<81) {P:Nat->Bool} {es:List (List Int×List Int)} (hP:qB2 b s k P es) {c:Nat} (hc:c<81):
  qB2 b s k (fun i=>P i||decide (i=c)) (match qEM b s k c with | none=>es | some f=>qAK es [(f:Int)] (prS (qD6 k c))):=by
 cases hp:qEM b s k c with
 | none=>
   unfold qEM at hp
   rw[List.find?_eq_none] at hp
   intro f hf
   have hno:=hp f (List.mem_range.mpr hf)
   obtain⟨h1,h2⟩:=hP f hf
   refine⟨?_,?_⟩
   ·rw[h1]
    constructor
    ·rintro ⟨c',a,a',a''⟩;exact⟨c',a,by simp[a'],a''⟩
    ·rintro ⟨c',a,a',a''⟩
     rw[Bool.or_eq_true,decide_eq_true_eq] at a'
     rcases a' with a' | rfl
     ·exact⟨c',a,a',a''⟩
     ·exact absurd a'' hno
   ·intro c' a a' a''
    rw[Bool.or_eq_true,decide_eq_true_eq] at a'
    rcases a' with a' | rfl
    ·exact h2 c' a a' a''
    ·exact absurd a'' hno
 | some g=>
   have hg:=List.find?_some (show (List.range 81).find? (fun f=>qAP b s k f c)=some g from hp)
   have hg':g<81:=List.mem_range.mp (List.mem_of_find?_eq_some (show (List.range 81).find? (fun f=>qAP b s k f c)=some g from hp))
   intro f hf
   obtain⟨h1,h2⟩:=hP f hf
   simp only
   rw[qia,qiQ]
   by_cases hfg:f=g
   ·subst hfg
    rw[decide_eq_true rfl,if_pos rfl]
    refine⟨⟨fun _=>⟨c,hc,by simp,hg⟩,fun _=>rfl⟩,fun c' a _ a''=>?_⟩
    rw[qY4 hs hk hc a hg a'']
   ·have hne:¬ ([(f:Int)]=[(g:Int)]):=by
     intro e
     have:=List.cons.inj e
     omega
    rw[decide_eq_false hne,if_neg hne,Bool.false_or]
    have hno:¬ qAP b s k f c=true:=fun hp'=>hfg (qY5 hp' hg)
    refine⟨?_,?_⟩
    ·rw[h1]
     constructor
     ·rintro ⟨c',a,a',a''⟩;exact⟨c',a,by simp[a'],a''⟩
     ·rintro ⟨c',a,a',a''⟩
      rw[Bool.or_eq_true,decide_eq_true_eq] at a'
      rcases a' with a' | rfl
      ·exact⟨c',a,a',a''⟩
      ·exact absurd a'' hno
    ·intro c' a a' a''
     rw[Bool.or_eq_true,decide_eq_true_eq] at a'
     rcases a' with a' | rfl
     ·exact h2 c' a a' a''
     ·exact absurd a'' hno
theorem qJJ {b:List Int} {s:Int} {k:Nat} {P Q:Nat->Bool} {es:List (List Int×List Int)} (h:∀ i,i<81->P i=Q i) (hP:qB2 b s k P es):qB2 b s k Q es:=by
 intro f hf
 obtain⟨h1,h2⟩:=hP f hf
 refine⟨?_,fun c hc hq=>h2 c hc (by rw[h c hc];exact hq)⟩
 rw[h1]
 constructor
 ·rintro ⟨c,a,a',a''⟩;exact⟨c,a,by rw[<- h c a];exact a',a''⟩
 ·rintro ⟨c,a,a',a''⟩;exact⟨c,a,by rw[h c a];exact a',a''⟩
theorem ql9 {b:List Int} (hcl:Clean b) (h:List Int) (S:Int) {s:Int} (hs:s=0 \/ s=1) {k:Nat} (hk:k<81) (x2:Nat) (x3 x4:Int) (x14:Nat) (x15:List Int) (N:Nat) (L:List Int) (hl:L.length<=1000) (hL:∀ q∈L,0<=q /\ q<81 /\ enm b s q.toNat=true):∀ (n i:Nat),i+n=L.length->∀ (P:Nat->Bool) (es:List (List Int×List Int)),qB2 b s k P es->
  ∃ es',(∀ F,qEl (F+n+1) s k x2 x3 x4 L.length L.length i b h S (qO b) (qR b) es x14 x15 N L=some (s,(k:Int),x2,x3,x4,b,h,S,qO b,qR b,es',x14,x15)) /\ qB2 b s k (fun c=>P c||(L.drop i).contains (c:Int)) es':=by
 intro n
 induction n with
 | zero=>
   intro i hi P es hP
   refine⟨es,fun F=>?_,?_⟩
   ·show qFn (qEl (F+0)) _ _ _ _ _ _ _ _ _ _ _ _ _ _ _ _ _ _=_
    unfold qFn
    rw[qY (by omega)]
   ·rw[List.drop_eq_nil_of_le (by omega)]
    exact qJJ (fun i _=>by simp) hP
 | succ n ih=>
   intro i hi P es hP
   have hil:i<L.length:=by omega
   obtain⟨q0,q1,q2⟩:=hL L[i] (List.getElem_mem hil)
   obtain⟨c,hc⟩:∃ c:Nat,L[i]=c:=⟨L[i].toNat,by omega⟩
   rw[hc] at q0 q1 q2
   obtain⟨es',h1,h2⟩:=ih (i+1) (by omega) _ _ (ql8 hs hk hP (c:=c) (by omega))
   refine⟨es',fun F=>?_,qJJ (fun j _=>?_) h2⟩
   ·show qFn (qEl (F+n+1)) _ _ _ _ _ _ _ _ _ _ _ _ _ _ _ _ _ _=_
    rw[qmA hcl h S hs hk x2 x3 x4 x14 x15 N L hil hl (by omega) hc q2]
    exact h1 F
   ·rw[List.drop_eq_getElem_cons hil,List.contains_cons,hc,Bool.or_assoc]
    congr 2
    rw[Bool.eq_iff_iff,decide_eq_true_eq,beq_iff_eq]
    omega
def qAq:List Int:=[2,6,7,14,15]
theorem qjI {b:List Int} (hcl:Clean b) (h:List Int) (S:Int) {s:Int} (hs:s=0 \/ s=1) {k:Nat} (hk:k<81):∀ (n i:Nat),i+n=5->∀ (P:Nat->Bool) (es:List (List Int×List Int)),qB2 b s k P es->
  ∃ es',(∀ F,qEk (F+n+1) s k 5 5 i b h S (qO b) (qR b) es 5 qAq=some (b,h,S,qO b,qR b,es')) /\ qB2 b s k (fun c=>P c||(qAq.drop i).any fun x=>pcs b (pc (1 - s) x) c) es':=by
 intro n
 induction n with
 | zero=>
   intro i hi P es hP
   refine⟨es,fun F=>?_,?_⟩
   ·show qGs (qEk (F+0)) _ _ _ _ _ _ _ _ _ _ _ _ _=_
    unfold qGs
    rw[qY (by omega)]
   ·rw[List.drop_eq_nil_of_le (by show 5<=i;omega)]
    exact qJJ (fun i _=>by simp) hP
 | succ n ih=>
   intro i hi P es hP
   have hil:i<qAq.length:=by show i<5;omega
   obtain⟨x,hx,hget,hdr⟩:∃ x,(x=2 \/ x=6 \/ x=7 \/ x=14 \/ x=15) /\ qAq.getD i 0=x /\ qAq.drop i=x :: qAq.drop (i+1):=by
    have:∀ j:Fin 5,(qAq.getD j.val 0=2 \/ qAq.getD j.val 0=6 \/ qAq.getD j.val 0=7 \/ qAq.getD j.val 0=14 \/ qAq.getD j.val 0=15) /\ qAq.drop j.val=qAq.getD j.val 0 :: qAq.drop (j.val+1):=by decide
    have:=this ⟨i,hil⟩
    exact⟨qAq.getD i 0,this.1,rfl,this.2⟩
   obtain⟨es1,h1,h2⟩:=ql9 hcl h S hs hk 5 5 i 5 qAq (sq (pcs b (pc (1 - s) x))).length (sq (pcs b (pc (1 - s) x))) (by have:=qEX (pcs b (pc (1 - s) x));omega) (by
    intro q hq
    obtain⟨a,a',a''⟩:=qGf hq
    refine⟨a,a',?_⟩
    have:=of_decide_eq_true a''
    unfold enm
    rw[this.2,(qD5 (s:=1 - s) (by omega) (k:=x) (by omega) (by omega) (by omega)).1]
    simp) (sq (pcs b (pc (1 - s) x))).length 0 (by omega) P es hP
   obtain⟨es',h3,h4⟩:=ih (i+1) (by omega) _ _ h2
   obtain⟨g,hg⟩:=qi (sq (pcs b (pc (1 - s) x))).length (by have:=qEX (pcs b (pc (1 - s) x));omega)
   refine⟨es',fun F=>?_,qJJ (fun j hj=>?_) h4⟩
   ·show qGs (qEk (F+n+1)) _ _ _ _ _ _ _ _ _ _ _ _ _=_
    unfold qGs
    rw[qf (by omega),qa (by omega) (by omega),tn,hget,w_s (n:=1 - s) (by omega) (by omega),qGE,qA]
    simp only
    rw[qJm,qA]
    simp only
    have:=h1 g
    rw[<- hg] at this
    rw[show qEl qC s k 5 5 i (sq (pcs b (pc (1 - s) x))).length (Int.ofNat (sq (pcs b (pc (1 - s) x))).length) 0 b h S (qO b) (qR b) es 5 qAq (sq (pcs b (pc (1 - s) x))).length (sq (pcs b (pc (1 - s) x)))=_ from this,qA]
    simp only
    rw[w_s (n:=(i:Int)+1) (by omega) (by omega)]
    exact h3 F
   ·rw[hdr,List.any_cons,List.drop_zero,<- Bool.or_assoc]
    congr 2
    cases hp:pcs b (pc (1 - s) x) j with
    | true=>rw[List.contains_iff_mem.mpr (qYG hj hp)]
    | false=>
      cases hcn:(sq (pcs b (pc (1 - s) x))).contains (j:Int) with
      | false=>rfl
      | true=>
        have:=(qGf (List.contains_iff_mem.mp hcn)).2.2
        rw[tn,hp] at this
        cases this
theorem qqQ {b:List Int} {s:Int} (_hs:s=0 \/ s=1) {c k:Nat} (he:enm b s c=true) (h:qAt (b.getD c 0) c k=true):(qAq.any fun x=>pcs b (pc (1 - s) x) c)=true:=by
 have he:=of_decide_eq_true he
 have h:=of_decide_eq_true h
 have hk:kd (b.getD c 0)=2 \/ kd (b.getD c 0)=6 \/ kd (b.getD c 0)=7 \/ kd (b.getD c 0)=14 \/ kd (b.getD c 0)=15:=by
  unfold slK at h;omega
 have hx:=qLU (x:=b.getD c 0) (by omega)
 rw[List.any_eq_true]
 refine⟨kd (b.getD c 0),?_,?_⟩
 ·unfold qAq
  rcases hk with h | h | h | h | h<;>rw[h]<;>simp
 ·unfold pcs
  rw[decide_eq_true_eq,<- he,<- hx]
  refine⟨fun h0=>?_,rfl⟩
  rw[h0,qFB] at hk
  omega
theorem qmC {b:List Int} (hcl:Clean b) (h:List Int) (S:Int) {s:Int} (hs:s=0 \/ s=1):∃ es,qId s b h S (qO b) (qR b)=some es /\
  (kg b s<0->es=[]) /\ (0<=kg b s->qB2 b s (kg b s).toNat (fun c=>enm b s c&&(qAq.any fun x=>pcs b (pc (1 - s) x) c)) es):=by
 have hr:=qVc (pcs b (pc s 8))
 unfold qId
 rw[qO8,show fst (pcs b (pc s 8))=kg b s from rfl,qA]
 by_cases hk:kg b s<0
 ·rw[qf hk]
  exact⟨[],rfl,fun _=>rfl,fun h=>by omega⟩
 ·rw [qY hk]
  have hk1:kg b s<81:=hr.2
  obtain⟨k,hkk⟩:∃ k:Nat,kg b s=k:=⟨(kg b s).toNat,by omega⟩
  rw[hkk]
  have h0:qB2 b s k (fun _=>false) []:=by
   intro f hf
   exact⟨⟨fun h=>(by cases h),fun⟨_,_,h,_⟩=>(by cases h)⟩,fun _ _ h=>(by cases h)⟩
  obtain⟨es,h1,h2⟩:=qjI hcl h S hs (k:=k) (by omega) 5 0 rfl _ [] h0
  obtain⟨g,hg⟩:=qi 5 (by omega)
  have:=h1 g
  rw[<- hg] at this
  refine⟨es,?_,fun h=>by omega,fun _=>?_⟩
  ·rw[show qEk qC s k 5 5 0 b h S (qO b) (qR b) [] 5 [2,6,7,14,15]=_ from this,qA]
  ·rw[tn]
   refine qJJ (fun i _=>?_) h2
   rw[List.drop_zero,Bool.false_or]
   cases ha:(qAq.any fun x=>pcs b (pc (1 - s) x) i) with
   | false=>simp
   | true=>
     rw[List.any_eq_true] at ha
     obtain⟨x,hx,hp⟩:=ha
     have:=of_decide_eq_true hp
     unfold qAq at hx
     have hx':x=2 \/ x=6 \/ x=7 \/ x=14 \/ x=15:=by simpa using hx
     unfold enm
     rw[this.2,(qD5 (s:=1 - s) (by omega) (k:=x) (by omega) (by omega) (by omega)).1]
     simp
end Go.Kk.Pl
namespace Go.Kk.Pl
def laid (b:List Int) (s f d:Int) (p:Bool):Int:=if d≠0 then 16*s+d else if p=true then 16*s+up_ (kd (at_ b f)) else at_ b f
def was (b:List Int) (s f d:Int):Int:=if d≠0 then 16*s+d else at_ b f
def mb (b:List Int) (s f t d:Int) (p:Bool):List Int:=if d≠0 then put b t (laid b s f d p) else put (put b f 0) t (laid b s f d p)
def mh (b h:List Int) (s t d:Int):List Int:=if d≠0 then qAT h s d (-1) else if at_ b t=0 then h else qAT h s (rw_ (kd (at_ b t))) 1
def qHg (K:Int) (b h:List Int) (s f t d:Int) (p:Bool):Int:=qK0 (if d≠0 then qCg (qHT K h s d (-1)) b t (laid b s f d p) else
 if at_ b t=0 then qCg (qCg K b f 0) (put b f 0) t (laid b s f d p) else qHT (qCg (qCg K b f 0) (put b f 0) t (laid b s f d p)) h s (rw_ (kd (at_ b t))) 1)
theorem qIU {k:Int} (h:up_ k≠0):1<=up_ k /\ up_ k<=15 /\ up_ k≠13:=by
 unfold up_ at h ⊢
 split
 ·omega
 ·rename_i h2;rw[if_neg h2] at h;exact absurd rfl h
end Go.Kk.Pl
namespace Go.Kk.Pl
def kof (b h:List Int) (s:Int):Int:=(qFC b h s).getD 0
theorem qjL (b h:List Int) (s:Int):qFC b h s=some (kof b h s):=by
 obtain⟨k,hk,_⟩:=qjA b h s
 unfold kof;rw[hk];rfl
end Go.Kk.Pl
namespace Go.Kk.Pl
def dl (x k:Int):Int:=if rw_ (kd x)=k then 1 else 0
theorem qUl (x:Int) (l:List Int) (k:Int):(cnt (x :: l) k:Int)=cnt l k+dl x k:=by
 unfold cnt dl
 rw[List.countP_cons]
 by_cases h:rw_ (kd x)=k
 ·simp[h]
 ·have:(rw_ (kd x)==k)=false:=by simpa using h
  simp[h]
theorem qgR (x k:Int):∀ (l:List Int) (i:Nat),i<l.length->(cnt (l.set i x) k:Int)+dl (l.getD i 0) k=cnt l k+dl x k:=by
 intro l
 induction l with
 | nil=>intro i hi;simp at hi
 | cons y l ih=>
   intro i hi
   cases i with
   | zero=>
     simp only[List.set_cons_zero,qUl,List.getD_cons_zero]
     omega
   | succ i=>
     have:=ih i (by simpa using hi)
     simp only[List.set_cons_succ,qUl,List.getD_cons_succ]
     omega
theorem qim (x:Int):kd (if kd x=0 then 0 else x)=kd x:=by
 split
 ·rename_i h;rw[h];exact qFB
 ·rfl
theorem qNq {b:List Int} (hl:b.length=81) {q:Int} (hq:0<=q /\ q<81) (x k:Int):(cnt (put b q x) k:Int)+dl (at_ b q) k=cnt b k+dl x k:=by
 unfold put at_
 rw[if_pos hq,if_pos hq]
 have:=qgR (if kd x=0 then 0 else x) k b q.toNat (by omega)
 have e:dl (if kd x=0 then 0 else x) k=dl x k:=by unfold dl;rw[qim]
 rw[e] at this
 exact this
theorem qNw {k:Int} (h:1<=k):dl 0 k=0:=by
 unfold dl
 rw[if_neg]
 rw[qFB]
 unfold rw_
 rw[if_pos (by omega)]
 omega
theorem qJz {n:Int} (h1:-128<=n) (h2:n<=127):IntKind.wrap .i8 n=n:=qCG h1 h2
theorem qrV (n:Int):-128<=IntKind.wrap .i8 n /\ IntKind.wrap .i8 n<=127:=by
 simp[IntKind.wrap,IntKind.signed,IntKind.bits]
 omega
theorem qWj (h:List Int) (s k d:Int):(qAT h s k d).length=h.length:=by simp[qAT]
theorem qVT {h:List Int} (hf:qAe h) (s k d:Int):qAe (qAT h s k d):=by
 intro i
 unfold qAT
 by_cases e:s.toNat*8+k.toNat=i
 ·by_cases hi:i<h.length
  ·subst e
   rw[List.getD_eq_getElem?_getD,List.getElem?_set_self hi]
   exact qrV _
  ·rw[List.getD_eq_getElem?_getD,List.getElem?_eq_none (by simpa using hi)]
   simp
 ·rw[List.getD_eq_getElem?_getD,List.getElem?_set_ne e,<- List.getD_eq_getElem?_getD]
  exact hf i
theorem qHQ {h:List Int} (hl:h.length=16) {s k:Int} (hs:s=0 \/ s=1) (k0:0<=k) (k1:k<8) (d:Int) {s' k':Int} (hs':s'=0 \/ s'=1) (k0':0<=k') (k1':k'<8):
  hd_ (qAT h s k d) s' k'=if s'=s /\ k'=k then IntKind.wrap .i8 (hd_ h s k+d) else hd_ h s' k':=by
 by_cases e:s'=s /\ k'=k
 ·obtain⟨rfl,rfl⟩:=e
  rw[if_pos ⟨rfl,rfl⟩]
  unfold qAT
  rw[show hd_ (h.set (s'.toNat*8+k'.toNat) (IntKind.wrap .i8 (hd_ h s' k'+d))) s' k'=(h.set (s'.toNat*8+k'.toNat) (IntKind.wrap .i8 (hd_ h s' k'+d))).getD (s'.toNat*8+k'.toNat) 0 from rfl,
   List.getD_eq_getElem?_getD,List.getElem?_set_self (by rcases hs' with rfl | rfl<;>simp<;>omega)]
  rfl
 ·rw[if_neg e]
  unfold qAT hd_
  rw[List.getD_eq_getElem?_getD,List.getElem?_set_ne (by rcases hs with rfl | rfl<;>rcases hs' with rfl | rfl<;>simp<;>omega),<- List.getD_eq_getElem?_getD]
theorem qN7 {h:List Int} (hf:qAe h) (s k:Int):-128<=hd_ h s k /\ hd_ h s k<=127:=hf _
theorem qpG {k:Int} (h1:1<=k) (h2:k<8):rw_ k=k:=by
 unfold rw_
 rw[if_neg (by omega),if_neg (by omega)]
theorem qpH {k:Int} (h:up_ k≠0):rw_ (up_ k)=rw_ k:=by
 unfold up_ at h ⊢
 split
 ·unfold rw_
  rw[if_neg (by omega),if_pos (by omega),if_neg (by omega),if_neg (by omega)]
  omega
 ·rename_i h2;rw[if_neg h2] at h;exact absurd rfl h
theorem ql6 {b h:List Int} {s:Int} (hS:Sound b h s) (hf:qAe h) (hl:h.length=16) {f t d:Int} {p:Bool} (hP:CanP b h s f t d p) {k:Int} (k0:1<=k) (k1:k<8):
  (cnt (mb b s f t d p) k:Int)+hd_ (mh b h s t d) 0 k+hd_ (mh b h s t d) 1 k=cnt b k+hd_ h 0 k+hd_ h 1 k:=by
 have hsd:=hS.side
 by_cases hd:d=0
 ·obtain⟨f0,f1,f2,g1,g2,g3,g4⟩:=hP.move hd
  unfold mb mh
  rw[if_neg (by simpa using hd),if_neg (by simpa using hd)]
  have c1:=qNq hS.clean.len ⟨f0,f1⟩ 0 k
  have c2:=qNq (hS.clean.put f 0).len hP.to_ (laid b s f d p) k
  have e1:at_ (put b f 0) t=at_ b t:=by rw[qJ6 hS.clean.len ⟨f0,f1⟩,if_neg (Ne.symm f2)]
  rw[e1] at c2
  rw[qNw k0] at c1
  have e2:dl (laid b s f d p) k=dl (at_ b f) k:=by
   unfold laid
   rw[if_neg (by simpa using hd)]
   cases p with
   | false=>rfl
   | true=>
     have hu:=g4 rfl
     obtain⟨u1,u2,u3⟩:=qIU hu
     rw[if_pos rfl]
     unfold dl
     rw[qHS hsd u1 u2 u3,qpH hu]
  rw[e2] at c2
  by_cases ht:at_ b t=0
  ·rw[if_pos ht]
   rw[ht,qNw k0] at c2
   omega
  ·rw[if_neg ht]
   have hk:=(hS.clean.at_ t).resolve_left ht
   obtain⟨r1,r2⟩:=qJZ hk g3
   have hc:=hS.counts _ r1 r2
   have h0:=hS.hands (rw_ (kd (at_ b t))) (by omega) r2
   rw[qHQ hl hsd (by omega) r2 1 (.inl rfl) (by omega) k1,qHQ hl hsd (by omega) r2 1 (.inr rfl) (by omega) k1]
   by_cases hkr:k=rw_ (kd (at_ b t))
   ·have e3:dl (at_ b t) k=1:=by unfold dl;rw[if_pos hkr.symm]
    rw[e3] at c2
    rcases hsd with rfl | rfl
    ·rw[if_pos ⟨rfl,hkr⟩,if_neg (by omega),qJz (by omega) (by omega),<- hkr]
     omega
    ·rw[if_neg (by omega),if_pos ⟨rfl,hkr⟩,qJz (by omega) (by omega),<- hkr]
     omega
   ·have e3:dl (at_ b t) k=0:=by unfold dl;rw[if_neg (Ne.symm hkr)]
    rw[e3] at c2
    rw[if_neg (fun h=>hkr h.2),if_neg (fun h=>hkr h.2)]
    omega
 ·obtain⟨d0,d1,d2,d3,g1,g2⟩:=hP.drop hd
  unfold mb mh
  rw[if_pos hd,if_pos hd]
  have c1:=qNq hS.clean.len hP.to_ (laid b s f d p) k
  have hl':laid b s f d p=16*s+d:=by unfold laid;rw[if_pos hd]
  rw[g2,qNw k0,hl'] at c1
  rw[hl']
  have hb:=qN7 hf s d
  rw[qHQ hl hsd (by omega) d1 (-1) (.inl rfl) (by omega) k1,qHQ hl hsd (by omega) d1 (-1) (.inr rfl) (by omega) k1]
  have e3:dl (16*s+d) k=if d=k then 1 else 0:=by
   unfold dl
   rw[qHS hsd (by omega) (by omega) (by omega),qpG (by omega) d1]
  rw[e3] at c1
  by_cases hkd:k=d
  ·subst hkd
   rw[if_pos rfl] at c1
   rcases hsd with rfl | rfl
   ·rw[if_pos ⟨rfl,rfl⟩,if_neg (by omega),qJz (by omega) (by omega)]
    omega
   ·rw[if_neg (by omega),if_pos ⟨rfl,rfl⟩,qJz (by omega) (by omega)]
    omega
  ·rw[if_neg (Ne.symm hkd)] at c1
   rw[if_neg (fun h=>hkd h.2),if_neg (fun h=>hkd h.2)]
   omega
theorem qPg {b:List Int} (hc:Clean b) (s f t d:Int) (p:Bool):Clean (mb b s f t d p):=by
 unfold mb
 split
 ·exact hc.put _ _
 ·exact (hc.put _ _).put _ _
theorem qkD {h:List Int} (hf:qAe h) (b:List Int) (s t d:Int):qAe (mh b h s t d):=by
 unfold mh
 split
 ·exact qVT hf _ _ _
 ·split
  ·exact hf
  ·exact qVT hf _ _ _
theorem qkE {h:List Int} (hl:h.length=16) (b:List Int) (s t d:Int):(mh b h s t d).length=16:=by
 unfold mh
 split
 ·rw[qWj];exact hl
 ·split
  ·exact hl
  ·rw[qWj];exact hl
end Go.Kk.Pl
namespace Go.Kk.Pl
theorem qfp {b h:List Int} {s f t d:Int} {p:Bool} (hm:qCK b h s f t d p=true):(s=0 \/ s=1) /\ CanP b h s f t d p:=by
 unfold qCK at hm
 rw[Bool.and_eq_true,Bool.and_eq_true,decide_eq_true_eq,decide_eq_true_eq] at hm
 obtain⟨h1,hs,h2⟩:=hm
 obtain⟨ht,hd,hmv⟩:=qKO h1
 refine⟨hs,ht,fun d0=>?_,fun d0=>?_⟩
 ·rw[if_pos d0] at h2
  simp only[Bool.and_eq_true,decide_eq_true_eq] at h2
  have:=hd d0
  exact⟨by omega,by omega,this.2.2.1,this.2.2.2,by omega,h2.2⟩
 ·rw[if_neg (by simpa using d0)] at h2
  simp only[Bool.and_eq_true,decide_eq_true_eq,Bool.or_eq_true,Bool.not_eq_true'] at h2
  obtain⟨h3,h4⟩:=hmv d0
  exact⟨h3.1,h3.2,h4,h2.1.1,h2.1.2.1,h2.1.2.2,fun hp=>by
   rcases h2.2 with h5 | h5
   ·rw[hp] at h5;cases h5
   ·exact h5⟩
theorem qGA {b h:List Int} {s f t d:Int} {p:Bool} (hm:qAJ b h s f t d p=true):(s=0 \/ s=1) /\ CanP b h s f t d p:=by
 unfold qAJ at hm
 rw[Bool.and_eq_true] at hm
 exact qfp hm.1
theorem qOu {x s:Int} (hs:s=0 \/ s=1) (h:sd x=s):kd x≠0:=by
 intro h0
 rw[qbu h0] at h
 omega
theorem qFD {b h:List Int} {s f t d:Int} {p:Bool} (hs:s=0 \/ s=1) (hP:CanP b h s f t d p):sd (laid b s f d p)=s /\ kd (laid b s f d p)≠0 /\ (laid b s f d p=pc s 8↔d=0 /\ at_ b f=pc s 8):=by
 unfold laid
 by_cases hd:d=0
 ·have hm:=hP.move hd
  rw[if_neg (by simpa using hd)]
  cases p with
  | false=>
    rw[if_neg (by simp)]
    exact⟨hm.2.2.2.1,qOu hs hm.2.2.2.1,fun h=>⟨hd,h⟩,fun h=>h.2⟩
  | true=>
    rw[if_pos rfl]
    have hu:=hm.2.2.2.2.2.2 rfl
    obtain⟨u1,u2,u3⟩:=qIU hu
    have hx:=qD5 hs u1 u2 u3
    rw[qA4 hs u1 u2 u3] at hx
    have u8:up_ (kd (at_ b f))≠8:=by unfold up_;split<;>omega
    refine⟨hx.1,by rw[hx.2];omega,fun h=>?_,fun h=>?_⟩
    ·rw[qA4 hs (by omega) (by omega) (by omega)] at h
     omega
    ·exfalso
     apply hu
     rw[h.2,(qD5 hs (by omega) (by omega) (by omega)).2]
     rfl
 ·have hm:=hP.drop hd
  rw[if_pos hd]
  have hx:=qD5 hs (k:=d) (by omega) (by omega) (by omega)
  rw[qA4 hs (by omega) (by omega) (by omega)] at hx
  refine⟨hx.1,by rw[hx.2];exact hd,fun h=>?_,fun h=>absurd h.1 hd⟩
  rw[qA4 hs (by omega) (by omega) (by omega)] at h
  omega
theorem qEK {b h:List Int} {s f t d:Int} {p:Bool} (hc:Clean b) (hs:s=0 \/ s=1) (hP:CanP b h s f t d p) {i:Nat} (hi:i<81):
  (mb b s f t d p).getD i 0=if i=t.toNat then laid b s f d p else if d=0 /\ i=f.toNat then 0 else b.getD i 0:=by
 have ht:=hP.to_
 have hl:=(qFD hs hP).2.1
 have e1:(mb b s f t d p).getD i 0=at_ (mb b s f t d p) i:=by rw[qAh (by omega),tn]
 have e2:b.getD i 0=at_ b i:=by rw[qAh (by omega),tn]
 rw[e1,e2]
 unfold mb
 by_cases hd:d=0
 ·have hm:=hP.move hd
  rw[if_neg (by simpa using hd),qJ6 (hc.put f 0).1 ht,if_neg hl,qJ6 hc.1 ⟨hm.1,hm.2.1⟩]
  by_cases h1:i=t.toNat
  ·rw[if_pos (c:=(i:Int)=t) (by omega),if_pos h1]
  ·rw[if_neg (c:=(i:Int)=t) (by omega),if_neg h1]
   by_cases h2:i=f.toNat
   ·rw[if_pos (c:=(i:Int)=f) (by omega),if_pos (c:=d=0 /\ i=f.toNat) ⟨hd,h2⟩];rfl
   ·rw[if_neg (c:=(i:Int)=f) (by omega),if_neg (fun h=>h2 h.2)]
 ·rw[if_pos hd,qJ6 hc.1 ht,if_neg hl]
  by_cases h1:i=t.toNat
  ·rw[if_pos h1,if_pos (by omega)]
  ·rw[if_neg h1,if_neg (by omega),if_neg (fun h=>hd h.1)]
def KS (b:List Int) (s:Int) (k:Nat):Prop:=k<81 /\ ∀ i,i<81->(b.getD i 0=pc s 8↔i=k)
theorem pc8 {s:Int} (hs:s=0 \/ s=1):pc s 8=16*s+8:=qA4 hs (by omega) (by omega) (by omega)
theorem KS.kg {b:List Int} {s:Int} {k:Nat} (hs:s=0 \/ s=1) (h:KS b s k):kg b s=k:=by
 apply qN9 h.1
 intro i hi
 unfold pcs
 rw[decide_eq_true_eq,h.2 i hi,pc8 hs]
 exact⟨fun h=>h.2,fun h=>⟨by omega,h⟩⟩
theorem qKz {b h:List Int} {s':Int} (hz:qA1 b h s'=0) {s:Int} (hs:s=0 \/ s=1):∃ k,KS b s k:=by
 have hn:nP b 8=1 /\ nP b 24=1:=by
  unfold qA1 at hz
  split at hz
  ·omega
  ·split at hz
   ·omega
   ·split at hz
    ·omega
    ·split at hz
     ·omega
     ·rename_i h;simpa using h
 have:nP b (pc s 8)=1:=by
  rw[pc8 hs]
  rcases hs with rfl | rfl
  ·exact hn.1
  ·exact hn.2
 obtain⟨k,hk,h⟩:=qHA.mp (show qA2 (fun i=>b.getD i 0==pc s 8)=1 from this)
 exact⟨k,hk,fun i hi=>by rw[<- h i hi,beq_iff_eq]⟩
theorem KS.sd {b:List Int} {s:Int} {k:Nat} (hs:s=0 \/ s=1) (h:KS b s k):sd (b.getD k 0)=s /\ kd (b.getD k 0)=8:=by
 rw[(h.2 k h.1).mpr rfl]
 exact qD5 hs (by omega) (by omega) (by omega)
theorem qPA {b h:List Int} {s f t d:Int} {p:Bool} (hc:Clean b) (hs:s=0 \/ s=1) (hP:CanP b h s f t d p) {k:Nat} (hk:KS b s k):
  KS (mb b s f t d p) s (if d=0 /\ f.toNat=k then t.toNat else k):=by
 have ht:=hP.to_
 have hl:=qFD hs hP
 have hkt:k≠t.toNat:=by
  intro e
  have h1:=(hk.sd hs)
  have e2:b.getD k 0=at_ b t:=by rw[qAh ht,e]
  rw[e2] at h1
  by_cases hd:d=0
  ·exact (hP.move hd).2.2.2.2.1 h1.1
  ·rw[(hP.drop hd).2.2.2.2.2,qFB] at h1
   omega
 have hp0:(0:Int)≠pc s 8:=by rw[pc8 hs];omega
 refine⟨by split;omega;exact hk.1,fun i hi=>?_⟩
 rw[qEK hc hs hP hi]
 by_cases h1:i=t.toNat
 ·rw[if_pos h1,hl.2.2]
  by_cases hd:d=0
  ·have hm:=hP.move hd
   rw[qAh ⟨hm.1,hm.2.1⟩,hk.2 _ (by omega)]
   by_cases hfk:f.toNat=k
   ·rw[if_pos ⟨hd,hfk⟩];exact⟨fun _=>h1,fun _=>⟨hd,hfk⟩⟩
   ·rw[if_neg (fun h=>hfk h.2)]
    exact⟨fun h=>absurd h.2 hfk,fun h=>absurd (h.symm.trans h1) hkt⟩
  ·rw[if_neg (fun h=>hd h.1)]
   exact⟨fun h=>absurd h.1 hd,fun h=>absurd (h.symm.trans h1) hkt⟩
 ·rw[if_neg h1]
  by_cases h2:d=0 /\ i=f.toNat
  ·rw[if_pos h2]
   refine⟨fun h=>absurd h hp0,fun h=>?_⟩
   split at h
   ·exact absurd h h1
   ·rename_i h3;exact absurd ⟨h2.1,by omega⟩ h3
  ·rw[if_neg h2,hk.2 i hi]
   split
   ·rename_i h3
    exact⟨fun h=>absurd ⟨h3.1,by omega⟩ h2,fun h=>absurd h h1⟩
   ·exact Iff.rfl
theorem qKy {b h:List Int} {s f t d:Int} {p:Bool} (hc:Clean b) (hs:s=0 \/ s=1) (hP:CanP b h s f t d p) {k:Nat} (hk:KS b (1 - s) k):
  KS (mb b s f t d p) (1 - s) k:=by
 have ht:=hP.to_
 have hl:=qFD hs hP
 have hs':1 - s=0 \/ 1 - s=1:=by omega
 have hkt:k≠t.toNat:=by
  intro e
  have h1:=(hk.sd hs')
  have e2:b.getD k 0=at_ b t:=by rw[qAh ht,e]
  rw[e2] at h1
  by_cases hd:d=0
  ·exact (hP.move hd).2.2.2.2.2.1 h1.2
  ·rw[(hP.drop hd).2.2.2.2.2,qFB] at h1
   omega
 have hp0:(0:Int)≠pc (1 - s) 8:=by rw[pc8 hs'];omega
 refine⟨hk.1,fun i hi=>?_⟩
 rw[qEK hc hs hP hi]
 by_cases h1:i=t.toNat
 ·rw[if_pos h1]
  refine⟨fun h=>?_,fun h=>absurd (h.symm.trans h1) hkt⟩
  have:=hl.1
  rw[h,(qD5 hs' (by omega) (by omega) (by omega)).1] at this
  omega
 ·rw[if_neg h1]
  by_cases h2:d=0 /\ i=f.toNat
  ·rw[if_pos h2]
   refine⟨fun h=>absurd h hp0,fun h=>?_⟩
   have hm:=hP.move h2.1
   have h3:=(hk.sd hs').1
   rw[<- h,h2.2,<- qAh ⟨hm.1,hm.2.1⟩,hm.2.2.2.1] at h3
   omega
  ·rw[if_neg h2]
   exact hk.2 i hi
theorem qEu {b:List Int} {s:Int} (hs:s=0 \/ s=1) {k:Nat} (hk:kg b s=k) (h81:k<81) (c:Nat):chs b s c=atk b s k c:=by
 unfold chs onS atk enm
 rw[hk,decide_eq_true (by omega),decide_eq_true (by omega),tn]
 rfl
def fof (f t d:Int):Nat:=if d=0 then f.toNat else t.toNat
theorem qSq {b h:List Int} {s f t d:Int} {p:Bool} (hc:Clean b) (hs:s=0 \/ s=1) (hP:CanP b h s f t d p) {i:Nat} (hi:i<81):tk (mb b s f t d p) i=tk2 b (fof f t d) t.toNat i:=by
 have hl:=qFD hs hP
 unfold tk tk2 fof
 rw[qEK hc hs hP hi]
 by_cases h1:i=t.toNat
 ·rw[if_pos h1,decide_eq_true h1,Bool.true_or,decide_eq_true_eq]
  intro h0
  rw[h0,qFB] at hl
  exact hl.2.1 rfl
 ·rw[if_neg h1,decide_eq_false h1,Bool.false_or]
  by_cases hd:d=0
  ·rw[if_pos hd]
   by_cases h2:i=f.toNat
   ·rw[if_pos ⟨hd,h2⟩,decide_eq_true h2];simp
   ·rw[if_neg (fun h=>h2 h.2),decide_eq_false h2];rfl
  ·rw[if_neg hd,if_neg (fun h=>hd h.1),decide_eq_false h1];rfl
theorem qVF {b h:List Int} {s f t d:Int} {p:Bool} (hc:Clean b) (hs:s=0 \/ s=1) (hP:CanP b h s f t d p) {c:Nat} (hcc:c<81):enm (mb b s f t d p) s c=(decide (c≠t.toNat)&&enm b s c) /\ (enm (mb b s f t d p) s c=true->(mb b s f t d p).getD c 0=b.getD c 0):=by
 have hl:=qFD hs hP
 unfold enm
 rw[qEK hc hs hP hcc]
 by_cases h1:c=t.toNat
 ·rw[if_pos h1,hl.1,decide_eq_false (p:=s=1 - s) (by omega),decide_eq_false (p:=c≠t.toNat) (by simpa using h1)]
  exact⟨rfl,fun h=>by cases h⟩
 ·rw[if_neg h1,decide_eq_true (p:=c≠t.toNat) h1,Bool.true_and]
  by_cases h2:d=0 /\ c=f.toNat
  ·rw[if_pos h2,qJc]
   have hm:=hP.move h2.1
   rw[h2.2,<- qAh ⟨hm.1,hm.2.1⟩,hm.2.2.2.1,decide_eq_false (p:=(-1:Int)=1 - s) (by omega),decide_eq_false (p:=s=1 - s) (by omega)]
   exact⟨rfl,fun h=>by cases h⟩
  ·rw[if_neg h2]
   exact⟨rfl,fun _=>rfl⟩
theorem qUh {b h:List Int} {s f t d:Int} {p:Bool} (hc:Clean b) (hs:s=0 \/ s=1) (hP:CanP b h s f t d p) {k:Nat} (hk:KS b s k) (hn:¬ (d=0 /\ f.toNat=k)) {c:Nat} (hcc:c<81):
  chs (mb b s f t d p) s c=qD9 b s k (fof f t d) t.toNat c:=by
 have hk2:=qPA hc hs hP hk
 rw[if_neg hn] at hk2
 rw[qEu hs (hk2.kg hs) hk.1]
 obtain⟨e1,e2⟩:=qVF hc hs hP hcc
 unfold atk qD9
 cases he:enm (mb b s f t d p) s c with
 | false=>
   rw[he] at e1
   rw[Bool.false_and,<- Bool.and_assoc,<- e1,Bool.false_and]
 | true=>
   rw[<- Bool.and_assoc,<- e1,he,Bool.true_and,Bool.true_and,e2 he]
   exact qZY hcc hk.1 (fun i hi=>qSq hc hs hP hi)
theorem qUg {b h:List Int} {s f t d:Int} {p:Bool} (hc:Clean b) (hs:s=0 \/ s=1) (hP:CanP b h s f t d p) {k:Nat} (hk:KS b s k) (hn:d=0 /\ f.toNat=k) {c:Nat} (hcc:c<81):
  chs (mb b s f t d p) s c=onS b t (1 - s) (fun i=>tk b i && !only f i) c:=by
 have hk2:=qPA hc hs hP hk
 have ht:=hP.to_
 have hm:=hP.move hn.1
 rw[if_pos hn] at hk2
 rw[qEu hs (hk2.kg hs) hk2.1]
 obtain⟨e1,e2⟩:=qVF hc hs hP hcc
 unfold atk onS
 rw[decide_eq_true ht,decide_eq_true (p:=1 - s=0 \/ 1 - s=1) (by omega),Bool.true_and,Bool.true_and]
 show _=(enm b s c&&_)
 by_cases h1:c=t.toNat
 ·rw[e1,decide_eq_false (p:=c≠t.toNat) (by simpa using h1),<- h1,qZZ,qZZ,Bool.and_false,Bool.and_false]
 ·rw [decide_eq_true (p:=c≠t.toNat) h1,Bool.true_and] at e1
  rw[e1]
  cases he:enm b s c with
  | false=>rfl
  | true=>
    rw[e2 (by rw[e1,he]),Bool.true_and,Bool.true_and,Bool.eq_iff_iff,qB8,qB8]
    have:∀ i∈btw c t.toNat,tk (mb b s f t d p) i=(tk b i && !only f i):=by
     intro i hi
     have hw:=qIn (by omega) hcc hi
     rw[qSq hc hs hP hw.1]
     unfold tk2 fof only
     rw[decide_eq_false hw.2.1,if_pos hn.1,Bool.false_or,Bool.and_comm]
     congr 2
     rw[decide_eq_decide]
     omega
    constructor
    ·rintro (h | ⟨h,h'⟩)
     ·exact .inl h
     ·exact .inr ⟨h,fun i hi=>by rw[<- this i hi];exact h' i hi⟩
    ·rintro (h | ⟨h,h'⟩)
     ·exact .inl h
     ·exact .inr ⟨h,fun i hi=>by rw[this i hi];exact h' i hi⟩
def qv (b:List Int) (s:Int) (t:Nat):Bool:=(List.range 81).all fun c=>!chs b s c||qD6 (kg b s).toNat c t
def qGJ (b:List Int) (s:Int) (f t:Nat):Bool:=(List.range 81).all fun c=>!qAP b s (kg b s).toNat f c||qD6 (kg b s).toNat c t
def stB (b:List Int) (s:Int) (f t:Nat):Bool:=if (f:Int)=kg b s then isE (onS b t (1 - s) (fun i=>tk b i && !only f i)) else qv b s t&&qGJ b s f t
theorem qJx {k c t:Nat}:qD6 k c t=true↔t=c \/ t∈btw c k:=by
 unfold qD6 only
 rw[Bool.or_eq_true,List.contains_iff_mem,decide_eq_true_eq]
 constructor
 ·rintro (h | h)
  ·exact .inr h
  ·exact .inl (by omega)
 ·rintro (h | h)
  ·exact .inr (by omega)
  ·exact .inl h
theorem qJH {b:List Int} {s:Int} (hs:s=0 \/ s=1) {k:Nat} (hk:KS b s k) {t:Nat}:qv b s t=true ↔ ∀ c,c<81->atk b s k c=true->t=c \/ t∈btw c k:=by
 have hkg:=hk.kg hs
 unfold qv
 rw[List.all_eq_true,hkg,tn]
 constructor
 ·intro h c hc ha
  have:=h c (List.mem_range.mpr hc)
  rw[qEu hs hkg hk.1,ha,Bool.not_true,Bool.false_or] at this
  exact qJx.mp this
 ·intro h c hc
  rw[qEu hs hkg hk.1]
  cases ha:atk b s k c with
  | false=>rfl
  | true=>
    rw[Bool.not_true,Bool.false_or]
    exact qJx.mpr (h c (List.mem_range.mp hc) ha)
theorem qLW {b:List Int} {s:Int} (hs:s=0 \/ s=1) {k:Nat} (hk:KS b s k) {f t:Nat}:qGJ b s f t=true ↔ ∀ c,c<81->qAP b s k f c=true->t=c \/ t∈btw c k:=by
 unfold qGJ
 rw[List.all_eq_true,hk.kg hs,tn]
 constructor
 ·intro h c hc ha
  have:=h c (List.mem_range.mpr hc)
  rw[ha,Bool.not_true,Bool.false_or] at this
  exact qJx.mp this
 ·intro h c hc
  cases ha:qAP b s k f c with
  | false=>rfl
  | true=>
    rw[Bool.not_true,Bool.false_or]
    exact qJx.mpr (h c (List.mem_range.mp hc) ha)
theorem qL2 {b h:List Int} {s f t d:Int} {p:Bool} (hc:Clean b) (hs:s=0 \/ s=1) (hP:CanP b h s f t d p) {k:Nat} (hk:KS b s k):
  (!inC (mb b s f t d p) s)=if d=0 then stB b s f.toNat t.toNat else qv b s t.toNat:=by
 have ht:=hP.to_
 unfold inC
 rw[Bool.not_not]
 by_cases hn:d=0 /\ f.toNat=k
 ·have hm:=hP.move hn.1
  rw[if_pos hn.1]
  unfold stB
  rw[if_pos (by rw[hk.kg hs,hn.2]),Bool.eq_iff_iff,qCw,qCw,show ((t.toNat:Nat):Int)=t by omega,show ((f.toNat:Nat):Int)=f by omega]
  constructor
  ·intro h i hi;rw[<- qUg hc hs hP hk hn hi];exact h i hi
  ·intro h i hi;rw[qUg hc hs hP hk hn hi];exact h i hi
 ·have hf:tk b (fof f t d)=true->sd (b.getD (fof f t d) 0)=s:=by
   unfold fof
   intro htk
   by_cases hd:d=0
   ·have hm:=hP.move hd
    rw[if_pos hd,<- qAh ⟨hm.1,hm.2.1⟩]
    exact hm.2.2.2.1
   ·rw[if_neg hd] at htk
    unfold tk at htk
    rw[<- qAh ht,(hP.drop hd).2.2.2.2.2] at htk
    simp at htk
  have key:=qd9 (b:=b) (s:=s) (k:=k) (f:=fof f t d) (t:=t.toNat) hf
  have e:isE (chs (mb b s f t d p) s)=(qv b s t.toNat&&qGJ b s (fof f t d) t.toNat):=by
   rw[Bool.eq_iff_iff,qCw,Bool.and_eq_true,qJH hs hk,qLW hs hk,<- key]
   constructor
   ·intro h c hcc;rw[<- qUh hc hs hP hk hn hcc];exact h c hcc
   ·intro h c hcc;rw[qUh hc hs hP hk hn hcc];exact h c hcc
  rw[e]
  by_cases hd:d=0
  ·rw[if_pos hd]
   unfold stB
   have hm:=hP.move hd
   rw[if_neg (by rw[hk.kg hs];intro e;exact hn ⟨hd,by omega⟩)]
   unfold fof
   rw[if_pos hd]
  ·rw[if_neg hd]
   have:qGJ b s (fof f t d) t.toNat=true:=by
    rw[qLW hs hk]
    intro c _ hp
    have:=(qDJ.mp hp).2.2.2.1
    unfold fof tk at this
    rw[if_neg hd,<- qAh ht,(hP.drop hd).2.2.2.2.2] at this
    simp at this
   rw[this,Bool.and_true]
theorem rw0:rw_ (kd 0)=0:=by decide
theorem qkA {b:List Int} {s f t:Int} {p:Bool} {h:List Int} (hs:s=0 \/ s=1) (hP:CanP b h s f t 0 p):mb b s f t 0 p=(b.set t.toNat (laid b s f 0 p)).set f.toNat 0:=by
 have hm:=hP.move rfl
 have ht:=hP.to_
 unfold mb put
 rw[if_neg (by simp),if_pos ht,if_pos ⟨hm.1,hm.2.1⟩,if_neg (qFD hs hP).2.1,show (if kd 0=0 then (0:Int) else 0)=0 by simp]
 exact List.set_comm _ _ (by omega)
theorem qZB {b h:List Int} {s f t d:Int} {p:Bool} (hc:Clean b) (hs:s=0 \/ s=1) (hP:CanP b h s f t d p):qJR b h s f t d p=some (mb b s f t d p,mh b h s t d,1 - s):=by
 have ht:=hP.to_
 have hw:IntKind.wrap .i8 (1 - s)=1 - s:=w_8 (by omega) (by omega)
 have hin:br (inB s 2)=fun (x y:Option (List Int×List Int×Int))=>x:=by
  funext x y;exact qa (by omega) (by omega)
 have hint:br (inB t 81)=fun (x y:Option (List Int×List Int×Int))=>x:=by
  funext x y;exact qa (by omega) (by omega)
 unfold qJR
 simp only[hin,hint]
 by_cases hd:d=0
 ·subst hd
  have hm:=hP.move rfl
  have hinf:br (inB f 81)=fun (x y:Option (List Int×List Int×Int))=>x:=by
   funext x y;exact qa (by omega) (by omega)
  have hbf:at_ b f=16*s+kd (at_ b f):=by
   have h1:=qLU (qOu hs hm.2.2.2.1)
   have h2:=qCP (at_ b f)
   have h3:=qOu hs hm.2.2.2.1
   rw[hm.2.2.2.1,qA4 hs (by omega) (by omega) (by omega)] at h1
   exact h1
  have hbb:=qCP (at_ b f)
  have hfin:∀ p',p'=p->br p'
    (some (List.set (List.set (List.set b (Int.toNat t) (List.getD b (Int.toNat f) 0)) (Int.toNat t) (IntKind.wrap IntKind.i8 (List.getD (List.set b (Int.toNat t) (List.getD b (Int.toNat f) 0)) (Int.toNat t) 0+8))) (Int.toNat f) 0))
    (some (List.set (List.set b (Int.toNat t) (List.getD b (Int.toNat f) 0)) (Int.toNat f) 0))=some (mb b s f t 0 p):=by
   rintro p' rfl
   rw[qkA hs hP]
   unfold laid
   rw[if_neg (by simp),<- qAh ⟨hm.1,hm.2.1⟩]
   cases p' with
   | false=>rfl
   | true=>
     have hu:=hm.2.2.2.2.2.2 rfl
     rw[b_t,qF3 (by rw[hc.1];omega),if_pos rfl,if_pos rfl,List.set_set]
     have:up_ (kd (at_ b f))=kd (at_ b f)+8:=by
      unfold up_ at hu ⊢
      split
      ·rfl
      ·rename_i h;rw[if_neg h] at hu;exact absurd rfl hu
     rw[w_8 (by omega) (by omega),this,show at_ b f+8=16*s+(kd (at_ b f)+8) by omega]
  rw[qt rfl,qCB,qA,qbd,qA]
  simp only[hinf,c_8,<- qAh (b:=b) ht,hw]
  unfold mh
  rw[if_neg (by simp)]
  by_cases h0:at_ b t=0
  ·rw[if_pos h0,h0,rw0,qt rfl]
   have:=hfin p rfl
   cases p with
   | false=>rw[b_f] at this ⊢;rw[Option.some.inj this]
   | true=>rw[b_t] at this ⊢;rw[Option.some.inj this]
  ·rw[if_neg h0]
   have hr:=qJZ ((hc.at_ t).resolve_left h0) hm.2.2.2.2.2.1
   have hinr:br (inB (rw_ (kd (at_ b t))) 8)=fun (x y:Option (List Int×List Int×Int))=>x:=by
    funext x y;exact qa (by omega) (by omega)
   rw[qr (by omega)]
   simp only[hinr]
   have:=hfin p rfl
   cases p with
   | false=>rw[b_f] at this ⊢;rw[Option.some.inj this];rfl
   | true=>rw[b_t] at this ⊢;rw[Option.some.inj this];rfl
 ·have hm:=hP.drop hd
  have hind:br (inB d 8)=fun (x y:Option (List Int×List Int×Int))=>x:=by
   funext x y;exact qa (by omega) (by omega)
  simp only[hind]
  have hx:=(qFD hs hP).2.1
  unfold laid at hx
  rw[if_pos hd] at hx
  rw[qr hd,hw,w_s (n:=16*s) (by omega) (by omega),w_s (n:=16*s+d) (by omega) (by omega)]
  unfold mb mh put laid
  rw[if_pos hd,if_pos hd,if_pos ht,if_pos hd,if_neg hx]
  have:conv IntKind.i64 IntKind.i8 (16*s+d)=16*s+d:=by
   unfold conv;exact w_8 (by omega) (by omega)
  rw[this]
  rfl
end Go.Kk.Pl
namespace Go.Kk.Pl
def T_ (_:Nat):Bool:=true
theorem qmB {b:List Int} (hcl:Clean b) (h:List Int) (S:Int) {s:Int} (hs:s=0 \/ s=1) {k:Nat} (hk:KS b s k):∃ es,qId s b h S (qO b) (qR b)=some es /\ qB2 b s k (fun _=>true) es:=by
 obtain⟨es,h1,_,h3⟩:=qmC hcl h S hs
 refine⟨es,h1,?_⟩
 have hkg:=hk.kg hs
 have h3:=h3 (by omega)
 rw[hkg,tn] at h3
 intro f hf
 obtain⟨a,a'⟩:=h3 f hf
 have hP:∀ c,qAP b s k f c=true->(enm b s c&&(qAq.any fun x=>pcs b (pc (1 - s) x) c))=true:=by
  intro c hp
  have:=qDJ.mp hp
  rw[this.1,qqQ hs this.1 this.2.1];rfl
 refine⟨?_,fun c hc _ hp=>a' c hc (hP c hp) hp⟩
 rw[a]
 constructor
 ·rintro ⟨c,x,_,x'⟩;exact⟨c,x,rfl,x'⟩
 ·rintro ⟨c,x,_,x'⟩;exact⟨c,x,hP c x',x'⟩
theorem qX4 {b:List Int} (hcl:Clean b) (h:List Int) {s:Int} (hs:s=0 \/ s=1) {k:Nat} (hk:KS b s k):
  ∃ es chk,qJB b h s (qO b) (qR b)=some (s,(k:Int),sLo (qv b s),sHi (qv b s),chk,es) /\ qB2 b s k (fun _=>true) es:=by
 obtain⟨es,he,hp⟩:=qmB hcl h s hs hk
 have hkg:=hk.kg hs
 have hkg':fst (pcs b (pc s 8))=(k:Int):=hkg
 have ha:∀ c,chs b s c=atk b s k c:=qEu hs hkg hk.1
 unfold qJB
 rw[qO8,hkg',qA,qJ4,qA]
 simp only
 rw[he,qA,qNj hcl h s (by omega),qA]
 simp only
 rw[qNs,qA]
 by_cases n0:((qA2 (chs b s):Nat):Int)=0
 ·rw[qo n0]
  have hE:isE (chs b s)=true:=by rw[qNp,decide_eq_true_eq];omega
  have:∀ i,i<81->(fun _:Nat=>true) i=qv b s i:=by
   intro i _
   symm
   show qv b s i=true
   rw[qJH hs hk]
   intro c hc h1
   rw[<- ha,qCw.mp hE c hc] at h1
   cases h1
  have:=qCD this
  rw[this.1,this.2]
  exact⟨es,false,rfl,hp⟩
 ·rw [qn n0]
  by_cases n1:((qA2 (chs b s):Nat):Int)=1
  ·obtain⟨f,hf,hm⟩:=qHA.mp (show qA2 (chs b s)=1 by omega)
   rw[qo n1,qN6,qA,qN9 hf hm,qZG hf hk.1,qA]
   simp only
   rw[qHj,qA]
   simp only
   have:∀ i,i<81->((btw f k).contains i||chs b s i)=qv b s i:=by
    intro i hi
    rw[Bool.eq_iff_iff,Bool.or_eq_true,List.contains_iff_mem,hm i hi,qJH hs hk]
    constructor
    ·intro h1 c hc h2
     rw[<- ha,hm c hc] at h2
     subst h2
     exact h1.elim .inr .inl
    ·intro h1
     exact (h1 f hf (by rw[<- ha];exact (hm f hf).mpr rfl)).elim .inr .inl
   have:=qCD this
   rw[this.1,this.2]
   exact⟨es,true,rfl,hp⟩
  ·rw [qn n1]
   have hE:isE (chs b s)=false:=by
    rw[qNp,decide_eq_false_iff_not];omega
   obtain⟨c,hc,hc'⟩:∃ c,c<81 /\ chs b s c=true:=by
    apply Classical.byContradiction
    intro hno
    have:isE (chs b s)=true:=by
     rw[qCw]
     intro i hi
     cases hx:chs b s i with
     | false=>rfl
     | true=>exact absurd ⟨i,hi,hx⟩ hno
    rw[hE] at this;cases this
   obtain⟨c2,hc2,hc2',hne⟩:∃ c2,c2<81 /\ chs b s c2=true /\ c≠c2:=by
    apply Classical.byContradiction
    intro hno
    apply n1
    rw[qHA.mpr ⟨c,hc,fun i hi=>⟨fun h1=>?_,fun h1=>h1 ▸ hc'⟩⟩]
    ·rfl
    ·apply Classical.byContradiction
     intro hx
     exact hno ⟨i,hi,h1,fun e=>hx e.symm⟩
   have:∀ i,i<81->(fun _:Nat=>false) i=qv b s i:=by
    intro i hi
    symm
    show qv b s i=false
    cases ho:qv b s i with
    | false=>rfl
    | true=>
      rw[qJH hs hk] at ho
      exact (qrM hs hk.1 hc hc2 (by rw[<- ha];exact hc') (by rw[<- ha];exact hc2') hne (ho c hc (by rw[<- ha];exact hc')) (ho c2 hc2 (by rw[<- ha];exact hc2'))).elim
   have:=qCD this
   rw[qBy,qBx] at this
   exact⟨es,true,by rw[<- this.1,<- this.2],hp⟩
theorem qcp {b:List Int} (hcl:Clean b) (h:List Int) (S:Int) {s:Int} (hs:s=0 \/ s=1) {k:Nat} (hk:KS b s k) {es:List (List Int×List Int)} (hp:qB2 b s k (fun _=>true) es) {f t:Int} (hf:0<=f /\ f<81) (ht:0<=t /\ t<81) (d:Int) (p chk:Bool):
  qJC s (k:Int) (sLo (qv b s)) (sHi (qv b s)) chk f t d p b h S (qO b) (qR b) es=some (stB b s f.toNat t.toNat,b,h,S,qO b,qR b,es):=by
 obtain⟨f,rfl⟩:∃ n:Nat,f=n:=⟨f.toNat,by omega⟩
 obtain⟨t,rfl⟩:∃ n:Nat,t=n:=⟨t.toNat,by omega⟩
 rw[tn,tn]
 have hkg:=hk.kg hs
 have hh:∀ g:Nat->Bool,has g (t:Int)=g t:=by
  intro g;unfold has;rw[decide_eq_true (by omega),decide_eq_true (by omega),tn];rfl
 unfold qJC stB
 rw[hkg]
 by_cases hfk:(f:Int)=k
 ·rw[qo hfk,if_pos hfk,qJq hcl,qA]
  simp only
  rw[qJy,qA]
  simp only
  rw[w_s (n:=1 - s) (by omega) (by omega),qYi,qA]
  simp only
  rw[qIx,qA,hfk]
 ·rw[qn hfk,if_neg hfk,qEG,qA,hh]
  cases ho:qv b s t with
  | false=>rfl
  | true=>
    rw[Bool.not_true,b_f,Bool.true_and]
    obtain⟨h1,h2⟩:=hp f (by omega)
    cases hM:qBC es [(f:Int)] with
    | false=>
      rw[Bool.not_false,b_t]
      have:qGJ b s f t=true:=by
       rw[qLW hs hk]
       intro c hc hpin
       rw[h1.mpr ⟨c,hc,rfl,hpin⟩] at hM;cases hM
      rw[this]
    | true=>
      obtain⟨c,hc,_,hpin⟩:=h1.mp hM
      rw[Bool.not_true,b_f,h2 c hc rfl hpin]
      show (ob (qCm (sLo (qD6 k c)) (sHi (qD6 k c)) (t:Int)) _)=_
      rw[qEG,qA,hh]
      have:qD6 k c t=qGJ b s f t:=by
       rw[Bool.eq_iff_iff,qJx,qLW hs hk]
       constructor
       ·intro h3 c' hc' hpin'
        rw[qY4 hs hk.1 hc' hc hpin' hpin];exact h3
       ·intro h3;exact h3 c hc hpin
      rw[this]
def m0 (m:List Int):Int:=m.getD 0 0
def m1 (m:List Int):Int:=m.getD 1 0
def m2 (m:List Int):Int:=m.getD 2 0
def m3 (m:List Int):Bool:=m.getD 3 0 != 0
def Mv4 (m:List Int):Prop:=m=[m0 m,m1 m,m2 m,bi (m3 m)] /\ (0<=m0 m /\ m0 m<81) /\ (0<=m1 m /\ m1 m<81)
theorem qkO {b h:List Int} {s f t d p:Int} (hok:MvOK b h s f t d p):Mv4 [f,t,d,p]:=by
 refine⟨?_,hok.fr,hok.tr⟩
 show [f,t,d,p]=[f,t,d,bi (p != 0)]
 rcases hok.pp with h0 | h0<;>rw[h0]<;>rfl
theorem qHi {b h:List Int} (hc:Clean b) {s:Int} (hs:s=0 \/ s=1) {m:List Int} (hm:m∈mvs b h s):Mv4 m /\ qAJ b h s (m0 m) (m1 m) (m2 m) (m3 m)=true:=by
 obtain⟨f,t,d,p,rfl,hok⟩:=qkT hc hs hm
 exact⟨qkO hok,hok.mov⟩
theorem qLG {b:List Int} (hc:Clean b) (h:List Int) {s:Int} (hs:s=0 \/ s=1) {m:List Int} (hm:m∈qw b s T_):Mv4 m /\ qAJ b h s (m0 m) (m1 m) (m2 m) (m3 m)=true /\ m2 m=0:=by
 have h1:=qHi hc hs (h:=h) (m:=m) (List.mem_append_left _ hm)
 obtain⟨f,t,p,rfl⟩:=qkP hm
 exact⟨h1.1,h1.2,rfl⟩
theorem qPm {b:List Int} (hc:Clean b) {h:List Int} {s:Int} (hs:s=0 \/ s=1) {m:List Int} (hm:m∈qAU b h s T_):Mv4 m /\ qAJ b h s (m0 m) (m1 m) (m2 m) (m3 m)=true /\ m0 m=0 /\ 1<=m2 m /\ m2 m<=7 /\ m3 m=false:=by
 have h1:=qHi hc hs (h:=h) (m:=m) (List.mem_append_right _ hm)
 obtain⟨k,t,hk,hk',rfl⟩:=qkQ hm
 exact⟨h1.1,h1.2,rfl,by show (1:Int)<=(k:Int);omega,by show (k:Int)<=7;omega,rfl⟩
theorem qPn (b h:List Int) (s:Int) (G:Nat->Bool):qAU b h s G=(qAU b h s T_).filter fun m=>G (m1 m).toNat:=by
 unfold qAU
 rw[List.filter_flatMap]
 apply qIz
 intro k _
 unfold qBv
 split
 ·rfl
 ·rw[List.filter_map]
  unfold sq
  rw[List.filter_map,List.map_map,List.map_map,List.filter_filter]
  congr 1
  apply List.filter_congr
  intro i _
  show (qA3 b s k i&&G i)=(G (Int.toNat ((i:Nat):Int))&&(qA3 b s k i&&true))
  rw[tn,Bool.and_true,Bool.and_comm]
theorem hdM {m:List Int}:List.headD (List.take 4 m) 0=m0 m /\ List.headD (List.tail (List.take 4 m)) 0=m1 m /\ List.headD (List.tail (List.tail (List.take 4 m))) 0=m2 m /\ (List.headD (List.tail (List.tail (List.tail (List.take 4 m)))) 0 != 0)=m3 m:=⟨hd0 m,hd1 m,hd2 m,by rw[hd3 m];rfl⟩
theorem atL {M:List (List Int)} {i:Nat} (hi:i<M.length):M.getD i []=M[i]:=by rw[List.getD_eq_getElem?_getD,List.getElem?_eq_getElem hi];rfl
def g1 (b:List Int) (s:Int) (m:List Int):Bool:=stB b s (m0 m).toNat (m1 m).toNat
theorem qdo {b:List Int} (hcl:Clean b) (h:List Int) (S:Int) {s:Int} (hs:s=0 \/ s=1) {k:Nat} (hk:KS b s k) {es:List (List Int×List Int)} (hp:qB2 b s k (fun _=>true) es) (chk:Bool) (N:Nat) (M:List (List Int)) (hM:∀ m∈M,Mv4 m) (hl:M.length<=100000):∀ (n i:Nat),i+n=M.length->∀ (L:List (List Int)) (x0 x14:Nat),x0=L.length->x14=L.length->L.length+n<=1000000->∀ F,
  qFF (F+n+1) x0 M.length M.length i b h S (qO b) (qR b) s k (sLo (qv b s)) (sHi (qv b s)) chk x14 L N M es =
   some ((L++(M.drop i).filter (g1 b s)).length,b,h,S,qO b,qR b,s,(k:Int),sLo (qv b s),sHi (qv b s),chk,(L++(M.drop i).filter (g1 b s)).length,L++(M.drop i).filter (g1 b s),es):=by
 intro n
 induction n with
 | zero=>
   intro i hi L x0 x14 e0 e14 hb F
   show qHX (qFF (F+0)) _ _ _ _ _ _ _ _ _ _ _ _ _ _ _ _ _ _ _=_
   unfold qHX
   rw[qY (by omega),List.drop_eq_nil_of_le (by omega),List.filter_nil,List.append_nil,e0,e14]
 | succ n ih=>
   intro i hi L x0 x14 e0 e14 hb F
   show qHX (qFF (F+n+1)) _ _ _ _ _ _ _ _ _ _ _ _ _ _ _ _ _ _ _=_
   unfold qHX
   have hil:i<M.length:=by omega
   obtain⟨hm1,hm2,hm3⟩:=hM M[i] (List.getElem_mem hil)
   rw[qf (by omega),qa (by omega) (by omega),tn,atL hil]
   simp only[hdM]
   rw[qcp hcl h S hs hk hp hm2 hm3,qA]
   simp only
   rw[w_s (n:=(i:Int)+1) (by omega) (by omega),List.drop_eq_getElem_cons hil,List.filter_cons]
   show br (g1 b s M[i]) _ _=_
   cases hg:g1 b s M[i] with
   | true=>
     rw[b_t,qC5 (by omega),<- hm1]
     rw[tkA e0]
     refine (ih (i+1) (by omega) (L++[M[i]]) (x0+1) (x0+1) (by simp;omega) (by simp;omega) (by simp;omega) F).trans ?_
     simp
   | false=>
     rw[b_f]
     exact ih (i+1) (by omega) L x0 x14 e0 e14 (by omega) F
def pb (b:List Int) (s:Int) (q:Int):List Int:=put b q (16*s+1)
def pmS (b:List Int) (s:Int) (q:Int):Bool:=decide (0<=q /\ q<81)&&(decide (at_ b q=0)&&(chs (pb b s q) (1 - s) q.toNat&&(qw (pb b s q) (1 - s) T_).all fun m=>!g1 (pb b s q) (1 - s) m))
theorem qln {b:List Int} (b0 h0:List Int) (S0:Int) (by0 sd0:List (List Int)) (hcl:Clean b) (h:List Int) (S:Int) {s:Int} (hs:s=0 \/ s=1) {k:Nat} (hk:KS b s k) {es:List (List Int×List Int)} (hp:qB2 b s k (fun _=>true) es) (chk:Bool) (N:Nat) (M:List (List Int)) (hM:∀ m∈M,Mv4 m) (hl:M.length<=100000):∀ (n i:Nat),i+n=M.length->∀ F,
  qFH (F+n+1) M.length M.length i b0 h0 S0 by0 sd0 s k (sLo (qv b s)) (sHi (qv b s)) chk N M b h S (qO b) (qR b) es =
   some (if (M.drop i).all (fun m=>!g1 b s m) then .inr (b0,h0,S0,by0,sd0) else .inl (false,b0,h0,S0,by0,sd0)):=by
 intro n
 induction n with
 | zero=>
   intro i hi F
   show qHZ (qFH (F+0)) _ _ _ _ _ _ _ _ _ _ _ _ _ _ _ _ _ _ _ _ _=_
   unfold qHZ
   rw[qY (by omega),List.drop_eq_nil_of_le (by omega)]
   rfl
 | succ n ih=>
   intro i hi F
   show qHZ (qFH (F+n+1)) _ _ _ _ _ _ _ _ _ _ _ _ _ _ _ _ _ _ _ _ _=_
   unfold qHZ
   have hil:i<M.length:=by omega
   obtain⟨hm1,hm2,hm3⟩:=hM M[i] (List.getElem_mem hil)
   rw[qf (by omega),qa (by omega) (by omega),tn,atL hil]
   simp only[hdM]
   rw[qcp hcl h S hs hk hp hm2 hm3,qA]
   simp only
   rw[w_s (n:=(i:Int)+1) (by omega) (by omega),List.drop_eq_getElem_cons hil,List.all_cons]
   show br (g1 b s M[i]) _ _=_
   cases hg:g1 b s M[i] with
   | true=>rw[b_t];rfl
   | false=>
     rw[b_f]
     exact ih (i+1) (by omega) F
theorem qGG (b:List Int) (s q:Int):pb b s q=mb b s 0 q 1 false:=by
 unfold pb mb laid
 rw[if_pos (by simp),if_pos (by simp)]
theorem qP1 {b:List Int} {s q:Int} (hs:s=0 \/ s=1) (hq:0<=q /\ q<81) (h0:at_ b q=0):CanP b (List.replicate 16 1) s 0 q 1 false:=by
 refine⟨hq,fun _=>⟨by omega,by omega,rfl,rfl,?_,h0⟩,fun h=>absurd h (by omega)⟩
 rcases hs with rfl | rfl<;>decide
theorem qlm {b:List Int} (hcl:Clean b) (h:List Int) {s:Int} (hs:s=0 \/ s=1) {k:Nat} (hk:KS b (1 - s) k) (q:Int):qK4 q b h s (qO b) (qR b)=some (pmS b s q):=by
 have hs':1 - s=0 \/ 1 - s=1:=by omega
 have hpc:pc s 1=16*s+1:=qA4 hs (by omega) (by omega) (by omega)
 unfold qK4 pmS
 rw[qLK,qA,hpc,qn (by omega)]
 by_cases q0:q<0
 ·rw[qf q0,decide_eq_false (p:=0<=q /\ q<81) (by omega)];rfl
 rw[qY q0]
 by_cases q1:q >= 81
 ·rw[qCJ q1,decide_eq_false (p:=0<=q /\ q<81) (by omega)];rfl
 have hq:0<=q /\ q<81:=by omega
 rw[qBn q1,qC4,qA,decide_eq_true hq,Bool.true_and]
 by_cases h0:at_ b q=0
 ·have hP:=qP1 hs hq h0
  have hk2:KS (pb b s q) (1 - s) k:=by rw[qGG];exact qKy hcl hs hP hk
  have hcl2:Clean (pb b s q):=hcl.put q _
  have w8:IntKind.wrap IntKind.i8 (1 - s)=1 - s:=w_8 (by omega) (by omega)
  rw[qt h0,decide_eq_true h0,Bool.true_and]
  unfold qNE
  rw[qA]
  simp only
  rw[qQC hcl,qA]
  simp only
  rw[show put b q (16*s+1)=pb b s q from rfl,w8,c_8,qNj hcl2 h (1 - s) (by omega),qA]
  simp only
  rw[qEG,qA]
  have hh:has (chs (pb b s q) (1 - s)) q=chs (pb b s q) (1 - s) q.toNat:=by
   unfold has;rw[decide_eq_true hq.1,decide_eq_true hq.2];rfl
  rw[hh]
  cases hch:chs (pb b s q) (1 - s) q.toNat with
  | false=>rfl
  | true=>
    rw[Bool.not_true,b_f,Bool.true_and]
    obtain⟨es,chk,hl,hp⟩:=qX4 hcl2 h hs' hk2
    have hlen:=qLH (pb b s q) (1 - s) T_
    rw[hl,qA]
    simp only
    rw[qJ4,qA]
    simp only
    rw[show (fun _:Nat=>true)=T_ from rfl,qWK hcl2,qA]
    simp only
    obtain⟨g,hg⟩:=qi (qw (pb b s q) (1 - s) T_).length (by omega)
    have:=qln b h s (qO b) (qR b) hcl2 h (1 - s) hs' hk2 hp chk (qw (pb b s q) (1 - s) T_).length (qw (pb b s q) (1 - s) T_) (fun m hm=>(qLG hcl2 h hs' hm).1) (by omega) (qw (pb b s q) (1 - s) T_).length 0 (by omega) g
    rw[<- hg] at this
    refine (congrArg (fun z=>ob z _) (this:qFH qC (qw (pb b s q) (1 - s) T_).length (Int.ofNat (qw (pb b s q) (1 - s) T_).length) 0 b h s (qO b) (qR b) (1 - s) k (sLo (qv (pb b s q) (1 - s))) (sHi (qv (pb b s q) (1 - s))) chk (qw (pb b s q) (1 - s) T_).length (qw (pb b s q) (1 - s) T_) (pb b s q) h (1 - s) (qO (pb b s q)) (qR (pb b s q)) es=_)).trans ?_
    rw[qA,List.drop_zero]
    cases (qw (pb b s q) (1 - s) T_).all fun m=>!g1 (pb b s q) (1 - s) m<;>rfl
 ·rw[qr h0,decide_eq_false h0];rfl
def g2 (b:List Int) (s:Int) (m:List Int):Bool:=!(decide (m2 m=1)&&pmS b s (m1 m))
theorem qdn {b:List Int} (hcl:Clean b) (h:List Int) {s:Int} (hs:s=0 \/ s=1) {k:Nat} (hk:KS b (1 - s) k) (N:Nat) (M:List (List Int)) (hM:∀ m∈M,Mv4 m) (hl:M.length<=100000):∀ (n i:Nat),i+n=M.length->∀ (L:List (List Int)) (x0 x9:Nat),x0=L.length->x9=L.length->L.length+n<=1000000->∀ F,
  qEI (F+n+1) x0 M.length M.length i b h s (qO b) (qR b) x9 L N M =
   some ((L++(M.drop i).filter (g2 b s)).length,b,h,s,qO b,qR b,(L++(M.drop i).filter (g2 b s)).length,L++(M.drop i).filter (g2 b s)):=by
 intro n
 induction n with
 | zero=>
   intro i hi L x0 x9 e0 e9 hb F
   show qHW (qEI (F+0)) _ _ _ _ _ _ _ _ _ _ _ _ _=_
   unfold qHW
   rw[qY (by omega),List.drop_eq_nil_of_le (by omega),List.filter_nil,List.append_nil,e0,e9]
 | succ n ih=>
   intro i hi L x0 x9 e0 e9 hb F
   show qHW (qEI (F+n+1)) _ _ _ _ _ _ _ _ _ _ _ _ _=_
   unfold qHW
   have hil:i<M.length:=by omega
   obtain⟨hm1,hm2,hm3⟩:=hM M[i] (List.getElem_mem hil)
   rw[qf (by omega),qa (by omega) (by omega),tn,atL hil]
   simp only[hdM]
   rw[w_s (n:=(i:Int)+1) (by omega) (by omega),List.drop_eq_getElem_cons hil,List.filter_cons,qC5 (by omega),<- hm1,tkA e0]
   have add:g2 b s M[i]=true->qEI (F+n+1) (x0+1) M.length M.length ((i:Int)+1) b h s (qO b) (qR b) (x0+1) (L++[M[i]]) N M =
    some ((L++if g2 b s M[i]=true then M[i] :: (M.drop (i+1)).filter (g2 b s) else (M.drop (i+1)).filter (g2 b s)).length,b,h,s,qO b,qR b,(L++if g2 b s M[i]=true then M[i] :: (M.drop (i+1)).filter (g2 b s) else (M.drop (i+1)).filter (g2 b s)).length,L++if g2 b s M[i]=true then M[i] :: (M.drop (i+1)).filter (g2 b s) else (M.drop (i+1)).filter (g2 b s)):=by
    intro hg
    refine (ih (i+1) (by omega) (L++[M[i]]) (x0+1) (x0+1) (by simp;omega) (by simp;omega) (by simp;omega) F).trans ?_
    rw[if_pos hg]
    simp
   by_cases hd:m2 M[i]=1
   ·rw[qo hd,qlm hcl h hs hk,qA]
    cases hpm:pmS b s (m1 M[i]) with
    | true=>
      have hg:g2 b s M[i]=false:=by unfold g2;rw[decide_eq_true hd,hpm];rfl
      rw[b_t,hg]
      exact ih (i+1) (by omega) L x0 x9 e0 e9 (by omega) F
    | false=>
      have hg:g2 b s M[i]=true:=by unfold g2;rw[hpm];simp
      rw[b_f]
      exact add hg
   ·have hg:g2 b s M[i]=true:=by unfold g2;rw[decide_eq_false hd];rfl
    rw[qn hd]
    exact add hg
def lgL (b h:List Int) (s:Int):List (List Int):=(qw b s T_).filter (g1 b s)++(qAU b h s (qv b s)).filter (g2 b s)
theorem qjs (b h:List Int) (s:Int):(lgL b h s).length<=20000:=by
 unfold lgL
 have h1:=qLH b s T_
 have h2:=qPo b h s (qv b s)
 have h3:=List.length_filter_le (g1 b s) (qw b s T_)
 have h4:=List.length_filter_le (g2 b s) (qAU b h s (qv b s))
 rw[List.length_append]
 omega
theorem qXY {b:List Int} (hcl:Clean b) (h:List Int) {s:Int} (hs:s=0 \/ s=1) {k k':Nat} (hk:KS b s k) (hk':KS b (1 - s) k'):qHV b h s (qO b) (qR b)=some ((lgL b h s).length,b,h,s,qO b,qR b,(lgL b h s).length,lgL b h s):=by
 unfold qHV
 obtain⟨es,chk,hl,hp⟩:=qX4 hcl h hs hk
 have hlen:=qLH b s T_
 have hlen2:=qPo b h s (qv b s)
 have hlen3:=List.length_filter_le (g1 b s) (qw b s T_)
 rw[hl,qA]
 simp only
 rw[qJ4,qA]
 simp only
 rw[show (fun _:Nat=>true)=T_ from rfl,qWK hcl,qA]
 simp only
 obtain⟨g,hg⟩:=qi (qw b s T_).length (by omega)
 have:=qdo hcl h s hs hk hp chk (qw b s T_).length (qw b s T_) (fun m hm=>(qLG hcl h hs hm).1) (by omega) (qw b s T_).length 0 (by omega) [] 0 0 rfl rfl (by simp only[List.length_nil];omega) g
 rw[<- hg,List.drop_zero,List.nil_append] at this
 rw[show qFF qC 0 (qw b s T_).length (Int.ofNat (qw b s T_).length) 0 b h s (qO b) (qR b) s k (sLo (qv b s)) (sHi (qv b s)) chk 0 [] (qw b s T_).length (qw b s T_) es=_ from this,qA]
 simp only
 rw[qh5 hcl,qA]
 simp only
 have hM:∀ m∈qAU b h s (qv b s),Mv4 m:=by
  intro m hm
  rw[qPn] at hm
  exact (qPm hcl hs (List.mem_filter.mp hm).1).1
 obtain⟨g,hg⟩:=qi (qAU b h s (qv b s)).length (by omega)
 have:=qdn hcl h hs hk' (qAU b h s (qv b s)).length (qAU b h s (qv b s)) hM (by omega) (qAU b h s (qv b s)).length 0 (by omega) ((qw b s T_).filter (g1 b s)) _ _ rfl rfl (by omega) g
 rw[<- hg,List.drop_zero] at this
 rw[show qEI qC ((qw b s T_).filter (g1 b s)).length (qAU b h s (qv b s)).length (Int.ofNat (qAU b h s (qv b s)).length) 0 b h s (qO b) (qR b) ((qw b s T_).filter (g1 b s)).length ((qw b s T_).filter (g1 b s)) (qAU b h s (qv b s)).length (qAU b h s (qv b s))=_ from this,qA]
 rfl
def mbM (b:List Int) (s:Int) (m:List Int):List Int:=mb b s (m0 m) (m1 m) (m2 m) (m3 m)
def mhM (b h:List Int) (s:Int) (m:List Int):List Int:=mh b h s (m1 m) (m2 m)
def qBz (b:List Int) (s:Int) (m:List Int):Bool:=!inC (mbM b s m) s
def qJn (b h:List Int) (s:Int):Bool:=(mvs b h s).all fun m=>!qBz b s m
def qDF (b h:List Int) (s:Int) (m:List Int):Bool:=qBz b s m&&(decide (m2 m≠1) || !(inC (mbM b s m) (1 - s)&&qJn (mbM b s m) (mhM b h s m) (1 - s)))
theorem qbn {b h:List Int} {s:Int} (hc:Clean b) (hs:s=0 \/ s=1) {m:List Int} (hm:qAJ b h s (m0 m) (m1 m) (m2 m) (m3 m)=true):qJU b h s (m0 m) (m1 m) (m2 m) (m3 m)=some (qBz b s m):=by
 unfold qJU
 rw[qZB hc hs (qGA hm).2,qA]
 simp only
 rw[qRu _ _ _ hs,qA]
 rfl
theorem qo8 {b h:List Int} (hc:Clean b) {s:Int} (hs:s=0 \/ s=1) (N:Nat) (M:List (List Int)) (hM:∀ m∈M,qAJ b h s (m0 m) (m1 m) (m2 m) (m3 m)=true) (hl:M.length<=100000):∀ (n i:Nat),i+n=M.length->∀ F,
  qFZ (F+n+1) M.length i b h s N M=some (if (M.drop i).all (fun m=>!qBz b s m) then .inr () else .inl false):=by
 intro n
 induction n with
 | zero=>
   intro i hi F
   show qH6 (qFZ (F+0)) _ _ _ _ _ _ _=_
   unfold qH6
   rw[qY (by simp only[Int.ofNat_eq_natCast];omega),List.drop_eq_nil_of_le (by omega)]
   rfl
 | succ n ih=>
   intro i hi F
   show qH6 (qFZ (F+n+1)) _ _ _ _ _ _ _=_
   unfold qH6
   have hil:i<M.length:=by omega
   rw[qf (by simp only[Int.ofNat_eq_natCast];omega),qa (by omega) (by omega),tn,atL hil]
   simp only[hdM]
   rw[qbn hc hs (hM _ (List.getElem_mem hil)),qA,w_s (n:=(i:Int)+1) (by omega) (by omega),List.drop_eq_getElem_cons hil,List.all_cons]
   cases hg:qBz b s M[i] with
   | true=>rw[b_t];rfl
   | false=>
     rw[b_f]
     exact ih (i+1) (by omega) F
theorem qo9 {b:List Int} (hc:Clean b) (h:List Int) {s:Int} (hs:s=0 \/ s=1):qLx b h s=some (qJn b h s):=by
 unfold qLx
 rw[qbZ b h hs,qA,<- qPp hc h hs]
 simp only
 have hlen:=qYR b h s
 obtain⟨g,hg⟩:=qi (mvs b h s).length (by omega)
 have:=qo8 hc hs (mvs b h s).length (mvs b h s) (fun m hm=>(qHi hc hs hm).2) (by omega) (mvs b h s).length 0 (by omega) g
 rw[<- hg,List.drop_zero] at this
 rw[show qFZ qC (mvs b h s).length 0 b h s (mvs b h s).length (mvs b h s)=_ from this,qA]
 unfold qJn
 cases (mvs b h s).all fun m=>!qBz b s m<;>rfl
theorem qoz {b h:List Int} {s:Int} (hc:Clean b) (hs:s=0 \/ s=1) {m:List Int} (hm:qAJ b h s (m0 m) (m1 m) (m2 m) (m3 m)=true):qLw b h s (m0 m) (m1 m) (m2 m) (m3 m)=some (qDF b h s m):=by
 have hs':1 - s=0 \/ 1 - s=1:=by omega
 unfold qLw qDF
 rw[qbn hc hs hm,qA]
 cases qBz b s m with
 | false=>rfl
 | true=>
   rw[Bool.not_true,b_f,Bool.true_and]
   by_cases hd:m2 m=1
   ·rw[qt hd,decide_eq_false (p:=m2 m≠1) (by simpa using hd),Bool.false_or,qZB hc hs (qGA hm).2,qA]
    simp only
    rw[qRu _ _ _ hs',qA]
    show (br (!inC (mbM b s m) (1 - s)) _ _)=_
    cases inC (mbM b s m) (1 - s) with
    | false=>rfl
    | true=>
      rw[Bool.not_true,b_f,qo9 (qPg hc _ _ _ _ _) _ hs',qA]
      rfl
   ·rw[qr hd,decide_eq_true (p:=m2 m≠1) hd];rfl
theorem qmV {b h:List Int} (hc:Clean b) {s:Int} (hs:s=0 \/ s=1) (N:Nat) (M:List (List Int)) (hM:∀ m∈M,Mv4 m /\ qAJ b h s (m0 m) (m1 m) (m2 m) (m3 m)=true) (hl:M.length<=100000):∀ (n i:Nat),i+n=M.length->∀ (L:List (List Int)) (x0 x6:Nat),x0=L.length->x6=L.length->L.length+n<=1000000->∀ F,
  qFY (F+n+1) x0 M.length i b h s x6 L N M=some ((L++(M.drop i).filter (qDF b h s)).length,(L++(M.drop i).filter (qDF b h s)).length,L++(M.drop i).filter (qDF b h s)):=by
 intro n
 induction n with
 | zero=>
   intro i hi L x0 x6 e0 e6 hb F
   show qH5 (qFY (F+0)) _ _ _ _ _ _ _ _ _ _=_
   unfold qH5
   rw[qY (by simp only[Int.ofNat_eq_natCast];omega),List.drop_eq_nil_of_le (by omega),List.filter_nil,List.append_nil,e0,e6]
 | succ n ih=>
   intro i hi L x0 x6 e0 e6 hb F
   show qH5 (qFY (F+n+1)) _ _ _ _ _ _ _ _ _ _=_
   unfold qH5
   have hil:i<M.length:=by omega
   obtain⟨hm1,hm2⟩:=hM M[i] (List.getElem_mem hil)
   rw[qf (by simp only[Int.ofNat_eq_natCast];omega),qa (by omega) (by omega),tn,atL hil]
   simp only[hdM]
   rw[qoz hc hs hm2,qA,w_s (n:=(i:Int)+1) (by omega) (by omega),List.drop_eq_getElem_cons hil,List.filter_cons,qa (by omega) (by omega)]
   cases hg:qDF b h s M[i] with
   | true=>
     rw[b_t,qC5 (by omega),<- hm1.1,tkA e0]
     refine (ih (i+1) (by omega) (L++[M[i]]) (x0+1) (x0+1) (by simp;omega) (by simp;omega) (by simp;omega) F).trans ?_
     simp
   | false=>
     rw[b_f]
     exact ih (i+1) (by omega) L x0 x6 e0 e6 (by omega) F
def rlL (b h:List Int) (s:Int):List (List Int):=(mvs b h s).filter (qDF b h s)
theorem qoy {b:List Int} (hc:Clean b) (h:List Int) {s:Int} (hs:s=0 \/ s=1):qH4 b h s=some ((rlL b h s).length,(rlL b h s).length,rlL b h s):=by
 unfold qH4
 rw[qbZ b h hs,qA,<- qPp hc h hs]
 simp only
 have hlen:=qYR b h s
 obtain⟨g,hg⟩:=qi (mvs b h s).length (by omega)
 have:=qmV hc hs (mvs b h s).length (mvs b h s) (fun m hm=>qHi hc hs hm) (by omega) (mvs b h s).length 0 (by omega) [] 0 0 rfl rfl (by simp only[List.length_nil];omega) g
 rw[<- hg,List.drop_zero,List.nil_append] at this
 rw[show qFY qC 0 (mvs b h s).length 0 b h s 0 [] (mvs b h s).length (mvs b h s)=_ from this,qA]
 rfl
end Go.Kk.Pl
