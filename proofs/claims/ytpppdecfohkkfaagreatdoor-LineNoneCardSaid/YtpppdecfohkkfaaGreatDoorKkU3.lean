/- What the program's functions come to, told plainly: the texts of this project that this claim leans on, cut down to what is used. -/
import Derived.Test.YtpppdecfohkkfaaGreatDoorKkU2
import Derived.Test.YtpppdecfohkkfaaGreatDoorKkU1
namespace Go.Kk.Pl
theorem qC0 {α:Type} {x y:α} {a b:Nat} (h:a<=b):br (decide (a<=b)) x y=x:=qD (by simpa using h)
theorem tkA {α:Type} {n:Nat} {L:List α} (h:n=L.length) (M:List α):List.append (List.take n L) M=L++M:=by
 subst h;rw [List.take_length];rfl
theorem qtQ {α:Type} {n:Nat} {L:List α} {m:α} (h:n=L.length) (M:List α):List.append (List.take (n+1) (L++[m])) M=L++m :: M:=by
 rw [tkA (by simp [h])];simp
def qAD (x f t:Int):List (List Int):=(if qET x t then [] else [[f,t,0,0]])++(if qDi x f t then [[f,t,0,1]] else [])
theorem qnX (x f t:Int):(qAD x f t).length<=2:=by
 unfold qAD;split<;>split<;>simp
theorem qOQ {α β:Type} (g:α->List β) (k:Nat) (L:List α) (h:∀ a∈L,(g a).length<=k):(L.flatMap g).length<=k*L.length:=by
 induction L with
 | nil=>simp
 | cons a L ih=>
   rw [List.flatMap_cons,List.length_append,List.length_cons,Nat.mul_succ]
   have:=h a (by simp)
   have:=ih fun x hx=>h x (by simp [hx])
   omega
theorem qtT (x f:Int) (T:List Int) (S:Int) (N1:Nat) (a5 a6:Int) (b h:List Int) (S':Int) (by' sd':List (List Int)) (u v k1 k2:Int) (N2:Nat) (L2:List Int) (N3:Nat) (hT:T.length<=1000):∀ (n i:Nat),i+n=T.length->∀ (L:List (List Int)) (x0 x17:Nat),x0=L.length->x17=L.length->L.length<=1000000 - 2*n->∀ F,
  qE8 (F+n+1) x0 S f x N1 a5 a6 T.length T.length i b h S' by' sd' u v x17 L k1 k2 N2 L2 N3 T =
   some ((L++(T.drop i).flatMap (qAD x f)).length,S,N1,a5,a6,b,h,S',by',sd',u,v,(L++(T.drop i).flatMap (qAD x f)).length,L++(T.drop i).flatMap (qAD x f),k1,k2,N2,L2):=by
 intro n
 induction n with
 | zero=>
   intro i hi L x0 x17 h0 h17 hb F
   show qHA (qE8 (F+0)) _ _ _ _ _ _ _ _ _ _ _ _ _ _ _ _ _ _ _ _ _ _ _ _ _=_
   unfold qHA
   rw [qY (by omega),List.drop_eq_nil_of_le (by omega)]
   simp only [List.flatMap_nil,List.append_nil,h0,h17]
 | succ n ih=>
   intro i hi L x0 x17 h0 h17 hb F
   show qHA (qE8 (F+n+1)) _ _ _ _ _ _ _ _ _ _ _ _ _ _ _ _ _ _ _ _ _ _ _ _ _=_
   unfold qHA
   have hil:i<T.length:=by omega
   have hget:T.getD i 0=T[i]:=qFm hil
   have hd:T.drop i=T[i] :: T.drop (i+1):=List.drop_eq_getElem_cons hil
   rw [qi (by omega),qn (by omega) (by omega),tn,hget,qoQ,qA]
   simp only
   rw [w_s (by omega) (by omega),hd,List.flatMap_cons,<- List.append_assoc]
   rw [tkA h0,tkA h0,qtQ h0]
   have hi1:i+1+n=T.length:=by omega
   have ih':=ih (i+1) hi1
   cases hm:qET x T[i] with
   | false=>
     rw [Bool.not_false,b_t,qC0 (by omega)]
     cases hy:qDi x f T[i] with
     | true=>
       rw [b_t,qC0 (by omega)]
       have:=ih' (L++qAD x f T[i]) (x0+1+1) (x0+1+1) (by simp [qAD,hm,hy,h0]) (by simp [qAD,hm,hy,h0]) (by simp [qAD,hm,hy];omega) F
       rw [<- this]
       simp [qAD,hm,hy]
     | false=>
       rw [b_f]
       have:=ih' (L++qAD x f T[i]) (x0+1) (x0+1) (by simp [qAD,hm,hy,h0]) (by simp [qAD,hm,hy,h0]) (by simp [qAD,hm,hy];omega) F
       rw [<- this]
       simp [qAD,hm,hy]
   | true=>
     rw [Bool.not_true,b_f]
     cases hy:qDi x f T[i] with
     | true=>
       rw [b_t,qC0 (by omega)]
       have:=ih' (L++qAD x f T[i]) (x0+1) (x0+1) (by simp [qAD,hm,hy,h0]) (by simp [qAD,hm,hy,h0]) (by simp [qAD,hm,hy];omega) F
       rw [<- this]
       simp [qAD,hm,hy]
     | false=>
       rw [b_f]
       have:=ih' (L++qAD x f T[i]) x0 x17 (by simp [qAD,hm,hy,h0]) (by simp [qAD,hm,hy,h17]) (by simp [qAD,hm,hy];omega) F
       rw [<- this]
       simp [qAD,hm,hy]
def kgs (b:List Int) (c:Nat):Bool:=pcs b (pc 0 8) c||pcs b (pc 1 8) c
def qBi (b:List Int) (S:Int) (G:Nat->Bool) (f:Nat) (c:Nat):Bool:=((rch (b.getD f 0) f c (tk b) && !sdP b S c) && !kgs b c)&&G c
def qCS (b:List Int) (S:Int) (G:Nat->Bool) (f:Int):List (List Int):=(sq (qBi b S G f.toNat)).flatMap (qAD (b.getD f.toNat 0) f)
def qx (b:List Int) (S:Int) (G:Nat->Bool):List (List Int):=(sq (sdP b S)).flatMap (qCS b S G)
theorem qY2 (b:List Int) (S:Int) (G:Nat->Bool) (f:Int):(qCS b S G f).length<=162:=by
 unfold qCS
 have:=qOQ (qAD (b.getD f.toNat 0) f) 2 (sq (qBi b S G f.toNat)) fun a _=>qnX _ _ _
 have:=qEh (qBi b S G f.toNat)
 omega
theorem qhJ {b:List Int} (hc:Clean b) (h:List Int) (S:Int) (G:Nat->Bool) (T:List Int) (hT:T.length<=1000) (hTr:∀ q∈T,0<=q /\ q<81) (N:Nat):∀ (n i:Nat),i+n=T.length->∀ (L:List (List Int)) (x0 x17:Nat),x0=L.length->x17=L.length->L.length<=900000 - 200*n->∀ F,
  qE7 (F+n+1) x0 S T.length T.length i b h S (qR b) (qV b) (sLo G) (sHi G) x17 L (sLo (kgs b)) (sHi (kgs b)) N T =
   some ((L++(T.drop i).flatMap (qCS b S G)).length,b,h,S,qR b,qV b,(L++(T.drop i).flatMap (qCS b S G)).length,L++(T.drop i).flatMap (qCS b S G)):=by
 intro n
 induction n with
 | zero=>
   intro i hi L x0 x17 h0 h17 hb F
   show qG9 (qE7 (F+0)) _ _ _ _ _ _ _ _ _ _ _ _ _ _ _ _ _ _=_
   unfold qG9
   rw [qY (by omega),List.drop_eq_nil_of_le (by omega)]
   simp only [List.flatMap_nil,List.append_nil,h0,h17]
 | succ n ih=>
   intro i hi L x0 x17 h0 h17 hb F
   show qG9 (qE7 (F+n+1)) _ _ _ _ _ _ _ _ _ _ _ _ _ _ _ _ _ _=_
   unfold qG9
   have hil:i<T.length:=by omega
   have hget:T.getD i 0=T[i]:=qFm hil
   have hd:T.drop i=T[i] :: T.drop (i+1):=List.drop_eq_getElem_cons hil
   obtain ⟨q0,q1⟩:=hTr T[i] (List.getElem_mem hil)
   obtain ⟨q,hq⟩:∃ q:Nat,T[i]=q:=⟨T[i].toNat,by omega⟩
   have hat:at_ b T[i]=b.getD q 0:=by rw [qBJ ⟨q0,q1⟩,hq,tn]
   rw [qi (by omega),qn (by omega) (by omega),tn,hget,qCy,qA,qJm hc,qA]
   simp only
   rw [hat,hq,qLm _ (by omega),qA]
   simp only
   rw [qQT,qA]
   simp only
   rw [qLJ,qA]
   simp only
   rw [qLJ,qA]
   simp only
   rw [qEq,qA]
   simp only
   rw [qJe,qA]
   simp only
   rw [show (fun i=>((rch (b.getD q 0) q i (tk b) && !sdP b S i) && !kgs b i)&&G i)=qBi b S G q from rfl]
   have hlen:=qEh (qBi b S G q)
   obtain ⟨g,hg⟩:=qk (sq (qBi b S G q)).length (by omega)
   have:=qtT (b.getD q 0) q (sq (qBi b S G q)) S T.length T.length i b h S (qR b) (qV b) (sLo G) (sHi G) (sLo (kgs b)) (sHi (kgs b)) N T (sq (qBi b S G q)).length (by omega) (sq (qBi b S G q)).length 0 (by omega) L x0 x17 h0 h17 (by omega) g
   rw [<- hg] at this
   rw [show qE8 qB x0 S q (b.getD q 0) T.length T.length i (sq (qBi b S G q)).length (Int.ofNat (sq (qBi b S G q)).length) 0 b h S (qR b) (qV b) (sLo G) (sHi G) x17 L (sLo (kgs b)) (sHi (kgs b)) N T (sq (qBi b S G q)).length (sq (qBi b S G q))=_ from this,qA]
   simp only
   have e:(List.drop 0 (sq (qBi b S G q))).flatMap (qAD (b.getD q 0) q)=qCS b S G T[i]:=by
    unfold qCS;rw [hq,tn,List.drop_zero]
   have hl2:=qY2 b S G T[i]
   rw [e,w_s (by omega) (by omega),hd,List.flatMap_cons,<- List.append_assoc]
   exact ih (i+1) (by omega) (L++qCS b S G T[i]) _ _ rfl rfl (by rw [List.length_append];omega) F
theorem qV4 {b:List Int} (hc:Clean b) (h:List Int) (S:Int) (G:Nat->Bool):qG7 (sLo G) (sHi G) b h S (qR b) (qV b)=some ((qx b S G).length,(qx b S G).length,qx b S G):=by
 unfold qG7
 rw [qGC,qA]
 simp only
 rw [qGC,qA]
 simp only
 rw [qHh,qA]
 simp only
 rw [qQT,qA]
 simp only
 rw [qJe,qA]
 simp only
 have hlen:=qEh (sdP b S)
 obtain ⟨g,hg⟩:=qk (sq (sdP b S)).length (by omega)
 have:=qhJ hc h S G (sq (sdP b S)) (by omega) (fun q hq=>⟨(qGW hq).1,(qGW hq).2.1⟩) (sq (sdP b S)).length (sq (sdP b S)).length 0 (by omega) [] 0 0 rfl rfl (by simp only [List.length_nil];omega) g
 rw [<- hg] at this
 rw [show qE7 qB 0 S (sq (sdP b S)).length (Int.ofNat (sq (sdP b S)).length) 0 b h S (qR b) (qV b) (sLo G) (sHi G) 0 [] (sLo fun i=>pcs b (pc 0 8) i||pcs b (pc 1 8) i) (sHi fun i=>pcs b (pc 0 8) i||pcs b (pc 1 8) i) (sq (sdP b S)).length (sq (sdP b S))=_ from this,qA]
 rfl
def qBk (b h:List Int) (S:Int) (G:Nat->Bool) (k:Nat):List (List Int):=if hdP h S k<1 then [] else (sq fun i=>qA0 b S k i&&G i).map fun t=>[0,t,(k:Int),0]
def qAS (b h:List Int) (S:Int) (G:Nat->Bool):List (List Int):=(List.range' 1 7).flatMap (qBk b h S G)
theorem qY3 (b h:List Int) (S:Int) (G:Nat->Bool) (k:Nat):(qBk b h S G k).length<=81:=by
 unfold qBk
 split
 ·simp
 ·rw [List.length_map];exact qEh _
theorem qtU (k:Int) (T:List Int) (S:Int) (b h:List Int) (S':Int) (by' sd':List (List Int)) (u v:Int) (N3:Nat) (hT:T.length<=1000):∀ (n i:Nat),i+n=T.length->∀ (L:List (List Int)) (x0 x17:Nat),x0=L.length->x17=L.length->L.length<=1000000 - 2*n->∀ F,
  qFA (F+n+1) x0 S k T.length T.length i b h S' by' sd' u v x17 L N3 T =
   some ((L++(T.drop i).map fun t=>[0,t,k,0]).length,S,k,b,h,S',by',sd',u,v,(L++(T.drop i).map fun t=>[0,t,k,0]).length,L++(T.drop i).map fun t=>[0,t,k,0]):=by
 intro n
 induction n with
 | zero=>
   intro i hi L x0 x17 h0 h17 hb F
   show qHD (qFA (F+0)) _ _ _ _ _ _ _ _ _ _ _ _ _ _ _ _ _=_
   unfold qHD
   rw [qY (by omega),List.drop_eq_nil_of_le (by omega)]
   simp only [List.map_nil,List.append_nil,h0,h17]
 | succ n ih=>
   intro i hi L x0 x17 h0 h17 hb F
   show qHD (qFA (F+n+1)) _ _ _ _ _ _ _ _ _ _ _ _ _ _ _ _ _=_
   unfold qHD
   have hil:i<T.length:=by omega
   have hget:T.getD i 0=T[i]:=qFm hil
   have hd:T.drop i=T[i] :: T.drop (i+1):=List.drop_eq_getElem_cons hil
   rw [qi (by omega),qn (by omega) (by omega),tn,hget,qC0 (by omega),tkA h0,w_s (by omega) (by omega),hd,List.map_cons]
   have:=ih (i+1) (by omega) (L++[[0,T[i],k,0]]) (x0+1) (x0+1) (by simp [h0]) (by simp [h0]) (by simp;omega) F
   rw [List.append_assoc] at this
   exact this
theorem qib {b:List Int} (hc:Clean b) (h:List Int) (S:Int) (G:Nat->Bool):∀ (n k:Nat),k+n=8->∀ (L:List (List Int)) (x0 x17:Nat),x0=L.length->x17=L.length->L.length<=900000 - 200*n->∀ F,
  qE9 (F+n+1) x0 S k b h S (qR b) (qV b) (sLo G) (sHi G) x17 L =
   some ((L++(List.range' k n).flatMap (qBk b h S G)).length,b,h,S,qR b,qV b,(L++(List.range' k n).flatMap (qBk b h S G)).length,L++(List.range' k n).flatMap (qBk b h S G)):=by
 intro n
 induction n with
 | zero=>
   intro k hk L x0 x17 h0 h17 hb F
   show qHC (qE9 (F+0)) _ _ _ _ _ _ _ _ _ _ _ _=_
   unfold qHC
   rw [qY (by omega)]
   simp only [List.range'_zero,List.flatMap_nil,List.append_nil,h0,h17]
 | succ n ih=>
   intro k hk L x0 x17 h0 h17 hb F
   show qHC (qE9 (F+n+1)) _ _ _ _ _ _ _ _ _ _ _ _=_
   unfold qHC
   have hl2:=qY3 b h S G k
   rw [qi (by omega),qjf,qA,List.range'_succ,List.flatMap_cons,<- List.append_assoc]
   have ih':=ih (k+1) (by omega) (L++qBk b h S G k)
   by_cases h1:hdP h S k<1
   ·have e:qBk b h S G k=[]:=by unfold qBk;rw [if_pos h1]
    rw [qi h1,w_s (by omega) (by omega)]
    rw [e,List.append_nil] at ih' ⊢
    exact ih' x0 x17 h0 h17 (by omega) F
   ·have e:qBk b h S G k=(sq fun i=>qA0 b S k i&&G i).map fun t=>[0,t,(k:Int),0]:=by unfold qBk;rw [if_neg h1]
    rw [qY h1,qi4 hc,qA]
    simp only
    rw [qEq,qA]
    simp only
    rw [qJe,qA]
    simp only
    have hlen:=qEh fun i=>qA0 b S k i&&G i
    obtain ⟨g,hg⟩:=qk (sq fun i=>qA0 b S k i&&G i).length (by omega)
    have:=qtU k (sq fun i=>qA0 b S k i&&G i) S b h S (qR b) (qV b) (sLo G) (sHi G) (sq fun i=>qA0 b S k i&&G i).length (by omega) (sq fun i=>qA0 b S k i&&G i).length 0 (by omega) L x0 x17 h0 h17 (by omega) g
    rw [<- hg] at this
    rw [show qFA qB x0 S k (sq fun i=>qA0 b S k i&&G i).length (Int.ofNat (sq fun i=>qA0 b S k i&&G i).length) 0 b h S (qR b) (qV b) (sLo G) (sHi G) x17 L (sq fun i=>qA0 b S k i&&G i).length (sq fun i=>qA0 b S k i&&G i)=_ from this,qA]
    simp only
    rw [List.drop_zero,<- e,w_s (by omega) (by omega)]
    exact ih' _ _ rfl rfl (by rw [List.length_append];omega) F
theorem qjF {b:List Int} (hc:Clean b) (h:List Int) (S:Int) (G:Nat->Bool):qIq (sLo G) (sHi G) b h S (qR b) (qV b)=some ((qAS b h S G).length,(qAS b h S G).length,qAS b h S G):=by
 unfold qIq
 obtain ⟨g,hg⟩:=qk 7 (by omega)
 have:=qib hc h S G 7 1 (by omega) [] 0 0 rfl rfl (by simp only [List.length_nil];omega) g
 rw [<- hg] at this
 rw [show qE9 qB 0 S 1 b h S (qR b) (qV b) (sLo G) (sHi G) 0 []=_ from this,qA]
 rfl
def mvs (b h:List Int) (S:Int):List (List Int):=qx b S (fun _=>true)++qAS b h S (fun _=>true)
theorem qP8 (b:List Int) (S:Int) (G:Nat->Bool):(qx b S G).length<=162*81:=by
 unfold qx
 have:=qOQ (qCS b S G) 162 (sq (sdP b S)) fun a _=>qY2 _ _ _ _
 have:=qEh (sdP b S)
 omega
theorem qY1 (b h:List Int) (S:Int) (G:Nat->Bool):(qAS b h S G).length<=81*7:=by
 unfold qAS
 have:=qOQ (qBk b h S G) 81 (List.range' 1 7) fun a _=>qY3 _ _ _ _ _
 rw [List.length_range'] at this
 omega
end Go.Kk.Pl
namespace Go.Kk.Pl
def qQd (b h:List Int) (S:Int) (f t:Nat):List (List Int):=(if qA1 b h S f t 0 false then [[(f:Int),(t:Int),0,0]] else [])++(if qA1 b h S f t 0 true then [[(f:Int),(t:Int),0,1]] else [])
def rTo (b h:List Int) (S:Int) (f t:Nat):List (List Int):=if rch (b.getD f 0) f t (tk b) then qQd b h S f t else []
def qQb (b h:List Int) (S:Int) (f:Nat):List (List Int):=if sd (b.getD f 0)=S then (List.range' 0 81).flatMap (rTo b h S f) else []
def qQa (b h:List Int) (S:Int) (k t:Nat):List (List Int):=if qA1 b h S 0 t k false then [[0,(t:Int),(k:Int),0]] else []
def qQc (b h:List Int) (S:Int) (k:Nat):List (List Int):=if hd_ h S k>0 then (List.range' 0 81).flatMap (qQa b h S k) else []
def qQZ (b h:List Int) (S:Int):List (List Int):=(List.range' 0 81).flatMap (qQb b h S)++(List.range' 1 7).flatMap (qQc b h S)
theorem qiw {α β γ:Type} (p:α->Bool) (f:α->β) (g:β->List γ) (L:List α):((L.filter p).map f).flatMap g=L.flatMap fun a=>if p a then g (f a) else []:=by
 induction L with
 | nil=>rfl
 | cons a L ih=>
   rw [List.filter_cons,List.flatMap_cons]
   cases h:p a with
   | true=>rw [if_pos rfl,if_pos rfl,List.map_cons,List.flatMap_cons,ih]
   | false=>rw [if_neg (by simp),if_neg (by simp),ih];rfl
theorem qSI {γ:Type} (p:Nat->Bool) (g:Int->List γ):(sq p).flatMap g=(List.range' 0 81).flatMap fun (i:Nat)=>if p i then g (i:Int) else []:=by
 unfold sq;rw [qiw,qZ1];rfl
theorem qIo {α β:Type} {f g:α->List β} {L:List α} (h:∀ a∈L,f a=g a):L.flatMap f=L.flatMap g:=by
 induction L with
 | nil=>rfl
 | cons a L ih=>rw [List.flatMap_cons,List.flatMap_cons,h a (by simp),ih fun x hx=>h x (by simp [hx])]
theorem qsH {γ:Type} (p:Nat->Bool) (g:Int->γ):(sq p).map g=(List.range' 0 81).flatMap fun (i:Nat)=>if p i then [g (i:Int)] else []:=by
 rw [<- qSI p fun t=>[g t]]
 induction sq p with
 | nil=>rfl
 | cons a L ih=>rw [List.map_cons,List.flatMap_cons,ih];rfl
theorem qkV {b:List Int} (_hc:Clean b) {c:Nat} (_hcc:c<81):kgs b c=decide (kd (b.getD c 0)=8):=by
 unfold kgs pcs
 rw [qA8 (.inl rfl) (by omega) (by omega) (by omega),qA8 (.inr rfl) (by omega) (by omega) (by omega),Bool.eq_iff_iff]
 simp only [Bool.or_eq_true,decide_eq_true_eq]
 constructor
 ·rintro (⟨_,h⟩ | ⟨_,h⟩)<;>rw [h]<;>decide
 ·intro h
  have:=qQO (x:=b.getD c 0) (by omega)
  rw [h] at this
  have hs:=qH6 (x:=b.getD c 0) (by omega)
  rcases hs with h1 | h1<;>rw [h1,qA8 (by omega) (by omega) (by omega) (by omega)] at this
  ·left;omega
  ·right;omega
theorem qYd {b:List Int} (_hc:Clean b) (h:List Int) {S:Int} (hS:S=0 \/ S=1) {f t:Nat} (hf:f<81) (ht:t<81) (hs:sd (b.getD f 0)=S) (hr:rch (b.getD f 0) f t (tk b)=true) (p:Bool):
  qA1 b h S f t 0 p=(decide (sd (b.getD t 0)≠S /\ kd (b.getD t 0)≠8)&&if p=true then qDi (b.getD f 0) f t else !qET (b.getD f 0) t):=by
 unfold qA1 qDT
 rw [if_neg (by simp),if_neg (by simp),qBJ (by omega),qBJ (by omega),tn,tn,hr,decide_eq_true (p:=S=0 \/ S=1) hS,Bool.true_and,Bool.true_and]
 by_cases hft:f=t
 ·subst hft
  have:decide (sd (b.getD f 0)=S /\ sd (b.getD f 0)≠S /\ kd (b.getD f 0)≠8)=false:=decide_eq_false fun hh=>hh.2.1 hs
  rw [this,Bool.false_and,Bool.and_false,Bool.false_and,decide_eq_false (p:=sd (b.getD f 0)≠S /\ kd (b.getD f 0)≠8) (fun hh=>hh.1 hs),Bool.false_and]
 ·have e:qDV f t 0 p=0:=by
   unfold qDV
   rw [if_neg (by omega),if_neg (by simp),if_neg (by omega),if_neg (by omega)]
  rw [decide_eq_true e,Bool.true_and]
  have:decide (sd (b.getD f 0)=S /\ sd (b.getD t 0)≠S /\ kd (b.getD t 0)≠8)=decide (sd (b.getD t 0)≠S /\ kd (b.getD t 0)≠8):=by simp [hs,-List.getD_eq_getElem?_getD]
  rw [this,Bool.and_assoc]
  congr 1
  cases p with
  | false=>simp
  | true=>
    simp only [Bool.not_true,Bool.false_or,if_true]
    unfold qDi
    rw [<- Bool.and_assoc,Bool.and_self]
theorem qtW {b:List Int} (hc:Clean b) (h:List Int) {S:Int} (hS:S=0 \/ S=1) {f t:Nat} (hf:f<81) (ht:t<81) (hs:sd (b.getD f 0)=S):
  (if qBi b S (fun _=>true) f t then qAD (b.getD f 0) f t else [])=rTo b h S f t:=by
 unfold rTo qQd qAD qBi
 rw [qkV hc ht]
 cases hr:rch (b.getD f 0) f t (tk b) with
 | false=>simp
 | true=>
   rw [qYd hc h hS hf ht hs hr,qYd hc h hS hf ht hs hr]
   unfold sdP sds
   rw [decide_eq_true (p:=S=0 \/ S=1) hS]
   by_cases h1:sd (b.getD t 0)=S
   ·simp [h1,-List.getD_eq_getElem?_getD]
   ·by_cases h2:kd (b.getD t 0)=8
    ·simp [h2,-List.getD_eq_getElem?_getD]
    ·simp only [h1,h2,decide_false,Bool.and_self,Bool.not_false,Bool.true_and,ne_eq,not_false_eq_true,if_true,Bool.false_eq_true,if_false]
     cases qET (b.getD f 0) t<;>cases qDi (b.getD f 0) f t<;>rfl
theorem qmY {b:List Int} (hc:Clean b) (h:List Int) {S:Int} (hS:S=0 \/ S=1):mvs b h S=qQZ b h S:=by
 unfold mvs qQZ
 congr 1
 ·unfold qx
  rw [qSI]
  apply qIo
  intro f hf
  rw [List.mem_range'_1] at hf
  unfold qQb
  by_cases hs:sd (b.getD f 0)=S
  ·have:sdP b S f=true:=by unfold sdP sds;rw [decide_eq_true hs,decide_eq_true (p:=S=0 \/ S=1) hS];rfl
   rw [if_pos this,if_pos hs]
   unfold qCS
   rw [tn,qSI]
   apply qIo
   intro t ht
   rw [List.mem_range'_1] at ht
   exact qtW hc h hS (by omega) (by omega) hs
  ·have:sdP b S f=false:=by unfold sdP sds;rw [decide_eq_false hs,Bool.and_false]
   rw [if_neg (by simp [this]),if_neg hs]
 ·unfold qAS
  apply qIo
  intro k hk
  rw [List.mem_range'_1] at hk
  unfold qBk qQc
  have e:hdP h S k=hd_ h S k:=by unfold hdP;rw [if_pos ⟨hS,by omega,by omega⟩]
  rw [e]
  by_cases h1:hd_ h S k>0
  ·rw [if_neg (by omega),if_pos h1,qsH]
   apply qIo
   intro t ht
   rw [List.mem_range'_1] at ht
   unfold qQa
   rw [Bool.and_true]
   have:qA1 b h S 0 t k false=qA0 b S k t:=by
    unfold qA1 qDT qA0 qBA
    have e2:qDV 0 (t:Int) k false=0:=by
     unfold qDV
     rw [if_neg (by omega),if_pos (by omega),if_pos ⟨by omega,by omega,rfl,rfl⟩]
    rw [e2,qA8 hS (by omega) (by omega) (by omega),qA8 hS (by omega) (by omega) (by omega),if_pos (by omega),if_pos (by omega),decide_eq_true (p:=S=0 \/ S=1) hS,decide_eq_true (p:=(S=0 \/ S=1) /\ (1:Int)<=k /\ (k:Int)<=7) ⟨hS,by omega,by omega⟩,qOE _ (by omega),qBJ (by omega),tn,decide_eq_true (p:=0<hd_ h S k) h1]
    unfold tk
    by_cases h2:(k:Int)=1
    ·rw [h2]
     by_cases h0:b.getD t 0=0<;>simp
    ·by_cases h0:b.getD t 0=0<;>simp [h2]
   rw [this]
  ·rw [if_pos (by omega),if_neg h1]
end Go.Kk.Pl
namespace Go.Kk.Pl
theorem hd0 (m:List Int):List.headD (List.take 4 m) 0=m.getD 0 0:=by cases m<;>rfl
theorem hd1 (m:List Int):List.headD (List.tail (List.take 4 m)) 0=m.getD 1 0:=by
 rcases m with _ | ⟨a,_ | ⟨b,m⟩⟩<;>rfl
theorem hd2 (m:List Int):List.headD (List.tail (List.tail (List.take 4 m))) 0=m.getD 2 0:=by
 rcases m with _ | ⟨a,_ | ⟨b,_ | ⟨c,m⟩⟩⟩<;>rfl
theorem hd3 (m:List Int):List.headD (List.tail (List.tail (List.tail (List.take 4 m)))) 0=m.getD 3 0:=by
 rcases m with _ | ⟨a,_ | ⟨b,_ | ⟨c,_ | ⟨d,m⟩⟩⟩⟩<;>rfl
theorem qnY {x f t:Int} {m:List Int} (h:m∈qAD x f t):∃ p:Int,m=[f,t,0,p]:=by
 unfold qAD at h
 rw [List.mem_append] at h
 rcases h with h | h
 ·split at h
  ·cases h
  ·exact ⟨0,by simpa using h⟩
 ·split at h
  ·exact ⟨1,by simpa using h⟩
  ·cases h
theorem qmW {b:List Int} {S:Int} {G:Nat->Bool} {f:Int} {m:List Int} (h:m∈qCS b S G f):∃ t p:Int,m=[f,t,0,p]:=by
 unfold qCS at h
 obtain ⟨t,_,ht⟩:=List.mem_flatMap.1 h
 obtain ⟨p,hp⟩:=qnY ht
 exact ⟨t,p,hp⟩
theorem qmU {b:List Int} {S:Int} {G:Nat->Bool} {m:List Int} (h:m∈qx b S G):∃ f t p:Int,m=[f,t,0,p]:=by
 unfold qx at h
 obtain ⟨f,_,hf⟩:=List.mem_flatMap.1 h
 obtain ⟨t,p,hp⟩:=qmW hf
 exact ⟨f,t,p,hp⟩
theorem qmX {b h:List Int} {S:Int} {G:Nat->Bool} {k:Nat} {m:List Int} (hm:m∈qBk b h S G k):∃ t:Int,m=[0,t,(k:Int),0]:=by
 unfold qBk at hm
 split at hm
 ·cases hm
 ·obtain ⟨t,_,ht⟩:=List.mem_map.1 hm
  exact ⟨t,ht.symm⟩
theorem qmV {b h:List Int} {S:Int} {G:Nat->Bool} {m:List Int} (hm:m∈qAS b h S G):∃ (k:Nat) (t:Int),1<=k /\ k<=7 /\ m=[0,t,(k:Int),0]:=by
 unfold qAS at hm
 obtain ⟨k,hk,h2⟩:=List.mem_flatMap.1 hm
 rw [List.mem_range'_1] at hk
 obtain ⟨t,ht⟩:=qmX h2
 exact ⟨k,t,by omega,by omega,ht⟩
end Go.Kk.Pl
namespace Go.Kk.Pl
theorem qjc (es:List (List Int×List Int)) (r v r' d:List Int):qA6 (qAI es r v) r' d=if r'=r then v else qA6 es r' d:=by
 induction es with
 | nil=>
   by_cases h:r'=r
   ·subst h;simp [qAI,qA6]
   ·have:(r==r')=false:=by simpa using fun hh=>h hh.symm
    simp [qAI,qA6,this,h]
 | cons x es ih=>
   obtain ⟨k,u⟩:=x
   by_cases hk:k=r
   ·subst hk
    by_cases h:r'=k
    ·subst h;simp [qAI,qA6]
    ·have:(k==r')=false:=by simpa using fun hh=>h hh.symm
     simp [qAI,qA6,this,h]
   ·have e1:(k==r)=false:=by simpa using hk
    by_cases hk':k=r'
    ·subst hk'
     simp [qAI,qA6,e1,hk]
    ·have e2:(k==r')=false:=by simpa using hk'
     simp only [qAI,e1,cond_false,qA6,e2,ih]
theorem qjj (es:List (List Int×List Int)) (r v r':List Int):qA7 (qAI es r v) r'=(decide (r'=r)||qA7 es r'):=by
 induction es with
 | nil=>
   by_cases h:r'=r
   ·subst h;simp [qAI,qA7]
   ·have:(r==r')=false:=by simpa using fun hh=>h hh.symm
    simp [qAI,qA7,this,h]
 | cons x es ih=>
   obtain ⟨k,u⟩:=x
   by_cases hk:k=r
   ·subst hk
    by_cases h:r'=k
    ·subst h;simp [qAI,qA7]
    ·have:(k==r')=false:=by simpa using fun hh=>h hh.symm
     simp [qAI,qA7,this,h]
   ·have e1:(k==r)=false:=by simpa using hk
    by_cases hk':k=r'
    ·subst hk'
     simp [qAI,qA7,e1]
    ·have e2:(k==r')=false:=by simpa using hk'
     simp only [qAI,e1,cond_false,qA7,e2,ih,Bool.false_or]
structure MvOK (b h:List Int) (S f t d p:Int):Prop where
 pp:p=0 \/ p=1
 mov:qA1 b h S f t d (p != 0)=true
 tr:0<=t /\ t<81
 fr:0<=f /\ f<81
 dr:0<=d /\ d<=7
 drop:d≠0->f=0 /\ p=0 /\ 0<hd_ h S d /\ at_ b t=0
theorem qmZ {b h:List Int} (hc:Clean b) {S:Int} (hS:S=0 \/ S=1) {m:List Int} (hm:m∈mvs b h S):∃ f t d p:Int,m=[f,t,d,p] /\ MvOK b h S f t d p:=by
 rw [qmY hc h hS] at hm
 unfold qQZ at hm
 rw [List.mem_append] at hm
 rcases hm with hm | hm
 ·obtain ⟨f,hf,hm⟩:=List.mem_flatMap.1 hm
  rw [List.mem_range'_1] at hf
  unfold qQb at hm
  split at hm<;>try cases hm
  obtain ⟨t,ht,hm⟩:=List.mem_flatMap.1 hm
  rw [List.mem_range'_1] at ht
  unfold rTo at hm
  split at hm<;>try cases hm
  unfold qQd at hm
  rw [List.mem_append] at hm
  rcases hm with hm | hm
  ·split at hm
   ·rename_i hmv
    rw [List.mem_singleton] at hm
    exact ⟨f,t,0,0,hm,.inl rfl,hmv,by omega,by omega,by omega,fun h=>absurd rfl h⟩
   ·cases hm
  ·split at hm
   ·rename_i hmv
    rw [List.mem_singleton] at hm
    exact ⟨f,t,0,1,hm,.inr rfl,hmv,by omega,by omega,by omega,fun h=>absurd rfl h⟩
   ·cases hm
 ·obtain ⟨k,hk,hm⟩:=List.mem_flatMap.1 hm
  rw [List.mem_range'_1] at hk
  unfold qQc at hm
  split at hm<;>try cases hm
  rename_i hh
  obtain ⟨t,ht,hm⟩:=List.mem_flatMap.1 hm
  rw [List.mem_range'_1] at ht
  unfold qQa at hm
  split at hm
  case isFalse=>cases hm
  rename_i hmv
  rw [List.mem_singleton] at hm
  refine ⟨0,t,k,0,hm,.inl rfl,hmv,by omega,by omega,by omega,fun h=>⟨rfl,rfl,hh,?_⟩⟩
  have:=hmv
  unfold qA1 qDT at this
  rw [if_pos h] at this
  simp only [Bool.and_eq_true,decide_eq_true_eq] at this
  exact this.1.2.2.2
end Go.Kk.Pl
namespace Go.Kk.Pl
theorem qd0 {x:Int} {a c:Nat} (h:qA3 x a c=true):-1<=df a c /\ df a c<=1 /\ -2<=dr a c /\ dr a c<=2 /\ (dr a c=2 \/ dr a c = -2->df a c=1 \/ df a c = -1) /\ ¬ (df a c=0 /\ dr a c=0):=by
 have h:=of_decide_eq_true h
 unfold qB2 at h
 have:upS x a c=dr a c \/ upS x a c = - dr a c:=by unfold upS;split<;>simp
 omega
theorem qMZ {x:Int} {a c:Nat} (h:qA3 x a c=true):btw a c=[]:=by
 have hs:=qd0 h
 unfold btw
 by_cases hl:q7 a c=0
 ·rw [if_pos hl]
 ·rw [if_neg hl]
  have hl:=(qLE a c).mp hl
  unfold qEP at hl
  have:mx a c<=1:=by
   unfold mx
   split<;>omega
  rw [show mx a c - 1=0 by omega]
  rfl
theorem qsn {x:Int} {a:Nat}:qA3 x a a=false:=by
 cases h:qA3 x a a with
 | false=>rfl
 | true=>exact absurd (qHF a) (qd0 h).2.2.2.2.2
theorem qr8 {x:Int} {a:Nat}:qAo x a a=false:=by
 unfold qAo
 have:=qHF a
 have:upS x a a=0:=by unfold upS;split<;>omega
 rw [decide_eq_false]
 unfold slK
 omega
theorem qaN {x:Int} {a:Nat} {t:Nat->Bool}:rch x a a t=false:=by
 unfold rch;rw [qsn,qr8];rfl
theorem qId {k c f:Nat} (hk:k<81) (hc:c<81) (h:f∈btw c k):f<81 /\ f≠k /\ f≠c /\ ∃ n:Nat,(qBG (sgn (df k f)) (sgn (dr k f)) k)[n]? = some c /\ ∀ i,(i∈btw c k↔i∈(qBG (sgn (df k f)) (sgn (dr k f)) k).take n):=by
 have hf:f∈btw k c:=qIb hc hk h
 have hl:q7 k c≠0:=by intro h0;unfold btw at hf;rw [if_pos h0] at hf;cases hf
 have:=qKM ⟨k,hk⟩ ⟨c,hc⟩
 simp only [qIh,Bool.or_eq_true,decide_eq_true_eq,Bool.and_eq_true,beq_iff_eq,Bool.not_eq_true'] at this
 obtain ⟨e1,e2,e3⟩:=this.resolve_left hl
 have hW:f∈qBG (sgn (df k c)) (sgn (dr k c)) k:=List.mem_of_mem_take (by rw [e1];exact hf)
 have hli:=(qLE k c).mp hl
 have sx:-1<=sgn (df k c) /\ sgn (df k c)<=1:=by unfold sgn;split<;>(try split)<;>omega
 have sy:-1<=sgn (dr k c) /\ sgn (dr k c)<=1:=by unfold sgn;split<;>(try split)<;>omega
 have sn:¬ (sgn (df k c)=0 /\ sgn (dr k c)=0):=by
  unfold qEP at hli
  unfold sgn
  split<;>split<;>(try split)<;>(try split)<;>omega
 have hB:=qUs ⟨((sgn (df k c)+1)*3+(sgn (dr k c)+1)).toNat,by omega⟩ ⟨k,hk⟩
 simp only at hB
 rw [show (((((sgn (df k c)+1)*3+(sgn (dr k c)+1)).toNat / 3:Nat):Int) - 1)=sgn (df k c) by omega,show (((((sgn (df k c)+1)*3+(sgn (dr k c)+1)).toNat % 3:Nat):Int) - 1)=sgn (dr k c) by omega] at hB
 have hB:=hB.resolve_left (by omega)
 unfold qN5 at hB
 rw [List.all_eq_true] at hB
 have hB:=hB f hW
 simp only [Bool.and_eq_true,decide_eq_true_eq] at hB
 obtain ⟨b1,b2,b3,b4⟩:=hB
 refine ⟨b1,?_,?_,(btw k c).length,?_,?_⟩
 ·rintro rfl
  exact b2 (by unfold q7;rw [if_pos rfl])
 ·rintro rfl
  rw [List.contains_iff_mem.mpr hf] at e3
  cases e3
 ·rw [b3,b4];exact e2
 ·intro i
  rw [b3,b4,e1]
  exact ⟨qIb hc hk,qIb hk hc⟩
theorem qUf {k c c' f:Nat} (hk:k<81) (hc:c<81) (hc':c'<81) (h:f∈btw c k) (h':f∈btw c' k) (hne:c≠c'):c∈btw c' k \/ c'∈btw c k:=by
 obtain ⟨_,_,_,n,e,m⟩:=qId hk hc h
 obtain ⟨_,_,_,n',e',m'⟩:=qId hk hc' h'
 rcases Nat.lt_trichotomy n n' with hn | hn | hn
 ·left
  rw [m',List.mem_iff_getElem?]
  exact ⟨n,by rw [List.getElem?_take,if_pos hn];exact e⟩
 ·subst hn
  rw [e] at e'
  exact absurd (Option.some.inj e') hne
 ·right
  rw [m,List.mem_iff_getElem?]
  exact ⟨n',by rw [List.getElem?_take,if_pos hn];exact e'⟩
def enm (b:List Int) (s:Int) (c:Nat):Bool:=decide (sd (b.getD c 0)=1 - s)
def atk (b:List Int) (s:Int) (k c:Nat):Bool:=enm b s c&&rch (b.getD c 0) c k (tk b)
def tk2 (b:List Int) (f t i:Nat):Bool:=decide (i=t)||(!decide (i=f)&&tk b i)
def qEA (b:List Int) (s:Int) (k f t c:Nat):Bool:=decide (c≠t)&&(enm b s c&&rch (b.getD c 0) c k (tk2 b f t))
def qAM (b:List Int) (s:Int) (k f c:Nat):Bool:=enm b s c&&(qAo (b.getD c 0) c k&&((btw c k).contains f&&(tk b f&&(decide (sd (b.getD f 0)=s)&&(btw c k).all fun i=>i==f || !tk b i))))
theorem qDD {b:List Int} {s:Int} {k f c:Nat}:qAM b s k f c=true↔enm b s c=true /\ qAo (b.getD c 0) c k=true /\ f∈btw c k /\ tk b f=true /\ sd (b.getD f 0)=s /\ ∀ i∈btw c k,i≠f->tk b i=false:=by
 unfold qAM
 simp only [Bool.and_eq_true,decide_eq_true_eq,List.all_eq_true,Bool.or_eq_true,beq_iff_eq,Bool.not_eq_true',List.contains_iff_mem]
 constructor
 ·rintro ⟨h1,h2,h3,h4,h5,h6⟩
  exact ⟨h1,h2,h3,h4,h5,fun i hi hn=>(h6 i hi).resolve_left hn⟩
 ·rintro ⟨h1,h2,h3,h4,h5,h6⟩
  exact ⟨h1,h2,h3,h4,h5,fun i hi=>by by_cases hn:i=f;exact .inl hn;exact .inr (h6 i hi hn)⟩
theorem qOK {b:List Int} {s:Int} (hs:s=0 \/ s=1) {c:Nat} (h:enm b s c=true):tk b c=true:=by
 have h:=of_decide_eq_true h
 unfold tk
 rw [decide_eq_true_eq]
 intro h0
 rw [h0,qJW] at h
 omega
theorem qZu {b:List Int} {s:Int} (hs:s=0 \/ s=1) {k f c c':Nat} (hk:k<81) (hc:c<81) (hc':c'<81) (h:qAM b s k f c=true) (h':qAM b s k f c'=true):c=c':=by
 apply Classical.byContradiction
 intro hne
 rw [qDD] at h h'
 rcases qUf hk hc hc' h.2.2.1 h'.2.2.1 hne with hm | hm
 ·have:=h'.2.2.2.2.2 c hm (fun e=>(qId hk hc h.2.2.1).2.2.1 e.symm)
  rw [qOK hs h.1] at this
  cases this
 ·have:=h.2.2.2.2.2 c' hm (fun e=>(qId hk hc' h'.2.2.1).2.2.1 e.symm)
  rw [qOK hs h'.1] at this
  cases this
theorem qZv {b:List Int} {s:Int} {k f f' c:Nat} (h:qAM b s k f c=true) (h':qAM b s k f' c=true):f=f':=by
 apply Classical.byContradiction
 intro hne
 rw [qDD] at h h'
 have:=h'.2.2.2.2.2 f h.2.2.1 hne
 rw [h.2.2.2.1] at this
 cases this
theorem qBz {x:Int} {a c:Nat} {t:Nat->Bool}:rch x a c t=true↔qA3 x a c=true \/ (qAo x a c=true /\ ∀ i∈btw a c,t i=false):=by
 unfold rch
 rw [Bool.or_eq_true,Bool.and_eq_true,qG6]
theorem qfj {b:List Int} {s:Int} {k f t:Nat} (hf:tk b f=true->sd (b.getD f 0)=s):
  (∀ c,c<81->qEA b s k f t c=false)↔(∀ c,c<81->atk b s k c=true->t=c \/ t∈btw c k) /\ (∀ c,c<81->qAM b s k f c=true->t=c \/ t∈btw c k):=by
 constructor
 ·intro h
  refine ⟨fun c hc ha=>?_,fun c hc hp=>?_⟩
  ·apply Classical.byContradiction
   intro hn
   simp only [not_or] at hn
   have:=h c hc
   rw [show qEA b s k f t c=true from ?_] at this
   ·cases this
   ·simp only [atk,Bool.and_eq_true] at ha
    simp only [qEA,Bool.and_eq_true,decide_eq_true_eq]
    refine ⟨fun e=>hn.1 e.symm,ha.1,?_⟩
    rw [qBz] at ha ⊢
    refine ha.2.imp id fun hh=>⟨hh.1,fun i hi=>?_⟩
    unfold tk2
    rw [hh.2 i hi,decide_eq_false (p:=i=t) (fun e=>hn.2 (e ▸ hi))]
    simp
  ·apply Classical.byContradiction
   intro hn
   simp only [not_or] at hn
   have:=h c hc
   rw [show qEA b s k f t c=true from ?_] at this
   ·cases this
   ·rw [qDD] at hp
    simp only [qEA,Bool.and_eq_true,decide_eq_true_eq]
    refine ⟨fun e=>hn.1 e.symm,hp.1,?_⟩
    rw [qBz]
    refine .inr ⟨hp.2.1,fun i hi=>?_⟩
    unfold tk2
    rw [decide_eq_false (p:=i=t) (fun e=>hn.2 (e ▸ hi))]
    by_cases hif:i=f
    ·simp [hif]
    ·rw [hp.2.2.2.2.2 i hi hif];simp
 ·rintro ⟨h1,h2⟩ c hc
  cases ha:qEA b s k f t c with
  | false=>rfl
  | true=>
    exfalso
    simp only [qEA,Bool.and_eq_true,decide_eq_true_eq] at ha
    obtain ⟨hct,he,hr⟩:=ha
    have tt:tk2 b f t t=true:=by unfold tk2;simp
    have out:t ∉ btw c k:=by
     intro hm
     rw [qBz] at hr
     rcases hr with hr | hr
     ·rw [qMZ hr] at hm;cases hm
     ·rw [hr.2 t hm] at tt;cases tt
    cases hak:atk b s k c with
    | true=>exact (h1 c hc hak).elim (fun e=>hct e.symm) out
    | false=>
      unfold atk at hak
      rw [he,Bool.true_and] at hak
      have hn:¬ (qA3 (b.getD c 0) c k=true \/ (qAo (b.getD c 0) c k=true /\ ∀ i∈btw c k,tk b i=false)):=by
       rw [<- qBz,hak];simp
      simp only [not_or,not_and] at hn
      rw [qBz] at hr
      have hr:=hr.resolve_left hn.1
      have two:∀ i∈btw c k,i≠f->tk b i=false:=by
       intro i hi hif
       have:=hr.2 i hi
       unfold tk2 at this
       rw [decide_eq_false hif] at this
       simpa using (Bool.or_eq_false_iff.mp this).2
      have hmf:f∈btw c k /\ tk b f=true:=by
       apply Classical.byContradiction
       intro hh
       apply hn.2 hr.1
       intro i hi
       by_cases hif:i=f
       ·subst hif
        cases htk:tk b i with
        | false=>rfl
        | true=>exact absurd ⟨hi,htk⟩ hh
       ·exact two i hi hif
      exact (h2 c hc (qDD.mpr ⟨he,hr.1,hmf.1,hmf.2,hf hmf.2,two⟩)).elim (fun e=>hct e.symm) out
theorem qtd {b:List Int} {s:Int} (hs:s=0 \/ s=1) {k c c' t:Nat} (hk:k<81) (hc:c<81) (hc':c'<81) (h:atk b s k c=true) (h':atk b s k c'=true) (hne:c≠c')
  (ht:t=c \/ t∈btw c k) (ht':t=c' \/ t∈btw c' k):False:=by
 have no:∀ {c c':Nat},atk b s k c=true->atk b s k c'=true->c∈btw c' k->False:=by
  intro c c' h h' hm
  simp only [atk,Bool.and_eq_true] at h h'
  rcases qBz.mp h'.2 with hr | hr
  ·rw [qMZ hr] at hm;cases hm
  ·have:=hr.2 c hm
   rw [qOK hs h.1] at this;cases this
 rcases ht with rfl | ht
 ·rcases ht' with rfl | ht'
  ·exact hne rfl
  ·exact no h h' ht'
 ·rcases ht' with rfl | ht'
  ·exact no h' h ht
  ·rcases qUf hk hc hc' ht ht' hne with hm | hm
   ·exact no h h' hm
   ·exact no h' h hm
end Go.Kk.Pl
namespace Go.Kk.Pl
theorem qhz {f g:Nat->Bool} (h:∀ i,i<81->f i=g i):qAy f=qAy g:=by
 unfold qAy
 apply List.countP_congr
 intro i hi
 rw [h i (List.mem_range.mp hi)]
theorem qh3:∀ f:Fin 81,qAy (only ((f.val:Nat):Int))=1:=by decide +kernel
theorem qGz {g:Nat->Bool}:qAy g=1 ↔ ∃ f,f<81 /\ ∀ i,i<81->(g i=true↔i=f):=by
 constructor
 ·intro h
  unfold qAy at h
  rw [List.countP_eq_length_filter] at h
  obtain ⟨f,hf⟩:=List.length_eq_one_iff.mp h
  have hm:∀ i,i∈(List.range 81).filter g↔i=f:=by rw [hf];simp
  refine ⟨f,?_,fun i hi=>?_⟩
  ·have:=(hm f).mpr rfl
   rw [List.mem_filter,List.mem_range] at this
   exact this.1
  ·rw [<- hm i,List.mem_filter,List.mem_range]
   exact ⟨fun h=>⟨hi,h⟩,fun h=>h.2⟩
 ·rintro ⟨f,hf,h⟩
  rw [<- qh3 ⟨f,hf⟩]
  apply qhz
  intro i hi
  unfold only
  rw [Bool.eq_iff_iff,h i hi,decide_eq_true_eq]
  simp only
  omega
theorem qOT {g:Nat->Bool} {f:Nat} (hf:f<81) (h:∀ i,i<81->(g i=true↔i=f)):fst g=f:=by
 apply qKg hf ((h f hf).mpr rfl)
 intro i hi
 cases hg:g i with
 | false=>rfl
 | true=>exact absurd ((h i (by omega)).mp hg) (by omega)
def qD6 (k c:Nat) (i:Nat):Bool:=(btw c k).contains i||only c i
def qEW (b:List Int) (s:Int) (k c:Nat):Option Nat:=(List.range 81).find? fun f=>qAM b s k f c
theorem qoF {b:List Int} {s:Int} {k c f:Nat} (h:qAM b s k f c=true) (hf:f<81):qEW b s k c=some f:=by
 unfold qEW
 cases hp:(List.range 81).find? fun f=>qAM b s k f c with
 | none=>
   rw [List.find?_eq_none] at hp
   exact absurd h (hp f (List.mem_range.mpr hf))
 | some f'=>
   have:=List.find?_some hp
   rw [qZv this h]
theorem qZt {b:List Int} {s:Int} {k c:Nat} (h:∀ f,f<81->qAM b s k f c=false):qEW b s k c=none:=by
 unfold qEW
 rw [List.find?_eq_none]
 intro f hf
 rw [h f (List.mem_range.mp hf)]
 simp
def qBs (b:List Int) (s:Int) (k:Nat) (P:Nat->Bool) (es:List (List Int×List Int)):Prop:=
 ∀ f:Nat,f<81->(qA7 es [(f:Int)]=true ↔ ∃ c,c<81 /\ P c=true /\ qAM b s k f c=true) /\ ∀ c,c<81->P c=true->qAM b s k f c=true->qA6 es [(f:Int)] [0,0]=prS (qD6 k c)
theorem qoI {b:List Int} (hcl:Clean b) (h:List Int) (S:Int) {s:Int} (hs:s=0 \/ s=1) {k:Nat} (hk:k<81) (x2:Nat) (x3 x4:Int) (x14:Nat) (x15:List Int) (N:Nat) (L:List Int) {i:Nat} (hi:i<L.length) (hl:L.length<=1000) {c:Nat} (hc:c<81) (hq:L[i]=(c:Int)) (he:enm b s c=true)
  (es:List (List Int×List Int)) (R:Int->Int->Nat->Int->Int->Nat->Int->Int->List Int->List Int->Int->List (List Int)->List (List Int)->List (List Int×List Int)->Nat->List Int->Nat->List Int->Option (Int×Int×Nat×Int×Int×List Int×List Int×Int×List (List Int)×List (List Int)×List (List Int×List Int)×Nat×List Int)):
  qFo R s k x2 x3 x4 L.length L.length i b h S (qR b) (qV b) es x14 x15 N L =
   R s k x2 x3 x4 L.length L.length ((i+1:Nat):Int) b h S (qR b) (qV b) (match qEW b s k c with | none=>es | some f=>qAI es [(f:Int)] (prS (qD6 k c))) x14 x15 N L:=by
 unfold qFo
 have hget:L.getD i 0=L[i]:=qFm hi
 rw [qi (by omega),qn (by omega) (by omega),tn,hget,hq,qZ3 hc hk,qA]
 simp only
 rw [qJm hcl,qA]
 simp only
 rw [qEq,qA]
 simp only
 rw [qOD,qA,w_s (n:=(i:Int)+1) (by omega) (by omega)]
 have inm:∀ f,f<81->qAM b s k f c=true->∀ i,i<81->(((btw c k).contains i&&tk b i)=true↔i=f):=by
  intro f _ hp i _
  rw [qDD] at hp
  rw [Bool.and_eq_true,List.contains_iff_mem]
  constructor
  ·rintro ⟨h1,h2⟩
   apply Classical.byContradiction
   intro hn
   rw [hp.2.2.2.2.2 i h1 hn] at h2;cases h2
  ·rintro rfl;exact ⟨hp.2.2.1,hp.2.2.2.1⟩
 by_cases h1:((qAy fun i=>(btw c k).contains i&&tk b i:Nat):Int)=1
 ·rw [qAf h1]
  obtain ⟨f,hf,hm⟩:=qGz.mp (by omega:(qAy fun i=>(btw c k).contains i&&tk b i)=1)
  have only_f:∀ f',f'<81->qAM b s k f' c=true->f'=f:=fun f' hf' hp=>(hm f' hf').mp ((inm f' hf' hp f' hf').mpr rfl)
  have none':qAM b s k f c=false->qEW b s k c=none:=by
   intro h0
   apply qZt
   intro f' hf'
   cases hp:qAM b s k f' c with
   | false=>rfl
   | true=>rw [only_f f' hf' hp,h0] at hp;cases hp
  have hmf:=(hm f hf).mpr rfl
  rw [Bool.and_eq_true,List.contains_iff_mem] at hmf
  rw [qQT,qA]
  simp only
  rw [qEq,qA]
  simp only
  rw [qIm,qA]
  by_cases hsd:sd (b.getD f 0)=s
  ·have hE0:isE (fun i=>((btw c k).contains i&&tk b i)&&sdP b s i)=false:=by
    cases hE:isE (fun i=>((btw c k).contains i&&tk b i)&&sdP b s i) with
    | false=>rfl
    | true=>
      have:=qCm.mp hE f hf
      rw [(hm f hf).mpr rfl] at this
      unfold sdP sds at this
      rw [decide_eq_true hs,decide_eq_true hsd] at this
      cases this
   rw [hE0,b_f]
   rw [qOP,qA,qCy,qA,qBJ (by omega),tn]
   rw [qOT hf hm,qA]
   simp only
   rw [qJw,qA]
   simp only
   rw [qLm _ hc,qA]
   simp only
   rw [qEM,qA]
   have hh:∀ g:Nat->Bool,has g (k:Int)=g k:=by
    intro g;unfold has;rw [decide_eq_true (by omega),decide_eq_true (by omega),tn];rfl
   rw [hh]
   cases hr1:rch (b.getD c 0) c k (fun i=>tk b i && !only f i) with
   | false=>
     rw [Bool.not_false,b_t,none' ?_]
     ·rfl
     ·cases hp:qAM b s k f c with
      | false=>rfl
      | true=>
        rw [qDD] at hp
        rw [<- hr1,qBz.mpr (.inr ⟨hp.2.1,?_⟩)]
        intro i hi
        by_cases hif:i=f
        ·subst hif;unfold only;simp
        ·rw [hp.2.2.2.2.2 i hi hif];rfl
   | true =>
     rw [Bool.not_true,b_f,qA,qA]
     simp only
     rw [qLm _ hc,qA]
     simp only
     rw [qEM,qA,hh]
     cases hr2:rch (b.getD c 0) c k (tk b) with
     | true=>
       rw [b_t,none' ?_]
       ·rfl
       ·cases hp:qAM b s k f c with
        | false=>rfl
        | true=>
          rw [qDD] at hp
          rcases qBz.mp hr2 with hr | hr
          ·rw [qMZ hr] at hmf;cases hmf.1
          ·rw [hr.2 f hmf.1] at hmf;cases hmf.2
     | false=>
       have hn:¬ (qA3 (b.getD c 0) c k=true \/ (qAo (b.getD c 0) c k=true /\ ∀ i∈btw c k,tk b i=false)):=by
        rw [<- qBz,hr2];simp
       simp only [not_or] at hn
       have hp:qAM b s k f c=true:=by
        rw [qDD]
        refine ⟨he,((qBz.mp hr1).resolve_left hn.1).1,hmf.1,hmf.2,hsd,fun i hi hif=>?_⟩
        cases htk:tk b i with
        | false=>rfl
        | true=>
          exact absurd ((hm i (qIc hc hk hi)).mp (by rw [Bool.and_eq_true,List.contains_iff_mem];exact ⟨hi,htk⟩)) hif
       rw [b_f,qGc,qA,qoF hp hf]
       rfl
  ·have hE0:isE (fun i=>((btw c k).contains i&&tk b i)&&sdP b s i)=true:=by
    rw [qCm]
    intro i hi
    cases hx:((btw c k).contains i&&tk b i) with
    | false=>rfl
    | true=>
      rw [(hm i hi).mp hx]
      unfold sdP sds
      rw [decide_eq_false hsd];simp
   rw [hE0,b_t,none' ?_]
   ·rfl
   ·cases hp:qAM b s k f c with
    | false=>rfl
    | true=>exact absurd (qDD.mp hp).2.2.2.2.1 hsd
 ·rw [qAR h1,qZt ?_]
  ·rfl
  ·intro f hf
   cases hp:qAM b s k f c with
   | false=>rfl
   | true=>
     have:=qGz.mpr ⟨f,hf,inm f hf hp⟩
     omega
theorem qoG {b:List Int} {s:Int} (hs:s=0 \/ s=1) {k:Nat} (hk:k<81) {P:Nat->Bool} {es:List (List Int×List Int)} (hP:qBs b s k P es) {c:Nat} (hc:c<81):
  qBs b s k (fun i=>P i||decide (i=c)) (match qEW b s k c with | none=>es | some f=>qAI es [(f:Int)] (prS (qD6 k c))):=by
 cases hp:qEW b s k c with
 | none=>
   unfold qEW at hp
   rw [List.find?_eq_none] at hp
   intro f hf
   have hno:=hp f (List.mem_range.mpr hf)
   obtain ⟨h1,h2⟩:=hP f hf
   refine ⟨?_,?_⟩
   ·rw [h1]
    constructor
    ·rintro ⟨c',a,a',a''⟩;exact ⟨c',a,by simp [a'],a''⟩
    ·rintro ⟨c',a,a',a''⟩
     rw [Bool.or_eq_true,decide_eq_true_eq] at a'
     rcases a' with a' | rfl
     ·exact ⟨c',a,a',a''⟩
     ·exact absurd a'' hno
   ·intro c' a a' a''
    rw [Bool.or_eq_true,decide_eq_true_eq] at a'
    rcases a' with a' | rfl
    ·exact h2 c' a a' a''
    ·exact absurd a'' hno
 | some g=>
   have hg:=List.find?_some (show (List.range 81).find? (fun f=>qAM b s k f c)=some g from hp)
   have hg':g<81:=List.mem_range.mp (List.mem_of_find?_eq_some (show (List.range 81).find? (fun f=>qAM b s k f c)=some g from hp))
   intro f hf
   obtain ⟨h1,h2⟩:=hP f hf
   simp only
   rw [qjj,qjc]
   by_cases hfg:f=g
   ·subst hfg
    rw [decide_eq_true rfl,if_pos rfl]
    refine ⟨⟨fun _=>⟨c,hc,by simp,hg⟩,fun _=>rfl⟩,fun c' a _ a''=>?_⟩
    rw [qZu hs hk hc a hg a'']
   ·have hne:¬ ([(f:Int)]=[(g:Int)]):=by
     intro e
     have:=List.cons.inj e
     omega
    rw [decide_eq_false hne,if_neg hne,Bool.false_or]
    have hno:¬ qAM b s k f c=true:=fun hp'=>hfg (qZv hp' hg)
    refine ⟨?_,?_⟩
    ·rw [h1]
     constructor
     ·rintro ⟨c',a,a',a''⟩;exact ⟨c',a,by simp [a'],a''⟩
     ·rintro ⟨c',a,a',a''⟩
      rw [Bool.or_eq_true,decide_eq_true_eq] at a'
      rcases a' with a' | rfl
      ·exact ⟨c',a,a',a''⟩
      ·exact absurd a'' hno
    ·intro c' a a' a''
     rw [Bool.or_eq_true,decide_eq_true_eq] at a'
     rcases a' with a' | rfl
     ·exact h2 c' a a' a''
     ·exact absurd a'' hno
theorem qJG {b:List Int} {s:Int} {k:Nat} {P Q:Nat->Bool} {es:List (List Int×List Int)} (h:∀ i,i<81->P i=Q i) (hP:qBs b s k P es):qBs b s k Q es:=by
 intro f hf
 obtain ⟨h1,h2⟩:=hP f hf
 refine ⟨?_,fun c hc hq=>h2 c hc (by rw [h c hc];exact hq)⟩
 rw [h1]
 constructor
 ·rintro ⟨c,a,a',a''⟩;exact ⟨c,a,by rw [<- h c a];exact a',a''⟩
 ·rintro ⟨c,a,a',a''⟩;exact ⟨c,a,by rw [h c a];exact a',a''⟩
theorem qoH {b:List Int} (hcl:Clean b) (h:List Int) (S:Int) {s:Int} (hs:s=0 \/ s=1) {k:Nat} (hk:k<81) (x2:Nat) (x3 x4:Int) (x14:Nat) (x15:List Int) (N:Nat) (L:List Int) (hl:L.length<=1000) (hL:∀ q∈L,0<=q /\ q<81 /\ enm b s q.toNat=true):∀ (n i:Nat),i+n=L.length->∀ (P:Nat->Bool) (es:List (List Int×List Int)),qBs b s k P es->
  ∃ es',(∀ F,qEt (F+n+1) s k x2 x3 x4 L.length L.length i b h S (qR b) (qV b) es x14 x15 N L=some (s,(k:Int),x2,x3,x4,b,h,S,qR b,qV b,es',x14,x15)) /\ qBs b s k (fun c=>P c||(L.drop i).contains (c:Int)) es':=by
 intro n
 induction n with
 | zero=>
   intro i hi P es hP
   refine ⟨es,fun F=>?_,?_⟩
   ·show qFo (qEt (F+0)) _ _ _ _ _ _ _ _ _ _ _ _ _ _ _ _ _ _=_
    unfold qFo
    rw [qY (by omega)]
   ·rw [List.drop_eq_nil_of_le (by omega)]
    exact qJG (fun i _=>by simp) hP
 | succ n ih=>
   intro i hi P es hP
   have hil:i<L.length:=by omega
   obtain ⟨q0,q1,q2⟩:=hL L[i] (List.getElem_mem hil)
   obtain ⟨c,hc⟩:∃ c:Nat,L[i]=c:=⟨L[i].toNat,by omega⟩
   rw [hc] at q0 q1 q2
   obtain ⟨es',h1,h2⟩:=ih (i+1) (by omega) _ _ (qoG hs hk hP (c:=c) (by omega))
   refine ⟨es',fun F=>?_,qJG (fun j _=>?_) h2⟩
   ·show qFo (qEt (F+n+1)) _ _ _ _ _ _ _ _ _ _ _ _ _ _ _ _ _ _=_
    rw [qoI hcl h S hs hk x2 x3 x4 x14 x15 N L hil hl (by omega) hc q2]
    exact h1 F
   ·rw [List.drop_eq_getElem_cons hil,List.contains_cons,hc,Bool.or_assoc]
    congr 2
    rw [Bool.eq_iff_iff,decide_eq_true_eq,beq_iff_eq]
    omega
def qAk:List Int:=[2,6,7,14,15]
theorem qkb {b:List Int} (hcl:Clean b) (h:List Int) (S:Int) {s:Int} (hs:s=0 \/ s=1) {k:Nat} (hk:k<81):∀ (n i:Nat),i+n=5->∀ (P:Nat->Bool) (es:List (List Int×List Int)),qBs b s k P es->
  ∃ es',(∀ F,qEs (F+n+1) s k 5 5 i b h S (qR b) (qV b) es 5 qAk=some (b,h,S,qR b,qV b,es')) /\ qBs b s k (fun c=>P c||(qAk.drop i).any fun x=>pcs b (pc (1 - s) x) c) es':=by
 intro n
 induction n with
 | zero=>
   intro i hi P es hP
   refine ⟨es,fun F=>?_,?_⟩
   ·show qGm (qEs (F+0)) _ _ _ _ _ _ _ _ _ _ _ _ _=_
    unfold qGm
    rw [qY (by omega)]
   ·rw [List.drop_eq_nil_of_le (by show 5<=i;omega)]
    exact qJG (fun i _=>by simp) hP
 | succ n ih=>
   intro i hi P es hP
   have hil:i<qAk.length:=by show i<5;omega
   obtain ⟨x,hx,hget,hdr⟩:∃ x,(x=2 \/ x=6 \/ x=7 \/ x=14 \/ x=15) /\ qAk.getD i 0=x /\ qAk.drop i=x :: qAk.drop (i+1):=by
    have:∀ j:Fin 5,(qAk.getD j.val 0=2 \/ qAk.getD j.val 0=6 \/ qAk.getD j.val 0=7 \/ qAk.getD j.val 0=14 \/ qAk.getD j.val 0=15) /\ qAk.drop j.val=qAk.getD j.val 0 :: qAk.drop (j.val+1):=by decide
    have:=this ⟨i,hil⟩
    exact ⟨qAk.getD i 0,this.1,rfl,this.2⟩
   obtain ⟨es1,h1,h2⟩:=qoH hcl h S hs hk 5 5 i 5 qAk (sq (pcs b (pc (1 - s) x))).length (sq (pcs b (pc (1 - s) x))) (by have:=qEh (pcs b (pc (1 - s) x));omega) (by
    intro q hq
    obtain ⟨a,a',a''⟩:=qGW hq
    refine ⟨a,a',?_⟩
    have:=of_decide_eq_true a''
    unfold enm
    rw [this.2,(qD0 (s:=1 - s) (by omega) (k:=x) (by omega) (by omega) (by omega)).1]
    simp) (sq (pcs b (pc (1 - s) x))).length 0 (by omega) P es hP
   obtain ⟨es',h3,h4⟩:=ih (i+1) (by omega) _ _ h2
   obtain ⟨g,hg⟩:=qk (sq (pcs b (pc (1 - s) x))).length (by have:=qEh (pcs b (pc (1 - s) x));omega)
   refine ⟨es',fun F=>?_,qJG (fun j hj=>?_) h4⟩
   ·show qGm (qEs (F+n+1)) _ _ _ _ _ _ _ _ _ _ _ _ _=_
    unfold qGm
    rw [qi (by omega),qn (by omega) (by omega),tn,hget,w_s (n:=1 - s) (by omega) (by omega),qGC,qA]
    simp only
    rw [qJe,qA]
    simp only
    have:=h1 g
    rw [<- hg] at this
    rw [show qEt qB s k 5 5 i (sq (pcs b (pc (1 - s) x))).length (Int.ofNat (sq (pcs b (pc (1 - s) x))).length) 0 b h S (qR b) (qV b) es 5 qAk (sq (pcs b (pc (1 - s) x))).length (sq (pcs b (pc (1 - s) x)))=_ from this,qA]
    simp only
    rw [w_s (n:=(i:Int)+1) (by omega) (by omega)]
    exact h3 F
   ·rw [hdr,List.any_cons,List.drop_zero,<- Bool.or_assoc]
    congr 2
    cases hp:pcs b (pc (1 - s) x) j with
    | true=>rw [List.contains_iff_mem.mpr (qYY hj hp)]
    | false=>
      cases hcn:(sq (pcs b (pc (1 - s) x))).contains (j:Int) with
      | false=>rfl
      | true=>
        have:=(qGW (List.contains_iff_mem.mp hcn)).2.2
        rw [tn,hp] at this
        cases this
theorem qr7 {b:List Int} {s:Int} (_hs:s=0 \/ s=1) {c k:Nat} (he:enm b s c=true) (h:qAo (b.getD c 0) c k=true):(qAk.any fun x=>pcs b (pc (1 - s) x) c)=true:=by
 have he:=of_decide_eq_true he
 have h:=of_decide_eq_true h
 have hk:kd (b.getD c 0)=2 \/ kd (b.getD c 0)=6 \/ kd (b.getD c 0)=7 \/ kd (b.getD c 0)=14 \/ kd (b.getD c 0)=15:=by
  unfold slK at h;omega
 have hx:=qQO (x:=b.getD c 0) (by omega)
 rw [List.any_eq_true]
 refine ⟨kd (b.getD c 0),?_,?_⟩
 ·unfold qAk
  rcases hk with h | h | h | h | h<;>rw [h]<;>simp
 ·unfold pcs
  rw [decide_eq_true_eq,<- he,<- hx]
  refine ⟨fun h0=>?_,rfl⟩
  rw [h0,qFE] at hk
  omega
theorem qoK {b:List Int} (hcl:Clean b) (h:List Int) (S:Int) {s:Int} (hs:s=0 \/ s=1):∃ es,qGk s b h S (qR b) (qV b)=some es /\
  (kg b s<0->es=[]) /\ (0<=kg b s->qBs b s (kg b s).toNat (fun c=>enm b s c&&(qAk.any fun x=>pcs b (pc (1 - s) x) c)) es):=by
 have hr:=qV2 (pcs b (pc s 8))
 unfold qGk
 rw [qO9,show fst (pcs b (pc s 8))=kg b s from rfl,qA]
 by_cases hk:kg b s<0
 ·rw [qi hk]
  exact ⟨[],rfl,fun _=>rfl,fun h=>by omega⟩
 ·rw [qY hk]
  have hk1:kg b s<81:=hr.2
  obtain ⟨k,hkk⟩:∃ k:Nat,kg b s=k:=⟨(kg b s).toNat,by omega⟩
  rw [hkk]
  have h0:qBs b s k (fun _=>false) []:=by
   intro f hf
   exact ⟨⟨fun h=>(by cases h),fun ⟨_,_,h,_⟩=>(by cases h)⟩,fun _ _ h=>(by cases h)⟩
  obtain ⟨es,h1,h2⟩:=qkb hcl h S hs (k:=k) (by omega) 5 0 rfl _ [] h0
  obtain ⟨g,hg⟩:=qk 5 (by omega)
  have:=h1 g
  rw [<- hg] at this
  refine ⟨es,?_,fun h=>by omega,fun _=>?_⟩
  ·rw [show qEs qB s k 5 5 0 b h S (qR b) (qV b) [] 5 [2,6,7,14,15]=_ from this,qA]
  ·rw [tn]
   refine qJG (fun i _=>?_) h2
   rw [List.drop_zero,Bool.false_or]
   cases ha:(qAk.any fun x=>pcs b (pc (1 - s) x) i) with
   | false=>simp
   | true=>
     rw [List.any_eq_true] at ha
     obtain ⟨x,hx,hp⟩:=ha
     have:=of_decide_eq_true hp
     unfold qAk at hx
     have hx':x=2 \/ x=6 \/ x=7 \/ x=14 \/ x=15:=by simpa using hx
     unfold enm
     rw [this.2,(qD0 (s:=1 - s) (by omega) (k:=x) (by omega) (by omega) (by omega)).1]
     simp
end Go.Kk.Pl
namespace Go.Kk.Pl
def laid (b:List Int) (s f d:Int) (p:Bool):Int:=if d≠0 then 16*s+d else if p=true then 16*s+up_ (kd (at_ b f)) else at_ b f
def was (b:List Int) (s f d:Int):Int:=if d≠0 then 16*s+d else at_ b f
def mb (b:List Int) (s f t d:Int) (p:Bool):List Int:=if d≠0 then put b t (laid b s f d p) else put (put b f 0) t (laid b s f d p)
def mh (b h:List Int) (s t d:Int):List Int:=if d≠0 then qz h s d (-1) else if at_ b t=0 then h else qz h s (rw_ (kd (at_ b t))) 1
def qHd (K:Int) (b h:List Int) (s f t d:Int) (p:Bool):Int:=qKv (if d≠0 then qCQ (qFG K h s d (-1)) b t (laid b s f d p) else
 if at_ b t=0 then qCQ (qCQ K b f 0) (put b f 0) t (laid b s f d p) else qFG (qCQ (qCQ K b f 0) (put b f 0) t (laid b s f d p)) h s (rw_ (kd (at_ b t))) 1)
theorem qIR {k:Int} (h:up_ k≠0):1<=up_ k /\ up_ k<=15 /\ up_ k≠13:=by
 unfold up_ at h ⊢
 split
 ·omega
 ·rename_i h2;rw [if_neg h2] at h;exact absurd rfl h
end Go.Kk.Pl
namespace Go.Kk.Pl
def kof (b h:List Int) (s:Int):Int:=(qEN b h s).getD 0
theorem qkd (b h:List Int) (s:Int):qEN b h s=some (kof b h s):=by
 obtain ⟨k,hk,_⟩:=qkU b h s
 unfold kof;rw [hk];rfl
end Go.Kk.Pl
namespace Go.Kk.Pl
def dl (x k:Int):Int:=if rw_ (kd x)=k then 1 else 0
theorem qU4 (x:Int) (l:List Int) (k:Int):(cnt (x :: l) k:Int)=cnt l k+dl x k:=by
 unfold cnt dl
 rw [List.countP_cons]
 by_cases h:rw_ (kd x)=k
 ·simp [h]
 ·have:(rw_ (kd x)==k)=false:=by simpa using h
  simp [h]
theorem qh4 (x k:Int):∀ (l:List Int) (i:Nat),i<l.length->(cnt (l.set i x) k:Int)+dl (l.getD i 0) k=cnt l k+dl x k:=by
 intro l
 induction l with
 | nil=>intro i hi;simp at hi
 | cons y l ih=>
   intro i hi
   cases i with
   | zero=>
     simp only [List.set_cons_zero,qU4,List.getD_cons_zero]
     omega
   | succ i=>
     have:=ih i (by simpa using hi)
     simp only [List.set_cons_succ,qU4,List.getD_cons_succ]
     omega
theorem qj4 (x:Int):kd (if kd x=0 then 0 else x)=kd x:=by
 split
 ·rename_i h;rw [h];exact qFE
 ·rfl
theorem qOB {b:List Int} (hl:b.length=81) {q:Int} (hq:0<=q /\ q<81) (x k:Int):(cnt (put b q x) k:Int)+dl (at_ b q) k=cnt b k+dl x k:=by
 unfold put at_
 rw [if_pos hq,if_pos hq]
 have:=qh4 (if kd x=0 then 0 else x) k b q.toNat (by omega)
 have e:dl (if kd x=0 then 0 else x) k=dl x k:=by unfold dl;rw [qj4]
 rw [e] at this
 exact this
theorem qOI {k:Int} (h:1<=k):dl 0 k=0:=by
 unfold dl
 rw [if_neg]
 rw [qFE]
 unfold rw_
 rw [if_pos (by omega)]
 omega
theorem qFk {n:Int} (h1:-128<=n) (h2:n<=127):IntKind.wrap .i8 n=n:=qA9 h1 h2
theorem qty (n:Int):-128<=IntKind.wrap .i8 n /\ IntKind.wrap .i8 n<=127:=by
 simp [IntKind.wrap,IntKind.signed,IntKind.bits]
 omega
theorem qOn (h:List Int) (s k d:Int):(qz h s k d).length=h.length:=by simp [qz]
theorem qVt {h:List Int} (hf:qAV h) (s k d:Int):qAV (qz h s k d):=by
 intro i
 unfold qz
 by_cases e:s.toNat*8+k.toNat=i
 ·by_cases hi:i<h.length
  ·subst e
   rw [List.getD_eq_getElem?_getD,List.getElem?_set_self hi]
   exact qty _
  ·rw [List.getD_eq_getElem?_getD,List.getElem?_eq_none (by simpa using hi)]
   simp
 ·rw [List.getD_eq_getElem?_getD,List.getElem?_set_ne e,<- List.getD_eq_getElem?_getD]
  exact hf i
theorem qFC {h:List Int} (hl:h.length=16) {s k:Int} (hs:s=0 \/ s=1) (k0:0<=k) (k1:k<8) (d:Int) {s' k':Int} (hs':s'=0 \/ s'=1) (k0':0<=k') (k1':k'<8):
  hd_ (qz h s k d) s' k'=if s'=s /\ k'=k then IntKind.wrap .i8 (hd_ h s k+d) else hd_ h s' k':=by
 by_cases e:s'=s /\ k'=k
 ·obtain ⟨rfl,rfl⟩:=e
  rw [if_pos ⟨rfl,rfl⟩]
  unfold qz
  rw [show hd_ (h.set (s'.toNat*8+k'.toNat) (IntKind.wrap .i8 (hd_ h s' k'+d))) s' k'=(h.set (s'.toNat*8+k'.toNat) (IntKind.wrap .i8 (hd_ h s' k'+d))).getD (s'.toNat*8+k'.toNat) 0 from rfl,
   List.getD_eq_getElem?_getD,List.getElem?_set_self (by rcases hs' with rfl | rfl<;>simp<;>omega)]
  rfl
 ·rw [if_neg e]
  unfold qz hd_
  rw [List.getD_eq_getElem?_getD,List.getElem?_set_ne (by rcases hs with rfl | rfl<;>rcases hs' with rfl | rfl<;>simp<;>omega),<- List.getD_eq_getElem?_getD]
theorem qG4 {h:List Int} (hf:qAV h) (s k:Int):-128<=hd_ h s k /\ hd_ h s k<=127:=hf _
theorem qqy {k:Int} (h1:1<=k) (h2:k<8):rw_ k=k:=by
 unfold rw_
 rw [if_neg (by omega),if_neg (by omega)]
theorem qqz {k:Int} (h:up_ k≠0):rw_ (up_ k)=rw_ k:=by
 unfold up_ at h ⊢
 split
 ·unfold rw_
  rw [if_neg (by omega),if_pos (by omega),if_neg (by omega),if_neg (by omega)]
  omega
 ·rename_i h2;rw [if_neg h2] at h;exact absurd rfl h
theorem qoE {b h:List Int} {s:Int} (hS:Sound b h s) (hf:qAV h) (hl:h.length=16) {f t d:Int} {p:Bool} (hP:CanP b h s f t d p) {k:Int} (k0:1<=k) (k1:k<8):
  (cnt (mb b s f t d p) k:Int)+hd_ (mh b h s t d) 0 k+hd_ (mh b h s t d) 1 k=cnt b k+hd_ h 0 k+hd_ h 1 k:=by
 have hsd:=hS.side
 by_cases hd:d=0
 ·obtain ⟨f0,f1,f2,g1,g2,g3,g4⟩:=hP.move hd
  unfold mb mh
  rw [if_neg (by simpa using hd),if_neg (by simpa using hd)]
  have c1:=qOB hS.clean.len ⟨f0,f1⟩ 0 k
  have c2:=qOB (hS.clean.put f 0).len hP.to_ (laid b s f d p) k
  have e1:at_ (put b f 0) t=at_ b t:=by rw [qDO hS.clean.len ⟨f0,f1⟩,if_neg (Ne.symm f2)]
  rw [e1] at c2
  rw [qOI k0] at c1
  have e2:dl (laid b s f d p) k=dl (at_ b f) k:=by
   unfold laid
   rw [if_neg (by simpa using hd)]
   cases p with
   | false=>rfl
   | true=>
     have hu:=g4 rfl
     obtain ⟨u1,u2,u3⟩:=qIR hu
     rw [if_pos rfl]
     unfold dl
     rw [qHL hsd u1 u2 u3,qqz hu]
  rw [e2] at c2
  by_cases ht:at_ b t=0
  ·rw [if_pos ht]
   rw [ht,qOI k0] at c2
   omega
  ·rw [if_neg ht]
   have hk:=(hS.clean.at_ t).resolve_left ht
   obtain ⟨r1,r2⟩:=qJU hk g3
   have hc:=hS.counts _ r1 r2
   have h0:=hS.hands (rw_ (kd (at_ b t))) (by omega) r2
   rw [qFC hl hsd (by omega) r2 1 (.inl rfl) (by omega) k1,qFC hl hsd (by omega) r2 1 (.inr rfl) (by omega) k1]
   by_cases hkr:k=rw_ (kd (at_ b t))
   ·have e3:dl (at_ b t) k=1:=by unfold dl;rw [if_pos hkr.symm]
    rw [e3] at c2
    rcases hsd with rfl | rfl
    ·rw [if_pos ⟨rfl,hkr⟩,if_neg (by omega),qFk (by omega) (by omega),<- hkr]
     omega
    ·rw [if_neg (by omega),if_pos ⟨rfl,hkr⟩,qFk (by omega) (by omega),<- hkr]
     omega
   ·have e3:dl (at_ b t) k=0:=by unfold dl;rw [if_neg (Ne.symm hkr)]
    rw [e3] at c2
    rw [if_neg (fun h=>hkr h.2),if_neg (fun h=>hkr h.2)]
    omega
 ·obtain ⟨d0,d1,d2,d3,g1,g2⟩:=hP.drop hd
  unfold mb mh
  rw [if_pos hd,if_pos hd]
  have c1:=qOB hS.clean.len hP.to_ (laid b s f d p) k
  have hl':laid b s f d p=16*s+d:=by unfold laid;rw [if_pos hd]
  rw [g2,qOI k0,hl'] at c1
  rw [hl']
  have hb:=qG4 hf s d
  rw [qFC hl hsd (by omega) d1 (-1) (.inl rfl) (by omega) k1,qFC hl hsd (by omega) d1 (-1) (.inr rfl) (by omega) k1]
  have e3:dl (16*s+d) k=if d=k then 1 else 0:=by
   unfold dl
   rw [qHL hsd (by omega) (by omega) (by omega),qqy (by omega) d1]
  rw [e3] at c1
  by_cases hkd:k=d
  ·subst hkd
   rw [if_pos rfl] at c1
   rcases hsd with rfl | rfl
   ·rw [if_pos ⟨rfl,rfl⟩,if_neg (by omega),qFk (by omega) (by omega)]
    omega
   ·rw [if_neg (by omega),if_pos ⟨rfl,rfl⟩,qFk (by omega) (by omega)]
    omega
  ·rw [if_neg (Ne.symm hkd)] at c1
   rw [if_neg (fun h=>hkd h.2),if_neg (fun h=>hkd h.2)]
   omega
theorem qYW {b:List Int} (hc:Clean b) (s f t d:Int) (p:Bool):Clean (mb b s f t d p):=by
 unfold mb
 split
 ·exact hc.put _ _
 ·exact (hc.put _ _).put _ _
theorem ql6 {h:List Int} (hf:qAV h) (b:List Int) (s t d:Int):qAV (mh b h s t d):=by
 unfold mh
 split
 ·exact qVt hf _ _ _
 ·split
  ·exact hf
  ·exact qVt hf _ _ _
theorem ql7 {h:List Int} (hl:h.length=16) (b:List Int) (s t d:Int):(mh b h s t d).length=16:=by
 unfold mh
 split
 ·rw [qOn];exact hl
 ·split
  ·exact hl
  ·rw [qOn];exact hl
end Go.Kk.Pl
namespace Go.Kk.Pl
theorem canP {b h:List Int} {s f t d:Int} {p:Bool} (hm:qDT b h s f t d p=true):(s=0 \/ s=1) /\ CanP b h s f t d p:=by
 unfold qDT at hm
 rw [Bool.and_eq_true,Bool.and_eq_true,decide_eq_true_eq,decide_eq_true_eq] at hm
 obtain ⟨h1,hs,h2⟩:=hm
 obtain ⟨ht,hd,hmv⟩:=qUt h1
 refine ⟨hs,ht,fun d0=>?_,fun d0=>?_⟩
 ·rw [if_pos d0] at h2
  simp only [Bool.and_eq_true,decide_eq_true_eq] at h2
  have:=hd d0
  exact ⟨by omega,by omega,this.2.2.1,this.2.2.2,by omega,h2.2⟩
 ·rw [if_neg (by simpa using d0)] at h2
  simp only [Bool.and_eq_true,decide_eq_true_eq,Bool.or_eq_true,Bool.not_eq_true'] at h2
  obtain ⟨h3,h4⟩:=hmv d0
  exact ⟨h3.1,h3.2,h4,h2.1.1,h2.1.2.1,h2.1.2.2,fun hp=>by
   rcases h2.2 with h5 | h5
   ·rw [hp] at h5;cases h5
   ·exact h5⟩
theorem qHe {b h:List Int} {s f t d:Int} {p:Bool} (hm:qA1 b h s f t d p=true):(s=0 \/ s=1) /\ CanP b h s f t d p:=by
 unfold qA1 at hm
 rw [Bool.and_eq_true] at hm
 exact canP hm.1
theorem qj5 {x s:Int} (hs:s=0 \/ s=1) (h:sd x=s):kd x≠0:=by
 intro h0
 rw [qcM h0] at h
 omega
theorem qHN {b h:List Int} {s f t d:Int} {p:Bool} (hs:s=0 \/ s=1) (hP:CanP b h s f t d p):sd (laid b s f d p)=s /\ kd (laid b s f d p)≠0 /\ (laid b s f d p=pc s 8↔d=0 /\ at_ b f=pc s 8):=by
 unfold laid
 by_cases hd:d=0
 ·have hm:=hP.move hd
  rw [if_neg (by simpa using hd)]
  cases p with
  | false=>
    rw [if_neg (by simp)]
    exact ⟨hm.2.2.2.1,qj5 hs hm.2.2.2.1,fun h=>⟨hd,h⟩,fun h=>h.2⟩
  | true=>
    rw [if_pos rfl]
    have hu:=hm.2.2.2.2.2.2 rfl
    obtain ⟨u1,u2,u3⟩:=qIR hu
    have hx:=qD0 hs u1 u2 u3
    rw [qA8 hs u1 u2 u3] at hx
    have u8:up_ (kd (at_ b f))≠8:=by unfold up_;split<;>omega
    refine ⟨hx.1,by rw [hx.2];omega,fun h=>?_,fun h=>?_⟩
    ·rw [qA8 hs (by omega) (by omega) (by omega)] at h
     omega
    ·exfalso
     apply hu
     rw [h.2,(qD0 hs (by omega) (by omega) (by omega)).2]
     rfl
 ·have hm:=hP.drop hd
  rw [if_pos hd]
  have hx:=qD0 hs (k:=d) (by omega) (by omega) (by omega)
  rw [qA8 hs (by omega) (by omega) (by omega)] at hx
  refine ⟨hx.1,by rw [hx.2];exact hd,fun h=>?_,fun h=>absurd h.1 hd⟩
  rw [qA8 hs (by omega) (by omega) (by omega)] at h
  omega
theorem qER {b h:List Int} {s f t d:Int} {p:Bool} (hc:Clean b) (hs:s=0 \/ s=1) (hP:CanP b h s f t d p) {i:Nat} (hi:i<81):
  (mb b s f t d p).getD i 0=if i=t.toNat then laid b s f d p else if d=0 /\ i=f.toNat then 0 else b.getD i 0:=by
 have ht:=hP.to_
 have hl:=(qHN hs hP).2.1
 have e1:(mb b s f t d p).getD i 0=at_ (mb b s f t d p) i:=by rw [qBJ (by omega),tn]
 have e2:b.getD i 0=at_ b i:=by rw [qBJ (by omega),tn]
 rw [e1,e2]
 unfold mb
 by_cases hd:d=0
 ·have hm:=hP.move hd
  rw [if_neg (by simpa using hd),qDO (hc.put f 0).1 ht,if_neg hl,qDO hc.1 ⟨hm.1,hm.2.1⟩]
  by_cases h1:i=t.toNat
  ·rw [if_pos (c:=(i:Int)=t) (by omega),if_pos h1]
  ·rw [if_neg (c:=(i:Int)=t) (by omega),if_neg h1]
   by_cases h2:i=f.toNat
   ·rw [if_pos (c:=(i:Int)=f) (by omega),if_pos (c:=d=0 /\ i=f.toNat) ⟨hd,h2⟩];rfl
   ·rw [if_neg (c:=(i:Int)=f) (by omega),if_neg (fun h=>h2 h.2)]
 ·rw [if_pos hd,qDO hc.1 ht,if_neg hl]
  by_cases h1:i=t.toNat
  ·rw [if_pos h1,if_pos (by omega)]
  ·rw [if_neg h1,if_neg (by omega),if_neg (fun h=>hd h.1)]
def KS (b:List Int) (s:Int) (k:Nat):Prop:=k<81 /\ ∀ i,i<81->(b.getD i 0=pc s 8↔i=k)
theorem pc8 {s:Int} (hs:s=0 \/ s=1):pc s 8=16*s+8:=qA8 hs (by omega) (by omega) (by omega)
theorem KS.kg {b:List Int} {s:Int} {k:Nat} (hs:s=0 \/ s=1) (h:KS b s k):kg b s=k:=by
 apply qOT h.1
 intro i hi
 unfold pcs
 rw [decide_eq_true_eq,h.2 i hi,pc8 hs]
 exact ⟨fun h=>h.2,fun h=>⟨by omega,h⟩⟩
theorem qKu {b h:List Int} {s':Int} (hz:qAx b h s'=0) {s:Int} (hs:s=0 \/ s=1):∃ k,KS b s k:=by
 have hn:nP b 8=1 /\ nP b 24=1:=by
  unfold qAx at hz
  split at hz
  ·omega
  ·split at hz
   ·omega
   ·split at hz
    ·omega
    ·split at hz
     ·omega
     ·rename_i h;simpa using h
 have:nP b (pc s 8)=1:=by
  rw [pc8 hs]
  rcases hs with rfl | rfl
  ·exact hn.1
  ·exact hn.2
 obtain ⟨k,hk,h⟩:=qGz.mp (show qAy (fun i=>b.getD i 0==pc s 8)=1 from this)
 exact ⟨k,hk,fun i hi=>by rw [<- h i hi,beq_iff_eq]⟩
theorem KS.sd {b:List Int} {s:Int} {k:Nat} (hs:s=0 \/ s=1) (h:KS b s k):sd (b.getD k 0)=s /\ kd (b.getD k 0)=8:=by
 rw [(h.2 k h.1).mpr rfl]
 exact qD0 hs (by omega) (by omega) (by omega)
theorem qPA {b h:List Int} {s f t d:Int} {p:Bool} (hc:Clean b) (hs:s=0 \/ s=1) (hP:CanP b h s f t d p) {k:Nat} (hk:KS b s k):
  KS (mb b s f t d p) s (if d=0 /\ f.toNat=k then t.toNat else k):=by
 have ht:=hP.to_
 have hl:=qHN hs hP
 have hkt:k≠t.toNat:=by
  intro e
  have h1:=(hk.sd hs)
  have e2:b.getD k 0=at_ b t:=by rw [qBJ ht,e]
  rw [e2] at h1
  by_cases hd:d=0
  ·exact (hP.move hd).2.2.2.2.1 h1.1
  ·rw [(hP.drop hd).2.2.2.2.2,qFE] at h1
   omega
 have hp0:(0:Int)≠pc s 8:=by rw [pc8 hs];omega
 refine ⟨by split;omega;exact hk.1,fun i hi=>?_⟩
 rw [qER hc hs hP hi]
 by_cases h1:i=t.toNat
 ·rw [if_pos h1,hl.2.2]
  by_cases hd:d=0
  ·have hm:=hP.move hd
   rw [qBJ ⟨hm.1,hm.2.1⟩,hk.2 _ (by omega)]
   by_cases hfk:f.toNat=k
   ·rw [if_pos ⟨hd,hfk⟩];exact ⟨fun _=>h1,fun _=>⟨hd,hfk⟩⟩
   ·rw [if_neg (fun h=>hfk h.2)]
    exact ⟨fun h=>absurd h.2 hfk,fun h=>absurd (h.symm.trans h1) hkt⟩
  ·rw [if_neg (fun h=>hd h.1)]
   exact ⟨fun h=>absurd h.1 hd,fun h=>absurd (h.symm.trans h1) hkt⟩
 ·rw [if_neg h1]
  by_cases h2:d=0 /\ i=f.toNat
  ·rw [if_pos h2]
   refine ⟨fun h=>absurd h hp0,fun h=>?_⟩
   split at h
   ·exact absurd h h1
   ·rename_i h3;exact absurd ⟨h2.1,by omega⟩ h3
  ·rw [if_neg h2,hk.2 i hi]
   split
   ·rename_i h3
    exact ⟨fun h=>absurd ⟨h3.1,by omega⟩ h2,fun h=>absurd h h1⟩
   ·exact Iff.rfl
theorem qKt {b h:List Int} {s f t d:Int} {p:Bool} (hc:Clean b) (hs:s=0 \/ s=1) (hP:CanP b h s f t d p) {k:Nat} (hk:KS b (1 - s) k):
  KS (mb b s f t d p) (1 - s) k:=by
 have ht:=hP.to_
 have hl:=qHN hs hP
 have hs':1 - s=0 \/ 1 - s=1:=by omega
 have hkt:k≠t.toNat:=by
  intro e
  have h1:=(hk.sd hs')
  have e2:b.getD k 0=at_ b t:=by rw [qBJ ht,e]
  rw [e2] at h1
  by_cases hd:d=0
  ·exact (hP.move hd).2.2.2.2.2.1 h1.2
  ·rw [(hP.drop hd).2.2.2.2.2,qFE] at h1
   omega
 have hp0:(0:Int)≠pc (1 - s) 8:=by rw [pc8 hs'];omega
 refine ⟨hk.1,fun i hi=>?_⟩
 rw [qER hc hs hP hi]
 by_cases h1:i=t.toNat
 ·rw [if_pos h1]
  refine ⟨fun h=>?_,fun h=>absurd (h.symm.trans h1) hkt⟩
  have:=hl.1
  rw [h,(qD0 hs' (by omega) (by omega) (by omega)).1] at this
  omega
 ·rw [if_neg h1]
  by_cases h2:d=0 /\ i=f.toNat
  ·rw [if_pos h2]
   refine ⟨fun h=>absurd h hp0,fun h=>?_⟩
   have hm:=hP.move h2.1
   have h3:=(hk.sd hs').1
   rw [<- h,h2.2,<- qBJ ⟨hm.1,hm.2.1⟩,hm.2.2.2.1] at h3
   omega
  ·rw [if_neg h2]
   exact hk.2 i hi
theorem qE3 {b:List Int} {s:Int} (hs:s=0 \/ s=1) {k:Nat} (hk:kg b s=k) (h81:k<81) (c:Nat):chs b s c=atk b s k c:=by
 unfold chs onS atk enm
 rw [hk,decide_eq_true (by omega),decide_eq_true (by omega),tn]
 rfl
def fof (f t d:Int):Nat:=if d=0 then f.toNat else t.toNat
theorem qSr {b h:List Int} {s f t d:Int} {p:Bool} (hc:Clean b) (hs:s=0 \/ s=1) (hP:CanP b h s f t d p) {i:Nat} (hi:i<81):tk (mb b s f t d p) i=tk2 b (fof f t d) t.toNat i:=by
 have hl:=qHN hs hP
 unfold tk tk2 fof
 rw [qER hc hs hP hi]
 by_cases h1:i=t.toNat
 ·rw [if_pos h1,decide_eq_true h1,Bool.true_or,decide_eq_true_eq]
  intro h0
  rw [h0,qFE] at hl
  exact hl.2.1 rfl
 ·rw [if_neg h1,decide_eq_false h1,Bool.false_or]
  by_cases hd:d=0
  ·rw [if_pos hd]
   by_cases h2:i=f.toNat
   ·rw [if_pos ⟨hd,h2⟩,decide_eq_true h2];simp
   ·rw [if_neg (fun h=>h2 h.2),decide_eq_false h2];rfl
  ·rw [if_neg hd,if_neg (fun h=>hd h.1),decide_eq_false h1];rfl
theorem qVd {b h:List Int} {s f t d:Int} {p:Bool} (hc:Clean b) (hs:s=0 \/ s=1) (hP:CanP b h s f t d p) {c:Nat} (hcc:c<81):enm (mb b s f t d p) s c=(decide (c≠t.toNat)&&enm b s c) /\ (enm (mb b s f t d p) s c=true->(mb b s f t d p).getD c 0=b.getD c 0):=by
 have hl:=qHN hs hP
 unfold enm
 rw [qER hc hs hP hcc]
 by_cases h1:c=t.toNat
 ·rw [if_pos h1,hl.1,decide_eq_false (p:=s=1 - s) (by omega),decide_eq_false (p:=c≠t.toNat) (by simpa using h1)]
  exact ⟨rfl,fun h=>by cases h⟩
 ·rw [if_neg h1,decide_eq_true (p:=c≠t.toNat) h1,Bool.true_and]
  by_cases h2:d=0 /\ c=f.toNat
  ·rw [if_pos h2,qJW]
   have hm:=hP.move h2.1
   rw [h2.2,<- qBJ ⟨hm.1,hm.2.1⟩,hm.2.2.2.1,decide_eq_false (p:=(-1:Int)=1 - s) (by omega),decide_eq_false (p:=s=1 - s) (by omega)]
   exact ⟨rfl,fun h=>by cases h⟩
  ·rw [if_neg h2]
   exact ⟨rfl,fun _=>rfl⟩
theorem qUx {b h:List Int} {s f t d:Int} {p:Bool} (hc:Clean b) (hs:s=0 \/ s=1) (hP:CanP b h s f t d p) {k:Nat} (hk:KS b s k) (hn:¬ (d=0 /\ f.toNat=k)) {c:Nat} (hcc:c<81):
  chs (mb b s f t d p) s c=qEA b s k (fof f t d) t.toNat c:=by
 have hk2:=qPA hc hs hP hk
 rw [if_neg hn] at hk2
 rw [qE3 hs (hk2.kg hs) hk.1]
 obtain ⟨e1,e2⟩:=qVd hc hs hP hcc
 unfold atk qEA
 cases he:enm (mb b s f t d p) s c with
 | false=>
   rw [he] at e1
   rw [Bool.false_and,<- Bool.and_assoc,<- e1,Bool.false_and]
 | true=>
   rw [<- Bool.and_assoc,<- e1,he,Bool.true_and,Bool.true_and,e2 he]
   exact qaM hcc hk.1 (fun i hi=>qSr hc hs hP hi)
theorem qUw {b h:List Int} {s f t d:Int} {p:Bool} (hc:Clean b) (hs:s=0 \/ s=1) (hP:CanP b h s f t d p) {k:Nat} (hk:KS b s k) (hn:d=0 /\ f.toNat=k) {c:Nat} (hcc:c<81):
  chs (mb b s f t d p) s c=onS b t (1 - s) (fun i=>tk b i && !only f i) c:=by
 have hk2:=qPA hc hs hP hk
 have ht:=hP.to_
 have hm:=hP.move hn.1
 rw [if_pos hn] at hk2
 rw [qE3 hs (hk2.kg hs) hk2.1]
 obtain ⟨e1,e2⟩:=qVd hc hs hP hcc
 unfold atk onS
 rw [decide_eq_true ht,decide_eq_true (p:=1 - s=0 \/ 1 - s=1) (by omega),Bool.true_and,Bool.true_and]
 show _=(enm b s c&&_)
 by_cases h1:c=t.toNat
 ·rw [e1,decide_eq_false (p:=c≠t.toNat) (by simpa using h1),<- h1,qaN,qaN,Bool.and_false,Bool.and_false]
 ·rw [decide_eq_true (p:=c≠t.toNat) h1,Bool.true_and] at e1
  rw [e1]
  cases he:enm b s c with
  | false=>rfl
  | true=>
    rw [e2 (by rw [e1,he]),Bool.true_and,Bool.true_and,Bool.eq_iff_iff,qBz,qBz]
    have:∀ i∈btw c t.toNat,tk (mb b s f t d p) i=(tk b i && !only f i):=by
     intro i hi
     have hw:=qId (by omega) hcc hi
     rw [qSr hc hs hP hw.1]
     unfold tk2 fof only
     rw [decide_eq_false hw.2.1,if_pos hn.1,Bool.false_or,Bool.and_comm]
     congr 2
     rw [decide_eq_decide]
     omega
    constructor
    ·rintro (h | ⟨h,h'⟩)
     ·exact .inl h
     ·exact .inr ⟨h,fun i hi=>by rw [<- this i hi];exact h' i hi⟩
    ·rintro (h | ⟨h,h'⟩)
     ·exact .inl h
     ·exact .inr ⟨h,fun i hi=>by rw [this i hi];exact h' i hi⟩
def qw (b:List Int) (s:Int) (t:Nat):Bool:=(List.range 81).all fun c=>!chs b s c||qD6 (kg b s).toNat c t
def qGE (b:List Int) (s:Int) (f t:Nat):Bool:=(List.range 81).all fun c=>!qAM b s (kg b s).toNat f c||qD6 (kg b s).toNat c t
def stB (b:List Int) (s:Int) (f t:Nat):Bool:=if (f:Int)=kg b s then isE (onS b t (1 - s) (fun i=>tk b i && !only f i)) else qw b s t&&qGE b s f t
theorem qJv {k c t:Nat}:qD6 k c t=true↔t=c \/ t∈btw c k:=by
 unfold qD6 only
 rw [Bool.or_eq_true,List.contains_iff_mem,decide_eq_true_eq]
 constructor
 ·rintro (h | h)
  ·exact .inr h
  ·exact .inl (by omega)
 ·rintro (h | h)
  ·exact .inr (by omega)
  ·exact .inl h
theorem qJB {b:List Int} {s:Int} (hs:s=0 \/ s=1) {k:Nat} (hk:KS b s k) {t:Nat}:qw b s t=true ↔ ∀ c,c<81->atk b s k c=true->t=c \/ t∈btw c k:=by
 have hkg:=hk.kg hs
 unfold qw
 rw [List.all_eq_true,hkg,tn]
 constructor
 ·intro h c hc ha
  have:=h c (List.mem_range.mpr hc)
  rw [qE3 hs hkg hk.1,ha,Bool.not_true,Bool.false_or] at this
  exact qJv.mp this
 ·intro h c hc
  rw [qE3 hs hkg hk.1]
  cases ha:atk b s k c with
  | false=>rfl
  | true=>
    rw [Bool.not_true,Bool.false_or]
    exact qJv.mpr (h c (List.mem_range.mp hc) ha)
theorem qLg {b:List Int} {s:Int} (hs:s=0 \/ s=1) {k:Nat} (hk:KS b s k) {f t:Nat}:qGE b s f t=true ↔ ∀ c,c<81->qAM b s k f c=true->t=c \/ t∈btw c k:=by
 unfold qGE
 rw [List.all_eq_true,hk.kg hs,tn]
 constructor
 ·intro h c hc ha
  have:=h c (List.mem_range.mpr hc)
  rw [ha,Bool.not_true,Bool.false_or] at this
  exact qJv.mp this
 ·intro h c hc
  cases ha:qAM b s k f c with
  | false=>rfl
  | true=>
    rw [Bool.not_true,Bool.false_or]
    exact qJv.mpr (h c (List.mem_range.mp hc) ha)
theorem qL6 {b h:List Int} {s f t d:Int} {p:Bool} (hc:Clean b) (hs:s=0 \/ s=1) (hP:CanP b h s f t d p) {k:Nat} (hk:KS b s k):
  (!inC (mb b s f t d p) s)=if d=0 then stB b s f.toNat t.toNat else qw b s t.toNat:=by
 have ht:=hP.to_
 unfold inC
 rw [Bool.not_not]
 by_cases hn:d=0 /\ f.toNat=k
 ·have hm:=hP.move hn.1
  rw [if_pos hn.1]
  unfold stB
  rw [if_pos (by rw [hk.kg hs,hn.2]),Bool.eq_iff_iff,qCm,qCm,show ((t.toNat:Nat):Int)=t by omega,show ((f.toNat:Nat):Int)=f by omega]
  constructor
  ·intro h i hi;rw [<- qUw hc hs hP hk hn hi];exact h i hi
  ·intro h i hi;rw [qUw hc hs hP hk hn hi];exact h i hi
 ·have hf:tk b (fof f t d)=true->sd (b.getD (fof f t d) 0)=s:=by
   unfold fof
   intro htk
   by_cases hd:d=0
   ·have hm:=hP.move hd
    rw [if_pos hd,<- qBJ ⟨hm.1,hm.2.1⟩]
    exact hm.2.2.2.1
   ·rw [if_neg hd] at htk
    unfold tk at htk
    rw [<- qBJ ht,(hP.drop hd).2.2.2.2.2] at htk
    simp at htk
  have key:=qfj (b:=b) (s:=s) (k:=k) (f:=fof f t d) (t:=t.toNat) hf
  have e:isE (chs (mb b s f t d p) s)=(qw b s t.toNat&&qGE b s (fof f t d) t.toNat):=by
   rw [Bool.eq_iff_iff,qCm,Bool.and_eq_true,qJB hs hk,qLg hs hk,<- key]
   constructor
   ·intro h c hcc;rw [<- qUx hc hs hP hk hn hcc];exact h c hcc
   ·intro h c hcc;rw [qUx hc hs hP hk hn hcc];exact h c hcc
  rw [e]
  by_cases hd:d=0
  ·rw [if_pos hd]
   unfold stB
   have hm:=hP.move hd
   rw [if_neg (by rw [hk.kg hs];intro e;exact hn ⟨hd,by omega⟩)]
   unfold fof
   rw [if_pos hd]
  ·rw [if_neg hd]
   have:qGE b s (fof f t d) t.toNat=true:=by
    rw [qLg hs hk]
    intro c _ hp
    have:=(qDD.mp hp).2.2.2.1
    unfold fof tk at this
    rw [if_neg hd,<- qBJ ht,(hP.drop hd).2.2.2.2.2] at this
    simp at this
   rw [this,Bool.and_true]
end Go.Kk.Pl
namespace Go.Kk.Pl
def T_ (_:Nat):Bool:=true
theorem qoJ {b:List Int} (hcl:Clean b) (h:List Int) (S:Int) {s:Int} (hs:s=0 \/ s=1) {k:Nat} (hk:KS b s k):∃ es,qGk s b h S (qR b) (qV b)=some es /\ qBs b s k (fun _=>true) es:=by
 obtain ⟨es,h1,_,h3⟩:=qoK hcl h S hs
 refine ⟨es,h1,?_⟩
 have hkg:=hk.kg hs
 have h3:=h3 (by omega)
 rw [hkg,tn] at h3
 intro f hf
 obtain ⟨a,a'⟩:=h3 f hf
 have hP:∀ c,qAM b s k f c=true->(enm b s c&&(qAk.any fun x=>pcs b (pc (1 - s) x) c))=true:=by
  intro c hp
  have:=qDD.mp hp
  rw [this.1,qr7 hs this.1 this.2.1];rfl
 refine ⟨?_,fun c hc _ hp=>a' c hc (hP c hp) hp⟩
 rw [a]
 constructor
 ·rintro ⟨c,x,_,x'⟩;exact ⟨c,x,rfl,x'⟩
 ·rintro ⟨c,x,_,x'⟩;exact ⟨c,x,hP c x',x'⟩
theorem qYL {b:List Int} (hcl:Clean b) (h:List Int) {s:Int} (hs:s=0 \/ s=1) {k:Nat} (hk:KS b s k):
  ∃ es chk,qHW b h s (qR b) (qV b)=some (s,(k:Int),sLo (qw b s),sHi (qw b s),chk,es) /\ qBs b s k (fun _=>true) es:=by
 obtain ⟨es,he,hp⟩:=qoJ hcl h s hs hk
 have hkg:=hk.kg hs
 have hkg':fst (pcs b (pc s 8))=(k:Int):=hkg
 have ha:∀ c,chs b s c=atk b s k c:=qE3 hs hkg hk.1
 unfold qHW
 rw [qO9,hkg',qA,qJ1,qA]
 simp only
 rw [he,qA,qN4 hcl h s (by omega),qA]
 simp only
 rw [qOD,qA]
 by_cases n0:((qAy (chs b s):Nat):Int)=0
 ·rw [qr n0]
  have hE:isE (chs b s)=true:=by rw [qOA,decide_eq_true_eq];omega
  have:∀ i,i<81->(fun _:Nat=>true) i=qw b s i:=by
   intro i _
   symm
   show qw b s i=true
   rw [qJB hs hk]
   intro c hc h1
   rw [<- ha,qCm.mp hE c hc] at h1
   cases h1
  have:=qB1 this
  rw [this.1,this.2]
  exact ⟨es,false,rfl,hp⟩
 ·rw [qp n0]
  by_cases n1:((qAy (chs b s):Nat):Int)=1
  ·obtain ⟨f,hf,hm⟩:=qGz.mp (show qAy (chs b s)=1 by omega)
   rw [qr n1,qOP,qA,qOT hf hm,qZ3 hf hk.1,qA]
   simp only
   rw [qHh,qA]
   simp only
   have:∀ i,i<81->((btw f k).contains i||chs b s i)=qw b s i:=by
    intro i hi
    rw [Bool.eq_iff_iff,Bool.or_eq_true,List.contains_iff_mem,hm i hi,qJB hs hk]
    constructor
    ·intro h1 c hc h2
     rw [<- ha,hm c hc] at h2
     subst h2
     exact h1.elim .inr .inl
    ·intro h1
     exact (h1 f hf (by rw [<- ha];exact (hm f hf).mpr rfl)).elim .inr .inl
   have:=qB1 this
   rw [this.1,this.2]
   exact ⟨es,true,rfl,hp⟩
  ·rw [qp n1]
   have hE:isE (chs b s)=false:=by
    rw [qOA,decide_eq_false_iff_not];omega
   obtain ⟨c,hc,hc'⟩:∃ c,c<81 /\ chs b s c=true:=by
    apply Classical.byContradiction
    intro hno
    have:isE (chs b s)=true:=by
     rw [qCm]
     intro i hi
     cases hx:chs b s i with
     | false=>rfl
     | true=>exact absurd ⟨i,hi,hx⟩ hno
    rw [hE] at this;cases this
   obtain ⟨c2,hc2,hc2',hne⟩:∃ c2,c2<81 /\ chs b s c2=true /\ c≠c2:=by
    apply Classical.byContradiction
    intro hno
    apply n1
    rw [qGz.mpr ⟨c,hc,fun i hi=>⟨fun h1=>?_,fun h1=>h1 ▸ hc'⟩⟩]
    ·rfl
    ·apply Classical.byContradiction
     intro hx
     exact hno ⟨i,hi,h1,fun e=>hx e.symm⟩
   have:∀ i,i<81->(fun _:Nat=>false) i=qw b s i:=by
    intro i hi
    symm
    show qw b s i=false
    cases ho:qw b s i with
    | false=>rfl
    | true=>
      rw [qJB hs hk] at ho
      exact (qtd hs hk.1 hc hc2 (by rw [<- ha];exact hc') (by rw [<- ha];exact hc2') hne (ho c hc (by rw [<- ha];exact hc')) (ho c2 hc2 (by rw [<- ha];exact hc2'))).elim
   have:=qB1 this
   rw [qBn,qBm] at this
   exact ⟨es,true,by rw [<- this.1,<- this.2],hp⟩
theorem qdT {b:List Int} (hcl:Clean b) (h:List Int) (S:Int) {s:Int} (hs:s=0 \/ s=1) {k:Nat} (hk:KS b s k) {es:List (List Int×List Int)} (hp:qBs b s k (fun _=>true) es) {f t:Int} (hf:0<=f /\ f<81) (ht:0<=t /\ t<81) (d:Int) (p chk:Bool):
  qHX s (k:Int) (sLo (qw b s)) (sHi (qw b s)) chk f t d p b h S (qR b) (qV b) es=some (stB b s f.toNat t.toNat,b,h,S,qR b,qV b,es):=by
 obtain ⟨f,rfl⟩:∃ n:Nat,f=n:=⟨f.toNat,by omega⟩
 obtain ⟨t,rfl⟩:∃ n:Nat,t=n:=⟨t.toNat,by omega⟩
 rw [tn,tn]
 have hkg:=hk.kg hs
 have hh:∀ g:Nat->Bool,has g (t:Int)=g t:=by
  intro g;unfold has;rw [decide_eq_true (by omega),decide_eq_true (by omega),tn];rfl
 unfold qHX stB
 rw [hkg]
 by_cases hfk:(f:Int)=k
 ·rw [qr hfk,if_pos hfk,qJm hcl,qA]
  simp only
  rw [qJw,qA]
  simp only
  rw [w_s (n:=1 - s) (by omega) (by omega),qZD,qA]
  simp only
  rw [qIm,qA,hfk]
 ·rw [qp hfk,if_neg hfk,qEM,qA,hh]
  cases ho:qw b s t with
  | false=>rfl
  | true=>
    rw [Bool.not_true,b_f,Bool.true_and]
    obtain ⟨h1,h2⟩:=hp f (by omega)
    cases hM:qA7 es [(f:Int)] with
    | false=>
      rw [Bool.not_false,b_t]
      have:qGE b s f t=true:=by
       rw [qLg hs hk]
       intro c hc hpin
       rw [h1.mpr ⟨c,hc,rfl,hpin⟩] at hM;cases hM
      rw [this]
    | true=>
      obtain ⟨c,hc,_,hpin⟩:=h1.mp hM
      rw [Bool.not_true,b_f,h2 c hc rfl hpin]
      show (ob (qCC (sLo (qD6 k c)) (sHi (qD6 k c)) (t:Int)) _)=_
      rw [qEM,qA,hh]
      have:qD6 k c t=qGE b s f t:=by
       rw [Bool.eq_iff_iff,qJv,qLg hs hk]
       constructor
       ·intro h3 c' hc' hpin'
        rw [qZu hs hk.1 hc' hc hpin' hpin];exact h3
       ·intro h3;exact h3 c hc hpin
      rw [this]
def m0 (m:List Int):Int:=m.getD 0 0
def m1 (m:List Int):Int:=m.getD 1 0
def m2 (m:List Int):Int:=m.getD 2 0
def m3 (m:List Int):Bool:=m.getD 3 0 != 0
def Mv4 (m:List Int):Prop:=m=[m0 m,m1 m,m2 m,bi (m3 m)] /\ (0<=m0 m /\ m0 m<81) /\ (0<=m1 m /\ m1 m<81)
theorem qmT {b h:List Int} {s f t d p:Int} (hok:MvOK b h s f t d p):Mv4 [f,t,d,p]:=by
 refine ⟨?_,hok.fr,hok.tr⟩
 show [f,t,d,p]=[f,t,d,bi (p != 0)]
 rcases hok.pp with h0 | h0<;>rw [h0]<;>rfl
theorem qLP {b h:List Int} (hc:Clean b) {s:Int} (hs:s=0 \/ s=1) {m:List Int} (hm:m∈mvs b h s):Mv4 m /\ qA1 b h s (m0 m) (m1 m) (m2 m) (m3 m)=true:=by
 obtain ⟨f,t,d,p,rfl,hok⟩:=qmZ hc hs hm
 exact ⟨qmT hok,hok.mov⟩
theorem qLO {b:List Int} (hc:Clean b) (h:List Int) {s:Int} (hs:s=0 \/ s=1) {m:List Int} (hm:m∈qx b s T_):Mv4 m /\ qA1 b h s (m0 m) (m1 m) (m2 m) (m3 m)=true /\ m2 m=0:=by
 have h1:=qLP hc hs (h:=h) (m:=m) (List.mem_append_left _ hm)
 obtain ⟨f,t,p,rfl⟩:=qmU hm
 exact ⟨h1.1,h1.2,rfl⟩
theorem qP7 {b:List Int} (hc:Clean b) {h:List Int} {s:Int} (hs:s=0 \/ s=1) {m:List Int} (hm:m∈qAS b h s T_):Mv4 m /\ qA1 b h s (m0 m) (m1 m) (m2 m) (m3 m)=true /\ m0 m=0 /\ 1<=m2 m /\ m2 m<=7 /\ m3 m=false:=by
 have h1:=qLP hc hs (h:=h) (m:=m) (List.mem_append_right _ hm)
 obtain ⟨k,t,hk,hk',rfl⟩:=qmV hm
 exact ⟨h1.1,h1.2,rfl,by show (1:Int)<=(k:Int);omega,by show (k:Int)<=7;omega,rfl⟩
theorem qP9 (b h:List Int) (s:Int) (G:Nat->Bool):qAS b h s G=(qAS b h s T_).filter fun m=>G (m1 m).toNat:=by
 unfold qAS
 rw [List.filter_flatMap]
 apply qIo
 intro k _
 unfold qBk
 split
 ·rfl
 ·rw [List.filter_map]
  unfold sq
  rw [List.filter_map,List.map_map,List.map_map,List.filter_filter]
  congr 1
  apply List.filter_congr
  intro i _
  show (qA0 b s k i&&G i)=(G (Int.toNat ((i:Nat):Int))&&(qA0 b s k i&&true))
  rw [tn,Bool.and_true,Bool.and_comm]
theorem hdM {m:List Int}:List.headD (List.take 4 m) 0=m0 m /\ List.headD (List.tail (List.take 4 m)) 0=m1 m /\ List.headD (List.tail (List.tail (List.take 4 m))) 0=m2 m /\ (List.headD (List.tail (List.tail (List.tail (List.take 4 m)))) 0 != 0)=m3 m:=⟨hd0 m,hd1 m,hd2 m,by rw [hd3 m];rfl⟩
theorem atL {M:List (List Int)} {i:Nat} (hi:i<M.length):M.getD i []=M[i]:=by rw [List.getD_eq_getElem?_getD,List.getElem?_eq_getElem hi];rfl
def g1 (b:List Int) (s:Int) (m:List Int):Bool:=stB b s (m0 m).toNat (m1 m).toNat
theorem qfO {b:List Int} (hcl:Clean b) (h:List Int) (S:Int) {s:Int} (hs:s=0 \/ s=1) {k:Nat} (hk:KS b s k) {es:List (List Int×List Int)} (hp:qBs b s k (fun _=>true) es) (chk:Bool) (N:Nat) (M:List (List Int)) (hM:∀ m∈M,Mv4 m) (hl:M.length<=100000):∀ (n i:Nat),i+n=M.length->∀ (L:List (List Int)) (x0 x14:Nat),x0=L.length->x14=L.length->L.length+n<=1000000->∀ F,
  qFH (F+n+1) x0 M.length M.length i b h S (qR b) (qV b) s k (sLo (qw b s)) (sHi (qw b s)) chk x14 L N M es =
   some ((L++(M.drop i).filter (g1 b s)).length,b,h,S,qR b,qV b,s,(k:Int),sLo (qw b s),sHi (qw b s),chk,(L++(M.drop i).filter (g1 b s)).length,L++(M.drop i).filter (g1 b s),es):=by
 intro n
 induction n with
 | zero=>
   intro i hi L x0 x14 e0 e14 hb F
   show qHS (qFH (F+0)) _ _ _ _ _ _ _ _ _ _ _ _ _ _ _ _ _ _ _=_
   unfold qHS
   rw [qY (by omega),List.drop_eq_nil_of_le (by omega),List.filter_nil,List.append_nil,e0,e14]
 | succ n ih=>
   intro i hi L x0 x14 e0 e14 hb F
   show qHS (qFH (F+n+1)) _ _ _ _ _ _ _ _ _ _ _ _ _ _ _ _ _ _ _=_
   unfold qHS
   have hil:i<M.length:=by omega
   obtain ⟨hm1,hm2,hm3⟩:=hM M[i] (List.getElem_mem hil)
   rw [qi (by omega),qn (by omega) (by omega),tn,atL hil]
   simp only [hdM]
   rw [qdT hcl h S hs hk hp hm2 hm3,qA]
   simp only
   rw [w_s (n:=(i:Int)+1) (by omega) (by omega),List.drop_eq_getElem_cons hil,List.filter_cons]
   show br (g1 b s M[i]) _ _=_
   cases hg:g1 b s M[i] with
   | true=>
     rw [b_t,qC0 (by omega),<- hm1]
     rw [tkA e0]
     refine (ih (i+1) (by omega) (L++[M[i]]) (x0+1) (x0+1) (by simp;omega) (by simp;omega) (by simp;omega) F).trans ?_
     simp
   | false=>
     rw [b_f]
     exact ih (i+1) (by omega) L x0 x14 e0 e14 (by omega) F
def pb (b:List Int) (s:Int) (q:Int):List Int:=put b q (16*s+1)
def pmS (b:List Int) (s:Int) (q:Int):Bool:=decide (0<=q /\ q<81)&&(decide (at_ b q=0)&&(chs (pb b s q) (1 - s) q.toNat&&(qx (pb b s q) (1 - s) T_).all fun m=>!g1 (pb b s q) (1 - s) m))
theorem qno {b:List Int} (b0 h0:List Int) (S0:Int) (by0 sd0:List (List Int)) (hcl:Clean b) (h:List Int) (S:Int) {s:Int} (hs:s=0 \/ s=1) {k:Nat} (hk:KS b s k) {es:List (List Int×List Int)} (hp:qBs b s k (fun _=>true) es) (chk:Bool) (N:Nat) (M:List (List Int)) (hM:∀ m∈M,Mv4 m) (hl:M.length<=100000):∀ (n i:Nat),i+n=M.length->∀ F,
  qFJ (F+n+1) M.length M.length i b0 h0 S0 by0 sd0 s k (sLo (qw b s)) (sHi (qw b s)) chk N M b h S (qR b) (qV b) es =
   some (if (M.drop i).all (fun m=>!g1 b s m) then .inr (b0,h0,S0,by0,sd0) else .inl (false,b0,h0,S0,by0,sd0)):=by
 intro n
 induction n with
 | zero=>
   intro i hi F
   show qHV (qFJ (F+0)) _ _ _ _ _ _ _ _ _ _ _ _ _ _ _ _ _ _ _ _ _=_
   unfold qHV
   rw [qY (by omega),List.drop_eq_nil_of_le (by omega)]
   rfl
 | succ n ih=>
   intro i hi F
   show qHV (qFJ (F+n+1)) _ _ _ _ _ _ _ _ _ _ _ _ _ _ _ _ _ _ _ _ _=_
   unfold qHV
   have hil:i<M.length:=by omega
   obtain ⟨hm1,hm2,hm3⟩:=hM M[i] (List.getElem_mem hil)
   rw [qi (by omega),qn (by omega) (by omega),tn,atL hil]
   simp only [hdM]
   rw [qdT hcl h S hs hk hp hm2 hm3,qA]
   simp only
   rw [w_s (n:=(i:Int)+1) (by omega) (by omega),List.drop_eq_getElem_cons hil,List.all_cons]
   show br (g1 b s M[i]) _ _=_
   cases hg:g1 b s M[i] with
   | true=>rw [b_t];rfl
   | false=>
     rw [b_f]
     exact ih (i+1) (by omega) F
theorem qGD (b:List Int) (s q:Int):pb b s q=mb b s 0 q 1 false:=by
 unfold pb mb laid
 rw [if_pos (by simp),if_pos (by simp)]
theorem qQM {b:List Int} {s q:Int} (hs:s=0 \/ s=1) (hq:0<=q /\ q<81) (h0:at_ b q=0):CanP b (List.replicate 16 1) s 0 q 1 false:=by
 refine ⟨hq,fun _=>⟨by omega,by omega,rfl,rfl,?_,h0⟩,fun h=>absurd h (by omega)⟩
 rcases hs with rfl | rfl<;>decide
theorem qnn {b:List Int} (hcl:Clean b) (h:List Int) {s:Int} (hs:s=0 \/ s=1) {k:Nat} (hk:KS b (1 - s) k) (q:Int):qIz q b h s (qR b) (qV b)=some (pmS b s q):=by
 have hs':1 - s=0 \/ 1 - s=1:=by omega
 have hpc:pc s 1=16*s+1:=qA8 hs (by omega) (by omega) (by omega)
 unfold qIz pmS
 rw [qLR,qA,hpc,qp (by omega)]
 by_cases q0:q<0
 ·rw [qi q0,decide_eq_false (p:=0<=q /\ q<81) (by omega)];rfl
 rw [qY q0]
 by_cases q1:q >= 81
 ·rw [qDP q1,decide_eq_false (p:=0<=q /\ q<81) (by omega)];rfl
 have hq:0<=q /\ q<81:=by omega
 rw [qCd q1,qCy,qA,decide_eq_true hq,Bool.true_and]
 by_cases h0:at_ b q=0
 ·have hP:=qQM hs hq h0
  have hk2:KS (pb b s q) (1 - s) k:=by rw [qGD];exact qKt hcl hs hP hk
  have hcl2:Clean (pb b s q):=hcl.put q _
  have w8:IntKind.wrap IntKind.i8 (1 - s)=1 - s:=w_8 (by omega) (by omega)
  rw [qAf h0,decide_eq_true h0,Bool.true_and]
  unfold qJ9
  rw [qA]
  simp only
  rw [qQV hcl,qA]
  simp only
  rw [show put b q (16*s+1)=pb b s q from rfl,w8,c_8,qN4 hcl2 h (1 - s) (by omega),qA]
  simp only
  rw [qEM,qA]
  have hh:has (chs (pb b s q) (1 - s)) q=chs (pb b s q) (1 - s) q.toNat:=by
   unfold has;rw [decide_eq_true hq.1,decide_eq_true hq.2];rfl
  rw [hh]
  cases hch:chs (pb b s q) (1 - s) q.toNat with
  | false=>rfl
  | true=>
    rw [Bool.not_true,b_f,Bool.true_and]
    obtain ⟨es,chk,hl,hp⟩:=qYL hcl2 h hs' hk2
    have hlen:=qP8 (pb b s q) (1 - s) T_
    rw [hl,qA]
    simp only
    rw [qJ1,qA]
    simp only
    rw [show (fun _:Nat=>true)=T_ from rfl,qV4 hcl2,qA]
    simp only
    obtain ⟨g,hg⟩:=qk (qx (pb b s q) (1 - s) T_).length (by omega)
    have:=qno b h s (qR b) (qV b) hcl2 h (1 - s) hs' hk2 hp chk (qx (pb b s q) (1 - s) T_).length (qx (pb b s q) (1 - s) T_) (fun m hm=>(qLO hcl2 h hs' hm).1) (by omega) (qx (pb b s q) (1 - s) T_).length 0 (by omega) g
    rw [<- hg] at this
    refine (congrArg (fun z=>ob z _) (this:qFJ qB (qx (pb b s q) (1 - s) T_).length (Int.ofNat (qx (pb b s q) (1 - s) T_).length) 0 b h s (qR b) (qV b) (1 - s) k (sLo (qw (pb b s q) (1 - s))) (sHi (qw (pb b s q) (1 - s))) chk (qx (pb b s q) (1 - s) T_).length (qx (pb b s q) (1 - s) T_) (pb b s q) h (1 - s) (qR (pb b s q)) (qV (pb b s q)) es=_)).trans ?_
    rw [qA,List.drop_zero]
    cases (qx (pb b s q) (1 - s) T_).all fun m=>!g1 (pb b s q) (1 - s) m<;>rfl
 ·rw [qAR h0,decide_eq_false h0];rfl
def g2 (b:List Int) (s:Int) (m:List Int):Bool:=!(decide (m2 m=1)&&pmS b s (m1 m))
theorem qfM {b:List Int} (hcl:Clean b) (h:List Int) {s:Int} (hs:s=0 \/ s=1) {k:Nat} (hk:KS b (1 - s) k) (N:Nat) (M:List (List Int)) (hM:∀ m∈M,Mv4 m) (hl:M.length<=100000):∀ (n i:Nat),i+n=M.length->∀ (L:List (List Int)) (x0 x9:Nat),x0=L.length->x9=L.length->L.length+n<=1000000->∀ F,
  qEO (F+n+1) x0 M.length M.length i b h s (qR b) (qV b) x9 L N M =
   some ((L++(M.drop i).filter (g2 b s)).length,b,h,s,qR b,qV b,(L++(M.drop i).filter (g2 b s)).length,L++(M.drop i).filter (g2 b s)):=by
 intro n
 induction n with
 | zero=>
   intro i hi L x0 x9 e0 e9 hb F
   show qHR (qEO (F+0)) _ _ _ _ _ _ _ _ _ _ _ _ _=_
   unfold qHR
   rw [qY (by omega),List.drop_eq_nil_of_le (by omega),List.filter_nil,List.append_nil,e0,e9]
 | succ n ih=>
   intro i hi L x0 x9 e0 e9 hb F
   show qHR (qEO (F+n+1)) _ _ _ _ _ _ _ _ _ _ _ _ _=_
   unfold qHR
   have hil:i<M.length:=by omega
   obtain ⟨hm1,hm2,hm3⟩:=hM M[i] (List.getElem_mem hil)
   rw [qi (by omega),qn (by omega) (by omega),tn,atL hil]
   simp only [hdM]
   rw [w_s (n:=(i:Int)+1) (by omega) (by omega),List.drop_eq_getElem_cons hil,List.filter_cons,qC0 (by omega),<- hm1,tkA e0]
   have add:g2 b s M[i]=true->qEO (F+n+1) (x0+1) M.length M.length ((i:Int)+1) b h s (qR b) (qV b) (x0+1) (L++[M[i]]) N M =
    some ((L++if g2 b s M[i]=true then M[i] :: (M.drop (i+1)).filter (g2 b s) else (M.drop (i+1)).filter (g2 b s)).length,b,h,s,qR b,qV b,(L++if g2 b s M[i]=true then M[i] :: (M.drop (i+1)).filter (g2 b s) else (M.drop (i+1)).filter (g2 b s)).length,L++if g2 b s M[i]=true then M[i] :: (M.drop (i+1)).filter (g2 b s) else (M.drop (i+1)).filter (g2 b s)):=by
    intro hg
    refine (ih (i+1) (by omega) (L++[M[i]]) (x0+1) (x0+1) (by simp;omega) (by simp;omega) (by simp;omega) F).trans ?_
    rw [if_pos hg]
    simp
   by_cases hd:m2 M[i]=1
   ·rw [qr hd,qnn hcl h hs hk,qA]
    cases hpm:pmS b s (m1 M[i]) with
    | true=>
      have hg:g2 b s M[i]=false:=by unfold g2;rw [decide_eq_true hd,hpm];rfl
      rw [b_t,hg]
      exact ih (i+1) (by omega) L x0 x9 e0 e9 (by omega) F
    | false=>
      have hg:g2 b s M[i]=true:=by unfold g2;rw [hpm];simp
      rw [b_f]
      exact add hg
   ·have hg:g2 b s M[i]=true:=by unfold g2;rw [decide_eq_false hd];rfl
    rw [qp hd]
    exact add hg
def lgL (b h:List Int) (s:Int):List (List Int):=(qx b s T_).filter (g1 b s)++(qAS b h s (qw b s)).filter (g2 b s)
theorem qlE (b h:List Int) (s:Int):(lgL b h s).length<=20000:=by
 unfold lgL
 have h1:=qP8 b s T_
 have h2:=qY1 b h s (qw b s)
 have h3:=List.length_filter_le (g1 b s) (qx b s T_)
 have h4:=List.length_filter_le (g2 b s) (qAS b h s (qw b s))
 rw [List.length_append]
 omega
theorem qXG {b:List Int} (hcl:Clean b) (h:List Int) {s:Int} (hs:s=0 \/ s=1) {k k':Nat} (hk:KS b s k) (hk':KS b (1 - s) k'):qHP b h s (qR b) (qV b)=some ((lgL b h s).length,b,h,s,qR b,qV b,(lgL b h s).length,lgL b h s):=by
 unfold qHP
 obtain ⟨es,chk,hl,hp⟩:=qYL hcl h hs hk
 have hlen:=qP8 b s T_
 have hlen2:=qY1 b h s (qw b s)
 have hlen3:=List.length_filter_le (g1 b s) (qx b s T_)
 rw [hl,qA]
 simp only
 rw [qJ1,qA]
 simp only
 rw [show (fun _:Nat=>true)=T_ from rfl,qV4 hcl,qA]
 simp only
 obtain ⟨g,hg⟩:=qk (qx b s T_).length (by omega)
 have:=qfO hcl h s hs hk hp chk (qx b s T_).length (qx b s T_) (fun m hm=>(qLO hcl h hs hm).1) (by omega) (qx b s T_).length 0 (by omega) [] 0 0 rfl rfl (by simp only [List.length_nil];omega) g
 rw [<- hg,List.drop_zero,List.nil_append] at this
 rw [show qFH qB 0 (qx b s T_).length (Int.ofNat (qx b s T_).length) 0 b h s (qR b) (qV b) s k (sLo (qw b s)) (sHi (qw b s)) chk 0 [] (qx b s T_).length (qx b s T_) es=_ from this,qA]
 simp only
 rw [qjF hcl,qA]
 simp only
 have hM:∀ m∈qAS b h s (qw b s),Mv4 m:=by
  intro m hm
  rw [qP9] at hm
  exact (qP7 hcl hs (List.mem_filter.mp hm).1).1
 obtain ⟨g,hg⟩:=qk (qAS b h s (qw b s)).length (by omega)
 have:=qfM hcl h hs hk' (qAS b h s (qw b s)).length (qAS b h s (qw b s)) hM (by omega) (qAS b h s (qw b s)).length 0 (by omega) ((qx b s T_).filter (g1 b s)) _ _ rfl rfl (by omega) g
 rw [<- hg,List.drop_zero] at this
 rw [show qEO qB ((qx b s T_).filter (g1 b s)).length (qAS b h s (qw b s)).length (Int.ofNat (qAS b h s (qw b s)).length) 0 b h s (qR b) (qV b) ((qx b s T_).filter (g1 b s)).length ((qx b s T_).filter (g1 b s)) (qAS b h s (qw b s)).length (qAS b h s (qw b s))=_ from this,qA]
 rfl
def mbM (b:List Int) (s:Int) (m:List Int):List Int:=mb b s (m0 m) (m1 m) (m2 m) (m3 m)
def mhM (b h:List Int) (s:Int) (m:List Int):List Int:=mh b h s (m1 m) (m2 m)
def qDF (b:List Int) (s:Int) (m:List Int):Bool:=!inC (mbM b s m) s
def qSm (b h:List Int) (s:Int):Bool:=(mvs b h s).all fun m=>!qDF b s m
def qI0 (b h:List Int) (s:Int) (m:List Int):Bool:=qDF b s m&&(decide (m2 m≠1) || !(inC (mbM b s m) (1 - s)&&qSm (mbM b s m) (mhM b h s m) (1 - s)))
def rlL (b h:List Int) (s:Int):List (List Int):=(mvs b h s).filter (qI0 b h s)
end Go.Kk.Pl
namespace Go.Kk.Pl
def sqL (q:Nat):List UInt8:=[UInt8.ofNat (49+q / 9),UInt8.ofNat (97+q % 9)]
def ltr (d:Nat):UInt8:=[0,80,76,78,83,71,66,82].getD d 0
def txL (f t d:Nat) (p:Bool):List UInt8:=if d≠0 then [ltr d,42]++sqL t else sqL f++sqL t++(if p then [43] else [])
def bts (l:List UInt8):ByteArray:={data:={toList:=l }}
def qo (l:List UInt8):List Int:=l.map fun x=>Int.ofNat x.toNat
theorem qSH:∀ q,q<81->qFK (Int.ofNat q)=some (bts (sqL q)):=by decide +kernel
theorem qdS:∀ q,q<81->qDA (Int.ofNat (UInt8.ofNat (49+q / 9)).toNat) (Int.ofNat (UInt8.ofNat (97+q % 9)).toNat)=some (Int.ofNat q,true):=by decide +kernel
theorem qdR:∀ q,q<81->(UInt8.ofNat (49+q / 9)).toNat<128 /\ (UInt8.ofNat (97+q % 9)).toNat<128 /\ (UInt8.ofNat (97+q % 9)).toNat≠42:=by decide +kernel
theorem qYP:∀ d,d<8->d≠0->qAm 0 (Int.ofNat d)=some (Int.ofNat d) /\ qLa (Int.ofNat d)=some (bts [ltr d]) /\ (ltr d).toNat<128 /\ qFN (Int.ofNat (ltr d).toNat) false=some (Int.ofNat d) /\ qAL (Int.ofNat d)=some 0 /\ (Int.ofNat d==8)=false:=by decide +kernel
theorem qU9 {s:ByteArray} {i:Nat} (h:(s.get! i).toNat<128):Utf8.decode s i=((s.get! i).toNat,1):=by
 unfold Utf8.decode
 simp only [Nat.add_zero]
 rw [if_pos h]
theorem qIu {l:List UInt8} {i:Nat} (hi:i<l.length):(bts l).get! i=l[i]:=by
 show (Array.mk l)[i]! = l[i]
 rw [getElem!_pos _ _ (by simpa using hi)]
 rfl
theorem qnm (l:List UInt8) (hl:l.length<=5) (h:∀ x∈l,x.toNat<128):∀ (n i:Nat),i+n=l.length->∀ F,
  qBC (F+n+1) i 0 0 0 false i (qo (l.take i)) (bts l) i=some (l.length,0,0,0,false,l.length,qo l):=by
 intro n
 induction n with
 | zero=>
   intro i hi F
   show qCR (qBC (F+0)) _ _ _ _ _ _ _ _ _=_
   unfold qCR
   have e:(bts l).size=l.length:=rfl
   rw [e,qH (by rw [Bool.eq_false_iff,ne_eq,Nat.blt_eq];omega),List.take_of_length_le (by omega),show i=l.length by omega]
 | succ n ih=>
   intro i hi F
   show qCR (qBC (F+n+1)) _ _ _ _ _ _ _ _ _=_
   unfold qCR
   have e:(bts l).size=l.length:=rfl
   have hil:i<l.length:=by omega
   have hd:Utf8.decode (bts l) i=(l[i].toNat,1):=by
    rw [qU9 (by rw [qIu hil];exact h _ (List.getElem_mem hil)),qIu hil]
   have h6:(Int.ofNat i==6)=false:=by rw [beq_eq_false_iff_ne];simp only [Int.ofNat_eq_natCast];omega
   rw [e,qD (by rw [Nat.blt_eq];omega),qH h6,qC0 (by omega)]
   unfold qAW qBg
   rw [hd]
   have e2:List.append (List.take i (qo (List.take i l))) [Int.ofNat l[i].toNat]=qo (l.take (i+1)):=by
    unfold qo
    rw [List.take_of_length_le (by simp;omega),List.append_eq]
    rw [List.take_succ_eq_append_getElem hil,List.map_append]
    rfl
   show qBC (F+n+1) (i+1) 0 0 0 false (i+1) (List.append (List.take i (qo (List.take i l))) [Int.ofNat l[i].toNat]) (bts l) (i+1)=_
   rw [e2]
   exact ih (i+1) (by omega) F
theorem qQL (l:List UInt8) (hl:l.length<=5) (h:∀ x∈l,x.toNat<128):qBC qB 0 0 0 0 false 0 [] (bts l) 0=some (l.length,0,0,0,false,l.length,qo l):=by
 obtain ⟨g,hg⟩:=qk l.length (by omega)
 have:=qnm l hl h l.length 0 (by omega) g
 rw [<- hg] at this
 exact this
theorem qSY {l:List UInt8} (h:l.length<=1000):decide (Int.ofNat (bts l).size<=qAg)=true:=by
 rw [decide_eq_true_eq]
 unfold qAg
 show ((l.length:Nat):Int)<=_
 omega
structure Nmd (f t d:Nat) (p:Bool):Prop where
 to_:t<81
 drop:d≠0->d<8 /\ f=0 /\ p=false
 move:d=0->f<81 /\ f≠t
theorem qEJ {n:Nat} (h:n<=1000):qAb n=true:=by rw [qMa];unfold qAg;simp only [Int.ofNat_eq_natCast];omega
theorem qhe {f t d:Nat} {p:Bool} (h:Nmd f t d p):qDj (Int.ofNat f) (Int.ofNat t) (Int.ofNat d) p=some 0:=by
 have:=h.to_
 unfold qDj
 simp only [Int.ofNat_eq_natCast]
 rw [qY (by omega),qH (by simp;omega)]
 by_cases hd:d=0
 ·obtain ⟨h1,h2⟩:=h.move hd
  have e:((f:Int)==(t:Int))=false:=by rw [beq_eq_false_iff_ne];omega
  rw [qH (by simp [hd]),qY (by omega),qH (by simp;omega),qH e]
 ·obtain ⟨h1,h2,h3⟩:=h.drop hd
  subst h2 h3
  rw [qD (by simp;omega),qY (by omega),qH (by simp;omega),qH (by simp),qH rfl]
theorem qei {f t d:Nat} {p:Bool} (h:Nmd f t d p):qDl (Int.ofNat f) (Int.ofNat t) (Int.ofNat d) p=some (bts (txL f t d p)):=by
 unfold qDl txL
 rw [qhe h,qA,qH (by rfl)]
 by_cases hd:d=0
 ·obtain ⟨h1,h2⟩:=h.move hd
  subst hd
  rw [qH (by rfl),qSH f h1,qSH t h.to_,if_neg (by simp)]
  simp only [qA]
  cases p with
  | true=>
    rw [b_t,qD (qEJ (by show 4<=1000;omega)),qD (qEJ (by show 5<=1000;omega))]
    rfl
  | false=>
    rw [b_f,qD (qEJ (by show 4<=1000;omega))]
    simp only [Bool.false_eq_true,if_false,List.append_nil]
    rfl
 ·obtain ⟨h1,h2,h3⟩:=h.drop hd
  obtain ⟨e1,e2,e3,e4,e5,e6⟩:=qYP d h1 hd
  rw [qD (by simp;omega),e1,qA,e2,qA,qD (qEJ (by show 2<=1000;omega)),qSH t h.to_,qA,qD (qEJ (by show 4<=1000;omega)),if_pos hd]
  rfl
theorem qZN {f t d:Nat} {p:Bool} (h:Nmd f t d p):qDk (bts (txL f t d p))=some (Int.ofNat f,Int.ofNat t,Int.ofNat d,p,0):=by
 have st:=qdS t h.to_
 have at_:=qdR t h.to_
 by_cases hd:d=0
 ·obtain ⟨h1,h2⟩:=h.move hd
  have sf:=qdS f h1
  have af:=qdR f h1
  have e42:(Int.ofNat (UInt8.ofNat (97+f % 9)).toNat==42)=false:=by rw [beq_eq_false_iff_ne];intro e;exact af.2.2 (by injection e)
  have eft:(Int.ofNat f==Int.ofNat t)=false:=by rw [beq_eq_false_iff_ne];intro e;exact h2 (by injection e)
  subst hd
  unfold txL
  rw [if_neg (by simp)]
  cases p with
  | true=>
    have hl:∀ x∈(sqL f++sqL t++(if true=true then [43] else []):List UInt8),x.toNat<128:=by
     intro x hx
     simp only [if_true,sqL,List.cons_append,List.nil_append,List.mem_cons,List.not_mem_nil,or_false] at hx
     rcases hx with rfl | rfl | rfl | rfl | rfl
     ·exact af.1
     ·exact af.2.1
     ·exact at_.1
     ·exact at_.2.1
     ·decide
    unfold qDk
    rw [qD (qSY (by simp [sqL])),qQL _ (by simp [sqL]) hl,qA]
    simp only [if_true,sqL,List.cons_append,List.nil_append,qo,List.map_cons,List.map_nil,List.length_cons,List.length_nil,List.getD_cons_zero,List.getD_cons_succ]
    rw [qD (by rfl),qH (by rfl),qD (by rfl),qH e42,qD (by rfl),qD (by rfl),sf,qA]
    simp only
    rw [qD (by rfl),qD (by rfl),st,qA]
    simp only
    rw [qH (by rfl),qH (by rfl),qH eft,qD (by rfl),qD (by rfl),qH (by rfl)]
    rfl
  | false=>
    have hl:∀ x∈(sqL f++sqL t++(if false=true then [43] else []):List UInt8),x.toNat<128:=by
     intro x hx
     simp only [Bool.false_eq_true,if_false,sqL,List.cons_append,List.nil_append,List.mem_cons,List.not_mem_nil,or_false] at hx
     rcases hx with rfl | rfl | rfl | rfl
     ·exact af.1
     ·exact af.2.1
     ·exact at_.1
     ·exact at_.2.1
    unfold qDk
    rw [qD (qSY (by simp [sqL])),qQL _ (by simp [sqL]) hl,qA]
    simp only [Bool.false_eq_true,if_false,sqL,List.cons_append,List.nil_append,qo,List.map_cons,List.map_nil,List.length_cons,List.length_nil,List.getD_cons_zero,List.getD_cons_succ]
    rw [qH (by rfl),qD (by rfl),qH e42,qD (by rfl),qD (by rfl),sf,qA]
    simp only
    rw [qD (by rfl),qD (by rfl),st,qA]
    simp only
    rw [qH (by rfl),qH (by rfl),qH eft,qH (by rfl)]
    rfl
 ·obtain ⟨h1,h2,h3⟩:=h.drop hd
  obtain ⟨e1,e2,e3,e4,e5,e6⟩:=qYP d h1 hd
  subst h2 h3
  unfold txL
  rw [if_pos hd]
  have hl:∀ x∈([ltr d,42]++sqL t:List UInt8),x.toNat<128:=by
   intro x hx
   simp only [sqL,List.cons_append,List.nil_append,List.mem_cons,List.not_mem_nil,or_false] at hx
   rcases hx with rfl | rfl | rfl | rfl
   ·exact e3
   ·decide
   ·exact at_.1
   ·exact at_.2.1
  unfold qDk
  rw [qD (qSY (by simp [sqL])),qQL _ (by simp [sqL]) hl,qA]
  simp only [sqL,List.cons_append,List.nil_append,qo,List.map_cons,List.map_nil,List.length_cons,List.length_nil,List.getD_cons_zero,List.getD_cons_succ]
  rw [qH (by rfl),qD (by rfl),qD (by rfl),qD (by rfl),e4,qA,qD (by rfl),qD (by rfl),st,qA]
  simp only
  rw [e5,qA,qH (by rfl),qH e6,qH (by rfl),qH (by rfl)]
  rfl
end Go.Kk.Pl
namespace Go.Kk.Pl
def qa:List (List UInt8)->List UInt8
 | []=>[]
 | [p]=>p
 | p :: q :: r=>p++32 :: qa (q :: r)
theorem qF6 (p:List UInt8) {r:List (List UInt8)} (h:r≠[]):qa (p :: r)=p++32 :: qa r:=by
 cases r with
 | nil=>exact absurd rfl h
 | cons q r=>rfl
theorem qOt (q:List UInt8):∀ {ps:List (List UInt8)},ps≠[]->qa (ps++[q])=qa ps++32 :: q
 | [],h=>absurd rfl h
 | [p],_=>rfl
 | p :: a :: r,_=>by
   have:=qOt q (ps:=a :: r) (by simp)
   show p++32 :: qa ((a :: r)++[q])=(p++32 :: qa (a :: r))++32 :: q
   rw [this]
   simp
theorem qOr:∀ ps:List (List UInt8),List.intercalate [32] ps=qa ps
 | []=>rfl
 | [p]=>by simp [List.intercalate,qa]
 | p :: q :: r=>by
   have:=qOr (q :: r)
   rw [qF6 p (by simp),<- this]
   simp [List.intercalate]
theorem qoD (l:List UInt8):∃ ps,ps≠[] /\ (∀ p∈ps,(32:UInt8) ∉ p) /\ l=qa ps:=by
 induction l with
 | nil=>exact ⟨[[]],by simp,fun p hp=>by simp at hp;subst hp;simp,rfl⟩
 | cons b l ih=>
   obtain ⟨ps,h1,h2,h3⟩:=ih
   by_cases hb:b=32
   ·subst hb
    refine ⟨[] :: ps,by simp,fun p hp=>?_,?_⟩
    ·rcases List.mem_cons.1 hp with rfl | hp
     ·simp
     ·exact h2 p hp
    ·rw [qF6 [] h1,h3];rfl
   ·cases ps with
    | nil=>exact absurd rfl h1
    | cons p r=>
      refine ⟨(b :: p) :: r,by simp,fun x hx=>?_,?_⟩
      ·rcases List.mem_cons.1 hx with rfl | hx
       ·intro hm
        rcases List.mem_cons.1 hm with h | h
        ·exact hb h.symm
        ·exact h2 p (by simp) h
       ·exact h2 x (by simp [hx])
      ·rw [h3]
       cases r with
       | nil=>rfl
       | cons q r=>rfl
theorem qOq:∀ {ps:List (List UInt8)},(∀ p∈ps,(32:UInt8) ∉ p)->ps≠[]->(qa ps).count 32+1=ps.length
 | [],_,h=>absurd rfl h
 | [p],h,_=>by
   have:=List.count_eq_zero.2 (h p (by simp))
   simp [qa,this]
 | p :: q :: r,h,_=>by
   have h1:=List.count_eq_zero.2 (h p (by simp))
   have h2:=qOq (ps:=q :: r) (fun x hx=>h x (by simp at hx ⊢;right;exact hx)) (by simp)
   rw [qF6 p (by simp),List.count_append,h1,List.count_cons_self]
   simp only [List.length_cons] at h2 ⊢
   omega
theorem qjk {p:List UInt8} (r:List UInt8) (h:(32:UInt8) ∉ p):qCl 32 (p++32 :: r)=some p.length:=by
 induction p with
 | nil=>rfl
 | cons b p ih=>
   have hb:(b==32)=false:=by rw [beq_eq_false_iff_ne];rintro rfl;exact h (by simp)
   show qCl 32 (b :: (p++32 :: r))=_
   unfold qCl
   rw [hb,ih fun hm=>h (by simp [hm])]
   rfl
theorem qVh (l:List UInt8) (a b:Nat):(bts l).extract a b=bts ((l.take b).drop a):=by
 have h1:((bts l).extract a b).data=(bts ((l.take b).drop a)).data:=by
  rw [ByteArray.data_extract]
  apply Array.ext'
  rw [Array.toList_extract]
  show l.extract a b=_
  rw [List.extract_eq_take_drop,List.drop_take]
  rfl
 cases h:(bts l).extract a b with
 | mk d=>rw [h] at h1;show ByteArray.mk d=_;simp only at h1;rw [h1]
theorem qDI (l:List UInt8):(bts l).size=l.length:=rfl
theorem qSX {l:List UInt8} (h:l.length<=1000000):decide (Int.ofNat (bts l).size<=qAg)=true:=by
 rw [decide_eq_true_eq]
 unfold qAg
 show ((l.length:Nat):Int)<=_
 omega
theorem qEI {n:Nat} (h:n<=1000000):qAb n=true:=by rw [qMa];unfold qAg;simp only [Int.ofNat_eq_natCast];omega
theorem qSV (a b:List UInt8):qAa (bts a) (bts b)=decide (a=b):=by
 unfold qAa
 show (a==b)=_
 rw [Bool.eq_iff_iff,beq_iff_eq,decide_eq_true_eq]
def qBV:ByteArray:={data:=#[32]}
theorem qJ8:decide (Int.ofNat (ByteArray.size qBV)<=qAg)=true:=qSX (l:=[32]) (by simp)
theorem qjp {l:List UInt8} (hl:l.length<=1000000) (h2:l≠[32]):qD5 (bts l) qBV=some (qHI (bts l) 32):=by
 unfold qD5 qJk
 have e0:qAa qBV (bts l)=false:=by
  have:=qSV [32] l
  show qAa (bts [32]) (bts l)=false
  rw [this,decide_eq_false_iff_not]
  exact fun h=>h2 h.symm
 have e1:=qJ8
 rw [qD e1,qH (by rfl),qH e0,qD (by rfl),qD (by rfl)]
 unfold qMh
 rw [qD (qEI (by rw [qDI];exact hl))]
 rfl
theorem qjn:qD5 (bts [32]) qBV=some 0:=by
 show qD5 qBV qBV=some 0
 unfold qD5 qJk
 rw [qD qJ8,qH (by rfl),qD (by rfl)]
 rfl
theorem qjo {p:List UInt8} (r:List UInt8) (h:(32:UInt8) ∉ p) (hl:(p++32 :: r).length<=1000000):qD5 (bts (p++32 :: r)) qBV=some (p.length:Int):=by
 by_cases h2:p++32 :: r=[32]
 ·have hp:p=[]:=by
   cases p with
   | nil=>rfl
   | cons b p=>simp at h2
  subst hp
  rw [h2]
  exact qjn
 ·rw [qjp hl h2]
  unfold qHI
  show some (match qCl 32 (p++32 :: r) with
   | some i=>Int.ofNat i
   | none=>-1)=_
  rw [qjk r h]
  rfl
theorem qh8 {l:List UInt8} (hl:l.length<=1000000):qJi (bts l) qBV=some (Int.ofNat (l.count 32)):=by
 unfold qJi
 have e1:=qJ8
 rw [qD e1,qH (by rfl),qD (by rfl),qD (by rfl)]
 rw [qD (qEI (by rw [qDI];exact hl))]
 rfl
def qBY (p:List UInt8):List Int:=[qAC (bts p)]
theorem qsC:∀ (k:Nat) (ps:List (List UInt8)),ps.length=k+1->(∀ p∈ps,(32:UInt8) ∉ p)->(qa ps).length<=1000000->∀ (n i:Nat),i+k+1=n->n<=1000001->∀ (A:List (List Int)),A.length=i->∀ F,
  ∃ q,ps.getLast? = some q /\ qEi (F+k+1) (bts (qa ps)) qBV 0 ((n:Int) - 1) n i n (A++List.replicate (k+1) [0])=some (bts q,n,(n:Int) - 1,n,A++(ps.dropLast.map qBY)++[[0]]):=by
 intro k
 induction k with
 | zero=>
   intro ps hps hsp hl n i hi hn A hA F
   match ps,hps with
   | [q],_=>
     refine ⟨q,rfl,?_⟩
     rw [qEi.eq_2]
     unfold qMg
     rw [qY (by omega)]
     simp only [qa,List.dropLast_singleton,List.map_nil,List.append_nil]
     rw [show (i:Int)=(n:Int) - 1 by omega]
     rfl
 | succ k ih=>
   intro ps hps hsp hl n i hi hn A hA F
   match ps,hps with
   | p :: q :: r,hps=>
     have hl1:(p++32 :: qa (q :: r)).length<=1000000:=hl
     obtain ⟨z,e1,e2⟩:=ih (q :: r) (by simpa using hps) (fun x hx=>hsp x (List.mem_cons_of_mem _ hx)) (by rw [List.length_append,List.length_cons] at hl1;omega) n (i+1) (by omega) hn (A++[qBY p]) (by simp [hA]) F
     refine ⟨z,by rw [List.getLast?_cons_cons];exact e1,?_⟩
     rw [qEi.eq_2]
     unfold qMg
     have hp:=hsp p (by simp)
     rw [qi (by omega),qF6 p (by simp),qjo _ hp hl1,qA,qY (by omega)]
     have hlen:(p++32 :: qa (q :: r)).length=p.length+1+(qa (q :: r)).length:=by simp;omega
     have w0:IntKind.wrap .i64 ((p.length:Int)+0)=(p.length:Int):=by rw [Int.add_zero];exact w_s (by omega) (by omega)
     have w1:IntKind.wrap .i64 ((p.length:Int)+Int.ofNat (ByteArray.size qBV))=((p.length+1:Nat):Int):=by
      show IntKind.wrap .i64 ((p.length:Int)+1)=_
      rw [w_s (by omega) (by omega)]
      omega
     rw [w0,w1,qD (by rw [qDI,qKm (by omega) (by omega)];rfl),qn (by omega) (by omega),qD qJ8,qD (by rw [qDI,qKm (by omega) (by omega)];rfl)]
     rw [tn,tn,tn,qVh,qVh,qDI,w_s (n:=(i:Int)+1) (by omega) (by omega)]
     have t1:((p++32 :: qa (q :: r)).take (p++32 :: qa (q :: r)).length).drop (p.length+1)=qa (q :: r):=by
      rw [List.take_length,List.drop_append,List.drop_of_length_le (by omega)]
      simp
     have t2:((p++32 :: qa (q :: r)).take p.length).drop 0=p:=by simp
     rw [t1,t2]
     have t3:(A++List.replicate (k+1+1) [0]).getD i []=[0]:=by
      rw [List.getD_eq_getElem?_getD,List.getElem?_append_right (by omega),hA,Nat.sub_self]
      rfl
     have t4:(A++List.replicate (k+1+1) [0]).set i (List.set [0] 0 (qAC (bts p)))=(A++[qBY p])++List.replicate (k+1) [0]:=by
      rw [List.set_append_right _ _ (by omega),hA,Nat.sub_self]
      simp [List.replicate_succ,qBY]
     rw [t3,t4]
     refine e2.trans ?_
     simp
theorem qsD {ps:List (List UInt8)} (h0:ps≠[]) (hsp:∀ p∈ps,(32:UInt8) ∉ p) (hl:(qa ps).length<=100000):qJj (bts (qa ps)) qBV=some (ps.length,ps.length,ps.map qBY):=by
 have hc:=qOq hsp h0
 have hcl:(qa ps).count 32<=(qa ps).length:=List.count_le_length
 obtain ⟨k,hk⟩:∃ k,ps.length=k+1:=⟨(qa ps).count 32,hc.symm⟩
 have hkc:(qa ps).count 32=k:=by omega
 unfold qJj qMe
 have e2:qAa qBV { data:=#[]}=false:=by rfl
 rw [qH (by rfl),qH e2,qD (by rfl),qh8 (by omega),qA,qD (qSX (by omega)),qDI,hkc]
 have w1:IntKind.wrap .i64 (Int.ofNat k+1)=((k+1:Nat):Int):=by
  rw [show Int.ofNat k=(k:Int) from rfl,w_s (by omega) (by omega)];omega
 have w2:IntKind.wrap .i64 (Int.ofNat (qa ps).length+1)=(((qa ps).length+1:Nat):Int):=by
  rw [show Int.ofNat (qa ps).length=((qa ps).length:Int) from rfl,w_s (by omega) (by omega)];omega
 have hmin:(bif true then bif decide ((((qa ps).length+1:Nat):Int)<((k+1:Nat):Int)) then (((qa ps).length+1:Nat):Int) else ((k+1:Nat):Int) else bif decide ((((qa ps).length+1:Nat):Int)>((k+1:Nat):Int)) then (((qa ps).length+1:Nat):Int) else ((k+1:Nat):Int))=((k+1:Nat):Int):=by
  rw [decide_eq_false (p:=(((qa ps).length+1:Nat):Int)<((k+1:Nat):Int)) (by omega)]
  rfl
 rw [w1,w2,hmin]
 rw [qD (by rw [decide_eq_true_eq];omega),qD (by rw [decide_eq_true_eq];omega),qD (by rw [decide_eq_true_eq];omega)]
 have w3:IntKind.wrap .i64 (((k+1:Nat):Int) - 1)=((k+1:Nat):Int) - 1:=w_s (by omega) (by omega)
 rw [w3,tn]
 obtain ⟨g,hg⟩:=qk k (by omega)
 obtain ⟨q,q1,q2⟩:=qsC k ps hk hsp (by omega) (k+1) 0 (by omega) (by omega) [] rfl g
 rw [<- hg] at q2
 rw [List.nil_append,List.nil_append] at q2
 rw [show qEi qB (bts (qa ps)) qBV 0 (((k+1:Nat):Int) - 1) (k+1) 0 (k+1) (List.replicate (k+1) [0])=_ from q2,qA]
 simp only
 have hdl:ps.dropLast.length=k:=by rw [List.length_dropLast];omega
 rw [qD (qAO (by omega) (by omega))]
 have w4:IntKind.wrap .i64 (((k+1:Nat):Int) - 1+1)=((k+1:Nat):Int):=by rw [w_s (by omega) (by omega)];omega
 rw [w4,qD (qKm (by omega) (by omega))]
 have w5:Int.toNat (((k+1:Nat):Int) - 1)=k:=by omega
 rw [w5,tn]
 have t3:(ps.dropLast.map qBY++[[0]]).getD k []=[0]:=by
  rw [List.getD_eq_getElem?_getD,List.getElem?_append_right (by rw [List.length_map];omega),List.length_map,hdl,Nat.sub_self]
  rfl
 have t4:(ps.dropLast.map qBY++[[0]]).set k (List.set [0] 0 (qAC (bts q)))=ps.map qBY:=by
  rw [List.set_append_right _ _ (by rw [List.length_map];omega),List.length_map,hdl,Nat.sub_self]
  have:ps=ps.dropLast++[q]:=by
   have hq:ps.getLast h0=q:=by rw [List.getLast?_eq_some_getLast h0] at q1;exact Option.some.inj q1
   rw [<- hq,List.dropLast_concat_getLast h0]
  conv=>rhs;rw [this]
  rw [List.map_append]
  rfl
 rw [t3,t4,hk]
 rfl
end Go.Kk.Pl
