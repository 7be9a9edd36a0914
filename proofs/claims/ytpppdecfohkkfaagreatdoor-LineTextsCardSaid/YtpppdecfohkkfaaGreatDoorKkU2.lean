/- What the program's functions come to, told plainly: the texts of this project that this claim leans on, cut down to what is used. -/
import Derived.Test.YtpppdecfohkkfaaGreatDoorKkU1
namespace Go.Kk.Pl
def qBr (dx dy:Int):Nat->Int->List Nat
 | 0,_=>[]
 | n+1,p=>if p<0 then [] else p.toNat :: qBr dx dy n (qBA dx dy p.toNat)
def qAM (t:Nat->Bool):List Nat->Nat->Bool
 | [],_=>false
 | s :: L,c=>decide (c=s)||(!t s&&qAM t L c)
def qDJ (dx dy:Int):Nat->Int->Bool
 | 0,p=>decide (p<0)
 | n+1,p=>decide (p<0)||qDJ dx dy n (qBA dx dy p.toNat)
theorem qUZ (dx dy:Int) (a:Nat):-1<=qBA dx dy a /\ qBA dx dy a<81:=by unfold qBA;split<;>omega
theorem qo9 {dx dy:Int} (h1:-8<=dx) (h2:dx<=8) (h3:-8<=dy) (h4:dy<=8) (t:Nat->Bool) (u v:Int):∀ (n:Nat) (p:Int),-1<=p->p<81->qDJ dx dy n p=true->∀ (f:Nat->Bool) (F:Nat),
  qFp (F+n+1) p dx dy (sLo t) (sHi t) u v (sLo f) (sHi f)=some (u,v,sLo fun c=>f c||qAM t (qBr dx dy n p) c,sHi fun c=>f c||qAM t (qBr dx dy n p) c):=by
 intro n
 induction n with
 | zero=>
   intro p hp0 hp1 he f F
   show qHO (qFp (F+0)) _ _ _ _ _ _ _ _ _=_
   unfold qHO
   simp only [qDJ,decide_eq_true_eq] at he
   rw [qCN (by omega)]
   have:(fun c=>f c||qAM t (qBr dx dy 0 p) c)=f:=by funext c;simp [qBr,qAM]
   rw [this]
 | succ n ih=>
   intro p hp0 hp1 he f F
   show qHO (qFp (F+n+1)) _ _ _ _ _ _ _ _ _=_
   unfold qHO
   by_cases hp:p<0
   ·rw [qCN (by omega)]
    have:(fun c=>f c||qAM t (qBr dx dy (n+1) p) c)=f:=by funext c;simp [qBr,qAM,hp]
    rw [this]
   ·obtain ⟨q,rfl⟩:∃ q:Nat,p=q:=⟨p.toNat,by omega⟩
    have hq:q<81:=by omega
    rw [qDA (by omega),qGB,qA]
    simp only
    rw [qDt,qA]
    have hhas:has t q=t q:=by unfold has;simp;intro _;omega
    have hL:qBr dx dy (n+1) q=q :: qBr dx dy n (qBA dx dy q):=by simp [qBr]
    rw [hhas,hL]
    cases ht:t q with
    | true=>
      rw [b_t]
      obtain ⟨e1,e2⟩:=qBu (f:=fun i=>f i||only q i) (g:=fun c=>f c||qAM t (q :: qBr dx dy n (qBA dx dy q)) c) fun c hc=>by
       unfold qAM only
       rw [ht]
       have:decide ((c:Int)=(q:Int))=decide (c=q):=by rw [decide_eq_decide];omega
       rw [this];simp
      rw [e1,e2]
    | false=>
      rw [b_f,qNe h1 h2 h3 h4 hq,qA]
      obtain ⟨r1,r2⟩:=qUZ dx dy q
      have he':qDJ dx dy n (qBA dx dy q)=true:=by
       simp only [qDJ,Bool.or_eq_true,decide_eq_true_eq] at he
       rcases he with he | he
       ·omega
       ·simpa using he
      refine (ih _ r1 r2 he' _ F).trans ?_
      obtain ⟨e1,e2⟩:=qBu (f:=fun c=>(f c||only q c)||qAM t (qBr dx dy n (qBA dx dy q)) c) (g:=fun c=>f c||qAM t (q :: qBr dx dy n (qBA dx dy q)) c) fun c hc=>by
       unfold only
       have:decide ((c:Int)=(q:Int))=decide (c=q):=by rw [decide_eq_decide];omega
       rw [this]
       show _=(f c||(decide (c=q)||(!t q&&qAM t (qBr dx dy n (qBA dx dy q)) c)))
       rw [ht]
       simp [Bool.or_assoc]
      rw [e1,e2]
def qA4 (dx dy:Int) (a:Nat):List Nat:=qBr dx dy 9 (qBA dx dy a)
theorem qff:∀ (d:Fin 9) (a:Fin 81),(d.val=4 \/ qDJ ((d.val / 3:Nat) - 1) ((d.val % 3:Nat) - 1) 9 (qBA ((d.val / 3:Nat) - 1) ((d.val % 3:Nat) - 1) a.val)=true):=by decide +kernel
theorem qcI {dx dy:Int} (h1:-1<=dx) (h2:dx<=1) (h3:-1<=dy) (h4:dy<=1) (hne:¬ (dx=0 /\ dy=0)) {a:Nat} (ha:a<81) (t:Nat->Bool):
  qHN a dx dy (sLo t) (sHi t)=some (sLo (qAM t (qA4 dx dy a)),sHi (qAM t (qA4 dx dy a))):=by
 unfold qHN
 rw [qE (by rw [Bool.and_eq_false_iff];simp;omega),qNe (by omega) (by omega) (by omega) (by omega) ha,qA]
 obtain ⟨r1,r2⟩:=qUZ dx dy a
 have he:qDJ dx dy 9 (qBA dx dy a)=true:=by
  have:=qff ⟨((dx+1)*3+(dy+1)).toNat,by omega⟩ ⟨a,ha⟩
  simp only at this
  rw [show (((((dx+1)*3+(dy+1)).toNat / 3:Nat):Int) - 1)=dx by omega,show (((((dx+1)*3+(dy+1)).toNat % 3:Nat):Int) - 1)=dy by omega] at this
  exact this.resolve_left (by omega)
 obtain ⟨g,hg⟩:=ql 9 (by omega)
 have:=qo9 (by omega) (by omega) (by omega) (by omega) t 0 0 9 _ r1 r2 he (fun _=>false) g
 rw [<- hg,qBf,qBe] at this
 rw [this,qA]
 simp only [Bool.false_or]
 rfl
def qH9 (a c:Nat):Bool:=decide (qBN a c=0)||((qA4 (sgn (df a c)) (sgn (dr a c)) a).take (btw a c).length==btw a c&&((qA4 (sgn (df a c)) (sgn (dr a c)) a)[(btw a c).length]? == some c && !(btw a c).contains c))
def qNH (a:Nat) (dx dy:Int):Bool:=(qA4 dx dy a).all fun c=>decide (c<81)&&(decide (qBN a c≠0)&&(decide (sgn (df a c)=dx)&&decide (sgn (dr a c)=dy)))
theorem qJk:∀ (a c:Fin 81),qH9 a.val c.val=true:=by decide +kernel
theorem qTS:∀ (d:Fin 9) (a:Fin 81),(d.val=4 \/ qNH a.val ((d.val / 3:Nat) - 1) ((d.val % 3:Nat) - 1)=true):=by decide +kernel
theorem qbz (t:Nat->Bool) {c:Nat}:∀ (P Q:List Nat),c ∉ P->qAM t (P++c :: Q) c=P.all fun s=>!t s
 | [],Q,_=>by simp [qAM]
 | s :: P,Q,h=>by
   simp only [List.mem_cons,not_or] at h
   show (decide (c=s)||(!t s&&qAM t (P++c :: Q) c))=_
   rw [qbz t P Q h.2,List.all_cons,show decide (c=s)=false by simpa using h.1,Bool.false_or]
theorem qbx (t:Nat->Bool) {c:Nat}:∀ (P:List Nat),c ∉ P->qAM t P c=false
 | [],_=>rfl
 | s :: P,h=>by
   simp only [List.mem_cons,not_or] at h
   show (decide (c=s)||(!t s&&qAM t P c))=_
   rw [qbx t P h.2,show decide (c=s)=false by simpa using h.1];simp
def onW (dx dy:Int) (a c:Nat):Bool:=decide (qBN a c≠0 /\ sgn (df a c)=dx /\ sgn (dr a c)=dy)
theorem qb0 {dx dy:Int} (h1:-1<=dx) (h2:dx<=1) (h3:-1<=dy) (h4:dy<=1) (hne:¬ (dx=0 /\ dy=0)) {a c:Nat} (ha:a<81) (hc:c<81) (t:Nat->Bool):
  qAM t (qA4 dx dy a) c=(onW dx dy a c&&qBm a c t):=by
 unfold onW
 by_cases h:qBN a c≠0 /\ sgn (df a c)=dx /\ sgn (dr a c)=dy
 ·obtain ⟨hl,rfl,rfl⟩:=h
  have:=qJk ⟨a,ha⟩ ⟨c,hc⟩
  simp only [qH9,Bool.or_eq_true,decide_eq_true_eq,Bool.and_eq_true,beq_iff_eq,Bool.not_eq_true'] at this
  obtain ⟨e1,e2,e3⟩:=this.resolve_left hl
  have hlt:(btw a c).length<(qA4 (sgn (df a c)) (sgn (dr a c)) a).length:=getElem?_lt e2
  have hsp:qA4 (sgn (df a c)) (sgn (dr a c)) a=btw a c++c :: (qA4 (sgn (df a c)) (sgn (dr a c)) a).drop ((btw a c).length+1):=by
   have:=qLh e2
   rw [e1] at this
   exact this
  rw [hsp,qbz t _ _ (by simpa using e3)]
  simp [hl,qBm]
 ·have hn:c ∉ qA4 dx dy a:=by
   intro hm
   have:=qTS ⟨((dx+1)*3+(dy+1)).toNat,by omega⟩ ⟨a,ha⟩
   simp only at this
   rw [show (((((dx+1)*3+(dy+1)).toNat / 3:Nat):Int) - 1)=dx by omega,show (((((dx+1)*3+(dy+1)).toNat % 3:Nat):Int) - 1)=dy by omega] at this
   have:=this.resolve_left (by omega)
   unfold qNH at this
   rw [List.all_eq_true] at this
   have:=this c hm
   simp only [Bool.and_eq_true,decide_eq_true_eq] at this
   exact h ⟨this.2.1,this.2.2.1,this.2.2.2⟩
  rw [qbx t _ hn]
  rw [decide_eq_false h,Bool.false_and]
def qAL (k:Int):List (List Int):=if k=2 then [[0,-1]] else if k=6 \/ k=14 then [[-1,-1],[1,-1],[-1,1],[1,1]] else if k=7 \/ k=15 then [[0,-1],[-1,0],[1,0],[0,1]] else []
theorem qPy (k:Int):qFo k=some ((qAL k).length,(qAL k).length,qAL k):=by
 unfold qFo qAL
 by_cases h2:k=2
 ·rw [qAd h2,if_pos h2];rfl
 rw [qAX h2,if_neg h2]
 by_cases h6:k=6
 ·rw [qAd h6,if_pos (.inl h6)];rfl
 rw [qAX h6]
 by_cases h14:k=14
 ·rw [qAd h14,if_pos (.inr h14)];rfl
 rw [qAX h14,if_neg (by omega)]
 by_cases h7:k=7
 ·rw [qAd h7,if_pos (.inl h7)];rfl
 rw [qAX h7]
 by_cases h15:k=15
 ·rw [qAd h15,if_pos (.inr h15)];rfl
 rw [qAX h15,if_neg (by omega)];rfl
theorem qlM (k:Int):(qAL k).length<=8 /\ ∀ r∈qAL k,r.length<=2 /\ -1<=dx_ r /\ dx_ r<=1 /\ -1<=dy_ r /\ dy_ r<=1 /\ ¬ (dx_ r=0 /\ dy_ r=0):=by
 have h1:∀ r∈[[0,-1]],(r:List Int).length<=2 /\ -1<=dx_ r /\ dx_ r<=1 /\ -1<=dy_ r /\ dy_ r<=1 /\ ¬ (dx_ r=0 /\ dy_ r=0):=by decide
 have h2:∀ r∈[[-1,-1],[1,-1],[-1,1],[1,1]],(r:List Int).length<=2 /\ -1<=dx_ r /\ dx_ r<=1 /\ -1<=dy_ r /\ dy_ r<=1 /\ ¬ (dx_ r=0 /\ dy_ r=0):=by decide
 have h3:∀ r∈[[0,-1],[-1,0],[1,0],[0,1]],(r:List Int).length<=2 /\ -1<=dx_ r /\ dx_ r<=1 /\ -1<=dy_ r /\ dy_ r<=1 /\ ¬ (dx_ r=0 /\ dy_ r=0):=by decide
 unfold qAL
 split
 ·exact ⟨by decide,h1⟩
 ·split
  ·exact ⟨by decide,h2⟩
  ·split
   ·exact ⟨by decide,h3⟩
   ·exact ⟨by decide,fun r hr=>by cases hr⟩
def qC8 (x:Int) (L:List (List Int)) (a c:Nat):Bool:=L.any fun r=>onW (sg x*dx_ r) (sg x*dy_ r) a c
theorem qk3 {x:Int} {a:Nat} (ha:a<81) (t:Nat->Bool) (L:List (List Int)) (hlen:L.length<=8) (hr:∀ r∈L,r.length<=2 /\ -1<=dx_ r /\ dx_ r<=1 /\ -1<=dy_ r /\ dy_ r<=1 /\ ¬ (dx_ r=0 /\ dy_ r=0)) (N:Nat) (u v:Int):
  ∀ (n i:Nat),i+n=L.length->∀ (f:Nat->Bool) (F:Nat),qE3 (F+n+1) x a L.length (Int.ofNat L.length) i (sLo t) (sHi t) u v (sLo f) (sHi f) N L =
    some (u,v,sLo fun c=>f c||(qC8 x (L.drop i) a c&&qBm a c t),sHi fun c=>f c||(qC8 x (L.drop i) a c&&qBm a c t)):=by
 intro n
 induction n with
 | zero=>
   intro i hi f F
   show qHM (qE3 (F+0)) _ _ _ _ _ _ _ _ _ _ _ _ _=_
   unfold qHM
   rw [qZ (by simp;omega),List.drop_eq_nil_of_le (by omega)]
   have:(fun c=>f c||(qC8 x [] a c&&qBm a c t))=f:=by funext c;simp [qC8]
   rw [this]
 | succ n ih=>
   intro i hi f F
   show qHM (qE3 (F+n+1)) _ _ _ _ _ _ _ _ _ _ _ _ _=_
   unfold qHM
   have hil:i<L.length:=by omega
   have hget:L.getD i []=L[i]:=by rw [List.getD_eq_getElem?_getD,List.getElem?_eq_getElem hil];rfl
   obtain ⟨r0,r1,r2,r3,r4,r5⟩:=hr L[i] (List.getElem_mem hil)
   have ht:List.take 2 L[i]=L[i]:=List.take_of_length_le r0
   have hs:=qaU x
   have c1:-1<=sg x*dx_ L[i] /\ sg x*dx_ L[i]<=1 /\ -1<=sg x*dy_ L[i] /\ sg x*dy_ L[i]<=1 /\ ¬ (sg x*dx_ L[i]=0 /\ sg x*dy_ L[i]=0):=by
    rcases hs with h | h<;>rw [h]<;>omega
   rw [qg (by simp;omega),qAN (by omega) (by omega),tn,hget,ht,qEM,qA]
   show ob (qFC (dx_ L[i]) (dy_ L[i]) (sd x)) _=_
   rw [qbu (by omega),qA]
   simp only
   rw [qcI c1.1 c1.2.1 c1.2.2.1 c1.2.2.2.1 c1.2.2.2.2 ha,qA]
   simp only
   rw [qHE,qA]
   simp only
   rw [w_s (by omega) (by omega)]
   refine (ih (i+1) (by omega) _ F).trans ?_
   have hd:L.drop i=L[i] :: L.drop (i+1):=List.drop_eq_getElem_cons hil
   obtain ⟨e1,e2⟩:=qBu (f:=fun c=>(f c||qAM t (qA4 (sg x*dx_ L[i]) (sg x*dy_ L[i]) a) c)||(qC8 x (L.drop (i+1)) a c&&qBm a c t)) (g:=fun c=>f c||(qC8 x (L.drop i) a c&&qBm a c t)) fun c hc=>by
    rw [qb0 c1.1 c1.2.1 c1.2.2.1 c1.2.2.2.1 c1.2.2.2.2 ha hc,hd]
    unfold qC8
    rw [List.any_cons,Bool.and_or_distrib_right,Bool.or_assoc]
   rw [e1,e2]
def qDx (d e:Int):Prop:=¬ (d=0 /\ e=0) /\ (d=0 \/ e=0 \/ d=e \/ d = -e)
instance (d e:Int):Decidable (qDx d e):=by unfold qDx;infer_instance
theorem qKZ (a c:Nat):qBN a c≠0↔qDx (df a c) (dr a c):=by
 unfold qDx qBN
 by_cases hac:a=c
 ·subst hac
  have:=qNz a
  simp [this.1,this.2]
 ·have:¬ (df a c=0 /\ dr a c=0):=fun h=>hac (qUv h.1 h.2)
  rw [if_neg hac]
  split
  ·rename_i h;constructor
   ·intro _;exact ⟨this,by omega⟩
   ·intro _;omega
  ·split
   ·constructor
    ·intro _;exact ⟨this,by omega⟩
    ·intro _;omega
   ·constructor
    ·intro h;omega
    ·rintro ⟨_,h⟩;omega
theorem qcj:∀ (k:Fin 16) (d e:Fin 17),(qAL ((k.val:Nat):Int)).any (fun r=>decide (qDx ((d.val:Int) - 8) ((e.val:Int) - 8) /\ sgn ((d.val:Int) - 8)=dx_ r /\ sgn ((e.val:Int) - 8)=dy_ r))=decide (slK ((k.val:Nat):Int) ((d.val:Int) - 8) (-((e.val:Int) - 8))):=by decide +kernel
theorem qck:∀ (k:Fin 16) (d e:Fin 17),(qAL ((k.val:Nat):Int)).any (fun r=>decide (qDx ((d.val:Int) - 8) ((e.val:Int) - 8) /\ sgn ((d.val:Int) - 8) = -(dx_ r) /\ sgn ((e.val:Int) - 8) = -(dy_ r)))=decide (slK ((k.val:Nat):Int) ((d.val:Int) - 8) ((e.val:Int) - 8)):=by decide +kernel
theorem qcl (x:Int) {a c:Nat} (ha:a<81) (hc:c<81):qC8 x (qAL (kd x)) a c=qCf x a c:=by
 obtain ⟨k0,k1,_⟩:=qDN x
 have hr:=qbw (x:=x) ha hc
 have hl:=qKZ a c
 unfold qCf qC8 onW sg upS
 by_cases hs:sd x=1
 ·simp only [hs,if_true]
  have:=qck ⟨(kd x).toNat,by omega⟩ ⟨(df a c+8).toNat,by omega⟩ ⟨(dr a c+8).toNat,by omega⟩
  simp only [show (((kd x).toNat:Nat):Int)=kd x by omega,show (((df a c+8).toNat:Nat):Int) - 8=df a c by omega,show (((dr a c+8).toNat:Nat):Int) - 8=dr a c by omega] at this
  rw [<- this]
  congr 1
  funext r
  rw [decide_eq_decide,hl]
  constructor<;>(rintro ⟨h1,h2,h3⟩;refine ⟨h1,?_,?_⟩<;>omega)
 ·simp only [hs,if_false]
  have:=qcj ⟨(kd x).toNat,by omega⟩ ⟨(df a c+8).toNat,by omega⟩ ⟨(dr a c+8).toNat,by omega⟩
  simp only [show (((kd x).toNat:Nat):Int)=kd x by omega,show (((df a c+8).toNat:Nat):Int) - 8=df a c by omega,show (((dr a c+8).toNat:Nat):Int) - 8=dr a c by omega] at this
  rw [<- this]
  congr 1
  funext r
  rw [decide_eq_decide,hl]
  constructor<;>(rintro ⟨h1,h2,h3⟩;refine ⟨h1,?_,?_⟩<;>omega)
theorem qK5 (x:Int) {a:Nat} (ha:a<81) (t:Nat->Bool):qE2 x a (sLo t) (sHi t)=some (sLo (fun c=>rch x a c t),sHi fun c=>rch x a c t):=by
 obtain ⟨hlen,hrs⟩:=qlM (kd x)
 obtain ⟨g,hg⟩:=ql (qAL (kd x)).length (by omega)
 have:=qk3 (x:=x) ha t (qAL (kd x)) hlen hrs (qAL (kd x)).length 0 0 (qAL (kd x)).length 0 (by omega) (qBH x a) g
 rw [<- hg] at this
 unfold qE2
 rw [qna x ha,qA]
 simp only
 rw [qBn,qA,qPy,qA]
 simp only
 rw [show qE3 qD x a (qAL (kd x)).length (Int.ofNat (qAL (kd x)).length) 0 (sLo t) (sHi t) 0 0 (sLo (qBH x a)) (sHi (qBH x a)) (qAL (kd x)).length (qAL (kd x))=_ from this,qA]
 simp only
 obtain ⟨e1,e2⟩:=qBu (f:=fun c=>qBH x a c||(qC8 x (List.drop 0 (qAL (kd x))) a c&&qBm a c t)) (g:=fun c=>rch x a c t) fun c hc=>by
  rw [List.drop_zero,qcl x ha hc]
  rfl
 rw [e1,e2]
end Go.Kk.Pl
namespace Go.Kk.Pl
theorem qdK:∀ (a c:Fin 81),(btw a.val c.val).all (fun s=>(btw c.val a.val).contains s)=true:=by decide +kernel
theorem qH4 {a c:Nat} (ha:a<81) (hc:c<81) {s:Nat} (hs:s∈btw a c):s∈btw c a:=by
 have:=qdK ⟨a,ha⟩ ⟨c,hc⟩
 rw [List.all_eq_true] at this
 simpa using this s hs
theorem qGa {a c:Nat} {t:Nat->Bool}:qBm a c t=true ↔ ∀ s∈btw a c,t s=false:=by simp [qBm]
theorem qf3 {a c:Nat} (ha:a<81) (hc:c<81) (t:Nat->Bool):qBm a c t=qBm c a t:=by
 rw [Bool.eq_iff_iff,qGa,qGa]
 exact ⟨fun h s hs=>h s (qH4 hc ha hs),fun h s hs=>h s (qH4 ha hc hs)⟩
theorem qf4 {a c:Nat} (ha:a<81) (hc:c<81) {t t':Nat->Bool} (h:∀ s,s<81->t s=t' s):qBm a c t=qBm a c t':=by
 rw [Bool.eq_iff_iff,qGa,qGa]
 exact ⟨fun hh s hs=>by rw [<- h s (qJi ha hc hs)];exact hh s hs,fun hh s hs=>by rw [h s (qJi ha hc hs)];exact hh s hs⟩
theorem qlI {x:Int} {a c:Nat} (ha:a<81) (hc:c<81) {t t':Nat->Bool} (h:∀ s,s<81->t s=t' s):rch x a c t=rch x a c t':=by
 unfold rch;rw [qf4 ha hc h]
theorem qDa {s k:Int} (hs:s=0 \/ s=1) (h1:1<=k) (h2:k<=15) (h3:k≠13):sd (pc s k)=s /\ kd (pc s k)=k:=by
 rw [qBC hs h1 h2 h3]
 have hk:=qGn hs h1 h2 h3
 refine ⟨?_,hk⟩
 unfold sd
 rw [hk,if_neg (by omega)]
 rcases hs with rfl | rfl
 ·rw [if_pos (by omega)]
 ·rw [if_neg (by omega)]
theorem qn0 (k d u:Int):qCg k (-d) u↔qCg k d u:=by
 unfold qCg
 exact or_congr (by omega) (or_congr (by omega) (or_congr (by omega) (or_congr (by omega) (or_congr (by omega) (or_congr (by omega) (by omega))))))
theorem qnH (k d u:Int):slK k (-d) u↔slK k d u:=by
 unfold slK
 exact or_congr (by omega) (or_congr (by omega) (by omega))
theorem qlJ {s k:Int} (hs:s=0 \/ s=1) (h1:1<=k) (h2:k<=15) (h3:k≠13) {a c:Nat} (ha:a<81) (hc:c<81) (t:Nat->Bool):
  rch (pc (1 - s) k) a c t=rch (pc s k) c a t:=by
 obtain ⟨e1,e2⟩:=qDa hs h1 h2 h3
 obtain ⟨e3,e4⟩:=qDa (s:=1 - s) (by omega) h1 h2 h3
 have hd:df a c = -df c a:=by unfold df;omega
 have hr:dr a c = -dr c a:=by unfold dr;omega
 have hu:upS (pc (1 - s) k) a c=upS (pc s k) c a:=by
  unfold upS
  rw [e1,e3]
  rcases hs with rfl | rfl
  ·rw [if_pos (by omega),if_neg (by omega)];exact hr
  ·rw [if_neg (by omega),if_pos (by omega),hr];omega
 unfold rch qBH qCf
 rw [e2,e4,hu,qf3 ha hc]
 have s1:decide (qCg k (df a c) (upS (pc s k) c a))=decide (qCg k (df c a) (upS (pc s k) c a)):=by
  rw [decide_eq_decide,hd];exact qn0 _ _ _
 have s2:decide (slK k (df a c) (upS (pc s k) c a))=decide (slK k (df c a) (upS (pc s k) c a)):=by
  rw [decide_eq_decide,hd];exact qnH _ _ _
 rw [s1,s2]
theorem qPY {x:Int} (h:kd x≠0):x=pc (sd x) (kd x):=by
 obtain ⟨k0,k1,k2⟩:=qDN x
 have hs:=qHX h
 rw [qBC hs (by omega) k1 k2]
 have hr:=qIN h
 unfold sd kd at *
 rw [if_neg h]
 split at h
 ·omega
 ·rename_i hh
  rw [if_neg hh]
  split<;>omega
def onF (b:List Int) (q:Nat) (s:Int) (t:Nat->Bool) (i:Int) (c:Nat):Bool:=decide (sd (b.getD c 0)=s /\ i<=kd (b.getD c 0))&&rch (b.getD c 0) c q t
theorem qcu {b:List Int} (h:List Int) (S:Int) (sd':List (List Int)) {s:Int} (hs:s=0 \/ s=1) {q:Nat} (hq:q<81) (t:Nat->Bool) (u v:Int):∀ (n:Nat) (k:Int),k=16 - n->n<=15->∀ (f:Nat->Bool) (F:Nat),
  qDk (F+n+1) q s k b h S (qS b) sd' (sLo t) (sHi t) u v (sLo f) (sHi f)=some (b,h,S,qS b,sd',u,v,sLo fun c=>f c||onF b q s t k c,sHi fun c=>f c||onF b q s t k c):=by
 intro n
 induction n with
 | zero=>
   intro k hk _ f F
   show qGI (qDk (F+0)) _ _ _ _ _ _ _ _ _ _ _ _ _ _=_
   unfold qGI
   rw [qdI (by omega)]
   have:(fun c=>f c||onF b q s t k c)=f:=by
    funext c
    have:=(qDN (b.getD c 0)).2.1
    unfold onF
    rw [decide_eq_false (by omega)]
    simp
   rw [this]
 | succ n ih=>
   intro k hk hn f F
   show qGI (qDk (F+n+1)) _ _ _ _ _ _ _ _ _ _ _ _ _ _=_
   unfold qGI
   rw [qdH (by omega),w_s (n:=1 - s) (by omega) (by omega),qKl,qA,w_s (n:=k+1) (by omega) (by omega)]
   by_cases h13:k=13
   ·have hz:pc (1 - s) k=0:=qPX (by omega)
    rw [qAd hz]
    refine (ih (k+1) (by omega) (by omega) f F).trans ?_
    have:(fun c=>f c||onF b q s t (k+1) c)=fun c=>f c||onF b q s t k c:=by
     funext c
     have:=(qDN (b.getD c 0)).2.2
     unfold onF
     congr 2
     rw [decide_eq_decide]
     omega
    rw [this]
   ·have hp:=qBC (s:=1 - s) (k:=k) (by omega) (by omega) (by omega) h13
    rw [qAX (by rw [hp];omega),qK5 _ hq,qA]
    simp only
    rw [qHD,qA]
    simp only
    rw [qFI,qA]
    simp only
    rw [qHE,qA]
    simp only
    refine (ih (k+1) (by omega) (by omega) _ F).trans ?_
    obtain ⟨e1,e2⟩:=qBu (f:=fun c=>(f c||(rch (pc (1 - s) k) q c t&&pcs b (pc s k) c))||onF b q s t (k+1) c) (g:=fun c=>f c||onF b q s t k c) fun c hc=>by
     rw [qlJ hs (by omega) (by omega) h13 hq hc,Bool.or_assoc]
     congr 1
     obtain ⟨g1,g2⟩:=qDa hs (by omega) (by omega) h13
     have hne:pc s k≠0:=by rw [qBC hs (by omega) (by omega) h13];omega
     unfold onF pcs
     by_cases hx:b.getD c 0=pc s k
     ·rw [hx,g1,g2,decide_eq_true (show pc s k≠0 /\ pc s k=pc s k from ⟨hne,rfl⟩),decide_eq_false (by omega),decide_eq_true (by omega)]
      simp
     ·rw [decide_eq_false (p:=pc s k≠0 /\ b.getD c 0=pc s k) (by omega),Bool.and_false,Bool.false_or]
      congr 1
      rw [decide_eq_decide]
      constructor
      ·rintro ⟨h1,h2⟩;exact ⟨h1,by omega⟩
      ·rintro ⟨h1,h2⟩
       refine ⟨h1,?_⟩
       rcases Int.lt_or_eq_of_le h2 with h3 | h3
       ·omega
       ·exfalso
        apply hx
        have hk0:kd (b.getD c 0)≠0:=by omega
        have:=qPY hk0
        rw [h1,<- h3] at this
        exact this
    rw [e1,e2]
def onS (b:List Int) (q s:Int) (t:Nat->Bool) (c:Nat):Bool:=decide (0<=q /\ q<81)&&(decide (s=0 \/ s=1)&&(decide (sd (b.getD c 0)=s)&&rch (b.getD c 0) c q.toNat t))
theorem qj3 (b:List Int) {s:Int} (hs:s=0 \/ s=1) (q:Nat) (hq:q<81) (t:Nat->Bool):onF b q s t 1=onS b q s t:=by
 funext c
 unfold onF onS
 rw [decide_eq_true (show (0:Int)<=q /\ (q:Int)<81 by omega),decide_eq_true hs,Bool.true_and,Bool.true_and]
 congr 1
 rw [decide_eq_decide]
 constructor
 ·exact fun h=>h.1
 ·intro h
  refine ⟨h,?_⟩
  have:=(qDN (b.getD c 0)).1
  rcases Int.lt_or_eq_of_le this with h1 | h1
  ·omega
  ·rw [qZV h1.symm] at h;omega
theorem qXX (b h:List Int) (S:Int) (sd':List (List Int)) (q s:Int) (t:Nat->Bool):qGH q s (sLo t) (sHi t) b h S (qS b) sd'=some (sLo (onS b q s t),sHi (onS b q s t)):=by
 have none:¬ ((0<=q /\ q<81) /\ (s=0 \/ s=1))->onS b q s t=fun _=>false:=by
  intro hn
  funext c
  unfold onS
  by_cases h1:0<=q /\ q<81
  ·rw [decide_eq_false (p:=s=0 \/ s=1) (fun h2=>hn ⟨h1,h2⟩)];simp
  ·rw [decide_eq_false h1];simp
 unfold qGH
 by_cases h0:q<0
 ·rw [qg h0,none (by omega),qBf,qBe]
 rw [qZ h0]
 by_cases h1:q >= 81
 ·rw [qDA h1,none (by omega),qBf,qBe]
 rw [qCN h1]
 obtain ⟨a,rfl⟩:∃ a:Nat,q=a:=⟨q.toNat,by omega⟩
 obtain ⟨g,hg⟩:=ql 15 (by omega)
 have main:(s=0 \/ s=1)->qDk qD a s 1 b h S (qS b) sd' (sLo t) (sHi t) 0 0 0 0=some (b,h,S,qS b,sd',0,0,sLo (onS b a s t),sHi (onS b a s t)):=by
  intro hs
  have:=qcu (b:=b) h S sd' hs (q:=a) (by omega) t 0 0 15 1 (by omega) (by omega) (fun _=>false) g
  rw [<- hg,qBf,qBe] at this
  rw [this,qj3 b hs a (by omega)]
  simp only [Bool.false_or]
 by_cases h2:s=0
 ·rw [qA9 h2,main (.inl h2),qA]
 ·rw [qAo h2]
  by_cases h3:s=1
  ·rw [qA9 h3,main (.inr h3),qA]
  ·rw [qAo h3,none (by omega),qBf,qBe]
def kg (b:List Int) (s:Int):Int:=fst (pcs b (pc s 8))
def chs (b:List Int) (s:Int):Nat->Bool:=onS b (kg b s) (1 - s) (tk b)
def inC (b:List Int) (s:Int):Bool:=!isE (chs b s)
theorem qf9 (f:Nat->Bool):-1<=fst f /\ fst f<81:=by
 unfold fst
 split
 ·rename_i i hi
  have:=List.mem_of_find?_eq_some hi
  rw [List.mem_range] at this
  omega
 ·omega
theorem qTR {b:List Int} (hc:Clean b) (h:List Int) (S:Int) {s:Int} (hs:-10<=s /\ s<=10):qFL s b h S (qS b) (qU b)=some (sLo (chs b s),sHi (chs b s)):=by
 unfold qFL
 rw [qOL,qA,qI5 hc,qA]
 simp only
 rw [w_s (by omega) (by omega),qXX,qA]
 rfl
theorem qNI {b h:List Int} {s:Int} (hl:b.length=81) (hz:qBL b h s=0):Clean b /\ (s=0 \/ s=1):=by
 unfold qBL at hz
 split at hz
 ·omega
 ·rename_i hs
  split at hz
  ·omega
  ·rename_i hb
   exact ⟨qdO hl (by simpa using hb),by omega⟩
def qFK (b h:List Int) (s:Int):Int:=if qBL b h s≠0 then qBL b h s else if inC b (1 - s) then 54 else 0
def ofL (L:List Int) (c:Nat):Bool:=L.any fun q=>only q c
theorem qjS (L:List Int) (hl:L.length<=1000) (N:Nat) (u v:Int):∀ (n i:Nat),i+n=L.length->∀ (f:Nat->Bool) (F:Nat),
  qE8 (F+n+1) L.length L.length i N L u v (sLo f) (sHi f)=some (N,L,u,v,sLo fun c=>f c||ofL (L.drop i) c,sHi fun c=>f c||ofL (L.drop i) c):=by
 intro n
 induction n with
 | zero=>
   intro i hi f F
   show qHe (qE8 (F+0)) _ _ _ _ _ _ _ _ _=_
   unfold qHe
   rw [qZ (by omega),List.drop_eq_nil_of_le (by omega)]
   have:(fun c=>f c||ofL [] c)=f:=by funext c;simp [ofL]
   rw [this]
 | succ n ih=>
   intro i hi f F
   show qHe (qE8 (F+n+1)) _ _ _ _ _ _ _ _ _=_
   unfold qHe
   have hil:i<L.length:=by omega
   have hget:L.getD i 0=L[i]:=qGG hil
   rw [qg (by omega),qAN (by omega) (by omega),tn,hget,qGB,qA]
   simp only
   rw [w_s (by omega) (by omega)]
   refine (ih (i+1) (by omega) _ F).trans ?_
   have hd:L.drop i=L[i] :: L.drop (i+1):=List.drop_eq_getElem_cons hil
   have:(fun c=>(f c||only L[i] c)||ofL (L.drop (i+1)) c)=fun c=>f c||ofL (L.drop i) c:=by
    funext c
    rw [hd]
    unfold ofL
    rw [List.any_cons,Bool.or_assoc]
   rw [this]
theorem qjT (L:List Int) (hl:L.length<=1000) (N:Nat):qHd L.length N L=some (sLo (ofL L),sHi (ofL L)):=by
 obtain ⟨g,hg⟩:=ql L.length (by omega)
 have:=qjS L hl N 0 0 L.length 0 (by omega) (fun _=>false) g
 rw [<- hg,qBf,qBe] at this
 unfold qHd
 rw [show qE8 qD L.length (Int.ofNat L.length) 0 N L 0 0 0 0=_ from this,qA]
 simp only [Bool.false_or,List.drop_zero]
theorem qEO (f:Nat->Bool):(sq f).length<=81:=by
 unfold sq;rw [List.length_map];exact Nat.le_trans (List.length_filter_le _ _) (by simp)
end Go.Kk.Pl
namespace Go.Kk.Pl
theorem qF4 {f:Nat->Bool} {q:Int} (h:q∈sq f):0<=q /\ q<81 /\ f q.toNat=true:=by
 unfold sq at h
 obtain ⟨j,hj,rfl⟩:=List.mem_map.1 h
 obtain ⟨h1,h2⟩:=List.mem_filter.1 hj
 rw [List.mem_range] at h1
 refine ⟨by simp,by simp only [Int.ofNat_eq_natCast];omega,by simpa using h2⟩
theorem qWs {f:Nat->Bool} {q:Nat} (hq:q<81) (h:f q=true):(q:Int)∈sq f:=by
 unfold sq
 exact List.mem_map.2 ⟨q,List.mem_filter.2 ⟨by simpa using hq,h⟩,rfl⟩
end Go.Kk.Pl
namespace Go.Kk.Pl
theorem qby (t:Nat->Bool) {c:Nat} (ht:t c=true) {i:Nat}:∀ (P Q:List Nat),(∀ s∈P,t s=false)->qAM t (P++c :: Q) i=(P.contains i||decide (i=c))
 | [],Q,_=>by
   show (decide (i=c)||(!t c&&qAM t Q i))=_
   rw [ht];simp
 | s :: P,Q,h=>by
   show (decide (i=s)||(!t s&&qAM t (P++c :: Q) i))=_
   rw [h s List.mem_cons_self,Bool.not_false,Bool.true_and,qby t ht P Q (fun s hs=>h s (List.mem_cons_of_mem _ hs)),List.contains_cons,Bool.or_assoc]
   congr 1
theorem qj5 {dx dy:Int} {a c:Nat} (ha:a<81) (hc:c<81) (h:onW dx dy a c=true) (i:Nat):(qAM (only c) (qA4 dx dy a) i && !only c i)=(btw a c).contains i:=by
 obtain ⟨hl,rfl,rfl⟩:=of_decide_eq_true h
 have:=qJk ⟨a,ha⟩ ⟨c,hc⟩
 simp only [qH9,Bool.or_eq_true,decide_eq_true_eq,Bool.and_eq_true,beq_iff_eq,Bool.not_eq_true'] at this
 obtain ⟨e1,e2,e3⟩:=this.resolve_left hl
 have hsp:qA4 (sgn (df a c)) (sgn (dr a c)) a=btw a c++c :: (qA4 (sgn (df a c)) (sgn (dr a c)) a).drop ((btw a c).length+1):=by
  have:=qLh e2
  rw [e1] at this
  exact this
 have hn:c ∉ btw a c:=by simpa using e3
 rw [hsp,qby (only c) (by unfold only;simp) _ _ (fun s hs=>by
  unfold only
  rw [decide_eq_false_iff_not]
  intro e
  have:s=c:=by omega
  exact hn (this ▸ hs))]
 unfold only
 by_cases hi:i=c
 ·subst hi
  rw [e3];simp
 ·rw [decide_eq_false hi,decide_eq_false (p:=(i:Int)=c) (by omega)];simp
theorem qj6 {dx dy:Int} (h1:-1<=dx) (h2:dx<=1) (h3:-1<=dy) (h4:dy<=1) (hne:¬ (dx=0 /\ dy=0)) {a c:Nat} (ha:a<81) (hc:c<81):qAM (only c) (qA4 dx dy a) c=onW dx dy a c:=by
 rw [qb0 h1 h2 h3 h4 hne ha hc]
 cases h:onW dx dy a c with
 | false=>rfl
 | true=>
   rw [Bool.true_and,qGa]
   intro s hs
   unfold only
   rw [decide_eq_false_iff_not]
   intro e
   have hsc:s=c:=by omega
   obtain ⟨hl,_,_⟩:=of_decide_eq_true h
   have:=qJk ⟨a,ha⟩ ⟨c,hc⟩
   simp only [qH9,Bool.or_eq_true,decide_eq_true_eq,Bool.and_eq_true,beq_iff_eq,Bool.not_eq_true'] at this
   have:=(this.resolve_left hl).2.2
   rw [<- hsc] at this
   have h2:(btw a s).contains s=true:=List.contains_iff_mem.mpr (hsc ▸ hs)
   rw [this] at h2
   cases h2
def qAi:List (List Int):=[[-1,-1],[1,-1],[-1,1],[1,1],[0,-1],[-1,0],[1,0],[0,1]]
theorem qcb {a c:Nat}:(qAi.any fun r=>onW (dx_ r) (dy_ r) a c)=decide (qBN a c≠0):=by
 unfold qAi onW dx_ dy_
 by_cases h:qBN a c=0
 ·simp [h]
 ·have hl:=(qKZ a c).mp h
  have hx:sgn (df a c) = -1 \/ sgn (df a c)=0 \/ sgn (df a c)=1:=by unfold sgn;split<;>(try split)<;>omega
  have hy:sgn (dr a c) = -1 \/ sgn (dr a c)=0 \/ sgn (dr a c)=1:=by unfold sgn;split<;>(try split)<;>omega
  have hn:¬ (sgn (df a c)=0 /\ sgn (dr a c)=0):=by
   unfold qDx at hl
   unfold sgn
   split<;>split<;>(try split)<;>(try split)<;>omega
  rcases hx with hx | hx | hx<;>rcases hy with hy | hy | hy<;>simp [hx,hy,h] at hn ⊢
theorem qdQ {a c:Nat} (ha:a<81) (hc:c<81) (N:Nat):∀ (n i:Nat),i+n=8->∀ F,
  qE1 (F+n+1) a c 8 8 i 0 0 N qAi=some (if (qAi.drop i).any (fun r=>onW (dx_ r) (dy_ r) a c) then .inl (sLo (fun i=>(btw a c).contains i),sHi (fun i=>(btw a c).contains i)) else .inr (0,0)):=by
 intro n
 induction n with
 | zero=>
   intro i hi F
   show qHL (qE1 (F+0)) _ _ _ _ _ _ _ _ _=_
   unfold qHL
   rw [qZ (by omega),List.drop_eq_nil_of_le (by show 8<=i;omega)]
   rfl
 | succ n ih=>
   intro i hi F
   show qHL (qE1 (F+n+1)) _ _ _ _ _ _ _ _ _=_
   unfold qHL
   obtain ⟨r,hget,hdr,e1,e2,g1,g2,g3,g4,g5⟩:∃ r,qAi.getD i []=r /\ qAi.drop i=r :: qAi.drop (i+1) /\ List.headD (List.take 2 r) 0=dx_ r /\ List.headD (List.tail (List.take 2 r)) 0=dy_ r /\ -1<=dx_ r /\ dx_ r<=1 /\ -1<=dy_ r /\ dy_ r<=1 /\ ¬ (dx_ r=0 /\ dy_ r=0):=by
    have:∀ j:Fin 8,qAi.drop j.val=qAi.getD j.val [] :: qAi.drop (j.val+1) /\ List.headD (List.take 2 (qAi.getD j.val [])) 0=dx_ (qAi.getD j.val []) /\ List.headD (List.tail (List.take 2 (qAi.getD j.val []))) 0=dy_ (qAi.getD j.val []) /\ -1<=dx_ (qAi.getD j.val []) /\ dx_ (qAi.getD j.val [])<=1 /\ -1<=dy_ (qAi.getD j.val []) /\ dy_ (qAi.getD j.val [])<=1 /\ ¬ (dx_ (qAi.getD j.val [])=0 /\ dy_ (qAi.getD j.val [])=0):=by decide
    exact ⟨_,rfl,this ⟨i,by omega⟩⟩
   have ho:ofL [(c:Int)]=only c:=by
    funext j;unfold ofL;simp
   have hof:qHd 1 1 [(c:Int)]=some (sLo (only c),sHi (only c)):=by
    have:=qjT [(c:Int)] (by simp) 1
    rw [ho] at this
    exact this
   have hh:∀ g:Nat->Bool,has g (c:Int)=g c:=by
    intro g;unfold has;rw [decide_eq_true (by omega),decide_eq_true (by omega),tn];rfl
   rw [qg (by omega),qAN (by omega) (by omega),tn,hget,e1,e2,hof,qA]
   simp only
   rw [qcI g1 g2 g3 g4 g5 ha,qA]
   simp only
   rw [qDt,qA,hh,qj6 g1 g2 g3 g4 g5 ha hc,hdr,List.any_cons]
   cases hon:onW (dx_ r) (dy_ r) a c with
   | true=>
     rw [b_t,qJD,qA,Bool.true_or,if_pos rfl]
     have:(fun i=>qAM (only c) (qA4 (dx_ r) (dy_ r) a) i && !only c i)=fun i=>(btw a c).contains i:=by
      funext j;exact qj5 ha hc hon j
     rw [this]
   | false=>
     rw [b_f,Bool.false_or,w_s (n:=(i:Int)+1) (by omega) (by omega)]
     exact ih (i+1) (by omega) F
theorem qYP {a c:Nat} (ha:a<81) (hc:c<81):qHK a c=some (sLo (fun i=>(btw a c).contains i),sHi (fun i=>(btw a c).contains i)):=by
 unfold qHK
 rw [qPy,qA]
 simp only
 rw [qPy,qA]
 simp only
 obtain ⟨g,hg⟩:=ql 8 (by omega)
 have:=qdQ ha hc ((qAL 6).length+(qAL 7).length) 8 0 (by omega) g
 rw [<- hg,List.drop_zero,qcb] at this
 have e8:(qAL 6).length+(qAL 7).length=8:=by decide
 have eL:List.append (List.take (qAL 6).length (qAL 6)) (List.take (qAL 7).length (qAL 7))=qAi:=by decide
 rw [eL,e8] at *
 rw [qB (by decide),show qE1 qD a c 8 (Int.ofNat 8) 0 0 0 8 qAi=_ from this,qA]
 by_cases h:qBN a c=0
 ·rw [decide_eq_false (p:=qBN a c≠0) (by simpa using h),if_neg (by simp),qCL]
  have:btw a c=[]:=by unfold btw;rw [if_pos h]
  rw [this]
  simp only [List.contains_nil]
  rw [qBf,qBe]
 ·rw [decide_eq_true (p:=qBN a c≠0) h,if_pos rfl,qoW]
end Go.Kk.Pl
namespace Go.Kk.Pl
def qDK (s q:Int):Int:=if 0<=q /\ q<81 then qCT s q.toNat else -1
theorem qnY {s:Int} (hs:s = -1 \/ s=0 \/ s=1) (q:Int):qFD s q=some (qDK s q):=by
 unfold qDK
 by_cases h:0<=q /\ q<81
 ·rw [if_pos h]
  have:=qaf hs (q:=q.toNat) (by omega)
  rwa [show ((q.toNat:Nat):Int)=q by omega] at this
 ·rw [if_neg h]
  unfold qFD
  by_cases h0:q<0
  ·rw [qg h0]
  ·rw [qZ h0,qDA (by omega)]
def qFU (x q:Int):Bool:=decide (((kd x=1 \/ kd x=2) /\ qDK (sd x) q=0) \/ (kd x=3 /\ (qDK (sd x) q=0 \/ qDK (sd x) q=1)))
theorem qNP (x:Int) {q:Nat} (hq:q<81):qFU x q=qBT x q:=by
 unfold qFU qBT qDK
 rw [if_pos (by omega),tn]
theorem qad (x q:Int):qDe x q=some (qFU x q):=by
 unfold qDe
 rw [qEM,qA,qnY (qLN x),qA,qBn,qA]
 unfold qFU
 generalize kd x=k
 generalize qDK (sd x) q=n
 simp only [qJg,beq_iff_eq]
 repeat' split
 all_goals first
  | (rw [Option.some.injEq,Bool.eq_iff_iff];simp;omega)
  | (simp;omega)
def qHt (s:Int) (i:Nat):Bool:=decide (0<=qCT s i /\ qCT s i<=2)
theorem qRZ:∀ s:Fin 3,qIz ((s.val:Int) - 1)=some (sLo (qHt ((s.val:Int) - 1)),sHi (qHt ((s.val:Int) - 1))):=by decide +kernel
theorem qpG (x:Int):qIz (sd x)=some (sLo (qHt (sd x)),sHi (qHt (sd x))):=by
 rcases qLN x with h | h | h<;>rw [h]
 ·exact qRZ 0
 ·exact qRZ 1
 ·exact qRZ 2
def inZ (s q:Int):Bool:=decide (0<=qDK s q /\ qDK s q<=2)
theorem qUz (s q:Int):has (qHt s) q=inZ s q:=by
 unfold has inZ qDK qHt
 by_cases h:0<=q /\ q<81
 ·rw [if_pos h,decide_eq_true h.1,decide_eq_true h.2,Bool.true_and,Bool.true_and]
 ·rw [if_neg h]
  by_cases h0:0<=q
  ·rw [decide_eq_false (p:=q<81) (by omega)];simp
  ·rw [decide_eq_false h0];simp
def qDP (x f t:Int):Bool:=decide (up_ (kd x)≠0)&&(inZ (sd x) f||inZ (sd x) t)
def qD2 (x t:Int):Bool:=decide (up_ (kd x)≠0)&&qFU x t
theorem qkw (x f t:Int):qII x f t=some (qDP x f t,qD2 x t):=by
 unfold qII qDP qD2
 rw [qBn,qA,qJA,qA]
 by_cases hu:up_ (kd x)=0
 ·rw [qAd hu,decide_eq_false (by simpa using hu)];rfl
 ·rw [qAX hu,qEM,qA,qpG,qA]
  simp only
  rw [qDt,qA,qUz,decide_eq_true hu]
  cases inZ (sd x) f with
  | true=>rw [b_t,qad,qA];rfl
  | false=>rw [b_f,qDt,qA,qUz,qad,qA];rfl
def qDE (f t d:Int) (p:Bool):Int:=if ¬ (0<=t /\ t<81) then 1 else if d≠0 then (if 1<=d /\ d<=7 /\ f=0 /\ p=false then 0 else 70) else if ¬ (0<=f /\ f<81) then 1 else if f=t then 70 else 0
def qDC (b h:List Int) (s f t d:Int) (p:Bool):Bool:=decide (qDE f t d p=0)&&(decide (s=0 \/ s=1) &&
 if d≠0 then decide (0<hd_ h s d)&&decide (at_ b t=0)
 else decide (sd (at_ b f)=s /\ sd (at_ b t)≠s /\ kd (at_ b t)≠8)&&(!p||decide (up_ (kd (at_ b f))≠0)))
theorem qTT {f t d:Int} {p:Bool} (h:qDE f t d p=0):(0<=t /\ t<81) /\ (d≠0->1<=d /\ d<=7 /\ f=0 /\ p=false) /\ (d=0->(0<=f /\ f<81) /\ f≠t):=by
 unfold qDE at h
 split at h
 ·omega
 ·rename_i ht
  split at h
  ·rename_i hd
   split at h
   ·rename_i h2;exact ⟨by omega,fun _=>h2,fun h3=>absurd h3 hd⟩
   ·omega
  ·rename_i hd
   split at h
   ·omega
   ·split at h
    ·omega
    ·exact ⟨by omega,fun h3=>absurd h3 hd,fun _=>⟨by omega,by omega⟩⟩
theorem qA8 {b:List Int} {q:Int} (h:0<=q /\ q<81):at_ b q=b.getD q.toNat 0:=by unfold at_;rw [if_pos h]
def qAs (b h:List Int) (s f t d:Int) (p:Bool):Bool:=qDC b h s f t d p &&
 if d≠0 then !qFU (16*s+d) t&&(decide (d≠1)||decide (nF b (16*s+d) (t.toNat / 9)=0))
 else rch (at_ b f) f.toNat t.toNat (tk b)&&if p=true then qDP (at_ b f) f t else !qD2 (at_ b f) t
theorem qJI:qFv=some (sLo fun _=>true,sHi fun _=>true):=by decide +kernel
theorem qjO (f:Nat->Bool):qIs (sLo f) (sHi f)=some (sLo fun i=>!f i,sHi fun i=>!f i):=by
 unfold qIs
 rw [qJI,qA]
 simp only
 rw [qKd,qA]
 simp only [Bool.true_and]
def qAy (b:List Int) (s k:Int) (i:Nat):Bool:=!qBT (pc s k) i&&(decide (k≠1)||decide (nF b (pc s 1) (i / 9)=0))
theorem qNM (f:Nat->Bool):isE f=decide (qAp f=0):=by
 unfold isE qAp
 rw [Bool.eq_iff_iff,decide_eq_true_eq,List.countP_eq_zero,List.all_eq_true]
 simp
theorem qf5 {b:List Int} (h:List Int) (S:Int) (sd':List (List Int)) {s k:Int} (hs:s=0 \/ s=1) (L:List Int) (hL:∀ q∈L,0<=q /\ q<81) (hl:L.length<=1000) (N:Nat) (u v:Int):∀ (n i:Nat),i+n=L.length->∀ (f:Nat->Bool) (F:Nat),
  qDL (F+n+1) s k (pc s k) L.length L.length i b h S (qS b) sd' u v (sLo f) (sHi f) N L=some (b,h,S,qS b,sd',u,v,sLo fun c=>f c||((L.drop i).any fun q=>decide ((c:Int)=q)&&qAy b s k c),sHi fun c=>f c||((L.drop i).any fun q=>decide ((c:Int)=q)&&qAy b s k c)):=by
 intro n
 induction n with
 | zero=>
   intro i hi f F
   show qGi (qDL (F+0)) _ _ _ _ _ _ _ _ _ _ _ _ _ _ _ _ _=_
   unfold qGi
   rw [qZ (by omega),List.drop_eq_nil_of_le (by omega)]
   simp
 | succ n ih=>
   intro i hi f F
   show qGi (qDL (F+n+1)) _ _ _ _ _ _ _ _ _ _ _ _ _ _ _ _ _=_
   unfold qGi
   have hil:i<L.length:=by omega
   obtain ⟨q0,q1⟩:=hL L[i] (List.getElem_mem hil)
   have hget:L.getD i 0=L[i]:=qGG hil
   obtain ⟨q,hq⟩:∃ q:Nat,L[i]=q:=⟨L[i].toNat,by omega⟩
   have hd:L.drop i=L[i] :: L.drop (i+1):=List.drop_eq_getElem_cons hil
   rw [qg (by omega),qAN (by omega) (by omega),tn,hget,hq,qnX _ (by omega),qA,w_s (n:=(i:Int)+1) (by omega) (by omega)]
   have skip:qAy b s k q=false->qDL (F+n+1) s k (pc s k) L.length L.length ((i:Int)+1) b h S (qS b) sd' u v (sLo f) (sHi f) N L =
     some (b,h,S,qS b,sd',u,v,sLo fun c=>f c||((L.drop i).any fun q=>decide ((c:Int)=q)&&qAy b s k c),sHi fun c=>f c||((L.drop i).any fun q=>decide ((c:Int)=q)&&qAy b s k c)):=by
    intro hf
    refine (ih (i+1) (by omega) f F).trans ?_
    have:(fun c=>f c||((L.drop (i+1)).any fun q=>decide ((c:Int)=q)&&qAy b s k c))=fun c=>f c||((L.drop i).any fun q=>decide ((c:Int)=q)&&qAy b s k c):=by
     funext c
     rw [hd,List.any_cons,hq]
     by_cases hcq:(c:Int)=q
     ·have:c=q:=by omega
      subst this
      rw [hf];simp
     ·rw [decide_eq_false hcq];simp
    rw [this]
   have take:qAy b s k q=true->(ob (qA1 (sLo f) (sHi f) q) fun z=>qDL (F+n+1) s k (pc s k) L.length L.length ((i:Int)+1) b h S (qS b) sd' u v z.1 z.2 N L) =
     some (b,h,S,qS b,sd',u,v,sLo fun c=>f c||((L.drop i).any fun q=>decide ((c:Int)=q)&&qAy b s k c),sHi fun c=>f c||((L.drop i).any fun q=>decide ((c:Int)=q)&&qAy b s k c)):=by
    intro hf
    rw [qGB,qA]
    simp only
    refine (ih (i+1) (by omega) _ F).trans ?_
    have:(fun c=>(f c||only q c)||((L.drop (i+1)).any fun q=>decide ((c:Int)=q)&&qAy b s k c))=fun c=>f c||((L.drop i).any fun q=>decide ((c:Int)=q)&&qAy b s k c):=by
     funext c
     rw [hd,List.any_cons,hq,Bool.or_assoc]
     congr 2
     unfold only
     by_cases hcq:(c:Int)=q
     ·have:c=q:=by omega
      subst this
      rw [hf];simp
     ·rw [decide_eq_false hcq];simp
    rw [this]
   cases hdead:qBT (pc s k) q with
   | true=>rw [b_t];exact skip (by unfold qAy;rw [hdead];rfl)
   | false=>
     rw [b_f]
     by_cases hk:k=1
     ·rw [qAd hk,qHD,qA]
      simp only
      unfold qFy
      rw [qbq,w_s (by unfold fl;omega) (by unfold fl;omega),qA,show fl q=((q / 9:Nat):Int) from rfl,qgj (by omega),qA]
      simp only
      rw [qFI,qA]
      simp only
      rw [qJr,qA,qNM,qe1 b (by rw [qBC hs (by omega) (by omega) (by omega)];omega) (by omega)]
      by_cases hn:nF b (pc s 1) (q / 9)=0
      ·rw [decide_eq_true hn,Bool.not_true,b_f]
       exact take (by unfold qAy;rw [hdead,decide_eq_true hn];simp)
      ·rw [decide_eq_false hn,Bool.not_false,b_t]
       exact skip (by unfold qAy;rw [hdead,decide_eq_false hn,decide_eq_false (p:=k≠1) (by simpa using hk)];rfl)
     ·rw [qAX hk]
      exact take (by unfold qAy;rw [hdead,decide_eq_true (p:=k≠1) hk];rfl)
def qAr (b:List Int) (s k:Int) (i:Nat):Bool:=decide ((s=0 \/ s=1) /\ 1<=k /\ k<=7)&&(!tk b i&&qAy b s k i)
theorem qf2 {b:List Int} (hc:Clean b) (h:List Int) (S s k:Int):qIH s k b h S (qS b) (qU b)=some (sLo (qAr b s k),sHi (qAr b s k)):=by
 have none:¬ ((s=0 \/ s=1) /\ 1<=k /\ k<=7)->qAr b s k=fun _=>false:=by
  intro hn;funext c;unfold qAr;rw [decide_eq_false hn,Bool.false_and]
 unfold qIH
 rw [qKl,qA]
 by_cases hz:pc s k=0
 ·have:¬ ((s=0 \/ s=1) /\ 1<=k /\ k<=7):=by
   rintro ⟨hs,h1,h7⟩
   rw [qBC hs h1 (by omega) (by omega)] at hz
   omega
  rw [qAd hz,none this,qBf,qBe]
 ·rw [qAX hz]
  have hv:(s=0 \/ s=1) /\ 1<=k /\ k<=15 /\ k≠13:=by
   unfold pc at hz
   split at hz
   ·rename_i h;exact h
   ·exact absurd rfl hz
  by_cases h8:k >= 8
  ·rw [qDA h8,none (by omega),qBf,qBe]
  ·rw [qCN h8,qI5 hc,qA]
   simp only
   rw [qjO,qA]
   simp only
   rw [qIx,qA]
   simp only
   have hlen:=qEO fun i=>!tk b i
   obtain ⟨g,hg⟩:=ql (sq fun i=>!tk b i).length (by omega)
   have:=qf5 (b:=b) h S (qU b) (k:=k) hv.1 (sq fun i=>!tk b i) (fun q hq=>⟨(qF4 hq).1,(qF4 hq).2.1⟩) (by omega) (sq fun i=>!tk b i).length 0 0 (sq fun i=>!tk b i).length 0 (by omega) (fun _=>false) g
   rw [<- hg,qBf,qBe] at this
   rw [show qDL qD s k (pc s k) (sq fun i=>!tk b i).length (Int.ofNat (sq fun i=>!tk b i).length) 0 b h S (qS b) (qU b) 0 0 0 0 (sq fun i=>!tk b i).length (sq fun i=>!tk b i)=_ from this,qA]
   simp only [Bool.false_or,List.drop_zero]
   obtain ⟨e1,e2⟩:=qBu (f:=fun c=>(sq fun i=>!tk b i).any fun q=>decide ((c:Int)=q)&&qAy b s k c) (g:=qAr b s k) fun c hcc=>by
    unfold qAr
    rw [decide_eq_true (p:=(s=0 \/ s=1) /\ 1<=k /\ k<=7) ⟨hv.1,hv.2.1,by omega⟩,Bool.true_and,Bool.eq_iff_iff,List.any_eq_true,Bool.and_eq_true]
    constructor
    ·rintro ⟨q,hq,hh⟩
     rw [Bool.and_eq_true,decide_eq_true_eq] at hh
     have:=(qF4 hq).2.2
     rw [<- hh.1,tn] at this
     exact ⟨this,hh.2⟩
    ·rintro ⟨h1,h2⟩
     exact ⟨c,qWs hcc h1,by rw [h2];simp⟩
   rw [e1,e2]
end Go.Kk.Pl
namespace Go.Kk.Pl
end Go.Kk.Pl
namespace Go.Kk.Pl
theorem qB9 {α:Type} {x y:α} {a b:Nat} (h:a<=b):br (decide (a<=b)) x y=x:=qB (by simpa using h)
theorem tkA {α:Type} {n:Nat} {L:List α} (h:n=L.length) (M:List α):List.append (List.take n L) M=L++M:=by
 subst h;rw [List.take_length];rfl
theorem qod {α:Type} {n:Nat} {L:List α} {m:α} (h:n=L.length) (M:List α):List.append (List.take (n+1) (L++[m])) M=L++m :: M:=by
 rw [tkA (by simp [h])];simp
def q8 (x f t:Int):List (List Int):=(if qD2 x t then [] else [[f,t,0,0]])++(if qDP x f t then [[f,t,0,1]] else [])
theorem qj8 (x f t:Int):(q8 x f t).length<=2:=by
 unfold q8;split<;>split<;>simp
theorem qNc {α β:Type} (g:α->List β) (k:Nat) (L:List α) (h:∀ a∈L,(g a).length<=k):(L.flatMap g).length<=k*L.length:=by
 induction L with
 | nil=>simp
 | cons a L ih=>
   rw [List.flatMap_cons,List.length_append,List.length_cons,Nat.mul_succ]
   have:=h a (by simp)
   have:=ih fun x hx=>h x (by simp [hx])
   omega
theorem qog (x f:Int) (T:List Int) (S:Int) (N1:Nat) (a5 a6:Int) (b h:List Int) (S':Int) (by' sd':List (List Int)) (u v k1 k2:Int) (N2:Nat) (L2:List Int) (N3:Nat) (hT:T.length<=1000):∀ (n i:Nat),i+n=T.length->∀ (L:List (List Int)) (x0 x17:Nat),x0=L.length->x17=L.length->L.length<=1000000 - 2*n->∀ F,
  qEl (F+n+1) x0 S f x N1 a5 a6 T.length T.length i b h S' by' sd' u v x17 L k1 k2 N2 L2 N3 T =
   some ((L++(T.drop i).flatMap (q8 x f)).length,S,N1,a5,a6,b,h,S',by',sd',u,v,(L++(T.drop i).flatMap (q8 x f)).length,L++(T.drop i).flatMap (q8 x f),k1,k2,N2,L2):=by
 intro n
 induction n with
 | zero=>
   intro i hi L x0 x17 h0 h17 hb F
   show qGe (qEl (F+0)) _ _ _ _ _ _ _ _ _ _ _ _ _ _ _ _ _ _ _ _ _ _ _ _ _=_
   unfold qGe
   rw [qZ (by omega),List.drop_eq_nil_of_le (by omega)]
   simp only [List.flatMap_nil,List.append_nil,h0,h17]
 | succ n ih=>
   intro i hi L x0 x17 h0 h17 hb F
   show qGe (qEl (F+n+1)) _ _ _ _ _ _ _ _ _ _ _ _ _ _ _ _ _ _ _ _ _ _ _ _ _=_
   unfold qGe
   have hil:i<T.length:=by omega
   have hget:T.getD i 0=T[i]:=qGG hil
   have hd:T.drop i=T[i] :: T.drop (i+1):=List.drop_eq_getElem_cons hil
   rw [qg (by omega),qAN (by omega) (by omega),tn,hget,qkw,qA]
   simp only
   rw [w_s (by omega) (by omega),hd,List.flatMap_cons,<- List.append_assoc]
   rw [tkA h0,tkA h0,qod h0]
   have hi1:i+1+n=T.length:=by omega
   have ih':=ih (i+1) hi1
   cases hm:qD2 x T[i] with
   | false=>
     rw [Bool.not_false,b_t,qB9 (by omega)]
     cases hy:qDP x f T[i] with
     | true=>
       rw [b_t,qB9 (by omega)]
       have:=ih' (L++q8 x f T[i]) (x0+1+1) (x0+1+1) (by simp [q8,hm,hy,h0]) (by simp [q8,hm,hy,h0]) (by simp [q8,hm,hy];omega) F
       rw [<- this]
       simp [q8,hm,hy]
     | false=>
       rw [b_f]
       have:=ih' (L++q8 x f T[i]) (x0+1) (x0+1) (by simp [q8,hm,hy,h0]) (by simp [q8,hm,hy,h0]) (by simp [q8,hm,hy];omega) F
       rw [<- this]
       simp [q8,hm,hy]
   | true=>
     rw [Bool.not_true,b_f]
     cases hy:qDP x f T[i] with
     | true=>
       rw [b_t,qB9 (by omega)]
       have:=ih' (L++q8 x f T[i]) (x0+1) (x0+1) (by simp [q8,hm,hy,h0]) (by simp [q8,hm,hy,h0]) (by simp [q8,hm,hy];omega) F
       rw [<- this]
       simp [q8,hm,hy]
     | false=>
       rw [b_f]
       have:=ih' (L++q8 x f T[i]) x0 x17 (by simp [q8,hm,hy,h0]) (by simp [q8,hm,hy,h17]) (by simp [q8,hm,hy];omega) F
       rw [<- this]
       simp [q8,hm,hy]
def kgs (b:List Int) (c:Nat):Bool:=pcs b (pc 0 8) c||pcs b (pc 1 8) c
def qBW (b:List Int) (S:Int) (G:Nat->Bool) (f:Nat) (c:Nat):Bool:=((rch (b.getD f 0) f c (tk b) && !sdP b S c) && !kgs b c)&&G c
def qCE (b:List Int) (S:Int) (G:Nat->Bool) (f:Int):List (List Int):=(sq (qBW b S G f.toNat)).flatMap (q8 (b.getD f.toNat 0) f)
def qq (b:List Int) (S:Int) (G:Nat->Bool):List (List Int):=(sq (sdP b S)).flatMap (qCE b S G)
theorem qXM (b:List Int) (S:Int) (G:Nat->Bool) (f:Int):(qCE b S G f).length<=162:=by
 unfold qCE
 have:=qNc (q8 (b.getD f.toNat 0) f) 2 (sq (qBW b S G f.toNat)) fun a _=>qj8 _ _ _
 have:=qEO (qBW b S G f.toNat)
 omega
theorem qeS {b:List Int} (hc:Clean b) (h:List Int) (S:Int) (G:Nat->Bool) (T:List Int) (hT:T.length<=1000) (hTr:∀ q∈T,0<=q /\ q<81) (N:Nat):∀ (n i:Nat),i+n=T.length->∀ (L:List (List Int)) (x0 x17:Nat),x0=L.length->x17=L.length->L.length<=900000 - 200*n->∀ F,
  qEk (F+n+1) x0 S T.length T.length i b h S (qS b) (qU b) (sLo G) (sHi G) x17 L (sLo (kgs b)) (sHi (kgs b)) N T =
   some ((L++(T.drop i).flatMap (qCE b S G)).length,b,h,S,qS b,qU b,(L++(T.drop i).flatMap (qCE b S G)).length,L++(T.drop i).flatMap (qCE b S G)):=by
 intro n
 induction n with
 | zero=>
   intro i hi L x0 x17 h0 h17 hb F
   show qGd (qEk (F+0)) _ _ _ _ _ _ _ _ _ _ _ _ _ _ _ _ _ _=_
   unfold qGd
   rw [qZ (by omega),List.drop_eq_nil_of_le (by omega)]
   simp only [List.flatMap_nil,List.append_nil,h0,h17]
 | succ n ih=>
   intro i hi L x0 x17 h0 h17 hb F
   show qGd (qEk (F+n+1)) _ _ _ _ _ _ _ _ _ _ _ _ _ _ _ _ _ _=_
   unfold qGd
   have hil:i<T.length:=by omega
   have hget:T.getD i 0=T[i]:=qGG hil
   have hd:T.drop i=T[i] :: T.drop (i+1):=List.drop_eq_getElem_cons hil
   obtain ⟨q0,q1⟩:=hTr T[i] (List.getElem_mem hil)
   obtain ⟨q,hq⟩:∃ q:Nat,T[i]=q:=⟨T[i].toNat,by omega⟩
   have hat:at_ b T[i]=b.getD q 0:=by rw [qA8 ⟨q0,q1⟩,hq,tn]
   rw [qg (by omega),qAN (by omega) (by omega),tn,hget,qCk,qA,qI5 hc,qA]
   simp only
   rw [hat,hq,qK5 _ (by omega),qA]
   simp only
   rw [qPe,qA]
   simp only
   rw [qKd,qA]
   simp only
   rw [qKd,qA]
   simp only
   rw [qFI,qA]
   simp only
   rw [qIx,qA]
   simp only
   rw [show (fun i=>((rch (b.getD q 0) q i (tk b) && !sdP b S i) && !kgs b i)&&G i)=qBW b S G q from rfl]
   have hlen:=qEO (qBW b S G q)
   obtain ⟨g,hg⟩:=ql (sq (qBW b S G q)).length (by omega)
   have:=qog (b.getD q 0) q (sq (qBW b S G q)) S T.length T.length i b h S (qS b) (qU b) (sLo G) (sHi G) (sLo (kgs b)) (sHi (kgs b)) N T (sq (qBW b S G q)).length (by omega) (sq (qBW b S G q)).length 0 (by omega) L x0 x17 h0 h17 (by omega) g
   rw [<- hg] at this
   rw [show qEl qD x0 S q (b.getD q 0) T.length T.length i (sq (qBW b S G q)).length (Int.ofNat (sq (qBW b S G q)).length) 0 b h S (qS b) (qU b) (sLo G) (sHi G) x17 L (sLo (kgs b)) (sHi (kgs b)) N T (sq (qBW b S G q)).length (sq (qBW b S G q))=_ from this,qA]
   simp only
   have e:(List.drop 0 (sq (qBW b S G q))).flatMap (q8 (b.getD q 0) q)=qCE b S G T[i]:=by
    unfold qCE;rw [hq,tn,List.drop_zero]
   have hl2:=qXM b S G T[i]
   rw [e,w_s (by omega) (by omega),hd,List.flatMap_cons,<- List.append_assoc]
   exact ih (i+1) (by omega) (L++qCE b S G T[i]) _ _ rfl rfl (by rw [List.length_append];omega) F
theorem qUb {b:List Int} (hc:Clean b) (h:List Int) (S:Int) (G:Nat->Bool):qGb (sLo G) (sHi G) b h S (qS b) (qU b)=some ((qq b S G).length,(qq b S G).length,qq b S G):=by
 unfold qGb
 rw [qHD,qA]
 simp only
 rw [qHD,qA]
 simp only
 rw [qHE,qA]
 simp only
 rw [qPe,qA]
 simp only
 rw [qIx,qA]
 simp only
 have hlen:=qEO (sdP b S)
 obtain ⟨g,hg⟩:=ql (sq (sdP b S)).length (by omega)
 have:=qeS hc h S G (sq (sdP b S)) (by omega) (fun q hq=>⟨(qF4 hq).1,(qF4 hq).2.1⟩) (sq (sdP b S)).length (sq (sdP b S)).length 0 (by omega) [] 0 0 rfl rfl (by simp only [List.length_nil];omega) g
 rw [<- hg] at this
 rw [show qEk qD 0 S (sq (sdP b S)).length (Int.ofNat (sq (sdP b S)).length) 0 b h S (qS b) (qU b) (sLo G) (sHi G) 0 [] (sLo fun i=>pcs b (pc 0 8) i||pcs b (pc 1 8) i) (sHi fun i=>pcs b (pc 0 8) i||pcs b (pc 1 8) i) (sq (sdP b S)).length (sq (sdP b S))=_ from this,qA]
 rfl
def qBY (b h:List Int) (S:Int) (G:Nat->Bool) (k:Nat):List (List Int):=if hdP h S k<1 then [] else (sq fun i=>qAr b S k i&&G i).map fun t=>[0,t,(k:Int),0]
def qAK (b h:List Int) (S:Int) (G:Nat->Bool):List (List Int):=(List.range' 1 7).flatMap (qBY b h S G)
theorem qXN (b h:List Int) (S:Int) (G:Nat->Bool) (k:Nat):(qBY b h S G k).length<=81:=by
 unfold qBY
 split
 ·simp
 ·rw [List.length_map];exact qEO _
theorem qoh (k:Int) (T:List Int) (S:Int) (b h:List Int) (S':Int) (by' sd':List (List Int)) (u v:Int) (N3:Nat) (hT:T.length<=1000):∀ (n i:Nat),i+n=T.length->∀ (L:List (List Int)) (x0 x17:Nat),x0=L.length->x17=L.length->L.length<=1000000 - 2*n->∀ F,
  qEn (F+n+1) x0 S k T.length T.length i b h S' by' sd' u v x17 L N3 T =
   some ((L++(T.drop i).map fun t=>[0,t,k,0]).length,S,k,b,h,S',by',sd',u,v,(L++(T.drop i).map fun t=>[0,t,k,0]).length,L++(T.drop i).map fun t=>[0,t,k,0]):=by
 intro n
 induction n with
 | zero=>
   intro i hi L x0 x17 h0 h17 hb F
   show qGh (qEn (F+0)) _ _ _ _ _ _ _ _ _ _ _ _ _ _ _ _ _=_
   unfold qGh
   rw [qZ (by omega),List.drop_eq_nil_of_le (by omega)]
   simp only [List.map_nil,List.append_nil,h0,h17]
 | succ n ih=>
   intro i hi L x0 x17 h0 h17 hb F
   show qGh (qEn (F+n+1)) _ _ _ _ _ _ _ _ _ _ _ _ _ _ _ _ _=_
   unfold qGh
   have hil:i<T.length:=by omega
   have hget:T.getD i 0=T[i]:=qGG hil
   have hd:T.drop i=T[i] :: T.drop (i+1):=List.drop_eq_getElem_cons hil
   rw [qg (by omega),qAN (by omega) (by omega),tn,hget,qB9 (by omega),tkA h0,w_s (by omega) (by omega),hd,List.map_cons]
   have:=ih (i+1) (by omega) (L++[[0,T[i],k,0]]) (x0+1) (x0+1) (by simp [h0]) (by simp [h0]) (by simp;omega) F
   rw [List.append_assoc] at this
   exact this
theorem qfc {b:List Int} (hc:Clean b) (h:List Int) (S:Int) (G:Nat->Bool):∀ (n k:Nat),k+n=8->∀ (L:List (List Int)) (x0 x17:Nat),x0=L.length->x17=L.length->L.length<=900000 - 200*n->∀ F,
  qEm (F+n+1) x0 S k b h S (qS b) (qU b) (sLo G) (sHi G) x17 L =
   some ((L++(List.range' k n).flatMap (qBY b h S G)).length,b,h,S,qS b,qU b,(L++(List.range' k n).flatMap (qBY b h S G)).length,L++(List.range' k n).flatMap (qBY b h S G)):=by
 intro n
 induction n with
 | zero=>
   intro k hk L x0 x17 h0 h17 hb F
   show qGg (qEm (F+0)) _ _ _ _ _ _ _ _ _ _ _ _=_
   unfold qGg
   rw [qZ (by omega)]
   simp only [List.range'_zero,List.flatMap_nil,List.append_nil,h0,h17]
 | succ n ih=>
   intro k hk L x0 x17 h0 h17 hb F
   show qGg (qEm (F+n+1)) _ _ _ _ _ _ _ _ _ _ _ _=_
   unfold qGg
   have hl2:=qXN b h S G k
   rw [qg (by omega),qgc,qA,List.range'_succ,List.flatMap_cons,<- List.append_assoc]
   have ih':=ih (k+1) (by omega) (L++qBY b h S G k)
   by_cases h1:hdP h S k<1
   ·have e:qBY b h S G k=[]:=by unfold qBY;rw [if_pos h1]
    rw [qg h1,w_s (by omega) (by omega)]
    rw [e,List.append_nil] at ih' ⊢
    exact ih' x0 x17 h0 h17 (by omega) F
   ·have e:qBY b h S G k=(sq fun i=>qAr b S k i&&G i).map fun t=>[0,t,(k:Int),0]:=by unfold qBY;rw [if_neg h1]
    rw [qZ h1,qf2 hc,qA]
    simp only
    rw [qFI,qA]
    simp only
    rw [qIx,qA]
    simp only
    have hlen:=qEO fun i=>qAr b S k i&&G i
    obtain ⟨g,hg⟩:=ql (sq fun i=>qAr b S k i&&G i).length (by omega)
    have:=qoh k (sq fun i=>qAr b S k i&&G i) S b h S (qS b) (qU b) (sLo G) (sHi G) (sq fun i=>qAr b S k i&&G i).length (by omega) (sq fun i=>qAr b S k i&&G i).length 0 (by omega) L x0 x17 h0 h17 (by omega) g
    rw [<- hg] at this
    rw [show qEn qD x0 S k (sq fun i=>qAr b S k i&&G i).length (Int.ofNat (sq fun i=>qAr b S k i&&G i).length) 0 b h S (qS b) (qU b) (sLo G) (sHi G) x17 L (sq fun i=>qAr b S k i&&G i).length (sq fun i=>qAr b S k i&&G i)=_ from this,qA]
    simp only
    rw [List.drop_zero,<- e,w_s (by omega) (by omega)]
    exact ih' _ _ rfl rfl (by rw [List.length_append];omega) F
theorem qgD {b:List Int} (hc:Clean b) (h:List Int) (S:Int) (G:Nat->Bool):qIG (sLo G) (sHi G) b h S (qS b) (qU b)=some ((qAK b h S G).length,(qAK b h S G).length,qAK b h S G):=by
 unfold qIG
 obtain ⟨g,hg⟩:=ql 7 (by omega)
 have:=qfc hc h S G 7 1 (by omega) [] 0 0 rfl rfl (by simp only [List.length_nil];omega) g
 rw [<- hg] at this
 rw [show qEm qD 0 S 1 b h S (qS b) (qU b) (sLo G) (sHi G) 0 []=_ from this,qA]
 rfl
def mvs (b h:List Int) (S:Int):List (List Int):=qq b S (fun _=>true)++qAK b h S (fun _=>true)
theorem qPJ (b:List Int) (S:Int) (G:Nat->Bool):(qq b S G).length<=162*81:=by
 unfold qq
 have:=qNc (qCE b S G) 162 (sq (sdP b S)) fun a _=>qXM _ _ _ _
 have:=qEO (sdP b S)
 omega
theorem qXL (b h:List Int) (S:Int) (G:Nat->Bool):(qAK b h S G).length<=81*7:=by
 unfold qAK
 have:=qNc (qBY b h S G) 81 (List.range' 1 7) fun a _=>qXN _ _ _ _ _
 rw [List.length_range'] at this
 omega
end Go.Kk.Pl
namespace Go.Kk.Pl
def qPk (b h:List Int) (S:Int) (f t:Nat):List (List Int):=(if qAs b h S f t 0 false then [[(f:Int),(t:Int),0,0]] else [])++(if qAs b h S f t 0 true then [[(f:Int),(t:Int),0,1]] else [])
def rTo (b h:List Int) (S:Int) (f t:Nat):List (List Int):=if rch (b.getD f 0) f t (tk b) then qPk b h S f t else []
def qPi (b h:List Int) (S:Int) (f:Nat):List (List Int):=if sd (b.getD f 0)=S then (List.range' 0 81).flatMap (rTo b h S f) else []
def qPh (b h:List Int) (S:Int) (k t:Nat):List (List Int):=if qAs b h S 0 t k false then [[0,(t:Int),(k:Int),0]] else []
def qPj (b h:List Int) (S:Int) (k:Nat):List (List Int):=if hd_ h S k>0 then (List.range' 0 81).flatMap (qPh b h S k) else []
def qPg (b h:List Int) (S:Int):List (List Int):=(List.range' 0 81).flatMap (qPi b h S)++(List.range' 1 7).flatMap (qPj b h S)
theorem qfu {α β γ:Type} (p:α->Bool) (f:α->β) (g:β->List γ) (L:List α):((L.filter p).map f).flatMap g=L.flatMap fun a=>if p a then g (f a) else []:=by
 induction L with
 | nil=>rfl
 | cons a L ih=>
   rw [List.filter_cons,List.flatMap_cons]
   cases h:p a with
   | true=>rw [if_pos rfl,if_pos rfl,List.map_cons,List.flatMap_cons,ih]
   | false=>rw [if_neg (by simp),if_neg (by simp),ih];rfl
theorem qQp {γ:Type} (p:Nat->Bool) (g:Int->List γ):(sq p).flatMap g=(List.range' 0 81).flatMap fun (i:Nat)=>if p i then g (i:Int) else []:=by
 unfold sq;rw [qfu,qky];rfl
theorem qIE {α β:Type} {f g:α->List β} {L:List α} (h:∀ a∈L,f a=g a):L.flatMap f=L.flatMap g:=by
 induction L with
 | nil=>rfl
 | cons a L ih=>rw [List.flatMap_cons,List.flatMap_cons,h a (by simp),ih fun x hx=>h x (by simp [hx])]
theorem qnT {γ:Type} (p:Nat->Bool) (g:Int->γ):(sq p).map g=(List.range' 0 81).flatMap fun (i:Nat)=>if p i then [g (i:Int)] else []:=by
 rw [<- qQp p fun t=>[g t]]
 induction sq p with
 | nil=>rfl
 | cons a L ih=>rw [List.map_cons,List.flatMap_cons,ih];rfl
theorem qhQ {b:List Int} (_hc:Clean b) {c:Nat} (_hcc:c<81):kgs b c=decide (kd (b.getD c 0)=8):=by
 unfold kgs pcs
 rw [qBC (.inl rfl) (by omega) (by omega) (by omega),qBC (.inr rfl) (by omega) (by omega) (by omega),Bool.eq_iff_iff]
 simp only [Bool.or_eq_true,decide_eq_true_eq]
 constructor
 ·rintro (⟨_,h⟩ | ⟨_,h⟩)<;>rw [h]<;>decide
 ·intro h
  have:=qPY (x:=b.getD c 0) (by omega)
  rw [h] at this
  have hs:=qHX (x:=b.getD c 0) (by omega)
  rcases hs with h1 | h1<;>rw [h1,qBC (by omega) (by omega) (by omega) (by omega)] at this
  ·left;omega
  ·right;omega
theorem qWx {b:List Int} (_hc:Clean b) (h:List Int) {S:Int} (hS:S=0 \/ S=1) {f t:Nat} (hf:f<81) (ht:t<81) (hs:sd (b.getD f 0)=S) (hr:rch (b.getD f 0) f t (tk b)=true) (p:Bool):
  qAs b h S f t 0 p=(decide (sd (b.getD t 0)≠S /\ kd (b.getD t 0)≠8)&&if p=true then qDP (b.getD f 0) f t else !qD2 (b.getD f 0) t):=by
 unfold qAs qDC
 rw [if_neg (by simp),if_neg (by simp),qA8 (by omega),qA8 (by omega),tn,tn,hr,decide_eq_true (p:=S=0 \/ S=1) hS,Bool.true_and,Bool.true_and]
 by_cases hft:f=t
 ·subst hft
  have:decide (sd (b.getD f 0)=S /\ sd (b.getD f 0)≠S /\ kd (b.getD f 0)≠8)=false:=decide_eq_false fun hh=>hh.2.1 hs
  rw [this,Bool.false_and,Bool.and_false,Bool.false_and,decide_eq_false (p:=sd (b.getD f 0)≠S /\ kd (b.getD f 0)≠8) (fun hh=>hh.1 hs),Bool.false_and]
 ·have e:qDE f t 0 p=0:=by
   unfold qDE
   rw [if_neg (by omega),if_neg (by simp),if_neg (by omega),if_neg (by omega)]
  rw [decide_eq_true e,Bool.true_and]
  have:decide (sd (b.getD f 0)=S /\ sd (b.getD t 0)≠S /\ kd (b.getD t 0)≠8)=decide (sd (b.getD t 0)≠S /\ kd (b.getD t 0)≠8):=by simp [hs,-List.getD_eq_getElem?_getD]
  rw [this,Bool.and_assoc]
  congr 1
  cases p with
  | false=>simp
  | true=>
    simp only [Bool.not_true,Bool.false_or,if_true]
    unfold qDP
    rw [<- Bool.and_assoc,Bool.and_self]
theorem qoj {b:List Int} (hc:Clean b) (h:List Int) {S:Int} (hS:S=0 \/ S=1) {f t:Nat} (hf:f<81) (ht:t<81) (hs:sd (b.getD f 0)=S):
  (if qBW b S (fun _=>true) f t then q8 (b.getD f 0) f t else [])=rTo b h S f t:=by
 unfold rTo qPk q8 qBW
 rw [qhQ hc ht]
 cases hr:rch (b.getD f 0) f t (tk b) with
 | false=>simp
 | true=>
   rw [qWx hc h hS hf ht hs hr,qWx hc h hS hf ht hs hr]
   unfold sdP sds
   rw [decide_eq_true (p:=S=0 \/ S=1) hS]
   by_cases h1:sd (b.getD t 0)=S
   ·simp [h1,-List.getD_eq_getElem?_getD]
   ·by_cases h2:kd (b.getD t 0)=8
    ·simp [h2,-List.getD_eq_getElem?_getD]
    ·simp only [h1,h2,decide_false,Bool.and_self,Bool.not_false,Bool.true_and,ne_eq,not_false_eq_true,if_true,Bool.false_eq_true,if_false]
     cases qD2 (b.getD f 0) t<;>cases qDP (b.getD f 0) f t<;>rfl
theorem qjB {b:List Int} (hc:Clean b) (h:List Int) {S:Int} (hS:S=0 \/ S=1):mvs b h S=qPg b h S:=by
 unfold mvs qPg
 congr 1
 ·unfold qq
  rw [qQp]
  apply qIE
  intro f hf
  rw [List.mem_range'_1] at hf
  unfold qPi
  by_cases hs:sd (b.getD f 0)=S
  ·have:sdP b S f=true:=by unfold sdP sds;rw [decide_eq_true hs,decide_eq_true (p:=S=0 \/ S=1) hS];rfl
   rw [if_pos this,if_pos hs]
   unfold qCE
   rw [tn,qQp]
   apply qIE
   intro t ht
   rw [List.mem_range'_1] at ht
   exact qoj hc h hS (by omega) (by omega) hs
  ·have:sdP b S f=false:=by unfold sdP sds;rw [decide_eq_false hs,Bool.and_false]
   rw [if_neg (by simp [this]),if_neg hs]
 ·unfold qAK
  apply qIE
  intro k hk
  rw [List.mem_range'_1] at hk
  unfold qBY qPj
  have e:hdP h S k=hd_ h S k:=by unfold hdP;rw [if_pos ⟨hS,by omega,by omega⟩]
  rw [e]
  by_cases h1:hd_ h S k>0
  ·rw [if_neg (by omega),if_pos h1,qnT]
   apply qIE
   intro t ht
   rw [List.mem_range'_1] at ht
   unfold qPh
   rw [Bool.and_true]
   have:qAs b h S 0 t k false=qAr b S k t:=by
    unfold qAs qDC qAr qAy
    have e2:qDE 0 (t:Int) k false=0:=by
     unfold qDE
     rw [if_neg (by omega),if_pos (by omega),if_pos ⟨by omega,by omega,rfl,rfl⟩]
    rw [e2,qBC hS (by omega) (by omega) (by omega),qBC hS (by omega) (by omega) (by omega),if_pos (by omega),if_pos (by omega),decide_eq_true (p:=S=0 \/ S=1) hS,decide_eq_true (p:=(S=0 \/ S=1) /\ (1:Int)<=k /\ (k:Int)<=7) ⟨hS,by omega,by omega⟩,qNP _ (by omega),qA8 (by omega),tn,decide_eq_true (p:=0<hd_ h S k) h1]
    unfold tk
    by_cases h2:(k:Int)=1
    ·rw [h2]
     by_cases h0:b.getD t 0=0<;>simp
    ·by_cases h0:b.getD t 0=0<;>simp [h2]
   rw [this]
  ·rw [if_pos (by omega),if_neg h1]
end Go.Kk.Pl
namespace Go.Kk.Pl
theorem hd0 (m:List Int):List.headD (List.take 4 m) 0=m.getD 0 0:=by cases m<;>rfl
theorem hd1 (m:List Int):List.headD (List.tail (List.take 4 m)) 0=m.getD 1 0:=by
 rcases m with _ | ⟨a,_ | ⟨b,m⟩⟩<;>rfl
theorem hd2 (m:List Int):List.headD (List.tail (List.tail (List.take 4 m))) 0=m.getD 2 0:=by
 rcases m with _ | ⟨a,_ | ⟨b,_ | ⟨c,m⟩⟩⟩<;>rfl
theorem hd3 (m:List Int):List.headD (List.tail (List.tail (List.tail (List.take 4 m)))) 0=m.getD 3 0:=by
 rcases m with _ | ⟨a,_ | ⟨b,_ | ⟨c,_ | ⟨d,m⟩⟩⟩⟩<;>rfl
theorem qj9 {x f t:Int} {m:List Int} (h:m∈q8 x f t):∃ p:Int,m=[f,t,0,p]:=by
 unfold q8 at h
 rw [List.mem_append] at h
 rcases h with h | h
 ·split at h
  ·cases h
  ·exact ⟨0,by simpa using h⟩
 ·split at h
  ·exact ⟨1,by simpa using h⟩
  ·cases h
theorem qi9 {b:List Int} {S:Int} {G:Nat->Bool} {f:Int} {m:List Int} (h:m∈qCE b S G f):∃ t p:Int,m=[f,t,0,p]:=by
 unfold qCE at h
 obtain ⟨t,_,ht⟩:=List.mem_flatMap.1 h
 obtain ⟨p,hp⟩:=qj9 ht
 exact ⟨t,p,hp⟩
theorem qi7 {b:List Int} {S:Int} {G:Nat->Bool} {m:List Int} (h:m∈qq b S G):∃ f t p:Int,m=[f,t,0,p]:=by
 unfold qq at h
 obtain ⟨f,_,hf⟩:=List.mem_flatMap.1 h
 obtain ⟨t,p,hp⟩:=qi9 hf
 exact ⟨f,t,p,hp⟩
theorem qjA {b h:List Int} {S:Int} {G:Nat->Bool} {k:Nat} {m:List Int} (hm:m∈qBY b h S G k):∃ t:Int,m=[0,t,(k:Int),0]:=by
 unfold qBY at hm
 split at hm
 ·cases hm
 ·obtain ⟨t,_,ht⟩:=List.mem_map.1 hm
  exact ⟨t,ht.symm⟩
theorem qi8 {b h:List Int} {S:Int} {G:Nat->Bool} {m:List Int} (hm:m∈qAK b h S G):∃ (k:Nat) (t:Int),1<=k /\ k<=7 /\ m=[0,t,(k:Int),0]:=by
 unfold qAK at hm
 obtain ⟨k,hk,h2⟩:=List.mem_flatMap.1 hm
 rw [List.mem_range'_1] at hk
 obtain ⟨t,ht⟩:=qjA h2
 exact ⟨k,t,by omega,by omega,ht⟩
end Go.Kk.Pl
namespace Go.Kk.Pl
theorem qga (es:List (List Int×List Int)) (r v r' d:List Int):qAv (qAF es r v) r' d=if r'=r then v else qAv es r' d:=by
 induction es with
 | nil=>
   by_cases h:r'=r
   ·subst h;simp [qAF,qAv]
   ·have:(r==r')=false:=by simpa using fun hh=>h hh.symm
    simp [qAF,qAv,this,h]
 | cons x es ih=>
   obtain ⟨k,u⟩:=x
   by_cases hk:k=r
   ·subst hk
    by_cases h:r'=k
    ·subst h;simp [qAF,qAv]
    ·have:(k==r')=false:=by simpa using fun hh=>h hh.symm
     simp [qAF,qAv,this,h]
   ·have e1:(k==r)=false:=by simpa using hk
    by_cases hk':k=r'
    ·subst hk'
     simp [qAF,qAv,e1,hk]
    ·have e2:(k==r')=false:=by simpa using hk'
     simp only [qAF,e1,cond_false,qAv,e2,ih]
theorem qgg (es:List (List Int×List Int)) (r v r':List Int):qAw (qAF es r v) r'=(decide (r'=r)||qAw es r'):=by
 induction es with
 | nil=>
   by_cases h:r'=r
   ·subst h;simp [qAF,qAw]
   ·have:(r==r')=false:=by simpa using fun hh=>h hh.symm
    simp [qAF,qAw,this,h]
 | cons x es ih=>
   obtain ⟨k,u⟩:=x
   by_cases hk:k=r
   ·subst hk
    by_cases h:r'=k
    ·subst h;simp [qAF,qAw]
    ·have:(k==r')=false:=by simpa using fun hh=>h hh.symm
     simp [qAF,qAw,this,h]
   ·have e1:(k==r)=false:=by simpa using hk
    by_cases hk':k=r'
    ·subst hk'
     simp [qAF,qAw,e1]
    ·have e2:(k==r')=false:=by simpa using hk'
     simp only [qAF,e1,cond_false,qAw,e2,ih,Bool.false_or]
structure MvOK (b h:List Int) (S f t d p:Int):Prop where
 pp:p=0 \/ p=1
 mov:qAs b h S f t d (p != 0)=true
 tr:0<=t /\ t<81
 fr:0<=f /\ f<81
 dr:0<=d /\ d<=7
 drop:d≠0->f=0 /\ p=0 /\ 0<hd_ h S d /\ at_ b t=0
theorem qjC {b h:List Int} (hc:Clean b) {S:Int} (hS:S=0 \/ S=1) {m:List Int} (hm:m∈mvs b h S):∃ f t d p:Int,m=[f,t,d,p] /\ MvOK b h S f t d p:=by
 rw [qjB hc h hS] at hm
 unfold qPg at hm
 rw [List.mem_append] at hm
 rcases hm with hm | hm
 ·obtain ⟨f,hf,hm⟩:=List.mem_flatMap.1 hm
  rw [List.mem_range'_1] at hf
  unfold qPi at hm
  split at hm<;>try cases hm
  obtain ⟨t,ht,hm⟩:=List.mem_flatMap.1 hm
  rw [List.mem_range'_1] at ht
  unfold rTo at hm
  split at hm<;>try cases hm
  unfold qPk at hm
  rw [List.mem_append] at hm
  rcases hm with hm | hm
  ·split at hm
   ·rename_i hmv
    rw [List.mem_singleton] at hm
    exact ⟨f,t,0,0,hm,.inl rfl,hmv,by omega,by omega,by omega,fun h=>absurd rfl h⟩
   ·cases hm
  ·split at hm
   ·rename_i hmv
    rw [List.mem_singleton] at hm
    exact ⟨f,t,0,1,hm,.inr rfl,hmv,by omega,by omega,by omega,fun h=>absurd rfl h⟩
   ·cases hm
 ·obtain ⟨k,hk,hm⟩:=List.mem_flatMap.1 hm
  rw [List.mem_range'_1] at hk
  unfold qPj at hm
  split at hm<;>try cases hm
  rename_i hh
  obtain ⟨t,ht,hm⟩:=List.mem_flatMap.1 hm
  rw [List.mem_range'_1] at ht
  unfold qPh at hm
  split at hm
  case isFalse=>cases hm
  rename_i hmv
  rw [List.mem_singleton] at hm
  refine ⟨0,t,k,0,hm,.inl rfl,hmv,by omega,by omega,by omega,fun h=>⟨rfl,rfl,hh,?_⟩⟩
  have:=hmv
  unfold qAs qDC at this
  rw [if_pos h] at this
  simp only [Bool.and_eq_true,decide_eq_true_eq] at this
  exact this.1.2.2.2
end Go.Kk.Pl
namespace Go.Kk.Pl
theorem qa8 {x:Int} {a c:Nat} (h:qBH x a c=true):-1<=df a c /\ df a c<=1 /\ -2<=dr a c /\ dr a c<=2 /\ (dr a c=2 \/ dr a c = -2->df a c=1 \/ df a c = -1) /\ ¬ (df a c=0 /\ dr a c=0):=by
 have h:=of_decide_eq_true h
 unfold qCg at h
 have:upS x a c=dr a c \/ upS x a c = - dr a c:=by unfold upS;split<;>simp
 omega
theorem qLm {x:Int} {a c:Nat} (h:qBH x a c=true):btw a c=[]:=by
 have hs:=qa8 h
 unfold btw
 by_cases hl:qBN a c=0
 ·rw [if_pos hl]
 ·rw [if_neg hl]
  have hl:=(qKZ a c).mp hl
  unfold qDx at hl
  have:mx a c<=1:=by
   unfold mx
   split<;>omega
  rw [show mx a c - 1=0 by omega]
  rfl
theorem qnz {x:Int} {a:Nat}:qBH x a a=false:=by
 cases h:qBH x a a with
 | false=>rfl
 | true=>exact absurd (qNz a) (qa8 h).2.2.2.2.2
theorem qnL {x:Int} {a:Nat}:qCf x a a=false:=by
 unfold qCf
 have:=qNz a
 have:upS x a a=0:=by unfold upS;split<;>omega
 rw [decide_eq_false]
 unfold slK
 omega
theorem qYi {x:Int} {a:Nat} {t:Nat->Bool}:rch x a a t=false:=by
 unfold rch;rw [qnz,qnL];rfl
theorem qH5 {k c f:Nat} (hk:k<81) (hc:c<81) (h:f∈btw c k):f<81 /\ f≠k /\ f≠c /\ ∃ n:Nat,(qA4 (sgn (df k f)) (sgn (dr k f)) k)[n]? = some c /\ ∀ i,(i∈btw c k↔i∈(qA4 (sgn (df k f)) (sgn (dr k f)) k).take n):=by
 have hf:f∈btw k c:=qH4 hc hk h
 have hl:qBN k c≠0:=by intro h0;unfold btw at hf;rw [if_pos h0] at hf;cases hf
 have:=qJk ⟨k,hk⟩ ⟨c,hc⟩
 simp only [qH9,Bool.or_eq_true,decide_eq_true_eq,Bool.and_eq_true,beq_iff_eq,Bool.not_eq_true'] at this
 obtain ⟨e1,e2,e3⟩:=this.resolve_left hl
 have hW:f∈qA4 (sgn (df k c)) (sgn (dr k c)) k:=List.mem_of_mem_take (by rw [e1];exact hf)
 have hli:=(qKZ k c).mp hl
 have sx:-1<=sgn (df k c) /\ sgn (df k c)<=1:=by unfold sgn;split<;>(try split)<;>omega
 have sy:-1<=sgn (dr k c) /\ sgn (dr k c)<=1:=by unfold sgn;split<;>(try split)<;>omega
 have sn:¬ (sgn (df k c)=0 /\ sgn (dr k c)=0):=by
  unfold qDx at hli
  unfold sgn
  split<;>split<;>(try split)<;>(try split)<;>omega
 have hB:=qTS ⟨((sgn (df k c)+1)*3+(sgn (dr k c)+1)).toNat,by omega⟩ ⟨k,hk⟩
 simp only at hB
 rw [show (((((sgn (df k c)+1)*3+(sgn (dr k c)+1)).toNat / 3:Nat):Int) - 1)=sgn (df k c) by omega,show (((((sgn (df k c)+1)*3+(sgn (dr k c)+1)).toNat % 3:Nat):Int) - 1)=sgn (dr k c) by omega] at hB
 have hB:=hB.resolve_left (by omega)
 unfold qNH at hB
 rw [List.all_eq_true] at hB
 have hB:=hB f hW
 simp only [Bool.and_eq_true,decide_eq_true_eq] at hB
 obtain ⟨b1,b2,b3,b4⟩:=hB
 refine ⟨b1,?_,?_,(btw k c).length,?_,?_⟩
 ·rintro rfl
  exact b2 (by unfold qBN;rw [if_pos rfl])
 ·rintro rfl
  rw [List.contains_iff_mem.mpr hf] at e3
  cases e3
 ·rw [b3,b4];exact e2
 ·intro i
  rw [b3,b4,e1]
  exact ⟨qH4 hc hk,qH4 hk hc⟩
theorem qTI {k c c' f:Nat} (hk:k<81) (hc:c<81) (hc':c'<81) (h:f∈btw c k) (h':f∈btw c' k) (hne:c≠c'):c∈btw c' k \/ c'∈btw c k:=by
 obtain ⟨_,_,_,n,e,m⟩:=qH5 hk hc h
 obtain ⟨_,_,_,n',e',m'⟩:=qH5 hk hc' h'
 rcases Nat.lt_trichotomy n n' with hn | hn | hn
 ·left
  rw [m',List.mem_iff_getElem?]
  exact ⟨n,by rw [List.getElem?_take,if_pos hn];exact e⟩
 ·subst hn
  rw [e] at e'
  exact absurd (Option.some.inj e') hne
 ·right
  rw [m,List.mem_iff_getElem?]
  exact ⟨n',by rw [List.getElem?_take,if_pos hn];exact e'⟩
def enm (b:List Int) (s:Int) (c:Nat):Bool:=decide (sd (b.getD c 0)=1 - s)
def atk (b:List Int) (s:Int) (k c:Nat):Bool:=enm b s c&&rch (b.getD c 0) c k (tk b)
def tk2 (b:List Int) (f t i:Nat):Bool:=decide (i=t)||(!decide (i=f)&&tk b i)
def qDj (b:List Int) (s:Int) (k f t c:Nat):Bool:=decide (c≠t)&&(enm b s c&&rch (b.getD c 0) c k (tk2 b f t))
def qAJ (b:List Int) (s:Int) (k f c:Nat):Bool:=enm b s c&&(qCf (b.getD c 0) c k&&((btw c k).contains f&&(tk b f&&(decide (sd (b.getD f 0)=s)&&(btw c k).all fun i=>i==f || !tk b i))))
theorem qCx {b:List Int} {s:Int} {k f c:Nat}:qAJ b s k f c=true↔enm b s c=true /\ qCf (b.getD c 0) c k=true /\ f∈btw c k /\ tk b f=true /\ sd (b.getD f 0)=s /\ ∀ i∈btw c k,i≠f->tk b i=false:=by
 unfold qAJ
 simp only [Bool.and_eq_true,decide_eq_true_eq,List.all_eq_true,Bool.or_eq_true,beq_iff_eq,Bool.not_eq_true',List.contains_iff_mem]
 constructor
 ·rintro ⟨h1,h2,h3,h4,h5,h6⟩
  exact ⟨h1,h2,h3,h4,h5,fun i hi hn=>(h6 i hi).resolve_left hn⟩
 ·rintro ⟨h1,h2,h3,h4,h5,h6⟩
  exact ⟨h1,h2,h3,h4,h5,fun i hi=>by by_cases hn:i=f;exact .inl hn;exact .inr (h6 i hi hn)⟩
theorem qNV {b:List Int} {s:Int} (hs:s=0 \/ s=1) {c:Nat} (h:enm b s c=true):tk b c=true:=by
 have h:=of_decide_eq_true h
 unfold tk
 rw [decide_eq_true_eq]
 intro h0
 rw [h0,qIo] at h
 omega
theorem qYG {b:List Int} {s:Int} (hs:s=0 \/ s=1) {k f c c':Nat} (hk:k<81) (hc:c<81) (hc':c'<81) (h:qAJ b s k f c=true) (h':qAJ b s k f c'=true):c=c':=by
 apply Classical.byContradiction
 intro hne
 rw [qCx] at h h'
 rcases qTI hk hc hc' h.2.2.1 h'.2.2.1 hne with hm | hm
 ·have:=h'.2.2.2.2.2 c hm (fun e=>(qH5 hk hc h.2.2.1).2.2.1 e.symm)
  rw [qNV hs h.1] at this
  cases this
 ·have:=h.2.2.2.2.2 c' hm (fun e=>(qH5 hk hc' h'.2.2.1).2.2.1 e.symm)
  rw [qNV hs h'.1] at this
  cases this
theorem qYH {b:List Int} {s:Int} {k f f' c:Nat} (h:qAJ b s k f c=true) (h':qAJ b s k f' c=true):f=f':=by
 apply Classical.byContradiction
 intro hne
 rw [qCx] at h h'
 have:=h'.2.2.2.2.2 f h.2.2.1 hne
 rw [h.2.2.2.1] at this
 cases this
theorem qBs {x:Int} {a c:Nat} {t:Nat->Bool}:rch x a c t=true↔qBH x a c=true \/ (qCf x a c=true /\ ∀ i∈btw a c,t i=false):=by
 unfold rch
 rw [Bool.or_eq_true,Bool.and_eq_true,qGa]
theorem qct {b:List Int} {s:Int} {k f t:Nat} (hf:tk b f=true->sd (b.getD f 0)=s):
  (∀ c,c<81->qDj b s k f t c=false)↔(∀ c,c<81->atk b s k c=true->t=c \/ t∈btw c k) /\ (∀ c,c<81->qAJ b s k f c=true->t=c \/ t∈btw c k):=by
 constructor
 ·intro h
  refine ⟨fun c hc ha=>?_,fun c hc hp=>?_⟩
  ·apply Classical.byContradiction
   intro hn
   simp only [not_or] at hn
   have:=h c hc
   rw [show qDj b s k f t c=true from ?_] at this
   ·cases this
   ·simp only [atk,Bool.and_eq_true] at ha
    simp only [qDj,Bool.and_eq_true,decide_eq_true_eq]
    refine ⟨fun e=>hn.1 e.symm,ha.1,?_⟩
    rw [qBs] at ha ⊢
    refine ha.2.imp id fun hh=>⟨hh.1,fun i hi=>?_⟩
    unfold tk2
    rw [hh.2 i hi,decide_eq_false (p:=i=t) (fun e=>hn.2 (e ▸ hi))]
    simp
  ·apply Classical.byContradiction
   intro hn
   simp only [not_or] at hn
   have:=h c hc
   rw [show qDj b s k f t c=true from ?_] at this
   ·cases this
   ·rw [qCx] at hp
    simp only [qDj,Bool.and_eq_true,decide_eq_true_eq]
    refine ⟨fun e=>hn.1 e.symm,hp.1,?_⟩
    rw [qBs]
    refine .inr ⟨hp.2.1,fun i hi=>?_⟩
    unfold tk2
    rw [decide_eq_false (p:=i=t) (fun e=>hn.2 (e ▸ hi))]
    by_cases hif:i=f
    ·simp [hif]
    ·rw [hp.2.2.2.2.2 i hi hif];simp
 ·rintro ⟨h1,h2⟩ c hc
  cases ha:qDj b s k f t c with
  | false=>rfl
  | true=>
    exfalso
    simp only [qDj,Bool.and_eq_true,decide_eq_true_eq] at ha
    obtain ⟨hct,he,hr⟩:=ha
    have tt:tk2 b f t t=true:=by unfold tk2;simp
    have out:t ∉ btw c k:=by
     intro hm
     rw [qBs] at hr
     rcases hr with hr | hr
     ·rw [qLm hr] at hm;cases hm
     ·rw [hr.2 t hm] at tt;cases tt
    cases hak:atk b s k c with
    | true=>exact (h1 c hc hak).elim (fun e=>hct e.symm) out
    | false=>
      unfold atk at hak
      rw [he,Bool.true_and] at hak
      have hn:¬ (qBH (b.getD c 0) c k=true \/ (qCf (b.getD c 0) c k=true /\ ∀ i∈btw c k,tk b i=false)):=by
       rw [<- qBs,hak];simp
      simp only [not_or,not_and] at hn
      rw [qBs] at hr
      have hr:=hr.resolve_left hn.1
      have two:∀ i∈btw c k,i≠f->tk b i=false:=by
       intro i hi hif
       have:=hr.2 i hi
       unfold tk2 at this
       rw [decide_eq_false hif] at this
       simpa using (Bool.or_eq_false_iff.mp this).2
      have hmf:f∈btw c k /\ tk b f=true:=by
       apply Classical.byContradiction
       intro hh
       apply hn.2 hr.1
       intro i hi
       by_cases hif:i=f
       ·subst hif
        cases htk:tk b i with
        | false=>rfl
        | true=>exact absurd ⟨hi,htk⟩ hh
       ·exact two i hi hif
      exact (h2 c hc (qCx.mpr ⟨he,hr.1,hmf.1,hmf.2,hf hmf.2,two⟩)).elim (fun e=>hct e.symm) out
theorem qop {b:List Int} {s:Int} (hs:s=0 \/ s=1) {k c c' t:Nat} (hk:k<81) (hc:c<81) (hc':c'<81) (h:atk b s k c=true) (h':atk b s k c'=true) (hne:c≠c')
  (ht:t=c \/ t∈btw c k) (ht':t=c' \/ t∈btw c' k):False:=by
 have no:∀ {c c':Nat},atk b s k c=true->atk b s k c'=true->c∈btw c' k->False:=by
  intro c c' h h' hm
  simp only [atk,Bool.and_eq_true] at h h'
  rcases qBs.mp h'.2 with hr | hr
  ·rw [qLm hr] at hm;cases hm
  ·have:=hr.2 c hm
   rw [qNV hs h.1] at this;cases this
 rcases ht with rfl | ht
 ·rcases ht' with rfl | ht'
  ·exact hne rfl
  ·exact no h h' ht'
 ·rcases ht' with rfl | ht'
  ·exact no h' h ht
  ·rcases qTI hk hc hc' ht ht' hne with hm | hm
   ·exact no h h' hm
   ·exact no h' h hm
end Go.Kk.Pl
namespace Go.Kk.Pl
theorem qez {f g:Nat->Bool} (h:∀ i,i<81->f i=g i):qAp f=qAp g:=by
 unfold qAp
 apply List.countP_congr
 intro i hi
 rw [h i (List.mem_range.mp hi)]
theorem qe3:∀ f:Fin 81,qAp (only ((f.val:Nat):Int))=1:=by decide +kernel
theorem qGU {g:Nat->Bool}:qAp g=1 ↔ ∃ f,f<81 /\ ∀ i,i<81->(g i=true↔i=f):=by
 constructor
 ·intro h
  unfold qAp at h
  rw [List.countP_eq_length_filter] at h
  obtain ⟨f,hf⟩:=List.length_eq_one_iff.mp h
  have hm:∀ i,i∈(List.range 81).filter g↔i=f:=by rw [hf];simp
  refine ⟨f,?_,fun i hi=>?_⟩
  ·have:=(hm f).mpr rfl
   rw [List.mem_filter,List.mem_range] at this
   exact this.1
  ·rw [<- hm i,List.mem_filter,List.mem_range]
   exact ⟨fun h=>⟨hi,h⟩,fun h=>h.2⟩
 ·rintro ⟨f,hf,h⟩
  rw [<- qe3 ⟨f,hf⟩]
  apply qez
  intro i hi
  unfold only
  rw [Bool.eq_iff_iff,h i hi,decide_eq_true_eq]
  simp only
  omega
theorem qNf {g:Nat->Bool} {f:Nat} (hf:f<81) (h:∀ i,i<81->(g i=true↔i=f)):fst g=f:=by
 apply qNg hf ((h f hf).mpr rfl)
 intro i hi
 cases hg:g i with
 | false=>rfl
 | true=>exact absurd ((h i (by omega)).mp hg) (by omega)
def qDg (k c:Nat) (i:Nat):Bool:=(btw c k).contains i||only c i
def qD6 (b:List Int) (s:Int) (k c:Nat):Option Nat:=(List.range 81).find? fun f=>qAJ b s k f c
theorem qkn {b:List Int} {s:Int} {k c f:Nat} (h:qAJ b s k f c=true) (hf:f<81):qD6 b s k c=some f:=by
 unfold qD6
 cases hp:(List.range 81).find? fun f=>qAJ b s k f c with
 | none=>
   rw [List.find?_eq_none] at hp
   exact absurd h (hp f (List.mem_range.mpr hf))
 | some f'=>
   have:=List.find?_some hp
   rw [qYH this h]
theorem qYF {b:List Int} {s:Int} {k c:Nat} (h:∀ f,f<81->qAJ b s k f c=false):qD6 b s k c=none:=by
 unfold qD6
 rw [List.find?_eq_none]
 intro f hf
 rw [h f (List.mem_range.mp hf)]
 simp
def qBk (b:List Int) (s:Int) (k:Nat) (P:Nat->Bool) (es:List (List Int×List Int)):Prop:=
 ∀ f:Nat,f<81->(qAw es [(f:Int)]=true ↔ ∃ c,c<81 /\ P c=true /\ qAJ b s k f c=true) /\ ∀ c,c<81->P c=true->qAJ b s k f c=true->qAv es [(f:Int)] [0,0]=prS (qDg k c)
theorem qkq {b:List Int} (hcl:Clean b) (h:List Int) (S:Int) {s:Int} (hs:s=0 \/ s=1) {k:Nat} (hk:k<81) (x2:Nat) (x3 x4:Int) (x14:Nat) (x15:List Int) (N:Nat) (L:List Int) {i:Nat} (hi:i<L.length) (hl:L.length<=1000) {c:Nat} (hc:c<81) (hq:L[i]=(c:Int)) (he:enm b s c=true)
  (es:List (List Int×List Int)) (R:Int->Int->Nat->Int->Int->Nat->Int->Int->List Int->List Int->Int->List (List Int)->List (List Int)->List (List Int×List Int)->Nat->List Int->Nat->List Int->Option (Int×Int×Nat×Int×Int×List Int×List Int×Int×List (List Int)×List (List Int)×List (List Int×List Int)×Nat×List Int)):
  qFM R s k x2 x3 x4 L.length L.length i b h S (qS b) (qU b) es x14 x15 N L =
   R s k x2 x3 x4 L.length L.length ((i+1:Nat):Int) b h S (qS b) (qU b) (match qD6 b s k c with | none=>es | some f=>qAF es [(f:Int)] (prS (qDg k c))) x14 x15 N L:=by
 unfold qFM
 have hget:L.getD i 0=L[i]:=qGG hi
 rw [qg (by omega),qAN (by omega) (by omega),tn,hget,hq,qYP hc hk,qA]
 simp only
 rw [qI5 hcl,qA]
 simp only
 rw [qFI,qA]
 simp only
 rw [qTf,qA,w_s (n:=(i:Int)+1) (by omega) (by omega)]
 have inm:∀ f,f<81->qAJ b s k f c=true->∀ i,i<81->(((btw c k).contains i&&tk b i)=true↔i=f):=by
  intro f _ hp i _
  rw [qCx] at hp
  rw [Bool.and_eq_true,List.contains_iff_mem]
  constructor
  ·rintro ⟨h1,h2⟩
   apply Classical.byContradiction
   intro hn
   rw [hp.2.2.2.2.2 i h1 hn] at h2;cases h2
  ·rintro rfl;exact ⟨hp.2.2.1,hp.2.2.2.1⟩
 by_cases h1:((qAp fun i=>(btw c k).contains i&&tk b i:Nat):Int)=1
 ·rw [qA9 h1]
  obtain ⟨f,hf,hm⟩:=qGU.mp (by omega:(qAp fun i=>(btw c k).contains i&&tk b i)=1)
  have only_f:∀ f',f'<81->qAJ b s k f' c=true->f'=f:=fun f' hf' hp=>(hm f' hf').mp ((inm f' hf' hp f' hf').mpr rfl)
  have none':qAJ b s k f c=false->qD6 b s k c=none:=by
   intro h0
   apply qYF
   intro f' hf'
   cases hp:qAJ b s k f' c with
   | false=>rfl
   | true=>rw [only_f f' hf' hp,h0] at hp;cases hp
  have hmf:=(hm f hf).mpr rfl
  rw [Bool.and_eq_true,List.contains_iff_mem] at hmf
  rw [qPe,qA]
  simp only
  rw [qFI,qA]
  simp only
  rw [qJr,qA]
  by_cases hsd:sd (b.getD f 0)=s
  ·have hE0:isE (fun i=>((btw c k).contains i&&tk b i)&&sdP b s i)=false:=by
    cases hE:isE (fun i=>((btw c k).contains i&&tk b i)&&sdP b s i) with
    | false=>rfl
    | true=>
      have:=qCV.mp hE f hf
      rw [(hm f hf).mpr rfl] at this
      unfold sdP sds at this
      rw [decide_eq_true hs,decide_eq_true hsd] at this
      cases this
   rw [hE0,b_f]
   rw [qNa,qA,qCk,qA,qA8 (by omega),tn]
   rw [qNf hf hm,qA]
   simp only
   rw [qJD,qA]
   simp only
   rw [qK5 _ hc,qA]
   simp only
   rw [qDt,qA]
   have hh:∀ g:Nat->Bool,has g (k:Int)=g k:=by
    intro g;unfold has;rw [decide_eq_true (by omega),decide_eq_true (by omega),tn];rfl
   rw [hh]
   cases hr1:rch (b.getD c 0) c k (fun i=>tk b i && !only f i) with
   | false=>
     rw [Bool.not_false,b_t,none' ?_]
     ·rfl
     ·cases hp:qAJ b s k f c with
      | false=>rfl
      | true=>
        rw [qCx] at hp
        rw [<- hr1,qBs.mpr (.inr ⟨hp.2.1,?_⟩)]
        intro i hi
        by_cases hif:i=f
        ·subst hif;unfold only;simp
        ·rw [hp.2.2.2.2.2 i hi hif];rfl
   | true =>
     rw [Bool.not_true,b_f,qA,qA]
     simp only
     rw [qK5 _ hc,qA]
     simp only
     rw [qDt,qA,hh]
     cases hr2:rch (b.getD c 0) c k (tk b) with
     | true=>
       rw [b_t,none' ?_]
       ·rfl
       ·cases hp:qAJ b s k f c with
        | false=>rfl
        | true=>
          rw [qCx] at hp
          rcases qBs.mp hr2 with hr | hr
          ·rw [qLm hr] at hmf;cases hmf.1
          ·rw [hr.2 f hmf.1] at hmf;cases hmf.2
     | false=>
       have hn:¬ (qBH (b.getD c 0) c k=true \/ (qCf (b.getD c 0) c k=true /\ ∀ i∈btw c k,tk b i=false)):=by
        rw [<- qBs,hr2];simp
       simp only [not_or] at hn
       have hp:qAJ b s k f c=true:=by
        rw [qCx]
        refine ⟨he,((qBs.mp hr1).resolve_left hn.1).1,hmf.1,hmf.2,hsd,fun i hi hif=>?_⟩
        cases htk:tk b i with
        | false=>rfl
        | true=>
          exact absurd ((hm i (qJi hc hk hi)).mp (by rw [Bool.and_eq_true,List.contains_iff_mem];exact ⟨hi,htk⟩)) hif
       rw [b_f,qGB,qA,qkn hp hf]
       rfl
  ·have hE0:isE (fun i=>((btw c k).contains i&&tk b i)&&sdP b s i)=true:=by
    rw [qCV]
    intro i hi
    cases hx:((btw c k).contains i&&tk b i) with
    | false=>rfl
    | true=>
      rw [(hm i hi).mp hx]
      unfold sdP sds
      rw [decide_eq_false hsd];simp
   rw [hE0,b_t,none' ?_]
   ·rfl
   ·cases hp:qAJ b s k f c with
    | false=>rfl
    | true=>exact absurd (qCx.mp hp).2.2.2.2.1 hsd
 ·rw [qAo h1,qYF ?_]
  ·rfl
  ·intro f hf
   cases hp:qAJ b s k f c with
   | false=>rfl
   | true=>
     have:=qGU.mpr ⟨f,hf,inm f hf hp⟩
     omega
theorem qko {b:List Int} {s:Int} (hs:s=0 \/ s=1) {k:Nat} (hk:k<81) {P:Nat->Bool} {es:List (List Int×List Int)} (hP:qBk b s k P es) {c:Nat} (hc:c<81):
  qBk b s k (fun i=>P i||decide (i=c)) (match qD6 b s k c with | none=>es | some f=>qAF es [(f:Int)] (prS (qDg k c))):=by
 cases hp:qD6 b s k c with
 | none=>
   unfold qD6 at hp
   rw [List.find?_eq_none] at hp
   intro f hf
   have hno:=hp f (List.mem_range.mpr hf)
   obtain ⟨h1,h2⟩:=hP f hf
   refine ⟨?_,?_⟩
   ·rw [h1]
    constructor
    ·rintro ⟨c',a,a',a''⟩;exact ⟨c',a,by simp [a'],a''⟩
    ·rintro ⟨c',a,a',a''⟩
     rw [Bool.or_eq_true,decide_eq_true_eq] at a'
     rcases a' with a' | rfl
     ·exact ⟨c',a,a',a''⟩
     ·exact absurd a'' hno
   ·intro c' a a' a''
    rw [Bool.or_eq_true,decide_eq_true_eq] at a'
    rcases a' with a' | rfl
    ·exact h2 c' a a' a''
    ·exact absurd a'' hno
 | some g=>
   have hg:=List.find?_some (show (List.range 81).find? (fun f=>qAJ b s k f c)=some g from hp)
   have hg':g<81:=List.mem_range.mp (List.mem_of_find?_eq_some (show (List.range 81).find? (fun f=>qAJ b s k f c)=some g from hp))
   intro f hf
   obtain ⟨h1,h2⟩:=hP f hf
   simp only
   rw [qgg,qga]
   by_cases hfg:f=g
   ·subst hfg
    rw [decide_eq_true rfl,if_pos rfl]
    refine ⟨⟨fun _=>⟨c,hc,by simp,hg⟩,fun _=>rfl⟩,fun c' a _ a''=>?_⟩
    rw [qYG hs hk hc a hg a'']
   ·have hne:¬ ([(f:Int)]=[(g:Int)]):=by
     intro e
     have:=List.cons.inj e
     omega
    rw [decide_eq_false hne,if_neg hne,Bool.false_or]
    have hno:¬ qAJ b s k f c=true:=fun hp'=>hfg (qYH hp' hg)
    refine ⟨?_,?_⟩
    ·rw [h1]
     constructor
     ·rintro ⟨c',a,a',a''⟩;exact ⟨c',a,by simp [a'],a''⟩
     ·rintro ⟨c',a,a',a''⟩
      rw [Bool.or_eq_true,decide_eq_true_eq] at a'
      rcases a' with a' | rfl
      ·exact ⟨c',a,a',a''⟩
      ·exact absurd a'' hno
    ·intro c' a a' a''
     rw [Bool.or_eq_true,decide_eq_true_eq] at a'
     rcases a' with a' | rfl
     ·exact h2 c' a a' a''
     ·exact absurd a'' hno
theorem qIc {b:List Int} {s:Int} {k:Nat} {P Q:Nat->Bool} {es:List (List Int×List Int)} (h:∀ i,i<81->P i=Q i) (hP:qBk b s k P es):qBk b s k Q es:=by
 intro f hf
 obtain ⟨h1,h2⟩:=hP f hf
 refine ⟨?_,fun c hc hq=>h2 c hc (by rw [h c hc];exact hq)⟩
 rw [h1]
 constructor
 ·rintro ⟨c,a,a',a''⟩;exact ⟨c,a,by rw [<- h c a];exact a',a''⟩
 ·rintro ⟨c,a,a',a''⟩;exact ⟨c,a,by rw [h c a];exact a',a''⟩
theorem qkp {b:List Int} (hcl:Clean b) (h:List Int) (S:Int) {s:Int} (hs:s=0 \/ s=1) {k:Nat} (hk:k<81) (x2:Nat) (x3 x4:Int) (x14:Nat) (x15:List Int) (N:Nat) (L:List Int) (hl:L.length<=1000) (hL:∀ q∈L,0<=q /\ q<81 /\ enm b s q.toNat=true):∀ (n i:Nat),i+n=L.length->∀ (P:Nat->Bool) (es:List (List Int×List Int)),qBk b s k P es->
  ∃ es',(∀ F,qEa (F+n+1) s k x2 x3 x4 L.length L.length i b h S (qS b) (qU b) es x14 x15 N L=some (s,(k:Int),x2,x3,x4,b,h,S,qS b,qU b,es',x14,x15)) /\ qBk b s k (fun c=>P c||(L.drop i).contains (c:Int)) es':=by
 intro n
 induction n with
 | zero=>
   intro i hi P es hP
   refine ⟨es,fun F=>?_,?_⟩
   ·show qFM (qEa (F+0)) _ _ _ _ _ _ _ _ _ _ _ _ _ _ _ _ _ _=_
    unfold qFM
    rw [qZ (by omega)]
   ·rw [List.drop_eq_nil_of_le (by omega)]
    exact qIc (fun i _=>by simp) hP
 | succ n ih=>
   intro i hi P es hP
   have hil:i<L.length:=by omega
   obtain ⟨q0,q1,q2⟩:=hL L[i] (List.getElem_mem hil)
   obtain ⟨c,hc⟩:∃ c:Nat,L[i]=c:=⟨L[i].toNat,by omega⟩
   rw [hc] at q0 q1 q2
   obtain ⟨es',h1,h2⟩:=ih (i+1) (by omega) _ _ (qko hs hk hP (c:=c) (by omega))
   refine ⟨es',fun F=>?_,qIc (fun j _=>?_) h2⟩
   ·show qFM (qEa (F+n+1)) _ _ _ _ _ _ _ _ _ _ _ _ _ _ _ _ _ _=_
    rw [qkq hcl h S hs hk x2 x3 x4 x14 x15 N L hil hl (by omega) hc q2]
    exact h1 F
   ·rw [List.drop_eq_getElem_cons hil,List.contains_cons,hc,Bool.or_assoc]
    congr 2
    rw [Bool.eq_iff_iff,decide_eq_true_eq,beq_iff_eq]
    omega
def qAf:List Int:=[2,6,7,14,15]
theorem qhW {b:List Int} (hcl:Clean b) (h:List Int) (S:Int) {s:Int} (hs:s=0 \/ s=1) {k:Nat} (hk:k<81):∀ (n i:Nat),i+n=5->∀ (P:Nat->Bool) (es:List (List Int×List Int)),qBk b s k P es->
  ∃ es',(∀ F,qEZ (F+n+1) s k 5 5 i b h S (qS b) (qU b) es 5 qAf=some (b,h,S,qS b,qU b,es')) /\ qBk b s k (fun c=>P c||(qAf.drop i).any fun x=>pcs b (pc (1 - s) x) c) es':=by
 intro n
 induction n with
 | zero=>
   intro i hi P es hP
   refine ⟨es,fun F=>?_,?_⟩
   ·show qGL (qEZ (F+0)) _ _ _ _ _ _ _ _ _ _ _ _ _=_
    unfold qGL
    rw [qZ (by omega)]
   ·rw [List.drop_eq_nil_of_le (by show 5<=i;omega)]
    exact qIc (fun i _=>by simp) hP
 | succ n ih=>
   intro i hi P es hP
   have hil:i<qAf.length:=by show i<5;omega
   obtain ⟨x,hx,hget,hdr⟩:∃ x,(x=2 \/ x=6 \/ x=7 \/ x=14 \/ x=15) /\ qAf.getD i 0=x /\ qAf.drop i=x :: qAf.drop (i+1):=by
    have:∀ j:Fin 5,(qAf.getD j.val 0=2 \/ qAf.getD j.val 0=6 \/ qAf.getD j.val 0=7 \/ qAf.getD j.val 0=14 \/ qAf.getD j.val 0=15) /\ qAf.drop j.val=qAf.getD j.val 0 :: qAf.drop (j.val+1):=by decide
    have:=this ⟨i,hil⟩
    exact ⟨qAf.getD i 0,this.1,rfl,this.2⟩
   obtain ⟨es1,h1,h2⟩:=qkp hcl h S hs hk 5 5 i 5 qAf (sq (pcs b (pc (1 - s) x))).length (sq (pcs b (pc (1 - s) x))) (by have:=qEO (pcs b (pc (1 - s) x));omega) (by
    intro q hq
    obtain ⟨a,a',a''⟩:=qF4 hq
    refine ⟨a,a',?_⟩
    have:=of_decide_eq_true a''
    unfold enm
    rw [this.2,(qDa (s:=1 - s) (by omega) (k:=x) (by omega) (by omega) (by omega)).1]
    simp) (sq (pcs b (pc (1 - s) x))).length 0 (by omega) P es hP
   obtain ⟨es',h3,h4⟩:=ih (i+1) (by omega) _ _ h2
   obtain ⟨g,hg⟩:=ql (sq (pcs b (pc (1 - s) x))).length (by have:=qEO (pcs b (pc (1 - s) x));omega)
   refine ⟨es',fun F=>?_,qIc (fun j hj=>?_) h4⟩
   ·show qGL (qEZ (F+n+1)) _ _ _ _ _ _ _ _ _ _ _ _ _=_
    unfold qGL
    rw [qg (by omega),qAN (by omega) (by omega),tn,hget,w_s (n:=1 - s) (by omega) (by omega),qHD,qA]
    simp only
    rw [qIx,qA]
    simp only
    have:=h1 g
    rw [<- hg] at this
    rw [show qEa qD s k 5 5 i (sq (pcs b (pc (1 - s) x))).length (Int.ofNat (sq (pcs b (pc (1 - s) x))).length) 0 b h S (qS b) (qU b) es 5 qAf (sq (pcs b (pc (1 - s) x))).length (sq (pcs b (pc (1 - s) x)))=_ from this,qA]
    simp only
    rw [w_s (n:=(i:Int)+1) (by omega) (by omega)]
    exact h3 F
   ·rw [hdr,List.any_cons,List.drop_zero,<- Bool.or_assoc]
    congr 2
    cases hp:pcs b (pc (1 - s) x) j with
    | true=>rw [List.contains_iff_mem.mpr (qWs hj hp)]
    | false=>
      cases hcn:(sq (pcs b (pc (1 - s) x))).contains (j:Int) with
      | false=>rfl
      | true=>
        have:=(qF4 (List.contains_iff_mem.mp hcn)).2.2
        rw [tn,hp] at this
        cases this
theorem qnK {b:List Int} {s:Int} (_hs:s=0 \/ s=1) {c k:Nat} (he:enm b s c=true) (h:qCf (b.getD c 0) c k=true):(qAf.any fun x=>pcs b (pc (1 - s) x) c)=true:=by
 have he:=of_decide_eq_true he
 have h:=of_decide_eq_true h
 have hk:kd (b.getD c 0)=2 \/ kd (b.getD c 0)=6 \/ kd (b.getD c 0)=7 \/ kd (b.getD c 0)=14 \/ kd (b.getD c 0)=15:=by
  unfold slK at h;omega
 have hx:=qPY (x:=b.getD c 0) (by omega)
 rw [List.any_eq_true]
 refine ⟨kd (b.getD c 0),?_,?_⟩
 ·unfold qAf
  rcases hk with h | h | h | h | h<;>rw [h]<;>simp
 ·unfold pcs
  rw [decide_eq_true_eq,<- he,<- hx]
  refine ⟨fun h0=>?_,rfl⟩
  rw [h0,qEr] at hk
  omega
theorem qks {b:List Int} (hcl:Clean b) (h:List Int) (S:Int) {s:Int} (hs:s=0 \/ s=1):∃ es,qGJ s b h S (qS b) (qU b)=some es /\
  (kg b s<0->es=[]) /\ (0<=kg b s->qBk b s (kg b s).toNat (fun c=>enm b s c&&(qAf.any fun x=>pcs b (pc (1 - s) x) c)) es):=by
 have hr:=qf9 (pcs b (pc s 8))
 unfold qGJ
 rw [qOL,show fst (pcs b (pc s 8))=kg b s from rfl,qA]
 by_cases hk:kg b s<0
 ·rw [qg hk]
  exact ⟨[],rfl,fun _=>rfl,fun h=>by omega⟩
 ·rw [qZ hk]
  have hk1:kg b s<81:=hr.2
  obtain ⟨k,hkk⟩:∃ k:Nat,kg b s=k:=⟨(kg b s).toNat,by omega⟩
  rw [hkk]
  have h0:qBk b s k (fun _=>false) []:=by
   intro f hf
   exact ⟨⟨fun h=>(by cases h),fun ⟨_,_,h,_⟩=>(by cases h)⟩,fun _ _ h=>(by cases h)⟩
  obtain ⟨es,h1,h2⟩:=qhW hcl h S hs (k:=k) (by omega) 5 0 rfl _ [] h0
  obtain ⟨g,hg⟩:=ql 5 (by omega)
  have:=h1 g
  rw [<- hg] at this
  refine ⟨es,?_,fun h=>by omega,fun _=>?_⟩
  ·rw [show qEZ qD s k 5 5 0 b h S (qS b) (qU b) [] 5 [2,6,7,14,15]=_ from this,qA]
  ·rw [tn]
   refine qIc (fun i _=>?_) h2
   rw [List.drop_zero,Bool.false_or]
   cases ha:(qAf.any fun x=>pcs b (pc (1 - s) x) i) with
   | false=>simp
   | true=>
     rw [List.any_eq_true] at ha
     obtain ⟨x,hx,hp⟩:=ha
     have:=of_decide_eq_true hp
     unfold qAf at hx
     have hx':x=2 \/ x=6 \/ x=7 \/ x=14 \/ x=15:=by simpa using hx
     unfold enm
     rw [this.2,(qDa (s:=1 - s) (by omega) (k:=x) (by omega) (by omega) (by omega)).1]
     simp
end Go.Kk.Pl
namespace Go.Kk.Pl
def laid (b:List Int) (s f d:Int) (p:Bool):Int:=if d≠0 then 16*s+d else if p=true then 16*s+up_ (kd (at_ b f)) else at_ b f
def was (b:List Int) (s f d:Int):Int:=if d≠0 then 16*s+d else at_ b f
def mb (b:List Int) (s f t d:Int) (p:Bool):List Int:=if d≠0 then put b t (laid b s f d p) else put (put b f 0) t (laid b s f d p)
def mh (b h:List Int) (s t d:Int):List Int:=if d≠0 then qu h s d (-1) else if at_ b t=0 then h else qu h s (rw_ (kd (at_ b t))) 1
def qG9 (K:Int) (b h:List Int) (s f t d:Int) (p:Bool):Int:=qKJ (if d≠0 then qCC (qEt K h s d (-1)) b t (laid b s f d p) else
 if at_ b t=0 then qCC (qCC K b f 0) (put b f 0) t (laid b s f d p) else qEt (qCC (qCC K b f 0) (put b f 0) t (laid b s f d p)) h s (rw_ (kd (at_ b t))) 1)
theorem qHs {k:Int} (h:up_ k≠0):1<=up_ k /\ up_ k<=15 /\ up_ k≠13:=by
 unfold up_ at h ⊢
 split
 ·omega
 ·rename_i h2;rw [if_neg h2] at h;exact absurd rfl h
end Go.Kk.Pl
namespace Go.Kk.Pl
def kof (b h:List Int) (s:Int):Int:=(qGo b h s).getD 0
end Go.Kk.Pl
namespace Go.Kk.Pl
def dl (x k:Int):Int:=if rw_ (kd x)=k then 1 else 0
theorem qTd (x:Int) (l:List Int) (k:Int):(cnt (x :: l) k:Int)=cnt l k+dl x k:=by
 unfold cnt dl
 rw [List.countP_cons]
 by_cases h:rw_ (kd x)=k
 ·simp [h]
 ·have:(rw_ (kd x)==k)=false:=by simpa using h
  simp [h]
theorem qe4 (x k:Int):∀ (l:List Int) (i:Nat),i<l.length->(cnt (l.set i x) k:Int)+dl (l.getD i 0) k=cnt l k+dl x k:=by
 intro l
 induction l with
 | nil=>intro i hi;simp at hi
 | cons y l ih=>
   intro i hi
   cases i with
   | zero=>
     simp only [List.set_cons_zero,qTd,List.getD_cons_zero]
     omega
   | succ i=>
     have:=ih i (by simpa using hi)
     simp only [List.set_cons_succ,qTd,List.getD_cons_succ]
     omega
theorem qg0 (x:Int):kd (if kd x=0 then 0 else x)=kd x:=by
 split
 ·rename_i h;rw [h];exact qEr
 ·rfl
theorem qNN {b:List Int} (hl:b.length=81) {q:Int} (hq:0<=q /\ q<81) (x k:Int):(cnt (put b q x) k:Int)+dl (at_ b q) k=cnt b k+dl x k:=by
 unfold put at_
 rw [if_pos hq,if_pos hq]
 have:=qe4 (if kd x=0 then 0 else x) k b q.toNat (by omega)
 have e:dl (if kd x=0 then 0 else x) k=dl x k:=by unfold dl;rw [qg0]
 rw [e] at this
 exact this
theorem qNT {k:Int} (h:1<=k):dl 0 k=0:=by
 unfold dl
 rw [if_neg]
 rw [qEr]
 unfold rw_
 rw [if_pos (by omega)]
 omega
theorem qFH {n:Int} (h1:-128<=n) (h2:n<=127):IntKind.wrap .i8 n=n:=qA5 h1 h2
theorem qpB (n:Int):-128<=IntKind.wrap .i8 n /\ IntKind.wrap .i8 n<=127:=by
 simp [IntKind.wrap,IntKind.signed,IntKind.bits]
 omega
theorem qN1 (h:List Int) (s k d:Int):(qu h s k d).length=h.length:=by simp [qu]
theorem qUS {h:List Int} (hf:qBI h) (s k d:Int):qBI (qu h s k d):=by
 intro i
 unfold qu
 by_cases e:s.toNat*8+k.toNat=i
 ·by_cases hi:i<h.length
  ·subst e
   rw [List.getD_eq_getElem?_getD,List.getElem?_set_self hi]
   exact qpB _
  ·rw [List.getD_eq_getElem?_getD,List.getElem?_eq_none (by simpa using hi)]
   simp
 ·rw [List.getD_eq_getElem?_getD,List.getElem?_set_ne e,<- List.getD_eq_getElem?_getD]
  exact hf i
theorem qEp {h:List Int} (hl:h.length=16) {s k:Int} (hs:s=0 \/ s=1) (k0:0<=k) (k1:k<8) (d:Int) {s' k':Int} (hs':s'=0 \/ s'=1) (k0':0<=k') (k1':k'<8):
  hd_ (qu h s k d) s' k'=if s'=s /\ k'=k then IntKind.wrap .i8 (hd_ h s k+d) else hd_ h s' k':=by
 by_cases e:s'=s /\ k'=k
 ·obtain ⟨rfl,rfl⟩:=e
  rw [if_pos ⟨rfl,rfl⟩]
  unfold qu
  rw [show hd_ (h.set (s'.toNat*8+k'.toNat) (IntKind.wrap .i8 (hd_ h s' k'+d))) s' k'=(h.set (s'.toNat*8+k'.toNat) (IntKind.wrap .i8 (hd_ h s' k'+d))).getD (s'.toNat*8+k'.toNat) 0 from rfl,
   List.getD_eq_getElem?_getD,List.getElem?_set_self (by rcases hs' with rfl | rfl<;>simp<;>omega)]
  rfl
 ·rw [if_neg e]
  unfold qu hd_
  rw [List.getD_eq_getElem?_getD,List.getElem?_set_ne (by rcases hs with rfl | rfl<;>rcases hs' with rfl | rfl<;>simp<;>omega),<- List.getD_eq_getElem?_getD]
theorem qGY {h:List Int} (hf:qBI h) (s k:Int):-128<=hd_ h s k /\ hd_ h s k<=127:=hf _
theorem qmC {k:Int} (h1:1<=k) (h2:k<8):rw_ k=k:=by
 unfold rw_
 rw [if_neg (by omega),if_neg (by omega)]
theorem qmD {k:Int} (h:up_ k≠0):rw_ (up_ k)=rw_ k:=by
 unfold up_ at h ⊢
 split
 ·unfold rw_
  rw [if_neg (by omega),if_pos (by omega),if_neg (by omega),if_neg (by omega)]
  omega
 ·rename_i h2;rw [if_neg h2] at h;exact absurd rfl h
theorem qkm {b h:List Int} {s:Int} (hS:Sound b h s) (hf:qBI h) (hl:h.length=16) {f t d:Int} {p:Bool} (hP:CanP b h s f t d p) {k:Int} (k0:1<=k) (k1:k<8):
  (cnt (mb b s f t d p) k:Int)+hd_ (mh b h s t d) 0 k+hd_ (mh b h s t d) 1 k=cnt b k+hd_ h 0 k+hd_ h 1 k:=by
 have hsd:=hS.side
 by_cases hd:d=0
 ·obtain ⟨f0,f1,f2,g1,g2,g3,g4⟩:=hP.move hd
  unfold mb mh
  rw [if_neg (by simpa using hd),if_neg (by simpa using hd)]
  have c1:=qNN hS.clean.len ⟨f0,f1⟩ 0 k
  have c2:=qNN (hS.clean.put f 0).len hP.to_ (laid b s f d p) k
  have e1:at_ (put b f 0) t=at_ b t:=by rw [qC9 hS.clean.len ⟨f0,f1⟩,if_neg (Ne.symm f2)]
  rw [e1] at c2
  rw [qNT k0] at c1
  have e2:dl (laid b s f d p) k=dl (at_ b f) k:=by
   unfold laid
   rw [if_neg (by simpa using hd)]
   cases p with
   | false=>rfl
   | true=>
     have hu:=g4 rfl
     obtain ⟨u1,u2,u3⟩:=qHs hu
     rw [if_pos rfl]
     unfold dl
     rw [qGn hsd u1 u2 u3,qmD hu]
  rw [e2] at c2
  by_cases ht:at_ b t=0
  ·rw [if_pos ht]
   rw [ht,qNT k0] at c2
   omega
  ·rw [if_neg ht]
   have hk:=(hS.clean.at_ t).resolve_left ht
   obtain ⟨r1,r2⟩:=qIm hk g3
   have hc:=hS.counts _ r1 r2
   have h0:=hS.hands (rw_ (kd (at_ b t))) (by omega) r2
   rw [qEp hl hsd (by omega) r2 1 (.inl rfl) (by omega) k1,qEp hl hsd (by omega) r2 1 (.inr rfl) (by omega) k1]
   by_cases hkr:k=rw_ (kd (at_ b t))
   ·have e3:dl (at_ b t) k=1:=by unfold dl;rw [if_pos hkr.symm]
    rw [e3] at c2
    rcases hsd with rfl | rfl
    ·rw [if_pos ⟨rfl,hkr⟩,if_neg (by omega),qFH (by omega) (by omega),<- hkr]
     omega
    ·rw [if_neg (by omega),if_pos ⟨rfl,hkr⟩,qFH (by omega) (by omega),<- hkr]
     omega
   ·have e3:dl (at_ b t) k=0:=by unfold dl;rw [if_neg (Ne.symm hkr)]
    rw [e3] at c2
    rw [if_neg (fun h=>hkr h.2),if_neg (fun h=>hkr h.2)]
    omega
 ·obtain ⟨d0,d1,d2,d3,g1,g2⟩:=hP.drop hd
  unfold mb mh
  rw [if_pos hd,if_pos hd]
  have c1:=qNN hS.clean.len hP.to_ (laid b s f d p) k
  have hl':laid b s f d p=16*s+d:=by unfold laid;rw [if_pos hd]
  rw [g2,qNT k0,hl'] at c1
  rw [hl']
  have hb:=qGY hf s d
  rw [qEp hl hsd (by omega) d1 (-1) (.inl rfl) (by omega) k1,qEp hl hsd (by omega) d1 (-1) (.inr rfl) (by omega) k1]
  have e3:dl (16*s+d) k=if d=k then 1 else 0:=by
   unfold dl
   rw [qGn hsd (by omega) (by omega) (by omega),qmC (by omega) d1]
  rw [e3] at c1
  by_cases hkd:k=d
  ·subst hkd
   rw [if_pos rfl] at c1
   rcases hsd with rfl | rfl
   ·rw [if_pos ⟨rfl,rfl⟩,if_neg (by omega),qFH (by omega) (by omega)]
    omega
   ·rw [if_neg (by omega),if_pos ⟨rfl,rfl⟩,qFH (by omega) (by omega)]
    omega
  ·rw [if_neg (Ne.symm hkd)] at c1
   rw [if_neg (fun h=>hkd h.2),if_neg (fun h=>hkd h.2)]
   omega
theorem qWq {b:List Int} (hc:Clean b) (s f t d:Int) (p:Bool):Clean (mb b s f t d p):=by
 unfold mb
 split
 ·exact hc.put _ _
 ·exact (hc.put _ _).put _ _
theorem qij {h:List Int} (hf:qBI h) (b:List Int) (s t d:Int):qBI (mh b h s t d):=by
 unfold mh
 split
 ·exact qUS hf _ _ _
 ·split
  ·exact hf
  ·exact qUS hf _ _ _
theorem qik {h:List Int} (hl:h.length=16) (b:List Int) (s t d:Int):(mh b h s t d).length=16:=by
 unfold mh
 split
 ·rw [qN1];exact hl
 ·split
  ·exact hl
  ·rw [qN1];exact hl
end Go.Kk.Pl
