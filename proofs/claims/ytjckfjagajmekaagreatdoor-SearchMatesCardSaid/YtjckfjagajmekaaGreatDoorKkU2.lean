/- What the program's functions come to, told plainly: the texts of this project that this claim leans on, cut down to what is used. -/
import Derived.Test.YtjckfjagajmekaaGreatDoorKkU1
namespace Go.Kk.Pl
def tk (b:List Int) (i:Nat):Bool:=decide (b.getD i 0≠0)
theorem qpC {b:List Int} (hc:Clean b) {i:Nat} (hi:i<81):(sds b 0 i||sds b 1 i)=tk b i:=by
 have:=hc.ok i hi
 unfold sds tk
 rw[Bool.eq_iff_iff]
 simp only[Bool.or_eq_true,decide_eq_true_eq]
 rcases this with h | h
 ·rw[h,qJM];simp
 ·have h1:=qE4 h
  have h2:=qEU h
  constructor
  ·intro _;omega
  ·intro _;exact h2
theorem qJb {b:List Int} (hc:Clean b) (h:List Int) (S:Int) (by_:List (List Int)):qCx b h S by_ (qK b)=some (sLo (tk b),sHi (tk b)):=by
 unfold qCx
 have e0:(qK b).getD 0 []=prS (sds b 0):=rfl
 have e1:(qK b).getD 1 []=prS (sds b 1):=rfl
 rw[e0,e1,qHa,qHb,qHa,qHb,qHX,qA]
 obtain⟨h1,h2⟩:=qB1 (f:=fun i=>sds b 0 i||sds b 1 i) (g:=tk b) fun i hi=>qpC hc hi
 simp only
 rw[h1,h2]
def sdP (b:List Int) (s:Int) (i:Nat):Bool:=decide (s=0 \/ s=1)&&sds b s i
theorem qO6 (b h:List Int) (S s:Int) (by_:List (List Int)):qFn s b h S by_ (qK b)=some (sLo (sdP b s),sHi (sdP b s)):=by
 unfold qFn
 by_cases h0:s=0
 ·subst h0
  have:sdP b 0=sds b 0:=by funext i;unfold sdP;simp
  rw[this]
  rfl
 ·rw[qAZ h0]
  by_cases h1:s=1
  ·subst h1
   have:sdP b 1=sds b 1:=by funext i;unfold sdP;simp
   rw[this]
   rfl
  ·have:sdP b s=fun _=>false:=by funext i;unfold sdP;simp[h0,h1]
   rw[qAZ h1,this,qBm,qBl]
theorem qN9 (b h:List Int) (S s:Int) (sd':List (List Int)):qFm s b h S (qH b) sd'=some (fst (pcs b (pc s 8))):=by
 unfold qFm
 rw[qHW,qA]
 simp only
 rw[qNR,qA]
def hdP (h:List Int) (s k:Int):Int:=if (s=0 \/ s=1) /\ 1<=k /\ k<8 then hd_ h s k else 0
theorem qgS (b h:List Int) (S s k:Int) (by_ sd':List (List Int)):qCg s k b h S by_ sd'=some (hdP h s k):=by
 unfold hdP
 by_cases hv:(s=0 \/ s=1) /\ 1<=k /\ k<8
 ·rw[if_pos hv,qKR hv.1 hv.2.1 hv.2.2]
 ·rw[if_neg hv]
  unfold qCg
  by_cases h0:s=0
  ·rw[qAk h0]
   by_cases h1:k<1
   ·rw[qg h1]
   ·rw[qc h1,qDI (by omega)]
  ·rw[qAZ h0]
   by_cases h2:s=1
   ·rw[qAk h2]
    by_cases h1:k<1
    ·rw[qg h1]
    ·rw[qc h1,qDI (by omega)]
   ·rw[qAZ h2]
theorem qge:isE (fun _=>false)=true:=by decide
end Go.Kk.Pl
namespace Go.Kk.Pl
def fl (q:Nat):Int:=((q / 9:Nat):Int)
def rn (q:Nat):Int:=((q % 9:Nat):Int)
def df (a c:Nat):Int:=fl c - fl a
def dr (a c:Nat):Int:=rn c - rn a
def upS (x:Int) (a c:Nat):Int:=if sd x=1 then dr a c else - dr a c
theorem geo {a:Nat} (ha:a<81):0<=fl a /\ fl a<=8 /\ 0<=rn a /\ rn a<=8 /\ (a:Int)=9*fl a+rn a:=by unfold fl rn;omega
theorem qIo {a c:Nat} (h:df a c=0) (h':dr a c=0):a=c:=by unfold df dr fl rn at *;omega
theorem qG7 (a:Nat):df a a=0 /\ dr a a=0:=by unfold df dr;omega
def qBJ (dx dy:Int) (a:Nat):Int:=if 0<=fl a+dx /\ fl a+dx<=8 /\ 0<=rn a+dy /\ rn a+dy<=8 then 9*(fl a+dx)+(rn a+dy) else -1
theorem qIE (q:Nat):Int.tdiv (q:Int) 9=fl q:=by unfold fl;rw[Int.tdiv_eq_ediv_of_nonneg (by omega)];omega
theorem qJd (q:Nat):Int.tmod (q:Int) 9=rn q:=qJc q
theorem qoA (f r:Int):qGN f r=some (if 0<=f /\ f<=8 /\ 0<=r /\ r<=8 then 9*f+r else -1):=by
 unfold qGN
 by_cases h1:f<0
 ·rw[qg h1,if_neg (by omega)]
 by_cases h2:f>8
 ·rw[qc h1,qFi h2,if_neg (by omega)]
 by_cases h3:r<0
 ·rw[qc h1,qD4 h2,qg h3,if_neg (by omega)]
 by_cases h4:r>8
 ·rw[qc h1,qD4 h2,qc h3,qFi h4,if_neg (by omega)]
 ·rw[qc h1,qD4 h2,qc h3,qD4 h4,if_pos (by omega),w_s (n:=9*f) (by omega) (by omega),w_s (by omega) (by omega)]
theorem qNV {dx dy:Int} (h1:-8<=dx) (h2:dx<=8) (h3:-8<=dy) (h4:dy<=8) {a:Nat} (ha:a<81):qGR dx dy a=some (qBJ dx dy a):=by
 have hg:=geo ha
 unfold qGR qFP qEX
 simp (disch:=omega) only[qc,qCf,qIE,qJd,qA,w_s,qoA]
 rfl
theorem qjQ {dx dy:Int} {a c:Nat} (ha:a<81) (hc:c<81):only (qBJ dx dy a) c=decide (df a c=dx /\ dr a c=dy):=by
 have hg:=geo ha
 have hg2:=geo hc
 unfold only qBJ df dr
 rw[decide_eq_decide]
 split<;>omega
def qB2 (k d u:Int):Prop:=
 (k=1 /\ d=0 /\ u=1) \/ (k=3 /\ (d=1 \/ d = -1) /\ u=2) \/ (k=4 /\ ((u=1 /\ -1<=d /\ d<=1) \/ (u = -1 /\ (d=1 \/ d = -1)))) \/
 ((k=5 \/ k=9 \/ k=10 \/ k=11 \/ k=12) /\ ((u=1 /\ -1<=d /\ d<=1) \/ (u=0 /\ (d=1 \/ d = -1)) \/ (u = -1 /\ d=0))) \/
 (k=8 /\ -1<=d /\ d<=1 /\ -1<=u /\ u<=1 /\ ¬ (d=0 /\ u=0)) \/ (k=14 /\ ((u=0 /\ (d=1 \/ d = -1)) \/ (d=0 /\ (u=1 \/ u = -1)))) \/
 (k=15 /\ (d=1 \/ d = -1) /\ (u=1 \/ u = -1))
instance (k d u:Int):Decidable (qB2 k d u):=by unfold qB2;infer_instance
def qAy (x:Int) (a c:Nat):Bool:=decide (qB2 (kd x) (df a c) (upS x a c))
theorem qnq {n:Int} (h1:-1000<=n) (h2:n<=1000):qFF n=some (if n<0 then -n else n):=by
 unfold qFF
 split
 ·rename_i h;rw[qg h,w_s (by omega) (by omega)];congr 1;omega
 ·rename_i h;rw[qc h]
theorem qRf {x:Int} {a c:Nat} (ha:a<81) (hc:c<81):-8<=upS x a c /\ upS x a c<=8 /\ -8<=df a c /\ df a c<=8 /\ -8<=dr a c /\ dr a c<=8:=by
 have hg:=geo ha
 have hg2:=geo hc
 unfold upS df dr
 split<;>omega
def stT (k u S : Int):Option Bool:=
 br (decide (S <= 1))
  (ob (qFF u) fun a5=>
   br (k == 1)
    (br (S==0)
     (some (u==1))
     (some (false)))
    (br (k == 3)
     (br (S==1)
      (some (u==2))
      (some (false)))
     (br (k == 4)
      (br (decide (a5<=1))
       (br (u==1)
        (some (true))
        (br (S==1)
         (some (u == -1))
         (some (false))))
       (some (false)))
      (br (k == 5)
       (br (decide (a5<=1))
        (br (decide (u >= 0))
         (some (true))
         (some (S==0)))
        (some (false)))
       (br (k == 9)
        (br (decide (a5<=1))
         (br (decide (u >= 0))
          (some (true))
          (some (S==0)))
         (some (false)))
        (br (k == 10)
         (br (decide (a5<=1))
          (br (decide (u >= 0))
           (some (true))
           (some (S==0)))
          (some (false)))
         (br (k == 11)
          (br (decide (a5<=1))
           (br (decide (u >= 0))
            (some (true))
            (some (S==0)))
           (some (false)))
          (br (k==12)
           (br (decide (a5<=1))
            (br (decide (u >= 0))
             (some (true))
             (some (S==0)))
            (some (false)))
           (br (k==8)
            (some (decide (a5<=1)))
            (br (k==14)
             (br (decide (a5<=1))
              (br (S==0)
               (some (true))
               (some (u==0)))
              (some (false)))
             (br (k==15)
              (br (decide (a5<=1))
               (br (S==1)
                (some (u != 0))
                (some (false)))
               (some (false)))
              (some (false)))))))))))))
   (br (k == 1)
    (br (S==0)
     (some (u==1))
     (some (false)))
    (br (k == 3)
     (br (S==1)
      (some (u==2))
      (some (false)))
     (br (k == 4)
      (some (false))
      (br (k == 5)
       (some (false))
       (br (k == 9)
        (some (false))
        (br (k==10)
         (some (false))
         (br (k==11)
          (some (false))
          (br (k==12)
           (some (false))
           (br (k==8)
            (some (false))
            (br (k==14)
             (some (false))
             (br (k==15)
              (some (false))
              (some (false)))))))))))))
theorem qoB:∀ (k:Fin 16) (d u:Fin 17),((d.val=8 /\ u.val=8) \/ stT ((k.val:Nat):Int) ((u.val:Int) - 8) (if (d.val:Int) - 8<0 then -((d.val:Int) - 8) else (d.val:Int) - 8) =
  some (decide (qB2 ((k.val:Nat):Int) ((d.val:Int) - 8) ((u.val:Int) - 8)))):=by decide +kernel
theorem qok {k d u:Int} (hne:¬ (d=0 /\ u=0)) (k0:0<=k) (k1:k<=15) (u1:-8<=u) (u2:u<=8) (d1:-8<=d) (d2:d<=8):stT k u (if d<0 then -d else d)=some (decide (qB2 k d u)):=by
 have:=qoB ⟨k.toNat,by omega⟩ ⟨(d+8).toNat,by omega⟩ ⟨(u+8).toNat,by omega⟩
 simp only at this
 rw[show ((k.toNat:Nat):Int)=k by omega,show (((d+8).toNat:Nat):Int) - 8=d by omega,show (((u+8).toNat:Nat):Int) - 8=u by omega] at this
 exact this.resolve_left (by omega)
theorem ql0 (x:Int) {a c:Nat} (ha:a<81) (hc:c<81):qJD x a c=some (qAy x a c):=by
 have hg:=geo ha
 have hg2:=geo hc
 have hr:=qRf (x:=x) ha hc
 unfold qJD qAy
 simp (disch:=omega) only[qc,qIE,qJd,qLU,qES,qA,w_s]
 by_cases hac:a=c
 ·subst hac
  rw[qo rfl]
  have:=qG7 a
  have hu:upS x a a=0:=by unfold upS;rw[this.2];split<;>rfl
  rw[this.1,hu]
  symm
  rw[Option.some.injEq,decide_eq_false_iff_not]
  unfold qB2
  omega
 ·rw[qm (by omega)]
  have hne:¬ (df a c=0 /\ upS x a c=0):=by
   rintro ⟨h1,h2⟩
   refine hac (qIo h1 ?_)
   unfold upS at h2
   split at h2<;>omega
  have hS:=qnq (n:=fl c - fl a) (by omega) (by omega)
  rw[hS,qA]
  obtain⟨k0,k1,_⟩:=qCn x
  have:=qok (k:=kd x) hne k0 k1 hr.1 hr.2.1 hr.2.2.1 hr.2.2.2.1
  rw[<- this]
  by_cases hs:sd x=1
  ·have hu:(0:Int) - (rn a - rn c)=upS x a c:=by unfold upS dr;rw[if_pos hs];omega
   rw[qo hs,hu]
   rfl
  ·have hu:rn a - rn c=upS x a c:=by unfold upS dr;rw[if_neg hs];omega
   rw[qm hs,hu]
   rfl
def qAR (k:Int):List (List Int):=if k=1 then [[0,-1]] else if k=3 then [[-1,-2],[1,-2]] else if k=4 then [[-1,-1],[0,-1],[1,-1],[-1,1],[1,1]]
 else if k=5 \/ k=9 \/ k=10 \/ k=11 \/ k=12 then [[-1,-1],[0,-1],[1,-1],[-1,0],[1,0],[0,1]]
 else if k=8 then [[-1,-1],[0,-1],[1,-1],[-1,0],[1,0],[0,1],[-1,1],[1,1]] else if k=14 then [[0,-1],[-1,0],[1,0],[0,1]]
 else if k=15 then [[-1,-1],[1,-1],[-1,1],[1,1]] else []
theorem qfQ:∀ k:Fin 16,qGS qC ((k.val:Nat):Int)=some ((qAR ((k.val:Nat):Int)).length,(qAR ((k.val:Nat):Int)).length,qAR ((k.val:Nat):Int)):=by decide +kernel
theorem qfR {k:Int} (h0:0<=k) (h1:k<=15):qGS qC k=some ((qAR k).length,(qAR k).length,qAR k):=by
 have:=qfQ ⟨k.toNat,by omega⟩
 simpa only[show ((k.toNat:Nat):Int)=k by omega] using this
theorem qfP:∀ (k:Fin 16) (i:Fin 8),((qAR ((k.val:Nat):Int)).getD i.val []).length<=2 /\ -2<=((qAR ((k.val:Nat):Int)).getD i.val []).headD 0 /\ ((qAR ((k.val:Nat):Int)).getD i.val []).headD 0<=2 /\
  -2<=((qAR ((k.val:Nat):Int)).getD i.val []).tail.headD 0 /\ ((qAR ((k.val:Nat):Int)).getD i.val []).tail.headD 0<=2:=by decide +kernel
theorem qfN:∀ (k:Fin 16),(qAR ((k.val:Nat):Int)).length<=8:=by decide +kernel
def sg (x:Int):Int:=if sd x=1 then -1 else 1
theorem qb4 {dx dy:Int} (h:-8<=dx /\ dx<=8 /\ -8<=dy /\ dy<=8) (x:Int):qFS dx dy (sd x)=some (sg x*dx,sg x*dy):=by
 unfold qFS sg
 by_cases hs:sd x=1
 ·rw[qo hs,if_pos hs,w_s (by omega) (by omega),w_s (by omega) (by omega)]
  congr 2<;>omega
 ·rw[qm hs,if_neg hs]
  congr 2<;>omega
theorem qaq (x:Int):sg x=1 \/ sg x = -1:=by unfold sg;split<;>simp
def dx_ (r:List Int):Int:=r.headD 0
def dy_ (r:List Int):Int:=r.tail.headD 0
def qDE (x:Int) (L:List (List Int)) (a c:Nat):Bool:=L.any fun r=>decide (df a c=sg x*dx_ r /\ dr a c=sg x*dy_ r)
theorem qoF {x:Int} {a:Nat} (ha:a<81) (L:List (List Int)) (hlen:L.length<=8) (hr:∀ r∈L,r.length<=2 /\ -2<=dx_ r /\ dx_ r<=2 /\ -2<=dy_ r /\ dy_ r<=2) (N:Nat) (u v:Int):
  ∀ (n i:Nat),i+n=L.length->∀ (f:Nat->Bool) (F:Nat),qFU (F+n+1) x a L.length (Int.ofNat L.length) i u v (sLo f) (sHi f) N L =
    some (u,v,sLo fun c=>f c||qDE x (L.drop i) a c,sHi fun c=>f c||qDE x (L.drop i) a c):=by
 intro n
 induction n with
 | zero=>
   intro i hi f F
   show qH9 (qFU (F+0)) _ _ _ _ _ _ _ _ _ _ _=_
   unfold qH9
   rw[qc (by simp;omega),List.drop_eq_nil_of_le (by omega)]
   have:(fun c=>f c||qDE x [] a c)=f:=by funext c;simp[qDE]
   rw[this]
 | succ n ih=>
   intro i hi f F
   show qH9 (qFU (F+n+1)) _ _ _ _ _ _ _ _ _ _ _=_
   unfold qH9
   have hil:i<L.length:=by omega
   have hget:L.getD i []=L[i]:=by rw[List.getD_eq_getElem?_getD,List.getElem?_eq_getElem hil];rfl
   obtain⟨r0,r1,r2,r3,r4⟩:=hr L[i] (List.getElem_mem hil)
   have ht:List.take 2 L[i]=L[i]:=List.take_of_length_le r0
   have hs:=qaq x
   rw[qg (by simp;omega),qq (by omega) (by omega),tn,hget,ht,qC9,qA]
   show ob (qFS (dx_ L[i]) (dy_ L[i]) (sd x)) _=_
   rw[qb4 (by omega),qA]
   simp only
   rw[qNV (by rcases hs with h | h<;>rw[h]<;>omega) (by rcases hs with h | h<;>rw[h]<;>omega) (by rcases hs with h | h<;>rw[h]<;>omega) (by rcases hs with h | h<;>rw[h]<;>omega) ha,qA,qGZ,qA]
   simp only
   rw[w_s (by omega) (by omega)]
   refine (ih (i+1) (by omega) _ F).trans ?_
   have hd:L.drop i=L[i] :: L.drop (i+1):=List.drop_eq_getElem_cons hil
   obtain⟨e1,e2⟩:=qB1 (f:=fun c=>(f c||only (qBJ (sg x*dx_ L[i]) (sg x*dy_ L[i]) a) c)||qDE x (L.drop (i+1)) a c) (g:=fun c=>f c||qDE x (L.drop i) a c) fun c hc=>by
    rw[qjQ ha hc,hd]
    unfold qDE
    rw[List.any_cons,Bool.or_assoc]
   rw[e1,e2]
theorem qcz:∀ (k:Fin 16) (d u:Fin 17),(qAR ((k.val:Nat):Int)).any (fun r=>decide ((d.val:Int) - 8=dx_ r /\ (u.val:Int) - 8 = -(dy_ r)))=decide (qB2 ((k.val:Nat):Int) ((d.val:Int) - 8) ((u.val:Int) - 8)):=by decide +kernel
theorem qc0:∀ (k:Fin 16) (d u:Fin 17),(qAR ((k.val:Nat):Int)).any (fun r=>decide ((d.val:Int) - 8 = -(dx_ r) /\ (u.val:Int) - 8 = -(dy_ r)))=decide (qB2 ((k.val:Nat):Int) ((d.val:Int) - 8) ((u.val:Int) - 8)):=by decide +kernel
theorem qc1 (x:Int) {a c:Nat} (ha:a<81) (hc:c<81):qDE x (qAR (kd x)) a c=qAy x a c:=by
 obtain⟨k0,k1,_⟩:=qCn x
 have hr:=qRf (x:=x) ha hc
 unfold qAy qDE sg upS
 by_cases hs:sd x=1
 ·simp only[hs,if_true]
  have:=qc0 ⟨(kd x).toNat,by omega⟩ ⟨(df a c+8).toNat,by omega⟩ ⟨(dr a c+8).toNat,by omega⟩
  simp only[show (((kd x).toNat:Nat):Int)=kd x by omega,show (((df a c+8).toNat:Nat):Int) - 8=df a c by omega,show (((dr a c+8).toNat:Nat):Int) - 8=dr a c by omega] at this
  rw[<- this]
  congr 1
  funext r
  rw[decide_eq_decide]
  constructor<;>(rintro ⟨h1,h2⟩;constructor<;>omega)
 ·simp only[hs,if_false]
  have:=qcz ⟨(kd x).toNat,by omega⟩ ⟨(df a c+8).toNat,by omega⟩ ⟨(-dr a c+8).toNat,by omega⟩
  simp only[show (((kd x).toNat:Nat):Int)=kd x by omega,show (((df a c+8).toNat:Nat):Int) - 8=df a c by omega,show (((-dr a c+8).toNat:Nat):Int) - 8 = -dr a c by omega] at this
  rw[<- this]
  congr 1
  funext r
  rw[decide_eq_decide]
  constructor<;>(rintro ⟨h1,h2⟩;constructor<;>omega)
theorem qfO {k:Int} (h0:0<=k) (h1:k<=15):(qAR k).length<=8 /\ ∀ r∈qAR k,r.length<=2 /\ -2<=dx_ r /\ dx_ r<=2 /\ -2<=dy_ r /\ dy_ r<=2:=by
 have hl:=qfN ⟨k.toNat,by omega⟩
 simp only[show ((k.toNat:Nat):Int)=k by omega] at hl
 refine⟨hl,fun r hr=>?_⟩
 obtain⟨i,hi,rfl⟩:=List.getElem_of_mem hr
 have:=qfP ⟨k.toNat,by omega⟩ ⟨i,by omega⟩
 simp only[show ((k.toNat:Nat):Int)=k by omega] at this
 rw[List.getD_eq_getElem?_getD,List.getElem?_eq_getElem hi] at this
 exact this
theorem qoG (x:Int) {a:Nat} (ha:a<81):qJX x a=some (sLo (qAy x a),sHi (qAy x a)):=by
 obtain⟨k0,k1,_⟩:=qCn x
 obtain⟨hlen,hrs⟩:=qfO k0 k1
 obtain⟨g,hg⟩:=qe (qAR (kd x)).length (by omega)
 have:=qoF (x:=x) ha (qAR (kd x)) hlen hrs (qAR (kd x)).length 0 0 (qAR (kd x)).length 0 (by omega) (fun _=>false) g
 rw[<- hg,qBm,qBl] at this
 unfold qJX
 rw[qA4,qA,qfR k0 k1,qA]
 simp only
 rw[show qFU qC x a (qAR (kd x)).length (Int.ofNat (qAR (kd x)).length) 0 0 0 0 0 (qAR (kd x)).length (qAR (kd x))=_ from this,qA]
 simp only
 obtain⟨e1,e2⟩:=qB1 (f:=fun c=>false||qDE x (List.drop 0 (qAR (kd x))) a c) (g:=qAy x a) fun c hc=>by
  rw[Bool.false_or,List.drop_zero,qc1 x ha hc]
 rw[e1,e2]
end Go.Kk.Pl
namespace Go.Kk.Pl
def sgn (n:Int):Int:=if n<0 then -1 else if n>0 then 1 else 0
def qv (a c:Nat):Int:=if a=c then 0 else if df a c=0 \/ dr a c=0 then 1 else if df a c=dr a c \/ df a c = -dr a c then 2 else 0
def mx (a c:Nat):Nat:=if (df a c).natAbs<(dr a c).natAbs then (dr a c).natAbs else (df a c).natAbs
def qAV (a c:Nat):Int:=9*sgn (df a c)+sgn (dr a c)
def btw (a c:Nat):List Nat:=if qv a c=0 then [] else (List.range (mx a c - 1)).map fun (j:Nat)=>((a:Int)+((j:Int)+1)*qAV a c).toNat
theorem qno (n:Int):qHn n=some (sgn n):=by
 unfold qHn sgn
 split
 ·rename_i h;rw[qg h]
 ·rename_i h
  rw[qc h]
  split
  ·rename_i h2;rw[qFi h2]
  ·rename_i h2;rw[qD4 h2]
theorem qV5 {a c:Nat} (ha:a<81) (hc:c<81):qHl a c=some (qv a c):=by
 have hg:=geo ha
 have hg2:=geo hc
 unfold qHl qv
 simp (disch:=omega) only[qc,qIE,qJd,w_s]
 by_cases hac:a=c
 ·rw[qo (by omega),if_pos hac]
 ·rw [qm (by omega),if_neg hac]
  by_cases h1:df a c=0
  ·rw[qo (by unfold df at h1;omega),if_pos (.inl h1)]
  ·rw[qm (by unfold df at h1;omega)]
   by_cases h2:dr a c=0
   ·rw[qo (by unfold dr at h2;omega),if_pos (.inr h2)]
   ·rw[qm (by unfold dr at h2;omega),if_neg (by omega)]
    by_cases h3:df a c=dr a c
    ·rw[qo (by unfold df dr at h3;omega),if_pos (.inl h3)]
    ·rw[qm (by unfold df dr at h3;omega)]
     by_cases h4:df a c = -dr a c
     ·rw[qo (by unfold df dr at h4;omega),if_pos (.inr h4)]
     ·rw[qm (by unfold df dr at h4;omega),if_neg (by omega)]
theorem qKi {a c:Nat} (ha:a<81) (hc:c<81) (h:qv a c≠0):1<=mx a c /\ mx a c<=8 /\ (c:Int)=a+(mx a c:Int)*qAV a c /\ qAV a c≠0 /\ -10<=qAV a c /\ qAV a c<=10:=by
 have hg:=geo ha
 have hg2:=geo hc
 have hdf:df a c=fl c - fl a:=rfl
 have hdr:dr a c=rn c - rn a:=rfl
 unfold qv at h
 split at h
 ·exact absurd rfl h
 rename_i hac
 have hne:¬ (df a c=0 /\ dr a c=0):=fun hh=>hac (qIo hh.1 hh.2)
 have hl:df a c=0 \/ dr a c=0 \/ df a c=dr a c \/ df a c = -dr a c:=by
  split at h
  ·rename_i h1;rcases h1 with h1 | h1
   ·exact .inl h1
   ·exact .inr (.inl h1)
  ·split at h
   ·rename_i h1;rcases h1 with h1 | h1
    ·exact .inr (.inr (.inl h1))
    ·exact .inr (.inr (.inr h1))
   ·exact absurd rfl h
 clear h
 unfold mx qAV sgn
 generalize df a c=d at *
 generalize dr a c=e at *
 rcases Int.lt_trichotomy d 0 with h1 | h1 | h1<;>rcases Int.lt_trichotomy e 0 with h2 | h2 | h2
 all_goals simp (disch:=omega) only[if_pos,if_neg]
 all_goals (refine⟨by omega,by omega,by omega,by omega,by omega,by omega⟩)
theorem qKm {a c D:Int} {m j:Nat} (hm:c=a+(m:Int)*D) (ha:0<=a /\ a<81) (hc:0<=c /\ c<81) (hj:j<=m) (_hD:-10<=D /\ D<=10):0<=a+(j:Int)*D /\ a+(j:Int)*D<81:=by
 have hj':(j:Int)<=m:=by omega
 rcases Int.le_total 0 D with h | h
 ·have h1:(0:Int)<=(j:Int)*D:=Int.mul_nonneg (by omega) h
  have h2:(j:Int)*D<=(m:Int)*D:=Int.mul_le_mul_of_nonneg_right hj' h
  omega
 ·have h1:(j:Int)*D<=0:=Int.mul_nonpos_of_nonneg_of_nonpos (by omega) h
  have h2:(m:Int)*D<=(j:Int)*D:=Int.mul_le_mul_of_nonpos_right hj' h
  omega
theorem qdc {a c:Nat} (ha:a<81) (hc:c<81) (h:qv a c≠0):∀ (n j:Nat),j+1+n=mx a c->∀ F,
  qFG (F+n+1) c j (qAV a c) ((a:Int)+((j:Int)+1)*qAV a c) j ((List.range j).map fun (j:Nat)=>(a:Int)+((j:Int)+1)*qAV a c) =
   some (mx a c - 1,mx a c - 1,(List.range (mx a c - 1)).map fun (j:Nat)=>(a:Int)+((j:Int)+1)*qAV a c):=by
 obtain⟨m1,m8,hend,hD0,hD1,hD2⟩:=qKi ha hc h
 intro n
 induction n with
 | zero=>
   intro j hj F
   show qHj (qFG (F+0)) _ _ _ _ _ _=_
   unfold qHj
   have hjm:((j:Int)+1)=(mx a c:Int):=by omega
   rw[hjm,qAk (by omega),show mx a c - 1=j by omega]
 | succ n ih=>
   intro j hj F
   show qHj (qFG (F+n+1)) _ _ _ _ _ _=_
   unfold qHj
   have hne:¬ (a:Int)+((j:Int)+1)*qAV a c=c:=by
    rw[hend]
    intro hh
    have:((j:Int)+1)*qAV a c=(mx a c:Int)*qAV a c:=by omega
    have:=Int.eq_of_mul_eq_mul_right hD0 this
    omega
   have hr:=qKm (j:=j+1) hend (by omega) (by omega) (by omega) ⟨hD1,hD2⟩
   have hr2:=qKm (j:=j+2) hend (by omega) (by omega) (by omega) ⟨hD1,hD2⟩
   have e2:(a:Int)+((j:Int)+1)*qAV a c+qAV a c=(a:Int)+(((j+1:Nat):Int)+1)*qAV a c:=by
    rw[show (((j+1:Nat):Int)+1)=((j:Int)+1)+1 by omega,Int.add_mul ((j:Int)+1),Int.one_mul];omega
   have e3:(((j+2:Nat):Int))=(((j+1:Nat):Int)+1):=by omega
   rw[e3] at hr2
   rw[qAZ hne,qD (by simp;omega),e2,w_s (by omega) (by omega),qMR (by simp)]
   have e4:(((List.range j).map fun (j:Nat)=>(a:Int)+((j:Int)+1)*qAV a c)++[(a:Int)+((j:Int)+1)*qAV a c])=(List.range (j+1)).map fun (j:Nat)=>(a:Int)+((j:Int)+1)*qAV a c:=by
    rw[List.range_succ,List.map_append];rfl
   rw[e4]
   exact ih (j+1) (by omega) F
theorem qIU {a c:Nat} (ha:a<81) (hc:c<81) {s:Nat} (hs:s∈btw a c):s<81:=by
 unfold btw at hs
 split at hs
 ·cases hs
 ·rename_i h
  obtain⟨m1,m8,hend,hD0,hD1,hD2⟩:=qKi ha hc h
  obtain⟨j,hj,rfl⟩:=List.mem_map.1 hs
  rw[List.mem_range] at hj
  have hr:=qKm (j:=j+1) hend (by omega) (by omega) (by omega) ⟨hD1,hD2⟩
  rw[show (((j+1:Nat):Int))=(j:Int)+1 by omega] at hr
  omega
theorem qeH {a c:Nat} (ha:a<81) (hc:c<81):(btw a c).length<=7:=by
 unfold btw
 split
 ·simp
 ·rename_i h
  obtain⟨m1,m8,_⟩:=qKi ha hc h
  simp;omega
theorem qde {a c:Nat} (ha:a<81) (hc:c<81):qJE a c=some ((btw a c).length,(btw a c).length,(btw a c).map Int.ofNat):=by
 have hg:=geo ha
 have hg2:=geo hc
 unfold qJE
 rw[qV5 ha hc,qA]
 by_cases h:qv a c=0
 ·rw[qo h]
  unfold btw
  rw[if_pos h]
  rfl
 ·obtain⟨m1,m8,hend,hD0,hD1,hD2⟩:=qKi ha hc h
  have hs1:-1<=sgn (df a c) /\ sgn (df a c)<=1:=by unfold sgn;split<;>(try split)<;>omega
  have hs2:-1<=sgn (dr a c) /\ sgn (dr a c)<=1:=by unfold sgn;split<;>(try split)<;>omega
  rw[qm h]
  simp (disch:=omega) only[qIE,qJd,w_s,qno,qA]
  rw[show fl c - fl a=df a c from rfl,show rn c - rn a=dr a c from rfl,w_s (n:=9*sgn (df a c)) (by omega) (by omega),show 9*sgn (df a c)+sgn (dr a c)=qAV a c from rfl,w_s (n:=qAV a c) (by omega) (by omega),w_s (n:=(a:Int)+qAV a c) (by omega) (by omega)]
  obtain⟨g,hgm⟩:=qe (mx a c - 1) (by omega)
  have:=qdc ha hc h (mx a c - 1) 0 (by omega) g
  rw[<- hgm] at this
  have e0:(a:Int)+(((0:Nat):Int)+1)*qAV a c=a+qAV a c:=by
   rw[show ((0:Nat):Int)+1=1 from rfl,Int.one_mul]
  rw[e0] at this
  rw[show qFG qC c 0 (qAV a c) ((a:Int)+qAV a c) 0 []=_ from this,qA]
  unfold btw
  rw[if_neg h]
  simp only[List.length_map,List.length_range,List.map_map]
  congr 3
  apply List.map_congr_left
  intro j hj
  rw[List.mem_range] at hj
  have hr:=qKm (j:=j+1) hend (by omega) (by omega) (by omega) ⟨hD1,hD2⟩
  rw[show (((j+1:Nat):Int))=(j:Int)+1 by omega] at hr
  show _=Int.ofNat (Int.toNat _)
  simp only[Int.ofNat_eq_natCast]
  omega
def qAl (a c:Nat) (t:Nat->Bool):Bool:=(btw a c).all fun s=>!t s
theorem qfs (t:List Bool) (L:List Nat) (hL:∀ s∈L,s<81) (hl:L.length<=100) (N:Nat):∀ (n i:Nat),i+n=L.length->∀ F,
  qFH (F+n+1) L.length i t N (L.map Int.ofNat)=some (if (L.drop i).all (fun s=>!t.getD s false) then .inr () else .inl false):=by
 intro n
 induction n with
 | zero=>
   intro i hi F
   show qHk (qFH (F+0)) _ _ _ _ _=_
   unfold qHk
   rw[qc (by simp;omega),List.drop_eq_nil_of_le (by omega)]
   rfl
 | succ n ih=>
   intro i hi F
   show qHk (qFH (F+n+1)) _ _ _ _ _=_
   unfold qHk
   have hil:i<L.length:=by omega
   have hd:L.drop i=L[i] :: L.drop (i+1):=List.drop_eq_getElem_cons hil
   have hget:(L.map Int.ofNat).getD i 0=(L[i]:Int):=by
    rw[List.getD_eq_getElem?_getD,List.getElem?_map,List.getElem?_eq_getElem hil];rfl
   have h81:=hL L[i] (List.getElem_mem hil)
   rw[qg (by simp;omega),qq (by omega) (by omega),tn,hget,qq (by omega) (by omega),tn,hd,List.all_cons,w_s (by omega) (by omega)]
   cases ht:t.getD L[i] false with
   | true=>rfl
   | false=>
     rw[b_f,Bool.not_false,Bool.true_and]
     exact ih (i+1) (by omega) F
theorem qfu {a c:Nat} (ha:a<81) (hc:c<81) (t:List Bool):qAq a c t=some (qAl a c fun s=>t.getD s false):=by
 unfold qAq
 rw[qde ha hc,qA]
 simp only
 have hlen:=qeH ha hc
 obtain⟨g,hg⟩:=qe (btw a c).length (by omega)
 have:=qfs t (btw a c) (fun s hs=>qIU ha hc hs) (by omega) (btw a c).length (btw a c).length 0 (by omega) g
 rw[<- hg] at this
 rw[show qFH qC (btw a c).length 0 t (btw a c).length ((btw a c).map Int.ofNat)=_ from this,qA,List.drop_zero]
 unfold qAl
 cases (btw a c).all fun s=>!t.getD s false<;>rfl
def slK (k d u:Int):Prop:=(k=2 /\ d=0 /\ 0<u) \/ ((k=6 \/ k=14) /\ ¬ (d=0 /\ u=0) /\ (d=u \/ d = -u)) \/ ((k=7 \/ k=15) /\ ¬ (d=0 /\ u=0) /\ (d=0 \/ u=0))
instance (k d u:Int):Decidable (slK k d u):=by unfold slK;infer_instance
def qAh (x:Int) (a c:Nat):Bool:=decide (slK (kd x) (df a c) (upS x a c))
def rch (x:Int) (a c:Nat) (t:Nat->Bool):Bool:=qAy x a c||(qAh x a c&&qAl a c t)
theorem qhn {a c:Nat}:qv a c=1↔(¬ (df a c=0 /\ dr a c=0)) /\ (df a c=0 \/ dr a c=0):=by
 unfold qv
 by_cases hac:a=c
 ·subst hac
  have:=qG7 a
  simp[this.1,this.2]
 ·have:¬ (df a c=0 /\ dr a c=0):=fun h=>hac (qIo h.1 h.2)
  rw[if_neg hac]
  split
  ·rename_i h;simp[this,h]
  ·rename_i h
   split<;>simp[h]
theorem qho {a c:Nat}:qv a c=2↔(¬ (df a c=0 /\ dr a c=0)) /\ (df a c=dr a c \/ df a c = -dr a c):=by
 unfold qv
 by_cases hac:a=c
 ·subst hac
  have:=qG7 a
  simp[this.1,this.2]
 ·have:¬ (df a c=0 /\ dr a c=0):=fun h=>hac (qIo h.1 h.2)
  rw[if_neg hac]
  split
  ·rename_i h
   constructor
   ·intro hh;omega
   ·rintro ⟨h1,h2⟩;omega
  ·rename_i h
   split
   ·rename_i h2;simp[h2];omega
   ·rename_i h2;simp[h2]
theorem qkS (x:Int) {a c:Nat} (ha:a<81) (hc:c<81) (t:List Bool):qHm x a c t=some (rch x a c fun s=>t.getD s false):=by
 have hg:=geo ha
 have hg2:=geo hc
 unfold qHm
 rw[ql0 x ha hc,qA]
 unfold rch
 cases hst:qAy x a c with
 | true=>rfl
 | false =>
   rw[b_f,qV5 ha hc,qA,qLU,qA,Bool.false_or]
   have l1:=qhn (a:=a) (c:=c)
   have l2:=qho (a:=a) (c:=c)
   have hup:upS x a c=if sd x=1 then dr a c else -dr a c:=rfl
   have hdr:dr a c=rn c - rn a:=rfl
   have hdf:df a c=fl c - fl a:=rfl
   have fin:∀ (p:Bool),p=qAh x a c->(br p (ob (qAq a c t) fun a8=>some a8) (some false):Option Bool)=some (qAh x a c&&qAl a c fun s=>t.getD s false):=by
    intro p hp
    rw[hp,qfu ha hc,qA]
    cases qAh x a c<;>rfl
   have sl:∀ {p:Prop} [Decidable p],(p↔slK (kd x) (df a c) (upS x a c))->decide p=qAh x a c:=by
    intro p _ h
    unfold qAh
    rw[decide_eq_decide];exact h
   have nsl:¬ slK (kd x) (df a c) (upS x a c)->(some false:Option Bool)=some (qAh x a c&&qAl a c fun s=>t.getD s false):=by
    intro h
    have:qAh x a c=false:=by unfold qAh;simpa using h
    rw[this];rfl
   simp (disch:=omega) only[qIE,qJd,w_s,qES,qA]
   have body : ∀ (u:Int),u=upS x a c->(br (kd x==2)
        (br (qv a c==1)
         (br (fl a==fl c)
          (br (decide (u>0))
           (ob (qAq a c t) fun a8=>
           some (a8))
           (some (false)))
          (some (false)))
         (some (false)))
        (br (kd x==6)
         (br (qv a c==2)
          (ob (qAq a c t) fun a8=>
          some (a8))
          (some (false)))
         (br (kd x==14)
          (br (qv a c==2)
           (ob (qAq a c t) fun a8=>
           some (a8))
           (some (false)))
          (br (kd x==7)
           (br (qv a c==1)
            (ob (qAq a c t) fun a8=>
            some (a8))
            (some (false)))
           (br (kd x==15)
            (br (qv a c==1)
             (ob (qAq a c t) fun a8=>
             some (a8))
             (some (false)))
            (some (false))))))  : Option Bool)=some (qAh x a c&&qAl a c fun s=>t.getD s false):=by
    intro u hu
    by_cases k2:kd x=2
    ·rw[qo k2]
     by_cases h1:qv a c=1
     ·rw[qo h1]
      by_cases h3:fl a=fl c
      ·rw[qo h3]
       refine fin _ ?_
       exact sl (by unfold slK;rw[<- hu];omega)
      ·rw[qm h3]
       exact nsl (by unfold slK;omega)
     ·rw[qm h1]
      refine nsl (by
       rw[l1] at h1
       unfold slK
       split at hup<;>omega)
    ·rw[qm k2]
     have two:(kd x=6 \/ kd x=14)->(br (qv a c==2) (ob (qAq a c t) fun a8=>some a8) (some false):Option Bool)=some (qAh x a c&&qAl a c fun s=>t.getD s false):=by
      intro hk
      refine fin _ ?_
      have:(qv a c==2)=decide (qv a c=2):=by rw[Bool.eq_iff_iff];simp
      rw[this]
      refine sl ?_
      rw[l2]
      unfold slK
      split at hup<;>omega
     have one:(kd x=7 \/ kd x=15)->(br (qv a c==1) (ob (qAq a c t) fun a8=>some a8) (some false):Option Bool)=some (qAh x a c&&qAl a c fun s=>t.getD s false):=by
      intro hk
      refine fin _ ?_
      have:(qv a c==1)=decide (qv a c=1):=by rw[Bool.eq_iff_iff];simp
      rw[this]
      refine sl ?_
      rw[l1]
      unfold slK
      split at hup<;>omega
     by_cases k6:kd x=6
     ·rw[qo k6];exact two (.inl k6)
     rw[qm k6]
     by_cases k14:kd x=14
     ·rw[qo k14];exact two (.inr k14)
     rw[qm k14]
     by_cases k7:kd x=7
     ·rw[qo k7];exact one (.inl k7)
     rw[qm k7]
     by_cases k15:kd x=15
     ·rw[qo k15];exact one (.inr k15)
     rw[qm k15]
     exact nsl (by unfold slK;omega)
   by_cases hs:sd x=1
   ·rw[qo hs]
    exact body _ (by rw[hup,if_pos hs];omega)
   ·rw[qm hs]
    exact body _ (by rw[hup,if_neg hs];omega)
end Go.Kk.Pl
namespace Go.Kk.Pl
def qBw (dx dy:Int):Nat->Int->List Nat
 | 0,_=>[]
 | n+1,p=>if p<0 then [] else p.toNat :: qBw dx dy n (qBJ dx dy p.toNat)
def qAQ (t:Nat->Bool):List Nat->Nat->Bool
 | [],_=>false
 | s :: L,c=>decide (c=s)||(!t s&&qAQ t L c)
def qDO (dx dy:Int):Nat->Int->Bool
 | 0,p=>decide (p<0)
 | n+1,p=>decide (p<0)||qDO dx dy n (qBJ dx dy p.toNat)
theorem qUR (dx dy:Int) (a:Nat):-1<=qBJ dx dy a /\ qBJ dx dy a<81:=by unfold qBJ;split<;>omega
theorem qps {dx dy:Int} (h1:-8<=dx) (h2:dx<=8) (h3:-8<=dy) (h4:dy<=8) (t:Nat->Bool) (u v:Int):∀ (n:Nat) (p:Int),-1<=p->p<81->qDO dx dy n p=true->∀ (f:Nat->Bool) (F:Nat),
  qF7 (F+n+1) p dx dy (sLo t) (sHi t) u v (sLo f) (sHi f)=some (u,v,sLo fun c=>f c||qAQ t (qBw dx dy n p) c,sHi fun c=>f c||qAQ t (qBw dx dy n p) c):=by
 intro n
 induction n with
 | zero=>
   intro p hp0 hp1 he f F
   show qHh (qF7 (F+0)) _ _ _ _ _ _ _ _ _=_
   unfold qHh
   simp only[qDO,decide_eq_true_eq] at he
   rw[qCf (by omega)]
   have:(fun c=>f c||qAQ t (qBw dx dy 0 p) c)=f:=by funext c;simp[qBw,qAQ]
   rw[this]
 | succ n ih=>
   intro p hp0 hp1 he f F
   show qHh (qF7 (F+n+1)) _ _ _ _ _ _ _ _ _=_
   unfold qHh
   by_cases hp:p<0
   ·rw[qCf (by omega)]
    have:(fun c=>f c||qAQ t (qBw dx dy (n+1) p) c)=f:=by funext c;simp[qBw,qAQ,hp]
    rw[this]
   ·obtain⟨q,rfl⟩:∃ q:Nat,p=q:=⟨p.toNat,by omega⟩
    have hq:q<81:=by omega
    rw[qDI (by omega),qGZ,qA]
    simp only
    rw[qEG,qA]
    have hhas:has t q=t q:=by unfold has;simp;intro _;omega
    have hL:qBw dx dy (n+1) q=q :: qBw dx dy n (qBJ dx dy q):=by simp[qBw]
    rw[hhas,hL]
    cases ht:t q with
    | true=>
      rw[b_t]
      obtain⟨e1,e2⟩:=qB1 (f:=fun i=>f i||only q i) (g:=fun c=>f c||qAQ t (q :: qBw dx dy n (qBJ dx dy q)) c) fun c hc=>by
       unfold qAQ only
       rw[ht]
       have:decide ((c:Int)=(q:Int))=decide (c=q):=by rw[decide_eq_decide];omega
       rw[this];simp
      rw[e1,e2]
    | false=>
      rw[b_f,qNV h1 h2 h3 h4 hq,qA]
      obtain⟨r1,r2⟩:=qUR dx dy q
      have he':qDO dx dy n (qBJ dx dy q)=true:=by
       simp only[qDO,Bool.or_eq_true,decide_eq_true_eq] at he
       rcases he with he | he
       ·omega
       ·simpa using he
      refine (ih _ r1 r2 he' _ F).trans ?_
      obtain⟨e1,e2⟩:=qB1 (f:=fun c=>(f c||only q c)||qAQ t (qBw dx dy n (qBJ dx dy q)) c) (g:=fun c=>f c||qAQ t (q :: qBw dx dy n (qBJ dx dy q)) c) fun c hc=>by
       unfold only
       have:decide ((c:Int)=(q:Int))=decide (c=q):=by rw[decide_eq_decide];omega
       rw[this]
       show _=(f c||(decide (c=q)||(!t q&&qAQ t (qBw dx dy n (qBJ dx dy q)) c)))
       rw[ht]
       simp[Bool.or_assoc]
      rw[e1,e2]
def qBC (dx dy:Int) (a:Nat):List Nat:=qBw dx dy 9 (qBJ dx dy a)
theorem qfU:∀ (d:Fin 9) (a:Fin 81),(d.val=4 \/ qDO ((d.val / 3:Nat) - 1) ((d.val % 3:Nat) - 1) 9 (qBJ ((d.val / 3:Nat) - 1) ((d.val % 3:Nat) - 1) a.val)=true):=by decide +kernel
theorem qcZ {dx dy:Int} (h1:-1<=dx) (h2:dx<=1) (h3:-1<=dy) (h4:dy<=1) (hne:¬ (dx=0 /\ dy=0)) {a:Nat} (ha:a<81) (t:Nat->Bool):
  qHg a dx dy (sLo t) (sHi t)=some (sLo (qAQ t (qBC dx dy a)),sHi (qAQ t (qBC dx dy a))):=by
 unfold qHg
 rw[qF (by rw[Bool.and_eq_false_iff];simp;omega),qNV (by omega) (by omega) (by omega) (by omega) ha,qA]
 obtain⟨r1,r2⟩:=qUR dx dy a
 have he:qDO dx dy 9 (qBJ dx dy a)=true:=by
  have:=qfU ⟨((dx+1)*3+(dy+1)).toNat,by omega⟩ ⟨a,ha⟩
  simp only at this
  rw[show (((((dx+1)*3+(dy+1)).toNat / 3:Nat):Int) - 1)=dx by omega,show (((((dx+1)*3+(dy+1)).toNat % 3:Nat):Int) - 1)=dy by omega] at this
  exact this.resolve_left (by omega)
 obtain⟨g,hg⟩:=qe 9 (by omega)
 have:=qps (by omega) (by omega) (by omega) (by omega) t 0 0 9 _ r1 r2 he (fun _=>false) g
 rw[<- hg,qBm,qBl] at this
 rw[this,qA]
 simp only[Bool.false_or]
 rfl
def qIZ (a c:Nat):Bool:=decide (qv a c=0)||((qBC (sgn (df a c)) (sgn (dr a c)) a).take (btw a c).length==btw a c&&((qBC (sgn (df a c)) (sgn (dr a c)) a)[(btw a c).length]? == some c && !(btw a c).contains c))
def qM2 (a:Nat) (dx dy:Int):Bool:=(qBC dx dy a).all fun c=>decide (c<81)&&(decide (qv a c≠0)&&(decide (sgn (df a c)=dx)&&decide (sgn (dr a c)=dy)))
theorem qJ3:∀ (a c:Fin 81),qIZ a.val c.val=true:=by decide +kernel
theorem qTK:∀ (d:Fin 9) (a:Fin 81),(d.val=4 \/ qM2 a.val ((d.val / 3:Nat) - 1) ((d.val % 3:Nat) - 1)=true):=by decide +kernel
theorem qb7 (t:Nat->Bool) {c:Nat}:∀ (P Q:List Nat),c ∉ P->qAQ t (P++c :: Q) c=P.all fun s=>!t s
 | [],Q,_=>by simp[qAQ]
 | s :: P,Q,h=>by
   simp only[List.mem_cons,not_or] at h
   show (decide (c=s)||(!t s&&qAQ t (P++c :: Q) c))=_
   rw[qb7 t P Q h.2,List.all_cons,show decide (c=s)=false by simpa using h.1,Bool.false_or]
theorem qb5 (t:Nat->Bool) {c:Nat}:∀ (P:List Nat),c ∉ P->qAQ t P c=false
 | [],_=>rfl
 | s :: P,h=>by
   simp only[List.mem_cons,not_or] at h
   show (decide (c=s)||(!t s&&qAQ t P c))=_
   rw[qb5 t P h.2,show decide (c=s)=false by simpa using h.1];simp
def onW (dx dy:Int) (a c:Nat):Bool:=decide (qv a c≠0 /\ sgn (df a c)=dx /\ sgn (dr a c)=dy)
theorem qb8 {dx dy:Int} (h1:-1<=dx) (h2:dx<=1) (h3:-1<=dy) (h4:dy<=1) (hne:¬ (dx=0 /\ dy=0)) {a c:Nat} (ha:a<81) (hc:c<81) (t:Nat->Bool):
  qAQ t (qBC dx dy a) c=(onW dx dy a c&&qAl a c t):=by
 unfold onW
 by_cases h:qv a c≠0 /\ sgn (df a c)=dx /\ sgn (dr a c)=dy
 ·obtain⟨hl,rfl,rfl⟩:=h
  have:=qJ3 ⟨a,ha⟩ ⟨c,hc⟩
  simp only[qIZ,Bool.or_eq_true,decide_eq_true_eq,Bool.and_eq_true,beq_iff_eq,Bool.not_eq_true'] at this
  obtain⟨e1,e2,e3⟩:=this.resolve_left hl
  have hlt:(btw a c).length<(qBC (sgn (df a c)) (sgn (dr a c)) a).length:=getElem?_lt e2
  have hsp:qBC (sgn (df a c)) (sgn (dr a c)) a=btw a c++c :: (qBC (sgn (df a c)) (sgn (dr a c)) a).drop ((btw a c).length+1):=by
   have:=qL2 e2
   rw[e1] at this
   exact this
  rw[hsp,qb7 t _ _ (by simpa using e3)]
  simp[hl,qAl]
 ·have hn:c ∉ qBC dx dy a:=by
   intro hm
   have:=qTK ⟨((dx+1)*3+(dy+1)).toNat,by omega⟩ ⟨a,ha⟩
   simp only at this
   rw[show (((((dx+1)*3+(dy+1)).toNat / 3:Nat):Int) - 1)=dx by omega,show (((((dx+1)*3+(dy+1)).toNat % 3:Nat):Int) - 1)=dy by omega] at this
   have:=this.resolve_left (by omega)
   unfold qM2 at this
   rw[List.all_eq_true] at this
   have:=this c hm
   simp only[Bool.and_eq_true,decide_eq_true_eq] at this
   exact h ⟨this.2.1,this.2.2.1,this.2.2.2⟩
  rw[qb5 t _ hn]
  rw[decide_eq_false h,Bool.false_and]
def qAP (k:Int):List (List Int):=if k=2 then [[0,-1]] else if k=6 \/ k=14 then [[-1,-1],[1,-1],[-1,1],[1,1]] else if k=7 \/ k=15 then [[0,-1],[-1,0],[1,0],[0,1]] else []
theorem qPT (k:Int):qF6 k=some ((qAP k).length,(qAP k).length,qAP k):=by
 unfold qF6 qAP
 by_cases h2:k=2
 ·rw[qo h2,if_pos h2];rfl
 rw[qm h2,if_neg h2]
 by_cases h6:k=6
 ·rw[qo h6,if_pos (.inl h6)];rfl
 rw[qm h6]
 by_cases h14:k=14
 ·rw[qo h14,if_pos (.inr h14)];rfl
 rw[qm h14,if_neg (by omega)]
 by_cases h7:k=7
 ·rw[qo h7,if_pos (.inl h7)];rfl
 rw[qm h7]
 by_cases h15:k=15
 ·rw[qo h15,if_pos (.inr h15)];rfl
 rw[qm h15,if_neg (by omega)];rfl
theorem qkQ (k:Int):(qAP k).length<=8 /\ ∀ r∈qAP k,r.length<=2 /\ -1<=dx_ r /\ dx_ r<=1 /\ -1<=dy_ r /\ dy_ r<=1 /\ ¬ (dx_ r=0 /\ dy_ r=0):=by
 have h1:∀ r∈[[0,-1]],(r:List Int).length<=2 /\ -1<=dx_ r /\ dx_ r<=1 /\ -1<=dy_ r /\ dy_ r<=1 /\ ¬ (dx_ r=0 /\ dy_ r=0):=by decide
 have h2:∀ r∈[[-1,-1],[1,-1],[-1,1],[1,1]],(r:List Int).length<=2 /\ -1<=dx_ r /\ dx_ r<=1 /\ -1<=dy_ r /\ dy_ r<=1 /\ ¬ (dx_ r=0 /\ dy_ r=0):=by decide
 have h3:∀ r∈[[0,-1],[-1,0],[1,0],[0,1]],(r:List Int).length<=2 /\ -1<=dx_ r /\ dx_ r<=1 /\ -1<=dy_ r /\ dy_ r<=1 /\ ¬ (dx_ r=0 /\ dy_ r=0):=by decide
 unfold qAP
 split
 ·exact⟨by decide,h1⟩
 ·split
  ·exact⟨by decide,h2⟩
  ·split
   ·exact⟨by decide,h3⟩
   ·exact⟨by decide,fun r hr=>by cases hr⟩
def qDF (x:Int) (L:List (List Int)) (a c:Nat):Bool:=L.any fun r=>onW (sg x*dx_ r) (sg x*dy_ r) a c
theorem qkA {x:Int} {a:Nat} (ha:a<81) (t:Nat->Bool) (L:List (List Int)) (hlen:L.length<=8) (hr:∀ r∈L,r.length<=2 /\ -1<=dx_ r /\ dx_ r<=1 /\ -1<=dy_ r /\ dy_ r<=1 /\ ¬ (dx_ r=0 /\ dy_ r=0)) (N:Nat) (u v:Int):
  ∀ (n i:Nat),i+n=L.length->∀ (f:Nat->Bool) (F:Nat),qFE (F+n+1) x a L.length (Int.ofNat L.length) i (sLo t) (sHi t) u v (sLo f) (sHi f) N L =
    some (u,v,sLo fun c=>f c||(qDF x (L.drop i) a c&&qAl a c t),sHi fun c=>f c||(qDF x (L.drop i) a c&&qAl a c t)):=by
 intro n
 induction n with
 | zero=>
   intro i hi f F
   show qHf (qFE (F+0)) _ _ _ _ _ _ _ _ _ _ _ _ _=_
   unfold qHf
   rw[qc (by simp;omega),List.drop_eq_nil_of_le (by omega)]
   have:(fun c=>f c||(qDF x [] a c&&qAl a c t))=f:=by funext c;simp[qDF]
   rw[this]
 | succ n ih=>
   intro i hi f F
   show qHf (qFE (F+n+1)) _ _ _ _ _ _ _ _ _ _ _ _ _=_
   unfold qHf
   have hil:i<L.length:=by omega
   have hget:L.getD i []=L[i]:=by rw[List.getD_eq_getElem?_getD,List.getElem?_eq_getElem hil];rfl
   obtain⟨r0,r1,r2,r3,r4,r5⟩:=hr L[i] (List.getElem_mem hil)
   have ht:List.take 2 L[i]=L[i]:=List.take_of_length_le r0
   have hs:=qaq x
   have c1:-1<=sg x*dx_ L[i] /\ sg x*dx_ L[i]<=1 /\ -1<=sg x*dy_ L[i] /\ sg x*dy_ L[i]<=1 /\ ¬ (sg x*dx_ L[i]=0 /\ sg x*dy_ L[i]=0):=by
    rcases hs with h | h<;>rw[h]<;>omega
   rw[qg (by simp;omega),qq (by omega) (by omega),tn,hget,ht,qC9,qA]
   show ob (qFS (dx_ L[i]) (dy_ L[i]) (sd x)) _=_
   rw[qb4 (by omega),qA]
   simp only
   rw[qcZ c1.1 c1.2.1 c1.2.2.1 c1.2.2.2.1 c1.2.2.2.2 ha,qA]
   simp only
   rw[qHX,qA]
   simp only
   rw[w_s (by omega) (by omega)]
   refine (ih (i+1) (by omega) _ F).trans ?_
   have hd:L.drop i=L[i] :: L.drop (i+1):=List.drop_eq_getElem_cons hil
   obtain⟨e1,e2⟩:=qB1 (f:=fun c=>(f c||qAQ t (qBC (sg x*dx_ L[i]) (sg x*dy_ L[i]) a) c)||(qDF x (L.drop (i+1)) a c&&qAl a c t)) (g:=fun c=>f c||(qDF x (L.drop i) a c&&qAl a c t)) fun c hc=>by
    rw[qb8 c1.1 c1.2.1 c1.2.2.1 c1.2.2.2.1 c1.2.2.2.2 ha hc,hd]
    unfold qDF
    rw[List.any_cons,Bool.and_or_distrib_right,Bool.or_assoc]
   rw[e1,e2]
def qEJ (d e:Int):Prop:=¬ (d=0 /\ e=0) /\ (d=0 \/ e=0 \/ d=e \/ d = -e)
instance (d e:Int):Decidable (qEJ d e):=by unfold qEJ;infer_instance
theorem qKj (a c:Nat):qv a c≠0↔qEJ (df a c) (dr a c):=by
 unfold qEJ qv
 by_cases hac:a=c
 ·subst hac
  have:=qG7 a
  simp[this.1,this.2]
 ·have:¬ (df a c=0 /\ dr a c=0):=fun h=>hac (qIo h.1 h.2)
  rw[if_neg hac]
  split
  ·rename_i h;constructor
   ·intro _;exact⟨this,by omega⟩
   ·intro _;omega
  ·split
   ·constructor
    ·intro _;exact⟨this,by omega⟩
    ·intro _;omega
   ·constructor
    ·intro h;omega
    ·rintro ⟨_,h⟩;omega
theorem qc2:∀ (k:Fin 16) (d e:Fin 17),(qAP ((k.val:Nat):Int)).any (fun r=>decide (qEJ ((d.val:Int) - 8) ((e.val:Int) - 8) /\ sgn ((d.val:Int) - 8)=dx_ r /\ sgn ((e.val:Int) - 8)=dy_ r))=decide (slK ((k.val:Nat):Int) ((d.val:Int) - 8) (-((e.val:Int) - 8))):=by decide +kernel
theorem qc3:∀ (k:Fin 16) (d e:Fin 17),(qAP ((k.val:Nat):Int)).any (fun r=>decide (qEJ ((d.val:Int) - 8) ((e.val:Int) - 8) /\ sgn ((d.val:Int) - 8) = -(dx_ r) /\ sgn ((e.val:Int) - 8) = -(dy_ r)))=decide (slK ((k.val:Nat):Int) ((d.val:Int) - 8) ((e.val:Int) - 8)):=by decide +kernel
theorem qc4 (x:Int) {a c:Nat} (ha:a<81) (hc:c<81):qDF x (qAP (kd x)) a c=qAh x a c:=by
 obtain⟨k0,k1,_⟩:=qCn x
 have hr:=qRf (x:=x) ha hc
 have hl:=qKj a c
 unfold qAh qDF onW sg upS
 by_cases hs:sd x=1
 ·simp only[hs,if_true]
  have:=qc3 ⟨(kd x).toNat,by omega⟩ ⟨(df a c+8).toNat,by omega⟩ ⟨(dr a c+8).toNat,by omega⟩
  simp only[show (((kd x).toNat:Nat):Int)=kd x by omega,show (((df a c+8).toNat:Nat):Int) - 8=df a c by omega,show (((dr a c+8).toNat:Nat):Int) - 8=dr a c by omega] at this
  rw[<- this]
  congr 1
  funext r
  rw[decide_eq_decide,hl]
  constructor<;>(rintro ⟨h1,h2,h3⟩;refine⟨h1,?_,?_⟩<;>omega)
 ·simp only[hs,if_false]
  have:=qc2 ⟨(kd x).toNat,by omega⟩ ⟨(df a c+8).toNat,by omega⟩ ⟨(dr a c+8).toNat,by omega⟩
  simp only[show (((kd x).toNat:Nat):Int)=kd x by omega,show (((df a c+8).toNat:Nat):Int) - 8=df a c by omega,show (((dr a c+8).toNat:Nat):Int) - 8=dr a c by omega] at this
  rw[<- this]
  congr 1
  funext r
  rw[decide_eq_decide,hl]
  constructor<;>(rintro ⟨h1,h2,h3⟩;refine⟨h1,?_,?_⟩<;>omega)
theorem qLE (x:Int) {a:Nat} (ha:a<81) (t:Nat->Bool):qFD x a (sLo t) (sHi t)=some (sLo (fun c=>rch x a c t),sHi fun c=>rch x a c t):=by
 obtain⟨hlen,hrs⟩:=qkQ (kd x)
 obtain⟨g,hg⟩:=qe (qAP (kd x)).length (by omega)
 have:=qkA (x:=x) ha t (qAP (kd x)) hlen hrs (qAP (kd x)).length 0 0 (qAP (kd x)).length 0 (by omega) (qAy x a) g
 rw[<- hg] at this
 unfold qFD
 rw[qoG x ha,qA]
 simp only
 rw[qA4,qA,qPT,qA]
 simp only
 rw[show qFE qC x a (qAP (kd x)).length (Int.ofNat (qAP (kd x)).length) 0 (sLo t) (sHi t) 0 0 (sLo (qAy x a)) (sHi (qAy x a)) (qAP (kd x)).length (qAP (kd x))=_ from this,qA]
 simp only
 obtain⟨e1,e2⟩:=qB1 (f:=fun c=>qAy x a c||(qDF x (List.drop 0 (qAP (kd x))) a c&&qAl a c t)) (g:=fun c=>rch x a c t) fun c hc=>by
  rw[List.drop_zero,qc4 x ha hc]
  rfl
 rw[e1,e2]
end Go.Kk.Pl
namespace Go.Kk.Pl
theorem qdW:∀ (a c:Fin 81),(btw a.val c.val).all (fun s=>(btw c.val a.val).contains s)=true:=by decide +kernel
theorem qIT {a c:Nat} (ha:a<81) (hc:c<81) {s:Nat} (hs:s∈btw a c):s∈btw c a:=by
 have:=qdW ⟨a,ha⟩ ⟨c,hc⟩
 rw[List.all_eq_true] at this
 simpa using this s hs
theorem qGy {a c:Nat} {t:Nat->Bool}:qAl a c t=true ↔ ∀ s∈btw a c,t s=false:=by simp[qAl]
theorem qfq {a c:Nat} (ha:a<81) (hc:c<81) (t:Nat->Bool):qAl a c t=qAl c a t:=by
 rw[Bool.eq_iff_iff,qGy,qGy]
 exact⟨fun h s hs=>h s (qIT hc ha hs),fun h s hs=>h s (qIT ha hc hs)⟩
theorem qfr {a c:Nat} (ha:a<81) (hc:c<81) {t t':Nat->Bool} (h:∀ s,s<81->t s=t' s):qAl a c t=qAl a c t':=by
 rw[Bool.eq_iff_iff,qGy,qGy]
 exact⟨fun hh s hs=>by rw[<- h s (qIU ha hc hs)];exact hh s hs,fun hh s hs=>by rw[h s (qIU ha hc hs)];exact hh s hs⟩
theorem qXa {x:Int} {a c:Nat} (ha:a<81) (hc:c<81) {t t':Nat->Bool} (h:∀ s,s<81->t s=t' s):rch x a c t=rch x a c t':=by
 unfold rch;rw[qfr ha hc h]
theorem qDr {s k:Int} (hs:s=0 \/ s=1) (h1:1<=k) (h2:k<=15) (h3:k≠13):sd (pc s k)=s /\ kd (pc s k)=k:=by
 rw[qA9 hs h1 h2 h3]
 have hk:=qHC hs h1 h2 h3
 refine⟨?_,hk⟩
 unfold sd
 rw[hk,if_neg (by omega)]
 rcases hs with rfl | rfl
 ·rw[if_pos (by omega)]
 ·rw[if_neg (by omega)]
theorem qoj (k d u:Int):qB2 k (-d) u↔qB2 k d u:=by
 unfold qB2
 exact or_congr (by omega) (or_congr (by omega) (or_congr (by omega) (or_congr (by omega) (or_congr (by omega) (or_congr (by omega) (by omega))))))
theorem qns (k d u:Int):slK k (-d) u↔slK k d u:=by
 unfold slK
 exact or_congr (by omega) (or_congr (by omega) (by omega))
theorem qkP {s k:Int} (hs:s=0 \/ s=1) (h1:1<=k) (h2:k<=15) (h3:k≠13) {a c:Nat} (ha:a<81) (hc:c<81) (t:Nat->Bool):
  rch (pc (1 - s) k) a c t=rch (pc s k) c a t:=by
 obtain⟨e1,e2⟩:=qDr hs h1 h2 h3
 obtain⟨e3,e4⟩:=qDr (s:=1 - s) (by omega) h1 h2 h3
 have hd:df a c = -df c a:=by unfold df;omega
 have hr:dr a c = -dr c a:=by unfold dr;omega
 have hu:upS (pc (1 - s) k) a c=upS (pc s k) c a:=by
  unfold upS
  rw[e1,e3]
  rcases hs with rfl | rfl
  ·rw[if_pos (by omega),if_neg (by omega)];exact hr
  ·rw[if_neg (by omega),if_pos (by omega),hr];omega
 unfold rch qAy qAh
 rw[e2,e4,hu,qfq ha hc]
 have s1:decide (qB2 k (df a c) (upS (pc s k) c a))=decide (qB2 k (df c a) (upS (pc s k) c a)):=by
  rw[decide_eq_decide,hd];exact qoj _ _ _
 have s2:decide (slK k (df a c) (upS (pc s k) c a))=decide (slK k (df c a) (upS (pc s k) c a)):=by
  rw[decide_eq_decide,hd];exact qns _ _ _
 rw[s1,s2]
theorem qO2 {x:Int} (h:kd x≠0):x=pc (sd x) (kd x):=by
 obtain⟨k0,k1,k2⟩:=qCn x
 have hs:=qEU h
 rw[qA9 hs (by omega) k1 k2]
 have hr:=qE4 h
 unfold sd kd at *
 rw[if_neg h]
 split at h
 ·omega
 ·rename_i hh
  rw[if_neg hh]
  split<;>omega
def onF (b:List Int) (q:Nat) (s:Int) (t:Nat->Bool) (i:Int) (c:Nat):Bool:=decide (sd (b.getD c 0)=s /\ i<=kd (b.getD c 0))&&rch (b.getD c 0) c q t
theorem qdE {b:List Int} (h:List Int) (S:Int) (sd':List (List Int)) {s:Int} (hs:s=0 \/ s=1) {q:Nat} (hq:q<81) (t:Nat->Bool) (u v:Int):∀ (n:Nat) (k:Int),k=16 - n->n<=15->∀ (f:Nat->Bool) (F:Nat),
  qD3 (F+n+1) q s k b h S (qH b) sd' (sLo t) (sHi t) u v (sLo f) (sHi f)=some (b,h,S,qH b,sd',u,v,sLo fun c=>f c||onF b q s t k c,sHi fun c=>f c||onF b q s t k c):=by
 intro n
 induction n with
 | zero=>
   intro k hk _ f F
   show qGi (qD3 (F+0)) _ _ _ _ _ _ _ _ _ _ _ _ _ _=_
   unfold qGi
   rw[qMg (by omega)]
   have:(fun c=>f c||onF b q s t k c)=f:=by
    funext c
    have:=(qCn (b.getD c 0)).2.1
    unfold onF
    rw[decide_eq_false (by omega)]
    simp
   rw[this]
 | succ n ih=>
   intro k hk hn f F
   show qGi (qD3 (F+n+1)) _ _ _ _ _ _ _ _ _ _ _ _ _ _=_
   unfold qGi
   rw[qSQ (by omega),w_s (n:=1 - s) (by omega) (by omega),qKy,qA,w_s (n:=k+1) (by omega) (by omega)]
   by_cases h13:k=13
   ·have hz:pc (1 - s) k=0:=qO1 (by omega)
    rw[qo hz]
    refine (ih (k+1) (by omega) (by omega) f F).trans ?_
    have:(fun c=>f c||onF b q s t (k+1) c)=fun c=>f c||onF b q s t k c:=by
     funext c
     have:=(qCn (b.getD c 0)).2.2
     unfold onF
     congr 2
     rw[decide_eq_decide]
     omega
    rw[this]
   ·have hp:=qA9 (s:=1 - s) (k:=k) (by omega) (by omega) (by omega) h13
    rw[qm (by rw[hp];omega),qLE _ hq,qA]
    simp only
    rw[qHW,qA]
    simp only
    rw[qFf,qA]
    simp only
    rw[qHX,qA]
    simp only
    refine (ih (k+1) (by omega) (by omega) _ F).trans ?_
    obtain⟨e1,e2⟩:=qB1 (f:=fun c=>(f c||(rch (pc (1 - s) k) q c t&&pcs b (pc s k) c))||onF b q s t (k+1) c) (g:=fun c=>f c||onF b q s t k c) fun c hc=>by
     rw[qkP hs (by omega) (by omega) h13 hq hc,Bool.or_assoc]
     congr 1
     obtain⟨g1,g2⟩:=qDr hs (by omega) (by omega) h13
     have hne:pc s k≠0:=by rw[qA9 hs (by omega) (by omega) h13];omega
     unfold onF pcs
     by_cases hx:b.getD c 0=pc s k
     ·rw[hx,g1,g2,decide_eq_true (show pc s k≠0 /\ pc s k=pc s k from ⟨hne,rfl⟩),decide_eq_false (by omega),decide_eq_true (by omega)]
      simp
     ·rw[decide_eq_false (p:=pc s k≠0 /\ b.getD c 0=pc s k) (by omega),Bool.and_false,Bool.false_or]
      congr 1
      rw[decide_eq_decide]
      constructor
      ·rintro ⟨h1,h2⟩;exact⟨h1,by omega⟩
      ·rintro ⟨h1,h2⟩
       refine⟨h1,?_⟩
       rcases Int.lt_or_eq_of_le h2 with h3 | h3
       ·omega
       ·exfalso
        apply hx
        have hk0:kd (b.getD c 0)≠0:=by omega
        have:=qO2 hk0
        rw[h1,<- h3] at this
        exact this
    rw[e1,e2]
def onS (b:List Int) (q s:Int) (t:Nat->Bool) (c:Nat):Bool:=decide (0<=q /\ q<81)&&(decide (s=0 \/ s=1)&&(decide (sd (b.getD c 0)=s)&&rch (b.getD c 0) c q.toNat t))
theorem qjH (b:List Int) {s:Int} (hs:s=0 \/ s=1) (q:Nat) (hq:q<81) (t:Nat->Bool):onF b q s t 1=onS b q s t:=by
 funext c
 unfold onF onS
 rw[decide_eq_true (show (0:Int)<=q /\ (q:Int)<81 by omega),decide_eq_true hs,Bool.true_and,Bool.true_and]
 congr 1
 rw[decide_eq_decide]
 constructor
 ·exact fun h=>h.1
 ·intro h
  refine⟨h,?_⟩
  have:=(qCn (b.getD c 0)).1
  rcases Int.lt_or_eq_of_le this with h1 | h1
  ·omega
  ·rw[qZO h1.symm] at h;omega
theorem qWi (b h:List Int) (S:Int) (sd':List (List Int)) (q s:Int) (t:Nat->Bool):qGh q s (sLo t) (sHi t) b h S (qH b) sd'=some (sLo (onS b q s t),sHi (onS b q s t)):=by
 have none:¬ ((0<=q /\ q<81) /\ (s=0 \/ s=1))->onS b q s t=fun _=>false:=by
  intro hn
  funext c
  unfold onS
  by_cases h1:0<=q /\ q<81
  ·rw[decide_eq_false (p:=s=0 \/ s=1) (fun h2=>hn ⟨h1,h2⟩)];simp
  ·rw[decide_eq_false h1];simp
 unfold qGh
 by_cases h0:q<0
 ·rw[qg h0,none (by omega),qBm,qBl]
 rw[qc h0]
 by_cases h1:q >= 81
 ·rw[qDI h1,none (by omega),qBm,qBl]
 rw[qCf h1]
 obtain⟨a,rfl⟩:∃ a:Nat,q=a:=⟨q.toNat,by omega⟩
 obtain⟨g,hg⟩:=qe 15 (by omega)
 have main:(s=0 \/ s=1)->qD3 qC a s 1 b h S (qH b) sd' (sLo t) (sHi t) 0 0 0 0=some (b,h,S,qH b,sd',0,0,sLo (onS b a s t),sHi (onS b a s t)):=by
  intro hs
  have:=qdE (b:=b) h S sd' hs (q:=a) (by omega) t 0 0 15 1 (by omega) (by omega) (fun _=>false) g
  rw[<- hg,qBm,qBl] at this
  rw[this,qjH b hs a (by omega)]
  simp only[Bool.false_or]
 by_cases h2:s=0
 ·rw[qAk h2,main (.inl h2),qA]
 ·rw[qAZ h2]
  by_cases h3:s=1
  ·rw[qAk h3,main (.inr h3),qA]
  ·rw[qAZ h3,none (by omega),qBm,qBl]
def kg (b:List Int) (s:Int):Int:=fst (pcs b (pc s 8))
def chs (b:List Int) (s:Int):Nat->Bool:=onS b (kg b s) (1 - s) (tk b)
def inC (b:List Int) (s:Int):Bool:=!isE (chs b s)
theorem qUT (f:Nat->Bool):-1<=fst f /\ fst f<81:=by
 unfold fst
 split
 ·rename_i i hi
  have:=List.mem_of_find?_eq_some hi
  rw[List.mem_range] at this
  omega
 ·omega
theorem qTJ {b:List Int} (hc:Clean b) (h:List Int) (S:Int) {s:Int} (hs:-10<=s /\ s<=10):qGg s b h S (qH b) (qK b)=some (sLo (chs b s),sHi (chs b s)):=by
 unfold qGg
 rw[qN9,qA,qJb hc,qA]
 simp only
 rw[w_s (by omega) (by omega),qWi,qA]
 rfl
theorem qJ4 {b h:List Int} {s:Int} (hl:b.length=81) (hz:qBG b h s=0):Clean b /\ (s=0 \/ s=1):=by
 unfold qBG at hz
 split at hz
 ·omega
 ·rename_i hs
  split at hz
  ·omega
  ·rename_i hb
   exact⟨qda hl (by simpa using hb),by omega⟩
def qDH (b h:List Int) (s:Int):Int:=if qBG b h s≠0 then qBG b h s else if inC b (1 - s) then 54 else 0
def tkL (b:List Int) (i:Nat):List Bool:=(List.range 81).map fun j=>decide (j<i)&&tk b j
theorem qo5 (b h:List Int) (s:Int) (w:List Bool):∀ (n i:Nat),i+n=81->∀ F,qER (F+n+1) i b h s w (tkL b i)=some (w,tkL b 81):=by
 intro n
 induction n with
 | zero=>
   intro i hi F
   show qHp (qER (F+0)) _ _ _ _ _ _=_
   unfold qHp
   rw[qc (by omega),show i=81 by omega]
 | succ n ih=>
   intro i hi F
   show qHp (qER (F+n+1)) _ _ _ _ _ _=_
   unfold qHp
   have e:List.set (tkL b i) i (b.getD i 0 != 0)=tkL b (i+1):=by
    unfold tkL
    rw[map_set]
    apply List.map_congr_left
    intro j _
    split
    ·rename_i hj;subst hj
     rw[decide_eq_true (show j<j+1 by omega),Bool.true_and]
     unfold tk
     rw[Bool.eq_iff_iff];simp
    ·rename_i hj
     congr 1
     rw[decide_eq_decide];omega
   rw[qg (by omega),qq (by omega) (by omega),qq (by omega) (by omega),tn,e,w_s (by omega) (by omega)]
   exact ih (i+1) (by omega) F
theorem qpB (b:List Int):tkL b 0=List.replicate 81 false:=by
 unfold tkL
 apply List.ext_getElem
 ·simp
 ·intro i h1 h2
  rw[List.getElem_map,List.getElem_replicate,decide_eq_false (by omega),Bool.false_and]
def qID (b:List Int):List Bool:=tkL b 81
theorem qo6 (b h:List Int) (s:Int):qJG b h s=some (qID b):=by
 obtain⟨g,hg⟩:=qe 81 (by omega)
 have:=qo5 b h s (List.replicate 81 false) 81 0 (by omega) g
 rw[<- hg,qpB] at this
 unfold qJG
 show ob (qER qC 0 b h s (List.replicate 81 false) (List.replicate 81 false)) _=_
 rw[show qER qC 0 b h s (List.replicate 81 false) (List.replicate 81 false)=_ from this,qA]
 rfl
theorem qo4 (b:List Int) {i:Nat} (h:i<81):(qID b).getD i false=tk b i:=by
 unfold qID tkL
 rw[qOc _ h,decide_eq_true h,Bool.true_and]
theorem qkR (b:List Int) (x:Int) {a c:Nat} (ha:a<81) (hc:c<81):qHm x a c (qID b)=some (rch x a c (tk b)):=by
 rw[qkS x ha hc,qXa ha hc fun s hs=>qo4 b hs]
theorem ql5 (b h:List Int) (S:Int) {s:Int} (hs:s=0 \/ s=1):∀ (n i:Nat),i+n=81->(∀ j,j<i->pcs b (pc s 8) j=false)->∀ F,qFL (F+n+1) s i b h S=some (if kg b s = -1 then .inr () else .inl (kg b s)):=by
 have hp:pc s 8=16*s+8:=qA9 hs (by omega) (by omega) (by omega)
 intro n
 induction n with
 | zero=>
   intro i hi hj F
   show qHr (qFL (F+0)) _ _ _ _ _=_
   unfold qHr
   have:kg b s = -1:=qUS fun j hj'=>hj j (by omega)
   rw[qc (by omega),if_pos this]
 | succ n ih=>
   intro i hi hj F
   show qHr (qFL (F+n+1)) _ _ _ _ _=_
   unfold qHr
   rw[qg (by omega),qq (by omega) (by omega),tn,c_8,w_s (n:=16*s) (by omega) (by omega),w_s (n:=16*s+8) (by omega) (by omega),w_s (by omega) (by omega),<- hp]
   by_cases hx:b.getD i 0=pc s 8
   ·have hk:pcs b (pc s 8) i=true:=by unfold pcs;rw[decide_eq_true];exact⟨by rw[hp];omega,hx⟩
    have:kg b s=i:=qKP (by omega) hk hj
    rw[qo hx,this,if_neg (by omega)]
   ·rw[qm hx]
    refine ih (i+1) (by omega) (fun j hj'=>?_) F
    by_cases hji:j=i
    ·subst hji;unfold pcs;rw[decide_eq_false];exact fun hh=>hx hh.2
    ·exact hj j (by omega)
theorem ql6 (b h:List Int) (S:Int) {s:Int} (hs:s=0 \/ s=1):qJJ b h S s=some (kg b s):=by
 obtain⟨g,hg⟩:=qe 81 (by omega)
 have:=ql5 b h S hs 81 0 (by omega) (fun j hj=>absurd hj (by omega)) g
 rw[<- hg] at this
 unfold qJJ
 rw[show qFL qC s 0 b h S=_ from this,qA]
 split
 ·rename_i hk;rw[hk];rfl
 ·rfl
theorem ql4 (b h:List Int) (S s:Int) (hs:s=0 \/ s=1) (k:Nat) (hk:k<81):∀ (n i:Nat),i+n=81->∀ F,
  qFK (F+n+1) s k i b h S (qID b)=some (if (List.range' i n).any (onS b k (1 - s) (tk b)) then .inl true else .inr ()):=by
 intro n
 induction n with
 | zero=>
   intro i hi F
   show qHq (qFK (F+0)) _ _ _ _ _ _ _=_
   unfold qHq
   rw[qc (by omega)]
   rfl
 | succ n ih=>
   intro i hi F
   show qHq (qFK (F+n+1)) _ _ _ _ _ _ _=_
   unfold qHq
   have hr:=ih (i+1) (by omega) F
   rw[qg (by omega),qq (by omega) (by omega),tn,c_8,qLU,qA,w_s (n:=1 - s) (by omega) (by omega),w_s (by omega) (by omega),any_cons]
   have hon:onS b k (1 - s) (tk b) i=(decide (sd (b.getD i 0)=1 - s)&&rch (b.getD i 0) i k (tk b)):=by
    unfold onS
    rw[decide_eq_true (show (0:Int)<=k /\ (k:Int)<81 by omega),decide_eq_true (show 1 - s=0 \/ 1 - s=1 by omega),Bool.true_and,Bool.true_and,tn]
   rw[hon]
   by_cases hsd:sd (b.getD i 0)=1 - s
   ·rw[qo hsd,qq (by omega) (by omega),qkR b _ (by omega) hk,qA,decide_eq_true hsd,Bool.true_and]
    cases rch (b.getD i 0) i k (tk b) with
    | true=>rfl
    | false=>rw[b_f,Bool.false_or];exact hr
   ·rw[qm hsd,decide_eq_false hsd,Bool.false_and,Bool.false_or]
    exact hr
theorem qc5 (f:Nat->Bool):(List.range' 0 81).any f = !isE f:=by
 unfold isE
 rw[qXG,Bool.eq_iff_iff]
 simp only[List.any_eq_true,Bool.not_eq_true']
 rw[List.all_eq_false]
 simp
theorem ql3 (b h:List Int) (S:Int) {s:Int} (hs:s=0 \/ s=1):qJI b h S s=some (inC b s):=by
 unfold qJI
 rw[qo6,qA,ql6 b h S hs,qA]
 have hr:=qUT (pcs b (pc s 8))
 have hkg:kg b s=fst (pcs b (pc s 8)):=rfl
 by_cases hk:kg b s<0
 ·rw[qg hk]
  have:chs b s=fun _=>false:=by
   funext c
   unfold chs onS
   rw[decide_eq_false (by omega),Bool.false_and]
  unfold inC
  rw[this,qge]
  rfl
 ·obtain⟨k,hkk⟩:∃ k:Nat,kg b s=k:=⟨(kg b s).toNat,by omega⟩
  obtain⟨g,hg⟩:=qe 81 (by omega)
  have:=ql4 b h S s hs k (by omega) 81 0 (by omega) g
  rw[<- hg,qc5,<- hkk] at this
  rw[qc hk,show qFK qC s (kg b s) 0 b h S (qID b)=_ from this,qA]
  unfold inC chs
  cases isE (onS b (kg b s) (1 - s) (tk b))<;>rfl
theorem qj8 {b h:List Int} (hl:b.length=81) (hf:qAi h) (s:Int):qJH b h s=some (qDH b h s):=by
 unfold qJH qDH
 rw[qZC hl hf,qA]
 by_cases hz:qBG b h s=0
 ·obtain⟨hc,hs⟩:=qJ4 hl hz
  rw[qAk hz,if_neg (by simpa using hz),w_s (by omega) (by omega),ql3 b h s (by omega),qA]
  cases inC b (1 - s)<;>rfl
 ·rw[qAZ hz,if_pos hz]
def ofL (L:List Int) (c:Nat):Bool:=L.any fun q=>only q c
theorem qig (L:List Int) (hl:L.length<=1000) (N:Nat) (u v:Int):∀ (n i:Nat),i+n=L.length->∀ (f:Nat->Bool) (F:Nat),
  qFQ (F+n+1) L.length L.length i N L u v (sLo f) (sHi f)=some (N,L,u,v,sLo fun c=>f c||ofL (L.drop i) c,sHi fun c=>f c||ofL (L.drop i) c):=by
 intro n
 induction n with
 | zero=>
   intro i hi f F
   show qH2 (qFQ (F+0)) _ _ _ _ _ _ _ _ _=_
   unfold qH2
   rw[qc (by omega),List.drop_eq_nil_of_le (by omega)]
   have:(fun c=>f c||ofL [] c)=f:=by funext c;simp[ofL]
   rw[this]
 | succ n ih=>
   intro i hi f F
   show qH2 (qFQ (F+n+1)) _ _ _ _ _ _ _ _ _=_
   unfold qH2
   have hil:i<L.length:=by omega
   have hget:L.getD i 0=L[i]:=qGf hil
   rw[qg (by omega),qq (by omega) (by omega),tn,hget,qGZ,qA]
   simp only
   rw[w_s (by omega) (by omega)]
   refine (ih (i+1) (by omega) _ F).trans ?_
   have hd:L.drop i=L[i] :: L.drop (i+1):=List.drop_eq_getElem_cons hil
   have:(fun c=>(f c||only L[i] c)||ofL (L.drop (i+1)) c)=fun c=>f c||ofL (L.drop i) c:=by
    funext c
    rw[hd]
    unfold ofL
    rw[List.any_cons,Bool.or_assoc]
   rw[this]
theorem qih (L:List Int) (hl:L.length<=1000) (N:Nat):qH1 L.length N L=some (sLo (ofL L),sHi (ofL L)):=by
 obtain⟨g,hg⟩:=qe L.length (by omega)
 have:=qig L hl N 0 0 L.length 0 (by omega) (fun _=>false) g
 rw[<- hg,qBm,qBl] at this
 unfold qH1
 rw[show qFQ qC L.length (Int.ofNat L.length) 0 N L 0 0 0 0=_ from this,qA]
 simp only[Bool.false_or,List.drop_zero]
theorem qEa (f:Nat->Bool):(sq f).length<=81:=by
 unfold sq;rw[List.length_map];exact Nat.le_trans (List.length_filter_le _ _) (by simp)
end Go.Kk.Pl
namespace Go.Kk.Pl
theorem qGP {f:Nat->Bool} {q:Int} (h:q∈sq f):0<=q /\ q<81 /\ f q.toNat=true:=by
 unfold sq at h
 obtain⟨j,hj,rfl⟩:=List.mem_map.1 h
 obtain⟨h1,h2⟩:=List.mem_filter.1 hj
 rw[List.mem_range] at h1
 refine⟨by simp,by simp only[Int.ofNat_eq_natCast];omega,by simpa using h2⟩
theorem qWK {f:Nat->Bool} {q:Nat} (hq:q<81) (h:f q=true):(q:Int)∈sq f:=by
 unfold sq
 exact List.mem_map.2 ⟨q,List.mem_filter.2 ⟨by simpa using hq,h⟩,rfl⟩
end Go.Kk.Pl
namespace Go.Kk.Pl
theorem qb6 (t:Nat->Bool) {c:Nat} (ht:t c=true) {i:Nat}:∀ (P Q:List Nat),(∀ s∈P,t s=false)->qAQ t (P++c :: Q) i=(P.contains i||decide (i=c))
 | [],Q,_=>by
   show (decide (i=c)||(!t c&&qAQ t Q i))=_
   rw[ht];simp
 | s :: P,Q,h=>by
   show (decide (i=s)||(!t s&&qAQ t (P++c :: Q) i))=_
   rw[h s List.mem_cons_self,Bool.not_false,Bool.true_and,qb6 t ht P Q (fun s hs=>h s (List.mem_cons_of_mem _ hs)),List.contains_cons,Bool.or_assoc]
   congr 1
theorem qjJ {dx dy:Int} {a c:Nat} (ha:a<81) (hc:c<81) (h:onW dx dy a c=true) (i:Nat):(qAQ (only c) (qBC dx dy a) i && !only c i)=(btw a c).contains i:=by
 obtain⟨hl,rfl,rfl⟩:=of_decide_eq_true h
 have:=qJ3 ⟨a,ha⟩ ⟨c,hc⟩
 simp only[qIZ,Bool.or_eq_true,decide_eq_true_eq,Bool.and_eq_true,beq_iff_eq,Bool.not_eq_true'] at this
 obtain⟨e1,e2,e3⟩:=this.resolve_left hl
 have hsp:qBC (sgn (df a c)) (sgn (dr a c)) a=btw a c++c :: (qBC (sgn (df a c)) (sgn (dr a c)) a).drop ((btw a c).length+1):=by
  have:=qL2 e2
  rw[e1] at this
  exact this
 have hn:c ∉ btw a c:=by simpa using e3
 rw[hsp,qb6 (only c) (by unfold only;simp) _ _ (fun s hs=>by
  unfold only
  rw[decide_eq_false_iff_not]
  intro e
  have:s=c:=by omega
  exact hn (this ▸ hs))]
 unfold only
 by_cases hi:i=c
 ·subst hi
  rw[e3];simp
 ·rw[decide_eq_false hi,decide_eq_false (p:=(i:Int)=c) (by omega)];simp
theorem qjK {dx dy:Int} (h1:-1<=dx) (h2:dx<=1) (h3:-1<=dy) (h4:dy<=1) (hne:¬ (dx=0 /\ dy=0)) {a c:Nat} (ha:a<81) (hc:c<81):qAQ (only c) (qBC dx dy a) c=onW dx dy a c:=by
 rw[qb8 h1 h2 h3 h4 hne ha hc]
 cases h:onW dx dy a c with
 | false=>rfl
 | true=>
   rw[Bool.true_and,qGy]
   intro s hs
   unfold only
   rw[decide_eq_false_iff_not]
   intro e
   have hsc:s=c:=by omega
   obtain⟨hl,_,_⟩:=of_decide_eq_true h
   have:=qJ3 ⟨a,ha⟩ ⟨c,hc⟩
   simp only[qIZ,Bool.or_eq_true,decide_eq_true_eq,Bool.and_eq_true,beq_iff_eq,Bool.not_eq_true'] at this
   have:=(this.resolve_left hl).2.2
   rw[<- hsc] at this
   have h2:(btw a s).contains s=true:=List.contains_iff_mem.mpr (hsc ▸ hs)
   rw[this] at h2
   cases h2
def qAj:List (List Int):=[[-1,-1],[1,-1],[-1,1],[1,1],[0,-1],[-1,0],[1,0],[0,1]]
theorem qcu {a c:Nat}:(qAj.any fun r=>onW (dx_ r) (dy_ r) a c)=decide (qv a c≠0):=by
 unfold qAj onW dx_ dy_
 by_cases h:qv a c=0
 ·simp[h]
 ·have hl:=(qKj a c).mp h
  have hx:sgn (df a c) = -1 \/ sgn (df a c)=0 \/ sgn (df a c)=1:=by unfold sgn;split<;>(try split)<;>omega
  have hy:sgn (dr a c) = -1 \/ sgn (dr a c)=0 \/ sgn (dr a c)=1:=by unfold sgn;split<;>(try split)<;>omega
  have hn:¬ (sgn (df a c)=0 /\ sgn (dr a c)=0):=by
   unfold qEJ at hl
   unfold sgn
   split<;>split<;>(try split)<;>(try split)<;>omega
  rcases hx with hx | hx | hx<;>rcases hy with hy | hy | hy<;>simp[hx,hy,h] at hn ⊢
theorem qdd {a c:Nat} (ha:a<81) (hc:c<81) (N:Nat):∀ (n i:Nat),i+n=8->∀ F,
  qFC (F+n+1) a c 8 8 i 0 0 N qAj=some (if (qAj.drop i).any (fun r=>onW (dx_ r) (dy_ r) a c) then .inl (sLo (fun i=>(btw a c).contains i),sHi (fun i=>(btw a c).contains i)) else .inr (0,0)):=by
 intro n
 induction n with
 | zero=>
   intro i hi F
   show qHe (qFC (F+0)) _ _ _ _ _ _ _ _ _=_
   unfold qHe
   rw[qc (by omega),List.drop_eq_nil_of_le (by show 8<=i;omega)]
   rfl
 | succ n ih=>
   intro i hi F
   show qHe (qFC (F+n+1)) _ _ _ _ _ _ _ _ _=_
   unfold qHe
   obtain⟨r,hget,hdr,e1,e2,g1,g2,g3,g4,g5⟩:∃ r,qAj.getD i []=r /\ qAj.drop i=r :: qAj.drop (i+1) /\ List.headD (List.take 2 r) 0=dx_ r /\ List.headD (List.tail (List.take 2 r)) 0=dy_ r /\ -1<=dx_ r /\ dx_ r<=1 /\ -1<=dy_ r /\ dy_ r<=1 /\ ¬ (dx_ r=0 /\ dy_ r=0):=by
    have:∀ j:Fin 8,qAj.drop j.val=qAj.getD j.val [] :: qAj.drop (j.val+1) /\ List.headD (List.take 2 (qAj.getD j.val [])) 0=dx_ (qAj.getD j.val []) /\ List.headD (List.tail (List.take 2 (qAj.getD j.val []))) 0=dy_ (qAj.getD j.val []) /\ -1<=dx_ (qAj.getD j.val []) /\ dx_ (qAj.getD j.val [])<=1 /\ -1<=dy_ (qAj.getD j.val []) /\ dy_ (qAj.getD j.val [])<=1 /\ ¬ (dx_ (qAj.getD j.val [])=0 /\ dy_ (qAj.getD j.val [])=0):=by decide
    exact⟨_,rfl,this ⟨i,by omega⟩⟩
   have ho:ofL [(c:Int)]=only c:=by
    funext j;unfold ofL;simp
   have hof:qH1 1 1 [(c:Int)]=some (sLo (only c),sHi (only c)):=by
    have:=qih [(c:Int)] (by simp) 1
    rw[ho] at this
    exact this
   have hh:∀ g:Nat->Bool,has g (c:Int)=g c:=by
    intro g;unfold has;rw[decide_eq_true (by omega),decide_eq_true (by omega),tn];rfl
   rw[qg (by omega),qq (by omega) (by omega),tn,hget,e1,e2,hof,qA]
   simp only
   rw[qcZ g1 g2 g3 g4 g5 ha,qA]
   simp only
   rw[qEG,qA,hh,qjK g1 g2 g3 g4 g5 ha hc,hdr,List.any_cons]
   cases hon:onW (dx_ r) (dy_ r) a c with
   | true=>
     rw[b_t,qJj,qA,Bool.true_or,if_pos rfl]
     have:(fun i=>qAQ (only c) (qBC (dx_ r) (dy_ r) a) i && !only c i)=fun i=>(btw a c).contains i:=by
      funext j;exact qjJ ha hc hon j
     rw[this]
   | false=>
     rw[b_f,Bool.false_or,w_s (n:=(i:Int)+1) (by omega) (by omega)]
     exact ih (i+1) (by omega) F
theorem qXH {a c:Nat} (ha:a<81) (hc:c<81):qHd a c=some (sLo (fun i=>(btw a c).contains i),sHi (fun i=>(btw a c).contains i)):=by
 unfold qHd
 rw[qPT,qA]
 simp only
 rw[qPT,qA]
 simp only
 obtain⟨g,hg⟩:=qe 8 (by omega)
 have:=qdd ha hc ((qAP 6).length+(qAP 7).length) 8 0 (by omega) g
 rw[<- hg,List.drop_zero,qcu] at this
 have e8:(qAP 6).length+(qAP 7).length=8:=by decide
 have eL:List.append (List.take (qAP 6).length (qAP 6)) (List.take (qAP 7).length (qAP 7))=qAj:=by decide
 rw[eL,e8] at *
 rw[qD (by decide),show qFC qC a c 8 (Int.ofNat 8) 0 0 0 8 qAj=_ from this,qA]
 by_cases h:qv a c=0
 ·rw[decide_eq_false (p:=qv a c≠0) (by simpa using h),if_neg (by simp),qAz]
  have:btw a c=[]:=by unfold btw;rw[if_pos h]
  rw[this]
  simp only[List.contains_nil]
  rw[qBm,qBl]
 ·rw[decide_eq_true (p:=qv a c≠0) h,if_pos rfl,qGV]
end Go.Kk.Pl
namespace Go.Kk.Pl
def qDP (s q:Int):Int:=if 0<=q /\ q<81 then qCl s q.toNat else -1
theorem qoE {s:Int} (hs:s = -1 \/ s=0 \/ s=1) (q:Int):qFT s q=some (qDP s q):=by
 unfold qDP
 by_cases h:0<=q /\ q<81
 ·rw[if_pos h]
  have:=qa7 hs (q:=q.toNat) (by omega)
  rwa [show ((q.toNat:Nat):Int)=q by omega] at this
 ·rw[if_neg h]
  unfold qFT
  by_cases h0:q<0
  ·rw[qg h0]
  ·rw[qc h0,qDI (by omega)]
def qFo (x q:Int):Bool:=decide (((kd x=1 \/ kd x=2) /\ qDP (sd x) q=0) \/ (kd x=3 /\ (qDP (sd x) q=0 \/ qDP (sd x) q=1)))
theorem qNB (x:Int) {q:Nat} (hq:q<81):qFo x q=qBe x q:=by
 unfold qFo qBe qDP
 rw[if_pos (by omega),tn]
theorem qa5 (x q:Int):qEb x q=some (qFo x q):=by
 unfold qEb
 rw[qC9,qA,qoE (qLb x),qA,qA4,qA]
 unfold qFo
 generalize kd x=k
 generalize qDP (sd x) q=n
 simp only[qJ0,beq_iff_eq]
 repeat' split
 all_goals first
  | (rw[Option.some.injEq,Bool.eq_iff_iff];simp;omega)
  | (simp;omega)
def qII (s:Int) (i:Nat):Bool:=decide (0<=qCl s i /\ qCl s i<=2)
theorem qRt:∀ s:Fin 3,qJY ((s.val:Int) - 1)=some (sLo (qII ((s.val:Int) - 1)),sHi (qII ((s.val:Int) - 1))):=by decide +kernel
theorem qpz (x:Int):qJY (sd x)=some (sLo (qII (sd x)),sHi (qII (sd x))):=by
 rcases qLb x with h | h | h<;>rw[h]
 ·exact qRt 0
 ·exact qRt 1
 ·exact qRt 2
def inZ (s q:Int):Bool:=decide (0<=qDP s q /\ qDP s q<=2)
theorem qUu (s q:Int):has (qII s) q=inZ s q:=by
 unfold has inZ qDP qII
 by_cases h:0<=q /\ q<81
 ·rw[if_pos h,decide_eq_true h.1,decide_eq_true h.2,Bool.true_and,Bool.true_and]
 ·rw[if_neg h]
  by_cases h0:0<=q
  ·rw[decide_eq_false (p:=q<81) (by omega)];simp
  ·rw[decide_eq_false h0];simp
def qDZ (x f t:Int):Bool:=decide (up_ (kd x)≠0)&&(inZ (sd x) f||inZ (sd x) t)
def qEN (x t:Int):Bool:=decide (up_ (kd x)≠0)&&qFo x t
theorem qj3 (x f t:Int):qIn x f t=some (qDZ x f t,qEN x t):=by
 unfold qIn qDZ qEN
 rw[qA4,qA,qGX,qA]
 by_cases hu:up_ (kd x)=0
 ·rw[qo hu,decide_eq_false (by simpa using hu)];rfl
 ·rw[qm hu,qC9,qA,qpz,qA]
  simp only
  rw[qEG,qA,qUu,decide_eq_true hu]
  cases inZ (sd x) f with
  | true=>rw[b_t,qa5,qA];rfl
  | false=>rw[b_f,qEG,qA,qUu,qa5,qA];rfl
def qDM (f t d:Int) (p:Bool):Int:=if ¬ (0<=t /\ t<81) then 1 else if d≠0 then (if 1<=d /\ d<=7 /\ f=0 /\ p=false then 0 else 70) else if ¬ (0<=f /\ f<81) then 1 else if f=t then 70 else 0
def qCi (b h:List Int) (s f t d:Int) (p:Bool):Bool:=decide (qDM f t d p=0)&&(decide (s=0 \/ s=1) &&
 if d≠0 then decide (0<hd_ h s d)&&decide (at_ b t=0)
 else decide (sd (at_ b f)=s /\ sd (at_ b t)≠s /\ kd (at_ b t)≠8)&&(!p||decide (up_ (kd (at_ b f))≠0)))
theorem qTL {f t d:Int} {p:Bool} (h:qDM f t d p=0):(0<=t /\ t<81) /\ (d≠0->1<=d /\ d<=7 /\ f=0 /\ p=false) /\ (d=0->(0<=f /\ f<81) /\ f≠t):=by
 unfold qDM at h
 split at h
 ·omega
 ·rename_i ht
  split at h
  ·rename_i hd
   split at h
   ·rename_i h2;exact⟨by omega,fun _=>h2,fun h3=>absurd h3 hd⟩
   ·omega
  ·rename_i hd
   split at h
   ·omega
   ·split at h
    ·omega
    ·exact⟨by omega,fun h3=>absurd h3 hd,fun _=>⟨by omega,by omega⟩⟩
theorem qBF {b:List Int} {q:Int} (h:0<=q /\ q<81):at_ b q=b.getD q.toNat 0:=by unfold at_;rw[if_pos h]
def qAv (b h:List Int) (s f t d:Int) (p:Bool):Bool:=qCi b h s f t d p &&
 if d≠0 then !qFo (16*s+d) t&&(decide (d≠1)||decide (nF b (16*s+d) (t.toNat / 9)=0))
 else rch (at_ b f) f.toNat t.toNat (tk b)&&if p=true then qDZ (at_ b f) f t else !qEN (at_ b f) t
theorem qJp:qGI=some (sLo fun _=>true,sHi fun _=>true):=by decide +kernel
theorem qiZ (f:Nat->Bool):qJS (sLo f) (sHi f)=some (sLo fun i=>!f i,sHi fun i=>!f i):=by
 unfold qJS
 rw[qJp,qA]
 simp only
 rw[qKo,qA]
 simp only[Bool.true_and]
def qA6 (b:List Int) (s k:Int) (i:Nat):Bool:=!qBe (pc s k) i&&(decide (k≠1)||decide (nF b (pc s 1) (i / 9)=0))
theorem qM7 (f:Nat->Bool):isE f=decide (qAt f=0):=by
 unfold isE qAt
 rw[Bool.eq_iff_iff,decide_eq_true_eq,List.countP_eq_zero,List.all_eq_true]
 simp
theorem qft {b:List Int} (h:List Int) (S:Int) (sd':List (List Int)) {s k:Int} (hs:s=0 \/ s=1) (L:List Int) (hL:∀ q∈L,0<=q /\ q<81) (hl:L.length<=1000) (N:Nat) (u v:Int):∀ (n i:Nat),i+n=L.length->∀ (f:Nat->Bool) (F:Nat),
  qDQ (F+n+1) s k (pc s k) L.length L.length i b h S (qH b) sd' u v (sLo f) (sHi f) N L=some (b,h,S,qH b,sd',u,v,sLo fun c=>f c||((L.drop i).any fun q=>decide ((c:Int)=q)&&qA6 b s k c),sHi fun c=>f c||((L.drop i).any fun q=>decide ((c:Int)=q)&&qA6 b s k c)):=by
 intro n
 induction n with
 | zero=>
   intro i hi f F
   show qG6 (qDQ (F+0)) _ _ _ _ _ _ _ _ _ _ _ _ _ _ _ _ _=_
   unfold qG6
   rw[qc (by omega),List.drop_eq_nil_of_le (by omega)]
   simp
 | succ n ih=>
   intro i hi f F
   show qG6 (qDQ (F+n+1)) _ _ _ _ _ _ _ _ _ _ _ _ _ _ _ _ _=_
   unfold qG6
   have hil:i<L.length:=by omega
   obtain⟨q0,q1⟩:=hL L[i] (List.getElem_mem hil)
   have hget:L.getD i 0=L[i]:=qGf hil
   obtain⟨q,hq⟩:∃ q:Nat,L[i]=q:=⟨L[i].toNat,by omega⟩
   have hd:L.drop i=L[i] :: L.drop (i+1):=List.drop_eq_getElem_cons hil
   rw[qg (by omega),qq (by omega) (by omega),tn,hget,hq,qoD _ (by omega),qA,w_s (n:=(i:Int)+1) (by omega) (by omega)]
   have skip:qA6 b s k q=false->qDQ (F+n+1) s k (pc s k) L.length L.length ((i:Int)+1) b h S (qH b) sd' u v (sLo f) (sHi f) N L =
     some (b,h,S,qH b,sd',u,v,sLo fun c=>f c||((L.drop i).any fun q=>decide ((c:Int)=q)&&qA6 b s k c),sHi fun c=>f c||((L.drop i).any fun q=>decide ((c:Int)=q)&&qA6 b s k c)):=by
    intro hf
    refine (ih (i+1) (by omega) f F).trans ?_
    have:(fun c=>f c||((L.drop (i+1)).any fun q=>decide ((c:Int)=q)&&qA6 b s k c))=fun c=>f c||((L.drop i).any fun q=>decide ((c:Int)=q)&&qA6 b s k c):=by
     funext c
     rw[hd,List.any_cons,hq]
     by_cases hcq:(c:Int)=q
     ·have:c=q:=by omega
      subst this
      rw[hf];simp
     ·rw[decide_eq_false hcq];simp
    rw[this]
   have take:qA6 b s k q=true->(ob (qAx (sLo f) (sHi f) q) fun z=>qDQ (F+n+1) s k (pc s k) L.length L.length ((i:Int)+1) b h S (qH b) sd' u v z.1 z.2 N L) =
     some (b,h,S,qH b,sd',u,v,sLo fun c=>f c||((L.drop i).any fun q=>decide ((c:Int)=q)&&qA6 b s k c),sHi fun c=>f c||((L.drop i).any fun q=>decide ((c:Int)=q)&&qA6 b s k c)):=by
    intro hf
    rw[qGZ,qA]
    simp only
    refine (ih (i+1) (by omega) _ F).trans ?_
    have:(fun c=>(f c||only q c)||((L.drop (i+1)).any fun q=>decide ((c:Int)=q)&&qA6 b s k c))=fun c=>f c||((L.drop i).any fun q=>decide ((c:Int)=q)&&qA6 b s k c):=by
     funext c
     rw[hd,List.any_cons,hq,Bool.or_assoc]
     congr 2
     unfold only
     by_cases hcq:(c:Int)=q
     ·have:c=q:=by omega
      subst this
      rw[hf];simp
     ·rw[decide_eq_false hcq];simp
    rw[this]
   cases hdead:qBe (pc s k) q with
   | true=>rw[b_t];exact skip (by unfold qA6;rw[hdead];rfl)
   | false=>
     rw[b_f]
     by_cases hk:k=1
     ·rw[qo hk,qHW,qA]
      simp only
      unfold qFP
      rw[qIE,w_s (by unfold fl;omega) (by unfold fl;omega),qA,show fl q=((q / 9:Nat):Int) from rfl,qgY (by omega),qA]
      simp only
      rw[qFf,qA]
      simp only
      rw[qKC,qA,qM7,qer b (by rw[qA9 hs (by omega) (by omega) (by omega)];omega) (by omega)]
      by_cases hn:nF b (pc s 1) (q / 9)=0
      ·rw[decide_eq_true hn,Bool.not_true,b_f]
       exact take (by unfold qA6;rw[hdead,decide_eq_true hn];simp)
      ·rw[decide_eq_false hn,Bool.not_false,b_t]
       exact skip (by unfold qA6;rw[hdead,decide_eq_false hn,decide_eq_false (p:=k≠1) (by simpa using hk)];rfl)
     ·rw[qm hk]
      exact take (by unfold qA6;rw[hdead,decide_eq_true (p:=k≠1) hk];rfl)
def qAu (b:List Int) (s k:Int) (i:Nat):Bool:=decide ((s=0 \/ s=1) /\ 1<=k /\ k<=7)&&(!tk b i&&qA6 b s k i)
theorem qfp {b:List Int} (hc:Clean b) (h:List Int) (S s k:Int):qIm s k b h S (qH b) (qK b)=some (sLo (qAu b s k),sHi (qAu b s k)):=by
 have none:¬ ((s=0 \/ s=1) /\ 1<=k /\ k<=7)->qAu b s k=fun _=>false:=by
  intro hn;funext c;unfold qAu;rw[decide_eq_false hn,Bool.false_and]
 unfold qIm
 rw[qKy,qA]
 by_cases hz:pc s k=0
 ·have:¬ ((s=0 \/ s=1) /\ 1<=k /\ k<=7):=by
   rintro ⟨hs,h1,h7⟩
   rw[qA9 hs h1 (by omega) (by omega)] at hz
   omega
  rw[qo hz,none this,qBm,qBl]
 ·rw [qm hz]
  have hv:(s=0 \/ s=1) /\ 1<=k /\ k<=15 /\ k≠13:=by
   unfold pc at hz
   split at hz
   ·rename_i h;exact h
   ·exact absurd rfl hz
  by_cases h8:k >= 8
  ·rw[qDI h8,none (by omega),qBm,qBl]
  ·rw[qCf h8,qJb hc,qA]
   simp only
   rw[qiZ,qA]
   simp only
   rw[qJW,qA]
   simp only
   have hlen:=qEa fun i=>!tk b i
   obtain⟨g,hg⟩:=qe (sq fun i=>!tk b i).length (by omega)
   have:=qft (b:=b) h S (qK b) (k:=k) hv.1 (sq fun i=>!tk b i) (fun q hq=>⟨(qGP hq).1,(qGP hq).2.1⟩) (by omega) (sq fun i=>!tk b i).length 0 0 (sq fun i=>!tk b i).length 0 (by omega) (fun _=>false) g
   rw[<- hg,qBm,qBl] at this
   rw[show qDQ qC s k (pc s k) (sq fun i=>!tk b i).length (Int.ofNat (sq fun i=>!tk b i).length) 0 b h S (qH b) (qK b) 0 0 0 0 (sq fun i=>!tk b i).length (sq fun i=>!tk b i)=_ from this,qA]
   simp only[Bool.false_or,List.drop_zero]
   obtain⟨e1,e2⟩:=qB1 (f:=fun c=>(sq fun i=>!tk b i).any fun q=>decide ((c:Int)=q)&&qA6 b s k c) (g:=qAu b s k) fun c hcc=>by
    unfold qAu
    rw[decide_eq_true (p:=(s=0 \/ s=1) /\ 1<=k /\ k<=7) ⟨hv.1,hv.2.1,by omega⟩,Bool.true_and,Bool.eq_iff_iff,List.any_eq_true,Bool.and_eq_true]
    constructor
    ·rintro ⟨q,hq,hh⟩
     rw[Bool.and_eq_true,decide_eq_true_eq] at hh
     have:=(qGP hq).2.2
     rw[<- hh.1,tn] at this
     exact⟨this,hh.2⟩
    ·rintro ⟨h1,h2⟩
     exact⟨c,qWK hcc h1,by rw[h2];simp⟩
   rw[e1,e2]
end Go.Kk.Pl
namespace Go.Kk.Pl
end Go.Kk.Pl
namespace Go.Kk.Pl
theorem qFj {α:Type} {x y:α} {a b:Nat} (h:a<=b):br (decide (a<=b)) x y=x:=qD (by simpa using h)
theorem tkA {α:Type} {n:Nat} {L:List α} (h:n=L.length) (M:List α):List.append (List.take n L) M=L++M:=by
 subst h;rw[List.take_length];rfl
theorem qpA {α:Type} {n:Nat} {L:List α} {m:α} (h:n=L.length) (M:List α):List.append (List.take (n+1) (L++[m])) M=L++m :: M:=by
 rw[tkA (by simp[h])];simp
def qAF (x f t:Int):List (List Int):=(if qEN x t then [] else [[f,t,0,0]])++(if qDZ x f t then [[f,t,0,1]] else [])
theorem qjM (x f t:Int):(qAF x f t).length<=2:=by
 unfold qAF;split<;>split<;>simp
theorem qNS {α β:Type} (g:α->List β) (k:Nat) (L:List α) (h:∀ a∈L,(g a).length<=k):(L.flatMap g).length<=k*L.length:=by
 induction L with
 | nil=>simp
 | cons a L ih=>
   rw[List.flatMap_cons,List.length_append,List.length_cons,Nat.mul_succ]
   have:=h a (by simp)
   have:=ih fun x hx=>h x (by simp[hx])
   omega
theorem qpD (x f:Int) (T:List Int) (S:Int) (N1:Nat) (a5 a6:Int) (b h:List Int) (S':Int) (by' sd':List (List Int)) (u v k1 k2:Int) (N2:Nat) (L2:List Int) (N3:Nat) (hT:T.length<=1000):∀ (n i:Nat),i+n=T.length->∀ (L:List (List Int)) (x0 x17:Nat),x0=L.length->x17=L.length->L.length<=1000000 - 2*n->∀ F,
  qEz (F+n+1) x0 S f x N1 a5 a6 T.length T.length i b h S' by' sd' u v x17 L k1 k2 N2 L2 N3 T =
   some ((L++(T.drop i).flatMap (qAF x f)).length,S,N1,a5,a6,b,h,S',by',sd',u,v,(L++(T.drop i).flatMap (qAF x f)).length,L++(T.drop i).flatMap (qAF x f),k1,k2,N2,L2):=by
 intro n
 induction n with
 | zero=>
   intro i hi L x0 x17 h0 h17 hb F
   show qG2 (qEz (F+0)) _ _ _ _ _ _ _ _ _ _ _ _ _ _ _ _ _ _ _ _ _ _ _ _ _=_
   unfold qG2
   rw[qc (by omega),List.drop_eq_nil_of_le (by omega)]
   simp only[List.flatMap_nil,List.append_nil,h0,h17]
 | succ n ih=>
   intro i hi L x0 x17 h0 h17 hb F
   show qG2 (qEz (F+n+1)) _ _ _ _ _ _ _ _ _ _ _ _ _ _ _ _ _ _ _ _ _ _ _ _ _=_
   unfold qG2
   have hil:i<T.length:=by omega
   have hget:T.getD i 0=T[i]:=qGf hil
   have hd:T.drop i=T[i] :: T.drop (i+1):=List.drop_eq_getElem_cons hil
   rw[qg (by omega),qq (by omega) (by omega),tn,hget,qj3,qA]
   simp only
   rw[w_s (by omega) (by omega),hd,List.flatMap_cons,<- List.append_assoc]
   rw[tkA h0,tkA h0,qpA h0]
   have hi1:i+1+n=T.length:=by omega
   have ih':=ih (i+1) hi1
   cases hm:qEN x T[i] with
   | false=>
     rw[Bool.not_false,b_t,qFj (by omega)]
     cases hy:qDZ x f T[i] with
     | true=>
       rw[b_t,qFj (by omega)]
       have:=ih' (L++qAF x f T[i]) (x0+1+1) (x0+1+1) (by simp[qAF,hm,hy,h0]) (by simp[qAF,hm,hy,h0]) (by simp[qAF,hm,hy];omega) F
       rw[<- this]
       simp[qAF,hm,hy]
     | false=>
       rw[b_f]
       have:=ih' (L++qAF x f T[i]) (x0+1) (x0+1) (by simp[qAF,hm,hy,h0]) (by simp[qAF,hm,hy,h0]) (by simp[qAF,hm,hy];omega) F
       rw[<- this]
       simp[qAF,hm,hy]
   | true=>
     rw[Bool.not_true,b_f]
     cases hy:qDZ x f T[i] with
     | true=>
       rw[b_t,qFj (by omega)]
       have:=ih' (L++qAF x f T[i]) (x0+1) (x0+1) (by simp[qAF,hm,hy,h0]) (by simp[qAF,hm,hy,h0]) (by simp[qAF,hm,hy];omega) F
       rw[<- this]
       simp[qAF,hm,hy]
     | false=>
       rw[b_f]
       have:=ih' (L++qAF x f T[i]) x0 x17 (by simp[qAF,hm,hy,h0]) (by simp[qAF,hm,hy,h17]) (by simp[qAF,hm,hy];omega) F
       rw[<- this]
       simp[qAF,hm,hy]
def kgs (b:List Int) (c:Nat):Bool:=pcs b (pc 0 8) c||pcs b (pc 1 8) c
def qBi (b:List Int) (S:Int) (G:Nat->Bool) (f:Nat) (c:Nat):Bool:=((rch (b.getD f 0) f c (tk b) && !sdP b S c) && !kgs b c)&&G c
def qCS (b:List Int) (S:Int) (G:Nat->Bool) (f:Int):List (List Int):=(sq (qBi b S G f.toNat)).flatMap (qAF (b.getD f.toNat 0) f)
def qr (b:List Int) (S:Int) (G:Nat->Bool):List (List Int):=(sq (sdP b S)).flatMap (qCS b S G)
theorem qWV (b:List Int) (S:Int) (G:Nat->Bool) (f:Int):(qCS b S G f).length<=162:=by
 unfold qCS
 have:=qNS (qAF (b.getD f.toNat 0) f) 2 (sq (qBi b S G f.toNat)) fun a _=>qjM _ _ _
 have:=qEa (qBi b S G f.toNat)
 omega
theorem qeE {b:List Int} (hc:Clean b) (h:List Int) (S:Int) (G:Nat->Bool) (T:List Int) (hT:T.length<=1000) (hTr:∀ q∈T,0<=q /\ q<81) (N:Nat):∀ (n i:Nat),i+n=T.length->∀ (L:List (List Int)) (x0 x17:Nat),x0=L.length->x17=L.length->L.length<=900000 - 200*n->∀ F,
  qEy (F+n+1) x0 S T.length T.length i b h S (qH b) (qK b) (sLo G) (sHi G) x17 L (sLo (kgs b)) (sHi (kgs b)) N T =
   some ((L++(T.drop i).flatMap (qCS b S G)).length,b,h,S,qH b,qK b,(L++(T.drop i).flatMap (qCS b S G)).length,L++(T.drop i).flatMap (qCS b S G)):=by
 intro n
 induction n with
 | zero=>
   intro i hi L x0 x17 h0 h17 hb F
   show qG1 (qEy (F+0)) _ _ _ _ _ _ _ _ _ _ _ _ _ _ _ _ _ _=_
   unfold qG1
   rw[qc (by omega),List.drop_eq_nil_of_le (by omega)]
   simp only[List.flatMap_nil,List.append_nil,h0,h17]
 | succ n ih=>
   intro i hi L x0 x17 h0 h17 hb F
   show qG1 (qEy (F+n+1)) _ _ _ _ _ _ _ _ _ _ _ _ _ _ _ _ _ _=_
   unfold qG1
   have hil:i<T.length:=by omega
   have hget:T.getD i 0=T[i]:=qGf hil
   have hd:T.drop i=T[i] :: T.drop (i+1):=List.drop_eq_getElem_cons hil
   obtain⟨q0,q1⟩:=hTr T[i] (List.getElem_mem hil)
   obtain⟨q,hq⟩:∃ q:Nat,T[i]=q:=⟨T[i].toNat,by omega⟩
   have hat:at_ b T[i]=b.getD q 0:=by rw[qBF ⟨q0,q1⟩,hq,tn]
   rw[qg (by omega),qq (by omega) (by omega),tn,hget,qB4,qA,qJb hc,qA]
   simp only
   rw[hat,hq,qLE _ (by omega),qA]
   simp only
   rw[qO6,qA]
   simp only
   rw[qKo,qA]
   simp only
   rw[qKo,qA]
   simp only
   rw[qFf,qA]
   simp only
   rw[qJW,qA]
   simp only
   rw[show (fun i=>((rch (b.getD q 0) q i (tk b) && !sdP b S i) && !kgs b i)&&G i)=qBi b S G q from rfl]
   have hlen:=qEa (qBi b S G q)
   obtain⟨g,hg⟩:=qe (sq (qBi b S G q)).length (by omega)
   have:=qpD (b.getD q 0) q (sq (qBi b S G q)) S T.length T.length i b h S (qH b) (qK b) (sLo G) (sHi G) (sLo (kgs b)) (sHi (kgs b)) N T (sq (qBi b S G q)).length (by omega) (sq (qBi b S G q)).length 0 (by omega) L x0 x17 h0 h17 (by omega) g
   rw[<- hg] at this
   rw[show qEz qC x0 S q (b.getD q 0) T.length T.length i (sq (qBi b S G q)).length (Int.ofNat (sq (qBi b S G q)).length) 0 b h S (qH b) (qK b) (sLo G) (sHi G) x17 L (sLo (kgs b)) (sHi (kgs b)) N T (sq (qBi b S G q)).length (sq (qBi b S G q))=_ from this,qA]
   simp only
   have e:(List.drop 0 (sq (qBi b S G q))).flatMap (qAF (b.getD q 0) q)=qCS b S G T[i]:=by
    unfold qCS;rw[hq,tn,List.drop_zero]
   have hl2:=qWV b S G T[i]
   rw[e,w_s (by omega) (by omega),hd,List.flatMap_cons,<- List.append_assoc]
   exact ih (i+1) (by omega) (L++qCS b S G T[i]) _ _ rfl rfl (by rw[List.length_append];omega) F
theorem qUV {b:List Int} (hc:Clean b) (h:List Int) (S:Int) (G:Nat->Bool):qGz (sLo G) (sHi G) b h S (qH b) (qK b)=some ((qr b S G).length,(qr b S G).length,qr b S G):=by
 unfold qGz
 rw[qHW,qA]
 simp only
 rw[qHW,qA]
 simp only
 rw[qHX,qA]
 simp only
 rw[qO6,qA]
 simp only
 rw[qJW,qA]
 simp only
 have hlen:=qEa (sdP b S)
 obtain⟨g,hg⟩:=qe (sq (sdP b S)).length (by omega)
 have:=qeE hc h S G (sq (sdP b S)) (by omega) (fun q hq=>⟨(qGP hq).1,(qGP hq).2.1⟩) (sq (sdP b S)).length (sq (sdP b S)).length 0 (by omega) [] 0 0 rfl rfl (by simp only[List.length_nil];omega) g
 rw[<- hg] at this
 rw[show qEy qC 0 S (sq (sdP b S)).length (Int.ofNat (sq (sdP b S)).length) 0 b h S (qH b) (qK b) (sLo G) (sHi G) 0 [] (sLo fun i=>pcs b (pc 0 8) i||pcs b (pc 1 8) i) (sHi fun i=>pcs b (pc 0 8) i||pcs b (pc 1 8) i) (sq (sdP b S)).length (sq (sdP b S))=_ from this,qA]
 rfl
def qBk (b h:List Int) (S:Int) (G:Nat->Bool) (k:Nat):List (List Int):=if hdP h S k<1 then [] else (sq fun i=>qAu b S k i&&G i).map fun t=>[0,t,(k:Int),0]
def qAN (b h:List Int) (S:Int) (G:Nat->Bool):List (List Int):=(List.range' 1 7).flatMap (qBk b h S G)
theorem qWW (b h:List Int) (S:Int) (G:Nat->Bool) (k:Nat):(qBk b h S G k).length<=81:=by
 unfold qBk
 split
 ·simp
 ·rw[List.length_map];exact qEa _
theorem qpE (k:Int) (T:List Int) (S:Int) (b h:List Int) (S':Int) (by' sd':List (List Int)) (u v:Int) (N3:Nat) (hT:T.length<=1000):∀ (n i:Nat),i+n=T.length->∀ (L:List (List Int)) (x0 x17:Nat),x0=L.length->x17=L.length->L.length<=1000000 - 2*n->∀ F,
  qE1 (F+n+1) x0 S k T.length T.length i b h S' by' sd' u v x17 L N3 T =
   some ((L++(T.drop i).map fun t=>[0,t,k,0]).length,S,k,b,h,S',by',sd',u,v,(L++(T.drop i).map fun t=>[0,t,k,0]).length,L++(T.drop i).map fun t=>[0,t,k,0]):=by
 intro n
 induction n with
 | zero=>
   intro i hi L x0 x17 h0 h17 hb F
   show qG5 (qE1 (F+0)) _ _ _ _ _ _ _ _ _ _ _ _ _ _ _ _ _=_
   unfold qG5
   rw[qc (by omega),List.drop_eq_nil_of_le (by omega)]
   simp only[List.map_nil,List.append_nil,h0,h17]
 | succ n ih=>
   intro i hi L x0 x17 h0 h17 hb F
   show qG5 (qE1 (F+n+1)) _ _ _ _ _ _ _ _ _ _ _ _ _ _ _ _ _=_
   unfold qG5
   have hil:i<T.length:=by omega
   have hget:T.getD i 0=T[i]:=qGf hil
   have hd:T.drop i=T[i] :: T.drop (i+1):=List.drop_eq_getElem_cons hil
   rw[qg (by omega),qq (by omega) (by omega),tn,hget,qFj (by omega),tkA h0,w_s (by omega) (by omega),hd,List.map_cons]
   have:=ih (i+1) (by omega) (L++[[0,T[i],k,0]]) (x0+1) (x0+1) (by simp[h0]) (by simp[h0]) (by simp;omega) F
   rw[List.append_assoc] at this
   exact this
theorem qfS {b:List Int} (hc:Clean b) (h:List Int) (S:Int) (G:Nat->Bool):∀ (n k:Nat),k+n=8->∀ (L:List (List Int)) (x0 x17:Nat),x0=L.length->x17=L.length->L.length<=900000 - 200*n->∀ F,
  qE0 (F+n+1) x0 S k b h S (qH b) (qK b) (sLo G) (sHi G) x17 L =
   some ((L++(List.range' k n).flatMap (qBk b h S G)).length,b,h,S,qH b,qK b,(L++(List.range' k n).flatMap (qBk b h S G)).length,L++(List.range' k n).flatMap (qBk b h S G)):=by
 intro n
 induction n with
 | zero=>
   intro k hk L x0 x17 h0 h17 hb F
   show qG4 (qE0 (F+0)) _ _ _ _ _ _ _ _ _ _ _ _=_
   unfold qG4
   rw[qc (by omega)]
   simp only[List.range'_zero,List.flatMap_nil,List.append_nil,h0,h17]
 | succ n ih=>
   intro k hk L x0 x17 h0 h17 hb F
   show qG4 (qE0 (F+n+1)) _ _ _ _ _ _ _ _ _ _ _ _=_
   unfold qG4
   have hl2:=qWW b h S G k
   rw[qg (by omega),qgS,qA,List.range'_succ,List.flatMap_cons,<- List.append_assoc]
   have ih':=ih (k+1) (by omega) (L++qBk b h S G k)
   by_cases h1:hdP h S k<1
   ·have e:qBk b h S G k=[]:=by unfold qBk;rw[if_pos h1]
    rw[qg h1,w_s (by omega) (by omega)]
    rw[e,List.append_nil] at ih' ⊢
    exact ih' x0 x17 h0 h17 (by omega) F
   ·have e:qBk b h S G k=(sq fun i=>qAu b S k i&&G i).map fun t=>[0,t,(k:Int),0]:=by unfold qBk;rw[if_neg h1]
    rw[qc h1,qfp hc,qA]
    simp only
    rw[qFf,qA]
    simp only
    rw[qJW,qA]
    simp only
    have hlen:=qEa fun i=>qAu b S k i&&G i
    obtain⟨g,hg⟩:=qe (sq fun i=>qAu b S k i&&G i).length (by omega)
    have:=qpE k (sq fun i=>qAu b S k i&&G i) S b h S (qH b) (qK b) (sLo G) (sHi G) (sq fun i=>qAu b S k i&&G i).length (by omega) (sq fun i=>qAu b S k i&&G i).length 0 (by omega) L x0 x17 h0 h17 (by omega) g
    rw[<- hg] at this
    rw[show qE1 qC x0 S k (sq fun i=>qAu b S k i&&G i).length (Int.ofNat (sq fun i=>qAu b S k i&&G i).length) 0 b h S (qH b) (qK b) (sLo G) (sHi G) x17 L (sq fun i=>qAu b S k i&&G i).length (sq fun i=>qAu b S k i&&G i)=_ from this,qA]
    simp only
    rw[List.drop_zero,<- e,w_s (by omega) (by omega)]
    exact ih' _ _ rfl rfl (by rw[List.length_append];omega) F
theorem qfz {b:List Int} (hc:Clean b) (h:List Int) (S:Int) (G:Nat->Bool):qIl (sLo G) (sHi G) b h S (qH b) (qK b)=some ((qAN b h S G).length,(qAN b h S G).length,qAN b h S G):=by
 unfold qIl
 obtain⟨g,hg⟩:=qe 7 (by omega)
 have:=qfS hc h S G 7 1 (by omega) [] 0 0 rfl rfl (by simp only[List.length_nil];omega) g
 rw[<- hg] at this
 rw[show qE0 qC 0 S 1 b h S (qH b) (qK b) (sLo G) (sHi G) 0 []=_ from this,qA]
 rfl
def mvs (b h:List Int) (S:Int):List (List Int):=qr b S (fun _=>true)++qAN b h S (fun _=>true)
theorem qOm (b:List Int) (S:Int) (G:Nat->Bool):(qr b S G).length<=162*81:=by
 unfold qr
 have:=qNS (qCS b S G) 162 (sq (sdP b S)) fun a _=>qWV _ _ _ _
 have:=qEa (sdP b S)
 omega
theorem qWU (b h:List Int) (S:Int) (G:Nat->Bool):(qAN b h S G).length<=81*7:=by
 unfold qAN
 have:=qNS (qBk b h S G) 81 (List.range' 1 7) fun a _=>qWW _ _ _ _ _
 rw[List.length_range'] at this
 omega
end Go.Kk.Pl
namespace Go.Kk.Pl
def qPD (b h:List Int) (S:Int) (f t:Nat):List (List Int):=(if qAv b h S f t 0 false then [[(f:Int),(t:Int),0,0]] else [])++(if qAv b h S f t 0 true then [[(f:Int),(t:Int),0,1]] else [])
def rTo (b h:List Int) (S:Int) (f t:Nat):List (List Int):=if rch (b.getD f 0) f t (tk b) then qPD b h S f t else []
def qPB (b h:List Int) (S:Int) (f:Nat):List (List Int):=if sd (b.getD f 0)=S then (List.range' 0 81).flatMap (rTo b h S f) else []
def qPA (b h:List Int) (S:Int) (k t:Nat):List (List Int):=if qAv b h S 0 t k false then [[0,(t:Int),(k:Int),0]] else []
def qPC (b h:List Int) (S:Int) (k:Nat):List (List Int):=if hd_ h S k>0 then (List.range' 0 81).flatMap (qPA b h S k) else []
def qO9 (b h:List Int) (S:Int):List (List Int):=(List.range' 0 81).flatMap (qPB b h S)++(List.range' 1 7).flatMap (qPC b h S)
theorem qfh {α β γ:Type} (p:α->Bool) (f:α->β) (g:β->List γ) (L:List α):((L.filter p).map f).flatMap g=L.flatMap fun a=>if p a then g (f a) else []:=by
 induction L with
 | nil=>rfl
 | cons a L ih=>
   rw[List.filter_cons,List.flatMap_cons]
   cases h:p a with
   | true=>rw[if_pos rfl,if_pos rfl,List.map_cons,List.flatMap_cons,ih]
   | false=>rw[if_neg (by simp),if_neg (by simp),ih];rfl
theorem qRD {γ:Type} (p:Nat->Bool) (g:Int->List γ):(sq p).flatMap g=(List.range' 0 81).flatMap fun (i:Nat)=>if p i then g (i:Int) else []:=by
 unfold sq;rw[qfh,qXG];rfl
theorem qIj {α β:Type} {f g:α->List β} {L:List α} (h:∀ a∈L,f a=g a):L.flatMap f=L.flatMap g:=by
 induction L with
 | nil=>rfl
 | cons a L ih=>rw[List.flatMap_cons,List.flatMap_cons,h a (by simp),ih fun x hx=>h x (by simp[hx])]
theorem qn8 {γ:Type} (p:Nat->Bool) (g:Int->γ):(sq p).map g=(List.range' 0 81).flatMap fun (i:Nat)=>if p i then [g (i:Int)] else []:=by
 rw[<- qRD p fun t=>[g t]]
 induction sq p with
 | nil=>rfl
 | cons a L ih=>rw[List.map_cons,List.flatMap_cons,ih];rfl
theorem qg9 {b:List Int} (_hc:Clean b) {c:Nat} (_hcc:c<81):kgs b c=decide (kd (b.getD c 0)=8):=by
 unfold kgs pcs
 rw[qA9 (.inl rfl) (by omega) (by omega) (by omega),qA9 (.inr rfl) (by omega) (by omega) (by omega),Bool.eq_iff_iff]
 simp only[Bool.or_eq_true,decide_eq_true_eq]
 constructor
 ·rintro (⟨_,h⟩ | ⟨_,h⟩)<;>rw[h]<;>decide
 ·intro h
  have:=qO2 (x:=b.getD c 0) (by omega)
  rw[h] at this
  have hs:=qEU (x:=b.getD c 0) (by omega)
  rcases hs with h1 | h1<;>rw[h1,qA9 (by omega) (by omega) (by omega) (by omega)] at this
  ·left;omega
  ·right;omega
theorem qWP {b:List Int} (_hc:Clean b) (h:List Int) {S:Int} (hS:S=0 \/ S=1) {f t:Nat} (hf:f<81) (ht:t<81) (hs:sd (b.getD f 0)=S) (hr:rch (b.getD f 0) f t (tk b)=true) (p:Bool):
  qAv b h S f t 0 p=(decide (sd (b.getD t 0)≠S /\ kd (b.getD t 0)≠8)&&if p=true then qDZ (b.getD f 0) f t else !qEN (b.getD f 0) t):=by
 unfold qAv qCi
 rw[if_neg (by simp),if_neg (by simp),qBF (by omega),qBF (by omega),tn,tn,hr,decide_eq_true (p:=S=0 \/ S=1) hS,Bool.true_and,Bool.true_and]
 by_cases hft:f=t
 ·subst hft
  have:decide (sd (b.getD f 0)=S /\ sd (b.getD f 0)≠S /\ kd (b.getD f 0)≠8)=false:=decide_eq_false fun hh=>hh.2.1 hs
  rw[this,Bool.false_and,Bool.and_false,Bool.false_and,decide_eq_false (p:=sd (b.getD f 0)≠S /\ kd (b.getD f 0)≠8) (fun hh=>hh.1 hs),Bool.false_and]
 ·have e:qDM f t 0 p=0:=by
   unfold qDM
   rw[if_neg (by omega),if_neg (by simp),if_neg (by omega),if_neg (by omega)]
  rw[decide_eq_true e,Bool.true_and]
  have:decide (sd (b.getD f 0)=S /\ sd (b.getD t 0)≠S /\ kd (b.getD t 0)≠8)=decide (sd (b.getD t 0)≠S /\ kd (b.getD t 0)≠8):=by simp[hs,-List.getD_eq_getElem?_getD]
  rw[this,Bool.and_assoc]
  congr 1
  cases p with
  | false=>simp
  | true=>
    simp only[Bool.not_true,Bool.false_or,if_true]
    unfold qDZ
    rw[<- Bool.and_assoc,Bool.and_self]
theorem qpG {b:List Int} (hc:Clean b) (h:List Int) {S:Int} (hS:S=0 \/ S=1) {f t:Nat} (hf:f<81) (ht:t<81) (hs:sd (b.getD f 0)=S):
  (if qBi b S (fun _=>true) f t then qAF (b.getD f 0) f t else [])=rTo b h S f t:=by
 unfold rTo qPD qAF qBi
 rw[qg9 hc ht]
 cases hr:rch (b.getD f 0) f t (tk b) with
 | false=>simp
 | true=>
   rw[qWP hc h hS hf ht hs hr,qWP hc h hS hf ht hs hr]
   unfold sdP sds
   rw[decide_eq_true (p:=S=0 \/ S=1) hS]
   by_cases h1:sd (b.getD t 0)=S
   ·simp[h1,-List.getD_eq_getElem?_getD]
   ·by_cases h2:kd (b.getD t 0)=8
    ·simp[h2,-List.getD_eq_getElem?_getD]
    ·simp only[h1,h2,decide_false,Bool.and_self,Bool.not_false,Bool.true_and,ne_eq,not_false_eq_true,if_true,Bool.false_eq_true,if_false]
     cases qEN (b.getD f 0) t<;>cases qDZ (b.getD f 0) f t<;>rfl
theorem qiM {b:List Int} (hc:Clean b) (h:List Int) {S:Int} (hS:S=0 \/ S=1):mvs b h S=qO9 b h S:=by
 unfold mvs qO9
 congr 1
 ·unfold qr
  rw[qRD]
  apply qIj
  intro f hf
  rw[List.mem_range'_1] at hf
  unfold qPB
  by_cases hs:sd (b.getD f 0)=S
  ·have:sdP b S f=true:=by unfold sdP sds;rw[decide_eq_true hs,decide_eq_true (p:=S=0 \/ S=1) hS];rfl
   rw[if_pos this,if_pos hs]
   unfold qCS
   rw[tn,qRD]
   apply qIj
   intro t ht
   rw[List.mem_range'_1] at ht
   exact qpG hc h hS (by omega) (by omega) hs
  ·have:sdP b S f=false:=by unfold sdP sds;rw[decide_eq_false hs,Bool.and_false]
   rw[if_neg (by simp[this]),if_neg hs]
 ·unfold qAN
  apply qIj
  intro k hk
  rw[List.mem_range'_1] at hk
  unfold qBk qPC
  have e:hdP h S k=hd_ h S k:=by unfold hdP;rw[if_pos ⟨hS,by omega,by omega⟩]
  rw[e]
  by_cases h1:hd_ h S k>0
  ·rw[if_neg (by omega),if_pos h1,qn8]
   apply qIj
   intro t ht
   rw[List.mem_range'_1] at ht
   unfold qPA
   rw[Bool.and_true]
   have:qAv b h S 0 t k false=qAu b S k t:=by
    unfold qAv qCi qAu qA6
    have e2:qDM 0 (t:Int) k false=0:=by
     unfold qDM
     rw[if_neg (by omega),if_pos (by omega),if_pos ⟨by omega,by omega,rfl,rfl⟩]
    rw[e2,qA9 hS (by omega) (by omega) (by omega),qA9 hS (by omega) (by omega) (by omega),if_pos (by omega),if_pos (by omega),decide_eq_true (p:=S=0 \/ S=1) hS,decide_eq_true (p:=(S=0 \/ S=1) /\ (1:Int)<=k /\ (k:Int)<=7) ⟨hS,by omega,by omega⟩,qNB _ (by omega),qBF (by omega),tn,decide_eq_true (p:=0<hd_ h S k) h1]
    unfold tk
    by_cases h2:(k:Int)=1
    ·rw[h2]
     by_cases h0:b.getD t 0=0<;>simp
    ·by_cases h0:b.getD t 0=0<;>simp[h2]
   rw[this]
  ·rw[if_pos (by omega),if_neg h1]
end Go.Kk.Pl
namespace Go.Kk.Pl
theorem hd0 (m:List Int):List.headD (List.take 4 m) 0=m.getD 0 0:=by cases m<;>rfl
theorem hd1 (m:List Int):List.headD (List.tail (List.take 4 m)) 0=m.getD 1 0:=by
 rcases m with _ | ⟨a,_ | ⟨b,m⟩⟩<;>rfl
theorem hd2 (m:List Int):List.headD (List.tail (List.tail (List.take 4 m))) 0=m.getD 2 0:=by
 rcases m with _ | ⟨a,_ | ⟨b,_ | ⟨c,m⟩⟩⟩<;>rfl
theorem hd3 (m:List Int):List.headD (List.tail (List.tail (List.tail (List.take 4 m)))) 0=m.getD 3 0:=by
 rcases m with _ | ⟨a,_ | ⟨b,_ | ⟨c,_ | ⟨d,m⟩⟩⟩⟩<;>rfl
theorem qjN {x f t:Int} {m:List Int} (h:m∈qAF x f t):∃ p:Int,m=[f,t,0,p]:=by
 unfold qAF at h
 rw[List.mem_append] at h
 rcases h with h | h
 ·split at h
  ·cases h
  ·exact⟨0,by simpa using h⟩
 ·split at h
  ·exact⟨1,by simpa using h⟩
  ·cases h
theorem qiK {b:List Int} {S:Int} {G:Nat->Bool} {f:Int} {m:List Int} (h:m∈qCS b S G f):∃ t p:Int,m=[f,t,0,p]:=by
 unfold qCS at h
 obtain⟨t,_,ht⟩:=List.mem_flatMap.1 h
 obtain⟨p,hp⟩:=qjN ht
 exact⟨t,p,hp⟩
theorem qiI {b:List Int} {S:Int} {G:Nat->Bool} {m:List Int} (h:m∈qr b S G):∃ f t p:Int,m=[f,t,0,p]:=by
 unfold qr at h
 obtain⟨f,_,hf⟩:=List.mem_flatMap.1 h
 obtain⟨t,p,hp⟩:=qiK hf
 exact⟨f,t,p,hp⟩
theorem qiL {b h:List Int} {S:Int} {G:Nat->Bool} {k:Nat} {m:List Int} (hm:m∈qBk b h S G k):∃ t:Int,m=[0,t,(k:Int),0]:=by
 unfold qBk at hm
 split at hm
 ·cases hm
 ·obtain⟨t,_,ht⟩:=List.mem_map.1 hm
  exact⟨t,ht.symm⟩
theorem qiJ {b h:List Int} {S:Int} {G:Nat->Bool} {m:List Int} (hm:m∈qAN b h S G):∃ (k:Nat) (t:Int),1<=k /\ k<=7 /\ m=[0,t,(k:Int),0]:=by
 unfold qAN at hm
 obtain⟨k,hk,h2⟩:=List.mem_flatMap.1 hm
 rw[List.mem_range'_1] at hk
 obtain⟨t,ht⟩:=qiL h2
 exact⟨k,t,by omega,by omega,ht⟩
end Go.Kk.Pl
namespace Go.Kk.Pl
theorem qgM (es:List (List Int×List Int)) (r v r' d:List Int):qA2 (qAI es r v) r' d=if r'=r then v else qA2 es r' d:=by
 induction es with
 | nil=>
   by_cases h:r'=r
   ·subst h;simp[qAI,qA2]
   ·have:(r==r')=false:=by simpa using fun hh=>h hh.symm
    simp[qAI,qA2,this,h]
 | cons x es ih=>
   obtain⟨k,u⟩:=x
   by_cases hk:k=r
   ·subst hk
    by_cases h:r'=k
    ·subst h;simp[qAI,qA2]
    ·have:(k==r')=false:=by simpa using fun hh=>h hh.symm
     simp[qAI,qA2,this,h]
   ·have e1:(k==r)=false:=by simpa using hk
    by_cases hk':k=r'
    ·subst hk'
     simp[qAI,qA2,e1,hk]
    ·have e2:(k==r')=false:=by simpa using hk'
     simp only[qAI,e1,cond_false,qA2,e2,ih]
theorem qgW (es:List (List Int×List Int)) (r v r':List Int):qA3 (qAI es r v) r'=(decide (r'=r)||qA3 es r'):=by
 induction es with
 | nil=>
   by_cases h:r'=r
   ·subst h;simp[qAI,qA3]
   ·have:(r==r')=false:=by simpa using fun hh=>h hh.symm
    simp[qAI,qA3,this,h]
 | cons x es ih=>
   obtain⟨k,u⟩:=x
   by_cases hk:k=r
   ·subst hk
    by_cases h:r'=k
    ·subst h;simp[qAI,qA3]
    ·have:(k==r')=false:=by simpa using fun hh=>h hh.symm
     simp[qAI,qA3,this,h]
   ·have e1:(k==r)=false:=by simpa using hk
    by_cases hk':k=r'
    ·subst hk'
     simp[qAI,qA3,e1]
    ·have e2:(k==r')=false:=by simpa using hk'
     simp only[qAI,e1,cond_false,qA3,e2,ih,Bool.false_or]
structure MvOK (b h:List Int) (S f t d p:Int):Prop where
 pp:p=0 \/ p=1
 mov:qAv b h S f t d (p != 0)=true
 tr:0<=t /\ t<81
 fr:0<=f /\ f<81
 dr:0<=d /\ d<=7
 drop:d≠0->f=0 /\ p=0 /\ 0<hd_ h S d /\ at_ b t=0
theorem qiN {b h:List Int} (hc:Clean b) {S:Int} (hS:S=0 \/ S=1) {m:List Int} (hm:m∈mvs b h S):∃ f t d p:Int,m=[f,t,d,p] /\ MvOK b h S f t d p:=by
 rw[qiM hc h hS] at hm
 unfold qO9 at hm
 rw[List.mem_append] at hm
 rcases hm with hm | hm
 ·obtain⟨f,hf,hm⟩:=List.mem_flatMap.1 hm
  rw[List.mem_range'_1] at hf
  unfold qPB at hm
  split at hm<;>try cases hm
  obtain⟨t,ht,hm⟩:=List.mem_flatMap.1 hm
  rw[List.mem_range'_1] at ht
  unfold rTo at hm
  split at hm<;>try cases hm
  unfold qPD at hm
  rw[List.mem_append] at hm
  rcases hm with hm | hm
  ·split at hm
   ·rename_i hmv
    rw[List.mem_singleton] at hm
    exact⟨f,t,0,0,hm,.inl rfl,hmv,by omega,by omega,by omega,fun h=>absurd rfl h⟩
   ·cases hm
  ·split at hm
   ·rename_i hmv
    rw[List.mem_singleton] at hm
    exact⟨f,t,0,1,hm,.inr rfl,hmv,by omega,by omega,by omega,fun h=>absurd rfl h⟩
   ·cases hm
 ·obtain⟨k,hk,hm⟩:=List.mem_flatMap.1 hm
  rw[List.mem_range'_1] at hk
  unfold qPC at hm
  split at hm<;>try cases hm
  rename_i hh
  obtain⟨t,ht,hm⟩:=List.mem_flatMap.1 hm
  rw[List.mem_range'_1] at ht
  unfold qPA at hm
  split at hm
  case isFalse=>cases hm
  rename_i hmv
  rw[List.mem_singleton] at hm
  refine⟨0,t,k,0,hm,.inl rfl,hmv,by omega,by omega,by omega,fun h=>⟨rfl,rfl,hh,?_⟩⟩
  have:=hmv
  unfold qAv qCi at this
  rw[if_pos h] at this
  simp only[Bool.and_eq_true,decide_eq_true_eq] at this
  exact this.1.2.2.2
end Go.Kk.Pl
namespace Go.Kk.Pl
theorem qbb {x:Int} {a c:Nat} (h:qAy x a c=true):-1<=df a c /\ df a c<=1 /\ -2<=dr a c /\ dr a c<=2 /\ (dr a c=2 \/ dr a c = -2->df a c=1 \/ df a c = -1) /\ ¬ (df a c=0 /\ dr a c=0):=by
 have h:=of_decide_eq_true h
 unfold qB2 at h
 have:upS x a c=dr a c \/ upS x a c = - dr a c:=by unfold upS;split<;>simp
 omega
theorem qL7 {x:Int} {a c:Nat} (h:qAy x a c=true):btw a c=[]:=by
 have hs:=qbb h
 unfold btw
 by_cases hl:qv a c=0
 ·rw[if_pos hl]
 ·rw[if_neg hl]
  have hl:=(qKj a c).mp hl
  unfold qEJ at hl
  have:mx a c<=1:=by
   unfold mx
   split<;>omega
  rw[show mx a c - 1=0 by omega]
  rfl
theorem qof {x:Int} {a:Nat}:qAy x a a=false:=by
 cases h:qAy x a a with
 | false=>rfl
 | true=>exact absurd (qG7 a) (qbb h).2.2.2.2.2
theorem qn1 {x:Int} {a:Nat}:qAh x a a=false:=by
 unfold qAh
 have:=qG7 a
 have:upS x a a=0:=by unfold upS;split<;>omega
 rw[decide_eq_false]
 unfold slK
 omega
theorem qXb {x:Int} {a:Nat} {t:Nat->Bool}:rch x a a t=false:=by
 unfold rch;rw[qof,qn1];rfl
theorem qIV {k c f:Nat} (hk:k<81) (hc:c<81) (h:f∈btw c k):f<81 /\ f≠k /\ f≠c /\ ∃ n:Nat,(qBC (sgn (df k f)) (sgn (dr k f)) k)[n]? = some c /\ ∀ i,(i∈btw c k↔i∈(qBC (sgn (df k f)) (sgn (dr k f)) k).take n):=by
 have hf:f∈btw k c:=qIT hc hk h
 have hl:qv k c≠0:=by intro h0;unfold btw at hf;rw[if_pos h0] at hf;cases hf
 have:=qJ3 ⟨k,hk⟩ ⟨c,hc⟩
 simp only[qIZ,Bool.or_eq_true,decide_eq_true_eq,Bool.and_eq_true,beq_iff_eq,Bool.not_eq_true'] at this
 obtain⟨e1,e2,e3⟩:=this.resolve_left hl
 have hW:f∈qBC (sgn (df k c)) (sgn (dr k c)) k:=List.mem_of_mem_take (by rw[e1];exact hf)
 have hli:=(qKj k c).mp hl
 have sx:-1<=sgn (df k c) /\ sgn (df k c)<=1:=by unfold sgn;split<;>(try split)<;>omega
 have sy:-1<=sgn (dr k c) /\ sgn (dr k c)<=1:=by unfold sgn;split<;>(try split)<;>omega
 have sn:¬ (sgn (df k c)=0 /\ sgn (dr k c)=0):=by
  unfold qEJ at hli
  unfold sgn
  split<;>split<;>(try split)<;>(try split)<;>omega
 have hB:=qTK ⟨((sgn (df k c)+1)*3+(sgn (dr k c)+1)).toNat,by omega⟩ ⟨k,hk⟩
 simp only at hB
 rw[show (((((sgn (df k c)+1)*3+(sgn (dr k c)+1)).toNat / 3:Nat):Int) - 1)=sgn (df k c) by omega,show (((((sgn (df k c)+1)*3+(sgn (dr k c)+1)).toNat % 3:Nat):Int) - 1)=sgn (dr k c) by omega] at hB
 have hB:=hB.resolve_left (by omega)
 unfold qM2 at hB
 rw[List.all_eq_true] at hB
 have hB:=hB f hW
 simp only[Bool.and_eq_true,decide_eq_true_eq] at hB
 obtain⟨b1,b2,b3,b4⟩:=hB
 refine⟨b1,?_,?_,(btw k c).length,?_,?_⟩
 ·rintro rfl
  exact b2 (by unfold qv;rw[if_pos rfl])
 ·rintro rfl
  rw[List.contains_iff_mem.mpr hf] at e3
  cases e3
 ·rw[b3,b4];exact e2
 ·intro i
  rw[b3,b4,e1]
  exact⟨qIT hc hk,qIT hk hc⟩
theorem qS7 {k c c' f:Nat} (hk:k<81) (hc:c<81) (hc':c'<81) (h:f∈btw c k) (h':f∈btw c' k) (hne:c≠c'):c∈btw c' k \/ c'∈btw c k:=by
 obtain⟨_,_,_,n,e,m⟩:=qIV hk hc h
 obtain⟨_,_,_,n',e',m'⟩:=qIV hk hc' h'
 rcases Nat.lt_trichotomy n n' with hn | hn | hn
 ·left
  rw[m',List.mem_iff_getElem?]
  exact⟨n,by rw[List.getElem?_take,if_pos hn];exact e⟩
 ·subst hn
  rw[e] at e'
  exact absurd (Option.some.inj e') hne
 ·right
  rw[m,List.mem_iff_getElem?]
  exact⟨n',by rw[List.getElem?_take,if_pos hn];exact e'⟩
def enm (b:List Int) (s:Int) (c:Nat):Bool:=decide (sd (b.getD c 0)=1 - s)
def atk (b:List Int) (s:Int) (k c:Nat):Bool:=enm b s c&&rch (b.getD c 0) c k (tk b)
def tk2 (b:List Int) (f t i:Nat):Bool:=decide (i=t)||(!decide (i=f)&&tk b i)
def qD2 (b:List Int) (s:Int) (k f t c:Nat):Bool:=decide (c≠t)&&(enm b s c&&rch (b.getD c 0) c k (tk2 b f t))
def qAL (b:List Int) (s:Int) (k f c:Nat):Bool:=enm b s c&&(qAh (b.getD c 0) c k&&((btw c k).contains f&&(tk b f&&(decide (sd (b.getD f 0)=s)&&(btw c k).all fun i=>i==f || !tk b i))))
theorem qC4 {b:List Int} {s:Int} {k f c:Nat}:qAL b s k f c=true↔enm b s c=true /\ qAh (b.getD c 0) c k=true /\ f∈btw c k /\ tk b f=true /\ sd (b.getD f 0)=s /\ ∀ i∈btw c k,i≠f->tk b i=false:=by
 unfold qAL
 simp only[Bool.and_eq_true,decide_eq_true_eq,List.all_eq_true,Bool.or_eq_true,beq_iff_eq,Bool.not_eq_true',List.contains_iff_mem]
 constructor
 ·rintro ⟨h1,h2,h3,h4,h5,h6⟩
  exact⟨h1,h2,h3,h4,h5,fun i hi hn=>(h6 i hi).resolve_left hn⟩
 ·rintro ⟨h1,h2,h3,h4,h5,h6⟩
  exact⟨h1,h2,h3,h4,h5,fun i hi=>by by_cases hn:i=f;exact .inl hn;exact .inr (h6 i hi hn)⟩
theorem qNL {b:List Int} {s:Int} (hs:s=0 \/ s=1) {c:Nat} (h:enm b s c=true):tk b c=true:=by
 have h:=of_decide_eq_true h
 unfold tk
 rw[decide_eq_true_eq]
 intro h0
 rw[h0,qJM] at h
 omega
theorem qW8 {b:List Int} {s:Int} (hs:s=0 \/ s=1) {k f c c':Nat} (hk:k<81) (hc:c<81) (hc':c'<81) (h:qAL b s k f c=true) (h':qAL b s k f c'=true):c=c':=by
 apply Classical.byContradiction
 intro hne
 rw[qC4] at h h'
 rcases qS7 hk hc hc' h.2.2.1 h'.2.2.1 hne with hm | hm
 ·have:=h'.2.2.2.2.2 c hm (fun e=>(qIV hk hc h.2.2.1).2.2.1 e.symm)
  rw[qNL hs h.1] at this
  cases this
 ·have:=h.2.2.2.2.2 c' hm (fun e=>(qIV hk hc' h'.2.2.1).2.2.1 e.symm)
  rw[qNL hs h'.1] at this
  cases this
theorem qW9 {b:List Int} {s:Int} {k f f' c:Nat} (h:qAL b s k f c=true) (h':qAL b s k f' c=true):f=f':=by
 apply Classical.byContradiction
 intro hne
 rw[qC4] at h h'
 have:=h'.2.2.2.2.2 f h.2.2.1 hne
 rw[h.2.2.2.1] at this
 cases this
theorem qBx {x:Int} {a c:Nat} {t:Nat->Bool}:rch x a c t=true↔qAy x a c=true \/ (qAh x a c=true /\ ∀ i∈btw a c,t i=false):=by
 unfold rch
 rw[Bool.or_eq_true,Bool.and_eq_true,qGy]
theorem qdD {b:List Int} {s:Int} {k f t:Nat} (hf:tk b f=true->sd (b.getD f 0)=s):
  (∀ c,c<81->qD2 b s k f t c=false)↔(∀ c,c<81->atk b s k c=true->t=c \/ t∈btw c k) /\ (∀ c,c<81->qAL b s k f c=true->t=c \/ t∈btw c k):=by
 constructor
 ·intro h
  refine⟨fun c hc ha=>?_,fun c hc hp=>?_⟩
  ·apply Classical.byContradiction
   intro hn
   simp only[not_or] at hn
   have:=h c hc
   rw[show qD2 b s k f t c=true from ?_] at this
   ·cases this
   ·simp only[atk,Bool.and_eq_true] at ha
    simp only[qD2,Bool.and_eq_true,decide_eq_true_eq]
    refine⟨fun e=>hn.1 e.symm,ha.1,?_⟩
    rw[qBx] at ha ⊢
    refine ha.2.imp id fun hh=>⟨hh.1,fun i hi=>?_⟩
    unfold tk2
    rw[hh.2 i hi,decide_eq_false (p:=i=t) (fun e=>hn.2 (e ▸ hi))]
    simp
  ·apply Classical.byContradiction
   intro hn
   simp only[not_or] at hn
   have:=h c hc
   rw[show qD2 b s k f t c=true from ?_] at this
   ·cases this
   ·rw[qC4] at hp
    simp only[qD2,Bool.and_eq_true,decide_eq_true_eq]
    refine⟨fun e=>hn.1 e.symm,hp.1,?_⟩
    rw[qBx]
    refine .inr ⟨hp.2.1,fun i hi=>?_⟩
    unfold tk2
    rw[decide_eq_false (p:=i=t) (fun e=>hn.2 (e ▸ hi))]
    by_cases hif:i=f
    ·simp[hif]
    ·rw[hp.2.2.2.2.2 i hi hif];simp
 ·rintro ⟨h1,h2⟩ c hc
  cases ha:qD2 b s k f t c with
  | false=>rfl
  | true=>
    exfalso
    simp only[qD2,Bool.and_eq_true,decide_eq_true_eq] at ha
    obtain⟨hct,he,hr⟩:=ha
    have tt:tk2 b f t t=true:=by unfold tk2;simp
    have out:t ∉ btw c k:=by
     intro hm
     rw[qBx] at hr
     rcases hr with hr | hr
     ·rw[qL7 hr] at hm;cases hm
     ·rw[hr.2 t hm] at tt;cases tt
    cases hak:atk b s k c with
    | true=>exact (h1 c hc hak).elim (fun e=>hct e.symm) out
    | false=>
      unfold atk at hak
      rw[he,Bool.true_and] at hak
      have hn:¬ (qAy (b.getD c 0) c k=true \/ (qAh (b.getD c 0) c k=true /\ ∀ i∈btw c k,tk b i=false)):=by
       rw[<- qBx,hak];simp
      simp only[not_or,not_and] at hn
      rw[qBx] at hr
      have hr:=hr.resolve_left hn.1
      have two:∀ i∈btw c k,i≠f->tk b i=false:=by
       intro i hi hif
       have:=hr.2 i hi
       unfold tk2 at this
       rw[decide_eq_false hif] at this
       simpa using (Bool.or_eq_false_iff.mp this).2
      have hmf:f∈btw c k /\ tk b f=true:=by
       apply Classical.byContradiction
       intro hh
       apply hn.2 hr.1
       intro i hi
       by_cases hif:i=f
       ·subst hif
        cases htk:tk b i with
        | false=>rfl
        | true=>exact absurd ⟨hi,htk⟩ hh
       ·exact two i hi hif
      exact (h2 c hc (qC4.mpr ⟨he,hr.1,hmf.1,hmf.2,hf hmf.2,two⟩)).elim (fun e=>hct e.symm) out
theorem qpK {b:List Int} {s:Int} (hs:s=0 \/ s=1) {k c c' t:Nat} (hk:k<81) (hc:c<81) (hc':c'<81) (h:atk b s k c=true) (h':atk b s k c'=true) (hne:c≠c')
  (ht:t=c \/ t∈btw c k) (ht':t=c' \/ t∈btw c' k):False:=by
 have no:∀ {c c':Nat},atk b s k c=true->atk b s k c'=true->c∈btw c' k->False:=by
  intro c c' h h' hm
  simp only[atk,Bool.and_eq_true] at h h'
  rcases qBx.mp h'.2 with hr | hr
  ·rw[qL7 hr] at hm;cases hm
  ·have:=hr.2 c hm
   rw[qNL hs h.1] at this;cases this
 rcases ht with rfl | ht
 ·rcases ht' with rfl | ht'
  ·exact hne rfl
  ·exact no h h' ht'
 ·rcases ht' with rfl | ht'
  ·exact no h' h ht
  ·rcases qS7 hk hc hc' ht ht' hne with hm | hm
   ·exact no h h' hm
   ·exact no h' h hm
end Go.Kk.Pl
