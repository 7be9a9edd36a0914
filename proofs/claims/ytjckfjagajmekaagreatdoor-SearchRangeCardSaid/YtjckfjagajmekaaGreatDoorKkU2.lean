/- What the program's functions come to, told plainly: the texts of this project that this claim leans on, cut down to what is used. -/
import Derived.Test.YtjckfjagajmekaaGreatDoorKkU1
namespace Go.Kk.Pl
def fl (q:Nat):Int:=((q / 9:Nat):Int)
def rn (q:Nat):Int:=((q % 9:Nat):Int)
def df (a c:Nat):Int:=fl c - fl a
def dr (a c:Nat):Int:=rn c - rn a
def upS (x:Int) (a c:Nat):Int:=if sd x=1 then dr a c else - dr a c
theorem geo {a:Nat} (ha:a<81):0<=fl a /\ fl a<=8 /\ 0<=rn a /\ rn a<=8 /\ (a:Int)=9*fl a+rn a:=by unfold fl rn;omega
theorem qIN {a c:Nat} (h:df a c=0) (h':dr a c=0):a=c:=by unfold df dr fl rn at *;omega
theorem qGZ (a:Nat):df a a=0 /\ dr a a=0:=by unfold df dr;omega
def qA9 (dx dy:Int) (a:Nat):Int:=if 0<=fl a+dx /\ fl a+dx<=8 /\ 0<=rn a+dy /\ rn a+dy<=8 then 9*(fl a+dx)+(rn a+dy) else -1
theorem qHo (q:Nat):Int.tdiv (q:Int) 9=fl q:=by unfold fl;rw[Int.tdiv_eq_ediv_of_nonneg (by omega)];omega
theorem qJB (q:Nat):Int.tmod (q:Int) 9=rn q:=qJA q
theorem qoI (f r:Int):qHc f r=some (if 0<=f /\ f<=8 /\ 0<=r /\ r<=8 then 9*f+r else -1):=by
 unfold qHc
 by_cases h1:f<0
 ·rw[qi h1,if_neg (by omega)]
 by_cases h2:f>8
 ·rw[qd h1,qCP h2,if_neg (by omega)]
 by_cases h3:r<0
 ·rw[qd h1,qCC h2,qi h3,if_neg (by omega)]
 by_cases h4:r>8
 ·rw[qd h1,qCC h2,qd h3,qCP h4,if_neg (by omega)]
 ·rw[qd h1,qCC h2,qd h3,qCC h4,if_pos (by omega),w_s (n:=9*f) (by omega) (by omega),w_s (by omega) (by omega)]
theorem qMy {dx dy:Int} (h1:-8<=dx) (h2:dx<=8) (h3:-8<=dy) (h4:dy<=8) {a:Nat} (ha:a<81):qFr dx dy a=some (qA9 dx dy a):=by
 have hg:=geo ha
 unfold qFr qFk qEs
 simp (disch:=omega) only[qd,qCB,qHo,qJB,qA,w_s,qoI]
 rfl
theorem qit {dx dy:Int} {a c:Nat} (ha:a<81) (hc:c<81):only (qA9 dx dy a) c=decide (df a c=dx /\ dr a c=dy):=by
 have hg:=geo ha
 have hg2:=geo hc
 unfold only qA9 df dr
 rw[decide_eq_decide]
 split<;>omega
def qBr (k d u:Int):Prop:=
 (k=1 /\ d=0 /\ u=1) \/ (k=3 /\ (d=1 \/ d = -1) /\ u=2) \/ (k=4 /\ ((u=1 /\ -1<=d /\ d<=1) \/ (u = -1 /\ (d=1 \/ d = -1)))) \/
 ((k=5 \/ k=9 \/ k=10 \/ k=11 \/ k=12) /\ ((u=1 /\ -1<=d /\ d<=1) \/ (u=0 /\ (d=1 \/ d = -1)) \/ (u = -1 /\ d=0))) \/
 (k=8 /\ -1<=d /\ d<=1 /\ -1<=u /\ u<=1 /\ ¬ (d=0 /\ u=0)) \/ (k=14 /\ ((u=0 /\ (d=1 \/ d = -1)) \/ (d=0 /\ (u=1 \/ u = -1)))) \/
 (k=15 /\ (d=1 \/ d = -1) /\ (u=1 \/ u = -1))
instance (k d u:Int):Decidable (qBr k d u):=by unfold qBr;infer_instance
def qAp (x:Int) (a c:Nat):Bool:=decide (qBr (kd x) (df a c) (upS x a c))
theorem qnz {n:Int} (h1:-1000<=n) (h2:n<=1000):qEY n=some (if n<0 then -n else n):=by
 unfold qEY
 split
 ·rename_i h;rw[qi h,w_s (by omega) (by omega)];congr 1;omega
 ·rename_i h;rw[qd h]
theorem qRJ {x:Int} {a c:Nat} (ha:a<81) (hc:c<81):-8<=upS x a c /\ upS x a c<=8 /\ -8<=df a c /\ df a c<=8 /\ -8<=dr a c /\ dr a c<=8:=by
 have hg:=geo ha
 have hg2:=geo hc
 unfold upS df dr
 split<;>omega
def stT (k u S : Int):Option Bool:=
 br (decide (S <= 1))
  (ob (qEY u) fun a5=>
   br (k == 1)
    (br (S==0)
     (some (u==1))
     (some (false)))
    (br (k == 3)
     (br (S==1)
      (some (u==2))
      (some (false)))
     (br (k == 4)
      (br (decide (a5<=1))
       (br (u==1)
        (some (true))
        (br (S==1)
         (some (u == -1))
         (some (false))))
       (some (false)))
      (br (k == 5)
       (br (decide (a5<=1))
        (br (decide (u >= 0))
         (some (true))
         (some (S==0)))
        (some (false)))
       (br (k == 9)
        (br (decide (a5<=1))
         (br (decide (u >= 0))
          (some (true))
          (some (S==0)))
         (some (false)))
        (br (k == 10)
         (br (decide (a5<=1))
          (br (decide (u >= 0))
           (some (true))
           (some (S==0)))
          (some (false)))
         (br (k == 11)
          (br (decide (a5<=1))
           (br (decide (u >= 0))
            (some (true))
            (some (S==0)))
           (some (false)))
          (br (k==12)
           (br (decide (a5<=1))
            (br (decide (u >= 0))
             (some (true))
             (some (S==0)))
            (some (false)))
           (br (k==8)
            (some (decide (a5<=1)))
            (br (k==14)
             (br (decide (a5<=1))
              (br (S==0)
               (some (true))
               (some (u==0)))
              (some (false)))
             (br (k==15)
              (br (decide (a5<=1))
               (br (S==1)
                (some (u != 0))
                (some (false)))
               (some (false)))
              (some (false)))))))))))))
   (br (k == 1)
    (br (S==0)
     (some (u==1))
     (some (false)))
    (br (k == 3)
     (br (S==1)
      (some (u==2))
      (some (false)))
     (br (k == 4)
      (some (false))
      (br (k == 5)
       (some (false))
       (br (k == 9)
        (some (false))
        (br (k==10)
         (some (false))
         (br (k==11)
          (some (false))
          (br (k==12)
           (some (false))
           (br (k==8)
            (some (false))
            (br (k==14)
             (some (false))
             (br (k==15)
              (some (false))
              (some (false)))))))))))))
theorem qoJ:∀ (k:Fin 16) (d u:Fin 17),((d.val=8 /\ u.val=8) \/ stT ((k.val:Nat):Int) ((u.val:Int) - 8) (if (d.val:Int) - 8<0 then -((d.val:Int) - 8) else (d.val:Int) - 8) =
  some (decide (qBr ((k.val:Nat):Int) ((d.val:Int) - 8) ((u.val:Int) - 8)))):=by decide +kernel
theorem qos {k d u:Int} (hne:¬ (d=0 /\ u=0)) (k0:0<=k) (k1:k<=15) (u1:-8<=u) (u2:u<=8) (d1:-8<=d) (d2:d<=8):stT k u (if d<0 then -d else d)=some (decide (qBr k d u)):=by
 have:=qoJ ⟨k.toNat,by omega⟩ ⟨(d+8).toNat,by omega⟩ ⟨(u+8).toNat,by omega⟩
 simp only at this
 rw[show ((k.toNat:Nat):Int)=k by omega,show (((d+8).toNat:Nat):Int) - 8=d by omega,show (((u+8).toNat:Nat):Int) - 8=u by omega] at this
 exact this.resolve_left (by omega)
theorem ql7 (x:Int) {a c:Nat} (ha:a<81) (hc:c<81):qIg x a c=some (qAp x a c):=by
 have hg:=geo ha
 have hg2:=geo hc
 have hr:=qRJ (x:=x) ha hc
 unfold qIg qAp
 simp (disch:=omega) only[qd,qHo,qJB,qDp,qBn,qA,w_s]
 by_cases hac:a=c
 ·subst hac
  rw[qm rfl]
  have:=qGZ a
  have hu:upS x a a=0:=by unfold upS;rw[this.2];split<;>rfl
  rw[this.1,hu]
  symm
  rw[Option.some.injEq,decide_eq_false_iff_not]
  unfold qBr
  omega
 ·rw[ql (by omega)]
  have hne:¬ (df a c=0 /\ upS x a c=0):=by
   rintro ⟨h1,h2⟩
   refine hac (qIN h1 ?_)
   unfold upS at h2
   split at h2<;>omega
  have hS:=qnz (n:=fl c - fl a) (by omega) (by omega)
  rw[hS,qA]
  obtain⟨k0,k1,_⟩:=qCf x
  have:=qos (k:=kd x) hne k0 k1 hr.1 hr.2.1 hr.2.2.1 hr.2.2.2.1
  rw[<- this]
  by_cases hs:sd x=1
  ·have hu:(0:Int) - (rn a - rn c)=upS x a c:=by unfold upS dr;rw[if_pos hs];omega
   rw[qm hs,hu]
   rfl
  ·have hu:rn a - rn c=upS x a c:=by unfold upS dr;rw[if_neg hs];omega
   rw[ql hs,hu]
   rfl
def qAN (k:Int):List (List Int):=if k=1 then [[0,-1]] else if k=3 then [[-1,-2],[1,-2]] else if k=4 then [[-1,-1],[0,-1],[1,-1],[-1,1],[1,1]]
 else if k=5 \/ k=9 \/ k=10 \/ k=11 \/ k=12 then [[-1,-1],[0,-1],[1,-1],[-1,0],[1,0],[0,1]]
 else if k=8 then [[-1,-1],[0,-1],[1,-1],[-1,0],[1,0],[0,1],[-1,1],[1,1]] else if k=14 then [[0,-1],[-1,0],[1,0],[0,1]]
 else if k=15 then [[-1,-1],[1,-1],[-1,1],[1,1]] else []
theorem qfI:∀ k:Fin 16,qFs qC ((k.val:Nat):Int)=some ((qAN ((k.val:Nat):Int)).length,(qAN ((k.val:Nat):Int)).length,qAN ((k.val:Nat):Int)):=by decide +kernel
theorem qfJ {k:Int} (h0:0<=k) (h1:k<=15):qFs qC k=some ((qAN k).length,(qAN k).length,qAN k):=by
 have:=qfI ⟨k.toNat,by omega⟩
 simpa only[show ((k.toNat:Nat):Int)=k by omega] using this
theorem qfH:∀ (k:Fin 16) (i:Fin 8),((qAN ((k.val:Nat):Int)).getD i.val []).length<=2 /\ -2<=((qAN ((k.val:Nat):Int)).getD i.val []).headD 0 /\ ((qAN ((k.val:Nat):Int)).getD i.val []).headD 0<=2 /\
  -2<=((qAN ((k.val:Nat):Int)).getD i.val []).tail.headD 0 /\ ((qAN ((k.val:Nat):Int)).getD i.val []).tail.headD 0<=2:=by decide +kernel
theorem qfF:∀ (k:Fin 16),(qAN ((k.val:Nat):Int)).length<=8:=by decide +kernel
def sg (x:Int):Int:=if sd x=1 then -1 else 1
theorem qb8 {dx dy:Int} (h:-8<=dx /\ dx<=8 /\ -8<=dy /\ dy<=8) (x:Int):qEw dx dy (sd x)=some (sg x*dx,sg x*dy):=by
 unfold qEw sg
 by_cases hs:sd x=1
 ·rw[qm hs,if_pos hs,w_s (by omega) (by omega),w_s (by omega) (by omega)]
  congr 2<;>omega
 ·rw[ql hs,if_neg hs]
  congr 2<;>omega
theorem qau (x:Int):sg x=1 \/ sg x = -1:=by unfold sg;split<;>simp
def dx_ (r:List Int):Int:=r.headD 0
def dy_ (r:List Int):Int:=r.tail.headD 0
def qCs (x:Int) (L:List (List Int)) (a c:Nat):Bool:=L.any fun r=>decide (df a c=sg x*dx_ r /\ dr a c=sg x*dy_ r)
theorem qoN {x:Int} {a:Nat} (ha:a<81) (L:List (List Int)) (hlen:L.length<=8) (hr:∀ r∈L,r.length<=2 /\ -2<=dx_ r /\ dx_ r<=2 /\ -2<=dy_ r /\ dy_ r<=2) (N:Nat) (u v:Int):
  ∀ (n i:Nat),i+n=L.length->∀ (f:Nat->Bool) (F:Nat),qEy (F+n+1) x a L.length (Int.ofNat L.length) i u v (sLo f) (sHi f) N L =
    some (u,v,sLo fun c=>f c||qCs x (L.drop i) a c,sHi fun c=>f c||qCs x (L.drop i) a c):=by
 intro n
 induction n with
 | zero=>
   intro i hi f F
   show qHj (qEy (F+0)) _ _ _ _ _ _ _ _ _ _ _=_
   unfold qHj
   rw[qd (by simp;omega),List.drop_eq_nil_of_le (by omega)]
   have:(fun c=>f c||qCs x [] a c)=f:=by funext c;simp[qCs]
   rw[this]
 | succ n ih=>
   intro i hi f F
   show qHj (qEy (F+n+1)) _ _ _ _ _ _ _ _ _ _ _=_
   unfold qHj
   have hil:i<L.length:=by omega
   have hget:L.getD i []=L[i]:=by rw[List.getD_eq_getElem?_getD,List.getElem?_eq_getElem hil];rfl
   obtain⟨r0,r1,r2,r3,r4⟩:=hr L[i] (List.getElem_mem hil)
   have ht:List.take 2 L[i]=L[i]:=List.take_of_length_le r0
   have hs:=qau x
   rw[qi (by simp;omega),qn (by omega) (by omega),tn,hget,ht,qHg,qA]
   show ob (qEw (dx_ L[i]) (dy_ L[i]) (sd x)) _=_
   rw[qb8 (by omega),qA]
   simp only
   rw[qMy (by rcases hs with h | h<;>rw[h]<;>omega) (by rcases hs with h | h<;>rw[h]<;>omega) (by rcases hs with h | h<;>rw[h]<;>omega) (by rcases hs with h | h<;>rw[h]<;>omega) ha,qA,qFx,qA]
   simp only
   rw[w_s (by omega) (by omega)]
   refine (ih (i+1) (by omega) _ F).trans ?_
   have hd:L.drop i=L[i] :: L.drop (i+1):=List.drop_eq_getElem_cons hil
   obtain⟨e1,e2⟩:=qBq (f:=fun c=>(f c||only (qA9 (sg x*dx_ L[i]) (sg x*dy_ L[i]) a) c)||qCs x (L.drop (i+1)) a c) (g:=fun c=>f c||qCs x (L.drop i) a c) fun c hc=>by
    rw[qit ha hc,hd]
    unfold qCs
    rw[List.any_cons,Bool.or_assoc]
   rw[e1,e2]
theorem qc1:∀ (k:Fin 16) (d u:Fin 17),(qAN ((k.val:Nat):Int)).any (fun r=>decide ((d.val:Int) - 8=dx_ r /\ (u.val:Int) - 8 = -(dy_ r)))=decide (qBr ((k.val:Nat):Int) ((d.val:Int) - 8) ((u.val:Int) - 8)):=by decide +kernel
theorem qc2:∀ (k:Fin 16) (d u:Fin 17),(qAN ((k.val:Nat):Int)).any (fun r=>decide ((d.val:Int) - 8 = -(dx_ r) /\ (u.val:Int) - 8 = -(dy_ r)))=decide (qBr ((k.val:Nat):Int) ((d.val:Int) - 8) ((u.val:Int) - 8)):=by decide +kernel
theorem qc3 (x:Int) {a c:Nat} (ha:a<81) (hc:c<81):qCs x (qAN (kd x)) a c=qAp x a c:=by
 obtain⟨k0,k1,_⟩:=qCf x
 have hr:=qRJ (x:=x) ha hc
 unfold qAp qCs sg upS
 by_cases hs:sd x=1
 ·simp only[hs,if_true]
  have:=qc2 ⟨(kd x).toNat,by omega⟩ ⟨(df a c+8).toNat,by omega⟩ ⟨(dr a c+8).toNat,by omega⟩
  simp only[show (((kd x).toNat:Nat):Int)=kd x by omega,show (((df a c+8).toNat:Nat):Int) - 8=df a c by omega,show (((dr a c+8).toNat:Nat):Int) - 8=dr a c by omega] at this
  rw[<- this]
  congr 1
  funext r
  rw[decide_eq_decide]
  constructor<;>(rintro ⟨h1,h2⟩;constructor<;>omega)
 ·simp only[hs,if_false]
  have:=qc1 ⟨(kd x).toNat,by omega⟩ ⟨(df a c+8).toNat,by omega⟩ ⟨(-dr a c+8).toNat,by omega⟩
  simp only[show (((kd x).toNat:Nat):Int)=kd x by omega,show (((df a c+8).toNat:Nat):Int) - 8=df a c by omega,show (((-dr a c+8).toNat:Nat):Int) - 8 = -dr a c by omega] at this
  rw[<- this]
  congr 1
  funext r
  rw[decide_eq_decide]
  constructor<;>(rintro ⟨h1,h2⟩;constructor<;>omega)
theorem qfG {k:Int} (h0:0<=k) (h1:k<=15):(qAN k).length<=8 /\ ∀ r∈qAN k,r.length<=2 /\ -2<=dx_ r /\ dx_ r<=2 /\ -2<=dy_ r /\ dy_ r<=2:=by
 have hl:=qfF ⟨k.toNat,by omega⟩
 simp only[show ((k.toNat:Nat):Int)=k by omega] at hl
 refine⟨hl,fun r hr=>?_⟩
 obtain⟨i,hi,rfl⟩:=List.getElem_of_mem hr
 have:=qfH ⟨k.toNat,by omega⟩ ⟨i,by omega⟩
 simp only[show ((k.toNat:Nat):Int)=k by omega] at this
 rw[List.getD_eq_getElem?_getD,List.getElem?_eq_getElem hi] at this
 exact this
theorem qoO (x:Int) {a:Nat} (ha:a<81):qI4 x a=some (sLo (qAp x a),sHi (qAp x a)):=by
 obtain⟨k0,k1,_⟩:=qCf x
 obtain⟨hlen,hrs⟩:=qfG k0 k1
 obtain⟨g,hg⟩:=qk (qAN (kd x)).length (by omega)
 have:=qoN (x:=x) ha (qAN (kd x)) hlen hrs (qAN (kd x)).length 0 0 (qAN (kd x)).length 0 (by omega) (fun _=>false) g
 rw[<- hg,qBZ,qBY] at this
 unfold qI4
 rw[qFN,qA,qfJ k0 k1,qA]
 simp only
 rw[show qEy qC x a (qAN (kd x)).length (Int.ofNat (qAN (kd x)).length) 0 0 0 0 0 (qAN (kd x)).length (qAN (kd x))=_ from this,qA]
 simp only
 obtain⟨e1,e2⟩:=qBq (f:=fun c=>false||qCs x (List.drop 0 (qAN (kd x))) a c) (g:=qAp x a) fun c hc=>by
  rw[Bool.false_or,List.drop_zero,qc3 x ha hc]
 rw[e1,e2]
end Go.Kk.Pl
namespace Go.Kk.Pl
def sgn (n:Int):Int:=if n<0 then -1 else if n>0 then 1 else 0
def qu (a c:Nat):Int:=if a=c then 0 else if df a c=0 \/ dr a c=0 then 1 else if df a c=dr a c \/ df a c = -dr a c then 2 else 0
def mx (a c:Nat):Nat:=if (df a c).natAbs<(dr a c).natAbs then (dr a c).natAbs else (df a c).natAbs
def qAR (a c:Nat):Int:=9*sgn (df a c)+sgn (dr a c)
def btw (a c:Nat):List Nat:=if qu a c=0 then [] else (List.range (mx a c - 1)).map fun (j:Nat)=>((a:Int)+((j:Int)+1)*qAR a c).toNat
theorem qnx (n:Int):qG9 n=some (sgn n):=by
 unfold qG9 sgn
 split
 ·rename_i h;rw[qi h]
 ·rename_i h
  rw[qd h]
  split
  ·rename_i h2;rw[qCP h2]
  ·rename_i h2;rw[qCC h2]
theorem qVK {a c:Nat} (ha:a<81) (hc:c<81):qG8 a c=some (qu a c):=by
 have hg:=geo ha
 have hg2:=geo hc
 unfold qG8 qu
 simp (disch:=omega) only[qd,qHo,qJB,w_s]
 by_cases hac:a=c
 ·rw[qm (by omega),if_pos hac]
 ·rw [ql (by omega),if_neg hac]
  by_cases h1:df a c=0
  ·rw[qm (by unfold df at h1;omega),if_pos (.inl h1)]
  ·rw[ql (by unfold df at h1;omega)]
   by_cases h2:dr a c=0
   ·rw[qm (by unfold dr at h2;omega),if_pos (.inr h2)]
   ·rw[ql (by unfold dr at h2;omega),if_neg (by omega)]
    by_cases h3:df a c=dr a c
    ·rw[qm (by unfold df dr at h3;omega),if_pos (.inl h3)]
    ·rw[ql (by unfold df dr at h3;omega)]
     by_cases h4:df a c = -dr a c
     ·rw[qm (by unfold df dr at h4;omega),if_pos (.inr h4)]
     ·rw[ql (by unfold df dr at h4;omega),if_neg (by omega)]
theorem qJ8 {a c:Nat} (ha:a<81) (hc:c<81) (h:qu a c≠0):1<=mx a c /\ mx a c<=8 /\ (c:Int)=a+(mx a c:Int)*qAR a c /\ qAR a c≠0 /\ -10<=qAR a c /\ qAR a c<=10:=by
 have hg:=geo ha
 have hg2:=geo hc
 have hdf:df a c=fl c - fl a:=rfl
 have hdr:dr a c=rn c - rn a:=rfl
 unfold qu at h
 split at h
 ·exact absurd rfl h
 rename_i hac
 have hne:¬ (df a c=0 /\ dr a c=0):=fun hh=>hac (qIN hh.1 hh.2)
 have hl:df a c=0 \/ dr a c=0 \/ df a c=dr a c \/ df a c = -dr a c:=by
  split at h
  ·rename_i h1;rcases h1 with h1 | h1
   ·exact .inl h1
   ·exact .inr (.inl h1)
  ·split at h
   ·rename_i h1;rcases h1 with h1 | h1
    ·exact .inr (.inr (.inl h1))
    ·exact .inr (.inr (.inr h1))
   ·exact absurd rfl h
 clear h
 unfold mx qAR sgn
 generalize df a c=d at *
 generalize dr a c=e at *
 rcases Int.lt_trichotomy d 0 with h1 | h1 | h1<;>rcases Int.lt_trichotomy e 0 with h2 | h2 | h2
 all_goals simp (disch:=omega) only[if_pos,if_neg]
 all_goals (refine⟨by omega,by omega,by omega,by omega,by omega,by omega⟩)
theorem qKC {a c D:Int} {m j:Nat} (hm:c=a+(m:Int)*D) (ha:0<=a /\ a<81) (hc:0<=c /\ c<81) (hj:j<=m) (_hD:-10<=D /\ D<=10):0<=a+(j:Int)*D /\ a+(j:Int)*D<81:=by
 have hj':(j:Int)<=m:=by omega
 rcases Int.le_total 0 D with h | h
 ·have h1:(0:Int)<=(j:Int)*D:=Int.mul_nonneg (by omega) h
  have h2:(j:Int)*D<=(m:Int)*D:=Int.mul_le_mul_of_nonneg_right hj' h
  omega
 ·have h1:(j:Int)*D<=0:=Int.mul_nonpos_of_nonneg_of_nonpos (by omega) h
  have h2:(m:Int)*D<=(j:Int)*D:=Int.mul_le_mul_of_nonpos_right hj' h
  omega
theorem qda {a c:Nat} (ha:a<81) (hc:c<81) (h:qu a c≠0):∀ (n j:Nat),j+1+n=mx a c->∀ F,
  qEZ (F+n+1) c j (qAR a c) ((a:Int)+((j:Int)+1)*qAR a c) j ((List.range j).map fun (j:Nat)=>(a:Int)+((j:Int)+1)*qAR a c) =
   some (mx a c - 1,mx a c - 1,(List.range (mx a c - 1)).map fun (j:Nat)=>(a:Int)+((j:Int)+1)*qAR a c):=by
 obtain⟨m1,m8,hend,hD0,hD1,hD2⟩:=qJ8 ha hc h
 intro n
 induction n with
 | zero=>
   intro j hj F
   show qG6 (qEZ (F+0)) _ _ _ _ _ _=_
   unfold qG6
   have hjm:((j:Int)+1)=(mx a c:Int):=by omega
   rw[hjm,q9 (by omega),show mx a c - 1=j by omega]
 | succ n ih=>
   intro j hj F
   show qG6 (qEZ (F+n+1)) _ _ _ _ _ _=_
   unfold qG6
   have hne:¬ (a:Int)+((j:Int)+1)*qAR a c=c:=by
    rw[hend]
    intro hh
    have:((j:Int)+1)*qAR a c=(mx a c:Int)*qAR a c:=by omega
    have:=Int.eq_of_mul_eq_mul_right hD0 this
    omega
   have hr:=qKC (j:=j+1) hend (by omega) (by omega) (by omega) ⟨hD1,hD2⟩
   have hr2:=qKC (j:=j+2) hend (by omega) (by omega) (by omega) ⟨hD1,hD2⟩
   have e2:(a:Int)+((j:Int)+1)*qAR a c+qAR a c=(a:Int)+(((j+1:Nat):Int)+1)*qAR a c:=by
    rw[show (((j+1:Nat):Int)+1)=((j:Int)+1)+1 by omega,Int.add_mul ((j:Int)+1),Int.one_mul];omega
   have e3:(((j+2:Nat):Int))=(((j+1:Nat):Int)+1):=by omega
   rw[e3] at hr2
   rw[q7 hne,qQ (by simp;omega),e2,w_s (by omega) (by omega),qLx (by simp)]
   have e4:(((List.range j).map fun (j:Nat)=>(a:Int)+((j:Int)+1)*qAR a c)++[(a:Int)+((j:Int)+1)*qAR a c])=(List.range (j+1)).map fun (j:Nat)=>(a:Int)+((j:Int)+1)*qAR a c:=by
    rw[List.range_succ,List.map_append];rfl
   rw[e4]
   exact ih (j+1) (by omega) F
theorem qH4 {a c:Nat} (ha:a<81) (hc:c<81) {s:Nat} (hs:s∈btw a c):s<81:=by
 unfold btw at hs
 split at hs
 ·cases hs
 ·rename_i h
  obtain⟨m1,m8,hend,hD0,hD1,hD2⟩:=qJ8 ha hc h
  obtain⟨j,hj,rfl⟩:=List.mem_map.1 hs
  rw[List.mem_range] at hj
  have hr:=qKC (j:=j+1) hend (by omega) (by omega) (by omega) ⟨hD1,hD2⟩
  rw[show (((j+1:Nat):Int))=(j:Int)+1 by omega] at hr
  omega
theorem qeC {a c:Nat} (ha:a<81) (hc:c<81):(btw a c).length<=7:=by
 unfold btw
 split
 ·simp
 ·rename_i h
  obtain⟨m1,m8,_⟩:=qJ8 ha hc h
  simp;omega
theorem qdc {a c:Nat} (ha:a<81) (hc:c<81):qIh a c=some ((btw a c).length,(btw a c).length,(btw a c).map Int.ofNat):=by
 have hg:=geo ha
 have hg2:=geo hc
 unfold qIh
 rw[qVK ha hc,qA]
 by_cases h:qu a c=0
 ·rw[qm h]
  unfold btw
  rw[if_pos h]
  rfl
 ·obtain⟨m1,m8,hend,hD0,hD1,hD2⟩:=qJ8 ha hc h
  have hs1:-1<=sgn (df a c) /\ sgn (df a c)<=1:=by unfold sgn;split<;>(try split)<;>omega
  have hs2:-1<=sgn (dr a c) /\ sgn (dr a c)<=1:=by unfold sgn;split<;>(try split)<;>omega
  rw[ql h]
  simp (disch:=omega) only[qHo,qJB,w_s,qnx,qA]
  rw[show fl c - fl a=df a c from rfl,show rn c - rn a=dr a c from rfl,w_s (n:=9*sgn (df a c)) (by omega) (by omega),show 9*sgn (df a c)+sgn (dr a c)=qAR a c from rfl,w_s (n:=qAR a c) (by omega) (by omega),w_s (n:=(a:Int)+qAR a c) (by omega) (by omega)]
  obtain⟨g,hgm⟩:=qk (mx a c - 1) (by omega)
  have:=qda ha hc h (mx a c - 1) 0 (by omega) g
  rw[<- hgm] at this
  have e0:(a:Int)+(((0:Nat):Int)+1)*qAR a c=a+qAR a c:=by
   rw[show ((0:Nat):Int)+1=1 from rfl,Int.one_mul]
  rw[e0] at this
  rw[show qEZ qC c 0 (qAR a c) ((a:Int)+qAR a c) 0 []=_ from this,qA]
  unfold btw
  rw[if_neg h]
  simp only[List.length_map,List.length_range,List.map_map]
  congr 3
  apply List.map_congr_left
  intro j hj
  rw[List.mem_range] at hj
  have hr:=qKC (j:=j+1) hend (by omega) (by omega) (by omega) ⟨hD1,hD2⟩
  rw[show (((j+1:Nat):Int))=(j:Int)+1 by omega] at hr
  show _=Int.ofNat (Int.toNat _)
  simp only[Int.ofNat_eq_natCast]
  omega
def qAc (a c:Nat) (t:Nat->Bool):Bool:=(btw a c).all fun s=>!t s
theorem qfl (t:List Bool) (L:List Nat) (hL:∀ s∈L,s<81) (hl:L.length<=100) (N:Nat):∀ (n i:Nat),i+n=L.length->∀ F,
  qEa (F+n+1) L.length i t N (L.map Int.ofNat)=some (if (L.drop i).all (fun s=>!t.getD s false) then .inr () else .inl false):=by
 intro n
 induction n with
 | zero=>
   intro i hi F
   show qG7 (qEa (F+0)) _ _ _ _ _=_
   unfold qG7
   rw[qd (by simp;omega),List.drop_eq_nil_of_le (by omega)]
   rfl
 | succ n ih=>
   intro i hi F
   show qG7 (qEa (F+n+1)) _ _ _ _ _=_
   unfold qG7
   have hil:i<L.length:=by omega
   have hd:L.drop i=L[i] :: L.drop (i+1):=List.drop_eq_getElem_cons hil
   have hget:(L.map Int.ofNat).getD i 0=(L[i]:Int):=by
    rw[List.getD_eq_getElem?_getD,List.getElem?_map,List.getElem?_eq_getElem hil];rfl
   have h81:=hL L[i] (List.getElem_mem hil)
   rw[qi (by simp;omega),qn (by omega) (by omega),tn,hget,qn (by omega) (by omega),tn,hd,List.all_cons,w_s (by omega) (by omega)]
   cases ht:t.getD L[i] false with
   | true=>rfl
   | false=>
     rw[b_f,Bool.not_false,Bool.true_and]
     exact ih (i+1) (by omega) F
theorem qfn {a c:Nat} (ha:a<81) (hc:c<81) (t:List Bool):qAi a c t=some (qAc a c fun s=>t.getD s false):=by
 unfold qAi
 rw[qdc ha hc,qA]
 simp only
 have hlen:=qeC ha hc
 obtain⟨g,hg⟩:=qk (btw a c).length (by omega)
 have:=qfl t (btw a c) (fun s hs=>qH4 ha hc hs) (by omega) (btw a c).length (btw a c).length 0 (by omega) g
 rw[<- hg] at this
 rw[show qEa qC (btw a c).length 0 t (btw a c).length ((btw a c).map Int.ofNat)=_ from this,qA,List.drop_zero]
 unfold qAc
 cases (btw a c).all fun s=>!t.getD s false<;>rfl
def slK (k d u:Int):Prop:=(k=2 /\ d=0 /\ 0<u) \/ ((k=6 \/ k=14) /\ ¬ (d=0 /\ u=0) /\ (d=u \/ d = -u)) \/ ((k=7 \/ k=15) /\ ¬ (d=0 /\ u=0) /\ (d=0 \/ u=0))
instance (k d u:Int):Decidable (slK k d u):=by unfold slK;infer_instance
def qAZ (x:Int) (a c:Nat):Bool:=decide (slK (kd x) (df a c) (upS x a c))
def rch (x:Int) (a c:Nat) (t:Nat->Bool):Bool:=qAp x a c||(qAZ x a c&&qAc a c t)
theorem qhT {a c:Nat}:qu a c=1↔(¬ (df a c=0 /\ dr a c=0)) /\ (df a c=0 \/ dr a c=0):=by
 unfold qu
 by_cases hac:a=c
 ·subst hac
  have:=qGZ a
  simp[this.1,this.2]
 ·have:¬ (df a c=0 /\ dr a c=0):=fun h=>hac (qIN h.1 h.2)
  rw[if_neg hac]
  split
  ·rename_i h;simp[this,h]
  ·rename_i h
   split<;>simp[h]
theorem qhU {a c:Nat}:qu a c=2↔(¬ (df a c=0 /\ dr a c=0)) /\ (df a c=dr a c \/ df a c = -dr a c):=by
 unfold qu
 by_cases hac:a=c
 ·subst hac
  have:=qGZ a
  simp[this.1,this.2]
 ·have:¬ (df a c=0 /\ dr a c=0):=fun h=>hac (qIN h.1 h.2)
  rw[if_neg hac]
  split
  ·rename_i h
   constructor
   ·intro hh;omega
   ·rintro ⟨h1,h2⟩;omega
  ·rename_i h
   split
   ·rename_i h2;simp[h2];omega
   ·rename_i h2;simp[h2]
theorem qjv (x:Int) {a c:Nat} (ha:a<81) (hc:c<81) (t:List Bool):qEb x a c t=some (rch x a c fun s=>t.getD s false):=by
 have hg:=geo ha
 have hg2:=geo hc
 unfold qEb
 rw[ql7 x ha hc,qA]
 unfold rch
 cases hst:qAp x a c with
 | true=>rfl
 | false =>
   rw[b_f,qVK ha hc,qA,qDp,qA,Bool.false_or]
   have l1:=qhT (a:=a) (c:=c)
   have l2:=qhU (a:=a) (c:=c)
   have hup:upS x a c=if sd x=1 then dr a c else -dr a c:=rfl
   have hdr:dr a c=rn c - rn a:=rfl
   have hdf:df a c=fl c - fl a:=rfl
   have fin:∀ (p:Bool),p=qAZ x a c->(br p (ob (qAi a c t) fun a8=>some a8) (some false):Option Bool)=some (qAZ x a c&&qAc a c fun s=>t.getD s false):=by
    intro p hp
    rw[hp,qfn ha hc,qA]
    cases qAZ x a c<;>rfl
   have sl:∀ {p:Prop} [Decidable p],(p↔slK (kd x) (df a c) (upS x a c))->decide p=qAZ x a c:=by
    intro p _ h
    unfold qAZ
    rw[decide_eq_decide];exact h
   have nsl:¬ slK (kd x) (df a c) (upS x a c)->(some false:Option Bool)=some (qAZ x a c&&qAc a c fun s=>t.getD s false):=by
    intro h
    have:qAZ x a c=false:=by unfold qAZ;simpa using h
    rw[this];rfl
   simp (disch:=omega) only[qHo,qJB,w_s,qBn,qA]
   have body : ∀ (u:Int),u=upS x a c->(br (kd x==2)
        (br (qu a c==1)
         (br (fl a==fl c)
          (br (decide (u>0))
           (ob (qAi a c t) fun a8=>
           some (a8))
           (some (false)))
          (some (false)))
         (some (false)))
        (br (kd x==6)
         (br (qu a c==2)
          (ob (qAi a c t) fun a8=>
          some (a8))
          (some (false)))
         (br (kd x==14)
          (br (qu a c==2)
           (ob (qAi a c t) fun a8=>
           some (a8))
           (some (false)))
          (br (kd x==7)
           (br (qu a c==1)
            (ob (qAi a c t) fun a8=>
            some (a8))
            (some (false)))
           (br (kd x==15)
            (br (qu a c==1)
             (ob (qAi a c t) fun a8=>
             some (a8))
             (some (false)))
            (some (false))))))  : Option Bool)=some (qAZ x a c&&qAc a c fun s=>t.getD s false):=by
    intro u hu
    by_cases k2:kd x=2
    ·rw[qm k2]
     by_cases h1:qu a c=1
     ·rw[qm h1]
      by_cases h3:fl a=fl c
      ·rw[qm h3]
       refine fin _ ?_
       exact sl (by unfold slK;rw[<- hu];omega)
      ·rw[ql h3]
       exact nsl (by unfold slK;omega)
     ·rw[ql h1]
      refine nsl (by
       rw[l1] at h1
       unfold slK
       split at hup<;>omega)
    ·rw[ql k2]
     have two:(kd x=6 \/ kd x=14)->(br (qu a c==2) (ob (qAi a c t) fun a8=>some a8) (some false):Option Bool)=some (qAZ x a c&&qAc a c fun s=>t.getD s false):=by
      intro hk
      refine fin _ ?_
      have:(qu a c==2)=decide (qu a c=2):=by rw[Bool.eq_iff_iff];simp
      rw[this]
      refine sl ?_
      rw[l2]
      unfold slK
      split at hup<;>omega
     have one:(kd x=7 \/ kd x=15)->(br (qu a c==1) (ob (qAi a c t) fun a8=>some a8) (some false):Option Bool)=some (qAZ x a c&&qAc a c fun s=>t.getD s false):=by
      intro hk
      refine fin _ ?_
      have:(qu a c==1)=decide (qu a c=1):=by rw[Bool.eq_iff_iff];simp
      rw[this]
      refine sl ?_
      rw[l1]
      unfold slK
      split at hup<;>omega
     by_cases k6:kd x=6
     ·rw[qm k6];exact two (.inl k6)
     rw[ql k6]
     by_cases k14:kd x=14
     ·rw[qm k14];exact two (.inr k14)
     rw[ql k14]
     by_cases k7:kd x=7
     ·rw[qm k7];exact one (.inl k7)
     rw[ql k7]
     by_cases k15:kd x=15
     ·rw[qm k15];exact one (.inr k15)
     rw[ql k15]
     exact nsl (by unfold slK;omega)
   by_cases hs:sd x=1
   ·rw[qm hs]
    exact body _ (by rw[hup,if_pos hs];omega)
   ·rw[ql hs]
    exact body _ (by rw[hup,if_neg hs];omega)
end Go.Kk.Pl
namespace Go.Kk.Pl
def qBk (dx dy:Int):Nat->Int->List Nat
 | 0,_=>[]
 | n+1,p=>if p<0 then [] else p.toNat :: qBk dx dy n (qA9 dx dy p.toNat)
def qAL (t:Nat->Bool):List Nat->Nat->Bool
 | [],_=>false
 | s :: L,c=>decide (c=s)||(!t s&&qAL t L c)
def qC2 (dx dy:Int):Nat->Int->Bool
 | 0,p=>decide (p<0)
 | n+1,p=>decide (p<0)||qC2 dx dy n (qA9 dx dy p.toNat)
theorem qTv (dx dy:Int) (a:Nat):-1<=qA9 dx dy a /\ qA9 dx dy a<81:=by unfold qA9;split<;>omega
theorem qpo {dx dy:Int} (h1:-8<=dx) (h2:dx<=8) (h3:-8<=dy) (h4:dy<=8) (t:Nat->Bool) (u v:Int):∀ (n:Nat) (p:Int),-1<=p->p<81->qC2 dx dy n p=true->∀ (f:Nat->Bool) (F:Nat),
  qFZ (F+n+1) p dx dy (sLo t) (sHi t) u v (sLo f) (sHi f)=some (u,v,sLo fun c=>f c||qAL t (qBk dx dy n p) c,sHi fun c=>f c||qAL t (qBk dx dy n p) c):=by
 intro n
 induction n with
 | zero=>
   intro p hp0 hp1 he f F
   show qG4 (qFZ (F+0)) _ _ _ _ _ _ _ _ _=_
   unfold qG4
   simp only[qC2,decide_eq_true_eq] at he
   rw[qCB (by omega)]
   have:(fun c=>f c||qAL t (qBk dx dy 0 p) c)=f:=by funext c;simp[qBk,qAL]
   rw[this]
 | succ n ih=>
   intro p hp0 hp1 he f F
   show qG4 (qFZ (F+n+1)) _ _ _ _ _ _ _ _ _=_
   unfold qG4
   by_cases hp:p<0
   ·rw[qCB (by omega)]
    have:(fun c=>f c||qAL t (qBk dx dy (n+1) p) c)=f:=by funext c;simp[qBk,qAL,hp]
    rw[this]
   ·obtain⟨q,rfl⟩:∃ q:Nat,p=q:=⟨p.toNat,by omega⟩
    have hq:q<81:=by omega
    rw[qCZ (by omega),qFx,qA]
    simp only
    rw[qDb,qA]
    have hhas:has t q=t q:=by unfold has;simp;intro _;omega
    have hL:qBk dx dy (n+1) q=q :: qBk dx dy n (qA9 dx dy q):=by simp[qBk]
    rw[hhas,hL]
    cases ht:t q with
    | true=>
      rw[b_t]
      obtain⟨e1,e2⟩:=qBq (f:=fun i=>f i||only q i) (g:=fun c=>f c||qAL t (q :: qBk dx dy n (qA9 dx dy q)) c) fun c hc=>by
       unfold qAL only
       rw[ht]
       have:decide ((c:Int)=(q:Int))=decide (c=q):=by rw[decide_eq_decide];omega
       rw[this];simp
      rw[e1,e2]
    | false=>
      rw[b_f,qMy h1 h2 h3 h4 hq,qA]
      obtain⟨r1,r2⟩:=qTv dx dy q
      have he':qC2 dx dy n (qA9 dx dy q)=true:=by
       simp only[qC2,Bool.or_eq_true,decide_eq_true_eq] at he
       rcases he with he | he
       ·omega
       ·simpa using he
      refine (ih _ r1 r2 he' _ F).trans ?_
      obtain⟨e1,e2⟩:=qBq (f:=fun c=>(f c||only q c)||qAL t (qBk dx dy n (qA9 dx dy q)) c) (g:=fun c=>f c||qAL t (q :: qBk dx dy n (qA9 dx dy q)) c) fun c hc=>by
       unfold only
       have:decide ((c:Int)=(q:Int))=decide (c=q):=by rw[decide_eq_decide];omega
       rw[this]
       show _=(f c||(decide (c=q)||(!t q&&qAL t (qBk dx dy n (qA9 dx dy q)) c)))
       rw[ht]
       simp[Bool.or_assoc]
      rw[e1,e2]
def qA4 (dx dy:Int) (a:Nat):List Nat:=qBk dx dy 9 (qA9 dx dy a)
theorem qfM:∀ (d:Fin 9) (a:Fin 81),(d.val=4 \/ qC2 ((d.val / 3:Nat) - 1) ((d.val % 3:Nat) - 1) 9 (qA9 ((d.val / 3:Nat) - 1) ((d.val % 3:Nat) - 1) a.val)=true):=by decide +kernel
theorem qcf {dx dy:Int} (h1:-1<=dx) (h2:dx<=1) (h3:-1<=dy) (h4:dy<=1) (hne:¬ (dx=0 /\ dy=0)) {a:Nat} (ha:a<81) (t:Nat->Bool):
  qG3 a dx dy (sLo t) (sHi t)=some (sLo (qAL t (qA4 dx dy a)),sHi (qAL t (qA4 dx dy a))):=by
 unfold qG3
 rw[qX (by rw[Bool.and_eq_false_iff];simp;omega),qMy (by omega) (by omega) (by omega) (by omega) ha,qA]
 obtain⟨r1,r2⟩:=qTv dx dy a
 have he:qC2 dx dy 9 (qA9 dx dy a)=true:=by
  have:=qfM ⟨((dx+1)*3+(dy+1)).toNat,by omega⟩ ⟨a,ha⟩
  simp only at this
  rw[show (((((dx+1)*3+(dy+1)).toNat / 3:Nat):Int) - 1)=dx by omega,show (((((dx+1)*3+(dy+1)).toNat % 3:Nat):Int) - 1)=dy by omega] at this
  exact this.resolve_left (by omega)
 obtain⟨g,hg⟩:=qk 9 (by omega)
 have:=qpo (by omega) (by omega) (by omega) (by omega) t 0 0 9 _ r1 r2 he (fun _=>false) g
 rw[<- hg,qBZ,qBY] at this
 rw[this,qA]
 simp only[Bool.false_or]
 rfl
def qH9 (a c:Nat):Bool:=decide (qu a c=0)||((qA4 (sgn (df a c)) (sgn (dr a c)) a).take (btw a c).length==btw a c&&((qA4 (sgn (df a c)) (sgn (dr a c)) a)[(btw a c).length]? == some c && !(btw a c).contains c))
def qMW (a:Nat) (dx dy:Int):Bool:=(qA4 dx dy a).all fun c=>decide (c<81)&&(decide (qu a c≠0)&&(decide (sgn (df a c)=dx)&&decide (sgn (dr a c)=dy)))
theorem qJb:∀ (a c:Fin 81),qH9 a.val c.val=true:=by decide +kernel
theorem qSq:∀ (d:Fin 9) (a:Fin 81),(d.val=4 \/ qMW a.val ((d.val / 3:Nat) - 1) ((d.val % 3:Nat) - 1)=true):=by decide +kernel
theorem qcB (t:Nat->Bool) {c:Nat}:∀ (P Q:List Nat),c ∉ P->qAL t (P++c :: Q) c=P.all fun s=>!t s
 | [],Q,_=>by simp[qAL]
 | s :: P,Q,h=>by
   simp only[List.mem_cons,not_or] at h
   show (decide (c=s)||(!t s&&qAL t (P++c :: Q) c))=_
   rw[qcB t P Q h.2,List.all_cons,show decide (c=s)=false by simpa using h.1,Bool.false_or]
theorem qb9 (t:Nat->Bool) {c:Nat}:∀ (P:List Nat),c ∉ P->qAL t P c=false
 | [],_=>rfl
 | s :: P,h=>by
   simp only[List.mem_cons,not_or] at h
   show (decide (c=s)||(!t s&&qAL t P c))=_
   rw[qb9 t P h.2,show decide (c=s)=false by simpa using h.1];simp
def onW (dx dy:Int) (a c:Nat):Bool:=decide (qu a c≠0 /\ sgn (df a c)=dx /\ sgn (dr a c)=dy)
theorem qcC {dx dy:Int} (h1:-1<=dx) (h2:dx<=1) (h3:-1<=dy) (h4:dy<=1) (hne:¬ (dx=0 /\ dy=0)) {a c:Nat} (ha:a<81) (hc:c<81) (t:Nat->Bool):
  qAL t (qA4 dx dy a) c=(onW dx dy a c&&qAc a c t):=by
 unfold onW
 by_cases h:qu a c≠0 /\ sgn (df a c)=dx /\ sgn (dr a c)=dy
 ·obtain⟨hl,rfl,rfl⟩:=h
  have:=qJb ⟨a,ha⟩ ⟨c,hc⟩
  simp only[qH9,Bool.or_eq_true,decide_eq_true_eq,Bool.and_eq_true,beq_iff_eq,Bool.not_eq_true'] at this
  obtain⟨e1,e2,e3⟩:=this.resolve_left hl
  have hlt:(btw a c).length<(qA4 (sgn (df a c)) (sgn (dr a c)) a).length:=getElem?_lt e2
  have hsp:qA4 (sgn (df a c)) (sgn (dr a c)) a=btw a c++c :: (qA4 (sgn (df a c)) (sgn (dr a c)) a).drop ((btw a c).length+1):=by
   have:=qLV e2
   rw[e1] at this
   exact this
  rw[hsp,qcB t _ _ (by simpa using e3)]
  simp[hl,qAc]
 ·have hn:c ∉ qA4 dx dy a:=by
   intro hm
   have:=qSq ⟨((dx+1)*3+(dy+1)).toNat,by omega⟩ ⟨a,ha⟩
   simp only at this
   rw[show (((((dx+1)*3+(dy+1)).toNat / 3:Nat):Int) - 1)=dx by omega,show (((((dx+1)*3+(dy+1)).toNat % 3:Nat):Int) - 1)=dy by omega] at this
   have:=this.resolve_left (by omega)
   unfold qMW at this
   rw[List.all_eq_true] at this
   have:=this c hm
   simp only[Bool.and_eq_true,decide_eq_true_eq] at this
   exact h ⟨this.2.1,this.2.2.1,this.2.2.2⟩
  rw[qb9 t _ hn]
  rw[decide_eq_false h,Bool.false_and]
def qAJ (k:Int):List (List Int):=if k=2 then [[0,-1]] else if k=6 \/ k=14 then [[-1,-1],[1,-1],[-1,1],[1,1]] else if k=7 \/ k=15 then [[0,-1],[-1,0],[1,0],[0,1]] else []
theorem qOb (k:Int):qFY k=some ((qAJ k).length,(qAJ k).length,qAJ k):=by
 unfold qFY qAJ
 by_cases h2:k=2
 ·rw[qm h2,if_pos h2];rfl
 rw[ql h2,if_neg h2]
 by_cases h6:k=6
 ·rw[qm h6,if_pos (.inl h6)];rfl
 rw[ql h6]
 by_cases h14:k=14
 ·rw[qm h14,if_pos (.inr h14)];rfl
 rw[ql h14,if_neg (by omega)]
 by_cases h7:k=7
 ·rw[qm h7,if_pos (.inl h7)];rfl
 rw[ql h7]
 by_cases h15:k=15
 ·rw[qm h15,if_pos (.inr h15)];rfl
 rw[ql h15,if_neg (by omega)];rfl
theorem qju (k:Int):(qAJ k).length<=8 /\ ∀ r∈qAJ k,r.length<=2 /\ -1<=dx_ r /\ dx_ r<=1 /\ -1<=dy_ r /\ dy_ r<=1 /\ ¬ (dx_ r=0 /\ dy_ r=0):=by
 have h1:∀ r∈[[0,-1]],(r:List Int).length<=2 /\ -1<=dx_ r /\ dx_ r<=1 /\ -1<=dy_ r /\ dy_ r<=1 /\ ¬ (dx_ r=0 /\ dy_ r=0):=by decide
 have h2:∀ r∈[[-1,-1],[1,-1],[-1,1],[1,1]],(r:List Int).length<=2 /\ -1<=dx_ r /\ dx_ r<=1 /\ -1<=dy_ r /\ dy_ r<=1 /\ ¬ (dx_ r=0 /\ dy_ r=0):=by decide
 have h3:∀ r∈[[0,-1],[-1,0],[1,0],[0,1]],(r:List Int).length<=2 /\ -1<=dx_ r /\ dx_ r<=1 /\ -1<=dy_ r /\ dy_ r<=1 /\ ¬ (dx_ r=0 /\ dy_ r=0):=by decide
 unfold qAJ
 split
 ·exact⟨by decide,h1⟩
 ·split
  ·exact⟨by decide,h2⟩
  ·split
   ·exact⟨by decide,h3⟩
   ·exact⟨by decide,fun r hr=>by cases hr⟩
def qCt (x:Int) (L:List (List Int)) (a c:Nat):Bool:=L.any fun r=>onW (sg x*dx_ r) (sg x*dy_ r) a c
theorem qje {x:Int} {a:Nat} (ha:a<81) (t:Nat->Bool) (L:List (List Int)) (hlen:L.length<=8) (hr:∀ r∈L,r.length<=2 /\ -1<=dx_ r /\ dx_ r<=1 /\ -1<=dy_ r /\ dy_ r<=1 /\ ¬ (dx_ r=0 /\ dy_ r=0)) (N:Nat) (u v:Int):
  ∀ (n i:Nat),i+n=L.length->∀ (f:Nat->Bool) (F:Nat),qEW (F+n+1) x a L.length (Int.ofNat L.length) i (sLo t) (sHi t) u v (sLo f) (sHi f) N L =
    some (u,v,sLo fun c=>f c||(qCt x (L.drop i) a c&&qAc a c t),sHi fun c=>f c||(qCt x (L.drop i) a c&&qAc a c t)):=by
 intro n
 induction n with
 | zero=>
   intro i hi f F
   show qG2 (qEW (F+0)) _ _ _ _ _ _ _ _ _ _ _ _ _=_
   unfold qG2
   rw[qd (by simp;omega),List.drop_eq_nil_of_le (by omega)]
   have:(fun c=>f c||(qCt x [] a c&&qAc a c t))=f:=by funext c;simp[qCt]
   rw[this]
 | succ n ih=>
   intro i hi f F
   show qG2 (qEW (F+n+1)) _ _ _ _ _ _ _ _ _ _ _ _ _=_
   unfold qG2
   have hil:i<L.length:=by omega
   have hget:L.getD i []=L[i]:=by rw[List.getD_eq_getElem?_getD,List.getElem?_eq_getElem hil];rfl
   obtain⟨r0,r1,r2,r3,r4,r5⟩:=hr L[i] (List.getElem_mem hil)
   have ht:List.take 2 L[i]=L[i]:=List.take_of_length_le r0
   have hs:=qau x
   have c1:-1<=sg x*dx_ L[i] /\ sg x*dx_ L[i]<=1 /\ -1<=sg x*dy_ L[i] /\ sg x*dy_ L[i]<=1 /\ ¬ (sg x*dx_ L[i]=0 /\ sg x*dy_ L[i]=0):=by
    rcases hs with h | h<;>rw[h]<;>omega
   rw[qi (by simp;omega),qn (by omega) (by omega),tn,hget,ht,qHg,qA]
   show ob (qEw (dx_ L[i]) (dy_ L[i]) (sd x)) _=_
   rw[qb8 (by omega),qA]
   simp only
   rw[qcf c1.1 c1.2.1 c1.2.2.1 c1.2.2.2.1 c1.2.2.2.2 ha,qA]
   simp only
   rw[qGt,qA]
   simp only
   rw[w_s (by omega) (by omega)]
   refine (ih (i+1) (by omega) _ F).trans ?_
   have hd:L.drop i=L[i] :: L.drop (i+1):=List.drop_eq_getElem_cons hil
   obtain⟨e1,e2⟩:=qBq (f:=fun c=>(f c||qAL t (qA4 (sg x*dx_ L[i]) (sg x*dy_ L[i]) a) c)||(qCt x (L.drop (i+1)) a c&&qAc a c t)) (g:=fun c=>f c||(qCt x (L.drop i) a c&&qAc a c t)) fun c hc=>by
    rw[qcC c1.1 c1.2.1 c1.2.2.1 c1.2.2.2.1 c1.2.2.2.2 ha hc,hd]
    unfold qCt
    rw[List.any_cons,Bool.and_or_distrib_right,Bool.or_assoc]
   rw[e1,e2]
def qDe (d e:Int):Prop:=¬ (d=0 /\ e=0) /\ (d=0 \/ e=0 \/ d=e \/ d = -e)
instance (d e:Int):Decidable (qDe d e):=by unfold qDe;infer_instance
theorem qJ9 (a c:Nat):qu a c≠0↔qDe (df a c) (dr a c):=by
 unfold qDe qu
 by_cases hac:a=c
 ·subst hac
  have:=qGZ a
  simp[this.1,this.2]
 ·have:¬ (df a c=0 /\ dr a c=0):=fun h=>hac (qIN h.1 h.2)
  rw[if_neg hac]
  split
  ·rename_i h;constructor
   ·intro _;exact⟨this,by omega⟩
   ·intro _;omega
  ·split
   ·constructor
    ·intro _;exact⟨this,by omega⟩
    ·intro _;omega
   ·constructor
    ·intro h;omega
    ·rintro ⟨_,h⟩;omega
theorem qc4:∀ (k:Fin 16) (d e:Fin 17),(qAJ ((k.val:Nat):Int)).any (fun r=>decide (qDe ((d.val:Int) - 8) ((e.val:Int) - 8) /\ sgn ((d.val:Int) - 8)=dx_ r /\ sgn ((e.val:Int) - 8)=dy_ r))=decide (slK ((k.val:Nat):Int) ((d.val:Int) - 8) (-((e.val:Int) - 8))):=by decide +kernel
theorem qc5:∀ (k:Fin 16) (d e:Fin 17),(qAJ ((k.val:Nat):Int)).any (fun r=>decide (qDe ((d.val:Int) - 8) ((e.val:Int) - 8) /\ sgn ((d.val:Int) - 8) = -(dx_ r) /\ sgn ((e.val:Int) - 8) = -(dy_ r)))=decide (slK ((k.val:Nat):Int) ((d.val:Int) - 8) ((e.val:Int) - 8)):=by decide +kernel
theorem qc6 (x:Int) {a c:Nat} (ha:a<81) (hc:c<81):qCt x (qAJ (kd x)) a c=qAZ x a c:=by
 obtain⟨k0,k1,_⟩:=qCf x
 have hr:=qRJ (x:=x) ha hc
 have hl:=qJ9 a c
 unfold qAZ qCt onW sg upS
 by_cases hs:sd x=1
 ·simp only[hs,if_true]
  have:=qc5 ⟨(kd x).toNat,by omega⟩ ⟨(df a c+8).toNat,by omega⟩ ⟨(dr a c+8).toNat,by omega⟩
  simp only[show (((kd x).toNat:Nat):Int)=kd x by omega,show (((df a c+8).toNat:Nat):Int) - 8=df a c by omega,show (((dr a c+8).toNat:Nat):Int) - 8=dr a c by omega] at this
  rw[<- this]
  congr 1
  funext r
  rw[decide_eq_decide,hl]
  constructor<;>(rintro ⟨h1,h2,h3⟩;refine⟨h1,?_,?_⟩<;>omega)
 ·simp only[hs,if_false]
  have:=qc4 ⟨(kd x).toNat,by omega⟩ ⟨(df a c+8).toNat,by omega⟩ ⟨(dr a c+8).toNat,by omega⟩
  simp only[show (((kd x).toNat:Nat):Int)=kd x by omega,show (((df a c+8).toNat:Nat):Int) - 8=df a c by omega,show (((dr a c+8).toNat:Nat):Int) - 8=dr a c by omega] at this
  rw[<- this]
  congr 1
  funext r
  rw[decide_eq_decide,hl]
  constructor<;>(rintro ⟨h1,h2,h3⟩;refine⟨h1,?_,?_⟩<;>omega)
theorem qKc (x:Int) {a:Nat} (ha:a<81) (t:Nat->Bool):qEV x a (sLo t) (sHi t)=some (sLo (fun c=>rch x a c t),sHi fun c=>rch x a c t):=by
 obtain⟨hlen,hrs⟩:=qju (kd x)
 obtain⟨g,hg⟩:=qk (qAJ (kd x)).length (by omega)
 have:=qje (x:=x) ha t (qAJ (kd x)) hlen hrs (qAJ (kd x)).length 0 0 (qAJ (kd x)).length 0 (by omega) (qAp x a) g
 rw[<- hg] at this
 unfold qEV
 rw[qoO x ha,qA]
 simp only
 rw[qFN,qA,qOb,qA]
 simp only
 rw[show qEW qC x a (qAJ (kd x)).length (Int.ofNat (qAJ (kd x)).length) 0 (sLo t) (sHi t) 0 0 (sLo (qAp x a)) (sHi (qAp x a)) (qAJ (kd x)).length (qAJ (kd x))=_ from this,qA]
 simp only
 obtain⟨e1,e2⟩:=qBq (f:=fun c=>qAp x a c||(qCt x (List.drop 0 (qAJ (kd x))) a c&&qAc a c t)) (g:=fun c=>rch x a c t) fun c hc=>by
  rw[List.drop_zero,qc6 x ha hc]
  rfl
 rw[e1,e2]
end Go.Kk.Pl
namespace Go.Kk.Pl
theorem qdX:∀ (a c:Fin 81),(btw a.val c.val).all (fun s=>(btw c.val a.val).contains s)=true:=by decide +kernel
theorem qH3 {a c:Nat} (ha:a<81) (hc:c<81) {s:Nat} (hs:s∈btw a c):s∈btw c a:=by
 have:=qdX ⟨a,ha⟩ ⟨c,hc⟩
 rw[List.all_eq_true] at this
 simpa using this s hs
theorem qGQ {a c:Nat} {t:Nat->Bool}:qAc a c t=true ↔ ∀ s∈btw a c,t s=false:=by simp[qAc]
theorem qfj {a c:Nat} (ha:a<81) (hc:c<81) (t:Nat->Bool):qAc a c t=qAc c a t:=by
 rw[Bool.eq_iff_iff,qGQ,qGQ]
 exact⟨fun h s hs=>h s (qH3 hc ha hs),fun h s hs=>h s (qH3 ha hc hs)⟩
theorem qfk {a c:Nat} (ha:a<81) (hc:c<81) {t t':Nat->Bool} (h:∀ s,s<81->t s=t' s):qAc a c t=qAc a c t':=by
 rw[Bool.eq_iff_iff,qGQ,qGQ]
 exact⟨fun hh s hs=>by rw[<- h s (qH4 ha hc hs)];exact hh s hs,fun hh s hs=>by rw[h s (qH4 ha hc hs)];exact hh s hs⟩
theorem qWn {x:Int} {a c:Nat} (ha:a<81) (hc:c<81) {t t':Nat->Bool} (h:∀ s,s<81->t s=t' s):rch x a c t=rch x a c t':=by
 unfold rch;rw[qfk ha hc h]
theorem qDL {s k:Int} (hs:s=0 \/ s=1) (h1:1<=k) (h2:k<=15) (h3:k≠13):sd (pc s k)=s /\ kd (pc s k)=k:=by
 rw[qAu hs h1 h2 h3]
 have hk:=qGc hs h1 h2 h3
 refine⟨?_,hk⟩
 unfold sd
 rw[hk,if_neg (by omega)]
 rcases hs with rfl | rfl
 ·rw[if_pos (by omega)]
 ·rw[if_neg (by omega)]
theorem qor (k d u:Int):qBr k (-d) u↔qBr k d u:=by
 unfold qBr
 exact or_congr (by omega) (or_congr (by omega) (or_congr (by omega) (or_congr (by omega) (or_congr (by omega) (or_congr (by omega) (by omega))))))
theorem qn1 (k d u:Int):slK k (-d) u↔slK k d u:=by
 unfold slK
 exact or_congr (by omega) (or_congr (by omega) (by omega))
theorem qjt {s k:Int} (hs:s=0 \/ s=1) (h1:1<=k) (h2:k<=15) (h3:k≠13) {a c:Nat} (ha:a<81) (hc:c<81) (t:Nat->Bool):
  rch (pc (1 - s) k) a c t=rch (pc s k) c a t:=by
 obtain⟨e1,e2⟩:=qDL hs h1 h2 h3
 obtain⟨e3,e4⟩:=qDL (s:=1 - s) (by omega) h1 h2 h3
 have hd:df a c = -df c a:=by unfold df;omega
 have hr:dr a c = -dr c a:=by unfold dr;omega
 have hu:upS (pc (1 - s) k) a c=upS (pc s k) c a:=by
  unfold upS
  rw[e1,e3]
  rcases hs with rfl | rfl
  ·rw[if_pos (by omega),if_neg (by omega)];exact hr
  ·rw[if_neg (by omega),if_pos (by omega),hr];omega
 unfold rch qAp qAZ
 rw[e2,e4,hu,qfj ha hc]
 have s1:decide (qBr k (df a c) (upS (pc s k) c a))=decide (qBr k (df c a) (upS (pc s k) c a)):=by
  rw[decide_eq_decide,hd];exact qor _ _ _
 have s2:decide (slK k (df a c) (upS (pc s k) c a))=decide (slK k (df c a) (upS (pc s k) c a)):=by
  rw[decide_eq_decide,hd];exact qn1 _ _ _
 rw[s1,s2]
theorem qKU {x:Int} (h:kd x≠0):x=pc (sd x) (kd x):=by
 obtain⟨k0,k1,k2⟩:=qCf x
 have hs:=qHS h
 rw[qAu hs (by omega) k1 k2]
 have hr:=qIP h
 unfold sd kd at *
 rw[if_neg h]
 split at h
 ·omega
 ·rename_i hh
  rw[if_neg hh]
  split<;>omega
def onF (b:List Int) (q:Nat) (s:Int) (t:Nat->Bool) (i:Int) (c:Nat):Bool:=decide (sd (b.getD c 0)=s /\ i<=kd (b.getD c 0))&&rch (b.getD c 0) c q t
theorem qdG {b:List Int} (h:List Int) (S:Int) (sd':List (List Int)) {s:Int} (hs:s=0 \/ s=1) {q:Nat} (hq:q<81) (t:Nat->Bool) (u v:Int):∀ (n:Nat) (k:Int),k=16 - n->n<=15->∀ (f:Nat->Bool) (F:Nat),
  qDU (F+n+1) q s k b h S (qU b) sd' (sLo t) (sHi t) u v (sLo f) (sHi f)=some (b,h,S,qU b,sd',u,v,sLo fun c=>f c||onF b q s t k c,sHi fun c=>f c||onF b q s t k c):=by
 intro n
 induction n with
 | zero=>
   intro k hk _ f F
   show qF5 (qDU (F+0)) _ _ _ _ _ _ _ _ _ _ _ _ _ _=_
   unfold qF5
   rw[qJQ (by omega)]
   have:(fun c=>f c||onF b q s t k c)=f:=by
    funext c
    have:=(qCf (b.getD c 0)).2.1
    unfold onF
    rw[decide_eq_false (by omega)]
    simp
   rw[this]
 | succ n ih=>
   intro k hk hn f F
   show qF5 (qDU (F+n+1)) _ _ _ _ _ _ _ _ _ _ _ _ _ _=_
   unfold qF5
   rw[qJP (by omega),w_s (n:=1 - s) (by omega) (by omega),qKL,qA,w_s (n:=k+1) (by omega) (by omega)]
   by_cases h13:k=13
   ·have hz:pc (1 - s) k=0:=qOI (by omega)
    rw[qm hz]
    refine (ih (k+1) (by omega) (by omega) f F).trans ?_
    have:(fun c=>f c||onF b q s t (k+1) c)=fun c=>f c||onF b q s t k c:=by
     funext c
     have:=(qCf (b.getD c 0)).2.2
     unfold onF
     congr 2
     rw[decide_eq_decide]
     omega
    rw[this]
   ·have hp:=qAu (s:=1 - s) (k:=k) (by omega) (by omega) (by omega) h13
    rw[ql (by rw[hp];omega),qKc _ hq,qA]
    simp only
    rw[qGs,qA]
    simp only
    rw[qE2,qA]
    simp only
    rw[qGt,qA]
    simp only
    refine (ih (k+1) (by omega) (by omega) _ F).trans ?_
    obtain⟨e1,e2⟩:=qBq (f:=fun c=>(f c||(rch (pc (1 - s) k) q c t&&pcs b (pc s k) c))||onF b q s t (k+1) c) (g:=fun c=>f c||onF b q s t k c) fun c hc=>by
     rw[qjt hs (by omega) (by omega) h13 hq hc,Bool.or_assoc]
     congr 1
     obtain⟨g1,g2⟩:=qDL hs (by omega) (by omega) h13
     have hne:pc s k≠0:=by rw[qAu hs (by omega) (by omega) h13];omega
     unfold onF pcs
     by_cases hx:b.getD c 0=pc s k
     ·rw[hx,g1,g2,decide_eq_true (show pc s k≠0 /\ pc s k=pc s k from ⟨hne,rfl⟩),decide_eq_false (by omega),decide_eq_true (by omega)]
      simp
     ·rw[decide_eq_false (p:=pc s k≠0 /\ b.getD c 0=pc s k) (by omega),Bool.and_false,Bool.false_or]
      congr 1
      rw[decide_eq_decide]
      constructor
      ·rintro ⟨h1,h2⟩;exact⟨h1,by omega⟩
      ·rintro ⟨h1,h2⟩
       refine⟨h1,?_⟩
       rcases Int.lt_or_eq_of_le h2 with h3 | h3
       ·omega
       ·exfalso
        apply hx
        have hk0:kd (b.getD c 0)≠0:=by omega
        have:=qKU hk0
        rw[h1,<- h3] at this
        exact this
    rw[e1,e2]
def onS (b:List Int) (q s:Int) (t:Nat->Bool) (c:Nat):Bool:=decide (0<=q /\ q<81)&&(decide (s=0 \/ s=1)&&(decide (sd (b.getD c 0)=s)&&rch (b.getD c 0) c q.toNat t))
theorem qik (b:List Int) {s:Int} (hs:s=0 \/ s=1) (q:Nat) (hq:q<81) (t:Nat->Bool):onF b q s t 1=onS b q s t:=by
 funext c
 unfold onF onS
 rw[decide_eq_true (show (0:Int)<=q /\ (q:Int)<81 by omega),decide_eq_true hs,Bool.true_and,Bool.true_and]
 congr 1
 rw[decide_eq_decide]
 constructor
 ·exact fun h=>h.1
 ·intro h
  refine⟨h,?_⟩
  have:=(qCf (b.getD c 0)).1
  rcases Int.lt_or_eq_of_le this with h1 | h1
  ·omega
  ·rw[qZR h1.symm] at h;omega
theorem qVt (b h:List Int) (S:Int) (sd':List (List Int)) (q s:Int) (t:Nat->Bool):qF4 q s (sLo t) (sHi t) b h S (qU b) sd'=some (sLo (onS b q s t),sHi (onS b q s t)):=by
 have none:¬ ((0<=q /\ q<81) /\ (s=0 \/ s=1))->onS b q s t=fun _=>false:=by
  intro hn
  funext c
  unfold onS
  by_cases h1:0<=q /\ q<81
  ·rw[decide_eq_false (p:=s=0 \/ s=1) (fun h2=>hn ⟨h1,h2⟩)];simp
  ·rw[decide_eq_false h1];simp
 unfold qF4
 by_cases h0:q<0
 ·rw[qi h0,none (by omega),qBZ,qBY]
 rw[qd h0]
 by_cases h1:q >= 81
 ·rw[qCZ h1,none (by omega),qBZ,qBY]
 rw[qCB h1]
 obtain⟨a,rfl⟩:∃ a:Nat,q=a:=⟨q.toNat,by omega⟩
 obtain⟨g,hg⟩:=qk 15 (by omega)
 have main:(s=0 \/ s=1)->qDU qC a s 1 b h S (qU b) sd' (sLo t) (sHi t) 0 0 0 0=some (b,h,S,qU b,sd',0,0,sLo (onS b a s t),sHi (onS b a s t)):=by
  intro hs
  have:=qdG (b:=b) h S sd' hs (q:=a) (by omega) t 0 0 15 1 (by omega) (by omega) (fun _=>false) g
  rw[<- hg,qBZ,qBY] at this
  rw[this,qik b hs a (by omega)]
  simp only[Bool.false_or]
 by_cases h2:s=0
 ·rw[q9 h2,main (.inl h2),qA]
 ·rw[q7 h2]
  by_cases h3:s=1
  ·rw[q9 h3,main (.inr h3),qA]
  ·rw[q7 h3,none (by omega),qBZ,qBY]
def kg (b:List Int) (s:Int):Int:=fst (pcs b (pc s 8))
def chs (b:List Int) (s:Int):Nat->Bool:=onS b (kg b s) (1 - s) (tk b)
def inC (b:List Int) (s:Int):Bool:=!isE (chs b s)
theorem qTx (f:Nat->Bool):-1<=fst f /\ fst f<81:=by
 unfold fst
 split
 ·rename_i i hi
  have:=List.mem_of_find?_eq_some hi
  rw[List.mem_range] at this
  omega
 ·omega
theorem qSp {b:List Int} (hc:Clean b) (h:List Int) (S:Int) {s:Int} (hs:-10<=s /\ s<=10):qF3 s b h S (qU b) (qZ b)=some (sLo (chs b s),sHi (chs b s)):=by
 unfold qF3
 rw[qNY,qA,qI9 hc,qA]
 simp only
 rw[w_s (by omega) (by omega),qVt,qA]
 rfl
theorem qJc {b h:List Int} {s:Int} (hl:b.length=81) (hz:qA6 b h s=0):Clean b /\ (s=0 \/ s=1):=by
 unfold qA6 at hz
 split at hz
 ·omega
 ·rename_i hs
  split at hz
  ·omega
  ·rename_i hb
   exact⟨qdY hl (by simpa using hb),by omega⟩
def qCu (b h:List Int) (s:Int):Int:=if qA6 b h s≠0 then qA6 b h s else if inC b (1 - s) then 54 else 0
def tkL (b:List Int) (i:Nat):List Bool:=(List.range 81).map fun j=>decide (j<i)&&tk b j
theorem qpB (b h:List Int) (s:Int) (w:List Bool):∀ (n i:Nat),i+n=81->∀ F,qDo (F+n+1) i b h s w (tkL b i)=some (w,tkL b 81):=by
 intro n
 induction n with
 | zero=>
   intro i hi F
   show qHB (qDo (F+0)) _ _ _ _ _ _=_
   unfold qHB
   rw[qd (by omega),show i=81 by omega]
 | succ n ih=>
   intro i hi F
   show qHB (qDo (F+n+1)) _ _ _ _ _ _=_
   unfold qHB
   have e:List.set (tkL b i) i (b.getD i 0 != 0)=tkL b (i+1):=by
    unfold tkL
    rw[map_set]
    apply List.map_congr_left
    intro j _
    split
    ·rename_i hj;subst hj
     rw[decide_eq_true (show j<j+1 by omega),Bool.true_and]
     unfold tk
     rw[Bool.eq_iff_iff];simp
    ·rename_i hj
     congr 1
     rw[decide_eq_decide];omega
   rw[qi (by omega),qn (by omega) (by omega),qn (by omega) (by omega),tn,e,w_s (by omega) (by omega)]
   exact ih (i+1) (by omega) F
theorem qpD (b:List Int):tkL b 0=List.replicate 81 false:=by
 unfold tkL
 apply List.ext_getElem
 ·simp
 ·intro i h1 h2
  rw[List.getElem_map,List.getElem_replicate,decide_eq_false (by omega),Bool.false_and]
def qCo (b:List Int):List Bool:=tkL b 81
theorem qRD (b h:List Int) (s:Int):qDn b h s=some (qCo b):=by
 obtain⟨g,hg⟩:=qk 81 (by omega)
 have:=qpB b h s (List.replicate 81 false) 81 0 (by omega) g
 rw[<- hg,qpD] at this
 unfold qDn
 show ob (qDo qC 0 b h s (List.replicate 81 false) (List.replicate 81 false)) _=_
 rw[show qDo qC 0 b h s (List.replicate 81 false) (List.replicate 81 false)=_ from this,qA]
 rfl
theorem qpA (b:List Int) {i:Nat} (h:i<81):(qCo b).getD i false=tk b i:=by
 unfold qCo tkL
 rw[qNv _ h,decide_eq_true h,Bool.true_and]
theorem qOc (b:List Int) (x:Int) {a c:Nat} (ha:a<81) (hc:c<81):qEb x a c (qCo b)=some (rch x a c (tk b)):=by
 rw[qjv x ha hc,qWn ha hc fun s hs=>qpA b hs]
theorem qmB (b h:List Int) (S:Int) {s:Int} (hs:s=0 \/ s=1):∀ (n i:Nat),i+n=81->(∀ j,j<i->pcs b (pc s 8) j=false)->∀ F,qEf (F+n+1) s i b h S=some (if kg b s = -1 then .inr () else .inl (kg b s)):=by
 have hp:pc s 8=16*s+8:=qAu hs (by omega) (by omega) (by omega)
 intro n
 induction n with
 | zero=>
   intro i hi hj F
   show qHE (qEf (F+0)) _ _ _ _ _=_
   unfold qHE
   have:kg b s = -1:=qTw fun j hj'=>hj j (by omega)
   rw[qd (by omega),if_pos this]
 | succ n ih=>
   intro i hi hj F
   show qHE (qEf (F+n+1)) _ _ _ _ _=_
   unfold qHE
   rw[qi (by omega),qn (by omega) (by omega),tn,c_8,w_s (n:=16*s) (by omega) (by omega),w_s (n:=16*s+8) (by omega) (by omega),w_s (by omega) (by omega),<- hp]
   by_cases hx:b.getD i 0=pc s 8
   ·have hk:pcs b (pc s 8) i=true:=by unfold pcs;rw[decide_eq_true];exact⟨by rw[hp];omega,hx⟩
    have:kg b s=i:=qJv (by omega) hk hj
    rw[qm hx,this,if_neg (by omega)]
   ·rw[ql hx]
    refine ih (i+1) (by omega) (fun j hj'=>?_) F
    by_cases hji:j=i
    ·subst hji;unfold pcs;rw[decide_eq_false];exact fun hh=>hx hh.2
    ·exact hj j (by omega)
theorem qmC (b h:List Int) (S:Int) {s:Int} (hs:s=0 \/ s=1):qIk b h S s=some (kg b s):=by
 obtain⟨g,hg⟩:=qk 81 (by omega)
 have:=qmB b h S hs 81 0 (by omega) (fun j hj=>absurd hj (by omega)) g
 rw[<- hg] at this
 unfold qIk
 rw[show qEf qC s 0 b h S=_ from this,qA]
 split
 ·rename_i hk;rw[hk];rfl
 ·rfl
theorem qmA (b h:List Int) (S s:Int) (hs:s=0 \/ s=1) (k:Nat) (hk:k<81):∀ (n i:Nat),i+n=81->∀ F,
  qEe (F+n+1) s k i b h S (qCo b)=some (if (List.range' i n).any (onS b k (1 - s) (tk b)) then .inl true else .inr ()):=by
 intro n
 induction n with
 | zero=>
   intro i hi F
   show qHD (qEe (F+0)) _ _ _ _ _ _ _=_
   unfold qHD
   rw[qd (by omega)]
   rfl
 | succ n ih=>
   intro i hi F
   show qHD (qEe (F+n+1)) _ _ _ _ _ _ _=_
   unfold qHD
   have hr:=ih (i+1) (by omega) F
   rw[qi (by omega),qn (by omega) (by omega),tn,c_8,qDp,qA,w_s (n:=1 - s) (by omega) (by omega),w_s (by omega) (by omega),any_cons]
   have hon:onS b k (1 - s) (tk b) i=(decide (sd (b.getD i 0)=1 - s)&&rch (b.getD i 0) i k (tk b)):=by
    unfold onS
    rw[decide_eq_true (show (0:Int)<=k /\ (k:Int)<81 by omega),decide_eq_true (show 1 - s=0 \/ 1 - s=1 by omega),Bool.true_and,Bool.true_and,tn]
   rw[hon]
   by_cases hsd:sd (b.getD i 0)=1 - s
   ·rw[qm hsd,qn (by omega) (by omega),qOc b _ (by omega) hk,qA,decide_eq_true hsd,Bool.true_and]
    cases rch (b.getD i 0) i k (tk b) with
    | true=>rfl
    | false=>rw[b_f,Bool.false_or];exact hr
   ·rw[ql hsd,decide_eq_false hsd,Bool.false_and,Bool.false_or]
    exact hr
theorem qc7 (f:Nat->Bool):(List.range' 0 81).any f = !isE f:=by
 unfold isE
 rw[qWT,Bool.eq_iff_iff]
 simp only[List.any_eq_true,Bool.not_eq_true']
 rw[List.all_eq_false]
 simp
theorem qPs (b h:List Int) (S:Int) {s:Int} (hs:s=0 \/ s=1):qFc b h S s=some (inC b s):=by
 unfold qFc
 rw[qRD,qA,qmC b h S hs,qA]
 have hr:=qTx (pcs b (pc s 8))
 have hkg:kg b s=fst (pcs b (pc s 8)):=rfl
 by_cases hk:kg b s<0
 ·rw[qi hk]
  have:chs b s=fun _=>false:=by
   funext c
   unfold chs onS
   rw[decide_eq_false (by omega),Bool.false_and]
  unfold inC
  rw[this,qgQ]
  rfl
 ·obtain⟨k,hkk⟩:∃ k:Nat,kg b s=k:=⟨(kg b s).toNat,by omega⟩
  obtain⟨g,hg⟩:=qk 81 (by omega)
  have:=qmA b h S s hs k (by omega) 81 0 (by omega) g
  rw[<- hg,qc7,<- hkk] at this
  rw[qd hk,show qEe qC s (kg b s) 0 b h S (qCo b)=_ from this,qA]
  unfold inC chs
  cases isE (onS b (kg b s) (1 - s) (tk b))<;>rfl
theorem qjd {b h:List Int} (hl:b.length=81) (hf:qAq h) (s:Int):qHC b h s=some (qCu b h s):=by
 unfold qHC qCu
 rw[qZB hl hf,qA]
 by_cases hz:qA6 b h s=0
 ·obtain⟨hc,hs⟩:=qJc hl hz
  rw[q9 hz,if_neg (by simpa using hz),w_s (by omega) (by omega),qPs b h s (by omega),qA]
  cases inC b (1 - s)<;>rfl
 ·rw[q7 hz,if_pos hz]
def ofL (L:List Int) (c:Nat):Bool:=L.any fun q=>only q c
theorem qh8 (L:List Int) (hl:L.length<=1000) (N:Nat) (u v:Int):∀ (n i:Nat),i+n=L.length->∀ (f:Nat->Bool) (F:Nat),
  qEr (F+n+1) L.length L.length i N L u v (sLo f) (sHi f)=some (N,L,u,v,sLo fun c=>f c||ofL (L.drop i) c,sHi fun c=>f c||ofL (L.drop i) c):=by
 intro n
 induction n with
 | zero=>
   intro i hi f F
   show qHa (qEr (F+0)) _ _ _ _ _ _ _ _ _=_
   unfold qHa
   rw[qd (by omega),List.drop_eq_nil_of_le (by omega)]
   have:(fun c=>f c||ofL [] c)=f:=by funext c;simp[ofL]
   rw[this]
 | succ n ih=>
   intro i hi f F
   show qHa (qEr (F+n+1)) _ _ _ _ _ _ _ _ _=_
   unfold qHa
   have hil:i<L.length:=by omega
   have hget:L.getD i 0=L[i]:=qF2 hil
   rw[qi (by omega),qn (by omega) (by omega),tn,hget,qFx,qA]
   simp only
   rw[w_s (by omega) (by omega)]
   refine (ih (i+1) (by omega) _ F).trans ?_
   have hd:L.drop i=L[i] :: L.drop (i+1):=List.drop_eq_getElem_cons hil
   have:(fun c=>(f c||only L[i] c)||ofL (L.drop (i+1)) c)=fun c=>f c||ofL (L.drop i) c:=by
    funext c
    rw[hd]
    unfold ofL
    rw[List.any_cons,Bool.or_assoc]
   rw[this]
theorem qh9 (L:List Int) (hl:L.length<=1000) (N:Nat):qHZ L.length N L=some (sLo (ofL L),sHi (ofL L)):=by
 obtain⟨g,hg⟩:=qk L.length (by omega)
 have:=qh8 L hl N 0 0 L.length 0 (by omega) (fun _=>false) g
 rw[<- hg,qBZ,qBY] at this
 unfold qHZ
 rw[show qEr qC L.length (Int.ofNat L.length) 0 N L 0 0 0 0=_ from this,qA]
 simp only[Bool.false_or,List.drop_zero]
theorem qDv (f:Nat->Bool):(sq f).length<=81:=by
 unfold sq;rw[List.length_map];exact Nat.le_trans (List.length_filter_le _ _) (by simp)
end Go.Kk.Pl
namespace Go.Kk.Pl
theorem qFp {f:Nat->Bool} {q:Int} (h:q∈sq f):0<=q /\ q<81 /\ f q.toNat=true:=by
 unfold sq at h
 obtain⟨j,hj,rfl⟩:=List.mem_map.1 h
 obtain⟨h1,h2⟩:=List.mem_filter.1 hj
 rw[List.mem_range] at h1
 refine⟨by simp,by simp only[Int.ofNat_eq_natCast];omega,by simpa using h2⟩
theorem qVW {f:Nat->Bool} {q:Nat} (hq:q<81) (h:f q=true):(q:Int)∈sq f:=by
 unfold sq
 exact List.mem_map.2 ⟨q,List.mem_filter.2 ⟨by simpa using hq,h⟩,rfl⟩
end Go.Kk.Pl
namespace Go.Kk.Pl
theorem qcA (t:Nat->Bool) {c:Nat} (ht:t c=true) {i:Nat}:∀ (P Q:List Nat),(∀ s∈P,t s=false)->qAL t (P++c :: Q) i=(P.contains i||decide (i=c))
 | [],Q,_=>by
   show (decide (i=c)||(!t c&&qAL t Q i))=_
   rw[ht];simp
 | s :: P,Q,h=>by
   show (decide (i=s)||(!t s&&qAL t (P++c :: Q) i))=_
   rw[h s List.mem_cons_self,Bool.not_false,Bool.true_and,qcA t ht P Q (fun s hs=>h s (List.mem_cons_of_mem _ hs)),List.contains_cons,Bool.or_assoc]
   congr 1
theorem qim {dx dy:Int} {a c:Nat} (ha:a<81) (hc:c<81) (h:onW dx dy a c=true) (i:Nat):(qAL (only c) (qA4 dx dy a) i && !only c i)=(btw a c).contains i:=by
 obtain⟨hl,rfl,rfl⟩:=of_decide_eq_true h
 have:=qJb ⟨a,ha⟩ ⟨c,hc⟩
 simp only[qH9,Bool.or_eq_true,decide_eq_true_eq,Bool.and_eq_true,beq_iff_eq,Bool.not_eq_true'] at this
 obtain⟨e1,e2,e3⟩:=this.resolve_left hl
 have hsp:qA4 (sgn (df a c)) (sgn (dr a c)) a=btw a c++c :: (qA4 (sgn (df a c)) (sgn (dr a c)) a).drop ((btw a c).length+1):=by
  have:=qLV e2
  rw[e1] at this
  exact this
 have hn:c ∉ btw a c:=by simpa using e3
 rw[hsp,qcA (only c) (by unfold only;simp) _ _ (fun s hs=>by
  unfold only
  rw[decide_eq_false_iff_not]
  intro e
  have:s=c:=by omega
  exact hn (this ▸ hs))]
 unfold only
 by_cases hi:i=c
 ·subst hi
  rw[e3];simp
 ·rw[decide_eq_false hi,decide_eq_false (p:=(i:Int)=c) (by omega)];simp
theorem qin {dx dy:Int} (h1:-1<=dx) (h2:dx<=1) (h3:-1<=dy) (h4:dy<=1) (hne:¬ (dx=0 /\ dy=0)) {a c:Nat} (ha:a<81) (hc:c<81):qAL (only c) (qA4 dx dy a) c=onW dx dy a c:=by
 rw[qcC h1 h2 h3 h4 hne ha hc]
 cases h:onW dx dy a c with
 | false=>rfl
 | true=>
   rw[Bool.true_and,qGQ]
   intro s hs
   unfold only
   rw[decide_eq_false_iff_not]
   intro e
   have hsc:s=c:=by omega
   obtain⟨hl,_,_⟩:=of_decide_eq_true h
   have:=qJb ⟨a,ha⟩ ⟨c,hc⟩
   simp only[qH9,Bool.or_eq_true,decide_eq_true_eq,Bool.and_eq_true,beq_iff_eq,Bool.not_eq_true'] at this
   have:=(this.resolve_left hl).2.2
   rw[<- hsc] at this
   have h2:(btw a s).contains s=true:=List.contains_iff_mem.mpr (hsc ▸ hs)
   rw[this] at h2
   cases h2
def qAb:List (List Int):=[[-1,-1],[1,-1],[-1,1],[1,1],[0,-1],[-1,0],[1,0],[0,1]]
theorem qcw {a c:Nat}:(qAb.any fun r=>onW (dx_ r) (dy_ r) a c)=decide (qu a c≠0):=by
 unfold qAb onW dx_ dy_
 by_cases h:qu a c=0
 ·simp[h]
 ·have hl:=(qJ9 a c).mp h
  have hx:sgn (df a c) = -1 \/ sgn (df a c)=0 \/ sgn (df a c)=1:=by unfold sgn;split<;>(try split)<;>omega
  have hy:sgn (dr a c) = -1 \/ sgn (dr a c)=0 \/ sgn (dr a c)=1:=by unfold sgn;split<;>(try split)<;>omega
  have hn:¬ (sgn (df a c)=0 /\ sgn (dr a c)=0):=by
   unfold qDe at hl
   unfold sgn
   split<;>split<;>(try split)<;>(try split)<;>omega
  rcases hx with hx | hx | hx<;>rcases hy with hy | hy | hy<;>simp[hx,hy,h] at hn ⊢
theorem qdb {a c:Nat} (ha:a<81) (hc:c<81) (N:Nat):∀ (n i:Nat),i+n=8->∀ F,
  qEU (F+n+1) a c 8 8 i 0 0 N qAb=some (if (qAb.drop i).any (fun r=>onW (dx_ r) (dy_ r) a c) then .inl (sLo (fun i=>(btw a c).contains i),sHi (fun i=>(btw a c).contains i)) else .inr (0,0)):=by
 intro n
 induction n with
 | zero=>
   intro i hi F
   show qG1 (qEU (F+0)) _ _ _ _ _ _ _ _ _=_
   unfold qG1
   rw[qd (by omega),List.drop_eq_nil_of_le (by show 8<=i;omega)]
   rfl
 | succ n ih=>
   intro i hi F
   show qG1 (qEU (F+n+1)) _ _ _ _ _ _ _ _ _=_
   unfold qG1
   obtain⟨r,hget,hdr,e1,e2,g1,g2,g3,g4,g5⟩:∃ r,qAb.getD i []=r /\ qAb.drop i=r :: qAb.drop (i+1) /\ List.headD (List.take 2 r) 0=dx_ r /\ List.headD (List.tail (List.take 2 r)) 0=dy_ r /\ -1<=dx_ r /\ dx_ r<=1 /\ -1<=dy_ r /\ dy_ r<=1 /\ ¬ (dx_ r=0 /\ dy_ r=0):=by
    have:∀ j:Fin 8,qAb.drop j.val=qAb.getD j.val [] :: qAb.drop (j.val+1) /\ List.headD (List.take 2 (qAb.getD j.val [])) 0=dx_ (qAb.getD j.val []) /\ List.headD (List.tail (List.take 2 (qAb.getD j.val []))) 0=dy_ (qAb.getD j.val []) /\ -1<=dx_ (qAb.getD j.val []) /\ dx_ (qAb.getD j.val [])<=1 /\ -1<=dy_ (qAb.getD j.val []) /\ dy_ (qAb.getD j.val [])<=1 /\ ¬ (dx_ (qAb.getD j.val [])=0 /\ dy_ (qAb.getD j.val [])=0):=by decide
    exact⟨_,rfl,this ⟨i,by omega⟩⟩
   have ho:ofL [(c:Int)]=only c:=by
    funext j;unfold ofL;simp
   have hof:qHZ 1 1 [(c:Int)]=some (sLo (only c),sHi (only c)):=by
    have:=qh9 [(c:Int)] (by simp) 1
    rw[ho] at this
    exact this
   have hh:∀ g:Nat->Bool,has g (c:Int)=g c:=by
    intro g;unfold has;rw[decide_eq_true (by omega),decide_eq_true (by omega),tn];rfl
   rw[qi (by omega),qn (by omega) (by omega),tn,hget,e1,e2,hof,qA]
   simp only
   rw[qcf g1 g2 g3 g4 g5 ha,qA]
   simp only
   rw[qDb,qA,hh,qin g1 g2 g3 g4 g5 ha hc,hdr,List.any_cons]
   cases hon:onW (dx_ r) (dy_ r) a c with
   | true=>
     rw[b_t,qJF,qA,Bool.true_or,if_pos rfl]
     have:(fun i=>qAL (only c) (qA4 (dx_ r) (dy_ r) a) i && !only c i)=fun i=>(btw a c).contains i:=by
      funext j;exact qim ha hc hon j
     rw[this]
   | false=>
     rw[b_f,Bool.false_or,w_s (n:=(i:Int)+1) (by omega) (by omega)]
     exact ih (i+1) (by omega) F
theorem qWU {a c:Nat} (ha:a<81) (hc:c<81):qG0 a c=some (sLo (fun i=>(btw a c).contains i),sHi (fun i=>(btw a c).contains i)):=by
 unfold qG0
 rw[qOb,qA]
 simp only
 rw[qOb,qA]
 simp only
 obtain⟨g,hg⟩:=qk 8 (by omega)
 have:=qdb ha hc ((qAJ 6).length+(qAJ 7).length) 8 0 (by omega) g
 rw[<- hg,List.drop_zero,qcw] at this
 have e8:(qAJ 6).length+(qAJ 7).length=8:=by decide
 have eL:List.append (List.take (qAJ 6).length (qAJ 6)) (List.take (qAJ 7).length (qAJ 7))=qAb:=by decide
 rw[eL,e8] at *
 rw[qQ (by decide),show qEU qC a c 8 (Int.ofNat 8) 0 0 0 8 qAb=_ from this,qA]
 by_cases h:qu a c=0
 ·rw[decide_eq_false (p:=qu a c≠0) (by simpa using h),if_neg (by simp),qBs]
  have:btw a c=[]:=by unfold btw;rw[if_pos h]
  rw[this]
  simp only[List.contains_nil]
  rw[qBZ,qBY]
 ·rw[decide_eq_true (p:=qu a c≠0) h,if_pos rfl,qLc]
end Go.Kk.Pl
namespace Go.Kk.Pl
theorem qPo (k:Int):qDm k=some (up_ k):=by
 unfold qDm up_
 by_cases h1:k >= 1
 ·rw[qCZ h1]
  by_cases h7:k<=7
  ·rw[qJP h7]
   by_cases h5:k=5
   ·rw[q9 h5];simp[h5]
   ·rw[q7 h5,w_s (by omega) (by omega),if_pos (by omega)]
  ·rw[qJQ h7,if_neg (by omega)]
 ·rw[qCB h1,if_neg (by omega)]
def qAX (s q:Int):Int:=if 0<=q /\ q<81 then qCT s q.toNat else -1
theorem qPn {s:Int} (hs:s = -1 \/ s=0 \/ s=1) (q:Int):qCm s q=some (qAX s q):=by
 unfold qAX
 by_cases h:0<=q /\ q<81
 ·rw[if_pos h]
  have:=qZD hs (q:=q.toNat) (by omega)
  rwa [show ((q.toNat:Nat):Int)=q by omega] at this
 ·rw[if_neg h]
  unfold qCm
  by_cases h0:q<0
  ·rw[qi h0]
  ·rw[qd h0,qCP (by omega)]
theorem qoM {s:Int} (hs:s = -1 \/ s=0 \/ s=1) (q:Int):qEx s q=some (qAX s q):=by
 unfold qAX
 by_cases h:0<=q /\ q<81
 ·rw[if_pos h]
  have:=qbA hs (q:=q.toNat) (by omega)
  rwa [show ((q.toNat:Nat):Int)=q by omega] at this
 ·rw[if_neg h]
  unfold qEx
  by_cases h0:q<0
  ·rw[qi h0]
  ·rw[qd h0,qCZ (by omega)]
def qC0 (x q:Int):Bool:=decide (((kd x=1 \/ kd x=2) /\ qAX (sd x) q=0) \/ (kd x=3 /\ (qAX (sd x) q=0 \/ qAX (sd x) q=1)))
theorem qMf (x:Int) {q:Nat} (hq:q<81):qC0 x q=qBR x q:=by
 unfold qC0 qBR qAX
 rw[if_pos (by omega),tn]
theorem qa8 (x q:Int):qDw x q=some (qC0 x q):=by
 unfold qDw
 rw[qHg,qA,qoM (qFg x),qA,qFN,qA]
 unfold qC0
 generalize kd x=k
 generalize qAX (sd x) q=n
 simp only[qH2,beq_iff_eq]
 repeat' split
 all_goals first
  | (rw[Option.some.injEq,Bool.eq_iff_iff];simp;omega)
  | (simp;omega)
theorem qZC (x q:Int):qCl x q=some (qC0 x q):=by
 unfold qCl
 rw[qDp,qA,qPn (qFg x),qA,qBn,qA]
 unfold qC0
 generalize kd x=k
 generalize qAX (sd x) q=n
 simp only[qH2,beq_iff_eq]
 repeat' split
 all_goals first
  | (rw[Option.some.injEq,Bool.eq_iff_iff];simp;omega)
  | (simp;omega)
def qHr (s:Int) (i:Nat):Bool:=decide (0<=qCT s i /\ qCT s i<=2)
theorem qRZ:∀ s:Fin 3,qI5 ((s.val:Int) - 1)=some (sLo (qHr ((s.val:Int) - 1)),sHi (qHr ((s.val:Int) - 1))):=by decide +kernel
theorem qpv (x:Int):qI5 (sd x)=some (sLo (qHr (sd x)),sHi (qHr (sd x))):=by
 rcases qFg x with h | h | h<;>rw[h]
 ·exact qRZ 0
 ·exact qRZ 1
 ·exact qRZ 2
def inZ (s q:Int):Bool:=decide (0<=qAX s q /\ qAX s q<=2)
theorem qUM (s q:Int):has (qHr s) q=inZ s q:=by
 unfold has inZ qAX qHr
 by_cases h:0<=q /\ q<81
 ·rw[if_pos h,decide_eq_true h.1,decide_eq_true h.2,Bool.true_and,Bool.true_and]
 ·rw[if_neg h]
  by_cases h0:0<=q
  ·rw[decide_eq_false (p:=q<81) (by omega)];simp
  ·rw[decide_eq_false h0];simp
def qCV (x f t:Int):Bool:=decide (up_ (kd x)≠0)&&(inZ (sd x) f||inZ (sd x) t)
def qCh (x t:Int):Bool:=decide (up_ (kd x)≠0)&&qC0 x t
theorem qjQ (x f t:Int):qIM x f t=some (qCV x f t,qCh x t):=by
 unfold qIM qCV qCh
 rw[qFN,qA,qpQ,qA]
 by_cases hu:up_ (kd x)=0
 ·rw[qm hu,decide_eq_false (by simpa using hu)];rfl
 ·rw[ql hu,qHg,qA,qpv,qA]
  simp only
  rw[qDb,qA,qUM,decide_eq_true hu]
  cases inZ (sd x) f with
  | true=>rw[b_t,qa8,qA];rfl
  | false=>rw[b_f,qDb,qA,qUM,qa8,qA];rfl
theorem ql4 (x f t:Int):qIn x f t=some (qCV x f t):=by
 unfold qIn qCV
 rw[qBn,qA,qPo,qA]
 by_cases hu:up_ (kd x)=0
 ·rw[qm hu,decide_eq_false (by simpa using hu)];rfl
 ·rw[ql hu,qDp,qA,qPn (qFg x),qA,qA,qPn (qFg x),qA,decide_eq_true hu,Bool.true_and]
  unfold inZ
  by_cases h1:qAX (sd x) f >= 0
  ·rw[qCZ h1]
   by_cases h2:qAX (sd x) f<=2
   ·rw[qJP h2,decide_eq_true (p:=0<=qAX (sd x) f /\ qAX (sd x) f<=2) (by omega)];rfl
   ·rw[qJQ h2,decide_eq_false (p:=0<=qAX (sd x) f /\ qAX (sd x) f<=2) (by omega),Bool.false_or]
    by_cases h3:qAX (sd x) t >= 0
    ·rw[qCZ h3];congr 1;rw[decide_eq_decide];omega
    ·rw[qCB h3,decide_eq_false (by omega)]
  ·rw[qCB h1,decide_eq_false (p:=0<=qAX (sd x) f /\ qAX (sd x) f<=2) (by omega),Bool.false_or]
   by_cases h3:qAX (sd x) t >= 0
   ·rw[qCZ h3];congr 1;rw[decide_eq_decide];omega
   ·rw[qCB h3,decide_eq_false (by omega)]
theorem ql5 (x t:Int):qIo x t=some (qCh x t):=by
 unfold qIo qCh
 rw[qBn,qA,qPo,qA]
 by_cases hu:up_ (kd x)=0
 ·rw[q9 hu,decide_eq_false (by simpa using hu)];rfl
 ·rw[q7 hu,qZC,qA,decide_eq_true hu];rfl
def qCz (f t d:Int) (p:Bool):Int:=if ¬ (0<=t /\ t<81) then 1 else if d≠0 then (if 1<=d /\ d<=7 /\ f=0 /\ p=false then 0 else 70) else if ¬ (0<=f /\ f<81) then 1 else if f=t then 70 else 0
theorem ql3 (f t d:Int) (p:Bool):qIj f t d p=some (qCz f t d p):=by
 unfold qIj qCz
 by_cases h1:t<0
 ·rw[qi h1,if_pos (by omega)]
 rw[qd h1]
 by_cases h2:t>80
 ·rw[qCP h2,if_pos (by omega)]
 rw[qCC h2,if_neg (by omega)]
 by_cases hd:d=0
 ·rw[q9 hd,if_neg (by simpa using hd)]
  by_cases h3:f<0
  ·rw[qi h3,if_pos (by omega)]
  rw[qd h3]
  by_cases h4:f>80
  ·rw[qCP h4,if_pos (by omega)]
  rw[qCC h4,if_neg (by omega)]
  by_cases h5:f=t
  ·rw[qm h5,if_pos h5]
  ·rw[ql h5,if_neg h5]
 ·rw[q7 hd,if_pos hd]
  by_cases h3:d<1
  ·rw[qi h3,if_neg (by omega)]
  rw[qd h3]
  by_cases h4:d>7
  ·rw[qCP h4,if_neg (by omega)]
  rw[qCC h4]
  by_cases h5:f=0
  ·rw[q9 h5]
   cases p with
   | true=>rw[b_t,if_neg (by simp)]
   | false=>rw[b_f,if_pos ⟨by omega,by omega,h5,rfl⟩]
  ·rw[q7 h5,if_neg (by omega)]
def qCx (b h:List Int) (s f t d:Int) (p:Bool):Bool:=decide (qCz f t d p=0)&&(decide (s=0 \/ s=1) &&
 if d≠0 then decide (0<hd_ h s d)&&decide (at_ b t=0)
 else decide (sd (at_ b f)=s /\ sd (at_ b t)≠s /\ kd (at_ b t)≠8)&&(!p||decide (up_ (kd (at_ b f))≠0)))
theorem qMX {f t d:Int} {p:Bool} (h:qCz f t d p=0):(0<=t /\ t<81) /\ (d≠0->1<=d /\ d<=7 /\ f=0 /\ p=false) /\ (d=0->(0<=f /\ f<81) /\ f≠t):=by
 unfold qCz at h
 split at h
 ·omega
 ·rename_i ht
  split at h
  ·rename_i hd
   split at h
   ·rename_i h2;exact⟨by omega,fun _=>h2,fun h3=>absurd h3 hd⟩
   ·omega
  ·rename_i hd
   split at h
   ·omega
   ·split at h
    ·omega
    ·exact⟨by omega,fun h3=>absurd h3 hd,fun _=>⟨by omega,by omega⟩⟩
theorem qAU {b:List Int} {q:Int} (h:0<=q /\ q<81):at_ b q=b.getD q.toNat 0:=by unfold at_;rw[if_pos h]
theorem qly (b h:List Int) (s f t d:Int) (p:Bool):qIl b h s f t d p=some (qCx b h s f t d p):=by
 unfold qIl qCx
 rw[ql3,qA]
 by_cases hm:qCz f t d p=0
 ·obtain ⟨ht,hdr,hmv⟩:=qMX hm
  rw[q9 hm,decide_eq_true hm,Bool.true_and]
  have main:(s=0 \/ s=1)->(br (inB t 81)
   (br (d != 0)
    (br (inB s 2)
     (br (inB d 8)
      (br (decide (List.getD h (Int.toNat s*8+Int.toNat d) 0>0))
       (some (conv IntKind.i8 IntKind.i64 (List.getD b (Int.toNat t) 0)==0))
       (some (false)))
      (none))
     (none))
    (br (inB f 81)
     (ob (qA0 (conv IntKind.i8 IntKind.i64 (List.getD b (Int.toNat f) 0))) fun a8=>
     br (a8 != s)
      (some (false))
      (ob (qA0 (conv IntKind.i8 IntKind.i64 (List.getD b (Int.toNat t) 0))) fun a9=>
      br (a9==s)
       (some (false))
       (ob (qAK (conv IntKind.i8 IntKind.i64 (List.getD b (Int.toNat t) 0))) fun a10=>
       br (a10==8)
        (some (false))
        (br (!p)
         (some (true))
         (ob (qAK (conv IntKind.i8 IntKind.i64 (List.getD b (Int.toNat f) 0))) fun a11=>
         ob (qDm a11) fun a12=>
         some (a12 != 0))))))
     (none)))
   (none):Option Bool)=some (if d≠0 then decide (0<hd_ h s d)&&decide (at_ b t=0)
    else decide (sd (at_ b f)=s /\ sd (at_ b t)≠s /\ kd (at_ b t)≠8)&&(!p||decide (up_ (kd (at_ b f))≠0))):=by
   intro hs
   rw[qn ht.1 (by omega)]
   by_cases hd:d=0
   ·obtain⟨hf,_⟩:=hmv hd
    rw[q9 hd,if_neg (by simpa using hd),qn hf.1 (by omega),c_8,c_8,qDp,qA,<- qAU hf,<- qAU ht]
    by_cases h1:sd (at_ b f)=s
    ·rw[q9 h1,qDp,qA]
     by_cases h2:sd (at_ b t)=s
     ·rw[qm h2,decide_eq_false (by omega)];rfl
     ·rw [ql h2,qBn,qA]
      by_cases h3:kd (at_ b t)=8
      ·rw[qm h3,decide_eq_false (by omega)];rfl
      ·rw[ql h3,decide_eq_true (by omega),Bool.true_and]
       cases p with
       | false=>rfl
       | true=>
         rw[Bool.not_true,b_f,qBn,qA,qPo,qA,Bool.false_or]
         congr 1
         rw[Bool.eq_iff_iff];simp
    ·rw[q7 h1,decide_eq_false (by omega)];rfl
   ·obtain⟨d1,d7,_,_⟩:=hdr hd
    rw[q7 hd,if_pos hd,qn (by omega) (by omega),qn (by omega) (by omega),c_8,<- qAU ht]
    show br (decide (hd_ h s d>0)) _ _=_
    by_cases h1:hd_ h s d>0
    ·rw[qCP h1,decide_eq_true (p:=0<hd_ h s d) h1,Bool.true_and]
     congr 1
    ·rw[qCC h1,decide_eq_false (p:=0<hd_ h s d) h1,Bool.false_and]
  by_cases h0:s=0
  ·rw[q9 h0,decide_eq_true (p:=s=0 \/ s=1) (.inl h0),Bool.true_and];exact main (.inl h0)
  ·rw[q7 h0]
   by_cases h1:s=1
   ·rw[q9 h1,decide_eq_true (p:=s=0 \/ s=1) (.inr h1),Bool.true_and];exact main (.inr h1)
   ·rw[q7 h1,decide_eq_false (p:=s=0 \/ s=1) (by omega),Bool.false_and]
 ·rw[q7 hm,decide_eq_false hm,Bool.false_and]
def qAG (b h:List Int) (s f t d:Int) (p:Bool):Bool:=qCx b h s f t d p &&
 if d≠0 then !qC0 (16*s+d) t&&(decide (d≠1)||decide (nF b (16*s+d) (t.toNat / 9)=0))
 else rch (at_ b f) f.toNat t.toNat (tk b)&&if p=true then qCV (at_ b f) f t else !qCh (at_ b f) t
theorem qKz (b h:List Int) (s f t d:Int) (p:Bool):qEi b h s f t d p=some (qAG b h s f t d p):=by
 unfold qEi qAG
 rw[qly,qA]
 cases hcan:qCx b h s f t d p with
 | false=>rfl
 | true=>
   rw[Bool.not_true,b_f,Bool.true_and]
   unfold qCx at hcan
   simp only[Bool.and_eq_true,decide_eq_true_eq] at hcan
   obtain⟨hm,hs,_⟩:=hcan
   obtain⟨ht,hdr,hmv⟩:=qMX hm
   by_cases hd:d=0
   ·obtain⟨hf,_⟩:=hmv hd
    rw[q9 hd,if_neg (by simpa using hd),qn hf.1 (by omega),c_8,qRD,qA,<- qAU hf]
    have:=qOc b (at_ b f) (a:=f.toNat) (c:=t.toNat) (by omega) (by omega)
    rw[show ((f.toNat:Nat):Int)=f by omega,show ((t.toNat:Nat):Int)=t by omega] at this
    rw[this,qA]
    cases rch (at_ b f) f.toNat t.toNat (tk b) with
    | false=>rfl
    | true=>
      rw[Bool.not_true,b_f,Bool.true_and]
      cases p with
      | true=>rw[b_t,ql4,qA,if_pos rfl]
      | false=>rw[b_f,ql5,qA,if_neg (by simp)]
   ·obtain⟨d1,d7,_,_⟩:=hdr hd
    rw[q7 hd,if_pos hd,w_s (n:=16*s) (by omega) (by omega),w_s (n:=16*s+d) (by omega) (by omega),qZC,qA]
    cases qC0 (16*s+d) t with
    | true=>rfl
    | false=>
      rw[Bool.not_false,b_t,Bool.true_and]
      by_cases h1:d=1
      ·have htd:Int.tdiv t 9=((t.toNat / 9:Nat):Int):=by rw[Int.tdiv_eq_ediv_of_nonneg ht.1];omega
       rw[q9 h1,htd,w_s (n:=((t.toNat / 9:Nat):Int)) (by omega) (by omega),qKP b h s (16*s+d) (t.toNat / 9) (by omega),qA,decide_eq_false (p:=d≠1) (by simpa using h1),Bool.false_or]
       congr 1
       rw[Bool.eq_iff_iff];simp
      ·rw[q7 h1,decide_eq_true (p:=d≠1) h1,Bool.true_or]
theorem qJL:qFi=some (sLo fun _=>true,sHi fun _=>true):=by decide +kernel
theorem qh4 (f:Nat->Bool):qIz (sLo f) (sHi f)=some (sLo fun i=>!f i,sHi fun i=>!f i):=by
 unfold qIz
 rw[qJL,qA]
 simp only
 rw[qKE,qA]
 simp only[Bool.true_and]
def qAw (b:List Int) (s k:Int) (i:Nat):Bool:=!qBR (pc s k) i&&(decide (k≠1)||decide (nF b (pc s 1) (i / 9)=0))
theorem qMb (f:Nat->Bool):isE f=decide (qAl f=0):=by
 unfold isE qAl
 rw[Bool.eq_iff_iff,decide_eq_true_eq,List.countP_eq_zero,List.all_eq_true]
 simp
theorem qfm {b:List Int} (h:List Int) (S:Int) (sd':List (List Int)) {s k:Int} (hs:s=0 \/ s=1) (L:List Int) (hL:∀ q∈L,0<=q /\ q<81) (hl:L.length<=1000) (N:Nat) (u v:Int):∀ (n i:Nat),i+n=L.length->∀ (f:Nat->Bool) (F:Nat),
  qC3 (F+n+1) s k (pc s k) L.length L.length i b h S (qU b) sd' u v (sLo f) (sHi f) N L=some (b,h,S,qU b,sd',u,v,sLo fun c=>f c||((L.drop i).any fun q=>decide ((c:Int)=q)&&qAw b s k c),sHi fun c=>f c||((L.drop i).any fun q=>decide ((c:Int)=q)&&qAw b s k c)):=by
 intro n
 induction n with
 | zero=>
   intro i hi f F
   show qGY (qC3 (F+0)) _ _ _ _ _ _ _ _ _ _ _ _ _ _ _ _ _=_
   unfold qGY
   rw[qd (by omega),List.drop_eq_nil_of_le (by omega)]
   simp
 | succ n ih=>
   intro i hi f F
   show qGY (qC3 (F+n+1)) _ _ _ _ _ _ _ _ _ _ _ _ _ _ _ _ _=_
   unfold qGY
   have hil:i<L.length:=by omega
   obtain⟨q0,q1⟩:=hL L[i] (List.getElem_mem hil)
   have hget:L.getD i 0=L[i]:=qF2 hil
   obtain⟨q,hq⟩:∃ q:Nat,L[i]=q:=⟨L[i].toNat,by omega⟩
   have hd:L.drop i=L[i] :: L.drop (i+1):=List.drop_eq_getElem_cons hil
   rw[qi (by omega),qn (by omega) (by omega),tn,hget,hq,qoL _ (by omega),qA,w_s (n:=(i:Int)+1) (by omega) (by omega)]
   have skip:qAw b s k q=false->qC3 (F+n+1) s k (pc s k) L.length L.length ((i:Int)+1) b h S (qU b) sd' u v (sLo f) (sHi f) N L =
     some (b,h,S,qU b,sd',u,v,sLo fun c=>f c||((L.drop i).any fun q=>decide ((c:Int)=q)&&qAw b s k c),sHi fun c=>f c||((L.drop i).any fun q=>decide ((c:Int)=q)&&qAw b s k c)):=by
    intro hf
    refine (ih (i+1) (by omega) f F).trans ?_
    have:(fun c=>f c||((L.drop (i+1)).any fun q=>decide ((c:Int)=q)&&qAw b s k c))=fun c=>f c||((L.drop i).any fun q=>decide ((c:Int)=q)&&qAw b s k c):=by
     funext c
     rw[hd,List.any_cons,hq]
     by_cases hcq:(c:Int)=q
     ·have:c=q:=by omega
      subst this
      rw[hf];simp
     ·rw[decide_eq_false hcq];simp
    rw[this]
   have take:qAw b s k q=true->(ob (qA1 (sLo f) (sHi f) q) fun z=>qC3 (F+n+1) s k (pc s k) L.length L.length ((i:Int)+1) b h S (qU b) sd' u v z.1 z.2 N L) =
     some (b,h,S,qU b,sd',u,v,sLo fun c=>f c||((L.drop i).any fun q=>decide ((c:Int)=q)&&qAw b s k c),sHi fun c=>f c||((L.drop i).any fun q=>decide ((c:Int)=q)&&qAw b s k c)):=by
    intro hf
    rw[qFx,qA]
    simp only
    refine (ih (i+1) (by omega) _ F).trans ?_
    have:(fun c=>(f c||only q c)||((L.drop (i+1)).any fun q=>decide ((c:Int)=q)&&qAw b s k c))=fun c=>f c||((L.drop i).any fun q=>decide ((c:Int)=q)&&qAw b s k c):=by
     funext c
     rw[hd,List.any_cons,hq,Bool.or_assoc]
     congr 2
     unfold only
     by_cases hcq:(c:Int)=q
     ·have:c=q:=by omega
      subst this
      rw[hf];simp
     ·rw[decide_eq_false hcq];simp
    rw[this]
   cases hdead:qBR (pc s k) q with
   | true=>rw[b_t];exact skip (by unfold qAw;rw[hdead];rfl)
   | false=>
     rw[b_f]
     by_cases hk:k=1
     ·rw[qm hk,qGs,qA]
      simp only
      unfold qFk
      rw[qHo,w_s (by unfold fl;omega) (by unfold fl;omega),qA,show fl q=((q / 9:Nat):Int) from rfl,qgL (by omega),qA]
      simp only
      rw[qE2,qA]
      simp only
      rw[qJi,qA,qMb,qem b (by rw[qAu hs (by omega) (by omega) (by omega)];omega) (by omega)]
      by_cases hn:nF b (pc s 1) (q / 9)=0
      ·rw[decide_eq_true hn,Bool.not_true,b_f]
       exact take (by unfold qAw;rw[hdead,decide_eq_true hn];simp)
      ·rw[decide_eq_false hn,Bool.not_false,b_t]
       exact skip (by unfold qAw;rw[hdead,decide_eq_false hn,decide_eq_false (p:=k≠1) (by simpa using hk)];rfl)
     ·rw[ql hk]
      exact take (by unfold qAw;rw[hdead,decide_eq_true (p:=k≠1) hk];rfl)
def qAm (b:List Int) (s k:Int) (i:Nat):Bool:=decide ((s=0 \/ s=1) /\ 1<=k /\ k<=7)&&(!tk b i&&qAw b s k i)
theorem qfi {b:List Int} (hc:Clean b) (h:List Int) (S s k:Int):qIL s k b h S (qU b) (qZ b)=some (sLo (qAm b s k),sHi (qAm b s k)):=by
 have none:¬ ((s=0 \/ s=1) /\ 1<=k /\ k<=7)->qAm b s k=fun _=>false:=by
  intro hn;funext c;unfold qAm;rw[decide_eq_false hn,Bool.false_and]
 unfold qIL
 rw[qKL,qA]
 by_cases hz:pc s k=0
 ·have:¬ ((s=0 \/ s=1) /\ 1<=k /\ k<=7):=by
   rintro ⟨hs,h1,h7⟩
   rw[qAu hs h1 (by omega) (by omega)] at hz
   omega
  rw[qm hz,none this,qBZ,qBY]
 ·rw [ql hz]
  have hv:(s=0 \/ s=1) /\ 1<=k /\ k<=15 /\ k≠13:=by
   unfold pc at hz
   split at hz
   ·rename_i h;exact h
   ·exact absurd rfl hz
  by_cases h8:k >= 8
  ·rw[qCZ h8,none (by omega),qBZ,qBY]
  ·rw[qCB h8,qI9 hc,qA]
   simp only
   rw[qh4,qA]
   simp only
   rw[qI3,qA]
   simp only
   have hlen:=qDv fun i=>!tk b i
   obtain⟨g,hg⟩:=qk (sq fun i=>!tk b i).length (by omega)
   have:=qfm (b:=b) h S (qZ b) (k:=k) hv.1 (sq fun i=>!tk b i) (fun q hq=>⟨(qFp hq).1,(qFp hq).2.1⟩) (by omega) (sq fun i=>!tk b i).length 0 0 (sq fun i=>!tk b i).length 0 (by omega) (fun _=>false) g
   rw[<- hg,qBZ,qBY] at this
   rw[show qC3 qC s k (pc s k) (sq fun i=>!tk b i).length (Int.ofNat (sq fun i=>!tk b i).length) 0 b h S (qU b) (qZ b) 0 0 0 0 (sq fun i=>!tk b i).length (sq fun i=>!tk b i)=_ from this,qA]
   simp only[Bool.false_or,List.drop_zero]
   obtain⟨e1,e2⟩:=qBq (f:=fun c=>(sq fun i=>!tk b i).any fun q=>decide ((c:Int)=q)&&qAw b s k c) (g:=qAm b s k) fun c hcc=>by
    unfold qAm
    rw[decide_eq_true (p:=(s=0 \/ s=1) /\ 1<=k /\ k<=7) ⟨hv.1,hv.2.1,by omega⟩,Bool.true_and,Bool.eq_iff_iff,List.any_eq_true,Bool.and_eq_true]
    constructor
    ·rintro ⟨q,hq,hh⟩
     rw[Bool.and_eq_true,decide_eq_true_eq] at hh
     have:=(qFp hq).2.2
     rw[<- hh.1,tn] at this
     exact⟨this,hh.2⟩
    ·rintro ⟨h1,h2⟩
     exact⟨c,qVW hcc h1,by rw[h2];simp⟩
   rw[e1,e2]
end Go.Kk.Pl
namespace Go.Kk.Pl
end Go.Kk.Pl
namespace Go.Kk.Pl
theorem qCa {α:Type} {x y:α} {a b:Nat} (h:a<=b):br (decide (a<=b)) x y=x:=qQ (by simpa using h)
theorem tkA {α:Type} {n:Nat} {L:List α} (h:n=L.length) (M:List α):List.append (List.take n L) M=L++M:=by
 subst h;rw[List.take_length];rfl
theorem qb5 {α:Type} {n:Nat} {L:List α} {m:α} (h:n=L.length) (M:List α):List.append (List.take (n+1) (L++[m])) M=L++m :: M:=by
 rw[tkA (by simp[h])];simp
def qAB (x f t:Int):List (List Int):=(if qCh x t then [] else [[f,t,0,0]])++(if qCV x f t then [[f,t,0,1]] else [])
theorem qip (x f t:Int):(qAB x f t).length<=2:=by
 unfold qAB;split<;>split<;>simp
theorem qGO {α β:Type} (g:α->List β) (k:Nat) (L:List α) (h:∀ a∈L,(g a).length<=k):(L.flatMap g).length<=k*L.length:=by
 induction L with
 | nil=>simp
 | cons a L ih=>
   rw[List.flatMap_cons,List.length_append,List.length_cons,Nat.mul_succ]
   have:=h a (by simp)
   have:=ih fun x hx=>h x (by simp[hx])
   omega
theorem qpF (x f:Int) (T:List Int) (S:Int) (N1:Nat) (a5 a6:Int) (b h:List Int) (S':Int) (by' sd':List (List Int)) (u v k1 k2:Int) (N2:Nat) (L2:List Int) (N3:Nat) (hT:T.length<=1000):∀ (n i:Nat),i+n=T.length->∀ (L:List (List Int)) (x0 x17:Nat),x0=L.length->x17=L.length->L.length<=1000000 - 2*n->∀ F,
  qEG (F+n+1) x0 S f x N1 a5 a6 T.length T.length i b h S' by' sd' u v x17 L k1 k2 N2 L2 N3 T =
   some ((L++(T.drop i).flatMap (qAB x f)).length,S,N1,a5,a6,b,h,S',by',sd',u,v,(L++(T.drop i).flatMap (qAB x f)).length,L++(T.drop i).flatMap (qAB x f),k1,k2,N2,L2):=by
 intro n
 induction n with
 | zero=>
   intro i hi L x0 x17 h0 h17 hb F
   show qGU (qEG (F+0)) _ _ _ _ _ _ _ _ _ _ _ _ _ _ _ _ _ _ _ _ _ _ _ _ _=_
   unfold qGU
   rw[qd (by omega),List.drop_eq_nil_of_le (by omega)]
   simp only[List.flatMap_nil,List.append_nil,h0,h17]
 | succ n ih=>
   intro i hi L x0 x17 h0 h17 hb F
   show qGU (qEG (F+n+1)) _ _ _ _ _ _ _ _ _ _ _ _ _ _ _ _ _ _ _ _ _ _ _ _ _=_
   unfold qGU
   have hil:i<T.length:=by omega
   have hget:T.getD i 0=T[i]:=qF2 hil
   have hd:T.drop i=T[i] :: T.drop (i+1):=List.drop_eq_getElem_cons hil
   rw[qi (by omega),qn (by omega) (by omega),tn,hget,qjQ,qA]
   simp only
   rw[w_s (by omega) (by omega),hd,List.flatMap_cons,<- List.append_assoc]
   rw[tkA h0,tkA h0,qb5 h0]
   have hi1:i+1+n=T.length:=by omega
   have ih':=ih (i+1) hi1
   cases hm:qCh x T[i] with
   | false=>
     rw[Bool.not_false,b_t,qCa (by omega)]
     cases hy:qCV x f T[i] with
     | true=>
       rw[b_t,qCa (by omega)]
       have:=ih' (L++qAB x f T[i]) (x0+1+1) (x0+1+1) (by simp[qAB,hm,hy,h0]) (by simp[qAB,hm,hy,h0]) (by simp[qAB,hm,hy];omega) F
       rw[<- this]
       simp[qAB,hm,hy]
     | false=>
       rw[b_f]
       have:=ih' (L++qAB x f T[i]) (x0+1) (x0+1) (by simp[qAB,hm,hy,h0]) (by simp[qAB,hm,hy,h0]) (by simp[qAB,hm,hy];omega) F
       rw[<- this]
       simp[qAB,hm,hy]
   | true=>
     rw[Bool.not_true,b_f]
     cases hy:qCV x f T[i] with
     | true=>
       rw[b_t,qCa (by omega)]
       have:=ih' (L++qAB x f T[i]) (x0+1) (x0+1) (by simp[qAB,hm,hy,h0]) (by simp[qAB,hm,hy,h0]) (by simp[qAB,hm,hy];omega) F
       rw[<- this]
       simp[qAB,hm,hy]
     | false=>
       rw[b_f]
       have:=ih' (L++qAB x f T[i]) x0 x17 (by simp[qAB,hm,hy,h0]) (by simp[qAB,hm,hy,h17]) (by simp[qAB,hm,hy];omega) F
       rw[<- this]
       simp[qAB,hm,hy]
def kgs (b:List Int) (c:Nat):Bool:=pcs b (pc 0 8) c||pcs b (pc 1 8) c
def qBV (b:List Int) (S:Int) (G:Nat->Bool) (f:Nat) (c:Nat):Bool:=((rch (b.getD f 0) f c (tk b) && !sdP b S c) && !kgs b c)&&G c
def qCF (b:List Int) (S:Int) (G:Nat->Bool) (f:Int):List (List Int):=(sq (qBV b S G f.toNat)).flatMap (qAB (b.getD f.toNat 0) f)
def qr (b:List Int) (S:Int) (G:Nat->Bool):List (List Int):=(sq (sdP b S)).flatMap (qCF b S G)
theorem qVh (b:List Int) (S:Int) (G:Nat->Bool) (f:Int):(qCF b S G f).length<=162:=by
 unfold qCF
 have:=qGO (qAB (b.getD f.toNat 0) f) 2 (sq (qBV b S G f.toNat)) fun a _=>qip _ _ _
 have:=qDv (qBV b S G f.toNat)
 omega
theorem qeA {b:List Int} (hc:Clean b) (h:List Int) (S:Int) (G:Nat->Bool) (T:List Int) (hT:T.length<=1000) (hTr:∀ q∈T,0<=q /\ q<81) (N:Nat):∀ (n i:Nat),i+n=T.length->∀ (L:List (List Int)) (x0 x17:Nat),x0=L.length->x17=L.length->L.length<=900000 - 200*n->∀ F,
  qEF (F+n+1) x0 S T.length T.length i b h S (qU b) (qZ b) (sLo G) (sHi G) x17 L (sLo (kgs b)) (sHi (kgs b)) N T =
   some ((L++(T.drop i).flatMap (qCF b S G)).length,b,h,S,qU b,qZ b,(L++(T.drop i).flatMap (qCF b S G)).length,L++(T.drop i).flatMap (qCF b S G)):=by
 intro n
 induction n with
 | zero=>
   intro i hi L x0 x17 h0 h17 hb F
   show qGT (qEF (F+0)) _ _ _ _ _ _ _ _ _ _ _ _ _ _ _ _ _ _=_
   unfold qGT
   rw[qd (by omega),List.drop_eq_nil_of_le (by omega)]
   simp only[List.flatMap_nil,List.append_nil,h0,h17]
 | succ n ih=>
   intro i hi L x0 x17 h0 h17 hb F
   show qGT (qEF (F+n+1)) _ _ _ _ _ _ _ _ _ _ _ _ _ _ _ _ _ _=_
   unfold qGT
   have hil:i<T.length:=by omega
   have hget:T.getD i 0=T[i]:=qF2 hil
   have hd:T.drop i=T[i] :: T.drop (i+1):=List.drop_eq_getElem_cons hil
   obtain⟨q0,q1⟩:=hTr T[i] (List.getElem_mem hil)
   obtain⟨q,hq⟩:∃ q:Nat,T[i]=q:=⟨T[i].toNat,by omega⟩
   have hat:at_ b T[i]=b.getD q 0:=by rw[qAU ⟨q0,q1⟩,hq,tn]
   rw[qi (by omega),qn (by omega) (by omega),tn,hget,qLz,qA,qI9 hc,qA]
   simp only
   rw[hat,hq,qKc _ (by omega),qA]
   simp only
   rw[qOL,qA]
   simp only
   rw[qKE,qA]
   simp only
   rw[qKE,qA]
   simp only
   rw[qE2,qA]
   simp only
   rw[qI3,qA]
   simp only
   rw[show (fun i=>((rch (b.getD q 0) q i (tk b) && !sdP b S i) && !kgs b i)&&G i)=qBV b S G q from rfl]
   have hlen:=qDv (qBV b S G q)
   obtain⟨g,hg⟩:=qk (sq (qBV b S G q)).length (by omega)
   have:=qpF (b.getD q 0) q (sq (qBV b S G q)) S T.length T.length i b h S (qU b) (qZ b) (sLo G) (sHi G) (sLo (kgs b)) (sHi (kgs b)) N T (sq (qBV b S G q)).length (by omega) (sq (qBV b S G q)).length 0 (by omega) L x0 x17 h0 h17 (by omega) g
   rw[<- hg] at this
   rw[show qEG qC x0 S q (b.getD q 0) T.length T.length i (sq (qBV b S G q)).length (Int.ofNat (sq (qBV b S G q)).length) 0 b h S (qU b) (qZ b) (sLo G) (sHi G) x17 L (sLo (kgs b)) (sHi (kgs b)) N T (sq (qBV b S G q)).length (sq (qBV b S G q))=_ from this,qA]
   simp only
   have e:(List.drop 0 (sq (qBV b S G q))).flatMap (qAB (b.getD q 0) q)=qCF b S G T[i]:=by
    unfold qCF;rw[hq,tn,List.drop_zero]
   have hl2:=qVh b S G T[i]
   rw[e,w_s (by omega) (by omega),hd,List.flatMap_cons,<- List.append_assoc]
   exact ih (i+1) (by omega) (L++qCF b S G T[i]) _ _ rfl rfl (by rw[List.length_append];omega) F
theorem qTz {b:List Int} (hc:Clean b) (h:List Int) (S:Int) (G:Nat->Bool):qGR (sLo G) (sHi G) b h S (qU b) (qZ b)=some ((qr b S G).length,(qr b S G).length,qr b S G):=by
 unfold qGR
 rw[qGs,qA]
 simp only
 rw[qGs,qA]
 simp only
 rw[qGt,qA]
 simp only
 rw[qOL,qA]
 simp only
 rw[qI3,qA]
 simp only
 have hlen:=qDv (sdP b S)
 obtain⟨g,hg⟩:=qk (sq (sdP b S)).length (by omega)
 have:=qeA hc h S G (sq (sdP b S)) (by omega) (fun q hq=>⟨(qFp hq).1,(qFp hq).2.1⟩) (sq (sdP b S)).length (sq (sdP b S)).length 0 (by omega) [] 0 0 rfl rfl (by simp only[List.length_nil];omega) g
 rw[<- hg] at this
 rw[show qEF qC 0 S (sq (sdP b S)).length (Int.ofNat (sq (sdP b S)).length) 0 b h S (qU b) (qZ b) (sLo G) (sHi G) 0 [] (sLo fun i=>pcs b (pc 0 8) i||pcs b (pc 1 8) i) (sHi fun i=>pcs b (pc 0 8) i||pcs b (pc 1 8) i) (sq (sdP b S)).length (sq (sdP b S))=_ from this,qA]
 rfl
def qBX (b h:List Int) (S:Int) (G:Nat->Bool) (k:Nat):List (List Int):=if hdP h S k<1 then [] else (sq fun i=>qAm b S k i&&G i).map fun t=>[0,t,(k:Int),0]
def qAO (b h:List Int) (S:Int) (G:Nat->Bool):List (List Int):=(List.range' 1 7).flatMap (qBX b h S G)
theorem qVi (b h:List Int) (S:Int) (G:Nat->Bool) (k:Nat):(qBX b h S G k).length<=81:=by
 unfold qBX
 split
 ·simp
 ·rw[List.length_map];exact qDv _
theorem qpG (k:Int) (T:List Int) (S:Int) (b h:List Int) (S':Int) (by' sd':List (List Int)) (u v:Int) (N3:Nat) (hT:T.length<=1000):∀ (n i:Nat),i+n=T.length->∀ (L:List (List Int)) (x0 x17:Nat),x0=L.length->x17=L.length->L.length<=1000000 - 2*n->∀ F,
  qEI (F+n+1) x0 S k T.length T.length i b h S' by' sd' u v x17 L N3 T =
   some ((L++(T.drop i).map fun t=>[0,t,k,0]).length,S,k,b,h,S',by',sd',u,v,(L++(T.drop i).map fun t=>[0,t,k,0]).length,L++(T.drop i).map fun t=>[0,t,k,0]):=by
 intro n
 induction n with
 | zero=>
   intro i hi L x0 x17 h0 h17 hb F
   show qGX (qEI (F+0)) _ _ _ _ _ _ _ _ _ _ _ _ _ _ _ _ _=_
   unfold qGX
   rw[qd (by omega),List.drop_eq_nil_of_le (by omega)]
   simp only[List.map_nil,List.append_nil,h0,h17]
 | succ n ih=>
   intro i hi L x0 x17 h0 h17 hb F
   show qGX (qEI (F+n+1)) _ _ _ _ _ _ _ _ _ _ _ _ _ _ _ _ _=_
   unfold qGX
   have hil:i<T.length:=by omega
   have hget:T.getD i 0=T[i]:=qF2 hil
   have hd:T.drop i=T[i] :: T.drop (i+1):=List.drop_eq_getElem_cons hil
   rw[qi (by omega),qn (by omega) (by omega),tn,hget,qCa (by omega),tkA h0,w_s (by omega) (by omega),hd,List.map_cons]
   have:=ih (i+1) (by omega) (L++[[0,T[i],k,0]]) (x0+1) (x0+1) (by simp[h0]) (by simp[h0]) (by simp;omega) F
   rw[List.append_assoc] at this
   exact this
theorem qfK {b:List Int} (hc:Clean b) (h:List Int) (S:Int) (G:Nat->Bool):∀ (n k:Nat),k+n=8->∀ (L:List (List Int)) (x0 x17:Nat),x0=L.length->x17=L.length->L.length<=900000 - 200*n->∀ F,
  qEH (F+n+1) x0 S k b h S (qU b) (qZ b) (sLo G) (sHi G) x17 L =
   some ((L++(List.range' k n).flatMap (qBX b h S G)).length,b,h,S,qU b,qZ b,(L++(List.range' k n).flatMap (qBX b h S G)).length,L++(List.range' k n).flatMap (qBX b h S G)):=by
 intro n
 induction n with
 | zero=>
   intro k hk L x0 x17 h0 h17 hb F
   show qGW (qEH (F+0)) _ _ _ _ _ _ _ _ _ _ _ _=_
   unfold qGW
   rw[qd (by omega)]
   simp only[List.range'_zero,List.flatMap_nil,List.append_nil,h0,h17]
 | succ n ih=>
   intro k hk L x0 x17 h0 h17 hb F
   show qGW (qEH (F+n+1)) _ _ _ _ _ _ _ _ _ _ _ _=_
   unfold qGW
   have hl2:=qVi b h S G k
   rw[qi (by omega),qgH,qA,List.range'_succ,List.flatMap_cons,<- List.append_assoc]
   have ih':=ih (k+1) (by omega) (L++qBX b h S G k)
   by_cases h1:hdP h S k<1
   ·have e:qBX b h S G k=[]:=by unfold qBX;rw[if_pos h1]
    rw[qi h1,w_s (by omega) (by omega)]
    rw[e,List.append_nil] at ih' ⊢
    exact ih' x0 x17 h0 h17 (by omega) F
   ·have e:qBX b h S G k=(sq fun i=>qAm b S k i&&G i).map fun t=>[0,t,(k:Int),0]:=by unfold qBX;rw[if_neg h1]
    rw[qd h1,qfi hc,qA]
    simp only
    rw[qE2,qA]
    simp only
    rw[qI3,qA]
    simp only
    have hlen:=qDv fun i=>qAm b S k i&&G i
    obtain⟨g,hg⟩:=qk (sq fun i=>qAm b S k i&&G i).length (by omega)
    have:=qpG k (sq fun i=>qAm b S k i&&G i) S b h S (qU b) (qZ b) (sLo G) (sHi G) (sq fun i=>qAm b S k i&&G i).length (by omega) (sq fun i=>qAm b S k i&&G i).length 0 (by omega) L x0 x17 h0 h17 (by omega) g
    rw[<- hg] at this
    rw[show qEI qC x0 S k (sq fun i=>qAm b S k i&&G i).length (Int.ofNat (sq fun i=>qAm b S k i&&G i).length) 0 b h S (qU b) (qZ b) (sLo G) (sHi G) x17 L (sq fun i=>qAm b S k i&&G i).length (sq fun i=>qAm b S k i&&G i)=_ from this,qA]
    simp only
    rw[List.drop_zero,<- e,w_s (by omega) (by omega)]
    exact ih' _ _ rfl rfl (by rw[List.length_append];omega) F
theorem qfs {b:List Int} (hc:Clean b) (h:List Int) (S:Int) (G:Nat->Bool):qIK (sLo G) (sHi G) b h S (qU b) (qZ b)=some ((qAO b h S G).length,(qAO b h S G).length,qAO b h S G):=by
 unfold qIK
 obtain⟨g,hg⟩:=qk 7 (by omega)
 have:=qfK hc h S G 7 1 (by omega) [] 0 0 rfl rfl (by simp only[List.length_nil];omega) g
 rw[<- hg] at this
 rw[show qEH qC 0 S 1 b h S (qU b) (qZ b) (sLo G) (sHi G) 0 []=_ from this,qA]
 rfl
def mvs (b h:List Int) (S:Int):List (List Int):=qr b S (fun _=>true)++qAO b h S (fun _=>true)
theorem qN4 (b:List Int) (S:Int) (G:Nat->Bool):(qr b S G).length<=162*81:=by
 unfold qr
 have:=qGO (qCF b S G) 162 (sq (sdP b S)) fun a _=>qVh _ _ _ _
 have:=qDv (sdP b S)
 omega
theorem qVg (b h:List Int) (S:Int) (G:Nat->Bool):(qAO b h S G).length<=81*7:=by
 unfold qAO
 have:=qGO (qBX b h S G) 81 (List.range' 1 7) fun a _=>qVi _ _ _ _ _
 rw[List.length_range'] at this
 omega
end Go.Kk.Pl
namespace Go.Kk.Pl
def qAo (b h:List Int) (S:Int) (f t:Nat):List (List Int):=(if qAG b h S f t 0 false then [[(f:Int),(t:Int),0,0]] else [])++(if qAG b h S f t 0 true then [[(f:Int),(t:Int),0,1]] else [])
def rTo (b h:List Int) (S:Int) (f t:Nat):List (List Int):=if rch (b.getD f 0) f t (tk b) then qAo b h S f t else []
def qAz (b h:List Int) (S:Int) (f:Nat):List (List Int):=if sd (b.getD f 0)=S then (List.range' 0 81).flatMap (rTo b h S f) else []
def qB0 (b h:List Int) (S:Int) (k t:Nat):List (List Int):=if qAG b h S 0 t k false then [[0,(t:Int),(k:Int),0]] else []
def qDl (b h:List Int) (S:Int) (k:Nat):List (List Int):=if hd_ h S k>0 then (List.range' 0 81).flatMap (qB0 b h S k) else []
def qDk (b h:List Int) (S:Int):List (List Int):=(List.range' 0 81).flatMap (qAz b h S)++(List.range' 1 7).flatMap (qDl b h S)
theorem qjZ (b h:List Int) (S:Int) (f t:Nat):(rTo b h S f t).length<=2:=by
 unfold rTo qAo
 split
 ·split<;>split<;>simp
 ·simp
theorem qWQ (b h:List Int) (S:Int) (f:Nat):(qAz b h S f).length<=162:=by
 unfold qAz
 split
 ·have:=qGO (rTo b h S f) 2 (List.range' 0 81) fun a _=>qjZ b h S f a
  rw[List.length_range'] at this
  omega
 ·simp
theorem qjT (b h:List Int) (S:Int) (k t:Nat):(qB0 b h S k t).length<=1:=by
 unfold qB0;split<;>simp
theorem qjX (b h:List Int) (S:Int) (k:Nat):(qDl b h S k).length<=81:=by
 unfold qDl
 split
 ·have:=qGO (qB0 b h S k) 1 (List.range' 0 81) fun a _=>qjT b h S k a
  rw[List.length_range'] at this
  omega
 ·simp
theorem qjY (b h:List Int) (S:Int) (f:Nat) (hf:f<81):∀ (n t:Nat),t+n=81->∀ (L:List (List Int)) (x0 x6:Nat),x0=L.length->x6=L.length->L.length<=1000000 - 2*n->∀ F,
  qEg (F+n+1) x0 f t b h S x6 L (qCo b) =
   some ((L++(List.range' t n).flatMap (rTo b h S f)).length,(f:Int),b,h,S,(L++(List.range' t n).flatMap (rTo b h S f)).length,L++(List.range' t n).flatMap (rTo b h S f),qCo b):=by
 intro n
 induction n with
 | zero=>
   intro t ht L x0 x6 h0 h6 hb F
   show qHH (qEg (F+0)) _ _ _ _ _ _ _ _ _=_
   unfold qHH
   rw[qd (by omega)]
   simp only[List.range'_zero,List.flatMap_nil,List.append_nil,h0,h6]
 | succ n ih=>
   intro t ht L x0 x6 h0 h6 hb F
   show qHH (qEg (F+n+1)) _ _ _ _ _ _ _ _ _=_
   unfold qHH
   rw[qi (by omega),qn (by omega) (by omega),tn,c_8,qOc b _ hf (by omega),qA,w_s (by omega) (by omega),List.range'_succ,List.flatMap_cons,<- List.append_assoc]
   have ih':=ih (t+1) (by omega) (L++rTo b h S f t)
   cases hr:rch (b.getD f 0) f t (tk b) with
   | false=>
     have e:rTo b h S f t=[]:=by unfold rTo;rw[hr];rfl
     rw[Bool.not_false,b_t]
     rw[e,List.append_nil] at ih' ⊢
     exact ih' x0 x6 h0 h6 (by omega) F
   | true=>
     have e:rTo b h S f t=qAo b h S f t:=by unfold rTo;rw[hr];rfl
     rw[e] at ih' ⊢
     rw[Bool.not_true,b_f,qKz,qA,tkA h0,tkA h0,qb5 h0]
     cases hm:qAG b h S f t 0 false with
     | true=>
       rw[b_t,qCa (by omega),qKz,qA]
       cases hy:qAG b h S f t 0 true with
       | true=>
         rw[b_t,qCa (by omega)]
         have:=ih' (x0+1+1) (x0+1+1) (by simp[qAo,hm,hy,h0]) (by simp[qAo,hm,hy,h0]) (by simp[qAo,hm,hy];omega) F
         rw[<- this]
         simp[qAo,hm,hy]
       | false=>
         rw[b_f]
         have:=ih' (x0+1) (x0+1) (by simp[qAo,hm,hy,h0]) (by simp[qAo,hm,hy,h0]) (by simp[qAo,hm,hy];omega) F
         rw[<- this]
         simp[qAo,hm,hy]
     | false=>
       rw[b_f,qKz,qA]
       cases hy:qAG b h S f t 0 true with
       | true=>
         rw[b_t,qCa (by omega)]
         have:=ih' (x0+1) (x0+1) (by simp[qAo,hm,hy,h0]) (by simp[qAo,hm,hy,h0]) (by simp[qAo,hm,hy];omega) F
         rw[<- this]
         simp[qAo,hm,hy]
       | false=>
         rw[b_f]
         have:=ih' x0 x6 (by simp[qAo,hm,hy,h0]) (by simp[qAo,hm,hy,h6]) (by simp[qAo,hm,hy];omega) F
         rw[<- this]
         simp[qAo,hm,hy]
theorem qjU (b h:List Int) (S:Int):∀ (n f:Nat),f+n=81->∀ (L:List (List Int)) (x0 x6:Nat),x0=L.length->x6=L.length->L.length<=900000 - 200*n->∀ F,
  qDI (F+n+1) x0 f b h S x6 L (qCo b) =
   some ((L++(List.range' f n).flatMap (qAz b h S)).length,b,h,S,(L++(List.range' f n).flatMap (qAz b h S)).length,L++(List.range' f n).flatMap (qAz b h S)):=by
 intro n
 induction n with
 | zero=>
   intro f hf L x0 x6 h0 h6 hb F
   show qHK (qDI (F+0)) _ _ _ _ _ _ _ _=_
   unfold qHK
   rw[qd (by omega)]
   simp only[List.range'_zero,List.flatMap_nil,List.append_nil,h0,h6]
 | succ n ih=>
   intro f hf L x0 x6 h0 h6 hb F
   show qHK (qDI (F+n+1)) _ _ _ _ _ _ _ _=_
   unfold qHK
   have hl:=qWQ b h S f
   rw[qi (by omega),qn (by omega) (by omega),tn,c_8,qDp,qA,List.range'_succ,List.flatMap_cons,<- List.append_assoc]
   have ih':=ih (f+1) (by omega) (L++qAz b h S f)
   by_cases h1:sd (b.getD f 0)=S
   ·have e:qAz b h S f=(List.range' 0 81).flatMap (rTo b h S f):=by unfold qAz;rw[if_pos h1]
    rw[q9 h1]
    obtain⟨g,hg⟩:=qk 81 (by omega)
    have:=qjY b h S f (by omega) 81 0 (by omega) L x0 x6 h0 h6 (by omega) g
    rw[<- hg] at this
    rw[show qEg qC x0 f 0 b h S x6 L (qCo b)=_ from this,qA]
    simp only
    rw[w_s (by omega) (by omega),<- e]
    exact ih' _ _ rfl rfl (by rw[List.length_append];omega) F
   ·have e:qAz b h S f=[]:=by unfold qAz;rw[if_neg h1]
    rw[q7 h1,w_s (by omega) (by omega)]
    rw[e,List.append_nil] at ih' ⊢
    exact ih' x0 x6 h0 h6 (by omega) F
theorem qjS (b h:List Int) {S:Int} (hS:S=0 \/ S=1) (k:Nat) (hk:k<8):∀ (n t:Nat),t+n=81->∀ (L:List (List Int)) (x0 x6:Nat),x0=L.length->x6=L.length->L.length<=1000000 - 2*n->∀ F,
  qEh (F+n+1) x0 k t b h S x6 L =
   some ((L++if hd_ h S k>0 then (List.range' t n).flatMap (qB0 b h S k) else []).length,(k:Int),b,h,S,(L++if hd_ h S k>0 then (List.range' t n).flatMap (qB0 b h S k) else []).length,L++if hd_ h S k>0 then (List.range' t n).flatMap (qB0 b h S k) else []):=by
 intro n
 induction n with
 | zero=>
   intro t ht L x0 x6 h0 h6 hb F
   show qHJ (qEh (F+0)) _ _ _ _ _ _ _ _=_
   unfold qHJ
   rw[qd (by omega)]
   simp only[List.range'_zero,List.flatMap_nil,ite_self,List.append_nil,h0,h6]
 | succ n ih=>
   intro t ht L x0 x6 h0 h6 hb F
   show qHJ (qEh (F+n+1)) _ _ _ _ _ _ _ _=_
   unfold qHJ
   rw[qi (by omega),qn (by omega) (by omega),qn (by omega) (by omega)]
   have ih':=ih (t+1) (by omega) (L++qB0 b h S k t)
   by_cases h1:hd_ h S k>0
   ·rw[show List.getD h (S.toNat*8+Int.toNat (k:Int)) 0=hd_ h S k from rfl,qCP h1,qKz,qA,tkA h0,w_s (by omega) (by omega)]
    simp only[if_pos h1] at ih' ⊢
    rw[List.range'_succ,List.flatMap_cons,<- List.append_assoc]
    cases hm:qAG b h S 0 t k false with
    | true=>
      have e:qB0 b h S k t=[[0,(t:Int),(k:Int),0]]:=by unfold qB0;rw[hm];rfl
      rw[b_t,qCa (by omega)]
      rw[e] at ih' ⊢
      exact ih' (x0+1) (x0+1) (by simp[h0]) (by simp[h0]) (by simp;omega) F
    | false=>
      have e:qB0 b h S k t=[]:=by unfold qB0;rw[hm];rfl
      rw[b_f]
      rw[e,List.append_nil] at ih' ⊢
      exact ih' x0 x6 h0 h6 (by omega) F
   ·rw[show List.getD h (S.toNat*8+Int.toNat (k:Int)) 0=hd_ h S k from rfl,qCC h1,if_neg h1,List.append_nil,h0,h6]
theorem qjW (b h:List Int) {S:Int} (hS:S=0 \/ S=1):∀ (n k:Nat),k+n=8->∀ (L:List (List Int)) (x0 x6:Nat),x0=L.length->x6=L.length->L.length<=900000 - 200*n->∀ F,
  qDH (F+n+1) x0 k b h S x6 L =
   some ((L++(List.range' k n).flatMap (qDl b h S)).length,(L++(List.range' k n).flatMap (qDl b h S)).length,L++(List.range' k n).flatMap (qDl b h S)):=by
 intro n
 induction n with
 | zero=>
   intro k hk L x0 x6 h0 h6 hb F
   show qHI (qDH (F+0)) _ _ _ _ _ _ _=_
   unfold qHI
   rw[qJQ (by omega)]
   simp only[List.range'_zero,List.flatMap_nil,List.append_nil,h0,h6]
 | succ n ih=>
   intro k hk L x0 x6 h0 h6 hb F
   show qHI (qDH (F+n+1)) _ _ _ _ _ _ _=_
   unfold qHI
   have hl:=qjX b h S k
   obtain⟨g,hg⟩:=qk 81 (by omega)
   have:=qjS b h hS k (by omega) 81 0 (by omega) L x0 x6 h0 h6 (by omega) g
   rw[<- hg] at this
   rw[qJP (by omega),show qEh qC x0 k 0 b h S x6 L=_ from this,qA]
   simp only
   have e:List.range' k (n+1)=k :: List.range' (k+1) n:=List.range'_succ
   rw[w_s (by omega) (by omega),e,List.flatMap_cons,<- List.append_assoc]
   exact ih (k+1) (by omega) (L++qDl b h S k) _ _ rfl rfl (by rw[List.length_append];omega) F
theorem qjV (b h:List Int) (S:Int):((List.range' 0 81).flatMap (qAz b h S)).length<=162*81:=by
 have:=qGO (qAz b h S) 162 (List.range' 0 81) fun a _=>qWQ b h S a
 rw[List.length_range'] at this
 exact this
theorem qZA (b h:List Int) {S:Int} (hS:S=0 \/ S=1):qHG b h S=some ((qDk b h S).length,(qDk b h S).length,qDk b h S):=by
 have main:(ob (qDn b h S) fun a3=>
  ob (qDI qC 0 0 b h S 0 [] a3) fun (a4_0,a4_1,a4_2,a4_3,a4_4,a4_5)=>
  ob (qDH qC a4_0 1 a4_1 a4_2 a4_3 a4_4 a4_5) fun (a10_0,a10_1,a10_2)=>
  (some (a10_0,a10_1,a10_2):Option (Nat×Nat×List (List Int))))=some ((qDk b h S).length,(qDk b h S).length,qDk b h S):=by
  rw[qRD,qA]
  have hl:=qjV b h S
  obtain⟨g,hg⟩:=qk 81 (by omega)
  have:=qjU b h S 81 0 (by omega) [] 0 0 rfl rfl (by simp only[List.length_nil];omega) g
  rw[<- hg,List.nil_append] at this
  rw[show qDI qC 0 0 b h S 0 [] (qCo b)=_ from this,qA]
  simp only
  obtain⟨g,hg⟩:=qk 7 (by omega)
  have:=qjW b h hS 7 1 (by omega) ((List.range' 0 81).flatMap (qAz b h S)) _ _ rfl rfl (by omega) g
  rw[<- hg] at this
  rw[show qDH qC ((List.range' 0 81).flatMap (qAz b h S)).length 1 b h S ((List.range' 0 81).flatMap (qAz b h S)).length ((List.range' 0 81).flatMap (qAz b h S))=_ from this,qA]
  rfl
 unfold qHG
 rcases hS with rfl | rfl
 ·rw[q9 rfl];exact main
 ·rw[q7 (by omega),q9 rfl];exact main
theorem qfa {α β γ:Type} (p:α->Bool) (f:α->β) (g:β->List γ) (L:List α):((L.filter p).map f).flatMap g=L.flatMap fun a=>if p a then g (f a) else []:=by
 induction L with
 | nil=>rfl
 | cons a L ih=>
   rw[List.filter_cons,List.flatMap_cons]
   cases h:p a with
   | true=>rw[if_pos rfl,if_pos rfl,List.map_cons,List.flatMap_cons,ih]
   | false=>rw[if_neg (by simp),if_neg (by simp),ih];rfl
theorem qQr {γ:Type} (p:Nat->Bool) (g:Int->List γ):(sq p).flatMap g=(List.range' 0 81).flatMap fun (i:Nat)=>if p i then g (i:Int) else []:=by
 unfold sq;rw[qfa,qWT];rfl
theorem qII {α β:Type} {f g:α->List β} {L:List α} (h:∀ a∈L,f a=g a):L.flatMap f=L.flatMap g:=by
 induction L with
 | nil=>rfl
 | cons a L ih=>rw[List.flatMap_cons,List.flatMap_cons,h a (by simp),ih fun x hx=>h x (by simp[hx])]
theorem qoG {γ:Type} (p:Nat->Bool) (g:Int->γ):(sq p).map g=(List.range' 0 81).flatMap fun (i:Nat)=>if p i then [g (i:Int)] else []:=by
 rw[<- qQr p fun t=>[g t]]
 induction sq p with
 | nil=>rfl
 | cons a L ih=>rw[List.map_cons,List.flatMap_cons,ih];rfl
theorem qgs {b:List Int} (_hc:Clean b) {c:Nat} (_hcc:c<81):kgs b c=decide (kd (b.getD c 0)=8):=by
 unfold kgs pcs
 rw[qAu (.inl rfl) (by omega) (by omega) (by omega),qAu (.inr rfl) (by omega) (by omega) (by omega),Bool.eq_iff_iff]
 simp only[Bool.or_eq_true,decide_eq_true_eq]
 constructor
 ·rintro (⟨_,h⟩ | ⟨_,h⟩)<;>rw[h]<;>decide
 ·intro h
  have:=qKU (x:=b.getD c 0) (by omega)
  rw[h] at this
  have hs:=qHS (x:=b.getD c 0) (by omega)
  rcases hs with h1 | h1<;>rw[h1,qAu (by omega) (by omega) (by omega) (by omega)] at this
  ·left;omega
  ·right;omega
theorem qVb {b:List Int} (_hc:Clean b) (h:List Int) {S:Int} (hS:S=0 \/ S=1) {f t:Nat} (hf:f<81) (ht:t<81) (hs:sd (b.getD f 0)=S) (hr:rch (b.getD f 0) f t (tk b)=true) (p:Bool):
  qAG b h S f t 0 p=(decide (sd (b.getD t 0)≠S /\ kd (b.getD t 0)≠8)&&if p=true then qCV (b.getD f 0) f t else !qCh (b.getD f 0) t):=by
 unfold qAG qCx
 rw[if_neg (by simp),if_neg (by simp),qAU (by omega),qAU (by omega),tn,tn,hr,decide_eq_true (p:=S=0 \/ S=1) hS,Bool.true_and,Bool.true_and]
 by_cases hft:f=t
 ·subst hft
  have:decide (sd (b.getD f 0)=S /\ sd (b.getD f 0)≠S /\ kd (b.getD f 0)≠8)=false:=decide_eq_false fun hh=>hh.2.1 hs
  rw[this,Bool.false_and,Bool.and_false,Bool.false_and,decide_eq_false (p:=sd (b.getD f 0)≠S /\ kd (b.getD f 0)≠8) (fun hh=>hh.1 hs),Bool.false_and]
 ·have e:qCz f t 0 p=0:=by
   unfold qCz
   rw[if_neg (by omega),if_neg (by simp),if_neg (by omega),if_neg (by omega)]
  rw[decide_eq_true e,Bool.true_and]
  have:decide (sd (b.getD f 0)=S /\ sd (b.getD t 0)≠S /\ kd (b.getD t 0)≠8)=decide (sd (b.getD t 0)≠S /\ kd (b.getD t 0)≠8):=by simp[hs,-List.getD_eq_getElem?_getD]
  rw[this,Bool.and_assoc]
  congr 1
  cases p with
  | false=>simp
  | true=>
    simp only[Bool.not_true,Bool.false_or,if_true]
    unfold qCV
    rw[<- Bool.and_assoc,Bool.and_self]
theorem qpI {b:List Int} (hc:Clean b) (h:List Int) {S:Int} (hS:S=0 \/ S=1) {f t:Nat} (hf:f<81) (ht:t<81) (hs:sd (b.getD f 0)=S):
  (if qBV b S (fun _=>true) f t then qAB (b.getD f 0) f t else [])=rTo b h S f t:=by
 unfold rTo qAo qAB qBV
 rw[qgs hc ht]
 cases hr:rch (b.getD f 0) f t (tk b) with
 | false=>simp
 | true=>
   rw[qVb hc h hS hf ht hs hr,qVb hc h hS hf ht hs hr]
   unfold sdP sds
   rw[decide_eq_true (p:=S=0 \/ S=1) hS]
   by_cases h1:sd (b.getD t 0)=S
   ·simp[h1,-List.getD_eq_getElem?_getD]
   ·by_cases h2:kd (b.getD t 0)=8
    ·simp[h2,-List.getD_eq_getElem?_getD]
    ·simp only[h1,h2,decide_false,Bool.and_self,Bool.not_false,Bool.true_and,ne_eq,not_false_eq_true,if_true,Bool.false_eq_true,if_false]
     cases qCh (b.getD f 0) t<;>cases qCV (b.getD f 0) f t<;>rfl
theorem qN6 {b:List Int} (hc:Clean b) (h:List Int) {S:Int} (hS:S=0 \/ S=1):mvs b h S=qDk b h S:=by
 unfold mvs qDk
 congr 1
 ·unfold qr
  rw[qQr]
  apply qII
  intro f hf
  rw[List.mem_range'_1] at hf
  unfold qAz
  by_cases hs:sd (b.getD f 0)=S
  ·have:sdP b S f=true:=by unfold sdP sds;rw[decide_eq_true hs,decide_eq_true (p:=S=0 \/ S=1) hS];rfl
   rw[if_pos this,if_pos hs]
   unfold qCF
   rw[tn,qQr]
   apply qII
   intro t ht
   rw[List.mem_range'_1] at ht
   exact qpI hc h hS (by omega) (by omega) hs
  ·have:sdP b S f=false:=by unfold sdP sds;rw[decide_eq_false hs,Bool.and_false]
   rw[if_neg (by simp[this]),if_neg hs]
 ·unfold qAO
  apply qII
  intro k hk
  rw[List.mem_range'_1] at hk
  unfold qBX qDl
  have e:hdP h S k=hd_ h S k:=by unfold hdP;rw[if_pos ⟨hS,by omega,by omega⟩]
  rw[e]
  by_cases h1:hd_ h S k>0
  ·rw[if_neg (by omega),if_pos h1,qoG]
   apply qII
   intro t ht
   rw[List.mem_range'_1] at ht
   unfold qB0
   rw[Bool.and_true]
   have:qAG b h S 0 t k false=qAm b S k t:=by
    unfold qAG qCx qAm qAw
    have e2:qCz 0 (t:Int) k false=0:=by
     unfold qCz
     rw[if_neg (by omega),if_pos (by omega),if_pos ⟨by omega,by omega,rfl,rfl⟩]
    rw[e2,qAu hS (by omega) (by omega) (by omega),qAu hS (by omega) (by omega) (by omega),if_pos (by omega),if_pos (by omega),decide_eq_true (p:=S=0 \/ S=1) hS,decide_eq_true (p:=(S=0 \/ S=1) /\ (1:Int)<=k /\ (k:Int)<=7) ⟨hS,by omega,by omega⟩,qMf _ (by omega),qAU (by omega),tn,decide_eq_true (p:=0<hd_ h S k) h1]
    unfold tk
    by_cases h2:(k:Int)=1
    ·rw[h2]
     by_cases h0:b.getD t 0=0<;>simp
    ·by_cases h0:b.getD t 0=0<;>simp[h2]
   rw[this]
  ·rw[if_pos (by omega),if_neg h1]
end Go.Kk.Pl
