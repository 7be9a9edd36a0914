/- What the program's functions come to, told plainly: the texts of this project that this claim leans on, cut down to what is used. -/
import Derived.Test.YtjckfjagajmekaaGreatDoorKkU1
namespace Go.Kk.Pl
def fl (q:Nat):Int:=((q / 9:Nat):Int)
def rn (q:Nat):Int:=((q % 9:Nat):Int)
def df (a c:Nat):Int:=fl c - fl a
def dr (a c:Nat):Int:=rn c - rn a
def upS (x:Int) (a c:Nat):Int:=if sd x=1 then dr a c else - dr a c
theorem geo {a:Nat} (ha:a<81):0<=fl a /\ fl a<=8 /\ 0<=rn a /\ rn a<=8 /\ (a:Int)=9*fl a+rn a:=by unfold fl rn;omega
theorem qJB {a c:Nat} (h:df a c=0) (h':dr a c=0):a=c:=by unfold df dr fl rn at *;omega
theorem qHK (a:Nat):df a a=0 /\ dr a a=0:=by unfold df dr;omega
def qBG (dx dy:Int) (a:Nat):Int:=if 0<=fl a+dx /\ fl a+dx<=8 /\ 0<=rn a+dy /\ rn a+dy<=8 then 9*(fl a+dx)+(rn a+dy) else -1
theorem qIW (q:Nat):Int.tdiv (q:Int) 9=fl q:=by unfold fl;rw[Int.tdiv_eq_ediv_of_nonneg (by omega)];omega
theorem qJ6 (q:Nat):Int.tmod (q:Int) 9=rn q:=qJ5 q
theorem qqA (f r:Int):qGa f r=some (if 0<=f /\ f<=8 /\ 0<=r /\ r<=8 then 9*f+r else -1):=by
 unfold qGa
 by_cases h1:f<0
 ·rw[qf h1,if_neg (by omega)]
 by_cases h2:f>8
 ·rw[qZ h1,qCO h2,if_neg (by omega)]
 by_cases h3:r<0
 ·rw[qZ h1,qB5 h2,qf h3,if_neg (by omega)]
 by_cases h4:r>8
 ·rw[qZ h1,qB5 h2,qZ h3,qCO h4,if_neg (by omega)]
 ·rw[qZ h1,qB5 h2,qZ h3,qB5 h4,if_pos (by omega),w_s (n:=9*f) (by omega) (by omega),w_s (by omega) (by omega)]
theorem qNr {dx dy:Int} (h1:-8<=dx) (h2:dx<=8) (h3:-8<=dy) (h4:dy<=8) {a:Nat} (ha:a<81):qGe dx dy a=some (qBG dx dy a):=by
 have hg:=geo ha
 unfold qGe qFd qEY
 simp (disch:=omega) only[qZ,qBX,qIW,qJ6,qA,w_s,qqA]
 rfl
theorem qko {dx dy:Int} {a c:Nat} (ha:a<81) (hc:c<81):only (qBG dx dy a) c=decide (df a c=dx /\ dr a c=dy):=by
 have hg:=geo ha
 have hg2:=geo hc
 unfold only qBG df dr
 rw[decide_eq_decide]
 split<;>omega
def qB1 (k d u:Int):Prop:=
 (k=1 /\ d=0 /\ u=1) \/ (k=3 /\ (d=1 \/ d = -1) /\ u=2) \/ (k=4 /\ ((u=1 /\ -1<=d /\ d<=1) \/ (u = -1 /\ (d=1 \/ d = -1)))) \/
 ((k=5 \/ k=9 \/ k=10 \/ k=11 \/ k=12) /\ ((u=1 /\ -1<=d /\ d<=1) \/ (u=0 /\ (d=1 \/ d = -1)) \/ (u = -1 /\ d=0))) \/
 (k=8 /\ -1<=d /\ d<=1 /\ -1<=u /\ u<=1 /\ ¬ (d=0 /\ u=0)) \/ (k=14 /\ ((u=0 /\ (d=1 \/ d = -1)) \/ (d=0 /\ (u=1 \/ u = -1)))) \/
 (k=15 /\ (d=1 \/ d = -1) /\ (u=1 \/ u = -1))
instance (k d u:Int):Decidable (qB1 k d u):=by unfold qB1;infer_instance
def qAz (x:Int) (a c:Nat):Bool:=decide (qB1 (kd x) (df a c) (upS x a c))
theorem qpr {n:Int} (h1:-1000<=n) (h2:n<=1000):qFN n=some (if n<0 then -n else n):=by
 unfold qFN
 split
 ·rename_i h;rw[qf h,w_s (by omega) (by omega)];congr 1;omega
 ·rename_i h;rw[qZ h]
theorem qSN {x:Int} {a c:Nat} (ha:a<81) (hc:c<81):-8<=upS x a c /\ upS x a c<=8 /\ -8<=df a c /\ df a c<=8 /\ -8<=dr a c /\ dr a c<=8:=by
 have hg:=geo ha
 have hg2:=geo hc
 unfold upS df dr
 split<;>omega
def stT (k u S : Int):Option Bool:=
 br (decide (S <= 1))
  (ob (qFN u) fun a5=>
   br (k == 1)
    (br (S==0)
     (some (u==1))
     (some (false)))
    (br (k == 3)
     (br (S==1)
      (some (u==2))
      (some (false)))
     (br (k == 4)
      (br (decide (a5<=1))
       (br (u==1)
        (some (true))
        (br (S==1)
         (some (u == -1))
         (some (false))))
       (some (false)))
      (br (k == 5)
       (br (decide (a5<=1))
        (br (decide (u >= 0))
         (some (true))
         (some (S==0)))
        (some (false)))
       (br (k == 9)
        (br (decide (a5<=1))
         (br (decide (u >= 0))
          (some (true))
          (some (S==0)))
         (some (false)))
        (br (k == 10)
         (br (decide (a5<=1))
          (br (decide (u >= 0))
           (some (true))
           (some (S==0)))
          (some (false)))
         (br (k == 11)
          (br (decide (a5<=1))
           (br (decide (u >= 0))
            (some (true))
            (some (S==0)))
           (some (false)))
          (br (k==12)
           (br (decide (a5<=1))
            (br (decide (u >= 0))
             (some (true))
             (some (S==0)))
            (some (false)))
           (br (k==8)
            (some (decide (a5<=1)))
            (br (k==14)
             (br (decide (a5<=1))
              (br (S==0)
               (some (true))
               (some (u==0)))
              (some (false)))
             (br (k==15)
              (br (decide (a5<=1))
               (br (S==1)
                (some (u != 0))
                (some (false)))
               (some (false)))
              (some (false)))))))))))))
   (br (k == 1)
    (br (S==0)
     (some (u==1))
     (some (false)))
    (br (k == 3)
     (br (S==1)
      (some (u==2))
      (some (false)))
     (br (k == 4)
      (some (false))
      (br (k == 5)
       (some (false))
       (br (k == 9)
        (some (false))
        (br (k==10)
         (some (false))
         (br (k==11)
          (some (false))
          (br (k==12)
           (some (false))
           (br (k==8)
            (some (false))
            (br (k==14)
             (some (false))
             (br (k==15)
              (some (false))
              (some (false)))))))))))))
theorem qqB:∀ (k:Fin 16) (d u:Fin 17),((d.val=8 /\ u.val=8) \/ stT ((k.val:Nat):Int) ((u.val:Int) - 8) (if (d.val:Int) - 8<0 then -((d.val:Int) - 8) else (d.val:Int) - 8) =
  some (decide (qB1 ((k.val:Nat):Int) ((d.val:Int) - 8) ((u.val:Int) - 8)))):=by decide +kernel
theorem qqk {k d u:Int} (hne:¬ (d=0 /\ u=0)) (k0:0<=k) (k1:k<=15) (u1:-8<=u) (u2:u<=8) (d1:-8<=d) (d2:d<=8):stT k u (if d<0 then -d else d)=some (decide (qB1 k d u)):=by
 have:=qqB ⟨k.toNat,by omega⟩ ⟨(d+8).toNat,by omega⟩ ⟨(u+8).toNat,by omega⟩
 simp only at this
 rw[show ((k.toNat:Nat):Int)=k by omega,show (((d+8).toNat:Nat):Int) - 8=d by omega,show (((u+8).toNat:Nat):Int) - 8=u by omega] at this
 exact this.resolve_left (by omega)
theorem qn5 (x:Int) {a c:Nat} (ha:a<81) (hc:c<81):qJX x a c=some (qAz x a c):=by
 have hg:=geo ha
 have hg2:=geo hc
 have hr:=qSN (x:=x) ha hc
 unfold qJX qAz
 simp (disch:=omega) only[qZ,qIW,qJ6,qEW,qBy,qA,w_s]
 by_cases hac:a=c
 ·subst hac
  rw[qn rfl]
  have:=qHK a
  have hu:upS x a a=0:=by unfold upS;rw[this.2];split<;>rfl
  rw[this.1,hu]
  symm
  rw[Option.some.injEq,decide_eq_false_iff_not]
  unfold qB1
  omega
 ·rw[qm (by omega)]
  have hne:¬ (df a c=0 /\ upS x a c=0):=by
   rintro ⟨h1,h2⟩
   refine hac (qJB h1 ?_)
   unfold upS at h2
   split at h2<;>omega
  have hS:=qpr (n:=fl c - fl a) (by omega) (by omega)
  rw[hS,qA]
  obtain⟨k0,k1,_⟩:=qCS x
  have:=qqk (k:=kd x) hne k0 k1 hr.1 hr.2.1 hr.2.2.1 hr.2.2.2.1
  rw[<- this]
  by_cases hs:sd x=1
  ·have hu:(0:Int) - (rn a - rn c)=upS x a c:=by unfold upS dr;rw[if_pos hs];omega
   rw[qn hs,hu]
   rfl
  ·have hu:rn a - rn c=upS x a c:=by unfold upS dr;rw[if_neg hs];omega
   rw[qm hs,hu]
   rfl
def qAU (k:Int):List (List Int):=if k=1 then [[0,-1]] else if k=3 then [[-1,-2],[1,-2]] else if k=4 then [[-1,-1],[0,-1],[1,-1],[-1,1],[1,1]]
 else if k=5 \/ k=9 \/ k=10 \/ k=11 \/ k=12 then [[-1,-1],[0,-1],[1,-1],[-1,0],[1,0],[0,1]]
 else if k=8 then [[-1,-1],[0,-1],[1,-1],[-1,0],[1,0],[0,1],[-1,1],[1,1]] else if k=14 then [[0,-1],[-1,0],[1,0],[0,1]]
 else if k=15 then [[-1,-1],[1,-1],[-1,1],[1,1]] else []
theorem qgg:∀ k:Fin 16,qGf qC ((k.val:Nat):Int)=some ((qAU ((k.val:Nat):Int)).length,(qAU ((k.val:Nat):Int)).length,qAU ((k.val:Nat):Int)):=by decide +kernel
theorem qgh {k:Int} (h0:0<=k) (h1:k<=15):qGf qC k=some ((qAU k).length,(qAU k).length,qAU k):=by
 have:=qgg ⟨k.toNat,by omega⟩
 simpa only[show ((k.toNat:Nat):Int)=k by omega] using this
theorem qgf:∀ (k:Fin 16) (i:Fin 8),((qAU ((k.val:Nat):Int)).getD i.val []).length<=2 /\ -2<=((qAU ((k.val:Nat):Int)).getD i.val []).headD 0 /\ ((qAU ((k.val:Nat):Int)).getD i.val []).headD 0<=2 /\
  -2<=((qAU ((k.val:Nat):Int)).getD i.val []).tail.headD 0 /\ ((qAU ((k.val:Nat):Int)).getD i.val []).tail.headD 0<=2:=by decide +kernel
theorem qgd:∀ (k:Fin 16),(qAU ((k.val:Nat):Int)).length<=8:=by decide +kernel
def sg (x:Int):Int:=if sd x=1 then -1 else 1
theorem qdI {dx dy:Int} (h:-8<=dx /\ dx<=8 /\ -8<=dy /\ dy<=8) (x:Int):qFi dx dy (sd x)=some (sg x*dx,sg x*dy):=by
 unfold qFi sg
 by_cases hs:sd x=1
 ·rw[qn hs,if_pos hs,w_s (by omega) (by omega),w_s (by omega) (by omega)]
  congr 2<;>omega
 ·rw[qm hs,if_neg hs]
  congr 2<;>omega
theorem qb8 (x:Int):sg x=1 \/ sg x = -1:=by unfold sg;split<;>simp
def dx_ (r:List Int):Int:=r.headD 0
def dy_ (r:List Int):Int:=r.tail.headD 0
def qDI (x:Int) (L:List (List Int)) (a c:Nat):Bool:=L.any fun r=>decide (df a c=sg x*dx_ r /\ dr a c=sg x*dy_ r)
theorem qqF {x:Int} {a:Nat} (ha:a<81) (L:List (List Int)) (hlen:L.length<=8) (hr:∀ r∈L,r.length<=2 /\ -2<=dx_ r /\ dx_ r<=2 /\ -2<=dy_ r /\ dy_ r<=2) (N:Nat) (u v:Int):
  ∀ (n i:Nat),i+n=L.length->∀ (f:Nat->Bool) (F:Nat),qFk (F+n+1) x a L.length (Int.ofNat L.length) i u v (sLo f) (sHi f) N L =
    some (u,v,sLo fun c=>f c||qDI x (L.drop i) a c,sHi fun c=>f c||qDI x (L.drop i) a c):=by
 intro n
 induction n with
 | zero=>
   intro i hi f F
   show qIQ (qFk (F+0)) _ _ _ _ _ _ _ _ _ _ _=_
   unfold qIQ
   rw[qZ (by simp;omega),List.drop_eq_nil_of_le (by omega)]
   have:(fun c=>f c||qDI x [] a c)=f:=by funext c;simp[qDI]
   rw[this]
 | succ n ih=>
   intro i hi f F
   show qIQ (qFk (F+n+1)) _ _ _ _ _ _ _ _ _ _ _=_
   unfold qIQ
   have hil:i<L.length:=by omega
   have hget:L.getD i []=L[i]:=by rw[List.getD_eq_getElem?_getD,List.getElem?_eq_getElem hil];rfl
   obtain⟨r0,r1,r2,r3,r4⟩:=hr L[i] (List.getElem_mem hil)
   have ht:List.take 2 L[i]=L[i]:=List.take_of_length_le r0
   have hs:=qb8 x
   rw[qf (by simp;omega),qg (by omega) (by omega),tn,hget,ht,qDx,qA]
   show ob (qFi (dx_ L[i]) (dy_ L[i]) (sd x)) _=_
   rw[qdI (by omega),qA]
   simp only
   rw[qNr (by rcases hs with h | h<;>rw[h]<;>omega) (by rcases hs with h | h<;>rw[h]<;>omega) (by rcases hs with h | h<;>rw[h]<;>omega) (by rcases hs with h | h<;>rw[h]<;>omega) ha,qA,qGj,qA]
   simp only
   rw[w_s (by omega) (by omega)]
   refine (ih (i+1) (by omega) _ F).trans ?_
   have hd:L.drop i=L[i] :: L.drop (i+1):=List.drop_eq_getElem_cons hil
   obtain⟨e1,e2⟩:=qB0 (f:=fun c=>(f c||only (qBG (sg x*dx_ L[i]) (sg x*dy_ L[i]) a) c)||qDI x (L.drop (i+1)) a c) (g:=fun c=>f c||qDI x (L.drop i) a c) fun c hc=>by
    rw[qko ha hc,hd]
    unfold qDI
    rw[List.any_cons,Bool.or_assoc]
   rw[e1,e2]
theorem qeD:∀ (k:Fin 16) (d u:Fin 17),(qAU ((k.val:Nat):Int)).any (fun r=>decide ((d.val:Int) - 8=dx_ r /\ (u.val:Int) - 8 = -(dy_ r)))=decide (qB1 ((k.val:Nat):Int) ((d.val:Int) - 8) ((u.val:Int) - 8)):=by decide +kernel
theorem qeE:∀ (k:Fin 16) (d u:Fin 17),(qAU ((k.val:Nat):Int)).any (fun r=>decide ((d.val:Int) - 8 = -(dx_ r) /\ (u.val:Int) - 8 = -(dy_ r)))=decide (qB1 ((k.val:Nat):Int) ((d.val:Int) - 8) ((u.val:Int) - 8)):=by decide +kernel
theorem qeF (x:Int) {a c:Nat} (ha:a<81) (hc:c<81):qDI x (qAU (kd x)) a c=qAz x a c:=by
 obtain⟨k0,k1,_⟩:=qCS x
 have hr:=qSN (x:=x) ha hc
 unfold qAz qDI sg upS
 by_cases hs:sd x=1
 ·simp only[hs,if_true]
  have:=qeE ⟨(kd x).toNat,by omega⟩ ⟨(df a c+8).toNat,by omega⟩ ⟨(dr a c+8).toNat,by omega⟩
  simp only[show (((kd x).toNat:Nat):Int)=kd x by omega,show (((df a c+8).toNat:Nat):Int) - 8=df a c by omega,show (((dr a c+8).toNat:Nat):Int) - 8=dr a c by omega] at this
  rw[<- this]
  congr 1
  funext r
  rw[decide_eq_decide]
  constructor<;>(rintro ⟨h1,h2⟩;constructor<;>omega)
 ·simp only[hs,if_false]
  have:=qeD ⟨(kd x).toNat,by omega⟩ ⟨(df a c+8).toNat,by omega⟩ ⟨(-dr a c+8).toNat,by omega⟩
  simp only[show (((kd x).toNat:Nat):Int)=kd x by omega,show (((df a c+8).toNat:Nat):Int) - 8=df a c by omega,show (((-dr a c+8).toNat:Nat):Int) - 8 = -dr a c by omega] at this
  rw[<- this]
  congr 1
  funext r
  rw[decide_eq_decide]
  constructor<;>(rintro ⟨h1,h2⟩;constructor<;>omega)
theorem qge {k:Int} (h0:0<=k) (h1:k<=15):(qAU k).length<=8 /\ ∀ r∈qAU k,r.length<=2 /\ -2<=dx_ r /\ dx_ r<=2 /\ -2<=dy_ r /\ dy_ r<=2:=by
 have hl:=qgd ⟨k.toNat,by omega⟩
 simp only[show ((k.toNat:Nat):Int)=k by omega] at hl
 refine⟨hl,fun r hr=>?_⟩
 obtain⟨i,hi,rfl⟩:=List.getElem_of_mem hr
 have:=qgf ⟨k.toNat,by omega⟩ ⟨i,by omega⟩
 simp only[show ((k.toNat:Nat):Int)=k by omega] at this
 rw[List.getD_eq_getElem?_getD,List.getElem?_eq_getElem hi] at this
 exact this
theorem qqG (x:Int) {a:Nat} (ha:a<81):qJy x a=some (sLo (qAz x a),sHi (qAz x a)):=by
 obtain⟨k0,k1,_⟩:=qCS x
 obtain⟨hlen,hrs⟩:=qge k0 k1
 obtain⟨g,hg⟩:=qd (qAU (kd x)).length (by omega)
 have:=qqF (x:=x) ha (qAU (kd x)) hlen hrs (qAU (kd x)).length 0 0 (qAU (kd x)).length 0 (by omega) (fun _=>false) g
 rw[<- hg,qBi,qBh] at this
 unfold qJy
 rw[qBd,qA,qgh k0 k1,qA]
 simp only
 rw[show qFk qC x a (qAU (kd x)).length (Int.ofNat (qAU (kd x)).length) 0 0 0 0 0 (qAU (kd x)).length (qAU (kd x))=_ from this,qA]
 simp only
 obtain⟨e1,e2⟩:=qB0 (f:=fun c=>false||qDI x (List.drop 0 (qAU (kd x))) a c) (g:=qAz x a) fun c hc=>by
  rw[Bool.false_or,List.drop_zero,qeF x ha hc]
 rw[e1,e2]
end Go.Kk.Pl
namespace Go.Kk.Pl
def sgn (n:Int):Int:=if n<0 then -1 else if n>0 then 1 else 0
def qw (a c:Nat):Int:=if a=c then 0 else if df a c=0 \/ dr a c=0 then 1 else if df a c=dr a c \/ df a c = -dr a c then 2 else 0
def mx (a c:Nat):Nat:=if (df a c).natAbs<(dr a c).natAbs then (dr a c).natAbs else (df a c).natAbs
def qAX (a c:Nat):Int:=9*sgn (df a c)+sgn (dr a c)
def btw (a c:Nat):List Nat:=if qw a c=0 then [] else (List.range (mx a c - 1)).map fun (j:Nat)=>((a:Int)+((j:Int)+1)*qAX a c).toNat
theorem qpp (n:Int):qHv n=some (sgn n):=by
 unfold qHv sgn
 split
 ·rename_i h;rw[qf h]
 ·rename_i h
  rw[qZ h]
  split
  ·rename_i h2;rw[qCO h2]
  ·rename_i h2;rw[qB5 h2]
theorem qWi {a c:Nat} (ha:a<81) (hc:c<81):qHu a c=some (qw a c):=by
 have hg:=geo ha
 have hg2:=geo hc
 unfold qHu qw
 simp (disch:=omega) only[qZ,qIW,qJ6,w_s]
 by_cases hac:a=c
 ·rw[qn (by omega),if_pos hac]
 ·rw [qm (by omega),if_neg hac]
  by_cases h1:df a c=0
  ·rw[qn (by unfold df at h1;omega),if_pos (.inl h1)]
  ·rw[qm (by unfold df at h1;omega)]
   by_cases h2:dr a c=0
   ·rw[qn (by unfold dr at h2;omega),if_pos (.inr h2)]
   ·rw[qm (by unfold dr at h2;omega),if_neg (by omega)]
    by_cases h3:df a c=dr a c
    ·rw[qn (by unfold df dr at h3;omega),if_pos (.inl h3)]
    ·rw[qm (by unfold df dr at h3;omega)]
     by_cases h4:df a c = -dr a c
     ·rw[qn (by unfold df dr at h4;omega),if_pos (.inr h4)]
     ·rw[qm (by unfold df dr at h4;omega),if_neg (by omega)]
theorem qK6 {a c:Nat} (ha:a<81) (hc:c<81) (h:qw a c≠0):1<=mx a c /\ mx a c<=8 /\ (c:Int)=a+(mx a c:Int)*qAX a c /\ qAX a c≠0 /\ -10<=qAX a c /\ qAX a c<=10:=by
 have hg:=geo ha
 have hg2:=geo hc
 have hdf:df a c=fl c - fl a:=rfl
 have hdr:dr a c=rn c - rn a:=rfl
 unfold qw at h
 split at h
 ·exact absurd rfl h
 rename_i hac
 have hne:¬ (df a c=0 /\ dr a c=0):=fun hh=>hac (qJB hh.1 hh.2)
 have hl:df a c=0 \/ dr a c=0 \/ df a c=dr a c \/ df a c = -dr a c:=by
  split at h
  ·rename_i h1;rcases h1 with h1 | h1
   ·exact .inl h1
   ·exact .inr (.inl h1)
  ·split at h
   ·rename_i h1;rcases h1 with h1 | h1
    ·exact .inr (.inr (.inl h1))
    ·exact .inr (.inr (.inr h1))
   ·exact absurd rfl h
 clear h
 unfold mx qAX sgn
 generalize df a c=d at *
 generalize dr a c=e at *
 rcases Int.lt_trichotomy d 0 with h1 | h1 | h1<;>rcases Int.lt_trichotomy e 0 with h2 | h2 | h2
 all_goals simp (disch:=omega) only[if_pos,if_neg]
 all_goals (refine⟨by omega,by omega,by omega,by omega,by omega,by omega⟩)
theorem qLA {a c D:Int} {m j:Nat} (hm:c=a+(m:Int)*D) (ha:0<=a /\ a<81) (hc:0<=c /\ c<81) (hj:j<=m) (_hD:-10<=D /\ D<=10):0<=a+(j:Int)*D /\ a+(j:Int)*D<81:=by
 have hj':(j:Int)<=m:=by omega
 rcases Int.le_total 0 D with h | h
 ·have h1:(0:Int)<=(j:Int)*D:=Int.mul_nonneg (by omega) h
  have h2:(j:Int)*D<=(m:Int)*D:=Int.mul_le_mul_of_nonneg_right hj' h
  omega
 ·have h1:(j:Int)*D<=0:=Int.mul_nonpos_of_nonneg_of_nonpos (by omega) h
  have h2:(m:Int)*D<=(j:Int)*D:=Int.mul_le_mul_of_nonpos_right hj' h
  omega
theorem qeq {a c:Nat} (ha:a<81) (hc:c<81) (h:qw a c≠0):∀ (n j:Nat),j+1+n=mx a c->∀ F,
  qFO (F+n+1) c j (qAX a c) ((a:Int)+((j:Int)+1)*qAX a c) j ((List.range j).map fun (j:Nat)=>(a:Int)+((j:Int)+1)*qAX a c) =
   some (mx a c - 1,mx a c - 1,(List.range (mx a c - 1)).map fun (j:Nat)=>(a:Int)+((j:Int)+1)*qAX a c):=by
 obtain⟨m1,m8,hend,hD0,hD1,hD2⟩:=qK6 ha hc h
 intro n
 induction n with
 | zero=>
   intro j hj F
   show qHs (qFO (F+0)) _ _ _ _ _ _=_
   unfold qHs
   have hjm:((j:Int)+1)=(mx a c:Int):=by omega
   rw[hjm,qu (by omega),show mx a c - 1=j by omega]
 | succ n ih=>
   intro j hj F
   show qHs (qFO (F+n+1)) _ _ _ _ _ _=_
   unfold qHs
   have hne:¬ (a:Int)+((j:Int)+1)*qAX a c=c:=by
    rw[hend]
    intro hh
    have:((j:Int)+1)*qAX a c=(mx a c:Int)*qAX a c:=by omega
    have:=Int.eq_of_mul_eq_mul_right hD0 this
    omega
   have hr:=qLA (j:=j+1) hend (by omega) (by omega) (by omega) ⟨hD1,hD2⟩
   have hr2:=qLA (j:=j+2) hend (by omega) (by omega) (by omega) ⟨hD1,hD2⟩
   have e2:(a:Int)+((j:Int)+1)*qAX a c+qAX a c=(a:Int)+(((j+1:Nat):Int)+1)*qAX a c:=by
    rw[show (((j+1:Nat):Int)+1)=((j:Int)+1)+1 by omega,Int.add_mul ((j:Int)+1),Int.one_mul];omega
   have e3:(((j+2:Nat):Int))=(((j+1:Nat):Int)+1):=by omega
   rw[e3] at hr2
   rw[qq hne,qD (by simp;omega),e2,w_s (by omega) (by omega),qMr (by simp)]
   have e4:(((List.range j).map fun (j:Nat)=>(a:Int)+((j:Int)+1)*qAX a c)++[(a:Int)+((j:Int)+1)*qAX a c])=(List.range (j+1)).map fun (j:Nat)=>(a:Int)+((j:Int)+1)*qAX a c:=by
    rw[List.range_succ,List.map_append];rfl
   rw[e4]
   exact ih (j+1) (by omega) F
theorem qIq {a c:Nat} (ha:a<81) (hc:c<81) {s:Nat} (hs:s∈btw a c):s<81:=by
 unfold btw at hs
 split at hs
 ·cases hs
 ·rename_i h
  obtain⟨m1,m8,hend,hD0,hD1,hD2⟩:=qK6 ha hc h
  obtain⟨j,hj,rfl⟩:=List.mem_map.1 hs
  rw[List.mem_range] at hj
  have hr:=qLA (j:=j+1) hend (by omega) (by omega) (by omega) ⟨hD1,hD2⟩
  rw[show (((j+1:Nat):Int))=(j:Int)+1 by omega] at hr
  omega
theorem qfV {a c:Nat} (ha:a<81) (hc:c<81):(btw a c).length<=7:=by
 unfold btw
 split
 ·simp
 ·rename_i h
  obtain⟨m1,m8,_⟩:=qK6 ha hc h
  simp;omega
theorem qes {a c:Nat} (ha:a<81) (hc:c<81):qJY a c=some ((btw a c).length,(btw a c).length,(btw a c).map Int.ofNat):=by
 have hg:=geo ha
 have hg2:=geo hc
 unfold qJY
 rw[qWi ha hc,qA]
 by_cases h:qw a c=0
 ·rw[qn h]
  unfold btw
  rw[if_pos h]
  rfl
 ·obtain⟨m1,m8,hend,hD0,hD1,hD2⟩:=qK6 ha hc h
  have hs1:-1<=sgn (df a c) /\ sgn (df a c)<=1:=by unfold sgn;split<;>(try split)<;>omega
  have hs2:-1<=sgn (dr a c) /\ sgn (dr a c)<=1:=by unfold sgn;split<;>(try split)<;>omega
  rw[qm h]
  simp (disch:=omega) only[qIW,qJ6,w_s,qpp,qA]
  rw[show fl c - fl a=df a c from rfl,show rn c - rn a=dr a c from rfl,w_s (n:=9*sgn (df a c)) (by omega) (by omega),show 9*sgn (df a c)+sgn (dr a c)=qAX a c from rfl,w_s (n:=qAX a c) (by omega) (by omega),w_s (n:=(a:Int)+qAX a c) (by omega) (by omega)]
  obtain⟨g,hgm⟩:=qd (mx a c - 1) (by omega)
  have:=qeq ha hc h (mx a c - 1) 0 (by omega) g
  rw[<- hgm] at this
  have e0:(a:Int)+(((0:Nat):Int)+1)*qAX a c=a+qAX a c:=by
   rw[show ((0:Nat):Int)+1=1 from rfl,Int.one_mul]
  rw[e0] at this
  rw[show qFO qC c 0 (qAX a c) ((a:Int)+qAX a c) 0 []=_ from this,qA]
  unfold btw
  rw[if_neg h]
  simp only[List.length_map,List.length_range,List.map_map]
  congr 3
  apply List.map_congr_left
  intro j hj
  rw[List.mem_range] at hj
  have hr:=qLA (j:=j+1) hend (by omega) (by omega) (by omega) ⟨hD1,hD2⟩
  rw[show (((j+1:Nat):Int))=(j:Int)+1 by omega] at hr
  show _=Int.ofNat (Int.toNat _)
  simp only[Int.ofNat_eq_natCast]
  omega
def qAo (a c:Nat) (t:Nat->Bool):Bool:=(btw a c).all fun s=>!t s
theorem qg7 (t:List Bool) (L:List Nat) (hL:∀ s∈L,s<81) (hl:L.length<=100) (N:Nat):∀ (n i:Nat),i+n=L.length->∀ F,
  qFP (F+n+1) L.length i t N (L.map Int.ofNat)=some (if (L.drop i).all (fun s=>!t.getD s false) then .inr () else .inl false):=by
 intro n
 induction n with
 | zero=>
   intro i hi F
   show qHt (qFP (F+0)) _ _ _ _ _=_
   unfold qHt
   rw[qZ (by simp;omega),List.drop_eq_nil_of_le (by omega)]
   rfl
 | succ n ih=>
   intro i hi F
   show qHt (qFP (F+n+1)) _ _ _ _ _=_
   unfold qHt
   have hil:i<L.length:=by omega
   have hd:L.drop i=L[i] :: L.drop (i+1):=List.drop_eq_getElem_cons hil
   have hget:(L.map Int.ofNat).getD i 0=(L[i]:Int):=by
    rw[List.getD_eq_getElem?_getD,List.getElem?_map,List.getElem?_eq_getElem hil];rfl
   have h81:=hL L[i] (List.getElem_mem hil)
   rw[qf (by simp;omega),qg (by omega) (by omega),tn,hget,qg (by omega) (by omega),tn,hd,List.all_cons,w_s (by omega) (by omega)]
   cases ht:t.getD L[i] false with
   | true=>rfl
   | false=>
     rw[b_f,Bool.not_false,Bool.true_and]
     exact ih (i+1) (by omega) F
theorem qg9 {a c:Nat} (ha:a<81) (hc:c<81) (t:List Bool):qAt a c t=some (qAo a c fun s=>t.getD s false):=by
 unfold qAt
 rw[qes ha hc,qA]
 simp only
 have hlen:=qfV ha hc
 obtain⟨g,hg⟩:=qd (btw a c).length (by omega)
 have:=qg7 t (btw a c) (fun s hs=>qIq ha hc hs) (by omega) (btw a c).length (btw a c).length 0 (by omega) g
 rw[<- hg] at this
 rw[show qFP qC (btw a c).length 0 t (btw a c).length ((btw a c).map Int.ofNat)=_ from this,qA,List.drop_zero]
 unfold qAo
 cases (btw a c).all fun s=>!t.getD s false<;>rfl
def slK (k d u:Int):Prop:=(k=2 /\ d=0 /\ 0<u) \/ ((k=6 \/ k=14) /\ ¬ (d=0 /\ u=0) /\ (d=u \/ d = -u)) \/ ((k=7 \/ k=15) /\ ¬ (d=0 /\ u=0) /\ (d=0 \/ u=0))
instance (k d u:Int):Decidable (slK k d u):=by unfold slK;infer_instance
def qAj (x:Int) (a c:Nat):Bool:=decide (slK (kd x) (df a c) (upS x a c))
def rch (x:Int) (a c:Nat) (t:Nat->Bool):Bool:=qAz x a c||(qAj x a c&&qAo a c t)
theorem qjA {a c:Nat}:qw a c=1↔(¬ (df a c=0 /\ dr a c=0)) /\ (df a c=0 \/ dr a c=0):=by
 unfold qw
 by_cases hac:a=c
 ·subst hac
  have:=qHK a
  simp[this.1,this.2]
 ·have:¬ (df a c=0 /\ dr a c=0):=fun h=>hac (qJB h.1 h.2)
  rw[if_neg hac]
  split
  ·rename_i h;simp[this,h]
  ·rename_i h
   split<;>simp[h]
theorem qjB {a c:Nat}:qw a c=2↔(¬ (df a c=0 /\ dr a c=0)) /\ (df a c=dr a c \/ df a c = -dr a c):=by
 unfold qw
 by_cases hac:a=c
 ·subst hac
  have:=qHK a
  simp[this.1,this.2]
 ·have:¬ (df a c=0 /\ dr a c=0):=fun h=>hac (qJB h.1 h.2)
  rw[if_neg hac]
  split
  ·rename_i h
   constructor
   ·intro hh;omega
   ·rintro ⟨h1,h2⟩;omega
  ·rename_i h
   split
   ·rename_i h2;simp[h2];omega
   ·rename_i h2;simp[h2]
theorem qlv (x:Int) {a c:Nat} (ha:a<81) (hc:c<81) (t:List Bool):qFQ x a c t=some (rch x a c fun s=>t.getD s false):=by
 have hg:=geo ha
 have hg2:=geo hc
 unfold qFQ
 rw[qn5 x ha hc,qA]
 unfold rch
 cases hst:qAz x a c with
 | true=>rfl
 | false =>
   rw[b_f,qWi ha hc,qA,qEW,qA,Bool.false_or]
   have l1:=qjA (a:=a) (c:=c)
   have l2:=qjB (a:=a) (c:=c)
   have hup:upS x a c=if sd x=1 then dr a c else -dr a c:=rfl
   have hdr:dr a c=rn c - rn a:=rfl
   have hdf:df a c=fl c - fl a:=rfl
   have fin:∀ (p:Bool),p=qAj x a c->(br p (ob (qAt a c t) fun a8=>some a8) (some false):Option Bool)=some (qAj x a c&&qAo a c fun s=>t.getD s false):=by
    intro p hp
    rw[hp,qg9 ha hc,qA]
    cases qAj x a c<;>rfl
   have sl:∀ {p:Prop} [Decidable p],(p↔slK (kd x) (df a c) (upS x a c))->decide p=qAj x a c:=by
    intro p _ h
    unfold qAj
    rw[decide_eq_decide];exact h
   have nsl:¬ slK (kd x) (df a c) (upS x a c)->(some false:Option Bool)=some (qAj x a c&&qAo a c fun s=>t.getD s false):=by
    intro h
    have:qAj x a c=false:=by unfold qAj;simpa using h
    rw[this];rfl
   simp (disch:=omega) only[qIW,qJ6,w_s,qBy,qA]
   have body : ∀ (u:Int),u=upS x a c->(br (kd x==2)
        (br (qw a c==1)
         (br (fl a==fl c)
          (br (decide (u>0))
           (ob (qAt a c t) fun a8=>
           some (a8))
           (some (false)))
          (some (false)))
         (some (false)))
        (br (kd x==6)
         (br (qw a c==2)
          (ob (qAt a c t) fun a8=>
          some (a8))
          (some (false)))
         (br (kd x==14)
          (br (qw a c==2)
           (ob (qAt a c t) fun a8=>
           some (a8))
           (some (false)))
          (br (kd x==7)
           (br (qw a c==1)
            (ob (qAt a c t) fun a8=>
            some (a8))
            (some (false)))
           (br (kd x==15)
            (br (qw a c==1)
             (ob (qAt a c t) fun a8=>
             some (a8))
             (some (false)))
            (some (false))))))  : Option Bool)=some (qAj x a c&&qAo a c fun s=>t.getD s false):=by
    intro u hu
    by_cases k2:kd x=2
    ·rw[qn k2]
     by_cases h1:qw a c=1
     ·rw[qn h1]
      by_cases h3:fl a=fl c
      ·rw[qn h3]
       refine fin _ ?_
       exact sl (by unfold slK;rw[<- hu];omega)
      ·rw[qm h3]
       exact nsl (by unfold slK;omega)
     ·rw[qm h1]
      refine nsl (by
       rw[l1] at h1
       unfold slK
       split at hup<;>omega)
    ·rw[qm k2]
     have two:(kd x=6 \/ kd x=14)->(br (qw a c==2) (ob (qAt a c t) fun a8=>some a8) (some false):Option Bool)=some (qAj x a c&&qAo a c fun s=>t.getD s false):=by
      intro hk
      refine fin _ ?_
      have:(qw a c==2)=decide (qw a c=2):=by rw[Bool.eq_iff_iff];simp
      rw[this]
      refine sl ?_
      rw[l2]
      unfold slK
      split at hup<;>omega
     have one:(kd x=7 \/ kd x=15)->(br (qw a c==1) (ob (qAt a c t) fun a8=>some a8) (some false):Option Bool)=some (qAj x a c&&qAo a c fun s=>t.getD s false):=by
      intro hk
      refine fin _ ?_
      have:(qw a c==1)=decide (qw a c=1):=by rw[Bool.eq_iff_iff];simp
      rw[this]
      refine sl ?_
      rw[l1]
      unfold slK
      split at hup<;>omega
     by_cases k6:kd x=6
     ·rw[qn k6];exact two (.inl k6)
     rw[qm k6]
     by_cases k14:kd x=14
     ·rw[qn k14];exact two (.inr k14)
     rw[qm k14]
     by_cases k7:kd x=7
     ·rw[qn k7];exact one (.inl k7)
     rw[qm k7]
     by_cases k15:kd x=15
     ·rw[qn k15];exact one (.inr k15)
     rw[qm k15]
     exact nsl (by unfold slK;omega)
   by_cases hs:sd x=1
   ·rw[qn hs]
    exact body _ (by rw[hup,if_pos hs];omega)
   ·rw[qm hs]
    exact body _ (by rw[hup,if_neg hs];omega)
end Go.Kk.Pl
namespace Go.Kk.Pl
def qBv (dx dy:Int):Nat->Int->List Nat
 | 0,_=>[]
 | n+1,p=>if p<0 then [] else p.toNat :: qBv dx dy n (qBG dx dy p.toNat)
def qAT (t:Nat->Bool):List Nat->Nat->Bool
 | [],_=>false
 | s :: L,c=>decide (c=s)||(!t s&&qAT t L c)
def qDP (dx dy:Int):Nat->Int->Bool
 | 0,p=>decide (p<0)
 | n+1,p=>decide (p<0)||qDP dx dy n (qBG dx dy p.toNat)
theorem qUz (dx dy:Int) (a:Nat):-1<=qBG dx dy a /\ qBG dx dy a<81:=by unfold qBG;split<;>omega
theorem qrn {dx dy:Int} (h1:-8<=dx) (h2:dx<=8) (h3:-8<=dy) (h4:dy<=8) (t:Nat->Bool) (u v:Int):∀ (n:Nat) (p:Int),-1<=p->p<81->qDP dx dy n p=true->∀ (f:Nat->Bool) (F:Nat),
  qGK (F+n+1) p dx dy (sLo t) (sHi t) u v (sLo f) (sHi f)=some (u,v,sLo fun c=>f c||qAT t (qBv dx dy n p) c,sHi fun c=>f c||qAT t (qBv dx dy n p) c):=by
 intro n
 induction n with
 | zero=>
   intro p hp0 hp1 he f F
   show qHq (qGK (F+0)) _ _ _ _ _ _ _ _ _=_
   unfold qHq
   simp only[qDP,decide_eq_true_eq] at he
   rw[qBX (by omega)]
   have:(fun c=>f c||qAT t (qBv dx dy 0 p) c)=f:=by funext c;simp[qBv,qAT]
   rw[this]
 | succ n ih=>
   intro p hp0 hp1 he f F
   show qHq (qGK (F+n+1)) _ _ _ _ _ _ _ _ _=_
   unfold qHq
   by_cases hp:p<0
   ·rw[qBX (by omega)]
    have:(fun c=>f c||qAT t (qBv dx dy (n+1) p) c)=f:=by funext c;simp[qBv,qAT,hp]
    rw[this]
   ·obtain⟨q,rfl⟩:∃ q:Nat,p=q:=⟨p.toNat,by omega⟩
    have hq:q<81:=by omega
    rw[qB4 (by omega),qGj,qA]
    simp only
    rw[qEI,qA]
    have hhas:has t q=t q:=by unfold has;simp;intro _;omega
    have hL:qBv dx dy (n+1) q=q :: qBv dx dy n (qBG dx dy q):=by simp[qBv]
    rw[hhas,hL]
    cases ht:t q with
    | true=>
      rw[b_t]
      obtain⟨e1,e2⟩:=qB0 (f:=fun i=>f i||only q i) (g:=fun c=>f c||qAT t (q :: qBv dx dy n (qBG dx dy q)) c) fun c hc=>by
       unfold qAT only
       rw[ht]
       have:decide ((c:Int)=(q:Int))=decide (c=q):=by rw[decide_eq_decide];omega
       rw[this];simp
      rw[e1,e2]
    | false=>
      rw[b_f,qNr h1 h2 h3 h4 hq,qA]
      obtain⟨r1,r2⟩:=qUz dx dy q
      have he':qDP dx dy n (qBG dx dy q)=true:=by
       simp only[qDP,Bool.or_eq_true,decide_eq_true_eq] at he
       rcases he with he | he
       ·omega
       ·simpa using he
      refine (ih _ r1 r2 he' _ F).trans ?_
      obtain⟨e1,e2⟩:=qB0 (f:=fun c=>(f c||only q c)||qAT t (qBv dx dy n (qBG dx dy q)) c) (g:=fun c=>f c||qAT t (q :: qBv dx dy n (qBG dx dy q)) c) fun c hc=>by
       unfold only
       have:decide ((c:Int)=(q:Int))=decide (c=q):=by rw[decide_eq_decide];omega
       rw[this]
       show _=(f c||(decide (c=q)||(!t q&&qAT t (qBv dx dy n (qBG dx dy q)) c)))
       rw[ht]
       simp[Bool.or_assoc]
      rw[e1,e2]
def qBC (dx dy:Int) (a:Nat):List Nat:=qBv dx dy 9 (qBG dx dy a)
theorem qgk:∀ (d:Fin 9) (a:Fin 81),(d.val=4 \/ qDP ((d.val / 3:Nat) - 1) ((d.val % 3:Nat) - 1) 9 (qBG ((d.val / 3:Nat) - 1) ((d.val % 3:Nat) - 1) a.val)=true):=by decide +kernel
theorem qdn {dx dy:Int} (h1:-1<=dx) (h2:dx<=1) (h3:-1<=dy) (h4:dy<=1) (hne:¬ (dx=0 /\ dy=0)) {a:Nat} (ha:a<81) (t:Nat->Bool):
  qHp a dx dy (sLo t) (sHi t)=some (sLo (qAT t (qBC dx dy a)),sHi (qAT t (qBC dx dy a))):=by
 unfold qHp
 rw[qI (by rw[Bool.and_eq_false_iff];simp;omega),qNr (by omega) (by omega) (by omega) (by omega) ha,qA]
 obtain⟨r1,r2⟩:=qUz dx dy a
 have he:qDP dx dy 9 (qBG dx dy a)=true:=by
  have:=qgk ⟨((dx+1)*3+(dy+1)).toNat,by omega⟩ ⟨a,ha⟩
  simp only at this
  rw[show (((((dx+1)*3+(dy+1)).toNat / 3:Nat):Int) - 1)=dx by omega,show (((((dx+1)*3+(dy+1)).toNat % 3:Nat):Int) - 1)=dy by omega] at this
  exact this.resolve_left (by omega)
 obtain⟨g,hg⟩:=qd 9 (by omega)
 have:=qrn (by omega) (by omega) (by omega) (by omega) t 0 0 9 _ r1 r2 he (fun _=>false) g
 rw[<- hg,qBi,qBh] at this
 rw[this,qA]
 simp only[Bool.false_or]
 rfl
def qIv (a c:Nat):Bool:=decide (qw a c=0)||((qBC (sgn (df a c)) (sgn (dr a c)) a).take (btw a c).length==btw a c&&((qBC (sgn (df a c)) (sgn (dr a c)) a)[(btw a c).length]? == some c && !(btw a c).contains c))
def qNP (a:Nat) (dx dy:Int):Bool:=(qBC dx dy a).all fun c=>decide (c<81)&&(decide (qw a c≠0)&&(decide (sgn (df a c)=dx)&&decide (sgn (dr a c)=dy)))
theorem qKV:∀ (a c:Fin 81),qIv a.val c.val=true:=by decide +kernel
theorem qTw:∀ (d:Fin 9) (a:Fin 81),(d.val=4 \/ qNP a.val ((d.val / 3:Nat) - 1) ((d.val % 3:Nat) - 1)=true):=by decide +kernel
theorem qdL (t:Nat->Bool) {c:Nat}:∀ (P Q:List Nat),c ∉ P->qAT t (P++c :: Q) c=P.all fun s=>!t s
 | [],Q,_=>by simp[qAT]
 | s :: P,Q,h=>by
   simp only[List.mem_cons,not_or] at h
   show (decide (c=s)||(!t s&&qAT t (P++c :: Q) c))=_
   rw[qdL t P Q h.2,List.all_cons,show decide (c=s)=false by simpa using h.1,Bool.false_or]
theorem qdJ (t:Nat->Bool) {c:Nat}:∀ (P:List Nat),c ∉ P->qAT t P c=false
 | [],_=>rfl
 | s :: P,h=>by
   simp only[List.mem_cons,not_or] at h
   show (decide (c=s)||(!t s&&qAT t P c))=_
   rw[qdJ t P h.2,show decide (c=s)=false by simpa using h.1];simp
def onW (dx dy:Int) (a c:Nat):Bool:=decide (qw a c≠0 /\ sgn (df a c)=dx /\ sgn (dr a c)=dy)
theorem qdM {dx dy:Int} (h1:-1<=dx) (h2:dx<=1) (h3:-1<=dy) (h4:dy<=1) (hne:¬ (dx=0 /\ dy=0)) {a c:Nat} (ha:a<81) (hc:c<81) (t:Nat->Bool):
  qAT t (qBC dx dy a) c=(onW dx dy a c&&qAo a c t):=by
 unfold onW
 by_cases h:qw a c≠0 /\ sgn (df a c)=dx /\ sgn (dr a c)=dy
 ·obtain⟨hl,rfl,rfl⟩:=h
  have:=qKV ⟨a,ha⟩ ⟨c,hc⟩
  simp only[qIv,Bool.or_eq_true,decide_eq_true_eq,Bool.and_eq_true,beq_iff_eq,Bool.not_eq_true'] at this
  obtain⟨e1,e2,e3⟩:=this.resolve_left hl
  have hlt:(btw a c).length<(qBC (sgn (df a c)) (sgn (dr a c)) a).length:=getElem?_lt e2
  have hsp:qBC (sgn (df a c)) (sgn (dr a c)) a=btw a c++c :: (qBC (sgn (df a c)) (sgn (dr a c)) a).drop ((btw a c).length+1):=by
   have:=qMU e2
   rw[e1] at this
   exact this
  rw[hsp,qdL t _ _ (by simpa using e3)]
  simp[hl,qAo]
 ·have hn:c ∉ qBC dx dy a:=by
   intro hm
   have:=qTw ⟨((dx+1)*3+(dy+1)).toNat,by omega⟩ ⟨a,ha⟩
   simp only at this
   rw[show (((((dx+1)*3+(dy+1)).toNat / 3:Nat):Int) - 1)=dx by omega,show (((((dx+1)*3+(dy+1)).toNat % 3:Nat):Int) - 1)=dy by omega] at this
   have:=this.resolve_left (by omega)
   unfold qNP at this
   rw[List.all_eq_true] at this
   have:=this c hm
   simp only[Bool.and_eq_true,decide_eq_true_eq] at this
   exact h ⟨this.2.1,this.2.2.1,this.2.2.2⟩
  rw[qdJ t _ hn]
  rw[decide_eq_false h,Bool.false_and]
def qAR (k:Int):List (List Int):=if k=2 then [[0,-1]] else if k=6 \/ k=14 then [[-1,-1],[1,-1],[-1,1],[1,1]] else if k=7 \/ k=15 then [[0,-1],[-1,0],[1,0],[0,1]] else []
theorem qPs (k:Int):qGJ k=some ((qAR k).length,(qAR k).length,qAR k):=by
 unfold qGJ qAR
 by_cases h2:k=2
 ·rw[qn h2,if_pos h2];rfl
 rw[qm h2,if_neg h2]
 by_cases h6:k=6
 ·rw[qn h6,if_pos (.inl h6)];rfl
 rw[qm h6]
 by_cases h14:k=14
 ·rw[qn h14,if_pos (.inr h14)];rfl
 rw[qm h14,if_neg (by omega)]
 by_cases h7:k=7
 ·rw[qn h7,if_pos (.inl h7)];rfl
 rw[qm h7]
 by_cases h15:k=15
 ·rw[qn h15,if_pos (.inr h15)];rfl
 rw[qm h15,if_neg (by omega)];rfl
theorem qlu (k:Int):(qAR k).length<=8 /\ ∀ r∈qAR k,r.length<=2 /\ -1<=dx_ r /\ dx_ r<=1 /\ -1<=dy_ r /\ dy_ r<=1 /\ ¬ (dx_ r=0 /\ dy_ r=0):=by
 have h1:∀ r∈[[0,-1]],(r:List Int).length<=2 /\ -1<=dx_ r /\ dx_ r<=1 /\ -1<=dy_ r /\ dy_ r<=1 /\ ¬ (dx_ r=0 /\ dy_ r=0):=by decide
 have h2:∀ r∈[[-1,-1],[1,-1],[-1,1],[1,1]],(r:List Int).length<=2 /\ -1<=dx_ r /\ dx_ r<=1 /\ -1<=dy_ r /\ dy_ r<=1 /\ ¬ (dx_ r=0 /\ dy_ r=0):=by decide
 have h3:∀ r∈[[0,-1],[-1,0],[1,0],[0,1]],(r:List Int).length<=2 /\ -1<=dx_ r /\ dx_ r<=1 /\ -1<=dy_ r /\ dy_ r<=1 /\ ¬ (dx_ r=0 /\ dy_ r=0):=by decide
 unfold qAR
 split
 ·exact⟨by decide,h1⟩
 ·split
  ·exact⟨by decide,h2⟩
  ·split
   ·exact⟨by decide,h3⟩
   ·exact⟨by decide,fun r hr=>by cases hr⟩
def qDJ (x:Int) (L:List (List Int)) (a c:Nat):Bool:=L.any fun r=>onW (sg x*dx_ r) (sg x*dy_ r) a c
theorem qle {x:Int} {a:Nat} (ha:a<81) (t:Nat->Bool) (L:List (List Int)) (hlen:L.length<=8) (hr:∀ r∈L,r.length<=2 /\ -1<=dx_ r /\ dx_ r<=1 /\ -1<=dy_ r /\ dy_ r<=1 /\ ¬ (dx_ r=0 /\ dy_ r=0)) (N:Nat) (u v:Int):
  ∀ (n i:Nat),i+n=L.length->∀ (f:Nat->Bool) (F:Nat),qFL (F+n+1) x a L.length (Int.ofNat L.length) i (sLo t) (sHi t) u v (sLo f) (sHi f) N L =
    some (u,v,sLo fun c=>f c||(qDJ x (L.drop i) a c&&qAo a c t),sHi fun c=>f c||(qDJ x (L.drop i) a c&&qAo a c t)):=by
 intro n
 induction n with
 | zero=>
   intro i hi f F
   show qHo (qFL (F+0)) _ _ _ _ _ _ _ _ _ _ _ _ _=_
   unfold qHo
   rw[qZ (by simp;omega),List.drop_eq_nil_of_le (by omega)]
   have:(fun c=>f c||(qDJ x [] a c&&qAo a c t))=f:=by funext c;simp[qDJ]
   rw[this]
 | succ n ih=>
   intro i hi f F
   show qHo (qFL (F+n+1)) _ _ _ _ _ _ _ _ _ _ _ _ _=_
   unfold qHo
   have hil:i<L.length:=by omega
   have hget:L.getD i []=L[i]:=by rw[List.getD_eq_getElem?_getD,List.getElem?_eq_getElem hil];rfl
   obtain⟨r0,r1,r2,r3,r4,r5⟩:=hr L[i] (List.getElem_mem hil)
   have ht:List.take 2 L[i]=L[i]:=List.take_of_length_le r0
   have hs:=qb8 x
   have c1:-1<=sg x*dx_ L[i] /\ sg x*dx_ L[i]<=1 /\ -1<=sg x*dy_ L[i] /\ sg x*dy_ L[i]<=1 /\ ¬ (sg x*dx_ L[i]=0 /\ sg x*dy_ L[i]=0):=by
    rcases hs with h | h<;>rw[h]<;>omega
   rw[qf (by simp;omega),qg (by omega) (by omega),tn,hget,ht,qDx,qA]
   show ob (qFi (dx_ L[i]) (dy_ L[i]) (sd x)) _=_
   rw[qdI (by omega),qA]
   simp only
   rw[qdn c1.1 c1.2.1 c1.2.2.1 c1.2.2.2.1 c1.2.2.2.2 ha,qA]
   simp only
   rw[qHg,qA]
   simp only
   rw[w_s (by omega) (by omega)]
   refine (ih (i+1) (by omega) _ F).trans ?_
   have hd:L.drop i=L[i] :: L.drop (i+1):=List.drop_eq_getElem_cons hil
   obtain⟨e1,e2⟩:=qB0 (f:=fun c=>(f c||qAT t (qBC (sg x*dx_ L[i]) (sg x*dy_ L[i]) a) c)||(qDJ x (L.drop (i+1)) a c&&qAo a c t)) (g:=fun c=>f c||(qDJ x (L.drop i) a c&&qAo a c t)) fun c hc=>by
    rw[qdM c1.1 c1.2.1 c1.2.2.1 c1.2.2.2.1 c1.2.2.2.2 ha hc,hd]
    unfold qDJ
    rw[List.any_cons,Bool.and_or_distrib_right,Bool.or_assoc]
   rw[e1,e2]
def qEL (d e:Int):Prop:=¬ (d=0 /\ e=0) /\ (d=0 \/ e=0 \/ d=e \/ d = -e)
instance (d e:Int):Decidable (qEL d e):=by unfold qEL;infer_instance
theorem qK7 (a c:Nat):qw a c≠0↔qEL (df a c) (dr a c):=by
 unfold qEL qw
 by_cases hac:a=c
 ·subst hac
  have:=qHK a
  simp[this.1,this.2]
 ·have:¬ (df a c=0 /\ dr a c=0):=fun h=>hac (qJB h.1 h.2)
  rw[if_neg hac]
  split
  ·rename_i h;constructor
   ·intro _;exact⟨this,by omega⟩
   ·intro _;omega
  ·split
   ·constructor
    ·intro _;exact⟨this,by omega⟩
    ·intro _;omega
   ·constructor
    ·intro h;omega
    ·rintro ⟨_,h⟩;omega
theorem qeG:∀ (k:Fin 16) (d e:Fin 17),(qAR ((k.val:Nat):Int)).any (fun r=>decide (qEL ((d.val:Int) - 8) ((e.val:Int) - 8) /\ sgn ((d.val:Int) - 8)=dx_ r /\ sgn ((e.val:Int) - 8)=dy_ r))=decide (slK ((k.val:Nat):Int) ((d.val:Int) - 8) (-((e.val:Int) - 8))):=by decide +kernel
theorem qeH:∀ (k:Fin 16) (d e:Fin 17),(qAR ((k.val:Nat):Int)).any (fun r=>decide (qEL ((d.val:Int) - 8) ((e.val:Int) - 8) /\ sgn ((d.val:Int) - 8) = -(dx_ r) /\ sgn ((e.val:Int) - 8) = -(dy_ r)))=decide (slK ((k.val:Nat):Int) ((d.val:Int) - 8) ((e.val:Int) - 8)):=by decide +kernel
theorem qeI (x:Int) {a c:Nat} (ha:a<81) (hc:c<81):qDJ x (qAR (kd x)) a c=qAj x a c:=by
 obtain⟨k0,k1,_⟩:=qCS x
 have hr:=qSN (x:=x) ha hc
 have hl:=qK7 a c
 unfold qAj qDJ onW sg upS
 by_cases hs:sd x=1
 ·simp only[hs,if_true]
  have:=qeH ⟨(kd x).toNat,by omega⟩ ⟨(df a c+8).toNat,by omega⟩ ⟨(dr a c+8).toNat,by omega⟩
  simp only[show (((kd x).toNat:Nat):Int)=kd x by omega,show (((df a c+8).toNat:Nat):Int) - 8=df a c by omega,show (((dr a c+8).toNat:Nat):Int) - 8=dr a c by omega] at this
  rw[<- this]
  congr 1
  funext r
  rw[decide_eq_decide,hl]
  constructor<;>(rintro ⟨h1,h2,h3⟩;refine⟨h1,?_,?_⟩<;>omega)
 ·simp only[hs,if_false]
  have:=qeG ⟨(kd x).toNat,by omega⟩ ⟨(df a c+8).toNat,by omega⟩ ⟨(dr a c+8).toNat,by omega⟩
  simp only[show (((kd x).toNat:Nat):Int)=kd x by omega,show (((df a c+8).toNat:Nat):Int) - 8=df a c by omega,show (((dr a c+8).toNat:Nat):Int) - 8=dr a c by omega] at this
  rw[<- this]
  congr 1
  funext r
  rw[decide_eq_decide,hl]
  constructor<;>(rintro ⟨h1,h2,h3⟩;refine⟨h1,?_,?_⟩<;>omega)
theorem qLd (x:Int) {a:Nat} (ha:a<81) (t:Nat->Bool):qFK x a (sLo t) (sHi t)=some (sLo (fun c=>rch x a c t),sHi fun c=>rch x a c t):=by
 obtain⟨hlen,hrs⟩:=qlu (kd x)
 obtain⟨g,hg⟩:=qd (qAR (kd x)).length (by omega)
 have:=qle (x:=x) ha t (qAR (kd x)) hlen hrs (qAR (kd x)).length 0 0 (qAR (kd x)).length 0 (by omega) (qAz x a) g
 rw[<- hg] at this
 unfold qFK
 rw[qqG x ha,qA]
 simp only
 rw[qBd,qA,qPs,qA]
 simp only
 rw[show qFL qC x a (qAR (kd x)).length (Int.ofNat (qAR (kd x)).length) 0 (sLo t) (sHi t) 0 0 (sLo (qAz x a)) (sHi (qAz x a)) (qAR (kd x)).length (qAR (kd x))=_ from this,qA]
 simp only
 obtain⟨e1,e2⟩:=qB0 (f:=fun c=>qAz x a c||(qDJ x (List.drop 0 (qAR (kd x))) a c&&qAo a c t)) (g:=fun c=>rch x a c t) fun c hc=>by
  rw[List.drop_zero,qeI x ha hc]
  rfl
 rw[e1,e2]
end Go.Kk.Pl
namespace Go.Kk.Pl
theorem qek:∀ (a c:Fin 81),(btw a.val c.val).all (fun s=>(btw c.val a.val).contains s)=true:=by decide +kernel
theorem qIp {a c:Nat} (ha:a<81) (hc:c<81) {s:Nat} (hs:s∈btw a c):s∈btw c a:=by
 have:=qek ⟨a,ha⟩ ⟨c,hc⟩
 rw[List.all_eq_true] at this
 simpa using this s hs
theorem qHB {a c:Nat} {t:Nat->Bool}:qAo a c t=true ↔ ∀ s∈btw a c,t s=false:=by simp[qAo]
theorem qg5 {a c:Nat} (ha:a<81) (hc:c<81) (t:Nat->Bool):qAo a c t=qAo c a t:=by
 rw[Bool.eq_iff_iff,qHB,qHB]
 exact⟨fun h s hs=>h s (qIp hc ha hs),fun h s hs=>h s (qIp ha hc hs)⟩
theorem qg6 {a c:Nat} (ha:a<81) (hc:c<81) {t t':Nat->Bool} (h:∀ s,s<81->t s=t' s):qAo a c t=qAo a c t':=by
 rw[Bool.eq_iff_iff,qHB,qHB]
 exact⟨fun hh s hs=>by rw[<- h s (qIq ha hc hs)];exact hh s hs,fun hh s hs=>by rw[h s (qIq ha hc hs)];exact hh s hs⟩
theorem qYF {x:Int} {a c:Nat} (ha:a<81) (hc:c<81) {t t':Nat->Bool} (h:∀ s,s<81->t s=t' s):rch x a c t=rch x a c t':=by
 unfold rch;rw[qg6 ha hc h]
theorem qDu {s k:Int} (hs:s=0 \/ s=1) (h1:1<=k) (h2:k<=15) (h3:k≠13):sd (pc s k)=s /\ kd (pc s k)=k:=by
 rw[qA5 hs h1 h2 h3]
 have hk:=qHN hs h1 h2 h3
 refine⟨?_,hk⟩
 unfold sd
 rw[hk,if_neg (by omega)]
 rcases hs with rfl | rfl
 ·rw[if_pos (by omega)]
 ·rw[if_neg (by omega)]
theorem qqj (k d u:Int):qB1 k (-d) u↔qB1 k d u:=by
 unfold qB1
 exact or_congr (by omega) (or_congr (by omega) (or_congr (by omega) (or_congr (by omega) (or_congr (by omega) (or_congr (by omega) (by omega))))))
theorem qpt (k d u:Int):slK k (-d) u↔slK k d u:=by
 unfold slK
 exact or_congr (by omega) (or_congr (by omega) (by omega))
theorem qlt {s k:Int} (hs:s=0 \/ s=1) (h1:1<=k) (h2:k<=15) (h3:k≠13) {a c:Nat} (ha:a<81) (hc:c<81) (t:Nat->Bool):
  rch (pc (1 - s) k) a c t=rch (pc s k) c a t:=by
 obtain⟨e1,e2⟩:=qDu hs h1 h2 h3
 obtain⟨e3,e4⟩:=qDu (s:=1 - s) (by omega) h1 h2 h3
 have hd:df a c = -df c a:=by unfold df;omega
 have hr:dr a c = -dr c a:=by unfold dr;omega
 have hu:upS (pc (1 - s) k) a c=upS (pc s k) c a:=by
  unfold upS
  rw[e1,e3]
  rcases hs with rfl | rfl
  ·rw[if_pos (by omega),if_neg (by omega)];exact hr
  ·rw[if_neg (by omega),if_pos (by omega),hr];omega
 unfold rch qAz qAj
 rw[e2,e4,hu,qg5 ha hc]
 have s1:decide (qB1 k (df a c) (upS (pc s k) c a))=decide (qB1 k (df c a) (upS (pc s k) c a)):=by
  rw[decide_eq_decide,hd];exact qqj _ _ _
 have s2:decide (slK k (df a c) (upS (pc s k) c a))=decide (slK k (df c a) (upS (pc s k) c a)):=by
  rw[decide_eq_decide,hd];exact qpt _ _ _
 rw[s1,s2]
theorem qLU {x:Int} (h:kd x≠0):x=pc (sd x) (kd x):=by
 obtain⟨k0,k1,k2⟩:=qCS x
 have hs:=qIB h
 rw[qA5 hs (by omega) k1 k2]
 have hr:=qJC h
 unfold sd kd at *
 rw[if_neg h]
 split at h
 ·omega
 ·rename_i hh
  rw[if_neg hh]
  split<;>omega
def onF (b:List Int) (q:Nat) (s:Int) (t:Nat->Bool) (i:Int) (c:Nat):Bool:=decide (sd (b.getD c 0)=s /\ i<=kd (b.getD c 0))&&rch (b.getD c 0) c q t
theorem qeS {b:List Int} (h:List Int) (S:Int) (sd':List (List Int)) {s:Int} (hs:s=0 \/ s=1) {q:Nat} (hq:q<81) (t:Nat->Bool) (u v:Int):∀ (n:Nat) (k:Int),k=16 - n->n<=15->∀ (f:Nat->Bool) (F:Nat),
  qD8 (F+n+1) q s k b h S (qJ b) sd' (sLo t) (sHi t) u v (sLo f) (sHi f)=some (b,h,S,qJ b,sd',u,v,sLo fun c=>f c||onF b q s t k c,sHi fun c=>f c||onF b q s t k c):=by
 intro n
 induction n with
 | zero=>
   intro k hk _ f F
   show qGs (qD8 (F+0)) _ _ _ _ _ _ _ _ _ _ _ _ _ _=_
   unfold qGs
   rw[qGw (by omega)]
   have:(fun c=>f c||onF b q s t k c)=f:=by
    funext c
    have:=(qCS (b.getD c 0)).2.1
    unfold onF
    rw[decide_eq_false (by omega)]
    simp
   rw[this]
 | succ n ih=>
   intro k hk hn f F
   show qGs (qD8 (F+n+1)) _ _ _ _ _ _ _ _ _ _ _ _ _ _=_
   unfold qGs
   rw[qIk (by omega),w_s (n:=1 - s) (by omega) (by omega),qLK,qA,w_s (n:=k+1) (by omega) (by omega)]
   by_cases h13:k=13
   ·have hz:pc (1 - s) k=0:=qPW (by omega)
    rw[qn hz]
    refine (ih (k+1) (by omega) (by omega) f F).trans ?_
    have:(fun c=>f c||onF b q s t (k+1) c)=fun c=>f c||onF b q s t k c:=by
     funext c
     have:=(qCS (b.getD c 0)).2.2
     unfold onF
     congr 2
     rw[decide_eq_decide]
     omega
    rw[this]
   ·have hp:=qA5 (s:=1 - s) (k:=k) (by omega) (by omega) (by omega) h13
    rw[qm (by rw[hp];omega),qLd _ hq,qA]
    simp only
    rw[qHf,qA]
    simp only
    rw[qFt,qA]
    simp only
    rw[qHg,qA]
    simp only
    refine (ih (k+1) (by omega) (by omega) _ F).trans ?_
    obtain⟨e1,e2⟩:=qB0 (f:=fun c=>(f c||(rch (pc (1 - s) k) q c t&&pcs b (pc s k) c))||onF b q s t (k+1) c) (g:=fun c=>f c||onF b q s t k c) fun c hc=>by
     rw[qlt hs (by omega) (by omega) h13 hq hc,Bool.or_assoc]
     congr 1
     obtain⟨g1,g2⟩:=qDu hs (by omega) (by omega) h13
     have hne:pc s k≠0:=by rw[qA5 hs (by omega) (by omega) h13];omega
     unfold onF pcs
     by_cases hx:b.getD c 0=pc s k
     ·rw[hx,g1,g2,decide_eq_true (show pc s k≠0 /\ pc s k=pc s k from ⟨hne,rfl⟩),decide_eq_false (by omega),decide_eq_true (by omega)]
      simp
     ·rw[decide_eq_false (p:=pc s k≠0 /\ b.getD c 0=pc s k) (by omega),Bool.and_false,Bool.false_or]
      congr 1
      rw[decide_eq_decide]
      constructor
      ·rintro ⟨h1,h2⟩;exact⟨h1,by omega⟩
      ·rintro ⟨h1,h2⟩
       refine⟨h1,?_⟩
       rcases Int.lt_or_eq_of_le h2 with h3 | h3
       ·omega
       ·exfalso
        apply hx
        have hk0:kd (b.getD c 0)≠0:=by omega
        have:=qLU hk0
        rw[h1,<- h3] at this
        exact this
    rw[e1,e2]
def onS (b:List Int) (q s:Int) (t:Nat->Bool) (c:Nat):Bool:=decide (0<=q /\ q<81)&&(decide (s=0 \/ s=1)&&(decide (sd (b.getD c 0)=s)&&rch (b.getD c 0) c q.toNat t))
theorem qke (b:List Int) {s:Int} (hs:s=0 \/ s=1) (q:Nat) (hq:q<81) (t:Nat->Bool):onF b q s t 1=onS b q s t:=by
 funext c
 unfold onF onS
 rw[decide_eq_true (show (0:Int)<=q /\ (q:Int)<81 by omega),decide_eq_true hs,Bool.true_and,Bool.true_and]
 congr 1
 rw[decide_eq_decide]
 constructor
 ·exact fun h=>h.1
 ·intro h
  refine⟨h,?_⟩
  have:=(qCS (b.getD c 0)).1
  rcases Int.lt_or_eq_of_le this with h1 | h1
  ·omega
  ·rw[qaq h1.symm] at h;omega
theorem qXJ (b h:List Int) (S:Int) (sd':List (List Int)) (q s:Int) (t:Nat->Bool):qGr q s (sLo t) (sHi t) b h S (qJ b) sd'=some (sLo (onS b q s t),sHi (onS b q s t)):=by
 have none:¬ ((0<=q /\ q<81) /\ (s=0 \/ s=1))->onS b q s t=fun _=>false:=by
  intro hn
  funext c
  unfold onS
  by_cases h1:0<=q /\ q<81
  ·rw[decide_eq_false (p:=s=0 \/ s=1) (fun h2=>hn ⟨h1,h2⟩)];simp
  ·rw[decide_eq_false h1];simp
 unfold qGr
 by_cases h0:q<0
 ·rw[qf h0,none (by omega),qBi,qBh]
 rw[qZ h0]
 by_cases h1:q >= 81
 ·rw[qB4 h1,none (by omega),qBi,qBh]
 rw[qBX h1]
 obtain⟨a,rfl⟩:∃ a:Nat,q=a:=⟨q.toNat,by omega⟩
 obtain⟨g,hg⟩:=qd 15 (by omega)
 have main:(s=0 \/ s=1)->qD8 qC a s 1 b h S (qJ b) sd' (sLo t) (sHi t) 0 0 0 0=some (b,h,S,qJ b,sd',0,0,sLo (onS b a s t),sHi (onS b a s t)):=by
  intro hs
  have:=qeS (b:=b) h S sd' hs (q:=a) (by omega) t 0 0 15 1 (by omega) (by omega) (fun _=>false) g
  rw[<- hg,qBi,qBh] at this
  rw[this,qke b hs a (by omega)]
  simp only[Bool.false_or]
 by_cases h2:s=0
 ·rw[qu h2,main (.inl h2),qA]
 ·rw[qq h2]
  by_cases h3:s=1
  ·rw[qu h3,main (.inr h3),qA]
  ·rw[qq h3,none (by omega),qBi,qBh]
def kg (b:List Int) (s:Int):Int:=fst (pcs b (pc s 8))
def chs (b:List Int) (s:Int):Nat->Bool:=onS b (kg b s) (1 - s) (tk b)
def inC (b:List Int) (s:Int):Bool:=!isE (chs b s)
theorem qU1 (f:Nat->Bool):-1<=fst f /\ fst f<81:=by
 unfold fst
 split
 ·rename_i i hi
  have:=List.mem_of_find?_eq_some hi
  rw[List.mem_range] at this
  omega
 ·omega
theorem qTv {b:List Int} (hc:Clean b) (h:List Int) (S:Int) {s:Int} (hs:-10<=s /\ s<=10):qGq s b h S (qJ b) (qK b)=some (sLo (chs b s),sHi (chs b s)):=by
 unfold qGq
 rw[qOW,qA,qJ4 hc,qA]
 simp only
 rw[w_s (by omega) (by omega),qXJ,qA]
 rfl
theorem qKW {b h:List Int} {s:Int} (hl:b.length=81) (hz:qBE b h s=0):Clean b /\ (s=0 \/ s=1):=by
 unfold qBE at hz
 split at hz
 ·omega
 ·rename_i hs
  split at hz
  ·omega
  ·rename_i hb
   exact⟨qeo hl (by simpa using hb),by omega⟩
def qC0 (b h:List Int) (s:Int):Int:=if qBE b h s≠0 then qBE b h s else if inC b (1 - s) then 54 else 0
def tkL (b:List Int) (i:Nat):List Bool:=(List.range 81).map fun j=>decide (j<i)&&tk b j
theorem qq0 (b h:List Int) (s:Int) (w:List Bool):∀ (n i:Nat),i+n=81->∀ F,qET (F+n+1) i b h s w (tkL b i)=some (w,tkL b 81):=by
 intro n
 induction n with
 | zero=>
   intro i hi F
   show qHx (qET (F+0)) _ _ _ _ _ _=_
   unfold qHx
   rw[qZ (by omega),show i=81 by omega]
 | succ n ih=>
   intro i hi F
   show qHx (qET (F+n+1)) _ _ _ _ _ _=_
   unfold qHx
   have e:List.set (tkL b i) i (b.getD i 0 != 0)=tkL b (i+1):=by
    unfold tkL
    rw[map_set]
    apply List.map_congr_left
    intro j _
    split
    ·rename_i hj;subst hj
     rw[decide_eq_true (show j<j+1 by omega),Bool.true_and]
     unfold tk
     rw[Bool.eq_iff_iff];simp
    ·rename_i hj
     congr 1
     rw[decide_eq_decide];omega
   rw[qf (by omega),qg (by omega) (by omega),qg (by omega) (by omega),tn,e,w_s (by omega) (by omega)]
   exact ih (i+1) (by omega) F
theorem qq3 (b:List Int):tkL b 0=List.replicate 81 false:=by
 unfold tkL
 apply List.ext_getElem
 ·simp
 ·intro i h1 h2
  rw[List.getElem_map,List.getElem_replicate,decide_eq_false (by omega),Bool.false_and]
def qDF (b:List Int):List Bool:=tkL b 81
theorem qSG (b h:List Int) (s:Int):qES b h s=some (qDF b):=by
 obtain⟨g,hg⟩:=qd 81 (by omega)
 have:=qq0 b h s (List.replicate 81 false) 81 0 (by omega) g
 rw[<- hg,qq3] at this
 unfold qES
 show ob (qET qC 0 b h s (List.replicate 81 false) (List.replicate 81 false)) _=_
 rw[show qET qC 0 b h s (List.replicate 81 false) (List.replicate 81 false)=_ from this,qA]
 rfl
theorem qqz (b:List Int) {i:Nat} (h:i<81):(qDF b).getD i false=tk b i:=by
 unfold qDF tkL
 rw[qO8 _ h,decide_eq_true h,Bool.true_and]
theorem qPt (b:List Int) (x:Int) {a c:Nat} (ha:a<81) (hc:c<81):qFQ x a c (qDF b)=some (rch x a c (tk b)):=by
 rw[qlv x ha hc,qYF ha hc fun s hs=>qqz b hs]
theorem qoA (b h:List Int) (S:Int) {s:Int} (hs:s=0 \/ s=1):∀ (n i:Nat),i+n=81->(∀ j,j<i->pcs b (pc s 8) j=false)->∀ F,qFU (F+n+1) s i b h S=some (if kg b s = -1 then .inr () else .inl (kg b s)):=by
 have hp:pc s 8=16*s+8:=qA5 hs (by omega) (by omega) (by omega)
 intro n
 induction n with
 | zero=>
   intro i hi hj F
   show qH0 (qFU (F+0)) _ _ _ _ _=_
   unfold qH0
   have:kg b s = -1:=qU0 fun j hj'=>hj j (by omega)
   rw[qZ (by omega),if_pos this]
 | succ n ih=>
   intro i hi hj F
   show qH0 (qFU (F+n+1)) _ _ _ _ _=_
   unfold qH0
   rw[qf (by omega),qg (by omega) (by omega),tn,c_8,w_s (n:=16*s) (by omega) (by omega),w_s (n:=16*s+8) (by omega) (by omega),w_s (by omega) (by omega),<- hp]
   by_cases hx:b.getD i 0=pc s 8
   ·have hk:pcs b (pc s 8) i=true:=by unfold pcs;rw[decide_eq_true];exact⟨by rw[hp];omega,hx⟩
    have:kg b s=i:=qKn (by omega) hk hj
    rw[qn hx,this,if_neg (by omega)]
   ·rw[qm hx]
    refine ih (i+1) (by omega) (fun j hj'=>?_) F
    by_cases hji:j=i
    ·subst hji;unfold pcs;rw[decide_eq_false];exact fun hh=>hx hh.2
    ·exact hj j (by omega)
theorem qoB (b h:List Int) (S:Int) {s:Int} (hs:s=0 \/ s=1):qJb b h S s=some (kg b s):=by
 obtain⟨g,hg⟩:=qd 81 (by omega)
 have:=qoA b h S hs 81 0 (by omega) (fun j hj=>absurd hj (by omega)) g
 rw[<- hg] at this
 unfold qJb
 rw[show qFU qC s 0 b h S=_ from this,qA]
 split
 ·rename_i hk;rw[hk];rfl
 ·rfl
theorem qn8 (b h:List Int) (S s:Int) (hs:s=0 \/ s=1) (k:Nat) (hk:k<81):∀ (n i:Nat),i+n=81->∀ F,
  qFT (F+n+1) s k i b h S (qDF b)=some (if (List.range' i n).any (onS b k (1 - s) (tk b)) then .inl true else .inr ()):=by
 intro n
 induction n with
 | zero=>
   intro i hi F
   show qHz (qFT (F+0)) _ _ _ _ _ _ _=_
   unfold qHz
   rw[qZ (by omega)]
   rfl
 | succ n ih=>
   intro i hi F
   show qHz (qFT (F+n+1)) _ _ _ _ _ _ _=_
   unfold qHz
   have hr:=ih (i+1) (by omega) F
   rw[qf (by omega),qg (by omega) (by omega),tn,c_8,qEW,qA,w_s (n:=1 - s) (by omega) (by omega),w_s (by omega) (by omega),any_cons]
   have hon:onS b k (1 - s) (tk b) i=(decide (sd (b.getD i 0)=1 - s)&&rch (b.getD i 0) i k (tk b)):=by
    unfold onS
    rw[decide_eq_true (show (0:Int)<=k /\ (k:Int)<81 by omega),decide_eq_true (show 1 - s=0 \/ 1 - s=1 by omega),Bool.true_and,Bool.true_and,tn]
   rw[hon]
   by_cases hsd:sd (b.getD i 0)=1 - s
   ·rw[qn hsd,qg (by omega) (by omega),qPt b _ (by omega) hk,qA,decide_eq_true hsd,Bool.true_and]
    cases rch (b.getD i 0) i k (tk b) with
    | true=>rfl
    | false=>rw[b_f,Bool.false_or];exact hr
   ·rw[qm hsd,decide_eq_false hsd,Bool.false_and,Bool.false_or]
    exact hr
theorem qeJ (f:Nat->Bool):(List.range' 0 81).any f = !isE f:=by
 unfold isE
 rw[qXt,Bool.eq_iff_iff]
 simp only[List.any_eq_true,Bool.not_eq_true']
 rw[List.all_eq_false]
 simp
theorem qQ7 (b h:List Int) (S:Int) {s:Int} (hs:s=0 \/ s=1):qGN b h S s=some (inC b s):=by
 unfold qGN
 rw[qSG,qA,qoB b h S hs,qA]
 have hr:=qU1 (pcs b (pc s 8))
 have hkg:kg b s=fst (pcs b (pc s 8)):=rfl
 by_cases hk:kg b s<0
 ·rw[qf hk]
  have:chs b s=fun _=>false:=by
   funext c
   unfold chs onS
   rw[decide_eq_false (by omega),Bool.false_and]
  unfold inC
  rw[this,qhu]
  rfl
 ·obtain⟨k,hkk⟩:∃ k:Nat,kg b s=k:=⟨(kg b s).toNat,by omega⟩
  obtain⟨g,hg⟩:=qd 81 (by omega)
  have:=qn8 b h S s hs k (by omega) 81 0 (by omega) g
  rw[<- hg,qeJ,<- hkk] at this
  rw[qZ hk,show qFT qC s (kg b s) 0 b h S (qDF b)=_ from this,qA]
  unfold inC chs
  cases isE (onS b (kg b s) (1 - s) (tk b))<;>rfl
theorem qXu {b h:List Int} (hl:b.length=81) (hf:qAl h) (s:Int):qHy b h s=some (qC0 b h s):=by
 unfold qHy qC0
 rw[qaa hl hf,qA]
 by_cases hz:qBE b h s=0
 ·obtain⟨hc,hs⟩:=qKW hl hz
  rw[qu hz,if_neg (by simpa using hz),w_s (by omega) (by omega),qQ7 b h s (by omega),qA]
  cases inC b (1 - s)<;>rfl
 ·rw[qq hz,if_pos hz]
def ofL (L:List Int) (c:Nat):Bool:=L.any fun q=>only q c
theorem qj7 (L:List Int) (hl:L.length<=1000) (N:Nat) (u v:Int):∀ (n i:Nat),i+n=L.length->∀ (f:Nat->Bool) (F:Nat),
  qFf (F+n+1) L.length L.length i N L u v (sLo f) (sHi f)=some (N,L,u,v,sLo fun c=>f c||ofL (L.drop i) c,sHi fun c=>f c||ofL (L.drop i) c):=by
 intro n
 induction n with
 | zero=>
   intro i hi f F
   show qII (qFf (F+0)) _ _ _ _ _ _ _ _ _=_
   unfold qII
   rw[qZ (by omega),List.drop_eq_nil_of_le (by omega)]
   have:(fun c=>f c||ofL [] c)=f:=by funext c;simp[ofL]
   rw[this]
 | succ n ih=>
   intro i hi f F
   show qII (qFf (F+n+1)) _ _ _ _ _ _ _ _ _=_
   unfold qII
   have hil:i<L.length:=by omega
   have hget:L.getD i 0=L[i]:=qGp hil
   rw[qf (by omega),qg (by omega) (by omega),tn,hget,qGj,qA]
   simp only
   rw[w_s (by omega) (by omega)]
   refine (ih (i+1) (by omega) _ F).trans ?_
   have hd:L.drop i=L[i] :: L.drop (i+1):=List.drop_eq_getElem_cons hil
   have:(fun c=>(f c||only L[i] c)||ofL (L.drop (i+1)) c)=fun c=>f c||ofL (L.drop i) c:=by
    funext c
    rw[hd]
    unfold ofL
    rw[List.any_cons,Bool.or_assoc]
   rw[this]
theorem qj8 (L:List Int) (hl:L.length<=1000) (N:Nat):qIH L.length N L=some (sLo (ofL L),sHi (ofL L)):=by
 obtain⟨g,hg⟩:=qd L.length (by omega)
 have:=qj7 L hl N 0 0 L.length 0 (by omega) (fun _=>false) g
 rw[<- hg,qBi,qBh] at this
 unfold qIH
 rw[show qFf qC L.length (Int.ofNat L.length) 0 N L 0 0 0 0=_ from this,qA]
 simp only[Bool.false_or,List.drop_zero]
theorem qEc (f:Nat->Bool):(sq f).length<=81:=by
 unfold sq;rw[List.length_map];exact Nat.le_trans (List.length_filter_le _ _) (by simp)
end Go.Kk.Pl
namespace Go.Kk.Pl
theorem qGc {f:Nat->Bool} {q:Int} (h:q∈sq f):0<=q /\ q<81 /\ f q.toNat=true:=by
 unfold sq at h
 obtain⟨j,hj,rfl⟩:=List.mem_map.1 h
 obtain⟨h1,h2⟩:=List.mem_filter.1 hj
 rw[List.mem_range] at h1
 refine⟨by simp,by simp only[Int.ofNat_eq_natCast];omega,by simpa using h2⟩
theorem qWw {f:Nat->Bool} {q:Nat} (hq:q<81) (h:f q=true):(q:Int)∈sq f:=by
 unfold sq
 exact List.mem_map.2 ⟨q,List.mem_filter.2 ⟨by simpa using hq,h⟩,rfl⟩
end Go.Kk.Pl
namespace Go.Kk.Pl
theorem qdK (t:Nat->Bool) {c:Nat} (ht:t c=true) {i:Nat}:∀ (P Q:List Nat),(∀ s∈P,t s=false)->qAT t (P++c :: Q) i=(P.contains i||decide (i=c))
 | [],Q,_=>by
   show (decide (i=c)||(!t c&&qAT t Q i))=_
   rw[ht];simp
 | s :: P,Q,h=>by
   show (decide (i=s)||(!t s&&qAT t (P++c :: Q) i))=_
   rw[h s List.mem_cons_self,Bool.not_false,Bool.true_and,qdK t ht P Q (fun s hs=>h s (List.mem_cons_of_mem _ hs)),List.contains_cons,Bool.or_assoc]
   congr 1
theorem qkg {dx dy:Int} {a c:Nat} (ha:a<81) (hc:c<81) (h:onW dx dy a c=true) (i:Nat):(qAT (only c) (qBC dx dy a) i && !only c i)=(btw a c).contains i:=by
 obtain⟨hl,rfl,rfl⟩:=of_decide_eq_true h
 have:=qKV ⟨a,ha⟩ ⟨c,hc⟩
 simp only[qIv,Bool.or_eq_true,decide_eq_true_eq,Bool.and_eq_true,beq_iff_eq,Bool.not_eq_true'] at this
 obtain⟨e1,e2,e3⟩:=this.resolve_left hl
 have hsp:qBC (sgn (df a c)) (sgn (dr a c)) a=btw a c++c :: (qBC (sgn (df a c)) (sgn (dr a c)) a).drop ((btw a c).length+1):=by
  have:=qMU e2
  rw[e1] at this
  exact this
 have hn:c ∉ btw a c:=by simpa using e3
 rw[hsp,qdK (only c) (by unfold only;simp) _ _ (fun s hs=>by
  unfold only
  rw[decide_eq_false_iff_not]
  intro e
  have:s=c:=by omega
  exact hn (this ▸ hs))]
 unfold only
 by_cases hi:i=c
 ·subst hi
  rw[e3];simp
 ·rw[decide_eq_false hi,decide_eq_false (p:=(i:Int)=c) (by omega)];simp
theorem qkh {dx dy:Int} (h1:-1<=dx) (h2:dx<=1) (h3:-1<=dy) (h4:dy<=1) (hne:¬ (dx=0 /\ dy=0)) {a c:Nat} (ha:a<81) (hc:c<81):qAT (only c) (qBC dx dy a) c=onW dx dy a c:=by
 rw[qdM h1 h2 h3 h4 hne ha hc]
 cases h:onW dx dy a c with
 | false=>rfl
 | true=>
   rw[Bool.true_and,qHB]
   intro s hs
   unfold only
   rw[decide_eq_false_iff_not]
   intro e
   have hsc:s=c:=by omega
   obtain⟨hl,_,_⟩:=of_decide_eq_true h
   have:=qKV ⟨a,ha⟩ ⟨c,hc⟩
   simp only[qIv,Bool.or_eq_true,decide_eq_true_eq,Bool.and_eq_true,beq_iff_eq,Bool.not_eq_true'] at this
   have:=(this.resolve_left hl).2.2
   rw[<- hsc] at this
   have h2:(btw a s).contains s=true:=List.contains_iff_mem.mpr (hsc ▸ hs)
   rw[this] at h2
   cases h2
def qAm:List (List Int):=[[-1,-1],[1,-1],[-1,1],[1,1],[0,-1],[-1,0],[1,0],[0,1]]
theorem qd8 {a c:Nat}:(qAm.any fun r=>onW (dx_ r) (dy_ r) a c)=decide (qw a c≠0):=by
 unfold qAm onW dx_ dy_
 by_cases h:qw a c=0
 ·simp[h]
 ·have hl:=(qK7 a c).mp h
  have hx:sgn (df a c) = -1 \/ sgn (df a c)=0 \/ sgn (df a c)=1:=by unfold sgn;split<;>(try split)<;>omega
  have hy:sgn (dr a c) = -1 \/ sgn (dr a c)=0 \/ sgn (dr a c)=1:=by unfold sgn;split<;>(try split)<;>omega
  have hn:¬ (sgn (df a c)=0 /\ sgn (dr a c)=0):=by
   unfold qEL at hl
   unfold sgn
   split<;>split<;>(try split)<;>(try split)<;>omega
  rcases hx with hx | hx | hx<;>rcases hy with hy | hy | hy<;>simp[hx,hy,h] at hn ⊢
theorem qer {a c:Nat} (ha:a<81) (hc:c<81) (N:Nat):∀ (n i:Nat),i+n=8->∀ F,
  qFJ (F+n+1) a c 8 8 i 0 0 N qAm=some (if (qAm.drop i).any (fun r=>onW (dx_ r) (dy_ r) a c) then .inl (sLo (fun i=>(btw a c).contains i),sHi (fun i=>(btw a c).contains i)) else .inr (0,0)):=by
 intro n
 induction n with
 | zero=>
   intro i hi F
   show qHn (qFJ (F+0)) _ _ _ _ _ _ _ _ _=_
   unfold qHn
   rw[qZ (by omega),List.drop_eq_nil_of_le (by show 8<=i;omega)]
   rfl
 | succ n ih=>
   intro i hi F
   show qHn (qFJ (F+n+1)) _ _ _ _ _ _ _ _ _=_
   unfold qHn
   obtain⟨r,hget,hdr,e1,e2,g1,g2,g3,g4,g5⟩:∃ r,qAm.getD i []=r /\ qAm.drop i=r :: qAm.drop (i+1) /\ List.headD (List.take 2 r) 0=dx_ r /\ List.headD (List.tail (List.take 2 r)) 0=dy_ r /\ -1<=dx_ r /\ dx_ r<=1 /\ -1<=dy_ r /\ dy_ r<=1 /\ ¬ (dx_ r=0 /\ dy_ r=0):=by
    have:∀ j:Fin 8,qAm.drop j.val=qAm.getD j.val [] :: qAm.drop (j.val+1) /\ List.headD (List.take 2 (qAm.getD j.val [])) 0=dx_ (qAm.getD j.val []) /\ List.headD (List.tail (List.take 2 (qAm.getD j.val []))) 0=dy_ (qAm.getD j.val []) /\ -1<=dx_ (qAm.getD j.val []) /\ dx_ (qAm.getD j.val [])<=1 /\ -1<=dy_ (qAm.getD j.val []) /\ dy_ (qAm.getD j.val [])<=1 /\ ¬ (dx_ (qAm.getD j.val [])=0 /\ dy_ (qAm.getD j.val [])=0):=by decide
    exact⟨_,rfl,this ⟨i,by omega⟩⟩
   have ho:ofL [(c:Int)]=only c:=by
    funext j;unfold ofL;simp
   have hof:qIH 1 1 [(c:Int)]=some (sLo (only c),sHi (only c)):=by
    have:=qj8 [(c:Int)] (by simp) 1
    rw[ho] at this
    exact this
   have hh:∀ g:Nat->Bool,has g (c:Int)=g c:=by
    intro g;unfold has;rw[decide_eq_true (by omega),decide_eq_true (by omega),tn];rfl
   rw[qf (by omega),qg (by omega) (by omega),tn,hget,e1,e2,hof,qA]
   simp only
   rw[qdn g1 g2 g3 g4 g5 ha,qA]
   simp only
   rw[qEI,qA,hh,qkh g1 g2 g3 g4 g5 ha hc,hdr,List.any_cons]
   cases hon:onW (dx_ r) (dy_ r) a c with
   | true=>
     rw[b_t,qKD,qA,Bool.true_or,if_pos rfl]
     have:(fun i=>qAT (only c) (qBC (dx_ r) (dy_ r) a) i && !only c i)=fun i=>(btw a c).contains i:=by
      funext j;exact qkg ha hc hon j
     rw[this]
   | false=>
     rw[b_f,Bool.false_or,w_s (n:=(i:Int)+1) (by omega) (by omega)]
     exact ih (i+1) (by omega) F
theorem qXw {a c:Nat} (ha:a<81) (hc:c<81):qHm a c=some (sLo (fun i=>(btw a c).contains i),sHi (fun i=>(btw a c).contains i)):=by
 unfold qHm
 rw[qPs,qA]
 simp only
 rw[qPs,qA]
 simp only
 obtain⟨g,hg⟩:=qd 8 (by omega)
 have:=qer ha hc ((qAR 6).length+(qAR 7).length) 8 0 (by omega) g
 rw[<- hg,List.drop_zero,qd8] at this
 have e8:(qAR 6).length+(qAR 7).length=8:=by decide
 have eL:List.append (List.take (qAR 6).length (qAR 6)) (List.take (qAR 7).length (qAR 7))=qAm:=by decide
 rw[eL,e8] at *
 rw[qD (by decide),show qFJ qC a c 8 (Int.ofNat 8) 0 0 0 8 qAm=_ from this,qA]
 by_cases h:qw a c=0
 ·rw[decide_eq_false (p:=qw a c≠0) (by simpa using h),if_neg (by simp),qAk]
  have:btw a c=[]:=by unfold btw;rw[if_pos h]
  rw[this]
  simp only[List.contains_nil]
  rw[qBi,qBh]
 ·rw[decide_eq_true (p:=qw a c≠0) h,if_pos rfl,qGi]
end Go.Kk.Pl
namespace Go.Kk.Pl
theorem qQ3 (k:Int):qER k=some (up_ k):=by
 unfold qER up_
 by_cases h1:k >= 1
 ·rw[qB4 h1]
  by_cases h7:k<=7
  ·rw[qIk h7]
   by_cases h5:k=5
   ·rw[qu h5];simp[h5]
   ·rw[qq h5,w_s (by omega) (by omega),if_pos (by omega)]
  ·rw[qGw h7,if_neg (by omega)]
 ·rw[qBX h1,if_neg (by omega)]
def qAg (s q:Int):Int:=if 0<=q /\ q<81 then qCm s q.toNat else -1
theorem qQ2 {s:Int} (hs:s = -1 \/ s=0 \/ s=1) (q:Int):qDC s q=some (qAg s q):=by
 unfold qAg
 by_cases h:0<=q /\ q<81
 ·rw[if_pos h]
  have:=qac hs (q:=q.toNat) (by omega)
  rwa [show ((q.toNat:Nat):Int)=q by omega] at this
 ·rw[if_neg h]
  unfold qDC
  by_cases h0:q<0
  ·rw[qf h0]
  ·rw[qZ h0,qCO (by omega)]
theorem qqE {s:Int} (hs:s = -1 \/ s=0 \/ s=1) (q:Int):qFj s q=some (qAg s q):=by
 unfold qAg
 by_cases h:0<=q /\ q<81
 ·rw[if_pos h]
  have:=qcQ hs (q:=q.toNat) (by omega)
  rwa [show ((q.toNat:Nat):Int)=q by omega] at this
 ·rw[if_neg h]
  unfold qFj
  by_cases h0:q<0
  ·rw[qf h0]
  ·rw[qZ h0,qB4 (by omega)]
def qDN (x q:Int):Bool:=decide (((kd x=1 \/ kd x=2) /\ qAg (sd x) q=0) \/ (kd x=3 /\ (qAg (sd x) q=0 \/ qAg (sd x) q=1)))
theorem qNY (x:Int) {q:Nat} (hq:q<81):qDN x q=qBZ x q:=by
 unfold qDN qBZ qAg
 rw[if_pos (by omega),tn]
theorem qcO (x q:Int):qEd x q=some (qDN x q):=by
 unfold qEd
 rw[qDx,qA,qqE (qGS x),qA,qBd,qA]
 unfold qDN
 generalize kd x=k
 generalize qAg (sd x) q=n
 simp only[qIo,beq_iff_eq]
 repeat' split
 all_goals first
  | (rw[Option.some.injEq,Bool.eq_iff_iff];simp;omega)
  | (simp;omega)
theorem qab (x q:Int):qDB x q=some (qDN x q):=by
 unfold qDB
 rw[qEW,qA,qQ2 (qGS x),qA,qBy,qA]
 unfold qDN
 generalize kd x=k
 generalize qAg (sd x) q=n
 simp only[qIo,beq_iff_eq]
 repeat' split
 all_goals first
  | (rw[Option.some.injEq,Bool.eq_iff_iff];simp;omega)
  | (simp;omega)
def qIb (s:Int) (i:Nat):Bool:=decide (0<=qCm s i /\ qCm s i<=2)
theorem qSc:∀ s:Fin 3,qJz ((s.val:Int) - 1)=some (sLo (qIb ((s.val:Int) - 1)),sHi (qIb ((s.val:Int) - 1))):=by decide +kernel
theorem qru (x:Int):qJz (sd x)=some (sLo (qIb (sd x)),sHi (qIb (sd x))):=by
 rcases qGS x with h | h | h<;>rw[h]
 ·exact qSc 0
 ·exact qSc 1
 ·exact qSc 2
def inZ (s q:Int):Bool:=decide (0<=qAg s q /\ qAg s q<=2)
theorem qVS (s q:Int):has (qIb s) q=inZ s q:=by
 unfold has inZ qAg qIb
 by_cases h:0<=q /\ q<81
 ·rw[if_pos h,decide_eq_true h.1,decide_eq_true h.2,Bool.true_and,Bool.true_and]
 ·rw[if_neg h]
  by_cases h0:0<=q
  ·rw[decide_eq_false (p:=q<81) (by omega)];simp
  ·rw[decide_eq_false h0];simp
def qCr (x f t:Int):Bool:=decide (up_ (kd x)≠0)&&(inZ (sd x) f||inZ (sd x) t)
def qC7 (x t:Int):Bool:=decide (up_ (kd x)≠0)&&qDN x t
theorem qlQ (x f t:Int):qJA x f t=some (qCr x f t,qC7 x t):=by
 unfold qJA qCr qC7
 rw[qBd,qA,qJ9,qA]
 by_cases hu:up_ (kd x)=0
 ·rw[qn hu,decide_eq_false (by simpa using hu)];rfl
 ·rw[qm hu,qDx,qA,qru,qA]
  simp only
  rw[qEI,qA,qVS,decide_eq_true hu]
  cases inZ (sd x) f with
  | true=>rw[b_t,qcO,qA];rfl
  | false=>rw[b_f,qEI,qA,qVS,qcO,qA];rfl
theorem qn2 (x f t:Int):qJf x f t=some (qCr x f t):=by
 unfold qJf qCr
 rw[qBy,qA,qQ3,qA]
 by_cases hu:up_ (kd x)=0
 ·rw[qn hu,decide_eq_false (by simpa using hu)];rfl
 ·rw[qm hu,qEW,qA,qQ2 (qGS x),qA,qA,qQ2 (qGS x),qA,decide_eq_true hu,Bool.true_and]
  unfold inZ
  by_cases h1:qAg (sd x) f >= 0
  ·rw[qB4 h1]
   by_cases h2:qAg (sd x) f<=2
   ·rw[qIk h2,decide_eq_true (p:=0<=qAg (sd x) f /\ qAg (sd x) f<=2) (by omega)];rfl
   ·rw[qGw h2,decide_eq_false (p:=0<=qAg (sd x) f /\ qAg (sd x) f<=2) (by omega),Bool.false_or]
    by_cases h3:qAg (sd x) t >= 0
    ·rw[qB4 h3];congr 1;rw[decide_eq_decide];omega
    ·rw[qBX h3,decide_eq_false (by omega)]
  ·rw[qBX h1,decide_eq_false (p:=0<=qAg (sd x) f /\ qAg (sd x) f<=2) (by omega),Bool.false_or]
   by_cases h3:qAg (sd x) t >= 0
   ·rw[qB4 h3];congr 1;rw[decide_eq_decide];omega
   ·rw[qBX h3,decide_eq_false (by omega)]
theorem qn3 (x t:Int):qJg x t=some (qC7 x t):=by
 unfold qJg qC7
 rw[qBy,qA,qQ3,qA]
 by_cases hu:up_ (kd x)=0
 ·rw[qu hu,decide_eq_false (by simpa using hu)];rfl
 ·rw[qq hu,qab,qA,decide_eq_true hu];rfl
def qCP (f t d:Int) (p:Bool):Int:=if ¬ (0<=t /\ t<81) then 1 else if d≠0 then (if 1<=d /\ d<=7 /\ f=0 /\ p=false then 0 else 70) else if ¬ (0<=f /\ f<81) then 1 else if f=t then 70 else 0
theorem qn1 (f t d:Int) (p:Bool):qJa f t d p=some (qCP f t d p):=by
 unfold qJa qCP
 by_cases h1:t<0
 ·rw[qf h1,if_pos (by omega)]
 rw[qZ h1]
 by_cases h2:t>80
 ·rw[qCO h2,if_pos (by omega)]
 rw[qB5 h2,if_neg (by omega)]
 by_cases hd:d=0
 ·rw[qu hd,if_neg (by simpa using hd)]
  by_cases h3:f<0
  ·rw[qf h3,if_pos (by omega)]
  rw[qZ h3]
  by_cases h4:f>80
  ·rw[qCO h4,if_pos (by omega)]
  rw[qB5 h4,if_neg (by omega)]
  by_cases h5:f=t
  ·rw[qn h5,if_pos h5]
  ·rw[qm h5,if_neg h5]
 ·rw[qq hd,if_pos hd]
  by_cases h3:d<1
  ·rw[qf h3,if_neg (by omega)]
  rw[qZ h3]
  by_cases h4:d>7
  ·rw[qCO h4,if_neg (by omega)]
  rw[qB5 h4]
  by_cases h5:f=0
  ·rw[qu h5]
   cases p with
   | true=>rw[b_t,if_neg (by simp)]
   | false=>rw[b_f,if_pos ⟨by omega,by omega,h5,rfl⟩]
  ·rw[qq h5,if_neg (by omega)]
def qBp (b h:List Int) (s f t d:Int) (p:Bool):Bool:=decide (qCP f t d p=0)&&(decide (s=0 \/ s=1) &&
 if d≠0 then decide (0<hd_ h s d)&&decide (at_ b t=0)
 else decide (sd (at_ b f)=s /\ sd (at_ b t)≠s /\ kd (at_ b t)≠8)&&(!p||decide (up_ (kd (at_ b f))≠0)))
theorem qIw {f t d:Int} {p:Bool} (h:qCP f t d p=0):(0<=t /\ t<81) /\ (d≠0->1<=d /\ d<=7 /\ f=0 /\ p=false) /\ (d=0->(0<=f /\ f<81) /\ f≠t):=by
 unfold qCP at h
 split at h
 ·omega
 ·rename_i ht
  split at h
  ·rename_i hd
   split at h
   ·rename_i h2;exact⟨by omega,fun _=>h2,fun h3=>absurd h3 hd⟩
   ·omega
  ·rename_i hd
   split at h
   ·omega
   ·split at h
    ·omega
    ·exact⟨by omega,fun h3=>absurd h3 hd,fun _=>⟨by omega,by omega⟩⟩
theorem qAa {b:List Int} {q:Int} (h:0<=q /\ q<81):at_ b q=b.getD q.toNat 0:=by unfold at_;rw[if_pos h]
theorem qnw (b h:List Int) (s f t d:Int) (p:Bool):qJc b h s f t d p=some (qBp b h s f t d p):=by
 unfold qJc qBp
 rw[qn1,qA]
 by_cases hm:qCP f t d p=0
 ·obtain ⟨ht,hdr,hmv⟩:=qIw hm
  rw[qu hm,decide_eq_true hm,Bool.true_and]
  have main:(s=0 \/ s=1)->(br (inB t 81)
   (br (d != 0)
    (br (inB s 2)
     (br (inB d 8)
      (br (decide (List.getD h (Int.toNat s*8+Int.toNat d) 0>0))
       (some (conv IntKind.i8 IntKind.i64 (List.getD b (Int.toNat t) 0)==0))
       (some (false)))
      (none))
     (none))
    (br (inB f 81)
     (ob (qA9 (conv IntKind.i8 IntKind.i64 (List.getD b (Int.toNat f) 0))) fun a8=>
     br (a8 != s)
      (some (false))
      (ob (qA9 (conv IntKind.i8 IntKind.i64 (List.getD b (Int.toNat t) 0))) fun a9=>
      br (a9==s)
       (some (false))
       (ob (qAS (conv IntKind.i8 IntKind.i64 (List.getD b (Int.toNat t) 0))) fun a10=>
       br (a10==8)
        (some (false))
        (br (!p)
         (some (true))
         (ob (qAS (conv IntKind.i8 IntKind.i64 (List.getD b (Int.toNat f) 0))) fun a11=>
         ob (qER a11) fun a12=>
         some (a12 != 0))))))
     (none)))
   (none):Option Bool)=some (if d≠0 then decide (0<hd_ h s d)&&decide (at_ b t=0)
    else decide (sd (at_ b f)=s /\ sd (at_ b t)≠s /\ kd (at_ b t)≠8)&&(!p||decide (up_ (kd (at_ b f))≠0))):=by
   intro hs
   rw[qg ht.1 (by omega)]
   by_cases hd:d=0
   ·obtain⟨hf,_⟩:=hmv hd
    rw[qu hd,if_neg (by simpa using hd),qg hf.1 (by omega),c_8,c_8,qEW,qA,<- qAa hf,<- qAa ht]
    by_cases h1:sd (at_ b f)=s
    ·rw[qu h1,qEW,qA]
     by_cases h2:sd (at_ b t)=s
     ·rw[qn h2,decide_eq_false (by omega)];rfl
     ·rw [qm h2,qBy,qA]
      by_cases h3:kd (at_ b t)=8
      ·rw[qn h3,decide_eq_false (by omega)];rfl
      ·rw[qm h3,decide_eq_true (by omega),Bool.true_and]
       cases p with
       | false=>rfl
       | true=>
         rw[Bool.not_true,b_f,qBy,qA,qQ3,qA,Bool.false_or]
         congr 1
         rw[Bool.eq_iff_iff];simp
    ·rw[qq h1,decide_eq_false (by omega)];rfl
   ·obtain⟨d1,d7,_,_⟩:=hdr hd
    rw[qq hd,if_pos hd,qg (by omega) (by omega),qg (by omega) (by omega),c_8,<- qAa ht]
    show br (decide (hd_ h s d>0)) _ _=_
    by_cases h1:hd_ h s d>0
    ·rw[qCO h1,decide_eq_true (p:=0<hd_ h s d) h1,Bool.true_and]
     congr 1
    ·rw[qB5 h1,decide_eq_false (p:=0<hd_ h s d) h1,Bool.false_and]
  by_cases h0:s=0
  ·rw[qu h0,decide_eq_true (p:=s=0 \/ s=1) (.inl h0),Bool.true_and];exact main (.inl h0)
  ·rw[qq h0]
   by_cases h1:s=1
   ·rw[qu h1,decide_eq_true (p:=s=0 \/ s=1) (.inr h1),Bool.true_and];exact main (.inr h1)
   ·rw[qq h1,decide_eq_false (p:=s=0 \/ s=1) (by omega),Bool.false_and]
 ·rw[qq hm,decide_eq_false hm,Bool.false_and]
def qAA (b h:List Int) (s f t d:Int) (p:Bool):Bool:=qBp b h s f t d p &&
 if d≠0 then !qDN (16*s+d) t&&(decide (d≠1)||decide (nF b (16*s+d) (t.toNat / 9)=0))
 else rch (at_ b f) f.toNat t.toNat (tk b)&&if p=true then qCr (at_ b f) f t else !qC7 (at_ b f) t
theorem qJi (b h:List Int) (s f t d:Int) (p:Bool):qEV b h s f t d p=some (qAA b h s f t d p):=by
 unfold qEV qAA
 rw[qnw,qA]
 cases hcan:qBp b h s f t d p with
 | false=>rfl
 | true=>
   rw[Bool.not_true,b_f,Bool.true_and]
   unfold qBp at hcan
   simp only[Bool.and_eq_true,decide_eq_true_eq] at hcan
   obtain⟨hm,hs,_⟩:=hcan
   obtain⟨ht,hdr,hmv⟩:=qIw hm
   by_cases hd:d=0
   ·obtain⟨hf,_⟩:=hmv hd
    rw[qu hd,if_neg (by simpa using hd),qg hf.1 (by omega),c_8,qSG,qA,<- qAa hf]
    have:=qPt b (at_ b f) (a:=f.toNat) (c:=t.toNat) (by omega) (by omega)
    rw[show ((f.toNat:Nat):Int)=f by omega,show ((t.toNat:Nat):Int)=t by omega] at this
    rw[this,qA]
    cases rch (at_ b f) f.toNat t.toNat (tk b) with
    | false=>rfl
    | true=>
      rw[Bool.not_true,b_f,Bool.true_and]
      cases p with
      | true=>rw[b_t,qn2,qA,if_pos rfl]
      | false=>rw[b_f,qn3,qA,if_neg (by simp)]
   ·obtain⟨d1,d7,_,_⟩:=hdr hd
    rw[qq hd,if_pos hd,w_s (n:=16*s) (by omega) (by omega),w_s (n:=16*s+d) (by omega) (by omega),qab,qA]
    cases qDN (16*s+d) t with
    | true=>rfl
    | false=>
      rw[Bool.not_false,b_t,Bool.true_and]
      by_cases h1:d=1
      ·have htd:Int.tdiv t 9=((t.toNat / 9:Nat):Int):=by rw[Int.tdiv_eq_ediv_of_nonneg ht.1];omega
       rw[qu h1,htd,w_s (n:=((t.toNat / 9:Nat):Int)) (by omega) (by omega),qLP b h s (16*s+d) (t.toNat / 9) (by omega),qA,decide_eq_false (p:=d≠1) (by simpa using h1),Bool.false_or]
       congr 1
       rw[Bool.eq_iff_iff];simp
      ·rw[qq h1,decide_eq_true (p:=d≠1) h1,Bool.true_or]
theorem qKH:qGV=some (sLo fun _=>true,sHi fun _=>true):=by decide +kernel
theorem qj0 (f:Nat->Bool):qJt (sLo f) (sHi f)=some (sLo fun i=>!f i,sHi fun i=>!f i):=by
 unfold qJt
 rw[qKH,qA]
 simp only
 rw[qLC,qA]
 simp only[Bool.true_and]
def qA7 (b:List Int) (s k:Int) (i:Nat):Bool:=!qBZ (pc s k) i&&(decide (k≠1)||decide (nF b (pc s 1) (i / 9)=0))
theorem qNU (f:Nat->Bool):isE f=decide (qAv f=0):=by
 unfold isE qAv
 rw[Bool.eq_iff_iff,decide_eq_true_eq,List.countP_eq_zero,List.all_eq_true]
 simp
theorem qg8 {b:List Int} (h:List Int) (S:Int) (sd':List (List Int)) {s k:Int} (hs:s=0 \/ s=1) (L:List Int) (hL:∀ q∈L,0<=q /\ q<81) (hl:L.length<=1000) (N:Nat) (u v:Int):∀ (n i:Nat),i+n=L.length->∀ (f:Nat->Bool) (F:Nat),
  qDQ (F+n+1) s k (pc s k) L.length L.length i b h S (qJ b) sd' u v (sLo f) (sHi f) N L=some (b,h,S,qJ b,sd',u,v,sLo fun c=>f c||((L.drop i).any fun q=>decide ((c:Int)=q)&&qA7 b s k c),sHi fun c=>f c||((L.drop i).any fun q=>decide ((c:Int)=q)&&qA7 b s k c)):=by
 intro n
 induction n with
 | zero=>
   intro i hi f F
   show qHJ (qDQ (F+0)) _ _ _ _ _ _ _ _ _ _ _ _ _ _ _ _ _=_
   unfold qHJ
   rw[qZ (by omega),List.drop_eq_nil_of_le (by omega)]
   simp
 | succ n ih=>
   intro i hi f F
   show qHJ (qDQ (F+n+1)) _ _ _ _ _ _ _ _ _ _ _ _ _ _ _ _ _=_
   unfold qHJ
   have hil:i<L.length:=by omega
   obtain⟨q0,q1⟩:=hL L[i] (List.getElem_mem hil)
   have hget:L.getD i 0=L[i]:=qGp hil
   obtain⟨q,hq⟩:∃ q:Nat,L[i]=q:=⟨L[i].toNat,by omega⟩
   have hd:L.drop i=L[i] :: L.drop (i+1):=List.drop_eq_getElem_cons hil
   rw[qf (by omega),qg (by omega) (by omega),tn,hget,hq,qqD _ (by omega),qA,w_s (n:=(i:Int)+1) (by omega) (by omega)]
   have skip:qA7 b s k q=false->qDQ (F+n+1) s k (pc s k) L.length L.length ((i:Int)+1) b h S (qJ b) sd' u v (sLo f) (sHi f) N L =
     some (b,h,S,qJ b,sd',u,v,sLo fun c=>f c||((L.drop i).any fun q=>decide ((c:Int)=q)&&qA7 b s k c),sHi fun c=>f c||((L.drop i).any fun q=>decide ((c:Int)=q)&&qA7 b s k c)):=by
    intro hf
    refine (ih (i+1) (by omega) f F).trans ?_
    have:(fun c=>f c||((L.drop (i+1)).any fun q=>decide ((c:Int)=q)&&qA7 b s k c))=fun c=>f c||((L.drop i).any fun q=>decide ((c:Int)=q)&&qA7 b s k c):=by
     funext c
     rw[hd,List.any_cons,hq]
     by_cases hcq:(c:Int)=q
     ·have:c=q:=by omega
      subst this
      rw[hf];simp
     ·rw[decide_eq_false hcq];simp
    rw[this]
   have take:qA7 b s k q=true->(ob (qBA (sLo f) (sHi f) q) fun z=>qDQ (F+n+1) s k (pc s k) L.length L.length ((i:Int)+1) b h S (qJ b) sd' u v z.1 z.2 N L) =
     some (b,h,S,qJ b,sd',u,v,sLo fun c=>f c||((L.drop i).any fun q=>decide ((c:Int)=q)&&qA7 b s k c),sHi fun c=>f c||((L.drop i).any fun q=>decide ((c:Int)=q)&&qA7 b s k c)):=by
    intro hf
    rw[qGj,qA]
    simp only
    refine (ih (i+1) (by omega) _ F).trans ?_
    have:(fun c=>(f c||only q c)||((L.drop (i+1)).any fun q=>decide ((c:Int)=q)&&qA7 b s k c))=fun c=>f c||((L.drop i).any fun q=>decide ((c:Int)=q)&&qA7 b s k c):=by
     funext c
     rw[hd,List.any_cons,hq,Bool.or_assoc]
     congr 2
     unfold only
     by_cases hcq:(c:Int)=q
     ·have:c=q:=by omega
      subst this
      rw[hf];simp
     ·rw[decide_eq_false hcq];simp
    rw[this]
   cases hdead:qBZ (pc s k) q with
   | true=>rw[b_t];exact skip (by unfold qA7;rw[hdead];rfl)
   | false=>
     rw[b_f]
     by_cases hk:k=1
     ·rw[qn hk,qHf,qA]
      simp only
      unfold qFd
      rw[qIW,w_s (by unfold fl;omega) (by unfold fl;omega),qA,show fl q=((q / 9:Nat):Int) from rfl,qhn (by omega),qA]
      simp only
      rw[qFt,qA]
      simp only
      rw[qKd,qA,qNU,qf9 b (by rw[qA5 hs (by omega) (by omega) (by omega)];omega) (by omega)]
      by_cases hn:nF b (pc s 1) (q / 9)=0
      ·rw[decide_eq_true hn,Bool.not_true,b_f]
       exact take (by unfold qA7;rw[hdead,decide_eq_true hn];simp)
      ·rw[decide_eq_false hn,Bool.not_false,b_t]
       exact skip (by unfold qA7;rw[hdead,decide_eq_false hn,decide_eq_false (p:=k≠1) (by simpa using hk)];rfl)
     ·rw[qm hk]
      exact take (by unfold qA7;rw[hdead,decide_eq_true (p:=k≠1) hk];rfl)
def qAw (b:List Int) (s k:Int) (i:Nat):Bool:=decide ((s=0 \/ s=1) /\ 1<=k /\ k<=7)&&(!tk b i&&qA7 b s k i)
theorem qg4 {b:List Int} (hc:Clean b) (h:List Int) (S s k:Int):qI9 s k b h S (qJ b) (qK b)=some (sLo (qAw b s k),sHi (qAw b s k)):=by
 have none:¬ ((s=0 \/ s=1) /\ 1<=k /\ k<=7)->qAw b s k=fun _=>false:=by
  intro hn;funext c;unfold qAw;rw[decide_eq_false hn,Bool.false_and]
 unfold qI9
 rw[qLK,qA]
 by_cases hz:pc s k=0
 ·have:¬ ((s=0 \/ s=1) /\ 1<=k /\ k<=7):=by
   rintro ⟨hs,h1,h7⟩
   rw[qA5 hs h1 (by omega) (by omega)] at hz
   omega
  rw[qn hz,none this,qBi,qBh]
 ·rw [qm hz]
  have hv:(s=0 \/ s=1) /\ 1<=k /\ k<=15 /\ k≠13:=by
   unfold pc at hz
   split at hz
   ·rename_i h;exact h
   ·exact absurd rfl hz
  by_cases h8:k >= 8
  ·rw[qB4 h8,none (by omega),qBi,qBh]
  ·rw[qBX h8,qJ4 hc,qA]
   simp only
   rw[qj0,qA]
   simp only
   rw[qJx,qA]
   simp only
   have hlen:=qEc fun i=>!tk b i
   obtain⟨g,hg⟩:=qd (sq fun i=>!tk b i).length (by omega)
   have:=qg8 (b:=b) h S (qK b) (k:=k) hv.1 (sq fun i=>!tk b i) (fun q hq=>⟨(qGc hq).1,(qGc hq).2.1⟩) (by omega) (sq fun i=>!tk b i).length 0 0 (sq fun i=>!tk b i).length 0 (by omega) (fun _=>false) g
   rw[<- hg,qBi,qBh] at this
   rw[show qDQ qC s k (pc s k) (sq fun i=>!tk b i).length (Int.ofNat (sq fun i=>!tk b i).length) 0 b h S (qJ b) (qK b) 0 0 0 0 (sq fun i=>!tk b i).length (sq fun i=>!tk b i)=_ from this,qA]
   simp only[Bool.false_or,List.drop_zero]
   obtain⟨e1,e2⟩:=qB0 (f:=fun c=>(sq fun i=>!tk b i).any fun q=>decide ((c:Int)=q)&&qA7 b s k c) (g:=qAw b s k) fun c hcc=>by
    unfold qAw
    rw[decide_eq_true (p:=(s=0 \/ s=1) /\ 1<=k /\ k<=7) ⟨hv.1,hv.2.1,by omega⟩,Bool.true_and,Bool.eq_iff_iff,List.any_eq_true,Bool.and_eq_true]
    constructor
    ·rintro ⟨q,hq,hh⟩
     rw[Bool.and_eq_true,decide_eq_true_eq] at hh
     have:=(qGc hq).2.2
     rw[<- hh.1,tn] at this
     exact⟨this,hh.2⟩
    ·rintro ⟨h1,h2⟩
     exact⟨c,qWw hcc h1,by rw[h2];simp⟩
   rw[e1,e2]
end Go.Kk.Pl
namespace Go.Kk.Pl
end Go.Kk.Pl
namespace Go.Kk.Pl
theorem qC1 {α:Type} {x y:α} {a b:Nat} (h:a<=b):br (decide (a<=b)) x y=x:=qD (by simpa using h)
theorem tkA {α:Type} {n:Nat} {L:List α} (h:n=L.length) (M:List α):List.append (List.take n L) M=L++M:=by
 subst h;rw[List.take_length];rfl
theorem qdE {α:Type} {n:Nat} {L:List α} {m:α} (h:n=L.length) (M:List α):List.append (List.take (n+1) (L++[m])) M=L++m :: M:=by
 rw[tkA (by simp[h])];simp
def qAF (x f t:Int):List (List Int):=(if qC7 x t then [] else [[f,t,0,0]])++(if qCr x f t then [[f,t,0,1]] else [])
theorem qkj (x f t:Int):(qAF x f t).length<=2:=by
 unfold qAF;split<;>split<;>simp
theorem qG9 {α β:Type} (g:α->List β) (k:Nat) (L:List α) (h:∀ a∈L,(g a).length<=k):(L.flatMap g).length<=k*L.length:=by
 induction L with
 | nil=>simp
 | cons a L ih=>
   rw[List.flatMap_cons,List.length_append,List.length_cons,Nat.mul_succ]
   have:=h a (by simp)
   have:=ih fun x hx=>h x (by simp[hx])
   omega
theorem qq5 (x f:Int) (T:List Int) (S:Int) (N1:Nat) (a5 a6:Int) (b h:List Int) (S':Int) (by' sd':List (List Int)) (u v k1 k2:Int) (N2:Nat) (L2:List Int) (N3:Nat) (hT:T.length<=1000):∀ (n i:Nat),i+n=T.length->∀ (L:List (List Int)) (x0 x17:Nat),x0=L.length->x17=L.length->L.length<=1000000 - 2*n->∀ F,
  qE1 (F+n+1) x0 S f x N1 a5 a6 T.length T.length i b h S' by' sd' u v x17 L k1 k2 N2 L2 N3 T =
   some ((L++(T.drop i).flatMap (qAF x f)).length,S,N1,a5,a6,b,h,S',by',sd',u,v,(L++(T.drop i).flatMap (qAF x f)).length,L++(T.drop i).flatMap (qAF x f),k1,k2,N2,L2):=by
 intro n
 induction n with
 | zero=>
   intro i hi L x0 x17 h0 h17 hb F
   show qHF (qE1 (F+0)) _ _ _ _ _ _ _ _ _ _ _ _ _ _ _ _ _ _ _ _ _ _ _ _ _=_
   unfold qHF
   rw[qZ (by omega),List.drop_eq_nil_of_le (by omega)]
   simp only[List.flatMap_nil,List.append_nil,h0,h17]
 | succ n ih=>
   intro i hi L x0 x17 h0 h17 hb F
   show qHF (qE1 (F+n+1)) _ _ _ _ _ _ _ _ _ _ _ _ _ _ _ _ _ _ _ _ _ _ _ _ _=_
   unfold qHF
   have hil:i<T.length:=by omega
   have hget:T.getD i 0=T[i]:=qGp hil
   have hd:T.drop i=T[i] :: T.drop (i+1):=List.drop_eq_getElem_cons hil
   rw[qf (by omega),qg (by omega) (by omega),tn,hget,qlQ,qA]
   simp only
   rw[w_s (by omega) (by omega),hd,List.flatMap_cons,<- List.append_assoc]
   rw[tkA h0,tkA h0,qdE h0]
   have hi1:i+1+n=T.length:=by omega
   have ih':=ih (i+1) hi1
   cases hm:qC7 x T[i] with
   | false=>
     rw[Bool.not_false,b_t,qC1 (by omega)]
     cases hy:qCr x f T[i] with
     | true=>
       rw[b_t,qC1 (by omega)]
       have:=ih' (L++qAF x f T[i]) (x0+1+1) (x0+1+1) (by simp[qAF,hm,hy,h0]) (by simp[qAF,hm,hy,h0]) (by simp[qAF,hm,hy];omega) F
       rw[<- this]
       simp[qAF,hm,hy]
     | false=>
       rw[b_f]
       have:=ih' (L++qAF x f T[i]) (x0+1) (x0+1) (by simp[qAF,hm,hy,h0]) (by simp[qAF,hm,hy,h0]) (by simp[qAF,hm,hy];omega) F
       rw[<- this]
       simp[qAF,hm,hy]
   | true=>
     rw[Bool.not_true,b_f]
     cases hy:qCr x f T[i] with
     | true=>
       rw[b_t,qC1 (by omega)]
       have:=ih' (L++qAF x f T[i]) (x0+1) (x0+1) (by simp[qAF,hm,hy,h0]) (by simp[qAF,hm,hy,h0]) (by simp[qAF,hm,hy];omega) F
       rw[<- this]
       simp[qAF,hm,hy]
     | false=>
       rw[b_f]
       have:=ih' (L++qAF x f T[i]) x0 x17 (by simp[qAF,hm,hy,h0]) (by simp[qAF,hm,hy,h17]) (by simp[qAF,hm,hy];omega) F
       rw[<- this]
       simp[qAF,hm,hy]
def kgs (b:List Int) (c:Nat):Bool:=pcs b (pc 0 8) c||pcs b (pc 1 8) c
def qBc (b:List Int) (S:Int) (G:Nat->Bool) (f:Nat) (c:Nat):Bool:=((rch (b.getD f 0) f c (tk b) && !sdP b S c) && !kgs b c)&&G c
def qCV (b:List Int) (S:Int) (G:Nat->Bool) (f:Int):List (List Int):=(sq (qBc b S G f.toNat)).flatMap (qAF (b.getD f.toNat 0) f)
def qt (b:List Int) (S:Int) (G:Nat->Bool):List (List Int):=(sq (sdP b S)).flatMap (qCV b S G)
theorem qW6 (b:List Int) (S:Int) (G:Nat->Bool) (f:Int):(qCV b S G f).length<=162:=by
 unfold qCV
 have:=qG9 (qAF (b.getD f.toNat 0) f) 2 (sq (qBc b S G f.toNat)) fun a _=>qkj _ _ _
 have:=qEc (qBc b S G f.toNat)
 omega
theorem qfS {b:List Int} (hc:Clean b) (h:List Int) (S:Int) (G:Nat->Bool) (T:List Int) (hT:T.length<=1000) (hTr:∀ q∈T,0<=q /\ q<81) (N:Nat):∀ (n i:Nat),i+n=T.length->∀ (L:List (List Int)) (x0 x17:Nat),x0=L.length->x17=L.length->L.length<=900000 - 200*n->∀ F,
  qE0 (F+n+1) x0 S T.length T.length i b h S (qJ b) (qK b) (sLo G) (sHi G) x17 L (sLo (kgs b)) (sHi (kgs b)) N T =
   some ((L++(T.drop i).flatMap (qCV b S G)).length,b,h,S,qJ b,qK b,(L++(T.drop i).flatMap (qCV b S G)).length,L++(T.drop i).flatMap (qCV b S G)):=by
 intro n
 induction n with
 | zero=>
   intro i hi L x0 x17 h0 h17 hb F
   show qHE (qE0 (F+0)) _ _ _ _ _ _ _ _ _ _ _ _ _ _ _ _ _ _=_
   unfold qHE
   rw[qZ (by omega),List.drop_eq_nil_of_le (by omega)]
   simp only[List.flatMap_nil,List.append_nil,h0,h17]
 | succ n ih=>
   intro i hi L x0 x17 h0 h17 hb F
   show qHE (qE0 (F+n+1)) _ _ _ _ _ _ _ _ _ _ _ _ _ _ _ _ _ _=_
   unfold qHE
   have hil:i<T.length:=by omega
   have hget:T.getD i 0=T[i]:=qGp hil
   have hd:T.drop i=T[i] :: T.drop (i+1):=List.drop_eq_getElem_cons hil
   obtain⟨q0,q1⟩:=hTr T[i] (List.getElem_mem hil)
   obtain⟨q,hq⟩:∃ q:Nat,T[i]=q:=⟨T[i].toNat,by omega⟩
   have hat:at_ b T[i]=b.getD q 0:=by rw[qAa ⟨q0,q1⟩,hq,tn]
   rw[qf (by omega),qg (by omega) (by omega),tn,hget,qCz,qA,qJ4 hc,qA]
   simp only
   rw[hat,hq,qLd _ (by omega),qA]
   simp only
   rw[qPa,qA]
   simp only
   rw[qLC,qA]
   simp only
   rw[qLC,qA]
   simp only
   rw[qFt,qA]
   simp only
   rw[qJx,qA]
   simp only
   rw[show (fun i=>((rch (b.getD q 0) q i (tk b) && !sdP b S i) && !kgs b i)&&G i)=qBc b S G q from rfl]
   have hlen:=qEc (qBc b S G q)
   obtain⟨g,hg⟩:=qd (sq (qBc b S G q)).length (by omega)
   have:=qq5 (b.getD q 0) q (sq (qBc b S G q)) S T.length T.length i b h S (qJ b) (qK b) (sLo G) (sHi G) (sLo (kgs b)) (sHi (kgs b)) N T (sq (qBc b S G q)).length (by omega) (sq (qBc b S G q)).length 0 (by omega) L x0 x17 h0 h17 (by omega) g
   rw[<- hg] at this
   rw[show qE1 qC x0 S q (b.getD q 0) T.length T.length i (sq (qBc b S G q)).length (Int.ofNat (sq (qBc b S G q)).length) 0 b h S (qJ b) (qK b) (sLo G) (sHi G) x17 L (sLo (kgs b)) (sHi (kgs b)) N T (sq (qBc b S G q)).length (sq (qBc b S G q))=_ from this,qA]
   simp only
   have e:(List.drop 0 (sq (qBc b S G q))).flatMap (qAF (b.getD q 0) q)=qCV b S G T[i]:=by
    unfold qCV;rw[hq,tn,List.drop_zero]
   have hl2:=qW6 b S G T[i]
   rw[e,w_s (by omega) (by omega),hd,List.flatMap_cons,<- List.append_assoc]
   exact ih (i+1) (by omega) (L++qCV b S G T[i]) _ _ rfl rfl (by rw[List.length_append];omega) F
theorem qU3 {b:List Int} (hc:Clean b) (h:List Int) (S:Int) (G:Nat->Bool):qHC (sLo G) (sHi G) b h S (qJ b) (qK b)=some ((qt b S G).length,(qt b S G).length,qt b S G):=by
 unfold qHC
 rw[qHf,qA]
 simp only
 rw[qHf,qA]
 simp only
 rw[qHg,qA]
 simp only
 rw[qPa,qA]
 simp only
 rw[qJx,qA]
 simp only
 have hlen:=qEc (sdP b S)
 obtain⟨g,hg⟩:=qd (sq (sdP b S)).length (by omega)
 have:=qfS hc h S G (sq (sdP b S)) (by omega) (fun q hq=>⟨(qGc hq).1,(qGc hq).2.1⟩) (sq (sdP b S)).length (sq (sdP b S)).length 0 (by omega) [] 0 0 rfl rfl (by simp only[List.length_nil];omega) g
 rw[<- hg] at this
 rw[show qE0 qC 0 S (sq (sdP b S)).length (Int.ofNat (sq (sdP b S)).length) 0 b h S (qJ b) (qK b) (sLo G) (sHi G) 0 [] (sLo fun i=>pcs b (pc 0 8) i||pcs b (pc 1 8) i) (sHi fun i=>pcs b (pc 0 8) i||pcs b (pc 1 8) i) (sq (sdP b S)).length (sq (sdP b S))=_ from this,qA]
 rfl
def qBf (b h:List Int) (S:Int) (G:Nat->Bool) (k:Nat):List (List Int):=if hdP h S k<1 then [] else (sq fun i=>qAw b S k i&&G i).map fun t=>[0,t,(k:Int),0]
def qAP (b h:List Int) (S:Int) (G:Nat->Bool):List (List Int):=(List.range' 1 7).flatMap (qBf b h S G)
theorem qW7 (b h:List Int) (S:Int) (G:Nat->Bool) (k:Nat):(qBf b h S G k).length<=81:=by
 unfold qBf
 split
 ·simp
 ·rw[List.length_map];exact qEc _
theorem qq6 (k:Int) (T:List Int) (S:Int) (b h:List Int) (S':Int) (by' sd':List (List Int)) (u v:Int) (N3:Nat) (hT:T.length<=1000):∀ (n i:Nat),i+n=T.length->∀ (L:List (List Int)) (x0 x17:Nat),x0=L.length->x17=L.length->L.length<=1000000 - 2*n->∀ F,
  qE3 (F+n+1) x0 S k T.length T.length i b h S' by' sd' u v x17 L N3 T =
   some ((L++(T.drop i).map fun t=>[0,t,k,0]).length,S,k,b,h,S',by',sd',u,v,(L++(T.drop i).map fun t=>[0,t,k,0]).length,L++(T.drop i).map fun t=>[0,t,k,0]):=by
 intro n
 induction n with
 | zero=>
   intro i hi L x0 x17 h0 h17 hb F
   show qHI (qE3 (F+0)) _ _ _ _ _ _ _ _ _ _ _ _ _ _ _ _ _=_
   unfold qHI
   rw[qZ (by omega),List.drop_eq_nil_of_le (by omega)]
   simp only[List.map_nil,List.append_nil,h0,h17]
 | succ n ih=>
   intro i hi L x0 x17 h0 h17 hb F
   show qHI (qE3 (F+n+1)) _ _ _ _ _ _ _ _ _ _ _ _ _ _ _ _ _=_
   unfold qHI
   have hil:i<T.length:=by omega
   have hget:T.getD i 0=T[i]:=qGp hil
   have hd:T.drop i=T[i] :: T.drop (i+1):=List.drop_eq_getElem_cons hil
   rw[qf (by omega),qg (by omega) (by omega),tn,hget,qC1 (by omega),tkA h0,w_s (by omega) (by omega),hd,List.map_cons]
   have:=ih (i+1) (by omega) (L++[[0,T[i],k,0]]) (x0+1) (x0+1) (by simp[h0]) (by simp[h0]) (by simp;omega) F
   rw[List.append_assoc] at this
   exact this
theorem qgi {b:List Int} (hc:Clean b) (h:List Int) (S:Int) (G:Nat->Bool):∀ (n k:Nat),k+n=8->∀ (L:List (List Int)) (x0 x17:Nat),x0=L.length->x17=L.length->L.length<=900000 - 200*n->∀ F,
  qE2 (F+n+1) x0 S k b h S (qJ b) (qK b) (sLo G) (sHi G) x17 L =
   some ((L++(List.range' k n).flatMap (qBf b h S G)).length,b,h,S,qJ b,qK b,(L++(List.range' k n).flatMap (qBf b h S G)).length,L++(List.range' k n).flatMap (qBf b h S G)):=by
 intro n
 induction n with
 | zero=>
   intro k hk L x0 x17 h0 h17 hb F
   show qHH (qE2 (F+0)) _ _ _ _ _ _ _ _ _ _ _ _=_
   unfold qHH
   rw[qZ (by omega)]
   simp only[List.range'_zero,List.flatMap_nil,List.append_nil,h0,h17]
 | succ n ih=>
   intro k hk L x0 x17 h0 h17 hb F
   show qHH (qE2 (F+n+1)) _ _ _ _ _ _ _ _ _ _ _ _=_
   unfold qHH
   have hl2:=qW7 b h S G k
   rw[qf (by omega),qhg,qA,List.range'_succ,List.flatMap_cons,<- List.append_assoc]
   have ih':=ih (k+1) (by omega) (L++qBf b h S G k)
   by_cases h1:hdP h S k<1
   ·have e:qBf b h S G k=[]:=by unfold qBf;rw[if_pos h1]
    rw[qf h1,w_s (by omega) (by omega)]
    rw[e,List.append_nil] at ih' ⊢
    exact ih' x0 x17 h0 h17 (by omega) F
   ·have e:qBf b h S G k=(sq fun i=>qAw b S k i&&G i).map fun t=>[0,t,(k:Int),0]:=by unfold qBf;rw[if_neg h1]
    rw[qZ h1,qg4 hc,qA]
    simp only
    rw[qFt,qA]
    simp only
    rw[qJx,qA]
    simp only
    have hlen:=qEc fun i=>qAw b S k i&&G i
    obtain⟨g,hg⟩:=qd (sq fun i=>qAw b S k i&&G i).length (by omega)
    have:=qq6 k (sq fun i=>qAw b S k i&&G i) S b h S (qJ b) (qK b) (sLo G) (sHi G) (sq fun i=>qAw b S k i&&G i).length (by omega) (sq fun i=>qAw b S k i&&G i).length 0 (by omega) L x0 x17 h0 h17 (by omega) g
    rw[<- hg] at this
    rw[show qE3 qC x0 S k (sq fun i=>qAw b S k i&&G i).length (Int.ofNat (sq fun i=>qAw b S k i&&G i).length) 0 b h S (qJ b) (qK b) (sLo G) (sHi G) x17 L (sq fun i=>qAw b S k i&&G i).length (sq fun i=>qAw b S k i&&G i)=_ from this,qA]
    simp only
    rw[List.drop_zero,<- e,w_s (by omega) (by omega)]
    exact ih' _ _ rfl rfl (by rw[List.length_append];omega) F
theorem qhE {b:List Int} (hc:Clean b) (h:List Int) (S:Int) (G:Nat->Bool):qI8 (sLo G) (sHi G) b h S (qJ b) (qK b)=some ((qAP b h S G).length,(qAP b h S G).length,qAP b h S G):=by
 unfold qI8
 obtain⟨g,hg⟩:=qd 7 (by omega)
 have:=qgi hc h S G 7 1 (by omega) [] 0 0 rfl rfl (by simp only[List.length_nil];omega) g
 rw[<- hg] at this
 rw[show qE2 qC 0 S 1 b h S (qJ b) (qK b) (sLo G) (sHi G) 0 []=_ from this,qA]
 rfl
def mvs (b h:List Int) (S:Int):List (List Int):=qt b S (fun _=>true)++qAP b h S (fun _=>true)
theorem qLH (b:List Int) (S:Int) (G:Nat->Bool):(qt b S G).length<=162*81:=by
 unfold qt
 have:=qG9 (qCV b S G) 162 (sq (sdP b S)) fun a _=>qW6 _ _ _ _
 have:=qEc (sdP b S)
 omega
theorem qPK (b h:List Int) (S:Int) (G:Nat->Bool):(qAP b h S G).length<=81*7:=by
 unfold qAP
 have:=qG9 (qBf b h S G) 81 (List.range' 1 7) fun a _=>qW7 _ _ _ _ _
 rw[List.length_range'] at this
 omega
end Go.Kk.Pl
namespace Go.Kk.Pl
def qAr (b h:List Int) (S:Int) (f t:Nat):List (List Int):=(if qAA b h S f t 0 false then [[(f:Int),(t:Int),0,0]] else [])++(if qAA b h S f t 0 true then [[(f:Int),(t:Int),0,1]] else [])
def rTo (b h:List Int) (S:Int) (f t:Nat):List (List Int):=if rch (b.getD f 0) f t (tk b) then qAr b h S f t else []
def qA6 (b h:List Int) (S:Int) (f:Nat):List (List Int):=if sd (b.getD f 0)=S then (List.range' 0 81).flatMap (rTo b h S f) else []
def qBu (b h:List Int) (S:Int) (k t:Nat):List (List Int):=if qAA b h S 0 t k false then [[0,(t:Int),(k:Int),0]] else []
def qDd (b h:List Int) (S:Int) (k:Nat):List (List Int):=if hd_ h S k>0 then (List.range' 0 81).flatMap (qBu b h S k) else []
def qDc (b h:List Int) (S:Int):List (List Int):=(List.range' 0 81).flatMap (qA6 b h S)++(List.range' 1 7).flatMap (qDd b h S)
theorem qla (b h:List Int) (S:Int) (f t:Nat):(rTo b h S f t).length<=2:=by
 unfold rTo qAr
 split
 ·split<;>split<;>simp
 ·simp
theorem qXr (b h:List Int) (S:Int) (f:Nat):(qA6 b h S f).length<=162:=by
 unfold qA6
 split
 ·have:=qG9 (rTo b h S f) 2 (List.range' 0 81) fun a _=>qla b h S f a
  rw[List.length_range'] at this
  omega
 ·simp
theorem qlU (b h:List Int) (S:Int) (k t:Nat):(qBu b h S k t).length<=1:=by
 unfold qBu;split<;>simp
theorem qlY (b h:List Int) (S:Int) (k:Nat):(qDd b h S k).length<=81:=by
 unfold qDd
 split
 ·have:=qG9 (qBu b h S k) 1 (List.range' 0 81) fun a _=>qlU b h S k a
  rw[List.length_range'] at this
  omega
 ·simp
theorem qlZ (b h:List Int) (S:Int) (f:Nat) (hf:f<81):∀ (n t:Nat),t+n=81->∀ (L:List (List Int)) (x0 x6:Nat),x0=L.length->x6=L.length->L.length<=1000000 - 2*n->∀ F,
  qFV (F+n+1) x0 f t b h S x6 L (qDF b) =
   some ((L++(List.range' t n).flatMap (rTo b h S f)).length,(f:Int),b,h,S,(L++(List.range' t n).flatMap (rTo b h S f)).length,L++(List.range' t n).flatMap (rTo b h S f),qDF b):=by
 intro n
 induction n with
 | zero=>
   intro t ht L x0 x6 h0 h6 hb F
   show qH1 (qFV (F+0)) _ _ _ _ _ _ _ _ _=_
   unfold qH1
   rw[qZ (by omega)]
   simp only[List.range'_zero,List.flatMap_nil,List.append_nil,h0,h6]
 | succ n ih=>
   intro t ht L x0 x6 h0 h6 hb F
   show qH1 (qFV (F+n+1)) _ _ _ _ _ _ _ _ _=_
   unfold qH1
   rw[qf (by omega),qg (by omega) (by omega),tn,c_8,qPt b _ hf (by omega),qA,w_s (by omega) (by omega),List.range'_succ,List.flatMap_cons,<- List.append_assoc]
   have ih':=ih (t+1) (by omega) (L++rTo b h S f t)
   cases hr:rch (b.getD f 0) f t (tk b) with
   | false=>
     have e:rTo b h S f t=[]:=by unfold rTo;rw[hr];rfl
     rw[Bool.not_false,b_t]
     rw[e,List.append_nil] at ih' ⊢
     exact ih' x0 x6 h0 h6 (by omega) F
   | true=>
     have e:rTo b h S f t=qAr b h S f t:=by unfold rTo;rw[hr];rfl
     rw[e] at ih' ⊢
     rw[Bool.not_true,b_f,qJi,qA,tkA h0,tkA h0,qdE h0]
     cases hm:qAA b h S f t 0 false with
     | true=>
       rw[b_t,qC1 (by omega),qJi,qA]
       cases hy:qAA b h S f t 0 true with
       | true=>
         rw[b_t,qC1 (by omega)]
         have:=ih' (x0+1+1) (x0+1+1) (by simp[qAr,hm,hy,h0]) (by simp[qAr,hm,hy,h0]) (by simp[qAr,hm,hy];omega) F
         rw[<- this]
         simp[qAr,hm,hy]
       | false=>
         rw[b_f]
         have:=ih' (x0+1) (x0+1) (by simp[qAr,hm,hy,h0]) (by simp[qAr,hm,hy,h0]) (by simp[qAr,hm,hy];omega) F
         rw[<- this]
         simp[qAr,hm,hy]
     | false=>
       rw[b_f,qJi,qA]
       cases hy:qAA b h S f t 0 true with
       | true=>
         rw[b_t,qC1 (by omega)]
         have:=ih' (x0+1) (x0+1) (by simp[qAr,hm,hy,h0]) (by simp[qAr,hm,hy,h0]) (by simp[qAr,hm,hy];omega) F
         rw[<- this]
         simp[qAr,hm,hy]
       | false=>
         rw[b_f]
         have:=ih' x0 x6 (by simp[qAr,hm,hy,h0]) (by simp[qAr,hm,hy,h6]) (by simp[qAr,hm,hy];omega) F
         rw[<- this]
         simp[qAr,hm,hy]
theorem qlV (b h:List Int) (S:Int):∀ (n f:Nat),f+n=81->∀ (L:List (List Int)) (x0 x6:Nat),x0=L.length->x6=L.length->L.length<=900000 - 200*n->∀ F,
  qDq (F+n+1) x0 f b h S x6 L (qDF b) =
   some ((L++(List.range' f n).flatMap (qA6 b h S)).length,b,h,S,(L++(List.range' f n).flatMap (qA6 b h S)).length,L++(List.range' f n).flatMap (qA6 b h S)):=by
 intro n
 induction n with
 | zero=>
   intro f hf L x0 x6 h0 h6 hb F
   show qH4 (qDq (F+0)) _ _ _ _ _ _ _ _=_
   unfold qH4
   rw[qZ (by omega)]
   simp only[List.range'_zero,List.flatMap_nil,List.append_nil,h0,h6]
 | succ n ih=>
   intro f hf L x0 x6 h0 h6 hb F
   show qH4 (qDq (F+n+1)) _ _ _ _ _ _ _ _=_
   unfold qH4
   have hl:=qXr b h S f
   rw[qf (by omega),qg (by omega) (by omega),tn,c_8,qEW,qA,List.range'_succ,List.flatMap_cons,<- List.append_assoc]
   have ih':=ih (f+1) (by omega) (L++qA6 b h S f)
   by_cases h1:sd (b.getD f 0)=S
   ·have e:qA6 b h S f=(List.range' 0 81).flatMap (rTo b h S f):=by unfold qA6;rw[if_pos h1]
    rw[qu h1]
    obtain⟨g,hg⟩:=qd 81 (by omega)
    have:=qlZ b h S f (by omega) 81 0 (by omega) L x0 x6 h0 h6 (by omega) g
    rw[<- hg] at this
    rw[show qFV qC x0 f 0 b h S x6 L (qDF b)=_ from this,qA]
    simp only
    rw[w_s (by omega) (by omega),<- e]
    exact ih' _ _ rfl rfl (by rw[List.length_append];omega) F
   ·have e:qA6 b h S f=[]:=by unfold qA6;rw[if_neg h1]
    rw[qq h1,w_s (by omega) (by omega)]
    rw[e,List.append_nil] at ih' ⊢
    exact ih' x0 x6 h0 h6 (by omega) F
theorem qlT (b h:List Int) {S:Int} (hS:S=0 \/ S=1) (k:Nat) (hk:k<8):∀ (n t:Nat),t+n=81->∀ (L:List (List Int)) (x0 x6:Nat),x0=L.length->x6=L.length->L.length<=1000000 - 2*n->∀ F,
  qFW (F+n+1) x0 k t b h S x6 L =
   some ((L++if hd_ h S k>0 then (List.range' t n).flatMap (qBu b h S k) else []).length,(k:Int),b,h,S,(L++if hd_ h S k>0 then (List.range' t n).flatMap (qBu b h S k) else []).length,L++if hd_ h S k>0 then (List.range' t n).flatMap (qBu b h S k) else []):=by
 intro n
 induction n with
 | zero=>
   intro t ht L x0 x6 h0 h6 hb F
   show qH3 (qFW (F+0)) _ _ _ _ _ _ _ _=_
   unfold qH3
   rw[qZ (by omega)]
   simp only[List.range'_zero,List.flatMap_nil,ite_self,List.append_nil,h0,h6]
 | succ n ih=>
   intro t ht L x0 x6 h0 h6 hb F
   show qH3 (qFW (F+n+1)) _ _ _ _ _ _ _ _=_
   unfold qH3
   rw[qf (by omega),qg (by omega) (by omega),qg (by omega) (by omega)]
   have ih':=ih (t+1) (by omega) (L++qBu b h S k t)
   by_cases h1:hd_ h S k>0
   ·rw[show List.getD h (S.toNat*8+Int.toNat (k:Int)) 0=hd_ h S k from rfl,qCO h1,qJi,qA,tkA h0,w_s (by omega) (by omega)]
    simp only[if_pos h1] at ih' ⊢
    rw[List.range'_succ,List.flatMap_cons,<- List.append_assoc]
    cases hm:qAA b h S 0 t k false with
    | true=>
      have e:qBu b h S k t=[[0,(t:Int),(k:Int),0]]:=by unfold qBu;rw[hm];rfl
      rw[b_t,qC1 (by omega)]
      rw[e] at ih' ⊢
      exact ih' (x0+1) (x0+1) (by simp[h0]) (by simp[h0]) (by simp;omega) F
    | false=>
      have e:qBu b h S k t=[]:=by unfold qBu;rw[hm];rfl
      rw[b_f]
      rw[e,List.append_nil] at ih' ⊢
      exact ih' x0 x6 h0 h6 (by omega) F
   ·rw[show List.getD h (S.toNat*8+Int.toNat (k:Int)) 0=hd_ h S k from rfl,qB5 h1,if_neg h1,List.append_nil,h0,h6]
theorem qlX (b h:List Int) {S:Int} (hS:S=0 \/ S=1):∀ (n k:Nat),k+n=8->∀ (L:List (List Int)) (x0 x6:Nat),x0=L.length->x6=L.length->L.length<=900000 - 200*n->∀ F,
  qDp (F+n+1) x0 k b h S x6 L =
   some ((L++(List.range' k n).flatMap (qDd b h S)).length,(L++(List.range' k n).flatMap (qDd b h S)).length,L++(List.range' k n).flatMap (qDd b h S)):=by
 intro n
 induction n with
 | zero=>
   intro k hk L x0 x6 h0 h6 hb F
   show qH2 (qDp (F+0)) _ _ _ _ _ _ _=_
   unfold qH2
   rw[qGw (by omega)]
   simp only[List.range'_zero,List.flatMap_nil,List.append_nil,h0,h6]
 | succ n ih=>
   intro k hk L x0 x6 h0 h6 hb F
   show qH2 (qDp (F+n+1)) _ _ _ _ _ _ _=_
   unfold qH2
   have hl:=qlY b h S k
   obtain⟨g,hg⟩:=qd 81 (by omega)
   have:=qlT b h hS k (by omega) 81 0 (by omega) L x0 x6 h0 h6 (by omega) g
   rw[<- hg] at this
   rw[qIk (by omega),show qFW qC x0 k 0 b h S x6 L=_ from this,qA]
   simp only
   have e:List.range' k (n+1)=k :: List.range' (k+1) n:=List.range'_succ
   rw[w_s (by omega) (by omega),e,List.flatMap_cons,<- List.append_assoc]
   exact ih (k+1) (by omega) (L++qDd b h S k) _ _ rfl rfl (by rw[List.length_append];omega) F
theorem qlW (b h:List Int) (S:Int):((List.range' 0 81).flatMap (qA6 b h S)).length<=162*81:=by
 have:=qG9 (qA6 b h S) 162 (List.range' 0 81) fun a _=>qXr b h S a
 rw[List.length_range'] at this
 exact this
theorem qnv (b h:List Int) {S:Int} (hS:S=0 \/ S=1):qJd b h S=some ((qDc b h S).length,(qDc b h S).length,qDc b h S):=by
 have main:(ob (qES b h S) fun a3=>
  ob (qDq qC 0 0 b h S 0 [] a3) fun (a4_0,a4_1,a4_2,a4_3,a4_4,a4_5)=>
  ob (qDp qC a4_0 1 a4_1 a4_2 a4_3 a4_4 a4_5) fun (a10_0,a10_1,a10_2)=>
  (some (a10_0,a10_1,a10_2):Option (Nat×Nat×List (List Int))))=some ((qDc b h S).length,(qDc b h S).length,qDc b h S):=by
  rw[qSG,qA]
  have hl:=qlW b h S
  obtain⟨g,hg⟩:=qd 81 (by omega)
  have:=qlV b h S 81 0 (by omega) [] 0 0 rfl rfl (by simp only[List.length_nil];omega) g
  rw[<- hg,List.nil_append] at this
  rw[show qDq qC 0 0 b h S 0 [] (qDF b)=_ from this,qA]
  simp only
  obtain⟨g,hg⟩:=qd 7 (by omega)
  have:=qlX b h hS 7 1 (by omega) ((List.range' 0 81).flatMap (qA6 b h S)) _ _ rfl rfl (by omega) g
  rw[<- hg] at this
  rw[show qDp qC ((List.range' 0 81).flatMap (qA6 b h S)).length 1 b h S ((List.range' 0 81).flatMap (qA6 b h S)).length ((List.range' 0 81).flatMap (qA6 b h S))=_ from this,qA]
  rfl
 unfold qJd
 rcases hS with rfl | rfl
 ·rw[qu rfl];exact main
 ·rw[qq (by omega),qu rfl];exact main
theorem qgw {α β γ:Type} (p:α->Bool) (f:α->β) (g:β->List γ) (L:List α):((L.filter p).map f).flatMap g=L.flatMap fun a=>if p a then g (f a) else []:=by
 induction L with
 | nil=>rfl
 | cons a L ih=>
   rw[List.filter_cons,List.flatMap_cons]
   cases h:p a with
   | true=>rw[if_pos rfl,if_pos rfl,List.map_cons,List.flatMap_cons,ih]
   | false=>rw[if_neg (by simp),if_neg (by simp),ih];rfl
theorem qRx {γ:Type} (p:Nat->Bool) (g:Int->List γ):(sq p).flatMap g=(List.range' 0 81).flatMap fun (i:Nat)=>if p i then g (i:Int) else []:=by
 unfold sq;rw[qgw,qXt];rfl
theorem qI6 {α β:Type} {f g:α->List β} {L:List α} (h:∀ a∈L,f a=g a):L.flatMap f=L.flatMap g:=by
 induction L with
 | nil=>rfl
 | cons a L ih=>rw[List.flatMap_cons,List.flatMap_cons,h a (by simp),ih fun x hx=>h x (by simp[hx])]
theorem qp8 {γ:Type} (p:Nat->Bool) (g:Int->γ):(sq p).map g=(List.range' 0 81).flatMap fun (i:Nat)=>if p i then [g (i:Int)] else []:=by
 rw[<- qRx p fun t=>[g t]]
 induction sq p with
 | nil=>rfl
 | cons a L ih=>rw[List.map_cons,List.flatMap_cons,ih];rfl
theorem qiM {b:List Int} (_hc:Clean b) {c:Nat} (_hcc:c<81):kgs b c=decide (kd (b.getD c 0)=8):=by
 unfold kgs pcs
 rw[qA5 (.inl rfl) (by omega) (by omega) (by omega),qA5 (.inr rfl) (by omega) (by omega) (by omega),Bool.eq_iff_iff]
 simp only[Bool.or_eq_true,decide_eq_true_eq]
 constructor
 ·rintro (⟨_,h⟩ | ⟨_,h⟩)<;>rw[h]<;>decide
 ·intro h
  have:=qLU (x:=b.getD c 0) (by omega)
  rw[h] at this
  have hs:=qIB (x:=b.getD c 0) (by omega)
  rcases hs with h1 | h1<;>rw[h1,qA5 (by omega) (by omega) (by omega) (by omega)] at this
  ·left;omega
  ·right;omega
theorem qW1 {b:List Int} (_hc:Clean b) (h:List Int) {S:Int} (hS:S=0 \/ S=1) {f t:Nat} (hf:f<81) (ht:t<81) (hs:sd (b.getD f 0)=S) (hr:rch (b.getD f 0) f t (tk b)=true) (p:Bool):
  qAA b h S f t 0 p=(decide (sd (b.getD t 0)≠S /\ kd (b.getD t 0)≠8)&&if p=true then qCr (b.getD f 0) f t else !qC7 (b.getD f 0) t):=by
 unfold qAA qBp
 rw[if_neg (by simp),if_neg (by simp),qAa (by omega),qAa (by omega),tn,tn,hr,decide_eq_true (p:=S=0 \/ S=1) hS,Bool.true_and,Bool.true_and]
 by_cases hft:f=t
 ·subst hft
  have:decide (sd (b.getD f 0)=S /\ sd (b.getD f 0)≠S /\ kd (b.getD f 0)≠8)=false:=decide_eq_false fun hh=>hh.2.1 hs
  rw[this,Bool.false_and,Bool.and_false,Bool.false_and,decide_eq_false (p:=sd (b.getD f 0)≠S /\ kd (b.getD f 0)≠8) (fun hh=>hh.1 hs),Bool.false_and]
 ·have e:qCP f t 0 p=0:=by
   unfold qCP
   rw[if_neg (by omega),if_neg (by simp),if_neg (by omega),if_neg (by omega)]
  rw[decide_eq_true e,Bool.true_and]
  have:decide (sd (b.getD f 0)=S /\ sd (b.getD t 0)≠S /\ kd (b.getD t 0)≠8)=decide (sd (b.getD t 0)≠S /\ kd (b.getD t 0)≠8):=by simp[hs,-List.getD_eq_getElem?_getD]
  rw[this,Bool.and_assoc]
  congr 1
  cases p with
  | false=>simp
  | true=>
    simp only[Bool.not_true,Bool.false_or,if_true]
    unfold qCr
    rw[<- Bool.and_assoc,Bool.and_self]
theorem qq8 {b:List Int} (hc:Clean b) (h:List Int) {S:Int} (hS:S=0 \/ S=1) {f t:Nat} (hf:f<81) (ht:t<81) (hs:sd (b.getD f 0)=S):
  (if qBc b S (fun _=>true) f t then qAF (b.getD f 0) f t else [])=rTo b h S f t:=by
 unfold rTo qAr qAF qBc
 rw[qiM hc ht]
 cases hr:rch (b.getD f 0) f t (tk b) with
 | false=>simp
 | true=>
   rw[qW1 hc h hS hf ht hs hr,qW1 hc h hS hf ht hs hr]
   unfold sdP sds
   rw[decide_eq_true (p:=S=0 \/ S=1) hS]
   by_cases h1:sd (b.getD t 0)=S
   ·simp[h1,-List.getD_eq_getElem?_getD]
   ·by_cases h2:kd (b.getD t 0)=8
    ·simp[h2,-List.getD_eq_getElem?_getD]
    ·simp only[h1,h2,decide_false,Bool.and_self,Bool.not_false,Bool.true_and,ne_eq,not_false_eq_true,if_true,Bool.false_eq_true,if_false]
     cases qC7 (b.getD f 0) t<;>cases qCr (b.getD f 0) f t<;>rfl
theorem qPL {b:List Int} (hc:Clean b) (h:List Int) {S:Int} (hS:S=0 \/ S=1):mvs b h S=qDc b h S:=by
 unfold mvs qDc
 congr 1
 ·unfold qt
  rw[qRx]
  apply qI6
  intro f hf
  rw[List.mem_range'_1] at hf
  unfold qA6
  by_cases hs:sd (b.getD f 0)=S
  ·have:sdP b S f=true:=by unfold sdP sds;rw[decide_eq_true hs,decide_eq_true (p:=S=0 \/ S=1) hS];rfl
   rw[if_pos this,if_pos hs]
   unfold qCV
   rw[tn,qRx]
   apply qI6
   intro t ht
   rw[List.mem_range'_1] at ht
   exact qq8 hc h hS (by omega) (by omega) hs
  ·have:sdP b S f=false:=by unfold sdP sds;rw[decide_eq_false hs,Bool.and_false]
   rw[if_neg (by simp[this]),if_neg hs]
 ·unfold qAP
  apply qI6
  intro k hk
  rw[List.mem_range'_1] at hk
  unfold qBf qDd
  have e:hdP h S k=hd_ h S k:=by unfold hdP;rw[if_pos ⟨hS,by omega,by omega⟩]
  rw[e]
  by_cases h1:hd_ h S k>0
  ·rw[if_neg (by omega),if_pos h1,qp8]
   apply qI6
   intro t ht
   rw[List.mem_range'_1] at ht
   unfold qBu
   rw[Bool.and_true]
   have:qAA b h S 0 t k false=qAw b S k t:=by
    unfold qAA qBp qAw qA7
    have e2:qCP 0 (t:Int) k false=0:=by
     unfold qCP
     rw[if_neg (by omega),if_pos (by omega),if_pos ⟨by omega,by omega,rfl,rfl⟩]
    rw[e2,qA5 hS (by omega) (by omega) (by omega),qA5 hS (by omega) (by omega) (by omega),if_pos (by omega),if_pos (by omega),decide_eq_true (p:=S=0 \/ S=1) hS,decide_eq_true (p:=(S=0 \/ S=1) /\ (1:Int)<=k /\ (k:Int)<=7) ⟨hS,by omega,by omega⟩,qNY _ (by omega),qAa (by omega),tn,decide_eq_true (p:=0<hd_ h S k) h1]
    unfold tk
    by_cases h2:(k:Int)=1
    ·rw[h2]
     by_cases h0:b.getD t 0=0<;>simp
    ·by_cases h0:b.getD t 0=0<;>simp[h2]
   rw[this]
  ·rw[if_pos (by omega),if_neg h1]
end Go.Kk.Pl
