/- What the program's functions come to, told plainly: the texts of this project that this claim leans on, cut down to what is used. -/
import Derived.Test.YtjckfjagajmekaaGreatDoorKkU2
import Derived.Test.YtjckfjagajmekaaGreatDoorKkU1
namespace Go.Kk.Pl
theorem hd0 (m:List Int):List.headD (List.take 4 m) 0=m.getD 0 0:=by cases m<;>rfl
theorem hd1 (m:List Int):List.headD (List.tail (List.take 4 m)) 0=m.getD 1 0:=by
 rcases m with _ | ⟨a,_ | ⟨b,m⟩⟩<;>rfl
theorem hd2 (m:List Int):List.headD (List.tail (List.tail (List.take 4 m))) 0=m.getD 2 0:=by
 rcases m with _ | ⟨a,_ | ⟨b,_ | ⟨c,m⟩⟩⟩<;>rfl
theorem hd3 (m:List Int):List.headD (List.tail (List.tail (List.tail (List.take 4 m)))) 0=m.getD 3 0:=by
 rcases m with _ | ⟨a,_ | ⟨b,_ | ⟨c,_ | ⟨d,m⟩⟩⟩⟩<;>rfl
theorem qkk {x f t:Int} {m:List Int} (h:m∈qAF x f t):∃ p:Int,m=[f,t,0,p]:=by
 unfold qAF at h
 rw[List.mem_append] at h
 rcases h with h | h
 ·split at h
  ·cases h
  ·exact⟨0,by simpa using h⟩
 ·split at h
  ·exact⟨1,by simpa using h⟩
  ·cases h
theorem qjl {b:List Int} {S:Int} {G:Nat->Bool} {f:Int} {m:List Int} (h:m∈qCV b S G f):∃ t p:Int,m=[f,t,0,p]:=by
 unfold qCV at h
 obtain⟨t,_,ht⟩:=List.mem_flatMap.1 h
 obtain⟨p,hp⟩:=qkk ht
 exact⟨t,p,hp⟩
theorem qjj {b:List Int} {S:Int} {G:Nat->Bool} {m:List Int} (h:m∈qt b S G):∃ f t p:Int,m=[f,t,0,p]:=by
 unfold qt at h
 obtain⟨f,_,hf⟩:=List.mem_flatMap.1 h
 obtain⟨t,p,hp⟩:=qjl hf
 exact⟨f,t,p,hp⟩
theorem qjm {b h:List Int} {S:Int} {G:Nat->Bool} {k:Nat} {m:List Int} (hm:m∈qBf b h S G k):∃ t:Int,m=[0,t,(k:Int),0]:=by
 unfold qBf at hm
 split at hm
 ·cases hm
 ·obtain⟨t,_,ht⟩:=List.mem_map.1 hm
  exact⟨t,ht.symm⟩
theorem qjk {b h:List Int} {S:Int} {G:Nat->Bool} {m:List Int} (hm:m∈qAP b h S G):∃ (k:Nat) (t:Int),1<=k /\ k<=7 /\ m=[0,t,(k:Int),0]:=by
 unfold qAP at hm
 obtain⟨k,hk,h2⟩:=List.mem_flatMap.1 hm
 rw[List.mem_range'_1] at hk
 obtain⟨t,ht⟩:=qjm h2
 exact⟨k,t,by omega,by omega,ht⟩
theorem qjn (b h:List Int) (S:Int):(mvs b h S).length<=20000:=by
 unfold mvs
 have h1:=qLH b S fun _=>true
 have h2:=qPK b h S fun _=>true
 rw[List.length_append]
 omega
end Go.Kk.Pl
namespace Go.Kk.Pl
theorem qhb (es:List (List Int×List Int)) (r v r' d:List Int):qA3 (qAJ es r v) r' d=if r'=r then v else qA3 es r' d:=by
 induction es with
 | nil=>
   by_cases h:r'=r
   ·subst h;simp[qAJ,qA3]
   ·have:(r==r')=false:=by simpa using fun hh=>h hh.symm
    simp[qAJ,qA3,this,h]
 | cons x es ih=>
   obtain⟨k,u⟩:=x
   by_cases hk:k=r
   ·subst hk
    by_cases h:r'=k
    ·subst h;simp[qAJ,qA3]
    ·have:(k==r')=false:=by simpa using fun hh=>h hh.symm
     simp[qAJ,qA3,this,h]
   ·have e1:(k==r)=false:=by simpa using hk
    by_cases hk':k=r'
    ·subst hk'
     simp[qAJ,qA3,e1,hk]
    ·have e2:(k==r')=false:=by simpa using hk'
     simp only[qAJ,e1,cond_false,qA3,e2,ih]
theorem qhk (es:List (List Int×List Int)) (r v r':List Int):qA4 (qAJ es r v) r'=(decide (r'=r)||qA4 es r'):=by
 induction es with
 | nil=>
   by_cases h:r'=r
   ·subst h;simp[qAJ,qA4]
   ·have:(r==r')=false:=by simpa using fun hh=>h hh.symm
    simp[qAJ,qA4,this,h]
 | cons x es ih=>
   obtain⟨k,u⟩:=x
   by_cases hk:k=r
   ·subst hk
    by_cases h:r'=k
    ·subst h;simp[qAJ,qA4]
    ·have:(k==r')=false:=by simpa using fun hh=>h hh.symm
     simp[qAJ,qA4,this,h]
   ·have e1:(k==r)=false:=by simpa using hk
    by_cases hk':k=r'
    ·subst hk'
     simp[qAJ,qA4,e1]
    ·have e2:(k==r')=false:=by simpa using hk'
     simp only[qAJ,e1,cond_false,qA4,e2,ih,Bool.false_or]
structure MvOK (b h:List Int) (S f t d p:Int):Prop where
 pp:p=0 \/ p=1
 mov:qAA b h S f t d (p != 0)=true
 tr:0<=t /\ t<81
 fr:0<=f /\ f<81
 dr:0<=d /\ d<=7
 drop:d≠0->f=0 /\ p=0 /\ 0<hd_ h S d /\ at_ b t=0
theorem qjo {b h:List Int} (hc:Clean b) {S:Int} (hS:S=0 \/ S=1) {m:List Int} (hm:m∈mvs b h S):∃ f t d p:Int,m=[f,t,d,p] /\ MvOK b h S f t d p:=by
 rw[qPL hc h hS] at hm
 unfold qDc at hm
 rw[List.mem_append] at hm
 rcases hm with hm | hm
 ·obtain⟨f,hf,hm⟩:=List.mem_flatMap.1 hm
  rw[List.mem_range'_1] at hf
  unfold qA6 at hm
  split at hm<;>try cases hm
  obtain⟨t,ht,hm⟩:=List.mem_flatMap.1 hm
  rw[List.mem_range'_1] at ht
  unfold rTo at hm
  split at hm<;>try cases hm
  unfold qAr at hm
  rw[List.mem_append] at hm
  rcases hm with hm | hm
  ·split at hm
   ·rename_i hmv
    rw[List.mem_singleton] at hm
    exact⟨f,t,0,0,hm,.inl rfl,hmv,by omega,by omega,by omega,fun h=>absurd rfl h⟩
   ·cases hm
  ·split at hm
   ·rename_i hmv
    rw[List.mem_singleton] at hm
    exact⟨f,t,0,1,hm,.inr rfl,hmv,by omega,by omega,by omega,fun h=>absurd rfl h⟩
   ·cases hm
 ·obtain⟨k,hk,hm⟩:=List.mem_flatMap.1 hm
  rw[List.mem_range'_1] at hk
  unfold qDd at hm
  split at hm<;>try cases hm
  rename_i hh
  obtain⟨t,ht,hm⟩:=List.mem_flatMap.1 hm
  rw[List.mem_range'_1] at ht
  unfold qBu at hm
  split at hm
  case isFalse=>cases hm
  rename_i hmv
  rw[List.mem_singleton] at hm
  refine⟨0,t,k,0,hm,.inl rfl,hmv,by omega,by omega,by omega,fun h=>⟨rfl,rfl,hh,?_⟩⟩
  have:=hmv
  unfold qAA qBp at this
  rw[if_pos h] at this
  simp only[Bool.and_eq_true,decide_eq_true_eq] at this
  exact this.1.2.2.2
theorem qjT {b h:List Int} (hc:Clean b) {S:Int} (hS:S=0 \/ S=1) {f t d:Int} {p:Bool} (hm:qAA b h S f t d p=true):[f,t,d,bi p]∈mvs b h S:=by
 rw[qPL hc h hS]
 unfold qDc
 rw[List.mem_append]
 have hm':=hm
 unfold qAA qBp at hm'
 simp only[Bool.and_eq_true,decide_eq_true_eq] at hm'
 obtain⟨⟨hchk,_,hcan⟩,hw⟩:=hm'
 obtain⟨ht,hdr,hmv⟩:=qIw hchk
 by_cases hd:d=0
 ·left
  subst hd
  obtain⟨hf,_⟩:=hmv rfl
  rw[if_neg (by simp)] at hcan hw
  simp only[Bool.and_eq_true,decide_eq_true_eq] at hcan hw
  refine List.mem_flatMap.2 ⟨f.toNat,by rw[List.mem_range'_1];omega,?_⟩
  unfold qA6
  rw[qAa hf] at hcan hw
  rw[if_pos hcan.1.1]
  refine List.mem_flatMap.2 ⟨t.toNat,by rw[List.mem_range'_1];omega,?_⟩
  unfold rTo
  rw[if_pos hw.1]
  unfold qAr
  rw[show ((f.toNat:Nat):Int)=f by omega,show ((t.toNat:Nat):Int)=t by omega,List.mem_append]
  cases p with
  | false=>left;rw[if_pos hm];simp[bi,br]
  | true=>right;rw[if_pos hm];simp[bi,br]
 ·right
  obtain⟨d1,d7,rfl,rfl⟩:=hdr hd
  rw[if_pos hd] at hcan
  simp only[Bool.and_eq_true,decide_eq_true_eq] at hcan
  refine List.mem_flatMap.2 ⟨d.toNat,by rw[List.mem_range'_1];omega,?_⟩
  unfold qDd
  rw[show ((d.toNat:Nat):Int)=d by omega,if_pos hcan.1]
  refine List.mem_flatMap.2 ⟨t.toNat,by rw[List.mem_range'_1];omega,?_⟩
  unfold qBu
  rw[show ((d.toNat:Nat):Int)=d by omega,show ((t.toNat:Nat):Int)=t by omega,if_pos hm]
  simp[bi,br]
end Go.Kk.Pl
namespace Go.Kk.Pl
theorem qcu {x:Int} {a c:Nat} (h:qAz x a c=true):-1<=df a c /\ df a c<=1 /\ -2<=dr a c /\ dr a c<=2 /\ (dr a c=2 \/ dr a c = -2->df a c=1 \/ df a c = -1) /\ ¬ (df a c=0 /\ dr a c=0):=by
 have h:=of_decide_eq_true h
 unfold qB1 at h
 have:upS x a c=dr a c \/ upS x a c = - dr a c:=by unfold upS;split<;>simp
 omega
theorem qMZ {x:Int} {a c:Nat} (h:qAz x a c=true):btw a c=[]:=by
 have hs:=qcu h
 unfold btw
 by_cases hl:qw a c=0
 ·rw[if_pos hl]
 ·rw[if_neg hl]
  have hl:=(qK7 a c).mp hl
  unfold qEL at hl
  have:mx a c<=1:=by
   unfold mx
   split<;>omega
  rw[show mx a c - 1=0 by omega]
  rfl
theorem qqf {x:Int} {a:Nat}:qAz x a a=false:=by
 cases h:qAz x a a with
 | false=>rfl
 | true=>exact absurd (qHK a) (qcu h).2.2.2.2.2
theorem qp2 {x:Int} {a:Nat}:qAj x a a=false:=by
 unfold qAj
 have:=qHK a
 have:upS x a a=0:=by unfold upS;split<;>omega
 rw[decide_eq_false]
 unfold slK
 omega
theorem qYG {x:Int} {a:Nat} {t:Nat->Bool}:rch x a a t=false:=by
 unfold rch;rw[qqf,qp2];rfl
theorem qIr {k c f:Nat} (hk:k<81) (hc:c<81) (h:f∈btw c k):f<81 /\ f≠k /\ f≠c /\ ∃ n:Nat,(qBC (sgn (df k f)) (sgn (dr k f)) k)[n]? = some c /\ ∀ i,(i∈btw c k↔i∈(qBC (sgn (df k f)) (sgn (dr k f)) k).take n):=by
 have hf:f∈btw k c:=qIp hc hk h
 have hl:qw k c≠0:=by intro h0;unfold btw at hf;rw[if_pos h0] at hf;cases hf
 have:=qKV ⟨k,hk⟩ ⟨c,hc⟩
 simp only[qIv,Bool.or_eq_true,decide_eq_true_eq,Bool.and_eq_true,beq_iff_eq,Bool.not_eq_true'] at this
 obtain⟨e1,e2,e3⟩:=this.resolve_left hl
 have hW:f∈qBC (sgn (df k c)) (sgn (dr k c)) k:=List.mem_of_mem_take (by rw[e1];exact hf)
 have hli:=(qK7 k c).mp hl
 have sx:-1<=sgn (df k c) /\ sgn (df k c)<=1:=by unfold sgn;split<;>(try split)<;>omega
 have sy:-1<=sgn (dr k c) /\ sgn (dr k c)<=1:=by unfold sgn;split<;>(try split)<;>omega
 have sn:¬ (sgn (df k c)=0 /\ sgn (dr k c)=0):=by
  unfold qEL at hli
  unfold sgn
  split<;>split<;>(try split)<;>(try split)<;>omega
 have hB:=qTw ⟨((sgn (df k c)+1)*3+(sgn (dr k c)+1)).toNat,by omega⟩ ⟨k,hk⟩
 simp only at hB
 rw[show (((((sgn (df k c)+1)*3+(sgn (dr k c)+1)).toNat / 3:Nat):Int) - 1)=sgn (df k c) by omega,show (((((sgn (df k c)+1)*3+(sgn (dr k c)+1)).toNat % 3:Nat):Int) - 1)=sgn (dr k c) by omega] at hB
 have hB:=hB.resolve_left (by omega)
 unfold qNP at hB
 rw[List.all_eq_true] at hB
 have hB:=hB f hW
 simp only[Bool.and_eq_true,decide_eq_true_eq] at hB
 obtain⟨b1,b2,b3,b4⟩:=hB
 refine⟨b1,?_,?_,(btw k c).length,?_,?_⟩
 ·rintro rfl
  exact b2 (by unfold qw;rw[if_pos rfl])
 ·rintro rfl
  rw[List.contains_iff_mem.mpr hf] at e3
  cases e3
 ·rw[b3,b4];exact e2
 ·intro i
  rw[b3,b4,e1]
  exact⟨qIp hc hk,qIp hk hc⟩
theorem qTm {k c c' f:Nat} (hk:k<81) (hc:c<81) (hc':c'<81) (h:f∈btw c k) (h':f∈btw c' k) (hne:c≠c'):c∈btw c' k \/ c'∈btw c k:=by
 obtain⟨_,_,_,n,e,m⟩:=qIr hk hc h
 obtain⟨_,_,_,n',e',m'⟩:=qIr hk hc' h'
 rcases Nat.lt_trichotomy n n' with hn | hn | hn
 ·left
  rw[m',List.mem_iff_getElem?]
  exact⟨n,by rw[List.getElem?_take,if_pos hn];exact e⟩
 ·subst hn
  rw[e] at e'
  exact absurd (Option.some.inj e') hne
 ·right
  rw[m,List.mem_iff_getElem?]
  exact⟨n',by rw[List.getElem?_take,if_pos hn];exact e'⟩
def enm (b:List Int) (s:Int) (c:Nat):Bool:=decide (sd (b.getD c 0)=1 - s)
def atk (b:List Int) (s:Int) (k c:Nat):Bool:=enm b s c&&rch (b.getD c 0) c k (tk b)
def tk2 (b:List Int) (f t i:Nat):Bool:=decide (i=t)||(!decide (i=f)&&tk b i)
def qD7 (b:List Int) (s:Int) (k f t c:Nat):Bool:=decide (c≠t)&&(enm b s c&&rch (b.getD c 0) c k (tk2 b f t))
def qAL (b:List Int) (s:Int) (k f c:Nat):Bool:=enm b s c&&(qAj (b.getD c 0) c k&&((btw c k).contains f&&(tk b f&&(decide (sd (b.getD f 0)=s)&&(btw c k).all fun i=>i==f || !tk b i))))
theorem qC9 {b:List Int} {s:Int} {k f c:Nat}:qAL b s k f c=true↔enm b s c=true /\ qAj (b.getD c 0) c k=true /\ f∈btw c k /\ tk b f=true /\ sd (b.getD f 0)=s /\ ∀ i∈btw c k,i≠f->tk b i=false:=by
 unfold qAL
 simp only[Bool.and_eq_true,decide_eq_true_eq,List.all_eq_true,Bool.or_eq_true,beq_iff_eq,Bool.not_eq_true',List.contains_iff_mem]
 constructor
 ·rintro ⟨h1,h2,h3,h4,h5,h6⟩
  exact⟨h1,h2,h3,h4,h5,fun i hi hn=>(h6 i hi).resolve_left hn⟩
 ·rintro ⟨h1,h2,h3,h4,h5,h6⟩
  exact⟨h1,h2,h3,h4,h5,fun i hi=>by by_cases hn:i=f;exact .inl hn;exact .inr (h6 i hi hn)⟩
theorem qNh {b:List Int} {s:Int} (hs:s=0 \/ s=1) {c:Nat} (h:enm b s c=true):tk b c=true:=by
 have h:=of_decide_eq_true h
 unfold tk
 rw[decide_eq_true_eq]
 intro h0
 rw[h0,qJn] at h
 omega
theorem qXl {b:List Int} {s:Int} (hs:s=0 \/ s=1) {k f c c':Nat} (hk:k<81) (hc:c<81) (hc':c'<81) (h:qAL b s k f c=true) (h':qAL b s k f c'=true):c=c':=by
 apply Classical.byContradiction
 intro hne
 rw[qC9] at h h'
 rcases qTm hk hc hc' h.2.2.1 h'.2.2.1 hne with hm | hm
 ·have:=h'.2.2.2.2.2 c hm (fun e=>(qIr hk hc h.2.2.1).2.2.1 e.symm)
  rw[qNh hs h.1] at this
  cases this
 ·have:=h.2.2.2.2.2 c' hm (fun e=>(qIr hk hc' h'.2.2.1).2.2.1 e.symm)
  rw[qNh hs h'.1] at this
  cases this
theorem qXm {b:List Int} {s:Int} {k f f' c:Nat} (h:qAL b s k f c=true) (h':qAL b s k f' c=true):f=f':=by
 apply Classical.byContradiction
 intro hne
 rw[qC9] at h h'
 have:=h'.2.2.2.2.2 f h.2.2.1 hne
 rw[h.2.2.2.1] at this
 cases this
theorem qBw {x:Int} {a c:Nat} {t:Nat->Bool}:rch x a c t=true↔qAz x a c=true \/ (qAj x a c=true /\ ∀ i∈btw a c,t i=false):=by
 unfold rch
 rw[Bool.or_eq_true,Bool.and_eq_true,qHB]
theorem qeR {b:List Int} {s:Int} {k f t:Nat} (hf:tk b f=true->sd (b.getD f 0)=s):
  (∀ c,c<81->qD7 b s k f t c=false)↔(∀ c,c<81->atk b s k c=true->t=c \/ t∈btw c k) /\ (∀ c,c<81->qAL b s k f c=true->t=c \/ t∈btw c k):=by
 constructor
 ·intro h
  refine⟨fun c hc ha=>?_,fun c hc hp=>?_⟩
  ·apply Classical.byContradiction
   intro hn
   simp only[not_or] at hn
   have:=h c hc
   rw[show qD7 b s k f t c=true from ?_] at this
   ·cases this
   ·simp only[atk,Bool.and_eq_true] at ha
    simp only[qD7,Bool.and_eq_true,decide_eq_true_eq]
    refine⟨fun e=>hn.1 e.symm,ha.1,?_⟩
    rw[qBw] at ha ⊢
    refine ha.2.imp id fun hh=>⟨hh.1,fun i hi=>?_⟩
    unfold tk2
    rw[hh.2 i hi,decide_eq_false (p:=i=t) (fun e=>hn.2 (e ▸ hi))]
    simp
  ·apply Classical.byContradiction
   intro hn
   simp only[not_or] at hn
   have:=h c hc
   rw[show qD7 b s k f t c=true from ?_] at this
   ·cases this
   ·rw[qC9] at hp
    simp only[qD7,Bool.and_eq_true,decide_eq_true_eq]
    refine⟨fun e=>hn.1 e.symm,hp.1,?_⟩
    rw[qBw]
    refine .inr ⟨hp.2.1,fun i hi=>?_⟩
    unfold tk2
    rw[decide_eq_false (p:=i=t) (fun e=>hn.2 (e ▸ hi))]
    by_cases hif:i=f
    ·simp[hif]
    ·rw[hp.2.2.2.2.2 i hi hif];simp
 ·rintro ⟨h1,h2⟩ c hc
  cases ha:qD7 b s k f t c with
  | false=>rfl
  | true=>
    exfalso
    simp only[qD7,Bool.and_eq_true,decide_eq_true_eq] at ha
    obtain⟨hct,he,hr⟩:=ha
    have tt:tk2 b f t t=true:=by unfold tk2;simp
    have out:t ∉ btw c k:=by
     intro hm
     rw[qBw] at hr
     rcases hr with hr | hr
     ·rw[qMZ hr] at hm;cases hm
     ·rw[hr.2 t hm] at tt;cases tt
    cases hak:atk b s k c with
    | true=>exact (h1 c hc hak).elim (fun e=>hct e.symm) out
    | false=>
      unfold atk at hak
      rw[he,Bool.true_and] at hak
      have hn:¬ (qAz (b.getD c 0) c k=true \/ (qAj (b.getD c 0) c k=true /\ ∀ i∈btw c k,tk b i=false)):=by
       rw[<- qBw,hak];simp
      simp only[not_or,not_and] at hn
      rw[qBw] at hr
      have hr:=hr.resolve_left hn.1
      have two:∀ i∈btw c k,i≠f->tk b i=false:=by
       intro i hi hif
       have:=hr.2 i hi
       unfold tk2 at this
       rw[decide_eq_false hif] at this
       simpa using (Bool.or_eq_false_iff.mp this).2
      have hmf:f∈btw c k /\ tk b f=true:=by
       apply Classical.byContradiction
       intro hh
       apply hn.2 hr.1
       intro i hi
       by_cases hif:i=f
       ·subst hif
        cases htk:tk b i with
        | false=>rfl
        | true=>exact absurd ⟨hi,htk⟩ hh
       ·exact two i hi hif
      exact (h2 c hc (qC9.mpr ⟨he,hr.1,hmf.1,hmf.2,hf hmf.2,two⟩)).elim (fun e=>hct e.symm) out
theorem qrC {b:List Int} {s:Int} (hs:s=0 \/ s=1) {k c c' t:Nat} (hk:k<81) (hc:c<81) (hc':c'<81) (h:atk b s k c=true) (h':atk b s k c'=true) (hne:c≠c')
  (ht:t=c \/ t∈btw c k) (ht':t=c' \/ t∈btw c' k):False:=by
 have no:∀ {c c':Nat},atk b s k c=true->atk b s k c'=true->c∈btw c' k->False:=by
  intro c c' h h' hm
  simp only[atk,Bool.and_eq_true] at h h'
  rcases qBw.mp h'.2 with hr | hr
  ·rw[qMZ hr] at hm;cases hm
  ·have:=hr.2 c hm
   rw[qNh hs h.1] at this;cases this
 rcases ht with rfl | ht
 ·rcases ht' with rfl | ht'
  ·exact hne rfl
  ·exact no h h' ht'
 ·rcases ht' with rfl | ht'
  ·exact no h' h ht
  ·rcases qTm hk hc hc' ht ht' hne with hm | hm
   ·exact no h h' hm
   ·exact no h' h hm
end Go.Kk.Pl
namespace Go.Kk.Pl
theorem qf7 {f g:Nat->Bool} (h:∀ i,i<81->f i=g i):qAv f=qAv g:=by
 unfold qAv
 apply List.countP_congr
 intro i hi
 rw[h i (List.mem_range.mp hi)]
theorem qgB:∀ f:Fin 81,qAv (only ((f.val:Nat):Int))=1:=by decide +kernel
theorem qG4 {g:Nat->Bool}:qAv g=1 ↔ ∃ f,f<81 /\ ∀ i,i<81->(g i=true↔i=f):=by
 constructor
 ·intro h
  unfold qAv at h
  rw[List.countP_eq_length_filter] at h
  obtain⟨f,hf⟩:=List.length_eq_one_iff.mp h
  have hm:∀ i,i∈(List.range 81).filter g↔i=f:=by rw[hf];simp
  refine⟨f,?_,fun i hi=>?_⟩
  ·have:=(hm f).mpr rfl
   rw[List.mem_filter,List.mem_range] at this
   exact this.1
  ·rw[<- hm i,List.mem_filter,List.mem_range]
   exact⟨fun h=>⟨hi,h⟩,fun h=>h.2⟩
 ·rintro ⟨f,hf,h⟩
  rw[<- qgB ⟨f,hf⟩]
  apply qf7
  intro i hi
  unfold only
  rw[Bool.eq_iff_iff,h i hi,decide_eq_true_eq]
  simp only
  omega
theorem qNs {g:Nat->Bool} {f:Nat} (hf:f<81) (h:∀ i,i<81->(g i=true↔i=f)):fst g=f:=by
 apply qKn hf ((h f hf).mpr rfl)
 intro i hi
 cases hg:g i with
 | false=>rfl
 | true=>exact absurd ((h i (by omega)).mp hg) (by omega)
def qD3 (k c:Nat) (i:Nat):Bool:=(btw c k).contains i||only c i
def qEQ (b:List Int) (s:Int) (k c:Nat):Option Nat:=(List.range 81).find? fun f=>qAL b s k f c
theorem qlH {b:List Int} {s:Int} {k c f:Nat} (h:qAL b s k f c=true) (hf:f<81):qEQ b s k c=some f:=by
 unfold qEQ
 cases hp:(List.range 81).find? fun f=>qAL b s k f c with
 | none=>
   rw[List.find?_eq_none] at hp
   exact absurd h (hp f (List.mem_range.mpr hf))
 | some f'=>
   have:=List.find?_some hp
   rw[qXm this h]
theorem qXk {b:List Int} {s:Int} {k c:Nat} (h:∀ f,f<81->qAL b s k f c=false):qEQ b s k c=none:=by
 unfold qEQ
 rw[List.find?_eq_none]
 intro f hf
 rw[h f (List.mem_range.mp hf)]
 simp
def qBo (b:List Int) (s:Int) (k:Nat) (P:Nat->Bool) (es:List (List Int×List Int)):Prop:=
 ∀ f:Nat,f<81->(qA4 es [(f:Int)]=true ↔ ∃ c,c<81 /\ P c=true /\ qAL b s k f c=true) /\ ∀ c,c<81->P c=true->qAL b s k f c=true->qA3 es [(f:Int)] [0,0]=prS (qD3 k c)
theorem qlK {b:List Int} (hcl:Clean b) (h:List Int) (S:Int) {s:Int} (hs:s=0 \/ s=1) {k:Nat} (hk:k<81) (x2:Nat) (x3 x4:Int) (x14:Nat) (x15:List Int) (N:Nat) (L:List Int) {i:Nat} (hi:i<L.length) (hl:L.length<=1000) {c:Nat} (hc:c<81) (hq:L[i]=(c:Int)) (he:enm b s c=true)
  (es:List (List Int×List Int)) (R:Int->Int->Nat->Int->Int->Nat->Int->Int->List Int->List Int->Int->List (List Int)->List (List Int)->List (List Int×List Int)->Nat->List Int->Nat->List Int->Option (Int×Int×Nat×Int×Int×List Int×List Int×Int×List (List Int)×List (List Int)×List (List Int×List Int)×Nat×List Int)):
  qFv R s k x2 x3 x4 L.length L.length i b h S (qJ b) (qK b) es x14 x15 N L =
   R s k x2 x3 x4 L.length L.length ((i+1:Nat):Int) b h S (qJ b) (qK b) (match qEQ b s k c with | none=>es | some f=>qAJ es [(f:Int)] (prS (qD3 k c))) x14 x15 N L:=by
 unfold qFv
 have hget:L.getD i 0=L[i]:=qGp hi
 rw[qf (by omega),qg (by omega) (by omega),tn,hget,hq,qXw hc hk,qA]
 simp only
 rw[qJ4 hcl,qA]
 simp only
 rw[qFt,qA]
 simp only
 rw[qT4,qA,w_s (n:=(i:Int)+1) (by omega) (by omega)]
 have inm:∀ f,f<81->qAL b s k f c=true->∀ i,i<81->(((btw c k).contains i&&tk b i)=true↔i=f):=by
  intro f _ hp i _
  rw[qC9] at hp
  rw[Bool.and_eq_true,List.contains_iff_mem]
  constructor
  ·rintro ⟨h1,h2⟩
   apply Classical.byContradiction
   intro hn
   rw[hp.2.2.2.2.2 i h1 hn] at h2;cases h2
  ·rintro rfl;exact⟨hp.2.2.1,hp.2.2.2.1⟩
 by_cases h1:((qAv fun i=>(btw c k).contains i&&tk b i:Nat):Int)=1
 ·rw [qu h1]
  obtain⟨f,hf,hm⟩:=qG4.mp (by omega:(qAv fun i=>(btw c k).contains i&&tk b i)=1)
  have only_f:∀ f',f'<81->qAL b s k f' c=true->f'=f:=fun f' hf' hp=>(hm f' hf').mp ((inm f' hf' hp f' hf').mpr rfl)
  have none':qAL b s k f c=false->qEQ b s k c=none:=by
   intro h0
   apply qXk
   intro f' hf'
   cases hp:qAL b s k f' c with
   | false=>rfl
   | true=>rw[only_f f' hf' hp,h0] at hp;cases hp
  have hmf:=(hm f hf).mpr rfl
  rw[Bool.and_eq_true,List.contains_iff_mem] at hmf
  rw[qPa,qA]
  simp only
  rw[qFt,qA]
  simp only
  rw[qKd,qA]
  by_cases hsd:sd (b.getD f 0)=s
  ·have hE0:isE (fun i=>((btw c k).contains i&&tk b i)&&sdP b s i)=false:=by
    cases hE:isE (fun i=>((btw c k).contains i&&tk b i)&&sdP b s i) with
    | false=>rfl
    | true=>
      have:=qCn.mp hE f hf
      rw[(hm f hf).mpr rfl] at this
      unfold sdP sds at this
      rw[decide_eq_true hs,decide_eq_true hsd] at this
      cases this
   rw[hE0,b_f]
   rw[qNn,qA,qCz,qA,qAa (by omega),tn]
   rw[qNs hf hm,qA]
   simp only
   rw[qKD,qA]
   simp only
   rw[qLd _ hc,qA]
   simp only
   rw[qEI,qA]
   have hh:∀ g:Nat->Bool,has g (k:Int)=g k:=by
    intro g;unfold has;rw[decide_eq_true (by omega),decide_eq_true (by omega),tn];rfl
   rw[hh]
   cases hr1:rch (b.getD c 0) c k (fun i=>tk b i && !only f i) with
   | false=>
     rw[Bool.not_false,b_t,none' ?_]
     ·rfl
     ·cases hp:qAL b s k f c with
      | false=>rfl
      | true=>
        rw[qC9] at hp
        rw[<- hr1,qBw.mpr (.inr ⟨hp.2.1,?_⟩)]
        intro i hi
        by_cases hif:i=f
        ·subst hif;unfold only;simp
        ·rw[hp.2.2.2.2.2 i hi hif];rfl
   | true =>
     rw[Bool.not_true,b_f,qA,qA]
     simp only
     rw[qLd _ hc,qA]
     simp only
     rw[qEI,qA,hh]
     cases hr2:rch (b.getD c 0) c k (tk b) with
     | true=>
       rw[b_t,none' ?_]
       ·rfl
       ·cases hp:qAL b s k f c with
        | false=>rfl
        | true=>
          rw[qC9] at hp
          rcases qBw.mp hr2 with hr | hr
          ·rw[qMZ hr] at hmf;cases hmf.1
          ·rw[hr.2 f hmf.1] at hmf;cases hmf.2
     | false=>
       have hn:¬ (qAz (b.getD c 0) c k=true \/ (qAj (b.getD c 0) c k=true /\ ∀ i∈btw c k,tk b i=false)):=by
        rw[<- qBw,hr2];simp
       simp only[not_or] at hn
       have hp:qAL b s k f c=true:=by
        rw[qC9]
        refine⟨he,((qBw.mp hr1).resolve_left hn.1).1,hmf.1,hmf.2,hsd,fun i hi hif=>?_⟩
        cases htk:tk b i with
        | false=>rfl
        | true=>
          exact absurd ((hm i (qIq hc hk hi)).mp (by rw[Bool.and_eq_true,List.contains_iff_mem];exact⟨hi,htk⟩)) hif
       rw[b_f,qGj,qA,qlH hp hf]
       rfl
  ·have hE0:isE (fun i=>((btw c k).contains i&&tk b i)&&sdP b s i)=true:=by
    rw[qCn]
    intro i hi
    cases hx:((btw c k).contains i&&tk b i) with
    | false=>rfl
    | true=>
      rw[(hm i hi).mp hx]
      unfold sdP sds
      rw[decide_eq_false hsd];simp
   rw[hE0,b_t,none' ?_]
   ·rfl
   ·cases hp:qAL b s k f c with
    | false=>rfl
    | true=>exact absurd (qC9.mp hp).2.2.2.2.1 hsd
 ·rw [qq h1,qXk ?_]
  ·rfl
  ·intro f hf
   cases hp:qAL b s k f c with
   | false=>rfl
   | true=>
     have:=qG4.mpr ⟨f,hf,inm f hf hp⟩
     omega
theorem qlI {b:List Int} {s:Int} (hs:s=0 \/ s=1) {k:Nat} (hk:k<81) {P:Nat->Bool} {es:List (List Int×List Int)} (hP:qBo b s k P es) {c:Nat} (hc:c<81):
  qBo b s k (fun i=>P i||decide (i=c)) (match qEQ b s k c with | none=>es | some f=>qAJ es [(f:Int)] (prS (qD3 k c))):=by
 cases hp:qEQ b s k c with
 | none=>
   unfold qEQ at hp
   rw[List.find?_eq_none] at hp
   intro f hf
   have hno:=hp f (List.mem_range.mpr hf)
   obtain⟨h1,h2⟩:=hP f hf
   refine⟨?_,?_⟩
   ·rw[h1]
    constructor
    ·rintro ⟨c',a,a',a''⟩;exact⟨c',a,by simp[a'],a''⟩
    ·rintro ⟨c',a,a',a''⟩
     rw[Bool.or_eq_true,decide_eq_true_eq] at a'
     rcases a' with a' | rfl
     ·exact⟨c',a,a',a''⟩
     ·exact absurd a'' hno
   ·intro c' a a' a''
    rw[Bool.or_eq_true,decide_eq_true_eq] at a'
    rcases a' with a' | rfl
    ·exact h2 c' a a' a''
    ·exact absurd a'' hno
 | some g=>
   have hg:=List.find?_some (show (List.range 81).find? (fun f=>qAL b s k f c)=some g from hp)
   have hg':g<81:=List.mem_range.mp (List.mem_of_find?_eq_some (show (List.range 81).find? (fun f=>qAL b s k f c)=some g from hp))
   intro f hf
   obtain⟨h1,h2⟩:=hP f hf
   simp only
   rw[qhk,qhb]
   by_cases hfg:f=g
   ·subst hfg
    rw[decide_eq_true rfl,if_pos rfl]
    refine⟨⟨fun _=>⟨c,hc,by simp,hg⟩,fun _=>rfl⟩,fun c' a _ a''=>?_⟩
    rw[qXl hs hk hc a hg a'']
   ·have hne:¬ ([(f:Int)]=[(g:Int)]):=by
     intro e
     have:=List.cons.inj e
     omega
    rw[decide_eq_false hne,if_neg hne,Bool.false_or]
    have hno:¬ qAL b s k f c=true:=fun hp'=>hfg (qXm hp' hg)
    refine⟨?_,?_⟩
    ·rw[h1]
     constructor
     ·rintro ⟨c',a,a',a''⟩;exact⟨c',a,by simp[a'],a''⟩
     ·rintro ⟨c',a,a',a''⟩
      rw[Bool.or_eq_true,decide_eq_true_eq] at a'
      rcases a' with a' | rfl
      ·exact⟨c',a,a',a''⟩
      ·exact absurd a'' hno
    ·intro c' a a' a''
     rw[Bool.or_eq_true,decide_eq_true_eq] at a'
     rcases a' with a' | rfl
     ·exact h2 c' a a' a''
     ·exact absurd a'' hno
theorem qJU {b:List Int} {s:Int} {k:Nat} {P Q:Nat->Bool} {es:List (List Int×List Int)} (h:∀ i,i<81->P i=Q i) (hP:qBo b s k P es):qBo b s k Q es:=by
 intro f hf
 obtain⟨h1,h2⟩:=hP f hf
 refine⟨?_,fun c hc hq=>h2 c hc (by rw[h c hc];exact hq)⟩
 rw[h1]
 constructor
 ·rintro ⟨c,a,a',a''⟩;exact⟨c,a,by rw[<- h c a];exact a',a''⟩
 ·rintro ⟨c,a,a',a''⟩;exact⟨c,a,by rw[h c a];exact a',a''⟩
theorem qlJ {b:List Int} (hcl:Clean b) (h:List Int) (S:Int) {s:Int} (hs:s=0 \/ s=1) {k:Nat} (hk:k<81) (x2:Nat) (x3 x4:Int) (x14:Nat) (x15:List Int) (N:Nat) (L:List Int) (hl:L.length<=1000) (hL:∀ q∈L,0<=q /\ q<81 /\ enm b s q.toNat=true):∀ (n i:Nat),i+n=L.length->∀ (P:Nat->Bool) (es:List (List Int×List Int)),qBo b s k P es->
  ∃ es',(∀ F,qEp (F+n+1) s k x2 x3 x4 L.length L.length i b h S (qJ b) (qK b) es x14 x15 N L=some (s,(k:Int),x2,x3,x4,b,h,S,qJ b,qK b,es',x14,x15)) /\ qBo b s k (fun c=>P c||(L.drop i).contains (c:Int)) es':=by
 intro n
 induction n with
 | zero=>
   intro i hi P es hP
   refine⟨es,fun F=>?_,?_⟩
   ·show qFv (qEp (F+0)) _ _ _ _ _ _ _ _ _ _ _ _ _ _ _ _ _ _=_
    unfold qFv
    rw[qZ (by omega)]
   ·rw[List.drop_eq_nil_of_le (by omega)]
    exact qJU (fun i _=>by simp) hP
 | succ n ih=>
   intro i hi P es hP
   have hil:i<L.length:=by omega
   obtain⟨q0,q1,q2⟩:=hL L[i] (List.getElem_mem hil)
   obtain⟨c,hc⟩:∃ c:Nat,L[i]=c:=⟨L[i].toNat,by omega⟩
   rw[hc] at q0 q1 q2
   obtain⟨es',h1,h2⟩:=ih (i+1) (by omega) _ _ (qlI hs hk hP (c:=c) (by omega))
   refine⟨es',fun F=>?_,qJU (fun j _=>?_) h2⟩
   ·show qFv (qEp (F+n+1)) _ _ _ _ _ _ _ _ _ _ _ _ _ _ _ _ _ _=_
    rw[qlK hcl h S hs hk x2 x3 x4 x14 x15 N L hil hl (by omega) hc q2]
    exact h1 F
   ·rw[List.drop_eq_getElem_cons hil,List.contains_cons,hc,Bool.or_assoc]
    congr 2
    rw[Bool.eq_iff_iff,decide_eq_true_eq,beq_iff_eq]
    omega
def qAh:List Int:=[2,6,7,14,15]
theorem qiS {b:List Int} (hcl:Clean b) (h:List Int) (S:Int) {s:Int} (hs:s=0 \/ s=1) {k:Nat} (hk:k<81):∀ (n i:Nat),i+n=5->∀ (P:Nat->Bool) (es:List (List Int×List Int)),qBo b s k P es->
  ∃ es',(∀ F,qEo (F+n+1) s k 5 5 i b h S (qJ b) (qK b) es 5 qAh=some (b,h,S,qJ b,qK b,es')) /\ qBo b s k (fun c=>P c||(qAh.drop i).any fun x=>pcs b (pc (1 - s) x) c) es':=by
 intro n
 induction n with
 | zero=>
   intro i hi P es hP
   refine⟨es,fun F=>?_,?_⟩
   ·show qGv (qEo (F+0)) _ _ _ _ _ _ _ _ _ _ _ _ _=_
    unfold qGv
    rw[qZ (by omega)]
   ·rw[List.drop_eq_nil_of_le (by show 5<=i;omega)]
    exact qJU (fun i _=>by simp) hP
 | succ n ih=>
   intro i hi P es hP
   have hil:i<qAh.length:=by show i<5;omega
   obtain⟨x,hx,hget,hdr⟩:∃ x,(x=2 \/ x=6 \/ x=7 \/ x=14 \/ x=15) /\ qAh.getD i 0=x /\ qAh.drop i=x :: qAh.drop (i+1):=by
    have:∀ j:Fin 5,(qAh.getD j.val 0=2 \/ qAh.getD j.val 0=6 \/ qAh.getD j.val 0=7 \/ qAh.getD j.val 0=14 \/ qAh.getD j.val 0=15) /\ qAh.drop j.val=qAh.getD j.val 0 :: qAh.drop (j.val+1):=by decide
    have:=this ⟨i,hil⟩
    exact⟨qAh.getD i 0,this.1,rfl,this.2⟩
   obtain⟨es1,h1,h2⟩:=qlJ hcl h S hs hk 5 5 i 5 qAh (sq (pcs b (pc (1 - s) x))).length (sq (pcs b (pc (1 - s) x))) (by have:=qEc (pcs b (pc (1 - s) x));omega) (by
    intro q hq
    obtain⟨a,a',a''⟩:=qGc hq
    refine⟨a,a',?_⟩
    have:=of_decide_eq_true a''
    unfold enm
    rw[this.2,(qDu (s:=1 - s) (by omega) (k:=x) (by omega) (by omega) (by omega)).1]
    simp) (sq (pcs b (pc (1 - s) x))).length 0 (by omega) P es hP
   obtain⟨es',h3,h4⟩:=ih (i+1) (by omega) _ _ h2
   obtain⟨g,hg⟩:=qd (sq (pcs b (pc (1 - s) x))).length (by have:=qEc (pcs b (pc (1 - s) x));omega)
   refine⟨es',fun F=>?_,qJU (fun j hj=>?_) h4⟩
   ·show qGv (qEo (F+n+1)) _ _ _ _ _ _ _ _ _ _ _ _ _=_
    unfold qGv
    rw[qf (by omega),qg (by omega) (by omega),tn,hget,w_s (n:=1 - s) (by omega) (by omega),qHf,qA]
    simp only
    rw[qJx,qA]
    simp only
    have:=h1 g
    rw[<- hg] at this
    rw[show qEp qC s k 5 5 i (sq (pcs b (pc (1 - s) x))).length (Int.ofNat (sq (pcs b (pc (1 - s) x))).length) 0 b h S (qJ b) (qK b) es 5 qAh (sq (pcs b (pc (1 - s) x))).length (sq (pcs b (pc (1 - s) x)))=_ from this,qA]
    simp only
    rw[w_s (n:=(i:Int)+1) (by omega) (by omega)]
    exact h3 F
   ·rw[hdr,List.any_cons,List.drop_zero,<- Bool.or_assoc]
    congr 2
    cases hp:pcs b (pc (1 - s) x) j with
    | true=>rw[List.contains_iff_mem.mpr (qWw hj hp)]
    | false=>
      cases hcn:(sq (pcs b (pc (1 - s) x))).contains (j:Int) with
      | false=>rfl
      | true=>
        have:=(qGc (List.contains_iff_mem.mp hcn)).2.2
        rw[tn,hp] at this
        cases this
theorem qp1 {b:List Int} {s:Int} (_hs:s=0 \/ s=1) {c k:Nat} (he:enm b s c=true) (h:qAj (b.getD c 0) c k=true):(qAh.any fun x=>pcs b (pc (1 - s) x) c)=true:=by
 have he:=of_decide_eq_true he
 have h:=of_decide_eq_true h
 have hk:kd (b.getD c 0)=2 \/ kd (b.getD c 0)=6 \/ kd (b.getD c 0)=7 \/ kd (b.getD c 0)=14 \/ kd (b.getD c 0)=15:=by
  unfold slK at h;omega
 have hx:=qLU (x:=b.getD c 0) (by omega)
 rw[List.any_eq_true]
 refine⟨kd (b.getD c 0),?_,?_⟩
 ·unfold qAh
  rcases hk with h | h | h | h | h<;>rw[h]<;>simp
 ·unfold pcs
  rw[decide_eq_true_eq,<- he,<- hx]
  refine⟨fun h0=>?_,rfl⟩
  rw[h0,qE6] at hk
  omega
theorem qlM {b:List Int} (hcl:Clean b) (h:List Int) (S:Int) {s:Int} (hs:s=0 \/ s=1):∃ es,qGt s b h S (qJ b) (qK b)=some es /\
  (kg b s<0->es=[]) /\ (0<=kg b s->qBo b s (kg b s).toNat (fun c=>enm b s c&&(qAh.any fun x=>pcs b (pc (1 - s) x) c)) es):=by
 have hr:=qU1 (pcs b (pc s 8))
 unfold qGt
 rw[qOW,show fst (pcs b (pc s 8))=kg b s from rfl,qA]
 by_cases hk:kg b s<0
 ·rw[qf hk]
  exact⟨[],rfl,fun _=>rfl,fun h=>by omega⟩
 ·rw [qZ hk]
  have hk1:kg b s<81:=hr.2
  obtain⟨k,hkk⟩:∃ k:Nat,kg b s=k:=⟨(kg b s).toNat,by omega⟩
  rw[hkk]
  have h0:qBo b s k (fun _=>false) []:=by
   intro f hf
   exact⟨⟨fun h=>(by cases h),fun⟨_,_,h,_⟩=>(by cases h)⟩,fun _ _ h=>(by cases h)⟩
  obtain⟨es,h1,h2⟩:=qiS hcl h S hs (k:=k) (by omega) 5 0 rfl _ [] h0
  obtain⟨g,hg⟩:=qd 5 (by omega)
  have:=h1 g
  rw[<- hg] at this
  refine⟨es,?_,fun h=>by omega,fun _=>?_⟩
  ·rw[show qEo qC s k 5 5 0 b h S (qJ b) (qK b) [] 5 [2,6,7,14,15]=_ from this,qA]
  ·rw[tn]
   refine qJU (fun i _=>?_) h2
   rw[List.drop_zero,Bool.false_or]
   cases ha:(qAh.any fun x=>pcs b (pc (1 - s) x) i) with
   | false=>simp
   | true=>
     rw[List.any_eq_true] at ha
     obtain⟨x,hx,hp⟩:=ha
     have:=of_decide_eq_true hp
     unfold qAh at hx
     have hx':x=2 \/ x=6 \/ x=7 \/ x=14 \/ x=15:=by simpa using hx
     unfold enm
     rw[this.2,(qDu (s:=1 - s) (by omega) (k:=x) (by omega) (by omega) (by omega)).1]
     simp
end Go.Kk.Pl
namespace Go.Kk.Pl
def laid (b:List Int) (s f d:Int) (p:Bool):Int:=if d≠0 then 16*s+d else if p=true then 16*s+up_ (kd (at_ b f)) else at_ b f
def was (b:List Int) (s f d:Int):Int:=if d≠0 then 16*s+d else at_ b f
def mb (b:List Int) (s f t d:Int) (p:Bool):List Int:=if d≠0 then put b t (laid b s f d p) else put (put b f 0) t (laid b s f d p)
def mh (b h:List Int) (s t d:Int):List Int:=if d≠0 then qy h s d (-1) else if at_ b t=0 then h else qy h s (rw_ (kd (at_ b t))) 1
def qHc (K:Int) (b h:List Int) (s f t d:Int) (p:Bool):Int:=qKy (if d≠0 then qCU (qE8 K h s d (-1)) b t (laid b s f d p) else
 if at_ b t=0 then qCU (qCU K b f 0) (put b f 0) t (laid b s f d p) else qE8 (qCU (qCU K b f 0) (put b f 0) t (laid b s f d p)) h s (rw_ (kd (at_ b t))) 1)
theorem qIY {k:Int} (h:up_ k≠0):1<=up_ k /\ up_ k<=15 /\ up_ k≠13:=by
 unfold up_ at h ⊢
 split
 ·omega
 ·rename_i h2;rw[if_neg h2] at h;exact absurd rfl h
end Go.Kk.Pl
namespace Go.Kk.Pl
def kof (b h:List Int) (s:Int):Int:=(qDT b h s).getD 0
theorem qiT (b h:List Int) (s:Int):qDT b h s=some (kof b h s):=by
 obtain⟨k,hk,_⟩:=qV1 b h s
 unfold kof;rw[hk];rfl
end Go.Kk.Pl
namespace Go.Kk.Pl
def dl (x k:Int):Int:=if rw_ (kd x)=k then 1 else 0
theorem qEC (x:Int) (l:List Int) (k:Int):(cnt (x :: l) k:Int)=cnt l k+dl x k:=by
 unfold cnt dl
 rw[List.countP_cons]
 by_cases h:rw_ (kd x)=k
 ·simp[h]
 ·have:(rw_ (kd x)==k)=false:=by simpa using h
  simp[h]
theorem qgC (x k:Int):∀ (l:List Int) (i:Nat),i<l.length->(cnt (l.set i x) k:Int)+dl (l.getD i 0) k=cnt l k+dl x k:=by
 intro l
 induction l with
 | nil=>intro i hi;simp at hi
 | cons y l ih=>
   intro i hi
   cases i with
   | zero=>
     simp only[List.set_cons_zero,qEC,List.getD_cons_zero]
     omega
   | succ i=>
     have:=ih i (by simpa using hi)
     simp only[List.set_cons_succ,qEC,List.getD_cons_succ]
     omega
theorem qhy (x:Int):kd (if kd x=0 then 0 else x)=kd x:=by
 split
 ·rename_i h;rw[h];exact qE6
 ·rfl
theorem qNV {b:List Int} (hl:b.length=81) {q:Int} (hq:0<=q /\ q<81) (x k:Int):(cnt (put b q x) k:Int)+dl (at_ b q) k=cnt b k+dl x k:=by
 unfold put at_
 rw[if_pos hq,if_pos hq]
 have:=qgC (if kd x=0 then 0 else x) k b q.toNat (by omega)
 have e:dl (if kd x=0 then 0 else x) k=dl x k:=by unfold dl;rw[qhy]
 rw[e] at this
 exact this
theorem qNe {k:Int} (h:1<=k):dl 0 k=0:=by
 unfold dl
 rw[if_neg]
 rw[qE6]
 unfold rw_
 rw[if_pos (by omega)]
 omega
theorem qFr {n:Int} (h1:-128<=n) (h2:n<=127):IntKind.wrap .i8 n=n:=qB3 h1 h2
theorem qrp (n:Int):-128<=IntKind.wrap .i8 n /\ IntKind.wrap .i8 n<=127:=by
 simp[IntKind.wrap,IntKind.signed,IntKind.bits]
 omega
theorem qOC (h:List Int) (s k d:Int):(qy h s k d).length=h.length:=by simp[qy]
theorem qUt {h:List Int} (hf:qAl h) (s k d:Int):qAl (qy h s k d):=by
 intro i
 unfold qy
 by_cases e:s.toNat*8+k.toNat=i
 ·by_cases hi:i<h.length
  ·subst e
   rw[List.getD_eq_getElem?_getD,List.getElem?_set_self hi]
   exact qrp _
  ·rw[List.getD_eq_getElem?_getD,List.getElem?_eq_none (by simpa using hi)]
   simp
 ·rw[List.getD_eq_getElem?_getD,List.getElem?_set_ne e,<- List.getD_eq_getElem?_getD]
  exact hf i
theorem qE5 {h:List Int} (hl:h.length=16) {s k:Int} (hs:s=0 \/ s=1) (k0:0<=k) (k1:k<8) (d:Int) {s' k':Int} (hs':s'=0 \/ s'=1) (k0':0<=k') (k1':k'<8):
  hd_ (qy h s k d) s' k'=if s'=s /\ k'=k then IntKind.wrap .i8 (hd_ h s k+d) else hd_ h s' k':=by
 by_cases e:s'=s /\ k'=k
 ·obtain⟨rfl,rfl⟩:=e
  rw[if_pos ⟨rfl,rfl⟩]
  unfold qy
  rw[show hd_ (h.set (s'.toNat*8+k'.toNat) (IntKind.wrap .i8 (hd_ h s' k'+d))) s' k'=(h.set (s'.toNat*8+k'.toNat) (IntKind.wrap .i8 (hd_ h s' k'+d))).getD (s'.toNat*8+k'.toNat) 0 from rfl,
   List.getD_eq_getElem?_getD,List.getElem?_set_self (by rcases hs' with rfl | rfl<;>simp<;>omega)]
  rfl
 ·rw[if_neg e]
  unfold qy hd_
  rw[List.getD_eq_getElem?_getD,List.getElem?_set_ne (by rcases hs with rfl | rfl<;>rcases hs' with rfl | rfl<;>simp<;>omega),<- List.getD_eq_getElem?_getD]
theorem qG8 {h:List Int} (hf:qAl h) (s k:Int):-128<=hd_ h s k /\ hd_ h s k<=127:=hf _
theorem qoR {k:Int} (h1:1<=k) (h2:k<8):rw_ k=k:=by
 unfold rw_
 rw[if_neg (by omega),if_neg (by omega)]
theorem qoS {k:Int} (h:up_ k≠0):rw_ (up_ k)=rw_ k:=by
 unfold up_ at h ⊢
 split
 ·unfold rw_
  rw[if_neg (by omega),if_pos (by omega),if_neg (by omega),if_neg (by omega)]
  omega
 ·rename_i h2;rw[if_neg h2] at h;exact absurd rfl h
theorem qlG {b h:List Int} {s:Int} (hS:Sound b h s) (hf:qAl h) (hl:h.length=16) {f t d:Int} {p:Bool} (hP:CanP b h s f t d p) {k:Int} (k0:1<=k) (k1:k<8):
  (cnt (mb b s f t d p) k:Int)+hd_ (mh b h s t d) 0 k+hd_ (mh b h s t d) 1 k=cnt b k+hd_ h 0 k+hd_ h 1 k:=by
 have hsd:=hS.side
 by_cases hd:d=0
 ·obtain⟨f0,f1,f2,g1,g2,g3,g4⟩:=hP.move hd
  unfold mb mh
  rw[if_neg (by simpa using hd),if_neg (by simpa using hd)]
  have c1:=qNV hS.clean.len ⟨f0,f1⟩ 0 k
  have c2:=qNV (hS.clean.put f 0).len hP.to_ (laid b s f d p) k
  have e1:at_ (put b f 0) t=at_ b t:=by rw[qDK hS.clean.len ⟨f0,f1⟩,if_neg (Ne.symm f2)]
  rw[e1] at c2
  rw[qNe k0] at c1
  have e2:dl (laid b s f d p) k=dl (at_ b f) k:=by
   unfold laid
   rw[if_neg (by simpa using hd)]
   cases p with
   | false=>rfl
   | true=>
     have hu:=g4 rfl
     obtain⟨u1,u2,u3⟩:=qIY hu
     rw[if_pos rfl]
     unfold dl
     rw[qHN hsd u1 u2 u3,qoS hu]
  rw[e2] at c2
  by_cases ht:at_ b t=0
  ·rw[if_pos ht]
   rw[ht,qNe k0] at c2
   omega
  ·rw[if_neg ht]
   have hk:=(hS.clean.at_ t).resolve_left ht
   obtain⟨r1,r2⟩:=qIA hk g3
   have hc:=hS.counts _ r1 r2
   have h0:=hS.hands (rw_ (kd (at_ b t))) (by omega) r2
   rw[qE5 hl hsd (by omega) r2 1 (.inl rfl) (by omega) k1,qE5 hl hsd (by omega) r2 1 (.inr rfl) (by omega) k1]
   by_cases hkr:k=rw_ (kd (at_ b t))
   ·have e3:dl (at_ b t) k=1:=by unfold dl;rw[if_pos hkr.symm]
    rw[e3] at c2
    rcases hsd with rfl | rfl
    ·rw[if_pos ⟨rfl,hkr⟩,if_neg (by omega),qFr (by omega) (by omega),<- hkr]
     omega
    ·rw[if_neg (by omega),if_pos ⟨rfl,hkr⟩,qFr (by omega) (by omega),<- hkr]
     omega
   ·have e3:dl (at_ b t) k=0:=by unfold dl;rw[if_neg (Ne.symm hkr)]
    rw[e3] at c2
    rw[if_neg (fun h=>hkr h.2),if_neg (fun h=>hkr h.2)]
    omega
 ·obtain⟨d0,d1,d2,d3,g1,g2⟩:=hP.drop hd
  unfold mb mh
  rw[if_pos hd,if_pos hd]
  have c1:=qNV hS.clean.len hP.to_ (laid b s f d p) k
  have hl':laid b s f d p=16*s+d:=by unfold laid;rw[if_pos hd]
  rw[g2,qNe k0,hl'] at c1
  rw[hl']
  have hb:=qG8 hf s d
  rw[qE5 hl hsd (by omega) d1 (-1) (.inl rfl) (by omega) k1,qE5 hl hsd (by omega) d1 (-1) (.inr rfl) (by omega) k1]
  have e3:dl (16*s+d) k=if d=k then 1 else 0:=by
   unfold dl
   rw[qHN hsd (by omega) (by omega) (by omega),qoR (by omega) d1]
  rw[e3] at c1
  by_cases hkd:k=d
  ·subst hkd
   rw[if_pos rfl] at c1
   rcases hsd with rfl | rfl
   ·rw[if_pos ⟨rfl,rfl⟩,if_neg (by omega),qFr (by omega) (by omega)]
    omega
   ·rw[if_neg (by omega),if_pos ⟨rfl,rfl⟩,qFr (by omega) (by omega)]
    omega
  ·rw[if_neg (Ne.symm hkd)] at c1
   rw[if_neg (fun h=>hkd h.2),if_neg (fun h=>hkd h.2)]
   omega
theorem qPA {b:List Int} (hc:Clean b) (s f t d:Int) (p:Bool):Clean (mb b s f t d p):=by
 unfold mb
 split
 ·exact hc.put _ _
 ·exact (hc.put _ _).put _ _
theorem qjW {h:List Int} (hf:qAl h) (b:List Int) (s t d:Int):qAl (mh b h s t d):=by
 unfold mh
 split
 ·exact qUt hf _ _ _
 ·split
  ·exact hf
  ·exact qUt hf _ _ _
theorem qjX {h:List Int} (hl:h.length=16) (b:List Int) (s t d:Int):(mh b h s t d).length=16:=by
 unfold mh
 split
 ·rw[qOC];exact hl
 ·split
  ·exact hl
  ·rw[qOC];exact hl
end Go.Kk.Pl
namespace Go.Kk.Pl
theorem canP {b h:List Int} {s f t d:Int} {p:Bool} (hm:qBp b h s f t d p=true):(s=0 \/ s=1) /\ CanP b h s f t d p:=by
 unfold qBp at hm
 rw[Bool.and_eq_true,Bool.and_eq_true,decide_eq_true_eq,decide_eq_true_eq] at hm
 obtain⟨h1,hs,h2⟩:=hm
 obtain⟨ht,hd,hmv⟩:=qIw h1
 refine⟨hs,ht,fun d0=>?_,fun d0=>?_⟩
 ·rw[if_pos d0] at h2
  simp only[Bool.and_eq_true,decide_eq_true_eq] at h2
  have:=hd d0
  exact⟨by omega,by omega,this.2.2.1,this.2.2.2,by omega,h2.2⟩
 ·rw[if_neg (by simpa using d0)] at h2
  simp only[Bool.and_eq_true,decide_eq_true_eq,Bool.or_eq_true,Bool.not_eq_true'] at h2
  obtain⟨h3,h4⟩:=hmv d0
  exact⟨h3.1,h3.2,h4,h2.1.1,h2.1.2.1,h2.1.2.2,fun hp=>by
   rcases h2.2 with h5 | h5
   ·rw[hp] at h5;cases h5
   ·exact h5⟩
theorem qFF {b h:List Int} {s f t d:Int} {p:Bool} (hm:qAA b h s f t d p=true):(s=0 \/ s=1) /\ CanP b h s f t d p:=by
 unfold qAA at hm
 rw[Bool.and_eq_true] at hm
 exact canP hm.1
theorem qOG {x s:Int} (hs:s=0 \/ s=1) (h:sd x=s):kd x≠0:=by
 intro h0
 rw[qaq h0] at h
 omega
theorem qE9 {b h:List Int} {s f t d:Int} {p:Bool} (hs:s=0 \/ s=1) (hP:CanP b h s f t d p):sd (laid b s f d p)=s /\ kd (laid b s f d p)≠0 /\ (laid b s f d p=pc s 8↔d=0 /\ at_ b f=pc s 8):=by
 unfold laid
 by_cases hd:d=0
 ·have hm:=hP.move hd
  rw[if_neg (by simpa using hd)]
  cases p with
  | false=>
    rw[if_neg (by simp)]
    exact⟨hm.2.2.2.1,qOG hs hm.2.2.2.1,fun h=>⟨hd,h⟩,fun h=>h.2⟩
  | true=>
    rw[if_pos rfl]
    have hu:=hm.2.2.2.2.2.2 rfl
    obtain⟨u1,u2,u3⟩:=qIY hu
    have hx:=qDu hs u1 u2 u3
    rw[qA5 hs u1 u2 u3] at hx
    have u8:up_ (kd (at_ b f))≠8:=by unfold up_;split<;>omega
    refine⟨hx.1,by rw[hx.2];omega,fun h=>?_,fun h=>?_⟩
    ·rw[qA5 hs (by omega) (by omega) (by omega)] at h
     omega
    ·exfalso
     apply hu
     rw[h.2,(qDu hs (by omega) (by omega) (by omega)).2]
     rfl
 ·have hm:=hP.drop hd
  rw[if_pos hd]
  have hx:=qDu hs (k:=d) (by omega) (by omega) (by omega)
  rw[qA5 hs (by omega) (by omega) (by omega)] at hx
  refine⟨hx.1,by rw[hx.2];exact hd,fun h=>?_,fun h=>absurd h.1 hd⟩
  rw[qA5 hs (by omega) (by omega) (by omega)] at h
  omega
theorem qEM {b h:List Int} {s f t d:Int} {p:Bool} (hc:Clean b) (hs:s=0 \/ s=1) (hP:CanP b h s f t d p) {i:Nat} (hi:i<81):
  (mb b s f t d p).getD i 0=if i=t.toNat then laid b s f d p else if d=0 /\ i=f.toNat then 0 else b.getD i 0:=by
 have ht:=hP.to_
 have hl:=(qE9 hs hP).2.1
 have e1:(mb b s f t d p).getD i 0=at_ (mb b s f t d p) i:=by rw[qAa (by omega),tn]
 have e2:b.getD i 0=at_ b i:=by rw[qAa (by omega),tn]
 rw[e1,e2]
 unfold mb
 by_cases hd:d=0
 ·have hm:=hP.move hd
  rw[if_neg (by simpa using hd),qDK (hc.put f 0).1 ht,if_neg hl,qDK hc.1 ⟨hm.1,hm.2.1⟩]
  by_cases h1:i=t.toNat
  ·rw[if_pos (c:=(i:Int)=t) (by omega),if_pos h1]
  ·rw[if_neg (c:=(i:Int)=t) (by omega),if_neg h1]
   by_cases h2:i=f.toNat
   ·rw[if_pos (c:=(i:Int)=f) (by omega),if_pos (c:=d=0 /\ i=f.toNat) ⟨hd,h2⟩];rfl
   ·rw[if_neg (c:=(i:Int)=f) (by omega),if_neg (fun h=>h2 h.2)]
 ·rw[if_pos hd,qDK hc.1 ht,if_neg hl]
  by_cases h1:i=t.toNat
  ·rw[if_pos h1,if_pos (by omega)]
  ·rw[if_neg h1,if_neg (by omega),if_neg (fun h=>hd h.1)]
def KS (b:List Int) (s:Int) (k:Nat):Prop:=k<81 /\ ∀ i,i<81->(b.getD i 0=pc s 8↔i=k)
theorem pc8 {s:Int} (hs:s=0 \/ s=1):pc s 8=16*s+8:=qA5 hs (by omega) (by omega) (by omega)
theorem KS.kg {b:List Int} {s:Int} {k:Nat} (hs:s=0 \/ s=1) (h:KS b s k):kg b s=k:=by
 apply qNs h.1
 intro i hi
 unfold pcs
 rw[decide_eq_true_eq,h.2 i hi,pc8 hs]
 exact⟨fun h=>h.2,fun h=>⟨by omega,h⟩⟩
theorem qKx {b h:List Int} {s':Int} (hz:qBE b h s'=0) {s:Int} (hs:s=0 \/ s=1):∃ k,KS b s k:=by
 have hn:nP b 8=1 /\ nP b 24=1:=by
  unfold qBE at hz
  split at hz
  ·omega
  ·split at hz
   ·omega
   ·split at hz
    ·omega
    ·split at hz
     ·omega
     ·rename_i h;simpa using h
 have:nP b (pc s 8)=1:=by
  rw[pc8 hs]
  rcases hs with rfl | rfl
  ·exact hn.1
  ·exact hn.2
 obtain⟨k,hk,h⟩:=qG4.mp (show qAv (fun i=>b.getD i 0==pc s 8)=1 from this)
 exact⟨k,hk,fun i hi=>by rw[<- h i hi,beq_iff_eq]⟩
theorem KS.sd {b:List Int} {s:Int} {k:Nat} (hs:s=0 \/ s=1) (h:KS b s k):sd (b.getD k 0)=s /\ kd (b.getD k 0)=8:=by
 rw[(h.2 k h.1).mpr rfl]
 exact qDu hs (by omega) (by omega) (by omega)
theorem qOX {b h:List Int} {s f t d:Int} {p:Bool} (hc:Clean b) (hs:s=0 \/ s=1) (hP:CanP b h s f t d p) {k:Nat} (hk:KS b s k):
  KS (mb b s f t d p) s (if d=0 /\ f.toNat=k then t.toNat else k):=by
 have ht:=hP.to_
 have hl:=qE9 hs hP
 have hkt:k≠t.toNat:=by
  intro e
  have h1:=(hk.sd hs)
  have e2:b.getD k 0=at_ b t:=by rw[qAa ht,e]
  rw[e2] at h1
  by_cases hd:d=0
  ·exact (hP.move hd).2.2.2.2.1 h1.1
  ·rw[(hP.drop hd).2.2.2.2.2,qE6] at h1
   omega
 have hp0:(0:Int)≠pc s 8:=by rw[pc8 hs];omega
 refine⟨by split;omega;exact hk.1,fun i hi=>?_⟩
 rw[qEM hc hs hP hi]
 by_cases h1:i=t.toNat
 ·rw[if_pos h1,hl.2.2]
  by_cases hd:d=0
  ·have hm:=hP.move hd
   rw[qAa ⟨hm.1,hm.2.1⟩,hk.2 _ (by omega)]
   by_cases hfk:f.toNat=k
   ·rw[if_pos ⟨hd,hfk⟩];exact⟨fun _=>h1,fun _=>⟨hd,hfk⟩⟩
   ·rw[if_neg (fun h=>hfk h.2)]
    exact⟨fun h=>absurd h.2 hfk,fun h=>absurd (h.symm.trans h1) hkt⟩
  ·rw[if_neg (fun h=>hd h.1)]
   exact⟨fun h=>absurd h.1 hd,fun h=>absurd (h.symm.trans h1) hkt⟩
 ·rw[if_neg h1]
  by_cases h2:d=0 /\ i=f.toNat
  ·rw[if_pos h2]
   refine⟨fun h=>absurd h hp0,fun h=>?_⟩
   split at h
   ·exact absurd h h1
   ·rename_i h3;exact absurd ⟨h2.1,by omega⟩ h3
  ·rw[if_neg h2,hk.2 i hi]
   split
   ·rename_i h3
    exact⟨fun h=>absurd ⟨h3.1,by omega⟩ h2,fun h=>absurd h h1⟩
   ·exact Iff.rfl
theorem qKw {b h:List Int} {s f t d:Int} {p:Bool} (hc:Clean b) (hs:s=0 \/ s=1) (hP:CanP b h s f t d p) {k:Nat} (hk:KS b (1 - s) k):
  KS (mb b s f t d p) (1 - s) k:=by
 have ht:=hP.to_
 have hl:=qE9 hs hP
 have hs':1 - s=0 \/ 1 - s=1:=by omega
 have hkt:k≠t.toNat:=by
  intro e
  have h1:=(hk.sd hs')
  have e2:b.getD k 0=at_ b t:=by rw[qAa ht,e]
  rw[e2] at h1
  by_cases hd:d=0
  ·exact (hP.move hd).2.2.2.2.2.1 h1.2
  ·rw[(hP.drop hd).2.2.2.2.2,qE6] at h1
   omega
 have hp0:(0:Int)≠pc (1 - s) 8:=by rw[pc8 hs'];omega
 refine⟨hk.1,fun i hi=>?_⟩
 rw[qEM hc hs hP hi]
 by_cases h1:i=t.toNat
 ·rw[if_pos h1]
  refine⟨fun h=>?_,fun h=>absurd (h.symm.trans h1) hkt⟩
  have:=hl.1
  rw[h,(qDu hs' (by omega) (by omega) (by omega)).1] at this
  omega
 ·rw[if_neg h1]
  by_cases h2:d=0 /\ i=f.toNat
  ·rw[if_pos h2]
   refine⟨fun h=>absurd h hp0,fun h=>?_⟩
   have hm:=hP.move h2.1
   have h3:=(hk.sd hs').1
   rw[<- h,h2.2,<- qAa ⟨hm.1,hm.2.1⟩,hm.2.2.2.1] at h3
   omega
  ·rw[if_neg h2]
   exact hk.2 i hi
theorem qEt {b:List Int} {s:Int} (hs:s=0 \/ s=1) {k:Nat} (hk:kg b s=k) (h81:k<81) (c:Nat):chs b s c=atk b s k c:=by
 unfold chs onS atk enm
 rw[hk,decide_eq_true (by omega),decide_eq_true (by omega),tn]
 rfl
def fof (f t d:Int):Nat:=if d=0 then f.toNat else t.toNat
theorem qSH {b h:List Int} {s f t d:Int} {p:Bool} (hc:Clean b) (hs:s=0 \/ s=1) (hP:CanP b h s f t d p) {i:Nat} (hi:i<81):tk (mb b s f t d p) i=tk2 b (fof f t d) t.toNat i:=by
 have hl:=qE9 hs hP
 unfold tk tk2 fof
 rw[qEM hc hs hP hi]
 by_cases h1:i=t.toNat
 ·rw[if_pos h1,decide_eq_true h1,Bool.true_or,decide_eq_true_eq]
  intro h0
  rw[h0,qE6] at hl
  exact hl.2.1 rfl
 ·rw[if_neg h1,decide_eq_false h1,Bool.false_or]
  by_cases hd:d=0
  ·rw[if_pos hd]
   by_cases h2:i=f.toNat
   ·rw[if_pos ⟨hd,h2⟩,decide_eq_true h2];simp
   ·rw[if_neg (fun h=>h2 h.2),decide_eq_false h2];rfl
  ·rw[if_neg hd,if_neg (fun h=>hd h.1),decide_eq_false h1];rfl
theorem qUd {b h:List Int} {s f t d:Int} {p:Bool} (hc:Clean b) (hs:s=0 \/ s=1) (hP:CanP b h s f t d p) {c:Nat} (hcc:c<81):enm (mb b s f t d p) s c=(decide (c≠t.toNat)&&enm b s c) /\ (enm (mb b s f t d p) s c=true->(mb b s f t d p).getD c 0=b.getD c 0):=by
 have hl:=qE9 hs hP
 unfold enm
 rw[qEM hc hs hP hcc]
 by_cases h1:c=t.toNat
 ·rw[if_pos h1,hl.1,decide_eq_false (p:=s=1 - s) (by omega),decide_eq_false (p:=c≠t.toNat) (by simpa using h1)]
  exact⟨rfl,fun h=>by cases h⟩
 ·rw[if_neg h1,decide_eq_true (p:=c≠t.toNat) h1,Bool.true_and]
  by_cases h2:d=0 /\ c=f.toNat
  ·rw[if_pos h2,qJn]
   have hm:=hP.move h2.1
   rw[h2.2,<- qAa ⟨hm.1,hm.2.1⟩,hm.2.2.2.1,decide_eq_false (p:=(-1:Int)=1 - s) (by omega),decide_eq_false (p:=s=1 - s) (by omega)]
   exact⟨rfl,fun h=>by cases h⟩
  ·rw[if_neg h2]
   exact⟨rfl,fun _=>rfl⟩
theorem qTy {b h:List Int} {s f t d:Int} {p:Bool} (hc:Clean b) (hs:s=0 \/ s=1) (hP:CanP b h s f t d p) {k:Nat} (hk:KS b s k) (hn:¬ (d=0 /\ f.toNat=k)) {c:Nat} (hcc:c<81):
  chs (mb b s f t d p) s c=qD7 b s k (fof f t d) t.toNat c:=by
 have hk2:=qOX hc hs hP hk
 rw[if_neg hn] at hk2
 rw[qEt hs (hk2.kg hs) hk.1]
 obtain⟨e1,e2⟩:=qUd hc hs hP hcc
 unfold atk qD7
 cases he:enm (mb b s f t d p) s c with
 | false=>
   rw[he] at e1
   rw[Bool.false_and,<- Bool.and_assoc,<- e1,Bool.false_and]
 | true=>
   rw[<- Bool.and_assoc,<- e1,he,Bool.true_and,Bool.true_and,e2 he]
   exact qYF hcc hk.1 (fun i hi=>qSH hc hs hP hi)
theorem qTx {b h:List Int} {s f t d:Int} {p:Bool} (hc:Clean b) (hs:s=0 \/ s=1) (hP:CanP b h s f t d p) {k:Nat} (hk:KS b s k) (hn:d=0 /\ f.toNat=k) {c:Nat} (hcc:c<81):
  chs (mb b s f t d p) s c=onS b t (1 - s) (fun i=>tk b i && !only f i) c:=by
 have hk2:=qOX hc hs hP hk
 have ht:=hP.to_
 have hm:=hP.move hn.1
 rw[if_pos hn] at hk2
 rw[qEt hs (hk2.kg hs) hk2.1]
 obtain⟨e1,e2⟩:=qUd hc hs hP hcc
 unfold atk onS
 rw[decide_eq_true ht,decide_eq_true (p:=1 - s=0 \/ 1 - s=1) (by omega),Bool.true_and,Bool.true_and]
 show _=(enm b s c&&_)
 by_cases h1:c=t.toNat
 ·rw[e1,decide_eq_false (p:=c≠t.toNat) (by simpa using h1),<- h1,qYG,qYG,Bool.and_false,Bool.and_false]
 ·rw [decide_eq_true (p:=c≠t.toNat) h1,Bool.true_and] at e1
  rw[e1]
  cases he:enm b s c with
  | false=>rfl
  | true=>
    rw[e2 (by rw[e1,he]),Bool.true_and,Bool.true_and,Bool.eq_iff_iff,qBw,qBw]
    have:∀ i∈btw c t.toNat,tk (mb b s f t d p) i=(tk b i && !only f i):=by
     intro i hi
     have hw:=qIr (by omega) hcc hi
     rw[qSH hc hs hP hw.1]
     unfold tk2 fof only
     rw[decide_eq_false hw.2.1,if_pos hn.1,Bool.false_or,Bool.and_comm]
     congr 2
     rw[decide_eq_decide]
     omega
    constructor
    ·rintro (h | ⟨h,h'⟩)
     ·exact .inl h
     ·exact .inr ⟨h,fun i hi=>by rw[<- this i hi];exact h' i hi⟩
    ·rintro (h | ⟨h,h'⟩)
     ·exact .inl h
     ·exact .inr ⟨h,fun i hi=>by rw[this i hi];exact h' i hi⟩
def qr (b:List Int) (s:Int) (t:Nat):Bool:=(List.range 81).all fun c=>!chs b s c||qD3 (kg b s).toNat c t
def qGI (b:List Int) (s:Int) (f t:Nat):Bool:=(List.range 81).all fun c=>!qAL b s (kg b s).toNat f c||qD3 (kg b s).toNat c t
def stB (b:List Int) (s:Int) (f t:Nat):Bool:=if (f:Int)=kg b s then isE (onS b t (1 - s) (fun i=>tk b i && !only f i)) else qr b s t&&qGI b s f t
theorem qKC {k c t:Nat}:qD3 k c t=true↔t=c \/ t∈btw c k:=by
 unfold qD3 only
 rw[Bool.or_eq_true,List.contains_iff_mem,decide_eq_true_eq]
 constructor
 ·rintro (h | h)
  ·exact .inr h
  ·exact .inl (by omega)
 ·rintro (h | h)
  ·exact .inr (by omega)
  ·exact .inl h
theorem qJS {b:List Int} {s:Int} (hs:s=0 \/ s=1) {k:Nat} (hk:KS b s k) {t:Nat}:qr b s t=true ↔ ∀ c,c<81->atk b s k c=true->t=c \/ t∈btw c k:=by
 have hkg:=hk.kg hs
 unfold qr
 rw[List.all_eq_true,hkg,tn]
 constructor
 ·intro h c hc ha
  have:=h c (List.mem_range.mpr hc)
  rw[qEt hs hkg hk.1,ha,Bool.not_true,Bool.false_or] at this
  exact qKC.mp this
 ·intro h c hc
  rw[qEt hs hkg hk.1]
  cases ha:atk b s k c with
  | false=>rfl
  | true=>
    rw[Bool.not_true,Bool.false_or]
    exact qKC.mpr (h c (List.mem_range.mp hc) ha)
theorem qLX {b:List Int} {s:Int} (hs:s=0 \/ s=1) {k:Nat} (hk:KS b s k) {f t:Nat}:qGI b s f t=true ↔ ∀ c,c<81->qAL b s k f c=true->t=c \/ t∈btw c k:=by
 unfold qGI
 rw[List.all_eq_true,hk.kg hs,tn]
 constructor
 ·intro h c hc ha
  have:=h c (List.mem_range.mpr hc)
  rw[ha,Bool.not_true,Bool.false_or] at this
  exact qKC.mp this
 ·intro h c hc
  cases ha:qAL b s k f c with
  | false=>rfl
  | true=>
    rw[Bool.not_true,Bool.false_or]
    exact qKC.mpr (h c (List.mem_range.mp hc) ha)
theorem qL3 {b h:List Int} {s f t d:Int} {p:Bool} (hc:Clean b) (hs:s=0 \/ s=1) (hP:CanP b h s f t d p) {k:Nat} (hk:KS b s k):
  (!inC (mb b s f t d p) s)=if d=0 then stB b s f.toNat t.toNat else qr b s t.toNat:=by
 have ht:=hP.to_
 unfold inC
 rw[Bool.not_not]
 by_cases hn:d=0 /\ f.toNat=k
 ·have hm:=hP.move hn.1
  rw[if_pos hn.1]
  unfold stB
  rw[if_pos (by rw[hk.kg hs,hn.2]),Bool.eq_iff_iff,qCn,qCn,show ((t.toNat:Nat):Int)=t by omega,show ((f.toNat:Nat):Int)=f by omega]
  constructor
  ·intro h i hi;rw[<- qTx hc hs hP hk hn hi];exact h i hi
  ·intro h i hi;rw[qTx hc hs hP hk hn hi];exact h i hi
 ·have hf:tk b (fof f t d)=true->sd (b.getD (fof f t d) 0)=s:=by
   unfold fof
   intro htk
   by_cases hd:d=0
   ·have hm:=hP.move hd
    rw[if_pos hd,<- qAa ⟨hm.1,hm.2.1⟩]
    exact hm.2.2.2.1
   ·rw[if_neg hd] at htk
    unfold tk at htk
    rw[<- qAa ht,(hP.drop hd).2.2.2.2.2] at htk
    simp at htk
  have key:=qeR (b:=b) (s:=s) (k:=k) (f:=fof f t d) (t:=t.toNat) hf
  have e:isE (chs (mb b s f t d p) s)=(qr b s t.toNat&&qGI b s (fof f t d) t.toNat):=by
   rw[Bool.eq_iff_iff,qCn,Bool.and_eq_true,qJS hs hk,qLX hs hk,<- key]
   constructor
   ·intro h c hcc;rw[<- qTy hc hs hP hk hn hcc];exact h c hcc
   ·intro h c hcc;rw[qTy hc hs hP hk hn hcc];exact h c hcc
  rw[e]
  by_cases hd:d=0
  ·rw[if_pos hd]
   unfold stB
   have hm:=hP.move hd
   rw[if_neg (by rw[hk.kg hs];intro e;exact hn ⟨hd,by omega⟩)]
   unfold fof
   rw[if_pos hd]
  ·rw[if_neg hd]
   have:qGI b s (fof f t d) t.toNat=true:=by
    rw[qLX hs hk]
    intro c _ hp
    have:=(qC9.mp hp).2.2.2.1
    unfold fof tk at this
    rw[if_neg hd,<- qAa ht,(hP.drop hd).2.2.2.2.2] at this
    simp at this
   rw[this,Bool.and_true]
theorem rw0:rw_ (kd 0)=0:=by decide
theorem qjR {b:List Int} {s f t:Int} {p:Bool} {h:List Int} (hs:s=0 \/ s=1) (hP:CanP b h s f t 0 p):mb b s f t 0 p=(b.set t.toNat (laid b s f 0 p)).set f.toNat 0:=by
 have hm:=hP.move rfl
 have ht:=hP.to_
 unfold mb put
 rw[if_neg (by simp),if_pos ht,if_pos ⟨hm.1,hm.2.1⟩,if_neg (qE9 hs hP).2.1,show (if kd 0=0 then (0:Int) else 0)=0 by simp]
 exact List.set_comm _ _ (by omega)
theorem qPd {b h:List Int} {s f t d:Int} {p:Bool} (hc:Clean b) (hs:s=0 \/ s=1) (hP:CanP b h s f t d p):qEU b h s f t d p=some (mb b s f t d p,mh b h s t d,1 - s):=by
 have ht:=hP.to_
 have hw:IntKind.wrap .i8 (1 - s)=1 - s:=w_8 (by omega) (by omega)
 have hin:br (inB s 2)=fun (x y:Option (List Int×List Int×Int))=>x:=by
  funext x y;exact qg (by omega) (by omega)
 have hint:br (inB t 81)=fun (x y:Option (List Int×List Int×Int))=>x:=by
  funext x y;exact qg (by omega) (by omega)
 unfold qEU
 simp only[hin,hint]
 by_cases hd:d=0
 ·subst hd
  have hm:=hP.move rfl
  have hinf:br (inB f 81)=fun (x y:Option (List Int×List Int×Int))=>x:=by
   funext x y;exact qg (by omega) (by omega)
  have hbf:at_ b f=16*s+kd (at_ b f):=by
   have h1:=qLU (qOG hs hm.2.2.2.1)
   have h2:=qCS (at_ b f)
   have h3:=qOG hs hm.2.2.2.1
   rw[hm.2.2.2.1,qA5 hs (by omega) (by omega) (by omega)] at h1
   exact h1
  have hbb:=qCS (at_ b f)
  have hfin:∀ p',p'=p->br p'
    (some (List.set (List.set (List.set b (Int.toNat t) (List.getD b (Int.toNat f) 0)) (Int.toNat t) (IntKind.wrap IntKind.i8 (List.getD (List.set b (Int.toNat t) (List.getD b (Int.toNat f) 0)) (Int.toNat t) 0+8))) (Int.toNat f) 0))
    (some (List.set (List.set b (Int.toNat t) (List.getD b (Int.toNat f) 0)) (Int.toNat f) 0))=some (mb b s f t 0 p):=by
   rintro p' rfl
   rw[qjR hs hP]
   unfold laid
   rw[if_neg (by simp),<- qAa ⟨hm.1,hm.2.1⟩]
   cases p' with
   | false=>rfl
   | true=>
     have hu:=hm.2.2.2.2.2.2 rfl
     rw[b_t,qF6 (by rw[hc.1];omega),if_pos rfl,if_pos rfl,List.set_set]
     have:up_ (kd (at_ b f))=kd (at_ b f)+8:=by
      unfold up_ at hu ⊢
      split
      ·rfl
      ·rename_i h;rw[if_neg h] at hu;exact absurd rfl hu
     rw[w_8 (by omega) (by omega),this,show at_ b f+8=16*s+(kd (at_ b f)+8) by omega]
  rw[qu rfl,qBy,qA,qad,qA]
  simp only[hinf,c_8,<- qAa (b:=b) ht,hw]
  unfold mh
  rw[if_neg (by simp)]
  by_cases h0:at_ b t=0
  ·rw[if_pos h0,h0,rw0,qu rfl]
   have:=hfin p rfl
   cases p with
   | false=>rw[b_f] at this ⊢;rw[Option.some.inj this]
   | true=>rw[b_t] at this ⊢;rw[Option.some.inj this]
  ·rw[if_neg h0]
   have hr:=qIA ((hc.at_ t).resolve_left h0) hm.2.2.2.2.2.1
   have hinr:br (inB (rw_ (kd (at_ b t))) 8)=fun (x y:Option (List Int×List Int×Int))=>x:=by
    funext x y;exact qg (by omega) (by omega)
   rw[qq (by omega)]
   simp only[hinr]
   have:=hfin p rfl
   cases p with
   | false=>rw[b_f] at this ⊢;rw[Option.some.inj this];rfl
   | true=>rw[b_t] at this ⊢;rw[Option.some.inj this];rfl
 ·have hm:=hP.drop hd
  have hind:br (inB d 8)=fun (x y:Option (List Int×List Int×Int))=>x:=by
   funext x y;exact qg (by omega) (by omega)
  simp only[hind]
  have hx:=(qE9 hs hP).2.1
  unfold laid at hx
  rw[if_pos hd] at hx
  rw[qq hd,hw,w_s (n:=16*s) (by omega) (by omega),w_s (n:=16*s+d) (by omega) (by omega)]
  unfold mb mh put laid
  rw[if_pos hd,if_pos hd,if_pos ht,if_pos hd,if_neg hx]
  have:conv IntKind.i64 IntKind.i8 (16*s+d)=16*s+d:=by
   unfold conv;exact w_8 (by omega) (by omega)
  rw[this]
  rfl
end Go.Kk.Pl
namespace Go.Kk.Pl
def T_ (_:Nat):Bool:=true
theorem qlL {b:List Int} (hcl:Clean b) (h:List Int) (S:Int) {s:Int} (hs:s=0 \/ s=1) {k:Nat} (hk:KS b s k):∃ es,qGt s b h S (qJ b) (qK b)=some es /\ qBo b s k (fun _=>true) es:=by
 obtain⟨es,h1,_,h3⟩:=qlM hcl h S hs
 refine⟨es,h1,?_⟩
 have hkg:=hk.kg hs
 have h3:=h3 (by omega)
 rw[hkg,tn] at h3
 intro f hf
 obtain⟨a,a'⟩:=h3 f hf
 have hP:∀ c,qAL b s k f c=true->(enm b s c&&(qAh.any fun x=>pcs b (pc (1 - s) x) c))=true:=by
  intro c hp
  have:=qC9.mp hp
  rw[this.1,qp1 hs this.1 this.2.1];rfl
 refine⟨?_,fun c hc _ hp=>a' c hc (hP c hp) hp⟩
 rw[a]
 constructor
 ·rintro ⟨c,x,_,x'⟩;exact⟨c,x,rfl,x'⟩
 ·rintro ⟨c,x,_,x'⟩;exact⟨c,x,hP c x',x'⟩
theorem qWl {b:List Int} (hcl:Clean b) (h:List Int) {s:Int} (hs:s=0 \/ s=1) {k:Nat} (hk:KS b s k):
  ∃ es chk,qHX b h s (qJ b) (qK b)=some (s,(k:Int),sLo (qr b s),sHi (qr b s),chk,es) /\ qBo b s k (fun _=>true) es:=by
 obtain⟨es,he,hp⟩:=qlL hcl h s hs hk
 have hkg:=hk.kg hs
 have hkg':fst (pcs b (pc s 8))=(k:Int):=hkg
 have ha:∀ c,chs b s c=atk b s k c:=qEt hs hkg hk.1
 unfold qHX
 rw[qOW,hkg',qA,qKH,qA]
 simp only
 rw[he,qA,qTv hcl h s (by omega),qA]
 simp only
 rw[qT4,qA]
 by_cases n0:((qAv (chs b s):Nat):Int)=0
 ·rw[qn n0]
  have hE:isE (chs b s)=true:=by rw[qNU,decide_eq_true_eq];omega
  have:∀ i,i<81->(fun _:Nat=>true) i=qr b s i:=by
   intro i _
   symm
   show qr b s i=true
   rw[qJS hs hk]
   intro c hc h1
   rw[<- ha,qCn.mp hE c hc] at h1
   cases h1
  have:=qB0 this
  rw[this.1,this.2]
  exact⟨es,false,rfl,hp⟩
 ·rw [qm n0]
  by_cases n1:((qAv (chs b s):Nat):Int)=1
  ·obtain⟨f,hf,hm⟩:=qG4.mp (show qAv (chs b s)=1 by omega)
   rw[qn n1,qNn,qA,qNs hf hm,qXw hf hk.1,qA]
   simp only
   rw[qHg,qA]
   simp only
   have:∀ i,i<81->((btw f k).contains i||chs b s i)=qr b s i:=by
    intro i hi
    rw[Bool.eq_iff_iff,Bool.or_eq_true,List.contains_iff_mem,hm i hi,qJS hs hk]
    constructor
    ·intro h1 c hc h2
     rw[<- ha,hm c hc] at h2
     subst h2
     exact h1.elim .inr .inl
    ·intro h1
     exact (h1 f hf (by rw[<- ha];exact (hm f hf).mpr rfl)).elim .inr .inl
   have:=qB0 this
   rw[this.1,this.2]
   exact⟨es,true,rfl,hp⟩
  ·rw [qm n1]
   have hE:isE (chs b s)=false:=by
    rw[qNU,decide_eq_false_iff_not];omega
   obtain⟨c,hc,hc'⟩:∃ c,c<81 /\ chs b s c=true:=by
    apply Classical.byContradiction
    intro hno
    have:isE (chs b s)=true:=by
     rw[qCn]
     intro i hi
     cases hx:chs b s i with
     | false=>rfl
     | true=>exact absurd ⟨i,hi,hx⟩ hno
    rw[hE] at this;cases this
   obtain⟨c2,hc2,hc2',hne⟩:∃ c2,c2<81 /\ chs b s c2=true /\ c≠c2:=by
    apply Classical.byContradiction
    intro hno
    apply n1
    rw[qG4.mpr ⟨c,hc,fun i hi=>⟨fun h1=>?_,fun h1=>h1 ▸ hc'⟩⟩]
    ·rfl
    ·apply Classical.byContradiction
     intro hx
     exact hno ⟨i,hi,h1,fun e=>hx e.symm⟩
   have:∀ i,i<81->(fun _:Nat=>false) i=qr b s i:=by
    intro i hi
    symm
    show qr b s i=false
    cases ho:qr b s i with
    | false=>rfl
    | true=>
      rw[qJS hs hk] at ho
      exact (qrC hs hk.1 hc hc2 (by rw[<- ha];exact hc') (by rw[<- ha];exact hc2') hne (ho c hc (by rw[<- ha];exact hc')) (ho c2 hc2 (by rw[<- ha];exact hc2'))).elim
   have:=qB0 this
   rw[qBi,qBh] at this
   exact⟨es,true,by rw[<- this.1,<- this.2],hp⟩
theorem qcN {b:List Int} (hcl:Clean b) (h:List Int) (S:Int) {s:Int} (hs:s=0 \/ s=1) {k:Nat} (hk:KS b s k) {es:List (List Int×List Int)} (hp:qBo b s k (fun _=>true) es) {f t:Int} (hf:0<=f /\ f<81) (ht:0<=t /\ t<81) (d:Int) (p chk:Bool):
  qHY s (k:Int) (sLo (qr b s)) (sHi (qr b s)) chk f t d p b h S (qJ b) (qK b) es=some (stB b s f.toNat t.toNat,b,h,S,qJ b,qK b,es):=by
 obtain⟨f,rfl⟩:∃ n:Nat,f=n:=⟨f.toNat,by omega⟩
 obtain⟨t,rfl⟩:∃ n:Nat,t=n:=⟨t.toNat,by omega⟩
 rw[tn,tn]
 have hkg:=hk.kg hs
 have hh:∀ g:Nat->Bool,has g (t:Int)=g t:=by
  intro g;unfold has;rw[decide_eq_true (by omega),decide_eq_true (by omega),tn];rfl
 unfold qHY stB
 rw[hkg]
 by_cases hfk:(f:Int)=k
 ·rw[qn hfk,if_pos hfk,qJ4 hcl,qA]
  simp only
  rw[qKD,qA]
  simp only
  rw[w_s (n:=1 - s) (by omega) (by omega),qXJ,qA]
  simp only
  rw[qKd,qA,hfk]
 ·rw[qm hfk,if_neg hfk,qEI,qA,hh]
  cases ho:qr b s t with
  | false=>rfl
  | true=>
    rw[Bool.not_true,b_f,Bool.true_and]
    obtain⟨h1,h2⟩:=hp f (by omega)
    cases hM:qA4 es [(f:Int)] with
    | false=>
      rw[Bool.not_false,b_t]
      have:qGI b s f t=true:=by
       rw[qLX hs hk]
       intro c hc hpin
       rw[h1.mpr ⟨c,hc,rfl,hpin⟩] at hM;cases hM
      rw[this]
    | true=>
      obtain⟨c,hc,_,hpin⟩:=h1.mp hM
      rw[Bool.not_true,b_f,h2 c hc rfl hpin]
      show (ob (qCI (sLo (qD3 k c)) (sHi (qD3 k c)) (t:Int)) _)=_
      rw[qEI,qA,hh]
      have:qD3 k c t=qGI b s f t:=by
       rw[Bool.eq_iff_iff,qKC,qLX hs hk]
       constructor
       ·intro h3 c' hc' hpin'
        rw[qXl hs hk.1 hc' hc hpin' hpin];exact h3
       ·intro h3;exact h3 c hc hpin
      rw[this]
def m0 (m:List Int):Int:=m.getD 0 0
def m1 (m:List Int):Int:=m.getD 1 0
def m2 (m:List Int):Int:=m.getD 2 0
def m3 (m:List Int):Bool:=m.getD 3 0 != 0
def Mv4 (m:List Int):Prop:=m=[m0 m,m1 m,m2 m,bi (m3 m)] /\ (0<=m0 m /\ m0 m<81) /\ (0<=m1 m /\ m1 m<81)
theorem qjh {b h:List Int} {s f t d p:Int} (hok:MvOK b h s f t d p):Mv4 [f,t,d,p]:=by
 refine⟨?_,hok.fr,hok.tr⟩
 show [f,t,d,p]=[f,t,d,bi (p != 0)]
 rcases hok.pp with h0 | h0<;>rw[h0]<;>rfl
theorem qHe {b h:List Int} (hc:Clean b) {s:Int} (hs:s=0 \/ s=1) {m:List Int} (hm:m∈mvs b h s):Mv4 m /\ qAA b h s (m0 m) (m1 m) (m2 m) (m3 m)=true:=by
 obtain⟨f,t,d,p,rfl,hok⟩:=qjo hc hs hm
 exact⟨qjh hok,hok.mov⟩
theorem qLG {b:List Int} (hc:Clean b) (h:List Int) {s:Int} (hs:s=0 \/ s=1) {m:List Int} (hm:m∈qt b s T_):Mv4 m /\ qAA b h s (m0 m) (m1 m) (m2 m) (m3 m)=true /\ m2 m=0:=by
 have h1:=qHe hc hs (h:=h) (m:=m) (List.mem_append_left _ hm)
 obtain⟨f,t,p,rfl⟩:=qjj hm
 exact⟨h1.1,h1.2,rfl⟩
theorem qPI {b:List Int} (hc:Clean b) {h:List Int} {s:Int} (hs:s=0 \/ s=1) {m:List Int} (hm:m∈qAP b h s T_):Mv4 m /\ qAA b h s (m0 m) (m1 m) (m2 m) (m3 m)=true /\ m0 m=0 /\ 1<=m2 m /\ m2 m<=7 /\ m3 m=false:=by
 have h1:=qHe hc hs (h:=h) (m:=m) (List.mem_append_right _ hm)
 obtain⟨k,t,hk,hk',rfl⟩:=qjk hm
 exact⟨h1.1,h1.2,rfl,by show (1:Int)<=(k:Int);omega,by show (k:Int)<=7;omega,rfl⟩
theorem qPJ (b h:List Int) (s:Int) (G:Nat->Bool):qAP b h s G=(qAP b h s T_).filter fun m=>G (m1 m).toNat:=by
 unfold qAP
 rw[List.filter_flatMap]
 apply qI6
 intro k _
 unfold qBf
 split
 ·rfl
 ·rw[List.filter_map]
  unfold sq
  rw[List.filter_map,List.map_map,List.map_map,List.filter_filter]
  congr 1
  apply List.filter_congr
  intro i _
  show (qAw b s k i&&G i)=(G (Int.toNat ((i:Nat):Int))&&(qAw b s k i&&true))
  rw[tn,Bool.and_true,Bool.and_comm]
theorem hdM {m:List Int}:List.headD (List.take 4 m) 0=m0 m /\ List.headD (List.tail (List.take 4 m)) 0=m1 m /\ List.headD (List.tail (List.tail (List.take 4 m))) 0=m2 m /\ (List.headD (List.tail (List.tail (List.tail (List.take 4 m)))) 0 != 0)=m3 m:=⟨hd0 m,hd1 m,hd2 m,by rw[hd3 m];rfl⟩
theorem atL {M:List (List Int)} {i:Nat} (hi:i<M.length):M.getD i []=M[i]:=by rw[List.getD_eq_getElem?_getD,List.getElem?_eq_getElem hi];rfl
def g1 (b:List Int) (s:Int) (m:List Int):Bool:=stB b s (m0 m).toNat (m1 m).toNat
theorem qd6 {b:List Int} (hcl:Clean b) (h:List Int) (S:Int) {s:Int} (hs:s=0 \/ s=1) {k:Nat} (hk:KS b s k) {es:List (List Int×List Int)} (hp:qBo b s k (fun _=>true) es) (chk:Bool) (N:Nat) (M:List (List Int)) (hM:∀ m∈M,Mv4 m) (hl:M.length<=100000):∀ (n i:Nat),i+n=M.length->∀ (L:List (List Int)) (x0 x14:Nat),x0=L.length->x14=L.length->L.length+n<=1000000->∀ F,
  qFC (F+n+1) x0 M.length M.length i b h S (qJ b) (qK b) s k (sLo (qr b s)) (sHi (qr b s)) chk x14 L N M es =
   some ((L++(M.drop i).filter (g1 b s)).length,b,h,S,qJ b,qK b,s,(k:Int),sLo (qr b s),sHi (qr b s),chk,(L++(M.drop i).filter (g1 b s)).length,L++(M.drop i).filter (g1 b s),es):=by
 intro n
 induction n with
 | zero=>
   intro i hi L x0 x14 e0 e14 hb F
   show qHU (qFC (F+0)) _ _ _ _ _ _ _ _ _ _ _ _ _ _ _ _ _ _ _=_
   unfold qHU
   rw[qZ (by omega),List.drop_eq_nil_of_le (by omega),List.filter_nil,List.append_nil,e0,e14]
 | succ n ih=>
   intro i hi L x0 x14 e0 e14 hb F
   show qHU (qFC (F+n+1)) _ _ _ _ _ _ _ _ _ _ _ _ _ _ _ _ _ _ _=_
   unfold qHU
   have hil:i<M.length:=by omega
   obtain⟨hm1,hm2,hm3⟩:=hM M[i] (List.getElem_mem hil)
   rw[qf (by omega),qg (by omega) (by omega),tn,atL hil]
   simp only[hdM]
   rw[qcN hcl h S hs hk hp hm2 hm3,qA]
   simp only
   rw[w_s (n:=(i:Int)+1) (by omega) (by omega),List.drop_eq_getElem_cons hil,List.filter_cons]
   show br (g1 b s M[i]) _ _=_
   cases hg:g1 b s M[i] with
   | true=>
     rw[b_t,qC1 (by omega),<- hm1]
     rw[tkA e0]
     refine (ih (i+1) (by omega) (L++[M[i]]) (x0+1) (x0+1) (by simp;omega) (by simp;omega) (by simp;omega) F).trans ?_
     simp
   | false=>
     rw[b_f]
     exact ih (i+1) (by omega) L x0 x14 e0 e14 (by omega) F
def pb (b:List Int) (s:Int) (q:Int):List Int:=put b q (16*s+1)
def pmS (b:List Int) (s:Int) (q:Int):Bool:=decide (0<=q /\ q<81)&&(decide (at_ b q=0)&&(chs (pb b s q) (1 - s) q.toNat&&(qt (pb b s q) (1 - s) T_).all fun m=>!g1 (pb b s q) (1 - s) m))
theorem qk1 {b:List Int} (b0 h0:List Int) (S0:Int) (by0 sd0:List (List Int)) (hcl:Clean b) (h:List Int) (S:Int) {s:Int} (hs:s=0 \/ s=1) {k:Nat} (hk:KS b s k) {es:List (List Int×List Int)} (hp:qBo b s k (fun _=>true) es) (chk:Bool) (N:Nat) (M:List (List Int)) (hM:∀ m∈M,Mv4 m) (hl:M.length<=100000):∀ (n i:Nat),i+n=M.length->∀ F,
  qFD (F+n+1) M.length M.length i b0 h0 S0 by0 sd0 s k (sLo (qr b s)) (sHi (qr b s)) chk N M b h S (qJ b) (qK b) es =
   some (if (M.drop i).all (fun m=>!g1 b s m) then .inr (b0,h0,S0,by0,sd0) else .inl (false,b0,h0,S0,by0,sd0)):=by
 intro n
 induction n with
 | zero=>
   intro i hi F
   show qHW (qFD (F+0)) _ _ _ _ _ _ _ _ _ _ _ _ _ _ _ _ _ _ _ _ _=_
   unfold qHW
   rw[qZ (by omega),List.drop_eq_nil_of_le (by omega)]
   rfl
 | succ n ih=>
   intro i hi F
   show qHW (qFD (F+n+1)) _ _ _ _ _ _ _ _ _ _ _ _ _ _ _ _ _ _ _ _ _=_
   unfold qHW
   have hil:i<M.length:=by omega
   obtain⟨hm1,hm2,hm3⟩:=hM M[i] (List.getElem_mem hil)
   rw[qf (by omega),qg (by omega) (by omega),tn,atL hil]
   simp only[hdM]
   rw[qcN hcl h S hs hk hp hm2 hm3,qA]
   simp only
   rw[w_s (n:=(i:Int)+1) (by omega) (by omega),List.drop_eq_getElem_cons hil,List.all_cons]
   show br (g1 b s M[i]) _ _=_
   cases hg:g1 b s M[i] with
   | true=>rw[b_t];rfl
   | false=>
     rw[b_f]
     exact ih (i+1) (by omega) F
theorem qGF (b:List Int) (s q:Int):pb b s q=mb b s 0 q 1 false:=by
 unfold pb mb laid
 rw[if_pos (by simp),if_pos (by simp)]
theorem qPV {b:List Int} {s q:Int} (hs:s=0 \/ s=1) (hq:0<=q /\ q<81) (h0:at_ b q=0):CanP b (List.replicate 16 1) s 0 q 1 false:=by
 refine⟨hq,fun _=>⟨by omega,by omega,rfl,rfl,?_,h0⟩,fun h=>absurd h (by omega)⟩
 rcases hs with rfl | rfl<;>decide
theorem qk0 {b:List Int} (hcl:Clean b) (h:List Int) {s:Int} (hs:s=0 \/ s=1) {k:Nat} (hk:KS b (1 - s) k) (q:Int):qJI q b h s (qJ b) (qK b)=some (pmS b s q):=by
 have hs':1 - s=0 \/ 1 - s=1:=by omega
 have hpc:pc s 1=16*s+1:=qA5 hs (by omega) (by omega) (by omega)
 unfold qJI pmS
 rw[qLK,qA,hpc,qm (by omega)]
 by_cases q0:q<0
 ·rw[qf q0,decide_eq_false (p:=0<=q /\ q<81) (by omega)];rfl
 rw[qZ q0]
 by_cases q1:q >= 81
 ·rw[qB4 q1,decide_eq_false (p:=0<=q /\ q<81) (by omega)];rfl
 have hq:0<=q /\ q<81:=by omega
 rw[qBX q1,qCz,qA,decide_eq_true hq,Bool.true_and]
 by_cases h0:at_ b q=0
 ·have hP:=qPV hs hq h0
  have hk2:KS (pb b s q) (1 - s) k:=by rw[qGF];exact qKw hcl hs hP hk
  have hcl2:Clean (pb b s q):=hcl.put q _
  have w8:IntKind.wrap IntKind.i8 (1 - s)=1 - s:=w_8 (by omega) (by omega)
  rw[qu h0,decide_eq_true h0,Bool.true_and]
  unfold qKN
  rw[qA]
  simp only
  rw[qPc hcl,qA]
  simp only
  rw[show put b q (16*s+1)=pb b s q from rfl,w8,c_8,qTv hcl2 h (1 - s) (by omega),qA]
  simp only
  rw[qEI,qA]
  have hh:has (chs (pb b s q) (1 - s)) q=chs (pb b s q) (1 - s) q.toNat:=by
   unfold has;rw[decide_eq_true hq.1,decide_eq_true hq.2];rfl
  rw[hh]
  cases hch:chs (pb b s q) (1 - s) q.toNat with
  | false=>rfl
  | true=>
    rw[Bool.not_true,b_f,Bool.true_and]
    obtain⟨es,chk,hl,hp⟩:=qWl hcl2 h hs' hk2
    have hlen:=qLH (pb b s q) (1 - s) T_
    rw[hl,qA]
    simp only
    rw[qKH,qA]
    simp only
    rw[show (fun _:Nat=>true)=T_ from rfl,qU3 hcl2,qA]
    simp only
    obtain⟨g,hg⟩:=qd (qt (pb b s q) (1 - s) T_).length (by omega)
    have:=qk1 b h s (qJ b) (qK b) hcl2 h (1 - s) hs' hk2 hp chk (qt (pb b s q) (1 - s) T_).length (qt (pb b s q) (1 - s) T_) (fun m hm=>(qLG hcl2 h hs' hm).1) (by omega) (qt (pb b s q) (1 - s) T_).length 0 (by omega) g
    rw[<- hg] at this
    refine (congrArg (fun z=>ob z _) (this:qFD qC (qt (pb b s q) (1 - s) T_).length (Int.ofNat (qt (pb b s q) (1 - s) T_).length) 0 b h s (qJ b) (qK b) (1 - s) k (sLo (qr (pb b s q) (1 - s))) (sHi (qr (pb b s q) (1 - s))) chk (qt (pb b s q) (1 - s) T_).length (qt (pb b s q) (1 - s) T_) (pb b s q) h (1 - s) (qJ (pb b s q)) (qK (pb b s q)) es=_)).trans ?_
    rw[qA,List.drop_zero]
    cases (qt (pb b s q) (1 - s) T_).all fun m=>!g1 (pb b s q) (1 - s) m<;>rfl
 ·rw[qq h0,decide_eq_false h0];rfl
def g2 (b:List Int) (s:Int) (m:List Int):Bool:=!(decide (m2 m=1)&&pmS b s (m1 m))
theorem qd4 {b:List Int} (hcl:Clean b) (h:List Int) {s:Int} (hs:s=0 \/ s=1) {k:Nat} (hk:KS b (1 - s) k) (N:Nat) (M:List (List Int)) (hM:∀ m∈M,Mv4 m) (hl:M.length<=100000):∀ (n i:Nat),i+n=M.length->∀ (L:List (List Int)) (x0 x9:Nat),x0=L.length->x9=L.length->L.length+n<=1000000->∀ F,
  qEK (F+n+1) x0 M.length M.length i b h s (qJ b) (qK b) x9 L N M =
   some ((L++(M.drop i).filter (g2 b s)).length,b,h,s,qJ b,qK b,(L++(M.drop i).filter (g2 b s)).length,L++(M.drop i).filter (g2 b s)):=by
 intro n
 induction n with
 | zero=>
   intro i hi L x0 x9 e0 e9 hb F
   show qHT (qEK (F+0)) _ _ _ _ _ _ _ _ _ _ _ _ _=_
   unfold qHT
   rw[qZ (by omega),List.drop_eq_nil_of_le (by omega),List.filter_nil,List.append_nil,e0,e9]
 | succ n ih=>
   intro i hi L x0 x9 e0 e9 hb F
   show qHT (qEK (F+n+1)) _ _ _ _ _ _ _ _ _ _ _ _ _=_
   unfold qHT
   have hil:i<M.length:=by omega
   obtain⟨hm1,hm2,hm3⟩:=hM M[i] (List.getElem_mem hil)
   rw[qf (by omega),qg (by omega) (by omega),tn,atL hil]
   simp only[hdM]
   rw[w_s (n:=(i:Int)+1) (by omega) (by omega),List.drop_eq_getElem_cons hil,List.filter_cons,qC1 (by omega),<- hm1,tkA e0]
   have add:g2 b s M[i]=true->qEK (F+n+1) (x0+1) M.length M.length ((i:Int)+1) b h s (qJ b) (qK b) (x0+1) (L++[M[i]]) N M =
    some ((L++if g2 b s M[i]=true then M[i] :: (M.drop (i+1)).filter (g2 b s) else (M.drop (i+1)).filter (g2 b s)).length,b,h,s,qJ b,qK b,(L++if g2 b s M[i]=true then M[i] :: (M.drop (i+1)).filter (g2 b s) else (M.drop (i+1)).filter (g2 b s)).length,L++if g2 b s M[i]=true then M[i] :: (M.drop (i+1)).filter (g2 b s) else (M.drop (i+1)).filter (g2 b s)):=by
    intro hg
    refine (ih (i+1) (by omega) (L++[M[i]]) (x0+1) (x0+1) (by simp;omega) (by simp;omega) (by simp;omega) F).trans ?_
    rw[if_pos hg]
    simp
   by_cases hd:m2 M[i]=1
   ·rw[qn hd,qk0 hcl h hs hk,qA]
    cases hpm:pmS b s (m1 M[i]) with
    | true=>
      have hg:g2 b s M[i]=false:=by unfold g2;rw[decide_eq_true hd,hpm];rfl
      rw[b_t,hg]
      exact ih (i+1) (by omega) L x0 x9 e0 e9 (by omega) F
    | false=>
      have hg:g2 b s M[i]=true:=by unfold g2;rw[hpm];simp
      rw[b_f]
      exact add hg
   ·have hg:g2 b s M[i]=true:=by unfold g2;rw[decide_eq_false hd];rfl
    rw[qm hd]
    exact add hg
def lgL (b h:List Int) (s:Int):List (List Int):=(qt b s T_).filter (g1 b s)++(qAP b h s (qr b s)).filter (g2 b s)
theorem qO1 (b h:List Int) (s:Int):(lgL b h s).length<=20000:=by
 unfold lgL
 have h1:=qLH b s T_
 have h2:=qPK b h s (qr b s)
 have h3:=List.length_filter_le (g1 b s) (qt b s T_)
 have h4:=List.length_filter_le (g2 b s) (qAP b h s (qr b s))
 rw[List.length_append]
 omega
theorem qOl {b:List Int} (hcl:Clean b) (h:List Int) {s:Int} (hs:s=0 \/ s=1) {k k':Nat} (hk:KS b s k) (hk':KS b (1 - s) k'):qDY b h s (qJ b) (qK b)=some ((lgL b h s).length,b,h,s,qJ b,qK b,(lgL b h s).length,lgL b h s):=by
 unfold qDY
 obtain⟨es,chk,hl,hp⟩:=qWl hcl h hs hk
 have hlen:=qLH b s T_
 have hlen2:=qPK b h s (qr b s)
 have hlen3:=List.length_filter_le (g1 b s) (qt b s T_)
 rw[hl,qA]
 simp only
 rw[qKH,qA]
 simp only
 rw[show (fun _:Nat=>true)=T_ from rfl,qU3 hcl,qA]
 simp only
 obtain⟨g,hg⟩:=qd (qt b s T_).length (by omega)
 have:=qd6 hcl h s hs hk hp chk (qt b s T_).length (qt b s T_) (fun m hm=>(qLG hcl h hs hm).1) (by omega) (qt b s T_).length 0 (by omega) [] 0 0 rfl rfl (by simp only[List.length_nil];omega) g
 rw[<- hg,List.drop_zero,List.nil_append] at this
 rw[show qFC qC 0 (qt b s T_).length (Int.ofNat (qt b s T_).length) 0 b h s (qJ b) (qK b) s k (sLo (qr b s)) (sHi (qr b s)) chk 0 [] (qt b s T_).length (qt b s T_) es=_ from this,qA]
 simp only
 rw[qhE hcl,qA]
 simp only
 have hM:∀ m∈qAP b h s (qr b s),Mv4 m:=by
  intro m hm
  rw[qPJ] at hm
  exact (qPI hcl hs (List.mem_filter.mp hm).1).1
 obtain⟨g,hg⟩:=qd (qAP b h s (qr b s)).length (by omega)
 have:=qd4 hcl h hs hk' (qAP b h s (qr b s)).length (qAP b h s (qr b s)) hM (by omega) (qAP b h s (qr b s)).length 0 (by omega) ((qt b s T_).filter (g1 b s)) _ _ rfl rfl (by omega) g
 rw[<- hg,List.drop_zero] at this
 rw[show qEK qC ((qt b s T_).filter (g1 b s)).length (qAP b h s (qr b s)).length (Int.ofNat (qAP b h s (qr b s)).length) 0 b h s (qJ b) (qK b) ((qt b s T_).filter (g1 b s)).length ((qt b s T_).filter (g1 b s)) (qAP b h s (qr b s)).length (qAP b h s (qr b s))=_ from this,qA]
 rfl
def mbM (b:List Int) (s:Int) (m:List Int):List Int:=mb b s (m0 m) (m1 m) (m2 m) (m3 m)
def mhM (b h:List Int) (s:Int) (m:List Int):List Int:=mh b h s (m1 m) (m2 m)
def qBj (b:List Int) (s:Int) (m:List Int):Bool:=!inC (mbM b s m) s
def qJ1 (b h:List Int) (s:Int):Bool:=(mvs b h s).all fun m=>!qBj b s m
def qFE (b h:List Int) (s:Int) (m:List Int):Bool:=qBj b s m&&(decide (m2 m≠1) || !(inC (mbM b s m) (1 - s)&&qJ1 (mbM b s m) (mhM b h s m) (1 - s)))
theorem qal {b h:List Int} {s:Int} (hc:Clean b) (hs:s=0 \/ s=1) {m:List Int} (hm:qAA b h s (m0 m) (m1 m) (m2 m) (m3 m)=true):qH6 b h s (m0 m) (m1 m) (m2 m) (m3 m)=some (qBj b s m):=by
 unfold qH6
 rw[qPd hc hs (qFF hm).2,qA]
 simp only
 rw[qQ7 _ _ _ hs,qA]
 rfl
theorem qoG {b h:List Int} (hc:Clean b) {s:Int} (hs:s=0 \/ s=1) (N:Nat) (M:List (List Int)) (hM:∀ m∈M,qAA b h s (m0 m) (m1 m) (m2 m) (m3 m)=true) (hl:M.length<=100000):∀ (n i:Nat),i+n=M.length->∀ F,
  qFX (F+n+1) M.length i b h s N M=some (if (M.drop i).all (fun m=>!qBj b s m) then .inr () else .inl false):=by
 intro n
 induction n with
 | zero=>
   intro i hi F
   show qH7 (qFX (F+0)) _ _ _ _ _ _ _=_
   unfold qH7
   rw[qZ (by simp only[Int.ofNat_eq_natCast];omega),List.drop_eq_nil_of_le (by omega)]
   rfl
 | succ n ih=>
   intro i hi F
   show qH7 (qFX (F+n+1)) _ _ _ _ _ _ _=_
   unfold qH7
   have hil:i<M.length:=by omega
   rw[qf (by simp only[Int.ofNat_eq_natCast];omega),qg (by omega) (by omega),tn,atL hil]
   simp only[hdM]
   rw[qal hc hs (hM _ (List.getElem_mem hil)),qA,w_s (n:=(i:Int)+1) (by omega) (by omega),List.drop_eq_getElem_cons hil,List.all_cons]
   cases hg:qBj b s M[i] with
   | true=>rw[b_t];rfl
   | false=>
     rw[b_f]
     exact ih (i+1) (by omega) F
theorem qoH {b:List Int} (hc:Clean b) (h:List Int) {s:Int} (hs:s=0 \/ s=1):qJh b h s=some (qJ1 b h s):=by
 unfold qJh
 rw[qnv b h hs,qA,<- qPL hc h hs]
 simp only
 have hlen:=qjn b h s
 obtain⟨g,hg⟩:=qd (mvs b h s).length (by omega)
 have:=qoG hc hs (mvs b h s).length (mvs b h s) (fun m hm=>(qHe hc hs hm).2) (by omega) (mvs b h s).length 0 (by omega) g
 rw[<- hg,List.drop_zero] at this
 rw[show qFX qC (mvs b h s).length 0 b h s (mvs b h s).length (mvs b h s)=_ from this,qA]
 unfold qJ1
 cases (mvs b h s).all fun m=>!qBj b s m<;>rfl
theorem qoC {b h:List Int} {s:Int} (hc:Clean b) (hs:s=0 \/ s=1) {m:List Int} (hm:qAA b h s (m0 m) (m1 m) (m2 m) (m3 m)=true):qH5 b h s (m0 m) (m1 m) (m2 m) (m3 m)=some (qFE b h s m):=by
 have hs':1 - s=0 \/ 1 - s=1:=by omega
 unfold qH5 qFE
 rw[qal hc hs hm,qA]
 cases qBj b s m with
 | false=>rfl
 | true=>
   rw[Bool.not_true,b_f,Bool.true_and]
   by_cases hd:m2 m=1
   ·rw[qu hd,decide_eq_false (p:=m2 m≠1) (by simpa using hd),Bool.false_or,qPd hc hs (qFF hm).2,qA]
    simp only
    rw[qQ7 _ _ _ hs',qA]
    show (br (!inC (mbM b s m) (1 - s)) _ _)=_
    cases inC (mbM b s m) (1 - s) with
    | false=>rfl
    | true=>
      rw[Bool.not_true,b_f,qoH (qPA hc _ _ _ _ _) _ hs',qA]
      rfl
   ·rw[qq hd,decide_eq_true (p:=m2 m≠1) hd];rfl
def rlL (b h:List Int) (s:Int):List (List Int):=(mvs b h s).filter (qFE b h s)
end Go.Kk.Pl
namespace Go.Kk.Pl
theorem qf2 {b:List Int} (hc:Clean b) {s:Int} (hs:s=0 \/ s=1) {k':Nat} (hk':KS b (1 - s) k') (hno:inC b (1 - s)=false) {q:Int} (hq:0<=q /\ q<81) (h0:at_ b q=0) {c:Nat} (hcc:c<81) (hch:chs (pb b s q) (1 - s) c=true):c=q.toNat:=by
 have hs':1 - s=0 \/ 1 - s=1:=by omega
 have hP:=qPV hs hq h0
 have hk2:KS (pb b s q) (1 - s) k':=by rw[qGF];exact qKw hc hs hP hk'
 apply Classical.byContradiction
 intro hne
 rw[qEt hs' (hk2.kg hs') hk2.1] at hch
 have hg:(pb b s q).getD c 0=b.getD c 0:=by
  rw[qGF,qEM hc hs hP hcc,if_neg hne,if_neg (by simp)]
 have ha:atk b (1 - s) k' c=true:=by
  simp only[atk,enm,Bool.and_eq_true] at hch ⊢
  rw[hg] at hch
  refine⟨hch.1,?_⟩
  rw[qBw] at hch ⊢
  refine hch.2.imp id fun hh=>⟨hh.1,fun i hi=>?_⟩
  have:=hh.2 i hi
  rw[qGF,qSH hc hs hP (qIq hcc hk'.1 hi)] at this
  unfold tk2 fof at this
  simp only[Bool.or_eq_false_iff,decide_eq_false_iff_not] at this
  have h2:=this.2
  rw[if_neg (by simp),decide_eq_false this.1] at h2
  simpa using h2
 unfold inC at hno
 have hE:isE (chs b (1 - s))=true:=by simpa using hno
 have:=qCn.mp hE c hcc
 rw[qEt hs' (hk'.kg hs') hk'.1,ha] at this
 cases this
theorem qjO {b:List Int} (hc:Clean b) {s:Int} (hs:s=0 \/ s=1) {k':Nat} (hk':KS b (1 - s) k') (hno:inC b (1 - s)=false) {q:Int} (hq:0<=q /\ q<81) (h0:at_ b q=0) (hh:List Int):
  pmS b s q=(inC (pb b s q) (1 - s)&&qJ1 (pb b s q) hh (1 - s)):=by
 have hs':1 - s=0 \/ 1 - s=1:=by omega
 have hP:=qPV hs hq h0
 have hk2:KS (pb b s q) (1 - s) k':=by rw[qGF];exact qKw hc hs hP hk'
 have hc2:Clean (pb b s q):=hc.put q _
 have hq81:q.toNat<81:=by omega
 have e1:inC (pb b s q) (1 - s)=chs (pb b s q) (1 - s) q.toNat:=by
  unfold inC
  cases hch:chs (pb b s q) (1 - s) q.toNat with
  | true=>
    cases hE:isE (chs (pb b s q) (1 - s)) with
    | false=>rfl
    | true=>rw[qCn.mp hE _ hq81] at hch;cases hch
  | false=>
    have:isE (chs (pb b s q) (1 - s))=true:=by
     rw[qCn]
     intro i hi
     cases hx:chs (pb b s q) (1 - s) i with
     | false=>rfl
     | true=>rw[qf2 hc hs hk' hno hq h0 hi hx] at hx;rw[hx] at hch;cases hch
    rw[this];rfl
 unfold pmS
 rw[decide_eq_true hq,decide_eq_true h0,Bool.true_and,Bool.true_and,e1]
 cases hch:chs (pb b s q) (1 - s) q.toNat with
 | false=>rfl
 | true =>
   rw[Bool.true_and,Bool.true_and]
   unfold qJ1
   rw[show mvs (pb b s q) hh (1 - s)=qt (pb b s q) (1 - s) T_++qAP (pb b s q) hh (1 - s) T_ from rfl,List.all_append]
   have hB:((qt (pb b s q) (1 - s) T_).all fun m=>!g1 (pb b s q) (1 - s) m)=(qt (pb b s q) (1 - s) T_).all fun m=>!qBj (pb b s q) (1 - s) m:=by
    rw[Bool.eq_iff_iff,List.all_eq_true,List.all_eq_true]
    have:∀ m∈qt (pb b s q) (1 - s) T_,g1 (pb b s q) (1 - s) m=qBj (pb b s q) (1 - s) m:=by
     intro m hm
     obtain⟨_,a2,a3⟩:=qLG hc2 hh hs' hm
     have:=qL3 hc2 hs' (qFF a2).2 hk2
     unfold qBj mbM g1
     rw[this,if_pos a3]
    constructor
    ·intro h m hm;rw[<- this m hm];exact h m hm
    ·intro h m hm;rw[this m hm];exact h m hm
   have hD:((qAP (pb b s q) hh (1 - s) T_).all fun m=>!qBj (pb b s q) (1 - s) m)=true:=by
    rw[List.all_eq_true]
    intro m hm
    obtain⟨_,a2,_,a4,_,_⟩:=qPI hc2 hs' hm
    have hPm:=(qFF a2).2
    have:=qL3 hc2 hs' hPm hk2
    unfold qBj mbM
    rw[this,if_neg (by omega),Bool.not_eq_true']
    cases ho:qr (pb b s q) (1 - s) (m1 m).toNat with
    | false=>rfl
    | true=>
      exfalso
      rw[qJS hs' hk2] at ho
      rw[qEt hs' (hk2.kg hs') hk2.1] at hch
      have hgq:(pb b s q).getD q.toNat 0=16*s+1:=by
       rw[qGF,qEM hc hs hP hq81,if_pos rfl]
       unfold laid
       rw[if_pos (by simp)]
      rcases ho _ hq81 hch with h1 | h1
      ·have h2:=(hPm.drop (by omega)).2.2.2.2.2
       rw[qAa hPm.to_,h1,hgq] at h2
       omega
      ·simp only[atk,Bool.and_eq_true] at hch
       rcases qBw.mp hch.2 with h2 | h2
       ·rw[qMZ h2] at h1;cases h1
       ·have h3:=of_decide_eq_true h2.1
        rw[hgq,qHN hs (by omega) (by omega) (by omega)] at h3
        unfold slK at h3
        omega
   rw[hB,hD,Bool.and_true]
theorem qFI {b h:List Int} {s:Int} (hl:b.length=81) (hz:qC0 b h s=0):Clean b /\ (s=0 \/ s=1) /\ inC b (1 - s)=false /\ ∃ k k',KS b s k /\ KS b (1 - s) k':=by
 have h1:qBE b h s=0 /\ inC b (1 - s)=false:=by
  unfold qC0 at hz
  split at hz
  ·rename_i h;exact absurd hz h
  ·rename_i h
   refine⟨by simpa using h,?_⟩
   cases hi:inC b (1 - s) with
   | false=>rfl
   | true=>rw[hi] at hz;simp at hz
 obtain⟨hc,hs⟩:=qKW hl h1.1
 obtain⟨k,hk⟩:=qKx h1.1 hs
 obtain⟨k',hk'⟩:=qKx h1.1 (s:=1 - s) (by omega)
 exact⟨hc,hs,h1.2,k,k',hk,hk'⟩
theorem qWj {b:List Int} (hc:Clean b) (h:List Int) {s:Int} (hs:s=0 \/ s=1) (hno:inC b (1 - s)=false) {k k':Nat} (hk:KS b s k) (hk':KS b (1 - s) k'):lgL b h s=rlL b h s:=by
 unfold lgL rlL
 rw[show mvs b h s=qt b s T_++qAP b h s T_ from rfl,List.filter_append,qPJ,List.filter_filter]
 congr 1
 ·apply List.filter_congr
  intro m hm
  obtain⟨_,a2,a3⟩:=qLG hc h hs hm
  have:=qL3 hc hs (qFF a2).2 hk
  unfold qFE qBj mbM g1
  rw[this,if_pos a3,decide_eq_true (p:=m2 m≠1) (by omega),Bool.true_or,Bool.and_true]
 ·apply List.filter_congr
  intro m hm
  obtain⟨_,a2,a3,a4,a5,a6⟩:=qPI hc hs hm
  have hP:=(qFF a2).2
  have:=qL3 hc hs hP hk
  unfold qFE qBj g2
  rw[show inC (mbM b s m) s=inC (mb b s (m0 m) (m1 m) (m2 m) (m3 m)) s from rfl,this,if_neg (by omega)]
  cases ho:qr b s (m1 m).toNat with
  | false=>simp
  | true=>
    rw[Bool.and_true,Bool.true_and]
    by_cases hd:m2 m=1
    ·have hdr:=hP.drop (by omega)
     rw[decide_eq_true hd,decide_eq_false (p:=m2 m≠1) (by simpa using hd),Bool.true_and,Bool.false_or,qjO hc hs hk' hno hP.to_ hdr.2.2.2.2.2 (mhM b h s m)]
     have:mbM b s m=pb b s (m1 m):=by
      unfold mbM
      rw[a3,hd,a6,qGF]
     rw[this]
    ·rw[decide_eq_false hd,decide_eq_true (p:=m2 m≠1) hd];rfl
theorem qhv (b h:List Int) (S:Int) (by_ sd_:List (List Int)) (f t d:Int) (p:Bool) (N:Nat) (M:List (List Int)) (hM:∀ m∈M,Mv4 m) (hl:M.length<=100000):∀ (n i:Nat),i+n=M.length->∀ F,
  qHV (F+n+1) M.length M.length i b h S by_ sd_ f t d p N M=some (if (M.drop i).contains [f,t,d,bi p] then .inl (true,b,h,S,by_,sd_) else .inr (b,h,S,by_,sd_)):=by
 intro n
 induction n with
 | zero=>
   intro i hi F
   show qJH (qHV (F+0)) _ _ _ _ _ _ _ _ _ _ _ _ _ _=_
   unfold qJH
   rw[qZ (by omega),List.drop_eq_nil_of_le (by omega)]
   rfl
 | succ n ih=>
   intro i hi F
   show qJH (qHV (F+n+1)) _ _ _ _ _ _ _ _ _ _ _ _ _ _=_
   unfold qJH
   have hil:i<M.length:=by omega
   obtain⟨hm1,_⟩:=hM M[i] (List.getElem_mem hil)
   rw[qf (by omega),qg (by omega) (by omega),tn,atL hil]
   simp only[hdM]
   rw[w_s (n:=(i:Int)+1) (by omega) (by omega),List.drop_eq_getElem_cons hil,List.contains_cons]
   have e:(m0 M[i]==f&&(m1 M[i]==t&&(m2 M[i]==d&&m3 M[i]==p)))=([f,t,d,bi p]==M[i]):=by
    rw[Bool.eq_iff_iff,beq_iff_eq]
    simp only[Bool.and_eq_true,beq_iff_eq]
    constructor
    ·rintro ⟨h1,h2,h3,h4⟩
     rw[hm1,h1,h2,h3,h4]
    ·intro he
     rw[<- he]
     refine⟨rfl,rfl,rfl,?_⟩
     show (bi p != 0)=p
     cases p<;>rfl
   rw[e]
   cases hb:([f,t,d,bi p]==M[i]) with
   | true=>rw[b_t];rfl
   | false=>
     rw[b_f,Bool.false_or]
     exact ih (i+1) (by omega) F
theorem qEq (p:Bool):(bi p != 0)=p:=by cases p<;>rfl
theorem qjS {b:List Int} (hc:Clean b) (h:List Int) {s:Int} (hs:s=0 \/ s=1) {f t d:Int} {p:Bool}:[f,t,d,bi p]∈mvs b h s↔qAA b h s f t d p=true:=by
 constructor
 ·intro hm
  have:=(qHe hc hs hm).2
  have e:m3 [f,t,d,bi p]=p:=qEq p
  rw[e] at this
  exact this
 ·exact qjT hc hs
theorem qWc {b:List Int} (_hc:Clean b) {h:List Int} {s:Int} (_hs:s=0 \/ s=1) {m:List Int} (hm:m∈lgL b h s):m∈mvs b h s:=by
 unfold lgL at hm
 rw[List.mem_append] at hm
 rcases hm with hm | hm
 ·exact List.mem_append_left _ (List.mem_filter.mp hm).1
 ·have:=(List.mem_filter.mp hm).1
  rw[qPJ] at this
  exact List.mem_append_right _ (List.mem_filter.mp this).1
theorem qil {b:List Int} (hc:Clean b) (h:List Int) {s:Int} (hs:s=0 \/ s=1) {k k':Nat} (hk:KS b s k) (hk':KS b (1 - s) k') (f t d:Int) (p:Bool):
  qOu f t d p b h s (qJ b) (qK b)=some ((lgL b h s).contains [f,t,d,bi p],b,h,s,qJ b,qK b):=by
 unfold qOu
 rw[qOl hc h hs hk hk',qA]
 simp only
 have hlen:=qO1 b h s
 obtain⟨g,hg⟩:=qd (lgL b h s).length (by omega)
 have:=qhv b h s (qJ b) (qK b) f t d p (lgL b h s).length (lgL b h s) (fun m hm=>(qHe hc hs (qWc hc hs hm)).1) (by omega) (lgL b h s).length 0 (by omega) g
 rw[<- hg,List.drop_zero] at this
 rw[show qHV qC (lgL b h s).length (Int.ofNat (lgL b h s).length) 0 b h s (qJ b) (qK b) f t d p (lgL b h s).length (lgL b h s)=_ from this,qA]
 cases (lgL b h s).contains [f,t,d,bi p]<;>rfl
theorem qn9 {b:List Int} (hc:Clean b) (h:List Int) {s:Int} (hs:s=0 \/ s=1) (f t d:Int) (p:Bool):qGO b h s f t d p=some ((rlL b h s).contains [f,t,d,bi p]):=by
 have e3:m3 [f,t,d,bi p]=p:=qEq p
 have eq:(rlL b h s).contains [f,t,d,bi p]=(qAA b h s f t d p&&qFE b h s [f,t,d,bi p]):=by
  unfold rlL
  rw[Bool.eq_iff_iff,List.contains_iff_mem,List.mem_filter,qjS hc h hs,Bool.and_eq_true]
 unfold qGO
 rw[qJi,qA,eq]
 cases hm:qAA b h s f t d p with
 | false=>rfl
 | true=>
   rw[b_t,Bool.true_and]
   have:=qoC hc hs (m:=[f,t,d,bi p]) (by rw[e3];exact hm)
   rw[e3] at this
   rw[show qH5 b h s f t d p=_ from this,qA]
end Go.Kk.Pl
namespace Go.Kk.Pl
end Go.Kk.Pl
namespace Go.Kk.Pl
theorem qjc (f t d:Int) (p:Bool):qDZ f t d p=some (qCP f t d p):=by
 unfold qDZ qCP
 by_cases h1:t<0
 ·rw[qf h1,if_pos (by omega)]
 rw[qZ h1]
 by_cases h2:t >= 81
 ·rw[qB4 h2,if_pos (by omega)]
 rw[qBX h2,if_neg (by omega)]
 by_cases hd:d=0
 ·rw[qu hd,if_neg (by simpa using hd)]
  by_cases h3:f<0
  ·rw[qf h3,if_pos (by omega)]
  rw[qZ h3]
  by_cases h4:f >= 81
  ·rw[qB4 h4,if_pos (by omega)]
  rw[qBX h4,if_neg (by omega)]
  by_cases h5:f=t
  ·rw[qn h5,if_pos h5]
  ·rw[qm h5,if_neg h5]
 ·rw[qq hd,if_pos hd]
  by_cases h3:d<0
  ·rw[qf h3,if_neg (by omega)]
  rw[qZ h3]
  by_cases h4:d >= 8
  ·rw[qB4 h4,if_neg (by omega)]
  rw[qBX h4]
  by_cases h5:f=0
  ·rw[qu h5]
   cases p with
   | true=>rw[b_t,if_neg (by simp)]
   | false=>rw[b_f,if_pos ⟨by omega,by omega,h5,rfl⟩]
  ·rw[qq h5,if_neg (by omega)]
theorem qfh (b h:List Int) {s:Int} (hs:s=0 \/ s=1) (f t d:Int) (p:Bool) (K:Int) (n:Nat) (by_ sides:List (List Int)) (m:Nat) (st:List (List Int)):
  qEE f t d p K n b h s by_ sides m st=some (qBp b h s f t d p):=by
 unfold qEE qBp
 rw[qjc,qA]
 by_cases hm:qCP f t d p=0
 ·obtain⟨ht,hd,hmv⟩:=qIw hm
  have main:(br (d != 0)
    (ob (qCi s d b h s by_ sides) fun a14=>
    br (decide (a14>0))
     (ob (qAf t b h s by_ sides) fun a15=>
     some (a15==0))
     (some (false)))
    (ob (qAf f b h s by_ sides) fun a14=>
    ob (qAf t b h s by_ sides) fun a15=>
    ob (qAQ a14) fun a16=>
    br (a16==s)
     (ob (qAQ a15) fun a17=>
     br (a17 != s)
      (ob (qAC a15) fun a18=>
      br (a18 != 8)
       (br (!p)
        (some (true))
        (ob (qAC a14) fun a19=>
        ob (qCu a19) fun a20=>
        some (a20 != 0)))
       (some (false)))
      (some (false)))
     (some (false))))=some (if d≠0 then decide (0<hd_ h s d)&&decide (at_ b t=0)
 else decide (sd (at_ b f)=s /\ sd (at_ b t)≠s /\ kd (at_ b t)≠8)&&(!p||decide (up_ (kd (at_ b f))≠0))):=by
   by_cases h0:d=0
   ·rw [qu h0,if_neg (by simpa using h0),qCz,qA,qCz,qA,qDx,qA]
    by_cases e1:sd (at_ b f)=s
    ·rw[qn e1,qDx,qA]
     by_cases e2:sd (at_ b t)=s
     ·rw[qu e2,decide_eq_false (p:=sd (at_ b f)=s /\ sd (at_ b t)≠s /\ kd (at_ b t)≠8) (fun h=>h.2.1 e2)];rfl
     ·rw [qq e2,qBd,qA]
      by_cases e3:kd (at_ b t)=8
      ·rw[qu e3,decide_eq_false (p:=sd (at_ b f)=s /\ sd (at_ b t)≠s /\ kd (at_ b t)≠8) (fun h=>h.2.2 e3)];rfl
      ·rw[qq e3,decide_eq_true (p:=sd (at_ b f)=s /\ sd (at_ b t)≠s /\ kd (at_ b t)≠8) ⟨e1,e2,e3⟩]
       cases p with
       | false=>rfl
       | true=>
         rw[Bool.not_true,b_f,qBd,qA,qJ9,qA]
         by_cases e4:up_ (kd (at_ b f))=0<;>simp[e4]
    ·rw[qm e1,decide_eq_false (p:=sd (at_ b f)=s /\ sd (at_ b t)≠s /\ kd (at_ b t)≠8) (fun h=>e1 h.1)];rfl
   ·have:=hd h0
    rw[qq h0,if_pos h0,qKr hs (by omega) (by omega),qA]
    by_cases e1:hd_ h s d>0
    ·rw[qCO e1,qCz,qA,decide_eq_true (p:=0<hd_ h s d) e1,Bool.true_and]
     by_cases e2:at_ b t=0<;>simp[e2]
    ·rw[qB5 e1,decide_eq_false (p:=0<hd_ h s d) e1,Bool.false_and]
  rw[qu hm,decide_eq_true hm,decide_eq_true hs,Bool.true_and,Bool.true_and,<- main]
  rcases hs with rfl | rfl<;>rfl
 ·rw[qq hm,decide_eq_false hm,Bool.false_and]
theorem qWb {b:List Int} (hc:Clean b) {h:List Int} {s:Int} (hs:s=0 \/ s=1) {k k':Nat} (hno:inC b (1 - s)=false) (hk:KS b s k) (hk':KS b (1 - s) k') {m:List Int} (hm:m∈lgL b h s):
  Mv4 m /\ qAA b h s (m0 m) (m1 m) (m2 m) (m3 m)=true /\ qFE b h s m=true /\ qBj b s m=true:=by
 have h1:=qHe hc hs (qWc hc hs hm)
 rw[qWj hc h hs hno hk hk'] at hm
 have h2:=(List.mem_filter.mp hm).2
 refine⟨h1.1,h1.2,h2,?_⟩
 unfold qFE at h2
 rw[Bool.and_eq_true] at h2
 exact h2.1
theorem qjb {b h:List Int} {s f t d:Int} {p:Bool} (hm:qAA b h s f t d p=true):qBp b h s f t d p=true:=by
 unfold qAA at hm
 rw[Bool.and_eq_true] at hm
 exact hm.1
end Go.Kk.Pl
namespace Go.Kk.Pl
theorem qEn {p:Nat->Bool} {a n:Nat}:(List.range' a n).any p=false ↔ ∀ i,a<=i->i<a+n->p i=false:=by
 rw[List.any_eq_false]
 constructor
 ·intro h i h1 h2
  have:=h i (List.mem_range'_1.mpr ⟨h1,h2⟩)
  simpa using this
 ·intro h i hi
  obtain⟨h1,h2⟩:=List.mem_range'_1.mp hi
  rw[h i h1 h2];simp
structure ChkP (b h:List Int) (s:Int):Prop where
 side:s=0 \/ s=1
 good:∀ i,i<81->bsP b i=false
 hands:∀ k,k<8->∀ j,j<2->bsH h k j=false
 kings:nP b 8=1 /\ nP b 24=1
 over:∀ k,1<=k->k<8->qDa b h k=false
 dead:∀ i,i<81->qBZ (b.getD i 0) i=false
 nifu:∀ f,f<9->qCs b f=false
theorem qNQ {b h:List Int} {s:Int}:qBE b h s=0↔ChkP b h s:=by
 constructor
 ·intro hz
  unfold qBE at hz
  split at hz
  ·omega
  rename_i h1
  split at hz
  ·omega
  rename_i h2
  split at hz
  ·omega
  rename_i h3
  split at hz
  ·omega
  rename_i h4
  split at hz
  ·omega
  rename_i h5
  split at hz
  ·omega
  rename_i h6
  split at hz
  ·omega
  rename_i h7
  rw[Bool.not_eq_true,qEn] at h2 h3 h5 h6 h7
  refine⟨by omega,fun i hi=>h2 i (by omega) (by omega),fun k hk j hj=>?_,by simpa using h4,fun k k1 k2=>h5 k k1 (by omega),fun i hi=>h6 i (by omega) (by omega),fun f hf=>h7 f (by omega) (by omega)⟩
  have:=h3 k (by omega) (by omega)
  rw[qEn] at this
  exact this j (by omega) (by omega)
 ·intro ⟨a1,a2,a3,a4,a5,a6,a7⟩
  unfold qBE
  rw[if_neg (by omega),if_neg (by rw[qEn.mpr fun i _ hi=>a2 i (by omega)];simp),if_neg (by rw[qEn.mpr fun k _ hk=>qEn.mpr fun j _ hj=>a3 k (by omega) j (by omega)];simp),if_neg (by simpa using a4),
   if_neg (by rw[qEn.mpr fun k k1 hk=>a5 k k1 (by omega)];simp),if_neg (by rw[qEn.mpr fun i _ hi=>a6 i (by omega)];simp),if_neg (by rw[qEn.mpr fun i _ hi=>a7 i (by omega)];simp)]
theorem qrD {n:Nat} {p:Nat->Bool}:(List.range n).countP p<=1 ↔ ∀ i j,i<n->j<n->p i=true->p j=true->i=j:=by
 rw[List.countP_eq_length_filter]
 have hn:((List.range n).filter p).Nodup:=List.Nodup.sublist List.filter_sublist List.nodup_range
 have hm:∀ i,i∈(List.range n).filter p↔i<n /\ p i=true:=by
  intro i;rw[List.mem_filter,List.mem_range]
 match he:(List.range n).filter p with
 | []=>
   rw[he] at hm
   refine⟨fun _ i j hi _ h1 _=>?_,fun _=>by simp⟩
   have:=(hm i).mpr ⟨hi,h1⟩
   cases this
 | [a]=>
   rw[he] at hm
   refine⟨fun _ i j hi hj h1 h2=>?_,fun _=>by simp⟩
   have e1:=(hm i).mpr ⟨hi,h1⟩
   have e2:=(hm j).mpr ⟨hj,h2⟩
   rw[List.mem_singleton] at e1 e2
   rw[e1,e2]
 | a :: c :: L=>
   rw[he] at hm hn
   refine⟨fun h=>?_,fun h=>?_⟩
   ·simp at h
   ·exfalso
    have ea:=(hm a).mp (by simp)
    have ec:=(hm c).mp (by simp)
    have:=h a c ea.1 ec.1 ea.2 ec.2
    subst this
    simp at hn
theorem qjq {b:List Int} {x:Int} {f:Nat}:nF b x f<=1 ↔ ∀ r r',r<9->r'<9->b.getD (9*f+r) 0=x->b.getD (9*f+r') 0=x->r=r':=by
 unfold nF
 rw[qrD]
 constructor
 ·intro h r r' hr hr' e e'
  exact h r r' hr hr' (by simpa using e) (by simpa using e')
 ·intro h r r' hr hr' e e'
  exact h r r' hr hr' (by simpa using e) (by simpa using e')
theorem qjr {b:List Int} {x:Int} {f:Nat}:nF b x f=0 ↔ ∀ r,r<9->b.getD (9*f+r) 0≠x:=by
 unfold nF
 rw[List.countP_eq_zero]
 constructor
 ·intro h r hr e
  exact h r (List.mem_range.mpr hr) (by simpa using e)
 ·intro h r hr e
  exact h r (List.mem_range.mp hr) (by simpa using e)
theorem qW8 {b:List Int} {s:Int} {k:Nat} (h:KS b s k):nP b (pc s 8)=1:=by
 show qAv (fun i=>b.getD i 0==pc s 8)=1
 rw[qG4]
 exact⟨k,h.1,fun i hi=>by rw[beq_iff_eq];exact h.2 i hi⟩
theorem qcJ {b h:List Int} {s:Int} (hl:b.length=81) (hf:qAl h) (hz:qBE b h s=0):Sound b h s:=by
 obtain⟨hc,_⟩:=qKW hl hz
 obtain⟨v,hv,hS⟩:=qfn hc hf s
 rw[qaa hl hf] at hv
 exact hS (by rw[<- Option.some.inj hv];exact hz)
theorem qf1 {b h:List Int} {s f t d:Int} {p:Bool} (hl:b.length=81) (hf:qAl h) (hh:h.length=16) (hz:qBE b h s=0) (hm:qAA b h s f t d p=true):qBE (mb b s f t d p) (mh b h s t d) (1 - s)=0:=by
 obtain⟨hc,hs⟩:=qKW hl hz
 have hP:=(qFF hm).2
 have hS:=qcJ hl hf hz
 have hC:=qNQ.mp hz
 have hs':1 - s=0 \/ 1 - s=1:=by omega
 obtain⟨k,hk⟩:=qKx hz hs
 obtain⟨k',hk'⟩:=qKx hz hs'
 have ht:=hP.to_
 have hla:=qE9 hs hP
 have hc2:Clean (mb b s f t d p):=qPA hc _ _ _ _ _
 have hmv:if d≠0 then (!qDN (16*s+d) t&&(decide (d≠1)||decide (nF b (16*s+d) (t.toNat / 9)=0)))=true
   else (rch (at_ b f) f.toNat t.toNat (tk b)&&if p=true then qCr (at_ b f) f t else !qC7 (at_ b f) t)=true:=by
  have:=hm
  unfold qAA at this
  rw[Bool.and_eq_true] at this
  have:=this.2
  by_cases hd:d=0
  ·rw[if_neg (by simpa using hd)] at this ⊢
   exact this
  ·rw[if_pos hd] at this ⊢
   exact this
 have hhand:∀ j:Int,(j=0 \/ j=1)->∀ i:Int,0<=i->i<8->(hd_ (mh b h s t d) j i=hd_ h j i \/ (1<=i /\ 0<=hd_ (mh b h s t d) j i)):=by
  intro j hj i i0 i8
  unfold mh
  by_cases hd:d=0
  ·have hmm:=hP.move hd
   rw[if_neg (by simpa using hd)]
   by_cases h0:at_ b t=0
   ·rw[if_pos h0];exact .inl rfl
   ·rw[if_neg h0]
    have hr:=qIA ((hc.at_ t).resolve_left h0) hmm.2.2.2.2.2.1
    rw[qE5 hh hs (by omega) (by omega) 1 hj i0 i8]
    split
    ·right
     rename_i he
     have h1:=hS.hands (rw_ (kd (at_ b t))) (by omega) (by omega)
     have h2:=hS.counts (rw_ (kd (at_ b t))) (by omega) (by omega)
     have h3:0<=hd_ h s (rw_ (kd (at_ b t))) /\ hd_ h s (rw_ (kd (at_ b t)))<=18:=by
      rcases hs with rfl | rfl<;>omega
     rw[w_8 (by omega) (by omega)]
     omega
    ·exact .inl rfl
  ·have hmm:=hP.drop hd
   rw[if_pos hd,qE5 hh hs (by omega) (by omega) (-1) hj i0 i8]
   split
   ·right
    have:=qG8 hf s d
    rw[w_8 (by omega) (by omega)]
    omega
   ·exact .inl rfl
 rw[qNQ]
 refine⟨hs',fun i hi=>?_,fun i hi j hj=>?_,?_,fun i i1 i2=>?_,fun i hi=>?_,fun g hg=>?_⟩
 ·unfold bsP
  rw[decide_eq_false_iff_not]
  rintro ⟨h1,h2⟩
  have:=hc2.at_ i
  rw[qAa (by omega),tn] at this
  exact this.elim h1 (fun h=>h h2)
 ·have h1:=hC.hands i hi j hj
  unfold bsH at h1 ⊢
  rw[decide_eq_false_iff_not] at h1 ⊢
  have h2:=hhand j (by omega) i (by omega) (by omega)
  unfold hd_ at h2
  rw[show (j:Int).toNat*8+(i:Int).toNat=j*8+i from rfl] at h2
  omega
 ·have e1:=qW8 (qOX hc hs hP hk)
  have e2:=qW8 (qKw hc hs hP hk')
  rw[pc8 hs] at e1
  rw[pc8 hs'] at e2
  rcases hs with rfl | rfl
  ·exact⟨e1,e2⟩
  ·exact⟨e2,e1⟩
 ·have h1:=hC.over i i1 i2
  unfold qDa at h1 ⊢
  rw[decide_eq_false_iff_not] at h1 ⊢
  have:=qlG hS hf hh hP (k:=(i:Int)) (by omega) (by omega)
  omega
 ·rw[qEM hc hs hP hi]
  by_cases h1:i=t.toNat
  ·rw [if_pos h1,h1]
   unfold laid
   by_cases hd:d=0
   ·rw [if_neg (by simpa using hd)]
    rw[if_neg (by simpa using hd)] at hmv
    have hmm:=hP.move hd
    cases p with
    | true=>
      rw[if_pos rfl]
      obtain⟨u1,u2,u3⟩:=qIY (hmm.2.2.2.2.2.2 rfl)
      have:9<=up_ (kd (at_ b f)):=by
       have hu:=hmm.2.2.2.2.2.2 rfl
       unfold up_ at hu ⊢
       split
       ·omega
       ·rename_i h;rw[if_neg h] at hu;exact absurd rfl hu
      unfold qBZ
      rw[qHN hs u1 u2 u3,decide_eq_false_iff_not]
      omega
    | false=>
      rw[if_neg (by simp)]
      rw[if_neg (by simp),Bool.and_eq_true] at hmv
      have h2:=hmv.2
      cases hdd:qBZ (at_ b f) t.toNat with
      | false=>rfl
      | true=>
        exfalso
        have hk:kd (at_ b f)=1 \/ kd (at_ b f)=2 \/ kd (at_ b f)=3:=by
         have:=of_decide_eq_true hdd
         omega
        unfold qC7 at h2
        rw[show t=((t.toNat:Nat):Int) by omega,qNY _ (by omega),hdd] at h2
        have:up_ (kd (at_ b f))≠0:=by unfold up_;rw[if_pos (by omega)];omega
        rw[decide_eq_true this] at h2
        cases h2
   ·rw[if_pos hd]
    rw[if_pos hd,Bool.and_eq_true] at hmv
    have h2:=hmv.1
    rw[show t=((t.toNat:Nat):Int) by omega,qNY _ (by omega)] at h2
    simpa using h2
  ·rw[if_neg h1]
   by_cases h2:d=0 /\ i=f.toNat
   ·rw[if_pos h2]
    unfold qBZ
    rw[qE6]
    simp
   ·rw[if_neg h2];exact hC.dead i hi
 ·have key:∀ x:Int,(x=1 \/ x=17)->nF (mb b s f t d p) x g<=1:=by
   intro x hx
   have hxk:kd x=1:=by rcases hx with rfl | rfl<;>decide
   have hold:nF b x g<=1:=by
    have:=hC.nifu g hg
    unfold qCs at this
    simp only[Bool.or_eq_false_iff,decide_eq_false_iff_not] at this
    rcases hx with rfl | rfl<;>omega
   rw[qjq] at hold ⊢
   have from_:∀ r,r<9->(mb b s f t d p).getD (9*g+r) 0=x->(b.getD (9*g+r) 0=x /\ ¬ (d=0 /\ 9*g+r=f.toNat)) \/ 9*g+r=t.toNat:=by
    intro r hr e
    rw[qEM hc hs hP (by omega)] at e
    by_cases h1:9*g+r=t.toNat
    ·exact .inr h1
    ·rw[if_neg h1] at e
     by_cases h2:d=0 /\ 9*g+r=f.toNat
     ·rw[if_pos h2] at e
      rcases hx with rfl | rfl<;>omega
     ·rw[if_neg h2] at e
      exact .inl ⟨e,h2⟩
   have lay:∀ r,r<9->9*g+r=t.toNat->(mb b s f t d p).getD (9*g+r) 0=x->∀ r',r'<9->(b.getD (9*g+r') 0=x /\ ¬ (d=0 /\ 9*g+r'=f.toNat))->False:=by
    intro r hr he e r' hr' e'
    rw[qEM hc hs hP (by omega),if_pos he] at e
    unfold laid at e
    by_cases hd:d=0
    ·rw [if_neg (by simpa using hd)] at e hmv
     have hmm:=hP.move hd
     cases p with
     | true=>
       rw[if_pos rfl] at e
       have hu:=hmm.2.2.2.2.2.2 rfl
       obtain⟨u1,u2,u3⟩:=qIY hu
       have:kd (16*s+up_ (kd (at_ b f)))=1:=by rw[e,hxk]
       rw[qHN hs u1 u2 u3] at this
       unfold up_ at this
       split at this<;>omega
     | false=>
       rw[if_neg (by simp)] at e
       rw[Bool.and_eq_true] at hmv
       have hr1:=hmv.1
       have hfl:df f.toNat t.toNat=0:=by
        rcases qBw.mp hr1 with h1 | h1
        ·have h2:=of_decide_eq_true h1
         rw[e,hxk] at h2
         unfold qB1 at h2
         omega
        ·have h2:=of_decide_eq_true h1.1
         rw[e,hxk] at h2
         unfold slK at h2
         omega
       unfold df fl at hfl
       have hfe:f.toNat=9*g+f.toNat % 9:=by omega
       have:b.getD (9*g+f.toNat % 9) 0=x:=by
        rw[<- hfe,<- qAa ⟨hmm.1,hmm.2.1⟩];exact e
       have:=hold (f.toNat % 9) r' (by omega) hr' this e'.1
       exact e'.2 ⟨hd,by omega⟩
    ·rw[if_pos hd] at e hmv
     rw[Bool.and_eq_true] at hmv
     have hdd:=hP.drop hd
     have hd1:d=1:=by rcases hs with rfl | rfl<;>rcases hx with rfl | rfl<;>omega
     have hz0:nF b (16*s+d) (t.toNat / 9)=0:=by
      have:=hmv.2
      rw[decide_eq_false (p:=d≠1) (by simpa using hd1),Bool.false_or,decide_eq_true_eq] at this
      exact this
     rw[e,show t.toNat / 9=g by omega,qjr] at hz0
     exact hz0 r' hr' e'.1
   intro r r' hr hr' e e'
   rcases from_ r hr e with h1 | h1
   ·rcases from_ r' hr' e' with h2 | h2
    ·exact hold r r' hr hr' h1.1 h2.1
    ·exact (lay r' hr' h2 e' r hr h1).elim
   ·rcases from_ r' hr' e' with h2 | h2
    ·exact (lay r hr h1 e r' hr' h2).elim
    ·omega
  unfold qCs
  have k1:=key 1 (.inl rfl)
  have k2:=key 17 (.inr rfl)
  rw[decide_eq_false (by omega),decide_eq_false (by omega)]
  rfl
theorem qeQ {b h:List Int} {s f t d:Int} {p:Bool} (hl:b.length=81) (hf:qAl h) (hh:h.length=16) (hz:qBE b h s=0) (hm:qAA b h s f t d p=true) (hsafe:inC (mb b s f t d p) s=false):qC0 (mb b s f t d p) (mh b h s t d) (1 - s)=0:=by
 have h1:=qf1 hl hf hh hz hm
 unfold qC0
 rw[if_neg (by rw[h1];simp),show 1 - (1 - s)=s by omega,hsafe]
 rfl
theorem qMt {b h:List Int} {s:Int} (hz:qC0 b h s=0):qBE b h s=0:=by
 unfold qC0 at hz
 split at hz
 ·rename_i h;exact absurd hz h
 ·rename_i h;simpa using h
end Go.Kk.Pl
namespace Go.Kk.Pl
theorem qqm {b:List Int} (hc:Clean b) (h:List Int) {s:Int} (hs:s=0 \/ s=1) {k k':Nat} (hk:KS b s k) (hk':KS b (1 - s) k'):
  qO9 b h s (qJ b) (qK b)=some (decide ((lgL b h s).length=0),b,h,s,qJ b,qK b):=by
 unfold qO9
 rw[qOl hc h hs hk hk',qA]
 simp only
 congr 2
 rw[Bool.eq_iff_iff,decide_eq_true_eq,beq_iff_eq]
 exact⟨fun h=>by simpa using h,fun h=>by rw[h];rfl⟩
end Go.Kk.Pl
