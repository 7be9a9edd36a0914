/- What the program's functions come to, told plainly: the texts of this project that this claim leans on, cut down to what is used. -/
import Derived.Test.YtjckfjagajmekaaGreatDoorKkU2
import Derived.Test.YtjckfjagajmekaaGreatDoorKkU1
namespace Go.Kk.Pl
theorem hd0 (m:List Int):List.headD (List.take 4 m) 0=m.getD 0 0:=by cases m<;>rfl
theorem hd1 (m:List Int):List.headD (List.tail (List.take 4 m)) 0=m.getD 1 0:=by
 rcases m with _ | ⟨a,_ | ⟨b,m⟩⟩<;>rfl
theorem hd2 (m:List Int):List.headD (List.tail (List.tail (List.take 4 m))) 0=m.getD 2 0:=by
 rcases m with _ | ⟨a,_ | ⟨b,_ | ⟨c,m⟩⟩⟩<;>rfl
theorem hd3 (m:List Int):List.headD (List.tail (List.tail (List.tail (List.take 4 m)))) 0=m.getD 3 0:=by
 rcases m with _ | ⟨a,_ | ⟨b,_ | ⟨c,_ | ⟨d,m⟩⟩⟩⟩<;>rfl
theorem qiq {x f t:Int} {m:List Int} (h:m∈qAB x f t):∃ p:Int,m=[f,t,0,p]:=by
 unfold qAB at h
 rw[List.mem_append] at h
 rcases h with h | h
 ·split at h
  ·cases h
  ·exact⟨0,by simpa using h⟩
 ·split at h
  ·exact⟨1,by simpa using h⟩
  ·cases h
theorem qhs {b:List Int} {S:Int} {G:Nat->Bool} {f:Int} {m:List Int} (h:m∈qCF b S G f):∃ t p:Int,m=[f,t,0,p]:=by
 unfold qCF at h
 obtain⟨t,_,ht⟩:=List.mem_flatMap.1 h
 obtain⟨p,hp⟩:=qiq ht
 exact⟨t,p,hp⟩
theorem qhq {b:List Int} {S:Int} {G:Nat->Bool} {m:List Int} (h:m∈qr b S G):∃ f t p:Int,m=[f,t,0,p]:=by
 unfold qr at h
 obtain⟨f,_,hf⟩:=List.mem_flatMap.1 h
 obtain⟨t,p,hp⟩:=qhs hf
 exact⟨f,t,p,hp⟩
theorem qht {b h:List Int} {S:Int} {G:Nat->Bool} {k:Nat} {m:List Int} (hm:m∈qBX b h S G k):∃ t:Int,m=[0,t,(k:Int),0]:=by
 unfold qBX at hm
 split at hm
 ·cases hm
 ·obtain⟨t,_,ht⟩:=List.mem_map.1 hm
  exact⟨t,ht.symm⟩
theorem qhr {b h:List Int} {S:Int} {G:Nat->Bool} {m:List Int} (hm:m∈qAO b h S G):∃ (k:Nat) (t:Int),1<=k /\ k<=7 /\ m=[0,t,(k:Int),0]:=by
 unfold qAO at hm
 obtain⟨k,hk,h2⟩:=List.mem_flatMap.1 hm
 rw[List.mem_range'_1] at hk
 obtain⟨t,ht⟩:=qht h2
 exact⟨k,t,by omega,by omega,ht⟩
theorem qVj (b h:List Int) (S:Int):(mvs b h S).length<=20000:=by
 unfold mvs
 have h1:=qN4 b S fun _=>true
 have h2:=qVg b h S fun _=>true
 rw[List.length_append]
 omega
end Go.Kk.Pl
namespace Go.Kk.Pl
theorem qgE (es:List (List Int×List Int)) (r v r' d:List Int):qAs (qAE es r v) r' d=if r'=r then v else qAs es r' d:=by
 induction es with
 | nil=>
   by_cases h:r'=r
   ·subst h;simp[qAE,qAs]
   ·have:(r==r')=false:=by simpa using fun hh=>h hh.symm
    simp[qAE,qAs,this,h]
 | cons x es ih=>
   obtain⟨k,u⟩:=x
   by_cases hk:k=r
   ·subst hk
    by_cases h:r'=k
    ·subst h;simp[qAE,qAs]
    ·have:(k==r')=false:=by simpa using fun hh=>h hh.symm
     simp[qAE,qAs,this,h]
   ·have e1:(k==r)=false:=by simpa using hk
    by_cases hk':k=r'
    ·subst hk'
     simp[qAE,qAs,e1,hk]
    ·have e2:(k==r')=false:=by simpa using hk'
     simp only[qAE,e1,cond_false,qAs,e2,ih]
theorem qgJ (es:List (List Int×List Int)) (r v r':List Int):qAt (qAE es r v) r'=(decide (r'=r)||qAt es r'):=by
 induction es with
 | nil=>
   by_cases h:r'=r
   ·subst h;simp[qAE,qAt]
   ·have:(r==r')=false:=by simpa using fun hh=>h hh.symm
    simp[qAE,qAt,this,h]
 | cons x es ih=>
   obtain⟨k,u⟩:=x
   by_cases hk:k=r
   ·subst hk
    by_cases h:r'=k
    ·subst h;simp[qAE,qAt]
    ·have:(k==r')=false:=by simpa using fun hh=>h hh.symm
     simp[qAE,qAt,this,h]
   ·have e1:(k==r)=false:=by simpa using hk
    by_cases hk':k=r'
    ·subst hk'
     simp[qAE,qAt,e1]
    ·have e2:(k==r')=false:=by simpa using hk'
     simp only[qAE,e1,cond_false,qAt,e2,ih,Bool.false_or]
structure MvOK (b h:List Int) (S f t d p:Int):Prop where
 pp:p=0 \/ p=1
 mov:qAG b h S f t d (p != 0)=true
 tr:0<=t /\ t<81
 fr:0<=f /\ f<81
 dr:0<=d /\ d<=7
 drop:d≠0->f=0 /\ p=0 /\ 0<hd_ h S d /\ at_ b t=0
theorem qhu {b h:List Int} (hc:Clean b) {S:Int} (hS:S=0 \/ S=1) {m:List Int} (hm:m∈mvs b h S):∃ f t d p:Int,m=[f,t,d,p] /\ MvOK b h S f t d p:=by
 rw[qN6 hc h hS] at hm
 unfold qDk at hm
 rw[List.mem_append] at hm
 rcases hm with hm | hm
 ·obtain⟨f,hf,hm⟩:=List.mem_flatMap.1 hm
  rw[List.mem_range'_1] at hf
  unfold qAz at hm
  split at hm<;>try cases hm
  obtain⟨t,ht,hm⟩:=List.mem_flatMap.1 hm
  rw[List.mem_range'_1] at ht
  unfold rTo at hm
  split at hm<;>try cases hm
  unfold qAo at hm
  rw[List.mem_append] at hm
  rcases hm with hm | hm
  ·split at hm
   ·rename_i hmv
    rw[List.mem_singleton] at hm
    exact⟨f,t,0,0,hm,.inl rfl,hmv,by omega,by omega,by omega,fun h=>absurd rfl h⟩
   ·cases hm
  ·split at hm
   ·rename_i hmv
    rw[List.mem_singleton] at hm
    exact⟨f,t,0,1,hm,.inr rfl,hmv,by omega,by omega,by omega,fun h=>absurd rfl h⟩
   ·cases hm
 ·obtain⟨k,hk,hm⟩:=List.mem_flatMap.1 hm
  rw[List.mem_range'_1] at hk
  unfold qDl at hm
  split at hm<;>try cases hm
  rename_i hh
  obtain⟨t,ht,hm⟩:=List.mem_flatMap.1 hm
  rw[List.mem_range'_1] at ht
  unfold qB0 at hm
  split at hm
  case isFalse=>cases hm
  rename_i hmv
  rw[List.mem_singleton] at hm
  refine⟨0,t,k,0,hm,.inl rfl,hmv,by omega,by omega,by omega,fun h=>⟨rfl,rfl,hh,?_⟩⟩
  have:=hmv
  unfold qAG qCx at this
  rw[if_pos h] at this
  simp only[Bool.and_eq_true,decide_eq_true_eq] at this
  exact this.1.2.2.2
end Go.Kk.Pl
namespace Go.Kk.Pl
theorem qbe {x:Int} {a c:Nat} (h:qAp x a c=true):-1<=df a c /\ df a c<=1 /\ -2<=dr a c /\ dr a c<=2 /\ (dr a c=2 \/ dr a c = -2->df a c=1 \/ df a c = -1) /\ ¬ (df a c=0 /\ dr a c=0):=by
 have h:=of_decide_eq_true h
 unfold qBr at h
 have:upS x a c=dr a c \/ upS x a c = - dr a c:=by unfold upS;split<;>simp
 omega
theorem qLa {x:Int} {a c:Nat} (h:qAp x a c=true):btw a c=[]:=by
 have hs:=qbe h
 unfold btw
 by_cases hl:qu a c=0
 ·rw[if_pos hl]
 ·rw[if_neg hl]
  have hl:=(qJ9 a c).mp hl
  unfold qDe at hl
  have:mx a c<=1:=by
   unfold mx
   split<;>omega
  rw[show mx a c - 1=0 by omega]
  rfl
theorem qon {x:Int} {a:Nat}:qAp x a a=false:=by
 cases h:qAp x a a with
 | false=>rfl
 | true=>exact absurd (qGZ a) (qbe h).2.2.2.2.2
theorem qoA {x:Int} {a:Nat}:qAZ x a a=false:=by
 unfold qAZ
 have:=qGZ a
 have:upS x a a=0:=by unfold upS;split<;>omega
 rw[decide_eq_false]
 unfold slK
 omega
theorem qWo {x:Int} {a:Nat} {t:Nat->Bool}:rch x a a t=false:=by
 unfold rch;rw[qon,qoA];rfl
theorem qH5 {k c f:Nat} (hk:k<81) (hc:c<81) (h:f∈btw c k):f<81 /\ f≠k /\ f≠c /\ ∃ n:Nat,(qA4 (sgn (df k f)) (sgn (dr k f)) k)[n]? = some c /\ ∀ i,(i∈btw c k↔i∈(qA4 (sgn (df k f)) (sgn (dr k f)) k).take n):=by
 have hf:f∈btw k c:=qH3 hc hk h
 have hl:qu k c≠0:=by intro h0;unfold btw at hf;rw[if_pos h0] at hf;cases hf
 have:=qJb ⟨k,hk⟩ ⟨c,hc⟩
 simp only[qH9,Bool.or_eq_true,decide_eq_true_eq,Bool.and_eq_true,beq_iff_eq,Bool.not_eq_true'] at this
 obtain⟨e1,e2,e3⟩:=this.resolve_left hl
 have hW:f∈qA4 (sgn (df k c)) (sgn (dr k c)) k:=List.mem_of_mem_take (by rw[e1];exact hf)
 have hli:=(qJ9 k c).mp hl
 have sx:-1<=sgn (df k c) /\ sgn (df k c)<=1:=by unfold sgn;split<;>(try split)<;>omega
 have sy:-1<=sgn (dr k c) /\ sgn (dr k c)<=1:=by unfold sgn;split<;>(try split)<;>omega
 have sn:¬ (sgn (df k c)=0 /\ sgn (dr k c)=0):=by
  unfold qDe at hli
  unfold sgn
  split<;>split<;>(try split)<;>(try split)<;>omega
 have hB:=qSq ⟨((sgn (df k c)+1)*3+(sgn (dr k c)+1)).toNat,by omega⟩ ⟨k,hk⟩
 simp only at hB
 rw[show (((((sgn (df k c)+1)*3+(sgn (dr k c)+1)).toNat / 3:Nat):Int) - 1)=sgn (df k c) by omega,show (((((sgn (df k c)+1)*3+(sgn (dr k c)+1)).toNat % 3:Nat):Int) - 1)=sgn (dr k c) by omega] at hB
 have hB:=hB.resolve_left (by omega)
 unfold qMW at hB
 rw[List.all_eq_true] at hB
 have hB:=hB f hW
 simp only[Bool.and_eq_true,decide_eq_true_eq] at hB
 obtain⟨b1,b2,b3,b4⟩:=hB
 refine⟨b1,?_,?_,(btw k c).length,?_,?_⟩
 ·rintro rfl
  exact b2 (by unfold qu;rw[if_pos rfl])
 ·rintro rfl
  rw[List.contains_iff_mem.mpr hf] at e3
  cases e3
 ·rw[b3,b4];exact e2
 ·intro i
  rw[b3,b4,e1]
  exact⟨qH3 hc hk,qH3 hk hc⟩
theorem qSf {k c c' f:Nat} (hk:k<81) (hc:c<81) (hc':c'<81) (h:f∈btw c k) (h':f∈btw c' k) (hne:c≠c'):c∈btw c' k \/ c'∈btw c k:=by
 obtain⟨_,_,_,n,e,m⟩:=qH5 hk hc h
 obtain⟨_,_,_,n',e',m'⟩:=qH5 hk hc' h'
 rcases Nat.lt_trichotomy n n' with hn | hn | hn
 ·left
  rw[m',List.mem_iff_getElem?]
  exact⟨n,by rw[List.getElem?_take,if_pos hn];exact e⟩
 ·subst hn
  rw[e] at e'
  exact absurd (Option.some.inj e') hne
 ·right
  rw[m,List.mem_iff_getElem?]
  exact⟨n',by rw[List.getElem?_take,if_pos hn];exact e'⟩
def enm (b:List Int) (s:Int) (c:Nat):Bool:=decide (sd (b.getD c 0)=1 - s)
def atk (b:List Int) (s:Int) (k c:Nat):Bool:=enm b s c&&rch (b.getD c 0) c k (tk b)
def tk2 (b:List Int) (f t i:Nat):Bool:=decide (i=t)||(!decide (i=f)&&tk b i)
def qDT (b:List Int) (s:Int) (k f t c:Nat):Bool:=decide (c≠t)&&(enm b s c&&rch (b.getD c 0) c k (tk2 b f t))
def qAH (b:List Int) (s:Int) (k f c:Nat):Bool:=enm b s c&&(qAZ (b.getD c 0) c k&&((btw c k).contains f&&(tk b f&&(decide (sd (b.getD f 0)=s)&&(btw c k).all fun i=>i==f || !tk b i))))
theorem qCj {b:List Int} {s:Int} {k f c:Nat}:qAH b s k f c=true↔enm b s c=true /\ qAZ (b.getD c 0) c k=true /\ f∈btw c k /\ tk b f=true /\ sd (b.getD f 0)=s /\ ∀ i∈btw c k,i≠f->tk b i=false:=by
 unfold qAH
 simp only[Bool.and_eq_true,decide_eq_true_eq,List.all_eq_true,Bool.or_eq_true,beq_iff_eq,Bool.not_eq_true',List.contains_iff_mem]
 constructor
 ·rintro ⟨h1,h2,h3,h4,h5,h6⟩
  exact⟨h1,h2,h3,h4,h5,fun i hi hn=>(h6 i hi).resolve_left hn⟩
 ·rintro ⟨h1,h2,h3,h4,h5,h6⟩
  exact⟨h1,h2,h3,h4,h5,fun i hi=>by by_cases hn:i=f;exact .inl hn;exact .inr (h6 i hi hn)⟩
theorem qMq {b:List Int} {s:Int} (hs:s=0 \/ s=1) {c:Nat} (h:enm b s c=true):tk b c=true:=by
 have h:=of_decide_eq_true h
 unfold tk
 rw[decide_eq_true_eq]
 intro h0
 rw[h0,qIt] at h
 omega
theorem qWJ {b:List Int} {s:Int} (hs:s=0 \/ s=1) {k f c c':Nat} (hk:k<81) (hc:c<81) (hc':c'<81) (h:qAH b s k f c=true) (h':qAH b s k f c'=true):c=c':=by
 apply Classical.byContradiction
 intro hne
 rw[qCj] at h h'
 rcases qSf hk hc hc' h.2.2.1 h'.2.2.1 hne with hm | hm
 ·have:=h'.2.2.2.2.2 c hm (fun e=>(qH5 hk hc h.2.2.1).2.2.1 e.symm)
  rw[qMq hs h.1] at this
  cases this
 ·have:=h.2.2.2.2.2 c' hm (fun e=>(qH5 hk hc' h'.2.2.1).2.2.1 e.symm)
  rw[qMq hs h'.1] at this
  cases this
theorem qWK {b:List Int} {s:Int} {k f f' c:Nat} (h:qAH b s k f c=true) (h':qAH b s k f' c=true):f=f':=by
 apply Classical.byContradiction
 intro hne
 rw[qCj] at h h'
 have:=h'.2.2.2.2.2 f h.2.2.1 hne
 rw[h.2.2.2.1] at this
 cases this
theorem qBl {x:Int} {a c:Nat} {t:Nat->Bool}:rch x a c t=true↔qAp x a c=true \/ (qAZ x a c=true /\ ∀ i∈btw a c,t i=false):=by
 unfold rch
 rw[Bool.or_eq_true,Bool.and_eq_true,qGQ]
theorem qdF {b:List Int} {s:Int} {k f t:Nat} (hf:tk b f=true->sd (b.getD f 0)=s):
  (∀ c,c<81->qDT b s k f t c=false)↔(∀ c,c<81->atk b s k c=true->t=c \/ t∈btw c k) /\ (∀ c,c<81->qAH b s k f c=true->t=c \/ t∈btw c k):=by
 constructor
 ·intro h
  refine⟨fun c hc ha=>?_,fun c hc hp=>?_⟩
  ·apply Classical.byContradiction
   intro hn
   simp only[not_or] at hn
   have:=h c hc
   rw[show qDT b s k f t c=true from ?_] at this
   ·cases this
   ·simp only[atk,Bool.and_eq_true] at ha
    simp only[qDT,Bool.and_eq_true,decide_eq_true_eq]
    refine⟨fun e=>hn.1 e.symm,ha.1,?_⟩
    rw[qBl] at ha ⊢
    refine ha.2.imp id fun hh=>⟨hh.1,fun i hi=>?_⟩
    unfold tk2
    rw[hh.2 i hi,decide_eq_false (p:=i=t) (fun e=>hn.2 (e ▸ hi))]
    simp
  ·apply Classical.byContradiction
   intro hn
   simp only[not_or] at hn
   have:=h c hc
   rw[show qDT b s k f t c=true from ?_] at this
   ·cases this
   ·rw[qCj] at hp
    simp only[qDT,Bool.and_eq_true,decide_eq_true_eq]
    refine⟨fun e=>hn.1 e.symm,hp.1,?_⟩
    rw[qBl]
    refine .inr ⟨hp.2.1,fun i hi=>?_⟩
    unfold tk2
    rw[decide_eq_false (p:=i=t) (fun e=>hn.2 (e ▸ hi))]
    by_cases hif:i=f
    ·simp[hif]
    ·rw[hp.2.2.2.2.2 i hi hif];simp
 ·rintro ⟨h1,h2⟩ c hc
  cases ha:qDT b s k f t c with
  | false=>rfl
  | true=>
    exfalso
    simp only[qDT,Bool.and_eq_true,decide_eq_true_eq] at ha
    obtain⟨hct,he,hr⟩:=ha
    have tt:tk2 b f t t=true:=by unfold tk2;simp
    have out:t ∉ btw c k:=by
     intro hm
     rw[qBl] at hr
     rcases hr with hr | hr
     ·rw[qLa hr] at hm;cases hm
     ·rw[hr.2 t hm] at tt;cases tt
    cases hak:atk b s k c with
    | true=>exact (h1 c hc hak).elim (fun e=>hct e.symm) out
    | false=>
      unfold atk at hak
      rw[he,Bool.true_and] at hak
      have hn:¬ (qAp (b.getD c 0) c k=true \/ (qAZ (b.getD c 0) c k=true /\ ∀ i∈btw c k,tk b i=false)):=by
       rw[<- qBl,hak];simp
      simp only[not_or,not_and] at hn
      rw[qBl] at hr
      have hr:=hr.resolve_left hn.1
      have two:∀ i∈btw c k,i≠f->tk b i=false:=by
       intro i hi hif
       have:=hr.2 i hi
       unfold tk2 at this
       rw[decide_eq_false hif] at this
       simpa using (Bool.or_eq_false_iff.mp this).2
      have hmf:f∈btw c k /\ tk b f=true:=by
       apply Classical.byContradiction
       intro hh
       apply hn.2 hr.1
       intro i hi
       by_cases hif:i=f
       ·subst hif
        cases htk:tk b i with
        | false=>rfl
        | true=>exact absurd ⟨hi,htk⟩ hh
       ·exact two i hi hif
      exact (h2 c hc (qCj.mpr ⟨he,hr.1,hmf.1,hmf.2,hf hmf.2,two⟩)).elim (fun e=>hct e.symm) out
theorem qpM {b:List Int} {s:Int} (hs:s=0 \/ s=1) {k c c' t:Nat} (hk:k<81) (hc:c<81) (hc':c'<81) (h:atk b s k c=true) (h':atk b s k c'=true) (hne:c≠c')
  (ht:t=c \/ t∈btw c k) (ht':t=c' \/ t∈btw c' k):False:=by
 have no:∀ {c c':Nat},atk b s k c=true->atk b s k c'=true->c∈btw c' k->False:=by
  intro c c' h h' hm
  simp only[atk,Bool.and_eq_true] at h h'
  rcases qBl.mp h'.2 with hr | hr
  ·rw[qLa hr] at hm;cases hm
  ·have:=hr.2 c hm
   rw[qMq hs h.1] at this;cases this
 rcases ht with rfl | ht
 ·rcases ht' with rfl | ht'
  ·exact hne rfl
  ·exact no h h' ht'
 ·rcases ht' with rfl | ht'
  ·exact no h' h ht
  ·rcases qSf hk hc hc' ht ht' hne with hm | hm
   ·exact no h h' hm
   ·exact no h' h hm
end Go.Kk.Pl
namespace Go.Kk.Pl
theorem qek {f g:Nat->Bool} (h:∀ i,i<81->f i=g i):qAl f=qAl g:=by
 unfold qAl
 apply List.countP_congr
 intro i hi
 rw[h i (List.mem_range.mp hi)]
theorem qeo:∀ f:Fin 81,qAl (only ((f.val:Nat):Int))=1:=by decide +kernel
theorem qGG {g:Nat->Bool}:qAl g=1 ↔ ∃ f,f<81 /\ ∀ i,i<81->(g i=true↔i=f):=by
 constructor
 ·intro h
  unfold qAl at h
  rw[List.countP_eq_length_filter] at h
  obtain⟨f,hf⟩:=List.length_eq_one_iff.mp h
  have hm:∀ i,i∈(List.range 81).filter g↔i=f:=by rw[hf];simp
  refine⟨f,?_,fun i hi=>?_⟩
  ·have:=(hm f).mpr rfl
   rw[List.mem_filter,List.mem_range] at this
   exact this.1
  ·rw[<- hm i,List.mem_filter,List.mem_range]
   exact⟨fun h=>⟨hi,h⟩,fun h=>h.2⟩
 ·rintro ⟨f,hf,h⟩
  rw[<- qeo ⟨f,hf⟩]
  apply qek
  intro i hi
  unfold only
  rw[Bool.eq_iff_iff,h i hi,decide_eq_true_eq]
  simp only
  omega
theorem qMz {g:Nat->Bool} {f:Nat} (hf:f<81) (h:∀ i,i<81->(g i=true↔i=f)):fst g=f:=by
 apply qJv hf ((h f hf).mpr rfl)
 intro i hi
 cases hg:g i with
 | false=>rfl
 | true=>exact absurd ((h i (by omega)).mp hg) (by omega)
def qDP (k c:Nat) (i:Nat):Bool:=(btw c k).contains i||only c i
def qDj (b:List Int) (s:Int) (k c:Nat):Option Nat:=(List.range 81).find? fun f=>qAH b s k f c
theorem qjH {b:List Int} {s:Int} {k c f:Nat} (h:qAH b s k f c=true) (hf:f<81):qDj b s k c=some f:=by
 unfold qDj
 cases hp:(List.range 81).find? fun f=>qAH b s k f c with
 | none=>
   rw[List.find?_eq_none] at hp
   exact absurd h (hp f (List.mem_range.mpr hf))
 | some f'=>
   have:=List.find?_some hp
   rw[qWK this h]
theorem qWI {b:List Int} {s:Int} {k c:Nat} (h:∀ f,f<81->qAH b s k f c=false):qDj b s k c=none:=by
 unfold qDj
 rw[List.find?_eq_none]
 intro f hf
 rw[h f (List.mem_range.mp hf)]
 simp
def qBf (b:List Int) (s:Int) (k:Nat) (P:Nat->Bool) (es:List (List Int×List Int)):Prop:=
 ∀ f:Nat,f<81->(qAt es [(f:Int)]=true ↔ ∃ c,c<81 /\ P c=true /\ qAH b s k f c=true) /\ ∀ c,c<81->P c=true->qAH b s k f c=true->qAs es [(f:Int)] [0,0]=prS (qDP k c)
theorem qjK {b:List Int} (hcl:Clean b) (h:List Int) (S:Int) {s:Int} (hs:s=0 \/ s=1) {k:Nat} (hk:k<81) (x2:Nat) (x3 x4:Int) (x14:Nat) (x15:List Int) (N:Nat) (L:List Int) {i:Nat} (hi:i<L.length) (hl:L.length<=1000) {c:Nat} (hc:c<81) (hq:L[i]=(c:Int)) (he:enm b s c=true)
  (es:List (List Int×List Int)) (R:Int->Int->Nat->Int->Int->Nat->Int->Int->List Int->List Int->Int->List (List Int)->List (List Int)->List (List Int×List Int)->Nat->List Int->Nat->List Int->Option (Int×Int×Nat×Int×Int×List Int×List Int×Int×List (List Int)×List (List Int)×List (List Int×List Int)×Nat×List Int)):
  qE4 R s k x2 x3 x4 L.length L.length i b h S (qU b) (qZ b) es x14 x15 N L =
   R s k x2 x3 x4 L.length L.length ((i+1:Nat):Int) b h S (qU b) (qZ b) (match qDj b s k c with | none=>es | some f=>qAE es [(f:Int)] (prS (qDP k c))) x14 x15 N L:=by
 unfold qE4
 have hget:L.getD i 0=L[i]:=qF2 hi
 rw[qi (by omega),qn (by omega) (by omega),tn,hget,hq,qWU hc hk,qA]
 simp only
 rw[qI9 hcl,qA]
 simp only
 rw[qE2,qA]
 simp only
 rw[qS0,qA,w_s (n:=(i:Int)+1) (by omega) (by omega)]
 have inm:∀ f,f<81->qAH b s k f c=true->∀ i,i<81->(((btw c k).contains i&&tk b i)=true↔i=f):=by
  intro f _ hp i _
  rw[qCj] at hp
  rw[Bool.and_eq_true,List.contains_iff_mem]
  constructor
  ·rintro ⟨h1,h2⟩
   apply Classical.byContradiction
   intro hn
   rw[hp.2.2.2.2.2 i h1 hn] at h2;cases h2
  ·rintro rfl;exact⟨hp.2.2.1,hp.2.2.2.1⟩
 by_cases h1:((qAl fun i=>(btw c k).contains i&&tk b i:Nat):Int)=1
 ·rw [q9 h1]
  obtain⟨f,hf,hm⟩:=qGG.mp (by omega:(qAl fun i=>(btw c k).contains i&&tk b i)=1)
  have only_f:∀ f',f'<81->qAH b s k f' c=true->f'=f:=fun f' hf' hp=>(hm f' hf').mp ((inm f' hf' hp f' hf').mpr rfl)
  have none':qAH b s k f c=false->qDj b s k c=none:=by
   intro h0
   apply qWI
   intro f' hf'
   cases hp:qAH b s k f' c with
   | false=>rfl
   | true=>rw[only_f f' hf' hp,h0] at hp;cases hp
  have hmf:=(hm f hf).mpr rfl
  rw[Bool.and_eq_true,List.contains_iff_mem] at hmf
  rw[qOL,qA]
  simp only
  rw[qE2,qA]
  simp only
  rw[qJi,qA]
  by_cases hsd:sd (b.getD f 0)=s
  ·have hE0:isE (fun i=>((btw c k).contains i&&tk b i)&&sdP b s i)=false:=by
    cases hE:isE (fun i=>((btw c k).contains i&&tk b i)&&sdP b s i) with
    | false=>rfl
    | true=>
      have:=qCU.mp hE f hf
      rw[(hm f hf).mpr rfl] at this
      unfold sdP sds at this
      rw[decide_eq_true hs,decide_eq_true hsd] at this
      cases this
   rw[hE0,b_f]
   rw[qMv,qA,qLz,qA,qAU (by omega),tn]
   rw[qMz hf hm,qA]
   simp only
   rw[qJF,qA]
   simp only
   rw[qKc _ hc,qA]
   simp only
   rw[qDb,qA]
   have hh:∀ g:Nat->Bool,has g (k:Int)=g k:=by
    intro g;unfold has;rw[decide_eq_true (by omega),decide_eq_true (by omega),tn];rfl
   rw[hh]
   cases hr1:rch (b.getD c 0) c k (fun i=>tk b i && !only f i) with
   | false=>
     rw[Bool.not_false,b_t,none' ?_]
     ·rfl
     ·cases hp:qAH b s k f c with
      | false=>rfl
      | true=>
        rw[qCj] at hp
        rw[<- hr1,qBl.mpr (.inr ⟨hp.2.1,?_⟩)]
        intro i hi
        by_cases hif:i=f
        ·subst hif;unfold only;simp
        ·rw[hp.2.2.2.2.2 i hi hif];rfl
   | true =>
     rw[Bool.not_true,b_f,qA,qA]
     simp only
     rw[qKc _ hc,qA]
     simp only
     rw[qDb,qA,hh]
     cases hr2:rch (b.getD c 0) c k (tk b) with
     | true=>
       rw[b_t,none' ?_]
       ·rfl
       ·cases hp:qAH b s k f c with
        | false=>rfl
        | true=>
          rw[qCj] at hp
          rcases qBl.mp hr2 with hr | hr
          ·rw[qLa hr] at hmf;cases hmf.1
          ·rw[hr.2 f hmf.1] at hmf;cases hmf.2
     | false=>
       have hn:¬ (qAp (b.getD c 0) c k=true \/ (qAZ (b.getD c 0) c k=true /\ ∀ i∈btw c k,tk b i=false)):=by
        rw[<- qBl,hr2];simp
       simp only[not_or] at hn
       have hp:qAH b s k f c=true:=by
        rw[qCj]
        refine⟨he,((qBl.mp hr1).resolve_left hn.1).1,hmf.1,hmf.2,hsd,fun i hi hif=>?_⟩
        cases htk:tk b i with
        | false=>rfl
        | true=>
          exact absurd ((hm i (qH4 hc hk hi)).mp (by rw[Bool.and_eq_true,List.contains_iff_mem];exact⟨hi,htk⟩)) hif
       rw[b_f,qFx,qA,qjH hp hf]
       rfl
  ·have hE0:isE (fun i=>((btw c k).contains i&&tk b i)&&sdP b s i)=true:=by
    rw[qCU]
    intro i hi
    cases hx:((btw c k).contains i&&tk b i) with
    | false=>rfl
    | true=>
      rw[(hm i hi).mp hx]
      unfold sdP sds
      rw[decide_eq_false hsd];simp
   rw[hE0,b_t,none' ?_]
   ·rfl
   ·cases hp:qAH b s k f c with
    | false=>rfl
    | true=>exact absurd (qCj.mp hp).2.2.2.2.1 hsd
 ·rw [q7 h1,qWI ?_]
  ·rfl
  ·intro f hf
   cases hp:qAH b s k f c with
   | false=>rfl
   | true=>
     have:=qGG.mpr ⟨f,hf,inm f hf hp⟩
     omega
theorem qjI {b:List Int} {s:Int} (hs:s=0 \/ s=1) {k:Nat} (hk:k<81) {P:Nat->Bool} {es:List (List Int×List Int)} (hP:qBf b s k P es) {c:Nat} (hc:c<81):
  qBf b s k (fun i=>P i||decide (i=c)) (match qDj b s k c with | none=>es | some f=>qAE es [(f:Int)] (prS (qDP k c))):=by
 cases hp:qDj b s k c with
 | none=>
   unfold qDj at hp
   rw[List.find?_eq_none] at hp
   intro f hf
   have hno:=hp f (List.mem_range.mpr hf)
   obtain⟨h1,h2⟩:=hP f hf
   refine⟨?_,?_⟩
   ·rw[h1]
    constructor
    ·rintro ⟨c',a,a',a''⟩;exact⟨c',a,by simp[a'],a''⟩
    ·rintro ⟨c',a,a',a''⟩
     rw[Bool.or_eq_true,decide_eq_true_eq] at a'
     rcases a' with a' | rfl
     ·exact⟨c',a,a',a''⟩
     ·exact absurd a'' hno
   ·intro c' a a' a''
    rw[Bool.or_eq_true,decide_eq_true_eq] at a'
    rcases a' with a' | rfl
    ·exact h2 c' a a' a''
    ·exact absurd a'' hno
 | some g=>
   have hg:=List.find?_some (show (List.range 81).find? (fun f=>qAH b s k f c)=some g from hp)
   have hg':g<81:=List.mem_range.mp (List.mem_of_find?_eq_some (show (List.range 81).find? (fun f=>qAH b s k f c)=some g from hp))
   intro f hf
   obtain⟨h1,h2⟩:=hP f hf
   simp only
   rw[qgJ,qgE]
   by_cases hfg:f=g
   ·subst hfg
    rw[decide_eq_true rfl,if_pos rfl]
    refine⟨⟨fun _=>⟨c,hc,by simp,hg⟩,fun _=>rfl⟩,fun c' a _ a''=>?_⟩
    rw[qWJ hs hk hc a hg a'']
   ·have hne:¬ ([(f:Int)]=[(g:Int)]):=by
     intro e
     have:=List.cons.inj e
     omega
    rw[decide_eq_false hne,if_neg hne,Bool.false_or]
    have hno:¬ qAH b s k f c=true:=fun hp'=>hfg (qWK hp' hg)
    refine⟨?_,?_⟩
    ·rw[h1]
     constructor
     ·rintro ⟨c',a,a',a''⟩;exact⟨c',a,by simp[a'],a''⟩
     ·rintro ⟨c',a,a',a''⟩
      rw[Bool.or_eq_true,decide_eq_true_eq] at a'
      rcases a' with a' | rfl
      ·exact⟨c',a,a',a''⟩
      ·exact absurd a'' hno
    ·intro c' a a' a''
     rw[Bool.or_eq_true,decide_eq_true_eq] at a'
     rcases a' with a' | rfl
     ·exact h2 c' a a' a''
     ·exact absurd a'' hno
theorem qId {b:List Int} {s:Int} {k:Nat} {P Q:Nat->Bool} {es:List (List Int×List Int)} (h:∀ i,i<81->P i=Q i) (hP:qBf b s k P es):qBf b s k Q es:=by
 intro f hf
 obtain⟨h1,h2⟩:=hP f hf
 refine⟨?_,fun c hc hq=>h2 c hc (by rw[h c hc];exact hq)⟩
 rw[h1]
 constructor
 ·rintro ⟨c,a,a',a''⟩;exact⟨c,a,by rw[<- h c a];exact a',a''⟩
 ·rintro ⟨c,a,a',a''⟩;exact⟨c,a,by rw[h c a];exact a',a''⟩
theorem qjJ {b:List Int} (hcl:Clean b) (h:List Int) (S:Int) {s:Int} (hs:s=0 \/ s=1) {k:Nat} (hk:k<81) (x2:Nat) (x3 x4:Int) (x14:Nat) (x15:List Int) (N:Nat) (L:List Int) (hl:L.length<=1000) (hL:∀ q∈L,0<=q /\ q<81 /\ enm b s q.toNat=true):∀ (n i:Nat),i+n=L.length->∀ (P:Nat->Bool) (es:List (List Int×List Int)),qBf b s k P es->
  ∃ es',(∀ F,qD5 (F+n+1) s k x2 x3 x4 L.length L.length i b h S (qU b) (qZ b) es x14 x15 N L=some (s,(k:Int),x2,x3,x4,b,h,S,qU b,qZ b,es',x14,x15)) /\ qBf b s k (fun c=>P c||(L.drop i).contains (c:Int)) es':=by
 intro n
 induction n with
 | zero=>
   intro i hi P es hP
   refine⟨es,fun F=>?_,?_⟩
   ·show qE4 (qD5 (F+0)) _ _ _ _ _ _ _ _ _ _ _ _ _ _ _ _ _ _=_
    unfold qE4
    rw[qd (by omega)]
   ·rw[List.drop_eq_nil_of_le (by omega)]
    exact qId (fun i _=>by simp) hP
 | succ n ih=>
   intro i hi P es hP
   have hil:i<L.length:=by omega
   obtain⟨q0,q1,q2⟩:=hL L[i] (List.getElem_mem hil)
   obtain⟨c,hc⟩:∃ c:Nat,L[i]=c:=⟨L[i].toNat,by omega⟩
   rw[hc] at q0 q1 q2
   obtain⟨es',h1,h2⟩:=ih (i+1) (by omega) _ _ (qjI hs hk hP (c:=c) (by omega))
   refine⟨es',fun F=>?_,qId (fun j _=>?_) h2⟩
   ·show qE4 (qD5 (F+n+1)) _ _ _ _ _ _ _ _ _ _ _ _ _ _ _ _ _ _=_
    rw[qjK hcl h S hs hk x2 x3 x4 x14 x15 N L hil hl (by omega) hc q2]
    exact h1 F
   ·rw[List.drop_eq_getElem_cons hil,List.contains_cons,hc,Bool.or_assoc]
    congr 2
    rw[Bool.eq_iff_iff,decide_eq_true_eq,beq_iff_eq]
    omega
def qAY:List Int:=[2,6,7,14,15]
theorem qgx {b:List Int} (hcl:Clean b) (h:List Int) (S:Int) {s:Int} (hs:s=0 \/ s=1) {k:Nat} (hk:k<81):∀ (n i:Nat),i+n=5->∀ (P:Nat->Bool) (es:List (List Int×List Int)),qBf b s k P es->
  ∃ es',(∀ F,qD4 (F+n+1) s k 5 5 i b h S (qU b) (qZ b) es 5 qAY=some (b,h,S,qU b,qZ b,es')) /\ qBf b s k (fun c=>P c||(qAY.drop i).any fun x=>pcs b (pc (1 - s) x) c) es':=by
 intro n
 induction n with
 | zero=>
   intro i hi P es hP
   refine⟨es,fun F=>?_,?_⟩
   ·show qF8 (qD4 (F+0)) _ _ _ _ _ _ _ _ _ _ _ _ _=_
    unfold qF8
    rw[qd (by omega)]
   ·rw[List.drop_eq_nil_of_le (by show 5<=i;omega)]
    exact qId (fun i _=>by simp) hP
 | succ n ih=>
   intro i hi P es hP
   have hil:i<qAY.length:=by show i<5;omega
   obtain⟨x,hx,hget,hdr⟩:∃ x,(x=2 \/ x=6 \/ x=7 \/ x=14 \/ x=15) /\ qAY.getD i 0=x /\ qAY.drop i=x :: qAY.drop (i+1):=by
    have:∀ j:Fin 5,(qAY.getD j.val 0=2 \/ qAY.getD j.val 0=6 \/ qAY.getD j.val 0=7 \/ qAY.getD j.val 0=14 \/ qAY.getD j.val 0=15) /\ qAY.drop j.val=qAY.getD j.val 0 :: qAY.drop (j.val+1):=by decide
    have:=this ⟨i,hil⟩
    exact⟨qAY.getD i 0,this.1,rfl,this.2⟩
   obtain⟨es1,h1,h2⟩:=qjJ hcl h S hs hk 5 5 i 5 qAY (sq (pcs b (pc (1 - s) x))).length (sq (pcs b (pc (1 - s) x))) (by have:=qDv (pcs b (pc (1 - s) x));omega) (by
    intro q hq
    obtain⟨a,a',a''⟩:=qFp hq
    refine⟨a,a',?_⟩
    have:=of_decide_eq_true a''
    unfold enm
    rw[this.2,(qDL (s:=1 - s) (by omega) (k:=x) (by omega) (by omega) (by omega)).1]
    simp) (sq (pcs b (pc (1 - s) x))).length 0 (by omega) P es hP
   obtain⟨es',h3,h4⟩:=ih (i+1) (by omega) _ _ h2
   obtain⟨g,hg⟩:=qk (sq (pcs b (pc (1 - s) x))).length (by have:=qDv (pcs b (pc (1 - s) x));omega)
   refine⟨es',fun F=>?_,qId (fun j hj=>?_) h4⟩
   ·show qF8 (qD4 (F+n+1)) _ _ _ _ _ _ _ _ _ _ _ _ _=_
    unfold qF8
    rw[qi (by omega),qn (by omega) (by omega),tn,hget,w_s (n:=1 - s) (by omega) (by omega),qGs,qA]
    simp only
    rw[qI3,qA]
    simp only
    have:=h1 g
    rw[<- hg] at this
    rw[show qD5 qC s k 5 5 i (sq (pcs b (pc (1 - s) x))).length (Int.ofNat (sq (pcs b (pc (1 - s) x))).length) 0 b h S (qU b) (qZ b) es 5 qAY (sq (pcs b (pc (1 - s) x))).length (sq (pcs b (pc (1 - s) x)))=_ from this,qA]
    simp only
    rw[w_s (n:=(i:Int)+1) (by omega) (by omega)]
    exact h3 F
   ·rw[hdr,List.any_cons,List.drop_zero,<- Bool.or_assoc]
    congr 2
    cases hp:pcs b (pc (1 - s) x) j with
    | true=>rw[List.contains_iff_mem.mpr (qVW hj hp)]
    | false=>
      cases hcn:(sq (pcs b (pc (1 - s) x))).contains (j:Int) with
      | false=>rfl
      | true=>
        have:=(qFp (List.contains_iff_mem.mp hcn)).2.2
        rw[tn,hp] at this
        cases this
theorem qn9 {b:List Int} {s:Int} (_hs:s=0 \/ s=1) {c k:Nat} (he:enm b s c=true) (h:qAZ (b.getD c 0) c k=true):(qAY.any fun x=>pcs b (pc (1 - s) x) c)=true:=by
 have he:=of_decide_eq_true he
 have h:=of_decide_eq_true h
 have hk:kd (b.getD c 0)=2 \/ kd (b.getD c 0)=6 \/ kd (b.getD c 0)=7 \/ kd (b.getD c 0)=14 \/ kd (b.getD c 0)=15:=by
  unfold slK at h;omega
 have hx:=qKU (x:=b.getD c 0) (by omega)
 rw[List.any_eq_true]
 refine⟨kd (b.getD c 0),?_,?_⟩
 ·unfold qAY
  rcases hk with h | h | h | h | h<;>rw[h]<;>simp
 ·unfold pcs
  rw[decide_eq_true_eq,<- he,<- hx]
  refine⟨fun h0=>?_,rfl⟩
  rw[h0,qFI] at hk
  omega
theorem qjM {b:List Int} (hcl:Clean b) (h:List Int) (S:Int) {s:Int} (hs:s=0 \/ s=1):∃ es,qF6 s b h S (qU b) (qZ b)=some es /\
  (kg b s<0->es=[]) /\ (0<=kg b s->qBf b s (kg b s).toNat (fun c=>enm b s c&&(qAY.any fun x=>pcs b (pc (1 - s) x) c)) es):=by
 have hr:=qTx (pcs b (pc s 8))
 unfold qF6
 rw[qNY,show fst (pcs b (pc s 8))=kg b s from rfl,qA]
 by_cases hk:kg b s<0
 ·rw[qi hk]
  exact⟨[],rfl,fun _=>rfl,fun h=>by omega⟩
 ·rw [qd hk]
  have hk1:kg b s<81:=hr.2
  obtain⟨k,hkk⟩:∃ k:Nat,kg b s=k:=⟨(kg b s).toNat,by omega⟩
  rw[hkk]
  have h0:qBf b s k (fun _=>false) []:=by
   intro f hf
   exact⟨⟨fun h=>(by cases h),fun⟨_,_,h,_⟩=>(by cases h)⟩,fun _ _ h=>(by cases h)⟩
  obtain⟨es,h1,h2⟩:=qgx hcl h S hs (k:=k) (by omega) 5 0 rfl _ [] h0
  obtain⟨g,hg⟩:=qk 5 (by omega)
  have:=h1 g
  rw[<- hg] at this
  refine⟨es,?_,fun h=>by omega,fun _=>?_⟩
  ·rw[show qD4 qC s k 5 5 0 b h S (qU b) (qZ b) [] 5 [2,6,7,14,15]=_ from this,qA]
  ·rw[tn]
   refine qId (fun i _=>?_) h2
   rw[List.drop_zero,Bool.false_or]
   cases ha:(qAY.any fun x=>pcs b (pc (1 - s) x) i) with
   | false=>simp
   | true=>
     rw[List.any_eq_true] at ha
     obtain⟨x,hx,hp⟩:=ha
     have:=of_decide_eq_true hp
     unfold qAY at hx
     have hx':x=2 \/ x=6 \/ x=7 \/ x=14 \/ x=15:=by simpa using hx
     unfold enm
     rw[this.2,(qDL (s:=1 - s) (by omega) (k:=x) (by omega) (by omega) (by omega)).1]
     simp
end Go.Kk.Pl
namespace Go.Kk.Pl
def laid (b:List Int) (s f d:Int) (p:Bool):Int:=if d≠0 then 16*s+d else if p=true then 16*s+up_ (kd (at_ b f)) else at_ b f
def was (b:List Int) (s f d:Int):Int:=if d≠0 then 16*s+d else at_ b f
def mb (b:List Int) (s f t d:Int) (p:Bool):List Int:=if d≠0 then put b t (laid b s f d p) else put (put b f 0) t (laid b s f d p)
def mh (b h:List Int) (s t d:Int):List Int:=if d≠0 then qBw h s d (-1) else if at_ b t=0 then h else qBw h s (rw_ (kd (at_ b t))) 1
theorem qLh {k:Int} (h:up_ k≠0):1<=up_ k /\ up_ k<=15 /\ up_ k≠13:=by
 unfold up_ at h ⊢
 split
 ·omega
 ·rename_i h2;rw[if_neg h2] at h;exact absurd rfl h
end Go.Kk.Pl
namespace Go.Kk.Pl
def kof (b h:List Int) (s:Int):Int:=(qEK b h s).getD 0
theorem qgz (b h:List Int) (s:Int):qEK b h s=some (kof b h s):=by
 obtain⟨k,hk,_⟩:=qgr b h s
 unfold kof;rw[hk];rfl
end Go.Kk.Pl
namespace Go.Kk.Pl
def dl (x k:Int):Int:=if rw_ (kd x)=k then 1 else 0
theorem qSy (x:Int) (l:List Int) (k:Int):(cnt (x :: l) k:Int)=cnt l k+dl x k:=by
 unfold cnt dl
 rw[List.countP_cons]
 by_cases h:rw_ (kd x)=k
 ·simp[h]
 ·have:(rw_ (kd x)==k)=false:=by simpa using h
  simp[h]
theorem qep (x k:Int):∀ (l:List Int) (i:Nat),i<l.length->(cnt (l.set i x) k:Int)+dl (l.getD i 0) k=cnt l k+dl x k:=by
 intro l
 induction l with
 | nil=>intro i hi;simp at hi
 | cons y l ih=>
   intro i hi
   cases i with
   | zero=>
     simp only[List.set_cons_zero,qSy,List.getD_cons_zero]
     omega
   | succ i=>
     have:=ih i (by simpa using hi)
     simp only[List.set_cons_succ,qSy,List.getD_cons_succ]
     omega
theorem qgT (x:Int):kd (if kd x=0 then 0 else x)=kd x:=by
 split
 ·rename_i h;rw[h];exact qFI
 ·rfl
theorem qMc {b:List Int} (hl:b.length=81) {q:Int} (hq:0<=q /\ q<81) (x k:Int):(cnt (put b q x) k:Int)+dl (at_ b q) k=cnt b k+dl x k:=by
 unfold put at_
 rw[if_pos hq,if_pos hq]
 have:=qep (if kd x=0 then 0 else x) k b q.toNat (by omega)
 have e:dl (if kd x=0 then 0 else x) k=dl x k:=by unfold dl;rw[qgT]
 rw[e] at this
 exact this
theorem qMn {k:Int} (h:1<=k):dl 0 k=0:=by
 unfold dl
 rw[if_neg]
 rw[qFI]
 unfold rw_
 rw[if_pos (by omega)]
 omega
theorem qLo {n:Int} (h1:-128<=n) (h2:n<=127):IntKind.wrap .i8 n=n:=qBH h1 h2
theorem qpq (n:Int):-128<=IntKind.wrap .i8 n /\ IntKind.wrap .i8 n<=127:=by
 simp[IntKind.wrap,IntKind.signed,IntKind.bits]
 omega
theorem qUN (h:List Int) (s k d:Int):(qBw h s k d).length=h.length:=by simp[qBw]
theorem qTq {h:List Int} (hf:qAq h) (s k d:Int):qAq (qBw h s k d):=by
 intro i
 unfold qBw
 by_cases e:s.toNat*8+k.toNat=i
 ·by_cases hi:i<h.length
  ·subst e
   rw[List.getD_eq_getElem?_getD,List.getElem?_set_self hi]
   exact qpq _
  ·rw[List.getD_eq_getElem?_getD,List.getElem?_eq_none (by simpa using hi)]
   simp
 ·rw[List.getD_eq_getElem?_getD,List.getElem?_set_ne e,<- List.getD_eq_getElem?_getD]
  exact hf i
theorem qGa {h:List Int} (hl:h.length=16) {s k:Int} (hs:s=0 \/ s=1) (k0:0<=k) (k1:k<8) (d:Int) {s' k':Int} (hs':s'=0 \/ s'=1) (k0':0<=k') (k1':k'<8):
  hd_ (qBw h s k d) s' k'=if s'=s /\ k'=k then IntKind.wrap .i8 (hd_ h s k+d) else hd_ h s' k':=by
 by_cases e:s'=s /\ k'=k
 ·obtain⟨rfl,rfl⟩:=e
  rw[if_pos ⟨rfl,rfl⟩]
  unfold qBw
  rw[show hd_ (h.set (s'.toNat*8+k'.toNat) (IntKind.wrap .i8 (hd_ h s' k'+d))) s' k'=(h.set (s'.toNat*8+k'.toNat) (IntKind.wrap .i8 (hd_ h s' k'+d))).getD (s'.toNat*8+k'.toNat) 0 from rfl,
   List.getD_eq_getElem?_getD,List.getElem?_set_self (by rcases hs' with rfl | rfl<;>simp<;>omega)]
  rfl
 ·rw[if_neg e]
  unfold qBw hd_
  rw[List.getD_eq_getElem?_getD,List.getElem?_set_ne (by rcases hs with rfl | rfl<;>rcases hs' with rfl | rfl<;>simp<;>omega),<- List.getD_eq_getElem?_getD]
theorem qTp {h:List Int} (hf:qAq h) (s k:Int):-128<=hd_ h s k /\ hd_ h s k<=127:=hf _
theorem qmQ {k:Int} (h1:1<=k) (h2:k<8):rw_ k=k:=by
 unfold rw_
 rw[if_neg (by omega),if_neg (by omega)]
theorem qmR {k:Int} (h:up_ k≠0):rw_ (up_ k)=rw_ k:=by
 unfold up_ at h ⊢
 split
 ·unfold rw_
  rw[if_neg (by omega),if_pos (by omega),if_neg (by omega),if_neg (by omega)]
  omega
 ·rename_i h2;rw[if_neg h2] at h;exact absurd rfl h
theorem qjG {b h:List Int} {s:Int} (hS:Sound b h s) (hf:qAq h) (hl:h.length=16) {f t d:Int} {p:Bool} (hP:CanP b h s f t d p) {k:Int} (k0:1<=k) (k1:k<8):
  (cnt (mb b s f t d p) k:Int)+hd_ (mh b h s t d) 0 k+hd_ (mh b h s t d) 1 k=cnt b k+hd_ h 0 k+hd_ h 1 k:=by
 have hsd:=hS.side
 by_cases hd:d=0
 ·obtain⟨f0,f1,f2,g1,g2,g3,g4⟩:=hP.move hd
  unfold mb mh
  rw[if_neg (by simpa using hd),if_neg (by simpa using hd)]
  have c1:=qMc hS.clean.len ⟨f0,f1⟩ 0 k
  have c2:=qMc (hS.clean.put f 0).len hP.to_ (laid b s f d p) k
  have e1:at_ (put b f 0) t=at_ b t:=by rw[qJN hS.clean.len ⟨f0,f1⟩,if_neg (Ne.symm f2)]
  rw[e1] at c2
  rw[qMn k0] at c1
  have e2:dl (laid b s f d p) k=dl (at_ b f) k:=by
   unfold laid
   rw[if_neg (by simpa using hd)]
   cases p with
   | false=>rfl
   | true=>
     have hu:=g4 rfl
     obtain⟨u1,u2,u3⟩:=qLh hu
     rw[if_pos rfl]
     unfold dl
     rw[qGc hsd u1 u2 u3,qmR hu]
  rw[e2] at c2
  by_cases ht:at_ b t=0
  ·rw[if_pos ht]
   rw[ht,qMn k0] at c2
   omega
  ·rw[if_neg ht]
   have hk:=(hS.clean.at_ t).resolve_left ht
   obtain⟨r1,r2⟩:=qP2 hk g3
   have hc:=hS.counts _ r1 r2
   have h0:=hS.hands (rw_ (kd (at_ b t))) (by omega) r2
   rw[qGa hl hsd (by omega) r2 1 (.inl rfl) (by omega) k1,qGa hl hsd (by omega) r2 1 (.inr rfl) (by omega) k1]
   by_cases hkr:k=rw_ (kd (at_ b t))
   ·have e3:dl (at_ b t) k=1:=by unfold dl;rw[if_pos hkr.symm]
    rw[e3] at c2
    rcases hsd with rfl | rfl
    ·rw[if_pos ⟨rfl,hkr⟩,if_neg (by omega),qLo (by omega) (by omega),<- hkr]
     omega
    ·rw[if_neg (by omega),if_pos ⟨rfl,hkr⟩,qLo (by omega) (by omega),<- hkr]
     omega
   ·have e3:dl (at_ b t) k=0:=by unfold dl;rw[if_neg (Ne.symm hkr)]
    rw[e3] at c2
    rw[if_neg (fun h=>hkr h.2),if_neg (fun h=>hkr h.2)]
    omega
 ·obtain⟨d0,d1,d2,d3,g1,g2⟩:=hP.drop hd
  unfold mb mh
  rw[if_pos hd,if_pos hd]
  have c1:=qMc hS.clean.len hP.to_ (laid b s f d p) k
  have hl':laid b s f d p=16*s+d:=by unfold laid;rw[if_pos hd]
  rw[g2,qMn k0,hl'] at c1
  rw[hl']
  have hb:=qTp hf s d
  rw[qGa hl hsd (by omega) d1 (-1) (.inl rfl) (by omega) k1,qGa hl hsd (by omega) d1 (-1) (.inr rfl) (by omega) k1]
  have e3:dl (16*s+d) k=if d=k then 1 else 0:=by
   unfold dl
   rw[qGc hsd (by omega) (by omega) (by omega),qmQ (by omega) d1]
  rw[e3] at c1
  by_cases hkd:k=d
  ·subst hkd
   rw[if_pos rfl] at c1
   rcases hsd with rfl | rfl
   ·rw[if_pos ⟨rfl,rfl⟩,if_neg (by omega),qLo (by omega) (by omega)]
    omega
   ·rw[if_neg (by omega),if_pos ⟨rfl,rfl⟩,qLo (by omega) (by omega)]
    omega
  ·rw[if_neg (Ne.symm hkd)] at c1
   rw[if_neg (fun h=>hkd h.2),if_neg (fun h=>hkd h.2)]
   omega
theorem qNw {b:List Int} (hc:Clean b) (s f t d:Int) (p:Bool):Clean (mb b s f t d p):=by
 unfold mb
 split
 ·exact hc.put _ _
 ·exact (hc.put _ _).put _ _
theorem qhh {h:List Int} (hf:qAq h) (b:List Int) (s t d:Int):qAq (mh b h s t d):=by
 unfold mh
 split
 ·exact qTq hf _ _ _
 ·split
  ·exact hf
  ·exact qTq hf _ _ _
theorem qhi {h:List Int} (hl:h.length=16) (b:List Int) (s t d:Int):(mh b h s t d).length=16:=by
 unfold mh
 split
 ·rw[qUN];exact hl
 ·split
  ·exact hl
  ·rw[qUN];exact hl
end Go.Kk.Pl
namespace Go.Kk.Pl
theorem qeO {b h:List Int} {s f t d:Int} {p:Bool} (hm:qCx b h s f t d p=true):(s=0 \/ s=1) /\ CanP b h s f t d p:=by
 unfold qCx at hm
 rw[Bool.and_eq_true,Bool.and_eq_true,decide_eq_true_eq,decide_eq_true_eq] at hm
 obtain⟨h1,hs,h2⟩:=hm
 obtain⟨ht,hd,hmv⟩:=qMX h1
 refine⟨hs,ht,fun d0=>?_,fun d0=>?_⟩
 ·rw[if_pos d0] at h2
  simp only[Bool.and_eq_true,decide_eq_true_eq] at h2
  have:=hd d0
  exact⟨by omega,by omega,this.2.2.1,this.2.2.2,by omega,h2.2⟩
 ·rw[if_neg (by simpa using d0)] at h2
  simp only[Bool.and_eq_true,decide_eq_true_eq,Bool.or_eq_true,Bool.not_eq_true'] at h2
  obtain⟨h3,h4⟩:=hmv d0
  exact⟨h3.1,h3.2,h4,h2.1.1,h2.1.2.1,h2.1.2.2,fun hp=>by
   rcases h2.2 with h5 | h5
   ·rw[hp] at h5;cases h5
   ·exact h5⟩
theorem qFR {b h:List Int} {s f t d:Int} {p:Bool} (hm:qAG b h s f t d p=true):(s=0 \/ s=1) /\ CanP b h s f t d p:=by
 unfold qAG at hm
 rw[Bool.and_eq_true] at hm
 exact qeO hm.1
theorem qNJ {x s:Int} (hs:s=0 \/ s=1) (h:sd x=s):kd x≠0:=by
 intro h0
 rw[qZR h0] at h
 omega
theorem qEO {b h:List Int} {s f t d:Int} {p:Bool} (hs:s=0 \/ s=1) (hP:CanP b h s f t d p):sd (laid b s f d p)=s /\ kd (laid b s f d p)≠0 /\ (laid b s f d p=pc s 8↔d=0 /\ at_ b f=pc s 8):=by
 unfold laid
 by_cases hd:d=0
 ·have hm:=hP.move hd
  rw[if_neg (by simpa using hd)]
  cases p with
  | false=>
    rw[if_neg (by simp)]
    exact⟨hm.2.2.2.1,qNJ hs hm.2.2.2.1,fun h=>⟨hd,h⟩,fun h=>h.2⟩
  | true=>
    rw[if_pos rfl]
    have hu:=hm.2.2.2.2.2.2 rfl
    obtain⟨u1,u2,u3⟩:=qLh hu
    have hx:=qDL hs u1 u2 u3
    rw[qAu hs u1 u2 u3] at hx
    have u8:up_ (kd (at_ b f))≠8:=by unfold up_;split<;>omega
    refine⟨hx.1,by rw[hx.2];omega,fun h=>?_,fun h=>?_⟩
    ·rw[qAu hs (by omega) (by omega) (by omega)] at h
     omega
    ·exfalso
     apply hu
     rw[h.2,(qDL hs (by omega) (by omega) (by omega)).2]
     rfl
 ·have hm:=hP.drop hd
  rw[if_pos hd]
  have hx:=qDL hs (k:=d) (by omega) (by omega) (by omega)
  rw[qAu hs (by omega) (by omega) (by omega)] at hx
  refine⟨hx.1,by rw[hx.2];exact hd,fun h=>?_,fun h=>absurd h.1 hd⟩
  rw[qAu hs (by omega) (by omega) (by omega)] at h
  omega
theorem qDf {b h:List Int} {s f t d:Int} {p:Bool} (hc:Clean b) (hs:s=0 \/ s=1) (hP:CanP b h s f t d p) {i:Nat} (hi:i<81):
  (mb b s f t d p).getD i 0=if i=t.toNat then laid b s f d p else if d=0 /\ i=f.toNat then 0 else b.getD i 0:=by
 have ht:=hP.to_
 have hl:=(qEO hs hP).2.1
 have e1:(mb b s f t d p).getD i 0=at_ (mb b s f t d p) i:=by rw[qAU (by omega),tn]
 have e2:b.getD i 0=at_ b i:=by rw[qAU (by omega),tn]
 rw[e1,e2]
 unfold mb
 by_cases hd:d=0
 ·have hm:=hP.move hd
  rw[if_neg (by simpa using hd),qJN (hc.put f 0).1 ht,if_neg hl,qJN hc.1 ⟨hm.1,hm.2.1⟩]
  by_cases h1:i=t.toNat
  ·rw[if_pos (c:=(i:Int)=t) (by omega),if_pos h1]
  ·rw[if_neg (c:=(i:Int)=t) (by omega),if_neg h1]
   by_cases h2:i=f.toNat
   ·rw[if_pos (c:=(i:Int)=f) (by omega),if_pos (c:=d=0 /\ i=f.toNat) ⟨hd,h2⟩];rfl
   ·rw[if_neg (c:=(i:Int)=f) (by omega),if_neg (fun h=>h2 h.2)]
 ·rw[if_pos hd,qJN hc.1 ht,if_neg hl]
  by_cases h1:i=t.toNat
  ·rw[if_pos h1,if_pos (by omega)]
  ·rw[if_neg h1,if_neg (by omega),if_neg (fun h=>hd h.1)]
def KS (b:List Int) (s:Int) (k:Nat):Prop:=k<81 /\ ∀ i,i<81->(b.getD i 0=pc s 8↔i=k)
theorem pc8 {s:Int} (hs:s=0 \/ s=1):pc s 8=16*s+8:=qAu hs (by omega) (by omega) (by omega)
theorem KS.kg {b:List Int} {s:Int} {k:Nat} (hs:s=0 \/ s=1) (h:KS b s k):kg b s=k:=by
 apply qMz h.1
 intro i hi
 unfold pcs
 rw[decide_eq_true_eq,h.2 i hi,pc8 hs]
 exact⟨fun h=>h.2,fun h=>⟨by omega,h⟩⟩
theorem qJ3 {b h:List Int} {s':Int} (hz:qA6 b h s'=0) {s:Int} (hs:s=0 \/ s=1):∃ k,KS b s k:=by
 have hn:nP b 8=1 /\ nP b 24=1:=by
  unfold qA6 at hz
  split at hz
  ·omega
  ·split at hz
   ·omega
   ·split at hz
    ·omega
    ·split at hz
     ·omega
     ·rename_i h;simpa using h
 have:nP b (pc s 8)=1:=by
  rw[pc8 hs]
  rcases hs with rfl | rfl
  ·exact hn.1
  ·exact hn.2
 obtain⟨k,hk,h⟩:=qGG.mp (show qAl (fun i=>b.getD i 0==pc s 8)=1 from this)
 exact⟨k,hk,fun i hi=>by rw[<- h i hi,beq_iff_eq]⟩
theorem KS.sd {b:List Int} {s:Int} {k:Nat} (hs:s=0 \/ s=1) (h:KS b s k):sd (b.getD k 0)=s /\ kd (b.getD k 0)=8:=by
 rw[(h.2 k h.1).mpr rfl]
 exact qDL hs (by omega) (by omega) (by omega)
theorem qNZ {b h:List Int} {s f t d:Int} {p:Bool} (hc:Clean b) (hs:s=0 \/ s=1) (hP:CanP b h s f t d p) {k:Nat} (hk:KS b s k):
  KS (mb b s f t d p) s (if d=0 /\ f.toNat=k then t.toNat else k):=by
 have ht:=hP.to_
 have hl:=qEO hs hP
 have hkt:k≠t.toNat:=by
  intro e
  have h1:=(hk.sd hs)
  have e2:b.getD k 0=at_ b t:=by rw[qAU ht,e]
  rw[e2] at h1
  by_cases hd:d=0
  ·exact (hP.move hd).2.2.2.2.1 h1.1
  ·rw[(hP.drop hd).2.2.2.2.2,qFI] at h1
   omega
 have hp0:(0:Int)≠pc s 8:=by rw[pc8 hs];omega
 refine⟨by split;omega;exact hk.1,fun i hi=>?_⟩
 rw[qDf hc hs hP hi]
 by_cases h1:i=t.toNat
 ·rw[if_pos h1,hl.2.2]
  by_cases hd:d=0
  ·have hm:=hP.move hd
   rw[qAU ⟨hm.1,hm.2.1⟩,hk.2 _ (by omega)]
   by_cases hfk:f.toNat=k
   ·rw[if_pos ⟨hd,hfk⟩];exact⟨fun _=>h1,fun _=>⟨hd,hfk⟩⟩
   ·rw[if_neg (fun h=>hfk h.2)]
    exact⟨fun h=>absurd h.2 hfk,fun h=>absurd (h.symm.trans h1) hkt⟩
  ·rw[if_neg (fun h=>hd h.1)]
   exact⟨fun h=>absurd h.1 hd,fun h=>absurd (h.symm.trans h1) hkt⟩
 ·rw[if_neg h1]
  by_cases h2:d=0 /\ i=f.toNat
  ·rw[if_pos h2]
   refine⟨fun h=>absurd h hp0,fun h=>?_⟩
   split at h
   ·exact absurd h h1
   ·rename_i h3;exact absurd ⟨h2.1,by omega⟩ h3
  ·rw[if_neg h2,hk.2 i hi]
   split
   ·rename_i h3
    exact⟨fun h=>absurd ⟨h3.1,by omega⟩ h2,fun h=>absurd h h1⟩
   ·exact Iff.rfl
theorem qJ2 {b h:List Int} {s f t d:Int} {p:Bool} (hc:Clean b) (hs:s=0 \/ s=1) (hP:CanP b h s f t d p) {k:Nat} (hk:KS b (1 - s) k):
  KS (mb b s f t d p) (1 - s) k:=by
 have ht:=hP.to_
 have hl:=qEO hs hP
 have hs':1 - s=0 \/ 1 - s=1:=by omega
 have hkt:k≠t.toNat:=by
  intro e
  have h1:=(hk.sd hs')
  have e2:b.getD k 0=at_ b t:=by rw[qAU ht,e]
  rw[e2] at h1
  by_cases hd:d=0
  ·exact (hP.move hd).2.2.2.2.2.1 h1.2
  ·rw[(hP.drop hd).2.2.2.2.2,qFI] at h1
   omega
 have hp0:(0:Int)≠pc (1 - s) 8:=by rw[pc8 hs'];omega
 refine⟨hk.1,fun i hi=>?_⟩
 rw[qDf hc hs hP hi]
 by_cases h1:i=t.toNat
 ·rw[if_pos h1]
  refine⟨fun h=>?_,fun h=>absurd (h.symm.trans h1) hkt⟩
  have:=hl.1
  rw[h,(qDL hs' (by omega) (by omega) (by omega)).1] at this
  omega
 ·rw[if_neg h1]
  by_cases h2:d=0 /\ i=f.toNat
  ·rw[if_pos h2]
   refine⟨fun h=>absurd h hp0,fun h=>?_⟩
   have hm:=hP.move h2.1
   have h3:=(hk.sd hs').1
   rw[<- h,h2.2,<- qAU ⟨hm.1,hm.2.1⟩,hm.2.2.2.1] at h3
   omega
  ·rw[if_neg h2]
   exact hk.2 i hi
theorem qD8 {b:List Int} {s:Int} (hs:s=0 \/ s=1) {k:Nat} (hk:kg b s=k) (h81:k<81) (c:Nat):chs b s c=atk b s k c:=by
 unfold chs onS atk enm
 rw[hk,decide_eq_true (by omega),decide_eq_true (by omega),tn]
 rfl
def fof (f t d:Int):Nat:=if d=0 then f.toNat else t.toNat
theorem qRE {b h:List Int} {s f t d:Int} {p:Bool} (hc:Clean b) (hs:s=0 \/ s=1) (hP:CanP b h s f t d p) {i:Nat} (hi:i<81):tk (mb b s f t d p) i=tk2 b (fof f t d) t.toNat i:=by
 have hl:=qEO hs hP
 unfold tk tk2 fof
 rw[qDf hc hs hP hi]
 by_cases h1:i=t.toNat
 ·rw[if_pos h1,decide_eq_true h1,Bool.true_or,decide_eq_true_eq]
  intro h0
  rw[h0,qFI] at hl
  exact hl.2.1 rfl
 ·rw[if_neg h1,decide_eq_false h1,Bool.false_or]
  by_cases hd:d=0
  ·rw[if_pos hd]
   by_cases h2:i=f.toNat
   ·rw[if_pos ⟨hd,h2⟩,decide_eq_true h2];simp
   ·rw[if_neg (fun h=>h2 h.2),decide_eq_false h2];rfl
  ·rw[if_neg hd,if_neg (fun h=>hd h.1),decide_eq_false h1];rfl
theorem qTZ {b h:List Int} {s f t d:Int} {p:Bool} (hc:Clean b) (hs:s=0 \/ s=1) (hP:CanP b h s f t d p) {c:Nat} (hcc:c<81):enm (mb b s f t d p) s c=(decide (c≠t.toNat)&&enm b s c) /\ (enm (mb b s f t d p) s c=true->(mb b s f t d p).getD c 0=b.getD c 0):=by
 have hl:=qEO hs hP
 unfold enm
 rw[qDf hc hs hP hcc]
 by_cases h1:c=t.toNat
 ·rw[if_pos h1,hl.1,decide_eq_false (p:=s=1 - s) (by omega),decide_eq_false (p:=c≠t.toNat) (by simpa using h1)]
  exact⟨rfl,fun h=>by cases h⟩
 ·rw[if_neg h1,decide_eq_true (p:=c≠t.toNat) h1,Bool.true_and]
  by_cases h2:d=0 /\ c=f.toNat
  ·rw[if_pos h2,qIt]
   have hm:=hP.move h2.1
   rw[h2.2,<- qAU ⟨hm.1,hm.2.1⟩,hm.2.2.2.1,decide_eq_false (p:=(-1:Int)=1 - s) (by omega),decide_eq_false (p:=s=1 - s) (by omega)]
   exact⟨rfl,fun h=>by cases h⟩
  ·rw[if_neg h2]
   exact⟨rfl,fun _=>rfl⟩
theorem qSt {b h:List Int} {s f t d:Int} {p:Bool} (hc:Clean b) (hs:s=0 \/ s=1) (hP:CanP b h s f t d p) {k:Nat} (hk:KS b s k) (hn:¬ (d=0 /\ f.toNat=k)) {c:Nat} (hcc:c<81):
  chs (mb b s f t d p) s c=qDT b s k (fof f t d) t.toNat c:=by
 have hk2:=qNZ hc hs hP hk
 rw[if_neg hn] at hk2
 rw[qD8 hs (hk2.kg hs) hk.1]
 obtain⟨e1,e2⟩:=qTZ hc hs hP hcc
 unfold atk qDT
 cases he:enm (mb b s f t d p) s c with
 | false=>
   rw[he] at e1
   rw[Bool.false_and,<- Bool.and_assoc,<- e1,Bool.false_and]
 | true=>
   rw[<- Bool.and_assoc,<- e1,he,Bool.true_and,Bool.true_and,e2 he]
   exact qWn hcc hk.1 (fun i hi=>qRE hc hs hP hi)
theorem qSs {b h:List Int} {s f t d:Int} {p:Bool} (hc:Clean b) (hs:s=0 \/ s=1) (hP:CanP b h s f t d p) {k:Nat} (hk:KS b s k) (hn:d=0 /\ f.toNat=k) {c:Nat} (hcc:c<81):
  chs (mb b s f t d p) s c=onS b t (1 - s) (fun i=>tk b i && !only f i) c:=by
 have hk2:=qNZ hc hs hP hk
 have ht:=hP.to_
 have hm:=hP.move hn.1
 rw[if_pos hn] at hk2
 rw[qD8 hs (hk2.kg hs) hk2.1]
 obtain⟨e1,e2⟩:=qTZ hc hs hP hcc
 unfold atk onS
 rw[decide_eq_true ht,decide_eq_true (p:=1 - s=0 \/ 1 - s=1) (by omega),Bool.true_and,Bool.true_and]
 show _=(enm b s c&&_)
 by_cases h1:c=t.toNat
 ·rw[e1,decide_eq_false (p:=c≠t.toNat) (by simpa using h1),<- h1,qWo,qWo,Bool.and_false,Bool.and_false]
 ·rw [decide_eq_true (p:=c≠t.toNat) h1,Bool.true_and] at e1
  rw[e1]
  cases he:enm b s c with
  | false=>rfl
  | true=>
    rw[e2 (by rw[e1,he]),Bool.true_and,Bool.true_and,Bool.eq_iff_iff,qBl,qBl]
    have:∀ i∈btw c t.toNat,tk (mb b s f t d p) i=(tk b i && !only f i):=by
     intro i hi
     have hw:=qH5 (by omega) hcc hi
     rw[qRE hc hs hP hw.1]
     unfold tk2 fof only
     rw[decide_eq_false hw.2.1,if_pos hn.1,Bool.false_or,Bool.and_comm]
     congr 2
     rw[decide_eq_decide]
     omega
    constructor
    ·rintro (h | ⟨h,h'⟩)
     ·exact .inl h
     ·exact .inr ⟨h,fun i hi=>by rw[<- this i hi];exact h' i hi⟩
    ·rintro (h | ⟨h,h'⟩)
     ·exact .inl h
     ·exact .inr ⟨h,fun i hi=>by rw[this i hi];exact h' i hi⟩
def qt (b:List Int) (s:Int) (t:Nat):Bool:=(List.range 81).all fun c=>!chs b s c||qDP (kg b s).toNat c t
def qFX (b:List Int) (s:Int) (f t:Nat):Bool:=(List.range 81).all fun c=>!qAH b s (kg b s).toNat f c||qDP (kg b s).toNat c t
def stB (b:List Int) (s:Int) (f t:Nat):Bool:=if (f:Int)=kg b s then isE (onS b t (1 - s) (fun i=>tk b i && !only f i)) else qt b s t&&qFX b s f t
theorem qJE {k c t:Nat}:qDP k c t=true↔t=c \/ t∈btw c k:=by
 unfold qDP only
 rw[Bool.or_eq_true,List.contains_iff_mem,decide_eq_true_eq]
 constructor
 ·rintro (h | h)
  ·exact .inr h
  ·exact .inl (by omega)
 ·rintro (h | h)
  ·exact .inr (by omega)
  ·exact .inl h
theorem qIa {b:List Int} {s:Int} (hs:s=0 \/ s=1) {k:Nat} (hk:KS b s k) {t:Nat}:qt b s t=true ↔ ∀ c,c<81->atk b s k c=true->t=c \/ t∈btw c k:=by
 have hkg:=hk.kg hs
 unfold qt
 rw[List.all_eq_true,hkg,tn]
 constructor
 ·intro h c hc ha
  have:=h c (List.mem_range.mpr hc)
  rw[qD8 hs hkg hk.1,ha,Bool.not_true,Bool.false_or] at this
  exact qJE.mp this
 ·intro h c hc
  rw[qD8 hs hkg hk.1]
  cases ha:atk b s k c with
  | false=>rfl
  | true=>
    rw[Bool.not_true,Bool.false_or]
    exact qJE.mpr (h c (List.mem_range.mp hc) ha)
theorem qKW {b:List Int} {s:Int} (hs:s=0 \/ s=1) {k:Nat} (hk:KS b s k) {f t:Nat}:qFX b s f t=true ↔ ∀ c,c<81->qAH b s k f c=true->t=c \/ t∈btw c k:=by
 unfold qFX
 rw[List.all_eq_true,hk.kg hs,tn]
 constructor
 ·intro h c hc ha
  have:=h c (List.mem_range.mpr hc)
  rw[ha,Bool.not_true,Bool.false_or] at this
  exact qJE.mp this
 ·intro h c hc
  cases ha:qAH b s k f c with
  | false=>rfl
  | true=>
    rw[Bool.not_true,Bool.false_or]
    exact qJE.mpr (h c (List.mem_range.mp hc) ha)
theorem qK3 {b h:List Int} {s f t d:Int} {p:Bool} (hc:Clean b) (hs:s=0 \/ s=1) (hP:CanP b h s f t d p) {k:Nat} (hk:KS b s k):
  (!inC (mb b s f t d p) s)=if d=0 then stB b s f.toNat t.toNat else qt b s t.toNat:=by
 have ht:=hP.to_
 unfold inC
 rw[Bool.not_not]
 by_cases hn:d=0 /\ f.toNat=k
 ·have hm:=hP.move hn.1
  rw[if_pos hn.1]
  unfold stB
  rw[if_pos (by rw[hk.kg hs,hn.2]),Bool.eq_iff_iff,qCU,qCU,show ((t.toNat:Nat):Int)=t by omega,show ((f.toNat:Nat):Int)=f by omega]
  constructor
  ·intro h i hi;rw[<- qSs hc hs hP hk hn hi];exact h i hi
  ·intro h i hi;rw[qSs hc hs hP hk hn hi];exact h i hi
 ·have hf:tk b (fof f t d)=true->sd (b.getD (fof f t d) 0)=s:=by
   unfold fof
   intro htk
   by_cases hd:d=0
   ·have hm:=hP.move hd
    rw[if_pos hd,<- qAU ⟨hm.1,hm.2.1⟩]
    exact hm.2.2.2.1
   ·rw[if_neg hd] at htk
    unfold tk at htk
    rw[<- qAU ht,(hP.drop hd).2.2.2.2.2] at htk
    simp at htk
  have key:=qdF (b:=b) (s:=s) (k:=k) (f:=fof f t d) (t:=t.toNat) hf
  have e:isE (chs (mb b s f t d p) s)=(qt b s t.toNat&&qFX b s (fof f t d) t.toNat):=by
   rw[Bool.eq_iff_iff,qCU,Bool.and_eq_true,qIa hs hk,qKW hs hk,<- key]
   constructor
   ·intro h c hcc;rw[<- qSt hc hs hP hk hn hcc];exact h c hcc
   ·intro h c hcc;rw[qSt hc hs hP hk hn hcc];exact h c hcc
  rw[e]
  by_cases hd:d=0
  ·rw[if_pos hd]
   unfold stB
   have hm:=hP.move hd
   rw[if_neg (by rw[hk.kg hs];intro e;exact hn ⟨hd,by omega⟩)]
   unfold fof
   rw[if_pos hd]
  ·rw[if_neg hd]
   have:qFX b s (fof f t d) t.toNat=true:=by
    rw[qKW hs hk]
    intro c _ hp
    have:=(qCj.mp hp).2.2.2.1
    unfold fof tk at this
    rw[if_neg hd,<- qAU ht,(hP.drop hd).2.2.2.2.2] at this
    simp at this
   rw[this,Bool.and_true]
theorem rw0:rw_ (kd 0)=0:=by decide
theorem qhe {b:List Int} {s f t:Int} {p:Bool} {h:List Int} (hs:s=0 \/ s=1) (hP:CanP b h s f t 0 p):mb b s f t 0 p=(b.set t.toNat (laid b s f 0 p)).set f.toNat 0:=by
 have hm:=hP.move rfl
 have ht:=hP.to_
 unfold mb put
 rw[if_neg (by simp),if_pos ht,if_pos ⟨hm.1,hm.2.1⟩,if_neg (qEO hs hP).2.1,show (if kd 0=0 then (0:Int) else 0)=0 by simp]
 exact List.set_comm _ _ (by omega)
theorem qWR {b h:List Int} {s f t d:Int} {p:Bool} (hc:Clean b) (hs:s=0 \/ s=1) (hP:CanP b h s f t d p):qHF b h s f t d p=some (mb b s f t d p,mh b h s t d,1 - s):=by
 have ht:=hP.to_
 have hw:IntKind.wrap .i8 (1 - s)=1 - s:=w_8 (by omega) (by omega)
 have hin:br (inB s 2)=fun (x y:Option (List Int×List Int×Int))=>x:=by
  funext x y;exact qn (by omega) (by omega)
 have hint:br (inB t 81)=fun (x y:Option (List Int×List Int×Int))=>x:=by
  funext x y;exact qn (by omega) (by omega)
 unfold qHF
 simp only[hin,hint]
 by_cases hd:d=0
 ·subst hd
  have hm:=hP.move rfl
  have hinf:br (inB f 81)=fun (x y:Option (List Int×List Int×Int))=>x:=by
   funext x y;exact qn (by omega) (by omega)
  have hbf:at_ b f=16*s+kd (at_ b f):=by
   have h1:=qKU (qNJ hs hm.2.2.2.1)
   have h2:=qCf (at_ b f)
   have h3:=qNJ hs hm.2.2.2.1
   rw[hm.2.2.2.1,qAu hs (by omega) (by omega) (by omega)] at h1
   exact h1
  have hbb:=qCf (at_ b f)
  have hfin:∀ p',p'=p->br p'
    (some (List.set (List.set (List.set b (Int.toNat t) (List.getD b (Int.toNat f) 0)) (Int.toNat t) (IntKind.wrap IntKind.i8 (List.getD (List.set b (Int.toNat t) (List.getD b (Int.toNat f) 0)) (Int.toNat t) 0+8))) (Int.toNat f) 0))
    (some (List.set (List.set b (Int.toNat t) (List.getD b (Int.toNat f) 0)) (Int.toNat f) 0))=some (mb b s f t 0 p):=by
   rintro p' rfl
   rw[qhe hs hP]
   unfold laid
   rw[if_neg (by simp),<- qAU ⟨hm.1,hm.2.1⟩]
   cases p' with
   | false=>rfl
   | true=>
     have hu:=hm.2.2.2.2.2.2 rfl
     rw[b_t,qFH (by rw[hc.1];omega),if_pos rfl,if_pos rfl,List.set_set]
     have:up_ (kd (at_ b f))=kd (at_ b f)+8:=by
      unfold up_ at hu ⊢
      split
      ·rfl
      ·rename_i h;rw[if_neg h] at hu;exact absurd rfl hu
     rw[w_8 (by omega) (by omega),this,show at_ b f+8=16*s+(kd (at_ b f)+8) by omega]
  rw[q9 rfl,qBn,qA,qZE,qA]
  simp only[hinf,c_8,<- qAU (b:=b) ht,hw]
  unfold mh
  rw[if_neg (by simp)]
  by_cases h0:at_ b t=0
  ·rw[if_pos h0,h0,rw0,q9 rfl]
   have:=hfin p rfl
   cases p with
   | false=>rw[b_f] at this ⊢;rw[Option.some.inj this]
   | true=>rw[b_t] at this ⊢;rw[Option.some.inj this]
  ·rw[if_neg h0]
   have hr:=qP2 ((hc.at_ t).resolve_left h0) hm.2.2.2.2.2.1
   have hinr:br (inB (rw_ (kd (at_ b t))) 8)=fun (x y:Option (List Int×List Int×Int))=>x:=by
    funext x y;exact qn (by omega) (by omega)
   rw[q7 (by omega)]
   simp only[hinr]
   have:=hfin p rfl
   cases p with
   | false=>rw[b_f] at this ⊢;rw[Option.some.inj this];rfl
   | true=>rw[b_t] at this ⊢;rw[Option.some.inj this];rfl
 ·have hm:=hP.drop hd
  have hind:br (inB d 8)=fun (x y:Option (List Int×List Int×Int))=>x:=by
   funext x y;exact qn (by omega) (by omega)
  simp only[hind]
  have hx:=(qEO hs hP).2.1
  unfold laid at hx
  rw[if_pos hd] at hx
  rw[q7 hd,hw,w_s (n:=16*s) (by omega) (by omega),w_s (n:=16*s+d) (by omega) (by omega)]
  unfold mb mh put laid
  rw[if_pos hd,if_pos hd,if_pos ht,if_pos hd,if_neg hx]
  have:conv IntKind.i64 IntKind.i8 (16*s+d)=16*s+d:=by
   unfold conv;exact w_8 (by omega) (by omega)
  rw[this]
  rfl
end Go.Kk.Pl
namespace Go.Kk.Pl
def T_ (_:Nat):Bool:=true
theorem qjL {b:List Int} (hcl:Clean b) (h:List Int) (S:Int) {s:Int} (hs:s=0 \/ s=1) {k:Nat} (hk:KS b s k):∃ es,qF6 s b h S (qU b) (qZ b)=some es /\ qBf b s k (fun _=>true) es:=by
 obtain⟨es,h1,_,h3⟩:=qjM hcl h S hs
 refine⟨es,h1,?_⟩
 have hkg:=hk.kg hs
 have h3:=h3 (by omega)
 rw[hkg,tn] at h3
 intro f hf
 obtain⟨a,a'⟩:=h3 f hf
 have hP:∀ c,qAH b s k f c=true->(enm b s c&&(qAY.any fun x=>pcs b (pc (1 - s) x) c))=true:=by
  intro c hp
  have:=qCj.mp hp
  rw[this.1,qn9 hs this.1 this.2.1];rfl
 refine⟨?_,fun c hc _ hp=>a' c hc (hP c hp) hp⟩
 rw[a]
 constructor
 ·rintro ⟨c,x,_,x'⟩;exact⟨c,x,rfl,x'⟩
 ·rintro ⟨c,x,_,x'⟩;exact⟨c,x,hP c x',x'⟩
theorem qVM {b:List Int} (hcl:Clean b) (h:List Int) {s:Int} (hs:s=0 \/ s=1) {k:Nat} (hk:KS b s k):
  ∃ es chk,qGn b h s (qU b) (qZ b)=some (s,(k:Int),sLo (qt b s),sHi (qt b s),chk,es) /\ qBf b s k (fun _=>true) es:=by
 obtain⟨es,he,hp⟩:=qjL hcl h s hs hk
 have hkg:=hk.kg hs
 have hkg':fst (pcs b (pc s 8))=(k:Int):=hkg
 have ha:∀ c,chs b s c=atk b s k c:=qD8 hs hkg hk.1
 unfold qGn
 rw[qNY,hkg',qA,qJL,qA]
 simp only
 rw[he,qA,qSp hcl h s (by omega),qA]
 simp only
 rw[qS0,qA]
 by_cases n0:((qAl (chs b s):Nat):Int)=0
 ·rw[qm n0]
  have hE:isE (chs b s)=true:=by rw[qMb,decide_eq_true_eq];omega
  have:∀ i,i<81->(fun _:Nat=>true) i=qt b s i:=by
   intro i _
   symm
   show qt b s i=true
   rw[qIa hs hk]
   intro c hc h1
   rw[<- ha,qCU.mp hE c hc] at h1
   cases h1
  have:=qBq this
  rw[this.1,this.2]
  exact⟨es,false,rfl,hp⟩
 ·rw [ql n0]
  by_cases n1:((qAl (chs b s):Nat):Int)=1
  ·obtain⟨f,hf,hm⟩:=qGG.mp (show qAl (chs b s)=1 by omega)
   rw[qm n1,qMv,qA,qMz hf hm,qWU hf hk.1,qA]
   simp only
   rw[qGt,qA]
   simp only
   have:∀ i,i<81->((btw f k).contains i||chs b s i)=qt b s i:=by
    intro i hi
    rw[Bool.eq_iff_iff,Bool.or_eq_true,List.contains_iff_mem,hm i hi,qIa hs hk]
    constructor
    ·intro h1 c hc h2
     rw[<- ha,hm c hc] at h2
     subst h2
     exact h1.elim .inr .inl
    ·intro h1
     exact (h1 f hf (by rw[<- ha];exact (hm f hf).mpr rfl)).elim .inr .inl
   have:=qBq this
   rw[this.1,this.2]
   exact⟨es,true,rfl,hp⟩
  ·rw [ql n1]
   have hE:isE (chs b s)=false:=by
    rw[qMb,decide_eq_false_iff_not];omega
   obtain⟨c,hc,hc'⟩:∃ c,c<81 /\ chs b s c=true:=by
    apply Classical.byContradiction
    intro hno
    have:isE (chs b s)=true:=by
     rw[qCU]
     intro i hi
     cases hx:chs b s i with
     | false=>rfl
     | true=>exact absurd ⟨i,hi,hx⟩ hno
    rw[hE] at this;cases this
   obtain⟨c2,hc2,hc2',hne⟩:∃ c2,c2<81 /\ chs b s c2=true /\ c≠c2:=by
    apply Classical.byContradiction
    intro hno
    apply n1
    rw[qGG.mpr ⟨c,hc,fun i hi=>⟨fun h1=>?_,fun h1=>h1 ▸ hc'⟩⟩]
    ·rfl
    ·apply Classical.byContradiction
     intro hx
     exact hno ⟨i,hi,h1,fun e=>hx e.symm⟩
   have:∀ i,i<81->(fun _:Nat=>false) i=qt b s i:=by
    intro i hi
    symm
    show qt b s i=false
    cases ho:qt b s i with
    | false=>rfl
    | true=>
      rw[qIa hs hk] at ho
      exact (qpM hs hk.1 hc hc2 (by rw[<- ha];exact hc') (by rw[<- ha];exact hc2') hne (ho c hc (by rw[<- ha];exact hc')) (ho c2 hc2 (by rw[<- ha];exact hc2'))).elim
   have:=qBq this
   rw[qBZ,qBY] at this
   exact⟨es,true,by rw[<- this.1,<- this.2],hp⟩
theorem qa7 {b:List Int} (hcl:Clean b) (h:List Int) (S:Int) {s:Int} (hs:s=0 \/ s=1) {k:Nat} (hk:KS b s k) {es:List (List Int×List Int)} (hp:qBf b s k (fun _=>true) es) {f t:Int} (hf:0<=f /\ f<81) (ht:0<=t /\ t<81) (d:Int) (p chk:Bool):
  qGo s (k:Int) (sLo (qt b s)) (sHi (qt b s)) chk f t d p b h S (qU b) (qZ b) es=some (stB b s f.toNat t.toNat,b,h,S,qU b,qZ b,es):=by
 obtain⟨f,rfl⟩:∃ n:Nat,f=n:=⟨f.toNat,by omega⟩
 obtain⟨t,rfl⟩:∃ n:Nat,t=n:=⟨t.toNat,by omega⟩
 rw[tn,tn]
 have hkg:=hk.kg hs
 have hh:∀ g:Nat->Bool,has g (t:Int)=g t:=by
  intro g;unfold has;rw[decide_eq_true (by omega),decide_eq_true (by omega),tn];rfl
 unfold qGo stB
 rw[hkg]
 by_cases hfk:(f:Int)=k
 ·rw[qm hfk,if_pos hfk,qI9 hcl,qA]
  simp only
  rw[qJF,qA]
  simp only
  rw[w_s (n:=1 - s) (by omega) (by omega),qVt,qA]
  simp only
  rw[qJi,qA,hfk]
 ·rw[ql hfk,if_neg hfk,qDb,qA,hh]
  cases ho:qt b s t with
  | false=>rfl
  | true=>
    rw[Bool.not_true,b_f,Bool.true_and]
    obtain⟨h1,h2⟩:=hp f (by omega)
    cases hM:qAt es [(f:Int)] with
    | false=>
      rw[Bool.not_false,b_t]
      have:qFX b s f t=true:=by
       rw[qKW hs hk]
       intro c hc hpin
       rw[h1.mpr ⟨c,hc,rfl,hpin⟩] at hM;cases hM
      rw[this]
    | true=>
      obtain⟨c,hc,_,hpin⟩:=h1.mp hM
      rw[Bool.not_true,b_f,h2 c hc rfl hpin]
      show (ob (qB3 (sLo (qDP k c)) (sHi (qDP k c)) (t:Int)) _)=_
      rw[qDb,qA,hh]
      have:qDP k c t=qFX b s f t:=by
       rw[Bool.eq_iff_iff,qJE,qKW hs hk]
       constructor
       ·intro h3 c' hc' hpin'
        rw[qWJ hs hk.1 hc' hc hpin' hpin];exact h3
       ·intro h3;exact h3 c hc hpin
      rw[this]
def m0 (m:List Int):Int:=m.getD 0 0
def m1 (m:List Int):Int:=m.getD 1 0
def m2 (m:List Int):Int:=m.getD 2 0
def m3 (m:List Int):Bool:=m.getD 3 0 != 0
def Mv4 (m:List Int):Prop:=m=[m0 m,m1 m,m2 m,bi (m3 m)] /\ (0<=m0 m /\ m0 m<81) /\ (0<=m1 m /\ m1 m<81)
theorem qho {b h:List Int} {s f t d p:Int} (hok:MvOK b h s f t d p):Mv4 [f,t,d,p]:=by
 refine⟨?_,hok.fr,hok.tr⟩
 show [f,t,d,p]=[f,t,d,bi (p != 0)]
 rcases hok.pp with h0 | h0<;>rw[h0]<;>rfl
theorem qIX {b h:List Int} (hc:Clean b) {s:Int} (hs:s=0 \/ s=1) {m:List Int} (hm:m∈mvs b h s):Mv4 m /\ qAG b h s (m0 m) (m1 m) (m2 m) (m3 m)=true:=by
 obtain⟨f,t,d,p,rfl,hok⟩:=qhu hc hs hm
 exact⟨qho hok,hok.mov⟩
theorem qKI {b:List Int} (hc:Clean b) (h:List Int) {s:Int} (hs:s=0 \/ s=1) {m:List Int} (hm:m∈qr b s T_):Mv4 m /\ qAG b h s (m0 m) (m1 m) (m2 m) (m3 m)=true /\ m2 m=0:=by
 have h1:=qIX hc hs (h:=h) (m:=m) (List.mem_append_left _ hm)
 obtain⟨f,t,p,rfl⟩:=qhq hm
 exact⟨h1.1,h1.2,rfl⟩
theorem qN3 {b:List Int} (hc:Clean b) {h:List Int} {s:Int} (hs:s=0 \/ s=1) {m:List Int} (hm:m∈qAO b h s T_):Mv4 m /\ qAG b h s (m0 m) (m1 m) (m2 m) (m3 m)=true /\ m0 m=0 /\ 1<=m2 m /\ m2 m<=7 /\ m3 m=false:=by
 have h1:=qIX hc hs (h:=h) (m:=m) (List.mem_append_right _ hm)
 obtain⟨k,t,hk,hk',rfl⟩:=qhr hm
 exact⟨h1.1,h1.2,rfl,by show (1:Int)<=(k:Int);omega,by show (k:Int)<=7;omega,rfl⟩
theorem qN5 (b h:List Int) (s:Int) (G:Nat->Bool):qAO b h s G=(qAO b h s T_).filter fun m=>G (m1 m).toNat:=by
 unfold qAO
 rw[List.filter_flatMap]
 apply qII
 intro k _
 unfold qBX
 split
 ·rfl
 ·rw[List.filter_map]
  unfold sq
  rw[List.filter_map,List.map_map,List.map_map,List.filter_filter]
  congr 1
  apply List.filter_congr
  intro i _
  show (qAm b s k i&&G i)=(G (Int.toNat ((i:Nat):Int))&&(qAm b s k i&&true))
  rw[tn,Bool.and_true,Bool.and_comm]
theorem hdM {m:List Int}:List.headD (List.take 4 m) 0=m0 m /\ List.headD (List.tail (List.take 4 m)) 0=m1 m /\ List.headD (List.tail (List.tail (List.take 4 m))) 0=m2 m /\ (List.headD (List.tail (List.tail (List.tail (List.take 4 m)))) 0 != 0)=m3 m:=⟨hd0 m,hd1 m,hd2 m,by rw[hd3 m];rfl⟩
theorem atL {M:List (List Int)} {i:Nat} (hi:i<M.length):M.getD i []=M[i]:=by rw[List.getD_eq_getElem?_getD,List.getElem?_eq_getElem hi];rfl
def g1 (b:List Int) (s:Int) (m:List Int):Bool:=stB b s (m0 m).toNat (m1 m).toNat
theorem qcu {b:List Int} (hcl:Clean b) (h:List Int) (S:Int) {s:Int} (hs:s=0 \/ s=1) {k:Nat} (hk:KS b s k) {es:List (List Int×List Int)} (hp:qBf b s k (fun _=>true) es) (chk:Bool) (N:Nat) (M:List (List Int)) (hM:∀ m∈M,Mv4 m) (hl:M.length<=100000):∀ (n i:Nat),i+n=M.length->∀ (L:List (List Int)) (x0 x14:Nat),x0=L.length->x14=L.length->L.length+n<=1000000->∀ F,
  qEP (F+n+1) x0 M.length M.length i b h S (qU b) (qZ b) s k (sLo (qt b s)) (sHi (qt b s)) chk x14 L N M es =
   some ((L++(M.drop i).filter (g1 b s)).length,b,h,S,qU b,qZ b,s,(k:Int),sLo (qt b s),sHi (qt b s),chk,(L++(M.drop i).filter (g1 b s)).length,L++(M.drop i).filter (g1 b s),es):=by
 intro n
 induction n with
 | zero=>
   intro i hi L x0 x14 e0 e14 hb F
   show qGl (qEP (F+0)) _ _ _ _ _ _ _ _ _ _ _ _ _ _ _ _ _ _ _=_
   unfold qGl
   rw[qd (by omega),List.drop_eq_nil_of_le (by omega),List.filter_nil,List.append_nil,e0,e14]
 | succ n ih=>
   intro i hi L x0 x14 e0 e14 hb F
   show qGl (qEP (F+n+1)) _ _ _ _ _ _ _ _ _ _ _ _ _ _ _ _ _ _ _=_
   unfold qGl
   have hil:i<M.length:=by omega
   obtain⟨hm1,hm2,hm3⟩:=hM M[i] (List.getElem_mem hil)
   rw[qi (by omega),qn (by omega) (by omega),tn,atL hil]
   simp only[hdM]
   rw[qa7 hcl h S hs hk hp hm2 hm3,qA]
   simp only
   rw[w_s (n:=(i:Int)+1) (by omega) (by omega),List.drop_eq_getElem_cons hil,List.filter_cons]
   show br (g1 b s M[i]) _ _=_
   cases hg:g1 b s M[i] with
   | true=>
     rw[b_t,qCa (by omega),<- hm1]
     rw[tkA e0]
     refine (ih (i+1) (by omega) (L++[M[i]]) (x0+1) (x0+1) (by simp;omega) (by simp;omega) (by simp;omega) F).trans ?_
     simp
   | false=>
     rw[b_f]
     exact ih (i+1) (by omega) L x0 x14 e0 e14 (by omega) F
def pb (b:List Int) (s:Int) (q:Int):List Int:=put b q (16*s+1)
def pmS (b:List Int) (s:Int) (q:Int):Bool:=decide (0<=q /\ q<81)&&(decide (at_ b q=0)&&(chs (pb b s q) (1 - s) q.toNat&&(qr (pb b s q) (1 - s) T_).all fun m=>!g1 (pb b s q) (1 - s) m))
theorem qi3 {b:List Int} (b0 h0:List Int) (S0:Int) (by0 sd0:List (List Int)) (hcl:Clean b) (h:List Int) (S:Int) {s:Int} (hs:s=0 \/ s=1) {k:Nat} (hk:KS b s k) {es:List (List Int×List Int)} (hp:qBf b s k (fun _=>true) es) (chk:Bool) (N:Nat) (M:List (List Int)) (hM:∀ m∈M,Mv4 m) (hl:M.length<=100000):∀ (n i:Nat),i+n=M.length->∀ F,
  qEQ (F+n+1) M.length M.length i b0 h0 S0 by0 sd0 s k (sLo (qt b s)) (sHi (qt b s)) chk N M b h S (qU b) (qZ b) es =
   some (if (M.drop i).all (fun m=>!g1 b s m) then .inr (b0,h0,S0,by0,sd0) else .inl (false,b0,h0,S0,by0,sd0)):=by
 intro n
 induction n with
 | zero=>
   intro i hi F
   show qGm (qEQ (F+0)) _ _ _ _ _ _ _ _ _ _ _ _ _ _ _ _ _ _ _ _ _=_
   unfold qGm
   rw[qd (by omega),List.drop_eq_nil_of_le (by omega)]
   rfl
 | succ n ih=>
   intro i hi F
   show qGm (qEQ (F+n+1)) _ _ _ _ _ _ _ _ _ _ _ _ _ _ _ _ _ _ _ _ _=_
   unfold qGm
   have hil:i<M.length:=by omega
   obtain⟨hm1,hm2,hm3⟩:=hM M[i] (List.getElem_mem hil)
   rw[qi (by omega),qn (by omega) (by omega),tn,atL hil]
   simp only[hdM]
   rw[qa7 hcl h S hs hk hp hm2 hm3,qA]
   simp only
   rw[w_s (n:=(i:Int)+1) (by omega) (by omega),List.drop_eq_getElem_cons hil,List.all_cons]
   show br (g1 b s M[i]) _ _=_
   cases hg:g1 b s M[i] with
   | true=>rw[b_t];rfl
   | false=>
     rw[b_f]
     exact ih (i+1) (by omega) F
theorem qFU (b:List Int) (s q:Int):pb b s q=mb b s 0 q 1 false:=by
 unfold pb mb laid
 rw[if_pos (by simp),if_pos (by simp)]
theorem qOH {b:List Int} {s q:Int} (hs:s=0 \/ s=1) (hq:0<=q /\ q<81) (h0:at_ b q=0):CanP b (List.replicate 16 1) s 0 q 1 false:=by
 refine⟨hq,fun _=>⟨by omega,by omega,rfl,rfl,?_,h0⟩,fun h=>absurd h (by omega)⟩
 rcases hs with rfl | rfl<;>decide
theorem qi2 {b:List Int} (hcl:Clean b) (h:List Int) {s:Int} (hs:s=0 \/ s=1) {k:Nat} (hk:KS b (1 - s) k) (q:Int):qIS q b h s (qU b) (qZ b)=some (pmS b s q):=by
 have hs':1 - s=0 \/ 1 - s=1:=by omega
 have hpc:pc s 1=16*s+1:=qAu hs (by omega) (by omega) (by omega)
 unfold qIS pmS
 rw[qKL,qA,hpc,ql (by omega)]
 by_cases q0:q<0
 ·rw[qi q0,decide_eq_false (p:=0<=q /\ q<81) (by omega)];rfl
 rw[qd q0]
 by_cases q1:q >= 81
 ·rw[qCZ q1,decide_eq_false (p:=0<=q /\ q<81) (by omega)];rfl
 have hq:0<=q /\ q<81:=by omega
 rw[qCB q1,qLz,qA,decide_eq_true hq,Bool.true_and]
 by_cases h0:at_ b q=0
 ·have hP:=qOH hs hq h0
  have hk2:KS (pb b s q) (1 - s) k:=by rw[qFU];exact qJ2 hcl hs hP hk
  have hcl2:Clean (pb b s q):=hcl.put q _
  have w8:IntKind.wrap IntKind.i8 (1 - s)=1 - s:=w_8 (by omega) (by omega)
  rw[q9 h0,decide_eq_true h0,Bool.true_and]
  unfold qJU
  rw[qA]
  simp only
  rw[qWO hcl,qA]
  simp only
  rw[show put b q (16*s+1)=pb b s q from rfl,w8,c_8,qSp hcl2 h (1 - s) (by omega),qA]
  simp only
  rw[qDb,qA]
  have hh:has (chs (pb b s q) (1 - s)) q=chs (pb b s q) (1 - s) q.toNat:=by
   unfold has;rw[decide_eq_true hq.1,decide_eq_true hq.2];rfl
  rw[hh]
  cases hch:chs (pb b s q) (1 - s) q.toNat with
  | false=>rfl
  | true=>
    rw[Bool.not_true,b_f,Bool.true_and]
    obtain⟨es,chk,hl,hp⟩:=qVM hcl2 h hs' hk2
    have hlen:=qN4 (pb b s q) (1 - s) T_
    rw[hl,qA]
    simp only
    rw[qJL,qA]
    simp only
    rw[show (fun _:Nat=>true)=T_ from rfl,qTz hcl2,qA]
    simp only
    obtain⟨g,hg⟩:=qk (qr (pb b s q) (1 - s) T_).length (by omega)
    have:=qi3 b h s (qU b) (qZ b) hcl2 h (1 - s) hs' hk2 hp chk (qr (pb b s q) (1 - s) T_).length (qr (pb b s q) (1 - s) T_) (fun m hm=>(qKI hcl2 h hs' hm).1) (by omega) (qr (pb b s q) (1 - s) T_).length 0 (by omega) g
    rw[<- hg] at this
    refine (congrArg (fun z=>ob z _) (this:qEQ qC (qr (pb b s q) (1 - s) T_).length (Int.ofNat (qr (pb b s q) (1 - s) T_).length) 0 b h s (qU b) (qZ b) (1 - s) k (sLo (qt (pb b s q) (1 - s))) (sHi (qt (pb b s q) (1 - s))) chk (qr (pb b s q) (1 - s) T_).length (qr (pb b s q) (1 - s) T_) (pb b s q) h (1 - s) (qU (pb b s q)) (qZ (pb b s q)) es=_)).trans ?_
    rw[qA,List.drop_zero]
    cases (qr (pb b s q) (1 - s) T_).all fun m=>!g1 (pb b s q) (1 - s) m<;>rfl
 ·rw[q7 h0,decide_eq_false h0];rfl
def g2 (b:List Int) (s:Int) (m:List Int):Bool:=!(decide (m2 m=1)&&pmS b s (m1 m))
theorem qcs {b:List Int} (hcl:Clean b) (h:List Int) {s:Int} (hs:s=0 \/ s=1) {k:Nat} (hk:KS b (1 - s) k) (N:Nat) (M:List (List Int)) (hM:∀ m∈M,Mv4 m) (hl:M.length<=100000):∀ (n i:Nat),i+n=M.length->∀ (L:List (List Int)) (x0 x9:Nat),x0=L.length->x9=L.length->L.length+n<=1000000->∀ F,
  qDd (F+n+1) x0 M.length M.length i b h s (qU b) (qZ b) x9 L N M =
   some ((L++(M.drop i).filter (g2 b s)).length,b,h,s,qU b,qZ b,(L++(M.drop i).filter (g2 b s)).length,L++(M.drop i).filter (g2 b s)):=by
 intro n
 induction n with
 | zero=>
   intro i hi L x0 x9 e0 e9 hb F
   show qGk (qDd (F+0)) _ _ _ _ _ _ _ _ _ _ _ _ _=_
   unfold qGk
   rw[qd (by omega),List.drop_eq_nil_of_le (by omega),List.filter_nil,List.append_nil,e0,e9]
 | succ n ih=>
   intro i hi L x0 x9 e0 e9 hb F
   show qGk (qDd (F+n+1)) _ _ _ _ _ _ _ _ _ _ _ _ _=_
   unfold qGk
   have hil:i<M.length:=by omega
   obtain⟨hm1,hm2,hm3⟩:=hM M[i] (List.getElem_mem hil)
   rw[qi (by omega),qn (by omega) (by omega),tn,atL hil]
   simp only[hdM]
   rw[w_s (n:=(i:Int)+1) (by omega) (by omega),List.drop_eq_getElem_cons hil,List.filter_cons,qCa (by omega),<- hm1,tkA e0]
   have add:g2 b s M[i]=true->qDd (F+n+1) (x0+1) M.length M.length ((i:Int)+1) b h s (qU b) (qZ b) (x0+1) (L++[M[i]]) N M =
    some ((L++if g2 b s M[i]=true then M[i] :: (M.drop (i+1)).filter (g2 b s) else (M.drop (i+1)).filter (g2 b s)).length,b,h,s,qU b,qZ b,(L++if g2 b s M[i]=true then M[i] :: (M.drop (i+1)).filter (g2 b s) else (M.drop (i+1)).filter (g2 b s)).length,L++if g2 b s M[i]=true then M[i] :: (M.drop (i+1)).filter (g2 b s) else (M.drop (i+1)).filter (g2 b s)):=by
    intro hg
    refine (ih (i+1) (by omega) (L++[M[i]]) (x0+1) (x0+1) (by simp;omega) (by simp;omega) (by simp;omega) F).trans ?_
    rw[if_pos hg]
    simp
   by_cases hd:m2 M[i]=1
   ·rw[qm hd,qi2 hcl h hs hk,qA]
    cases hpm:pmS b s (m1 M[i]) with
    | true=>
      have hg:g2 b s M[i]=false:=by unfold g2;rw[decide_eq_true hd,hpm];rfl
      rw[b_t,hg]
      exact ih (i+1) (by omega) L x0 x9 e0 e9 (by omega) F
    | false=>
      have hg:g2 b s M[i]=true:=by unfold g2;rw[hpm];simp
      rw[b_f]
      exact add hg
   ·have hg:g2 b s M[i]=true:=by unfold g2;rw[decide_eq_false hd];rfl
    rw[ql hd]
    exact add hg
def lgL (b h:List Int) (s:Int):List (List Int):=(qr b s T_).filter (g1 b s)++(qAO b h s (qt b s)).filter (g2 b s)
theorem qg6 {b:List Int} (hcl:Clean b) (h:List Int) {s:Int} (hs:s=0 \/ s=1) {k k':Nat} (hk:KS b s k) (hk':KS b (1 - s) k'):qDc b h s (qU b) (qZ b)=some ((lgL b h s).length,b,h,s,qU b,qZ b,(lgL b h s).length,lgL b h s):=by
 unfold qDc
 obtain⟨es,chk,hl,hp⟩:=qVM hcl h hs hk
 have hlen:=qN4 b s T_
 have hlen2:=qVg b h s (qt b s)
 have hlen3:=List.length_filter_le (g1 b s) (qr b s T_)
 rw[hl,qA]
 simp only
 rw[qJL,qA]
 simp only
 rw[show (fun _:Nat=>true)=T_ from rfl,qTz hcl,qA]
 simp only
 obtain⟨g,hg⟩:=qk (qr b s T_).length (by omega)
 have:=qcu hcl h s hs hk hp chk (qr b s T_).length (qr b s T_) (fun m hm=>(qKI hcl h hs hm).1) (by omega) (qr b s T_).length 0 (by omega) [] 0 0 rfl rfl (by simp only[List.length_nil];omega) g
 rw[<- hg,List.drop_zero,List.nil_append] at this
 rw[show qEP qC 0 (qr b s T_).length (Int.ofNat (qr b s T_).length) 0 b h s (qU b) (qZ b) s k (sLo (qt b s)) (sHi (qt b s)) chk 0 [] (qr b s T_).length (qr b s T_) es=_ from this,qA]
 simp only
 rw[qfs hcl,qA]
 simp only
 have hM:∀ m∈qAO b h s (qt b s),Mv4 m:=by
  intro m hm
  rw[qN5] at hm
  exact (qN3 hcl hs (List.mem_filter.mp hm).1).1
 obtain⟨g,hg⟩:=qk (qAO b h s (qt b s)).length (by omega)
 have:=qcs hcl h hs hk' (qAO b h s (qt b s)).length (qAO b h s (qt b s)) hM (by omega) (qAO b h s (qt b s)).length 0 (by omega) ((qr b s T_).filter (g1 b s)) _ _ rfl rfl (by omega) g
 rw[<- hg,List.drop_zero] at this
 rw[show qDd qC ((qr b s T_).filter (g1 b s)).length (qAO b h s (qt b s)).length (Int.ofNat (qAO b h s (qt b s)).length) 0 b h s (qU b) (qZ b) ((qr b s T_).filter (g1 b s)).length ((qr b s T_).filter (g1 b s)) (qAO b h s (qt b s)).length (qAO b h s (qt b s))=_ from this,qA]
 rfl
def mbM (b:List Int) (s:Int) (m:List Int):List Int:=mb b s (m0 m) (m1 m) (m2 m) (m3 m)
def mhM (b h:List Int) (s:Int) (m:List Int):List Int:=mh b h s (m1 m) (m2 m)
def qBa (b:List Int) (s:Int) (m:List Int):Bool:=!inC (mbM b s m) s
def qI7 (b h:List Int) (s:Int):Bool:=(mvs b h s).all fun m=>!qBa b s m
def qCg (b h:List Int) (s:Int) (m:List Int):Bool:=qBa b s m&&(decide (m2 m≠1) || !(inC (mbM b s m) (1 - s)&&qI7 (mbM b s m) (mhM b h s m) (1 - s)))
theorem qZM {b h:List Int} {s:Int} (hc:Clean b) (hs:s=0 \/ s=1) {m:List Int} (hm:qAG b h s (m0 m) (m1 m) (m2 m) (m3 m)=true):qHN b h s (m0 m) (m1 m) (m2 m) (m3 m)=some (qBa b s m):=by
 unfold qHN
 rw[qWR hc hs (qFR hm).2,qA]
 simp only
 rw[qPs _ _ _ hs,qA]
 rfl
theorem qmG {b h:List Int} (hc:Clean b) {s:Int} (hs:s=0 \/ s=1) (N:Nat) (M:List (List Int)) (hM:∀ m∈M,qAG b h s (m0 m) (m1 m) (m2 m) (m3 m)=true) (hl:M.length<=100000):∀ (n i:Nat),i+n=M.length->∀ F,
  qEk (F+n+1) M.length i b h s N M=some (if (M.drop i).all (fun m=>!qBa b s m) then .inr () else .inl false):=by
 intro n
 induction n with
 | zero=>
   intro i hi F
   show qHO (qEk (F+0)) _ _ _ _ _ _ _=_
   unfold qHO
   rw[qd (by simp only[Int.ofNat_eq_natCast];omega),List.drop_eq_nil_of_le (by omega)]
   rfl
 | succ n ih=>
   intro i hi F
   show qHO (qEk (F+n+1)) _ _ _ _ _ _ _=_
   unfold qHO
   have hil:i<M.length:=by omega
   rw[qi (by simp only[Int.ofNat_eq_natCast];omega),qn (by omega) (by omega),tn,atL hil]
   simp only[hdM]
   rw[qZM hc hs (hM _ (List.getElem_mem hil)),qA,w_s (n:=(i:Int)+1) (by omega) (by omega),List.drop_eq_getElem_cons hil,List.all_cons]
   cases hg:qBa b s M[i] with
   | true=>rw[b_t];rfl
   | false=>
     rw[b_f]
     exact ih (i+1) (by omega) F
theorem qmH {b:List Int} (hc:Clean b) (h:List Int) {s:Int} (hs:s=0 \/ s=1):qIq b h s=some (qI7 b h s):=by
 unfold qIq
 rw[qZA b h hs,qA,<- qN6 hc h hs]
 simp only
 have hlen:=qVj b h s
 obtain⟨g,hg⟩:=qk (mvs b h s).length (by omega)
 have:=qmG hc hs (mvs b h s).length (mvs b h s) (fun m hm=>(qIX hc hs hm).2) (by omega) (mvs b h s).length 0 (by omega) g
 rw[<- hg,List.drop_zero] at this
 rw[show qEk qC (mvs b h s).length 0 b h s (mvs b h s).length (mvs b h s)=_ from this,qA]
 unfold qI7
 cases (mvs b h s).all fun m=>!qBa b s m<;>rfl
theorem qmE {b h:List Int} {s:Int} (hc:Clean b) (hs:s=0 \/ s=1) {m:List Int} (hm:qAG b h s (m0 m) (m1 m) (m2 m) (m3 m)=true):qIp b h s (m0 m) (m1 m) (m2 m) (m3 m)=some (qCg b h s m):=by
 have hs':1 - s=0 \/ 1 - s=1:=by omega
 unfold qIp qCg
 rw[qZM hc hs hm,qA]
 cases qBa b s m with
 | false=>rfl
 | true=>
   rw[Bool.not_true,b_f,Bool.true_and]
   by_cases hd:m2 m=1
   ·rw[q9 hd,decide_eq_false (p:=m2 m≠1) (by simpa using hd),Bool.false_or,qWR hc hs (qFR hm).2,qA]
    simp only
    rw[qPs _ _ _ hs',qA]
    show (br (!inC (mbM b s m) (1 - s)) _ _)=_
    cases inC (mbM b s m) (1 - s) with
    | false=>rfl
    | true=>
      rw[Bool.not_true,b_f,qmH (qNw hc _ _ _ _ _) _ hs',qA]
      rfl
   ·rw[q7 hd,decide_eq_true (p:=m2 m≠1) hd];rfl
theorem qja {b h:List Int} (hc:Clean b) {s:Int} (hs:s=0 \/ s=1) (N:Nat) (M:List (List Int)) (hM:∀ m∈M,Mv4 m /\ qAG b h s (m0 m) (m1 m) (m2 m) (m3 m)=true) (hl:M.length<=100000):∀ (n i:Nat),i+n=M.length->∀ (L:List (List Int)) (x0 x6:Nat),x0=L.length->x6=L.length->L.length+n<=1000000->∀ F,
  qEj (F+n+1) x0 M.length i b h s x6 L N M=some ((L++(M.drop i).filter (qCg b h s)).length,(L++(M.drop i).filter (qCg b h s)).length,L++(M.drop i).filter (qCg b h s)):=by
 intro n
 induction n with
 | zero=>
   intro i hi L x0 x6 e0 e6 hb F
   show qHM (qEj (F+0)) _ _ _ _ _ _ _ _ _ _=_
   unfold qHM
   rw[qd (by simp only[Int.ofNat_eq_natCast];omega),List.drop_eq_nil_of_le (by omega),List.filter_nil,List.append_nil,e0,e6]
 | succ n ih=>
   intro i hi L x0 x6 e0 e6 hb F
   show qHM (qEj (F+n+1)) _ _ _ _ _ _ _ _ _ _=_
   unfold qHM
   have hil:i<M.length:=by omega
   obtain⟨hm1,hm2⟩:=hM M[i] (List.getElem_mem hil)
   rw[qi (by simp only[Int.ofNat_eq_natCast];omega),qn (by omega) (by omega),tn,atL hil]
   simp only[hdM]
   rw[qmE hc hs hm2,qA,w_s (n:=(i:Int)+1) (by omega) (by omega),List.drop_eq_getElem_cons hil,List.filter_cons,qn (by omega) (by omega)]
   cases hg:qCg b h s M[i] with
   | true=>
     rw[b_t,qCa (by omega),<- hm1.1,tkA e0]
     refine (ih (i+1) (by omega) (L++[M[i]]) (x0+1) (x0+1) (by simp;omega) (by simp;omega) (by simp;omega) F).trans ?_
     simp
   | false=>
     rw[b_f]
     exact ih (i+1) (by omega) L x0 x6 e0 e6 (by omega) F
def rlL (b h:List Int) (s:Int):List (List Int):=(mvs b h s).filter (qCg b h s)
theorem qmD {b:List Int} (hc:Clean b) (h:List Int) {s:Int} (hs:s=0 \/ s=1):qHL b h s=some ((rlL b h s).length,(rlL b h s).length,rlL b h s):=by
 unfold qHL
 rw[qZA b h hs,qA,<- qN6 hc h hs]
 simp only
 have hlen:=qVj b h s
 obtain⟨g,hg⟩:=qk (mvs b h s).length (by omega)
 have:=qja hc hs (mvs b h s).length (mvs b h s) (fun m hm=>qIX hc hs hm) (by omega) (mvs b h s).length 0 (by omega) [] 0 0 rfl rfl (by simp only[List.length_nil];omega) g
 rw[<- hg,List.drop_zero,List.nil_append] at this
 rw[show qEj qC 0 (mvs b h s).length 0 b h s 0 [] (mvs b h s).length (mvs b h s)=_ from this,qA]
 rfl
end Go.Kk.Pl
namespace Go.Kk.Pl
theorem qeg {b:List Int} (hc:Clean b) {s:Int} (hs:s=0 \/ s=1) {k':Nat} (hk':KS b (1 - s) k') (hno:inC b (1 - s)=false) {q:Int} (hq:0<=q /\ q<81) (h0:at_ b q=0) {c:Nat} (hcc:c<81) (hch:chs (pb b s q) (1 - s) c=true):c=q.toNat:=by
 have hs':1 - s=0 \/ 1 - s=1:=by omega
 have hP:=qOH hs hq h0
 have hk2:KS (pb b s q) (1 - s) k':=by rw[qFU];exact qJ2 hc hs hP hk'
 apply Classical.byContradiction
 intro hne
 rw[qD8 hs' (hk2.kg hs') hk2.1] at hch
 have hg:(pb b s q).getD c 0=b.getD c 0:=by
  rw[qFU,qDf hc hs hP hcc,if_neg hne,if_neg (by simp)]
 have ha:atk b (1 - s) k' c=true:=by
  simp only[atk,enm,Bool.and_eq_true] at hch ⊢
  rw[hg] at hch
  refine⟨hch.1,?_⟩
  rw[qBl] at hch ⊢
  refine hch.2.imp id fun hh=>⟨hh.1,fun i hi=>?_⟩
  have:=hh.2 i hi
  rw[qFU,qRE hc hs hP (qH4 hcc hk'.1 hi)] at this
  unfold tk2 fof at this
  simp only[Bool.or_eq_false_iff,decide_eq_false_iff_not] at this
  have h2:=this.2
  rw[if_neg (by simp),decide_eq_false this.1] at h2
  simpa using h2
 unfold inC at hno
 have hE:isE (chs b (1 - s))=true:=by simpa using hno
 have:=qCU.mp hE c hcc
 rw[qD8 hs' (hk'.kg hs') hk'.1,ha] at this
 cases this
theorem qhd {b:List Int} (hc:Clean b) {s:Int} (hs:s=0 \/ s=1) {k':Nat} (hk':KS b (1 - s) k') (hno:inC b (1 - s)=false) {q:Int} (hq:0<=q /\ q<81) (h0:at_ b q=0) (hh:List Int):
  pmS b s q=(inC (pb b s q) (1 - s)&&qI7 (pb b s q) hh (1 - s)):=by
 have hs':1 - s=0 \/ 1 - s=1:=by omega
 have hP:=qOH hs hq h0
 have hk2:KS (pb b s q) (1 - s) k':=by rw[qFU];exact qJ2 hc hs hP hk'
 have hc2:Clean (pb b s q):=hc.put q _
 have hq81:q.toNat<81:=by omega
 have e1:inC (pb b s q) (1 - s)=chs (pb b s q) (1 - s) q.toNat:=by
  unfold inC
  cases hch:chs (pb b s q) (1 - s) q.toNat with
  | true=>
    cases hE:isE (chs (pb b s q) (1 - s)) with
    | false=>rfl
    | true=>rw[qCU.mp hE _ hq81] at hch;cases hch
  | false=>
    have:isE (chs (pb b s q) (1 - s))=true:=by
     rw[qCU]
     intro i hi
     cases hx:chs (pb b s q) (1 - s) i with
     | false=>rfl
     | true=>rw[qeg hc hs hk' hno hq h0 hi hx] at hx;rw[hx] at hch;cases hch
    rw[this];rfl
 unfold pmS
 rw[decide_eq_true hq,decide_eq_true h0,Bool.true_and,Bool.true_and,e1]
 cases hch:chs (pb b s q) (1 - s) q.toNat with
 | false=>rfl
 | true =>
   rw[Bool.true_and,Bool.true_and]
   unfold qI7
   rw[show mvs (pb b s q) hh (1 - s)=qr (pb b s q) (1 - s) T_++qAO (pb b s q) hh (1 - s) T_ from rfl,List.all_append]
   have hB:((qr (pb b s q) (1 - s) T_).all fun m=>!g1 (pb b s q) (1 - s) m)=(qr (pb b s q) (1 - s) T_).all fun m=>!qBa (pb b s q) (1 - s) m:=by
    rw[Bool.eq_iff_iff,List.all_eq_true,List.all_eq_true]
    have:∀ m∈qr (pb b s q) (1 - s) T_,g1 (pb b s q) (1 - s) m=qBa (pb b s q) (1 - s) m:=by
     intro m hm
     obtain⟨_,a2,a3⟩:=qKI hc2 hh hs' hm
     have:=qK3 hc2 hs' (qFR a2).2 hk2
     unfold qBa mbM g1
     rw[this,if_pos a3]
    constructor
    ·intro h m hm;rw[<- this m hm];exact h m hm
    ·intro h m hm;rw[this m hm];exact h m hm
   have hD:((qAO (pb b s q) hh (1 - s) T_).all fun m=>!qBa (pb b s q) (1 - s) m)=true:=by
    rw[List.all_eq_true]
    intro m hm
    obtain⟨_,a2,_,a4,_,_⟩:=qN3 hc2 hs' hm
    have hPm:=(qFR a2).2
    have:=qK3 hc2 hs' hPm hk2
    unfold qBa mbM
    rw[this,if_neg (by omega),Bool.not_eq_true']
    cases ho:qt (pb b s q) (1 - s) (m1 m).toNat with
    | false=>rfl
    | true=>
      exfalso
      rw[qIa hs' hk2] at ho
      rw[qD8 hs' (hk2.kg hs') hk2.1] at hch
      have hgq:(pb b s q).getD q.toNat 0=16*s+1:=by
       rw[qFU,qDf hc hs hP hq81,if_pos rfl]
       unfold laid
       rw[if_pos (by simp)]
      rcases ho _ hq81 hch with h1 | h1
      ·have h2:=(hPm.drop (by omega)).2.2.2.2.2
       rw[qAU hPm.to_,h1,hgq] at h2
       omega
      ·simp only[atk,Bool.and_eq_true] at hch
       rcases qBl.mp hch.2 with h2 | h2
       ·rw[qLa h2] at h1;cases h1
       ·have h3:=of_decide_eq_true h2.1
        rw[hgq,qGc hs (by omega) (by omega) (by omega)] at h3
        unfold slK at h3
        omega
   rw[hB,hD,Bool.and_true]
theorem qGw {b h:List Int} {s:Int} (hl:b.length=81) (hz:qCu b h s=0):Clean b /\ (s=0 \/ s=1) /\ inC b (1 - s)=false /\ ∃ k k',KS b s k /\ KS b (1 - s) k':=by
 have h1:qA6 b h s=0 /\ inC b (1 - s)=false:=by
  unfold qCu at hz
  split at hz
  ·rename_i h;exact absurd hz h
  ·rename_i h
   refine⟨by simpa using h,?_⟩
   cases hi:inC b (1 - s) with
   | false=>rfl
   | true=>rw[hi] at hz;simp at hz
 obtain⟨hc,hs⟩:=qJc hl h1.1
 obtain⟨k,hk⟩:=qJ3 h1.1 hs
 obtain⟨k',hk'⟩:=qJ3 h1.1 (s:=1 - s) (by omega)
 exact⟨hc,hs,h1.2,k,k',hk,hk'⟩
theorem qVL {b:List Int} (hc:Clean b) (h:List Int) {s:Int} (hs:s=0 \/ s=1) (hno:inC b (1 - s)=false) {k k':Nat} (hk:KS b s k) (hk':KS b (1 - s) k'):lgL b h s=rlL b h s:=by
 unfold lgL rlL
 rw[show mvs b h s=qr b s T_++qAO b h s T_ from rfl,List.filter_append,qN5,List.filter_filter]
 congr 1
 ·apply List.filter_congr
  intro m hm
  obtain⟨_,a2,a3⟩:=qKI hc h hs hm
  have:=qK3 hc hs (qFR a2).2 hk
  unfold qCg qBa mbM g1
  rw[this,if_pos a3,decide_eq_true (p:=m2 m≠1) (by omega),Bool.true_or,Bool.and_true]
 ·apply List.filter_congr
  intro m hm
  obtain⟨_,a2,a3,a4,a5,a6⟩:=qN3 hc hs hm
  have hP:=(qFR a2).2
  have:=qK3 hc hs hP hk
  unfold qCg qBa g2
  rw[show inC (mbM b s m) s=inC (mb b s (m0 m) (m1 m) (m2 m) (m3 m)) s from rfl,this,if_neg (by omega)]
  cases ho:qt b s (m1 m).toNat with
  | false=>simp
  | true=>
    rw[Bool.and_true,Bool.true_and]
    by_cases hd:m2 m=1
    ·have hdr:=hP.drop (by omega)
     rw[decide_eq_true hd,decide_eq_false (p:=m2 m≠1) (by simpa using hd),Bool.true_and,Bool.false_or,qhd hc hs hk' hno hP.to_ hdr.2.2.2.2.2 (mhM b h s m)]
     have:mbM b s m=pb b s (m1 m):=by
      unfold mbM
      rw[a3,hd,a6,qFU]
     rw[this]
    ·rw[decide_eq_false hd,decide_eq_true (p:=m2 m≠1) hd];rfl
theorem qHx (p:Bool):(bi p != 0)=p:=by cases p<;>rfl
theorem qhN {b:List Int} (_hc:Clean b) {h:List Int} {s:Int} (_hs:s=0 \/ s=1) {m:List Int} (hm:m∈lgL b h s):m∈mvs b h s:=by
 unfold lgL at hm
 rw[List.mem_append] at hm
 rcases hm with hm | hm
 ·exact List.mem_append_left _ (List.mem_filter.mp hm).1
 ·have:=(List.mem_filter.mp hm).1
  rw[qN5] at this
  exact List.mem_append_right _ (List.mem_filter.mp this).1
end Go.Kk.Pl
namespace Go.Kk.Pl
end Go.Kk.Pl
namespace Go.Kk.Pl
theorem qVE {b:List Int} (hc:Clean b) {h:List Int} {s:Int} (hs:s=0 \/ s=1) {k k':Nat} (hno:inC b (1 - s)=false) (hk:KS b s k) (hk':KS b (1 - s) k') {m:List Int} (hm:m∈lgL b h s):
  Mv4 m /\ qAG b h s (m0 m) (m1 m) (m2 m) (m3 m)=true /\ qCg b h s m=true /\ qBa b s m=true:=by
 have h1:=qIX hc hs (qhN hc hs hm)
 rw[qVL hc h hs hno hk hk'] at hm
 have h2:=(List.mem_filter.mp hm).2
 refine⟨h1.1,h1.2,h2,?_⟩
 unfold qCg at h2
 rw[Bool.and_eq_true] at h2
 exact h2.1
end Go.Kk.Pl
namespace Go.Kk.Pl
theorem qD3 {p:Nat->Bool} {a n:Nat}:(List.range' a n).any p=false ↔ ∀ i,a<=i->i<a+n->p i=false:=by
 rw[List.any_eq_false]
 constructor
 ·intro h i h1 h2
  have:=h i (List.mem_range'_1.mpr ⟨h1,h2⟩)
  simpa using this
 ·intro h i hi
  obtain⟨h1,h2⟩:=List.mem_range'_1.mp hi
  rw[h i h1 h2];simp
structure ChkP (b h:List Int) (s:Int):Prop where
 side:s=0 \/ s=1
 good:∀ i,i<81->bsP b i=false
 hands:∀ k,k<8->∀ j,j<2->bsH h k j=false
 kings:nP b 8=1 /\ nP b 24=1
 over:∀ k,1<=k->k<8->qDi b h k=false
 dead:∀ i,i<81->qBR (b.getD i 0) i=false
 nifu:∀ f,f<9->qCW b f=false
theorem qSr {b h:List Int} {s:Int}:qA6 b h s=0↔ChkP b h s:=by
 constructor
 ·intro hz
  unfold qA6 at hz
  split at hz
  ·omega
  rename_i h1
  split at hz
  ·omega
  rename_i h2
  split at hz
  ·omega
  rename_i h3
  split at hz
  ·omega
  rename_i h4
  split at hz
  ·omega
  rename_i h5
  split at hz
  ·omega
  rename_i h6
  split at hz
  ·omega
  rename_i h7
  rw[Bool.not_eq_true,qD3] at h2 h3 h5 h6 h7
  refine⟨by omega,fun i hi=>h2 i (by omega) (by omega),fun k hk j hj=>?_,by simpa using h4,fun k k1 k2=>h5 k k1 (by omega),fun i hi=>h6 i (by omega) (by omega),fun f hf=>h7 f (by omega) (by omega)⟩
  have:=h3 k (by omega) (by omega)
  rw[qD3] at this
  exact this j (by omega) (by omega)
 ·intro ⟨a1,a2,a3,a4,a5,a6,a7⟩
  unfold qA6
  rw[if_neg (by omega),if_neg (by rw[qD3.mpr fun i _ hi=>a2 i (by omega)];simp),if_neg (by rw[qD3.mpr fun k _ hk=>qD3.mpr fun j _ hj=>a3 k (by omega) j (by omega)];simp),if_neg (by simpa using a4),
   if_neg (by rw[qD3.mpr fun k k1 hk=>a5 k k1 (by omega)];simp),if_neg (by rw[qD3.mpr fun i _ hi=>a6 i (by omega)];simp),if_neg (by rw[qD3.mpr fun i _ hi=>a7 i (by omega)];simp)]
theorem qpN {n:Nat} {p:Nat->Bool}:(List.range n).countP p<=1 ↔ ∀ i j,i<n->j<n->p i=true->p j=true->i=j:=by
 rw[List.countP_eq_length_filter]
 have hn:((List.range n).filter p).Nodup:=List.Nodup.sublist List.filter_sublist List.nodup_range
 have hm:∀ i,i∈(List.range n).filter p↔i<n /\ p i=true:=by
  intro i;rw[List.mem_filter,List.mem_range]
 match he:(List.range n).filter p with
 | []=>
   rw[he] at hm
   refine⟨fun _ i j hi _ h1 _=>?_,fun _=>by simp⟩
   have:=(hm i).mpr ⟨hi,h1⟩
   cases this
 | [a]=>
   rw[he] at hm
   refine⟨fun _ i j hi hj h1 h2=>?_,fun _=>by simp⟩
   have e1:=(hm i).mpr ⟨hi,h1⟩
   have e2:=(hm j).mpr ⟨hj,h2⟩
   rw[List.mem_singleton] at e1 e2
   rw[e1,e2]
 | a :: c :: L=>
   rw[he] at hm hn
   refine⟨fun h=>?_,fun h=>?_⟩
   ·simp at h
   ·exfalso
    have ea:=(hm a).mp (by simp)
    have ec:=(hm c).mp (by simp)
    have:=h a c ea.1 ec.1 ea.2 ec.2
    subst this
    simp at hn
theorem qhw {b:List Int} {x:Int} {f:Nat}:nF b x f<=1 ↔ ∀ r r',r<9->r'<9->b.getD (9*f+r) 0=x->b.getD (9*f+r') 0=x->r=r':=by
 unfold nF
 rw[qpN]
 constructor
 ·intro h r r' hr hr' e e'
  exact h r r' hr hr' (by simpa using e) (by simpa using e')
 ·intro h r r' hr hr' e e'
  exact h r r' hr hr' (by simpa using e) (by simpa using e')
theorem qhx {b:List Int} {x:Int} {f:Nat}:nF b x f=0 ↔ ∀ r,r<9->b.getD (9*f+r) 0≠x:=by
 unfold nF
 rw[List.countP_eq_zero]
 constructor
 ·intro h r hr e
  exact h r (List.mem_range.mpr hr) (by simpa using e)
 ·intro h r hr e
  exact h r (List.mem_range.mp hr) (by simpa using e)
theorem qVk {b:List Int} {s:Int} {k:Nat} (h:KS b s k):nP b (pc s 8)=1:=by
 show qAl (fun i=>b.getD i 0==pc s 8)=1
 rw[qGG]
 exact⟨k,h.1,fun i hi=>by rw[beq_iff_eq];exact h.2 i hi⟩
theorem qa5 {b h:List Int} {s:Int} (hl:b.length=81) (hf:qAq h) (hz:qA6 b h s=0):Sound b h s:=by
 obtain⟨hc,_⟩:=qJc hl hz
 obtain⟨v,hv,hS⟩:=qeS hc hf s
 rw[qZB hl hf] at hv
 exact hS (by rw[<- Option.some.inj hv];exact hz)
theorem qef {b h:List Int} {s f t d:Int} {p:Bool} (hl:b.length=81) (hf:qAq h) (hh:h.length=16) (hz:qA6 b h s=0) (hm:qAG b h s f t d p=true):qA6 (mb b s f t d p) (mh b h s t d) (1 - s)=0:=by
 obtain⟨hc,hs⟩:=qJc hl hz
 have hP:=(qFR hm).2
 have hS:=qa5 hl hf hz
 have hC:=qSr.mp hz
 have hs':1 - s=0 \/ 1 - s=1:=by omega
 obtain⟨k,hk⟩:=qJ3 hz hs
 obtain⟨k',hk'⟩:=qJ3 hz hs'
 have ht:=hP.to_
 have hla:=qEO hs hP
 have hc2:Clean (mb b s f t d p):=qNw hc _ _ _ _ _
 have hmv:if d≠0 then (!qC0 (16*s+d) t&&(decide (d≠1)||decide (nF b (16*s+d) (t.toNat / 9)=0)))=true
   else (rch (at_ b f) f.toNat t.toNat (tk b)&&if p=true then qCV (at_ b f) f t else !qCh (at_ b f) t)=true:=by
  have:=hm
  unfold qAG at this
  rw[Bool.and_eq_true] at this
  have:=this.2
  by_cases hd:d=0
  ·rw[if_neg (by simpa using hd)] at this ⊢
   exact this
  ·rw[if_pos hd] at this ⊢
   exact this
 have hhand:∀ j:Int,(j=0 \/ j=1)->∀ i:Int,0<=i->i<8->(hd_ (mh b h s t d) j i=hd_ h j i \/ (1<=i /\ 0<=hd_ (mh b h s t d) j i)):=by
  intro j hj i i0 i8
  unfold mh
  by_cases hd:d=0
  ·have hmm:=hP.move hd
   rw[if_neg (by simpa using hd)]
   by_cases h0:at_ b t=0
   ·rw[if_pos h0];exact .inl rfl
   ·rw[if_neg h0]
    have hr:=qP2 ((hc.at_ t).resolve_left h0) hmm.2.2.2.2.2.1
    rw[qGa hh hs (by omega) (by omega) 1 hj i0 i8]
    split
    ·right
     rename_i he
     have h1:=hS.hands (rw_ (kd (at_ b t))) (by omega) (by omega)
     have h2:=hS.counts (rw_ (kd (at_ b t))) (by omega) (by omega)
     have h3:0<=hd_ h s (rw_ (kd (at_ b t))) /\ hd_ h s (rw_ (kd (at_ b t)))<=18:=by
      rcases hs with rfl | rfl<;>omega
     rw[w_8 (by omega) (by omega)]
     omega
    ·exact .inl rfl
  ·have hmm:=hP.drop hd
   rw[if_pos hd,qGa hh hs (by omega) (by omega) (-1) hj i0 i8]
   split
   ·right
    have:=qTp hf s d
    rw[w_8 (by omega) (by omega)]
    omega
   ·exact .inl rfl
 rw[qSr]
 refine⟨hs',fun i hi=>?_,fun i hi j hj=>?_,?_,fun i i1 i2=>?_,fun i hi=>?_,fun g hg=>?_⟩
 ·unfold bsP
  rw[decide_eq_false_iff_not]
  rintro ⟨h1,h2⟩
  have:=hc2.at_ i
  rw[qAU (by omega),tn] at this
  exact this.elim h1 (fun h=>h h2)
 ·have h1:=hC.hands i hi j hj
  unfold bsH at h1 ⊢
  rw[decide_eq_false_iff_not] at h1 ⊢
  have h2:=hhand j (by omega) i (by omega) (by omega)
  unfold hd_ at h2
  rw[show (j:Int).toNat*8+(i:Int).toNat=j*8+i from rfl] at h2
  omega
 ·have e1:=qVk (qNZ hc hs hP hk)
  have e2:=qVk (qJ2 hc hs hP hk')
  rw[pc8 hs] at e1
  rw[pc8 hs'] at e2
  rcases hs with rfl | rfl
  ·exact⟨e1,e2⟩
  ·exact⟨e2,e1⟩
 ·have h1:=hC.over i i1 i2
  unfold qDi at h1 ⊢
  rw[decide_eq_false_iff_not] at h1 ⊢
  have:=qjG hS hf hh hP (k:=(i:Int)) (by omega) (by omega)
  omega
 ·rw[qDf hc hs hP hi]
  by_cases h1:i=t.toNat
  ·rw [if_pos h1,h1]
   unfold laid
   by_cases hd:d=0
   ·rw [if_neg (by simpa using hd)]
    rw[if_neg (by simpa using hd)] at hmv
    have hmm:=hP.move hd
    cases p with
    | true=>
      rw[if_pos rfl]
      obtain⟨u1,u2,u3⟩:=qLh (hmm.2.2.2.2.2.2 rfl)
      have:9<=up_ (kd (at_ b f)):=by
       have hu:=hmm.2.2.2.2.2.2 rfl
       unfold up_ at hu ⊢
       split
       ·omega
       ·rename_i h;rw[if_neg h] at hu;exact absurd rfl hu
      unfold qBR
      rw[qGc hs u1 u2 u3,decide_eq_false_iff_not]
      omega
    | false=>
      rw[if_neg (by simp)]
      rw[if_neg (by simp),Bool.and_eq_true] at hmv
      have h2:=hmv.2
      cases hdd:qBR (at_ b f) t.toNat with
      | false=>rfl
      | true=>
        exfalso
        have hk:kd (at_ b f)=1 \/ kd (at_ b f)=2 \/ kd (at_ b f)=3:=by
         have:=of_decide_eq_true hdd
         omega
        unfold qCh at h2
        rw[show t=((t.toNat:Nat):Int) by omega,qMf _ (by omega),hdd] at h2
        have:up_ (kd (at_ b f))≠0:=by unfold up_;rw[if_pos (by omega)];omega
        rw[decide_eq_true this] at h2
        cases h2
   ·rw[if_pos hd]
    rw[if_pos hd,Bool.and_eq_true] at hmv
    have h2:=hmv.1
    rw[show t=((t.toNat:Nat):Int) by omega,qMf _ (by omega)] at h2
    simpa using h2
  ·rw[if_neg h1]
   by_cases h2:d=0 /\ i=f.toNat
   ·rw[if_pos h2]
    unfold qBR
    rw[qFI]
    simp
   ·rw[if_neg h2];exact hC.dead i hi
 ·have key:∀ x:Int,(x=1 \/ x=17)->nF (mb b s f t d p) x g<=1:=by
   intro x hx
   have hxk:kd x=1:=by rcases hx with rfl | rfl<;>decide
   have hold:nF b x g<=1:=by
    have:=hC.nifu g hg
    unfold qCW at this
    simp only[Bool.or_eq_false_iff,decide_eq_false_iff_not] at this
    rcases hx with rfl | rfl<;>omega
   rw[qhw] at hold ⊢
   have from_:∀ r,r<9->(mb b s f t d p).getD (9*g+r) 0=x->(b.getD (9*g+r) 0=x /\ ¬ (d=0 /\ 9*g+r=f.toNat)) \/ 9*g+r=t.toNat:=by
    intro r hr e
    rw[qDf hc hs hP (by omega)] at e
    by_cases h1:9*g+r=t.toNat
    ·exact .inr h1
    ·rw[if_neg h1] at e
     by_cases h2:d=0 /\ 9*g+r=f.toNat
     ·rw[if_pos h2] at e
      rcases hx with rfl | rfl<;>omega
     ·rw[if_neg h2] at e
      exact .inl ⟨e,h2⟩
   have lay:∀ r,r<9->9*g+r=t.toNat->(mb b s f t d p).getD (9*g+r) 0=x->∀ r',r'<9->(b.getD (9*g+r') 0=x /\ ¬ (d=0 /\ 9*g+r'=f.toNat))->False:=by
    intro r hr he e r' hr' e'
    rw[qDf hc hs hP (by omega),if_pos he] at e
    unfold laid at e
    by_cases hd:d=0
    ·rw [if_neg (by simpa using hd)] at e hmv
     have hmm:=hP.move hd
     cases p with
     | true=>
       rw[if_pos rfl] at e
       have hu:=hmm.2.2.2.2.2.2 rfl
       obtain⟨u1,u2,u3⟩:=qLh hu
       have:kd (16*s+up_ (kd (at_ b f)))=1:=by rw[e,hxk]
       rw[qGc hs u1 u2 u3] at this
       unfold up_ at this
       split at this<;>omega
     | false=>
       rw[if_neg (by simp)] at e
       rw[Bool.and_eq_true] at hmv
       have hr1:=hmv.1
       have hfl:df f.toNat t.toNat=0:=by
        rcases qBl.mp hr1 with h1 | h1
        ·have h2:=of_decide_eq_true h1
         rw[e,hxk] at h2
         unfold qBr at h2
         omega
        ·have h2:=of_decide_eq_true h1.1
         rw[e,hxk] at h2
         unfold slK at h2
         omega
       unfold df fl at hfl
       have hfe:f.toNat=9*g+f.toNat % 9:=by omega
       have:b.getD (9*g+f.toNat % 9) 0=x:=by
        rw[<- hfe,<- qAU ⟨hmm.1,hmm.2.1⟩];exact e
       have:=hold (f.toNat % 9) r' (by omega) hr' this e'.1
       exact e'.2 ⟨hd,by omega⟩
    ·rw[if_pos hd] at e hmv
     rw[Bool.and_eq_true] at hmv
     have hdd:=hP.drop hd
     have hd1:d=1:=by rcases hs with rfl | rfl<;>rcases hx with rfl | rfl<;>omega
     have hz0:nF b (16*s+d) (t.toNat / 9)=0:=by
      have:=hmv.2
      rw[decide_eq_false (p:=d≠1) (by simpa using hd1),Bool.false_or,decide_eq_true_eq] at this
      exact this
     rw[e,show t.toNat / 9=g by omega,qhx] at hz0
     exact hz0 r' hr' e'.1
   intro r r' hr hr' e e'
   rcases from_ r hr e with h1 | h1
   ·rcases from_ r' hr' e' with h2 | h2
    ·exact hold r r' hr hr' h1.1 h2.1
    ·exact (lay r' hr' h2 e' r hr h1).elim
   ·rcases from_ r' hr' e' with h2 | h2
    ·exact (lay r hr h1 e r' hr' h2).elim
    ·omega
  unfold qCW
  have k1:=key 1 (.inl rfl)
  have k2:=key 17 (.inr rfl)
  rw[decide_eq_false (by omega),decide_eq_false (by omega)]
  rfl
theorem qdE {b h:List Int} {s f t d:Int} {p:Bool} (hl:b.length=81) (hf:qAq h) (hh:h.length=16) (hz:qA6 b h s=0) (hm:qAG b h s f t d p=true) (hsafe:inC (mb b s f t d p) s=false):qCu (mb b s f t d p) (mh b h s t d) (1 - s)=0:=by
 have h1:=qef hl hf hh hz hm
 unfold qCu
 rw[if_neg (by rw[h1];simp),show 1 - (1 - s)=s by omega,hsafe]
 rfl
theorem qRm {b h:List Int} {s:Int} (hz:qCu b h s=0):qA6 b h s=0:=by
 unfold qCu at hz
 split at hz
 ·rename_i h;exact absurd hz h
 ·rename_i h;simpa using h
end Go.Kk.Pl
namespace Go.Kk.Pl
end Go.Kk.Pl
namespace Go.Kk.Pl
end Go.Kk.Pl
namespace Go.Kk.Pl
structure Going (b h:List Int) (s:Int):Prop where
 sound:Sound b h s
 fits:qAq h
 len:h.length=16
end Go.Kk.Pl
namespace Go.Kk.Pl
end Go.Kk.Pl
namespace Go.Kk.Pl
theorem qgG {b:List Int} (hc:Clean b) (h:List Int) (s:Int):qGK b h s=some (kof b h s,0,b,h,s,qU b,qZ b,0,[]):=by
 unfold qGK
 rw[qh2 hc.len,qei hc,qA]
 simp only
 rw[qgz,qA]
end Go.Kk.Pl
namespace Go.Kk.Pl
structure PosP (b h:List Int) (s:Int):Prop where
 len:b.length=81
 fits:qAq h
 hlen:h.length=16
 zero:qCu b h s=0
theorem PosP.clean {b h:List Int} {s:Int} (hp:PosP b h s):Clean b:=(qGw hp.len hp.zero).1
theorem PosP.side {b h:List Int} {s:Int} (hp:PosP b h s):s=0 \/ s=1:=(qGw hp.len hp.zero).2.1
theorem PosP.going {b h:List Int} {s:Int} (hp:PosP b h s):Going b h s:=⟨qa5 hp.len hp.fits (qRm hp.zero),hp.fits,hp.hlen⟩
theorem PosP.after {b h:List Int} {s:Int} (hp:PosP b h s) {m:List Int} (hm:m∈lgL b h s):PosP (mbM b s m) (mhM b h s m) (1 - s):=by
 obtain⟨hc,hs,hno,k,k',hk,hk'⟩:=qGw hp.len hp.zero
 obtain⟨_,hm2,_,hm4⟩:=qVE hc hs hno hk hk' hm
 have hsafe:inC (mb b s (m0 m) (m1 m) (m2 m) (m3 m)) s=false:=by simpa[qBa,mbM] using hm4
 exact⟨(qNw hc _ _ _ _ _).1,qhh hp.fits _ _ _ _,qhi hp.hlen _ _ _ _,qdE hp.len hp.fits hp.hlen (qRm hp.zero) hm2 hsafe⟩
theorem PosP.lists {b h:List Int} {s:Int} (hp:PosP b h s):lgL b h s=rlL b h s:=by
 obtain⟨hc,hs,hno,k,k',hk,hk'⟩:=qGw hp.len hp.zero
 exact qVL hc h hs hno hk hk'
theorem PosP.all {b h:List Int} {s:Int} (hp:PosP b h s):qDc b h s (qU b) (qZ b)=some ((lgL b h s).length,b,h,s,qU b,qZ b,(lgL b h s).length,lgL b h s):=by
 obtain⟨hc,hs,hno,k,k',hk,hk'⟩:=qGw hp.len hp.zero
 exact qg6 hc h hs hk hk'
theorem PosP.full {b h:List Int} {s:Int} (hp:PosP b h s) {m:List Int} (hm:m∈lgL b h s):Mv4 m /\ qAG b h s (m0 m) (m1 m) (m2 m) (m3 m)=true:=by
 obtain⟨hc,hs,hno,k,k',hk,hk'⟩:=qGw hp.len hp.zero
 have:=qVE hc hs hno hk hk' hm
 exact⟨this.1,this.2.1⟩
theorem qNp (n:Nat):(Int.ofNat n==0)=decide (n=0):=by
 rw[Bool.eq_iff_iff,decide_eq_true_eq,beq_iff_eq]
 exact⟨fun h=>by simpa using h,fun h=>by rw[h];rfl⟩
end Go.Kk.Pl
namespace Go.Kk.Pl
set_option maxRecDepth 100000
theorem qfW:qJ4=some true:=by kernel_rfl
def qRa:List Int:=List.replicate 106 0
theorem qov {n:Nat} (h0:1<=n) (h1:n<=65536):qFv n=some (.inr (0,n,0,n,List.replicate n qRa)):=by
 unfold qFv
 rw[qX (by simp;omega),qX (by simp;omega),qQ (by simp),qQ (by simp),qQ (by simp;omega)]
 rfl
theorem qmb {n:Nat} (h0:1<=n) (h1:n<=65536):qEm n=some (.inr (.inr (0,0,0,n,0,n,List.replicate n qRa))):=by
 unfold qEm
 rw[qov h0 h1,qA,qBs]
 rfl
theorem qma {z:Int} (h:z<1 \/ 65536<z):qEm z=some (.inl 1):=by
 have:qFv z=some (.inl 1):=by
  unfold qFv
  by_cases h1:z<1
  ·rw[qQ (by simpa using h1)]
  ·rw[qX (by simpa using h1),qQ (by simp;omega)]
 unfold qEm
 rw[this,qA,qLc]
 rfl
theorem qpC {b h:List Int} {s:Int} (hp:PosP b h s) (d bu x5 x6:Int) (hd:d<1) (x7:Nat) (x8:Int) (x9:Nat) (x10:List (List Int)):
  ∃ t,qHT b h s d bu x5 x6 x7 x8 x9 x10=some t /\
    ((lgL b h s).length=0->∃ p,t=.inl (0,-30000,0,p)) /\ ((lgL b h s).length≠0->∃ a c e f g i j k l,t=.inr (0,0,0,1,a,false,c,e,f,g,i,j,k,lgL b h s) /\ l=(0:Nat)):=by
 unfold qHT
 rw[qgG hp.clean,qA]
 simp only
 rw[hp.all,qA]
 simp only
 rw[qNp]
 by_cases h0:(lgL b h s).length=0
 ·rw[qQ (by simpa using h0)]
  exact⟨_,rfl,fun _=>⟨_,rfl⟩,fun h=>absurd h0 h⟩
 ·rw[qX (by simpa using h0),qQ (qgM (by omega) (by omega)),qQ (by simp;omega)]
  obtain⟨g,hg⟩:=qk 0 (by omega)
  rw[hg,qIu.eq_2]
  unfold qP9
  rw[qX (by
   simp only[cond_true]
   cases h64:decide (64<d) with
   | true=>have:=of_decide_eq_true h64;omega
   | false=>simp only[cond_false,decide_eq_false_iff_not];omega),qA]
  exact⟨_,rfl,fun h=>absurd h h0,fun _=>⟨_,_,_,_,_,_,_,_,_,rfl,rfl⟩⟩
theorem qmc {b h:List Int} (s z d:Int) (hl:b.length=81) (hf:qAq h) (hh:h.length=16):qIQ b h s z d=some true:=by
 unfold qIQ
 rw[qfW,qA]
 simp only[Bool.not_true,b_f]
 by_cases hz:z<1 \/ 65536<z
 ·rw[qma hz,qA,qLc]
  by_cases h1:z<1
  ·rw[qQ (by simpa using h1)];rfl
  ·rw[qX (by simpa using h1),qQ (by simp;omega)];rfl
 obtain⟨n,hn⟩:∃ n:Nat,z=n:=⟨z.toNat,by omega⟩
 subst hn
 rw[qmb (by omega) (by omega),qA,qBs]
 rw[qBs]
 simp only
 rw[qX (by simp;omega),qX (by simp;omega),qX (by rfl),qjd hl hf,qA]
 by_cases hc:qCu b h s=0
 ·have hp:PosP b h s:=⟨hl,hf,hh,hc⟩
  rw[q9 hc]
  by_cases hd:1<=d
  ·rw[qQ (by simpa using hd)]
  rw[qX (by simpa using hd),qmD hp.clean h hp.side,qA,<- hp.lists]
  simp only
  obtain⟨t,h1,h2,h3⟩:=qpC hp d 50 0 0 (by omega) n 0 n (List.replicate n qRa)
  rw[h1,qA]
  by_cases h0:(lgL b h s).length=0
  ·obtain⟨p,h4⟩:=h2 h0
   obtain⟨p0,p1,p2⟩:=p
   subst h4
   rw[qLc]
   simp only
   rw[qNp,qQ (by simpa using h0)]
   rfl
  ·obtain⟨a,c,e,f,g,i,j,k,l,h4,h5⟩:=h3 h0
   subst h4
   rw[qBs]
   simp only
   rw[qNp,qX (by simpa using h0),qQ (by rfl),qQ (by rfl),qQ (by rfl),qQ (by rfl),qn (by omega) (by omega)]
   simp only[Nat.zero_add,beq_self_eq_true,Bool.and_self,b_t,Bool.not_false]
 ·rw[q7 hc]
end Go.Kk.Pl
