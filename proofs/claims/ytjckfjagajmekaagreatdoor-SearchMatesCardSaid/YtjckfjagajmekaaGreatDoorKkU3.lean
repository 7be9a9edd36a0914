/- What the program's functions come to, told plainly: the texts of this project that this claim leans on, cut down to what is used. -/
import Derived.Test.YtjckfjagajmekaaGreatDoorKkU2
import Derived.Test.YtjckfjagajmekaaGreatDoorKkU1
namespace Go.Kk.Pl
theorem qep {f g:Nat->Bool} (h:∀ i,i<81->f i=g i):qAt f=qAt g:=by
 unfold qAt
 apply List.countP_congr
 intro i hi
 rw[h i (List.mem_range.mp hi)]
theorem qet:∀ f:Fin 81,qAt (only ((f.val:Nat):Int))=1:=by decide +kernel
theorem qGs {g:Nat->Bool}:qAt g=1 ↔ ∃ f,f<81 /\ ∀ i,i<81->(g i=true↔i=f):=by
 constructor
 ·intro h
  unfold qAt at h
  rw[List.countP_eq_length_filter] at h
  obtain⟨f,hf⟩:=List.length_eq_one_iff.mp h
  have hm:∀ i,i∈(List.range 81).filter g↔i=f:=by rw[hf];simp
  refine⟨f,?_,fun i hi=>?_⟩
  ·have:=(hm f).mpr rfl
   rw[List.mem_filter,List.mem_range] at this
   exact this.1
  ·rw[<- hm i,List.mem_filter,List.mem_range]
   exact⟨fun h=>⟨hi,h⟩,fun h=>h.2⟩
 ·rintro ⟨f,hf,h⟩
  rw[<- qet ⟨f,hf⟩]
  apply qep
  intro i hi
  unfold only
  rw[Bool.eq_iff_iff,h i hi,decide_eq_true_eq]
  simp only
  omega
theorem qNW {g:Nat->Bool} {f:Nat} (hf:f<81) (h:∀ i,i<81->(g i=true↔i=f)):fst g=f:=by
 apply qKP hf ((h f hf).mpr rfl)
 intro i hi
 cases hg:g i with
 | false=>rfl
 | true=>exact absurd ((h i (by omega)).mp hg) (by omega)
def qDy (k c:Nat) (i:Nat):Bool:=(btw c k).contains i||only c i
def qEP (b:List Int) (s:Int) (k c:Nat):Option Nat:=(List.range 81).find? fun f=>qAL b s k f c
theorem qjt {b:List Int} {s:Int} {k c f:Nat} (h:qAL b s k f c=true) (hf:f<81):qEP b s k c=some f:=by
 unfold qEP
 cases hp:(List.range 81).find? fun f=>qAL b s k f c with
 | none=>
   rw[List.find?_eq_none] at hp
   exact absurd h (hp f (List.mem_range.mpr hf))
 | some f'=>
   have:=List.find?_some hp
   rw[qW9 this h]
theorem qW7 {b:List Int} {s:Int} {k c:Nat} (h:∀ f,f<81->qAL b s k f c=false):qEP b s k c=none:=by
 unfold qEP
 rw[List.find?_eq_none]
 intro f hf
 rw[h f (List.mem_range.mp hf)]
 simp
def qBq (b:List Int) (s:Int) (k:Nat) (P:Nat->Bool) (es:List (List Int×List Int)):Prop:=
 ∀ f:Nat,f<81->(qA3 es [(f:Int)]=true ↔ ∃ c,c<81 /\ P c=true /\ qAL b s k f c=true) /\ ∀ c,c<81->P c=true->qAL b s k f c=true->qA2 es [(f:Int)] [0,0]=prS (qDy k c)
theorem qjw {b:List Int} (hcl:Clean b) (h:List Int) (S:Int) {s:Int} (hs:s=0 \/ s=1) {k:Nat} (hk:k<81) (x2:Nat) (x3 x4:Int) (x14:Nat) (x15:List Int) (N:Nat) (L:List Int) {i:Nat} (hi:i<L.length) (hl:L.length<=1000) {c:Nat} (hc:c<81) (hq:L[i]=(c:Int)) (he:enm b s c=true)
  (es:List (List Int×List Int)) (R:Int->Int->Nat->Int->Int->Nat->Int->Int->List Int->List Int->Int->List (List Int)->List (List Int)->List (List Int×List Int)->Nat->List Int->Nat->List Int->Option (Int×Int×Nat×Int×Int×List Int×List Int×Int×List (List Int)×List (List Int)×List (List Int×List Int)×Nat×List Int)):
  qFh R s k x2 x3 x4 L.length L.length i b h S (qH b) (qK b) es x14 x15 N L =
   R s k x2 x3 x4 L.length L.length ((i+1:Nat):Int) b h S (qH b) (qK b) (match qEP b s k c with | none=>es | some f=>qAI es [(f:Int)] (prS (qDy k c))) x14 x15 N L:=by
 unfold qFh
 have hget:L.getD i 0=L[i]:=qGf hi
 rw[qg (by omega),qq (by omega) (by omega),tn,hget,hq,qXH hc hk,qA]
 simp only
 rw[qJb hcl,qA]
 simp only
 rw[qFf,qA]
 simp only
 rw[qTU,qA,w_s (n:=(i:Int)+1) (by omega) (by omega)]
 have inm:∀ f,f<81->qAL b s k f c=true->∀ i,i<81->(((btw c k).contains i&&tk b i)=true↔i=f):=by
  intro f _ hp i _
  rw[qC4] at hp
  rw[Bool.and_eq_true,List.contains_iff_mem]
  constructor
  ·rintro ⟨h1,h2⟩
   apply Classical.byContradiction
   intro hn
   rw[hp.2.2.2.2.2 i h1 hn] at h2;cases h2
  ·rintro rfl;exact⟨hp.2.2.1,hp.2.2.2.1⟩
 by_cases h1:((qAt fun i=>(btw c k).contains i&&tk b i:Nat):Int)=1
 ·rw [qAk h1]
  obtain⟨f,hf,hm⟩:=qGs.mp (by omega:(qAt fun i=>(btw c k).contains i&&tk b i)=1)
  have only_f:∀ f',f'<81->qAL b s k f' c=true->f'=f:=fun f' hf' hp=>(hm f' hf').mp ((inm f' hf' hp f' hf').mpr rfl)
  have none':qAL b s k f c=false->qEP b s k c=none:=by
   intro h0
   apply qW7
   intro f' hf'
   cases hp:qAL b s k f' c with
   | false=>rfl
   | true=>rw[only_f f' hf' hp,h0] at hp;cases hp
  have hmf:=(hm f hf).mpr rfl
  rw[Bool.and_eq_true,List.contains_iff_mem] at hmf
  rw[qO6,qA]
  simp only
  rw[qFf,qA]
  simp only
  rw[qKC,qA]
  by_cases hsd:sd (b.getD f 0)=s
  ·have hE0:isE (fun i=>((btw c k).contains i&&tk b i)&&sdP b s i)=false:=by
    cases hE:isE (fun i=>((btw c k).contains i&&tk b i)&&sdP b s i) with
    | false=>rfl
    | true=>
      have:=qCm.mp hE f hf
      rw[(hm f hf).mpr rfl] at this
      unfold sdP sds at this
      rw[decide_eq_true hs,decide_eq_true hsd] at this
      cases this
   rw[hE0,b_f]
   rw[qNR,qA,qB4,qA,qBF (by omega),tn]
   rw[qNW hf hm,qA]
   simp only
   rw[qJj,qA]
   simp only
   rw[qLE _ hc,qA]
   simp only
   rw[qEG,qA]
   have hh:∀ g:Nat->Bool,has g (k:Int)=g k:=by
    intro g;unfold has;rw[decide_eq_true (by omega),decide_eq_true (by omega),tn];rfl
   rw[hh]
   cases hr1:rch (b.getD c 0) c k (fun i=>tk b i && !only f i) with
   | false=>
     rw[Bool.not_false,b_t,none' ?_]
     ·rfl
     ·cases hp:qAL b s k f c with
      | false=>rfl
      | true=>
        rw[qC4] at hp
        rw[<- hr1,qBx.mpr (.inr ⟨hp.2.1,?_⟩)]
        intro i hi
        by_cases hif:i=f
        ·subst hif;unfold only;simp
        ·rw[hp.2.2.2.2.2 i hi hif];rfl
   | true =>
     rw[Bool.not_true,b_f,qA,qA]
     simp only
     rw[qLE _ hc,qA]
     simp only
     rw[qEG,qA,hh]
     cases hr2:rch (b.getD c 0) c k (tk b) with
     | true=>
       rw[b_t,none' ?_]
       ·rfl
       ·cases hp:qAL b s k f c with
        | false=>rfl
        | true=>
          rw[qC4] at hp
          rcases qBx.mp hr2 with hr | hr
          ·rw[qL7 hr] at hmf;cases hmf.1
          ·rw[hr.2 f hmf.1] at hmf;cases hmf.2
     | false=>
       have hn:¬ (qAy (b.getD c 0) c k=true \/ (qAh (b.getD c 0) c k=true /\ ∀ i∈btw c k,tk b i=false)):=by
        rw[<- qBx,hr2];simp
       simp only[not_or] at hn
       have hp:qAL b s k f c=true:=by
        rw[qC4]
        refine⟨he,((qBx.mp hr1).resolve_left hn.1).1,hmf.1,hmf.2,hsd,fun i hi hif=>?_⟩
        cases htk:tk b i with
        | false=>rfl
        | true=>
          exact absurd ((hm i (qIU hc hk hi)).mp (by rw[Bool.and_eq_true,List.contains_iff_mem];exact⟨hi,htk⟩)) hif
       rw[b_f,qGZ,qA,qjt hp hf]
       rfl
  ·have hE0:isE (fun i=>((btw c k).contains i&&tk b i)&&sdP b s i)=true:=by
    rw[qCm]
    intro i hi
    cases hx:((btw c k).contains i&&tk b i) with
    | false=>rfl
    | true=>
      rw[(hm i hi).mp hx]
      unfold sdP sds
      rw[decide_eq_false hsd];simp
   rw[hE0,b_t,none' ?_]
   ·rfl
   ·cases hp:qAL b s k f c with
    | false=>rfl
    | true=>exact absurd (qC4.mp hp).2.2.2.2.1 hsd
 ·rw [qAZ h1,qW7 ?_]
  ·rfl
  ·intro f hf
   cases hp:qAL b s k f c with
   | false=>rfl
   | true=>
     have:=qGs.mpr ⟨f,hf,inm f hf hp⟩
     omega
theorem qju {b:List Int} {s:Int} (hs:s=0 \/ s=1) {k:Nat} (hk:k<81) {P:Nat->Bool} {es:List (List Int×List Int)} (hP:qBq b s k P es) {c:Nat} (hc:c<81):
  qBq b s k (fun i=>P i||decide (i=c)) (match qEP b s k c with | none=>es | some f=>qAI es [(f:Int)] (prS (qDy k c))):=by
 cases hp:qEP b s k c with
 | none=>
   unfold qEP at hp
   rw[List.find?_eq_none] at hp
   intro f hf
   have hno:=hp f (List.mem_range.mpr hf)
   obtain⟨h1,h2⟩:=hP f hf
   refine⟨?_,?_⟩
   ·rw[h1]
    constructor
    ·rintro ⟨c',a,a',a''⟩;exact⟨c',a,by simp[a'],a''⟩
    ·rintro ⟨c',a,a',a''⟩
     rw[Bool.or_eq_true,decide_eq_true_eq] at a'
     rcases a' with a' | rfl
     ·exact⟨c',a,a',a''⟩
     ·exact absurd a'' hno
   ·intro c' a a' a''
    rw[Bool.or_eq_true,decide_eq_true_eq] at a'
    rcases a' with a' | rfl
    ·exact h2 c' a a' a''
    ·exact absurd a'' hno
 | some g=>
   have hg:=List.find?_some (show (List.range 81).find? (fun f=>qAL b s k f c)=some g from hp)
   have hg':g<81:=List.mem_range.mp (List.mem_of_find?_eq_some (show (List.range 81).find? (fun f=>qAL b s k f c)=some g from hp))
   intro f hf
   obtain⟨h1,h2⟩:=hP f hf
   simp only
   rw[qgW,qgM]
   by_cases hfg:f=g
   ·subst hfg
    rw[decide_eq_true rfl,if_pos rfl]
    refine⟨⟨fun _=>⟨c,hc,by simp,hg⟩,fun _=>rfl⟩,fun c' a _ a''=>?_⟩
    rw[qW8 hs hk hc a hg a'']
   ·have hne:¬ ([(f:Int)]=[(g:Int)]):=by
     intro e
     have:=List.cons.inj e
     omega
    rw[decide_eq_false hne,if_neg hne,Bool.false_or]
    have hno:¬ qAL b s k f c=true:=fun hp'=>hfg (qW9 hp' hg)
    refine⟨?_,?_⟩
    ·rw[h1]
     constructor
     ·rintro ⟨c',a,a',a''⟩;exact⟨c',a,by simp[a'],a''⟩
     ·rintro ⟨c',a,a',a''⟩
      rw[Bool.or_eq_true,decide_eq_true_eq] at a'
      rcases a' with a' | rfl
      ·exact⟨c',a,a',a''⟩
      ·exact absurd a'' hno
    ·intro c' a a' a''
     rw[Bool.or_eq_true,decide_eq_true_eq] at a'
     rcases a' with a' | rfl
     ·exact h2 c' a a' a''
     ·exact absurd a'' hno
theorem qI8 {b:List Int} {s:Int} {k:Nat} {P Q:Nat->Bool} {es:List (List Int×List Int)} (h:∀ i,i<81->P i=Q i) (hP:qBq b s k P es):qBq b s k Q es:=by
 intro f hf
 obtain⟨h1,h2⟩:=hP f hf
 refine⟨?_,fun c hc hq=>h2 c hc (by rw[h c hc];exact hq)⟩
 rw[h1]
 constructor
 ·rintro ⟨c,a,a',a''⟩;exact⟨c,a,by rw[<- h c a];exact a',a''⟩
 ·rintro ⟨c,a,a',a''⟩;exact⟨c,a,by rw[h c a];exact a',a''⟩
theorem qjv {b:List Int} (hcl:Clean b) (h:List Int) (S:Int) {s:Int} (hs:s=0 \/ s=1) {k:Nat} (hk:k<81) (x2:Nat) (x3 x4:Int) (x14:Nat) (x15:List Int) (N:Nat) (L:List Int) (hl:L.length<=1000) (hL:∀ q∈L,0<=q /\ q<81 /\ enm b s q.toNat=true):∀ (n i:Nat),i+n=L.length->∀ (P:Nat->Bool) (es:List (List Int×List Int)),qBq b s k P es->
  ∃ es',(∀ F,qEm (F+n+1) s k x2 x3 x4 L.length L.length i b h S (qH b) (qK b) es x14 x15 N L=some (s,(k:Int),x2,x3,x4,b,h,S,qH b,qK b,es',x14,x15)) /\ qBq b s k (fun c=>P c||(L.drop i).contains (c:Int)) es':=by
 intro n
 induction n with
 | zero=>
   intro i hi P es hP
   refine⟨es,fun F=>?_,?_⟩
   ·show qFh (qEm (F+0)) _ _ _ _ _ _ _ _ _ _ _ _ _ _ _ _ _ _=_
    unfold qFh
    rw[qc (by omega)]
   ·rw[List.drop_eq_nil_of_le (by omega)]
    exact qI8 (fun i _=>by simp) hP
 | succ n ih=>
   intro i hi P es hP
   have hil:i<L.length:=by omega
   obtain⟨q0,q1,q2⟩:=hL L[i] (List.getElem_mem hil)
   obtain⟨c,hc⟩:∃ c:Nat,L[i]=c:=⟨L[i].toNat,by omega⟩
   rw[hc] at q0 q1 q2
   obtain⟨es',h1,h2⟩:=ih (i+1) (by omega) _ _ (qju hs hk hP (c:=c) (by omega))
   refine⟨es',fun F=>?_,qI8 (fun j _=>?_) h2⟩
   ·show qFh (qEm (F+n+1)) _ _ _ _ _ _ _ _ _ _ _ _ _ _ _ _ _ _=_
    rw[qjw hcl h S hs hk x2 x3 x4 x14 x15 N L hil hl (by omega) hc q2]
    exact h1 F
   ·rw[List.drop_eq_getElem_cons hil,List.contains_cons,hc,Bool.or_assoc]
    congr 2
    rw[Bool.eq_iff_iff,decide_eq_true_eq,beq_iff_eq]
    omega
def qAf:List Int:=[2,6,7,14,15]
theorem qhF {b:List Int} (hcl:Clean b) (h:List Int) (S:Int) {s:Int} (hs:s=0 \/ s=1) {k:Nat} (hk:k<81):∀ (n i:Nat),i+n=5->∀ (P:Nat->Bool) (es:List (List Int×List Int)),qBq b s k P es->
  ∃ es',(∀ F,qEl (F+n+1) s k 5 5 i b h S (qH b) (qK b) es 5 qAf=some (b,h,S,qH b,qK b,es')) /\ qBq b s k (fun c=>P c||(qAf.drop i).any fun x=>pcs b (pc (1 - s) x) c) es':=by
 intro n
 induction n with
 | zero=>
   intro i hi P es hP
   refine⟨es,fun F=>?_,?_⟩
   ·show qGl (qEl (F+0)) _ _ _ _ _ _ _ _ _ _ _ _ _=_
    unfold qGl
    rw[qc (by omega)]
   ·rw[List.drop_eq_nil_of_le (by show 5<=i;omega)]
    exact qI8 (fun i _=>by simp) hP
 | succ n ih=>
   intro i hi P es hP
   have hil:i<qAf.length:=by show i<5;omega
   obtain⟨x,hx,hget,hdr⟩:∃ x,(x=2 \/ x=6 \/ x=7 \/ x=14 \/ x=15) /\ qAf.getD i 0=x /\ qAf.drop i=x :: qAf.drop (i+1):=by
    have:∀ j:Fin 5,(qAf.getD j.val 0=2 \/ qAf.getD j.val 0=6 \/ qAf.getD j.val 0=7 \/ qAf.getD j.val 0=14 \/ qAf.getD j.val 0=15) /\ qAf.drop j.val=qAf.getD j.val 0 :: qAf.drop (j.val+1):=by decide
    have:=this ⟨i,hil⟩
    exact⟨qAf.getD i 0,this.1,rfl,this.2⟩
   obtain⟨es1,h1,h2⟩:=qjv hcl h S hs hk 5 5 i 5 qAf (sq (pcs b (pc (1 - s) x))).length (sq (pcs b (pc (1 - s) x))) (by have:=qEa (pcs b (pc (1 - s) x));omega) (by
    intro q hq
    obtain⟨a,a',a''⟩:=qGP hq
    refine⟨a,a',?_⟩
    have:=of_decide_eq_true a''
    unfold enm
    rw[this.2,(qDr (s:=1 - s) (by omega) (k:=x) (by omega) (by omega) (by omega)).1]
    simp) (sq (pcs b (pc (1 - s) x))).length 0 (by omega) P es hP
   obtain⟨es',h3,h4⟩:=ih (i+1) (by omega) _ _ h2
   obtain⟨g,hg⟩:=qe (sq (pcs b (pc (1 - s) x))).length (by have:=qEa (pcs b (pc (1 - s) x));omega)
   refine⟨es',fun F=>?_,qI8 (fun j hj=>?_) h4⟩
   ·show qGl (qEl (F+n+1)) _ _ _ _ _ _ _ _ _ _ _ _ _=_
    unfold qGl
    rw[qg (by omega),qq (by omega) (by omega),tn,hget,w_s (n:=1 - s) (by omega) (by omega),qHW,qA]
    simp only
    rw[qJW,qA]
    simp only
    have:=h1 g
    rw[<- hg] at this
    rw[show qEm qC s k 5 5 i (sq (pcs b (pc (1 - s) x))).length (Int.ofNat (sq (pcs b (pc (1 - s) x))).length) 0 b h S (qH b) (qK b) es 5 qAf (sq (pcs b (pc (1 - s) x))).length (sq (pcs b (pc (1 - s) x)))=_ from this,qA]
    simp only
    rw[w_s (n:=(i:Int)+1) (by omega) (by omega)]
    exact h3 F
   ·rw[hdr,List.any_cons,List.drop_zero,<- Bool.or_assoc]
    congr 2
    cases hp:pcs b (pc (1 - s) x) j with
    | true=>rw[List.contains_iff_mem.mpr (qWK hj hp)]
    | false=>
      cases hcn:(sq (pcs b (pc (1 - s) x))).contains (j:Int) with
      | false=>rfl
      | true=>
        have:=(qGP (List.contains_iff_mem.mp hcn)).2.2
        rw[tn,hp] at this
        cases this
theorem qn0 {b:List Int} {s:Int} (_hs:s=0 \/ s=1) {c k:Nat} (he:enm b s c=true) (h:qAh (b.getD c 0) c k=true):(qAf.any fun x=>pcs b (pc (1 - s) x) c)=true:=by
 have he:=of_decide_eq_true he
 have h:=of_decide_eq_true h
 have hk:kd (b.getD c 0)=2 \/ kd (b.getD c 0)=6 \/ kd (b.getD c 0)=7 \/ kd (b.getD c 0)=14 \/ kd (b.getD c 0)=15:=by
  unfold slK at h;omega
 have hx:=qO2 (x:=b.getD c 0) (by omega)
 rw[List.any_eq_true]
 refine⟨kd (b.getD c 0),?_,?_⟩
 ·unfold qAf
  rcases hk with h | h | h | h | h<;>rw[h]<;>simp
 ·unfold pcs
  rw[decide_eq_true_eq,<- he,<- hx]
  refine⟨fun h0=>?_,rfl⟩
  rw[h0,qE5] at hk
  omega
theorem qjy {b:List Int} (hcl:Clean b) (h:List Int) (S:Int) {s:Int} (hs:s=0 \/ s=1):∃ es,qGj s b h S (qH b) (qK b)=some es /\
  (kg b s<0->es=[]) /\ (0<=kg b s->qBq b s (kg b s).toNat (fun c=>enm b s c&&(qAf.any fun x=>pcs b (pc (1 - s) x) c)) es):=by
 have hr:=qUT (pcs b (pc s 8))
 unfold qGj
 rw[qN9,show fst (pcs b (pc s 8))=kg b s from rfl,qA]
 by_cases hk:kg b s<0
 ·rw[qg hk]
  exact⟨[],rfl,fun _=>rfl,fun h=>by omega⟩
 ·rw [qc hk]
  have hk1:kg b s<81:=hr.2
  obtain⟨k,hkk⟩:∃ k:Nat,kg b s=k:=⟨(kg b s).toNat,by omega⟩
  rw[hkk]
  have h0:qBq b s k (fun _=>false) []:=by
   intro f hf
   exact⟨⟨fun h=>(by cases h),fun⟨_,_,h,_⟩=>(by cases h)⟩,fun _ _ h=>(by cases h)⟩
  obtain⟨es,h1,h2⟩:=qhF hcl h S hs (k:=k) (by omega) 5 0 rfl _ [] h0
  obtain⟨g,hg⟩:=qe 5 (by omega)
  have:=h1 g
  rw[<- hg] at this
  refine⟨es,?_,fun h=>by omega,fun _=>?_⟩
  ·rw[show qEl qC s k 5 5 0 b h S (qH b) (qK b) [] 5 [2,6,7,14,15]=_ from this,qA]
  ·rw[tn]
   refine qI8 (fun i _=>?_) h2
   rw[List.drop_zero,Bool.false_or]
   cases ha:(qAf.any fun x=>pcs b (pc (1 - s) x) i) with
   | false=>simp
   | true=>
     rw[List.any_eq_true] at ha
     obtain⟨x,hx,hp⟩:=ha
     have:=of_decide_eq_true hp
     unfold qAf at hx
     have hx':x=2 \/ x=6 \/ x=7 \/ x=14 \/ x=15:=by simpa using hx
     unfold enm
     rw[this.2,(qDr (s:=1 - s) (by omega) (k:=x) (by omega) (by omega) (by omega)).1]
     simp
end Go.Kk.Pl
namespace Go.Kk.Pl
def laid (b:List Int) (s f d:Int) (p:Bool):Int:=if d≠0 then 16*s+d else if p=true then 16*s+up_ (kd (at_ b f)) else at_ b f
def was (b:List Int) (s f d:Int):Int:=if d≠0 then 16*s+d else at_ b f
def mb (b:List Int) (s f t d:Int) (p:Bool):List Int:=if d≠0 then put b t (laid b s f d p) else put (put b f 0) t (laid b s f d p)
def mh (b h:List Int) (s t d:Int):List Int:=if d≠0 then qu h s d (-1) else if at_ b t=0 then h else qu h s (rw_ (kd (at_ b t))) 1
def qDa (K:Int) (b h:List Int) (s f t d:Int) (p:Bool):Int:=qKb (if d≠0 then qA7 (qEH K h s d (-1)) b t (laid b s f d p) else
 if at_ b t=0 then qA7 (qA7 K b f 0) (put b f 0) t (laid b s f d p) else qEH (qA7 (qA7 K b f 0) (put b f 0) t (laid b s f d p)) h s (rw_ (kd (at_ b t))) 1)
theorem qFY {k:Int} (h:up_ k≠0):1<=up_ k /\ up_ k<=15 /\ up_ k≠13:=by
 unfold up_ at h ⊢
 split
 ·omega
 ·rename_i h2;rw[if_neg h2] at h;exact absurd rfl h
theorem qh0 {b:List Int} (hc:Clean b) (h:List Int) {s:Int} (hs:s=0 \/ s=1) (f t d:Int) (p:Bool):∃ c,(∀ K n by_ sides m st,qDN f t d p K n b h s by_ sides m st=some c) /\
  ((c=false /\ ∀ K n by_ sides m st,qCO f t d p K n b h s by_ sides m st=some (.inl (false,K,n,b,h,s,by_,sides,m,st))) \/
   (c=true /\ CanP b h s f t d p /\ ∀ K n by_ sides m st,(n+1)*40<=140737488355328->∃ by' sides',qCO f t d p K n b h s by_ sides m st =
    some (.inr (true,qDa K b h s f t d p,n+1,mb b s f t d p,mh b h s t d,1 - s,by',sides',n+1,List.append (List.take n st) [[f,t,d,bi p,at_ b t,was b s f d]])))):=by
 obtain⟨c,hcan,hP⟩:=qTC b h hs f t d p
 refine⟨c,hcan,?_⟩
 cases c with
 | false=>
   refine .inl ⟨rfl,fun K n by_ sides m st=>?_⟩
   unfold qCO
   rw[hcan,qA,qD (by rfl)]
 | true=>
   have hP:=hP rfl
   refine .inr ⟨rfl,hP,fun K n by_ sides m st hn=>?_⟩
   have hn':decide ((n+1)*40<=140737488355328)=true:=by simpa using hn
   unfold qCO
   rw[hcan,qA,qF (by rfl),qB4,qA]
   by_cases hd:d=0
   ·obtain⟨f0,f1,f2,g1,g2,g3,g4⟩:=hP.move hd
    rw[qF (by simpa using hd),qB4,qA]
    have hx:∀ {α:Type} (k:Int->Option α),(br p (ob (qAA (at_ b f)) fun a16=>ob (qCW a16) fun a17=>ob (qAg s a17) k) (k (at_ b f)))=k (laid b s f d p):=by
     intro α k
     unfold laid
     rw[if_neg (by simpa using hd)]
     cases p with
     | false=>rfl
     | true=>
       obtain⟨u1,u2,u3⟩:=qFY (g4 rfl)
       rw[qD rfl,qA4,qA,qGX,qA,qF0 hs u1 u2 u3,qA,if_pos rfl]
    obtain⟨by1,sides1,p1⟩:=qNp hc f 0 K n h s by_ sides m st
    obtain⟨by2,sides2,p2⟩:=qNp (hc.put f 0) t (laid b s f d p) (qA7 K b f 0) n h s by1 sides1 m st
    have tail:∃ by' sides',(br (at_ b t != 0)
      (ob (qAA (at_ b t)) fun a37=>
      ob (qDd a37) fun a38=>
      ob (qCz s a38 1 (qA7 (qA7 K b f 0) (put b f 0) t (laid b s f d p)) n (put (put b f 0) t (laid b s f d p)) h s by2 sides2 m st) fun (a39_0,a39_1,a39_2,a39_3,a39_4,a39_5,a39_6,a39_7,a39_8)=>
      ob (qB8 a39_0 a39_1 a39_2 a39_3 a39_4 a39_5 a39_6 a39_7 a39_8) fun (a48_0,a48_1,a48_2,a48_3,a48_4,a48_5,a48_6,_,a48_8)=>
      br (decide ((a48_1+1)*40<=140737488355328))
       (some (Sum.inr (true,a48_0,a48_1+1,a48_2,a48_3,a48_4,a48_5,a48_6,a48_1+1,List.append (List.take a48_1 a48_8) [[f,t,d,bi p,at_ b t,at_ b f]])))
       (none))
      (ob (qB8 (qA7 (qA7 K b f 0) (put b f 0) t (laid b s f d p)) n (put (put b f 0) t (laid b s f d p)) h s by2 sides2 m st) fun (a37_0,a37_1,a37_2,a37_3,a37_4,a37_5,a37_6,_,a37_8)=>
      br (decide ((a37_1+1)*40<=140737488355328))
       (some (Sum.inr (true,a37_0,a37_1+1,a37_2,a37_3,a37_4,a37_5,a37_6,a37_1+1,List.append (List.take a37_1 a37_8) [[f,t,d,bi p,at_ b t,at_ b f]])))
       (none)):Option ((Bool×Int×Nat×List Int×List Int×Int×List (List Int)×List (List Int)×Nat×List (List Int))⊕(Bool×Int×Nat×List Int×List Int×Int×List (List Int)×List (List Int)×Nat×List (List Int)))) =
      some (.inr (true,qDa K b h s f t d p,n+1,mb b s f t d p,mh b h s t d,1 - s,by',sides',n+1,List.append (List.take n st) [[f,t,d,bi p,at_ b t,was b s f d]])):=by
     refine⟨by2,sides2,?_⟩
     unfold qDa mb mh was
     by_cases ht:at_ b t=0
     ·rw[qF (by simpa using ht),qFu hs,qA]
      simp only
      rw[qD hn']
      simp[hd,ht]
     ·have hk:=(hc.at_ t).resolve_left ht
      obtain⟨r1,r2⟩:=qHu hk g3
      obtain⟨k1,k2,k3⟩:=qCn (at_ b t)
      rw[qD (by simpa using ht),qA4,qA,qPF k1 k2,qA,qG9 hs r1 r2 1 (.inl rfl),qA]
      simp only
      rw[qFu hs,qA]
      simp only
      rw[qD hn']
      simp[hd,ht]
    obtain⟨by',sides',ht⟩:=tail
    refine⟨by',sides',Eq.trans ?_ ht⟩
    cases p with
    | true=>
      have hx:=hx (fun a18=>ob (qBI f 0 K n b h s by_ sides m st) fun (a19_0,a19_1,a19_2,a19_3,a19_4,a19_5,a19_6,a19_7,a19_8)=>
       ob (qBI t a18 a19_0 a19_1 a19_2 a19_3 a19_4 a19_5 a19_6 a19_7 a19_8) fun r=>some r)
      rw[qD rfl] at hx ⊢
      obtain⟨u1,u2,u3⟩:=qFY (g4 rfl)
      have hl:laid b s f d true=16*s+up_ (kd (at_ b f)):=by unfold laid;rw[if_neg (by simpa using hd),if_pos rfl]
      rw[qA4,qA,qGX,qA,qF0 hs u1 u2 u3,qA,p1,qA]
      simp only
      rw[<- hl,p2,qA]
    | false=>
      have hl:laid b s f d false=at_ b f:=by unfold laid;rw[if_neg (by simpa using hd),if_neg (by simp)]
      rw[qF rfl,p1,qA]
      simp only
      rw[hl] at p2 ⊢
      rw[p2,qA]
   ·obtain⟨d0,d1,d2,d3,g1,g2⟩:=hP.drop hd
    have hl:laid b s f d p=16*s+d:=by unfold laid;rw[if_pos hd]
    have e1:qAg s d=some (laid b s f d p):=by rw[hl];exact qF0 hs (by omega) (by omega) (by omega)
    obtain⟨by1,sides1,p1⟩:=qNp hc t (laid b s f d p) (qEH K h s d (-1)) n (qu h s d (-1)) s by_ sides m st
    refine⟨by1,sides1,?_⟩
    rw[qD (by simpa using hd),e1,qA,qG9 hs (by omega) d1 (-1) (.inr rfl),qA]
    simp only
    rw[p1,qA]
    simp only
    rw[qFu hs,qA]
    simp only
    rw[qD hn']
    unfold qDa mb mh was
    simp only[if_pos hd,hl]
end Go.Kk.Pl
namespace Go.Kk.Pl
theorem qiV {b:List Int} (hc:Clean b) (h:List Int) (s:Int):∀ (n i:Nat),i+n=81->∀ (B:List Int) (by_ sides:List (List Int)),Clean B->(∀ j,j<i->B.getD j 0=b.getD j 0)->
  ∃ by' sides',∀ f,qB5 (f+n+1) b i B h s by_ sides=some (b,h,s,by',sides'):=by
 intro n
 induction n with
 | zero=>
   intro i hi B by_ sides hB hj
   have e:B=b:=by
    refine List.ext_getElem (by rw[hB.len,hc.len]) fun j h1 h2=>?_
    have:=hj j (by have:=hB.len;omega)
    rwa [List.getD_eq_getElem?_getD,List.getD_eq_getElem?_getD,List.getElem?_eq_getElem h1,List.getElem?_eq_getElem h2] at this
   subst e
   refine⟨by_,sides,fun f=>?_⟩
   show qDJ (qB5 (f+0)) _ _ _ _ _ _ _=_
   unfold qDJ
   rw[qF (by simp;omega)]
 | succ n ih=>
   intro i hi B by_ sides hB hj
   have hz:Int.toNat (i:Int)=i:=by simp
   obtain⟨by1,sides1,p1⟩:=qXE hB i (b.getD i 0) h s by_ sides
   obtain⟨by',sides',h2⟩:=ih (i+1) (by omega) (put B i (b.getD i 0)) by1 sides1 (hB.put _ _) (by
    intro j hji
    unfold put
    rw[if_pos (by omega),hz]
    by_cases e:i=j
    ·subst e
     rw[List.getD_eq_getElem?_getD,List.getElem?_set_self (by rw[hB.len];omega),Option.getD_some]
     split
     ·rename_i hk
      rcases hc.ok i (by omega) with h0 | h0
      ·exact h0.symm
      ·exact absurd hk h0
     ·rfl
    ·rw[List.getD_eq_getElem?_getD,List.getElem?_set_ne e,<- List.getD_eq_getElem?_getD]
     exact hj j (by omega))
   refine⟨by',sides',fun f=>?_⟩
   show qDJ (qB5 (f+n+1)) _ _ _ _ _ _ _=_
   unfold qDJ
   simp only[cond_true,hz]
   rw[qD (by simp;omega),qD (qx (by omega) (by omega)),p1,qA]
   simp only
   rw[qAK (by omega) (by omega)]
   exact h2 f
theorem qen:Clean (List.replicate 81 0):=⟨by simp,fun i hi=>.inl (by rw[List.getD_eq_getElem?_getD,List.getElem?_replicate,if_pos hi];rfl)⟩
theorem qdr {b:List Int} (hc:Clean b) (h:List Int) (s:Int):∃ by_ sides,qBr b h s=some (b,h,s,by_,sides):=by
 obtain⟨g,hg⟩:=qe 81 (by omega)
 obtain⟨by',sides',h1⟩:=qiV hc h s 81 0 (by omega) (List.replicate 81 0) (List.replicate 32 [0,0]) [[0,0],[0,0]] qen (fun j hj=>by omega)
 have h1:=h1 g
 rw[<- hg] at h1
 have h1:qB5 qC b 0 (List.replicate 81 0) h s (List.replicate 32 [0,0]) [[0,0],[0,0]]=some (b,h,s,by',sides'):=h1
 refine⟨by',sides',?_⟩
 unfold qBr
 show ob (qB5 qC b 0 (List.replicate 81 0) h s (List.replicate 32 [0,0]) [[0,0],[0,0]]) _=_
 rw[h1,qA]
def kof (b h:List Int) (s:Int):Int:=(qDT b h s).getD 0
theorem qVW (b h:List Int) (s:Int):qDT b h s=some (kof b h s):=by
 obtain⟨k,hk,_⟩:=qVT b h s
 unfold kof;rw[hk];rfl
theorem qgR {b:List Int} (hc:Clean b) (h:List Int) (s:Int):∃ by_ sides,qEC b h s=some (kof b h s,0,b,h,s,by_,sides,0,[]):=by
 obtain⟨by_,sides,h1⟩:=qdr hc h s
 refine⟨by_,sides,?_⟩
 unfold qEC
 rw[h1,qA]
 simp only
 rw[qVW,qA]
end Go.Kk.Pl
namespace Go.Kk.Pl
def dl (x k:Int):Int:=if rw_ (kd x)=k then 1 else 0
theorem qD8 (x:Int) (l:List Int) (k:Int):(cnt (x :: l) k:Int)=cnt l k+dl x k:=by
 unfold cnt dl
 rw[List.countP_cons]
 by_cases h:rw_ (kd x)=k
 ·simp[h]
 ·have:(rw_ (kd x)==k)=false:=by simpa using h
  simp[h]
theorem qeu (x k:Int):∀ (l:List Int) (i:Nat),i<l.length->(cnt (l.set i x) k:Int)+dl (l.getD i 0) k=cnt l k+dl x k:=by
 intro l
 induction l with
 | nil=>intro i hi;simp at hi
 | cons y l ih=>
   intro i hi
   cases i with
   | zero=>
     simp only[List.set_cons_zero,qD8,List.getD_cons_zero]
     omega
   | succ i=>
     have:=ih i (by simpa using hi)
     simp only[List.set_cons_succ,qD8,List.getD_cons_succ]
     omega
theorem qgk (x:Int):kd (if kd x=0 then 0 else x)=kd x:=by
 split
 ·rename_i h;rw[h];exact qE5
 ·rfl
theorem qM8 {b:List Int} (hl:b.length=81) {q:Int} (hq:0<=q /\ q<81) (x k:Int):(cnt (put b q x) k:Int)+dl (at_ b q) k=cnt b k+dl x k:=by
 unfold put at_
 rw[if_pos hq,if_pos hq]
 have:=qeu (if kd x=0 then 0 else x) k b q.toNat (by omega)
 have e:dl (if kd x=0 then 0 else x) k=dl x k:=by unfold dl;rw[qgk]
 rw[e] at this
 exact this
theorem qNI {k:Int} (h:1<=k):dl 0 k=0:=by
 unfold dl
 rw[if_neg]
 rw[qE5]
 unfold rw_
 rw[if_pos (by omega)]
 omega
theorem qFd {n:Int} (h1:-128<=n) (h2:n<=127):IntKind.wrap .i8 n=n:=qBD h1 h2
theorem qpu (n:Int):-128<=IntKind.wrap .i8 n /\ IntKind.wrap .i8 n<=127:=by
 simp[IntKind.wrap,IntKind.signed,IntKind.bits]
 omega
theorem qNr (h:List Int) (s k d:Int):(qu h s k d).length=h.length:=by simp[qu]
theorem qUM {h:List Int} (hf:qAi h) (s k d:Int):qAi (qu h s k d):=by
 intro i
 unfold qu
 by_cases e:s.toNat*8+k.toNat=i
 ·by_cases hi:i<h.length
  ·subst e
   rw[List.getD_eq_getElem?_getD,List.getElem?_set_self hi]
   exact qpu _
  ·rw[List.getD_eq_getElem?_getD,List.getElem?_eq_none (by simpa using hi)]
   simp
 ·rw[List.getD_eq_getElem?_getD,List.getElem?_set_ne e,<- List.getD_eq_getElem?_getD]
  exact hf i
theorem qE3 {h:List Int} (hl:h.length=16) {s k:Int} (hs:s=0 \/ s=1) (k0:0<=k) (k1:k<8) (d:Int) {s' k':Int} (hs':s'=0 \/ s'=1) (k0':0<=k') (k1':k'<8):
  hd_ (qu h s k d) s' k'=if s'=s /\ k'=k then IntKind.wrap .i8 (hd_ h s k+d) else hd_ h s' k':=by
 by_cases e:s'=s /\ k'=k
 ·obtain⟨rfl,rfl⟩:=e
  rw[if_pos ⟨rfl,rfl⟩]
  unfold qu
  rw[show hd_ (h.set (s'.toNat*8+k'.toNat) (IntKind.wrap .i8 (hd_ h s' k'+d))) s' k'=(h.set (s'.toNat*8+k'.toNat) (IntKind.wrap .i8 (hd_ h s' k'+d))).getD (s'.toNat*8+k'.toNat) 0 from rfl,
   List.getD_eq_getElem?_getD,List.getElem?_set_self (by rcases hs' with rfl | rfl<;>simp<;>omega)]
  rfl
 ·rw[if_neg e]
  unfold qu hd_
  rw[List.getD_eq_getElem?_getD,List.getElem?_set_ne (by rcases hs with rfl | rfl<;>rcases hs' with rfl | rfl<;>simp<;>omega),<- List.getD_eq_getElem?_getD]
theorem qGw {h:List Int} (hf:qAi h) (s k:Int):-128<=hd_ h s k /\ hd_ h s k<=127:=hf _
theorem qmJ {k:Int} (h1:1<=k) (h2:k<8):rw_ k=k:=by
 unfold rw_
 rw[if_neg (by omega),if_neg (by omega)]
theorem qmK {k:Int} (h:up_ k≠0):rw_ (up_ k)=rw_ k:=by
 unfold up_ at h ⊢
 split
 ·unfold rw_
  rw[if_neg (by omega),if_pos (by omega),if_neg (by omega),if_neg (by omega)]
  omega
 ·rename_i h2;rw[if_neg h2] at h;exact absurd rfl h
theorem qjs {b h:List Int} {s:Int} (hS:Sound b h s) (hf:qAi h) (hl:h.length=16) {f t d:Int} {p:Bool} (hP:CanP b h s f t d p) {k:Int} (k0:1<=k) (k1:k<8):
  (cnt (mb b s f t d p) k:Int)+hd_ (mh b h s t d) 0 k+hd_ (mh b h s t d) 1 k=cnt b k+hd_ h 0 k+hd_ h 1 k:=by
 have hsd:=hS.side
 by_cases hd:d=0
 ·obtain⟨f0,f1,f2,g1,g2,g3,g4⟩:=hP.move hd
  unfold mb mh
  rw[if_neg (by simpa using hd),if_neg (by simpa using hd)]
  have c1:=qM8 hS.clean.len ⟨f0,f1⟩ 0 k
  have c2:=qM8 (hS.clean.put f 0).len hP.to_ (laid b s f d p) k
  have e1:at_ (put b f 0) t=at_ b t:=by rw[qDG hS.clean.len ⟨f0,f1⟩,if_neg (Ne.symm f2)]
  rw[e1] at c2
  rw[qNI k0] at c1
  have e2:dl (laid b s f d p) k=dl (at_ b f) k:=by
   unfold laid
   rw[if_neg (by simpa using hd)]
   cases p with
   | false=>rfl
   | true=>
     have hu:=g4 rfl
     obtain⟨u1,u2,u3⟩:=qFY hu
     rw[if_pos rfl]
     unfold dl
     rw[qHC hsd u1 u2 u3,qmK hu]
  rw[e2] at c2
  by_cases ht:at_ b t=0
  ·rw[if_pos ht]
   rw[ht,qNI k0] at c2
   omega
  ·rw[if_neg ht]
   have hk:=(hS.clean.at_ t).resolve_left ht
   obtain⟨r1,r2⟩:=qHu hk g3
   have hc:=hS.counts _ r1 r2
   have h0:=hS.hands (rw_ (kd (at_ b t))) (by omega) r2
   rw[qE3 hl hsd (by omega) r2 1 (.inl rfl) (by omega) k1,qE3 hl hsd (by omega) r2 1 (.inr rfl) (by omega) k1]
   by_cases hkr:k=rw_ (kd (at_ b t))
   ·have e3:dl (at_ b t) k=1:=by unfold dl;rw[if_pos hkr.symm]
    rw[e3] at c2
    rcases hsd with rfl | rfl
    ·rw[if_pos ⟨rfl,hkr⟩,if_neg (by omega),qFd (by omega) (by omega),<- hkr]
     omega
    ·rw[if_neg (by omega),if_pos ⟨rfl,hkr⟩,qFd (by omega) (by omega),<- hkr]
     omega
   ·have e3:dl (at_ b t) k=0:=by unfold dl;rw[if_neg (Ne.symm hkr)]
    rw[e3] at c2
    rw[if_neg (fun h=>hkr h.2),if_neg (fun h=>hkr h.2)]
    omega
 ·obtain⟨d0,d1,d2,d3,g1,g2⟩:=hP.drop hd
  unfold mb mh
  rw[if_pos hd,if_pos hd]
  have c1:=qM8 hS.clean.len hP.to_ (laid b s f d p) k
  have hl':laid b s f d p=16*s+d:=by unfold laid;rw[if_pos hd]
  rw[g2,qNI k0,hl'] at c1
  rw[hl']
  have hb:=qGw hf s d
  rw[qE3 hl hsd (by omega) d1 (-1) (.inl rfl) (by omega) k1,qE3 hl hsd (by omega) d1 (-1) (.inr rfl) (by omega) k1]
  have e3:dl (16*s+d) k=if d=k then 1 else 0:=by
   unfold dl
   rw[qHC hsd (by omega) (by omega) (by omega),qmJ (by omega) d1]
  rw[e3] at c1
  by_cases hkd:k=d
  ·subst hkd
   rw[if_pos rfl] at c1
   rcases hsd with rfl | rfl
   ·rw[if_pos ⟨rfl,rfl⟩,if_neg (by omega),qFd (by omega) (by omega)]
    omega
   ·rw[if_neg (by omega),if_pos ⟨rfl,rfl⟩,qFd (by omega) (by omega)]
    omega
  ·rw[if_neg (Ne.symm hkd)] at c1
   rw[if_neg (fun h=>hkd h.2),if_neg (fun h=>hkd h.2)]
   omega
theorem qWJ {b:List Int} (hc:Clean b) (s f t d:Int) (p:Bool):Clean (mb b s f t d p):=by
 unfold mb
 split
 ·exact hc.put _ _
 ·exact (hc.put _ _).put _ _
theorem qh6 {h:List Int} (hf:qAi h) (b:List Int) (s t d:Int):qAi (mh b h s t d):=by
 unfold mh
 split
 ·exact qUM hf _ _ _
 ·split
  ·exact hf
  ·exact qUM hf _ _ _
theorem qh7 {h:List Int} (hl:h.length=16) (b:List Int) (s t d:Int):(mh b h s t d).length=16:=by
 unfold mh
 split
 ·rw[qNr];exact hl
 ·split
  ·exact hl
  ·rw[qNr];exact hl
end Go.Kk.Pl
namespace Go.Kk.Pl
theorem canP {b h:List Int} {s f t d:Int} {p:Bool} (hm:qCi b h s f t d p=true):(s=0 \/ s=1) /\ CanP b h s f t d p:=by
 unfold qCi at hm
 rw[Bool.and_eq_true,Bool.and_eq_true,decide_eq_true_eq,decide_eq_true_eq] at hm
 obtain⟨h1,hs,h2⟩:=hm
 obtain⟨ht,hd,hmv⟩:=qTL h1
 refine⟨hs,ht,fun d0=>?_,fun d0=>?_⟩
 ·rw[if_pos d0] at h2
  simp only[Bool.and_eq_true,decide_eq_true_eq] at h2
  have:=hd d0
  exact⟨by omega,by omega,this.2.2.1,this.2.2.2,by omega,h2.2⟩
 ·rw[if_neg (by simpa using d0)] at h2
  simp only[Bool.and_eq_true,decide_eq_true_eq,Bool.or_eq_true,Bool.not_eq_true'] at h2
  obtain⟨h3,h4⟩:=hmv d0
  exact⟨h3.1,h3.2,h4,h2.1.1,h2.1.2.1,h2.1.2.2,fun hp=>by
   rcases h2.2 with h5 | h5
   ·rw[hp] at h5;cases h5
   ·exact h5⟩
theorem qHT {b h:List Int} {s f t d:Int} {p:Bool} (hm:qAv b h s f t d p=true):(s=0 \/ s=1) /\ CanP b h s f t d p:=by
 unfold qAv at hm
 rw[Bool.and_eq_true] at hm
 exact canP hm.1
theorem qgl {x s:Int} (hs:s=0 \/ s=1) (h:sd x=s):kd x≠0:=by
 intro h0
 rw[qZO h0] at h
 omega
theorem qHF {b h:List Int} {s f t d:Int} {p:Bool} (hs:s=0 \/ s=1) (hP:CanP b h s f t d p):sd (laid b s f d p)=s /\ kd (laid b s f d p)≠0 /\ (laid b s f d p=pc s 8↔d=0 /\ at_ b f=pc s 8):=by
 unfold laid
 by_cases hd:d=0
 ·have hm:=hP.move hd
  rw[if_neg (by simpa using hd)]
  cases p with
  | false=>
    rw[if_neg (by simp)]
    exact⟨hm.2.2.2.1,qgl hs hm.2.2.2.1,fun h=>⟨hd,h⟩,fun h=>h.2⟩
  | true=>
    rw[if_pos rfl]
    have hu:=hm.2.2.2.2.2.2 rfl
    obtain⟨u1,u2,u3⟩:=qFY hu
    have hx:=qDr hs u1 u2 u3
    rw[qA9 hs u1 u2 u3] at hx
    have u8:up_ (kd (at_ b f))≠8:=by unfold up_;split<;>omega
    refine⟨hx.1,by rw[hx.2];omega,fun h=>?_,fun h=>?_⟩
    ·rw[qA9 hs (by omega) (by omega) (by omega)] at h
     omega
    ·exfalso
     apply hu
     rw[h.2,(qDr hs (by omega) (by omega) (by omega)).2]
     rfl
 ·have hm:=hP.drop hd
  rw[if_pos hd]
  have hx:=qDr hs (k:=d) (by omega) (by omega) (by omega)
  rw[qA9 hs (by omega) (by omega) (by omega)] at hx
  refine⟨hx.1,by rw[hx.2];exact hd,fun h=>?_,fun h=>absurd h.1 hd⟩
  rw[qA9 hs (by omega) (by omega) (by omega)] at h
  omega
theorem qEL {b h:List Int} {s f t d:Int} {p:Bool} (hc:Clean b) (hs:s=0 \/ s=1) (hP:CanP b h s f t d p) {i:Nat} (hi:i<81):
  (mb b s f t d p).getD i 0=if i=t.toNat then laid b s f d p else if d=0 /\ i=f.toNat then 0 else b.getD i 0:=by
 have ht:=hP.to_
 have hl:=(qHF hs hP).2.1
 have e1:(mb b s f t d p).getD i 0=at_ (mb b s f t d p) i:=by rw[qBF (by omega),tn]
 have e2:b.getD i 0=at_ b i:=by rw[qBF (by omega),tn]
 rw[e1,e2]
 unfold mb
 by_cases hd:d=0
 ·have hm:=hP.move hd
  rw[if_neg (by simpa using hd),qDG (hc.put f 0).1 ht,if_neg hl,qDG hc.1 ⟨hm.1,hm.2.1⟩]
  by_cases h1:i=t.toNat
  ·rw[if_pos (c:=(i:Int)=t) (by omega),if_pos h1]
  ·rw[if_neg (c:=(i:Int)=t) (by omega),if_neg h1]
   by_cases h2:i=f.toNat
   ·rw[if_pos (c:=(i:Int)=f) (by omega),if_pos (c:=d=0 /\ i=f.toNat) ⟨hd,h2⟩];rfl
   ·rw[if_neg (c:=(i:Int)=f) (by omega),if_neg (fun h=>h2 h.2)]
 ·rw[if_pos hd,qDG hc.1 ht,if_neg hl]
  by_cases h1:i=t.toNat
  ·rw[if_pos h1,if_pos (by omega)]
  ·rw[if_neg h1,if_neg (by omega),if_neg (fun h=>hd h.1)]
def KS (b:List Int) (s:Int) (k:Nat):Prop:=k<81 /\ ∀ i,i<81->(b.getD i 0=pc s 8↔i=k)
theorem pc8 {s:Int} (hs:s=0 \/ s=1):pc s 8=16*s+8:=qA9 hs (by omega) (by omega) (by omega)
theorem KS.kg {b:List Int} {s:Int} {k:Nat} (hs:s=0 \/ s=1) (h:KS b s k):kg b s=k:=by
 apply qNW h.1
 intro i hi
 unfold pcs
 rw[decide_eq_true_eq,h.2 i hi,pc8 hs]
 exact⟨fun h=>h.2,fun h=>⟨by omega,h⟩⟩
theorem qKa {b h:List Int} {s':Int} (hz:qBG b h s'=0) {s:Int} (hs:s=0 \/ s=1):∃ k,KS b s k:=by
 have hn:nP b 8=1 /\ nP b 24=1:=by
  unfold qBG at hz
  split at hz
  ·omega
  ·split at hz
   ·omega
   ·split at hz
    ·omega
    ·split at hz
     ·omega
     ·rename_i h;simpa using h
 have:nP b (pc s 8)=1:=by
  rw[pc8 hs]
  rcases hs with rfl | rfl
  ·exact hn.1
  ·exact hn.2
 obtain⟨k,hk,h⟩:=qGs.mp (show qAt (fun i=>b.getD i 0==pc s 8)=1 from this)
 exact⟨k,hk,fun i hi=>by rw[<- h i hi,beq_iff_eq]⟩
theorem KS.sd {b:List Int} {s:Int} {k:Nat} (hs:s=0 \/ s=1) (h:KS b s k):sd (b.getD k 0)=s /\ kd (b.getD k 0)=8:=by
 rw[(h.2 k h.1).mpr rfl]
 exact qDr hs (by omega) (by omega) (by omega)
theorem qOA {b h:List Int} {s f t d:Int} {p:Bool} (hc:Clean b) (hs:s=0 \/ s=1) (hP:CanP b h s f t d p) {k:Nat} (hk:KS b s k):
  KS (mb b s f t d p) s (if d=0 /\ f.toNat=k then t.toNat else k):=by
 have ht:=hP.to_
 have hl:=qHF hs hP
 have hkt:k≠t.toNat:=by
  intro e
  have h1:=(hk.sd hs)
  have e2:b.getD k 0=at_ b t:=by rw[qBF ht,e]
  rw[e2] at h1
  by_cases hd:d=0
  ·exact (hP.move hd).2.2.2.2.1 h1.1
  ·rw[(hP.drop hd).2.2.2.2.2,qE5] at h1
   omega
 have hp0:(0:Int)≠pc s 8:=by rw[pc8 hs];omega
 refine⟨by split;omega;exact hk.1,fun i hi=>?_⟩
 rw[qEL hc hs hP hi]
 by_cases h1:i=t.toNat
 ·rw[if_pos h1,hl.2.2]
  by_cases hd:d=0
  ·have hm:=hP.move hd
   rw[qBF ⟨hm.1,hm.2.1⟩,hk.2 _ (by omega)]
   by_cases hfk:f.toNat=k
   ·rw[if_pos ⟨hd,hfk⟩];exact⟨fun _=>h1,fun _=>⟨hd,hfk⟩⟩
   ·rw[if_neg (fun h=>hfk h.2)]
    exact⟨fun h=>absurd h.2 hfk,fun h=>absurd (h.symm.trans h1) hkt⟩
  ·rw[if_neg (fun h=>hd h.1)]
   exact⟨fun h=>absurd h.1 hd,fun h=>absurd (h.symm.trans h1) hkt⟩
 ·rw[if_neg h1]
  by_cases h2:d=0 /\ i=f.toNat
  ·rw[if_pos h2]
   refine⟨fun h=>absurd h hp0,fun h=>?_⟩
   split at h
   ·exact absurd h h1
   ·rename_i h3;exact absurd ⟨h2.1,by omega⟩ h3
  ·rw[if_neg h2,hk.2 i hi]
   split
   ·rename_i h3
    exact⟨fun h=>absurd ⟨h3.1,by omega⟩ h2,fun h=>absurd h h1⟩
   ·exact Iff.rfl
theorem qKZ {b h:List Int} {s f t d:Int} {p:Bool} (hc:Clean b) (hs:s=0 \/ s=1) (hP:CanP b h s f t d p) {k:Nat} (hk:KS b (1 - s) k):
  KS (mb b s f t d p) (1 - s) k:=by
 have ht:=hP.to_
 have hl:=qHF hs hP
 have hs':1 - s=0 \/ 1 - s=1:=by omega
 have hkt:k≠t.toNat:=by
  intro e
  have h1:=(hk.sd hs')
  have e2:b.getD k 0=at_ b t:=by rw[qBF ht,e]
  rw[e2] at h1
  by_cases hd:d=0
  ·exact (hP.move hd).2.2.2.2.2.1 h1.2
  ·rw[(hP.drop hd).2.2.2.2.2,qE5] at h1
   omega
 have hp0:(0:Int)≠pc (1 - s) 8:=by rw[pc8 hs'];omega
 refine⟨hk.1,fun i hi=>?_⟩
 rw[qEL hc hs hP hi]
 by_cases h1:i=t.toNat
 ·rw[if_pos h1]
  refine⟨fun h=>?_,fun h=>absurd (h.symm.trans h1) hkt⟩
  have:=hl.1
  rw[h,(qDr hs' (by omega) (by omega) (by omega)).1] at this
  omega
 ·rw[if_neg h1]
  by_cases h2:d=0 /\ i=f.toNat
  ·rw[if_pos h2]
   refine⟨fun h=>absurd h hp0,fun h=>?_⟩
   have hm:=hP.move h2.1
   have h3:=(hk.sd hs').1
   rw[<- h,h2.2,<- qBF ⟨hm.1,hm.2.1⟩,hm.2.2.2.1] at h3
   omega
  ·rw[if_neg h2]
   exact hk.2 i hi
theorem qEr {b:List Int} {s:Int} (hs:s=0 \/ s=1) {k:Nat} (hk:kg b s=k) (h81:k<81) (c:Nat):chs b s c=atk b s k c:=by
 unfold chs onS atk enm
 rw[hk,decide_eq_true (by omega),decide_eq_true (by omega),tn]
 rfl
def fof (f t d:Int):Nat:=if d=0 then f.toNat else t.toNat
theorem qRa {b h:List Int} {s f t d:Int} {p:Bool} (hc:Clean b) (hs:s=0 \/ s=1) (hP:CanP b h s f t d p) {i:Nat} (hi:i<81):tk (mb b s f t d p) i=tk2 b (fof f t d) t.toNat i:=by
 have hl:=qHF hs hP
 unfold tk tk2 fof
 rw[qEL hc hs hP hi]
 by_cases h1:i=t.toNat
 ·rw[if_pos h1,decide_eq_true h1,Bool.true_or,decide_eq_true_eq]
  intro h0
  rw[h0,qE5] at hl
  exact hl.2.1 rfl
 ·rw[if_neg h1,decide_eq_false h1,Bool.false_or]
  by_cases hd:d=0
  ·rw[if_pos hd]
   by_cases h2:i=f.toNat
   ·rw[if_pos ⟨hd,h2⟩,decide_eq_true h2];simp
   ·rw[if_neg (fun h=>h2 h.2),decide_eq_false h2];rfl
  ·rw[if_neg hd,if_neg (fun h=>hd h.1),decide_eq_false h1];rfl
theorem qT6 {b h:List Int} {s f t d:Int} {p:Bool} (hc:Clean b) (hs:s=0 \/ s=1) (hP:CanP b h s f t d p) {c:Nat} (hcc:c<81):enm (mb b s f t d p) s c=(decide (c≠t.toNat)&&enm b s c) /\ (enm (mb b s f t d p) s c=true->(mb b s f t d p).getD c 0=b.getD c 0):=by
 have hl:=qHF hs hP
 unfold enm
 rw[qEL hc hs hP hcc]
 by_cases h1:c=t.toNat
 ·rw[if_pos h1,hl.1,decide_eq_false (p:=s=1 - s) (by omega),decide_eq_false (p:=c≠t.toNat) (by simpa using h1)]
  exact⟨rfl,fun h=>by cases h⟩
 ·rw[if_neg h1,decide_eq_true (p:=c≠t.toNat) h1,Bool.true_and]
  by_cases h2:d=0 /\ c=f.toNat
  ·rw[if_pos h2,qJM]
   have hm:=hP.move h2.1
   rw[h2.2,<- qBF ⟨hm.1,hm.2.1⟩,hm.2.2.2.1,decide_eq_false (p:=(-1:Int)=1 - s) (by omega),decide_eq_false (p:=s=1 - s) (by omega)]
   exact⟨rfl,fun h=>by cases h⟩
  ·rw[if_neg h2]
   exact⟨rfl,fun _=>rfl⟩
theorem qTN {b h:List Int} {s f t d:Int} {p:Bool} (hc:Clean b) (hs:s=0 \/ s=1) (hP:CanP b h s f t d p) {k:Nat} (hk:KS b s k) (hn:¬ (d=0 /\ f.toNat=k)) {c:Nat} (hcc:c<81):
  chs (mb b s f t d p) s c=qD2 b s k (fof f t d) t.toNat c:=by
 have hk2:=qOA hc hs hP hk
 rw[if_neg hn] at hk2
 rw[qEr hs (hk2.kg hs) hk.1]
 obtain⟨e1,e2⟩:=qT6 hc hs hP hcc
 unfold atk qD2
 cases he:enm (mb b s f t d p) s c with
 | false=>
   rw[he] at e1
   rw[Bool.false_and,<- Bool.and_assoc,<- e1,Bool.false_and]
 | true=>
   rw[<- Bool.and_assoc,<- e1,he,Bool.true_and,Bool.true_and,e2 he]
   exact qXa hcc hk.1 (fun i hi=>qRa hc hs hP hi)
theorem qTM {b h:List Int} {s f t d:Int} {p:Bool} (hc:Clean b) (hs:s=0 \/ s=1) (hP:CanP b h s f t d p) {k:Nat} (hk:KS b s k) (hn:d=0 /\ f.toNat=k) {c:Nat} (hcc:c<81):
  chs (mb b s f t d p) s c=onS b t (1 - s) (fun i=>tk b i && !only f i) c:=by
 have hk2:=qOA hc hs hP hk
 have ht:=hP.to_
 have hm:=hP.move hn.1
 rw[if_pos hn] at hk2
 rw[qEr hs (hk2.kg hs) hk2.1]
 obtain⟨e1,e2⟩:=qT6 hc hs hP hcc
 unfold atk onS
 rw[decide_eq_true ht,decide_eq_true (p:=1 - s=0 \/ 1 - s=1) (by omega),Bool.true_and,Bool.true_and]
 show _=(enm b s c&&_)
 by_cases h1:c=t.toNat
 ·rw[e1,decide_eq_false (p:=c≠t.toNat) (by simpa using h1),<- h1,qXb,qXb,Bool.and_false,Bool.and_false]
 ·rw [decide_eq_true (p:=c≠t.toNat) h1,Bool.true_and] at e1
  rw[e1]
  cases he:enm b s c with
  | false=>rfl
  | true=>
    rw[e2 (by rw[e1,he]),Bool.true_and,Bool.true_and,Bool.eq_iff_iff,qBx,qBx]
    have:∀ i∈btw c t.toNat,tk (mb b s f t d p) i=(tk b i && !only f i):=by
     intro i hi
     have hw:=qIV (by omega) hcc hi
     rw[qRa hc hs hP hw.1]
     unfold tk2 fof only
     rw[decide_eq_false hw.2.1,if_pos hn.1,Bool.false_or,Bool.and_comm]
     congr 2
     rw[decide_eq_decide]
     omega
    constructor
    ·rintro (h | ⟨h,h'⟩)
     ·exact .inl h
     ·exact .inr ⟨h,fun i hi=>by rw[<- this i hi];exact h' i hi⟩
    ·rintro (h | ⟨h,h'⟩)
     ·exact .inl h
     ·exact .inr ⟨h,fun i hi=>by rw[this i hi];exact h' i hi⟩
def qp (b:List Int) (s:Int) (t:Nat):Bool:=(List.range 81).all fun c=>!chs b s c||qDy (kg b s).toNat c t
def qF5 (b:List Int) (s:Int) (f t:Nat):Bool:=(List.range 81).all fun c=>!qAL b s (kg b s).toNat f c||qDy (kg b s).toNat c t
def stB (b:List Int) (s:Int) (f t:Nat):Bool:=if (f:Int)=kg b s then isE (onS b t (1 - s) (fun i=>tk b i && !only f i)) else qp b s t&&qF5 b s f t
theorem qJi {k c t:Nat}:qDy k c t=true↔t=c \/ t∈btw c k:=by
 unfold qDy only
 rw[Bool.or_eq_true,List.contains_iff_mem,decide_eq_true_eq]
 constructor
 ·rintro (h | h)
  ·exact .inr h
  ·exact .inl (by omega)
 ·rintro (h | h)
  ·exact .inr (by omega)
  ·exact .inl h
theorem qI6 {b:List Int} {s:Int} (hs:s=0 \/ s=1) {k:Nat} (hk:KS b s k) {t:Nat}:qp b s t=true ↔ ∀ c,c<81->atk b s k c=true->t=c \/ t∈btw c k:=by
 have hkg:=hk.kg hs
 unfold qp
 rw[List.all_eq_true,hkg,tn]
 constructor
 ·intro h c hc ha
  have:=h c (List.mem_range.mpr hc)
  rw[qEr hs hkg hk.1,ha,Bool.not_true,Bool.false_or] at this
  exact qJi.mp this
 ·intro h c hc
  rw[qEr hs hkg hk.1]
  cases ha:atk b s k c with
  | false=>rfl
  | true=>
    rw[Bool.not_true,Bool.false_or]
    exact qJi.mpr (h c (List.mem_range.mp hc) ha)
theorem qK8 {b:List Int} {s:Int} (hs:s=0 \/ s=1) {k:Nat} (hk:KS b s k) {f t:Nat}:qF5 b s f t=true ↔ ∀ c,c<81->qAL b s k f c=true->t=c \/ t∈btw c k:=by
 unfold qF5
 rw[List.all_eq_true,hk.kg hs,tn]
 constructor
 ·intro h c hc ha
  have:=h c (List.mem_range.mpr hc)
  rw[ha,Bool.not_true,Bool.false_or] at this
  exact qJi.mp this
 ·intro h c hc
  cases ha:qAL b s k f c with
  | false=>rfl
  | true=>
    rw[Bool.not_true,Bool.false_or]
    exact qJi.mpr (h c (List.mem_range.mp hc) ha)
theorem qLY {b h:List Int} {s f t d:Int} {p:Bool} (hc:Clean b) (hs:s=0 \/ s=1) (hP:CanP b h s f t d p) {k:Nat} (hk:KS b s k):
  (!inC (mb b s f t d p) s)=if d=0 then stB b s f.toNat t.toNat else qp b s t.toNat:=by
 have ht:=hP.to_
 unfold inC
 rw[Bool.not_not]
 by_cases hn:d=0 /\ f.toNat=k
 ·have hm:=hP.move hn.1
  rw[if_pos hn.1]
  unfold stB
  rw[if_pos (by rw[hk.kg hs,hn.2]),Bool.eq_iff_iff,qCm,qCm,show ((t.toNat:Nat):Int)=t by omega,show ((f.toNat:Nat):Int)=f by omega]
  constructor
  ·intro h i hi;rw[<- qTM hc hs hP hk hn hi];exact h i hi
  ·intro h i hi;rw[qTM hc hs hP hk hn hi];exact h i hi
 ·have hf:tk b (fof f t d)=true->sd (b.getD (fof f t d) 0)=s:=by
   unfold fof
   intro htk
   by_cases hd:d=0
   ·have hm:=hP.move hd
    rw[if_pos hd,<- qBF ⟨hm.1,hm.2.1⟩]
    exact hm.2.2.2.1
   ·rw[if_neg hd] at htk
    unfold tk at htk
    rw[<- qBF ht,(hP.drop hd).2.2.2.2.2] at htk
    simp at htk
  have key:=qdD (b:=b) (s:=s) (k:=k) (f:=fof f t d) (t:=t.toNat) hf
  have e:isE (chs (mb b s f t d p) s)=(qp b s t.toNat&&qF5 b s (fof f t d) t.toNat):=by
   rw[Bool.eq_iff_iff,qCm,Bool.and_eq_true,qI6 hs hk,qK8 hs hk,<- key]
   constructor
   ·intro h c hcc;rw[<- qTN hc hs hP hk hn hcc];exact h c hcc
   ·intro h c hcc;rw[qTN hc hs hP hk hn hcc];exact h c hcc
  rw[e]
  by_cases hd:d=0
  ·rw[if_pos hd]
   unfold stB
   have hm:=hP.move hd
   rw[if_neg (by rw[hk.kg hs];intro e;exact hn ⟨hd,by omega⟩)]
   unfold fof
   rw[if_pos hd]
  ·rw[if_neg hd]
   have:qF5 b s (fof f t d) t.toNat=true:=by
    rw[qK8 hs hk]
    intro c _ hp
    have:=(qC4.mp hp).2.2.2.1
    unfold fof tk at this
    rw[if_neg hd,<- qBF ht,(hP.drop hd).2.2.2.2.2] at this
    simp at this
   rw[this,Bool.and_true]
end Go.Kk.Pl
namespace Go.Kk.Pl
def T_ (_:Nat):Bool:=true
theorem qjx {b:List Int} (hcl:Clean b) (h:List Int) (S:Int) {s:Int} (hs:s=0 \/ s=1) {k:Nat} (hk:KS b s k):∃ es,qGj s b h S (qH b) (qK b)=some es /\ qBq b s k (fun _=>true) es:=by
 obtain⟨es,h1,_,h3⟩:=qjy hcl h S hs
 refine⟨es,h1,?_⟩
 have hkg:=hk.kg hs
 have h3:=h3 (by omega)
 rw[hkg,tn] at h3
 intro f hf
 obtain⟨a,a'⟩:=h3 f hf
 have hP:∀ c,qAL b s k f c=true->(enm b s c&&(qAf.any fun x=>pcs b (pc (1 - s) x) c))=true:=by
  intro c hp
  have:=qC4.mp hp
  rw[this.1,qn0 hs this.1 this.2.1];rfl
 refine⟨?_,fun c hc _ hp=>a' c hc (hP c hp) hp⟩
 rw[a]
 constructor
 ·rintro ⟨c,x,_,x'⟩;exact⟨c,x,rfl,x'⟩
 ·rintro ⟨c,x,_,x'⟩;exact⟨c,x,hP c x',x'⟩
theorem qV8 {b:List Int} (hcl:Clean b) (h:List Int) {s:Int} (hs:s=0 \/ s=1) {k:Nat} (hk:KS b s k):
  ∃ es chk,qHN b h s (qH b) (qK b)=some (s,(k:Int),sLo (qp b s),sHi (qp b s),chk,es) /\ qBq b s k (fun _=>true) es:=by
 obtain⟨es,he,hp⟩:=qjx hcl h s hs hk
 have hkg:=hk.kg hs
 have hkg':fst (pcs b (pc s 8))=(k:Int):=hkg
 have ha:∀ c,chs b s c=atk b s k c:=qEr hs hkg hk.1
 unfold qHN
 rw[qN9,hkg',qA,qJp,qA]
 simp only
 rw[he,qA,qTJ hcl h s (by omega),qA]
 simp only
 rw[qTU,qA]
 by_cases n0:((qAt (chs b s):Nat):Int)=0
 ·rw[qo n0]
  have hE:isE (chs b s)=true:=by rw[qM7,decide_eq_true_eq];omega
  have:∀ i,i<81->(fun _:Nat=>true) i=qp b s i:=by
   intro i _
   symm
   show qp b s i=true
   rw[qI6 hs hk]
   intro c hc h1
   rw[<- ha,qCm.mp hE c hc] at h1
   cases h1
  have:=qB1 this
  rw[this.1,this.2]
  exact⟨es,false,rfl,hp⟩
 ·rw [qm n0]
  by_cases n1:((qAt (chs b s):Nat):Int)=1
  ·obtain⟨f,hf,hm⟩:=qGs.mp (show qAt (chs b s)=1 by omega)
   rw[qo n1,qNR,qA,qNW hf hm,qXH hf hk.1,qA]
   simp only
   rw[qHX,qA]
   simp only
   have:∀ i,i<81->((btw f k).contains i||chs b s i)=qp b s i:=by
    intro i hi
    rw[Bool.eq_iff_iff,Bool.or_eq_true,List.contains_iff_mem,hm i hi,qI6 hs hk]
    constructor
    ·intro h1 c hc h2
     rw[<- ha,hm c hc] at h2
     subst h2
     exact h1.elim .inr .inl
    ·intro h1
     exact (h1 f hf (by rw[<- ha];exact (hm f hf).mpr rfl)).elim .inr .inl
   have:=qB1 this
   rw[this.1,this.2]
   exact⟨es,true,rfl,hp⟩
  ·rw [qm n1]
   have hE:isE (chs b s)=false:=by
    rw[qM7,decide_eq_false_iff_not];omega
   obtain⟨c,hc,hc'⟩:∃ c,c<81 /\ chs b s c=true:=by
    apply Classical.byContradiction
    intro hno
    have:isE (chs b s)=true:=by
     rw[qCm]
     intro i hi
     cases hx:chs b s i with
     | false=>rfl
     | true=>exact absurd ⟨i,hi,hx⟩ hno
    rw[hE] at this;cases this
   obtain⟨c2,hc2,hc2',hne⟩:∃ c2,c2<81 /\ chs b s c2=true /\ c≠c2:=by
    apply Classical.byContradiction
    intro hno
    apply n1
    rw[qGs.mpr ⟨c,hc,fun i hi=>⟨fun h1=>?_,fun h1=>h1 ▸ hc'⟩⟩]
    ·rfl
    ·apply Classical.byContradiction
     intro hx
     exact hno ⟨i,hi,h1,fun e=>hx e.symm⟩
   have:∀ i,i<81->(fun _:Nat=>false) i=qp b s i:=by
    intro i hi
    symm
    show qp b s i=false
    cases ho:qp b s i with
    | false=>rfl
    | true=>
      rw[qI6 hs hk] at ho
      exact (qpK hs hk.1 hc hc2 (by rw[<- ha];exact hc') (by rw[<- ha];exact hc2') hne (ho c hc (by rw[<- ha];exact hc')) (ho c2 hc2 (by rw[<- ha];exact hc2'))).elim
   have:=qB1 this
   rw[qBm,qBl] at this
   exact⟨es,true,by rw[<- this.1,<- this.2],hp⟩
theorem qa4 {b:List Int} (hcl:Clean b) (h:List Int) (S:Int) {s:Int} (hs:s=0 \/ s=1) {k:Nat} (hk:KS b s k) {es:List (List Int×List Int)} (hp:qBq b s k (fun _=>true) es) {f t:Int} (hf:0<=f /\ f<81) (ht:0<=t /\ t<81) (d:Int) (p chk:Bool):
  qHO s (k:Int) (sLo (qp b s)) (sHi (qp b s)) chk f t d p b h S (qH b) (qK b) es=some (stB b s f.toNat t.toNat,b,h,S,qH b,qK b,es):=by
 obtain⟨f,rfl⟩:∃ n:Nat,f=n:=⟨f.toNat,by omega⟩
 obtain⟨t,rfl⟩:∃ n:Nat,t=n:=⟨t.toNat,by omega⟩
 rw[tn,tn]
 have hkg:=hk.kg hs
 have hh:∀ g:Nat->Bool,has g (t:Int)=g t:=by
  intro g;unfold has;rw[decide_eq_true (by omega),decide_eq_true (by omega),tn];rfl
 unfold qHO stB
 rw[hkg]
 by_cases hfk:(f:Int)=k
 ·rw[qo hfk,if_pos hfk,qJb hcl,qA]
  simp only
  rw[qJj,qA]
  simp only
  rw[w_s (n:=1 - s) (by omega) (by omega),qWi,qA]
  simp only
  rw[qKC,qA,hfk]
 ·rw[qm hfk,if_neg hfk,qEG,qA,hh]
  cases ho:qp b s t with
  | false=>rfl
  | true=>
    rw[Bool.not_true,b_f,Bool.true_and]
    obtain⟨h1,h2⟩:=hp f (by omega)
    cases hM:qA3 es [(f:Int)] with
    | false=>
      rw[Bool.not_false,b_t]
      have:qF5 b s f t=true:=by
       rw[qK8 hs hk]
       intro c hc hpin
       rw[h1.mpr ⟨c,hc,rfl,hpin⟩] at hM;cases hM
      rw[this]
    | true=>
      obtain⟨c,hc,_,hpin⟩:=h1.mp hM
      rw[Bool.not_true,b_f,h2 c hc rfl hpin]
      show (ob (qCG (sLo (qDy k c)) (sHi (qDy k c)) (t:Int)) _)=_
      rw[qEG,qA,hh]
      have:qDy k c t=qF5 b s f t:=by
       rw[Bool.eq_iff_iff,qJi,qK8 hs hk]
       constructor
       ·intro h3 c' hc' hpin'
        rw[qW8 hs hk.1 hc' hc hpin' hpin];exact h3
       ·intro h3;exact h3 c hc hpin
      rw[this]
def m0 (m:List Int):Int:=m.getD 0 0
def m1 (m:List Int):Int:=m.getD 1 0
def m2 (m:List Int):Int:=m.getD 2 0
def m3 (m:List Int):Bool:=m.getD 3 0 != 0
def Mv4 (m:List Int):Prop:=m=[m0 m,m1 m,m2 m,bi (m3 m)] /\ (0<=m0 m /\ m0 m<81) /\ (0<=m1 m /\ m1 m<81)
theorem qiG {b h:List Int} {s f t d p:Int} (hok:MvOK b h s f t d p):Mv4 [f,t,d,p]:=by
 refine⟨?_,hok.fr,hok.tr⟩
 show [f,t,d,p]=[f,t,d,bi (p != 0)]
 rcases hok.pp with h0 | h0<;>rw[h0]<;>rfl
theorem qKu {b h:List Int} (hc:Clean b) {s:Int} (hs:s=0 \/ s=1) {m:List Int} (hm:m∈mvs b h s):Mv4 m /\ qAv b h s (m0 m) (m1 m) (m2 m) (m3 m)=true:=by
 obtain⟨f,t,d,p,rfl,hok⟩:=qiN hc hs hm
 exact⟨qiG hok,hok.mov⟩
theorem qKt {b:List Int} (hc:Clean b) (h:List Int) {s:Int} (hs:s=0 \/ s=1) {m:List Int} (hm:m∈qr b s T_):Mv4 m /\ qAv b h s (m0 m) (m1 m) (m2 m) (m3 m)=true /\ m2 m=0:=by
 have h1:=qKu hc hs (h:=h) (m:=m) (List.mem_append_left _ hm)
 obtain⟨f,t,p,rfl⟩:=qiI hm
 exact⟨h1.1,h1.2,rfl⟩
theorem qOl {b:List Int} (hc:Clean b) {h:List Int} {s:Int} (hs:s=0 \/ s=1) {m:List Int} (hm:m∈qAN b h s T_):Mv4 m /\ qAv b h s (m0 m) (m1 m) (m2 m) (m3 m)=true /\ m0 m=0 /\ 1<=m2 m /\ m2 m<=7 /\ m3 m=false:=by
 have h1:=qKu hc hs (h:=h) (m:=m) (List.mem_append_right _ hm)
 obtain⟨k,t,hk,hk',rfl⟩:=qiJ hm
 exact⟨h1.1,h1.2,rfl,by show (1:Int)<=(k:Int);omega,by show (k:Int)<=7;omega,rfl⟩
theorem qOn (b h:List Int) (s:Int) (G:Nat->Bool):qAN b h s G=(qAN b h s T_).filter fun m=>G (m1 m).toNat:=by
 unfold qAN
 rw[List.filter_flatMap]
 apply qIj
 intro k _
 unfold qBk
 split
 ·rfl
 ·rw[List.filter_map]
  unfold sq
  rw[List.filter_map,List.map_map,List.map_map,List.filter_filter]
  congr 1
  apply List.filter_congr
  intro i _
  show (qAu b s k i&&G i)=(G (Int.toNat ((i:Nat):Int))&&(qAu b s k i&&true))
  rw[tn,Bool.and_true,Bool.and_comm]
theorem hdM {m:List Int}:List.headD (List.take 4 m) 0=m0 m /\ List.headD (List.tail (List.take 4 m)) 0=m1 m /\ List.headD (List.tail (List.tail (List.take 4 m))) 0=m2 m /\ (List.headD (List.tail (List.tail (List.tail (List.take 4 m)))) 0 != 0)=m3 m:=⟨hd0 m,hd1 m,hd2 m,by rw[hd3 m];rfl⟩
theorem atL {M:List (List Int)} {i:Nat} (hi:i<M.length):M.getD i []=M[i]:=by rw[List.getD_eq_getElem?_getD,List.getElem?_eq_getElem hi];rfl
def g1 (b:List Int) (s:Int) (m:List Int):Bool:=stB b s (m0 m).toNat (m1 m).toNat
theorem qcs {b:List Int} (hcl:Clean b) (h:List Int) (S:Int) {s:Int} (hs:s=0 \/ s=1) {k:Nat} (hk:KS b s k) {es:List (List Int×List Int)} (hp:qBq b s k (fun _=>true) es) (chk:Bool) (N:Nat) (M:List (List Int)) (hM:∀ m∈M,Mv4 m) (hl:M.length<=100000):∀ (n i:Nat),i+n=M.length->∀ (L:List (List Int)) (x0 x14:Nat),x0=L.length->x14=L.length->L.length+n<=1000000->∀ F,
  qE7 (F+n+1) x0 M.length M.length i b h S (qH b) (qK b) s k (sLo (qp b s)) (sHi (qp b s)) chk x14 L N M es =
   some ((L++(M.drop i).filter (g1 b s)).length,b,h,S,qH b,qK b,s,(k:Int),sLo (qp b s),sHi (qp b s),chk,(L++(M.drop i).filter (g1 b s)).length,L++(M.drop i).filter (g1 b s),es):=by
 intro n
 induction n with
 | zero=>
   intro i hi L x0 x14 e0 e14 hb F
   show qHJ (qE7 (F+0)) _ _ _ _ _ _ _ _ _ _ _ _ _ _ _ _ _ _ _=_
   unfold qHJ
   rw[qc (by omega),List.drop_eq_nil_of_le (by omega),List.filter_nil,List.append_nil,e0,e14]
 | succ n ih=>
   intro i hi L x0 x14 e0 e14 hb F
   show qHJ (qE7 (F+n+1)) _ _ _ _ _ _ _ _ _ _ _ _ _ _ _ _ _ _ _=_
   unfold qHJ
   have hil:i<M.length:=by omega
   obtain⟨hm1,hm2,hm3⟩:=hM M[i] (List.getElem_mem hil)
   rw[qg (by omega),qq (by omega) (by omega),tn,atL hil]
   simp only[hdM]
   rw[qa4 hcl h S hs hk hp hm2 hm3,qA]
   simp only
   rw[w_s (n:=(i:Int)+1) (by omega) (by omega),List.drop_eq_getElem_cons hil,List.filter_cons]
   show br (g1 b s M[i]) _ _=_
   cases hg:g1 b s M[i] with
   | true=>
     rw[b_t,qFj (by omega),<- hm1]
     rw[tkA e0]
     refine (ih (i+1) (by omega) (L++[M[i]]) (x0+1) (x0+1) (by simp;omega) (by simp;omega) (by simp;omega) F).trans ?_
     simp
   | false=>
     rw[b_f]
     exact ih (i+1) (by omega) L x0 x14 e0 e14 (by omega) F
def pb (b:List Int) (s:Int) (q:Int):List Int:=put b q (16*s+1)
def pmS (b:List Int) (s:Int) (q:Int):Bool:=decide (0<=q /\ q<81)&&(decide (at_ b q=0)&&(chs (pb b s q) (1 - s) q.toNat&&(qr (pb b s q) (1 - s) T_).all fun m=>!g1 (pb b s q) (1 - s) m))
theorem qjd {b:List Int} (b0 h0:List Int) (S0:Int) (by0 sd0:List (List Int)) (hcl:Clean b) (h:List Int) (S:Int) {s:Int} (hs:s=0 \/ s=1) {k:Nat} (hk:KS b s k) {es:List (List Int×List Int)} (hp:qBq b s k (fun _=>true) es) (chk:Bool) (N:Nat) (M:List (List Int)) (hM:∀ m∈M,Mv4 m) (hl:M.length<=100000):∀ (n i:Nat),i+n=M.length->∀ F,
  qE8 (F+n+1) M.length M.length i b0 h0 S0 by0 sd0 s k (sLo (qp b s)) (sHi (qp b s)) chk N M b h S (qH b) (qK b) es =
   some (if (M.drop i).all (fun m=>!g1 b s m) then .inr (b0,h0,S0,by0,sd0) else .inl (false,b0,h0,S0,by0,sd0)):=by
 intro n
 induction n with
 | zero=>
   intro i hi F
   show qHM (qE8 (F+0)) _ _ _ _ _ _ _ _ _ _ _ _ _ _ _ _ _ _ _ _ _=_
   unfold qHM
   rw[qc (by omega),List.drop_eq_nil_of_le (by omega)]
   rfl
 | succ n ih=>
   intro i hi F
   show qHM (qE8 (F+n+1)) _ _ _ _ _ _ _ _ _ _ _ _ _ _ _ _ _ _ _ _ _=_
   unfold qHM
   have hil:i<M.length:=by omega
   obtain⟨hm1,hm2,hm3⟩:=hM M[i] (List.getElem_mem hil)
   rw[qg (by omega),qq (by omega) (by omega),tn,atL hil]
   simp only[hdM]
   rw[qa4 hcl h S hs hk hp hm2 hm3,qA]
   simp only
   rw[w_s (n:=(i:Int)+1) (by omega) (by omega),List.drop_eq_getElem_cons hil,List.all_cons]
   show br (g1 b s M[i]) _ _=_
   cases hg:g1 b s M[i] with
   | true=>rw[b_t];rfl
   | false=>
     rw[b_f]
     exact ih (i+1) (by omega) F
theorem qF2 (b:List Int) (s q:Int):pb b s q=mb b s 0 q 1 false:=by
 unfold pb mb laid
 rw[if_pos (by simp),if_pos (by simp)]
theorem qO0 {b:List Int} {s q:Int} (hs:s=0 \/ s=1) (hq:0<=q /\ q<81) (h0:at_ b q=0):CanP b (List.replicate 16 1) s 0 q 1 false:=by
 refine⟨hq,fun _=>⟨by omega,by omega,rfl,rfl,?_,h0⟩,fun h=>absurd h (by omega)⟩
 rcases hs with rfl | rfl<;>decide
theorem qjc {b:List Int} (hcl:Clean b) (h:List Int) {s:Int} (hs:s=0 \/ s=1) {k:Nat} (hk:KS b (1 - s) k) (q:Int):qIu q b h s (qH b) (qK b)=some (pmS b s q):=by
 have hs':1 - s=0 \/ 1 - s=1:=by omega
 have hpc:pc s 1=16*s+1:=qA9 hs (by omega) (by omega) (by omega)
 unfold qIu pmS
 rw[qKy,qA,hpc,qm (by omega)]
 by_cases q0:q<0
 ·rw[qg q0,decide_eq_false (p:=0<=q /\ q<81) (by omega)];rfl
 rw[qc q0]
 by_cases q1:q >= 81
 ·rw[qDI q1,decide_eq_false (p:=0<=q /\ q<81) (by omega)];rfl
 have hq:0<=q /\ q<81:=by omega
 rw[qCf q1,qB4,qA,decide_eq_true hq,Bool.true_and]
 by_cases h0:at_ b q=0
 ·have hP:=qO0 hs hq h0
  have hk2:KS (pb b s q) (1 - s) k:=by rw[qF2];exact qKZ hcl hs hP hk
  have hcl2:Clean (pb b s q):=hcl.put q _
  have w8:IntKind.wrap IntKind.i8 (1 - s)=1 - s:=w_8 (by omega) (by omega)
  rw[qAk h0,decide_eq_true h0,Bool.true_and]
  unfold qJv
  rw[qA]
  simp only
  rw[qO8 hcl,qA]
  simp only
  rw[show put b q (16*s+1)=pb b s q from rfl,w8,c_8,qTJ hcl2 h (1 - s) (by omega),qA]
  simp only
  rw[qEG,qA]
  have hh:has (chs (pb b s q) (1 - s)) q=chs (pb b s q) (1 - s) q.toNat:=by
   unfold has;rw[decide_eq_true hq.1,decide_eq_true hq.2];rfl
  rw[hh]
  cases hch:chs (pb b s q) (1 - s) q.toNat with
  | false=>rfl
  | true=>
    rw[Bool.not_true,b_f,Bool.true_and]
    obtain⟨es,chk,hl,hp⟩:=qV8 hcl2 h hs' hk2
    have hlen:=qOm (pb b s q) (1 - s) T_
    rw[hl,qA]
    simp only
    rw[qJp,qA]
    simp only
    rw[show (fun _:Nat=>true)=T_ from rfl,qUV hcl2,qA]
    simp only
    obtain⟨g,hg⟩:=qe (qr (pb b s q) (1 - s) T_).length (by omega)
    have:=qjd b h s (qH b) (qK b) hcl2 h (1 - s) hs' hk2 hp chk (qr (pb b s q) (1 - s) T_).length (qr (pb b s q) (1 - s) T_) (fun m hm=>(qKt hcl2 h hs' hm).1) (by omega) (qr (pb b s q) (1 - s) T_).length 0 (by omega) g
    rw[<- hg] at this
    refine (congrArg (fun z=>ob z _) (this:qE8 qC (qr (pb b s q) (1 - s) T_).length (Int.ofNat (qr (pb b s q) (1 - s) T_).length) 0 b h s (qH b) (qK b) (1 - s) k (sLo (qp (pb b s q) (1 - s))) (sHi (qp (pb b s q) (1 - s))) chk (qr (pb b s q) (1 - s) T_).length (qr (pb b s q) (1 - s) T_) (pb b s q) h (1 - s) (qH (pb b s q)) (qK (pb b s q)) es=_)).trans ?_
    rw[qA,List.drop_zero]
    cases (qr (pb b s q) (1 - s) T_).all fun m=>!g1 (pb b s q) (1 - s) m<;>rfl
 ·rw[qAZ h0,decide_eq_false h0];rfl
def g2 (b:List Int) (s:Int) (m:List Int):Bool:=!(decide (m2 m=1)&&pmS b s (m1 m))
theorem qcq {b:List Int} (hcl:Clean b) (h:List Int) {s:Int} (hs:s=0 \/ s=1) {k:Nat} (hk:KS b (1 - s) k) (N:Nat) (M:List (List Int)) (hM:∀ m∈M,Mv4 m) (hl:M.length<=100000):∀ (n i:Nat),i+n=M.length->∀ (L:List (List Int)) (x0 x9:Nat),x0=L.length->x9=L.length->L.length+n<=1000000->∀ F,
  qEI (F+n+1) x0 M.length M.length i b h s (qH b) (qK b) x9 L N M =
   some ((L++(M.drop i).filter (g2 b s)).length,b,h,s,qH b,qK b,(L++(M.drop i).filter (g2 b s)).length,L++(M.drop i).filter (g2 b s)):=by
 intro n
 induction n with
 | zero=>
   intro i hi L x0 x9 e0 e9 hb F
   show qHI (qEI (F+0)) _ _ _ _ _ _ _ _ _ _ _ _ _=_
   unfold qHI
   rw[qc (by omega),List.drop_eq_nil_of_le (by omega),List.filter_nil,List.append_nil,e0,e9]
 | succ n ih=>
   intro i hi L x0 x9 e0 e9 hb F
   show qHI (qEI (F+n+1)) _ _ _ _ _ _ _ _ _ _ _ _ _=_
   unfold qHI
   have hil:i<M.length:=by omega
   obtain⟨hm1,hm2,hm3⟩:=hM M[i] (List.getElem_mem hil)
   rw[qg (by omega),qq (by omega) (by omega),tn,atL hil]
   simp only[hdM]
   rw[w_s (n:=(i:Int)+1) (by omega) (by omega),List.drop_eq_getElem_cons hil,List.filter_cons,qFj (by omega),<- hm1,tkA e0]
   have add:g2 b s M[i]=true->qEI (F+n+1) (x0+1) M.length M.length ((i:Int)+1) b h s (qH b) (qK b) (x0+1) (L++[M[i]]) N M =
    some ((L++if g2 b s M[i]=true then M[i] :: (M.drop (i+1)).filter (g2 b s) else (M.drop (i+1)).filter (g2 b s)).length,b,h,s,qH b,qK b,(L++if g2 b s M[i]=true then M[i] :: (M.drop (i+1)).filter (g2 b s) else (M.drop (i+1)).filter (g2 b s)).length,L++if g2 b s M[i]=true then M[i] :: (M.drop (i+1)).filter (g2 b s) else (M.drop (i+1)).filter (g2 b s)):=by
    intro hg
    refine (ih (i+1) (by omega) (L++[M[i]]) (x0+1) (x0+1) (by simp;omega) (by simp;omega) (by simp;omega) F).trans ?_
    rw[if_pos hg]
    simp
   by_cases hd:m2 M[i]=1
   ·rw[qo hd,qjc hcl h hs hk,qA]
    cases hpm:pmS b s (m1 M[i]) with
    | true=>
      have hg:g2 b s M[i]=false:=by unfold g2;rw[decide_eq_true hd,hpm];rfl
      rw[b_t,hg]
      exact ih (i+1) (by omega) L x0 x9 e0 e9 (by omega) F
    | false=>
      have hg:g2 b s M[i]=true:=by unfold g2;rw[hpm];simp
      rw[b_f]
      exact add hg
   ·have hg:g2 b s M[i]=true:=by unfold g2;rw[decide_eq_false hd];rfl
    rw[qm hd]
    exact add hg
def lgL (b h:List Int) (s:Int):List (List Int):=(qr b s T_).filter (g1 b s)++(qAN b h s (qp b s)).filter (g2 b s)
theorem qIv (b h:List Int) (s:Int):(lgL b h s).length<=20000:=by
 unfold lgL
 have h1:=qOm b s T_
 have h2:=qWU b h s (qp b s)
 have h3:=List.length_filter_le (g1 b s) (qr b s T_)
 have h4:=List.length_filter_le (g2 b s) (qAN b h s (qp b s))
 rw[List.length_append]
 omega
theorem qOI {b:List Int} (hcl:Clean b) (h:List Int) {s:Int} (hs:s=0 \/ s=1) {k k':Nat} (hk:KS b s k) (hk':KS b (1 - s) k'):qBM b h s (qH b) (qK b)=some ((lgL b h s).length,b,h,s,qH b,qK b,(lgL b h s).length,lgL b h s):=by
 unfold qBM
 obtain⟨es,chk,hl,hp⟩:=qV8 hcl h hs hk
 have hlen:=qOm b s T_
 have hlen2:=qWU b h s (qp b s)
 have hlen3:=List.length_filter_le (g1 b s) (qr b s T_)
 rw[hl,qA]
 simp only
 rw[qJp,qA]
 simp only
 rw[show (fun _:Nat=>true)=T_ from rfl,qUV hcl,qA]
 simp only
 obtain⟨g,hg⟩:=qe (qr b s T_).length (by omega)
 have:=qcs hcl h s hs hk hp chk (qr b s T_).length (qr b s T_) (fun m hm=>(qKt hcl h hs hm).1) (by omega) (qr b s T_).length 0 (by omega) [] 0 0 rfl rfl (by simp only[List.length_nil];omega) g
 rw[<- hg,List.drop_zero,List.nil_append] at this
 rw[show qE7 qC 0 (qr b s T_).length (Int.ofNat (qr b s T_).length) 0 b h s (qH b) (qK b) s k (sLo (qp b s)) (sHi (qp b s)) chk 0 [] (qr b s T_).length (qr b s T_) es=_ from this,qA]
 simp only
 rw[qfz hcl,qA]
 simp only
 have hM:∀ m∈qAN b h s (qp b s),Mv4 m:=by
  intro m hm
  rw[qOn] at hm
  exact (qOl hcl hs (List.mem_filter.mp hm).1).1
 obtain⟨g,hg⟩:=qe (qAN b h s (qp b s)).length (by omega)
 have:=qcq hcl h hs hk' (qAN b h s (qp b s)).length (qAN b h s (qp b s)) hM (by omega) (qAN b h s (qp b s)).length 0 (by omega) ((qr b s T_).filter (g1 b s)) _ _ rfl rfl (by omega) g
 rw[<- hg,List.drop_zero] at this
 rw[show qEI qC ((qr b s T_).filter (g1 b s)).length (qAN b h s (qp b s)).length (Int.ofNat (qAN b h s (qp b s)).length) 0 b h s (qH b) (qK b) ((qr b s T_).filter (g1 b s)).length ((qr b s T_).filter (g1 b s)) (qAN b h s (qp b s)).length (qAN b h s (qp b s))=_ from this,qA]
 rfl
def mbM (b:List Int) (s:Int) (m:List Int):List Int:=mb b s (m0 m) (m1 m) (m2 m) (m3 m)
def mhM (b h:List Int) (s:Int) (m:List Int):List Int:=mh b h s (m1 m) (m2 m)
def qC5 (b:List Int) (s:Int) (m:List Int):Bool:=!inC (mbM b s m) s
def qRT (b h:List Int) (s:Int):Bool:=(mvs b h s).all fun m=>!qC5 b s m
def qIw (b h:List Int) (s:Int) (m:List Int):Bool:=qC5 b s m&&(decide (m2 m≠1) || !(inC (mbM b s m) (1 - s)&&qRT (mbM b s m) (mhM b h s m) (1 - s)))
def rlL (b h:List Int) (s:Int):List (List Int):=(mvs b h s).filter (qIw b h s)
end Go.Kk.Pl
namespace Go.Kk.Pl
theorem qel {b:List Int} (hc:Clean b) {s:Int} (hs:s=0 \/ s=1) {k':Nat} (hk':KS b (1 - s) k') (hno:inC b (1 - s)=false) {q:Int} (hq:0<=q /\ q<81) (h0:at_ b q=0) {c:Nat} (hcc:c<81) (hch:chs (pb b s q) (1 - s) c=true):c=q.toNat:=by
 have hs':1 - s=0 \/ 1 - s=1:=by omega
 have hP:=qO0 hs hq h0
 have hk2:KS (pb b s q) (1 - s) k':=by rw[qF2];exact qKZ hc hs hP hk'
 apply Classical.byContradiction
 intro hne
 rw[qEr hs' (hk2.kg hs') hk2.1] at hch
 have hg:(pb b s q).getD c 0=b.getD c 0:=by
  rw[qF2,qEL hc hs hP hcc,if_neg hne,if_neg (by simp)]
 have ha:atk b (1 - s) k' c=true:=by
  simp only[atk,enm,Bool.and_eq_true] at hch ⊢
  rw[hg] at hch
  refine⟨hch.1,?_⟩
  rw[qBx] at hch ⊢
  refine hch.2.imp id fun hh=>⟨hh.1,fun i hi=>?_⟩
  have:=hh.2 i hi
  rw[qF2,qRa hc hs hP (qIU hcc hk'.1 hi)] at this
  unfold tk2 fof at this
  simp only[Bool.or_eq_false_iff,decide_eq_false_iff_not] at this
  have h2:=this.2
  rw[if_neg (by simp),decide_eq_false this.1] at h2
  simpa using h2
 unfold inC at hno
 have hE:isE (chs b (1 - s))=true:=by simpa using hno
 have:=qCm.mp hE c hcc
 rw[qEr hs' (hk'.kg hs') hk'.1,ha] at this
 cases this
theorem qh2 {b:List Int} (hc:Clean b) {s:Int} (hs:s=0 \/ s=1) {k':Nat} (hk':KS b (1 - s) k') (hno:inC b (1 - s)=false) {q:Int} (hq:0<=q /\ q<81) (h0:at_ b q=0) (hh:List Int):
  pmS b s q=(inC (pb b s q) (1 - s)&&qRT (pb b s q) hh (1 - s)):=by
 have hs':1 - s=0 \/ 1 - s=1:=by omega
 have hP:=qO0 hs hq h0
 have hk2:KS (pb b s q) (1 - s) k':=by rw[qF2];exact qKZ hc hs hP hk'
 have hc2:Clean (pb b s q):=hc.put q _
 have hq81:q.toNat<81:=by omega
 have e1:inC (pb b s q) (1 - s)=chs (pb b s q) (1 - s) q.toNat:=by
  unfold inC
  cases hch:chs (pb b s q) (1 - s) q.toNat with
  | true=>
    cases hE:isE (chs (pb b s q) (1 - s)) with
    | false=>rfl
    | true=>rw[qCm.mp hE _ hq81] at hch;cases hch
  | false=>
    have:isE (chs (pb b s q) (1 - s))=true:=by
     rw[qCm]
     intro i hi
     cases hx:chs (pb b s q) (1 - s) i with
     | false=>rfl
     | true=>rw[qel hc hs hk' hno hq h0 hi hx] at hx;rw[hx] at hch;cases hch
    rw[this];rfl
 unfold pmS
 rw[decide_eq_true hq,decide_eq_true h0,Bool.true_and,Bool.true_and,e1]
 cases hch:chs (pb b s q) (1 - s) q.toNat with
 | false=>rfl
 | true =>
   rw[Bool.true_and,Bool.true_and]
   unfold qRT
   rw[show mvs (pb b s q) hh (1 - s)=qr (pb b s q) (1 - s) T_++qAN (pb b s q) hh (1 - s) T_ from rfl,List.all_append]
   have hB:((qr (pb b s q) (1 - s) T_).all fun m=>!g1 (pb b s q) (1 - s) m)=(qr (pb b s q) (1 - s) T_).all fun m=>!qC5 (pb b s q) (1 - s) m:=by
    rw[Bool.eq_iff_iff,List.all_eq_true,List.all_eq_true]
    have:∀ m∈qr (pb b s q) (1 - s) T_,g1 (pb b s q) (1 - s) m=qC5 (pb b s q) (1 - s) m:=by
     intro m hm
     obtain⟨_,a2,a3⟩:=qKt hc2 hh hs' hm
     have:=qLY hc2 hs' (qHT a2).2 hk2
     unfold qC5 mbM g1
     rw[this,if_pos a3]
    constructor
    ·intro h m hm;rw[<- this m hm];exact h m hm
    ·intro h m hm;rw[this m hm];exact h m hm
   have hD:((qAN (pb b s q) hh (1 - s) T_).all fun m=>!qC5 (pb b s q) (1 - s) m)=true:=by
    rw[List.all_eq_true]
    intro m hm
    obtain⟨_,a2,_,a4,_,_⟩:=qOl hc2 hs' hm
    have hPm:=(qHT a2).2
    have:=qLY hc2 hs' hPm hk2
    unfold qC5 mbM
    rw[this,if_neg (by omega),Bool.not_eq_true']
    cases ho:qp (pb b s q) (1 - s) (m1 m).toNat with
    | false=>rfl
    | true=>
      exfalso
      rw[qI6 hs' hk2] at ho
      rw[qEr hs' (hk2.kg hs') hk2.1] at hch
      have hgq:(pb b s q).getD q.toNat 0=16*s+1:=by
       rw[qF2,qEL hc hs hP hq81,if_pos rfl]
       unfold laid
       rw[if_pos (by simp)]
      rcases ho _ hq81 hch with h1 | h1
      ·have h2:=(hPm.drop (by omega)).2.2.2.2.2
       rw[qBF hPm.to_,h1,hgq] at h2
       omega
      ·simp only[atk,Bool.and_eq_true] at hch
       rcases qBx.mp hch.2 with h2 | h2
       ·rw[qL7 h2] at h1;cases h1
       ·have h3:=of_decide_eq_true h2.1
        rw[hgq,qHC hs (by omega) (by omega) (by omega)] at h3
        unfold slK at h3
        omega
   rw[hB,hD,Bool.and_true]
theorem qFB {b h:List Int} {s:Int} (hl:b.length=81) (hz:qDH b h s=0):Clean b /\ (s=0 \/ s=1) /\ inC b (1 - s)=false /\ ∃ k k',KS b s k /\ KS b (1 - s) k':=by
 have h1:qBG b h s=0 /\ inC b (1 - s)=false:=by
  unfold qDH at hz
  split at hz
  ·rename_i h;exact absurd hz h
  ·rename_i h
   refine⟨by simpa using h,?_⟩
   cases hi:inC b (1 - s) with
   | false=>rfl
   | true=>rw[hi] at hz;simp at hz
 obtain⟨hc,hs⟩:=qJ4 hl h1.1
 obtain⟨k,hk⟩:=qKa h1.1 hs
 obtain⟨k',hk'⟩:=qKa h1.1 (s:=1 - s) (by omega)
 exact⟨hc,hs,h1.2,k,k',hk,hk'⟩
theorem qV6 {b:List Int} (hc:Clean b) (h:List Int) {s:Int} (hs:s=0 \/ s=1) (hno:inC b (1 - s)=false) {k k':Nat} (hk:KS b s k) (hk':KS b (1 - s) k'):lgL b h s=rlL b h s:=by
 unfold lgL rlL
 rw[show mvs b h s=qr b s T_++qAN b h s T_ from rfl,List.filter_append,qOn,List.filter_filter]
 congr 1
 ·apply List.filter_congr
  intro m hm
  obtain⟨_,a2,a3⟩:=qKt hc h hs hm
  have:=qLY hc hs (qHT a2).2 hk
  unfold qIw qC5 mbM g1
  rw[this,if_pos a3,decide_eq_true (p:=m2 m≠1) (by omega),Bool.true_or,Bool.and_true]
 ·apply List.filter_congr
  intro m hm
  obtain⟨_,a2,a3,a4,a5,a6⟩:=qOl hc hs hm
  have hP:=(qHT a2).2
  have:=qLY hc hs hP hk
  unfold qIw qC5 g2
  rw[show inC (mbM b s m) s=inC (mb b s (m0 m) (m1 m) (m2 m) (m3 m)) s from rfl,this,if_neg (by omega)]
  cases ho:qp b s (m1 m).toNat with
  | false=>simp
  | true=>
    rw[Bool.and_true,Bool.true_and]
    by_cases hd:m2 m=1
    ·have hdr:=hP.drop (by omega)
     rw[decide_eq_true hd,decide_eq_false (p:=m2 m≠1) (by simpa using hd),Bool.true_and,Bool.false_or,qh2 hc hs hk' hno hP.to_ hdr.2.2.2.2.2 (mhM b h s m)]
     have:mbM b s m=pb b s (m1 m):=by
      unfold mbM
      rw[a3,hd,a6,qF2]
     rw[this]
    ·rw[decide_eq_false hd,decide_eq_true (p:=m2 m≠1) hd];rfl
theorem qgg (b h:List Int) (S:Int) (by_ sd_:List (List Int)) (f t d:Int) (p:Bool) (N:Nat) (M:List (List Int)) (hM:∀ m∈M,Mv4 m) (hl:M.length<=100000):∀ (n i:Nat),i+n=M.length->∀ F,
  qHL (F+n+1) M.length M.length i b h S by_ sd_ f t d p N M=some (if (M.drop i).contains [f,t,d,bi p] then .inl (true,b,h,S,by_,sd_) else .inr (b,h,S,by_,sd_)):=by
 intro n
 induction n with
 | zero=>
   intro i hi F
   show qIt (qHL (F+0)) _ _ _ _ _ _ _ _ _ _ _ _ _ _=_
   unfold qIt
   rw[qc (by omega),List.drop_eq_nil_of_le (by omega)]
   rfl
 | succ n ih=>
   intro i hi F
   show qIt (qHL (F+n+1)) _ _ _ _ _ _ _ _ _ _ _ _ _ _=_
   unfold qIt
   have hil:i<M.length:=by omega
   obtain⟨hm1,_⟩:=hM M[i] (List.getElem_mem hil)
   rw[qg (by omega),qq (by omega) (by omega),tn,atL hil]
   simp only[hdM]
   rw[w_s (n:=(i:Int)+1) (by omega) (by omega),List.drop_eq_getElem_cons hil,List.contains_cons]
   have e:(m0 M[i]==f&&(m1 M[i]==t&&(m2 M[i]==d&&m3 M[i]==p)))=([f,t,d,bi p]==M[i]):=by
    rw[Bool.eq_iff_iff,beq_iff_eq]
    simp only[Bool.and_eq_true,beq_iff_eq]
    constructor
    ·rintro ⟨h1,h2,h3,h4⟩
     rw[hm1,h1,h2,h3,h4]
    ·intro he
     rw[<- he]
     refine⟨rfl,rfl,rfl,?_⟩
     show (bi p != 0)=p
     cases p<;>rfl
   rw[e]
   cases hb:([f,t,d,bi p]==M[i]) with
   | true=>rw[b_t];rfl
   | false=>
     rw[b_f,Bool.false_or]
     exact ih (i+1) (by omega) F
theorem qGm (p:Bool):(bi p != 0)=p:=by cases p<;>rfl
theorem qVz {b:List Int} (_hc:Clean b) {h:List Int} {s:Int} (_hs:s=0 \/ s=1) {m:List Int} (hm:m∈lgL b h s):m∈mvs b h s:=by
 unfold lgL at hm
 rw[List.mem_append] at hm
 rcases hm with hm | hm
 ·exact List.mem_append_left _ (List.mem_filter.mp hm).1
 ·have:=(List.mem_filter.mp hm).1
  rw[qOn] at this
  exact List.mem_append_right _ (List.mem_filter.mp this).1
theorem qhQ {b:List Int} (hc:Clean b) (h:List Int) {s:Int} (hs:s=0 \/ s=1) {k k':Nat} (hk:KS b s k) (hk':KS b (1 - s) k') (f t d:Int) (p:Bool):
  qOQ f t d p b h s (qH b) (qK b)=some ((lgL b h s).contains [f,t,d,bi p],b,h,s,qH b,qK b):=by
 unfold qOQ
 rw[qOI hc h hs hk hk',qA]
 simp only
 have hlen:=qIv b h s
 obtain⟨g,hg⟩:=qe (lgL b h s).length (by omega)
 have:=qgg b h s (qH b) (qK b) f t d p (lgL b h s).length (lgL b h s) (fun m hm=>(qKu hc hs (qVz hc hs hm)).1) (by omega) (lgL b h s).length 0 (by omega) g
 rw[<- hg,List.drop_zero] at this
 rw[show qHL qC (lgL b h s).length (Int.ofNat (lgL b h s).length) 0 b h s (qH b) (qK b) f t d p (lgL b h s).length (lgL b h s)=_ from this,qA]
 cases (lgL b h s).contains [f,t,d,bi p]<;>rfl
end Go.Kk.Pl
namespace Go.Kk.Pl
end Go.Kk.Pl
namespace Go.Kk.Pl
theorem qiB (f t d:Int) (p:Bool):qDb f t d p=some (qDM f t d p):=by
 unfold qDb qDM
 by_cases h1:t<0
 ·rw[qg h1,if_pos (by omega)]
 rw[qc h1]
 by_cases h2:t >= 81
 ·rw[qDI h2,if_pos (by omega)]
 rw[qCf h2,if_neg (by omega)]
 by_cases hd:d=0
 ·rw[qAk hd,if_neg (by simpa using hd)]
  by_cases h3:f<0
  ·rw[qg h3,if_pos (by omega)]
  rw[qc h3]
  by_cases h4:f >= 81
  ·rw[qDI h4,if_pos (by omega)]
  rw[qCf h4,if_neg (by omega)]
  by_cases h5:f=t
  ·rw[qo h5,if_pos h5]
  ·rw[qm h5,if_neg h5]
 ·rw[qAZ hd,if_pos hd]
  by_cases h3:d<0
  ·rw[qg h3,if_neg (by omega)]
  rw[qc h3]
  by_cases h4:d >= 8
  ·rw[qDI h4,if_neg (by omega)]
  rw[qCf h4]
  by_cases h5:f=0
  ·rw[qAk h5]
   cases p with
   | true=>rw[b_t,if_neg (by simp)]
   | false=>rw[b_f,if_pos ⟨by omega,by omega,h5,rfl⟩]
  ·rw[qAZ h5,if_neg (by omega)]
theorem qTB (b h:List Int) {s:Int} (hs:s=0 \/ s=1) (f t d:Int) (p:Bool) (K:Int) (n:Nat) (by_ sides:List (List Int)) (m:Nat) (st:List (List Int)):
  qDN f t d p K n b h s by_ sides m st=some (qCi b h s f t d p):=by
 unfold qDN qCi
 rw[qiB,qA]
 by_cases hm:qDM f t d p=0
 ·obtain⟨ht,hd,hmv⟩:=qTL hm
  have main:(br (d != 0)
    (ob (qCg s d b h s by_ sides) fun a14=>
    br (decide (a14>0))
     (ob (qAd t b h s by_ sides) fun a15=>
     some (a15==0))
     (some (false)))
    (ob (qAd f b h s by_ sides) fun a14=>
    ob (qAd t b h s by_ sides) fun a15=>
    ob (qAO a14) fun a16=>
    br (a16==s)
     (ob (qAO a15) fun a17=>
     br (a17 != s)
      (ob (qAA a15) fun a18=>
      br (a18 != 8)
       (br (!p)
        (some (true))
        (ob (qAA a14) fun a19=>
        ob (qCW a19) fun a20=>
        some (a20 != 0)))
       (some (false)))
      (some (false)))
     (some (false))))=some (if d≠0 then decide (0<hd_ h s d)&&decide (at_ b t=0)
 else decide (sd (at_ b f)=s /\ sd (at_ b t)≠s /\ kd (at_ b t)≠8)&&(!p||decide (up_ (kd (at_ b f))≠0))):=by
   by_cases h0:d=0
   ·rw [qAk h0,if_neg (by simpa using h0),qB4,qA,qB4,qA,qC9,qA]
    by_cases e1:sd (at_ b f)=s
    ·rw[qo e1,qC9,qA]
     by_cases e2:sd (at_ b t)=s
     ·rw[qAk e2,decide_eq_false (p:=sd (at_ b f)=s /\ sd (at_ b t)≠s /\ kd (at_ b t)≠8) (fun h=>h.2.1 e2)];rfl
     ·rw [qAZ e2,qA4,qA]
      by_cases e3:kd (at_ b t)=8
      ·rw[qAk e3,decide_eq_false (p:=sd (at_ b f)=s /\ sd (at_ b t)≠s /\ kd (at_ b t)≠8) (fun h=>h.2.2 e3)];rfl
      ·rw[qAZ e3,decide_eq_true (p:=sd (at_ b f)=s /\ sd (at_ b t)≠s /\ kd (at_ b t)≠8) ⟨e1,e2,e3⟩]
       cases p with
       | false=>rfl
       | true=>
         rw[Bool.not_true,b_f,qA4,qA,qGX,qA]
         by_cases e4:up_ (kd (at_ b f))=0<;>simp[e4]
    ·rw[qm e1,decide_eq_false (p:=sd (at_ b f)=s /\ sd (at_ b t)≠s /\ kd (at_ b t)≠8) (fun h=>e1 h.1)];rfl
   ·have:=hd h0
    rw[qAZ h0,if_pos h0,qKR hs (by omega) (by omega),qA]
    by_cases e1:hd_ h s d>0
    ·rw[qFi e1,qB4,qA,decide_eq_true (p:=0<hd_ h s d) e1,Bool.true_and]
     by_cases e2:at_ b t=0<;>simp[e2]
    ·rw[qD4 e1,decide_eq_false (p:=0<hd_ h s d) e1,Bool.false_and]
  rw[qAk hm,decide_eq_true hm,decide_eq_true hs,Bool.true_and,Bool.true_and,<- main]
  rcases hs with rfl | rfl<;>rfl
 ·rw[qAZ hm,decide_eq_false hm,Bool.false_and]
theorem qR2 {b:List Int} (hc:Clean b) (h:List Int) {s:Int} (hs:s=0 \/ s=1) (f t d:Int) (p:Bool):
  qEA b h s f t d p=some (if qCi b h s f t d p then (mb b s f t d p,mh b h s t d,1 - s,true) else (b,h,s,false)):=by
 obtain⟨by_,sides,hn⟩:=qgR hc h s
 obtain⟨c,hcan,hm⟩:=qh0 hc h hs f t d p
 have e:qCi b h s f t d p=c:=Option.some.inj ((qTB b h hs f t d p 0 0 [] [] 0 []).symm.trans (hcan 0 0 [] [] 0 []))
 unfold qEA
 rw[hn,qA,e]
 simp only
 rcases hm with⟨rfl,hm⟩ | ⟨rfl,hP,hm⟩
 ·rw[hm,qA,qGV,if_neg (by simp)]
 ·obtain⟨by',sides',hm⟩:=hm (kof b h s) 0 by_ sides 0 [] (by omega)
  rw[hm,qA,qAz,if_pos rfl]
theorem qVy {b:List Int} (hc:Clean b) {h:List Int} {s:Int} (hs:s=0 \/ s=1) {k k':Nat} (hno:inC b (1 - s)=false) (hk:KS b s k) (hk':KS b (1 - s) k') {m:List Int} (hm:m∈lgL b h s):
  Mv4 m /\ qAv b h s (m0 m) (m1 m) (m2 m) (m3 m)=true /\ qIw b h s m=true /\ qC5 b s m=true:=by
 have h1:=qKu hc hs (qVz hc hs hm)
 rw[qV6 hc h hs hno hk hk'] at hm
 have h2:=(List.mem_filter.mp hm).2
 refine⟨h1.1,h1.2,h2,?_⟩
 unfold qIw at h2
 rw[Bool.and_eq_true] at h2
 exact h2.1
theorem qOi {b h:List Int} {s f t d:Int} {p:Bool} (hm:qAv b h s f t d p=true):qCi b h s f t d p=true:=by
 unfold qAv at hm
 rw[Bool.and_eq_true] at hm
 exact hm.1
end Go.Kk.Pl
namespace Go.Kk.Pl
theorem qEk {p:Nat->Bool} {a n:Nat}:(List.range' a n).any p=false ↔ ∀ i,a<=i->i<a+n->p i=false:=by
 rw[List.any_eq_false]
 constructor
 ·intro h i h1 h2
  have:=h i (List.mem_range'_1.mpr ⟨h1,h2⟩)
  simpa using this
 ·intro h i hi
  obtain⟨h1,h2⟩:=List.mem_range'_1.mp hi
  rw[h i h1 h2];simp
structure ChkP (b h:List Int) (s:Int):Prop where
 side:s=0 \/ s=1
 good:∀ i,i<81->bsP b i=false
 hands:∀ k,k<8->∀ j,j<2->bsH h k j=false
 kings:nP b 8=1 /\ nP b 24=1
 over:∀ k,1<=k->k<8->qDc b h k=false
 dead:∀ i,i<81->qBe (b.getD i 0) i=false
 nifu:∀ f,f<9->qCr b f=false
theorem qM3 {b h:List Int} {s:Int}:qBG b h s=0↔ChkP b h s:=by
 constructor
 ·intro hz
  unfold qBG at hz
  split at hz
  ·omega
  rename_i h1
  split at hz
  ·omega
  rename_i h2
  split at hz
  ·omega
  rename_i h3
  split at hz
  ·omega
  rename_i h4
  split at hz
  ·omega
  rename_i h5
  split at hz
  ·omega
  rename_i h6
  split at hz
  ·omega
  rename_i h7
  rw[Bool.not_eq_true,qEk] at h2 h3 h5 h6 h7
  refine⟨by omega,fun i hi=>h2 i (by omega) (by omega),fun k hk j hj=>?_,by simpa using h4,fun k k1 k2=>h5 k k1 (by omega),fun i hi=>h6 i (by omega) (by omega),fun f hf=>h7 f (by omega) (by omega)⟩
  have:=h3 k (by omega) (by omega)
  rw[qEk] at this
  exact this j (by omega) (by omega)
 ·intro ⟨a1,a2,a3,a4,a5,a6,a7⟩
  unfold qBG
  rw[if_neg (by omega),if_neg (by rw[qEk.mpr fun i _ hi=>a2 i (by omega)];simp),if_neg (by rw[qEk.mpr fun k _ hk=>qEk.mpr fun j _ hj=>a3 k (by omega) j (by omega)];simp),if_neg (by simpa using a4),
   if_neg (by rw[qEk.mpr fun k k1 hk=>a5 k k1 (by omega)];simp),if_neg (by rw[qEk.mpr fun i _ hi=>a6 i (by omega)];simp),if_neg (by rw[qEk.mpr fun i _ hi=>a7 i (by omega)];simp)]
theorem qpL {n:Nat} {p:Nat->Bool}:(List.range n).countP p<=1 ↔ ∀ i j,i<n->j<n->p i=true->p j=true->i=j:=by
 rw[List.countP_eq_length_filter]
 have hn:((List.range n).filter p).Nodup:=List.Nodup.sublist List.filter_sublist List.nodup_range
 have hm:∀ i,i∈(List.range n).filter p↔i<n /\ p i=true:=by
  intro i;rw[List.mem_filter,List.mem_range]
 match he:(List.range n).filter p with
 | []=>
   rw[he] at hm
   refine⟨fun _ i j hi _ h1 _=>?_,fun _=>by simp⟩
   have:=(hm i).mpr ⟨hi,h1⟩
   cases this
 | [a]=>
   rw[he] at hm
   refine⟨fun _ i j hi hj h1 h2=>?_,fun _=>by simp⟩
   have e1:=(hm i).mpr ⟨hi,h1⟩
   have e2:=(hm j).mpr ⟨hj,h2⟩
   rw[List.mem_singleton] at e1 e2
   rw[e1,e2]
 | a :: c :: L=>
   rw[he] at hm hn
   refine⟨fun h=>?_,fun h=>?_⟩
   ·simp at h
   ·exfalso
    have ea:=(hm a).mp (by simp)
    have ec:=(hm c).mp (by simp)
    have:=h a c ea.1 ec.1 ea.2 ec.2
    subst this
    simp at hn
theorem qiP {b:List Int} {x:Int} {f:Nat}:nF b x f<=1 ↔ ∀ r r',r<9->r'<9->b.getD (9*f+r) 0=x->b.getD (9*f+r') 0=x->r=r':=by
 unfold nF
 rw[qpL]
 constructor
 ·intro h r r' hr hr' e e'
  exact h r r' hr hr' (by simpa using e) (by simpa using e')
 ·intro h r r' hr hr' e e'
  exact h r r' hr hr' (by simpa using e) (by simpa using e')
theorem qiQ {b:List Int} {x:Int} {f:Nat}:nF b x f=0 ↔ ∀ r,r<9->b.getD (9*f+r) 0≠x:=by
 unfold nF
 rw[List.countP_eq_zero]
 constructor
 ·intro h r hr e
  exact h r (List.mem_range.mpr hr) (by simpa using e)
 ·intro h r hr e
  exact h r (List.mem_range.mp hr) (by simpa using e)
theorem qWX {b:List Int} {s:Int} {k:Nat} (h:KS b s k):nP b (pc s 8)=1:=by
 show qAt (fun i=>b.getD i 0==pc s 8)=1
 rw[qGs]
 exact⟨k,h.1,fun i hi=>by rw[beq_iff_eq];exact h.2 i hi⟩
theorem qa0 {b h:List Int} {s:Int} (hl:b.length=81) (hf:qAi h) (hz:qBG b h s=0):Sound b h s:=by
 obtain⟨hc,_⟩:=qJ4 hl hz
 obtain⟨v,hv,hS⟩:=qeW hc hf s
 rw[qZC hl hf] at hv
 exact hS (by rw[<- Option.some.inj hv];exact hz)
theorem qek {b h:List Int} {s f t d:Int} {p:Bool} (hl:b.length=81) (hf:qAi h) (hh:h.length=16) (hz:qBG b h s=0) (hm:qAv b h s f t d p=true):qBG (mb b s f t d p) (mh b h s t d) (1 - s)=0:=by
 obtain⟨hc,hs⟩:=qJ4 hl hz
 have hP:=(qHT hm).2
 have hS:=qa0 hl hf hz
 have hC:=qM3.mp hz
 have hs':1 - s=0 \/ 1 - s=1:=by omega
 obtain⟨k,hk⟩:=qKa hz hs
 obtain⟨k',hk'⟩:=qKa hz hs'
 have ht:=hP.to_
 have hla:=qHF hs hP
 have hc2:Clean (mb b s f t d p):=qWJ hc _ _ _ _ _
 have hmv:if d≠0 then (!qFo (16*s+d) t&&(decide (d≠1)||decide (nF b (16*s+d) (t.toNat / 9)=0)))=true
   else (rch (at_ b f) f.toNat t.toNat (tk b)&&if p=true then qDZ (at_ b f) f t else !qEN (at_ b f) t)=true:=by
  have:=hm
  unfold qAv at this
  rw[Bool.and_eq_true] at this
  have:=this.2
  by_cases hd:d=0
  ·rw[if_neg (by simpa using hd)] at this ⊢
   exact this
  ·rw[if_pos hd] at this ⊢
   exact this
 have hhand:∀ j:Int,(j=0 \/ j=1)->∀ i:Int,0<=i->i<8->(hd_ (mh b h s t d) j i=hd_ h j i \/ (1<=i /\ 0<=hd_ (mh b h s t d) j i)):=by
  intro j hj i i0 i8
  unfold mh
  by_cases hd:d=0
  ·have hmm:=hP.move hd
   rw[if_neg (by simpa using hd)]
   by_cases h0:at_ b t=0
   ·rw[if_pos h0];exact .inl rfl
   ·rw[if_neg h0]
    have hr:=qHu ((hc.at_ t).resolve_left h0) hmm.2.2.2.2.2.1
    rw[qE3 hh hs (by omega) (by omega) 1 hj i0 i8]
    split
    ·right
     rename_i he
     have h1:=hS.hands (rw_ (kd (at_ b t))) (by omega) (by omega)
     have h2:=hS.counts (rw_ (kd (at_ b t))) (by omega) (by omega)
     have h3:0<=hd_ h s (rw_ (kd (at_ b t))) /\ hd_ h s (rw_ (kd (at_ b t)))<=18:=by
      rcases hs with rfl | rfl<;>omega
     rw[w_8 (by omega) (by omega)]
     omega
    ·exact .inl rfl
  ·have hmm:=hP.drop hd
   rw[if_pos hd,qE3 hh hs (by omega) (by omega) (-1) hj i0 i8]
   split
   ·right
    have:=qGw hf s d
    rw[w_8 (by omega) (by omega)]
    omega
   ·exact .inl rfl
 rw[qM3]
 refine⟨hs',fun i hi=>?_,fun i hi j hj=>?_,?_,fun i i1 i2=>?_,fun i hi=>?_,fun g hg=>?_⟩
 ·unfold bsP
  rw[decide_eq_false_iff_not]
  rintro ⟨h1,h2⟩
  have:=hc2.at_ i
  rw[qBF (by omega),tn] at this
  exact this.elim h1 (fun h=>h h2)
 ·have h1:=hC.hands i hi j hj
  unfold bsH at h1 ⊢
  rw[decide_eq_false_iff_not] at h1 ⊢
  have h2:=hhand j (by omega) i (by omega) (by omega)
  unfold hd_ at h2
  rw[show (j:Int).toNat*8+(i:Int).toNat=j*8+i from rfl] at h2
  omega
 ·have e1:=qWX (qOA hc hs hP hk)
  have e2:=qWX (qKZ hc hs hP hk')
  rw[pc8 hs] at e1
  rw[pc8 hs'] at e2
  rcases hs with rfl | rfl
  ·exact⟨e1,e2⟩
  ·exact⟨e2,e1⟩
 ·have h1:=hC.over i i1 i2
  unfold qDc at h1 ⊢
  rw[decide_eq_false_iff_not] at h1 ⊢
  have:=qjs hS hf hh hP (k:=(i:Int)) (by omega) (by omega)
  omega
 ·rw[qEL hc hs hP hi]
  by_cases h1:i=t.toNat
  ·rw [if_pos h1,h1]
   unfold laid
   by_cases hd:d=0
   ·rw [if_neg (by simpa using hd)]
    rw[if_neg (by simpa using hd)] at hmv
    have hmm:=hP.move hd
    cases p with
    | true=>
      rw[if_pos rfl]
      obtain⟨u1,u2,u3⟩:=qFY (hmm.2.2.2.2.2.2 rfl)
      have:9<=up_ (kd (at_ b f)):=by
       have hu:=hmm.2.2.2.2.2.2 rfl
       unfold up_ at hu ⊢
       split
       ·omega
       ·rename_i h;rw[if_neg h] at hu;exact absurd rfl hu
      unfold qBe
      rw[qHC hs u1 u2 u3,decide_eq_false_iff_not]
      omega
    | false=>
      rw[if_neg (by simp)]
      rw[if_neg (by simp),Bool.and_eq_true] at hmv
      have h2:=hmv.2
      cases hdd:qBe (at_ b f) t.toNat with
      | false=>rfl
      | true=>
        exfalso
        have hk:kd (at_ b f)=1 \/ kd (at_ b f)=2 \/ kd (at_ b f)=3:=by
         have:=of_decide_eq_true hdd
         omega
        unfold qEN at h2
        rw[show t=((t.toNat:Nat):Int) by omega,qNB _ (by omega),hdd] at h2
        have:up_ (kd (at_ b f))≠0:=by unfold up_;rw[if_pos (by omega)];omega
        rw[decide_eq_true this] at h2
        cases h2
   ·rw[if_pos hd]
    rw[if_pos hd,Bool.and_eq_true] at hmv
    have h2:=hmv.1
    rw[show t=((t.toNat:Nat):Int) by omega,qNB _ (by omega)] at h2
    simpa using h2
  ·rw[if_neg h1]
   by_cases h2:d=0 /\ i=f.toNat
   ·rw[if_pos h2]
    unfold qBe
    rw[qE5]
    simp
   ·rw[if_neg h2];exact hC.dead i hi
 ·have key:∀ x:Int,(x=1 \/ x=17)->nF (mb b s f t d p) x g<=1:=by
   intro x hx
   have hxk:kd x=1:=by rcases hx with rfl | rfl<;>decide
   have hold:nF b x g<=1:=by
    have:=hC.nifu g hg
    unfold qCr at this
    simp only[Bool.or_eq_false_iff,decide_eq_false_iff_not] at this
    rcases hx with rfl | rfl<;>omega
   rw[qiP] at hold ⊢
   have from_:∀ r,r<9->(mb b s f t d p).getD (9*g+r) 0=x->(b.getD (9*g+r) 0=x /\ ¬ (d=0 /\ 9*g+r=f.toNat)) \/ 9*g+r=t.toNat:=by
    intro r hr e
    rw[qEL hc hs hP (by omega)] at e
    by_cases h1:9*g+r=t.toNat
    ·exact .inr h1
    ·rw[if_neg h1] at e
     by_cases h2:d=0 /\ 9*g+r=f.toNat
     ·rw[if_pos h2] at e
      rcases hx with rfl | rfl<;>omega
     ·rw[if_neg h2] at e
      exact .inl ⟨e,h2⟩
   have lay:∀ r,r<9->9*g+r=t.toNat->(mb b s f t d p).getD (9*g+r) 0=x->∀ r',r'<9->(b.getD (9*g+r') 0=x /\ ¬ (d=0 /\ 9*g+r'=f.toNat))->False:=by
    intro r hr he e r' hr' e'
    rw[qEL hc hs hP (by omega),if_pos he] at e
    unfold laid at e
    by_cases hd:d=0
    ·rw [if_neg (by simpa using hd)] at e hmv
     have hmm:=hP.move hd
     cases p with
     | true=>
       rw[if_pos rfl] at e
       have hu:=hmm.2.2.2.2.2.2 rfl
       obtain⟨u1,u2,u3⟩:=qFY hu
       have:kd (16*s+up_ (kd (at_ b f)))=1:=by rw[e,hxk]
       rw[qHC hs u1 u2 u3] at this
       unfold up_ at this
       split at this<;>omega
     | false=>
       rw[if_neg (by simp)] at e
       rw[Bool.and_eq_true] at hmv
       have hr1:=hmv.1
       have hfl:df f.toNat t.toNat=0:=by
        rcases qBx.mp hr1 with h1 | h1
        ·have h2:=of_decide_eq_true h1
         rw[e,hxk] at h2
         unfold qB2 at h2
         omega
        ·have h2:=of_decide_eq_true h1.1
         rw[e,hxk] at h2
         unfold slK at h2
         omega
       unfold df fl at hfl
       have hfe:f.toNat=9*g+f.toNat % 9:=by omega
       have:b.getD (9*g+f.toNat % 9) 0=x:=by
        rw[<- hfe,<- qBF ⟨hmm.1,hmm.2.1⟩];exact e
       have:=hold (f.toNat % 9) r' (by omega) hr' this e'.1
       exact e'.2 ⟨hd,by omega⟩
    ·rw[if_pos hd] at e hmv
     rw[Bool.and_eq_true] at hmv
     have hdd:=hP.drop hd
     have hd1:d=1:=by rcases hs with rfl | rfl<;>rcases hx with rfl | rfl<;>omega
     have hz0:nF b (16*s+d) (t.toNat / 9)=0:=by
      have:=hmv.2
      rw[decide_eq_false (p:=d≠1) (by simpa using hd1),Bool.false_or,decide_eq_true_eq] at this
      exact this
     rw[e,show t.toNat / 9=g by omega,qiQ] at hz0
     exact hz0 r' hr' e'.1
   intro r r' hr hr' e e'
   rcases from_ r hr e with h1 | h1
   ·rcases from_ r' hr' e' with h2 | h2
    ·exact hold r r' hr hr' h1.1 h2.1
    ·exact (lay r' hr' h2 e' r hr h1).elim
   ·rcases from_ r' hr' e' with h2 | h2
    ·exact (lay r hr h1 e r' hr' h2).elim
    ·omega
  unfold qCr
  have k1:=key 1 (.inl rfl)
  have k2:=key 17 (.inr rfl)
  rw[decide_eq_false (by omega),decide_eq_false (by omega)]
  rfl
theorem qdC {b h:List Int} {s f t d:Int} {p:Bool} (hl:b.length=81) (hf:qAi h) (hh:h.length=16) (hz:qBG b h s=0) (hm:qAv b h s f t d p=true) (hsafe:inC (mb b s f t d p) s=false):qDH (mb b s f t d p) (mh b h s t d) (1 - s)=0:=by
 have h1:=qek hl hf hh hz hm
 unfold qDH
 rw[if_neg (by rw[h1];simp),show 1 - (1 - s)=s by omega,hsafe]
 rfl
theorem qMT {b h:List Int} {s:Int} (hz:qDH b h s=0):qBG b h s=0:=by
 unfold qDH at hz
 split at hz
 ·rename_i h;exact absurd hz h
 ·rename_i h;simpa using h
end Go.Kk.Pl
namespace Go.Kk.Pl
theorem qol {b:List Int} (hc:Clean b) (h:List Int) {s:Int} (hs:s=0 \/ s=1) {k k':Nat} (hk:KS b s k) (hk':KS b (1 - s) k'):
  qOd b h s (qH b) (qK b)=some (decide ((lgL b h s).length=0),b,h,s,qH b,qK b):=by
 unfold qOd
 rw[qOI hc h hs hk hk',qA]
 simp only
 congr 2
 rw[Bool.eq_iff_iff,decide_eq_true_eq,beq_iff_eq]
 exact⟨fun h=>by simpa using h,fun h=>by rw[h];rfl⟩
end Go.Kk.Pl
namespace Go.Kk.Pl
theorem qgL (h:List Int) (s k:Nat) (hk:k<8):(List.take 8 (List.drop (s*7+s) h)).getD k 0=h.getD (s*8+k) 0:=by
 rw[List.getD_eq_getElem?_getD,List.getD_eq_getElem?_getD,List.getElem?_take,if_pos hk,List.getElem?_drop,show s*7+s+k=s*8+k by omega]
abbrev B64:=BitVec 64
def bv (n:Int):B64:=BitVec.ofInt 64 n
def un (x:B64):Int:=(x.toNat:Int)
theorem qBV (x:B64):bv (un x)=x:=by
 unfold bv un
 rw[BitVec.ofInt_natCast,BitVec.ofNat_toNat];simp
theorem qEh (a b:Int):qE .xor .u64 a b=un (bv a ^^^ bv b):=by
 show IntKind.wrap .u64 _=_
 have h:IntKind.wrap .u64 ((BitVec.ofInt 64 a ^^^ BitVec.ofInt 64 b).toNat:Int)=((BitVec.ofInt 64 a ^^^ BitVec.ofInt 64 b).toNat:Int):=
  qBD (by show (0:Int)<=_;omega) (by show _<=(18446744073709551615:Int);have:=(BitVec.ofInt 64 a ^^^ BitVec.ofInt 64 b).isLt;omega)
 exact h
def pcB (q x:Int):B64:=bv ((qCA q x).getD 0)
def hnB (s k n:Int):B64:=bv ((qCo s k n).getD 0)
def sdB:B64:=bv (qCq.getD 0)
theorem qNt (x:Int):∃ v:B64,qDX x=some (un v):=by
 unfold qDX
 rw[qEh]
 exact⟨_,rfl⟩
theorem qRc {m:Option Int} (h:∃ v:B64,m=some (un v)):m=some (un (bv (m.getD 0))):=by
 obtain⟨v,rfl⟩:=h
 simp[qBV]
theorem qJ1 {b:Bool} {x y:Option Int} (hx:∃ v:B64,x=some (un v)) (hy:∃ v:B64,y=some (un v)):∃ v:B64,br b x y=some (un v):=by cases b<;>assumption
theorem qWc {α:Type} {m:Option α} {k:α->Option Int} (hm:∃ v,m=some v) (hk:∀ a,m=some a->∃ v:B64,k a=some (un v)):∃ v:B64,ob m k=some (un v):=by
 obtain⟨a,rfl⟩:=hm
 exact hk a rfl
theorem qUz (q x:Int):qCA q x=some (un (pcB q x)):=qRc (by
 unfold qCA
 refine qWc (qVV _) fun a _=>?_
 refine qJ1 ⟨0,rfl⟩ (qJ1 ⟨0,rfl⟩ (qJ1 ⟨0,rfl⟩ (qWc (qKp _) fun a ha=>?_)))
 obtain⟨v,hv⟩:=qNt _
 rw[hv] at ha
 cases ha
 exact⟨v,rfl⟩)
theorem qUy (s k n:Int):qCo s k n=some (un (hnB s k n)):=qRc (by
 have tail:∀ x:Int,∃ v:B64,(ob (qDX x) fun r=>some r)=some (un v):=fun x=>by
  obtain⟨v,hv⟩:=qNt x
  exact⟨v,by rw[hv];rfl⟩
 unfold qCo
 repeat first | exact⟨0,rfl⟩ | exact tail _ | apply qJ1)
theorem qU0:qCq=some (un sdB):=qRc (by
 unfold qCq
 obtain⟨v,hv⟩:=qNt 1048576
 exact⟨v,by rw[hv];rfl⟩)
def qAa (b:List Int):Nat->B64
 | 0=>0
 | n+1=>qAa b n ^^^ pcB n (b.getD n 0)
def qBK (h:List Int) (s:Nat):Nat->B64
 | 0=>0
 | n+1=>qBK h s n ^^^ hnB s n (conv .i8 .i64 (h.getD (s*8+n) 0))
def qDS (h:List Int):B64:=qBK h 0 8 ^^^ qBK h 1 8
theorem qcd (a b:B64):a ^^^ (b ^^^ a)=b:=by rw[BitVec.xor_comm b a,<- BitVec.xor_assoc,BitVec.xor_self,BitVec.zero_xor]
theorem qeF:∀ (n:Nat) (q:Nat) (acc:B64) (b c d:List Int) (e:Int) (f:Nat),q+n=81->
  qCR (f+n+1) (un acc) b q c d e=some (un (acc ^^^ qAa b q ^^^ qAa b 81),c,d,e):=by
 intro n
 induction n with
 | zero=>
   intro q acc b c d e f hq
   have:q=81:=by omega
   subst this
   show qDV (qCR (f+0)) (un acc) b _ c d e=_
   unfold qDV
   rw[qF (by decide),BitVec.xor_assoc,BitVec.xor_self,BitVec.xor_zero]
 | succ n ih=>
   intro q acc b c d e f hq
   show qDV (qCR (f+n+1)) (un acc) b q c d e=_
   unfold qDV
   rw[qD (by simp;omega),qD (qx (by omega) (by omega))]
   simp only[cond_true,Int.toNat_natCast]
   rw[qUz]
   show qCR (f+n+1) (qE .xor .u64 (un acc) (un (pcB q (b.getD q 0)))) b (IntKind.wrap .i64 ((q:Int)+1)) c d e=_
   rw[qAK (by omega) (by omega),qEh,qBV,qBV]
   have:=ih (q+1) (acc ^^^ pcB q (b.getD q 0)) b c d e f (by omega)
   rw[Int.natCast_add] at this
   rw[show ((q:Int)+1)=(q:Int)+(1:Nat) from rfl,this]
   congr 3
   show acc ^^^ pcB q (b.getD q 0) ^^^ (qAa b q ^^^ pcB q (b.getD q 0)) ^^^ qAa b 81=_
   rw[BitVec.xor_assoc acc,qcd]
theorem qgT (s:Nat):∀ (n:Nat) (k:Nat) (acc:B64) (h x2:List Int) (x3:Int) (x6 x7:List Int) (x8:Int) (f:Nat),k+n=8->
  qCp (f+n+1) (un acc) s x2 x3 (List.take 8 (List.drop (s*7+s) h)) k x6 x7 x8=some (un (acc ^^^ qBK h s k ^^^ qBK h s 8),x2,x3,x6,x7,x8):=by
 intro n
 induction n with
 | zero=>
   intro k acc h x2 x3 x6 x7 x8 f hk
   have:k=8:=by omega
   subst this
   show qDU (qCp (f+0)) (un acc) s x2 x3 _ _ x6 x7 x8=_
   unfold qDU
   rw[qF (by decide),BitVec.xor_assoc,BitVec.xor_self,BitVec.xor_zero]
 | succ n ih=>
   intro k acc h x2 x3 x6 x7 x8 f hk
   show qDU (qCp (f+n+1)) (un acc) s x2 x3 _ k x6 x7 x8=_
   unfold qDU
   rw[qD (by simp;omega),qD (qx (by omega) (by omega))]
   simp only[cond_true,Int.toNat_natCast]
   rw[qgL h s k (by omega),qUy]
   show qCp (f+n+1) (qE .xor .u64 (un acc) (un (hnB s k (conv .i8 .i64 (h.getD (s*8+k) 0))))) s x2 x3 _ (IntKind.wrap .i64 ((k:Int)+1)) x6 x7 x8=_
   rw[qAK (by omega) (by omega),qEh,qBV,qBV]
   have:=ih (k+1) (acc ^^^ hnB s k (conv .i8 .i64 (h.getD (s*8+k) 0))) h x2 x3 x6 x7 x8 f (by omega)
   rw[Int.natCast_add] at this
   rw[show ((k:Int)+1)=(k:Int)+(1:Nat) from rfl,this]
   congr 3
   show acc ^^^ hnB s k (conv .i8 .i64 (h.getD (s*8+k) 0)) ^^^ (qBK h s k ^^^ hnB s k (conv .i8 .i64 (h.getD (s*8+k) 0))) ^^^ qBK h s 8=_
   rw[BitVec.xor_assoc acc,qcd]
theorem qgV (acc:B64) (h c:List Int) (e:Int):qBt qC (un acc) h 0 c h e=some (un (acc ^^^ qDS h),c,h,e):=by
 obtain⟨f,hf⟩:=qe 2 (by omega)
 obtain⟨g,hg⟩:=qe 8 (by omega)
 have step:∀ (s:Nat) (hs:s<2) (acc:B64) (f:Nat),qBt (f+1) (un acc) h s c h e=qBt f (un (acc ^^^ qBK h s 8)) h (s+1:Nat) c h e:=by
  intro s hs acc f
  show qDW (qBt f) (un acc) h s c h e=_
  unfold qDW
  rw[qD (by simp;omega),qD (qx (by omega) (by omega)),hg]
  show ob (qCp (g+8+1) (un acc) s h s (List.take 8 (List.drop (Int.toNat s*7+Int.toNat s) h)) (0:Nat) c h e) _=_
  rw[Int.toNat_natCast,qgT s 8 0 acc h h s c h e g (by omega)]
  show qBt f (un (acc ^^^ 0 ^^^ qBK h s 8)) h (IntKind.wrap .i64 ((s:Int)+1)) c h e=_
  have z:acc ^^^ (0:B64)=acc:=by simp
  rw[qAK (by omega) (by omega),z]
  rfl
 rw[hf]
 have e1:=step 0 (by omega) acc (f+2)
 have e2:=step 1 (by omega) (acc ^^^ qBK h 0 8) (f+1)
 rw[show f+2+1=f+2+1 from rfl,show (0:Int)=((0:Nat):Int) from rfl,e1]
 rw[show f+2=f+1+1 from rfl,e2]
 show qDW (qBt f) _ h 2 c h e=_
 unfold qDW
 rw[qF (by decide),BitVec.xor_assoc]
 rfl
def qAS (b h:List Int) (s:Int):B64:=bif s==1 then qAa b 81 ^^^ qDS h ^^^ sdB else qAa b 81 ^^^ qDS h
theorem qgj (b h:List Int) (s:Int):qDT b h s=some (un (qAS b h s)):=by
 obtain⟨g,hg⟩:=qe 81 (by omega)
 have e2:qCR qC 0 b 0 b h s=some (un (qAa b 81),b,h,s):=by
  rw[hg]
  have:=qeF 81 0 0 b b h s g (by omega)
  rw[show (0:B64) ^^^ qAa b 0 ^^^ qAa b 81=qAa b 81 by show (0:B64) ^^^ 0 ^^^ _=_;simp] at this
  exact this
 unfold qDT
 rw[e2]
 show ob (qBt qC (un (qAa b 81)) h 0 b h s) _=_
 rw[qgV]
 show br (s==1) (ob qCq fun r10=>some (qE .xor .u64 (un (qAa b 81 ^^^ qDS h)) r10)) (some (un (qAa b 81 ^^^ qDS h)))=_
 unfold qAS
 cases hs:s==1
 ·rfl
 ·rw[qU0]
  show some (qE .xor .u64 _ _)=_
  rw[qEh,qBV,qBV]
  rfl
theorem qds (b:List Int) (i:Nat) (x:Int) (hi:i<b.length):∀ n,qAa (b.set i x) n=if i<n then qAa b n ^^^ pcB i (b.getD i 0) ^^^ pcB i x else qAa b n:=by
 intro n
 induction n with
 | zero=>rfl
 | succ n ih=>
   show qAa (b.set i x) n ^^^ pcB n ((b.set i x).getD n 0)=_
   rw[ih]
   rcases Nat.lt_trichotomy i n with h | h | h
   ·rw[if_pos h,if_pos (by omega)]
    have:(b.set i x).getD n 0=b.getD n 0:=by
     rw[List.getD_eq_getElem?_getD,List.getD_eq_getElem?_getD,List.getElem?_set_ne (by omega)]
    rw[this]
    show qAa b n ^^^ pcB i (b.getD i 0) ^^^ pcB i x ^^^ pcB n (b.getD n 0)=qAa b n ^^^ pcB n (b.getD n 0) ^^^ pcB i (b.getD i 0) ^^^ pcB i x
    ac_rfl
   ·subst h
    rw[if_neg (by omega),if_pos (by omega)]
    have:(b.set i x).getD i 0=x:=by
     rw[List.getD_eq_getElem?_getD,List.getElem?_set_self hi];rfl
    rw[this]
    show qAa b i ^^^ pcB i x=qAa b i ^^^ pcB i (b.getD i 0) ^^^ pcB i (b.getD i 0) ^^^ pcB i x
    rw[BitVec.xor_assoc (qAa b i),BitVec.xor_self,BitVec.xor_zero]
   ·rw[if_neg (by omega),if_neg (by omega)]
    have:(b.set i x).getD n 0=b.getD n 0:=by
     rw[List.getD_eq_getElem?_getD,List.getD_eq_getElem?_getD,List.getElem?_set_ne (by omega)]
    rw[this]
    rfl
theorem qUs (h:List Int) (s0 k0:Nat) (x:Int) (hk:k0<8) (hi:s0*8+k0<h.length) (s:Nat):∀ n,n<=8->qBK (h.set (s0*8+k0) x) s n =
  if s=s0 /\ k0<n then qBK h s n ^^^ hnB s0 k0 (conv .i8 .i64 (h.getD (s0*8+k0) 0)) ^^^ hnB s0 k0 (conv .i8 .i64 x) else qBK h s n:=by
 intro n
 induction n with
 | zero=>intro _;rw[if_neg (by omega)];rfl
 | succ n ih=>
   intro hn
   show qBK (h.set (s0*8+k0) x) s n ^^^ hnB s n (conv .i8 .i64 ((h.set (s0*8+k0) x).getD (s*8+n) 0))=_
   rw[ih (by omega)]
   by_cases hq:s*8+n=s0*8+k0
   ·have e1:s=s0:=by omega
    have e2:n=k0:=by omega
    subst e1
    subst e2
    rw[if_neg (by omega),if_pos (by omega)]
    have:(h.set (s*8+n) x).getD (s*8+n) 0=x:=by
     rw[List.getD_eq_getElem?_getD,List.getElem?_set_self hi];rfl
    rw[this]
    show qBK h s n ^^^ hnB s n (conv .i8 .i64 x)=qBK h s n ^^^ hnB s n (conv .i8 .i64 (h.getD (s*8+n) 0)) ^^^ hnB s n (conv .i8 .i64 (h.getD (s*8+n) 0)) ^^^ hnB s n (conv .i8 .i64 x)
    rw[BitVec.xor_assoc (qBK h s n),BitVec.xor_self,BitVec.xor_zero]
   ·have:(h.set (s0*8+k0) x).getD (s*8+n) 0=h.getD (s*8+n) 0:=by
     rw[List.getD_eq_getElem?_getD,List.getD_eq_getElem?_getD,List.getElem?_set_ne (by omega)]
    rw[this]
    by_cases hc:s=s0 /\ k0<n
    ·rw[if_pos hc,if_pos (by omega)]
     show _=qBK h s n ^^^ hnB s n (conv .i8 .i64 (h.getD (s*8+n) 0)) ^^^ _ ^^^ _
     ac_rfl
    ·rw[if_neg hc,if_neg (by omega)]
     rfl
theorem qgU (h:List Int) (s0 k0:Nat) (x:Int) (hs:s0<2) (hk:k0<8) (hh:h.length=16):
  qDS (h.set (s0*8+k0) x)=qDS h ^^^ hnB s0 k0 (conv .i8 .i64 (h.getD (s0*8+k0) 0)) ^^^ hnB s0 k0 (conv .i8 .i64 x):=by
 unfold qDS
 rw[qUs h s0 k0 x hk (by omega) 0 8 (Nat.le_refl _),qUs h s0 k0 x hk (by omega) 1 8 (Nat.le_refl _)]
 have:s0=0 \/ s0=1:=by omega
 rcases this with rfl | rfl
 ·rw[if_pos (by omega),if_neg (by omega)];ac_rfl
 ·rw[if_neg (by omega),if_pos (by omega)];ac_rfl
theorem qKY (b h:List Int) (s:Int):kof b h s=un (qAS b h s):=by unfold kof;rw[qgj];rfl
theorem qVX (q x:Int):kp q x=un (pcB q x):=by unfold kp;rw[qUz];rfl
theorem qVU (s k n:Int):kh s k n=un (hnB s k n):=by unfold kh;rw[qUy];rfl
theorem qhG:qIq=un sdB:=by unfold qIq;rw[qU0];rfl
theorem qje {q x:Int} (h:kd x=0):pcB q x=pcB q 0:=by
 have e:∀ y,kd y=0->qCA q y=some 0:=by
  intro y hy
  unfold qCA
  rw[qA4,qA,hy]
  rfl
 unfold pcB
 rw[e x h,e 0 qE5]
theorem qgo {b:List Int} (hl:b.length=81) {q:Int} (hq:0<=q /\ q<81) (x:Int) (h:List Int) (s:Int):qAS (put b q x) h s=qAS b h s ^^^ pcB q (at_ b q) ^^^ pcB q x:=by
 have e:pcB q (if kd x=0 then 0 else x)=pcB q x:=by
  split
  ·rename_i h;exact (qje h).symm
  ·rfl
 unfold qAS put at_
 rw[if_pos hq,if_pos hq]
 revert e
 generalize (if kd x=0 then 0 else x)=y
 intro e
 have qu:=qds b q.toNat y (by omega) 81
 rw[if_pos (show q.toNat<81 by omega),show ((q.toNat:Nat):Int)=q by omega,e] at qu
 rw[qu]
 cases s==1<;>simp only[cond_true,cond_false]<;>ac_rfl
theorem qgn {h:List Int} (hh:h.length=16) {s k:Int} (hs:s=0 \/ s=1) (k0:0<=k) (k1:k<8) (d:Int) (b:List Int) (S:Int):
  qAS b (qu h s k d) S=qAS b h S ^^^ hnB s k (hd_ h s k) ^^^ hnB s k (IntKind.wrap .i8 (hd_ h s k+d)):=by
 have e2:∀ x,conv .i8 .i64 x=x:=fun _=>rfl
 have hset':=qgU h s.toNat k.toNat (IntKind.wrap .i8 (hd_ h s k+d)) (by omega) (by omega) hh
 rw[e2,e2,show ((s.toNat:Nat):Int)=s by omega,show ((k.toNat:Nat):Int)=k by omega] at hset'
 unfold qAS qu
 rw[hset']
 unfold hd_
 cases S==1<;>simp only[cond_true,cond_false]<;>ac_rfl
theorem qgp {s:Int} (hs:s=0 \/ s=1) (b h:List Int):qAS b h (1 - s)=qAS b h s ^^^ sdB:=by
 rcases hs with rfl | rfl
 ·rfl
 ·show qAa b 81 ^^^ qDS h=qAa b 81 ^^^ qDS h ^^^ sdB ^^^ sdB
  rw[BitVec.xor_assoc _ sdB,BitVec.xor_self,BitVec.xor_zero]
theorem qHE {b:List Int} (hl:b.length=81) {q:Int} (hq:0<=q /\ q<81) (x:Int) (h:List Int) (s:Int):qA7 (un (qAS b h s)) b q x=un (qAS (put b q x) h s):=by
 unfold qA7
 rw[qVX,qVX,qEh,qEh,qBV,qBV,qBV,qBV,qgo hl hq,BitVec.xor_assoc]
theorem qN8 {h:List Int} (hh:h.length=16) {s k:Int} (hs:s=0 \/ s=1) (k0:0<=k) (k1:k<8) {d:Int} (b:List Int) (S:Int) (r0:-128<=hd_ h s k+d) (r1:hd_ h s k+d<=127):
  qEH (un (qAS b h S)) h s k d=un (qAS b (qu h s k d) S):=by
 unfold qEH
 rw[qVU,qVU,qEh,qEh,qBV,qBV,qBV,qBV,qgn hh hs k0 k1,BitVec.xor_assoc,qAK (by omega) (by omega),qFd r0 r1]
theorem qKc {s:Int} (hs:s=0 \/ s=1) (b h:List Int):qKb (un (qAS b h s))=un (qAS b h (1 - s)):=by
 unfold qKb
 rw[qhG,qEh,qBV,qBV,qgp hs]
theorem qh9 {b h:List Int} {s:Int} (hS:Sound b h s) (hf:qAi h) (hh:h.length=16) {f t d:Int} {p:Bool} (hP:CanP b h s f t d p):
  qDa (kof b h s) b h s f t d p=kof (mb b s f t d p) (mh b h s t d) (1 - s):=by
 rw[qKY,qKY]
 unfold qDa mb mh
 by_cases hd:d=0
 ·obtain⟨f0,f1,f2,g1,g2,g3,g4⟩:=hP.move hd
  simp only[if_neg (show ¬ (d≠0) from fun h=>h hd)]
  rw[qHE hS.clean.len ⟨f0,f1⟩,qHE (hS.clean.put f 0).len hP.to_]
  by_cases ht:at_ b t=0
  ·simp only[if_pos ht]
   rw[qKc hS.side]
  ·have hk:=(hS.clean.at_ t).resolve_left ht
   obtain⟨r1,r2⟩:=qHu hk g3
   have hc:=hS.counts _ r1 r2
   have h0:=hS.hands (rw_ (kd (at_ b t))) (by omega) r2
   have hsd:=hS.side
   simp only[if_neg ht]
   rw[qN8 hh hS.side (by omega) r2 _ _ (by rcases hsd with rfl | rfl<;>omega) (by rcases hsd with rfl | rfl<;>omega),qKc hS.side]
 ·obtain⟨d0,d1,d2,d3,g1,g2⟩:=hP.drop hd
  have hb:=qGw hf s d
  simp only[if_pos (show d≠0 from hd)]
  rw[qN8 hh hS.side (by omega) d1 _ _ (by omega) (by omega),qHE hS.clean.len hP.to_,qKc hS.side]
end Go.Kk.Pl
namespace Go.Kk.Pl
structure Going (b h:List Int) (s:Int):Prop where
 sound:Sound b h s
 fits:qAi h
 len:h.length=16
end Go.Kk.Pl
namespace Go.Kk.Pl
theorem qS6 {b c:List Int} (hb:b.length=81) (hc:c.length=81) (h:∀ q,0<=q->q<81->at_ b q=at_ c q):b=c:=by
 refine List.ext_getElem (by rw[hb,hc]) fun j h1 h2=>?_
 have:=h j (by omega) (by omega)
 unfold at_ at this
 rw[if_pos (by omega),if_pos (by omega),Int.toNat_natCast,List.getD_eq_getElem?_getD,List.getD_eq_getElem?_getD,List.getElem?_eq_getElem h1,List.getElem?_eq_getElem h2] at this
 exact this
theorem qTQ {b:List Int} (hc:Clean b) (q:Int):(if kd (at_ b q)=0 then 0 else at_ b q)=at_ b q:=by
 rcases hc.at_ q with h | h
 ·rw[h];rfl
 ·rw[if_neg h]
theorem qdX {b:List Int} (hc:Clean b) {t:Int} (ht:0<=t /\ t<81) (h0:at_ b t=0) (x:Int):put (put b t x) t 0=b:=by
 refine qS6 ((hc.put _ _).put _ _).len hc.len fun q q0 q1=>?_
 rw[qDG (hc.put _ _).len ht,qDG hc.len ht]
 split
 ·rename_i e;subst e;rw[h0];rfl
 ·rfl
theorem qdZ {b:List Int} (hc:Clean b) {f t:Int} (hf:0<=f /\ f<81) (ht:0<=t /\ t<81) (x:Int):put (put (put (put b f 0) t x) t (at_ b t)) f (at_ b f)=b:=by
 have c1:=hc.put f 0
 have c2:=c1.put t x
 have c3:=c2.put t (at_ b t)
 refine qS6 (c3.put _ _).len hc.len fun q q0 q1=>?_
 rw[qDG c3.len hf,qDG c2.len ht,qDG c1.len ht,qDG hc.len hf,qTQ hc,qTQ hc]
 split
 ·rename_i e;subst e;rfl
 ·split
  ·rename_i e;subst e;rfl
  ·rfl
theorem qNq {h:List Int} (hl:h.length=16) {s k:Int} (hs:s=0 \/ s=1) (k0:0<=k) (k1:k<8) {d:Int} (r0:-128<=hd_ h s k /\ hd_ h s k<=127) (r1:-128<=hd_ h s k+d /\ hd_ h s k+d<=127):
  qu (qu h s k d) s k (-d)=h:=by
 have e:=qE3 hl hs k0 k1 d hs k0 k1
 rw[if_pos ⟨rfl,rfl⟩,qFd r1.1 r1.2] at e
 rw[show qu (qu h s k d) s k (-d)=(qu h s k d).set (s.toNat*8+k.toNat) (IntKind.wrap .i8 (hd_ (qu h s k d) s k+-d)) from rfl,e,show hd_ h s k+d+-d=hd_ h s k by omega,qFd r0.1 r0.2]
 have hi:s.toNat*8+k.toNat<h.length:=by rcases hs with rfl | rfl<;>simp<;>omega
 have hg:hd_ h s k=h[s.toNat*8+k.toNat]:=by
  unfold hd_
  rw[List.getD_eq_getElem?_getD,List.getElem?_eq_getElem hi]
  rfl
 unfold qu
 rw[List.set_set,hg,List.set_getElem_self]
end Go.Kk.Pl
