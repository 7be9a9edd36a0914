/- What the program's functions come to, told plainly: the texts of this project that this claim leans on, cut down to what is used. -/
import Derived.Test.YthklalefbhbhmaaGreatDoorKkU3
import Derived.Test.YthklalefbhbhmaaGreatDoorKkU2
namespace Go.Kk.Pl
theorem qgI {b:List Int} (hc:Clean b) {s:Int} (hs:s=0 \/ s=1) {k':Nat} (hk':KS b (1 - s) k') (hno:inC b (1 - s)=false) {q:Int} (hq:0<=q /\ q<81) (h0:at_ b q=0) {c:Nat} (hcc:c<81) (hch:chs (pb b s q) (1 - s) c=true):c=q.toNat:=by
 have hs':1 - s=0 \/ 1 - s=1:=by omega
 have hP:=qP1 hs hq h0
 have hk2:KS (pb b s q) (1 - s) k':=by rw[qGG];exact qKy hc hs hP hk'
 apply Classical.byContradiction
 intro hne
 rw[qEu hs' (hk2.kg hs') hk2.1] at hch
 have hg:(pb b s q).getD c 0=b.getD c 0:=by
  rw[qGG,qEK hc hs hP hcc,if_neg hne,if_neg (by simp)]
 have ha:atk b (1 - s) k' c=true:=by
  simp only[atk,enm,Bool.and_eq_true] at hch ⊢
  rw[hg] at hch
  refine⟨hch.1,?_⟩
  rw[qB8] at hch ⊢
  refine hch.2.imp id fun hh=>⟨hh.1,fun i hi=>?_⟩
  have:=hh.2 i hi
  rw[qGG,qSq hc hs hP (qIm hcc hk'.1 hi)] at this
  unfold tk2 fof at this
  simp only[Bool.or_eq_false_iff,decide_eq_false_iff_not] at this
  have h2:=this.2
  rw[if_neg (by simp),decide_eq_false this.1] at h2
  simpa using h2
 unfold inC at hno
 have hE:isE (chs b (1 - s))=true:=by simpa using hno
 have:=qCw.mp hE c hcc
 rw[qEu hs' (hk'.kg hs') hk'.1,ha] at this
 cases this
theorem qj9 {b:List Int} (hc:Clean b) {s:Int} (hs:s=0 \/ s=1) {k':Nat} (hk':KS b (1 - s) k') (hno:inC b (1 - s)=false) {q:Int} (hq:0<=q /\ q<81) (h0:at_ b q=0) (hh:List Int):
  pmS b s q=(inC (pb b s q) (1 - s)&&qJn (pb b s q) hh (1 - s)):=by
 have hs':1 - s=0 \/ 1 - s=1:=by omega
 have hP:=qP1 hs hq h0
 have hk2:KS (pb b s q) (1 - s) k':=by rw[qGG];exact qKy hc hs hP hk'
 have hc2:Clean (pb b s q):=hc.put q _
 have hq81:q.toNat<81:=by omega
 have e1:inC (pb b s q) (1 - s)=chs (pb b s q) (1 - s) q.toNat:=by
  unfold inC
  cases hch:chs (pb b s q) (1 - s) q.toNat with
  | true=>
    cases hE:isE (chs (pb b s q) (1 - s)) with
    | false=>rfl
    | true=>rw[qCw.mp hE _ hq81] at hch;cases hch
  | false=>
    have:isE (chs (pb b s q) (1 - s))=true:=by
     rw[qCw]
     intro i hi
     cases hx:chs (pb b s q) (1 - s) i with
     | false=>rfl
     | true=>rw[qgI hc hs hk' hno hq h0 hi hx] at hx;rw[hx] at hch;cases hch
    rw[this];rfl
 unfold pmS
 rw[decide_eq_true hq,decide_eq_true h0,Bool.true_and,Bool.true_and,e1]
 cases hch:chs (pb b s q) (1 - s) q.toNat with
 | false=>rfl
 | true =>
   rw[Bool.true_and,Bool.true_and]
   unfold qJn
   rw[show mvs (pb b s q) hh (1 - s)=qw (pb b s q) (1 - s) T_++qAU (pb b s q) hh (1 - s) T_ from rfl,List.all_append]
   have hB:((qw (pb b s q) (1 - s) T_).all fun m=>!g1 (pb b s q) (1 - s) m)=(qw (pb b s q) (1 - s) T_).all fun m=>!qBz (pb b s q) (1 - s) m:=by
    rw[Bool.eq_iff_iff,List.all_eq_true,List.all_eq_true]
    have:∀ m∈qw (pb b s q) (1 - s) T_,g1 (pb b s q) (1 - s) m=qBz (pb b s q) (1 - s) m:=by
     intro m hm
     obtain⟨_,a2,a3⟩:=qLG hc2 hh hs' hm
     have:=qL2 hc2 hs' (qGA a2).2 hk2
     unfold qBz mbM g1
     rw[this,if_pos a3]
    constructor
    ·intro h m hm;rw[<- this m hm];exact h m hm
    ·intro h m hm;rw[this m hm];exact h m hm
   have hD:((qAU (pb b s q) hh (1 - s) T_).all fun m=>!qBz (pb b s q) (1 - s) m)=true:=by
    rw[List.all_eq_true]
    intro m hm
    obtain⟨_,a2,_,a4,_,_⟩:=qPm hc2 hs' hm
    have hPm:=(qGA a2).2
    have:=qL2 hc2 hs' hPm hk2
    unfold qBz mbM
    rw[this,if_neg (by omega),Bool.not_eq_true']
    cases ho:qv (pb b s q) (1 - s) (m1 m).toNat with
    | false=>rfl
    | true=>
      exfalso
      rw[qJH hs' hk2] at ho
      rw[qEu hs' (hk2.kg hs') hk2.1] at hch
      have hgq:(pb b s q).getD q.toNat 0=16*s+1:=by
       rw[qGG,qEK hc hs hP hq81,if_pos rfl]
       unfold laid
       rw[if_pos (by simp)]
      rcases ho _ hq81 hch with h1 | h1
      ·have h2:=(hPm.drop (by omega)).2.2.2.2.2
       rw[qAh hPm.to_,h1,hgq] at h2
       omega
      ·simp only[atk,Bool.and_eq_true] at hch
       rcases qB8.mp hch.2 with h2 | h2
       ·rw[qMQ h2] at h1;cases h1
       ·have h3:=of_decide_eq_true h2.1
        rw[hgq,qHS hs (by omega) (by omega) (by omega)] at h3
        unfold slK at h3
        omega
   rw[hB,hD,Bool.and_true]
theorem qGK {b h:List Int} {s:Int} (hl:b.length=81) (hz:qCp b h s=0):Clean b /\ (s=0 \/ s=1) /\ inC b (1 - s)=false /\ ∃ k k',KS b s k /\ KS b (1 - s) k':=by
 have h1:qA1 b h s=0 /\ inC b (1 - s)=false:=by
  unfold qCp at hz
  split at hz
  ·rename_i h;exact absurd hz h
  ·rename_i h
   refine⟨by simpa using h,?_⟩
   cases hi:inC b (1 - s) with
   | false=>rfl
   | true=>rw[hi] at hz;simp at hz
 obtain⟨hc,hs⟩:=qIr hl h1.1
 obtain⟨k,hk⟩:=qKz h1.1 hs
 obtain⟨k',hk'⟩:=qKz h1.1 (s:=1 - s) (by omega)
 exact⟨hc,hs,h1.2,k,k',hk,hk'⟩
theorem qX2 {b:List Int} (hc:Clean b) (h:List Int) {s:Int} (hs:s=0 \/ s=1) (hno:inC b (1 - s)=false) {k k':Nat} (hk:KS b s k) (hk':KS b (1 - s) k'):lgL b h s=rlL b h s:=by
 unfold lgL rlL
 rw[show mvs b h s=qw b s T_++qAU b h s T_ from rfl,List.filter_append,qPn,List.filter_filter]
 congr 1
 ·apply List.filter_congr
  intro m hm
  obtain⟨_,a2,a3⟩:=qLG hc h hs hm
  have:=qL2 hc hs (qGA a2).2 hk
  unfold qDF qBz mbM g1
  rw[this,if_pos a3,decide_eq_true (p:=m2 m≠1) (by omega),Bool.true_or,Bool.and_true]
 ·apply List.filter_congr
  intro m hm
  obtain⟨_,a2,a3,a4,a5,a6⟩:=qPm hc hs hm
  have hP:=(qGA a2).2
  have:=qL2 hc hs hP hk
  unfold qDF qBz g2
  rw[show inC (mbM b s m) s=inC (mb b s (m0 m) (m1 m) (m2 m) (m3 m)) s from rfl,this,if_neg (by omega)]
  cases ho:qv b s (m1 m).toNat with
  | false=>simp
  | true=>
    rw[Bool.and_true,Bool.true_and]
    by_cases hd:m2 m=1
    ·have hdr:=hP.drop (by omega)
     rw[decide_eq_true hd,decide_eq_false (p:=m2 m≠1) (by simpa using hd),Bool.true_and,Bool.false_or,qj9 hc hs hk' hno hP.to_ hdr.2.2.2.2.2 (mhM b h s m)]
     have:mbM b s m=pb b s (m1 m):=by
      unfold mbM
      rw[a3,hd,a6,qGG]
     rw[this]
    ·rw[decide_eq_false hd,decide_eq_true (p:=m2 m≠1) hd];rfl
theorem qik (b h:List Int) (S:Int) (by_ sd_:List (List Int)) (f t d:Int) (p:Bool) (N:Nat) (M:List (List Int)) (hM:∀ m∈M,Mv4 m) (hl:M.length<=100000):∀ (n i:Nat),i+n=M.length->∀ F,
  qFG (F+n+1) M.length M.length i b h S by_ sd_ f t d p N M=some (if (M.drop i).contains [f,t,d,bi p] then .inl (true,b,h,S,by_,sd_) else .inr (b,h,S,by_,sd_)):=by
 intro n
 induction n with
 | zero=>
   intro i hi F
   show qHY (qFG (F+0)) _ _ _ _ _ _ _ _ _ _ _ _ _ _=_
   unfold qHY
   rw[qY (by omega),List.drop_eq_nil_of_le (by omega)]
   rfl
 | succ n ih=>
   intro i hi F
   show qHY (qFG (F+n+1)) _ _ _ _ _ _ _ _ _ _ _ _ _ _=_
   unfold qHY
   have hil:i<M.length:=by omega
   obtain⟨hm1,_⟩:=hM M[i] (List.getElem_mem hil)
   rw[qf (by omega),qa (by omega) (by omega),tn,atL hil]
   simp only[hdM]
   rw[w_s (n:=(i:Int)+1) (by omega) (by omega),List.drop_eq_getElem_cons hil,List.contains_cons]
   have e:(m0 M[i]==f&&(m1 M[i]==t&&(m2 M[i]==d&&m3 M[i]==p)))=([f,t,d,bi p]==M[i]):=by
    rw[Bool.eq_iff_iff,beq_iff_eq]
    simp only[Bool.and_eq_true,beq_iff_eq]
    constructor
    ·rintro ⟨h1,h2,h3,h4⟩
     rw[hm1,h1,h2,h3,h4]
    ·intro he
     rw[<- he]
     refine⟨rfl,rfl,rfl,?_⟩
     show (bi p != 0)=p
     cases p<;>rfl
   rw[e]
   cases hb:([f,t,d,bi p]==M[i]) with
   | true=>rw[b_t];rfl
   | false=>
     rw[b_f,Bool.false_or]
     exact ih (i+1) (by omega) F
theorem qGu (p:Bool):(bi p != 0)=p:=by cases p<;>rfl
theorem qXv {b:List Int} (_hc:Clean b) {h:List Int} {s:Int} (_hs:s=0 \/ s=1) {m:List Int} (hm:m∈lgL b h s):m∈mvs b h s:=by
 unfold lgL at hm
 rw[List.mem_append] at hm
 rcases hm with hm | hm
 ·exact List.mem_append_left _ (List.mem_filter.mp hm).1
 ·have:=(List.mem_filter.mp hm).1
  rw[qPn] at this
  exact List.mem_append_right _ (List.mem_filter.mp this).1
theorem qjX {b:List Int} (hc:Clean b) (h:List Int) {s:Int} (hs:s=0 \/ s=1) {k k':Nat} (hk:KS b s k) (hk':KS b (1 - s) k') (f t d:Int) (p:Bool):
  qJA f t d p b h s (qO b) (qR b)=some ((lgL b h s).contains [f,t,d,bi p],b,h,s,qO b,qR b):=by
 unfold qJA
 rw[qXY hc h hs hk hk',qA]
 simp only
 have hlen:=qjs b h s
 obtain⟨g,hg⟩:=qi (lgL b h s).length (by omega)
 have:=qik b h s (qO b) (qR b) f t d p (lgL b h s).length (lgL b h s) (fun m hm=>(qHi hc hs (qXv hc hs hm)).1) (by omega) (lgL b h s).length 0 (by omega) g
 rw[<- hg,List.drop_zero] at this
 rw[show qFG qC (lgL b h s).length (Int.ofNat (lgL b h s).length) 0 b h s (qO b) (qR b) f t d p (lgL b h s).length (lgL b h s)=_ from this,qA]
 cases (lgL b h s).contains [f,t,d,bi p]<;>rfl
end Go.Kk.Pl
namespace Go.Kk.Pl
end Go.Kk.Pl
namespace Go.Kk.Pl
theorem qkJ (f t d:Int) (p:Bool):qHh f t d p=some (qCa f t d p):=by
 unfold qHh qCa
 by_cases h1:t<0
 ·rw[qf h1,if_pos (by omega)]
 rw[qY h1]
 by_cases h2:t >= 81
 ·rw[qCJ h2,if_pos (by omega)]
 rw[qBn h2,if_neg (by omega)]
 by_cases hd:d=0
 ·rw[qt hd,if_neg (by simpa using hd)]
  by_cases h3:f<0
  ·rw[qf h3,if_pos (by omega)]
  rw[qY h3]
  by_cases h4:f >= 81
  ·rw[qCJ h4,if_pos (by omega)]
  rw[qBn h4,if_neg (by omega)]
  by_cases h5:f=t
  ·rw[qo h5,if_pos h5]
  ·rw[qn h5,if_neg h5]
 ·rw[qr hd,if_pos hd]
  by_cases h3:d<0
  ·rw[qf h3,if_neg (by omega)]
  rw[qY h3]
  by_cases h4:d >= 8
  ·rw[qCJ h4,if_neg (by omega)]
  rw[qBn h4]
  by_cases h5:f=0
  ·rw[qt h5]
   cases p with
   | true=>rw[b_t,if_neg (by simp)]
   | false=>rw[b_f,if_pos ⟨by omega,by omega,h5,rfl⟩]
  ·rw[qr h5,if_neg (by omega)]
theorem qfq (b h:List Int) {s:Int} (hs:s=0 \/ s=1) (f t d:Int) (p:Bool) (K:Int) (n:Nat) (by_ sides:List (List Int)) (m:Nat) (st:List (List Int)):
  qEx f t d p K n b h s by_ sides m st=some (qCK b h s f t d p):=by
 unfold qEx qCK
 rw[qkJ,qA]
 by_cases hm:qCa f t d p=0
 ·obtain⟨ht,hd,hmv⟩:=qKO hm
  have main:(br (d != 0)
    (ob (qC8 s d b h s by_ sides) fun a14=>
    br (decide (a14>0))
     (ob (qAv t b h s by_ sides) fun a15=>
     some (a15==0))
     (some (false)))
    (ob (qAv f b h s by_ sides) fun a14=>
    ob (qAv t b h s by_ sides) fun a15=>
    ob (qAz a14) fun a16=>
    br (a16==s)
     (ob (qAz a15) fun a17=>
     br (a17 != s)
      (ob (qAO a15) fun a18=>
      br (a18 != 8)
       (br (!p)
        (some (true))
        (ob (qAO a14) fun a19=>
        ob (qDp a19) fun a20=>
        some (a20 != 0)))
       (some (false)))
      (some (false)))
     (some (false))))=some (if d≠0 then decide (0<hd_ h s d)&&decide (at_ b t=0)
 else decide (sd (at_ b f)=s /\ sd (at_ b t)≠s /\ kd (at_ b t)≠8)&&(!p||decide (up_ (kd (at_ b f))≠0))):=by
   by_cases h0:d=0
   ·rw [qt h0,if_neg (by simpa using h0),qC4,qA,qC4,qA,qDP,qA]
    by_cases e1:sd (at_ b f)=s
    ·rw[qo e1,qDP,qA]
     by_cases e2:sd (at_ b t)=s
     ·rw[qt e2,decide_eq_false (p:=sd (at_ b f)=s /\ sd (at_ b t)≠s /\ kd (at_ b t)≠8) (fun h=>h.2.1 e2)];rfl
     ·rw [qr e2,qBt,qA]
      by_cases e3:kd (at_ b t)=8
      ·rw[qt e3,decide_eq_false (p:=sd (at_ b f)=s /\ sd (at_ b t)≠s /\ kd (at_ b t)≠8) (fun h=>h.2.2 e3)];rfl
      ·rw[qr e3,decide_eq_true (p:=sd (at_ b f)=s /\ sd (at_ b t)≠s /\ kd (at_ b t)≠8) ⟨e1,e2,e3⟩]
       cases p with
       | false=>rfl
       | true=>
         rw[Bool.not_true,b_f,qBt,qA,qJv,qA]
         by_cases e4:up_ (kd (at_ b f))=0<;>simp[e4]
    ·rw[qn e1,decide_eq_false (p:=sd (at_ b f)=s /\ sd (at_ b t)≠s /\ kd (at_ b t)≠8) (fun h=>e1 h.1)];rfl
   ·have:=hd h0
    rw[qr h0,if_pos h0,qKq hs (by omega) (by omega),qA]
    by_cases e1:hd_ h s d>0
    ·rw[qBe e1,qC4,qA,decide_eq_true (p:=0<hd_ h s d) e1,Bool.true_and]
     by_cases e2:at_ b t=0<;>simp[e2]
    ·rw[qBf e1,decide_eq_false (p:=0<hd_ h s d) e1,Bool.false_and]
  rw[qt hm,decide_eq_true hm,decide_eq_true hs,Bool.true_and,Bool.true_and,<- main]
  rcases hs with rfl | rfl<;>rfl
 ·rw[qr hm,decide_eq_false hm,Bool.false_and]
theorem qXu {b:List Int} (hc:Clean b) {h:List Int} {s:Int} (hs:s=0 \/ s=1) {k k':Nat} (hno:inC b (1 - s)=false) (hk:KS b s k) (hk':KS b (1 - s) k') {m:List Int} (hm:m∈lgL b h s):
  Mv4 m /\ qAJ b h s (m0 m) (m1 m) (m2 m) (m3 m)=true /\ qDF b h s m=true /\ qBz b s m=true:=by
 have h1:=qHi hc hs (qXv hc hs hm)
 rw[qX2 hc h hs hno hk hk'] at hm
 have h2:=(List.mem_filter.mp hm).2
 refine⟨h1.1,h1.2,h2,?_⟩
 unfold qDF at h2
 rw[Bool.and_eq_true] at h2
 exact h2.1
theorem qkI {b h:List Int} {s f t d:Int} {p:Bool} (hm:qAJ b h s f t d p=true):qCK b h s f t d p=true:=by
 unfold qAJ at hm
 rw[Bool.and_eq_true] at hm
 exact hm.1
end Go.Kk.Pl
namespace Go.Kk.Pl
theorem qEj {p:Nat->Bool} {a n:Nat}:(List.range' a n).any p=false ↔ ∀ i,a<=i->i<a+n->p i=false:=by
 rw[List.any_eq_false]
 constructor
 ·intro h i h1 h2
  have:=h i (List.mem_range'_1.mpr ⟨h1,h2⟩)
  simpa using this
 ·intro h i hi
  obtain⟨h1,h2⟩:=List.mem_range'_1.mp hi
  rw[h i h1 h2];simp
structure ChkP (b h:List Int) (s:Int):Prop where
 side:s=0 \/ s=1
 good:∀ i,i<81->bsP b i=false
 hands:∀ k,k<8->∀ j,j<2->bsH h k j=false
 kings:nP b 8=1 /\ nP b 24=1
 over:∀ k,1<=k->k<8->qB5 b h k=false
 dead:∀ i,i<81->qBA (b.getD i 0) i=false
 nifu:∀ f,f<9->qBQ b f=false
theorem qUf {b h:List Int} {s:Int}:qA1 b h s=0↔ChkP b h s:=by
 constructor
 ·intro hz
  unfold qA1 at hz
  split at hz
  ·omega
  rename_i h1
  split at hz
  ·omega
  rename_i h2
  split at hz
  ·omega
  rename_i h3
  split at hz
  ·omega
  rename_i h4
  split at hz
  ·omega
  rename_i h5
  split at hz
  ·omega
  rename_i h6
  split at hz
  ·omega
  rename_i h7
  rw[Bool.not_eq_true,qEj] at h2 h3 h5 h6 h7
  refine⟨by omega,fun i hi=>h2 i (by omega) (by omega),fun k hk j hj=>?_,by simpa using h4,fun k k1 k2=>h5 k k1 (by omega),fun i hi=>h6 i (by omega) (by omega),fun f hf=>h7 f (by omega) (by omega)⟩
  have:=h3 k (by omega) (by omega)
  rw[qEj] at this
  exact this j (by omega) (by omega)
 ·intro ⟨a1,a2,a3,a4,a5,a6,a7⟩
  unfold qA1
  rw[if_neg (by omega),if_neg (by rw[qEj.mpr fun i _ hi=>a2 i (by omega)];simp),if_neg (by rw[qEj.mpr fun k _ hk=>qEj.mpr fun j _ hj=>a3 k (by omega) j (by omega)];simp),if_neg (by simpa using a4),
   if_neg (by rw[qEj.mpr fun k k1 hk=>a5 k k1 (by omega)];simp),if_neg (by rw[qEj.mpr fun i _ hi=>a6 i (by omega)];simp),if_neg (by rw[qEj.mpr fun i _ hi=>a7 i (by omega)];simp)]
theorem qrN {n:Nat} {p:Nat->Bool}:(List.range n).countP p<=1 ↔ ∀ i j,i<n->j<n->p i=true->p j=true->i=j:=by
 rw[List.countP_eq_length_filter]
 have hn:((List.range n).filter p).Nodup:=List.Nodup.sublist List.filter_sublist List.nodup_range
 have hm:∀ i,i∈(List.range n).filter p↔i<n /\ p i=true:=by
  intro i;rw[List.mem_filter,List.mem_range]
 match he:(List.range n).filter p with
 | []=>
   rw[he] at hm
   refine⟨fun _ i j hi _ h1 _=>?_,fun _=>by simp⟩
   have:=(hm i).mpr ⟨hi,h1⟩
   cases this
 | [a]=>
   rw[he] at hm
   refine⟨fun _ i j hi hj h1 h2=>?_,fun _=>by simp⟩
   have e1:=(hm i).mpr ⟨hi,h1⟩
   have e2:=(hm j).mpr ⟨hj,h2⟩
   rw[List.mem_singleton] at e1 e2
   rw[e1,e2]
 | a :: c :: L=>
   rw[he] at hm hn
   refine⟨fun h=>?_,fun h=>?_⟩
   ·simp at h
   ·exfalso
    have ea:=(hm a).mp (by simp)
    have ec:=(hm c).mp (by simp)
    have:=h a c ea.1 ec.1 ea.2 ec.2
    subst this
    simp at hn
theorem qkV {b:List Int} {x:Int} {f:Nat}:nF b x f<=1 ↔ ∀ r r',r<9->r'<9->b.getD (9*f+r) 0=x->b.getD (9*f+r') 0=x->r=r':=by
 unfold nF
 rw[qrN]
 constructor
 ·intro h r r' hr hr' e e'
  exact h r r' hr hr' (by simpa using e) (by simpa using e')
 ·intro h r r' hr hr' e e'
  exact h r r' hr hr' (by simpa using e) (by simpa using e')
theorem qkW {b:List Int} {x:Int} {f:Nat}:nF b x f=0 ↔ ∀ r,r<9->b.getD (9*f+r) 0≠x:=by
 unfold nF
 rw[List.countP_eq_zero]
 constructor
 ·intro h r hr e
  exact h r (List.mem_range.mpr hr) (by simpa using e)
 ·intro h r hr e
  exact h r (List.mem_range.mp hr) (by simpa using e)
theorem qYS {b:List Int} {s:Int} {k:Nat} (h:KS b s k):nP b (pc s 8)=1:=by
 show qA2 (fun i=>b.getD i 0==pc s 8)=1
 rw[qHA]
 exact⟨k,h.1,fun i hi=>by rw[beq_iff_eq];exact h.2 i hi⟩
theorem qco {b h:List Int} {s:Int} (hl:b.length=81) (hf:qAe h) (hz:qA1 b h s=0):Sound b h s:=by
 obtain⟨hc,_⟩:=qIr hl hz
 obtain⟨v,hv,hS⟩:=qfy hc hf s
 rw[qba hl hf] at hv
 exact hS (by rw[<- Option.some.inj hv];exact hz)
theorem qgH {b h:List Int} {s f t d:Int} {p:Bool} (hl:b.length=81) (hf:qAe h) (hh:h.length=16) (hz:qA1 b h s=0) (hm:qAJ b h s f t d p=true):qA1 (mb b s f t d p) (mh b h s t d) (1 - s)=0:=by
 obtain⟨hc,hs⟩:=qIr hl hz
 have hP:=(qGA hm).2
 have hS:=qco hl hf hz
 have hC:=qUf.mp hz
 have hs':1 - s=0 \/ 1 - s=1:=by omega
 obtain⟨k,hk⟩:=qKz hz hs
 obtain⟨k',hk'⟩:=qKz hz hs'
 have ht:=hP.to_
 have hla:=qFD hs hP
 have hc2:Clean (mb b s f t d p):=qPg hc _ _ _ _ _
 have hmv:if d≠0 then (!qDf (16*s+d) t&&(decide (d≠1)||decide (nF b (16*s+d) (t.toNat / 9)=0)))=true
   else (rch (at_ b f) f.toNat t.toNat (tk b)&&if p=true then qCz (at_ b f) f t else !qDH (at_ b f) t)=true:=by
  have:=hm
  unfold qAJ at this
  rw[Bool.and_eq_true] at this
  have:=this.2
  by_cases hd:d=0
  ·rw[if_neg (by simpa using hd)] at this ⊢
   exact this
  ·rw[if_pos hd] at this ⊢
   exact this
 have hhand:∀ j:Int,(j=0 \/ j=1)->∀ i:Int,0<=i->i<8->(hd_ (mh b h s t d) j i=hd_ h j i \/ (1<=i /\ 0<=hd_ (mh b h s t d) j i)):=by
  intro j hj i i0 i8
  unfold mh
  by_cases hd:d=0
  ·have hmm:=hP.move hd
   rw[if_neg (by simpa using hd)]
   by_cases h0:at_ b t=0
   ·rw[if_pos h0];exact .inl rfl
   ·rw[if_neg h0]
    have hr:=qJZ ((hc.at_ t).resolve_left h0) hmm.2.2.2.2.2.1
    rw[qHQ hh hs (by omega) (by omega) 1 hj i0 i8]
    split
    ·right
     rename_i he
     have h1:=hS.hands (rw_ (kd (at_ b t))) (by omega) (by omega)
     have h2:=hS.counts (rw_ (kd (at_ b t))) (by omega) (by omega)
     have h3:0<=hd_ h s (rw_ (kd (at_ b t))) /\ hd_ h s (rw_ (kd (at_ b t)))<=18:=by
      rcases hs with rfl | rfl<;>omega
     rw[w_8 (by omega) (by omega)]
     omega
    ·exact .inl rfl
  ·have hmm:=hP.drop hd
   rw[if_pos hd,qHQ hh hs (by omega) (by omega) (-1) hj i0 i8]
   split
   ·right
    have:=qN7 hf s d
    rw[w_8 (by omega) (by omega)]
    omega
   ·exact .inl rfl
 rw[qUf]
 refine⟨hs',fun i hi=>?_,fun i hi j hj=>?_,?_,fun i i1 i2=>?_,fun i hi=>?_,fun g hg=>?_⟩
 ·unfold bsP
  rw[decide_eq_false_iff_not]
  rintro ⟨h1,h2⟩
  have:=hc2.at_ i
  rw[qAh (by omega),tn] at this
  exact this.elim h1 (fun h=>h h2)
 ·have h1:=hC.hands i hi j hj
  unfold bsH at h1 ⊢
  rw[decide_eq_false_iff_not] at h1 ⊢
  have h2:=hhand j (by omega) i (by omega) (by omega)
  unfold hd_ at h2
  rw[show (j:Int).toNat*8+(i:Int).toNat=j*8+i from rfl] at h2
  omega
 ·have e1:=qYS (qPA hc hs hP hk)
  have e2:=qYS (qKy hc hs hP hk')
  rw[pc8 hs] at e1
  rw[pc8 hs'] at e2
  rcases hs with rfl | rfl
  ·exact⟨e1,e2⟩
  ·exact⟨e2,e1⟩
 ·have h1:=hC.over i i1 i2
  unfold qB5 at h1 ⊢
  rw[decide_eq_false_iff_not] at h1 ⊢
  have:=ql6 hS hf hh hP (k:=(i:Int)) (by omega) (by omega)
  omega
 ·rw[qEK hc hs hP hi]
  by_cases h1:i=t.toNat
  ·rw [if_pos h1,h1]
   unfold laid
   by_cases hd:d=0
   ·rw [if_neg (by simpa using hd)]
    rw[if_neg (by simpa using hd)] at hmv
    have hmm:=hP.move hd
    cases p with
    | true=>
      rw[if_pos rfl]
      obtain⟨u1,u2,u3⟩:=qIU (hmm.2.2.2.2.2.2 rfl)
      have:9<=up_ (kd (at_ b f)):=by
       have hu:=hmm.2.2.2.2.2.2 rfl
       unfold up_ at hu ⊢
       split
       ·omega
       ·rename_i h;rw[if_neg h] at hu;exact absurd rfl hu
      unfold qBA
      rw[qHS hs u1 u2 u3,decide_eq_false_iff_not]
      omega
    | false=>
      rw[if_neg (by simp)]
      rw[if_neg (by simp),Bool.and_eq_true] at hmv
      have h2:=hmv.2
      cases hdd:qBA (at_ b f) t.toNat with
      | false=>rfl
      | true=>
        exfalso
        have hk:kd (at_ b f)=1 \/ kd (at_ b f)=2 \/ kd (at_ b f)=3:=by
         have:=of_decide_eq_true hdd
         omega
        unfold qDH at h2
        rw[show t=((t.toNat:Nat):Int) by omega,qNt _ (by omega),hdd] at h2
        have:up_ (kd (at_ b f))≠0:=by unfold up_;rw[if_pos (by omega)];omega
        rw[decide_eq_true this] at h2
        cases h2
   ·rw[if_pos hd]
    rw[if_pos hd,Bool.and_eq_true] at hmv
    have h2:=hmv.1
    rw[show t=((t.toNat:Nat):Int) by omega,qNt _ (by omega)] at h2
    simpa using h2
  ·rw[if_neg h1]
   by_cases h2:d=0 /\ i=f.toNat
   ·rw[if_pos h2]
    unfold qBA
    rw[qFB]
    simp
   ·rw[if_neg h2];exact hC.dead i hi
 ·have key:∀ x:Int,(x=1 \/ x=17)->nF (mb b s f t d p) x g<=1:=by
   intro x hx
   have hxk:kd x=1:=by rcases hx with rfl | rfl<;>decide
   have hold:nF b x g<=1:=by
    have:=hC.nifu g hg
    unfold qBQ at this
    simp only[Bool.or_eq_false_iff,decide_eq_false_iff_not] at this
    rcases hx with rfl | rfl<;>omega
   rw[qkV] at hold ⊢
   have from_:∀ r,r<9->(mb b s f t d p).getD (9*g+r) 0=x->(b.getD (9*g+r) 0=x /\ ¬ (d=0 /\ 9*g+r=f.toNat)) \/ 9*g+r=t.toNat:=by
    intro r hr e
    rw[qEK hc hs hP (by omega)] at e
    by_cases h1:9*g+r=t.toNat
    ·exact .inr h1
    ·rw[if_neg h1] at e
     by_cases h2:d=0 /\ 9*g+r=f.toNat
     ·rw[if_pos h2] at e
      rcases hx with rfl | rfl<;>omega
     ·rw[if_neg h2] at e
      exact .inl ⟨e,h2⟩
   have lay:∀ r,r<9->9*g+r=t.toNat->(mb b s f t d p).getD (9*g+r) 0=x->∀ r',r'<9->(b.getD (9*g+r') 0=x /\ ¬ (d=0 /\ 9*g+r'=f.toNat))->False:=by
    intro r hr he e r' hr' e'
    rw[qEK hc hs hP (by omega),if_pos he] at e
    unfold laid at e
    by_cases hd:d=0
    ·rw [if_neg (by simpa using hd)] at e hmv
     have hmm:=hP.move hd
     cases p with
     | true=>
       rw[if_pos rfl] at e
       have hu:=hmm.2.2.2.2.2.2 rfl
       obtain⟨u1,u2,u3⟩:=qIU hu
       have:kd (16*s+up_ (kd (at_ b f)))=1:=by rw[e,hxk]
       rw[qHS hs u1 u2 u3] at this
       unfold up_ at this
       split at this<;>omega
     | false=>
       rw[if_neg (by simp)] at e
       rw[Bool.and_eq_true] at hmv
       have hr1:=hmv.1
       have hfl:df f.toNat t.toNat=0:=by
        rcases qB8.mp hr1 with h1 | h1
        ·have h2:=of_decide_eq_true h1
         rw[e,hxk] at h2
         unfold qCE at h2
         omega
        ·have h2:=of_decide_eq_true h1.1
         rw[e,hxk] at h2
         unfold slK at h2
         omega
       unfold df fl at hfl
       have hfe:f.toNat=9*g+f.toNat % 9:=by omega
       have:b.getD (9*g+f.toNat % 9) 0=x:=by
        rw[<- hfe,<- qAh ⟨hmm.1,hmm.2.1⟩];exact e
       have:=hold (f.toNat % 9) r' (by omega) hr' this e'.1
       exact e'.2 ⟨hd,by omega⟩
    ·rw[if_pos hd] at e hmv
     rw[Bool.and_eq_true] at hmv
     have hdd:=hP.drop hd
     have hd1:d=1:=by rcases hs with rfl | rfl<;>rcases hx with rfl | rfl<;>omega
     have hz0:nF b (16*s+d) (t.toNat / 9)=0:=by
      have:=hmv.2
      rw[decide_eq_false (p:=d≠1) (by simpa using hd1),Bool.false_or,decide_eq_true_eq] at this
      exact this
     rw[e,show t.toNat / 9=g by omega,qkW] at hz0
     exact hz0 r' hr' e'.1
   intro r r' hr hr' e e'
   rcases from_ r hr e with h1 | h1
   ·rcases from_ r' hr' e' with h2 | h2
    ·exact hold r r' hr hr' h1.1 h2.1
    ·exact (lay r' hr' h2 e' r hr h1).elim
   ·rcases from_ r' hr' e' with h2 | h2
    ·exact (lay r hr h1 e r' hr' h2).elim
    ·omega
  unfold qBQ
  have k1:=key 1 (.inl rfl)
  have k2:=key 17 (.inr rfl)
  rw[decide_eq_false (by omega),decide_eq_false (by omega)]
  rfl
theorem qd8 {b h:List Int} {s f t d:Int} {p:Bool} (hl:b.length=81) (hf:qAe h) (hh:h.length=16) (hz:qA1 b h s=0) (hm:qAJ b h s f t d p=true) (hsafe:inC (mb b s f t d p) s=false):qCp (mb b s f t d p) (mh b h s t d) (1 - s)=0:=by
 have h1:=qgH hl hf hh hz hm
 unfold qCp
 rw[if_neg (by rw[h1];simp),show 1 - (1 - s)=s by omega,hsafe]
 rfl
theorem qTG {b h:List Int} {s:Int} (hz:qCp b h s=0):qA1 b h s=0:=by
 unfold qCp at hz
 split at hz
 ·rename_i h;exact absurd hz h
 ·rename_i h;simpa using h
end Go.Kk.Pl
namespace Go.Kk.Pl
end Go.Kk.Pl
namespace Go.Kk.Pl
theorem qiO (h:List Int) (s k:Nat) (hk:k<8):(List.take 8 (List.drop (s*7+s) h)).getD k 0=h.getD (s*8+k) 0:=by
 rw[List.getD_eq_getElem?_getD,List.getD_eq_getElem?_getD,List.getElem?_take,if_pos hk,List.getElem?_drop,show s*7+s+k=s*8+k by omega]
abbrev B64:=BitVec 64
def bv (n:Int):B64:=BitVec.ofInt 64 n
def un (x:B64):Int:=(x.toNat:Int)
theorem qBh (x:B64):bv (un x)=x:=by
 unfold bv un
 rw[BitVec.ofInt_natCast,BitVec.ofNat_toNat];simp
theorem qEe (a b:Int):qD .xor .u64 a b=un (bv a ^^^ bv b):=by
 show IntKind.wrap .u64 _=_
 have h:IntKind.wrap .u64 ((BitVec.ofInt 64 a ^^^ BitVec.ofInt 64 b).toNat:Int)=((BitVec.ofInt 64 a ^^^ BitVec.ofInt 64 b).toNat:Int):=
  qCG (by show (0:Int)<=_;omega) (by show _<=(18446744073709551615:Int);have:=(BitVec.ofInt 64 a ^^^ BitVec.ofInt 64 b).isLt;omega)
 exact h
def pcB (q x:Int):B64:=bv ((qCe q x).getD 0)
def hnB (s k n:Int):B64:=bv ((qDD s k n).getD 0)
def sdB:B64:=bv (qDE.getD 0)
theorem qOt (x:Int):∃ v:B64,qEH x=some (un v):=by
 unfold qEH
 rw[qEe]
 exact⟨_,rfl⟩
theorem qSt {m:Option Int} (h:∃ v:B64,m=some (un v)):m=some (un (bv (m.getD 0))):=by
 obtain⟨v,rfl⟩:=h
 simp[qBh]
theorem qKM {b:Bool} {x y:Option Int} (hx:∃ v:B64,x=some (un v)) (hy:∃ v:B64,y=some (un v)):∃ v:B64,br b x y=some (un v):=by cases b<;>assumption
theorem qYZ {α:Type} {m:Option α} {k:α->Option Int} (hm:∃ v,m=some v) (hk:∀ a,m=some a->∃ v:B64,k a=some (un v)):∃ v:B64,ob m k=some (un v):=by
 obtain⟨a,rfl⟩:=hm
 exact hk a rfl
theorem qWx (q x:Int):qCe q x=some (un (pcB q x)):=qSt (by
 unfold qCe
 refine qYZ (qXP _) fun a _=>?_
 refine qKM ⟨0,rfl⟩ (qKM ⟨0,rfl⟩ (qKM ⟨0,rfl⟩ (qYZ (qLD _) fun a ha=>?_)))
 obtain⟨v,hv⟩:=qOt _
 rw[hv] at ha
 cases ha
 exact⟨v,rfl⟩)
theorem qWw (s k n:Int):qDD s k n=some (un (hnB s k n)):=qSt (by
 have tail:∀ x:Int,∃ v:B64,(ob (qEH x) fun r=>some r)=some (un v):=fun x=>by
  obtain⟨v,hv⟩:=qOt x
  exact⟨v,by rw[hv];rfl⟩
 unfold qDD
 repeat first | exact⟨0,rfl⟩ | exact tail _ | apply qKM)
theorem qWy:qDE=some (un sdB):=qSt (by
 unfold qDE
 obtain⟨v,hv⟩:=qOt 1048576
 exact⟨v,by rw[hv];rfl⟩)
def qAf (b:List Int):Nat->B64
 | 0=>0
 | n+1=>qAf b n ^^^ pcB n (b.getD n 0)
def qBO (h:List Int) (s:Nat):Nat->B64
 | 0=>0
 | n+1=>qBO h s n ^^^ hnB s n (conv .i8 .i64 (h.getD (s*8+n) 0))
def qDj (h:List Int):B64:=qBO h 0 8 ^^^ qBO h 1 8
theorem qdd (a b:B64):a ^^^ (b ^^^ a)=b:=by rw[BitVec.xor_comm b a,<- BitVec.xor_assoc,BitVec.xor_self,BitVec.zero_xor]
theorem qfa:∀ (n:Nat) (q:Nat) (acc:B64) (b c d:List Int) (e:Int) (f:Nat),q+n=81->
  qCd (f+n+1) (un acc) b q c d e=some (un (acc ^^^ qAf b q ^^^ qAf b 81),c,d,e):=by
 intro n
 induction n with
 | zero=>
   intro q acc b c d e f hq
   have:q=81:=by omega
   subst this
   show qDl (qCd (f+0)) (un acc) b _ c d e=_
   unfold qDl
   rw[qT (by decide),BitVec.xor_assoc,BitVec.xor_self,BitVec.xor_zero]
 | succ n ih=>
   intro q acc b c d e f hq
   show qDl (qCd (f+n+1)) (un acc) b q c d e=_
   unfold qDl
   rw[qJ (by simp;omega),qJ (qAa (by omega) (by omega))]
   simp only[cond_true,Int.toNat_natCast]
   rw[qWx]
   show qCd (f+n+1) (qD .xor .u64 (un acc) (un (pcB q (b.getD q 0)))) b (IntKind.wrap .i64 ((q:Int)+1)) c d e=_
   rw[qAY (by omega) (by omega),qEe,qBh,qBh]
   have:=ih (q+1) (acc ^^^ pcB q (b.getD q 0)) b c d e f (by omega)
   rw[Int.natCast_add] at this
   rw[show ((q:Int)+1)=(q:Int)+(1:Nat) from rfl,this]
   congr 3
   show acc ^^^ pcB q (b.getD q 0) ^^^ (qAf b q ^^^ pcB q (b.getD q 0)) ^^^ qAf b 81=_
   rw[BitVec.xor_assoc acc,qdd]
theorem qiX (s:Nat):∀ (n:Nat) (k:Nat) (acc:B64) (h x2:List Int) (x3:Int) (x6 x7:List Int) (x8:Int) (f:Nat),k+n=8->
  qCy (f+n+1) (un acc) s x2 x3 (List.take 8 (List.drop (s*7+s) h)) k x6 x7 x8=some (un (acc ^^^ qBO h s k ^^^ qBO h s 8),x2,x3,x6,x7,x8):=by
 intro n
 induction n with
 | zero=>
   intro k acc h x2 x3 x6 x7 x8 f hk
   have:k=8:=by omega
   subst this
   show qDk (qCy (f+0)) (un acc) s x2 x3 _ _ x6 x7 x8=_
   unfold qDk
   rw[qT (by decide),BitVec.xor_assoc,BitVec.xor_self,BitVec.xor_zero]
 | succ n ih=>
   intro k acc h x2 x3 x6 x7 x8 f hk
   show qDk (qCy (f+n+1)) (un acc) s x2 x3 _ k x6 x7 x8=_
   unfold qDk
   rw[qJ (by simp;omega),qJ (qAa (by omega) (by omega))]
   simp only[cond_true,Int.toNat_natCast]
   rw[qiO h s k (by omega),qWw]
   show qCy (f+n+1) (qD .xor .u64 (un acc) (un (hnB s k (conv .i8 .i64 (h.getD (s*8+k) 0))))) s x2 x3 _ (IntKind.wrap .i64 ((k:Int)+1)) x6 x7 x8=_
   rw[qAY (by omega) (by omega),qEe,qBh,qBh]
   have:=ih (k+1) (acc ^^^ hnB s k (conv .i8 .i64 (h.getD (s*8+k) 0))) h x2 x3 x6 x7 x8 f (by omega)
   rw[Int.natCast_add] at this
   rw[show ((k:Int)+1)=(k:Int)+(1:Nat) from rfl,this]
   congr 3
   show acc ^^^ hnB s k (conv .i8 .i64 (h.getD (s*8+k) 0)) ^^^ (qBO h s k ^^^ hnB s k (conv .i8 .i64 (h.getD (s*8+k) 0))) ^^^ qBO h s 8=_
   rw[BitVec.xor_assoc acc,qdd]
theorem qiZ (acc:B64) (h c:List Int) (e:Int):qB3 qC (un acc) h 0 c h e=some (un (acc ^^^ qDj h),c,h,e):=by
 obtain⟨f,hf⟩:=qi 2 (by omega)
 obtain⟨g,hg⟩:=qi 8 (by omega)
 have step:∀ (s:Nat) (hs:s<2) (acc:B64) (f:Nat),qB3 (f+1) (un acc) h s c h e=qB3 f (un (acc ^^^ qBO h s 8)) h (s+1:Nat) c h e:=by
  intro s hs acc f
  show qDm (qB3 f) (un acc) h s c h e=_
  unfold qDm
  rw[qJ (by simp;omega),qJ (qAa (by omega) (by omega)),hg]
  show ob (qCy (g+8+1) (un acc) s h s (List.take 8 (List.drop (Int.toNat s*7+Int.toNat s) h)) (0:Nat) c h e) _=_
  rw[Int.toNat_natCast,qiX s 8 0 acc h h s c h e g (by omega)]
  show qB3 f (un (acc ^^^ 0 ^^^ qBO h s 8)) h (IntKind.wrap .i64 ((s:Int)+1)) c h e=_
  have z:acc ^^^ (0:B64)=acc:=by simp
  rw[qAY (by omega) (by omega),z]
  rfl
 rw[hf]
 have e1:=step 0 (by omega) acc (f+2)
 have e2:=step 1 (by omega) (acc ^^^ qBO h 0 8) (f+1)
 rw[show f+2+1=f+2+1 from rfl,show (0:Int)=((0:Nat):Int) from rfl,e1]
 rw[show f+2=f+1+1 from rfl,e2]
 show qDm (qB3 f) _ h 2 c h e=_
 unfold qDm
 rw[qT (by decide),BitVec.xor_assoc]
 rfl
def qBi (b h:List Int) (s:Int):B64:=bif s==1 then qAf b 81 ^^^ qDj h ^^^ sdB else qAf b 81 ^^^ qDj h
theorem qil (b h:List Int) (s:Int):qFC b h s=some (un (qBi b h s)):=by
 obtain⟨g,hg⟩:=qi 81 (by omega)
 have e2:qCd qC 0 b 0 b h s=some (un (qAf b 81),b,h,s):=by
  rw[hg]
  have:=qfa 81 0 0 b b h s g (by omega)
  rw[show (0:B64) ^^^ qAf b 0 ^^^ qAf b 81=qAf b 81 by show (0:B64) ^^^ 0 ^^^ _=_;simp] at this
  exact this
 unfold qFC
 rw[e2]
 show ob (qB3 qC (un (qAf b 81)) h 0 b h s) _=_
 rw[qiZ]
 show br (s==1) (ob qDE fun r10=>some (qD .xor .u64 (un (qAf b 81 ^^^ qDj h)) r10)) (some (un (qAf b 81 ^^^ qDj h)))=_
 unfold qBi
 cases hs:s==1
 ·rfl
 ·rw[qWy]
  show some (qD .xor .u64 _ _)=_
  rw[qEe,qBh,qBh]
  rfl
theorem qen (b:List Int) (i:Nat) (x:Int) (hi:i<b.length):∀ n,qAf (b.set i x) n=if i<n then qAf b n ^^^ pcB i (b.getD i 0) ^^^ pcB i x else qAf b n:=by
 intro n
 induction n with
 | zero=>rfl
 | succ n ih=>
   show qAf (b.set i x) n ^^^ pcB n ((b.set i x).getD n 0)=_
   rw[ih]
   rcases Nat.lt_trichotomy i n with h | h | h
   ·rw[if_pos h,if_pos (by omega)]
    have:(b.set i x).getD n 0=b.getD n 0:=by
     rw[List.getD_eq_getElem?_getD,List.getD_eq_getElem?_getD,List.getElem?_set_ne (by omega)]
    rw[this]
    show qAf b n ^^^ pcB i (b.getD i 0) ^^^ pcB i x ^^^ pcB n (b.getD n 0)=qAf b n ^^^ pcB n (b.getD n 0) ^^^ pcB i (b.getD i 0) ^^^ pcB i x
    ac_rfl
   ·subst h
    rw[if_neg (by omega),if_pos (by omega)]
    have:(b.set i x).getD i 0=x:=by
     rw[List.getD_eq_getElem?_getD,List.getElem?_set_self hi];rfl
    rw[this]
    show qAf b i ^^^ pcB i x=qAf b i ^^^ pcB i (b.getD i 0) ^^^ pcB i (b.getD i 0) ^^^ pcB i x
    rw[BitVec.xor_assoc (qAf b i),BitVec.xor_self,BitVec.xor_zero]
   ·rw[if_neg (by omega),if_neg (by omega)]
    have:(b.set i x).getD n 0=b.getD n 0:=by
     rw[List.getD_eq_getElem?_getD,List.getD_eq_getElem?_getD,List.getElem?_set_ne (by omega)]
    rw[this]
    rfl
theorem qWg (h:List Int) (s0 k0:Nat) (x:Int) (hk:k0<8) (hi:s0*8+k0<h.length) (s:Nat):∀ n,n<=8->qBO (h.set (s0*8+k0) x) s n =
  if s=s0 /\ k0<n then qBO h s n ^^^ hnB s0 k0 (conv .i8 .i64 (h.getD (s0*8+k0) 0)) ^^^ hnB s0 k0 (conv .i8 .i64 x) else qBO h s n:=by
 intro n
 induction n with
 | zero=>intro _;rw[if_neg (by omega)];rfl
 | succ n ih=>
   intro hn
   show qBO (h.set (s0*8+k0) x) s n ^^^ hnB s n (conv .i8 .i64 ((h.set (s0*8+k0) x).getD (s*8+n) 0))=_
   rw[ih (by omega)]
   by_cases hq:s*8+n=s0*8+k0
   ·have e1:s=s0:=by omega
    have e2:n=k0:=by omega
    subst e1
    subst e2
    rw[if_neg (by omega),if_pos (by omega)]
    have:(h.set (s*8+n) x).getD (s*8+n) 0=x:=by
     rw[List.getD_eq_getElem?_getD,List.getElem?_set_self hi];rfl
    rw[this]
    show qBO h s n ^^^ hnB s n (conv .i8 .i64 x)=qBO h s n ^^^ hnB s n (conv .i8 .i64 (h.getD (s*8+n) 0)) ^^^ hnB s n (conv .i8 .i64 (h.getD (s*8+n) 0)) ^^^ hnB s n (conv .i8 .i64 x)
    rw[BitVec.xor_assoc (qBO h s n),BitVec.xor_self,BitVec.xor_zero]
   ·have:(h.set (s0*8+k0) x).getD (s*8+n) 0=h.getD (s*8+n) 0:=by
     rw[List.getD_eq_getElem?_getD,List.getD_eq_getElem?_getD,List.getElem?_set_ne (by omega)]
    rw[this]
    by_cases hc:s=s0 /\ k0<n
    ·rw[if_pos hc,if_pos (by omega)]
     show _=qBO h s n ^^^ hnB s n (conv .i8 .i64 (h.getD (s*8+n) 0)) ^^^ _ ^^^ _
     ac_rfl
    ·rw[if_neg hc,if_neg (by omega)]
     rfl
theorem qiY (h:List Int) (s0 k0:Nat) (x:Int) (hs:s0<2) (hk:k0<8) (hh:h.length=16):
  qDj (h.set (s0*8+k0) x)=qDj h ^^^ hnB s0 k0 (conv .i8 .i64 (h.getD (s0*8+k0) 0)) ^^^ hnB s0 k0 (conv .i8 .i64 x):=by
 unfold qDj
 rw[qWg h s0 k0 x hk (by omega) 0 8 (Nat.le_refl _),qWg h s0 k0 x hk (by omega) 1 8 (Nat.le_refl _)]
 have:s0=0 \/ s0=1:=by omega
 rcases this with rfl | rfl
 ·rw[if_pos (by omega),if_neg (by omega)];ac_rfl
 ·rw[if_neg (by omega),if_pos (by omega)];ac_rfl
theorem qXQ (b h:List Int) (s:Int):kof b h s=un (qBi b h s):=by unfold kof;rw[qil];rfl
theorem qXR (q x:Int):kp q x=un (pcB q x):=by unfold kp;rw[qWx];rfl
theorem qXN (s k n:Int):kh s k n=un (hnB s k n):=by unfold kh;rw[qWw];rfl
theorem qjN:qI8=un sdB:=by unfold qI8;rw[qWy];rfl
theorem qlo {q x:Int} (h:kd x=0):pcB q x=pcB q 0:=by
 have e:∀ y,kd y=0->qCe q y=some 0:=by
  intro y hy
  unfold qCe
  rw[qBt,qA,hy]
  rfl
 unfold pcB
 rw[e x h,e 0 qFB]
theorem qip {b:List Int} (hl:b.length=81) {q:Int} (hq:0<=q /\ q<81) (x:Int) (h:List Int) (s:Int):qBi (put b q x) h s=qBi b h s ^^^ pcB q (at_ b q) ^^^ pcB q x:=by
 have e:pcB q (if kd x=0 then 0 else x)=pcB q x:=by
  split
  ·rename_i h;exact (qlo h).symm
  ·rfl
 unfold qBi put at_
 rw[if_pos hq,if_pos hq]
 revert e
 generalize (if kd x=0 then 0 else x)=y
 intro e
 have qAT:=qen b q.toNat y (by omega) 81
 rw[if_pos (show q.toNat<81 by omega),show ((q.toNat:Nat):Int)=q by omega,e] at qAT
 rw[qAT]
 cases s==1<;>simp only[cond_true,cond_false]<;>ac_rfl
theorem qio {h:List Int} (hh:h.length=16) {s k:Int} (hs:s=0 \/ s=1) (k0:0<=k) (k1:k<8) (d:Int) (b:List Int) (S:Int):
  qBi b (qAT h s k d) S=qBi b h S ^^^ hnB s k (hd_ h s k) ^^^ hnB s k (IntKind.wrap .i8 (hd_ h s k+d)):=by
 have e2:∀ x,conv .i8 .i64 x=x:=fun _=>rfl
 have hset':=qiY h s.toNat k.toNat (IntKind.wrap .i8 (hd_ h s k+d)) (by omega) (by omega) hh
 rw[e2,e2,show ((s.toNat:Nat):Int)=s by omega,show ((k.toNat:Nat):Int)=k by omega] at hset'
 unfold qBi qAT
 rw[hset']
 unfold hd_
 cases S==1<;>simp only[cond_true,cond_false]<;>ac_rfl
theorem qiq {s:Int} (hs:s=0 \/ s=1) (b h:List Int):qBi b h (1 - s)=qBi b h s ^^^ sdB:=by
 rcases hs with rfl | rfl
 ·rfl
 ·show qAf b 81 ^^^ qDj h=qAf b 81 ^^^ qDj h ^^^ sdB ^^^ sdB
  rw[BitVec.xor_assoc _ sdB,BitVec.xor_self,BitVec.xor_zero]
theorem qO9 {b:List Int} (hl:b.length=81) {q:Int} (hq:0<=q /\ q<81) (x:Int) (h:List Int) (s:Int):qCg (un (qBi b h s)) b q x=un (qBi (put b q x) h s):=by
 unfold qCg
 rw[qXR,qXR,qEe,qEe,qBh,qBh,qBh,qBh,qip hl hq,BitVec.xor_assoc]
theorem qXO {h:List Int} (hh:h.length=16) {s k:Int} (hs:s=0 \/ s=1) (k0:0<=k) (k1:k<8) {d:Int} (b:List Int) (S:Int) (r0:-128<=hd_ h s k+d) (r1:hd_ h s k+d<=127):
  qHT (un (qBi b h S)) h s k d=un (qBi b (qAT h s k d) S):=by
 unfold qHT
 rw[qXN,qXN,qEe,qEe,qBh,qBh,qBh,qBh,qio hh hs k0 k1,BitVec.xor_assoc,qAY (by omega) (by omega),qJz r0 r1]
theorem qPB {s:Int} (hs:s=0 \/ s=1) (b h:List Int):qK0 (un (qBi b h s))=un (qBi b h (1 - s)):=by
 unfold qK0
 rw[qjN,qEe,qBh,qBh,qiq hs]
theorem qkG {b h:List Int} {s:Int} (hS:Sound b h s) (hf:qAe h) (hh:h.length=16) {f t d:Int} {p:Bool} (hP:CanP b h s f t d p):
  qHg (kof b h s) b h s f t d p=kof (mb b s f t d p) (mh b h s t d) (1 - s):=by
 rw[qXQ,qXQ]
 unfold qHg mb mh
 by_cases hd:d=0
 ·obtain⟨f0,f1,f2,g1,g2,g3,g4⟩:=hP.move hd
  simp only[if_neg (show ¬ (d≠0) from fun h=>h hd)]
  rw[qO9 hS.clean.len ⟨f0,f1⟩,qO9 (hS.clean.put f 0).len hP.to_]
  by_cases ht:at_ b t=0
  ·simp only[if_pos ht]
   rw[qPB hS.side]
  ·have hk:=(hS.clean.at_ t).resolve_left ht
   obtain⟨r1,r2⟩:=qJZ hk g3
   have hc:=hS.counts _ r1 r2
   have h0:=hS.hands (rw_ (kd (at_ b t))) (by omega) r2
   have hsd:=hS.side
   simp only[if_neg ht]
   rw[qXO hh hS.side (by omega) r2 _ _ (by rcases hsd with rfl | rfl<;>omega) (by rcases hsd with rfl | rfl<;>omega),qPB hS.side]
 ·obtain⟨d0,d1,d2,d3,g1,g2⟩:=hP.drop hd
  have hb:=qN7 hf s d
  simp only[if_pos (show d≠0 from hd)]
  rw[qXO hh hS.side (by omega) d1 _ _ (by omega) (by omega),qO9 hS.clean.len hP.to_,qPB hS.side]
end Go.Kk.Pl
namespace Go.Kk.Pl
structure Going (b h:List Int) (s:Int):Prop where
 sound:Sound b h s
 fits:qAe h
 len:h.length=16
end Go.Kk.Pl
namespace Go.Kk.Pl
end Go.Kk.Pl
namespace Go.Kk.Pl
theorem qOk {b:List Int} (hc:Clean b) (q x K:Int) (n:Nat) (h:List Int) (s:Int) (m:Nat) (st:List (List Int)):
  qDg q x K n b h s (qO b) (qR b) m st=some (qCg K b q x,n,put b q x,h,s,qO (put b q x),qR (put b q x),m,st):=by
 unfold qDg
 simp only[qC4,qA,qjM,qQC hc]
 rfl
theorem qiU {b:List Int} (hc:Clean b) (h:List Int) (s:Int):qKS b h s=some (kof b h s,0,b,h,s,qO b,qR b,0,[]):=by
 unfold qKS
 rw[qPq hc.len,qNo hc,qA]
 simp only
 rw[qjL,qA]
theorem qj7 {b:List Int} (hc:Clean b) (h:List Int) {s:Int} (hs:s=0 \/ s=1) (f t d:Int) (p:Bool):∃ c,(∀ K n m st,qEx f t d p K n b h s (qO b) (qR b) m st=some c) /\
  ((c=false /\ ∀ K n m st,qEy f t d p K n b h s (qO b) (qR b) m st=some (.inl (false,K,n,b,h,s,qO b,qR b,m,st))) \/
   (c=true /\ CanP b h s f t d p /\ ∀ K n m st,(n+1)*40<=140737488355328->qEy f t d p K n b h s (qO b) (qR b) m st =
    some (.inr (true,qHg K b h s f t d p,n+1,mb b s f t d p,mh b h s t d,1 - s,qO (mb b s f t d p),qR (mb b s f t d p),n+1,List.append (List.take n st) [[f,t,d,bi p,at_ b t,was b s f d]])))):=by
 obtain⟨c,hcan,hP⟩:=qfr b h hs f t d p
 refine⟨c,fun K n m st=>hcan K n _ _ m st,?_⟩
 cases c with
 | false=>
   refine .inl ⟨rfl,fun K n m st=>?_⟩
   unfold qEy
   rw[hcan,qA,qJ (by rfl)]
 | true=>
   have hP:=hP rfl
   refine .inr ⟨rfl,hP,fun K n m st hn=>?_⟩
   have hn':decide ((n+1)*40<=140737488355328)=true:=by simpa using hn
   unfold qEy
   rw[hcan,qA,qT (by rfl),qC4,qA]
   by_cases hd:d=0
   ·obtain⟨f0,f1,f2,g1,g2,g3,g4⟩:=hP.move hd
    rw[qT (by simpa using hd),qC4,qA]
    have hx:∀ {α:Type} (k:Int->Option α),(br p (ob (qAO (at_ b f)) fun a16=>ob (qDp a16) fun a17=>ob (qBS s a17) k) (k (at_ b f)))=k (laid b s f d p):=by
     intro α k
     unfold laid
     rw[if_neg (by simpa using hd)]
     cases p with
     | false=>rfl
     | true=>
       obtain⟨u1,u2,u3⟩:=qIU (g4 rfl)
       rw[qJ rfl,qBt,qA,qJv,qA,qLL hs u1 u2 u3,qA,if_pos rfl]
    have p1:=qOk hc f 0 K n h s m st
    have p2:=qOk (hc.put f 0) t (laid b s f d p) (qCg K b f 0) n h s m st
    have tail:(br (at_ b t != 0)
      (ob (qAO (at_ b t)) fun a37=>
      ob (qEL a37) fun a38=>
      ob (qFt s a38 1 (qCg (qCg K b f 0) (put b f 0) t (laid b s f d p)) n (put (put b f 0) t (laid b s f d p)) h s (qO (put (put b f 0) t (laid b s f d p))) (qR (put (put b f 0) t (laid b s f d p))) m st) fun (a39_0,a39_1,a39_2,a39_3,a39_4,a39_5,a39_6,a39_7,a39_8)=>
      ob (qDh a39_0 a39_1 a39_2 a39_3 a39_4 a39_5 a39_6 a39_7 a39_8) fun (a48_0,a48_1,a48_2,a48_3,a48_4,a48_5,a48_6,_,a48_8)=>
      br (decide ((a48_1+1)*40<=140737488355328))
       (some (Sum.inr (true,a48_0,a48_1+1,a48_2,a48_3,a48_4,a48_5,a48_6,a48_1+1,List.append (List.take a48_1 a48_8) [[f,t,d,bi p,at_ b t,at_ b f]])))
       (none))
      (ob (qDh (qCg (qCg K b f 0) (put b f 0) t (laid b s f d p)) n (put (put b f 0) t (laid b s f d p)) h s (qO (put (put b f 0) t (laid b s f d p))) (qR (put (put b f 0) t (laid b s f d p))) m st) fun (a37_0,a37_1,a37_2,a37_3,a37_4,a37_5,a37_6,_,a37_8)=>
      br (decide ((a37_1+1)*40<=140737488355328))
       (some (Sum.inr (true,a37_0,a37_1+1,a37_2,a37_3,a37_4,a37_5,a37_6,a37_1+1,List.append (List.take a37_1 a37_8) [[f,t,d,bi p,at_ b t,at_ b f]])))
       (none)):Option ((Bool×Int×Nat×List Int×List Int×Int×List (List Int)×List (List Int)×Nat×List (List Int))⊕(Bool×Int×Nat×List Int×List Int×Int×List (List Int)×List (List Int)×Nat×List (List Int)))) =
      some (.inr (true,qHg K b h s f t d p,n+1,mb b s f t d p,mh b h s t d,1 - s,qO (mb b s f t d p),qR (mb b s f t d p),n+1,List.append (List.take n st) [[f,t,d,bi p,at_ b t,was b s f d]])):=by
     unfold qHg mb mh was
     by_cases ht:at_ b t=0
     ·rw[qT (by simpa using ht),qOm hs,qA]
      simp only
      rw[qJ hn']
      simp[hd,ht]
     ·have hk:=(hc.at_ t).resolve_left ht
      obtain⟨r1,r2⟩:=qJZ hk g3
      obtain⟨k1,k2,k3⟩:=qCP (at_ b t)
      rw[qJ (by simpa using ht),qBt,qA,qZF k1 k2,qA,qWf hs r1 r2 1 (.inl rfl),qA]
      simp only
      rw[qOm hs,qA]
      simp only
      rw[qJ hn']
      simp[hd,ht]
    refine Eq.trans ?_ tail
    cases p with
    | true=>
      have hx:=hx (fun a18=>ob (qDg f 0 K n b h s (qO b) (qR b) m st) fun (a19_0,a19_1,a19_2,a19_3,a19_4,a19_5,a19_6,a19_7,a19_8)=>
       ob (qDg t a18 a19_0 a19_1 a19_2 a19_3 a19_4 a19_5 a19_6 a19_7 a19_8) fun r=>some r)
      rw[qJ rfl] at hx ⊢
      obtain⟨u1,u2,u3⟩:=qIU (g4 rfl)
      have hl:laid b s f d true=16*s+up_ (kd (at_ b f)):=by unfold laid;rw[if_neg (by simpa using hd),if_pos rfl]
      rw[qBt,qA,qJv,qA,qLL hs u1 u2 u3,qA,p1,qA]
      simp only
      rw[<- hl,p2,qA]
    | false=>
      have hl:laid b s f d false=at_ b f:=by unfold laid;rw[if_neg (by simpa using hd),if_neg (by simp)]
      rw[qT rfl,p1,qA]
      simp only
      rw[hl] at p2 ⊢
      rw[p2,qA]
   ·obtain⟨d0,d1,d2,d3,g1,g2⟩:=hP.drop hd
    have hl:laid b s f d p=16*s+d:=by unfold laid;rw[if_pos hd]
    have e1:qBS s d=some (laid b s f d p):=by rw[hl];exact qLL hs (by omega) (by omega) (by omega)
    have p1:=qOk hc t (laid b s f d p) (qHT K h s d (-1)) n (qAT h s d (-1)) s m st
    rw[qJ (by simpa using hd),e1,qA,qWf hs (by omega) d1 (-1) (.inr rfl),qA]
    simp only
    rw[p1,qA]
    simp only
    rw[qOm hs,qA]
    simp only
    rw[qJ hn']
    unfold qHg mb mh was
    simp only[if_pos hd,hl]
end Go.Kk.Pl
namespace Go.Kk.Pl
structure PosP (b h:List Int) (s:Int):Prop where
 len:b.length=81
 fits:qAe h
 hlen:h.length=16
 zero:qCp b h s=0
theorem PosP.clean {b h:List Int} {s:Int} (hp:PosP b h s):Clean b:=(qGK hp.len hp.zero).1
theorem PosP.side {b h:List Int} {s:Int} (hp:PosP b h s):s=0 \/ s=1:=(qGK hp.len hp.zero).2.1
theorem PosP.going {b h:List Int} {s:Int} (hp:PosP b h s):Going b h s:=⟨qco hp.len hp.fits (qTG hp.zero),hp.fits,hp.hlen⟩
theorem PosP.after {b h:List Int} {s:Int} (hp:PosP b h s) {m:List Int} (hm:m∈lgL b h s):PosP (mbM b s m) (mhM b h s m) (1 - s):=by
 obtain⟨hc,hs,hno,k,k',hk,hk'⟩:=qGK hp.len hp.zero
 obtain⟨_,hm2,_,hm4⟩:=qXu hc hs hno hk hk' hm
 have hsafe:inC (mb b s (m0 m) (m1 m) (m2 m) (m3 m)) s=false:=by simpa[qBz,mbM] using hm4
 exact⟨(qPg hc _ _ _ _ _).1,qkD hp.fits _ _ _ _,qkE hp.hlen _ _ _ _,qd8 hp.len hp.fits hp.hlen (qTG hp.zero) hm2 hsafe⟩
theorem PosP.lists {b h:List Int} {s:Int} (hp:PosP b h s):lgL b h s=rlL b h s:=by
 obtain⟨hc,hs,hno,k,k',hk,hk'⟩:=qGK hp.len hp.zero
 exact qX2 hc h hs hno hk hk'
theorem PosP.all {b h:List Int} {s:Int} (hp:PosP b h s):qHV b h s (qO b) (qR b)=some ((lgL b h s).length,b,h,s,qO b,qR b,(lgL b h s).length,lgL b h s):=by
 obtain⟨hc,hs,hno,k,k',hk,hk'⟩:=qGK hp.len hp.zero
 exact qXY hc h hs hk hk'
theorem PosP.full {b h:List Int} {s:Int} (hp:PosP b h s) {m:List Int} (hm:m∈lgL b h s):Mv4 m /\ qAJ b h s (m0 m) (m1 m) (m2 m) (m3 m)=true:=by
 obtain⟨hc,hs,hno,k,k',hk,hk'⟩:=qGK hp.len hp.zero
 have:=qXu hc hs hno hk hk' hm
 exact⟨this.1,this.2.1⟩
theorem qjq (n:Nat):(Int.ofNat n==0)=decide (n=0):=by
 rw[Bool.eq_iff_iff,decide_eq_true_eq,beq_iff_eq]
 exact⟨fun h=>by simpa using h,fun h=>by rw[h];rfl⟩
end Go.Kk.Pl
namespace Go.Kk.Pl
end Go.Kk.Pl
namespace Go.Kk.Pl
end Go.Kk.Pl
namespace Go.Kk.Pl
end Go.Kk.Pl
namespace Go.Kk.Pl
end Go.Kk.Pl
namespace Go.Kk.Pl
def sqL (q:Nat):List UInt8:=[UInt8.ofNat (49+q / 9),UInt8.ofNat (97+q % 9)]
def ltr (d:Nat):UInt8:=[0,80,76,78,83,71,66,82].getD d 0
def txL (f t d:Nat) (p:Bool):List UInt8:=if d≠0 then [ltr d,42]++sqL t else sqL f++sqL t++(if p then [43] else [])
def bts (l:List UInt8):ByteArray:={data:={toList:=l }}
def qE9 (l:List UInt8):List Int:=l.map fun x=>Int.ofNat x.toNat
end Go.Kk.Pl
namespace Go.Kk.Pl
end Go.Kk.Pl
namespace Go.Kk.Pl
def tx (m:List Int):ByteArray:=bts (txL (m0 m).toNat (m1 m).toNat (m2 m).toNat (m3 m))
def qGC (b:List Int) (s:Int) (m:List Int):List Int:=[m0 m,m1 m,m2 m,bi (m3 m),at_ b (m1 m),was b s (m0 m) (m2 m)]
theorem PosP.make {b h:List Int} {s:Int} (hp:PosP b h s) {m:List Int} (hm:m∈lgL b h s) (n:Nat) (hn:n<=1000) (x:Nat) (st:List (List Int)):
  qEy (m0 m) (m1 m) (m2 m) (m3 m) (kof b h s) n b h s (qO b) (qR b) x st =
   some (.inr (true,kof (mbM b s m) (mhM b h s m) (1 - s),n+1,mbM b s m,mhM b h s m,1 - s,qO (mbM b s m),qR (mbM b s m),n+1,List.append (List.take n st) [qGC b s m])):=by
 obtain⟨c,hcan,hmk⟩:=qj7 hp.clean h hp.side (m0 m) (m1 m) (m2 m) (m3 m)
 have e:qCK b h s (m0 m) (m1 m) (m2 m) (m3 m)=c:=Option.some.inj ((qfq b h hp.side (m0 m) (m1 m) (m2 m) (m3 m) 0 0 (qO b) (qR b) 0 []).symm.trans (hcan 0 0 0 []))
 rw[qkI (hp.full hm).2] at e
 rcases hmk with⟨h1,_⟩ | ⟨_,hP,hmk⟩
 ·rw[h1] at e;cases e
 ·rw[hmk _ _ _ _ (by omega),qkG hp.going.sound hp.going.fits hp.going.len hP]
  rfl
end Go.Kk.Pl
namespace Go.Kk.Pl
def nm (m:List Int):List Int:=[m0 m,m1 m,m2 m,bi (m3 m)]
theorem nm0 (m:List Int):m0 (nm m)=m0 m:=rfl
theorem nm1 (m:List Int):m1 (nm m)=m1 m:=rfl
theorem nm2 (m:List Int):m2 (nm m)=m2 m:=rfl
theorem nm3 (m:List Int):m3 (nm m)=m3 m:=qGu (m3 m)
theorem qYU (b:List Int) (s:Int) (m:List Int):mbM b s (nm m)=mbM b s m:=by unfold mbM;rw[nm0,nm1,nm2,nm3]
theorem qYV (b h:List Int) (s:Int) (m:List Int):mhM b h s (nm m)=mhM b h s m:=by unfold mhM;rw[nm1,nm2]
theorem qkc (b:List Int) (s:Int) (m:List Int):qGC b s (nm m)=qGC b s m:=by unfold qGC;rw[nm0,nm1,nm2,nm3]
def lg (b h:List Int) (s:Int) (m:List Int):Bool:=(lgL b h s).contains (nm m)
theorem qWs {b h:List Int} {s:Int} {m:List Int} (hm:lg b h s m=true):nm m∈lgL b h s:=by simpa[lg] using hm
theorem PosP.is {b h:List Int} {s:Int} (hp:PosP b h s) (m:List Int):qJA (m0 m) (m1 m) (m2 m) (m3 m) b h s (qO b) (qR b)=some (lg b h s m,b,h,s,qO b,qR b):=by
 obtain⟨hc,hs,hno,k,k',hk,hk'⟩:=qGK hp.len hp.zero
 exact qjX hc h hs hk hk' _ _ _ _
theorem PosP.next {b h:List Int} {s:Int} (hp:PosP b h s) {m:List Int} (hm:lg b h s m=true):PosP (mbM b s m) (mhM b h s m) (1 - s):=by
 have:=hp.after (qWs hm)
 rw[qYU,qYV] at this
 exact this
theorem PosP.make' {b h:List Int} {s:Int} (hp:PosP b h s) {m:List Int} (hm:lg b h s m=true) (n:Nat) (hn:n<=1000) (x:Nat) (st:List (List Int)):
  qEy (m0 m) (m1 m) (m2 m) (m3 m) (kof b h s) n b h s (qO b) (qR b) x st =
   some (.inr (true,kof (mbM b s m) (mhM b h s m) (1 - s),n+1,mbM b s m,mhM b h s m,1 - s,qO (mbM b s m),qR (mbM b s m),n+1,List.append (List.take n st) [qGC b s m])):=by
 have:=hp.make (qWs hm) n hn x st
 rw[nm0,nm1,nm2,nm3,qYU,qYV,qkc] at this
 exact this
def zB:List Int:=[0,0,0,0,0,0,0,0,0,0,0,0,0,0,0,0,0,0,0,0,0,0,0,0,0,0,0,0,0,0,0,0,0,0,0,0,0,0,0,0,0,0,0,0,0,0,0,0,0,0,0,0,0,0,0,0,0,0,0,0,0,0,0,0,0,0,0,0,0,0,0,0,0,0,0,0,0,0,0,0,0]
end Go.Kk.Pl
namespace Go.Kk.Pl
def qy (b h:List Int) (s:Int):List Int:=b++(h++[s])
def pB (r:List Int):List Int:=r.take 81
def pH (r:List Int):List Int:=(r.drop 81).take 16
def pS (r:List Int):Int:=r.getD 97 0
theorem qo1 (r:List Int):List.take 81 (List.take 98 r)=pB r:=by unfold pB;rw[List.take_take];rfl
theorem qo4 (r:List Int):List.take 16 (List.drop 81 (List.take 98 r))=pH r:=by
 unfold pH
 rw[List.drop_take,List.take_take]
 rfl
theorem qo6 (r:List Int):List.headD (List.drop 16 (List.drop 81 (List.take 98 r))) 0=pS r:=by
 unfold pS
 rw[List.drop_drop,List.headD_eq_head?_getD,List.head?_drop,List.getElem?_take,if_pos (by omega),List.getD_eq_getElem?_getD]
theorem qo7 (r:List Int):List.getD r 97 0=pS r:=rfl
theorem qo5 (b h:List Int) (s:Int):List.append (List.append b (List.append h [s])) []=qy b h s:=List.append_nil _
theorem qH7 {b h:List Int} {s:Int} (hb:b.length=81):pB (qy b h s)=b:=by unfold pB qy;rw[<- hb];exact List.take_left ..
theorem qJX {b h:List Int} {s:Int} (hb:b.length=81) (hh:h.length=16):pH (qy b h s)=h:=by
 unfold pH qy
 rw[<- hb,List.drop_left,<- hh]
 exact List.take_left ..
theorem qFa {b h:List Int} {s:Int} (hb:b.length=81) (hh:h.length=16):pS (qy b h s)=s:=by
 unfold pS qy
 rw[List.getD_eq_getElem?_getD,List.getElem?_append_right (by omega),List.getElem?_append_right (by omega),hb,hh]
 rfl
structure PosR (r:List Int):Prop where
 pos:PosP (pB r) (pH r) (pS r)
 row:qy (pB r) (pH r) (pS r)=r
theorem qP8 {b h:List Int} {s:Int} (hp:PosP b h s):PosR (qy b h s):=by
 refine⟨?_,?_⟩
 ·rw[qH7 hp.len,qJX hp.len hp.hlen,qFa hp.len hp.hlen];exact hp
 ·rw[qH7 hp.len,qJX hp.len hp.hlen,qFa hp.len hp.hlen]
theorem qo2 {r q:List Int} (hr:PosR r) (hq:PosR q):(pB r==pB q&&(pH r==pH q&&pS r==pS q))=(r==q):=by
 rw[Bool.eq_iff_iff]
 simp only[Bool.and_eq_true,beq_iff_eq]
 constructor
 ·rintro ⟨h1,h2,h3⟩
  rw[<- hr.row,<- hq.row,h1,h2,h3]
 ·rintro rfl
  exact⟨rfl,rfl,rfl⟩
def qCf (r:List Int):Int:=kof (pB r) (pH r) (pS r)
theorem qjK {b h:List Int} {s:Int} (hp:PosP b h s):qCf (qy b h s)=kof b h s:=by
 unfold qCf
 rw[qH7 hp.len,qJX hp.len hp.hlen,qFa hp.len hp.hlen]
def qBD (S:List (List Int)) (r:List Int) (n:Nat):List Int:=((List.range n).filter fun i=>S.getD i []==r).map Int.ofNat
def qBj (S:List (List Int)) (k:Int) (n:Nat):List Int:=((List.range n).filter fun i=>qCf (S.getD i [])==k).map Int.ofNat
theorem qki (S:List (List Int)) (k:Int) (n:Nat):qBj S k (n+1)=if (qCf (S.getD n [])==k)=true then qBj S k n++[(n:Int)] else qBj S k n:=by
 unfold qBj
 rw[List.range_succ,List.filter_append,List.map_append]
 split
 ·rename_i h
  rw[List.filter_cons_of_pos (by simpa using h)]
  rfl
 ·rename_i h
  rw[List.filter_cons_of_neg (by simpa using h)]
  simp
theorem qkh {S:List (List Int)} (x:List (List Int)) (k:Int) {n:Nat} (hn:n<=S.length):qBj (S++x) k n=qBj S k n:=by
 unfold qBj
 congr 1
 apply List.filter_congr
 intro i hi
 have:i<S.length:=by have:=List.mem_range.1 hi;omega
 rw[List.getD_eq_getElem?_getD,List.getD_eq_getElem?_getD,List.getElem?_append_left this]
theorem qpL (S:List (List Int)) (r:List Int) (n:Nat):(qBD S r n).length<=n:=by
 unfold qBD
 rw[List.length_map]
 exact Nat.le_trans (List.length_filter_le _ _) (by simp)
theorem qYa (S:List (List Int)) (k:Int) (n:Nat):(qBj S k n).length<=n:=by
 unfold qBj
 rw[List.length_map]
 exact Nat.le_trans (List.length_filter_le _ _) (by simp)
theorem qkg {S:List (List Int)} {k:Int} {n:Nat} {j:Int} (h:j∈qBj S k n):0<=j /\ j<n:=by
 unfold qBj at h
 obtain⟨i,hi,rfl⟩:=List.mem_map.1 h
 have:=List.mem_range.1 (List.mem_filter.1 hi).1
 simp only[Int.ofNat_eq_natCast]
 omega
theorem qpM {S:List (List Int)} {r:List Int} {n:Nat} {j:Int} (h:j∈qBD S r n):0<=j /\ j<n:=by
 unfold qBD at h
 obtain⟨i,hi,rfl⟩:=List.mem_map.1 h
 have:=List.mem_range.1 (List.mem_filter.1 hi).1
 simp only[Int.ofNat_eq_natCast]
 omega
theorem qkj (S:List (List Int)) (r:List Int) (n:Nat):(qBj S (qCf r) n).filter (fun j=>S.getD j.toNat []==r)=qBD S r n:=by
 unfold qBj qBD
 rw[List.filter_map,List.filter_filter]
 congr 1
 apply List.filter_congr
 intro i _
 simp only[Function.comp,Int.ofNat_eq_natCast,Int.toNat_natCast]
 cases h:(S.getD i []==r) with
 | false=>rfl
 | true=>rw[beq_iff_eq.1 h];simp
theorem qOq (r q:List Int):∀ ks:List (List Int),qW r (qAj q ks)=if r=q then qW q ks else if r∈ks then qW r ks else (qAj q ks).length
 | []=>by
   by_cases h:r=q
   ·subst h;simp[qAj,qW]
   ·have:(q==r)=false:=beq_eq_false_iff_ne.2 fun e=>h e.symm
    simp[qAj,qW,h,this]
 | k :: ks=>by
   have ih:=qOq r q ks
   by_cases hkq:(k==q)=true
   ·have:=beq_iff_eq.1 hkq
    subst this
    by_cases h:r=k
    ·subst h;simp[qAj,qW]
    ·have h2:(k==r)=false:=beq_eq_false_iff_ne.2 fun e=>h e.symm
     simp only[qAj,beq_self_eq_true,cond_true,qW,h2,cond_false,h,if_false,List.mem_cons,false_or,List.length_cons]
     have h3:=idxK_past ks r
     split
     ·rfl
     ·rename_i h4;rw[h3 h4]
   ·have hkq:(k==q)=false:=by simpa using hkq
    by_cases h:r=q
    ·subst h
     simp only[qAj,hkq,cond_false,qW,ih,if_true]
    ·by_cases h2:k=r
     ·subst h2
      simp[qAj,hkq,qW,h]
     ·have h3:(k==r)=false:=beq_eq_false_iff_ne.2 h2
      simp only[qAj,hkq,cond_false,qW,h3,ih,if_neg h,List.mem_cons,List.length_cons]
      have h4:¬ r=k:=fun e=>h2 e.symm
      simp only[h4,false_or]
      split<;>rfl
where idxK_past:∀ (ks:List (List Int)) (r:List Int),r ∉ ks->qW r ks=ks.length
 | [],_,_=>rfl
 | k :: ks,r,h=>by
   simp only[List.mem_cons,not_or] at h
   have h3:(k==r)=false:=beq_eq_false_iff_ne.2 fun e=>h.1 e.symm
   simp only[qW,h3,cond_false,idxK_past ks r h.2,List.length_cons]
theorem qWl {r q:List Int}:∀ {ks:List (List Int)},r∈ks->qW r ks=qW q ks->r=q
 | k :: ks,h,e=>by
   by_cases e1:(k==r)=true
   ·have:=beq_iff_eq.1 e1
    subst this
    by_cases e2:(k==q)=true
    ·exact beq_iff_eq.1 e2
    ·have e2:(k==q)=false:=by simpa using e2
     simp[qW,e2] at e
   ·have e1:(k==r)=false:=by simpa using e1
    have hm:r∈ks:=by
     rcases List.mem_cons.1 h with h | h
     ·subst h;simp at e1
     ·exact h
    by_cases e2:(k==q)=true
    ·simp[qW,e1,e2] at e
    ·have e2:(k==q)=false:=by simpa using e2
     simp only[qW,e1,e2,cond_false,Nat.add_right_cancel_iff] at e
     exact qWl hm e
theorem qOo (r:List Int):∀ ks:List (List Int),qW r ks<=ks.length
 | []=>Nat.le_refl _
 | k :: ks=>by
   simp only[qW,List.length_cons]
   cases (k==r) with
   | true=>exact Nat.zero_le _
   | false=>exact Nat.succ_le_succ (qOo r ks)
theorem qQB (q:List Int):∀ ks:List (List Int),(qAj q ks).length=if qW q ks<ks.length then ks.length else ks.length+1
 | []=>rfl
 | k :: ks=>by
   have ih:=qQB q ks
   cases h:(k==q) with
   | true=>simp[qAj,qW,h]
   | false=>
     simp only[qAj,qW,h,cond_false,List.length_cons,ih]
     by_cases h2:qW q ks<ks.length
     ·rw[if_pos h2,if_pos (by omega)]
     ·rw[if_neg h2,if_neg (by omega)]
theorem qY9 {α:Type}:∀ (l:List α) (i:Nat) (x:α),i<=l.length->(qAR l i x).length=if i<l.length then l.length else l.length+1
 | [],_,_,_=>rfl
 | y :: l,0,x,_=>by simp[qAR]
 | y :: l,i+1,x,h=>by
   simp only[qAR,List.length_cons]
   rw[qY9 l i x (by simpa using h)]
   by_cases h2:i<l.length
   ·rw[if_pos h2,if_pos (by omega)]
   ·rw[if_neg h2,if_neg (by omega)]
theorem qY8 {α:Type}:∀ (l:List α) (i:Nat) (x d:α) (j:Nat),i<=l.length->(qAR l i x).getD j d=if j=i then x else l.getD j d
 | [],i,x,d,j,h=>by
   have:i=0:=by simpa using h
   subst this
   cases j with
   | zero=>rfl
   | succ j=>simp[qAR]
 | y :: l,0,x,d,j,_=>by cases j<;>simp[qAR]
 | y :: l,i+1,x,d,j,h=>by
   cases j with
   | zero=>simp[qAR]
   | succ j=>
     simp only[qAR,List.getD_cons_succ,Nat.add_right_cancel_iff]
     exact qY8 l i x d j (by simpa using h)
structure KeysI (S:List (List Int)) (ks ps:List (List Int)):Prop where
 len:ps.length=ks.length
 at_:∀ k:Int,ps.getD (qW [k] ks) []=qBj S k S.length
theorem qjB:KeysI [] [] []:=⟨rfl,fun _=>rfl⟩
theorem qXM {S ks ps:List (List Int)} (h:KeysI S ks ps) {r:List Int} {k:Int} (hk:qCf r=k):
  KeysI (S++[r]) (qAj [k] ks) (qAR ps (qW [k] ks) (qBj S k S.length++[(S.length:Int)])):=by
 have hle:qW [k] ks<=ps.length:=by rw[h.len];exact qOo _ _
 have hr:(S++[r]).getD S.length []=r:=by rw[List.getD_eq_getElem?_getD];simp
 refine⟨?_,fun k'=>?_⟩
 ·rw[qY9 _ _ _ hle,qQB,h.len]
 ·rw [qY8 _ _ _ _ _ hle,qOq,List.length_append,List.length_singleton,qki,hr,hk,qkh [r] k' (Nat.le_refl _)]
  by_cases e:k'=k
  ·subst e
   simp
  ·have e1:¬ [k']=[k]:=by simpa using e
   have e2:(k==k')=false:=beq_eq_false_iff_ne.2 fun h=>e h.symm
   rw[if_neg e1]
   simp only[e2,Bool.false_eq_true,if_false]
   by_cases e3:[k']∈ks
   ·rw[if_pos e3,if_neg (fun e4=>e1 (qWl e3 e4))]
    exact h.at_ k'
   ·rw[if_neg e3]
    have h1:=h.at_ k'
    rw[qOq.idxK_past ks _ e3,List.getD_eq_getElem?_getD,List.getElem?_eq_none (by rw[h.len];exact Nat.le_refl _)] at h1
    have h2:qBj S k' S.length=[]:=h1.symm
    rw[h2,qQB]
    by_cases e5:qW [k] ks<ks.length
    ·rw[if_pos e5,if_neg (by omega),List.getD_eq_getElem?_getD,List.getElem?_eq_none (by rw[h.len];exact Nat.le_refl _)]
     rfl
    ·rw[if_neg e5,if_neg (by have:=qOo [k] ks;omega),List.getD_eq_getElem?_getD,List.getElem?_eq_none (by rw[h.len];omega)]
     rfl
def qDn (S:List (List Int)) (side:Int):Nat->Nat->Int->Bool
 | 0,_,c=>decide (c>0)
 | k + 1,i,c=>match pS (S.getD i [])==side with
   | false=>qDn S side k (i+1) c
   | true=>match inC (pB (S.getD (i+1) [])) (1 - side) with
     | true=>qDn S side k (i+1) (c+1)
     | false=>false
theorem qiP {L:List Int} {i:Nat} (h:i<L.length):L.getD i 0∈L:=by
 rw[List.getD_eq_getElem?_getD,List.getElem?_eq_getElem h]
 exact List.getElem_mem h
def qCt (S:List (List Int)):Int×Bool:=match decide ((qBD S (S.getD (S.length - 1) []) S.length).length<4) with
 | true=>(0,false)
 | false=>((qBD S (S.getD (S.length - 1) []) S.length).getD ((qBD S (S.getD (S.length - 1) []) S.length).length - 4) 0,true)
theorem qhK {S:List (List Int)} (h:(qCt S).2=true):∃ f:Nat,(qCt S).1=(f:Int) /\ f<=S.length - 1:=by
 unfold qCt at h ⊢
 by_cases h4:(qBD S (S.getD (S.length - 1) []) S.length).length<4
 ·simp only[h4,decide_true] at h
  cases h
 ·simp only[h4,decide_false]
  have hlt:(qBD S (S.getD (S.length - 1) []) S.length).length - 4<(qBD S (S.getD (S.length - 1) []) S.length).length:=by omega
  have hm:(qBD S (S.getD (S.length - 1) []) S.length).getD ((qBD S (S.getD (S.length - 1) []) S.length).length - 4) 0∈qBD S (S.getD (S.length - 1) []) S.length:=by
   exact qiP hlt
  obtain⟨q0,q1⟩:=qpM hm
  exact⟨((qBD S (S.getD (S.length - 1) []) S.length).getD ((qBD S (S.getD (S.length - 1) []) S.length).length - 4) 0).toNat,by omega,by omega⟩
def qCx (S:List (List Int)):Int×Int:=match decide ((lgL (pB (S.getD (S.length - 1) [])) (pH (S.getD (S.length - 1) [])) (pS (S.getD (S.length - 1) []))).length=0) with
 | true=>(1,pS (S.getD (S.length - 1) []))
 | false=>match (qCt S).2 with
   | false=>(0,-1)
   | true=>match qDn S 0 (S.length - 1 - (qCt S).1.toNat) (qCt S).1.toNat 0,qDn S 1 (S.length - 1 - (qCt S).1.toNat) (qCt S).1.toNat 0 with
     | true,false=>(3,0)
     | false,true=>(3,1)
     | _,_=>(2,-1)
end Go.Kk.Pl
namespace Go.Kk.Pl
theorem qJ5 {α:Type} (l:List α) (x:List α):List.append (List.take l.length l) x=l++x:=by rw[List.take_length];rfl
theorem qGt {α:Type} {n m:Nat} {x y:α} (h:n<=m):br (decide (n<=m)) x y=x:=qJ (by simpa using h)
theorem qgv {L:List Int} {i:Nat} (h:i<L.length):L.drop i=L.getD i 0 :: L.drop (i+1):=by
 rw[List.drop_eq_getElem_cons h,List.getD_eq_getElem?_getD,List.getElem?_eq_getElem h];rfl
theorem qhL {S:List (List Int)} {n:Nat} (hn1:1<=n) (hn2:n<=1000) (hR:∀ i,i<n->PosR (S.getD i [])) {ps:List (List Int)} {j:Nat} {L:List Int} (hL:ps.getD j []=L) (hm:∀ q∈L,0<=q /\ q<(n:Int)) (hl:L.length<=1000)
  (b0:List Int) (h0:List Int) (s0:Int) (km:Nat) (nc:Nat) (st:Int) (lo:Int) (K:Int) (np:Nat) (cm:Nat) (M:List (List Int)) (cs:Nat) (ks:List (List Int)) (cc:Nat) (Ck:List Bool) (b:List Int) (h:List Int) (s:Int) (bY:List (List Int)) (sD:List (List Int)) (cp:Nat) (past:List (List Int)):∀ (k i:Nat),i+k=L.length->∀ (acc:List Int),acc.length<=i->∀ F,
  qF2 (F+k+1) ((n:Int) - 1) acc.length j (L.length:Int) (i:Int) b0 h0 s0 km n nc st lo K np cm M cs S ks cc Ck b h s bY sD cp past ps acc.length acc =
   some ((acc++(L.drop i).filter fun q=>S.getD q.toNat []==S.getD (n - 1) []).length,b0,h0,s0,km,n,nc,st,lo,K,np,cm,M,cs,S,ks,cc,Ck,b,h,s,bY,sD,cp,past,ps,(acc++(L.drop i).filter fun q=>S.getD q.toNat []==S.getD (n - 1) []).length,(acc++(L.drop i).filter fun q=>S.getD q.toNat []==S.getD (n - 1) [])):=by
 intro k
 induction k with
 | zero=>
   intro i hi acc ha F
   rw[qF2.eq_2]
   unfold qKj
   rw[qY (by omega),List.drop_eq_nil_of_le (by omega)]
   simp only[List.filter_nil,List.append_nil]
 | succ k ih=>
   intro i hi acc ha F
   rw[qF2.eq_2]
   unfold qKj
   have hlt:i<L.length:=by omega
   have hq:L.getD i 0∈L:=by
    rw[List.getD_eq_getElem?_getD,List.getElem?_eq_getElem hlt]
    exact List.getElem_mem hlt
   obtain⟨q0,q1⟩:=hm _ hq
   have hnow:Int.toNat ((n:Int) - 1)=n - 1:=by omega
   simp only[hL,tn,hnow]
   rw[qf (by omega),qa (by omega) (by omega),qa q0 q1,qa (by omega) (by omega)]
   simp only[qo1,qo4,qo6]
   rw[qo2 (hR _ (by omega)) (hR _ (by omega)),qgv hlt,List.filter_cons]
   cases hc:(S.getD (L.getD i 0).toNat []==S.getD (n - 1) []) with
   | true=>
     rw[b_t,qGt (by omega),qJ5,w_s (n:=(i:Int)+1) (by omega) (by omega)]
     have:=ih (i+1) (by omega) (acc++[L.getD i 0]) (by simp;omega) F
     rw[show (acc++[L.getD i 0]).length=acc.length+1 by simp,List.append_assoc] at this
     exact this
   | false=>
     rw[b_f,w_s (n:=(i:Int)+1) (by omega) (by omega)]
     exact ih (i+1) (by omega) acc (by omega) F
theorem qhM {S ks ps:List (List Int)} (hk:KeysI S ks ps) (hn1:1<=S.length) (hn2:S.length<=1000) (hR:∀ i,i<S.length->PosR (S.getD i []))
  (b0:List Int) (h0:List Int) (s0:Int) (km:Nat) (nc:Nat) (st:Int) (lo:Int) (np:Nat) (cm:Nat) (M:List (List Int)) (cs:Nat) (cc:Nat) (Ck:List Bool) (b:List Int) (h:List Int) (s:Int) (bY:List (List Int)) (sD:List (List Int)) (cp:Nat) (past:List (List Int)):qKi b0 h0 s0 km S.length nc st lo (qCf (S.getD (S.length - 1) [])) np cm M cs S ks cc Ck b h s bY sD cp past ps=some ((qCt S).1,(qCt S).2,b0,h0,s0,km,S.length,nc,st,lo,(qCf (S.getD (S.length - 1) [])),np,cm,M,cs,S,ks,cc,Ck,b,h,s,bY,sD,cp,past,ps):=by
 unfold qKi qHC
 rw[qA,w_s (by simp only[Int.ofNat_eq_natCast];omega) (by simp only[Int.ofNat_eq_natCast];omega)]
 simp only[Int.ofNat_eq_natCast,hk.at_]
 have hle:=qYa S (qCf (S.getD (S.length - 1) [])) S.length
 obtain⟨F,hF⟩:=qi (qBj S (qCf (S.getD (S.length - 1) [])) S.length).length (by omega)
 have hg:=qhL hn1 hn2 hR (hk.at_ (qCf (S.getD (S.length - 1) []))) (fun q hq=>qkg hq) (by omega) b0 h0 s0 km nc st lo (qCf (S.getD (S.length - 1) [])) np cm M cs ks cc Ck b h s bY sD cp past _ 0 (Nat.zero_add _) [] (Nat.le_refl _) F
 rw[<- hF] at hg
 rw[List.drop_zero,qkj] at hg
 refine (congrArg (fun m=>ob m _) hg).trans ?_
 rw[qA]
 simp only[List.nil_append]
 unfold qCt
 have hsl:=qpL S (S.getD (S.length - 1) []) S.length
 by_cases h4:(qBD S (S.getD (S.length - 1) []) S.length).length<4
 ·rw[qf (by omega)]
  simp only[h4,decide_true]
 ·rw[qY (by omega),w_s (by omega) (by omega),qa (by omega) (by omega)]
  have:Int.toNat (((qBD S (S.getD (S.length - 1) []) S.length).length:Int) - 4)=(qBD S (S.getD (S.length - 1) []) S.length).length - 4:=by omega
  simp only[h4,decide_false,this]
def qAi (S:List (List Int)):List Bool:=S.map fun r=>inC (pB r) (pS r)
theorem qgE {S:List (List Int)} {i:Nat} (h:i<S.length):(qAi S).getD i false=inC (pB (S.getD i [])) (pS (S.getD i [])):=by
 unfold qAi
 rw[List.getD_eq_getElem?_getD,List.getElem?_map,List.getD_eq_getElem?_getD,List.getElem?_eq_getElem h]
 rfl
theorem qlr {S:List (List Int)} {m n:Nat} (hn:n=m+1) (hS:S.length=n) (hn2:n<=1000) (hA:∀ i,i+1<n->pS (S.getD (i+1) [])=1 - pS (S.getD i [])) (side:Int) 
  (b0:List Int) (h0:List Int) (s0:Int) (st:Int) (lo:Int) (K:Int) (np:Nat) (cm:Nat) (M:List (List Int)) (cs:Nat) (ks:List (List Int)) (cc:Nat) (b:List Int) (h:List Int) (s:Int) (bY:List (List Int)) (sD:List (List Int)) (cp:Nat) (past:List (List Int)) (ps:List (List Int)):∀ (k i:Nat),i+k=m->∀ (c:Nat),c<=i->∀ F,∃ c':Int, 
  (qE3 (F+k+1) side (c:Int) (i:Int) b0 h0 s0 m n n st lo K np cm M cs S ks cc (qAi S) b h s bY sD cp past ps=some (.inl (false,c',b0,h0,s0,m,n,n,st,lo,K,np,cm,M,cs,S,ks,cc,qAi S,b,h,s,bY,sD,cp,past,ps)) /\ qDn S side k i c=false) \/
  (qE3 (F+k+1) side (c:Int) (i:Int) b0 h0 s0 m n n st lo K np cm M cs S ks cc (qAi S) b h s bY sD cp past ps=some (.inr (c',b0,h0,s0,m,n,n,st,lo,K,np,cm,M,cs,S,ks,cc,qAi S,b,h,s,bY,sD,cp,past,ps)) /\ qDn S side k i c=decide (c'>0)):=by
 intro k
 induction k with
 | zero=>
   intro i hi c hc F
   refine⟨c,.inr ⟨?_,rfl⟩⟩
   rw[qE3.eq_2]
   unfold qKk
   rw[qY (by simp only[Int.ofNat_eq_natCast];omega)]
 | succ k ih=>
   intro i hi c hc F
   rw[qE3.eq_2]
   unfold qKk qDn
   rw[qf (by simp only[Int.ofNat_eq_natCast];omega),qa (by omega) (by omega),tn,c_8,qo7,w_s (n:=(i:Int)+1) (by omega) (by omega),w_s (n:=(c:Int)+1) (by omega) (by omega)]
   cases hs:(pS (S.getD i [])==side) with
   | false=>
     have:(pS (S.getD i []) != side)=true:=by simp only[bne,hs];rfl
     rw[this,b_t]
     exact ih (i+1) (by omega) c (by omega) F
   | true=>
     have:(pS (S.getD i []) != side)=false:=by simp only[bne,hs];rfl
     have e:(Int.toNat ((i:Int)+1))=i+1:=by omega
     rw[this,b_f,qa (by omega) (by omega),e,qgE (by omega),hA i (by omega),beq_iff_eq.1 hs]
     cases inC (pB (S.getD (i+1) [])) (1 - side) with
     | false=>exact⟨_,.inl ⟨rfl,rfl⟩⟩
     | true=>exact ih (i+1) (by omega) (c+1) (by omega) F
theorem qYo {S:List (List Int)} {m n:Nat} (hn:n=m+1) (hS:S.length=n) (hn2:n<=1000) (hA:∀ i,i+1<n->pS (S.getD (i+1) [])=1 - pS (S.getD i [])) (side:Int) {f:Nat} (hf:f<=m)
  (b0:List Int) (h0:List Int) (s0:Int) (st:Int) (lo:Int) (K:Int) (np:Nat) (cm:Nat) (M:List (List Int)) (cs:Nat) (ks:List (List Int)) (cc:Nat) (b:List Int) (h:List Int) (s:Int) (bY:List (List Int)) (sD:List (List Int)) (cp:Nat) (past:List (List Int)) (ps:List (List Int)):qI2 side (f:Int) b0 h0 s0 m n n st lo K np cm M cs S ks cc (qAi S) b h s bY sD cp past ps=some (qDn S side (m - f) f 0,b0,h0,s0,m,n,n,st,lo,K,np,cm,M,cs,S,ks,cc,qAi S,b,h,s,bY,sD,cp,past,ps):=by
 unfold qI2
 obtain⟨F,hF⟩:=qi (m - f) (by omega)
 obtain⟨c',h | h⟩:=qlr hn hS hn2 hA side b0 h0 s0 st lo K np cm M cs ks cc b h s bY sD cp past ps (m - f) f (by omega) 0 (Nat.zero_le _) F
 ·rw[<- hF] at h
  refine (congrArg (fun m=>ob m _) h.1).trans ?_
  rw[qA,qSn]
  have:=h.2
  simp only[Int.natCast_zero] at this
  simp only[this]
 ·rw[<- hF] at h
  refine (congrArg (fun m=>ob m _) h.1).trans ?_
  rw[qA,qAk]
  have:=h.2
  simp only[Int.natCast_zero] at this
  simp only[this]
end Go.Kk.Pl
namespace Go.Kk.Pl
theorem qeW (j:Nat):qIf (some j) j=true:=by simp[qIf]
theorem qq9 {α:Type} (l:List α) (x:α):List.take (l.length+1) (List.append l [x])=l++[x]:=List.take_of_length_le (by simp)
theorem qgG (S:List (List Int)) (r:List Int):qAi (S++[r])=qAi S++[inC (pB r) (pS r)]:=by simp[qAi]
theorem qgF (S:List (List Int)):(qAi S).length=S.length:=by simp[qAi]
theorem qKp (S:List (List Int)) (r:List Int):(S++[r]).getD S.length []=r:=by rw[List.getD_eq_getElem?_getD];simp
theorem qKo {S:List (List Int)} (r:List Int) {i:Nat} (h:i<S.length):(S++[r]).getD i []=S.getD i []:=by
 rw[List.getD_eq_getElem?_getD,List.getD_eq_getElem?_getD,List.getElem?_append_left h]
theorem qS9 {S:List (List Int)} {r:List Int} (hR:∀ i,i<S.length->PosR (S.getD i [])) (hr:PosR r):∀ i,i<(S++[r]).length->PosR ((S++[r]).getD i []):=by
 intro i hi
 by_cases h:i<S.length
 ·rw[qKo r h];exact hR i h
 ·have:i=S.length:=by simp at hi;omega
  subst this
  rw[qKp];exact hr
theorem qYX {S ks ps:List (List Int)} {n:Nat} (hS:S.length=n) (hk:KeysI S ks ps) (hn:n<1000) (hR:∀ i,i<n->PosR (S.getD i [])) {b h:List Int} {s:Int} (hp:PosP b h s)
  (hA:∀ i,i+1<n+1->pS ((S++[qy b h s]).getD (i+1) [])=1 - pS ((S++[qy b h s]).getD i [])) (b0:List Int) (h0:List Int) (s0:Int) (np:Nat) (cm:Nat) (M:List (List Int)) (cs:Nat) (cc:Nat) (cp:Nat) (past:List (List Int)):∃ ks' ps',KeysI (S++[qy b h s]) ks' ps' /\
  qHJ b0 h0 s0 n n n 0 (-1) (kof b h s) np cm M cs S ks cc (qAi S) b h s (qO b) (qR b) cp past ps=some (b0,h0,s0,n,n+1,n+1,(qCx (S++[qy b h s])).1,(qCx (S++[qy b h s])).2,kof b h s,np,cm,M,ks',b,h,s,qO b,qR b,cp,past,n+1,S++[qy b h s],n+1,qAi (S++[qy b h s]),ps'):=by
 have hlen:(S++[qy b h s]).length=n+1:=by simp[hS]
 have hlast:(S++[qy b h s]).getD n []=qy b h s:=by rw[<- hS];exact qKp _ _
 have hRR:∀ i,i<(S++[qy b h s]).length->PosR ((S++[qy b h s]).getD i []):=qS9 (by rw[hS];exact hR) (qP8 hp)
 have hkof:qCf (qy b h s)=kof b h s:=qjK hp
 refine⟨_,_,qXM hk hkof,?_⟩
 have hol:=qYa S (kof b h s) S.length
 unfold qHJ qHC
 have hs:=hp.side
 have hcl:(qAi S).length=n:=by rw[qgF,hS]
 rw[qGt (by omega),qWp hp.clean h s (by omega),qA,qGt (by omega)]
 simp only[qA,hk.at_]
 rw[qGt (by omega),qeW,b_t]
 have e1:List.append (List.take n S) [List.append (List.append b (List.append h [s])) []]=S++[qy b h s]:=by rw[<- hS,qJ5,qo5]
 have e2:List.append (List.take n (qAi S)) [inC b s]=qAi (S++[qy b h s]):=by rw[qgG,qH7 hp.len,qFa hp.len hp.hlen,<- hcl,qJ5]
 have e3:IntKind.wrap IntKind.i64 (Int.ofNat (n+1) - 1)=(n:Int):=by rw[w_s (by simp only[Int.ofNat_eq_natCast];omega) (by simp only[Int.ofNat_eq_natCast];omega)];simp only[Int.ofNat_eq_natCast];omega
 have hS':(S.length:Int)=(n:Int):=by rw[hS]
 have hks:=qXM hk hkof
 rw[e1,e2,e3,qq9]
 rw[hS'] at hks
 have hf:=qhM hks (by omega) (by omega) hRR b0 h0 s0 n (n+1) 0 (-1) np cm M (n+1) (n+1) (qAi (S++[qy b h s])) b h s (qO b) (qR b) cp past
 rw[hlen,Nat.add_sub_cancel,hlast,hkof] at hf
 rw[hf,qA]
 simp only
 rw[hp.all,qA]
 simp only
 unfold qCx
 rw[hlen,Nat.add_sub_cancel,hlast,qH7 hp.len,qJX hp.len hp.hlen,qFa hp.len hp.hlen,qjq]
 by_cases hz:(lgL b h s).length=0
 ·simp only[hz,decide_true,b_t,hS']
 ·simp only[hz,decide_false,b_f]
  cases f2:(qCt (S++[qy b h s])).2 with
  | false=>
    rw[b_f,qT (by rw[beq_eq_false_iff_ne];omega),hS']
  | true=>
    obtain⟨f,f3,f4⟩:=qhK f2
    rw[b_t,f3,qYo (m:=n) rfl hlen (by omega) hA 0 (by omega),qA]
    simp only
    rw[qYo (m:=n) rfl hlen (by omega) hA 1 (by omega),qA]
    simp only[Int.toNat_natCast,hS']
    cases qDn (S++[qy b h s]) 0 (n - f) f 0<;>cases qDn (S++[qy b h s]) 1 (n - f) f 0<;>rfl
end Go.Kk.Pl
namespace Go.Kk.Pl
theorem qmD:qPH=some true:=by kernel_rfl
structure GI (n:Nat) (S M ks ps:List (List Int)) (b h:List Int) (s:Int):Prop where
 sl:S.length=n+1
 ml:M.length=n
 last:S.getD n []=qy b h s
 pos:PosP b h s
 all:∀ i,i<n+1->PosR (S.getD i [])
 alt:∀ i,i+1<n+1->pS (S.getD (i+1) [])=1 - pS (S.getD i [])
 keys:KeysI S ks ps
def nxt (b h:List Int) (s:Int) (m:List Int):List Int:=qy (mbM b s m) (mhM b h s m) (1 - s)
theorem qTC {n:Nat} {S M ks ps:List (List Int)} {b h:List Int} {s:Int} (g:GI n S M ks ps b h s) {m:List Int} (hm:lg b h s m=true):∀ i,i+1<n+1+1->pS ((S++[nxt b h s m]).getD (i+1) [])=1 - pS ((S++[nxt b h s m]).getD i []):=by
 intro i hi
 have hp:=g.pos.next hm
 by_cases h1:i+1<n+1
 ·rw[qKo _ (by rw[g.sl];omega),qKo _ (by rw[g.sl];omega)]
  exact g.alt i h1
 ·have:i=n:=by omega
  subst this
  have e1:(S++[nxt b h s m]).getD (i+1) []=nxt b h s m:=by rw[<- g.sl];exact qKp _ _
  rw[e1,qKo _ (by rw[g.sl];omega),g.last,qFa g.pos.len g.pos.hlen]
  exact qFa hp.len hp.hlen
theorem GI.next {n:Nat} {S M ks ps ks' ps':List (List Int)} {b h:List Int} {s:Int} (g:GI n S M ks ps b h s) {m:List Int} (hm:lg b h s m=true) (hk:KeysI (S++[nxt b h s m]) ks' ps'):
  GI (n+1) (S++[nxt b h s m]) (M++[nm m]) ks' ps' (mbM b s m) (mhM b h s m) (1 - s):=by
 have hp:=g.pos.next hm
 refine⟨by simp[g.sl],by simp[g.ml],?_,hp,?_,qTC g hm,hk⟩
 ·rw[<- g.sl,qKp];rfl
 ·have:=qS9 (S:=S) (r:=nxt b h s m) (by rw[g.sl];exact g.all) (qP8 hp)
  simpa[g.sl] using this
theorem qhy {b h:List Int} {s:Int} (hp:PosP b h s):∃ ks ps,GI 0 [qy b h s] [] ks ps b h s /\
  qI1 b h s=some (.inr (0,b,h,s,0,1,1,(qCx [qy b h s]).1,(qCx [qy b h s]).2,kof b h s,0,0,[],1,[qy b h s],ks,1,qAi [qy b h s],b,h,s,qO b,qR b,0,[],ps)):=by
 obtain⟨ks,ps,h1,h2⟩:=qYX (S:=[]) (n:=0) rfl qjB (by omega) (fun i hi=>by omega) hp (fun i hi=>by omega) b h s 0 0 [] 0 0 0 []
 refine⟨ks,ps,⟨rfl,rfl,rfl,hp,fun i hi=>?_,fun i hi=>by omega,h1⟩,?_⟩
 ·have:i=0:=by omega
  subst this
  exact qP8 hp
 ·unfold qI1
  rw[qeB hp.len hp.fits,qA,qt hp.zero,qiU hp.clean,qA]
  simp only
  refine (congrArg (fun m=>ob m _) h2).trans ?_
  rw[qA]
  rfl
theorem qiT {st:Int} (hst:st≠0) (x0 x1 x2:Int) (x3:Bool) (b0:List Int) (h0:List Int) (s0:Int) (km:Nat) (n:Nat) (nc:Nat) (lo:Int) (K:Int) (np:Nat) (cm:Nat) (M:List (List Int)) (cs:Nat) (S:List (List Int)) (ks:List (List Int)) (cc:Nat) (Ck:List Bool) (b:List Int) (h:List Int) (s:Int) (bY:List (List Int)) (sD:List (List Int)) (cp:Nat) (past:List (List Int)) (ps:List (List Int)):qF0 x0 x1 x2 x3 b0 h0 s0 km n nc st lo K np cm M cs S ks cc Ck b h s bY sD cp past ps=some (.inl (140,b0,h0,s0,km,n,nc,st,lo,K,np,cm,M,cs,S,ks,cc,Ck,b,h,s,bY,sD,cp,past,ps)):=by
 unfold qF0
 rw[qr hst]
theorem qiS {n:Nat} {S M ks ps:List (List Int)} {b h:List Int} {s:Int} (g:GI n S M ks ps b h s) (hn:n<900) {m:List Int} (hm:lg b h s m=true) (b0 h0:List Int) (s0:Int) (past:List (List Int)):
  ∃ ks' ps' past',GI (n+1) (S++[nxt b h s m]) (M++[nm m]) ks' ps' (mbM b s m) (mhM b h s m) (1 - s) /\
  qF0 (m0 m) (m1 m) (m2 m) (m3 m) b0 h0 s0 n (n+1) (n+1) 0 (-1) (kof b h s) n n M (n+1) S ks (n+1) (qAi S) b h s (qO b) (qR b) n past ps=some (.inr (.inr (0,b0,h0,s0,n+1,n+2,n+2,(qCx (S++[nxt b h s m])).1,(qCx (S++[nxt b h s m])).2,kof (mbM b s m) (mhM b h s m) (1 - s),n+1,ks',mbM b s m,mhM b h s m,1 - s,qO (mbM b s m),qR (mbM b s m),n+1,M++[nm m],n+2,S++[nxt b h s m],n+2,qAi (S++[nxt b h s m]),n+1,past',ps'))):=by
 have hp:=g.pos.next hm
 obtain⟨ks',ps',h1,h2⟩:=qYX (n:=n+1) g.sl g.keys (by omega) g.all hp (qTC g hm) b0 h0 s0 (n+1) (n+1) (M++[nm m]) (n+1) (n+1) (n+1) (List.append (List.take n past) [qGC b s m])
 refine⟨ks',ps',List.append (List.take n past) [qGC b s m],g.next hm h1,?_⟩
 unfold qF0
 rw[qt rfl,g.pos.is,qA]
 simp only[hm,Bool.not_true,b_f]
 rw[g.pos.make' hm n (by omega),qA,qAk]
 simp only
 have e:List.append (List.take n M) [[m0 m,m1 m,m2 m,bi (m3 m)]]=M++[nm m]:=by rw[<- g.ml,qJ5];rfl
 rw[qGt (by omega),e]
 refine (congrArg (fun m=>ob m _) h2).trans ?_
 rw[qA]
 rfl
theorem GI.now {n:Nat} {S M ks ps:List (List Int)} {b h:List Int} {s:Int} (g:GI n S M ks ps b h s):pB (S.getD n [])=b /\ pH (S.getD n [])=h /\ pS (S.getD n [])=s:=by
 rw[g.last,qH7 g.pos.len,qJX g.pos.len g.pos.hlen,qFa g.pos.len g.pos.hlen]
 exact⟨rfl,rfl,rfl⟩
end Go.Kk.Pl
namespace Go.Kk.Pl
theorem PosP.rall {b h:List Int} {s:Int} (hp:PosP b h s):qH4 b h s=some ((lgL b h s).length,(lgL b h s).length,lgL b h s):=by
 rw[qoy hp.clean h hp.side,hp.lists]
theorem qjt {b h:List Int} {s:Int} (hp:PosP b h s) {m:List Int} (hm:m∈lgL b h s):lg b h s m=true:=by
 have e:nm m=m:=(hp.full hm).1.1.symm
 unfold lg
 rw[e]
 simpa using hm
theorem qls {n:Nat} (hn:n≠0) (pk:Int) (hp:0<=pk):∃ j:Nat,Int.tmod pk (Int.ofNat n)=(j:Int) /\ j<n:=by
 have hj0:0<=Int.tmod pk (Int.ofNat n):=Int.tmod_nonneg _ hp
 have hj1:Int.tmod pk (Int.ofNat n)<Int.ofNat n:=Int.tmod_lt_of_pos _ (by simp only[Int.ofNat_eq_natCast];omega)
 simp only[Int.ofNat_eq_natCast] at hj0 hj1 ⊢
 exact⟨_,(Int.toNat_of_nonneg hj0).symm,by omega⟩
theorem qjr {b h:List Int} {s:Int} {j:Nat} (hj:j<(lgL b h s).length):(lgL b h s).getD j []∈lgL b h s:=by
 rw[List.getD_eq_getElem?_getD,List.getElem?_eq_getElem hj]
 exact List.getElem_mem hj
end Go.Kk.Pl
namespace Go.Kk.Pl
def JOK (b h:List Int) (s st lo:Int):Prop:=(st=1 /\ lo=s /\ (lgL b h s).length=0) \/ ((lgL b h s).length≠0 /\ ((st=0 /\ lo = -1) \/ (st=2 /\ lo = -1) \/ (st=3 /\ lo=0) \/ (st=3 /\ lo=1)))
theorem JOK.on {b h:List Int} {s st lo:Int} (j:JOK b h s st lo):st=0->lo = -1:=by
 intro h0
 rcases j with⟨h1,_⟩ | ⟨_,h1 | h1 | h1 | h1⟩<;>omega
theorem qWv {n:Nat} {S M ks ps:List (List Int)} {b h:List Int} {s:Int} (g:GI n S M ks ps b h s):JOK b h s (qCx S).1 (qCx S).2:=by
 obtain⟨o1,o2,o3⟩:=g.now
 unfold qCx
 rw[g.sl,Nat.add_sub_cancel,o1,o2,o3]
 by_cases hz:(lgL b h s).length=0
 ·simp only[hz,decide_true]
  exact .inl ⟨rfl,rfl,hz⟩
 ·simp only[hz,decide_false]
  refine .inr ⟨hz,?_⟩
  split
  ·exact .inl ⟨rfl,rfl⟩
  ·split
   ·exact .inr (.inr (.inl ⟨rfl,rfl⟩))
   ·exact .inr (.inr (.inr ⟨rfl,rfl⟩))
   ·exact .inr (.inl ⟨rfl,rfl⟩)
theorem qiV (N cap c0:Nat) (hN:N<=60) (xs zs:List Int) (b0 h0:List Int) (s0:Int):∀ (k i:Nat),i+k=N->∀ (n:Nat) (S M ks ps past:List (List Int)) (b h:List Int) (s st lo:Int),GI n S M ks ps b h s->n<=i->JOK b h s st lo->∀ F,
  qFE (F+k+1) N (N:Int) (i:Int) cap zs b0 h0 s0 n (n+1) (n+1) st lo c0 xs (kof b h s) n n M (n+1) S ks (n+1) (qAi S) b h s (qO b) (qR b) n past ps=some (.inr (cap,zs)):=by
 intro k
 induction k with
 | zero=>
   intro i hi n S M ks ps past b h s st lo g hni hJ F
   rw[qFE.eq_2]
   unfold qK3
   simp only[qF5]
   rw[qY (by omega)]
 | succ k ih=>
   intro i hi n S M ks ps past b h s st lo g hni hJ F
   rw[qFE.eq_2]
   unfold qK3
   simp only[qF5]
   have chk:∀ {α:Type} (len:Nat) (st lo s:Int) (x y z:α),(s=0 \/ s=1)->((st=1 /\ lo=s /\ len=0) \/ (len≠0 /\ ((st=0 /\ lo = -1) \/ (st=2 /\ lo = -1) \/ (st=3 /\ lo=0) \/ (st=3 /\ lo=1))))->
     br (st==1) (br (!decide (lo >= 0)==true) x (br (decide (lo>1)) x (br (decide (lo < -1)) x (br ((st==1)==decide (Int.ofNat len>0)) x (br (st==1) (br (lo != s) x (br (st==4) x y)) (br (st==4) x y))))))
     (br (st==3) (br (!decide (lo >= 0)==true) x (br (decide (lo>1)) x (br (decide (lo < -1)) x (br ((st==1)==decide (Int.ofNat len>0)) x (br (st==1) (br (lo != s) x (br (st==4) x y)) (br (st==4) x y))))))
     (br (!decide (lo >= 0)==(st==4)) x (br (decide (lo>1)) x (br (decide (lo < -1)) x (br ((st==1)==decide (Int.ofNat len>0)) x (br (st==1) (br (lo != s) x (br (st==4) x y)) (br (st==4) x y)))))))=y:=by
    intro α len st lo s x y z hs h
    rcases h with⟨rfl,rfl,rfl⟩ | ⟨hz,h⟩
    ·rcases hs with rfl | rfl<;>rfl
    ·have hl:decide (Int.ofNat len>0)=true:=decide_eq_true (by simp only[Int.ofNat_eq_natCast];omega)
     rw[hl]
     rcases h with⟨rfl,rfl⟩ | ⟨rfl,rfl⟩ | ⟨rfl,rfl⟩ | ⟨rfl,rfl⟩<;>rfl
   rw[qf (by omega),qa (by omega) (by omega),tn,w_s (n:=(i:Int)+1) (by omega) (by omega)]
   unfold qF1 qE2
   rw[qA]
   simp only
   rw[g.pos.rall,qA]
   simp only[hdM]
   have stay:∀ st lo,JOK b h s st lo->qFE (F+k+1) N (N:Int) ((i:Int)+1) cap zs b0 h0 s0 n (n+1) (n+1) st lo c0 xs (kof b h s) n n M (n+1) S ks (n+1) (qAi S) b h s (qO b) (qR b) n past ps=some (.inr (cap,zs)):=fun st lo hJ=>ih (i+1) (by omega) n S M ks ps past b h s st lo g (by omega) hJ F
   by_cases hz:(lgL b h s).length=0
   ·rw[qT (decide_eq_false (by simp only[Int.ofNat_eq_natCast];omega)),qA]
    simp only[qA]
    rw[g.pos.rall,qA]
    exact (chk _ _ _ s _ _ none g.pos.side hJ).trans (stay st lo hJ)
   ·rw[qJ (decide_eq_true (by simp only[Int.ofNat_eq_natCast];omega))]
    by_cases hpk:xs.getD i 0 >= 0
    ·obtain⟨j,hj,hj1⟩:=qls hz (xs.getD i 0) hpk
     rw[qJ (decide_eq_true hpk),qT (decide_eq_false (by simp only[Int.ofNat_eq_natCast];omega)),hj,qa (by omega) (by omega),tn]
     have hmem:=qjr hj1
     generalize (lgL b h s).getD j []=m at hmem ⊢
     have hm:=qjt g.pos hmem
     by_cases hst:st=0
     ·subst hst
      have hlo:=hJ.on rfl
      subst hlo
      obtain⟨ks',ps',past',g',e'⟩:=qiS g (by omega) hm b0 h0 s0 past
      have hJ':=qWv g'
      rw[e',qA,qAk,qAk]
      simp only[qA]
      rw[g'.pos.rall,qA]
      exact (chk _ _ _ _ _ _ none g'.pos.side hJ').trans (ih (i+1) (by omega) (n+1) _ _ ks' ps' past' _ _ _ _ _ g' (by omega) hJ' F)
     ·rw[qiT hst,qA,qSn]
      simp only[qA]
      rw[g.pos.rall,qA]
      exact (chk _ _ _ s _ _ none g.pos.side hJ).trans (stay st lo hJ)
    ·rw[qT (decide_eq_false hpk),qA]
     simp only[qA]
     rw[g.pos.rall,qA]
     exact (chk _ _ _ s _ _ none g.pos.side hJ).trans (stay st lo hJ)
theorem qhZ {b h:List Int} (s:Int) (hl:b.length=81) (hf:qAe h) (hh:h.length=16) (l N cap:Nat) (xs:List Int):qK1 b h s l N cap xs=some true:=by
 unfold qK1
 rw[qmD,qA]
 simp only[Bool.not_true,b_f]
 rw[qmY hl hf,qA]
 by_cases hz:qCp b h s=0
 ·rw[qt hz]
  by_cases hn:Int.ofNat N>30
  ·rw[qJ (by simpa using hn)]
  ·have hN:1+N<=60:=by simp only[Int.ofNat_eq_natCast] at hn;omega
   rw[qT (by simpa using hn)]
   have hp:PosP b h s:=⟨hl,hf,hh,hz⟩
   obtain⟨ks,ps,g,e⟩:=qhy hp
   rw[e,qA,qAk]
   simp only
   rw[qt rfl,qGt (by omega)]
   obtain⟨F,hF⟩:=qi (1+N) (by omega)
   have e':=qiV (1+N) cap (1+N) hN (-1 :: List.take N (List.drop l xs)) xs b h s (1+N) 0 (by omega) 0 _ _ ks ps [] b h s (qCx [qy b h s]).1 (qCx [qy b h s]).2 g (Nat.le_refl _) (qWv g) F
   rw[<- hF] at e'
   refine (congrArg (fun m=>ob m _) e').trans ?_
   rw[qA,qAk]
 ·rw[qr hz]
end Go.Kk.Pl
