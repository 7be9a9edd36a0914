/- What the program's functions come to, told plainly: the texts of this project that this claim leans on, cut down to what is used. -/
import Derived.Test.YtpppdecfohkkfaaGreatDoorKkU3
import Derived.Test.YtpppdecfohkkfaaGreatDoorKkU2
namespace Go.Kk.Pl
theorem qiw {b:List Int} (hc:Clean b) {s:Int} (hs:s=0 \/ s=1) {k':Nat} (hk':KS b (1 - s) k') (hno:inC b (1 - s)=false) {q:Int} (hq:0<=q /\ q<81) (h0:at_ b q=0) {c:Nat} (hcc:c<81) (hch:chs (pb b s q) (1 - s) c=true):c=q.toNat:=by
 have hs':1 - s=0 \/ 1 - s=1:=by omega
 have hP:=qQU hs hq h0
 have hk2:KS (pb b s q) (1 - s) k':=by rw[qGU];exact qLB hc hs hP hk'
 apply Classical.byContradiction
 intro hne
 rw[qE7 hs' (hk2.kg hs') hk2.1] at hch
 have hg:(pb b s q).getD c 0=b.getD c 0:=by
  rw[qGU,qEU hc hs hP hcc,if_neg hne,if_neg (by simp)]
 have ha:atk b (1 - s) k' c=true:=by
  simp only[atk,enm,Bool.and_eq_true] at hch ⊢
  rw[hg] at hch
  refine⟨hch.1,?_⟩
  rw[qB4] at hch ⊢
  refine hch.2.imp id fun hh=>⟨hh.1,fun i hi=>?_⟩
  have:=hh.2 i hi
  rw[qGU,qTQ hc hs hP (qI2 hcc hk'.1 hi)] at this
  unfold tk2 fof at this
  simp only[Bool.or_eq_false_iff,decide_eq_false_iff_not] at this
  have h2:=this.2
  rw[if_neg (by simp),decide_eq_false this.1] at h2
  simpa using h2
 unfold inC at hno
 have hE:isE (chs b (1 - s))=true:=by simpa using hno
 have:=qCs.mp hE c hcc
 rw[qE7 hs' (hk'.kg hs') hk'.1,ha] at this
 cases this
theorem qmY {b:List Int} (hc:Clean b) {s:Int} (hs:s=0 \/ s=1) {k':Nat} (hk':KS b (1 - s) k') (hno:inC b (1 - s)=false) {q:Int} (hq:0<=q /\ q<81) (h0:at_ b q=0) (hh:List Int):
  pmS b s q=(inC (pb b s q) (1 - s)&&qJ5 (pb b s q) hh (1 - s)):=by
 have hs':1 - s=0 \/ 1 - s=1:=by omega
 have hP:=qQU hs hq h0
 have hk2:KS (pb b s q) (1 - s) k':=by rw[qGU];exact qLB hc hs hP hk'
 have hc2:Clean (pb b s q):=hc.put q _
 have hq81:q.toNat<81:=by omega
 have e1:inC (pb b s q) (1 - s)=chs (pb b s q) (1 - s) q.toNat:=by
  unfold inC
  cases hch:chs (pb b s q) (1 - s) q.toNat with
  | true=>
    cases hE:isE (chs (pb b s q) (1 - s)) with
    | false=>rfl
    | true=>rw[qCs.mp hE _ hq81] at hch;cases hch
  | false=>
    have:isE (chs (pb b s q) (1 - s))=true:=by
     rw[qCs]
     intro i hi
     cases hx:chs (pb b s q) (1 - s) i with
     | false=>rfl
     | true=>rw[qiw hc hs hk' hno hq h0 hi hx] at hx;rw[hx] at hch;cases hch
    rw[this];rfl
 unfold pmS
 rw[decide_eq_true hq,decide_eq_true h0,Bool.true_and,Bool.true_and,e1]
 cases hch:chs (pb b s q) (1 - s) q.toNat with
 | false=>rfl
 | true =>
   rw[Bool.true_and,Bool.true_and]
   unfold qJ5
   rw[show mvs (pb b s q) hh (1 - s)=qu (pb b s q) (1 - s) T_++qAP (pb b s q) hh (1 - s) T_ from rfl,List.all_append]
   have hB:((qu (pb b s q) (1 - s) T_).all fun m=>!g1 (pb b s q) (1 - s) m)=(qu (pb b s q) (1 - s) T_).all fun m=>!qBo (pb b s q) (1 - s) m:=by
    rw[Bool.eq_iff_iff,List.all_eq_true,List.all_eq_true]
    have:∀ m∈qu (pb b s q) (1 - s) T_,g1 (pb b s q) (1 - s) m=qBo (pb b s q) (1 - s) m:=by
     intro m hm
     obtain⟨_,a2,a3⟩:=qLd hc2 hh hs' hm
     have:=qMU hc2 hs' (qFQ a2).2 hk2
     unfold qBo mbM g1
     rw[this,if_pos a3]
    constructor
    ·intro h m hm;rw[<- this m hm];exact h m hm
    ·intro h m hm;rw[this m hm];exact h m hm
   have hD:((qAP (pb b s q) hh (1 - s) T_).all fun m=>!qBo (pb b s q) (1 - s) m)=true:=by
    rw[List.all_eq_true]
    intro m hm
    obtain⟨_,a2,_,a4,_,_⟩:=qQF hc2 hs' hm
    have hPm:=(qFQ a2).2
    have:=qMU hc2 hs' hPm hk2
    unfold qBo mbM
    rw[this,if_neg (by omega),Bool.not_eq_true']
    cases ho:qt (pb b s q) (1 - s) (m1 m).toNat with
    | false=>rfl
    | true=>
      exfalso
      rw[qJX hs' hk2] at ho
      rw[qE7 hs' (hk2.kg hs') hk2.1] at hch
      have hgq:(pb b s q).getD q.toNat 0=16*s+1:=by
       rw[qGU,qEU hc hs hP hq81,if_pos rfl]
       unfold laid
       rw[if_pos (by simp)]
      rcases ho _ hq81 hch with h1 | h1
      ·have h2:=(hPm.drop (by omega)).2.2.2.2.2
       rw[qAa hPm.to_,h1,hgq] at h2
       omega
      ·simp only[atk,Bool.and_eq_true] at hch
       rcases qB4.mp hch.2 with h2 | h2
       ·rw[qMw h2] at h1;cases h1
       ·have h3:=of_decide_eq_true h2.1
        rw[hgq,qHb hs (by omega) (by omega) (by omega)] at h3
        unfold slK at h3
        omega
   rw[hB,hD,Bool.and_true]
theorem qGW {b h:List Int} {s:Int} (hl:b.length=81) (hz:qCi b h s=0):Clean b /\ (s=0 \/ s=1) /\ inC b (1 - s)=false /\ ∃ k k',KS b s k /\ KS b (1 - s) k':=by
 have h1:qAt b h s=0 /\ inC b (1 - s)=false:=by
  unfold qCi at hz
  split at hz
  ·rename_i h;exact absurd hz h
  ·rename_i h
   refine⟨by simpa using h,?_⟩
   cases hi:inC b (1 - s) with
   | false=>rfl
   | true=>rw[hi] at hz;simp at hz
 obtain⟨hc,hs⟩:=qI9 hl h1.1
 obtain⟨k,hk⟩:=qLC h1.1 hs
 obtain⟨k',hk'⟩:=qLC h1.1 (s:=1 - s) (by omega)
 exact⟨hc,hs,h1.2,k,k',hk,hk'⟩
theorem qYb {b:List Int} (hc:Clean b) (h:List Int) {s:Int} (hs:s=0 \/ s=1) (hno:inC b (1 - s)=false) {k k':Nat} (hk:KS b s k) (hk':KS b (1 - s) k'):lgL b h s=rlL b h s:=by
 unfold lgL rlL
 rw[show mvs b h s=qu b s T_++qAP b h s T_ from rfl,List.filter_append,qQG,List.filter_filter]
 congr 1
 ·apply List.filter_congr
  intro m hm
  obtain⟨_,a2,a3⟩:=qLd hc h hs hm
  have:=qMU hc hs (qFQ a2).2 hk
  unfold qCw qBo mbM g1
  rw[this,if_pos a3,decide_eq_true (p:=m2 m≠1) (by omega),Bool.true_or,Bool.and_true]
 ·apply List.filter_congr
  intro m hm
  obtain⟨_,a2,a3,a4,a5,a6⟩:=qQF hc hs hm
  have hP:=(qFQ a2).2
  have:=qMU hc hs hP hk
  unfold qCw qBo g2
  rw[show inC (mbM b s m) s=inC (mb b s (m0 m) (m1 m) (m2 m) (m3 m)) s from rfl,this,if_neg (by omega)]
  cases ho:qt b s (m1 m).toNat with
  | false=>simp
  | true=>
    rw[Bool.and_true,Bool.true_and]
    by_cases hd:m2 m=1
    ·have hdr:=hP.drop (by omega)
     rw[decide_eq_true hd,decide_eq_false (p:=m2 m≠1) (by simpa using hd),Bool.true_and,Bool.false_or,qmY hc hs hk' hno hP.to_ hdr.2.2.2.2.2 (mhM b h s m)]
     have:mbM b s m=pb b s (m1 m):=by
      unfold mbM
      rw[a3,hd,a6,qGU]
     rw[this]
    ·rw[decide_eq_false hd,decide_eq_true (p:=m2 m≠1) hd];rfl
theorem qkp (b h:List Int) (S:Int) (by_ sd_:List (List Int)) (f t d:Int) (p:Bool) (N:Nat) (M:List (List Int)) (hM:∀ m∈M,Mv4 m) (hl:M.length<=100000):∀ (n i:Nat),i+n=M.length->∀ F,
  qFO (F+n+1) M.length M.length i b h S by_ sd_ f t d p N M=some (if (M.drop i).contains [f,t,d,bi p] then .inl (true,b,h,S,by_,sd_) else .inr (b,h,S,by_,sd_)):=by
 intro n
 induction n with
 | zero=>
   intro i hi F
   show qHl (qFO (F+0)) _ _ _ _ _ _ _ _ _ _ _ _ _ _=_
   unfold qHl
   rw[qW (by omega),List.drop_eq_nil_of_le (by omega)]
   rfl
 | succ n ih=>
   intro i hi F
   show qHl (qFO (F+n+1)) _ _ _ _ _ _ _ _ _ _ _ _ _ _=_
   unfold qHl
   have hil:i<M.length:=by omega
   obtain⟨hm1,_⟩:=hM M[i] (List.getElem_mem hil)
   rw[qe (by omega),qc (by omega) (by omega),tn,atL hil]
   simp only[hdM]
   rw[w_s (n:=(i:Int)+1) (by omega) (by omega),List.drop_eq_getElem_cons hil,List.contains_cons]
   have e:(m0 M[i]==f&&(m1 M[i]==t&&(m2 M[i]==d&&m3 M[i]==p)))=([f,t,d,bi p]==M[i]):=by
    rw[Bool.eq_iff_iff,beq_iff_eq]
    simp only[Bool.and_eq_true,beq_iff_eq]
    constructor
    ·rintro ⟨h1,h2,h3,h4⟩
     rw[hm1,h1,h2,h3,h4]
    ·intro he
     rw[<- he]
     refine⟨rfl,rfl,rfl,?_⟩
     show (bi p != 0)=p
     cases p<;>rfl
   rw[e]
   cases hb:([f,t,d,bi p]==M[i]) with
   | true=>rw[b_t];rfl
   | false=>
     rw[b_f,Bool.false_or]
     exact ih (i+1) (by omega) F
theorem qDV (p:Bool):(bi p != 0)=p:=by cases p<;>rfl
theorem qma {b:List Int} (hc:Clean b) (h:List Int) {s:Int} (hs:s=0 \/ s=1) {f t d:Int} {p:Bool}:[f,t,d,bi p]∈mvs b h s↔qz b h s f t d p=true:=by
 constructor
 ·intro hm
  have:=(qGQ hc hs hm).2
  have e:m3 [f,t,d,bi p]=p:=qDV p
  rw[e] at this
  exact this
 ·exact qmb hc hs
theorem qYD {b:List Int} (_hc:Clean b) {h:List Int} {s:Int} (_hs:s=0 \/ s=1) {m:List Int} (hm:m∈lgL b h s):m∈mvs b h s:=by
 unfold lgL at hm
 rw[List.mem_append] at hm
 rcases hm with hm | hm
 ·exact List.mem_append_left _ (List.mem_filter.mp hm).1
 ·have:=(List.mem_filter.mp hm).1
  rw[qQG] at this
  exact List.mem_append_right _ (List.mem_filter.mp this).1
theorem qlf {b:List Int} (hc:Clean b) (h:List Int) {s:Int} (hs:s=0 \/ s=1) {k k':Nat} (hk:KS b s k) (hk':KS b (1 - s) k') (f t d:Int) (p:Bool):
  qHk f t d p b h s (qP b) (qS b)=some ((lgL b h s).contains [f,t,d,bi p],b,h,s,qP b,qS b):=by
 unfold qHk
 rw[qXn hc h hs hk hk',qA]
 simp only
 have hlen:=qYC b h s
 obtain⟨g,hg⟩:=qh (lgL b h s).length (by omega)
 have:=qkp b h s (qP b) (qS b) f t d p (lgL b h s).length (lgL b h s) (fun m hm=>(qGQ hc hs (qYD hc hs hm)).1) (by omega) (lgL b h s).length 0 (by omega) g
 rw[<- hg,List.drop_zero] at this
 rw[show qFO qB (lgL b h s).length (Int.ofNat (lgL b h s).length) 0 b h s (qP b) (qS b) f t d p (lgL b h s).length (lgL b h s)=_ from this,qA]
 cases (lgL b h s).contains [f,t,d,bi p]<;>rfl
theorem qrf {b:List Int} (hc:Clean b) (h:List Int) {s:Int} (hs:s=0 \/ s=1) (f t d:Int) (p:Bool):qGc b h s f t d p=some ((rlL b h s).contains [f,t,d,bi p]):=by
 have e3:m3 [f,t,d,bi p]=p:=qDV p
 have eq:(rlL b h s).contains [f,t,d,bi p]=(qz b h s f t d p&&qCw b h s [f,t,d,bi p]):=by
  unfold rlL
  rw[Bool.eq_iff_iff,List.contains_iff_mem,List.mem_filter,qma hc h hs,Bool.and_eq_true]
 unfold qGc
 rw[qJq,qA,eq]
 cases hm:qz b h s f t d p with
 | false=>rfl
 | true=>
   rw[b_t,Bool.true_and]
   have:=qc8 hc hs (m:=[f,t,d,bi p]) (by rw[e3];exact hm)
   rw[e3] at this
   rw[show qGd b h s f t d p=_ from this,qA]
end Go.Kk.Pl
namespace Go.Kk.Pl
end Go.Kk.Pl
namespace Go.Kk.Pl
theorem qmk (f t d:Int) (p:Bool):qDn f t d p=some (qCT f t d p):=by
 unfold qDn qCT
 by_cases h1:t<0
 ·rw[qe h1,if_pos (by omega)]
 rw[qW h1]
 by_cases h2:t >= 81
 ·rw[qCB h2,if_pos (by omega)]
 rw[qBc h2,if_neg (by omega)]
 by_cases hd:d=0
 ·rw[qr hd,if_neg (by simpa using hd)]
  by_cases h3:f<0
  ·rw[qe h3,if_pos (by omega)]
  rw[qW h3]
  by_cases h4:f >= 81
  ·rw[qCB h4,if_pos (by omega)]
  rw[qBc h4,if_neg (by omega)]
  by_cases h5:f=t
  ·rw[ql h5,if_pos h5]
  ·rw[qk h5,if_neg h5]
 ·rw[qp hd,if_pos hd]
  by_cases h3:d<0
  ·rw[qe h3,if_neg (by omega)]
  rw[qW h3]
  by_cases h4:d >= 8
  ·rw[qCB h4,if_neg (by omega)]
  rw[qBc h4]
  by_cases h5:f=0
  ·rw[qr h5]
   cases p with
   | true=>rw[b_t,if_neg (by simp)]
   | false=>rw[b_f,if_pos ⟨by omega,by omega,h5,rfl⟩]
  ·rw[qp h5,if_neg (by omega)]
theorem qiX (b h:List Int) {s:Int} (hs:s=0 \/ s=1) (f t d:Int) (p:Bool) (K:Int) (n:Nat) (by_ sides:List (List Int)) (m:Nat) (st:List (List Int)):
  qEN f t d p K n b h s by_ sides m st=some (qBv b h s f t d p):=by
 unfold qEN qBv
 rw[qmk,qA]
 by_cases hm:qCT f t d p=0
 ·obtain⟨ht,hd,hmv⟩:=qI8 hm
  have main:(br (d != 0)
    (ob (qCk s d b h s by_ sides) fun a14=>
    br (decide (a14>0))
     (ob (qAf t b h s by_ sides) fun a15=>
     some (a15==0))
     (some (false)))
    (ob (qAf f b h s by_ sides) fun a14=>
    ob (qAf t b h s by_ sides) fun a15=>
    ob (qAQ a14) fun a16=>
    br (a16==s)
     (ob (qAQ a15) fun a17=>
     br (a17 != s)
      (ob (qAD a15) fun a18=>
      br (a18 != 8)
       (br (!p)
        (some (true))
        (ob (qAD a14) fun a19=>
        ob (qC0 a19) fun a20=>
        some (a20 != 0)))
       (some (false)))
      (some (false)))
     (some (false))))=some (if d≠0 then decide (0<hd_ h s d)&&decide (at_ b t=0)
 else decide (sd (at_ b f)=s /\ sd (at_ b t)≠s /\ kd (at_ b t)≠8)&&(!p||decide (up_ (kd (at_ b f))≠0))):=by
   by_cases h0:d=0
   ·rw [qr h0,if_neg (by simpa using h0),qC5,qA,qC5,qA,qDM,qA]
    by_cases e1:sd (at_ b f)=s
    ·rw[ql e1,qDM,qA]
     by_cases e2:sd (at_ b t)=s
     ·rw[qr e2,decide_eq_false (p:=sd (at_ b f)=s /\ sd (at_ b t)≠s /\ kd (at_ b t)≠8) (fun h=>h.2.1 e2)];rfl
     ·rw [qp e2,qBW,qA]
      by_cases e3:kd (at_ b t)=8
      ·rw[qr e3,decide_eq_false (p:=sd (at_ b f)=s /\ sd (at_ b t)≠s /\ kd (at_ b t)≠8) (fun h=>h.2.2 e3)];rfl
      ·rw[qp e3,decide_eq_true (p:=sd (at_ b f)=s /\ sd (at_ b t)≠s /\ kd (at_ b t)≠8) ⟨e1,e2,e3⟩]
       cases p with
       | false=>rfl
       | true=>
         rw[Bool.not_true,b_f,qBW,qA,qKD,qA]
         by_cases e4:up_ (kd (at_ b f))=0<;>simp[e4]
    ·rw[qk e1,decide_eq_false (p:=sd (at_ b f)=s /\ sd (at_ b t)≠s /\ kd (at_ b t)≠8) (fun h=>e1 h.1)];rfl
   ·have:=hd h0
    rw[qp h0,if_pos h0,qK2 hs (by omega) (by omega),qA]
    by_cases e1:hd_ h s d>0
    ·rw[qBS e1,qC5,qA,decide_eq_true (p:=0<hd_ h s d) e1,Bool.true_and]
     by_cases e2:at_ b t=0<;>simp[e2]
    ·rw[qBT e1,decide_eq_false (p:=0<hd_ h s d) e1,Bool.false_and]
  rw[qr hm,decide_eq_true hm,decide_eq_true hs,Bool.true_and,Bool.true_and,<- main]
  rcases hs with rfl | rfl<;>rfl
 ·rw[qp hm,decide_eq_false hm,Bool.false_and]
theorem qYB {b:List Int} (hc:Clean b) {h:List Int} {s:Int} (hs:s=0 \/ s=1) {k k':Nat} (hno:inC b (1 - s)=false) (hk:KS b s k) (hk':KS b (1 - s) k') {m:List Int} (hm:m∈lgL b h s):
  Mv4 m /\ qz b h s (m0 m) (m1 m) (m2 m) (m3 m)=true /\ qCw b h s m=true /\ qBo b s m=true:=by
 have h1:=qGQ hc hs (qYD hc hs hm)
 rw[qYb hc h hs hno hk hk'] at hm
 have h2:=(List.mem_filter.mp hm).2
 refine⟨h1.1,h1.2,h2,?_⟩
 unfold qCw at h2
 rw[Bool.and_eq_true] at h2
 exact h2.1
theorem qmj {b h:List Int} {s f t d:Int} {p:Bool} (hm:qz b h s f t d p=true):qBv b h s f t d p=true:=by
 unfold qz at hm
 rw[Bool.and_eq_true] at hm
 exact hm.1
end Go.Kk.Pl
namespace Go.Kk.Pl
theorem qEv {p:Nat->Bool} {a n:Nat}:(List.range' a n).any p=false ↔ ∀ i,a<=i->i<a+n->p i=false:=by
 rw[List.any_eq_false]
 constructor
 ·intro h i h1 h2
  have:=h i (List.mem_range'_1.mpr ⟨h1,h2⟩)
  simpa using this
 ·intro h i hi
  obtain⟨h1,h2⟩:=List.mem_range'_1.mp hi
  rw[h i h1 h2];simp
structure ChkP (b h:List Int) (s:Int):Prop where
 side:s=0 \/ s=1
 good:∀ i,i<81->bsP b i=false
 hands:∀ k,k<8->∀ j,j<2->bsH h k j=false
 kings:nP b 8=1 /\ nP b 24=1
 over:∀ k,1<=k->k<8->qB0 b h k=false
 dead:∀ i,i<81->qA1 (b.getD i 0) i=false
 nifu:∀ f,f<9->qBK b f=false
theorem qVR {b h:List Int} {s:Int}:qAt b h s=0↔ChkP b h s:=by
 constructor
 ·intro hz
  unfold qAt at hz
  split at hz
  ·omega
  rename_i h1
  split at hz
  ·omega
  rename_i h2
  split at hz
  ·omega
  rename_i h3
  split at hz
  ·omega
  rename_i h4
  split at hz
  ·omega
  rename_i h5
  split at hz
  ·omega
  rename_i h6
  split at hz
  ·omega
  rename_i h7
  rw[Bool.not_eq_true,qEv] at h2 h3 h5 h6 h7
  refine⟨by omega,fun i hi=>h2 i (by omega) (by omega),fun k hk j hj=>?_,by simpa using h4,fun k k1 k2=>h5 k k1 (by omega),fun i hi=>h6 i (by omega) (by omega),fun f hf=>h7 f (by omega) (by omega)⟩
  have:=h3 k (by omega) (by omega)
  rw[qEv] at this
  exact this j (by omega) (by omega)
 ·intro ⟨a1,a2,a3,a4,a5,a6,a7⟩
  unfold qAt
  rw[if_neg (by omega),if_neg (by rw[qEv.mpr fun i _ hi=>a2 i (by omega)];simp),if_neg (by rw[qEv.mpr fun k _ hk=>qEv.mpr fun j _ hj=>a3 k (by omega) j (by omega)];simp),if_neg (by simpa using a4),
   if_neg (by rw[qEv.mpr fun k k1 hk=>a5 k k1 (by omega)];simp),if_neg (by rw[qEv.mpr fun i _ hi=>a6 i (by omega)];simp),if_neg (by rw[qEv.mpr fun i _ hi=>a7 i (by omega)];simp)]
theorem quX {n:Nat} {p:Nat->Bool}:(List.range n).countP p<=1 ↔ ∀ i j,i<n->j<n->p i=true->p j=true->i=j:=by
 rw[List.countP_eq_length_filter]
 have hn:((List.range n).filter p).Nodup:=List.Nodup.sublist List.filter_sublist List.nodup_range
 have hm:∀ i,i∈(List.range n).filter p↔i<n /\ p i=true:=by
  intro i;rw[List.mem_filter,List.mem_range]
 match he:(List.range n).filter p with
 | []=>
   rw[he] at hm
   refine⟨fun _ i j hi _ h1 _=>?_,fun _=>by simp⟩
   have:=(hm i).mpr ⟨hi,h1⟩
   cases this
 | [a]=>
   rw[he] at hm
   refine⟨fun _ i j hi hj h1 h2=>?_,fun _=>by simp⟩
   have e1:=(hm i).mpr ⟨hi,h1⟩
   have e2:=(hm j).mpr ⟨hj,h2⟩
   rw[List.mem_singleton] at e1 e2
   rw[e1,e2]
 | a :: c :: L=>
   rw[he] at hm hn
   refine⟨fun h=>?_,fun h=>?_⟩
   ·simp at h
   ·exfalso
    have ea:=(hm a).mp (by simp)
    have ec:=(hm c).mp (by simp)
    have:=h a c ea.1 ec.1 ea.2 ec.2
    subst this
    simp at hn
theorem qm9 {b:List Int} {x:Int} {f:Nat}:nF b x f<=1 ↔ ∀ r r',r<9->r'<9->b.getD (9*f+r) 0=x->b.getD (9*f+r') 0=x->r=r':=by
 unfold nF
 rw[quX]
 constructor
 ·intro h r r' hr hr' e e'
  exact h r r' hr hr' (by simpa using e) (by simpa using e')
 ·intro h r r' hr hr' e e'
  exact h r r' hr hr' (by simpa using e) (by simpa using e')
theorem qnA {b:List Int} {x:Int} {f:Nat}:nF b x f=0 ↔ ∀ r,r<9->b.getD (9*f+r) 0≠x:=by
 unfold nF
 rw[List.countP_eq_zero]
 constructor
 ·intro h r hr e
  exact h r (List.mem_range.mpr hr) (by simpa using e)
 ·intro h r hr e
  exact h r (List.mem_range.mp hr) (by simpa using e)
theorem qZH {b:List Int} {s:Int} {k:Nat} (h:KS b s k):nP b (pc s 8)=1:=by
 show qAu (fun i=>b.getD i 0==pc s 8)=1
 rw[qHJ]
 exact⟨k,h.1,fun i hi=>by rw[beq_iff_eq];exact h.2 i hi⟩
theorem qeM {b h:List Int} {s:Int} (hl:b.length=81) (hf:qAZ h) (hz:qAt b h s=0):Sound b h s:=by
 obtain⟨hc,_⟩:=qI9 hl hz
 obtain⟨v,hv,hS⟩:=qie hc hf s
 rw[qc2 hl hf] at hv
 exact hS (by rw[<- Option.some.inj hv];exact hz)
theorem qiv {b h:List Int} {s f t d:Int} {p:Bool} (hl:b.length=81) (hf:qAZ h) (hh:h.length=16) (hz:qAt b h s=0) (hm:qz b h s f t d p=true):qAt (mb b s f t d p) (mh b h s t d) (1 - s)=0:=by
 obtain⟨hc,hs⟩:=qI9 hl hz
 have hP:=(qFQ hm).2
 have hS:=qeM hl hf hz
 have hC:=qVR.mp hz
 have hs':1 - s=0 \/ 1 - s=1:=by omega
 obtain⟨k,hk⟩:=qLC hz hs
 obtain⟨k',hk'⟩:=qLC hz hs'
 have ht:=hP.to_
 have hla:=qFM hs hP
 have hc2:Clean (mb b s f t d p):=qP6 hc _ _ _ _ _
 have hmv:if d≠0 then (!qDc (16*s+d) t&&(decide (d≠1)||decide (nF b (16*s+d) (t.toNat / 9)=0)))=true
   else (rch (at_ b f) f.toNat t.toNat (tk b)&&if p=true then qCx (at_ b f) f t else !qDF (at_ b f) t)=true:=by
  have:=hm
  unfold qz at this
  rw[Bool.and_eq_true] at this
  have:=this.2
  by_cases hd:d=0
  ·rw[if_neg (by simpa using hd)] at this ⊢
   exact this
  ·rw[if_pos hd] at this ⊢
   exact this
 have hhand:∀ j:Int,(j=0 \/ j=1)->∀ i:Int,0<=i->i<8->(hd_ (mh b h s t d) j i=hd_ h j i \/ (1<=i /\ 0<=hd_ (mh b h s t d) j i)):=by
  intro j hj i i0 i8
  unfold mh
  by_cases hd:d=0
  ·have hmm:=hP.move hd
   rw[if_neg (by simpa using hd)]
   by_cases h0:at_ b t=0
   ·rw[if_pos h0];exact .inl rfl
   ·rw[if_neg h0]
    have hr:=qIQ ((hc.at_ t).resolve_left h0) hmm.2.2.2.2.2.1
    rw[qFG hh hs (by omega) (by omega) 1 hj i0 i8]
    split
    ·right
     rename_i he
     have h1:=hS.hands (rw_ (kd (at_ b t))) (by omega) (by omega)
     have h2:=hS.counts (rw_ (kd (at_ b t))) (by omega) (by omega)
     have h3:0<=hd_ h s (rw_ (kd (at_ b t))) /\ hd_ h s (rw_ (kd (at_ b t)))<=18:=by
      rcases hs with rfl | rfl<;>omega
     rw[w_8 (by omega) (by omega)]
     omega
    ·exact .inl rfl
  ·have hmm:=hP.drop hd
   rw[if_pos hd,qFG hh hs (by omega) (by omega) (-1) hj i0 i8]
   split
   ·right
    have:=qHM hf s d
    rw[w_8 (by omega) (by omega)]
    omega
   ·exact .inl rfl
 rw[qVR]
 refine⟨hs',fun i hi=>?_,fun i hi j hj=>?_,?_,fun i i1 i2=>?_,fun i hi=>?_,fun g hg=>?_⟩
 ·unfold bsP
  rw[decide_eq_false_iff_not]
  rintro ⟨h1,h2⟩
  have:=hc2.at_ i
  rw[qAa (by omega),tn] at this
  exact this.elim h1 (fun h=>h h2)
 ·have h1:=hC.hands i hi j hj
  unfold bsH at h1 ⊢
  rw[decide_eq_false_iff_not] at h1 ⊢
  have h2:=hhand j (by omega) i (by omega) (by omega)
  unfold hd_ at h2
  rw[show (j:Int).toNat*8+(i:Int).toNat=j*8+i from rfl] at h2
  omega
 ·have e1:=qZH (qPP hc hs hP hk)
  have e2:=qZH (qLB hc hs hP hk')
  rw[pc8 hs] at e1
  rw[pc8 hs'] at e2
  rcases hs with rfl | rfl
  ·exact⟨e1,e2⟩
  ·exact⟨e2,e1⟩
 ·have h1:=hC.over i i1 i2
  unfold qB0 at h1 ⊢
  rw[decide_eq_false_iff_not] at h1 ⊢
  have:=qof hS hf hh hP (k:=(i:Int)) (by omega) (by omega)
  omega
 ·rw[qEU hc hs hP hi]
  by_cases h1:i=t.toNat
  ·rw [if_pos h1,h1]
   unfold laid
   by_cases hd:d=0
   ·rw [if_neg (by simpa using hd)]
    rw[if_neg (by simpa using hd)] at hmv
    have hmm:=hP.move hd
    cases p with
    | true=>
      rw[if_pos rfl]
      obtain⟨u1,u2,u3⟩:=qIm (hmm.2.2.2.2.2.2 rfl)
      have:9<=up_ (kd (at_ b f)):=by
       have hu:=hmm.2.2.2.2.2.2 rfl
       unfold up_ at hu ⊢
       split
       ·omega
       ·rename_i h;rw[if_neg h] at hu;exact absurd rfl hu
      unfold qA1
      rw[qHb hs u1 u2 u3,decide_eq_false_iff_not]
      omega
    | false=>
      rw[if_neg (by simp)]
      rw[if_neg (by simp),Bool.and_eq_true] at hmv
      have h2:=hmv.2
      cases hdd:qA1 (at_ b f) t.toNat with
      | false=>rfl
      | true=>
        exfalso
        have hk:kd (at_ b f)=1 \/ kd (at_ b f)=2 \/ kd (at_ b f)=3:=by
         have:=of_decide_eq_true hdd
         omega
        unfold qDF at h2
        rw[show t=((t.toNat:Nat):Int) by omega,qOW _ (by omega),hdd] at h2
        have:up_ (kd (at_ b f))≠0:=by unfold up_;rw[if_pos (by omega)];omega
        rw[decide_eq_true this] at h2
        cases h2
   ·rw[if_pos hd]
    rw[if_pos hd,Bool.and_eq_true] at hmv
    have h2:=hmv.1
    rw[show t=((t.toNat:Nat):Int) by omega,qOW _ (by omega)] at h2
    simpa using h2
  ·rw[if_neg h1]
   by_cases h2:d=0 /\ i=f.toNat
   ·rw[if_pos h2]
    unfold qA1
    rw[qFJ]
    simp
   ·rw[if_neg h2];exact hC.dead i hi
 ·have key:∀ x:Int,(x=1 \/ x=17)->nF (mb b s f t d p) x g<=1:=by
   intro x hx
   have hxk:kd x=1:=by rcases hx with rfl | rfl<;>decide
   have hold:nF b x g<=1:=by
    have:=hC.nifu g hg
    unfold qBK at this
    simp only[Bool.or_eq_false_iff,decide_eq_false_iff_not] at this
    rcases hx with rfl | rfl<;>omega
   rw[qm9] at hold ⊢
   have from_:∀ r,r<9->(mb b s f t d p).getD (9*g+r) 0=x->(b.getD (9*g+r) 0=x /\ ¬ (d=0 /\ 9*g+r=f.toNat)) \/ 9*g+r=t.toNat:=by
    intro r hr e
    rw[qEU hc hs hP (by omega)] at e
    by_cases h1:9*g+r=t.toNat
    ·exact .inr h1
    ·rw[if_neg h1] at e
     by_cases h2:d=0 /\ 9*g+r=f.toNat
     ·rw[if_pos h2] at e
      rcases hx with rfl | rfl<;>omega
     ·rw[if_neg h2] at e
      exact .inl ⟨e,h2⟩
   have lay:∀ r,r<9->9*g+r=t.toNat->(mb b s f t d p).getD (9*g+r) 0=x->∀ r',r'<9->(b.getD (9*g+r') 0=x /\ ¬ (d=0 /\ 9*g+r'=f.toNat))->False:=by
    intro r hr he e r' hr' e'
    rw[qEU hc hs hP (by omega),if_pos he] at e
    unfold laid at e
    by_cases hd:d=0
    ·rw [if_neg (by simpa using hd)] at e hmv
     have hmm:=hP.move hd
     cases p with
     | true=>
       rw[if_pos rfl] at e
       have hu:=hmm.2.2.2.2.2.2 rfl
       obtain⟨u1,u2,u3⟩:=qIm hu
       have:kd (16*s+up_ (kd (at_ b f)))=1:=by rw[e,hxk]
       rw[qHb hs u1 u2 u3] at this
       unfold up_ at this
       split at this<;>omega
     | false=>
       rw[if_neg (by simp)] at e
       rw[Bool.and_eq_true] at hmv
       have hr1:=hmv.1
       have hfl:df f.toNat t.toNat=0:=by
        rcases qB4.mp hr1 with h1 | h1
        ·have h2:=of_decide_eq_true h1
         rw[e,hxk] at h2
         unfold qB9 at h2
         omega
        ·have h2:=of_decide_eq_true h1.1
         rw[e,hxk] at h2
         unfold slK at h2
         omega
       unfold df fl at hfl
       have hfe:f.toNat=9*g+f.toNat % 9:=by omega
       have:b.getD (9*g+f.toNat % 9) 0=x:=by
        rw[<- hfe,<- qAa ⟨hmm.1,hmm.2.1⟩];exact e
       have:=hold (f.toNat % 9) r' (by omega) hr' this e'.1
       exact e'.2 ⟨hd,by omega⟩
    ·rw[if_pos hd] at e hmv
     rw[Bool.and_eq_true] at hmv
     have hdd:=hP.drop hd
     have hd1:d=1:=by rcases hs with rfl | rfl<;>rcases hx with rfl | rfl<;>omega
     have hz0:nF b (16*s+d) (t.toNat / 9)=0:=by
      have:=hmv.2
      rw[decide_eq_false (p:=d≠1) (by simpa using hd1),Bool.false_or,decide_eq_true_eq] at this
      exact this
     rw[e,show t.toNat / 9=g by omega,qnA] at hz0
     exact hz0 r' hr' e'.1
   intro r r' hr hr' e e'
   rcases from_ r hr e with h1 | h1
   ·rcases from_ r' hr' e' with h2 | h2
    ·exact hold r r' hr hr' h1.1 h2.1
    ·exact (lay r' hr' h2 e' r hr h1).elim
   ·rcases from_ r' hr' e' with h2 | h2
    ·exact (lay r hr h1 e r' hr' h2).elim
    ·omega
  unfold qBK
  have k1:=key 1 (.inl rfl)
  have k2:=key 17 (.inr rfl)
  rw[decide_eq_false (by omega),decide_eq_false (by omega)]
  rfl
theorem qgh {b h:List Int} {s f t d:Int} {p:Bool} (hl:b.length=81) (hf:qAZ h) (hh:h.length=16) (hz:qAt b h s=0) (hm:qz b h s f t d p=true) (hsafe:inC (mb b s f t d p) s=false):qCi (mb b s f t d p) (mh b h s t d) (1 - s)=0:=by
 have h1:=qiv hl hf hh hz hm
 unfold qCi
 rw[if_neg (by rw[h1];simp),show 1 - (1 - s)=s by omega,hsafe]
 rfl
theorem qTp {b h:List Int} {s:Int} (hz:qCi b h s=0):qAt b h s=0:=by
 unfold qCi at hz
 split at hz
 ·rename_i h;exact absurd hz h
 ·rename_i h;simpa using h
end Go.Kk.Pl
namespace Go.Kk.Pl
end Go.Kk.Pl
namespace Go.Kk.Pl
theorem qka (h:List Int) (s k:Nat) (hk:k<8):(List.take 8 (List.drop (s*7+s) h)).getD k 0=h.getD (s*8+k) 0:=by
 rw[List.getD_eq_getElem?_getD,List.getD_eq_getElem?_getD,List.getElem?_take,if_pos hk,List.getElem?_drop,show s*7+s+k=s*8+k by omega]
abbrev B64:=BitVec 64
def bv (n:Int):B64:=BitVec.ofInt 64 n
def un (x:B64):Int:=(x.toNat:Int)
theorem qBU (x:B64):bv (un x)=x:=by
 unfold bv un
 rw[BitVec.ofInt_natCast,BitVec.ofNat_toNat];simp
theorem qEr (a b:Int):qF .xor .u64 a b=un (bv a ^^^ bv b):=by
 show IntKind.wrap .u64 _=_
 have h:IntKind.wrap .u64 ((BitVec.ofInt 64 a ^^^ BitVec.ofInt 64 b).toNat:Int)=((BitVec.ofInt 64 a ^^^ BitVec.ofInt 64 b).toNat:Int):=
  qBE (by show (0:Int)<=_;omega) (by show _<=(18446744073709551615:Int);have:=(BitVec.ofInt 64 a ^^^ BitVec.ofInt 64 b).isLt;omega)
 exact h
def pcB (q x:Int):B64:=bv ((qCF q x).getD 0)
def hnB (s k n:Int):B64:=bv ((qCt s k n).getD 0)
def sdB:B64:=bv (qCv.getD 0)
theorem qO8 (x:Int):∃ v:B64,qDm x=some (un v):=by
 unfold qDm
 rw[qEr]
 exact⟨_,rfl⟩
theorem qTT {m:Option Int} (h:∃ v:B64,m=some (un v)):m=some (un (bv (m.getD 0))):=by
 obtain⟨v,rfl⟩:=h
 simp[qBU]
theorem qKe {b:Bool} {x y:Option Int} (hx:∃ v:B64,x=some (un v)) (hy:∃ v:B64,y=some (un v)):∃ v:B64,br b x y=some (un v):=by cases b<;>assumption
theorem qZM {α:Type} {m:Option α} {k:α->Option Int} (hm:∃ v,m=some v) (hk:∀ a,m=some a->∃ v:B64,k a=some (un v)):∃ v:B64,ob m k=some (un v):=by
 obtain⟨a,rfl⟩:=hm
 exact hk a rfl
theorem qW5 (q x:Int):qCF q x=some (un (pcB q x)):=qTT (by
 unfold qCF
 refine qZM (qXb _) fun a _=>?_
 refine qKe ⟨0,rfl⟩ (qKe ⟨0,rfl⟩ (qKe ⟨0,rfl⟩ (qZM (qLY _) fun a ha=>?_)))
 obtain⟨v,hv⟩:=qO8 _
 rw[hv] at ha
 cases ha
 exact⟨v,rfl⟩)
theorem qW4 (s k n:Int):qCt s k n=some (un (hnB s k n)):=qTT (by
 have tail:∀ x:Int,∃ v:B64,(ob (qDm x) fun r=>some r)=some (un v):=fun x=>by
  obtain⟨v,hv⟩:=qO8 x
  exact⟨v,by rw[hv];rfl⟩
 unfold qCt
 repeat first | exact⟨0,rfl⟩ | exact tail _ | apply qKe)
theorem qW6:qCv=some (un sdB):=qTT (by
 unfold qCv
 obtain⟨v,hv⟩:=qO8 1048576
 exact⟨v,by rw[hv];rfl⟩)
def qAb (b:List Int):Nat->B64
 | 0=>0
 | n+1=>qAb b n ^^^ pcB n (b.getD n 0)
def qBI (h:List Int) (s:Nat):Nat->B64
 | 0=>0
 | n+1=>qBI h s n ^^^ hnB s n (conv .i8 .i64 (h.getD (s*8+n) 0))
def qDi (h:List Int):B64:=qBI h 0 8 ^^^ qBI h 1 8
theorem qf8 (a b:B64):a ^^^ (b ^^^ a)=b:=by rw[BitVec.xor_comm b a,<- BitVec.xor_assoc,BitVec.xor_self,BitVec.zero_xor]
theorem qiI:∀ (n:Nat) (q:Nat) (acc:B64) (b c d:List Int) (e:Int) (f:Nat),q+n=81->
  qCV (f+n+1) (un acc) b q c d e=some (un (acc ^^^ qAb b q ^^^ qAb b 81),c,d,e):=by
 intro n
 induction n with
 | zero=>
   intro q acc b c d e f hq
   have:q=81:=by omega
   subst this
   show qDk (qCV (f+0)) (un acc) b _ c d e=_
   unfold qDk
   rw[qN (by decide),BitVec.xor_assoc,BitVec.xor_self,BitVec.xor_zero]
 | succ n ih=>
   intro q acc b c d e f hq
   show qDk (qCV (f+n+1)) (un acc) b q c d e=_
   unfold qDk
   rw[qG (by simp;omega),qG (qAO (by omega) (by omega))]
   simp only[cond_true,Int.toNat_natCast]
   rw[qW5]
   show qCV (f+n+1) (qF .xor .u64 (un acc) (un (pcB q (b.getD q 0)))) b (IntKind.wrap .i64 ((q:Int)+1)) c d e=_
   rw[qAN (by omega) (by omega),qEr,qBU,qBU]
   have:=ih (q+1) (acc ^^^ pcB q (b.getD q 0)) b c d e f (by omega)
   rw[Int.natCast_add] at this
   rw[show ((q:Int)+1)=(q:Int)+(1:Nat) from rfl,this]
   congr 3
   show acc ^^^ pcB q (b.getD q 0) ^^^ (qAb b q ^^^ pcB q (b.getD q 0)) ^^^ qAb b 81=_
   rw[BitVec.xor_assoc acc,qf8]
theorem qkf (s:Nat):∀ (n:Nat) (k:Nat) (acc:B64) (h x2:List Int) (x3:Int) (x6 x7:List Int) (x8:Int) (f:Nat),k+n=8->
  qCu (f+n+1) (un acc) s x2 x3 (List.take 8 (List.drop (s*7+s) h)) k x6 x7 x8=some (un (acc ^^^ qBI h s k ^^^ qBI h s 8),x2,x3,x6,x7,x8):=by
 intro n
 induction n with
 | zero=>
   intro k acc h x2 x3 x6 x7 x8 f hk
   have:k=8:=by omega
   subst this
   show qDj (qCu (f+0)) (un acc) s x2 x3 _ _ x6 x7 x8=_
   unfold qDj
   rw[qN (by decide),BitVec.xor_assoc,BitVec.xor_self,BitVec.xor_zero]
 | succ n ih=>
   intro k acc h x2 x3 x6 x7 x8 f hk
   show qDj (qCu (f+n+1)) (un acc) s x2 x3 _ k x6 x7 x8=_
   unfold qDj
   rw[qG (by simp;omega),qG (qAO (by omega) (by omega))]
   simp only[cond_true,Int.toNat_natCast]
   rw[qka h s k (by omega),qW4]
   show qCu (f+n+1) (qF .xor .u64 (un acc) (un (hnB s k (conv .i8 .i64 (h.getD (s*8+k) 0))))) s x2 x3 _ (IntKind.wrap .i64 ((k:Int)+1)) x6 x7 x8=_
   rw[qAN (by omega) (by omega),qEr,qBU,qBU]
   have:=ih (k+1) (acc ^^^ hnB s k (conv .i8 .i64 (h.getD (s*8+k) 0))) h x2 x3 x6 x7 x8 f (by omega)
   rw[Int.natCast_add] at this
   rw[show ((k:Int)+1)=(k:Int)+(1:Nat) from rfl,this]
   congr 3
   show acc ^^^ hnB s k (conv .i8 .i64 (h.getD (s*8+k) 0)) ^^^ (qBI h s k ^^^ hnB s k (conv .i8 .i64 (h.getD (s*8+k) 0))) ^^^ qBI h s 8=_
   rw[BitVec.xor_assoc acc,qf8]
theorem qkh (acc:B64) (h c:List Int) (e:Int):qBy qB (un acc) h 0 c h e=some (un (acc ^^^ qDi h),c,h,e):=by
 obtain⟨f,hf⟩:=qh 2 (by omega)
 obtain⟨g,hg⟩:=qh 8 (by omega)
 have step:∀ (s:Nat) (hs:s<2) (acc:B64) (f:Nat),qBy (f+1) (un acc) h s c h e=qBy f (un (acc ^^^ qBI h s 8)) h (s+1:Nat) c h e:=by
  intro s hs acc f
  show qDl (qBy f) (un acc) h s c h e=_
  unfold qDl
  rw[qG (by simp;omega),qG (qAO (by omega) (by omega)),hg]
  show ob (qCu (g+8+1) (un acc) s h s (List.take 8 (List.drop (Int.toNat s*7+Int.toNat s) h)) (0:Nat) c h e) _=_
  rw[Int.toNat_natCast,qkf s 8 0 acc h h s c h e g (by omega)]
  show qBy f (un (acc ^^^ 0 ^^^ qBI h s 8)) h (IntKind.wrap .i64 ((s:Int)+1)) c h e=_
  have z:acc ^^^ (0:B64)=acc:=by simp
  rw[qAN (by omega) (by omega),z]
  rfl
 rw[hf]
 have e1:=step 0 (by omega) acc (f+2)
 have e2:=step 1 (by omega) (acc ^^^ qBI h 0 8) (f+1)
 rw[show f+2+1=f+2+1 from rfl,show (0:Int)=((0:Nat):Int) from rfl,e1]
 rw[show f+2=f+1+1 from rfl,e2]
 show qDl (qBy f) _ h 2 c h e=_
 unfold qDl
 rw[qN (by decide),BitVec.xor_assoc]
 rfl
def qAV (b h:List Int) (s:Int):B64:=bif s==1 then qAb b 81 ^^^ qDi h ^^^ sdB else qAb b 81 ^^^ qDi h
theorem qkt (b h:List Int) (s:Int):qER b h s=some (un (qAV b h s)):=by
 obtain⟨g,hg⟩:=qh 81 (by omega)
 have e2:qCV qB 0 b 0 b h s=some (un (qAb b 81),b,h,s):=by
  rw[hg]
  have:=qiI 81 0 0 b b h s g (by omega)
  rw[show (0:B64) ^^^ qAb b 0 ^^^ qAb b 81=qAb b 81 by show (0:B64) ^^^ 0 ^^^ _=_;simp] at this
  exact this
 unfold qER
 rw[e2]
 show ob (qBy qB (un (qAb b 81)) h 0 b h s) _=_
 rw[qkh]
 show br (s==1) (ob qCv fun r10=>some (qF .xor .u64 (un (qAb b 81 ^^^ qDi h)) r10)) (some (un (qAb b 81 ^^^ qDi h)))=_
 unfold qAV
 cases hs:s==1
 ·rfl
 ·rw[qW6]
  show some (qF .xor .u64 _ _)=_
  rw[qEr,qBU,qBU]
  rfl
theorem qhR (b:List Int) (i:Nat) (x:Int) (hi:i<b.length):∀ n,qAb (b.set i x) n=if i<n then qAb b n ^^^ pcB i (b.getD i 0) ^^^ pcB i x else qAb b n:=by
 intro n
 induction n with
 | zero=>rfl
 | succ n ih=>
   show qAb (b.set i x) n ^^^ pcB n ((b.set i x).getD n 0)=_
   rw[ih]
   rcases Nat.lt_trichotomy i n with h | h | h
   ·rw[if_pos h,if_pos (by omega)]
    have:(b.set i x).getD n 0=b.getD n 0:=by
     rw[List.getD_eq_getElem?_getD,List.getD_eq_getElem?_getD,List.getElem?_set_ne (by omega)]
    rw[this]
    show qAb b n ^^^ pcB i (b.getD i 0) ^^^ pcB i x ^^^ pcB n (b.getD n 0)=qAb b n ^^^ pcB n (b.getD n 0) ^^^ pcB i (b.getD i 0) ^^^ pcB i x
    ac_rfl
   ·subst h
    rw[if_neg (by omega),if_pos (by omega)]
    have:(b.set i x).getD i 0=x:=by
     rw[List.getD_eq_getElem?_getD,List.getElem?_set_self hi];rfl
    rw[this]
    show qAb b i ^^^ pcB i x=qAb b i ^^^ pcB i (b.getD i 0) ^^^ pcB i (b.getD i 0) ^^^ pcB i x
    rw[BitVec.xor_assoc (qAb b i),BitVec.xor_self,BitVec.xor_zero]
   ·rw[if_neg (by omega),if_neg (by omega)]
    have:(b.set i x).getD n 0=b.getD n 0:=by
     rw[List.getD_eq_getElem?_getD,List.getD_eq_getElem?_getD,List.getElem?_set_ne (by omega)]
    rw[this]
    rfl
theorem qWu (h:List Int) (s0 k0:Nat) (x:Int) (hk:k0<8) (hi:s0*8+k0<h.length) (s:Nat):∀ n,n<=8->qBI (h.set (s0*8+k0) x) s n =
  if s=s0 /\ k0<n then qBI h s n ^^^ hnB s0 k0 (conv .i8 .i64 (h.getD (s0*8+k0) 0)) ^^^ hnB s0 k0 (conv .i8 .i64 x) else qBI h s n:=by
 intro n
 induction n with
 | zero=>intro _;rw[if_neg (by omega)];rfl
 | succ n ih=>
   intro hn
   show qBI (h.set (s0*8+k0) x) s n ^^^ hnB s n (conv .i8 .i64 ((h.set (s0*8+k0) x).getD (s*8+n) 0))=_
   rw[ih (by omega)]
   by_cases hq:s*8+n=s0*8+k0
   ·have e1:s=s0:=by omega
    have e2:n=k0:=by omega
    subst e1
    subst e2
    rw[if_neg (by omega),if_pos (by omega)]
    have:(h.set (s*8+n) x).getD (s*8+n) 0=x:=by
     rw[List.getD_eq_getElem?_getD,List.getElem?_set_self hi];rfl
    rw[this]
    show qBI h s n ^^^ hnB s n (conv .i8 .i64 x)=qBI h s n ^^^ hnB s n (conv .i8 .i64 (h.getD (s*8+n) 0)) ^^^ hnB s n (conv .i8 .i64 (h.getD (s*8+n) 0)) ^^^ hnB s n (conv .i8 .i64 x)
    rw[BitVec.xor_assoc (qBI h s n),BitVec.xor_self,BitVec.xor_zero]
   ·have:(h.set (s0*8+k0) x).getD (s*8+n) 0=h.getD (s*8+n) 0:=by
     rw[List.getD_eq_getElem?_getD,List.getD_eq_getElem?_getD,List.getElem?_set_ne (by omega)]
    rw[this]
    by_cases hc:s=s0 /\ k0<n
    ·rw[if_pos hc,if_pos (by omega)]
     show _=qBI h s n ^^^ hnB s n (conv .i8 .i64 (h.getD (s*8+n) 0)) ^^^ _ ^^^ _
     ac_rfl
    ·rw[if_neg hc,if_neg (by omega)]
     rfl
theorem qkg (h:List Int) (s0 k0:Nat) (x:Int) (hs:s0<2) (hk:k0<8) (hh:h.length=16):
  qDi (h.set (s0*8+k0) x)=qDi h ^^^ hnB s0 k0 (conv .i8 .i64 (h.getD (s0*8+k0) 0)) ^^^ hnB s0 k0 (conv .i8 .i64 x):=by
 unfold qDi
 rw[qWu h s0 k0 x hk (by omega) 0 8 (Nat.le_refl _),qWu h s0 k0 x hk (by omega) 1 8 (Nat.le_refl _)]
 have:s0=0 \/ s0=1:=by omega
 rcases this with rfl | rfl
 ·rw[if_pos (by omega),if_neg (by omega)];ac_rfl
 ·rw[if_neg (by omega),if_pos (by omega)];ac_rfl
theorem qLA (b h:List Int) (s:Int):kof b h s=un (qAV b h s):=by unfold kof;rw[qkt];rfl
theorem qXc (q x:Int):kp q x=un (pcB q x):=by unfold kp;rw[qW5];rfl
theorem qXa (s k n:Int):kh s k n=un (hnB s k n):=by unfold kh;rw[qW4];rfl
theorem qlU:qJP=un sdB:=by unfold qJP;rw[qW6];rfl
theorem qoH {q x:Int} (h:kd x=0):pcB q x=pcB q 0:=by
 have e:∀ y,kd y=0->qCF q y=some 0:=by
  intro y hy
  unfold qCF
  rw[qBW,qA,hy]
  rfl
 unfold pcB
 rw[e x h,e 0 qFJ]
theorem qkx {b:List Int} (hl:b.length=81) {q:Int} (hq:0<=q /\ q<81) (x:Int) (h:List Int) (s:Int):qAV (put b q x) h s=qAV b h s ^^^ pcB q (at_ b q) ^^^ pcB q x:=by
 have e:pcB q (if kd x=0 then 0 else x)=pcB q x:=by
  split
  ·rename_i h;exact (qoH h).symm
  ·rfl
 unfold qAV put at_
 rw[if_pos hq,if_pos hq]
 revert e
 generalize (if kd x=0 then 0 else x)=y
 intro e
 have qx:=qhR b q.toNat y (by omega) 81
 rw[if_pos (show q.toNat<81 by omega),show ((q.toNat:Nat):Int)=q by omega,e] at qx
 rw[qx]
 cases s==1<;>simp only[cond_true,cond_false]<;>ac_rfl
theorem qkw {h:List Int} (hh:h.length=16) {s k:Int} (hs:s=0 \/ s=1) (k0:0<=k) (k1:k<8) (d:Int) (b:List Int) (S:Int):
  qAV b (qx h s k d) S=qAV b h S ^^^ hnB s k (hd_ h s k) ^^^ hnB s k (IntKind.wrap .i8 (hd_ h s k+d)):=by
 have e2:∀ x,conv .i8 .i64 x=x:=fun _=>rfl
 have hset':=qkg h s.toNat k.toNat (IntKind.wrap .i8 (hd_ h s k+d)) (by omega) (by omega) hh
 rw[e2,e2,show ((s.toNat:Nat):Int)=s by omega,show ((k.toNat:Nat):Int)=k by omega] at hset'
 unfold qAV qx
 rw[hset']
 unfold hd_
 cases S==1<;>simp only[cond_true,cond_false]<;>ac_rfl
theorem qky {s:Int} (hs:s=0 \/ s=1) (b h:List Int):qAV b h (1 - s)=qAV b h s ^^^ sdB:=by
 rcases hs with rfl | rfl
 ·rfl
 ·show qAb b 81 ^^^ qDi h=qAb b 81 ^^^ qDi h ^^^ sdB ^^^ sdB
  rw[BitVec.xor_assoc _ sdB,BitVec.xor_self,BitVec.xor_zero]
theorem qHc {b:List Int} (hl:b.length=81) {q:Int} (hq:0<=q /\ q<81) (x:Int) (h:List Int) (s:Int):qCW (un (qAV b h s)) b q x=un (qAV (put b q x) h s):=by
 unfold qCW
 rw[qXc,qXc,qEr,qEr,qBU,qBU,qBU,qBU,qkx hl hq,BitVec.xor_assoc]
theorem qPN {h:List Int} (hh:h.length=16) {s k:Int} (hs:s=0 \/ s=1) (k0:0<=k) (k1:k<8) {d:Int} (b:List Int) (S:Int) (r0:-128<=hd_ h s k+d) (r1:hd_ h s k+d<=127):
  qFL (un (qAV b h S)) h s k d=un (qAV b (qx h s k d) S):=by
 unfold qFL
 rw[qXa,qXa,qEr,qEr,qBU,qBU,qBU,qBU,qkw hh hs k0 k1,BitVec.xor_assoc,qAN (by omega) (by omega),qFz r0 r1]
theorem qLE {s:Int} (hs:s=0 \/ s=1) (b h:List Int):qLD (un (qAV b h s))=un (qAV b h (1 - s)):=by
 unfold qLD
 rw[qlU,qEr,qBU,qBU,qky hs]
theorem qmh {b h:List Int} {s:Int} (hS:Sound b h s) (hf:qAZ h) (hh:h.length=16) {f t d:Int} {p:Bool} (hP:CanP b h s f t d p):
  qHs (kof b h s) b h s f t d p=kof (mb b s f t d p) (mh b h s t d) (1 - s):=by
 rw[qLA,qLA]
 unfold qHs mb mh
 by_cases hd:d=0
 ·obtain⟨f0,f1,f2,g1,g2,g3,g4⟩:=hP.move hd
  simp only[if_neg (show ¬ (d≠0) from fun h=>h hd)]
  rw[qHc hS.clean.len ⟨f0,f1⟩,qHc (hS.clean.put f 0).len hP.to_]
  by_cases ht:at_ b t=0
  ·simp only[if_pos ht]
   rw[qLE hS.side]
  ·have hk:=(hS.clean.at_ t).resolve_left ht
   obtain⟨r1,r2⟩:=qIQ hk g3
   have hc:=hS.counts _ r1 r2
   have h0:=hS.hands (rw_ (kd (at_ b t))) (by omega) r2
   have hsd:=hS.side
   simp only[if_neg ht]
   rw[qPN hh hS.side (by omega) r2 _ _ (by rcases hsd with rfl | rfl<;>omega) (by rcases hsd with rfl | rfl<;>omega),qLE hS.side]
 ·obtain⟨d0,d1,d2,d3,g1,g2⟩:=hP.drop hd
  have hb:=qHM hf s d
  simp only[if_pos (show d≠0 from hd)]
  rw[qPN hh hS.side (by omega) d1 _ _ (by omega) (by omega),qHc hS.clean.len hP.to_,qLE hS.side]
end Go.Kk.Pl
namespace Go.Kk.Pl
structure Going (b h:List Int) (s:Int):Prop where
 sound:Sound b h s
 fits:qAZ h
 len:h.length=16
end Go.Kk.Pl
namespace Go.Kk.Pl
theorem qU7 {b c:List Int} (hb:b.length=81) (hc:c.length=81) (h:∀ q,0<=q->q<81->at_ b q=at_ c q):b=c:=by
 refine List.ext_getElem (by rw[hb,hc]) fun j h1 h2=>?_
 have:=h j (by omega) (by omega)
 unfold at_ at this
 rw[if_pos (by omega),if_pos (by omega),Int.toNat_natCast,List.getD_eq_getElem?_getD,List.getD_eq_getElem?_getD,List.getElem?_eq_getElem h1,List.getElem?_eq_getElem h2] at this
 exact this
theorem qVX {b:List Int} (hc:Clean b) (q:Int):(if kd (at_ b q)=0 then 0 else at_ b q)=at_ b q:=by
 rcases hc.at_ q with h | h
 ·rw[h];rfl
 ·rw[if_neg h]
theorem qg9 {b:List Int} (hc:Clean b) {t:Int} (ht:0<=t /\ t<81) (h0:at_ b t=0) (x:Int):put (put b t x) t 0=b:=by
 refine qU7 ((hc.put _ _).put _ _).len hc.len fun q q0 q1=>?_
 rw[qDU (hc.put _ _).len ht,qDU hc.len ht]
 split
 ·rename_i e;subst e;rw[h0];rfl
 ·rfl
theorem qhB {b:List Int} (hc:Clean b) {f t:Int} (hf:0<=f /\ f<81) (ht:0<=t /\ t<81) (x:Int):put (put (put (put b f 0) t x) t (at_ b t)) f (at_ b f)=b:=by
 have c1:=hc.put f 0
 have c2:=c1.put t x
 have c3:=c2.put t (at_ b t)
 refine qU7 (c3.put _ _).len hc.len fun q q0 q1=>?_
 rw[qDU c3.len hf,qDU c2.len ht,qDU c1.len ht,qDU hc.len hf,qVX hc,qVX hc]
 split
 ·rename_i e;subst e;rfl
 ·split
  ·rename_i e;subst e;rfl
  ·rfl
theorem qO3 {h:List Int} (hl:h.length=16) {s k:Int} (hs:s=0 \/ s=1) (k0:0<=k) (k1:k<8) {d:Int} (r0:-128<=hd_ h s k /\ hd_ h s k<=127) (r1:-128<=hd_ h s k+d /\ hd_ h s k+d<=127):
  qx (qx h s k d) s k (-d)=h:=by
 have e:=qFG hl hs k0 k1 d hs k0 k1
 rw[if_pos ⟨rfl,rfl⟩,qFz r1.1 r1.2] at e
 rw[show qx (qx h s k d) s k (-d)=(qx h s k d).set (s.toNat*8+k.toNat) (IntKind.wrap .i8 (hd_ (qx h s k d) s k+-d)) from rfl,e,show hd_ h s k+d+-d=hd_ h s k by omega,qFz r0.1 r0.2]
 have hi:s.toNat*8+k.toNat<h.length:=by rcases hs with rfl | rfl<;>simp<;>omega
 have hg:hd_ h s k=h[s.toNat*8+k.toNat]:=by
  unfold hd_
  rw[List.getD_eq_getElem?_getD,List.getElem?_eq_getElem hi]
  rfl
 unfold qx
 rw[List.set_set,hg,List.set_getElem_self]
end Go.Kk.Pl
namespace Go.Kk.Pl
theorem qHZ {b:List Int} (hc:Clean b) (q x K:Int) (n:Nat) (h:List Int) (s:Int) (m:Nat) (st:List (List Int)):
  qCD q x K n b h s (qP b) (qS b) m st=some (qCW K b q x,n,put b q x,h,s,qP (put b q x),qS (put b q x),m,st):=by
 unfold qCD
 simp only[qC5,qA,qlT,qQc hc]
 rfl
theorem qkd {b:List Int} (hc:Clean b) (h:List Int) (s:Int):qJC b h s=some (kof b h s,0,b,h,s,qP b,qS b,0,[]):=by
 unfold qJC
 rw[qQI hc.len,qOQ hc,qA]
 simp only
 rw[qlS,qA]
theorem qmW {b:List Int} (hc:Clean b) (h:List Int) {s:Int} (hs:s=0 \/ s=1) (f t d:Int) (p:Bool):∃ c,(∀ K n m st,qEN f t d p K n b h s (qP b) (qS b) m st=some c) /\
  ((c=false /\ ∀ K n m st,qDd f t d p K n b h s (qP b) (qS b) m st=some (.inl (false,K,n,b,h,s,qP b,qS b,m,st))) \/
   (c=true /\ CanP b h s f t d p /\ ∀ K n m st,(n+1)*40<=140737488355328->qDd f t d p K n b h s (qP b) (qS b) m st =
    some (.inr (true,qHs K b h s f t d p,n+1,mb b s f t d p,mh b h s t d,1 - s,qP (mb b s f t d p),qS (mb b s f t d p),n+1,List.append (List.take n st) [[f,t,d,bi p,at_ b t,was b s f d]])))):=by
 obtain⟨c,hcan,hP⟩:=qiY b h hs f t d p
 refine⟨c,fun K n m st=>hcan K n _ _ m st,?_⟩
 cases c with
 | false=>
   refine .inl ⟨rfl,fun K n m st=>?_⟩
   unfold qDd
   rw[hcan,qA,qG (by rfl)]
 | true=>
   have hP:=hP rfl
   refine .inr ⟨rfl,hP,fun K n m st hn=>?_⟩
   have hn':decide ((n+1)*40<=140737488355328)=true:=by simpa using hn
   unfold qDd
   rw[hcan,qA,qN (by rfl),qC5,qA]
   by_cases hd:d=0
   ·obtain⟨f0,f1,f2,g1,g2,g3,g4⟩:=hP.move hd
    rw[qN (by simpa using hd),qC5,qA]
    have hx:∀ {α:Type} (k:Int->Option α),(br p (ob (qAD (at_ b f)) fun a16=>ob (qC0 a16) fun a17=>ob (qAi s a17) k) (k (at_ b f)))=k (laid b s f d p):=by
     intro α k
     unfold laid
     rw[if_neg (by simpa using hd)]
     cases p with
     | false=>rfl
     | true=>
       obtain⟨u1,u2,u3⟩:=qIm (g4 rfl)
       rw[qG rfl,qBW,qA,qKD,qA,qLi hs u1 u2 u3,qA,if_pos rfl]
    have p1:=qHZ hc f 0 K n h s m st
    have p2:=qHZ (hc.put f 0) t (laid b s f d p) (qCW K b f 0) n h s m st
    have tail:(br (at_ b t != 0)
      (ob (qAD (at_ b t)) fun a37=>
      ob (qCz a37) fun a38=>
      ob (qDe s a38 1 (qCW (qCW K b f 0) (put b f 0) t (laid b s f d p)) n (put (put b f 0) t (laid b s f d p)) h s (qP (put (put b f 0) t (laid b s f d p))) (qS (put (put b f 0) t (laid b s f d p))) m st) fun (a39_0,a39_1,a39_2,a39_3,a39_4,a39_5,a39_6,a39_7,a39_8)=>
      ob (qCn a39_0 a39_1 a39_2 a39_3 a39_4 a39_5 a39_6 a39_7 a39_8) fun (a48_0,a48_1,a48_2,a48_3,a48_4,a48_5,a48_6,_,a48_8)=>
      br (decide ((a48_1+1)*40<=140737488355328))
       (some (Sum.inr (true,a48_0,a48_1+1,a48_2,a48_3,a48_4,a48_5,a48_6,a48_1+1,List.append (List.take a48_1 a48_8) [[f,t,d,bi p,at_ b t,at_ b f]])))
       (none))
      (ob (qCn (qCW (qCW K b f 0) (put b f 0) t (laid b s f d p)) n (put (put b f 0) t (laid b s f d p)) h s (qP (put (put b f 0) t (laid b s f d p))) (qS (put (put b f 0) t (laid b s f d p))) m st) fun (a37_0,a37_1,a37_2,a37_3,a37_4,a37_5,a37_6,_,a37_8)=>
      br (decide ((a37_1+1)*40<=140737488355328))
       (some (Sum.inr (true,a37_0,a37_1+1,a37_2,a37_3,a37_4,a37_5,a37_6,a37_1+1,List.append (List.take a37_1 a37_8) [[f,t,d,bi p,at_ b t,at_ b f]])))
       (none)):Option ((Bool×Int×Nat×List Int×List Int×Int×List (List Int)×List (List Int)×Nat×List (List Int))⊕(Bool×Int×Nat×List Int×List Int×Int×List (List Int)×List (List Int)×Nat×List (List Int)))) =
      some (.inr (true,qHs K b h s f t d p,n+1,mb b s f t d p,mh b h s t d,1 - s,qP (mb b s f t d p),qS (mb b s f t d p),n+1,List.append (List.take n st) [[f,t,d,bi p,at_ b t,was b s f d]])):=by
     unfold qHs mb mh was
     by_cases ht:at_ b t=0
     ·rw[qN (by simpa using ht),qK1 hs,qA]
      simp only
      rw[qG hn']
      simp[hd,ht]
     ·have hk:=(hc.at_ t).resolve_left ht
      obtain⟨r1,r2⟩:=qIQ hk g3
      obtain⟨k1,k2,k3⟩:=qBx (at_ b t)
      rw[qG (by simpa using ht),qBW,qA,qQe k1 k2,qA,qK0 hs r1 r2 1 (.inl rfl),qA]
      simp only
      rw[qK1 hs,qA]
      simp only
      rw[qG hn']
      simp[hd,ht]
    refine Eq.trans ?_ tail
    cases p with
    | true=>
      have hx:=hx (fun a18=>ob (qCD f 0 K n b h s (qP b) (qS b) m st) fun (a19_0,a19_1,a19_2,a19_3,a19_4,a19_5,a19_6,a19_7,a19_8)=>
       ob (qCD t a18 a19_0 a19_1 a19_2 a19_3 a19_4 a19_5 a19_6 a19_7 a19_8) fun r=>some r)
      rw[qG rfl] at hx ⊢
      obtain⟨u1,u2,u3⟩:=qIm (g4 rfl)
      have hl:laid b s f d true=16*s+up_ (kd (at_ b f)):=by unfold laid;rw[if_neg (by simpa using hd),if_pos rfl]
      rw[qBW,qA,qKD,qA,qLi hs u1 u2 u3,qA,p1,qA]
      simp only
      rw[<- hl,p2,qA]
    | false=>
      have hl:laid b s f d false=at_ b f:=by unfold laid;rw[if_neg (by simpa using hd),if_neg (by simp)]
      rw[qN rfl,p1,qA]
      simp only
      rw[hl] at p2 ⊢
      rw[p2,qA]
   ·obtain⟨d0,d1,d2,d3,g1,g2⟩:=hP.drop hd
    have hl:laid b s f d p=16*s+d:=by unfold laid;rw[if_pos hd]
    have e1:qAi s d=some (laid b s f d p):=by rw[hl];exact qLi hs (by omega) (by omega) (by omega)
    have p1:=qHZ hc t (laid b s f d p) (qFL K h s d (-1)) n (qx h s d (-1)) s m st
    rw[qG (by simpa using hd),e1,qA,qK0 hs (by omega) d1 (-1) (.inr rfl),qA]
    simp only
    rw[p1,qA]
    simp only
    rw[qK1 hs,qA]
    simp only
    rw[qG hn']
    unfold qHs mb mh was
    simp only[if_pos hd,hl]
theorem qXU {h:List Int} (hl:h.length=16) {s k:Int} (hs:s=0 \/ s=1) (k0:0<=k) (k1:k<8) {d:Int} (b:List Int) (S:Int) (r0:-128<=hd_ h s k /\ hd_ h s k<=127) (r1:-128<=hd_ h s k+d /\ hd_ h s k+d<=127):
  qFL (un (qAV b (qx h s k d) S)) (qx h s k d) s k (-d)=un (qAV b h S):=by
 have e:=qFG hl hs k0 k1 d hs k0 k1
 rw[if_pos ⟨rfl,rfl⟩,qFz r1.1 r1.2] at e
 rw[qPN (by rw[qO4,hl]) hs k0 k1 b S (by omega) (by omega),qO3 hl hs k0 k1 r0 r1]
theorem qhA {b h:List Int} {s:Int} (hg:Going b h s) {f t d:Int} {p:Bool} (hP:CanP b h s f t d p) (n:Nat) (hn:n<=1000) (m:Nat) (st:List (List Int))
  (hst:st.getD n []=[f,t,d,bi p,at_ b t,was b s f d]):
  qOY (un (qAV (mb b s f t d p) (mh b h s t d) (1 - s))) (n+1) (mb b s f t d p) (mh b h s t d) (1 - s) (qP (mb b s f t d p)) (qS (mb b s f t d p)) m st=some (true,un (qAV b h s),n,b,h,s,qP b,qS b,m,st):=by
 have hS:=hg.sound
 have hs':1 - s=0 \/ 1 - s=1:=by have:=hS.side;omega
 unfold qOY
 have e1:IntKind.wrap .i64 (Int.ofNat (n+1) - 1)=(n:Int):=by
  have:Int.ofNat (n+1)=(n:Int)+1:=rfl
  rw[this,qAN (by omega) (by omega)]
  omega
 rw[qN (by simp;omega),e1,qG (qAO (by omega) (by omega)),qG (qW1 (by omega) (by omega)),qK1 hs',qA,qLE hs',show (1:Int) - (1 - s)=s by omega]
 simp only[Int.toNat_natCast,hst,Nat.sub_zero]
 simp only[List.take_succ_cons,List.take_zero,List.headD_cons,List.tail_cons]
 by_cases hd:d=0
 ·obtain⟨f0,f1,f2,g1,g2,g3,g4⟩:=hP.move hd
  have hw:was b s f d=at_ b f:=by unfold was;rw[if_neg (by simpa using hd)]
  have hmb:mb b s f t d p=put (put b f 0) t (laid b s f d p):=by unfold mb;rw[if_neg (by simpa using hd)]
  rw[qN (by simpa using hd),hw,hmb]
  have p1:=qHZ ((hS.clean.put f 0).put t (laid b s f d p)) t (at_ b t) (un (qAV (put (put b f 0) t (laid b s f d p)) (mh b h s t d) s)) n (mh b h s t d) s m st
  rw[qHc ((hS.clean.put f 0).put t (laid b s f d p)).len hP.to_] at p1
  have p2:=qHZ (((hS.clean.put f 0).put t (laid b s f d p)).put t (at_ b t)) f (at_ b f) (un (qAV (put (put (put b f 0) t (laid b s f d p)) t (at_ b t)) (mh b h s t d) s)) n (mh b h s t d) s m st
  rw[qHc (((hS.clean.put f 0).put t (laid b s f d p)).put t (at_ b t)).len ⟨f0,f1⟩] at p2
  rw[qhB hS.clean ⟨f0,f1⟩ hP.to_] at p2
  rw[p1,qA]
  simp only
  rw[p2,qA]
  simp only
  by_cases ht:at_ b t=0
  ·have hmh:mh b h s t d=h:=by unfold mh;rw[if_neg (by simpa using hd),if_pos ht]
   rw[qN (by simpa using ht),hmh]
  ·have hk:=(hS.clean.at_ t).resolve_left ht
   obtain⟨r1,r2⟩:=qIQ hk g3
   obtain⟨k1,k2,k3⟩:=qBx (at_ b t)
   have hc:=hS.counts _ r1 r2
   have h0:=hS.hands (rw_ (kd (at_ b t))) (by omega) r2
   have hsd:=hS.side
   have hmh:mh b h s t d=qx h s (rw_ (kd (at_ b t))) 1:=by unfold mh;rw[if_neg (by simpa using hd),if_neg ht]
   rw[qG (by simpa using ht),qBW,qA,qQe k1 k2,qA,qK0 hS.side r1 r2 (-1) (.inr rfl),qA,hmh,
    qO3 hg.len hS.side (by omega) r2 (qHM hg.fits _ _) (by rcases hsd with rfl | rfl<;>constructor<;>omega),
    qXU hg.len hS.side (by omega) r2 _ _ (qHM hg.fits _ _) (by rcases hsd with rfl | rfl<;>constructor<;>omega)]
 ·obtain⟨d0,d1,d2,d3,g1,g2⟩:=hP.drop hd
  have hmb:mb b s f t d p=put b t (laid b s f d p):=by unfold mb;rw[if_pos hd]
  have hmh:mh b h s t d=qx h s d (-1):=by unfold mh;rw[if_pos hd]
  have hb:=qHM hg.fits s d
  have p1:=qHZ (hS.clean.put t (laid b s f d p)) t 0 (un (qAV (put b t (laid b s f d p)) (mh b h s t d) s)) n (mh b h s t d) s m st
  rw[qHc (hS.clean.put t (laid b s f d p)).len hP.to_] at p1
  rw[qg9 hS.clean hP.to_ g2] at p1
  rw[qG (by simpa using hd),hmb,p1,qA]
  simp only
  have hbk:qx (qx h s d (-1)) s d 1=h:=qO3 hg.len hS.side (by omega) d1 (d:=-1) hb (by constructor<;>omega)
  rw[qK0 hS.side (by omega) d1 1 (.inl rfl),qA,hmh]
  have hky:qFL (un (qAV b (qx h s d (-1)) s)) (qx h s d (-1)) s d 1=un (qAV b h s):=qXU hg.len hS.side (by omega) d1 (d:=-1) _ _ hb (by constructor<;>omega)
  rw[hbk,hky]
end Go.Kk.Pl
namespace Go.Kk.Pl
structure PosP (b h:List Int) (s:Int):Prop where
 len:b.length=81
 fits:qAZ h
 hlen:h.length=16
 zero:qCi b h s=0
theorem PosP.clean {b h:List Int} {s:Int} (hp:PosP b h s):Clean b:=(qGW hp.len hp.zero).1
theorem PosP.side {b h:List Int} {s:Int} (hp:PosP b h s):s=0 \/ s=1:=(qGW hp.len hp.zero).2.1
theorem PosP.going {b h:List Int} {s:Int} (hp:PosP b h s):Going b h s:=⟨qeM hp.len hp.fits (qTp hp.zero),hp.fits,hp.hlen⟩
theorem PosP.after {b h:List Int} {s:Int} (hp:PosP b h s) {m:List Int} (hm:m∈lgL b h s):PosP (mbM b s m) (mhM b h s m) (1 - s):=by
 obtain⟨hc,hs,hno,k,k',hk,hk'⟩:=qGW hp.len hp.zero
 obtain⟨_,hm2,_,hm4⟩:=qYB hc hs hno hk hk' hm
 have hsafe:inC (mb b s (m0 m) (m1 m) (m2 m) (m3 m)) s=false:=by simpa[qBo,mbM] using hm4
 exact⟨(qP6 hc _ _ _ _ _).1,qme hp.fits _ _ _ _,qmf hp.hlen _ _ _ _,qgh hp.len hp.fits hp.hlen (qTp hp.zero) hm2 hsafe⟩
theorem PosP.lists {b h:List Int} {s:Int} (hp:PosP b h s):lgL b h s=rlL b h s:=by
 obtain⟨hc,hs,hno,k,k',hk,hk'⟩:=qGW hp.len hp.zero
 exact qYb hc h hs hno hk hk'
theorem PosP.all {b h:List Int} {s:Int} (hp:PosP b h s):qHg b h s (qP b) (qS b)=some ((lgL b h s).length,b,h,s,qP b,qS b,(lgL b h s).length,lgL b h s):=by
 obtain⟨hc,hs,hno,k,k',hk,hk'⟩:=qGW hp.len hp.zero
 exact qXn hc h hs hk hk'
theorem PosP.full {b h:List Int} {s:Int} (hp:PosP b h s) {m:List Int} (hm:m∈lgL b h s):Mv4 m /\ qz b h s (m0 m) (m1 m) (m2 m) (m3 m)=true:=by
 obtain⟨hc,hs,hno,k,k',hk,hk'⟩:=qGW hp.len hp.zero
 have:=qYB hc hs hno hk hk' hm
 exact⟨this.1,this.2.1⟩
theorem qPo (n:Nat):(Int.ofNat n==0)=decide (n=0):=by
 rw[Bool.eq_iff_iff,decide_eq_true_eq,beq_iff_eq]
 exact⟨fun h=>by simpa using h,fun h=>by rw[h];rfl⟩
end Go.Kk.Pl
namespace Go.Kk.Pl
end Go.Kk.Pl
namespace Go.Kk.Pl
end Go.Kk.Pl
namespace Go.Kk.Pl
end Go.Kk.Pl
namespace Go.Kk.Pl
end Go.Kk.Pl
namespace Go.Kk.Pl
def sqL (q:Nat):List UInt8:=[UInt8.ofNat (49+q / 9),UInt8.ofNat (97+q % 9)]
def ltr (d:Nat):UInt8:=[0,80,76,78,83,71,66,82].getD d 0
def txL (f t d:Nat) (p:Bool):List UInt8:=if d≠0 then [ltr d,42]++sqL t else sqL f++sqL t++(if p then [43] else [])
def bts (l:List UInt8):ByteArray:={data:={toList:=l }}
def qBJ (l:List UInt8):List Int:=l.map fun x=>Int.ofNat x.toNat
theorem qSp:∀ q,q<81->qFS (Int.ofNat q)=some (bts (sqL q)):=by decide +kernel
theorem qeO:∀ q,q<81->qEX (Int.ofNat (UInt8.ofNat (49+q / 9)).toNat) (Int.ofNat (UInt8.ofNat (97+q % 9)).toNat)=some (Int.ofNat q,true):=by decide +kernel
theorem qeN:∀ q,q<81->(UInt8.ofNat (49+q / 9)).toNat<128 /\ (UInt8.ofNat (97+q % 9)).toNat<128 /\ (UInt8.ofNat (97+q % 9)).toNat≠42:=by decide +kernel
theorem qYg:∀ d,d<8->d≠0->qAi 0 (Int.ofNat d)=some (Int.ofNat d) /\ qLs (Int.ofNat d)=some (bts [ltr d]) /\ (ltr d).toNat<128 /\ qJZ (Int.ofNat (ltr d).toNat) false=some (Int.ofNat d) /\ qAQ (Int.ofNat d)=some 0 /\ (Int.ofNat d==8)=false:=by decide +kernel
theorem qjB {s:ByteArray} {i:Nat} (h:(s.get! i).toNat<128):Utf8.decode s i=((s.get! i).toNat,1):=by
 unfold Utf8.decode
 simp only[Nat.add_zero]
 rw[if_pos h]
theorem qWr {l:List UInt8} {i:Nat} (hi:i<l.length):(bts l).get! i=l[i]:=by
 show (Array.mk l)[i]! = l[i]
 rw[getElem!_pos _ _ (by simpa using hi)]
 rfl
theorem qoD (l:List UInt8) (hl:l.length<=5) (h:∀ x∈l,x.toNat<128):∀ (n i:Nat),i+n=l.length->∀ F,
  qEW (F+n+1) i 0 0 0 false i (qBJ (l.take i)) (bts l) i=some (l.length,0,0,0,false,l.length,qBJ l):=by
 intro n
 induction n with
 | zero=>
   intro i hi F
   show qHt (qEW (F+0)) _ _ _ _ _ _ _ _ _=_
   unfold qHt
   have e:(bts l).size=l.length:=rfl
   rw[e,qN (by rw[Bool.eq_false_iff,ne_eq,Nat.blt_eq];omega),List.take_of_length_le (by omega),show i=l.length by omega]
 | succ n ih=>
   intro i hi F
   show qHt (qEW (F+n+1)) _ _ _ _ _ _ _ _ _=_
   unfold qHt
   have e:(bts l).size=l.length:=rfl
   have hil:i<l.length:=by omega
   have hd:Utf8.decode (bts l) i=(l[i].toNat,1):=by
    rw[qjB (by rw[qWr hil];exact h _ (List.getElem_mem hil)),qWr hil]
   have h6:(Int.ofNat i==6)=false:=by rw[beq_eq_false_iff_ne];simp only[Int.ofNat_eq_natCast];omega
   rw[e,qG (by rw[Nat.blt_eq];omega),qN h6,qBu (by omega)]
   unfold qEM qCm
   rw[hd]
   have e2:List.append (List.take i (qBJ (List.take i l))) [Int.ofNat l[i].toNat]=qBJ (l.take (i+1)):=by
    unfold qBJ
    rw[List.take_of_length_le (by simp;omega),List.append_eq]
    rw[List.take_succ_eq_append_getElem hil,List.map_append]
    rfl
   show qEW (F+n+1) (i+1) 0 0 0 false (i+1) (List.append (List.take i (qBJ (List.take i l))) [Int.ofNat l[i].toNat]) (bts l) (i+1)=_
   rw[e2]
   exact ih (i+1) (by omega) F
theorem qQT (l:List UInt8) (hl:l.length<=5) (h:∀ x∈l,x.toNat<128):qEW qB 0 0 0 0 false 0 [] (bts l) 0=some (l.length,0,0,0,false,l.length,qBJ l):=by
 obtain⟨g,hg⟩:=qh l.length (by omega)
 have:=qoD l hl h l.length 0 (by omega) g
 rw[<- hg] at this
 exact this
theorem qS4 {l:List UInt8} (h:l.length<=1000):decide (Int.ofNat (bts l).size<=qA6)=true:=by
 rw[decide_eq_true_eq]
 unfold qA6
 show ((l.length:Nat):Int)<=_
 omega
structure Nmd (f t d:Nat) (p:Bool):Prop where
 to_:t<81
 drop:d≠0->d<8 /\ f=0 /\ p=false
 move:d=0->f<81 /\ f≠t
theorem qJH {n:Nat} (h:n<=1000):qCf n=true:=by rw[qS2];unfold qA6;simp only[Int.ofNat_eq_natCast];omega
theorem qif {f t d:Nat} {p:Bool} (h:Nmd f t d p):qDn (Int.ofNat f) (Int.ofNat t) (Int.ofNat d) p=some 0:=by
 have:=h.to_
 unfold qDn
 simp only[Int.ofNat_eq_natCast]
 rw[qW (by omega),qN (by simp;omega)]
 by_cases hd:d=0
 ·obtain⟨h1,h2⟩:=h.move hd
  have e:((f:Int)==(t:Int))=false:=by rw[beq_eq_false_iff_ne];omega
  rw[qN (by simp[hd]),qW (by omega),qN (by simp;omega),qN e]
 ·obtain⟨h1,h2,h3⟩:=h.drop hd
  subst h2 h3
  rw[qG (by simp;omega),qW (by omega),qN (by simp;omega),qN (by simp),qN rfl]
theorem quJ {f t d:Nat} {p:Bool} (h:Nmd f t d p):qHu (Int.ofNat f) (Int.ofNat t) (Int.ofNat d) p=some (bts (txL f t d p)):=by
 unfold qHu txL
 rw[qif h,qA,qN (by rfl)]
 by_cases hd:d=0
 ·obtain⟨h1,h2⟩:=h.move hd
  subst hd
  rw[qN (by rfl),qSp f h1,qSp t h.to_,if_neg (by simp)]
  simp only[qA]
  cases p with
  | true=>
    rw[b_t,qG (qJH (by show 4<=1000;omega)),qG (qJH (by show 5<=1000;omega))]
    rfl
  | false=>
    rw[b_f,qG (qJH (by show 4<=1000;omega))]
    simp only[Bool.false_eq_true,if_false,List.append_nil]
    rfl
 ·obtain⟨h1,h2,h3⟩:=h.drop hd
  obtain⟨e1,e2,e3,e4,e5,e6⟩:=qYg d h1 hd
  rw[qG (by simp;omega),e1,qA,e2,qA,qG (qJH (by show 2<=1000;omega)),qSp t h.to_,qA,qG (qJH (by show 4<=1000;omega)),if_pos hd]
  rfl
theorem qoE {f t d:Nat} {p:Bool} (h:Nmd f t d p):qFR (bts (txL f t d p))=some (Int.ofNat f,Int.ofNat t,Int.ofNat d,p,0):=by
 have st:=qeO t h.to_
 have at_:=qeN t h.to_
 by_cases hd:d=0
 ·obtain⟨h1,h2⟩:=h.move hd
  have sf:=qeO f h1
  have af:=qeN f h1
  have e42:(Int.ofNat (UInt8.ofNat (97+f % 9)).toNat==42)=false:=by rw[beq_eq_false_iff_ne];intro e;exact af.2.2 (by injection e)
  have eft:(Int.ofNat f==Int.ofNat t)=false:=by rw[beq_eq_false_iff_ne];intro e;exact h2 (by injection e)
  subst hd
  unfold txL
  rw[if_neg (by simp)]
  cases p with
  | true=>
    have hl:∀ x∈(sqL f++sqL t++(if true=true then [43] else []):List UInt8),x.toNat<128:=by
     intro x hx
     simp only[if_true,sqL,List.cons_append,List.nil_append,List.mem_cons,List.not_mem_nil,or_false] at hx
     rcases hx with rfl | rfl | rfl | rfl | rfl
     ·exact af.1
     ·exact af.2.1
     ·exact at_.1
     ·exact at_.2.1
     ·decide
    unfold qFR
    rw[qG (qS4 (by simp[sqL])),qQT _ (by simp[sqL]) hl,qA]
    simp only[if_true,sqL,List.cons_append,List.nil_append,qBJ,List.map_cons,List.map_nil,List.length_cons,List.length_nil,List.getD_cons_zero,List.getD_cons_succ]
    rw[qG (by rfl),qN (by rfl),qG (by rfl),qN e42,qG (by rfl),qG (by rfl),sf,qA]
    simp only
    rw[qG (by rfl),qG (by rfl),st,qA]
    simp only
    rw[qN (by rfl),qN (by rfl),qN eft,qG (by rfl),qG (by rfl),qN (by rfl)]
    rfl
  | false=>
    have hl:∀ x∈(sqL f++sqL t++(if false=true then [43] else []):List UInt8),x.toNat<128:=by
     intro x hx
     simp only[Bool.false_eq_true,if_false,sqL,List.cons_append,List.nil_append,List.mem_cons,List.not_mem_nil,or_false] at hx
     rcases hx with rfl | rfl | rfl | rfl
     ·exact af.1
     ·exact af.2.1
     ·exact at_.1
     ·exact at_.2.1
    unfold qFR
    rw[qG (qS4 (by simp[sqL])),qQT _ (by simp[sqL]) hl,qA]
    simp only[Bool.false_eq_true,if_false,sqL,List.cons_append,List.nil_append,qBJ,List.map_cons,List.map_nil,List.length_cons,List.length_nil,List.getD_cons_zero,List.getD_cons_succ]
    rw[qN (by rfl),qG (by rfl),qN e42,qG (by rfl),qG (by rfl),sf,qA]
    simp only
    rw[qG (by rfl),qG (by rfl),st,qA]
    simp only
    rw[qN (by rfl),qN (by rfl),qN eft,qN (by rfl)]
    rfl
 ·obtain⟨h1,h2,h3⟩:=h.drop hd
  obtain⟨e1,e2,e3,e4,e5,e6⟩:=qYg d h1 hd
  subst h2 h3
  unfold txL
  rw[if_pos hd]
  have hl:∀ x∈([ltr d,42]++sqL t:List UInt8),x.toNat<128:=by
   intro x hx
   simp only[sqL,List.cons_append,List.nil_append,List.mem_cons,List.not_mem_nil,or_false] at hx
   rcases hx with rfl | rfl | rfl | rfl
   ·exact e3
   ·decide
   ·exact at_.1
   ·exact at_.2.1
  unfold qFR
  rw[qG (qS4 (by simp[sqL])),qQT _ (by simp[sqL]) hl,qA]
  simp only[sqL,List.cons_append,List.nil_append,qBJ,List.map_cons,List.map_nil,List.length_cons,List.length_nil,List.getD_cons_zero,List.getD_cons_succ]
  rw[qN (by rfl),qG (by rfl),qG (by rfl),qG (by rfl),e4,qA,qG (by rfl),qG (by rfl),st,qA]
  simp only
  rw[e5,qA,qN (by rfl),qN e6,qN (by rfl),qN (by rfl)]
  rfl
end Go.Kk.Pl
namespace Go.Kk.Pl
end Go.Kk.Pl
namespace Go.Kk.Pl
def tx (m:List Int):ByteArray:=bts (txL (m0 m).toNat (m1 m).toNat (m2 m).toNat (m3 m))
theorem qZK {b h:List Int} {s f t d:Int} {p:Bool} (hP:CanP b h s f t d p):f=Int.ofNat f.toNat /\ t=Int.ofNat t.toNat /\ d=Int.ofNat d.toNat /\ Nmd f.toNat t.toNat d.toNat p:=by
 have ht:=hP.to_
 simp only[Int.ofNat_eq_natCast]
 by_cases hd:d=0
 ·obtain⟨h1,h2,h3,_⟩:=hP.move hd
  exact⟨by omega,by omega,by omega,by omega,fun h=>by omega,fun _=>⟨by omega,by omega⟩⟩
 ·obtain⟨h1,h2,h3,h4,_⟩:=hP.drop hd
  exact⟨by omega,by omega,by omega,by omega,fun _=>⟨by omega,by omega,h4⟩,fun h=>by omega⟩
theorem PosP.canP {b h:List Int} {s:Int} (hp:PosP b h s) {m:List Int} (hm:m∈lgL b h s):CanP b h s (m0 m) (m1 m) (m2 m) (m3 m):=(qFQ (hp.full hm).2).2
theorem PosP.text {b h:List Int} {s:Int} (hp:PosP b h s) {m:List Int} (hm:m∈lgL b h s):qHu (m0 m) (m1 m) (m2 m) (m3 m)=some (tx m):=by
 obtain⟨e1,e2,e3,hn⟩:=qZK (hp.canP hm)
 have:=quJ hn
 rw[<- e1,<- e2,<- e3] at this
 exact this
theorem PosP.parse {b h:List Int} {s:Int} (hp:PosP b h s) {m:List Int} (hm:m∈lgL b h s):qFR (tx m)=some (m0 m,m1 m,m2 m,m3 m,0):=by
 obtain⟨e1,e2,e3,hn⟩:=qZK (hp.canP hm)
 have:=qoE hn
 rw[<- e1,<- e2,<- e3] at this
 exact this
theorem PosP.apart {b h:List Int} {s:Int} (hp:PosP b h s) {m m':List Int} (hm:m∈lgL b h s) (hm':m'∈lgL b h s) (e:qAL (tx m)=qAL (tx m')):m=m':=by
 have e:tx m=tx m':=by rw[<- qE8 (tx m),e,qE8]
 have h1:=hp.parse hm
 rw[e,hp.parse hm'] at h1
 simp only[Option.some.injEq,Prod.mk.injEq,and_true] at h1
 obtain⟨a,b,c,d⟩:=h1
 rw[(hp.full hm).1.1,(hp.full hm').1.1,a,b,c,d]
theorem quG {A:List (List Int)} {B:List (List Int)} {n j:Nat} (e:B.take n=A.take n) (hj:j<n):B.getD j []=A.getD j []:=by
 have h1:∀ X:List (List Int),(X.take n).getD j []=X.getD j []:=by
  intro X
  rw[List.getD_eq_getElem?_getD,List.getD_eq_getElem?_getD,List.getElem?_take_of_lt hj]
 rw[<- h1 B,<- h1 A,e]
def qFU (b:List Int) (s:Int) (m:List Int):List Int:=[m0 m,m1 m,m2 m,bi (m3 m),at_ b (m1 m),was b s (m0 m) (m2 m)]
theorem PosP.make {b h:List Int} {s:Int} (hp:PosP b h s) {m:List Int} (hm:m∈lgL b h s) (n:Nat) (hn:n<=1000) (x:Nat) (st:List (List Int)):
  qDd (m0 m) (m1 m) (m2 m) (m3 m) (kof b h s) n b h s (qP b) (qS b) x st =
   some (.inr (true,kof (mbM b s m) (mhM b h s m) (1 - s),n+1,mbM b s m,mhM b h s m,1 - s,qP (mbM b s m),qS (mbM b s m),n+1,List.append (List.take n st) [qFU b s m])):=by
 obtain⟨c,hcan,hmk⟩:=qmW hp.clean h hp.side (m0 m) (m1 m) (m2 m) (m3 m)
 have e:qBv b h s (m0 m) (m1 m) (m2 m) (m3 m)=c:=Option.some.inj ((qiX b h hp.side (m0 m) (m1 m) (m2 m) (m3 m) 0 0 (qP b) (qS b) 0 []).symm.trans (hcan 0 0 0 []))
 rw[qmj (hp.full hm).2] at e
 rcases hmk with⟨h1,_⟩ | ⟨_,hP,hmk⟩
 ·rw[h1] at e;cases e
 ·rw[hmk _ _ _ _ (by omega),qmh hp.going.sound hp.going.fits hp.going.len hP]
  rfl
theorem PosP.back {b h:List Int} {s:Int} (hp:PosP b h s) {m:List Int} (hm:m∈lgL b h s) (n:Nat) (hn:n<=1000) (x:Nat) (st:List (List Int)) (hst:st.getD n []=qFU b s m):
  qOY (kof (mbM b s m) (mhM b h s m) (1 - s)) (n+1) (mbM b s m) (mhM b h s m) (1 - s) (qP (mbM b s m)) (qS (mbM b s m)) x st=some (true,kof b h s,n,b,h,s,qP b,qS b,x,st):=by
 rw[qLA,qLA]
 exact qhA hp.going (hp.canP hm) n hn x st hst
inductive Hist (b0 h0:List Int) (s0:Int):Nat->List (List Int)->List Int->List Int->Int->Prop
 | zero (st:List (List Int)):Hist b0 h0 s0 0 st b0 h0 s0
 | succ {n:Nat} {st:List (List Int)} {b h:List Int} {s:Int} {m:List Int} (hh:Hist b0 h0 s0 n st b h s) (hp:PosP b h s) (hm:m∈lgL b h s) (hst:st.getD n []=qFU b s m):
   Hist b0 h0 s0 (n+1) st (mbM b s m) (mhM b h s m) (1 - s)
theorem Hist.congr {b0 h0:List Int} {s0:Int} {n:Nat} {st:List (List Int)} {b h:List Int} {s:Int} (hh:Hist b0 h0 s0 n st b h s):∀ {st':List (List Int)},st'.take n=st.take n->Hist b0 h0 s0 n st' b h s:=by
 induction hh with
 | zero st=>intro st' _;exact .zero st'
 | @succ n st b h s m hh hp hm hst ih=>
   intro st' e
   have e':st'.take n=st.take n:=by
    have:=congrArg (List.take n) e
    rwa [List.take_take,List.take_take,Nat.min_eq_left (by omega)] at this
   exact .succ (ih e') hp hm (by rw[quG e (by omega),hst])
end Go.Kk.Pl
namespace Go.Kk.Pl
theorem qmS:qLH=some true:=by kernel_rfl
def nm (m:List Int):List Int:=[m0 m,m1 m,m2 m,bi (m3 m)]
theorem nm0 (m:List Int):m0 (nm m)=m0 m:=rfl
theorem nm1 (m:List Int):m1 (nm m)=m1 m:=rfl
theorem nm2 (m:List Int):m2 (nm m)=m2 m:=rfl
theorem nm3 (m:List Int):m3 (nm m)=m3 m:=qDV (m3 m)
theorem qQK (b:List Int) (s:Int) (m:List Int):mbM b s (nm m)=mbM b s m:=by unfold mbM;rw[nm0,nm1,nm2,nm3]
theorem qQL (b h:List Int) (s:Int) (m:List Int):mhM b h s (nm m)=mhM b h s m:=by unfold mhM;rw[nm1,nm2]
theorem qnG (b:List Int) (s:Int) (m:List Int):qFU b s (nm m)=qFU b s m:=by unfold qFU;rw[nm0,nm1,nm2,nm3]
def lg (b h:List Int) (s:Int) (m:List Int):Bool:=(lgL b h s).contains (nm m)
theorem qO6 {b h:List Int} {s:Int} {m:List Int} (hm:lg b h s m=true):nm m∈lgL b h s:=by simpa[lg] using hm
theorem PosP.is {b h:List Int} {s:Int} (hp:PosP b h s) (m:List Int):qHk (m0 m) (m1 m) (m2 m) (m3 m) b h s (qP b) (qS b)=some (lg b h s m,b,h,s,qP b,qS b):=by
 obtain⟨hc,hs,hno,k,k',hk,hk'⟩:=qGW hp.len hp.zero
 exact qlf hc h hs hk hk' _ _ _ _
theorem PosP.ris {b h:List Int} {s:Int} (hp:PosP b h s) (m:List Int):qGc b h s (m0 m) (m1 m) (m2 m) (m3 m)=some (lg b h s m):=by
 rw[qrf hp.clean h hp.side,<- hp.lists]
 rfl
theorem PosP.next {b h:List Int} {s:Int} (hp:PosP b h s) {m:List Int} (hm:lg b h s m=true):PosP (mbM b s m) (mhM b h s m) (1 - s):=by
 have:=hp.after (qO6 hm)
 rw[qQK,qQL] at this
 exact this
theorem PosP.rnext {b h:List Int} {s:Int} (hp:PosP b h s) {m:List Int} (hm:lg b h s m=true):qFi b h s (m0 m) (m1 m) (m2 m) (m3 m)=some (mbM b s m,mhM b h s m,1 - s):=by
 have:=hp.canP (qO6 hm)
 rw[nm0,nm1,nm2,nm3] at this
 exact qQd hp.clean hp.side this
theorem PosP.make' {b h:List Int} {s:Int} (hp:PosP b h s) {m:List Int} (hm:lg b h s m=true) (n:Nat) (hn:n<=1000) (x:Nat) (st:List (List Int)):
  qDd (m0 m) (m1 m) (m2 m) (m3 m) (kof b h s) n b h s (qP b) (qS b) x st =
   some (.inr (true,kof (mbM b s m) (mhM b h s m) (1 - s),n+1,mbM b s m,mhM b h s m,1 - s,qP (mbM b s m),qS (mbM b s m),n+1,List.append (List.take n st) [qFU b s m])):=by
 have:=hp.make (qO6 hm) n hn x st
 rw[nm0,nm1,nm2,nm3,qQK,qQL,qnG] at this
 exact this
def qw (xs:List (List Int)):Nat->Nat->List Int->List Int->Int->Nat×List Int×List Int×Int
 | 0,_,b,h,s=>(0,b,h,s)
 | k+1,i,b,h,s=>match lg b h s (xs.getD i []) with
   | true=>((qw xs k (i+1) (mbM b s (xs.getD i [])) (mhM b h s (xs.getD i [])) (1 - s)).1+1,(qw xs k (i+1) (mbM b s (xs.getD i [])) (mhM b h s (xs.getD i [])) (1 - s)).2)
   | false=>(0,b,h,s)
theorem qaB (xs:List (List Int)):∀ (k i:Nat) {b h b' h':List Int} {s s':Int},qw xs k i b h s=(k,b',h',s')->
  qw xs (k+1) i b h s=match lg b' h' s' (xs.getD (i+k) []) with
   | true=>(k+1,mbM b' s' (xs.getD (i+k) []),mhM b' h' s' (xs.getD (i+k) []),1 - s')
   | false=>(k,b',h',s')
 | 0,i,b,h,b',h',s,s',e=>by
   cases e
   unfold qw
   simp only[Nat.add_zero]
   cases lg b h s (xs.getD i [])<;>rfl
 | k + 1,i,b,h,b',h',s,s',e=>by
   unfold qw at e ⊢
   cases hm:lg b h s (xs.getD i []) with
   | true=>
     rw[hm] at e
     simp only[Prod.mk.injEq,Nat.succ.injEq,Nat.add_right_cancel_iff] at e
     have ih:=qaB xs k (i+1) (b:=mbM b s (xs.getD i [])) (h:=mhM b h s (xs.getD i [])) (s:=1 - s) (b':=b') (h':=h') (s':=s') (by rw[Prod.ext_iff];exact e)
     simp only
     rw[ih,show i+1+k=i+(k+1) by omega]
     cases lg b' h' s' (xs.getD (i+(k+1)) [])<;>rfl
   | false=>rw[hm] at e;cases e
def zB:List Int:=[0,0,0,0,0,0,0,0,0,0,0,0,0,0,0,0,0,0,0,0,0,0,0,0,0,0,0,0,0,0,0,0,0,0,0,0,0,0,0,0,0,0,0,0,0,0,0,0,0,0,0,0,0,0,0,0,0,0,0,0,0,0,0,0,0,0,0,0,0,0,0,0,0,0,0,0,0,0,0,0,0]
def qIr (n N:Nat):Int:=if n=N then 0 else 110
end Go.Kk.Pl
namespace Go.Kk.Pl
theorem qom (N cap:Nat) (hN:N<=1000) (xs:List (List Int)) (z1 z2:List Int) (z3:Int):∀ (k i:Nat),i+k=N->∀ (b h:List Int) (s:Int) (n x:Nat) (st:List (List Int)),PosP b h s->n<=i->∀ F,
  ((qw xs k i b h s).1=k /\ ∃ K n' by_ sd x' st',qDE (F+k+1) N N N i cap xs z1 z2 z3 (kof b h s) n b h s (qP b) (qS b) x st =
    some (.inr (N,cap,xs,z1,z2,z3,K,n',(qw xs k i b h s).2.1,(qw xs k i b h s).2.2.1,(qw xs k i b h s).2.2.2,by_,sd,x',st'))) \/
  ((qw xs k i b h s).1<k /\ ∃ K n' b' h' s' by_ sd x' st',qDE (F+k+1) N N N i cap xs z1 z2 z3 (kof b h s) n b h s (qP b) (qS b) x st =
    some (.inl (N,((i+(qw xs k i b h s).1:Nat):Int),110,cap,xs,(qw xs k i b h s).2.1,(qw xs k i b h s).2.2.1,(qw xs k i b h s).2.2.2,K,n',b',h',s',by_,sd,x',st'))):=by
 intro k
 induction k with
 | zero=>
   intro i hi b h s n x st hp hn F
   refine .inl ⟨rfl,kof b h s,n,qP b,qS b,x,st,?_⟩
   rw[qDE.eq_2]
   unfold qLO
   rw[qW (by omega)]
   rfl
 | succ k ih=>
   intro i hi b h s n x st hp hn F
   have body:qDE (F+(k+1)+1) N N N i cap xs z1 z2 z3 (kof b h s) n b h s (qP b) (qS b) x st =
     br (!(lg b h s (xs.getD i []))) (some (.inl (N,(i:Int),110,cap,xs,b,h,s,kof b h s,n,b,h,s,qP b,qS b,x,st)))
      (ob (qDd (m0 (xs.getD i [])) (m1 (xs.getD i [])) (m2 (xs.getD i [])) (m3 (xs.getD i [])) (kof b h s) n b h s (qP b) (qS b) x st) fun t=>
       sw t (fun (_,a1,a2,a3,a4,a5,a6,a7,a8,a9)=>qDE (F+k+1) N N N ((i:Int)+1) cap xs z1 z2 z3 a1 a2 a3 a4 a5 a6 a7 a8 a9)
        (fun (_,a1,a2,a3,a4,a5,a6,a7,a8,a9)=>qDE (F+k+1) N N N ((i:Int)+1) cap xs z1 z2 z3 a1 a2 a3 a4 a5 a6 a7 a8 a9)):=by
    rw[qDE.eq_2]
    unfold qLO
    rw[qe (by omega),qc (by omega) (by omega),tn]
    simp only[hdM]
    rw[hp.is,qA]
    simp only
    rw[w_s (n:=(i:Int)+1) (by omega) (by omega)]
    rfl
   cases hm:lg b h s (xs.getD i []) with
   | false=>
     have e:qw xs (k+1) i b h s=(0,b,h,s):=by unfold qw;rw[hm]
     rw[e]
     refine .inr ⟨Nat.succ_pos _,kof b h s,n,b,h,s,qP b,qS b,x,st,?_⟩
     rw[body,hm]
     rfl
   | true=>
     have e:qw xs (k+1) i b h s=((qw xs k (i+1) (mbM b s (xs.getD i [])) (mhM b h s (xs.getD i [])) (1 - s)).1+1,(qw xs k (i+1) (mbM b s (xs.getD i [])) (mhM b h s (xs.getD i [])) (1 - s)).2):=by
      conv=>lhs;unfold qw
      rw[hm]
     rw[e]
     rw[hm,hp.make' hm n (by omega),qA,qAz,Bool.not_true,b_f] at body
     have ih:=ih (i+1) (by omega) (mbM b s (xs.getD i [])) (mhM b h s (xs.getD i [])) (1 - s) (n+1) (n+1) (List.append (List.take n st) [qFU b s (xs.getD i [])]) (hp.next hm) (by omega) F
     rcases ih with⟨i1,K,n',by_,sd,x',st',i2⟩ | ⟨i1,K,n',b',h',s',by_,sd,x',st',i2⟩
     ·exact .inl ⟨by simp only;omega,K,n',by_,sd,x',st',body.trans i2⟩
     ·refine .inr ⟨by simp only;omega,K,n',b',h',s',by_,sd,x',st',(body.trans i2).trans ?_⟩
      simp only
      rw[show i+1+(qw xs k (i+1) (mbM b s (xs.getD i [])) (mhM b h s (xs.getD i [])) (1 - s)).1=i+((qw xs k (i+1) (mbM b s (xs.getD i [])) (mhM b h s (xs.getD i [])) (1 - s)).1+1) by omega]
theorem PosP.play {b h:List Int} {s:Int} (hp:PosP b h s) (N cap:Nat) (hN:N<=1000) (xs:List (List Int)):
  qGL b h s N cap xs=some (((qw xs N 0 b h s).1:Int),(qw xs N 0 b h s).2.1,(qw xs N 0 b h s).2.2.1,(qw xs N 0 b h s).2.2.2,qIr (qw xs N 0 b h s).1 N):=by
 unfold qGL
 rw[qgk hp.len hp.fits,hp.zero,qA]
 simp only[bne_self_eq_false,b_f]
 rw[qkd hp.clean,qA]
 simp only
 obtain⟨g,hg⟩:=qh N (by omega)
 have:=qom N cap hN xs zB [0,0,0,0,0,0,0,0,0,0,0,0,0,0,0,0] 0 N 0 (by omega) b h s 0 0 [] hp (by omega) g
 rw[<- hg] at this
 simp only[Nat.zero_add] at this
 rcases this with⟨i1,K,n',by_,sd,x',st',i2⟩ | ⟨i1,K,n',b',h',s',by_,sd,x',st',i2⟩
 ·refine (congrArg (fun m=>ob m _) i2).trans ?_
  rw[qA,qAz]
  simp only
  rw[i1]
  unfold qIr
  rw[if_pos rfl]
  rfl
 ·refine (congrArg (fun m=>ob m _) i2).trans ?_
  rw[qA,qfc]
  simp only
  unfold qIr
  rw[if_neg (by omega)]
theorem qZ9 {xs ys:List (List Int)}:∀ (k i:Nat) (b h:List Int) (s:Int),(∀ j,i<=j->j<i+k->xs.getD j []=ys.getD j [])->qw xs k i b h s=qw ys k i b h s
 | 0,_,_,_,_,_=>rfl
 | k+1,i,b,h,s,e=>by
   have h0:=e i (Nat.le_refl _) (by omega)
   unfold qw
   rw[h0,qZ9 k (i+1) _ _ _ fun j h1 h2=>e j (by omega) (by omega)]
theorem qaA (xs:List (List Int)):∀ (i n o:Nat) (b h:List Int) (s:Int),(qw xs n o b h s).1=n->i<=n->(qw xs i o b h s).1=i
 | 0,_,_,_,_,_,_,_=>rfl
 | i+1,0,_,_,_,_,_,h=>by omega
 | i + 1,n+1,o,b,h,s,e,hin=>by
   unfold qw at e ⊢
   cases hm:lg b h s (xs.getD o []) with
   | true=>
     rw[hm] at e
     simp only[Nat.add_right_cancel_iff] at e ⊢
     exact qaA xs i n (o+1) _ _ _ e (by omega)
   | false=>rw[hm] at e;simp at e
structure Led (b0 h0:List Int) (s0:Int) (L:List (List Int)) (b h:List Int) (s:Int):Prop where
 pos:PosP b h s
 led:qw L L.length 0 b0 h0 s0=(L.length,b,h,s)
theorem qgb {L:List (List Int)} {m:List Int} {j:Nat} (h:j<L.length):(L++[m]).getD j []=L.getD j []:=by
 rw[List.getD_eq_getElem?_getD,List.getD_eq_getElem?_getD,List.getElem?_append_left h]
theorem qgc (L:List (List Int)) (m:List Int):(L++[m]).getD L.length []=m:=by
 rw[List.getD_eq_getElem?_getD,List.getElem?_append_right (Nat.le_refl _),Nat.sub_self]
 rfl
theorem Led.more {b0 h0:List Int} {s0:Int} {L:List (List Int)} {b h:List Int} {s:Int} (hL:Led b0 h0 s0 L b h s) (m:List Int):
  qw (L++[m]) (L.length+1) 0 b0 h0 s0=match lg b h s m with
   | true=>(L.length+1,mbM b s m,mhM b h s m,1 - s)
   | false=>(L.length,b,h,s):=by
 have h1:qw (L++[m]) L.length 0 b0 h0 s0=(L.length,b,h,s):=by
  rw[<- hL.led]
  exact qZ9 _ _ _ _ _ fun j _ hj=>qgb (by omega)
 have:=qaB (L++[m]) L.length 0 h1
 rw[Nat.zero_add,qgc] at this
 exact this
theorem qi9 {b0 h0:List Int} {s0:Int} (lo N cap:Nat) (hN:N<=100) (ps:List Int) (f t d:Int) (p:Bool):∀ (k i:Nat),i+k=N->∀ (L:List (List Int)) (b h:List Int) (s:Int),Led b0 h0 s0 L b h s->L.length<=i->∀ F,
  ∃ L' b' h' s',Led b0 h0 s0 L' b' h' s' /\ L'.length<=N /\
    qDD (F+k+1) L.length lo N N i cap ps b0 h0 s0 f t d p L.length L b h s=some (L'.length,cap,ps,b0,h0,s0,f,t,d,p,L'.length,L',b',h',s'):=by
 intro k
 induction k with
 | zero=>
   intro i hi L b h s hL hl F
   refine⟨L,b,h,s,hL,by omega,?_⟩
   rw[qDD.eq_2]
   unfold qHe
   rw[qW (by omega)]
 | succ k ih=>
   intro i hi L b h s hL hl F
   have hp:=hL.pos
   have hlen:=qYC b h s
   obtain⟨pk,hpk⟩:∃ pk,ps.getD (lo+i) 0=pk:=⟨_,rfl⟩
   have stop:∀ {r},r=some (L.length,cap,ps,b0,h0,s0,f,t,d,p,L.length,L,b,h,s)->qDD (F+(k+1)+1) L.length lo N N i cap ps b0 h0 s0 f t d p L.length L b h s=r->
     ∃ L' b' h' s',Led b0 h0 s0 L' b' h' s' /\ L'.length<=N /\
       qDD (F+(k+1)+1) L.length lo N N i cap ps b0 h0 s0 f t d p L.length L b h s=some (L'.length,cap,ps,b0,h0,s0,f,t,d,p,L'.length,L',b',h',s'):=
    fun h1 h2=>⟨L,b,h,s,hL,by omega,h2.trans h1⟩
   by_cases hq0:(lgL b h s).length=0
   ·refine stop rfl ?_
    rw[qDD.eq_2]
    unfold qHe
    rw[qe (by omega),qc (by omega) (by omega),qSC hp.clean h hp.side,qA,<- hp.lists]
    simp only
    rw[qG (by rw[qPo];simpa using hq0)]
   by_cases h1:pk<0
   ·refine stop rfl ?_
    rw[qDD.eq_2]
    unfold qHe
    rw[qe (by omega),qc (by omega) (by omega),qSC hp.clean h hp.side,qA,<- hp.lists]
    simp only
    rw[qN (by rw[qPo];simpa using hq0),tn,hpk,qe h1]
   have hj0:0<=Int.tmod pk (Int.ofNat (lgL b h s).length):=Int.tmod_nonneg _ (by omega)
   have hj1:Int.tmod pk (Int.ofNat (lgL b h s).length)<Int.ofNat (lgL b h s).length:=Int.tmod_lt_of_pos _ (by simp only[Int.ofNat_eq_natCast];omega)
   obtain⟨j,hj⟩:∃ j:Nat,Int.tmod pk (Int.ofNat (lgL b h s).length)=(j:Int):=⟨_,(Int.toNat_of_nonneg hj0).symm⟩
   rw[hj] at hj1
   have hjl:j<(lgL b h s).length:=by simp only[Int.ofNat_eq_natCast] at hj1;omega
   obtain⟨m,hmd⟩:∃ m,(lgL b h s)[j]=m:=⟨_,rfl⟩
   have hm:m∈lgL b h s:=by rw[<- hmd];exact List.getElem_mem hjl
   have hnm:nm m=m:=(hp.full hm).1.1.symm
   have hlg:lg b h s m=true:=by unfold lg;rw[hnm];simpa using hm
   have hlg':lg b h s (nm m)=true:=by rw[hnm];exact hlg
   have hL':Led b0 h0 s0 (L++[nm m]) (mbM b s m) (mhM b h s m) (1 - s):=by
    refine⟨hp.next hlg,?_⟩
    have:=hL.more (nm m)
    rw[hlg',qQK,qQL] at this
    rw[List.length_append]
    exact this
   obtain⟨L2,b2,h2,s2,i1,i2,i3⟩:=ih (i+1) (by omega) (L++[nm m]) _ _ _ hL' (by rw[List.length_append];simp;omega) F
   refine⟨L2,b2,h2,s2,i1,i2,?_⟩
   refine Eq.trans ?_ i3
   rw[qDD.eq_2]
   unfold qHe
   rw[qe (by omega),qc (by omega) (by omega),qSC hp.clean h hp.side,qA,<- hp.lists]
   simp only
   rw[tn,hpk,hj,tn,atL hjl,hmd]
   simp only[hdM]
   rw[qN (by rw[qPo];simpa using hq0),qW h1,qN (by simp only[Int.ofNat_eq_natCast,decide_eq_false_iff_not];omega),qc (by omega) (by omega),qBu (by omega),qN (by simp only[Int.ofNat_eq_natCast,decide_eq_false_iff_not];omega),
    qc (by omega) (by omega),hp.rnext hlg,qA]
   simp only
   rw[w_s (n:=(i:Int)+1) (by omega) (by omega),tkA rfl,List.length_append]
   rfl
theorem qoq {b0 h0:List Int} {s0:Int} (hp0:PosP b0 h0 s0) (cap:Nat) (ps:List Int) (f t d:Int) (p:Bool) {L:List (List Int)} {b h:List Int} {s:Int} (hL:Led b0 h0 s0 L b h s) (hN:L.length<=1000) (z1 z2:List Int) (z3:Int):∀ (k i:Nat),i+k=L.length->∀ F,
  qGK (F+k+1) L.length L.length i cap ps b0 h0 s0 f t d p L.length L z1 z2 z3=some (.inr (L.length,cap,ps,b0,h0,s0,f,t,d,p,L.length,L,z1,z2,z3)):=by
 intro k
 induction k with
 | zero=>
   intro i hi F
   rw[qGK.eq_2]
   unfold qLG
   rw[qW (by omega)]
 | succ k ih=>
   intro i hi F
   have h1:(qw L i 0 b0 h0 s0).1=i:=qaA L i L.length 0 b0 h0 s0 (by rw[hL.led]) (by omega)
   rw[qGK.eq_2]
   unfold qLG
   rw[qe (by omega),qG (qW1 (by omega) (by omega)),tn,Nat.sub_zero,hp0.play i L.length (by omega),qA]
   simp only
   rw[h1]
   unfold qIr
   rw[if_pos rfl]
   simp only[bne_self_eq_false,b_f]
   rw[w_s (n:=(i:Int)+1) (by omega) (by omega)]
   exact ih (i+1) (by omega) F
theorem ql7 {b h:List Int} (s:Int) (hl:b.length=81) (hf:qAZ h) (hh:h.length=16) (lo N cap:Nat) (ps:List Int) (f t d:Int) (p:Bool):qJQ b h s lo N cap ps f t d p=some true:=by
 unfold qJQ
 rw[qmS,qA]
 simp only[Bool.not_true,b_f]
 rw[qo4 hl hf,qA]
 by_cases hz:qCi b h s=0
 ·have hp:PosP b h s:=⟨hl,hf,hh,hz⟩
  rw[qr hz]
  by_cases hn:Int.ofNat N>12
  ·rw[qG (by simpa using hn)]
  have hN:N<=12:=by simp only[Int.ofNat_eq_natCast] at hn;omega
  rw[qN (by simpa using hn)]
  obtain⟨g,hg⟩:=qh N (by omega)
  obtain⟨L,b',h',s',hL,hLl,hloop⟩:=qi9 lo N cap (by omega) ps f t d p N 0 (by omega) [] b h s ⟨hp,rfl⟩ (Nat.zero_le _) g
  rw[<- hg] at hloop
  refine (congrArg (fun m=>ob m _) hloop).trans ?_
  rw[qA]
  simp only
  obtain⟨g2,hg2⟩:=qh L.length (by omega)
  have hpre:=qoq hp cap ps f t d p hL (by omega) b' h' s' L.length 0 (by omega) g2
  rw[<- hg2] at hpre
  refine (congrArg (fun m=>ob m _) hpre).trans ?_
  rw[qA,qAz]
  simp only
  have hr:nm [f,t,d,bi p]=[f,t,d,bi p]:=by
   show [f,t,d,bi (bi p != 0)]=_
   rw[qDV]
  have hm3:m3 [f,t,d,bi p]=p:=qDV p
  have hlist:List.append (List.take (0+L.length) (List.take L.length L)) [[f,t,d,bi p]]=L++[[f,t,d,bi p]]:=by
   rw[Nat.zero_add,List.take_length,List.take_length]
   rfl
  rw[qBu (by omega),qBu (by omega),hlist,Nat.zero_add,hp.play (L.length+1) (L.length+1) (by omega),qA]
  simp only
  rw[hL.more]
  have his:=hL.pos.ris [f,t,d,bi p]
  rw[hm3] at his
  rw[show qGc b' h' s' f t d p=some (lg b' h' s' [f,t,d,bi p]) from his,qA]
  unfold qIr
  cases lg b' h' s' [f,t,d,bi p] with
  | true=>
    rw[b_t,w_s (n:=Int.ofNat L.length+1) (by simp only[Int.ofNat_eq_natCast];omega) (by simp only[Int.ofNat_eq_natCast];omega)]
    simp[br]
  | false=>
    rw[b_f]
    simp[br]
 ·rw[qp hz]
end Go.Kk.Pl
