/- What the program's functions come to, told plainly: the texts of this project that this claim leans on, cut down to what is used. -/
import Derived.Test.YtpppdecfohkkfaaGreatDoorKkU3
import Derived.Test.YtpppdecfohkkfaaGreatDoorKkU2
namespace Go.Kk.Pl
theorem qiZ {b:List Int} (hc:Clean b) {s:Int} (hs:s=0 \/ s=1) {k':Nat} (hk':KS b (1 - s) k') (hno:inC b (1 - s)=false) {q:Int} (hq:0<=q /\ q < 81) (h0:at_ b q=0) {c:Nat} (hcc:c < 81) (hch:chs (pb b s q) (1 - s) c=true):c=q.toNat:=by
 have hs':1 - s=0 \/ 1 - s=1:=by omega
 have hP:=qQP hs hq h0
 have hk2:KS (pb b s q) (1 - s) k':=by rw [qGP]; exact qK3 hc hs hP hk'
 apply Classical.byContradiction
 intro hne
 rw [qE4 hs' (hk2.kg hs') hk2.1] at hch
 have hg:(pb b s q).getD c 0=b.getD c 0:=by
  rw [qGP,qEO hc hs hP hcc,if_neg hne,if_neg (by simp)]
 have ha:atk b (1 - s) k' c=true:=by
  simp only [atk,enm,Bool.and_eq_true] at hch ⊢
  rw [hg] at hch
  refine ⟨hch.1,?_⟩
  rw [qB0] at hch ⊢
  refine hch.2.imp id fun hh=>⟨hh.1,fun i hi=>?_⟩
  have:=hh.2 i hi
  rw [qGP,qTD hc hs hP (qIr hcc hk'.1 hi)] at this
  unfold tk2 fof at this
  simp only [Bool.or_eq_false_iff,decide_eq_false_iff_not] at this
  have h2:=this.2
  rw [if_neg (by simp),decide_eq_false this.1] at h2
  simpa using h2
 unfold inC at hno
 have hE:isE (chs b (1 - s))=true:=by simpa using hno
 have:=qCm.mp hE c hcc
 rw [qE4 hs' (hk'.kg hs') hk'.1,ha] at this
 cases this
theorem qmC {b:List Int} (hc:Clean b) {s:Int} (hs:s=0 \/ s=1) {k':Nat} (hk':KS b (1 - s) k') (hno:inC b (1 - s)=false) {q:Int} (hq:0<=q /\ q < 81) (h0:at_ b q=0) (hh:List Int):
  pmS b s q=(inC (pb b s q) (1 - s)&&qJu (pb b s q) hh (1 - s)):=by
 have hs':1 - s=0 \/ 1 - s=1:=by omega
 have hP:=qQP hs hq h0
 have hk2:KS (pb b s q) (1 - s) k':=by rw [qGP]; exact qK3 hc hs hP hk'
 have hc2:Clean (pb b s q):=hc.put q _
 have hq81:q.toNat < 81:=by omega
 have e1:inC (pb b s q) (1 - s)=chs (pb b s q) (1 - s) q.toNat:=by
  unfold inC
  cases hch:chs (pb b s q) (1 - s) q.toNat with
  | true=>
    cases hE:isE (chs (pb b s q) (1 - s)) with
    | false=>rfl
    | true=>rw [qCm.mp hE _ hq81] at hch; cases hch
  | false=>
    have:isE (chs (pb b s q) (1 - s))=true:=by
     rw [qCm]
     intro i hi
     cases hx:chs (pb b s q) (1 - s) i with
     | false=>rfl
     | true=>rw [qiZ hc hs hk' hno hq h0 hi hx] at hx; rw [hx] at hch; cases hch
    rw [this]; rfl
 unfold pmS
 rw [decide_eq_true hq,decide_eq_true h0,Bool.true_and,Bool.true_and,e1]
 cases hch:chs (pb b s q) (1 - s) q.toNat with
 | false=>rfl
 | true =>
   rw [Bool.true_and,Bool.true_and]
   unfold qJu
   rw [show mvs (pb b s q) hh (1 - s)=qv (pb b s q) (1 - s) T_ ++ qAP (pb b s q) hh (1 - s) T_ from rfl,List.all_append]
   have hB:((qv (pb b s q) (1 - s) T_).all fun m=>!g1 (pb b s q) (1 - s) m)=(qv (pb b s q) (1 - s) T_).all fun m=>!qBk (pb b s q) (1 - s) m:=by
    rw [Bool.eq_iff_iff,List.all_eq_true,List.all_eq_true]
    have:∀ m ∈ qv (pb b s q) (1 - s) T_,g1 (pb b s q) (1 - s) m=qBk (pb b s q) (1 - s) m:=by
     intro m hm
     obtain ⟨_,a2,a3⟩:=qLV hc2 hh hs' hm
     have:=qMK hc2 hs' (qFO a2).2 hk2
     unfold qBk mbM g1
     rw [this,if_pos a3]
    constructor
    ·intro h m hm; rw [<- this m hm]; exact h m hm
    ·intro h m hm; rw [this m hm]; exact h m hm
   have hD:((qAP (pb b s q) hh (1 - s) T_).all fun m=>!qBk (pb b s q) (1 - s) m)=true:=by
    rw [List.all_eq_true]
    intro m hm
    obtain ⟨_,a2,_,a4,_,_⟩:=qQB hc2 hs' hm
    have hPm:=(qFO a2).2
    have:=qMK hc2 hs' hPm hk2
    unfold qBk mbM
    rw [this,if_neg (by omega),Bool.not_eq_true']
    cases ho:qu (pb b s q) (1 - s) (m1 m).toNat with
    | false=>rfl
    | true=>
      exfalso
      rw [qJK hs' hk2] at ho
      rw [qE4 hs' (hk2.kg hs') hk2.1] at hch
      have hgq:(pb b s q).getD q.toNat 0=16 * s+1:=by
       rw [qGP,qEO hc hs hP hq81,if_pos rfl]
       unfold laid
       rw [if_pos (by simp)]
      rcases ho _ hq81 hch with h1 | h1
      ·have h2:=(hPm.drop (by omega)).2.2.2.2.2
       rw [qAZ hPm.to_,h1,hgq] at h2
       omega
      ·simp only [atk,Bool.and_eq_true] at hch
       rcases qB0.mp hch.2 with h2 | h2
       ·rw [qMm h2] at h1; cases h1
       ·have h3:=of_decide_eq_true h2.1
        rw [hgq,qHU hs (by omega) (by omega) (by omega)] at h3
        unfold slK at h3
        omega
   rw [hB,hD,Bool.and_true]
theorem qGR {b h:List Int} {s:Int} (hl:b.length=81) (hz:qB6 b h s=0):Clean b /\ (s=0 \/ s=1) /\ inC b (1 - s)=false /\ ∃ k k',KS b s k /\ KS b (1 - s) k':=by
 have h1:qAs b h s=0 /\ inC b (1 - s)=false:=by
  unfold qB6 at hz
  split at hz
  ·rename_i h; exact absurd hz h
  ·rename_i h
   refine ⟨by simpa using h,?_⟩
   cases hi:inC b (1 - s) with
   | false=>rfl
   | true=>rw [hi] at hz; simp at hz
 obtain ⟨hc,hs⟩:=qIy hl h1.1
 obtain ⟨k,hk⟩:=qK4 h1.1 hs
 obtain ⟨k',hk'⟩:=qK4 h1.1 (s:=1 - s) (by omega)
 exact ⟨hc,hs,h1.2,k,k',hk,hk'⟩
theorem qYU {b:List Int} (hc:Clean b) (h:List Int) {s:Int} (hs:s=0 \/ s=1) (hno:inC b (1 - s)=false) {k k':Nat} (hk:KS b s k) (hk':KS b (1 - s) k'):lgL b h s=rlL b h s:=by
 unfold lgL rlL
 rw [show mvs b h s=qv b s T_ ++ qAP b h s T_ from rfl,List.filter_append,qQC,List.filter_filter]
 congr 1
 ·apply List.filter_congr
  intro m hm
  obtain ⟨_,a2,a3⟩:=qLV hc h hs hm
  have:=qMK hc hs (qFO a2).2 hk
  unfold qFN qBk mbM g1
  rw [this,if_pos a3,decide_eq_true (p:=m2 m ≠ 1) (by omega),Bool.true_or,Bool.and_true]
 ·apply List.filter_congr
  intro m hm
  obtain ⟨_,a2,a3,a4,a5,a6⟩:=qQB hc hs hm
  have hP:=(qFO a2).2
  have:=qMK hc hs hP hk
  unfold qFN qBk g2
  rw [show inC (mbM b s m) s=inC (mb b s (m0 m) (m1 m) (m2 m) (m3 m)) s from rfl,this,if_neg (by omega)]
  cases ho:qu b s (m1 m).toNat with
  | false=>simp
  | true=>
    rw [Bool.and_true,Bool.true_and]
    by_cases hd:m2 m=1
    ·have hdr:=hP.drop (by omega)
     rw [decide_eq_true hd,decide_eq_false (p:=m2 m ≠ 1) (by simpa using hd),Bool.true_and,Bool.false_or,qmC hc hs hk' hno hP.to_ hdr.2.2.2.2.2 (mhM b h s m)]
     have:mbM b s m=pb b s (m1 m):=by
      unfold mbM
      rw [a3,hd,a6,qGP]
     rw [this]
    ·rw [decide_eq_false hd,decide_eq_true (p:=m2 m ≠ 1) hd]; rfl
theorem qkQ (b h:List Int) (S:Int) (by_ sd_:List (List Int)) (f t d:Int) (p:Bool) (N:Nat) (M:List (List Int)) (hM:∀ m ∈ M,Mv4 m) (hl:M.length<=100000):∀ (n i:Nat),i+n=M.length->∀ F,
  qFL (F+n+1) M.length M.length i b h S by_ sd_ f t d p N M=some (if (M.drop i).contains [f,t,d,bi p] then .inl (true,b,h,S,by_,sd_) else .inr (b,h,S,by_,sd_)):=by
 intro n
 induction n with
 | zero=>
   intro i hi F
   show qHb (qFL (F+0)) _ _ _ _ _ _ _ _ _ _ _ _ _ _=_
   unfold qHb
   rw [qW (by omega),List.drop_eq_nil_of_le (by omega)]
   rfl
 | succ n ih=>
   intro i hi F
   show qHb (qFL (F+n+1)) _ _ _ _ _ _ _ _ _ _ _ _ _ _=_
   unfold qHb
   have hil:i < M.length:=by omega
   obtain ⟨hm1,_⟩:=hM M[i] (List.getElem_mem hil)
   rw [qf (by omega),qd (by omega) (by omega),tn,atL hil]
   simp only [hdM]
   rw [w_s (n:=(i:Int)+1) (by omega) (by omega),List.drop_eq_getElem_cons hil,List.contains_cons]
   have e:(m0 M[i]==f&&(m1 M[i]==t&&(m2 M[i]==d&&m3 M[i]==p)))=([f,t,d,bi p]==M[i]):=by
    rw [Bool.eq_iff_iff,beq_iff_eq]
    simp only [Bool.and_eq_true,beq_iff_eq]
    constructor
    ·rintro ⟨h1,h2,h3,h4⟩
     rw [hm1,h1,h2,h3,h4]
    ·intro he
     rw [<- he]
     refine ⟨rfl,rfl,rfl,?_⟩
     show (bi p != 0)=p
     cases p <;> rfl
   rw [e]
   cases hb:([f,t,d,bi p]==M[i]) with
   | true=>rw [b_t]; rfl
   | false=>
     rw [b_f,Bool.false_or]
     exact ih (i+1) (by omega) F
theorem qEu (p:Bool):(bi p != 0)=p:=by cases p <;> rfl
theorem qmE {b:List Int} (hc:Clean b) (h:List Int) {s:Int} (hs:s=0 \/ s=1) {f t d:Int} {p:Bool}:[f,t,d,bi p] ∈ mvs b h s ↔ qz b h s f t d p=true:=by
 constructor
 ·intro hm
  have:=(qHl hc hs hm).2
  have e:m3 [f,t,d,bi p]=p:=qEu p
  rw [e] at this
  exact this
 ·exact qmF hc hs
theorem qX0 {b:List Int} (_hc:Clean b) {h:List Int} {s:Int} (_hs:s=0 \/ s=1) {m:List Int} (hm:m ∈ lgL b h s):m ∈ mvs b h s:=by
 unfold lgL at hm
 rw [List.mem_append] at hm
 rcases hm with hm | hm
 ·exact List.mem_append_left _ (List.mem_filter.mp hm).1
 ·have:=(List.mem_filter.mp hm).1
  rw [qQC] at this
  exact List.mem_append_right _ (List.mem_filter.mp this).1
theorem qlD {b:List Int} (hc:Clean b) (h:List Int) {s:Int} (hs:s=0 \/ s=1) {k k':Nat} (hk:KS b s k) (hk':KS b (1 - s) k') (f t d:Int) (p:Bool):
  qGH f t d p b h s (qN b) (qQ b)=some ((lgL b h s).contains [f,t,d,bi p],b,h,s,qN b,qQ b):=by
 unfold qGH
 rw [qXb hc h hs hk hk',qA]
 simp only
 have hlen:=qlZ b h s
 obtain ⟨g,hg⟩:=qh (lgL b h s).length (by omega)
 have:=qkQ b h s (qN b) (qQ b) f t d p (lgL b h s).length (lgL b h s) (fun m hm=>(qHl hc hs (qX0 hc hs hm)).1) (by omega) (lgL b h s).length 0 (by omega) g
 rw [<- hg,List.drop_zero] at this
 rw [show qFL qB (lgL b h s).length (Int.ofNat (lgL b h s).length) 0 b h s (qN b) (qQ b) f t d p (lgL b h s).length (lgL b h s)=_ from this,qA]
 cases (lgL b h s).contains [f,t,d,bi p] <;> rfl
theorem qrK {b:List Int} (hc:Clean b) (h:List Int) {s:Int} (hs:s=0 \/ s=1) (f t d:Int) (p:Bool):qIB b h s f t d p=some ((rlL b h s).contains [f,t,d,bi p]):=by
 have e3:m3 [f,t,d,bi p]=p:=qEu p
 have eq:(rlL b h s).contains [f,t,d,bi p]=(qz b h s f t d p&&qFN b h s [f,t,d,bi p]):=by
  unfold rlL
  rw [Bool.eq_iff_iff,List.contains_iff_mem,List.mem_filter,qmE hc h hs,Bool.and_eq_true]
 unfold qIB
 rw [qJe,qA,eq]
 cases hm:qz b h s f t d p with
 | false=>rfl
 | true=>
   rw [b_t,Bool.true_and]
   have:=qrP hc hs (m:=[f,t,d,bi p]) (by rw [e3]; exact hm)
   rw [e3] at this
   rw [show qIC b h s f t d p=_ from this,qA]
end Go.Kk.Pl
namespace Go.Kk.Pl
end Go.Kk.Pl
namespace Go.Kk.Pl
theorem qmO (f t d:Int) (p:Bool):qDh f t d p=some (qCO f t d p):=by
 unfold qDh qCO
 by_cases h1:t < 0
 ·rw [qf h1,if_pos (by omega)]
 rw [qW h1]
 by_cases h2:t >= 81
 ·rw [qB7 h2,if_pos (by omega)]
 rw [qBb h2,if_neg (by omega)]
 by_cases hd:d=0
 ·rw [qt hd,if_neg (by simpa using hd)]
  by_cases h3:f < 0
  ·rw [qf h3,if_pos (by omega)]
  rw [qW h3]
  by_cases h4:f >= 81
  ·rw [qB7 h4,if_pos (by omega)]
  rw [qBb h4,if_neg (by omega)]
  by_cases h5:f=t
  ·rw [ql h5,if_pos h5]
  ·rw [qk h5,if_neg h5]
 ·rw [qo hd,if_pos hd]
  by_cases h3:d < 0
  ·rw [qf h3,if_neg (by omega)]
  rw [qW h3]
  by_cases h4:d >= 8
  ·rw [qB7 h4,if_neg (by omega)]
  rw [qBb h4]
  by_cases h5:f=0
  ·rw [qt h5]
   cases p with
   | true=>rw [b_t,if_neg (by simp)]
   | false=>rw [b_f,if_pos ⟨by omega,by omega,h5,rfl⟩]
  ·rw [qo h5,if_neg (by omega)]
theorem qiB (b h:List Int) {s:Int} (hs:s=0 \/ s=1) (f t d:Int) (p:Bool) (K:Int) (n:Nat) (by_ sides:List (List Int)) (m:Nat) (st:List (List Int)):
  qEG f t d p K n b h s by_ sides m st=some (qBq b h s f t d p):=by
 unfold qEG qBq
 rw [qmO,qA]
 by_cases hm:qCO f t d p=0
 ·obtain ⟨ht,hd,hmv⟩:=qIx hm
  have main:(br (d != 0)
    (ob (qCg s d b h s by_ sides) fun a14=>
    br (decide (a14 > 0))
     (ob (qAe t b h s by_ sides) fun a15=>
     some (a15==0))
     (some (false)))
    (ob (qAe f b h s by_ sides) fun a14=>
    ob (qAe t b h s by_ sides) fun a15=>
    ob (qAQ a14) fun a16=>
    br (a16==s)
     (ob (qAQ a15) fun a17=>
     br (a17 != s)
      (ob (qAC a15) fun a18=>
      br (a18 != 8)
       (br (!p)
        (some (true))
        (ob (qAC a14) fun a19=>
        ob (qCt a19) fun a20=>
        some (a20 != 0)))
       (some (false)))
      (some (false)))
     (some (false))))=some (if d ≠ 0 then decide (0 < hd_ h s d)&&decide (at_ b t=0)
 else decide (sd (at_ b f)=s /\ sd (at_ b t) ≠ s /\ kd (at_ b t) ≠ 8)&&(!p||decide (up_ (kd (at_ b f)) ≠ 0))):=by
   by_cases h0:d=0
   ·rw [qt h0,if_neg (by simpa using h0),qCy,qA,qCy,qA,qDJ,qA]
    by_cases e1:sd (at_ b f)=s
    ·rw [ql e1,qDJ,qA]
     by_cases e2:sd (at_ b t)=s
     ·rw [qt e2,decide_eq_false (p:=sd (at_ b f)=s /\ sd (at_ b t) ≠ s /\ kd (at_ b t) ≠ 8) (fun h=>h.2.1 e2)]; rfl
     ·rw [qo e2,qBV,qA]
      by_cases e3:kd (at_ b t)=8
      ·rw [qt e3,decide_eq_false (p:=sd (at_ b f)=s /\ sd (at_ b t) ≠ s /\ kd (at_ b t) ≠ 8) (fun h=>h.2.2 e3)]; rfl
      ·rw [qo e3,decide_eq_true (p:=sd (at_ b f)=s /\ sd (at_ b t) ≠ s /\ kd (at_ b t) ≠ 8) ⟨e1,e2,e3⟩]
       cases p with
       | false=>rfl
       | true=>
         rw [Bool.not_true,b_f,qBV,qA,qJ3,qA]
         by_cases e4:up_ (kd (at_ b f))=0 <;> simp [e4]
    ·rw [qk e1,decide_eq_false (p:=sd (at_ b f)=s /\ sd (at_ b t) ≠ s /\ kd (at_ b t) ≠ 8) (fun h=>e1 h.1)]; rfl
   ·have:=hd h0
    rw [qo h0,if_pos h0,qKu hs (by omega) (by omega),qA]
    by_cases e1:hd_ h s d > 0
    ·rw [qBR e1,qCy,qA,decide_eq_true (p:=0 < hd_ h s d) e1,Bool.true_and]
     by_cases e2:at_ b t=0 <;> simp [e2]
    ·rw [qBS e1,decide_eq_false (p:=0 < hd_ h s d) e1,Bool.false_and]
  rw [qt hm,decide_eq_true hm,decide_eq_true hs,Bool.true_and,Bool.true_and,<- main]
  rcases hs with rfl | rfl <;> rfl
 ·rw [qo hm,decide_eq_false hm,Bool.false_and]
theorem qXz {b:List Int} (hc:Clean b) {h:List Int} {s:Int} (hs:s=0 \/ s=1) {k k':Nat} (hno:inC b (1 - s)=false) (hk:KS b s k) (hk':KS b (1 - s) k') {m:List Int} (hm:m ∈ lgL b h s):
  Mv4 m /\ qz b h s (m0 m) (m1 m) (m2 m) (m3 m)=true /\ qFN b h s m=true /\ qBk b s m=true:=by
 have h1:=qHl hc hs (qX0 hc hs hm)
 rw [qYU hc h hs hno hk hk'] at hm
 have h2:=(List.mem_filter.mp hm).2
 refine ⟨h1.1,h1.2,h2,?_⟩
 unfold qFN at h2
 rw [Bool.and_eq_true] at h2
 exact h2.1
theorem qmN {b h:List Int} {s f t d:Int} {p:Bool} (hm:qz b h s f t d p=true):qBq b h s f t d p=true:=by
 unfold qz at hm
 rw [Bool.and_eq_true] at hm
 exact hm.1
end Go.Kk.Pl
namespace Go.Kk.Pl
theorem qEr {p:Nat->Bool} {a n:Nat}:(List.range' a n).any p=false ↔ ∀ i,a<=i->i < a+n->p i=false:=by
 rw [List.any_eq_false]
 constructor
 ·intro h i h1 h2
  have:=h i (List.mem_range'_1.mpr ⟨h1,h2⟩)
  simpa using this
 ·intro h i hi
  obtain ⟨h1,h2⟩:=List.mem_range'_1.mp hi
  rw [h i h1 h2]; simp
structure ChkP (b h:List Int) (s:Int):Prop where
 side:s=0 \/ s=1
 good:∀ i,i < 81->bsP b i=false
 hands:∀ k,k < 8->∀ j,j < 2->bsH h k j=false
 kings:nP b 8=1 /\ nP b 24=1
 over:∀ k,1<=k->k < 8->qBw b h k=false
 dead:∀ i,i < 81->qA0 (b.getD i 0) i=false
 nifu:∀ f,f < 9->qBJ b f=false
theorem qVG {b h:List Int} {s:Int}:qAs b h s=0 ↔ ChkP b h s:=by
 constructor
 ·intro hz
  unfold qAs at hz
  split at hz
  ·omega
  rename_i h1
  split at hz
  ·omega
  rename_i h2
  split at hz
  ·omega
  rename_i h3
  split at hz
  ·omega
  rename_i h4
  split at hz
  ·omega
  rename_i h5
  split at hz
  ·omega
  rename_i h6
  split at hz
  ·omega
  rename_i h7
  rw [Bool.not_eq_true,qEr] at h2 h3 h5 h6 h7
  refine ⟨by omega,fun i hi=>h2 i (by omega) (by omega),fun k hk j hj=>?_,by simpa using h4,fun k k1 k2=>h5 k k1 (by omega),fun i hi=>h6 i (by omega) (by omega),fun f hf=>h7 f (by omega) (by omega)⟩
  have:=h3 k (by omega) (by omega)
  rw [qEr] at this
  exact this j (by omega) (by omega)
 ·intro ⟨a1,a2,a3,a4,a5,a6,a7⟩
  unfold qAs
  rw [if_neg (by omega),if_neg (by rw [qEr.mpr fun i _ hi=>a2 i (by omega)]; simp),if_neg (by rw [qEr.mpr fun k _ hk=>qEr.mpr fun j _ hj=>a3 k (by omega) j (by omega)]; simp),if_neg (by simpa using a4),
   if_neg (by rw [qEr.mpr fun k k1 hk=>a5 k k1 (by omega)]; simp),if_neg (by rw [qEr.mpr fun i _ hi=>a6 i (by omega)]; simp),if_neg (by rw [qEr.mpr fun i _ hi=>a7 i (by omega)]; simp)]
theorem quD {n:Nat} {p:Nat->Bool}:(List.range n).countP p<=1 ↔ ∀ i j,i < n->j < n->p i=true->p j=true->i=j:=by
 rw [List.countP_eq_length_filter]
 have hn:((List.range n).filter p).Nodup:=List.Nodup.sublist List.filter_sublist List.nodup_range
 have hm:∀ i,i ∈ (List.range n).filter p ↔ i < n /\ p i=true:=by
  intro i; rw [List.mem_filter,List.mem_range]
 match he:(List.range n).filter p with
 | []=>
   rw [he] at hm
   refine ⟨fun _ i j hi _ h1 _=>?_,fun _=>by simp⟩
   have:=(hm i).mpr ⟨hi,h1⟩
   cases this
 | [a]=>
   rw [he] at hm
   refine ⟨fun _ i j hi hj h1 h2=>?_,fun _=>by simp⟩
   have e1:=(hm i).mpr ⟨hi,h1⟩
   have e2:=(hm j).mpr ⟨hj,h2⟩
   rw [List.mem_singleton] at e1 e2
   rw [e1,e2]
 | a :: c :: L=>
   rw [he] at hm hn
   refine ⟨fun h=>?_,fun h=>?_⟩
   ·simp at h
   ·exfalso
    have ea:=(hm a).mp (by simp)
    have ec:=(hm c).mp (by simp)
    have:=h a c ea.1 ec.1 ea.2 ec.2
    subst this
    simp at hn
theorem qmo {b:List Int} {x:Int} {f:Nat}:nF b x f<=1 ↔ ∀ r r',r < 9->r' < 9->b.getD (9 * f+r) 0=x->b.getD (9 * f+r') 0=x->r=r':=by
 unfold nF
 rw [quD]
 constructor
 ·intro h r r' hr hr' e e'
  exact h r r' hr hr' (by simpa using e) (by simpa using e')
 ·intro h r r' hr hr' e e'
  exact h r r' hr hr' (by simpa using e) (by simpa using e')
theorem qmp {b:List Int} {x:Int} {f:Nat}:nF b x f=0 ↔ ∀ r,r < 9->b.getD (9 * f+r) 0 ≠ x:=by
 unfold nF
 rw [List.countP_eq_zero]
 constructor
 ·intro h r hr e
  exact h r (List.mem_range.mpr hr) (by simpa using e)
 ·intro h r hr e
  exact h r (List.mem_range.mp hr) (by simpa using e)
theorem qY9 {b:List Int} {s:Int} {k:Nat} (h:KS b s k):nP b (pc s 8)=1:=by
 show qAt (fun i=>b.getD i 0==pc s 8)=1
 rw [qHA]
 exact ⟨k,h.1,fun i hi=>by rw [beq_iff_eq]; exact h.2 i hi⟩
theorem qd5 {b h:List Int} {s:Int} (hl:b.length=81) (hf:qAU h) (hz:qAs b h s=0):Sound b h s:=by
 obtain ⟨hc,_⟩:=qIy hl hz
 obtain ⟨v,hv,hS⟩:=qiH hc hf s
 rw [qcl hl hf] at hv
 exact hS (by rw [<- Option.some.inj hv]; exact hz)
theorem qiY {b h:List Int} {s f t d:Int} {p:Bool} (hl:b.length=81) (hf:qAU h) (hh:h.length=16) (hz:qAs b h s=0) (hm:qz b h s f t d p=true):qAs (mb b s f t d p) (mh b h s t d) (1 - s)=0:=by
 obtain ⟨hc,hs⟩:=qIy hl hz
 have hP:=(qFO hm).2
 have hS:=qd5 hl hf hz
 have hC:=qVG.mp hz
 have hs':1 - s=0 \/ 1 - s=1:=by omega
 obtain ⟨k,hk⟩:=qK4 hz hs
 obtain ⟨k',hk'⟩:=qK4 hz hs'
 have ht:=hP.to_
 have hla:=qFJ hs hP
 have hc2:Clean (mb b s f t d p):=qP1 hc _ _ _ _ _
 have hmv:if d ≠ 0 then (!qDY (16 * s+d) t&&(decide (d ≠ 1)||decide (nF b (16 * s+d) (t.toNat / 9)=0)))=true
   else (rch (at_ b f) f.toNat t.toNat (tk b)&&if p=true then qCq (at_ b f) f t else !qDA (at_ b f) t)=true:=by
  have:=hm
  unfold qz at this
  rw [Bool.and_eq_true] at this
  have:=this.2
  by_cases hd:d=0
  ·rw [if_neg (by simpa using hd)] at this ⊢
   exact this
  ·rw [if_pos hd] at this ⊢
   exact this
 have hhand:∀ j:Int,(j=0 \/ j=1)->∀ i:Int,0<=i->i < 8->(hd_ (mh b h s t d) j i=hd_ h j i \/ (1<=i /\ 0<=hd_ (mh b h s t d) j i)):=by
  intro j hj i i0 i8
  unfold mh
  by_cases hd:d=0
  ·have hmm:=hP.move hd
   rw [if_neg (by simpa using hd)]
   by_cases h0:at_ b t=0
   ·rw [if_pos h0]; exact .inl rfl
   ·rw [if_neg h0]
    have hr:=qIJ ((hc.at_ t).resolve_left h0) hmm.2.2.2.2.2.1
    rw [qFD hh hs (by omega) (by omega) 1 hj i0 i8]
    split
    ·right
     rename_i he
     have h1:=hS.hands (rw_ (kd (at_ b t))) (by omega) (by omega)
     have h2:=hS.counts (rw_ (kd (at_ b t))) (by omega) (by omega)
     have h3:0<=hd_ h s (rw_ (kd (at_ b t))) /\ hd_ h s (rw_ (kd (at_ b t)))<=18:=by
      rcases hs with rfl | rfl <;> omega
     rw [w_8 (by omega) (by omega)]
     omega
    ·exact .inl rfl
  ·have hmm:=hP.drop hd
   rw [if_pos hd,qFD hh hs (by omega) (by omega) (-1) hj i0 i8]
   split
   ·right
    have:=qHF hf s d
    rw [w_8 (by omega) (by omega)]
    omega
   ·exact .inl rfl
 rw [qVG]
 refine ⟨hs',fun i hi=>?_,fun i hi j hj=>?_,?_,fun i i1 i2=>?_,fun i hi=>?_,fun g hg=>?_⟩
 ·unfold bsP
  rw [decide_eq_false_iff_not]
  rintro ⟨h1,h2⟩
  have:=hc2.at_ i
  rw [qAZ (by omega),tn] at this
  exact this.elim h1 (fun h=>h h2)
 ·have h1:=hC.hands i hi j hj
  unfold bsH at h1 ⊢
  rw [decide_eq_false_iff_not] at h1 ⊢
  have h2:=hhand j (by omega) i (by omega) (by omega)
  unfold hd_ at h2
  rw [show (j:Int).toNat * 8+(i:Int).toNat=j * 8+i from rfl] at h2
  omega
 ·have e1:=qY9 (qPI hc hs hP hk)
  have e2:=qY9 (qK3 hc hs hP hk')
  rw [pc8 hs] at e1
  rw [pc8 hs'] at e2
  rcases hs with rfl | rfl
  ·exact ⟨e1,e2⟩
  ·exact ⟨e2,e1⟩
 ·have h1:=hC.over i i1 i2
  unfold qBw at h1 ⊢
  rw [decide_eq_false_iff_not] at h1 ⊢
  have:=qoN hS hf hh hP (k:=(i:Int)) (by omega) (by omega)
  omega
 ·rw [qEO hc hs hP hi]
  by_cases h1:i=t.toNat
  ·rw [if_pos h1,h1]
   unfold laid
   by_cases hd:d=0
   ·rw [if_neg (by simpa using hd)]
    rw [if_neg (by simpa using hd)] at hmv
    have hmm:=hP.move hd
    cases p with
    | true=>
      rw [if_pos rfl]
      obtain ⟨u1,u2,u3⟩:=qIe (hmm.2.2.2.2.2.2 rfl)
      have:9<=up_ (kd (at_ b f)):=by
       have hu:=hmm.2.2.2.2.2.2 rfl
       unfold up_ at hu ⊢
       split
       ·omega
       ·rename_i h; rw [if_neg h] at hu; exact absurd rfl hu
      unfold qA0
      rw [qHU hs u1 u2 u3,decide_eq_false_iff_not]
      omega
    | false=>
      rw [if_neg (by simp)]
      rw [if_neg (by simp),Bool.and_eq_true] at hmv
      have h2:=hmv.2
      cases hdd:qA0 (at_ b f) t.toNat with
      | false=>rfl
      | true=>
        exfalso
        have hk:kd (at_ b f)=1 \/ kd (at_ b f)=2 \/ kd (at_ b f)=3:=by
         have:=of_decide_eq_true hdd
         omega
        unfold qDA at h2
        rw [show t=((t.toNat:Nat):Int) by omega,qOO _ (by omega),hdd] at h2
        have:up_ (kd (at_ b f)) ≠ 0:=by unfold up_; rw [if_pos (by omega)]; omega
        rw [decide_eq_true this] at h2
        cases h2
   ·rw [if_pos hd]
    rw [if_pos hd,Bool.and_eq_true] at hmv
    have h2:=hmv.1
    rw [show t=((t.toNat:Nat):Int) by omega,qOO _ (by omega)] at h2
    simpa using h2
  ·rw [if_neg h1]
   by_cases h2:d=0 /\ i=f.toNat
   ·rw [if_pos h2]
    unfold qA0
    rw [qFG]
    simp
   ·rw [if_neg h2]; exact hC.dead i hi
 ·have key:∀ x:Int,(x=1 \/ x=17)->nF (mb b s f t d p) x g<=1:=by
   intro x hx
   have hxk:kd x=1:=by rcases hx with rfl | rfl <;> decide
   have hold:nF b x g<=1:=by
    have:=hC.nifu g hg
    unfold qBJ at this
    simp only [Bool.or_eq_false_iff,decide_eq_false_iff_not] at this
    rcases hx with rfl | rfl <;> omega
   rw [qmo] at hold ⊢
   have from_:∀ r,r < 9->(mb b s f t d p).getD (9 * g+r) 0=x->(b.getD (9 * g+r) 0=x /\ ¬ (d=0 /\ 9 * g+r=f.toNat)) \/ 9 * g+r=t.toNat:=by
    intro r hr e
    rw [qEO hc hs hP (by omega)] at e
    by_cases h1:9 * g+r=t.toNat
    ·exact .inr h1
    ·rw [if_neg h1] at e
     by_cases h2:d=0 /\ 9 * g+r=f.toNat
     ·rw [if_pos h2] at e
      rcases hx with rfl | rfl <;> omega
     ·rw [if_neg h2] at e
      exact .inl ⟨e,h2⟩
   have lay:∀ r,r < 9->9 * g+r=t.toNat->(mb b s f t d p).getD (9 * g+r) 0=x->∀ r',r' < 9->(b.getD (9 * g+r') 0=x /\ ¬ (d=0 /\ 9 * g+r'=f.toNat))->False:=by
    intro r hr he e r' hr' e'
    rw [qEO hc hs hP (by omega),if_pos he] at e
    unfold laid at e
    by_cases hd:d=0
    ·rw [if_neg (by simpa using hd)] at e hmv
     have hmm:=hP.move hd
     cases p with
     | true=>
       rw [if_pos rfl] at e
       have hu:=hmm.2.2.2.2.2.2 rfl
       obtain ⟨u1,u2,u3⟩:=qIe hu
       have:kd (16 * s+up_ (kd (at_ b f)))=1:=by rw [e,hxk]
       rw [qHU hs u1 u2 u3] at this
       unfold up_ at this
       split at this <;> omega
     | false=>
       rw [if_neg (by simp)] at e
       rw [Bool.and_eq_true] at hmv
       have hr1:=hmv.1
       have hfl:df f.toNat t.toNat=0:=by
        rcases qB0.mp hr1 with h1 | h1
        ·have h2:=of_decide_eq_true h1
         rw [e,hxk] at h2
         unfold qB4 at h2
         omega
        ·have h2:=of_decide_eq_true h1.1
         rw [e,hxk] at h2
         unfold slK at h2
         omega
       unfold df fl at hfl
       have hfe:f.toNat=9 * g+f.toNat % 9:=by omega
       have:b.getD (9 * g+f.toNat % 9) 0=x:=by
        rw [<- hfe,<- qAZ ⟨hmm.1,hmm.2.1⟩]; exact e
       have:=hold (f.toNat % 9) r' (by omega) hr' this e'.1
       exact e'.2 ⟨hd,by omega⟩
    ·rw [if_pos hd] at e hmv
     rw [Bool.and_eq_true] at hmv
     have hdd:=hP.drop hd
     have hd1:d=1:=by rcases hs with rfl | rfl <;> rcases hx with rfl | rfl <;> omega
     have hz0:nF b (16 * s+d) (t.toNat / 9)=0:=by
      have:=hmv.2
      rw [decide_eq_false (p:=d ≠ 1) (by simpa using hd1),Bool.false_or,decide_eq_true_eq] at this
      exact this
     rw [e,show t.toNat / 9=g by omega,qmp] at hz0
     exact hz0 r' hr' e'.1
   intro r r' hr hr' e e'
   rcases from_ r hr e with h1 | h1
   ·rcases from_ r' hr' e' with h2 | h2
    ·exact hold r r' hr hr' h1.1 h2.1
    ·exact (lay r' hr' h2 e' r hr h1).elim
   ·rcases from_ r' hr' e' with h2 | h2
    ·exact (lay r hr h1 e r' hr' h2).elim
    ·omega
  unfold qBJ
  have k1:=key 1 (.inl rfl)
  have k2:=key 17 (.inr rfl)
  rw [decide_eq_false (by omega),decide_eq_false (by omega)]
  rfl
theorem qgO {b h:List Int} {s f t d:Int} {p:Bool} (hl:b.length=81) (hf:qAU h) (hh:h.length=16) (hz:qAs b h s=0) (hm:qz b h s f t d p=true) (hsafe:inC (mb b s f t d p) s=false):qB6 (mb b s f t d p) (mh b h s t d) (1 - s)=0:=by
 have h1:=qiY hl hf hh hz hm
 unfold qB6
 rw [if_neg (by rw [h1]; simp),show 1 - (1 - s)=s by omega,hsafe]
 rfl
theorem qTd {b h:List Int} {s:Int} (hz:qB6 b h s=0):qAs b h s=0:=by
 unfold qB6 at hz
 split at hz
 ·rename_i h; exact absurd hz h
 ·rename_i h; simpa using h
end Go.Kk.Pl
namespace Go.Kk.Pl
end Go.Kk.Pl
namespace Go.Kk.Pl
theorem qkA (h:List Int) (s k:Nat) (hk:k < 8):(List.take 8 (List.drop (s * 7+s) h)).getD k 0=h.getD (s * 8+k) 0:=by
 rw [List.getD_eq_getElem?_getD,List.getD_eq_getElem?_getD,List.getElem?_take,if_pos hk,List.getElem?_drop,show s * 7+s+k=s * 8+k by omega]
abbrev B64:=BitVec 64
def bv (n:Int):B64:=BitVec.ofInt 64 n
def un (x:B64):Int:=(x.toNat:Int)
theorem qBT (x:B64):bv (un x)=x:=by
 unfold bv un
 rw [BitVec.ofInt_natCast,BitVec.ofNat_toNat]; simp
theorem qEn (a b:Int):qF .xor .u64 a b=un (bv a ^^^ bv b):=by
 show IntKind.wrap .u64 _=_
 have h:IntKind.wrap .u64 ((BitVec.ofInt 64 a ^^^ BitVec.ofInt 64 b).toNat:Int)=((BitVec.ofInt 64 a ^^^ BitVec.ofInt 64 b).toNat:Int):=
  qBD (by show (0:Int)<=_; omega) (by show _<=(18446744073709551615:Int); have:=(BitVec.ofInt 64 a ^^^ BitVec.ofInt 64 b).isLt; omega)
 exact h
def pcB (q x:Int):B64:=bv ((qCB q x).getD 0)
def hnB (s k n:Int):B64:=bv ((qCn s k n).getD 0)
def sdB:B64:=bv (qCp.getD 0)
theorem qO1 (x:Int):∃ v:B64,qDg x=some (un v):=by
 unfold qDg
 rw [qEn]
 exact ⟨_,rfl⟩
theorem qTG {m:Option Int} (h:∃ v:B64,m=some (un v)):m=some (un (bv (m.getD 0))):=by
 obtain ⟨v,rfl⟩:=h
 simp [qBT]
theorem qKU {b:Bool} {x y:Option Int} (hx:∃ v:B64,x=some (un v)) (hy:∃ v:B64,y=some (un v)):∃ v:B64,br b x y=some (un v):=by cases b <;> assumption
theorem qZF {α:Type} {m:Option α} {k:α->Option Int} (hm:∃ v,m=some v) (hk:∀ a,m=some a->∃ v:B64,k a=some (un v)):∃ v:B64,ob m k=some (un v):=by
 obtain ⟨a,rfl⟩:=hm
 exact hk a rfl
theorem qWu (q x:Int):qCB q x=some (un (pcB q x)):=qTG (by
 unfold qCB
 refine qZF (qXQ _) fun a _=>?_
 refine qKU ⟨0,rfl⟩ (qKU ⟨0,rfl⟩ (qKU ⟨0,rfl⟩ (qZF (qLR _) fun a ha=>?_)))
 obtain ⟨v,hv⟩:=qO1 _
 rw [hv] at ha
 cases ha
 exact ⟨v,rfl⟩)
theorem qWt (s k n:Int):qCn s k n=some (un (hnB s k n)):=qTG (by
 have tail:∀ x:Int,∃ v:B64,(ob (qDg x) fun r=>some r)=some (un v):=fun x=>by
  obtain ⟨v,hv⟩:=qO1 x
  exact ⟨v,by rw [hv]; rfl⟩
 unfold qCn
 repeat first | exact ⟨0,rfl⟩ | exact tail _ | apply qKU)
theorem qWv:qCp=some (un sdB):=qTG (by
 unfold qCp
 obtain ⟨v,hv⟩:=qO1 1048576
 exact ⟨v,by rw [hv]; rfl⟩)
def qAa (b:List Int):Nat->B64
 | 0=>0
 | n+1=>qAa b n ^^^ pcB n (b.getD n 0)
def qBH (h:List Int) (s:Nat):Nat->B64
 | 0=>0
 | n+1=>qBH h s n ^^^ hnB s n (conv .i8 .i64 (h.getD (s * 8+n) 0))
def qDc (h:List Int):B64:=qBH h 0 8 ^^^ qBH h 1 8
theorem qfr (a b:B64):a ^^^ (b ^^^ a)=b:=by rw [BitVec.xor_comm b a,<- BitVec.xor_assoc,BitVec.xor_self,BitVec.zero_xor]
theorem qhx:∀ (n:Nat) (q:Nat) (acc:B64) (b c d:List Int) (e:Int) (f:Nat),q+n=81->
  qCR (f+n+1) (un acc) b q c d e=some (un (acc ^^^ qAa b q ^^^ qAa b 81),c,d,e):=by
 intro n
 induction n with
 | zero=>
   intro q acc b c d e f hq
   have:q=81:=by omega
   subst this
   show qDe (qCR (f+0)) (un acc) b _ c d e=_
   unfold qDe
   rw [qP (by decide),BitVec.xor_assoc,BitVec.xor_self,BitVec.xor_zero]
 | succ n ih=>
   intro q acc b c d e f hq
   show qDe (qCR (f+n+1)) (un acc) b q c d e=_
   unfold qDe
   rw [qG (by simp; omega),qG (qAO (by omega) (by omega))]
   simp only [cond_true,Int.toNat_natCast]
   rw [qWu]
   show qCR (f+n+1) (qF .xor .u64 (un acc) (un (pcB q (b.getD q 0)))) b (IntKind.wrap .i64 ((q:Int)+1)) c d e=_
   rw [qAN (by omega) (by omega),qEn,qBT,qBT]
   have:=ih (q+1) (acc ^^^ pcB q (b.getD q 0)) b c d e f (by omega)
   rw [Int.natCast_add] at this
   rw [show ((q:Int)+1)=(q:Int)+(1:Nat) from rfl,this]
   congr 3
   show acc ^^^ pcB q (b.getD q 0) ^^^ (qAa b q ^^^ pcB q (b.getD q 0)) ^^^ qAa b 81=_
   rw [BitVec.xor_assoc acc,qfr]
theorem qkF (s:Nat):∀ (n:Nat) (k:Nat) (acc:B64) (h x2:List Int) (x3:Int) (x6 x7:List Int) (x8:Int) (f:Nat),k+n=8->
  qCo (f+n+1) (un acc) s x2 x3 (List.take 8 (List.drop (s * 7+s) h)) k x6 x7 x8=some (un (acc ^^^ qBH h s k ^^^ qBH h s 8),x2,x3,x6,x7,x8):=by
 intro n
 induction n with
 | zero=>
   intro k acc h x2 x3 x6 x7 x8 f hk
   have:k=8:=by omega
   subst this
   show qDd (qCo (f+0)) (un acc) s x2 x3 _ _ x6 x7 x8=_
   unfold qDd
   rw [qP (by decide),BitVec.xor_assoc,BitVec.xor_self,BitVec.xor_zero]
 | succ n ih=>
   intro k acc h x2 x3 x6 x7 x8 f hk
   show qDd (qCo (f+n+1)) (un acc) s x2 x3 _ k x6 x7 x8=_
   unfold qDd
   rw [qG (by simp; omega),qG (qAO (by omega) (by omega))]
   simp only [cond_true,Int.toNat_natCast]
   rw [qkA h s k (by omega),qWt]
   show qCo (f+n+1) (qF .xor .u64 (un acc) (un (hnB s k (conv .i8 .i64 (h.getD (s * 8+k) 0))))) s x2 x3 _ (IntKind.wrap .i64 ((k:Int)+1)) x6 x7 x8=_
   rw [qAN (by omega) (by omega),qEn,qBT,qBT]
   have:=ih (k+1) (acc ^^^ hnB s k (conv .i8 .i64 (h.getD (s * 8+k) 0))) h x2 x3 x6 x7 x8 f (by omega)
   rw [Int.natCast_add] at this
   rw [show ((k:Int)+1)=(k:Int)+(1:Nat) from rfl,this]
   congr 3
   show acc ^^^ hnB s k (conv .i8 .i64 (h.getD (s * 8+k) 0)) ^^^ (qBH h s k ^^^ hnB s k (conv .i8 .i64 (h.getD (s * 8+k) 0))) ^^^ qBH h s 8=_
   rw [BitVec.xor_assoc acc,qfr]
theorem qkH (acc:B64) (h c:List Int) (e:Int):qBu qB (un acc) h 0 c h e=some (un (acc ^^^ qDc h),c,h,e):=by
 obtain ⟨f,hf⟩:=qh 2 (by omega)
 obtain ⟨g,hg⟩:=qh 8 (by omega)
 have step:∀ (s:Nat) (hs:s < 2) (acc:B64) (f:Nat),qBu (f+1) (un acc) h s c h e=qBu f (un (acc ^^^ qBH h s 8)) h (s+1:Nat) c h e:=by
  intro s hs acc f
  show qDf (qBu f) (un acc) h s c h e=_
  unfold qDf
  rw [qG (by simp; omega),qG (qAO (by omega) (by omega)),hg]
  show ob (qCo (g+8+1) (un acc) s h s (List.take 8 (List.drop (Int.toNat s * 7+Int.toNat s) h)) (0:Nat) c h e) _=_
  rw [Int.toNat_natCast,qkF s 8 0 acc h h s c h e g (by omega)]
  show qBu f (un (acc ^^^ 0 ^^^ qBH h s 8)) h (IntKind.wrap .i64 ((s:Int)+1)) c h e=_
  have z:acc ^^^ (0:B64)=acc:=by simp
  rw [qAN (by omega) (by omega),z]
  rfl
 rw [hf]
 have e1:=step 0 (by omega) acc (f+2)
 have e2:=step 1 (by omega) (acc ^^^ qBH h 0 8) (f+1)
 rw [show f+2+1=f+2+1 from rfl,show (0:Int)=((0:Nat):Int) from rfl,e1]
 rw [show f+2=f+1+1 from rfl,e2]
 show qDf (qBu f) _ h 2 c h e=_
 unfold qDf
 rw [qP (by decide),BitVec.xor_assoc]
 rfl
def qAW (b h:List Int) (s:Int):B64:=bif s==1 then qAa b 81 ^^^ qDc h ^^^ sdB else qAa b 81 ^^^ qDc h
theorem qkU (b h:List Int) (s:Int):qEL b h s=some (un (qAW b h s)):=by
 obtain ⟨g,hg⟩:=qh 81 (by omega)
 have e2:qCR qB 0 b 0 b h s=some (un (qAa b 81),b,h,s):=by
  rw [hg]
  have:=qhx 81 0 0 b b h s g (by omega)
  rw [show (0:B64) ^^^ qAa b 0 ^^^ qAa b 81=qAa b 81 by show (0:B64) ^^^ 0 ^^^ _=_; simp] at this
  exact this
 unfold qEL
 rw [e2]
 show ob (qBu qB (un (qAa b 81)) h 0 b h s) _=_
 rw [qkH]
 show br (s==1) (ob qCp fun r10=>some (qF .xor .u64 (un (qAa b 81 ^^^ qDc h)) r10)) (some (un (qAa b 81 ^^^ qDc h)))=_
 unfold qAW
 cases hs:s==1
 ·rfl
 ·rw [qWv]
  show some (qF .xor .u64 _ _)=_
  rw [qEn,qBT,qBT]
  rfl
theorem qg6 (b:List Int) (i:Nat) (x:Int) (hi:i < b.length):∀ n,qAa (b.set i x) n=if i < n then qAa b n ^^^ pcB i (b.getD i 0) ^^^ pcB i x else qAa b n:=by
 intro n
 induction n with
 | zero=>rfl
 | succ n ih=>
   show qAa (b.set i x) n ^^^ pcB n ((b.set i x).getD n 0)=_
   rw [ih]
   rcases Nat.lt_trichotomy i n with h | h | h
   ·rw [if_pos h,if_pos (by omega)]
    have:(b.set i x).getD n 0=b.getD n 0:=by
     rw [List.getD_eq_getElem?_getD,List.getD_eq_getElem?_getD,List.getElem?_set_ne (by omega)]
    rw [this]
    show qAa b n ^^^ pcB i (b.getD i 0) ^^^ pcB i x ^^^ pcB n (b.getD n 0)=qAa b n ^^^ pcB n (b.getD n 0) ^^^ pcB i (b.getD i 0) ^^^ pcB i x
    ac_rfl
   ·subst h
    rw [if_neg (by omega),if_pos (by omega)]
    have:(b.set i x).getD i 0=x:=by
     rw [List.getD_eq_getElem?_getD,List.getElem?_set_self hi]; rfl
    rw [this]
    show qAa b i ^^^ pcB i x=qAa b i ^^^ pcB i (b.getD i 0) ^^^ pcB i (b.getD i 0) ^^^ pcB i x
    rw [BitVec.xor_assoc (qAa b i),BitVec.xor_self,BitVec.xor_zero]
   ·rw [if_neg (by omega),if_neg (by omega)]
    have:(b.set i x).getD n 0=b.getD n 0:=by
     rw [List.getD_eq_getElem?_getD,List.getD_eq_getElem?_getD,List.getElem?_set_ne (by omega)]
    rw [this]
    rfl
theorem qWk (h:List Int) (s0 k0:Nat) (x:Int) (hk:k0 < 8) (hi:s0 * 8+k0 < h.length) (s:Nat):∀ n,n<=8->qBH (h.set (s0 * 8+k0) x) s n =
  if s=s0 /\ k0 < n then qBH h s n ^^^ hnB s0 k0 (conv .i8 .i64 (h.getD (s0 * 8+k0) 0)) ^^^ hnB s0 k0 (conv .i8 .i64 x) else qBH h s n:=by
 intro n
 induction n with
 | zero=>intro _; rw [if_neg (by omega)]; rfl
 | succ n ih=>
   intro hn
   show qBH (h.set (s0 * 8+k0) x) s n ^^^ hnB s n (conv .i8 .i64 ((h.set (s0 * 8+k0) x).getD (s * 8+n) 0))=_
   rw [ih (by omega)]
   by_cases hq:s * 8+n=s0 * 8+k0
   ·have e1:s=s0:=by omega
    have e2:n=k0:=by omega
    subst e1
    subst e2
    rw [if_neg (by omega),if_pos (by omega)]
    have:(h.set (s * 8+n) x).getD (s * 8+n) 0=x:=by
     rw [List.getD_eq_getElem?_getD,List.getElem?_set_self hi]; rfl
    rw [this]
    show qBH h s n ^^^ hnB s n (conv .i8 .i64 x)=qBH h s n ^^^ hnB s n (conv .i8 .i64 (h.getD (s * 8+n) 0)) ^^^ hnB s n (conv .i8 .i64 (h.getD (s * 8+n) 0)) ^^^ hnB s n (conv .i8 .i64 x)
    rw [BitVec.xor_assoc (qBH h s n),BitVec.xor_self,BitVec.xor_zero]
   ·have:(h.set (s0 * 8+k0) x).getD (s * 8+n) 0=h.getD (s * 8+n) 0:=by
     rw [List.getD_eq_getElem?_getD,List.getD_eq_getElem?_getD,List.getElem?_set_ne (by omega)]
    rw [this]
    by_cases hc:s=s0 /\ k0 < n
    ·rw [if_pos hc,if_pos (by omega)]
     show _=qBH h s n ^^^ hnB s n (conv .i8 .i64 (h.getD (s * 8+n) 0)) ^^^ _ ^^^ _
     ac_rfl
    ·rw [if_neg hc,if_neg (by omega)]
     rfl
theorem qkG (h:List Int) (s0 k0:Nat) (x:Int) (hs:s0 < 2) (hk:k0 < 8) (hh:h.length=16):
  qDc (h.set (s0 * 8+k0) x)=qDc h ^^^ hnB s0 k0 (conv .i8 .i64 (h.getD (s0 * 8+k0) 0)) ^^^ hnB s0 k0 (conv .i8 .i64 x):=by
 unfold qDc
 rw [qWk h s0 k0 x hk (by omega) 0 8 (Nat.le_refl _),qWk h s0 k0 x hk (by omega) 1 8 (Nat.le_refl _)]
 have:s0=0 \/ s0=1:=by omega
 rcases this with rfl | rfl
 ·rw [if_pos (by omega),if_neg (by omega)]; ac_rfl
 ·rw [if_neg (by omega),if_pos (by omega)]; ac_rfl
theorem qK2 (b h:List Int) (s:Int):kof b h s=un (qAW b h s):=by unfold kof; rw [qkU]; rfl
theorem qXR (q x:Int):kp q x=un (pcB q x):=by unfold kp; rw [qWu]; rfl
theorem qXP (s k n:Int):kh s k n=un (hnB s k n):=by unfold kh; rw [qWt]; rfl
theorem qk5:qJB=un sdB:=by unfold qJB; rw [qWv]; rfl
theorem qnz {q x:Int} (h:kd x=0):pcB q x=pcB q 0:=by
 have e:∀ y,kd y=0->qCB q y=some 0:=by
  intro y hy
  unfold qCB
  rw [qBV,qA,hy]
  rfl
 unfold pcB
 rw [e x h,e 0 qFG]
theorem qkY {b:List Int} (hl:b.length=81) {q:Int} (hq:0<=q /\ q < 81) (x:Int) (h:List Int) (s:Int):qAW (put b q x) h s=qAW b h s ^^^ pcB q (at_ b q) ^^^ pcB q x:=by
 have e:pcB q (if kd x=0 then 0 else x)=pcB q x:=by
  split
  ·rename_i h; exact (qnz h).symm
  ·rfl
 unfold qAW put at_
 rw [if_pos hq,if_pos hq]
 revert e
 generalize (if kd x=0 then 0 else x)=y
 intro e
 have qx:=qg6 b q.toNat y (by omega) 81
 rw [if_pos (show q.toNat < 81 by omega),show ((q.toNat:Nat):Int)=q by omega,e] at qx
 rw [qx]
 cases s==1 <;> simp only [cond_true,cond_false] <;> ac_rfl
theorem qkX {h:List Int} (hh:h.length=16) {s k:Int} (hs:s=0 \/ s=1) (k0:0<=k) (k1:k < 8) (d:Int) (b:List Int) (S:Int):
  qAW b (qx h s k d) S=qAW b h S ^^^ hnB s k (hd_ h s k) ^^^ hnB s k (IntKind.wrap .i8 (hd_ h s k+d)):=by
 have e2:∀ x,conv .i8 .i64 x=x:=fun _=>rfl
 have hset':=qkG h s.toNat k.toNat (IntKind.wrap .i8 (hd_ h s k+d)) (by omega) (by omega) hh
 rw [e2,e2,show ((s.toNat:Nat):Int)=s by omega,show ((k.toNat:Nat):Int)=k by omega] at hset'
 unfold qAW qx
 rw [hset']
 unfold hd_
 cases S==1 <;> simp only [cond_true,cond_false] <;> ac_rfl
theorem qkZ {s:Int} (hs:s=0 \/ s=1) (b h:List Int):qAW b h (1 - s)=qAW b h s ^^^ sdB:=by
 rcases hs with rfl | rfl
 ·rfl
 ·show qAa b 81 ^^^ qDc h=qAa b 81 ^^^ qDc h ^^^ sdB ^^^ sdB
  rw [BitVec.xor_assoc _ sdB,BitVec.xor_self,BitVec.xor_zero]
theorem qHV {b:List Int} (hl:b.length=81) {q:Int} (hq:0<=q /\ q < 81) (x:Int) (h:List Int) (s:Int):qCS (un (qAW b h s)) b q x=un (qAW (put b q x) h s):=by
 unfold qCS
 rw [qXR,qXR,qEn,qEn,qBT,qBT,qBT,qBT,qkY hl hq,BitVec.xor_assoc]
theorem qPG {h:List Int} (hh:h.length=16) {s k:Int} (hs:s=0 \/ s=1) (k0:0<=k) (k1:k < 8) {d:Int} (b:List Int) (S:Int) (r0:-128<=hd_ h s k+d) (r1:hd_ h s k+d<=127):
  qFI (un (qAW b h S)) h s k d=un (qAW b (qx h s k d) S):=by
 unfold qFI
 rw [qXP,qXP,qEn,qEn,qBT,qBT,qBT,qBT,qkX hh hs k0 k1,BitVec.xor_assoc,qAN (by omega) (by omega),qFw r0 r1]
theorem qK6 {s:Int} (hs:s=0 \/ s=1) (b h:List Int):qK5 (un (qAW b h s))=un (qAW b h (1 - s)):=by
 unfold qK5
 rw [qk5,qEn,qBT,qBT,qkZ hs]
theorem qmL {b h:List Int} {s:Int} (hS:Sound b h s) (hf:qAU h) (hh:h.length=16) {f t d:Int} {p:Bool} (hP:CanP b h s f t d p):
  qHi (kof b h s) b h s f t d p=kof (mb b s f t d p) (mh b h s t d) (1 - s):=by
 rw [qK2,qK2]
 unfold qHi mb mh
 by_cases hd:d=0
 ·obtain ⟨f0,f1,f2,g1,g2,g3,g4⟩:=hP.move hd
  simp only [if_neg (show ¬ (d ≠ 0) from fun h=>h hd)]
  rw [qHV hS.clean.len ⟨f0,f1⟩,qHV (hS.clean.put f 0).len hP.to_]
  by_cases ht:at_ b t=0
  ·simp only [if_pos ht]
   rw [qK6 hS.side]
  ·have hk:=(hS.clean.at_ t).resolve_left ht
   obtain ⟨r1,r2⟩:=qIJ hk g3
   have hc:=hS.counts _ r1 r2
   have h0:=hS.hands (rw_ (kd (at_ b t))) (by omega) r2
   have hsd:=hS.side
   simp only [if_neg ht]
   rw [qPG hh hS.side (by omega) r2 _ _ (by rcases hsd with rfl | rfl <;> omega) (by rcases hsd with rfl | rfl <;> omega),qK6 hS.side]
 ·obtain ⟨d0,d1,d2,d3,g1,g2⟩:=hP.drop hd
  have hb:=qHF hf s d
  simp only [if_pos (show d ≠ 0 from hd)]
  rw [qPG hh hS.side (by omega) d1 _ _ (by omega) (by omega),qHV hS.clean.len hP.to_,qK6 hS.side]
end Go.Kk.Pl
namespace Go.Kk.Pl
structure Going (b h:List Int) (s:Int):Prop where
 sound:Sound b h s
 fits:qAU h
 len:h.length=16
end Go.Kk.Pl
namespace Go.Kk.Pl
theorem qUw {b c:List Int} (hb:b.length=81) (hc:c.length=81) (h:∀ q,0<=q->q < 81->at_ b q=at_ c q):b=c:=by
 refine List.ext_getElem (by rw [hb,hc]) fun j h1 h2=>?_
 have:=h j (by omega) (by omega)
 unfold at_ at this
 rw [if_pos (by omega),if_pos (by omega),Int.toNat_natCast,List.getD_eq_getElem?_getD,List.getD_eq_getElem?_getD,List.getElem?_eq_getElem h1,List.getElem?_eq_getElem h2] at this
 exact this
theorem qVM {b:List Int} (hc:Clean b) (q:Int):(if kd (at_ b q)=0 then 0 else at_ b q)=at_ b q:=by
 rcases hc.at_ q with h | h
 ·rw [h]; rfl
 ·rw [if_neg h]
theorem qgo {b:List Int} (hc:Clean b) {t:Int} (ht:0<=t /\ t < 81) (h0:at_ b t=0) (x:Int):put (put b t x) t 0=b:=by
 refine qUw ((hc.put _ _).put _ _).len hc.len fun q q0 q1=>?_
 rw [qDR (hc.put _ _).len ht,qDR hc.len ht]
 split
 ·rename_i e; subst e; rw [h0]; rfl
 ·rfl
theorem qgq {b:List Int} (hc:Clean b) {f t:Int} (hf:0<=f /\ f < 81) (ht:0<=t /\ t < 81) (x:Int):put (put (put (put b f 0) t x) t (at_ b t)) f (at_ b f)=b:=by
 have c1:=hc.put f 0
 have c2:=c1.put t x
 have c3:=c2.put t (at_ b t)
 refine qUw (c3.put _ _).len hc.len fun q q0 q1=>?_
 rw [qDR c3.len hf,qDR c2.len ht,qDR c1.len ht,qDR hc.len hf,qVM hc,qVM hc]
 split
 ·rename_i e; subst e; rfl
 ·split
  ·rename_i e; subst e; rfl
  ·rfl
theorem qOw {h:List Int} (hl:h.length=16) {s k:Int} (hs:s=0 \/ s=1) (k0:0<=k) (k1:k < 8) {d:Int} (r0:-128<=hd_ h s k /\ hd_ h s k<=127) (r1:-128<=hd_ h s k+d /\ hd_ h s k+d<=127):
  qx (qx h s k d) s k (-d)=h:=by
 have e:=qFD hl hs k0 k1 d hs k0 k1
 rw [if_pos ⟨rfl,rfl⟩,qFw r1.1 r1.2] at e
 rw [show qx (qx h s k d) s k (-d)=(qx h s k d).set (s.toNat * 8+k.toNat) (IntKind.wrap .i8 (hd_ (qx h s k d) s k+-d)) from rfl,e,show hd_ h s k+d+-d=hd_ h s k by omega,qFw r0.1 r0.2]
 have hi:s.toNat * 8+k.toNat < h.length:=by rcases hs with rfl | rfl <;> simp <;> omega
 have hg:hd_ h s k=h[s.toNat * 8+k.toNat]:=by
  unfold hd_
  rw [List.getD_eq_getElem?_getD,List.getElem?_eq_getElem hi]
  rfl
 unfold qx
 rw [List.set_set,hg,List.set_getElem_self]
end Go.Kk.Pl
namespace Go.Kk.Pl
theorem qHS {b:List Int} (hc:Clean b) (q x K:Int) (n:Nat) (h:List Int) (s:Int) (m:Nat) (st:List (List Int)):
  qB9 q x K n b h s (qN b) (qQ b) m st=some (qCS K b q x,n,put b q x,h,s,qN (put b q x),qQ (put b q x),m,st):=by
 unfold qB9
 simp only [qCy,qA,qk4,qQX hc]
 rfl
theorem qkD {b:List Int} (hc:Clean b) (h:List Int) (s:Int):qHB b h s=some (kof b h s,0,b,h,s,qN b,qQ b,0,[]):=by
 unfold qHB
 rw [qQF hc.len,qOI hc,qA]
 simp only
 rw [qk3,qA]
theorem qmA {b:List Int} (hc:Clean b) (h:List Int) {s:Int} (hs:s=0 \/ s=1) (f t d:Int) (p:Bool):∃ c,(∀ K n m st,qEG f t d p K n b h s (qN b) (qQ b) m st=some c) /\
  ((c=false /\ ∀ K n m st,qC5 f t d p K n b h s (qN b) (qQ b) m st=some (.inl (false,K,n,b,h,s,qN b,qQ b,m,st))) \/
   (c=true /\ CanP b h s f t d p /\ ∀ K n m st,(n+1) * 40<=140737488355328->qC5 f t d p K n b h s (qN b) (qQ b) m st =
    some (.inr (true,qHi K b h s f t d p,n+1,mb b s f t d p,mh b h s t d,1 - s,qN (mb b s f t d p),qQ (mb b s f t d p),n+1,List.append (List.take n st) [[f,t,d,bi p,at_ b t,was b s f d]])))):=by
 obtain ⟨c,hcan,hP⟩:=qiC b h hs f t d p
 refine ⟨c,fun K n m st=>hcan K n _ _ m st,?_⟩
 cases c with
 | false=>
   refine .inl ⟨rfl,fun K n m st=>?_⟩
   unfold qC5
   rw [hcan,qA,qG (by rfl)]
 | true=>
   have hP:=hP rfl
   refine .inr ⟨rfl,hP,fun K n m st hn=>?_⟩
   have hn':decide ((n+1) * 40<=140737488355328)=true:=by simpa using hn
   unfold qC5
   rw [hcan,qA,qP (by rfl),qCy,qA]
   by_cases hd:d=0
   ·obtain ⟨f0,f1,f2,g1,g2,g3,g4⟩:=hP.move hd
    rw [qP (by simpa using hd),qCy,qA]
    have hx:∀ {α:Type} (k:Int->Option α),(br p (ob (qAC (at_ b f)) fun a16=>ob (qCt a16) fun a17=>ob (qAi s a17) k) (k (at_ b f)))=k (laid b s f d p):=by
     intro α k
     unfold laid
     rw [if_neg (by simpa using hd)]
     cases p with
     | false=>rfl
     | true=>
       obtain ⟨u1,u2,u3⟩:=qIe (g4 rfl)
       rw [qG rfl,qBV,qA,qJ3,qA,qLZ hs u1 u2 u3,qA,if_pos rfl]
    have p1:=qHS hc f 0 K n h s m st
    have p2:=qHS (hc.put f 0) t (laid b s f d p) (qCS K b f 0) n h s m st
    have tail:(br (at_ b t != 0)
      (ob (qAC (at_ b t)) fun a37=>
      ob (qCs a37) fun a38=>
      ob (qDZ s a38 1 (qCS (qCS K b f 0) (put b f 0) t (laid b s f d p)) n (put (put b f 0) t (laid b s f d p)) h s (qN (put (put b f 0) t (laid b s f d p))) (qQ (put (put b f 0) t (laid b s f d p))) m st) fun (a39_0,a39_1,a39_2,a39_3,a39_4,a39_5,a39_6,a39_7,a39_8)=>
      ob (qCi a39_0 a39_1 a39_2 a39_3 a39_4 a39_5 a39_6 a39_7 a39_8) fun (a48_0,a48_1,a48_2,a48_3,a48_4,a48_5,a48_6,_,a48_8)=>
      br (decide ((a48_1+1) * 40<=140737488355328))
       (some (Sum.inr (true,a48_0,a48_1+1,a48_2,a48_3,a48_4,a48_5,a48_6,a48_1+1,List.append (List.take a48_1 a48_8) [[f,t,d,bi p,at_ b t,at_ b f]])))
       (none))
      (ob (qCi (qCS (qCS K b f 0) (put b f 0) t (laid b s f d p)) n (put (put b f 0) t (laid b s f d p)) h s (qN (put (put b f 0) t (laid b s f d p))) (qQ (put (put b f 0) t (laid b s f d p))) m st) fun (a37_0,a37_1,a37_2,a37_3,a37_4,a37_5,a37_6,_,a37_8)=>
      br (decide ((a37_1+1) * 40<=140737488355328))
       (some (Sum.inr (true,a37_0,a37_1+1,a37_2,a37_3,a37_4,a37_5,a37_6,a37_1+1,List.append (List.take a37_1 a37_8) [[f,t,d,bi p,at_ b t,at_ b f]])))
       (none)):Option ((Bool×Int×Nat×List Int×List Int×Int×List (List Int)×List (List Int)×Nat×List (List Int)) ⊕ (Bool×Int×Nat×List Int×List Int×Int×List (List Int)×List (List Int)×Nat×List (List Int)))) =
      some (.inr (true,qHi K b h s f t d p,n+1,mb b s f t d p,mh b h s t d,1 - s,qN (mb b s f t d p),qQ (mb b s f t d p),n+1,List.append (List.take n st) [[f,t,d,bi p,at_ b t,was b s f d]])):=by
     unfold qHi mb mh was
     by_cases ht:at_ b t=0
     ·rw [qP (by simpa using ht),qKt hs,qA]
      simp only
      rw [qG hn']
      simp [hd,ht]
     ·have hk:=(hc.at_ t).resolve_left ht
      obtain ⟨r1,r2⟩:=qIJ hk g3
      obtain ⟨k1,k2,k3⟩:=qBt (at_ b t)
      rw [qG (by simpa using ht),qBV,qA,qQZ k1 k2,qA,qKs hs r1 r2 1 (.inl rfl),qA]
      simp only
      rw [qKt hs,qA]
      simp only
      rw [qG hn']
      simp [hd,ht]
    refine Eq.trans ?_ tail
    cases p with
    | true=>
      have hx:=hx (fun a18=>ob (qB9 f 0 K n b h s (qN b) (qQ b) m st) fun (a19_0,a19_1,a19_2,a19_3,a19_4,a19_5,a19_6,a19_7,a19_8)=>
       ob (qB9 t a18 a19_0 a19_1 a19_2 a19_3 a19_4 a19_5 a19_6 a19_7 a19_8) fun r=>some r)
      rw [qG rfl] at hx ⊢
      obtain ⟨u1,u2,u3⟩:=qIe (g4 rfl)
      have hl:laid b s f d true=16 * s+up_ (kd (at_ b f)):=by unfold laid; rw [if_neg (by simpa using hd),if_pos rfl]
      rw [qBV,qA,qJ3,qA,qLZ hs u1 u2 u3,qA,p1,qA]
      simp only
      rw [<- hl,p2,qA]
    | false=>
      have hl:laid b s f d false=at_ b f:=by unfold laid; rw [if_neg (by simpa using hd),if_neg (by simp)]
      rw [qP rfl,p1,qA]
      simp only
      rw [hl] at p2 ⊢
      rw [p2,qA]
   ·obtain ⟨d0,d1,d2,d3,g1,g2⟩:=hP.drop hd
    have hl:laid b s f d p=16 * s+d:=by unfold laid; rw [if_pos hd]
    have e1:qAi s d=some (laid b s f d p):=by rw [hl]; exact qLZ hs (by omega) (by omega) (by omega)
    have p1:=qHS hc t (laid b s f d p) (qFI K h s d (-1)) n (qx h s d (-1)) s m st
    rw [qG (by simpa using hd),e1,qA,qKs hs (by omega) d1 (-1) (.inr rfl),qA]
    simp only
    rw [p1,qA]
    simp only
    rw [qKt hs,qA]
    simp only
    rw [qG hn']
    unfold qHi mb mh was
    simp only [if_pos hd,hl]
theorem qXJ {h:List Int} (hl:h.length=16) {s k:Int} (hs:s=0 \/ s=1) (k0:0<=k) (k1:k < 8) {d:Int} (b:List Int) (S:Int) (r0:-128<=hd_ h s k /\ hd_ h s k<=127) (r1:-128<=hd_ h s k+d /\ hd_ h s k+d<=127):
  qFI (un (qAW b (qx h s k d) S)) (qx h s k d) s k (-d)=un (qAW b h S):=by
 have e:=qFD hl hs k0 k1 d hs k0 k1
 rw [if_pos ⟨rfl,rfl⟩,qFw r1.1 r1.2] at e
 rw [qPG (by rw [qOx,hl]) hs k0 k1 b S (by omega) (by omega),qOw hl hs k0 k1 r0 r1]
theorem qgp {b h:List Int} {s:Int} (hg:Going b h s) {f t d:Int} {p:Bool} (hP:CanP b h s f t d p) (n:Nat) (hn:n<=1000) (m:Nat) (st:List (List Int))
  (hst:st.getD n []=[f,t,d,bi p,at_ b t,was b s f d]):
  qOQ (un (qAW (mb b s f t d p) (mh b h s t d) (1 - s))) (n+1) (mb b s f t d p) (mh b h s t d) (1 - s) (qN (mb b s f t d p)) (qQ (mb b s f t d p)) m st=some (true,un (qAW b h s),n,b,h,s,qN b,qQ b,m,st):=by
 have hS:=hg.sound
 have hs':1 - s=0 \/ 1 - s=1:=by have:=hS.side; omega
 unfold qOQ
 have e1:IntKind.wrap .i64 (Int.ofNat (n+1) - 1)=(n:Int):=by
  have:Int.ofNat (n+1)=(n:Int)+1:=rfl
  rw [this,qAN (by omega) (by omega)]
  omega
 rw [qP (by simp; omega),e1,qG (qAO (by omega) (by omega)),qG (qkL (by omega) (by omega)),qKt hs',qA,qK6 hs',show (1:Int) - (1 - s)=s by omega]
 simp only [Int.toNat_natCast,hst,Nat.sub_zero]
 simp only [List.take_succ_cons,List.take_zero,List.headD_cons,List.tail_cons]
 by_cases hd:d=0
 ·obtain ⟨f0,f1,f2,g1,g2,g3,g4⟩:=hP.move hd
  have hw:was b s f d=at_ b f:=by unfold was; rw [if_neg (by simpa using hd)]
  have hmb:mb b s f t d p=put (put b f 0) t (laid b s f d p):=by unfold mb; rw [if_neg (by simpa using hd)]
  rw [qP (by simpa using hd),hw,hmb]
  have p1:=qHS ((hS.clean.put f 0).put t (laid b s f d p)) t (at_ b t) (un (qAW (put (put b f 0) t (laid b s f d p)) (mh b h s t d) s)) n (mh b h s t d) s m st
  rw [qHV ((hS.clean.put f 0).put t (laid b s f d p)).len hP.to_] at p1
  have p2:=qHS (((hS.clean.put f 0).put t (laid b s f d p)).put t (at_ b t)) f (at_ b f) (un (qAW (put (put (put b f 0) t (laid b s f d p)) t (at_ b t)) (mh b h s t d) s)) n (mh b h s t d) s m st
  rw [qHV (((hS.clean.put f 0).put t (laid b s f d p)).put t (at_ b t)).len ⟨f0,f1⟩] at p2
  rw [qgq hS.clean ⟨f0,f1⟩ hP.to_] at p2
  rw [p1,qA]
  simp only
  rw [p2,qA]
  simp only
  by_cases ht:at_ b t=0
  ·have hmh:mh b h s t d=h:=by unfold mh; rw [if_neg (by simpa using hd),if_pos ht]
   rw [qP (by simpa using ht),hmh]
  ·have hk:=(hS.clean.at_ t).resolve_left ht
   obtain ⟨r1,r2⟩:=qIJ hk g3
   obtain ⟨k1,k2,k3⟩:=qBt (at_ b t)
   have hc:=hS.counts _ r1 r2
   have h0:=hS.hands (rw_ (kd (at_ b t))) (by omega) r2
   have hsd:=hS.side
   have hmh:mh b h s t d=qx h s (rw_ (kd (at_ b t))) 1:=by unfold mh; rw [if_neg (by simpa using hd),if_neg ht]
   rw [qG (by simpa using ht),qBV,qA,qQZ k1 k2,qA,qKs hS.side r1 r2 (-1) (.inr rfl),qA,hmh,
    qOw hg.len hS.side (by omega) r2 (qHF hg.fits _ _) (by rcases hsd with rfl | rfl <;> constructor <;> omega),
    qXJ hg.len hS.side (by omega) r2 _ _ (qHF hg.fits _ _) (by rcases hsd with rfl | rfl <;> constructor <;> omega)]
 ·obtain ⟨d0,d1,d2,d3,g1,g2⟩:=hP.drop hd
  have hmb:mb b s f t d p=put b t (laid b s f d p):=by unfold mb; rw [if_pos hd]
  have hmh:mh b h s t d=qx h s d (-1):=by unfold mh; rw [if_pos hd]
  have hb:=qHF hg.fits s d
  have p1:=qHS (hS.clean.put t (laid b s f d p)) t 0 (un (qAW (put b t (laid b s f d p)) (mh b h s t d) s)) n (mh b h s t d) s m st
  rw [qHV (hS.clean.put t (laid b s f d p)).len hP.to_] at p1
  rw [qgo hS.clean hP.to_ g2] at p1
  rw [qG (by simpa using hd),hmb,p1,qA]
  simp only
  have hbk:qx (qx h s d (-1)) s d 1=h:=qOw hg.len hS.side (by omega) d1 (d:=-1) hb (by constructor <;> omega)
  rw [qKs hS.side (by omega) d1 1 (.inl rfl),qA,hmh]
  have hky:qFI (un (qAW b (qx h s d (-1)) s)) (qx h s d (-1)) s d 1=un (qAW b h s):=qXJ hg.len hS.side (by omega) d1 (d:=-1) _ _ hb (by constructor <;> omega)
  rw [hbk,hky]
end Go.Kk.Pl
namespace Go.Kk.Pl
structure PosP (b h:List Int) (s:Int):Prop where
 len:b.length=81
 fits:qAU h
 hlen:h.length=16
 zero:qB6 b h s=0
theorem PosP.clean {b h:List Int} {s:Int} (hp:PosP b h s):Clean b:=(qGR hp.len hp.zero).1
theorem PosP.side {b h:List Int} {s:Int} (hp:PosP b h s):s=0 \/ s=1:=(qGR hp.len hp.zero).2.1
theorem PosP.going {b h:List Int} {s:Int} (hp:PosP b h s):Going b h s:=⟨qd5 hp.len hp.fits (qTd hp.zero),hp.fits,hp.hlen⟩
theorem PosP.after {b h:List Int} {s:Int} (hp:PosP b h s) {m:List Int} (hm:m ∈ lgL b h s):PosP (mbM b s m) (mhM b h s m) (1 - s):=by
 obtain ⟨hc,hs,hno,k,k',hk,hk'⟩:=qGR hp.len hp.zero
 obtain ⟨_,hm2,_,hm4⟩:=qXz hc hs hno hk hk' hm
 have hsafe:inC (mb b s (m0 m) (m1 m) (m2 m) (m3 m)) s=false:=by simpa [qBk,mbM] using hm4
 exact ⟨(qP1 hc _ _ _ _ _).1,qmI hp.fits _ _ _ _,qmJ hp.hlen _ _ _ _,qgO hp.len hp.fits hp.hlen (qTd hp.zero) hm2 hsafe⟩
theorem PosP.lists {b h:List Int} {s:Int} (hp:PosP b h s):lgL b h s=rlL b h s:=by
 obtain ⟨hc,hs,hno,k,k',hk,hk'⟩:=qGR hp.len hp.zero
 exact qYU hc h hs hno hk hk'
theorem PosP.all {b h:List Int} {s:Int} (hp:PosP b h s):qHX b h s (qN b) (qQ b)=some ((lgL b h s).length,b,h,s,qN b,qQ b,(lgL b h s).length,lgL b h s):=by
 obtain ⟨hc,hs,hno,k,k',hk,hk'⟩:=qGR hp.len hp.zero
 exact qXb hc h hs hk hk'
theorem PosP.full {b h:List Int} {s:Int} (hp:PosP b h s) {m:List Int} (hm:m ∈ lgL b h s):Mv4 m /\ qz b h s (m0 m) (m1 m) (m2 m) (m3 m)=true:=by
 obtain ⟨hc,hs,hno,k,k',hk,hk'⟩:=qGR hp.len hp.zero
 have:=qXz hc hs hno hk hk' hm
 exact ⟨this.1,this.2.1⟩
end Go.Kk.Pl
namespace Go.Kk.Pl
end Go.Kk.Pl
namespace Go.Kk.Pl
end Go.Kk.Pl
namespace Go.Kk.Pl
end Go.Kk.Pl
namespace Go.Kk.Pl
end Go.Kk.Pl
namespace Go.Kk.Pl
def sqL (q:Nat):List UInt8:=[UInt8.ofNat (49+q / 9),UInt8.ofNat (97+q % 9)]
def ltr (d:Nat):UInt8:=[0,80,76,78,83,71,66,82].getD d 0
def txL (f t d:Nat) (p:Bool):List UInt8:=if d ≠ 0 then [ltr d,42] ++ sqL t else sqL f ++ sqL t ++ (if p then [43] else [])
def bts (l:List UInt8):ByteArray:={ data:={ toList:=l } }
def qBI (l:List UInt8):List Int:=l.map fun x=>Int.ofNat x.toNat
theorem qSc:∀ q,q < 81->qFQ (Int.ofNat q)=some (bts (sqL q)):=by decide +kernel
theorem qd7:∀ q,q < 81->qER (Int.ofNat (UInt8.ofNat (49+q / 9)).toNat) (Int.ofNat (UInt8.ofNat (97+q % 9)).toNat)=some (Int.ofNat q,true):=by decide +kernel
theorem qd6:∀ q,q < 81->(UInt8.ofNat (49+q / 9)).toNat < 128 /\ (UInt8.ofNat (97+q % 9)).toNat < 128 /\ (UInt8.ofNat (97+q % 9)).toNat ≠ 42:=by decide +kernel
theorem qYZ:∀ d,d < 8->d ≠ 0->qAi 0 (Int.ofNat d)=some (Int.ofNat d) /\ qLj (Int.ofNat d)=some (bts [ltr d]) /\ (ltr d).toNat < 128 /\ qJN (Int.ofNat (ltr d).toNat) false=some (Int.ofNat d) /\ qAQ (Int.ofNat d)=some 0 /\ (Int.ofNat d==8)=false:=by decide +kernel
theorem qin {s:ByteArray} {i:Nat} (h:(s.get! i).toNat < 128):Utf8.decode s i=((s.get! i).toNat,1):=by
 unfold Utf8.decode
 simp only [Nat.add_zero]
 rw [if_pos h]
theorem qWh {l:List UInt8} {i:Nat} (hi:i < l.length):(bts l).get! i=l[i]:=by
 show (Array.mk l)[i]! = l[i]
 rw [getElem!_pos _ _ (by simpa using hi)]
 rfl
theorem qnv (l:List UInt8) (hl:l.length<=5) (h:∀ x ∈ l,x.toNat < 128):∀ (n i:Nat),i+n=l.length->∀ F,
  qEQ (F+n+1) i 0 0 0 false i (qBI (l.take i)) (bts l) i=some (l.length,0,0,0,false,l.length,qBI l):=by
 intro n
 induction n with
 | zero=>
   intro i hi F
   show qHj (qEQ (F+0)) _ _ _ _ _ _ _ _ _=_
   unfold qHj
   have e:(bts l).size=l.length:=rfl
   rw [e,qP (by rw [Bool.eq_false_iff,ne_eq,Nat.blt_eq]; omega),List.take_of_length_le (by omega),show i=l.length by omega]
 | succ n ih=>
   intro i hi F
   show qHj (qEQ (F+n+1)) _ _ _ _ _ _ _ _ _=_
   unfold qHj
   have e:(bts l).size=l.length:=rfl
   have hil:i < l.length:=by omega
   have hd:Utf8.decode (bts l) i=(l[i].toNat,1):=by
    rw [qin (by rw [qWh hil]; exact h _ (List.getElem_mem hil)),qWh hil]
   have h6:(Int.ofNat i==6)=false:=by rw [beq_eq_false_iff_ne]; simp only [Int.ofNat_eq_natCast]; omega
   rw [e,qG (by rw [Nat.blt_eq]; omega),qP h6,qCz (by omega)]
   unfold qEF qCh
   rw [hd]
   have e2:List.append (List.take i (qBI (List.take i l))) [Int.ofNat l[i].toNat]=qBI (l.take (i+1)):=by
    unfold qBI
    rw [List.take_of_length_le (by simp; omega),List.append_eq]
    rw [List.take_succ_eq_append_getElem hil,List.map_append]
    rfl
   show qEQ (F+n+1) (i+1) 0 0 0 false (i+1) (List.append (List.take i (qBI (List.take i l))) [Int.ofNat l[i].toNat]) (bts l) (i+1)=_
   rw [e2]
   exact ih (i+1) (by omega) F
theorem qQO (l:List UInt8) (hl:l.length<=5) (h:∀ x ∈ l,x.toNat < 128):qEQ qB 0 0 0 0 false 0 [] (bts l) 0=some (l.length,0,0,0,false,l.length,qBI l):=by
 obtain ⟨g,hg⟩:=qh l.length (by omega)
 have:=qnv l hl h l.length 0 (by omega) g
 rw [<- hg] at this
 exact this
theorem qSr {l:List UInt8} (h:l.length<=1000):decide (Int.ofNat (bts l).size<=qA5)=true:=by
 rw [decide_eq_true_eq]
 unfold qA5
 show ((l.length:Nat):Int)<=_
 omega
structure Nmd (f t d:Nat) (p:Bool):Prop where
 to_:t < 81
 drop:d ≠ 0->d < 8 /\ f=0 /\ p=false
 move:d=0->f < 81 /\ f ≠ t
theorem qI3 {n:Nat} (h:n<=1000):qCb n=true:=by rw [qSp]; unfold qA5; simp only [Int.ofNat_eq_natCast]; omega
theorem qiI {f t d:Nat} {p:Bool} (h:Nmd f t d p):qDh (Int.ofNat f) (Int.ofNat t) (Int.ofNat d) p=some 0:=by
 have:=h.to_
 unfold qDh
 simp only [Int.ofNat_eq_natCast]
 rw [qW (by omega),qP (by simp; omega)]
 by_cases hd:d=0
 ·obtain ⟨h1,h2⟩:=h.move hd
  have e:((f:Int)==(t:Int))=false:=by rw [beq_eq_false_iff_ne]; omega
  rw [qP (by simp [hd]),qW (by omega),qP (by simp; omega),qP e]
 ·obtain ⟨h1,h2,h3⟩:=h.drop hd
  subst h2 h3
  rw [qG (by simp; omega),qW (by omega),qP (by simp; omega),qP (by simp),qP rfl]
theorem qtz {f t d:Nat} {p:Bool} (h:Nmd f t d p):qHk (Int.ofNat f) (Int.ofNat t) (Int.ofNat d) p=some (bts (txL f t d p)):=by
 unfold qHk txL
 rw [qiI h,qA,qP (by rfl)]
 by_cases hd:d=0
 ·obtain ⟨h1,h2⟩:=h.move hd
  subst hd
  rw [qP (by rfl),qSc f h1,qSc t h.to_,if_neg (by simp)]
  simp only [qA]
  cases p with
  | true=>
    rw [b_t,qG (qI3 (by show 4<=1000; omega)),qG (qI3 (by show 5<=1000; omega))]
    rfl
  | false=>
    rw [b_f,qG (qI3 (by show 4<=1000; omega))]
    simp only [Bool.false_eq_true,if_false,List.append_nil]
    rfl
 ·obtain ⟨h1,h2,h3⟩:=h.drop hd
  obtain ⟨e1,e2,e3,e4,e5,e6⟩:=qYZ d h1 hd
  rw [qG (by simp; omega),e1,qA,e2,qA,qG (qI3 (by show 2<=1000; omega)),qSc t h.to_,qA,qG (qI3 (by show 4<=1000; omega)),if_pos hd]
  rfl
theorem qnw {f t d:Nat} {p:Bool} (h:Nmd f t d p):qFP (bts (txL f t d p))=some (Int.ofNat f,Int.ofNat t,Int.ofNat d,p,0):=by
 have st:=qd7 t h.to_
 have at_:=qd6 t h.to_
 by_cases hd:d=0
 ·obtain ⟨h1,h2⟩:=h.move hd
  have sf:=qd7 f h1
  have af:=qd6 f h1
  have e42:(Int.ofNat (UInt8.ofNat (97+f % 9)).toNat==42)=false:=by rw [beq_eq_false_iff_ne]; intro e; exact af.2.2 (by injection e)
  have eft:(Int.ofNat f==Int.ofNat t)=false:=by rw [beq_eq_false_iff_ne]; intro e; exact h2 (by injection e)
  subst hd
  unfold txL
  rw [if_neg (by simp)]
  cases p with
  | true=>
    have hl:∀ x ∈ (sqL f ++ sqL t ++ (if true=true then [43] else []):List UInt8),x.toNat < 128:=by
     intro x hx
     simp only [if_true,sqL,List.cons_append,List.nil_append,List.mem_cons,List.not_mem_nil,or_false] at hx
     rcases hx with rfl | rfl | rfl | rfl | rfl
     ·exact af.1
     ·exact af.2.1
     ·exact at_.1
     ·exact at_.2.1
     ·decide
    unfold qFP
    rw [qG (qSr (by simp [sqL])),qQO _ (by simp [sqL]) hl,qA]
    simp only [if_true,sqL,List.cons_append,List.nil_append,qBI,List.map_cons,List.map_nil,List.length_cons,List.length_nil,List.getD_cons_zero,List.getD_cons_succ]
    rw [qG (by rfl),qP (by rfl),qG (by rfl),qP e42,qG (by rfl),qG (by rfl),sf,qA]
    simp only
    rw [qG (by rfl),qG (by rfl),st,qA]
    simp only
    rw [qP (by rfl),qP (by rfl),qP eft,qG (by rfl),qG (by rfl),qP (by rfl)]
    rfl
  | false=>
    have hl:∀ x ∈ (sqL f ++ sqL t ++ (if false=true then [43] else []):List UInt8),x.toNat < 128:=by
     intro x hx
     simp only [Bool.false_eq_true,if_false,sqL,List.cons_append,List.nil_append,List.mem_cons,List.not_mem_nil,or_false] at hx
     rcases hx with rfl | rfl | rfl | rfl
     ·exact af.1
     ·exact af.2.1
     ·exact at_.1
     ·exact at_.2.1
    unfold qFP
    rw [qG (qSr (by simp [sqL])),qQO _ (by simp [sqL]) hl,qA]
    simp only [Bool.false_eq_true,if_false,sqL,List.cons_append,List.nil_append,qBI,List.map_cons,List.map_nil,List.length_cons,List.length_nil,List.getD_cons_zero,List.getD_cons_succ]
    rw [qP (by rfl),qG (by rfl),qP e42,qG (by rfl),qG (by rfl),sf,qA]
    simp only
    rw [qG (by rfl),qG (by rfl),st,qA]
    simp only
    rw [qP (by rfl),qP (by rfl),qP eft,qP (by rfl)]
    rfl
 ·obtain ⟨h1,h2,h3⟩:=h.drop hd
  obtain ⟨e1,e2,e3,e4,e5,e6⟩:=qYZ d h1 hd
  subst h2 h3
  unfold txL
  rw [if_pos hd]
  have hl:∀ x ∈ ([ltr d,42] ++ sqL t:List UInt8),x.toNat < 128:=by
   intro x hx
   simp only [sqL,List.cons_append,List.nil_append,List.mem_cons,List.not_mem_nil,or_false] at hx
   rcases hx with rfl | rfl | rfl | rfl
   ·exact e3
   ·decide
   ·exact at_.1
   ·exact at_.2.1
  unfold qFP
  rw [qG (qSr (by simp [sqL])),qQO _ (by simp [sqL]) hl,qA]
  simp only [sqL,List.cons_append,List.nil_append,qBI,List.map_cons,List.map_nil,List.length_cons,List.length_nil,List.getD_cons_zero,List.getD_cons_succ]
  rw [qP (by rfl),qG (by rfl),qG (by rfl),qG (by rfl),e4,qA,qG (by rfl),qG (by rfl),st,qA]
  simp only
  rw [e5,qA,qP (by rfl),qP e6,qP (by rfl),qP (by rfl)]
  rfl
end Go.Kk.Pl
namespace Go.Kk.Pl
end Go.Kk.Pl
namespace Go.Kk.Pl
def tx (m:List Int):ByteArray:=bts (txL (m0 m).toNat (m1 m).toNat (m2 m).toNat (m3 m))
theorem qZD {b h:List Int} {s f t d:Int} {p:Bool} (hP:CanP b h s f t d p):f=Int.ofNat f.toNat /\ t=Int.ofNat t.toNat /\ d=Int.ofNat d.toNat /\ Nmd f.toNat t.toNat d.toNat p:=by
 have ht:=hP.to_
 simp only [Int.ofNat_eq_natCast]
 by_cases hd:d=0
 ·obtain ⟨h1,h2,h3,_⟩:=hP.move hd
  exact ⟨by omega,by omega,by omega,by omega,fun h=>by omega,fun _=>⟨by omega,by omega⟩⟩
 ·obtain ⟨h1,h2,h3,h4,_⟩:=hP.drop hd
  exact ⟨by omega,by omega,by omega,by omega,fun _=>⟨by omega,by omega,h4⟩,fun h=>by omega⟩
theorem PosP.canP {b h:List Int} {s:Int} (hp:PosP b h s) {m:List Int} (hm:m ∈ lgL b h s):CanP b h s (m0 m) (m1 m) (m2 m) (m3 m):=(qFO (hp.full hm).2).2
theorem PosP.text {b h:List Int} {s:Int} (hp:PosP b h s) {m:List Int} (hm:m ∈ lgL b h s):qHk (m0 m) (m1 m) (m2 m) (m3 m)=some (tx m):=by
 obtain ⟨e1,e2,e3,hn⟩:=qZD (hp.canP hm)
 have:=qtz hn
 rw [<- e1,<- e2,<- e3] at this
 exact this
theorem PosP.parse {b h:List Int} {s:Int} (hp:PosP b h s) {m:List Int} (hm:m ∈ lgL b h s):qFP (tx m)=some (m0 m,m1 m,m2 m,m3 m,0):=by
 obtain ⟨e1,e2,e3,hn⟩:=qZD (hp.canP hm)
 have:=qnw hn
 rw [<- e1,<- e2,<- e3] at this
 exact this
theorem PosP.apart {b h:List Int} {s:Int} (hp:PosP b h s) {m m':List Int} (hm:m ∈ lgL b h s) (hm':m' ∈ lgL b h s) (e:qAM (tx m)=qAM (tx m')):m=m':=by
 have e:tx m=tx m':=by rw [<- qE5 (tx m),e,qE5]
 have h1:=hp.parse hm
 rw [e,hp.parse hm'] at h1
 simp only [Option.some.injEq,Prod.mk.injEq,and_true] at h1
 obtain ⟨a,b,c,d⟩:=h1
 rw [(hp.full hm).1.1,(hp.full hm').1.1,a,b,c,d]
theorem qtw {A:List (List Int)} {B:List (List Int)} {n j:Nat} (e:B.take n=A.take n) (hj:j < n):B.getD j []=A.getD j []:=by
 have h1:∀ X:List (List Int),(X.take n).getD j []=X.getD j []:=by
  intro X
  rw [List.getD_eq_getElem?_getD,List.getD_eq_getElem?_getD,List.getElem?_take_of_lt hj]
 rw [<- h1 B,<- h1 A,e]
def qFS (b:List Int) (s:Int) (m:List Int):List Int:=[m0 m,m1 m,m2 m,bi (m3 m),at_ b (m1 m),was b s (m0 m) (m2 m)]
theorem PosP.make {b h:List Int} {s:Int} (hp:PosP b h s) {m:List Int} (hm:m ∈ lgL b h s) (n:Nat) (hn:n<=1000) (x:Nat) (st:List (List Int)):
  qC5 (m0 m) (m1 m) (m2 m) (m3 m) (kof b h s) n b h s (qN b) (qQ b) x st =
   some (.inr (true,kof (mbM b s m) (mhM b h s m) (1 - s),n+1,mbM b s m,mhM b h s m,1 - s,qN (mbM b s m),qQ (mbM b s m),n+1,List.append (List.take n st) [qFS b s m])):=by
 obtain ⟨c,hcan,hmk⟩:=qmA hp.clean h hp.side (m0 m) (m1 m) (m2 m) (m3 m)
 have e:qBq b h s (m0 m) (m1 m) (m2 m) (m3 m)=c:=Option.some.inj ((qiB b h hp.side (m0 m) (m1 m) (m2 m) (m3 m) 0 0 (qN b) (qQ b) 0 []).symm.trans (hcan 0 0 0 []))
 rw [qmN (hp.full hm).2] at e
 rcases hmk with ⟨h1,_⟩ | ⟨_,hP,hmk⟩
 ·rw [h1] at e; cases e
 ·rw [hmk _ _ _ _ (by omega),qmL hp.going.sound hp.going.fits hp.going.len hP]
  rfl
theorem PosP.back {b h:List Int} {s:Int} (hp:PosP b h s) {m:List Int} (hm:m ∈ lgL b h s) (n:Nat) (hn:n<=1000) (x:Nat) (st:List (List Int)) (hst:st.getD n []=qFS b s m):
  qOQ (kof (mbM b s m) (mhM b h s m) (1 - s)) (n+1) (mbM b s m) (mhM b h s m) (1 - s) (qN (mbM b s m)) (qQ (mbM b s m)) x st=some (true,kof b h s,n,b,h,s,qN b,qQ b,x,st):=by
 rw [qK2,qK2]
 exact qgp hp.going (hp.canP hm) n hn x st hst
inductive Hist (b0 h0:List Int) (s0:Int):Nat->List (List Int)->List Int->List Int->Int->Prop
 | zero (st:List (List Int)):Hist b0 h0 s0 0 st b0 h0 s0
 | succ {n:Nat} {st:List (List Int)} {b h:List Int} {s:Int} {m:List Int} (hh:Hist b0 h0 s0 n st b h s) (hp:PosP b h s) (hm:m ∈ lgL b h s) (hst:st.getD n []=qFS b s m):
   Hist b0 h0 s0 (n+1) st (mbM b s m) (mhM b h s m) (1 - s)
theorem Hist.congr {b0 h0:List Int} {s0:Int} {n:Nat} {st:List (List Int)} {b h:List Int} {s:Int} (hh:Hist b0 h0 s0 n st b h s):∀ {st':List (List Int)},st'.take n=st.take n->Hist b0 h0 s0 n st' b h s:=by
 induction hh with
 | zero st=>intro st' _; exact .zero st'
 | @succ n st b h s m hh hp hm hst ih=>
   intro st' e
   have e':st'.take n=st.take n:=by
    have:=congrArg (List.take n) e
    rwa [List.take_take,List.take_take,Nat.min_eq_left (by omega)] at this
   exact .succ (ih e') hp hm (by rw [qtw e (by omega),hst])
end Go.Kk.Pl
namespace Go.Kk.Pl
theorem ql6:qJD=some true:=by kernel_rfl
def nm (m:List Int):List Int:=[m0 m,m1 m,m2 m,bi (m3 m)]
theorem nm0 (m:List Int):m0 (nm m)=m0 m:=rfl
theorem nm1 (m:List Int):m1 (nm m)=m1 m:=rfl
theorem nm2 (m:List Int):m2 (nm m)=m2 m:=rfl
theorem nm3 (m:List Int):m3 (nm m)=m3 m:=qEu (m3 m)
theorem qZB (b:List Int) (s:Int) (m:List Int):mbM b s (nm m)=mbM b s m:=by unfold mbM; rw [nm0,nm1,nm2,nm3]
theorem qZC (b h:List Int) (s:Int) (m:List Int):mhM b h s (nm m)=mhM b h s m:=by unfold mhM; rw [nm1,nm2]
theorem qmw (b:List Int) (s:Int) (m:List Int):qFS b s (nm m)=qFS b s m:=by unfold qFS; rw [nm0,nm1,nm2,nm3]
def lg (b h:List Int) (s:Int) (m:List Int):Bool:=(lgL b h s).contains (nm m)
theorem qOz {b h:List Int} {s:Int} {m:List Int} (hm:lg b h s m=true):nm m ∈ lgL b h s:=by simpa [lg] using hm
theorem PosP.is {b h:List Int} {s:Int} (hp:PosP b h s) (m:List Int):qGH (m0 m) (m1 m) (m2 m) (m3 m) b h s (qN b) (qQ b)=some (lg b h s m,b,h,s,qN b,qQ b):=by
 obtain ⟨hc,hs,hno,k,k',hk,hk'⟩:=qGR hp.len hp.zero
 exact qlD hc h hs hk hk' _ _ _ _
theorem PosP.ris {b h:List Int} {s:Int} (hp:PosP b h s) (m:List Int):qIB b h s (m0 m) (m1 m) (m2 m) (m3 m)=some (lg b h s m):=by
 rw [qrK hp.clean h hp.side,<- hp.lists]
 rfl
theorem PosP.next {b h:List Int} {s:Int} (hp:PosP b h s) {m:List Int} (hm:lg b h s m=true):PosP (mbM b s m) (mhM b h s m) (1 - s):=by
 have:=hp.after (qOz hm)
 rw [qZB,qZC] at this
 exact this
theorem PosP.rnext {b h:List Int} {s:Int} (hp:PosP b h s) {m:List Int} (hm:lg b h s m=true):qFg b h s (m0 m) (m1 m) (m2 m) (m3 m)=some (mbM b s m,mhM b h s m,1 - s):=by
 have:=hp.canP (qOz hm)
 rw [nm0,nm1,nm2,nm3] at this
 exact qQY hp.clean hp.side this
theorem PosP.make' {b h:List Int} {s:Int} (hp:PosP b h s) {m:List Int} (hm:lg b h s m=true) (n:Nat) (hn:n<=1000) (x:Nat) (st:List (List Int)):
  qC5 (m0 m) (m1 m) (m2 m) (m3 m) (kof b h s) n b h s (qN b) (qQ b) x st =
   some (.inr (true,kof (mbM b s m) (mhM b h s m) (1 - s),n+1,mbM b s m,mhM b h s m,1 - s,qN (mbM b s m),qQ (mbM b s m),n+1,List.append (List.take n st) [qFS b s m])):=by
 have:=hp.make (qOz hm) n hn x st
 rw [nm0,nm1,nm2,nm3,qZB,qZC,qmw] at this
 exact this
def qr (xs:List (List Int)):Nat->Nat->List Int->List Int->Int->Nat×List Int×List Int×Int
 | 0,_,b,h,s=>(0,b,h,s)
 | k+1,i,b,h,s=>match lg b h s (xs.getD i []) with
   | true=>((qr xs k (i+1) (mbM b s (xs.getD i [])) (mhM b h s (xs.getD i [])) (1 - s)).1+1,(qr xs k (i+1) (mbM b s (xs.getD i [])) (mhM b h s (xs.getD i [])) (1 - s)).2)
   | false=>(0,b,h,s)
def zB:List Int:=[0,0,0,0,0,0,0,0,0,0,0,0,0,0,0,0,0,0,0,0,0,0,0,0,0,0,0,0,0,0,0,0,0,0,0,0,0,0,0,0,0,0,0,0,0,0,0,0,0,0,0,0,0,0,0,0,0,0,0,0,0,0,0,0,0,0,0,0,0,0,0,0,0,0,0,0,0,0,0,0,0]
theorem qoV (lo N cap:Nat) (hN:N<=1000) (xs:List (List Int)) (z1 z2:List Int) (z3:Int):∀ (k i:Nat),i+k=N->∀ (b h:List Int) (s:Int) (n x:Nat) (st:List (List Int)),PosP b h s->n<=i->∀ F,
  ((qr xs k (lo+i) b h s).1=k /\ ∃ K n' by_ sd x' st',qC9 (F+k+1) lo N lo N N i cap xs z1 z2 z3 (kof b h s) n b h s (qN b) (qQ b) x st =
    some (.inr (lo,N,cap,xs,z1,z2,z3,K,n',(qr xs k (lo+i) b h s).2.1,(qr xs k (lo+i) b h s).2.2.1,(qr xs k (lo+i) b h s).2.2.2,by_,sd,x',st'))) \/
  ((qr xs k (lo+i) b h s).1 < k /\ ∃ K n' b' h' s' by_ sd x' st',qC9 (F+k+1) lo N lo N N i cap xs z1 z2 z3 (kof b h s) n b h s (qN b) (qQ b) x st =
    some (.inl (lo,N,((i+(qr xs k (lo+i) b h s).1:Nat):Int),110,cap,xs,(qr xs k (lo+i) b h s).2.1,(qr xs k (lo+i) b h s).2.2.1,(qr xs k (lo+i) b h s).2.2.2,K,n',b',h',s',by_,sd,x',st'))):=by
 intro k
 induction k with
 | zero=>
   intro i hi b h s n x st hp hn F
   refine .inl ⟨rfl,kof b h s,n,qN b,qQ b,x,st,?_⟩
   rw [qC9.eq_2]
   unfold qLF
   rw [qW (by omega)]
   rfl
 | succ k ih=>
   intro i hi b h s n x st hp hn F
   have body:qC9 (F+(k+1)+1) lo N lo N N i cap xs z1 z2 z3 (kof b h s) n b h s (qN b) (qQ b) x st =
     br (!(lg b h s (xs.getD (lo+i) []))) (some (.inl (lo,N,(i:Int),110,cap,xs,b,h,s,kof b h s,n,b,h,s,qN b,qQ b,x,st)))
      (ob (qC5 (m0 (xs.getD (lo+i) [])) (m1 (xs.getD (lo+i) [])) (m2 (xs.getD (lo+i) [])) (m3 (xs.getD (lo+i) [])) (kof b h s) n b h s (qN b) (qQ b) x st) fun t=>
       sw t (fun (_,a1,a2,a3,a4,a5,a6,a7,a8,a9)=>qC9 (F+k+1) lo N lo N N ((i:Int)+1) cap xs z1 z2 z3 a1 a2 a3 a4 a5 a6 a7 a8 a9)
        (fun (_,a1,a2,a3,a4,a5,a6,a7,a8,a9)=>qC9 (F+k+1) lo N lo N N ((i:Int)+1) cap xs z1 z2 z3 a1 a2 a3 a4 a5 a6 a7 a8 a9)):=by
    rw [qC9.eq_2]
    unfold qLF
    rw [qf (by omega),qd (by omega) (by omega),tn]
    simp only [hdM]
    rw [hp.is,qA]
    simp only
    rw [w_s (n:=(i:Int)+1) (by omega) (by omega)]
    rfl
   cases hm:lg b h s (xs.getD (lo+i) []) with
   | false=>
     have e:qr xs (k+1) (lo+i) b h s=(0,b,h,s):=by unfold qr; rw [hm]
     rw [e]
     refine .inr ⟨Nat.succ_pos _,kof b h s,n,b,h,s,qN b,qQ b,x,st,?_⟩
     rw [body,hm]
     rfl
   | true=>
     have e:qr xs (k+1) (lo+i) b h s=((qr xs k (lo+(i+1)) (mbM b s (xs.getD (lo+i) [])) (mhM b h s (xs.getD (lo+i) [])) (1 - s)).1+1,(qr xs k (lo+(i+1)) (mbM b s (xs.getD (lo+i) [])) (mhM b h s (xs.getD (lo+i) [])) (1 - s)).2):=by
      conv=>lhs; unfold qr
      rw [hm]
      rfl
     rw [e]
     rw [hm,hp.make' hm n (by omega),qA,qA6,Bool.not_true,b_f] at body
     have ih:=ih (i+1) (by omega) (mbM b s (xs.getD (lo+i) [])) (mhM b h s (xs.getD (lo+i) [])) (1 - s) (n+1) (n+1) (List.append (List.take n st) [qFS b s (xs.getD (lo+i) [])]) (hp.next hm) (by omega) F
     rcases ih with ⟨i1,K,n',by_,sd,x',st',i2⟩ | ⟨i1,K,n',b',h',s',by_,sd,x',st',i2⟩
     ·exact .inl ⟨by simp only; omega,K,n',by_,sd,x',st',body.trans i2⟩
     ·refine .inr ⟨by simp only; omega,K,n',b',h',s',by_,sd,x',st',(body.trans i2).trans ?_⟩
      simp only
      rw [show i+1+(qr xs k (lo+(i+1)) (mbM b s (xs.getD (lo+i) [])) (mhM b h s (xs.getD (lo+i) [])) (1 - s)).1=i+((qr xs k (lo+(i+1)) (mbM b s (xs.getD (lo+i) [])) (mhM b h s (xs.getD (lo+i) [])) (1 - s)).1+1) by omega]
def qIi (n N:Nat):Int:=if n=N then 0 else 110
theorem PosP.play1 {b h:List Int} {s:Int} (hp:PosP b h s) (lo N cap:Nat) (hN:N<=1000) (xs:List (List Int)):
  qGI b h s lo N cap xs=some (((qr xs N lo b h s).1:Int),(qr xs N lo b h s).2.1,(qr xs N lo b h s).2.2.1,(qr xs N lo b h s).2.2.2,qIi (qr xs N lo b h s).1 N):=by
 unfold qGI
 rw [qTe hp.len hp.fits,hp.zero,qA]
 simp only [bne_self_eq_false,b_f]
 rw [qkD hp.clean,qA]
 simp only
 obtain ⟨g,hg⟩:=qh N (by omega)
 have:=qoV lo N cap hN xs zB [0,0,0,0,0,0,0,0,0,0,0,0,0,0,0,0] 0 N 0 (by omega) b h s 0 0 [] hp (by omega) g
 rw [<- hg] at this
 simp only [Nat.add_zero,Nat.zero_add] at this
 rcases this with ⟨i1,K,n',by_,sd,x',st',i2⟩ | ⟨i1,K,n',b',h',s',by_,sd,x',st',i2⟩
 ·refine (congrArg (fun m=>ob m _) i2).trans ?_
  rw [qA,qA6]
  simp only
  rw [i1]
  unfold qIi
  rw [if_pos rfl]
  rfl
 ·refine (congrArg (fun m=>ob m _) i2).trans ?_
  rw [qA,qfL]
  simp only
  unfold qIi
  rw [if_neg (by omega)]
theorem qoU {b h:List Int} {s:Int} (hl:b.length=81) (hf:qAU h) (hz:qB6 b h s ≠ 0) (lo N cap:Nat) (xs:List (List Int)):qGI b h s lo N cap xs=some (0,b,h,s,qB6 b h s):=by
 unfold qGI
 rw [qTe hl hf,qA,qo hz]
theorem qoW (lo N cap:Nat) (hN:N<=1000) (xs:List (List Int)) (n e:Int) (z1 z2:List Int) (z3:Int):∀ (k i:Nat),i+k=N->∀ (b h:List Int) (s:Int),PosP b h s->∀ F,
  qGG (F+k+1) lo N n e i cap xs z1 z2 z3 b h s=some (lo,N,n,e,((i+(qr xs k (lo+i) b h s).1:Nat):Int),cap,xs,z1,z2,z3,(qr xs k (lo+i) b h s).2.1,(qr xs k (lo+i) b h s).2.2.1,(qr xs k (lo+i) b h s).2.2.2):=by
 intro k
 induction k with
 | zero=>
   intro i hi b h s hp F
   rw [qGG.eq_2]
   unfold qK8
   rw [qW (by simp only [Int.ofNat_eq_natCast]; omega)]
   rfl
 | succ k ih=>
   intro i hi b h s hp F
   rw [qGG.eq_2]
   unfold qK8
   rw [qf (by simp only [Int.ofNat_eq_natCast]; omega),qd (by omega) (by omega),tn]
   simp only [hdM]
   rw [hp.ris,qA]
   cases hm:lg b h s (xs.getD (lo+i) []) with
   | false=>
     have e:qr xs (k+1) (lo+i) b h s=(0,b,h,s):=by unfold qr; rw [hm]
     rw [e,b_f]
     rfl
   | true=>
     have e:qr xs (k+1) (lo+i) b h s=((qr xs k (lo+(i+1)) (mbM b s (xs.getD (lo+i) [])) (mhM b h s (xs.getD (lo+i) [])) (1 - s)).1+1,(qr xs k (lo+(i+1)) (mbM b s (xs.getD (lo+i) [])) (mhM b h s (xs.getD (lo+i) [])) (1 - s)).2):=by
      conv=>lhs; unfold qr
      rw [hm]
      rfl
     rw [e,b_t,qd (by omega) (by omega),hp.rnext hm,qA]
     simp only
     rw [w_s (n:=(i:Int)+1) (by omega) (by omega)]
     refine (ih (i+1) (by omega) _ _ _ (hp.next hm) F).trans ?_
     rw [show i+1+(qr xs k (lo+(i+1)) (mbM b s (xs.getD (lo+i) [])) (mhM b h s (xs.getD (lo+i) [])) (1 - s)).1=i+((qr xs k (lo+(i+1)) (mbM b s (xs.getD (lo+i) [])) (mhM b h s (xs.getD (lo+i) [])) (1 - s)).1+1) by omega]
theorem qlf {b h:List Int} (s:Int) (hl:b.length=81) (hf:qAU h) (hh:h.length=16) (lo N cap:Nat) (xs:List (List Int)):qJC b h s lo N cap xs=some true:=by
 unfold qJC
 rw [ql6,qA]
 simp only [Bool.not_true,b_f]
 by_cases hn:Int.ofNat N > 30
 ·rw [qG (by simpa using hn)]
 ·have hN:N<=30:=by simp only [Int.ofNat_eq_natCast] at hn; omega
  rw [qP (by simpa using hn)]
  by_cases hz:qB6 b h s=0
  ·have hp:PosP b h s:=⟨hl,hf,hh,hz⟩
   rw [hp.play1 lo N cap (by omega),qA]
   simp only
   rw [qZ7 hl hf,qA,qt hz]
   obtain ⟨g,hg⟩:=qh N (by omega)
   have:=qoW lo N cap (by omega) xs (((qr xs N lo b h s).1:Nat):Int) (qIi (qr xs N lo b h s).1 N) (qr xs N lo b h s).2.1 (qr xs N lo b h s).2.2.1 (qr xs N lo b h s).2.2.2 N 0 (by omega) b h s hp g
   rw [<- hg] at this
   simp only [Nat.add_zero,Nat.zero_add] at this
   refine (congrArg (fun m=>ob m _) this).trans ?_
   rw [qA]
   simp only [beq_self_eq_true,Bool.and_self,b_t]
   unfold qIi
   by_cases he:(qr xs N lo b h s).1=N
   ·rw [if_pos he,he]
    simp [br]
   ·rw [if_neg he]
    have:(((qr xs N lo b h s).1:Int)==Int.ofNat N)=false:=by rw [beq_eq_false_iff_ne]; simp only [Int.ofNat_eq_natCast]; omega
    rw [this]
    rfl
  ·rw [qoU hl hf hz,qA]
   simp only
   rw [qZ7 hl hf,qA,qo hz]
   simp [br]
end Go.Kk.Pl
