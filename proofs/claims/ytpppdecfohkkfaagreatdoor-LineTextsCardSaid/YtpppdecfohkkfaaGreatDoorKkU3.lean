/- What the program's functions come to, told plainly: the texts of this project that this claim leans on, cut down to what is used. -/
import Derived.Test.YtpppdecfohkkfaaGreatDoorKkU2
namespace Go.Kk.Pl
theorem canP {b h:List Int} {s f t d:Int} {p:Bool} (hm:qDC b h s f t d p=true):(s=0 \/ s=1) /\ CanP b h s f t d p:=by
 unfold qDC at hm
 rw [Bool.and_eq_true,Bool.and_eq_true,decide_eq_true_eq,decide_eq_true_eq] at hm
 obtain ⟨h1,hs,h2⟩:=hm
 obtain ⟨ht,hd,hmv⟩:=qTT h1
 refine ⟨hs,ht,fun d0=>?_,fun d0=>?_⟩
 ·rw [if_pos d0] at h2
  simp only [Bool.and_eq_true,decide_eq_true_eq] at h2
  have:=hd d0
  exact ⟨by omega,by omega,this.2.2.1,this.2.2.2,by omega,h2.2⟩
 ·rw [if_neg (by simpa using d0)] at h2
  simp only [Bool.and_eq_true,decide_eq_true_eq,Bool.or_eq_true,Bool.not_eq_true'] at h2
  obtain ⟨h3,h4⟩:=hmv d0
  exact ⟨h3.1,h3.2,h4,h2.1.1,h2.1.2.1,h2.1.2.2,fun hp=>by
   rcases h2.2 with h5 | h5
   ·rw [hp] at h5;cases h5
   ·exact h5⟩
theorem qHA {b h:List Int} {s f t d:Int} {p:Bool} (hm:qAs b h s f t d p=true):(s=0 \/ s=1) /\ CanP b h s f t d p:=by
 unfold qAs at hm
 rw [Bool.and_eq_true] at hm
 exact canP hm.1
theorem qg1 {x s:Int} (hs:s=0 \/ s=1) (h:sd x=s):kd x≠0:=by
 intro h0
 rw [qZV h0] at h
 omega
theorem qGt {b h:List Int} {s f t d:Int} {p:Bool} (hs:s=0 \/ s=1) (hP:CanP b h s f t d p):sd (laid b s f d p)=s /\ kd (laid b s f d p)≠0 /\ (laid b s f d p=pc s 8↔d=0 /\ at_ b f=pc s 8):=by
 unfold laid
 by_cases hd:d=0
 ·have hm:=hP.move hd
  rw [if_neg (by simpa using hd)]
  cases p with
  | false=>
    rw [if_neg (by simp)]
    exact ⟨hm.2.2.2.1,qg1 hs hm.2.2.2.1,fun h=>⟨hd,h⟩,fun h=>h.2⟩
  | true=>
    rw [if_pos rfl]
    have hu:=hm.2.2.2.2.2.2 rfl
    obtain ⟨u1,u2,u3⟩:=qHs hu
    have hx:=qDa hs u1 u2 u3
    rw [qBC hs u1 u2 u3] at hx
    have u8:up_ (kd (at_ b f))≠8:=by unfold up_;split<;>omega
    refine ⟨hx.1,by rw [hx.2];omega,fun h=>?_,fun h=>?_⟩
    ·rw [qBC hs (by omega) (by omega) (by omega)] at h
     omega
    ·exfalso
     apply hu
     rw [h.2,(qDa hs (by omega) (by omega) (by omega)).2]
     rfl
 ·have hm:=hP.drop hd
  rw [if_pos hd]
  have hx:=qDa hs (k:=d) (by omega) (by omega) (by omega)
  rw [qBC hs (by omega) (by omega) (by omega)] at hx
  refine ⟨hx.1,by rw [hx.2];exact hd,fun h=>?_,fun h=>absurd h.1 hd⟩
  rw [qBC hs (by omega) (by omega) (by omega)] at h
  omega
theorem qD0 {b h:List Int} {s f t d:Int} {p:Bool} (hc:Clean b) (hs:s=0 \/ s=1) (hP:CanP b h s f t d p) {i:Nat} (hi:i<81):
  (mb b s f t d p).getD i 0=if i=t.toNat then laid b s f d p else if d=0 /\ i=f.toNat then 0 else b.getD i 0:=by
 have ht:=hP.to_
 have hl:=(qGt hs hP).2.1
 have e1:(mb b s f t d p).getD i 0=at_ (mb b s f t d p) i:=by rw [qA8 (by omega),tn]
 have e2:b.getD i 0=at_ b i:=by rw [qA8 (by omega),tn]
 rw [e1,e2]
 unfold mb
 by_cases hd:d=0
 ·have hm:=hP.move hd
  rw [if_neg (by simpa using hd),qC9 (hc.put f 0).1 ht,if_neg hl,qC9 hc.1 ⟨hm.1,hm.2.1⟩]
  by_cases h1:i=t.toNat
  ·rw [if_pos (c:=(i:Int)=t) (by omega),if_pos h1]
  ·rw [if_neg (c:=(i:Int)=t) (by omega),if_neg h1]
   by_cases h2:i=f.toNat
   ·rw [if_pos (c:=(i:Int)=f) (by omega),if_pos (c:=d=0 /\ i=f.toNat) ⟨hd,h2⟩];rfl
   ·rw [if_neg (c:=(i:Int)=f) (by omega),if_neg (fun h=>h2 h.2)]
 ·rw [if_pos hd,qC9 hc.1 ht,if_neg hl]
  by_cases h1:i=t.toNat
  ·rw [if_pos h1,if_pos (by omega)]
  ·rw [if_neg h1,if_neg (by omega),if_neg (fun h=>hd h.1)]
def KS (b:List Int) (s:Int) (k:Nat):Prop:=k<81 /\ ∀ i,i<81->(b.getD i 0=pc s 8↔i=k)
theorem pc8 {s:Int} (hs:s=0 \/ s=1):pc s 8=16*s+8:=qBC hs (by omega) (by omega) (by omega)
theorem KS.kg {b:List Int} {s:Int} {k:Nat} (hs:s=0 \/ s=1) (h:KS b s k):kg b s=k:=by
 apply qNf h.1
 intro i hi
 unfold pcs
 rw [decide_eq_true_eq,h.2 i hi,pc8 hs]
 exact ⟨fun h=>h.2,fun h=>⟨by omega,h⟩⟩
theorem qKI {b h:List Int} {s':Int} (hz:qBL b h s'=0) {s:Int} (hs:s=0 \/ s=1):∃ k,KS b s k:=by
 have hn:nP b 8=1 /\ nP b 24=1:=by
  unfold qBL at hz
  split at hz
  ·omega
  ·split at hz
   ·omega
   ·split at hz
    ·omega
    ·split at hz
     ·omega
     ·rename_i h;simpa using h
 have:nP b (pc s 8)=1:=by
  rw [pc8 hs]
  rcases hs with rfl | rfl
  ·exact hn.1
  ·exact hn.2
 obtain ⟨k,hk,h⟩:=qGU.mp (show qAp (fun i=>b.getD i 0==pc s 8)=1 from this)
 exact ⟨k,hk,fun i hi=>by rw [<- h i hi,beq_iff_eq]⟩
theorem KS.sd {b:List Int} {s:Int} {k:Nat} (hs:s=0 \/ s=1) (h:KS b s k):sd (b.getD k 0)=s /\ kd (b.getD k 0)=8:=by
 rw [(h.2 k h.1).mpr rfl]
 exact qDa hs (by omega) (by omega) (by omega)
theorem qOM {b h:List Int} {s f t d:Int} {p:Bool} (hc:Clean b) (hs:s=0 \/ s=1) (hP:CanP b h s f t d p) {k:Nat} (hk:KS b s k):
  KS (mb b s f t d p) s (if d=0 /\ f.toNat=k then t.toNat else k):=by
 have ht:=hP.to_
 have hl:=qGt hs hP
 have hkt:k≠t.toNat:=by
  intro e
  have h1:=(hk.sd hs)
  have e2:b.getD k 0=at_ b t:=by rw [qA8 ht,e]
  rw [e2] at h1
  by_cases hd:d=0
  ·exact (hP.move hd).2.2.2.2.1 h1.1
  ·rw [(hP.drop hd).2.2.2.2.2,qEr] at h1
   omega
 have hp0:(0:Int)≠pc s 8:=by rw [pc8 hs];omega
 refine ⟨by split;omega;exact hk.1,fun i hi=>?_⟩
 rw [qD0 hc hs hP hi]
 by_cases h1:i=t.toNat
 ·rw [if_pos h1,hl.2.2]
  by_cases hd:d=0
  ·have hm:=hP.move hd
   rw [qA8 ⟨hm.1,hm.2.1⟩,hk.2 _ (by omega)]
   by_cases hfk:f.toNat=k
   ·rw [if_pos ⟨hd,hfk⟩];exact ⟨fun _=>h1,fun _=>⟨hd,hfk⟩⟩
   ·rw [if_neg (fun h=>hfk h.2)]
    exact ⟨fun h=>absurd h.2 hfk,fun h=>absurd (h.symm.trans h1) hkt⟩
  ·rw [if_neg (fun h=>hd h.1)]
   exact ⟨fun h=>absurd h.1 hd,fun h=>absurd (h.symm.trans h1) hkt⟩
 ·rw [if_neg h1]
  by_cases h2:d=0 /\ i=f.toNat
  ·rw [if_pos h2]
   refine ⟨fun h=>absurd h hp0,fun h=>?_⟩
   split at h
   ·exact absurd h h1
   ·rename_i h3;exact absurd ⟨h2.1,by omega⟩ h3
  ·rw [if_neg h2,hk.2 i hi]
   split
   ·rename_i h3
    exact ⟨fun h=>absurd ⟨h3.1,by omega⟩ h2,fun h=>absurd h h1⟩
   ·exact Iff.rfl
theorem qKH {b h:List Int} {s f t d:Int} {p:Bool} (hc:Clean b) (hs:s=0 \/ s=1) (hP:CanP b h s f t d p) {k:Nat} (hk:KS b (1 - s) k):
  KS (mb b s f t d p) (1 - s) k:=by
 have ht:=hP.to_
 have hl:=qGt hs hP
 have hs':1 - s=0 \/ 1 - s=1:=by omega
 have hkt:k≠t.toNat:=by
  intro e
  have h1:=(hk.sd hs')
  have e2:b.getD k 0=at_ b t:=by rw [qA8 ht,e]
  rw [e2] at h1
  by_cases hd:d=0
  ·exact (hP.move hd).2.2.2.2.2.1 h1.2
  ·rw [(hP.drop hd).2.2.2.2.2,qEr] at h1
   omega
 have hp0:(0:Int)≠pc (1 - s) 8:=by rw [pc8 hs'];omega
 refine ⟨hk.1,fun i hi=>?_⟩
 rw [qD0 hc hs hP hi]
 by_cases h1:i=t.toNat
 ·rw [if_pos h1]
  refine ⟨fun h=>?_,fun h=>absurd (h.symm.trans h1) hkt⟩
  have:=hl.1
  rw [h,(qDa hs' (by omega) (by omega) (by omega)).1] at this
  omega
 ·rw [if_neg h1]
  by_cases h2:d=0 /\ i=f.toNat
  ·rw [if_pos h2]
   refine ⟨fun h=>absurd h hp0,fun h=>?_⟩
   have hm:=hP.move h2.1
   have h3:=(hk.sd hs').1
   rw [<- h,h2.2,<- qA8 ⟨hm.1,hm.2.1⟩,hm.2.2.2.1] at h3
   omega
  ·rw [if_neg h2]
   exact hk.2 i hi
theorem qEf {b:List Int} {s:Int} (hs:s=0 \/ s=1) {k:Nat} (hk:kg b s=k) (h81:k<81) (c:Nat):chs b s c=atk b s k c:=by
 unfold chs onS atk enm
 rw [hk,decide_eq_true (by omega),decide_eq_true (by omega),tn]
 rfl
def fof (f t d:Int):Nat:=if d=0 then f.toNat else t.toNat
theorem qRN {b h:List Int} {s f t d:Int} {p:Bool} (hc:Clean b) (hs:s=0 \/ s=1) (hP:CanP b h s f t d p) {i:Nat} (hi:i<81):tk (mb b s f t d p) i=tk2 b (fof f t d) t.toNat i:=by
 have hl:=qGt hs hP
 unfold tk tk2 fof
 rw [qD0 hc hs hP hi]
 by_cases h1:i=t.toNat
 ·rw [if_pos h1,decide_eq_true h1,Bool.true_or,decide_eq_true_eq]
  intro h0
  rw [h0,qEr] at hl
  exact hl.2.1 rfl
 ·rw [if_neg h1,decide_eq_false h1,Bool.false_or]
  by_cases hd:d=0
  ·rw [if_pos hd]
   by_cases h2:i=f.toNat
   ·rw [if_pos ⟨hd,h2⟩,decide_eq_true h2];simp
   ·rw [if_neg (fun h=>h2 h.2),decide_eq_false h2];rfl
  ·rw [if_neg hd,if_neg (fun h=>hd h.1),decide_eq_false h1];rfl
theorem qUC {b h:List Int} {s f t d:Int} {p:Bool} (hc:Clean b) (hs:s=0 \/ s=1) (hP:CanP b h s f t d p) {c:Nat} (hcc:c<81):enm (mb b s f t d p) s c=(decide (c≠t.toNat)&&enm b s c) /\ (enm (mb b s f t d p) s c=true->(mb b s f t d p).getD c 0=b.getD c 0):=by
 have hl:=qGt hs hP
 unfold enm
 rw [qD0 hc hs hP hcc]
 by_cases h1:c=t.toNat
 ·rw [if_pos h1,hl.1,decide_eq_false (p:=s=1 - s) (by omega),decide_eq_false (p:=c≠t.toNat) (by simpa using h1)]
  exact ⟨rfl,fun h=>by cases h⟩
 ·rw [if_neg h1,decide_eq_true (p:=c≠t.toNat) h1,Bool.true_and]
  by_cases h2:d=0 /\ c=f.toNat
  ·rw [if_pos h2,qIo]
   have hm:=hP.move h2.1
   rw [h2.2,<- qA8 ⟨hm.1,hm.2.1⟩,hm.2.2.2.1,decide_eq_false (p:=(-1:Int)=1 - s) (by omega),decide_eq_false (p:=s=1 - s) (by omega)]
   exact ⟨rfl,fun h=>by cases h⟩
  ·rw [if_neg h2]
   exact ⟨rfl,fun _=>rfl⟩
theorem qTX {b h:List Int} {s f t d:Int} {p:Bool} (hc:Clean b) (hs:s=0 \/ s=1) (hP:CanP b h s f t d p) {k:Nat} (hk:KS b s k) (hn:¬ (d=0 /\ f.toNat=k)) {c:Nat} (hcc:c<81):
  chs (mb b s f t d p) s c=qDj b s k (fof f t d) t.toNat c:=by
 have hk2:=qOM hc hs hP hk
 rw [if_neg hn] at hk2
 rw [qEf hs (hk2.kg hs) hk.1]
 obtain ⟨e1,e2⟩:=qUC hc hs hP hcc
 unfold atk qDj
 cases he:enm (mb b s f t d p) s c with
 | false=>
   rw [he] at e1
   rw [Bool.false_and,<- Bool.and_assoc,<- e1,Bool.false_and]
 | true=>
   rw [<- Bool.and_assoc,<- e1,he,Bool.true_and,Bool.true_and,e2 he]
   exact qlI hcc hk.1 (fun i hi=>qRN hc hs hP hi)
theorem qTW {b h:List Int} {s f t d:Int} {p:Bool} (hc:Clean b) (hs:s=0 \/ s=1) (hP:CanP b h s f t d p) {k:Nat} (hk:KS b s k) (hn:d=0 /\ f.toNat=k) {c:Nat} (hcc:c<81):
  chs (mb b s f t d p) s c=onS b t (1 - s) (fun i=>tk b i && !only f i) c:=by
 have hk2:=qOM hc hs hP hk
 have ht:=hP.to_
 have hm:=hP.move hn.1
 rw [if_pos hn] at hk2
 rw [qEf hs (hk2.kg hs) hk2.1]
 obtain ⟨e1,e2⟩:=qUC hc hs hP hcc
 unfold atk onS
 rw [decide_eq_true ht,decide_eq_true (p:=1 - s=0 \/ 1 - s=1) (by omega),Bool.true_and,Bool.true_and]
 show _=(enm b s c&&_)
 by_cases h1:c=t.toNat
 ·rw [e1,decide_eq_false (p:=c≠t.toNat) (by simpa using h1),<- h1,qYi,qYi,Bool.and_false,Bool.and_false]
 ·rw [decide_eq_true (p:=c≠t.toNat) h1,Bool.true_and] at e1
  rw [e1]
  cases he:enm b s c with
  | false=>rfl
  | true=>
    rw [e2 (by rw [e1,he]),Bool.true_and,Bool.true_and,Bool.eq_iff_iff,qBs,qBs]
    have:∀ i∈btw c t.toNat,tk (mb b s f t d p) i=(tk b i && !only f i):=by
     intro i hi
     have hw:=qH5 (by omega) hcc hi
     rw [qRN hc hs hP hw.1]
     unfold tk2 fof only
     rw [decide_eq_false hw.2.1,if_pos hn.1,Bool.false_or,Bool.and_comm]
     congr 2
     rw [decide_eq_decide]
     omega
    constructor
    ·rintro (h | ⟨h,h'⟩)
     ·exact .inl h
     ·exact .inr ⟨h,fun i hi=>by rw [<- this i hi];exact h' i hi⟩
    ·rintro (h | ⟨h,h'⟩)
     ·exact .inl h
     ·exact .inr ⟨h,fun i hi=>by rw [this i hi];exact h' i hi⟩
def qo (b:List Int) (s:Int) (t:Nat):Bool:=(List.range 81).all fun c=>!chs b s c||qDg (kg b s).toNat c t
def qFm (b:List Int) (s:Int) (f t:Nat):Bool:=(List.range 81).all fun c=>!qAJ b s (kg b s).toNat f c||qDg (kg b s).toNat c t
def stB (b:List Int) (s:Int) (f t:Nat):Bool:=if (f:Int)=kg b s then isE (onS b t (1 - s) (fun i=>tk b i && !only f i)) else qo b s t&&qFm b s f t
theorem qJC {k c t:Nat}:qDg k c t=true↔t=c \/ t∈btw c k:=by
 unfold qDg only
 rw [Bool.or_eq_true,List.contains_iff_mem,decide_eq_true_eq]
 constructor
 ·rintro (h | h)
  ·exact .inr h
  ·exact .inl (by omega)
 ·rintro (h | h)
  ·exact .inr (by omega)
  ·exact .inl h
theorem qIY {b:List Int} {s:Int} (hs:s=0 \/ s=1) {k:Nat} (hk:KS b s k) {t:Nat}:qo b s t=true ↔ ∀ c,c<81->atk b s k c=true->t=c \/ t∈btw c k:=by
 have hkg:=hk.kg hs
 unfold qo
 rw [List.all_eq_true,hkg,tn]
 constructor
 ·intro h c hc ha
  have:=h c (List.mem_range.mpr hc)
  rw [qEf hs hkg hk.1,ha,Bool.not_true,Bool.false_or] at this
  exact qJC.mp this
 ·intro h c hc
  rw [qEf hs hkg hk.1]
  cases ha:atk b s k c with
  | false=>rfl
  | true=>
    rw [Bool.not_true,Bool.false_or]
    exact qJC.mpr (h c (List.mem_range.mp hc) ha)
theorem qKz {b:List Int} {s:Int} (hs:s=0 \/ s=1) {k:Nat} (hk:KS b s k) {f t:Nat}:qFm b s f t=true ↔ ∀ c,c<81->qAJ b s k f c=true->t=c \/ t∈btw c k:=by
 unfold qFm
 rw [List.all_eq_true,hk.kg hs,tn]
 constructor
 ·intro h c hc ha
  have:=h c (List.mem_range.mpr hc)
  rw [ha,Bool.not_true,Bool.false_or] at this
  exact qJC.mp this
 ·intro h c hc
  cases ha:qAJ b s k f c with
  | false=>rfl
  | true=>
    rw [Bool.not_true,Bool.false_or]
    exact qJC.mpr (h c (List.mem_range.mp hc) ha)
theorem qLJ {b h:List Int} {s f t d:Int} {p:Bool} (hc:Clean b) (hs:s=0 \/ s=1) (hP:CanP b h s f t d p) {k:Nat} (hk:KS b s k):
  (!inC (mb b s f t d p) s)=if d=0 then stB b s f.toNat t.toNat else qo b s t.toNat:=by
 have ht:=hP.to_
 unfold inC
 rw [Bool.not_not]
 by_cases hn:d=0 /\ f.toNat=k
 ·have hm:=hP.move hn.1
  rw [if_pos hn.1]
  unfold stB
  rw [if_pos (by rw [hk.kg hs,hn.2]),Bool.eq_iff_iff,qCV,qCV,show ((t.toNat:Nat):Int)=t by omega,show ((f.toNat:Nat):Int)=f by omega]
  constructor
  ·intro h i hi;rw [<- qTW hc hs hP hk hn hi];exact h i hi
  ·intro h i hi;rw [qTW hc hs hP hk hn hi];exact h i hi
 ·have hf:tk b (fof f t d)=true->sd (b.getD (fof f t d) 0)=s:=by
   unfold fof
   intro htk
   by_cases hd:d=0
   ·have hm:=hP.move hd
    rw [if_pos hd,<- qA8 ⟨hm.1,hm.2.1⟩]
    exact hm.2.2.2.1
   ·rw [if_neg hd] at htk
    unfold tk at htk
    rw [<- qA8 ht,(hP.drop hd).2.2.2.2.2] at htk
    simp at htk
  have key:=qct (b:=b) (s:=s) (k:=k) (f:=fof f t d) (t:=t.toNat) hf
  have e:isE (chs (mb b s f t d p) s)=(qo b s t.toNat&&qFm b s (fof f t d) t.toNat):=by
   rw [Bool.eq_iff_iff,qCV,Bool.and_eq_true,qIY hs hk,qKz hs hk,<- key]
   constructor
   ·intro h c hcc;rw [<- qTX hc hs hP hk hn hcc];exact h c hcc
   ·intro h c hcc;rw [qTX hc hs hP hk hn hcc];exact h c hcc
  rw [e]
  by_cases hd:d=0
  ·rw [if_pos hd]
   unfold stB
   have hm:=hP.move hd
   rw [if_neg (by rw [hk.kg hs];intro e;exact hn ⟨hd,by omega⟩)]
   unfold fof
   rw [if_pos hd]
  ·rw [if_neg hd]
   have:qFm b s (fof f t d) t.toNat=true:=by
    rw [qKz hs hk]
    intro c _ hp
    have:=(qCx.mp hp).2.2.2.1
    unfold fof tk at this
    rw [if_neg hd,<- qA8 ht,(hP.drop hd).2.2.2.2.2] at this
    simp at this
   rw [this,Bool.and_true]
end Go.Kk.Pl
namespace Go.Kk.Pl
def T_ (_:Nat):Bool:=true
theorem qkr {b:List Int} (hcl:Clean b) (h:List Int) (S:Int) {s:Int} (hs:s=0 \/ s=1) {k:Nat} (hk:KS b s k):∃ es,qGJ s b h S (qS b) (qU b)=some es /\ qBk b s k (fun _=>true) es:=by
 obtain ⟨es,h1,_,h3⟩:=qks hcl h S hs
 refine ⟨es,h1,?_⟩
 have hkg:=hk.kg hs
 have h3:=h3 (by omega)
 rw [hkg,tn] at h3
 intro f hf
 obtain ⟨a,a'⟩:=h3 f hf
 have hP:∀ c,qAJ b s k f c=true->(enm b s c&&(qAf.any fun x=>pcs b (pc (1 - s) x) c))=true:=by
  intro c hp
  have:=qCx.mp hp
  rw [this.1,qnK hs this.1 this.2.1];rfl
 refine ⟨?_,fun c hc _ hp=>a' c hc (hP c hp) hp⟩
 rw [a]
 constructor
 ·rintro ⟨c,x,_,x'⟩;exact ⟨c,x,rfl,x'⟩
 ·rintro ⟨c,x,_,x'⟩;exact ⟨c,x,hP c x',x'⟩
theorem qWe {b:List Int} (hcl:Clean b) (h:List Int) {s:Int} (hs:s=0 \/ s=1) {k:Nat} (hk:KS b s k):
  ∃ es chk,qG5 b h s (qS b) (qU b)=some (s,(k:Int),sLo (qo b s),sHi (qo b s),chk,es) /\ qBk b s k (fun _=>true) es:=by
 obtain ⟨es,he,hp⟩:=qkr hcl h s hs hk
 have hkg:=hk.kg hs
 have hkg':fst (pcs b (pc s 8))=(k:Int):=hkg
 have ha:∀ c,chs b s c=atk b s k c:=qEf hs hkg hk.1
 unfold qG5
 rw [qOL,hkg',qA,qJI,qA]
 simp only
 rw [he,qA,qTR hcl h s (by omega),qA]
 simp only
 rw [qTf,qA]
 by_cases n0:((qAp (chs b s):Nat):Int)=0
 ·rw [qAd n0]
  have hE:isE (chs b s)=true:=by rw [qNM,decide_eq_true_eq];omega
  have:∀ i,i<81->(fun _:Nat=>true) i=qo b s i:=by
   intro i _
   symm
   show qo b s i=true
   rw [qIY hs hk]
   intro c hc h1
   rw [<- ha,qCV.mp hE c hc] at h1
   cases h1
  have:=qBu this
  rw [this.1,this.2]
  exact ⟨es,false,rfl,hp⟩
 ·rw [qAX n0]
  by_cases n1:((qAp (chs b s):Nat):Int)=1
  ·obtain ⟨f,hf,hm⟩:=qGU.mp (show qAp (chs b s)=1 by omega)
   rw [qAd n1,qNa,qA,qNf hf hm,qYP hf hk.1,qA]
   simp only
   rw [qHE,qA]
   simp only
   have:∀ i,i<81->((btw f k).contains i||chs b s i)=qo b s i:=by
    intro i hi
    rw [Bool.eq_iff_iff,Bool.or_eq_true,List.contains_iff_mem,hm i hi,qIY hs hk]
    constructor
    ·intro h1 c hc h2
     rw [<- ha,hm c hc] at h2
     subst h2
     exact h1.elim .inr .inl
    ·intro h1
     exact (h1 f hf (by rw [<- ha];exact (hm f hf).mpr rfl)).elim .inr .inl
   have:=qBu this
   rw [this.1,this.2]
   exact ⟨es,true,rfl,hp⟩
  ·rw [qAX n1]
   have hE:isE (chs b s)=false:=by
    rw [qNM,decide_eq_false_iff_not];omega
   obtain ⟨c,hc,hc'⟩:∃ c,c<81 /\ chs b s c=true:=by
    apply Classical.byContradiction
    intro hno
    have:isE (chs b s)=true:=by
     rw [qCV]
     intro i hi
     cases hx:chs b s i with
     | false=>rfl
     | true=>exact absurd ⟨i,hi,hx⟩ hno
    rw [hE] at this;cases this
   obtain ⟨c2,hc2,hc2',hne⟩:∃ c2,c2<81 /\ chs b s c2=true /\ c≠c2:=by
    apply Classical.byContradiction
    intro hno
    apply n1
    rw [qGU.mpr ⟨c,hc,fun i hi=>⟨fun h1=>?_,fun h1=>h1 ▸ hc'⟩⟩]
    ·rfl
    ·apply Classical.byContradiction
     intro hx
     exact hno ⟨i,hi,h1,fun e=>hx e.symm⟩
   have:∀ i,i<81->(fun _:Nat=>false) i=qo b s i:=by
    intro i hi
    symm
    show qo b s i=false
    cases ho:qo b s i with
    | false=>rfl
    | true=>
      rw [qIY hs hk] at ho
      exact (qop hs hk.1 hc hc2 (by rw [<- ha];exact hc') (by rw [<- ha];exact hc2') hne (ho c hc (by rw [<- ha];exact hc')) (ho c2 hc2 (by rw [<- ha];exact hc2'))).elim
   have:=qBu this
   rw [qBf,qBe] at this
   exact ⟨es,true,by rw [<- this.1,<- this.2],hp⟩
theorem qac {b:List Int} (hcl:Clean b) (h:List Int) (S:Int) {s:Int} (hs:s=0 \/ s=1) {k:Nat} (hk:KS b s k) {es:List (List Int×List Int)} (hp:qBk b s k (fun _=>true) es) {f t:Int} (hf:0<=f /\ f<81) (ht:0<=t /\ t<81) (d:Int) (p chk:Bool):
  qG6 s (k:Int) (sLo (qo b s)) (sHi (qo b s)) chk f t d p b h S (qS b) (qU b) es=some (stB b s f.toNat t.toNat,b,h,S,qS b,qU b,es):=by
 obtain ⟨f,rfl⟩:∃ n:Nat,f=n:=⟨f.toNat,by omega⟩
 obtain ⟨t,rfl⟩:∃ n:Nat,t=n:=⟨t.toNat,by omega⟩
 rw [tn,tn]
 have hkg:=hk.kg hs
 have hh:∀ g:Nat->Bool,has g (t:Int)=g t:=by
  intro g;unfold has;rw [decide_eq_true (by omega),decide_eq_true (by omega),tn];rfl
 unfold qG6 stB
 rw [hkg]
 by_cases hfk:(f:Int)=k
 ·rw [qAd hfk,if_pos hfk,qI5 hcl,qA]
  simp only
  rw [qJD,qA]
  simp only
  rw [w_s (n:=1 - s) (by omega) (by omega),qXX,qA]
  simp only
  rw [qJr,qA,hfk]
 ·rw [qAX hfk,if_neg hfk,qDt,qA,hh]
  cases ho:qo b s t with
  | false=>rfl
  | true=>
    rw [Bool.not_true,b_f,Bool.true_and]
    obtain ⟨h1,h2⟩:=hp f (by omega)
    cases hM:qAw es [(f:Int)] with
    | false=>
      rw [Bool.not_false,b_t]
      have:qFm b s f t=true:=by
       rw [qKz hs hk]
       intro c hc hpin
       rw [h1.mpr ⟨c,hc,rfl,hpin⟩] at hM;cases hM
      rw [this]
    | true=>
      obtain ⟨c,hc,_,hpin⟩:=h1.mp hM
      rw [Bool.not_true,b_f,h2 c hc rfl hpin]
      show (ob (qB1 (sLo (qDg k c)) (sHi (qDg k c)) (t:Int)) _)=_
      rw [qDt,qA,hh]
      have:qDg k c t=qFm b s f t:=by
       rw [Bool.eq_iff_iff,qJC,qKz hs hk]
       constructor
       ·intro h3 c' hc' hpin'
        rw [qYG hs hk.1 hc' hc hpin' hpin];exact h3
       ·intro h3;exact h3 c hc hpin
      rw [this]
def m0 (m:List Int):Int:=m.getD 0 0
def m1 (m:List Int):Int:=m.getD 1 0
def m2 (m:List Int):Int:=m.getD 2 0
def m3 (m:List Int):Bool:=m.getD 3 0 != 0
def Mv4 (m:List Int):Prop:=m=[m0 m,m1 m,m2 m,bi (m3 m)] /\ (0<=m0 m /\ m0 m<81) /\ (0<=m1 m /\ m1 m<81)
theorem qi6 {b h:List Int} {s f t d p:Int} (hok:MvOK b h s f t d p):Mv4 [f,t,d,p]:=by
 refine ⟨?_,hok.fr,hok.tr⟩
 show [f,t,d,p]=[f,t,d,bi (p != 0)]
 rcases hok.pp with h0 | h0<;>rw [h0]<;>rfl
theorem qKj {b h:List Int} (hc:Clean b) {s:Int} (hs:s=0 \/ s=1) {m:List Int} (hm:m∈mvs b h s):Mv4 m /\ qAs b h s (m0 m) (m1 m) (m2 m) (m3 m)=true:=by
 obtain ⟨f,t,d,p,rfl,hok⟩:=qjC hc hs hm
 exact ⟨qi6 hok,hok.mov⟩
theorem qKi {b:List Int} (hc:Clean b) (h:List Int) {s:Int} (hs:s=0 \/ s=1) {m:List Int} (hm:m∈qq b s T_):Mv4 m /\ qAs b h s (m0 m) (m1 m) (m2 m) (m3 m)=true /\ m2 m=0:=by
 have h1:=qKj hc hs (h:=h) (m:=m) (List.mem_append_left _ hm)
 obtain ⟨f,t,p,rfl⟩:=qi7 hm
 exact ⟨h1.1,h1.2,rfl⟩
theorem qPI {b:List Int} (hc:Clean b) {h:List Int} {s:Int} (hs:s=0 \/ s=1) {m:List Int} (hm:m∈qAK b h s T_):Mv4 m /\ qAs b h s (m0 m) (m1 m) (m2 m) (m3 m)=true /\ m0 m=0 /\ 1<=m2 m /\ m2 m<=7 /\ m3 m=false:=by
 have h1:=qKj hc hs (h:=h) (m:=m) (List.mem_append_right _ hm)
 obtain ⟨k,t,hk,hk',rfl⟩:=qi8 hm
 exact ⟨h1.1,h1.2,rfl,by show (1:Int)<=(k:Int);omega,by show (k:Int)<=7;omega,rfl⟩
theorem qPK (b h:List Int) (s:Int) (G:Nat->Bool):qAK b h s G=(qAK b h s T_).filter fun m=>G (m1 m).toNat:=by
 unfold qAK
 rw [List.filter_flatMap]
 apply qIE
 intro k _
 unfold qBY
 split
 ·rfl
 ·rw [List.filter_map]
  unfold sq
  rw [List.filter_map,List.map_map,List.map_map,List.filter_filter]
  congr 1
  apply List.filter_congr
  intro i _
  show (qAr b s k i&&G i)=(G (Int.toNat ((i:Nat):Int))&&(qAr b s k i&&true))
  rw [tn,Bool.and_true,Bool.and_comm]
theorem hdM {m:List Int}:List.headD (List.take 4 m) 0=m0 m /\ List.headD (List.tail (List.take 4 m)) 0=m1 m /\ List.headD (List.tail (List.tail (List.take 4 m))) 0=m2 m /\ (List.headD (List.tail (List.tail (List.tail (List.take 4 m)))) 0 != 0)=m3 m:=⟨hd0 m,hd1 m,hd2 m,by rw [hd3 m];rfl⟩
theorem atL {M:List (List Int)} {i:Nat} (hi:i<M.length):M.getD i []=M[i]:=by rw [List.getD_eq_getElem?_getD,List.getElem?_eq_getElem hi];rfl
def g1 (b:List Int) (s:Int) (m:List Int):Bool:=stB b s (m0 m).toNat (m1 m).toNat
theorem qcZ {b:List Int} (hcl:Clean b) (h:List Int) (S:Int) {s:Int} (hs:s=0 \/ s=1) {k:Nat} (hk:KS b s k) {es:List (List Int×List Int)} (hp:qBk b s k (fun _=>true) es) (chk:Bool) (N:Nat) (M:List (List Int)) (hM:∀ m∈M,Mv4 m) (hl:M.length<=100000):∀ (n i:Nat),i+n=M.length->∀ (L:List (List Int)) (x0 x14:Nat),x0=L.length->x14=L.length->L.length+n<=1000000->∀ F,
  qEu (F+n+1) x0 M.length M.length i b h S (qS b) (qU b) s k (sLo (qo b s)) (sHi (qo b s)) chk x14 L N M es =
   some ((L++(M.drop i).filter (g1 b s)).length,b,h,S,qS b,qU b,s,(k:Int),sLo (qo b s),sHi (qo b s),chk,(L++(M.drop i).filter (g1 b s)).length,L++(M.drop i).filter (g1 b s),es):=by
 intro n
 induction n with
 | zero=>
   intro i hi L x0 x14 e0 e14 hb F
   show qG1 (qEu (F+0)) _ _ _ _ _ _ _ _ _ _ _ _ _ _ _ _ _ _ _=_
   unfold qG1
   rw [qZ (by omega),List.drop_eq_nil_of_le (by omega),List.filter_nil,List.append_nil,e0,e14]
 | succ n ih=>
   intro i hi L x0 x14 e0 e14 hb F
   show qG1 (qEu (F+n+1)) _ _ _ _ _ _ _ _ _ _ _ _ _ _ _ _ _ _ _=_
   unfold qG1
   have hil:i<M.length:=by omega
   obtain ⟨hm1,hm2,hm3⟩:=hM M[i] (List.getElem_mem hil)
   rw [qg (by omega),qAN (by omega) (by omega),tn,atL hil]
   simp only [hdM]
   rw [qac hcl h S hs hk hp hm2 hm3,qA]
   simp only
   rw [w_s (n:=(i:Int)+1) (by omega) (by omega),List.drop_eq_getElem_cons hil,List.filter_cons]
   show br (g1 b s M[i]) _ _=_
   cases hg:g1 b s M[i] with
   | true=>
     rw [b_t,qB9 (by omega),<- hm1]
     rw [tkA e0]
     refine (ih (i+1) (by omega) (L++[M[i]]) (x0+1) (x0+1) (by simp;omega) (by simp;omega) (by simp;omega) F).trans ?_
     simp
   | false=>
     rw [b_f]
     exact ih (i+1) (by omega) L x0 x14 e0 e14 (by omega) F
def pb (b:List Int) (s:Int) (q:Int):List Int:=put b q (16*s+1)
def pmS (b:List Int) (s:Int) (q:Int):Bool:=decide (0<=q /\ q<81)&&(decide (at_ b q=0)&&(chs (pb b s q) (1 - s) q.toNat&&(qq (pb b s q) (1 - s) T_).all fun m=>!g1 (pb b s q) (1 - s) m))
theorem qkN {b:List Int} (b0 h0:List Int) (S0:Int) (by0 sd0:List (List Int)) (hcl:Clean b) (h:List Int) (S:Int) {s:Int} (hs:s=0 \/ s=1) {k:Nat} (hk:KS b s k) {es:List (List Int×List Int)} (hp:qBk b s k (fun _=>true) es) (chk:Bool) (N:Nat) (M:List (List Int)) (hM:∀ m∈M,Mv4 m) (hl:M.length<=100000):∀ (n i:Nat),i+n=M.length->∀ F,
  qEw (F+n+1) M.length M.length i b0 h0 S0 by0 sd0 s k (sLo (qo b s)) (sHi (qo b s)) chk N M b h S (qS b) (qU b) es =
   some (if (M.drop i).all (fun m=>!g1 b s m) then .inr (b0,h0,S0,by0,sd0) else .inl (false,b0,h0,S0,by0,sd0)):=by
 intro n
 induction n with
 | zero=>
   intro i hi F
   show qG4 (qEw (F+0)) _ _ _ _ _ _ _ _ _ _ _ _ _ _ _ _ _ _ _ _ _=_
   unfold qG4
   rw [qZ (by omega),List.drop_eq_nil_of_le (by omega)]
   rfl
 | succ n ih=>
   intro i hi F
   show qG4 (qEw (F+n+1)) _ _ _ _ _ _ _ _ _ _ _ _ _ _ _ _ _ _ _ _ _=_
   unfold qG4
   have hil:i<M.length:=by omega
   obtain ⟨hm1,hm2,hm3⟩:=hM M[i] (List.getElem_mem hil)
   rw [qg (by omega),qAN (by omega) (by omega),tn,atL hil]
   simp only [hdM]
   rw [qac hcl h S hs hk hp hm2 hm3,qA]
   simp only
   rw [w_s (n:=(i:Int)+1) (by omega) (by omega),List.drop_eq_getElem_cons hil,List.all_cons]
   show br (g1 b s M[i]) _ _=_
   cases hg:g1 b s M[i] with
   | true=>rw [b_t];rfl
   | false=>
     rw [b_f]
     exact ih (i+1) (by omega) F
theorem qFl (b:List Int) (s q:Int):pb b s q=mb b s 0 q 1 false:=by
 unfold pb mb laid
 rw [if_pos (by simp),if_pos (by simp)]
theorem qPW {b:List Int} {s q:Int} (hs:s=0 \/ s=1) (hq:0<=q /\ q<81) (h0:at_ b q=0):CanP b (List.replicate 16 1) s 0 q 1 false:=by
 refine ⟨hq,fun _=>⟨by omega,by omega,rfl,rfl,?_,h0⟩,fun h=>absurd h (by omega)⟩
 rcases hs with rfl | rfl<;>decide
theorem qkM {b:List Int} (hcl:Clean b) (h:List Int) {s:Int} (hs:s=0 \/ s=1) {k:Nat} (hk:KS b (1 - s) k) (q:Int):qIQ q b h s (qS b) (qU b)=some (pmS b s q):=by
 have hs':1 - s=0 \/ 1 - s=1:=by omega
 have hpc:pc s 1=16*s+1:=qBC hs (by omega) (by omega) (by omega)
 unfold qIQ pmS
 rw [qKl,qA,hpc,qAX (by omega)]
 by_cases q0:q<0
 ·rw [qg q0,decide_eq_false (p:=0<=q /\ q<81) (by omega)];rfl
 rw [qZ q0]
 by_cases q1:q >= 81
 ·rw [qDA q1,decide_eq_false (p:=0<=q /\ q<81) (by omega)];rfl
 have hq:0<=q /\ q<81:=by omega
 rw [qCN q1,qCk,qA,decide_eq_true hq,Bool.true_and]
 by_cases h0:at_ b q=0
 ·have hP:=qPW hs hq h0
  have hk2:KS (pb b s q) (1 - s) k:=by rw [qFl];exact qKH hcl hs hP hk
  have hcl2:Clean (pb b s q):=hcl.put q _
  have w8:IntKind.wrap IntKind.i8 (1 - s)=1 - s:=w_8 (by omega) (by omega)
  rw [qA9 h0,decide_eq_true h0,Bool.true_and]
  unfold qJR
  rw [qA]
  simp only
  rw [qYL hcl,qA]
  simp only
  rw [show put b q (16*s+1)=pb b s q from rfl,w8,c_8,qTR hcl2 h (1 - s) (by omega),qA]
  simp only
  rw [qDt,qA]
  have hh:has (chs (pb b s q) (1 - s)) q=chs (pb b s q) (1 - s) q.toNat:=by
   unfold has;rw [decide_eq_true hq.1,decide_eq_true hq.2];rfl
  rw [hh]
  cases hch:chs (pb b s q) (1 - s) q.toNat with
  | false=>rfl
  | true=>
    rw [Bool.not_true,b_f,Bool.true_and]
    obtain ⟨es,chk,hl,hp⟩:=qWe hcl2 h hs' hk2
    have hlen:=qPJ (pb b s q) (1 - s) T_
    rw [hl,qA]
    simp only
    rw [qJI,qA]
    simp only
    rw [show (fun _:Nat=>true)=T_ from rfl,qUb hcl2,qA]
    simp only
    obtain ⟨g,hg⟩:=ql (qq (pb b s q) (1 - s) T_).length (by omega)
    have:=qkN b h s (qS b) (qU b) hcl2 h (1 - s) hs' hk2 hp chk (qq (pb b s q) (1 - s) T_).length (qq (pb b s q) (1 - s) T_) (fun m hm=>(qKi hcl2 h hs' hm).1) (by omega) (qq (pb b s q) (1 - s) T_).length 0 (by omega) g
    rw [<- hg] at this
    refine (congrArg (fun z=>ob z _) (this:qEw qD (qq (pb b s q) (1 - s) T_).length (Int.ofNat (qq (pb b s q) (1 - s) T_).length) 0 b h s (qS b) (qU b) (1 - s) k (sLo (qo (pb b s q) (1 - s))) (sHi (qo (pb b s q) (1 - s))) chk (qq (pb b s q) (1 - s) T_).length (qq (pb b s q) (1 - s) T_) (pb b s q) h (1 - s) (qS (pb b s q)) (qU (pb b s q)) es=_)).trans ?_
    rw [qA,List.drop_zero]
    cases (qq (pb b s q) (1 - s) T_).all fun m=>!g1 (pb b s q) (1 - s) m<;>rfl
 ·rw [qAo h0,decide_eq_false h0];rfl
def g2 (b:List Int) (s:Int) (m:List Int):Bool:=!(decide (m2 m=1)&&pmS b s (m1 m))
theorem qcX {b:List Int} (hcl:Clean b) (h:List Int) {s:Int} (hs:s=0 \/ s=1) {k:Nat} (hk:KS b (1 - s) k) (N:Nat) (M:List (List Int)) (hM:∀ m∈M,Mv4 m) (hl:M.length<=100000):∀ (n i:Nat),i+n=M.length->∀ (L:List (List Int)) (x0 x9:Nat),x0=L.length->x9=L.length->L.length+n<=1000000->∀ F,
  qDw (F+n+1) x0 M.length M.length i b h s (qS b) (qU b) x9 L N M =
   some ((L++(M.drop i).filter (g2 b s)).length,b,h,s,qS b,qU b,(L++(M.drop i).filter (g2 b s)).length,L++(M.drop i).filter (g2 b s)):=by
 intro n
 induction n with
 | zero=>
   intro i hi L x0 x9 e0 e9 hb F
   show qG0 (qDw (F+0)) _ _ _ _ _ _ _ _ _ _ _ _ _=_
   unfold qG0
   rw [qZ (by omega),List.drop_eq_nil_of_le (by omega),List.filter_nil,List.append_nil,e0,e9]
 | succ n ih=>
   intro i hi L x0 x9 e0 e9 hb F
   show qG0 (qDw (F+n+1)) _ _ _ _ _ _ _ _ _ _ _ _ _=_
   unfold qG0
   have hil:i<M.length:=by omega
   obtain ⟨hm1,hm2,hm3⟩:=hM M[i] (List.getElem_mem hil)
   rw [qg (by omega),qAN (by omega) (by omega),tn,atL hil]
   simp only [hdM]
   rw [w_s (n:=(i:Int)+1) (by omega) (by omega),List.drop_eq_getElem_cons hil,List.filter_cons,qB9 (by omega),<- hm1,tkA e0]
   have add:g2 b s M[i]=true->qDw (F+n+1) (x0+1) M.length M.length ((i:Int)+1) b h s (qS b) (qU b) (x0+1) (L++[M[i]]) N M =
    some ((L++if g2 b s M[i]=true then M[i] :: (M.drop (i+1)).filter (g2 b s) else (M.drop (i+1)).filter (g2 b s)).length,b,h,s,qS b,qU b,(L++if g2 b s M[i]=true then M[i] :: (M.drop (i+1)).filter (g2 b s) else (M.drop (i+1)).filter (g2 b s)).length,L++if g2 b s M[i]=true then M[i] :: (M.drop (i+1)).filter (g2 b s) else (M.drop (i+1)).filter (g2 b s)):=by
    intro hg
    refine (ih (i+1) (by omega) (L++[M[i]]) (x0+1) (x0+1) (by simp;omega) (by simp;omega) (by simp;omega) F).trans ?_
    rw [if_pos hg]
    simp
   by_cases hd:m2 M[i]=1
   ·rw [qAd hd,qkM hcl h hs hk,qA]
    cases hpm:pmS b s (m1 M[i]) with
    | true=>
      have hg:g2 b s M[i]=false:=by unfold g2;rw [decide_eq_true hd,hpm];rfl
      rw [b_t,hg]
      exact ih (i+1) (by omega) L x0 x9 e0 e9 (by omega) F
    | false=>
      have hg:g2 b s M[i]=true:=by unfold g2;rw [hpm];simp
      rw [b_f]
      exact add hg
   ·have hg:g2 b s M[i]=true:=by unfold g2;rw [decide_eq_false hd];rfl
    rw [qAX hd]
    exact add hg
def lgL (b h:List Int) (s:Int):List (List Int):=(qq b s T_).filter (g1 b s)++(qAK b h s (qo b s)).filter (g2 b s)
theorem qh5 (b h:List Int) (s:Int):(lgL b h s).length<=20000:=by
 unfold lgL
 have h1:=qPJ b s T_
 have h2:=qXL b h s (qo b s)
 have h3:=List.length_filter_le (g1 b s) (qq b s T_)
 have h4:=List.length_filter_le (g2 b s) (qAK b h s (qo b s))
 rw [List.length_append]
 omega
theorem qVm {b:List Int} (hcl:Clean b) (h:List Int) {s:Int} (hs:s=0 \/ s=1) {k k':Nat} (hk:KS b s k) (hk':KS b (1 - s) k'):qGy b h s (qS b) (qU b)=some ((lgL b h s).length,b,h,s,qS b,qU b,(lgL b h s).length,lgL b h s):=by
 unfold qGy
 obtain ⟨es,chk,hl,hp⟩:=qWe hcl h hs hk
 have hlen:=qPJ b s T_
 have hlen2:=qXL b h s (qo b s)
 have hlen3:=List.length_filter_le (g1 b s) (qq b s T_)
 rw [hl,qA]
 simp only
 rw [qJI,qA]
 simp only
 rw [show (fun _:Nat=>true)=T_ from rfl,qUb hcl,qA]
 simp only
 obtain ⟨g,hg⟩:=ql (qq b s T_).length (by omega)
 have:=qcZ hcl h s hs hk hp chk (qq b s T_).length (qq b s T_) (fun m hm=>(qKi hcl h hs hm).1) (by omega) (qq b s T_).length 0 (by omega) [] 0 0 rfl rfl (by simp only [List.length_nil];omega) g
 rw [<- hg,List.drop_zero,List.nil_append] at this
 rw [show qEu qD 0 (qq b s T_).length (Int.ofNat (qq b s T_).length) 0 b h s (qS b) (qU b) s k (sLo (qo b s)) (sHi (qo b s)) chk 0 [] (qq b s T_).length (qq b s T_) es=_ from this,qA]
 simp only
 rw [qgD hcl,qA]
 simp only
 have hM:∀ m∈qAK b h s (qo b s),Mv4 m:=by
  intro m hm
  rw [qPK] at hm
  exact (qPI hcl hs (List.mem_filter.mp hm).1).1
 obtain ⟨g,hg⟩:=ql (qAK b h s (qo b s)).length (by omega)
 have:=qcX hcl h hs hk' (qAK b h s (qo b s)).length (qAK b h s (qo b s)) hM (by omega) (qAK b h s (qo b s)).length 0 (by omega) ((qq b s T_).filter (g1 b s)) _ _ rfl rfl (by omega) g
 rw [<- hg,List.drop_zero] at this
 rw [show qDw qD ((qq b s T_).filter (g1 b s)).length (qAK b h s (qo b s)).length (Int.ofNat (qAK b h s (qo b s)).length) 0 b h s (qS b) (qU b) ((qq b s T_).filter (g1 b s)).length ((qq b s T_).filter (g1 b s)) (qAK b h s (qo b s)).length (qAK b h s (qo b s))=_ from this,qA]
 rfl
def mbM (b:List Int) (s:Int) (m:List Int):List Int:=mb b s (m0 m) (m1 m) (m2 m) (m3 m)
def mhM (b h:List Int) (s:Int) (m:List Int):List Int:=mh b h s (m1 m) (m2 m)
def qC1 (b:List Int) (s:Int) (m:List Int):Bool:=!inC (mbM b s m) s
def qRH (b h:List Int) (s:Int):Bool:=(mvs b h s).all fun m=>!qC1 b s m
def qIR (b h:List Int) (s:Int) (m:List Int):Bool:=qC1 b s m&&(decide (m2 m≠1) || !(inC (mbM b s m) (1 - s)&&qRH (mbM b s m) (mhM b h s m) (1 - s)))
def rlL (b h:List Int) (s:Int):List (List Int):=(mvs b h s).filter (qIR b h s)
end Go.Kk.Pl
namespace Go.Kk.Pl
def sqL (q:Nat):List UInt8:=[UInt8.ofNat (49+q / 9),UInt8.ofNat (97+q % 9)]
def ltr (d:Nat):UInt8:=[0,80,76,78,83,71,66,82].getD d 0
def txL (f t d:Nat) (p:Bool):List UInt8:=if d≠0 then [ltr d,42]++sqL t else sqL f++sqL t++(if p then [43] else [])
def bts (l:List UInt8):ByteArray:={data:={toList:=l }}
def qW (l:List UInt8):List Int:=l.map fun x=>Int.ofNat x.toNat
theorem qQo:∀ q,q<81->qEx (Int.ofNat q)=some (bts (sqL q)):=by decide +kernel
theorem qab:∀ q,q<81->qCt (Int.ofNat (UInt8.ofNat (49+q / 9)).toNat) (Int.ofNat (UInt8.ofNat (97+q % 9)).toNat)=some (Int.ofNat q,true):=by decide +kernel
theorem qaa:∀ q,q<81->(UInt8.ofNat (49+q / 9)).toNat<128 /\ (UInt8.ofNat (97+q % 9)).toNat<128 /\ (UInt8.ofNat (97+q % 9)).toNat≠42:=by decide +kernel
theorem qWi:∀ d,d<8->d≠0->qAh 0 (Int.ofNat d)=some (Int.ofNat d) /\ qKu (Int.ofNat d)=some (bts [ltr d]) /\ (ltr d).toNat<128 /\ qE0 (Int.ofNat (ltr d).toNat) false=some (Int.ofNat d) /\ qAI (Int.ofNat d)=some 0 /\ (Int.ofNat d==8)=false:=by decide +kernel
theorem qTi {s:ByteArray} {i:Nat} (h:(s.get! i).toNat<128):Utf8.decode s i=((s.get! i).toNat,1):=by
 unfold Utf8.decode
 simp only [Nat.add_zero]
 rw [if_pos h]
theorem qIK {l:List UInt8} {i:Nat} (hi:i<l.length):(bts l).get! i=l[i]:=by
 show (Array.mk l)[i]! = l[i]
 rw [getElem!_pos _ _ (by simpa using hi)]
 rfl
theorem qkL (l:List UInt8) (hl:l.length<=5) (h:∀ x∈l,x.toNat<128):∀ (n i:Nat),i+n=l.length->∀ F,
  qA0 (F+n+1) i 0 0 0 false i (qW (l.take i)) (bts l) i=some (l.length,0,0,0,false,l.length,qW l):=by
 intro n
 induction n with
 | zero=>
   intro i hi F
   show qCD (qA0 (F+0)) _ _ _ _ _ _ _ _ _=_
   unfold qCD
   have e:(bts l).size=l.length:=rfl
   rw [e,qE (by rw [Bool.eq_false_iff,ne_eq,Nat.blt_eq];omega),List.take_of_length_le (by omega),show i=l.length by omega]
 | succ n ih=>
   intro i hi F
   show qCD (qA0 (F+n+1)) _ _ _ _ _ _ _ _ _=_
   unfold qCD
   have e:(bts l).size=l.length:=rfl
   have hil:i<l.length:=by omega
   have hd:Utf8.decode (bts l) i=(l[i].toNat,1):=by
    rw [qTi (by rw [qIK hil];exact h _ (List.getElem_mem hil)),qIK hil]
   have h6:(Int.ofNat i==6)=false:=by rw [beq_eq_false_iff_ne];simp only [Int.ofNat_eq_natCast];omega
   rw [e,qB (by rw [Nat.blt_eq];omega),qE h6,qB9 (by omega)]
   unfold qAO qBU
   rw [hd]
   have e2:List.append (List.take i (qW (List.take i l))) [Int.ofNat l[i].toNat]=qW (l.take (i+1)):=by
    unfold qW
    rw [List.take_of_length_le (by simp;omega),List.append_eq]
    rw [List.take_succ_eq_append_getElem hil,List.map_append]
    rfl
   show qA0 (F+n+1) (i+1) 0 0 0 false (i+1) (List.append (List.take i (qW (List.take i l))) [Int.ofNat l[i].toNat]) (bts l) (i+1)=_
   rw [e2]
   exact ih (i+1) (by omega) F
theorem qPV (l:List UInt8) (hl:l.length<=5) (h:∀ x∈l,x.toNat<128):qA0 qD 0 0 0 0 false 0 [] (bts l) 0=some (l.length,0,0,0,false,l.length,qW l):=by
 obtain ⟨g,hg⟩:=ql l.length (by omega)
 have:=qkL l hl h l.length 0 (by omega) g
 rw [<- hg] at this
 exact this
theorem qQ3 {l:List UInt8} (h:l.length<=1000):decide (Int.ofNat (bts l).size<=qr)=true:=by
 rw [decide_eq_true_eq]
 unfold qr
 show ((l.length:Nat):Int)<=_
 omega
structure Nmd (f t d:Nat) (p:Bool):Prop where
 to_:t<81
 drop:d≠0->d<8 /\ f=0 /\ p=false
 move:d=0->f<81 /\ f≠t
theorem qDq {n:Nat} (h:n<=1000):qAZ n=true:=by rw [qLn];unfold qr;simp only [Int.ofNat_eq_natCast];omega
theorem qej {f t d:Nat} {p:Bool} (h:Nmd f t d p):qDQ (Int.ofNat f) (Int.ofNat t) (Int.ofNat d) p=some 0:=by
 have:=h.to_
 unfold qDQ
 simp only [Int.ofNat_eq_natCast]
 rw [qZ (by omega),qE (by simp;omega)]
 by_cases hd:d=0
 ·obtain ⟨h1,h2⟩:=h.move hd
  have e:((f:Int)==(t:Int))=false:=by rw [beq_eq_false_iff_ne];omega
  rw [qE (by simp [hd]),qZ (by omega),qE (by simp;omega),qE e]
 ·obtain ⟨h1,h2,h3⟩:=h.drop hd
  subst h2 h3
  rw [qB (by simp;omega),qZ (by omega),qE (by simp;omega),qE (by simp),qE rfl]
theorem qRM {f t d:Nat} {p:Bool} (h:Nmd f t d p):qCs (Int.ofNat f) (Int.ofNat t) (Int.ofNat d) p=some (bts (txL f t d p)):=by
 unfold qCs txL
 rw [qej h,qA,qE (by rfl)]
 by_cases hd:d=0
 ·obtain ⟨h1,h2⟩:=h.move hd
  subst hd
  rw [qE (by rfl),qQo f h1,qQo t h.to_,if_neg (by simp)]
  simp only [qA]
  cases p with
  | true=>
    rw [b_t,qB (qDq (by show 4<=1000;omega)),qB (qDq (by show 5<=1000;omega))]
    rfl
  | false=>
    rw [b_f,qB (qDq (by show 4<=1000;omega))]
    simp only [Bool.false_eq_true,if_false,List.append_nil]
    rfl
 ·obtain ⟨h1,h2,h3⟩:=h.drop hd
  obtain ⟨e1,e2,e3,e4,e5,e6⟩:=qWi d h1 hd
  rw [qB (by simp;omega),e1,qA,e2,qA,qB (qDq (by show 2<=1000;omega)),qQo t h.to_,qA,qB (qDq (by show 4<=1000;omega)),if_pos hd]
  rfl
theorem qXh {f t d:Nat} {p:Bool} (h:Nmd f t d p):qDR (bts (txL f t d p))=some (Int.ofNat f,Int.ofNat t,Int.ofNat d,p,0):=by
 have st:=qab t h.to_
 have at_:=qaa t h.to_
 by_cases hd:d=0
 ·obtain ⟨h1,h2⟩:=h.move hd
  have sf:=qab f h1
  have af:=qaa f h1
  have e42:(Int.ofNat (UInt8.ofNat (97+f % 9)).toNat==42)=false:=by rw [beq_eq_false_iff_ne];intro e;exact af.2.2 (by injection e)
  have eft:(Int.ofNat f==Int.ofNat t)=false:=by rw [beq_eq_false_iff_ne];intro e;exact h2 (by injection e)
  subst hd
  unfold txL
  rw [if_neg (by simp)]
  cases p with
  | true=>
    have hl:∀ x∈(sqL f++sqL t++(if true=true then [43] else []):List UInt8),x.toNat<128:=by
     intro x hx
     simp only [if_true,sqL,List.cons_append,List.nil_append,List.mem_cons,List.not_mem_nil,or_false] at hx
     rcases hx with rfl | rfl | rfl | rfl | rfl
     ·exact af.1
     ·exact af.2.1
     ·exact at_.1
     ·exact at_.2.1
     ·decide
    unfold qDR
    rw [qB (qQ3 (by simp [sqL])),qPV _ (by simp [sqL]) hl,qA]
    simp only [if_true,sqL,List.cons_append,List.nil_append,qW,List.map_cons,List.map_nil,List.length_cons,List.length_nil,List.getD_cons_zero,List.getD_cons_succ]
    rw [qB (by rfl),qE (by rfl),qB (by rfl),qE e42,qB (by rfl),qB (by rfl),sf,qA]
    simp only
    rw [qB (by rfl),qB (by rfl),st,qA]
    simp only
    rw [qE (by rfl),qE (by rfl),qE eft,qB (by rfl),qB (by rfl),qE (by rfl)]
    rfl
  | false=>
    have hl:∀ x∈(sqL f++sqL t++(if false=true then [43] else []):List UInt8),x.toNat<128:=by
     intro x hx
     simp only [Bool.false_eq_true,if_false,sqL,List.cons_append,List.nil_append,List.mem_cons,List.not_mem_nil,or_false] at hx
     rcases hx with rfl | rfl | rfl | rfl
     ·exact af.1
     ·exact af.2.1
     ·exact at_.1
     ·exact at_.2.1
    unfold qDR
    rw [qB (qQ3 (by simp [sqL])),qPV _ (by simp [sqL]) hl,qA]
    simp only [Bool.false_eq_true,if_false,sqL,List.cons_append,List.nil_append,qW,List.map_cons,List.map_nil,List.length_cons,List.length_nil,List.getD_cons_zero,List.getD_cons_succ]
    rw [qE (by rfl),qB (by rfl),qE e42,qB (by rfl),qB (by rfl),sf,qA]
    simp only
    rw [qB (by rfl),qB (by rfl),st,qA]
    simp only
    rw [qE (by rfl),qE (by rfl),qE eft,qE (by rfl)]
    rfl
 ·obtain ⟨h1,h2,h3⟩:=h.drop hd
  obtain ⟨e1,e2,e3,e4,e5,e6⟩:=qWi d h1 hd
  subst h2 h3
  unfold txL
  rw [if_pos hd]
  have hl:∀ x∈([ltr d,42]++sqL t:List UInt8),x.toNat<128:=by
   intro x hx
   simp only [sqL,List.cons_append,List.nil_append,List.mem_cons,List.not_mem_nil,or_false] at hx
   rcases hx with rfl | rfl | rfl | rfl
   ·exact e3
   ·decide
   ·exact at_.1
   ·exact at_.2.1
  unfold qDR
  rw [qB (qQ3 (by simp [sqL])),qPV _ (by simp [sqL]) hl,qA]
  simp only [sqL,List.cons_append,List.nil_append,qW,List.map_cons,List.map_nil,List.length_cons,List.length_nil,List.getD_cons_zero,List.getD_cons_succ]
  rw [qE (by rfl),qB (by rfl),qB (by rfl),qB (by rfl),e4,qA,qB (by rfl),qB (by rfl),st,qA]
  simp only
  rw [e5,qA,qE (by rfl),qE e6,qE (by rfl),qE (by rfl)]
  rfl
end Go.Kk.Pl
namespace Go.Kk.Pl
def qT:List (List UInt8)->List UInt8
 | []=>[]
 | [p]=>p
 | p :: q :: r=>p++32 :: qT (q :: r)
theorem qFc (p:List UInt8) {r:List (List UInt8)} (h:r≠[]):qT (p :: r)=p++32 :: qT r:=by
 cases r with
 | nil=>exact absurd rfl h
 | cons q r=>rfl
theorem qU4 (q:List UInt8):∀ {ps:List (List UInt8)},ps≠[]->qT (ps++[q])=qT ps++32 :: q
 | [],h=>absurd rfl h
 | [p],_=>rfl
 | p :: a :: r,_=>by
   have:=qU4 q (ps:=a :: r) (by simp)
   show p++32 :: qT ((a :: r)++[q])=(p++32 :: qT (a :: r))++32 :: q
   rw [this]
   simp
theorem qN5:∀ ps:List (List UInt8),List.intercalate [32] ps=qT ps
 | []=>rfl
 | [p]=>by simp [List.intercalate,qT]
 | p :: q :: r=>by
   have:=qN5 (q :: r)
   rw [qFc p (by simp),<- this]
   simp [List.intercalate]
theorem qIM:∀ {ps:List (List UInt8)},(∀ p∈ps,p.length<=5)->(qT ps).length<=6*ps.length
 | [],_=>by simp [qT]
 | [p],h=>by have:=h p (by simp);simp [qT];omega
 | p :: q :: r,h=>by
   have h1:=h p (by simp)
   have h2:=qIM (ps:=q :: r) fun x hx=>h x (by simp at hx ⊢;right;exact hx)
   rw [qFc p (by simp)]
   simp only [List.length_append,List.length_cons] at h2 ⊢
   omega
theorem qYE (l:List UInt8):∃ ps,ps≠[] /\ (∀ p∈ps,(32:UInt8) ∉ p) /\ l=qT ps:=by
 induction l with
 | nil=>exact ⟨[[]],by simp,fun p hp=>by simp at hp;subst hp;simp,rfl⟩
 | cons b l ih=>
   obtain ⟨ps,h1,h2,h3⟩:=ih
   by_cases hb:b=32
   ·subst hb
    refine ⟨[] :: ps,by simp,fun p hp=>?_,?_⟩
    ·rcases List.mem_cons.1 hp with rfl | hp
     ·simp
     ·exact h2 p hp
    ·rw [qFc [] h1,h3];rfl
   ·cases ps with
    | nil=>exact absurd rfl h1
    | cons p r=>
      refine ⟨(b :: p) :: r,by simp,fun x hx=>?_,?_⟩
      ·rcases List.mem_cons.1 hx with rfl | hx
       ·intro hm
        rcases List.mem_cons.1 hm with h | h
        ·exact hb h.symm
        ·exact h2 p (by simp) h
       ·exact h2 x (by simp [hx])
      ·rw [h3]
       cases r with
       | nil=>rfl
       | cons q r=>rfl
theorem qN4:∀ {ps:List (List UInt8)},(∀ p∈ps,(32:UInt8) ∉ p)->ps≠[]->(qT ps).count 32+1=ps.length
 | [],_,h=>absurd rfl h
 | [p],h,_=>by
   have:=List.count_eq_zero.2 (h p (by simp))
   simp [qT,this]
 | p :: q :: r,h,_=>by
   have h1:=List.count_eq_zero.2 (h p (by simp))
   have h2:=qN4 (ps:=q :: r) (fun x hx=>h x (by simp at hx ⊢;right;exact hx)) (by simp)
   rw [qFc p (by simp),List.count_append,h1,List.count_cons_self]
   simp only [List.length_cons] at h2 ⊢
   omega
theorem qgh {p:List UInt8} (r:List UInt8) (h:(32:UInt8) ∉ p):qCU 32 (p++32 :: r)=some p.length:=by
 induction p with
 | nil=>rfl
 | cons b p ih=>
   have hb:(b==32)=false:=by rw [beq_eq_false_iff_ne];rintro rfl;exact h (by simp)
   show qCU 32 (b :: (p++32 :: r))=_
   unfold qCU
   rw [hb,ih fun hm=>h (by simp [hm])]
   rfl
theorem qEi (l:List UInt8) (a b:Nat):(bts l).extract a b=bts ((l.take b).drop a):=by
 have h1:((bts l).extract a b).data=(bts ((l.take b).drop a)).data:=by
  rw [ByteArray.data_extract]
  apply Array.ext'
  rw [Array.toList_extract]
  show l.extract a b=_
  rw [List.extract_eq_take_drop,List.drop_take]
  rfl
 cases h:(bts l).extract a b with
 | mk d=>rw [h] at h1;show ByteArray.mk d=_;simp only at h1;rw [h1]
theorem qAY (l:List UInt8):(bts l).size=l.length:=rfl
theorem qA2 {l:List UInt8} (h:l.length<=1000000):decide (Int.ofNat (bts l).size<=qr)=true:=by
 rw [decide_eq_true_eq]
 unfold qr
 show ((l.length:Nat):Int)<=_
 omega
theorem qID {n:Nat} (h:n<=1000000):qAZ n=true:=by rw [qLn];unfold qr;simp only [Int.ofNat_eq_natCast];omega
theorem qF8 (a b:List UInt8):qv (bts a) (bts b)=decide (a=b):=by
 unfold qv
 show (a==b)=_
 rw [Bool.eq_iff_iff,beq_iff_eq,decide_eq_true_eq]
theorem qTK (l:List UInt8) (i:Nat):qAB (bts l) i=Int.ofNat (l.getD i 0).toNat:=rfl
def qBJ:ByteArray:={data:=#[32]}
theorem qJP:decide (Int.ofNat (ByteArray.size qBJ)<=qr)=true:=qA2 (l:=[32]) (by simp)
theorem qgm {l:List UInt8} (hl:l.length<=1000000) (h2:l≠[32]):qDf (bts l) qBJ=some (qGk (bts l) 32):=by
 unfold qDf qI3
 have e0:qv qBJ (bts l)=false:=by
  have:=qF8 [32] l
  show qv (bts [32]) (bts l)=false
  rw [this,decide_eq_false_iff_not]
  exact fun h=>h2 h.symm
 have e1:=qJP
 rw [qB e1,qE (by rfl),qE e0,qB (by rfl),qB (by rfl)]
 unfold qLu
 rw [qB (qID (by rw [qAY];exact hl))]
 rfl
theorem qgk:qDf (bts [32]) qBJ=some 0:=by
 show qDf qBJ qBJ=some 0
 unfold qDf qI3
 rw [qB qJP,qE (by rfl),qB (by rfl)]
 rfl
theorem qgl {p:List UInt8} (r:List UInt8) (h:(32:UInt8) ∉ p) (hl:(p++32 :: r).length<=1000000):qDf (bts (p++32 :: r)) qBJ=some (p.length:Int):=by
 by_cases h2:p++32 :: r=[32]
 ·have hp:p=[]:=by
   cases p with
   | nil=>rfl
   | cons b p=>simp at h2
  subst hp
  rw [h2]
  exact qgk
 ·rw [qgm hl h2]
  unfold qGk
  show some (match qCU 32 (p++32 :: r) with
   | some i=>Int.ofNat i
   | none=>-1)=_
  rw [qgh r h]
  rfl
theorem qe8 {l:List UInt8} (hl:l.length<=1000000):qI1 (bts l) qBJ=some (Int.ofNat (l.count 32)):=by
 unfold qI1
 have e1:=qJP
 rw [qB e1,qE (by rfl),qB (by rfl),qB (by rfl)]
 rw [qB (qID (by rw [qAY];exact hl))]
 rfl
def qAx (p:List UInt8):List Int:=[qw (bts p)]
theorem qnP:∀ (k:Nat) (ps:List (List UInt8)),ps.length=k+1->(∀ p∈ps,(32:UInt8) ∉ p)->(qT ps).length<=1000000->∀ (n i:Nat),i+k+1=n->n<=1000001->∀ (A:List (List Int)),A.length=i->∀ F,
  ∃ q,ps.getLast? = some q /\ qEP (F+k+1) (bts (qT ps)) qBJ 0 ((n:Int) - 1) n i n (A++List.replicate (k+1) [0])=some (bts q,n,(n:Int) - 1,n,A++(ps.dropLast.map qAx)++[[0]]):=by
 intro k
 induction k with
 | zero=>
   intro ps hps hsp hl n i hi hn A hA F
   match ps,hps with
   | [q],_=>
     refine ⟨q,rfl,?_⟩
     rw [qEP.eq_2]
     unfold qLt
     rw [qZ (by omega)]
     simp only [qT,List.dropLast_singleton,List.map_nil,List.append_nil]
     rw [show (i:Int)=(n:Int) - 1 by omega]
     rfl
 | succ k ih=>
   intro ps hps hsp hl n i hi hn A hA F
   match ps,hps with
   | p :: q :: r,hps=>
     have hl1:(p++32 :: qT (q :: r)).length<=1000000:=hl
     obtain ⟨z,e1,e2⟩:=ih (q :: r) (by simpa using hps) (fun x hx=>hsp x (List.mem_cons_of_mem _ hx)) (by rw [List.length_append,List.length_cons] at hl1;omega) n (i+1) (by omega) hn (A++[qAx p]) (by simp [hA]) F
     refine ⟨z,by rw [List.getLast?_cons_cons];exact e1,?_⟩
     rw [qEP.eq_2]
     unfold qLt
     have hp:=hsp p (by simp)
     rw [qg (by omega),qFc p (by simp),qgl _ hp hl1,qA,qZ (by omega)]
     have hlen:(p++32 :: qT (q :: r)).length=p.length+1+(qT (q :: r)).length:=by simp;omega
     have w0:IntKind.wrap .i64 ((p.length:Int)+0)=(p.length:Int):=by rw [Int.add_zero];exact w_s (by omega) (by omega)
     have w1:IntKind.wrap .i64 ((p.length:Int)+Int.ofNat (ByteArray.size qBJ))=((p.length+1:Nat):Int):=by
      show IntKind.wrap .i64 ((p.length:Int)+1)=_
      rw [w_s (by omega) (by omega)]
      omega
     rw [w0,w1,qB (by rw [qAY,qEq (by omega) (by omega)];rfl),qAN (by omega) (by omega),qB qJP,qB (by rw [qAY,qEq (by omega) (by omega)];rfl)]
     rw [tn,tn,tn,qEi,qEi,qAY,w_s (n:=(i:Int)+1) (by omega) (by omega)]
     have t1:((p++32 :: qT (q :: r)).take (p++32 :: qT (q :: r)).length).drop (p.length+1)=qT (q :: r):=by
      rw [List.take_length,List.drop_append,List.drop_of_length_le (by omega)]
      simp
     have t2:((p++32 :: qT (q :: r)).take p.length).drop 0=p:=by simp
     rw [t1,t2]
     have t3:(A++List.replicate (k+1+1) [0]).getD i []=[0]:=by
      rw [List.getD_eq_getElem?_getD,List.getElem?_append_right (by omega),hA,Nat.sub_self]
      rfl
     have t4:(A++List.replicate (k+1+1) [0]).set i (List.set [0] 0 (qw (bts p)))=(A++[qAx p])++List.replicate (k+1) [0]:=by
      rw [List.set_append_right _ _ (by omega),hA,Nat.sub_self]
      simp [List.replicate_succ,qAx]
     rw [t3,t4]
     refine e2.trans ?_
     simp
theorem qnQ {ps:List (List UInt8)} (h0:ps≠[]) (hsp:∀ p∈ps,(32:UInt8) ∉ p) (hl:(qT ps).length<=100000):qI2 (bts (qT ps)) qBJ=some (ps.length,ps.length,ps.map qAx):=by
 have hc:=qN4 hsp h0
 have hcl:(qT ps).count 32<=(qT ps).length:=List.count_le_length
 obtain ⟨k,hk⟩:∃ k,ps.length=k+1:=⟨(qT ps).count 32,hc.symm⟩
 have hkc:(qT ps).count 32=k:=by omega
 unfold qI2 qLr
 have e2:qv qBJ { data:=#[]}=false:=by rfl
 rw [qE (by rfl),qE e2,qB (by rfl),qe8 (by omega),qA,qB (qA2 (by omega)),qAY,hkc]
 have w1:IntKind.wrap .i64 (Int.ofNat k+1)=((k+1:Nat):Int):=by
  rw [show Int.ofNat k=(k:Int) from rfl,w_s (by omega) (by omega)];omega
 have w2:IntKind.wrap .i64 (Int.ofNat (qT ps).length+1)=(((qT ps).length+1:Nat):Int):=by
  rw [show Int.ofNat (qT ps).length=((qT ps).length:Int) from rfl,w_s (by omega) (by omega)];omega
 have hmin:(bif true then bif decide ((((qT ps).length+1:Nat):Int)<((k+1:Nat):Int)) then (((qT ps).length+1:Nat):Int) else ((k+1:Nat):Int) else bif decide ((((qT ps).length+1:Nat):Int)>((k+1:Nat):Int)) then (((qT ps).length+1:Nat):Int) else ((k+1:Nat):Int))=((k+1:Nat):Int):=by
  rw [decide_eq_false (p:=(((qT ps).length+1:Nat):Int)<((k+1:Nat):Int)) (by omega)]
  rfl
 rw [w1,w2,hmin]
 rw [qB (by rw [decide_eq_true_eq];omega),qB (by rw [decide_eq_true_eq];omega),qB (by rw [decide_eq_true_eq];omega)]
 have w3:IntKind.wrap .i64 (((k+1:Nat):Int) - 1)=((k+1:Nat):Int) - 1:=w_s (by omega) (by omega)
 rw [w3,tn]
 obtain ⟨g,hg⟩:=ql k (by omega)
 obtain ⟨q,q1,q2⟩:=qnP k ps hk hsp (by omega) (k+1) 0 (by omega) (by omega) [] rfl g
 rw [<- hg] at q2
 rw [List.nil_append,List.nil_append] at q2
 rw [show qEP qD (bts (qT ps)) qBJ 0 (((k+1:Nat):Int) - 1) (k+1) 0 (k+1) (List.replicate (k+1) [0])=_ from q2,qA]
 simp only
 have hdl:ps.dropLast.length=k:=by rw [List.length_dropLast];omega
 rw [qB (qAQ (by omega) (by omega))]
 have w4:IntKind.wrap .i64 (((k+1:Nat):Int) - 1+1)=((k+1:Nat):Int):=by rw [w_s (by omega) (by omega)];omega
 rw [w4,qB (qEq (by omega) (by omega))]
 have w5:Int.toNat (((k+1:Nat):Int) - 1)=k:=by omega
 rw [w5,tn]
 have t3:(ps.dropLast.map qAx++[[0]]).getD k []=[0]:=by
  rw [List.getD_eq_getElem?_getD,List.getElem?_append_right (by rw [List.length_map];omega),List.length_map,hdl,Nat.sub_self]
  rfl
 have t4:(ps.dropLast.map qAx++[[0]]).set k (List.set [0] 0 (qw (bts q)))=ps.map qAx:=by
  rw [List.set_append_right _ _ (by rw [List.length_map];omega),List.length_map,hdl,Nat.sub_self]
  have:ps=ps.dropLast++[q]:=by
   have hq:ps.getLast h0=q:=by rw [List.getLast?_eq_some_getLast h0] at q1;exact Option.some.inj q1
   rw [<- hq,List.dropLast_concat_getLast h0]
  conv=>rhs;rw [this]
  rw [List.map_append]
  rfl
 rw [t3,t4,hk]
 rfl
end Go.Kk.Pl
namespace Go.Kk.Pl
def fl9 (a:Int):Int:=if 49<=a /\ a<=57 then a - 49 else -1
def rk9 (b:Int):Int:=if 97<=b /\ b<=105 then b - 97 else -1
def kd7 (a:Int):Int:=if a=80 then 0 else if a=76 then 1 else if a=78 then 2 else if a=83 then 3 else if a=71 then 4 else if a=66 then 5 else if a=82 then 6 else -1
def sq2 (a b:Int):Int:=if fl9 a<0 \/ rk9 b<0 then -1 else 9*fl9 a+rk9 b
def qCR:Int×Int×Int×Bool×Int:=(0,0,0,false,70)
def pI:List Int->Int×Int×Int×Bool×Int
 | [a,b,c,d]=>if b=42 then (if kd7 a<0 \/ sq2 c d<0 then qCR else (0,sq2 c d,kd7 a+1,false,0)) else (if sq2 a b<0 \/ sq2 c d<0 \/ sq2 a b=sq2 c d then qCR else (sq2 a b,sq2 c d,0,false,0))
 | [a,b,c,d,e]=>if b=42 then qCR else (if sq2 a b<0 \/ sq2 c d<0 \/ sq2 a b=sq2 c d \/ e≠43 then qCR else (sq2 a b,sq2 c d,0,true,0))
 | _=>qCR
theorem pI4 (a b c d:Int):pI [a,b,c,d]=if b=42 then (if kd7 a<0 \/ sq2 c d<0 then qCR else (0,sq2 c d,kd7 a+1,false,0)) else (if sq2 a b<0 \/ sq2 c d<0 \/ sq2 a b=sq2 c d then qCR else (sq2 a b,sq2 c d,0,false,0)):=rfl
theorem pI5 (a b c d e:Int):pI [a,b,c,d,e]=if b=42 then qCR else (if sq2 a b<0 \/ sq2 c d<0 \/ sq2 a b=sq2 c d \/ e≠43 then qCR else (sq2 a b,sq2 c d,0,true,0)):=rfl
theorem qHG {L:List Int} (h4:L.length≠4) (h5:L.length≠5):pI L=qCR:=by
 match L,h4,h5 with
 | [],_,_=>rfl
 | [_],_,_=>rfl
 | [_,_],_,_=>rfl
 | [_,_,_],_,_=>rfl
 | [_,_,_,_],h4,_=>exact absurd rfl h4
 | [_,_,_,_,_],_,h5=>exact absurd rfl h5
 | _ :: _ :: _ :: _ :: _ :: _ :: _,_,_=>rfl
theorem qNb (a:Int):-1<=fl9 a /\ fl9 a<=8 /\ (128<=a->fl9 a = -1):=by unfold fl9;split<;>omega
theorem qQB (a:Int):-1<=rk9 a /\ rk9 a<=8 /\ (128<=a->rk9 a = -1):=by unfold rk9;split<;>omega
theorem qKC (a:Int):-1<=kd7 a /\ kd7 a<=6 /\ (128<=a->kd7 a = -1):=by
 unfold kd7
 repeat' split
 all_goals omega
theorem qF3 (a b:Int):-1<=sq2 a b /\ sq2 a b<=80 /\ (128<=a \/ 128<=b->sq2 a b = -1):=by
 have h1:=qNb a
 have h2:=qQB b
 unfold sq2
 split<;>omega
theorem qXg {L:List Int} {r:Int} (hr:r∈L) (h:128<=r):pI L=qCR:=by
 by_cases h4:L.length=4
 ·match L,h4 with
  | [a,b,c,d],_=>
    have s1:=qF3 a b
    have s2:=qF3 c d
    have k1:=qKC a
    simp only [List.mem_cons,List.not_mem_nil,or_false] at hr
    rw [pI4]
    by_cases hb:b=42
    ·rw [if_pos hb,if_pos (by omega)]
    ·rw [if_neg hb,if_pos (by omega)]
 ·by_cases h5:L.length=5
  ·match L,h5 with
   | [a,b,c,d,e],_=>
     have s1:=qF3 a b
     have s2:=qF3 c d
     simp only [List.mem_cons,List.not_mem_nil,or_false] at hr
     rw [pI5]
     by_cases hb:b=42
     ·rw [if_pos hb]
     ·rw [if_neg hb,if_pos (by omega)]
  ·exact qHG h4 h5
theorem qfp:∀ n,n<256->qEF { data:=#[49,50,51,52,53,54,55,56,57] } (Int.ofNat n)=some (fl9 (Int.ofNat n)):=by decide +kernel
theorem qfq:∀ n,n<256->qEF { data:=#[97,98,99,100,101,102,103,104,105] } (Int.ofNat n)=some (rk9 (Int.ofNat n)):=by decide +kernel
theorem qUR:∀ n,n<256->qEF { data:=#[80,76,78,83,71,66,82] } (Int.ofNat n)=some (kd7 (Int.ofNat n)):=by decide +kernel
theorem qHV (a b:UInt8):qDX (bts [a,b])=some (sq2 (Int.ofNat a.toNat) (Int.ofNat b.toNat)):=by
 have ha:=UInt8.toNat_lt a
 have hb:=UInt8.toNat_lt b
 have h1:=qNb (Int.ofNat a.toNat)
 have h2:=qQB (Int.ofNat b.toNat)
 unfold qDX
 rw [qB (by rfl),show qAB (bts [a,b]) 0=Int.ofNat a.toNat from rfl,qfp _ ha,qA,qB (by rfl),show qAB (bts [a,b]) 1=Int.ofNat b.toNat from rfl,qfq _ hb,qA]
 unfold sq2
 by_cases g1:fl9 (Int.ofNat a.toNat)<0
 ·rw [qg g1,if_pos (.inl g1)]
 ·by_cases g2:rk9 (Int.ofNat b.toNat)<0
  ·rw [qZ g1,qg g2,if_pos (.inr g2)]
  ·rw [qZ g1,qZ g2,if_neg (by omega),w_s (n:=9*fl9 (Int.ofNat a.toNat)) (by omega) (by omega),w_s (by omega) (by omega)]
theorem qZO {x:List UInt8} (hl:x.length<=1000000):qHQ (bts x)=some (pI (qW x)):=by
 unfold qHQ
 rw [qB (qA2 hl)]
 by_cases h4:x.length=4
 ·match x,h4 with
  | [a,b,c,d],_=>
    have ka:=qKC (Int.ofNat a.toNat)
    have s2:=qF3 (Int.ofNat c.toNat) (Int.ofNat d.toNat)
    have e1:(bts [a,b,c,d]).extract 0 2=bts [a,b]:=qEi _ _ _
    have e2:(bts [a,b,c,d]).extract 2 4=bts [c,d]:=qEi _ _ _
    rw [qE (by rfl),qB (by rfl),show qAB (bts [a,b,c,d]) 1=Int.ofNat b.toNat from rfl,show qAB (bts [a,b,c,d]) 0=Int.ofNat a.toNat from rfl,e1,e2]
    show _=some (pI [Int.ofNat a.toNat,Int.ofNat b.toNat,Int.ofNat c.toNat,Int.ofNat d.toNat])
    rw [pI4]
    by_cases hb:Int.ofNat b.toNat=42
    ·rw [qB (by simpa using hb),if_pos hb,qB (by rfl),qUR _ (UInt8.toNat_lt a),qA,qB (by rfl),qHV,qA,qB (qA2 hl),qE (by rfl)]
     by_cases g1:kd7 (Int.ofNat a.toNat)<0
     ·rw [qg g1,if_pos (.inl g1)];rfl
     ·by_cases g2:sq2 (Int.ofNat c.toNat) (Int.ofNat d.toNat)<0
      ·rw [qZ g1,qg g2,if_pos (.inr g2)];rfl
      ·rw [qZ g1,qZ g2,if_neg (by omega),w_s (by omega) (by omega)]
    ·rw [qE (by simpa using hb),if_neg hb,qB (by rfl),qHV,qA,qB (by rfl),qHV,qA]
     by_cases g1:sq2 (Int.ofNat a.toNat) (Int.ofNat b.toNat)<0
     ·rw [qg g1,if_pos (.inl g1)];rfl
     ·by_cases g2:sq2 (Int.ofNat c.toNat) (Int.ofNat d.toNat)<0
      ·rw [qZ g1,qg g2,if_pos (.inr (.inl g2))];rfl
      ·rw [qZ g1,qZ g2]
       by_cases g3:sq2 (Int.ofNat a.toNat) (Int.ofNat b.toNat)=sq2 (Int.ofNat c.toNat) (Int.ofNat d.toNat)
       ·rw [qB (by simpa using g3),if_pos (.inr (.inr g3))];rfl
       ·rw [qE (by simpa using g3),if_neg (by omega),qB (qA2 hl),qE (by rfl),qB (qA2 hl)];rfl
 ·by_cases h5:x.length=5
  ·match x,h5 with
   | [a, b,c,d,e],_=>
     have s2:=qF3 (Int.ofNat c.toNat) (Int.ofNat d.toNat)
     have e1:(bts [a,b,c,d,e]).extract 0 2=bts [a,b]:=qEi _ _ _
     have e2:(bts [a,b,c,d,e]).extract 2 4=bts [c,d]:=qEi _ _ _
     rw [qB (by rfl),qB (qA2 hl),qE (by rfl),qB (by rfl),show qAB (bts [a,b,c,d,e]) 1=Int.ofNat b.toNat from rfl,show qAB (bts [a,b,c,d,e]) 0=Int.ofNat a.toNat from rfl,show qAB (bts [a,b,c,d,e]) 4=Int.ofNat e.toNat from rfl,e1,e2]
     show _=some (pI [Int.ofNat a.toNat,Int.ofNat b.toNat,Int.ofNat c.toNat,Int.ofNat d.toNat,Int.ofNat e.toNat])
     rw [pI5]
     by_cases hb:Int.ofNat b.toNat=42
     ·rw [qB (by simpa using hb),if_pos hb,qB (by rfl),qUR _ (UInt8.toNat_lt a),qA,qB (by rfl),qHV,qA,qB (qA2 hl),qB (by rfl)]
      rfl
     ·rw [qE (by simpa using hb),if_neg hb,qB (by rfl),qHV,qA,qB (by rfl),qHV,qA]
      by_cases g1:sq2 (Int.ofNat a.toNat) (Int.ofNat b.toNat)<0
      ·rw [qg g1,if_pos (.inl g1)];rfl
      ·by_cases g2:sq2 (Int.ofNat c.toNat) (Int.ofNat d.toNat)<0
       ·rw [qZ g1,qg g2,if_pos (.inr (.inl g2))];rfl
       ·rw [qZ g1,qZ g2]
        by_cases g3:sq2 (Int.ofNat a.toNat) (Int.ofNat b.toNat)=sq2 (Int.ofNat c.toNat) (Int.ofNat d.toNat)
        ·rw [qB (by simpa using g3),if_pos (.inr (.inr (.inl g3)))];rfl
        ·rw [qE (by simpa using g3),qB (qA2 hl),qB (by rfl),qB (by rfl)]
         by_cases g4:Int.ofNat e.toNat=43
         ·rw [qE (by rw [g4];rfl),if_neg (by omega),qB (qA2 hl)];rfl
         ·rw [qB (by simpa using g4),if_pos (.inr (.inr (.inr g4)))];rfl
  ·have e4:(Int.ofNat (bts x).size != 4)=true:=by
    rw [bne_iff_ne,qAY];simp only [Int.ofNat_eq_natCast];omega
   have e5:(Int.ofNat (bts x).size != 5)=true:=by
    rw [bne_iff_ne,qAY];simp only [Int.ofNat_eq_natCast];omega
   rw [qB e4,qB (qA2 hl),qB e5,qHG (by simpa [qW] using h4) (by simpa [qW] using h5)]
   rfl
theorem qHB {a b:Int} (ha:0<=a /\ a<=2147483647) (hb:0<=b /\ b<=2147483647):qCt a b=some (sq2 a b,decide (sq2 a b >= 0)):=by
 have w:∀ {n:Int},0<=n+1000->n<=2147483647->conv .i32 .i64 (IntKind.wrap .i32 n)=n:=by
  intro n h1 h2
  have e1:IntKind.wrap .i32 n=n:=qA5 (by show (-2147483648:Int)<=n;omega) (by show n<=(2147483647:Int);omega)
  rw [e1]
  have e2:IntKind.wrap .i64 n=n:=qL3 (by omega) (by omega)
  unfold conv
  cases IntKind.within .i32 .i64 with
  | true=>rfl
  | false=>exact e2
 unfold qCt qB2
 rw [w (n:=a - 49) (by omega) (by omega),w (n:=b - 97) (by omega) (by omega)]
 have h:(br (decide (a - 49<0)) (some (-1)) (br (decide (a - 49>8)) (some (-1)) (br (decide (b - 97<0)) (some (-1)) (br (decide (b - 97>8)) (some (-1)) (some (IntKind.wrap .i64 (IntKind.wrap .i64 (9*(a - 49))+(b - 97))))))))=some (sq2 a b):=by
  unfold sq2 fl9 rk9
  by_cases g1:a - 49<0
  ·rw [qg g1,if_neg (c:=49<=a /\ a<=57) (by omega),if_pos (.inl (by omega))]
  ·rw [qZ g1]
   by_cases g2:a - 49>8
   ·rw [qB (by simpa using g2),if_neg (c:=49<=a /\ a<=57) (by omega),if_pos (.inl (by omega))]
   ·rw [qE (by simpa using g2)]
    by_cases g3:b - 97<0
    ·rw [qg g3,if_neg (c:=97<=b /\ b<=105) (by omega),if_pos (.inr (by omega))]
    ·rw [qZ g3]
     by_cases g4:b - 97>8
     ·rw [qB (by simpa using g4),if_neg (c:=97<=b /\ b<=105) (by omega),if_pos (.inr (by omega))]
     ·rw [qE (by simpa using g4),if_pos (c:=49<=a /\ a<=57) (by omega),if_pos (c:=97<=b /\ b<=105) (by omega),if_neg (by omega),w_s (n:=9*(a - 49)) (by omega) (by omega),w_s (by omega) (by omega)]
 rw [h,qA]
def qKP:ByteArray:={data:=#[32,80,76,78,83,71,66,82,75]}
theorem qh4:∀ k,k<9->qAO qKP k<128 /\ qBU qKP k=1:=by decide +kernel
theorem qjN {r:Int} (hr:128<=r) (s:Int):∀ (n i:Nat),i+n=9->∀ F,qDT (F+n+1) r false s qKP i=some (.inr ()):=by
 intro n
 induction n with
 | zero=>
   intro i hi F
   rw [qDT.eq_2]
   unfold qKw
   rw [qE (by rw [show i=9 by omega];rfl)]
 | succ n ih=>
   intro i hi F
   obtain ⟨d1,d2⟩:=qh4 i (by omega)
   rw [qDT.eq_2]
   unfold qKw
   rw [qB (by rw [Nat.blt_eq];show i<9;omega),d2]
   by_cases h0:i=0
   ·subst h0
    rw [qB (by rfl)]
    exact ih 1 (by omega) F
   ·rw [qE (by rw [beq_eq_false_iff_ne];simp only [Int.ofNat_eq_natCast];omega),qB (by rw [bne_iff_ne];omega)]
    exact ih (i+1) (by omega) F
def qTU (n:Nat):Bool:=match qE0 (Int.ofNat n) false with
 | some v=>(match qAI v with
   | some sd=>bif decide (kd7 (Int.ofNat n)<0) then (sd != 0||v==8) else (sd==0&&(v != 8&&v==kd7 (Int.ofNat n)+1))
   | none=>false)
 | none=>false
theorem qew:∀ n,n<128->qTU n=true:=by decide +kernel
theorem qYD {r:Int} (hr:0<=r):∃ v sd,qE0 r false=some v /\ qAI v=some sd /\ (kd7 r<0->sd≠0 \/ v=8) /\ (0<=kd7 r->sd=0 /\ v≠8 /\ v=kd7 r+1):=by
 by_cases h:r<128
 ·obtain ⟨n,rfl⟩:∃ n:Nat,r=Int.ofNat n:=⟨r.toNat,by simp only [Int.ofNat_eq_natCast];omega⟩
  have hn:n<128:=by simp only [Int.ofNat_eq_natCast] at h;omega
  have hc:=qew n hn
  unfold qTU at hc
  split at hc
  ·rename_i v hv
   split at hc
   ·rename_i sd hs
    refine ⟨v,sd,hv,hs,fun hk=>?_,fun hk=>?_⟩
    ·rw [decide_eq_true hk] at hc
     simp only [cond_true,Bool.or_eq_true,bne_iff_ne,beq_iff_eq] at hc
     exact hc
    ·rw [decide_eq_false (by omega)] at hc
     simp only [cond_false,Bool.and_eq_true,bne_iff_ne,beq_iff_eq] at hc
     exact hc
   ·cases hc
  ·cases hc
 ·have hk:=(qKC r).2.2 (by omega)
  have hg:qDT qD r false 0 qKP 0=some (.inr ()):=by
   obtain ⟨g,hg⟩:=ql 9 (by omega)
   have:=qjN (r:=r) (by omega) 0 9 0 (by omega) g
   rw [<- hg] at this
   exact this
  refine ⟨0,-1,?_,by rfl,fun _=>.inl (by decide),fun h=>by omega⟩
  unfold qE0
  rw [qB (by simp;omega),qE (by simp;omega)]
  refine (congrArg (fun m=>ob m _) hg).trans ?_
  rfl
theorem qmA:Utf8.runeError=65533:=rfl
theorem qfB {s:ByteArray} {i:Nat} (h:128<=(s.get! i).toNat):128<=(Utf8.decode s i).1:=by
 unfold Utf8.decode
 simp only [Nat.add_zero,qmA]
 rw [if_neg (by omega)]
 repeat' split
 all_goals (try simp only [ge_iff_le,Bool.and_eq_true,decide_eq_true_eq] at *)
 all_goals omega
theorem qZR (s:ByteArray) (pos:Nat):0<=qAO s pos /\ qAO s pos<=2147483647:=by
 unfold qAO
 refine ⟨Int.natCast_nonneg _,?_⟩
 have : (Utf8.decode s pos).1<=2147483647:=by
  unfold Utf8.decode
  have h0:=UInt8.toNat_lt (s.get! (pos+0))
  simp only [Utf8.runeError]
  split
  ·simp only;omega
  ·split
   ·split
    ·simp only;omega
    ·simp
   ·split
    ·split
     ·simp only;omega
     ·simp
    ·split
     ·split
      ·simp only;omega
      ·simp
     ·simp
 have e:Int.ofNat (Utf8.decode s pos).1=((Utf8.decode s pos).1:Int):=rfl
 omega
theorem qly (x:List UInt8):∀ (n:Nat) (L:List Int) (pos:Nat),L.length+n=6->(∀ r∈L,0<=r /\ r<=2147483647)->∀ F,∃ L',(L++L').length<=6 /\ (∀ r∈L++L',0<=r /\ r<=2147483647) /\
  qA0 (F+n+1) L.length 0 0 0 false L.length L (bts x) pos=some ((L++L').length,0,0,0,false,(L++L').length,L++L'):=by
 intro n
 induction n with
 | zero=>
   intro L pos hL hr F
   refine ⟨[],by simp;omega,by simpa using hr,?_⟩
   rw [qA0.eq_2]
   unfold qCD
   rw [qB (b:=(Int.ofNat L.length==6)) (by rw [beq_iff_eq];simp only [Int.ofNat_eq_natCast];omega),List.append_nil]
   cases Nat.blt pos (bts x).size<;>rfl
 | succ n ih=>
   intro L pos hL hr F
   by_cases hp:Nat.blt pos (bts x).size=true
   ·have hd:=qZR (bts x) pos
    obtain ⟨L',h1,h2,h3⟩:=ih (L++[qAO (bts x) pos]) (pos+qBU (bts x) pos) (by simp;omega) (fun r hm=>by
     rcases List.mem_append.1 hm with hm | hm
     ·exact hr r hm
     ·simp at hm;subst hm;exact hd) F
    refine ⟨qAO (bts x) pos :: L',by simpa using h1,by simpa using h2,?_⟩
    rw [qA0.eq_2]
    unfold qCD
    rw [qB hp,qE (by rw [beq_eq_false_iff_ne];simp only [Int.ofNat_eq_natCast];omega),qB9 (by omega)]
    have e:List.append (List.take L.length L) [qAO (bts x) pos]=L++[qAO (bts x) pos]:=by rw [List.take_length];rfl
    rw [e]
    have el:(L++[qAO (bts x) pos]).length=L.length+1:=by simp
    rw [el] at h3
    refine h3.trans ?_
    simp
   ·refine ⟨[],by simp;omega,by simpa using hr,?_⟩
    rw [qA0.eq_2]
    unfold qCD
    rw [qE (by rw [Bool.eq_false_iff];exact hp),List.append_nil]
theorem qFb (x:List UInt8):(qW x).length=x.length:=by simp [qW]
theorem qN3 (x:List UInt8):∀ r∈qW x,0<=r /\ r<=2147483647:=by
 intro r hr
 obtain ⟨b,_,rfl⟩:=List.mem_map.1 hr
 have:=UInt8.toNat_lt b
 simp only [Int.ofNat_eq_natCast]
 omega
theorem qmB (x:List UInt8):∀ (n i:Nat),i+n=6->i<=x.length->∀ F,∃ L,L.length<=6 /\ (∀ r∈L,0<=r /\ r<=2147483647) /\
  qA0 (F+n+1) i 0 0 0 false i (qW (x.take i)) (bts x) i=some (L.length,0,0,0,false,L.length,L) /\ (L=qW (x.take 6) \/ ((∃ r∈L,128<=r) /\ ∃ r∈qW (x.take 6),128<=r)):=by
 intro n
 induction n with
 | zero=>
   intro i hi hx F
   have hl:(qW (x.take i)).length=i:=by rw [qFb,List.length_take];omega
   refine ⟨qW (x.take i),by omega,qN3 _,?_,.inl (by rw [show i=6 by omega])⟩
   rw [qA0.eq_2]
   unfold qCD
   rw [qB (b:=(Int.ofNat i==6)) (by rw [beq_iff_eq];simp only [Int.ofNat_eq_natCast];omega),hl]
   cases Nat.blt i (bts x).size<;>rfl
 | succ n ih=>
   intro i hi hx F
   have hl:(qW (x.take i)).length=i:=by rw [qFb,List.length_take];omega
   by_cases hlt:i<x.length
   ·by_cases ha:x[i].toNat<128
    ·obtain ⟨L,h1,h2,h3,h4⟩:=ih (i+1) (by omega) (by omega) F
     refine ⟨L,h1,h2,?_,h4⟩
     have hd:Utf8.decode (bts x) i=(x[i].toNat,1):=by
      rw [qTi (by rw [qIK hlt];exact ha),qIK hlt]
     rw [qA0.eq_2]
     unfold qCD
     rw [qB (by rw [Nat.blt_eq];exact hlt),qE (by rw [beq_eq_false_iff_ne];simp only [Int.ofNat_eq_natCast];omega),qB9 (by omega)]
     unfold qAO qBU
     rw [hd]
     have e2:List.append (List.take i (qW (List.take i x))) [Int.ofNat x[i].toNat]=qW (x.take (i+1)):=by
      unfold qW
      rw [List.take_of_length_le (by simp;omega),List.append_eq,List.take_succ_eq_append_getElem hlt,List.map_append]
      rfl
     show qA0 (F+(n+1)) (i+1) 0 0 0 false (i+1) (List.append (List.take i (qW (List.take i x))) [Int.ofNat x[i].toNat]) (bts x) (i+1)=_
     rw [e2]
     exact h3
    ·have hge:(128:Int)<=qAO (bts x) i:=by
      have:=qfB (s:=bts x) (i:=i) (by rw [qIK hlt];omega)
      unfold qAO
      simp only [Int.ofNat_eq_natCast]
      omega
     have hd:=qZR (bts x) i
     obtain ⟨L',h1,h2,h3⟩:=qly x n (qW (x.take i)++[qAO (bts x) i]) (i+qBU (bts x) i) (by simp [hl];omega) (fun r hm=>by
      rcases List.mem_append.1 hm with hm | hm
      ·exact qN3 _ r hm
      ·simp at hm;subst hm;exact hd) F
     refine ⟨_,h1,h2,?_,.inr ⟨⟨qAO (bts x) i,by simp,hge⟩,Int.ofNat x[i].toNat,?_,by simp only [Int.ofNat_eq_natCast];omega⟩⟩
     ·rw [qA0.eq_2]
      unfold qCD
      rw [qB (by rw [Nat.blt_eq];exact hlt),qE (by rw [beq_eq_false_iff_ne];simp only [Int.ofNat_eq_natCast];omega),qB9 (by omega)]
      have e:List.append (List.take i (qW (x.take i))) [qAO (bts x) i]=qW (x.take i)++[qAO (bts x) i]:=by rw [List.take_of_length_le (by omega)];rfl
      rw [e]
      have el:(qW (x.take i)++[qAO (bts x) i]).length=i+1:=by simp [hl]
      rw [el] at h3
      exact h3
     ·refine List.mem_map.2 ⟨x[i],?_,rfl⟩
      have:(x.take 6)[i]'(by simp;omega)=x[i]:=List.getElem_take
      rw [<- this]
      exact List.getElem_mem _
   ·refine ⟨qW (x.take i),by omega,qN3 _,?_,.inl (by rw [List.take_of_length_le (by omega),List.take_of_length_le (by omega)])⟩
    rw [qA0.eq_2]
    unfold qCD
    rw [qE (by rw [Bool.eq_false_iff,ne_eq,Nat.blt_eq,qAY];omega),hl]
theorem qXK {x:List UInt8} (hl:x.length<=1000000):qDR (bts x)=some (pI (qW x)):=by
 obtain ⟨g,hg⟩:=ql 6 (by omega)
 obtain ⟨L,h1,h2,h3,h4⟩:=qmB x 6 0 (by omega) (by omega) g
 rw [<- hg] at h3
 have hpi:pI (qW x)=pI L:=by
  rcases h4 with h4 | ⟨⟨r,hr,hr1⟩,r',hr',hr2⟩
  ·by_cases h6:x.length<=6
   ·rw [h4,List.take_of_length_le h6]
   ·have e:(qW (x.take 6)).length=6:=by rw [qFb,List.length_take];omega
    rw [h4,qHG (L:=qW x) (by rw [qFb];omega) (by rw [qFb];omega),qHG (by omega) (by omega)]
  ·rw [qXg hr hr1,qXg (L:=qW x) (r:=r') _ hr2]
   obtain ⟨b,hb,rfl⟩:=List.mem_map.1 hr'
   exact List.mem_map.2 ⟨b,List.mem_of_mem_take hb,rfl⟩
 rw [hpi]
 unfold qDR
 rw [qB (qA2 hl)]
 refine (congrArg (fun m=>ob m _) h3).trans ?_
 rw [qA]
 simp only
 by_cases l4:L.length=4
 ·match L,l4,h2 with
  | [a, b,c,d],_,h2=>
    have ra:=h2 a (by simp)
    have rb:=h2 b (by simp)
    have rc:=h2 c (by simp)
    have rd:=h2 d (by simp)
    rw [qE (by rfl),qB (by rfl)]
    simp only [List.getD_cons_zero,List.getD_cons_succ]
    rw [pI4]
    by_cases hb:b=42
    ·obtain ⟨v,sd,p1,p2,p3,p4⟩:=qYD ra.1
     have s2:=qF3 c d
     rw [qB (by simpa using hb),if_pos hb,qB (by rfl),p1,qA,qB (by rfl),qB (by rfl),qHB rc rd,qA]
     simp only
     rw [p2,qA]
     by_cases g1:kd7 a<0
     ·rw [if_pos (.inl g1)]
      rcases p3 g1 with h | h
      ·rw [qB (by simpa using h)];rfl
      ·by_cases hs:sd=0
       ·rw [qE (by simpa using hs),qB (by simpa using h)];rfl
       ·rw [qB (by simpa using hs)];rfl
     ·obtain ⟨q1,q2,q3⟩:=p4 (by omega)
      rw [qE (by simpa using q1),qE (by simpa using q2)]
      by_cases g2:sq2 c d<0
      ·rw [if_pos (.inr g2),decide_eq_false (p:=sq2 c d >= 0) (by omega),qB (by rfl)];rfl
      ·rw [if_neg (by omega),decide_eq_true (p:=sq2 c d >= 0) (by omega),qE (by rfl),qE (by rfl),q3]
    ·rw [qE (by simpa using hb),if_neg hb,qB (by rfl),qB (by rfl),qHB ra rb,qA]
     simp only
     rw [qB (by rfl),qB (by rfl),qHB rc rd,qA]
     simp only
     by_cases g1:sq2 a b<0
     ·rw [if_pos (.inl g1),decide_eq_false (p:=sq2 a b >= 0) (by omega),qB (by rfl)];rfl
     ·by_cases g2:sq2 c d<0
      ·rw [if_pos (.inr (.inl g2)),decide_eq_true (p:=sq2 a b >= 0) (by omega),decide_eq_false (p:=sq2 c d >= 0) (by omega),qE (by rfl),qB (by rfl)];rfl
      ·rw [decide_eq_true (p:=sq2 a b >= 0) (by omega),decide_eq_true (p:=sq2 c d >= 0) (by omega),qE (by rfl),qE (by rfl)]
       by_cases g3:sq2 a b=sq2 c d
       ·rw [if_pos (.inr (.inr g3)),qB (by simpa using g3)];rfl
       ·rw [if_neg (by omega),qE (by simpa using g3),qE (by rfl)]
        rfl
 ·by_cases l5:L.length=5
  ·match L,l5,h2 with
   | [a, b,c,d,e],_,h2=>
     have ra:=h2 a (by simp)
     have rb:=h2 b (by simp)
     have rc:=h2 c (by simp)
     have rd:=h2 d (by simp)
     rw [qB (by rfl),qE (by rfl),qB (by rfl)]
     simp only [List.getD_cons_zero,List.getD_cons_succ]
     rw [pI5]
     by_cases hb:b=42
     ·obtain ⟨v,sd,p1,p2,p3,p4⟩:=qYD ra.1
      rw [qB (by simpa using hb),if_pos hb,qB (by rfl),p1,qA,qB (by rfl),qB (by rfl),qHB rc rd,qA]
      simp only
      rw [p2,qA]
      by_cases hs:sd=0
      ·rw [qE (by simpa using hs)]
       by_cases hv:v=8
       ·rw [qB (by simpa using hv)];rfl
       ·rw [qE (by simpa using hv)]
        cases decide (sq2 c d >= 0)<;>rfl
      ·rw [qB (by simpa using hs)];rfl
     ·rw [qE (by simpa using hb),if_neg hb,qB (by rfl),qB (by rfl),qHB ra rb,qA]
      simp only
      rw [qB (by rfl),qB (by rfl),qHB rc rd,qA]
      simp only
      by_cases g1:sq2 a b<0
      ·rw [if_pos (.inl g1),decide_eq_false (p:=sq2 a b >= 0) (by omega),qB (by rfl)];rfl
      ·by_cases g2:sq2 c d<0
       ·rw [if_pos (.inr (.inl g2)),decide_eq_true (p:=sq2 a b >= 0) (by omega),decide_eq_false (p:=sq2 c d >= 0) (by omega),qE (by rfl),qB (by rfl)];rfl
       ·rw [decide_eq_true (p:=sq2 a b >= 0) (by omega),decide_eq_true (p:=sq2 c d >= 0) (by omega),qE (by rfl),qE (by rfl)]
        by_cases g3:sq2 a b=sq2 c d
        ·rw [if_pos (.inr (.inr (.inl g3))),qB (by simpa using g3)];rfl
        ·rw [qE (by simpa using g3),qB (by rfl),qB (by rfl)]
         by_cases g4:e=43
         ·rw [if_neg (by omega),qE (by rw [g4];rfl)]
          rfl
         ·rw [if_pos (.inr (.inr (.inr g4))),qB (by simpa using g4)];rfl
  ·rw [qHG l4 l5,qB (by rw [bne_iff_ne];simp only [Int.ofNat_eq_natCast];omega),qB (by rw [bne_iff_ne];simp only [Int.ofNat_eq_natCast];omega)]
   rfl
end Go.Kk.Pl
namespace Go.Kk.Pl
theorem qey {b:List Int} (hc:Clean b) {s:Int} (hs:s=0 \/ s=1) {k':Nat} (hk':KS b (1 - s) k') (hno:inC b (1 - s)=false) {q:Int} (hq:0<=q /\ q<81) (h0:at_ b q=0) {c:Nat} (hcc:c<81) (hch:chs (pb b s q) (1 - s) c=true):c=q.toNat:=by
 have hs':1 - s=0 \/ 1 - s=1:=by omega
 have hP:=qPW hs hq h0
 have hk2:KS (pb b s q) (1 - s) k':=by rw [qFl];exact qKH hc hs hP hk'
 apply Classical.byContradiction
 intro hne
 rw [qEf hs' (hk2.kg hs') hk2.1] at hch
 have hg:(pb b s q).getD c 0=b.getD c 0:=by
  rw [qFl,qD0 hc hs hP hcc,if_neg hne,if_neg (by simp)]
 have ha:atk b (1 - s) k' c=true:=by
  simp only [atk,enm,Bool.and_eq_true] at hch ⊢
  rw [hg] at hch
  refine ⟨hch.1,?_⟩
  rw [qBs] at hch ⊢
  refine hch.2.imp id fun hh=>⟨hh.1,fun i hi=>?_⟩
  have:=hh.2 i hi
  rw [qFl,qRN hc hs hP (qJi hcc hk'.1 hi)] at this
  unfold tk2 fof at this
  simp only [Bool.or_eq_false_iff,decide_eq_false_iff_not] at this
  have h2:=this.2
  rw [if_neg (by simp),decide_eq_false this.1] at h2
  simpa using h2
 unfold inC at hno
 have hE:isE (chs b (1 - s))=true:=by simpa using hno
 have:=qCV.mp hE c hcc
 rw [qEf hs' (hk'.kg hs') hk'.1,ha] at this
 cases this
theorem qig {b:List Int} (hc:Clean b) {s:Int} (hs:s=0 \/ s=1) {k':Nat} (hk':KS b (1 - s) k') (hno:inC b (1 - s)=false) {q:Int} (hq:0<=q /\ q<81) (h0:at_ b q=0) (hh:List Int):
  pmS b s q=(inC (pb b s q) (1 - s)&&qRH (pb b s q) hh (1 - s)):=by
 have hs':1 - s=0 \/ 1 - s=1:=by omega
 have hP:=qPW hs hq h0
 have hk2:KS (pb b s q) (1 - s) k':=by rw [qFl];exact qKH hc hs hP hk'
 have hc2:Clean (pb b s q):=hc.put q _
 have hq81:q.toNat<81:=by omega
 have e1:inC (pb b s q) (1 - s)=chs (pb b s q) (1 - s) q.toNat:=by
  unfold inC
  cases hch:chs (pb b s q) (1 - s) q.toNat with
  | true=>
    cases hE:isE (chs (pb b s q) (1 - s)) with
    | false=>rfl
    | true=>rw [qCV.mp hE _ hq81] at hch;cases hch
  | false=>
    have:isE (chs (pb b s q) (1 - s))=true:=by
     rw [qCV]
     intro i hi
     cases hx:chs (pb b s q) (1 - s) i with
     | false=>rfl
     | true=>rw [qey hc hs hk' hno hq h0 hi hx] at hx;rw [hx] at hch;cases hch
    rw [this];rfl
 unfold pmS
 rw [decide_eq_true hq,decide_eq_true h0,Bool.true_and,Bool.true_and,e1]
 cases hch:chs (pb b s q) (1 - s) q.toNat with
 | false=>rfl
 | true =>
   rw [Bool.true_and,Bool.true_and]
   unfold qRH
   rw [show mvs (pb b s q) hh (1 - s)=qq (pb b s q) (1 - s) T_++qAK (pb b s q) hh (1 - s) T_ from rfl,List.all_append]
   have hB:((qq (pb b s q) (1 - s) T_).all fun m=>!g1 (pb b s q) (1 - s) m)=(qq (pb b s q) (1 - s) T_).all fun m=>!qC1 (pb b s q) (1 - s) m:=by
    rw [Bool.eq_iff_iff,List.all_eq_true,List.all_eq_true]
    have:∀ m∈qq (pb b s q) (1 - s) T_,g1 (pb b s q) (1 - s) m=qC1 (pb b s q) (1 - s) m:=by
     intro m hm
     obtain ⟨_,a2,a3⟩:=qKi hc2 hh hs' hm
     have:=qLJ hc2 hs' (qHA a2).2 hk2
     unfold qC1 mbM g1
     rw [this,if_pos a3]
    constructor
    ·intro h m hm;rw [<- this m hm];exact h m hm
    ·intro h m hm;rw [this m hm];exact h m hm
   have hD:((qAK (pb b s q) hh (1 - s) T_).all fun m=>!qC1 (pb b s q) (1 - s) m)=true:=by
    rw [List.all_eq_true]
    intro m hm
    obtain ⟨_,a2,_,a4,_,_⟩:=qPI hc2 hs' hm
    have hPm:=(qHA a2).2
    have:=qLJ hc2 hs' hPm hk2
    unfold qC1 mbM
    rw [this,if_neg (by omega),Bool.not_eq_true']
    cases ho:qo (pb b s q) (1 - s) (m1 m).toNat with
    | false=>rfl
    | true=>
      exfalso
      rw [qIY hs' hk2] at ho
      rw [qEf hs' (hk2.kg hs') hk2.1] at hch
      have hgq:(pb b s q).getD q.toNat 0=16*s+1:=by
       rw [qFl,qD0 hc hs hP hq81,if_pos rfl]
       unfold laid
       rw [if_pos (by simp)]
      rcases ho _ hq81 hch with h1 | h1
      ·have h2:=(hPm.drop (by omega)).2.2.2.2.2
       rw [qA8 hPm.to_,h1,hgq] at h2
       omega
      ·simp only [atk,Bool.and_eq_true] at hch
       rcases qBs.mp hch.2 with h2 | h2
       ·rw [qLm h2] at h1;cases h1
       ·have h3:=of_decide_eq_true h2.1
        rw [hgq,qGn hs (by omega) (by omega) (by omega)] at h3
        unfold slK at h3
        omega
   rw [hB,hD,Bool.and_true]
theorem qFn {b h:List Int} {s:Int} (hl:b.length=81) (hz:qFK b h s=0):Clean b /\ (s=0 \/ s=1) /\ inC b (1 - s)=false /\ ∃ k k',KS b s k /\ KS b (1 - s) k':=by
 have h1:qBL b h s=0 /\ inC b (1 - s)=false:=by
  unfold qFK at hz
  split at hz
  ·rename_i h;exact absurd hz h
  ·rename_i h
   refine ⟨by simpa using h,?_⟩
   cases hi:inC b (1 - s) with
   | false=>rfl
   | true=>rw [hi] at hz;simp at hz
 obtain ⟨hc,hs⟩:=qNI hl h1.1
 obtain ⟨k,hk⟩:=qKI h1.1 hs
 obtain ⟨k',hk'⟩:=qKI h1.1 (s:=1 - s) (by omega)
 exact ⟨hc,hs,h1.2,k,k',hk,hk'⟩
theorem qWd {b:List Int} (hc:Clean b) (h:List Int) {s:Int} (hs:s=0 \/ s=1) (hno:inC b (1 - s)=false) {k k':Nat} (hk:KS b s k) (hk':KS b (1 - s) k'):lgL b h s=rlL b h s:=by
 unfold lgL rlL
 rw [show mvs b h s=qq b s T_++qAK b h s T_ from rfl,List.filter_append,qPK,List.filter_filter]
 congr 1
 ·apply List.filter_congr
  intro m hm
  obtain ⟨_,a2,a3⟩:=qKi hc h hs hm
  have:=qLJ hc hs (qHA a2).2 hk
  unfold qIR qC1 mbM g1
  rw [this,if_pos a3,decide_eq_true (p:=m2 m≠1) (by omega),Bool.true_or,Bool.and_true]
 ·apply List.filter_congr
  intro m hm
  obtain ⟨_,a2,a3,a4,a5,a6⟩:=qPI hc hs hm
  have hP:=(qHA a2).2
  have:=qLJ hc hs hP hk
  unfold qIR qC1 g2
  rw [show inC (mbM b s m) s=inC (mb b s (m0 m) (m1 m) (m2 m) (m3 m)) s from rfl,this,if_neg (by omega)]
  cases ho:qo b s (m1 m).toNat with
  | false=>simp
  | true=>
    rw [Bool.and_true,Bool.true_and]
    by_cases hd:m2 m=1
    ·have hdr:=hP.drop (by omega)
     rw [decide_eq_true hd,decide_eq_false (p:=m2 m≠1) (by simpa using hd),Bool.true_and,Bool.false_or,qig hc hs hk' hno hP.to_ hdr.2.2.2.2.2 (mhM b h s m)]
     have:mbM b s m=pb b s (m1 m):=by
      unfold mbM
      rw [a3,hd,a6,qFl]
     rw [this]
    ·rw [decide_eq_false hd,decide_eq_true (p:=m2 m≠1) hd];rfl
theorem qgr (b h:List Int) (S:Int) (by_ sd_:List (List Int)) (f t d:Int) (p:Bool) (N:Nat) (M:List (List Int)) (hM:∀ m∈M,Mv4 m) (hl:M.length<=100000):∀ (n i:Nat),i+n=M.length->∀ F,
  qEv (F+n+1) M.length M.length i b h S by_ sd_ f t d p N M=some (if (M.drop i).contains [f,t,d,bi p] then .inl (true,b,h,S,by_,sd_) else .inr (b,h,S,by_,sd_)):=by
 intro n
 induction n with
 | zero=>
   intro i hi F
   show qG3 (qEv (F+0)) _ _ _ _ _ _ _ _ _ _ _ _ _ _=_
   unfold qG3
   rw [qZ (by omega),List.drop_eq_nil_of_le (by omega)]
   rfl
 | succ n ih=>
   intro i hi F
   show qG3 (qEv (F+n+1)) _ _ _ _ _ _ _ _ _ _ _ _ _ _=_
   unfold qG3
   have hil:i<M.length:=by omega
   obtain ⟨hm1,_⟩:=hM M[i] (List.getElem_mem hil)
   rw [qg (by omega),qAN (by omega) (by omega),tn,atL hil]
   simp only [hdM]
   rw [w_s (n:=(i:Int)+1) (by omega) (by omega),List.drop_eq_getElem_cons hil,List.contains_cons]
   have e:(m0 M[i]==f&&(m1 M[i]==t&&(m2 M[i]==d&&m3 M[i]==p)))=([f,t,d,bi p]==M[i]):=by
    rw [Bool.eq_iff_iff,beq_iff_eq]
    simp only [Bool.and_eq_true,beq_iff_eq]
    constructor
    ·rintro ⟨h1,h2,h3,h4⟩
     rw [hm1,h1,h2,h3,h4]
    ·intro he
     rw [<- he]
     refine ⟨rfl,rfl,rfl,?_⟩
     show (bi p != 0)=p
     cases p<;>rfl
   rw [e]
   cases hb:([f,t,d,bi p]==M[i]) with
   | true=>rw [b_t];rfl
   | false=>
     rw [b_f,Bool.false_or]
     exact ih (i+1) (by omega) F
theorem qFN (p:Bool):(bi p != 0)=p:=by cases p<;>rfl
theorem qWC {b:List Int} (_hc:Clean b) {h:List Int} {s:Int} (_hs:s=0 \/ s=1) {m:List Int} (hm:m∈lgL b h s):m∈mvs b h s:=by
 unfold lgL at hm
 rw [List.mem_append] at hm
 rcases hm with hm | hm
 ·exact List.mem_append_left _ (List.mem_filter.mp hm).1
 ·have:=(List.mem_filter.mp hm).1
  rw [qPK] at this
  exact List.mem_append_right _ (List.mem_filter.mp this).1
theorem qhh {b:List Int} (hc:Clean b) (h:List Int) {s:Int} (hs:s=0 \/ s=1) {k k':Nat} (hk:KS b s k) (hk':KS b (1 - s) k') (f t d:Int) (p:Bool):
  qG2 f t d p b h s (qS b) (qU b)=some ((lgL b h s).contains [f,t,d,bi p],b,h,s,qS b,qU b):=by
 unfold qG2
 rw [qVm hc h hs hk hk',qA]
 simp only
 have hlen:=qh5 b h s
 obtain ⟨g,hg⟩:=ql (lgL b h s).length (by omega)
 have:=qgr b h s (qS b) (qU b) f t d p (lgL b h s).length (lgL b h s) (fun m hm=>(qKj hc hs (qWC hc hs hm)).1) (by omega) (lgL b h s).length 0 (by omega) g
 rw [<- hg,List.drop_zero] at this
 rw [show qEv qD (lgL b h s).length (Int.ofNat (lgL b h s).length) 0 b h s (qS b) (qU b) f t d p (lgL b h s).length (lgL b h s)=_ from this,qA]
 cases (lgL b h s).contains [f,t,d,bi p]<;>rfl
end Go.Kk.Pl
namespace Go.Kk.Pl
end Go.Kk.Pl
namespace Go.Kk.Pl
theorem qiq (f t d:Int) (p:Bool):qDQ f t d p=some (qDE f t d p):=by
 unfold qDQ qDE
 by_cases h1:t<0
 ·rw [qg h1,if_pos (by omega)]
 rw [qZ h1]
 by_cases h2:t >= 81
 ·rw [qDA h2,if_pos (by omega)]
 rw [qCN h2,if_neg (by omega)]
 by_cases hd:d=0
 ·rw [qA9 hd,if_neg (by simpa using hd)]
  by_cases h3:f<0
  ·rw [qg h3,if_pos (by omega)]
  rw [qZ h3]
  by_cases h4:f >= 81
  ·rw [qDA h4,if_pos (by omega)]
  rw [qCN h4,if_neg (by omega)]
  by_cases h5:f=t
  ·rw [qAd h5,if_pos h5]
  ·rw [qAX h5,if_neg h5]
 ·rw [qAo hd,if_pos hd]
  by_cases h3:d<0
  ·rw [qg h3,if_neg (by omega)]
  rw [qZ h3]
  by_cases h4:d >= 8
  ·rw [qDA h4,if_neg (by omega)]
  rw [qCN h4]
  by_cases h5:f=0
  ·rw [qA9 h5]
   cases p with
   | true=>rw [b_t,if_neg (by simp)]
   | false=>rw [b_f,if_pos ⟨by omega,by omega,h5,rfl⟩]
  ·rw [qAo h5,if_neg (by omega)]
theorem qee (b h:List Int) {s:Int} (hs:s=0 \/ s=1) (f t d:Int) (p:Bool) (K:Int) (n:Nat) (by_ sides:List (List Int)) (m:Nat) (st:List (List Int)):
  qDo f t d p K n b h s by_ sides m st=some (qDC b h s f t d p):=by
 unfold qDo qDC
 rw [qiq,qA]
 by_cases hm:qDE f t d p=0
 ·obtain ⟨ht,hd,hmv⟩:=qTT hm
  have main:(br (d != 0)
    (ob (qCO s d b h s by_ sides) fun a14=>
    br (decide (a14>0))
     (ob (qAe t b h s by_ sides) fun a15=>
     some (a15==0))
     (some (false)))
    (ob (qAe f b h s by_ sides) fun a14=>
    ob (qAe t b h s by_ sides) fun a15=>
    ob (qAI a14) fun a16=>
    br (a16==s)
     (ob (qAI a15) fun a17=>
     br (a17 != s)
      (ob (q9 a15) fun a18=>
      br (a18 != 8)
       (br (!p)
        (some (true))
        (ob (q9 a14) fun a19=>
        ob (qCb a19) fun a20=>
        some (a20 != 0)))
       (some (false)))
      (some (false)))
     (some (false))))=some (if d≠0 then decide (0<hd_ h s d)&&decide (at_ b t=0)
 else decide (sd (at_ b f)=s /\ sd (at_ b t)≠s /\ kd (at_ b t)≠8)&&(!p||decide (up_ (kd (at_ b f))≠0))):=by
   by_cases h0:d=0
   ·rw [qA9 h0,if_neg (by simpa using h0),qCk,qA,qCk,qA,qEM,qA]
    by_cases e1:sd (at_ b f)=s
    ·rw [qAd e1,qEM,qA]
     by_cases e2:sd (at_ b t)=s
     ·rw [qA9 e2,decide_eq_false (p:=sd (at_ b f)=s /\ sd (at_ b t)≠s /\ kd (at_ b t)≠8) (fun h=>h.2.1 e2)];rfl
     ·rw [qAo e2,qBn,qA]
      by_cases e3:kd (at_ b t)=8
      ·rw [qA9 e3,decide_eq_false (p:=sd (at_ b f)=s /\ sd (at_ b t)≠s /\ kd (at_ b t)≠8) (fun h=>h.2.2 e3)];rfl
      ·rw [qAo e3,decide_eq_true (p:=sd (at_ b f)=s /\ sd (at_ b t)≠s /\ kd (at_ b t)≠8) ⟨e1,e2,e3⟩]
       cases p with
       | false=>rfl
       | true=>
         rw [Bool.not_true,b_f,qBn,qA,qJA,qA]
         by_cases e4:up_ (kd (at_ b f))=0<;>simp [e4]
    ·rw [qAX e1,decide_eq_false (p:=sd (at_ b f)=s /\ sd (at_ b t)≠s /\ kd (at_ b t)≠8) (fun h=>e1 h.1)];rfl
   ·have:=hd h0
    rw [qAo h0,if_pos h0,qJ8 hs (by omega) (by omega),qA]
    by_cases e1:hd_ h s d>0
    ·rw [qGM e1,qCk,qA,decide_eq_true (p:=0<hd_ h s d) e1,Bool.true_and]
     by_cases e2:at_ b t=0<;>simp [e2]
    ·rw [qEb e1,decide_eq_false (p:=0<hd_ h s d) e1,Bool.false_and]
  rw [qA9 hm,decide_eq_true hm,decide_eq_true hs,Bool.true_and,Bool.true_and,<- main]
  rcases hs with rfl | rfl<;>rfl
 ·rw [qAo hm,decide_eq_false hm,Bool.false_and]
theorem qWB {b:List Int} (hc:Clean b) {h:List Int} {s:Int} (hs:s=0 \/ s=1) {k k':Nat} (hno:inC b (1 - s)=false) (hk:KS b s k) (hk':KS b (1 - s) k') {m:List Int} (hm:m∈lgL b h s):
  Mv4 m /\ qAs b h s (m0 m) (m1 m) (m2 m) (m3 m)=true /\ qIR b h s m=true /\ qC1 b s m=true:=by
 have h1:=qKj hc hs (qWC hc hs hm)
 rw [qWd hc h hs hno hk hk'] at hm
 have h2:=(List.mem_filter.mp hm).2
 refine ⟨h1.1,h1.2,h2,?_⟩
 unfold qIR at h2
 rw [Bool.and_eq_true] at h2
 exact h2.1
theorem qip {b h:List Int} {s f t d:Int} {p:Bool} (hm:qAs b h s f t d p=true):qDC b h s f t d p=true:=by
 unfold qAs at hm
 rw [Bool.and_eq_true] at hm
 exact hm.1
end Go.Kk.Pl
namespace Go.Kk.Pl
theorem qEY {p:Nat->Bool} {a n:Nat}:(List.range' a n).any p=false ↔ ∀ i,a<=i->i<a+n->p i=false:=by
 rw [List.any_eq_false]
 constructor
 ·intro h i h1 h2
  have:=h i (List.mem_range'_1.mpr ⟨h1,h2⟩)
  simpa using this
 ·intro h i hi
  obtain ⟨h1,h2⟩:=List.mem_range'_1.mp hi
  rw [h i h1 h2];simp
structure ChkP (b h:List Int) (s:Int):Prop where
 side:s=0 \/ s=1
 good:∀ i,i<81->bsP b i=false
 hands:∀ k,k<8->∀ j,j<2->bsH h k j=false
 kings:nP b 8=1 /\ nP b 24=1
 over:∀ k,1<=k->k<8->qD3 b h k=false
 dead:∀ i,i<81->qBT (b.getD i 0) i=false
 nifu:∀ f,f<9->qCZ b f=false
theorem qTV {b h:List Int} {s:Int}:qBL b h s=0↔ChkP b h s:=by
 constructor
 ·intro hz
  unfold qBL at hz
  split at hz
  ·omega
  rename_i h1
  split at hz
  ·omega
  rename_i h2
  split at hz
  ·omega
  rename_i h3
  split at hz
  ·omega
  rename_i h4
  split at hz
  ·omega
  rename_i h5
  split at hz
  ·omega
  rename_i h6
  split at hz
  ·omega
  rename_i h7
  rw [Bool.not_eq_true,qEY] at h2 h3 h5 h6 h7
  refine ⟨by omega,fun i hi=>h2 i (by omega) (by omega),fun k hk j hj=>?_,by simpa using h4,fun k k1 k2=>h5 k k1 (by omega),fun i hi=>h6 i (by omega) (by omega),fun f hf=>h7 f (by omega) (by omega)⟩
  have:=h3 k (by omega) (by omega)
  rw [qEY] at this
  exact this j (by omega) (by omega)
 ·intro ⟨a1,a2,a3,a4,a5,a6,a7⟩
  unfold qBL
  rw [if_neg (by omega),if_neg (by rw [qEY.mpr fun i _ hi=>a2 i (by omega)];simp),if_neg (by rw [qEY.mpr fun k _ hk=>qEY.mpr fun j _ hj=>a3 k (by omega) j (by omega)];simp),if_neg (by simpa using a4),
   if_neg (by rw [qEY.mpr fun k k1 hk=>a5 k k1 (by omega)];simp),if_neg (by rw [qEY.mpr fun i _ hi=>a6 i (by omega)];simp),if_neg (by rw [qEY.mpr fun i _ hi=>a7 i (by omega)];simp)]
theorem qoq {n:Nat} {p:Nat->Bool}:(List.range n).countP p<=1 ↔ ∀ i j,i<n->j<n->p i=true->p j=true->i=j:=by
 rw [List.countP_eq_length_filter]
 have hn:((List.range n).filter p).Nodup:=List.Nodup.sublist List.filter_sublist List.nodup_range
 have hm:∀ i,i∈(List.range n).filter p↔i<n /\ p i=true:=by
  intro i;rw [List.mem_filter,List.mem_range]
 match he:(List.range n).filter p with
 | []=>
   rw [he] at hm
   refine ⟨fun _ i j hi _ h1 _=>?_,fun _=>by simp⟩
   have:=(hm i).mpr ⟨hi,h1⟩
   cases this
 | [a]=>
   rw [he] at hm
   refine ⟨fun _ i j hi hj h1 h2=>?_,fun _=>by simp⟩
   have e1:=(hm i).mpr ⟨hi,h1⟩
   have e2:=(hm j).mpr ⟨hj,h2⟩
   rw [List.mem_singleton] at e1 e2
   rw [e1,e2]
 | a :: c :: L=>
   rw [he] at hm hn
   refine ⟨fun h=>?_,fun h=>?_⟩
   ·simp at h
   ·exfalso
    have ea:=(hm a).mp (by simp)
    have ec:=(hm c).mp (by simp)
    have:=h a c ea.1 ec.1 ea.2 ec.2
    subst this
    simp at hn
theorem qjE {b:List Int} {x:Int} {f:Nat}:nF b x f<=1 ↔ ∀ r r',r<9->r'<9->b.getD (9*f+r) 0=x->b.getD (9*f+r') 0=x->r=r':=by
 unfold nF
 rw [qoq]
 constructor
 ·intro h r r' hr hr' e e'
  exact h r r' hr hr' (by simpa using e) (by simpa using e')
 ·intro h r r' hr hr' e e'
  exact h r r' hr hr' (by simpa using e) (by simpa using e')
theorem qjF {b:List Int} {x:Int} {f:Nat}:nF b x f=0 ↔ ∀ r,r<9->b.getD (9*f+r) 0≠x:=by
 unfold nF
 rw [List.countP_eq_zero]
 constructor
 ·intro h r hr e
  exact h r (List.mem_range.mpr hr) (by simpa using e)
 ·intro h r hr e
  exact h r (List.mem_range.mp hr) (by simpa using e)
theorem qXO {b:List Int} {s:Int} {k:Nat} (h:KS b s k):nP b (pc s 8)=1:=by
 show qAp (fun i=>b.getD i 0==pc s 8)=1
 rw [qGU]
 exact ⟨k,h.1,fun i hi=>by rw [beq_iff_eq];exact h.2 i hi⟩
theorem qaZ {b h:List Int} {s:Int} (hl:b.length=81) (hf:qBI h) (hz:qBL b h s=0):Sound b h s:=by
 obtain ⟨hc,_⟩:=qNI hl hz
 obtain ⟨v,hv,hS⟩:=qei hc hf s
 rw [qln hl hf] at hv
 exact hS (by rw [<- Option.some.inj hv];exact hz)
theorem qex {b h:List Int} {s f t d:Int} {p:Bool} (hl:b.length=81) (hf:qBI h) (hh:h.length=16) (hz:qBL b h s=0) (hm:qAs b h s f t d p=true):qBL (mb b s f t d p) (mh b h s t d) (1 - s)=0:=by
 obtain ⟨hc,hs⟩:=qNI hl hz
 have hP:=(qHA hm).2
 have hS:=qaZ hl hf hz
 have hC:=qTV.mp hz
 have hs':1 - s=0 \/ 1 - s=1:=by omega
 obtain ⟨k,hk⟩:=qKI hz hs
 obtain ⟨k',hk'⟩:=qKI hz hs'
 have ht:=hP.to_
 have hla:=qGt hs hP
 have hc2:Clean (mb b s f t d p):=qWq hc _ _ _ _ _
 have hmv:if d≠0 then (!qFU (16*s+d) t&&(decide (d≠1)||decide (nF b (16*s+d) (t.toNat / 9)=0)))=true
   else (rch (at_ b f) f.toNat t.toNat (tk b)&&if p=true then qDP (at_ b f) f t else !qD2 (at_ b f) t)=true:=by
  have:=hm
  unfold qAs at this
  rw [Bool.and_eq_true] at this
  have:=this.2
  by_cases hd:d=0
  ·rw [if_neg (by simpa using hd)] at this ⊢
   exact this
  ·rw [if_pos hd] at this ⊢
   exact this
 have hhand:∀ j:Int,(j=0 \/ j=1)->∀ i:Int,0<=i->i<8->(hd_ (mh b h s t d) j i=hd_ h j i \/ (1<=i /\ 0<=hd_ (mh b h s t d) j i)):=by
  intro j hj i i0 i8
  unfold mh
  by_cases hd:d=0
  ·have hmm:=hP.move hd
   rw [if_neg (by simpa using hd)]
   by_cases h0:at_ b t=0
   ·rw [if_pos h0];exact .inl rfl
   ·rw [if_neg h0]
    have hr:=qIm ((hc.at_ t).resolve_left h0) hmm.2.2.2.2.2.1
    rw [qEp hh hs (by omega) (by omega) 1 hj i0 i8]
    split
    ·right
     rename_i he
     have h1:=hS.hands (rw_ (kd (at_ b t))) (by omega) (by omega)
     have h2:=hS.counts (rw_ (kd (at_ b t))) (by omega) (by omega)
     have h3:0<=hd_ h s (rw_ (kd (at_ b t))) /\ hd_ h s (rw_ (kd (at_ b t)))<=18:=by
      rcases hs with rfl | rfl<;>omega
     rw [w_8 (by omega) (by omega)]
     omega
    ·exact .inl rfl
  ·have hmm:=hP.drop hd
   rw [if_pos hd,qEp hh hs (by omega) (by omega) (-1) hj i0 i8]
   split
   ·right
    have:=qGY hf s d
    rw [w_8 (by omega) (by omega)]
    omega
   ·exact .inl rfl
 rw [qTV]
 refine ⟨hs',fun i hi=>?_,fun i hi j hj=>?_,?_,fun i i1 i2=>?_,fun i hi=>?_,fun g hg=>?_⟩
 ·unfold bsP
  rw [decide_eq_false_iff_not]
  rintro ⟨h1,h2⟩
  have:=hc2.at_ i
  rw [qA8 (by omega),tn] at this
  exact this.elim h1 (fun h=>h h2)
 ·have h1:=hC.hands i hi j hj
  unfold bsH at h1 ⊢
  rw [decide_eq_false_iff_not] at h1 ⊢
  have h2:=hhand j (by omega) i (by omega) (by omega)
  unfold hd_ at h2
  rw [show (j:Int).toNat*8+(i:Int).toNat=j*8+i from rfl] at h2
  omega
 ·have e1:=qXO (qOM hc hs hP hk)
  have e2:=qXO (qKH hc hs hP hk')
  rw [pc8 hs] at e1
  rw [pc8 hs'] at e2
  rcases hs with rfl | rfl
  ·exact ⟨e1,e2⟩
  ·exact ⟨e2,e1⟩
 ·have h1:=hC.over i i1 i2
  unfold qD3 at h1 ⊢
  rw [decide_eq_false_iff_not] at h1 ⊢
  have:=qkm hS hf hh hP (k:=(i:Int)) (by omega) (by omega)
  omega
 ·rw [qD0 hc hs hP hi]
  by_cases h1:i=t.toNat
  ·rw [if_pos h1,h1]
   unfold laid
   by_cases hd:d=0
   ·rw [if_neg (by simpa using hd)]
    rw [if_neg (by simpa using hd)] at hmv
    have hmm:=hP.move hd
    cases p with
    | true=>
      rw [if_pos rfl]
      obtain ⟨u1,u2,u3⟩:=qHs (hmm.2.2.2.2.2.2 rfl)
      have:9<=up_ (kd (at_ b f)):=by
       have hu:=hmm.2.2.2.2.2.2 rfl
       unfold up_ at hu ⊢
       split
       ·omega
       ·rename_i h;rw [if_neg h] at hu;exact absurd rfl hu
      unfold qBT
      rw [qGn hs u1 u2 u3,decide_eq_false_iff_not]
      omega
    | false=>
      rw [if_neg (by simp)]
      rw [if_neg (by simp),Bool.and_eq_true] at hmv
      have h2:=hmv.2
      cases hdd:qBT (at_ b f) t.toNat with
      | false=>rfl
      | true=>
        exfalso
        have hk:kd (at_ b f)=1 \/ kd (at_ b f)=2 \/ kd (at_ b f)=3:=by
         have:=of_decide_eq_true hdd
         omega
        unfold qD2 at h2
        rw [show t=((t.toNat:Nat):Int) by omega,qNP _ (by omega),hdd] at h2
        have:up_ (kd (at_ b f))≠0:=by unfold up_;rw [if_pos (by omega)];omega
        rw [decide_eq_true this] at h2
        cases h2
   ·rw [if_pos hd]
    rw [if_pos hd,Bool.and_eq_true] at hmv
    have h2:=hmv.1
    rw [show t=((t.toNat:Nat):Int) by omega,qNP _ (by omega)] at h2
    simpa using h2
  ·rw [if_neg h1]
   by_cases h2:d=0 /\ i=f.toNat
   ·rw [if_pos h2]
    unfold qBT
    rw [qEr]
    simp
   ·rw [if_neg h2];exact hC.dead i hi
 ·have key:∀ x:Int,(x=1 \/ x=17)->nF (mb b s f t d p) x g<=1:=by
   intro x hx
   have hxk:kd x=1:=by rcases hx with rfl | rfl<;>decide
   have hold:nF b x g<=1:=by
    have:=hC.nifu g hg
    unfold qCZ at this
    simp only [Bool.or_eq_false_iff,decide_eq_false_iff_not] at this
    rcases hx with rfl | rfl<;>omega
   rw [qjE] at hold ⊢
   have from_:∀ r,r<9->(mb b s f t d p).getD (9*g+r) 0=x->(b.getD (9*g+r) 0=x /\ ¬ (d=0 /\ 9*g+r=f.toNat)) \/ 9*g+r=t.toNat:=by
    intro r hr e
    rw [qD0 hc hs hP (by omega)] at e
    by_cases h1:9*g+r=t.toNat
    ·exact .inr h1
    ·rw [if_neg h1] at e
     by_cases h2:d=0 /\ 9*g+r=f.toNat
     ·rw [if_pos h2] at e
      rcases hx with rfl | rfl<;>omega
     ·rw [if_neg h2] at e
      exact .inl ⟨e,h2⟩
   have lay:∀ r,r<9->9*g+r=t.toNat->(mb b s f t d p).getD (9*g+r) 0=x->∀ r',r'<9->(b.getD (9*g+r') 0=x /\ ¬ (d=0 /\ 9*g+r'=f.toNat))->False:=by
    intro r hr he e r' hr' e'
    rw [qD0 hc hs hP (by omega),if_pos he] at e
    unfold laid at e
    by_cases hd:d=0
    ·rw [if_neg (by simpa using hd)] at e hmv
     have hmm:=hP.move hd
     cases p with
     | true=>
       rw [if_pos rfl] at e
       have hu:=hmm.2.2.2.2.2.2 rfl
       obtain ⟨u1,u2,u3⟩:=qHs hu
       have:kd (16*s+up_ (kd (at_ b f)))=1:=by rw [e,hxk]
       rw [qGn hs u1 u2 u3] at this
       unfold up_ at this
       split at this<;>omega
     | false=>
       rw [if_neg (by simp)] at e
       rw [Bool.and_eq_true] at hmv
       have hr1:=hmv.1
       have hfl:df f.toNat t.toNat=0:=by
        rcases qBs.mp hr1 with h1 | h1
        ·have h2:=of_decide_eq_true h1
         rw [e,hxk] at h2
         unfold qCg at h2
         omega
        ·have h2:=of_decide_eq_true h1.1
         rw [e,hxk] at h2
         unfold slK at h2
         omega
       unfold df fl at hfl
       have hfe:f.toNat=9*g+f.toNat % 9:=by omega
       have:b.getD (9*g+f.toNat % 9) 0=x:=by
        rw [<- hfe,<- qA8 ⟨hmm.1,hmm.2.1⟩];exact e
       have:=hold (f.toNat % 9) r' (by omega) hr' this e'.1
       exact e'.2 ⟨hd,by omega⟩
    ·rw [if_pos hd] at e hmv
     rw [Bool.and_eq_true] at hmv
     have hdd:=hP.drop hd
     have hd1:d=1:=by rcases hs with rfl | rfl<;>rcases hx with rfl | rfl<;>omega
     have hz0:nF b (16*s+d) (t.toNat / 9)=0:=by
      have:=hmv.2
      rw [decide_eq_false (p:=d≠1) (by simpa using hd1),Bool.false_or,decide_eq_true_eq] at this
      exact this
     rw [e,show t.toNat / 9=g by omega,qjF] at hz0
     exact hz0 r' hr' e'.1
   intro r r' hr hr' e e'
   rcases from_ r hr e with h1 | h1
   ·rcases from_ r' hr' e' with h2 | h2
    ·exact hold r r' hr hr' h1.1 h2.1
    ·exact (lay r' hr' h2 e' r hr h1).elim
   ·rcases from_ r' hr' e' with h2 | h2
    ·exact (lay r hr h1 e r' hr' h2).elim
    ·omega
  unfold qCZ
  have k1:=key 1 (.inl rfl)
  have k2:=key 17 (.inr rfl)
  rw [decide_eq_false (by omega),decide_eq_false (by omega)]
  rfl
theorem qcs {b h:List Int} {s f t d:Int} {p:Bool} (hl:b.length=81) (hf:qBI h) (hh:h.length=16) (hz:qBL b h s=0) (hm:qAs b h s f t d p=true) (hsafe:inC (mb b s f t d p) s=false):qFK (mb b s f t d p) (mh b h s t d) (1 - s)=0:=by
 have h1:=qex hl hf hh hz hm
 unfold qFK
 rw [if_neg (by rw [h1];simp),show 1 - (1 - s)=s by omega,hsafe]
 rfl
theorem qRm {b h:List Int} {s:Int} (hz:qFK b h s=0):qBL b h s=0:=by
 unfold qFK at hz
 split at hz
 ·rename_i h;exact absurd hz h
 ·rename_i h;simpa using h
end Go.Kk.Pl
namespace Go.Kk.Pl
end Go.Kk.Pl
