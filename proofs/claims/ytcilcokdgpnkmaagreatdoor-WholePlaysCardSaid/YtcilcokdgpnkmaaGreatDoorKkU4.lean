/- What the program's functions come to, told plainly: the texts of this project that this claim leans on, cut down to what is used. -/
import Derived.Test.YtcilcokdgpnkmaaGreatDoorKkU3
import Derived.Test.YtcilcokdgpnkmaaGreatDoorKkU2
import Derived.Test.YtcilcokdgpnkmaaGreatDoorKkU1
namespace Go.Kk.Pl
def T_ (_:Nat):Bool:=true
theorem qnZ {b:List Int} (hcl:Clean b) (h:List Int) (S:Int) {s:Int} (hs:s=0 \/ s=1) {k:Nat} (hk:KS b s k):∃ es,qHd s b h S (qI b) (qL b)=some es /\ qBy b s k (fun _=>true) es:=by
 obtain⟨es,h1,_,h3⟩:=qna hcl h S hs
 refine⟨es,h1,?_⟩
 have hkg:=hk.kg hs
 have h3:=h3 (by omega)
 rw[hkg,tn] at h3
 intro f hf
 obtain⟨a,a'⟩:=h3 f hf
 have hP:∀ c,qAO b s k f c=true->(enm b s c&&(qAl.any fun x=>pcs b (pc (1 - s) x) c))=true:=by
  intro c hp
  have:=qDR.mp hp
  rw[this.1,qsO hs this.1 this.2.1];rfl
 refine⟨?_,fun c hc _ hp=>a' c hc (hP c hp) hp⟩
 rw[a]
 constructor
 ·rintro ⟨c,x,_,x'⟩;exact⟨c,x,rfl,x'⟩
 ·rintro ⟨c,x,_,x'⟩;exact⟨c,x,hP c x',x'⟩
theorem qYD {b:List Int} (hcl:Clean b) (h:List Int) {s:Int} (hs:s=0 \/ s=1) {k:Nat} (hk:KS b s k):
  ∃ es chk,qIK b h s (qI b) (qL b)=some (s,(k:Int),sLo (qr b s),sHi (qr b s),chk,es) /\ qBy b s k (fun _=>true) es:=by
 obtain⟨es,he,hp⟩:=qnZ hcl h s hs hk
 have hkg:=hk.kg hs
 have hkg':fst (pcs b (pc s 8))=(k:Int):=hkg
 have ha:∀ c,chs b s c=atk b s k c:=qFX hs hkg hk.1
 unfold qIK
 rw[qPp,hkg',qA,qKx,qA]
 simp only
 rw[he,qA,qOg hcl h s (by omega),qA]
 simp only
 rw[qOo,qA]
 by_cases n0:((qAv (chs b s):Nat):Int)=0
 ·rw[ql n0]
  have hE:isE (chs b s)=true:=by rw[qOk,decide_eq_true_eq];omega
  have:∀ i,i<81->(fun _:Nat=>true) i=qr b s i:=by
   intro i _
   symm
   show qr b s i=true
   rw[qKA hs hk]
   intro c hc h1
   rw[<- ha,qCz.mp hE c hc] at h1
   cases h1
  have:=qB8 this
  rw[this.1,this.2]
  exact⟨es,false,rfl,hp⟩
 ·rw [qk n0]
  by_cases n1:((qAv (chs b s):Nat):Int)=1
  ·obtain⟨f,hf,hm⟩:=qHq.mp (show qAv (chs b s)=1 by omega)
   rw[ql n1,qO4,qA,qO9 hf hm,qZS hf hk.1,qA]
   simp only
   rw[qIR,qA]
   simp only
   have:∀ i,i<81->((btw f k).contains i||chs b s i)=qr b s i:=by
    intro i hi
    rw[Bool.eq_iff_iff,Bool.or_eq_true,List.contains_iff_mem,hm i hi,qKA hs hk]
    constructor
    ·intro h1 c hc h2
     rw[<- ha,hm c hc] at h2
     subst h2
     exact h1.elim .inr .inl
    ·intro h1
     exact (h1 f hf (by rw[<- ha];exact (hm f hf).mpr rfl)).elim .inr .inl
   have:=qB8 this
   rw[this.1,this.2]
   exact⟨es,true,rfl,hp⟩
  ·rw [qk n1]
   have hE:isE (chs b s)=false:=by
    rw[qOk,decide_eq_false_iff_not];omega
   obtain⟨c,hc,hc'⟩:∃ c,c<81 /\ chs b s c=true:=by
    apply Classical.byContradiction
    intro hno
    have:isE (chs b s)=true:=by
     rw[qCz]
     intro i hi
     cases hx:chs b s i with
     | false=>rfl
     | true=>exact absurd ⟨i,hi,hx⟩ hno
    rw[hE] at this;cases this
   obtain⟨c2,hc2,hc2',hne⟩:∃ c2,c2<81 /\ chs b s c2=true /\ c≠c2:=by
    apply Classical.byContradiction
    intro hno
    apply n1
    rw[qHq.mpr ⟨c,hc,fun i hi=>⟨fun h1=>?_,fun h1=>h1 ▸ hc'⟩⟩]
    ·rfl
    ·apply Classical.byContradiction
     intro hx
     exact hno ⟨i,hi,h1,fun e=>hx e.symm⟩
   have:∀ i,i<81->(fun _:Nat=>false) i=qr b s i:=by
    intro i hi
    symm
    show qr b s i=false
    cases ho:qr b s i with
    | false=>rfl
    | true=>
      rw[qKA hs hk] at ho
      exact (qth hs hk.1 hc hc2 (by rw[<- ha];exact hc') (by rw[<- ha];exact hc2') hne (ho c hc (by rw[<- ha];exact hc')) (ho c2 hc2 (by rw[<- ha];exact hc2'))).elim
   have:=qB8 this
   rw[qBs,qBr] at this
   exact⟨es,true,by rw[<- this.1,<- this.2],hp⟩
theorem qdu {b:List Int} (hcl:Clean b) (h:List Int) (S:Int) {s:Int} (hs:s=0 \/ s=1) {k:Nat} (hk:KS b s k) {es:List (List Int×List Int)} (hp:qBy b s k (fun _=>true) es) {f t:Int} (hf:0<=f /\ f<81) (ht:0<=t /\ t<81) (d:Int) (p chk:Bool):
  qIL s (k:Int) (sLo (qr b s)) (sHi (qr b s)) chk f t d p b h S (qI b) (qL b) es=some (stB b s f.toNat t.toNat,b,h,S,qI b,qL b,es):=by
 obtain⟨f,rfl⟩:∃ n:Nat,f=n:=⟨f.toNat,by omega⟩
 obtain⟨t,rfl⟩:∃ n:Nat,t=n:=⟨t.toNat,by omega⟩
 rw[tn,tn]
 have hkg:=hk.kg hs
 have hh:∀ g:Nat->Bool,has g (t:Int)=g t:=by
  intro g;unfold has;rw[decide_eq_true (by omega),decide_eq_true (by omega),tn];rfl
 unfold qIL stB
 rw[hkg]
 by_cases hfk:(f:Int)=k
 ·rw[ql hfk,if_pos hfk,qKm hcl,qA]
  simp only
  rw[qKs,qA]
  simp only
  rw[w_s (n:=1 - s) (by omega) (by omega),qYn,qA]
  simp only
  rw[qJl,qA,hfk]
 ·rw[qk hfk,if_neg hfk,qEa,qA,hh]
  cases ho:qr b s t with
  | false=>rfl
  | true=>
    rw[Bool.not_true,b_f,Bool.true_and]
    obtain⟨h1,h2⟩:=hp f (by omega)
    cases hM:qA8 es [(f:Int)] with
    | false=>
      rw[Bool.not_false,b_t]
      have:qG0 b s f t=true:=by
       rw[qMF hs hk]
       intro c hc hpin
       rw[h1.mpr ⟨c,hc,rfl,hpin⟩] at hM;cases hM
      rw[this]
    | true=>
      obtain⟨c,hc,_,hpin⟩:=h1.mp hM
      rw[Bool.not_true,b_f,h2 c hc rfl hpin]
      show (ob (qCQ (sLo (qEM k c)) (sHi (qEM k c)) (t:Int)) _)=_
      rw[qEa,qA,hh]
      have:qEM k c t=qG0 b s f t:=by
       rw[Bool.eq_iff_iff,qKr,qMF hs hk]
       constructor
       ·intro h3 c' hc' hpin'
        rw[qZI hs hk.1 hc' hc hpin' hpin];exact h3
       ·intro h3;exact h3 c hc hpin
      rw[this]
def m0 (m:List Int):Int:=m.getD 0 0
def m1 (m:List Int):Int:=m.getD 1 0
def m2 (m:List Int):Int:=m.getD 2 0
def m3 (m:List Int):Bool:=m.getD 3 0 != 0
def Mv4 (m:List Int):Prop:=m=[m0 m,m1 m,m2 m,bi (m3 m)] /\ (0<=m0 m /\ m0 m<81) /\ (0<=m1 m /\ m1 m<81)
theorem qlu {b h:List Int} {s f t d p:Int} (hok:MvOK b h s f t d p):Mv4 [f,t,d,p]:=by
 refine⟨?_,hok.fr,hok.tr⟩
 show [f,t,d,p]=[f,t,d,bi (p != 0)]
 rcases hok.pp with h0 | h0<;>rw[h0]<;>rfl
theorem qIQ {b h:List Int} (hc:Clean b) {s:Int} (hs:s=0 \/ s=1) {m:List Int} (hm:m∈mvs b h s):Mv4 m /\ qAJ b h s (m0 m) (m1 m) (m2 m) (m3 m)=true:=by
 obtain⟨f,t,d,p,rfl,hok⟩:=ql0 hc hs hm
 exact⟨qlu hok,hok.mov⟩
theorem qLx {b:List Int} (hc:Clean b) (h:List Int) {s:Int} (hs:s=0 \/ s=1) {m:List Int} (hm:m∈qt b s T_):Mv4 m /\ qAJ b h s (m0 m) (m1 m) (m2 m) (m3 m)=true /\ m2 m=0:=by
 have h1:=qIQ hc hs (h:=h) (m:=m) (List.mem_append_left _ hm)
 obtain⟨f,t,p,rfl⟩:=qlw hm
 exact⟨h1.1,h1.2,rfl⟩
theorem qQK {b:List Int} (hc:Clean b) {h:List Int} {s:Int} (hs:s=0 \/ s=1) {m:List Int} (hm:m∈qAS b h s T_):Mv4 m /\ qAJ b h s (m0 m) (m1 m) (m2 m) (m3 m)=true /\ m0 m=0 /\ 1<=m2 m /\ m2 m<=7 /\ m3 m=false:=by
 have h1:=qIQ hc hs (h:=h) (m:=m) (List.mem_append_right _ hm)
 obtain⟨k,t,hk,hk',rfl⟩:=qlx hm
 exact⟨h1.1,h1.2,rfl,by show (1:Int)<=(k:Int);omega,by show (k:Int)<=7;omega,rfl⟩
theorem qQL (b h:List Int) (s:Int) (G:Nat->Bool):qAS b h s G=(qAS b h s T_).filter fun m=>G (m1 m).toNat:=by
 unfold qAS
 rw[List.filter_flatMap]
 apply qJq
 intro k _
 unfold qBi
 split
 ·rfl
 ·rw[List.filter_map]
  unfold sq
  rw[List.filter_map,List.map_map,List.map_map,List.filter_filter]
  congr 1
  apply List.filter_congr
  intro i _
  show (qAx b s k i&&G i)=(G (Int.toNat ((i:Nat):Int))&&(qAx b s k i&&true))
  rw[tn,Bool.and_true,Bool.and_comm]
theorem hdM {m:List Int}:List.headD (List.take 4 m) 0=m0 m /\ List.headD (List.tail (List.take 4 m)) 0=m1 m /\ List.headD (List.tail (List.tail (List.take 4 m))) 0=m2 m /\ (List.headD (List.tail (List.tail (List.tail (List.take 4 m)))) 0 != 0)=m3 m:=⟨hd0 m,hd1 m,hd2 m,by rw[hd3 m];rfl⟩
theorem atL {M:List (List Int)} {i:Nat} (hi:i<M.length):M.getD i []=M[i]:=by rw[List.getD_eq_getElem?_getD,List.getElem?_eq_getElem hi];rfl
def g1 (b:List Int) (s:Int) (m:List Int):Bool:=stB b s (m0 m).toNat (m1 m).toNat
theorem qfp {b:List Int} (hcl:Clean b) (h:List Int) (S:Int) {s:Int} (hs:s=0 \/ s=1) {k:Nat} (hk:KS b s k) {es:List (List Int×List Int)} (hp:qBy b s k (fun _=>true) es) (chk:Bool) (N:Nat) (M:List (List Int)) (hM:∀ m∈M,Mv4 m) (hl:M.length<=100000):∀ (n i:Nat),i+n=M.length->∀ (L:List (List Int)) (x0 x14:Nat),x0=L.length->x14=L.length->L.length+n<=1000000->∀ F,
  qFp (F+n+1) x0 M.length M.length i b h S (qI b) (qL b) s k (sLo (qr b s)) (sHi (qr b s)) chk x14 L N M es =
   some ((L++(M.drop i).filter (g1 b s)).length,b,h,S,qI b,qL b,s,(k:Int),sLo (qr b s),sHi (qr b s),chk,(L++(M.drop i).filter (g1 b s)).length,L++(M.drop i).filter (g1 b s),es):=by
 intro n
 induction n with
 | zero=>
   intro i hi L x0 x14 e0 e14 hb F
   show qIH (qFp (F+0)) _ _ _ _ _ _ _ _ _ _ _ _ _ _ _ _ _ _ _=_
   unfold qIH
   rw[qY (by omega),List.drop_eq_nil_of_le (by omega),List.filter_nil,List.append_nil,e0,e14]
 | succ n ih=>
   intro i hi L x0 x14 e0 e14 hb F
   show qIH (qFp (F+n+1)) _ _ _ _ _ _ _ _ _ _ _ _ _ _ _ _ _ _ _=_
   unfold qIH
   have hil:i<M.length:=by omega
   obtain⟨hm1,hm2,hm3⟩:=hM M[i] (List.getElem_mem hil)
   rw[qZ (by omega),qU (by omega) (by omega),tn,atL hil]
   simp only[hdM]
   rw[qdu hcl h S hs hk hp hm2 hm3,qA]
   simp only
   rw[w_s (n:=(i:Int)+1) (by omega) (by omega),List.drop_eq_getElem_cons hil,List.filter_cons]
   show br (g1 b s M[i]) _ _=_
   cases hg:g1 b s M[i] with
   | true=>
     rw[b_t,qDE (by omega),<- hm1]
     rw[tkA e0]
     refine (ih (i+1) (by omega) (L++[M[i]]) (x0+1) (x0+1) (by simp;omega) (by simp;omega) (by simp;omega) F).trans ?_
     simp
   | false=>
     rw[b_f]
     exact ih (i+1) (by omega) L x0 x14 e0 e14 (by omega) F
def pb (b:List Int) (s:Int) (q:Int):List Int:=put b q (16*s+1)
def pmS (b:List Int) (s:Int) (q:Int):Bool:=decide (0<=q /\ q<81)&&(decide (at_ b q=0)&&(chs (pb b s q) (1 - s) q.toNat&&(qt (pb b s q) (1 - s) T_).all fun m=>!g1 (pb b s q) (1 - s) m))
theorem qnD {b:List Int} (b0 h0:List Int) (S0:Int) (by0 sd0:List (List Int)) (hcl:Clean b) (h:List Int) (S:Int) {s:Int} (hs:s=0 \/ s=1) {k:Nat} (hk:KS b s k) {es:List (List Int×List Int)} (hp:qBy b s k (fun _=>true) es) (chk:Bool) (N:Nat) (M:List (List Int)) (hM:∀ m∈M,Mv4 m) (hl:M.length<=100000):∀ (n i:Nat),i+n=M.length->∀ F,
  qFr (F+n+1) M.length M.length i b0 h0 S0 by0 sd0 s k (sLo (qr b s)) (sHi (qr b s)) chk N M b h S (qI b) (qL b) es =
   some (if (M.drop i).all (fun m=>!g1 b s m) then .inr (b0,h0,S0,by0,sd0) else .inl (false,b0,h0,S0,by0,sd0)):=by
 intro n
 induction n with
 | zero=>
   intro i hi F
   show qIJ (qFr (F+0)) _ _ _ _ _ _ _ _ _ _ _ _ _ _ _ _ _ _ _ _ _=_
   unfold qIJ
   rw[qY (by omega),List.drop_eq_nil_of_le (by omega)]
   rfl
 | succ n ih=>
   intro i hi F
   show qIJ (qFr (F+n+1)) _ _ _ _ _ _ _ _ _ _ _ _ _ _ _ _ _ _ _ _ _=_
   unfold qIJ
   have hil:i<M.length:=by omega
   obtain⟨hm1,hm2,hm3⟩:=hM M[i] (List.getElem_mem hil)
   rw[qZ (by omega),qU (by omega) (by omega),tn,atL hil]
   simp only[hdM]
   rw[qdu hcl h S hs hk hp hm2 hm3,qA]
   simp only
   rw[w_s (n:=(i:Int)+1) (by omega) (by omega),List.drop_eq_getElem_cons hil,List.all_cons]
   show br (g1 b s M[i]) _ _=_
   cases hg:g1 b s M[i] with
   | true=>rw[b_t];rfl
   | false=>
     rw[b_f]
     exact ih (i+1) (by omega) F
theorem qGy (b:List Int) (s q:Int):pb b s q=mb b s 0 q 1 false:=by
 unfold pb mb laid
 rw[if_pos (by simp),if_pos (by simp)]
theorem qQW {b:List Int} {s q:Int} (hs:s=0 \/ s=1) (hq:0<=q /\ q<81) (h0:at_ b q=0):CanP b (List.replicate 16 1) s 0 q 1 false:=by
 refine⟨hq,fun _=>⟨by omega,by omega,rfl,rfl,?_,h0⟩,fun h=>absurd h (by omega)⟩
 rcases hs with rfl | rfl<;>decide
theorem qnC {b:List Int} (hcl:Clean b) (h:List Int) {s:Int} (hs:s=0 \/ s=1) {k:Nat} (hk:KS b (1 - s) k) (q:Int):qJz q b h s (qI b) (qL b)=some (pmS b s q):=by
 have hs':1 - s=0 \/ 1 - s=1:=by omega
 have hpc:pc s 1=16*s+1:=qAy hs (by omega) (by omega) (by omega)
 unfold qJz pmS
 rw[qL2,qA,hpc,qk (by omega)]
 by_cases q0:q<0
 ·rw[qZ q0,decide_eq_false (p:=0<=q /\ q<81) (by omega)];rfl
 rw[qY q0]
 by_cases q1:q >= 81
 ·rw[qCC q1,decide_eq_false (p:=0<=q /\ q<81) (by omega)];rfl
 have hq:0<=q /\ q<81:=by omega
 rw[qBZ q1,qCB,qA,decide_eq_true hq,Bool.true_and]
 by_cases h0:at_ b q=0
 ·have hP:=qQW hs hq h0
  have hk2:KS (pb b s q) (1 - s) k:=by rw[qGy];exact qLf hcl hs hP hk
  have hcl2:Clean (pb b s q):=hcl.put q _
  have w8:IntKind.wrap IntKind.i8 (1 - s)=1 - s:=w_8 (by omega) (by omega)
  rw[qp h0,decide_eq_true h0,Bool.true_and]
  unfold qK4
  rw[qA]
  simp only
  rw[qQc hcl,qA]
  simp only
  rw[show put b q (16*s+1)=pb b s q from rfl,w8,c_8,qOg hcl2 h (1 - s) (by omega),qA]
  simp only
  rw[qEa,qA]
  have hh:has (chs (pb b s q) (1 - s)) q=chs (pb b s q) (1 - s) q.toNat:=by
   unfold has;rw[decide_eq_true hq.1,decide_eq_true hq.2];rfl
  rw[hh]
  cases hch:chs (pb b s q) (1 - s) q.toNat with
  | false=>rfl
  | true=>
    rw[Bool.not_true,b_f,Bool.true_and]
    obtain⟨es,chk,hl,hp⟩:=qYD hcl2 h hs' hk2
    have hlen:=qLy (pb b s q) (1 - s) T_
    rw[hl,qA]
    simp only
    rw[qKx,qA]
    simp only
    rw[show (fun _:Nat=>true)=T_ from rfl,qWZ hcl2,qA]
    simp only
    obtain⟨g,hg⟩:=qe (qt (pb b s q) (1 - s) T_).length (by omega)
    have:=qnD b h s (qI b) (qL b) hcl2 h (1 - s) hs' hk2 hp chk (qt (pb b s q) (1 - s) T_).length (qt (pb b s q) (1 - s) T_) (fun m hm=>(qLx hcl2 h hs' hm).1) (by omega) (qt (pb b s q) (1 - s) T_).length 0 (by omega) g
    rw[<- hg] at this
    refine (congrArg (fun z=>ob z _) (this:qFr qB (qt (pb b s q) (1 - s) T_).length (Int.ofNat (qt (pb b s q) (1 - s) T_).length) 0 b h s (qI b) (qL b) (1 - s) k (sLo (qr (pb b s q) (1 - s))) (sHi (qr (pb b s q) (1 - s))) chk (qt (pb b s q) (1 - s) T_).length (qt (pb b s q) (1 - s) T_) (pb b s q) h (1 - s) (qI (pb b s q)) (qL (pb b s q)) es=_)).trans ?_
    rw[qA,List.drop_zero]
    cases (qt (pb b s q) (1 - s) T_).all fun m=>!g1 (pb b s q) (1 - s) m<;>rfl
 ·rw[qo h0,decide_eq_false h0];rfl
def g2 (b:List Int) (s:Int) (m:List Int):Bool:=!(decide (m2 m=1)&&pmS b s (m1 m))
theorem qfn {b:List Int} (hcl:Clean b) (h:List Int) {s:Int} (hs:s=0 \/ s=1) {k:Nat} (hk:KS b (1 - s) k) (N:Nat) (M:List (List Int)) (hM:∀ m∈M,Mv4 m) (hl:M.length<=100000):∀ (n i:Nat),i+n=M.length->∀ (L:List (List Int)) (x0 x9:Nat),x0=L.length->x9=L.length->L.length+n<=1000000->∀ F,
  qEd (F+n+1) x0 M.length M.length i b h s (qI b) (qL b) x9 L N M =
   some ((L++(M.drop i).filter (g2 b s)).length,b,h,s,qI b,qL b,(L++(M.drop i).filter (g2 b s)).length,L++(M.drop i).filter (g2 b s)):=by
 intro n
 induction n with
 | zero=>
   intro i hi L x0 x9 e0 e9 hb F
   show qIG (qEd (F+0)) _ _ _ _ _ _ _ _ _ _ _ _ _=_
   unfold qIG
   rw[qY (by omega),List.drop_eq_nil_of_le (by omega),List.filter_nil,List.append_nil,e0,e9]
 | succ n ih=>
   intro i hi L x0 x9 e0 e9 hb F
   show qIG (qEd (F+n+1)) _ _ _ _ _ _ _ _ _ _ _ _ _=_
   unfold qIG
   have hil:i<M.length:=by omega
   obtain⟨hm1,hm2,hm3⟩:=hM M[i] (List.getElem_mem hil)
   rw[qZ (by omega),qU (by omega) (by omega),tn,atL hil]
   simp only[hdM]
   rw[w_s (n:=(i:Int)+1) (by omega) (by omega),List.drop_eq_getElem_cons hil,List.filter_cons,qDE (by omega),<- hm1,tkA e0]
   have add:g2 b s M[i]=true->qEd (F+n+1) (x0+1) M.length M.length ((i:Int)+1) b h s (qI b) (qL b) (x0+1) (L++[M[i]]) N M =
    some ((L++if g2 b s M[i]=true then M[i] :: (M.drop (i+1)).filter (g2 b s) else (M.drop (i+1)).filter (g2 b s)).length,b,h,s,qI b,qL b,(L++if g2 b s M[i]=true then M[i] :: (M.drop (i+1)).filter (g2 b s) else (M.drop (i+1)).filter (g2 b s)).length,L++if g2 b s M[i]=true then M[i] :: (M.drop (i+1)).filter (g2 b s) else (M.drop (i+1)).filter (g2 b s)):=by
    intro hg
    refine (ih (i+1) (by omega) (L++[M[i]]) (x0+1) (x0+1) (by simp;omega) (by simp;omega) (by simp;omega) F).trans ?_
    rw[if_pos hg]
    simp
   by_cases hd:m2 M[i]=1
   ·rw[ql hd,qnC hcl h hs hk,qA]
    cases hpm:pmS b s (m1 M[i]) with
    | true=>
      have hg:g2 b s M[i]=false:=by unfold g2;rw[decide_eq_true hd,hpm];rfl
      rw[b_t,hg]
      exact ih (i+1) (by omega) L x0 x9 e0 e9 (by omega) F
    | false=>
      have hg:g2 b s M[i]=true:=by unfold g2;rw[hpm];simp
      rw[b_f]
      exact add hg
   ·have hg:g2 b s M[i]=true:=by unfold g2;rw[decide_eq_false hd];rfl
    rw[qk hd]
    exact add hg
def lgL (b h:List Int) (s:Int):List (List Int):=(qt b s T_).filter (g1 b s)++(qAS b h s (qr b s)).filter (g2 b s)
theorem qJ0 (b h:List Int) (s:Int):(lgL b h s).length<=20000:=by
 unfold lgL
 have h1:=qLy b s T_
 have h2:=qQM b h s (qr b s)
 have h3:=List.length_filter_le (g1 b s) (qt b s T_)
 have h4:=List.length_filter_le (g2 b s) (qAS b h s (qr b s))
 rw[List.length_append]
 omega
theorem qXf {b:List Int} (hcl:Clean b) (h:List Int) {s:Int} (hs:s=0 \/ s=1) {k k':Nat} (hk:KS b s k) (hk':KS b (1 - s) k'):qDN b h s (qI b) (qL b)=some ((lgL b h s).length,b,h,s,qI b,qL b,(lgL b h s).length,lgL b h s):=by
 unfold qDN
 obtain⟨es,chk,hl,hp⟩:=qYD hcl h hs hk
 have hlen:=qLy b s T_
 have hlen2:=qQM b h s (qr b s)
 have hlen3:=List.length_filter_le (g1 b s) (qt b s T_)
 rw[hl,qA]
 simp only
 rw[qKx,qA]
 simp only
 rw[show (fun _:Nat=>true)=T_ from rfl,qWZ hcl,qA]
 simp only
 obtain⟨g,hg⟩:=qe (qt b s T_).length (by omega)
 have:=qfp hcl h s hs hk hp chk (qt b s T_).length (qt b s T_) (fun m hm=>(qLx hcl h hs hm).1) (by omega) (qt b s T_).length 0 (by omega) [] 0 0 rfl rfl (by simp only[List.length_nil];omega) g
 rw[<- hg,List.drop_zero,List.nil_append] at this
 rw[show qFp qB 0 (qt b s T_).length (Int.ofNat (qt b s T_).length) 0 b h s (qI b) (qL b) s k (sLo (qr b s)) (sHi (qr b s)) chk 0 [] (qt b s T_).length (qt b s T_) es=_ from this,qA]
 simp only
 rw[qje hcl,qA]
 simp only
 have hM:∀ m∈qAS b h s (qr b s),Mv4 m:=by
  intro m hm
  rw[qQL] at hm
  exact (qQK hcl hs (List.mem_filter.mp hm).1).1
 obtain⟨g,hg⟩:=qe (qAS b h s (qr b s)).length (by omega)
 have:=qfn hcl h hs hk' (qAS b h s (qr b s)).length (qAS b h s (qr b s)) hM (by omega) (qAS b h s (qr b s)).length 0 (by omega) ((qt b s T_).filter (g1 b s)) _ _ rfl rfl (by omega) g
 rw[<- hg,List.drop_zero] at this
 rw[show qEd qB ((qt b s T_).filter (g1 b s)).length (qAS b h s (qr b s)).length (Int.ofNat (qAS b h s (qr b s)).length) 0 b h s (qI b) (qL b) ((qt b s T_).filter (g1 b s)).length ((qt b s T_).filter (g1 b s)) (qAS b h s (qr b s)).length (qAS b h s (qr b s))=_ from this,qA]
 rfl
def mbM (b:List Int) (s:Int) (m:List Int):List Int:=mb b s (m0 m) (m1 m) (m2 m) (m3 m)
def mhM (b h:List Int) (s:Int) (m:List Int):List Int:=mh b h s (m1 m) (m2 m)
def qBt (b:List Int) (s:Int) (m:List Int):Bool:=!inC (mbM b s m) s
def qKk (b h:List Int) (s:Int):Bool:=(mvs b h s).all fun m=>!qBt b s m
def qDO (b h:List Int) (s:Int) (m:List Int):Bool:=qBt b s m&&(decide (m2 m≠1) || !(inC (mbM b s m) (1 - s)&&qKk (mbM b s m) (mhM b h s m) (1 - s)))
theorem qcJ {b h:List Int} {s:Int} (hc:Clean b) (hs:s=0 \/ s=1) {m:List Int} (hm:qAJ b h s (m0 m) (m1 m) (m2 m) (m3 m)=true):qIr b h s (m0 m) (m1 m) (m2 m) (m3 m)=some (qBt b s m):=by
 unfold qIr
 rw[qQd hc hs (qFt hm).2,qA]
 simp only
 rw[qcC _ _ _ hs,qA]
 rfl
theorem qqe {b h:List Int} (hc:Clean b) {s:Int} (hs:s=0 \/ s=1) (N:Nat) (M:List (List Int)) (hM:∀ m∈M,qAJ b h s (m0 m) (m1 m) (m2 m) (m3 m)=true) (hl:M.length<=100000):∀ (n i:Nat),i+n=M.length->∀ F,
  qGC (F+n+1) M.length i b h s N M=some (if (M.drop i).all (fun m=>!qBt b s m) then .inr () else .inl false):=by
 intro n
 induction n with
 | zero=>
   intro i hi F
   show qIs (qGC (F+0)) _ _ _ _ _ _ _=_
   unfold qIs
   rw[qY (by simp only[Int.ofNat_eq_natCast];omega),List.drop_eq_nil_of_le (by omega)]
   rfl
 | succ n ih=>
   intro i hi F
   show qIs (qGC (F+n+1)) _ _ _ _ _ _ _=_
   unfold qIs
   have hil:i<M.length:=by omega
   rw[qZ (by simp only[Int.ofNat_eq_natCast];omega),qU (by omega) (by omega),tn,atL hil]
   simp only[hdM]
   rw[qcJ hc hs (hM _ (List.getElem_mem hil)),qA,w_s (n:=(i:Int)+1) (by omega) (by omega),List.drop_eq_getElem_cons hil,List.all_cons]
   cases hg:qBt b s M[i] with
   | true=>rw[b_t];rfl
   | false=>
     rw[b_f]
     exact ih (i+1) (by omega) F
theorem qqf {b:List Int} (hc:Clean b) (h:List Int) {s:Int} (hs:s=0 \/ s=1):qKQ b h s=some (qKk b h s):=by
 unfold qKQ
 rw[qb6 b h hs,qA,<- qQN hc h hs]
 simp only
 have hlen:=qYb b h s
 obtain⟨g,hg⟩:=qe (mvs b h s).length (by omega)
 have:=qqe hc hs (mvs b h s).length (mvs b h s) (fun m hm=>(qIQ hc hs hm).2) (by omega) (mvs b h s).length 0 (by omega) g
 rw[<- hg,List.drop_zero] at this
 rw[show qGC qB (mvs b h s).length 0 b h s (mvs b h s).length (mvs b h s)=_ from this,qA]
 unfold qKk
 cases (mvs b h s).all fun m=>!qBt b s m<;>rfl
theorem qqV {b h:List Int} {s:Int} (hc:Clean b) (hs:s=0 \/ s=1) {m:List Int} (hm:qAJ b h s (m0 m) (m1 m) (m2 m) (m3 m)=true):qKP b h s (m0 m) (m1 m) (m2 m) (m3 m)=some (qDO b h s m):=by
 have hs':1 - s=0 \/ 1 - s=1:=by omega
 unfold qKP qDO
 rw[qcJ hc hs hm,qA]
 cases qBt b s m with
 | false=>rfl
 | true=>
   rw[Bool.not_true,b_f,Bool.true_and]
   by_cases hd:m2 m=1
   ·rw[qp hd,decide_eq_false (p:=m2 m≠1) (by simpa using hd),Bool.false_or,qQd hc hs (qFt hm).2,qA]
    simp only
    rw[qcC _ _ _ hs',qA]
    show (br (!inC (mbM b s m) (1 - s)) _ _)=_
    cases inC (mbM b s m) (1 - s) with
    | false=>rfl
    | true=>
      rw[Bool.not_true,b_f,qqf (qQE hc _ _ _ _ _) _ hs',qA]
      rfl
   ·rw[qo hd,decide_eq_true (p:=m2 m≠1) hd];rfl
theorem qnr {b h:List Int} (hc:Clean b) {s:Int} (hs:s=0 \/ s=1) (N:Nat) (M:List (List Int)) (hM:∀ m∈M,Mv4 m /\ qAJ b h s (m0 m) (m1 m) (m2 m) (m3 m)=true) (hl:M.length<=100000):∀ (n i:Nat),i+n=M.length->∀ (L:List (List Int)) (x0 x6:Nat),x0=L.length->x6=L.length->L.length+n<=1000000->∀ F,
  qGB (F+n+1) x0 M.length i b h s x6 L N M=some ((L++(M.drop i).filter (qDO b h s)).length,(L++(M.drop i).filter (qDO b h s)).length,L++(M.drop i).filter (qDO b h s)):=by
 intro n
 induction n with
 | zero=>
   intro i hi L x0 x6 e0 e6 hb F
   show qIq (qGB (F+0)) _ _ _ _ _ _ _ _ _ _=_
   unfold qIq
   rw[qY (by simp only[Int.ofNat_eq_natCast];omega),List.drop_eq_nil_of_le (by omega),List.filter_nil,List.append_nil,e0,e6]
 | succ n ih=>
   intro i hi L x0 x6 e0 e6 hb F
   show qIq (qGB (F+n+1)) _ _ _ _ _ _ _ _ _ _=_
   unfold qIq
   have hil:i<M.length:=by omega
   obtain⟨hm1,hm2⟩:=hM M[i] (List.getElem_mem hil)
   rw[qZ (by simp only[Int.ofNat_eq_natCast];omega),qU (by omega) (by omega),tn,atL hil]
   simp only[hdM]
   rw[qqV hc hs hm2,qA,w_s (n:=(i:Int)+1) (by omega) (by omega),List.drop_eq_getElem_cons hil,List.filter_cons,qU (by omega) (by omega)]
   cases hg:qDO b h s M[i] with
   | true=>
     rw[b_t,qDE (by omega),<- hm1.1,tkA e0]
     refine (ih (i+1) (by omega) (L++[M[i]]) (x0+1) (x0+1) (by simp;omega) (by simp;omega) (by simp;omega) F).trans ?_
     simp
   | false=>
     rw[b_f]
     exact ih (i+1) (by omega) L x0 x6 e0 e6 (by omega) F
def rlL (b h:List Int) (s:Int):List (List Int):=(mvs b h s).filter (qDO b h s)
theorem qcD {b:List Int} (hc:Clean b) (h:List Int) {s:Int} (hs:s=0 \/ s=1):qKO b h s=some ((rlL b h s).length,(rlL b h s).length,rlL b h s):=by
 unfold qKO
 rw[qb6 b h hs,qA,<- qQN hc h hs]
 simp only
 have hlen:=qYb b h s
 obtain⟨g,hg⟩:=qe (mvs b h s).length (by omega)
 have:=qnr hc hs (mvs b h s).length (mvs b h s) (fun m hm=>qIQ hc hs hm) (by omega) (mvs b h s).length 0 (by omega) [] 0 0 rfl rfl (by simp only[List.length_nil];omega) g
 rw[<- hg,List.drop_zero,List.nil_append] at this
 rw[show qGB qB 0 (mvs b h s).length 0 b h s 0 [] (mvs b h s).length (mvs b h s)=_ from this,qA]
 rfl
end Go.Kk.Pl
namespace Go.Kk.Pl
theorem qiO {b:List Int} (hc:Clean b) {s:Int} (hs:s=0 \/ s=1) {k':Nat} (hk':KS b (1 - s) k') (hno:inC b (1 - s)=false) {q:Int} (hq:0<=q /\ q<81) (h0:at_ b q=0) {c:Nat} (hcc:c<81) (hch:chs (pb b s q) (1 - s) c=true):c=q.toNat:=by
 have hs':1 - s=0 \/ 1 - s=1:=by omega
 have hP:=qQW hs hq h0
 have hk2:KS (pb b s q) (1 - s) k':=by rw[qGy];exact qLf hc hs hP hk'
 apply Classical.byContradiction
 intro hne
 rw[qFX hs' (hk2.kg hs') hk2.1] at hch
 have hg:(pb b s q).getD c 0=b.getD c 0:=by
  rw[qGy,qEf hc hs hP hcc,if_neg hne,if_neg (by simp)]
 have ha:atk b (1 - s) k' c=true:=by
  simp only[atk,enm,Bool.and_eq_true] at hch ⊢
  rw[hg] at hch
  refine⟨hch.1,?_⟩
  rw[qB5] at hch ⊢
  refine hch.2.imp id fun hh=>⟨hh.1,fun i hi=>?_⟩
  have:=hh.2 i hi
  rw[qGy,qS4 hc hs hP (qJa hcc hk'.1 hi)] at this
  unfold tk2 fof at this
  simp only[Bool.or_eq_false_iff,decide_eq_false_iff_not] at this
  have h2:=this.2
  rw[if_neg (by simp),decide_eq_false this.1] at h2
  simpa using h2
 unfold inC at hno
 have hE:isE (chs b (1 - s))=true:=by simpa using hno
 have:=qCz.mp hE c hcc
 rw[qFX hs' (hk'.kg hs') hk'.1,ha] at this
 cases this
theorem qlf {b:List Int} (hc:Clean b) {s:Int} (hs:s=0 \/ s=1) {k':Nat} (hk':KS b (1 - s) k') (hno:inC b (1 - s)=false) {q:Int} (hq:0<=q /\ q<81) (h0:at_ b q=0) (hh:List Int):
  pmS b s q=(inC (pb b s q) (1 - s)&&qKk (pb b s q) hh (1 - s)):=by
 have hs':1 - s=0 \/ 1 - s=1:=by omega
 have hP:=qQW hs hq h0
 have hk2:KS (pb b s q) (1 - s) k':=by rw[qGy];exact qLf hc hs hP hk'
 have hc2:Clean (pb b s q):=hc.put q _
 have hq81:q.toNat<81:=by omega
 have e1:inC (pb b s q) (1 - s)=chs (pb b s q) (1 - s) q.toNat:=by
  unfold inC
  cases hch:chs (pb b s q) (1 - s) q.toNat with
  | true=>
    cases hE:isE (chs (pb b s q) (1 - s)) with
    | false=>rfl
    | true=>rw[qCz.mp hE _ hq81] at hch;cases hch
  | false=>
    have:isE (chs (pb b s q) (1 - s))=true:=by
     rw[qCz]
     intro i hi
     cases hx:chs (pb b s q) (1 - s) i with
     | false=>rfl
     | true=>rw[qiO hc hs hk' hno hq h0 hi hx] at hx;rw[hx] at hch;cases hch
    rw[this];rfl
 unfold pmS
 rw[decide_eq_true hq,decide_eq_true h0,Bool.true_and,Bool.true_and,e1]
 cases hch:chs (pb b s q) (1 - s) q.toNat with
 | false=>rfl
 | true =>
   rw[Bool.true_and,Bool.true_and]
   unfold qKk
   rw[show mvs (pb b s q) hh (1 - s)=qt (pb b s q) (1 - s) T_++qAS (pb b s q) hh (1 - s) T_ from rfl,List.all_append]
   have hB:((qt (pb b s q) (1 - s) T_).all fun m=>!g1 (pb b s q) (1 - s) m)=(qt (pb b s q) (1 - s) T_).all fun m=>!qBt (pb b s q) (1 - s) m:=by
    rw[Bool.eq_iff_iff,List.all_eq_true,List.all_eq_true]
    have:∀ m∈qt (pb b s q) (1 - s) T_,g1 (pb b s q) (1 - s) m=qBt (pb b s q) (1 - s) m:=by
     intro m hm
     obtain⟨_,a2,a3⟩:=qLx hc2 hh hs' hm
     have:=qMn hc2 hs' (qFt a2).2 hk2
     unfold qBt mbM g1
     rw[this,if_pos a3]
    constructor
    ·intro h m hm;rw[<- this m hm];exact h m hm
    ·intro h m hm;rw[this m hm];exact h m hm
   have hD:((qAS (pb b s q) hh (1 - s) T_).all fun m=>!qBt (pb b s q) (1 - s) m)=true:=by
    rw[List.all_eq_true]
    intro m hm
    obtain⟨_,a2,_,a4,_,_⟩:=qQK hc2 hs' hm
    have hPm:=(qFt a2).2
    have:=qMn hc2 hs' hPm hk2
    unfold qBt mbM
    rw[this,if_neg (by omega),Bool.not_eq_true']
    cases ho:qr (pb b s q) (1 - s) (m1 m).toNat with
    | false=>rfl
    | true=>
      exfalso
      rw[qKA hs' hk2] at ho
      rw[qFX hs' (hk2.kg hs') hk2.1] at hch
      have hgq:(pb b s q).getD q.toNat 0=16*s+1:=by
       rw[qGy,qEf hc hs hP hq81,if_pos rfl]
       unfold laid
       rw[if_pos (by simp)]
      rcases ho _ hq81 hch with h1 | h1
      ·have h2:=(hPm.drop (by omega)).2.2.2.2.2
       rw[qAd hPm.to_,h1,hgq] at h2
       omega
      ·simp only[atk,Bool.and_eq_true] at hch
       rcases qB5.mp hch.2 with h2 | h2
       ·rw[qNK h2] at h1;cases h1
       ·have h3:=of_decide_eq_true h2.1
        rw[hgq,qIB hs (by omega) (by omega) (by omega)] at h3
        unfold slK at h3
        omega
   rw[hB,hD,Bool.and_true]
theorem qG1 {b h:List Int} {s:Int} (hl:b.length=81) (hz:qDj b h s=0):Clean b /\ (s=0 \/ s=1) /\ inC b (1 - s)=false /\ ∃ k k',KS b s k /\ KS b (1 - s) k':=by
 have h1:qA5 b h s=0 /\ inC b (1 - s)=false:=by
  unfold qDj at hz
  split at hz
  ·rename_i h;exact absurd hz h
  ·rename_i h
   refine⟨by simpa using h,?_⟩
   cases hi:inC b (1 - s) with
   | false=>rfl
   | true=>rw[hi] at hz;simp at hz
 obtain⟨hc,hs⟩:=qLJ hl h1.1
 obtain⟨k,hk⟩:=qLg h1.1 hs
 obtain⟨k',hk'⟩:=qLg h1.1 (s:=1 - s) (by omega)
 exact⟨hc,hs,h1.2,k,k',hk,hk'⟩
theorem qYB {b:List Int} (hc:Clean b) (h:List Int) {s:Int} (hs:s=0 \/ s=1) (hno:inC b (1 - s)=false) {k k':Nat} (hk:KS b s k) (hk':KS b (1 - s) k'):lgL b h s=rlL b h s:=by
 unfold lgL rlL
 rw[show mvs b h s=qt b s T_++qAS b h s T_ from rfl,List.filter_append,qQL,List.filter_filter]
 congr 1
 ·apply List.filter_congr
  intro m hm
  obtain⟨_,a2,a3⟩:=qLx hc h hs hm
  have:=qMn hc hs (qFt a2).2 hk
  unfold qDO qBt mbM g1
  rw[this,if_pos a3,decide_eq_true (p:=m2 m≠1) (by omega),Bool.true_or,Bool.and_true]
 ·apply List.filter_congr
  intro m hm
  obtain⟨_,a2,a3,a4,a5,a6⟩:=qQK hc hs hm
  have hP:=(qFt a2).2
  have:=qMn hc hs hP hk
  unfold qDO qBt g2
  rw[show inC (mbM b s m) s=inC (mb b s (m0 m) (m1 m) (m2 m) (m3 m)) s from rfl,this,if_neg (by omega)]
  cases ho:qr b s (m1 m).toNat with
  | false=>simp
  | true=>
    rw[Bool.and_true,Bool.true_and]
    by_cases hd:m2 m=1
    ·have hdr:=hP.drop (by omega)
     rw[decide_eq_true hd,decide_eq_false (p:=m2 m≠1) (by simpa using hd),Bool.true_and,Bool.false_or,qlf hc hs hk' hno hP.to_ hdr.2.2.2.2.2 (mhM b h s m)]
     have:mbM b s m=pb b s (m1 m):=by
      unfold mbM
      rw[a3,hd,a6,qGy]
     rw[this]
    ·rw[decide_eq_false hd,decide_eq_true (p:=m2 m≠1) hd];rfl
theorem qkM (b h:List Int) (S:Int) (by_ sd_:List (List Int)) (f t d:Int) (p:Bool) (N:Nat) (M:List (List Int)) (hM:∀ m∈M,Mv4 m) (hl:M.length<=100000):∀ (n i:Nat),i+n=M.length->∀ F,
  qFq (F+n+1) M.length M.length i b h S by_ sd_ f t d p N M=some (if (M.drop i).contains [f,t,d,bi p] then .inl (true,b,h,S,by_,sd_) else .inr (b,h,S,by_,sd_)):=by
 intro n
 induction n with
 | zero=>
   intro i hi F
   show qII (qFq (F+0)) _ _ _ _ _ _ _ _ _ _ _ _ _ _=_
   unfold qII
   rw[qY (by omega),List.drop_eq_nil_of_le (by omega)]
   rfl
 | succ n ih=>
   intro i hi F
   show qII (qFq (F+n+1)) _ _ _ _ _ _ _ _ _ _ _ _ _ _=_
   unfold qII
   have hil:i<M.length:=by omega
   obtain⟨hm1,_⟩:=hM M[i] (List.getElem_mem hil)
   rw[qZ (by omega),qU (by omega) (by omega),tn,atL hil]
   simp only[hdM]
   rw[w_s (n:=(i:Int)+1) (by omega) (by omega),List.drop_eq_getElem_cons hil,List.contains_cons]
   have e:(m0 M[i]==f&&(m1 M[i]==t&&(m2 M[i]==d&&m3 M[i]==p)))=([f,t,d,bi p]==M[i]):=by
    rw[Bool.eq_iff_iff,beq_iff_eq]
    simp only[Bool.and_eq_true,beq_iff_eq]
    constructor
    ·rintro ⟨h1,h2,h3,h4⟩
     rw[hm1,h1,h2,h3,h4]
    ·intro he
     rw[<- he]
     refine⟨rfl,rfl,rfl,?_⟩
     show (bi p != 0)=p
     cases p<;>rfl
   rw[e]
   cases hb:([f,t,d,bi p]==M[i]) with
   | true=>rw[b_t];rfl
   | false=>
     rw[b_f,Bool.false_or]
     exact ih (i+1) (by omega) F
theorem qHg (p:Bool):(bi p != 0)=p:=by cases p<;>rfl
theorem qX3 {b:List Int} (_hc:Clean b) {h:List Int} {s:Int} (_hs:s=0 \/ s=1) {m:List Int} (hm:m∈lgL b h s):m∈mvs b h s:=by
 unfold lgL at hm
 rw[List.mem_append] at hm
 rcases hm with hm | hm
 ·exact List.mem_append_left _ (List.mem_filter.mp hm).1
 ·have:=(List.mem_filter.mp hm).1
  rw[qQL] at this
  exact List.mem_append_right _ (List.mem_filter.mp this).1
theorem qky {b:List Int} (hc:Clean b) (h:List Int) {s:Int} (hs:s=0 \/ s=1) {k k':Nat} (hk:KS b s k) (hk':KS b (1 - s) k') (f t d:Int) (p:Bool):
  qD0 f t d p b h s (qI b) (qL b)=some ((lgL b h s).contains [f,t,d,bi p],b,h,s,qI b,qL b):=by
 unfold qD0
 rw[qXf hc h hs hk hk',qA]
 simp only
 have hlen:=qJ0 b h s
 obtain⟨g,hg⟩:=qe (lgL b h s).length (by omega)
 have:=qkM b h s (qI b) (qL b) f t d p (lgL b h s).length (lgL b h s) (fun m hm=>(qIQ hc hs (qX3 hc hs hm)).1) (by omega) (lgL b h s).length 0 (by omega) g
 rw[<- hg,List.drop_zero] at this
 rw[show qFq qB (lgL b h s).length (Int.ofNat (lgL b h s).length) 0 b h s (qI b) (qL b) f t d p (lgL b h s).length (lgL b h s)=_ from this,qA]
 cases (lgL b h s).contains [f,t,d,bi p]<;>rfl
end Go.Kk.Pl
namespace Go.Kk.Pl
end Go.Kk.Pl
namespace Go.Kk.Pl
theorem qlp (f t d:Int) (p:Bool):qGu f t d p=some (qCa f t d p):=by
 unfold qGu qCa
 by_cases h1:t<0
 ·rw[qZ h1,if_pos (by omega)]
 rw[qY h1]
 by_cases h2:t >= 81
 ·rw[qCC h2,if_pos (by omega)]
 rw[qBZ h2,if_neg (by omega)]
 by_cases hd:d=0
 ·rw[qp hd,if_neg (by simpa using hd)]
  by_cases h3:f<0
  ·rw[qZ h3,if_pos (by omega)]
  rw[qY h3]
  by_cases h4:f >= 81
  ·rw[qCC h4,if_pos (by omega)]
  rw[qBZ h4,if_neg (by omega)]
  by_cases h5:f=t
  ·rw[ql h5,if_pos h5]
  ·rw[qk h5,if_neg h5]
 ·rw[qo hd,if_pos hd]
  by_cases h3:d<0
  ·rw[qZ h3,if_neg (by omega)]
  rw[qY h3]
  by_cases h4:d >= 8
  ·rw[qCC h4,if_neg (by omega)]
  rw[qBZ h4]
  by_cases h5:f=0
  ·rw[qp h5]
   cases p with
   | true=>rw[b_t,if_neg (by simp)]
   | false=>rw[b_f,if_pos ⟨by omega,by omega,h5,rfl⟩]
  ·rw[qo h5,if_neg (by omega)]
theorem qVI (b h:List Int) {s:Int} (hs:s=0 \/ s=1) (f t d:Int) (p:Bool) (K:Int) (n:Nat) (by_ sides:List (List Int)) (m:Nat) (st:List (List Int)):
  qDq f t d p K n b h s by_ sides m st=some (qBb b h s f t d p):=by
 unfold qDq qBb
 rw[qlp,qA]
 by_cases hm:qCa f t d p=0
 ·obtain⟨ht,hd,hmv⟩:=qLH hm
  have main:(br (d != 0)
    (ob (qCv s d b h s by_ sides) fun a14=>
    br (decide (a14>0))
     (ob (qAi t b h s by_ sides) fun a15=>
     some (a15==0))
     (some (false)))
    (ob (qAi f b h s by_ sides) fun a14=>
    ob (qAi t b h s by_ sides) fun a15=>
    ob (qAe a14) fun a16=>
    br (a16==s)
     (ob (qAe a15) fun a17=>
     br (a17 != s)
      (ob (qAB a15) fun a18=>
      br (a18 != 8)
       (br (!p)
        (some (true))
        (ob (qAB a14) fun a19=>
        ob (qC6 a19) fun a20=>
        some (a20 != 0)))
       (some (false)))
      (some (false)))
     (some (false))))=some (if d≠0 then decide (0<hd_ h s d)&&decide (at_ b t=0)
 else decide (sd (at_ b f)=s /\ sd (at_ b t)≠s /\ kd (at_ b t)≠8)&&(!p||decide (up_ (kd (at_ b f))≠0))):=by
   by_cases h0:d=0
   ·rw [qp h0,if_neg (by simpa using h0),qCB,qA,qCB,qA,qCR,qA]
    by_cases e1:sd (at_ b f)=s
    ·rw[ql e1,qCR,qA]
     by_cases e2:sd (at_ b t)=s
     ·rw[qp e2,decide_eq_false (p:=sd (at_ b f)=s /\ sd (at_ b t)≠s /\ kd (at_ b t)≠8) (fun h=>h.2.1 e2)];rfl
     ·rw [qo e2,qAk,qA]
      by_cases e3:kd (at_ b t)=8
      ·rw[qp e3,decide_eq_false (p:=sd (at_ b f)=s /\ sd (at_ b t)≠s /\ kd (at_ b t)≠8) (fun h=>h.2.2 e3)];rfl
      ·rw[qo e3,decide_eq_true (p:=sd (at_ b f)=s /\ sd (at_ b t)≠s /\ kd (at_ b t)≠8) ⟨e1,e2,e3⟩]
       cases p with
       | false=>rfl
       | true=>
         rw[Bool.not_true,b_f,qAk,qA,qHS,qA]
         by_cases e4:up_ (kd (at_ b f))=0<;>simp[e4]
    ·rw[qk e1,decide_eq_false (p:=sd (at_ b f)=s /\ sd (at_ b t)≠s /\ kd (at_ b t)≠8) (fun h=>e1 h.1)];rfl
   ·have:=hd h0
    rw[qo h0,if_pos h0,qLb hs (by omega) (by omega),qA]
    by_cases e1:hd_ h s d>0
    ·rw[qBR e1,qCB,qA,decide_eq_true (p:=0<hd_ h s d) e1,Bool.true_and]
     by_cases e2:at_ b t=0<;>simp[e2]
    ·rw[qBS e1,decide_eq_false (p:=0<hd_ h s d) e1,Bool.false_and]
  rw[qp hm,decide_eq_true hm,decide_eq_true hs,Bool.true_and,Bool.true_and,<- main]
  rcases hs with rfl | rfl<;>rfl
 ·rw[qo hm,decide_eq_false hm,Bool.false_and]
theorem qfj {b:List Int} (hc:Clean b) (h:List Int) {s:Int} (hs:s=0 \/ s=1) (f t d:Int) (p:Bool):
  qEV b h s f t d p=some (if qBb b h s f t d p then (mb b s f t d p,mh b h s t d,1 - s,true) else (b,h,s,false)):=by
 obtain⟨by_,sides,hn⟩:=qj5 hc h s
 obtain⟨c,hcan,hm⟩:=qld hc h hs f t d p
 have e:qBb b h s f t d p=c:=Option.some.inj ((qVI b h hs f t d p 0 0 [] [] 0 []).symm.trans (hcan 0 0 [] [] 0 []))
 unfold qEV
 rw[hn,qA,e]
 simp only
 rcases hm with⟨rfl,hm⟩ | ⟨rfl,hP,hm⟩
 ·rw[hm,qA,qFA,if_neg (by simp)]
 ·obtain⟨by',sides',hm⟩:=hm (kof b h s) 0 by_ sides 0 [] (by omega)
  rw[hm,qA,qAH,if_pos rfl]
theorem qX2 {b:List Int} (hc:Clean b) {h:List Int} {s:Int} (hs:s=0 \/ s=1) {k k':Nat} (hno:inC b (1 - s)=false) (hk:KS b s k) (hk':KS b (1 - s) k') {m:List Int} (hm:m∈lgL b h s):
  Mv4 m /\ qAJ b h s (m0 m) (m1 m) (m2 m) (m3 m)=true /\ qDO b h s m=true /\ qBt b s m=true:=by
 have h1:=qIQ hc hs (qX3 hc hs hm)
 rw[qYB hc h hs hno hk hk'] at hm
 have h2:=(List.mem_filter.mp hm).2
 refine⟨h1.1,h1.2,h2,?_⟩
 unfold qDO at h2
 rw[Bool.and_eq_true] at h2
 exact h2.1
theorem qYT {b h:List Int} {s f t d:Int} {p:Bool} (hm:qAJ b h s f t d p=true):qBb b h s f t d p=true:=by
 unfold qAJ at hm
 rw[Bool.and_eq_true] at hm
 exact hm.1
end Go.Kk.Pl
namespace Go.Kk.Pl
theorem qFK {p:Nat->Bool} {a n:Nat}:(List.range' a n).any p=false ↔ ∀ i,a<=i->i<a+n->p i=false:=by
 rw[List.any_eq_false]
 constructor
 ·intro h i h1 h2
  have:=h i (List.mem_range'_1.mpr ⟨h1,h2⟩)
  simpa using this
 ·intro h i hi
  obtain⟨h1,h2⟩:=List.mem_range'_1.mp hi
  rw[h i h1 h2];simp
structure ChkP (b h:List Int) (s:Int):Prop where
 side:s=0 \/ s=1
 good:∀ i,i<81->bsP b i=false
 hands:∀ k,k<8->∀ j,j<2->bsH h k j=false
 kings:nP b 8=1 /\ nP b 24=1
 over:∀ k,1<=k->k<8->qBj b h k=false
 dead:∀ i,i<81->qA6 (b.getD i 0) i=false
 nifu:∀ f,f<9->qBN b f=false
theorem qLI {b h:List Int} {s:Int}:qA5 b h s=0↔ChkP b h s:=by
 constructor
 ·intro hz
  unfold qA5 at hz
  split at hz
  ·omega
  rename_i h1
  split at hz
  ·omega
  rename_i h2
  split at hz
  ·omega
  rename_i h3
  split at hz
  ·omega
  rename_i h4
  split at hz
  ·omega
  rename_i h5
  split at hz
  ·omega
  rename_i h6
  split at hz
  ·omega
  rename_i h7
  rw[Bool.not_eq_true,qFK] at h2 h3 h5 h6 h7
  refine⟨by omega,fun i hi=>h2 i (by omega) (by omega),fun k hk j hj=>?_,by simpa using h4,fun k k1 k2=>h5 k k1 (by omega),fun i hi=>h6 i (by omega) (by omega),fun f hf=>h7 f (by omega) (by omega)⟩
  have:=h3 k (by omega) (by omega)
  rw[qFK] at this
  exact this j (by omega) (by omega)
 ·intro ⟨a1,a2,a3,a4,a5,a6,a7⟩
  unfold qA5
  rw[if_neg (by omega),if_neg (by rw[qFK.mpr fun i _ hi=>a2 i (by omega)];simp),if_neg (by rw[qFK.mpr fun k _ hk=>qFK.mpr fun j _ hj=>a3 k (by omega) j (by omega)];simp),if_neg (by simpa using a4),
   if_neg (by rw[qFK.mpr fun k k1 hk=>a5 k k1 (by omega)];simp),if_neg (by rw[qFK.mpr fun i _ hi=>a6 i (by omega)];simp),if_neg (by rw[qFK.mpr fun i _ hi=>a7 i (by omega)];simp)]
theorem qti {n:Nat} {p:Nat->Bool}:(List.range n).countP p<=1 ↔ ∀ i j,i<n->j<n->p i=true->p j=true->i=j:=by
 rw[List.countP_eq_length_filter]
 have hn:((List.range n).filter p).Nodup:=List.Nodup.sublist List.filter_sublist List.nodup_range
 have hm:∀ i,i∈(List.range n).filter p↔i<n /\ p i=true:=by
  intro i;rw[List.mem_filter,List.mem_range]
 match he:(List.range n).filter p with
 | []=>
   rw[he] at hm
   refine⟨fun _ i j hi _ h1 _=>?_,fun _=>by simp⟩
   have:=(hm i).mpr ⟨hi,h1⟩
   cases this
 | [a]=>
   rw[he] at hm
   refine⟨fun _ i j hi hj h1 h2=>?_,fun _=>by simp⟩
   have e1:=(hm i).mpr ⟨hi,h1⟩
   have e2:=(hm j).mpr ⟨hj,h2⟩
   rw[List.mem_singleton] at e1 e2
   rw[e1,e2]
 | a :: c :: L=>
   rw[he] at hm hn
   refine⟨fun h=>?_,fun h=>?_⟩
   ·simp at h
   ·exfalso
    have ea:=(hm a).mp (by simp)
    have ec:=(hm c).mp (by simp)
    have:=h a c ea.1 ec.1 ea.2 ec.2
    subst this
    simp at hn
theorem ql4 {b:List Int} {x:Int} {f:Nat}:nF b x f<=1 ↔ ∀ r r',r<9->r'<9->b.getD (9*f+r) 0=x->b.getD (9*f+r') 0=x->r=r':=by
 unfold nF
 rw[qti]
 constructor
 ·intro h r r' hr hr' e e'
  exact h r r' hr hr' (by simpa using e) (by simpa using e')
 ·intro h r r' hr hr' e e'
  exact h r r' hr hr' (by simpa using e) (by simpa using e')
theorem ql5 {b:List Int} {x:Int} {f:Nat}:nF b x f=0 ↔ ∀ r,r<9->b.getD (9*f+r) 0≠x:=by
 unfold nF
 rw[List.countP_eq_zero]
 constructor
 ·intro h r hr e
  exact h r (List.mem_range.mpr hr) (by simpa using e)
 ·intro h r hr e
  exact h r (List.mem_range.mp hr) (by simpa using e)
theorem qYd {b:List Int} {s:Int} {k:Nat} (h:KS b s k):nP b (pc s 8)=1:=by
 show qAv (fun i=>b.getD i 0==pc s 8)=1
 rw[qHq]
 exact⟨k,h.1,fun i hi=>by rw[beq_iff_eq];exact h.2 i hi⟩
theorem qds {b h:List Int} {s:Int} (hl:b.length=81) (hf:qAb h) (hz:qA5 b h s=0):Sound b h s:=by
 obtain⟨hc,_⟩:=qLJ hl hz
 obtain⟨v,hv,hS⟩:=qh7 hc hf s
 rw[qqD hl hf] at hv
 exact hS (by rw[<- Option.some.inj hv];exact hz)
theorem qiN {b h:List Int} {s f t d:Int} {p:Bool} (hl:b.length=81) (hf:qAb h) (hh:h.length=16) (hz:qA5 b h s=0) (hm:qAJ b h s f t d p=true):qA5 (mb b s f t d p) (mh b h s t d) (1 - s)=0:=by
 obtain⟨hc,hs⟩:=qLJ hl hz
 have hP:=(qFt hm).2
 have hS:=qds hl hf hz
 have hC:=qLI.mp hz
 have hs':1 - s=0 \/ 1 - s=1:=by omega
 obtain⟨k,hk⟩:=qLg hz hs
 obtain⟨k',hk'⟩:=qLg hz hs'
 have ht:=hP.to_
 have hla:=qFo hs hP
 have hc2:Clean (mb b s f t d p):=qQE hc _ _ _ _ _
 have hmv:if d≠0 then (!qDp (16*s+d) t&&(decide (d≠1)||decide (nF b (16*s+d) (t.toNat / 9)=0)))=true
   else (rch (at_ b f) f.toNat t.toNat (tk b)&&if p=true then qC3 (at_ b f) f t else !qDP (at_ b f) t)=true:=by
  have:=hm
  unfold qAJ at this
  rw[Bool.and_eq_true] at this
  have:=this.2
  by_cases hd:d=0
  ·rw[if_neg (by simpa using hd)] at this ⊢
   exact this
  ·rw[if_pos hd] at this ⊢
   exact this
 have hhand:∀ j:Int,(j=0 \/ j=1)->∀ i:Int,0<=i->i<8->(hd_ (mh b h s t d) j i=hd_ h j i \/ (1<=i /\ 0<=hd_ (mh b h s t d) j i)):=by
  intro j hj i i0 i8
  unfold mh
  by_cases hd:d=0
  ·have hmm:=hP.move hd
   rw[if_neg (by simpa using hd)]
   by_cases h0:at_ b t=0
   ·rw[if_pos h0];exact .inl rfl
   ·rw[if_neg h0]
    have hr:=qG9 ((hc.at_ t).resolve_left h0) hmm.2.2.2.2.2.1
    rw[qFi hh hs (by omega) (by omega) 1 hj i0 i8]
    split
    ·right
     rename_i he
     have h1:=hS.hands (rw_ (kd (at_ b t))) (by omega) (by omega)
     have h2:=hS.counts (rw_ (kd (at_ b t))) (by omega) (by omega)
     have h3:0<=hd_ h s (rw_ (kd (at_ b t))) /\ hd_ h s (rw_ (kd (at_ b t)))<=18:=by
      rcases hs with rfl | rfl<;>omega
     rw[w_8 (by omega) (by omega)]
     omega
    ·exact .inl rfl
  ·have hmm:=hP.drop hd
   rw[if_pos hd,qFi hh hs (by omega) (by omega) (-1) hj i0 i8]
   split
   ·right
    have:=qHv hf s d
    rw[w_8 (by omega) (by omega)]
    omega
   ·exact .inl rfl
 rw[qLI]
 refine⟨hs',fun i hi=>?_,fun i hi j hj=>?_,?_,fun i i1 i2=>?_,fun i hi=>?_,fun g hg=>?_⟩
 ·unfold bsP
  rw[decide_eq_false_iff_not]
  rintro ⟨h1,h2⟩
  have:=hc2.at_ i
  rw[qAd (by omega),tn] at this
  exact this.elim h1 (fun h=>h h2)
 ·have h1:=hC.hands i hi j hj
  unfold bsH at h1 ⊢
  rw[decide_eq_false_iff_not] at h1 ⊢
  have h2:=hhand j (by omega) i (by omega) (by omega)
  unfold hd_ at h2
  rw[show (j:Int).toNat*8+(i:Int).toNat=j*8+i from rfl] at h2
  omega
 ·have e1:=qYd (qPq hc hs hP hk)
  have e2:=qYd (qLf hc hs hP hk')
  rw[pc8 hs] at e1
  rw[pc8 hs'] at e2
  rcases hs with rfl | rfl
  ·exact⟨e1,e2⟩
  ·exact⟨e2,e1⟩
 ·have h1:=hC.over i i1 i2
  unfold qBj at h1 ⊢
  rw[decide_eq_false_iff_not] at h1 ⊢
  have:=qnU hS hf hh hP (k:=(i:Int)) (by omega) (by omega)
  omega
 ·rw[qEf hc hs hP hi]
  by_cases h1:i=t.toNat
  ·rw [if_pos h1,h1]
   unfold laid
   by_cases hd:d=0
   ·rw [if_neg (by simpa using hd)]
    rw[if_neg (by simpa using hd)] at hmv
    have hmm:=hP.move hd
    cases p with
    | true=>
      rw[if_pos rfl]
      obtain⟨u1,u2,u3⟩:=qGR (hmm.2.2.2.2.2.2 rfl)
      have:9<=up_ (kd (at_ b f)):=by
       have hu:=hmm.2.2.2.2.2.2 rfl
       unfold up_ at hu ⊢
       split
       ·omega
       ·rename_i h;rw[if_neg h] at hu;exact absurd rfl hu
      unfold qA6
      rw[qIB hs u1 u2 u3,decide_eq_false_iff_not]
      omega
    | false=>
      rw[if_neg (by simp)]
      rw[if_neg (by simp),Bool.and_eq_true] at hmv
      have h2:=hmv.2
      cases hdd:qA6 (at_ b f) t.toNat with
      | false=>rfl
      | true=>
        exfalso
        have hk:kd (at_ b f)=1 \/ kd (at_ b f)=2 \/ kd (at_ b f)=3:=by
         have:=of_decide_eq_true hdd
         omega
        unfold qDP at h2
        rw[show t=((t.toNat:Nat):Int) by omega,qOp _ (by omega),hdd] at h2
        have:up_ (kd (at_ b f))≠0:=by unfold up_;rw[if_pos (by omega)];omega
        rw[decide_eq_true this] at h2
        cases h2
   ·rw[if_pos hd]
    rw[if_pos hd,Bool.and_eq_true] at hmv
    have h2:=hmv.1
    rw[show t=((t.toNat:Nat):Int) by omega,qOp _ (by omega)] at h2
    simpa using h2
  ·rw[if_neg h1]
   by_cases h2:d=0 /\ i=f.toNat
   ·rw[if_pos h2]
    unfold qA6
    rw[qFm]
    simp
   ·rw[if_neg h2];exact hC.dead i hi
 ·have key:∀ x:Int,(x=1 \/ x=17)->nF (mb b s f t d p) x g<=1:=by
   intro x hx
   have hxk:kd x=1:=by rcases hx with rfl | rfl<;>decide
   have hold:nF b x g<=1:=by
    have:=hC.nifu g hg
    unfold qBN at this
    simp only[Bool.or_eq_false_iff,decide_eq_false_iff_not] at this
    rcases hx with rfl | rfl<;>omega
   rw[ql4] at hold ⊢
   have from_:∀ r,r<9->(mb b s f t d p).getD (9*g+r) 0=x->(b.getD (9*g+r) 0=x /\ ¬ (d=0 /\ 9*g+r=f.toNat)) \/ 9*g+r=t.toNat:=by
    intro r hr e
    rw[qEf hc hs hP (by omega)] at e
    by_cases h1:9*g+r=t.toNat
    ·exact .inr h1
    ·rw[if_neg h1] at e
     by_cases h2:d=0 /\ 9*g+r=f.toNat
     ·rw[if_pos h2] at e
      rcases hx with rfl | rfl<;>omega
     ·rw[if_neg h2] at e
      exact .inl ⟨e,h2⟩
   have lay:∀ r,r<9->9*g+r=t.toNat->(mb b s f t d p).getD (9*g+r) 0=x->∀ r',r'<9->(b.getD (9*g+r') 0=x /\ ¬ (d=0 /\ 9*g+r'=f.toNat))->False:=by
    intro r hr he e r' hr' e'
    rw[qEf hc hs hP (by omega),if_pos he] at e
    unfold laid at e
    by_cases hd:d=0
    ·rw [if_neg (by simpa using hd)] at e hmv
     have hmm:=hP.move hd
     cases p with
     | true=>
       rw[if_pos rfl] at e
       have hu:=hmm.2.2.2.2.2.2 rfl
       obtain⟨u1,u2,u3⟩:=qGR hu
       have:kd (16*s+up_ (kd (at_ b f)))=1:=by rw[e,hxk]
       rw[qIB hs u1 u2 u3] at this
       unfold up_ at this
       split at this<;>omega
     | false=>
       rw[if_neg (by simp)] at e
       rw[Bool.and_eq_true] at hmv
       have hr1:=hmv.1
       have hfl:df f.toNat t.toNat=0:=by
        rcases qB5.mp hr1 with h1 | h1
        ·have h2:=of_decide_eq_true h1
         rw[e,hxk] at h2
         unfold qB9 at h2
         omega
        ·have h2:=of_decide_eq_true h1.1
         rw[e,hxk] at h2
         unfold slK at h2
         omega
       unfold df fl at hfl
       have hfe:f.toNat=9*g+f.toNat % 9:=by omega
       have:b.getD (9*g+f.toNat % 9) 0=x:=by
        rw[<- hfe,<- qAd ⟨hmm.1,hmm.2.1⟩];exact e
       have:=hold (f.toNat % 9) r' (by omega) hr' this e'.1
       exact e'.2 ⟨hd,by omega⟩
    ·rw[if_pos hd] at e hmv
     rw[Bool.and_eq_true] at hmv
     have hdd:=hP.drop hd
     have hd1:d=1:=by rcases hs with rfl | rfl<;>rcases hx with rfl | rfl<;>omega
     have hz0:nF b (16*s+d) (t.toNat / 9)=0:=by
      have:=hmv.2
      rw[decide_eq_false (p:=d≠1) (by simpa using hd1),Bool.false_or,decide_eq_true_eq] at this
      exact this
     rw[e,show t.toNat / 9=g by omega,ql5] at hz0
     exact hz0 r' hr' e'.1
   intro r r' hr hr' e e'
   rcases from_ r hr e with h1 | h1
   ·rcases from_ r' hr' e' with h2 | h2
    ·exact hold r r' hr hr' h1.1 h2.1
    ·exact (lay r' hr' h2 e' r hr h1).elim
   ·rcases from_ r' hr' e' with h2 | h2
    ·exact (lay r hr h1 e r' hr' h2).elim
    ·omega
  unfold qBN
  have k1:=key 1 (.inl rfl)
  have k2:=key 17 (.inr rfl)
  rw[decide_eq_false (by omega),decide_eq_false (by omega)]
  rfl
theorem qf9 {b h:List Int} {s f t d:Int} {p:Bool} (hl:b.length=81) (hf:qAb h) (hh:h.length=16) (hz:qA5 b h s=0) (hm:qAJ b h s f t d p=true) (hsafe:inC (mb b s f t d p) s=false):qDj (mb b s f t d p) (mh b h s t d) (1 - s)=0:=by
 have h1:=qiN hl hf hh hz hm
 unfold qDj
 rw[if_neg (by rw[h1];simp),show 1 - (1 - s)=s by omega,hsafe]
 rfl
theorem qKy {b h:List Int} {s:Int} (hz:qDj b h s=0):qA5 b h s=0:=by
 unfold qDj at hz
 split at hz
 ·rename_i h;exact absurd hz h
 ·rename_i h;simpa using h
end Go.Kk.Pl
namespace Go.Kk.Pl
end Go.Kk.Pl
namespace Go.Kk.Pl
theorem qj0 (h:List Int) (s k:Nat) (hk:k<8):(List.take 8 (List.drop (s*7+s) h)).getD k 0=h.getD (s*8+k) 0:=by
 rw[List.getD_eq_getElem?_getD,List.getD_eq_getElem?_getD,List.getElem?_take,if_pos hk,List.getElem?_drop,show s*7+s+k=s*8+k by omega]
abbrev B64:=BitVec 64
def bv (n:Int):B64:=BitVec.ofInt 64 n
def un (x:B64):Int:=(x.toNat:Int)
theorem qBT (x:B64):bv (un x)=x:=by
 unfold bv un
 rw[BitVec.ofInt_natCast,BitVec.ofNat_toNat];simp
theorem qFF (a b:Int):qF .xor .u64 a b=un (bv a ^^^ bv b):=by
 show IntKind.wrap .u64 _=_
 have h:IntKind.wrap .u64 ((BitVec.ofInt 64 a ^^^ BitVec.ofInt 64 b).toNat:Int)=((BitVec.ofInt 64 a ^^^ BitVec.ofInt 64 b).toNat:Int):=
  qCU (by show (0:Int)<=_;omega) (by show _<=(18446744073709551615:Int);have:=(BitVec.ofInt 64 a ^^^ BitVec.ofInt 64 b).isLt;omega)
 exact h
def pcB (q x:Int):B64:=bv ((qCI q x).getD 0)
def hnB (s k n:Int):B64:=bv ((qC0 s k n).getD 0)
def sdB:B64:=bv (qC2.getD 0)
theorem qPY (x:Int):∃ v:B64,qDz x=some (un v):=by
 unfold qDz
 rw[qFF]
 exact⟨_,rfl⟩
theorem qTB {m:Option Int} (h:∃ v:B64,m=some (un v)):m=some (un (bv (m.getD 0))):=by
 obtain⟨v,rfl⟩:=h
 simp[qBT]
theorem qLE {b:Bool} {x y:Option Int} (hx:∃ v:B64,x=some (un v)) (hy:∃ v:B64,y=some (un v)):∃ v:B64,br b x y=some (un v):=by cases b<;>assumption
theorem qYh {α:Type} {m:Option α} {k:α->Option Int} (hm:∃ v,m=some v) (hk:∀ a,m=some a->∃ v:B64,k a=some (un v)):∃ v:B64,ob m k=some (un v):=by
 obtain⟨a,rfl⟩:=hm
 exact hk a rfl
theorem qW4 (q x:Int):qCI q x=some (un (pcB q x)):=qTB (by
 unfold qCI
 refine qYh (qXb _) fun a _=>?_
 refine qLE ⟨0,rfl⟩ (qLE ⟨0,rfl⟩ (qLE ⟨0,rfl⟩ (qYh (qLu _) fun a ha=>?_)))
 obtain⟨v,hv⟩:=qPY _
 rw[hv] at ha
 cases ha
 exact⟨v,rfl⟩)
theorem qW3 (s k n:Int):qC0 s k n=some (un (hnB s k n)):=qTB (by
 have tail:∀ x:Int,∃ v:B64,(ob (qDz x) fun r=>some r)=some (un v):=fun x=>by
  obtain⟨v,hv⟩:=qPY x
  exact⟨v,by rw[hv];rfl⟩
 unfold qC0
 repeat first | exact⟨0,rfl⟩ | exact tail _ | apply qLE)
theorem qW5:qC2=some (un sdB):=qTB (by
 unfold qC2
 obtain⟨v,hv⟩:=qPY 1048576
 exact⟨v,by rw[hv];rfl⟩)
def qAc (b:List Int):Nat->B64
 | 0=>0
 | n+1=>qAc b n ^^^ pcB n (b.getD n 0)
def qBL (h:List Int) (s:Nat):Nat->B64
 | 0=>0
 | n+1=>qBL h s n ^^^ hnB s n (conv .i8 .i64 (h.getD (s*8+n) 0))
def qDu (h:List Int):B64:=qBL h 0 8 ^^^ qBL h 1 8
theorem qfY (a b:B64):a ^^^ (b ^^^ a)=b:=by rw[BitVec.xor_comm b a,<- BitVec.xor_assoc,BitVec.xor_self,BitVec.zero_xor]
theorem qho:∀ (n:Nat) (q:Nat) (acc:B64) (b c d:List Int) (e:Int) (f:Nat),q+n=81->
  qCe (f+n+1) (un acc) b q c d e=some (un (acc ^^^ qAc b q ^^^ qAc b 81),c,d,e):=by
 intro n
 induction n with
 | zero=>
   intro q acc b c d e f hq
   have:q=81:=by omega
   subst this
   show qDx (qCe (f+0)) (un acc) b _ c d e=_
   unfold qDx
   rw[qH (by decide),BitVec.xor_assoc,BitVec.xor_self,BitVec.xor_zero]
 | succ n ih=>
   intro q acc b c d e f hq
   show qDx (qCe (f+n+1)) (un acc) b q c d e=_
   unfold qDx
   rw[qD (by simp;omega),qD (qx (by omega) (by omega))]
   simp only[cond_true,Int.toNat_natCast]
   rw[qW4]
   show qCe (f+n+1) (qF .xor .u64 (un acc) (un (pcB q (b.getD q 0)))) b (IntKind.wrap .i64 ((q:Int)+1)) c d e=_
   rw[qAN (by omega) (by omega),qFF,qBT,qBT]
   have:=ih (q+1) (acc ^^^ pcB q (b.getD q 0)) b c d e f (by omega)
   rw[Int.natCast_add] at this
   rw[show ((q:Int)+1)=(q:Int)+(1:Nat) from rfl,this]
   congr 3
   show acc ^^^ pcB q (b.getD q 0) ^^^ (qAc b q ^^^ pcB q (b.getD q 0)) ^^^ qAc b 81=_
   rw[BitVec.xor_assoc acc,qfY]
theorem qj7 (s:Nat):∀ (n:Nat) (k:Nat) (acc:B64) (h x2:List Int) (x3:Int) (x6 x7:List Int) (x8:Int) (f:Nat),k+n=8->
  qC1 (f+n+1) (un acc) s x2 x3 (List.take 8 (List.drop (s*7+s) h)) k x6 x7 x8=some (un (acc ^^^ qBL h s k ^^^ qBL h s 8),x2,x3,x6,x7,x8):=by
 intro n
 induction n with
 | zero=>
   intro k acc h x2 x3 x6 x7 x8 f hk
   have:k=8:=by omega
   subst this
   show qDw (qC1 (f+0)) (un acc) s x2 x3 _ _ x6 x7 x8=_
   unfold qDw
   rw[qH (by decide),BitVec.xor_assoc,BitVec.xor_self,BitVec.xor_zero]
 | succ n ih=>
   intro k acc h x2 x3 x6 x7 x8 f hk
   show qDw (qC1 (f+n+1)) (un acc) s x2 x3 _ k x6 x7 x8=_
   unfold qDw
   rw[qD (by simp;omega),qD (qx (by omega) (by omega))]
   simp only[cond_true,Int.toNat_natCast]
   rw[qj0 h s k (by omega),qW3]
   show qC1 (f+n+1) (qF .xor .u64 (un acc) (un (hnB s k (conv .i8 .i64 (h.getD (s*8+k) 0))))) s x2 x3 _ (IntKind.wrap .i64 ((k:Int)+1)) x6 x7 x8=_
   rw[qAN (by omega) (by omega),qFF,qBT,qBT]
   have:=ih (k+1) (acc ^^^ hnB s k (conv .i8 .i64 (h.getD (s*8+k) 0))) h x2 x3 x6 x7 x8 f (by omega)
   rw[Int.natCast_add] at this
   rw[show ((k:Int)+1)=(k:Int)+(1:Nat) from rfl,this]
   congr 3
   show acc ^^^ hnB s k (conv .i8 .i64 (h.getD (s*8+k) 0)) ^^^ (qBL h s k ^^^ hnB s k (conv .i8 .i64 (h.getD (s*8+k) 0))) ^^^ qBL h s 8=_
   rw[BitVec.xor_assoc acc,qfY]
theorem qj9 (acc:B64) (h c:List Int) (e:Int):qB1 qB (un acc) h 0 c h e=some (un (acc ^^^ qDu h),c,h,e):=by
 obtain⟨f,hf⟩:=qe 2 (by omega)
 obtain⟨g,hg⟩:=qe 8 (by omega)
 have step:∀ (s:Nat) (hs:s<2) (acc:B64) (f:Nat),qB1 (f+1) (un acc) h s c h e=qB1 f (un (acc ^^^ qBL h s 8)) h (s+1:Nat) c h e:=by
  intro s hs acc f
  show qDy (qB1 f) (un acc) h s c h e=_
  unfold qDy
  rw[qD (by simp;omega),qD (qx (by omega) (by omega)),hg]
  show ob (qC1 (g+8+1) (un acc) s h s (List.take 8 (List.drop (Int.toNat s*7+Int.toNat s) h)) (0:Nat) c h e) _=_
  rw[Int.toNat_natCast,qj7 s 8 0 acc h h s c h e g (by omega)]
  show qB1 f (un (acc ^^^ 0 ^^^ qBL h s 8)) h (IntKind.wrap .i64 ((s:Int)+1)) c h e=_
  have z:acc ^^^ (0:B64)=acc:=by simp
  rw[qAN (by omega) (by omega),z]
  rfl
 rw[hf]
 have e1:=step 0 (by omega) acc (f+2)
 have e2:=step 1 (by omega) (acc ^^^ qBL h 0 8) (f+1)
 rw[show f+2+1=f+2+1 from rfl,show (0:Int)=((0:Nat):Int) from rfl,e1]
 rw[show f+2=f+1+1 from rfl,e2]
 show qDy (qB1 f) _ h 2 c h e=_
 unfold qDy
 rw[qH (by decide),BitVec.xor_assoc]
 rfl
def qAW (b h:List Int) (s:Int):B64:=bif s==1 then qAc b 81 ^^^ qDu h ^^^ sdB else qAc b 81 ^^^ qDu h
theorem qkO (b h:List Int) (s:Int):qDv b h s=some (un (qAW b h s)):=by
 obtain⟨g,hg⟩:=qe 81 (by omega)
 have e2:qCe qB 0 b 0 b h s=some (un (qAc b 81),b,h,s):=by
  rw[hg]
  have:=qho 81 0 0 b b h s g (by omega)
  rw[show (0:B64) ^^^ qAc b 0 ^^^ qAc b 81=qAc b 81 by show (0:B64) ^^^ 0 ^^^ _=_;simp] at this
  exact this
 unfold qDv
 rw[e2]
 show ob (qB1 qB (un (qAc b 81)) h 0 b h s) _=_
 rw[qj9]
 show br (s==1) (ob qC2 fun r10=>some (qF .xor .u64 (un (qAc b 81 ^^^ qDu h)) r10)) (some (un (qAc b 81 ^^^ qDu h)))=_
 unfold qAW
 cases hs:s==1
 ·rfl
 ·rw[qW5]
  show some (qF .xor .u64 _ _)=_
  rw[qFF,qBT,qBT]
  rfl
theorem qgx (b:List Int) (i:Nat) (x:Int) (hi:i<b.length):∀ n,qAc (b.set i x) n=if i<n then qAc b n ^^^ pcB i (b.getD i 0) ^^^ pcB i x else qAc b n:=by
 intro n
 induction n with
 | zero=>rfl
 | succ n ih=>
   show qAc (b.set i x) n ^^^ pcB n ((b.set i x).getD n 0)=_
   rw[ih]
   rcases Nat.lt_trichotomy i n with h | h | h
   ·rw[if_pos h,if_pos (by omega)]
    have:(b.set i x).getD n 0=b.getD n 0:=by
     rw[List.getD_eq_getElem?_getD,List.getD_eq_getElem?_getD,List.getElem?_set_ne (by omega)]
    rw[this]
    show qAc b n ^^^ pcB i (b.getD i 0) ^^^ pcB i x ^^^ pcB n (b.getD n 0)=qAc b n ^^^ pcB n (b.getD n 0) ^^^ pcB i (b.getD i 0) ^^^ pcB i x
    ac_rfl
   ·subst h
    rw[if_neg (by omega),if_pos (by omega)]
    have:(b.set i x).getD i 0=x:=by
     rw[List.getD_eq_getElem?_getD,List.getElem?_set_self hi];rfl
    rw[this]
    show qAc b i ^^^ pcB i x=qAc b i ^^^ pcB i (b.getD i 0) ^^^ pcB i (b.getD i 0) ^^^ pcB i x
    rw[BitVec.xor_assoc (qAc b i),BitVec.xor_self,BitVec.xor_zero]
   ·rw[if_neg (by omega),if_neg (by omega)]
    have:(b.set i x).getD n 0=b.getD n 0:=by
     rw[List.getD_eq_getElem?_getD,List.getD_eq_getElem?_getD,List.getElem?_set_ne (by omega)]
    rw[this]
    rfl
theorem qWw (h:List Int) (s0 k0:Nat) (x:Int) (hk:k0<8) (hi:s0*8+k0<h.length) (s:Nat):∀ n,n<=8->qBL (h.set (s0*8+k0) x) s n =
  if s=s0 /\ k0<n then qBL h s n ^^^ hnB s0 k0 (conv .i8 .i64 (h.getD (s0*8+k0) 0)) ^^^ hnB s0 k0 (conv .i8 .i64 x) else qBL h s n:=by
 intro n
 induction n with
 | zero=>intro _;rw[if_neg (by omega)];rfl
 | succ n ih=>
   intro hn
   show qBL (h.set (s0*8+k0) x) s n ^^^ hnB s n (conv .i8 .i64 ((h.set (s0*8+k0) x).getD (s*8+n) 0))=_
   rw[ih (by omega)]
   by_cases hq:s*8+n=s0*8+k0
   ·have e1:s=s0:=by omega
    have e2:n=k0:=by omega
    subst e1
    subst e2
    rw[if_neg (by omega),if_pos (by omega)]
    have:(h.set (s*8+n) x).getD (s*8+n) 0=x:=by
     rw[List.getD_eq_getElem?_getD,List.getElem?_set_self hi];rfl
    rw[this]
    show qBL h s n ^^^ hnB s n (conv .i8 .i64 x)=qBL h s n ^^^ hnB s n (conv .i8 .i64 (h.getD (s*8+n) 0)) ^^^ hnB s n (conv .i8 .i64 (h.getD (s*8+n) 0)) ^^^ hnB s n (conv .i8 .i64 x)
    rw[BitVec.xor_assoc (qBL h s n),BitVec.xor_self,BitVec.xor_zero]
   ·have:(h.set (s0*8+k0) x).getD (s*8+n) 0=h.getD (s*8+n) 0:=by
     rw[List.getD_eq_getElem?_getD,List.getD_eq_getElem?_getD,List.getElem?_set_ne (by omega)]
    rw[this]
    by_cases hc:s=s0 /\ k0<n
    ·rw[if_pos hc,if_pos (by omega)]
     show _=qBL h s n ^^^ hnB s n (conv .i8 .i64 (h.getD (s*8+n) 0)) ^^^ _ ^^^ _
     ac_rfl
    ·rw[if_neg hc,if_neg (by omega)]
     rfl
theorem qj8 (h:List Int) (s0 k0:Nat) (x:Int) (hs:s0<2) (hk:k0<8) (hh:h.length=16):
  qDu (h.set (s0*8+k0) x)=qDu h ^^^ hnB s0 k0 (conv .i8 .i64 (h.getD (s0*8+k0) 0)) ^^^ hnB s0 k0 (conv .i8 .i64 x):=by
 unfold qDu
 rw[qWw h s0 k0 x hk (by omega) 0 8 (Nat.le_refl _),qWw h s0 k0 x hk (by omega) 1 8 (Nat.le_refl _)]
 have:s0=0 \/ s0=1:=by omega
 rcases this with rfl | rfl
 ·rw[if_pos (by omega),if_neg (by omega)];ac_rfl
 ·rw[if_neg (by omega),if_pos (by omega)];ac_rfl
theorem qLe (b h:List Int) (s:Int):kof b h s=un (qAW b h s):=by unfold kof;rw[qkO];rfl
theorem qXd (q x:Int):kp q x=un (pcB q x):=by unfold kp;rw[qW4];rfl
theorem qXa (s k n:Int):kh s k n=un (hnB s k n):=by unfold kh;rw[qW3];rfl
theorem qkv:qJx=un sdB:=by unfold qJx;rw[qW5];rfl
theorem qnE {q x:Int} (h:kd x=0):pcB q x=pcB q 0:=by
 have e:∀ y,kd y=0->qCI q y=some 0:=by
  intro y hy
  unfold qCI
  rw[qAk,qA,hy]
  rfl
 unfold pcB
 rw[e x h,e 0 qFm]
theorem qkS {b:List Int} (hl:b.length=81) {q:Int} (hq:0<=q /\ q<81) (x:Int) (h:List Int) (s:Int):qAW (put b q x) h s=qAW b h s ^^^ pcB q (at_ b q) ^^^ pcB q x:=by
 have e:pcB q (if kd x=0 then 0 else x)=pcB q x:=by
  split
  ·rename_i h;exact (qnE h).symm
  ·rfl
 unfold qAW put at_
 rw[if_pos hq,if_pos hq]
 revert e
 generalize (if kd x=0 then 0 else x)=y
 intro e
 have qw:=qgx b q.toNat y (by omega) 81
 rw[if_pos (show q.toNat<81 by omega),show ((q.toNat:Nat):Int)=q by omega,e] at qw
 rw[qw]
 cases s==1<;>simp only[cond_true,cond_false]<;>ac_rfl
theorem qkR {h:List Int} (hh:h.length=16) {s k:Int} (hs:s=0 \/ s=1) (k0:0<=k) (k1:k<8) (d:Int) (b:List Int) (S:Int):
  qAW b (qw h s k d) S=qAW b h S ^^^ hnB s k (hd_ h s k) ^^^ hnB s k (IntKind.wrap .i8 (hd_ h s k+d)):=by
 have e2:∀ x,conv .i8 .i64 x=x:=fun _=>rfl
 have hset':=qj8 h s.toNat k.toNat (IntKind.wrap .i8 (hd_ h s k+d)) (by omega) (by omega) hh
 rw[e2,e2,show ((s.toNat:Nat):Int)=s by omega,show ((k.toNat:Nat):Int)=k by omega] at hset'
 unfold qAW qw
 rw[hset']
 unfold hd_
 cases S==1<;>simp only[cond_true,cond_false]<;>ac_rfl
theorem qkT {s:Int} (hs:s=0 \/ s=1) (b h:List Int):qAW b h (1 - s)=qAW b h s ^^^ sdB:=by
 rcases hs with rfl | rfl
 ·rfl
 ·show qAc b 81 ^^^ qDu h=qAc b 81 ^^^ qDu h ^^^ sdB ^^^ sdB
  rw[BitVec.xor_assoc _ sdB,BitVec.xor_self,BitVec.xor_zero]
theorem qID {b:List Int} (hl:b.length=81) {q:Int} (hq:0<=q /\ q<81) (x:Int) (h:List Int) (s:Int):qBC (un (qAW b h s)) b q x=un (qAW (put b q x) h s):=by
 unfold qBC
 rw[qXd,qXd,qFF,qFF,qBT,qBT,qBT,qBT,qkS hl hq,BitVec.xor_assoc]
theorem qPo {h:List Int} (hh:h.length=16) {s k:Int} (hs:s=0 \/ s=1) (k0:0<=k) (k1:k<8) {d:Int} (b:List Int) (S:Int) (r0:-128<=hd_ h s k+d) (r1:hd_ h s k+d<=127):
  qEc (un (qAW b h S)) h s k d=un (qAW b (qw h s k d) S):=by
 unfold qEc
 rw[qXa,qXa,qFF,qFF,qBT,qBT,qBT,qBT,qkR hh hs k0 k1,BitVec.xor_assoc,qAN (by omega) (by omega),qGV r0 r1]
theorem qLi {s:Int} (hs:s=0 \/ s=1) (b h:List Int):qLh (un (qAW b h s))=un (qAW b h (1 - s)):=by
 unfold qLh
 rw[qkv,qFF,qBT,qBT,qkT hs]
theorem qln {b h:List Int} {s:Int} (hS:Sound b h s) (hf:qAb h) (hh:h.length=16) {f t d:Int} {p:Bool} (hP:CanP b h s f t d p):
  qD1 (kof b h s) b h s f t d p=kof (mb b s f t d p) (mh b h s t d) (1 - s):=by
 rw[qLe,qLe]
 unfold qD1 mb mh
 by_cases hd:d=0
 ·obtain⟨f0,f1,f2,g1,g2,g3,g4⟩:=hP.move hd
  simp only[if_neg (show ¬ (d≠0) from fun h=>h hd)]
  rw[qID hS.clean.len ⟨f0,f1⟩,qID (hS.clean.put f 0).len hP.to_]
  by_cases ht:at_ b t=0
  ·simp only[if_pos ht]
   rw[qLi hS.side]
  ·have hk:=(hS.clean.at_ t).resolve_left ht
   obtain⟨r1,r2⟩:=qG9 hk g3
   have hc:=hS.counts _ r1 r2
   have h0:=hS.hands (rw_ (kd (at_ b t))) (by omega) r2
   have hsd:=hS.side
   simp only[if_neg ht]
   rw[qPo hh hS.side (by omega) r2 _ _ (by rcases hsd with rfl | rfl<;>omega) (by rcases hsd with rfl | rfl<;>omega),qLi hS.side]
 ·obtain⟨d0,d1,d2,d3,g1,g2⟩:=hP.drop hd
  have hb:=qHv hf s d
  simp only[if_pos (show d≠0 from hd)]
  rw[qPo hh hS.side (by omega) d1 _ _ (by omega) (by omega),qID hS.clean.len hP.to_,qLi hS.side]
end Go.Kk.Pl
namespace Go.Kk.Pl
structure Going (b h:List Int) (s:Int):Prop where
 sound:Sound b h s
 fits:qAb h
 len:h.length=16
end Go.Kk.Pl
namespace Go.Kk.Pl
theorem qU5 {b c:List Int} (hb:b.length=81) (hc:c.length=81) (h:∀ q,0<=q->q<81->at_ b q=at_ c q):b=c:=by
 refine List.ext_getElem (by rw[hb,hc]) fun j h1 h2=>?_
 have:=h j (by omega) (by omega)
 unfold at_ at this
 rw[if_pos (by omega),if_pos (by omega),Int.toNat_natCast,List.getD_eq_getElem?_getD,List.getD_eq_getElem?_getD,List.getElem?_eq_getElem h1,List.getElem?_eq_getElem h2] at this
 exact this
theorem qVW {b:List Int} (hc:Clean b) (q:Int):(if kd (at_ b q)=0 then 0 else at_ b q)=at_ b q:=by
 rcases hc.at_ q with h | h
 ·rw[h];rfl
 ·rw[if_neg h]
theorem qgb {b:List Int} (hc:Clean b) {t:Int} (ht:0<=t /\ t<81) (h0:at_ b t=0) (x:Int):put (put b t x) t 0=b:=by
 refine qU5 ((hc.put _ _).put _ _).len hc.len fun q q0 q1=>?_
 rw[qDi (hc.put _ _).len ht,qDi hc.len ht]
 split
 ·rename_i e;subst e;rw[h0];rfl
 ·rfl
theorem qgd {b:List Int} (hc:Clean b) {f t:Int} (hf:0<=f /\ f<81) (ht:0<=t /\ t<81) (x:Int):put (put (put (put b f 0) t x) t (at_ b t)) f (at_ b f)=b:=by
 have c1:=hc.put f 0
 have c2:=c1.put t x
 have c3:=c2.put t (at_ b t)
 refine qU5 (c3.put _ _).len hc.len fun q q0 q1=>?_
 rw[qDi c3.len hf,qDi c2.len ht,qDi c1.len ht,qDi hc.len hf,qVW hc,qVW hc]
 split
 ·rename_i e;subst e;rfl
 ·split
  ·rename_i e;subst e;rfl
  ·rfl
theorem qPU {h:List Int} (hl:h.length=16) {s k:Int} (hs:s=0 \/ s=1) (k0:0<=k) (k1:k<8) {d:Int} (r0:-128<=hd_ h s k /\ hd_ h s k<=127) (r1:-128<=hd_ h s k+d /\ hd_ h s k+d<=127):
  qw (qw h s k d) s k (-d)=h:=by
 have e:=qFi hl hs k0 k1 d hs k0 k1
 rw[if_pos ⟨rfl,rfl⟩,qGV r1.1 r1.2] at e
 rw[show qw (qw h s k d) s k (-d)=(qw h s k d).set (s.toNat*8+k.toNat) (IntKind.wrap .i8 (hd_ (qw h s k d) s k+-d)) from rfl,e,show hd_ h s k+d+-d=hd_ h s k by omega,qGV r0.1 r0.2]
 have hi:s.toNat*8+k.toNat<h.length:=by rcases hs with rfl | rfl<;>simp<;>omega
 have hg:hd_ h s k=h[s.toNat*8+k.toNat]:=by
  unfold hd_
  rw[List.getD_eq_getElem?_getD,List.getElem?_eq_getElem hi]
  rfl
 unfold qw
 rw[List.set_set,hg,List.set_getElem_self]
end Go.Kk.Pl
namespace Go.Kk.Pl
theorem qH9 {b:List Int} (hc:Clean b) (q x K:Int) (n:Nat) (h:List Int) (s:Int) (m:Nat) (st:List (List Int)):
  qBI q x K n b h s (qI b) (qL b) m st=some (qBC K b q x,n,put b q x,h,s,qI (put b q x),qL (put b q x),m,st):=by
 unfold qBI
 simp only[qCB,qA,qXe,qQc hc]
 rfl
theorem qWv {b:List Int} (hc:Clean b) (h:List Int) (s:Int):qFZ b h s=some (kof b h s,0,b,h,s,qI b,qL b,0,[]):=by
 unfold qFZ
 rw[qJ6 hc.len,qJh hc,qA]
 simp only
 rw[qXc,qA]
theorem qlc {b:List Int} (hc:Clean b) (h:List Int) {s:Int} (hs:s=0 \/ s=1) (f t d:Int) (p:Bool):∃ c,(∀ K n m st,qDq f t d p K n b h s (qI b) (qL b) m st=some c) /\
  ((c=false /\ ∀ K n m st,qCb f t d p K n b h s (qI b) (qL b) m st=some (.inl (false,K,n,b,h,s,qI b,qL b,m,st))) \/
   (c=true /\ CanP b h s f t d p /\ ∀ K n m st,(n+1)*40<=140737488355328->qCb f t d p K n b h s (qI b) (qL b) m st =
    some (.inr (true,qD1 K b h s f t d p,n+1,mb b s f t d p,mh b h s t d,1 - s,qI (mb b s f t d p),qL (mb b s f t d p),n+1,List.append (List.take n st) [[f,t,d,bi p,at_ b t,was b s f d]])))):=by
 obtain⟨c,hcan,hP⟩:=qVJ b h hs f t d p
 refine⟨c,fun K n m st=>hcan K n _ _ m st,?_⟩
 cases c with
 | false=>
   refine .inl ⟨rfl,fun K n m st=>?_⟩
   unfold qCb
   rw[hcan,qA,qD (by rfl)]
 | true=>
   have hP:=hP rfl
   refine .inr ⟨rfl,hP,fun K n m st hn=>?_⟩
   have hn':decide ((n+1)*40<=140737488355328)=true:=by simpa using hn
   unfold qCb
   rw[hcan,qA,qH (by rfl),qCB,qA]
   by_cases hd:d=0
   ·obtain⟨f0,f1,f2,g1,g2,g3,g4⟩:=hP.move hd
    rw[qH (by simpa using hd),qCB,qA]
    have hx:∀ {α:Type} (k:Int->Option α),(br p (ob (qAB (at_ b f)) fun a16=>ob (qC6 a16) fun a17=>ob (qAz s a17) k) (k (at_ b f)))=k (laid b s f d p):=by
     intro α k
     unfold laid
     rw[if_neg (by simpa using hd)]
     cases p with
     | false=>rfl
     | true=>
       obtain⟨u1,u2,u3⟩:=qGR (g4 rfl)
       rw[qD rfl,qAk,qA,qHS,qA,qGw hs u1 u2 u3,qA,if_pos rfl]
    have p1:=qH9 hc f 0 K n h s m st
    have p2:=qH9 (hc.put f 0) t (laid b s f d p) (qBC K b f 0) n h s m st
    have tail:(br (at_ b t != 0)
      (ob (qAB (at_ b t)) fun a37=>
      ob (qC5 a37) fun a38=>
      ob (qDK s a38 1 (qBC (qBC K b f 0) (put b f 0) t (laid b s f d p)) n (put (put b f 0) t (laid b s f d p)) h s (qI (put (put b f 0) t (laid b s f d p))) (qL (put (put b f 0) t (laid b s f d p))) m st) fun (a39_0,a39_1,a39_2,a39_3,a39_4,a39_5,a39_6,a39_7,a39_8)=>
      ob (qCG a39_0 a39_1 a39_2 a39_3 a39_4 a39_5 a39_6 a39_7 a39_8) fun (a48_0,a48_1,a48_2,a48_3,a48_4,a48_5,a48_6,_,a48_8)=>
      br (decide ((a48_1+1)*40<=140737488355328))
       (some (Sum.inr (true,a48_0,a48_1+1,a48_2,a48_3,a48_4,a48_5,a48_6,a48_1+1,List.append (List.take a48_1 a48_8) [[f,t,d,bi p,at_ b t,at_ b f]])))
       (none))
      (ob (qCG (qBC (qBC K b f 0) (put b f 0) t (laid b s f d p)) n (put (put b f 0) t (laid b s f d p)) h s (qI (put (put b f 0) t (laid b s f d p))) (qL (put (put b f 0) t (laid b s f d p))) m st) fun (a37_0,a37_1,a37_2,a37_3,a37_4,a37_5,a37_6,_,a37_8)=>
      br (decide ((a37_1+1)*40<=140737488355328))
       (some (Sum.inr (true,a37_0,a37_1+1,a37_2,a37_3,a37_4,a37_5,a37_6,a37_1+1,List.append (List.take a37_1 a37_8) [[f,t,d,bi p,at_ b t,at_ b f]])))
       (none)):Option ((Bool×Int×Nat×List Int×List Int×Int×List (List Int)×List (List Int)×Nat×List (List Int))⊕(Bool×Int×Nat×List Int×List Int×Int×List (List Int)×List (List Int)×Nat×List (List Int)))) =
      some (.inr (true,qD1 K b h s f t d p,n+1,mb b s f t d p,mh b h s t d,1 - s,qI (mb b s f t d p),qL (mb b s f t d p),n+1,List.append (List.take n st) [[f,t,d,bi p,at_ b t,was b s f d]])):=by
     unfold qD1 mb mh was
     by_cases ht:at_ b t=0
     ·rw[qH (by simpa using ht),qGq hs,qA]
      simp only
      rw[qD hn']
      simp[hd,ht]
     ·have hk:=(hc.at_ t).resolve_left ht
      obtain⟨r1,r2⟩:=qG9 hk g3
      obtain⟨k1,k2,k3⟩:=qBg (at_ b t)
      rw[qD (by simpa using ht),qAk,qA,qML k1 k2,qA,qH8 hs r1 r2 1 (.inl rfl),qA]
      simp only
      rw[qGq hs,qA]
      simp only
      rw[qD hn']
      simp[hd,ht]
    refine Eq.trans ?_ tail
    cases p with
    | true=>
      have hx:=hx (fun a18=>ob (qBI f 0 K n b h s (qI b) (qL b) m st) fun (a19_0,a19_1,a19_2,a19_3,a19_4,a19_5,a19_6,a19_7,a19_8)=>
       ob (qBI t a18 a19_0 a19_1 a19_2 a19_3 a19_4 a19_5 a19_6 a19_7 a19_8) fun r=>some r)
      rw[qD rfl] at hx ⊢
      obtain⟨u1,u2,u3⟩:=qGR (g4 rfl)
      have hl:laid b s f d true=16*s+up_ (kd (at_ b f)):=by unfold laid;rw[if_neg (by simpa using hd),if_pos rfl]
      rw[qAk,qA,qHS,qA,qGw hs u1 u2 u3,qA,p1,qA]
      simp only
      rw[<- hl,p2,qA]
    | false=>
      have hl:laid b s f d false=at_ b f:=by unfold laid;rw[if_neg (by simpa using hd),if_neg (by simp)]
      rw[qH rfl,p1,qA]
      simp only
      rw[hl] at p2 ⊢
      rw[p2,qA]
   ·obtain⟨d0,d1,d2,d3,g1,g2⟩:=hP.drop hd
    have hl:laid b s f d p=16*s+d:=by unfold laid;rw[if_pos hd]
    have e1:qAz s d=some (laid b s f d p):=by rw[hl];exact qGw hs (by omega) (by omega) (by omega)
    have p1:=qH9 hc t (laid b s f d p) (qEc K h s d (-1)) n (qw h s d (-1)) s m st
    rw[qD (by simpa using hd),e1,qA,qH8 hs (by omega) d1 (-1) (.inr rfl),qA]
    simp only
    rw[p1,qA]
    simp only
    rw[qGq hs,qA]
    simp only
    rw[qD hn']
    unfold qD1 mb mh was
    simp only[if_pos hd,hl]
theorem qXT {h:List Int} (hl:h.length=16) {s k:Int} (hs:s=0 \/ s=1) (k0:0<=k) (k1:k<8) {d:Int} (b:List Int) (S:Int) (r0:-128<=hd_ h s k /\ hd_ h s k<=127) (r1:-128<=hd_ h s k+d /\ hd_ h s k+d<=127):
  qEc (un (qAW b (qw h s k d) S)) (qw h s k d) s k (-d)=un (qAW b h S):=by
 have e:=qFi hl hs k0 k1 d hs k0 k1
 rw[if_pos ⟨rfl,rfl⟩,qGV r1.1 r1.2] at e
 rw[qPo (by rw[qPV,hl]) hs k0 k1 b S (by omega) (by omega),qPU hl hs k0 k1 r0 r1]
theorem qgc {b h:List Int} {s:Int} (hg:Going b h s) {f t d:Int} {p:Bool} (hP:CanP b h s f t d p) (n:Nat) (hn:n<=1000) (m:Nat) (st:List (List Int))
  (hst:st.getD n []=[f,t,d,bi p,at_ b t,was b s f d]):
  qEW (un (qAW (mb b s f t d p) (mh b h s t d) (1 - s))) (n+1) (mb b s f t d p) (mh b h s t d) (1 - s) (qI (mb b s f t d p)) (qL (mb b s f t d p)) m st=some (true,un (qAW b h s),n,b,h,s,qI b,qL b,m,st):=by
 have hS:=hg.sound
 have hs':1 - s=0 \/ 1 - s=1:=by have:=hS.side;omega
 unfold qEW
 have e1:IntKind.wrap .i64 (Int.ofNat (n+1) - 1)=(n:Int):=by
  have:Int.ofNat (n+1)=(n:Int)+1:=rfl
  rw[this,qAN (by omega) (by omega)]
  omega
 rw[qH (by simp;omega),e1,qD (qx (by omega) (by omega)),qD (qJw (by omega) (by omega)),qGq hs',qA,qLi hs',show (1:Int) - (1 - s)=s by omega]
 simp only[Int.toNat_natCast,hst,Nat.sub_zero]
 simp only[List.take_succ_cons,List.take_zero,List.headD_cons,List.tail_cons]
 by_cases hd:d=0
 ·obtain⟨f0,f1,f2,g1,g2,g3,g4⟩:=hP.move hd
  have hw:was b s f d=at_ b f:=by unfold was;rw[if_neg (by simpa using hd)]
  have hmb:mb b s f t d p=put (put b f 0) t (laid b s f d p):=by unfold mb;rw[if_neg (by simpa using hd)]
  rw[qH (by simpa using hd),hw,hmb]
  have p1:=qH9 ((hS.clean.put f 0).put t (laid b s f d p)) t (at_ b t) (un (qAW (put (put b f 0) t (laid b s f d p)) (mh b h s t d) s)) n (mh b h s t d) s m st
  rw[qID ((hS.clean.put f 0).put t (laid b s f d p)).len hP.to_] at p1
  have p2:=qH9 (((hS.clean.put f 0).put t (laid b s f d p)).put t (at_ b t)) f (at_ b f) (un (qAW (put (put (put b f 0) t (laid b s f d p)) t (at_ b t)) (mh b h s t d) s)) n (mh b h s t d) s m st
  rw[qID (((hS.clean.put f 0).put t (laid b s f d p)).put t (at_ b t)).len ⟨f0,f1⟩] at p2
  rw[qgd hS.clean ⟨f0,f1⟩ hP.to_] at p2
  rw[p1,qA]
  simp only
  rw[p2,qA]
  simp only
  by_cases ht:at_ b t=0
  ·have hmh:mh b h s t d=h:=by unfold mh;rw[if_neg (by simpa using hd),if_pos ht]
   rw[qH (by simpa using ht),hmh]
  ·have hk:=(hS.clean.at_ t).resolve_left ht
   obtain⟨r1,r2⟩:=qG9 hk g3
   obtain⟨k1,k2,k3⟩:=qBg (at_ b t)
   have hc:=hS.counts _ r1 r2
   have h0:=hS.hands (rw_ (kd (at_ b t))) (by omega) r2
   have hsd:=hS.side
   have hmh:mh b h s t d=qw h s (rw_ (kd (at_ b t))) 1:=by unfold mh;rw[if_neg (by simpa using hd),if_neg ht]
   rw[qD (by simpa using ht),qAk,qA,qML k1 k2,qA,qH8 hS.side r1 r2 (-1) (.inr rfl),qA,hmh,
    qPU hg.len hS.side (by omega) r2 (qHv hg.fits _ _) (by rcases hsd with rfl | rfl<;>constructor<;>omega),
    qXT hg.len hS.side (by omega) r2 _ _ (qHv hg.fits _ _) (by rcases hsd with rfl | rfl<;>constructor<;>omega)]
 ·obtain⟨d0,d1,d2,d3,g1,g2⟩:=hP.drop hd
  have hmb:mb b s f t d p=put b t (laid b s f d p):=by unfold mb;rw[if_pos hd]
  have hmh:mh b h s t d=qw h s d (-1):=by unfold mh;rw[if_pos hd]
  have hb:=qHv hg.fits s d
  have p1:=qH9 (hS.clean.put t (laid b s f d p)) t 0 (un (qAW (put b t (laid b s f d p)) (mh b h s t d) s)) n (mh b h s t d) s m st
  rw[qID (hS.clean.put t (laid b s f d p)).len hP.to_] at p1
  rw[qgb hS.clean hP.to_ g2] at p1
  rw[qD (by simpa using hd),hmb,p1,qA]
  simp only
  have hbk:qw (qw h s d (-1)) s d 1=h:=qPU hg.len hS.side (by omega) d1 (d:=-1) hb (by constructor<;>omega)
  rw[qH8 hS.side (by omega) d1 1 (.inl rfl),qA,hmh]
  have hky:qEc (un (qAW b (qw h s d (-1)) s)) (qw h s d (-1)) s d 1=un (qAW b h s):=qXT hg.len hS.side (by omega) d1 (d:=-1) _ _ hb (by constructor<;>omega)
  rw[hbk,hky]
end Go.Kk.Pl
namespace Go.Kk.Pl
structure PosP (b h:List Int) (s:Int):Prop where
 len:b.length=81
 fits:qAb h
 hlen:h.length=16
 zero:qDj b h s=0
theorem PosP.clean {b h:List Int} {s:Int} (hp:PosP b h s):Clean b:=(qG1 hp.len hp.zero).1
theorem PosP.side {b h:List Int} {s:Int} (hp:PosP b h s):s=0 \/ s=1:=(qG1 hp.len hp.zero).2.1
theorem PosP.going {b h:List Int} {s:Int} (hp:PosP b h s):Going b h s:=⟨qds hp.len hp.fits (qKy hp.zero),hp.fits,hp.hlen⟩
theorem PosP.after {b h:List Int} {s:Int} (hp:PosP b h s) {m:List Int} (hm:m∈lgL b h s):PosP (mbM b s m) (mhM b h s m) (1 - s):=by
 obtain⟨hc,hs,hno,k,k',hk,hk'⟩:=qG1 hp.len hp.zero
 obtain⟨_,hm2,_,hm4⟩:=qX2 hc hs hno hk hk' hm
 have hsafe:inC (mb b s (m0 m) (m1 m) (m2 m) (m3 m)) s=false:=by simpa[qBt,mbM] using hm4
 exact⟨(qQE hc _ _ _ _ _).1,qlk hp.fits _ _ _ _,qll hp.hlen _ _ _ _,qf9 hp.len hp.fits hp.hlen (qKy hp.zero) hm2 hsafe⟩
theorem PosP.lists {b h:List Int} {s:Int} (hp:PosP b h s):lgL b h s=rlL b h s:=by
 obtain⟨hc,hs,hno,k,k',hk,hk'⟩:=qG1 hp.len hp.zero
 exact qYB hc h hs hno hk hk'
theorem PosP.all {b h:List Int} {s:Int} (hp:PosP b h s):qDN b h s (qI b) (qL b)=some ((lgL b h s).length,b,h,s,qI b,qL b,(lgL b h s).length,lgL b h s):=by
 obtain⟨hc,hs,hno,k,k',hk,hk'⟩:=qG1 hp.len hp.zero
 exact qXf hc h hs hk hk'
theorem PosP.full {b h:List Int} {s:Int} (hp:PosP b h s) {m:List Int} (hm:m∈lgL b h s):Mv4 m /\ qAJ b h s (m0 m) (m1 m) (m2 m) (m3 m)=true:=by
 obtain⟨hc,hs,hno,k,k',hk,hk'⟩:=qG1 hp.len hp.zero
 have:=qX2 hc hs hno hk hk' hm
 exact⟨this.1,this.2.1⟩
theorem qFs (n:Nat):(Int.ofNat n==0)=decide (n=0):=by
 rw[Bool.eq_iff_iff,decide_eq_true_eq,beq_iff_eq]
 exact⟨fun h=>by simpa using h,fun h=>by rw[h];rfl⟩
end Go.Kk.Pl
namespace Go.Kk.Pl
set_option maxRecDepth 100000
def Mk (k:Int):Int:=if k=1 then 604 else if k=2 \/ k=3 \/ k=4 then 554 else if k=5 then 605 else if k=6 then 1104 else if k=7 then 1254 else 0
theorem qKv (k:Int):0<=Mk k /\ Mk k<=1254:=by unfold Mk;split<;>(try split)<;>(try split)<;>(try split)<;>(try split)<;>omega
theorem quA:∀ n:Fin 32,kd (n.val:Int)=0 \/ kd (n.val:Int)=8 \/ (match qDc (kd (n.val:Int)) with
  | some v=>decide (0<=v /\ v+4<=Mk (rw_ (kd (n.val:Int))))
  | none=>false)=true:=by decide +kernel
theorem qfP {x:Int} (h0:kd x≠0) (h8:kd x≠8):∃ v,qDc (kd x)=some v /\ 0<=v /\ v+4<=Mk (rw_ (kd x)):=by
 have hx:0<=x /\ x<=31:=by
  unfold kd at h0
  split at h0
  ·exact absurd rfl h0
  ·omega
 obtain⟨n,hn⟩:=qLT hx.1 hx.2
 subst hn
 have:=quA n
 rcases this with h | h | h
 ·exact absurd h h0
 ·exact absurd h h8
 ·split at h
  ·rename_i v hv
   exact⟨v,hv,by simpa using h⟩
  ·cases h
theorem quB:∀ n:Fin 81,(match qEL (n.val:Int) with
  | some v=>decide (0<=v /\ v<=4)
  | none=>false)=true:=by decide +kernel
theorem qfQ {q:Nat} (h:q<81):∃ v,qEL (q:Int)=some v /\ 0<=v /\ v<=4:=by
 have:=quB ⟨q,h⟩
 simp only at this
 split at this
 ·rename_i v hv
  exact⟨v,hv,by simpa using this⟩
 ·cases this
theorem qt9:∀ n:Fin 8,(match qHT (n.val:Int) with
  | some v=>decide (0<=v /\ v<=Mk (n.val:Int))
  | none=>false)=true:=by decide +kernel
theorem qfN {k:Nat} (h:k<8):∃ v,qHT (k:Int)=some v /\ 0<=v /\ v<=Mk (k:Int):=by
 have:=qt9 ⟨k,h⟩
 simp only at this
 split at this
 ·rename_i v hv
  exact⟨v,hv,by simpa using this⟩
 ·cases this
def Ws:List Int->Int
 | []=>0
 | x :: l=>Mk (rw_ (kd x))+Ws l
theorem qqo (x:Int):rw_ x=0 \/ rw_ x=1 \/ rw_ x=2 \/ rw_ x=3 \/ rw_ x=4 \/ rw_ x=5 \/ rw_ x=6 \/ rw_ x=7 \/ rw_ x=8:=by
 unfold rw_
 split
 ·omega
 ·split<;>omega
theorem qTc:∀ l:List Int,Ws l=604*cnt l 1+554*cnt l 2+554*cnt l 3+554*cnt l 4+605*cnt l 5+1104*cnt l 6+1254*cnt l 7
 | []=>rfl
 | x :: l=>by
   have ih:=qTc l
   have c1:=qEU x l 1
   have c2:=qEU x l 2
   have c3:=qEU x l 3
   have c4:=qEU x l 4
   have c5:=qEU x l 5
   have c6:=qEU x l 6
   have c7:=qEU x l 7
   unfold dl at c1 c2 c3 c4 c5 c6 c7
   unfold Ws
   rcases qqo (kd x) with h | h | h | h | h | h | h | h | h<;>rw[h] at c1 c2 c3 c4 c5 c6 c7 ⊢ <;> simp[Mk] at c1 c2 c3 c4 c5 c6 c7 ⊢ <;> omega
theorem qtm {b:List Int} (hc:Clean b) (x2 x3:List Int) (x4:Int):∀ (n i:Nat),i+n=81->∀ (a0 a1:Int),0<=a0->0<=a1->a0+a1<=1254*i->∀ F,
  ∃ a0' a1',0<=a0' /\ 0<=a1' /\ a0'+a1'<=a0+a1+Ws (b.drop i) /\ a0'+a1'<=1254*81 /\ qAh (F+n+1) b i x2 x3 x4 [a0,a1]=some (x2,x3,x4,[a0',a1']):=by
 intro n
 induction n with
 | zero=>
   intro i hi a0 a1 h0 h1 hs F
   refine⟨a0,a1,h0,h1,?_,by omega,?_⟩
   ·rw[List.drop_eq_nil_of_le (by have:=hc.len;omega)]
    simp only[Ws];omega
   ·rw[qAh.eq_2]
    unfold qJH
    rw[qY (by omega)]
 | succ n ih=>
   intro i hi a0 a1 h0 h1 hs F
   have hil:i<b.length:=by have:=hc.len;omega
   have hx:b.getD i 0=b[i]:=by rw[List.getD_eq_getElem?_getD,List.getElem?_eq_getElem hil];rfl
   have hdr:Ws (b.drop i)=Mk (rw_ (kd (b.getD i 0)))+Ws (b.drop (i+1)):=by
    rw[List.drop_eq_getElem_cons hil,hx];rfl
   have hm:=qKv (rw_ (kd (b.getD i 0)))
   have skip:∃ a0' a1',0<=a0' /\ 0<=a1' /\ a0'+a1'<=a0+a1+Ws (b.drop i) /\ a0'+a1'<=1254*81 /\ qAh (F+n+1) b ((i+1:Nat):Int) x2 x3 x4 [a0,a1]=some (x2,x3,x4,[a0',a1']):=by
    obtain⟨p,q,e1,e2,e3,e4,e5⟩:=ih (i+1) (by omega) a0 a1 h0 h1 (by omega) F
    exact⟨p,q,e1,e2,by omega,e4,e5⟩
   have body:qAh (F+(n+1)+1) b i x2 x3 x4 [a0,a1]=br (decide (sd (b.getD i 0) >= 0))
     (br (kd (b.getD i 0) != 8)
      (br (inB (sd (b.getD i 0)) 2)
       (ob (qDc (kd (b.getD i 0))) fun a12=>ob (qEL i) fun a13=>br (inB (sd (b.getD i 0)) 2)
        (qAh (F+n+1) b ((i+1:Nat):Int) x2 x3 x4 (List.set [a0,a1] (Int.toNat (sd (b.getD i 0))) (IntKind.wrap .i64 (List.getD [a0,a1] (Int.toNat (sd (b.getD i 0))) 0+IntKind.wrap .i64 (a12+a13))))) none) none)
      (qAh (F+n+1) b ((i+1:Nat):Int) x2 x3 x4 [a0,a1]))
     (qAh (F+n+1) b ((i+1:Nat):Int) x2 x3 x4 [a0,a1]):=by
    rw[qAh.eq_2]
    unfold qJH
    rw[qZ (by omega),qU (by omega) (by omega)]
    simp only[cond_true,tn,qCR,qAk,qA]
    rw[w_s (n:=(i:Int)+1) (by omega) (by omega)]
    rfl
   rw[body]
   by_cases hk0:kd (b.getD i 0)=0
   ·have:sd (b.getD i 0) = -1:=by unfold sd;rw[if_pos hk0]
    rw[this,qH (by decide)]
    exact skip
   have hsd:sd (b.getD i 0)=0 \/ sd (b.getD i 0)=1:=by unfold sd;rw[if_neg hk0];split<;>simp
   rw[qD (by rcases hsd with h | h<;>rw[h]<;>decide)]
   by_cases hk8:kd (b.getD i 0)=8
   ·rw[qp hk8];exact skip
   rw[qo hk8]
   obtain⟨v,hv,v0,v1⟩:=qfP hk0 hk8
   obtain⟨u,hu,u0,u1⟩:=qfQ (q:=i) (by omega)
   rw[qU (by omega) (by omega),hv,qA,hu,qA,qU (by omega) (by omega),w_s (n:=v+u) (by omega) (by omega)]
   rcases hsd with h | h<;>rw[h]
   ·show ∃ a0' a1',0<=a0' /\ 0<=a1' /\ a0'+a1'<=a0+a1+Ws (b.drop i) /\ a0'+a1'<=1254*81 /\ qAh (F+n+1) b ((i+1:Nat):Int) x2 x3 x4 [IntKind.wrap .i64 (a0+(v+u)),a1]=some (x2,x3,x4,[a0',a1'])
    rw[w_s (by omega) (by omega)]
    obtain⟨p,q,e1,e2,e3,e4,e5⟩:=ih (i+1) (by omega) (a0+(v+u)) a1 (by omega) h1 (by omega) F
    exact⟨p,q,e1,e2,by omega,e4,e5⟩
   ·show ∃ a0' a1',0<=a0' /\ 0<=a1' /\ a0'+a1'<=a0+a1+Ws (b.drop i) /\ a0'+a1'<=1254*81 /\ qAh (F+n+1) b ((i+1:Nat):Int) x2 x3 x4 [a0,IntKind.wrap .i64 (a1+(v+u))]=some (x2,x3,x4,[a0',a1'])
    rw[w_s (by omega) (by omega)]
    obtain⟨p,q,e1,e2,e3,e4,e5⟩:=ih (i+1) (by omega) a0 (a1+(v+u)) h0 (by omega) (by omega) F
    exact⟨p,q,e1,e2,by omega,e4,e5⟩
def Hs (r:List Int):Nat->Nat->Int
 | 0,_=>0
 | n+1,k=>r.getD k 0*Mk k+Hs r n (k+1)
theorem qey {r:List Int} (hr:∀ k,0<=r.getD k 0 /\ r.getD k 0<=127) (sdN:Nat) (hsd:sdN<2) (x1 x5 x6:List Int) (x2 x7:Int):∀ (n k:Nat),k+n=8->∀ (a0 a1:Int),0<=a0->0<=a1->a0+a1<=2000000+200000*k->∀ F,
  ∃ a0' a1',0<=a0' /\ 0<=a1' /\ a0'+a1'<=a0+a1+Hs r n k /\ qBA (F+n+1) sdN x1 x2 r k x5 x6 x7 [a0,a1]=some (x1,x2,x5,x6,x7,[a0',a1']):=by
 intro n
 induction n with
 | zero=>
   intro k hk a0 a1 h0 h1 hs F
   refine⟨a0,a1,h0,h1,by simp only[Hs];omega,?_⟩
   rw[qBA.eq_2]
   unfold qJG
   rw[qY (by omega)]
 | succ n ih=>
   intro k hk a0 a1 h0 h1 hs F
   obtain⟨v,hv,v0,v1⟩:=qfN (k:=k) (by omega)
   have hm:=qKv (k:Int)
   obtain⟨c0,c1⟩:=hr k
   have hcv:0<=r.getD k 0*v:=Int.mul_nonneg c0 v0
   have hcm:r.getD k 0*v<=r.getD k 0*Mk k:=Int.mul_le_mul_of_nonneg_left v1 c0
   have hcx:r.getD k 0*Mk k<=127*1254:=by
    have h1:r.getD k 0*Mk k<=127*Mk k:=Int.mul_le_mul_of_nonneg_right c1 hm.1
    have h2:127*Mk k<=127*1254:=Int.mul_le_mul_of_nonneg_left hm.2 (by omega)
    omega
   have hHs:Hs r (n+1) k=r.getD k 0*Mk k+Hs r n (k+1):=rfl
   have body:qBA (F+(n+1)+1) sdN x1 x2 r k x5 x6 x7 [a0,a1]=qBA (F+n+1) sdN x1 x2 r ((k+1:Nat):Int) x5 x6 x7 (List.set [a0,a1] sdN (IntKind.wrap .i64 (List.getD [a0,a1] sdN 0+IntKind.wrap .i64 (r.getD k 0*v)))):=by
    rw[qBA.eq_2]
    unfold qJG
    rw[qZ (by omega),qU (by omega) (by omega),qU (by omega) (by omega),hv,qA,qU (by omega) (by omega)]
    simp only[cond_true,tn,c_8]
    rw[w_s (n:=(k:Int)+1) (by omega) (by omega)]
    rfl
   rw[body,w_s (n:=r.getD k 0*v) (by omega) (by omega)]
   have hcase:sdN=0 \/ sdN=1:=by omega
   rcases hcase with h | h<;>subst h
   ·show ∃ a0' a1',0<=a0' /\ 0<=a1' /\ a0'+a1'<=a0+a1+Hs r (n+1) k /\ qBA (F+n+1) ((0:Nat):Int) x1 x2 r ((k+1:Nat):Int) x5 x6 x7 [IntKind.wrap .i64 (a0+r.getD k 0*v),a1]=some (x1,x2,x5,x6,x7,[a0',a1'])
    rw[w_s (by omega) (by omega)]
    obtain⟨p,q,e1,e2,e3,e5⟩:=ih (k+1) (by omega) (a0+r.getD k 0*v) a1 (by omega) h1 (by omega) F
    exact⟨p,q,e1,e2,by omega,e5⟩
   ·show ∃ a0' a1',0<=a0' /\ 0<=a1' /\ a0'+a1'<=a0+a1+Hs r (n+1) k /\ qBA (F+n+1) ((1:Nat):Int) x1 x2 r ((k+1:Nat):Int) x5 x6 x7 [a0,IntKind.wrap .i64 (a1+r.getD k 0*v)]=some (x1,x2,x5,x6,x7,[a0',a1'])
    rw[w_s (by omega) (by omega)]
    obtain⟨p,q,e1,e2,e3,e5⟩:=ih (k+1) (by omega) a0 (a1+r.getD k 0*v) h0 (by omega) (by omega) F
    exact⟨p,q,e1,e2,by omega,e5⟩
theorem qDV (h:List Int) (j k:Nat) (hk:k<8):(List.take 8 (List.drop (j*8) h)).getD k 0=h.getD (j*8+k) 0:=by
 rw[List.getD_eq_getElem?_getD,List.getElem?_take_of_lt hk,List.getElem?_drop,<- List.getD_eq_getElem?_getD]
theorem qqY (h:List Int) (j k:Nat) (hk:¬ k<8):(List.take 8 (List.drop (j*8) h)).getD k 0=0:=by
 rw[List.getD_eq_getElem?_getD,List.getElem?_eq_none (by rw[List.length_take];omega)];rfl
theorem PosP.value {b h:List Int} {s:Int} (hp:PosP b h s):∃ v,qDb b h s=some v /\ -26000<=v /\ v<=26000:=by
 have hP:=qLI.1 (qKy hp.zero)
 have hh:∀ j,j<2->∀ k,0<=(List.take 8 (List.drop (j*8) h)).getD k 0 /\ (List.take 8 (List.drop (j*8) h)).getD k 0<=127:=by
  intro j hj k
  by_cases hk:k<8
  ·rw[qDV h j k hk]
   have h1:=hP.hands k hk j hj
   have h2:=hp.fits (j*8+k)
   unfold bsH at h1
   have h1:=of_decide_eq_false h1
   omega
  ·rw[qqY h j k hk];omega
 obtain⟨g,hg⟩:=qe 81 (by omega)
 obtain⟨g8,hg8⟩:=qe 8 (by omega)
 obtain⟨g2,hg2⟩:=qe 2 (by omega)
 obtain⟨p0,p1,e1,e2,e3,e4,e5⟩:=qtm hp.clean b h s 81 0 (by omega) 0 0 (by omega) (by omega) (by omega) g
 rw[<- hg] at e5
 obtain⟨q0,q1,f1,f2,f3,f5⟩:=qey (hh 0 (by omega)) 0 (by omega) h b h 0 s 8 0 (by omega) p0 p1 e1 e2 (by omega) g8
 rw[<- hg8] at f5
 have hr0:=hh 0 (by omega)
 have hr1:=hh 1 (by omega)
 have sumH:∀ j,j<2->∃ z,Hs (List.take 8 (List.drop (j*8) h)) 8 0=z /\ z=604*hd_ h j 1+554*hd_ h j 2+554*hd_ h j 3+554*hd_ h j 4+605*hd_ h j 5+1104*hd_ h j 6+1254*hd_ h j 7:=by
  intro j hj
  refine⟨_,rfl,?_⟩
  simp only[Hs]
  rw[qDV h j 0 (by omega),qDV h j (0+1) (by omega),qDV h j (0+1+1) (by omega),qDV h j (0+1+1+1) (by omega),qDV h j (0+1+1+1+1) (by omega),qDV h j (0+1+1+1+1+1) (by omega),qDV h j (0+1+1+1+1+1+1) (by omega),qDV h j (0+1+1+1+1+1+1+1) (by omega)]
  unfold hd_
  simp only[tn,Mk]
  simp
  omega
 obtain⟨z0,y0,w0⟩:=sumH 0 (by omega)
 obtain⟨z1,y1,w1⟩:=sumH 1 (by omega)
 rw[y0] at f3
 have hov:∀ k:Nat,1<=k->k<8->(cnt b k:Int)+hd_ h 0 k+hd_ h 1 k<=qHR k:=by
  intro k h1 h2
  have:=hP.over k h1 h2
  unfold qBj at this
  have:=of_decide_eq_false this
  omega
 have o1:=hov 1 (by omega) (by omega)
 have o2:=hov 2 (by omega) (by omega)
 have o3:=hov 3 (by omega) (by omega)
 have o4:=hov 4 (by omega) (by omega)
 have o5:=hov 5 (by omega) (by omega)
 have o6:=hov 6 (by omega) (by omega)
 have o7:=hov 7 (by omega) (by omega)
 have hw:=qTc b
 rw[List.drop_zero] at e3
 simp[qHR] at o1 o2 o3 o4 o5 o6 o7
 have hq:q0+q1<=2000000:=by
  have h1:∀ k,hd_ h 1 k >= 0 \/ True:=fun _=>.inr trivial
  have c:∀ k:Nat,k<8->0<=hd_ h 1 k:=by
   intro k hk
   have:=(hr1 k).1
   rw[qDV h 1 k hk] at this
   exact this
  have c1:=c 1 (by omega)
  have c2:=c 2 (by omega)
  have c3:=c 3 (by omega)
  have c4:=c 4 (by omega)
  have c5:=c 5 (by omega)
  have c6:=c 6 (by omega)
  have c7:=c 7 (by omega)
  simp at c1 c2 c3 c4 c5 c6 c7 w0
  omega
 obtain⟨r0,r1,k1,k2,k3,k5⟩:=qey hr1 1 (by omega) h b h 1 s 8 0 (by omega) q0 q1 f1 f2 (by omega) g8
 rw[<- hg8] at k5
 rw[y1] at k3
 have htot:r0+r1<=26000:=by
  simp at w0 w1
  omega
 have e10:qDC qB h 0 b h s [p0,p1]=some (b,h,s,[r0,r1]):=by
  rw[hg2,qDC.eq_2]
  unfold qGT
  rw[qZ (by omega),qU (by omega) (by omega)]
  have:qBA qB 0 h 0 (List.take 8 (List.drop (Nat.add (Nat.mul (Int.toNat 0) 7) (Int.toNat 0)) h)) 0 b h s [p0,p1]=some (h,0,b,h,s,[q0,q1]):=f5
  rw[this,qA]
  simp only
  rw[show IntKind.wrap .i64 ((0:Int)+1)=1 by rfl,qDC.eq_2]
  unfold qGT
  rw[qZ (by omega),qU (by omega) (by omega)]
  have:qBA qB 1 h 1 (List.take 8 (List.drop (Nat.add (Nat.mul (Int.toNat 1) 7) (Int.toNat 1)) h)) 0 b h s [q0,q1]=some (h,1,b,h,s,[r0,r1]):=k5
  rw[this,qA]
  simp only
  rw[show IntKind.wrap .i64 ((1:Int)+1)=2 by rfl,qDC.eq_2]
  unfold qGT
  rw[qY (by omega)]
 unfold qDb
 have e5':qAh qB b 0 b h s [0,0]=some (b,h,s,[p0,p1]):=e5
 rw[e5',qA]
 simp only
 rw[e10,qA]
 simp only
 show ∃ v,br (s==1) (some (IntKind.wrap .i64 (r1 - r0))) (some (IntKind.wrap .i64 (r0 - r1)))=some v /\ _
 rw[w_s (n:=r1 - r0) (by omega) (by omega),w_s (n:=r0 - r1) (by omega) (by omega)]
 cases s==1 with
 | true=>exact⟨_,rfl,by omega,by omega⟩
 | false=>exact⟨_,rfl,by omega,by omega⟩
end Go.Kk.Pl
namespace Go.Kk.Pl
end Go.Kk.Pl
namespace Go.Kk.Pl
end Go.Kk.Pl
namespace Go.Kk.Pl
end Go.Kk.Pl
namespace Go.Kk.Pl
end Go.Kk.Pl
namespace Go.Kk.Pl
def sqL (q:Nat):List UInt8:=[UInt8.ofNat (49+q / 9),UInt8.ofNat (97+q % 9)]
def ltr (d:Nat):UInt8:=[0,80,76,78,83,71,66,82].getD d 0
def txL (f t d:Nat) (p:Bool):List UInt8:=if d≠0 then [ltr d,42]++sqL t else sqL f++sqL t++(if p then [43] else [])
def bts (l:List UInt8):ByteArray:={data:={toList:=l }}
def qFj (l:List UInt8):List Int:=l.map fun x=>Int.ofNat x.toNat
end Go.Kk.Pl
namespace Go.Kk.Pl
def qHL:List Int:=[18,0,17,0,0,0,1,0,2,19,22,17,0,0,0,1,7,3,20,0,17,0,0,0,1,0,4,21,0,17,0,0,0,1,0,5,24,0,17,0,0,0,1,0,8,21,0,17,0,0,0,1,0,5,20,0,17,0,0,0,1,0,4,19,23,17,0,0,0,1,6,3,18,0,17,0,0,0,1,0,2]
def qDB:List Int:=[0,0,0,0,0,0,0,0,0,0,0,0,0,0,0,0]
theorem qsc:qJW=some (qHL,qDB,0):=by kernel_rfl
end Go.Kk.Pl
namespace Go.Kk.Pl
def tx (m:List Int):ByteArray:=bts (txL (m0 m).toNat (m1 m).toNat (m2 m).toNat (m3 m))
theorem PosP.canP {b h:List Int} {s:Int} (hp:PosP b h s) {m:List Int} (hm:m∈lgL b h s):CanP b h s (m0 m) (m1 m) (m2 m) (m3 m):=(qFt (hp.full hm).2).2
theorem qtN {A:List (List Int)} {B:List (List Int)} {n j:Nat} (e:B.take n=A.take n) (hj:j<n):B.getD j []=A.getD j []:=by
 have h1:∀ X:List (List Int),(X.take n).getD j []=X.getD j []:=by
  intro X
  rw[List.getD_eq_getElem?_getD,List.getD_eq_getElem?_getD,List.getElem?_take_of_lt hj]
 rw[<- h1 B,<- h1 A,e]
theorem qmD {A:List (List Int)} {n:Nat} (hn:n<=A.length) (e:List Int):(List.append (List.take n A) [e]).getD n []=e:=by
 rw[List.append_eq,List.getD_eq_getElem?_getD,List.getElem?_append_right (by simp;omega)]
 simp[Nat.min_eq_left hn]
theorem qmF {A:List (List Int)} {n:Nat} (hn:n<=A.length) (e:List Int):(List.append (List.take n A) [e]).take n=A.take n:=by
 rw[List.append_eq,List.take_append_of_le_length (by simp;omega),List.take_take,Nat.min_self]
theorem qmE {A:List (List Int)} {n:Nat} (hn:n<=A.length) (e:List Int):(List.append (List.take n A) [e]).length=n+1:=by
 rw[List.append_eq,List.length_append,List.length_take]
 simp;omega
def qL0 (b:List Int) (s:Int) (m:List Int):List Int:=[m0 m,m1 m,m2 m,bi (m3 m),at_ b (m1 m),was b s (m0 m) (m2 m)]
theorem PosP.make {b h:List Int} {s:Int} (hp:PosP b h s) {m:List Int} (hm:m∈lgL b h s) (n:Nat) (hn:n<=1000) (x:Nat) (st:List (List Int)):
  qCb (m0 m) (m1 m) (m2 m) (m3 m) (kof b h s) n b h s (qI b) (qL b) x st =
   some (.inr (true,kof (mbM b s m) (mhM b h s m) (1 - s),n+1,mbM b s m,mhM b h s m,1 - s,qI (mbM b s m),qL (mbM b s m),n+1,List.append (List.take n st) [qL0 b s m])):=by
 obtain⟨c,hcan,hmk⟩:=qlc hp.clean h hp.side (m0 m) (m1 m) (m2 m) (m3 m)
 have e:qBb b h s (m0 m) (m1 m) (m2 m) (m3 m)=c:=Option.some.inj ((qVI b h hp.side (m0 m) (m1 m) (m2 m) (m3 m) 0 0 (qI b) (qL b) 0 []).symm.trans (hcan 0 0 0 []))
 rw[qYT (hp.full hm).2] at e
 rcases hmk with⟨h1,_⟩ | ⟨_,hP,hmk⟩
 ·rw[h1] at e;cases e
 ·rw[hmk _ _ _ _ (by omega),qln hp.going.sound hp.going.fits hp.going.len hP]
  rfl
theorem PosP.back {b h:List Int} {s:Int} (hp:PosP b h s) {m:List Int} (hm:m∈lgL b h s) (n:Nat) (hn:n<=1000) (x:Nat) (st:List (List Int)) (hst:st.getD n []=qL0 b s m):
  qEW (kof (mbM b s m) (mhM b h s m) (1 - s)) (n+1) (mbM b s m) (mhM b h s m) (1 - s) (qI (mbM b s m)) (qL (mbM b s m)) x st=some (true,kof b h s,n,b,h,s,qI b,qL b,x,st):=by
 rw[qLe,qLe]
 exact qgc hp.going (hp.canP hm) n hn x st hst
theorem qsa:qCY qHL qDB 0=some 0:=by kernel_rfl
theorem qSl:PosP qHL qDB 0:=by
 have hf:qAb qDB:=by
  intro i
  by_cases h:i<16
  ·have h2:∀ j,j<16->qDB.getD j 0=0:=by decide
   rw[h2 i h];omega
  ·have h2:qDB.getD i 0=0:=by rw[List.getD_eq_getElem?_getD,List.getElem?_eq_none (by show qDB.length<=i;have:qDB.length=16:=rfl;omega)];rfl
   rw[h2];omega
 refine⟨rfl,hf,rfl,?_⟩
 have:=qNh (b:=qHL) (h:=qDB) rfl hf 0
 rw[qsa] at this
 exact (Option.some.inj this).symm
theorem qsZ:(ob (qBz qHL qDB 0) fun (a10_0,a10_1,a10_2,a10_3,a10_4)=>ob (qDN a10_0 a10_1 a10_2 a10_3 a10_4) fun (a15_0,_,_,_,_,_,_,_)=>some a15_0)=some 30:=by kernel_rfl
theorem qsb:(lgL qHL qDB 0).length=30:=by
 have:=qsZ
 rw[qJ6 rfl,qJh qSl.clean,qA] at this
 simp only at this
 rw[qSl.all,qA] at this
 exact Option.some.inj this
end Go.Kk.Pl
namespace Go.Kk.Pl
set_option maxRecDepth 100000
def qGW:List Int:=List.replicate 106 0
theorem qtS {b h:List Int} {s:Int} (hp:PosP b h s) (d bu x5 x6:Int) (hd:d<1) (x7:Nat) (x8:Int) (x9:Nat) (x10:List (List Int)):
  ∃ t,qE1 b h s d bu x5 x6 x7 x8 x9 x10=some t /\
    ((lgL b h s).length=0->∃ p,t=.inl (0,-30000,0,p)) /\ ((lgL b h s).length≠0->∃ a c e f g i j k l,t=.inr (0,0,0,1,a,false,c,e,f,g,i,j,k,lgL b h s) /\ l=(0:Nat)):=by
 unfold qE1
 rw[qWv hp.clean,qA]
 simp only
 rw[hp.all,qA]
 simp only
 rw[qFs]
 by_cases h0:(lgL b h s).length=0
 ·rw[qD (by simpa using h0)]
  exact⟨_,rfl,fun _=>⟨_,rfl⟩,fun h=>absurd h0 h⟩
 ·rw[qH (by simpa using h0),qD (qJw (by omega) (by omega)),qD (by simp;omega)]
  obtain⟨g,hg⟩:=qe 0 (by omega)
  rw[hg,qDW.eq_2]
  unfold qKY
  rw[qH (by
   simp only[cond_true]
   cases h64:decide (64<d) with
   | true=>have:=of_decide_eq_true h64;omega
   | false=>simp only[cond_false,decide_eq_false_iff_not];omega),qA]
  exact⟨_,rfl,fun h=>absurd h h0,fun _=>⟨_,_,_,_,_,_,_,_,_,rfl,rfl⟩⟩
end Go.Kk.Pl
namespace Go.Kk.Pl
set_option maxRecDepth 100000
def av (x p:Int):Int:=if 27000<x then x+p else if x < -27000 then x - p else x
theorem qT7 {x p:Int} (h0:-100000<=x) (h1:x<=100000) (p0:-1000<=p) (p1:p<=1000):qGG x p=some (av x p):=by
 unfold qGG av
 by_cases h2:27000<x
 ·rw[qD (by simpa using h2),if_pos h2,w_s (by omega) (by omega)]
 ·rw[qH (by simpa using h2),if_neg h2]
  by_cases h3:x < -27000
  ·rw[qD (by simpa using h3),if_pos h3,w_s (by omega) (by omega)]
  ·rw[qH (by simpa using h3),if_neg h3]
def Up (d ply:Nat):Int:=if d=0 then 27000 else 29999 - (ply:Int)
def qGX:List Int->List Int->Int->List (List Int)->Prop
 | _,_,_,[]=>True
 | b,h,s,m :: r=>m∈lgL b h s /\ qGX (mbM b s m) (mhM b h s m) (1 - s) r
theorem qkF {M:List (List Int)} (hM:∀ m∈M,Mv4 m) (hl:M.length<=100000) (f t d:Int) (p:Bool):∀ (k i:Nat),i+k=M.length->∀ F,
  (∃ j:Nat,j<M.length /\ M[j]? = some [f,t,d,bi p] /\ qEG (F+k+1) M.length M.length i M.length M f t d p=some (.inl ((j:Int),M.length,M))) \/
  qEG (F+k+1) M.length M.length i M.length M f t d p=some (.inr (M.length,M)):=by
 intro k
 induction k with
 | zero=>
   intro i hi F
   refine .inr ?_
   rw[qEG.eq_2]
   unfold qND
   rw[qY (by omega)]
 | succ k ih=>
   intro i hi F
   have hil:i<M.length:=by omega
   have h4:=hM M[i] (List.getElem_mem hil)
   have body:qEG (F+(k+1)+1) M.length M.length i M.length M f t d p =
     br (f==m0 M[i]&&(t==m1 M[i]&&(d==m2 M[i]&&p==m3 M[i]))) (some (.inl ((i:Int),M.length,M)))
      (qEG (F+k+1) M.length M.length ((i+1:Nat):Int) M.length M f t d p):=by
    rw[qEG.eq_2]
    unfold qND
    rw[qZ (by omega),qU (by omega) (by omega),tn,atL hil]
    simp only[hdM]
    rw[w_s (n:=(i:Int)+1) (by omega) (by omega)]
    rfl
   rw[body]
   cases hc:(f==m0 M[i]&&(t==m1 M[i]&&(d==m2 M[i]&&p==m3 M[i]))) with
   | true=>
     refine .inl ⟨i,hil,?_,rfl⟩
     simp only[Bool.and_eq_true,beq_iff_eq] at hc
     obtain⟨c0,c1,c2,c3⟩:=hc
     rw[List.getElem?_eq_getElem hil,h4.1,c0,c1,c2,c3]
   | false=>exact ih (i+1) (by omega) F
theorem qkG {M:List (List Int)} (hM:∀ m∈M,Mv4 m) (hl:M.length<=100000) (f t d:Int) (p:Bool):
  (∃ j:Nat,j<M.length /\ M[j]? = some [f,t,d,bi p] /\ qI9 M.length f t d p M.length M=some (j:Int)) \/ qI9 M.length f t d p M.length M=some (-1):=by
 obtain⟨g,hg⟩:=qe M.length (by omega)
 unfold qI9
 rcases qkF hM hl f t d p M.length 0 (by omega) g with⟨j,h1,h2,h3⟩ | h3
 ·refine .inl ⟨j,h1,h2,?_⟩
  rw[<- hg] at h3
  refine (congrArg (fun m=>ob m _) h3).trans ?_
  rw[qA,qFA]
 ·refine .inr ?_
  rw[<- hg] at h3
  refine (congrArg (fun m=>ob m _) h3).trans ?_
  rw[qA,qAH]
def qHY (M:List (List Int)) (i:Nat) (m:List Int):List (List Int):=m :: (M.take i++M.drop (i+1))
theorem qfm {M:List (List Int)} {i:Nat} {m:List Int} (h:M[i]? = some m) (x:List Int):x∈qHY M i m↔x∈M:=by
 obtain⟨hi,he⟩:=List.getElem?_eq_some_iff.1 h
 have:M=M.take i++m :: M.drop (i+1):=by
  rw[<- he,<- List.drop_eq_getElem_cons hi,List.take_append_drop]
 unfold qHY
 constructor
 ·intro hx
  rw[this]
  simp only[List.mem_cons,List.mem_append] at hx ⊢
  rcases hx with hx | hx | hx
  ·exact .inr (.inl hx)
  ·exact .inl hx
  ·exact .inr (.inr hx)
 ·intro hx
  rw[this] at hx
  simp only[List.mem_cons,List.mem_append] at hx ⊢
  rcases hx with hx | hx | hx
  ·exact .inr (.inl hx)
  ·exact .inl hx
  ·exact .inr (.inr hx)
theorem qTd {M:List (List Int)} {i:Nat} {m:List Int} (h:i<M.length):(qHY M i m).length=M.length:=by
 unfold qHY
 simp only[List.length_cons,List.length_append,List.length_take,List.length_drop]
 omega
theorem qfl {M:List (List Int)} {i:Nat} (hi:0<i) (hl:i<M.length) (hM:∀ m∈M,m.length=4) (f t d:Int) (p:Bool):
  List.set (List.append (List.take 1 M) (List.append (List.take (Nat.min (Int.toNat (i:Int) - 0) (Int.toNat ((i:Int)+1) - 1)) M) (List.drop (1+Nat.min (Int.toNat (i:Int) - 0) (Int.toNat ((i:Int)+1) - 1)) M))) 0
   (f :: t :: d :: bi p :: List.drop 4 (List.getD (List.append (List.take 1 M) (List.append (List.take (Nat.min (Int.toNat (i:Int) - 0) (Int.toNat ((i:Int)+1) - 1)) M) (List.drop (1+Nat.min (Int.toNat (i:Int) - 0) (Int.toNat ((i:Int)+1) - 1)) M))) 0 []))=qHY M i [f,t,d,bi p]:=by
 have h1:Nat.min (Int.toNat (i:Int) - 0) (Int.toNat ((i:Int)+1) - 1)=i:=by
  have:Int.toNat ((i:Int)+1)=i+1:=by omega
  rw[this,tn]
  exact Nat.min_self i
 rw[h1]
 cases M with
 | nil=>simp at hl
 | cons x M=>
   have hx:=hM x (by simp)
   have h2:List.append (List.take 1 (x :: M)) (List.append (List.take i (x :: M)) (List.drop (1+i) (x :: M)))=x :: (List.take i (x :: M)++List.drop (i+1) (x :: M)):=by
    rw[Nat.add_comm 1 i]
    rfl
   rw[h2]
   show (f :: t :: d :: bi p :: List.drop 4 x) :: _=_
   rw[List.drop_eq_nil_of_le (by omega)]
   rfl
theorem qlJ (m:List Int) (r:List (List Int)):1+r.length=(m :: r).length:=by rw[List.length_cons,Nat.add_comm]
theorem qlg (a b:Int):(bif false then bif decide (a<b) then a else b else bif decide (a>b) then a else b)=max b a:=by
 simp only[cond_false]
 cases hd:decide (a>b) with
 | true=>have:=of_decide_eq_true hd;simp only[cond_true];omega
 | false=>have:=of_decide_eq_false hd;simp only[cond_false];omega
end Go.Kk.Pl
namespace Go.Kk.Pl
set_option maxRecDepth 100000
theorem qYC (self:Int->Int->Int->Int->Int->Int->Nat->Int->Int->Nat->Nat->List (List Int)->List Int->List Int->Int->List (List Int)->List (List Int)->Nat->List (List Int)->Option ((Int×Nat×Bool×Int×Int×Nat×Int×Int×Nat×Nat×List (List Int)×List Int×List Int×Int×List (List Int)×List (List Int)×Nat×List (List Int)×Nat×List (List Int))⊕(Int×Nat×Bool×Int×Int×Nat×Int×Int×Nat×Nat×List (List Int)×List Int×List Int×Int×List (List Int)×List (List Int)×Nat×List (List Int)×Nat×List (List Int)))) (x0:Int) (x1:Int) (x2:Int) (x3:Int) (x4:Int) (x5:Int) (x6:Nat) (x7:Int) (x8:Int) (x9:Nat) (x10:Nat) (x11:List (List Int)) (x12:List Int) (x13:List Int) (x14:Int) (x15:List (List Int)) (x16:List (List Int)) (x17:Nat) (x18:List (List Int)):qcc self x0 x1 x2 x3 x4 x5 x6 x7 x8 x9 x10 x11 x12 x13 x14 x15 x16 x17 x18 =
 br (decide (x4 >= x5))
  (some (Sum.inl (0,0,false,x4,x5,x6,x7,x8,x9,x10,x11,x12,x13,x14,x15,x16,x17,x18,0,[])))
  (ob (qDN x12 x13 x14 x15 x16) fun (a19_0,a19_1,a19_2,a19_3,a19_4,a19_5,a19_6,a19_7)=>
  br (Int.ofNat a19_0==0)
   (some (Sum.inl (IntKind.wrap IntKind.i64 (x1 - 30000),0,true,IntKind.wrap IntKind.i64 (x4+1),x5,x6,x7,x8,x9,x10,x11,a19_1,a19_2,a19_3,a19_4,a19_5,x17,x18,0,[])))
   (br (x0 == 0)
    (ob (qDb a19_1 a19_2 a19_3) fun a27=>
    some (Sum.inl (a27,0,true,IntKind.wrap IntKind.i64 (x4+1),x5,x6,x7,x8,x9,x10,x11,a19_1,a19_2,a19_3,a19_4,a19_5,x17,x18,0,[])))
    (ob (qEK a19_1 a19_2 a19_3 x6 x7 x10 x11) fun (a27_0,a27_1,a27_2,a27_3,a27_4,a27_5,a27_6,a27_7)=>
    br (a27_7)
     (ob (qGG a27_1 (IntKind.wrap IntKind.i64 (0 - x1))) fun a35=>
     br (a27_0==x0)
      (br (decide (x1>0))
       (br (a27_2==0)
        (some (Sum.inl (a35,1,true,IntKind.wrap IntKind.i64 (x4+1),x5,x6,x7,x8,x9,x10,x11,a19_1,a19_2,a19_3,a19_4,a19_5,x17,x18,1,[[a27_3,a27_4,a27_5,bi a27_6]])))
        (br (a27_2==1)
         (br (decide (a35 >= x3))
          (some (Sum.inl (a35,1,true,IntKind.wrap IntKind.i64 (x4+1),x5,x6,x7,x8,x9,x10,x11,a19_1,a19_2,a19_3,a19_4,a19_5,x17,x18,1,[[a27_3,a27_4,a27_5,bi a27_6]])))
          (br (a27_2==2)
           (br (decide (a35<=x2))
            (some (Sum.inl (a35,1,true,IntKind.wrap IntKind.i64 (x4+1),x5,x6,x7,x8,x9,x10,x11,a19_1,a19_2,a19_3,a19_4,a19_5,x17,x18,1,[[a27_3,a27_4,a27_5,bi a27_6]])))
            (qCK self x0 x1 x2 x3 x4 x5 x6 x7 x8 x9 x10 x11 a19_1 a19_2 a19_3 a19_4 a19_5 x17 x18 a19_0 a19_6 a19_7 a27_3 a27_4 a27_5 a27_6))
           (qCK self x0 x1 x2 x3 x4 x5 x6 x7 x8 x9 x10 x11 a19_1 a19_2 a19_3 a19_4 a19_5 x17 x18 a19_0 a19_6 a19_7 a27_3 a27_4 a27_5 a27_6)))
         (br (a27_2==2)
          (br (decide (a35<=x2))
           (some (Sum.inl (a35,1,true,IntKind.wrap IntKind.i64 (x4+1),x5,x6,x7,x8,x9,x10,x11,a19_1,a19_2,a19_3,a19_4,a19_5,x17,x18,1,[[a27_3,a27_4,a27_5,bi a27_6]])))
           (qCK self x0 x1 x2 x3 x4 x5 x6 x7 x8 x9 x10 x11 a19_1 a19_2 a19_3 a19_4 a19_5 x17 x18 a19_0 a19_6 a19_7 a27_3 a27_4 a27_5 a27_6))
          (qCK self x0 x1 x2 x3 x4 x5 x6 x7 x8 x9 x10 x11 a19_1 a19_2 a19_3 a19_4 a19_5 x17 x18 a19_0 a19_6 a19_7 a27_3 a27_4 a27_5 a27_6))))
       (qCK self x0 x1 x2 x3 x4 x5 x6 x7 x8 x9 x10 x11 a19_1 a19_2 a19_3 a19_4 a19_5 x17 x18 a19_0 a19_6 a19_7 a27_3 a27_4 a27_5 a27_6))
      (qCK self x0 x1 x2 x3 x4 x5 x6 x7 x8 x9 x10 x11 a19_1 a19_2 a19_3 a19_4 a19_5 x17 x18 a19_0 a19_6 a19_7 a27_3 a27_4 a27_5 a27_6))
     (qIN self x0 x1 x2 x3 x4 x5 x6 x7 x8 x9 x10 x11 a19_1 a19_2 a19_3 a19_4 a19_5 x17 x18 a19_0 a19_6 a19_7)))):=rfl
theorem qnb {b h:List Int} {s:Int} {L:List (List Int)} {e:Nat} (hL:∃ m r,L=m :: r /\ m∈lgL b h s /\ qGX (mbM b s m) (mhM b h s m) (1 - s) r /\ r.length<=e):qGX b h s L /\ L.length<=e+1 /\ L≠[]:=by
 obtain⟨m,r,rfl,h1,h2,h3⟩:=hL
 exact⟨⟨h1,h2⟩,by rw[List.length_cons];omega,by simp⟩
end Go.Kk.Pl
