/- What the program's functions come to, told plainly: the texts of this project that this claim leans on, cut down to what is used. -/
import Derived.Test.YtjckfjagajmekaaGreatDoorKkU3
import Derived.Test.YtjckfjagajmekaaGreatDoorKkU1
namespace Go.Kk.Pl
theorem qha (h:List Int) (s k:Nat) (hk:k<8):(List.take 8 (List.drop (s*7+s) h)).getD k 0=h.getD (s*8+k) 0:=by
 rw[List.getD_eq_getElem?_getD,List.getD_eq_getElem?_getD,List.getElem?_take,if_pos hk,List.getElem?_drop,show s*7+s+k=s*8+k by omega]
abbrev B64:=BitVec 64
def bv (n:Int):B64:=BitVec.ofInt 64 n
def un (x:B64):Int:=(x.toNat:Int)
theorem qBQ (x:B64):bv (un x)=x:=by
 unfold bv un
 rw[BitVec.ofInt_natCast,BitVec.ofNat_toNat];simp
theorem qEj (a b:Int):qE .xor .u64 a b=un (bv a ^^^ bv b):=by
 show IntKind.wrap .u64 _=_
 have h:IntKind.wrap .u64 ((BitVec.ofInt 64 a ^^^ BitVec.ofInt 64 b).toNat:Int)=((BitVec.ofInt 64 a ^^^ BitVec.ofInt 64 b).toNat:Int):=
  qB3 (by show (0:Int)<=_;omega) (by show _<=(18446744073709551615:Int);have:=(BitVec.ofInt 64 a ^^^ BitVec.ofInt 64 b).isLt;omega)
 exact h
def pcB (q x:Int):B64:=bv ((qCA q x).getD 0)
def hnB (s k n:Int):B64:=bv ((qCo s k n).getD 0)
def sdB:B64:=bv (qCq.getD 0)
theorem qOF (x:Int):∃ v:B64,qDX x=some (un v):=by
 unfold qDX
 rw[qEj]
 exact⟨_,rfl⟩
theorem qSK {m:Option Int} (h:∃ v:B64,m=some (un v)):m=some (un (bv (m.getD 0))):=by
 obtain⟨v,rfl⟩:=h
 simp[qBQ]
theorem qKS {b:Bool} {x y:Option Int} (hx:∃ v:B64,x=some (un v)) (hy:∃ v:B64,y=some (un v)):∃ v:B64,br b x y=some (un v):=by cases b<;>assumption
theorem qXD {α:Type} {m:Option α} {k:α->Option Int} (hm:∃ v,m=some v) (hk:∀ a,m=some a->∃ v:B64,k a=some (un v)):∃ v:B64,ob m k=some (un v):=by
 obtain⟨a,rfl⟩:=hm
 exact hk a rfl
theorem qVX (q x:Int):qCA q x=some (un (pcB q x)):=qSK (by
 unfold qCA
 refine qXD (qV3 _) fun a _=>?_
 refine qKS ⟨0,rfl⟩ (qKS ⟨0,rfl⟩ (qKS ⟨0,rfl⟩ (qXD (qLD _) fun a ha=>?_)))
 obtain⟨v,hv⟩:=qOF _
 rw[hv] at ha
 cases ha
 exact⟨v,rfl⟩)
theorem qVW (s k n:Int):qCo s k n=some (un (hnB s k n)):=qSK (by
 have tail:∀ x:Int,∃ v:B64,(ob (qDX x) fun r=>some r)=some (un v):=fun x=>by
  obtain⟨v,hv⟩:=qOF x
  exact⟨v,by rw[hv];rfl⟩
 unfold qCo
 repeat first | exact⟨0,rfl⟩ | exact tail _ | apply qKS)
theorem qVY:qCq=some (un sdB):=qSK (by
 unfold qCq
 obtain⟨v,hv⟩:=qOF 1048576
 exact⟨v,by rw[hv];rfl⟩)
def qAb (b:List Int):Nat->B64
 | 0=>0
 | n+1=>qAb b n ^^^ pcB n (b.getD n 0)
def qBH (h:List Int) (s:Nat):Nat->B64
 | 0=>0
 | n+1=>qBH h s n ^^^ hnB s n (conv .i8 .i64 (h.getD (s*8+n) 0))
def qDS (h:List Int):B64:=qBH h 0 8 ^^^ qBH h 1 8
theorem qdr (a b:B64):a ^^^ (b ^^^ a)=b:=by rw[BitVec.xor_comm b a,<- BitVec.xor_assoc,BitVec.xor_self,BitVec.zero_xor]
theorem qfT:∀ (n:Nat) (q:Nat) (acc:B64) (b c d:List Int) (e:Int) (f:Nat),q+n=81->
  qCT (f+n+1) (un acc) b q c d e=some (un (acc ^^^ qAb b q ^^^ qAb b 81),c,d,e):=by
 intro n
 induction n with
 | zero=>
   intro q acc b c d e f hq
   have:q=81:=by omega
   subst this
   show qDV (qCT (f+0)) (un acc) b _ c d e=_
   unfold qDV
   rw[qI (by decide),BitVec.xor_assoc,BitVec.xor_self,BitVec.xor_zero]
 | succ n ih=>
   intro q acc b c d e f hq
   show qDV (qCT (f+n+1)) (un acc) b q c d e=_
   unfold qDV
   rw[qD (by simp;omega),qD (qAN (by omega) (by omega))]
   simp only[cond_true,Int.toNat_natCast]
   rw[qVX]
   show qCT (f+n+1) (qE .xor .u64 (un acc) (un (pcB q (b.getD q 0)))) b (IntKind.wrap .i64 ((q:Int)+1)) c d e=_
   rw[qAO (by omega) (by omega),qEj,qBQ,qBQ]
   have:=ih (q+1) (acc ^^^ pcB q (b.getD q 0)) b c d e f (by omega)
   rw[Int.natCast_add] at this
   rw[show ((q:Int)+1)=(q:Int)+(1:Nat) from rfl,this]
   congr 3
   show acc ^^^ pcB q (b.getD q 0) ^^^ (qAb b q ^^^ pcB q (b.getD q 0)) ^^^ qAb b 81=_
   rw[BitVec.xor_assoc acc,qdr]
theorem qhh (s:Nat):∀ (n:Nat) (k:Nat) (acc:B64) (h x2:List Int) (x3:Int) (x6 x7:List Int) (x8:Int) (f:Nat),k+n=8->
  qCp (f+n+1) (un acc) s x2 x3 (List.take 8 (List.drop (s*7+s) h)) k x6 x7 x8=some (un (acc ^^^ qBH h s k ^^^ qBH h s 8),x2,x3,x6,x7,x8):=by
 intro n
 induction n with
 | zero=>
   intro k acc h x2 x3 x6 x7 x8 f hk
   have:k=8:=by omega
   subst this
   show qDU (qCp (f+0)) (un acc) s x2 x3 _ _ x6 x7 x8=_
   unfold qDU
   rw[qI (by decide),BitVec.xor_assoc,BitVec.xor_self,BitVec.xor_zero]
 | succ n ih=>
   intro k acc h x2 x3 x6 x7 x8 f hk
   show qDU (qCp (f+n+1)) (un acc) s x2 x3 _ k x6 x7 x8=_
   unfold qDU
   rw[qD (by simp;omega),qD (qAN (by omega) (by omega))]
   simp only[cond_true,Int.toNat_natCast]
   rw[qha h s k (by omega),qVW]
   show qCp (f+n+1) (qE .xor .u64 (un acc) (un (hnB s k (conv .i8 .i64 (h.getD (s*8+k) 0))))) s x2 x3 _ (IntKind.wrap .i64 ((k:Int)+1)) x6 x7 x8=_
   rw[qAO (by omega) (by omega),qEj,qBQ,qBQ]
   have:=ih (k+1) (acc ^^^ hnB s k (conv .i8 .i64 (h.getD (s*8+k) 0))) h x2 x3 x6 x7 x8 f (by omega)
   rw[Int.natCast_add] at this
   rw[show ((k:Int)+1)=(k:Int)+(1:Nat) from rfl,this]
   congr 3
   show acc ^^^ hnB s k (conv .i8 .i64 (h.getD (s*8+k) 0)) ^^^ (qBH h s k ^^^ hnB s k (conv .i8 .i64 (h.getD (s*8+k) 0))) ^^^ qBH h s 8=_
   rw[BitVec.xor_assoc acc,qdr]
theorem qhj (acc:B64) (h c:List Int) (e:Int):qBr qC (un acc) h 0 c h e=some (un (acc ^^^ qDS h),c,h,e):=by
 obtain⟨f,hf⟩:=qd 2 (by omega)
 obtain⟨g,hg⟩:=qd 8 (by omega)
 have step:∀ (s:Nat) (hs:s<2) (acc:B64) (f:Nat),qBr (f+1) (un acc) h s c h e=qBr f (un (acc ^^^ qBH h s 8)) h (s+1:Nat) c h e:=by
  intro s hs acc f
  show qDW (qBr f) (un acc) h s c h e=_
  unfold qDW
  rw[qD (by simp;omega),qD (qAN (by omega) (by omega)),hg]
  show ob (qCp (g+8+1) (un acc) s h s (List.take 8 (List.drop (Int.toNat s*7+Int.toNat s) h)) (0:Nat) c h e) _=_
  rw[Int.toNat_natCast,qhh s 8 0 acc h h s c h e g (by omega)]
  show qBr f (un (acc ^^^ 0 ^^^ qBH h s 8)) h (IntKind.wrap .i64 ((s:Int)+1)) c h e=_
  have z:acc ^^^ (0:B64)=acc:=by simp
  rw[qAO (by omega) (by omega),z]
  rfl
 rw[hf]
 have e1:=step 0 (by omega) acc (f+2)
 have e2:=step 1 (by omega) (acc ^^^ qBH h 0 8) (f+1)
 rw[show f+2+1=f+2+1 from rfl,show (0:Int)=((0:Nat):Int) from rfl,e1]
 rw[show f+2=f+1+1 from rfl,e2]
 show qDW (qBr f) _ h 2 c h e=_
 unfold qDW
 rw[qI (by decide),BitVec.xor_assoc]
 rfl
def qAV (b h:List Int) (s:Int):B64:=bif s==1 then qAb b 81 ^^^ qDS h ^^^ sdB else qAb b 81 ^^^ qDS h
theorem qhx (b h:List Int) (s:Int):qDT b h s=some (un (qAV b h s)):=by
 obtain⟨g,hg⟩:=qd 81 (by omega)
 have e2:qCT qC 0 b 0 b h s=some (un (qAb b 81),b,h,s):=by
  rw[hg]
  have:=qfT 81 0 0 b b h s g (by omega)
  rw[show (0:B64) ^^^ qAb b 0 ^^^ qAb b 81=qAb b 81 by show (0:B64) ^^^ 0 ^^^ _=_;simp] at this
  exact this
 unfold qDT
 rw[e2]
 show ob (qBr qC (un (qAb b 81)) h 0 b h s) _=_
 rw[qhj]
 show br (s==1) (ob qCq fun r10=>some (qE .xor .u64 (un (qAb b 81 ^^^ qDS h)) r10)) (some (un (qAb b 81 ^^^ qDS h)))=_
 unfold qAV
 cases hs:s==1
 ·rfl
 ·rw[qVY]
  show some (qE .xor .u64 _ _)=_
  rw[qEj,qBQ,qBQ]
  rfl
theorem qe5 (b:List Int) (i:Nat) (x:Int) (hi:i<b.length):∀ n,qAb (b.set i x) n=if i<n then qAb b n ^^^ pcB i (b.getD i 0) ^^^ pcB i x else qAb b n:=by
 intro n
 induction n with
 | zero=>rfl
 | succ n ih=>
   show qAb (b.set i x) n ^^^ pcB n ((b.set i x).getD n 0)=_
   rw[ih]
   rcases Nat.lt_trichotomy i n with h | h | h
   ·rw[if_pos h,if_pos (by omega)]
    have:(b.set i x).getD n 0=b.getD n 0:=by
     rw[List.getD_eq_getElem?_getD,List.getD_eq_getElem?_getD,List.getElem?_set_ne (by omega)]
    rw[this]
    show qAb b n ^^^ pcB i (b.getD i 0) ^^^ pcB i x ^^^ pcB n (b.getD n 0)=qAb b n ^^^ pcB n (b.getD n 0) ^^^ pcB i (b.getD i 0) ^^^ pcB i x
    ac_rfl
   ·subst h
    rw[if_neg (by omega),if_pos (by omega)]
    have:(b.set i x).getD i 0=x:=by
     rw[List.getD_eq_getElem?_getD,List.getElem?_set_self hi];rfl
    rw[this]
    show qAb b i ^^^ pcB i x=qAb b i ^^^ pcB i (b.getD i 0) ^^^ pcB i (b.getD i 0) ^^^ pcB i x
    rw[BitVec.xor_assoc (qAb b i),BitVec.xor_self,BitVec.xor_zero]
   ·rw[if_neg (by omega),if_neg (by omega)]
    have:(b.set i x).getD n 0=b.getD n 0:=by
     rw[List.getD_eq_getElem?_getD,List.getD_eq_getElem?_getD,List.getElem?_set_ne (by omega)]
    rw[this]
    rfl
theorem qVQ (h:List Int) (s0 k0:Nat) (x:Int) (hk:k0<8) (hi:s0*8+k0<h.length) (s:Nat):∀ n,n<=8->qBH (h.set (s0*8+k0) x) s n =
  if s=s0 /\ k0<n then qBH h s n ^^^ hnB s0 k0 (conv .i8 .i64 (h.getD (s0*8+k0) 0)) ^^^ hnB s0 k0 (conv .i8 .i64 x) else qBH h s n:=by
 intro n
 induction n with
 | zero=>intro _;rw[if_neg (by omega)];rfl
 | succ n ih=>
   intro hn
   show qBH (h.set (s0*8+k0) x) s n ^^^ hnB s n (conv .i8 .i64 ((h.set (s0*8+k0) x).getD (s*8+n) 0))=_
   rw[ih (by omega)]
   by_cases hq:s*8+n=s0*8+k0
   ·have e1:s=s0:=by omega
    have e2:n=k0:=by omega
    subst e1
    subst e2
    rw[if_neg (by omega),if_pos (by omega)]
    have:(h.set (s*8+n) x).getD (s*8+n) 0=x:=by
     rw[List.getD_eq_getElem?_getD,List.getElem?_set_self hi];rfl
    rw[this]
    show qBH h s n ^^^ hnB s n (conv .i8 .i64 x)=qBH h s n ^^^ hnB s n (conv .i8 .i64 (h.getD (s*8+n) 0)) ^^^ hnB s n (conv .i8 .i64 (h.getD (s*8+n) 0)) ^^^ hnB s n (conv .i8 .i64 x)
    rw[BitVec.xor_assoc (qBH h s n),BitVec.xor_self,BitVec.xor_zero]
   ·have:(h.set (s0*8+k0) x).getD (s*8+n) 0=h.getD (s*8+n) 0:=by
     rw[List.getD_eq_getElem?_getD,List.getD_eq_getElem?_getD,List.getElem?_set_ne (by omega)]
    rw[this]
    by_cases hc:s=s0 /\ k0<n
    ·rw[if_pos hc,if_pos (by omega)]
     show _=qBH h s n ^^^ hnB s n (conv .i8 .i64 (h.getD (s*8+n) 0)) ^^^ _ ^^^ _
     ac_rfl
    ·rw[if_neg hc,if_neg (by omega)]
     rfl
theorem qhi (h:List Int) (s0 k0:Nat) (x:Int) (hs:s0<2) (hk:k0<8) (hh:h.length=16):
  qDS (h.set (s0*8+k0) x)=qDS h ^^^ hnB s0 k0 (conv .i8 .i64 (h.getD (s0*8+k0) 0)) ^^^ hnB s0 k0 (conv .i8 .i64 x):=by
 unfold qDS
 rw[qVQ h s0 k0 x hk (by omega) 0 8 (Nat.le_refl _),qVQ h s0 k0 x hk (by omega) 1 8 (Nat.le_refl _)]
 have:s0=0 \/ s0=1:=by omega
 rcases this with rfl | rfl
 ·rw[if_pos (by omega),if_neg (by omega)];ac_rfl
 ·rw[if_neg (by omega),if_pos (by omega)];ac_rfl
theorem qKv (b h:List Int) (s:Int):kof b h s=un (qAV b h s):=by unfold kof;rw[qhx];rfl
theorem qV4 (q x:Int):kp q x=un (pcB q x):=by unfold kp;rw[qVX];rfl
theorem qV2 (s k n:Int):kh s k n=un (hnB s k n):=by unfold kh;rw[qVW];rfl
theorem qiV:qJD=un sdB:=by unfold qJD;rw[qVY];rfl
theorem qk2 {q x:Int} (h:kd x=0):pcB q x=pcB q 0:=by
 have e:∀ y,kd y=0->qCA q y=some 0:=by
  intro y hy
  unfold qCA
  rw[qBd,qA,hy]
  rfl
 unfold pcB
 rw[e x h,e 0 qE6]
theorem qh1 {b:List Int} (hl:b.length=81) {q:Int} (hq:0<=q /\ q<81) (x:Int) (h:List Int) (s:Int):qAV (put b q x) h s=qAV b h s ^^^ pcB q (at_ b q) ^^^ pcB q x:=by
 have e:pcB q (if kd x=0 then 0 else x)=pcB q x:=by
  split
  ·rename_i h;exact (qk2 h).symm
  ·rfl
 unfold qAV put at_
 rw[if_pos hq,if_pos hq]
 revert e
 generalize (if kd x=0 then 0 else x)=y
 intro e
 have qy:=qe5 b q.toNat y (by omega) 81
 rw[if_pos (show q.toNat<81 by omega),show ((q.toNat:Nat):Int)=q by omega,e] at qy
 rw[qy]
 cases s==1<;>simp only[cond_true,cond_false]<;>ac_rfl
theorem qh0 {h:List Int} (hh:h.length=16) {s k:Int} (hs:s=0 \/ s=1) (k0:0<=k) (k1:k<8) (d:Int) (b:List Int) (S:Int):
  qAV b (qy h s k d) S=qAV b h S ^^^ hnB s k (hd_ h s k) ^^^ hnB s k (IntKind.wrap .i8 (hd_ h s k+d)):=by
 have e2:∀ x,conv .i8 .i64 x=x:=fun _=>rfl
 have hset':=qhi h s.toNat k.toNat (IntKind.wrap .i8 (hd_ h s k+d)) (by omega) (by omega) hh
 rw[e2,e2,show ((s.toNat:Nat):Int)=s by omega,show ((k.toNat:Nat):Int)=k by omega] at hset'
 unfold qAV qy
 rw[hset']
 unfold hd_
 cases S==1<;>simp only[cond_true,cond_false]<;>ac_rfl
theorem qh2 {s:Int} (hs:s=0 \/ s=1) (b h:List Int):qAV b h (1 - s)=qAV b h s ^^^ sdB:=by
 rcases hs with rfl | rfl
 ·rfl
 ·show qAb b 81 ^^^ qDS h=qAb b 81 ^^^ qDS h ^^^ sdB ^^^ sdB
  rw[BitVec.xor_assoc _ sdB,BitVec.xor_self,BitVec.xor_zero]
theorem qHP {b:List Int} (hl:b.length=81) {q:Int} (hq:0<=q /\ q<81) (x:Int) (h:List Int) (s:Int):qCU (un (qAV b h s)) b q x=un (qAV (put b q x) h s):=by
 unfold qCU
 rw[qV4,qV4,qEj,qEj,qBQ,qBQ,qBQ,qBQ,qh1 hl hq,BitVec.xor_assoc]
theorem qOV {h:List Int} (hh:h.length=16) {s k:Int} (hs:s=0 \/ s=1) (k0:0<=k) (k1:k<8) {d:Int} (b:List Int) (S:Int) (r0:-128<=hd_ h s k+d) (r1:hd_ h s k+d<=127):
  qE8 (un (qAV b h S)) h s k d=un (qAV b (qy h s k d) S):=by
 unfold qE8
 rw[qV2,qV2,qEj,qEj,qBQ,qBQ,qBQ,qBQ,qh0 hh hs k0 k1,BitVec.xor_assoc,qAO (by omega) (by omega),qFr r0 r1]
theorem qKz {s:Int} (hs:s=0 \/ s=1) (b h:List Int):qKy (un (qAV b h s))=un (qAV b h (1 - s)):=by
 unfold qKy
 rw[qiV,qEj,qBQ,qBQ,qh2 hs]
theorem qjZ {b h:List Int} {s:Int} (hS:Sound b h s) (hf:qAl h) (hh:h.length=16) {f t d:Int} {p:Bool} (hP:CanP b h s f t d p):
  qHc (kof b h s) b h s f t d p=kof (mb b s f t d p) (mh b h s t d) (1 - s):=by
 rw[qKv,qKv]
 unfold qHc mb mh
 by_cases hd:d=0
 ·obtain⟨f0,f1,f2,g1,g2,g3,g4⟩:=hP.move hd
  simp only[if_neg (show ¬ (d≠0) from fun h=>h hd)]
  rw[qHP hS.clean.len ⟨f0,f1⟩,qHP (hS.clean.put f 0).len hP.to_]
  by_cases ht:at_ b t=0
  ·simp only[if_pos ht]
   rw[qKz hS.side]
  ·have hk:=(hS.clean.at_ t).resolve_left ht
   obtain⟨r1,r2⟩:=qIA hk g3
   have hc:=hS.counts _ r1 r2
   have h0:=hS.hands (rw_ (kd (at_ b t))) (by omega) r2
   have hsd:=hS.side
   simp only[if_neg ht]
   rw[qOV hh hS.side (by omega) r2 _ _ (by rcases hsd with rfl | rfl<;>omega) (by rcases hsd with rfl | rfl<;>omega),qKz hS.side]
 ·obtain⟨d0,d1,d2,d3,g1,g2⟩:=hP.drop hd
  have hb:=qG8 hf s d
  simp only[if_pos (show d≠0 from hd)]
  rw[qOV hh hS.side (by omega) d1 _ _ (by omega) (by omega),qHP hS.clean.len hP.to_,qKz hS.side]
end Go.Kk.Pl
namespace Go.Kk.Pl
structure Going (b h:List Int) (s:Int):Prop where
 sound:Sound b h s
 fits:qAl h
 len:h.length=16
end Go.Kk.Pl
namespace Go.Kk.Pl
theorem qTl {b c:List Int} (hb:b.length=81) (hc:c.length=81) (h:∀ q,0<=q->q<81->at_ b q=at_ c q):b=c:=by
 refine List.ext_getElem (by rw[hb,hc]) fun j h1 h2=>?_
 have:=h j (by omega) (by omega)
 unfold at_ at this
 rw[if_pos (by omega),if_pos (by omega),Int.toNat_natCast,List.getD_eq_getElem?_getD,List.getD_eq_getElem?_getD,List.getElem?_eq_getElem h1,List.getElem?_eq_getElem h2] at this
 exact this
theorem qT2 {b:List Int} (hc:Clean b) (q:Int):(if kd (at_ b q)=0 then 0 else at_ b q)=at_ b q:=by
 rcases hc.at_ q with h | h
 ·rw[h];rfl
 ·rw[if_neg h]
theorem qel {b:List Int} (hc:Clean b) {t:Int} (ht:0<=t /\ t<81) (h0:at_ b t=0) (x:Int):put (put b t x) t 0=b:=by
 refine qTl ((hc.put _ _).put _ _).len hc.len fun q q0 q1=>?_
 rw[qDK (hc.put _ _).len ht,qDK hc.len ht]
 split
 ·rename_i e;subst e;rw[h0];rfl
 ·rfl
theorem qen {b:List Int} (hc:Clean b) {f t:Int} (hf:0<=f /\ f<81) (ht:0<=t /\ t<81) (x:Int):put (put (put (put b f 0) t x) t (at_ b t)) f (at_ b f)=b:=by
 have c1:=hc.put f 0
 have c2:=c1.put t x
 have c3:=c2.put t (at_ b t)
 refine qTl (c3.put _ _).len hc.len fun q q0 q1=>?_
 rw[qDK c3.len hf,qDK c2.len ht,qDK c1.len ht,qDK hc.len hf,qT2 hc,qT2 hc]
 split
 ·rename_i e;subst e;rfl
 ·split
  ·rename_i e;subst e;rfl
  ·rfl
theorem qOB {h:List Int} (hl:h.length=16) {s k:Int} (hs:s=0 \/ s=1) (k0:0<=k) (k1:k<8) {d:Int} (r0:-128<=hd_ h s k /\ hd_ h s k<=127) (r1:-128<=hd_ h s k+d /\ hd_ h s k+d<=127):
  qy (qy h s k d) s k (-d)=h:=by
 have e:=qE5 hl hs k0 k1 d hs k0 k1
 rw[if_pos ⟨rfl,rfl⟩,qFr r1.1 r1.2] at e
 rw[show qy (qy h s k d) s k (-d)=(qy h s k d).set (s.toNat*8+k.toNat) (IntKind.wrap .i8 (hd_ (qy h s k d) s k+-d)) from rfl,e,show hd_ h s k+d+-d=hd_ h s k by omega,qFr r0.1 r0.2]
 have hi:s.toNat*8+k.toNat<h.length:=by rcases hs with rfl | rfl<;>simp<;>omega
 have hg:hd_ h s k=h[s.toNat*8+k.toNat]:=by
  unfold hd_
  rw[List.getD_eq_getElem?_getD,List.getElem?_eq_getElem hi]
  rfl
 unfold qy
 rw[List.set_set,hg,List.set_getElem_self]
end Go.Kk.Pl
namespace Go.Kk.Pl
theorem qHL {b:List Int} (hc:Clean b) (q x K:Int) (n:Nat) (h:List Int) (s:Int) (m:Nat) (st:List (List Int)):
  qB8 q x K n b h s (qJ b) (qK b) m st=some (qCU K b q x,n,put b q x,h,s,qJ (put b q x),qK (put b q x),m,st):=by
 unfold qB8
 simp only[qCz,qA,qiU,qPc hc]
 rfl
theorem qhf {b:List Int} (hc:Clean b) (h:List Int) (s:Int):qIz b h s=some (kof b h s,0,b,h,s,qJ b,qK b,0,[]):=by
 unfold qIz
 rw[qjw hc.len,qf4 hc,qA]
 simp only
 rw[qiT,qA]
theorem qjM {b:List Int} (hc:Clean b) (h:List Int) {s:Int} (hs:s=0 \/ s=1) (f t d:Int) (p:Bool):∃ c,(∀ K n m st,qEE f t d p K n b h s (qJ b) (qK b) m st=some c) /\
  ((c=false /\ ∀ K n m st,qEw f t d p K n b h s (qJ b) (qK b) m st=some (.inl (false,K,n,b,h,s,qJ b,qK b,m,st))) \/
   (c=true /\ CanP b h s f t d p /\ ∀ K n m st,(n+1)*40<=140737488355328->qEw f t d p K n b h s (qJ b) (qK b) m st =
    some (.inr (true,qHc K b h s f t d p,n+1,mb b s f t d p,mh b h s t d,1 - s,qJ (mb b s f t d p),qK (mb b s f t d p),n+1,List.append (List.take n st) [[f,t,d,bi p,at_ b t,was b s f d]])))):=by
 obtain⟨c,hcan,hP⟩:=qfi b h hs f t d p
 refine⟨c,fun K n m st=>hcan K n _ _ m st,?_⟩
 cases c with
 | false=>
   refine .inl ⟨rfl,fun K n m st=>?_⟩
   unfold qEw
   rw[hcan,qA,qD (by rfl)]
 | true=>
   have hP:=hP rfl
   refine .inr ⟨rfl,hP,fun K n m st hn=>?_⟩
   have hn':decide ((n+1)*40<=140737488355328)=true:=by simpa using hn
   unfold qEw
   rw[hcan,qA,qI (by rfl),qCz,qA]
   by_cases hd:d=0
   ·obtain⟨f0,f1,f2,g1,g2,g3,g4⟩:=hP.move hd
    rw[qI (by simpa using hd),qCz,qA]
    have hx:∀ {α:Type} (k:Int->Option α),(br p (ob (qAC (at_ b f)) fun a16=>ob (qCu a16) fun a17=>ob (qAy s a17) k) (k (at_ b f)))=k (laid b s f d p):=by
     intro α k
     unfold laid
     rw[if_neg (by simpa using hd)]
     cases p with
     | false=>rfl
     | true=>
       obtain⟨u1,u2,u3⟩:=qIY (g4 rfl)
       rw[qD rfl,qBd,qA,qJ9,qA,qLL hs u1 u2 u3,qA,if_pos rfl]
    have p1:=qHL hc f 0 K n h s m st
    have p2:=qHL (hc.put f 0) t (laid b s f d p) (qCU K b f 0) n h s m st
    have tail:(br (at_ b t != 0)
      (ob (qAC (at_ b t)) fun a37=>
      ob (qEP a37) fun a38=>
      ob (qDO s a38 1 (qCU (qCU K b f 0) (put b f 0) t (laid b s f d p)) n (put (put b f 0) t (laid b s f d p)) h s (qJ (put (put b f 0) t (laid b s f d p))) (qK (put (put b f 0) t (laid b s f d p))) m st) fun (a39_0,a39_1,a39_2,a39_3,a39_4,a39_5,a39_6,a39_7,a39_8)=>
      ob (qCk a39_0 a39_1 a39_2 a39_3 a39_4 a39_5 a39_6 a39_7 a39_8) fun (a48_0,a48_1,a48_2,a48_3,a48_4,a48_5,a48_6,_,a48_8)=>
      br (decide ((a48_1+1)*40<=140737488355328))
       (some (Sum.inr (true,a48_0,a48_1+1,a48_2,a48_3,a48_4,a48_5,a48_6,a48_1+1,List.append (List.take a48_1 a48_8) [[f,t,d,bi p,at_ b t,at_ b f]])))
       (none))
      (ob (qCk (qCU (qCU K b f 0) (put b f 0) t (laid b s f d p)) n (put (put b f 0) t (laid b s f d p)) h s (qJ (put (put b f 0) t (laid b s f d p))) (qK (put (put b f 0) t (laid b s f d p))) m st) fun (a37_0,a37_1,a37_2,a37_3,a37_4,a37_5,a37_6,_,a37_8)=>
      br (decide ((a37_1+1)*40<=140737488355328))
       (some (Sum.inr (true,a37_0,a37_1+1,a37_2,a37_3,a37_4,a37_5,a37_6,a37_1+1,List.append (List.take a37_1 a37_8) [[f,t,d,bi p,at_ b t,at_ b f]])))
       (none)):Option ((Bool×Int×Nat×List Int×List Int×Int×List (List Int)×List (List Int)×Nat×List (List Int))⊕(Bool×Int×Nat×List Int×List Int×Int×List (List Int)×List (List Int)×Nat×List (List Int)))) =
      some (.inr (true,qHc K b h s f t d p,n+1,mb b s f t d p,mh b h s t d,1 - s,qJ (mb b s f t d p),qK (mb b s f t d p),n+1,List.append (List.take n st) [[f,t,d,bi p,at_ b t,was b s f d]])):=by
     unfold qHc mb mh was
     by_cases ht:at_ b t=0
     ·rw[qI (by simpa using ht),qKq hs,qA]
      simp only
      rw[qD hn']
      simp[hd,ht]
     ·have hk:=(hc.at_ t).resolve_left ht
      obtain⟨r1,r2⟩:=qIA hk g3
      obtain⟨k1,k2,k3⟩:=qCS (at_ b t)
      rw[qD (by simpa using ht),qBd,qA,qXv k1 k2,qA,qKp hs r1 r2 1 (.inl rfl),qA]
      simp only
      rw[qKq hs,qA]
      simp only
      rw[qD hn']
      simp[hd,ht]
    refine Eq.trans ?_ tail
    cases p with
    | true=>
      have hx:=hx (fun a18=>ob (qB8 f 0 K n b h s (qJ b) (qK b) m st) fun (a19_0,a19_1,a19_2,a19_3,a19_4,a19_5,a19_6,a19_7,a19_8)=>
       ob (qB8 t a18 a19_0 a19_1 a19_2 a19_3 a19_4 a19_5 a19_6 a19_7 a19_8) fun r=>some r)
      rw[qD rfl] at hx ⊢
      obtain⟨u1,u2,u3⟩:=qIY (g4 rfl)
      have hl:laid b s f d true=16*s+up_ (kd (at_ b f)):=by unfold laid;rw[if_neg (by simpa using hd),if_pos rfl]
      rw[qBd,qA,qJ9,qA,qLL hs u1 u2 u3,qA,p1,qA]
      simp only
      rw[<- hl,p2,qA]
    | false=>
      have hl:laid b s f d false=at_ b f:=by unfold laid;rw[if_neg (by simpa using hd),if_neg (by simp)]
      rw[qI rfl,p1,qA]
      simp only
      rw[hl] at p2 ⊢
      rw[p2,qA]
   ·obtain⟨d0,d1,d2,d3,g1,g2⟩:=hP.drop hd
    have hl:laid b s f d p=16*s+d:=by unfold laid;rw[if_pos hd]
    have e1:qAy s d=some (laid b s f d p):=by rw[hl];exact qLL hs (by omega) (by omega) (by omega)
    have p1:=qHL hc t (laid b s f d p) (qE8 K h s d (-1)) n (qy h s d (-1)) s m st
    rw[qD (by simpa using hd),e1,qA,qKp hs (by omega) d1 (-1) (.inr rfl),qA]
    simp only
    rw[p1,qA]
    simp only
    rw[qKq hs,qA]
    simp only
    rw[qD hn']
    unfold qHc mb mh was
    simp only[if_pos hd,hl]
theorem qVv {h:List Int} (hl:h.length=16) {s k:Int} (hs:s=0 \/ s=1) (k0:0<=k) (k1:k<8) {d:Int} (b:List Int) (S:Int) (r0:-128<=hd_ h s k /\ hd_ h s k<=127) (r1:-128<=hd_ h s k+d /\ hd_ h s k+d<=127):
  qE8 (un (qAV b (qy h s k d) S)) (qy h s k d) s k (-d)=un (qAV b h S):=by
 have e:=qE5 hl hs k0 k1 d hs k0 k1
 rw[if_pos ⟨rfl,rfl⟩,qFr r1.1 r1.2] at e
 rw[qOV (by rw[qOC,hl]) hs k0 k1 b S (by omega) (by omega),qOB hl hs k0 k1 r0 r1]
theorem qem {b h:List Int} {s:Int} (hg:Going b h s) {f t d:Int} {p:Bool} (hP:CanP b h s f t d p) (n:Nat) (hn:n<=1000) (m:Nat) (st:List (List Int))
  (hst:st.getD n []=[f,t,d,bi p,at_ b t,was b s f d]):
  qED (un (qAV (mb b s f t d p) (mh b h s t d) (1 - s))) (n+1) (mb b s f t d p) (mh b h s t d) (1 - s) (qJ (mb b s f t d p)) (qK (mb b s f t d p)) m st=some (true,un (qAV b h s),n,b,h,s,qJ b,qK b,m,st):=by
 have hS:=hg.sound
 have hs':1 - s=0 \/ 1 - s=1:=by have:=hS.side;omega
 unfold qED
 have e1:IntKind.wrap .i64 (Int.ofNat (n+1) - 1)=(n:Int):=by
  have:Int.ofNat (n+1)=(n:Int)+1:=rfl
  rw[this,qAO (by omega) (by omega)]
  omega
 rw[qI (by simp;omega),e1,qD (qAN (by omega) (by omega)),qD (qKs (by omega) (by omega)),qKq hs',qA,qKz hs',show (1:Int) - (1 - s)=s by omega]
 simp only[Int.toNat_natCast,hst,Nat.sub_zero]
 simp only[List.take_succ_cons,List.take_zero,List.headD_cons,List.tail_cons]
 by_cases hd:d=0
 ·obtain⟨f0,f1,f2,g1,g2,g3,g4⟩:=hP.move hd
  have hw:was b s f d=at_ b f:=by unfold was;rw[if_neg (by simpa using hd)]
  have hmb:mb b s f t d p=put (put b f 0) t (laid b s f d p):=by unfold mb;rw[if_neg (by simpa using hd)]
  rw[qI (by simpa using hd),hw,hmb]
  have p1:=qHL ((hS.clean.put f 0).put t (laid b s f d p)) t (at_ b t) (un (qAV (put (put b f 0) t (laid b s f d p)) (mh b h s t d) s)) n (mh b h s t d) s m st
  rw[qHP ((hS.clean.put f 0).put t (laid b s f d p)).len hP.to_] at p1
  have p2:=qHL (((hS.clean.put f 0).put t (laid b s f d p)).put t (at_ b t)) f (at_ b f) (un (qAV (put (put (put b f 0) t (laid b s f d p)) t (at_ b t)) (mh b h s t d) s)) n (mh b h s t d) s m st
  rw[qHP (((hS.clean.put f 0).put t (laid b s f d p)).put t (at_ b t)).len ⟨f0,f1⟩] at p2
  rw[qen hS.clean ⟨f0,f1⟩ hP.to_] at p2
  rw[p1,qA]
  simp only
  rw[p2,qA]
  simp only
  by_cases ht:at_ b t=0
  ·have hmh:mh b h s t d=h:=by unfold mh;rw[if_neg (by simpa using hd),if_pos ht]
   rw[qI (by simpa using ht),hmh]
  ·have hk:=(hS.clean.at_ t).resolve_left ht
   obtain⟨r1,r2⟩:=qIA hk g3
   obtain⟨k1,k2,k3⟩:=qCS (at_ b t)
   have hc:=hS.counts _ r1 r2
   have h0:=hS.hands (rw_ (kd (at_ b t))) (by omega) r2
   have hsd:=hS.side
   have hmh:mh b h s t d=qy h s (rw_ (kd (at_ b t))) 1:=by unfold mh;rw[if_neg (by simpa using hd),if_neg ht]
   rw[qD (by simpa using ht),qBd,qA,qXv k1 k2,qA,qKp hS.side r1 r2 (-1) (.inr rfl),qA,hmh,
    qOB hg.len hS.side (by omega) r2 (qG8 hg.fits _ _) (by rcases hsd with rfl | rfl<;>constructor<;>omega),
    qVv hg.len hS.side (by omega) r2 _ _ (qG8 hg.fits _ _) (by rcases hsd with rfl | rfl<;>constructor<;>omega)]
 ·obtain⟨d0,d1,d2,d3,g1,g2⟩:=hP.drop hd
  have hmb:mb b s f t d p=put b t (laid b s f d p):=by unfold mb;rw[if_pos hd]
  have hmh:mh b h s t d=qy h s d (-1):=by unfold mh;rw[if_pos hd]
  have hb:=qG8 hg.fits s d
  have p1:=qHL (hS.clean.put t (laid b s f d p)) t 0 (un (qAV (put b t (laid b s f d p)) (mh b h s t d) s)) n (mh b h s t d) s m st
  rw[qHP (hS.clean.put t (laid b s f d p)).len hP.to_] at p1
  rw[qel hS.clean hP.to_ g2] at p1
  rw[qD (by simpa using hd),hmb,p1,qA]
  simp only
  have hbk:qy (qy h s d (-1)) s d 1=h:=qOB hg.len hS.side (by omega) d1 (d:=-1) hb (by constructor<;>omega)
  rw[qKp hS.side (by omega) d1 1 (.inl rfl),qA,hmh]
  have hky:qE8 (un (qAV b (qy h s d (-1)) s)) (qy h s d (-1)) s d 1=un (qAV b h s):=qVv hg.len hS.side (by omega) d1 (d:=-1) _ _ hb (by constructor<;>omega)
  rw[hbk,hky]
end Go.Kk.Pl
namespace Go.Kk.Pl
structure PosP (b h:List Int) (s:Int):Prop where
 len:b.length=81
 fits:qAl h
 hlen:h.length=16
 zero:qC0 b h s=0
theorem PosP.clean {b h:List Int} {s:Int} (hp:PosP b h s):Clean b:=(qFI hp.len hp.zero).1
theorem PosP.side {b h:List Int} {s:Int} (hp:PosP b h s):s=0 \/ s=1:=(qFI hp.len hp.zero).2.1
theorem PosP.going {b h:List Int} {s:Int} (hp:PosP b h s):Going b h s:=⟨qcJ hp.len hp.fits (qMt hp.zero),hp.fits,hp.hlen⟩
theorem PosP.after {b h:List Int} {s:Int} (hp:PosP b h s) {m:List Int} (hm:m∈lgL b h s):PosP (mbM b s m) (mhM b h s m) (1 - s):=by
 obtain⟨hc,hs,hno,k,k',hk,hk'⟩:=qFI hp.len hp.zero
 obtain⟨_,hm2,_,hm4⟩:=qWb hc hs hno hk hk' hm
 have hsafe:inC (mb b s (m0 m) (m1 m) (m2 m) (m3 m)) s=false:=by simpa[qBj,mbM] using hm4
 exact⟨(qPA hc _ _ _ _ _).1,qjW hp.fits _ _ _ _,qjX hp.hlen _ _ _ _,qeQ hp.len hp.fits hp.hlen (qMt hp.zero) hm2 hsafe⟩
theorem PosP.stuck {b h:List Int} {s:Int} (hp:PosP b h s):qO9 b h s (qJ b) (qK b)=some (decide ((lgL b h s).length=0),b,h,s,qJ b,qK b):=by
 obtain⟨hc,hs,hno,k,k',hk,hk'⟩:=qFI hp.len hp.zero
 exact qqm hc h hs hk hk'
theorem PosP.lists {b h:List Int} {s:Int} (hp:PosP b h s):lgL b h s=rlL b h s:=by
 obtain⟨hc,hs,hno,k,k',hk,hk'⟩:=qFI hp.len hp.zero
 exact qWj hc h hs hno hk hk'
theorem PosP.all {b h:List Int} {s:Int} (hp:PosP b h s):qDY b h s (qJ b) (qK b)=some ((lgL b h s).length,b,h,s,qJ b,qK b,(lgL b h s).length,lgL b h s):=by
 obtain⟨hc,hs,hno,k,k',hk,hk'⟩:=qFI hp.len hp.zero
 exact qOl hc h hs hk hk'
theorem PosP.full {b h:List Int} {s:Int} (hp:PosP b h s) {m:List Int} (hm:m∈lgL b h s):Mv4 m /\ qAA b h s (m0 m) (m1 m) (m2 m) (m3 m)=true:=by
 obtain⟨hc,hs,hno,k,k',hk,hk'⟩:=qFI hp.len hp.zero
 have:=qWb hc hs hno hk hk' hm
 exact⟨this.1,this.2.1⟩
theorem qO0 (n:Nat):(Int.ofNat n==0)=decide (n=0):=by
 rw[Bool.eq_iff_iff,decide_eq_true_eq,beq_iff_eq]
 exact⟨fun h=>by simpa using h,fun h=>by rw[h];rfl⟩
end Go.Kk.Pl
namespace Go.Kk.Pl
set_option maxRecDepth 100000
def Mk (k:Int):Int:=if k=1 then 604 else if k=2 \/ k=3 \/ k=4 then 554 else if k=5 then 605 else if k=6 then 1104 else if k=7 then 1254 else 0
theorem qSi (k:Int):0<=Mk k /\ Mk k<=1254:=by unfold Mk;split<;>(try split)<;>(try split)<;>(try split)<;>(try split)<;>omega
theorem qrf:∀ n:Fin 32,kd (n.val:Int)=0 \/ kd (n.val:Int)=8 \/ (match qFp (kd (n.val:Int)) with
  | some v=>decide (0<=v /\ v+4<=Mk (rw_ (kd (n.val:Int))))
  | none=>false)=true:=by decide +kernel
theorem qre {x:Int} (h0:kd x≠0) (h8:kd x≠8):∃ v,qFp (kd x)=some v /\ 0<=v /\ v+4<=Mk (rw_ (kd x)):=by
 have hx:0<=x /\ x<=31:=by
  unfold kd at h0
  split at h0
  ·exact absurd rfl h0
  ·omega
 obtain⟨n,hn⟩:=qNl hx.1 hx.2
 subst hn
 have:=qrf n
 rcases this with h | h | h
 ·exact absurd h h0
 ·exact absurd h h8
 ·split at h
  ·rename_i v hv
   exact⟨v,hv,by simpa using h⟩
  ·cases h
theorem qrh:∀ n:Fin 81,(match qIa (n.val:Int) with
  | some v=>decide (0<=v /\ v<=4)
  | none=>false)=true:=by decide +kernel
theorem qrg {q:Nat} (h:q<81):∃ v,qIa (q:Int)=some v /\ 0<=v /\ v<=4:=by
 have:=qrh ⟨q,h⟩
 simp only at this
 split at this
 ·rename_i v hv
  exact⟨v,hv,by simpa using this⟩
 ·cases this
theorem qrd:∀ n:Fin 8,(match qKA (n.val:Int) with
  | some v=>decide (0<=v /\ v<=Mk (n.val:Int))
  | none=>false)=true:=by decide +kernel
theorem qrc {k:Nat} (h:k<8):∃ v,qKA (k:Int)=some v /\ 0<=v /\ v<=Mk (k:Int):=by
 have:=qrd ⟨k,h⟩
 simp only at this
 split at this
 ·rename_i v hv
  exact⟨v,hv,by simpa using this⟩
 ·cases this
def Ws:List Int->Int
 | []=>0
 | x :: l=>Mk (rw_ (kd x))+Ws l
theorem qoQ (x:Int):rw_ x=0 \/ rw_ x=1 \/ rw_ x=2 \/ rw_ x=3 \/ rw_ x=4 \/ rw_ x=5 \/ rw_ x=6 \/ rw_ x=7 \/ rw_ x=8:=by
 unfold rw_
 split
 ·omega
 ·split<;>omega
theorem qSj:∀ l:List Int,Ws l=604*cnt l 1+554*cnt l 2+554*cnt l 3+554*cnt l 4+605*cnt l 5+1104*cnt l 6+1254*cnt l 7
 | []=>rfl
 | x :: l=>by
   have ih:=qSj l
   have c1:=qEC x l 1
   have c2:=qEC x l 2
   have c3:=qEC x l 3
   have c4:=qEC x l 4
   have c5:=qEC x l 5
   have c6:=qEC x l 6
   have c7:=qEC x l 7
   unfold dl at c1 c2 c3 c4 c5 c6 c7
   unfold Ws
   rcases qoQ (kd x) with h | h | h | h | h | h | h | h | h<;>rw[h] at c1 c2 c3 c4 c5 c6 c7 ⊢ <;> simp[Mk] at c1 c2 c3 c4 c5 c6 c7 ⊢ <;> omega
theorem qrG {b:List Int} (hc:Clean b) (x2 x3:List Int) (x4:Int):∀ (n i:Nat),i+n=81->∀ (a0 a1:Int),0<=a0->0<=a1->a0+a1<=1254*i->∀ F,
  ∃ a0' a1',0<=a0' /\ 0<=a1' /\ a0'+a1'<=a0+a1+Ws (b.drop i) /\ a0'+a1'<=1254*81 /\ qB2 (F+n+1) b i x2 x3 x4 [a0,a1]=some (x2,x3,x4,[a0',a1']):=by
 intro n
 induction n with
 | zero=>
   intro i hi a0 a1 h0 h1 hs F
   refine⟨a0,a1,h0,h1,?_,by omega,?_⟩
   ·rw[List.drop_eq_nil_of_le (by have:=hc.len;omega)]
    simp only[Ws];omega
   ·rw[qB2.eq_2]
    unfold qMg
    rw[qZ (by omega)]
 | succ n ih=>
   intro i hi a0 a1 h0 h1 hs F
   have hil:i<b.length:=by have:=hc.len;omega
   have hx:b.getD i 0=b[i]:=by rw[List.getD_eq_getElem?_getD,List.getElem?_eq_getElem hil];rfl
   have hdr:Ws (b.drop i)=Mk (rw_ (kd (b.getD i 0)))+Ws (b.drop (i+1)):=by
    rw[List.drop_eq_getElem_cons hil,hx];rfl
   have hm:=qSi (rw_ (kd (b.getD i 0)))
   have skip:∃ a0' a1',0<=a0' /\ 0<=a1' /\ a0'+a1'<=a0+a1+Ws (b.drop i) /\ a0'+a1'<=1254*81 /\ qB2 (F+n+1) b ((i+1:Nat):Int) x2 x3 x4 [a0,a1]=some (x2,x3,x4,[a0',a1']):=by
    obtain⟨p,q,e1,e2,e3,e4,e5⟩:=ih (i+1) (by omega) a0 a1 h0 h1 (by omega) F
    exact⟨p,q,e1,e2,by omega,e4,e5⟩
   have body:qB2 (F+(n+1)+1) b i x2 x3 x4 [a0,a1]=br (decide (sd (b.getD i 0) >= 0))
     (br (kd (b.getD i 0) != 8)
      (br (inB (sd (b.getD i 0)) 2)
       (ob (qFp (kd (b.getD i 0))) fun a12=>ob (qIa i) fun a13=>br (inB (sd (b.getD i 0)) 2)
        (qB2 (F+n+1) b ((i+1:Nat):Int) x2 x3 x4 (List.set [a0,a1] (Int.toNat (sd (b.getD i 0))) (IntKind.wrap .i64 (List.getD [a0,a1] (Int.toNat (sd (b.getD i 0))) 0+IntKind.wrap .i64 (a12+a13))))) none) none)
      (qB2 (F+n+1) b ((i+1:Nat):Int) x2 x3 x4 [a0,a1]))
     (qB2 (F+n+1) b ((i+1:Nat):Int) x2 x3 x4 [a0,a1]):=by
    rw[qB2.eq_2]
    unfold qMg
    rw[qf (by omega),qg (by omega) (by omega)]
    simp only[cond_true,tn,qDx,qBd,qA]
    rw[w_s (n:=(i:Int)+1) (by omega) (by omega)]
    rfl
   rw[body]
   by_cases hk0:kd (b.getD i 0)=0
   ·have:sd (b.getD i 0) = -1:=by unfold sd;rw[if_pos hk0]
    rw[this,qI (by decide)]
    exact skip
   have hsd:sd (b.getD i 0)=0 \/ sd (b.getD i 0)=1:=by unfold sd;rw[if_neg hk0];split<;>simp
   rw[qD (by rcases hsd with h | h<;>rw[h]<;>decide)]
   by_cases hk8:kd (b.getD i 0)=8
   ·rw[qu hk8];exact skip
   rw[qq hk8]
   obtain⟨v,hv,v0,v1⟩:=qre hk0 hk8
   obtain⟨u,hu,u0,u1⟩:=qrg (q:=i) (by omega)
   rw[qg (by omega) (by omega),hv,qA,hu,qA,qg (by omega) (by omega),w_s (n:=v+u) (by omega) (by omega)]
   rcases hsd with h | h<;>rw[h]
   ·show ∃ a0' a1',0<=a0' /\ 0<=a1' /\ a0'+a1'<=a0+a1+Ws (b.drop i) /\ a0'+a1'<=1254*81 /\ qB2 (F+n+1) b ((i+1:Nat):Int) x2 x3 x4 [IntKind.wrap .i64 (a0+(v+u)),a1]=some (x2,x3,x4,[a0',a1'])
    rw[w_s (by omega) (by omega)]
    obtain⟨p,q,e1,e2,e3,e4,e5⟩:=ih (i+1) (by omega) (a0+(v+u)) a1 (by omega) h1 (by omega) F
    exact⟨p,q,e1,e2,by omega,e4,e5⟩
   ·show ∃ a0' a1',0<=a0' /\ 0<=a1' /\ a0'+a1'<=a0+a1+Ws (b.drop i) /\ a0'+a1'<=1254*81 /\ qB2 (F+n+1) b ((i+1:Nat):Int) x2 x3 x4 [a0,IntKind.wrap .i64 (a1+(v+u))]=some (x2,x3,x4,[a0',a1'])
    rw[w_s (by omega) (by omega)]
    obtain⟨p,q,e1,e2,e3,e4,e5⟩:=ih (i+1) (by omega) a0 (a1+(v+u)) h0 (by omega) (by omega) F
    exact⟨p,q,e1,e2,by omega,e4,e5⟩
def Hs (r:List Int):Nat->Nat->Int
 | 0,_=>0
 | n+1,k=>r.getD k 0*Mk k+Hs r n (k+1)
theorem qdN {r:List Int} (hr:∀ k,0<=r.getD k 0 /\ r.getD k 0<=127) (sdN:Nat) (hsd:sdN<2) (x1 x5 x6:List Int) (x2 x7:Int):∀ (n k:Nat),k+n=8->∀ (a0 a1:Int),0<=a0->0<=a1->a0+a1<=2000000+200000*k->∀ F,
  ∃ a0' a1',0<=a0' /\ 0<=a1' /\ a0'+a1'<=a0+a1+Hs r n k /\ qCg (F+n+1) sdN x1 x2 r k x5 x6 x7 [a0,a1]=some (x1,x2,x5,x6,x7,[a0',a1']):=by
 intro n
 induction n with
 | zero=>
   intro k hk a0 a1 h0 h1 hs F
   refine⟨a0,a1,h0,h1,by simp only[Hs];omega,?_⟩
   rw[qCg.eq_2]
   unfold qMf
   rw[qZ (by omega)]
 | succ n ih=>
   intro k hk a0 a1 h0 h1 hs F
   obtain⟨v,hv,v0,v1⟩:=qrc (k:=k) (by omega)
   have hm:=qSi (k:Int)
   obtain⟨c0,c1⟩:=hr k
   have hcv:0<=r.getD k 0*v:=Int.mul_nonneg c0 v0
   have hcm:r.getD k 0*v<=r.getD k 0*Mk k:=Int.mul_le_mul_of_nonneg_left v1 c0
   have hcx:r.getD k 0*Mk k<=127*1254:=by
    have h1:r.getD k 0*Mk k<=127*Mk k:=Int.mul_le_mul_of_nonneg_right c1 hm.1
    have h2:127*Mk k<=127*1254:=Int.mul_le_mul_of_nonneg_left hm.2 (by omega)
    omega
   have hHs:Hs r (n+1) k=r.getD k 0*Mk k+Hs r n (k+1):=rfl
   have body:qCg (F+(n+1)+1) sdN x1 x2 r k x5 x6 x7 [a0,a1]=qCg (F+n+1) sdN x1 x2 r ((k+1:Nat):Int) x5 x6 x7 (List.set [a0,a1] sdN (IntKind.wrap .i64 (List.getD [a0,a1] sdN 0+IntKind.wrap .i64 (r.getD k 0*v)))):=by
    rw[qCg.eq_2]
    unfold qMf
    rw[qf (by omega),qg (by omega) (by omega),qg (by omega) (by omega),hv,qA,qg (by omega) (by omega)]
    simp only[cond_true,tn,c_8]
    rw[w_s (n:=(k:Int)+1) (by omega) (by omega)]
    rfl
   rw[body,w_s (n:=r.getD k 0*v) (by omega) (by omega)]
   have hcase:sdN=0 \/ sdN=1:=by omega
   rcases hcase with h | h<;>subst h
   ·show ∃ a0' a1',0<=a0' /\ 0<=a1' /\ a0'+a1'<=a0+a1+Hs r (n+1) k /\ qCg (F+n+1) ((0:Nat):Int) x1 x2 r ((k+1:Nat):Int) x5 x6 x7 [IntKind.wrap .i64 (a0+r.getD k 0*v),a1]=some (x1,x2,x5,x6,x7,[a0',a1'])
    rw[w_s (by omega) (by omega)]
    obtain⟨p,q,e1,e2,e3,e5⟩:=ih (k+1) (by omega) (a0+r.getD k 0*v) a1 (by omega) h1 (by omega) F
    exact⟨p,q,e1,e2,by omega,e5⟩
   ·show ∃ a0' a1',0<=a0' /\ 0<=a1' /\ a0'+a1'<=a0+a1+Hs r (n+1) k /\ qCg (F+n+1) ((1:Nat):Int) x1 x2 r ((k+1:Nat):Int) x5 x6 x7 [a0,IntKind.wrap .i64 (a1+r.getD k 0*v)]=some (x1,x2,x5,x6,x7,[a0',a1'])
    rw[w_s (by omega) (by omega)]
    obtain⟨p,q,e1,e2,e3,e5⟩:=ih (k+1) (by omega) a0 (a1+r.getD k 0*v) h0 (by omega) (by omega) F
    exact⟨p,q,e1,e2,by omega,e5⟩
theorem qDs (h:List Int) (j k:Nat) (hk:k<8):(List.take 8 (List.drop (j*8) h)).getD k 0=h.getD (j*8+k) 0:=by
 rw[List.getD_eq_getElem?_getD,List.getElem?_take_of_lt hk,List.getElem?_drop,<- List.getD_eq_getElem?_getD]
theorem qoF (h:List Int) (j k:Nat) (hk:¬ k<8):(List.take 8 (List.drop (j*8) h)).getD k 0=0:=by
 rw[List.getD_eq_getElem?_getD,List.getElem?_eq_none (by rw[List.length_take];omega)];rfl
theorem PosP.value {b h:List Int} {s:Int} (hp:PosP b h s):∃ v,qIZ b h s=some v /\ -26000<=v /\ v<=26000:=by
 have hP:=qNQ.1 (qMt hp.zero)
 have hh:∀ j,j<2->∀ k,0<=(List.take 8 (List.drop (j*8) h)).getD k 0 /\ (List.take 8 (List.drop (j*8) h)).getD k 0<=127:=by
  intro j hj k
  by_cases hk:k<8
  ·rw[qDs h j k hk]
   have h1:=hP.hands k hk j hj
   have h2:=hp.fits (j*8+k)
   unfold bsH at h1
   have h1:=of_decide_eq_false h1
   omega
  ·rw[qoF h j k hk];omega
 obtain⟨g,hg⟩:=qd 81 (by omega)
 obtain⟨g8,hg8⟩:=qd 8 (by omega)
 obtain⟨g2,hg2⟩:=qd 2 (by omega)
 obtain⟨p0,p1,e1,e2,e3,e4,e5⟩:=qrG hp.clean b h s 81 0 (by omega) 0 0 (by omega) (by omega) (by omega) g
 rw[<- hg] at e5
 obtain⟨q0,q1,f1,f2,f3,f5⟩:=qdN (hh 0 (by omega)) 0 (by omega) h b h 0 s 8 0 (by omega) p0 p1 e1 e2 (by omega) g8
 rw[<- hg8] at f5
 have hr0:=hh 0 (by omega)
 have hr1:=hh 1 (by omega)
 have sumH:∀ j,j<2->∃ z,Hs (List.take 8 (List.drop (j*8) h)) 8 0=z /\ z=604*hd_ h j 1+554*hd_ h j 2+554*hd_ h j 3+554*hd_ h j 4+605*hd_ h j 5+1104*hd_ h j 6+1254*hd_ h j 7:=by
  intro j hj
  refine⟨_,rfl,?_⟩
  simp only[Hs]
  rw[qDs h j 0 (by omega),qDs h j (0+1) (by omega),qDs h j (0+1+1) (by omega),qDs h j (0+1+1+1) (by omega),qDs h j (0+1+1+1+1) (by omega),qDs h j (0+1+1+1+1+1) (by omega),qDs h j (0+1+1+1+1+1+1) (by omega),qDs h j (0+1+1+1+1+1+1+1) (by omega)]
  unfold hd_
  simp only[tn,Mk]
  simp
  omega
 obtain⟨z0,y0,w0⟩:=sumH 0 (by omega)
 obtain⟨z1,y1,w1⟩:=sumH 1 (by omega)
 rw[y0] at f3
 have hov:∀ k:Nat,1<=k->k<8->(cnt b k:Int)+hd_ h 0 k+hd_ h 1 k<=qJ7 k:=by
  intro k h1 h2
  have:=hP.over k h1 h2
  unfold qDa at this
  have:=of_decide_eq_false this
  omega
 have o1:=hov 1 (by omega) (by omega)
 have o2:=hov 2 (by omega) (by omega)
 have o3:=hov 3 (by omega) (by omega)
 have o4:=hov 4 (by omega) (by omega)
 have o5:=hov 5 (by omega) (by omega)
 have o6:=hov 6 (by omega) (by omega)
 have o7:=hov 7 (by omega) (by omega)
 have hw:=qSj b
 rw[List.drop_zero] at e3
 simp[qJ7] at o1 o2 o3 o4 o5 o6 o7
 have hq:q0+q1<=2000000:=by
  have h1:∀ k,hd_ h 1 k >= 0 \/ True:=fun _=>.inr trivial
  have c:∀ k:Nat,k<8->0<=hd_ h 1 k:=by
   intro k hk
   have:=(hr1 k).1
   rw[qDs h 1 k hk] at this
   exact this
  have c1:=c 1 (by omega)
  have c2:=c 2 (by omega)
  have c3:=c 3 (by omega)
  have c4:=c 4 (by omega)
  have c5:=c 5 (by omega)
  have c6:=c 6 (by omega)
  have c7:=c 7 (by omega)
  simp at c1 c2 c3 c4 c5 c6 c7 w0
  omega
 obtain⟨r0,r1,k1,k2,k3,k5⟩:=qdN hr1 1 (by omega) h b h 1 s 8 0 (by omega) q0 q1 f1 f2 (by omega) g8
 rw[<- hg8] at k5
 rw[y1] at k3
 have htot:r0+r1<=26000:=by
  simp at w0 w1
  omega
 have e10:qFo qC h 0 b h s [p0,p1]=some (b,h,s,[r0,r1]):=by
  rw[hg2,qFo.eq_2]
  unfold qKB
  rw[qf (by omega),qg (by omega) (by omega)]
  have:qCg qC 0 h 0 (List.take 8 (List.drop (Nat.add (Nat.mul (Int.toNat 0) 7) (Int.toNat 0)) h)) 0 b h s [p0,p1]=some (h,0,b,h,s,[q0,q1]):=f5
  rw[this,qA]
  simp only
  rw[show IntKind.wrap .i64 ((0:Int)+1)=1 by rfl,qFo.eq_2]
  unfold qKB
  rw[qf (by omega),qg (by omega) (by omega)]
  have:qCg qC 1 h 1 (List.take 8 (List.drop (Nat.add (Nat.mul (Int.toNat 1) 7) (Int.toNat 1)) h)) 0 b h s [q0,q1]=some (h,1,b,h,s,[r0,r1]):=k5
  rw[this,qA]
  simp only
  rw[show IntKind.wrap .i64 ((1:Int)+1)=2 by rfl,qFo.eq_2]
  unfold qKB
  rw[qZ (by omega)]
 unfold qIZ
 have e5':qB2 qC b 0 b h s [0,0]=some (b,h,s,[p0,p1]):=e5
 rw[e5',qA]
 simp only
 rw[e10,qA]
 simp only
 show ∃ v,br (s==1) (some (IntKind.wrap .i64 (r1 - r0))) (some (IntKind.wrap .i64 (r0 - r1)))=some v /\ _
 rw[w_s (n:=r1 - r0) (by omega) (by omega),w_s (n:=r0 - r1) (by omega) (by omega)]
 cases s==1 with
 | true=>exact⟨_,rfl,by omega,by omega⟩
 | false=>exact⟨_,rfl,by omega,by omega⟩
end Go.Kk.Pl
namespace Go.Kk.Pl
end Go.Kk.Pl
namespace Go.Kk.Pl
end Go.Kk.Pl
namespace Go.Kk.Pl
end Go.Kk.Pl
namespace Go.Kk.Pl
end Go.Kk.Pl
namespace Go.Kk.Pl
def sqL (q:Nat):List UInt8:=[UInt8.ofNat (49+q / 9),UInt8.ofNat (97+q % 9)]
def ltr (d:Nat):UInt8:=[0,80,76,78,83,71,66,82].getD d 0
def txL (f t d:Nat) (p:Bool):List UInt8:=if d≠0 then [ltr d,42]++sqL t else sqL f++sqL t++(if p then [43] else [])
def bts (l:List UInt8):ByteArray:={data:={toList:=l }}
def qBI (l:List UInt8):List Int:=l.map fun x=>Int.ofNat x.toNat
theorem qRw:∀ q,q<81->qHd (Int.ofNat q)=some (bts (sqL q)):=by decide +kernel
theorem qcL:∀ q,q<81->qGC (Int.ofNat (UInt8.ofNat (49+q / 9)).toNat) (Int.ofNat (UInt8.ofNat (97+q % 9)).toNat)=some (Int.ofNat q,true):=by decide +kernel
theorem qcK:∀ q,q<81->(UInt8.ofNat (49+q / 9)).toNat<128 /\ (UInt8.ofNat (97+q % 9)).toNat<128 /\ (UInt8.ofNat (97+q % 9)).toNat≠42:=by decide +kernel
theorem qWp:∀ d,d<8->d≠0->qAy 0 (Int.ofNat d)=some (Int.ofNat d) /\ qXW (Int.ofNat d)=some (bts [ltr d]) /\ (ltr d).toNat<128 /\ qPX (Int.ofNat (ltr d).toNat) false=some (Int.ofNat d) /\ qAQ (Int.ofNat d)=some 0 /\ (Int.ofNat d==8)=false:=by decide +kernel
theorem qgH {s:ByteArray} {i:Nat} (h:(s.get! i).toNat<128):Utf8.decode s i=((s.get! i).toNat,1):=by
 unfold Utf8.decode
 simp only[Nat.add_zero]
 rw[if_pos h]
theorem qVN {l:List UInt8} {i:Nat} (hi:i<l.length):(bts l).get! i=l[i]:=by
 show (Array.mk l)[i]! = l[i]
 rw[getElem!_pos _ _ (by simpa using hi)]
 rfl
theorem qky (l:List UInt8) (hl:l.length<=5) (h:∀ x∈l,x.toNat<128):∀ (n i:Nat),i+n=l.length->∀ F,
  qGB (F+n+1) i 0 0 0 false i (qBI (l.take i)) (bts l) i=some (l.length,0,0,0,false,l.length,qBI l):=by
 intro n
 induction n with
 | zero=>
   intro i hi F
   show qJN (qGB (F+0)) _ _ _ _ _ _ _ _ _=_
   unfold qJN
   have e:(bts l).size=l.length:=rfl
   rw[e,qI (by rw[Bool.eq_false_iff,ne_eq,Nat.blt_eq];omega),List.take_of_length_le (by omega),show i=l.length by omega]
 | succ n ih=>
   intro i hi F
   show qJN (qGB (F+n+1)) _ _ _ _ _ _ _ _ _=_
   unfold qJN
   have e:(bts l).size=l.length:=rfl
   have hil:i<l.length:=by omega
   have hd:Utf8.decode (bts l) i=(l[i].toNat,1):=by
    rw[qgH (by rw[qVN hil];exact h _ (List.getElem_mem hil)),qVN hil]
   have h6:(Int.ofNat i==6)=false:=by rw[beq_eq_false_iff_ne];simp only[Int.ofNat_eq_natCast];omega
   rw[e,qD (by rw[Nat.blt_eq];omega),qI h6,qC1 (by omega)]
   unfold qNa qKa
   rw[hd]
   have e2:List.append (List.take i (qBI (List.take i l))) [Int.ofNat l[i].toNat]=qBI (l.take (i+1)):=by
    unfold qBI
    rw[List.take_of_length_le (by simp;omega),List.append_eq]
    rw[List.take_succ_eq_append_getElem hil,List.map_append]
    rfl
   show qGB (F+n+1) (i+1) 0 0 0 false (i+1) (List.append (List.take i (qBI (List.take i l))) [Int.ofNat l[i].toNat]) (bts l) (i+1)=_
   rw[e2]
   exact ih (i+1) (by omega) F
theorem qPT (l:List UInt8) (hl:l.length<=5) (h:∀ x∈l,x.toNat<128):qGB qC 0 0 0 0 false 0 [] (bts l) 0=some (l.length,0,0,0,false,l.length,qBI l):=by
 obtain⟨g,hg⟩:=qd l.length (by omega)
 have:=qky l hl h l.length 0 (by omega) g
 rw[<- hg] at this
 exact this
theorem qSB {l:List UInt8} (h:l.length<=1000):decide (Int.ofNat (bts l).size<=qIR)=true:=by
 rw[decide_eq_true_eq]
 unfold qIR
 show ((l.length:Nat):Int)<=_
 omega
structure Nmd (f t d:Nat) (p:Bool):Prop where
 to_:t<81
 drop:d≠0->d<8 /\ f=0 /\ p=false
 move:d=0->f<81 /\ f≠t
theorem qI5 {n:Nat} (h:n<=1000):qFm n=true:=by rw[qql];unfold qIR;simp only[Int.ofNat_eq_natCast];omega
theorem qfo {f t d:Nat} {p:Bool} (h:Nmd f t d p):qDZ (Int.ofNat f) (Int.ofNat t) (Int.ofNat d) p=some 0:=by
 have:=h.to_
 unfold qDZ
 simp only[Int.ofNat_eq_natCast]
 rw[qZ (by omega),qI (by simp;omega)]
 by_cases hd:d=0
 ·obtain⟨h1,h2⟩:=h.move hd
  have e:((f:Int)==(t:Int))=false:=by rw[beq_eq_false_iff_ne];omega
  rw[qI (by simp[hd]),qZ (by omega),qI (by simp;omega),qI e]
 ·obtain⟨h1,h2,h3⟩:=h.drop hd
  subst h2 h3
  rw[qD (by simp;omega),qZ (by omega),qI (by simp;omega),qI (by simp),qI rfl]
theorem qq1 {f t d:Nat} {p:Bool} (h:Nmd f t d p):qPG (Int.ofNat f) (Int.ofNat t) (Int.ofNat d) p=some (bts (txL f t d p)):=by
 unfold qPG txL
 rw[qfo h,qA,qI (by rfl)]
 by_cases hd:d=0
 ·obtain⟨h1,h2⟩:=h.move hd
  subst hd
  rw[qI (by rfl),qRw f h1,qRw t h.to_,if_neg (by simp)]
  simp only[qA]
  cases p with
  | true=>
    rw[b_t,qD (qI5 (by show 4<=1000;omega)),qD (qI5 (by show 5<=1000;omega))]
    rfl
  | false=>
    rw[b_f,qD (qI5 (by show 4<=1000;omega))]
    simp only[Bool.false_eq_true,if_false,List.append_nil]
    rfl
 ·obtain⟨h1,h2,h3⟩:=h.drop hd
  obtain⟨e1,e2,e3,e4,e5,e6⟩:=qWp d h1 hd
  rw[qD (by simp;omega),e1,qA,e2,qA,qD (qI5 (by show 2<=1000;omega)),qRw t h.to_,qA,qD (qI5 (by show 4<=1000;omega)),if_pos hd]
  rfl
theorem qkz {f t d:Nat} {p:Bool} (h:Nmd f t d p):qJM (bts (txL f t d p))=some (Int.ofNat f,Int.ofNat t,Int.ofNat d,p,0):=by
 have st:=qcL t h.to_
 have at_:=qcK t h.to_
 by_cases hd:d=0
 ·obtain⟨h1,h2⟩:=h.move hd
  have sf:=qcL f h1
  have af:=qcK f h1
  have e42:(Int.ofNat (UInt8.ofNat (97+f % 9)).toNat==42)=false:=by rw[beq_eq_false_iff_ne];intro e;exact af.2.2 (by injection e)
  have eft:(Int.ofNat f==Int.ofNat t)=false:=by rw[beq_eq_false_iff_ne];intro e;exact h2 (by injection e)
  subst hd
  unfold txL
  rw[if_neg (by simp)]
  cases p with
  | true=>
    have hl:∀ x∈(sqL f++sqL t++(if true=true then [43] else []):List UInt8),x.toNat<128:=by
     intro x hx
     simp only[if_true,sqL,List.cons_append,List.nil_append,List.mem_cons,List.not_mem_nil,or_false] at hx
     rcases hx with rfl | rfl | rfl | rfl | rfl
     ·exact af.1
     ·exact af.2.1
     ·exact at_.1
     ·exact at_.2.1
     ·decide
    unfold qJM
    rw[qD (qSB (by simp[sqL])),qPT _ (by simp[sqL]) hl,qA]
    simp only[if_true,sqL,List.cons_append,List.nil_append,qBI,List.map_cons,List.map_nil,List.length_cons,List.length_nil,List.getD_cons_zero,List.getD_cons_succ]
    rw[qD (by rfl),qI (by rfl),qD (by rfl),qI e42,qD (by rfl),qD (by rfl),sf,qA]
    simp only
    rw[qD (by rfl),qD (by rfl),st,qA]
    simp only
    rw[qI (by rfl),qI (by rfl),qI eft,qD (by rfl),qD (by rfl),qI (by rfl)]
    rfl
  | false=>
    have hl:∀ x∈(sqL f++sqL t++(if false=true then [43] else []):List UInt8),x.toNat<128:=by
     intro x hx
     simp only[Bool.false_eq_true,if_false,sqL,List.cons_append,List.nil_append,List.mem_cons,List.not_mem_nil,or_false] at hx
     rcases hx with rfl | rfl | rfl | rfl
     ·exact af.1
     ·exact af.2.1
     ·exact at_.1
     ·exact at_.2.1
    unfold qJM
    rw[qD (qSB (by simp[sqL])),qPT _ (by simp[sqL]) hl,qA]
    simp only[Bool.false_eq_true,if_false,sqL,List.cons_append,List.nil_append,qBI,List.map_cons,List.map_nil,List.length_cons,List.length_nil,List.getD_cons_zero,List.getD_cons_succ]
    rw[qI (by rfl),qD (by rfl),qI e42,qD (by rfl),qD (by rfl),sf,qA]
    simp only
    rw[qD (by rfl),qD (by rfl),st,qA]
    simp only
    rw[qI (by rfl),qI (by rfl),qI eft,qI (by rfl)]
    rfl
 ·obtain⟨h1,h2,h3⟩:=h.drop hd
  obtain⟨e1,e2,e3,e4,e5,e6⟩:=qWp d h1 hd
  subst h2 h3
  unfold txL
  rw[if_pos hd]
  have hl:∀ x∈([ltr d,42]++sqL t:List UInt8),x.toNat<128:=by
   intro x hx
   simp only[sqL,List.cons_append,List.nil_append,List.mem_cons,List.not_mem_nil,or_false] at hx
   rcases hx with rfl | rfl | rfl | rfl
   ·exact e3
   ·decide
   ·exact at_.1
   ·exact at_.2.1
  unfold qJM
  rw[qD (qSB (by simp[sqL])),qPT _ (by simp[sqL]) hl,qA]
  simp only[sqL,List.cons_append,List.nil_append,qBI,List.map_cons,List.map_nil,List.length_cons,List.length_nil,List.getD_cons_zero,List.getD_cons_succ]
  rw[qI (by rfl),qD (by rfl),qD (by rfl),qD (by rfl),e4,qA,qD (by rfl),qD (by rfl),st,qA]
  simp only
  rw[e5,qA,qI (by rfl),qI e6,qI (by rfl),qI (by rfl)]
  rfl
end Go.Kk.Pl
namespace Go.Kk.Pl
end Go.Kk.Pl
namespace Go.Kk.Pl
def tx (m:List Int):ByteArray:=bts (txL (m0 m).toNat (m1 m).toNat (m2 m).toNat (m3 m))
theorem qXB {b h:List Int} {s f t d:Int} {p:Bool} (hP:CanP b h s f t d p):f=Int.ofNat f.toNat /\ t=Int.ofNat t.toNat /\ d=Int.ofNat d.toNat /\ Nmd f.toNat t.toNat d.toNat p:=by
 have ht:=hP.to_
 simp only[Int.ofNat_eq_natCast]
 by_cases hd:d=0
 ·obtain⟨h1,h2,h3,_⟩:=hP.move hd
  exact⟨by omega,by omega,by omega,by omega,fun h=>by omega,fun _=>⟨by omega,by omega⟩⟩
 ·obtain⟨h1,h2,h3,h4,_⟩:=hP.drop hd
  exact⟨by omega,by omega,by omega,by omega,fun _=>⟨by omega,by omega,h4⟩,fun h=>by omega⟩
theorem PosP.canP {b h:List Int} {s:Int} (hp:PosP b h s) {m:List Int} (hm:m∈lgL b h s):CanP b h s (m0 m) (m1 m) (m2 m) (m3 m):=(qFF (hp.full hm).2).2
theorem PosP.text {b h:List Int} {s:Int} (hp:PosP b h s) {m:List Int} (hm:m∈lgL b h s):qPG (m0 m) (m1 m) (m2 m) (m3 m)=some (tx m):=by
 obtain⟨e1,e2,e3,hn⟩:=qXB (hp.canP hm)
 have:=qq1 hn
 rw[<- e1,<- e2,<- e3] at this
 exact this
theorem PosP.parse {b h:List Int} {s:Int} (hp:PosP b h s) {m:List Int} (hm:m∈lgL b h s):qJM (tx m)=some (m0 m,m1 m,m2 m,m3 m,0):=by
 obtain⟨e1,e2,e3,hn⟩:=qXB (hp.canP hm)
 have:=qkz hn
 rw[<- e1,<- e2,<- e3] at this
 exact this
theorem PosP.apart {b h:List Int} {s:Int} (hp:PosP b h s) {m m':List Int} (hm:m∈lgL b h s) (hm':m'∈lgL b h s) (e:qA2 (tx m)=qA2 (tx m')):m=m':=by
 have e:tx m=tx m':=by rw[<- qEv (tx m),e,qEv]
 have h1:=hp.parse hm
 rw[e,hp.parse hm'] at h1
 simp only[Option.some.injEq,Prod.mk.injEq,and_true] at h1
 obtain⟨a,b,c,d⟩:=h1
 rw[(hp.full hm).1.1,(hp.full hm').1.1,a,b,c,d]
theorem qdC {A:List (List Int)} {B:List (List Int)} {n j:Nat} (e:B.take n=A.take n) (hj:j<n):B.getD j []=A.getD j []:=by
 have h1:∀ X:List (List Int),(X.take n).getD j []=X.getD j []:=by
  intro X
  rw[List.getD_eq_getElem?_getD,List.getD_eq_getElem?_getD,List.getElem?_take_of_lt hj]
 rw[<- h1 B,<- h1 A,e]
theorem qj1 {A:List (List Int)} {n:Nat} (hn:n<=A.length) (e:List Int):(List.append (List.take n A) [e]).getD n []=e:=by
 rw[List.append_eq,List.getD_eq_getElem?_getD,List.getElem?_append_right (by simp;omega)]
 simp[Nat.min_eq_left hn]
theorem qj3 {A:List (List Int)} {n:Nat} (hn:n<=A.length) (e:List Int):(List.append (List.take n A) [e]).take n=A.take n:=by
 rw[List.append_eq,List.take_append_of_le_length (by simp;omega),List.take_take,Nat.min_self]
theorem qj2 {A:List (List Int)} {n:Nat} (hn:n<=A.length) (e:List Int):(List.append (List.take n A) [e]).length=n+1:=by
 rw[List.append_eq,List.length_append,List.length_take]
 simp;omega
def qJQ (b:List Int) (s:Int) (m:List Int):List Int:=[m0 m,m1 m,m2 m,bi (m3 m),at_ b (m1 m),was b s (m0 m) (m2 m)]
theorem PosP.make {b h:List Int} {s:Int} (hp:PosP b h s) {m:List Int} (hm:m∈lgL b h s) (n:Nat) (hn:n<=1000) (x:Nat) (st:List (List Int)):
  qEw (m0 m) (m1 m) (m2 m) (m3 m) (kof b h s) n b h s (qJ b) (qK b) x st =
   some (.inr (true,kof (mbM b s m) (mhM b h s m) (1 - s),n+1,mbM b s m,mhM b h s m,1 - s,qJ (mbM b s m),qK (mbM b s m),n+1,List.append (List.take n st) [qJQ b s m])):=by
 obtain⟨c,hcan,hmk⟩:=qjM hp.clean h hp.side (m0 m) (m1 m) (m2 m) (m3 m)
 have e:qBp b h s (m0 m) (m1 m) (m2 m) (m3 m)=c:=Option.some.inj ((qfh b h hp.side (m0 m) (m1 m) (m2 m) (m3 m) 0 0 (qJ b) (qK b) 0 []).symm.trans (hcan 0 0 0 []))
 rw[qjb (hp.full hm).2] at e
 rcases hmk with⟨h1,_⟩ | ⟨_,hP,hmk⟩
 ·rw[h1] at e;cases e
 ·rw[hmk _ _ _ _ (by omega),qjZ hp.going.sound hp.going.fits hp.going.len hP]
  rfl
theorem PosP.back {b h:List Int} {s:Int} (hp:PosP b h s) {m:List Int} (hm:m∈lgL b h s) (n:Nat) (hn:n<=1000) (x:Nat) (st:List (List Int)) (hst:st.getD n []=qJQ b s m):
  qED (kof (mbM b s m) (mhM b h s m) (1 - s)) (n+1) (mbM b s m) (mhM b h s m) (1 - s) (qJ (mbM b s m)) (qK (mbM b s m)) x st=some (true,kof b h s,n,b,h,s,qJ b,qK b,x,st):=by
 rw[qKv,qKv]
 exact qem hp.going (hp.canP hm) n hn x st hst
inductive Hist (b0 h0:List Int) (s0:Int):Nat->List (List Int)->List Int->List Int->Int->Prop
 | zero (st:List (List Int)):Hist b0 h0 s0 0 st b0 h0 s0
 | succ {n:Nat} {st:List (List Int)} {b h:List Int} {s:Int} {m:List Int} (hh:Hist b0 h0 s0 n st b h s) (hp:PosP b h s) (hm:m∈lgL b h s) (hst:st.getD n []=qJQ b s m):
   Hist b0 h0 s0 (n+1) st (mbM b s m) (mhM b h s m) (1 - s)
theorem Hist.congr {b0 h0:List Int} {s0:Int} {n:Nat} {st:List (List Int)} {b h:List Int} {s:Int} (hh:Hist b0 h0 s0 n st b h s):∀ {st':List (List Int)},st'.take n=st.take n->Hist b0 h0 s0 n st' b h s:=by
 induction hh with
 | zero st=>intro st' _;exact .zero st'
 | @succ n st b h s m hh hp hm hst ih=>
   intro st' e
   have e':st'.take n=st.take n:=by
    have:=congrArg (List.take n) e
    rwa [List.take_take,List.take_take,Nat.min_eq_left (by omega)] at this
   exact .succ (ih e') hp hm (by rw[qdC e (by omega),hst])
end Go.Kk.Pl
namespace Go.Kk.Pl
set_option maxRecDepth 100000
def qIc:List Int:=List.replicate 106 0
end Go.Kk.Pl
namespace Go.Kk.Pl
set_option maxRecDepth 100000
def EOK (e0 e1:Int):Prop:=∃ d:Nat,e0=d /\ 1<=d /\ d<=64 /\ (if d=1 then -27000 else -29998)<=e1 /\ e1<=29999
def qMp (r:List Int):Prop:=(r.length=106 /\ r.getD 0 0=0) \/ ∃ b h s e0 e1 e2 m,r=qCb b h s e0 e1 e2 (m0 m) (m1 m) (m2 m) (m3 m) /\ PosP b h s /\ m∈lgL b h s /\ EOK e0 e1
structure TabI (N:Nat) (T:List (List Int)):Prop where
 pos:1<=N
 top:N<=65536
 len:T.length=N
 row:∀ q,q<N->qMp (T.getD q [])
theorem qMp.len {r:List Int} (h:qMp r):r.length=106:=by
 rcases h with h | ⟨b,h',s,e0,e1,e2,m,rfl,hp,_⟩
 ·exact h.1
 ·exact qoE hp.len hp.hlen
theorem qqp {N:Nat} (h0:1<=N) (h1:N<=65536):TabI N (List.replicate N qIc):=by
 refine⟨h0,h1,by simp,fun q hq=>.inl ?_⟩
 rw[List.getD_eq_getElem?_getD,List.getElem?_replicate,if_pos hq]
 exact⟨by simp[qIc],rfl⟩
theorem TabI.get {N:Nat} {T:List (List Int)} (hT:TabI N T) {b h:List Int} {s:Int} (u:Int):
  qD1 b h s N u N T=some (0,0,0,0,0,0,false,false) \/ ∃ e0 e1 e2 m,qD1 b h s N u N T=some (e0,e1,e2,m0 m,m1 m,m2 m,m3 m,true) /\ m∈lgL b h s /\ EOK e0 e1:=by
 obtain⟨q,hq,hat⟩:=qSr b h s N hT.pos hT.top
 rcases hT.row q hq with hr | ⟨b',h',s',e0,e1,e2,m,hr,hp,hm,he⟩
 ·exact .inl (qhd b h s hat u N T hr.2)
 ·have:=qhc b h s hat u N T hr hp.len hp.hlen
  by_cases hc:b'=b /\ h'=h /\ s'=s
  ·rw[if_pos hc] at this
   obtain⟨rfl,rfl,rfl⟩:=hc
   exact .inr ⟨e0,e1,e2,m,this,hm,he⟩
  ·rw[if_neg hc] at this
   exact .inl this
theorem TabI.put {N:Nat} {T:List (List Int)} (hT:TabI N T) {b h:List Int} {s:Int} (hp:PosP b h s) (u e0 e1 e2:Int) {m:List Int} (hm:m∈lgL b h s) (he:EOK e0 e1):
  ∃ u' T',qD2 b h s e0 e1 e2 (m0 m) (m1 m) (m2 m) (m3 m) N u N T=some (N,u',N,T') /\ TabI N T':=by
 obtain⟨q,hq,hat⟩:=qSr b h s N hT.pos hT.top
 refine⟨_,_,qlS b h s e0 e1 e2 _ _ _ _ hat u N T (hT.row q hq).len,hT.pos,hT.top,by simp[hT.len],fun q' hq'=>?_⟩
 by_cases hqq:q=q'
 ·subst hqq
  rw[List.getD_eq_getElem?_getD,List.getElem?_set_self (by rw[hT.len];exact hq)]
  exact .inr ⟨b,h,s,e0,e1,e2,m,rfl,hp,hm,he⟩
 ·rw[List.getD_eq_getElem?_getD,List.getElem?_set_ne hqq,<- List.getD_eq_getElem?_getD]
  exact hT.row q' hq'
def av (x p:Int):Int:=if 27000<x then x+p else if x < -27000 then x - p else x
theorem qS6 {x p:Int} (h0:-100000<=x) (h1:x<=100000) (p0:-1000<=p) (p1:p<=1000):qFa x p=some (av x p):=by
 unfold qFa av
 by_cases h2:27000<x
 ·rw[qD (by simpa using h2),if_pos h2,w_s (by omega) (by omega)]
 ·rw[qI (by simpa using h2),if_neg h2]
  by_cases h3:x < -27000
  ·rw[qD (by simpa using h3),if_pos h3,w_s (by omega) (by omega)]
  ·rw[qI (by simpa using h3),if_neg h3]
def Lo (d ply:Nat):Int:=if d<=1 then -27000 else (ply:Int)+2 - 30000
def Up (d ply:Nat):Int:=if d=0 then 27000 else 29999 - (ply:Int)
def qEk:List Int->List Int->Int->List (List Int)->Prop
 | _,_,_,[]=>True
 | b,h,s,m :: r=>m∈lgL b h s /\ qEk (mbM b s m) (mhM b h s m) (1 - s) r
def qIS (b h:List Int) (s:Int) (m:List Int):Prop:=(lgL (mbM b s m) (mhM b h s m) (1 - s)).length=0
structure Good (d ply:Nat) (b h:List Int) (s:Int) (sc:Int) (L:List (List Int)):Prop where
 stuck:(lgL b h s).length=0->sc=(ply:Int) - 30000 /\ L=[]
 low:(lgL b h s).length≠0->Lo d ply<=sc
 high:(lgL b h s).length≠0->sc<=Up d ply
 play:qEk b h s L
 len:L.length<=d
 live:(lgL b h s).length≠0->0<d->L≠[]
def qIf (d:Nat) (b h:List Int) (s:Int) (sc:Int) (L:List (List Int)):Prop:=d<=2->0<d->
 (sc=29999 ↔ ∃ m∈lgL b h s,qIS b h s m) /\ (sc=29999->∃ m r,L=m :: r /\ qIS b h s m)
theorem qhp {M:List (List Int)} (hM:∀ m∈M,Mv4 m) (hl:M.length<=100000) (f t d:Int) (p:Bool):∀ (k i:Nat),i+k=M.length->∀ F,
  (∃ j:Nat,j<M.length /\ M[j]? = some [f,t,d,bi p] /\ qDy (F+k+1) M.length M.length i M.length M f t d p=some (.inl ((j:Int),M.length,M))) \/
  qDy (F+k+1) M.length M.length i M.length M f t d p=some (.inr (M.length,M)):=by
 intro k
 induction k with
 | zero=>
   intro i hi F
   refine .inr ?_
   rw[qDy.eq_2]
   unfold qMT
   rw[qZ (by omega)]
 | succ k ih=>
   intro i hi F
   have hil:i<M.length:=by omega
   have h4:=hM M[i] (List.getElem_mem hil)
   have body:qDy (F+(k+1)+1) M.length M.length i M.length M f t d p =
     br (f==m0 M[i]&&(t==m1 M[i]&&(d==m2 M[i]&&p==m3 M[i]))) (some (.inl ((i:Int),M.length,M)))
      (qDy (F+k+1) M.length M.length ((i+1:Nat):Int) M.length M f t d p):=by
    rw[qDy.eq_2]
    unfold qMT
    rw[qf (by omega),qg (by omega) (by omega),tn,atL hil]
    simp only[hdM]
    rw[w_s (n:=(i:Int)+1) (by omega) (by omega)]
    rfl
   rw[body]
   cases hc:(f==m0 M[i]&&(t==m1 M[i]&&(d==m2 M[i]&&p==m3 M[i]))) with
   | true=>
     refine .inl ⟨i,hil,?_,rfl⟩
     simp only[Bool.and_eq_true,beq_iff_eq] at hc
     obtain⟨c0,c1,c2,c3⟩:=hc
     rw[List.getElem?_eq_getElem hil,h4.1,c0,c1,c2,c3]
   | false=>exact ih (i+1) (by omega) F
theorem qhq {M:List (List Int)} (hM:∀ m∈M,Mv4 m) (hl:M.length<=100000) (f t d:Int) (p:Bool):
  (∃ j:Nat,j<M.length /\ M[j]? = some [f,t,d,bi p] /\ qIP M.length f t d p M.length M=some (j:Int)) \/ qIP M.length f t d p M.length M=some (-1):=by
 obtain⟨g,hg⟩:=qd M.length (by omega)
 unfold qIP
 rcases qhp hM hl f t d p M.length 0 (by omega) g with⟨j,h1,h2,h3⟩ | h3
 ·refine .inl ⟨j,h1,h2,?_⟩
  rw[<- hg] at h3
  refine (congrArg (fun m=>ob m _) h3).trans ?_
  rw[qA,qGi]
 ·refine .inr ?_
  rw[<- hg] at h3
  refine (congrArg (fun m=>ob m _) h3).trans ?_
  rw[qA,qAk]
def qGm (M:List (List Int)) (i:Nat) (m:List Int):List (List Int):=m :: (M.take i++M.drop (i+1))
theorem qd3 {M:List (List Int)} {i:Nat} {m:List Int} (h:M[i]? = some m) (x:List Int):x∈qGm M i m↔x∈M:=by
 obtain⟨hi,he⟩:=List.getElem?_eq_some_iff.1 h
 have:M=M.take i++m :: M.drop (i+1):=by
  rw[<- he,<- List.drop_eq_getElem_cons hi,List.take_append_drop]
 unfold qGm
 constructor
 ·intro hx
  rw[this]
  simp only[List.mem_cons,List.mem_append] at hx ⊢
  rcases hx with hx | hx | hx
  ·exact .inr (.inl hx)
  ·exact .inl hx
  ·exact .inr (.inr hx)
 ·intro hx
  rw[this] at hx
  simp only[List.mem_cons,List.mem_append] at hx ⊢
  rcases hx with hx | hx | hx
  ·exact .inr (.inl hx)
  ·exact .inl hx
  ·exact .inr (.inr hx)
theorem qSk {M:List (List Int)} {i:Nat} {m:List Int} (h:i<M.length):(qGm M i m).length=M.length:=by
 unfold qGm
 simp only[List.length_cons,List.length_append,List.length_take,List.length_drop]
 omega
theorem qd2 {M:List (List Int)} {i:Nat} (hi:0<i) (hl:i<M.length) (hM:∀ m∈M,m.length=4) (f t d:Int) (p:Bool):
  List.set (List.append (List.take 1 M) (List.append (List.take (Nat.min (Int.toNat (i:Int) - 0) (Int.toNat ((i:Int)+1) - 1)) M) (List.drop (1+Nat.min (Int.toNat (i:Int) - 0) (Int.toNat ((i:Int)+1) - 1)) M))) 0
   (f :: t :: d :: bi p :: List.drop 4 (List.getD (List.append (List.take 1 M) (List.append (List.take (Nat.min (Int.toNat (i:Int) - 0) (Int.toNat ((i:Int)+1) - 1)) M) (List.drop (1+Nat.min (Int.toNat (i:Int) - 0) (Int.toNat ((i:Int)+1) - 1)) M))) 0 []))=qGm M i [f,t,d,bi p]:=by
 have h1:Nat.min (Int.toNat (i:Int) - 0) (Int.toNat ((i:Int)+1) - 1)=i:=by
  have:Int.toNat ((i:Int)+1)=i+1:=by omega
  rw[this,tn]
  exact Nat.min_self i
 rw[h1]
 cases M with
 | nil=>simp at hl
 | cons x M=>
   have hx:=hM x (by simp)
   have h2:List.append (List.take 1 (x :: M)) (List.append (List.take i (x :: M)) (List.drop (1+i) (x :: M)))=x :: (List.take i (x :: M)++List.drop (i+1) (x :: M)):=by
    rw[Nat.add_comm 1 i]
    rfl
   rw[h2]
   show (f :: t :: d :: bi p :: List.drop 4 x) :: _=_
   rw[List.drop_eq_nil_of_le (by omega)]
   rfl
def qIe (look:Int->Int->Int->Int->Int->Int->Nat->Int->Int->Nat->Nat->List (List Int)->List Int->List Int->Int->List (List Int)->List (List Int)->Nat->List (List Int)->Option ((Int×Nat×Bool×Int×Int×Nat×Int×Int×Nat×Nat×List (List Int)×List Int×List Int×Int×List (List Int)×List (List Int)×Nat×List (List Int)×Nat×List (List Int))⊕(Int×Nat×Bool×Int×Int×Nat×Int×Int×Nat×Nat×List (List Int)×List Int×List Int×Int×List (List Int)×List (List Int)×Nat×List (List Int)×Nat×List (List Int)))) (d ply:Nat):Prop:=
 ∀ (x2 x3 nd bu:Int) (N:Nat) (u:Int) (n:Nat) (T:List (List Int)) (b h:List Int) (s:Int) (x:Nat) (st:List (List Int)),PosP b h s->TabI N T->n<=st.length->n<=100+ply->
   ∃ (sc:Int) (ok:Bool) (nd' u':Int) (T':List (List Int)) (x':Nat) (st':List (List Int)) (L:List (List Int)),
     (look d ply x2 x3 nd bu N u (kof b h s) n N T b h s (qJ b) (qK b) x st=some (.inl (sc,L.length,ok,nd',bu,N,u',kof b h s,n,N,T',b,h,s,qJ b,qK b,x',st',L.length,L)) \/
      look d ply x2 x3 nd bu N u (kof b h s) n N T b h s (qJ b) (qK b) x st=some (.inr (sc,L.length,ok,nd',bu,N,u',kof b h s,n,N,T',b,h,s,qJ b,qK b,x',st',L.length,L))) /\
     st'.take n=st.take n /\ n<=st'.length /\ TabI N T' /\ (ok=true->Good d ply b h s sc L) /\ (ok=true->ply=0->x2 = -60000->x3=60000->(lgL b h s).length≠0->qIf d b h s sc L)
structure Best (e ply:Nat) (b h:List Int) (s:Int) (M:List (List Int)) (i:Nat) (best:Int) (L:List (List Int)):Prop where
 none:i=0->best = -60000 /\ L=[]
 low:0<i->Lo (e+1) ply<=best
 high:0<i->best<=Up (e+1) ply
 line:0<i->∃ m r,L=m :: r /\ m∈lgL b h s /\ qEk (mbM b s m) (mhM b h s m) (1 - s) r /\ r.length<=e
 mate:0<i->e<=1->(best=29999 - (ply:Int) ↔ ∃ j,j<i /\ qIS b h s (M.getD j []))
 first:0<i->e<=1->best=29999 - (ply:Int)->∃ m r,L=m :: r /\ qIS b h s m
theorem qi1 (m:List Int) (r:List (List Int)):1+r.length=(m :: r).length:=by rw[List.length_cons,Nat.add_comm]
theorem Best.next {e ply:Nat} {b h:List Int} {s:Int} {M:List (List Int)} {i:Nat} {best:Int} {L:List (List Int)} (hB:Best e ply b h s M i best L) (hply:e+1+ply<=64) (hi:i<M.length) (hm:M[i]∈lgL b h s)
  {sc:Int} {L':List (List Int)} (hg:Good e (ply+1) (mbM b s M[i]) (mhM b h s M[i]) (1 - s) sc L'):
  (-29999 <= -sc /\ -sc<=30000) /\ (best < -sc->Best e ply b h s M (i+1) (-sc) (M[i] :: L')) /\ (¬ best < -sc->Best e ply b h s M (i+1) best L):=by
 have hM:M.getD i []=M[i]:=atL hi
 have hs:Lo (e+1) ply <= -sc /\ -sc<=Up (e+1) ply /\ (e<=1->(-sc=29999 - (ply:Int)↔qIS b h s M[i])):=by
  by_cases h0:(lgL (mbM b s M[i]) (mhM b h s M[i]) (1 - s)).length=0
  ·obtain⟨h1,_⟩:=hg.stuck h0
   subst h1
   unfold Lo Up
   refine⟨by split<;>omega,by split<;>omega,fun _=>⟨fun _=>h0,fun _=>by omega⟩⟩
  ·have h1:=hg.low h0
   have h2:=hg.high h0
   unfold Lo Up at *
   refine⟨?_,?_,fun he=>⟨fun h3=>?_,fun h3=>absurd h3 h0⟩⟩
   ·split<;>split at h2<;>omega
   ·split<;>split at h1<;>omega
   ·exfalso
    rw[if_pos he] at h1
    omega
 obtain⟨s1,s2,s3⟩:=hs
 have hr:-29999 <= -sc /\ -sc<=30000:=by
  unfold Lo at s1
  unfold Up at s2
  constructor
  ·split at s1<;>omega
  ·split at s2<;>omega
 have hn:best = -60000->best < -sc:=fun h=>by omega
 have hex:∀ {best':Int},(e<=1->0<i->(best=29999 - (ply:Int) ↔ ∃ j,j<i /\ qIS b h s (M.getD j [])))->True:=fun _=>trivial
 refine⟨hr,fun hlt=>⟨fun h=>absurd h (Nat.succ_ne_zero _),fun _=>s1,fun _=>s2,fun _=>⟨_,_,rfl,hm,hg.play,hg.len⟩,fun _ he=>?_,fun _ he hq=>⟨_,_,rfl,(s3 he).1 hq⟩⟩,
  fun hge=>?_⟩
 ·rw[s3 he]
  constructor
  ·intro h1;exact⟨i,Nat.lt_succ_self i,by rw[hM];exact h1⟩
  ·intro ⟨j,hj,h1⟩
   by_cases hji:j=i
   ·subst hji;rwa [hM] at h1
   ·exfalso
    have hb:=(hB.mate (by omega) he).2 ⟨j,by omega,h1⟩
    have h2:Up (e+1) ply=29999 - (ply:Int):=by unfold Up;rw[if_neg (by omega)]
    omega
 ·have hi0:0<i:=by
   rcases Nat.eq_zero_or_pos i with h0 | h0
   ·exact absurd (hn (hB.none h0).1) hge
   ·exact h0
  refine⟨fun h=>absurd h (Nat.succ_ne_zero _),fun _=>hB.low hi0,fun _=>hB.high hi0,fun _=>hB.line hi0,fun _ he=>?_,fun _ he hq=>hB.first hi0 he hq⟩
  rw[hB.mate hi0 he]
  constructor
  ·intro ⟨j,hj,h1⟩;exact⟨j,by omega,h1⟩
  ·intro ⟨j,hj,h1⟩
   by_cases hji:j=i
   ·subst hji
    rw[hM] at h1
    have h2:=(s3 he).2 h1
    have h3:Up (e+1) ply=29999 - (ply:Int):=by unfold Up;rw[if_neg (by omega)]
    have h4:=hB.high hi0
    exact (hB.mate hi0 he).1 (by omega)
   ·exact⟨j,by omega,h1⟩
theorem qjQ (a b:Int):(bif false then bif decide (a<b) then a else b else bif decide (a>b) then a else b)=max b a:=by
 simp only[cond_false]
 cases hd:decide (a>b) with
 | true=>have:=of_decide_eq_true hd;simp only[cond_true];omega
 | false=>have:=of_decide_eq_false hd;simp only[cond_false];omega
theorem qjJ {self:Int->Int->Int->Int->Int->Int->Nat->Int->Int->Nat->Nat->List (List Int)->List Int->List Int->Int->List (List Int)->List (List Int)->Nat->List (List Int)->Option ((Int×Nat×Bool×Int×Int×Nat×Int×Int×Nat×Nat×List (List Int)×List Int×List Int×Int×List (List Int)×List (List Int)×Nat×List (List Int)×Nat×List (List Int))⊕(Int×Nat×Bool×Int×Int×Nat×Int×Int×Nat×Nat×List (List Int)×List Int×List Int×Int×List (List Int)×List (List Int)×Nat×List (List Int)×Nat×List (List Int)))}
  {e ply:Nat} (hself:qIe self e (ply+1)) (hply:e+1+ply<=64) {b h:List Int} {s:Int} (hp:PosP b h s) {M:List (List Int)} (hM:∀ m∈M,m∈lgL b h s) (hl:M.length<=100000) (x2 x3 bu:Int) (N n:Nat) (hn:n<=100+ply):
  ∀ (k i:Nat),i+k=M.length->∀ (best low nd u:Int) (L T:List (List Int)) (x:Nat) (st:List (List Int)),Best e ply b h s M i best L->low<=max x2 29999->TabI N T->n<=st.length->∀ F,
    ∃ (nd' u':Int) (T':List (List Int)) (x':Nat) (st':List (List Int)),st'.take n=st.take n /\ n<=st'.length /\ TabI N T' /\
      ((∃ a1 a2 a3 a4,qCc self (F+k+1) ((e+1:Nat):Int) ply x2 x3 best L.length low M.length M.length i nd bu N u (kof b h s) n N T b h s (qJ b) (qK b) x st L.length L M.length M =
          some (.inl (((e+1:Nat):Int),(ply:Int),x2,x3,0,0,false,a1,a2,nd',bu,N,u',kof b h s,n,N,T',b,h,s,qJ b,qK b,x',st',0,[],a3,a4))) \/
       (∃ best' L' i',qCc self (F+k+1) ((e+1:Nat):Int) ply x2 x3 best L.length low M.length M.length i nd bu N u (kof b h s) n N T b h s (qJ b) (qK b) x st L.length L M.length M =
          some (.inr (((e+1:Nat):Int),(ply:Int),x2,x3,best',L'.length,nd',bu,N,u',kof b h s,n,N,T',b,h,s,qJ b,qK b,x',st',L'.length,L')) /\
          Best e ply b h s M i' best' L' /\ i<=i' /\ (k≠0->0<i') /\ (i'=M.length \/ x3<=max x2 29999))):=by
 intro k
 induction k with
 | zero=>
   intro i hi best low nd u L T x st hB _ hT hst F
   refine⟨nd,u,T,x,st,rfl,hst,hT,.inr ⟨best,L,i,?_,hB,Nat.le_refl _,fun h=>absurd rfl h,.inl (by omega)⟩⟩
   rw[qCc.eq_2]
   unfold qL8
   rw[qZ (by omega)]
 | succ k ih=>
   intro i hi best low nd u L T x st hB hlow hT hst F
   have hil:i<M.length:=by omega
   have hm:=hM M[i] (List.getElem_mem hil)
   have hp2:=hp.after hm
   obtain⟨sc,ok,nd',u',T',x',st',L',hcall,h1,h2,h3,h4,_⟩:=hself (IntKind.wrap .i64 (0 - x3)) (IntKind.wrap .i64 (0 - low)) nd bu N u (n+1) T _ _ _ (n+1) (List.append (List.take n st) [qJQ b s M[i]]) hp2 hT (by rw[qj2 hst];omega) (by omega)
   have hnote:st'.getD n []=qJQ b s M[i]:=by rw[qdC h1 (by omega),qj1 hst]
   have htk:st'.take n=st.take n:=by
    have:=congrArg (List.take n) h1
    rwa [List.take_take,List.take_take,Nat.min_eq_left (by omega),qj3 hst] at this
   have hback:=hp.back hm n (by omega) x' st' hnote
   have body:qCc self (F+(k+1)+1) ((e+1:Nat):Int) ply x2 x3 best L.length low M.length M.length i nd bu N u (kof b h s) n N T b h s (qJ b) (qK b) x st L.length L M.length M =
     br (!ok) (some (.inl (((e+1:Nat):Int),(ply:Int),x2,x3,0,0,false,best,L.length,nd',bu,N,u',kof b h s,n,N,T',b,h,s,qJ b,qK b,x',st',0,[],L.length,L)))
      (br (decide (IntKind.wrap .i64 (0 - sc)>best))
       (br (decide ((1+L'.length)*32<=140737488355328))
        (br (decide (max low (IntKind.wrap .i64 (0 - sc)) >= x3))
         (some (.inr (((e+1:Nat):Int),(ply:Int),x2,x3,IntKind.wrap .i64 (0 - sc),1+L'.length,nd',bu,N,u',kof b h s,n,N,T',b,h,s,qJ b,qK b,x',st',1+L'.length,[m0 M[i],m1 M[i],m2 M[i],bi (m3 M[i])] :: List.take L'.length L')))
         (qCc self (F+k+1) ((e+1:Nat):Int) ply x2 x3 (IntKind.wrap .i64 (0 - sc)) (1+L'.length) (max low (IntKind.wrap .i64 (0 - sc))) M.length M.length ((i+1:Nat):Int) nd' bu N u' (kof b h s) n N T' b h s (qJ b) (qK b) x' st' (1+L'.length) ([m0 M[i],m1 M[i],m2 M[i],bi (m3 M[i])] :: List.take L'.length L') M.length M))
        none)
       (br (decide (max low best >= x3))
        (some (.inr (((e+1:Nat):Int),(ply:Int),x2,x3,best,L.length,nd',bu,N,u',kof b h s,n,N,T',b,h,s,qJ b,qK b,x',st',L.length,L)))
        (qCc self (F+k+1) ((e+1:Nat):Int) ply x2 x3 best L.length (max low best) M.length M.length ((i+1:Nat):Int) nd' bu N u' (kof b h s) n N T' b h s (qJ b) (qK b) x' st' L.length L M.length M))):=by
    rw[qCc.eq_2]
    unfold qL8
    rw[qf (by omega),qg (by omega) (by omega),tn,atL hil]
    simp only[hdM]
    rw[hp.make hm n (by omega),qA,qAk]
    simp only
    rw[w_s (n:=((e+1:Nat):Int) - 1) (by omega) (by omega),w_s (n:=(ply:Int)+1) (by omega) (by omega),show ((e+1:Nat):Int) - 1=(e:Int) by omega,show (ply:Int)+1=((ply+1:Nat):Int) by omega]
    rw[w_s (n:=(i:Int)+1) (by omega) (by omega)]
    simp only[qjQ]
    rcases hcall with hcall | hcall
    ·rw[hcall,qA,qGi]
     simp only
     rw[hback,qA]
     rfl
    ·rw[hcall,qA,qAk]
     simp only
     rw[hback,qA]
     rfl
   rw[body]
   cases ok with
   | false=>exact⟨nd',u',T',x',st',htk,by omega,h3,.inl ⟨_,_,_,_,rfl⟩⟩
   | true=>
     obtain⟨hr,hB1,hB2⟩:=hB.next hply hil hm (h4 rfl)
     have hw:IntKind.wrap .i64 (0 - sc) = -sc:=by rw[w_s (by omega) (by omega)];omega
     have hlen:L'.length<=64:=by have:=(h4 rfl).len;omega
     have hrow:([m0 M[i],m1 M[i],m2 M[i],bi (m3 M[i])] :: List.take L'.length L')=M[i] :: L':=by
      rw[<- (hp.full hm).1.1,List.take_length]
     simp only[Bool.not_true,b_f,hw,hrow,qi1 M[i] L']
     by_cases hlt:best < -sc
     ·have hB':=hB1 hlt
      rw[qD (by simpa using hlt),qD (by simp only[decide_eq_true_eq,List.length_cons];omega)]
      have hlow':max low (-sc)<=max x2 29999:=by
       have hh:=hB'.high (by omega)
       unfold Up at hh
       rw[if_neg (by omega)] at hh
       omega
      by_cases hcut:max low (-sc) >= x3
      ·rw[qD (by simpa using hcut)]
       exact⟨nd',u',T',x',st',htk,by omega,h3,.inr ⟨-sc,M[i] :: L',i+1,rfl,hB',by omega,fun _=>by omega,.inr (by omega)⟩⟩
      ·rw[qI (by simpa using hcut)]
       obtain⟨nd2,u2,T2,x2',st2,q1,q2,q3,q4⟩:=ih (i+1) (by omega) (-sc) (max low (-sc)) nd' u' (M[i] :: L') T' x' st' hB' hlow' h3 (by omega) F
       refine⟨nd2,u2,T2,x2',st2,by rw[q1,htk],q2,q3,?_⟩
       rcases q4 with q4 | ⟨b2,L2,i2,q5,q6,q7,q8,q9⟩
       ·exact .inl q4
       ·exact .inr ⟨b2,L2,i2,q5,q6,by omega,fun _=>by omega,q9⟩
     ·have hB':=hB2 hlt
      rw[qI (by simpa using hlt)]
      have hi0:0<i:=by
       rcases Nat.eq_zero_or_pos i with h0 | h0
       ·have:=(hB.none h0).1;omega
       ·exact h0
      have hlow':max low best<=max x2 29999:=by
       have hh:=hB'.high (by omega)
       unfold Up at hh
       rw[if_neg (by omega)] at hh
       omega
      by_cases hcut:max low best >= x3
      ·rw[qD (by simpa using hcut)]
       exact⟨nd',u',T',x',st',htk,by omega,h3,.inr ⟨best,L,i+1,rfl,hB',by omega,fun _=>by omega,.inr (by omega)⟩⟩
      ·rw[qI (by simpa using hcut)]
       obtain⟨nd2,u2,T2,x2',st2,q1,q2,q3,q4⟩:=ih (i+1) (by omega) best (max low best) nd' u' L T' x' st' hB' hlow' h3 (by omega) F
       refine⟨nd2,u2,T2,x2',st2,by rw[q1,htk],q2,q3,?_⟩
       rcases q4 with q4 | ⟨b2,L2,i2,q5,q6,q7,q8,q9⟩
       ·exact .inl q4
       ·exact .inr ⟨b2,L2,i2,q5,q6,by omega,fun _=>by omega,q9⟩
end Go.Kk.Pl
namespace Go.Kk.Pl
set_option maxRecDepth 100000
theorem qWk (self:Int->Int->Int->Int->Int->Int->Nat->Int->Int->Nat->Nat->List (List Int)->List Int->List Int->Int->List (List Int)->List (List Int)->Nat->List (List Int)->Option ((Int×Nat×Bool×Int×Int×Nat×Int×Int×Nat×Nat×List (List Int)×List Int×List Int×Int×List (List Int)×List (List Int)×Nat×List (List Int)×Nat×List (List Int))⊕(Int×Nat×Bool×Int×Int×Nat×Int×Int×Nat×Nat×List (List Int)×List Int×List Int×Int×List (List Int)×List (List Int)×Nat×List (List Int)×Nat×List (List Int)))) (x0:Int) (x1:Int) (x2:Int) (x3:Int) (x4:Int) (x5:Int) (x6:Nat) (x7:Int) (x8:Int) (x9:Nat) (x10:Nat) (x11:List (List Int)) (x12:List Int) (x13:List Int) (x14:Int) (x15:List (List Int)) (x16:List (List Int)) (x17:Nat) (x18:List (List Int)):qa1 self x0 x1 x2 x3 x4 x5 x6 x7 x8 x9 x10 x11 x12 x13 x14 x15 x16 x17 x18 =
 br (decide (x4 >= x5))
  (some (Sum.inl (0,0,false,x4,x5,x6,x7,x8,x9,x10,x11,x12,x13,x14,x15,x16,x17,x18,0,[])))
  (ob (qDY x12 x13 x14 x15 x16) fun (a19_0,a19_1,a19_2,a19_3,a19_4,a19_5,a19_6,a19_7)=>
  br (Int.ofNat a19_0==0)
   (some (Sum.inl (IntKind.wrap IntKind.i64 (x1 - 30000),0,true,IntKind.wrap IntKind.i64 (x4+1),x5,x6,x7,x8,x9,x10,x11,a19_1,a19_2,a19_3,a19_4,a19_5,x17,x18,0,[])))
   (br (x0 == 0)
    (ob (qIZ a19_1 a19_2 a19_3) fun a27=>
    some (Sum.inl (a27,0,true,IntKind.wrap IntKind.i64 (x4+1),x5,x6,x7,x8,x9,x10,x11,a19_1,a19_2,a19_3,a19_4,a19_5,x17,x18,0,[])))
    (ob (qD1 a19_1 a19_2 a19_3 x6 x7 x10 x11) fun (a27_0,a27_1,a27_2,a27_3,a27_4,a27_5,a27_6,a27_7)=>
    br (a27_7)
     (ob (qFa a27_1 (IntKind.wrap IntKind.i64 (0 - x1))) fun a35=>
     br (a27_0==x0)
      (br (decide (x1>0))
       (br (a27_2==0)
        (some (Sum.inl (a35,1,true,IntKind.wrap IntKind.i64 (x4+1),x5,x6,x7,x8,x9,x10,x11,a19_1,a19_2,a19_3,a19_4,a19_5,x17,x18,1,[[a27_3,a27_4,a27_5,bi a27_6]])))
        (br (a27_2==1)
         (br (decide (a35 >= x3))
          (some (Sum.inl (a35,1,true,IntKind.wrap IntKind.i64 (x4+1),x5,x6,x7,x8,x9,x10,x11,a19_1,a19_2,a19_3,a19_4,a19_5,x17,x18,1,[[a27_3,a27_4,a27_5,bi a27_6]])))
          (br (a27_2==2)
           (br (decide (a35<=x2))
            (some (Sum.inl (a35,1,true,IntKind.wrap IntKind.i64 (x4+1),x5,x6,x7,x8,x9,x10,x11,a19_1,a19_2,a19_3,a19_4,a19_5,x17,x18,1,[[a27_3,a27_4,a27_5,bi a27_6]])))
            (qCC self x0 x1 x2 x3 x4 x5 x6 x7 x8 x9 x10 x11 a19_1 a19_2 a19_3 a19_4 a19_5 x17 x18 a19_0 a19_6 a19_7 a27_3 a27_4 a27_5 a27_6))
           (qCC self x0 x1 x2 x3 x4 x5 x6 x7 x8 x9 x10 x11 a19_1 a19_2 a19_3 a19_4 a19_5 x17 x18 a19_0 a19_6 a19_7 a27_3 a27_4 a27_5 a27_6)))
         (br (a27_2==2)
          (br (decide (a35<=x2))
           (some (Sum.inl (a35,1,true,IntKind.wrap IntKind.i64 (x4+1),x5,x6,x7,x8,x9,x10,x11,a19_1,a19_2,a19_3,a19_4,a19_5,x17,x18,1,[[a27_3,a27_4,a27_5,bi a27_6]])))
           (qCC self x0 x1 x2 x3 x4 x5 x6 x7 x8 x9 x10 x11 a19_1 a19_2 a19_3 a19_4 a19_5 x17 x18 a19_0 a19_6 a19_7 a27_3 a27_4 a27_5 a27_6))
          (qCC self x0 x1 x2 x3 x4 x5 x6 x7 x8 x9 x10 x11 a19_1 a19_2 a19_3 a19_4 a19_5 x17 x18 a19_0 a19_6 a19_7 a27_3 a27_4 a27_5 a27_6))))
       (qCC self x0 x1 x2 x3 x4 x5 x6 x7 x8 x9 x10 x11 a19_1 a19_2 a19_3 a19_4 a19_5 x17 x18 a19_0 a19_6 a19_7 a27_3 a27_4 a27_5 a27_6))
      (qCC self x0 x1 x2 x3 x4 x5 x6 x7 x8 x9 x10 x11 a19_1 a19_2 a19_3 a19_4 a19_5 x17 x18 a19_0 a19_6 a19_7 a27_3 a27_4 a27_5 a27_6))
     (qHa self x0 x1 x2 x3 x4 x5 x6 x7 x8 x9 x10 x11 a19_1 a19_2 a19_3 a19_4 a19_5 x17 x18 a19_0 a19_6 a19_7)))):=rfl
def Ans (d ply:Nat) (x2 x3 bu:Int) (N n:Nat) (b h:List Int) (s:Int) (st:List (List Int)) (r:Option ((Int×Nat×Bool×Int×Int×Nat×Int×Int×Nat×Nat×List (List Int)×List Int×List Int×Int×List (List Int)×List (List Int)×Nat×List (List Int)×Nat×List (List Int))⊕(Int×Nat×Bool×Int×Int×Nat×Int×Int×Nat×Nat×List (List Int)×List Int×List Int×Int×List (List Int)×List (List Int)×Nat×List (List Int)×Nat×List (List Int)))):Prop:=
 ∃ (sc:Int) (ok:Bool) (nd' u':Int) (T':List (List Int)) (x':Nat) (st':List (List Int)) (L:List (List Int)),
   (r=some (.inl (sc,L.length,ok,nd',bu,N,u',kof b h s,n,N,T',b,h,s,qJ b,qK b,x',st',L.length,L)) \/
    r=some (.inr (sc,L.length,ok,nd',bu,N,u',kof b h s,n,N,T',b,h,s,qJ b,qK b,x',st',L.length,L))) /\
   st'.take n=st.take n /\ n<=st'.length /\ TabI N T' /\ (ok=true->Good d ply b h s sc L) /\ (ok=true->ply=0->x2 = -60000->x3=60000->(lgL b h s).length≠0->qIf d b h s sc L)
theorem qeg {e ply:Nat} (hply:e+1+ply<=64) {best:Int} (h0:Lo (e+1) ply<=best) (h1:best<=Up (e+1) ply):EOK ((e+1:Nat):Int) (av best ply):=by
 refine⟨e+1,rfl,by omega,by omega,?_,?_⟩
 ·unfold Lo at h0
  unfold av
  by_cases he:e+1=1
  ·rw[if_pos he]
   rw[if_pos (by omega)] at h0
   split
   ·omega
   ·split<;>omega
  ·rw[if_neg he]
   rw[if_neg (by omega)] at h0
   split
   ·omega
   ·split<;>omega
 ·unfold Up at h1
  rw[if_neg (by omega)] at h1
  unfold av
  split
  ·omega
  ·split<;>omega
theorem qlN {b h:List Int} {s:Int} {L:List (List Int)} {e:Nat} (hL:∃ m r,L=m :: r /\ m∈lgL b h s /\ qEk (mbM b s m) (mhM b h s m) (1 - s) r /\ r.length<=e):qEk b h s L /\ L.length<=e+1 /\ L≠[]:=by
 obtain⟨m,r,rfl,h1,h2,h3⟩:=hL
 exact⟨⟨h1,h2⟩,by rw[List.length_cons];omega,by simp⟩
theorem qO4 {self:Int->Int->Int->Int->Int->Int->Nat->Int->Int->Nat->Nat->List (List Int)->List Int->List Int->Int->List (List Int)->List (List Int)->Nat->List (List Int)->Option ((Int×Nat×Bool×Int×Int×Nat×Int×Int×Nat×Nat×List (List Int)×List Int×List Int×Int×List (List Int)×List (List Int)×Nat×List (List Int)×Nat×List (List Int))⊕(Int×Nat×Bool×Int×Int×Nat×Int×Int×Nat×Nat×List (List Int)×List Int×List Int×Int×List (List Int)×List (List Int)×Nat×List (List Int)×Nat×List (List Int)))} {e ply:Nat} (hself:qIe self e (ply+1)) (hply:e+1+ply<=64) {b h:List Int} {s:Int} (hp:PosP b h s) (h0:(lgL b h s).length≠0)
  {M:List (List Int)} (hM:∀ m,m∈M↔m∈lgL b h s) (hl:M.length=(lgL b h s).length) (x2 x3 nd bu:Int) {N:Nat} (u:Int) {n:Nat} (hn:n<=100+ply) {T:List (List Int)} (hT:TabI N T) (x:Nat) {st:List (List Int)} (hst:n<=st.length):
  Ans (e+1) ply x2 x3 bu N n b h s st (qHa self ((e+1:Nat):Int) ply x2 x3 nd bu N u (kof b h s) n N T b h s (qJ b) (qK b) x st M.length M.length M):=by
 have hlen:=qO1 b h s
 have hB:Best e ply b h s M 0 (-60000) []:=⟨fun _=>⟨rfl,rfl⟩,fun h=>absurd h (by omega),fun h=>absurd h (by omega),fun h=>absurd h (by omega),fun h=>absurd h (by omega),fun h=>absurd h (by omega)⟩
 obtain⟨g,hg⟩:=qd M.length (by omega)
 obtain⟨nd',u',T',x',st',q1,q2,q3,q4⟩:=qjJ hself hply hp (fun m hm=>(hM m).1 hm) (by omega) x2 x3 bu N n hn M.length 0 (by omega) (-60000) x2 (IntKind.wrap .i64 (nd+1)) u [] T x st hB (by omega) hT hst g
 rw[<- hg] at q4
 unfold qHa
 rcases q4 with⟨a1,a2,a3,a4,q4⟩ | ⟨best,L,i',q4,q5,_,q6,q7⟩
 ·refine⟨0,false,nd',u',T',x',st',[],.inr ?_,q1,q2,q3,(by intro h;cases h),(by intro h;cases h)⟩
  rw[show qCc self qC ((e+1:Nat):Int) ply x2 x3 (-60000) 0 x2 M.length (Int.ofNat M.length) 0 (IntKind.wrap .i64 (nd+1)) bu N u (kof b h s) n N T b h s (qJ b) (qK b) x st 0 [] M.length M=_ from q4,qA,qGi]
  rfl
 ·have hi':0<i':=q6 (by omega)
  have hlo:=q5.low hi'
  have hup:=q5.high hi'
  obtain⟨m,r,hL,hm,hpl,hrl⟩:=q5.line hi'
  subst hL
  obtain⟨p1,p2,p3⟩:=qlN ⟨m,r,rfl,hm,hpl,hrl⟩
  have hgood:Good (e+1) ply b h s best (m :: r):=⟨fun h=>absurd h h0,fun _=>hlo,fun _=>hup,p1,p2,fun _ _=>p3⟩
  have hmates:ply=0->x2 = -60000->x3=60000->qIf (e+1) b h s best (m :: r):=by
   intro hp0 hx2 hx3 he2 _
   subst hp0 hx2 hx3
   have hi2:i'=M.length:=by rcases q7 with h | h;exact h;omega
   refine⟨?_,fun hb=>?_⟩
   ·have:=q5.mate hi' (by omega)
    rw[show (29999:Int) - ((0:Nat):Int)=29999 by rfl] at this
    rw[this]
    constructor
    ·intro ⟨j,hj,hs⟩
     rw[atL (by omega)] at hs
     exact⟨_,(hM _).1 (List.getElem_mem (by omega)),hs⟩
    ·intro ⟨m',hm',hs⟩
     obtain⟨j,hj,he⟩:=List.getElem_of_mem ((hM m').2 hm')
     exact⟨j,by omega,by rw[atL hj,he];exact hs⟩
   ·exact q5.first hi' (by omega) (by rw[hb];rfl)
  have haway:qFa best ply=some (av best ply):=by
   unfold Lo at hlo
   unfold Up at hup
   rw[if_neg (by omega)] at hup
   exact qS6 (by split at hlo<;>omega) (by omega) (by omega) (by omega)
  have heok:=qeg hply hlo hup
  have key:∀ e2:Int,∃ u2 T2,qD2 b h s ((e+1:Nat):Int) (av best ply) e2 (m0 m) (m1 m) (m2 m) (m3 m) N u' N T'=some (N,u2,N,T2) /\ TabI N T2:=fun e2=>q3.put hp u' _ _ e2 hm heok
  have fin:∀ e2:Int,Ans (e+1) ply x2 x3 bu N n b h s st (ob (qD2 b h s ((e+1:Nat):Int) (av best ply) e2 (m0 m) (m1 m) (m2 m) (m3 m) N u' N T') fun (a0,a1,a2,a3)=>
    some (Sum.inr (best,(m :: r).length,true,nd',bu,a0,a1,kof b h s,n,a2,a3,b,h,s,qJ b,qK b,x',st',(m :: r).length,m :: r))):=by
   intro e2
   obtain⟨u2,T2,k1,k2⟩:=key e2
   rw[k1,qA]
   exact⟨best,true,nd',u2,T2,x',st',m :: r,.inr rfl,q1,q2,k2,fun _=>hgood,fun _ a b c _=>hmates a b c⟩
  rw[show qCc self qC ((e+1:Nat):Int) ply x2 x3 (-60000) 0 x2 M.length (Int.ofNat M.length) 0 (IntKind.wrap .i64 (nd+1)) bu N u (kof b h s) n N T b h s (qJ b) (qK b) x st 0 [] M.length M=_ from q4]
  rw[qA,qAk]
  simp only[hdM,List.getD_cons_zero]
  rw[haway,qA,qg (by omega) (by rw[List.length_cons];omega)]
  cases decide (best >= x3) with
  | true=>exact fin 1
  | false=>
    rw[b_f]
    cases decide (best<=x2) with
    | true=>exact fin 2
    | false=>exact fin 0
theorem qjF {self:Int->Int->Int->Int->Int->Int->Nat->Int->Int->Nat->Nat->List (List Int)->List Int->List Int->Int->List (List Int)->List (List Int)->Nat->List (List Int)->Option ((Int×Nat×Bool×Int×Int×Nat×Int×Int×Nat×Nat×List (List Int)×List Int×List Int×Int×List (List Int)×List (List Int)×Nat×List (List Int)×Nat×List (List Int))⊕(Int×Nat×Bool×Int×Int×Nat×Int×Int×Nat×Nat×List (List Int)×List Int×List Int×Int×List (List Int)×List (List Int)×Nat×List (List Int)×Nat×List (List Int)))} {e ply:Nat} (hself:qIe self e (ply+1)) (hply:e+1+ply<=64) {b h:List Int} {s:Int} (hp:PosP b h s) (h0:(lgL b h s).length≠0)
  (x2 x3 nd bu:Int) {N:Nat} (u:Int) {n:Nat} (hn:n<=100+ply) {T:List (List Int)} (hT:TabI N T) (x:Nat) {st:List (List Int)} (hst:n<=st.length) (f t d:Int) (p:Bool):
  Ans (e+1) ply x2 x3 bu N n b h s st (qCC self ((e+1:Nat):Int) ply x2 x3 nd bu N u (kof b h s) n N T b h s (qJ b) (qK b) x st (lgL b h s).length (lgL b h s).length (lgL b h s) f t d p):=by
 have hlen:=qO1 b h s
 have h4:∀ m∈lgL b h s,Mv4 m:=fun m hm=>(hp.full hm).1
 have base:=qO4 hself hply hp h0 (M:=lgL b h s) (fun m=>Iff.rfl) rfl x2 x3 nd bu u hn hT x hst
 unfold qCC
 rcases qhq h4 (by omega) f t d p with⟨j,h1,h2,h3⟩ | h3
 ·rw[h3,qA]
  by_cases hj:j=0
  ·subst hj
   rw[qI (by decide)]
   exact base
  ·rw[qD (by simp only[decide_eq_true_eq];omega),w_s (n:=(j:Int)+1) (by omega) (by omega),qD (qKs (by omega) (by omega)),qD (by
    have:Int.toNat ((j:Int)+1)=j+1:=by omega
    rw[this]
    simp only[Bool.true_and,decide_eq_true_eq,Int.ofNat_eq_natCast];omega),qD (qKs (by omega) (by omega)),qg (by omega) (by omega),qd2 (by omega) h1 (fun m hm=>by rw[(h4 m hm).1];rfl)]
   have:=qO4 hself hply hp h0 (M:=qGm (lgL b h s) j [f,t,d,bi p]) (fun m=>qd3 h2 m) (qSk h1) x2 x3 nd bu u hn hT x hst
   rw[qSk h1] at this
   exact this
 ·rw[h3,qA,qI (by decide)]
  exact base
theorem qjH : ∀ (d ply:Nat),d+ply<=64->∀ F,qIe (qBk (F+d+1)) d ply:=by
 intro d
 induction d with
 | zero=>
   intro ply hply F x2 x3 nd bu N u n T b h s x st hp hT hst hn
   show Ans 0 ply x2 x3 bu N n b h s st (qBk (F+0+1) ((0:Nat):Int) ply x2 x3 nd bu N u (kof b h s) n N T b h s (qJ b) (qK b) x st)
   rw[qBk.eq_2,qWk]
   by_cases hb:nd >= bu
   ·rw[qD (by simpa using hb)]
    exact⟨0,false,nd,u,T,x,st,[],.inl rfl,rfl,hst,hT,(by intro h;cases h),(by intro h;cases h)⟩
   rw[qI (by simpa using hb),hp.all,qA]
   simp only
   rw[qO0]
   by_cases h0:(lgL b h s).length=0
   ·rw[qD (by simpa using h0),w_s (n:=(ply:Int) - 30000) (by omega) (by omega)]
    exact⟨_,true,_,u,T,x,st,[],.inl rfl,rfl,hst,hT,fun _=>⟨fun _=>⟨rfl,rfl⟩,fun h=>absurd h0 h,fun h=>absurd h0 h,trivial,Nat.zero_le _,fun h=>absurd h0 h⟩,fun _ _ _ _ h=>absurd h0 h⟩
   ·obtain⟨v,hv,v0,v1⟩:=hp.value
    rw[qI (by simpa using h0),qD (by rfl),hv,qA]
    exact⟨v,true,_,u,T,x,st,[],.inl rfl,rfl,hst,hT,fun _=>⟨fun h=>absurd h h0,fun _=>by unfold Lo;rw[if_pos (by omega)];omega,fun _=>by unfold Up;rw[if_pos rfl];omega,trivial,Nat.zero_le _,fun _ h=>absurd h (by omega)⟩,
     fun _ _ _ _ _ _ h=>absurd h (by omega)⟩
 | succ e ih=>
   intro ply hply F x2 x3 nd bu N u n T b h s x st hp hT hst hn
   have hself:qIe (qBk (F+(e+1))) e (ply+1):=ih (ply+1) (by omega) F
   show Ans (e+1) ply x2 x3 bu N n b h s st (qBk (F+(e+1)+1) ((e+1:Nat):Int) ply x2 x3 nd bu N u (kof b h s) n N T b h s (qJ b) (qK b) x st)
   rw[qBk.eq_2,qWk]
   by_cases hb:nd >= bu
   ·rw[qD (by simpa using hb)]
    exact⟨0,false,nd,u,T,x,st,[],.inl rfl,rfl,hst,hT,(by intro h;cases h),(by intro h;cases h)⟩
   rw[qI (by simpa using hb),hp.all,qA]
   simp only
   rw[qO0]
   by_cases h0:(lgL b h s).length=0
   ·rw[qD (by simpa using h0),w_s (n:=(ply:Int) - 30000) (by omega) (by omega)]
    exact⟨_,true,_,u,T,x,st,[],.inl rfl,rfl,hst,hT,fun _=>⟨fun _=>⟨rfl,rfl⟩,fun h=>absurd h0 h,fun h=>absurd h0 h,trivial,Nat.zero_le _,fun h=>absurd h0 h⟩,fun _ _ _ _ h=>absurd h0 h⟩
   rw[qI (by simpa using h0),qI (by rw[beq_eq_false_iff_ne];omega)]
   rcases hT.get (b:=b) (h:=h) (s:=s) u with hget | ⟨e0,e1,e2,m,hget,hm,he⟩
   ·rw[hget,qA]
    simp only[b_f]
    exact qO4 hself hply hp h0 (fun _=>Iff.rfl) rfl x2 x3 nd bu u hn hT x hst
   ·have hX := qjF hself hply hp h0 x2 x3 nd bu u hn hT x hst (m0 m) (m1 m) (m2 m) (m3 m)
    obtain⟨dd,hd0,hd1,hd2,hd3,hd4⟩:=he
    have hw:IntKind.wrap .i64 (0 - (ply:Int)) = -(ply:Int):=by rw[w_s (by omega) (by omega)];omega
    have hlo1:-30000<=e1:=by split at hd3<;>omega
    rw[hget,qA]
    simp only[b_t]
    rw[hw,qS6 (x:=e1) (p:=-(ply:Int)) (by omega) (by omega) (by omega) (by omega),qA]
    by_cases hde:e0=((e+1:Nat):Int)
    ·rw [qD (by simpa using hde)]
     by_cases hpl:(ply:Int)>0
     ·rw [qD (by simpa using hpl)]
      have hRET:Ans (e+1) ply x2 x3 bu N n b h s st (some (Sum.inl (av e1 (-(ply:Int)),1,true,IntKind.wrap IntKind.i64 (nd+1),bu,N,u,kof b h s,n,N,T,b,h,s,qJ b,qK b,x,st,1,[[m0 m,m1 m,m2 m,bi (m3 m)]]))):=by
       have hde2:dd=e+1:=by omega
       subst hde2
       rw[<- (hp.full hm).1.1]
       refine⟨_,true,_,u,T,x,st,[m],.inl rfl,rfl,hst,hT,fun _=>⟨fun h=>absurd h h0,fun _=>?_,fun _=>?_,⟨hm,trivial⟩,by simp,fun _ _=>by simp⟩,fun _ h=>absurd h (by omega)⟩
       ·unfold Lo av
        by_cases hz:e+1<=1
        ·rw[if_pos hz]
         rw[if_pos (show e+1=1 by omega)] at hd3
         split
         ·omega
         ·split<;>omega
        ·rw[if_neg hz]
         rw[if_neg (by omega)] at hd3
         split
         ·omega
         ·split<;>omega
       ·unfold Up av
        rw[if_neg (show ¬ e+1=0 by omega)]
        split
        ·omega
        ·split<;>omega
      cases (e2==0) with
      | true=>exact hRET
      | false =>
        rw[b_f]
        cases (e2==1) with
        | true=>
          rw[b_t]
          cases decide (av e1 (-(ply:Int)) >= x3) with
          | true=>exact hRET
          | false=>
            rw[b_f]
            cases (e2==2) with
            | true=>
              rw[b_t]
              cases decide (av e1 (-(ply:Int))<=x2) with
              | true=>exact hRET
              | false=>exact hX
            | false=>exact hX
        | false=>
          rw[b_f]
          cases (e2==2) with
          | true=>
            rw[b_t]
            cases decide (av e1 (-(ply:Int))<=x2) with
            | true=>exact hRET
            | false=>exact hX
          | false=>exact hX
     ·rw[qI (by simpa using hpl)]
      exact hX
    ·rw[qI (by simpa using hde)]
     exact hX
end Go.Kk.Pl
namespace Go.Kk.Pl
def nm (m:List Int):List Int:=[m0 m,m1 m,m2 m,bi (m3 m)]
theorem nm0 (m:List Int):m0 (nm m)=m0 m:=rfl
theorem nm1 (m:List Int):m1 (nm m)=m1 m:=rfl
theorem nm2 (m:List Int):m2 (nm m)=m2 m:=rfl
theorem nm3 (m:List Int):m3 (nm m)=m3 m:=qEq (m3 m)
theorem qjy (b:List Int) (s:Int) (m:List Int):mbM b s (nm m)=mbM b s m:=by unfold mbM;rw[nm0,nm1,nm2,nm3]
theorem qjz (b h:List Int) (s:Int) (m:List Int):mhM b h s (nm m)=mhM b h s m:=by unfold mhM;rw[nm1,nm2]
def lg (b h:List Int) (s:Int) (m:List Int):Bool:=(lgL b h s).contains (nm m)
theorem qVV {b h:List Int} {s:Int} {m:List Int} (hm:lg b h s m=true):nm m∈lgL b h s:=by simpa[lg] using hm
theorem PosP.is {b h:List Int} {s:Int} (hp:PosP b h s) (m:List Int):qOu (m0 m) (m1 m) (m2 m) (m3 m) b h s (qJ b) (qK b)=some (lg b h s m,b,h,s,qJ b,qK b):=by
 obtain⟨hc,hs,hno,k,k',hk,hk'⟩:=qFI hp.len hp.zero
 exact qil hc h hs hk hk' _ _ _ _
theorem PosP.ris {b h:List Int} {s:Int} (hp:PosP b h s) (m:List Int):qGO b h s (m0 m) (m1 m) (m2 m) (m3 m)=some (lg b h s m):=by
 rw[qn9 hp.clean h hp.side,<- hp.lists]
 rfl
theorem PosP.next {b h:List Int} {s:Int} (hp:PosP b h s) {m:List Int} (hm:lg b h s m=true):PosP (mbM b s m) (mhM b h s m) (1 - s):=by
 have:=hp.after (qVV hm)
 rw[qjy,qjz] at this
 exact this
theorem PosP.rnext {b h:List Int} {s:Int} (hp:PosP b h s) {m:List Int} (hm:lg b h s m=true):qEU b h s (m0 m) (m1 m) (m2 m) (m3 m)=some (mbM b s m,mhM b h s m,1 - s):=by
 have:=hp.canP (qVV hm)
 rw[nm0,nm1,nm2,nm3] at this
 exact qPd hp.clean hp.side this
def zB:List Int:=[0,0,0,0,0,0,0,0,0,0,0,0,0,0,0,0,0,0,0,0,0,0,0,0,0,0,0,0,0,0,0,0,0,0,0,0,0,0,0,0,0,0,0,0,0,0,0,0,0,0,0,0,0,0,0,0,0,0,0,0,0,0,0,0,0,0,0,0,0,0,0,0,0,0,0,0,0,0,0,0,0]
end Go.Kk.Pl
namespace Go.Kk.Pl
set_option maxRecDepth 100000
structure LineI (b h:List Int) (s:Int) (dep:Nat) (sc:Int) (lo ln:Nat) (R:List (List Int)):Prop where
 play:qEk b h s ((R.drop lo).take ln)
 len:((R.drop lo).take ln).length=ln
 pos:0<ln
 le:ln<=max dep 1
 top:dep<=64
 r0:-30000<=sc
 r1:sc<=30000
 mates:0<dep->qIf dep b h s sc ((R.drop lo).take ln)
theorem LineI.first {b h:List Int} {s:Int} (h0:(lgL b h s).length≠0):LineI b h s 0 0 0 1 (lgL b h s):=by
 cases hL:lgL b h s with
 | nil=>rw[hL] at h0;exact absurd rfl h0
 | cons m r=>
   refine⟨?_,by simp,by omega,by omega,by omega,by omega,by omega,fun h=>absurd h (by omega)⟩
   show qEk b h s [m]
   exact⟨by rw[hL];simp,trivial⟩
theorem LineI.next {b h:List Int} {s:Int} (h0:(lgL b h s).length≠0) {d:Nat} (hd:0<d) (hd2:d<=64) {sc:Int} {L:List (List Int)} (hg:Good d 0 b h s sc L) (hm:qIf d b h s sc L):LineI b h s d sc 0 L.length L:=by
 have e:(L.drop 0).take L.length=L:=by simp
 have hlo:=hg.low h0
 have hup:=hg.high h0
 have hlive:=hg.live h0 hd
 have hlen:=hg.len
 refine⟨by rw[e];exact hg.play,by rw[e],?_,by omega,hd2,?_,?_,fun _=>by rw[e];exact hm⟩
 ·cases L with
  | nil=>exact absurd rfl hlive
  | cons m r=>simp
 ·unfold Lo at hlo
  split at hlo<;>omega
 ·unfold Up at hup
  split at hup<;>omega
theorem qPC (d:Int):(bif true then bif decide (64<d) then 64 else d else bif decide (64>d) then 64 else d)=min d 64:=by
 simp only[cond_true]
 cases hc:decide (64<d) with
 | true=>have:=of_decide_eq_true hc;simp only[cond_true];omega
 | false=>have:=of_decide_eq_false hc;simp only[cond_false];omega
theorem qq2 {b h:List Int} {s:Int} (hp:PosP b h s) (h0:(lgL b h s).length≠0) (dq bu:Int) (N K:Nat) (hK:K<=64) (hq:min dq 64=(K:Int)) (z0 z1:Int) (z2:Nat) (z3:Int) (z4:Bool) (nn:Int) (z5:Nat) (z6:List (List Int)):
  ∀ (k i:Nat),i+k=K+1->0<i->∀ (nd u:Int) (T:List (List Int)) (sc:Int) (lo ln:Nat) (x:Nat) (st:List (List Int)) (rn:Nat) (R:List (List Int)),TabI N T->LineI b h s (i - 1) sc lo ln R->∀ F,
    ∃ (nd' u':Int) (T':List (List Int)) (dep:Nat) (sc':Int) (lo' ln':Nat) (stop:Bool) (x':Nat) (st':List (List Int)) (rn':Nat) (R':List (List Int)),
      qCw (F+k+1) dq i nd bu N u N T (kof b h s) 0 z0 z1 z2 z3 z4 ((i:Int) - 1) sc lo ln nn false b h s (qJ b) (qK b) x st z5 z6 rn R =
       some (nd',bu,N,u',N,T',kof b h s,0,z0,z1,z2,z3,z4,(dep:Int),sc',lo',ln',nn,stop,b,h,s,qJ b,qK b,x',st',z5,z6,rn',R') /\ TabI N T' /\ LineI b h s dep sc' lo' ln' R' /\ (stop=false->dep=K \/ dep=i - 1 /\ K<i) /\ dep<=64:=by
 intro k
 induction k with
 | zero=>
   intro i hi hi0 nd u T sc lo ln x st rn R hT hL F
   refine⟨nd,u,T,i - 1,sc,lo,ln,false,x,st,rn,R,?_,hT,hL,fun _=>.inr ⟨rfl,by omega⟩,by omega⟩
   rw[qCw.eq_2]
   unfold qJo
   rw[qPC,hq,qGw (by omega),show (i:Int) - 1=((i - 1:Nat):Int) by omega]
 | succ k ih=>
   intro i hi hi0 nd u T sc lo ln x st rn R hT hL F
   obtain⟨g,hg⟩:=qd i (by omega)
   obtain⟨sc2,ok,nd2,u2,T2,x2,st2,L2,hcall,h1,h2,h3,h4,h5⟩:=qjH i 0 (by omega) g (-60000) 60000 nd bu N u 0 T b h s x st hp hT (Nat.zero_le _) (by omega)
   rw[<- hg] at hcall
   have body:qCw (F+(k+1)+1) dq i nd bu N u N T (kof b h s) 0 z0 z1 z2 z3 z4 ((i:Int) - 1) sc lo ln nn false b h s (qJ b) (qK b) x st z5 z6 rn R =
     br (!ok) (some (nd2,bu,N,u2,N,T2,kof b h s,0,z0,z1,z2,z3,z4,(i:Int) - 1,sc,lo,ln,nn,true,b,h,s,qJ b,qK b,x2,st2,z5,z6,rn,R))
      (qCw (F+k+1) dq ((i+1:Nat):Int) nd2 bu N u2 N T2 (kof b h s) 0 z0 z1 z2 z3 z4 (((i+1:Nat):Int) - 1) sc2 0 L2.length nn false b h s (qJ b) (qK b) x2 st2 z5 z6 L2.length L2):=by
    rw[qCw.eq_2]
    unfold qJo
    rw[qPC,hq,qIk (by omega),w_s (n:=(i:Int)+1) (by omega) (by omega),show (((i+1:Nat):Int) - 1)=(i:Int) by omega,show (i:Int)+1=((i+1:Nat):Int) by omega]
    rcases hcall with hcall | hcall
    ·rw[show qBk qC (i:Int) 0 (-60000) 60000 nd bu N u (kof b h s) 0 N T b h s (qJ b) (qK b) x st=_ from hcall,qA,qGi]
     rfl
    ·rw[show qBk qC (i:Int) 0 (-60000) 60000 nd bu N u (kof b h s) 0 N T b h s (qJ b) (qK b) x st=_ from hcall,qA,qAk]
     rfl
   rw[body]
   cases ok with
   | false=>
     refine⟨nd2,u2,T2,i - 1,sc,lo,ln,true,x2,st2,rn,R,?_,h3,hL,(by intro h;cases h),by omega⟩
     rw[Bool.not_false,b_t,show (i:Int) - 1=((i - 1:Nat):Int) by omega]
   | true=>
     rw[Bool.not_true,b_f]
     have hL2:=LineI.next h0 hi0 (by omega) (h4 rfl) (h5 rfl rfl rfl rfl h0)
     obtain⟨nd',u',T',dep,sc',lo',ln',stop,x',st',rn',R',q1,q2,q3,q4,q5⟩:=ih (i+1) (by omega) (by omega) nd2 u2 T2 sc2 0 L2.length x2 st2 L2.length L2 h3 hL2 F
     refine⟨nd',u',T',dep,sc',lo',ln',stop,x',st',rn',R',q1,q2,q3,fun h=>?_,q5⟩
     rcases q4 h with q | ⟨q,q'⟩
     ·exact .inl q
     ·exact .inl (by omega)
theorem qdD {b h:List Int} {s:Int} (hp:PosP b h s) (dq bu x5 x6:Int) {N:Nat} (u:Int) {T:List (List Int)} (hT:TabI N T):
  (qFZ b h s dq bu x5 x6 N u N T=some (.inl (0,-30000,0,0,false,0,bu,N,u,N,T,0,[])) /\ (lgL b h s).length=0) \/
  ((lgL b h s).length≠0 /\ ∃ (dep:Nat) (sc:Int) (lo ln:Nat) (nd:Int) (stop:Bool) (nd' u':Int) (T':List (List Int)) (rn:Nat) (R:List (List Int)),
   qFZ b h s dq bu x5 x6 N u N T=some (.inr ((dep:Int),sc,lo,ln,nd,stop,nd',bu,N,u',N,T',rn,R)) /\ TabI N T' /\ LineI b h s dep sc lo ln R /\ (stop=false->1<=dq->dq<=64->(dep:Int)=dq)):=by
 unfold qFZ
 rw[qhf hp.clean,qA]
 simp only
 rw[hp.all,qA]
 simp only
 rw[qO0]
 by_cases h0:(lgL b h s).length=0
 ·rw[qD (by simpa using h0)]
  exact .inl ⟨rfl,h0⟩
 ·rw [qI (by simpa using h0),qD (qKs (by omega) (by omega)),qD (by simp;omega)]
  refine .inr ⟨h0,?_⟩
  by_cases hd:dq<1
  ·obtain⟨g,hg⟩:=qd 0 (by omega)
   have e:qCw qC dq 1 0 bu N u N T (kof b h s) 0 0 0 0 0 false 0 0 0 1 0 false b h s (qJ b) (qK b) 0 [] 0 [] (lgL b h s).length (lgL b h s) =
     some (0,bu,N,u,N,T,kof b h s,0,0,0,0,0,false,((0:Nat):Int),0,0,1,0,false,b,h,s,qJ b,qK b,0,[],0,[],(lgL b h s).length,lgL b h s):=by
    rw[hg,qCw.eq_2]
    unfold qJo
    rw[qPC,qGw (by omega)]
    rfl
   rw[e,qA]
   exact⟨_,_,_,_,_,_,_,_,_,_,_,rfl,hT,LineI.first h0,fun _ h=>absurd h (by omega)⟩
  ·obtain⟨K,hK⟩:∃ K:Nat,min dq 64=(K:Int):=⟨(min dq 64).toNat,by omega⟩
   obtain⟨g,hg⟩:=qd K (by omega)
   obtain⟨nd',u',T',dep,sc',lo',ln',stop,x',st',rn',R',q1,q2,q3,q4,q5⟩:=qq2 hp h0 dq bu N K (by omega) hK 0 0 0 0 false 0 0 [] K 1 (by omega) (by omega) 0 u T 0 0 1 0 [] (lgL b h s).length (lgL b h s) hT (LineI.first h0) g
   rw[<- hg] at q1
   rw[show qCw qC dq 1 0 bu N u N T (kof b h s) 0 0 0 0 0 false 0 0 0 1 0 false b h s (qJ b) (qK b) 0 [] 0 [] (lgL b h s).length (lgL b h s)=_ from q1,qA]
   refine⟨dep,sc',lo',ln',_,stop,_,_,T',rn',R',rfl,q2,q3,fun hs h1 h2=>?_⟩
   rcases q4 hs with q | ⟨q,q'⟩
   ·omega
   ·omega
def qFs (r:List Int):Prop:=r.length=100 /\ ∀ i,i<98->-128<=r.getD i 0 /\ r.getD i 0<=127
def aB (r:List Int):List Int:=List.take 81 (List.take 100 r)
def aH (r:List Int):List Int:=List.take 16 (List.drop 81 (List.take 100 r))
theorem qFs.parts {r:List Int} (hr:qFs r):(aB r).length=81 /\ (aH r).length=16 /\ qAl (aH r):=by
 obtain⟨h1,h2⟩:=hr
 have e:List.take 100 r=r:=List.take_of_length_le (by omega)
 unfold aB aH
 rw[e]
 refine⟨by rw[List.length_take];omega,by rw[List.length_take,List.length_drop];omega,fun i=>?_⟩
 by_cases hi:i<16
 ·rw[List.getD_eq_getElem?_getD,List.getElem?_take_of_lt hi,List.getElem?_drop,<- List.getD_eq_getElem?_getD]
  exact h2 (81+i) (by omega)
 ·rw[List.getD_eq_getElem?_getD,List.getElem?_eq_none (by rw[List.length_take,List.length_drop];omega)]
  simp
theorem qi3 {b h:List Int} {s:Int} (hp:PosP b h s) {m:List Int} (hm:m∈lgL b h s):lg b h s m=true:=by
 unfold lg
 rw[show nm m=m from ((hp.full hm).1.1).symm]
 simpa using hm
theorem qjP (d:Int):(bif false then bif decide (1<d) then 1 else d else bif decide (1>d) then 1 else d)=max d 1:=by
 simp only[cond_false]
 cases hc:decide (1>d) with
 | true=>have:=of_decide_eq_true hc;simp only[cond_true];omega
 | false=>have:=of_decide_eq_false hc;simp only[cond_false];omega
end Go.Kk.Pl
namespace Go.Kk.Pl
set_option maxRecDepth 100000
theorem qgs:qK1=some true:=by kernel_rfl
theorem qqq {n:Nat} (h0:1<=n) (h1:n<=65536):qJ3 n=some (.inr (n,n,List.replicate n qIc)):=by
 unfold qJ3
 rw[qI (by simp;omega),qI (by simp;omega),qD (by simp),qD (by simp),qD (by simp;omega)]
 rfl
theorem qoc {n:Nat} (h0:1<=n) (h1:n<=65536):qGT n=some (.inr (n,n,List.replicate n qIc)):=by
 unfold qGT
 rw[qqq h0 h1,qA,qAk]
theorem qrl (lo N cap:Nat) (hN:N<=4) (xs:List (List Int)) (hx:∀ i,i<N->qFs (xs.getD (lo+i) [])):∀ (k i:Nat),i+k=N->∀ (x6 x7 u:Int) (T:List (List Int)),TabI 50 T->∀ F,
  ∃ (y6 y7 u':Int) (T':List (List Int)),qFB (F+k+1) lo N N i cap xs x6 x7 50 u 50 T=some (cap,xs,y6,y7,50,u',50,T') /\ TabI 50 T':=by
 intro k
 induction k with
 | zero=>
   intro i hi x6 x7 u T hT F
   refine⟨x6,x7,u,T,?_,hT⟩
   rw[qFB.eq_2]
   unfold qK3
   rw[qZ (by omega)]
 | succ k ih=>
   intro i hi x6 x7 u T hT F
   obtain⟨p1,p2,p3⟩:=(hx i (by omega)).parts
   obtain⟨sA,hsA⟩:∃ sA,List.headD (List.drop 16 (List.drop 81 (List.take 100 (List.getD xs (lo+i) [])))) 0=sA:=⟨_,rfl⟩
   have hck:=qXu (b:=aB (xs.getD (lo+i) [])) (h:=aH (xs.getD (lo+i) [])) p1 p3 (s:=sA)
   unfold aB aH at hck
   unfold aB at p1
   unfold aH at p2 p3
   have skip:=ih (i+1) (by omega) x6 x7 u T hT F
   rw[qFB.eq_2]
   unfold qK3
   rw[qf (by omega),qg (by omega) (by omega)]
   simp only[tn,hsA]
   rw[hck,qA,w_s (n:=(i:Int)+1) (by omega) (by omega),show (i:Int)+1=((i+1:Nat):Int) by omega]
   by_cases hz:qC0 (List.take 81 (List.take 100 (List.getD xs (lo+i) []))) (List.take 16 (List.drop 81 (List.take 100 (List.getD xs (lo+i) [])))) sA=0
   ·rw [qD (by simpa using hz)]
    generalize decide (List.headD (List.drop 1 (List.drop 16 (List.drop 81 (List.take 100 (List.getD xs (lo+i) []))))) 0<=3)=dd
    cases dd with
    | false=>exact skip
    | true=>
      rw[b_t]
      generalize List.headD (List.drop 1 (List.drop 16 (List.drop 81 (List.take 100 (List.getD xs (lo+i) []))))) 0=dq
      generalize (bif true then bif decide (300<List.headD (List.tail (List.drop 1 (List.drop 16 (List.drop 81 (List.take 100 (List.getD xs (lo+i) [])))))) 0) then 300 else List.headD (List.tail (List.drop 1 (List.drop 16 (List.drop 81 (List.take 100 (List.getD xs (lo+i) [])))))) 0 else bif decide (300>List.headD (List.tail (List.drop 1 (List.drop 16 (List.drop 81 (List.take 100 (List.getD xs (lo+i) [])))))) 0) then 300 else List.headD (List.tail (List.drop 1 (List.drop 16 (List.drop 81 (List.take 100 (List.getD xs (lo+i) [])))))) 0)=bu
      have hp:PosP _ _ _:=⟨p1,p3,p2,hz⟩
      rcases qdD hp dq bu x6 x7 u hT with⟨e,_⟩ | ⟨_,dep,sc,l,ln,nd,stop,nd',u',T',rn,R,e,hT',_⟩
      ·rw[e,qA,qGi]
       exact ih (i+1) (by omega) 0 bu u T hT F
      ·rw[e,qA,qAk]
       exact ih (i+1) (by omega) nd' bu u' T' hT' F
   ·rw[qI (by simpa using hz)]
    exact skip
theorem qrm (lo N cap:Nat) (hN:N<=4) (xs:List (List Int)) (hx:∀ i,i<N->qFs (xs.getD (lo+i) [])):
  ∃ (y6 y7 u:Int) (T:List (List Int)),qJG 50 lo N cap xs=some (.inr (y6,y7,50,u,50,T)) /\ TabI 50 T:=by
 unfold qJG
 have e:=qoc (n:=50) (by omega) (by omega)
 rw[show qGT 50=_ from e,qA,qAk]
 simp only
 obtain⟨g,hg⟩:=qd N (by omega)
 obtain⟨y6,y7,u',T',q1,q2⟩:=qrl lo N cap hN xs hx N 0 (by omega) 0 0 0 (List.replicate 50 qIc) (qqp (by omega) (by omega)) g
 rw[<- hg] at q1
 rw[show qFB qC lo N (Int.ofNat N) 0 cap xs 0 0 50 0 50 (List.replicate 50 qIc)=_ from q1,qA]
 exact⟨_,_,_,_,rfl,q2⟩
theorem qi9 (lo ln x2n:Nat) (hl:ln<=1000) (xs:List (List Int)) (dep sc nd:Int) (lo2 ln2:Nat) (stop:Bool) (rn:Nat) (R:List (List Int)):∀ (k i:Nat),i+k=ln->∀ (b h:List Int) (s:Int),PosP b h s->qEk b h s ((R.drop (lo+i)).take k)->((R.drop (lo+i)).take k).length=k->∀ F,
  qFA (F+k+1) lo ln ln i x2n xs dep sc lo2 ln2 nd stop b h s rn R=some (.inr (x2n,xs,dep,sc,lo2,ln2,nd,stop,rn,R)):=by
 intro k
 induction k with
 | zero=>
   intro i hi b h s hp _ _ F
   rw[qFA.eq_2]
   unfold qK0
   rw[qZ (by omega)]
 | succ k ih=>
   intro i hi b h s hp hpl hle F
   have hlt:lo+i<R.length:=by
    rw[List.length_take,List.length_drop] at hle;omega
   have hdr:(R.drop (lo+i)).take (k+1)=R[lo+i] :: (R.drop (lo+(i+1))).take k:=by
    rw[List.drop_eq_getElem_cons hlt]
    rfl
   rw[hdr] at hpl hle
   obtain⟨hm,hpl⟩:=hpl
   have hlg:=qi3 hp hm
   rw[qFA.eq_2]
   unfold qK0
   rw[qf (by omega),qg (by omega) (by omega),tn,atL hlt]
   simp only[hdM]
   rw[hp.ris,hlg,qA,Bool.not_true,b_f,hp.rnext hlg,qA]
   simp only
   rw[w_s (n:=(i:Int)+1) (by omega) (by omega),show (i:Int)+1=((i+1:Nat):Int) by omega]
   exact ih (i+1) (by omega) _ _ _ (hp.after hm) hpl (by simpa using hle) F
theorem qob (lo N cap:Nat) (xs:List (List Int)) (hx:∀ i,i<N->qFs (xs.getD (lo+i) [])) {b h:List Int} (s dq bq:Int) (hl:b.length=81) (hf:qAl h) (hh:h.length=16):qJE lo N cap xs b h s dq bq=some true:=by
 unfold qJE
 rw[qgs,qA]
 simp only[Bool.not_true,b_f]
 by_cases hN:Int.ofNat N>4
 ·rw[qD (by simpa using hN)]
 rw[qI (by simpa using hN)]
 have hN:N<=4:=by simp only[Int.ofNat_eq_natCast] at hN;omega
 by_cases hd:dq>3
 ·rw[qD (by simpa using hd)]
 rw[qI (by simpa using hd),qXu hl hf,qA]
 by_cases hz:qC0 b h s=0
 ·have hp:PosP b h s:=⟨hl,hf,hh,hz⟩
  rw[qu hz]
  obtain⟨y6,y7,u,T,q1,hT⟩:=qrm lo N cap hN xs hx
  rw[q1,qA,qAk]
  simp only
  generalize (bif true then bif decide (400<bq) then 400 else bq else bif decide (400>bq) then 400 else bq)=bu
  rcases qdD hp dq bu y6 y7 u hT with⟨e,_⟩ | ⟨_,dep,sc,l,ln,nd,stop,nd',u',T',rn,R,e,  hT',hL,_⟩
  ·rw[e,qA,qGi]
   simp only
   rw[qI (by rfl)]
   obtain⟨g,hg⟩:=qd 0 (by omega)
   have e2:qHQ qC 0 (Int.ofNat 0) 0 cap xs 0 (-30000) 0 0 false b h s 0 []=some (.inr (cap,xs,0,-30000,0,0,false,0,[])):=by
    rw[hg,qHQ.eq_2]
    unfold qOc
    rw[qZ (by decide)]
   rw[e2,qA,qAk]
   rfl
  ·have hln:=hL.le
   have htop:=hL.top
   have hlen:ln<=1000:=by omega
   rw[e,qA,qAk]
   simp only
   rw[qjP,qI (by simp only[decide_eq_false_iff_not,Int.ofNat_eq_natCast];omega)]
   obtain⟨g,hg⟩:=qd ln (by omega)
   have e2:=qi9 l ln cap hlen xs dep sc nd l ln stop rn R ln 0 (by omega) b h s hp hL.play hL.len g
   rw[<- hg] at e2
   rw[show qFA qC l ln (Int.ofNat ln) 0 cap xs dep sc l ln nd stop b h s rn R=_ from e2,qA,qAk]
   simp only
   have r0:=hL.r0
   have r1:=hL.r1
   rw[qD (by simp only[decide_eq_true_eq];omega)]
   simp only[Option.some.injEq,decide_eq_true_eq]
   omega
 ·rw[qq hz]
end Go.Kk.Pl
