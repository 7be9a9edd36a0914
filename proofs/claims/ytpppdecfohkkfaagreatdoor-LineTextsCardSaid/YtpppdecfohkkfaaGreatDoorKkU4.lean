/- What the program's functions come to, told plainly: the texts of this project that this claim leans on, cut down to what is used. -/
import Derived.Test.YtpppdecfohkkfaaGreatDoorKkU2
import Derived.Test.YtpppdecfohkkfaaGreatDoorKkU3
import Derived.Test.YtpppdecfohkkfaaGreatDoorKkU1
namespace Go.Kk.Pl
theorem qgZ (h:List Int) (s k:Nat) (hk:k<8):(List.take 8 (List.drop (s*7+s) h)).getD k 0=h.getD (s*8+k) 0:=by
 rw [List.getD_eq_getElem?_getD,List.getD_eq_getElem?_getD,List.getElem?_take,if_pos hk,List.getElem?_drop,show s*7+s+k=s*8+k by omega]
abbrev B64:=BitVec 64
def bv (n:Int):B64:=BitVec.ofInt 64 n
def un (x:B64):Int:=(x.toNat:Int)
theorem qBK (x:B64):bv (un x)=x:=by
 unfold bv un
 rw [BitVec.ofInt_natCast,BitVec.ofNat_toNat];simp
theorem qEV (a b:Int):qF .xor .u64 a b=un (bv a ^^^ bv b):=by
 show IntKind.wrap .u64 _=_
 have h:IntKind.wrap .u64 ((BitVec.ofInt 64 a ^^^ BitVec.ofInt 64 b).toNat:Int)=((BitVec.ofInt 64 a ^^^ BitVec.ofInt 64 b).toNat:Int):=
  qA5 (by show (0:Int)<=_;omega) (by show _<=(18446744073709551615:Int);have:=(BitVec.ofInt 64 a ^^^ BitVec.ofInt 64 b).isLt;omega)
 exact h
def pcB (q x:Int):B64:=bv ((qBy q x).getD 0)
def hnB (s k n:Int):B64:=bv ((qCW s k n).getD 0)
def sdB:B64:=bv (qCX.getD 0)
theorem qN6 (x:Int):∃ v:B64,qDO x=some (un v):=by
 unfold qDO
 rw [qEV]
 exact ⟨_,rfl⟩
theorem qRR {m:Option Int} (h:∃ v:B64,m=some (un v)):m=some (un (bv (m.getD 0))):=by
 obtain ⟨v,rfl⟩:=h
 simp [qBK]
theorem qJh {b:Bool} {x y:Option Int} (hx:∃ v:B64,x=some (un v)) (hy:∃ v:B64,y=some (un v)):∃ v:B64,br b x y=some (un v):=by cases b<;>assumption
theorem qXS {α:Type} {m:Option α} {k:α->Option Int} (hm:∃ v,m=some v) (hk:∀ a,m=some a->∃ v:B64,k a=some (un v)):∃ v:B64,ob m k=some (un v):=by
 obtain ⟨a,rfl⟩:=hm
 exact hk a rfl
theorem qU7 (q x:Int):qBy q x=some (un (pcB q x)):=qRR (by
 unfold qBy
 refine qXS (qVZ _) fun a _=>?_
 refine qJh ⟨0,rfl⟩ (qJh ⟨0,rfl⟩ (qJh ⟨0,rfl⟩ (qXS (qKe _) fun a ha=>?_)))
 obtain ⟨v,hv⟩:=qN6 _
 rw [hv] at ha
 cases ha
 exact ⟨v,rfl⟩)
theorem qU6 (s k n:Int):qCW s k n=some (un (hnB s k n)):=qRR (by
 have tail:∀ x:Int,∃ v:B64,(ob (qDO x) fun r=>some r)=some (un v):=fun x=>by
  obtain ⟨v,hv⟩:=qN6 x
  exact ⟨v,by rw [hv];rfl⟩
 unfold qCW
 repeat first | exact ⟨0,rfl⟩ | exact tail _ | apply qJh)
theorem qU8:qCX=some (un sdB):=qRR (by
 unfold qCX
 obtain ⟨v,hv⟩:=qN6 1048576
 exact ⟨v,by rw [hv];rfl⟩)
def qAT (b:List Int):Nat->B64
 | 0=>0
 | n+1=>qAT b n ^^^ pcB n (b.getD n 0)
def qBB (h:List Int) (s:Nat):Nat->B64
 | 0=>0
 | n+1=>qBB h s n ^^^ hnB s n (conv .i8 .i64 (h.getD (s*8+n) 0))
def qDM (h:List Int):B64:=qBB h 0 8 ^^^ qBB h 1 8
theorem qcM (a b:B64):a ^^^ (b ^^^ a)=b:=by rw [BitVec.xor_comm b a,<- BitVec.xor_assoc,BitVec.xor_self,BitVec.zero_xor]
theorem qeT:∀ (n:Nat) (q:Nat) (acc:B64) (b c d:List Int) (e:Int) (f:Nat),q+n=81->
  qDv (f+n+1) (un acc) b q c d e=some (un (acc ^^^ qAT b q ^^^ qAT b 81),c,d,e):=by
 intro n
 induction n with
 | zero=>
   intro q acc b c d e f hq
   have:q=81:=by omega
   subst this
   show qGq (qDv (f+0)) (un acc) b _ c d e=_
   unfold qGq
   rw [qE (by decide),BitVec.xor_assoc,BitVec.xor_self,BitVec.xor_zero]
 | succ n ih=>
   intro q acc b c d e f hq
   show qGq (qDv (f+n+1)) (un acc) b q c d e=_
   unfold qGq
   rw [qB (by simp;omega),qB (qAQ (by omega) (by omega))]
   simp only [cond_true,Int.toNat_natCast]
   rw [qU7]
   show qDv (f+n+1) (qF .xor .u64 (un acc) (un (pcB q (b.getD q 0)))) b (IntKind.wrap .i64 ((q:Int)+1)) c d e=_
   rw [qAb (by omega) (by omega),qEV,qBK,qBK]
   have:=ih (q+1) (acc ^^^ pcB q (b.getD q 0)) b c d e f (by omega)
   rw [Int.natCast_add] at this
   rw [show ((q:Int)+1)=(q:Int)+(1:Nat) from rfl,this]
   congr 3
   show acc ^^^ pcB q (b.getD q 0) ^^^ (qAT b q ^^^ pcB q (b.getD q 0)) ^^^ qAT b 81=_
   rw [BitVec.xor_assoc acc,qcM]
theorem qgd (s:Nat):∀ (n:Nat) (k:Nat) (acc:B64) (h x2:List Int) (x3:Int) (x6 x7:List Int) (x8:Int) (f:Nat),k+n=8->
  qDu (f+n+1) (un acc) s x2 x3 (List.take 8 (List.drop (s*7+s) h)) k x6 x7 x8=some (un (acc ^^^ qBB h s k ^^^ qBB h s 8),x2,x3,x6,x7,x8):=by
 intro n
 induction n with
 | zero=>
   intro k acc h x2 x3 x6 x7 x8 f hk
   have:k=8:=by omega
   subst this
   show qGp (qDu (f+0)) (un acc) s x2 x3 _ _ x6 x7 x8=_
   unfold qGp
   rw [qE (by decide),BitVec.xor_assoc,BitVec.xor_self,BitVec.xor_zero]
 | succ n ih=>
   intro k acc h x2 x3 x6 x7 x8 f hk
   show qGp (qDu (f+n+1)) (un acc) s x2 x3 _ k x6 x7 x8=_
   unfold qGp
   rw [qB (by simp;omega),qB (qAQ (by omega) (by omega))]
   simp only [cond_true,Int.toNat_natCast]
   rw [qgZ h s k (by omega),qU6]
   show qDu (f+n+1) (qF .xor .u64 (un acc) (un (hnB s k (conv .i8 .i64 (h.getD (s*8+k) 0))))) s x2 x3 _ (IntKind.wrap .i64 ((k:Int)+1)) x6 x7 x8=_
   rw [qAb (by omega) (by omega),qEV,qBK,qBK]
   have:=ih (k+1) (acc ^^^ hnB s k (conv .i8 .i64 (h.getD (s*8+k) 0))) h x2 x3 x6 x7 x8 f (by omega)
   rw [Int.natCast_add] at this
   rw [show ((k:Int)+1)=(k:Int)+(1:Nat) from rfl,this]
   congr 3
   show acc ^^^ hnB s k (conv .i8 .i64 (h.getD (s*8+k) 0)) ^^^ (qBB h s k ^^^ hnB s k (conv .i8 .i64 (h.getD (s*8+k) 0))) ^^^ qBB h s 8=_
   rw [BitVec.xor_assoc acc,qcM]
theorem qgf (acc:B64) (h c:List Int) (e:Int):qCr qD (un acc) h 0 c h e=some (un (acc ^^^ qDM h),c,h,e):=by
 obtain ⟨f,hf⟩:=ql 2 (by omega)
 obtain ⟨g,hg⟩:=ql 8 (by omega)
 have step:∀ (s:Nat) (hs:s<2) (acc:B64) (f:Nat),qCr (f+1) (un acc) h s c h e=qCr f (un (acc ^^^ qBB h s 8)) h (s+1:Nat) c h e:=by
  intro s hs acc f
  show qGr (qCr f) (un acc) h s c h e=_
  unfold qGr
  rw [qB (by simp;omega),qB (qAQ (by omega) (by omega)),hg]
  show ob (qDu (g+8+1) (un acc) s h s (List.take 8 (List.drop (Int.toNat s*7+Int.toNat s) h)) (0:Nat) c h e) _=_
  rw [Int.toNat_natCast,qgd s 8 0 acc h h s c h e g (by omega)]
  show qCr f (un (acc ^^^ 0 ^^^ qBB h s 8)) h (IntKind.wrap .i64 ((s:Int)+1)) c h e=_
  have z:acc ^^^ (0:B64)=acc:=by simp
  rw [qAb (by omega) (by omega),z]
  rfl
 rw [hf]
 have e1:=step 0 (by omega) acc (f+2)
 have e2:=step 1 (by omega) (acc ^^^ qBB h 0 8) (f+1)
 rw [show f+2+1=f+2+1 from rfl,show (0:Int)=((0:Nat):Int) from rfl,e1]
 rw [show f+2=f+1+1 from rfl,e2]
 show qGr (qCr f) _ h 2 c h e=_
 unfold qGr
 rw [qE (by decide),BitVec.xor_assoc]
 rfl
def qAR (b h:List Int) (s:Int):B64:=bif s==1 then qAT b 81 ^^^ qDM h ^^^ sdB else qAT b 81 ^^^ qDM h
theorem qgy (b h:List Int) (s:Int):qGo b h s=some (un (qAR b h s)):=by
 obtain ⟨g,hg⟩:=ql 81 (by omega)
 have e2:qDv qD 0 b 0 b h s=some (un (qAT b 81),b,h,s):=by
  rw [hg]
  have:=qeT 81 0 0 b b h s g (by omega)
  rw [show (0:B64) ^^^ qAT b 0 ^^^ qAT b 81=qAT b 81 by show (0:B64) ^^^ 0 ^^^ _=_;simp] at this
  exact this
 unfold qGo
 rw [e2]
 show ob (qCr qD (un (qAT b 81)) h 0 b h s) _=_
 rw [qgf]
 show br (s==1) (ob qCX fun r10=>some (qF .xor .u64 (un (qAT b 81 ^^^ qDM h)) r10)) (some (un (qAT b 81 ^^^ qDM h)))=_
 unfold qAR
 cases hs:s==1
 ·rfl
 ·rw [qU8]
  show some (qF .xor .u64 _ _)=_
  rw [qEV,qBK,qBK]
  rfl
theorem qdc (b:List Int) (i:Nat) (x:Int) (hi:i<b.length):∀ n,qAT (b.set i x) n=if i<n then qAT b n ^^^ pcB i (b.getD i 0) ^^^ pcB i x else qAT b n:=by
 intro n
 induction n with
 | zero=>rfl
 | succ n ih=>
   show qAT (b.set i x) n ^^^ pcB n ((b.set i x).getD n 0)=_
   rw [ih]
   rcases Nat.lt_trichotomy i n with h | h | h
   ·rw [if_pos h,if_pos (by omega)]
    have:(b.set i x).getD n 0=b.getD n 0:=by
     rw [List.getD_eq_getElem?_getD,List.getD_eq_getElem?_getD,List.getElem?_set_ne (by omega)]
    rw [this]
    show qAT b n ^^^ pcB i (b.getD i 0) ^^^ pcB i x ^^^ pcB n (b.getD n 0)=qAT b n ^^^ pcB n (b.getD n 0) ^^^ pcB i (b.getD i 0) ^^^ pcB i x
    ac_rfl
   ·subst h
    rw [if_neg (by omega),if_pos (by omega)]
    have:(b.set i x).getD i 0=x:=by
     rw [List.getD_eq_getElem?_getD,List.getElem?_set_self hi];rfl
    rw [this]
    show qAT b i ^^^ pcB i x=qAT b i ^^^ pcB i (b.getD i 0) ^^^ pcB i (b.getD i 0) ^^^ pcB i x
    rw [BitVec.xor_assoc (qAT b i),BitVec.xor_self,BitVec.xor_zero]
   ·rw [if_neg (by omega),if_neg (by omega)]
    have:(b.set i x).getD n 0=b.getD n 0:=by
     rw [List.getD_eq_getElem?_getD,List.getD_eq_getElem?_getD,List.getElem?_set_ne (by omega)]
    rw [this]
    rfl
theorem qUy (h:List Int) (s0 k0:Nat) (x:Int) (hk:k0<8) (hi:s0*8+k0<h.length) (s:Nat):∀ n,n<=8->qBB (h.set (s0*8+k0) x) s n =
  if s=s0 /\ k0<n then qBB h s n ^^^ hnB s0 k0 (conv .i8 .i64 (h.getD (s0*8+k0) 0)) ^^^ hnB s0 k0 (conv .i8 .i64 x) else qBB h s n:=by
 intro n
 induction n with
 | zero=>intro _;rw [if_neg (by omega)];rfl
 | succ n ih=>
   intro hn
   show qBB (h.set (s0*8+k0) x) s n ^^^ hnB s n (conv .i8 .i64 ((h.set (s0*8+k0) x).getD (s*8+n) 0))=_
   rw [ih (by omega)]
   by_cases hq:s*8+n=s0*8+k0
   ·have e1:s=s0:=by omega
    have e2:n=k0:=by omega
    subst e1
    subst e2
    rw [if_neg (by omega),if_pos (by omega)]
    have:(h.set (s*8+n) x).getD (s*8+n) 0=x:=by
     rw [List.getD_eq_getElem?_getD,List.getElem?_set_self hi];rfl
    rw [this]
    show qBB h s n ^^^ hnB s n (conv .i8 .i64 x)=qBB h s n ^^^ hnB s n (conv .i8 .i64 (h.getD (s*8+n) 0)) ^^^ hnB s n (conv .i8 .i64 (h.getD (s*8+n) 0)) ^^^ hnB s n (conv .i8 .i64 x)
    rw [BitVec.xor_assoc (qBB h s n),BitVec.xor_self,BitVec.xor_zero]
   ·have:(h.set (s0*8+k0) x).getD (s*8+n) 0=h.getD (s*8+n) 0:=by
     rw [List.getD_eq_getElem?_getD,List.getD_eq_getElem?_getD,List.getElem?_set_ne (by omega)]
    rw [this]
    by_cases hc:s=s0 /\ k0<n
    ·rw [if_pos hc,if_pos (by omega)]
     show _=qBB h s n ^^^ hnB s n (conv .i8 .i64 (h.getD (s*8+n) 0)) ^^^ _ ^^^ _
     ac_rfl
    ·rw [if_neg hc,if_neg (by omega)]
     rfl
theorem qge (h:List Int) (s0 k0:Nat) (x:Int) (hs:s0<2) (hk:k0<8) (hh:h.length=16):
  qDM (h.set (s0*8+k0) x)=qDM h ^^^ hnB s0 k0 (conv .i8 .i64 (h.getD (s0*8+k0) 0)) ^^^ hnB s0 k0 (conv .i8 .i64 x):=by
 unfold qDM
 rw [qUy h s0 k0 x hk (by omega) 0 8 (Nat.le_refl _),qUy h s0 k0 x hk (by omega) 1 8 (Nat.le_refl _)]
 have:s0=0 \/ s0=1:=by omega
 rcases this with rfl | rfl
 ·rw [if_pos (by omega),if_neg (by omega)];ac_rfl
 ·rw [if_neg (by omega),if_pos (by omega)];ac_rfl
theorem qKG (b h:List Int) (s:Int):kof b h s=un (qAR b h s):=by unfold kof;rw [qgy];rfl
theorem qVa (q x:Int):kp q x=un (pcB q x):=by unfold kp;rw [qU7];rfl
theorem qVY (s k n:Int):kh s k n=un (hnB s k n):=by unfold kh;rw [qU6];rfl
theorem qhY:qIO=un sdB:=by unfold qIO;rw [qU8];rfl
theorem qkO {q x:Int} (h:kd x=0):pcB q x=pcB q 0:=by
 have e:∀ y,kd y=0->qBy q y=some 0:=by
  intro y hy
  unfold qBy
  rw [qBn,qA,hy]
  rfl
 unfold pcB
 rw [e x h,e 0 qEr]
theorem qg4 {b:List Int} (hl:b.length=81) {q:Int} (hq:0<=q /\ q<81) (x:Int) (h:List Int) (s:Int):qAR (put b q x) h s=qAR b h s ^^^ pcB q (at_ b q) ^^^ pcB q x:=by
 have e:pcB q (if kd x=0 then 0 else x)=pcB q x:=by
  split
  ·rename_i h;exact (qkO h).symm
  ·rfl
 unfold qAR put at_
 rw [if_pos hq,if_pos hq]
 revert e
 generalize (if kd x=0 then 0 else x)=y
 intro e
 have qu:=qdc b q.toNat y (by omega) 81
 rw [if_pos (show q.toNat<81 by omega),show ((q.toNat:Nat):Int)=q by omega,e] at qu
 rw [qu]
 cases s==1<;>simp only [cond_true,cond_false]<;>ac_rfl
theorem qg3 {h:List Int} (hh:h.length=16) {s k:Int} (hs:s=0 \/ s=1) (k0:0<=k) (k1:k<8) (d:Int) (b:List Int) (S:Int):
  qAR b (qu h s k d) S=qAR b h S ^^^ hnB s k (hd_ h s k) ^^^ hnB s k (IntKind.wrap .i8 (hd_ h s k+d)):=by
 have e2:∀ x,conv .i8 .i64 x=x:=fun _=>rfl
 have hset':=qge h s.toNat k.toNat (IntKind.wrap .i8 (hd_ h s k+d)) (by omega) (by omega) hh
 rw [e2,e2,show ((s.toNat:Nat):Int)=s by omega,show ((k.toNat:Nat):Int)=k by omega] at hset'
 unfold qAR qu
 rw [hset']
 unfold hd_
 cases S==1<;>simp only [cond_true,cond_false]<;>ac_rfl
theorem qg5 {s:Int} (hs:s=0 \/ s=1) (b h:List Int):qAR b h (1 - s)=qAR b h s ^^^ sdB:=by
 rcases hs with rfl | rfl
 ·rfl
 ·show qAT b 81 ^^^ qDM h=qAT b 81 ^^^ qDM h ^^^ sdB ^^^ sdB
  rw [BitVec.xor_assoc _ sdB,BitVec.xor_self,BitVec.xor_zero]
theorem qGs {b:List Int} (hl:b.length=81) {q:Int} (hq:0<=q /\ q<81) (x:Int) (h:List Int) (s:Int):qCC (un (qAR b h s)) b q x=un (qAR (put b q x) h s):=by
 unfold qCC
 rw [qVa,qVa,qEV,qEV,qBK,qBK,qBK,qBK,qg4 hl hq,BitVec.xor_assoc]
theorem qOK {h:List Int} (hh:h.length=16) {s k:Int} (hs:s=0 \/ s=1) (k0:0<=k) (k1:k<8) {d:Int} (b:List Int) (S:Int) (r0:-128<=hd_ h s k+d) (r1:hd_ h s k+d<=127):
  qEt (un (qAR b h S)) h s k d=un (qAR b (qu h s k d) S):=by
 unfold qEt
 rw [qVY,qVY,qEV,qEV,qBK,qBK,qBK,qBK,qg3 hh hs k0 k1,BitVec.xor_assoc,qAb (by omega) (by omega),qFH r0 r1]
theorem qKK {s:Int} (hs:s=0 \/ s=1) (b h:List Int):qKJ (un (qAR b h s))=un (qAR b h (1 - s)):=by
 unfold qKJ
 rw [qhY,qEV,qBK,qBK,qg5 hs]
theorem qin {b h:List Int} {s:Int} (hS:Sound b h s) (hf:qBI h) (hh:h.length=16) {f t d:Int} {p:Bool} (hP:CanP b h s f t d p):
  qG9 (kof b h s) b h s f t d p=kof (mb b s f t d p) (mh b h s t d) (1 - s):=by
 rw [qKG,qKG]
 unfold qG9 mb mh
 by_cases hd:d=0
 ·obtain ⟨f0,f1,f2,g1,g2,g3,g4⟩:=hP.move hd
  simp only [if_neg (show ¬ (d≠0) from fun h=>h hd)]
  rw [qGs hS.clean.len ⟨f0,f1⟩,qGs (hS.clean.put f 0).len hP.to_]
  by_cases ht:at_ b t=0
  ·simp only [if_pos ht]
   rw [qKK hS.side]
  ·have hk:=(hS.clean.at_ t).resolve_left ht
   obtain ⟨r1,r2⟩:=qIm hk g3
   have hc:=hS.counts _ r1 r2
   have h0:=hS.hands (rw_ (kd (at_ b t))) (by omega) r2
   have hsd:=hS.side
   simp only [if_neg ht]
   rw [qOK hh hS.side (by omega) r2 _ _ (by rcases hsd with rfl | rfl<;>omega) (by rcases hsd with rfl | rfl<;>omega),qKK hS.side]
 ·obtain ⟨d0,d1,d2,d3,g1,g2⟩:=hP.drop hd
  have hb:=qGY hf s d
  simp only [if_pos (show d≠0 from hd)]
  rw [qOK hh hS.side (by omega) d1 _ _ (by omega) (by omega),qGs hS.clean.len hP.to_,qKK hS.side]
end Go.Kk.Pl
namespace Go.Kk.Pl
structure Going (b h:List Int) (s:Int):Prop where
 sound:Sound b h s
 fits:qBI h
 len:h.length=16
end Go.Kk.Pl
namespace Go.Kk.Pl
theorem qS8 {b c:List Int} (hb:b.length=81) (hc:c.length=81) (h:∀ q,0<=q->q<81->at_ b q=at_ c q):b=c:=by
 refine List.ext_getElem (by rw [hb,hc]) fun j h1 h2=>?_
 have:=h j (by omega) (by omega)
 unfold at_ at this
 rw [if_pos (by omega),if_pos (by omega),Int.toNat_natCast,List.getD_eq_getElem?_getD,List.getD_eq_getElem?_getD,List.getElem?_eq_getElem h1,List.getElem?_eq_getElem h2] at this
 exact this
theorem qTa {b:List Int} (hc:Clean b) (q:Int):(if kd (at_ b q)=0 then 0 else at_ b q)=at_ b q:=by
 rcases hc.at_ q with h | h
 ·rw [h];rfl
 ·rw [if_neg h]
theorem qdL {b:List Int} (hc:Clean b) {t:Int} (ht:0<=t /\ t<81) (h0:at_ b t=0) (x:Int):put (put b t x) t 0=b:=by
 refine qS8 ((hc.put _ _).put _ _).len hc.len fun q q0 q1=>?_
 rw [qC9 (hc.put _ _).len ht,qC9 hc.len ht]
 split
 ·rename_i e;subst e;rw [h0];rfl
 ·rfl
theorem qdN {b:List Int} (hc:Clean b) {f t:Int} (hf:0<=f /\ f<81) (ht:0<=t /\ t<81) (x:Int):put (put (put (put b f 0) t x) t (at_ b t)) f (at_ b f)=b:=by
 have c1:=hc.put f 0
 have c2:=c1.put t x
 have c3:=c2.put t (at_ b t)
 refine qS8 (c3.put _ _).len hc.len fun q q0 q1=>?_
 rw [qC9 c3.len hf,qC9 c2.len ht,qC9 c1.len ht,qC9 hc.len hf,qTa hc,qTa hc]
 split
 ·rename_i e;subst e;rfl
 ·split
  ·rename_i e;subst e;rfl
  ·rfl
theorem qN0 {h:List Int} (hl:h.length=16) {s k:Int} (hs:s=0 \/ s=1) (k0:0<=k) (k1:k<8) {d:Int} (r0:-128<=hd_ h s k /\ hd_ h s k<=127) (r1:-128<=hd_ h s k+d /\ hd_ h s k+d<=127):
  qu (qu h s k d) s k (-d)=h:=by
 have e:=qEp hl hs k0 k1 d hs k0 k1
 rw [if_pos ⟨rfl,rfl⟩,qFH r1.1 r1.2] at e
 rw [show qu (qu h s k d) s k (-d)=(qu h s k d).set (s.toNat*8+k.toNat) (IntKind.wrap .i8 (hd_ (qu h s k d) s k+-d)) from rfl,e,show hd_ h s k+d+-d=hd_ h s k by omega,qFH r0.1 r0.2]
 have hi:s.toNat*8+k.toNat<h.length:=by rcases hs with rfl | rfl<;>simp<;>omega
 have hg:hd_ h s k=h[s.toNat*8+k.toNat]:=by
  unfold hd_
  rw [List.getD_eq_getElem?_getD,List.getElem?_eq_getElem hi]
  rfl
 unfold qu
 rw [List.set_set,hg,List.set_getElem_self]
end Go.Kk.Pl
namespace Go.Kk.Pl
theorem qGj {b:List Int} (hc:Clean b) (q x K:Int) (n:Nat) (h:List Int) (s:Int) (m:Nat) (st:List (List Int)):
  qBw q x K n b h s (qS b) (qU b) m st=some (qCC K b q x,n,put b q x,h,s,qS (put b q x),qU (put b q x),m,st):=by
 unfold qBw
 simp only [qCk,qA,qhX,qYL hc]
 rfl
theorem qie {b:List Int} (hc:Clean b) (h:List Int) {s:Int} (hs:s=0 \/ s=1) (f t d:Int) (p:Bool):∃ c,(∀ K n m st,qDo f t d p K n b h s (qS b) (qU b) m st=some c) /\
  ((c=false /\ ∀ K n m st,qEg f t d p K n b h s (qS b) (qU b) m st=some (.inl (false,K,n,b,h,s,qS b,qU b,m,st))) \/
   (c=true /\ CanP b h s f t d p /\ ∀ K n m st,(n+1)*40<=140737488355328->qEg f t d p K n b h s (qS b) (qU b) m st =
    some (.inr (true,qG9 K b h s f t d p,n+1,mb b s f t d p,mh b h s t d,1 - s,qS (mb b s f t d p),qU (mb b s f t d p),n+1,List.append (List.take n st) [[f,t,d,bi p,at_ b t,was b s f d]])))):=by
 obtain ⟨c,hcan,hP⟩:=qef b h hs f t d p
 refine ⟨c,fun K n m st=>hcan K n _ _ m st,?_⟩
 cases c with
 | false=>
   refine .inl ⟨rfl,fun K n m st=>?_⟩
   unfold qEg
   rw [hcan,qA,qB (by rfl)]
 | true=>
   have hP:=hP rfl
   refine .inr ⟨rfl,hP,fun K n m st hn=>?_⟩
   have hn':decide ((n+1)*40<=140737488355328)=true:=by simpa using hn
   unfold qEg
   rw [hcan,qA,qE (by rfl),qCk,qA]
   by_cases hd:d=0
   ·obtain ⟨f0,f1,f2,g1,g2,g3,g4⟩:=hP.move hd
    rw [qE (by simpa using hd),qCk,qA]
    have hx:∀ {α:Type} (k:Int->Option α),(br p (ob (q9 (at_ b f)) fun a16=>ob (qCb a16) fun a17=>ob (qAh s a17) k) (k (at_ b f)))=k (laid b s f d p):=by
     intro α k
     unfold laid
     rw [if_neg (by simpa using hd)]
     cases p with
     | false=>rfl
     | true=>
       obtain ⟨u1,u2,u3⟩:=qHs (g4 rfl)
       rw [qB rfl,qBn,qA,qJA,qA,qKm hs u1 u2 u3,qA,if_pos rfl]
    have p1:=qGj hc f 0 K n h s m st
    have p2:=qGj (hc.put f 0) t (laid b s f d p) (qCC K b f 0) n h s m st
    have tail:(br (at_ b t != 0)
      (ob (q9 (at_ b t)) fun a37=>
      ob (qCw a37) fun a38=>
      ob (qDI s a38 1 (qCC (qCC K b f 0) (put b f 0) t (laid b s f d p)) n (put (put b f 0) t (laid b s f d p)) h s (qS (put (put b f 0) t (laid b s f d p))) (qU (put (put b f 0) t (laid b s f d p))) m st) fun (a39_0,a39_1,a39_2,a39_3,a39_4,a39_5,a39_6,a39_7,a39_8)=>
      ob (qCP a39_0 a39_1 a39_2 a39_3 a39_4 a39_5 a39_6 a39_7 a39_8) fun (a48_0,a48_1,a48_2,a48_3,a48_4,a48_5,a48_6,_,a48_8)=>
      br (decide ((a48_1+1)*40<=140737488355328))
       (some (Sum.inr (true,a48_0,a48_1+1,a48_2,a48_3,a48_4,a48_5,a48_6,a48_1+1,List.append (List.take a48_1 a48_8) [[f,t,d,bi p,at_ b t,at_ b f]])))
       (none))
      (ob (qCP (qCC (qCC K b f 0) (put b f 0) t (laid b s f d p)) n (put (put b f 0) t (laid b s f d p)) h s (qS (put (put b f 0) t (laid b s f d p))) (qU (put (put b f 0) t (laid b s f d p))) m st) fun (a37_0,a37_1,a37_2,a37_3,a37_4,a37_5,a37_6,_,a37_8)=>
      br (decide ((a37_1+1)*40<=140737488355328))
       (some (Sum.inr (true,a37_0,a37_1+1,a37_2,a37_3,a37_4,a37_5,a37_6,a37_1+1,List.append (List.take a37_1 a37_8) [[f,t,d,bi p,at_ b t,at_ b f]])))
       (none)):Option ((Bool×Int×Nat×List Int×List Int×Int×List (List Int)×List (List Int)×Nat×List (List Int))⊕(Bool×Int×Nat×List Int×List Int×Int×List (List Int)×List (List Int)×Nat×List (List Int)))) =
      some (.inr (true,qG9 K b h s f t d p,n+1,mb b s f t d p,mh b h s t d,1 - s,qS (mb b s f t d p),qU (mb b s f t d p),n+1,List.append (List.take n st) [[f,t,d,bi p,at_ b t,was b s f d]])):=by
     unfold qG9 mb mh was
     by_cases ht:at_ b t=0
     ·rw [qE (by simpa using ht),qJ7 hs,qA]
      simp only
      rw [qB hn']
      simp [hd,ht]
     ·have hk:=(hc.at_ t).resolve_left ht
      obtain ⟨r1,r2⟩:=qIm hk g3
      obtain ⟨k1,k2,k3⟩:=qDN (at_ b t)
      rw [qB (by simpa using ht),qBn,qA,qYO k1 k2,qA,qJ6 hs r1 r2 1 (.inl rfl),qA]
      simp only
      rw [qJ7 hs,qA]
      simp only
      rw [qB hn']
      simp [hd,ht]
    refine Eq.trans ?_ tail
    cases p with
    | true=>
      have hx:=hx (fun a18=>ob (qBw f 0 K n b h s (qS b) (qU b) m st) fun (a19_0,a19_1,a19_2,a19_3,a19_4,a19_5,a19_6,a19_7,a19_8)=>
       ob (qBw t a18 a19_0 a19_1 a19_2 a19_3 a19_4 a19_5 a19_6 a19_7 a19_8) fun r=>some r)
      rw [qB rfl] at hx ⊢
      obtain ⟨u1,u2,u3⟩:=qHs (g4 rfl)
      have hl:laid b s f d true=16*s+up_ (kd (at_ b f)):=by unfold laid;rw [if_neg (by simpa using hd),if_pos rfl]
      rw [qBn,qA,qJA,qA,qKm hs u1 u2 u3,qA,p1,qA]
      simp only
      rw [<- hl,p2,qA]
    | false=>
      have hl:laid b s f d false=at_ b f:=by unfold laid;rw [if_neg (by simpa using hd),if_neg (by simp)]
      rw [qE rfl,p1,qA]
      simp only
      rw [hl] at p2 ⊢
      rw [p2,qA]
   ·obtain ⟨d0,d1,d2,d3,g1,g2⟩:=hP.drop hd
    have hl:laid b s f d p=16*s+d:=by unfold laid;rw [if_pos hd]
    have e1:qAh s d=some (laid b s f d p):=by rw [hl];exact qKm hs (by omega) (by omega) (by omega)
    have p1:=qGj hc t (laid b s f d p) (qEt K h s d (-1)) n (qu h s d (-1)) s m st
    rw [qB (by simpa using hd),e1,qA,qJ6 hs (by omega) d1 (-1) (.inr rfl),qA]
    simp only
    rw [p1,qA]
    simp only
    rw [qJ7 hs,qA]
    simp only
    rw [qB hn']
    unfold qG9 mb mh was
    simp only [if_pos hd,hl]
theorem qVS {h:List Int} (hl:h.length=16) {s k:Int} (hs:s=0 \/ s=1) (k0:0<=k) (k1:k<8) {d:Int} (b:List Int) (S:Int) (r0:-128<=hd_ h s k /\ hd_ h s k<=127) (r1:-128<=hd_ h s k+d /\ hd_ h s k+d<=127):
  qEt (un (qAR b (qu h s k d) S)) (qu h s k d) s k (-d)=un (qAR b h S):=by
 have e:=qEp hl hs k0 k1 d hs k0 k1
 rw [if_pos ⟨rfl,rfl⟩,qFH r1.1 r1.2] at e
 rw [qOK (by rw [qN1,hl]) hs k0 k1 b S (by omega) (by omega),qN0 hl hs k0 k1 r0 r1]
theorem qdM {b h:List Int} {s:Int} (hg:Going b h s) {f t d:Int} {p:Bool} (hP:CanP b h s f t d p) (n:Nat) (hn:n<=1000) (m:Nat) (st:List (List Int))
  (hst:st.getD n []=[f,t,d,bi p,at_ b t,was b s f d]):
  qNR (un (qAR (mb b s f t d p) (mh b h s t d) (1 - s))) (n+1) (mb b s f t d p) (mh b h s t d) (1 - s) (qS (mb b s f t d p)) (qU (mb b s f t d p)) m st=some (true,un (qAR b h s),n,b,h,s,qS b,qU b,m,st):=by
 have hS:=hg.sound
 have hs':1 - s=0 \/ 1 - s=1:=by have:=hS.side;omega
 unfold qNR
 have e1:IntKind.wrap .i64 (Int.ofNat (n+1) - 1)=(n:Int):=by
  have:Int.ofNat (n+1)=(n:Int)+1:=rfl
  rw [this,qAb (by omega) (by omega)]
  omega
 rw [qE (by simp;omega),e1,qB (qAQ (by omega) (by omega)),qB (qEq (by omega) (by omega)),qJ7 hs',qA,qKK hs',show (1:Int) - (1 - s)=s by omega]
 simp only [Int.toNat_natCast,hst,Nat.sub_zero]
 simp only [List.take_succ_cons,List.take_zero,List.headD_cons,List.tail_cons]
 by_cases hd:d=0
 ·obtain ⟨f0,f1,f2,g1,g2,g3,g4⟩:=hP.move hd
  have hw:was b s f d=at_ b f:=by unfold was;rw [if_neg (by simpa using hd)]
  have hmb:mb b s f t d p=put (put b f 0) t (laid b s f d p):=by unfold mb;rw [if_neg (by simpa using hd)]
  rw [qE (by simpa using hd),hw,hmb]
  have p1:=qGj ((hS.clean.put f 0).put t (laid b s f d p)) t (at_ b t) (un (qAR (put (put b f 0) t (laid b s f d p)) (mh b h s t d) s)) n (mh b h s t d) s m st
  rw [qGs ((hS.clean.put f 0).put t (laid b s f d p)).len hP.to_] at p1
  have p2:=qGj (((hS.clean.put f 0).put t (laid b s f d p)).put t (at_ b t)) f (at_ b f) (un (qAR (put (put (put b f 0) t (laid b s f d p)) t (at_ b t)) (mh b h s t d) s)) n (mh b h s t d) s m st
  rw [qGs (((hS.clean.put f 0).put t (laid b s f d p)).put t (at_ b t)).len ⟨f0,f1⟩] at p2
  rw [qdN hS.clean ⟨f0,f1⟩ hP.to_] at p2
  rw [p1,qA]
  simp only
  rw [p2,qA]
  simp only
  by_cases ht:at_ b t=0
  ·have hmh:mh b h s t d=h:=by unfold mh;rw [if_neg (by simpa using hd),if_pos ht]
   rw [qE (by simpa using ht),hmh]
  ·have hk:=(hS.clean.at_ t).resolve_left ht
   obtain ⟨r1,r2⟩:=qIm hk g3
   obtain ⟨k1,k2,k3⟩:=qDN (at_ b t)
   have hc:=hS.counts _ r1 r2
   have h0:=hS.hands (rw_ (kd (at_ b t))) (by omega) r2
   have hsd:=hS.side
   have hmh:mh b h s t d=qu h s (rw_ (kd (at_ b t))) 1:=by unfold mh;rw [if_neg (by simpa using hd),if_neg ht]
   rw [qB (by simpa using ht),qBn,qA,qYO k1 k2,qA,qJ6 hS.side r1 r2 (-1) (.inr rfl),qA,hmh,
    qN0 hg.len hS.side (by omega) r2 (qGY hg.fits _ _) (by rcases hsd with rfl | rfl<;>constructor<;>omega),
    qVS hg.len hS.side (by omega) r2 _ _ (qGY hg.fits _ _) (by rcases hsd with rfl | rfl<;>constructor<;>omega)]
 ·obtain ⟨d0,d1,d2,d3,g1,g2⟩:=hP.drop hd
  have hmb:mb b s f t d p=put b t (laid b s f d p):=by unfold mb;rw [if_pos hd]
  have hmh:mh b h s t d=qu h s d (-1):=by unfold mh;rw [if_pos hd]
  have hb:=qGY hg.fits s d
  have p1:=qGj (hS.clean.put t (laid b s f d p)) t 0 (un (qAR (put b t (laid b s f d p)) (mh b h s t d) s)) n (mh b h s t d) s m st
  rw [qGs (hS.clean.put t (laid b s f d p)).len hP.to_] at p1
  rw [qdL hS.clean hP.to_ g2] at p1
  rw [qB (by simpa using hd),hmb,p1,qA]
  simp only
  have hbk:qu (qu h s d (-1)) s d 1=h:=qN0 hg.len hS.side (by omega) d1 (d:=-1) hb (by constructor<;>omega)
  rw [qJ6 hS.side (by omega) d1 1 (.inl rfl),qA,hmh]
  have hky:qEt (un (qAR b (qu h s d (-1)) s)) (qu h s d (-1)) s d 1=un (qAR b h s):=qVS hg.len hS.side (by omega) d1 (d:=-1) _ _ hb (by constructor<;>omega)
  rw [hbk,hky]
end Go.Kk.Pl
namespace Go.Kk.Pl
structure PosP (b h:List Int) (s:Int):Prop where
 len:b.length=81
 fits:qBI h
 hlen:h.length=16
 zero:qFK b h s=0
theorem PosP.clean {b h:List Int} {s:Int} (hp:PosP b h s):Clean b:=(qFn hp.len hp.zero).1
theorem PosP.side {b h:List Int} {s:Int} (hp:PosP b h s):s=0 \/ s=1:=(qFn hp.len hp.zero).2.1
theorem PosP.going {b h:List Int} {s:Int} (hp:PosP b h s):Going b h s:=⟨qaZ hp.len hp.fits (qRm hp.zero),hp.fits,hp.hlen⟩
theorem PosP.after {b h:List Int} {s:Int} (hp:PosP b h s) {m:List Int} (hm:m∈lgL b h s):PosP (mbM b s m) (mhM b h s m) (1 - s):=by
 obtain ⟨hc,hs,hno,k,k',hk,hk'⟩:=qFn hp.len hp.zero
 obtain ⟨_,hm2,_,hm4⟩:=qWB hc hs hno hk hk' hm
 have hsafe:inC (mb b s (m0 m) (m1 m) (m2 m) (m3 m)) s=false:=by simpa [qC1,mbM] using hm4
 exact ⟨(qWq hc _ _ _ _ _).1,qij hp.fits _ _ _ _,qik hp.hlen _ _ _ _,qcs hp.len hp.fits hp.hlen (qRm hp.zero) hm2 hsafe⟩
theorem PosP.lists {b h:List Int} {s:Int} (hp:PosP b h s):lgL b h s=rlL b h s:=by
 obtain ⟨hc,hs,hno,k,k',hk,hk'⟩:=qFn hp.len hp.zero
 exact qWd hc h hs hno hk hk'
theorem PosP.all {b h:List Int} {s:Int} (hp:PosP b h s):qGy b h s (qS b) (qU b)=some ((lgL b h s).length,b,h,s,qS b,qU b,(lgL b h s).length,lgL b h s):=by
 obtain ⟨hc,hs,hno,k,k',hk,hk'⟩:=qFn hp.len hp.zero
 exact qVm hc h hs hk hk'
theorem PosP.full {b h:List Int} {s:Int} (hp:PosP b h s) {m:List Int} (hm:m∈lgL b h s):Mv4 m /\ qAs b h s (m0 m) (m1 m) (m2 m) (m3 m)=true:=by
 obtain ⟨hc,hs,hno,k,k',hk,hk'⟩:=qFn hp.len hp.zero
 have:=qWB hc hs hno hk hk' hm
 exact ⟨this.1,this.2.1⟩
end Go.Kk.Pl
namespace Go.Kk.Pl
end Go.Kk.Pl
namespace Go.Kk.Pl
end Go.Kk.Pl
namespace Go.Kk.Pl
end Go.Kk.Pl
namespace Go.Kk.Pl
end Go.Kk.Pl
namespace Go.Kk.Pl
end Go.Kk.Pl
namespace Go.Kk.Pl
def tx (m:List Int):ByteArray:=bts (txL (m0 m).toNat (m1 m).toNat (m2 m).toNat (m3 m))
theorem qXQ {b h:List Int} {s f t d:Int} {p:Bool} (hP:CanP b h s f t d p):f=Int.ofNat f.toNat /\ t=Int.ofNat t.toNat /\ d=Int.ofNat d.toNat /\ Nmd f.toNat t.toNat d.toNat p:=by
 have ht:=hP.to_
 simp only [Int.ofNat_eq_natCast]
 by_cases hd:d=0
 ·obtain ⟨h1,h2,h3,_⟩:=hP.move hd
  exact ⟨by omega,by omega,by omega,by omega,fun h=>by omega,fun _=>⟨by omega,by omega⟩⟩
 ·obtain ⟨h1,h2,h3,h4,_⟩:=hP.drop hd
  exact ⟨by omega,by omega,by omega,by omega,fun _=>⟨by omega,by omega,h4⟩,fun h=>by omega⟩
theorem PosP.canP {b h:List Int} {s:Int} (hp:PosP b h s) {m:List Int} (hm:m∈lgL b h s):CanP b h s (m0 m) (m1 m) (m2 m) (m3 m):=(qHA (hp.full hm).2).2
theorem PosP.text {b h:List Int} {s:Int} (hp:PosP b h s) {m:List Int} (hm:m∈lgL b h s):qCs (m0 m) (m1 m) (m2 m) (m3 m)=some (tx m):=by
 obtain ⟨e1,e2,e3,hn⟩:=qXQ (hp.canP hm)
 have:=qRM hn
 rw [<- e1,<- e2,<- e3] at this
 exact this
theorem PosP.parse {b h:List Int} {s:Int} (hp:PosP b h s) {m:List Int} (hm:m∈lgL b h s):qDR (tx m)=some (m0 m,m1 m,m2 m,m3 m,0):=by
 obtain ⟨e1,e2,e3,hn⟩:=qXQ (hp.canP hm)
 have:=qXh hn
 rw [<- e1,<- e2,<- e3] at this
 exact this
theorem PosP.apart {b h:List Int} {s:Int} (hp:PosP b h s) {m m':List Int} (hm:m∈lgL b h s) (hm':m'∈lgL b h s) (e:qw (tx m)=qw (tx m')):m=m':=by
 have e:tx m=tx m':=by rw [<- qDH (tx m),e,qDH]
 have h1:=hp.parse hm
 rw [e,hp.parse hm'] at h1
 simp only [Option.some.injEq,Prod.mk.injEq,and_true] at h1
 obtain ⟨a,b,c,d⟩:=h1
 rw [(hp.full hm).1.1,(hp.full hm').1.1,a,b,c,d]
theorem qoY {A:List (List Int)} {B:List (List Int)} {n j:Nat} (e:B.take n=A.take n) (hj:j<n):B.getD j []=A.getD j []:=by
 have h1:∀ X:List (List Int),(X.take n).getD j []=X.getD j []:=by
  intro X
  rw [List.getD_eq_getElem?_getD,List.getD_eq_getElem?_getD,List.getElem?_take_of_lt hj]
 rw [<- h1 B,<- h1 A,e]
def qPN (b:List Int) (s:Int) (m:List Int):List Int:=[m0 m,m1 m,m2 m,bi (m3 m),at_ b (m1 m),was b s (m0 m) (m2 m)]
theorem PosP.make {b h:List Int} {s:Int} (hp:PosP b h s) {m:List Int} (hm:m∈lgL b h s) (n:Nat) (hn:n<=1000) (x:Nat) (st:List (List Int)):
  qEg (m0 m) (m1 m) (m2 m) (m3 m) (kof b h s) n b h s (qS b) (qU b) x st =
   some (.inr (true,kof (mbM b s m) (mhM b h s m) (1 - s),n+1,mbM b s m,mhM b h s m,1 - s,qS (mbM b s m),qU (mbM b s m),n+1,List.append (List.take n st) [qPN b s m])):=by
 obtain ⟨c,hcan,hmk⟩:=qie hp.clean h hp.side (m0 m) (m1 m) (m2 m) (m3 m)
 have e:qDC b h s (m0 m) (m1 m) (m2 m) (m3 m)=c:=Option.some.inj ((qee b h hp.side (m0 m) (m1 m) (m2 m) (m3 m) 0 0 (qS b) (qU b) 0 []).symm.trans (hcan 0 0 0 []))
 rw [qip (hp.full hm).2] at e
 rcases hmk with ⟨h1,_⟩ | ⟨_,hP,hmk⟩
 ·rw [h1] at e;cases e
 ·rw [hmk _ _ _ _ (by omega),qin hp.going.sound hp.going.fits hp.going.len hP]
  rfl
theorem PosP.back {b h:List Int} {s:Int} (hp:PosP b h s) {m:List Int} (hm:m∈lgL b h s) (n:Nat) (hn:n<=1000) (x:Nat) (st:List (List Int)) (hst:st.getD n []=qPN b s m):
  qNR (kof (mbM b s m) (mhM b h s m) (1 - s)) (n+1) (mbM b s m) (mhM b h s m) (1 - s) (qS (mbM b s m)) (qU (mbM b s m)) x st=some (true,kof b h s,n,b,h,s,qS b,qU b,x,st):=by
 rw [qKG,qKG]
 exact qdM hp.going (hp.canP hm) n hn x st hst
inductive Hist (b0 h0:List Int) (s0:Int):Nat->List (List Int)->List Int->List Int->Int->Prop
 | zero (st:List (List Int)):Hist b0 h0 s0 0 st b0 h0 s0
 | succ {n:Nat} {st:List (List Int)} {b h:List Int} {s:Int} {m:List Int} (hh:Hist b0 h0 s0 n st b h s) (hp:PosP b h s) (hm:m∈lgL b h s) (hst:st.getD n []=qPN b s m):
   Hist b0 h0 s0 (n+1) st (mbM b s m) (mhM b h s m) (1 - s)
theorem Hist.congr {b0 h0:List Int} {s0:Int} {n:Nat} {st:List (List Int)} {b h:List Int} {s:Int} (hh:Hist b0 h0 s0 n st b h s):∀ {st':List (List Int)},st'.take n=st.take n->Hist b0 h0 s0 n st' b h s:=by
 induction hh with
 | zero st=>intro st' _;exact .zero st'
 | @succ n st b h s m hh hp hm hst ih=>
   intro st' e
   have e':st'.take n=st.take n:=by
    have:=congrArg (List.take n) e
    rwa [List.take_take,List.take_take,Nat.min_eq_left (by omega)] at this
   exact .succ (ih e') hp hm (by rw [qoY e (by omega),hst])
end Go.Kk.Pl
namespace Go.Kk.Pl
theorem qiZ:qIP=some true:=by kernel_rfl
def nm (m:List Int):List Int:=[m0 m,m1 m,m2 m,bi (m3 m)]
theorem nm0 (m:List Int):m0 (nm m)=m0 m:=rfl
theorem nm1 (m:List Int):m1 (nm m)=m1 m:=rfl
theorem nm2 (m:List Int):m2 (nm m)=m2 m:=rfl
theorem nm3 (m:List Int):m3 (nm m)=m3 m:=qFN (m3 m)
theorem qjL (b:List Int) (s:Int) (m:List Int):mbM b s (nm m)=mbM b s m:=by unfold mbM;rw [nm0,nm1,nm2,nm3]
theorem qjM (b h:List Int) (s:Int) (m:List Int):mhM b h s (nm m)=mhM b h s m:=by unfold mhM;rw [nm1,nm2]
def lg (b h:List Int) (s:Int) (m:List Int):Bool:=(lgL b h s).contains (nm m)
theorem qgq {b h:List Int} {s:Int} {m:List Int} (hm:lg b h s m=true):nm m∈lgL b h s:=by simpa [lg] using hm
theorem PosP.is {b h:List Int} {s:Int} (hp:PosP b h s) (m:List Int):qG2 (m0 m) (m1 m) (m2 m) (m3 m) b h s (qS b) (qU b)=some (lg b h s m,b,h,s,qS b,qU b):=by
 obtain ⟨hc,hs,hno,k,k',hk,hk'⟩:=qFn hp.len hp.zero
 exact qhh hc h hs hk hk' _ _ _ _
theorem PosP.next {b h:List Int} {s:Int} (hp:PosP b h s) {m:List Int} (hm:lg b h s m=true):PosP (mbM b s m) (mhM b h s m) (1 - s):=by
 have:=hp.after (qgq hm)
 rw [qjL,qjM] at this
 exact this
def zB:List Int:=[0,0,0,0,0,0,0,0,0,0,0,0,0,0,0,0,0,0,0,0,0,0,0,0,0,0,0,0,0,0,0,0,0,0,0,0,0,0,0,0,0,0,0,0,0,0,0,0,0,0,0,0,0,0,0,0,0,0,0,0,0,0,0,0,0,0,0,0,0,0,0,0,0,0,0,0,0,0,0,0,0]
end Go.Kk.Pl
namespace Go.Kk.Pl
theorem qlK (f t d:Int) (p:Bool):∃ v,qFr f t d p=some v /\ (v=0->0<=t /\ t<81 /\ (d≠0->0<d /\ d<8 /\ f=0 /\ p=false) /\ (d=0->0<=f /\ f<81 /\ f≠t)):=by
 unfold qFr
 by_cases h1:t<0
 ·rw [qB (by simpa using h1)];exact ⟨1,rfl,fun h=>by cases h⟩
 rw [qE (by simpa using h1)]
 by_cases h2:t>80
 ·rw [qB (by simpa using h2)];exact ⟨1,rfl,fun h=>by cases h⟩
 rw [qE (by simpa using h2)]
 by_cases h3:d=0
 ·rw [qE (by simpa using h3)]
  by_cases h4:f<0
  ·rw [qB (by simpa using h4)];exact ⟨1,rfl,fun h=>by cases h⟩
  rw [qE (by simpa using h4)]
  by_cases h5:f>80
  ·rw [qB (by simpa using h5)];exact ⟨1,rfl,fun h=>by cases h⟩
  rw [qE (by simpa using h5)]
  by_cases h6:f=t
  ·rw [qB (by simpa using h6)];exact ⟨70,rfl,fun h=>by cases h⟩
  ·rw [qE (by simpa using h6)]
   exact ⟨0,rfl,fun _=>⟨by omega,by omega,fun h=>absurd h3 h,fun _=>⟨by omega,by omega,h6⟩⟩⟩
 ·rw [qB (by simpa using h3)]
  by_cases h4:d<1
  ·rw [qB (by simpa using h4)];exact ⟨70,rfl,fun h=>by cases h⟩
  rw [qE (by simpa using h4)]
  by_cases h5:d>7
  ·rw [qB (by simpa using h5)];exact ⟨70,rfl,fun h=>by cases h⟩
  rw [qE (by simpa using h5)]
  by_cases h6:f=0
  ·rw [qE (by simpa using h6)]
   cases p with
   | true=>exact ⟨70,rfl,fun h=>by cases h⟩
   | false=>exact ⟨0,rfl,fun _=>⟨by omega,by omega,fun _=>⟨by omega,by omega,h6,rfl⟩,fun h=>absurd h h3⟩⟩
  ·rw [qB (by simpa using h6)];exact ⟨70,rfl,fun h=>by cases h⟩
theorem qlL {f t d:Nat} {p:Bool} (h:Nmd f t d p):qFr (Int.ofNat f) (Int.ofNat t) (Int.ofNat d) p=some 0:=by
 have:=h.to_
 unfold qFr
 simp only [Int.ofNat_eq_natCast]
 rw [qZ (by omega),qE (by simp;omega)]
 by_cases hd:d=0
 ·obtain ⟨h1,h2⟩:=h.move hd
  have e:((f:Int)==(t:Int))=false:=by rw [beq_eq_false_iff_ne];omega
  rw [qE (by simp [hd]),qZ (by omega),qE (by simp;omega),qE e]
 ·obtain ⟨h1,h2,h3⟩:=h.drop hd
  subst h2 h3
  rw [qB (by simp;omega),qZ (by omega),qE (by simp;omega),qE (by simp),qE rfl]
theorem qQI:∀ q,q<81->qHR (Int.ofNat q)=some (bts (sqL q)):=by decide +kernel
theorem qlz:∀ d,d<8->d≠0->(qz (Int.ofNat d) 7&&qz (IntKind.wrap .i64 (Int.ofNat d - 1)) (Int.toNat (Int.ofNat d)))=true /\
  ByteArray.extract { data:=#[80,76,78,83,71,66,82] } (Int.toNat (IntKind.wrap .i64 (Int.ofNat d - 1))) (Int.toNat (Int.ofNat d))=bts [ltr d]:=by decide +kernel
theorem ql1 {f t d:Nat} {p:Bool} (h:Nmd f t d p):qC0 (Int.ofNat f) (Int.ofNat t) (Int.ofNat d) p=some (bts (txL f t d p)):=by
 unfold qC0 txL
 rw [qlL h,qA,qE (by rfl)]
 by_cases hd:d=0
 ·obtain ⟨h1,h2⟩:=h.move hd
  subst hd
  rw [qE (by rfl),qQI f h1,qQI t h.to_,if_neg (by simp)]
  simp only [qA]
  rw [qB (qDq (by show 4<=1000;omega))]
  cases p with
  | true=>
    rw [b_t,qB (qDq (by show 5<=1000;omega))]
    rfl
  | false=>
    rw [b_f]
    simp only [Bool.false_eq_true,if_false,List.append_nil]
    rfl
 ·obtain ⟨h1,h2,h3⟩:=h.drop hd
  obtain ⟨e1,e2⟩:=qlz d h1 hd
  rw [qB (by simp;omega),qB e1,e2,qB (qDq (by show 2<=1000;omega)),qQI t h.to_,qA,qB (qDq (by show 4<=1000;omega)),if_pos hd]
  rfl
theorem qQq:∀ q,q<81->(32:UInt8) ∉ sqL q:=by decide +kernel
theorem qid:∀ d,d<8->(32:UInt8)≠ltr d:=by decide +kernel
theorem qor {f t d:Nat} {p:Bool} (h:Nmd f t d p):(txL f t d p).length<=5 /\ (32:UInt8) ∉ txL f t d p /\ txL f t d p≠[]:=by
 unfold txL
 by_cases hd:d=0
 ·obtain ⟨h1,h2⟩:=h.move hd
  rw [if_neg (by simpa using hd)]
  have a1:=qQq f h1
  have a2:=qQq t h.to_
  refine ⟨by cases p<;>simp [sqL],?_,by simp [sqL]⟩
  rw [List.mem_append,List.mem_append]
  rintro ((h | h) | h)
  ·exact a1 h
  ·exact a2 h
  ·cases p with
   | true=>simp at h
   | false=>simp at h
 ·obtain ⟨h1,h2,h3⟩:=h.drop hd
  rw [if_pos hd]
  refine ⟨by simp [sqL],?_,by simp⟩
  rw [List.mem_append]
  rintro (h' | h')
  ·simp only [List.mem_cons,List.not_mem_nil,or_false] at h'
   rcases h' with h' | h'
   ·exact qid d h1 h'
   ·cases h'
  ·exact qQq t h.to_ h'
theorem qk1 (f t d:Int) (p:Bool):∃ l:List UInt8,qCs f t d p=some (bts l) /\ qC0 f t d p=some (bts l) /\ l.length<=5 /\ (32:UInt8) ∉ l /\
  (l≠[]->∃ f' t' d':Nat,f=Int.ofNat f' /\ t=Int.ofNat t' /\ d=Int.ofNat d' /\ Nmd f' t' d' p /\ l=txL f' t' d' p):=by
 by_cases hN:0<=t /\ t<81 /\ (d≠0->0<d /\ d<8 /\ f=0 /\ p=false) /\ (d=0->0<=f /\ f<81 /\ f≠t)
 ·obtain ⟨t0,t1,hd,hm⟩:=hN
  have h3:0<=d:=by
   by_cases h:d=0
   ·omega
   ·exact Int.le_of_lt (hd h).1
  have h4:0<=f:=by
   by_cases h:d=0
   ·exact (hm h).1
   ·rw [(hd h).2.2.1];exact Int.le_refl 0
  obtain ⟨f',rfl⟩:∃ f':Nat,f=Int.ofNat f':=⟨f.toNat,by simp only [Int.ofNat_eq_natCast];omega⟩
  obtain ⟨t',rfl⟩:∃ t':Nat,t=Int.ofNat t':=⟨t.toNat,by simp only [Int.ofNat_eq_natCast];omega⟩
  obtain ⟨d',rfl⟩:∃ d':Nat,d=Int.ofNat d':=⟨d.toNat,by simp only [Int.ofNat_eq_natCast];omega⟩
  simp only [Int.ofNat_eq_natCast] at t0 t1 hd hm
  have h:Nmd f' t' d' p:=⟨by omega,fun h=>by have:=hd (by omega);exact ⟨by omega,by omega,this.2.2.2⟩,fun h=>by have:=hm (by omega);exact ⟨by omega,by omega⟩⟩
  have:=qor h
  exact ⟨_,qRM h,ql1 h,this.1,this.2.1,fun _=>⟨f',t',d',rfl,rfl,rfl,h,rfl⟩⟩
 ·obtain ⟨v,v1,v2⟩:=qWy f t d p
  obtain ⟨u,u1,u2⟩:=qlK f t d p
  refine ⟨[],?_,?_,by simp,by simp,fun h=>absurd rfl h⟩
  ·unfold qCs
   rw [v1,qA,qB (by rw [bne_iff_ne];exact fun h=>hN (v2 h))]
   rfl
  ·unfold qC0
   rw [u1,qA,qB (by rw [bne_iff_ne];exact fun h=>hN (u2 h))]
   rfl
def tL (m:List Int):List UInt8:=((qCs (m0 m) (m1 m) (m2 m) (m3 m)).getD qBJ).data.toList
theorem qES (m:List Int):qCs (m0 m) (m1 m) (m2 m) (m3 m)=some (bts (tL m)) /\ qC0 (m0 m) (m1 m) (m2 m) (m3 m)=some (bts (tL m)) /\ (tL m).length<=5 /\ (32:UInt8) ∉ tL m /\
  (tL m≠[]->pI (qW (tL m))=(m0 m,m1 m,m2 m,m3 m,0)):=by
 obtain ⟨l,h1,h2,h3,h4,h5⟩:=qk1 (m0 m) (m1 m) (m2 m) (m3 m)
 have e:tL m=l:=by unfold tL;rw [h1];rfl
 rw [e]
 refine ⟨h1,h2,h3,h4,fun h=>?_⟩
 obtain ⟨f',t',d',e1,e2,e3,hn,rfl⟩:=h5 h
 have:=qXK (x:=txL f' t' d' (m3 m)) (by omega)
 rw [qXh hn] at this
 rw [e1,e2,e3]
 exact (Option.some.inj this).symm
def tF (xs:List (List Int)):Nat->Nat->List (List UInt8)
 | 0,_=>[]
 | k+1,o=>tL (xs.getD o []) :: tF xs k (o+1)
theorem qFG (xs:List (List Int)):∀ k o,(tF xs k o).length=k
 | 0,_=>rfl
 | k+1,o=>by simp [tF,qFG xs k]
theorem qHp (xs:List (List Int)):∀ k o p,p∈tF xs k o->∃ m,p=tL m
 | k+1,o,p,h=>by
   rcases List.mem_cons.1 h with rfl | h
   ·exact ⟨_,rfl⟩
   ·exact qHp xs k (o+1) p h
theorem qoT (ps:List (List UInt8)):qC3 (ps.map qAx)=ps.map bts:=by
 unfold qC3 qAx
 rw [List.map_map]
 refine List.map_congr_left fun p _=>?_
 show qAj (qw (bts p))=bts p
 exact qDH _
theorem qgw (ps:List (List UInt8)):qGm (ps.map bts) qBJ=bts (qT ps):=by
 unfold qGm qKB
 rw [List.map_map,show ((fun x:ByteArray=>x.data.toList) ∘ bts)=id from rfl,List.map_id]
 show bts (List.intercalate [32] ps)=_
 rw [qN5]
theorem qgu {ps:List (List UInt8)} (h1:ps.length<=1000) (h2:(qT ps).length<=1000000):qIL (ps.map bts) qBJ=true:=by
 unfold qIL qKB
 rw [List.map_map,show ((fun x:ByteArray=>x.data.toList) ∘ bts)=id from rfl,List.map_id,List.length_map]
 show (Nat.ble ps.length 140737488355328&&Nat.ble (List.intercalate [32] ps).length 140737488355328)=true
 rw [qN5,Bool.and_eq_true,Nat.ble_eq,Nat.ble_eq]
 omega
theorem qU5 {ps:List (List UInt8)} (h1:ps.length<=1000) (h2:(qT ps).length<=1000000) (c:Nat):strings_Join ps.length qBJ c (ps.map qAx)=some (bts (qT ps)):=by
 unfold strings_Join
 rw [List.take_of_length_le (by simp),qoT,qB (qgu h1 h2),qgw]
theorem qoa (lo N cap:Nat) (hN:N<=1000) (xs:List (List Int)):∀ (k i:Nat),i+k=N->∀ (A:List (List Int)),A.length=i->∀ F,
  qFe (F+k+1) i lo N N i cap xs i A=some (N,cap,xs,N,A++(tF xs k (lo+i)).map qAx):=by
 intro k
 induction k with
 | zero=>
   intro i hi A hA F
   rw [qFe.eq_2]
   unfold qKW
   rw [qZ (by omega),show i=N by omega]
   simp [tF]
 | succ k ih=>
   intro i hi A hA F
   rw [qFe.eq_2]
   unfold qKW
   rw [qg (by omega),qAN (by omega) (by omega),tn]
   simp only [hdM]
   rw [(qES (xs.getD (lo+i) [])).1,qA,qB9 (by omega),w_s (n:=(i:Int)+1) (by omega) (by omega),tkA hA.symm]
   refine (ih (i+1) (by omega) (A++[[qw (bts (tL (xs.getD (lo+i) [])))]]) (by simp [hA]) F).trans ?_
   rw [List.append_assoc]
   rfl
theorem qob (lo N cap:Nat) (hN:N<=1000) (xs:List (List Int)):qIS lo N cap xs=some (bts (qT (tF xs N lo))):=by
 unfold qIS
 obtain ⟨g,hg⟩:=ql N (by omega)
 have:=qoa lo N cap hN xs N 0 (by omega) [] rfl g
 rw [<- hg] at this
 refine (congrArg (fun m=>ob m _) this).trans ?_
 rw [qA]
 simp only [List.nil_append,Nat.add_zero]
 have h2:=qIM (ps:=tF xs N lo) fun p hp=>by obtain ⟨m,rfl⟩:=qHp xs N lo p hp;exact (qES m).2.2.1
 rw [qFG] at h2
 have:=qU5 (ps:=tF xs N lo) (by rw [qFG];exact hN) (by omega) N
 rw [qFG] at this
 refine (congrArg (fun m=>ob m _) this).trans rfl
theorem qoZ (N cap:Nat) (hN:N<=1000) (xs:List (List Int)):∀ (k i:Nat),i+k=N->∀ (A:List (List Int)),A.length=i->∀ F,
  qFf (F+k+1) i N N i cap xs i A=some (N,cap,xs,N,A++(tF xs k i).map qAx):=by
 intro k
 induction k with
 | zero=>
   intro i hi A hA F
   rw [qFf.eq_2]
   unfold qKY
   rw [qZ (by omega),show i=N by omega]
   simp [tF]
 | succ k ih=>
   intro i hi A hA F
   rw [qFf.eq_2]
   unfold qKY
   rw [qg (by omega),qAN (by omega) (by omega),tn]
   simp only [hdM]
   rw [(qES (xs.getD i [])).1,qA,qB9 (by omega),w_s (n:=(i:Int)+1) (by omega) (by omega),tkA hA.symm]
   refine (ih (i+1) (by omega) (A++[[qw (bts (tL (xs.getD i [])))]]) (by simp [hA]) F).trans ?_
   rw [List.append_assoc]
   rfl
theorem qbr (N cap:Nat) (hN:N<=1000) (xs:List (List Int)):qDz N cap xs=some (bts (qT (tF xs N 0))):=by
 unfold qDz
 obtain ⟨g,hg⟩:=ql N (by omega)
 have:=qoZ N cap hN xs N 0 (by omega) [] rfl g
 rw [<- hg] at this
 refine (congrArg (fun m=>ob m _) this).trans ?_
 rw [qA]
 simp only [List.nil_append]
 have h2:=qIM (ps:=tF xs N 0) fun p hp=>by obtain ⟨m,rfl⟩:=qHp xs N 0 p hp;exact (qES m).2.2.1
 rw [qFG] at h2
 have:=qU5 (ps:=tF xs N 0) (by rw [qFG];exact hN) (by omega) N
 rw [qFG] at this
 refine (congrArg (fun m=>ob m _) this).trans rfl
theorem qo8 (lo N cap:Nat) (hN:N<=1000) (xs:List (List Int)) (s:ByteArray):∀ (k i:Nat),i+k=N->∀ (ps:List (List UInt8)),ps.length=i->(∀ p∈ps,p.length<=5)->∀ (g:Bool) F,
  qFd (F+k+1) lo N s (bts (qT ps)) g lo N N i cap xs=some (lo,N,s,bts (qT (ps++tF xs k (lo+i))),g&&(tF xs k (lo+i)).all fun p=>decide (p≠[]),cap,xs):=by
 intro k
 induction k with
 | zero=>
   intro i hi ps hps h5 g F
   rw [qFd.eq_2]
   unfold qKM
   rw [qZ (by omega)]
   simp [tF]
 | succ k ih=>
   intro i hi ps hps h5 g F
   obtain ⟨q1,q2,q3,q4,q5⟩:=qES (xs.getD (lo+i) [])
   have hl:=qIM h5
   have hb:decide (Int.ofNat 0=0)=true:=rfl
   have e1:(!qv (bts (tL (xs.getD (lo+i) []))) { data:=#[]})=decide (tL (xs.getD (lo+i) [])≠[]):=by
    have:=qF8 (tL (xs.getD (lo+i) [])) []
    rw [show qv (bts (tL (xs.getD (lo+i) []))) { data:=#[]}=qv (bts (tL (xs.getD (lo+i) []))) (bts []) from rfl,this]
    simp
   have next:=ih (i+1) (by omega) (ps++[tL (xs.getD (lo+i) [])]) (by simp [hps]) (fun p hp=>by
    rcases List.mem_append.1 hp with hp | hp
    ·exact h5 p hp
    ·simp at hp;subst hp;exact q3) (g&&decide (tL (xs.getD (lo+i) [])≠[])) F
   have fin:(some (lo,N,s,bts (qT ((ps++[tL (xs.getD (lo+i) [])])++tF xs k (lo+(i+1)))),(g&&decide (tL (xs.getD (lo+i) [])≠[]))&&(tF xs k (lo+(i+1))).all (fun p=>decide (p≠[])),cap,xs):Option (Nat×Nat×ByteArray×ByteArray×Bool×Nat×List (List Int))) =
     some (lo,N,s,bts (qT (ps++tF xs (k+1) (lo+i))),g&&(tF xs (k+1) (lo+i)).all (fun p=>decide (p≠[])),cap,xs):=by
    rw [List.append_assoc,Bool.and_assoc]
    rfl
   rw [qFd.eq_2]
   unfold qKM
   rw [qg (by omega),qAN (by omega) (by omega),tn]
   simp only [hdM]
   rw [q2,qA,w_s (n:=(i:Int)+1) (by omega) (by omega)]
   by_cases h0:i=0
   ·subst h0
    have hp0:ps=[]:=List.eq_nil_of_length_eq_zero hps
    subst hp0
    rw [qE (by simp),qA,qB (qID (by rw [qAY,qAY];simp only [qT,List.length_nil];omega))]
    have e2:({data:={toList:=List.append (Array.toList (ByteArray.data (bts (qT [])))) (Array.toList (ByteArray.data (bts (tL (xs.getD (lo+0) []))))) }}:ByteArray)=bts (qT ([]++[tL (xs.getD (lo+0) [])])):=rfl
    rw [e2]
    cases g with
    | true=>rw [b_t,qA,e1];exact next.trans fin
    | false=>rw [b_f];exact next.trans fin
   ·have hne:ps≠[]:=by rintro rfl;exact h0 hps.symm
    have e3:({data:={toList:=List.append (Array.toList (ByteArray.data { data:={toList:=List.append (Array.toList (ByteArray.data (bts (qT ps)))) (Array.toList (ByteArray.data { data:=#[32]})) }})) (Array.toList (ByteArray.data (bts (tL (xs.getD (lo+i) []))))) }}:ByteArray)=bts (qT (ps++[tL (xs.getD (lo+i) [])])):=by
     rw [qU4 _ hne]
     show bts ((qT ps++[32])++tL (xs.getD (lo+i) []))=_
     rw [List.append_assoc]
     rfl
    have f1:qAZ (ByteArray.size (bts (qT ps))+1)=true:=qID (by rw [qAY];omega)
    have f2:qAZ (ByteArray.size { data:={toList:=List.append (Array.toList (ByteArray.data (bts (qT ps)))) (Array.toList (ByteArray.data { data:=#[32]})) }}+ByteArray.size (bts (tL (xs.getD (lo+i) []))))=true:=qID (by
     show (qT ps++[32]).length+(tL (xs.getD (lo+i) [])).length<=1000000
     rw [List.length_append]
     simp only [List.length_cons,List.length_nil]
     omega)
    rw [qB (by rw [decide_eq_true_eq];omega),qB f1,qB f2,e3]
    cases g with
    | true=>rw [b_t,qA,e1];exact next.trans fin
    | false=>rw [b_f];exact next.trans fin
end Go.Kk.Pl
namespace Go.Kk.Pl
def code (v:Int×Int×Int×Bool×Int):Int:=v.2.2.2.2
def qBF (v:Int×Int×Int×Bool×Int):List Int:=[v.1,v.2.1,v.2.2.1,bi v.2.2.2.1]
def pf:List (List UInt8)->Nat->List (List Int)->(Nat×Int)⊕List (List Int)
 | [],_,A=>.inr A
 | q :: r,i,A=>if code (pI (qW q))≠0 then .inl (i,code (pI (qW q))) else pf r (i+1) (A++[qBF (pI (qW q))])
theorem qXj:∀ (ps:List (List UInt8)) (i:Nat) (A B:List (List Int)),(∀ j c,pf ps i A=.inl (j,c)->pf ps i B=.inl (j,c) /\ c≠0) /\ (∀ C,pf ps i A=.inr C->pf ps i B=.inr (B++ps.map fun q=>qBF (pI (qW q))) /\ C=A++(ps.map fun q=>qBF (pI (qW q))) /\ ∀ q∈ps,code (pI (qW q))=0)
 | [],i,A,B=>⟨fun j c h=>(by cases h),fun C h=>(by cases h;exact ⟨by simp [pf],by simp,by simp⟩)⟩
 | q :: r,i,A,B=>by
   have ih:=qXj r (i+1) (A++[qBF (pI (qW q))]) (B++[qBF (pI (qW q))])
   unfold pf
   by_cases h:code (pI (qW q))≠0
   ·rw [if_pos h,if_pos h]
    refine ⟨fun j c hh=>?_,fun C hh=>by cases hh⟩
    cases hh
    exact ⟨rfl,h⟩
   ·rw [if_neg h,if_neg h]
    refine ⟨ih.1,fun C hh=>?_⟩
    obtain ⟨a,b,c⟩:=ih.2 C hh
    refine ⟨by rw [a];simp,by rw [b];simp,fun x hx=>?_⟩
    rcases List.mem_cons.1 hx with rfl | hx
    ·exact Decidable.not_not.1 h
    ·exact c x hx
theorem qfe {ps:List (List UInt8)} {i:Nat} (hi:i<ps.length):qAj (List.getD (List.getD (ps.map qAx) i []) 0 0)=bts ps[i]:=by
 have e:List.getD (ps.map qAx) i []=qAx ps[i]:=by
  rw [List.getD_eq_getElem?_getD,List.getElem?_map,List.getElem?_eq_getElem hi]
  rfl
 rw [e]
 exact qDH _
theorem qkt {ps:List (List UInt8)} (hK:ps.length<=100000) (hl:∀ p∈ps,p.length<=1000000):∀ (k i:Nat),i+k=ps.length->∀ (A:List (List Int)),A.length=i->∀ F,
  ∃ u w,qDy (F+k+1) i ps.length ps.length i i A ps.length (ps.map qAx)=some (match pf (ps.drop i) i A with
    | .inl (j,c)=>.inl (0,(j:Int),c,j,0,[],u,w)
    | .inr C=>.inr (C.length,C.length,C)):=by
 intro k
 induction k with
 | zero=>
   intro i hi A hA F
   refine ⟨0,[],?_⟩
   rw [qDy.eq_2]
   unfold qKS
   rw [qZ (by omega),List.drop_of_length_le (by omega)]
   simp [pf,hA]
 | succ k ih=>
   intro i hi A hA F
   have hil:i<ps.length:=by omega
   have body:∀ v,pI (qW ps[i])=v->qDy (F+(k+1)+1) i ps.length ps.length i i A ps.length (ps.map qAx) =
     br (code v != 0) (some (.inl (0,(i:Int),code v,i,0,[],i,A))) (qDy (F+k+1) (i+1) ps.length ps.length ((i:Int)+1) (i+1) (A++[qBF v]) ps.length (ps.map qAx)):=by
    intro v hv
    rw [qDy.eq_2]
    unfold qKS
    rw [qg (by omega),qAN (by omega) (by omega),tn,qfe hil,qXK (hl _ (List.getElem_mem hil)),qA,hv]
    simp only
    rw [qB9 (by omega),w_s (n:=(i:Int)+1) (by omega) (by omega),tkA hA.symm]
    rfl
   have body:=body _ rfl
   rw [List.drop_eq_getElem_cons hil]
   unfold pf
   by_cases h:code (pI (qW ps[i]))=0
   ·rw [qE (by simpa using h)] at body
    rw [if_neg (by simpa using h)]
    obtain ⟨u,w,hw⟩:=ih (i+1) (by omega) (A++[qBF (pI (qW ps[i]))]) (by simp [hA]) F
    exact ⟨u,w,body.trans hw⟩
   ·rw [qB (by simpa using h)] at body
    rw [if_pos h]
    exact ⟨i,A,body⟩
theorem qgv {ps:List (List UInt8)} (h:qT ps=[]) (h0:ps≠[]):ps=[[]]:=by
 match ps,h0 with
 | [p],_=>have:p=[]:=h;rw [this]
 | p :: q :: r,_=>
   rw [qFc p (by simp)] at h
   simp at h
theorem qWr:∀ {ps:List (List UInt8)} {p:List UInt8},p∈ps->p.length<=(qT ps).length
 | [q],p,h=>by simp at h;subst h;exact Nat.le_refl _
 | q :: a :: r,p,h=>by
   rw [qFc q (by simp),List.length_append,List.length_cons]
   rcases List.mem_cons.1 h with rfl | h
   ·omega
   ·have:=qWr h;omega
theorem qWA {ps:List (List UInt8)} (hsp:∀ p∈ps,(32:UInt8) ∉ p) (h0:ps≠[]):ps.length<=(qT ps).length+1:=by
 have h1:=qN4 hsp h0
 have h2:(qT ps).count 32<=(qT ps).length:=List.count_le_length
 omega
theorem qO7 {ps:List (List UInt8)} (h0:ps≠[]) (hsp:∀ p∈ps,(32:UInt8) ∉ p) (hne:qT ps≠[]) (hl:(qT ps).length<=10000):qCY (bts (qT ps))=some (match pf ps 0 [] with
  | .inl (j,c)=>(0,(j:Int),c,0,[])
  | .inr C=>(C.length,(C.length:Int),0,C.length,C)):=by
 have hlen:=qWA hsp h0
 unfold qCY
 have e1:qv (bts (qT ps)) { data:=#[]}=false:=by
  have:=qF8 (qT ps) []
  rw [show qv (bts (qT ps)) { data:=#[]}=qv (bts (qT ps)) (bts []) from rfl,this]
  simpa using hne
 rw [qE e1]
 refine (congrArg (fun m=>ob m _) (qnQ h0 hsp (by omega))).trans ?_
 rw [qA]
 simp only
 obtain ⟨g,hg⟩:=ql ps.length (by omega)
 obtain ⟨u,w,this⟩:=qkt (ps:=ps) (by omega) (fun p hp=>by have:=qWr hp;omega) ps.length 0 (by omega) [] rfl g
 rw [<- hg,List.drop_zero] at this
 refine (congrArg (fun m=>ob m _) this).trans ?_
 rw [qA]
 cases pf ps 0 [] with
 | inl x=>rfl
 | inr C=>rfl
theorem qO6:qCY (bts [])=some (0,0,0,0,[]):=rfl
theorem qIw:∀ (c d:UInt8),0<=sq2 (Int.ofNat c.toNat) (Int.ofNat d.toNat)->∃ t:Nat,t<81 /\ sq2 (Int.ofNat c.toNat) (Int.ofNat d.toNat)=Int.ofNat t /\ sqL t=[c,d]:=by
 intro c d h
 have b1:=qNb (Int.ofNat c.toNat)
 have b2:=qQB (Int.ofNat d.toNat)
 unfold sq2 at h ⊢
 split at h
 ·omega
 rename_i hn
 rw [if_neg hn]
 have f1:fl9 (Int.ofNat c.toNat)=(c.toNat:Int) - 49 /\ 49<=c.toNat /\ c.toNat<=57:=by
  unfold fl9 at hn ⊢
  simp only [Int.ofNat_eq_natCast] at hn ⊢
  split
  ·omega
  ·rename_i h;rw [if_neg h] at hn;omega
 have f2:rk9 (Int.ofNat d.toNat)=(d.toNat:Int) - 97 /\ 97<=d.toNat /\ d.toNat<=105:=by
  unfold rk9 at hn ⊢
  simp only [Int.ofNat_eq_natCast] at hn ⊢
  split
  ·omega
  ·rename_i h;rw [if_neg (c:=97<=(d.toNat:Int) /\ (d.toNat:Int)<=105) h] at hn;omega
 refine ⟨9*(c.toNat - 49)+(d.toNat - 97),by omega,by rw [f1.1,f2.1];simp only [Int.ofNat_eq_natCast];omega,?_⟩
 unfold sqL
 rw [show 49+(9*(c.toNat - 49)+(d.toNat - 97)) / 9=c.toNat by omega,show 97+(9*(c.toNat - 49)+(d.toNat - 97)) % 9=d.toNat by omega,UInt8.ofNat_toNat,UInt8.ofNat_toNat]
theorem qgz:∀ n,n<256->0<=kd7 (Int.ofNat n)->(kd7 (Int.ofNat n)+1).toNat<8 /\ (kd7 (Int.ofNat n)+1).toNat≠0 /\ ltr (kd7 (Int.ofNat n)+1).toNat=UInt8.ofNat n:=by decide +kernel
theorem qoc {x:List UInt8} (h:code (pI (qW x))=0):tL (qBF (pI (qW x)))=x:=by
 have err:code qCR≠0:=by decide
 have key:∀ (f t d:Nat) (p:Bool),Nmd f t d p->pI (qW x)=(Int.ofNat f,Int.ofNat t,Int.ofNat d,p,0)->txL f t d p=x->tL (qBF (pI (qW x)))=x:=by
  intro f t d p hn e1 e2
  have e3:m0 (qBF (pI (qW x)))=Int.ofNat f /\ m1 (qBF (pI (qW x)))=Int.ofNat t /\ m2 (qBF (pI (qW x)))=Int.ofNat d /\ m3 (qBF (pI (qW x)))=p:=by
   rw [e1]
   exact ⟨rfl,rfl,rfl,qFN p⟩
  unfold tL
  rw [e3.1,e3.2.1,e3.2.2.1,e3.2.2.2,qRM hn,<- e2]
  rfl
 by_cases h4:x.length=4
 ·match x,h4 with
  | [a,b,c,d],_=>
    have e:pI (qW [a,b,c,d])=pI [Int.ofNat a.toNat,Int.ofNat b.toNat,Int.ofNat c.toNat,Int.ofNat d.toNat]:=rfl
    rw [pI4] at e
    have ka:=qKC (Int.ofNat a.toNat)
    by_cases hb:Int.ofNat b.toNat=42
    ·rw [if_pos hb] at e
     have hb:b=42:=by
      have:b.toNat=42:=by simp only [Int.ofNat_eq_natCast] at hb;omega
      rw [<- UInt8.ofNat_toNat (x:=b),this]
      rfl
     split at e
     ·rw [e] at h;exact absurd h err
     ·rename_i hn
      obtain ⟨t,t1,t2,t3⟩:=qIw c d (by omega)
      obtain ⟨k1,k2,k3⟩:=qgz a.toNat (UInt8.toNat_lt a) (by omega)
      refine key 0 t (kd7 (Int.ofNat a.toNat)+1).toNat false ⟨t1,fun _=>⟨k1,rfl,rfl⟩,fun h=>absurd h k2⟩ ?_ ?_
      ·rw [e,t2]
       have:kd7 (Int.ofNat a.toNat)+1=Int.ofNat (kd7 (Int.ofNat a.toNat)+1).toNat:=by simp only [Int.ofNat_eq_natCast] at ka k1 k2 hn ⊢;omega
       rw [<- this]
       rfl
      ·unfold txL
       rw [if_pos k2,k3,UInt8.ofNat_toNat,t3,hb]
       rfl
    ·rw [if_neg hb] at e
     split at e
     ·rw [e] at h;exact absurd h err
     ·rename_i hn
      obtain ⟨f,f1,f2,f3⟩:=qIw a b (by omega)
      obtain ⟨t,t1,t2,t3⟩:=qIw c d (by omega)
      rw [f2,t2] at hn e
      refine key f t 0 false ⟨t1,fun h=>absurd rfl h,fun _=>⟨f1,fun h=>hn (.inr (.inr (by rw [h])))⟩⟩ e ?_
      unfold txL
      rw [if_neg (by simp),f3,t3]
      rfl
 ·by_cases h5:x.length=5
  ·match x,h5 with
   | [a, b,c,d,z],_=>
     have e:pI (qW [a,b,c,d,z])=pI [Int.ofNat a.toNat,Int.ofNat b.toNat,Int.ofNat c.toNat,Int.ofNat d.toNat,Int.ofNat z.toNat]:=rfl
     rw [pI5] at e
     by_cases hb:Int.ofNat b.toNat=42
     ·rw [if_pos hb] at e
      rw [e] at h;exact absurd h err
     ·rw [if_neg hb] at e
      split at e
      ·rw [e] at h;exact absurd h err
      ·rename_i hn
       obtain ⟨f,f1,f2,f3⟩:=qIw a b (by omega)
       obtain ⟨t,t1,t2,t3⟩:=qIw c d (by omega)
       have hz:z=43:=by
        have:z.toNat=43:=by
         have:Int.ofNat z.toNat=43:=Decidable.not_not.1 fun h=>hn (.inr (.inr (.inr h)))
         simp only [Int.ofNat_eq_natCast] at this;omega
        rw [<- UInt8.ofNat_toNat (x:=z),this]
        rfl
       rw [f2,t2] at hn e
       refine key f t 0 true ⟨t1,fun h=>absurd rfl h,fun _=>⟨f1,fun h=>hn (.inr (.inr (.inl (by rw [h]))))⟩⟩ e ?_
       unfold txL
       rw [if_neg (by simp),f3,t3,hz]
       rfl
  ·rw [qHG (by rw [qFb];exact h4) (by rw [qFb];exact h5)] at h
   exact absurd h err
theorem qoX {ps:List (List UInt8)} (h:∀ q∈ps,code (pI (qW q))=0):∀ (k o:Nat),o+k=ps.length->tF (ps.map fun q=>qBF (pI (qW q))) k o=ps.drop o:=by
 intro k
 induction k with
 | zero=>intro o ho;rw [List.drop_of_length_le (by omega)];rfl
 | succ k ih=>
   intro o ho
   have hol:o<ps.length:=by omega
   unfold tF
   rw [ih (o+1) (by omega),List.drop_eq_getElem_cons hol]
   congr 1
   rw [List.getD_eq_getElem?_getD,List.getElem?_map,List.getElem?_eq_getElem hol]
   exact qoc (h _ (List.getElem_mem hol))
theorem qmH (N lo c1 c2:Nat) (hN:N<=1000) (xs ys:List (List Int)) (h:∀ j,j<N->ys.getD j []=nm (xs.getD (lo+j) [])):∀ (k i:Nat),i+k=N->∀ F,qFs (F+k+1) N lo N i c1 ys c2 xs=some (.inr (c1,ys,c2,xs)):=by
 intro k
 induction k with
 | zero=>
   intro i hi F
   rw [qFs.eq_2]
   unfold qLF
   rw [qZ (by simp only [Int.ofNat_eq_natCast];omega)]
 | succ k ih=>
   intro i hi F
   rw [qFs.eq_2]
   unfold qLF
   rw [qg (by simp only [Int.ofNat_eq_natCast];omega),qAN (by omega) (by omega),qAN (by omega) (by omega),tn,h i (by omega)]
   simp only [hdM]
   rw [nm0,nm1,nm2,nm3]
   simp only [beq_self_eq_true,Bool.and_self,Bool.not_true,b_f]
   rw [w_s (n:=(i:Int)+1) (by omega) (by omega)]
   exact ih (i+1) (by omega) F
theorem qmE {N lo c1 c2:Nat} (hN:N<=1000) {xs ys:List (List Int)} (h:∀ j,j<N->ys.getD j []=nm (xs.getD (lo+j) [])):qIj N lo N c1 ys c2 xs=some true:=by
 unfold qIj
 rw [qE (by simp)]
 obtain ⟨g,hg⟩:=ql N (by omega)
 have:=qmH N lo c1 c2 hN xs ys h N 0 (by omega) g
 rw [<- hg] at this
 refine (congrArg (fun m=>ob m _) this).trans ?_
 rw [qA,qCL]
theorem qZU {s:List UInt8} (hs:s.length<=1000) (nl:Nat) (n e k fr:Int) (c1:Nat) (x1:List (List Int)) (c2:Nat) (x2:List (List Int)) {pre q post:List UInt8} (h:s=pre++q++post) (hq:(32:UInt8) ∉ q):∀ (m j:Nat),j+m=q.length->∀ F,
  qBo (F+m) (bts s) nl n e k fr ((pre.length+j:Nat):Int) c1 x1 c2 x2=qBo F (bts s) nl n e k fr ((pre.length+q.length:Nat):Int) c1 x1 c2 x2:=by
 have hlen:s.length=pre.length+q.length+post.length:=by rw [h];simp;omega
 intro m
 induction m with
 | zero=>intro j hj F;rw [show j=q.length by omega];rfl
 | succ m ih=>
   intro j hj F
   have hjl:j<q.length:=by omega
   refine Eq.trans ?_ (ih (j+1) (by omega) F)
   rw [show F+(m+1)=(F+m)+1 by omega,qBo.eq_2]
   unfold qGw
   have hne:s≠[]:=by intro hh;rw [hh] at hlen;simp at hlen;omega
   have e1:(!qv (bts s) { data:=#[]})=true:=by
    rw [show qv (bts s) { data:=#[]}=qv (bts s) (bts []) from rfl,qF8]
    simpa using hne
   have e2:(qAB (bts s) (pre.length+j) != 32)=true:=by
    rw [qTK,bne_iff_ne]
    have hg:s.getD (pre.length+j) 0=q[j]:=by
     rw [List.getD_eq_getElem?_getD,h,List.append_assoc,List.getElem?_append_right (by omega),Nat.add_sub_cancel_left,List.getElem?_append_left hjl,List.getElem?_eq_getElem hjl]
     rfl
    rw [hg]
    intro hh
    have:q[j].toNat=32:=by simp only [Int.ofNat_eq_natCast] at hh;omega
    have:q[j]=32:=by rw [<- UInt8.ofNat_toNat (x:=q[j]),this];rfl
    exact hq (this ▸ List.getElem_mem hjl)
   rw [qB (qA2 (by omega)),qB (by rw [decide_eq_true_eq,qAY];simp only [Int.ofNat_eq_natCast];omega),qB e1,qB (qA2 (by omega)),qg (by rw [qAY];simp only [Int.ofNat_eq_natCast];omega),qB (qAQ (by omega) (by rw [qAY];omega)),tn,qB e2,w_s (by omega) (by omega)]
   rfl
def qIp (s:List UInt8) (nl:Nat) (n e:Int) (c1:Nat) (x1:List (List Int)) (c2:Nat) (x2:List (List Int)):(Nat×Int)⊕List (List Int)->Nat->(ByteArray×Bool×Nat×Int×Int×Int×Nat×List (List Int)×Nat×List (List Int))⊕(ByteArray×Nat×Int×Int×Int×Nat×List (List Int)×Nat×List (List Int))
 | .inl (j,c),_=>.inl (bts s,(Int.ofNat nl==0)&&((n==(j:Int))&&(e==c)),nl,n,e,(j:Int),c1,x1,c2,x2)
 | .inr _,k=>.inr (bts s,nl,n,e,(k:Int),c1,x1,c2,x2)
theorem qZT {s:List UInt8} (hs:s.length<=1000) (h0:s≠[]) (nl:Nat) (n e:Int) (c1:Nat) (x1:List (List Int)) (c2:Nat) (x2:List (List Int)):∀ (ps:List (List UInt8)),ps≠[]->(∀ p∈ps,(32:UInt8) ∉ p)->∀ (pre:List UInt8),s=pre++qT ps->∀ (k:Nat),k<=pre.length->∀ (A:List (List Int)) F,
  qBo (F+(qT ps).length+2) (bts s) nl n e k pre.length pre.length c1 x1 c2 x2=some (qIp s nl n e c1 x1 c2 x2 (pf ps k A) (k+ps.length)):=by
 have e1:(!qv (bts s) { data:=#[]})=true:=by
  rw [show qv (bts s) { data:=#[]}=qv (bts s) (bts []) from rfl,qF8]
  simpa using h0
 intro ps
 induction ps with
 | nil=>intro h;exact absurd rfl h
 | cons q r ih=>
   intro _ hsp pre hpre k hk A F
   have hq:=hsp q (by simp)
   have verdict:∀ (R:Option ((ByteArray×Bool×Nat×Int×Int×Int×Nat×List (List Int)×Nat×List (List Int))⊕(ByteArray×Nat×Int×Int×Int×Nat×List (List Int)×Nat×List (List Int)))) (c:Int),c≠0->
     (br (c != 0) (br (Int.ofNat nl==0) (br (n==(k:Int)) (some (Sum.inl (bts s,e==c,nl,n,e,(k:Int),c1,x1,c2,x2))) (some (Sum.inl (bts s,false,nl,n,e,(k:Int),c1,x1,c2,x2)))) (some (Sum.inl (bts s,false,nl,n,e,(k:Int),c1,x1,c2,x2)))) R) =
     some (qIp s nl n e c1 x1 c2 x2 (.inl (k,c)) (k+(q :: r).length)):=by
    intro R c hc
    rw [qB (by simpa using hc)]
    show _=some (Sum.inl (bts s,(Int.ofNat nl==0)&&((n==(k:Int))&&(e==c)),nl,n,e,(k:Int),c1,x1,c2,x2))
    cases (Int.ofNat nl==0)<;>cases (n==(k:Int))<;>rfl
   cases r with
   | nil=>
     have hj:qT [q]=q:=rfl
     rw [hj] at hpre ⊢
     have hlen:s.length=pre.length+q.length:=by rw [hpre];simp
     have st:=qZU hs nl n e k pre.length c1 x1 c2 x2 (pre:=pre) (q:=q) (post:=[]) (by simpa using hpre) hq q.length 0 (by omega) (F+2)
     simp only [Nat.add_zero] at st
     rw [show F+q.length+2=F+2+q.length by omega,st,qBo.eq_2]
     unfold qGw
     rw [qB (qA2 (by omega)),qB (by rw [decide_eq_true_eq,qAY];simp only [Int.ofNat_eq_natCast];omega),qB e1,qB (qA2 (by omega)),qZ (by rw [qAY];simp only [Int.ofNat_eq_natCast];omega)]
     rw [qB (by rw [qAY,qEq (by omega) (by omega),qEq (by omega) (by omega)];rfl),tn,tn,qEi]
     have ex:(s.take (pre.length+q.length)).drop pre.length=q:=by rw [hpre,List.take_of_length_le (by simp),List.drop_left]
     rw [ex,qZO (by omega),qA]
     unfold pf
     generalize hv:pI (qW q)=v
     obtain ⟨v1,v2,v3,v4,v5⟩:=v
     simp only
     by_cases h:v5=0
     ·subst h
      rw [qE (by rfl),if_neg (by simp [code]),w_s (n:=(k:Int)+1) (by omega) (by omega),w_s (by omega) (by omega),qBo.eq_2]
      unfold qGw
      rw [qB (qA2 (by omega)),qE (by rw [decide_eq_false_iff_not,qAY];simp only [Int.ofNat_eq_natCast];omega)]
      rfl
     ·rw [if_pos (by exact h)]
      exact verdict _ v5 h
   | cons q2 r=>
     have hj:qT (q :: q2 :: r)=q++32 :: qT (q2 :: r):=rfl
     rw [hj] at hpre ⊢
     have hlen:s.length=pre.length+q.length+1+(qT (q2 :: r)).length:=by rw [hpre];simp;omega
     have st:=qZU hs nl n e k pre.length c1 x1 c2 x2 (pre:=pre) (q:=q) (post:=32 :: qT (q2 :: r)) (by rw [hpre];simp) hq q.length 0 (by omega) (F+(qT (q2 :: r)).length+3)
     simp only [Nat.add_zero] at st
     have hl2:(q++32 :: qT (q2 :: r)).length=q.length+1+(qT (q2 :: r)).length:=by simp;omega
     rw [hl2,show F+(q.length+1+(qT (q2 :: r)).length)+2=F+(qT (q2 :: r)).length+3+q.length by omega,st,qBo.eq_2]
     unfold qGw
     have e2:(qAB (bts s) (pre.length+q.length) != 32)=false:=by
      rw [qTK]
      have hg:s.getD (pre.length+q.length) 0=32:=by
       rw [List.getD_eq_getElem?_getD,hpre,List.getElem?_append_right (by omega),Nat.add_sub_cancel_left,List.getElem?_append_right (by omega),Nat.sub_self]
       rfl
      rw [hg]
      rfl
     rw [qB (qA2 (by omega)),qB (by rw [decide_eq_true_eq,qAY];simp only [Int.ofNat_eq_natCast];omega),qB e1,qB (qA2 (by omega)),qg (by rw [qAY];simp only [Int.ofNat_eq_natCast];omega),qB (qAQ (by omega) (by rw [qAY];omega)),tn,qE e2]
     rw [qB (by rw [qAY,qEq (by omega) (by omega),qEq (by omega) (by omega)];rfl),tn,qEi]
     have ex:(s.take (pre.length+q.length)).drop pre.length=q:=by rw [hpre,<- List.append_assoc,List.take_left' (by simp),List.drop_left]
     rw [ex,qZO (by omega),qA]
     unfold pf
     generalize hv:pI (qW q)=v
     obtain ⟨v1,v2,v3,v4,v5⟩:=v
     simp only
     by_cases h:v5=0
     ·subst h
      rw [qE (by rfl),if_neg (by simp [code]),w_s (n:=(k:Int)+1) (by omega) (by omega),w_s (by omega) (by omega)]
      have:=ih (by simp) (fun p hp=>hsp p (List.mem_cons_of_mem _ hp)) (pre++q++[32]) (by rw [hpre];simp) (k+1) (by simp;omega) (A++[qBF (v1,v2,v3,v4,0)]) F
      have e3:(pre++q++[32]).length=pre.length+q.length+1:=by simp;omega
      rw [e3] at this
      refine Eq.trans ?_ (this.trans ?_)
      ·rfl
      ·rw [show k+1+(q2 :: r).length=k+(q :: q2 :: r).length by simp;omega]
     ·rw [if_pos (by exact h)]
      exact verdict _ v5 h
theorem qXk:∀ (ps:List (List UInt8)) (i:Nat) (A:List (List Int)),(∀ q∈ps,code (pI (qW q))=0)->pf ps i A=.inr (A++ps.map fun q=>qBF (pI (qW q)))
 | [],i,A,_=>by simp [pf]
 | q :: r,i,A,h=>by
   unfold pf
   rw [if_neg (by simpa using h q (by simp)),qXk r (i+1) _ fun x hx=>h x (by simp [hx])]
   simp
theorem qRK (xs:List (List Int)):∀ (k o j:Nat),j<k->(tF xs k o)[j]? = some (tL (xs.getD (o+j) []))
 | k+1,o,0,_=>rfl
 | k+1,o,j+1,h=>by
   show (tF xs k (o+1))[j]? = _
   rw [qRK xs k (o+1) j (by omega),show o+1+j=o+(j+1) by omega]
theorem qbp (l:List UInt8) (hl:l.length<=500) (cap:Nat) (xs:List (List Int)):(ob (qCY (bts l)) fun (a20_0,a20_1,a20_2,a20_3,a20_4)=>
  ob (qBo qD (bts l) a20_0 a20_1 a20_2 0 0 0 cap xs a20_3 a20_4) fun t25_2=>
  sw t25_2 (fun (_,a25_1,_,_,_,_,_,_,_,_)=>
   some (a25_1))
   (fun (a25_0,a25_1,a25_2,a25_3,a25_4,_,_,a25_7,a25_8)=>
   br (a25_3==0)
    (br (a25_2==a25_4)
     (br (Int.ofNat a25_1==a25_4)
      (ob (qDz a25_1 a25_7 a25_8) fun a34=>
      some (qv a34 a25_0))
      (some (false)))
     (some (false)))
    (some (false))))=some true:=by
 by_cases h0:l=[]
 ·subst h0
  rw [qO6,qA]
  simp only
  obtain ⟨g,hg⟩:=ql 0 (by omega)
  have:qBo qD (bts []) 0 0 0 0 0 0 cap xs 0 []=some (.inr (bts [],0,0,0,0,cap,xs,0,[])):=by
   rw [hg,qBo.eq_2]
   rfl
  rw [this,qA,qCL]
  simp only [beq_self_eq_true,b_t]
  rw [qbr 0 0 (by omega),qA]
  rfl
 ·obtain ⟨ps,p0,p1,rfl⟩:=qYE l
  have hlen:=qWA p1 p0
  obtain ⟨g,hg⟩:=ql ((qT ps).length+1) (by omega)
  rw [qO7 p0 p1 h0 (by omega),qA]
  cases hpf:pf ps 0 [] with
  | inl x=>
    obtain ⟨j,c⟩:=x
    simp only
    have:=qZT (s:=qT ps) (by omega) h0 0 (j:Int) c cap xs 0 [] ps p0 p1 [] rfl 0 (Nat.zero_le _) [] g
    rw [hpf,<- show qD=g+(qT ps).length+2 by omega] at this
    refine (congrArg (fun m=>ob m _) this).trans ?_
    rw [qA]
    show some ((Int.ofNat 0==0)&&(((j:Int)==(j:Int))&&(c==c)))=some true
    simp
  | inr C=>
    simp only
    obtain ⟨_,q2,q3⟩:=(qXj ps 0 [] []).2 C hpf
    rw [List.nil_append] at q2
    have hC:C.length=ps.length:=by rw [q2,List.length_map]
    have:=qZT (s:=qT ps) (by omega) h0 C.length (C.length:Int) 0 cap xs C.length C ps p0 p1 [] rfl 0 (Nat.zero_le _) [] g
    rw [hpf,<- show qD=g+(qT ps).length+2 by omega] at this
    refine (congrArg (fun m=>ob m _) this).trans ?_
    rw [qA]
    show br ((0:Int)==0) (br ((C.length:Int)==((0+ps.length:Nat):Int)) (br (Int.ofNat C.length==((0+ps.length:Nat):Int)) (ob (qDz C.length C.length C) fun a34=>some (qv a34 (bts (qT ps)))) (some false)) (some false)) (some false)=some true
    rw [qB (by rfl),qB (by rw [beq_iff_eq];omega),qB (by rw [beq_iff_eq];simp only [Int.ofNat_eq_natCast];omega),qbr _ _ (by omega),qA]
    have:tF C C.length 0=ps:=by
     have:=qoX q3 ps.length 0 (by omega)
     rw [List.drop_zero] at this
     rw [hC,q2]
     exact this
    rw [this,qF8]
    simp
theorem qiB (lo N cap:Nat) (xs:List (List Int)) {s:ByteArray} (hs:s.size<=9223372036854775807):qGu lo N cap xs s=some true:=by
 obtain ⟨⟨l⟩⟩:=s
 show qGu lo N cap xs (bts l)=some true
 have hs:l.length<=9223372036854775807:=hs
 unfold qGu
 rw [qiZ,qA]
 simp only [Bool.not_true,b_f]
 by_cases hn:Int.ofNat N>50
 ·rw [qB (by simpa using hn)]
 have hN:N<=50:=by simp only [Int.ofNat_eq_natCast] at hn;omega
 rw [qE (by simpa using hn),qB (by rw [decide_eq_true_eq];unfold qr;show ((l.length:Nat):Int)<=_;omega)]
 by_cases hl:Int.ofNat (bts l).size>500
 ·rw [qB (by simpa using hl)]
 have hl':l.length<=500:=by rw [qAY] at hl;simp only [Int.ofNat_eq_natCast] at hl;omega
 rw [qE (by simpa using hl)]
 obtain ⟨g,hg⟩:=ql N (by omega)
 have hw:=qo8 lo N cap (by omega) xs (bts l) N 0 (by omega) [] rfl (fun p hp=>by cases hp) true g
 rw [<- hg,List.nil_append,Nat.add_zero,Bool.true_and] at hw
 refine (congrArg (fun m=>ob m _) hw).trans ?_
 rw [qA]
 simp only
 rw [qob lo N cap (by omega),qA,qF8]
 simp only [decide_true,Bool.not_true,b_f]
 have hTl:=qFG xs N lo
 have hT5:∀ p∈tF xs N lo,p.length<=5:=fun p hp=>by obtain ⟨m,rfl⟩:=qHp xs N lo p hp;exact (qES m).2.2.1
 have hT32:∀ p∈tF xs N lo,(32:UInt8) ∉ p:=fun p hp=>by obtain ⟨m,rfl⟩:=qHp xs N lo p hp;exact (qES m).2.2.2.1
 have hJ:=qIM hT5
 rw [hTl] at hJ
 cases hg2:(tF xs N lo).all fun p=>decide (p≠[]) with
 | true=>
   rw [List.all_eq_true] at hg2
   have hne:∀ p∈tF xs N lo,p≠[]:=fun p hp=>by simpa using hg2 p hp
   have hcode:∀ q∈tF xs N lo,code (pI (qW q))=0:=fun q hq=>by
    obtain ⟨m,rfl⟩:=qHp xs N lo q hq
    rw [(qES m).2.2.2.2 (hne _ hq)]
    rfl
   have hp:∃ c rows,qCY (bts (qT (tF xs N lo)))=some (N,(N:Int),0,c,rows) /\ ∀ j,j<N->rows.getD j []=nm (xs.getD (lo+j) []):=by
    by_cases h0:N=0
    ·subst h0
     exact ⟨0,[],qO6,fun j hj=>by omega⟩
    ·have t0:tF xs N lo≠[]:=by intro h;rw [h] at hTl;exact h0 hTl.symm
     have j0:qT (tF xs N lo)≠[]:=by
      intro h
      have h1:=qgv h t0
      exact hne [] (by rw [h1];simp) rfl
     refine ⟨N,(tF xs N lo).map fun q=>qBF (pI (qW q)),?_,fun j hj=>?_⟩
     ·rw [qO7 t0 hT32 j0 (by omega),qXk _ 0 [] hcode]
      simp only [List.nil_append,List.length_map,hTl]
     ·rw [List.getD_eq_getElem?_getD,List.getElem?_map,qRK xs N lo j hj]
      have hm:tL (xs.getD (lo+j) [])∈tF xs N lo:=List.mem_of_getElem? (qRK xs N lo j hj)
      show qBF (pI (qW (tL (xs.getD (lo+j) []))))=_
      rw [(qES (xs.getD (lo+j) [])).2.2.2.2 (hne _ hm)]
      rfl
   obtain ⟨c,rows,h1,h2⟩:=hp
   rw [h1,qA]
   simp only [b_t,bne_self_eq_false,b_f]
   rw [qE (by rw [bne_eq_false_iff_eq];rfl),qmE (by omega) h2,qA]
   simp only [Bool.not_true,b_f]
   exact qbp l hl' cap xs
 | false=>
   have hp:∃ v,qCY (bts (qT (tF xs N lo)))=some v:=by
    by_cases h0:qT (tF xs N lo)=[]
    ·rw [h0];exact ⟨_,qO6⟩
    ·have t0:tF xs N lo≠[]:=by intro h;rw [h] at h0;exact h0 rfl
     exact ⟨_,qO7 t0 hT32 h0 (by omega)⟩
   obtain ⟨v,hv⟩:=hp
   rw [hv,qA]
   simp only [b_f]
   exact qbp l hl' cap xs
end Go.Kk.Pl
