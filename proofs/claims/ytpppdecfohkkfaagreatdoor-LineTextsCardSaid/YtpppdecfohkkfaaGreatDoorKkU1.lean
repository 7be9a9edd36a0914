/- What the program's functions come to, told plainly: the texts of this project that this claim leans on, cut down to what is used. -/
import Derived.Test.YtpppdecfohkkfaaGreatDoorKkPl
import Derived.Test.YtpppdecfohkkfaaGreatDoorKkO
namespace Go.Kk.Pl
theorem qB {α:Type} {b:Bool} {x y:α} (h:b=true):br b x y=x:=by subst h;rfl
theorem qE {α:Type} {b:Bool} {x y:α} (h:b=false):br b x y=y:=by subst h;rfl
theorem qJg {α:Type} (b:Bool) (x y:α):br b x y=if b=true then x else y:=by cases b<;>rfl
theorem qGR {α:Type} {b:Bool} {x y:Option α} (hx:∃ v,x=some v) (hy:∃ v,y=some v):∃ v,br b x y=some v:=by cases b<;>assumption
theorem qFk {α β:Type} {m:Option α} {k:α->Option β} (hm:∃ v,m=some v) (hk:∀ a,∃ v,k a=some v):∃ v,ob m k=some v:=by
 obtain ⟨a,rfl⟩:=hm
 exact hk a
theorem qA {α β:Type} (a:α) (k:α->Option β):ob (some a) k=k a:=rfl
theorem qoW {α β γ:Type} (a:α) (f:α->Option γ) (g:β->Option γ):sw (.inl a) f g=f a:=rfl
theorem qCL {α β γ:Type} (a:β) (f:α->Option γ) (g:β->Option γ):sw (.inr a) f g=g a:=rfl
theorem qL3 {n:Int} (h1:-9223372036854775808<=n) (h2:n<=9223372036854775807):IntKind.wrap .i64 n=n:=qA5 h1 h2
theorem qAb {n:Int} (h1:-1000000000<=n) (h2:n<=1000000000):IntKind.wrap .i64 n=n:=qL3 (by omega) (by omega)
theorem qAQ {x:Int} {n:Nat} (h1:0<=x) (h2:x<n):inB x n=true:=by simp [inB,h1,h2]
theorem qEq {x:Int} {n:Nat} (h1:0<=x) (h2:x<=n):qz x n=true:=by simp [qz,h1,h2]
theorem ql (n:Nat) (h:n<=1000000):∃ f,qD=f+n+1:=⟨qD - n - 1,by unfold qD;omega⟩
end Go.Kk.Pl
namespace Go.Kk.Pl
def qX (f:Nat->Bool):Nat->Nat
 | 0=>0
 | n+1=>qX f n+bif f n then 2 ^ n else 0
theorem qDm (f:Nat->Bool):∀ n,qX f n<2 ^ n
 | 0=>Nat.one_pos
 | n+1=>by
   have:=qDm f n
   simp only [qX]
   rw [Nat.pow_succ]
   cases f n<;>simp<;>omega
theorem qBS (f:Nat->Bool):∀ n i,(qX f n).testBit i=(decide (i<n)&&f i)
 | 0,i=>by simp [qX]
 | n + 1,i=>by
   have ih:=qBS f n
   have hlt:=qDm f n
   have e:qX f (n+1)=2 ^ n*(f n).toNat+qX f n:=by
    simp only [qX]
    cases f n<;>simp [Nat.add_comm]
   rw [e,Nat.testBit_two_pow_mul_add _ hlt]
   by_cases h:i<n
   ·rw [if_pos h,ih i]
    simp [h,show i<n+1 by omega]
   ·rw [if_neg h]
    by_cases h2:i=n
    ·subst h2
     simp only [Nat.sub_self,Nat.lt_succ_self,decide_true,Bool.true_and]
     cases f i<;>rfl
    ·rw [show decide (i<n+1)=false by simp;omega,Bool.false_and]
     have:1<=i - n:=by omega
     obtain ⟨k,hk⟩:∃ k,i - n=k+1:=⟨i - n - 1,by omega⟩
     rw [hk]
     cases f n
     ·simp
     ·show Nat.testBit 1 (k+1)=false
      rw [Nat.testBit_succ];simp
theorem qEc {f g:Nat->Bool}:∀ {n:Nat},(∀ i,i<n->f i=g i)->qX f n=qX g n
 | 0,_=>rfl
 | n+1,h=>by
   simp only [qX]
   rw [qEc fun i hi=>h i (by omega),h n (by omega)]
theorem qSA {f g:Nat->Bool} {n:Nat} (h:qX f n=qX g n):∀ i,i<n->f i=g i:=by
 intro i hi
 have h1:=qBS f n i
 have h2:=qBS g n i
 rw [h,h2] at h1
 simpa [hi] using h1.symm
theorem qJM {f:Nat->Bool} {n x:Nat} (hx:x<2 ^ n) (h:∀ i,i<n->x.testBit i=f i):x=qX f n:=by
 apply Nat.eq_of_testBit_eq
 intro i
 rw [qBS]
 by_cases hi:i<n
 ·simp [hi,h i hi]
 ·rw [show decide (i<n)=false by simp [hi],Bool.false_and]
  exact Nat.testBit_lt_two_pow (Nat.lt_of_lt_of_le hx (Nat.pow_le_pow_right (by omega) (by omega)))
theorem qDh {n:Nat} (h:n<2 ^ 64):IntKind.wrap .u64 (n:Int)=n:=by
 refine qA5 ?_ ?_<;>simp [IntKind.min,IntKind.max,IntKind.signed,IntKind.bits]<;>omega
theorem qEz (a:Nat):BitVec.ofInt 64 (a:Int)=BitVec.ofNat 64 a:=by simp
theorem qDl {a b:Nat} (ha:a<2 ^ 64) (hb:b<2 ^ 64):qF .and .u64 (a:Int) (b:Int)=((a &&& b:Nat):Int):=by
 unfold qF
 show IntKind.wrap .u64 _=_
 rw [show IntKind.bits .u64=64 from rfl,qEz,qEz,BitVec.toNat_and,BitVec.toNat_ofNat,BitVec.toNat_ofNat,Nat.mod_eq_of_lt ha,Nat.mod_eq_of_lt hb]
 exact qDh (Nat.lt_of_le_of_lt Nat.and_le_left ha)
theorem qdU {a b:Nat} (ha:a<2 ^ 64) (hb:b<2 ^ 64):qF .or .u64 (a:Int) (b:Int)=((a ||| b:Nat):Int):=by
 unfold qF
 show IntKind.wrap .u64 _=_
 rw [show IntKind.bits .u64=64 from rfl,qEz,qEz,BitVec.toNat_or,BitVec.toNat_ofNat,BitVec.toNat_ofNat,Nat.mod_eq_of_lt ha,Nat.mod_eq_of_lt hb]
 exact qDh (Nat.or_lt_two_pow ha hb)
theorem qdT {a b:Nat} (ha:a<2 ^ 64) (hb:b<2 ^ 64):qF .andNot .u64 (a:Int) (b:Int)=((a &&& (2 ^ 64 - (b+1)):Nat):Int):=by
 unfold qF
 show IntKind.wrap .u64 _=_
 rw [show IntKind.bits .u64=64 from rfl,qEz,qEz,BitVec.toNat_and,BitVec.toNat_not,BitVec.toNat_ofNat,BitVec.toNat_ofNat,Nat.mod_eq_of_lt ha,Nat.mod_eq_of_lt hb]
 rw [show 2 ^ 64 - 1 - b=2 ^ 64 - (b+1) by omega]
 exact qDh (Nat.lt_of_le_of_lt Nat.and_le_left ha)
theorem qBX (f:Nat->Bool) {n:Nat} (h:n<=64):qX f n<2 ^ 64:=Nat.lt_of_lt_of_le (qDm f n) (Nat.pow_le_pow_right (by omega) h)
theorem qRj (f g:Nat->Bool) {n:Nat} (h:n<=64):qF .and .u64 (qX f n:Nat) (qX g n:Nat)=(qX (fun i=>f i&&g i) n:Nat):=by
 rw [qDl (qBX f h) (qBX g h)]
 congr 1
 refine qJM (Nat.lt_of_le_of_lt Nat.and_le_left (qDm f n)) fun i hi=>?_
 rw [Nat.testBit_and,qBS,qBS]
 simp [hi]
theorem qXd (f g:Nat->Bool) {n:Nat} (h:n<=64):qF .or .u64 (qX f n:Nat) (qX g n:Nat)=(qX (fun i=>f i||g i) n:Nat):=by
 rw [qdU (qBX f h) (qBX g h)]
 congr 1
 refine qJM (Nat.or_lt_two_pow (qDm f n) (qDm g n)) fun i hi=>?_
 rw [Nat.testBit_or,qBS,qBS]
 simp [hi]
theorem qRi (f g:Nat->Bool) {n:Nat} (h:n<=64):qF .andNot .u64 (qX f n:Nat) (qX g n:Nat)=(qX (fun i=>f i && !g i) n:Nat):=by
 rw [qdT (qBX f h) (qBX g h)]
 congr 1
 refine qJM (Nat.lt_of_le_of_lt Nat.and_le_left (qDm f n)) fun i hi=>?_
 rw [Nat.testBit_and,qBS,Nat.testBit_two_pow_sub_succ (qBX g h),qBS]
 simp [hi,show i<64 by omega]
def sLo (f:Nat->Bool):Int:=(qX f 63:Nat)
def sHi (f:Nat->Bool):Int:=(qX (fun i=>f (63+i)) 18:Nat)
def only (q:Int) (i:Nat):Bool:=decide ((i:Int)=q)
def has (f:Nat->Bool) (q:Int):Bool:=decide (0<=q)&&(decide (q<81)&&f q.toNat)
def isE (f:Nat->Bool):Bool:=(List.range 81).all fun i=>!f i
theorem qBu {f g:Nat->Bool} (h:∀ i,i<81->f i=g i):sLo f=sLo g /\ sHi f=sHi g:=by
 unfold sLo sHi
 rw [qEc (f:=f) (g:=g) fun i hi=>h i (by omega),qEc (f:=fun i=>f (63+i)) (g:=fun i=>g (63+i)) fun i hi=>h _ (by omega)]
 exact ⟨rfl,rfl⟩
theorem qnA {f g:Nat->Bool} (h1:sLo f=sLo g) (h2:sHi f=sHi g):∀ i,i<81->f i=g i:=by
 intro i hi
 unfold sLo at h1
 unfold sHi at h2
 by_cases h:i<63
 ·exact qSA (Int.ofNat.inj h1) i h
 ·have:=qSA (Int.ofNat.inj h2) (i - 63) (by omega)
  simpa [show 63+(i - 63)=i by omega] using this
theorem qm7 (f g:Nat->Bool):(sLo f==sLo g&&sHi f==sHi g)=(List.range 81).all fun i=>f i==g i:=by
 rw [Bool.eq_iff_iff]
 simp only [Bool.and_eq_true,beq_iff_eq,List.all_eq_true,List.mem_range]
 exact ⟨fun h i hi=>qnA h.1 h.2 i hi,fun h=>qBu h⟩
theorem qJN:∀ n,qX (fun _=>false) n=0
 | 0=>rfl
 | n+1=>by simp [qX,qJN n]
theorem qBf:sLo (fun _=>false)=0:=by unfold sLo;rw [qJN];rfl
theorem qBe:sHi (fun _=>false)=0:=by unfold sHi;rw [qJN];rfl
theorem qfd (f:Nat->Bool):(sLo f==0&&sHi f==0)=isE f:=by
 have:=qm7 f fun _=>false
 rw [qBf,qBe] at this
 rw [this]
 unfold isE
 congr 1
 funext i
 cases f i<;>rfl
theorem qCV {f:Nat->Bool}:isE f=true ↔ ∀ i,i<81->f i=false:=by simp [isE]
theorem qdS:∀ q:Fin 81,qFB ((q.val:Nat):Int)=some (sLo (only ((q.val:Nat):Int)),sHi (only ((q.val:Nat):Int))):=by decide +kernel
theorem qkE {q:Int} (h:¬ (0<=q /\ q<81)):sLo (only q)=0 /\ sHi (only q)=0:=by
 have h:=qBu (f:=only q) (g:=fun _=>false) fun i hi=>by unfold only;simp;omega
 rw [qBf,qBe] at h
 exact h
theorem qMW (q:Int):qFB q=some (sLo (only q),sHi (only q)):=by
 by_cases h:0<=q /\ q<81
 ·have:=qdS ⟨q.toNat,by omega⟩
  simpa [show ((q.toNat:Nat):Int)=q by omega] using this
 ·obtain ⟨h1,h2⟩:=qkE h
  rw [h1,h2]
  unfold qFB
  by_cases h0:q<0
  ·rw [qB (by simpa using h0)]
  ·rw [qE (by simpa using h0),qB (by simp;omega)]
theorem qHE (f g:Nat->Bool):qDb (sLo f) (sHi f) (sLo g) (sHi g)=some (sLo fun i=>f i||g i,sHi fun i=>f i||g i):=by
 unfold qDb sLo sHi
 rw [qXd _ _ (by omega),qXd _ _ (by omega)]
theorem qFI (f g:Nat->Bool):qCe (sLo f) (sHi f) (sLo g) (sHi g)=some (sLo fun i=>f i&&g i,sHi fun i=>f i&&g i):=by
 unfold qCe sLo sHi
 rw [qRj _ _ (by omega),qRj _ _ (by omega)]
theorem qKd (f g:Nat->Bool):qE7 (sLo f) (sHi f) (sLo g) (sHi g)=some (sLo fun i=>f i && !g i,sHi fun i=>f i && !g i):=by
 unfold qE7 sLo sHi
 rw [qRi _ _ (by omega),qRi _ _ (by omega)]
theorem qGB (f:Nat->Bool) (q:Int):qA1 (sLo f) (sHi f) q=some (sLo fun i=>f i||only q i,sHi fun i=>f i||only q i):=by
 unfold qA1
 rw [qMW,qA]
 simp only
 rw [qHE,qA]
theorem qJD (f:Nat->Bool) (q:Int):qEL (sLo f) (sHi f) q=some (sLo fun i=>f i && !only q i,sHi fun i=>f i && !only q i):=by
 unfold qEL
 rw [qMW,qA]
 simp only
 rw [qKd,qA]
theorem qJr (f:Nat->Bool):qEI (sLo f) (sHi f)=some (isE f):=by
 unfold qEI
 rw [qfd]
theorem qDt (f:Nat->Bool) (q:Int):qB1 (sLo f) (sHi f) q=some (has f q):=by
 unfold qB1
 rw [qMW,qA]
 simp only
 rw [qFI,qA]
 simp only
 rw [qJr,qA]
 congr 1
 rw [Bool.eq_iff_iff]
 unfold has
 simp only [Bool.not_eq_true',Bool.and_eq_true,decide_eq_true_eq]
 constructor
 ·intro h
  rw [Bool.eq_false_iff] at h
  simp only [ne_eq,qCV] at h
  by_cases hq:0<=q /\ q<81
  ·refine ⟨hq.1,hq.2,?_⟩
   by_cases hf:f q.toNat=true
   ·exact hf
   ·refine absurd (fun i hi=>?_) h
    unfold only
    by_cases hiq:(i:Int)=q
    ·have:i=q.toNat:=by omega
     subst this
     simp at hf
     simp [hf]
    ·simp [hiq]
  ·refine absurd (fun i hi=>?_) h
   unfold only
   have:¬ (i:Int)=q:=by omega
   simp [this]
 ·intro ⟨h0,h1,h2⟩
  rw [Bool.eq_false_iff]
  simp only [ne_eq,qCV]
  intro h
  have:=h q.toNat (by omega)
  simp [only,h2,show max q 0=q by omega] at this
end Go.Kk.Pl
namespace Go.Kk.Pl
theorem qGx {p:Nat->Bool} {j n:Nat} (h:∃ i,j<=i /\ i<n /\ p i=true):∃ k,j<=k /\ k<n /\ p k=true /\ ∀ i,j<=i->i<k->p i=false:=by
 obtain ⟨i,h1,h2,h3⟩:=h
 induction hd:i - j generalizing i j with
 | zero=>exact ⟨i,h1,h2,h3,fun x a b=>by omega⟩
 | succ d ih=>
   cases hp:p j with
   | true=>exact ⟨j,Nat.le_refl _,by omega,hp,fun x a b=>by omega⟩
   | false=>
     obtain ⟨k,a,b,c,e⟩:=ih (j:=j+1) i (by omega) h2 h3 (by omega)
     refine ⟨k,by omega,b,c,fun x a' b'=>?_⟩
     by_cases hx:x=j
     ·subst hx;exact hp
     ·exact e x (by omega) b'
section
variable {f:Nat->Bool} {n k:Nat} (hk:k<n) (hf:f k=true) (hl:∀ i,i<k->f i=false)
include hk hf hl
theorem qWh:qX f n=2 ^ (k+1)*(qX f n / 2 ^ (k+1))+2 ^ k:=by
 have h1:=Nat.div_add_mod (qX f n) (2 ^ (k+1))
 have h2:qX f n % 2 ^ (k+1)=2 ^ k:=by
  apply Nat.eq_of_testBit_eq
  intro i
  rw [Nat.testBit_mod_two_pow,qBS,Nat.testBit_two_pow]
  by_cases h:i<k
  ·rw [hl i h];simp;omega
  ·by_cases h3:i=k
   ·subst h3;simp [hf,hk]
   ·rw [show decide (i<k+1)=false by simp;omega,Bool.false_and];simp;omega
 omega
theorem qWg (i:Nat):(qX f n - 1).testBit i=if i<k then true else if i=k then false else (qX f n).testBit i:=by
 have h:=qWh hk hf hl
 have hp:0<2 ^ k:=Nat.two_pow_pos k
 have h2:qX f n - 1=2 ^ (k+1)*(qX f n / 2 ^ (k+1))+(2 ^ k - 1):=by omega
 have hlt:2 ^ k - 1<2 ^ (k+1):=by rw [Nat.pow_succ];omega
 have hlt2:2 ^ k<2 ^ (k+1):=by rw [Nat.pow_succ];omega
 rw [h2,Nat.testBit_two_pow_mul_add _ hlt,Nat.testBit_two_pow_sub_one]
 by_cases h3:i<k
 ·simp [h3,show i<k+1 by omega]
 ·by_cases h4:i=k
  ·subst h4;simp
  ·rw [if_neg (by omega),if_neg h3,if_neg h4]
   conv=>rhs;rw [h,Nat.testBit_two_pow_mul_add _ hlt2,if_neg (by omega)]
theorem qG8:0<qX f n:=by
 have:=qWh hk hf hl
 have hp:0<2 ^ k:=Nat.two_pow_pos k
 omega
theorem qib (hn:n<=64):qX f n &&& (2 ^ 64 - qX f n)=2 ^ k:=by
 have hpos:=qG8 hk hf hl
 apply Nat.eq_of_testBit_eq
 intro i
 have e:2 ^ 64 - qX f n=2 ^ 64 - ((qX f n - 1)+1):=by omega
 have hlt:=qBX f hn
 rw [Nat.testBit_and,e,Nat.testBit_two_pow_sub_succ (by omega),qWg hk hf hl,Nat.testBit_two_pow]
 by_cases h3:i<k
 ·rw [if_pos h3];simp;omega
 ·by_cases h4:i=k
  ·subst h4
   rw [qBS]
   simp [hf,hk];omega
  ·rw [if_neg h3,if_neg h4]
   cases (qX f n).testBit i<;>simp<;>omega
theorem qWf:qX f n &&& (qX f n - 1)=qX (fun i=>f i&&decide (k<i)) n:=by
 refine qJM (Nat.lt_of_le_of_lt Nat.and_le_left (qDm f n)) fun i hi=>?_
 rw [Nat.testBit_and,qWg hk hf hl,qBS]
 by_cases h3:i<k
 ·rw [hl i h3];simp
 ·by_cases h4:i=k
  ·subst h4;simp
  ·rw [if_neg h3,if_neg h4]
   simp [hi,show k<i by omega]
end
theorem qos:∀ k:Fin 64,inB (Int.fdiv (IntKind.wrap IntKind.u64 (((2 ^ k.val:Nat):Int)*285870213051353865)) 288230376151711744) 64=true /\
  conv IntKind.u8 IntKind.i64 (List.getD [0,1,56,2,57,49,28,3,61,58,42,50,38,29,17,4,62,47,59,36,45,43,51,22,53,39,33,30,24,18,12,5,63,55,48,27,60,41,37,16,46,35,44,21,52,32,23,11,54,26,40,15,34,20,31,10,25,14,19,9,13,8,7,6] (Int.toNat (Int.fdiv (IntKind.wrap IntKind.u64 (((2 ^ k.val:Nat):Int)*285870213051353865)) 288230376151711744)) 0)=((k.val:Nat):Int):=by decide +kernel
theorem qjJ {x:Nat} (h0:0<x) (h1:x<2 ^ 64):IntKind.wrap .u64 (0 - (x:Int))=((2 ^ 64 - x:Nat):Int):=by
 have:(0 - (x:Int)) % 18446744073709551616=18446744073709551616 - x:=by omega
 simp only [IntKind.wrap,IntKind.signed,IntKind.bits]
 simp
 omega
theorem qYJ {x:Nat} (h0:0<x) (h1:x<2 ^ 64):IntKind.wrap .u64 ((x:Int) - 1)=((x - 1:Nat):Int):=by
 rw [show (x:Int) - 1=((x - 1:Nat):Int) by omega]
 exact qDh (by omega)
theorem qLy {f:Nat->Bool} {n k:Nat} (hn:n<=64) (hk:k<n) (hf:f k=true) (hl:∀ i,i<k->f i=false):qEd (qX f n:Nat)=some (k:Int):=by
 have hpos:=qG8 hk hf hl
 have hlt:=qBX f hn
 unfold qEd qMX
 rw [qE (by simp;omega),qjJ hpos hlt,qDl hlt (by omega),qib hk hf hl hn]
 obtain ⟨a,b⟩:=qos ⟨k,by omega⟩
 simp only at a b
 rw [qB a,b]
theorem qJO {f:Nat->Bool} {n:Nat}:qX f n=0 ↔ ∀ i,i<n->f i=false:=by
 constructor
 ·intro h i hi
  have:=qBS f n i
  rw [h] at this
  simpa [hi] using this.symm
 ·intro h
  rw [qEc (g:=fun _=>false) h,qJN]
def fst (f:Nat->Bool):Int:=match (List.range 81).find? f with
 | some i=>i
 | none=>-1
theorem qNg {f:Nat->Bool} {k:Nat} (hk:k<81) (hf:f k=true) (hl:∀ i,i<k->f i=false):fst f=k:=by
 unfold fst
 have:(List.range 81).find? f=some k:=by
  rw [List.find?_eq_some_iff_getElem]
  exact ⟨hf,k,by simpa using hk,by simp,fun j hj=>by simp [hl j hj]⟩
 rw [this]
theorem qf8 {f:Nat->Bool} (h:∀ i,i<81->f i=false):fst f = -1:=by
 unfold fst
 have:(List.range 81).find? f=none:=by simpa using h
 rw [this]
theorem qNa (f:Nat->Bool):qFz (sLo f) (sHi f)=some (fst f):=by
 unfold qFz
 by_cases h:∃ i,0<=i /\ i<63 /\ f i=true
 ·obtain ⟨k,_,hk,hf,hl⟩:=qGx h
  have hpos:=qG8 hk hf fun i hi=>hl i (Nat.zero_le _) hi
  rw [qB (by unfold sLo;simp;omega)]
  unfold sLo
  rw [qLy (by omega) hk hf fun i hi=>hl i (Nat.zero_le _) hi,qA,qNg (by omega) hf fun i hi=>hl i (Nat.zero_le _) hi]
 ·have h1:∀ i,i<63->f i=false:=fun i hi=>by
   cases hf:f i with
   | false=>rfl
   | true=>exact absurd ⟨i,Nat.zero_le _,hi,hf⟩ h
  rw [qE (by unfold sLo;rw [qJO.2 h1];rfl)]
  by_cases h2:∃ i,0<=i /\ i<18 /\ f (63+i)=true
  ·obtain ⟨k,_,hk,hf,hl⟩:=qGx (p:=fun i=>f (63+i)) h2
   have hpos:=qG8 (f:=fun i=>f (63+i)) hk hf fun i hi=>hl i (Nat.zero_le _) hi
   rw [qB (by unfold sHi;simp;omega)]
   unfold sHi
   rw [qLy (f:=fun i=>f (63+i)) (by omega) hk hf fun i hi=>hl i (Nat.zero_le _) hi,qA,qAb (by omega) (by omega),qNg (k:=63+k) (by omega) hf fun i hi=>?_]
   ·simp
   ·by_cases hi2:i<63
    ·exact h1 i hi2
    ·have:=hl (i - 63) (Nat.zero_le _) (by omega)
     simpa [show 63+(i - 63)=i by omega] using this
  ·have h3:∀ i,i<18->f (63+i)=false:=fun i hi=>by
    cases hf:f (63+i) with
    | false=>rfl
    | true=>exact absurd ⟨i,Nat.zero_le _,hi,hf⟩ h2
   rw [qE (by unfold sHi;rw [qJO.2 h3];rfl),qf8]
   intro i hi
   by_cases hi2:i<63
   ·exact h1 i hi2
   ·have:=h3 (i - 63) (by omega)
    simpa [show 63+(i - 63)=i by omega] using this
def sq (f:Nat->Bool):List Int:=((List.range 81).filter f).map Int.ofNat
theorem qNY {f:Nat->Bool} {j k:Nat} (hjk:j<=k) (h:∀ i,j<=i->i<k->f i=false):(List.range k).filter f=(List.range j).filter f:=by
 induction k with
 | zero=>rw [show j=0 by omega]
 | succ k ih=>
   by_cases hj:j=k+1
   ·rw [hj]
   ·rw [List.range_succ,List.filter_append,ih (by omega) fun i a b=>h i a (by omega)]
    simp [h k (by omega) (by omega)]
theorem qUO {f:Nat->Bool} {j k:Nat} (hjk:j<=k) (h:∀ i,j<=i->i<k->f i=false) (hf:f k=true):(List.range (k+1)).filter f=(List.range j).filter f++[k]:=by
 rw [List.range_succ,List.filter_append,qNY hjk h]
 simp [hf]
theorem qRk {l:List Int} {n:Nat} (h:n=l.length) (x:List Int):List.append (List.take n l) x=l++x:=by
 subst h;simp [List.take_length]
theorem qnS (f:Nat->Bool) (hi:Int):∀ (d j:Nat),63 - j=d->j<=63->∀ g,d<g->
  qHh g ((List.range j).filter f).length (qX (fun i=>f i&&decide (j<=i)) 63:Nat) hi ((List.range j).filter f).length (((List.range j).filter f).map Int.ofNat) =
   some (((List.range 63).filter f).length,0,hi,((List.range 63).filter f).length,((List.range 63).filter f).map Int.ofNat):=by
 intro d
 induction d using Nat.strongRecOn with
 | ind d ih=>
   intro j hd hj g hg
   obtain ⟨g,rfl⟩:∃ g',g=g'+1:=⟨g - 1,by omega⟩
   show qLY (qHh g) _ _ _ _ _=_
   unfold qLY
   by_cases h:∃ i,j<=i /\ i<63 /\ f i=true
   ·obtain ⟨k,h1,h2,h3,h4⟩:=qGx h
    have hl:∀ i,i<k->(f i&&decide (j<=i))=false:=fun i hi=>by
     by_cases hji:j<=i
     ·rw [h4 i hji hi];rfl
     ·simp [hji]
    have hf:(f k&&decide (j<=k))=true:=by simp [h3,h1]
    have hpos:=qG8 (f:=fun i=>f i&&decide (j<=i)) h2 hf hl
    have hlen:((List.range j).filter f).length<=63:=Nat.le_trans (List.length_filter_le _ _) (by simpa using hj)
    rw [qB (by simp;omega),qLy (f:=fun i=>f i&&decide (j<=i)) (by omega) h2 hf hl,qA,qB (by simp;omega),qRk (by simp),
     qYJ hpos (qBX _ (by omega)),qDl (qBX _ (by omega)) (Nat.lt_of_le_of_lt (Nat.sub_le _ _) (qBX (fun i=>f i&&decide (j<=i)) (by omega))),qWf h2 hf hl,
     qEc (g:=fun i=>f i&&decide (k+1<=i)) fun i _=>by
      by_cases hki:k<i
      ·simp [show k+1<=i by omega,show j<=i by omega,hki]
      ·simp [hki,show ¬ k+1<=i by omega]]
    have hn:=qUO h1 h4 h3
    have:=ih (63 - (k+1)) (by omega) (k+1) rfl (by omega) g (by omega)
    rw [hn] at this
    simpa using this
   ·have h5:∀ i,j<=i->i<63->f i=false:=fun i a b=>by
     cases hf:f i with
     | false=>rfl
     | true=>exact absurd ⟨i,a,b,hf⟩ h
    have hz:qX (fun i=>f i&&decide (j<=i)) 63=0:=qJO.2 fun i hi=>by
     by_cases hji:j<=i
     ·rw [h5 i hji hi];rfl
     ·simp [hji]
    rw [hz,qE (by rfl),qNY hj h5]
    rfl
theorem qnR (f:Nat->Bool) (l:List Int) (lo:Int) (hl0:l.length<=63):∀ (d j:Nat),18 - j=d->j<=18->∀ g,d<g->
  qHi g (l++((List.range j).filter fun i=>f (63+i)).map fun i=>Int.ofNat (63+i)).length lo (qX (fun i=>f (63+i)&&decide (j<=i)) 18:Nat) (l++((List.range j).filter fun i=>f (63+i)).map fun i=>Int.ofNat (63+i)).length
   (l++((List.range j).filter fun i=>f (63+i)).map fun i=>Int.ofNat (63+i)) =
   some ((l++((List.range 18).filter fun i=>f (63+i)).map fun i=>Int.ofNat (63+i)).length,(l++((List.range 18).filter fun i=>f (63+i)).map fun i=>Int.ofNat (63+i)).length,l++((List.range 18).filter fun i=>f (63+i)).map fun i=>Int.ofNat (63+i)):=by
 intro d
 induction d using Nat.strongRecOn with
 | ind d ih=>
   intro j hd hj g hg
   obtain ⟨g,rfl⟩:∃ g',g=g'+1:=⟨g - 1,by omega⟩
   show qLZ (qHi g) _ _ _ _ _=_
   unfold qLZ
   by_cases h:∃ i,j<=i /\ i<18 /\ f (63+i)=true
   ·obtain ⟨k,h1,h2,h3,h4⟩:=qGx (p:=fun i=>f (63+i)) h
    have hl:∀ i,i<k->(f (63+i)&&decide (j<=i))=false:=fun i hi=>by
     by_cases hji:j<=i
     ·rw [h4 i hji hi];rfl
     ·simp [hji]
    have hf:(f (63+k)&&decide (j<=k))=true:=by simp [h3,h1]
    have hpos:=qG8 (f:=fun i=>f (63+i)&&decide (j<=i)) h2 hf hl
    have hlen:((List.range j).filter fun i=>f (63+i)).length<=18:=Nat.le_trans (List.length_filter_le _ _) (by simpa using hj)
    rw [qB (by simp;omega),qLy (f:=fun i=>f (63+i)&&decide (j<=i)) (by omega) h2 hf hl,qA,qB (by simp;omega),qRk rfl,
     qYJ hpos (qBX _ (by omega)),qDl (qBX _ (by omega)) (Nat.lt_of_le_of_lt (Nat.sub_le _ _) (qBX (fun i=>f (63+i)&&decide (j<=i)) (by omega))),qWf h2 hf hl,
     qEc (g:=fun i=>f (63+i)&&decide (k+1<=i)) fun i _=>by
      by_cases hki:k<i
      ·simp [show k+1<=i by omega,show j<=i by omega,hki]
      ·simp [hki,show ¬ k+1<=i by omega],qAb (by omega) (by omega)]
    have hn:=qUO (f:=fun i=>f (63+i)) h1 h4 h3
    have:=ih (18 - (k+1)) (by omega) (k+1) rfl (by omega) g (by omega)
    rw [hn] at this
    simpa [Nat.add_assoc] using this
   ·have h5:∀ i,j<=i->i<18->f (63+i)=false:=fun i a b=>by
     cases hf:f (63+i) with
     | false=>rfl
     | true=>exact absurd ⟨i,a,b,hf⟩ h
    have hz:qX (fun i=>f (63+i)&&decide (j<=i)) 18=0:=qJO.2 fun i hi=>by
     by_cases hji:j<=i
     ·rw [h5 i hji hi];rfl
     ·simp [hji]
    rw [hz,qE (by rfl),qNY (f:=fun i=>f (63+i)) hj h5]
theorem qYM:List.range 81=List.range 63++(List.range 18).map (63+·):=by decide +kernel
theorem qnU (f:Nat->Bool):sq f=((List.range 63).filter f).map Int.ofNat++((List.range 18).filter fun i=>f (63+i)).map fun i=>Int.ofNat (63+i):=by
 unfold sq
 rw [qYM,List.filter_append,List.map_append,List.filter_map,List.map_map]
 rfl
theorem qIx (f:Nat->Bool):qEJ (sLo f) (sHi f)=some ((sq f).length,(sq f).length,sq f):=by
 unfold qEJ
 have h1:=qnS f (sHi f) 63 0 rfl (by omega) qD (by unfold qD;omega)
 have e1:(qX (fun i=>f i&&decide (0<=i)) 63:Nat)=qX f 63:=qEc fun i _=>by simp
 rw [e1] at h1
 have h2:=qnR f (((List.range 63).filter f).map Int.ofNat) 0 (by rw [List.length_map];exact Nat.le_trans (List.length_filter_le _ _) (by simp)) 18 0 rfl (by omega) qD (by unfold qD;omega)
 have e2:(qX (fun i=>f (63+i)&&decide (0<=i)) 18:Nat)=qX (fun i=>f (63+i)) 18:=qEc fun i _=>by simp
 rw [e2] at h2
 simp only [List.range_zero,List.filter_nil,List.map_nil,List.append_nil,List.length_nil,List.length_map] at h1 h2
 unfold sLo
 rw [h1,qA]
 simp only
 unfold sHi
 rw [h2,qA,qnU]
end Go.Kk.Pl
namespace Go.Kk.Pl
def qB0 (c:Nat):Nat->Nat
 | 0=>0
 | k+1=>c+256*qB0 c k
def w1 (k x:Nat):Nat:=((x / 2) &&& qB0 85 k)+(x &&& qB0 85 k)
def w2 (k x:Nat):Nat:=((x / 4) &&& qB0 51 k)+(x &&& qB0 51 k)
def w3 (k x:Nat):Nat:=(x / 16+x) &&& qB0 15 k
theorem qHw {a b r m:Nat} (ha:a<256) (hb:b<256):(a+256*r) &&& (b+256*m)=(a &&& b)+256*(r &&& m):=by
 have h1:a+256*r=2 ^ 8*r+a:=by omega
 have h2:b+256*m=2 ^ 8*m+b:=by omega
 have h3:(a &&& b)+256*(r &&& m)=2 ^ 8*(r &&& m)+(a &&& b):=by omega
 have h4:a &&& b<2 ^ 8:=Nat.lt_of_le_of_lt Nat.and_le_left ha
 apply Nat.eq_of_testBit_eq
 intro i
 rw [h1,h2,h3,Nat.testBit_and,Nat.testBit_two_pow_mul_add _ ha,Nat.testBit_two_pow_mul_add _ hb,Nat.testBit_two_pow_mul_add _ h4]
 split<;>simp
theorem qdE:∀ (b:Fin 256) (t:Fin 2),((b.val / 2+128*t.val) &&& 85)=((b.val / 2) &&& 85):=by decide +kernel
theorem qdF:∀ (b:Fin 256) (t:Fin 4),((b.val / 4+64*t.val) &&& 51)=((b.val / 4) &&& 51):=by decide +kernel
def y1 (b:Nat):Nat:=((b / 2) &&& 85)+(b &&& 85)
def y2 (b:Nat):Nat:=((b / 4) &&& 51)+(b &&& 51)
def y3 (b:Nat):Nat:=(b / 16+b) &&& 15
theorem qcN:∀ b:Fin 256,y1 b.val<256:=by decide +kernel
theorem qcO:∀ b:Fin 256,y2 (y1 b.val)<=68 /\ y3 (y2 (y1 b.val))<=8:=by decide +kernel
theorem qdG:∀ (b:Fin 103) (t:Fin 8),((b.val / 16+b.val+16*t.val) &&& 15)=((b.val / 16+b.val) &&& 15):=by decide +kernel
theorem qcF {b r k:Nat} (hb:b<256):w1 (k+1) (b+256*r)=y1 b+256*w1 k r:=by
 unfold w1 y1
 have h1:(b+256*r) / 2=(b / 2+128*(r % 2))+256*(r / 2):=by omega
 rw [h1]
 simp only [qB0]
 have:=qdE ⟨b,hb⟩ ⟨r % 2,by omega⟩
 simp only at this
 rw [qHw (by omega) (by omega),qHw hb (by omega),this]
 omega
theorem qcG {b r k:Nat} (hb:b<256):w2 (k+1) (b+256*r)=y2 b+256*w2 k r:=by
 unfold w2 y2
 have h1:(b+256*r) / 4=(b / 4+64*(r % 4))+256*(r / 4):=by omega
 rw [h1]
 simp only [qB0]
 have:=qdF ⟨b,hb⟩ ⟨r % 4,by omega⟩
 simp only at this
 rw [qHw (by omega) (by omega),qHw hb (by omega),this]
 omega
theorem qo6 {b r k:Nat} (hb:b<=102) (hr:r % 16<8):w3 (k+1) (b+256*r)=y3 b+256*w3 k r:=by
 unfold w3 y3
 have h1:(b+256*r) / 16+(b+256*r)=(b / 16+b+16*(r % 16))+256*(r / 16+r):=by omega
 rw [h1]
 simp only [qB0]
 rw [qHw (by omega) (by omega),qdG ⟨b,by omega⟩ ⟨r % 16,hr⟩]
def pop:Nat->Nat->Nat
 | 0,_=>0
 | k+1,x=>y3 (y2 (y1 (x % 256)))+pop k (x / 256)
def qId:Nat->Nat->Nat
 | 0,_=>0
 | k+1,x=>y3 (y2 (y1 (x % 256)))+256*qId k (x / 256)
theorem qo5 (k x:Nat):w2 k (w1 k x) % 16<8:=by
 cases k with
 | zero=>simp [w2,qB0]
 | succ k=>
   have h:x=x % 256+256*(x / 256):=by omega
   have h0:=qcN ⟨x % 256,by omega⟩
   simp only at h0
   rw [h,qcF (by omega),qcG h0]
   have:∀ b:Fin 256,y2 (y1 b.val) % 16<8:=by decide +kernel
   have:=this ⟨x % 256,by omega⟩
   simp only at this
   omega
theorem qcH:∀ k x,w3 k (w2 k (w1 k x))=qId k x
 | 0,x=>by simp [w3,qB0,qId]
 | k+1,x=>by
   have h:x=x % 256+256*(x / 256):=by omega
   have h0:=qcN ⟨x % 256,by omega⟩
   have h1:=(qcO ⟨x % 256,by omega⟩).1
   simp only at h0 h1
   conv=>lhs;rw [h]
   rw [qcF (by omega),qcG h0,qo6 (by omega) (qo5 _ _),qcH k]
   rfl
theorem qoU {a0 a1 a2 a3 a4 a5 a6 a7:Nat} (h0:a0<=8) (h1:a1<=8) (h2:a2<=8) (h3:a3<=8) (h4:a4<=8) (h5:a5<=8) (h6:a6<=8) (h7:a7<=8):
  (a0 + 256 * (a1+256*(a2+256*(a3+256*(a4+256*(a5+256*(a6+256*(a7+256*0)))))))+
      (a0 + 256*(a1+256*(a2+256*(a3+256*(a4+256*(a5+256*(a6+256*(a7+256*0)))))))) / 256+
        (a0 + 256*(a1+256*(a2+256*(a3+256*(a4+256*(a5+256*(a6+256*(a7+256*0)))))))+
            (a0+256*(a1+256*(a2+256*(a3+256*(a4+256*(a5+256*(a6+256*(a7+256*0)))))))) / 256) /
         65536+
      (a0 + 256*(a1+256*(a2+256*(a3+256*(a4+256*(a5+256*(a6+256*(a7+256*0)))))))+
            (a0+256*(a1+256*(a2+256*(a3+256*(a4+256*(a5+256*(a6+256*(a7+256*0)))))))) / 256+
          (a0 + 256*(a1+256*(a2+256*(a3+256*(a4+256*(a5+256*(a6+256*(a7+256*0)))))))+
              (a0+256*(a1+256*(a2+256*(a3+256*(a4+256*(a5+256*(a6+256*(a7+256*0)))))))) / 256) /
           65536) /
       4294967296) %
   128 =
  a0+(a1+(a2+(a3+(a4+(a5+(a6+(a7+0))))))):=by
 rw [show a7+256*0=a7 by omega]
 generalize h:a6+256*a7=q6
 generalize g5:a5+256*q6=q5
 generalize g4:a4+256*q5=q4
 generalize g3:a3+256*q4=q3
 generalize g2:a2+256*q3=q2
 generalize g1:a1+256*q2=q1
 have e1:(a0+256*q1) / 256=q1:=by omega
 rw [e1]
 have e2:(a0+256*q1+q1) / 65536=q2+q3:=by omega
 rw [e2]
 have e3:(a0+256*q1+q1+(q2+q3)) / 4294967296=q4+q5+(q6+a7):=by omega
 rw [e3]
 omega
theorem qoV (x:Nat):
  let s:=qId 8 x
  let t:=s+s / 256
  let u:=t+t / 65536
  (u+u / 4294967296) % 128=pop 8 x:=by
 have h:∀ y,y3 (y2 (y1 (y % 256)))<=8:=fun y=>(qcO ⟨y % 256,by omega⟩).2
 simp only [qId,pop]
 have h0:=h x
 have h1:=h (x / 256)
 have h2:=h (x / 256 / 256)
 have h3:=h (x / 256 / 256 / 256)
 have h4:=h (x / 256 / 256 / 256 / 256)
 have h5:=h (x / 256 / 256 / 256 / 256 / 256)
 have h6:=h (x / 256 / 256 / 256 / 256 / 256 / 256)
 have h7:=h (x / 256 / 256 / 256 / 256 / 256 / 256 / 256)
 generalize y3 (y2 (y1 (x % 256)))=a0 at *
 generalize y3 (y2 (y1 (x / 256 % 256)))=a1 at *
 generalize y3 (y2 (y1 (x / 256 / 256 % 256)))=a2 at *
 generalize y3 (y2 (y1 (x / 256 / 256 / 256 % 256)))=a3 at *
 generalize y3 (y2 (y1 (x / 256 / 256 / 256 / 256 % 256)))=a4 at *
 generalize y3 (y2 (y1 (x / 256 / 256 / 256 / 256 / 256 % 256)))=a5 at *
 generalize y3 (y2 (y1 (x / 256 / 256 / 256 / 256 / 256 / 256 % 256)))=a6 at *
 generalize y3 (y2 (y1 (x / 256 / 256 / 256 / 256 / 256 / 256 / 256 % 256)))=a7 at *
 exact qoU h0 h1 h2 h3 h4 h5 h6 h7
theorem qR9 (f:Nat->Bool) (n:Nat):∀ m,qX f (n+m)=qX f n+2 ^ n*qX (fun i=>f (n+i)) m
 | 0=>by simp [qX]
 | m+1=>by
   rw [<- Nat.add_assoc]
   simp only [qX]
   rw [qR9 f n m,Nat.mul_add,Nat.add_assoc]
   congr 2
   cases f (n+m)<;>simp [Nat.pow_add]
theorem qeZ:∀ a b c d e f g h:Bool,y3 (y2 (y1 (0+(bif a then 2 ^ 0 else 0)+(bif b then 2 ^ 1 else 0)+(bif c then 2 ^ 2 else 0)+(bif d then 2 ^ 3 else 0)+(bif e then 2 ^ 4 else 0)+(bif f then 2 ^ 5 else 0)+(bif g then 2 ^ 6 else 0)+(bif h then 2 ^ 7 else 0)))) =
  a.toNat+b.toNat+c.toNat+d.toNat+e.toNat+f.toNat+g.toNat+h.toNat:=by decide +kernel
theorem qYI (f:Nat->Bool):∀ k,∀ j,pop k (qX (fun i=>f (j+i)) (8*k))=((List.range (8*k)).map (j+·)).countP f
 | 0,j=>rfl
 | k+1,j=>by
   have e:qX (fun i=>f (j+i)) (8*(k+1))=qX (fun i=>f (j+i)) 8+256*qX (fun i=>f (j+8+i)) (8*k):=by
    rw [show 8*(k+1)=8+8*k by omega,qR9]
    simp only [Nat.add_assoc]
   have hlt:=qDm (fun i=>f (j+i)) 8
   simp only [pop]
   rw [e,show (qX (fun i=>f (j+i)) 8+256*qX (fun i=>f (j+8+i)) (8*k)) % 256=qX (fun i=>f (j+i)) 8 by omega,
    show (qX (fun i=>f (j+i)) 8+256*qX (fun i=>f (j+8+i)) (8*k)) / 256=qX (fun i=>f (j+8+i)) (8*k) by omega,qYI f k (j+8)]
   have h8:List.range (8*(k+1))=List.range 8++(List.range (8*k)).map (8+·):=by
    rw [show 8*(k+1)=8+8*k by omega,List.range_add]
   rw [h8,List.map_append,List.countP_append,List.map_map]
   have h1:y3 (y2 (y1 (qX (fun i=>f (j+i)) 8)))=((List.range 8).map (j+·)).countP f:=by
    have:=qeZ (f (j+0)) (f (j+1)) (f (j+2)) (f (j+3)) (f (j+4)) (f (j+5)) (f (j+6)) (f (j+7))
    simp only [qX]
    rw [this]
    show _=List.countP f [j+0,j+1,j+2,j+3,j+4,j+5,j+6,j+7]
    simp only [List.countP_cons,List.countP_nil]
    cases f (j+0)<;>cases f (j+1)<;>cases f (j+2)<;>cases f (j+3)<;>cases f (j+4)<;>cases f (j+5)<;>cases f (j+6)<;>cases f (j+7)<;>rfl
   rw [h1]
   congr 2
   apply List.map_congr_left
   intro a _
   show j+8+a=j+(8+a)
   omega
theorem qGX (a b:Nat):Int.fdiv (a:Int) (b:Int)=((a / b:Nat):Int):=by
 simp [Int.fdiv_eq_ediv]
def ocS (x:Nat):Nat:=
 let s:=w3 8 (w2 8 (w1 8 x))
 let t:=s+s / 256
 let u:=t+t / 65536
 (u+u / 4294967296) % 128
theorem qWp:qB0 85 8=6148914691236517205:=by decide +kernel
theorem qWo:qB0 51 8=3689348814741910323:=by decide +kernel
theorem qWn:qB0 15 8=1085102592571150095:=by decide +kernel
theorem qe6 {n:Nat} (h:n<2 ^ 63):conv IntKind.u64 IntKind.i64 (n:Int)=n:=by
 unfold conv
 rw [show IntKind.within .u64 .i64=false from rfl,cond_false]
 exact qL3 (by omega) (by omega)
theorem qcf {n:Nat} (h:n<2 ^ 63):qF .and .i64 (n:Int) 127=((n % 128:Nat):Int):=by
 unfold qF
 show IntKind.wrap .i64 _=_
 rw [show IntKind.bits .i64=64 from rfl,show (127:Int)=((127:Nat):Int) from rfl,qEz,qEz,BitVec.toNat_and,BitVec.toNat_ofNat,BitVec.toNat_ofNat,Nat.mod_eq_of_lt (by omega),Nat.mod_eq_of_lt (by omega)]
 rw [show (127:Nat)=2 ^ 7 - 1 by rfl,Nat.and_two_pow_sub_one_eq_mod]
 exact qL3 (by omega) (by omega)
theorem qkC {x:Nat} (hx:x<2 ^ 64):qFO (x:Int)=some ((ocS x:Nat):Int):=by
 unfold qFO
 have d2:Int.fdiv (x:Int) 2=((x / 2:Nat):Int):=qGX x 2
 have s1:IntKind.wrap IntKind.u64 (qF BinOp.and IntKind.u64 (Int.fdiv (x:Int) 2) 6148914691236517205+qF BinOp.and IntKind.u64 (x:Int) 6148914691236517205)=((w1 8 x:Nat):Int):=by
  have h1:qF BinOp.and IntKind.u64 ((x / 2:Nat):Int) 6148914691236517205=((x / 2 &&& 6148914691236517205:Nat):Int):=qDl (by omega) (by decide)
  have h2:qF BinOp.and IntKind.u64 ((x:Nat):Int) 6148914691236517205=((x &&& 6148914691236517205:Nat):Int):=qDl hx (by decide)
  rw [d2,h1,h2]
  have l1:=Nat.and_le_right (n:=x / 2) (m:=6148914691236517205)
  have l2:=Nat.and_le_right (n:=x) (m:=6148914691236517205)
  have:=qDh (n:=((x / 2) &&& 6148914691236517205)+(x &&& 6148914691236517205)) (by omega)
  rw [Int.natCast_add] at this
  rw [this]
  unfold w1
  rw [qWp,Int.natCast_add]
 have l1:w1 8 x<2 ^ 64:=by
  unfold w1
  rw [qWp]
  have l1:=Nat.and_le_right (n:=x / 2) (m:=6148914691236517205)
  have l2:=Nat.and_le_right (n:=x) (m:=6148914691236517205)
  omega
 rw [s1]
 generalize hy:w1 8 x=y at *
 have s2:IntKind.wrap IntKind.u64 (qF BinOp.and IntKind.u64 (Int.fdiv (y:Int) 4) 3689348814741910323+qF BinOp.and IntKind.u64 (y:Int) 3689348814741910323)=((w2 8 y:Nat):Int):=by
  have h1:qF BinOp.and IntKind.u64 ((y / 4:Nat):Int) 3689348814741910323=((y / 4 &&& 3689348814741910323:Nat):Int):=qDl (by omega) (by decide)
  have h2:qF BinOp.and IntKind.u64 ((y:Nat):Int) 3689348814741910323=((y &&& 3689348814741910323:Nat):Int):=qDl l1 (by decide)
  rw [show Int.fdiv (y:Int) 4=((y / 4:Nat):Int) from qGX y 4,h1,h2]
  have l1:=Nat.and_le_right (n:=y / 4) (m:=3689348814741910323)
  have l2:=Nat.and_le_right (n:=y) (m:=3689348814741910323)
  have:=qDh (n:=((y / 4) &&& 3689348814741910323)+(y &&& 3689348814741910323)) (by omega)
  rw [Int.natCast_add] at this
  rw [this]
  unfold w2
  rw [qWo,Int.natCast_add]
 have l2:w2 8 y<=2*3689348814741910323:=by
  unfold w2
  rw [qWo]
  have l1:=Nat.and_le_right (n:=y / 4) (m:=3689348814741910323)
  have l2:=Nat.and_le_right (n:=y) (m:=3689348814741910323)
  omega
 rw [s2]
 generalize hz:w2 8 y=z at *
 have s3:qF BinOp.and IntKind.u64 (IntKind.wrap IntKind.u64 (Int.fdiv (z:Int) 16+(z:Int))) 1085102592571150095=((w3 8 z:Nat):Int):=by
  rw [show Int.fdiv (z:Int) 16=((z / 16:Nat):Int) from qGX z 16,<- Int.natCast_add,qDh (by omega)]
  have h1:qF BinOp.and IntKind.u64 ((z / 16+z:Nat):Int) 1085102592571150095=(((z / 16+z) &&& 1085102592571150095:Nat):Int):=qDl (by omega) (by decide)
  rw [h1]
  unfold w3
  rw [qWn]
 have l3:w3 8 z<=1085102592571150095:=by
  unfold w3
  rw [qWn]
  exact Nat.and_le_right
 rw [s3]
 generalize hp:w3 8 z=p at *
 rw [show Int.fdiv (p:Int) 256=((p / 256:Nat):Int) from qGX p 256,<- Int.natCast_add,qDh (by omega),
  show Int.fdiv ((p+p / 256:Nat):Int) 65536=(((p+p / 256) / 65536:Nat):Int) from qGX _ 65536,<- Int.natCast_add,qDh (by omega),
  show Int.fdiv ((p+p / 256+(p+p / 256) / 65536:Nat):Int) 4294967296=(((p+p / 256+(p+p / 256) / 65536) / 4294967296:Nat):Int) from qGX _ 4294967296,<- Int.natCast_add,qDh (by omega),qe6 (by omega),qcf (by omega)]
 unfold ocS
 rw [hy,hz,hp]
theorem qku {x:Nat}:ocS x=pop 8 x:=by
 unfold ocS
 rw [qcH]
 exact qoV x
theorem qXZ (f:Nat->Bool) {n:Nat} (hn:n<=64):qFO (qX f n:Nat)=some (((List.range n).countP f:Nat):Int):=by
 rw [qkC (qBX f hn),qku]
 have e:qX f n=qX (fun i=>(fun i=>f i&&decide (i<n)) (0+i)) (8*8):=by
  apply Nat.eq_of_testBit_eq
  intro i
  rw [qBS,qBS]
  by_cases h:i<n
  ·simp [h,show i<64 by omega]
  ·simp [h]
 rw [e,qYI (fun i=>f i&&decide (i<n)) 8 0]
 congr 2
 have h64:List.range (8*8)=List.range n++(List.range (64 - n)).map (n+·):=by
  rw [<- List.range_add];congr 1;omega
 have hid:(List.range (8*8)).map (0+·)=List.range (8*8):=by
  have:(fun x:Nat=>0+x)=id:=by funext x;simp
  rw [this,List.map_id]
 rw [hid,h64,List.countP_append]
 have h1:(List.range n).countP (fun i=>f i&&decide (i<n))=(List.range n).countP f:=by
  apply List.countP_congr
  intro x hx
  simp only [List.mem_range] at hx
  simp [hx]
 have h2:((List.range (64 - n)).map (n+·)).countP (fun i=>f i&&decide (i<n))=0:=by
  rw [List.countP_eq_zero]
  intro x hx
  obtain ⟨a,_,rfl⟩:=List.mem_map.1 hx
  simp
 rw [h1,h2,Nat.add_zero]
def qAp (f:Nat->Bool):Nat:=(List.range 81).countP f
theorem qe0 (f:Nat->Bool):qAp f<=81:=Nat.le_trans List.countP_le_length (by simp)
theorem qTf (f:Nat->Bool):qFx (sLo f) (sHi f)=some ((qAp f:Nat):Int):=by
 have hle:=qe0 f
 unfold qFx sLo sHi
 have e:qAp f=(List.range 63).countP f+(List.range 18).countP fun i=>f (63+i):=by
  unfold qAp
  rw [qYM,List.countP_append,List.countP_map]
  rfl
 rw [qXZ f (by omega),qA,qXZ (fun i=>f (63+i)) (by omega),qA,<- Int.natCast_add,<- e,qAb (by omega) (by omega)]
end Go.Kk.Pl
namespace Go.Kk.Pl
theorem qVZ (x:Int):∃ v,q9 x=some v:=by
 unfold q9
 repeat first | exact ⟨_,rfl⟩ | apply qGR
theorem qKe (x:Int):∃ v,qDO x=some v:=⟨_,rfl⟩
theorem qg7 (q x:Int):∃ v,qBy q x=some v:=by
 unfold qBy
 refine qFk (qVZ _) fun a=>?_
 repeat first | exact ⟨_,rfl⟩ | apply qGR | (refine qFk (qKe _) fun a=>?_)
theorem qg6 (s k n:Int):∃ v,qCW s k n=some v:=by
 unfold qCW
 repeat first | exact ⟨_,rfl⟩ | apply qGR | (refine qFk (qKe _) fun a=>?_)
theorem qg8:∃ v,qCX=some v:=by
 unfold qCX
 refine qFk (qKe _) fun a=>?_
 exact ⟨_,rfl⟩
end Go.Kk.Pl
namespace Go.Kk.Pl
def kd (x:Int):Int:=if x<1 \/ 31<x \/ x=13 \/ x=16 \/ x=29 then 0 else x % 16
def sd (x:Int):Int:=if kd x=0 then -1 else if x<16 then 0 else 1
theorem qUQ {x:Int} (h0:0<=x) (h1:x<=31):∃ n:Fin 32,x=((n.val:Nat):Int):=⟨⟨x.toNat,by omega⟩,by simp;omega⟩
theorem qhV:∀ n:Fin 32,q9 ((n.val:Nat):Int)=some (kd ((n.val:Nat):Int)):=by decide +kernel
theorem qls:∀ n:Fin 32,qDW ((n.val:Nat):Int)=some (kd ((n.val:Nat):Int)):=by decide +kernel
theorem qBn (x:Int):q9 x=some (kd x):=by
 by_cases h0:0<=x
 ·by_cases h1:x<=31
  ·obtain ⟨n,rfl⟩:=qUQ h0 h1
   exact qhV n
  ·unfold q9
   rw [qE (by simp;omega),qB (by simp;omega),qE (by simp;omega),qE (by simp;omega)]
   unfold kd
   rw [if_pos (by omega)]
 ·unfold q9
  rw [qB (by simp;omega),qE (by simp;omega),qE (by simp;omega)]
  unfold kd
  rw [if_pos (by omega)]
theorem qFt (x:Int):qDW x=some (kd x):=by
 by_cases h0:0<=x
 ·by_cases h1:x<=31
  ·obtain ⟨n,rfl⟩:=qUQ h0 h1
   exact qls n
  ·unfold qDW
   rw [qE (by simp;omega),qB (by simp;omega)]
   unfold kd
   rw [if_pos (by omega)]
 ·unfold qDW
  rw [qB (by simp;omega)]
  unfold kd
  rw [if_pos (by omega)]
theorem qEM (x:Int):qAI x=some (sd x):=by
 unfold qAI
 rw [qBn,qA]
 unfold sd
 by_cases h:kd x=0
 ·rw [qB (by simp [h]),if_pos h]
 ·rw [qE (by simpa using h),if_neg h]
  by_cases h2:x<16
  ·rw [qB (by simpa using h2),if_pos h2]
  ·rw [qE (by simpa using h2),if_neg h2]
theorem qEr:kd 0=0:=by decide
theorem qIN {x:Int} (h:kd x≠0):1<=x /\ x<=31:=by
 unfold kd at h
 split at h
 ·exact absurd rfl h
 ·omega
theorem qHX {x:Int} (h:kd x≠0):sd x=0 \/ sd x=1:=by
 unfold sd
 rw [if_neg h]
 split<;>simp
structure Clean (b:List Int):Prop where
 len:b.length=81
 ok:∀ i,i<81->b.getD i 0=0 \/ kd (b.getD i 0)≠0
def at_ (b:List Int) (q:Int):Int:=if 0<=q /\ q<81 then b.getD q.toNat 0 else 0
def put (b:List Int) (q x:Int):List Int:=if 0<=q /\ q<81 then b.set q.toNat (if kd x=0 then 0 else x) else b
theorem qCk (q:Int) (b h:List Int) (s:Int) (by_ sides:List (List Int)):qAe q b h s by_ sides=some (at_ b q):=by
 unfold qAe at_
 by_cases h0:q<0
 ·rw [qB (by simpa using h0),if_neg (by omega)]
 ·rw [qE (by simpa using h0)]
  by_cases h1:81<=q
  ·rw [qB (by simpa using h1),if_neg (by omega)]
  ·rw [qE (by simpa using h1),qB (qAQ (by omega) (by omega)),if_pos (by omega)]
theorem Clean.at_ {b:List Int} (hc:Clean b) (q:Int):at_ b q=0 \/ kd (at_ b q)≠0:=by
 unfold Pl.at_
 split
 ·exact hc.ok _ (by omega)
 ·exact .inl rfl
theorem Clean.put {b:List Int} (hc:Clean b) (q x:Int):Clean (put b q x):=by
 unfold Pl.put
 split
 ·rename_i hq
  refine ⟨by rw [List.length_set];exact hc.len,fun i hi=>?_⟩
  by_cases hqi:q.toNat=i
  ·subst hqi
   rw [List.getD_eq_getElem?_getD,List.getElem?_set_self (by rw [hc.len];exact hi),Option.getD_some]
   split
   ·exact .inl rfl
   ·rename_i h;exact .inr h
  ·rw [List.getD_eq_getElem?_getD,List.getElem?_set_ne hqi,<- List.getD_eq_getElem?_getD]
   exact hc.ok i hi
 ·exact hc
theorem qC9 {b:List Int} (hl:b.length=81) {q:Int} (hq:0<=q /\ q<81) (x p:Int):at_ (put b q x) p=if p=q then (if kd x=0 then 0 else x) else at_ b p:=by
 unfold at_ put
 rw [if_pos hq]
 by_cases hp:0<=p /\ p<81
 ·rw [if_pos hp]
  by_cases hpq:p=q
  ·subst hpq
   rw [if_pos rfl,List.getD_eq_getElem?_getD,List.getElem?_set_self (by omega),Option.getD_some]
  ·rw [if_neg hpq,if_pos hp,List.getD_eq_getElem?_getD,List.getElem?_set_ne (by omega),<- List.getD_eq_getElem?_getD]
 ·rw [if_neg hp,if_neg (fun h:p=q=>hp (by subst h;exact hq)),if_neg hp]
end Go.Kk.Pl
namespace Go.Kk.Pl
def prS (f:Nat->Bool):List Int:=[sLo f,sHi f]
theorem qK0 {f g:Nat->Bool} (h:∀ i,i<81->f i=g i):prS f=prS g:=by
 obtain ⟨h1,h2⟩:=qBu h
 unfold prS;rw [h1,h2]
def pcs (b:List Int) (x:Int) (i:Nat):Bool:=decide (x≠0 /\ b.getD i 0=x)
def sds (b:List Int) (s:Int) (i:Nat):Bool:=decide (sd (b.getD i 0)=s)
def qS (b:List Int):List (List Int):=(List.range 32).map fun (x:Nat)=>prS (pcs b x)
def qU (b:List Int):List (List Int):=(List.range 2).map fun (s:Nat)=>prS (sds b s)
theorem map_set {α:Type} (G:Nat->α) (n k:Nat) (v:α):((List.range n).map G).set k v=(List.range n).map fun j=>if j=k then v else G j:=by
 apply List.ext_getElem
 ·simp
 ·intro i h1 h2
  simp only [List.length_set,List.length_map,List.length_range] at h1
  rw [List.getElem_set]
  simp only [List.getElem_map,List.getElem_range]
  by_cases h:k=i
  ·simp [h]
  ·simp [h,Ne.symm h]
theorem qWl {α:Type} (G:Nat->α) {n k:Nat} (h:k<n) (d:α):((List.range n).map G).getD k d=G k:=by
 rw [List.getD_eq_getElem?_getD,List.getElem?_map,List.getElem?_range h];rfl
theorem qNF (b:List Int) {x:Int} (h0:0<=x) (h1:x<32):(qS b).getD x.toNat []=prS (pcs b x):=by
 unfold qS
 rw [qWl _ (by omega),show ((x.toNat:Nat):Int)=x by omega]
theorem qaX (b:List Int) {s:Int} (h0:0<=s) (h1:s<2):(qU b).getD s.toNat []=prS (sds b s):=by
 unfold qU
 rw [qWl _ (by omega),show ((s.toNat:Nat):Int)=s by omega]
theorem qHH (f:Nat->Bool):List.headD (List.take 2 (prS f)) 0=sLo f:=rfl
theorem qHI (f:Nat->Bool):List.headD (List.tail (List.take 2 (prS f))) 0=sHi f:=rfl
theorem qK1 (f:Nat->Bool) (g:Nat->Bool):sLo f :: sHi f :: List.drop 2 (prS g)=prS f:=rfl
theorem qIo:sd 0 = -1:=by decide
theorem qZV {x:Int} (h:kd x=0):sd x = -1:=by unfold sd;rw [if_pos h]
theorem qIJ {b:List Int} {q:Nat} (hq:q<b.length) (x:Int) (i:Nat):(b.set q x).getD i 0=if i=q then x else b.getD i 0:=by
 rw [List.getD_eq_getElem?_getD]
 by_cases h:i=q
 ·subst h;rw [List.getElem?_set_self hq,if_pos rfl];rfl
 ·rw [List.getElem?_set_ne (Ne.symm h),if_neg h,List.getD_eq_getElem?_getD]
theorem qTJ {b b':List Int} {F:Nat->Bool} {x:Int} (h0:0<=x) (h:∀ j:Nat,j<32->∀ i,i<81->(if (j:Int)=x then F i else pcs b j i)=pcs b' j i):List.set (qS b) x.toNat (prS F)=qS b':=by
 unfold qS
 rw [map_set]
 apply List.map_congr_left
 intro j hj
 simp only [List.mem_range] at hj
 have h:=h j hj
 split
 ·rename_i hjx
  exact qK0 fun i hi=>by rw [<- h i hi,if_pos (by omega)]
 ·rename_i hjx
  exact qK0 fun i hi=>by rw [<- h i hi,if_neg (by omega)]
theorem qaY {b b':List Int} {F:Nat->Bool} {x:Int} (h0:0<=x) (h:∀ j:Nat,j<2->∀ i,i<81->(if (j:Int)=x then F i else sds b j i)=sds b' j i):List.set (qU b) x.toNat (prS F)=qU b':=by
 unfold qU
 rw [map_set]
 apply List.map_congr_left
 intro j hj
 simp only [List.mem_range] at hj
 have h:=h j hj
 split
 ·rename_i hjx
  exact qK0 fun i hi=>by rw [<- h i hi,if_pos (by omega)]
 ·rename_i hjx
  exact qK0 fun i hi=>by rw [<- h i hi,if_neg (by omega)]
section
variable {b:List Int} {q:Int} (hq0:0<=q) (hql:q.toNat<b.length)
include hq0 hql
theorem qeX (hz:b.getD q.toNat 0=0) {x:Int} (hx:1<=x):List.set (qS b) x.toNat (prS fun i=>pcs b x i||only q i)=qS (b.set q.toNat x):=by
 refine qTJ (by omega) fun j hj i hi=>?_
 unfold pcs only
 rw [qIJ hql,Bool.eq_iff_iff]
 by_cases hi:i=q.toNat
 ·subst hi
  rw [hz]
  split<;>simp<;>omega
 ·have:¬ (i:Int)=q:=by omega
  split
  ·rename_i hjx
   simp [this,hjx]
  ·simp
theorem qnD (hz:b.getD q.toNat 0=0) {x:Int} (hx:sd x=0 \/ sd x=1):List.set (qU b) (sd x).toNat (prS fun i=>sds b (sd x) i||only q i)=qU (b.set q.toNat x):=by
 refine qaY (by omega) fun j hj i hi=>?_
 unfold sds only
 rw [qIJ hql,Bool.eq_iff_iff]
 by_cases hi:i=q.toNat
 ·subst hi
  rw [hz,qIo]
  split<;>simp<;>omega
 ·have:¬ (i:Int)=q:=by omega
  split
  ·rename_i hjx
   simp [this,hjx]
  ·simp
theorem qeY {x:Int} (hz:b.getD q.toNat 0=x) (hx:1<=x):List.set (qS b) x.toNat (prS fun i=>pcs b x i && !only q i)=qS (b.set q.toNat 0):=by
 refine qTJ (by omega) fun j hj i hi=>?_
 unfold pcs only
 rw [qIJ hql,Bool.eq_iff_iff]
 by_cases hi:i=q.toNat
 ·subst hi
  rw [hz]
  split<;>simp<;>omega
 ·have:¬ (i:Int)=q:=by omega
  split
  ·rename_i hjx
   simp [this,hjx]
  ·simp
theorem qnE {x:Int} (hz:b.getD q.toNat 0=x) (hx:sd x=0 \/ sd x=1):List.set (qU b) (sd x).toNat (prS fun i=>sds b (sd x) i && !only q i)=qU (b.set q.toNat 0):=by
 refine qaY (by omega) fun j hj i hi=>?_
 unfold sds only
 rw [qIJ hql,Bool.eq_iff_iff]
 by_cases hi:i=q.toNat
 ·subst hi
  rw [hz,if_pos rfl,qIo]
  split<;>simp<;>omega
 ·have:¬ (i:Int)=q:=by omega
  split
  ·rename_i hjx
   simp [this,hjx]
  ·simp
end
theorem qYL {b:List Int} (hc:Clean b) (q x:Int) (h:List Int) (s:Int):
  qFT q x b h s (qS b) (qU b)=some (put b q x,h,s,qS (put b q x),qU (put b q x)):=by
 unfold qFT put
 by_cases h0:q<0
 ·rw [qB (by simpa using h0),if_neg (by omega)]
 rw [qE (by simpa using h0)]
 by_cases h1:81<=q
 ·rw [qB (by simpa using h1),if_neg (by omega)]
 rw [qE (by simpa using h1),qB (qAQ (by omega) (by omega)),if_pos (by omega)]
 simp only [qEM,qBn,qA]
 have hq81:inB q 81=true:=qAQ (by omega) (by omega)
 have hb:=hc.ok q.toNat (by omega)
 have hql:q.toNat<b.length:=by rw [hc.len];omega
 have key:∀ (b:List Int),q.toNat<b.length->b.getD q.toNat 0=0->(br (kd x==0)
   (br (inB q 81) (some (List.set b q.toNat 0,h,s,qS b,qU b)) none)
   (br (inB q 81) (br (x != 0) (br (inB x 32) (ob (qA1 (List.headD (List.take 2 (List.getD (qS b) x.toNat [])) 0) (List.headD (List.tail (List.take 2 (List.getD (qS b) x.toNat []))) 0) q) fun z=>
    br (inB x 32) (br (inB (sd x) 2) (ob (qA1 (List.headD (List.take 2 (List.getD (qU b) (sd x).toNat [])) 0) (List.headD (List.tail (List.take 2 (List.getD (qU b) (sd x).toNat []))) 0) q) fun y=>
     br (inB (sd x) 2) (some (List.set b q.toNat x,h,s,List.set (qS b) x.toNat (z.1 :: z.2 :: List.drop 2 (List.getD (qS b) x.toNat [])),List.set (qU b) (sd x).toNat (y.1 :: y.2 :: List.drop 2 (List.getD (qU b) (sd x).toNat [])))) none) none) none) none)
    (some (List.set b q.toNat x,h,s,qS b,qU b))) none)) =
   some (b.set q.toNat (if kd x=0 then 0 else x),h,s,qS (b.set q.toNat (if kd x=0 then 0 else x)),qU (b.set q.toNat (if kd x=0 then 0 else x))):=by
  intro b hql hz
  by_cases hk:kd x=0
  ·rw [qB (by simpa using hk),qB hq81,if_pos hk]
   have:b.set q.toNat 0=b:=by
    apply List.ext_getElem
    ·rw [List.length_set]
    ·intro i i1 i2
     rw [List.getElem_set]
     split
     ·rename_i hi
      rw [List.getD_eq_getElem?_getD,List.getElem?_eq_getElem hql] at hz
      subst hi
      exact hz.symm
     ·rfl
   rw [this]
  ·have hx:=qIN hk
   have hsd:=qHX hk
   have hs:inB (sd x) 2=true:=by rcases hsd with h | h<;>rw [h]<;>rfl
   rw [qE (by simpa using hk),qB hq81,qB (by simp;omega),qB (qAQ (by omega) (by omega)),if_neg hk,qNF b (by omega) (by omega),
    qHH,qHI,qGB,qA]
   simp only
   rw [qB (qAQ (by omega) (by omega)),qB hs,qaX b (by omega) (by omega),qHH,qHI,qGB,qA]
   simp only
   rw [qB hs,qK1,qK1,qeX (by omega) hql hz hx.1,qnD (by omega) hql hz hsd]
 by_cases hz:b.getD q.toNat 0=0
 ·rw [qE (by simpa using hz)]
  exact key b hql hz
 ·have hkb:=hb.resolve_left hz
  have hxb:=qIN hkb
  have hsdb:=qHX hkb
  have hsb:inB (sd (b.getD q.toNat 0)) 2=true:=by rcases qHX hkb with h | h<;>rw [h]<;>rfl
  have hb32:inB (b.getD q.toNat 0) 32=true:=qAQ (by omega) (by omega)
  rw [qB (by simpa using hz),qB hb32,qNF b (by omega) (by omega),qHH,qHI,qJD,qA]
  simp only
  rw [qB hb32,qB hsb,qaX b (by omega) (by omega),qHH,qHI,qJD,qA]
  simp only
  rw [qB hsb,qK1,qK1,qeY (by omega) hql rfl hxb.1,qnE (by omega) hql rfl hsdb]
  have:=key (b.set q.toNat 0) (by simpa using hql) (by rw [qIJ hql,if_pos rfl])
  rw [List.set_set] at this
  simp only [List.set_set] at this
  exact this
def cl1 (x:Int):Int:=if kd x=0 then 0 else x
def cl (b:List Int):List Int:=b.map cl1
end Go.Kk.Pl
namespace Go.Kk.Pl
section
variable {α:Type} {x y:α}
theorem qg {a b:Int} (h:a<b):br (decide (a<b)) x y=x:=qB (by simpa using h)
theorem qZ {a b:Int} (h:¬ a<b):br (decide (a<b)) x y=y:=qE (by simpa using h)
theorem qdH {a b:Int} (h:a<=b):br (decide (a<=b)) x y=x:=qB (by simpa using h)
theorem qdI {a b:Int} (h:¬ a<=b):br (decide (a<=b)) x y=y:=qE (by simpa using h)
theorem qGM {a b:Int} (h:a>b):br (decide (a>b)) x y=x:=qB (by simpa using h)
theorem qEb {a b:Int} (h:¬ a>b):br (decide (a>b)) x y=y:=qE (by simpa using h)
theorem qDA {a b:Int} (h:a >= b):br (decide (a >= b)) x y=x:=qB (by simpa using h)
theorem qCN {a b:Int} (h:¬ a >= b):br (decide (a >= b)) x y=y:=qE (by simpa using h)
theorem qAd {a b:Int} (h:a=b):br (a==b) x y=x:=qB (by simpa using h)
theorem qAX {a b:Int} (h:¬ a=b):br (a==b) x y=y:=qE (by simpa using h)
theorem qAo {a b:Int} (h:¬ a=b):br (a != b) x y=x:=qB (by simpa using h)
theorem qA9 {a b:Int} (h:a=b):br (a != b) x y=y:=qE (by simpa using h)
theorem qAN {a:Int} {n:Nat} (h0:0<=a) (h1:a<n):br (inB a n) x y=x:=qB (qAQ h0 h1)
theorem b_t:br true x y=x:=rfl
theorem b_f:br false x y=y:=rfl
end
theorem w_s {n:Int} (h1:-1000000000<=n) (h2:n<=1000000000):IntKind.wrap .i64 n=n:=qAb h1 h2
theorem w_8 {n:Int} (h1:-128<=n) (h2:n<=127):IntKind.wrap .i8 n=n:=qA5 h1 h2
theorem c_8 (n:Int):conv IntKind.i8 IntKind.i64 n=n:=rfl
theorem tn (n:Nat):Int.toNat (n:Int)=n:=rfl
theorem any_cons (p:Nat->Bool) (i n:Nat):(List.range' i (n+1)).any p=(p i||(List.range' (i+1) n).any p):=by rw [List.range'_succ];rfl
theorem qky:List.range 81=List.range' 0 81:=by rw [List.range_eq_range']
theorem qGG {b:List Int} {i:Nat} (h:i<b.length):b.getD i 0=b[i]:=by rw [List.getD_eq_getElem?_getD,List.getElem?_eq_getElem h];rfl
end Go.Kk.Pl
namespace Go.Kk.Pl
def rw_ (x:Int):Int:=if x<1 \/ 15<x \/ x=13 then 0 else if 8<x then x - 8 else x
theorem qlt (x:Int):qPz x=some (rw_ x):=by
 unfold qPz rw_
 by_cases h1:x<1
 ·rw [qB (by simpa using h1),if_pos (by omega)]
 rw [qE (by simpa using h1)]
 by_cases h2:15<x
 ·rw [qB (by simpa using h2),if_pos (by omega)]
 rw [qE (by simpa using h2)]
 by_cases h3:x=13
 ·rw [qB (by simpa using h3),if_pos (by omega)]
 rw [qE (by simpa using h3),if_neg (by omega)]
 by_cases h4:8<x
 ·rw [qB (by simpa using h4),if_pos h4,qAb (by omega) (by omega)]
 ·rw [qE (by simpa using h4),if_neg h4]
def cnt (l:List Int) (k:Int):Nat:=l.countP fun x=>rw_ (kd x)==k
theorem qe9 (b h:List Int) (s k:Int) (hl:b.length=81):∀ (n i:Nat),i+n=81->∀ acc:Int,0<=acc->acc<=i->∀ f,
  qHP (f+n+1) k acc i b h s=some (k,acc+cnt (b.drop i) k,b,h,s):=by
 intro n
 induction n with
 | zero=>
   intro i hi acc _ _ f
   show qIi (qHP (f+0)) _ _ _ _ _ _=_
   unfold qIi
   rw [qE (by simp;omega),List.drop_eq_nil_of_le (by omega)]
   simp [cnt]
 | succ n ih=>
   intro i hi acc ha0 ha1 f
   show qIi (qHP (f+n+1)) _ _ _ _ _ _=_
   unfold qIi
   have hz:Int.toNat (i:Int)=i:=by simp
   rw [qB (by simp;omega),qB (qAQ (by omega) (by omega)),hz,qAb (by omega) (by omega),qAb (by omega) (by omega)]
   show ob (qDW (List.getD b i 0)) _=_
   rw [qFt,qA,qlt,qA]
   have hd:b.drop i=b.getD i 0 :: b.drop (i+1):=by
    rw [List.drop_eq_getElem_cons (by omega),List.getD_eq_getElem?_getD,List.getElem?_eq_getElem (by omega)]
    rfl
   rw [hd]
   unfold cnt
   rw [List.countP_cons]
   cases hb:rw_ (kd (b.getD i 0))==k with
   | true=>
     rw [qB rfl]
     refine (ih (i+1) (by omega) (acc+1) (by omega) (by omega) f).trans ?_
     simp [cnt];omega
   | false=>
     rw [qE rfl]
     refine (ih (i+1) (by omega) acc (by omega) (by omega) f).trans ?_
     simp [cnt]
def hd_ (h:List Int) (s k:Int):Int:=h.getD (s.toNat*8+k.toNat) 0
def qBI (h:List Int):Prop:=∀ i,-128<=h.getD i 0 /\ h.getD i 0<=127
theorem qe2 {b:List Int} (hl:b.length=81) (k:Int):cnt b k<=81:=by rw [<- hl];exact List.countP_le_length
theorem qTg {b h:List Int} (hl:b.length=81) (hf:qBI h) (s k:Int) (h0:0<=k) (h1:k<8):qP1 b h s k=some (cnt b k+hd_ h 0 k+hd_ h 1 k):=by
 obtain ⟨g,hg⟩:=ql 81 (by omega)
 have hc:=qe9 b h s k hl 81 0 (by omega) 0 (by omega) (by omega) g
 rw [<- hg] at hc
 have hc:qHP qD k 0 0 b h s=some (k,(0:Int)+(cnt b k:Int),b,h,s):=hc
 unfold qP1
 rw [hc,qA]
 simp only
 rw [qB (qAQ h0 (by omega)),qB (qAQ h0 (by omega))]
 have e1:=hf (0+k.toNat)
 have e2:=hf (8+k.toNat)
 have e3:=qe2 hl k
 have c1:conv .i8 .i64 (List.getD h (0+k.toNat) 0)=List.getD h (0+k.toNat) 0:=rfl
 have c2:conv .i8 .i64 (List.getD h (8+k.toNat) 0)=List.getD h (8+k.toNat) 0:=rfl
 rw [c1,c2,qAb (n:=0+(cnt b k:Int)+_) (by omega) (by omega),qAb (by omega) (by omega)]
 unfold hd_
 simp
end Go.Kk.Pl
namespace Go.Kk.Pl
theorem qes {b:List Int} (hc:Clean b) (h:List Int) (s:Int):∀ (n i:Nat),i+n=81->∀ f,qCH (f+n+1) i b h s=some (.inr (b,h,s)):=by
 intro n
 induction n with
 | zero=>
   intro i hi f
   show qEB (qCH (f+0)) _ _ _ _=_
   unfold qEB
   rw [qE (by simp;omega)]
 | succ n ih=>
   intro i hi f
   show qEB (qCH (f+n+1)) _ _ _ _=_
   unfold qEB
   have hz:Int.toNat (i:Int)=i:=by simp
   have hin:inB (i:Int) 81=true:=qAQ (by omega) (by omega)
   rw [qB (by simp;omega),qB hin,hz,qAb (by omega) (by omega)]
   by_cases h0:b.getD i 0=0
   ·rw [qE (by simpa using h0)]
    exact ih (i+1) (by omega) f
   ·rw [qB (by simpa using h0),qB hin]
    show ob (qDW (List.getD b i 0)) _=_
    have hk:=(hc.ok i (by omega)).resolve_left h0
    rw [qFt,qA,qE (by simpa using hk)]
    exact ih (i+1) (by omega) f
theorem qek (b h:List Int) (s k:Int) (k0:0<=k) (k1:k<8):∀ (n i:Nat),i+n=2->
  (∀ f,qBt (f+n+1) k i b h s=some (.inl (55,k,b,h,s))) \/
  ((∀ f,qBt (f+n+1) k i b h s=some (.inr (k,b,h,s))) /\ ∀ j:Nat,i<=j->j<2->0<=hd_ h j k):=by
 intro n
 induction n with
 | zero=>
   intro i hi
   refine .inr ⟨fun f=>?_,fun j _ _=>by omega⟩
   show qD7 (qBt (f+0)) _ _ _ _ _=_
   unfold qD7
   rw [qE (by simp;omega)]
 | succ n ih=>
   intro i hi
   have e:∀ f,qBt (f+(n+1)+1) k i b h s=qD7 (qBt (f+n+1)) k i b h s:=fun f=>rfl
   have hz:Int.toNat (i:Int)=i:=by simp
   have hd:hd_ h (i:Int) k=List.getD h (i*8+k.toNat) 0:=by unfold hd_;rw [hz]
   simp only [e]
   unfold qD7
   simp only [qB (show decide ((i:Int)<2)=true by simp;omega),qB (show inB (i:Int) 2=true from qAQ (by omega) (by omega)),qB (show inB k 8=true from qAQ k0 (by omega)),hz,
    qAb (n:=(i:Int)+1) (by omega) (by omega)]
   by_cases hlt:List.getD h (i*8+k.toNat) 0<0
   ·exact .inl fun f=>qB (by simpa using hlt)
   ·simp only [qE (show decide (List.getD h (i*8+k.toNat) 0<0)=false by simpa using hlt)]
    have next:(∀ f,qBt (f+n+1) k ((i:Int)+1) b h s=some (.inl (55,k,b,h,s))) \/
     ((∀ f,qBt (f+n+1) k ((i:Int)+1) b h s=some (.inr (k,b,h,s))) /\ ∀ j:Nat,i<=j->j<2->0<=hd_ h j k):=by
     rcases ih (i+1) (by omega) with h1 | ⟨h1,h2⟩
     ·exact .inl h1
     ·refine .inr ⟨h1,fun j hj hj2=>?_⟩
      by_cases hji:j=i
      ·subst hji;rw [hd];omega
      ·exact h2 j (by omega) hj2
    cases hk:k==0 with
    | true=>
      simp only [qB rfl]
      cases hb:List.getD h (i*8+k.toNat) 0 != 0 with
      | true=>exact .inl fun f=>rfl
      | false=>exact next
    | false=>exact next
theorem qeu (b h:List Int) (s:Int):∀ (n i:Nat),i+n=8->
  (∀ f,qBd (f+n+1) i b h s=some (.inl (55,b,h,s))) \/
  ((∀ f,qBd (f+n+1) i b h s=some (.inr (b,h,s))) /\ ∀ k:Nat,i<=k->k<8->∀ j:Nat,j<2->0<=hd_ h j k):=by
 intro n
 induction n with
 | zero=>
   intro i hi
   refine .inr ⟨fun f=>?_,fun j _ _=>by omega⟩
   show qEC (qBd (f+0)) _ _ _ _=_
   unfold qEC
   rw [qE (by simp;omega)]
 | succ n ih=>
   intro i hi
   have e:∀ f,qBd (f+(n+1)+1) i b h s=qEC (qBd (f+n+1)) i b h s:=fun f=>rfl
   simp only [e]
   unfold qEC
   simp only [qB (show decide ((i:Int)<8)=true by simp;omega)]
   obtain ⟨g,hg⟩:=ql 2 (by omega)
   rcases qek b h s i (by omega) (by omega) 2 0 (by omega) with h1 | ⟨h1,h2⟩
   ·refine .inl fun f=>?_
    have h1:=h1 g
    rw [<- hg] at h1
    have h1:qBt qD i 0 b h s=some (.inl (55,(i:Int),b,h,s)):=h1
    rw [h1];rfl
   ·have h1:=h1 g
    rw [<- hg] at h1
    have h1:qBt qD i 0 b h s=some (.inr ((i:Int),b,h,s)):=h1
    simp only [h1,qA,qCL,qAb (n:=(i:Int)+1) (by omega) (by omega)]
    rcases ih (i+1) (by omega) with h3 | ⟨h3,h4⟩
    ·exact .inl h3
    ·refine .inr ⟨h3,fun k hk hk8 j hj=>?_⟩
     by_cases hki:k=i
     ·subst hki;exact h2 j (by omega) hj
     ·exact h4 k (by omega) hk8 j hj
theorem qom {k:Nat} (h1:1<=k) (h8:k<8):∃ t,qP0 (k:Int)=some t /\ t<=18:=by
 have:k=1 \/ k=2 \/ k=3 \/ k=4 \/ k=5 \/ k=6 \/ k=7:=by omega
 rcases this with rfl | rfl | rfl | rfl | rfl | rfl | rfl<;>exact ⟨_,rfl,by decide⟩
theorem qem {b h:List Int} (hl:b.length=81) (hf:qBI h) (s:Int):∀ (n i:Nat),i+n=8->1<=i->
  (∀ f,qBa (f+n+1) i b h s=some (.inl (51,b,h,s))) \/
  ((∀ f,qBa (f+n+1) i b h s=some (.inr (b,h,s))) /\ ∀ k:Nat,i<=k->k<8->cnt b k+hd_ h 0 k+hd_ h 1 k<=18):=by
 intro n
 induction n with
 | zero=>
   intro i hi _
   refine .inr ⟨fun f=>?_,fun j _ _=>by omega⟩
   show qD8 (qBa (f+0)) _ _ _ _=_
   unfold qD8
   rw [qE (by simp;omega)]
 | succ n ih=>
   intro i hi hi1
   have e:∀ f,qBa (f+(n+1)+1) i b h s=qD8 (qBa (f+n+1)) i b h s:=fun f=>rfl
   simp only [e]
   unfold qD8
   obtain ⟨t,ht,ht18⟩:=qom hi1 (by omega)
   simp only [qB (show decide ((i:Int)<8)=true by simp;omega),qTg hl hf s i (by omega) (by omega),qA,ht,qAb (n:=(i:Int)+1) (by omega) (by omega)]
   by_cases hgt:(cnt b i:Int)+hd_ h 0 i+hd_ h 1 i>t
   ·exact .inl fun f=>qB (by simpa using hgt)
   ·simp only [qE (show decide ((cnt b i:Int)+hd_ h 0 i+hd_ h 1 i>t)=false by simpa using hgt)]
    rcases ih (i+1) (by omega) (by omega) with h3 | ⟨h3,h4⟩
    ·exact .inl h3
    ·refine .inr ⟨h3,fun k hk hk8=>?_⟩
     by_cases hki:k=i
     ·subst hki;omega
     ·exact h4 k (by omega) hk8
theorem qlu (x:Int):∃ v,qIe x=some v:=by
 unfold qIe
 rw [qFt,qA]
 repeat first | exact ⟨_,rfl⟩ | apply qGR
theorem qlq (x q:Int):∃ v,qIg x q=some v:=by
 unfold qIg
 repeat first | exact ⟨_,rfl⟩ | apply qGR
theorem qlo (x q:Int):∃ v,qIf x q=some v:=by
 unfold qIf
 refine qFk (qlu _) fun _=>qFk (qlq _ _) fun _=>qFk ⟨_,qFt _⟩ fun _=>?_
 repeat first | exact ⟨_,rfl⟩ | apply qGR
theorem qeo (b h:List Int) (s:Int):∀ (n i:Nat),i+n=81->
  (∀ f,qBb (f+n+1) i b h s=some (.inl (52,b,h,s))) \/ (∀ f,qBb (f+n+1) i b h s=some (.inr (b,h,s))):=by
 intro n
 induction n with
 | zero=>
   intro i hi
   refine .inr fun f=>?_
   show qD9 (qBb (f+0)) _ _ _ _=_
   unfold qD9
   rw [qE (by simp;omega)]
 | succ n ih=>
   intro i hi
   have e:∀ f,qBb (f+(n+1)+1) i b h s=qD9 (qBb (f+n+1)) i b h s:=fun f=>rfl
   simp only [e]
   unfold qD9
   obtain ⟨v,hv⟩:=qlo (conv .i8 .i64 (List.getD b (Int.toNat (i:Int)) 0)) i
   simp only [qB (show decide ((i:Int)<81)=true by simp;omega),qB (show inB (i:Int) 81=true from qAQ (by omega) (by omega)),hv,qA,qAb (n:=(i:Int)+1) (by omega) (by omega)]
   cases v with
   | true=>exact .inl fun f=>rfl
   | false=>exact ih (i+1) (by omega)
theorem qj7 (b h:List Int) (s k q:Int) (q0:0<=q) (q1:q<9):∀ (n i:Nat),i+n=9->∀ acc,∃ v,∀ f,qCy (f+n+1) k q acc i b h s=some v:=by
 intro n
 induction n with
 | zero=>
   intro i hi acc
   refine ⟨acc,fun f=>?_⟩
   show qED (qCy (f+0)) _ _ _ _ _ _ _=_
   unfold qED
   rw [qE (by simp;omega)]
 | succ n ih=>
   intro i hi acc
   have e:∀ f,qCy (f+(n+1)+1) k q acc i b h s=qED (qCy (f+n+1)) k q acc i b h s:=fun f=>rfl
   simp only [e]
   unfold qED
   simp only [qB (show decide ((i:Int)<9)=true by simp;omega),qAb (n:=9*q) (by omega) (by omega),qAb (n:=9*q+(i:Int)) (by omega) (by omega),
    qB (show inB (9*q+(i:Int)) 81=true from qAQ (by omega) (by omega)),qAb (n:=(i:Int)+1) (by omega) (by omega)]
   cases conv IntKind.i8 IntKind.i64 (List.getD b (Int.toNat (9*q+↑i)) 0)==k with
   | true=>exact ih (i+1) (by omega) _
   | false=>exact ih (i+1) (by omega) _
theorem qPS (b h:List Int) (s k q:Int) (q0:0<=q) (q1:q<9):∃ v,qFq b h s k q=some v:=by
 obtain ⟨g,hg⟩:=ql 9 (by omega)
 obtain ⟨v,hv⟩:=qj7 b h s k q q0 q1 9 0 (by omega) 0
 have hv:=hv g
 rw [<- hg] at hv
 have hv:qCy qD k q 0 0 b h s=some v:=hv
 unfold qFq
 rw [hv]
 exact ⟨_,rfl⟩
theorem qcc (b h:List Int) (s k:Int):∀ (n i:Nat),i+n=9->∀ acc,∃ v,∀ f,qCz (f+n+1) k acc i b h s=some v:=by
 intro n
 induction n with
 | zero=>
   intro i hi acc
   refine ⟨acc,fun f=>?_⟩
   show qEE (qCz (f+0)) _ _ _ _ _ _=_
   unfold qEE
   rw [qE (by simp;omega)]
 | succ n ih=>
   intro i hi acc
   have e:∀ f,qCz (f+(n+1)+1) k acc i b h s=qEE (qCz (f+n+1)) k acc i b h s:=fun f=>rfl
   simp only [e]
   unfold qEE
   obtain ⟨v,hv⟩:=qPS b h s k i (by omega) (by omega)
   simp only [qB (show decide ((i:Int)<9)=true by simp;omega),hv,qA,qAb (n:=(i:Int)+1) (by omega) (by omega)]
   exact ih (i+1) (by omega) _
theorem qRg (b h:List Int) (s k:Int):∃ v,qCc b h s k=some v:=by
 obtain ⟨g,hg⟩:=ql 9 (by omega)
 obtain ⟨v,hv⟩:=qcc b h s k 9 0 (by omega) 0
 have hv:=hv g
 rw [<- hg] at hv
 have hv:qCz qD k 0 0 b h s=some v:=hv
 unfold qCc
 rw [hv]
 exact ⟨_,rfl⟩
theorem qeq (b h:List Int) (s:Int):∀ (n i:Nat),i+n=9->
  (∀ f,qBc (f+n+1) i b h s=some (.inl 53)) \/ (∀ f,qBc (f+n+1) i b h s=some (.inr ())):=by
 intro n
 induction n with
 | zero=>
   intro i hi
   refine .inr fun f=>?_
   show qEA (qBc (f+0)) _ _ _ _=_
   unfold qEA
   rw [qE (by simp;omega)]
 | succ n ih=>
   intro i hi
   have e:∀ f,qBc (f+(n+1)+1) i b h s=qEA (qBc (f+n+1)) i b h s:=fun f=>rfl
   simp only [e]
   unfold qEA
   obtain ⟨v,hv⟩:=qPS b h s 1 i (by omega) (by omega)
   obtain ⟨v2,hv2⟩:=qPS b h s 17 i (by omega) (by omega)
   simp only [qB (show decide ((i:Int)<9)=true by simp;omega),hv,hv2,qA,qAb (n:=(i:Int)+1) (by omega) (by omega)]
   cases decide (v>1) with
   | true=>exact .inl fun f=>rfl
   | false=>
     cases decide (v2>1) with
     | true=>exact .inl fun f=>rfl
     | false=>exact ih (i+1) (by omega)
structure Sound (b h:List Int) (s:Int):Prop where
 clean:Clean b
 side:s=0 \/ s=1
 hands:∀ k,0<=k->k<8->0<=hd_ h 0 k /\ 0<=hd_ h 1 k
 counts:∀ k,1<=k->k<8->cnt b k+hd_ h 0 k+hd_ h 1 k<=18
theorem qei {b h:List Int} (hc:Clean b) (hf:qBI h) (s:Int):∃ v,qIh b h s=some v /\ (v=0->Sound b h s):=by
 obtain ⟨g81,hg81⟩:=ql 81 (by omega)
 obtain ⟨g8,hg8⟩:=ql 8 (by omega)
 obtain ⟨g7,hg7⟩:=ql 7 (by omega)
 obtain ⟨g9,hg9⟩:=ql 9 (by omega)
 have c4:=qes hc h s 81 0 (by omega) g81
 rw [<- hg81] at c4
 have c4:qCH qD 0 b h s=some (.inr (b,h,s)):=c4
 obtain ⟨a1,ha1⟩:=qRg b h s 8
 obtain ⟨a2,ha2⟩:=qRg b h s 24
 by_cases hs:s=0 \/ s=1
 ·have e : ∃ v,(ob (qCH qD 0 b h s) fun t3_2=>
    sw t3_2 (fun (a3_0,_,_,_)=>some (a3_0))
     (fun (a3_0,a3_1,a3_2)=>
     ob (qBd qD 0 a3_0 a3_1 a3_2) fun t6_2=>
     sw t6_2 (fun (a6_0,_,_,_)=>
      some (a6_0))
      (fun (a6_0,a6_1,a6_2)=>
      ob (qCc a6_0 a6_1 a6_2 8) fun a9=>
      br (a9 != 1)
       (some (50))
       (ob (qCc a6_0 a6_1 a6_2 24) fun a10=>
       br (a10 != 1)
        (some (50))
        (ob (qBa qD 1 a6_0 a6_1 a6_2) fun t11_2=>
        sw t11_2 (fun (a11_0,_,_,_)=>
         some (a11_0))
         (fun (a11_0,a11_1,a11_2)=>
         ob (qBb qD 0 a11_0 a11_1 a11_2) fun t14_2=>
         sw t14_2 (fun (a14_0,_,_,_)=>
          some (a14_0))
          (fun (a14_0,a14_1,a14_2)=>
          ob (qBc qD 0 a14_0 a14_1 a14_2) fun t17_2=>
          sw t17_2 (fun a17=>
           some (a17))
           (fun _=>
           some (0)))))))):Option Int)=some v /\ (v=0->Sound b h s):=by
   rw [c4,qA,qCL]
   simp only
   rcases qeu b h s 8 0 (by omega) with c9 | ⟨c9,hands⟩
   ·have c9:=c9 g8
    rw [<- hg8] at c9
    have c9:qBd qD 0 b h s=some (.inl (55,b,h,s)):=c9
    rw [c9]
    exact ⟨55,rfl,fun h=>by cases h⟩
   have c9:=c9 g8
   rw [<- hg8] at c9
   have c9:qBd qD 0 b h s=some (.inr (b,h,s)):=c9
   rw [c9,qA,qCL]
   simp only
   rw [ha1,qA,ha2]
   cases a1 != 1 with
   | true=>exact ⟨50,rfl,fun h=>by cases h⟩
   | false=>
   rw [qE rfl,qA]
   cases a2 != 1 with
   | true=>exact ⟨50,rfl,fun h=>by cases h⟩
   | false=>
   rw [qE rfl]
   rcases qem hc.len hf s 7 1 (by omega) (by omega) with c20 | ⟨c20,counts⟩
   ·have c20:=c20 g7
    rw [<- hg7] at c20
    have c20:qBa qD 1 b h s=some (.inl (51,b,h,s)):=c20
    rw [c20]
    exact ⟨51,rfl,fun h=>by cases h⟩
   have c20:=c20 g7
   rw [<- hg7] at c20
   have c20:qBa qD 1 b h s=some (.inr (b,h,s)):=c20
   rw [c20,qA,qCL]
   simp only
   rcases qeo b h s 81 0 (by omega) with c25 | c25
   ·have c25:=c25 g81
    rw [<- hg81] at c25
    have c25:qBb qD 0 b h s=some (.inl (52,b,h,s)):=c25
    rw [c25]
    exact ⟨52,rfl,fun h=>by cases h⟩
   have c25:=c25 g81
   rw [<- hg81] at c25
   have c25:qBb qD 0 b h s=some (.inr (b,h,s)):=c25
   rw [c25,qA,qCL]
   simp only
   rcases qeq b h s 9 0 (by omega) with c30 | c30
   ·have c30:=c30 g9
    rw [<- hg9] at c30
    have c30:qBc qD 0 b h s=some (.inl 53):=c30
    rw [c30]
    exact ⟨53,rfl,fun h=>by cases h⟩
   have c30:=c30 g9
   rw [<- hg9] at c30
   have c30:qBc qD 0 b h s=some (.inr ()):=c30
   rw [c30]
   refine ⟨0,rfl,fun _=>⟨hc,hs,fun k k0 k8=>?_,fun k k0 k8=>?_⟩⟩
   ·have e:k=(k.toNat:Int):=by omega
    rw [e]
    exact ⟨hands k.toNat (by omega) (by omega) 0 (by omega),hands k.toNat (by omega) (by omega) 1 (by omega)⟩
   ·have e:k=(k.toNat:Int):=by omega
    rw [e]
    exact counts k.toNat (by omega) (by omega)
  unfold qIh
  rcases hs with rfl | rfl
  ·rw [qE (by rfl)];exact e
  ·rw [qB (by rfl),qE (by rfl)];exact e
 ·refine ⟨1,?_,fun h=>by cases h⟩
  unfold qIh
  rw [qB (by simp;omega),qB (by simp;omega)]
end Go.Kk.Pl
namespace Go.Kk.Pl
def qCT (s:Int) (q:Nat):Int:=if s=0 then ((q % 9:Nat):Int) else if s=1 then 8 - ((q % 9:Nat):Int) else -1
def qBT (x:Int) (q:Nat):Bool:=decide (((kd x=1 \/ kd x=2) /\ qCT (sd x) q=0) \/ (kd x=3 /\ (qCT (sd x) q=0 \/ qCT (sd x) q=1)))
def bsP (b:List Int) (i:Nat):Bool:=decide (b.getD i 0≠0 /\ kd (b.getD i 0)=0)
def bsH (h:List Int) (k s:Nat):Bool:=decide (h.getD (s*8+k) 0<0 \/ (k=0 /\ h.getD (s*8+k) 0≠0))
def nP (b:List Int) (x:Int):Nat:=(List.range 81).countP fun i=>b.getD i 0==x
def nF (b:List Int) (x:Int) (f:Nat):Nat:=(List.range 9).countP fun r=>b.getD (9*f+r) 0==x
def qRO (k:Int):Int:=if k=1 then 18 else if k=2 \/ k=3 \/ k=4 \/ k=5 then 4 else if k=6 \/ k=7 \/ k=8 then 2 else 0
def qD3 (b h:List Int) (k:Nat):Bool:=decide (qRO k<cnt b k+hd_ h 0 k+hd_ h 1 k)
def qCZ (b:List Int) (f:Nat):Bool:=decide (1<nF b 1 f)||decide (1<nF b 17 f)
def qBL (b h:List Int) (s:Int):Int:=
 if ¬ (s=0 \/ s=1) then 1
 else if (List.range' 0 81).any (bsP b) then 55
 else if (List.range' 0 8).any (fun k=>(List.range' 0 2).any (bsH h k)) then 55
 else if ¬ (nP b 8=1 /\ nP b 24=1) then 50
 else if (List.range' 1 7).any (qD3 b h) then 51
 else if (List.range' 0 81).any (fun i=>qBT (b.getD i 0) i) then 52
 else if (List.range' 0 9).any (qCZ b) then 53
 else 0
theorem qlv (x:Int):qIe x=some (sd x):=by
 unfold qIe
 rw [qFt,qA]
 unfold sd
 by_cases h:kd x=0
 ·rw [qAd h,if_pos h]
 ·obtain ⟨h1,h2⟩:=qIN h
  rw [qAX h,if_neg h]
  by_cases h3:x<16
  ·rw [if_pos h3,Int.tdiv_eq_ediv_of_nonneg (by omega)]
   congr 1
   rw [w_s (by omega) (by omega)]
   omega
  ·rw [if_neg h3,Int.tdiv_eq_ediv_of_nonneg (by omega)]
   congr 1
   rw [w_s (by omega) (by omega)]
   omega
theorem qI7 (q:Nat):Int.tmod (q:Int) 9=((q % 9:Nat):Int):=by
 rw [Int.tmod_eq_emod_of_nonneg (by omega)];omega
theorem qlr {s:Int} (hs:s = -1 \/ s=0 \/ s=1) {q:Nat} (hq:q<81):qIg s q=some (qCT s q):=by
 unfold qIg qCT
 rcases hs with rfl | rfl | rfl
 ·simp (disch:=omega) only [qZ,qg]
  simp
 ·simp (disch:=omega) only [qZ,qAd,qI7]
  simp
 ·simp (disch:=omega) only [qZ,qAX,qI7,w_s]
  simp
theorem qLN (x:Int):sd x = -1 \/ sd x=0 \/ sd x=1:=by
 unfold sd
 split
 ·exact .inl rfl
 ·split
  ·exact .inr (.inl rfl)
  ·exact .inr (.inr rfl)
theorem qlp (x:Int) {q:Nat} (hq:q<81):qIf x q=some (qBT x q):=by
 unfold qIf
 rw [qlv,qA,qlr (qLN x) hq,qA,qFt,qA]
 unfold qBT
 generalize kd x=k
 generalize qCT (sd x) q=n
 simp only [qJg,beq_iff_eq]
 repeat' split
 all_goals first
  | (rw [Option.some.injEq,Bool.eq_iff_iff];simp;omega)
  | (simp;omega)
theorem qet (b h:List Int) (s:Int):∀ (n i:Nat),i+n=81->∀ f,qCH (f+n+1) i b h s=some (if (List.range' i n).any (bsP b) then .inl (55,b,h,s) else .inr (b,h,s)):=by
 intro n
 induction n with
 | zero=>
   intro i hi f
   show qEB (qCH (f+0)) _ _ _ _=_
   unfold qEB
   rw [qZ (by omega)]
   rfl
 | succ n ih=>
   intro i hi f
   show qEB (qCH (f+n+1)) _ _ _ _=_
   unfold qEB
   simp (disch:=omega) only [qg,qAN,c_8,tn,qFt,qA,w_s,any_cons]
   have:=ih (i+1) (by omega) f
   by_cases h0:b.getD i 0=0
   ·rw [qA9 h0,show bsP b i=false by unfold bsP;simp only [h0];rfl,Bool.false_or]
    exact this
   ·rw [qAo h0]
    by_cases hk:kd (b.getD i 0)=0
    ·rw [qAd hk,show bsP b i=true by unfold bsP;simp only [hk,decide_eq_true_eq];exact ⟨h0,trivial⟩]
     rfl
    ·rw [qAX hk,show bsP b i=false by unfold bsP;rw [decide_eq_false_iff_not];omega,Bool.false_or]
     exact this
theorem qel (b h:List Int) (s:Int) (k:Nat) (hk:k<8):∀ (n i:Nat),i+n=2->∀ f,qBt (f+n+1) k i b h s=some (if (List.range' i n).any (bsH h k) then .inl (55,k,b,h,s) else .inr (k,b,h,s)):=by
 intro n
 induction n with
 | zero=>
   intro i hi f
   show qD7 (qBt (f+0)) _ _ _ _ _=_
   unfold qD7
   rw [qZ (by omega)]
   rfl
 | succ n ih=>
   intro i hi f
   show qD7 (qBt (f+n+1)) _ _ _ _ _=_
   unfold qD7
   simp (disch:=omega) only [qg,qAN,tn,w_s,any_cons]
   have:=ih (i+1) (by omega) f
   by_cases h0:h.getD (i*8+k) 0<0
   ·rw [qB (by simpa using h0),show bsH h k i=true by unfold bsH;simp only [h0,true_or,decide_true]]
    rfl
   ·rw [qE (by simpa using h0)]
    by_cases hk0:k=0
    ·rw [qAd (by omega)]
     by_cases h1:h.getD (i*8+k) 0=0
     ·rw [qA9 h1,show bsH h k i=false by unfold bsH;rw [h1];simp,Bool.false_or]
      exact this
     ·rw [qAo h1,show bsH h k i=true by unfold bsH;simp only [decide_eq_true_eq];exact .inr ⟨hk0,h1⟩]
      rfl
    ·rw [qAX (by omega),show bsH h k i=false by unfold bsH;rw [decide_eq_false_iff_not];omega,Bool.false_or]
     exact this
theorem qev (b h:List Int) (s:Int):∀ (n i:Nat),i+n=8->∀ f,qBd (f+n+1) i b h s=some (if (List.range' i n).any (fun k=>(List.range' 0 2).any (bsH h k)) then .inl (55,b,h,s) else .inr (b,h,s)):=by
 intro n
 induction n with
 | zero=>
   intro i hi f
   show qEC (qBd (f+0)) _ _ _ _=_
   unfold qEC
   rw [qZ (by omega)]
   rfl
 | succ n ih=>
   intro i hi f
   show qEC (qBd (f+n+1)) _ _ _ _=_
   unfold qEC
   obtain ⟨g,hg⟩:=ql 2 (by omega)
   have h12:=qel b h s i (by omega) 2 0 (by omega) g
   rw [<- hg] at h12
   have h12:qBt qD i 0 b h s=_:=h12
   rw [qg (by omega),h12,qA,any_cons (fun k=>(List.range' 0 2).any (bsH h k)) i n]
   have:=ih (i+1) (by omega) f
   cases hb:(List.range' 0 2).any (bsH h i) with
   | true=>rfl
   | false=>
     rw [Bool.false_or,if_neg (by decide),qCL]
     simp only
     rw [w_s (by omega) (by omega)]
     exact this
theorem qlw:∀ k:Fin 9,qP0 ((k.val:Nat):Int)=some (qRO ((k.val:Nat):Int)):=by decide +kernel
theorem qen {b h:List Int} (hl:b.length=81) (hf:qBI h) (s:Int):∀ (n i:Nat),i+n=8->1<=i->∀ f,qBa (f+n+1) i b h s=some (if (List.range' i n).any (qD3 b h) then .inl (51,b,h,s) else .inr (b,h,s)):=by
 intro n
 induction n with
 | zero=>
   intro i hi _ f
   show qD8 (qBa (f+0)) _ _ _ _=_
   unfold qD8
   rw [qZ (by omega)]
   rfl
 | succ n ih=>
   intro i hi h1 f
   show qD8 (qBa (f+n+1)) _ _ _ _=_
   unfold qD8
   have ht:=qlw ⟨i,by omega⟩
   simp only at ht
   rw [qg (by omega),qTg hl hf s i (by omega) (by omega),qA,ht,qA,any_cons,w_s (by omega) (by omega)]
   have:=ih (i+1) (by omega) (by omega) f
   by_cases ho:qRO i<cnt b i+hd_ h 0 i+hd_ h 1 i
   ·rw [qGM ho,show qD3 b h i=true by unfold qD3;simpa using ho]
    rfl
   ·rw [qEb ho,show qD3 b h i=false by unfold qD3;simpa using ho,Bool.false_or]
    exact this
theorem qep (b h:List Int) (s:Int):∀ (n i:Nat),i+n=81->∀ f,qBb (f+n+1) i b h s=some (if (List.range' i n).any (fun i=>qBT (b.getD i 0) i) then .inl (52,b,h,s) else .inr (b,h,s)):=by
 intro n
 induction n with
 | zero=>
   intro i hi f
   show qD9 (qBb (f+0)) _ _ _ _=_
   unfold qD9
   rw [qZ (by omega)]
   rfl
 | succ n ih=>
   intro i hi f
   show qD9 (qBb (f+n+1)) _ _ _ _=_
   unfold qD9
   have:=ih (i+1) (by omega) f
   rw [qg (by omega),qAN (by omega) (by omega),tn,c_8,qlp _ (by omega),qA,any_cons,w_s (by omega) (by omega)]
   cases hb:qBT (b.getD i 0) i with
   | true=>rfl
   | false=>
     rw [b_f,Bool.false_or]
     exact this
theorem qe7 (p:Nat->Bool) (i n:Nat):(List.range' i (n+1)).countP p=(if p i then 1 else 0)+(List.range' (i+1) n).countP p:=by
 rw [List.range'_succ,List.countP_cons];omega
theorem qj4 (b h:List Int) (s x:Int) (q:Nat) (hq:q<9):∀ (n i:Nat),i+n=9->∀ acc:Nat,acc<=i->∀ f,
  qCy (f+n+1) x q acc i b h s=some (((acc+(List.range' i n).countP fun r=>b.getD (9*q+r) 0==x:Nat):Int)):=by
 intro n
 induction n with
 | zero=>
   intro i hi acc _ f
   show qED (qCy (f+0)) _ _ _ _ _ _ _=_
   unfold qED
   rw [qZ (by omega)]
   rfl
 | succ n ih=>
   intro i hi acc ha f
   show qED (qCy (f+n+1)) _ _ _ _ _ _ _=_
   unfold qED
   simp (disch:=omega) only [qg,qAN,w_s,c_8]
   have h1:=ih (i+1) (by omega) acc (by omega) f
   have h2:=ih (i+1) (by omega) (acc+1) (by omega) f
   have ht:(9*(q:Int)+(i:Int)).toNat=9*q+i:=by omega
   rw [ht,qe7]
   cases hb:b.getD (9*q+i) 0==x with
   | true=>
     rw [b_t,if_pos rfl]
     refine h2.trans ?_
     congr 2;omega
   | false=>
     rw [b_f,if_neg (by simp)]
     refine h1.trans ?_
     congr 2;omega
theorem qPT (b h:List Int) (s x:Int) (q:Nat) (hq:q<9):qFq b h s x q=some ((nF b x q:Nat):Int):=by
 obtain ⟨g,hg⟩:=ql 9 (by omega)
 have:=qj4 b h s x q hq 9 0 (by omega) 0 (by omega) g
 rw [<- hg] at this
 unfold qFq
 rw [show qCy qD x q 0 0 b h s=_ from this,qA,Nat.zero_add]
 unfold nF
 rw [List.range_eq_range']
theorem qjD (b:List Int) (x:Int) (q:Nat):nF b x q<=9:=Nat.le_trans List.countP_le_length (by simp)
theorem qca (b h:List Int) (s x:Int):∀ (n i:Nat),i+n=9->∀ acc:Nat,acc<=9*i->∀ f,
  qCz (f+n+1) x acc i b h s=some (((acc+((List.range' i n).map (nF b x)).sum:Nat):Int)):=by
 intro n
 induction n with
 | zero=>
   intro i hi acc _ f
   show qEE (qCz (f+0)) _ _ _ _ _ _=_
   unfold qEE
   rw [qZ (by omega)]
   rfl
 | succ n ih=>
   intro i hi acc ha f
   show qEE (qCz (f+n+1)) _ _ _ _ _ _=_
   unfold qEE
   have hle:=qjD b x i
   rw [qg (by omega),qPT b h s x i (by omega),qA,w_s (by omega) (by omega),w_s (by omega) (by omega)]
   have h2:=ih (i+1) (by omega) (acc+nF b x i) (by omega) f
   rw [List.range'_succ,List.map_cons,List.sum_cons]
   rw [Int.natCast_add] at h2
   refine Eq.trans h2 ?_
   congr 2;omega
theorem qkz:List.range 81=(List.range' 0 9).flatMap fun f=>(List.range 9).map (9*f+·):=by decide +kernel
theorem qjG (b:List Int) (x:Int):nP b x=((List.range' 0 9).map (nF b x)).sum:=by
 unfold nP
 rw [qkz,List.countP_flatMap]
 congr 1
theorem qRh (b h:List Int) (s x:Int):qCc b h s x=some ((nP b x:Nat):Int):=by
 obtain ⟨g,hg⟩:=ql 9 (by omega)
 have:=qca b h s x 9 0 (by omega) 0 (by omega) g
 rw [<- hg,Nat.zero_add,<- qjG] at this
 unfold qCc
 rw [show qCz qD x 0 0 b h s=_ from this,qA]
theorem qer (b h:List Int) (s:Int):∀ (n i:Nat),i+n=9->∀ f,qBc (f+n+1) i b h s=some (if (List.range' i n).any (qCZ b) then .inl 53 else .inr ()):=by
 intro n
 induction n with
 | zero=>
   intro i hi f
   show qEA (qBc (f+0)) _ _ _ _=_
   unfold qEA
   rw [qZ (by omega)]
   rfl
 | succ n ih=>
   intro i hi f
   show qEA (qBc (f+n+1)) _ _ _ _=_
   unfold qEA
   have:=ih (i+1) (by omega) f
   rw [qg (by omega),qPT b h s 1 i (by omega),qA,qPT b h s 17 i (by omega),qA,any_cons,w_s (by omega) (by omega)]
   by_cases h1:1<nF b 1 i
   ·rw [qGM (by omega),show qCZ b i=true by unfold qCZ;simp [h1]]
    rfl
   ·rw [qEb (by omega)]
    by_cases h2:1<nF b 17 i
    ·rw [qGM (by omega),show qCZ b i=true by unfold qCZ;simp [h2]]
     rfl
    ·rw [qEb (by omega),show qCZ b i=false by unfold qCZ;simp [h1,h2],Bool.false_or]
     exact this
theorem qln {b h:List Int} (hl:b.length=81) (hf:qBI h) (s:Int):qIh b h s=some (qBL b h s):=by
 obtain ⟨g81,hg81⟩:=ql 81 (by omega)
 obtain ⟨g8,hg8⟩:=ql 8 (by omega)
 obtain ⟨g7,hg7⟩:=ql 7 (by omega)
 obtain ⟨g9,hg9⟩:=ql 9 (by omega)
 have c4:=qet b h s 81 0 (by omega) g81
 rw [<- hg81] at c4
 have c9:=qev b h s 8 0 (by omega) g8
 rw [<- hg8] at c9
 have c20:=qen hl hf s 7 1 (by omega) (by omega) g7
 rw [<- hg7] at c20
 have c25:=qep b h s 81 0 (by omega) g81
 rw [<- hg81] at c25
 have c30:=qer b h s 9 0 (by omega) g9
 rw [<- hg9] at c30
 have main : (ob (qCH qD 0 b h s) fun t3_2=>
    sw t3_2 (fun (a3_0,_,_,_)=>some (a3_0))
     (fun (a3_0,a3_1,a3_2)=>
     ob (qBd qD 0 a3_0 a3_1 a3_2) fun t6_2=>
     sw t6_2 (fun (a6_0,_,_,_)=>
      some (a6_0))
      (fun (a6_0,a6_1,a6_2)=>
      ob (qCc a6_0 a6_1 a6_2 8) fun a9=>
      br (a9 != 1)
       (some (50))
       (ob (qCc a6_0 a6_1 a6_2 24) fun a10=>
       br (a10 != 1)
        (some (50))
        (ob (qBa qD 1 a6_0 a6_1 a6_2) fun t11_2=>
        sw t11_2 (fun (a11_0,_,_,_)=>
         some (a11_0))
         (fun (a11_0,a11_1,a11_2)=>
         ob (qBb qD 0 a11_0 a11_1 a11_2) fun t14_2=>
         sw t14_2 (fun (a14_0,_,_,_)=>
          some (a14_0))
          (fun (a14_0,a14_1,a14_2)=>
          ob (qBc qD 0 a14_0 a14_1 a14_2) fun t17_2=>
          sw t17_2 (fun a17=>
           some (a17))
           (fun _=>
           some (0)))))))):Option Int) =
   some (if (List.range' 0 81).any (bsP b) then 55
    else if (List.range' 0 8).any (fun k=>(List.range' 0 2).any (bsH h k)) then 55
    else if ¬ (nP b 8=1 /\ nP b 24=1) then 50
    else if (List.range' 1 7).any (qD3 b h) then 51
    else if (List.range' 0 81).any (fun i=>qBT (b.getD i 0) i) then 52
    else if (List.range' 0 9).any (qCZ b) then 53
    else 0):=by
  rw [show qCH qD 0 b h s=_ from c4,qA]
  split
  ·rfl
  rw [qCL]
  simp only
  rw [show qBd qD 0 b h s=_ from c9,qA]
  split
  ·rfl
  rw [qCL]
  simp only
  rw [qRh,qA,qRh,qA]
  by_cases h8:nP b 8=1
  ·rw [qA9 (by omega)]
   by_cases h24:nP b 24=1
   ·rw [qA9 (by omega),if_neg (by simp [h8,h24]),show qBa qD 1 b h s=_ from c20,qA]
    split
    ·rfl
    rw [qCL]
    simp only
    rw [show qBb qD 0 b h s=_ from c25,qA]
    split
    ·rfl
    rw [qCL]
    simp only
    rw [show qBc qD 0 b h s=_ from c30,qA]
    split
    ·rfl
    ·rfl
   ·rw [qAo (by omega),if_pos (by simp [h24])]
  ·rw [qAo (by omega),if_pos (by simp [h8])]
 unfold qIh qBL
 by_cases h0:s=0
 ·rw [qA9 h0,if_neg (by simp [h0])]
  exact main
 ·rw [qAo h0]
  by_cases h1:s=1
  ·rw [qA9 h1,if_neg (by simp [h1])]
   exact main
  ·rw [qAo h1,if_pos (by simp [h0,h1])]
end Go.Kk.Pl
namespace Go.Kk.Pl
def up_ (k:Int):Int:=if k=1 \/ k=2 \/ k=3 \/ k=4 \/ k=6 \/ k=7 then k+8 else 0
theorem qJA (k:Int):qCb k=some (up_ k):=by
 unfold qCb up_
 by_cases h1:k=1
 ·subst h1;rfl
 rw [qE (by simpa using h1)]
 by_cases h2:k=2
 ·subst h2;rfl
 rw [qE (by simpa using h2)]
 by_cases h3:k=3
 ·subst h3;rfl
 rw [qE (by simpa using h3)]
 by_cases h4:k=4
 ·subst h4;rfl
 rw [qE (by simpa using h4)]
 by_cases h6:k=6
 ·subst h6;rfl
 rw [qE (by simpa using h6)]
 by_cases h7:k=7
 ·subst h7;rfl
 rw [qE (by simpa using h7),if_neg (by omega)]
theorem qjQ:∀ n:Fin 16,qAh 0 ((n.val:Nat):Int)=some (if n.val=0 \/ n.val=13 then 0 else (n.val:Int)):=by decide +kernel
theorem qjR:∀ n:Fin 16,qAh 1 ((n.val:Nat):Int)=some (if n.val=0 \/ n.val=13 then 0 else 16+(n.val:Int)):=by decide +kernel
theorem qk2:∀ n:Fin 16,qCw ((n.val:Nat):Int)=some (rw_ ((n.val:Nat):Int)):=by decide +kernel
theorem qUP {x:Int} (h0:0<=x) (h1:x<=15):∃ n:Fin 16,x=((n.val:Nat):Int):=⟨⟨x.toNat,by omega⟩,by simp;omega⟩
theorem qKm {s k:Int} (hs:s=0 \/ s=1) (h1:1<=k) (h2:k<=15) (h3:k≠13):qAh s k=some (16*s+k):=by
 obtain ⟨n,rfl⟩:=qUP (by omega) h2
 rcases hs with rfl | rfl
 ·rw [qjQ,if_neg (by omega)];simp
 ·rw [qjR,if_neg (by omega)];simp
theorem qDN (x:Int):0<=kd x /\ kd x<=15 /\ kd x≠13:=by
 unfold kd
 split<;>omega
theorem qYO {k:Int} (h0:0<=k) (h1:k<=15):qCw k=some (rw_ k):=by
 obtain ⟨n,rfl⟩:=qUP h0 h1
 exact qk2 n
theorem qGn {s k:Int} (hs:s=0 \/ s=1) (h1:1<=k) (h2:k<=15) (h3:k≠13):kd (16*s+k)=k:=by
 unfold kd
 rw [if_neg (by omega)]
 omega
theorem qIm {x:Int} (h:kd x≠0) (h8:kd x≠8):1<=rw_ (kd x) /\ rw_ (kd x)<8:=by
 have:=qDN x
 unfold rw_
 rw [if_neg (by omega)]
 split<;>omega
def kp (q x:Int):Int:=(qBy q x).getD 0
def kh (s k n:Int):Int:=(qCW s k n).getD 0
def qIO:Int:=qCX.getD 0
theorem qhX (q x:Int):qBy q x=some (kp q x):=by
 obtain ⟨v,hv⟩:=qg7 q x
 unfold kp;rw [hv];rfl
theorem qhR (s k n:Int):qCW s k n=some (kh s k n):=by
 obtain ⟨v,hv⟩:=qg6 s k n
 unfold kh;rw [hv];rfl
theorem qhZ:qCX=some qIO:=by
 obtain ⟨v,hv⟩:=qg8
 unfold qIO;rw [hv];rfl
theorem qJ8 {s k:Int} (hs:s=0 \/ s=1) (h1:1<=k) (h2:k<8) (b h:List Int) (S:Int) (by_ sides:List (List Int)):qCO s k b h S by_ sides=some (hd_ h s k):=by
 unfold qCO
 have e:(br (decide (k<1)) (some (0:Int)) (br (decide (k >= 8)) (some 0) (br (inB s 2) (br (inB k 8) (some (conv .i8 .i64 (List.getD h (s.toNat*8+k.toNat) 0))) none) none)))=some (hd_ h s k):=by
  rw [qE (by simp;omega),qE (by simp;omega),qB (qAQ (by omega) (by omega)),qB (qAQ (by omega) (by omega))]
  rfl
 rcases hs with rfl | rfl
 ·rw [qE (by rfl)];exact e
 ·rw [qB (by rfl),qE (by rfl)];exact e
theorem qWy (f t d:Int) (p:Bool):∃ v,qDQ f t d p=some v /\ (v=0->0<=t /\ t<81 /\ (d≠0->0<d /\ d<8 /\ f=0 /\ p=false) /\ (d=0->0<=f /\ f<81 /\ f≠t)):=by
 unfold qDQ
 by_cases h1:t<0
 ·rw [qB (by simpa using h1)];exact ⟨1,rfl,fun h=>by cases h⟩
 rw [qE (by simpa using h1)]
 by_cases h2:81<=t
 ·rw [qB (by simpa using h2)];exact ⟨1,rfl,fun h=>by cases h⟩
 rw [qE (by simpa using h2)]
 by_cases h3:d=0
 ·rw [qE (by simpa using h3)]
  by_cases h4:f<0
  ·rw [qB (by simpa using h4)];exact ⟨1,rfl,fun h=>by cases h⟩
  rw [qE (by simpa using h4)]
  by_cases h5:81<=f
  ·rw [qB (by simpa using h5)];exact ⟨1,rfl,fun h=>by cases h⟩
  rw [qE (by simpa using h5)]
  by_cases h6:f=t
  ·rw [qB (by simpa using h6)];exact ⟨70,rfl,fun h=>by cases h⟩
  ·rw [qE (by simpa using h6)]
   exact ⟨0,rfl,fun _=>⟨by omega,by omega,fun h=>absurd h3 h,fun _=>⟨by omega,by omega,h6⟩⟩⟩
 ·rw [qB (by simpa using h3)]
  by_cases h4:d<0
  ·rw [qB (by simpa using h4)];exact ⟨70,rfl,fun h=>by cases h⟩
  rw [qE (by simpa using h4)]
  by_cases h5:8<=d
  ·rw [qB (by simpa using h5)];exact ⟨70,rfl,fun h=>by cases h⟩
  rw [qE (by simpa using h5)]
  by_cases h6:f=0
  ·rw [qE (by simpa using h6)]
   cases p with
   | true=>exact ⟨70,rfl,fun h=>by cases h⟩
   | false=>exact ⟨0,rfl,fun _=>⟨by omega,by omega,fun _=>⟨by omega,by omega,h6,rfl⟩,fun h=>absurd h h3⟩⟩
  ·rw [qB (by simpa using h6)];exact ⟨70,rfl,fun h=>by cases h⟩
structure CanP (b h:List Int) (s f t d:Int) (p:Bool):Prop where
 to_:0<=t /\ t<81
 drop:d≠0->0<d /\ d<8 /\ f=0 /\ p=false /\ hd_ h s d>0 /\ at_ b t=0
 move:d=0->0<=f /\ f<81 /\ f≠t /\ sd (at_ b f)=s /\ sd (at_ b t)≠s /\ kd (at_ b t)≠8 /\ (p=true->up_ (kd (at_ b f))≠0)
theorem qef (b h:List Int) {s:Int} (hs:s=0 \/ s=1) (f t d:Int) (p:Bool):∃ c,(∀ K n by_ sides m st,qDo f t d p K n b h s by_ sides m st=some c) /\ (c=true->CanP b h s f t d p):=by
 obtain ⟨v,hv,hv0⟩:=qWy f t d p
 by_cases hz:v=0
 ·subst hz
  obtain ⟨t0,t1,hd,hm⟩:=hv0 rfl
  have key:∃ c:Bool,(∀ by_ sides,(br (d != 0)
    (ob (qCO s d b h s by_ sides) fun a14=>
    br (decide (a14>0))
     (ob (qAe t b h s by_ sides) fun a15=>
     some (a15==0))
     (some (false)))
    (ob (qAe f b h s by_ sides) fun a14=>
    ob (qAe t b h s by_ sides) fun a15=>
    ob (qAI a14) fun a16=>
    br (a16==s)
     (ob (qAI a15) fun a17=>
     br (a17 != s)
      (ob (q9 a15) fun a18=>
      br (a18 != 8)
       (br (!p)
        (some (true))
        (ob (q9 a14) fun a19=>
        ob (qCb a19) fun a20=>
        some (a20 != 0)))
       (some (false)))
      (some (false)))
     (some (false))))=some c) /\ (c=true->CanP b h s f t d p):=by
   by_cases hd0:d=0
   ·subst hd0
    obtain ⟨f0,f1,f2⟩:=hm rfl
    simp only [qE (show ((0:Int) != 0)=false from rfl),qCk,qA,qEM,qBn,qJA]
    by_cases g1:sd (at_ b f)=s
    ·rw [qB (by simpa using g1)]
     by_cases g2:sd (at_ b t)=s
     ·rw [qE (by simpa using g2)];exact ⟨false,fun _ _=>rfl,fun h=>by cases h⟩
     rw [qB (by simpa using g2)]
     by_cases g3:kd (at_ b t)=8
     ·rw [qE (by simpa using g3)];exact ⟨false,fun _ _=>rfl,fun h=>by cases h⟩
     rw [qB (by simpa using g3)]
     cases p with
     | false=>exact ⟨true,fun _ _=>rfl,fun _=>⟨⟨t0,t1⟩,fun h=>absurd rfl h,fun _=>⟨f0,f1,f2,g1,g2,g3,fun h=>by cases h⟩⟩⟩
     | true=>exact ⟨up_ (kd (at_ b f)) != 0,fun _ _=>rfl,fun hu=>⟨⟨t0,t1⟩,fun h=>absurd rfl h,fun _=>⟨f0,f1,f2,g1,g2,g3,fun _=>by simpa using hu⟩⟩⟩
    ·rw [qE (by simpa using g1)];exact ⟨false,fun _ _=>rfl,fun h=>by cases h⟩
   ·obtain ⟨d0,d1,d2,d3⟩:=hd hd0
    simp only [qB (show (d != 0)=true by simpa using hd0),qJ8 hs (show 1<=d by omega) d1,qCk,qA]
    by_cases g1:hd_ h s d>0
    ·rw [qB (by simpa using g1)]
     exact ⟨at_ b t==0,fun _ _=>rfl,fun g=>⟨⟨t0,t1⟩,fun _=>⟨d0,d1,d2,d3,g1,by simpa using g⟩,fun h=>absurd h hd0⟩⟩
    ·rw [qE (by simpa using g1)];exact ⟨false,fun _ _=>rfl,fun h=>by cases h⟩
  obtain ⟨c,k1,k2⟩:=key
  refine ⟨c,fun K n by_ sides m st=>?_,k2⟩
  unfold qDo
  rw [hv,qA,qE (by rfl)]
  rcases hs with rfl | rfl
  ·rw [qE (by rfl)];exact k1 by_ sides
  ·rw [qB (by rfl),qE (by rfl)];exact k1 by_ sides
 ·refine ⟨false,fun K n by_ sides m st=>?_,fun h=>by cases h⟩
  unfold qDo
  rw [hv,qA,qB (by simpa using hz)]
def qCC (K:Int) (b:List Int) (q x:Int):Int:=qF .xor .u64 K (qF .xor .u64 (kp q (at_ b q)) (kp q x))
def qEt (K:Int) (h:List Int) (s k d:Int):Int:=qF .xor .u64 K (qF .xor .u64 (kh s k (hd_ h s k)) (kh s k (IntKind.wrap .i64 (hd_ h s k+d))))
def qKJ (K:Int):Int:=qF .xor .u64 K qIO
def qu (h:List Int) (s k d:Int):List Int:=h.set (s.toNat*8+k.toNat) (IntKind.wrap .i8 (hd_ h s k+d))
theorem qJ6 {s k:Int} (hs:s=0 \/ s=1) (h1:1<=k) (h2:k<8) (d:Int) (hd:d=1 \/ d = -1) (K:Int) (n:Nat) (b h:List Int) (S:Int) (by_ sides:List (List Int)) (m:Nat) (st:List (List Int)):
  qDI s k d K n b h S by_ sides m st=some (qEt K h s k d,n,b,qu h s k d,S,by_,sides,m,st):=by
 unfold qDI
 have e1:inB s 2=true:=qAQ (by omega) (by omega)
 have e2:inB k 8=true:=qAQ (by omega) (by omega)
 have e3:conv .i64 .i8 d=d:=by rcases hd with rfl | rfl<;>rfl
 simp only [qJ8 hs h1 h2,qA,qhR,qB e1,qB e2,e3]
 rfl
theorem qJ7 {s:Int} (hs:s=0 \/ s=1) (K:Int) (n:Nat) (b h:List Int) (by_ sides:List (List Int)) (m:Nat) (st:List (List Int)):
  qCP K n b h s by_ sides m st=some (qKJ K,n,b,h,1 - s,by_,sides,m,st):=by
 unfold qCP
 rw [qhZ,qA]
 rcases hs with rfl | rfl<;>rfl
end Go.Kk.Pl
namespace Go.Kk.Pl
theorem qaf {s:Int} (hs:s = -1 \/ s=0 \/ s=1) {q:Nat} (hq:q<81):qFD s q=some (qCT s q):=by
 unfold qFD qE9 qCT
 rcases hs with rfl | rfl | rfl
 ·simp (disch:=omega) only [qZ,qCN,qAX]
  simp
 ·simp (disch:=omega) only [qZ,qCN,qAd,qI7,qA]
  simp
 ·simp (disch:=omega) only [qZ,qCN,qAX,qAd,qI7,qA,w_s]
  simp
theorem qnX (x:Int) {q:Nat} (hq:q<81):qDe x q=some (qBT x q):=by
 unfold qDe
 rw [qEM,qA,qaf (qLN x) hq,qA,qBn,qA]
 unfold qBT
 generalize kd x=k
 generalize qCT (sd x) q=n
 simp only [qJg,beq_iff_eq]
 repeat' split
 all_goals first
  | (rw [Option.some.injEq,Bool.eq_iff_iff];simp;omega)
  | (simp;omega)
def pc (s k:Int):Int:=if (s=0 \/ s=1) /\ 1<=k /\ k<=15 /\ k≠13 then 16*s+k else 0
theorem qBC {s k:Int} (hs:s=0 \/ s=1) (h1:1<=k) (h2:k<=15) (h3:k≠13):pc s k=16*s+k:=by unfold pc;rw [if_pos ⟨hs,h1,h2,h3⟩]
theorem qPX {s k:Int} (h:¬ ((s=0 \/ s=1) /\ 1<=k /\ k<=15 /\ k≠13)):pc s k=0:=by unfold pc;rw [if_neg h]
theorem qkP (s k:Int):0<=pc s k /\ pc s k<32:=by unfold pc;split<;>omega
theorem qKl (s k:Int):qAh s k=some (pc s k):=by
 by_cases hs:s=0 \/ s=1
 ·by_cases h:1<=k /\ k<=15 /\ k≠13
  ·rw [qKm hs h.1 h.2.1 h.2.2,qBC hs h.1 h.2.1 h.2.2]
  ·rw [qPX (by omega)]
   unfold qAh
   simp only [qJg,bne_iff_ne,ne_eq,beq_iff_eq,decide_eq_true_eq]
   repeat' split
   all_goals first | rfl | omega
 ·rw [qPX (by omega)]
  unfold qAh
  simp (disch:=omega) only [qAo]
theorem qkQ (b:List Int):pcs b 0=fun _=>false:=by funext i;unfold pcs;simp
theorem qHD (b h:List Int) (S s k:Int) (sd':List (List Int)):qCm s k b h S (qS b) sd'=some (sLo (pcs b (pc s k)),sHi (pcs b (pc s k))):=by
 unfold qCm
 obtain ⟨h0,h1⟩:=qkP s k
 rw [qKl,qA]
 by_cases hz:pc s k=0
 ·rw [qAd hz,hz,qkQ,qBf,qBe]
 ·rw [qAX hz,qAN h0 (by omega),qNF b h0 h1]
  rfl
def inF (f:Nat) (i:Nat):Bool:=decide (i / 9=f)
theorem qgi:∀ f:Fin 9,qHc ((f.val:Nat):Int)=some (sLo (inF f.val),sHi (inF f.val)):=by decide +kernel
theorem qgj {f:Nat} (h:f<9):qHc f=some (sLo (inF f),sHi (inF f)):=qgi ⟨f,h⟩
theorem qfn:∀ f:Fin 9,(List.range 81).filter (fun i=>decide (i / 9=f.val))=(List.range 9).map (9*f.val+·):=by decide +kernel
theorem qe1 (b:List Int) {x:Int} (hx:x≠0) {f:Nat} (hf:f<9):qAp (fun i=>pcs b x i&&inF f i)=nF b x f:=by
 unfold qAp nF inF
 have:(List.range 81).countP (fun i=>pcs b x i&&decide (i / 9=f))=((List.range 81).filter (fun i=>decide (i / 9=f))).countP (pcs b x):=by
  rw [List.countP_filter]
 rw [this,qfn ⟨f,hf⟩,List.countP_map]
 apply List.countP_congr
 intro r _
 show pcs b x (9*f+r)=true↔_
 unfold pcs
 simp [hx]
theorem qdO {b:List Int} (hl:b.length=81) (h:(List.range' 0 81).any (bsP b)=false):Clean b:=by
 refine ⟨hl,fun i hi=>?_⟩
 rw [List.any_eq_false] at h
 have:=h i (by rw [List.mem_range'];exact ⟨i,hi,by omega⟩)
 unfold bsP at this
 rw [decide_eq_true_eq] at this
 omega
end Go.Kk.Pl
namespace Go.Kk.Pl
def tk (b:List Int) (i:Nat):Bool:=decide (b.getD i 0≠0)
theorem qoe {b:List Int} (hc:Clean b) {i:Nat} (hi:i<81):(sds b 0 i||sds b 1 i)=tk b i:=by
 have:=hc.ok i hi
 unfold sds tk
 rw [Bool.eq_iff_iff]
 simp only [Bool.or_eq_true,decide_eq_true_eq]
 rcases this with h | h
 ·rw [h,qIo];simp
 ·have h1:=qIN h
  have h2:=qHX h
  constructor
  ·intro _;omega
  ·intro _;exact h2
theorem qI5 {b:List Int} (hc:Clean b) (h:List Int) (S:Int) (by_:List (List Int)):qCn b h S by_ (qU b)=some (sLo (tk b),sHi (tk b)):=by
 unfold qCn
 have e0:(qU b).getD 0 []=prS (sds b 0):=rfl
 have e1:(qU b).getD 1 []=prS (sds b 1):=rfl
 rw [e0,e1,qHH,qHI,qHH,qHI,qHE,qA]
 obtain ⟨h1,h2⟩:=qBu (f:=fun i=>sds b 0 i||sds b 1 i) (g:=tk b) fun i hi=>qoe hc hi
 simp only
 rw [h1,h2]
def sdP (b:List Int) (s:Int) (i:Nat):Bool:=decide (s=0 \/ s=1)&&sds b s i
theorem qPe (b h:List Int) (S s:Int) (by_:List (List Int)):qFS s b h S by_ (qU b)=some (sLo (sdP b s),sHi (sdP b s)):=by
 unfold qFS
 by_cases h0:s=0
 ·subst h0
  have:sdP b 0=sds b 0:=by funext i;unfold sdP;simp
  rw [this]
  rfl
 ·rw [qAo h0]
  by_cases h1:s=1
  ·subst h1
   have:sdP b 1=sds b 1:=by funext i;unfold sdP;simp
   rw [this]
   rfl
  ·have:sdP b s=fun _=>false:=by funext i;unfold sdP;simp [h0,h1]
   rw [qAo h1,this,qBf,qBe]
theorem qOL (b h:List Int) (S s:Int) (sd':List (List Int)):qFQ s b h S (qS b) sd'=some (fst (pcs b (pc s 8))):=by
 unfold qFQ
 rw [qHD,qA]
 simp only
 rw [qNa,qA]
def hdP (h:List Int) (s k:Int):Int:=if (s=0 \/ s=1) /\ 1<=k /\ k<8 then hd_ h s k else 0
theorem qgc (b h:List Int) (S s k:Int) (by_ sd':List (List Int)):qCO s k b h S by_ sd'=some (hdP h s k):=by
 unfold hdP
 by_cases hv:(s=0 \/ s=1) /\ 1<=k /\ k<8
 ·rw [if_pos hv,qJ8 hv.1 hv.2.1 hv.2.2]
 ·rw [if_neg hv]
  unfold qCO
  by_cases h0:s=0
  ·rw [qA9 h0]
   by_cases h1:k<1
   ·rw [qg h1]
   ·rw [qZ h1,qDA (by omega)]
  ·rw [qAo h0]
   by_cases h2:s=1
   ·rw [qA9 h2]
    by_cases h1:k<1
    ·rw [qg h1]
    ·rw [qZ h1,qDA (by omega)]
   ·rw [qAo h2]
end Go.Kk.Pl
namespace Go.Kk.Pl
def fl (q:Nat):Int:=((q / 9:Nat):Int)
def rn (q:Nat):Int:=((q % 9:Nat):Int)
def df (a c:Nat):Int:=fl c - fl a
def dr (a c:Nat):Int:=rn c - rn a
def upS (x:Int) (a c:Nat):Int:=if sd x=1 then dr a c else - dr a c
theorem geo {a:Nat} (ha:a<81):0<=fl a /\ fl a<=8 /\ 0<=rn a /\ rn a<=8 /\ (a:Int)=9*fl a+rn a:=by unfold fl rn;omega
theorem qUv {a c:Nat} (h:df a c=0) (h':dr a c=0):a=c:=by unfold df dr fl rn at *;omega
theorem qNz (a:Nat):df a a=0 /\ dr a a=0:=by unfold df dr;omega
def qBA (dx dy:Int) (a:Nat):Int:=if 0<=fl a+dx /\ fl a+dx<=8 /\ 0<=rn a+dy /\ rn a+dy<=8 then 9*(fl a+dx)+(rn a+dy) else -1
theorem qbq (q:Nat):Int.tdiv (q:Int) 9=fl q:=by unfold fl;rw [Int.tdiv_eq_ediv_of_nonneg (by omega)];omega
theorem qof (q:Nat):Int.tmod (q:Int) 9=rn q:=qI7 q
theorem qnV (f r:Int):qB2 f r=some (if 0<=f /\ f<=8 /\ 0<=r /\ r<=8 then 9*f+r else -1):=by
 unfold qB2
 by_cases h1:f<0
 ·rw [qg h1,if_neg (by omega)]
 by_cases h2:f>8
 ·rw [qZ h1,qGM h2,if_neg (by omega)]
 by_cases h3:r<0
 ·rw [qZ h1,qEb h2,qg h3,if_neg (by omega)]
 by_cases h4:r>8
 ·rw [qZ h1,qEb h2,qZ h3,qGM h4,if_neg (by omega)]
 ·rw [qZ h1,qEb h2,qZ h3,qEb h4,if_pos (by omega),w_s (n:=9*f) (by omega) (by omega),w_s (by omega) (by omega)]
theorem qNe {dx dy:Int} (h1:-8<=dx) (h2:dx<=8) (h3:-8<=dy) (h4:dy<=8) {a:Nat} (ha:a<81):qF5 dx dy a=some (qBA dx dy a):=by
 have hg:=geo ha
 unfold qF5 qFy qE9
 simp (disch:=omega) only [qZ,qCN,qbq,qof,qA,w_s,qnV]
 rfl
theorem qkD {dx dy:Int} {a c:Nat} (ha:a<81) (hc:c<81):only (qBA dx dy a) c=decide (df a c=dx /\ dr a c=dy):=by
 have hg:=geo ha
 have hg2:=geo hc
 unfold only qBA df dr
 rw [decide_eq_decide]
 split<;>omega
def qCg (k d u:Int):Prop:=
 (k=1 /\ d=0 /\ u=1) \/ (k=3 /\ (d=1 \/ d = -1) /\ u=2) \/ (k=4 /\ ((u=1 /\ -1<=d /\ d<=1) \/ (u = -1 /\ (d=1 \/ d = -1)))) \/
 ((k=5 \/ k=9 \/ k=10 \/ k=11 \/ k=12) /\ ((u=1 /\ -1<=d /\ d<=1) \/ (u=0 /\ (d=1 \/ d = -1)) \/ (u = -1 /\ d=0))) \/
 (k=8 /\ -1<=d /\ d<=1 /\ -1<=u /\ u<=1 /\ ¬ (d=0 /\ u=0)) \/ (k=14 /\ ((u=0 /\ (d=1 \/ d = -1)) \/ (d=0 /\ (u=1 \/ u = -1)))) \/
 (k=15 /\ (d=1 \/ d = -1) /\ (u=1 \/ u = -1))
instance (k d u:Int):Decidable (qCg k d u):=by unfold qCg;infer_instance
def qBH (x:Int) (a c:Nat):Bool:=decide (qCg (kd x) (df a c) (upS x a c))
theorem qbw {x:Int} {a c:Nat} (ha:a<81) (hc:c<81):-8<=upS x a c /\ upS x a c<=8 /\ -8<=df a c /\ df a c<=8 /\ -8<=dr a c /\ dr a c<=8:=by
 have hg:=geo ha
 have hg2:=geo hc
 unfold upS df dr
 split<;>omega
def qAP (k:Int):List (List Int):=if k=1 then [[0,-1]] else if k=3 then [[-1,-2],[1,-2]] else if k=4 then [[-1,-1],[0,-1],[1,-1],[-1,1],[1,1]]
 else if k=5 \/ k=9 \/ k=10 \/ k=11 \/ k=12 then [[-1,-1],[0,-1],[1,-1],[-1,0],[1,0],[0,1]]
 else if k=8 then [[-1,-1],[0,-1],[1,-1],[-1,0],[1,0],[0,1],[-1,1],[1,1]] else if k=14 then [[0,-1],[-1,0],[1,0],[0,1]]
 else if k=15 then [[-1,-1],[1,-1],[-1,1],[1,1]] else []
theorem qfa:∀ k:Fin 16,qF6 qD ((k.val:Nat):Int)=some ((qAP ((k.val:Nat):Int)).length,(qAP ((k.val:Nat):Int)).length,qAP ((k.val:Nat):Int)):=by decide +kernel
theorem qfb {k:Int} (h0:0<=k) (h1:k<=15):qF6 qD k=some ((qAP k).length,(qAP k).length,qAP k):=by
 have:=qfa ⟨k.toNat,by omega⟩
 simpa only [show ((k.toNat:Nat):Int)=k by omega] using this
theorem qfZ:∀ (k:Fin 16) (i:Fin 8),((qAP ((k.val:Nat):Int)).getD i.val []).length<=2 /\ -2<=((qAP ((k.val:Nat):Int)).getD i.val []).headD 0 /\ ((qAP ((k.val:Nat):Int)).getD i.val []).headD 0<=2 /\
  -2<=((qAP ((k.val:Nat):Int)).getD i.val []).tail.headD 0 /\ ((qAP ((k.val:Nat):Int)).getD i.val []).tail.headD 0<=2:=by decide +kernel
theorem qfX:∀ (k:Fin 16),(qAP ((k.val:Nat):Int)).length<=8:=by decide +kernel
def sg (x:Int):Int:=if sd x=1 then -1 else 1
theorem qbu {dx dy:Int} (h:-8<=dx /\ dx<=8 /\ -8<=dy /\ dy<=8) (x:Int):qFC dx dy (sd x)=some (sg x*dx,sg x*dy):=by
 unfold qFC sg
 by_cases hs:sd x=1
 ·rw [qAd hs,if_pos hs,w_s (by omega) (by omega),w_s (by omega) (by omega)]
  congr 2<;>omega
 ·rw [qAX hs,if_neg hs]
  congr 2<;>omega
theorem qaU (x:Int):sg x=1 \/ sg x = -1:=by unfold sg;split<;>simp
def dx_ (r:List Int):Int:=r.headD 0
def dy_ (r:List Int):Int:=r.tail.headD 0
def qC7 (x:Int) (L:List (List Int)) (a c:Nat):Bool:=L.any fun r=>decide (df a c=sg x*dx_ r /\ dr a c=sg x*dy_ r)
theorem qnZ {x:Int} {a:Nat} (ha:a<81) (L:List (List Int)) (hlen:L.length<=8) (hr:∀ r∈L,r.length<=2 /\ -2<=dx_ r /\ dx_ r<=2 /\ -2<=dy_ r /\ dy_ r<=2) (N:Nat) (u v:Int):
  ∀ (n i:Nat),i+n=L.length->∀ (f:Nat->Bool) (F:Nat),qFE (F+n+1) x a L.length (Int.ofNat L.length) i u v (sLo f) (sHi f) N L =
    some (u,v,sLo fun c=>f c||qC7 x (L.drop i) a c,sHi fun c=>f c||qC7 x (L.drop i) a c):=by
 intro n
 induction n with
 | zero=>
   intro i hi f F
   show qHm (qFE (F+0)) _ _ _ _ _ _ _ _ _ _ _=_
   unfold qHm
   rw [qZ (by simp;omega),List.drop_eq_nil_of_le (by omega)]
   have:(fun c=>f c||qC7 x [] a c)=f:=by funext c;simp [qC7]
   rw [this]
 | succ n ih=>
   intro i hi f F
   show qHm (qFE (F+n+1)) _ _ _ _ _ _ _ _ _ _ _=_
   unfold qHm
   have hil:i<L.length:=by omega
   have hget:L.getD i []=L[i]:=by rw [List.getD_eq_getElem?_getD,List.getElem?_eq_getElem hil];rfl
   obtain ⟨r0,r1,r2,r3,r4⟩:=hr L[i] (List.getElem_mem hil)
   have ht:List.take 2 L[i]=L[i]:=List.take_of_length_le r0
   have hs:=qaU x
   rw [qg (by simp;omega),qAN (by omega) (by omega),tn,hget,ht,qEM,qA]
   show ob (qFC (dx_ L[i]) (dy_ L[i]) (sd x)) _=_
   rw [qbu (by omega),qA]
   simp only
   rw [qNe (by rcases hs with h | h<;>rw [h]<;>omega) (by rcases hs with h | h<;>rw [h]<;>omega) (by rcases hs with h | h<;>rw [h]<;>omega) (by rcases hs with h | h<;>rw [h]<;>omega) ha,qA,qGB,qA]
   simp only
   rw [w_s (by omega) (by omega)]
   refine (ih (i+1) (by omega) _ F).trans ?_
   have hd:L.drop i=L[i] :: L.drop (i+1):=List.drop_eq_getElem_cons hil
   obtain ⟨e1,e2⟩:=qBu (f:=fun c=>(f c||only (qBA (sg x*dx_ L[i]) (sg x*dy_ L[i]) a) c)||qC7 x (L.drop (i+1)) a c) (g:=fun c=>f c||qC7 x (L.drop i) a c) fun c hc=>by
    rw [qkD ha hc,hd]
    unfold qC7
    rw [List.any_cons,Bool.or_assoc]
   rw [e1,e2]
theorem qcg:∀ (k:Fin 16) (d u:Fin 17),(qAP ((k.val:Nat):Int)).any (fun r=>decide ((d.val:Int) - 8=dx_ r /\ (u.val:Int) - 8 = -(dy_ r)))=decide (qCg ((k.val:Nat):Int) ((d.val:Int) - 8) ((u.val:Int) - 8)):=by decide +kernel
theorem qch:∀ (k:Fin 16) (d u:Fin 17),(qAP ((k.val:Nat):Int)).any (fun r=>decide ((d.val:Int) - 8 = -(dx_ r) /\ (u.val:Int) - 8 = -(dy_ r)))=decide (qCg ((k.val:Nat):Int) ((d.val:Int) - 8) ((u.val:Int) - 8)):=by decide +kernel
theorem qci (x:Int) {a c:Nat} (ha:a<81) (hc:c<81):qC7 x (qAP (kd x)) a c=qBH x a c:=by
 obtain ⟨k0,k1,_⟩:=qDN x
 have hr:=qbw (x:=x) ha hc
 unfold qBH qC7 sg upS
 by_cases hs:sd x=1
 ·simp only [hs,if_true]
  have:=qch ⟨(kd x).toNat,by omega⟩ ⟨(df a c+8).toNat,by omega⟩ ⟨(dr a c+8).toNat,by omega⟩
  simp only [show (((kd x).toNat:Nat):Int)=kd x by omega,show (((df a c+8).toNat:Nat):Int) - 8=df a c by omega,show (((dr a c+8).toNat:Nat):Int) - 8=dr a c by omega] at this
  rw [<- this]
  congr 1
  funext r
  rw [decide_eq_decide]
  constructor<;>(rintro ⟨h1,h2⟩;constructor<;>omega)
 ·simp only [hs,if_false]
  have:=qcg ⟨(kd x).toNat,by omega⟩ ⟨(df a c+8).toNat,by omega⟩ ⟨(-dr a c+8).toNat,by omega⟩
  simp only [show (((kd x).toNat:Nat):Int)=kd x by omega,show (((df a c+8).toNat:Nat):Int) - 8=df a c by omega,show (((-dr a c+8).toNat:Nat):Int) - 8 = -dr a c by omega] at this
  rw [<- this]
  congr 1
  funext r
  rw [decide_eq_decide]
  constructor<;>(rintro ⟨h1,h2⟩;constructor<;>omega)
theorem qfY {k:Int} (h0:0<=k) (h1:k<=15):(qAP k).length<=8 /\ ∀ r∈qAP k,r.length<=2 /\ -2<=dx_ r /\ dx_ r<=2 /\ -2<=dy_ r /\ dy_ r<=2:=by
 have hl:=qfX ⟨k.toNat,by omega⟩
 simp only [show ((k.toNat:Nat):Int)=k by omega] at hl
 refine ⟨hl,fun r hr=>?_⟩
 obtain ⟨i,hi,rfl⟩:=List.getElem_of_mem hr
 have:=qfZ ⟨k.toNat,by omega⟩ ⟨i,by omega⟩
 simp only [show ((k.toNat:Nat):Int)=k by omega] at this
 rw [List.getD_eq_getElem?_getD,List.getElem?_eq_getElem hi] at this
 exact this
theorem qna (x:Int) {a:Nat} (ha:a<81):qIy x a=some (sLo (qBH x a),sHi (qBH x a)):=by
 obtain ⟨k0,k1,_⟩:=qDN x
 obtain ⟨hlen,hrs⟩:=qfY k0 k1
 obtain ⟨g,hg⟩:=ql (qAP (kd x)).length (by omega)
 have:=qnZ (x:=x) ha (qAP (kd x)) hlen hrs (qAP (kd x)).length 0 0 (qAP (kd x)).length 0 (by omega) (fun _=>false) g
 rw [<- hg,qBf,qBe] at this
 unfold qIy
 rw [qBn,qA,qfb k0 k1,qA]
 simp only
 rw [show qFE qD x a (qAP (kd x)).length (Int.ofNat (qAP (kd x)).length) 0 0 0 0 0 (qAP (kd x)).length (qAP (kd x))=_ from this,qA]
 simp only
 obtain ⟨e1,e2⟩:=qBu (f:=fun c=>false||qC7 x (List.drop 0 (qAP (kd x))) a c) (g:=qBH x a) fun c hc=>by
  rw [Bool.false_or,List.drop_zero,qci x ha hc]
 rw [e1,e2]
end Go.Kk.Pl
namespace Go.Kk.Pl
def sgn (n:Int):Int:=if n<0 then -1 else if n>0 then 1 else 0
def qBN (a c:Nat):Int:=if a=c then 0 else if df a c=0 \/ dr a c=0 then 1 else if df a c=dr a c \/ df a c = -dr a c then 2 else 0
def mx (a c:Nat):Nat:=if (df a c).natAbs<(dr a c).natAbs then (dr a c).natAbs else (df a c).natAbs
def qHn (a c:Nat):Int:=9*sgn (df a c)+sgn (dr a c)
def btw (a c:Nat):List Nat:=if qBN a c=0 then [] else (List.range (mx a c - 1)).map fun (j:Nat)=>((a:Int)+((j:Int)+1)*qHn a c).toNat
theorem qiU {a c:Nat} (ha:a<81) (hc:c<81) (h:qBN a c≠0):1<=mx a c /\ mx a c<=8 /\ (c:Int)=a+(mx a c:Int)*qHn a c /\ qHn a c≠0 /\ -10<=qHn a c /\ qHn a c<=10:=by
 have hg:=geo ha
 have hg2:=geo hc
 have hdf:df a c=fl c - fl a:=rfl
 have hdr:dr a c=rn c - rn a:=rfl
 unfold qBN at h
 split at h
 ·exact absurd rfl h
 rename_i hac
 have hne:¬ (df a c=0 /\ dr a c=0):=fun hh=>hac (qUv hh.1 hh.2)
 have hl:df a c=0 \/ dr a c=0 \/ df a c=dr a c \/ df a c = -dr a c:=by
  split at h
  ·rename_i h1;rcases h1 with h1 | h1
   ·exact .inl h1
   ·exact .inr (.inl h1)
  ·split at h
   ·rename_i h1;rcases h1 with h1 | h1
    ·exact .inr (.inr (.inl h1))
    ·exact .inr (.inr (.inr h1))
   ·exact absurd rfl h
 clear h
 unfold mx qHn sgn
 generalize df a c=d at *
 generalize dr a c=e at *
 rcases Int.lt_trichotomy d 0 with h1 | h1 | h1<;>rcases Int.lt_trichotomy e 0 with h2 | h2 | h2
 all_goals simp (disch:=omega) only [if_pos,if_neg]
 all_goals (refine ⟨by omega,by omega,by omega,by omega,by omega,by omega⟩)
theorem qil {a c D:Int} {m j:Nat} (hm:c=a+(m:Int)*D) (ha:0<=a /\ a<81) (hc:0<=c /\ c<81) (hj:j<=m) (_hD:-10<=D /\ D<=10):0<=a+(j:Int)*D /\ a+(j:Int)*D<81:=by
 have hj':(j:Int)<=m:=by omega
 rcases Int.le_total 0 D with h | h
 ·have h1:(0:Int)<=(j:Int)*D:=Int.mul_nonneg (by omega) h
  have h2:(j:Int)*D<=(m:Int)*D:=Int.mul_le_mul_of_nonneg_right hj' h
  omega
 ·have h1:(j:Int)*D<=0:=Int.mul_nonpos_of_nonneg_of_nonpos (by omega) h
  have h2:(m:Int)*D<=(j:Int)*D:=Int.mul_le_mul_of_nonpos_right hj' h
  omega
theorem qJi {a c:Nat} (ha:a<81) (hc:c<81) {s:Nat} (hs:s∈btw a c):s<81:=by
 unfold btw at hs
 split at hs
 ·cases hs
 ·rename_i h
  obtain ⟨m1,m8,hend,hD0,hD1,hD2⟩:=qiU ha hc h
  obtain ⟨j,hj,rfl⟩:=List.mem_map.1 hs
  rw [List.mem_range] at hj
  have hr:=qil (j:=j+1) hend (by omega) (by omega) (by omega) ⟨hD1,hD2⟩
  rw [show (((j+1:Nat):Int))=(j:Int)+1 by omega] at hr
  omega
def qBm (a c:Nat) (t:Nat->Bool):Bool:=(btw a c).all fun s=>!t s
def slK (k d u:Int):Prop:=(k=2 /\ d=0 /\ 0<u) \/ ((k=6 \/ k=14) /\ ¬ (d=0 /\ u=0) /\ (d=u \/ d = -u)) \/ ((k=7 \/ k=15) /\ ¬ (d=0 /\ u=0) /\ (d=0 \/ u=0))
instance (k d u:Int):Decidable (slK k d u):=by unfold slK;infer_instance
def qCf (x:Int) (a c:Nat):Bool:=decide (slK (kd x) (df a c) (upS x a c))
def rch (x:Int) (a c:Nat) (t:Nat->Bool):Bool:=qBH x a c||(qCf x a c&&qBm a c t)
end Go.Kk.Pl
