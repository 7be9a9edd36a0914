/- What the program's functions come to, told plainly: the texts of this project that this claim leans on, cut down to what is used. -/
import Derived.Test.YtjckfjagajmekaaGreatDoorKkPl
import Derived.Test.YtjckfjagajmekaaGreatDoorKkO
namespace Go.Kk.Pl
theorem qQ {α:Type} {b:Bool} {x y:α} (h:b=true):br b x y=x:=by subst h;rfl
theorem qX {α:Type} {b:Bool} {x y:α} (h:b=false):br b x y=y:=by subst h;rfl
theorem qH2 {α:Type} (b:Bool) (x y:α):br b x y=if b=true then x else y:=by cases b<;>rfl
theorem qGD {α:Type} {b:Bool} {x y:Option α} (hx:∃ v,x=some v) (hy:∃ v,y=some v):∃ v,br b x y=some v:=by cases b<;>assumption
theorem qFS {α β:Type} {m:Option α} {k:α->Option β} (hm:∃ v,m=some v) (hk:∀ a,∃ v,k a=some v):∃ v,ob m k=some v:=by
 obtain⟨a,rfl⟩:=hm
 exact hk a
theorem qA {α β:Type} (a:α) (k:α->Option β):ob (some a) k=k a:=rfl
theorem qLc {α β γ:Type} (a:α) (f:α->Option γ) (g:β->Option γ):sw (.inl a) f g=f a:=rfl
theorem qBs {α β γ:Type} (a:β) (f:α->Option γ) (g:β->Option γ):sw (.inr a) f g=g a:=rfl
theorem qRX {n:Int} (h1:-9223372036854775808<=n) (h2:n<=9223372036854775807):IntKind.wrap .i64 n=n:=qBH h1 h2
theorem qAa {n:Int} (h1:-1000000000<=n) (h2:n<=1000000000):IntKind.wrap .i64 n=n:=qRX (by omega) (by omega)
theorem qpr (n:Int):0<=IntKind.wrap .u64 n /\ IntKind.wrap .u64 n<18446744073709551616:=by
 simp[IntKind.wrap,IntKind.signed,IntKind.bits]
 omega
theorem qMG (op:BinOp) (x y:Int):0<=qE op .u64 x y /\ qE op .u64 x y<18446744073709551616:=by
 unfold qE
 split<;>exact qpr _
theorem qAn {x:Int} {n:Nat} (h1:0<=x) (h2:x<n):inB x n=true:=by simp[inB,h1,h2]
theorem qgM {x:Int} {n:Nat} (h1:0<=x) (h2:x<=n):qAd x n=true:=by simp[qAd,h1,h2]
theorem qk (n:Nat) (h:n<=1000000):∃ f,qC=f+n+1:=⟨qC - n - 1,by unfold qC;omega⟩
end Go.Kk.Pl
namespace Go.Kk.Pl
def qW (f:Nat->Bool):Nat->Nat
 | 0=>0
 | n+1=>qW f n+bif f n then 2 ^ n else 0
theorem qDW (f:Nat->Bool):∀ n,qW f n<2 ^ n
 | 0=>Nat.one_pos
 | n+1=>by
   have:=qDW f n
   simp only[qW]
   rw[Nat.pow_succ]
   cases f n<;>simp<;>omega
theorem qBQ (f:Nat->Bool):∀ n i,(qW f n).testBit i=(decide (i<n)&&f i)
 | 0,i=>by simp[qW]
 | n + 1,i=>by
   have ih:=qBQ f n
   have hlt:=qDW f n
   have e:qW f (n+1)=2 ^ n*(f n).toNat+qW f n:=by
    simp only[qW]
    cases f n<;>simp[Nat.add_comm]
   rw[e,Nat.testBit_two_pow_mul_add _ hlt]
   by_cases h:i<n
   ·rw[if_pos h,ih i]
    simp[h,show i<n+1 by omega]
   ·rw[if_neg h]
    by_cases h2:i=n
    ·subst h2
     simp only[Nat.sub_self,Nat.lt_succ_self,decide_true,Bool.true_and]
     cases f i<;>rfl
    ·rw[show decide (i<n+1)=false by simp;omega,Bool.false_and]
     have:1<=i - n:=by omega
     obtain⟨k,hk⟩:∃ k,i - n=k+1:=⟨i - n - 1,by omega⟩
     rw[hk]
     cases f n
     ·simp
     ·show Nat.testBit 1 (k+1)=false
      rw[Nat.testBit_succ];simp
theorem qD6 {f g:Nat->Bool}:∀ {n:Nat},(∀ i,i<n->f i=g i)->qW f n=qW g n
 | 0,_=>rfl
 | n+1,h=>by
   simp only[qW]
   rw[qD6 fun i hi=>h i (by omega),h n (by omega)]
theorem qR3 {f g:Nat->Bool} {n:Nat} (h:qW f n=qW g n):∀ i,i<n->f i=g i:=by
 intro i hi
 have h1:=qBQ f n i
 have h2:=qBQ g n i
 rw[h,h2] at h1
 simpa[hi] using h1.symm
theorem qJR {f:Nat->Bool} {n x:Nat} (hx:x<2 ^ n) (h:∀ i,i<n->x.testBit i=f i):x=qW f n:=by
 apply Nat.eq_of_testBit_eq
 intro i
 rw[qBQ]
 by_cases hi:i<n
 ·simp[hi,h i hi]
 ·rw[show decide (i<n)=false by simp[hi],Bool.false_and]
  exact Nat.testBit_lt_two_pow (Nat.lt_of_lt_of_le hx (Nat.pow_le_pow_right (by omega) (by omega)))
theorem qDQ {n:Nat} (h:n<2 ^ 64):IntKind.wrap .u64 (n:Int)=n:=by
 refine qBH ?_ ?_<;>simp[IntKind.min,IntKind.max,IntKind.signed,IntKind.bits]<;>omega
theorem qER (a:Nat):BitVec.ofInt 64 (a:Int)=BitVec.ofNat 64 a:=by simp
theorem qDV {a b:Nat} (ha:a<2 ^ 64) (hb:b<2 ^ 64):qE .and .u64 (a:Int) (b:Int)=((a &&& b:Nat):Int):=by
 unfold qE
 show IntKind.wrap .u64 _=_
 rw[show IntKind.bits .u64=64 from rfl,qER,qER,BitVec.toNat_and,BitVec.toNat_ofNat,BitVec.toNat_ofNat,Nat.mod_eq_of_lt ha,Nat.mod_eq_of_lt hb]
 exact qDQ (Nat.lt_of_le_of_lt Nat.and_le_left ha)
theorem qdg {a b:Nat} (ha:a<2 ^ 64) (hb:b<2 ^ 64):qE .or .u64 (a:Int) (b:Int)=((a ||| b:Nat):Int):=by
 unfold qE
 show IntKind.wrap .u64 _=_
 rw[show IntKind.bits .u64=64 from rfl,qER,qER,BitVec.toNat_or,BitVec.toNat_ofNat,BitVec.toNat_ofNat,Nat.mod_eq_of_lt ha,Nat.mod_eq_of_lt hb]
 exact qDQ (Nat.or_lt_two_pow ha hb)
theorem qdf {a b:Nat} (ha:a<2 ^ 64) (hb:b<2 ^ 64):qE .andNot .u64 (a:Int) (b:Int)=((a &&& (2 ^ 64 - (b+1)):Nat):Int):=by
 unfold qE
 show IntKind.wrap .u64 _=_
 rw[show IntKind.bits .u64=64 from rfl,qER,qER,BitVec.toNat_and,BitVec.toNat_not,BitVec.toNat_ofNat,BitVec.toNat_ofNat,Nat.mod_eq_of_lt ha,Nat.mod_eq_of_lt hb]
 rw[show 2 ^ 64 - 1 - b=2 ^ 64 - (b+1) by omega]
 exact qDQ (Nat.lt_of_le_of_lt Nat.and_le_left ha)
theorem qBW (f:Nat->Bool) {n:Nat} (h:n<=64):qW f n<2 ^ 64:=Nat.lt_of_lt_of_le (qDW f n) (Nat.pow_le_pow_right (by omega) h)
theorem qRk (f g:Nat->Bool) {n:Nat} (h:n<=64):qE .and .u64 (qW f n:Nat) (qW g n:Nat)=(qW (fun i=>f i&&g i) n:Nat):=by
 rw[qDV (qBW f h) (qBW g h)]
 congr 1
 refine qJR (Nat.lt_of_le_of_lt Nat.and_le_left (qDW f n)) fun i hi=>?_
 rw[Nat.testBit_and,qBQ,qBQ]
 simp[hi]
theorem qV0 (f g:Nat->Bool) {n:Nat} (h:n<=64):qE .or .u64 (qW f n:Nat) (qW g n:Nat)=(qW (fun i=>f i||g i) n:Nat):=by
 rw[qdg (qBW f h) (qBW g h)]
 congr 1
 refine qJR (Nat.or_lt_two_pow (qDW f n) (qDW g n)) fun i hi=>?_
 rw[Nat.testBit_or,qBQ,qBQ]
 simp[hi]
theorem qRj (f g:Nat->Bool) {n:Nat} (h:n<=64):qE .andNot .u64 (qW f n:Nat) (qW g n:Nat)=(qW (fun i=>f i && !g i) n:Nat):=by
 rw[qdf (qBW f h) (qBW g h)]
 congr 1
 refine qJR (Nat.lt_of_le_of_lt Nat.and_le_left (qDW f n)) fun i hi=>?_
 rw[Nat.testBit_and,qBQ,Nat.testBit_two_pow_sub_succ (qBW g h),qBQ]
 simp[hi,show i<64 by omega]
def sLo (f:Nat->Bool):Int:=(qW f 63:Nat)
def sHi (f:Nat->Bool):Int:=(qW (fun i=>f (63+i)) 18:Nat)
def only (q:Int) (i:Nat):Bool:=decide ((i:Int)=q)
def has (f:Nat->Bool) (q:Int):Bool:=decide (0<=q)&&(decide (q<81)&&f q.toNat)
def isE (f:Nat->Bool):Bool:=(List.range 81).all fun i=>!f i
theorem qBq {f g:Nat->Bool} (h:∀ i,i<81->f i=g i):sLo f=sLo g /\ sHi f=sHi g:=by
 unfold sLo sHi
 rw[qD6 (f:=f) (g:=g) fun i hi=>h i (by omega),qD6 (f:=fun i=>f (63+i)) (g:=fun i=>g (63+i)) fun i hi=>h _ (by omega)]
 exact⟨rfl,rfl⟩
theorem qnq {f g:Nat->Bool} (h1:sLo f=sLo g) (h2:sHi f=sHi g):∀ i,i<81->f i=g i:=by
 intro i hi
 unfold sLo at h1
 unfold sHi at h2
 by_cases h:i<63
 ·exact qR3 (Int.ofNat.inj h1) i h
 ·have:=qR3 (Int.ofNat.inj h2) (i - 63) (by omega)
  simpa[show 63+(i - 63)=i by omega] using this
theorem qnn (f g:Nat->Bool):(sLo f==sLo g&&sHi f==sHi g)=(List.range 81).all fun i=>f i==g i:=by
 rw[Bool.eq_iff_iff]
 simp only[Bool.and_eq_true,beq_iff_eq,List.all_eq_true,List.mem_range]
 exact⟨fun h i hi=>qnq h.1 h.2 i hi,fun h=>qBq h⟩
theorem qJS:∀ n,qW (fun _=>false) n=0
 | 0=>rfl
 | n+1=>by simp[qW,qJS n]
theorem qBZ:sLo (fun _=>false)=0:=by unfold sLo;rw[qJS];rfl
theorem qBY:sHi (fun _=>false)=0:=by unfold sHi;rw[qJS];rfl
theorem qfL (f:Nat->Bool):(sLo f==0&&sHi f==0)=isE f:=by
 have:=qnn f fun _=>false
 rw[qBZ,qBY] at this
 rw[this]
 unfold isE
 congr 1
 funext i
 cases f i<;>rfl
theorem qCU {f:Nat->Bool}:isE f=true ↔ ∀ i,i<81->f i=false:=by simp[isE]
theorem qde:∀ q:Fin 81,qEu ((q.val:Nat):Int)=some (sLo (only ((q.val:Nat):Int)),sHi (only ((q.val:Nat):Int))):=by decide +kernel
theorem qiu {q:Int} (h:¬ (0<=q /\ q<81)):sLo (only q)=0 /\ sHi (only q)=0:=by
 have h:=qBq (f:=only q) (g:=fun _=>false) fun i hi=>by unfold only;simp;omega
 rw[qBZ,qBY] at h
 exact h
theorem qMF (q:Int):qEu q=some (sLo (only q),sHi (only q)):=by
 by_cases h:0<=q /\ q<81
 ·have:=qde ⟨q.toNat,by omega⟩
  simpa[show ((q.toNat:Nat):Int)=q by omega] using this
 ·obtain⟨h1,h2⟩:=qiu h
  rw[h1,h2]
  unfold qEu
  by_cases h0:q<0
  ·rw[qQ (by simpa using h0)]
  ·rw[qX (by simpa using h0),qQ (by simp;omega)]
theorem qGt (f g:Nat->Bool):qDM (sLo f) (sHi f) (sLo g) (sHi g)=some (sLo fun i=>f i||g i,sHi fun i=>f i||g i):=by
 unfold qDM sLo sHi
 rw[qV0 _ _ (by omega),qV0 _ _ (by omega)]
theorem qE2 (f g:Nat->Bool):qCn (sLo f) (sHi f) (sLo g) (sHi g)=some (sLo fun i=>f i&&g i,sHi fun i=>f i&&g i):=by
 unfold qCn sLo sHi
 rw[qRk _ _ (by omega),qRk _ _ (by omega)]
theorem qKE (f g:Nat->Bool):qEq (sLo f) (sHi f) (sLo g) (sHi g)=some (sLo fun i=>f i && !g i,sHi fun i=>f i && !g i):=by
 unfold qEq sLo sHi
 rw[qRj _ _ (by omega),qRj _ _ (by omega)]
theorem qFx (f:Nat->Bool) (q:Int):qA1 (sLo f) (sHi f) q=some (sLo fun i=>f i||only q i,sHi fun i=>f i||only q i):=by
 unfold qA1
 rw[qMF,qA]
 simp only
 rw[qGt,qA]
theorem qJF (f:Nat->Bool) (q:Int):qDu (sLo f) (sHi f) q=some (sLo fun i=>f i && !only q i,sHi fun i=>f i && !only q i):=by
 unfold qDu
 rw[qMF,qA]
 simp only
 rw[qKE,qA]
theorem qJi (f:Nat->Bool):qEp (sLo f) (sHi f)=some (isE f):=by
 unfold qEp
 rw[qfL]
theorem qDb (f:Nat->Bool) (q:Int):qB3 (sLo f) (sHi f) q=some (has f q):=by
 unfold qB3
 rw[qMF,qA]
 simp only
 rw[qE2,qA]
 simp only
 rw[qJi,qA]
 congr 1
 rw[Bool.eq_iff_iff]
 unfold has
 simp only[Bool.not_eq_true',Bool.and_eq_true,decide_eq_true_eq]
 constructor
 ·intro h
  rw[Bool.eq_false_iff] at h
  simp only[ne_eq,qCU] at h
  by_cases hq:0<=q /\ q<81
  ·refine⟨hq.1,hq.2,?_⟩
   by_cases hf:f q.toNat=true
   ·exact hf
   ·refine absurd (fun i hi=>?_) h
    unfold only
    by_cases hiq:(i:Int)=q
    ·have:i=q.toNat:=by omega
     subst this
     simp at hf
     simp[hf]
    ·simp[hiq]
  ·refine absurd (fun i hi=>?_) h
   unfold only
   have:¬ (i:Int)=q:=by omega
   simp[this]
 ·intro ⟨h0,h1,h2⟩
  rw[Bool.eq_false_iff]
  simp only[ne_eq,qCU]
  intro h
  have:=h q.toNat (by omega)
  simp[only,h2,show max q 0=q by omega] at this
end Go.Kk.Pl
namespace Go.Kk.Pl
theorem qGi {p:Nat->Bool} {j n:Nat} (h:∃ i,j<=i /\ i<n /\ p i=true):∃ k,j<=k /\ k<n /\ p k=true /\ ∀ i,j<=i->i<k->p i=false:=by
 obtain⟨i,h1,h2,h3⟩:=h
 induction hd:i - j generalizing i j with
 | zero=>exact⟨i,h1,h2,h3,fun x a b=>by omega⟩
 | succ d ih=>
   cases hp:p j with
   | true=>exact⟨j,Nat.le_refl _,by omega,hp,fun x a b=>by omega⟩
   | false=>
     obtain⟨k,a,b,c,e⟩:=ih (j:=j+1) i (by omega) h2 h3 (by omega)
     refine⟨k,by omega,b,c,fun x a' b'=>?_⟩
     by_cases hx:x=j
     ·subst hx;exact hp
     ·exact e x (by omega) b'
section
variable {f:Nat->Bool} {n k:Nat} (hk:k<n) (hf:f k=true) (hl:∀ i,i<k->f i=false)
include hk hf hl
theorem qVP:qW f n=2 ^ (k+1)*(qW f n / 2 ^ (k+1))+2 ^ k:=by
 have h1:=Nat.div_add_mod (qW f n) (2 ^ (k+1))
 have h2:qW f n % 2 ^ (k+1)=2 ^ k:=by
  apply Nat.eq_of_testBit_eq
  intro i
  rw[Nat.testBit_mod_two_pow,qBQ,Nat.testBit_two_pow]
  by_cases h:i<k
  ·rw[hl i h];simp;omega
  ·by_cases h3:i=k
   ·subst h3;simp[hf,hk]
   ·rw[show decide (i<k+1)=false by simp;omega,Bool.false_and];simp;omega
 omega
theorem qVO (i:Nat):(qW f n - 1).testBit i=if i<k then true else if i=k then false else (qW f n).testBit i:=by
 have h:=qVP hk hf hl
 have hp:0<2 ^ k:=Nat.two_pow_pos k
 have h2:qW f n - 1=2 ^ (k+1)*(qW f n / 2 ^ (k+1))+(2 ^ k - 1):=by omega
 have hlt:2 ^ k - 1<2 ^ (k+1):=by rw[Nat.pow_succ];omega
 have hlt2:2 ^ k<2 ^ (k+1):=by rw[Nat.pow_succ];omega
 rw[h2,Nat.testBit_two_pow_mul_add _ hlt,Nat.testBit_two_pow_sub_one]
 by_cases h3:i<k
 ·simp[h3,show i<k+1 by omega]
 ·by_cases h4:i=k
  ·subst h4;simp
  ·rw[if_neg (by omega),if_neg h3,if_neg h4]
   conv=>rhs;rw[h,Nat.testBit_two_pow_mul_add _ hlt2,if_neg (by omega)]
theorem qGq:0<qW f n:=by
 have:=qVP hk hf hl
 have hp:0<2 ^ k:=Nat.two_pow_pos k
 omega
theorem qha (hn:n<=64):qW f n &&& (2 ^ 64 - qW f n)=2 ^ k:=by
 have hpos:=qGq hk hf hl
 apply Nat.eq_of_testBit_eq
 intro i
 have e:2 ^ 64 - qW f n=2 ^ 64 - ((qW f n - 1)+1):=by omega
 have hlt:=qBW f hn
 rw[Nat.testBit_and,e,Nat.testBit_two_pow_sub_succ (by omega),qVO hk hf hl,Nat.testBit_two_pow]
 by_cases h3:i<k
 ·rw[if_pos h3];simp;omega
 ·by_cases h4:i=k
  ·subst h4
   rw[qBQ]
   simp[hf,hk];omega
  ·rw[if_neg h3,if_neg h4]
   cases (qW f n).testBit i<;>simp<;>omega
theorem qVN:qW f n &&& (qW f n - 1)=qW (fun i=>f i&&decide (k<i)) n:=by
 refine qJR (Nat.lt_of_le_of_lt Nat.and_le_left (qDW f n)) fun i hi=>?_
 rw[Nat.testBit_and,qVO hk hf hl,qBQ]
 by_cases h3:i<k
 ·rw[hl i h3];simp
 ·by_cases h4:i=k
  ·subst h4;simp
  ·rw[if_neg h3,if_neg h4]
   simp[hi,show k<i by omega]
end
theorem qpO:∀ k:Fin 64,inB (Int.fdiv (IntKind.wrap IntKind.u64 (((2 ^ k.val:Nat):Int)*285870213051353865)) 288230376151711744) 64=true /\
  conv IntKind.u8 IntKind.i64 (List.getD [0,1,56,2,57,49,28,3,61,58,42,50,38,29,17,4,62,47,59,36,45,43,51,22,53,39,33,30,24,18,12,5,63,55,48,27,60,41,37,16,46,35,44,21,52,32,23,11,54,26,40,15,34,20,31,10,25,14,19,9,13,8,7,6] (Int.toNat (Int.fdiv (IntKind.wrap IntKind.u64 (((2 ^ k.val:Nat):Int)*285870213051353865)) 288230376151711744)) 0)=((k.val:Nat):Int):=by decide +kernel
theorem qh1 {x:Nat} (h0:0<x) (h1:x<2 ^ 64):IntKind.wrap .u64 (0 - (x:Int))=((2 ^ 64 - x:Nat):Int):=by
 have:(0 - (x:Int)) % 18446744073709551616=18446744073709551616 - x:=by omega
 simp only[IntKind.wrap,IntKind.signed,IntKind.bits]
 simp
 omega
theorem qWM {x:Nat} (h0:0<x) (h1:x<2 ^ 64):IntKind.wrap .u64 ((x:Int) - 1)=((x - 1:Nat):Int):=by
 rw[show (x:Int) - 1=((x - 1:Nat):Int) by omega]
 exact qDQ (by omega)
theorem qLg {f:Nat->Bool} {n k:Nat} (hn:n<=64) (hk:k<n) (hf:f k=true) (hl:∀ i,i<k->f i=false):qD7 (qW f n:Nat)=some (k:Int):=by
 have hpos:=qGq hk hf hl
 have hlt:=qBW f hn
 unfold qD7 qMH
 rw[qX (by simp;omega),qh1 hpos hlt,qDV hlt (by omega),qha hk hf hl hn]
 obtain⟨a,b⟩:=qpO ⟨k,by omega⟩
 simp only at a b
 rw[qQ a,b]
theorem qJT {f:Nat->Bool} {n:Nat}:qW f n=0 ↔ ∀ i,i<n->f i=false:=by
 constructor
 ·intro h i hi
  have:=qBQ f n i
  rw[h] at this
  simpa[hi] using this.symm
 ·intro h
  rw[qD6 (g:=fun _=>false) h,qJS]
def fst (f:Nat->Bool):Int:=match (List.range 81).find? f with
 | some i=>i
 | none=>-1
theorem qJv {f:Nat->Bool} {k:Nat} (hk:k<81) (hf:f k=true) (hl:∀ i,i<k->f i=false):fst f=k:=by
 unfold fst
 have:(List.range 81).find? f=some k:=by
  rw[List.find?_eq_some_iff_getElem]
  exact⟨hf,k,by simpa using hk,by simp,fun j hj=>by simp[hl j hj]⟩
 rw[this]
theorem qTw {f:Nat->Bool} (h:∀ i,i<81->f i=false):fst f = -1:=by
 unfold fst
 have:(List.range 81).find? f=none:=by simpa using h
 rw[this]
theorem qMv (f:Nat->Bool):qFl (sLo f) (sHi f)=some (fst f):=by
 unfold qFl
 by_cases h:∃ i,0<=i /\ i<63 /\ f i=true
 ·obtain⟨k,_,hk,hf,hl⟩:=qGi h
  have hpos:=qGq hk hf fun i hi=>hl i (Nat.zero_le _) hi
  rw[qQ (by unfold sLo;simp;omega)]
  unfold sLo
  rw[qLg (by omega) hk hf fun i hi=>hl i (Nat.zero_le _) hi,qA,qJv (by omega) hf fun i hi=>hl i (Nat.zero_le _) hi]
 ·have h1:∀ i,i<63->f i=false:=fun i hi=>by
   cases hf:f i with
   | false=>rfl
   | true=>exact absurd ⟨i,Nat.zero_le _,hi,hf⟩ h
  rw[qX (by unfold sLo;rw[qJT.2 h1];rfl)]
  by_cases h2:∃ i,0<=i /\ i<18 /\ f (63+i)=true
  ·obtain⟨k,_,hk,hf,hl⟩:=qGi (p:=fun i=>f (63+i)) h2
   have hpos:=qGq (f:=fun i=>f (63+i)) hk hf fun i hi=>hl i (Nat.zero_le _) hi
   rw[qQ (by unfold sHi;simp;omega)]
   unfold sHi
   rw[qLg (f:=fun i=>f (63+i)) (by omega) hk hf fun i hi=>hl i (Nat.zero_le _) hi,qA,qAa (by omega) (by omega),qJv (k:=63+k) (by omega) hf fun i hi=>?_]
   ·simp
   ·by_cases hi2:i<63
    ·exact h1 i hi2
    ·have:=hl (i - 63) (Nat.zero_le _) (by omega)
     simpa[show 63+(i - 63)=i by omega] using this
  ·have h3:∀ i,i<18->f (63+i)=false:=fun i hi=>by
    cases hf:f (63+i) with
    | false=>rfl
    | true=>exact absurd ⟨i,Nat.zero_le _,hi,hf⟩ h2
   rw[qX (by unfold sHi;rw[qJT.2 h3];rfl),qTw]
   intro i hi
   by_cases hi2:i<63
   ·exact h1 i hi2
   ·have:=h3 (i - 63) (by omega)
    simpa[show 63+(i - 63)=i by omega] using this
def sq (f:Nat->Bool):List Int:=((List.range 81).filter f).map Int.ofNat
theorem qMt {f:Nat->Bool} {j k:Nat} (hjk:j<=k) (h:∀ i,j<=i->i<k->f i=false):(List.range k).filter f=(List.range j).filter f:=by
 induction k with
 | zero=>rw[show j=0 by omega]
 | succ k ih=>
   by_cases hj:j=k+1
   ·rw[hj]
   ·rw[List.range_succ,List.filter_append,ih (by omega) fun i a b=>h i a (by omega)]
    simp[h k (by omega) (by omega)]
theorem qTn {f:Nat->Bool} {j k:Nat} (hjk:j<=k) (h:∀ i,j<=i->i<k->f i=false) (hf:f k=true):(List.range (k+1)).filter f=(List.range j).filter f++[k]:=by
 rw[List.range_succ,List.filter_append,qMt hjk h]
 simp[hf]
theorem qLx {l:List Int} {n:Nat} (h:n=l.length) (x:List Int):List.append (List.take n l) x=l++x:=by
 subst h;simp[List.take_length]
theorem qoF (f:Nat->Bool) (hi:Int):∀ (d j:Nat),63 - j=d->j<=63->∀ g,d<g->
  qHe g ((List.range j).filter f).length (qW (fun i=>f i&&decide (j<=i)) 63:Nat) hi ((List.range j).filter f).length (((List.range j).filter f).map Int.ofNat) =
   some (((List.range 63).filter f).length,0,hi,((List.range 63).filter f).length,((List.range 63).filter f).map Int.ofNat):=by
 intro d
 induction d using Nat.strongRecOn with
 | ind d ih=>
   intro j hd hj g hg
   obtain⟨g,rfl⟩:∃ g',g=g'+1:=⟨g - 1,by omega⟩
   show qLK (qHe g) _ _ _ _ _=_
   unfold qLK
   by_cases h:∃ i,j<=i /\ i<63 /\ f i=true
   ·obtain⟨k,h1,h2,h3,h4⟩:=qGi h
    have hl:∀ i,i<k->(f i&&decide (j<=i))=false:=fun i hi=>by
     by_cases hji:j<=i
     ·rw[h4 i hji hi];rfl
     ·simp[hji]
    have hf:(f k&&decide (j<=k))=true:=by simp[h3,h1]
    have hpos:=qGq (f:=fun i=>f i&&decide (j<=i)) h2 hf hl
    have hlen:((List.range j).filter f).length<=63:=Nat.le_trans (List.length_filter_le _ _) (by simpa using hj)
    rw[qQ (by simp;omega),qLg (f:=fun i=>f i&&decide (j<=i)) (by omega) h2 hf hl,qA,qQ (by simp;omega),qLx (by simp),
     qWM hpos (qBW _ (by omega)),qDV (qBW _ (by omega)) (Nat.lt_of_le_of_lt (Nat.sub_le _ _) (qBW (fun i=>f i&&decide (j<=i)) (by omega))),qVN h2 hf hl,
     qD6 (g:=fun i=>f i&&decide (k+1<=i)) fun i _=>by
      by_cases hki:k<i
      ·simp[show k+1<=i by omega,show j<=i by omega,hki]
      ·simp[hki,show ¬ k+1<=i by omega]]
    have hn:=qTn h1 h4 h3
    have:=ih (63 - (k+1)) (by omega) (k+1) rfl (by omega) g (by omega)
    rw[hn] at this
    simpa using this
   ·have h5:∀ i,j<=i->i<63->f i=false:=fun i a b=>by
     cases hf:f i with
     | false=>rfl
     | true=>exact absurd ⟨i,a,b,hf⟩ h
    have hz:qW (fun i=>f i&&decide (j<=i)) 63=0:=qJT.2 fun i hi=>by
     by_cases hji:j<=i
     ·rw[h5 i hji hi];rfl
     ·simp[hji]
    rw[hz,qX (by rfl),qMt hj h5]
    rfl
theorem qoE (f:Nat->Bool) (l:List Int) (lo:Int) (hl0:l.length<=63):∀ (d j:Nat),18 - j=d->j<=18->∀ g,d<g->
  qHf g (l++((List.range j).filter fun i=>f (63+i)).map fun i=>Int.ofNat (63+i)).length lo (qW (fun i=>f (63+i)&&decide (j<=i)) 18:Nat) (l++((List.range j).filter fun i=>f (63+i)).map fun i=>Int.ofNat (63+i)).length
   (l++((List.range j).filter fun i=>f (63+i)).map fun i=>Int.ofNat (63+i)) =
   some ((l++((List.range 18).filter fun i=>f (63+i)).map fun i=>Int.ofNat (63+i)).length,(l++((List.range 18).filter fun i=>f (63+i)).map fun i=>Int.ofNat (63+i)).length,l++((List.range 18).filter fun i=>f (63+i)).map fun i=>Int.ofNat (63+i)):=by
 intro d
 induction d using Nat.strongRecOn with
 | ind d ih=>
   intro j hd hj g hg
   obtain⟨g,rfl⟩:∃ g',g=g'+1:=⟨g - 1,by omega⟩
   show qLL (qHf g) _ _ _ _ _=_
   unfold qLL
   by_cases h:∃ i,j<=i /\ i<18 /\ f (63+i)=true
   ·obtain⟨k,h1,h2,h3,h4⟩:=qGi (p:=fun i=>f (63+i)) h
    have hl:∀ i,i<k->(f (63+i)&&decide (j<=i))=false:=fun i hi=>by
     by_cases hji:j<=i
     ·rw[h4 i hji hi];rfl
     ·simp[hji]
    have hf:(f (63+k)&&decide (j<=k))=true:=by simp[h3,h1]
    have hpos:=qGq (f:=fun i=>f (63+i)&&decide (j<=i)) h2 hf hl
    have hlen:((List.range j).filter fun i=>f (63+i)).length<=18:=Nat.le_trans (List.length_filter_le _ _) (by simpa using hj)
    rw[qQ (by simp;omega),qLg (f:=fun i=>f (63+i)&&decide (j<=i)) (by omega) h2 hf hl,qA,qQ (by simp;omega),qLx rfl,
     qWM hpos (qBW _ (by omega)),qDV (qBW _ (by omega)) (Nat.lt_of_le_of_lt (Nat.sub_le _ _) (qBW (fun i=>f (63+i)&&decide (j<=i)) (by omega))),qVN h2 hf hl,
     qD6 (g:=fun i=>f (63+i)&&decide (k+1<=i)) fun i _=>by
      by_cases hki:k<i
      ·simp[show k+1<=i by omega,show j<=i by omega,hki]
      ·simp[hki,show ¬ k+1<=i by omega],qAa (by omega) (by omega)]
    have hn:=qTn (f:=fun i=>f (63+i)) h1 h4 h3
    have:=ih (18 - (k+1)) (by omega) (k+1) rfl (by omega) g (by omega)
    rw[hn] at this
    simpa[Nat.add_assoc] using this
   ·have h5:∀ i,j<=i->i<18->f (63+i)=false:=fun i a b=>by
     cases hf:f (63+i) with
     | false=>rfl
     | true=>exact absurd ⟨i,a,b,hf⟩ h
    have hz:qW (fun i=>f (63+i)&&decide (j<=i)) 18=0:=qJT.2 fun i hi=>by
     by_cases hji:j<=i
     ·rw[h5 i hji hi];rfl
     ·simp[hji]
    rw[hz,qX (by rfl),qMt (f:=fun i=>f (63+i)) hj h5]
theorem qWS:List.range 81=List.range 63++(List.range 18).map (63+·):=by decide +kernel
theorem qoH (f:Nat->Bool):sq f=((List.range 63).filter f).map Int.ofNat++((List.range 18).filter fun i=>f (63+i)).map fun i=>Int.ofNat (63+i):=by
 unfold sq
 rw[qWS,List.filter_append,List.map_append,List.filter_map,List.map_map]
 rfl
theorem qI3 (f:Nat->Bool):qDs (sLo f) (sHi f)=some ((sq f).length,(sq f).length,sq f):=by
 unfold qDs
 have h1:=qoF f (sHi f) 63 0 rfl (by omega) qC (by unfold qC;omega)
 have e1:(qW (fun i=>f i&&decide (0<=i)) 63:Nat)=qW f 63:=qD6 fun i _=>by simp
 rw[e1] at h1
 have h2:=qoE f (((List.range 63).filter f).map Int.ofNat) 0 (by rw[List.length_map];exact Nat.le_trans (List.length_filter_le _ _) (by simp)) 18 0 rfl (by omega) qC (by unfold qC;omega)
 have e2:(qW (fun i=>f (63+i)&&decide (0<=i)) 18:Nat)=qW (fun i=>f (63+i)) 18:=qD6 fun i _=>by simp
 rw[e2] at h2
 simp only[List.range_zero,List.filter_nil,List.map_nil,List.append_nil,List.length_nil,List.length_map] at h1 h2
 unfold sLo
 rw[h1,qA]
 simp only
 unfold sHi
 rw[h2,qA,qoH]
end Go.Kk.Pl
namespace Go.Kk.Pl
def qBy (c:Nat):Nat->Nat
 | 0=>0
 | k+1=>c+256*qBy c k
def w1 (k x:Nat):Nat:=((x / 2) &&& qBy 85 k)+(x &&& qBy 85 k)
def w2 (k x:Nat):Nat:=((x / 4) &&& qBy 51 k)+(x &&& qBy 51 k)
def w3 (k x:Nat):Nat:=(x / 16+x) &&& qBy 15 k
theorem qHv {a b r m:Nat} (ha:a<256) (hb:b<256):(a+256*r) &&& (b+256*m)=(a &&& b)+256*(r &&& m):=by
 have h1:a+256*r=2 ^ 8*r+a:=by omega
 have h2:b+256*m=2 ^ 8*m+b:=by omega
 have h3:(a &&& b)+256*(r &&& m)=2 ^ 8*(r &&& m)+(a &&& b):=by omega
 have h4:a &&& b<2 ^ 8:=Nat.lt_of_le_of_lt Nat.and_le_left ha
 apply Nat.eq_of_testBit_eq
 intro i
 rw[h1,h2,h3,Nat.testBit_and,Nat.testBit_two_pow_mul_add _ ha,Nat.testBit_two_pow_mul_add _ hb,Nat.testBit_two_pow_mul_add _ h4]
 split<;>simp
theorem qdU:∀ (b:Fin 256) (t:Fin 2),((b.val / 2+128*t.val) &&& 85)=((b.val / 2) &&& 85):=by decide +kernel
theorem qdV:∀ (b:Fin 256) (t:Fin 4),((b.val / 4+64*t.val) &&& 51)=((b.val / 4) &&& 51):=by decide +kernel
def y1 (b:Nat):Nat:=((b / 2) &&& 85)+(b &&& 85)
def y2 (b:Nat):Nat:=((b / 4) &&& 51)+(b &&& 51)
def y3 (b:Nat):Nat:=(b / 16+b) &&& 15
theorem qci:∀ b:Fin 256,y1 b.val<256:=by decide +kernel
theorem qcj:∀ b:Fin 256,y2 (y1 b.val)<=68 /\ y3 (y2 (y1 b.val))<=8:=by decide +kernel
theorem qdW:∀ (b:Fin 103) (t:Fin 8),((b.val / 16+b.val+16*t.val) &&& 15)=((b.val / 16+b.val) &&& 15):=by decide +kernel
theorem qcc {b r k:Nat} (hb:b<256):w1 (k+1) (b+256*r)=y1 b+256*w1 k r:=by
 unfold w1 y1
 have h1:(b+256*r) / 2=(b / 2+128*(r % 2))+256*(r / 2):=by omega
 rw[h1]
 simp only[qBy]
 have:=qdU ⟨b,hb⟩ ⟨r % 2,by omega⟩
 simp only at this
 rw[qHv (by omega) (by omega),qHv hb (by omega),this]
 omega
theorem qcd {b r k:Nat} (hb:b<256):w2 (k+1) (b+256*r)=y2 b+256*w2 k r:=by
 unfold w2 y2
 have h1:(b+256*r) / 4=(b / 4+64*(r % 4))+256*(r / 4):=by omega
 rw[h1]
 simp only[qBy]
 have:=qdV ⟨b,hb⟩ ⟨r % 4,by omega⟩
 simp only at this
 rw[qHv (by omega) (by omega),qHv hb (by omega),this]
 omega
theorem qpm {b r k:Nat} (hb:b<=102) (hr:r % 16<8):w3 (k+1) (b+256*r)=y3 b+256*w3 k r:=by
 unfold w3 y3
 have h1:(b+256*r) / 16+(b+256*r)=(b / 16+b+16*(r % 16))+256*(r / 16+r):=by omega
 rw[h1]
 simp only[qBy]
 rw[qHv (by omega) (by omega),qdW ⟨b,by omega⟩ ⟨r % 16,hr⟩]
def pop:Nat->Nat->Nat
 | 0,_=>0
 | k+1,x=>y3 (y2 (y1 (x % 256)))+pop k (x / 256)
def qIe:Nat->Nat->Nat
 | 0,_=>0
 | k+1,x=>y3 (y2 (y1 (x % 256)))+256*qIe k (x / 256)
theorem qpl (k x:Nat):w2 k (w1 k x) % 16<8:=by
 cases k with
 | zero=>simp[w2,qBy]
 | succ k=>
   have h:x=x % 256+256*(x / 256):=by omega
   have h0:=qci ⟨x % 256,by omega⟩
   simp only at h0
   rw[h,qcc (by omega),qcd h0]
   have:∀ b:Fin 256,y2 (y1 b.val) % 16<8:=by decide +kernel
   have:=this ⟨x % 256,by omega⟩
   simp only at this
   omega
theorem qce:∀ k x,w3 k (w2 k (w1 k x))=qIe k x
 | 0,x=>by simp[w3,qBy,qIe]
 | k+1,x=>by
   have h:x=x % 256+256*(x / 256):=by omega
   have h0:=qci ⟨x % 256,by omega⟩
   have h1:=(qcj ⟨x % 256,by omega⟩).1
   simp only at h0 h1
   conv=>lhs;rw[h]
   rw[qcc (by omega),qcd h0,qpm (by omega) (qpl _ _),qce k]
   rfl
theorem qot {a0 a1 a2 a3 a4 a5 a6 a7:Nat} (h0:a0<=8) (h1:a1<=8) (h2:a2<=8) (h3:a3<=8) (h4:a4<=8) (h5:a5<=8) (h6:a6<=8) (h7:a7<=8):
  (a0 + 256 * (a1+256*(a2+256*(a3+256*(a4+256*(a5+256*(a6+256*(a7+256*0)))))))+
      (a0 + 256*(a1+256*(a2+256*(a3+256*(a4+256*(a5+256*(a6+256*(a7+256*0)))))))) / 256+
        (a0 + 256*(a1+256*(a2+256*(a3+256*(a4+256*(a5+256*(a6+256*(a7+256*0)))))))+
            (a0+256*(a1+256*(a2+256*(a3+256*(a4+256*(a5+256*(a6+256*(a7+256*0)))))))) / 256) /
         65536+
      (a0 + 256*(a1+256*(a2+256*(a3+256*(a4+256*(a5+256*(a6+256*(a7+256*0)))))))+
            (a0+256*(a1+256*(a2+256*(a3+256*(a4+256*(a5+256*(a6+256*(a7+256*0)))))))) / 256+
          (a0 + 256*(a1+256*(a2+256*(a3+256*(a4+256*(a5+256*(a6+256*(a7+256*0)))))))+
              (a0+256*(a1+256*(a2+256*(a3+256*(a4+256*(a5+256*(a6+256*(a7+256*0)))))))) / 256) /
           65536) /
       4294967296) %
   128 =
  a0+(a1+(a2+(a3+(a4+(a5+(a6+(a7+0))))))):=by
 rw[show a7+256*0=a7 by omega]
 generalize h:a6+256*a7=q6
 generalize g5:a5+256*q6=q5
 generalize g4:a4+256*q5=q4
 generalize g3:a3+256*q4=q3
 generalize g2:a2+256*q3=q2
 generalize g1:a1+256*q2=q1
 have e1:(a0+256*q1) / 256=q1:=by omega
 rw[e1]
 have e2:(a0+256*q1+q1) / 65536=q2+q3:=by omega
 rw[e2]
 have e3:(a0+256*q1+q1+(q2+q3)) / 4294967296=q4+q5+(q6+a7):=by omega
 rw[e3]
 omega
theorem qou (x:Nat):
  let s:=qIe 8 x
  let t:=s+s / 256
  let u:=t+t / 65536
  (u+u / 4294967296) % 128=pop 8 x:=by
 have h:∀ y,y3 (y2 (y1 (y % 256)))<=8:=fun y=>(qcj ⟨y % 256,by omega⟩).2
 simp only[qIe,pop]
 have h0:=h x
 have h1:=h (x / 256)
 have h2:=h (x / 256 / 256)
 have h3:=h (x / 256 / 256 / 256)
 have h4:=h (x / 256 / 256 / 256 / 256)
 have h5:=h (x / 256 / 256 / 256 / 256 / 256)
 have h6:=h (x / 256 / 256 / 256 / 256 / 256 / 256)
 have h7:=h (x / 256 / 256 / 256 / 256 / 256 / 256 / 256)
 generalize y3 (y2 (y1 (x % 256)))=a0 at *
 generalize y3 (y2 (y1 (x / 256 % 256)))=a1 at *
 generalize y3 (y2 (y1 (x / 256 / 256 % 256)))=a2 at *
 generalize y3 (y2 (y1 (x / 256 / 256 / 256 % 256)))=a3 at *
 generalize y3 (y2 (y1 (x / 256 / 256 / 256 / 256 % 256)))=a4 at *
 generalize y3 (y2 (y1 (x / 256 / 256 / 256 / 256 / 256 % 256)))=a5 at *
 generalize y3 (y2 (y1 (x / 256 / 256 / 256 / 256 / 256 / 256 % 256)))=a6 at *
 generalize y3 (y2 (y1 (x / 256 / 256 / 256 / 256 / 256 / 256 / 256 % 256)))=a7 at *
 exact qot h0 h1 h2 h3 h4 h5 h6 h7
theorem qR2 (f:Nat->Bool) (n:Nat):∀ m,qW f (n+m)=qW f n+2 ^ n*qW (fun i=>f (n+i)) m
 | 0=>by simp[qW]
 | m+1=>by
   rw[<- Nat.add_assoc]
   simp only[qW]
   rw[qR2 f n m,Nat.mul_add,Nat.add_assoc]
   congr 2
   cases f (n+m)<;>simp[Nat.pow_add]
theorem qeJ:∀ a b c d e f g h:Bool,y3 (y2 (y1 (0+(bif a then 2 ^ 0 else 0)+(bif b then 2 ^ 1 else 0)+(bif c then 2 ^ 2 else 0)+(bif d then 2 ^ 3 else 0)+(bif e then 2 ^ 4 else 0)+(bif f then 2 ^ 5 else 0)+(bif g then 2 ^ 6 else 0)+(bif h then 2 ^ 7 else 0)))) =
  a.toNat+b.toNat+c.toNat+d.toNat+e.toNat+f.toNat+g.toNat+h.toNat:=by decide +kernel
theorem qWL (f:Nat->Bool):∀ k,∀ j,pop k (qW (fun i=>f (j+i)) (8*k))=((List.range (8*k)).map (j+·)).countP f
 | 0,j=>rfl
 | k+1,j=>by
   have e:qW (fun i=>f (j+i)) (8*(k+1))=qW (fun i=>f (j+i)) 8+256*qW (fun i=>f (j+8+i)) (8*k):=by
    rw[show 8*(k+1)=8+8*k by omega,qR2]
    simp only[Nat.add_assoc]
   have hlt:=qDW (fun i=>f (j+i)) 8
   simp only[pop]
   rw[e,show (qW (fun i=>f (j+i)) 8+256*qW (fun i=>f (j+8+i)) (8*k)) % 256=qW (fun i=>f (j+i)) 8 by omega,
    show (qW (fun i=>f (j+i)) 8+256*qW (fun i=>f (j+8+i)) (8*k)) / 256=qW (fun i=>f (j+8+i)) (8*k) by omega,qWL f k (j+8)]
   have h8:List.range (8*(k+1))=List.range 8++(List.range (8*k)).map (8+·):=by
    rw[show 8*(k+1)=8+8*k by omega,List.range_add]
   rw[h8,List.map_append,List.countP_append,List.map_map]
   have h1:y3 (y2 (y1 (qW (fun i=>f (j+i)) 8)))=((List.range 8).map (j+·)).countP f:=by
    have:=qeJ (f (j+0)) (f (j+1)) (f (j+2)) (f (j+3)) (f (j+4)) (f (j+5)) (f (j+6)) (f (j+7))
    simp only[qW]
    rw[this]
    show _=List.countP f [j+0,j+1,j+2,j+3,j+4,j+5,j+6,j+7]
    simp only[List.countP_cons,List.countP_nil]
    cases f (j+0)<;>cases f (j+1)<;>cases f (j+2)<;>cases f (j+3)<;>cases f (j+4)<;>cases f (j+5)<;>cases f (j+6)<;>cases f (j+7)<;>rfl
   rw[h1]
   congr 2
   apply List.map_congr_left
   intro a _
   show j+8+a=j+(8+a)
   omega
theorem qGN (a b:Nat):Int.fdiv (a:Int) (b:Int)=((a / b:Nat):Int):=by
 simp[Int.fdiv_eq_ediv]
def ocS (x:Nat):Nat:=
 let s:=w3 8 (w2 8 (w1 8 x))
 let t:=s+s / 256
 let u:=t+t / 65536
 (u+u / 4294967296) % 128
theorem qVV:qBy 85 8=6148914691236517205:=by decide +kernel
theorem qVU:qBy 51 8=3689348814741910323:=by decide +kernel
theorem qVT:qBy 15 8=1085102592571150095:=by decide +kernel
theorem qer {n:Nat} (h:n<2 ^ 63):conv IntKind.u64 IntKind.i64 (n:Int)=n:=by
 unfold conv
 rw[show IntKind.within .u64 .i64=false from rfl,cond_false]
 exact qRX (by omega) (by omega)
theorem qc0 {n:Nat} (h:n<2 ^ 63):qE .and .i64 (n:Int) 127=((n % 128:Nat):Int):=by
 unfold qE
 show IntKind.wrap .i64 _=_
 rw[show IntKind.bits .i64=64 from rfl,show (127:Int)=((127:Nat):Int) from rfl,qER,qER,BitVec.toNat_and,BitVec.toNat_ofNat,BitVec.toNat_ofNat,Nat.mod_eq_of_lt (by omega),Nat.mod_eq_of_lt (by omega)]
 rw[show (127:Nat)=2 ^ 7 - 1 by rfl,Nat.and_two_pow_sub_one_eq_mod]
 exact qRX (by omega) (by omega)
theorem qis {x:Nat} (hx:x<2 ^ 64):qE5 (x:Int)=some ((ocS x:Nat):Int):=by
 unfold qE5
 have d2:Int.fdiv (x:Int) 2=((x / 2:Nat):Int):=qGN x 2
 have s1:IntKind.wrap IntKind.u64 (qE BinOp.and IntKind.u64 (Int.fdiv (x:Int) 2) 6148914691236517205+qE BinOp.and IntKind.u64 (x:Int) 6148914691236517205)=((w1 8 x:Nat):Int):=by
  have h1:qE BinOp.and IntKind.u64 ((x / 2:Nat):Int) 6148914691236517205=((x / 2 &&& 6148914691236517205:Nat):Int):=qDV (by omega) (by decide)
  have h2:qE BinOp.and IntKind.u64 ((x:Nat):Int) 6148914691236517205=((x &&& 6148914691236517205:Nat):Int):=qDV hx (by decide)
  rw[d2,h1,h2]
  have l1:=Nat.and_le_right (n:=x / 2) (m:=6148914691236517205)
  have l2:=Nat.and_le_right (n:=x) (m:=6148914691236517205)
  have:=qDQ (n:=((x / 2) &&& 6148914691236517205)+(x &&& 6148914691236517205)) (by omega)
  rw[Int.natCast_add] at this
  rw[this]
  unfold w1
  rw[qVV,Int.natCast_add]
 have l1:w1 8 x<2 ^ 64:=by
  unfold w1
  rw[qVV]
  have l1:=Nat.and_le_right (n:=x / 2) (m:=6148914691236517205)
  have l2:=Nat.and_le_right (n:=x) (m:=6148914691236517205)
  omega
 rw[s1]
 generalize hy:w1 8 x=y at *
 have s2:IntKind.wrap IntKind.u64 (qE BinOp.and IntKind.u64 (Int.fdiv (y:Int) 4) 3689348814741910323+qE BinOp.and IntKind.u64 (y:Int) 3689348814741910323)=((w2 8 y:Nat):Int):=by
  have h1:qE BinOp.and IntKind.u64 ((y / 4:Nat):Int) 3689348814741910323=((y / 4 &&& 3689348814741910323:Nat):Int):=qDV (by omega) (by decide)
  have h2:qE BinOp.and IntKind.u64 ((y:Nat):Int) 3689348814741910323=((y &&& 3689348814741910323:Nat):Int):=qDV l1 (by decide)
  rw[show Int.fdiv (y:Int) 4=((y / 4:Nat):Int) from qGN y 4,h1,h2]
  have l1:=Nat.and_le_right (n:=y / 4) (m:=3689348814741910323)
  have l2:=Nat.and_le_right (n:=y) (m:=3689348814741910323)
  have:=qDQ (n:=((y / 4) &&& 3689348814741910323)+(y &&& 3689348814741910323)) (by omega)
  rw[Int.natCast_add] at this
  rw[this]
  unfold w2
  rw[qVU,Int.natCast_add]
 have l2:w2 8 y<=2*3689348814741910323:=by
  unfold w2
  rw[qVU]
  have l1:=Nat.and_le_right (n:=y / 4) (m:=3689348814741910323)
  have l2:=Nat.and_le_right (n:=y) (m:=3689348814741910323)
  omega
 rw[s2]
 generalize hz:w2 8 y=z at *
 have s3:qE BinOp.and IntKind.u64 (IntKind.wrap IntKind.u64 (Int.fdiv (z:Int) 16+(z:Int))) 1085102592571150095=((w3 8 z:Nat):Int):=by
  rw[show Int.fdiv (z:Int) 16=((z / 16:Nat):Int) from qGN z 16,<- Int.natCast_add,qDQ (by omega)]
  have h1:qE BinOp.and IntKind.u64 ((z / 16+z:Nat):Int) 1085102592571150095=(((z / 16+z) &&& 1085102592571150095:Nat):Int):=qDV (by omega) (by decide)
  rw[h1]
  unfold w3
  rw[qVT]
 have l3:w3 8 z<=1085102592571150095:=by
  unfold w3
  rw[qVT]
  exact Nat.and_le_right
 rw[s3]
 generalize hp:w3 8 z=p at *
 rw[show Int.fdiv (p:Int) 256=((p / 256:Nat):Int) from qGN p 256,<- Int.natCast_add,qDQ (by omega),
  show Int.fdiv ((p+p / 256:Nat):Int) 65536=(((p+p / 256) / 65536:Nat):Int) from qGN _ 65536,<- Int.natCast_add,qDQ (by omega),
  show Int.fdiv ((p+p / 256+(p+p / 256) / 65536:Nat):Int) 4294967296=(((p+p / 256+(p+p / 256) / 65536) / 4294967296:Nat):Int) from qGN _ 4294967296,<- Int.natCast_add,qDQ (by omega),qer (by omega),qc0 (by omega)]
 unfold ocS
 rw[hy,hz,hp]
theorem qjN {x:Nat}:ocS x=pop 8 x:=by
 unfold ocS
 rw[qce]
 exact qou x
theorem qVv (f:Nat->Bool) {n:Nat} (hn:n<=64):qE5 (qW f n:Nat)=some (((List.range n).countP f:Nat):Int):=by
 rw[qis (qBW f hn),qjN]
 have e:qW f n=qW (fun i=>(fun i=>f i&&decide (i<n)) (0+i)) (8*8):=by
  apply Nat.eq_of_testBit_eq
  intro i
  rw[qBQ,qBQ]
  by_cases h:i<n
  ·simp[h,show i<64 by omega]
  ·simp[h]
 rw[e,qWL (fun i=>f i&&decide (i<n)) 8 0]
 congr 2
 have h64:List.range (8*8)=List.range n++(List.range (64 - n)).map (n+·):=by
  rw[<- List.range_add];congr 1;omega
 have hid:(List.range (8*8)).map (0+·)=List.range (8*8):=by
  have:(fun x:Nat=>0+x)=id:=by funext x;simp
  rw[this,List.map_id]
 rw[hid,h64,List.countP_append]
 have h1:(List.range n).countP (fun i=>f i&&decide (i<n))=(List.range n).countP f:=by
  apply List.countP_congr
  intro x hx
  simp only[List.mem_range] at hx
  simp[hx]
 have h2:((List.range (64 - n)).map (n+·)).countP (fun i=>f i&&decide (i<n))=0:=by
  rw[List.countP_eq_zero]
  intro x hx
  obtain⟨a,_,rfl⟩:=List.mem_map.1 hx
  simp
 rw[h1,h2,Nat.add_zero]
def qAl (f:Nat->Bool):Nat:=(List.range 81).countP f
theorem qel (f:Nat->Bool):qAl f<=81:=Nat.le_trans List.countP_le_length (by simp)
theorem qS0 (f:Nat->Bool):qHX (sLo f) (sHi f)=some ((qAl f:Nat):Int):=by
 have hle:=qel f
 unfold qHX sLo sHi
 have e:qAl f=(List.range 63).countP f+(List.range 18).countP fun i=>f (63+i):=by
  unfold qAl
  rw[qWS,List.countP_append,List.countP_map]
  rfl
 rw[qVv f (by omega),qA,qVv (fun i=>f (63+i)) (by omega),qA,<- Int.natCast_add,<- e,qAa (by omega) (by omega)]
end Go.Kk.Pl
namespace Go.Kk.Pl
theorem qgy (x:Int):∃ v,qAQ x=some v:=by
 unfold qAQ
 repeat first | exact⟨_,rfl⟩ | apply qGD
theorem qNy (x:Int):∃ v,qFM x=some v:=⟨_,rfl⟩
theorem qgY (q x:Int):∃ v,qFL q x=some v:=by
 unfold qFL
 refine qFS (qgy _) fun a=>?_
 repeat first | exact⟨_,rfl⟩ | apply qGD | (refine qFS (qNy _) fun a=>?_)
theorem qgV (s k n:Int):∃ v,qFJ s k n=some v:=by
 unfold qFJ
 repeat first | exact⟨_,rfl⟩ | apply qGD | (refine qFS (qNy _) fun a=>?_)
theorem qgZ:∃ v,qGh=some v:=by
 unfold qGh
 refine qFS (qNy _) fun a=>?_
 exact⟨_,rfl⟩
theorem qga (b c d:List Int) (e:Int):∀ (n:Nat) (q acc:Int),q=81 - n->n<=81->0<=acc->∃ A,0<=A /\ ∀ f,qEM (f+n+1) acc b q c d e=some (A,c,d,e):=by
 intro n
 induction n with
 | zero=>
   intro q acc hq _ ha
   have hq:¬ q<81:=by omega
   refine⟨acc,ha,fun f=>?_⟩
   show qGf (qEM (f+0)) acc b q c d e=_
   unfold qGf
   rw[qX (by simpa using hq)]
 | succ n ih=>
   intro q acc hq hn ha
   have hq1:q<81:=by omega
   have hq0:0<=q:=by omega
   obtain⟨v,hv⟩:=qgY q (b.getD q.toNat 0)
   obtain⟨A,h1,h2⟩:=ih (q+1) (qE .xor .u64 acc v) (by omega) (by omega) (qMG _ _ _).1
   refine⟨A,h1,fun f=>?_⟩
   show qGf (qEM (f+n+1)) acc b q c d e=_
   unfold qGf
   rw[qQ (by simpa using hq1),qQ (qAn hq0 hq1)]
   simp only[cond_true]
   rw[hv,qA,qAa (by omega) (by omega)]
   exact h2 f
theorem qgX (row:List Int) (sd:Int) (x2:List Int) (x3:Int) (x6 x7:List Int) (x8:Int):∀ (n:Nat) (k acc:Int),k=8 - n->n<=8->0<=acc->
  ∃ A,0<=A /\ ∀ f,qFK (f+n+1) acc sd x2 x3 row k x6 x7 x8=some (A,x2,x3,x6,x7,x8):=by
 intro n
 induction n with
 | zero=>
   intro k acc hk _ ha
   have hk:¬ k<8:=by omega
   refine⟨acc,ha,fun f=>?_⟩
   show qGe (qFK (f+0)) acc sd x2 x3 row k x6 x7 x8=_
   unfold qGe
   rw[qX (by simpa using hk)]
 | succ n ih=>
   intro k acc hk hn ha
   have hk1:k<8:=by omega
   have hk0:0<=k:=by omega
   obtain⟨v,hv⟩:=qgV sd k (conv .i8 .i64 (row.getD k.toNat 0))
   obtain⟨A,h1,h2⟩:=ih (k+1) (qE .xor .u64 acc v) (by omega) (by omega) (qMG _ _ _).1
   refine⟨A,h1,fun f=>?_⟩
   show qGe (qFK (f+n+1)) acc sd x2 x3 row k x6 x7 x8=_
   unfold qGe
   rw[qQ (by simpa using hk1),qQ (qAn hk0 hk1)]
   simp only[cond_true]
   rw[hv,qA,qAa (by omega) (by omega)]
   exact h2 f
theorem qgW (h c d:List Int) (e:Int):∀ (n:Nat) (sd acc:Int),sd=2 - n->n<=2->0<=acc->∃ A,0<=A /\ ∀ f,qEN (f+n+1) acc h sd c d e=some (A,c,d,e):=by
 intro n
 induction n with
 | zero=>
   intro sd acc hq _ ha
   have hq:¬ sd<2:=by omega
   refine⟨acc,ha,fun f=>?_⟩
   show qGg (qEN (f+0)) acc h sd c d e=_
   unfold qGg
   rw[qX (by simpa using hq)]
 | succ n ih=>
   intro sd acc hq hn ha
   have hq1:sd<2:=by omega
   have hq0:0<=sd:=by omega
   obtain⟨A1,j1,j2⟩:=qgX (List.take 8 (List.drop (Nat.add (Nat.mul (Int.toNat sd) 7) (Int.toNat sd)) h)) sd h sd c d e 8 0 acc (by omega) (by omega) ha
   obtain⟨A,h1,h2⟩:=ih (sd+1) A1 (by omega) (by omega) j1
   obtain⟨g,hg⟩:=qk 8 (by omega)
   refine⟨A,h1,fun f=>?_⟩
   show qGg (qEN (f+n+1)) acc h sd c d e=_
   unfold qGg
   rw[qQ (by simpa using hq1),qQ (qAn hq0 hq1),hg,j2 g,qA]
   simp only
   rw[qAa (by omega) (by omega)]
   exact h2 f
theorem qgr (b h:List Int) (s:Int):∃ k,qEK b h s=some k /\ 0<=k:=by
 obtain⟨A,a0,a1⟩:=qga b b h s 81 0 0 (by omega) (by omega) (by omega)
 obtain⟨B,b0,b1⟩:=qgW h b h s 2 0 A (by omega) (by omega) a0
 obtain⟨g,hg⟩:=qk 81 (by omega)
 obtain⟨g2,hg2⟩:=qk 2 (by omega)
 obtain⟨w,hw⟩:=qgZ
 have e1:qEM qC 0 b 0 b h s=some (A,b,h,s):=by rw[hg];exact a1 g
 have e2:qEN qC A h 0 b h s=some (B,b,h,s):=by rw[hg2];exact b1 g2
 unfold qEK
 rw[e1,qA]
 simp only
 rw[e2,qA]
 simp only
 rw[hw,qA]
 cases hs:s==1
 ·exact⟨B,rfl,b0⟩
 ·exact⟨_,rfl,(qMG _ _ _).1⟩
end Go.Kk.Pl
namespace Go.Kk.Pl
def kd (x:Int):Int:=if x<1 \/ 31<x \/ x=13 \/ x=16 \/ x=29 then 0 else x % 16
def sd (x:Int):Int:=if kd x=0 then -1 else if x<16 then 0 else 1
theorem qTo {x:Int} (h0:0<=x) (h1:x<=31):∃ n:Fin 32,x=((n.val:Nat):Int):=⟨⟨x.toNat,by omega⟩,by simp;omega⟩
theorem qgw:∀ n:Fin 32,qAQ ((n.val:Nat):Int)=some (kd ((n.val:Nat):Int)):=by decide +kernel
theorem ql2:∀ n:Fin 32,qAK ((n.val:Nat):Int)=some (kd ((n.val:Nat):Int)):=by decide +kernel
theorem qFN (x:Int):qAQ x=some (kd x):=by
 by_cases h0:0<=x
 ·by_cases h1:x<=31
  ·obtain⟨n,rfl⟩:=qTo h0 h1
   exact qgw n
  ·unfold qAQ
   rw[qX (by simp;omega),qQ (by simp;omega),qX (by simp;omega),qX (by simp;omega)]
   unfold kd
   rw[if_pos (by omega)]
 ·unfold qAQ
  rw[qQ (by simp;omega),qX (by simp;omega),qX (by simp;omega)]
  unfold kd
  rw[if_pos (by omega)]
theorem qBn (x:Int):qAK x=some (kd x):=by
 by_cases h0:0<=x
 ·by_cases h1:x<=31
  ·obtain⟨n,rfl⟩:=qTo h0 h1
   exact ql2 n
  ·unfold qAK
   rw[qX (by simp;omega),qQ (by simp;omega)]
   unfold kd
   rw[if_pos (by omega)]
 ·unfold qAK
  rw[qQ (by simp;omega)]
  unfold kd
  rw[if_pos (by omega)]
theorem qHg (x:Int):qAy x=some (sd x):=by
 unfold qAy
 rw[qFN,qA]
 unfold sd
 by_cases h:kd x=0
 ·rw[qQ (by simp[h]),if_pos h]
 ·rw[qX (by simpa using h),if_neg h]
  by_cases h2:x<16
  ·rw[qQ (by simpa using h2),if_pos h2]
  ·rw[qX (by simpa using h2),if_neg h2]
theorem qFI:kd 0=0:=by decide
theorem qIP {x:Int} (h:kd x≠0):1<=x /\ x<=31:=by
 unfold kd at h
 split at h
 ·exact absurd rfl h
 ·omega
theorem qHS {x:Int} (h:kd x≠0):sd x=0 \/ sd x=1:=by
 unfold sd
 rw[if_neg h]
 split<;>simp
structure Clean (b:List Int):Prop where
 len:b.length=81
 ok:∀ i,i<81->b.getD i 0=0 \/ kd (b.getD i 0)≠0
def at_ (b:List Int) (q:Int):Int:=if 0<=q /\ q<81 then b.getD q.toNat 0 else 0
def put (b:List Int) (q x:Int):List Int:=if 0<=q /\ q<81 then b.set q.toNat (if kd x=0 then 0 else x) else b
theorem qLz (q:Int) (b h:List Int) (s:Int) (by_ sides:List (List Int)):qBI q b h s by_ sides=some (at_ b q):=by
 unfold qBI at_
 by_cases h0:q<0
 ·rw[qQ (by simpa using h0),if_neg (by omega)]
 ·rw[qX (by simpa using h0)]
  by_cases h1:81<=q
  ·rw[qQ (by simpa using h1),if_neg (by omega)]
  ·rw[qX (by simpa using h1),qQ (qAn (by omega) (by omega)),if_pos (by omega)]
theorem Clean.at_ {b:List Int} (hc:Clean b) (q:Int):at_ b q=0 \/ kd (at_ b q)≠0:=by
 unfold Pl.at_
 split
 ·exact hc.ok _ (by omega)
 ·exact .inl rfl
theorem Clean.put {b:List Int} (hc:Clean b) (q x:Int):Clean (put b q x):=by
 unfold Pl.put
 split
 ·rename_i hq
  refine⟨by rw[List.length_set];exact hc.len,fun i hi=>?_⟩
  by_cases hqi:q.toNat=i
  ·subst hqi
   rw[List.getD_eq_getElem?_getD,List.getElem?_set_self (by rw[hc.len];exact hi),Option.getD_some]
   split
   ·exact .inl rfl
   ·rename_i h;exact .inr h
  ·rw[List.getD_eq_getElem?_getD,List.getElem?_set_ne hqi,<- List.getD_eq_getElem?_getD]
   exact hc.ok i hi
 ·exact hc
theorem qJN {b:List Int} (hl:b.length=81) {q:Int} (hq:0<=q /\ q<81) (x p:Int):at_ (put b q x) p=if p=q then (if kd x=0 then 0 else x) else at_ b p:=by
 unfold at_ put
 rw[if_pos hq]
 by_cases hp:0<=p /\ p<81
 ·rw[if_pos hp]
  by_cases hpq:p=q
  ·subst hpq
   rw[if_pos rfl,List.getD_eq_getElem?_getD,List.getElem?_set_self (by omega),Option.getD_some]
  ·rw[if_neg hpq,if_pos hp,List.getD_eq_getElem?_getD,List.getElem?_set_ne (by omega),<- List.getD_eq_getElem?_getD]
 ·rw[if_neg hp,if_neg (fun h:p=q=>hp (by subst h;exact hq)),if_neg hp]
end Go.Kk.Pl
namespace Go.Kk.Pl
def prS (f:Nat->Bool):List Int:=[sLo f,sHi f]
theorem qKX {f g:Nat->Bool} (h:∀ i,i<81->f i=g i):prS f=prS g:=by
 obtain⟨h1,h2⟩:=qBq h
 unfold prS;rw[h1,h2]
def pcs (b:List Int) (x:Int) (i:Nat):Bool:=decide (x≠0 /\ b.getD i 0=x)
def sds (b:List Int) (s:Int) (i:Nat):Bool:=decide (sd (b.getD i 0)=s)
def qU (b:List Int):List (List Int):=(List.range 32).map fun (x:Nat)=>prS (pcs b x)
def qZ (b:List Int):List (List Int):=(List.range 2).map fun (s:Nat)=>prS (sds b s)
theorem map_set {α:Type} (G:Nat->α) (n k:Nat) (v:α):((List.range n).map G).set k v=(List.range n).map fun j=>if j=k then v else G j:=by
 apply List.ext_getElem
 ·simp
 ·intro i h1 h2
  simp only[List.length_set,List.length_map,List.length_range] at h1
  rw[List.getElem_set]
  simp only[List.getElem_map,List.getElem_range]
  by_cases h:k=i
  ·simp[h]
  ·simp[h,Ne.symm h]
theorem qNv {α:Type} (G:Nat->α) {n k:Nat} (h:k<n) (d:α):((List.range n).map G).getD k d=G k:=by
 rw[List.getD_eq_getElem?_getD,List.getElem?_map,List.getElem?_range h];rfl
theorem qMU (b:List Int) {x:Int} (h0:0<=x) (h1:x<32):(qU b).getD x.toNat []=prS (pcs b x):=by
 unfold qU
 rw[qNv _ (by omega),show ((x.toNat:Nat):Int)=x by omega]
theorem qax (b:List Int) {s:Int} (h0:0<=s) (h1:s<2):(qZ b).getD s.toNat []=prS (sds b s):=by
 unfold qZ
 rw[qNv _ (by omega),show ((s.toNat:Nat):Int)=s by omega]
theorem qGx (f:Nat->Bool):List.headD (List.take 2 (prS f)) 0=sLo f:=rfl
theorem qGy (f:Nat->Bool):List.headD (List.tail (List.take 2 (prS f))) 0=sHi f:=rfl
theorem qKY (f:Nat->Bool) (g:Nat->Bool):sLo f :: sHi f :: List.drop 2 (prS g)=prS f:=rfl
theorem qIt:sd 0 = -1:=by decide
theorem qZR {x:Int} (h:kd x=0):sd x = -1:=by unfold sd;rw[if_pos h]
theorem qFH {b:List Int} {q:Nat} (hq:q<b.length) (x:Int) (i:Nat):(b.set q x).getD i 0=if i=q then x else b.getD i 0:=by
 rw[List.getD_eq_getElem?_getD]
 by_cases h:i=q
 ·subst h;rw[List.getElem?_set_self hq,if_pos rfl];rfl
 ·rw[List.getElem?_set_ne (Ne.symm h),if_neg h,List.getD_eq_getElem?_getD]
theorem qSg {b b':List Int} {F:Nat->Bool} {x:Int} (h0:0<=x) (h:∀ j:Nat,j<32->∀ i,i<81->(if (j:Int)=x then F i else pcs b j i)=pcs b' j i):List.set (qU b) x.toNat (prS F)=qU b':=by
 unfold qU
 rw[map_set]
 apply List.map_congr_left
 intro j hj
 simp only[List.mem_range] at hj
 have h:=h j hj
 split
 ·rename_i hjx
  exact qKX fun i hi=>by rw[<- h i hi,if_pos (by omega)]
 ·rename_i hjx
  exact qKX fun i hi=>by rw[<- h i hi,if_neg (by omega)]
theorem qay {b b':List Int} {F:Nat->Bool} {x:Int} (h0:0<=x) (h:∀ j:Nat,j<2->∀ i,i<81->(if (j:Int)=x then F i else sds b j i)=sds b' j i):List.set (qZ b) x.toNat (prS F)=qZ b':=by
 unfold qZ
 rw[map_set]
 apply List.map_congr_left
 intro j hj
 simp only[List.mem_range] at hj
 have h:=h j hj
 split
 ·rename_i hjx
  exact qKX fun i hi=>by rw[<- h i hi,if_pos (by omega)]
 ·rename_i hjx
  exact qKX fun i hi=>by rw[<- h i hi,if_neg (by omega)]
section
variable {b:List Int} {q:Int} (hq0:0<=q) (hql:q.toNat<b.length)
include hq0 hql
theorem qeH (hz:b.getD q.toNat 0=0) {x:Int} (hx:1<=x):List.set (qU b) x.toNat (prS fun i=>pcs b x i||only q i)=qU (b.set q.toNat x):=by
 refine qSg (by omega) fun j hj i hi=>?_
 unfold pcs only
 rw[qFH hql,Bool.eq_iff_iff]
 by_cases hi:i=q.toNat
 ·subst hi
  rw[hz]
  split<;>simp<;>omega
 ·have:¬ (i:Int)=q:=by omega
  split
  ·rename_i hjx
   simp[this,hjx]
  ·simp
theorem qnv (hz:b.getD q.toNat 0=0) {x:Int} (hx:sd x=0 \/ sd x=1):List.set (qZ b) (sd x).toNat (prS fun i=>sds b (sd x) i||only q i)=qZ (b.set q.toNat x):=by
 refine qay (by omega) fun j hj i hi=>?_
 unfold sds only
 rw[qFH hql,Bool.eq_iff_iff]
 by_cases hi:i=q.toNat
 ·subst hi
  rw[hz,qIt]
  split<;>simp<;>omega
 ·have:¬ (i:Int)=q:=by omega
  split
  ·rename_i hjx
   simp[this,hjx]
  ·simp
theorem qeI {x:Int} (hz:b.getD q.toNat 0=x) (hx:1<=x):List.set (qU b) x.toNat (prS fun i=>pcs b x i && !only q i)=qU (b.set q.toNat 0):=by
 refine qSg (by omega) fun j hj i hi=>?_
 unfold pcs only
 rw[qFH hql,Bool.eq_iff_iff]
 by_cases hi:i=q.toNat
 ·subst hi
  rw[hz]
  split<;>simp<;>omega
 ·have:¬ (i:Int)=q:=by omega
  split
  ·rename_i hjx
   simp[this,hjx]
  ·simp
theorem qnw {x:Int} (hz:b.getD q.toNat 0=x) (hx:sd x=0 \/ sd x=1):List.set (qZ b) (sd x).toNat (prS fun i=>sds b (sd x) i && !only q i)=qZ (b.set q.toNat 0):=by
 refine qay (by omega) fun j hj i hi=>?_
 unfold sds only
 rw[qFH hql,Bool.eq_iff_iff]
 by_cases hi:i=q.toNat
 ·subst hi
  rw[hz,if_pos rfl,qIt]
  split<;>simp<;>omega
 ·have:¬ (i:Int)=q:=by omega
  split
  ·rename_i hjx
   simp[this,hjx]
  ·simp
end
theorem qWO {b:List Int} (hc:Clean b) (q x:Int) (h:List Int) (s:Int):
  qE9 q x b h s (qU b) (qZ b)=some (put b q x,h,s,qU (put b q x),qZ (put b q x)):=by
 unfold qE9 put
 by_cases h0:q<0
 ·rw[qQ (by simpa using h0),if_neg (by omega)]
 rw[qX (by simpa using h0)]
 by_cases h1:81<=q
 ·rw[qQ (by simpa using h1),if_neg (by omega)]
 rw[qX (by simpa using h1),qQ (qAn (by omega) (by omega)),if_pos (by omega)]
 simp only[qHg,qFN,qA]
 have hq81:inB q 81=true:=qAn (by omega) (by omega)
 have hb:=hc.ok q.toNat (by omega)
 have hql:q.toNat<b.length:=by rw[hc.len];omega
 have key:∀ (b:List Int),q.toNat<b.length->b.getD q.toNat 0=0->(br (kd x==0)
   (br (inB q 81) (some (List.set b q.toNat 0,h,s,qU b,qZ b)) none)
   (br (inB q 81) (br (x != 0) (br (inB x 32) (ob (qA1 (List.headD (List.take 2 (List.getD (qU b) x.toNat [])) 0) (List.headD (List.tail (List.take 2 (List.getD (qU b) x.toNat []))) 0) q) fun z=>
    br (inB x 32) (br (inB (sd x) 2) (ob (qA1 (List.headD (List.take 2 (List.getD (qZ b) (sd x).toNat [])) 0) (List.headD (List.tail (List.take 2 (List.getD (qZ b) (sd x).toNat []))) 0) q) fun y=>
     br (inB (sd x) 2) (some (List.set b q.toNat x,h,s,List.set (qU b) x.toNat (z.1 :: z.2 :: List.drop 2 (List.getD (qU b) x.toNat [])),List.set (qZ b) (sd x).toNat (y.1 :: y.2 :: List.drop 2 (List.getD (qZ b) (sd x).toNat [])))) none) none) none) none)
    (some (List.set b q.toNat x,h,s,qU b,qZ b))) none)) =
   some (b.set q.toNat (if kd x=0 then 0 else x),h,s,qU (b.set q.toNat (if kd x=0 then 0 else x)),qZ (b.set q.toNat (if kd x=0 then 0 else x))):=by
  intro b hql hz
  by_cases hk:kd x=0
  ·rw [qQ (by simpa using hk),qQ hq81,if_pos hk]
   have:b.set q.toNat 0=b:=by
    apply List.ext_getElem
    ·rw[List.length_set]
    ·intro i i1 i2
     rw[List.getElem_set]
     split
     ·rename_i hi
      rw[List.getD_eq_getElem?_getD,List.getElem?_eq_getElem hql] at hz
      subst hi
      exact hz.symm
     ·rfl
   rw[this]
  ·have hx:=qIP hk
   have hsd:=qHS hk
   have hs:inB (sd x) 2=true:=by rcases hsd with h | h<;>rw[h]<;>rfl
   rw[qX (by simpa using hk),qQ hq81,qQ (by simp;omega),qQ (qAn (by omega) (by omega)),if_neg hk,qMU b (by omega) (by omega),
    qGx,qGy,qFx,qA]
   simp only
   rw[qQ (qAn (by omega) (by omega)),qQ hs,qax b (by omega) (by omega),qGx,qGy,qFx,qA]
   simp only
   rw[qQ hs,qKY,qKY,qeH (by omega) hql hz hx.1,qnv (by omega) hql hz hsd]
 by_cases hz:b.getD q.toNat 0=0
 ·rw[qX (by simpa using hz)]
  exact key b hql hz
 ·have hkb:=hb.resolve_left hz
  have hxb:=qIP hkb
  have hsdb:=qHS hkb
  have hsb:inB (sd (b.getD q.toNat 0)) 2=true:=by rcases qHS hkb with h | h<;>rw[h]<;>rfl
  have hb32:inB (b.getD q.toNat 0) 32=true:=qAn (by omega) (by omega)
  rw[qQ (by simpa using hz),qQ hb32,qMU b (by omega) (by omega),qGx,qGy,qJF,qA]
  simp only
  rw[qQ hb32,qQ hsb,qax b (by omega) (by omega),qGx,qGy,qJF,qA]
  simp only
  rw[qQ hsb,qKY,qKY,qeI (by omega) hql rfl hxb.1,qnw (by omega) hql rfl hsdb]
  have:=key (b.set q.toNat 0) (by simpa using hql) (by rw[qFH hql,if_pos rfl])
  rw[List.set_set] at this
  simp only[List.set_set] at this
  exact this
def cl1 (x:Int):Int:=if kd x=0 then 0 else x
def cl (b:List Int):List Int:=b.map cl1
theorem qeh (b:List Int) (i:Nat):(cl b).getD i 0=cl1 (b.getD i 0):=by
 unfold cl
 rw[List.getD_eq_getElem?_getD,List.getElem?_map,List.getD_eq_getElem?_getD]
 cases b[i]? <;> rfl
theorem qSv (b:List Int):(cl b).length=b.length:=by simp[cl]
theorem qei {b:List Int} (hc:Clean b):cl b=b:=by
 apply List.ext_getElem
 ·exact qSv b
 ·intro i h1 h2
  have:=hc.ok i (by rw[<- hc.len];exact h2)
  rw[List.getD_eq_getElem?_getD,List.getElem?_eq_getElem h2] at this
  simp only[Option.getD_some] at this
  simp only[cl,List.getElem_map,cl1]
  split
  ·rename_i hk
   rcases this with h | h
   ·exact h.symm
   ·exact absurd hk h
  ·rfl
theorem qh3 {b:List Int} (hl:b.length=81) (h:List Int) (s:Int):∀ (n i:Nat),i+n=81->∀ (B:List Int),Clean B->(∀ j,j<i->B.getD j 0=cl1 (b.getD j 0))->
  ∀ f,qDX (f+n+1) b i B h s (qU B) (qZ B)=some (cl b,h,s,qU (cl b),qZ (cl b)):=by
 intro n
 induction n with
 | zero=>
   intro i hi B hB hj f
   have:B=cl b:=by
    apply List.ext_getElem
    ·rw[hB.len,qSv,hl]
    ·intro j h1 h2
     have:=hj j (by rw[hB.len] at h1;omega)
     rw[<- qeh,List.getD_eq_getElem?_getD,List.getElem?_eq_getElem h1,List.getD_eq_getElem?_getD,List.getElem?_eq_getElem h2] at this
     exact this
   subst this
   show qGA (qDX (f+0)) _ _ _ _ _ _ _=_
   unfold qGA
   rw[qX (by simp;omega)]
 | succ n ih=>
   intro i hi B hB hj f
   show qGA (qDX (f+n+1)) _ _ _ _ _ _ _=_
   unfold qGA
   rw[qQ (by simp;omega),qQ (qAn (by omega) (by omega))]
   simp only[cond_true]
   rw[qWO hB,qA]
   simp only
   rw[qAa (by omega) (by omega)]
   refine ih (i+1) (by omega) _ (hB.put _ _) (fun j hj'=>?_) f
   unfold put
   rw[if_pos (by omega),qFH (by rw[hB.len];omega)]
   by_cases hji:j=i
   ·subst hji
    rw[if_pos (by simp)]
    rfl
   ·rw[if_neg (by simp;exact hji),hj j (by omega)]
theorem qej:Clean (List.replicate 81 0):=⟨by simp,fun i hi=>.inl (by rw[List.getD_eq_getElem?_getD,List.getElem?_replicate,if_pos hi];rfl)⟩
theorem qeG:qU (List.replicate 81 0)=List.replicate 32 [0,0]:=by decide +kernel
theorem qnu:qZ (List.replicate 81 0)=[[0,0],[0,0]]:=by decide +kernel
theorem qh2 {b:List Int} (hl:b.length=81) (h:List Int) (s:Int):qHz b h s=some (cl b,h,s,qU (cl b),qZ (cl b)):=by
 have hz:=qh3 hl h s 81 0 (by omega) _ qej (fun j hj=>absurd hj (by omega))
 obtain⟨g,hg⟩:=qk 81 (by omega)
 have:=hz g
 rw[<- hg,qeG,qnu] at this
 unfold qHz
 show ob (qDX qC b 0 (List.replicate 81 0) h s (List.replicate 32 [0,0]) [[0,0],[0,0]]) _=_
 rw[show qDX qC b 0 (List.replicate 81 0) h s (List.replicate 32 [0,0]) [[0,0],[0,0]]=_ from this,qA]
end Go.Kk.Pl
namespace Go.Kk.Pl
section
variable {α:Type} {x y:α}
theorem qi {a b:Int} (h:a<b):br (decide (a<b)) x y=x:=qQ (by simpa using h)
theorem qd {a b:Int} (h:¬ a<b):br (decide (a<b)) x y=y:=qX (by simpa using h)
theorem qJP {a b:Int} (h:a<=b):br (decide (a<=b)) x y=x:=qQ (by simpa using h)
theorem qJQ {a b:Int} (h:¬ a<=b):br (decide (a<=b)) x y=y:=qX (by simpa using h)
theorem qCP {a b:Int} (h:a>b):br (decide (a>b)) x y=x:=qQ (by simpa using h)
theorem qCC {a b:Int} (h:¬ a>b):br (decide (a>b)) x y=y:=qX (by simpa using h)
theorem qCZ {a b:Int} (h:a >= b):br (decide (a >= b)) x y=x:=qQ (by simpa using h)
theorem qCB {a b:Int} (h:¬ a >= b):br (decide (a >= b)) x y=y:=qX (by simpa using h)
theorem qm {a b:Int} (h:a=b):br (a==b) x y=x:=qQ (by simpa using h)
theorem ql {a b:Int} (h:¬ a=b):br (a==b) x y=y:=qX (by simpa using h)
theorem q7 {a b:Int} (h:¬ a=b):br (a != b) x y=x:=qQ (by simpa using h)
theorem q9 {a b:Int} (h:a=b):br (a != b) x y=y:=qX (by simpa using h)
theorem qn {a:Int} {n:Nat} (h0:0<=a) (h1:a<n):br (inB a n) x y=x:=qQ (qAn h0 h1)
theorem b_t:br true x y=x:=rfl
theorem b_f:br false x y=y:=rfl
end
theorem w_s {n:Int} (h1:-1000000000<=n) (h2:n<=1000000000):IntKind.wrap .i64 n=n:=qAa h1 h2
theorem w_8 {n:Int} (h1:-128<=n) (h2:n<=127):IntKind.wrap .i8 n=n:=qBH h1 h2
theorem c_8 (n:Int):conv IntKind.i8 IntKind.i64 n=n:=rfl
theorem tn (n:Nat):Int.toNat (n:Int)=n:=rfl
theorem any_cons (p:Nat->Bool) (i n:Nat):(List.range' i (n+1)).any p=(p i||(List.range' (i+1) n).any p):=by rw[List.range'_succ];rfl
theorem qWT:List.range 81=List.range' 0 81:=by rw[List.range_eq_range']
theorem qF2 {b:List Int} {i:Nat} (h:i<b.length):b.getD i 0=b[i]:=by rw[List.getD_eq_getElem?_getD,List.getElem?_eq_getElem h];rfl
end Go.Kk.Pl
namespace Go.Kk.Pl
def rw_ (x:Int):Int:=if x<1 \/ 15<x \/ x=13 then 0 else if 8<x then x - 8 else x
theorem qZE (x:Int):qG5 x=some (rw_ x):=by
 unfold qG5 rw_
 by_cases h1:x<1
 ·rw[qQ (by simpa using h1),if_pos (by omega)]
 rw[qX (by simpa using h1)]
 by_cases h2:15<x
 ·rw[qQ (by simpa using h2),if_pos (by omega)]
 rw[qX (by simpa using h2)]
 by_cases h3:x=13
 ·rw[qQ (by simpa using h3),if_pos (by omega)]
 rw[qX (by simpa using h3),if_neg (by omega)]
 by_cases h4:8<x
 ·rw[qQ (by simpa using h4),if_pos h4,qAa (by omega) (by omega)]
 ·rw[qX (by simpa using h4),if_neg h4]
def cnt (l:List Int) (k:Int):Nat:=l.countP fun x=>rw_ (kd x)==k
theorem qet (b h:List Int) (s k:Int) (hl:b.length=81):∀ (n i:Nat),i+n=81->∀ acc:Int,0<=acc->acc<=i->∀ f,
  qEd (f+n+1) k acc i b h s=some (k,acc+cnt (b.drop i) k,b,h,s):=by
 intro n
 induction n with
 | zero=>
   intro i hi acc _ _ f
   show qHA (qEd (f+0)) _ _ _ _ _ _=_
   unfold qHA
   rw[qX (by simp;omega),List.drop_eq_nil_of_le (by omega)]
   simp[cnt]
 | succ n ih=>
   intro i hi acc ha0 ha1 f
   show qHA (qEd (f+n+1)) _ _ _ _ _ _=_
   unfold qHA
   have hz:Int.toNat (i:Int)=i:=by simp
   rw[qQ (by simp;omega),qQ (qAn (by omega) (by omega)),hz,qAa (by omega) (by omega),qAa (by omega) (by omega)]
   show ob (qAK (List.getD b i 0)) _=_
   rw[qBn,qA,qZE,qA]
   have hd:b.drop i=b.getD i 0 :: b.drop (i+1):=by
    rw[List.drop_eq_getElem_cons (by omega),List.getD_eq_getElem?_getD,List.getElem?_eq_getElem (by omega)]
    rfl
   rw[hd]
   unfold cnt
   rw[List.countP_cons]
   cases hb:rw_ (kd (b.getD i 0))==k with
   | true=>
     rw[qQ rfl]
     refine (ih (i+1) (by omega) (acc+1) (by omega) (by omega) f).trans ?_
     simp[cnt];omega
   | false=>
     rw[qX rfl]
     refine (ih (i+1) (by omega) acc (by omega) (by omega) f).trans ?_
     simp[cnt]
def hd_ (h:List Int) (s k:Int):Int:=h.getD (s.toNat*8+k.toNat) 0
def qAq (h:List Int):Prop:=∀ i,-128<=h.getD i 0 /\ h.getD i 0<=127
theorem qen {b:List Int} (hl:b.length=81) (k:Int):cnt b k<=81:=by rw[<- hl];exact List.countP_le_length
theorem qS1 {b h:List Int} (hl:b.length=81) (hf:qAq h) (s k:Int) (h0:0<=k) (h1:k<8):qIi b h s k=some (cnt b k+hd_ h 0 k+hd_ h 1 k):=by
 obtain⟨g,hg⟩:=qk 81 (by omega)
 have hc:=qet b h s k hl 81 0 (by omega) 0 (by omega) (by omega) g
 rw[<- hg] at hc
 have hc:qEd qC k 0 0 b h s=some (k,(0:Int)+(cnt b k:Int),b,h,s):=hc
 unfold qIi
 rw[hc,qA]
 simp only
 rw[qQ (qAn h0 (by omega)),qQ (qAn h0 (by omega))]
 have e1:=hf (0+k.toNat)
 have e2:=hf (8+k.toNat)
 have e3:=qen hl k
 have c1:conv .i8 .i64 (List.getD h (0+k.toNat) 0)=List.getD h (0+k.toNat) 0:=rfl
 have c2:conv .i8 .i64 (List.getD h (8+k.toNat) 0)=List.getD h (8+k.toNat) 0:=rfl
 rw[c1,c2,qAa (n:=0+(cnt b k:Int)+_) (by omega) (by omega),qAa (by omega) (by omega)]
 unfold hd_
 simp
end Go.Kk.Pl
namespace Go.Kk.Pl
theorem qeb {b:List Int} (hc:Clean b) (h:List Int) (s:Int):∀ (n i:Nat),i+n=81->∀ f,qBm (f+n+1) i b h s=some (.inr (b,h,s)):=by
 intro n
 induction n with
 | zero=>
   intro i hi f
   show qDB (qBm (f+0)) _ _ _ _=_
   unfold qDB
   rw[qX (by simp;omega)]
 | succ n ih=>
   intro i hi f
   show qDB (qBm (f+n+1)) _ _ _ _=_
   unfold qDB
   have hz:Int.toNat (i:Int)=i:=by simp
   have hin:inB (i:Int) 81=true:=qAn (by omega) (by omega)
   rw[qQ (by simp;omega),qQ hin,hz,qAa (by omega) (by omega)]
   by_cases h0:b.getD i 0=0
   ·rw[qX (by simpa using h0)]
    exact ih (i+1) (by omega) f
   ·rw[qQ (by simpa using h0),qQ hin]
    show ob (qAK (List.getD b i 0)) _=_
    have hk:=(hc.ok i (by omega)).resolve_left h0
    rw[qBn,qA,qX (by simpa using hk)]
    exact ih (i+1) (by omega) f
theorem qeT (b h:List Int) (s k:Int) (k0:0<=k) (k1:k<8):∀ (n i:Nat),i+n=2->
  (∀ f,qBN (f+n+1) k i b h s=some (.inl (55,k,b,h,s))) \/
  ((∀ f,qBN (f+n+1) k i b h s=some (.inr (k,b,h,s))) /\ ∀ j:Nat,i<=j->j<2->0<=hd_ h j k):=by
 intro n
 induction n with
 | zero=>
   intro i hi
   refine .inr ⟨fun f=>?_,fun j _ _=>by omega⟩
   show qC7 (qBN (f+0)) _ _ _ _ _=_
   unfold qC7
   rw[qX (by simp;omega)]
 | succ n ih=>
   intro i hi
   have e:∀ f,qBN (f+(n+1)+1) k i b h s=qC7 (qBN (f+n+1)) k i b h s:=fun f=>rfl
   have hz:Int.toNat (i:Int)=i:=by simp
   have hd:hd_ h (i:Int) k=List.getD h (i*8+k.toNat) 0:=by unfold hd_;rw[hz]
   simp only[e]
   unfold qC7
   simp only[qQ (show decide ((i:Int)<2)=true by simp;omega),qQ (show inB (i:Int) 2=true from qAn (by omega) (by omega)),qQ (show inB k 8=true from qAn k0 (by omega)),hz,
    qAa (n:=(i:Int)+1) (by omega) (by omega)]
   by_cases hlt:List.getD h (i*8+k.toNat) 0<0
   ·exact .inl fun f=>qQ (by simpa using hlt)
   ·simp only[qX (show decide (List.getD h (i*8+k.toNat) 0<0)=false by simpa using hlt)]
    have next:(∀ f,qBN (f+n+1) k ((i:Int)+1) b h s=some (.inl (55,k,b,h,s))) \/
     ((∀ f,qBN (f+n+1) k ((i:Int)+1) b h s=some (.inr (k,b,h,s))) /\ ∀ j:Nat,i<=j->j<2->0<=hd_ h j k):=by
     rcases ih (i+1) (by omega) with h1 | ⟨h1,h2⟩
     ·exact .inl h1
     ·refine .inr ⟨h1,fun j hj hj2=>?_⟩
      by_cases hji:j=i
      ·subst hji;rw[hd];omega
      ·exact h2 j (by omega) hj2
    cases hk:k==0 with
    | true=>
      simp only[qQ rfl]
      cases hb:List.getD h (i*8+k.toNat) 0 != 0 with
      | true=>exact .inl fun f=>rfl
      | false=>exact next
    | false=>exact next
theorem qed (b h:List Int) (s:Int):∀ (n i:Nat),i+n=8->
  (∀ f,qBE (f+n+1) i b h s=some (.inl (55,b,h,s))) \/
  ((∀ f,qBE (f+n+1) i b h s=some (.inr (b,h,s))) /\ ∀ k:Nat,i<=k->k<8->∀ j:Nat,j<2->0<=hd_ h j k):=by
 intro n
 induction n with
 | zero=>
   intro i hi
   refine .inr ⟨fun f=>?_,fun j _ _=>by omega⟩
   show qDC (qBE (f+0)) _ _ _ _=_
   unfold qDC
   rw[qX (by simp;omega)]
 | succ n ih=>
   intro i hi
   have e:∀ f,qBE (f+(n+1)+1) i b h s=qDC (qBE (f+n+1)) i b h s:=fun f=>rfl
   simp only[e]
   unfold qDC
   simp only[qQ (show decide ((i:Int)<8)=true by simp;omega)]
   obtain⟨g,hg⟩:=qk 2 (by omega)
   rcases qeT b h s i (by omega) (by omega) 2 0 (by omega) with h1 | ⟨h1,h2⟩
   ·refine .inl fun f=>?_
    have h1:=h1 g
    rw[<- hg] at h1
    have h1:qBN qC i 0 b h s=some (.inl (55,(i:Int),b,h,s)):=h1
    rw[h1];rfl
   ·have h1:=h1 g
    rw[<- hg] at h1
    have h1:qBN qC i 0 b h s=some (.inr ((i:Int),b,h,s)):=h1
    simp only[h1,qA,qBs,qAa (n:=(i:Int)+1) (by omega) (by omega)]
    rcases ih (i+1) (by omega) with h3 | ⟨h3,h4⟩
    ·exact .inl h3
    ·refine .inr ⟨h3,fun k hk hk8 j hj=>?_⟩
     by_cases hki:k=i
     ·subst hki;exact h2 j (by omega) hj
     ·exact h4 k (by omega) hk8 j hj
theorem qpJ {k:Nat} (h1:1<=k) (h8:k<8):∃ t,qIf (k:Int)=some t /\ t<=18:=by
 have:k=1 \/ k=2 \/ k=3 \/ k=4 \/ k=5 \/ k=6 \/ k=7:=by omega
 rcases this with rfl | rfl | rfl | rfl | rfl | rfl | rfl<;>exact⟨_,rfl,by decide⟩
theorem qeV {b h:List Int} (hl:b.length=81) (hf:qAq h) (s:Int):∀ (n i:Nat),i+n=8->1<=i->
  (∀ f,qBB (f+n+1) i b h s=some (.inl (51,b,h,s))) \/
  ((∀ f,qBB (f+n+1) i b h s=some (.inr (b,h,s))) /\ ∀ k:Nat,i<=k->k<8->cnt b k+hd_ h 0 k+hd_ h 1 k<=18):=by
 intro n
 induction n with
 | zero=>
   intro i hi _
   refine .inr ⟨fun f=>?_,fun j _ _=>by omega⟩
   show qC8 (qBB (f+0)) _ _ _ _=_
   unfold qC8
   rw[qX (by simp;omega)]
 | succ n ih=>
   intro i hi hi1
   have e:∀ f,qBB (f+(n+1)+1) i b h s=qC8 (qBB (f+n+1)) i b h s:=fun f=>rfl
   simp only[e]
   unfold qC8
   obtain⟨t,ht,ht18⟩:=qpJ hi1 (by omega)
   simp only[qQ (show decide ((i:Int)<8)=true by simp;omega),qS1 hl hf s i (by omega) (by omega),qA,ht,qAa (n:=(i:Int)+1) (by omega) (by omega)]
   by_cases hgt:(cnt b i:Int)+hd_ h 0 i+hd_ h 1 i>t
   ·exact .inl fun f=>qQ (by simpa using hgt)
   ·simp only[qX (show decide ((cnt b i:Int)+hd_ h 0 i+hd_ h 1 i>t)=false by simpa using hgt)]
    rcases ih (i+1) (by omega) (by omega) with h3 | ⟨h3,h4⟩
    ·exact .inl h3
    ·refine .inr ⟨h3,fun k hk hk8=>?_⟩
     by_cases hki:k=i
     ·subst hki;omega
     ·exact h4 k (by omega) hk8
theorem ql6 (x:Int):∃ v,qA0 x=some v:=by
 unfold qA0
 rw[qBn,qA]
 repeat first | exact⟨_,rfl⟩ | apply qGD
theorem ql1 (x q:Int):∃ v,qCm x q=some v:=by
 unfold qCm
 repeat first | exact⟨_,rfl⟩ | apply qGD
theorem qlz (x q:Int):∃ v,qCl x q=some v:=by
 unfold qCl
 refine qFS (ql6 _) fun _=>qFS (ql1 _ _) fun _=>qFS ⟨_,qBn _⟩ fun _=>?_
 repeat first | exact⟨_,rfl⟩ | apply qGD
theorem qeX (b h:List Int) (s:Int):∀ (n i:Nat),i+n=81->
  (∀ f,qBC (f+n+1) i b h s=some (.inl (52,b,h,s))) \/ (∀ f,qBC (f+n+1) i b h s=some (.inr (b,h,s))):=by
 intro n
 induction n with
 | zero=>
   intro i hi
   refine .inr fun f=>?_
   show qC9 (qBC (f+0)) _ _ _ _=_
   unfold qC9
   rw[qX (by simp;omega)]
 | succ n ih=>
   intro i hi
   have e:∀ f,qBC (f+(n+1)+1) i b h s=qC9 (qBC (f+n+1)) i b h s:=fun f=>rfl
   simp only[e]
   unfold qC9
   obtain⟨v,hv⟩:=qlz (conv .i8 .i64 (List.getD b (Int.toNat (i:Int)) 0)) i
   simp only[qQ (show decide ((i:Int)<81)=true by simp;omega),qQ (show inB (i:Int) 81=true from qAn (by omega) (by omega)),hv,qA,qAa (n:=(i:Int)+1) (by omega) (by omega)]
   cases v with
   | true=>exact .inl fun f=>rfl
   | false=>exact ih (i+1) (by omega)
theorem qio (b h:List Int) (s k q:Int) (q0:0<=q) (q1:q<9):∀ (n i:Nat),i+n=9->∀ acc,∃ v,∀ f,qCJ (f+n+1) k q acc i b h s=some v:=by
 intro n
 induction n with
 | zero=>
   intro i hi acc
   refine⟨acc,fun f=>?_⟩
   show qDE (qCJ (f+0)) _ _ _ _ _ _ _=_
   unfold qDE
   rw[qX (by simp;omega)]
 | succ n ih=>
   intro i hi acc
   have e:∀ f,qCJ (f+(n+1)+1) k q acc i b h s=qDE (qCJ (f+n+1)) k q acc i b h s:=fun f=>rfl
   simp only[e]
   unfold qDE
   simp only[qQ (show decide ((i:Int)<9)=true by simp;omega),qAa (n:=9*q) (by omega) (by omega),qAa (n:=9*q+(i:Int)) (by omega) (by omega),
    qQ (show inB (9*q+(i:Int)) 81=true from qAn (by omega) (by omega)),qAa (n:=(i:Int)+1) (by omega) (by omega)]
   cases conv IntKind.i8 IntKind.i64 (List.getD b (Int.toNat (9*q+↑i)) 0)==k with
   | true=>exact ih (i+1) (by omega) _
   | false=>exact ih (i+1) (by omega) _
theorem qOC (b h:List Int) (s k q:Int) (q0:0<=q) (q1:q<9):∃ v,qDD b h s k q=some v:=by
 obtain⟨g,hg⟩:=qk 9 (by omega)
 obtain⟨v,hv⟩:=qio b h s k q q0 q1 9 0 (by omega) 0
 have hv:=hv g
 rw[<- hg] at hv
 have hv:qCJ qC k q 0 0 b h s=some v:=hv
 unfold qDD
 rw[hv]
 exact⟨_,rfl⟩
theorem qcx (b h:List Int) (s k:Int):∀ (n i:Nat),i+n=9->∀ acc,∃ v,∀ f,qCK (f+n+1) k acc i b h s=some v:=by
 intro n
 induction n with
 | zero=>
   intro i hi acc
   refine⟨acc,fun f=>?_⟩
   show qDF (qCK (f+0)) _ _ _ _ _ _=_
   unfold qDF
   rw[qX (by simp;omega)]
 | succ n ih=>
   intro i hi acc
   have e:∀ f,qCK (f+(n+1)+1) k acc i b h s=qDF (qCK (f+n+1)) k acc i b h s:=fun f=>rfl
   simp only[e]
   unfold qDF
   obtain⟨v,hv⟩:=qOC b h s k i (by omega) (by omega)
   simp only[qQ (show decide ((i:Int)<9)=true by simp;omega),hv,qA,qAa (n:=(i:Int)+1) (by omega) (by omega)]
   exact ih (i+1) (by omega) _
theorem qRh (b h:List Int) (s k:Int):∃ v,qB2 b h s k=some v:=by
 obtain⟨g,hg⟩:=qk 9 (by omega)
 obtain⟨v,hv⟩:=qcx b h s k 9 0 (by omega) 0
 have hv:=hv g
 rw[<- hg] at hv
 have hv:qCK qC k 0 0 b h s=some v:=hv
 unfold qB2
 rw[hv]
 exact⟨_,rfl⟩
theorem qeZ (b h:List Int) (s:Int):∀ (n i:Nat),i+n=9->
  (∀ f,qBD (f+n+1) i b h s=some (.inl 53)) \/ (∀ f,qBD (f+n+1) i b h s=some (.inr ())):=by
 intro n
 induction n with
 | zero=>
   intro i hi
   refine .inr fun f=>?_
   show qDA (qBD (f+0)) _ _ _ _=_
   unfold qDA
   rw[qX (by simp;omega)]
 | succ n ih=>
   intro i hi
   have e:∀ f,qBD (f+(n+1)+1) i b h s=qDA (qBD (f+n+1)) i b h s:=fun f=>rfl
   simp only[e]
   unfold qDA
   obtain⟨v,hv⟩:=qOC b h s 1 i (by omega) (by omega)
   obtain⟨v2,hv2⟩:=qOC b h s 17 i (by omega) (by omega)
   simp only[qQ (show decide ((i:Int)<9)=true by simp;omega),hv,hv2,qA,qAa (n:=(i:Int)+1) (by omega) (by omega)]
   cases decide (v>1) with
   | true=>exact .inl fun f=>rfl
   | false=>
     cases decide (v2>1) with
     | true=>exact .inl fun f=>rfl
     | false=>exact ih (i+1) (by omega)
structure Sound (b h:List Int) (s:Int):Prop where
 clean:Clean b
 side:s=0 \/ s=1
 hands:∀ k,0<=k->k<8->0<=hd_ h 0 k /\ 0<=hd_ h 1 k
 counts:∀ k,1<=k->k<8->cnt b k+hd_ h 0 k+hd_ h 1 k<=18
theorem qeS {b h:List Int} (hc:Clean b) (hf:qAq h) (s:Int):∃ v,qEc b h s=some v /\ (v=0->Sound b h s):=by
 obtain⟨g81,hg81⟩:=qk 81 (by omega)
 obtain⟨g8,hg8⟩:=qk 8 (by omega)
 obtain⟨g7,hg7⟩:=qk 7 (by omega)
 obtain⟨g9,hg9⟩:=qk 9 (by omega)
 have c4:=qeb hc h s 81 0 (by omega) g81
 rw[<- hg81] at c4
 have c4:qBm qC 0 b h s=some (.inr (b,h,s)):=c4
 obtain⟨a1,ha1⟩:=qRh b h s 8
 obtain⟨a2,ha2⟩:=qRh b h s 24
 by_cases hs:s=0 \/ s=1
 ·have e : ∃ v,(ob (qBm qC 0 b h s) fun t3_2=>
    sw t3_2 (fun (a3_0,_,_,_)=>some (a3_0))
     (fun (a3_0,a3_1,a3_2)=>
     ob (qBE qC 0 a3_0 a3_1 a3_2) fun t6_2=>
     sw t6_2 (fun (a6_0,_,_,_)=>
      some (a6_0))
      (fun (a6_0,a6_1,a6_2)=>
      ob (qB2 a6_0 a6_1 a6_2 8) fun a9=>
      br (a9 != 1)
       (some (50))
       (ob (qB2 a6_0 a6_1 a6_2 24) fun a10=>
       br (a10 != 1)
        (some (50))
        (ob (qBB qC 1 a6_0 a6_1 a6_2) fun t11_2=>
        sw t11_2 (fun (a11_0,_,_,_)=>
         some (a11_0))
         (fun (a11_0,a11_1,a11_2)=>
         ob (qBC qC 0 a11_0 a11_1 a11_2) fun t14_2=>
         sw t14_2 (fun (a14_0,_,_,_)=>
          some (a14_0))
          (fun (a14_0,a14_1,a14_2)=>
          ob (qBD qC 0 a14_0 a14_1 a14_2) fun t17_2=>
          sw t17_2 (fun a17=>
           some (a17))
           (fun _=>
           some (0)))))))):Option Int)=some v /\ (v=0->Sound b h s):=by
   rw[c4,qA,qBs]
   simp only
   rcases qed b h s 8 0 (by omega) with c9 | ⟨c9,hands⟩
   ·have c9:=c9 g8
    rw[<- hg8] at c9
    have c9:qBE qC 0 b h s=some (.inl (55,b,h,s)):=c9
    rw[c9]
    exact⟨55,rfl,fun h=>by cases h⟩
   have c9:=c9 g8
   rw[<- hg8] at c9
   have c9:qBE qC 0 b h s=some (.inr (b,h,s)):=c9
   rw[c9,qA,qBs]
   simp only
   rw[ha1,qA,ha2]
   cases a1 != 1 with
   | true=>exact⟨50,rfl,fun h=>by cases h⟩
   | false=>
   rw[qX rfl,qA]
   cases a2 != 1 with
   | true=>exact⟨50,rfl,fun h=>by cases h⟩
   | false=>
   rw[qX rfl]
   rcases qeV hc.len hf s 7 1 (by omega) (by omega) with c20 | ⟨c20,counts⟩
   ·have c20:=c20 g7
    rw[<- hg7] at c20
    have c20:qBB qC 1 b h s=some (.inl (51,b,h,s)):=c20
    rw[c20]
    exact⟨51,rfl,fun h=>by cases h⟩
   have c20:=c20 g7
   rw[<- hg7] at c20
   have c20:qBB qC 1 b h s=some (.inr (b,h,s)):=c20
   rw[c20,qA,qBs]
   simp only
   rcases qeX b h s 81 0 (by omega) with c25 | c25
   ·have c25:=c25 g81
    rw[<- hg81] at c25
    have c25:qBC qC 0 b h s=some (.inl (52,b,h,s)):=c25
    rw[c25]
    exact⟨52,rfl,fun h=>by cases h⟩
   have c25:=c25 g81
   rw[<- hg81] at c25
   have c25:qBC qC 0 b h s=some (.inr (b,h,s)):=c25
   rw[c25,qA,qBs]
   simp only
   rcases qeZ b h s 9 0 (by omega) with c30 | c30
   ·have c30:=c30 g9
    rw[<- hg9] at c30
    have c30:qBD qC 0 b h s=some (.inl 53):=c30
    rw[c30]
    exact⟨53,rfl,fun h=>by cases h⟩
   have c30:=c30 g9
   rw[<- hg9] at c30
   have c30:qBD qC 0 b h s=some (.inr ()):=c30
   rw[c30]
   refine⟨0,rfl,fun _=>⟨hc,hs,fun k k0 k8=>?_,fun k k0 k8=>?_⟩⟩
   ·have e:k=(k.toNat:Int):=by omega
    rw[e]
    exact⟨hands k.toNat (by omega) (by omega) 0 (by omega),hands k.toNat (by omega) (by omega) 1 (by omega)⟩
   ·have e:k=(k.toNat:Int):=by omega
    rw[e]
    exact counts k.toNat (by omega) (by omega)
  unfold qEc
  rcases hs with rfl | rfl
  ·rw[qX (by rfl)];exact e
  ·rw[qQ (by rfl),qX (by rfl)];exact e
 ·refine⟨1,?_,fun h=>by cases h⟩
  unfold qEc
  rw[qQ (by simp;omega),qQ (by simp;omega)]
end Go.Kk.Pl
namespace Go.Kk.Pl
def qCT (s:Int) (q:Nat):Int:=if s=0 then ((q % 9:Nat):Int) else if s=1 then 8 - ((q % 9:Nat):Int) else -1
def qBR (x:Int) (q:Nat):Bool:=decide (((kd x=1 \/ kd x=2) /\ qCT (sd x) q=0) \/ (kd x=3 /\ (qCT (sd x) q=0 \/ qCT (sd x) q=1)))
def bsP (b:List Int) (i:Nat):Bool:=decide (b.getD i 0≠0 /\ kd (b.getD i 0)=0)
def bsH (h:List Int) (k s:Nat):Bool:=decide (h.getD (s*8+k) 0<0 \/ (k=0 /\ h.getD (s*8+k) 0≠0))
def nP (b:List Int) (x:Int):Nat:=(List.range 81).countP fun i=>b.getD i 0==x
def nF (b:List Int) (x:Int) (f:Nat):Nat:=(List.range 9).countP fun r=>b.getD (9*f+r) 0==x
def qRF (k:Int):Int:=if k=1 then 18 else if k=2 \/ k=3 \/ k=4 \/ k=5 then 4 else if k=6 \/ k=7 \/ k=8 then 2 else 0
def qDi (b h:List Int) (k:Nat):Bool:=decide (qRF k<cnt b k+hd_ h 0 k+hd_ h 1 k)
def qCW (b:List Int) (f:Nat):Bool:=decide (1<nF b 1 f)||decide (1<nF b 17 f)
def qA6 (b h:List Int) (s:Int):Int:=
 if ¬ (s=0 \/ s=1) then 1
 else if (List.range' 0 81).any (bsP b) then 55
 else if (List.range' 0 8).any (fun k=>(List.range' 0 2).any (bsH h k)) then 55
 else if ¬ (nP b 8=1 /\ nP b 24=1) then 50
 else if (List.range' 1 7).any (qDi b h) then 51
 else if (List.range' 0 81).any (fun i=>qBR (b.getD i 0) i) then 52
 else if (List.range' 0 9).any (qCW b) then 53
 else 0
theorem qDp (x:Int):qA0 x=some (sd x):=by
 unfold qA0
 rw[qBn,qA]
 unfold sd
 by_cases h:kd x=0
 ·rw[qm h,if_pos h]
 ·obtain⟨h1,h2⟩:=qIP h
  rw[ql h,if_neg h]
  by_cases h3:x<16
  ·rw[if_pos h3,Int.tdiv_eq_ediv_of_nonneg (by omega)]
   congr 1
   rw[w_s (by omega) (by omega)]
   omega
  ·rw[if_neg h3,Int.tdiv_eq_ediv_of_nonneg (by omega)]
   congr 1
   rw[w_s (by omega) (by omega)]
   omega
theorem qJA (q:Nat):Int.tmod (q:Int) 9=((q % 9:Nat):Int):=by
 rw[Int.tmod_eq_emod_of_nonneg (by omega)];omega
theorem qZD {s:Int} (hs:s = -1 \/ s=0 \/ s=1) {q:Nat} (hq:q<81):qCm s q=some (qCT s q):=by
 unfold qCm qCT
 rcases hs with rfl | rfl | rfl
 ·simp (disch:=omega) only[qd,qi]
  simp
 ·simp (disch:=omega) only[qd,qm,qJA]
  simp
 ·simp (disch:=omega) only[qd,ql,qJA,w_s]
  simp
theorem qFg (x:Int):sd x = -1 \/ sd x=0 \/ sd x=1:=by
 unfold sd
 split
 ·exact .inl rfl
 ·split
  ·exact .inr (.inl rfl)
  ·exact .inr (.inr rfl)
theorem ql0 (x:Int) {q:Nat} (hq:q<81):qCl x q=some (qBR x q):=by
 unfold qCl
 rw[qDp,qA,qZD (qFg x) hq,qA,qBn,qA]
 unfold qBR
 generalize kd x=k
 generalize qCT (sd x) q=n
 simp only[qH2,beq_iff_eq]
 repeat' split
 all_goals first
  | (rw[Option.some.injEq,Bool.eq_iff_iff];simp;omega)
  | (simp;omega)
theorem qec (b h:List Int) (s:Int):∀ (n i:Nat),i+n=81->∀ f,qBm (f+n+1) i b h s=some (if (List.range' i n).any (bsP b) then .inl (55,b,h,s) else .inr (b,h,s)):=by
 intro n
 induction n with
 | zero=>
   intro i hi f
   show qDB (qBm (f+0)) _ _ _ _=_
   unfold qDB
   rw[qd (by omega)]
   rfl
 | succ n ih=>
   intro i hi f
   show qDB (qBm (f+n+1)) _ _ _ _=_
   unfold qDB
   simp (disch:=omega) only[qi,qn,c_8,tn,qBn,qA,w_s,any_cons]
   have:=ih (i+1) (by omega) f
   by_cases h0:b.getD i 0=0
   ·rw[q9 h0,show bsP b i=false by unfold bsP;simp only[h0];rfl,Bool.false_or]
    exact this
   ·rw[q7 h0]
    by_cases hk:kd (b.getD i 0)=0
    ·rw[qm hk,show bsP b i=true by unfold bsP;simp only[hk,decide_eq_true_eq];exact⟨h0,trivial⟩]
     rfl
    ·rw[ql hk,show bsP b i=false by unfold bsP;rw[decide_eq_false_iff_not];omega,Bool.false_or]
     exact this
theorem qeU (b h:List Int) (s:Int) (k:Nat) (hk:k<8):∀ (n i:Nat),i+n=2->∀ f,qBN (f+n+1) k i b h s=some (if (List.range' i n).any (bsH h k) then .inl (55,k,b,h,s) else .inr (k,b,h,s)):=by
 intro n
 induction n with
 | zero=>
   intro i hi f
   show qC7 (qBN (f+0)) _ _ _ _ _=_
   unfold qC7
   rw[qd (by omega)]
   rfl
 | succ n ih=>
   intro i hi f
   show qC7 (qBN (f+n+1)) _ _ _ _ _=_
   unfold qC7
   simp (disch:=omega) only[qi,qn,tn,w_s,any_cons]
   have:=ih (i+1) (by omega) f
   by_cases h0:h.getD (i*8+k) 0<0
   ·rw[qQ (by simpa using h0),show bsH h k i=true by unfold bsH;simp only[h0,true_or,decide_true]]
    rfl
   ·rw[qX (by simpa using h0)]
    by_cases hk0:k=0
    ·rw[qm (by omega)]
     by_cases h1:h.getD (i*8+k) 0=0
     ·rw[q9 h1,show bsH h k i=false by unfold bsH;rw[h1];simp,Bool.false_or]
      exact this
     ·rw[q7 h1,show bsH h k i=true by unfold bsH;simp only[decide_eq_true_eq];exact .inr ⟨hk0,h1⟩]
      rfl
    ·rw[ql (by omega),show bsH h k i=false by unfold bsH;rw[decide_eq_false_iff_not];omega,Bool.false_or]
     exact this
theorem qee (b h:List Int) (s:Int):∀ (n i:Nat),i+n=8->∀ f,qBE (f+n+1) i b h s=some (if (List.range' i n).any (fun k=>(List.range' 0 2).any (bsH h k)) then .inl (55,b,h,s) else .inr (b,h,s)):=by
 intro n
 induction n with
 | zero=>
   intro i hi f
   show qDC (qBE (f+0)) _ _ _ _=_
   unfold qDC
   rw[qd (by omega)]
   rfl
 | succ n ih=>
   intro i hi f
   show qDC (qBE (f+n+1)) _ _ _ _=_
   unfold qDC
   obtain⟨g,hg⟩:=qk 2 (by omega)
   have h12:=qeU b h s i (by omega) 2 0 (by omega) g
   rw[<- hg] at h12
   have h12:qBN qC i 0 b h s=_:=h12
   rw[qi (by omega),h12,qA,any_cons (fun k=>(List.range' 0 2).any (bsH h k)) i n]
   have:=ih (i+1) (by omega) f
   cases hb:(List.range' 0 2).any (bsH h i) with
   | true=>rfl
   | false=>
     rw[Bool.false_or,if_neg (by decide),qBs]
     simp only
     rw[w_s (by omega) (by omega)]
     exact this
theorem ql8:∀ k:Fin 9,qIf ((k.val:Nat):Int)=some (qRF ((k.val:Nat):Int)):=by decide +kernel
theorem qeW {b h:List Int} (hl:b.length=81) (hf:qAq h) (s:Int):∀ (n i:Nat),i+n=8->1<=i->∀ f,qBB (f+n+1) i b h s=some (if (List.range' i n).any (qDi b h) then .inl (51,b,h,s) else .inr (b,h,s)):=by
 intro n
 induction n with
 | zero=>
   intro i hi _ f
   show qC8 (qBB (f+0)) _ _ _ _=_
   unfold qC8
   rw[qd (by omega)]
   rfl
 | succ n ih=>
   intro i hi h1 f
   show qC8 (qBB (f+n+1)) _ _ _ _=_
   unfold qC8
   have ht:=ql8 ⟨i,by omega⟩
   simp only at ht
   rw[qi (by omega),qS1 hl hf s i (by omega) (by omega),qA,ht,qA,any_cons,w_s (by omega) (by omega)]
   have:=ih (i+1) (by omega) (by omega) f
   by_cases ho:qRF i<cnt b i+hd_ h 0 i+hd_ h 1 i
   ·rw[qCP ho,show qDi b h i=true by unfold qDi;simpa using ho]
    rfl
   ·rw[qCC ho,show qDi b h i=false by unfold qDi;simpa using ho,Bool.false_or]
    exact this
theorem qeY (b h:List Int) (s:Int):∀ (n i:Nat),i+n=81->∀ f,qBC (f+n+1) i b h s=some (if (List.range' i n).any (fun i=>qBR (b.getD i 0) i) then .inl (52,b,h,s) else .inr (b,h,s)):=by
 intro n
 induction n with
 | zero=>
   intro i hi f
   show qC9 (qBC (f+0)) _ _ _ _=_
   unfold qC9
   rw[qd (by omega)]
   rfl
 | succ n ih=>
   intro i hi f
   show qC9 (qBC (f+n+1)) _ _ _ _=_
   unfold qC9
   have:=ih (i+1) (by omega) f
   rw[qi (by omega),qn (by omega) (by omega),tn,c_8,ql0 _ (by omega),qA,any_cons,w_s (by omega) (by omega)]
   cases hb:qBR (b.getD i 0) i with
   | true=>rfl
   | false=>
     rw[b_f,Bool.false_or]
     exact this
theorem qes (p:Nat->Bool) (i n:Nat):(List.range' i (n+1)).countP p=(if p i then 1 else 0)+(List.range' (i+1) n).countP p:=by
 rw[List.range'_succ,List.countP_cons];omega
theorem qil (b h:List Int) (s x:Int) (q:Nat) (hq:q<9):∀ (n i:Nat),i+n=9->∀ acc:Nat,acc<=i->∀ f,
  qCJ (f+n+1) x q acc i b h s=some (((acc+(List.range' i n).countP fun r=>b.getD (9*q+r) 0==x:Nat):Int)):=by
 intro n
 induction n with
 | zero=>
   intro i hi acc _ f
   show qDE (qCJ (f+0)) _ _ _ _ _ _ _=_
   unfold qDE
   rw[qd (by omega)]
   rfl
 | succ n ih=>
   intro i hi acc ha f
   show qDE (qCJ (f+n+1)) _ _ _ _ _ _ _=_
   unfold qDE
   simp (disch:=omega) only[qi,qn,w_s,c_8]
   have h1:=ih (i+1) (by omega) acc (by omega) f
   have h2:=ih (i+1) (by omega) (acc+1) (by omega) f
   have ht:(9*(q:Int)+(i:Int)).toNat=9*q+i:=by omega
   rw[ht,qes]
   cases hb:b.getD (9*q+i) 0==x with
   | true=>
     rw[b_t,if_pos rfl]
     refine h2.trans ?_
     congr 2;omega
   | false=>
     rw[b_f,if_neg (by simp)]
     refine h1.trans ?_
     congr 2;omega
theorem qKP (b h:List Int) (s x:Int) (q:Nat) (hq:q<9):qDD b h s x q=some ((nF b x q:Nat):Int):=by
 obtain⟨g,hg⟩:=qk 9 (by omega)
 have:=qil b h s x q hq 9 0 (by omega) 0 (by omega) g
 rw[<- hg] at this
 unfold qDD
 rw[show qCJ qC x q 0 0 b h s=_ from this,qA,Nat.zero_add]
 unfold nF
 rw[List.range_eq_range']
theorem qhv (b:List Int) (x:Int) (q:Nat):nF b x q<=9:=Nat.le_trans List.countP_le_length (by simp)
theorem qcv (b h:List Int) (s x:Int):∀ (n i:Nat),i+n=9->∀ acc:Nat,acc<=9*i->∀ f,
  qCK (f+n+1) x acc i b h s=some (((acc+((List.range' i n).map (nF b x)).sum:Nat):Int)):=by
 intro n
 induction n with
 | zero=>
   intro i hi acc _ f
   show qDF (qCK (f+0)) _ _ _ _ _ _=_
   unfold qDF
   rw[qd (by omega)]
   rfl
 | succ n ih=>
   intro i hi acc ha f
   show qDF (qCK (f+n+1)) _ _ _ _ _ _=_
   unfold qDF
   have hle:=qhv b x i
   rw[qi (by omega),qKP b h s x i (by omega),qA,w_s (by omega) (by omega),w_s (by omega) (by omega)]
   have h2:=ih (i+1) (by omega) (acc+nF b x i) (by omega) f
   rw[List.range'_succ,List.map_cons,List.sum_cons]
   rw[Int.natCast_add] at h2
   refine Eq.trans h2 ?_
   congr 2;omega
theorem qjb:List.range 81=(List.range' 0 9).flatMap fun f=>(List.range 9).map (9*f+·):=by decide +kernel
theorem qhy (b:List Int) (x:Int):nP b x=((List.range' 0 9).map (nF b x)).sum:=by
 unfold nP
 rw[qjb,List.countP_flatMap]
 congr 1
theorem qRi (b h:List Int) (s x:Int):qB2 b h s x=some ((nP b x:Nat):Int):=by
 obtain⟨g,hg⟩:=qk 9 (by omega)
 have:=qcv b h s x 9 0 (by omega) 0 (by omega) g
 rw[<- hg,Nat.zero_add,<- qhy] at this
 unfold qB2
 rw[show qCK qC x 0 0 b h s=_ from this,qA]
theorem qea (b h:List Int) (s:Int):∀ (n i:Nat),i+n=9->∀ f,qBD (f+n+1) i b h s=some (if (List.range' i n).any (qCW b) then .inl 53 else .inr ()):=by
 intro n
 induction n with
 | zero=>
   intro i hi f
   show qDA (qBD (f+0)) _ _ _ _=_
   unfold qDA
   rw[qd (by omega)]
   rfl
 | succ n ih=>
   intro i hi f
   show qDA (qBD (f+n+1)) _ _ _ _=_
   unfold qDA
   have:=ih (i+1) (by omega) f
   rw[qi (by omega),qKP b h s 1 i (by omega),qA,qKP b h s 17 i (by omega),qA,any_cons,w_s (by omega) (by omega)]
   by_cases h1:1<nF b 1 i
   ·rw[qCP (by omega),show qCW b i=true by unfold qCW;simp[h1]]
    rfl
   ·rw[qCC (by omega)]
    by_cases h2:1<nF b 17 i
    ·rw[qCP (by omega),show qCW b i=true by unfold qCW;simp[h2]]
     rfl
    ·rw[qCC (by omega),show qCW b i=false by unfold qCW;simp[h1,h2],Bool.false_or]
     exact this
theorem qZB {b h:List Int} (hl:b.length=81) (hf:qAq h) (s:Int):qEc b h s=some (qA6 b h s):=by
 obtain⟨g81,hg81⟩:=qk 81 (by omega)
 obtain⟨g8,hg8⟩:=qk 8 (by omega)
 obtain⟨g7,hg7⟩:=qk 7 (by omega)
 obtain⟨g9,hg9⟩:=qk 9 (by omega)
 have c4:=qec b h s 81 0 (by omega) g81
 rw[<- hg81] at c4
 have c9:=qee b h s 8 0 (by omega) g8
 rw[<- hg8] at c9
 have c20:=qeW hl hf s 7 1 (by omega) (by omega) g7
 rw[<- hg7] at c20
 have c25:=qeY b h s 81 0 (by omega) g81
 rw[<- hg81] at c25
 have c30:=qea b h s 9 0 (by omega) g9
 rw[<- hg9] at c30
 have main : (ob (qBm qC 0 b h s) fun t3_2=>
    sw t3_2 (fun (a3_0,_,_,_)=>some (a3_0))
     (fun (a3_0,a3_1,a3_2)=>
     ob (qBE qC 0 a3_0 a3_1 a3_2) fun t6_2=>
     sw t6_2 (fun (a6_0,_,_,_)=>
      some (a6_0))
      (fun (a6_0,a6_1,a6_2)=>
      ob (qB2 a6_0 a6_1 a6_2 8) fun a9=>
      br (a9 != 1)
       (some (50))
       (ob (qB2 a6_0 a6_1 a6_2 24) fun a10=>
       br (a10 != 1)
        (some (50))
        (ob (qBB qC 1 a6_0 a6_1 a6_2) fun t11_2=>
        sw t11_2 (fun (a11_0,_,_,_)=>
         some (a11_0))
         (fun (a11_0,a11_1,a11_2)=>
         ob (qBC qC 0 a11_0 a11_1 a11_2) fun t14_2=>
         sw t14_2 (fun (a14_0,_,_,_)=>
          some (a14_0))
          (fun (a14_0,a14_1,a14_2)=>
          ob (qBD qC 0 a14_0 a14_1 a14_2) fun t17_2=>
          sw t17_2 (fun a17=>
           some (a17))
           (fun _=>
           some (0)))))))):Option Int) =
   some (if (List.range' 0 81).any (bsP b) then 55
    else if (List.range' 0 8).any (fun k=>(List.range' 0 2).any (bsH h k)) then 55
    else if ¬ (nP b 8=1 /\ nP b 24=1) then 50
    else if (List.range' 1 7).any (qDi b h) then 51
    else if (List.range' 0 81).any (fun i=>qBR (b.getD i 0) i) then 52
    else if (List.range' 0 9).any (qCW b) then 53
    else 0):=by
  rw[show qBm qC 0 b h s=_ from c4,qA]
  split
  ·rfl
  rw[qBs]
  simp only
  rw[show qBE qC 0 b h s=_ from c9,qA]
  split
  ·rfl
  rw[qBs]
  simp only
  rw[qRi,qA,qRi,qA]
  by_cases h8:nP b 8=1
  ·rw[q9 (by omega)]
   by_cases h24:nP b 24=1
   ·rw[q9 (by omega),if_neg (by simp[h8,h24]),show qBB qC 1 b h s=_ from c20,qA]
    split
    ·rfl
    rw[qBs]
    simp only
    rw[show qBC qC 0 b h s=_ from c25,qA]
    split
    ·rfl
    rw[qBs]
    simp only
    rw[show qBD qC 0 b h s=_ from c30,qA]
    split
    ·rfl
    ·rfl
   ·rw[q7 (by omega),if_pos (by simp[h24])]
  ·rw[q7 (by omega),if_pos (by simp[h8])]
 unfold qEc qA6
 by_cases h0:s=0
 ·rw[q9 h0,if_neg (by simp[h0])]
  exact main
 ·rw[q7 h0]
  by_cases h1:s=1
  ·rw[q9 h1,if_neg (by simp[h1])]
   exact main
  ·rw[q7 h1,if_pos (by simp[h0,h1])]
end Go.Kk.Pl
namespace Go.Kk.Pl
def up_ (k:Int):Int:=if k=1 \/ k=2 \/ k=3 \/ k=4 \/ k=6 \/ k=7 then k+8 else 0
theorem qpQ (k:Int):qET k=some (up_ k):=by
 unfold qET up_
 by_cases h1:k=1
 ·subst h1;rfl
 rw[qX (by simpa using h1)]
 by_cases h2:k=2
 ·subst h2;rfl
 rw[qX (by simpa using h2)]
 by_cases h3:k=3
 ·subst h3;rfl
 rw[qX (by simpa using h3)]
 by_cases h4:k=4
 ·subst h4;rfl
 rw[qX (by simpa using h4)]
 by_cases h6:k=6
 ·subst h6;rfl
 rw[qX (by simpa using h6)]
 by_cases h7:k=7
 ·subst h7;rfl
 rw[qX (by simpa using h7),if_neg (by omega)]
theorem qh6:∀ n:Fin 16,qBj 0 ((n.val:Nat):Int)=some (if n.val=0 \/ n.val=13 then 0 else (n.val:Int)):=by decide +kernel
theorem qh7:∀ n:Fin 16,qBj 1 ((n.val:Nat):Int)=some (if n.val=0 \/ n.val=13 then 0 else 16+(n.val:Int)):=by decide +kernel
theorem qfV {x:Int} (h0:0<=x) (h1:x<=15):∃ n:Fin 16,x=((n.val:Nat):Int):=⟨⟨x.toNat,by omega⟩,by simp;omega⟩
theorem qiA {s k:Int} (hs:s=0 \/ s=1) (h1:1<=k) (h2:k<=15) (h3:k≠13):qBj s k=some (16*s+k):=by
 obtain⟨n,rfl⟩:=qfV (by omega) h2
 rcases hs with rfl | rfl
 ·rw[qh6,if_neg (by omega)];simp
 ·rw[qh7,if_neg (by omega)];simp
theorem qCf (x:Int):0<=kd x /\ kd x<=15 /\ kd x≠13:=by
 unfold kd
 split<;>omega
theorem qGc {s k:Int} (hs:s=0 \/ s=1) (h1:1<=k) (h2:k<=15) (h3:k≠13):kd (16*s+k)=k:=by
 unfold kd
 rw[if_neg (by omega)]
 omega
theorem qP2 {x:Int} (h:kd x≠0) (h8:kd x≠8):1<=rw_ (kd x) /\ rw_ (kd x)<8:=by
 have:=qCf x
 unfold rw_
 rw[if_neg (by omega)]
 split<;>omega
theorem qgI {s k:Int} (hs:s=0 \/ s=1) (h1:1<=k) (h2:k<8) (b h:List Int) (S:Int) (by_ sides:List (List Int)):qCv s k b h S by_ sides=some (hd_ h s k):=by
 unfold qCv
 have e:(br (decide (k<1)) (some (0:Int)) (br (decide (k >= 8)) (some 0) (br (inB s 2) (br (inB k 8) (some (conv .i8 .i64 (List.getD h (s.toNat*8+k.toNat) 0))) none) none)))=some (hd_ h s k):=by
  rw[qX (by simp;omega),qX (by simp;omega),qQ (qAn (by omega) (by omega)),qQ (qAn (by omega) (by omega))]
  rfl
 rcases hs with rfl | rfl
 ·rw[qX (by rfl)];exact e
 ·rw[qQ (by rfl),qX (by rfl)];exact e
structure CanP (b h:List Int) (s f t d:Int) (p:Bool):Prop where
 to_:0<=t /\ t<81
 drop:d≠0->0<d /\ d<8 /\ f=0 /\ p=false /\ hd_ h s d>0 /\ at_ b t=0
 move:d=0->0<=f /\ f<81 /\ f≠t /\ sd (at_ b f)=s /\ sd (at_ b t)≠s /\ kd (at_ b t)≠8 /\ (p=true->up_ (kd (at_ b f))≠0)
def qBw (h:List Int) (s k d:Int):List Int:=h.set (s.toNat*8+k.toNat) (IntKind.wrap .i8 (hd_ h s k+d))
end Go.Kk.Pl
namespace Go.Kk.Pl
theorem qbA {s:Int} (hs:s = -1 \/ s=0 \/ s=1) {q:Nat} (hq:q<81):qEx s q=some (qCT s q):=by
 unfold qEx qEs qCT
 rcases hs with rfl | rfl | rfl
 ·simp (disch:=omega) only[qd,qCB,ql]
  simp
 ·simp (disch:=omega) only[qd,qCB,qm,qJA,qA]
  simp
 ·simp (disch:=omega) only[qd,qCB,ql,qm,qJA,qA,w_s]
  simp
theorem qoL (x:Int) {q:Nat} (hq:q<81):qDw x q=some (qBR x q):=by
 unfold qDw
 rw[qHg,qA,qbA (qFg x) hq,qA,qFN,qA]
 unfold qBR
 generalize kd x=k
 generalize qCT (sd x) q=n
 simp only[qH2,beq_iff_eq]
 repeat' split
 all_goals first
  | (rw[Option.some.injEq,Bool.eq_iff_iff];simp;omega)
  | (simp;omega)
def pc (s k:Int):Int:=if (s=0 \/ s=1) /\ 1<=k /\ k<=15 /\ k≠13 then 16*s+k else 0
theorem qAu {s k:Int} (hs:s=0 \/ s=1) (h1:1<=k) (h2:k<=15) (h3:k≠13):pc s k=16*s+k:=by unfold pc;rw[if_pos ⟨hs,h1,h2,h3⟩]
theorem qOI {s k:Int} (h:¬ ((s=0 \/ s=1) /\ 1<=k /\ k<=15 /\ k≠13)):pc s k=0:=by unfold pc;rw[if_neg h]
theorem qi4 (s k:Int):0<=pc s k /\ pc s k<32:=by unfold pc;split<;>omega
theorem qKL (s k:Int):qBj s k=some (pc s k):=by
 by_cases hs:s=0 \/ s=1
 ·by_cases h:1<=k /\ k<=15 /\ k≠13
  ·rw[qiA hs h.1 h.2.1 h.2.2,qAu hs h.1 h.2.1 h.2.2]
  ·rw[qOI (by omega)]
   unfold qBj
   simp only[qH2,bne_iff_ne,ne_eq,beq_iff_eq,decide_eq_true_eq]
   repeat' split
   all_goals first | rfl | omega
 ·rw[qOI (by omega)]
  unfold qBj
  simp (disch:=omega) only[q7]
theorem qi5 (b:List Int):pcs b 0=fun _=>false:=by funext i;unfold pcs;simp
theorem qGs (b h:List Int) (S s k:Int) (sd':List (List Int)):qCw s k b h S (qU b) sd'=some (sLo (pcs b (pc s k)),sHi (pcs b (pc s k))):=by
 unfold qCw
 obtain⟨h0,h1⟩:=qi4 s k
 rw[qKL,qA]
 by_cases hz:pc s k=0
 ·rw[qm hz,hz,qi5,qBZ,qBY]
 ·rw[ql hz,qn h0 (by omega),qMU b h0 h1]
  rfl
def inF (f:Nat) (i:Nat):Bool:=decide (i / 9=f)
theorem qgK:∀ f:Fin 9,qIy ((f.val:Nat):Int)=some (sLo (inF f.val),sHi (inF f.val)):=by decide +kernel
theorem qgL {f:Nat} (h:f<9):qIy f=some (sLo (inF f),sHi (inF f)):=qgK ⟨f,h⟩
theorem qfT:∀ f:Fin 9,(List.range 81).filter (fun i=>decide (i / 9=f.val))=(List.range 9).map (9*f.val+·):=by decide +kernel
theorem qem (b:List Int) {x:Int} (hx:x≠0) {f:Nat} (hf:f<9):qAl (fun i=>pcs b x i&&inF f i)=nF b x f:=by
 unfold qAl nF inF
 have:(List.range 81).countP (fun i=>pcs b x i&&decide (i / 9=f))=((List.range 81).filter (fun i=>decide (i / 9=f))).countP (pcs b x):=by
  rw[List.countP_filter]
 rw[this,qfT ⟨f,hf⟩,List.countP_map]
 apply List.countP_congr
 intro r _
 show pcs b x (9*f+r)=true↔_
 unfold pcs
 simp[hx]
theorem qdY {b:List Int} (hl:b.length=81) (h:(List.range' 0 81).any (bsP b)=false):Clean b:=by
 refine⟨hl,fun i hi=>?_⟩
 rw[List.any_eq_false] at h
 have:=h i (by rw[List.mem_range'];exact⟨i,hi,by omega⟩)
 unfold bsP at this
 rw[decide_eq_true_eq] at this
 omega
end Go.Kk.Pl
namespace Go.Kk.Pl
def tk (b:List Int) (i:Nat):Bool:=decide (b.getD i 0≠0)
theorem qpE {b:List Int} (hc:Clean b) {i:Nat} (hi:i<81):(sds b 0 i||sds b 1 i)=tk b i:=by
 have:=hc.ok i hi
 unfold sds tk
 rw[Bool.eq_iff_iff]
 simp only[Bool.or_eq_true,decide_eq_true_eq]
 rcases this with h | h
 ·rw[h,qIt];simp
 ·have h1:=qIP h
  have h2:=qHS h
  constructor
  ·intro _;omega
  ·intro _;exact h2
theorem qI9 {b:List Int} (hc:Clean b) (h:List Int) (S:Int) (by_:List (List Int)):qCc b h S by_ (qZ b)=some (sLo (tk b),sHi (tk b)):=by
 unfold qCc
 have e0:(qZ b).getD 0 []=prS (sds b 0):=rfl
 have e1:(qZ b).getD 1 []=prS (sds b 1):=rfl
 rw[e0,e1,qGx,qGy,qGx,qGy,qGt,qA]
 obtain⟨h1,h2⟩:=qBq (f:=fun i=>sds b 0 i||sds b 1 i) (g:=tk b) fun i hi=>qpE hc hi
 simp only
 rw[h1,h2]
def sdP (b:List Int) (s:Int) (i:Nat):Bool:=decide (s=0 \/ s=1)&&sds b s i
theorem qOL (b h:List Int) (S s:Int) (by_:List (List Int)):qE8 s b h S by_ (qZ b)=some (sLo (sdP b s),sHi (sdP b s)):=by
 unfold qE8
 by_cases h0:s=0
 ·subst h0
  have:sdP b 0=sds b 0:=by funext i;unfold sdP;simp
  rw[this]
  rfl
 ·rw[q7 h0]
  by_cases h1:s=1
  ·subst h1
   have:sdP b 1=sds b 1:=by funext i;unfold sdP;simp
   rw[this]
   rfl
  ·have:sdP b s=fun _=>false:=by funext i;unfold sdP;simp[h0,h1]
   rw[q7 h1,this,qBZ,qBY]
theorem qNY (b h:List Int) (S s:Int) (sd':List (List Int)):qE7 s b h S (qU b) sd'=some (fst (pcs b (pc s 8))):=by
 unfold qE7
 rw[qGs,qA]
 simp only
 rw[qMv,qA]
def hdP (h:List Int) (s k:Int):Int:=if (s=0 \/ s=1) /\ 1<=k /\ k<8 then hd_ h s k else 0
theorem qgH (b h:List Int) (S s k:Int) (by_ sd':List (List Int)):qCv s k b h S by_ sd'=some (hdP h s k):=by
 unfold hdP
 by_cases hv:(s=0 \/ s=1) /\ 1<=k /\ k<8
 ·rw[if_pos hv,qgI hv.1 hv.2.1 hv.2.2]
 ·rw[if_neg hv]
  unfold qCv
  by_cases h0:s=0
  ·rw[q9 h0]
   by_cases h1:k<1
   ·rw[qi h1]
   ·rw[qd h1,qCZ (by omega)]
  ·rw[q7 h0]
   by_cases h2:s=1
   ·rw[q9 h2]
    by_cases h1:k<1
    ·rw[qi h1]
    ·rw[qd h1,qCZ (by omega)]
   ·rw[q7 h2]
theorem qgQ:isE (fun _=>false)=true:=by decide
end Go.Kk.Pl
