/- What the program's functions come to, told plainly: the texts of this project that this claim leans on, cut down to what is used. -/
import Derived.Test.YtjckfjagajmekaaGreatDoorKkPl
import Derived.Test.YtjckfjagajmekaaGreatDoorKkO
namespace Go.Kk.Pl
theorem qD {α:Type} {b:Bool} {x y:α} (h:b=true):br b x y=x:=by subst h;rfl
theorem qI {α:Type} {b:Bool} {x y:α} (h:b=false):br b x y=y:=by subst h;rfl
theorem qIo {α:Type} (b:Bool) (x y:α):br b x y=if b=true then x else y:=by cases b<;>rfl
theorem qG1 {α:Type} {b:Bool} {x y:Option α} (hx:∃ v,x=some v) (hy:∃ v,y=some v):∃ v,br b x y=some v:=by cases b<;>assumption
theorem qGD {α β:Type} {m:Option α} {k:α->Option β} (hm:∃ v,m=some v) (hk:∀ a,∃ v,k a=some v):∃ v,ob m k=some v:=by
 obtain⟨a,rfl⟩:=hm
 exact hk a
theorem qA {α β:Type} (a:α) (k:α->Option β):ob (some a) k=k a:=rfl
theorem qGi {α β γ:Type} (a:α) (f:α->Option γ) (g:β->Option γ):sw (.inl a) f g=f a:=rfl
theorem qAk {α β γ:Type} (a:β) (f:α->Option γ) (g:β->Option γ):sw (.inr a) f g=g a:=rfl
theorem qSY {n:Int} (h1:-9223372036854775808<=n) (h2:n<=9223372036854775807):IntKind.wrap .i64 n=n:=qB3 h1 h2
theorem qAO {n:Int} (h1:-1000000000<=n) (h2:n<=1000000000):IntKind.wrap .i64 n=n:=qSY (by omega) (by omega)
theorem qrq (n:Int):0<=IntKind.wrap .u64 n /\ IntKind.wrap .u64 n<18446744073709551616:=by
 simp[IntKind.wrap,IntKind.signed,IntKind.bits]
 omega
theorem qNA (op:BinOp) (x y:Int):0<=qE op .u64 x y /\ qE op .u64 x y<18446744073709551616:=by
 unfold qE
 split<;>exact qrq _
theorem qAN {x:Int} {n:Nat} (h1:0<=x) (h2:x<n):inB x n=true:=by simp[inB,h1,h2]
theorem qKs {x:Int} {n:Nat} (h1:0<=x) (h2:x<=n):qEJ x n=true:=by simp[qEJ,h1,h2]
theorem qd (n:Nat) (h:n<=1000000):∃ f,qC=f+n+1:=⟨qC - n - 1,by unfold qC;omega⟩
theorem qet (x:Bool):(bi x != 0)=x:=by cases x<;>rfl
end Go.Kk.Pl
namespace Go.Kk.Pl
def qX (f:Nat->Bool):Nat->Nat
 | 0=>0
 | n+1=>qX f n+bif f n then 2 ^ n else 0
theorem qEA (f:Nat->Bool):∀ n,qX f n<2 ^ n
 | 0=>Nat.one_pos
 | n+1=>by
   have:=qEA f n
   simp only[qX]
   rw[Nat.pow_succ]
   cases f n<;>simp<;>omega
theorem qBY (f:Nat->Bool):∀ n i,(qX f n).testBit i=(decide (i<n)&&f i)
 | 0,i=>by simp[qX]
 | n + 1,i=>by
   have ih:=qBY f n
   have hlt:=qEA f n
   have e:qX f (n+1)=2 ^ n*(f n).toNat+qX f n:=by
    simp only[qX]
    cases f n<;>simp[Nat.add_comm]
   rw[e,Nat.testBit_two_pow_mul_add _ hlt]
   by_cases h:i<n
   ·rw[if_pos h,ih i]
    simp[h,show i<n+1 by omega]
   ·rw[if_neg h]
    by_cases h2:i=n
    ·subst h2
     simp only[Nat.sub_self,Nat.lt_succ_self,decide_true,Bool.true_and]
     cases f i<;>rfl
    ·rw[show decide (i<n+1)=false by simp;omega,Bool.false_and]
     have:1<=i - n:=by omega
     obtain⟨k,hk⟩:∃ k,i - n=k+1:=⟨i - n - 1,by omega⟩
     rw[hk]
     cases f n
     ·simp
     ·show Nat.testBit 1 (k+1)=false
      rw[Nat.testBit_succ];simp
theorem qEr {f g:Nat->Bool}:∀ {n:Nat},(∀ i,i<n->f i=g i)->qX f n=qX g n
 | 0,_=>rfl
 | n+1,h=>by
   simp only[qX]
   rw[qEr fun i hi=>h i (by omega),h n (by omega)]
theorem qS9 {f g:Nat->Bool} {n:Nat} (h:qX f n=qX g n):∀ i,i<n->f i=g i:=by
 intro i hi
 have h1:=qBY f n i
 have h2:=qBY g n i
 rw[h,h2] at h1
 simpa[hi] using h1.symm
theorem qKK {f:Nat->Bool} {n x:Nat} (hx:x<2 ^ n) (h:∀ i,i<n->x.testBit i=f i):x=qX f n:=by
 apply Nat.eq_of_testBit_eq
 intro i
 rw[qBY]
 by_cases hi:i<n
 ·simp[hi,h i hi]
 ·rw[show decide (i<n)=false by simp[hi],Bool.false_and]
  exact Nat.testBit_lt_two_pow (Nat.lt_of_lt_of_le hx (Nat.pow_le_pow_right (by omega) (by omega)))
theorem qD4 {n:Nat} (h:n<2 ^ 64):IntKind.wrap .u64 (n:Int)=n:=by
 refine qB3 ?_ ?_<;>simp[IntKind.min,IntKind.max,IntKind.signed,IntKind.bits]<;>omega
theorem qFG (a:Nat):BitVec.ofInt 64 (a:Int)=BitVec.ofNat 64 a:=by simp
theorem qD9 {a b:Nat} (ha:a<2 ^ 64) (hb:b<2 ^ 64):qE .and .u64 (a:Int) (b:Int)=((a &&& b:Nat):Int):=by
 unfold qE
 show IntKind.wrap .u64 _=_
 rw[show IntKind.bits .u64=64 from rfl,qFG,qFG,BitVec.toNat_and,BitVec.toNat_ofNat,BitVec.toNat_ofNat,Nat.mod_eq_of_lt ha,Nat.mod_eq_of_lt hb]
 exact qD4 (Nat.lt_of_le_of_lt Nat.and_le_left ha)
theorem qex {a b:Nat} (ha:a<2 ^ 64) (hb:b<2 ^ 64):qE .or .u64 (a:Int) (b:Int)=((a ||| b:Nat):Int):=by
 unfold qE
 show IntKind.wrap .u64 _=_
 rw[show IntKind.bits .u64=64 from rfl,qFG,qFG,BitVec.toNat_or,BitVec.toNat_ofNat,BitVec.toNat_ofNat,Nat.mod_eq_of_lt ha,Nat.mod_eq_of_lt hb]
 exact qD4 (Nat.or_lt_two_pow ha hb)
theorem qew {a b:Nat} (ha:a<2 ^ 64) (hb:b<2 ^ 64):qE .andNot .u64 (a:Int) (b:Int)=((a &&& (2 ^ 64 - (b+1)):Nat):Int):=by
 unfold qE
 show IntKind.wrap .u64 _=_
 rw[show IntKind.bits .u64=64 from rfl,qFG,qFG,BitVec.toNat_and,BitVec.toNat_not,BitVec.toNat_ofNat,BitVec.toNat_ofNat,Nat.mod_eq_of_lt ha,Nat.mod_eq_of_lt hb]
 rw[show 2 ^ 64 - 1 - b=2 ^ 64 - (b+1) by omega]
 exact qD4 (Nat.lt_of_le_of_lt Nat.and_le_left ha)
theorem qBe (f:Nat->Bool) {n:Nat} (h:n<=64):qX f n<2 ^ 64:=Nat.lt_of_lt_of_le (qEA f n) (Nat.pow_le_pow_right (by omega) h)
theorem qSp (f g:Nat->Bool) {n:Nat} (h:n<=64):qE .and .u64 (qX f n:Nat) (qX g n:Nat)=(qX (fun i=>f i&&g i) n:Nat):=by
 rw[qD9 (qBe f h) (qBe g h)]
 congr 1
 refine qKK (Nat.lt_of_le_of_lt Nat.and_le_left (qEA f n)) fun i hi=>?_
 rw[Nat.testBit_and,qBY,qBY]
 simp[hi]
theorem qXP (f g:Nat->Bool) {n:Nat} (h:n<=64):qE .or .u64 (qX f n:Nat) (qX g n:Nat)=(qX (fun i=>f i||g i) n:Nat):=by
 rw[qex (qBe f h) (qBe g h)]
 congr 1
 refine qKK (Nat.or_lt_two_pow (qEA f n) (qEA g n)) fun i hi=>?_
 rw[Nat.testBit_or,qBY,qBY]
 simp[hi]
theorem qSo (f g:Nat->Bool) {n:Nat} (h:n<=64):qE .andNot .u64 (qX f n:Nat) (qX g n:Nat)=(qX (fun i=>f i && !g i) n:Nat):=by
 rw[qew (qBe f h) (qBe g h)]
 congr 1
 refine qKK (Nat.lt_of_le_of_lt Nat.and_le_left (qEA f n)) fun i hi=>?_
 rw[Nat.testBit_and,qBY,Nat.testBit_two_pow_sub_succ (qBe g h),qBY]
 simp[hi,show i<64 by omega]
def sLo (f:Nat->Bool):Int:=(qX f 63:Nat)
def sHi (f:Nat->Bool):Int:=(qX (fun i=>f (63+i)) 18:Nat)
def only (q:Int) (i:Nat):Bool:=decide ((i:Int)=q)
def has (f:Nat->Bool) (q:Int):Bool:=decide (0<=q)&&(decide (q<81)&&f q.toNat)
def isE (f:Nat->Bool):Bool:=(List.range 81).all fun i=>!f i
theorem qB0 {f g:Nat->Bool} (h:∀ i,i<81->f i=g i):sLo f=sLo g /\ sHi f=sHi g:=by
 unfold sLo sHi
 rw[qEr (f:=f) (g:=g) fun i hi=>h i (by omega),qEr (f:=fun i=>f (63+i)) (g:=fun i=>g (63+i)) fun i hi=>h _ (by omega)]
 exact⟨rfl,rfl⟩
theorem qpi {f g:Nat->Bool} (h1:sLo f=sLo g) (h2:sHi f=sHi g):∀ i,i<81->f i=g i:=by
 intro i hi
 unfold sLo at h1
 unfold sHi at h2
 by_cases h:i<63
 ·exact qS9 (Int.ofNat.inj h1) i h
 ·have:=qS9 (Int.ofNat.inj h2) (i - 63) (by omega)
  simpa[show 63+(i - 63)=i by omega] using this
theorem qpf (f g:Nat->Bool):(sLo f==sLo g&&sHi f==sHi g)=(List.range 81).all fun i=>f i==g i:=by
 rw[Bool.eq_iff_iff]
 simp only[Bool.and_eq_true,beq_iff_eq,List.all_eq_true,List.mem_range]
 exact⟨fun h i hi=>qpi h.1 h.2 i hi,fun h=>qB0 h⟩
theorem qKL:∀ n,qX (fun _=>false) n=0
 | 0=>rfl
 | n+1=>by simp[qX,qKL n]
theorem qBi:sLo (fun _=>false)=0:=by unfold sLo;rw[qKL];rfl
theorem qBh:sHi (fun _=>false)=0:=by unfold sHi;rw[qKL];rfl
theorem qgj (f:Nat->Bool):(sLo f==0&&sHi f==0)=isE f:=by
 have:=qpf f fun _=>false
 rw[qBi,qBh] at this
 rw[this]
 unfold isE
 congr 1
 funext i
 cases f i<;>rfl
theorem qCn {f:Nat->Bool}:isE f=true ↔ ∀ i,i<81->f i=false:=by simp[isE]
theorem qev:∀ q:Fin 81,qFh ((q.val:Nat):Int)=some (sLo (only ((q.val:Nat):Int)),sHi (only ((q.val:Nat):Int))):=by decide +kernel
theorem qkp {q:Int} (h:¬ (0<=q /\ q<81)):sLo (only q)=0 /\ sHi (only q)=0:=by
 have h:=qB0 (f:=only q) (g:=fun _=>false) fun i hi=>by unfold only;simp;omega
 rw[qBi,qBh] at h
 exact h
theorem qM9 (q:Int):qFh q=some (sLo (only q),sHi (only q)):=by
 by_cases h:0<=q /\ q<81
 ·have:=qev ⟨q.toNat,by omega⟩
  simpa[show ((q.toNat:Nat):Int)=q by omega] using this
 ·obtain⟨h1,h2⟩:=qkp h
  rw[h1,h2]
  unfold qFh
  by_cases h0:q<0
  ·rw[qD (by simpa using h0)]
  ·rw[qI (by simpa using h0),qD (by simp;omega)]
theorem qHg (f g:Nat->Bool):qDv (sLo f) (sHi f) (sLo g) (sHi g)=some (sLo fun i=>f i||g i,sHi fun i=>f i||g i):=by
 unfold qDv sLo sHi
 rw[qXP _ _ (by omega),qXP _ _ (by omega)]
theorem qFt (f g:Nat->Bool):qDE (sLo f) (sHi f) (sLo g) (sHi g)=some (sLo fun i=>f i&&g i,sHi fun i=>f i&&g i):=by
 unfold qDE sLo sHi
 rw[qSp _ _ (by omega),qSp _ _ (by omega)]
theorem qLC (f g:Nat->Bool):qFe (sLo f) (sHi f) (sLo g) (sHi g)=some (sLo fun i=>f i && !g i,sHi fun i=>f i && !g i):=by
 unfold qFe sLo sHi
 rw[qSo _ _ (by omega),qSo _ _ (by omega)]
theorem qGj (f:Nat->Bool) (q:Int):qBA (sLo f) (sHi f) q=some (sLo fun i=>f i||only q i,sHi fun i=>f i||only q i):=by
 unfold qBA
 rw[qM9,qA]
 simp only
 rw[qHg,qA]
theorem qKD (f:Nat->Bool) (q:Int):qEb (sLo f) (sHi f) q=some (sLo fun i=>f i && !only q i,sHi fun i=>f i && !only q i):=by
 unfold qEb
 rw[qM9,qA]
 simp only
 rw[qLC,qA]
theorem qKd (f:Nat->Bool):qFc (sLo f) (sHi f)=some (isE f):=by
 unfold qFc
 rw[qgj]
theorem qEI (f:Nat->Bool) (q:Int):qCI (sLo f) (sHi f) q=some (has f q):=by
 unfold qCI
 rw[qM9,qA]
 simp only
 rw[qFt,qA]
 simp only
 rw[qKd,qA]
 congr 1
 rw[Bool.eq_iff_iff]
 unfold has
 simp only[Bool.not_eq_true',Bool.and_eq_true,decide_eq_true_eq]
 constructor
 ·intro h
  rw[Bool.eq_false_iff] at h
  simp only[ne_eq,qCn] at h
  by_cases hq:0<=q /\ q<81
  ·refine⟨hq.1,hq.2,?_⟩
   by_cases hf:f q.toNat=true
   ·exact hf
   ·refine absurd (fun i hi=>?_) h
    unfold only
    by_cases hiq:(i:Int)=q
    ·have:i=q.toNat:=by omega
     subst this
     simp at hf
     simp[hf]
    ·simp[hiq]
  ·refine absurd (fun i hi=>?_) h
   unfold only
   have:¬ (i:Int)=q:=by omega
   simp[this]
 ·intro ⟨h0,h1,h2⟩
  rw[Bool.eq_false_iff]
  simp only[ne_eq,qCn]
  intro h
  have:=h q.toNat (by omega)
  simp[only,h2,show max q 0=q by omega] at this
end Go.Kk.Pl
namespace Go.Kk.Pl
theorem qHR {p:Nat->Bool} {j n:Nat} (h:∃ i,j<=i /\ i<n /\ p i=true):∃ k,j<=k /\ k<n /\ p k=true /\ ∀ i,j<=i->i<k->p i=false:=by
 obtain⟨i,h1,h2,h3⟩:=h
 induction hd:i - j generalizing i j with
 | zero=>exact⟨i,h1,h2,h3,fun x a b=>by omega⟩
 | succ d ih=>
   cases hp:p j with
   | true=>exact⟨j,Nat.le_refl _,by omega,hp,fun x a b=>by omega⟩
   | false=>
     obtain⟨k,a,b,c,e⟩:=ih (j:=j+1) i (by omega) h2 h3 (by omega)
     refine⟨k,by omega,b,c,fun x a' b'=>?_⟩
     by_cases hx:x=j
     ·subst hx;exact hp
     ·exact e x (by omega) b'
section
variable {f:Nat->Bool} {n k:Nat} (hk:k<n) (hf:f k=true) (hl:∀ i,i<k->f i=false)
include hk hf hl
theorem qWo:qX f n=2 ^ (k+1)*(qX f n / 2 ^ (k+1))+2 ^ k:=by
 have h1:=Nat.div_add_mod (qX f n) (2 ^ (k+1))
 have h2:qX f n % 2 ^ (k+1)=2 ^ k:=by
  apply Nat.eq_of_testBit_eq
  intro i
  rw[Nat.testBit_mod_two_pow,qBY,Nat.testBit_two_pow]
  by_cases h:i<k
  ·rw[hl i h];simp;omega
  ·by_cases h3:i=k
   ·subst h3;simp[hf,hk]
   ·rw[show decide (i<k+1)=false by simp;omega,Bool.false_and];simp;omega
 omega
theorem qWn (i:Nat):(qX f n - 1).testBit i=if i<k then true else if i=k then false else (qX f n).testBit i:=by
 have h:=qWo hk hf hl
 have hp:0<2 ^ k:=Nat.two_pow_pos k
 have h2:qX f n - 1=2 ^ (k+1)*(qX f n / 2 ^ (k+1))+(2 ^ k - 1):=by omega
 have hlt:2 ^ k - 1<2 ^ (k+1):=by rw[Nat.pow_succ];omega
 have hlt2:2 ^ k<2 ^ (k+1):=by rw[Nat.pow_succ];omega
 rw[h2,Nat.testBit_two_pow_mul_add _ hlt,Nat.testBit_two_pow_sub_one]
 by_cases h3:i<k
 ·simp[h3,show i<k+1 by omega]
 ·by_cases h4:i=k
  ·subst h4;simp
  ·rw[if_neg (by omega),if_neg h3,if_neg h4]
   conv=>rhs;rw[h,Nat.testBit_two_pow_mul_add _ hlt2,if_neg (by omega)]
theorem qHb:0<qX f n:=by
 have:=qWo hk hf hl
 have hp:0<2 ^ k:=Nat.two_pow_pos k
 omega
theorem qjK (hn:n<=64):qX f n &&& (2 ^ 64 - qX f n)=2 ^ k:=by
 have hpos:=qHb hk hf hl
 apply Nat.eq_of_testBit_eq
 intro i
 have e:2 ^ 64 - qX f n=2 ^ 64 - ((qX f n - 1)+1):=by omega
 have hlt:=qBe f hn
 rw[Nat.testBit_and,e,Nat.testBit_two_pow_sub_succ (by omega),qWn hk hf hl,Nat.testBit_two_pow]
 by_cases h3:i<k
 ·rw[if_pos h3];simp;omega
 ·by_cases h4:i=k
  ·subst h4
   rw[qBY]
   simp[hf,hk];omega
  ·rw[if_neg h3,if_neg h4]
   cases (qX f n).testBit i<;>simp<;>omega
theorem qWm:qX f n &&& (qX f n - 1)=qX (fun i=>f i&&decide (k<i)) n:=by
 refine qKK (Nat.lt_of_le_of_lt Nat.and_le_left (qEA f n)) fun i hi=>?_
 rw[Nat.testBit_and,qWn hk hf hl,qBY]
 by_cases h3:i<k
 ·rw[hl i h3];simp
 ·by_cases h4:i=k
  ·subst h4;simp
  ·rw[if_neg h3,if_neg h4]
   simp[hi,show k<i by omega]
end
theorem qrE:∀ k:Fin 64,inB (Int.fdiv (IntKind.wrap IntKind.u64 (((2 ^ k.val:Nat):Int)*285870213051353865)) 288230376151711744) 64=true /\
  conv IntKind.u8 IntKind.i64 (List.getD [0,1,56,2,57,49,28,3,61,58,42,50,38,29,17,4,62,47,59,36,45,43,51,22,53,39,33,30,24,18,12,5,63,55,48,27,60,41,37,16,46,35,44,21,52,32,23,11,54,26,40,15,34,20,31,10,25,14,19,9,13,8,7,6] (Int.toNat (Int.fdiv (IntKind.wrap IntKind.u64 (((2 ^ k.val:Nat):Int)*285870213051353865)) 288230376151711744)) 0)=((k.val:Nat):Int):=by decide +kernel
theorem qjv {x:Nat} (h0:0<x) (h1:x<2 ^ 64):IntKind.wrap .u64 (0 - (x:Int))=((2 ^ 64 - x:Nat):Int):=by
 have:(0 - (x:Int)) % 18446744073709551616=18446744073709551616 - x:=by omega
 simp only[IntKind.wrap,IntKind.signed,IntKind.bits]
 simp
 omega
theorem qXo {x:Nat} (h0:0<x) (h1:x<2 ^ 64):IntKind.wrap .u64 ((x:Int) - 1)=((x - 1:Nat):Int):=by
 rw[show (x:Int) - 1=((x - 1:Nat):Int) by omega]
 exact qD4 (by omega)
theorem qMc {f:Nat->Bool} {n k:Nat} (hn:n<=64) (hk:k<n) (hf:f k=true) (hl:∀ i,i<k->f i=false):qEs (qX f n:Nat)=some (k:Int):=by
 have hpos:=qHb hk hf hl
 have hlt:=qBe f hn
 unfold qEs qNB
 rw[qI (by simp;omega),qjv hpos hlt,qD9 hlt (by omega),qjK hk hf hl hn]
 obtain⟨a,b⟩:=qrE ⟨k,by omega⟩
 simp only at a b
 rw[qD a,b]
theorem qKM {f:Nat->Bool} {n:Nat}:qX f n=0 ↔ ∀ i,i<n->f i=false:=by
 constructor
 ·intro h i hi
  have:=qBY f n i
  rw[h] at this
  simpa[hi] using this.symm
 ·intro h
  rw[qEr (g:=fun _=>false) h,qKL]
def fst (f:Nat->Bool):Int:=match (List.range 81).find? f with
 | some i=>i
 | none=>-1
theorem qKn {f:Nat->Bool} {k:Nat} (hk:k<81) (hf:f k=true) (hl:∀ i,i<k->f i=false):fst f=k:=by
 unfold fst
 have:(List.range 81).find? f=some k:=by
  rw[List.find?_eq_some_iff_getElem]
  exact⟨hf,k,by simpa using hk,by simp,fun j hj=>by simp[hl j hj]⟩
 rw[this]
theorem qU0 {f:Nat->Bool} (h:∀ i,i<81->f i=false):fst f = -1:=by
 unfold fst
 have:(List.range 81).find? f=none:=by simpa using h
 rw[this]
theorem qNn (f:Nat->Bool):qGX (sLo f) (sHi f)=some (fst f):=by
 unfold qGX
 by_cases h:∃ i,0<=i /\ i<63 /\ f i=true
 ·obtain⟨k,_,hk,hf,hl⟩:=qHR h
  have hpos:=qHb hk hf fun i hi=>hl i (Nat.zero_le _) hi
  rw[qD (by unfold sLo;simp;omega)]
  unfold sLo
  rw[qMc (by omega) hk hf fun i hi=>hl i (Nat.zero_le _) hi,qA,qKn (by omega) hf fun i hi=>hl i (Nat.zero_le _) hi]
 ·have h1:∀ i,i<63->f i=false:=fun i hi=>by
   cases hf:f i with
   | false=>rfl
   | true=>exact absurd ⟨i,Nat.zero_le _,hi,hf⟩ h
  rw[qI (by unfold sLo;rw[qKM.2 h1];rfl)]
  by_cases h2:∃ i,0<=i /\ i<18 /\ f (63+i)=true
  ·obtain⟨k,_,hk,hf,hl⟩:=qHR (p:=fun i=>f (63+i)) h2
   have hpos:=qHb (f:=fun i=>f (63+i)) hk hf fun i hi=>hl i (Nat.zero_le _) hi
   rw[qD (by unfold sHi;simp;omega)]
   unfold sHi
   rw[qMc (f:=fun i=>f (63+i)) (by omega) hk hf fun i hi=>hl i (Nat.zero_le _) hi,qA,qAO (by omega) (by omega),qKn (k:=63+k) (by omega) hf fun i hi=>?_]
   ·simp
   ·by_cases hi2:i<63
    ·exact h1 i hi2
    ·have:=hl (i - 63) (Nat.zero_le _) (by omega)
     simpa[show 63+(i - 63)=i by omega] using this
  ·have h3:∀ i,i<18->f (63+i)=false:=fun i hi=>by
    cases hf:f (63+i) with
    | false=>rfl
    | true=>exact absurd ⟨i,Nat.zero_le _,hi,hf⟩ h2
   rw[qI (by unfold sHi;rw[qKM.2 h3];rfl),qU0]
   intro i hi
   by_cases hi2:i<63
   ·exact h1 i hi2
   ·have:=h3 (i - 63) (by omega)
    simpa[show 63+(i - 63)=i by omega] using this
def sq (f:Nat->Bool):List Int:=((List.range 81).filter f).map Int.ofNat
theorem qNk {f:Nat->Bool} {j k:Nat} (hjk:j<=k) (h:∀ i,j<=i->i<k->f i=false):(List.range k).filter f=(List.range j).filter f:=by
 induction k with
 | zero=>rw[show j=0 by omega]
 | succ k ih=>
   by_cases hj:j=k+1
   ·rw[hj]
   ·rw[List.range_succ,List.filter_append,ih (by omega) fun i a b=>h i a (by omega)]
    simp[h k (by omega) (by omega)]
theorem qUr {f:Nat->Bool} {j k:Nat} (hjk:j<=k) (h:∀ i,j<=i->i<k->f i=false) (hf:f k=true):(List.range (k+1)).filter f=(List.range j).filter f++[k]:=by
 rw[List.range_succ,List.filter_append,qNk hjk h]
 simp[hf]
theorem qMr {l:List Int} {n:Nat} (h:n=l.length) (x:List Int):List.append (List.take n l) x=l++x:=by
 subst h;simp[List.take_length]
theorem qp7 (f:Nat->Bool) (hi:Int):∀ (d j:Nat),63 - j=d->j<=63->∀ g,d<g->
  qIL g ((List.range j).filter f).length (qX (fun i=>f i&&decide (j<=i)) 63:Nat) hi ((List.range j).filter f).length (((List.range j).filter f).map Int.ofNat) =
   some (((List.range 63).filter f).length,0,hi,((List.range 63).filter f).length,((List.range 63).filter f).map Int.ofNat):=by
 intro d
 induction d using Nat.strongRecOn with
 | ind d ih=>
   intro j hd hj g hg
   obtain⟨g,rfl⟩:∃ g',g=g'+1:=⟨g - 1,by omega⟩
   show qMJ (qIL g) _ _ _ _ _=_
   unfold qMJ
   by_cases h:∃ i,j<=i /\ i<63 /\ f i=true
   ·obtain⟨k,h1,h2,h3,h4⟩:=qHR h
    have hl:∀ i,i<k->(f i&&decide (j<=i))=false:=fun i hi=>by
     by_cases hji:j<=i
     ·rw[h4 i hji hi];rfl
     ·simp[hji]
    have hf:(f k&&decide (j<=k))=true:=by simp[h3,h1]
    have hpos:=qHb (f:=fun i=>f i&&decide (j<=i)) h2 hf hl
    have hlen:((List.range j).filter f).length<=63:=Nat.le_trans (List.length_filter_le _ _) (by simpa using hj)
    rw[qD (by simp;omega),qMc (f:=fun i=>f i&&decide (j<=i)) (by omega) h2 hf hl,qA,qD (by simp;omega),qMr (by simp),
     qXo hpos (qBe _ (by omega)),qD9 (qBe _ (by omega)) (Nat.lt_of_le_of_lt (Nat.sub_le _ _) (qBe (fun i=>f i&&decide (j<=i)) (by omega))),qWm h2 hf hl,
     qEr (g:=fun i=>f i&&decide (k+1<=i)) fun i _=>by
      by_cases hki:k<i
      ·simp[show k+1<=i by omega,show j<=i by omega,hki]
      ·simp[hki,show ¬ k+1<=i by omega]]
    have hn:=qUr h1 h4 h3
    have:=ih (63 - (k+1)) (by omega) (k+1) rfl (by omega) g (by omega)
    rw[hn] at this
    simpa using this
   ·have h5:∀ i,j<=i->i<63->f i=false:=fun i a b=>by
     cases hf:f i with
     | false=>rfl
     | true=>exact absurd ⟨i,a,b,hf⟩ h
    have hz:qX (fun i=>f i&&decide (j<=i)) 63=0:=qKM.2 fun i hi=>by
     by_cases hji:j<=i
     ·rw[h5 i hji hi];rfl
     ·simp[hji]
    rw[hz,qI (by rfl),qNk hj h5]
    rfl
theorem qp6 (f:Nat->Bool) (l:List Int) (lo:Int) (hl0:l.length<=63):∀ (d j:Nat),18 - j=d->j<=18->∀ g,d<g->
  qIM g (l++((List.range j).filter fun i=>f (63+i)).map fun i=>Int.ofNat (63+i)).length lo (qX (fun i=>f (63+i)&&decide (j<=i)) 18:Nat) (l++((List.range j).filter fun i=>f (63+i)).map fun i=>Int.ofNat (63+i)).length
   (l++((List.range j).filter fun i=>f (63+i)).map fun i=>Int.ofNat (63+i)) =
   some ((l++((List.range 18).filter fun i=>f (63+i)).map fun i=>Int.ofNat (63+i)).length,(l++((List.range 18).filter fun i=>f (63+i)).map fun i=>Int.ofNat (63+i)).length,l++((List.range 18).filter fun i=>f (63+i)).map fun i=>Int.ofNat (63+i)):=by
 intro d
 induction d using Nat.strongRecOn with
 | ind d ih=>
   intro j hd hj g hg
   obtain⟨g,rfl⟩:∃ g',g=g'+1:=⟨g - 1,by omega⟩
   show qMK (qIM g) _ _ _ _ _=_
   unfold qMK
   by_cases h:∃ i,j<=i /\ i<18 /\ f (63+i)=true
   ·obtain⟨k,h1,h2,h3,h4⟩:=qHR (p:=fun i=>f (63+i)) h
    have hl:∀ i,i<k->(f (63+i)&&decide (j<=i))=false:=fun i hi=>by
     by_cases hji:j<=i
     ·rw[h4 i hji hi];rfl
     ·simp[hji]
    have hf:(f (63+k)&&decide (j<=k))=true:=by simp[h3,h1]
    have hpos:=qHb (f:=fun i=>f (63+i)&&decide (j<=i)) h2 hf hl
    have hlen:((List.range j).filter fun i=>f (63+i)).length<=18:=Nat.le_trans (List.length_filter_le _ _) (by simpa using hj)
    rw[qD (by simp;omega),qMc (f:=fun i=>f (63+i)&&decide (j<=i)) (by omega) h2 hf hl,qA,qD (by simp;omega),qMr rfl,
     qXo hpos (qBe _ (by omega)),qD9 (qBe _ (by omega)) (Nat.lt_of_le_of_lt (Nat.sub_le _ _) (qBe (fun i=>f (63+i)&&decide (j<=i)) (by omega))),qWm h2 hf hl,
     qEr (g:=fun i=>f (63+i)&&decide (k+1<=i)) fun i _=>by
      by_cases hki:k<i
      ·simp[show k+1<=i by omega,show j<=i by omega,hki]
      ·simp[hki,show ¬ k+1<=i by omega],qAO (by omega) (by omega)]
    have hn:=qUr (f:=fun i=>f (63+i)) h1 h4 h3
    have:=ih (18 - (k+1)) (by omega) (k+1) rfl (by omega) g (by omega)
    rw[hn] at this
    simpa[Nat.add_assoc] using this
   ·have h5:∀ i,j<=i->i<18->f (63+i)=false:=fun i a b=>by
     cases hf:f (63+i) with
     | false=>rfl
     | true=>exact absurd ⟨i,a,b,hf⟩ h
    have hz:qX (fun i=>f (63+i)&&decide (j<=i)) 18=0:=qKM.2 fun i hi=>by
     by_cases hji:j<=i
     ·rw[h5 i hji hi];rfl
     ·simp[hji]
    rw[hz,qI (by rfl),qNk (f:=fun i=>f (63+i)) hj h5]
theorem qXs:List.range 81=List.range 63++(List.range 18).map (63+·):=by decide +kernel
theorem qp9 (f:Nat->Bool):sq f=((List.range 63).filter f).map Int.ofNat++((List.range 18).filter fun i=>f (63+i)).map fun i=>Int.ofNat (63+i):=by
 unfold sq
 rw[qXs,List.filter_append,List.map_append,List.filter_map,List.map_map]
 rfl
theorem qJx (f:Nat->Bool):qEZ (sLo f) (sHi f)=some ((sq f).length,(sq f).length,sq f):=by
 unfold qEZ
 have h1:=qp7 f (sHi f) 63 0 rfl (by omega) qC (by unfold qC;omega)
 have e1:(qX (fun i=>f i&&decide (0<=i)) 63:Nat)=qX f 63:=qEr fun i _=>by simp
 rw[e1] at h1
 have h2:=qp6 f (((List.range 63).filter f).map Int.ofNat) 0 (by rw[List.length_map];exact Nat.le_trans (List.length_filter_le _ _) (by simp)) 18 0 rfl (by omega) qC (by unfold qC;omega)
 have e2:(qX (fun i=>f (63+i)&&decide (0<=i)) 18:Nat)=qX (fun i=>f (63+i)) 18:=qEr fun i _=>by simp
 rw[e2] at h2
 simp only[List.range_zero,List.filter_nil,List.map_nil,List.append_nil,List.length_nil,List.length_map] at h1 h2
 unfold sLo
 rw[h1,qA]
 simp only
 unfold sHi
 rw[h2,qA,qp9]
end Go.Kk.Pl
namespace Go.Kk.Pl
def qCD (c:Nat):Nat->Nat
 | 0=>0
 | k+1=>c+256*qCD c k
def w1 (k x:Nat):Nat:=((x / 2) &&& qCD 85 k)+(x &&& qCD 85 k)
def w2 (k x:Nat):Nat:=((x / 4) &&& qCD 51 k)+(x &&& qCD 51 k)
def w3 (k x:Nat):Nat:=(x / 16+x) &&& qCD 15 k
theorem qIi {a b r m:Nat} (ha:a<256) (hb:b<256):(a+256*r) &&& (b+256*m)=(a &&& b)+256*(r &&& m):=by
 have h1:a+256*r=2 ^ 8*r+a:=by omega
 have h2:b+256*m=2 ^ 8*m+b:=by omega
 have h3:(a &&& b)+256*(r &&& m)=2 ^ 8*(r &&& m)+(a &&& b):=by omega
 have h4:a &&& b<2 ^ 8:=Nat.lt_of_le_of_lt Nat.and_le_left ha
 apply Nat.eq_of_testBit_eq
 intro i
 rw[h1,h2,h3,Nat.testBit_and,Nat.testBit_two_pow_mul_add _ ha,Nat.testBit_two_pow_mul_add _ hb,Nat.testBit_two_pow_mul_add _ h4]
 split<;>simp
theorem qeh:∀ (b:Fin 256) (t:Fin 2),((b.val / 2+128*t.val) &&& 85)=((b.val / 2) &&& 85):=by decide +kernel
theorem qei:∀ (b:Fin 256) (t:Fin 4),((b.val / 4+64*t.val) &&& 51)=((b.val / 4) &&& 51):=by decide +kernel
def y1 (b:Nat):Nat:=((b / 2) &&& 85)+(b &&& 85)
def y2 (b:Nat):Nat:=((b / 4) &&& 51)+(b &&& 51)
def y3 (b:Nat):Nat:=(b / 16+b) &&& 15
theorem qds:∀ b:Fin 256,y1 b.val<256:=by decide +kernel
theorem qdt:∀ b:Fin 256,y2 (y1 b.val)<=68 /\ y3 (y2 (y1 b.val))<=8:=by decide +kernel
theorem qej:∀ (b:Fin 103) (t:Fin 8),((b.val / 16+b.val+16*t.val) &&& 15)=((b.val / 16+b.val) &&& 15):=by decide +kernel
theorem qdk {b r k:Nat} (hb:b<256):w1 (k+1) (b+256*r)=y1 b+256*w1 k r:=by
 unfold w1 y1
 have h1:(b+256*r) / 2=(b / 2+128*(r % 2))+256*(r / 2):=by omega
 rw[h1]
 simp only[qCD]
 have:=qeh ⟨b,hb⟩ ⟨r % 2,by omega⟩
 simp only at this
 rw[qIi (by omega) (by omega),qIi hb (by omega),this]
 omega
theorem qdl {b r k:Nat} (hb:b<256):w2 (k+1) (b+256*r)=y2 b+256*w2 k r:=by
 unfold w2 y2
 have h1:(b+256*r) / 4=(b / 4+64*(r % 4))+256*(r / 4):=by omega
 rw[h1]
 simp only[qCD]
 have:=qei ⟨b,hb⟩ ⟨r % 4,by omega⟩
 simp only at this
 rw[qIi (by omega) (by omega),qIi hb (by omega),this]
 omega
theorem qrj {b r k:Nat} (hb:b<=102) (hr:r % 16<8):w3 (k+1) (b+256*r)=y3 b+256*w3 k r:=by
 unfold w3 y3
 have h1:(b+256*r) / 16+(b+256*r)=(b / 16+b+16*(r % 16))+256*(r / 16+r):=by omega
 rw[h1]
 simp only[qCD]
 rw[qIi (by omega) (by omega),qej ⟨b,by omega⟩ ⟨r % 16,hr⟩]
def pop:Nat->Nat->Nat
 | 0,_=>0
 | k+1,x=>y3 (y2 (y1 (x % 256)))+pop k (x / 256)
def qJV:Nat->Nat->Nat
 | 0,_=>0
 | k+1,x=>y3 (y2 (y1 (x % 256)))+256*qJV k (x / 256)
theorem qri (k x:Nat):w2 k (w1 k x) % 16<8:=by
 cases k with
 | zero=>simp[w2,qCD]
 | succ k=>
   have h:x=x % 256+256*(x / 256):=by omega
   have h0:=qds ⟨x % 256,by omega⟩
   simp only at h0
   rw[h,qdk (by omega),qdl h0]
   have:∀ b:Fin 256,y2 (y1 b.val) % 16<8:=by decide +kernel
   have:=this ⟨x % 256,by omega⟩
   simp only at this
   omega
theorem qdm:∀ k x,w3 k (w2 k (w1 k x))=qJV k x
 | 0,x=>by simp[w3,qCD,qJV]
 | k+1,x=>by
   have h:x=x % 256+256*(x / 256):=by omega
   have h0:=qds ⟨x % 256,by omega⟩
   have h1:=(qdt ⟨x % 256,by omega⟩).1
   simp only at h0 h1
   conv=>lhs;rw[h]
   rw[qdk (by omega),qdl h0,qrj (by omega) (qri _ _),qdm k]
   rfl
theorem qqn {a0 a1 a2 a3 a4 a5 a6 a7:Nat} (h0:a0<=8) (h1:a1<=8) (h2:a2<=8) (h3:a3<=8) (h4:a4<=8) (h5:a5<=8) (h6:a6<=8) (h7:a7<=8):
  (a0 + 256 * (a1+256*(a2+256*(a3+256*(a4+256*(a5+256*(a6+256*(a7+256*0)))))))+
      (a0 + 256*(a1+256*(a2+256*(a3+256*(a4+256*(a5+256*(a6+256*(a7+256*0)))))))) / 256+
        (a0 + 256*(a1+256*(a2+256*(a3+256*(a4+256*(a5+256*(a6+256*(a7+256*0)))))))+
            (a0+256*(a1+256*(a2+256*(a3+256*(a4+256*(a5+256*(a6+256*(a7+256*0)))))))) / 256) /
         65536+
      (a0 + 256*(a1+256*(a2+256*(a3+256*(a4+256*(a5+256*(a6+256*(a7+256*0)))))))+
            (a0+256*(a1+256*(a2+256*(a3+256*(a4+256*(a5+256*(a6+256*(a7+256*0)))))))) / 256+
          (a0 + 256*(a1+256*(a2+256*(a3+256*(a4+256*(a5+256*(a6+256*(a7+256*0)))))))+
              (a0+256*(a1+256*(a2+256*(a3+256*(a4+256*(a5+256*(a6+256*(a7+256*0)))))))) / 256) /
           65536) /
       4294967296) %
   128 =
  a0+(a1+(a2+(a3+(a4+(a5+(a6+(a7+0))))))):=by
 rw[show a7+256*0=a7 by omega]
 generalize h:a6+256*a7=q6
 generalize g5:a5+256*q6=q5
 generalize g4:a4+256*q5=q4
 generalize g3:a3+256*q4=q3
 generalize g2:a2+256*q3=q2
 generalize g1:a1+256*q2=q1
 have e1:(a0+256*q1) / 256=q1:=by omega
 rw[e1]
 have e2:(a0+256*q1+q1) / 65536=q2+q3:=by omega
 rw[e2]
 have e3:(a0+256*q1+q1+(q2+q3)) / 4294967296=q4+q5+(q6+a7):=by omega
 rw[e3]
 omega
theorem qqo (x:Nat):
  let s:=qJV 8 x
  let t:=s+s / 256
  let u:=t+t / 65536
  (u+u / 4294967296) % 128=pop 8 x:=by
 have h:∀ y,y3 (y2 (y1 (y % 256)))<=8:=fun y=>(qdt ⟨y % 256,by omega⟩).2
 simp only[qJV,pop]
 have h0:=h x
 have h1:=h (x / 256)
 have h2:=h (x / 256 / 256)
 have h3:=h (x / 256 / 256 / 256)
 have h4:=h (x / 256 / 256 / 256 / 256)
 have h5:=h (x / 256 / 256 / 256 / 256 / 256)
 have h6:=h (x / 256 / 256 / 256 / 256 / 256 / 256)
 have h7:=h (x / 256 / 256 / 256 / 256 / 256 / 256 / 256)
 generalize y3 (y2 (y1 (x % 256)))=a0 at *
 generalize y3 (y2 (y1 (x / 256 % 256)))=a1 at *
 generalize y3 (y2 (y1 (x / 256 / 256 % 256)))=a2 at *
 generalize y3 (y2 (y1 (x / 256 / 256 / 256 % 256)))=a3 at *
 generalize y3 (y2 (y1 (x / 256 / 256 / 256 / 256 % 256)))=a4 at *
 generalize y3 (y2 (y1 (x / 256 / 256 / 256 / 256 / 256 % 256)))=a5 at *
 generalize y3 (y2 (y1 (x / 256 / 256 / 256 / 256 / 256 / 256 % 256)))=a6 at *
 generalize y3 (y2 (y1 (x / 256 / 256 / 256 / 256 / 256 / 256 / 256 % 256)))=a7 at *
 exact qqn h0 h1 h2 h3 h4 h5 h6 h7
theorem qS8 (f:Nat->Bool) (n:Nat):∀ m,qX f (n+m)=qX f n+2 ^ n*qX (fun i=>f (n+i)) m
 | 0=>by simp[qX]
 | m+1=>by
   rw[<- Nat.add_assoc]
   simp only[qX]
   rw[qS8 f n m,Nat.mul_add,Nat.add_assoc]
   congr 2
   cases f (n+m)<;>simp[Nat.pow_add]
theorem qfc:∀ a b c d e f g h:Bool,y3 (y2 (y1 (0+(bif a then 2 ^ 0 else 0)+(bif b then 2 ^ 1 else 0)+(bif c then 2 ^ 2 else 0)+(bif d then 2 ^ 3 else 0)+(bif e then 2 ^ 4 else 0)+(bif f then 2 ^ 5 else 0)+(bif g then 2 ^ 6 else 0)+(bif h then 2 ^ 7 else 0)))) =
  a.toNat+b.toNat+c.toNat+d.toNat+e.toNat+f.toNat+g.toNat+h.toNat:=by decide +kernel
theorem qXn (f:Nat->Bool):∀ k,∀ j,pop k (qX (fun i=>f (j+i)) (8*k))=((List.range (8*k)).map (j+·)).countP f
 | 0,j=>rfl
 | k+1,j=>by
   have e:qX (fun i=>f (j+i)) (8*(k+1))=qX (fun i=>f (j+i)) 8+256*qX (fun i=>f (j+8+i)) (8*k):=by
    rw[show 8*(k+1)=8+8*k by omega,qS8]
    simp only[Nat.add_assoc]
   have hlt:=qEA (fun i=>f (j+i)) 8
   simp only[pop]
   rw[e,show (qX (fun i=>f (j+i)) 8+256*qX (fun i=>f (j+8+i)) (8*k)) % 256=qX (fun i=>f (j+i)) 8 by omega,
    show (qX (fun i=>f (j+i)) 8+256*qX (fun i=>f (j+8+i)) (8*k)) / 256=qX (fun i=>f (j+8+i)) (8*k) by omega,qXn f k (j+8)]
   have h8:List.range (8*(k+1))=List.range 8++(List.range (8*k)).map (8+·):=by
    rw[show 8*(k+1)=8+8*k by omega,List.range_add]
   rw[h8,List.map_append,List.countP_append,List.map_map]
   have h1:y3 (y2 (y1 (qX (fun i=>f (j+i)) 8)))=((List.range 8).map (j+·)).countP f:=by
    have:=qfc (f (j+0)) (f (j+1)) (f (j+2)) (f (j+3)) (f (j+4)) (f (j+5)) (f (j+6)) (f (j+7))
    simp only[qX]
    rw[this]
    show _=List.countP f [j+0,j+1,j+2,j+3,j+4,j+5,j+6,j+7]
    simp only[List.countP_cons,List.countP_nil]
    cases f (j+0)<;>cases f (j+1)<;>cases f (j+2)<;>cases f (j+3)<;>cases f (j+4)<;>cases f (j+5)<;>cases f (j+6)<;>cases f (j+7)<;>rfl
   rw[h1]
   congr 2
   apply List.map_congr_left
   intro a _
   show j+8+a=j+(8+a)
   omega
theorem qG7 (a b:Nat):Int.fdiv (a:Int) (b:Int)=((a / b:Nat):Int):=by
 simp[Int.fdiv_eq_ediv]
def ocS (x:Nat):Nat:=
 let s:=w3 8 (w2 8 (w1 8 x))
 let t:=s+s / 256
 let u:=t+t / 65536
 (u+u / 4294967296) % 128
theorem qWv:qCD 85 8=6148914691236517205:=by decide +kernel
theorem qWu:qCD 51 8=3689348814741910323:=by decide +kernel
theorem qWt:qCD 15 8=1085102592571150095:=by decide +kernel
theorem qgE {n:Nat} (h:n<2 ^ 63):conv IntKind.u64 IntKind.i64 (n:Int)=n:=by
 unfold conv
 rw[show IntKind.within .u64 .i64=false from rfl,cond_false]
 exact qSY (by omega) (by omega)
theorem qeC {n:Nat} (h:n<2 ^ 63):qE .and .i64 (n:Int) 127=((n % 128:Nat):Int):=by
 unfold qE
 show IntKind.wrap .i64 _=_
 rw[show IntKind.bits .i64=64 from rfl,show (127:Int)=((127:Nat):Int) from rfl,qFG,qFG,BitVec.toNat_and,BitVec.toNat_ofNat,BitVec.toNat_ofNat,Nat.mod_eq_of_lt (by omega),Nat.mod_eq_of_lt (by omega)]
 rw[show (127:Nat)=2 ^ 7 - 1 by rfl,Nat.and_two_pow_sub_one_eq_mod]
 exact qSY (by omega) (by omega)
theorem qkn {x:Nat} (hx:x<2 ^ 64):qFw (x:Int)=some ((ocS x:Nat):Int):=by
 unfold qFw
 have d2:Int.fdiv (x:Int) 2=((x / 2:Nat):Int):=qG7 x 2
 have s1:IntKind.wrap IntKind.u64 (qE BinOp.and IntKind.u64 (Int.fdiv (x:Int) 2) 6148914691236517205+qE BinOp.and IntKind.u64 (x:Int) 6148914691236517205)=((w1 8 x:Nat):Int):=by
  have h1:qE BinOp.and IntKind.u64 ((x / 2:Nat):Int) 6148914691236517205=((x / 2 &&& 6148914691236517205:Nat):Int):=qD9 (by omega) (by decide)
  have h2:qE BinOp.and IntKind.u64 ((x:Nat):Int) 6148914691236517205=((x &&& 6148914691236517205:Nat):Int):=qD9 hx (by decide)
  rw[d2,h1,h2]
  have l1:=Nat.and_le_right (n:=x / 2) (m:=6148914691236517205)
  have l2:=Nat.and_le_right (n:=x) (m:=6148914691236517205)
  have:=qD4 (n:=((x / 2) &&& 6148914691236517205)+(x &&& 6148914691236517205)) (by omega)
  rw[Int.natCast_add] at this
  rw[this]
  unfold w1
  rw[qWv,Int.natCast_add]
 have l1:w1 8 x<2 ^ 64:=by
  unfold w1
  rw[qWv]
  have l1:=Nat.and_le_right (n:=x / 2) (m:=6148914691236517205)
  have l2:=Nat.and_le_right (n:=x) (m:=6148914691236517205)
  omega
 rw[s1]
 generalize hy:w1 8 x=y at *
 have s2:IntKind.wrap IntKind.u64 (qE BinOp.and IntKind.u64 (Int.fdiv (y:Int) 4) 3689348814741910323+qE BinOp.and IntKind.u64 (y:Int) 3689348814741910323)=((w2 8 y:Nat):Int):=by
  have h1:qE BinOp.and IntKind.u64 ((y / 4:Nat):Int) 3689348814741910323=((y / 4 &&& 3689348814741910323:Nat):Int):=qD9 (by omega) (by decide)
  have h2:qE BinOp.and IntKind.u64 ((y:Nat):Int) 3689348814741910323=((y &&& 3689348814741910323:Nat):Int):=qD9 l1 (by decide)
  rw[show Int.fdiv (y:Int) 4=((y / 4:Nat):Int) from qG7 y 4,h1,h2]
  have l1:=Nat.and_le_right (n:=y / 4) (m:=3689348814741910323)
  have l2:=Nat.and_le_right (n:=y) (m:=3689348814741910323)
  have:=qD4 (n:=((y / 4) &&& 3689348814741910323)+(y &&& 3689348814741910323)) (by omega)
  rw[Int.natCast_add] at this
  rw[this]
  unfold w2
  rw[qWu,Int.natCast_add]
 have l2:w2 8 y<=2*3689348814741910323:=by
  unfold w2
  rw[qWu]
  have l1:=Nat.and_le_right (n:=y / 4) (m:=3689348814741910323)
  have l2:=Nat.and_le_right (n:=y) (m:=3689348814741910323)
  omega
 rw[s2]
 generalize hz:w2 8 y=z at *
 have s3:qE BinOp.and IntKind.u64 (IntKind.wrap IntKind.u64 (Int.fdiv (z:Int) 16+(z:Int))) 1085102592571150095=((w3 8 z:Nat):Int):=by
  rw[show Int.fdiv (z:Int) 16=((z / 16:Nat):Int) from qG7 z 16,<- Int.natCast_add,qD4 (by omega)]
  have h1:qE BinOp.and IntKind.u64 ((z / 16+z:Nat):Int) 1085102592571150095=(((z / 16+z) &&& 1085102592571150095:Nat):Int):=qD9 (by omega) (by decide)
  rw[h1]
  unfold w3
  rw[qWt]
 have l3:w3 8 z<=1085102592571150095:=by
  unfold w3
  rw[qWt]
  exact Nat.and_le_right
 rw[s3]
 generalize hp:w3 8 z=p at *
 rw[show Int.fdiv (p:Int) 256=((p / 256:Nat):Int) from qG7 p 256,<- Int.natCast_add,qD4 (by omega),
  show Int.fdiv ((p+p / 256:Nat):Int) 65536=(((p+p / 256) / 65536:Nat):Int) from qG7 _ 65536,<- Int.natCast_add,qD4 (by omega),
  show Int.fdiv ((p+p / 256+(p+p / 256) / 65536:Nat):Int) 4294967296=(((p+p / 256+(p+p / 256) / 65536) / 4294967296:Nat):Int) from qG7 _ 4294967296,<- Int.natCast_add,qD4 (by omega),qgE (by omega),qeC (by omega)]
 unfold ocS
 rw[hy,hz,hp]
theorem qlO {x:Nat}:ocS x=pop 8 x:=by
 unfold ocS
 rw[qdm]
 exact qqo x
theorem qXL (f:Nat->Bool) {n:Nat} (hn:n<=64):qFw (qX f n:Nat)=some (((List.range n).countP f:Nat):Int):=by
 rw[qkn (qBe f hn),qlO]
 have e:qX f n=qX (fun i=>(fun i=>f i&&decide (i<n)) (0+i)) (8*8):=by
  apply Nat.eq_of_testBit_eq
  intro i
  rw[qBY,qBY]
  by_cases h:i<n
  ·simp[h,show i<64 by omega]
  ·simp[h]
 rw[e,qXn (fun i=>f i&&decide (i<n)) 8 0]
 congr 2
 have h64:List.range (8*8)=List.range n++(List.range (64 - n)).map (n+·):=by
  rw[<- List.range_add];congr 1;omega
 have hid:(List.range (8*8)).map (0+·)=List.range (8*8):=by
  have:(fun x:Nat=>0+x)=id:=by funext x;simp
  rw[this,List.map_id]
 rw[hid,h64,List.countP_append]
 have h1:(List.range n).countP (fun i=>f i&&decide (i<n))=(List.range n).countP f:=by
  apply List.countP_congr
  intro x hx
  simp only[List.mem_range] at hx
  simp[hx]
 have h2:((List.range (64 - n)).map (n+·)).countP (fun i=>f i&&decide (i<n))=0:=by
  rw[List.countP_eq_zero]
  intro x hx
  obtain⟨a,_,rfl⟩:=List.mem_map.1 hx
  simp
 rw[h1,h2,Nat.add_zero]
def qAv (f:Nat->Bool):Nat:=(List.range 81).countP f
theorem qf8 (f:Nat->Bool):qAv f<=81:=Nat.le_trans List.countP_le_length (by simp)
theorem qT4 (f:Nat->Bool):qIF (sLo f) (sHi f)=some ((qAv f:Nat):Int):=by
 have hle:=qf8 f
 unfold qIF sLo sHi
 have e:qAv f=(List.range 63).countP f+(List.range 18).countP fun i=>f (63+i):=by
  unfold qAv
  rw[qXs,List.countP_append,List.countP_map]
  rfl
 rw[qXL f (by omega),qA,qXL (fun i=>f (63+i)) (by omega),qA,<- Int.natCast_add,<- e,qAO (by omega) (by omega)]
end Go.Kk.Pl
namespace Go.Kk.Pl
theorem qV3 (x:Int):∃ v,qAC x=some v:=by
 unfold qAC
 repeat first | exact⟨_,rfl⟩ | apply qG1
theorem qLD (x:Int):∃ v,qDX x=some v:=⟨_,rfl⟩
theorem qVb (q x:Int):∃ v,qCA q x=some v:=by
 unfold qCA
 refine qGD (qV3 _) fun a=>?_
 repeat first | exact⟨_,rfl⟩ | apply qG1 | (refine qGD (qLD _) fun a=>?_)
theorem qVa (s k n:Int):∃ v,qCo s k n=some v:=by
 unfold qCo
 repeat first | exact⟨_,rfl⟩ | apply qG1 | (refine qGD (qLD _) fun a=>?_)
theorem qVc:∃ v,qCq=some v:=by
 unfold qCq
 refine qGD (qLD _) fun a=>?_
 exact⟨_,rfl⟩
theorem qh5 (b c d:List Int) (e:Int):∀ (n:Nat) (q acc:Int),q=81 - n->n<=81->0<=acc->∃ A,0<=A /\ ∀ f,qCT (f+n+1) acc b q c d e=some (A,c,d,e):=by
 intro n
 induction n with
 | zero=>
   intro q acc hq _ ha
   have hq:¬ q<81:=by omega
   refine⟨acc,ha,fun f=>?_⟩
   show qDV (qCT (f+0)) acc b q c d e=_
   unfold qDV
   rw[qI (by simpa using hq)]
 | succ n ih=>
   intro q acc hq hn ha
   have hq1:q<81:=by omega
   have hq0:0<=q:=by omega
   obtain⟨v,hv⟩:=qVb q (b.getD q.toNat 0)
   obtain⟨A,h1,h2⟩:=ih (q+1) (qE .xor .u64 acc v) (by omega) (by omega) (qNA _ _ _).1
   refine⟨A,h1,fun f=>?_⟩
   show qDV (qCT (f+n+1)) acc b q c d e=_
   unfold qDV
   rw[qD (by simpa using hq1),qD (qAN hq0 hq1)]
   simp only[cond_true]
   rw[hv,qA,qAO (by omega) (by omega)]
   exact h2 f
theorem qh4 (row:List Int) (sd:Int) (x2:List Int) (x3:Int) (x6 x7:List Int) (x8:Int):∀ (n:Nat) (k acc:Int),k=8 - n->n<=8->0<=acc->
  ∃ A,0<=A /\ ∀ f,qCp (f+n+1) acc sd x2 x3 row k x6 x7 x8=some (A,x2,x3,x6,x7,x8):=by
 intro n
 induction n with
 | zero=>
   intro k acc hk _ ha
   have hk:¬ k<8:=by omega
   refine⟨acc,ha,fun f=>?_⟩
   show qDU (qCp (f+0)) acc sd x2 x3 row k x6 x7 x8=_
   unfold qDU
   rw[qI (by simpa using hk)]
 | succ n ih=>
   intro k acc hk hn ha
   have hk1:k<8:=by omega
   have hk0:0<=k:=by omega
   obtain⟨v,hv⟩:=qVa sd k (conv .i8 .i64 (row.getD k.toNat 0))
   obtain⟨A,h1,h2⟩:=ih (k+1) (qE .xor .u64 acc v) (by omega) (by omega) (qNA _ _ _).1
   refine⟨A,h1,fun f=>?_⟩
   show qDU (qCp (f+n+1)) acc sd x2 x3 row k x6 x7 x8=_
   unfold qDU
   rw[qD (by simpa using hk1),qD (qAN hk0 hk1)]
   simp only[cond_true]
   rw[hv,qA,qAO (by omega) (by omega)]
   exact h2 f
theorem qh3 (h c d:List Int) (e:Int):∀ (n:Nat) (sd acc:Int),sd=2 - n->n<=2->0<=acc->∃ A,0<=A /\ ∀ f,qBr (f+n+1) acc h sd c d e=some (A,c,d,e):=by
 intro n
 induction n with
 | zero=>
   intro sd acc hq _ ha
   have hq:¬ sd<2:=by omega
   refine⟨acc,ha,fun f=>?_⟩
   show qDW (qBr (f+0)) acc h sd c d e=_
   unfold qDW
   rw[qI (by simpa using hq)]
 | succ n ih=>
   intro sd acc hq hn ha
   have hq1:sd<2:=by omega
   have hq0:0<=sd:=by omega
   obtain⟨A1,j1,j2⟩:=qh4 (List.take 8 (List.drop (Nat.add (Nat.mul (Int.toNat sd) 7) (Int.toNat sd)) h)) sd h sd c d e 8 0 acc (by omega) (by omega) ha
   obtain⟨A,h1,h2⟩:=ih (sd+1) A1 (by omega) (by omega) j1
   obtain⟨g,hg⟩:=qd 8 (by omega)
   refine⟨A,h1,fun f=>?_⟩
   show qDW (qBr (f+n+1)) acc h sd c d e=_
   unfold qDW
   rw[qD (by simpa using hq1),qD (qAN hq0 hq1),hg,j2 g,qA]
   simp only
   rw[qAO (by omega) (by omega)]
   exact h2 f
theorem qV1 (b h:List Int) (s:Int):∃ k,qDT b h s=some k /\ 0<=k:=by
 obtain⟨A,a0,a1⟩:=qh5 b b h s 81 0 0 (by omega) (by omega) (by omega)
 obtain⟨B,b0,b1⟩:=qh3 h b h s 2 0 A (by omega) (by omega) a0
 obtain⟨g,hg⟩:=qd 81 (by omega)
 obtain⟨g2,hg2⟩:=qd 2 (by omega)
 obtain⟨w,hw⟩:=qVc
 have e1:qCT qC 0 b 0 b h s=some (A,b,h,s):=by rw[hg];exact a1 g
 have e2:qBr qC A h 0 b h s=some (B,b,h,s):=by rw[hg2];exact b1 g2
 unfold qDT
 rw[e1,qA]
 simp only
 rw[e2,qA]
 simp only
 rw[hw,qA]
 cases hs:s==1
 ·exact⟨B,rfl,b0⟩
 ·exact⟨_,rfl,(qNA _ _ _).1⟩
theorem qSr (b h:List Int) (s:Int) (N:Nat) (h0:0<N) (h1:N<=65536):∃ q,q<N /\ ∀ u n xs,qEg b h s N u n xs=some q:=by
 obtain⟨k,hk,hk0⟩:=qV1 b h s
 have e1:N % 18446744073709551616=N:=Nat.mod_eq_of_lt (by omega)
 have e2:Int.tmod k (Int.ofNat N)=k % N:=Int.tmod_eq_emod_of_nonneg hk0
 have e3:0<=k % N:=Int.emod_nonneg _ (by omega)
 have e4:k % (N:Int)<N:=Int.emod_lt_of_pos _ (by omega)
 refine⟨(k % N).toNat,by omega,fun u n xs=>?_⟩
 unfold qEg
 rw[hk,qA,e1,e2,qI (by simp;omega),qD (qAN e3 e4)]
def qCb (b h:List Int) (s e0 e1 e2 e3 e4 e5:Int) (pm:Bool):List Int:=1 :: (b++(h++[s,e0,e1,e2,e3,e4,e5,bi pm]))
theorem qlS (b h:List Int) (s e0 e1 e2 e3 e4 e5:Int) (pm:Bool) {N q:Nat} (hat:∀ u n xs,qEg b h s N u n xs=some q) (u:Int) (n:Nat) (xs:List (List Int))
  (hlen:(xs.getD q []).length=106):
  qD2 b h s e0 e1 e2 e3 e4 e5 pm N u n xs=some (N,(if (xs.getD q []).getD 0 0=0 then IntKind.wrap .i64 (u+1) else u),n,xs.set q (qCb b h s e0 e1 e2 e3 e4 e5 pm)):=by
 unfold qD2
 rw[hat,qA]
 have hd:List.drop 106 (List.getD xs q [])=[]:=List.drop_eq_nil_of_le (by omega)
 rw[hd]
 have hr:(1 :: List.append (List.append [] (List.append b (List.append h [s,e0,e1,e2,e3,e4,e5,bi pm]))) [])=qCb b h s e0 e1 e2 e3 e4 e5 pm:=by
  show 1 :: ([]++(b++(h++[s,e0,e1,e2,e3,e4,e5,bi pm]))++[])=_
  simp[qCb]
 rw[hr]
 by_cases h0:(xs.getD q []).getD 0 0=0
 ·rw[if_pos h0,qD (by rw[h0];rfl)]
 ·rw[if_neg h0,qI (by simp only[bne,Bool.not_not];exact beq_eq_false_iff_ne.2 h0)]
theorem qoE {b h:List Int} {s e0 e1 e2 e3 e4 e5:Int} {pm:Bool} (hb:b.length=81) (hh:h.length=16):(qCb b h s e0 e1 e2 e3 e4 e5 pm).length=106:=by simp[qCb,hb,hh]
theorem qhc (b h:List Int) (s:Int) {N q:Nat} (hat:∀ u n xs,qEg b h s N u n xs=some q) (u:Int) (n:Nat) (xs:List (List Int))
  {b' h':List Int} {s' e0 e1 e2 e3 e4 e5:Int} {pm:Bool} (hr:xs.getD q []=qCb b' h' s' e0 e1 e2 e3 e4 e5 pm) (hb:b'.length=81) (hh:h'.length=16):
  qD1 b h s N u n xs=some (if b'=b /\ h'=h /\ s'=s then (e0,e1,e2,e3,e4,e5,pm,true) else (0,0,0,0,0,0,false,false)):=by
 unfold qD1
 rw[hat,qA]
 rw[hr]
 have t98:List.take 98 (List.drop 1 (qCb b' h' s' e0 e1 e2 e3 e4 e5 pm))=b'++(h'++[s']):=by
  simp only[qCb,List.drop_succ_cons,List.drop_zero]
  rw[List.take_append,List.take_of_length_le (by omega),hb,List.take_append,List.take_of_length_le (by omega),hh]
  rfl
 have t81:List.take 81 (b'++(h'++[s']))=b':=by rw[<- hb];exact List.take_left
 have d81:List.drop 81 (b'++(h'++[s']))=h'++[s']:=by rw[<- hb];exact List.drop_left
 have t16:List.take 16 (h'++[s'])=h':=by rw[<- hh];exact List.take_left
 have d16:List.drop 16 (h'++[s'])=[s']:=by rw[<- hh];exact List.drop_left
 have d99:List.drop 99 (qCb b' h' s' e0 e1 e2 e3 e4 e5 pm)=[e0,e1,e2,e3,e4,e5,bi pm]:=by
  have:qCb b' h' s' e0 e1 e2 e3 e4 e5 pm=(1 :: (b'++(h'++[s'])))++[e0,e1,e2,e3,e4,e5,bi pm]:=by simp[qCb]
  rw[this]
  have hl:(1 :: (b'++(h'++[s']))).length=99:=by simp[hb,hh]
  rw[<- hl];exact List.drop_left
 rw[t98,t81,d81,t16,d16,d99]
 have hu:(qCb b' h' s' e0 e1 e2 e3 e4 e5 pm).getD 0 0=1:=rfl
 rw[hu,qI (by rfl)]
 by_cases he:b'=b /\ h'=h /\ s'=s
 ·obtain⟨rfl,rfl,rfl⟩:=he
  rw[if_pos ⟨rfl,rfl,rfl⟩,qI (by simp)]
  simp[qet]
 ·rw[if_neg he,qD]
  simp only[Bool.not_eq_true',Bool.and_eq_false_iff,beq_eq_false_iff_ne]
  by_cases h1:b'=b
  ·by_cases h2:h'=h
   ·exact .inr (.inr fun h3=>he ⟨h1,h2,h3⟩)
   ·exact .inr (.inl h2)
  ·exact .inl h1
theorem qhd (b h:List Int) (s:Int) {N q:Nat} (hat:∀ u n xs,qEg b h s N u n xs=some q) (u:Int) (n:Nat) (xs:List (List Int)) (hr:(xs.getD q []).getD 0 0=0):
  qD1 b h s N u n xs=some (0,0,0,0,0,0,false,false):=by
 unfold qD1
 rw[hat,qA]
 rw[qD (by rw[hr];rfl)]
end Go.Kk.Pl
namespace Go.Kk.Pl
def kd (x:Int):Int:=if x<1 \/ 31<x \/ x=13 \/ x=16 \/ x=29 then 0 else x % 16
def sd (x:Int):Int:=if kd x=0 then -1 else if x<16 then 0 else 1
theorem qNl {x:Int} (h0:0<=x) (h1:x<=31):∃ n:Fin 32,x=((n.val:Nat):Int):=⟨⟨x.toNat,by omega⟩,by simp;omega⟩
theorem qiR:∀ n:Fin 32,qAC ((n.val:Nat):Int)=some (kd ((n.val:Nat):Int)):=by decide +kernel
theorem qn0:∀ n:Fin 32,qAS ((n.val:Nat):Int)=some (kd ((n.val:Nat):Int)):=by decide +kernel
theorem qBd (x:Int):qAC x=some (kd x):=by
 by_cases h0:0<=x
 ·by_cases h1:x<=31
  ·obtain⟨n,rfl⟩:=qNl h0 h1
   exact qiR n
  ·unfold qAC
   rw[qI (by simp;omega),qD (by simp;omega),qI (by simp;omega),qI (by simp;omega)]
   unfold kd
   rw[if_pos (by omega)]
 ·unfold qAC
  rw[qD (by simp;omega),qI (by simp;omega),qI (by simp;omega)]
  unfold kd
  rw[if_pos (by omega)]
theorem qBy (x:Int):qAS x=some (kd x):=by
 by_cases h0:0<=x
 ·by_cases h1:x<=31
  ·obtain⟨n,rfl⟩:=qNl h0 h1
   exact qn0 n
  ·unfold qAS
   rw[qI (by simp;omega),qD (by simp;omega)]
   unfold kd
   rw[if_pos (by omega)]
 ·unfold qAS
  rw[qD (by simp;omega)]
  unfold kd
  rw[if_pos (by omega)]
theorem qDx (x:Int):qAQ x=some (sd x):=by
 unfold qAQ
 rw[qBd,qA]
 unfold sd
 by_cases h:kd x=0
 ·rw[qD (by simp[h]),if_pos h]
 ·rw[qI (by simpa using h),if_neg h]
  by_cases h2:x<16
  ·rw[qD (by simpa using h2),if_pos h2]
  ·rw[qI (by simpa using h2),if_neg h2]
theorem qE6:kd 0=0:=by decide
theorem qJC {x:Int} (h:kd x≠0):1<=x /\ x<=31:=by
 unfold kd at h
 split at h
 ·exact absurd rfl h
 ·omega
theorem qIB {x:Int} (h:kd x≠0):sd x=0 \/ sd x=1:=by
 unfold sd
 rw[if_neg h]
 split<;>simp
structure Clean (b:List Int):Prop where
 len:b.length=81
 ok:∀ i,i<81->b.getD i 0=0 \/ kd (b.getD i 0)≠0
def at_ (b:List Int) (q:Int):Int:=if 0<=q /\ q<81 then b.getD q.toNat 0 else 0
def put (b:List Int) (q x:Int):List Int:=if 0<=q /\ q<81 then b.set q.toNat (if kd x=0 then 0 else x) else b
theorem qCz (q:Int) (b h:List Int) (s:Int) (by_ sides:List (List Int)):qAf q b h s by_ sides=some (at_ b q):=by
 unfold qAf at_
 by_cases h0:q<0
 ·rw[qD (by simpa using h0),if_neg (by omega)]
 ·rw[qI (by simpa using h0)]
  by_cases h1:81<=q
  ·rw[qD (by simpa using h1),if_neg (by omega)]
  ·rw[qI (by simpa using h1),qD (qAN (by omega) (by omega)),if_pos (by omega)]
theorem Clean.at_ {b:List Int} (hc:Clean b) (q:Int):at_ b q=0 \/ kd (at_ b q)≠0:=by
 unfold Pl.at_
 split
 ·exact hc.ok _ (by omega)
 ·exact .inl rfl
theorem Clean.put {b:List Int} (hc:Clean b) (q x:Int):Clean (put b q x):=by
 unfold Pl.put
 split
 ·rename_i hq
  refine⟨by rw[List.length_set];exact hc.len,fun i hi=>?_⟩
  by_cases hqi:q.toNat=i
  ·subst hqi
   rw[List.getD_eq_getElem?_getD,List.getElem?_set_self (by rw[hc.len];exact hi),Option.getD_some]
   split
   ·exact .inl rfl
   ·rename_i h;exact .inr h
  ·rw[List.getD_eq_getElem?_getD,List.getElem?_set_ne hqi,<- List.getD_eq_getElem?_getD]
   exact hc.ok i hi
 ·exact hc
theorem qDK {b:List Int} (hl:b.length=81) {q:Int} (hq:0<=q /\ q<81) (x p:Int):at_ (put b q x) p=if p=q then (if kd x=0 then 0 else x) else at_ b p:=by
 unfold at_ put
 rw[if_pos hq]
 by_cases hp:0<=p /\ p<81
 ·rw[if_pos hp]
  by_cases hpq:p=q
  ·subst hpq
   rw[if_pos rfl,List.getD_eq_getElem?_getD,List.getElem?_set_self (by omega),Option.getD_some]
  ·rw[if_neg hpq,if_pos hp,List.getD_eq_getElem?_getD,List.getElem?_set_ne (by omega),<- List.getD_eq_getElem?_getD]
 ·rw[if_neg hp,if_neg (fun h:p=q=>hp (by subst h;exact hq)),if_neg hp]
end Go.Kk.Pl
namespace Go.Kk.Pl
def prS (f:Nat->Bool):List Int:=[sLo f,sHi f]
theorem qLY {f g:Nat->Bool} (h:∀ i,i<81->f i=g i):prS f=prS g:=by
 obtain⟨h1,h2⟩:=qB0 h
 unfold prS;rw[h1,h2]
def pcs (b:List Int) (x:Int) (i:Nat):Bool:=decide (x≠0 /\ b.getD i 0=x)
def sds (b:List Int) (s:Int) (i:Nat):Bool:=decide (sd (b.getD i 0)=s)
def qJ (b:List Int):List (List Int):=(List.range 32).map fun (x:Nat)=>prS (pcs b x)
def qK (b:List Int):List (List Int):=(List.range 2).map fun (s:Nat)=>prS (sds b s)
theorem map_set {α:Type} (G:Nat->α) (n k:Nat) (v:α):((List.range n).map G).set k v=(List.range n).map fun j=>if j=k then v else G j:=by
 apply List.ext_getElem
 ·simp
 ·intro i h1 h2
  simp only[List.length_set,List.length_map,List.length_range] at h1
  rw[List.getElem_set]
  simp only[List.getElem_map,List.getElem_range]
  by_cases h:k=i
  ·simp[h]
  ·simp[h,Ne.symm h]
theorem qO8 {α:Type} (G:Nat->α) {n k:Nat} (h:k<n) (d:α):((List.range n).map G).getD k d=G k:=by
 rw[List.getD_eq_getElem?_getD,List.getElem?_map,List.getElem?_range h];rfl
theorem qNN (b:List Int) {x:Int} (h0:0<=x) (h1:x<32):(qJ b).getD x.toNat []=prS (pcs b x):=by
 unfold qJ
 rw[qO8 _ (by omega),show ((x.toNat:Nat):Int)=x by omega]
theorem qcB (b:List Int) {s:Int} (h0:0<=s) (h1:s<2):(qK b).getD s.toNat []=prS (sds b s):=by
 unfold qK
 rw[qO8 _ (by omega),show ((s.toNat:Nat):Int)=s by omega]
theorem qHj (f:Nat->Bool):List.headD (List.take 2 (prS f)) 0=sLo f:=rfl
theorem qHk (f:Nat->Bool):List.headD (List.tail (List.take 2 (prS f))) 0=sHi f:=rfl
theorem qLZ (f:Nat->Bool) (g:Nat->Bool):sLo f :: sHi f :: List.drop 2 (prS g)=prS f:=rfl
theorem qJn:sd 0 = -1:=by decide
theorem qaq {x:Int} (h:kd x=0):sd x = -1:=by unfold sd;rw[if_pos h]
theorem qF6 {b:List Int} {q:Nat} (hq:q<b.length) (x:Int) (i:Nat):(b.set q x).getD i 0=if i=q then x else b.getD i 0:=by
 rw[List.getD_eq_getElem?_getD]
 by_cases h:i=q
 ·subst h;rw[List.getElem?_set_self hq,if_pos rfl];rfl
 ·rw[List.getElem?_set_ne (Ne.symm h),if_neg h,List.getD_eq_getElem?_getD]
theorem qTn {b b':List Int} {F:Nat->Bool} {x:Int} (h0:0<=x) (h:∀ j:Nat,j<32->∀ i,i<81->(if (j:Int)=x then F i else pcs b j i)=pcs b' j i):List.set (qJ b) x.toNat (prS F)=qJ b':=by
 unfold qJ
 rw[map_set]
 apply List.map_congr_left
 intro j hj
 simp only[List.mem_range] at hj
 have h:=h j hj
 split
 ·rename_i hjx
  exact qLY fun i hi=>by rw[<- h i hi,if_pos (by omega)]
 ·rename_i hjx
  exact qLY fun i hi=>by rw[<- h i hi,if_neg (by omega)]
theorem qcC {b b':List Int} {F:Nat->Bool} {x:Int} (h0:0<=x) (h:∀ j:Nat,j<2->∀ i,i<81->(if (j:Int)=x then F i else sds b j i)=sds b' j i):List.set (qK b) x.toNat (prS F)=qK b':=by
 unfold qK
 rw[map_set]
 apply List.map_congr_left
 intro j hj
 simp only[List.mem_range] at hj
 have h:=h j hj
 split
 ·rename_i hjx
  exact qLY fun i hi=>by rw[<- h i hi,if_pos (by omega)]
 ·rename_i hjx
  exact qLY fun i hi=>by rw[<- h i hi,if_neg (by omega)]
section
variable {b:List Int} {q:Int} (hq0:0<=q) (hql:q.toNat<b.length)
include hq0 hql
theorem qfa (hz:b.getD q.toNat 0=0) {x:Int} (hx:1<=x):List.set (qJ b) x.toNat (prS fun i=>pcs b x i||only q i)=qJ (b.set q.toNat x):=by
 refine qTn (by omega) fun j hj i hi=>?_
 unfold pcs only
 rw[qF6 hql,Bool.eq_iff_iff]
 by_cases hi:i=q.toNat
 ·subst hi
  rw[hz]
  split<;>simp<;>omega
 ·have:¬ (i:Int)=q:=by omega
  split
  ·rename_i hjx
   simp[this,hjx]
  ·simp
theorem qpn (hz:b.getD q.toNat 0=0) {x:Int} (hx:sd x=0 \/ sd x=1):List.set (qK b) (sd x).toNat (prS fun i=>sds b (sd x) i||only q i)=qK (b.set q.toNat x):=by
 refine qcC (by omega) fun j hj i hi=>?_
 unfold sds only
 rw[qF6 hql,Bool.eq_iff_iff]
 by_cases hi:i=q.toNat
 ·subst hi
  rw[hz,qJn]
  split<;>simp<;>omega
 ·have:¬ (i:Int)=q:=by omega
  split
  ·rename_i hjx
   simp[this,hjx]
  ·simp
theorem qfb {x:Int} (hz:b.getD q.toNat 0=x) (hx:1<=x):List.set (qJ b) x.toNat (prS fun i=>pcs b x i && !only q i)=qJ (b.set q.toNat 0):=by
 refine qTn (by omega) fun j hj i hi=>?_
 unfold pcs only
 rw[qF6 hql,Bool.eq_iff_iff]
 by_cases hi:i=q.toNat
 ·subst hi
  rw[hz]
  split<;>simp<;>omega
 ·have:¬ (i:Int)=q:=by omega
  split
  ·rename_i hjx
   simp[this,hjx]
  ·simp
theorem qpo {x:Int} (hz:b.getD q.toNat 0=x) (hx:sd x=0 \/ sd x=1):List.set (qK b) (sd x).toNat (prS fun i=>sds b (sd x) i && !only q i)=qK (b.set q.toNat 0):=by
 refine qcC (by omega) fun j hj i hi=>?_
 unfold sds only
 rw[qF6 hql,Bool.eq_iff_iff]
 by_cases hi:i=q.toNat
 ·subst hi
  rw[hz,if_pos rfl,qJn]
  split<;>simp<;>omega
 ·have:¬ (i:Int)=q:=by omega
  split
  ·rename_i hjx
   simp[this,hjx]
  ·simp
end
theorem qPc {b:List Int} (hc:Clean b) (q x:Int) (h:List Int) (s:Int):
  qF0 q x b h s (qJ b) (qK b)=some (put b q x,h,s,qJ (put b q x),qK (put b q x)):=by
 unfold qF0 put
 by_cases h0:q<0
 ·rw[qD (by simpa using h0),if_neg (by omega)]
 rw[qI (by simpa using h0)]
 by_cases h1:81<=q
 ·rw[qD (by simpa using h1),if_neg (by omega)]
 rw[qI (by simpa using h1),qD (qAN (by omega) (by omega)),if_pos (by omega)]
 simp only[qDx,qBd,qA]
 have hq81:inB q 81=true:=qAN (by omega) (by omega)
 have hb:=hc.ok q.toNat (by omega)
 have hql:q.toNat<b.length:=by rw[hc.len];omega
 have key:∀ (b:List Int),q.toNat<b.length->b.getD q.toNat 0=0->(br (kd x==0)
   (br (inB q 81) (some (List.set b q.toNat 0,h,s,qJ b,qK b)) none)
   (br (inB q 81) (br (x != 0) (br (inB x 32) (ob (qBA (List.headD (List.take 2 (List.getD (qJ b) x.toNat [])) 0) (List.headD (List.tail (List.take 2 (List.getD (qJ b) x.toNat []))) 0) q) fun z=>
    br (inB x 32) (br (inB (sd x) 2) (ob (qBA (List.headD (List.take 2 (List.getD (qK b) (sd x).toNat [])) 0) (List.headD (List.tail (List.take 2 (List.getD (qK b) (sd x).toNat []))) 0) q) fun y=>
     br (inB (sd x) 2) (some (List.set b q.toNat x,h,s,List.set (qJ b) x.toNat (z.1 :: z.2 :: List.drop 2 (List.getD (qJ b) x.toNat [])),List.set (qK b) (sd x).toNat (y.1 :: y.2 :: List.drop 2 (List.getD (qK b) (sd x).toNat [])))) none) none) none) none)
    (some (List.set b q.toNat x,h,s,qJ b,qK b))) none)) =
   some (b.set q.toNat (if kd x=0 then 0 else x),h,s,qJ (b.set q.toNat (if kd x=0 then 0 else x)),qK (b.set q.toNat (if kd x=0 then 0 else x))):=by
  intro b hql hz
  by_cases hk:kd x=0
  ·rw [qD (by simpa using hk),qD hq81,if_pos hk]
   have:b.set q.toNat 0=b:=by
    apply List.ext_getElem
    ·rw[List.length_set]
    ·intro i i1 i2
     rw[List.getElem_set]
     split
     ·rename_i hi
      rw[List.getD_eq_getElem?_getD,List.getElem?_eq_getElem hql] at hz
      subst hi
      exact hz.symm
     ·rfl
   rw[this]
  ·have hx:=qJC hk
   have hsd:=qIB hk
   have hs:inB (sd x) 2=true:=by rcases hsd with h | h<;>rw[h]<;>rfl
   rw[qI (by simpa using hk),qD hq81,qD (by simp;omega),qD (qAN (by omega) (by omega)),if_neg hk,qNN b (by omega) (by omega),
    qHj,qHk,qGj,qA]
   simp only
   rw[qD (qAN (by omega) (by omega)),qD hs,qcB b (by omega) (by omega),qHj,qHk,qGj,qA]
   simp only
   rw[qD hs,qLZ,qLZ,qfa (by omega) hql hz hx.1,qpn (by omega) hql hz hsd]
 by_cases hz:b.getD q.toNat 0=0
 ·rw[qI (by simpa using hz)]
  exact key b hql hz
 ·have hkb:=hb.resolve_left hz
  have hxb:=qJC hkb
  have hsdb:=qIB hkb
  have hsb:inB (sd (b.getD q.toNat 0)) 2=true:=by rcases qIB hkb with h | h<;>rw[h]<;>rfl
  have hb32:inB (b.getD q.toNat 0) 32=true:=qAN (by omega) (by omega)
  rw[qD (by simpa using hz),qD hb32,qNN b (by omega) (by omega),qHj,qHk,qKD,qA]
  simp only
  rw[qD hb32,qD hsb,qcB b (by omega) (by omega),qHj,qHk,qKD,qA]
  simp only
  rw[qD hsb,qLZ,qLZ,qfb (by omega) hql rfl hxb.1,qpo (by omega) hql rfl hsdb]
  have:=key (b.set q.toNat 0) (by simpa using hql) (by rw[qF6 hql,if_pos rfl])
  rw[List.set_set] at this
  simp only[List.set_set] at this
  exact this
def cl1 (x:Int):Int:=if kd x=0 then 0 else x
def cl (b:List Int):List Int:=b.map cl1
theorem qf3 (b:List Int) (i:Nat):(cl b).getD i 0=cl1 (b.getD i 0):=by
 unfold cl
 rw[List.getD_eq_getElem?_getD,List.getElem?_map,List.getD_eq_getElem?_getD]
 cases b[i]? <;> rfl
theorem qT1 (b:List Int):(cl b).length=b.length:=by simp[cl]
theorem qf4 {b:List Int} (hc:Clean b):cl b=b:=by
 apply List.ext_getElem
 ·exact qT1 b
 ·intro i h1 h2
  have:=hc.ok i (by rw[<- hc.len];exact h2)
  rw[List.getD_eq_getElem?_getD,List.getElem?_eq_getElem h2] at this
  simp only[Option.getD_some] at this
  simp only[cl,List.getElem_map,cl1]
  split
  ·rename_i hk
   rcases this with h | h
   ·exact h.symm
   ·exact absurd hk h
  ·rfl
theorem qjx {b:List Int} (hl:b.length=81) (h:List Int) (s:Int):∀ (n i:Nat),i+n=81->∀ (B:List Int),Clean B->(∀ j,j<i->B.getD j 0=cl1 (b.getD j 0))->
  ∀ f,qEB (f+n+1) b i B h s (qJ B) (qK B)=some (cl b,h,s,qJ (cl b),qK (cl b)):=by
 intro n
 induction n with
 | zero=>
   intro i hi B hB hj f
   have:B=cl b:=by
    apply List.ext_getElem
    ·rw[hB.len,qT1,hl]
    ·intro j h1 h2
     have:=hj j (by rw[hB.len] at h1;omega)
     rw[<- qf3,List.getD_eq_getElem?_getD,List.getElem?_eq_getElem h1,List.getD_eq_getElem?_getD,List.getElem?_eq_getElem h2] at this
     exact this
   subst this
   show qGy (qEB (f+0)) _ _ _ _ _ _ _=_
   unfold qGy
   rw[qI (by simp;omega)]
 | succ n ih=>
   intro i hi B hB hj f
   show qGy (qEB (f+n+1)) _ _ _ _ _ _ _=_
   unfold qGy
   rw[qD (by simp;omega),qD (qAN (by omega) (by omega))]
   simp only[cond_true]
   rw[qPc hB,qA]
   simp only
   rw[qAO (by omega) (by omega)]
   refine ih (i+1) (by omega) _ (hB.put _ _) (fun j hj'=>?_) f
   unfold put
   rw[if_pos (by omega),qF6 (by rw[hB.len];omega)]
   by_cases hji:j=i
   ·subst hji
    rw[if_pos (by simp)]
    rfl
   ·rw[if_neg (by simp;exact hji),hj j (by omega)]
theorem qf5:Clean (List.replicate 81 0):=⟨by simp,fun i hi=>.inl (by rw[List.getD_eq_getElem?_getD,List.getElem?_replicate,if_pos hi];rfl)⟩
theorem qfZ:qJ (List.replicate 81 0)=List.replicate 32 [0,0]:=by decide +kernel
theorem qpm:qK (List.replicate 81 0)=[[0,0],[0,0]]:=by decide +kernel
theorem qjw {b:List Int} (hl:b.length=81) (h:List Int) (s:Int):qIl b h s=some (cl b,h,s,qJ (cl b),qK (cl b)):=by
 have hz:=qjx hl h s 81 0 (by omega) _ qf5 (fun j hj=>absurd hj (by omega))
 obtain⟨g,hg⟩:=qd 81 (by omega)
 have:=hz g
 rw[<- hg,qfZ,qpm] at this
 unfold qIl
 show ob (qEB qC b 0 (List.replicate 81 0) h s (List.replicate 32 [0,0]) [[0,0],[0,0]]) _=_
 rw[show qEB qC b 0 (List.replicate 81 0) h s (List.replicate 32 [0,0]) [[0,0],[0,0]]=_ from this,qA]
end Go.Kk.Pl
namespace Go.Kk.Pl
section
variable {α:Type} {x y:α}
theorem qf {a b:Int} (h:a<b):br (decide (a<b)) x y=x:=qD (by simpa using h)
theorem qZ {a b:Int} (h:¬ a<b):br (decide (a<b)) x y=y:=qI (by simpa using h)
theorem qIk {a b:Int} (h:a<=b):br (decide (a<=b)) x y=x:=qD (by simpa using h)
theorem qGw {a b:Int} (h:¬ a<=b):br (decide (a<=b)) x y=y:=qI (by simpa using h)
theorem qCO {a b:Int} (h:a>b):br (decide (a>b)) x y=x:=qD (by simpa using h)
theorem qB5 {a b:Int} (h:¬ a>b):br (decide (a>b)) x y=y:=qI (by simpa using h)
theorem qB4 {a b:Int} (h:a >= b):br (decide (a >= b)) x y=x:=qD (by simpa using h)
theorem qBX {a b:Int} (h:¬ a >= b):br (decide (a >= b)) x y=y:=qI (by simpa using h)
theorem qn {a b:Int} (h:a=b):br (a==b) x y=x:=qD (by simpa using h)
theorem qm {a b:Int} (h:¬ a=b):br (a==b) x y=y:=qI (by simpa using h)
theorem qq {a b:Int} (h:¬ a=b):br (a != b) x y=x:=qD (by simpa using h)
theorem qu {a b:Int} (h:a=b):br (a != b) x y=y:=qI (by simpa using h)
theorem qg {a:Int} {n:Nat} (h0:0<=a) (h1:a<n):br (inB a n) x y=x:=qD (qAN h0 h1)
theorem b_t:br true x y=x:=rfl
theorem b_f:br false x y=y:=rfl
end
theorem w_s {n:Int} (h1:-1000000000<=n) (h2:n<=1000000000):IntKind.wrap .i64 n=n:=qAO h1 h2
theorem w_8 {n:Int} (h1:-128<=n) (h2:n<=127):IntKind.wrap .i8 n=n:=qB3 h1 h2
theorem c_8 (n:Int):conv IntKind.i8 IntKind.i64 n=n:=rfl
theorem tn (n:Nat):Int.toNat (n:Int)=n:=rfl
theorem any_cons (p:Nat->Bool) (i n:Nat):(List.range' i (n+1)).any p=(p i||(List.range' (i+1) n).any p):=by rw[List.range'_succ];rfl
theorem qXt:List.range 81=List.range' 0 81:=by rw[List.range_eq_range']
theorem qGp {b:List Int} {i:Nat} (h:i<b.length):b.getD i 0=b[i]:=by rw[List.getD_eq_getElem?_getD,List.getElem?_eq_getElem h];rfl
end Go.Kk.Pl
namespace Go.Kk.Pl
def rw_ (x:Int):Int:=if x<1 \/ 15<x \/ x=13 then 0 else if 8<x then x - 8 else x
theorem qad (x:Int):qHr x=some (rw_ x):=by
 unfold qHr rw_
 by_cases h1:x<1
 ·rw[qD (by simpa using h1),if_pos (by omega)]
 rw[qI (by simpa using h1)]
 by_cases h2:15<x
 ·rw[qD (by simpa using h2),if_pos (by omega)]
 rw[qI (by simpa using h2)]
 by_cases h3:x=13
 ·rw[qD (by simpa using h3),if_pos (by omega)]
 rw[qI (by simpa using h3),if_neg (by omega)]
 by_cases h4:8<x
 ·rw[qD (by simpa using h4),if_pos h4,qAO (by omega) (by omega)]
 ·rw[qI (by simpa using h4),if_neg h4]
def cnt (l:List Int) (k:Int):Nat:=l.countP fun x=>rw_ (kd x)==k
theorem qgG (b h:List Int) (s k:Int) (hl:b.length=81):∀ (n i:Nat),i+n=81->∀ acc:Int,0<=acc->acc<=i->∀ f,
  qFS (f+n+1) k acc i b h s=some (k,acc+cnt (b.drop i) k,b,h,s):=by
 intro n
 induction n with
 | zero=>
   intro i hi acc _ _ f
   show qHw (qFS (f+0)) _ _ _ _ _ _=_
   unfold qHw
   rw[qI (by simp;omega),List.drop_eq_nil_of_le (by omega)]
   simp[cnt]
 | succ n ih=>
   intro i hi acc ha0 ha1 f
   show qHw (qFS (f+n+1)) _ _ _ _ _ _=_
   unfold qHw
   have hz:Int.toNat (i:Int)=i:=by simp
   rw[qD (by simp;omega),qD (qAN (by omega) (by omega)),hz,qAO (by omega) (by omega),qAO (by omega) (by omega)]
   show ob (qAS (List.getD b i 0)) _=_
   rw[qBy,qA,qad,qA]
   have hd:b.drop i=b.getD i 0 :: b.drop (i+1):=by
    rw[List.drop_eq_getElem_cons (by omega),List.getD_eq_getElem?_getD,List.getElem?_eq_getElem (by omega)]
    rfl
   rw[hd]
   unfold cnt
   rw[List.countP_cons]
   cases hb:rw_ (kd (b.getD i 0))==k with
   | true=>
     rw[qD rfl]
     refine (ih (i+1) (by omega) (acc+1) (by omega) (by omega) f).trans ?_
     simp[cnt];omega
   | false=>
     rw[qI rfl]
     refine (ih (i+1) (by omega) acc (by omega) (by omega) f).trans ?_
     simp[cnt]
def hd_ (h:List Int) (s k:Int):Int:=h.getD (s.toNat*8+k.toNat) 0
def qAl (h:List Int):Prop:=∀ i,-128<=h.getD i 0 /\ h.getD i 0<=127
theorem qgA {b:List Int} (hl:b.length=81) (k:Int):cnt b k<=81:=by rw[<- hl];exact List.countP_le_length
theorem qT5 {b h:List Int} (hl:b.length=81) (hf:qAl h) (s k:Int) (h0:0<=k) (h1:k<8):qJZ b h s k=some (cnt b k+hd_ h 0 k+hd_ h 1 k):=by
 obtain⟨g,hg⟩:=qd 81 (by omega)
 have hc:=qgG b h s k hl 81 0 (by omega) 0 (by omega) (by omega) g
 rw[<- hg] at hc
 have hc:qFS qC k 0 0 b h s=some (k,(0:Int)+(cnt b k:Int),b,h,s):=hc
 unfold qJZ
 rw[hc,qA]
 simp only
 rw[qD (qAN h0 (by omega)),qD (qAN h0 (by omega))]
 have e1:=hf (0+k.toNat)
 have e2:=hf (8+k.toNat)
 have e3:=qgA hl k
 have c1:conv .i8 .i64 (List.getD h (0+k.toNat) 0)=List.getD h (0+k.toNat) 0:=rfl
 have c2:conv .i8 .i64 (List.getD h (8+k.toNat) 0)=List.getD h (8+k.toNat) 0:=rfl
 rw[c1,c2,qAO (n:=0+(cnt b k:Int)+_) (by omega) (by omega),qAO (by omega) (by omega)]
 unfold hd_
 simp
end Go.Kk.Pl
namespace Go.Kk.Pl
theorem qfx {b:List Int} (hc:Clean b) (h:List Int) (s:Int):∀ (n i:Nat),i+n=81->∀ f,qBx (f+n+1) i b h s=some (.inr (b,h,s)):=by
 intro n
 induction n with
 | zero=>
   intro i hi f
   show qDj (qBx (f+0)) _ _ _ _=_
   unfold qDj
   rw[qI (by simp;omega)]
 | succ n ih=>
   intro i hi f
   show qDj (qBx (f+n+1)) _ _ _ _=_
   unfold qDj
   have hz:Int.toNat (i:Int)=i:=by simp
   have hin:inB (i:Int) 81=true:=qAN (by omega) (by omega)
   rw[qD (by simp;omega),qD hin,hz,qAO (by omega) (by omega)]
   by_cases h0:b.getD i 0=0
   ·rw[qI (by simpa using h0)]
    exact ih (i+1) (by omega) f
   ·rw[qD (by simpa using h0),qD hin]
    show ob (qAS (List.getD b i 0)) _=_
    have hk:=(hc.ok i (by omega)).resolve_left h0
    rw[qBy,qA,qI (by simpa using hk)]
    exact ih (i+1) (by omega) f
theorem qfp (b h:List Int) (s k:Int) (k0:0<=k) (k1:k<8):∀ (n i:Nat),i+n=2->
  (∀ f,qBV (f+n+1) k i b h s=some (.inl (55,k,b,h,s))) \/
  ((∀ f,qBV (f+n+1) k i b h s=some (.inr (k,b,h,s))) /\ ∀ j:Nat,i<=j->j<2->0<=hd_ h j k):=by
 intro n
 induction n with
 | zero=>
   intro i hi
   refine .inr ⟨fun f=>?_,fun j _ _=>by omega⟩
   show qDf (qBV (f+0)) _ _ _ _ _=_
   unfold qDf
   rw[qI (by simp;omega)]
 | succ n ih=>
   intro i hi
   have e:∀ f,qBV (f+(n+1)+1) k i b h s=qDf (qBV (f+n+1)) k i b h s:=fun f=>rfl
   have hz:Int.toNat (i:Int)=i:=by simp
   have hd:hd_ h (i:Int) k=List.getD h (i*8+k.toNat) 0:=by unfold hd_;rw[hz]
   simp only[e]
   unfold qDf
   simp only[qD (show decide ((i:Int)<2)=true by simp;omega),qD (show inB (i:Int) 2=true from qAN (by omega) (by omega)),qD (show inB k 8=true from qAN k0 (by omega)),hz,
    qAO (n:=(i:Int)+1) (by omega) (by omega)]
   by_cases hlt:List.getD h (i*8+k.toNat) 0<0
   ·exact .inl fun f=>qD (by simpa using hlt)
   ·simp only[qI (show decide (List.getD h (i*8+k.toNat) 0<0)=false by simpa using hlt)]
    have next:(∀ f,qBV (f+n+1) k ((i:Int)+1) b h s=some (.inl (55,k,b,h,s))) \/
     ((∀ f,qBV (f+n+1) k ((i:Int)+1) b h s=some (.inr (k,b,h,s))) /\ ∀ j:Nat,i<=j->j<2->0<=hd_ h j k):=by
     rcases ih (i+1) (by omega) with h1 | ⟨h1,h2⟩
     ·exact .inl h1
     ·refine .inr ⟨h1,fun j hj hj2=>?_⟩
      by_cases hji:j=i
      ·subst hji;rw[hd];omega
      ·exact h2 j (by omega) hj2
    cases hk:k==0 with
    | true=>
      simp only[qD rfl]
      cases hb:List.getD h (i*8+k.toNat) 0 != 0 with
      | true=>exact .inl fun f=>rfl
      | false=>exact next
    | false=>exact next
theorem qfz (b h:List Int) (s:Int):∀ (n i:Nat),i+n=8->
  (∀ f,qBN (f+n+1) i b h s=some (.inl (55,b,h,s))) \/
  ((∀ f,qBN (f+n+1) i b h s=some (.inr (b,h,s))) /\ ∀ k:Nat,i<=k->k<8->∀ j:Nat,j<2->0<=hd_ h j k):=by
 intro n
 induction n with
 | zero=>
   intro i hi
   refine .inr ⟨fun f=>?_,fun j _ _=>by omega⟩
   show qDk (qBN (f+0)) _ _ _ _=_
   unfold qDk
   rw[qI (by simp;omega)]
 | succ n ih=>
   intro i hi
   have e:∀ f,qBN (f+(n+1)+1) i b h s=qDk (qBN (f+n+1)) i b h s:=fun f=>rfl
   simp only[e]
   unfold qDk
   simp only[qD (show decide ((i:Int)<8)=true by simp;omega)]
   obtain⟨g,hg⟩:=qd 2 (by omega)
   rcases qfp b h s i (by omega) (by omega) 2 0 (by omega) with h1 | ⟨h1,h2⟩
   ·refine .inl fun f=>?_
    have h1:=h1 g
    rw[<- hg] at h1
    have h1:qBV qC i 0 b h s=some (.inl (55,(i:Int),b,h,s)):=h1
    rw[h1];rfl
   ·have h1:=h1 g
    rw[<- hg] at h1
    have h1:qBV qC i 0 b h s=some (.inr ((i:Int),b,h,s)):=h1
    simp only[h1,qA,qAk,qAO (n:=(i:Int)+1) (by omega) (by omega)]
    rcases ih (i+1) (by omega) with h3 | ⟨h3,h4⟩
    ·exact .inl h3
    ·refine .inr ⟨h3,fun k hk hk8 j hj=>?_⟩
     by_cases hki:k=i
     ·subst hki;exact h2 j (by omega) hj
     ·exact h4 k (by omega) hk8 j hj
theorem qq9 {k:Nat} (h1:1<=k) (h8:k<8):∃ t,qJW (k:Int)=some t /\ t<=18:=by
 have:k=1 \/ k=2 \/ k=3 \/ k=4 \/ k=5 \/ k=6 \/ k=7:=by omega
 rcases this with rfl | rfl | rfl | rfl | rfl | rfl | rfl<;>exact⟨_,rfl,by decide⟩
theorem qfr {b h:List Int} (hl:b.length=81) (hf:qAl h) (s:Int):∀ (n i:Nat),i+n=8->1<=i->
  (∀ f,qBK (f+n+1) i b h s=some (.inl (51,b,h,s))) \/
  ((∀ f,qBK (f+n+1) i b h s=some (.inr (b,h,s))) /\ ∀ k:Nat,i<=k->k<8->cnt b k+hd_ h 0 k+hd_ h 1 k<=18):=by
 intro n
 induction n with
 | zero=>
   intro i hi _
   refine .inr ⟨fun f=>?_,fun j _ _=>by omega⟩
   show qDg (qBK (f+0)) _ _ _ _=_
   unfold qDg
   rw[qI (by simp;omega)]
 | succ n ih=>
   intro i hi hi1
   have e:∀ f,qBK (f+(n+1)+1) i b h s=qDg (qBK (f+n+1)) i b h s:=fun f=>rfl
   simp only[e]
   unfold qDg
   obtain⟨t,ht,ht18⟩:=qq9 hi1 (by omega)
   simp only[qD (show decide ((i:Int)<8)=true by simp;omega),qT5 hl hf s i (by omega) (by omega),qA,ht,qAO (n:=(i:Int)+1) (by omega) (by omega)]
   by_cases hgt:(cnt b i:Int)+hd_ h 0 i+hd_ h 1 i>t
   ·exact .inl fun f=>qD (by simpa using hgt)
   ·simp only[qI (show decide ((cnt b i:Int)+hd_ h 0 i+hd_ h 1 i>t)=false by simpa using hgt)]
    rcases ih (i+1) (by omega) (by omega) with h3 | ⟨h3,h4⟩
    ·exact .inl h3
    ·refine .inr ⟨h3,fun k hk hk8=>?_⟩
     by_cases hki:k=i
     ·subst hki;omega
     ·exact h4 k (by omega) hk8
theorem qn4 (x:Int):∃ v,qA9 x=some v:=by
 unfold qA9
 rw[qBy,qA]
 repeat first | exact⟨_,rfl⟩ | apply qG1
theorem qnz (x q:Int):∃ v,qDC x q=some v:=by
 unfold qDC
 repeat first | exact⟨_,rfl⟩ | apply qG1
theorem qnx (x q:Int):∃ v,qDB x q=some v:=by
 unfold qDB
 refine qGD (qn4 _) fun _=>qGD (qnz _ _) fun _=>qGD ⟨_,qBy _⟩ fun _=>?_
 repeat first | exact⟨_,rfl⟩ | apply qG1
theorem qft (b h:List Int) (s:Int):∀ (n i:Nat),i+n=81->
  (∀ f,qBL (f+n+1) i b h s=some (.inl (52,b,h,s))) \/ (∀ f,qBL (f+n+1) i b h s=some (.inr (b,h,s))):=by
 intro n
 induction n with
 | zero=>
   intro i hi
   refine .inr fun f=>?_
   show qDh (qBL (f+0)) _ _ _ _=_
   unfold qDh
   rw[qI (by simp;omega)]
 | succ n ih=>
   intro i hi
   have e:∀ f,qBL (f+(n+1)+1) i b h s=qDh (qBL (f+n+1)) i b h s:=fun f=>rfl
   simp only[e]
   unfold qDh
   obtain⟨v,hv⟩:=qnx (conv .i8 .i64 (List.getD b (Int.toNat (i:Int)) 0)) i
   simp only[qD (show decide ((i:Int)<81)=true by simp;omega),qD (show inB (i:Int) 81=true from qAN (by omega) (by omega)),hv,qA,qAO (n:=(i:Int)+1) (by omega) (by omega)]
   cases v with
   | true=>exact .inl fun f=>rfl
   | false=>exact ih (i+1) (by omega)
theorem qki (b h:List Int) (s k q:Int) (q0:0<=q) (q1:q<9):∀ (n i:Nat),i+n=9->∀ acc,∃ v,∀ f,qCZ (f+n+1) k q acc i b h s=some v:=by
 intro n
 induction n with
 | zero=>
   intro i hi acc
   refine⟨acc,fun f=>?_⟩
   show qDm (qCZ (f+0)) _ _ _ _ _ _ _=_
   unfold qDm
   rw[qI (by simp;omega)]
 | succ n ih=>
   intro i hi acc
   have e:∀ f,qCZ (f+(n+1)+1) k q acc i b h s=qDm (qCZ (f+n+1)) k q acc i b h s:=fun f=>rfl
   simp only[e]
   unfold qDm
   simp only[qD (show decide ((i:Int)<9)=true by simp;omega),qAO (n:=9*q) (by omega) (by omega),qAO (n:=9*q+(i:Int)) (by omega) (by omega),
    qD (show inB (9*q+(i:Int)) 81=true from qAN (by omega) (by omega)),qAO (n:=(i:Int)+1) (by omega) (by omega)]
   cases conv IntKind.i8 IntKind.i64 (List.getD b (Int.toNat (9*q+↑i)) 0)==k with
   | true=>exact ih (i+1) (by omega) _
   | false=>exact ih (i+1) (by omega) _
theorem qPR (b h:List Int) (s k q:Int) (q0:0<=q) (q1:q<9):∃ v,qDl b h s k q=some v:=by
 obtain⟨g,hg⟩:=qd 9 (by omega)
 obtain⟨v,hv⟩:=qki b h s k q q0 q1 9 0 (by omega) 0
 have hv:=hv g
 rw[<- hg] at hv
 have hv:qCZ qC k q 0 0 b h s=some v:=hv
 unfold qDl
 rw[hv]
 exact⟨_,rfl⟩
theorem qd9 (b h:List Int) (s k:Int):∀ (n i:Nat),i+n=9->∀ acc,∃ v,∀ f,qCa (f+n+1) k acc i b h s=some v:=by
 intro n
 induction n with
 | zero=>
   intro i hi acc
   refine⟨acc,fun f=>?_⟩
   show qDn (qCa (f+0)) _ _ _ _ _ _=_
   unfold qDn
   rw[qI (by simp;omega)]
 | succ n ih=>
   intro i hi acc
   have e:∀ f,qCa (f+(n+1)+1) k acc i b h s=qDn (qCa (f+n+1)) k acc i b h s:=fun f=>rfl
   simp only[e]
   unfold qDn
   obtain⟨v,hv⟩:=qPR b h s k i (by omega) (by omega)
   simp only[qD (show decide ((i:Int)<9)=true by simp;omega),hv,qA,qAO (n:=(i:Int)+1) (by omega) (by omega)]
   exact ih (i+1) (by omega) _
theorem qSm (b h:List Int) (s k:Int):∃ v,qCG b h s k=some v:=by
 obtain⟨g,hg⟩:=qd 9 (by omega)
 obtain⟨v,hv⟩:=qd9 b h s k 9 0 (by omega) 0
 have hv:=hv g
 rw[<- hg] at hv
 have hv:qCa qC k 0 0 b h s=some v:=hv
 unfold qCG
 rw[hv]
 exact⟨_,rfl⟩
theorem qfv (b h:List Int) (s:Int):∀ (n i:Nat),i+n=9->
  (∀ f,qBM (f+n+1) i b h s=some (.inl 53)) \/ (∀ f,qBM (f+n+1) i b h s=some (.inr ())):=by
 intro n
 induction n with
 | zero=>
   intro i hi
   refine .inr fun f=>?_
   show qDi (qBM (f+0)) _ _ _ _=_
   unfold qDi
   rw[qI (by simp;omega)]
 | succ n ih=>
   intro i hi
   have e:∀ f,qBM (f+(n+1)+1) i b h s=qDi (qBM (f+n+1)) i b h s:=fun f=>rfl
   simp only[e]
   unfold qDi
   obtain⟨v,hv⟩:=qPR b h s 1 i (by omega) (by omega)
   obtain⟨v2,hv2⟩:=qPR b h s 17 i (by omega) (by omega)
   simp only[qD (show decide ((i:Int)<9)=true by simp;omega),hv,hv2,qA,qAO (n:=(i:Int)+1) (by omega) (by omega)]
   cases decide (v>1) with
   | true=>exact .inl fun f=>rfl
   | false=>
     cases decide (v2>1) with
     | true=>exact .inl fun f=>rfl
     | false=>exact ih (i+1) (by omega)
structure Sound (b h:List Int) (s:Int):Prop where
 clean:Clean b
 side:s=0 \/ s=1
 hands:∀ k,0<=k->k<8->0<=hd_ h 0 k /\ 0<=hd_ h 1 k
 counts:∀ k,1<=k->k<8->cnt b k+hd_ h 0 k+hd_ h 1 k<=18
theorem qfn {b h:List Int} (hc:Clean b) (hf:qAl h) (s:Int):∃ v,qFR b h s=some v /\ (v=0->Sound b h s):=by
 obtain⟨g81,hg81⟩:=qd 81 (by omega)
 obtain⟨g8,hg8⟩:=qd 8 (by omega)
 obtain⟨g7,hg7⟩:=qd 7 (by omega)
 obtain⟨g9,hg9⟩:=qd 9 (by omega)
 have c4:=qfx hc h s 81 0 (by omega) g81
 rw[<- hg81] at c4
 have c4:qBx qC 0 b h s=some (.inr (b,h,s)):=c4
 obtain⟨a1,ha1⟩:=qSm b h s 8
 obtain⟨a2,ha2⟩:=qSm b h s 24
 by_cases hs:s=0 \/ s=1
 ·have e : ∃ v,(ob (qBx qC 0 b h s) fun t3_2=>
    sw t3_2 (fun (a3_0,_,_,_)=>some (a3_0))
     (fun (a3_0,a3_1,a3_2)=>
     ob (qBN qC 0 a3_0 a3_1 a3_2) fun t6_2=>
     sw t6_2 (fun (a6_0,_,_,_)=>
      some (a6_0))
      (fun (a6_0,a6_1,a6_2)=>
      ob (qCG a6_0 a6_1 a6_2 8) fun a9=>
      br (a9 != 1)
       (some (50))
       (ob (qCG a6_0 a6_1 a6_2 24) fun a10=>
       br (a10 != 1)
        (some (50))
        (ob (qBK qC 1 a6_0 a6_1 a6_2) fun t11_2=>
        sw t11_2 (fun (a11_0,_,_,_)=>
         some (a11_0))
         (fun (a11_0,a11_1,a11_2)=>
         ob (qBL qC 0 a11_0 a11_1 a11_2) fun t14_2=>
         sw t14_2 (fun (a14_0,_,_,_)=>
          some (a14_0))
          (fun (a14_0,a14_1,a14_2)=>
          ob (qBM qC 0 a14_0 a14_1 a14_2) fun t17_2=>
          sw t17_2 (fun a17=>
           some (a17))
           (fun _=>
           some (0)))))))):Option Int)=some v /\ (v=0->Sound b h s):=by
   rw[c4,qA,qAk]
   simp only
   rcases qfz b h s 8 0 (by omega) with c9 | ⟨c9,hands⟩
   ·have c9:=c9 g8
    rw[<- hg8] at c9
    have c9:qBN qC 0 b h s=some (.inl (55,b,h,s)):=c9
    rw[c9]
    exact⟨55,rfl,fun h=>by cases h⟩
   have c9:=c9 g8
   rw[<- hg8] at c9
   have c9:qBN qC 0 b h s=some (.inr (b,h,s)):=c9
   rw[c9,qA,qAk]
   simp only
   rw[ha1,qA,ha2]
   cases a1 != 1 with
   | true=>exact⟨50,rfl,fun h=>by cases h⟩
   | false=>
   rw[qI rfl,qA]
   cases a2 != 1 with
   | true=>exact⟨50,rfl,fun h=>by cases h⟩
   | false=>
   rw[qI rfl]
   rcases qfr hc.len hf s 7 1 (by omega) (by omega) with c20 | ⟨c20,counts⟩
   ·have c20:=c20 g7
    rw[<- hg7] at c20
    have c20:qBK qC 1 b h s=some (.inl (51,b,h,s)):=c20
    rw[c20]
    exact⟨51,rfl,fun h=>by cases h⟩
   have c20:=c20 g7
   rw[<- hg7] at c20
   have c20:qBK qC 1 b h s=some (.inr (b,h,s)):=c20
   rw[c20,qA,qAk]
   simp only
   rcases qft b h s 81 0 (by omega) with c25 | c25
   ·have c25:=c25 g81
    rw[<- hg81] at c25
    have c25:qBL qC 0 b h s=some (.inl (52,b,h,s)):=c25
    rw[c25]
    exact⟨52,rfl,fun h=>by cases h⟩
   have c25:=c25 g81
   rw[<- hg81] at c25
   have c25:qBL qC 0 b h s=some (.inr (b,h,s)):=c25
   rw[c25,qA,qAk]
   simp only
   rcases qfv b h s 9 0 (by omega) with c30 | c30
   ·have c30:=c30 g9
    rw[<- hg9] at c30
    have c30:qBM qC 0 b h s=some (.inl 53):=c30
    rw[c30]
    exact⟨53,rfl,fun h=>by cases h⟩
   have c30:=c30 g9
   rw[<- hg9] at c30
   have c30:qBM qC 0 b h s=some (.inr ()):=c30
   rw[c30]
   refine⟨0,rfl,fun _=>⟨hc,hs,fun k k0 k8=>?_,fun k k0 k8=>?_⟩⟩
   ·have e:k=(k.toNat:Int):=by omega
    rw[e]
    exact⟨hands k.toNat (by omega) (by omega) 0 (by omega),hands k.toNat (by omega) (by omega) 1 (by omega)⟩
   ·have e:k=(k.toNat:Int):=by omega
    rw[e]
    exact counts k.toNat (by omega) (by omega)
  unfold qFR
  rcases hs with rfl | rfl
  ·rw[qI (by rfl)];exact e
  ·rw[qD (by rfl),qI (by rfl)];exact e
 ·refine⟨1,?_,fun h=>by cases h⟩
  unfold qFR
  rw[qD (by simp;omega),qD (by simp;omega)]
end Go.Kk.Pl
namespace Go.Kk.Pl
def qCm (s:Int) (q:Nat):Int:=if s=0 then ((q % 9:Nat):Int) else if s=1 then 8 - ((q % 9:Nat):Int) else -1
def qBZ (x:Int) (q:Nat):Bool:=decide (((kd x=1 \/ kd x=2) /\ qCm (sd x) q=0) \/ (kd x=3 /\ (qCm (sd x) q=0 \/ qCm (sd x) q=1)))
def bsP (b:List Int) (i:Nat):Bool:=decide (b.getD i 0≠0 /\ kd (b.getD i 0)=0)
def bsH (h:List Int) (k s:Nat):Bool:=decide (h.getD (s*8+k) 0<0 \/ (k=0 /\ h.getD (s*8+k) 0≠0))
def nP (b:List Int) (x:Int):Nat:=(List.range 81).countP fun i=>b.getD i 0==x
def nF (b:List Int) (x:Int) (f:Nat):Nat:=(List.range 9).countP fun r=>b.getD (9*f+r) 0==x
def qJ7 (k:Int):Int:=if k=1 then 18 else if k=2 \/ k=3 \/ k=4 \/ k=5 then 4 else if k=6 \/ k=7 \/ k=8 then 2 else 0
def qDa (b h:List Int) (k:Nat):Bool:=decide (qJ7 k<cnt b k+hd_ h 0 k+hd_ h 1 k)
def qCs (b:List Int) (f:Nat):Bool:=decide (1<nF b 1 f)||decide (1<nF b 17 f)
def qBE (b h:List Int) (s:Int):Int:=
 if ¬ (s=0 \/ s=1) then 1
 else if (List.range' 0 81).any (bsP b) then 55
 else if (List.range' 0 8).any (fun k=>(List.range' 0 2).any (bsH h k)) then 55
 else if ¬ (nP b 8=1 /\ nP b 24=1) then 50
 else if (List.range' 1 7).any (qDa b h) then 51
 else if (List.range' 0 81).any (fun i=>qBZ (b.getD i 0) i) then 52
 else if (List.range' 0 9).any (qCs b) then 53
 else 0
theorem qEW (x:Int):qA9 x=some (sd x):=by
 unfold qA9
 rw[qBy,qA]
 unfold sd
 by_cases h:kd x=0
 ·rw[qn h,if_pos h]
 ·obtain⟨h1,h2⟩:=qJC h
  rw[qm h,if_neg h]
  by_cases h3:x<16
  ·rw[if_pos h3,Int.tdiv_eq_ediv_of_nonneg (by omega)]
   congr 1
   rw[w_s (by omega) (by omega)]
   omega
  ·rw[if_neg h3,Int.tdiv_eq_ediv_of_nonneg (by omega)]
   congr 1
   rw[w_s (by omega) (by omega)]
   omega
theorem qJ5 (q:Nat):Int.tmod (q:Int) 9=((q % 9:Nat):Int):=by
 rw[Int.tmod_eq_emod_of_nonneg (by omega)];omega
theorem qac {s:Int} (hs:s = -1 \/ s=0 \/ s=1) {q:Nat} (hq:q<81):qDC s q=some (qCm s q):=by
 unfold qDC qCm
 rcases hs with rfl | rfl | rfl
 ·simp (disch:=omega) only[qZ,qf]
  simp
 ·simp (disch:=omega) only[qZ,qn,qJ5]
  simp
 ·simp (disch:=omega) only[qZ,qm,qJ5,w_s]
  simp
theorem qGS (x:Int):sd x = -1 \/ sd x=0 \/ sd x=1:=by
 unfold sd
 split
 ·exact .inl rfl
 ·split
  ·exact .inr (.inl rfl)
  ·exact .inr (.inr rfl)
theorem qny (x:Int) {q:Nat} (hq:q<81):qDB x q=some (qBZ x q):=by
 unfold qDB
 rw[qEW,qA,qac (qGS x) hq,qA,qBy,qA]
 unfold qBZ
 generalize kd x=k
 generalize qCm (sd x) q=n
 simp only[qIo,beq_iff_eq]
 repeat' split
 all_goals first
  | (rw[Option.some.injEq,Bool.eq_iff_iff];simp;omega)
  | (simp;omega)
theorem qfy (b h:List Int) (s:Int):∀ (n i:Nat),i+n=81->∀ f,qBx (f+n+1) i b h s=some (if (List.range' i n).any (bsP b) then .inl (55,b,h,s) else .inr (b,h,s)):=by
 intro n
 induction n with
 | zero=>
   intro i hi f
   show qDj (qBx (f+0)) _ _ _ _=_
   unfold qDj
   rw[qZ (by omega)]
   rfl
 | succ n ih=>
   intro i hi f
   show qDj (qBx (f+n+1)) _ _ _ _=_
   unfold qDj
   simp (disch:=omega) only[qf,qg,c_8,tn,qBy,qA,w_s,any_cons]
   have:=ih (i+1) (by omega) f
   by_cases h0:b.getD i 0=0
   ·rw[qu h0,show bsP b i=false by unfold bsP;simp only[h0];rfl,Bool.false_or]
    exact this
   ·rw[qq h0]
    by_cases hk:kd (b.getD i 0)=0
    ·rw[qn hk,show bsP b i=true by unfold bsP;simp only[hk,decide_eq_true_eq];exact⟨h0,trivial⟩]
     rfl
    ·rw[qm hk,show bsP b i=false by unfold bsP;rw[decide_eq_false_iff_not];omega,Bool.false_or]
     exact this
theorem qfq (b h:List Int) (s:Int) (k:Nat) (hk:k<8):∀ (n i:Nat),i+n=2->∀ f,qBV (f+n+1) k i b h s=some (if (List.range' i n).any (bsH h k) then .inl (55,k,b,h,s) else .inr (k,b,h,s)):=by
 intro n
 induction n with
 | zero=>
   intro i hi f
   show qDf (qBV (f+0)) _ _ _ _ _=_
   unfold qDf
   rw[qZ (by omega)]
   rfl
 | succ n ih=>
   intro i hi f
   show qDf (qBV (f+n+1)) _ _ _ _ _=_
   unfold qDf
   simp (disch:=omega) only[qf,qg,tn,w_s,any_cons]
   have:=ih (i+1) (by omega) f
   by_cases h0:h.getD (i*8+k) 0<0
   ·rw[qD (by simpa using h0),show bsH h k i=true by unfold bsH;simp only[h0,true_or,decide_true]]
    rfl
   ·rw[qI (by simpa using h0)]
    by_cases hk0:k=0
    ·rw[qn (by omega)]
     by_cases h1:h.getD (i*8+k) 0=0
     ·rw[qu h1,show bsH h k i=false by unfold bsH;rw[h1];simp,Bool.false_or]
      exact this
     ·rw[qq h1,show bsH h k i=true by unfold bsH;simp only[decide_eq_true_eq];exact .inr ⟨hk0,h1⟩]
      rfl
    ·rw[qm (by omega),show bsH h k i=false by unfold bsH;rw[decide_eq_false_iff_not];omega,Bool.false_or]
     exact this
theorem qf0 (b h:List Int) (s:Int):∀ (n i:Nat),i+n=8->∀ f,qBN (f+n+1) i b h s=some (if (List.range' i n).any (fun k=>(List.range' 0 2).any (bsH h k)) then .inl (55,b,h,s) else .inr (b,h,s)):=by
 intro n
 induction n with
 | zero=>
   intro i hi f
   show qDk (qBN (f+0)) _ _ _ _=_
   unfold qDk
   rw[qZ (by omega)]
   rfl
 | succ n ih=>
   intro i hi f
   show qDk (qBN (f+n+1)) _ _ _ _=_
   unfold qDk
   obtain⟨g,hg⟩:=qd 2 (by omega)
   have h12:=qfq b h s i (by omega) 2 0 (by omega) g
   rw[<- hg] at h12
   have h12:qBV qC i 0 b h s=_:=h12
   rw[qf (by omega),h12,qA,any_cons (fun k=>(List.range' 0 2).any (bsH h k)) i n]
   have:=ih (i+1) (by omega) f
   cases hb:(List.range' 0 2).any (bsH h i) with
   | true=>rfl
   | false=>
     rw[Bool.false_or,if_neg (by decide),qAk]
     simp only
     rw[w_s (by omega) (by omega)]
     exact this
theorem qn6:∀ k:Fin 9,qJW ((k.val:Nat):Int)=some (qJ7 ((k.val:Nat):Int)):=by decide +kernel
theorem qfs {b h:List Int} (hl:b.length=81) (hf:qAl h) (s:Int):∀ (n i:Nat),i+n=8->1<=i->∀ f,qBK (f+n+1) i b h s=some (if (List.range' i n).any (qDa b h) then .inl (51,b,h,s) else .inr (b,h,s)):=by
 intro n
 induction n with
 | zero=>
   intro i hi _ f
   show qDg (qBK (f+0)) _ _ _ _=_
   unfold qDg
   rw[qZ (by omega)]
   rfl
 | succ n ih=>
   intro i hi h1 f
   show qDg (qBK (f+n+1)) _ _ _ _=_
   unfold qDg
   have ht:=qn6 ⟨i,by omega⟩
   simp only at ht
   rw[qf (by omega),qT5 hl hf s i (by omega) (by omega),qA,ht,qA,any_cons,w_s (by omega) (by omega)]
   have:=ih (i+1) (by omega) (by omega) f
   by_cases ho:qJ7 i<cnt b i+hd_ h 0 i+hd_ h 1 i
   ·rw[qCO ho,show qDa b h i=true by unfold qDa;simpa using ho]
    rfl
   ·rw[qB5 ho,show qDa b h i=false by unfold qDa;simpa using ho,Bool.false_or]
    exact this
theorem qfu (b h:List Int) (s:Int):∀ (n i:Nat),i+n=81->∀ f,qBL (f+n+1) i b h s=some (if (List.range' i n).any (fun i=>qBZ (b.getD i 0) i) then .inl (52,b,h,s) else .inr (b,h,s)):=by
 intro n
 induction n with
 | zero=>
   intro i hi f
   show qDh (qBL (f+0)) _ _ _ _=_
   unfold qDh
   rw[qZ (by omega)]
   rfl
 | succ n ih=>
   intro i hi f
   show qDh (qBL (f+n+1)) _ _ _ _=_
   unfold qDh
   have:=ih (i+1) (by omega) f
   rw[qf (by omega),qg (by omega) (by omega),tn,c_8,qny _ (by omega),qA,any_cons,w_s (by omega) (by omega)]
   cases hb:qBZ (b.getD i 0) i with
   | true=>rfl
   | false=>
     rw[b_f,Bool.false_or]
     exact this
theorem qgF (p:Nat->Bool) (i n:Nat):(List.range' i (n+1)).countP p=(if p i then 1 else 0)+(List.range' (i+1) n).countP p:=by
 rw[List.range'_succ,List.countP_cons];omega
theorem qkf (b h:List Int) (s x:Int) (q:Nat) (hq:q<9):∀ (n i:Nat),i+n=9->∀ acc:Nat,acc<=i->∀ f,
  qCZ (f+n+1) x q acc i b h s=some (((acc+(List.range' i n).countP fun r=>b.getD (9*q+r) 0==x:Nat):Int)):=by
 intro n
 induction n with
 | zero=>
   intro i hi acc _ f
   show qDm (qCZ (f+0)) _ _ _ _ _ _ _=_
   unfold qDm
   rw[qZ (by omega)]
   rfl
 | succ n ih=>
   intro i hi acc ha f
   show qDm (qCZ (f+n+1)) _ _ _ _ _ _ _=_
   unfold qDm
   simp (disch:=omega) only[qf,qg,w_s,c_8]
   have h1:=ih (i+1) (by omega) acc (by omega) f
   have h2:=ih (i+1) (by omega) (acc+1) (by omega) f
   have ht:(9*(q:Int)+(i:Int)).toNat=9*q+i:=by omega
   rw[ht,qgF]
   cases hb:b.getD (9*q+i) 0==x with
   | true=>
     rw[b_t,if_pos rfl]
     refine h2.trans ?_
     congr 2;omega
   | false=>
     rw[b_f,if_neg (by simp)]
     refine h1.trans ?_
     congr 2;omega
theorem qLP (b h:List Int) (s x:Int) (q:Nat) (hq:q<9):qDl b h s x q=some ((nF b x q:Nat):Int):=by
 obtain⟨g,hg⟩:=qd 9 (by omega)
 have:=qkf b h s x q hq 9 0 (by omega) 0 (by omega) g
 rw[<- hg] at this
 unfold qDl
 rw[show qCZ qC x q 0 0 b h s=_ from this,qA,Nat.zero_add]
 unfold nF
 rw[List.range_eq_range']
theorem qjp (b:List Int) (x:Int) (q:Nat):nF b x q<=9:=Nat.le_trans List.countP_le_length (by simp)
theorem qd7 (b h:List Int) (s x:Int):∀ (n i:Nat),i+n=9->∀ acc:Nat,acc<=9*i->∀ f,
  qCa (f+n+1) x acc i b h s=some (((acc+((List.range' i n).map (nF b x)).sum:Nat):Int)):=by
 intro n
 induction n with
 | zero=>
   intro i hi acc _ f
   show qDn (qCa (f+0)) _ _ _ _ _ _=_
   unfold qDn
   rw[qZ (by omega)]
   rfl
 | succ n ih=>
   intro i hi acc ha f
   show qDn (qCa (f+n+1)) _ _ _ _ _ _=_
   unfold qDn
   have hle:=qjp b x i
   rw[qf (by omega),qLP b h s x i (by omega),qA,w_s (by omega) (by omega),w_s (by omega) (by omega)]
   have h2:=ih (i+1) (by omega) (acc+nF b x i) (by omega) f
   rw[List.range'_succ,List.map_cons,List.sum_cons]
   rw[Int.natCast_add] at h2
   refine Eq.trans h2 ?_
   congr 2;omega
theorem qlb:List.range 81=(List.range' 0 9).flatMap fun f=>(List.range 9).map (9*f+·):=by decide +kernel
theorem qjs (b:List Int) (x:Int):nP b x=((List.range' 0 9).map (nF b x)).sum:=by
 unfold nP
 rw[qlb,List.countP_flatMap]
 congr 1
theorem qSn (b h:List Int) (s x:Int):qCG b h s x=some ((nP b x:Nat):Int):=by
 obtain⟨g,hg⟩:=qd 9 (by omega)
 have:=qd7 b h s x 9 0 (by omega) 0 (by omega) g
 rw[<- hg,Nat.zero_add,<- qjs] at this
 unfold qCG
 rw[show qCa qC x 0 0 b h s=_ from this,qA]
theorem qfw (b h:List Int) (s:Int):∀ (n i:Nat),i+n=9->∀ f,qBM (f+n+1) i b h s=some (if (List.range' i n).any (qCs b) then .inl 53 else .inr ()):=by
 intro n
 induction n with
 | zero=>
   intro i hi f
   show qDi (qBM (f+0)) _ _ _ _=_
   unfold qDi
   rw[qZ (by omega)]
   rfl
 | succ n ih=>
   intro i hi f
   show qDi (qBM (f+n+1)) _ _ _ _=_
   unfold qDi
   have:=ih (i+1) (by omega) f
   rw[qf (by omega),qLP b h s 1 i (by omega),qA,qLP b h s 17 i (by omega),qA,any_cons,w_s (by omega) (by omega)]
   by_cases h1:1<nF b 1 i
   ·rw[qCO (by omega),show qCs b i=true by unfold qCs;simp[h1]]
    rfl
   ·rw[qB5 (by omega)]
    by_cases h2:1<nF b 17 i
    ·rw[qCO (by omega),show qCs b i=true by unfold qCs;simp[h2]]
     rfl
    ·rw[qB5 (by omega),show qCs b i=false by unfold qCs;simp[h1,h2],Bool.false_or]
     exact this
theorem qaa {b h:List Int} (hl:b.length=81) (hf:qAl h) (s:Int):qFR b h s=some (qBE b h s):=by
 obtain⟨g81,hg81⟩:=qd 81 (by omega)
 obtain⟨g8,hg8⟩:=qd 8 (by omega)
 obtain⟨g7,hg7⟩:=qd 7 (by omega)
 obtain⟨g9,hg9⟩:=qd 9 (by omega)
 have c4:=qfy b h s 81 0 (by omega) g81
 rw[<- hg81] at c4
 have c9:=qf0 b h s 8 0 (by omega) g8
 rw[<- hg8] at c9
 have c20:=qfs hl hf s 7 1 (by omega) (by omega) g7
 rw[<- hg7] at c20
 have c25:=qfu b h s 81 0 (by omega) g81
 rw[<- hg81] at c25
 have c30:=qfw b h s 9 0 (by omega) g9
 rw[<- hg9] at c30
 have main : (ob (qBx qC 0 b h s) fun t3_2=>
    sw t3_2 (fun (a3_0,_,_,_)=>some (a3_0))
     (fun (a3_0,a3_1,a3_2)=>
     ob (qBN qC 0 a3_0 a3_1 a3_2) fun t6_2=>
     sw t6_2 (fun (a6_0,_,_,_)=>
      some (a6_0))
      (fun (a6_0,a6_1,a6_2)=>
      ob (qCG a6_0 a6_1 a6_2 8) fun a9=>
      br (a9 != 1)
       (some (50))
       (ob (qCG a6_0 a6_1 a6_2 24) fun a10=>
       br (a10 != 1)
        (some (50))
        (ob (qBK qC 1 a6_0 a6_1 a6_2) fun t11_2=>
        sw t11_2 (fun (a11_0,_,_,_)=>
         some (a11_0))
         (fun (a11_0,a11_1,a11_2)=>
         ob (qBL qC 0 a11_0 a11_1 a11_2) fun t14_2=>
         sw t14_2 (fun (a14_0,_,_,_)=>
          some (a14_0))
          (fun (a14_0,a14_1,a14_2)=>
          ob (qBM qC 0 a14_0 a14_1 a14_2) fun t17_2=>
          sw t17_2 (fun a17=>
           some (a17))
           (fun _=>
           some (0)))))))):Option Int) =
   some (if (List.range' 0 81).any (bsP b) then 55
    else if (List.range' 0 8).any (fun k=>(List.range' 0 2).any (bsH h k)) then 55
    else if ¬ (nP b 8=1 /\ nP b 24=1) then 50
    else if (List.range' 1 7).any (qDa b h) then 51
    else if (List.range' 0 81).any (fun i=>qBZ (b.getD i 0) i) then 52
    else if (List.range' 0 9).any (qCs b) then 53
    else 0):=by
  rw[show qBx qC 0 b h s=_ from c4,qA]
  split
  ·rfl
  rw[qAk]
  simp only
  rw[show qBN qC 0 b h s=_ from c9,qA]
  split
  ·rfl
  rw[qAk]
  simp only
  rw[qSn,qA,qSn,qA]
  by_cases h8:nP b 8=1
  ·rw[qu (by omega)]
   by_cases h24:nP b 24=1
   ·rw[qu (by omega),if_neg (by simp[h8,h24]),show qBK qC 1 b h s=_ from c20,qA]
    split
    ·rfl
    rw[qAk]
    simp only
    rw[show qBL qC 0 b h s=_ from c25,qA]
    split
    ·rfl
    rw[qAk]
    simp only
    rw[show qBM qC 0 b h s=_ from c30,qA]
    split
    ·rfl
    ·rfl
   ·rw[qq (by omega),if_pos (by simp[h24])]
  ·rw[qq (by omega),if_pos (by simp[h8])]
 unfold qFR qBE
 by_cases h0:s=0
 ·rw[qu h0,if_neg (by simp[h0])]
  exact main
 ·rw[qq h0]
  by_cases h1:s=1
  ·rw[qu h1,if_neg (by simp[h1])]
   exact main
  ·rw[qq h1,if_pos (by simp[h0,h1])]
end Go.Kk.Pl
namespace Go.Kk.Pl
def up_ (k:Int):Int:=if k=1 \/ k=2 \/ k=3 \/ k=4 \/ k=6 \/ k=7 then k+8 else 0
theorem qJ9 (k:Int):qCu k=some (up_ k):=by
 unfold qCu up_
 by_cases h1:k=1
 ·subst h1;rfl
 rw[qI (by simpa using h1)]
 by_cases h2:k=2
 ·subst h2;rfl
 rw[qI (by simpa using h2)]
 by_cases h3:k=3
 ·subst h3;rfl
 rw[qI (by simpa using h3)]
 by_cases h4:k=4
 ·subst h4;rfl
 rw[qI (by simpa using h4)]
 by_cases h6:k=6
 ·subst h6;rfl
 rw[qI (by simpa using h6)]
 by_cases h7:k=7
 ·subst h7;rfl
 rw[qI (by simpa using h7),if_neg (by omega)]
theorem qj5:∀ n:Fin 16,qAy 0 ((n.val:Nat):Int)=some (if n.val=0 \/ n.val=13 then 0 else (n.val:Int)):=by decide +kernel
theorem qj6:∀ n:Fin 16,qAy 1 ((n.val:Nat):Int)=some (if n.val=0 \/ n.val=13 then 0 else 16+(n.val:Int)):=by decide +kernel
theorem qld:∀ n:Fin 16,qEP ((n.val:Nat):Int)=some (rw_ ((n.val:Nat):Int)):=by decide +kernel
theorem qUs {x:Int} (h0:0<=x) (h1:x<=15):∃ n:Fin 16,x=((n.val:Nat):Int):=⟨⟨x.toNat,by omega⟩,by simp;omega⟩
theorem qLL {s k:Int} (hs:s=0 \/ s=1) (h1:1<=k) (h2:k<=15) (h3:k≠13):qAy s k=some (16*s+k):=by
 obtain⟨n,rfl⟩:=qUs (by omega) h2
 rcases hs with rfl | rfl
 ·rw[qj5,if_neg (by omega)];simp
 ·rw[qj6,if_neg (by omega)];simp
theorem qCS (x:Int):0<=kd x /\ kd x<=15 /\ kd x≠13:=by
 unfold kd
 split<;>omega
theorem qXv {k:Int} (h0:0<=k) (h1:k<=15):qEP k=some (rw_ k):=by
 obtain⟨n,rfl⟩:=qUs h0 h1
 exact qld n
theorem qHN {s k:Int} (hs:s=0 \/ s=1) (h1:1<=k) (h2:k<=15) (h3:k≠13):kd (16*s+k)=k:=by
 unfold kd
 rw[if_neg (by omega)]
 omega
theorem qIA {x:Int} (h:kd x≠0) (h8:kd x≠8):1<=rw_ (kd x) /\ rw_ (kd x)<8:=by
 have:=qCS x
 unfold rw_
 rw[if_neg (by omega)]
 split<;>omega
def kp (q x:Int):Int:=(qCA q x).getD 0
def kh (s k n:Int):Int:=(qCo s k n).getD 0
def qJD:Int:=qCq.getD 0
theorem qiU (q x:Int):qCA q x=some (kp q x):=by
 obtain⟨v,hv⟩:=qVb q x
 unfold kp;rw[hv];rfl
theorem qiN (s k n:Int):qCo s k n=some (kh s k n):=by
 obtain⟨v,hv⟩:=qVa s k n
 unfold kh;rw[hv];rfl
theorem qiW:qCq=some qJD:=by
 obtain⟨v,hv⟩:=qVc
 unfold qJD;rw[hv];rfl
theorem qKr {s k:Int} (hs:s=0 \/ s=1) (h1:1<=k) (h2:k<8) (b h:List Int) (S:Int) (by_ sides:List (List Int)):qCi s k b h S by_ sides=some (hd_ h s k):=by
 unfold qCi
 have e:(br (decide (k<1)) (some (0:Int)) (br (decide (k >= 8)) (some 0) (br (inB s 2) (br (inB k 8) (some (conv .i8 .i64 (List.getD h (s.toNat*8+k.toNat) 0))) none) none)))=some (hd_ h s k):=by
  rw[qI (by simp;omega),qI (by simp;omega),qD (qAN (by omega) (by omega)),qD (qAN (by omega) (by omega))]
  rfl
 rcases hs with rfl | rfl
 ·rw[qI (by rfl)];exact e
 ·rw[qD (by rfl),qI (by rfl)];exact e
theorem qjd (f t d:Int) (p:Bool):∃ v,qDZ f t d p=some v /\ (v=0->0<=t /\ t<81 /\ (d≠0->0<d /\ d<8 /\ f=0 /\ p=false) /\ (d=0->0<=f /\ f<81 /\ f≠t)):=by
 unfold qDZ
 by_cases h1:t<0
 ·rw[qD (by simpa using h1)];exact⟨1,rfl,fun h=>by cases h⟩
 rw[qI (by simpa using h1)]
 by_cases h2:81<=t
 ·rw[qD (by simpa using h2)];exact⟨1,rfl,fun h=>by cases h⟩
 rw[qI (by simpa using h2)]
 by_cases h3:d=0
 ·rw[qI (by simpa using h3)]
  by_cases h4:f<0
  ·rw[qD (by simpa using h4)];exact⟨1,rfl,fun h=>by cases h⟩
  rw[qI (by simpa using h4)]
  by_cases h5:81<=f
  ·rw[qD (by simpa using h5)];exact⟨1,rfl,fun h=>by cases h⟩
  rw[qI (by simpa using h5)]
  by_cases h6:f=t
  ·rw[qD (by simpa using h6)];exact⟨70,rfl,fun h=>by cases h⟩
  ·rw[qI (by simpa using h6)]
   exact⟨0,rfl,fun _=>⟨by omega,by omega,fun h=>absurd h3 h,fun _=>⟨by omega,by omega,h6⟩⟩⟩
 ·rw[qD (by simpa using h3)]
  by_cases h4:d<0
  ·rw[qD (by simpa using h4)];exact⟨70,rfl,fun h=>by cases h⟩
  rw[qI (by simpa using h4)]
  by_cases h5:8<=d
  ·rw[qD (by simpa using h5)];exact⟨70,rfl,fun h=>by cases h⟩
  rw[qI (by simpa using h5)]
  by_cases h6:f=0
  ·rw[qI (by simpa using h6)]
   cases p with
   | true=>exact⟨70,rfl,fun h=>by cases h⟩
   | false=>exact⟨0,rfl,fun _=>⟨by omega,by omega,fun _=>⟨by omega,by omega,h6,rfl⟩,fun h=>absurd h h3⟩⟩
  ·rw[qD (by simpa using h6)];exact⟨70,rfl,fun h=>by cases h⟩
structure CanP (b h:List Int) (s f t d:Int) (p:Bool):Prop where
 to_:0<=t /\ t<81
 drop:d≠0->0<d /\ d<8 /\ f=0 /\ p=false /\ hd_ h s d>0 /\ at_ b t=0
 move:d=0->0<=f /\ f<81 /\ f≠t /\ sd (at_ b f)=s /\ sd (at_ b t)≠s /\ kd (at_ b t)≠8 /\ (p=true->up_ (kd (at_ b f))≠0)
theorem qfi (b h:List Int) {s:Int} (hs:s=0 \/ s=1) (f t d:Int) (p:Bool):∃ c,(∀ K n by_ sides m st,qEE f t d p K n b h s by_ sides m st=some c) /\ (c=true->CanP b h s f t d p):=by
 obtain⟨v,hv,hv0⟩:=qjd f t d p
 by_cases hz:v=0
 ·subst hz
  obtain⟨t0,t1,hd,hm⟩:=hv0 rfl
  have key:∃ c:Bool,(∀ by_ sides,(br (d != 0)
    (ob (qCi s d b h s by_ sides) fun a14=>
    br (decide (a14>0))
     (ob (qAf t b h s by_ sides) fun a15=>
     some (a15==0))
     (some (false)))
    (ob (qAf f b h s by_ sides) fun a14=>
    ob (qAf t b h s by_ sides) fun a15=>
    ob (qAQ a14) fun a16=>
    br (a16==s)
     (ob (qAQ a15) fun a17=>
     br (a17 != s)
      (ob (qAC a15) fun a18=>
      br (a18 != 8)
       (br (!p)
        (some (true))
        (ob (qAC a14) fun a19=>
        ob (qCu a19) fun a20=>
        some (a20 != 0)))
       (some (false)))
      (some (false)))
     (some (false))))=some c) /\ (c=true->CanP b h s f t d p):=by
   by_cases hd0:d=0
   ·subst hd0
    obtain⟨f0,f1,f2⟩:=hm rfl
    simp only[qI (show ((0:Int) != 0)=false from rfl),qCz,qA,qDx,qBd,qJ9]
    by_cases g1:sd (at_ b f)=s
    ·rw[qD (by simpa using g1)]
     by_cases g2:sd (at_ b t)=s
     ·rw[qI (by simpa using g2)];exact⟨false,fun _ _=>rfl,fun h=>by cases h⟩
     rw[qD (by simpa using g2)]
     by_cases g3:kd (at_ b t)=8
     ·rw[qI (by simpa using g3)];exact⟨false,fun _ _=>rfl,fun h=>by cases h⟩
     rw[qD (by simpa using g3)]
     cases p with
     | false=>exact⟨true,fun _ _=>rfl,fun _=>⟨⟨t0,t1⟩,fun h=>absurd rfl h,fun _=>⟨f0,f1,f2,g1,g2,g3,fun h=>by cases h⟩⟩⟩
     | true=>exact⟨up_ (kd (at_ b f)) != 0,fun _ _=>rfl,fun hu=>⟨⟨t0,t1⟩,fun h=>absurd rfl h,fun _=>⟨f0,f1,f2,g1,g2,g3,fun _=>by simpa using hu⟩⟩⟩
    ·rw[qI (by simpa using g1)];exact⟨false,fun _ _=>rfl,fun h=>by cases h⟩
   ·obtain⟨d0,d1,d2,d3⟩:=hd hd0
    simp only[qD (show (d != 0)=true by simpa using hd0),qKr hs (show 1<=d by omega) d1,qCz,qA]
    by_cases g1:hd_ h s d>0
    ·rw[qD (by simpa using g1)]
     exact⟨at_ b t==0,fun _ _=>rfl,fun g=>⟨⟨t0,t1⟩,fun _=>⟨d0,d1,d2,d3,g1,by simpa using g⟩,fun h=>absurd h hd0⟩⟩
    ·rw[qI (by simpa using g1)];exact⟨false,fun _ _=>rfl,fun h=>by cases h⟩
  obtain⟨c,k1,k2⟩:=key
  refine⟨c,fun K n by_ sides m st=>?_,k2⟩
  unfold qEE
  rw[hv,qA,qI (by rfl)]
  rcases hs with rfl | rfl
  ·rw[qI (by rfl)];exact k1 by_ sides
  ·rw[qD (by rfl),qI (by rfl)];exact k1 by_ sides
 ·refine⟨false,fun K n by_ sides m st=>?_,fun h=>by cases h⟩
  unfold qEE
  rw[hv,qA,qD (by simpa using hz)]
def qCU (K:Int) (b:List Int) (q x:Int):Int:=qE .xor .u64 K (qE .xor .u64 (kp q (at_ b q)) (kp q x))
def qE8 (K:Int) (h:List Int) (s k d:Int):Int:=qE .xor .u64 K (qE .xor .u64 (kh s k (hd_ h s k)) (kh s k (IntKind.wrap .i64 (hd_ h s k+d))))
def qKy (K:Int):Int:=qE .xor .u64 K qJD
def qy (h:List Int) (s k d:Int):List Int:=h.set (s.toNat*8+k.toNat) (IntKind.wrap .i8 (hd_ h s k+d))
theorem qKp {s k:Int} (hs:s=0 \/ s=1) (h1:1<=k) (h2:k<8) (d:Int) (hd:d=1 \/ d = -1) (K:Int) (n:Nat) (b h:List Int) (S:Int) (by_ sides:List (List Int)) (m:Nat) (st:List (List Int)):
  qDO s k d K n b h S by_ sides m st=some (qE8 K h s k d,n,b,qy h s k d,S,by_,sides,m,st):=by
 unfold qDO
 have e1:inB s 2=true:=qAN (by omega) (by omega)
 have e2:inB k 8=true:=qAN (by omega) (by omega)
 have e3:conv .i64 .i8 d=d:=by rcases hd with rfl | rfl<;>rfl
 simp only[qKr hs h1 h2,qA,qiN,qD e1,qD e2,e3]
 rfl
theorem qKq {s:Int} (hs:s=0 \/ s=1) (K:Int) (n:Nat) (b h:List Int) (by_ sides:List (List Int)) (m:Nat) (st:List (List Int)):
  qCk K n b h s by_ sides m st=some (qKy K,n,b,h,1 - s,by_,sides,m,st):=by
 unfold qCk
 rw[qiW,qA]
 rcases hs with rfl | rfl<;>rfl
end Go.Kk.Pl
namespace Go.Kk.Pl
theorem qcQ {s:Int} (hs:s = -1 \/ s=0 \/ s=1) {q:Nat} (hq:q<81):qFj s q=some (qCm s q):=by
 unfold qFj qEY qCm
 rcases hs with rfl | rfl | rfl
 ·simp (disch:=omega) only[qZ,qBX,qm]
  simp
 ·simp (disch:=omega) only[qZ,qBX,qn,qJ5,qA]
  simp
 ·simp (disch:=omega) only[qZ,qBX,qm,qn,qJ5,qA,w_s]
  simp
theorem qqD (x:Int) {q:Nat} (hq:q<81):qEd x q=some (qBZ x q):=by
 unfold qEd
 rw[qDx,qA,qcQ (qGS x) hq,qA,qBd,qA]
 unfold qBZ
 generalize kd x=k
 generalize qCm (sd x) q=n
 simp only[qIo,beq_iff_eq]
 repeat' split
 all_goals first
  | (rw[Option.some.injEq,Bool.eq_iff_iff];simp;omega)
  | (simp;omega)
def pc (s k:Int):Int:=if (s=0 \/ s=1) /\ 1<=k /\ k<=15 /\ k≠13 then 16*s+k else 0
theorem qA5 {s k:Int} (hs:s=0 \/ s=1) (h1:1<=k) (h2:k<=15) (h3:k≠13):pc s k=16*s+k:=by unfold pc;rw[if_pos ⟨hs,h1,h2,h3⟩]
theorem qPW {s k:Int} (h:¬ ((s=0 \/ s=1) /\ 1<=k /\ k<=15 /\ k≠13)):pc s k=0:=by unfold pc;rw[if_neg h]
theorem qk3 (s k:Int):0<=pc s k /\ pc s k<32:=by unfold pc;split<;>omega
theorem qLK (s k:Int):qAy s k=some (pc s k):=by
 by_cases hs:s=0 \/ s=1
 ·by_cases h:1<=k /\ k<=15 /\ k≠13
  ·rw[qLL hs h.1 h.2.1 h.2.2,qA5 hs h.1 h.2.1 h.2.2]
  ·rw[qPW (by omega)]
   unfold qAy
   simp only[qIo,bne_iff_ne,ne_eq,beq_iff_eq,decide_eq_true_eq]
   repeat' split
   all_goals first | rfl | omega
 ·rw[qPW (by omega)]
  unfold qAy
  simp (disch:=omega) only[qq]
theorem qk4 (b:List Int):pcs b 0=fun _=>false:=by funext i;unfold pcs;simp
theorem qHf (b h:List Int) (S s k:Int) (sd':List (List Int)):qDL s k b h S (qJ b) sd'=some (sLo (pcs b (pc s k)),sHi (pcs b (pc s k))):=by
 unfold qDL
 obtain⟨h0,h1⟩:=qk3 s k
 rw[qLK,qA]
 by_cases hz:pc s k=0
 ·rw[qn hz,hz,qk4,qBi,qBh]
 ·rw[qm hz,qg h0 (by omega),qNN b h0 h1]
  rfl
def inF (f:Nat) (i:Nat):Bool:=decide (i / 9=f)
theorem qhm:∀ f:Fin 9,qJs ((f.val:Nat):Int)=some (sLo (inF f.val),sHi (inF f.val)):=by decide +kernel
theorem qhn {f:Nat} (h:f<9):qJs f=some (sLo (inF f),sHi (inF f)):=qhm ⟨f,h⟩
theorem qgq:∀ f:Fin 9,(List.range 81).filter (fun i=>decide (i / 9=f.val))=(List.range 9).map (9*f.val+·):=by decide +kernel
theorem qf9 (b:List Int) {x:Int} (hx:x≠0) {f:Nat} (hf:f<9):qAv (fun i=>pcs b x i&&inF f i)=nF b x f:=by
 unfold qAv nF inF
 have:(List.range 81).countP (fun i=>pcs b x i&&decide (i / 9=f))=((List.range 81).filter (fun i=>decide (i / 9=f))).countP (pcs b x):=by
  rw[List.countP_filter]
 rw[this,qgq ⟨f,hf⟩,List.countP_map]
 apply List.countP_congr
 intro r _
 show pcs b x (9*f+r)=true↔_
 unfold pcs
 simp[hx]
theorem qeo {b:List Int} (hl:b.length=81) (h:(List.range' 0 81).any (bsP b)=false):Clean b:=by
 refine⟨hl,fun i hi=>?_⟩
 rw[List.any_eq_false] at h
 have:=h i (by rw[List.mem_range'];exact⟨i,hi,by omega⟩)
 unfold bsP at this
 rw[decide_eq_true_eq] at this
 omega
end Go.Kk.Pl
namespace Go.Kk.Pl
def tk (b:List Int) (i:Nat):Bool:=decide (b.getD i 0≠0)
theorem qq4 {b:List Int} (hc:Clean b) {i:Nat} (hi:i<81):(sds b 0 i||sds b 1 i)=tk b i:=by
 have:=hc.ok i hi
 unfold sds tk
 rw[Bool.eq_iff_iff]
 simp only[Bool.or_eq_true,decide_eq_true_eq]
 rcases this with h | h
 ·rw[h,qJn];simp
 ·have h1:=qJC h
  have h2:=qIB h
  constructor
  ·intro _;omega
  ·intro _;exact h2
theorem qJ4 {b:List Int} (hc:Clean b) (h:List Int) (S:Int) (by_:List (List Int)):qC3 b h S by_ (qK b)=some (sLo (tk b),sHi (tk b)):=by
 unfold qC3
 have e0:(qK b).getD 0 []=prS (sds b 0):=rfl
 have e1:(qK b).getD 1 []=prS (sds b 1):=rfl
 rw[e0,e1,qHj,qHk,qHj,qHk,qHg,qA]
 obtain⟨h1,h2⟩:=qB0 (f:=fun i=>sds b 0 i||sds b 1 i) (g:=tk b) fun i hi=>qq4 hc hi
 simp only
 rw[h1,h2]
def sdP (b:List Int) (s:Int) (i:Nat):Bool:=decide (s=0 \/ s=1)&&sds b s i
theorem qPa (b h:List Int) (S s:Int) (by_:List (List Int)):qFz s b h S by_ (qK b)=some (sLo (sdP b s),sHi (sdP b s)):=by
 unfold qFz
 by_cases h0:s=0
 ·subst h0
  have:sdP b 0=sds b 0:=by funext i;unfold sdP;simp
  rw[this]
  rfl
 ·rw[qq h0]
  by_cases h1:s=1
  ·subst h1
   have:sdP b 1=sds b 1:=by funext i;unfold sdP;simp
   rw[this]
   rfl
  ·have:sdP b s=fun _=>false:=by funext i;unfold sdP;simp[h0,h1]
   rw[qq h1,this,qBi,qBh]
theorem qOW (b h:List Int) (S s:Int) (sd':List (List Int)):qFy s b h S (qJ b) sd'=some (fst (pcs b (pc s 8))):=by
 unfold qFy
 rw[qHf,qA]
 simp only
 rw[qNn,qA]
def hdP (h:List Int) (s k:Int):Int:=if (s=0 \/ s=1) /\ 1<=k /\ k<8 then hd_ h s k else 0
theorem qhg (b h:List Int) (S s k:Int) (by_ sd':List (List Int)):qCi s k b h S by_ sd'=some (hdP h s k):=by
 unfold hdP
 by_cases hv:(s=0 \/ s=1) /\ 1<=k /\ k<8
 ·rw[if_pos hv,qKr hv.1 hv.2.1 hv.2.2]
 ·rw[if_neg hv]
  unfold qCi
  by_cases h0:s=0
  ·rw[qu h0]
   by_cases h1:k<1
   ·rw[qf h1]
   ·rw[qZ h1,qB4 (by omega)]
  ·rw[qq h0]
   by_cases h2:s=1
   ·rw[qu h2]
    by_cases h1:k<1
    ·rw[qf h1]
    ·rw[qZ h1,qB4 (by omega)]
   ·rw[qq h2]
theorem qhu:isE (fun _=>false)=true:=by decide
end Go.Kk.Pl
