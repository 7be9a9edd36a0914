/- What the program's functions come to, told plainly: the texts of this project that this claim leans on, cut down to what is used. -/
import Derived.Test.YthklalefbhbhmaaGreatDoorKkPl
import Derived.Test.YthklalefbhbhmaaGreatDoorKkO
namespace Go.Kk.Pl
theorem qJ {α:Type} {b:Bool} {x y:α} (h:b=true):br b x y=x:=by subst h;rfl
theorem qT {α:Type} {b:Bool} {x y:α} (h:b=false):br b x y=y:=by subst h;rfl
theorem qIk {α:Type} (b:Bool) (x y:α):br b x y=if b=true then x else y:=by cases b<;>rfl
theorem qG8 {α:Type} {b:Bool} {x y:Option α} (hx:∃ v,x=some v) (hy:∃ v,y=some v):∃ v,br b x y=some v:=by cases b<;>assumption
theorem qGD {α β:Type} {m:Option α} {k:α->Option β} (hm:∃ v,m=some v) (hk:∀ a,∃ v,k a=some v):∃ v,ob m k=some v:=by
 obtain⟨a,rfl⟩:=hm
 exact hk a
theorem qA {α β:Type} (a:α) (k:α->Option β):ob (some a) k=k a:=rfl
theorem qSn {α β γ:Type} (a:α) (f:α->Option γ) (g:β->Option γ):sw (.inl a) f g=f a:=rfl
theorem qAk {α β γ:Type} (a:β) (f:α->Option γ) (g:β->Option γ):sw (.inr a) f g=g a:=rfl
theorem qSz {n:Int} (h1:-9223372036854775808<=n) (h2:n<=9223372036854775807):IntKind.wrap .i64 n=n:=qCG h1 h2
theorem qAY {n:Int} (h1:-1000000000<=n) (h2:n<=1000000000):IntKind.wrap .i64 n=n:=qSz (by omega) (by omega)
theorem qrW (n:Int):0<=IntKind.wrap .u64 n /\ IntKind.wrap .u64 n<18446744073709551616:=by
 simp[IntKind.wrap,IntKind.signed,IntKind.bits]
 omega
theorem qMx (op:BinOp) (x y:Int):0<=qD op .u64 x y /\ qD op .u64 x y<18446744073709551616:=by
 unfold qD
 split<;>exact qrW _
theorem qAa {x:Int} {n:Nat} (h1:0<=x) (h2:x<n):inB x n=true:=by simp[inB,h1,h2]
theorem qi (n:Nat) (h:n<=1000000):∃ f,qC=f+n+1:=⟨qC - n - 1,by unfold qC;omega⟩
end Go.Kk.Pl
namespace Go.Kk.Pl
def qZ (f:Nat->Bool):Nat->Nat
 | 0=>0
 | n+1=>qZ f n+bif f n then 2 ^ n else 0
theorem qEC (f:Nat->Bool):∀ n,qZ f n<2 ^ n
 | 0=>Nat.one_pos
 | n+1=>by
   have:=qEC f n
   simp only[qZ]
   rw[Nat.pow_succ]
   cases f n<;>simp<;>omega
theorem qBo (f:Nat->Bool):∀ n i,(qZ f n).testBit i=(decide (i<n)&&f i)
 | 0,i=>by simp[qZ]
 | n + 1,i=>by
   have ih:=qBo f n
   have hlt:=qEC f n
   have e:qZ f (n+1)=2 ^ n*(f n).toNat+qZ f n:=by
    simp only[qZ]
    cases f n<;>simp[Nat.add_comm]
   rw[e,Nat.testBit_two_pow_mul_add _ hlt]
   by_cases h:i<n
   ·rw[if_pos h,ih i]
    simp[h,show i<n+1 by omega]
   ·rw[if_neg h]
    by_cases h2:i=n
    ·subst h2
     simp only[Nat.sub_self,Nat.lt_succ_self,decide_true,Bool.true_and]
     cases f i<;>rfl
    ·rw[show decide (i<n+1)=false by simp;omega,Bool.false_and]
     have:1<=i - n:=by omega
     obtain⟨k,hk⟩:∃ k,i - n=k+1:=⟨i - n - 1,by omega⟩
     rw[hk]
     cases f n
     ·simp
     ·show Nat.testBit 1 (k+1)=false
      rw[Nat.testBit_succ];simp
theorem qEm {f g:Nat->Bool}:∀ {n:Nat},(∀ i,i<n->f i=g i)->qZ f n=qZ g n
 | 0,_=>rfl
 | n+1,h=>by
   simp only[qZ]
   rw[qEm fun i hi=>h i (by omega),h n (by omega)]
theorem qTc {f g:Nat->Bool} {n:Nat} (h:qZ f n=qZ g n):∀ i,i<n->f i=g i:=by
 intro i hi
 have h1:=qBo f n i
 have h2:=qBo g n i
 rw[h,h2] at h1
 simpa[hi] using h1.symm
theorem qKB {f:Nat->Bool} {n x:Nat} (hx:x<2 ^ n) (h:∀ i,i<n->x.testBit i=f i):x=qZ f n:=by
 apply Nat.eq_of_testBit_eq
 intro i
 rw[qBo]
 by_cases hi:i<n
 ·simp[hi,h i hi]
 ·rw[show decide (i<n)=false by simp[hi],Bool.false_and]
  exact Nat.testBit_lt_two_pow (Nat.lt_of_lt_of_le hx (Nat.pow_le_pow_right (by omega) (by omega)))
theorem qD7 {n:Nat} (h:n<2 ^ 64):IntKind.wrap .u64 (n:Int)=n:=by
 refine qCG ?_ ?_<;>simp[IntKind.min,IntKind.max,IntKind.signed,IntKind.bits]<;>omega
theorem qFI (a:Nat):BitVec.ofInt 64 (a:Int)=BitVec.ofNat 64 a:=by simp
theorem qEB {a b:Nat} (ha:a<2 ^ 64) (hb:b<2 ^ 64):qD .and .u64 (a:Int) (b:Int)=((a &&& b:Nat):Int):=by
 unfold qD
 show IntKind.wrap .u64 _=_
 rw[show IntKind.bits .u64=64 from rfl,qFI,qFI,BitVec.toNat_and,BitVec.toNat_ofNat,BitVec.toNat_ofNat,Nat.mod_eq_of_lt ha,Nat.mod_eq_of_lt hb]
 exact qD7 (Nat.lt_of_le_of_lt Nat.and_le_left ha)
theorem qef {a b:Nat} (ha:a<2 ^ 64) (hb:b<2 ^ 64):qD .or .u64 (a:Int) (b:Int)=((a ||| b:Nat):Int):=by
 unfold qD
 show IntKind.wrap .u64 _=_
 rw[show IntKind.bits .u64=64 from rfl,qFI,qFI,BitVec.toNat_or,BitVec.toNat_ofNat,BitVec.toNat_ofNat,Nat.mod_eq_of_lt ha,Nat.mod_eq_of_lt hb]
 exact qD7 (Nat.or_lt_two_pow ha hb)
theorem qee {a b:Nat} (ha:a<2 ^ 64) (hb:b<2 ^ 64):qD .andNot .u64 (a:Int) (b:Int)=((a &&& (2 ^ 64 - (b+1)):Nat):Int):=by
 unfold qD
 show IntKind.wrap .u64 _=_
 rw[show IntKind.bits .u64=64 from rfl,qFI,qFI,BitVec.toNat_and,BitVec.toNat_not,BitVec.toNat_ofNat,BitVec.toNat_ofNat,Nat.mod_eq_of_lt ha,Nat.mod_eq_of_lt hb]
 rw[show 2 ^ 64 - 1 - b=2 ^ 64 - (b+1) by omega]
 exact qD7 (Nat.lt_of_le_of_lt Nat.and_le_left ha)
theorem qBu (f:Nat->Bool) {n:Nat} (h:n<=64):qZ f n<2 ^ 64:=Nat.lt_of_lt_of_le (qEC f n) (Nat.pow_le_pow_right (by omega) h)
theorem qTE (f g:Nat->Bool) {n:Nat} (h:n<=64):qD .and .u64 (qZ f n:Nat) (qZ g n:Nat)=(qZ (fun i=>f i&&g i) n:Nat):=by
 rw[qEB (qBu f h) (qBu g h)]
 congr 1
 refine qKB (Nat.lt_of_le_of_lt Nat.and_le_left (qEC f n)) fun i hi=>?_
 rw[Nat.testBit_and,qBo,qBo]
 simp[hi]
theorem qYm (f g:Nat->Bool) {n:Nat} (h:n<=64):qD .or .u64 (qZ f n:Nat) (qZ g n:Nat)=(qZ (fun i=>f i||g i) n:Nat):=by
 rw[qef (qBu f h) (qBu g h)]
 congr 1
 refine qKB (Nat.or_lt_two_pow (qEC f n) (qEC g n)) fun i hi=>?_
 rw[Nat.testBit_or,qBo,qBo]
 simp[hi]
theorem qTD (f g:Nat->Bool) {n:Nat} (h:n<=64):qD .andNot .u64 (qZ f n:Nat) (qZ g n:Nat)=(qZ (fun i=>f i && !g i) n:Nat):=by
 rw[qee (qBu f h) (qBu g h)]
 congr 1
 refine qKB (Nat.lt_of_le_of_lt Nat.and_le_left (qEC f n)) fun i hi=>?_
 rw[Nat.testBit_and,qBo,Nat.testBit_two_pow_sub_succ (qBu g h),qBo]
 simp[hi,show i<64 by omega]
def sLo (f:Nat->Bool):Int:=(qZ f 63:Nat)
def sHi (f:Nat->Bool):Int:=(qZ (fun i=>f (63+i)) 18:Nat)
def only (q:Int) (i:Nat):Bool:=decide ((i:Int)=q)
def has (f:Nat->Bool) (q:Int):Bool:=decide (0<=q)&&(decide (q<81)&&f q.toNat)
def isE (f:Nat->Bool):Bool:=(List.range 81).all fun i=>!f i
theorem qCD {f g:Nat->Bool} (h:∀ i,i<81->f i=g i):sLo f=sLo g /\ sHi f=sHi g:=by
 unfold sLo sHi
 rw[qEm (f:=f) (g:=g) fun i hi=>h i (by omega),qEm (f:=fun i=>f (63+i)) (g:=fun i=>g (63+i)) fun i hi=>h _ (by omega)]
 exact⟨rfl,rfl⟩
theorem qqE {f g:Nat->Bool} (h1:sLo f=sLo g) (h2:sHi f=sHi g):∀ i,i<81->f i=g i:=by
 intro i hi
 unfold sLo at h1
 unfold sHi at h2
 by_cases h:i<63
 ·exact qTc (Int.ofNat.inj h1) i h
 ·have:=qTc (Int.ofNat.inj h2) (i - 63) (by omega)
  simpa[show 63+(i - 63)=i by omega] using this
theorem qqB (f g:Nat->Bool):(sLo f==sLo g&&sHi f==sHi g)=(List.range 81).all fun i=>f i==g i:=by
 rw[Bool.eq_iff_iff]
 simp only[Bool.and_eq_true,beq_iff_eq,List.all_eq_true,List.mem_range]
 exact⟨fun h i hi=>qqE h.1 h.2 i hi,fun h=>qCD h⟩
theorem qKC:∀ n,qZ (fun _=>false) n=0
 | 0=>rfl
 | n+1=>by simp[qZ,qKC n]
theorem qBy:sLo (fun _=>false)=0:=by unfold sLo;rw[qKC];rfl
theorem qBx:sHi (fun _=>false)=0:=by unfold sHi;rw[qKC];rfl
theorem qgx (f:Nat->Bool):(sLo f==0&&sHi f==0)=isE f:=by
 have:=qqB f fun _=>false
 rw[qBy,qBx] at this
 rw[this]
 unfold isE
 congr 1
 funext i
 cases f i<;>rfl
theorem qCw {f:Nat->Bool}:isE f=true ↔ ∀ i,i<81->f i=false:=by simp[isE]
theorem qed:∀ q:Fin 81,qGd ((q.val:Nat):Int)=some (sLo (only ((q.val:Nat):Int)),sHi (only ((q.val:Nat):Int))):=by decide +kernel
theorem qla {q:Int} (h:¬ (0<=q /\ q<81)):sLo (only q)=0 /\ sHi (only q)=0:=by
 have h:=qCD (f:=only q) (g:=fun _=>false) fun i hi=>by unfold only;simp;omega
 rw[qBy,qBx] at h
 exact h
theorem qMw (q:Int):qGd q=some (sLo (only q),sHi (only q)):=by
 by_cases h:0<=q /\ q<81
 ·have:=qed ⟨q.toNat,by omega⟩
  simpa[show ((q.toNat:Nat):Int)=q by omega] using this
 ·obtain⟨h1,h2⟩:=qla h
  rw[h1,h2]
  unfold qGd
  by_cases h0:q<0
  ·rw[qJ (by simpa using h0)]
  ·rw[qT (by simpa using h0),qJ (by simp;omega)]
theorem qHj (f g:Nat->Bool):qEU (sLo f) (sHi f) (sLo g) (sHi g)=some (sLo fun i=>f i||g i,sHi fun i=>f i||g i):=by
 unfold qEU sLo sHi
 rw[qYm _ _ (by omega),qYm _ _ (by omega)]
theorem qEi (f g:Nat->Bool):qDN (sLo f) (sHi f) (sLo g) (sHi g)=some (sLo fun i=>f i&&g i,sHi fun i=>f i&&g i):=by
 unfold qDN sLo sHi
 rw[qTE _ _ (by omega),qTE _ _ (by omega)]
theorem qLC (f g:Nat->Bool):qGb (sLo f) (sHi f) (sLo g) (sHi g)=some (sLo fun i=>f i && !g i,sHi fun i=>f i && !g i):=by
 unfold qGb sLo sHi
 rw[qTD _ _ (by omega),qTD _ _ (by omega)]
theorem qGl (f:Nat->Bool) (q:Int):qBb (sLo f) (sHi f) q=some (sLo fun i=>f i||only q i,sHi fun i=>f i||only q i):=by
 unfold qBb
 rw[qMw,qA]
 simp only
 rw[qHj,qA]
theorem qJy (f:Nat->Bool) (q:Int):qFi (sLo f) (sHi f) q=some (sLo fun i=>f i && !only q i,sHi fun i=>f i && !only q i):=by
 unfold qFi
 rw[qMw,qA]
 simp only
 rw[qLC,qA]
theorem qIx (f:Nat->Bool):qFe (sLo f) (sHi f)=some (isE f):=by
 unfold qFe
 rw[qgx]
theorem qEG (f:Nat->Bool) (q:Int):qCm (sLo f) (sHi f) q=some (has f q):=by
 unfold qCm
 rw[qMw,qA]
 simp only
 rw[qEi,qA]
 simp only
 rw[qIx,qA]
 congr 1
 rw[Bool.eq_iff_iff]
 unfold has
 simp only[Bool.not_eq_true',Bool.and_eq_true,decide_eq_true_eq]
 constructor
 ·intro h
  rw[Bool.eq_false_iff] at h
  simp only[ne_eq,qCw] at h
  by_cases hq:0<=q /\ q<81
  ·refine⟨hq.1,hq.2,?_⟩
   by_cases hf:f q.toNat=true
   ·exact hf
   ·refine absurd (fun i hi=>?_) h
    unfold only
    by_cases hiq:(i:Int)=q
    ·have:i=q.toNat:=by omega
     subst this
     simp at hf
     simp[hf]
    ·simp[hiq]
  ·refine absurd (fun i hi=>?_) h
   unfold only
   have:¬ (i:Int)=q:=by omega
   simp[this]
 ·intro ⟨h0,h1,h2⟩
  rw[Bool.eq_false_iff]
  simp only[ne_eq,qCw]
  intro h
  have:=h q.toNat (by omega)
  simp[only,h2,show max q 0=q by omega] at this
end Go.Kk.Pl
namespace Go.Kk.Pl
theorem qHU {p:Nat->Bool} {j n:Nat} (h:∃ i,j<=i /\ i<n /\ p i=true):∃ k,j<=k /\ k<n /\ p k=true /\ ∀ i,j<=i->i<k->p i=false:=by
 obtain⟨i,h1,h2,h3⟩:=h
 induction hd:i - j generalizing i j with
 | zero=>exact⟨i,h1,h2,h3,fun x a b=>by omega⟩
 | succ d ih=>
   cases hp:p j with
   | true=>exact⟨j,Nat.le_refl _,by omega,hp,fun x a b=>by omega⟩
   | false=>
     obtain⟨k,a,b,c,e⟩:=ih (j:=j+1) i (by omega) h2 h3 (by omega)
     refine⟨k,by omega,b,c,fun x a' b'=>?_⟩
     by_cases hx:x=j
     ·subst hx;exact hp
     ·exact e x (by omega) b'
section
variable {f:Nat->Bool} {n k:Nat} (hk:k<n) (hf:f k=true) (hl:∀ i,i<k->f i=false)
include hk hf hl
theorem qX7:qZ f n=2 ^ (k+1)*(qZ f n / 2 ^ (k+1))+2 ^ k:=by
 have h1:=Nat.div_add_mod (qZ f n) (2 ^ (k+1))
 have h2:qZ f n % 2 ^ (k+1)=2 ^ k:=by
  apply Nat.eq_of_testBit_eq
  intro i
  rw[Nat.testBit_mod_two_pow,qBo,Nat.testBit_two_pow]
  by_cases h:i<k
  ·rw[hl i h];simp;omega
  ·by_cases h3:i=k
   ·subst h3;simp[hf,hk]
   ·rw[show decide (i<k+1)=false by simp;omega,Bool.false_and];simp;omega
 omega
theorem qX6 (i:Nat):(qZ f n - 1).testBit i=if i<k then true else if i=k then false else (qZ f n).testBit i:=by
 have h:=qX7 hk hf hl
 have hp:0<2 ^ k:=Nat.two_pow_pos k
 have h2:qZ f n - 1=2 ^ (k+1)*(qZ f n / 2 ^ (k+1))+(2 ^ k - 1):=by omega
 have hlt:2 ^ k - 1<2 ^ (k+1):=by rw[Nat.pow_succ];omega
 have hlt2:2 ^ k<2 ^ (k+1):=by rw[Nat.pow_succ];omega
 rw[h2,Nat.testBit_two_pow_mul_add _ hlt,Nat.testBit_two_pow_sub_one]
 by_cases h3:i<k
 ·simp[h3,show i<k+1 by omega]
 ·by_cases h4:i=k
  ·subst h4;simp
  ·rw[if_neg (by omega),if_neg h3,if_neg h4]
   conv=>rhs;rw[h,Nat.testBit_two_pow_mul_add _ hlt2,if_neg (by omega)]
theorem qHd:0<qZ f n:=by
 have:=qX7 hk hf hl
 have hp:0<2 ^ k:=Nat.two_pow_pos k
 omega
theorem qj5 (hn:n<=64):qZ f n &&& (2 ^ 64 - qZ f n)=2 ^ k:=by
 have hpos:=qHd hk hf hl
 apply Nat.eq_of_testBit_eq
 intro i
 have e:2 ^ 64 - qZ f n=2 ^ 64 - ((qZ f n - 1)+1):=by omega
 have hlt:=qBu f hn
 rw[Nat.testBit_and,e,Nat.testBit_two_pow_sub_succ (by omega),qX6 hk hf hl,Nat.testBit_two_pow]
 by_cases h3:i<k
 ·rw[if_pos h3];simp;omega
 ·by_cases h4:i=k
  ·subst h4
   rw[qBo]
   simp[hf,hk];omega
  ·rw[if_neg h3,if_neg h4]
   cases (qZ f n).testBit i<;>simp<;>omega
theorem qX5:qZ f n &&& (qZ f n - 1)=qZ (fun i=>f i&&decide (k<i)) n:=by
 refine qKB (Nat.lt_of_le_of_lt Nat.and_le_left (qEC f n)) fun i hi=>?_
 rw[Nat.testBit_and,qX6 hk hf hl,qBo]
 by_cases h3:i<k
 ·rw[hl i h3];simp
 ·by_cases h4:i=k
  ·subst h4;simp
  ·rw[if_neg h3,if_neg h4]
   simp[hi,show k<i by omega]
end
theorem qrO:∀ k:Fin 64,inB (Int.fdiv (IntKind.wrap IntKind.u64 (((2 ^ k.val:Nat):Int)*285870213051353865)) 288230376151711744) 64=true /\
  conv IntKind.u8 IntKind.i64 (List.getD [0,1,56,2,57,49,28,3,61,58,42,50,38,29,17,4,62,47,59,36,45,43,51,22,53,39,33,30,24,18,12,5,63,55,48,27,60,41,37,16,46,35,44,21,52,32,23,11,54,26,40,15,34,20,31,10,25,14,19,9,13,8,7,6] (Int.toNat (Int.fdiv (IntKind.wrap IntKind.u64 (((2 ^ k.val:Nat):Int)*285870213051353865)) 288230376151711744)) 0)=((k.val:Nat):Int):=by decide +kernel
theorem qka {x:Nat} (h0:0<x) (h1:x<2 ^ 64):IntKind.wrap .u64 (0 - (x:Int))=((2 ^ 64 - x:Nat):Int):=by
 have:(0 - (x:Int)) % 18446744073709551616=18446744073709551616 - x:=by omega
 simp only[IntKind.wrap,IntKind.signed,IntKind.bits]
 simp
 omega
theorem qY7 {x:Nat} (h0:0<x) (h1:x<2 ^ 64):IntKind.wrap .u64 ((x:Int) - 1)=((x - 1:Nat):Int):=by
 rw[show (x:Int) - 1=((x - 1:Nat):Int) by omega]
 exact qD7 (by omega)
theorem qMU {f:Nat->Bool} {n k:Nat} (hn:n<=64) (hk:k<n) (hf:f k=true) (hl:∀ i,i<k->f i=false):qEn (qZ f n:Nat)=some (k:Int):=by
 have hpos:=qHd hk hf hl
 have hlt:=qBu f hn
 unfold qEn qMy
 rw[qT (by simp;omega),qka hpos hlt,qEB hlt (by omega),qj5 hk hf hl hn]
 obtain⟨a,b⟩:=qrO ⟨k,by omega⟩
 simp only at a b
 rw[qJ a,b]
theorem qKD {f:Nat->Bool} {n:Nat}:qZ f n=0 ↔ ∀ i,i<n->f i=false:=by
 constructor
 ·intro h i hi
  have:=qBo f n i
  rw[h] at this
  simpa[hi] using this.symm
 ·intro h
  rw[qEm (g:=fun _=>false) h,qKC]
def fst (f:Nat->Bool):Int:=match (List.range 81).find? f with
 | some i=>i
 | none=>-1
theorem qKe {f:Nat->Bool} {k:Nat} (hk:k<81) (hf:f k=true) (hl:∀ i,i<k->f i=false):fst f=k:=by
 unfold fst
 have:(List.range 81).find? f=some k:=by
  rw[List.find?_eq_some_iff_getElem]
  exact⟨hf,k,by simpa using hk,by simp,fun j hj=>by simp[hl j hj]⟩
 rw[this]
theorem qVb {f:Nat->Bool} (h:∀ i,i<81->f i=false):fst f = -1:=by
 unfold fst
 have:(List.range 81).find? f=none:=by simpa using h
 rw[this]
theorem qN6 (f:Nat->Bool):qIG (sLo f) (sHi f)=some (fst f):=by
 unfold qIG
 by_cases h:∃ i,0<=i /\ i<63 /\ f i=true
 ·obtain⟨k,_,hk,hf,hl⟩:=qHU h
  have hpos:=qHd hk hf fun i hi=>hl i (Nat.zero_le _) hi
  rw[qJ (by unfold sLo;simp;omega)]
  unfold sLo
  rw[qMU (by omega) hk hf fun i hi=>hl i (Nat.zero_le _) hi,qA,qKe (by omega) hf fun i hi=>hl i (Nat.zero_le _) hi]
 ·have h1:∀ i,i<63->f i=false:=fun i hi=>by
   cases hf:f i with
   | false=>rfl
   | true=>exact absurd ⟨i,Nat.zero_le _,hi,hf⟩ h
  rw[qT (by unfold sLo;rw[qKD.2 h1];rfl)]
  by_cases h2:∃ i,0<=i /\ i<18 /\ f (63+i)=true
  ·obtain⟨k,_,hk,hf,hl⟩:=qHU (p:=fun i=>f (63+i)) h2
   have hpos:=qHd (f:=fun i=>f (63+i)) hk hf fun i hi=>hl i (Nat.zero_le _) hi
   rw[qJ (by unfold sHi;simp;omega)]
   unfold sHi
   rw[qMU (f:=fun i=>f (63+i)) (by omega) hk hf fun i hi=>hl i (Nat.zero_le _) hi,qA,qAY (by omega) (by omega),qKe (k:=63+k) (by omega) hf fun i hi=>?_]
   ·simp
   ·by_cases hi2:i<63
    ·exact h1 i hi2
    ·have:=hl (i - 63) (Nat.zero_le _) (by omega)
     simpa[show 63+(i - 63)=i by omega] using this
  ·have h3:∀ i,i<18->f (63+i)=false:=fun i hi=>by
    cases hf:f (63+i) with
    | false=>rfl
    | true=>exact absurd ⟨i,Nat.zero_le _,hi,hf⟩ h2
   rw[qT (by unfold sHi;rw[qKD.2 h3];rfl),qVb]
   intro i hi
   by_cases hi2:i<63
   ·exact h1 i hi2
   ·have:=h3 (i - 63) (by omega)
    simpa[show 63+(i - 63)=i by omega] using this
def sq (f:Nat->Bool):List Int:=((List.range 81).filter f).map Int.ofNat
theorem qN4 {f:Nat->Bool} {j k:Nat} (hjk:j<=k) (h:∀ i,j<=i->i<k->f i=false):(List.range k).filter f=(List.range j).filter f:=by
 induction k with
 | zero=>rw[show j=0 by omega]
 | succ k ih=>
   by_cases hj:j=k+1
   ·rw[hj]
   ·rw[List.range_succ,List.filter_append,ih (by omega) fun i a b=>h i a (by omega)]
    simp[h k (by omega) (by omega)]
theorem qVQ {f:Nat->Bool} {j k:Nat} (hjk:j<=k) (h:∀ i,j<=i->i<k->f i=false) (hf:f k=true):(List.range (k+1)).filter f=(List.range j).filter f++[k]:=by
 rw[List.range_succ,List.filter_append,qN4 hjk h]
 simp[hf]
theorem qMf {l:List Int} {n:Nat} (h:n=l.length) (x:List Int):List.append (List.take n l) x=l++x:=by
 subst h;simp[List.take_length]
theorem qqX (f:Nat->Bool) (hi:Int):∀ (d j:Nat),63 - j=d->j<=63->∀ g,d<g->
  qIL g ((List.range j).filter f).length (qZ (fun i=>f i&&decide (j<=i)) 63:Nat) hi ((List.range j).filter f).length (((List.range j).filter f).map Int.ofNat) =
   some (((List.range 63).filter f).length,0,hi,((List.range 63).filter f).length,((List.range 63).filter f).map Int.ofNat):=by
 intro d
 induction d using Nat.strongRecOn with
 | ind d ih=>
   intro j hd hj g hg
   obtain⟨g,rfl⟩:∃ g',g=g'+1:=⟨g - 1,by omega⟩
   show qMC (qIL g) _ _ _ _ _=_
   unfold qMC
   by_cases h:∃ i,j<=i /\ i<63 /\ f i=true
   ·obtain⟨k,h1,h2,h3,h4⟩:=qHU h
    have hl:∀ i,i<k->(f i&&decide (j<=i))=false:=fun i hi=>by
     by_cases hji:j<=i
     ·rw[h4 i hji hi];rfl
     ·simp[hji]
    have hf:(f k&&decide (j<=k))=true:=by simp[h3,h1]
    have hpos:=qHd (f:=fun i=>f i&&decide (j<=i)) h2 hf hl
    have hlen:((List.range j).filter f).length<=63:=Nat.le_trans (List.length_filter_le _ _) (by simpa using hj)
    rw[qJ (by simp;omega),qMU (f:=fun i=>f i&&decide (j<=i)) (by omega) h2 hf hl,qA,qJ (by simp;omega),qMf (by simp),
     qY7 hpos (qBu _ (by omega)),qEB (qBu _ (by omega)) (Nat.lt_of_le_of_lt (Nat.sub_le _ _) (qBu (fun i=>f i&&decide (j<=i)) (by omega))),qX5 h2 hf hl,
     qEm (g:=fun i=>f i&&decide (k+1<=i)) fun i _=>by
      by_cases hki:k<i
      ·simp[show k+1<=i by omega,show j<=i by omega,hki]
      ·simp[hki,show ¬ k+1<=i by omega]]
    have hn:=qVQ h1 h4 h3
    have:=ih (63 - (k+1)) (by omega) (k+1) rfl (by omega) g (by omega)
    rw[hn] at this
    simpa using this
   ·have h5:∀ i,j<=i->i<63->f i=false:=fun i a b=>by
     cases hf:f i with
     | false=>rfl
     | true=>exact absurd ⟨i,a,b,hf⟩ h
    have hz:qZ (fun i=>f i&&decide (j<=i)) 63=0:=qKD.2 fun i hi=>by
     by_cases hji:j<=i
     ·rw[h5 i hji hi];rfl
     ·simp[hji]
    rw[hz,qT (by rfl),qN4 hj h5]
    rfl
theorem qqW (f:Nat->Bool) (l:List Int) (lo:Int) (hl0:l.length<=63):∀ (d j:Nat),18 - j=d->j<=18->∀ g,d<g->
  qIM g (l++((List.range j).filter fun i=>f (63+i)).map fun i=>Int.ofNat (63+i)).length lo (qZ (fun i=>f (63+i)&&decide (j<=i)) 18:Nat) (l++((List.range j).filter fun i=>f (63+i)).map fun i=>Int.ofNat (63+i)).length
   (l++((List.range j).filter fun i=>f (63+i)).map fun i=>Int.ofNat (63+i)) =
   some ((l++((List.range 18).filter fun i=>f (63+i)).map fun i=>Int.ofNat (63+i)).length,(l++((List.range 18).filter fun i=>f (63+i)).map fun i=>Int.ofNat (63+i)).length,l++((List.range 18).filter fun i=>f (63+i)).map fun i=>Int.ofNat (63+i)):=by
 intro d
 induction d using Nat.strongRecOn with
 | ind d ih=>
   intro j hd hj g hg
   obtain⟨g,rfl⟩:∃ g',g=g'+1:=⟨g - 1,by omega⟩
   show qMD (qIM g) _ _ _ _ _=_
   unfold qMD
   by_cases h:∃ i,j<=i /\ i<18 /\ f (63+i)=true
   ·obtain⟨k,h1,h2,h3,h4⟩:=qHU (p:=fun i=>f (63+i)) h
    have hl:∀ i,i<k->(f (63+i)&&decide (j<=i))=false:=fun i hi=>by
     by_cases hji:j<=i
     ·rw[h4 i hji hi];rfl
     ·simp[hji]
    have hf:(f (63+k)&&decide (j<=k))=true:=by simp[h3,h1]
    have hpos:=qHd (f:=fun i=>f (63+i)&&decide (j<=i)) h2 hf hl
    have hlen:((List.range j).filter fun i=>f (63+i)).length<=18:=Nat.le_trans (List.length_filter_le _ _) (by simpa using hj)
    rw[qJ (by simp;omega),qMU (f:=fun i=>f (63+i)&&decide (j<=i)) (by omega) h2 hf hl,qA,qJ (by simp;omega),qMf rfl,
     qY7 hpos (qBu _ (by omega)),qEB (qBu _ (by omega)) (Nat.lt_of_le_of_lt (Nat.sub_le _ _) (qBu (fun i=>f (63+i)&&decide (j<=i)) (by omega))),qX5 h2 hf hl,
     qEm (g:=fun i=>f (63+i)&&decide (k+1<=i)) fun i _=>by
      by_cases hki:k<i
      ·simp[show k+1<=i by omega,show j<=i by omega,hki]
      ·simp[hki,show ¬ k+1<=i by omega],qAY (by omega) (by omega)]
    have hn:=qVQ (f:=fun i=>f (63+i)) h1 h4 h3
    have:=ih (18 - (k+1)) (by omega) (k+1) rfl (by omega) g (by omega)
    rw[hn] at this
    simpa[Nat.add_assoc] using this
   ·have h5:∀ i,j<=i->i<18->f (63+i)=false:=fun i a b=>by
     cases hf:f (63+i) with
     | false=>rfl
     | true=>exact absurd ⟨i,a,b,hf⟩ h
    have hz:qZ (fun i=>f (63+i)&&decide (j<=i)) 18=0:=qKD.2 fun i hi=>by
     by_cases hji:j<=i
     ·rw[h5 i hji hi];rfl
     ·simp[hji]
    rw[hz,qT (by rfl),qN4 (f:=fun i=>f (63+i)) hj h5]
theorem qZC:List.range 81=List.range 63++(List.range 18).map (63+·):=by decide +kernel
theorem qqZ (f:Nat->Bool):sq f=((List.range 63).filter f).map Int.ofNat++((List.range 18).filter fun i=>f (63+i)).map fun i=>Int.ofNat (63+i):=by
 unfold sq
 rw[qZC,List.filter_append,List.map_append,List.filter_map,List.map_map]
 rfl
theorem qJm (f:Nat->Bool):qFg (sLo f) (sHi f)=some ((sq f).length,(sq f).length,sq f):=by
 unfold qFg
 have h1:=qqX f (sHi f) 63 0 rfl (by omega) qC (by unfold qC;omega)
 have e1:(qZ (fun i=>f i&&decide (0<=i)) 63:Nat)=qZ f 63:=qEm fun i _=>by simp
 rw[e1] at h1
 have h2:=qqW f (((List.range 63).filter f).map Int.ofNat) 0 (by rw[List.length_map];exact Nat.le_trans (List.length_filter_le _ _) (by simp)) 18 0 rfl (by omega) qC (by unfold qC;omega)
 have e2:(qZ (fun i=>f (63+i)&&decide (0<=i)) 18:Nat)=qZ (fun i=>f (63+i)) 18:=qEm fun i _=>by simp
 rw[e2] at h2
 simp only[List.range_zero,List.filter_nil,List.map_nil,List.append_nil,List.length_nil,List.length_map] at h1 h2
 unfold sLo
 rw[h1,qA]
 simp only
 unfold sHi
 rw[h2,qA,qqZ]
end Go.Kk.Pl
namespace Go.Kk.Pl
def qCR (c:Nat):Nat->Nat
 | 0=>0
 | k+1=>c+256*qCR c k
def w1 (k x:Nat):Nat:=((x / 2) &&& qCR 85 k)+(x &&& qCR 85 k)
def w2 (k x:Nat):Nat:=((x / 4) &&& qCR 51 k)+(x &&& qCR 51 k)
def w3 (k x:Nat):Nat:=(x / 16+x) &&& qCR 15 k
theorem qIZ {a b r m:Nat} (ha:a<256) (hb:b<256):(a+256*r) &&& (b+256*m)=(a &&& b)+256*(r &&& m):=by
 have h1:a+256*r=2 ^ 8*r+a:=by omega
 have h2:b+256*m=2 ^ 8*m+b:=by omega
 have h3:(a &&& b)+256*(r &&& m)=2 ^ 8*(r &&& m)+(a &&& b):=by omega
 have h4:a &&& b<2 ^ 8:=Nat.lt_of_le_of_lt Nat.and_le_left ha
 apply Nat.eq_of_testBit_eq
 intro i
 rw[h1,h2,h3,Nat.testBit_and,Nat.testBit_two_pow_mul_add _ ha,Nat.testBit_two_pow_mul_add _ hb,Nat.testBit_two_pow_mul_add _ h4]
 split<;>simp
theorem qeS:∀ (b:Fin 256) (t:Fin 2),((b.val / 2+128*t.val) &&& 85)=((b.val / 2) &&& 85):=by decide +kernel
theorem qeT:∀ (b:Fin 256) (t:Fin 4),((b.val / 4+64*t.val) &&& 51)=((b.val / 4) &&& 51):=by decide +kernel
def y1 (b:Nat):Nat:=((b / 2) &&& 85)+(b &&& 85)
def y2 (b:Nat):Nat:=((b / 4) &&& 51)+(b &&& 51)
def y3 (b:Nat):Nat:=(b / 16+b) &&& 15
theorem qde:∀ b:Fin 256,y1 b.val<256:=by decide +kernel
theorem qdf:∀ b:Fin 256,y2 (y1 b.val)<=68 /\ y3 (y2 (y1 b.val))<=8:=by decide +kernel
theorem qeU:∀ (b:Fin 103) (t:Fin 8),((b.val / 16+b.val+16*t.val) &&& 15)=((b.val / 16+b.val) &&& 15):=by decide +kernel
theorem qdW {b r k:Nat} (hb:b<256):w1 (k+1) (b+256*r)=y1 b+256*w1 k r:=by
 unfold w1 y1
 have h1:(b+256*r) / 2=(b / 2+128*(r % 2))+256*(r / 2):=by omega
 rw[h1]
 simp only[qCR]
 have:=qeS ⟨b,hb⟩ ⟨r % 2,by omega⟩
 simp only at this
 rw[qIZ (by omega) (by omega),qIZ hb (by omega),this]
 omega
theorem qdX {b r k:Nat} (hb:b<256):w2 (k+1) (b+256*r)=y2 b+256*w2 k r:=by
 unfold w2 y2
 have h1:(b+256*r) / 4=(b / 4+64*(r % 4))+256*(r / 4):=by omega
 rw[h1]
 simp only[qCR]
 have:=qeT ⟨b,hb⟩ ⟨r % 4,by omega⟩
 simp only at this
 rw[qIZ (by omega) (by omega),qIZ hb (by omega),this]
 omega
theorem qrS {b r k:Nat} (hb:b<=102) (hr:r % 16<8):w3 (k+1) (b+256*r)=y3 b+256*w3 k r:=by
 unfold w3 y3
 have h1:(b+256*r) / 16+(b+256*r)=(b / 16+b+16*(r % 16))+256*(r / 16+r):=by omega
 rw[h1]
 simp only[qCR]
 rw[qIZ (by omega) (by omega),qeU ⟨b,by omega⟩ ⟨r % 16,hr⟩]
def pop:Nat->Nat->Nat
 | 0,_=>0
 | k+1,x=>y3 (y2 (y1 (x % 256)))+pop k (x / 256)
def qJK:Nat->Nat->Nat
 | 0,_=>0
 | k+1,x=>y3 (y2 (y1 (x % 256)))+256*qJK k (x / 256)
theorem qrR (k x:Nat):w2 k (w1 k x) % 16<8:=by
 cases k with
 | zero=>simp[w2,qCR]
 | succ k=>
   have h:x=x % 256+256*(x / 256):=by omega
   have h0:=qde ⟨x % 256,by omega⟩
   simp only at h0
   rw[h,qdW (by omega),qdX h0]
   have:∀ b:Fin 256,y2 (y1 b.val) % 16<8:=by decide +kernel
   have:=this ⟨x % 256,by omega⟩
   simp only at this
   omega
theorem qdY:∀ k x,w3 k (w2 k (w1 k x))=qJK k x
 | 0,x=>by simp[w3,qCR,qJK]
 | k+1,x=>by
   have h:x=x % 256+256*(x / 256):=by omega
   have h0:=qde ⟨x % 256,by omega⟩
   have h1:=(qdf ⟨x % 256,by omega⟩).1
   simp only at h0 h1
   conv=>lhs;rw[h]
   rw[qdW (by omega),qdX h0,qrS (by omega) (qrR _ _),qdY k]
   rfl
theorem qq7 {a0 a1 a2 a3 a4 a5 a6 a7:Nat} (h0:a0<=8) (h1:a1<=8) (h2:a2<=8) (h3:a3<=8) (h4:a4<=8) (h5:a5<=8) (h6:a6<=8) (h7:a7<=8):
  (a0 + 256 * (a1+256*(a2+256*(a3+256*(a4+256*(a5+256*(a6+256*(a7+256*0)))))))+
      (a0 + 256*(a1+256*(a2+256*(a3+256*(a4+256*(a5+256*(a6+256*(a7+256*0)))))))) / 256+
        (a0 + 256*(a1+256*(a2+256*(a3+256*(a4+256*(a5+256*(a6+256*(a7+256*0)))))))+
            (a0+256*(a1+256*(a2+256*(a3+256*(a4+256*(a5+256*(a6+256*(a7+256*0)))))))) / 256) /
         65536+
      (a0 + 256*(a1+256*(a2+256*(a3+256*(a4+256*(a5+256*(a6+256*(a7+256*0)))))))+
            (a0+256*(a1+256*(a2+256*(a3+256*(a4+256*(a5+256*(a6+256*(a7+256*0)))))))) / 256+
          (a0 + 256*(a1+256*(a2+256*(a3+256*(a4+256*(a5+256*(a6+256*(a7+256*0)))))))+
              (a0+256*(a1+256*(a2+256*(a3+256*(a4+256*(a5+256*(a6+256*(a7+256*0)))))))) / 256) /
           65536) /
       4294967296) %
   128 =
  a0+(a1+(a2+(a3+(a4+(a5+(a6+(a7+0))))))):=by
 rw[show a7+256*0=a7 by omega]
 generalize h:a6+256*a7=q6
 generalize g5:a5+256*q6=q5
 generalize g4:a4+256*q5=q4
 generalize g3:a3+256*q4=q3
 generalize g2:a2+256*q3=q2
 generalize g1:a1+256*q2=q1
 have e1:(a0+256*q1) / 256=q1:=by omega
 rw[e1]
 have e2:(a0+256*q1+q1) / 65536=q2+q3:=by omega
 rw[e2]
 have e3:(a0+256*q1+q1+(q2+q3)) / 4294967296=q4+q5+(q6+a7):=by omega
 rw[e3]
 omega
theorem qq8 (x:Nat):
  let s:=qJK 8 x
  let t:=s+s / 256
  let u:=t+t / 65536
  (u+u / 4294967296) % 128=pop 8 x:=by
 have h:∀ y,y3 (y2 (y1 (y % 256)))<=8:=fun y=>(qdf ⟨y % 256,by omega⟩).2
 simp only[qJK,pop]
 have h0:=h x
 have h1:=h (x / 256)
 have h2:=h (x / 256 / 256)
 have h3:=h (x / 256 / 256 / 256)
 have h4:=h (x / 256 / 256 / 256 / 256)
 have h5:=h (x / 256 / 256 / 256 / 256 / 256)
 have h6:=h (x / 256 / 256 / 256 / 256 / 256 / 256)
 have h7:=h (x / 256 / 256 / 256 / 256 / 256 / 256 / 256)
 generalize y3 (y2 (y1 (x % 256)))=a0 at *
 generalize y3 (y2 (y1 (x / 256 % 256)))=a1 at *
 generalize y3 (y2 (y1 (x / 256 / 256 % 256)))=a2 at *
 generalize y3 (y2 (y1 (x / 256 / 256 / 256 % 256)))=a3 at *
 generalize y3 (y2 (y1 (x / 256 / 256 / 256 / 256 % 256)))=a4 at *
 generalize y3 (y2 (y1 (x / 256 / 256 / 256 / 256 / 256 % 256)))=a5 at *
 generalize y3 (y2 (y1 (x / 256 / 256 / 256 / 256 / 256 / 256 % 256)))=a6 at *
 generalize y3 (y2 (y1 (x / 256 / 256 / 256 / 256 / 256 / 256 / 256 % 256)))=a7 at *
 exact qq7 h0 h1 h2 h3 h4 h5 h6 h7
theorem qTb (f:Nat->Bool) (n:Nat):∀ m,qZ f (n+m)=qZ f n+2 ^ n*qZ (fun i=>f (n+i)) m
 | 0=>by simp[qZ]
 | m+1=>by
   rw[<- Nat.add_assoc]
   simp only[qZ]
   rw[qTb f n m,Nat.mul_add,Nat.add_assoc]
   congr 2
   cases f (n+m)<;>simp[Nat.pow_add]
theorem qfk:∀ a b c d e f g h:Bool,y3 (y2 (y1 (0+(bif a then 2 ^ 0 else 0)+(bif b then 2 ^ 1 else 0)+(bif c then 2 ^ 2 else 0)+(bif d then 2 ^ 3 else 0)+(bif e then 2 ^ 4 else 0)+(bif f then 2 ^ 5 else 0)+(bif g then 2 ^ 6 else 0)+(bif h then 2 ^ 7 else 0)))) =
  a.toNat+b.toNat+c.toNat+d.toNat+e.toNat+f.toNat+g.toNat+h.toNat:=by decide +kernel
theorem qY6 (f:Nat->Bool):∀ k,∀ j,pop k (qZ (fun i=>f (j+i)) (8*k))=((List.range (8*k)).map (j+·)).countP f
 | 0,j=>rfl
 | k+1,j=>by
   have e:qZ (fun i=>f (j+i)) (8*(k+1))=qZ (fun i=>f (j+i)) 8+256*qZ (fun i=>f (j+8+i)) (8*k):=by
    rw[show 8*(k+1)=8+8*k by omega,qTb]
    simp only[Nat.add_assoc]
   have hlt:=qEC (fun i=>f (j+i)) 8
   simp only[pop]
   rw[e,show (qZ (fun i=>f (j+i)) 8+256*qZ (fun i=>f (j+8+i)) (8*k)) % 256=qZ (fun i=>f (j+i)) 8 by omega,
    show (qZ (fun i=>f (j+i)) 8+256*qZ (fun i=>f (j+8+i)) (8*k)) / 256=qZ (fun i=>f (j+8+i)) (8*k) by omega,qY6 f k (j+8)]
   have h8:List.range (8*(k+1))=List.range 8++(List.range (8*k)).map (8+·):=by
    rw[show 8*(k+1)=8+8*k by omega,List.range_add]
   rw[h8,List.map_append,List.countP_append,List.map_map]
   have h1:y3 (y2 (y1 (qZ (fun i=>f (j+i)) 8)))=((List.range 8).map (j+·)).countP f:=by
    have:=qfk (f (j+0)) (f (j+1)) (f (j+2)) (f (j+3)) (f (j+4)) (f (j+5)) (f (j+6)) (f (j+7))
    simp only[qZ]
    rw[this]
    show _=List.countP f [j+0,j+1,j+2,j+3,j+4,j+5,j+6,j+7]
    simp only[List.countP_cons,List.countP_nil]
    cases f (j+0)<;>cases f (j+1)<;>cases f (j+2)<;>cases f (j+3)<;>cases f (j+4)<;>cases f (j+5)<;>cases f (j+6)<;>cases f (j+7)<;>rfl
   rw[h1]
   congr 2
   apply List.map_congr_left
   intro a _
   show j+8+a=j+(8+a)
   omega
theorem qHF (a b:Nat):Int.fdiv (a:Int) (b:Int)=((a / b:Nat):Int):=by
 simp[Int.fdiv_eq_ediv]
def ocS (x:Nat):Nat:=
 let s:=w3 8 (w2 8 (w1 8 x))
 let t:=s+s / 256
 let u:=t+t / 65536
 (u+u / 4294967296) % 128
theorem qYF:qCR 85 8=6148914691236517205:=by decide +kernel
theorem qYE:qCR 51 8=3689348814741910323:=by decide +kernel
theorem qYD:qCR 15 8=1085102592571150095:=by decide +kernel
theorem qgT {n:Nat} (h:n<2 ^ 63):conv IntKind.u64 IntKind.i64 (n:Int)=n:=by
 unfold conv
 rw[show IntKind.within .u64 .i64=false from rfl,cond_false]
 exact qSz (by omega) (by omega)
theorem qdu {n:Nat} (h:n<2 ^ 63):qD .and .i64 (n:Int) 127=((n % 128:Nat):Int):=by
 unfold qD
 show IntKind.wrap .i64 _=_
 rw[show IntKind.bits .i64=64 from rfl,show (127:Int)=((127:Nat):Int) from rfl,qFI,qFI,BitVec.toNat_and,BitVec.toNat_ofNat,BitVec.toNat_ofNat,Nat.mod_eq_of_lt (by omega),Nat.mod_eq_of_lt (by omega)]
 rw[show (127:Nat)=2 ^ 7 - 1 by rfl,Nat.and_two_pow_sub_one_eq_mod]
 exact qSz (by omega) (by omega)
theorem qlY {x:Nat} (hx:x<2 ^ 64):qGv (x:Int)=some ((ocS x:Nat):Int):=by
 unfold qGv
 have d2:Int.fdiv (x:Int) 2=((x / 2:Nat):Int):=qHF x 2
 have s1:IntKind.wrap IntKind.u64 (qD BinOp.and IntKind.u64 (Int.fdiv (x:Int) 2) 6148914691236517205+qD BinOp.and IntKind.u64 (x:Int) 6148914691236517205)=((w1 8 x:Nat):Int):=by
  have h1:qD BinOp.and IntKind.u64 ((x / 2:Nat):Int) 6148914691236517205=((x / 2 &&& 6148914691236517205:Nat):Int):=qEB (by omega) (by decide)
  have h2:qD BinOp.and IntKind.u64 ((x:Nat):Int) 6148914691236517205=((x &&& 6148914691236517205:Nat):Int):=qEB hx (by decide)
  rw[d2,h1,h2]
  have l1:=Nat.and_le_right (n:=x / 2) (m:=6148914691236517205)
  have l2:=Nat.and_le_right (n:=x) (m:=6148914691236517205)
  have:=qD7 (n:=((x / 2) &&& 6148914691236517205)+(x &&& 6148914691236517205)) (by omega)
  rw[Int.natCast_add] at this
  rw[this]
  unfold w1
  rw[qYF,Int.natCast_add]
 have l1:w1 8 x<2 ^ 64:=by
  unfold w1
  rw[qYF]
  have l1:=Nat.and_le_right (n:=x / 2) (m:=6148914691236517205)
  have l2:=Nat.and_le_right (n:=x) (m:=6148914691236517205)
  omega
 rw[s1]
 generalize hy:w1 8 x=y at *
 have s2:IntKind.wrap IntKind.u64 (qD BinOp.and IntKind.u64 (Int.fdiv (y:Int) 4) 3689348814741910323+qD BinOp.and IntKind.u64 (y:Int) 3689348814741910323)=((w2 8 y:Nat):Int):=by
  have h1:qD BinOp.and IntKind.u64 ((y / 4:Nat):Int) 3689348814741910323=((y / 4 &&& 3689348814741910323:Nat):Int):=qEB (by omega) (by decide)
  have h2:qD BinOp.and IntKind.u64 ((y:Nat):Int) 3689348814741910323=((y &&& 3689348814741910323:Nat):Int):=qEB l1 (by decide)
  rw[show Int.fdiv (y:Int) 4=((y / 4:Nat):Int) from qHF y 4,h1,h2]
  have l1:=Nat.and_le_right (n:=y / 4) (m:=3689348814741910323)
  have l2:=Nat.and_le_right (n:=y) (m:=3689348814741910323)
  have:=qD7 (n:=((y / 4) &&& 3689348814741910323)+(y &&& 3689348814741910323)) (by omega)
  rw[Int.natCast_add] at this
  rw[this]
  unfold w2
  rw[qYE,Int.natCast_add]
 have l2:w2 8 y<=2*3689348814741910323:=by
  unfold w2
  rw[qYE]
  have l1:=Nat.and_le_right (n:=y / 4) (m:=3689348814741910323)
  have l2:=Nat.and_le_right (n:=y) (m:=3689348814741910323)
  omega
 rw[s2]
 generalize hz:w2 8 y=z at *
 have s3:qD BinOp.and IntKind.u64 (IntKind.wrap IntKind.u64 (Int.fdiv (z:Int) 16+(z:Int))) 1085102592571150095=((w3 8 z:Nat):Int):=by
  rw[show Int.fdiv (z:Int) 16=((z / 16:Nat):Int) from qHF z 16,<- Int.natCast_add,qD7 (by omega)]
  have h1:qD BinOp.and IntKind.u64 ((z / 16+z:Nat):Int) 1085102592571150095=(((z / 16+z) &&& 1085102592571150095:Nat):Int):=qEB (by omega) (by decide)
  rw[h1]
  unfold w3
  rw[qYD]
 have l3:w3 8 z<=1085102592571150095:=by
  unfold w3
  rw[qYD]
  exact Nat.and_le_right
 rw[s3]
 generalize hp:w3 8 z=p at *
 rw[show Int.fdiv (p:Int) 256=((p / 256:Nat):Int) from qHF p 256,<- Int.natCast_add,qD7 (by omega),
  show Int.fdiv ((p+p / 256:Nat):Int) 65536=(((p+p / 256) / 65536:Nat):Int) from qHF _ 65536,<- Int.natCast_add,qD7 (by omega),
  show Int.fdiv ((p+p / 256+(p+p / 256) / 65536:Nat):Int) 4294967296=(((p+p / 256+(p+p / 256) / 65536) / 4294967296:Nat):Int) from qHF _ 4294967296,<- Int.natCast_add,qD7 (by omega),qgT (by omega),qdu (by omega)]
 unfold ocS
 rw[hy,hz,hp]
theorem qmF {x:Nat}:ocS x=pop 8 x:=by
 unfold ocS
 rw[qdY]
 exact qq8 x
theorem qYj (f:Nat->Bool) {n:Nat} (hn:n<=64):qGv (qZ f n:Nat)=some (((List.range n).countP f:Nat):Int):=by
 rw[qlY (qBu f hn),qmF]
 have e:qZ f n=qZ (fun i=>(fun i=>f i&&decide (i<n)) (0+i)) (8*8):=by
  apply Nat.eq_of_testBit_eq
  intro i
  rw[qBo,qBo]
  by_cases h:i<n
  ·simp[h,show i<64 by omega]
  ·simp[h]
 rw[e,qY6 (fun i=>f i&&decide (i<n)) 8 0]
 congr 2
 have h64:List.range (8*8)=List.range n++(List.range (64 - n)).map (n+·):=by
  rw[<- List.range_add];congr 1;omega
 have hid:(List.range (8*8)).map (0+·)=List.range (8*8):=by
  have:(fun x:Nat=>0+x)=id:=by funext x;simp
  rw[this,List.map_id]
 rw[hid,h64,List.countP_append]
 have h1:(List.range n).countP (fun i=>f i&&decide (i<n))=(List.range n).countP f:=by
  apply List.countP_congr
  intro x hx
  simp only[List.mem_range] at hx
  simp[hx]
 have h2:((List.range (64 - n)).map (n+·)).countP (fun i=>f i&&decide (i<n))=0:=by
  rw[List.countP_eq_zero]
  intro x hx
  obtain⟨a,_,rfl⟩:=List.mem_map.1 hx
  simp
 rw[h1,h2,Nat.add_zero]
def qA2 (f:Nat->Bool):Nat:=(List.range 81).countP f
theorem qgN (f:Nat->Bool):qA2 f<=81:=Nat.le_trans List.countP_le_length (by simp)
theorem qNs (f:Nat->Bool):qIE (sLo f) (sHi f)=some ((qA2 f:Nat):Int):=by
 have hle:=qgN f
 unfold qIE sLo sHi
 have e:qA2 f=(List.range 63).countP f+(List.range 18).countP fun i=>f (63+i):=by
  unfold qA2
  rw[qZC,List.countP_append,List.countP_map]
  rfl
 rw[qYj f (by omega),qA,qYj (fun i=>f (63+i)) (by omega),qA,<- Int.natCast_add,<- e,qAY (by omega) (by omega)]
end Go.Kk.Pl
namespace Go.Kk.Pl
theorem qXP (x:Int):∃ v,qAO x=some v:=by
 unfold qAO
 repeat first | exact⟨_,rfl⟩ | apply qG8
theorem qLD (x:Int):∃ v,qEH x=some v:=⟨_,rfl⟩
theorem qW2 (q x:Int):∃ v,qCe q x=some v:=by
 unfold qCe
 refine qGD (qXP _) fun a=>?_
 repeat first | exact⟨_,rfl⟩ | apply qG8 | (refine qGD (qLD _) fun a=>?_)
theorem qW1 (s k n:Int):∃ v,qDD s k n=some v:=by
 unfold qDD
 repeat first | exact⟨_,rfl⟩ | apply qG8 | (refine qGD (qLD _) fun a=>?_)
theorem qW3:∃ v,qDE=some v:=by
 unfold qDE
 refine qGD (qLD _) fun a=>?_
 exact⟨_,rfl⟩
theorem qit (b c d:List Int) (e:Int):∀ (n:Nat) (q acc:Int),q=81 - n->n<=81->0<=acc->∃ A,0<=A /\ ∀ f,qCd (f+n+1) acc b q c d e=some (A,c,d,e):=by
 intro n
 induction n with
 | zero=>
   intro q acc hq _ ha
   have hq:¬ q<81:=by omega
   refine⟨acc,ha,fun f=>?_⟩
   show qDl (qCd (f+0)) acc b q c d e=_
   unfold qDl
   rw[qT (by simpa using hq)]
 | succ n ih=>
   intro q acc hq hn ha
   have hq1:q<81:=by omega
   have hq0:0<=q:=by omega
   obtain⟨v,hv⟩:=qW2 q (b.getD q.toNat 0)
   obtain⟨A,h1,h2⟩:=ih (q+1) (qD .xor .u64 acc v) (by omega) (by omega) (qMx _ _ _).1
   refine⟨A,h1,fun f=>?_⟩
   show qDl (qCd (f+n+1)) acc b q c d e=_
   unfold qDl
   rw[qJ (by simpa using hq1),qJ (qAa hq0 hq1)]
   simp only[cond_true]
   rw[hv,qA,qAY (by omega) (by omega)]
   exact h2 f
theorem qis (row:List Int) (sd:Int) (x2:List Int) (x3:Int) (x6 x7:List Int) (x8:Int):∀ (n:Nat) (k acc:Int),k=8 - n->n<=8->0<=acc->
  ∃ A,0<=A /\ ∀ f,qCy (f+n+1) acc sd x2 x3 row k x6 x7 x8=some (A,x2,x3,x6,x7,x8):=by
 intro n
 induction n with
 | zero=>
   intro k acc hk _ ha
   have hk:¬ k<8:=by omega
   refine⟨acc,ha,fun f=>?_⟩
   show qDk (qCy (f+0)) acc sd x2 x3 row k x6 x7 x8=_
   unfold qDk
   rw[qT (by simpa using hk)]
 | succ n ih=>
   intro k acc hk hn ha
   have hk1:k<8:=by omega
   have hk0:0<=k:=by omega
   obtain⟨v,hv⟩:=qW1 sd k (conv .i8 .i64 (row.getD k.toNat 0))
   obtain⟨A,h1,h2⟩:=ih (k+1) (qD .xor .u64 acc v) (by omega) (by omega) (qMx _ _ _).1
   refine⟨A,h1,fun f=>?_⟩
   show qDk (qCy (f+n+1)) acc sd x2 x3 row k x6 x7 x8=_
   unfold qDk
   rw[qJ (by simpa using hk1),qJ (qAa hk0 hk1)]
   simp only[cond_true]
   rw[hv,qA,qAY (by omega) (by omega)]
   exact h2 f
theorem qir (h c d:List Int) (e:Int):∀ (n:Nat) (sd acc:Int),sd=2 - n->n<=2->0<=acc->∃ A,0<=A /\ ∀ f,qB3 (f+n+1) acc h sd c d e=some (A,c,d,e):=by
 intro n
 induction n with
 | zero=>
   intro sd acc hq _ ha
   have hq:¬ sd<2:=by omega
   refine⟨acc,ha,fun f=>?_⟩
   show qDm (qB3 (f+0)) acc h sd c d e=_
   unfold qDm
   rw[qT (by simpa using hq)]
 | succ n ih=>
   intro sd acc hq hn ha
   have hq1:sd<2:=by omega
   have hq0:0<=sd:=by omega
   obtain⟨A1,j1,j2⟩:=qis (List.take 8 (List.drop (Nat.add (Nat.mul (Int.toNat sd) 7) (Int.toNat sd)) h)) sd h sd c d e 8 0 acc (by omega) (by omega) ha
   obtain⟨A,h1,h2⟩:=ih (sd+1) A1 (by omega) (by omega) j1
   obtain⟨g,hg⟩:=qi 8 (by omega)
   refine⟨A,h1,fun f=>?_⟩
   show qDm (qB3 (f+n+1)) acc h sd c d e=_
   unfold qDm
   rw[qJ (by simpa using hq1),qJ (qAa hq0 hq1),hg,j2 g,qA]
   simp only
   rw[qAY (by omega) (by omega)]
   exact h2 f
theorem qjA (b h:List Int) (s:Int):∃ k,qFC b h s=some k /\ 0<=k:=by
 obtain⟨A,a0,a1⟩:=qit b b h s 81 0 0 (by omega) (by omega) (by omega)
 obtain⟨B,b0,b1⟩:=qir h b h s 2 0 A (by omega) (by omega) a0
 obtain⟨g,hg⟩:=qi 81 (by omega)
 obtain⟨g2,hg2⟩:=qi 2 (by omega)
 obtain⟨w,hw⟩:=qW3
 have e1:qCd qC 0 b 0 b h s=some (A,b,h,s):=by rw[hg];exact a1 g
 have e2:qB3 qC A h 0 b h s=some (B,b,h,s):=by rw[hg2];exact b1 g2
 unfold qFC
 rw[e1,qA]
 simp only
 rw[e2,qA]
 simp only
 rw[hw,qA]
 cases hs:s==1
 ·exact⟨B,rfl,b0⟩
 ·exact⟨_,rfl,(qMx _ _ _).1⟩
end Go.Kk.Pl
namespace Go.Kk.Pl
def kd (x:Int):Int:=if x<1 \/ 31<x \/ x=13 \/ x=16 \/ x=29 then 0 else x % 16
def sd (x:Int):Int:=if kd x=0 then -1 else if x<16 then 0 else 1
theorem qVS {x:Int} (h0:0<=x) (h1:x<=31):∃ n:Fin 32,x=((n.val:Nat):Int):=⟨⟨x.toNat,by omega⟩,by simp;omega⟩
theorem qjH:∀ n:Fin 32,qAO ((n.val:Nat):Int)=some (kd ((n.val:Nat):Int)):=by decide +kernel
theorem qok:∀ n:Fin 32,qAb ((n.val:Nat):Int)=some (kd ((n.val:Nat):Int)):=by decide +kernel
theorem qBt (x:Int):qAO x=some (kd x):=by
 by_cases h0:0<=x
 ·by_cases h1:x<=31
  ·obtain⟨n,rfl⟩:=qVS h0 h1
   exact qjH n
  ·unfold qAO
   rw[qT (by simp;omega),qJ (by simp;omega),qT (by simp;omega),qT (by simp;omega)]
   unfold kd
   rw[if_pos (by omega)]
 ·unfold qAO
  rw[qJ (by simp;omega),qT (by simp;omega),qT (by simp;omega)]
  unfold kd
  rw[if_pos (by omega)]
theorem qCB (x:Int):qAb x=some (kd x):=by
 by_cases h0:0<=x
 ·by_cases h1:x<=31
  ·obtain⟨n,rfl⟩:=qVS h0 h1
   exact qok n
  ·unfold qAb
   rw[qT (by simp;omega),qJ (by simp;omega)]
   unfold kd
   rw[if_pos (by omega)]
 ·unfold qAb
  rw[qJ (by simp;omega)]
  unfold kd
  rw[if_pos (by omega)]
theorem qDP (x:Int):qAz x=some (sd x):=by
 unfold qAz
 rw[qBt,qA]
 unfold sd
 by_cases h:kd x=0
 ·rw[qJ (by simp[h]),if_pos h]
 ·rw[qT (by simpa using h),if_neg h]
  by_cases h2:x<16
  ·rw[qJ (by simpa using h2),if_pos h2]
  ·rw[qT (by simpa using h2),if_neg h2]
theorem qFB:kd 0=0:=by decide
theorem qI7 {x:Int} (h:kd x≠0):1<=x /\ x<=31:=by
 unfold kd at h
 split at h
 ·exact absurd rfl h
 ·omega
theorem qIA {x:Int} (h:kd x≠0):sd x=0 \/ sd x=1:=by
 unfold sd
 rw[if_neg h]
 split<;>simp
structure Clean (b:List Int):Prop where
 len:b.length=81
 ok:∀ i,i<81->b.getD i 0=0 \/ kd (b.getD i 0)≠0
def at_ (b:List Int) (q:Int):Int:=if 0<=q /\ q<81 then b.getD q.toNat 0 else 0
def put (b:List Int) (q x:Int):List Int:=if 0<=q /\ q<81 then b.set q.toNat (if kd x=0 then 0 else x) else b
theorem qC4 (q:Int) (b h:List Int) (s:Int) (by_ sides:List (List Int)):qAv q b h s by_ sides=some (at_ b q):=by
 unfold qAv at_
 by_cases h0:q<0
 ·rw[qJ (by simpa using h0),if_neg (by omega)]
 ·rw[qT (by simpa using h0)]
  by_cases h1:81<=q
  ·rw[qJ (by simpa using h1),if_neg (by omega)]
  ·rw[qT (by simpa using h1),qJ (qAa (by omega) (by omega)),if_pos (by omega)]
theorem Clean.at_ {b:List Int} (hc:Clean b) (q:Int):at_ b q=0 \/ kd (at_ b q)≠0:=by
 unfold Pl.at_
 split
 ·exact hc.ok _ (by omega)
 ·exact .inl rfl
theorem Clean.put {b:List Int} (hc:Clean b) (q x:Int):Clean (put b q x):=by
 unfold Pl.put
 split
 ·rename_i hq
  refine⟨by rw[List.length_set];exact hc.len,fun i hi=>?_⟩
  by_cases hqi:q.toNat=i
  ·subst hqi
   rw[List.getD_eq_getElem?_getD,List.getElem?_set_self (by rw[hc.len];exact hi),Option.getD_some]
   split
   ·exact .inl rfl
   ·rename_i h;exact .inr h
  ·rw[List.getD_eq_getElem?_getD,List.getElem?_set_ne hqi,<- List.getD_eq_getElem?_getD]
   exact hc.ok i hi
 ·exact hc
theorem qJ6 {b:List Int} (hl:b.length=81) {q:Int} (hq:0<=q /\ q<81) (x p:Int):at_ (put b q x) p=if p=q then (if kd x=0 then 0 else x) else at_ b p:=by
 unfold at_ put
 rw[if_pos hq]
 by_cases hp:0<=p /\ p<81
 ·rw[if_pos hp]
  by_cases hpq:p=q
  ·subst hpq
   rw[if_pos rfl,List.getD_eq_getElem?_getD,List.getElem?_set_self (by omega),Option.getD_some]
  ·rw[if_neg hpq,if_pos hp,List.getD_eq_getElem?_getD,List.getElem?_set_ne (by omega),<- List.getD_eq_getElem?_getD]
 ·rw[if_neg hp,if_neg (fun h:p=q=>hp (by subst h;exact hq)),if_neg hp]
end Go.Kk.Pl
namespace Go.Kk.Pl
def prS (f:Nat->Bool):List Int:=[sLo f,sHi f]
theorem qLX {f g:Nat->Bool} (h:∀ i,i<81->f i=g i):prS f=prS g:=by
 obtain⟨h1,h2⟩:=qCD h
 unfold prS;rw[h1,h2]
def pcs (b:List Int) (x:Int) (i:Nat):Bool:=decide (x≠0 /\ b.getD i 0=x)
def sds (b:List Int) (s:Int) (i:Nat):Bool:=decide (sd (b.getD i 0)=s)
def qO (b:List Int):List (List Int):=(List.range 32).map fun (x:Nat)=>prS (pcs b x)
def qR (b:List Int):List (List Int):=(List.range 2).map fun (s:Nat)=>prS (sds b s)
theorem map_set {α:Type} (G:Nat->α) (n k:Nat) (v:α):((List.range n).map G).set k v=(List.range n).map fun j=>if j=k then v else G j:=by
 apply List.ext_getElem
 ·simp
 ·intro i h1 h2
  simp only[List.length_set,List.length_map,List.length_range] at h1
  rw[List.getElem_set]
  simp only[List.getElem_map,List.getElem_range]
  by_cases h:k=i
  ·simp[h]
  ·simp[h,Ne.symm h]
theorem qHf {α:Type} (G:Nat->α) {n k:Nat} (h:k<n) (d:α):((List.range n).map G).getD k d=G k:=by
 rw[List.getD_eq_getElem?_getD,List.getElem?_map,List.getElem?_range h];rfl
theorem qNg (b:List Int) {x:Int} (h0:0<=x) (h1:x<32):(qO b).getD x.toNat []=prS (pcs b x):=by
 unfold qO
 rw[qHf _ (by omega),show ((x.toNat:Nat):Int)=x by omega]
theorem qck (b:List Int) {s:Int} (h0:0<=s) (h1:s<2):(qR b).getD s.toNat []=prS (sds b s):=by
 unfold qR
 rw[qHf _ (by omega),show ((s.toNat:Nat):Int)=s by omega]
theorem qHl (f:Nat->Bool):List.headD (List.take 2 (prS f)) 0=sLo f:=rfl
theorem qHm (f:Nat->Bool):List.headD (List.tail (List.take 2 (prS f))) 0=sHi f:=rfl
theorem qLY (f:Nat->Bool) (g:Nat->Bool):sLo f :: sHi f :: List.drop 2 (prS g)=prS f:=rfl
theorem qJc:sd 0 = -1:=by decide
theorem qbu {x:Int} (h:kd x=0):sd x = -1:=by unfold sd;rw[if_pos h]
theorem qF3 {b:List Int} {q:Nat} (hq:q<b.length) (x:Int) (i:Nat):(b.set q x).getD i 0=if i=q then x else b.getD i 0:=by
 rw[List.getD_eq_getElem?_getD]
 by_cases h:i=q
 ·subst h;rw[List.getElem?_set_self hq,if_pos rfl];rfl
 ·rw[List.getElem?_set_ne (Ne.symm h),if_neg h,List.getD_eq_getElem?_getD]
theorem qUT {b b':List Int} {F:Nat->Bool} {x:Int} (h0:0<=x) (h:∀ j:Nat,j<32->∀ i,i<81->(if (j:Int)=x then F i else pcs b j i)=pcs b' j i):List.set (qO b) x.toNat (prS F)=qO b':=by
 unfold qO
 rw[map_set]
 apply List.map_congr_left
 intro j hj
 simp only[List.mem_range] at hj
 have h:=h j hj
 split
 ·rename_i hjx
  exact qLX fun i hi=>by rw[<- h i hi,if_pos (by omega)]
 ·rename_i hjx
  exact qLX fun i hi=>by rw[<- h i hi,if_neg (by omega)]
theorem qcl {b b':List Int} {F:Nat->Bool} {x:Int} (h0:0<=x) (h:∀ j:Nat,j<2->∀ i,i<81->(if (j:Int)=x then F i else sds b j i)=sds b' j i):List.set (qR b) x.toNat (prS F)=qR b':=by
 unfold qR
 rw[map_set]
 apply List.map_congr_left
 intro j hj
 simp only[List.mem_range] at hj
 have h:=h j hj
 split
 ·rename_i hjx
  exact qLX fun i hi=>by rw[<- h i hi,if_pos (by omega)]
 ·rename_i hjx
  exact qLX fun i hi=>by rw[<- h i hi,if_neg (by omega)]
section
variable {b:List Int} {q:Int} (hq0:0<=q) (hql:q.toNat<b.length)
include hq0 hql
theorem qfi (hz:b.getD q.toNat 0=0) {x:Int} (hx:1<=x):List.set (qO b) x.toNat (prS fun i=>pcs b x i||only q i)=qO (b.set q.toNat x):=by
 refine qUT (by omega) fun j hj i hi=>?_
 unfold pcs only
 rw[qF3 hql,Bool.eq_iff_iff]
 by_cases hi:i=q.toNat
 ·subst hi
  rw[hz]
  split<;>simp<;>omega
 ·have:¬ (i:Int)=q:=by omega
  split
  ·rename_i hjx
   simp[this,hjx]
  ·simp
theorem qqI (hz:b.getD q.toNat 0=0) {x:Int} (hx:sd x=0 \/ sd x=1):List.set (qR b) (sd x).toNat (prS fun i=>sds b (sd x) i||only q i)=qR (b.set q.toNat x):=by
 refine qcl (by omega) fun j hj i hi=>?_
 unfold sds only
 rw[qF3 hql,Bool.eq_iff_iff]
 by_cases hi:i=q.toNat
 ·subst hi
  rw[hz,qJc]
  split<;>simp<;>omega
 ·have:¬ (i:Int)=q:=by omega
  split
  ·rename_i hjx
   simp[this,hjx]
  ·simp
theorem qfj {x:Int} (hz:b.getD q.toNat 0=x) (hx:1<=x):List.set (qO b) x.toNat (prS fun i=>pcs b x i && !only q i)=qO (b.set q.toNat 0):=by
 refine qUT (by omega) fun j hj i hi=>?_
 unfold pcs only
 rw[qF3 hql,Bool.eq_iff_iff]
 by_cases hi:i=q.toNat
 ·subst hi
  rw[hz]
  split<;>simp<;>omega
 ·have:¬ (i:Int)=q:=by omega
  split
  ·rename_i hjx
   simp[this,hjx]
  ·simp
theorem qqJ {x:Int} (hz:b.getD q.toNat 0=x) (hx:sd x=0 \/ sd x=1):List.set (qR b) (sd x).toNat (prS fun i=>sds b (sd x) i && !only q i)=qR (b.set q.toNat 0):=by
 refine qcl (by omega) fun j hj i hi=>?_
 unfold sds only
 rw[qF3 hql,Bool.eq_iff_iff]
 by_cases hi:i=q.toNat
 ·subst hi
  rw[hz,if_pos rfl,qJc]
  split<;>simp<;>omega
 ·have:¬ (i:Int)=q:=by omega
  split
  ·rename_i hjx
   simp[this,hjx]
  ·simp
end
theorem qQC {b:List Int} (hc:Clean b) (q x:Int) (h:List Int) (s:Int):
  qG3 q x b h s (qO b) (qR b)=some (put b q x,h,s,qO (put b q x),qR (put b q x)):=by
 unfold qG3 put
 by_cases h0:q<0
 ·rw[qJ (by simpa using h0),if_neg (by omega)]
 rw[qT (by simpa using h0)]
 by_cases h1:81<=q
 ·rw[qJ (by simpa using h1),if_neg (by omega)]
 rw[qT (by simpa using h1),qJ (qAa (by omega) (by omega)),if_pos (by omega)]
 simp only[qDP,qBt,qA]
 have hq81:inB q 81=true:=qAa (by omega) (by omega)
 have hb:=hc.ok q.toNat (by omega)
 have hql:q.toNat<b.length:=by rw[hc.len];omega
 have key:∀ (b:List Int),q.toNat<b.length->b.getD q.toNat 0=0->(br (kd x==0)
   (br (inB q 81) (some (List.set b q.toNat 0,h,s,qO b,qR b)) none)
   (br (inB q 81) (br (x != 0) (br (inB x 32) (ob (qBb (List.headD (List.take 2 (List.getD (qO b) x.toNat [])) 0) (List.headD (List.tail (List.take 2 (List.getD (qO b) x.toNat []))) 0) q) fun z=>
    br (inB x 32) (br (inB (sd x) 2) (ob (qBb (List.headD (List.take 2 (List.getD (qR b) (sd x).toNat [])) 0) (List.headD (List.tail (List.take 2 (List.getD (qR b) (sd x).toNat []))) 0) q) fun y=>
     br (inB (sd x) 2) (some (List.set b q.toNat x,h,s,List.set (qO b) x.toNat (z.1 :: z.2 :: List.drop 2 (List.getD (qO b) x.toNat [])),List.set (qR b) (sd x).toNat (y.1 :: y.2 :: List.drop 2 (List.getD (qR b) (sd x).toNat [])))) none) none) none) none)
    (some (List.set b q.toNat x,h,s,qO b,qR b))) none)) =
   some (b.set q.toNat (if kd x=0 then 0 else x),h,s,qO (b.set q.toNat (if kd x=0 then 0 else x)),qR (b.set q.toNat (if kd x=0 then 0 else x))):=by
  intro b hql hz
  by_cases hk:kd x=0
  ·rw [qJ (by simpa using hk),qJ hq81,if_pos hk]
   have:b.set q.toNat 0=b:=by
    apply List.ext_getElem
    ·rw[List.length_set]
    ·intro i i1 i2
     rw[List.getElem_set]
     split
     ·rename_i hi
      rw[List.getD_eq_getElem?_getD,List.getElem?_eq_getElem hql] at hz
      subst hi
      exact hz.symm
     ·rfl
   rw[this]
  ·have hx:=qI7 hk
   have hsd:=qIA hk
   have hs:inB (sd x) 2=true:=by rcases hsd with h | h<;>rw[h]<;>rfl
   rw[qT (by simpa using hk),qJ hq81,qJ (by simp;omega),qJ (qAa (by omega) (by omega)),if_neg hk,qNg b (by omega) (by omega),
    qHl,qHm,qGl,qA]
   simp only
   rw[qJ (qAa (by omega) (by omega)),qJ hs,qck b (by omega) (by omega),qHl,qHm,qGl,qA]
   simp only
   rw[qJ hs,qLY,qLY,qfi (by omega) hql hz hx.1,qqI (by omega) hql hz hsd]
 by_cases hz:b.getD q.toNat 0=0
 ·rw[qT (by simpa using hz)]
  exact key b hql hz
 ·have hkb:=hb.resolve_left hz
  have hxb:=qI7 hkb
  have hsdb:=qIA hkb
  have hsb:inB (sd (b.getD q.toNat 0)) 2=true:=by rcases qIA hkb with h | h<;>rw[h]<;>rfl
  have hb32:inB (b.getD q.toNat 0) 32=true:=qAa (by omega) (by omega)
  rw[qJ (by simpa using hz),qJ hb32,qNg b (by omega) (by omega),qHl,qHm,qJy,qA]
  simp only
  rw[qJ hb32,qJ hsb,qck b (by omega) (by omega),qHl,qHm,qJy,qA]
  simp only
  rw[qJ hsb,qLY,qLY,qfj (by omega) hql rfl hxb.1,qqJ (by omega) hql rfl hsdb]
  have:=key (b.set q.toNat 0) (by simpa using hql) (by rw[qF3 hql,if_pos rfl])
  rw[List.set_set] at this
  simp only[List.set_set] at this
  exact this
def cl1 (x:Int):Int:=if kd x=0 then 0 else x
def cl (b:List Int):List Int:=b.map cl1
theorem qgJ (b:List Int) (i:Nat):(cl b).getD i 0=cl1 (b.getD i 0):=by
 unfold cl
 rw[List.getD_eq_getElem?_getD,List.getElem?_map,List.getD_eq_getElem?_getD]
 cases b[i]? <;> rfl
theorem qUk (b:List Int):(cl b).length=b.length:=by simp[cl]
theorem qNo {b:List Int} (hc:Clean b):cl b=b:=by
 apply List.ext_getElem
 ·exact qUk b
 ·intro i h1 h2
  have:=hc.ok i (by rw[<- hc.len];exact h2)
  rw[List.getD_eq_getElem?_getD,List.getElem?_eq_getElem h2] at this
  simp only[Option.getD_some] at this
  simp only[cl,List.getElem_map,cl1]
  split
  ·rename_i hk
   rcases this with h | h
   ·exact h.symm
   ·exact absurd hk h
  ·rfl
theorem qkb {b:List Int} (hl:b.length=81) (h:List Int) (s:Int):∀ (n i:Nat),i+n=81->∀ (B:List Int),Clean B->(∀ j,j<i->B.getD j 0=cl1 (b.getD j 0))->
  ∀ f,qEE (f+n+1) b i B h s (qO B) (qR B)=some (cl b,h,s,qO (cl b),qR (cl b)):=by
 intro n
 induction n with
 | zero=>
   intro i hi B hB hj f
   have:B=cl b:=by
    apply List.ext_getElem
    ·rw[hB.len,qUk,hl]
    ·intro j h1 h2
     have:=hj j (by rw[hB.len] at h1;omega)
     rw[<- qgJ,List.getD_eq_getElem?_getD,List.getElem?_eq_getElem h1,List.getD_eq_getElem?_getD,List.getElem?_eq_getElem h2] at this
     exact this
   subst this
   show qG0 (qEE (f+0)) _ _ _ _ _ _ _=_
   unfold qG0
   rw[qT (by simp;omega)]
 | succ n ih=>
   intro i hi B hB hj f
   show qG0 (qEE (f+n+1)) _ _ _ _ _ _ _=_
   unfold qG0
   rw[qJ (by simp;omega),qJ (qAa (by omega) (by omega))]
   simp only[cond_true]
   rw[qQC hB,qA]
   simp only
   rw[qAY (by omega) (by omega)]
   refine ih (i+1) (by omega) _ (hB.put _ _) (fun j hj'=>?_) f
   unfold put
   rw[if_pos (by omega),qF3 (by rw[hB.len];omega)]
   by_cases hji:j=i
   ·subst hji
    rw[if_pos (by simp)]
    rfl
   ·rw[if_neg (by simp;exact hji),hj j (by omega)]
theorem qgK:Clean (List.replicate 81 0):=⟨by simp,fun i hi=>.inl (by rw[List.getD_eq_getElem?_getD,List.getElem?_replicate,if_pos hi];rfl)⟩
theorem qfh:qO (List.replicate 81 0)=List.replicate 32 [0,0]:=by decide +kernel
theorem qqH:qR (List.replicate 81 0)=[[0,0],[0,0]]:=by decide +kernel
theorem qPq {b:List Int} (hl:b.length=81) (h:List Int) (s:Int):qGz b h s=some (cl b,h,s,qO (cl b),qR (cl b)):=by
 have hz:=qkb hl h s 81 0 (by omega) _ qgK (fun j hj=>absurd hj (by omega))
 obtain⟨g,hg⟩:=qi 81 (by omega)
 have:=hz g
 rw[<- hg,qfh,qqH] at this
 unfold qGz
 show ob (qEE qC b 0 (List.replicate 81 0) h s (List.replicate 32 [0,0]) [[0,0],[0,0]]) _=_
 rw[show qEE qC b 0 (List.replicate 81 0) h s (List.replicate 32 [0,0]) [[0,0],[0,0]]=_ from this,qA]
end Go.Kk.Pl
namespace Go.Kk.Pl
section
variable {α:Type} {x y:α}
theorem qf {a b:Int} (h:a<b):br (decide (a<b)) x y=x:=qJ (by simpa using h)
theorem qY {a b:Int} (h:¬ a<b):br (decide (a<b)) x y=y:=qT (by simpa using h)
theorem qJ9 {a b:Int} (h:a<=b):br (decide (a<=b)) x y=x:=qJ (by simpa using h)
theorem qKA {a b:Int} (h:¬ a<=b):br (decide (a<=b)) x y=y:=qT (by simpa using h)
theorem qBe {a b:Int} (h:a>b):br (decide (a>b)) x y=x:=qJ (by simpa using h)
theorem qBf {a b:Int} (h:¬ a>b):br (decide (a>b)) x y=y:=qT (by simpa using h)
theorem qCJ {a b:Int} (h:a >= b):br (decide (a >= b)) x y=x:=qJ (by simpa using h)
theorem qBn {a b:Int} (h:¬ a >= b):br (decide (a >= b)) x y=y:=qT (by simpa using h)
theorem qo {a b:Int} (h:a=b):br (a==b) x y=x:=qJ (by simpa using h)
theorem qn {a b:Int} (h:¬ a=b):br (a==b) x y=y:=qT (by simpa using h)
theorem qr {a b:Int} (h:¬ a=b):br (a != b) x y=x:=qJ (by simpa using h)
theorem qt {a b:Int} (h:a=b):br (a != b) x y=y:=qT (by simpa using h)
theorem qa {a:Int} {n:Nat} (h0:0<=a) (h1:a<n):br (inB a n) x y=x:=qJ (qAa h0 h1)
theorem b_t:br true x y=x:=rfl
theorem b_f:br false x y=y:=rfl
end
theorem w_s {n:Int} (h1:-1000000000<=n) (h2:n<=1000000000):IntKind.wrap .i64 n=n:=qAY h1 h2
theorem w_8 {n:Int} (h1:-128<=n) (h2:n<=127):IntKind.wrap .i8 n=n:=qCG h1 h2
theorem c_8 (n:Int):conv IntKind.i8 IntKind.i64 n=n:=rfl
theorem tn (n:Nat):Int.toNat (n:Int)=n:=rfl
theorem any_cons (p:Nat->Bool) (i n:Nat):(List.range' i (n+1)).any p=(p i||(List.range' (i+1) n).any p):=by rw[List.range'_succ];rfl
theorem qZD:List.range 81=List.range' 0 81:=by rw[List.range_eq_range']
theorem qFm {b:List Int} {i:Nat} (h:i<b.length):b.getD i 0=b[i]:=by rw[List.getD_eq_getElem?_getD,List.getElem?_eq_getElem h];rfl
end Go.Kk.Pl
namespace Go.Kk.Pl
def rw_ (x:Int):Int:=if x<1 \/ 15<x \/ x=13 then 0 else if 8<x then x - 8 else x
theorem qbd (x:Int):qJO x=some (rw_ x):=by
 unfold qJO rw_
 by_cases h1:x<1
 ·rw[qJ (by simpa using h1),if_pos (by omega)]
 rw[qT (by simpa using h1)]
 by_cases h2:15<x
 ·rw[qJ (by simpa using h2),if_pos (by omega)]
 rw[qT (by simpa using h2)]
 by_cases h3:x=13
 ·rw[qJ (by simpa using h3),if_pos (by omega)]
 rw[qT (by simpa using h3),if_neg (by omega)]
 by_cases h4:8<x
 ·rw[qJ (by simpa using h4),if_pos h4,qAY (by omega) (by omega)]
 ·rw[qT (by simpa using h4),if_neg h4]
def cnt (l:List Int) (k:Int):Nat:=l.countP fun x=>rw_ (kd x)==k
theorem qgV (b h:List Int) (s k:Int) (hl:b.length=81):∀ (n i:Nat),i+n=81->∀ acc:Int,0<=acc->acc<=i->∀ f,
  qFS (f+n+1) k acc i b h s=some (k,acc+cnt (b.drop i) k,b,h,s):=by
 intro n
 induction n with
 | zero=>
   intro i hi acc _ _ f
   show qHv (qFS (f+0)) _ _ _ _ _ _=_
   unfold qHv
   rw[qT (by simp;omega),List.drop_eq_nil_of_le (by omega)]
   simp[cnt]
 | succ n ih=>
   intro i hi acc ha0 ha1 f
   show qHv (qFS (f+n+1)) _ _ _ _ _ _=_
   unfold qHv
   have hz:Int.toNat (i:Int)=i:=by simp
   rw[qJ (by simp;omega),qJ (qAa (by omega) (by omega)),hz,qAY (by omega) (by omega),qAY (by omega) (by omega)]
   show ob (qAb (List.getD b i 0)) _=_
   rw[qCB,qA,qbd,qA]
   have hd:b.drop i=b.getD i 0 :: b.drop (i+1):=by
    rw[List.drop_eq_getElem_cons (by omega),List.getD_eq_getElem?_getD,List.getElem?_eq_getElem (by omega)]
    rfl
   rw[hd]
   unfold cnt
   rw[List.countP_cons]
   cases hb:rw_ (kd (b.getD i 0))==k with
   | true=>
     rw[qJ rfl]
     refine (ih (i+1) (by omega) (acc+1) (by omega) (by omega) f).trans ?_
     simp[cnt];omega
   | false=>
     rw[qT rfl]
     refine (ih (i+1) (by omega) acc (by omega) (by omega) f).trans ?_
     simp[cnt]
def hd_ (h:List Int) (s k:Int):Int:=h.getD (s.toNat*8+k.toNat) 0
def qAe (h:List Int):Prop:=∀ i,-128<=h.getD i 0 /\ h.getD i 0<=127
theorem qgP {b:List Int} (hl:b.length=81) (k:Int):cnt b k<=81:=by rw[<- hl];exact List.countP_le_length
theorem qUp {b h:List Int} (hl:b.length=81) (hf:qAe h) (s k:Int) (h0:0<=k) (h1:k<8):qLm b h s k=some (cnt b k+hd_ h 0 k+hd_ h 1 k):=by
 obtain⟨g,hg⟩:=qi 81 (by omega)
 have hc:=qgV b h s k hl 81 0 (by omega) 0 (by omega) (by omega) g
 rw[<- hg] at hc
 have hc:qFS qC k 0 0 b h s=some (k,(0:Int)+(cnt b k:Int),b,h,s):=hc
 unfold qLm
 rw[hc,qA]
 simp only
 rw[qJ (qAa h0 (by omega)),qJ (qAa h0 (by omega))]
 have e1:=hf (0+k.toNat)
 have e2:=hf (8+k.toNat)
 have e3:=qgP hl k
 have c1:conv .i8 .i64 (List.getD h (0+k.toNat) 0)=List.getD h (0+k.toNat) 0:=rfl
 have c2:conv .i8 .i64 (List.getD h (8+k.toNat) 0)=List.getD h (8+k.toNat) 0:=rfl
 rw[c1,c2,qAY (n:=0+(cnt b k:Int)+_) (by omega) (by omega),qAY (by omega) (by omega)]
 unfold hd_
 simp
end Go.Kk.Pl
namespace Go.Kk.Pl
theorem qf9 {b:List Int} (hc:Clean b) (h:List Int) (s:Int):∀ (n i:Nat),i+n=81->∀ f,qCA (f+n+1) i b h s=some (.inr (b,h,s)):=by
 intro n
 induction n with
 | zero=>
   intro i hi f
   show qDy (qCA (f+0)) _ _ _ _=_
   unfold qDy
   rw[qT (by simp;omega)]
 | succ n ih=>
   intro i hi f
   show qDy (qCA (f+n+1)) _ _ _ _=_
   unfold qDy
   have hz:Int.toNat (i:Int)=i:=by simp
   have hin:inB (i:Int) 81=true:=qAa (by omega) (by omega)
   rw[qJ (by simp;omega),qJ hin,hz,qAY (by omega) (by omega)]
   by_cases h0:b.getD i 0=0
   ·rw[qT (by simpa using h0)]
    exact ih (i+1) (by omega) f
   ·rw[qJ (by simpa using h0),qJ hin]
    show ob (qAb (List.getD b i 0)) _=_
    have hk:=(hc.ok i (by omega)).resolve_left h0
    rw[qCB,qA,qT (by simpa using hk)]
    exact ih (i+1) (by omega) f
theorem qfz (b h:List Int) (s k:Int) (k0:0<=k) (k1:k<8):∀ (n i:Nat),i+n=2->
  (∀ f,qBk (f+n+1) k i b h s=some (.inl (55,k,b,h,s))) \/
  ((∀ f,qBk (f+n+1) k i b h s=some (.inr (k,b,h,s))) /\ ∀ j:Nat,i<=j->j<2->0<=hd_ h j k):=by
 intro n
 induction n with
 | zero=>
   intro i hi
   refine .inr ⟨fun f=>?_,fun j _ _=>by omega⟩
   show qDu (qBk (f+0)) _ _ _ _ _=_
   unfold qDu
   rw[qT (by simp;omega)]
 | succ n ih=>
   intro i hi
   have e:∀ f,qBk (f+(n+1)+1) k i b h s=qDu (qBk (f+n+1)) k i b h s:=fun f=>rfl
   have hz:Int.toNat (i:Int)=i:=by simp
   have hd:hd_ h (i:Int) k=List.getD h (i*8+k.toNat) 0:=by unfold hd_;rw[hz]
   simp only[e]
   unfold qDu
   simp only[qJ (show decide ((i:Int)<2)=true by simp;omega),qJ (show inB (i:Int) 2=true from qAa (by omega) (by omega)),qJ (show inB k 8=true from qAa k0 (by omega)),hz,
    qAY (n:=(i:Int)+1) (by omega) (by omega)]
   by_cases hlt:List.getD h (i*8+k.toNat) 0<0
   ·exact .inl fun f=>qJ (by simpa using hlt)
   ·simp only[qT (show decide (List.getD h (i*8+k.toNat) 0<0)=false by simpa using hlt)]
    have next:(∀ f,qBk (f+n+1) k ((i:Int)+1) b h s=some (.inl (55,k,b,h,s))) \/
     ((∀ f,qBk (f+n+1) k ((i:Int)+1) b h s=some (.inr (k,b,h,s))) /\ ∀ j:Nat,i<=j->j<2->0<=hd_ h j k):=by
     rcases ih (i+1) (by omega) with h1 | ⟨h1,h2⟩
     ·exact .inl h1
     ·refine .inr ⟨h1,fun j hj hj2=>?_⟩
      by_cases hji:j=i
      ·subst hji;rw[hd];omega
      ·exact h2 j (by omega) hj2
    cases hk:k==0 with
    | true=>
      simp only[qJ rfl]
      cases hb:List.getD h (i*8+k.toNat) 0 != 0 with
      | true=>exact .inl fun f=>rfl
      | false=>exact next
    | false=>exact next
theorem qgC (b h:List Int) (s:Int):∀ (n i:Nat),i+n=8->
  (∀ f,qBY (f+n+1) i b h s=some (.inl (55,b,h,s))) \/
  ((∀ f,qBY (f+n+1) i b h s=some (.inr (b,h,s))) /\ ∀ k:Nat,i<=k->k<8->∀ j:Nat,j<2->0<=hd_ h j k):=by
 intro n
 induction n with
 | zero=>
   intro i hi
   refine .inr ⟨fun f=>?_,fun j _ _=>by omega⟩
   show qDz (qBY (f+0)) _ _ _ _=_
   unfold qDz
   rw[qT (by simp;omega)]
 | succ n ih=>
   intro i hi
   have e:∀ f,qBY (f+(n+1)+1) i b h s=qDz (qBY (f+n+1)) i b h s:=fun f=>rfl
   simp only[e]
   unfold qDz
   simp only[qJ (show decide ((i:Int)<8)=true by simp;omega)]
   obtain⟨g,hg⟩:=qi 2 (by omega)
   rcases qfz b h s i (by omega) (by omega) 2 0 (by omega) with h1 | ⟨h1,h2⟩
   ·refine .inl fun f=>?_
    have h1:=h1 g
    rw[<- hg] at h1
    have h1:qBk qC i 0 b h s=some (.inl (55,(i:Int),b,h,s)):=h1
    rw[h1];rfl
   ·have h1:=h1 g
    rw[<- hg] at h1
    have h1:qBk qC i 0 b h s=some (.inr ((i:Int),b,h,s)):=h1
    simp only[h1,qA,qAk,qAY (n:=(i:Int)+1) (by omega) (by omega)]
    rcases ih (i+1) (by omega) with h3 | ⟨h3,h4⟩
    ·exact .inl h3
    ·refine .inr ⟨h3,fun k hk hk8 j hj=>?_⟩
     by_cases hki:k=i
     ·subst hki;exact h2 j (by omega) hj
     ·exact h4 k (by omega) hk8 j hj
theorem qrI {k:Nat} (h1:1<=k) (h8:k<8):∃ t,qLg (k:Int)=some t /\ t<=18:=by
 have:k=1 \/ k=2 \/ k=3 \/ k=4 \/ k=5 \/ k=6 \/ k=7:=by omega
 rcases this with rfl | rfl | rfl | rfl | rfl | rfl | rfl<;>exact⟨_,rfl,by decide⟩
theorem qf2 {b h:List Int} (hl:b.length=81) (hf:qAe h) (s:Int):∀ (n i:Nat),i+n=8->1<=i->
  (∀ f,qBV (f+n+1) i b h s=some (.inl (51,b,h,s))) \/
  ((∀ f,qBV (f+n+1) i b h s=some (.inr (b,h,s))) /\ ∀ k:Nat,i<=k->k<8->cnt b k+hd_ h 0 k+hd_ h 1 k<=18):=by
 intro n
 induction n with
 | zero=>
   intro i hi _
   refine .inr ⟨fun f=>?_,fun j _ _=>by omega⟩
   show qDv (qBV (f+0)) _ _ _ _=_
   unfold qDv
   rw[qT (by simp;omega)]
 | succ n ih=>
   intro i hi hi1
   have e:∀ f,qBV (f+(n+1)+1) i b h s=qDv (qBV (f+n+1)) i b h s:=fun f=>rfl
   simp only[e]
   unfold qDv
   obtain⟨t,ht,ht18⟩:=qrI hi1 (by omega)
   simp only[qJ (show decide ((i:Int)<8)=true by simp;omega),qUp hl hf s i (by omega) (by omega),qA,ht,qAY (n:=(i:Int)+1) (by omega) (by omega)]
   by_cases hgt:(cnt b i:Int)+hd_ h 0 i+hd_ h 1 i>t
   ·exact .inl fun f=>qJ (by simpa using hgt)
   ·simp only[qT (show decide ((cnt b i:Int)+hd_ h 0 i+hd_ h 1 i>t)=false by simpa using hgt)]
    rcases ih (i+1) (by omega) (by omega) with h3 | ⟨h3,h4⟩
    ·exact .inl h3
    ·refine .inr ⟨h3,fun k hk hk8=>?_⟩
     by_cases hki:k=i
     ·subst hki;omega
     ·exact h4 k (by omega) hk8
theorem qoo (x:Int):∃ v,qBU x=some v:=by
 unfold qBU
 rw[qCB,qA]
 repeat first | exact⟨_,rfl⟩ | apply qG8
theorem qoj (x q:Int):∃ v,qDt x q=some v:=by
 unfold qDt
 repeat first | exact⟨_,rfl⟩ | apply qG8
theorem qoh (x q:Int):∃ v,qDs x q=some v:=by
 unfold qDs
 refine qGD (qoo _) fun _=>qGD (qoj _ _) fun _=>qGD ⟨_,qCB _⟩ fun _=>?_
 repeat first | exact⟨_,rfl⟩ | apply qG8
theorem qf4 (b h:List Int) (s:Int):∀ (n i:Nat),i+n=81->
  (∀ f,qBW (f+n+1) i b h s=some (.inl (52,b,h,s))) \/ (∀ f,qBW (f+n+1) i b h s=some (.inr (b,h,s))):=by
 intro n
 induction n with
 | zero=>
   intro i hi
   refine .inr fun f=>?_
   show qDw (qBW (f+0)) _ _ _ _=_
   unfold qDw
   rw[qT (by simp;omega)]
 | succ n ih=>
   intro i hi
   have e:∀ f,qBW (f+(n+1)+1) i b h s=qDw (qBW (f+n+1)) i b h s:=fun f=>rfl
   simp only[e]
   unfold qDw
   obtain⟨v,hv⟩:=qoh (conv .i8 .i64 (List.getD b (Int.toNat (i:Int)) 0)) i
   simp only[qJ (show decide ((i:Int)<81)=true by simp;omega),qJ (show inB (i:Int) 81=true from qAa (by omega) (by omega)),hv,qA,qAY (n:=(i:Int)+1) (by omega) (by omega)]
   cases v with
   | true=>exact .inl fun f=>rfl
   | false=>exact ih (i+1) (by omega)
theorem qlS (b h:List Int) (s k q:Int) (q0:0<=q) (q1:q<9):∀ (n i:Nat),i+n=9->∀ acc,∃ v,∀ f,qCj (f+n+1) k q acc i b h s=some v:=by
 intro n
 induction n with
 | zero=>
   intro i hi acc
   refine⟨acc,fun f=>?_⟩
   show qD0 (qCj (f+0)) _ _ _ _ _ _ _=_
   unfold qD0
   rw[qT (by simp;omega)]
 | succ n ih=>
   intro i hi acc
   have e:∀ f,qCj (f+(n+1)+1) k q acc i b h s=qD0 (qCj (f+n+1)) k q acc i b h s:=fun f=>rfl
   simp only[e]
   unfold qD0
   simp only[qJ (show decide ((i:Int)<9)=true by simp;omega),qAY (n:=9*q) (by omega) (by omega),qAY (n:=9*q+(i:Int)) (by omega) (by omega),
    qJ (show inB (9*q+(i:Int)) 81=true from qAa (by omega) (by omega)),qAY (n:=(i:Int)+1) (by omega) (by omega)]
   cases conv IntKind.i8 IntKind.i64 (List.getD b (Int.toNat (9*q+↑i)) 0)==k with
   | true=>exact ih (i+1) (by omega) _
   | false=>exact ih (i+1) (by omega) _
theorem qPx (b h:List Int) (s k q:Int) (q0:0<=q) (q1:q<9):∃ v,qEP b h s k q=some v:=by
 obtain⟨g,hg⟩:=qi 9 (by omega)
 obtain⟨v,hv⟩:=qlS b h s k q q0 q1 9 0 (by omega) 0
 have hv:=hv g
 rw[<- hg] at hv
 have hv:qCj qC k q 0 0 b h s=some v:=hv
 unfold qEP
 rw[hv]
 exact⟨_,rfl⟩
theorem qdr (b h:List Int) (s k:Int):∀ (n i:Nat),i+n=9->∀ acc,∃ v,∀ f,qCl (f+n+1) k acc i b h s=some v:=by
 intro n
 induction n with
 | zero=>
   intro i hi acc
   refine⟨acc,fun f=>?_⟩
   show qD1 (qCl (f+0)) _ _ _ _ _ _=_
   unfold qD1
   rw[qT (by simp;omega)]
 | succ n ih=>
   intro i hi acc
   have e:∀ f,qCl (f+(n+1)+1) k acc i b h s=qD1 (qCl (f+n+1)) k acc i b h s:=fun f=>rfl
   simp only[e]
   unfold qD1
   obtain⟨v,hv⟩:=qPx b h s k i (by omega) (by omega)
   simp only[qJ (show decide ((i:Int)<9)=true by simp;omega),hv,qA,qAY (n:=(i:Int)+1) (by omega) (by omega)]
   exact ih (i+1) (by omega) _
theorem qTA (b h:List Int) (s k:Int):∃ v,qCk b h s k=some v:=by
 obtain⟨g,hg⟩:=qi 9 (by omega)
 obtain⟨v,hv⟩:=qdr b h s k 9 0 (by omega) 0
 have hv:=hv g
 rw[<- hg] at hv
 have hv:qCl qC k 0 0 b h s=some v:=hv
 unfold qCk
 rw[hv]
 exact⟨_,rfl⟩
theorem qf6 (b h:List Int) (s:Int):∀ (n i:Nat),i+n=9->
  (∀ f,qBX (f+n+1) i b h s=some (.inl 53)) \/ (∀ f,qBX (f+n+1) i b h s=some (.inr ())):=by
 intro n
 induction n with
 | zero=>
   intro i hi
   refine .inr fun f=>?_
   show qDx (qBX (f+0)) _ _ _ _=_
   unfold qDx
   rw[qT (by simp;omega)]
 | succ n ih=>
   intro i hi
   have e:∀ f,qBX (f+(n+1)+1) i b h s=qDx (qBX (f+n+1)) i b h s:=fun f=>rfl
   simp only[e]
   unfold qDx
   obtain⟨v,hv⟩:=qPx b h s 1 i (by omega) (by omega)
   obtain⟨v2,hv2⟩:=qPx b h s 17 i (by omega) (by omega)
   simp only[qJ (show decide ((i:Int)<9)=true by simp;omega),hv,hv2,qA,qAY (n:=(i:Int)+1) (by omega) (by omega)]
   cases decide (v>1) with
   | true=>exact .inl fun f=>rfl
   | false=>
     cases decide (v2>1) with
     | true=>exact .inl fun f=>rfl
     | false=>exact ih (i+1) (by omega)
structure Sound (b h:List Int) (s:Int):Prop where
 clean:Clean b
 side:s=0 \/ s=1
 hands:∀ k,0<=k->k<8->0<=hd_ h 0 k /\ 0<=hd_ h 1 k
 counts:∀ k,1<=k->k<8->cnt b k+hd_ h 0 k+hd_ h 1 k<=18
theorem qfy {b h:List Int} (hc:Clean b) (hf:qAe h) (s:Int):∃ v,qGQ b h s=some v /\ (v=0->Sound b h s):=by
 obtain⟨g81,hg81⟩:=qi 81 (by omega)
 obtain⟨g8,hg8⟩:=qi 8 (by omega)
 obtain⟨g7,hg7⟩:=qi 7 (by omega)
 obtain⟨g9,hg9⟩:=qi 9 (by omega)
 have c4:=qf9 hc h s 81 0 (by omega) g81
 rw[<- hg81] at c4
 have c4:qCA qC 0 b h s=some (.inr (b,h,s)):=c4
 obtain⟨a1,ha1⟩:=qTA b h s 8
 obtain⟨a2,ha2⟩:=qTA b h s 24
 by_cases hs:s=0 \/ s=1
 ·have e : ∃ v,(ob (qCA qC 0 b h s) fun t3_2=>
    sw t3_2 (fun (a3_0,_,_,_)=>some (a3_0))
     (fun (a3_0,a3_1,a3_2)=>
     ob (qBY qC 0 a3_0 a3_1 a3_2) fun t6_2=>
     sw t6_2 (fun (a6_0,_,_,_)=>
      some (a6_0))
      (fun (a6_0,a6_1,a6_2)=>
      ob (qCk a6_0 a6_1 a6_2 8) fun a9=>
      br (a9 != 1)
       (some (50))
       (ob (qCk a6_0 a6_1 a6_2 24) fun a10=>
       br (a10 != 1)
        (some (50))
        (ob (qBV qC 1 a6_0 a6_1 a6_2) fun t11_2=>
        sw t11_2 (fun (a11_0,_,_,_)=>
         some (a11_0))
         (fun (a11_0,a11_1,a11_2)=>
         ob (qBW qC 0 a11_0 a11_1 a11_2) fun t14_2=>
         sw t14_2 (fun (a14_0,_,_,_)=>
          some (a14_0))
          (fun (a14_0,a14_1,a14_2)=>
          ob (qBX qC 0 a14_0 a14_1 a14_2) fun t17_2=>
          sw t17_2 (fun a17=>
           some (a17))
           (fun _=>
           some (0)))))))):Option Int)=some v /\ (v=0->Sound b h s):=by
   rw[c4,qA,qAk]
   simp only
   rcases qgC b h s 8 0 (by omega) with c9 | ⟨c9,hands⟩
   ·have c9:=c9 g8
    rw[<- hg8] at c9
    have c9:qBY qC 0 b h s=some (.inl (55,b,h,s)):=c9
    rw[c9]
    exact⟨55,rfl,fun h=>by cases h⟩
   have c9:=c9 g8
   rw[<- hg8] at c9
   have c9:qBY qC 0 b h s=some (.inr (b,h,s)):=c9
   rw[c9,qA,qAk]
   simp only
   rw[ha1,qA,ha2]
   cases a1 != 1 with
   | true=>exact⟨50,rfl,fun h=>by cases h⟩
   | false=>
   rw[qT rfl,qA]
   cases a2 != 1 with
   | true=>exact⟨50,rfl,fun h=>by cases h⟩
   | false=>
   rw[qT rfl]
   rcases qf2 hc.len hf s 7 1 (by omega) (by omega) with c20 | ⟨c20,counts⟩
   ·have c20:=c20 g7
    rw[<- hg7] at c20
    have c20:qBV qC 1 b h s=some (.inl (51,b,h,s)):=c20
    rw[c20]
    exact⟨51,rfl,fun h=>by cases h⟩
   have c20:=c20 g7
   rw[<- hg7] at c20
   have c20:qBV qC 1 b h s=some (.inr (b,h,s)):=c20
   rw[c20,qA,qAk]
   simp only
   rcases qf4 b h s 81 0 (by omega) with c25 | c25
   ·have c25:=c25 g81
    rw[<- hg81] at c25
    have c25:qBW qC 0 b h s=some (.inl (52,b,h,s)):=c25
    rw[c25]
    exact⟨52,rfl,fun h=>by cases h⟩
   have c25:=c25 g81
   rw[<- hg81] at c25
   have c25:qBW qC 0 b h s=some (.inr (b,h,s)):=c25
   rw[c25,qA,qAk]
   simp only
   rcases qf6 b h s 9 0 (by omega) with c30 | c30
   ·have c30:=c30 g9
    rw[<- hg9] at c30
    have c30:qBX qC 0 b h s=some (.inl 53):=c30
    rw[c30]
    exact⟨53,rfl,fun h=>by cases h⟩
   have c30:=c30 g9
   rw[<- hg9] at c30
   have c30:qBX qC 0 b h s=some (.inr ()):=c30
   rw[c30]
   refine⟨0,rfl,fun _=>⟨hc,hs,fun k k0 k8=>?_,fun k k0 k8=>?_⟩⟩
   ·have e:k=(k.toNat:Int):=by omega
    rw[e]
    exact⟨hands k.toNat (by omega) (by omega) 0 (by omega),hands k.toNat (by omega) (by omega) 1 (by omega)⟩
   ·have e:k=(k.toNat:Int):=by omega
    rw[e]
    exact counts k.toNat (by omega) (by omega)
  unfold qGQ
  rcases hs with rfl | rfl
  ·rw[qT (by rfl)];exact e
  ·rw[qJ (by rfl),qT (by rfl)];exact e
 ·refine⟨1,?_,fun h=>by cases h⟩
  unfold qGQ
  rw[qJ (by simp;omega),qJ (by simp;omega)]
end Go.Kk.Pl
namespace Go.Kk.Pl
def qCs (s:Int) (q:Nat):Int:=if s=0 then ((q % 9:Nat):Int) else if s=1 then 8 - ((q % 9:Nat):Int) else -1
def qBA (x:Int) (q:Nat):Bool:=decide (((kd x=1 \/ kd x=2) /\ qCs (sd x) q=0) \/ (kd x=3 /\ (qCs (sd x) q=0 \/ qCs (sd x) q=1)))
def bsP (b:List Int) (i:Nat):Bool:=decide (b.getD i 0≠0 /\ kd (b.getD i 0)=0)
def bsH (h:List Int) (k s:Nat):Bool:=decide (h.getD (s*8+k) 0<0 \/ (k=0 /\ h.getD (s*8+k) 0≠0))
def nP (b:List Int) (x:Int):Nat:=(List.range 81).countP fun i=>b.getD i 0==x
def nF (b:List Int) (x:Int) (f:Nat):Nat:=(List.range 9).countP fun r=>b.getD (9*f+r) 0==x
def qJt (k:Int):Int:=if k=1 then 18 else if k=2 \/ k=3 \/ k=4 \/ k=5 then 4 else if k=6 \/ k=7 \/ k=8 then 2 else 0
def qB5 (b h:List Int) (k:Nat):Bool:=decide (qJt k<cnt b k+hd_ h 0 k+hd_ h 1 k)
def qBQ (b:List Int) (f:Nat):Bool:=decide (1<nF b 1 f)||decide (1<nF b 17 f)
def qA1 (b h:List Int) (s:Int):Int:=
 if ¬ (s=0 \/ s=1) then 1
 else if (List.range' 0 81).any (bsP b) then 55
 else if (List.range' 0 8).any (fun k=>(List.range' 0 2).any (bsH h k)) then 55
 else if ¬ (nP b 8=1 /\ nP b 24=1) then 50
 else if (List.range' 1 7).any (qB5 b h) then 51
 else if (List.range' 0 81).any (fun i=>qBA (b.getD i 0) i) then 52
 else if (List.range' 0 9).any (qBQ b) then 53
 else 0
theorem qES (x:Int):qBU x=some (sd x):=by
 unfold qBU
 rw[qCB,qA]
 unfold sd
 by_cases h:kd x=0
 ·rw[qo h,if_pos h]
 ·obtain⟨h1,h2⟩:=qI7 h
  rw[qn h,if_neg h]
  by_cases h3:x<16
  ·rw[if_pos h3,Int.tdiv_eq_ediv_of_nonneg (by omega)]
   congr 1
   rw[w_s (by omega) (by omega)]
   omega
  ·rw[if_neg h3,Int.tdiv_eq_ediv_of_nonneg (by omega)]
   congr 1
   rw[w_s (by omega) (by omega)]
   omega
theorem qJr (q:Nat):Int.tmod (q:Int) 9=((q % 9:Nat):Int):=by
 rw[Int.tmod_eq_emod_of_nonneg (by omega)];omega
theorem qbc {s:Int} (hs:s = -1 \/ s=0 \/ s=1) {q:Nat} (hq:q<81):qDt s q=some (qCs s q):=by
 unfold qDt qCs
 rcases hs with rfl | rfl | rfl
 ·simp (disch:=omega) only[qY,qf]
  simp
 ·simp (disch:=omega) only[qY,qo,qJr]
  simp
 ·simp (disch:=omega) only[qY,qn,qJr,w_s]
  simp
theorem qGY (x:Int):sd x = -1 \/ sd x=0 \/ sd x=1:=by
 unfold sd
 split
 ·exact .inl rfl
 ·split
  ·exact .inr (.inl rfl)
  ·exact .inr (.inr rfl)
theorem qoi (x:Int) {q:Nat} (hq:q<81):qDs x q=some (qBA x q):=by
 unfold qDs
 rw[qES,qA,qbc (qGY x) hq,qA,qCB,qA]
 unfold qBA
 generalize kd x=k
 generalize qCs (sd x) q=n
 simp only[qIk,beq_iff_eq]
 repeat' split
 all_goals first
  | (rw[Option.some.injEq,Bool.eq_iff_iff];simp;omega)
  | (simp;omega)
theorem qgA (b h:List Int) (s:Int):∀ (n i:Nat),i+n=81->∀ f,qCA (f+n+1) i b h s=some (if (List.range' i n).any (bsP b) then .inl (55,b,h,s) else .inr (b,h,s)):=by
 intro n
 induction n with
 | zero=>
   intro i hi f
   show qDy (qCA (f+0)) _ _ _ _=_
   unfold qDy
   rw[qY (by omega)]
   rfl
 | succ n ih=>
   intro i hi f
   show qDy (qCA (f+n+1)) _ _ _ _=_
   unfold qDy
   simp (disch:=omega) only[qf,qa,c_8,tn,qCB,qA,w_s,any_cons]
   have:=ih (i+1) (by omega) f
   by_cases h0:b.getD i 0=0
   ·rw[qt h0,show bsP b i=false by unfold bsP;simp only[h0];rfl,Bool.false_or]
    exact this
   ·rw[qr h0]
    by_cases hk:kd (b.getD i 0)=0
    ·rw[qo hk,show bsP b i=true by unfold bsP;simp only[hk,decide_eq_true_eq];exact⟨h0,trivial⟩]
     rfl
    ·rw[qn hk,show bsP b i=false by unfold bsP;rw[decide_eq_false_iff_not];omega,Bool.false_or]
     exact this
theorem qf0 (b h:List Int) (s:Int) (k:Nat) (hk:k<8):∀ (n i:Nat),i+n=2->∀ f,qBk (f+n+1) k i b h s=some (if (List.range' i n).any (bsH h k) then .inl (55,k,b,h,s) else .inr (k,b,h,s)):=by
 intro n
 induction n with
 | zero=>
   intro i hi f
   show qDu (qBk (f+0)) _ _ _ _ _=_
   unfold qDu
   rw[qY (by omega)]
   rfl
 | succ n ih=>
   intro i hi f
   show qDu (qBk (f+n+1)) _ _ _ _ _=_
   unfold qDu
   simp (disch:=omega) only[qf,qa,tn,w_s,any_cons]
   have:=ih (i+1) (by omega) f
   by_cases h0:h.getD (i*8+k) 0<0
   ·rw[qJ (by simpa using h0),show bsH h k i=true by unfold bsH;simp only[h0,true_or,decide_true]]
    rfl
   ·rw[qT (by simpa using h0)]
    by_cases hk0:k=0
    ·rw[qo (by omega)]
     by_cases h1:h.getD (i*8+k) 0=0
     ·rw[qt h1,show bsH h k i=false by unfold bsH;rw[h1];simp,Bool.false_or]
      exact this
     ·rw[qr h1,show bsH h k i=true by unfold bsH;simp only[decide_eq_true_eq];exact .inr ⟨hk0,h1⟩]
      rfl
    ·rw[qn (by omega),show bsH h k i=false by unfold bsH;rw[decide_eq_false_iff_not];omega,Bool.false_or]
     exact this
theorem qgD (b h:List Int) (s:Int):∀ (n i:Nat),i+n=8->∀ f,qBY (f+n+1) i b h s=some (if (List.range' i n).any (fun k=>(List.range' 0 2).any (bsH h k)) then .inl (55,b,h,s) else .inr (b,h,s)):=by
 intro n
 induction n with
 | zero=>
   intro i hi f
   show qDz (qBY (f+0)) _ _ _ _=_
   unfold qDz
   rw[qY (by omega)]
   rfl
 | succ n ih=>
   intro i hi f
   show qDz (qBY (f+n+1)) _ _ _ _=_
   unfold qDz
   obtain⟨g,hg⟩:=qi 2 (by omega)
   have h12:=qf0 b h s i (by omega) 2 0 (by omega) g
   rw[<- hg] at h12
   have h12:qBk qC i 0 b h s=_:=h12
   rw[qf (by omega),h12,qA,any_cons (fun k=>(List.range' 0 2).any (bsH h k)) i n]
   have:=ih (i+1) (by omega) f
   cases hb:(List.range' 0 2).any (bsH h i) with
   | true=>rfl
   | false=>
     rw[Bool.false_or,if_neg (by decide),qAk]
     simp only
     rw[w_s (by omega) (by omega)]
     exact this
theorem qoq:∀ k:Fin 9,qLg ((k.val:Nat):Int)=some (qJt ((k.val:Nat):Int)):=by decide +kernel
theorem qf3 {b h:List Int} (hl:b.length=81) (hf:qAe h) (s:Int):∀ (n i:Nat),i+n=8->1<=i->∀ f,qBV (f+n+1) i b h s=some (if (List.range' i n).any (qB5 b h) then .inl (51,b,h,s) else .inr (b,h,s)):=by
 intro n
 induction n with
 | zero=>
   intro i hi _ f
   show qDv (qBV (f+0)) _ _ _ _=_
   unfold qDv
   rw[qY (by omega)]
   rfl
 | succ n ih=>
   intro i hi h1 f
   show qDv (qBV (f+n+1)) _ _ _ _=_
   unfold qDv
   have ht:=qoq ⟨i,by omega⟩
   simp only at ht
   rw[qf (by omega),qUp hl hf s i (by omega) (by omega),qA,ht,qA,any_cons,w_s (by omega) (by omega)]
   have:=ih (i+1) (by omega) (by omega) f
   by_cases ho:qJt i<cnt b i+hd_ h 0 i+hd_ h 1 i
   ·rw[qBe ho,show qB5 b h i=true by unfold qB5;simpa using ho]
    rfl
   ·rw[qBf ho,show qB5 b h i=false by unfold qB5;simpa using ho,Bool.false_or]
    exact this
theorem qf5 (b h:List Int) (s:Int):∀ (n i:Nat),i+n=81->∀ f,qBW (f+n+1) i b h s=some (if (List.range' i n).any (fun i=>qBA (b.getD i 0) i) then .inl (52,b,h,s) else .inr (b,h,s)):=by
 intro n
 induction n with
 | zero=>
   intro i hi f
   show qDw (qBW (f+0)) _ _ _ _=_
   unfold qDw
   rw[qY (by omega)]
   rfl
 | succ n ih=>
   intro i hi f
   show qDw (qBW (f+n+1)) _ _ _ _=_
   unfold qDw
   have:=ih (i+1) (by omega) f
   rw[qf (by omega),qa (by omega) (by omega),tn,c_8,qoi _ (by omega),qA,any_cons,w_s (by omega) (by omega)]
   cases hb:qBA (b.getD i 0) i with
   | true=>rfl
   | false=>
     rw[b_f,Bool.false_or]
     exact this
theorem qgU (p:Nat->Bool) (i n:Nat):(List.range' i (n+1)).countP p=(if p i then 1 else 0)+(List.range' (i+1) n).countP p:=by
 rw[List.range'_succ,List.countP_cons];omega
theorem qlP (b h:List Int) (s x:Int) (q:Nat) (hq:q<9):∀ (n i:Nat),i+n=9->∀ acc:Nat,acc<=i->∀ f,
  qCj (f+n+1) x q acc i b h s=some (((acc+(List.range' i n).countP fun r=>b.getD (9*q+r) 0==x:Nat):Int)):=by
 intro n
 induction n with
 | zero=>
   intro i hi acc _ f
   show qD0 (qCj (f+0)) _ _ _ _ _ _ _=_
   unfold qD0
   rw[qY (by omega)]
   rfl
 | succ n ih=>
   intro i hi acc ha f
   show qD0 (qCj (f+n+1)) _ _ _ _ _ _ _=_
   unfold qD0
   simp (disch:=omega) only[qf,qa,w_s,c_8]
   have h1:=ih (i+1) (by omega) acc (by omega) f
   have h2:=ih (i+1) (by omega) (acc+1) (by omega) f
   have ht:(9*(q:Int)+(i:Int)).toNat=9*q+i:=by omega
   rw[ht,qgU]
   cases hb:b.getD (9*q+i) 0==x with
   | true=>
     rw[b_t,if_pos rfl]
     refine h2.trans ?_
     congr 2;omega
   | false=>
     rw[b_f,if_neg (by simp)]
     refine h1.trans ?_
     congr 2;omega
theorem qLP (b h:List Int) (s x:Int) (q:Nat) (hq:q<9):qEP b h s x q=some ((nF b x q:Nat):Int):=by
 obtain⟨g,hg⟩:=qi 9 (by omega)
 have:=qlP b h s x q hq 9 0 (by omega) 0 (by omega) g
 rw[<- hg] at this
 unfold qEP
 rw[show qCj qC x q 0 0 b h s=_ from this,qA,Nat.zero_add]
 unfold nF
 rw[List.range_eq_range']
theorem qkU (b:List Int) (x:Int) (q:Nat):nF b x q<=9:=Nat.le_trans List.countP_le_length (by simp)
theorem qdp (b h:List Int) (s x:Int):∀ (n i:Nat),i+n=9->∀ acc:Nat,acc<=9*i->∀ f,
  qCl (f+n+1) x acc i b h s=some (((acc+((List.range' i n).map (nF b x)).sum:Nat):Int)):=by
 intro n
 induction n with
 | zero=>
   intro i hi acc _ f
   show qD1 (qCl (f+0)) _ _ _ _ _ _=_
   unfold qD1
   rw[qY (by omega)]
   rfl
 | succ n ih=>
   intro i hi acc ha f
   show qD1 (qCl (f+n+1)) _ _ _ _ _ _=_
   unfold qD1
   have hle:=qkU b x i
   rw[qf (by omega),qLP b h s x i (by omega),qA,w_s (by omega) (by omega),w_s (by omega) (by omega)]
   have h2:=ih (i+1) (by omega) (acc+nF b x i) (by omega) f
   rw[List.range'_succ,List.map_cons,List.sum_cons]
   rw[Int.natCast_add] at h2
   refine Eq.trans h2 ?_
   congr 2;omega
theorem qmW:List.range 81=(List.range' 0 9).flatMap fun f=>(List.range 9).map (9*f+·):=by decide +kernel
theorem qkX (b:List Int) (x:Int):nP b x=((List.range' 0 9).map (nF b x)).sum:=by
 unfold nP
 rw[qmW,List.countP_flatMap]
 congr 1
theorem qTB (b h:List Int) (s x:Int):qCk b h s x=some ((nP b x:Nat):Int):=by
 obtain⟨g,hg⟩:=qi 9 (by omega)
 have:=qdp b h s x 9 0 (by omega) 0 (by omega) g
 rw[<- hg,Nat.zero_add,<- qkX] at this
 unfold qCk
 rw[show qCl qC x 0 0 b h s=_ from this,qA]
theorem qf7 (b h:List Int) (s:Int):∀ (n i:Nat),i+n=9->∀ f,qBX (f+n+1) i b h s=some (if (List.range' i n).any (qBQ b) then .inl 53 else .inr ()):=by
 intro n
 induction n with
 | zero=>
   intro i hi f
   show qDx (qBX (f+0)) _ _ _ _=_
   unfold qDx
   rw[qY (by omega)]
   rfl
 | succ n ih=>
   intro i hi f
   show qDx (qBX (f+n+1)) _ _ _ _=_
   unfold qDx
   have:=ih (i+1) (by omega) f
   rw[qf (by omega),qLP b h s 1 i (by omega),qA,qLP b h s 17 i (by omega),qA,any_cons,w_s (by omega) (by omega)]
   by_cases h1:1<nF b 1 i
   ·rw[qBe (by omega),show qBQ b i=true by unfold qBQ;simp[h1]]
    rfl
   ·rw[qBf (by omega)]
    by_cases h2:1<nF b 17 i
    ·rw[qBe (by omega),show qBQ b i=true by unfold qBQ;simp[h2]]
     rfl
    ·rw[qBf (by omega),show qBQ b i=false by unfold qBQ;simp[h1,h2],Bool.false_or]
     exact this
theorem qba {b h:List Int} (hl:b.length=81) (hf:qAe h) (s:Int):qGQ b h s=some (qA1 b h s):=by
 obtain⟨g81,hg81⟩:=qi 81 (by omega)
 obtain⟨g8,hg8⟩:=qi 8 (by omega)
 obtain⟨g7,hg7⟩:=qi 7 (by omega)
 obtain⟨g9,hg9⟩:=qi 9 (by omega)
 have c4:=qgA b h s 81 0 (by omega) g81
 rw[<- hg81] at c4
 have c9:=qgD b h s 8 0 (by omega) g8
 rw[<- hg8] at c9
 have c20:=qf3 hl hf s 7 1 (by omega) (by omega) g7
 rw[<- hg7] at c20
 have c25:=qf5 b h s 81 0 (by omega) g81
 rw[<- hg81] at c25
 have c30:=qf7 b h s 9 0 (by omega) g9
 rw[<- hg9] at c30
 have main : (ob (qCA qC 0 b h s) fun t3_2=>
    sw t3_2 (fun (a3_0,_,_,_)=>some (a3_0))
     (fun (a3_0,a3_1,a3_2)=>
     ob (qBY qC 0 a3_0 a3_1 a3_2) fun t6_2=>
     sw t6_2 (fun (a6_0,_,_,_)=>
      some (a6_0))
      (fun (a6_0,a6_1,a6_2)=>
      ob (qCk a6_0 a6_1 a6_2 8) fun a9=>
      br (a9 != 1)
       (some (50))
       (ob (qCk a6_0 a6_1 a6_2 24) fun a10=>
       br (a10 != 1)
        (some (50))
        (ob (qBV qC 1 a6_0 a6_1 a6_2) fun t11_2=>
        sw t11_2 (fun (a11_0,_,_,_)=>
         some (a11_0))
         (fun (a11_0,a11_1,a11_2)=>
         ob (qBW qC 0 a11_0 a11_1 a11_2) fun t14_2=>
         sw t14_2 (fun (a14_0,_,_,_)=>
          some (a14_0))
          (fun (a14_0,a14_1,a14_2)=>
          ob (qBX qC 0 a14_0 a14_1 a14_2) fun t17_2=>
          sw t17_2 (fun a17=>
           some (a17))
           (fun _=>
           some (0)))))))):Option Int) =
   some (if (List.range' 0 81).any (bsP b) then 55
    else if (List.range' 0 8).any (fun k=>(List.range' 0 2).any (bsH h k)) then 55
    else if ¬ (nP b 8=1 /\ nP b 24=1) then 50
    else if (List.range' 1 7).any (qB5 b h) then 51
    else if (List.range' 0 81).any (fun i=>qBA (b.getD i 0) i) then 52
    else if (List.range' 0 9).any (qBQ b) then 53
    else 0):=by
  rw[show qCA qC 0 b h s=_ from c4,qA]
  split
  ·rfl
  rw[qAk]
  simp only
  rw[show qBY qC 0 b h s=_ from c9,qA]
  split
  ·rfl
  rw[qAk]
  simp only
  rw[qTB,qA,qTB,qA]
  by_cases h8:nP b 8=1
  ·rw[qt (by omega)]
   by_cases h24:nP b 24=1
   ·rw[qt (by omega),if_neg (by simp[h8,h24]),show qBV qC 1 b h s=_ from c20,qA]
    split
    ·rfl
    rw[qAk]
    simp only
    rw[show qBW qC 0 b h s=_ from c25,qA]
    split
    ·rfl
    rw[qAk]
    simp only
    rw[show qBX qC 0 b h s=_ from c30,qA]
    split
    ·rfl
    ·rfl
   ·rw[qr (by omega),if_pos (by simp[h24])]
  ·rw[qr (by omega),if_pos (by simp[h8])]
 unfold qGQ qA1
 by_cases h0:s=0
 ·rw[qt h0,if_neg (by simp[h0])]
  exact main
 ·rw[qr h0]
  by_cases h1:s=1
  ·rw[qt h1,if_neg (by simp[h1])]
   exact main
  ·rw[qr h1,if_pos (by simp[h0,h1])]
end Go.Kk.Pl
namespace Go.Kk.Pl
def up_ (k:Int):Int:=if k=1 \/ k=2 \/ k=3 \/ k=4 \/ k=6 \/ k=7 then k+8 else 0
theorem qJv (k:Int):qDp k=some (up_ k):=by
 unfold qDp up_
 by_cases h1:k=1
 ·subst h1;rfl
 rw[qT (by simpa using h1)]
 by_cases h2:k=2
 ·subst h2;rfl
 rw[qT (by simpa using h2)]
 by_cases h3:k=3
 ·subst h3;rfl
 rw[qT (by simpa using h3)]
 by_cases h4:k=4
 ·subst h4;rfl
 rw[qT (by simpa using h4)]
 by_cases h6:k=6
 ·subst h6;rfl
 rw[qT (by simpa using h6)]
 by_cases h7:k=7
 ·subst h7;rfl
 rw[qT (by simpa using h7),if_neg (by omega)]
theorem qkk:∀ n:Fin 16,qBS 0 ((n.val:Nat):Int)=some (if n.val=0 \/ n.val=13 then 0 else (n.val:Int)):=by decide +kernel
theorem qkl:∀ n:Fin 16,qBS 1 ((n.val:Nat):Int)=some (if n.val=0 \/ n.val=13 then 0 else 16+(n.val:Int)):=by decide +kernel
theorem qmZ:∀ n:Fin 16,qEL ((n.val:Nat):Int)=some (rw_ ((n.val:Nat):Int)):=by decide +kernel
theorem qVR {x:Int} (h0:0<=x) (h1:x<=15):∃ n:Fin 16,x=((n.val:Nat):Int):=⟨⟨x.toNat,by omega⟩,by simp;omega⟩
theorem qLL {s k:Int} (hs:s=0 \/ s=1) (h1:1<=k) (h2:k<=15) (h3:k≠13):qBS s k=some (16*s+k):=by
 obtain⟨n,rfl⟩:=qVR (by omega) h2
 rcases hs with rfl | rfl
 ·rw[qkk,if_neg (by omega)];simp
 ·rw[qkl,if_neg (by omega)];simp
theorem qCP (x:Int):0<=kd x /\ kd x<=15 /\ kd x≠13:=by
 unfold kd
 split<;>omega
theorem qZF {k:Int} (h0:0<=k) (h1:k<=15):qEL k=some (rw_ k):=by
 obtain⟨n,rfl⟩:=qVR h0 h1
 exact qmZ n
theorem qHS {s k:Int} (hs:s=0 \/ s=1) (h1:1<=k) (h2:k<=15) (h3:k≠13):kd (16*s+k)=k:=by
 unfold kd
 rw[if_neg (by omega)]
 omega
theorem qJZ {x:Int} (h:kd x≠0) (h8:kd x≠8):1<=rw_ (kd x) /\ rw_ (kd x)<8:=by
 have:=qCP x
 unfold rw_
 rw[if_neg (by omega)]
 split<;>omega
def kp (q x:Int):Int:=(qCe q x).getD 0
def kh (s k n:Int):Int:=(qDD s k n).getD 0
def qI8:Int:=qDE.getD 0
theorem qjM (q x:Int):qCe q x=some (kp q x):=by
 obtain⟨v,hv⟩:=qW2 q x
 unfold kp;rw[hv];rfl
theorem qjD (s k n:Int):qDD s k n=some (kh s k n):=by
 obtain⟨v,hv⟩:=qW1 s k n
 unfold kh;rw[hv];rfl
theorem qjO:qDE=some qI8:=by
 obtain⟨v,hv⟩:=qW3
 unfold qI8;rw[hv];rfl
theorem qKq {s k:Int} (hs:s=0 \/ s=1) (h1:1<=k) (h2:k<8) (b h:List Int) (S:Int) (by_ sides:List (List Int)):qC8 s k b h S by_ sides=some (hd_ h s k):=by
 unfold qC8
 have e:(br (decide (k<1)) (some (0:Int)) (br (decide (k >= 8)) (some 0) (br (inB s 2) (br (inB k 8) (some (conv .i8 .i64 (List.getD h (s.toNat*8+k.toNat) 0))) none) none)))=some (hd_ h s k):=by
  rw[qT (by simp;omega),qT (by simp;omega),qJ (qAa (by omega) (by omega)),qJ (qAa (by omega) (by omega))]
  rfl
 rcases hs with rfl | rfl
 ·rw[qT (by rfl)];exact e
 ·rw[qJ (by rfl),qT (by rfl)];exact e
theorem qkK (f t d:Int) (p:Bool):∃ v,qHh f t d p=some v /\ (v=0->0<=t /\ t<81 /\ (d≠0->0<d /\ d<8 /\ f=0 /\ p=false) /\ (d=0->0<=f /\ f<81 /\ f≠t)):=by
 unfold qHh
 by_cases h1:t<0
 ·rw[qJ (by simpa using h1)];exact⟨1,rfl,fun h=>by cases h⟩
 rw[qT (by simpa using h1)]
 by_cases h2:81<=t
 ·rw[qJ (by simpa using h2)];exact⟨1,rfl,fun h=>by cases h⟩
 rw[qT (by simpa using h2)]
 by_cases h3:d=0
 ·rw[qT (by simpa using h3)]
  by_cases h4:f<0
  ·rw[qJ (by simpa using h4)];exact⟨1,rfl,fun h=>by cases h⟩
  rw[qT (by simpa using h4)]
  by_cases h5:81<=f
  ·rw[qJ (by simpa using h5)];exact⟨1,rfl,fun h=>by cases h⟩
  rw[qT (by simpa using h5)]
  by_cases h6:f=t
  ·rw[qJ (by simpa using h6)];exact⟨70,rfl,fun h=>by cases h⟩
  ·rw[qT (by simpa using h6)]
   exact⟨0,rfl,fun _=>⟨by omega,by omega,fun h=>absurd h3 h,fun _=>⟨by omega,by omega,h6⟩⟩⟩
 ·rw[qJ (by simpa using h3)]
  by_cases h4:d<0
  ·rw[qJ (by simpa using h4)];exact⟨70,rfl,fun h=>by cases h⟩
  rw[qT (by simpa using h4)]
  by_cases h5:8<=d
  ·rw[qJ (by simpa using h5)];exact⟨70,rfl,fun h=>by cases h⟩
  rw[qT (by simpa using h5)]
  by_cases h6:f=0
  ·rw[qT (by simpa using h6)]
   cases p with
   | true=>exact⟨70,rfl,fun h=>by cases h⟩
   | false=>exact⟨0,rfl,fun _=>⟨by omega,by omega,fun _=>⟨by omega,by omega,h6,rfl⟩,fun h=>absurd h h3⟩⟩
  ·rw[qJ (by simpa using h6)];exact⟨70,rfl,fun h=>by cases h⟩
structure CanP (b h:List Int) (s f t d:Int) (p:Bool):Prop where
 to_:0<=t /\ t<81
 drop:d≠0->0<d /\ d<8 /\ f=0 /\ p=false /\ hd_ h s d>0 /\ at_ b t=0
 move:d=0->0<=f /\ f<81 /\ f≠t /\ sd (at_ b f)=s /\ sd (at_ b t)≠s /\ kd (at_ b t)≠8 /\ (p=true->up_ (kd (at_ b f))≠0)
theorem qfr (b h:List Int) {s:Int} (hs:s=0 \/ s=1) (f t d:Int) (p:Bool):∃ c,(∀ K n by_ sides m st,qEx f t d p K n b h s by_ sides m st=some c) /\ (c=true->CanP b h s f t d p):=by
 obtain⟨v,hv,hv0⟩:=qkK f t d p
 by_cases hz:v=0
 ·subst hz
  obtain⟨t0,t1,hd,hm⟩:=hv0 rfl
  have key:∃ c:Bool,(∀ by_ sides,(br (d != 0)
    (ob (qC8 s d b h s by_ sides) fun a14=>
    br (decide (a14>0))
     (ob (qAv t b h s by_ sides) fun a15=>
     some (a15==0))
     (some (false)))
    (ob (qAv f b h s by_ sides) fun a14=>
    ob (qAv t b h s by_ sides) fun a15=>
    ob (qAz a14) fun a16=>
    br (a16==s)
     (ob (qAz a15) fun a17=>
     br (a17 != s)
      (ob (qAO a15) fun a18=>
      br (a18 != 8)
       (br (!p)
        (some (true))
        (ob (qAO a14) fun a19=>
        ob (qDp a19) fun a20=>
        some (a20 != 0)))
       (some (false)))
      (some (false)))
     (some (false))))=some c) /\ (c=true->CanP b h s f t d p):=by
   by_cases hd0:d=0
   ·subst hd0
    obtain⟨f0,f1,f2⟩:=hm rfl
    simp only[qT (show ((0:Int) != 0)=false from rfl),qC4,qA,qDP,qBt,qJv]
    by_cases g1:sd (at_ b f)=s
    ·rw[qJ (by simpa using g1)]
     by_cases g2:sd (at_ b t)=s
     ·rw[qT (by simpa using g2)];exact⟨false,fun _ _=>rfl,fun h=>by cases h⟩
     rw[qJ (by simpa using g2)]
     by_cases g3:kd (at_ b t)=8
     ·rw[qT (by simpa using g3)];exact⟨false,fun _ _=>rfl,fun h=>by cases h⟩
     rw[qJ (by simpa using g3)]
     cases p with
     | false=>exact⟨true,fun _ _=>rfl,fun _=>⟨⟨t0,t1⟩,fun h=>absurd rfl h,fun _=>⟨f0,f1,f2,g1,g2,g3,fun h=>by cases h⟩⟩⟩
     | true=>exact⟨up_ (kd (at_ b f)) != 0,fun _ _=>rfl,fun hu=>⟨⟨t0,t1⟩,fun h=>absurd rfl h,fun _=>⟨f0,f1,f2,g1,g2,g3,fun _=>by simpa using hu⟩⟩⟩
    ·rw[qT (by simpa using g1)];exact⟨false,fun _ _=>rfl,fun h=>by cases h⟩
   ·obtain⟨d0,d1,d2,d3⟩:=hd hd0
    simp only[qJ (show (d != 0)=true by simpa using hd0),qKq hs (show 1<=d by omega) d1,qC4,qA]
    by_cases g1:hd_ h s d>0
    ·rw[qJ (by simpa using g1)]
     exact⟨at_ b t==0,fun _ _=>rfl,fun g=>⟨⟨t0,t1⟩,fun _=>⟨d0,d1,d2,d3,g1,by simpa using g⟩,fun h=>absurd h hd0⟩⟩
    ·rw[qT (by simpa using g1)];exact⟨false,fun _ _=>rfl,fun h=>by cases h⟩
  obtain⟨c,k1,k2⟩:=key
  refine⟨c,fun K n by_ sides m st=>?_,k2⟩
  unfold qEx
  rw[hv,qA,qT (by rfl)]
  rcases hs with rfl | rfl
  ·rw[qT (by rfl)];exact k1 by_ sides
  ·rw[qJ (by rfl),qT (by rfl)];exact k1 by_ sides
 ·refine⟨false,fun K n by_ sides m st=>?_,fun h=>by cases h⟩
  unfold qEx
  rw[hv,qA,qJ (by simpa using hz)]
def qCg (K:Int) (b:List Int) (q x:Int):Int:=qD .xor .u64 K (qD .xor .u64 (kp q (at_ b q)) (kp q x))
def qHT (K:Int) (h:List Int) (s k d:Int):Int:=qD .xor .u64 K (qD .xor .u64 (kh s k (hd_ h s k)) (kh s k (IntKind.wrap .i64 (hd_ h s k+d))))
def qK0 (K:Int):Int:=qD .xor .u64 K qI8
def qAT (h:List Int) (s k d:Int):List Int:=h.set (s.toNat*8+k.toNat) (IntKind.wrap .i8 (hd_ h s k+d))
theorem qWf {s k:Int} (hs:s=0 \/ s=1) (h1:1<=k) (h2:k<8) (d:Int) (hd:d=1 \/ d = -1) (K:Int) (n:Nat) (b h:List Int) (S:Int) (by_ sides:List (List Int)) (m:Nat) (st:List (List Int)):
  qFt s k d K n b h S by_ sides m st=some (qHT K h s k d,n,b,qAT h s k d,S,by_,sides,m,st):=by
 unfold qFt
 have e1:inB s 2=true:=qAa (by omega) (by omega)
 have e2:inB k 8=true:=qAa (by omega) (by omega)
 have e3:conv .i64 .i8 d=d:=by rcases hd with rfl | rfl<;>rfl
 simp only[qKq hs h1 h2,qA,qjD,qJ e1,qJ e2,e3]
 rfl
theorem qOm {s:Int} (hs:s=0 \/ s=1) (K:Int) (n:Nat) (b h:List Int) (by_ sides:List (List Int)) (m:Nat) (st:List (List Int)):
  qDh K n b h s by_ sides m st=some (qK0 K,n,b,h,1 - s,by_,sides,m,st):=by
 unfold qDh
 rw[qjO,qA]
 rcases hs with rfl | rfl<;>rfl
end Go.Kk.Pl
