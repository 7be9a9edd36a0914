/- What the program's functions come to, told plainly: the texts of this project that this claim leans on, cut down to what is used. -/
import Derived.Test.YthhkpianmpgeiaaDoorKkPl
import Derived.Test.YthhkpianmpgeiaaDoorKkO
namespace Go.Kk.Pl
theorem br_true {α : Type} {b : Bool} {x y : α} (h : b = true) : br b x y = x := by subst h; rfl
theorem br_false {α : Type} {b : Bool} {x y : α} (h : b = false) : br b x y = y := by subst h; rfl
theorem br_if {α : Type} (b : Bool) (x y : α) : br b x y = if b = true then x else y := by cases b <;> rfl
theorem ob_some {α β : Type} (a : α) (k : α → Option β) : ob (some a) k = k a := rfl
theorem sw_inr {α β γ : Type} (a : β) (f : α → Option γ) (g : β → Option γ) : sw (.inr a) f g = g a := rfl
theorem wrap64 {n : Int} (h1 : -9223372036854775808 ≤ n) (h2 : n ≤ 9223372036854775807) : IntKind.wrap .i64 n = n := wrap_of_range h1 h2
theorem wrap_small {n : Int} (h1 : -1000000000 ≤ n) (h2 : n ≤ 1000000000) : IntKind.wrap .i64 n = n := wrap64 (by omega) (by omega)
theorem inB_true {x : Int} {n : Nat} (h1 : 0 ≤ x) (h2 : x < n) : inB x n = true := by simp [inB, h1, h2]
theorem many_eq (n : Nat) (h : n ≤ 1000000) : ∃ f, many = f + n + 1 := ⟨many - n - 1, by unfold many; omega⟩
end Go.Kk.Pl
namespace Go.Kk.Pl
def bitsN (f : Nat → Bool) : Nat → Nat
 | 0 => 0
 | n + 1 => bitsN f n + bif f n then 2 ^ n else 0
theorem bitsN_lt (f : Nat → Bool) : ∀ n, bitsN f n < 2 ^ n
 | 0 => Nat.one_pos
 | n + 1 => by
   have := bitsN_lt f n
   simp only [bitsN]
   rw [Nat.pow_succ]
   cases f n <;> simp <;> omega
theorem bitsN_bit (f : Nat → Bool) : ∀ n i, (bitsN f n).testBit i = (decide (i < n) && f i)
 | 0, i => by simp [bitsN]
 | n + 1, i => by
   have ih := bitsN_bit f n
   have hlt := bitsN_lt f n
   have e : bitsN f (n + 1) = 2 ^ n * (f n).toNat + bitsN f n := by
    simp only [bitsN]
    cases f n <;> simp [Nat.add_comm]
   rw [e, Nat.testBit_two_pow_mul_add _ hlt]
   by_cases h : i < n
   ·rw [if_pos h, ih i]
    simp [h, show i < n + 1 by omega]
   ·rw [if_neg h]
    by_cases h2 : i = n
    ·subst h2
     simp only [Nat.sub_self, Nat.lt_succ_self, decide_true, Bool.true_and]
     cases f i <;> rfl
    ·rw [show decide (i < n + 1) = false by simp; omega, Bool.false_and]
     have : 1 ≤ i - n := by omega
     obtain ⟨k, hk⟩ : ∃ k, i - n = k + 1 := ⟨i - n - 1, by omega⟩
     rw [hk]
     cases f n
     ·simp
     ·show Nat.testBit 1 (k + 1) = false
      rw [Nat.testBit_succ]; simp
theorem bitsN_congr {f g : Nat → Bool} : ∀ {n : Nat}, (∀ i, i < n → f i = g i) → bitsN f n = bitsN g n
 | 0, _ => rfl
 | n + 1, h => by
   simp only [bitsN]
   rw [bitsN_congr fun i hi => h i (by omega), h n (by omega)]
theorem bitsN_eq {f : Nat → Bool} {n x : Nat} (hx : x < 2 ^ n) (h : ∀ i, i < n → x.testBit i = f i) : x = bitsN f n := by
 apply Nat.eq_of_testBit_eq
 intro i
 rw [bitsN_bit]
 by_cases hi : i < n
 ·simp [hi, h i hi]
 ·rw [show decide (i < n) = false by simp [hi], Bool.false_and]
  exact Nat.testBit_lt_two_pow (Nat.lt_of_lt_of_le hx (Nat.pow_le_pow_right (by omega) (by omega)))
theorem wrap_nat {n : Nat} (h : n < 2 ^ 64) : IntKind.wrap .u64 (n : Int) = n := by
 refine wrap_of_range ?_ ?_ <;> simp [IntKind.min, IntKind.max, IntKind.signed, IntKind.bits] <;> omega
theorem ofInt_nat (a : Nat) : BitVec.ofInt 64 (a : Int) = BitVec.ofNat 64 a := by simp
theorem bitop_and {a b : Nat} (ha : a < 2 ^ 64) (hb : b < 2 ^ 64) : bitop .and .u64 (a : Int) (b : Int) = ((a &&& b : Nat) : Int) := by
 unfold bitop
 show IntKind.wrap .u64 _ = _
 rw [show IntKind.bits .u64 = 64 from rfl, ofInt_nat, ofInt_nat, BitVec.toNat_and, BitVec.toNat_ofNat, BitVec.toNat_ofNat, Nat.mod_eq_of_lt ha, Nat.mod_eq_of_lt hb]
 exact wrap_nat (Nat.lt_of_le_of_lt Nat.and_le_left ha)
theorem bitop_or {a b : Nat} (ha : a < 2 ^ 64) (hb : b < 2 ^ 64) : bitop .or .u64 (a : Int) (b : Int) = ((a ||| b : Nat) : Int) := by
 unfold bitop
 show IntKind.wrap .u64 _ = _
 rw [show IntKind.bits .u64 = 64 from rfl, ofInt_nat, ofInt_nat, BitVec.toNat_or, BitVec.toNat_ofNat, BitVec.toNat_ofNat, Nat.mod_eq_of_lt ha, Nat.mod_eq_of_lt hb]
 exact wrap_nat (Nat.or_lt_two_pow ha hb)
theorem bitop_andNot {a b : Nat} (ha : a < 2 ^ 64) (hb : b < 2 ^ 64) : bitop .andNot .u64 (a : Int) (b : Int) = ((a &&& (2 ^ 64 - (b + 1)) : Nat) : Int) := by
 unfold bitop
 show IntKind.wrap .u64 _ = _
 rw [show IntKind.bits .u64 = 64 from rfl, ofInt_nat, ofInt_nat, BitVec.toNat_and, BitVec.toNat_not, BitVec.toNat_ofNat, BitVec.toNat_ofNat, Nat.mod_eq_of_lt ha, Nat.mod_eq_of_lt hb]
 rw [show 2 ^ 64 - 1 - b = 2 ^ 64 - (b + 1) by omega]
 exact wrap_nat (Nat.lt_of_le_of_lt Nat.and_le_left ha)
theorem lt64 (f : Nat → Bool) {n : Nat} (h : n ≤ 64) : bitsN f n < 2 ^ 64 := Nat.lt_of_lt_of_le (bitsN_lt f n) (Nat.pow_le_pow_right (by omega) h)
theorem and_bits (f g : Nat → Bool) {n : Nat} (h : n ≤ 64) : bitop .and .u64 (bitsN f n : Nat) (bitsN g n : Nat) = (bitsN (fun i => f i && g i) n : Nat) := by
 rw [bitop_and (lt64 f h) (lt64 g h)]
 congr 1
 refine bitsN_eq (Nat.lt_of_le_of_lt Nat.and_le_left (bitsN_lt f n)) fun i hi => ?_
 rw [Nat.testBit_and, bitsN_bit, bitsN_bit]
 simp [hi]
theorem or_bits (f g : Nat → Bool) {n : Nat} (h : n ≤ 64) : bitop .or .u64 (bitsN f n : Nat) (bitsN g n : Nat) = (bitsN (fun i => f i || g i) n : Nat) := by
 rw [bitop_or (lt64 f h) (lt64 g h)]
 congr 1
 refine bitsN_eq (Nat.or_lt_two_pow (bitsN_lt f n) (bitsN_lt g n)) fun i hi => ?_
 rw [Nat.testBit_or, bitsN_bit, bitsN_bit]
 simp [hi]
theorem andNot_bits (f g : Nat → Bool) {n : Nat} (h : n ≤ 64) : bitop .andNot .u64 (bitsN f n : Nat) (bitsN g n : Nat) = (bitsN (fun i => f i && !g i) n : Nat) := by
 rw [bitop_andNot (lt64 f h) (lt64 g h)]
 congr 1
 refine bitsN_eq (Nat.lt_of_le_of_lt Nat.and_le_left (bitsN_lt f n)) fun i hi => ?_
 rw [Nat.testBit_and, bitsN_bit, Nat.testBit_two_pow_sub_succ (lt64 g h), bitsN_bit]
 simp [hi, show i < 64 by omega]
def sLo (f : Nat → Bool) : Int := (bitsN f 63 : Nat)
def sHi (f : Nat → Bool) : Int := (bitsN (fun i => f (63 + i)) 18 : Nat)
def only (q : Int) (i : Nat) : Bool := decide ((i : Int) = q)
def has (f : Nat → Bool) (q : Int) : Bool := decide (0 ≤ q) && (decide (q < 81) && f q.toNat)
theorem set_congr {f g : Nat → Bool} (h : ∀ i, i < 81 → f i = g i) : sLo f = sLo g ∧ sHi f = sHi g := by
 unfold sLo sHi
 rw [bitsN_congr (f := f) (g := g) fun i hi => h i (by omega), bitsN_congr (f := fun i => f (63 + i)) (g := fun i => g (63 + i)) fun i hi => h _ (by omega)]
 exact ⟨rfl, rfl⟩
theorem bitsN_false : ∀ n, bitsN (fun _ => false) n = 0
 | 0 => rfl
 | n + 1 => by simp [bitsN, bitsN_false n]
theorem sLo_false : sLo (fun _ => false) = 0 := by unfold sLo; rw [bitsN_false]; rfl
theorem sHi_false : sHi (fun _ => false) = 0 := by unfold sHi; rw [bitsN_false]; rfl
theorem bit_all : ∀ q : Fin 81, set_bit ((q.val : Nat) : Int) = some (sLo (only ((q.val : Nat) : Int)), sHi (only ((q.val : Nat) : Int))) := by decide +kernel
theorem only_out {q : Int} (h : ¬ (0 ≤ q ∧ q < 81)) : sLo (only q) = 0 ∧ sHi (only q) = 0 := by
 have h := set_congr (f := only q) (g := fun _ => false) fun i hi => by unfold only; simp; omega
 rw [sLo_false, sHi_false] at h
 exact h
theorem bit_val (q : Int) : set_bit q = some (sLo (only q), sHi (only q)) := by
 by_cases h : 0 ≤ q ∧ q < 81
 ·have := bit_all ⟨q.toNat, by omega⟩
  simpa [show ((q.toNat : Nat) : Int) = q by omega] using this
 ·obtain ⟨h1, h2⟩ := only_out h
  rw [h1, h2]
  unfold set_bit
  by_cases h0 : q < 0
  ·rw [br_true (by simpa using h0)]
  ·rw [br_false (by simpa using h0), br_true (by simp; omega)]
theorem or_val (f g : Nat → Bool) : set_Or (sLo f) (sHi f) (sLo g) (sHi g) = some (sLo fun i => f i || g i, sHi fun i => f i || g i) := by
 unfold set_Or sLo sHi
 rw [or_bits _ _ (by omega), or_bits _ _ (by omega)]
theorem and_val (f g : Nat → Bool) : set_And (sLo f) (sHi f) (sLo g) (sHi g) = some (sLo fun i => f i && g i, sHi fun i => f i && g i) := by
 unfold set_And sLo sHi
 rw [and_bits _ _ (by omega), and_bits _ _ (by omega)]
theorem minus_val (f g : Nat → Bool) : set_Minus (sLo f) (sHi f) (sLo g) (sHi g) = some (sLo fun i => f i && !g i, sHi fun i => f i && !g i) := by
 unfold set_Minus sLo sHi
 rw [andNot_bits _ _ (by omega), andNot_bits _ _ (by omega)]
theorem with_val (f : Nat → Bool) (q : Int) : set_With (sLo f) (sHi f) q = some (sLo fun i => f i || only q i, sHi fun i => f i || only q i) := by
 unfold set_With
 rw [bit_val, ob_some]
 simp only
 rw [or_val, ob_some]
theorem without_val (f : Nat → Bool) (q : Int) : set_Without (sLo f) (sHi f) q = some (sLo fun i => f i && !only q i, sHi fun i => f i && !only q i) := by
 unfold set_Without
 rw [bit_val, ob_some]
 simp only
 rw [minus_val, ob_some]
end Go.Kk.Pl
namespace Go.Kk.Pl
theorem least {p : Nat → Bool} {j n : Nat} (h : ∃ i, j ≤ i ∧ i < n ∧ p i = true) : ∃ k, j ≤ k ∧ k < n ∧ p k = true ∧ ∀ i, j ≤ i → i < k → p i = false := by
 obtain ⟨i, h1, h2, h3⟩ := h
 induction hd : i - j generalizing i j with
 | zero => exact ⟨i, h1, h2, h3, fun x a b => by omega⟩
 | succ d ih =>
   cases hp : p j with
   | true => exact ⟨j, Nat.le_refl _, by omega, hp, fun x a b => by omega⟩
   | false =>
     obtain ⟨k, a, b, c, e⟩ := ih (j := j + 1) i (by omega) h2 h3 (by omega)
     refine ⟨k, by omega, b, c, fun x a' b' => ?_⟩
     by_cases hx : x = j
     ·subst hx; exact hp
     ·exact e x (by omega) b'
section
variable {f : Nat → Bool} {n k : Nat} (hk : k < n) (hf : f k = true) (hl : ∀ i, i < k → f i = false)
include hk hf hl
end
def fst (f : Nat → Bool) : Int := match (List.range 81).find? f with
 | some i => i
 | none => -1
theorem range81 : List.range 81 = List.range 63 ++ (List.range 18).map (63 + ·) := by decide +kernel
end Go.Kk.Pl
namespace Go.Kk.Pl
def mask (c : Nat) : Nat → Nat
 | 0 => 0
 | k + 1 => c + 256 * mask c k
def w1 (k x : Nat) : Nat := ((x / 2) &&& mask 85 k) + (x &&& mask 85 k)
def w2 (k x : Nat) : Nat := ((x / 4) &&& mask 51 k) + (x &&& mask 51 k)
def w3 (k x : Nat) : Nat := (x / 16 + x) &&& mask 15 k
theorem and_byte {a b r m : Nat} (ha : a < 256) (hb : b < 256) : (a + 256 * r) &&& (b + 256 * m) = (a &&& b) + 256 * (r &&& m) := by
 have h1 : a + 256 * r = 2 ^ 8 * r + a := by omega
 have h2 : b + 256 * m = 2 ^ 8 * m + b := by omega
 have h3 : (a &&& b) + 256 * (r &&& m) = 2 ^ 8 * (r &&& m) + (a &&& b) := by omega
 have h4 : a &&& b < 2 ^ 8 := Nat.lt_of_le_of_lt Nat.and_le_left ha
 apply Nat.eq_of_testBit_eq
 intro i
 rw [h1, h2, h3, Nat.testBit_and, Nat.testBit_two_pow_mul_add _ ha, Nat.testBit_two_pow_mul_add _ hb, Nat.testBit_two_pow_mul_add _ h4]
 split <;> simp
theorem b1_all : ∀ (b : Fin 256) (t : Fin 2), ((b.val / 2 + 128 * t.val) &&& 85) = ((b.val / 2) &&& 85) := by decide +kernel
theorem b2_all : ∀ (b : Fin 256) (t : Fin 4), ((b.val / 4 + 64 * t.val) &&& 51) = ((b.val / 4) &&& 51) := by decide +kernel
def y1 (b : Nat) : Nat := ((b / 2) &&& 85) + (b &&& 85)
def y2 (b : Nat) : Nat := ((b / 4) &&& 51) + (b &&& 51)
def y3 (b : Nat) : Nat := (b / 16 + b) &&& 15
theorem y1_lt : ∀ b : Fin 256, y1 b.val < 256 := by decide +kernel
theorem y21_le : ∀ b : Fin 256, y2 (y1 b.val) ≤ 68 ∧ y3 (y2 (y1 b.val)) ≤ 8 := by decide +kernel
theorem b3_all : ∀ (b : Fin 103) (t : Fin 8), ((b.val / 16 + b.val + 16 * t.val) &&& 15) = ((b.val / 16 + b.val) &&& 15) := by decide +kernel
theorem w1_step {b r k : Nat} (hb : b < 256) : w1 (k + 1) (b + 256 * r) = y1 b + 256 * w1 k r := by
 unfold w1 y1
 have h1 : (b + 256 * r) / 2 = (b / 2 + 128 * (r % 2)) + 256 * (r / 2) := by omega
 rw [h1]
 simp only [mask]
 have := b1_all ⟨b, hb⟩ ⟨r % 2, by omega⟩
 simp only at this
 rw [and_byte (by omega) (by omega), and_byte hb (by omega), this]
 omega
theorem w2_step {b r k : Nat} (hb : b < 256) : w2 (k + 1) (b + 256 * r) = y2 b + 256 * w2 k r := by
 unfold w2 y2
 have h1 : (b + 256 * r) / 4 = (b / 4 + 64 * (r % 4)) + 256 * (r / 4) := by omega
 rw [h1]
 simp only [mask]
 have := b2_all ⟨b, hb⟩ ⟨r % 4, by omega⟩
 simp only at this
 rw [and_byte (by omega) (by omega), and_byte hb (by omega), this]
 omega
theorem w3_step {b r k : Nat} (hb : b ≤ 102) (hr : r % 16 < 8) : w3 (k + 1) (b + 256 * r) = y3 b + 256 * w3 k r := by
 unfold w3 y3
 have h1 : (b + 256 * r) / 16 + (b + 256 * r) = (b / 16 + b + 16 * (r % 16)) + 256 * (r / 16 + r) := by omega
 rw [h1]
 simp only [mask]
 rw [and_byte (by omega) (by omega), b3_all ⟨b, by omega⟩ ⟨r % 16, hr⟩]
def pop : Nat → Nat → Nat
 | 0, _ => 0
 | k + 1, x => y3 (y2 (y1 (x % 256))) + pop k (x / 256)
def pops : Nat → Nat → Nat
 | 0, _ => 0
 | k + 1, x => y3 (y2 (y1 (x % 256))) + 256 * pops k (x / 256)
theorem w2_mod (k x : Nat) : w2 k (w1 k x) % 16 < 8 := by
 cases k with
 | zero => simp [w2, mask]
 | succ k =>
   have h : x = x % 256 + 256 * (x / 256) := by omega
   have h0 := y1_lt ⟨x % 256, by omega⟩
   simp only at h0
   rw [h, w1_step (by omega), w2_step h0]
   have : ∀ b : Fin 256, y2 (y1 b.val) % 16 < 8 := by decide +kernel
   have := this ⟨x % 256, by omega⟩
   simp only at this
   omega
theorem w_pops : ∀ k x, w3 k (w2 k (w1 k x)) = pops k x
 | 0, x => by simp [w3, mask, pops]
 | k + 1, x => by
   have h : x = x % 256 + 256 * (x / 256) := by omega
   have h0 := y1_lt ⟨x % 256, by omega⟩
   have h1 := (y21_le ⟨x % 256, by omega⟩).1
   simp only at h0 h1
   conv => lhs; rw [h]
   rw [w1_step (by omega), w2_step h0, w3_step (by omega) (w2_mod _ _), w_pops k]
   rfl
theorem sum8 {a0 a1 a2 a3 a4 a5 a6 a7 : Nat} (h0 : a0 ≤ 8) (h1 : a1 ≤ 8) (h2 : a2 ≤ 8) (h3 : a3 ≤ 8) (h4 : a4 ≤ 8) (h5 : a5 ≤ 8) (h6 : a6 ≤ 8) (h7 : a7 ≤ 8) :
  (a0 + 256 * (a1 + 256 * (a2 + 256 * (a3 + 256 * (a4 + 256 * (a5 + 256 * (a6 + 256 * (a7 + 256 * 0))))))) +
      (a0 + 256 * (a1 + 256 * (a2 + 256 * (a3 + 256 * (a4 + 256 * (a5 + 256 * (a6 + 256 * (a7 + 256 * 0)))))))) / 256 +
        (a0 + 256 * (a1 + 256 * (a2 + 256 * (a3 + 256 * (a4 + 256 * (a5 + 256 * (a6 + 256 * (a7 + 256 * 0))))))) +
            (a0 + 256 * (a1 + 256 * (a2 + 256 * (a3 + 256 * (a4 + 256 * (a5 + 256 * (a6 + 256 * (a7 + 256 * 0)))))))) / 256) /
         65536 +
      (a0 + 256 * (a1 + 256 * (a2 + 256 * (a3 + 256 * (a4 + 256 * (a5 + 256 * (a6 + 256 * (a7 + 256 * 0))))))) +
            (a0 + 256 * (a1 + 256 * (a2 + 256 * (a3 + 256 * (a4 + 256 * (a5 + 256 * (a6 + 256 * (a7 + 256 * 0)))))))) / 256 +
          (a0 + 256 * (a1 + 256 * (a2 + 256 * (a3 + 256 * (a4 + 256 * (a5 + 256 * (a6 + 256 * (a7 + 256 * 0))))))) +
              (a0 + 256 * (a1 + 256 * (a2 + 256 * (a3 + 256 * (a4 + 256 * (a5 + 256 * (a6 + 256 * (a7 + 256 * 0)))))))) / 256) /
           65536) /
       4294967296) %
   128 =
  a0 + (a1 + (a2 + (a3 + (a4 + (a5 + (a6 + (a7 + 0))))))) := by
 rw [show a7 + 256 * 0 = a7 by omega]
 generalize h : a6 + 256 * a7 = q6
 generalize g5 : a5 + 256 * q6 = q5
 generalize g4 : a4 + 256 * q5 = q4
 generalize g3 : a3 + 256 * q4 = q3
 generalize g2 : a2 + 256 * q3 = q2
 generalize g1 : a1 + 256 * q2 = q1
 have e1 : (a0 + 256 * q1) / 256 = q1 := by omega
 rw [e1]
 have e2 : (a0 + 256 * q1 + q1) / 65536 = q2 + q3 := by omega
 rw [e2]
 have e3 : (a0 + 256 * q1 + q1 + (q2 + q3)) / 4294967296 = q4 + q5 + (q6 + a7) := by omega
 rw [e3]
 omega
theorem sum_pops (x : Nat) :
  let s := pops 8 x
  let t := s + s / 256
  let u := t + t / 65536
  (u + u / 4294967296) % 128 = pop 8 x := by
 have h : ∀ y, y3 (y2 (y1 (y % 256))) ≤ 8 := fun y => (y21_le ⟨y % 256, by omega⟩).2
 simp only [pops, pop]
 have h0 := h x
 have h1 := h (x / 256)
 have h2 := h (x / 256 / 256)
 have h3 := h (x / 256 / 256 / 256)
 have h4 := h (x / 256 / 256 / 256 / 256)
 have h5 := h (x / 256 / 256 / 256 / 256 / 256)
 have h6 := h (x / 256 / 256 / 256 / 256 / 256 / 256)
 have h7 := h (x / 256 / 256 / 256 / 256 / 256 / 256 / 256)
 generalize y3 (y2 (y1 (x % 256))) = a0 at *
 generalize y3 (y2 (y1 (x / 256 % 256))) = a1 at *
 generalize y3 (y2 (y1 (x / 256 / 256 % 256))) = a2 at *
 generalize y3 (y2 (y1 (x / 256 / 256 / 256 % 256))) = a3 at *
 generalize y3 (y2 (y1 (x / 256 / 256 / 256 / 256 % 256))) = a4 at *
 generalize y3 (y2 (y1 (x / 256 / 256 / 256 / 256 / 256 % 256))) = a5 at *
 generalize y3 (y2 (y1 (x / 256 / 256 / 256 / 256 / 256 / 256 % 256))) = a6 at *
 generalize y3 (y2 (y1 (x / 256 / 256 / 256 / 256 / 256 / 256 / 256 % 256))) = a7 at *
 exact sum8 h0 h1 h2 h3 h4 h5 h6 h7
theorem bitsN_add (f : Nat → Bool) (n : Nat) : ∀ m, bitsN f (n + m) = bitsN f n + 2 ^ n * bitsN (fun i => f (n + i)) m
 | 0 => by simp [bitsN]
 | m + 1 => by
   rw [← Nat.add_assoc]
   simp only [bitsN]
   rw [bitsN_add f n m, Nat.mul_add, Nat.add_assoc]
   congr 2
   cases f (n + m) <;> simp [Nat.pow_add]
theorem byte_all : ∀ a b c d e f g h : Bool, y3 (y2 (y1 (0 + (bif a then 2 ^ 0 else 0) + (bif b then 2 ^ 1 else 0) + (bif c then 2 ^ 2 else 0) + (bif d then 2 ^ 3 else 0) + (bif e then 2 ^ 4 else 0) + (bif f then 2 ^ 5 else 0) + (bif g then 2 ^ 6 else 0) + (bif h then 2 ^ 7 else 0)))) =
  a.toNat + b.toNat + c.toNat + d.toNat + e.toNat + f.toNat + g.toNat + h.toNat := by decide +kernel
theorem pop_bits (f : Nat → Bool) : ∀ k, ∀ j, pop k (bitsN (fun i => f (j + i)) (8 * k)) = ((List.range (8 * k)).map (j + ·)).countP f
 | 0, j => rfl
 | k + 1, j => by
   have e : bitsN (fun i => f (j + i)) (8 * (k + 1)) = bitsN (fun i => f (j + i)) 8 + 256 * bitsN (fun i => f (j + 8 + i)) (8 * k) := by
    rw [show 8 * (k + 1) = 8 + 8 * k by omega, bitsN_add]
    simp only [Nat.add_assoc]
   have hlt := bitsN_lt (fun i => f (j + i)) 8
   simp only [pop]
   rw [e, show (bitsN (fun i => f (j + i)) 8 + 256 * bitsN (fun i => f (j + 8 + i)) (8 * k)) % 256 = bitsN (fun i => f (j + i)) 8 by omega,
    show (bitsN (fun i => f (j + i)) 8 + 256 * bitsN (fun i => f (j + 8 + i)) (8 * k)) / 256 = bitsN (fun i => f (j + 8 + i)) (8 * k) by omega, pop_bits f k (j + 8)]
   have h8 : List.range (8 * (k + 1)) = List.range 8 ++ (List.range (8 * k)).map (8 + ·) := by
    rw [show 8 * (k + 1) = 8 + 8 * k by omega, List.range_add]
   rw [h8, List.map_append, List.countP_append, List.map_map]
   have h1 : y3 (y2 (y1 (bitsN (fun i => f (j + i)) 8))) = ((List.range 8).map (j + ·)).countP f := by
    have := byte_all (f (j + 0)) (f (j + 1)) (f (j + 2)) (f (j + 3)) (f (j + 4)) (f (j + 5)) (f (j + 6)) (f (j + 7))
    simp only [bitsN]
    rw [this]
    show _ = List.countP f [j + 0, j + 1, j + 2, j + 3, j + 4, j + 5, j + 6, j + 7]
    simp only [List.countP_cons, List.countP_nil]
    cases f (j + 0) <;> cases f (j + 1) <;> cases f (j + 2) <;> cases f (j + 3) <;> cases f (j + 4) <;> cases f (j + 5) <;> cases f (j + 6) <;> cases f (j + 7) <;> rfl
   rw [h1]
   congr 2
   apply List.map_congr_left
   intro a _
   show j + 8 + a = j + (8 + a)
   omega
theorem fdiv_nat (a b : Nat) : Int.fdiv (a : Int) (b : Int) = ((a / b : Nat) : Int) := by
 simp [Int.fdiv_eq_ediv]
def ocS (x : Nat) : Nat :=
 let s := w3 8 (w2 8 (w1 8 x))
 let t := s + s / 256
 let u := t + t / 65536
 (u + u / 4294967296) % 128
theorem mask85 : mask 85 8 = 6148914691236517205 := by decide +kernel
theorem mask51 : mask 51 8 = 3689348814741910323 := by decide +kernel
theorem mask15 : mask 15 8 = 1085102592571150095 := by decide +kernel
theorem conv_u64 {n : Nat} (h : n < 2 ^ 63) : conv IntKind.u64 IntKind.i64 (n : Int) = n := by
 unfold conv
 rw [show IntKind.within .u64 .i64 = false from rfl, cond_false]
 exact wrap64 (by omega) (by omega)
theorem and127 {n : Nat} (h : n < 2 ^ 63) : bitop .and .i64 (n : Int) 127 = ((n % 128 : Nat) : Int) := by
 unfold bitop
 show IntKind.wrap .i64 _ = _
 rw [show IntKind.bits .i64 = 64 from rfl, show (127 : Int) = ((127 : Nat) : Int) from rfl, ofInt_nat, ofInt_nat, BitVec.toNat_and, BitVec.toNat_ofNat, BitVec.toNat_ofNat, Nat.mod_eq_of_lt (by omega), Nat.mod_eq_of_lt (by omega)]
 rw [show (127 : Nat) = 2 ^ 7 - 1 by rfl, Nat.and_two_pow_sub_one_eq_mod]
 exact wrap64 (by omega) (by omega)
theorem ones_val {x : Nat} (hx : x < 2 ^ 64) : bits_OnesCount64 (x : Int) = some ((ocS x : Nat) : Int) := by
 unfold bits_OnesCount64
 have d2 : Int.fdiv (x : Int) 2 = ((x / 2 : Nat) : Int) := fdiv_nat x 2
 have s1 : IntKind.wrap IntKind.u64 (bitop BinOp.and IntKind.u64 (Int.fdiv (x : Int) 2) 6148914691236517205 + bitop BinOp.and IntKind.u64 (x : Int) 6148914691236517205) = ((w1 8 x : Nat) : Int) := by
  have h1 : bitop BinOp.and IntKind.u64 ((x / 2 : Nat) : Int) 6148914691236517205 = ((x / 2 &&& 6148914691236517205 : Nat) : Int) := bitop_and (by omega) (by decide)
  have h2 : bitop BinOp.and IntKind.u64 ((x : Nat) : Int) 6148914691236517205 = ((x &&& 6148914691236517205 : Nat) : Int) := bitop_and hx (by decide)
  rw [d2, h1, h2]
  have l1 := Nat.and_le_right (n := x / 2) (m := 6148914691236517205)
  have l2 := Nat.and_le_right (n := x) (m := 6148914691236517205)
  have := wrap_nat (n := ((x / 2) &&& 6148914691236517205) + (x &&& 6148914691236517205)) (by omega)
  rw [Int.natCast_add] at this
  rw [this]
  unfold w1
  rw [mask85, Int.natCast_add]
 have l1 : w1 8 x < 2 ^ 64 := by
  unfold w1
  rw [mask85]
  have l1 := Nat.and_le_right (n := x / 2) (m := 6148914691236517205)
  have l2 := Nat.and_le_right (n := x) (m := 6148914691236517205)
  omega
 rw [s1]
 generalize hy : w1 8 x = y at *
 have s2 : IntKind.wrap IntKind.u64 (bitop BinOp.and IntKind.u64 (Int.fdiv (y : Int) 4) 3689348814741910323 + bitop BinOp.and IntKind.u64 (y : Int) 3689348814741910323) = ((w2 8 y : Nat) : Int) := by
  have h1 : bitop BinOp.and IntKind.u64 ((y / 4 : Nat) : Int) 3689348814741910323 = ((y / 4 &&& 3689348814741910323 : Nat) : Int) := bitop_and (by omega) (by decide)
  have h2 : bitop BinOp.and IntKind.u64 ((y : Nat) : Int) 3689348814741910323 = ((y &&& 3689348814741910323 : Nat) : Int) := bitop_and l1 (by decide)
  rw [show Int.fdiv (y : Int) 4 = ((y / 4 : Nat) : Int) from fdiv_nat y 4, h1, h2]
  have l1 := Nat.and_le_right (n := y / 4) (m := 3689348814741910323)
  have l2 := Nat.and_le_right (n := y) (m := 3689348814741910323)
  have := wrap_nat (n := ((y / 4) &&& 3689348814741910323) + (y &&& 3689348814741910323)) (by omega)
  rw [Int.natCast_add] at this
  rw [this]
  unfold w2
  rw [mask51, Int.natCast_add]
 have l2 : w2 8 y ≤ 2 * 3689348814741910323 := by
  unfold w2
  rw [mask51]
  have l1 := Nat.and_le_right (n := y / 4) (m := 3689348814741910323)
  have l2 := Nat.and_le_right (n := y) (m := 3689348814741910323)
  omega
 rw [s2]
 generalize hz : w2 8 y = z at *
 have s3 : bitop BinOp.and IntKind.u64 (IntKind.wrap IntKind.u64 (Int.fdiv (z : Int) 16 + (z : Int))) 1085102592571150095 = ((w3 8 z : Nat) : Int) := by
  rw [show Int.fdiv (z : Int) 16 = ((z / 16 : Nat) : Int) from fdiv_nat z 16, ← Int.natCast_add, wrap_nat (by omega)]
  have h1 : bitop BinOp.and IntKind.u64 ((z / 16 + z : Nat) : Int) 1085102592571150095 = (((z / 16 + z) &&& 1085102592571150095 : Nat) : Int) := bitop_and (by omega) (by decide)
  rw [h1]
  unfold w3
  rw [mask15]
 have l3 : w3 8 z ≤ 1085102592571150095 := by
  unfold w3
  rw [mask15]
  exact Nat.and_le_right
 rw [s3]
 generalize hp : w3 8 z = p at *
 rw [show Int.fdiv (p : Int) 256 = ((p / 256 : Nat) : Int) from fdiv_nat p 256, ← Int.natCast_add, wrap_nat (by omega),
  show Int.fdiv ((p + p / 256 : Nat) : Int) 65536 = (((p + p / 256) / 65536 : Nat) : Int) from fdiv_nat _ 65536, ← Int.natCast_add, wrap_nat (by omega),
  show Int.fdiv ((p + p / 256 + (p + p / 256) / 65536 : Nat) : Int) 4294967296 = (((p + p / 256 + (p + p / 256) / 65536) / 4294967296 : Nat) : Int) from fdiv_nat _ 4294967296, ← Int.natCast_add, wrap_nat (by omega), conv_u64 (by omega), and127 (by omega)]
 unfold ocS
 rw [hy, hz, hp]
theorem pop_lt {x : Nat} : ocS x = pop 8 x := by
 unfold ocS
 rw [w_pops]
 exact sum_pops x
theorem ones_bits (f : Nat → Bool) {n : Nat} (hn : n ≤ 64) : bits_OnesCount64 (bitsN f n : Nat) = some (((List.range n).countP f : Nat) : Int) := by
 rw [ones_val (lt64 f hn), pop_lt]
 have e : bitsN f n = bitsN (fun i => (fun i => f i && decide (i < n)) (0 + i)) (8 * 8) := by
  apply Nat.eq_of_testBit_eq
  intro i
  rw [bitsN_bit, bitsN_bit]
  by_cases h : i < n
  ·simp [h, show i < 64 by omega]
  ·simp [h]
 rw [e, pop_bits (fun i => f i && decide (i < n)) 8 0]
 congr 2
 have h64 : List.range (8 * 8) = List.range n ++ (List.range (64 - n)).map (n + ·) := by
  rw [← List.range_add]; congr 1; omega
 have hid : (List.range (8 * 8)).map (0 + ·) = List.range (8 * 8) := by
  have : (fun x : Nat => 0 + x) = id := by funext x; simp
  rw [this, List.map_id]
 rw [hid, h64, List.countP_append]
 have h1 : (List.range n).countP (fun i => f i && decide (i < n)) = (List.range n).countP f := by
  apply List.countP_congr
  intro x hx
  simp only [List.mem_range] at hx
  simp [hx]
 have h2 : ((List.range (64 - n)).map (n + ·)).countP (fun i => f i && decide (i < n)) = 0 := by
  rw [List.countP_eq_zero]
  intro x hx
  obtain ⟨a, _, rfl⟩ := List.mem_map.1 hx
  simp
 rw [h1, h2, Nat.add_zero]
def cntS (f : Nat → Bool) : Nat := (List.range 81).countP f
theorem cntS_le (f : Nat → Bool) : cntS f ≤ 81 := Nat.le_trans List.countP_le_length (by simp)
theorem count_set (f : Nat → Bool) : set_Count (sLo f) (sHi f) = some ((cntS f : Nat) : Int) := by
 have hle := cntS_le f
 unfold set_Count sLo sHi
 have e : cntS f = (List.range 63).countP f + (List.range 18).countP fun i => f (63 + i) := by
  unfold cntS
  rw [range81, List.countP_append, List.countP_map]
  rfl
 rw [ones_bits f (by omega), ob_some, ones_bits (fun i => f (63 + i)) (by omega), ob_some, ← Int.natCast_add, ← e, wrap_small (by omega) (by omega)]
end Go.Kk.Pl
namespace Go.Kk.Pl
end Go.Kk.Pl
namespace Go.Kk.Pl
def kd (x : Int) : Int := if x < 1 ∨ 31 < x ∨ x = 13 ∨ x = 16 ∨ x = 29 then 0 else x % 16
def sd (x : Int) : Int := if kd x = 0 then -1 else if x < 16 then 0 else 1
theorem fin32 {x : Int} (h0 : 0 ≤ x) (h1 : x ≤ 31) : ∃ n : Fin 32, x = ((n.val : Nat) : Int) := ⟨⟨x.toNat, by omega⟩, by simp; omega⟩
theorem kind_all : ∀ n : Fin 32, piece_Kind ((n.val : Nat) : Int) = some (kd ((n.val : Nat) : Int)) := by decide +kernel
theorem refKind_all : ∀ n : Fin 32, ref02_Kind ((n.val : Nat) : Int) = some (kd ((n.val : Nat) : Int)) := by decide +kernel
theorem kind_val (x : Int) : piece_Kind x = some (kd x) := by
 by_cases h0 : 0 ≤ x
 ·by_cases h1 : x ≤ 31
  ·obtain ⟨n, rfl⟩ := fin32 h0 h1
   exact kind_all n
  ·unfold piece_Kind
   rw [br_false (by simp; omega), br_true (by simp; omega), br_false (by simp; omega), br_false (by simp; omega)]
   unfold kd
   rw [if_pos (by omega)]
 ·unfold piece_Kind
  rw [br_true (by simp; omega), br_false (by simp; omega), br_false (by simp; omega)]
  unfold kd
  rw [if_pos (by omega)]
theorem refKind_val (x : Int) : ref02_Kind x = some (kd x) := by
 by_cases h0 : 0 ≤ x
 ·by_cases h1 : x ≤ 31
  ·obtain ⟨n, rfl⟩ := fin32 h0 h1
   exact refKind_all n
  ·unfold ref02_Kind
   rw [br_false (by simp; omega), br_true (by simp; omega)]
   unfold kd
   rw [if_pos (by omega)]
 ·unfold ref02_Kind
  rw [br_true (by simp; omega)]
  unfold kd
  rw [if_pos (by omega)]
theorem side_val (x : Int) : piece_Side x = some (sd x) := by
 unfold piece_Side
 rw [kind_val, ob_some]
 unfold sd
 by_cases h : kd x = 0
 ·rw [br_true (by simp [h]), if_pos h]
 ·rw [br_false (by simpa using h), if_neg h]
  by_cases h2 : x < 16
  ·rw [br_true (by simpa using h2), if_pos h2]
  ·rw [br_false (by simpa using h2), if_neg h2]
theorem kd_range {x : Int} (h : kd x ≠ 0) : 1 ≤ x ∧ x ≤ 31 := by
 unfold kd at h
 split at h
 ·exact absurd rfl h
 ·omega
theorem sd_range {x : Int} (h : kd x ≠ 0) : sd x = 0 ∨ sd x = 1 := by
 unfold sd
 rw [if_neg h]
 split <;> simp
structure Clean (b : List Int) : Prop where
 len : b.length = 81
 ok : ∀ i, i < 81 → b.getD i 0 = 0 ∨ kd (b.getD i 0) ≠ 0
def at_ (b : List Int) (q : Int) : Int := if 0 ≤ q ∧ q < 81 then b.getD q.toNat 0 else 0
def put (b : List Int) (q x : Int) : List Int := if 0 ≤ q ∧ q < 81 then b.set q.toNat (if kd x = 0 then 0 else x) else b
theorem Clean.at_ {b : List Int} (hc : Clean b) (q : Int) : at_ b q = 0 ∨ kd (at_ b q) ≠ 0 := by
 unfold Pl.at_
 split
 ·exact hc.ok _ (by omega)
 ·exact .inl rfl
theorem Clean.put {b : List Int} (hc : Clean b) (q x : Int) : Clean (put b q x) := by
 unfold Pl.put
 split
 ·rename_i hq
  refine ⟨by rw [List.length_set]; exact hc.len, fun i hi => ?_⟩
  by_cases hqi : q.toNat = i
  ·subst hqi
   rw [List.getD_eq_getElem?_getD, List.getElem?_set_self (by rw [hc.len]; exact hi), Option.getD_some]
   split
   ·exact .inl rfl
   ·rename_i h; exact .inr h
  ·rw [List.getD_eq_getElem?_getD, List.getElem?_set_ne hqi, ← List.getD_eq_getElem?_getD]
   exact hc.ok i hi
 ·exact hc
end Go.Kk.Pl
namespace Go.Kk.Pl
def prS (f : Nat → Bool) : List Int := [sLo f, sHi f]
theorem prS_congr {f g : Nat → Bool} (h : ∀ i, i < 81 → f i = g i) : prS f = prS g := by
 obtain ⟨h1, h2⟩ := set_congr h
 unfold prS; rw [h1, h2]
def pcs (b : List Int) (x : Int) (i : Nat) : Bool := decide (x ≠ 0 ∧ b.getD i 0 = x)
def sds (b : List Int) (s : Int) (i : Nat) : Bool := decide (sd (b.getD i 0) = s)
def byOf (b : List Int) : List (List Int) := (List.range 32).map fun (x : Nat) => prS (pcs b x)
def sidesOf (b : List Int) : List (List Int) := (List.range 2).map fun (s : Nat) => prS (sds b s)
theorem map_set {α : Type} (G : Nat → α) (n k : Nat) (v : α) : ((List.range n).map G).set k v = (List.range n).map fun j => if j = k then v else G j := by
 apply List.ext_getElem
 ·simp
 ·intro i h1 h2
  simp only [List.length_set, List.length_map, List.length_range] at h1
  rw [List.getElem_set]
  simp only [List.getElem_map, List.getElem_range]
  by_cases h : k = i
  ·simp [h]
  ·simp [h, Ne.symm h]
theorem map_getD {α : Type} (G : Nat → α) {n k : Nat} (h : k < n) (d : α) : ((List.range n).map G).getD k d = G k := by
 rw [List.getD_eq_getElem?_getD, List.getElem?_map, List.getElem?_range h]; rfl
theorem by_get (b : List Int) {x : Int} (h0 : 0 ≤ x) (h1 : x < 32) : (byOf b).getD x.toNat [] = prS (pcs b x) := by
 unfold byOf
 rw [map_getD _ (by omega), show ((x.toNat : Nat) : Int) = x by omega]
theorem sides_get (b : List Int) {s : Int} (h0 : 0 ≤ s) (h1 : s < 2) : (sidesOf b).getD s.toNat [] = prS (sds b s) := by
 unfold sidesOf
 rw [map_getD _ (by omega), show ((s.toNat : Nat) : Int) = s by omega]
theorem prS_hd (f : Nat → Bool) : List.headD (List.take 2 (prS f)) 0 = sLo f := rfl
theorem prS_tl (f : Nat → Bool) : List.headD (List.tail (List.take 2 (prS f))) 0 = sHi f := rfl
theorem prS_mk (f : Nat → Bool) (g : Nat → Bool) : sLo f :: sHi f :: List.drop 2 (prS g) = prS f := rfl
theorem sd_zero : sd 0 = -1 := by decide
theorem getD_set {b : List Int} {q : Nat} (hq : q < b.length) (x : Int) (i : Nat) : (b.set q x).getD i 0 = if i = q then x else b.getD i 0 := by
 rw [List.getD_eq_getElem?_getD]
 by_cases h : i = q
 ·subst h; rw [List.getElem?_set_self hq, if_pos rfl]; rfl
 ·rw [List.getElem?_set_ne (Ne.symm h), if_neg h, List.getD_eq_getElem?_getD]
theorem by_set {b b' : List Int} {F : Nat → Bool} {x : Int} (h0 : 0 ≤ x) (h : ∀ j : Nat, j < 32 → ∀ i, i < 81 → (if (j : Int) = x then F i else pcs b j i) = pcs b' j i) : List.set (byOf b) x.toNat (prS F) = byOf b' := by
 unfold byOf
 rw [map_set]
 apply List.map_congr_left
 intro j hj
 simp only [List.mem_range] at hj
 have h := h j hj
 split
 ·rename_i hjx
  exact prS_congr fun i hi => by rw [← h i hi, if_pos (by omega)]
 ·rename_i hjx
  exact prS_congr fun i hi => by rw [← h i hi, if_neg (by omega)]
theorem sides_set {b b' : List Int} {F : Nat → Bool} {x : Int} (h0 : 0 ≤ x) (h : ∀ j : Nat, j < 2 → ∀ i, i < 81 → (if (j : Int) = x then F i else sds b j i) = sds b' j i) : List.set (sidesOf b) x.toNat (prS F) = sidesOf b' := by
 unfold sidesOf
 rw [map_set]
 apply List.map_congr_left
 intro j hj
 simp only [List.mem_range] at hj
 have h := h j hj
 split
 ·rename_i hjx
  exact prS_congr fun i hi => by rw [← h i hi, if_pos (by omega)]
 ·rename_i hjx
  exact prS_congr fun i hi => by rw [← h i hi, if_neg (by omega)]
section
variable {b : List Int} {q : Int} (hq0 : 0 ≤ q) (hql : q.toNat < b.length)
include hq0 hql
theorem by_with (hz : b.getD q.toNat 0 = 0) {x : Int} (hx : 1 ≤ x) : List.set (byOf b) x.toNat (prS fun i => pcs b x i || only q i) = byOf (b.set q.toNat x) := by
 refine by_set (by omega) fun j hj i hi => ?_
 unfold pcs only
 rw [getD_set hql, Bool.eq_iff_iff]
 by_cases hi : i = q.toNat
 ·subst hi
  rw [hz]
  split <;> simp <;> omega
 ·have : ¬ (i : Int) = q := by omega
  split
  ·rename_i hjx
   simp [this, hjx]
  ·simp
theorem sides_with (hz : b.getD q.toNat 0 = 0) {x : Int} (hx : sd x = 0 ∨ sd x = 1) : List.set (sidesOf b) (sd x).toNat (prS fun i => sds b (sd x) i || only q i) = sidesOf (b.set q.toNat x) := by
 refine sides_set (by omega) fun j hj i hi => ?_
 unfold sds only
 rw [getD_set hql, Bool.eq_iff_iff]
 by_cases hi : i = q.toNat
 ·subst hi
  rw [hz, sd_zero]
  split <;> simp <;> omega
 ·have : ¬ (i : Int) = q := by omega
  split
  ·rename_i hjx
   simp [this, hjx]
  ·simp
theorem by_without {x : Int} (hz : b.getD q.toNat 0 = x) (hx : 1 ≤ x) : List.set (byOf b) x.toNat (prS fun i => pcs b x i && !only q i) = byOf (b.set q.toNat 0) := by
 refine by_set (by omega) fun j hj i hi => ?_
 unfold pcs only
 rw [getD_set hql, Bool.eq_iff_iff]
 by_cases hi : i = q.toNat
 ·subst hi
  rw [hz]
  split <;> simp <;> omega
 ·have : ¬ (i : Int) = q := by omega
  split
  ·rename_i hjx
   simp [this, hjx]
  ·simp
theorem sides_without {x : Int} (hz : b.getD q.toNat 0 = x) (hx : sd x = 0 ∨ sd x = 1) : List.set (sidesOf b) (sd x).toNat (prS fun i => sds b (sd x) i && !only q i) = sidesOf (b.set q.toNat 0) := by
 refine sides_set (by omega) fun j hj i hi => ?_
 unfold sds only
 rw [getD_set hql, Bool.eq_iff_iff]
 by_cases hi : i = q.toNat
 ·subst hi
  rw [hz, if_pos rfl, sd_zero]
  split <;> simp <;> omega
 ·have : ¬ (i : Int) = q := by omega
  split
  ·rename_i hjx
   simp [this, hjx]
  ·simp
end
theorem put_full {b : List Int} (hc : Clean b) (q x : Int) (h : List Int) (s : Int) :
  board_Put q x b h s (byOf b) (sidesOf b) = some (put b q x, h, s, byOf (put b q x), sidesOf (put b q x)) := by
 unfold board_Put put
 by_cases h0 : q < 0
 ·rw [br_true (by simpa using h0), if_neg (by omega)]
 rw [br_false (by simpa using h0)]
 by_cases h1 : 81 ≤ q
 ·rw [br_true (by simpa using h1), if_neg (by omega)]
 rw [br_false (by simpa using h1), br_true (inB_true (by omega) (by omega)), if_pos (by omega)]
 simp only [side_val, kind_val, ob_some]
 have hq81 : inB q 81 = true := inB_true (by omega) (by omega)
 have hb := hc.ok q.toNat (by omega)
 have hql : q.toNat < b.length := by rw [hc.len]; omega
 have key : ∀ (b : List Int), q.toNat < b.length → b.getD q.toNat 0 = 0 → (br (kd x == 0)
   (br (inB q 81) (some (List.set b q.toNat 0, h, s, byOf b, sidesOf b)) none)
   (br (inB q 81) (br (x != 0) (br (inB x 32) (ob (set_With (List.headD (List.take 2 (List.getD (byOf b) x.toNat [])) 0) (List.headD (List.tail (List.take 2 (List.getD (byOf b) x.toNat []))) 0) q) fun z =>
    br (inB x 32) (br (inB (sd x) 2) (ob (set_With (List.headD (List.take 2 (List.getD (sidesOf b) (sd x).toNat [])) 0) (List.headD (List.tail (List.take 2 (List.getD (sidesOf b) (sd x).toNat []))) 0) q) fun y =>
     br (inB (sd x) 2) (some (List.set b q.toNat x, h, s, List.set (byOf b) x.toNat (z.1 :: z.2 :: List.drop 2 (List.getD (byOf b) x.toNat [])), List.set (sidesOf b) (sd x).toNat (y.1 :: y.2 :: List.drop 2 (List.getD (sidesOf b) (sd x).toNat [])))) none) none) none) none)
    (some (List.set b q.toNat x, h, s, byOf b, sidesOf b))) none)) =
   some (b.set q.toNat (if kd x = 0 then 0 else x), h, s, byOf (b.set q.toNat (if kd x = 0 then 0 else x)), sidesOf (b.set q.toNat (if kd x = 0 then 0 else x))) := by
  intro b hql hz
  by_cases hk : kd x = 0
  ·rw [br_true (by simpa using hk), br_true hq81, if_pos hk]
   have : b.set q.toNat 0 = b := by
    apply List.ext_getElem
    ·rw [List.length_set]
    ·intro i i1 i2
     rw [List.getElem_set]
     split
     ·rename_i hi
      rw [List.getD_eq_getElem?_getD, List.getElem?_eq_getElem hql] at hz
      subst hi
      exact hz.symm
     ·rfl
   rw [this]
  ·have hx := kd_range hk
   have hsd := sd_range hk
   have hs : inB (sd x) 2 = true := by rcases hsd with h | h <;> rw [h] <;> rfl
   rw [br_false (by simpa using hk), br_true hq81, br_true (by simp; omega), br_true (inB_true (by omega) (by omega)), if_neg hk, by_get b (by omega) (by omega),
    prS_hd, prS_tl, with_val, ob_some]
   simp only
   rw [br_true (inB_true (by omega) (by omega)), br_true hs, sides_get b (by omega) (by omega), prS_hd, prS_tl, with_val, ob_some]
   simp only
   rw [br_true hs, prS_mk, prS_mk, by_with (by omega) hql hz hx.1, sides_with (by omega) hql hz hsd]
 by_cases hz : b.getD q.toNat 0 = 0
 ·rw [br_false (by simpa using hz)]
  exact key b hql hz
 ·have hkb := hb.resolve_left hz
  have hxb := kd_range hkb
  have hsdb := sd_range hkb
  have hsb : inB (sd (b.getD q.toNat 0)) 2 = true := by rcases sd_range hkb with h | h <;> rw [h] <;> rfl
  have hb32 : inB (b.getD q.toNat 0) 32 = true := inB_true (by omega) (by omega)
  rw [br_true (by simpa using hz), br_true hb32, by_get b (by omega) (by omega), prS_hd, prS_tl, without_val, ob_some]
  simp only
  rw [br_true hb32, br_true hsb, sides_get b (by omega) (by omega), prS_hd, prS_tl, without_val, ob_some]
  simp only
  rw [br_true hsb, prS_mk, prS_mk, by_without (by omega) hql rfl hxb.1, sides_without (by omega) hql rfl hsdb]
  have := key (b.set q.toNat 0) (by simpa using hql) (by rw [getD_set hql, if_pos rfl])
  rw [List.set_set] at this
  simp only [List.set_set] at this
  exact this
def cl1 (x : Int) : Int := if kd x = 0 then 0 else x
def cl (b : List Int) : List Int := b.map cl1
theorem cl_getD (b : List Int) (i : Nat) : (cl b).getD i 0 = cl1 (b.getD i 0) := by
 unfold cl
 rw [List.getD_eq_getElem?_getD, List.getElem?_map, List.getD_eq_getElem?_getD]
 cases b[i]? <;> rfl
theorem cl_len (b : List Int) : (cl b).length = b.length := by simp [cl]
theorem cl_id {b : List Int} (hc : Clean b) : cl b = b := by
 apply List.ext_getElem
 ·exact cl_len b
 ·intro i h1 h2
  have := hc.ok i (by rw [← hc.len]; exact h2)
  rw [List.getD_eq_getElem?_getD, List.getElem?_eq_getElem h2] at this
  simp only [Option.getD_some] at this
  simp only [cl, List.getElem_map, cl1]
  split
  ·rename_i hk
   rcases this with h | h
   ·exact h.symm
   ·exact absurd hk h
  ·rfl
theorem new_goes_full {b : List Int} (hl : b.length = 81) (h : List Int) (s : Int) : ∀ (n i : Nat), i + n = 81 → ∀ (B : List Int), Clean B → (∀ j, j < i → B.getD j 0 = cl1 (b.getD j 0)) →
  ∀ f, board_Newl4 (f + n + 1) b i B h s (byOf B) (sidesOf B) = some (cl b, h, s, byOf (cl b), sidesOf (cl b)) := by
 intro n
 induction n with
 | zero =>
   intro i hi B hB hj f
   have : B = cl b := by
    apply List.ext_getElem
    ·rw [hB.len, cl_len, hl]
    ·intro j h1 h2
     have := hj j (by rw [hB.len] at h1; omega)
     rw [← cl_getD, List.getD_eq_getElem?_getD, List.getElem?_eq_getElem h1, List.getD_eq_getElem?_getD, List.getElem?_eq_getElem h2] at this
     exact this
   subst this
   show board_Newl4s (board_Newl4 (f + 0)) _ _ _ _ _ _ _ = _
   unfold board_Newl4s
   rw [br_false (by simp; omega)]
 | succ n ih =>
   intro i hi B hB hj f
   show board_Newl4s (board_Newl4 (f + n + 1)) _ _ _ _ _ _ _ = _
   unfold board_Newl4s
   rw [br_true (by simp; omega), br_true (inB_true (by omega) (by omega))]
   simp only [cond_true]
   rw [put_full hB, ob_some]
   simp only
   rw [wrap_small (by omega) (by omega)]
   refine ih (i + 1) (by omega) _ (hB.put _ _) (fun j hj' => ?_) f
   unfold put
   rw [if_pos (by omega), getD_set (by rw [hB.len]; omega)]
   by_cases hji : j = i
   ·subst hji
    rw [if_pos (by simp)]
    rfl
   ·rw [if_neg (by simp; exact hji), hj j (by omega)]
theorem clean_zero' : Clean (List.replicate 81 0) := ⟨by simp, fun i hi => .inl (by rw [List.getD_eq_getElem?_getD, List.getElem?_replicate, if_pos hi]; rfl)⟩
theorem byOf_zero : byOf (List.replicate 81 0) = List.replicate 32 [0, 0] := by decide +kernel
theorem sidesOf_zero : sidesOf (List.replicate 81 0) = [[0, 0], [0, 0]] := by decide +kernel
theorem new_full {b : List Int} (hl : b.length = 81) (h : List Int) (s : Int) : board_New b h s = some (cl b, h, s, byOf (cl b), sidesOf (cl b)) := by
 have hz := new_goes_full hl h s 81 0 (by omega) _ clean_zero' (fun j hj => absurd hj (by omega))
 obtain ⟨g, hg⟩ := many_eq 81 (by omega)
 have := hz g
 rw [← hg, byOf_zero, sidesOf_zero] at this
 unfold board_New
 show ob (board_Newl4 many b 0 (List.replicate 81 0) h s (List.replicate 32 [0, 0]) [[0, 0], [0, 0]]) _ = _
 rw [show board_Newl4 many b 0 (List.replicate 81 0) h s (List.replicate 32 [0, 0]) [[0, 0], [0, 0]] = _ from this, ob_some]
end Go.Kk.Pl
namespace Go.Kk.Pl
section
variable {α : Type} {x y : α}
theorem b_lt {a b : Int} (h : a < b) : br (decide (a < b)) x y = x := br_true (by simpa using h)
theorem b_nlt {a b : Int} (h : ¬ a < b) : br (decide (a < b)) x y = y := br_false (by simpa using h)
theorem b_gt {a b : Int} (h : a > b) : br (decide (a > b)) x y = x := br_true (by simpa using h)
theorem b_ngt {a b : Int} (h : ¬ a > b) : br (decide (a > b)) x y = y := br_false (by simpa using h)
theorem b_nge {a b : Int} (h : ¬ a ≥ b) : br (decide (a ≥ b)) x y = y := br_false (by simpa using h)
theorem b_eq {a b : Int} (h : a = b) : br (a == b) x y = x := br_true (by simpa using h)
theorem b_neq {a b : Int} (h : ¬ a = b) : br (a == b) x y = y := br_false (by simpa using h)
theorem b_ne {a b : Int} (h : ¬ a = b) : br (a != b) x y = x := br_true (by simpa using h)
theorem b_nne {a b : Int} (h : a = b) : br (a != b) x y = y := br_false (by simpa using h)
theorem b_in {a : Int} {n : Nat} (h0 : 0 ≤ a) (h1 : a < n) : br (inB a n) x y = x := br_true (inB_true h0 h1)
theorem b_t : br true x y = x := rfl
theorem b_f : br false x y = y := rfl
end
theorem w_s {n : Int} (h1 : -1000000000 ≤ n) (h2 : n ≤ 1000000000) : IntKind.wrap .i64 n = n := wrap_small h1 h2
theorem c_8 (n : Int) : conv IntKind.i8 IntKind.i64 n = n := rfl
theorem tn (n : Nat) : Int.toNat (n : Int) = n := rfl
theorem any_cons (p : Nat → Bool) (i n : Nat) : (List.range' i (n + 1)).any p = (p i || (List.range' (i + 1) n).any p) := by rw [List.range'_succ]; rfl
theorem at_i {b : List Int} {i : Nat} (h : i < b.length) : b.getD i 0 = b[i] := by rw [List.getD_eq_getElem?_getD, List.getElem?_eq_getElem h]; rfl
end Go.Kk.Pl
namespace Go.Kk.Pl
def rw_ (x : Int) : Int := if x < 1 ∨ 15 < x ∨ x = 13 then 0 else if 8 < x then x - 8 else x
theorem refRaw_val (x : Int) : ref02_Raw x = some (rw_ x) := by
 unfold ref02_Raw rw_
 by_cases h1 : x < 1
 ·rw [br_true (by simpa using h1), if_pos (by omega)]
 rw [br_false (by simpa using h1)]
 by_cases h2 : 15 < x
 ·rw [br_true (by simpa using h2), if_pos (by omega)]
 rw [br_false (by simpa using h2)]
 by_cases h3 : x = 13
 ·rw [br_true (by simpa using h3), if_pos (by omega)]
 rw [br_false (by simpa using h3), if_neg (by omega)]
 by_cases h4 : 8 < x
 ·rw [br_true (by simpa using h4), if_pos h4, wrap_small (by omega) (by omega)]
 ·rw [br_false (by simpa using h4), if_neg h4]
def cnt (l : List Int) (k : Int) : Nat := l.countP fun x => rw_ (kd x) == k
theorem count_goes (b h : List Int) (s k : Int) (hl : b.length = 81) : ∀ (n i : Nat), i + n = 81 → ∀ acc : Int, 0 ≤ acc → acc ≤ i → ∀ f,
  ref05_Countl3 (f + n + 1) k acc i b h s = some (k, acc + cnt (b.drop i) k, b, h, s) := by
 intro n
 induction n with
 | zero =>
   intro i hi acc _ _ f
   show ref05_Countl3s (ref05_Countl3 (f + 0)) _ _ _ _ _ _ = _
   unfold ref05_Countl3s
   rw [br_false (by simp; omega), List.drop_eq_nil_of_le (by omega)]
   simp [cnt]
 | succ n ih =>
   intro i hi acc ha0 ha1 f
   show ref05_Countl3s (ref05_Countl3 (f + n + 1)) _ _ _ _ _ _ = _
   unfold ref05_Countl3s
   have hz : Int.toNat (i : Int) = i := by simp
   rw [br_true (by simp; omega), br_true (inB_true (by omega) (by omega)), hz, wrap_small (by omega) (by omega), wrap_small (by omega) (by omega)]
   show ob (ref02_Kind (List.getD b i 0)) _ = _
   rw [refKind_val, ob_some, refRaw_val, ob_some]
   have hd : b.drop i = b.getD i 0 :: b.drop (i + 1) := by
    rw [List.drop_eq_getElem_cons (by omega), List.getD_eq_getElem?_getD, List.getElem?_eq_getElem (by omega)]
    rfl
   rw [hd]
   unfold cnt
   rw [List.countP_cons]
   cases hb : rw_ (kd (b.getD i 0)) == k with
   | true =>
     rw [br_true rfl]
     refine (ih (i + 1) (by omega) (acc + 1) (by omega) (by omega) f).trans ?_
     simp [cnt]; omega
   | false =>
     rw [br_false rfl]
     refine (ih (i + 1) (by omega) acc (by omega) (by omega) f).trans ?_
     simp [cnt]
def hd_ (h : List Int) (s k : Int) : Int := h.getD (s.toNat * 8 + k.toNat) 0
def Fits8 (h : List Int) : Prop := ∀ i, -128 ≤ h.getD i 0 ∧ h.getD i 0 ≤ 127
theorem cnt_le {b : List Int} (hl : b.length = 81) (k : Int) : cnt b k ≤ 81 := by rw [← hl]; exact List.countP_le_length
theorem count_val {b h : List Int} (hl : b.length = 81) (hf : Fits8 h) (s k : Int) (h0 : 0 ≤ k) (h1 : k < 8) : ref05_Count b h s k = some (cnt b k + hd_ h 0 k + hd_ h 1 k) := by
 obtain ⟨g, hg⟩ := many_eq 81 (by omega)
 have hc := count_goes b h s k hl 81 0 (by omega) 0 (by omega) (by omega) g
 rw [← hg] at hc
 have hc : ref05_Countl3 many k 0 0 b h s = some (k, (0 : Int) + (cnt b k : Int), b, h, s) := hc
 unfold ref05_Count
 rw [hc, ob_some]
 simp only
 rw [br_true (inB_true h0 (by omega)), br_true (inB_true h0 (by omega))]
 have e1 := hf (0 + k.toNat)
 have e2 := hf (8 + k.toNat)
 have e3 := cnt_le hl k
 have c1 : conv .i8 .i64 (List.getD h (0 + k.toNat) 0) = List.getD h (0 + k.toNat) 0 := rfl
 have c2 : conv .i8 .i64 (List.getD h (8 + k.toNat) 0) = List.getD h (8 + k.toNat) 0 := rfl
 rw [c1, c2, wrap_small (n := 0 + (cnt b k : Int) + _) (by omega) (by omega), wrap_small (by omega) (by omega)]
 unfold hd_
 simp
end Go.Kk.Pl
namespace Go.Kk.Pl
structure Sound (b h : List Int) (s : Int) : Prop where
 clean : Clean b
 side : s = 0 ∨ s = 1
 hands : ∀ k, 0 ≤ k → k < 8 → 0 ≤ hd_ h 0 k ∧ 0 ≤ hd_ h 1 k
 counts : ∀ k, 1 ≤ k → k < 8 → cnt b k + hd_ h 0 k + hd_ h 1 k ≤ 18
end Go.Kk.Pl
namespace Go.Kk.Pl
def farS (s : Int) (q : Nat) : Int := if s = 0 then ((q % 9 : Nat) : Int) else if s = 1 then 8 - ((q % 9 : Nat) : Int) else -1
def deadS (x : Int) (q : Nat) : Bool := decide (((kd x = 1 ∨ kd x = 2) ∧ farS (sd x) q = 0) ∨ (kd x = 3 ∧ (farS (sd x) q = 0 ∨ farS (sd x) q = 1)))
def bsP (b : List Int) (i : Nat) : Bool := decide (b.getD i 0 ≠ 0 ∧ kd (b.getD i 0) = 0)
def bsH (h : List Int) (k s : Nat) : Bool := decide (h.getD (s * 8 + k) 0 < 0 ∨ (k = 0 ∧ h.getD (s * 8 + k) 0 ≠ 0))
def nP (b : List Int) (x : Int) : Nat := (List.range 81).countP fun i => b.getD i 0 == x
def nF (b : List Int) (x : Int) (f : Nat) : Nat := (List.range 9).countP fun r => b.getD (9 * f + r) 0 == x
def totS (k : Int) : Int := if k = 1 then 18 else if k = 2 ∨ k = 3 ∨ k = 4 ∨ k = 5 then 4 else if k = 6 ∨ k = 7 ∨ k = 8 then 2 else 0
def overS (b h : List Int) (k : Nat) : Bool := decide (totS k < cnt b k + hd_ h 0 k + hd_ h 1 k)
def nifuS (b : List Int) (f : Nat) : Bool := decide (1 < nF b 1 f) || decide (1 < nF b 17 f)
def chkS (b h : List Int) (s : Int) : Int :=
 if ¬ (s = 0 ∨ s = 1) then 1
 else if (List.range' 0 81).any (bsP b) then 55
 else if (List.range' 0 8).any (fun k => (List.range' 0 2).any (bsH h k)) then 55
 else if ¬ (nP b 8 = 1 ∧ nP b 24 = 1) then 50
 else if (List.range' 1 7).any (overS b h) then 51
 else if (List.range' 0 81).any (fun i => deadS (b.getD i 0) i) then 52
 else if (List.range' 0 9).any (nifuS b) then 53
 else 0
theorem refSide_val (x : Int) : ref02_Side x = some (sd x) := by
 unfold ref02_Side
 rw [refKind_val, ob_some]
 unfold sd
 by_cases h : kd x = 0
 ·rw [b_eq h, if_pos h]
 ·obtain ⟨h1, h2⟩ := kd_range h
  rw [b_neq h, if_neg h]
  by_cases h3 : x < 16
  ·rw [if_pos h3, Int.tdiv_eq_ediv_of_nonneg (by omega)]
   congr 1
   rw [w_s (by omega) (by omega)]
   omega
  ·rw [if_neg h3, Int.tdiv_eq_ediv_of_nonneg (by omega)]
   congr 1
   rw [w_s (by omega) (by omega)]
   omega
theorem tmod9 (q : Nat) : Int.tmod (q : Int) 9 = ((q % 9 : Nat) : Int) := by
 rw [Int.tmod_eq_emod_of_nonneg (by omega)]; omega
theorem refFar_val {s : Int} (hs : s = -1 ∨ s = 0 ∨ s = 1) {q : Nat} (hq : q < 81) : ref03_Far s q = some (farS s q) := by
 unfold ref03_Far farS
 rcases hs with rfl | rfl | rfl
 ·simp (disch := omega) only [b_nlt, b_lt]
  simp
 ·simp (disch := omega) only [b_nlt, b_eq, tmod9]
  simp
 ·simp (disch := omega) only [b_nlt, b_neq, tmod9, w_s]
  simp
theorem sd_cases (x : Int) : sd x = -1 ∨ sd x = 0 ∨ sd x = 1 := by
 unfold sd
 split
 ·exact .inl rfl
 ·split
  ·exact .inr (.inl rfl)
  ·exact .inr (.inr rfl)
theorem refDead_val (x : Int) {q : Nat} (hq : q < 81) : ref03_Dead x q = some (deadS x q) := by
 unfold ref03_Dead
 rw [refSide_val, ob_some, refFar_val (sd_cases x) hq, ob_some, refKind_val, ob_some]
 unfold deadS
 generalize kd x = k
 generalize farS (sd x) q = n
 simp only [br_if, beq_iff_eq]
 repeat' split
 all_goals first
  | (rw [Option.some.injEq, Bool.eq_iff_iff]; simp; omega)
  | (simp; omega)
theorem chk4_val (b h : List Int) (s : Int) : ∀ (n i : Nat), i + n = 81 → ∀ f, ref05_Checkl4 (f + n + 1) i b h s = some (if (List.range' i n).any (bsP b) then .inl (55, b, h, s) else .inr (b, h, s)) := by
 intro n
 induction n with
 | zero =>
   intro i hi f
   show ref05_Checkl4s (ref05_Checkl4 (f + 0)) _ _ _ _ = _
   unfold ref05_Checkl4s
   rw [b_nlt (by omega)]
   rfl
 | succ n ih =>
   intro i hi f
   show ref05_Checkl4s (ref05_Checkl4 (f + n + 1)) _ _ _ _ = _
   unfold ref05_Checkl4s
   simp (disch := omega) only [b_lt, b_in, c_8, tn, refKind_val, ob_some, w_s, any_cons]
   have := ih (i + 1) (by omega) f
   by_cases h0 : b.getD i 0 = 0
   ·rw [b_nne h0, show bsP b i = false by unfold bsP; simp only [h0]; rfl, Bool.false_or]
    exact this
   ·rw [b_ne h0]
    by_cases hk : kd (b.getD i 0) = 0
    ·rw [b_eq hk, show bsP b i = true by unfold bsP; simp only [hk, decide_eq_true_eq]; exact ⟨h0, trivial⟩]
     rfl
    ·rw [b_neq hk, show bsP b i = false by unfold bsP; rw [decide_eq_false_iff_not]; omega, Bool.false_or]
     exact this
theorem chk12_val (b h : List Int) (s : Int) (k : Nat) (hk : k < 8) : ∀ (n i : Nat), i + n = 2 → ∀ f, ref05_Checkl12 (f + n + 1) k i b h s = some (if (List.range' i n).any (bsH h k) then .inl (55, k, b, h, s) else .inr (k, b, h, s)) := by
 intro n
 induction n with
 | zero =>
   intro i hi f
   show ref05_Checkl12s (ref05_Checkl12 (f + 0)) _ _ _ _ _ = _
   unfold ref05_Checkl12s
   rw [b_nlt (by omega)]
   rfl
 | succ n ih =>
   intro i hi f
   show ref05_Checkl12s (ref05_Checkl12 (f + n + 1)) _ _ _ _ _ = _
   unfold ref05_Checkl12s
   simp (disch := omega) only [b_lt, b_in, tn, w_s, any_cons]
   have := ih (i + 1) (by omega) f
   by_cases h0 : h.getD (i * 8 + k) 0 < 0
   ·rw [br_true (by simpa using h0), show bsH h k i = true by unfold bsH; simp only [h0, true_or, decide_true]]
    rfl
   ·rw [br_false (by simpa using h0)]
    by_cases hk0 : k = 0
    ·rw [b_eq (by omega)]
     by_cases h1 : h.getD (i * 8 + k) 0 = 0
     ·rw [b_nne h1, show bsH h k i = false by unfold bsH; rw [h1]; simp, Bool.false_or]
      exact this
     ·rw [b_ne h1, show bsH h k i = true by unfold bsH; simp only [decide_eq_true_eq]; exact .inr ⟨hk0, h1⟩]
      rfl
    ·rw [b_neq (by omega), show bsH h k i = false by unfold bsH; rw [decide_eq_false_iff_not]; omega, Bool.false_or]
     exact this
theorem chk9_val (b h : List Int) (s : Int) : ∀ (n i : Nat), i + n = 8 → ∀ f, ref05_Checkl9 (f + n + 1) i b h s = some (if (List.range' i n).any (fun k => (List.range' 0 2).any (bsH h k)) then .inl (55, b, h, s) else .inr (b, h, s)) := by
 intro n
 induction n with
 | zero =>
   intro i hi f
   show ref05_Checkl9s (ref05_Checkl9 (f + 0)) _ _ _ _ = _
   unfold ref05_Checkl9s
   rw [b_nlt (by omega)]
   rfl
 | succ n ih =>
   intro i hi f
   show ref05_Checkl9s (ref05_Checkl9 (f + n + 1)) _ _ _ _ = _
   unfold ref05_Checkl9s
   obtain ⟨g, hg⟩ := many_eq 2 (by omega)
   have h12 := chk12_val b h s i (by omega) 2 0 (by omega) g
   rw [← hg] at h12
   have h12 : ref05_Checkl12 many i 0 b h s = _ := h12
   rw [b_lt (by omega), h12, ob_some, any_cons (fun k => (List.range' 0 2).any (bsH h k)) i n]
   have := ih (i + 1) (by omega) f
   cases hb : (List.range' 0 2).any (bsH h i) with
   | true => rfl
   | false =>
     rw [Bool.false_or, if_neg (by decide), sw_inr]
     simp only
     rw [w_s (by omega) (by omega)]
     exact this
theorem refTotal_val : ∀ k : Fin 9, ref02_Total ((k.val : Nat) : Int) = some (totS ((k.val : Nat) : Int)) := by decide +kernel
theorem chk20_val {b h : List Int} (hl : b.length = 81) (hf : Fits8 h) (s : Int) : ∀ (n i : Nat), i + n = 8 → 1 ≤ i → ∀ f, ref05_Checkl20 (f + n + 1) i b h s = some (if (List.range' i n).any (overS b h) then .inl (51, b, h, s) else .inr (b, h, s)) := by
 intro n
 induction n with
 | zero =>
   intro i hi _ f
   show ref05_Checkl20s (ref05_Checkl20 (f + 0)) _ _ _ _ = _
   unfold ref05_Checkl20s
   rw [b_nlt (by omega)]
   rfl
 | succ n ih =>
   intro i hi h1 f
   show ref05_Checkl20s (ref05_Checkl20 (f + n + 1)) _ _ _ _ = _
   unfold ref05_Checkl20s
   have ht := refTotal_val ⟨i, by omega⟩
   simp only at ht
   rw [b_lt (by omega), count_val hl hf s i (by omega) (by omega), ob_some, ht, ob_some, any_cons, w_s (by omega) (by omega)]
   have := ih (i + 1) (by omega) (by omega) f
   by_cases ho : totS i < cnt b i + hd_ h 0 i + hd_ h 1 i
   ·rw [b_gt ho, show overS b h i = true by unfold overS; simpa using ho]
    rfl
   ·rw [b_ngt ho, show overS b h i = false by unfold overS; simpa using ho, Bool.false_or]
    exact this
theorem chk25_val (b h : List Int) (s : Int) : ∀ (n i : Nat), i + n = 81 → ∀ f, ref05_Checkl25 (f + n + 1) i b h s = some (if (List.range' i n).any (fun i => deadS (b.getD i 0) i) then .inl (52, b, h, s) else .inr (b, h, s)) := by
 intro n
 induction n with
 | zero =>
   intro i hi f
   show ref05_Checkl25s (ref05_Checkl25 (f + 0)) _ _ _ _ = _
   unfold ref05_Checkl25s
   rw [b_nlt (by omega)]
   rfl
 | succ n ih =>
   intro i hi f
   show ref05_Checkl25s (ref05_Checkl25 (f + n + 1)) _ _ _ _ = _
   unfold ref05_Checkl25s
   have := ih (i + 1) (by omega) f
   rw [b_lt (by omega), b_in (by omega) (by omega), tn, c_8, refDead_val _ (by omega), ob_some, any_cons, w_s (by omega) (by omega)]
   cases hb : deadS (b.getD i 0) i with
   | true => rfl
   | false =>
     rw [b_f, Bool.false_or]
     exact this
theorem countP_cons' (p : Nat → Bool) (i n : Nat) : (List.range' i (n + 1)).countP p = (if p i then 1 else 0) + (List.range' (i + 1) n).countP p := by
 rw [List.range'_succ, List.countP_cons]; omega
theorem onF_val (b h : List Int) (s x : Int) (q : Nat) (hq : q < 9) : ∀ (n i : Nat), i + n = 9 → ∀ acc : Nat, acc ≤ i → ∀ f,
  ref05_Onl3 (f + n + 1) x q acc i b h s = some (((acc + (List.range' i n).countP fun r => b.getD (9 * q + r) 0 == x : Nat) : Int)) := by
 intro n
 induction n with
 | zero =>
   intro i hi acc _ f
   show ref05_Onl3s (ref05_Onl3 (f + 0)) _ _ _ _ _ _ _ = _
   unfold ref05_Onl3s
   rw [b_nlt (by omega)]
   rfl
 | succ n ih =>
   intro i hi acc ha f
   show ref05_Onl3s (ref05_Onl3 (f + n + 1)) _ _ _ _ _ _ _ = _
   unfold ref05_Onl3s
   simp (disch := omega) only [b_lt, b_in, w_s, c_8]
   have h1 := ih (i + 1) (by omega) acc (by omega) f
   have h2 := ih (i + 1) (by omega) (acc + 1) (by omega) f
   have ht : (9 * (q : Int) + (i : Int)).toNat = 9 * q + i := by omega
   rw [ht, countP_cons']
   cases hb : b.getD (9 * q + i) 0 == x with
   | true =>
     rw [b_t, if_pos rfl]
     refine h2.trans ?_
     congr 2; omega
   | false =>
     rw [b_f, if_neg (by simp)]
     refine h1.trans ?_
     congr 2; omega
theorem on_val (b h : List Int) (s x : Int) (q : Nat) (hq : q < 9) : ref05_On b h s x q = some ((nF b x q : Nat) : Int) := by
 obtain ⟨g, hg⟩ := many_eq 9 (by omega)
 have := onF_val b h s x q hq 9 0 (by omega) 0 (by omega) g
 rw [← hg] at this
 unfold ref05_On
 rw [show ref05_Onl3 many x q 0 0 b h s = _ from this, ob_some, Nat.zero_add]
 unfold nF
 rw [List.range_eq_range']
theorem nF_le (b : List Int) (x : Int) (q : Nat) : nF b x q ≤ 9 := Nat.le_trans List.countP_le_length (by simp)
theorem allF_val (b h : List Int) (s x : Int) : ∀ (n i : Nat), i + n = 9 → ∀ acc : Nat, acc ≤ 9 * i → ∀ f,
  ref05_alll3 (f + n + 1) x acc i b h s = some (((acc + ((List.range' i n).map (nF b x)).sum : Nat) : Int)) := by
 intro n
 induction n with
 | zero =>
   intro i hi acc _ f
   show ref05_alll3s (ref05_alll3 (f + 0)) _ _ _ _ _ _ = _
   unfold ref05_alll3s
   rw [b_nlt (by omega)]
   rfl
 | succ n ih =>
   intro i hi acc ha f
   show ref05_alll3s (ref05_alll3 (f + n + 1)) _ _ _ _ _ _ = _
   unfold ref05_alll3s
   have hle := nF_le b x i
   rw [b_lt (by omega), on_val b h s x i (by omega), ob_some, w_s (by omega) (by omega), w_s (by omega) (by omega)]
   have h2 := ih (i + 1) (by omega) (acc + nF b x i) (by omega) f
   rw [List.range'_succ, List.map_cons, List.sum_cons]
   rw [Int.natCast_add] at h2
   refine Eq.trans h2 ?_
   congr 2; omega
theorem range81_files : List.range 81 = (List.range' 0 9).flatMap fun f => (List.range 9).map (9 * f + ·) := by decide +kernel
theorem nP_files (b : List Int) (x : Int) : nP b x = ((List.range' 0 9).map (nF b x)).sum := by
 unfold nP
 rw [range81_files, List.countP_flatMap]
 congr 1
theorem all_val (b h : List Int) (s x : Int) : ref05_all b h s x = some ((nP b x : Nat) : Int) := by
 obtain ⟨g, hg⟩ := many_eq 9 (by omega)
 have := allF_val b h s x 9 0 (by omega) 0 (by omega) g
 rw [← hg, Nat.zero_add, ← nP_files] at this
 unfold ref05_all
 rw [show ref05_alll3 many x 0 0 b h s = _ from this, ob_some]
theorem chk30_val (b h : List Int) (s : Int) : ∀ (n i : Nat), i + n = 9 → ∀ f, ref05_Checkl30 (f + n + 1) i b h s = some (if (List.range' i n).any (nifuS b) then .inl 53 else .inr ()) := by
 intro n
 induction n with
 | zero =>
   intro i hi f
   show ref05_Checkl30s (ref05_Checkl30 (f + 0)) _ _ _ _ = _
   unfold ref05_Checkl30s
   rw [b_nlt (by omega)]
   rfl
 | succ n ih =>
   intro i hi f
   show ref05_Checkl30s (ref05_Checkl30 (f + n + 1)) _ _ _ _ = _
   unfold ref05_Checkl30s
   have := ih (i + 1) (by omega) f
   rw [b_lt (by omega), on_val b h s 1 i (by omega), ob_some, on_val b h s 17 i (by omega), ob_some, any_cons, w_s (by omega) (by omega)]
   by_cases h1 : 1 < nF b 1 i
   ·rw [b_gt (by omega), show nifuS b i = true by unfold nifuS; simp [h1]]
    rfl
   ·rw [b_ngt (by omega)]
    by_cases h2 : 1 < nF b 17 i
    ·rw [b_gt (by omega), show nifuS b i = true by unfold nifuS; simp [h2]]
     rfl
    ·rw [b_ngt (by omega), show nifuS b i = false by unfold nifuS; simp [h1, h2], Bool.false_or]
     exact this
theorem refCheck_val {b h : List Int} (hl : b.length = 81) (hf : Fits8 h) (s : Int) : ref05_Check b h s = some (chkS b h s) := by
 obtain ⟨g81, hg81⟩ := many_eq 81 (by omega)
 obtain ⟨g8, hg8⟩ := many_eq 8 (by omega)
 obtain ⟨g7, hg7⟩ := many_eq 7 (by omega)
 obtain ⟨g9, hg9⟩ := many_eq 9 (by omega)
 have c4 := chk4_val b h s 81 0 (by omega) g81
 rw [← hg81] at c4
 have c9 := chk9_val b h s 8 0 (by omega) g8
 rw [← hg8] at c9
 have c20 := chk20_val hl hf s 7 1 (by omega) (by omega) g7
 rw [← hg7] at c20
 have c25 := chk25_val b h s 81 0 (by omega) g81
 rw [← hg81] at c25
 have c30 := chk30_val b h s 9 0 (by omega) g9
 rw [← hg9] at c30
 have main : (ob (ref05_Checkl4 many 0 b h s) fun t3_2 =>
    sw t3_2 (fun (a3_0, _, _, _) => some (a3_0))
     (fun (a3_0, a3_1, a3_2) =>
     ob (ref05_Checkl9 many 0 a3_0 a3_1 a3_2) fun t6_2 =>
     sw t6_2 (fun (a6_0, _, _, _) =>
      some (a6_0))
      (fun (a6_0, a6_1, a6_2) =>
      ob (ref05_all a6_0 a6_1 a6_2 8) fun a9 =>
      br (a9 != 1)
       (some (50))
       (ob (ref05_all a6_0 a6_1 a6_2 24) fun a10 =>
       br (a10 != 1)
        (some (50))
        (ob (ref05_Checkl20 many 1 a6_0 a6_1 a6_2) fun t11_2 =>
        sw t11_2 (fun (a11_0, _, _, _) =>
         some (a11_0))
         (fun (a11_0, a11_1, a11_2) =>
         ob (ref05_Checkl25 many 0 a11_0 a11_1 a11_2) fun t14_2 =>
         sw t14_2 (fun (a14_0, _, _, _) =>
          some (a14_0))
          (fun (a14_0, a14_1, a14_2) =>
          ob (ref05_Checkl30 many 0 a14_0 a14_1 a14_2) fun t17_2 =>
          sw t17_2 (fun a17 =>
           some (a17))
           (fun _ =>
           some (0)))))))) : Option Int) =
   some (if (List.range' 0 81).any (bsP b) then 55
    else if (List.range' 0 8).any (fun k => (List.range' 0 2).any (bsH h k)) then 55
    else if ¬ (nP b 8 = 1 ∧ nP b 24 = 1) then 50
    else if (List.range' 1 7).any (overS b h) then 51
    else if (List.range' 0 81).any (fun i => deadS (b.getD i 0) i) then 52
    else if (List.range' 0 9).any (nifuS b) then 53
    else 0) := by
  rw [show ref05_Checkl4 many 0 b h s = _ from c4, ob_some]
  split
  ·rfl
  rw [sw_inr]
  simp only
  rw [show ref05_Checkl9 many 0 b h s = _ from c9, ob_some]
  split
  ·rfl
  rw [sw_inr]
  simp only
  rw [all_val, ob_some, all_val, ob_some]
  by_cases h8 : nP b 8 = 1
  ·rw [b_nne (by omega)]
   by_cases h24 : nP b 24 = 1
   ·rw [b_nne (by omega), if_neg (by simp [h8, h24]), show ref05_Checkl20 many 1 b h s = _ from c20, ob_some]
    split
    ·rfl
    rw [sw_inr]
    simp only
    rw [show ref05_Checkl25 many 0 b h s = _ from c25, ob_some]
    split
    ·rfl
    rw [sw_inr]
    simp only
    rw [show ref05_Checkl30 many 0 b h s = _ from c30, ob_some]
    split
    ·rfl
    ·rfl
   ·rw [b_ne (by omega), if_pos (by simp [h24])]
  ·rw [b_ne (by omega), if_pos (by simp [h8])]
 unfold ref05_Check chkS
 by_cases h0 : s = 0
 ·rw [b_nne h0, if_neg (by simp [h0])]
  exact main
 ·rw [b_ne h0]
  by_cases h1 : s = 1
  ·rw [b_nne h1, if_neg (by simp [h1])]
   exact main
  ·rw [b_ne h1, if_pos (by simp [h0, h1])]
end Go.Kk.Pl
namespace Go.Kk.Pl
def up_ (k : Int) : Int := if k = 1 ∨ k = 2 ∨ k = 3 ∨ k = 4 ∨ k = 6 ∨ k = 7 then k + 8 else 0
theorem of_all0 : ∀ n : Fin 16, piece_Of 0 ((n.val : Nat) : Int) = some (if n.val = 0 ∨ n.val = 13 then 0 else (n.val : Int)) := by decide +kernel
theorem of_all1 : ∀ n : Fin 16, piece_Of 1 ((n.val : Nat) : Int) = some (if n.val = 0 ∨ n.val = 13 then 0 else 16 + (n.val : Int)) := by decide +kernel
theorem raw_all : ∀ n : Fin 16, piece_Raw ((n.val : Nat) : Int) = some (rw_ ((n.val : Nat) : Int)) := by decide +kernel
theorem fin16 {x : Int} (h0 : 0 ≤ x) (h1 : x ≤ 15) : ∃ n : Fin 16, x = ((n.val : Nat) : Int) := ⟨⟨x.toNat, by omega⟩, by simp; omega⟩
theorem of_val {s k : Int} (hs : s = 0 ∨ s = 1) (h1 : 1 ≤ k) (h2 : k ≤ 15) (h3 : k ≠ 13) : piece_Of s k = some (16 * s + k) := by
 obtain ⟨n, rfl⟩ := fin16 (by omega) h2
 rcases hs with rfl | rfl
 ·rw [of_all0, if_neg (by omega)]; simp
 ·rw [of_all1, if_neg (by omega)]; simp
theorem kd_bounds (x : Int) : 0 ≤ kd x ∧ kd x ≤ 15 ∧ kd x ≠ 13 := by
 unfold kd
 split <;> omega
theorem raw_val {k : Int} (h0 : 0 ≤ k) (h1 : k ≤ 15) : piece_Raw k = some (rw_ k) := by
 obtain ⟨n, rfl⟩ := fin16 h0 h1
 exact raw_all n
structure CanP (b h : List Int) (s f t d : Int) (p : Bool) : Prop where
 to_ : 0 ≤ t ∧ t < 81
 drop : d ≠ 0 → 0 < d ∧ d < 8 ∧ f = 0 ∧ p = false ∧ hd_ h s d > 0 ∧ at_ b t = 0
 move : d = 0 → 0 ≤ f ∧ f < 81 ∧ f ≠ t ∧ sd (at_ b f) = s ∧ sd (at_ b t) ≠ s ∧ kd (at_ b t) ≠ 8 ∧ (p = true → up_ (kd (at_ b f)) ≠ 0)
def hset (h : List Int) (s k d : Int) : List Int := h.set (s.toNat * 8 + k.toNat) (IntKind.wrap .i8 (hd_ h s k + d))
end Go.Kk.Pl
namespace Go.Kk.Pl
theorem stepFar_val {s : Int} (hs : s = -1 ∨ s = 0 ∨ s = 1) {q : Nat} (hq : q < 81) : step_Far s q = some (farS s q) := by
 unfold step_Far set_Rank farS
 rcases hs with rfl | rfl | rfl
 ·simp (disch := omega) only [b_nlt, b_nge, b_neq]
  simp
 ·simp (disch := omega) only [b_nlt, b_nge, b_eq, tmod9, ob_some]
  simp
 ·simp (disch := omega) only [b_nlt, b_nge, b_neq, b_eq, tmod9, ob_some, w_s]
  simp
theorem stepDead_val (x : Int) {q : Nat} (hq : q < 81) : step_Dead x q = some (deadS x q) := by
 unfold step_Dead
 rw [side_val, ob_some, stepFar_val (sd_cases x) hq, ob_some, kind_val, ob_some]
 unfold deadS
 generalize kd x = k
 generalize farS (sd x) q = n
 simp only [br_if, beq_iff_eq]
 repeat' split
 all_goals first
  | (rw [Option.some.injEq, Bool.eq_iff_iff]; simp; omega)
  | (simp; omega)
def pc (s k : Int) : Int := if (s = 0 ∨ s = 1) ∧ 1 ≤ k ∧ k ≤ 15 ∧ k ≠ 13 then 16 * s + k else 0
theorem pc_ok {s k : Int} (hs : s = 0 ∨ s = 1) (h1 : 1 ≤ k) (h2 : k ≤ 15) (h3 : k ≠ 13) : pc s k = 16 * s + k := by unfold pc; rw [if_pos ⟨hs, h1, h2, h3⟩]
theorem pc_none {s k : Int} (h : ¬ ((s = 0 ∨ s = 1) ∧ 1 ≤ k ∧ k ≤ 15 ∧ k ≠ 13)) : pc s k = 0 := by unfold pc; rw [if_neg h]
theorem pc_range (s k : Int) : 0 ≤ pc s k ∧ pc s k < 32 := by unfold pc; split <;> omega
theorem of_gen (s k : Int) : piece_Of s k = some (pc s k) := by
 by_cases hs : s = 0 ∨ s = 1
 ·by_cases h : 1 ≤ k ∧ k ≤ 15 ∧ k ≠ 13
  ·rw [of_val hs h.1 h.2.1 h.2.2, pc_ok hs h.1 h.2.1 h.2.2]
  ·rw [pc_none (by omega)]
   unfold piece_Of
   simp only [br_if, bne_iff_ne, ne_eq, beq_iff_eq, decide_eq_true_eq]
   repeat' split
   all_goals first | rfl | omega
 ·rw [pc_none (by omega)]
  unfold piece_Of
  simp (disch := omega) only [b_ne]
theorem pcs_zero (b : List Int) : pcs b 0 = fun _ => false := by funext i; unfold pcs; simp
theorem ofB_val (b h : List Int) (S s k : Int) (sd' : List (List Int)) : board_Of s k b h S (byOf b) sd' = some (sLo (pcs b (pc s k)), sHi (pcs b (pc s k))) := by
 unfold board_Of
 obtain ⟨h0, h1⟩ := pc_range s k
 rw [of_gen, ob_some]
 by_cases hz : pc s k = 0
 ·rw [b_eq hz, hz, pcs_zero, sLo_false, sHi_false]
 ·rw [b_neq hz, b_in h0 (by omega), by_get b h0 h1]
  rfl
def inF (f : Nat) (i : Nat) : Bool := decide (i / 9 = f)
theorem inFile_all : ∀ f : Fin 9, set_InFile ((f.val : Nat) : Int) = some (sLo (inF f.val), sHi (inF f.val)) := by decide +kernel
theorem inFile_val {f : Nat} (h : f < 9) : set_InFile f = some (sLo (inF f), sHi (inF f)) := inFile_all ⟨f, h⟩
theorem file_filter : ∀ f : Fin 9, (List.range 81).filter (fun i => decide (i / 9 = f.val)) = (List.range 9).map (9 * f.val + ·) := by decide +kernel
theorem cnt_file (b : List Int) {x : Int} (hx : x ≠ 0) {f : Nat} (hf : f < 9) : cntS (fun i => pcs b x i && inF f i) = nF b x f := by
 unfold cntS nF inF
 have : (List.range 81).countP (fun i => pcs b x i && decide (i / 9 = f)) = ((List.range 81).filter (fun i => decide (i / 9 = f))).countP (pcs b x) := by
  rw [List.countP_filter]
 rw [this, file_filter ⟨f, hf⟩, List.countP_map]
 apply List.countP_congr
 intro r _
 show pcs b x (9 * f + r) = true ↔ _
 unfold pcs
 simp [hx]
theorem files12_val (b h : List Int) (S : Int) (sd' : List (List Int)) (q : Nat) (hq : q < 9) (X : Int) : ∀ f, board_filesl12 (f + 2 + 1) q X 0 b h S (byOf b) sd' = some (if nifuS b q then .inl (53, X, b, h, S, byOf b, sd') else .inr (X, b, h, S, byOf b, sd')) := by
 intro f
 have step : ∀ (s : Int) (hs : s = 0 ∨ s = 1) rec, board_filesl12s rec q X s b h S (byOf b) sd' = if 1 < nF b (16 * s + 1) q then some (.inl (53, X, b, h, S, byOf b, sd')) else rec q X (s + 1) b h S (byOf b) sd' := by
  intro s hs rec
  unfold board_filesl12s
  rw [b_lt (by omega), ofB_val, ob_some]
  simp only
  rw [inFile_val hq, ob_some]
  simp only
  rw [and_val, ob_some]
  simp only
  rw [count_set, ob_some, pc_ok hs (by omega) (by omega) (by omega), cnt_file b (by omega) hq, w_s (by omega) (by omega)]
  split
  ·rw [b_gt (by omega)]
  ·rw [b_ngt (by omega)]
 show board_filesl12s (board_filesl12 (f + 2)) _ _ _ _ _ _ _ _ = _
 rw [step 0 (.inl rfl)]
 unfold nifuS
 split
 ·rename_i h1
  rw [show (decide (1 < nF b 1 q) || decide (1 < nF b 17 q)) = true by simp at h1; simp [h1]]
  rfl
 ·rename_i h1
  show board_filesl12s (board_filesl12 (f + 1)) _ _ _ _ _ _ _ _ = _
  rw [show (0 : Int) + 1 = 1 from rfl, step 1 (.inr rfl)]
  split
  ·rename_i h2
   rw [show (decide (1 < nF b 1 q) || decide (1 < nF b 17 q)) = true by simp at h2; simp [h2]]
   rfl
  ·rename_i h2
   rw [show (decide (1 < nF b 1 q) || decide (1 < nF b 17 q)) = false by simp at h1 h2; simp; omega]
   show board_filesl12s (board_filesl12 f) _ _ _ _ _ _ _ _ = _
   unfold board_filesl12s
   rw [b_nlt (by omega)]
   rfl
theorem files9_val (b h : List Int) (S : Int) (sd' : List (List Int)) : ∀ (n i : Nat), i + n = 9 → ∀ f, board_filesl9 (f + n + 1) i b h S (byOf b) sd' = some (if (List.range' i n).any (nifuS b) then .inl 53 else .inr ()) := by
 intro n
 induction n with
 | zero =>
   intro i hi f
   show board_filesl9s (board_filesl9 (f + 0)) _ _ _ _ _ _ = _
   unfold board_filesl9s
   rw [b_nlt (by omega)]
   rfl
 | succ n ih =>
   intro i hi f
   show board_filesl9s (board_filesl9 (f + n + 1)) _ _ _ _ _ _ = _
   unfold board_filesl9s
   obtain ⟨g, hg⟩ := many_eq 2 (by omega)
   have h12 := files12_val b h S sd' i (by omega) i g
   rw [← hg] at h12
   rw [b_lt (by omega), h12, ob_some, any_cons]
   have := ih (i + 1) (by omega) f
   cases hb : nifuS b i with
   | true => rfl
   | false =>
     rw [Bool.false_or, if_neg (by decide), sw_inr]
     simp only
     rw [w_s (by omega) (by omega)]
     exact this
theorem files2_val (b h : List Int) (s : Int) (b' : List Int) : ∀ (n i : Nat), i + n = 81 → ∀ f, board_filesl2 (f + n + 1) b i b' h s = some (if (List.range' i n).any (fun i => deadS (b.getD i 0) i) then .inl (52, b', h, s) else .inr (b', h, s)) := by
 intro n
 induction n with
 | zero =>
   intro i hi f
   show board_filesl2s (board_filesl2 (f + 0)) _ _ _ _ _ = _
   unfold board_filesl2s
   rw [b_nlt (by omega)]
   rfl
 | succ n ih =>
   intro i hi f
   show board_filesl2s (board_filesl2 (f + n + 1)) _ _ _ _ _ = _
   unfold board_filesl2s
   have := ih (i + 1) (by omega) f
   rw [b_lt (by omega), b_in (by omega) (by omega), cond_true, tn, stepDead_val _ (by omega), ob_some, any_cons, w_s (by omega) (by omega)]
   cases hb : deadS (b.getD i 0) i with
   | true => rfl
   | false =>
     rw [b_f, Bool.false_or]
     exact this
theorem files_val {b : List Int} (hc : Clean b) (h : List Int) (s : Int) : board_files b h s = some (if (List.range' 0 81).any (fun i => deadS (b.getD i 0) i) then 52 else if (List.range' 0 9).any (nifuS b) then 53 else 0) := by
 obtain ⟨g81, hg81⟩ := many_eq 81 (by omega)
 obtain ⟨g9, hg9⟩ := many_eq 9 (by omega)
 have c2 := files2_val b h s b 81 0 (by omega) g81
 rw [← hg81] at c2
 have c9 := files9_val b h s (sidesOf b) 9 0 (by omega) g9
 rw [← hg9] at c9
 unfold board_files
 rw [show board_filesl2 many b 0 b h s = _ from c2, ob_some]
 split
 ·rfl
 rw [sw_inr]
 simp only
 rw [new_full hc.len, cl_id hc, ob_some]
 simp only
 rw [show board_filesl9 many 0 b h s (byOf b) (sidesOf b) = _ from c9, ob_some]
 split
 ·rfl
 ·rfl
def rk (x : Int) : Int := rw_ (kd x)
theorem rk_zero {x : Int} (h : kd x = 0) : rk x = 0 := by unfold rk; rw [h]; decide
theorem rk_range {x : Int} (h : kd x ≠ 0) : 1 ≤ rk x ∧ rk x ≤ 8 := by
 obtain ⟨k1, k2, k3⟩ := kd_bounds x
 unfold rk rw_
 rw [if_neg (by omega)]
 split <;> omega
def cT (b : List Int) (i : Nat) (k : Nat) : Nat := (List.range i).countP fun j => decide (1 ≤ k) && rk (b.getD j 0) == k
def kT (b : List Int) (i : Nat) (x : Int) : Nat := (List.range i).countP fun j => b.getD j 0 == x
theorem cT_le (b : List Int) (i k : Nat) : cT b i k ≤ i := Nat.le_trans List.countP_le_length (by simp)
theorem kT_le (b : List Int) (i : Nat) (x : Int) : kT b i x ≤ i := Nat.le_trans List.countP_le_length (by simp)
theorem cT_succ (b : List Int) (i k : Nat) : cT b (i + 1) k = cT b i k + if 1 ≤ k ∧ rk (b.getD i 0) = k then 1 else 0 := by
 unfold cT
 rw [List.range_succ, List.countP_append]
 by_cases h : 1 ≤ k ∧ rk (b.getD i 0) = k
 ·simp [h]
 ·rw [if_neg h]
  have : (decide (1 ≤ k) && rk (b.getD i 0) == (k : Int)) = false := by
   rw [Bool.and_eq_false_iff]
   by_cases h1 : 1 ≤ k
   ·right; simpa using fun h2 => h ⟨h1, h2⟩
   ·left; simpa using h1
  simp only [List.countP_cons, List.countP_nil, this]
  rfl
theorem kT_succ (b : List Int) (i : Nat) (x : Int) : kT b (i + 1) x = kT b i x + if b.getD i 0 = x then 1 else 0 := by
 unfold kT
 rw [List.range_succ, List.countP_append]
 by_cases h : b.getD i 0 = x
 ·simp
 ·rw [if_neg h]
  have : (b.getD i 0 == x) = false := by simpa using h
  simp only [List.countP_cons, List.countP_nil, this]
  rfl
def cL (b : List Int) (i : Nat) : List Int := (List.range 9).map fun k => ((cT b i k : Nat) : Int)
def kL (b : List Int) (i : Nat) : List Int := [((kT b i 8 : Nat) : Int), ((kT b i 24 : Nat) : Int)]
theorem king_piece {x : Int} (h : kd x = 8) : x = 8 ∨ x = 24 := by
 unfold kd at h
 split at h
 ·cases h
 ·omega
theorem chk6_val (b h : List Int) (s : Int) (b' : List Int) : ∀ (n i : Nat), i + n = 81 → ∃ c k, ∀ f, board_Checkl6 (f + n + 1) b i b' h s (cL b i) (kL b i) =
  some (if (List.range' i n).any (bsP b) then .inl (55, b', h, s, c, k) else .inr (b', h, s, cL b 81, kL b 81)) := by
 intro n
 induction n with
 | zero =>
   intro i hi
   refine ⟨[], [], fun f => ?_⟩
   show board_Checkl6s (board_Checkl6 (f + 0)) _ _ _ _ _ _ _ = _
   unfold board_Checkl6s
   rw [b_nlt (by omega), show i = 81 by omega]
   rfl
 | succ n ih =>
   intro i hi
   obtain ⟨c, k, hr⟩ := ih (i + 1) (by omega)
   by_cases hbad : bsP b i = true
   ·refine ⟨cL b i, kL b i, fun f => ?_⟩
    show board_Checkl6s (board_Checkl6 (f + n + 1)) _ _ _ _ _ _ _ = _
    unfold board_Checkl6s
    have hb := hbad
    unfold bsP at hb
    rw [decide_eq_true_eq] at hb
    rw [b_lt (by omega), b_in (by omega) (by omega), cond_true, tn, kind_val, ob_some, b_neq hb.1, b_eq hb.2, any_cons, hbad]
    rfl
   ·refine ⟨c, k, fun f => ?_⟩
    show board_Checkl6s (board_Checkl6 (f + n + 1)) _ _ _ _ _ _ _ = _
    unfold board_Checkl6s
    have hb : bsP b i = false := by simpa using hbad
    rw [any_cons, hb, Bool.false_or, ← hr f]
    unfold bsP at hb
    rw [decide_eq_false_iff_not] at hb
    rw [b_lt (by omega), b_in (by omega) (by omega), cond_true, tn, kind_val, ob_some, w_s (by omega) (by omega)]
    by_cases hz : b.getD i 0 = 0
    ·have e1 : cL b (i + 1) = cL b i := by
      unfold cL
      apply List.map_congr_left
      intro k _
      rw [cT_succ, hz, rk_zero (by decide), if_neg (by omega)]
      rfl
     have e2 : kL b (i + 1) = kL b i := by
      unfold kL
      rw [kT_succ, kT_succ, hz, if_neg (by omega), if_neg (by omega)]
      rfl
     rw [b_eq hz, e1, e2]
     rfl
    ·have hk : kd (b.getD i 0) ≠ 0 := by omega
     obtain ⟨r1, r2⟩ := rk_range hk
     obtain ⟨k1, k2, k3⟩ := kd_bounds (b.getD i 0)
     have hraw : piece_Raw (kd (b.getD i 0)) = some (rk (b.getD i 0)) := raw_val k1 k2
     have e1 : List.set (cL b i) (rk (b.getD i 0)).toNat (IntKind.wrap .i64 (List.getD (cL b i) (rk (b.getD i 0)).toNat 0 + 1)) = cL b (i + 1) := by
      unfold cL
      have hle := cT_le b i (rk (b.getD i 0)).toNat
      rw [map_getD _ (by omega), map_set, w_s (by omega) (by omega)]
      apply List.map_congr_left
      intro k hk
      simp only [List.mem_range] at hk
      rw [cT_succ]
      by_cases hkr : k = (rk (b.getD i 0)).toNat
      ·rw [if_pos hkr, if_pos (by omega), hkr]; rfl
      ·rw [if_neg hkr, if_neg (by omega)]; rfl
     rw [b_neq hz, b_neq hk]
     by_cases h8 : kd (b.getD i 0) = 8
     ·have hle1 := kT_le b i 8
      have hle2 := kT_le b i 24
      rcases king_piece h8 with hx | hx
      ·have hs : sd (b.getD i 0) = 0 := by rw [hx]; decide
       have e2 : List.set (kL b i) 0 (IntKind.wrap .i64 (List.getD (kL b i) 0 0 + 1)) = kL b (i + 1) := by
        unfold kL
        rw [kT_succ, kT_succ, hx, if_pos rfl, if_neg (by omega)]
        show [IntKind.wrap .i64 (((kT b i 8 : Nat) : Int) + 1), _] = _
        rw [w_s (by omega) (by omega)]
        rfl
       rw [b_eq h8, side_val, ob_some, hs, b_in (by omega) (by omega), b_in (by omega) (by omega), hraw, ob_some, b_in (by omega) (by omega), b_in (by omega) (by omega), e1]
       show board_Checkl6 (f + n + 1) b _ b' h s _ (List.set (kL b i) 0 (IntKind.wrap .i64 (List.getD (kL b i) 0 0 + 1))) = _
       rw [e2]
       rfl
      ·have hs : sd (b.getD i 0) = 1 := by rw [hx]; decide
       have e2 : List.set (kL b i) 1 (IntKind.wrap .i64 (List.getD (kL b i) 1 0 + 1)) = kL b (i + 1) := by
        unfold kL
        rw [kT_succ, kT_succ, hx, if_neg (by omega), if_pos rfl]
        show [_, IntKind.wrap .i64 (((kT b i 24 : Nat) : Int) + 1)] = _
        rw [w_s (by omega) (by omega)]
        rfl
       rw [b_eq h8, side_val, ob_some, hs, b_in (by omega) (by omega), b_in (by omega) (by omega), hraw, ob_some, b_in (by omega) (by omega), b_in (by omega) (by omega), e1]
       show board_Checkl6 (f + n + 1) b _ b' h s _ (List.set (kL b i) 1 (IntKind.wrap .i64 (List.getD (kL b i) 1 0 + 1))) = _
       rw [e2]
       rfl
     ·have e2 : kL b (i + 1) = kL b i := by
       have n8 : b.getD i 0 ≠ 8 := fun h => h8 (by rw [h]; decide)
       have n24 : b.getD i 0 ≠ 24 := fun h => h8 (by rw [h]; decide)
       unfold kL
       rw [kT_succ, kT_succ, if_neg n8, if_neg n24]
       rfl
      rw [b_neq h8, hraw, ob_some, b_in (by omega) (by omega), b_in (by omega) (by omega), e1, e2]
      rfl
theorem row_get {h : List Int} {s k : Nat} (_hs : s < 2) (hk : k < 8) : (List.take 8 (List.drop (Nat.add (Nat.mul s 7) s) h)).getD k 0 = h.getD (s * 8 + k) 0 := by
 rw [List.getD_eq_getElem?_getD, List.getElem?_take, if_pos hk, List.getElem?_drop, List.getD_eq_getElem?_getD]
 rw [show (Nat.add (Nat.mul s 7) s) + k = s * 8 + k from (by show s * 7 + s + k = s * 8 + k; omega)]
def addH (h : List Int) (s i : Nat) (g : Nat → Int) (j : Nat) : Int := if i ≤ j ∧ j < 8 then g j + h.getD (s * 8 + j) 0 else g j
theorem chk20p_val {h : List Int} (hf : Fits8 h) (b : List Int) (S : Int) (kk h' : List Int) (s : Nat) (hs : s < 2) : ∀ (n i : Nat), i + n = 8 → ∀ (g : Nat → Int), (∀ j, -200000 + 200 * n ≤ g j ∧ g j ≤ 200000 - 200 * n) →
  ∃ c, ∀ f, board_Checkl20 (f + n + 1) h s (List.take 8 (List.drop (Nat.add (Nat.mul s 7) s) h)) i b h' S ((List.range 9).map g) kk =
    some (if (List.range' i n).any (fun k => bsH h k s) then .inl (55, h, s, b, h', S, c, kk) else .inr (h, s, b, h', S, (List.range 9).map (addH h s i g), kk)) := by
 intro n
 induction n with
 | zero =>
   intro i hi g hg
   refine ⟨[], fun f => ?_⟩
   show board_Checkl20s (board_Checkl20 (f + 0)) _ _ _ _ _ _ _ _ _ = _
   unfold board_Checkl20s
   rw [b_nlt (by omega)]
   have : (List.range 9).map (addH h s i g) = (List.range 9).map g := by
    apply List.map_congr_left
    intro j _
    unfold addH
    rw [if_neg (by omega)]
   rw [this]
   rfl
 | succ n ih =>
   intro i hi g hg
   have hr := row_get (h := h) (s := s) (k := i) hs (by omega)
   have hb := hf (s * 8 + i)
   by_cases hbad : bsH h i s = true
   ·refine ⟨(List.range 9).map g, fun f => ?_⟩
    show board_Checkl20s (board_Checkl20 (f + n + 1)) _ _ _ _ _ _ _ _ _ = _
    unfold board_Checkl20s
    have hx := hbad
    unfold bsH at hx
    rw [decide_eq_true_eq] at hx
    rw [b_lt (by omega), b_in (by omega) (by omega), cond_true, tn, hr, any_cons, hbad]
    by_cases h0 : h.getD (s * 8 + i) 0 < 0
    ·rw [b_lt h0]
     rfl
    ·rw [b_nlt h0, b_gt (by omega), b_eq (by omega)]
     rfl
   ·have hx : bsH h i s = false := by simpa using hbad
    have hx2 := hx
    unfold bsH at hx2
    rw [decide_eq_false_iff_not] at hx2
    obtain ⟨c, hc⟩ := ih (i + 1) (by omega) (fun j => if j = i then g j + h.getD (s * 8 + j) 0 else g j) (fun j => by
     have := hg j
     split
     ·rename_i hj; subst hj; omega
     ·omega)
    refine ⟨c, fun f => ?_⟩
    show board_Checkl20s (board_Checkl20 (f + n + 1)) _ _ _ _ _ _ _ _ _ = _
    unfold board_Checkl20s
    have hgi := hg i
    have e1 : List.set ((List.range 9).map g) i (IntKind.wrap .i64 (List.getD ((List.range 9).map g) i 0 + h.getD (s * 8 + i) 0)) = (List.range 9).map fun j => if j = i then g j + h.getD (s * 8 + j) 0 else g j := by
     rw [map_getD _ (by omega), map_set, w_s (by omega) (by omega)]
     apply List.map_congr_left
     intro j _
     split
     ·rename_i hj; subst hj; rfl
     ·rfl
    have e2 : (List.range 9).map (addH h s (i + 1) fun j => if j = i then g j + h.getD (s * 8 + j) 0 else g j) = (List.range 9).map (addH h s i g) := by
     apply List.map_congr_left
     intro j _
     unfold addH
     by_cases hj : j = i
     ·subst hj; simp; omega
     ·simp only [hj, if_false]
      by_cases h1 : i ≤ j ∧ j < 8
      ·rw [if_pos (by omega), if_pos h1]
      ·rw [if_neg (by omega), if_neg h1]
    have := hc f
    rw [e2] at this
    rw [b_lt (by omega), b_in (by omega) (by omega), cond_true, tn, hr, any_cons, hx, Bool.false_or, b_nlt (by omega), c_8, e1, w_s (by omega) (by omega)]
    by_cases h0 : h.getD (s * 8 + i) 0 > 0
    ·rw [b_gt h0, b_neq (by omega), b_neq (by omega), b_in (by omega) (by omega), b_in (by omega) (by omega)]
     exact this
    ·rw [b_ngt h0, b_in (by omega) (by omega), b_in (by omega) (by omega)]
     exact this
theorem chk17p_val {h : List Int} (hf : Fits8 h) (b h' : List Int) (S : Int) (kk : List Int) (g : Nat → Int) (hg : ∀ j, -100 ≤ g j ∧ g j ≤ 100) :
  ∃ c, ∀ f, board_Checkl17 (f + 2 + 1) h 0 b h' S ((List.range 9).map g) kk =
    some (if (List.range' 0 2).any (fun s => (List.range' 0 8).any fun k => bsH h k s) then .inl (55, b, h', S, c, kk) else .inr (b, h', S, (List.range 9).map (addH h 1 0 (addH h 0 0 g)), kk)) := by
 obtain ⟨g8, hg8⟩ := many_eq 8 (by omega)
 obtain ⟨c0, h0⟩ := chk20p_val hf b S kk h' 0 (by omega) 8 0 (by omega) g (fun j => by have := hg j; omega)
 have h0 := h0 g8
 rw [← hg8] at h0
 obtain ⟨c1, h1⟩ := chk20p_val hf b S kk h' 1 (by omega) 8 0 (by omega) (addH h 0 0 g) (fun j => by
  have := hg j
  have := hf (0 * 8 + j)
  unfold addH
  split <;> omega)
 have h1 := h1 g8
 rw [← hg8] at h1
 have any2 : (List.range' 0 2).any (fun s => (List.range' 0 8).any fun k => bsH h k s) = ((List.range' 0 8).any (fun k => bsH h k 0) || (List.range' 0 8).any (fun k => bsH h k 1)) := by
  rw [any_cons (fun s => (List.range' 0 8).any fun k => bsH h k s), any_cons (fun s => (List.range' 0 8).any fun k => bsH h k s) 1 0]
  simp
 rw [any2]
 cases hb0 : (List.range' 0 8).any (fun k => bsH h k 0) with
 | true =>
   refine ⟨c0, fun f => ?_⟩
   show board_Checkl17s (board_Checkl17 (f + 2)) _ _ _ _ _ _ _ = _
   unfold board_Checkl17s
   rw [b_lt (by omega), b_in (by omega) (by omega), show board_Checkl20 many h 0 (List.take 8 (List.drop (Nat.add (Nat.mul (Int.toNat 0) 7) (Int.toNat 0)) h)) 0 b h' S ((List.range 9).map g) kk = _ from h0, hb0, ob_some]
   rfl
 | false =>
   refine ⟨c1, fun f => ?_⟩
   show board_Checkl17s (board_Checkl17 (f + 2)) _ _ _ _ _ _ _ = _
   unfold board_Checkl17s
   rw [b_lt (by omega), b_in (by omega) (by omega), show board_Checkl20 many h 0 (List.take 8 (List.drop (Nat.add (Nat.mul (Int.toNat 0) 7) (Int.toNat 0)) h)) 0 b h' S ((List.range 9).map g) kk = _ from h0, hb0, ob_some, if_neg (by decide), sw_inr]
   simp only
   show board_Checkl17s (board_Checkl17 (f + 1)) _ _ _ _ _ _ _ = _
   unfold board_Checkl17s
   rw [b_lt (by rw [w_s (by omega) (by omega)]; omega), b_in (by rw [w_s (by omega) (by omega)]; omega) (by rw [w_s (by omega) (by omega)]; omega)]
   rw [show IntKind.wrap .i64 (((0 : Nat) : Int) + 1) = 1 from rfl, show board_Checkl20 many h 1 (List.take 8 (List.drop (Nat.add (Nat.mul (Int.toNat 1) 7) (Int.toNat 1)) h)) 0 b h' S ((List.range 9).map (addH h 0 0 g)) kk = _ from h1, ob_some]
   cases hb1 : (List.range' 0 8).any (fun k => bsH h k 1) with
   | true => rfl
   | false =>
     rw [if_neg (by decide), sw_inr]
     simp only
     show board_Checkl17s (board_Checkl17 f) _ _ _ _ _ _ _ = _
     unfold board_Checkl17s
     rw [b_nlt (by decide)]
     rfl
theorem cnt_cT {b : List Int} (hl : b.length = 81) {k : Nat} (hk : 1 ≤ k) : cnt b k = cT b 81 k := by
 have hb : b = (List.range 81).map fun j => b.getD j 0 := by
  apply List.ext_getElem
  ·simp [hl]
  ·intro i h1 h2
   rw [List.getElem_map, List.getElem_range, at_i h1]
 unfold cnt cT
 conv => lhs; rw [hb]
 rw [List.countP_map]
 apply List.countP_congr
 intro j _
 show (rw_ (kd (b.getD j 0)) == (k : Int)) = true ↔ _
 simp [hk, rk]
theorem total_valP : ∀ k : Fin 9, piece_Total ((k.val : Nat) : Int) = some (totS ((k.val : Nat) : Int)) := by decide +kernel
theorem chk30p_val {b h : List Int} {g : Nat → Int} (hg : ∀ k : Nat, 1 ≤ k → k < 8 → g k = cnt b k + hd_ h 0 k + hd_ h 1 k) (b' h' : List Int) (s : Int) : ∀ (n i : Nat), i + n = 8 → 1 ≤ i → ∀ f,
  board_Checkl30 (f + n + 1) i b' h' s ((List.range 9).map g) = some (if (List.range' i n).any (overS b h) then .inl (51, b', h', s) else .inr (b', h', s)) := by
 intro n
 induction n with
 | zero =>
   intro i hi _ f
   show board_Checkl30s (board_Checkl30 (f + 0)) _ _ _ _ _ = _
   unfold board_Checkl30s
   rw [b_nlt (by omega)]
   rfl
 | succ n ih =>
   intro i hi h1 f
   show board_Checkl30s (board_Checkl30 (f + n + 1)) _ _ _ _ _ = _
   unfold board_Checkl30s
   have ht := total_valP ⟨i, by omega⟩
   simp only at ht
   rw [b_lt (by omega), b_in (by omega) (by omega), ht, ob_some, tn, map_getD _ (by omega), hg i h1 (by omega), any_cons, w_s (by omega) (by omega)]
   have := ih (i + 1) (by omega) (by omega) f
   by_cases ho : totS i < cnt b i + hd_ h 0 i + hd_ h 1 i
   ·rw [b_gt ho, show overS b h i = true by unfold overS; simpa using ho]
    rfl
   ·rw [b_ngt ho, show overS b h i = false by unfold overS; simpa using ho, Bool.false_or]
    exact this
theorem bsH_comm (h : List Int) : ((List.range' 0 2).any fun s => (List.range' 0 8).any fun k => bsH h k s) = (List.range' 0 8).any fun k => (List.range' 0 2).any (bsH h k) := by
 rw [Bool.eq_iff_iff]
 simp only [List.any_eq_true]
 constructor
 ·rintro ⟨s, hs, k, hk, h1⟩
  exact ⟨k, hk, s, hs, h1⟩
 ·rintro ⟨k, hk, s, hs, h1⟩
  exact ⟨s, hs, k, hk, h1⟩
theorem bad_clean {b : List Int} (hl : b.length = 81) (h : (List.range' 0 81).any (bsP b) = false) : Clean b := by
 refine ⟨hl, fun i hi => ?_⟩
 rw [List.any_eq_false] at h
 have := h i (by rw [List.mem_range']; exact ⟨i, hi, by omega⟩)
 unfold bsP at this
 rw [decide_eq_true_eq] at this
 omega
theorem check_full {b h : List Int} (hl : b.length = 81) (hf : Fits8 h) (s : Int) : board_Check b h s = some (chkS b h s) := by
 obtain ⟨g81, hg81⟩ := many_eq 81 (by omega)
 obtain ⟨g7, hg7⟩ := many_eq 7 (by omega)
 obtain ⟨g2, hg2⟩ := many_eq 2 (by omega)
 obtain ⟨c6, k6, h6⟩ := chk6_val b h s b 81 0 (by omega)
 have h6 := h6 g81
 rw [← hg81] at h6
 have z1 : cL b 0 = [0, 0, 0, 0, 0, 0, 0, 0, 0] := rfl
 have z2 : kL b 0 = [0, 0] := rfl
 rw [z1, z2] at h6
 obtain ⟨c17, h17⟩ := chk17p_val hf b h s (kL b 81) (fun k => ((cT b 81 k : Nat) : Int)) (fun j => by have := cT_le b 81 j; omega)
 have h17 := h17 g2
 rw [← hg2] at h17
 have hgc : ∀ k : Nat, 1 ≤ k → k < 8 → addH h 1 0 (addH h 0 0 fun k => ((cT b 81 k : Nat) : Int)) k = cnt b k + hd_ h 0 k + hd_ h 1 k := by
  intro k k1 k8
  unfold addH
  rw [if_pos (by omega), if_pos (by omega), cnt_cT hl k1]
  rfl
 have h30 := chk30p_val hgc b h s 7 1 (by omega) (by omega) g7
 rw [← hg7] at h30
 have main : (ob (board_Checkl6 many b 0 b h s ([0, 0, 0, 0, 0, 0, 0, 0, 0]) ([0, 0])) fun t3_2 =>
   sw t3_2 (fun (a3_0, _, _, _, _, _) =>
    some (a3_0))
    (fun (a3_0, a3_1, a3_2, a3_3, a3_4) =>
    ob (board_Checkl17 many a3_1 0 a3_0 a3_1 a3_2 a3_3 a3_4) fun t8_2 =>
    sw t8_2 (fun (a8_0, _, _, _, _, _) =>
     some (a8_0))
     (fun (a8_0, a8_1, a8_2, a8_3, a8_4) =>
     br (!a8_4 == [1, 1])
      (some (50))
      (ob (board_Checkl30 many 1 a8_0 a8_1 a8_2 a8_3) fun t13_2 =>
      sw t13_2 (fun (a13_0, _, _, _) =>
       some (a13_0))
       (fun (a13_0, a13_1, a13_2) =>
       ob (board_files a13_0 a13_1 a13_2) fun a16 =>
       some (a16)))) ) : Option Int) =
   some (if (List.range' 0 81).any (bsP b) then 55
    else if (List.range' 0 8).any (fun k => (List.range' 0 2).any (bsH h k)) then 55
    else if ¬ (nP b 8 = 1 ∧ nP b 24 = 1) then 50
    else if (List.range' 1 7).any (overS b h) then 51
    else if (List.range' 0 81).any (fun i => deadS (b.getD i 0) i) then 52
    else if (List.range' 0 9).any (nifuS b) then 53
    else 0) := by
  rw [show board_Checkl6 many b 0 b h s [0, 0, 0, 0, 0, 0, 0, 0, 0] [0, 0] = _ from h6, ob_some]
  cases hbad : (List.range' 0 81).any (bsP b) with
  | true => rfl
  | false =>
    have hc := bad_clean hl hbad
    rw [if_neg (by decide), if_neg (by decide), sw_inr]
    simp only
    rw [show board_Checkl17 many h 0 b h s (cL b 81) (kL b 81) = _ from h17, ob_some, bsH_comm]
    split
    ·rfl
    rw [sw_inr]
    simp only
    have hk : (!kL b 81 == [1, 1]) = decide (¬ (nP b 8 = 1 ∧ nP b 24 = 1)) := by
     show (!([((nP b 8 : Nat) : Int), ((nP b 24 : Nat) : Int)] == [1, 1])) = _
     rw [Bool.eq_iff_iff]
     simp
     omega
    rw [hk]
    by_cases h8 : nP b 8 = 1 ∧ nP b 24 = 1
    ·rw [br_false (by simpa using h8), if_neg (by simpa using h8), show board_Checkl30 many 1 b h s _ = _ from h30, ob_some]
     split
     ·rfl
     rw [sw_inr]
     simp only
     rw [files_val hc, ob_some]
    ·rw [br_true (by rw [decide_eq_true_eq]; exact h8), if_pos h8]
 unfold board_Check chkS
 by_cases h0 : s = 0
 ·rw [b_nne h0, if_neg (by simp [h0])]
  exact main
 ·rw [b_ne h0]
  by_cases h1 : s = 1
  ·rw [b_nne h1, if_neg (by simp [h1])]
   exact main
  ·rw [b_ne h1, if_pos (by simp [h0, h1])]
theorem begins_true : law05_begins = some true := by kernel_rfl
end Go.Kk.Pl
namespace Go.Kk.Pl
def startB : List Int := [18, 0, 17, 0, 0, 0, 1, 0, 2, 19, 22, 17, 0, 0, 0, 1, 7, 3, 20, 0, 17, 0, 0, 0, 1, 0, 4, 21, 0, 17, 0, 0, 0, 1, 0, 5, 24, 0, 17, 0, 0, 0, 1, 0, 8, 21, 0, 17, 0, 0, 0, 1, 0, 5, 20, 0, 17, 0, 0, 0, 1, 0, 4, 19, 23, 17, 0, 0, 0, 1, 6, 3, 18, 0, 17, 0, 0, 0, 1, 0, 2]
def startH : List Int := [0, 0, 0, 0, 0, 0, 0, 0, 0, 0, 0, 0, 0, 0, 0, 0]
theorem start_val : board_Start = some (startB, startH, 0) := by kernel_rfl
theorem refStart_val : ref05_Start = some (startB, startH, 0) := by kernel_rfl
theorem boardStart_true (q x : Int) : law05_BoardStart q x = some true := by
 unfold law05_BoardStart
 rw [begins_true, ob_some]
 simp only [Bool.not_true, b_f]
 rw [start_val, ob_some, refStart_val, ob_some]
 simp only [beq_self_eq_true, Bool.and_self, Bool.not_true, b_f, bne_self_eq_false]
 by_cases h0 : q < 0
 ·simp [h0, br]
 by_cases h1 : q > 80
 ·simp [h0, h1, br]
 have hb : inB q 81 = true := by simp [inB]; omega
 have hl : (List.set startB (Int.toNat q) x).length = 81 := by rw [List.length_set]; rfl
 have hf : Fits8 startH := by
  intro i
  by_cases h : i < 16
  ·have h2 : ∀ j, j < 16 → startH.getD j 0 = 0 := by decide
   rw [h2 i h]; omega
  ·have h2 : startH.getD i 0 = 0 := by rw [List.getD_eq_getElem?_getD, List.getElem?_eq_none (by show startH.length ≤ i; have : startH.length = 16 := rfl; omega)]; rfl
   rw [h2]; omega
 simp only [h0, h1, decide_false, b_f, hb, b_t]
 rw [check_full hl hf, ob_some, refCheck_val hl hf, ob_some]
 simp
end Go.Kk.Pl
