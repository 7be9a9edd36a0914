/-
  How many bits a word has, plainly.
-/
import Derived.Test.YtlcccogiaaalhaaDoorKkSet2
namespace Go.Kk.Pl

/-- A byte's mask, so many times. -/
def mask (c : Nat) : Nat → Nat
  | 0 => 0
  | k + 1 => c + 256 * mask c k
theorem mask_lt {c : Nat} (hc : c < 256) : ∀ k, mask c k < 2 ^ (8 * k)
  | 0 => Nat.one_pos
  | k + 1 => by
    have := mask_lt hc k
    rw [show 8 * (k + 1) = 8 * k + 8 by omega, Nat.pow_add]
    simp only [mask]
    omega

def w1 (k x : Nat) : Nat := ((x / 2) &&& mask 85 k) + (x &&& mask 85 k)
def w2 (k x : Nat) : Nat := ((x / 4) &&& mask 51 k) + (x &&& mask 51 k)
def w3 (k x : Nat) : Nat := (x / 16 + x) &&& mask 15 k

theorem and_byte {a b r m : Nat} (ha : a < 256) (hb : b < 256) : (a + 256 * r) &&& (b + 256 * m) = (a &&& b) + 256 * (r &&& m) := by
  have h1 : a + 256 * r = 2 ^ 8 * r + a := by omega
  have h2 : b + 256 * m = 2 ^ 8 * m + b := by omega
  have h3 : (a &&& b) + 256 * (r &&& m) = 2 ^ 8 * (r &&& m) + (a &&& b) := by omega
  have h4 : a &&& b < 2 ^ 8 := Nat.lt_of_le_of_lt Nat.and_le_left ha
  apply Nat.eq_of_testBit_eq
  intro i
  rw [h1, h2, h3, Nat.testBit_and, Nat.testBit_two_pow_mul_add _ ha, Nat.testBit_two_pow_mul_add _ hb, Nat.testBit_two_pow_mul_add _ h4]
  split <;> simp

theorem b1_all : ∀ (b : Fin 256) (t : Fin 2), ((b.val / 2 + 128 * t.val) &&& 85) = ((b.val / 2) &&& 85) := by decide +kernel
theorem b2_all : ∀ (b : Fin 256) (t : Fin 4), ((b.val / 4 + 64 * t.val) &&& 51) = ((b.val / 4) &&& 51) := by decide +kernel
/-- A byte's pairs, its halves. -/
def y1 (b : Nat) : Nat := ((b / 2) &&& 85) + (b &&& 85)
def y2 (b : Nat) : Nat := ((b / 4) &&& 51) + (b &&& 51)
def y3 (b : Nat) : Nat := (b / 16 + b) &&& 15
theorem y1_lt : ∀ b : Fin 256, y1 b.val < 256 := by decide +kernel
theorem y2_le : ∀ b : Fin 256, y2 b.val ≤ 102 := by decide +kernel
theorem y21_le : ∀ b : Fin 256, y2 (y1 b.val) ≤ 68 ∧ y3 (y2 (y1 b.val)) ≤ 8 := by decide +kernel
theorem b3_all : ∀ (b : Fin 103) (t : Fin 8), ((b.val / 16 + b.val + 16 * t.val) &&& 15) = ((b.val / 16 + b.val) &&& 15) := by decide +kernel

theorem w1_step {b r k : Nat} (hb : b < 256) : w1 (k + 1) (b + 256 * r) = y1 b + 256 * w1 k r := by
  unfold w1 y1
  have h1 : (b + 256 * r) / 2 = (b / 2 + 128 * (r % 2)) + 256 * (r / 2) := by omega
  rw [h1]
  simp only [mask]
  have := b1_all ⟨b, hb⟩ ⟨r % 2, by omega⟩
  simp only at this
  rw [and_byte (by omega) (by omega), and_byte hb (by omega), this]
  omega
theorem w2_step {b r k : Nat} (hb : b < 256) : w2 (k + 1) (b + 256 * r) = y2 b + 256 * w2 k r := by
  unfold w2 y2
  have h1 : (b + 256 * r) / 4 = (b / 4 + 64 * (r % 4)) + 256 * (r / 4) := by omega
  rw [h1]
  simp only [mask]
  have := b2_all ⟨b, hb⟩ ⟨r % 4, by omega⟩
  simp only at this
  rw [and_byte (by omega) (by omega), and_byte hb (by omega), this]
  omega
theorem w3_step {b r k : Nat} (hb : b ≤ 102) (hr : r % 16 < 8) : w3 (k + 1) (b + 256 * r) = y3 b + 256 * w3 k r := by
  unfold w3 y3
  have h1 : (b + 256 * r) / 16 + (b + 256 * r) = (b / 16 + b + 16 * (r % 16)) + 256 * (r / 16 + r) := by omega
  rw [h1]
  simp only [mask]
  rw [and_byte (by omega) (by omega), b3_all ⟨b, by omega⟩ ⟨r % 16, hr⟩]

/-- How many bits the bytes have. -/
def pop : Nat → Nat → Nat
  | 0, _ => 0
  | k + 1, x => y3 (y2 (y1 (x % 256))) + pop k (x / 256)
/-- The bytes' numbers, side by side. -/
def pops : Nat → Nat → Nat
  | 0, _ => 0
  | k + 1, x => y3 (y2 (y1 (x % 256))) + 256 * pops k (x / 256)

theorem w2_mod (k x : Nat) : w2 k (w1 k x) % 16 < 8 := by
  cases k with
  | zero => simp [w2, mask]
  | succ k =>
    have h : x = x % 256 + 256 * (x / 256) := by omega
    have h0 := y1_lt ⟨x % 256, by omega⟩
    simp only at h0
    rw [h, w1_step (by omega), w2_step h0]
    have : ∀ b : Fin 256, y2 (y1 b.val) % 16 < 8 := by decide +kernel
    have := this ⟨x % 256, by omega⟩
    simp only at this
    omega
theorem w_pops : ∀ k x, w3 k (w2 k (w1 k x)) = pops k x
  | 0, x => by simp [w3, mask, pops]
  | k + 1, x => by
    have h : x = x % 256 + 256 * (x / 256) := by omega
    have h0 := y1_lt ⟨x % 256, by omega⟩
    have h1 := (y21_le ⟨x % 256, by omega⟩).1
    simp only at h0 h1
    conv => lhs; rw [h]
    rw [w1_step (by omega), w2_step h0, w3_step (by omega) (w2_mod _ _), w_pops k]
    rfl
theorem pops_lt (k x : Nat) : 255 * pops k x ≤ 8 * (256 ^ k - 1) := by
  induction k generalizing x with
  | zero => simp [pops]
  | succ k ih =>
    have h1 := (y21_le ⟨x % 256, by omega⟩).2
    have := ih (x / 256)
    have hp : 0 < 256 ^ k := Nat.pow_pos (by omega)
    simp only [pops, Nat.pow_succ] at h1 ⊢
    omega
theorem sum8 {a0 a1 a2 a3 a4 a5 a6 a7 : Nat} (h0 : a0 ≤ 8) (h1 : a1 ≤ 8) (h2 : a2 ≤ 8) (h3 : a3 ≤ 8) (h4 : a4 ≤ 8) (h5 : a5 ≤ 8) (h6 : a6 ≤ 8) (h7 : a7 ≤ 8) :
    (a0 + 256 * (a1 + 256 * (a2 + 256 * (a3 + 256 * (a4 + 256 * (a5 + 256 * (a6 + 256 * (a7 + 256 * 0))))))) +
            (a0 + 256 * (a1 + 256 * (a2 + 256 * (a3 + 256 * (a4 + 256 * (a5 + 256 * (a6 + 256 * (a7 + 256 * 0)))))))) / 256 +
          (a0 + 256 * (a1 + 256 * (a2 + 256 * (a3 + 256 * (a4 + 256 * (a5 + 256 * (a6 + 256 * (a7 + 256 * 0))))))) +
              (a0 + 256 * (a1 + 256 * (a2 + 256 * (a3 + 256 * (a4 + 256 * (a5 + 256 * (a6 + 256 * (a7 + 256 * 0)))))))) / 256) /
            65536 +
        (a0 + 256 * (a1 + 256 * (a2 + 256 * (a3 + 256 * (a4 + 256 * (a5 + 256 * (a6 + 256 * (a7 + 256 * 0))))))) +
              (a0 + 256 * (a1 + 256 * (a2 + 256 * (a3 + 256 * (a4 + 256 * (a5 + 256 * (a6 + 256 * (a7 + 256 * 0)))))))) / 256 +
            (a0 + 256 * (a1 + 256 * (a2 + 256 * (a3 + 256 * (a4 + 256 * (a5 + 256 * (a6 + 256 * (a7 + 256 * 0))))))) +
                (a0 + 256 * (a1 + 256 * (a2 + 256 * (a3 + 256 * (a4 + 256 * (a5 + 256 * (a6 + 256 * (a7 + 256 * 0)))))))) / 256) /
              65536) /
          4294967296) %
      128 =
    a0 + (a1 + (a2 + (a3 + (a4 + (a5 + (a6 + (a7 + 0))))))) := by
  rw [show a7 + 256 * 0 = a7 by omega]
  generalize h : a6 + 256 * a7 = q6
  generalize g5 : a5 + 256 * q6 = q5
  generalize g4 : a4 + 256 * q5 = q4
  generalize g3 : a3 + 256 * q4 = q3
  generalize g2 : a2 + 256 * q3 = q2
  generalize g1 : a1 + 256 * q2 = q1
  have e1 : (a0 + 256 * q1) / 256 = q1 := by omega
  rw [e1]
  have e2 : (a0 + 256 * q1 + q1) / 65536 = q2 + q3 := by omega
  rw [e2]
  have e3 : (a0 + 256 * q1 + q1 + (q2 + q3)) / 4294967296 = q4 + q5 + (q6 + a7) := by omega
  rw [e3]
  omega

theorem sum_pops (x : Nat) :
    let s := pops 8 x
    let t := s + s / 256
    let u := t + t / 65536
    (u + u / 4294967296) % 128 = pop 8 x := by
  have h : ∀ y, y3 (y2 (y1 (y % 256))) ≤ 8 := fun y => (y21_le ⟨y % 256, by omega⟩).2
  simp only [pops, pop]
  have h0 := h x
  have h1 := h (x / 256)
  have h2 := h (x / 256 / 256)
  have h3 := h (x / 256 / 256 / 256)
  have h4 := h (x / 256 / 256 / 256 / 256)
  have h5 := h (x / 256 / 256 / 256 / 256 / 256)
  have h6 := h (x / 256 / 256 / 256 / 256 / 256 / 256)
  have h7 := h (x / 256 / 256 / 256 / 256 / 256 / 256 / 256)
  generalize y3 (y2 (y1 (x % 256))) = a0 at *
  generalize y3 (y2 (y1 (x / 256 % 256))) = a1 at *
  generalize y3 (y2 (y1 (x / 256 / 256 % 256))) = a2 at *
  generalize y3 (y2 (y1 (x / 256 / 256 / 256 % 256))) = a3 at *
  generalize y3 (y2 (y1 (x / 256 / 256 / 256 / 256 % 256))) = a4 at *
  generalize y3 (y2 (y1 (x / 256 / 256 / 256 / 256 / 256 % 256))) = a5 at *
  generalize y3 (y2 (y1 (x / 256 / 256 / 256 / 256 / 256 / 256 % 256))) = a6 at *
  generalize y3 (y2 (y1 (x / 256 / 256 / 256 / 256 / 256 / 256 / 256 % 256))) = a7 at *
  exact sum8 h0 h1 h2 h3 h4 h5 h6 h7

/-! ### how many bits are told -/

theorem bitsN_add (f : Nat → Bool) (n : Nat) : ∀ m, bitsN f (n + m) = bitsN f n + 2 ^ n * bitsN (fun i => f (n + i)) m
  | 0 => by simp [bitsN]
  | m + 1 => by
    rw [← Nat.add_assoc]
    simp only [bitsN]
    rw [bitsN_add f n m, Nat.mul_add, Nat.add_assoc]
    congr 2
    cases f (n + m) <;> simp [Nat.pow_add]

theorem byte_all : ∀ a b c d e f g h : Bool, y3 (y2 (y1 (0 + (bif a then 2 ^ 0 else 0) + (bif b then 2 ^ 1 else 0) + (bif c then 2 ^ 2 else 0) + (bif d then 2 ^ 3 else 0) + (bif e then 2 ^ 4 else 0) + (bif f then 2 ^ 5 else 0) + (bif g then 2 ^ 6 else 0) + (bif h then 2 ^ 7 else 0)))) =
    a.toNat + b.toNat + c.toNat + d.toNat + e.toNat + f.toNat + g.toNat + h.toNat := by decide +kernel

theorem pop_bits (f : Nat → Bool) : ∀ k, ∀ j, pop k (bitsN (fun i => f (j + i)) (8 * k)) = ((List.range (8 * k)).map (j + ·)).countP f
  | 0, j => rfl
  | k + 1, j => by
    have e : bitsN (fun i => f (j + i)) (8 * (k + 1)) = bitsN (fun i => f (j + i)) 8 + 256 * bitsN (fun i => f (j + 8 + i)) (8 * k) := by
      rw [show 8 * (k + 1) = 8 + 8 * k by omega, bitsN_add]
      simp only [Nat.add_assoc]
    have hlt := bitsN_lt (fun i => f (j + i)) 8
    simp only [pop]
    rw [e, show (bitsN (fun i => f (j + i)) 8 + 256 * bitsN (fun i => f (j + 8 + i)) (8 * k)) % 256 = bitsN (fun i => f (j + i)) 8 by omega,
      show (bitsN (fun i => f (j + i)) 8 + 256 * bitsN (fun i => f (j + 8 + i)) (8 * k)) / 256 = bitsN (fun i => f (j + 8 + i)) (8 * k) by omega, pop_bits f k (j + 8)]
    have h8 : List.range (8 * (k + 1)) = List.range 8 ++ (List.range (8 * k)).map (8 + ·) := by
      rw [show 8 * (k + 1) = 8 + 8 * k by omega, List.range_add]
    rw [h8, List.map_append, List.countP_append, List.map_map]
    have h1 : y3 (y2 (y1 (bitsN (fun i => f (j + i)) 8))) = ((List.range 8).map (j + ·)).countP f := by
      have := byte_all (f (j + 0)) (f (j + 1)) (f (j + 2)) (f (j + 3)) (f (j + 4)) (f (j + 5)) (f (j + 6)) (f (j + 7))
      simp only [bitsN]
      rw [this]
      show _ = List.countP f [j + 0, j + 1, j + 2, j + 3, j + 4, j + 5, j + 6, j + 7]
      simp only [List.countP_cons, List.countP_nil]
      cases f (j + 0) <;> cases f (j + 1) <;> cases f (j + 2) <;> cases f (j + 3) <;> cases f (j + 4) <;> cases f (j + 5) <;> cases f (j + 6) <;> cases f (j + 7) <;> rfl
    rw [h1]
    congr 2
    apply List.map_congr_left
    intro a _
    show j + 8 + a = j + (8 + a)
    omega

theorem fdiv_nat (a b : Nat) : Int.fdiv (a : Int) (b : Int) = ((a / b : Nat) : Int) := by
  simp [Int.fdiv_eq_ediv]

def ocS (x : Nat) : Nat :=
  let s := w3 8 (w2 8 (w1 8 x))
  let t := s + s / 256
  let u := t + t / 65536
  (u + u / 4294967296) % 128

theorem and_lt {a b n : Nat} (h : b < 2 ^ n) : a &&& b < 2 ^ n := Nat.lt_of_le_of_lt Nat.and_le_right h
theorem mask85 : mask 85 8 = 6148914691236517205 := by decide +kernel
theorem mask51 : mask 51 8 = 3689348814741910323 := by decide +kernel
theorem mask15 : mask 15 8 = 1085102592571150095 := by decide +kernel

theorem conv_u64 {n : Nat} (h : n < 2 ^ 63) : conv IntKind.u64 IntKind.i64 (n : Int) = n := by
  unfold conv
  rw [show IntKind.within .u64 .i64 = false from rfl, cond_false]
  exact wrap64 (by omega) (by omega)
theorem and127 {n : Nat} (h : n < 2 ^ 63) : bitop .and .i64 (n : Int) 127 = ((n % 128 : Nat) : Int) := by
  unfold bitop
  show IntKind.wrap .i64 _ = _
  rw [show IntKind.bits .i64 = 64 from rfl, show (127 : Int) = ((127 : Nat) : Int) from rfl, ofInt_nat, ofInt_nat, BitVec.toNat_and, BitVec.toNat_ofNat, BitVec.toNat_ofNat, Nat.mod_eq_of_lt (by omega), Nat.mod_eq_of_lt (by omega)]
  rw [show (127 : Nat) = 2 ^ 7 - 1 by rfl, Nat.and_two_pow_sub_one_eq_mod]
  exact wrap64 (by omega) (by omega)

theorem ones_val {x : Nat} (hx : x < 2 ^ 64) : bits_OnesCount64 (x : Int) = some ((ocS x : Nat) : Int) := by
  unfold bits_OnesCount64
  have d2 : Int.fdiv (x : Int) 2 = ((x / 2 : Nat) : Int) := fdiv_nat x 2
  have s1 : IntKind.wrap IntKind.u64 (bitop BinOp.and IntKind.u64 (Int.fdiv (x : Int) 2) 6148914691236517205 + bitop BinOp.and IntKind.u64 (x : Int) 6148914691236517205) = ((w1 8 x : Nat) : Int) := by
    have h1 : bitop BinOp.and IntKind.u64 ((x / 2 : Nat) : Int) 6148914691236517205 = ((x / 2 &&& 6148914691236517205 : Nat) : Int) := bitop_and (by omega) (by decide)
    have h2 : bitop BinOp.and IntKind.u64 ((x : Nat) : Int) 6148914691236517205 = ((x &&& 6148914691236517205 : Nat) : Int) := bitop_and hx (by decide)
    rw [d2, h1, h2]
    have l1 := Nat.and_le_right (n := x / 2) (m := 6148914691236517205)
    have l2 := Nat.and_le_right (n := x) (m := 6148914691236517205)
    have := wrap_nat (n := ((x / 2) &&& 6148914691236517205) + (x &&& 6148914691236517205)) (by omega)
    rw [Int.natCast_add] at this
    rw [this]
    unfold w1
    rw [mask85, Int.natCast_add]
  have l1 : w1 8 x < 2 ^ 64 := by
    unfold w1
    rw [mask85]
    have l1 := Nat.and_le_right (n := x / 2) (m := 6148914691236517205)
    have l2 := Nat.and_le_right (n := x) (m := 6148914691236517205)
    omega
  rw [s1]
  generalize hy : w1 8 x = y at *
  have s2 : IntKind.wrap IntKind.u64 (bitop BinOp.and IntKind.u64 (Int.fdiv (y : Int) 4) 3689348814741910323 + bitop BinOp.and IntKind.u64 (y : Int) 3689348814741910323) = ((w2 8 y : Nat) : Int) := by
    have h1 : bitop BinOp.and IntKind.u64 ((y / 4 : Nat) : Int) 3689348814741910323 = ((y / 4 &&& 3689348814741910323 : Nat) : Int) := bitop_and (by omega) (by decide)
    have h2 : bitop BinOp.and IntKind.u64 ((y : Nat) : Int) 3689348814741910323 = ((y &&& 3689348814741910323 : Nat) : Int) := bitop_and l1 (by decide)
    rw [show Int.fdiv (y : Int) 4 = ((y / 4 : Nat) : Int) from fdiv_nat y 4, h1, h2]
    have l1 := Nat.and_le_right (n := y / 4) (m := 3689348814741910323)
    have l2 := Nat.and_le_right (n := y) (m := 3689348814741910323)
    have := wrap_nat (n := ((y / 4) &&& 3689348814741910323) + (y &&& 3689348814741910323)) (by omega)
    rw [Int.natCast_add] at this
    rw [this]
    unfold w2
    rw [mask51, Int.natCast_add]
  have l2 : w2 8 y ≤ 2 * 3689348814741910323 := by
    unfold w2
    rw [mask51]
    have l1 := Nat.and_le_right (n := y / 4) (m := 3689348814741910323)
    have l2 := Nat.and_le_right (n := y) (m := 3689348814741910323)
    omega
  rw [s2]
  generalize hz : w2 8 y = z at *
  have s3 : bitop BinOp.and IntKind.u64 (IntKind.wrap IntKind.u64 (Int.fdiv (z : Int) 16 + (z : Int))) 1085102592571150095 = ((w3 8 z : Nat) : Int) := by
    rw [show Int.fdiv (z : Int) 16 = ((z / 16 : Nat) : Int) from fdiv_nat z 16, ← Int.natCast_add, wrap_nat (by omega)]
    have h1 : bitop BinOp.and IntKind.u64 ((z / 16 + z : Nat) : Int) 1085102592571150095 = (((z / 16 + z) &&& 1085102592571150095 : Nat) : Int) := bitop_and (by omega) (by decide)
    rw [h1]
    unfold w3
    rw [mask15]
  have l3 : w3 8 z ≤ 1085102592571150095 := by
    unfold w3
    rw [mask15]
    exact Nat.and_le_right
  rw [s3]
  generalize hp : w3 8 z = p at *
  rw [show Int.fdiv (p : Int) 256 = ((p / 256 : Nat) : Int) from fdiv_nat p 256, ← Int.natCast_add, wrap_nat (by omega),
    show Int.fdiv ((p + p / 256 : Nat) : Int) 65536 = (((p + p / 256) / 65536 : Nat) : Int) from fdiv_nat _ 65536, ← Int.natCast_add, wrap_nat (by omega),
    show Int.fdiv ((p + p / 256 + (p + p / 256) / 65536 : Nat) : Int) 4294967296 = (((p + p / 256 + (p + p / 256) / 65536) / 4294967296 : Nat) : Int) from fdiv_nat _ 4294967296, ← Int.natCast_add, wrap_nat (by omega), conv_u64 (by omega), and127 (by omega)]
  unfold ocS
  rw [hy, hz, hp]

theorem pop_lt {x : Nat} : ocS x = pop 8 x := by
  unfold ocS
  rw [w_pops]
  exact sum_pops x

/-- How many bits there are. -/
theorem ones_bits (f : Nat → Bool) {n : Nat} (hn : n ≤ 64) : bits_OnesCount64 (bitsN f n : Nat) = some (((List.range n).countP f : Nat) : Int) := by
  rw [ones_val (lt64 f hn), pop_lt]
  have e : bitsN f n = bitsN (fun i => (fun i => f i && decide (i < n)) (0 + i)) (8 * 8) := by
    apply Nat.eq_of_testBit_eq
    intro i
    rw [bitsN_bit, bitsN_bit]
    by_cases h : i < n
    · simp [h, show i < 64 by omega]
    · simp [h]
  rw [e, pop_bits (fun i => f i && decide (i < n)) 8 0]
  congr 2
  have h64 : List.range (8 * 8) = List.range n ++ (List.range (64 - n)).map (n + ·) := by
    rw [← List.range_add]; congr 1; omega
  have hid : (List.range (8 * 8)).map (0 + ·) = List.range (8 * 8) := by
    have : (fun x : Nat => 0 + x) = id := by funext x; simp
    rw [this, List.map_id]
  rw [hid, h64, List.countP_append]
  have h1 : (List.range n).countP (fun i => f i && decide (i < n)) = (List.range n).countP f := by
    apply List.countP_congr
    intro x hx
    simp only [List.mem_range] at hx
    simp [hx]
  have h2 : ((List.range (64 - n)).map (n + ·)).countP (fun i => f i && decide (i < n)) = 0 := by
    rw [List.countP_eq_zero]
    intro x hx
    obtain ⟨a, _, rfl⟩ := List.mem_map.1 hx
    simp
  rw [h1, h2, Nat.add_zero]

/-- How many squares a set has. -/
def cntS (f : Nat → Bool) : Nat := (List.range 81).countP f
theorem cntS_le (f : Nat → Bool) : cntS f ≤ 81 := Nat.le_trans List.countP_le_length (by simp)
theorem count_set (f : Nat → Bool) : set_Count (sLo f) (sHi f) = some ((cntS f : Nat) : Int) := by
  have hle := cntS_le f
  unfold set_Count sLo sHi
  have e : cntS f = (List.range 63).countP f + (List.range 18).countP fun i => f (63 + i) := by
    unfold cntS
    rw [range81, List.countP_append, List.countP_map]
    rfl
  rw [ones_bits f (by omega), ob_some, ones_bits (fun i => f (63 + i)) (by omega), ob_some, ← Int.natCast_add, ← e, wrap_small (by omega) (by omega)]

end Go.Kk.Pl
