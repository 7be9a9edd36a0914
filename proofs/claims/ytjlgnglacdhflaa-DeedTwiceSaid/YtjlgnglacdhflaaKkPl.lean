/- Printed by a tool of this project (KkGen): the plain functions that the program's code comes to. -/
import Derived.Test.YtjlgnglacdhflaaKkE
namespace Go.Kk.Pl

-- FN table_New table_New
def table_New (x0 : Int) : Option ((Int) ⊕ (Int × Nat × Int × Nat × List (List Int))) :=
  br (decide (x0 < 1))
   (some (Sum.inl (1)))
   (br (decide (x0 > 65536))
    (some (Sum.inl (1)))
    (br (decide (0 ≤ x0))
     (br (decide (x0 ≤ x0))
      (br (decide (160 * x0 ≤ 281474976710656))
       (some (Sum.inr (0, Int.toNat x0, 0, Int.toNat x0, List.replicate (Int.toNat x0) [0, 0, 0, 0, 0, 0, 0, 0, 0, 0, 0, 0, 0, 0, 0, 0, 0, 0, 0, 0, 0, 0, 0, 0, 0, 0, 0, 0, 0, 0, 0, 0, 0, 0, 0, 0, 0, 0, 0, 0, 0, 0, 0, 0, 0, 0, 0, 0, 0, 0, 0, 0, 0, 0, 0, 0, 0, 0, 0, 0, 0, 0, 0, 0, 0, 0, 0, 0, 0, 0, 0, 0, 0, 0, 0, 0, 0, 0, 0, 0, 0, 0, 0, 0, 0, 0, 0, 0, 0, 0, 0, 0, 0, 0, 0, 0, 0, 0, 0, 0, 0, 0, 0, 0, 0, 0])))
       (none))
      (none))
     (none)))
-- END

-- FN set_Square set_Square
def set_Square (x0 : Int) (x1 : Int) : Option (Int) :=
  br (decide (x0 < 0))
   (some (-1))
   (br (decide (x0 > 8))
    (some (-1))
    (br (decide (x1 < 0))
     (some (-1))
     (br (decide (x1 > 8))
      (some (-1))
      (some (IntKind.wrap IntKind.i64 (IntKind.wrap IntKind.i64 (9 * x0) + x1))))))
-- END

-- FN board_Start_1 board_Start_1
def board_Start_1 (x0 : Int) (x1 : Int) (x2 : Int) : Option (Int) :=
  br (x1 == 1)
   (ob (set_Square x2 x0) fun a3 =>
   some (a3))
   (ob (set_Square x2 (IntKind.wrap IntKind.i64 (8 - x0))) fun a3 =>
   some (a3))
-- END

-- FN piece_Of piece_Of
def piece_Of (x0 : Int) (x1 : Int) : Option (Int) :=
  br (x0 != 0)
   (br (x0 != 1)
    (some (0))
    (br (decide (x1 < 1))
     (some (0))
     (br (decide (x1 > 15))
      (some (0))
      (br (x1 == 13)
       (some (0))
       (some (conv IntKind.i64 IntKind.i8 (IntKind.wrap IntKind.i64 (IntKind.wrap IntKind.i64 (16 * x0) + x1))))))))
   (br (decide (x1 < 1))
    (some (0))
    (br (decide (x1 > 15))
     (some (0))
     (br (x1 == 13)
      (some (0))
      (some (conv IntKind.i64 IntKind.i8 (IntKind.wrap IntKind.i64 (IntKind.wrap IntKind.i64 (16 * x0) + x1)))))))
-- END

-- FN board_Start board_Start
def board_Startl7s (rec : Int → Int → List Int → List Int → Int → List Int → List Int → Int → List Int → Int → Option (Int × List Int × List Int × Int × List Int × List Int × Int × List Int)) (x0 : Int) (x1 : Int) (x2 : List Int) (x3 : List Int) (x4 : Int) (x5 : List Int) (x6 : List Int) (x7 : Int) (x8 : List Int) (x9 : Int) : Option (Int × List Int × List Int × Int × List Int × List Int × Int × List Int) :=
  br (decide (x1 < 2))
   (ob (board_Start_1 0 x1 x9) fun a18 =>
   br (inB x9 9)
    (ob (piece_Of x1 (List.getD x8 (Int.toNat x9) 0)) fun a19 =>
    br (inB a18 81)
     (ob (board_Start_1 2 x1 x9) fun a20 =>
     ob (piece_Of x1 1) fun a21 =>
     br (inB a20 81)
      (rec x0 (IntKind.wrap IntKind.i64 (x1 + 1)) x2 x3 x4 (List.set (List.set x5 (Int.toNat a18) a19) (Int.toNat a20) a21) x6 x7 x8 x9)
      (none))
     (none))
    (none))
   (some (x0, x2, x3, x4, x5, x6, x7, x8))
def board_Startl7 : Nat → Int → Int → List Int → List Int → Int → List Int → List Int → Int → List Int → Int → Option (Int × List Int × List Int × Int × List Int × List Int × Int × List Int)
  | 0, _, _, _, _, _, _, _, _, _, _ => none
  | f + 1, x0, x1, x2, x3, x4, x5, x6, x7, x8, x9 => board_Startl7s (board_Startl7 f) x0 x1 x2 x3 x4 x5 x6 x7 x8 x9
def board_Startl4s (rec : Int → List Int → List Int → Int → List Int → List Int → Int → List Int → Option (List Int × List Int × Int × List Int × List Int × Int)) (x0 : Int) (x1 : List Int) (x2 : List Int) (x3 : Int) (x4 : List Int) (x5 : List Int) (x6 : Int) (x7 : List Int) : Option (List Int × List Int × Int × List Int × List Int × Int) :=
  br (decide (x0 < 9))
   (ob (board_Startl7 many x0 0 x1 x2 x3 x4 x5 x6 x7 x0) fun (a8_0, a8_1, a8_2, a8_3, a8_4, a8_5, a8_6, a8_7) =>
   rec (IntKind.wrap IntKind.i64 (a8_0 + 1)) a8_1 a8_2 a8_3 a8_4 a8_5 a8_6 a8_7)
   (some (x1, x2, x3, x4, x5, x6))
def board_Startl4 : Nat → Int → List Int → List Int → Int → List Int → List Int → Int → List Int → Option (List Int × List Int × Int × List Int × List Int × Int)
  | 0, _, _, _, _, _, _, _, _ => none
  | f + 1, x0, x1, x2, x3, x4, x5, x6, x7 => board_Startl4s (board_Startl4 f) x0 x1 x2 x3 x4 x5 x6 x7
def board_Start : Option (List Int × List Int × Int) :=
  ob (board_Startl4 many 0 ([0, 0, 0, 0, 0, 0, 0, 0, 0, 0, 0, 0, 0, 0, 0, 0, 0, 0, 0, 0, 0, 0, 0, 0, 0, 0, 0, 0, 0, 0, 0, 0, 0, 0, 0, 0, 0, 0, 0, 0, 0, 0, 0, 0, 0, 0, 0, 0, 0, 0, 0, 0, 0, 0, 0, 0, 0, 0, 0, 0, 0, 0, 0, 0, 0, 0, 0, 0, 0, 0, 0, 0, 0, 0, 0, 0, 0, 0, 0, 0, 0]) ([0, 0, 0, 0, 0, 0, 0, 0, 0, 0, 0, 0, 0, 0, 0, 0]) 0 ([0, 0, 0, 0, 0, 0, 0, 0, 0, 0, 0, 0, 0, 0, 0, 0, 0, 0, 0, 0, 0, 0, 0, 0, 0, 0, 0, 0, 0, 0, 0, 0, 0, 0, 0, 0, 0, 0, 0, 0, 0, 0, 0, 0, 0, 0, 0, 0, 0, 0, 0, 0, 0, 0, 0, 0, 0, 0, 0, 0, 0, 0, 0, 0, 0, 0, 0, 0, 0, 0, 0, 0, 0, 0, 0, 0, 0, 0, 0, 0, 0]) ([0, 0, 0, 0, 0, 0, 0, 0, 0, 0, 0, 0, 0, 0, 0, 0]) 0 ([2, 3, 4, 5, 8, 5, 4, 3, 2])) fun (_, _, _, a0_3, a0_4, a0_5) =>
  ob (set_Square 7 7) fun a6 =>
  ob (set_Square 1 7) fun a7 =>
  br (inB a6 81)
   (br (inB a7 81)
    (ob (set_Square 1 1) fun a8 =>
    ob (set_Square 7 1) fun a9 =>
    br (inB a8 81)
     (br (inB a9 81)
      (some (List.set (List.set (List.set (List.set a0_3 (Int.toNat a6) 6) (Int.toNat a7) 7) (Int.toNat a8) 22) (Int.toNat a9) 23, a0_4, a0_5))
      (none))
     (none))
    (none))
   (none)
-- END

-- FN piece_Kind piece_Kind
def piece_Kind (x0 : Int) : Option (Int) :=
  br (decide (x0 ≤ 0))
   (br (x0 == 8)
    (some (8))
    (br (x0 == 24)
     (some (8))
     (some (0))))
   (br (decide (x0 > 31))
    (br (x0 == 8)
     (some (8))
     (br (x0 == 24)
      (some (8))
      (some (0))))
    (br (bitop BinOp.and IntKind.i64 x0 15 == 0)
     (br (x0 == 8)
      (some (8))
      (br (x0 == 24)
       (some (8))
       (some (0))))
     (br (bitop BinOp.and IntKind.i64 x0 15 == 13)
      (br (x0 == 8)
       (some (8))
       (br (x0 == 24)
        (some (8))
        (some (0))))
      (some (bitop BinOp.and IntKind.i64 x0 15)))))
-- END

-- FN key_mix key_mix
def key_mix (x0 : Int) : Option (Int) :=
  some (bitop BinOp.xor IntKind.u64 (IntKind.wrap IntKind.u64 (bitop BinOp.xor IntKind.u64 (IntKind.wrap IntKind.u64 (bitop BinOp.xor IntKind.u64 (IntKind.wrap IntKind.u64 (x0 + 11400714819323198485)) (Int.fdiv (IntKind.wrap IntKind.u64 (x0 + 11400714819323198485)) 1073741824) * 13787848793156543929)) (Int.fdiv (IntKind.wrap IntKind.u64 (bitop BinOp.xor IntKind.u64 (IntKind.wrap IntKind.u64 (x0 + 11400714819323198485)) (Int.fdiv (IntKind.wrap IntKind.u64 (x0 + 11400714819323198485)) 1073741824) * 13787848793156543929)) 134217728) * 10723151780598845931)) (Int.fdiv (IntKind.wrap IntKind.u64 (bitop BinOp.xor IntKind.u64 (IntKind.wrap IntKind.u64 (bitop BinOp.xor IntKind.u64 (IntKind.wrap IntKind.u64 (x0 + 11400714819323198485)) (Int.fdiv (IntKind.wrap IntKind.u64 (x0 + 11400714819323198485)) 1073741824) * 13787848793156543929)) (Int.fdiv (IntKind.wrap IntKind.u64 (bitop BinOp.xor IntKind.u64 (IntKind.wrap IntKind.u64 (x0 + 11400714819323198485)) (Int.fdiv (IntKind.wrap IntKind.u64 (x0 + 11400714819323198485)) 1073741824) * 13787848793156543929)) 134217728) * 10723151780598845931)) 2147483648))
-- END

-- FN key_Piece key_Piece
def key_Piece (x0 : Int) (x1 : Int) : Option (Int) :=
  ob (piece_Kind x1) fun a2 =>
  br (a2 == 0)
   (some (0))
   (br (decide (x0 < 0))
    (some (0))
    (br (decide (x0 ≥ 81))
     (some (0))
     (ob (key_mix (IntKind.wrap IntKind.u64 (IntKind.wrap IntKind.u64 (conv IntKind.i64 IntKind.u64 x0 * 32) + conv IntKind.i8 IntKind.u64 x1))) fun a3 =>
     some (a3))))
-- END

-- FN key_Hand key_Hand
def key_Hand (x0 : Int) (x1 : Int) (x2 : Int) : Option (Int) :=
  br (x0 != 0)
   (br (x0 != 1)
    (some (0))
    (br (decide (x1 < 1))
     (some (0))
     (br (decide (x1 ≥ 8))
      (some (0))
      (br (decide (x2 ≤ 0))
       (some (0))
       (br (decide (x2 > 18))
        (some (0))
        (ob (key_mix (IntKind.wrap IntKind.u64 (IntKind.wrap IntKind.u64 (IntKind.wrap IntKind.u64 (65536 + IntKind.wrap IntKind.u64 (conv IntKind.i64 IntKind.u64 x0 * 1024)) + IntKind.wrap IntKind.u64 (conv IntKind.i64 IntKind.u64 x1 * 32)) + conv IntKind.i64 IntKind.u64 x2))) fun a3 =>
        some (a3)))))))
   (br (decide (x1 < 1))
    (some (0))
    (br (decide (x1 ≥ 8))
     (some (0))
     (br (decide (x2 ≤ 0))
      (some (0))
      (br (decide (x2 > 18))
       (some (0))
       (ob (key_mix (IntKind.wrap IntKind.u64 (IntKind.wrap IntKind.u64 (IntKind.wrap IntKind.u64 (65536 + IntKind.wrap IntKind.u64 (conv IntKind.i64 IntKind.u64 x0 * 1024)) + IntKind.wrap IntKind.u64 (conv IntKind.i64 IntKind.u64 x1 * 32)) + conv IntKind.i64 IntKind.u64 x2))) fun a3 =>
       some (a3))))))
-- END

-- FN key_Side key_Side
def key_Side : Option (Int) :=
  ob (key_mix 1048576) fun a0 =>
  some (a0)
-- END

-- FN key_Of key_Of
def key_Ofl3s (rec : Int → List Int → Int → List Int → List Int → Int → Option (Int × List Int × List Int × Int)) (x0 : Int) (x1 : List Int) (x2 : Int) (x3 : List Int) (x4 : List Int) (x5 : Int) : Option (Int × List Int × List Int × Int) :=
  br (decide (x2 < 81))
   (br (inB x2 81)
    (ob (key_Piece x2 (List.getD x1 (bif true then Int.toNat x2 else Int.toNat x2 * 1) 0)) fun a9 =>
    rec (bitop BinOp.xor IntKind.u64 x0 a9) x1 (IntKind.wrap IntKind.i64 (x2 + 1)) x3 x4 x5)
    (none))
   (some (x0, x3, x4, x5))
def key_Ofl3 : Nat → Int → List Int → Int → List Int → List Int → Int → Option (Int × List Int × List Int × Int)
  | 0, _, _, _, _, _, _ => none
  | f + 1, x0, x1, x2, x3, x4, x5 => key_Ofl3s (key_Ofl3 f) x0 x1 x2 x3 x4 x5
def key_Ofl11s (rec : Int → Int → List Int → Int → List Int → Int → List Int → List Int → Int → Option (Int × List Int × Int × List Int × List Int × Int)) (x0 : Int) (x1 : Int) (x2 : List Int) (x3 : Int) (x4 : List Int) (x5 : Int) (x6 : List Int) (x7 : List Int) (x8 : Int) : Option (Int × List Int × Int × List Int × List Int × Int) :=
  br (decide (x5 < 8))
   (br (inB x5 8)
    (ob (key_Hand x1 x5 (conv IntKind.i8 IntKind.i64 (List.getD x4 (bif true then Int.toNat x5 else Int.toNat x5 * 1) 0))) fun a22 =>
    rec (bitop BinOp.xor IntKind.u64 x0 a22) x1 x2 x3 x4 (IntKind.wrap IntKind.i64 (x5 + 1)) x6 x7 x8)
    (none))
   (some (x0, x2, x3, x6, x7, x8))
def key_Ofl11 : Nat → Int → Int → List Int → Int → List Int → Int → List Int → List Int → Int → Option (Int × List Int × Int × List Int × List Int × Int)
  | 0, _, _, _, _, _, _, _, _, _ => none
  | f + 1, x0, x1, x2, x3, x4, x5, x6, x7, x8 => key_Ofl11s (key_Ofl11 f) x0 x1 x2 x3 x4 x5 x6 x7 x8
def key_Ofl8s (rec : Int → List Int → Int → List Int → List Int → Int → Option (Int × List Int × List Int × Int)) (x0 : Int) (x1 : List Int) (x2 : Int) (x3 : List Int) (x4 : List Int) (x5 : Int) : Option (Int × List Int × List Int × Int) :=
  br (decide (x2 < 2))
   (br (inB x2 2)
    (ob (key_Ofl11 many x0 x2 x1 x2 (List.take 8 (List.drop (Nat.add (Nat.mul (Int.toNat x2) 7) (Int.toNat x2)) x1)) 0 x3 x4 x5) fun (a13_0, a13_1, a13_2, a13_3, a13_4, a13_5) =>
    rec a13_0 a13_1 (IntKind.wrap IntKind.i64 (a13_2 + 1)) a13_3 a13_4 a13_5)
    (none))
   (some (x0, x3, x4, x5))
def key_Ofl8 : Nat → Int → List Int → Int → List Int → List Int → Int → Option (Int × List Int × List Int × Int)
  | 0, _, _, _, _, _, _ => none
  | f + 1, x0, x1, x2, x3, x4, x5 => key_Ofl8s (key_Ofl8 f) x0 x1 x2 x3 x4 x5
def key_Of (x0 : List Int) (x1 : List Int) (x2 : Int) : Option (Int) :=
  ob (key_Ofl3 many 0 x0 0 x0 x1 x2) fun (a3_0, a3_1, a3_2, a3_3) =>
  ob (key_Ofl8 many a3_0 a3_2 0 a3_1 a3_2 a3_3) fun (a7_0, _, _, a7_3) =>
  br (a7_3 == 1)
   (ob (key_Side ) fun a11 =>
   some (bitop BinOp.xor IntKind.u64 a7_0 a11))
   (some (a7_0))
-- END

-- FN table_at table_at
def table_at (x0 : List Int) (x1 : List Int) (x2 : Int) (x3 : Nat) (_x4 : Int) (_x5 : Nat) (_x6 : List (List Int)) : Option (Nat) :=
  ob (key_Of x0 x1 x2) fun a7 =>
  br (decide (Int.ofNat (x3 % 18446744073709551616) = 0))
   (none)
   (br (inB (Int.tmod a7 (Int.ofNat (x3 % 18446744073709551616))) x3)
    (some (Int.toNat (Int.tmod a7 (Int.ofNat (x3 % 18446744073709551616)))))
    (none))
-- END

-- FN table_Put table_Put
def table_Put (x0 : List Int) (x1 : List Int) (x2 : Int) (x3 : Int) (x4 : Int) (x5 : Int) (x6 : Int) (x7 : Int) (x8 : Int) (x9 : Bool) (x10 : Nat) (x11 : Int) (x12 : Nat) (x13 : List (List Int)) : Option (Nat × Int × Nat × List (List Int)) :=
  ob (table_at x0 x1 x2 x10 x11 x12 x13) fun a14 =>
  br (!List.getD (List.getD x13 a14 []) 0 0 != 0)
   (some (x10, IntKind.wrap IntKind.i64 (x11 + 1), x12, List.set x13 a14 (1 :: List.append (List.append [] (List.append x0 (List.append x1 [x2, x3, x4, x5, x6, x7, x8, bi x9]))) (List.drop 106 (List.getD x13 a14 [])))))
   (some (x10, x11, x12, List.set x13 a14 (1 :: List.append (List.append [] (List.append x0 (List.append x1 [x2, x3, x4, x5, x6, x7, x8, bi x9]))) (List.drop 106 (List.getD x13 a14 [])))))
-- END

-- FN table_Get table_Get
def table_Get (x0 : List Int) (x1 : List Int) (x2 : Int) (x3 : Nat) (x4 : Int) (x5 : Nat) (x6 : List (List Int)) : Option (Int × Int × Int × Int × Int × Int × Bool × Bool) :=
  ob (table_at x0 x1 x2 x3 x4 x5 x6) fun a7 =>
  br (!List.getD (List.getD x6 a7 []) 0 0 != 0)
   (some (0, 0, 0, 0, 0, 0, false, false))
   (br (!(List.take 81 (List.take 98 (List.drop 1 (List.getD x6 a7 []))) == x0 && (List.take 16 (List.drop 81 (List.take 98 (List.drop 1 (List.getD x6 a7 [])))) == x1 && List.headD (List.drop 16 (List.drop 81 (List.take 98 (List.drop 1 (List.getD x6 a7 []))))) 0 == x2)))
    (some (0, 0, 0, 0, 0, 0, false, false))
    (some (List.headD (List.take 7 (List.drop 99 (List.getD x6 a7 []))) 0, List.headD (List.tail (List.take 7 (List.drop 99 (List.getD x6 a7 [])))) 0, List.headD (List.tail (List.tail (List.take 7 (List.drop 99 (List.getD x6 a7 []))))) 0, List.headD (List.tail (List.tail (List.tail (List.take 7 (List.drop 99 (List.getD x6 a7 [])))))) 0, List.headD (List.tail (List.tail (List.tail (List.tail (List.take 7 (List.drop 99 (List.getD x6 a7 []))))))) 0, List.headD (List.tail (List.tail (List.tail (List.tail (List.tail (List.take 7 (List.drop 99 (List.getD x6 a7 [])))))))) 0, List.headD (List.tail (List.tail (List.tail (List.tail (List.tail (List.tail (List.take 7 (List.drop 99 (List.getD x6 a7 []))))))))) 0 != 0, true)))
-- END

-- FN table_Len table_Len
def table_Len (_x0 : Nat) (x1 : Int) (_x2 : Nat) (_x3 : List (List Int)) : Option (Int) :=
  some (x1)
-- END

-- FN law18_keeps law18_keeps
def law18_keeps : Option (Bool) :=
  ob (table_New 4) fun t0_2 =>
  sw t0_2 (fun _ =>
   some (false))
   (fun (a0_0, a0_1, a0_2, a0_3, a0_4) =>
   br (a0_0 != 0)
    (some (false))
    (ob (board_Start ) fun (a5_0, a5_1, a5_2) =>
    ob (table_Put a5_0 a5_1 a5_2 3 7 0 0 0 0 false a0_1 a0_2 a0_3 a0_4) fun (a8_0, a8_1, a8_2, a8_3) =>
    ob (board_Start ) fun (a12_0, a12_1, a12_2) =>
    ob (table_Get a12_0 a12_1 a12_2 a8_0 a8_1 a8_2 a8_3) fun (a15_0, a15_1, _, _, _, _, _, a15_7) =>
    ob (table_Get ([0, 0, 0, 0, 0, 0, 0, 0, 0, 0, 0, 0, 0, 0, 0, 0, 0, 0, 0, 0, 0, 0, 0, 0, 0, 0, 0, 0, 0, 0, 0, 0, 0, 0, 0, 0, 0, 0, 0, 0, 0, 0, 0, 0, 0, 0, 0, 0, 0, 0, 0, 0, 0, 0, 0, 0, 0, 0, 0, 0, 0, 0, 0, 0, 0, 0, 0, 0, 0, 0, 0, 0, 0, 0, 0, 0, 0, 0, 0, 0, 0]) ([0, 0, 0, 0, 0, 0, 0, 0, 0, 0, 0, 0, 0, 0, 0, 0]) 0 a8_0 a8_1 a8_2 a8_3) fun (_, _, _, _, _, _, _, a23_7) =>
    br (a15_7)
     (br (!a23_7)
      (br (a15_1 == 7)
       (br (a15_0 == 3)
        (ob (table_Len a8_0 a8_1 a8_2 a8_3) fun a31 =>
        br (a31 == 1)
         (some (true))
         (some (false)))
        (some (false)))
       (some (false)))
      (some (false)))
     (some (false))))
-- END

-- FN table_at table_at_v1
def table_at_v1 (_x0 : List Int) (_x1 : List Int) (_x2 : Int) : Option (Empty) :=
  none
-- END

-- FN table_Put table_Put_v1
def table_Put_v1 (x0 : List Int) (x1 : List Int) (x2 : Int) (_x3 : Int) (_x4 : Int) (_x5 : Int) (_x6 : Int) (_x7 : Int) (_x8 : Int) (_x9 : Bool) : Option (Empty) :=
  ob (table_at_v1 x0 x1 x2) fun _ =>
  none
-- END

-- FN law18_TableRoom law18_TableRoom
def law18_TableRooml7s (_rec : Nat → Nat → Nat → Nat → Int → Int → Nat → List (List Int) → Option (Nat × List (List Int))) (_x0 : Nat) (_x1 : Nat) (x2 : Nat) (x3 : Nat) (x4 : Int) (x5 : Int) (x6 : Nat) (x7 : List (List Int)) : Option (Nat × List (List Int)) :=
  br (decide (x5 < x4))
   (br (inB x5 x3)
    (ob (table_Put_v1 (List.take 81 (List.take 98 (List.getD x7 (x2 + Int.toNat x5) []))) (List.take 16 (List.drop 81 (List.take 98 (List.getD x7 (x2 + Int.toNat x5) [])))) (List.headD (List.drop 16 (List.drop 81 (List.take 98 (List.getD x7 (x2 + Int.toNat x5) [])))) 0) x5 0 0 0 0 0 false) fun _ =>
    none)
    (none))
   (some (x6, x7))
def law18_TableRooml7 : Nat → Nat → Nat → Nat → Nat → Int → Int → Nat → List (List Int) → Option (Nat × List (List Int))
  | 0, _, _, _, _, _, _, _, _ => none
  | f + 1, x0, x1, x2, x3, x4, x5, x6, x7 => law18_TableRooml7s (law18_TableRooml7 f) x0 x1 x2 x3 x4 x5 x6 x7
def law18_TableRooml16s (rec : Nat → Nat → Nat → Nat → Int → Int → Nat → Nat → Int → Int → Nat → List (List Int) → Nat → Int → List Int → List Int → Int → Nat → List (List Int) → Option ((Nat × Nat × Bool × Nat × Nat × Int × Int × Nat × List (List Int) × Nat × Int × Nat × List (List Int)) ⊕ (Nat × Nat × Nat × Nat × Int × Int × Nat × List (List Int) × Nat × Int × Nat × List (List Int)))) (x0 : Nat) (x1 : Nat) (x2 : Nat) (x3 : Nat) (x4 : Int) (x5 : Int) (x6 : Nat) (x7 : Nat) (x8 : Int) (x9 : Int) (x10 : Nat) (x11 : List (List Int)) (x12 : Nat) (x13 : Int) (x14 : List Int) (x15 : List Int) (x16 : Int) (x17 : Nat) (x18 : List (List Int)) : Option ((Nat × Nat × Bool × Nat × Nat × Int × Int × Nat × List (List Int) × Nat × Int × Nat × List (List Int)) ⊕ (Nat × Nat × Nat × Nat × Int × Int × Nat × List (List Int) × Nat × Int × Nat × List (List Int))) :=
  br (decide (x9 < x8))
   (br (inB x9 x7)
    (ob (table_Get (List.take 81 (List.take 98 (List.getD x11 (x6 + Int.toNat x9) []))) (List.take 16 (List.drop 81 (List.take 98 (List.getD x11 (x6 + Int.toNat x9) [])))) (List.headD (List.drop 16 (List.drop 81 (List.take 98 (List.getD x11 (x6 + Int.toNat x9) [])))) 0) x12 x13 x17 x18) fun (_, _, _, _, _, _, _, a62_7) =>
    br (!a62_7 == (List.take 81 (List.take 98 (List.getD x11 (x6 + Int.toNat x9) [])) == x14 && (List.take 16 (List.drop 81 (List.take 98 (List.getD x11 (x6 + Int.toNat x9) []))) == x15 && List.headD (List.drop 16 (List.drop 81 (List.take 98 (List.getD x11 (x6 + Int.toNat x9) [])))) 0 == x16)))
     (some (Sum.inl (x0, x1, false, x2, x3, x4, x5, x10, x11, x12, x13, x17, x18)))
     (rec x0 x1 x2 x3 x4 x5 x6 x7 x8 (IntKind.wrap IntKind.i64 (x9 + 1)) x10 x11 x12 x13 x14 x15 x16 x17 x18))
    (none))
   (some (Sum.inr (x0, x1, x2, x3, x4, x5, x10, x11, x12, x13, x17, x18)))
def law18_TableRooml16 : Nat → Nat → Nat → Nat → Nat → Int → Int → Nat → Nat → Int → Int → Nat → List (List Int) → Nat → Int → List Int → List Int → Int → Nat → List (List Int) → Option ((Nat × Nat × Bool × Nat × Nat × Int × Int × Nat × List (List Int) × Nat × Int × Nat × List (List Int)) ⊕ (Nat × Nat × Nat × Nat × Int × Int × Nat × List (List Int) × Nat × Int × Nat × List (List Int)))
  | 0, _, _, _, _, _, _, _, _, _, _, _, _, _, _, _, _, _, _, _ => none
  | f + 1, x0, x1, x2, x3, x4, x5, x6, x7, x8, x9, x10, x11, x12, x13, x14, x15, x16, x17, x18 => law18_TableRooml16s (law18_TableRooml16 f) x0 x1 x2 x3 x4 x5 x6 x7 x8 x9 x10 x11 x12 x13 x14 x15 x16 x17 x18
def law18_TableRooml7v1s (rec : Nat → Nat → Nat → Nat → Int → Int → Nat → List (List Int) → Nat → Int → Nat → List (List Int) → Option ((Bool × Nat × List (List Int)) ⊕ (Nat × List (List Int)))) (x0 : Nat) (x1 : Nat) (x2 : Nat) (x3 : Nat) (x4 : Int) (x5 : Int) (x6 : Nat) (x7 : List (List Int)) (x8 : Nat) (x9 : Int) (x10 : Nat) (x11 : List (List Int)) : Option ((Bool × Nat × List (List Int)) ⊕ (Nat × List (List Int))) :=
  br (decide (x5 < x4))
   (br (inB x5 x3)
    (ob (table_Put (List.take 81 (List.take 98 (List.getD x7 (x2 + Int.toNat x5) []))) (List.take 16 (List.drop 81 (List.take 98 (List.getD x7 (x2 + Int.toNat x5) [])))) (List.headD (List.drop 16 (List.drop 81 (List.take 98 (List.getD x7 (x2 + Int.toNat x5) [])))) 0) x5 0 0 0 0 0 false x8 x9 x10 x11) fun (a22_0, a22_1, a22_2, a22_3) =>
    ob (table_Get (List.take 81 (List.take 98 (List.getD x7 (x2 + Int.toNat x5) []))) (List.take 16 (List.drop 81 (List.take 98 (List.getD x7 (x2 + Int.toNat x5) [])))) (List.headD (List.drop 16 (List.drop 81 (List.take 98 (List.getD x7 (x2 + Int.toNat x5) [])))) 0) a22_0 a22_1 a22_2 a22_3) fun (_, _, _, _, _, _, _, a26_7) =>
    ob (table_Get (List.take 81 (List.take 98 (List.getD x7 (x2 + Int.toNat x5) []))) (List.take 16 (List.drop 81 (List.take 98 (List.getD x7 (x2 + Int.toNat x5) [])))) (List.headD (List.drop 16 (List.drop 81 (List.take 98 (List.getD x7 (x2 + Int.toNat x5) [])))) 0) a22_0 a22_1 a22_2 a22_3) fun (a34_0, _, _, _, _, _, _, a34_7) =>
    br (!a26_7)
     (some (Sum.inl (false, x6, x7)))
     (br (!a34_7)
      (some (Sum.inl (false, x6, x7)))
      (br (a34_0 != x5)
       (some (Sum.inl (false, x6, x7)))
       (ob (table_Len a22_0 a22_1 a22_2 a22_3) fun a42 =>
       br (a42 != 1)
        (some (Sum.inl (false, x6, x7)))
        (br (inLe x5 x1)
         (ob (law18_TableRooml16 many x0 x1 x2 x3 x4 x5 (x0 + 0) (Int.toNat x5 - 0) (Int.ofNat (Int.toNat x5 - 0)) 0 x6 x7 a22_0 a22_1 (List.take 81 (List.take 98 (List.getD x7 (x2 + Int.toNat x5) []))) (List.take 16 (List.drop 81 (List.take 98 (List.getD x7 (x2 + Int.toNat x5) [])))) (List.headD (List.drop 16 (List.drop 81 (List.take 98 (List.getD x7 (x2 + Int.toNat x5) [])))) 0) a22_2 a22_3) fun t43_2 =>
         sw t43_2 (fun (_, _, a43_2, _, _, _, _, a43_7, a43_8, _, _, _, _) =>
          some (Sum.inl (a43_2, a43_7, a43_8)))
          (fun (a43_0, a43_1, a43_2, a43_3, a43_4, a43_5, a43_6, a43_7, a43_8, a43_9, a43_10, a43_11) =>
          rec a43_0 a43_1 a43_2 a43_3 a43_4 (IntKind.wrap IntKind.i64 (a43_5 + 1)) a43_6 a43_7 a43_8 a43_9 a43_10 a43_11))
         (none))))))
    (none))
   (some (Sum.inr (x6, x7)))
def law18_TableRooml7v1 : Nat → Nat → Nat → Nat → Nat → Int → Int → Nat → List (List Int) → Nat → Int → Nat → List (List Int) → Option ((Bool × Nat × List (List Int)) ⊕ (Nat × List (List Int)))
  | 0, _, _, _, _, _, _, _, _, _, _, _, _ => none
  | f + 1, x0, x1, x2, x3, x4, x5, x6, x7, x8, x9, x10, x11 => law18_TableRooml7v1s (law18_TableRooml7v1 f) x0 x1 x2 x3 x4 x5 x6 x7 x8 x9 x10 x11
def law18_TableRoom (x0 : Nat) (x1 : Nat) (x2 : Nat) (x3 : List (List Int)) : Option (Bool) :=
  ob (law18_keeps ) fun a4 =>
  br (!a4)
   (some (false))
   (br (decide (Int.ofNat x1 > 30))
    (some (true))
    (ob (table_New 1) fun t5_2 =>
    sw t5_2 (fun _ =>
     ob (law18_TableRooml7 many x0 x1 x0 x1 (Int.ofNat x1) 0 x2 x3) fun (_, _) =>
     some (true))
     (fun (_, a5_1, a5_2, a5_3, a5_4) =>
     ob (law18_TableRooml7v1 many x0 x1 x0 x1 (Int.ofNat x1) 0 x2 x3 a5_1 a5_2 a5_3 a5_4) fun t10_2 =>
     sw t10_2 (fun (a10_0, _, _) =>
      some (a10_0))
      (fun (_, _) =>
      some (true)))))
-- END

-- FN law18_TableMany law18_TableMany
def law18_TableManyl9s (rec : Nat → Nat → Nat → Nat → Int → Int → Nat → List (List Int) → Nat → Int → Nat → List (List Int) → Option (Nat × Nat × Nat × List (List Int) × Nat × Int × Nat × List (List Int))) (x0 : Nat) (x1 : Nat) (x2 : Nat) (x3 : Nat) (x4 : Int) (x5 : Int) (x6 : Nat) (x7 : List (List Int)) (x8 : Nat) (x9 : Int) (x10 : Nat) (x11 : List (List Int)) : Option (Nat × Nat × Nat × List (List Int) × Nat × Int × Nat × List (List Int)) :=
  br (decide (x5 < x4))
   (br (inB x5 x3)
    (ob (table_Put (List.take 81 (List.take 98 (List.getD x7 (x2 + Int.toNat x5) []))) (List.take 16 (List.drop 81 (List.take 98 (List.getD x7 (x2 + Int.toNat x5) [])))) (List.headD (List.drop 16 (List.drop 81 (List.take 98 (List.getD x7 (x2 + Int.toNat x5) [])))) 0) 1 x5 0 0 0 0 false x8 x9 x10 x11) fun (a22_0, a22_1, a22_2, a22_3) =>
    rec x0 x1 x2 x3 x4 (IntKind.wrap IntKind.i64 (x5 + 1)) x6 x7 a22_0 a22_1 a22_2 a22_3)
    (none))
   (some (x0, x1, x6, x7, x8, x9, x10, x11))
def law18_TableManyl9 : Nat → Nat → Nat → Nat → Nat → Int → Int → Nat → List (List Int) → Nat → Int → Nat → List (List Int) → Option (Nat × Nat × Nat × List (List Int) × Nat × Int × Nat × List (List Int))
  | 0, _, _, _, _, _, _, _, _, _, _, _, _ => none
  | f + 1, x0, x1, x2, x3, x4, x5, x6, x7, x8, x9, x10, x11 => law18_TableManyl9s (law18_TableManyl9 f) x0 x1 x2 x3 x4 x5 x6 x7 x8 x9 x10 x11
def law18_TableManyl19s (rec : Nat → Nat → Int → Bool → Int → Int → Nat → List (List Int) → Nat → Int → Int → Int → Int → Int → Int → Int → Bool → Nat → List (List Int) → Option (Nat × Nat × Int × Bool × Int × Nat × List (List Int) × Nat × Int × Int × Int × Int × Int × Int × Int × Bool × Nat × List (List Int))) (x0 : Nat) (x1 : Nat) (x2 : Int) (x3 : Bool) (x4 : Int) (x5 : Int) (x6 : Nat) (x7 : List (List Int)) (x8 : Nat) (x9 : Int) (x10 : Int) (x11 : Int) (x12 : Int) (x13 : Int) (x14 : Int) (x15 : Int) (x16 : Bool) (x17 : Nat) (x18 : List (List Int)) : Option (Nat × Nat × Int × Bool × Int × Nat × List (List Int) × Nat × Int × Int × Int × Int × Int × Int × Int × Bool × Nat × List (List Int)) :=
  br (decide (x5 < Int.ofNat x1))
   (br (inB x5 x1)
    (br (inB x2 x1)
     (br (List.take 81 (List.take 98 (List.getD x7 (x0 + Int.toNat x5) [])) == List.take 81 (List.take 98 (List.getD x7 (x0 + Int.toNat x2) [])) && (List.take 16 (List.drop 81 (List.take 98 (List.getD x7 (x0 + Int.toNat x5) []))) == List.take 16 (List.drop 81 (List.take 98 (List.getD x7 (x0 + Int.toNat x2) []))) && List.headD (List.drop 16 (List.drop 81 (List.take 98 (List.getD x7 (x0 + Int.toNat x5) [])))) 0 == List.headD (List.drop 16 (List.drop 81 (List.take 98 (List.getD x7 (x0 + Int.toNat x2) [])))) 0))
      (rec x0 x1 x2 x3 x5 (IntKind.wrap IntKind.i64 (x5 + 1)) x6 x7 x8 x9 x10 x11 x12 x13 x14 x15 x16 x17 x18)
      (rec x0 x1 x2 x3 x4 (IntKind.wrap IntKind.i64 (x5 + 1)) x6 x7 x8 x9 x10 x11 x12 x13 x14 x15 x16 x17 x18))
     (none))
    (none))
   (some (x0, x1, x2, x3, x4, x6, x7, x8, x9, x10, x11, x12, x13, x14, x15, x16, x17, x18))
def law18_TableManyl19 : Nat → Nat → Nat → Int → Bool → Int → Int → Nat → List (List Int) → Nat → Int → Int → Int → Int → Int → Int → Int → Bool → Nat → List (List Int) → Option (Nat × Nat × Int × Bool × Int × Nat × List (List Int) × Nat × Int × Int × Int × Int × Int × Int × Int × Bool × Nat × List (List Int))
  | 0, _, _, _, _, _, _, _, _, _, _, _, _, _, _, _, _, _, _, _ => none
  | f + 1, x0, x1, x2, x3, x4, x5, x6, x7, x8, x9, x10, x11, x12, x13, x14, x15, x16, x17, x18 => law18_TableManyl19s (law18_TableManyl19 f) x0 x1 x2 x3 x4 x5 x6 x7 x8 x9 x10 x11 x12 x13 x14 x15 x16 x17 x18
def law18_TableManyl14s (rec : Nat → Nat → Int → Nat → List (List Int) → Nat → Int → Nat → List (List Int) → Option ((Nat × Nat × Bool × Nat × List (List Int) × Nat × Int × Nat × List (List Int)) ⊕ (Nat × Nat × Nat × List (List Int) × Nat × Int × Nat × List (List Int)))) (x0 : Nat) (x1 : Nat) (x2 : Int) (x3 : Nat) (x4 : List (List Int)) (x5 : Nat) (x6 : Int) (x7 : Nat) (x8 : List (List Int)) : Option ((Nat × Nat × Bool × Nat × List (List Int) × Nat × Int × Nat × List (List Int)) ⊕ (Nat × Nat × Nat × List (List Int) × Nat × Int × Nat × List (List Int))) :=
  br (decide (x2 ≥ 0))
   (br (inB x2 x1)
    (ob (table_Get (List.take 81 (List.take 98 (List.getD x4 (x0 + Int.toNat x2) []))) (List.take 16 (List.drop 81 (List.take 98 (List.getD x4 (x0 + Int.toNat x2) [])))) (List.headD (List.drop 16 (List.drop 81 (List.take 98 (List.getD x4 (x0 + Int.toNat x2) [])))) 0) x5 x6 x7 x8) fun (a27_0, a27_1, a27_2, a27_3, a27_4, a27_5, a27_6, a27_7) =>
    ob (law18_TableManyl19 many x0 x1 x2 a27_7 x2 x2 x3 x4 x5 x6 a27_0 a27_1 a27_2 a27_3 a27_4 a27_5 a27_6 x7 x8) fun (a35_0, a35_1, a35_2, a35_3, a35_4, a35_5, a35_6, a35_7, a35_8, _, a35_10, _, _, _, _, _, a35_16, a35_17) =>
    br (a35_3)
     (br (a35_10 != a35_4)
      (some (Sum.inl (a35_0, a35_1, false, a35_5, a35_6, a35_7, a35_8, a35_16, a35_17)))
      (br (a35_2 == IntKind.wrap IntKind.i64 (Int.ofNat a35_1 - 1))
       (br (!a35_3)
        (some (Sum.inl (a35_0, a35_1, false, a35_5, a35_6, a35_7, a35_8, a35_16, a35_17)))
        (rec a35_0 a35_1 (IntKind.wrap IntKind.i64 (a35_2 - 1)) a35_5 a35_6 a35_7 a35_8 a35_16 a35_17))
       (rec a35_0 a35_1 (IntKind.wrap IntKind.i64 (a35_2 - 1)) a35_5 a35_6 a35_7 a35_8 a35_16 a35_17)))
     (br (a35_2 == IntKind.wrap IntKind.i64 (Int.ofNat a35_1 - 1))
      (br (!a35_3)
       (some (Sum.inl (a35_0, a35_1, false, a35_5, a35_6, a35_7, a35_8, a35_16, a35_17)))
       (rec a35_0 a35_1 (IntKind.wrap IntKind.i64 (a35_2 - 1)) a35_5 a35_6 a35_7 a35_8 a35_16 a35_17))
      (rec a35_0 a35_1 (IntKind.wrap IntKind.i64 (a35_2 - 1)) a35_5 a35_6 a35_7 a35_8 a35_16 a35_17)))
    (none))
   (some (Sum.inr (x0, x1, x3, x4, x5, x6, x7, x8)))
def law18_TableManyl14 : Nat → Nat → Nat → Int → Nat → List (List Int) → Nat → Int → Nat → List (List Int) → Option ((Nat × Nat × Bool × Nat × List (List Int) × Nat × Int × Nat × List (List Int)) ⊕ (Nat × Nat × Nat × List (List Int) × Nat × Int × Nat × List (List Int)))
  | 0, _, _, _, _, _, _, _, _, _ => none
  | f + 1, x0, x1, x2, x3, x4, x5, x6, x7, x8 => law18_TableManyl14s (law18_TableManyl14 f) x0 x1 x2 x3 x4 x5 x6 x7 x8
def law18_TableMany (x0 : Nat) (x1 : Nat) (x2 : Nat) (x3 : List (List Int)) : Option (Bool) :=
  ob (law18_keeps ) fun a4 =>
  br (!a4)
   (some (false))
   (br (decide (Int.ofNat x1 > 40))
    (some (true))
    (ob (table_New 65536) fun t5_2 =>
    sw t5_2 (fun _ =>
     some (false))
     (fun (a5_0, a5_1, a5_2, a5_3, a5_4) =>
     br (a5_0 != 0)
      (some (false))
      (ob (law18_TableManyl9 many x0 x1 x0 x1 (Int.ofNat x1) 0 x2 x3 a5_1 a5_2 a5_3 a5_4) fun (a10_0, a10_1, a10_2, a10_3, a10_4, a10_5, a10_6, a10_7) =>
      ob (law18_TableManyl14 many a10_0 a10_1 (IntKind.wrap IntKind.i64 (Int.ofNat a10_1 - 1)) a10_2 a10_3 a10_4 a10_5 a10_6 a10_7) fun t18_2 =>
      sw t18_2 (fun (_, _, a18_2, _, _, _, _, _, _) =>
       some (a18_2))
       (fun (_, a18_1, _, _, a18_4, a18_5, a18_6, a18_7) =>
       ob (table_Len a18_4 a18_5 a18_6 a18_7) fun a26 =>
       some (decide (a26 ≤ Int.ofNat a18_1)))))))
-- END

-- FN set_bit set_bit
def set_bit (x0 : Int) : Option (Int × Int) :=
  br (decide (x0 < 0))
   (some (0, 0))
   (br (decide (x0 ≥ 81))
    (some (0, 0))
    (br (decide (x0 < 63))
     (br (decide (x0 < 0))
      (none)
      (some (IntKind.wrap IntKind.u64 (1 * 2 ^ min (Int.toNat x0) 64), 0)))
     (br (decide (IntKind.wrap IntKind.i64 (x0 - 63) < 0))
      (none)
      (some (0, IntKind.wrap IntKind.u64 (1 * 2 ^ min (Int.toNat (IntKind.wrap IntKind.i64 (x0 - 63))) 64))))))
-- END

-- FN set_Minus set_Minus
def set_Minus (x0 : Int) (x1 : Int) (x2 : Int) (x3 : Int) : Option (Int × Int) :=
  some (bitop BinOp.andNot IntKind.u64 x0 x2, bitop BinOp.andNot IntKind.u64 x1 x3)
-- END

-- FN set_Without set_Without
def set_Without (x0 : Int) (x1 : Int) (x2 : Int) : Option (Int × Int) :=
  ob (set_bit x2) fun (a3_0, a3_1) =>
  ob (set_Minus x0 x1 a3_0 a3_1) fun (a5_0, a5_1) =>
  some (a5_0, a5_1)
-- END

-- FN piece_Side piece_Side
def piece_Side (x0 : Int) : Option (Int) :=
  ob (piece_Kind x0) fun a1 =>
  br (a1 == 0)
   (some (-1))
   (br (decide (x0 < 16))
    (some (0))
    (some (1)))
-- END

-- FN set_Or set_Or
def set_Or (x0 : Int) (x1 : Int) (x2 : Int) (x3 : Int) : Option (Int × Int) :=
  some (bitop BinOp.or IntKind.u64 x0 x2, bitop BinOp.or IntKind.u64 x1 x3)
-- END

-- FN set_With set_With
def set_With (x0 : Int) (x1 : Int) (x2 : Int) : Option (Int × Int) :=
  ob (set_bit x2) fun (a3_0, a3_1) =>
  ob (set_Or x0 x1 a3_0 a3_1) fun (a5_0, a5_1) =>
  some (a5_0, a5_1)
-- END

-- FN board_Put board_Put
def board_Put (x0 : Int) (x1 : Int) (x2 : List Int) (x3 : List Int) (x4 : Int) (x5 : List (List Int)) (x6 : List (List Int)) : Option (List Int × List Int × Int × List (List Int) × List (List Int)) :=
  br (decide (x0 < 0))
   (some (x2, x3, x4, x5, x6))
   (br (decide (x0 ≥ 81))
    (some (x2, x3, x4, x5, x6))
    (br (inB x0 81)
     (br (List.getD x2 (Int.toNat x0) 0 != 0)
      (br (inB (List.getD x2 (Int.toNat x0) 0) 32)
       (ob (set_Without (List.headD (List.take 2 (List.getD x5 (Int.toNat (List.getD x2 (Int.toNat x0) 0)) [])) 0) (List.headD (List.tail (List.take 2 (List.getD x5 (Int.toNat (List.getD x2 (Int.toNat x0) 0)) []))) 0) x0) fun (a7_0, a7_1) =>
       br (inB (List.getD x2 (Int.toNat x0) 0) 32)
        (ob (piece_Side (List.getD x2 (Int.toNat x0) 0)) fun a9 =>
        ob (piece_Side (List.getD x2 (Int.toNat x0) 0)) fun a10 =>
        br (inB a10 2)
         (ob (set_Without (List.headD (List.take 2 (List.getD x6 (Int.toNat a10) [])) 0) (List.headD (List.tail (List.take 2 (List.getD x6 (Int.toNat a10) []))) 0) x0) fun (a11_0, a11_1) =>
         br (inB a9 2)
          (ob (piece_Kind x1) fun a13 =>
          br (a13 == 0)
           (br (inB x0 81)
            (some (List.set x2 (Int.toNat x0) 0, x3, x4, List.set x5 (Int.toNat (List.getD x2 (Int.toNat x0) 0)) (a7_0 :: a7_1 :: List.drop 2 (List.getD x5 (Int.toNat (List.getD x2 (Int.toNat x0) 0)) [])), List.set x6 (Int.toNat a9) (a11_0 :: a11_1 :: List.drop 2 (List.getD x6 (Int.toNat a9) []))))
            (none))
           (br (inB x0 81)
            (br (x1 != 0)
             (br (inB x1 32)
              (ob (set_With (List.headD (List.take 2 (List.getD (List.set x5 (Int.toNat (List.getD x2 (Int.toNat x0) 0)) (a7_0 :: a7_1 :: List.drop 2 (List.getD x5 (Int.toNat (List.getD x2 (Int.toNat x0) 0)) []))) (Int.toNat x1) [])) 0) (List.headD (List.tail (List.take 2 (List.getD (List.set x5 (Int.toNat (List.getD x2 (Int.toNat x0) 0)) (a7_0 :: a7_1 :: List.drop 2 (List.getD x5 (Int.toNat (List.getD x2 (Int.toNat x0) 0)) []))) (Int.toNat x1) []))) 0) x0) fun (a14_0, a14_1) =>
              br (inB x1 32)
               (ob (piece_Side x1) fun a16 =>
               ob (piece_Side x1) fun a17 =>
               br (inB a17 2)
                (ob (set_With (List.headD (List.take 2 (List.getD (List.set x6 (Int.toNat a9) (a11_0 :: a11_1 :: List.drop 2 (List.getD x6 (Int.toNat a9) []))) (Int.toNat a17) [])) 0) (List.headD (List.tail (List.take 2 (List.getD (List.set x6 (Int.toNat a9) (a11_0 :: a11_1 :: List.drop 2 (List.getD x6 (Int.toNat a9) []))) (Int.toNat a17) []))) 0) x0) fun (a18_0, a18_1) =>
                br (inB a16 2)
                 (some (List.set x2 (Int.toNat x0) x1, x3, x4, List.set (List.set x5 (Int.toNat (List.getD x2 (Int.toNat x0) 0)) (a7_0 :: a7_1 :: List.drop 2 (List.getD x5 (Int.toNat (List.getD x2 (Int.toNat x0) 0)) []))) (Int.toNat x1) (a14_0 :: a14_1 :: List.drop 2 (List.getD (List.set x5 (Int.toNat (List.getD x2 (Int.toNat x0) 0)) (a7_0 :: a7_1 :: List.drop 2 (List.getD x5 (Int.toNat (List.getD x2 (Int.toNat x0) 0)) []))) (Int.toNat x1) [])), List.set (List.set x6 (Int.toNat a9) (a11_0 :: a11_1 :: List.drop 2 (List.getD x6 (Int.toNat a9) []))) (Int.toNat a16) (a18_0 :: a18_1 :: List.drop 2 (List.getD (List.set x6 (Int.toNat a9) (a11_0 :: a11_1 :: List.drop 2 (List.getD x6 (Int.toNat a9) []))) (Int.toNat a16) []))))
                 (none))
                (none))
               (none))
              (none))
             (some (List.set x2 (Int.toNat x0) x1, x3, x4, List.set x5 (Int.toNat (List.getD x2 (Int.toNat x0) 0)) (a7_0 :: a7_1 :: List.drop 2 (List.getD x5 (Int.toNat (List.getD x2 (Int.toNat x0) 0)) [])), List.set x6 (Int.toNat a9) (a11_0 :: a11_1 :: List.drop 2 (List.getD x6 (Int.toNat a9) [])))))
            (none)))
          (none))
         (none))
        (none))
       (none))
      (ob (piece_Kind x1) fun a7 =>
      br (a7 == 0)
       (br (inB x0 81)
        (some (List.set x2 (Int.toNat x0) 0, x3, x4, x5, x6))
        (none))
       (br (inB x0 81)
        (br (x1 != 0)
         (br (inB x1 32)
          (ob (set_With (List.headD (List.take 2 (List.getD x5 (Int.toNat x1) [])) 0) (List.headD (List.tail (List.take 2 (List.getD x5 (Int.toNat x1) []))) 0) x0) fun (a8_0, a8_1) =>
          br (inB x1 32)
           (ob (piece_Side x1) fun a10 =>
           ob (piece_Side x1) fun a11 =>
           br (inB a11 2)
            (ob (set_With (List.headD (List.take 2 (List.getD x6 (Int.toNat a11) [])) 0) (List.headD (List.tail (List.take 2 (List.getD x6 (Int.toNat a11) []))) 0) x0) fun (a12_0, a12_1) =>
            br (inB a10 2)
             (some (List.set x2 (Int.toNat x0) x1, x3, x4, List.set x5 (Int.toNat x1) (a8_0 :: a8_1 :: List.drop 2 (List.getD x5 (Int.toNat x1) [])), List.set x6 (Int.toNat a10) (a12_0 :: a12_1 :: List.drop 2 (List.getD x6 (Int.toNat a10) []))))
             (none))
            (none))
           (none))
          (none))
         (some (List.set x2 (Int.toNat x0) x1, x3, x4, x5, x6)))
        (none))))
     (none)))
-- END

-- FN board_New board_New
def board_Newl4s (rec : List Int → Int → List Int → List Int → Int → List (List Int) → List (List Int) → Option (List Int × List Int × Int × List (List Int) × List (List Int))) (x0 : List Int) (x1 : Int) (x2 : List Int) (x3 : List Int) (x4 : Int) (x5 : List (List Int)) (x6 : List (List Int)) : Option (List Int × List Int × Int × List (List Int) × List (List Int)) :=
  br (decide (x1 < 81))
   (br (inB x1 81)
    (ob (board_Put x1 (List.getD x0 (bif true then Int.toNat x1 else Int.toNat x1 * 1) 0) x2 x3 x4 x5 x6) fun (a10_0, a10_1, a10_2, a10_3, a10_4) =>
    rec x0 (IntKind.wrap IntKind.i64 (x1 + 1)) a10_0 a10_1 a10_2 a10_3 a10_4)
    (none))
   (some (x2, x3, x4, x5, x6))
def board_Newl4 : Nat → List Int → Int → List Int → List Int → Int → List (List Int) → List (List Int) → Option (List Int × List Int × Int × List (List Int) × List (List Int))
  | 0, _, _, _, _, _, _, _ => none
  | f + 1, x0, x1, x2, x3, x4, x5, x6 => board_Newl4s (board_Newl4 f) x0 x1 x2 x3 x4 x5 x6
def board_New (x0 : List Int) (x1 : List Int) (x2 : Int) : Option (List Int × List Int × Int × List (List Int) × List (List Int)) :=
  ob (board_Newl4 many x0 0 ([0, 0, 0, 0, 0, 0, 0, 0, 0, 0, 0, 0, 0, 0, 0, 0, 0, 0, 0, 0, 0, 0, 0, 0, 0, 0, 0, 0, 0, 0, 0, 0, 0, 0, 0, 0, 0, 0, 0, 0, 0, 0, 0, 0, 0, 0, 0, 0, 0, 0, 0, 0, 0, 0, 0, 0, 0, 0, 0, 0, 0, 0, 0, 0, 0, 0, 0, 0, 0, 0, 0, 0, 0, 0, 0, 0, 0, 0, 0, 0, 0]) x1 x2 ([[0, 0], [0, 0], [0, 0], [0, 0], [0, 0], [0, 0], [0, 0], [0, 0], [0, 0], [0, 0], [0, 0], [0, 0], [0, 0], [0, 0], [0, 0], [0, 0], [0, 0], [0, 0], [0, 0], [0, 0], [0, 0], [0, 0], [0, 0], [0, 0], [0, 0], [0, 0], [0, 0], [0, 0], [0, 0], [0, 0], [0, 0], [0, 0]]) ([[0, 0], [0, 0]])) fun (a3_0, a3_1, a3_2, a3_3, a3_4) =>
  some (a3_0, a3_1, a3_2, a3_3, a3_4)
-- END

-- FN deed_New deed_New
def deed_New (x0 : List Int) (x1 : List Int) (x2 : Int) : Option (Int × Nat × List Int × List Int × Int × List (List Int) × List (List Int) × Nat × List (List Int)) :=
  ob (board_New x0 x1 x2) fun (a3_0, a3_1, a3_2, a3_3, a3_4) =>
  ob (key_Of a3_0 a3_1 a3_2) fun a8 =>
  some (a8, 0, a3_0, a3_1, a3_2, a3_3, a3_4, 0, [])
-- END

-- FN move_Check move_Check
def move_Check (x0 : Int) (x1 : Int) (x2 : Int) (x3 : Bool) : Option (Int) :=
  br (decide (x1 < 0))
   (some (1))
   (br (decide (x1 ≥ 81))
    (some (1))
    (br (x2 != 0)
     (br (decide (x2 < 0))
      (some (70))
      (br (decide (x2 ≥ 8))
       (some (70))
       (br (x0 != 0)
        (some (70))
        (br (x3)
         (some (70))
         (some (0))))))
     (br (decide (x0 < 0))
      (some (1))
      (br (decide (x0 ≥ 81))
       (some (1))
       (br (x0 == x1)
        (some (70))
        (some (0)))))))
-- END

-- FN board_Hand board_Hand
def board_Hand (x0 : Int) (x1 : Int) (_x2 : List Int) (x3 : List Int) (_x4 : Int) (_x5 : List (List Int)) (_x6 : List (List Int)) : Option (Int) :=
  br (x0 != 0)
   (br (x0 != 1)
    (some (0))
    (br (decide (x1 < 1))
     (some (0))
     (br (decide (x1 ≥ 8))
      (some (0))
      (br (inB x0 2)
       (br (inB x1 8)
        (some (conv IntKind.i8 IntKind.i64 (List.getD x3 (Int.toNat x0 * 8 + Int.toNat x1) 0)))
        (none))
       (none)))))
   (br (decide (x1 < 1))
    (some (0))
    (br (decide (x1 ≥ 8))
     (some (0))
     (br (inB x0 2)
      (br (inB x1 8)
       (some (conv IntKind.i8 IntKind.i64 (List.getD x3 (Int.toNat x0 * 8 + Int.toNat x1) 0)))
       (none))
      (none))))
-- END

-- FN board_At board_At
def board_At (x0 : Int) (x1 : List Int) (_x2 : List Int) (_x3 : Int) (_x4 : List (List Int)) (_x5 : List (List Int)) : Option (Int) :=
  br (decide (x0 < 0))
   (some (0))
   (br (decide (x0 ≥ 81))
    (some (0))
    (br (inB x0 81)
     (some (List.getD x1 (Int.toNat x0) 0))
     (none)))
-- END

-- FN piece_Up piece_Up
def piece_Up (x0 : Int) : Option (Int) :=
  br (x0 == 1)
   (some (IntKind.wrap IntKind.i64 (x0 + 8)))
   (br (x0 == 2)
    (some (IntKind.wrap IntKind.i64 (x0 + 8)))
    (br (x0 == 3)
     (some (IntKind.wrap IntKind.i64 (x0 + 8)))
     (br (x0 == 4)
      (some (IntKind.wrap IntKind.i64 (x0 + 8)))
      (br (x0 == 6)
       (some (IntKind.wrap IntKind.i64 (x0 + 8)))
       (br (x0 == 7)
        (some (IntKind.wrap IntKind.i64 (x0 + 8)))
        (some (0)))))))
-- END

-- FN deed_Game_Can deed_Game_Can
def deed_Game_Can (x0 : Int) (x1 : Int) (x2 : Int) (x3 : Bool) (_x4 : Int) (_x5 : Nat) (x6 : List Int) (x7 : List Int) (x8 : Int) (x9 : List (List Int)) (x10 : List (List Int)) (_x11 : Nat) (_x12 : List (List Int)) : Option (Bool) :=
  ob (move_Check x0 x1 x2 x3) fun a13 =>
  br (a13 != 0)
   (some (false))
   (br (x8 != 0)
    (br (x8 != 1)
     (some (false))
     (br (x2 != 0)
      (ob (board_Hand x8 x2 x6 x7 x8 x9 x10) fun a14 =>
      br (decide (a14 > 0))
       (ob (board_At x1 x6 x7 x8 x9 x10) fun a15 =>
       some (a15 == 0))
       (some (false)))
      (ob (board_At x0 x6 x7 x8 x9 x10) fun a14 =>
      ob (board_At x1 x6 x7 x8 x9 x10) fun a15 =>
      ob (piece_Side a14) fun a16 =>
      br (a16 == x8)
       (ob (piece_Side a15) fun a17 =>
       br (a17 != x8)
        (ob (piece_Kind a15) fun a18 =>
        br (a18 != 8)
         (br (!x3)
          (some (true))
          (ob (piece_Kind a14) fun a19 =>
          ob (piece_Up a19) fun a20 =>
          some (a20 != 0)))
         (some (false)))
        (some (false)))
       (some (false)))))
    (br (x2 != 0)
     (ob (board_Hand x8 x2 x6 x7 x8 x9 x10) fun a14 =>
     br (decide (a14 > 0))
      (ob (board_At x1 x6 x7 x8 x9 x10) fun a15 =>
      some (a15 == 0))
      (some (false)))
     (ob (board_At x0 x6 x7 x8 x9 x10) fun a14 =>
     ob (board_At x1 x6 x7 x8 x9 x10) fun a15 =>
     ob (piece_Side a14) fun a16 =>
     br (a16 == x8)
      (ob (piece_Side a15) fun a17 =>
      br (a17 != x8)
       (ob (piece_Kind a15) fun a18 =>
       br (a18 != 8)
        (br (!x3)
         (some (true))
         (ob (piece_Kind a14) fun a19 =>
         ob (piece_Up a19) fun a20 =>
         some (a20 != 0)))
        (some (false)))
       (some (false)))
      (some (false)))))
-- END

-- FN deed_Game_hand deed_Game_hand
def deed_Game_hand (x0 : Int) (x1 : Int) (x2 : Int) (x3 : Int) (x4 : Nat) (x5 : List Int) (x6 : List Int) (x7 : Int) (x8 : List (List Int)) (x9 : List (List Int)) (x10 : Nat) (x11 : List (List Int)) : Option (Int × Nat × List Int × List Int × Int × List (List Int) × List (List Int) × Nat × List (List Int)) :=
  ob (board_Hand x0 x1 x5 x6 x7 x8 x9) fun a12 =>
  ob (key_Hand x0 x1 a12) fun a13 =>
  ob (key_Hand x0 x1 (IntKind.wrap IntKind.i64 (a12 + x2))) fun a14 =>
  br (inB x0 2)
   (br (inB x1 8)
    (br (inB x0 2)
     (br (inB x1 8)
      (some (bitop BinOp.xor IntKind.u64 x3 (bitop BinOp.xor IntKind.u64 a13 a14), x4, x5, List.set x6 (Int.toNat x0 * 8 + Int.toNat x1) (IntKind.wrap IntKind.i8 (List.getD x6 (Int.toNat x0 * 8 + Int.toNat x1) 0 + conv IntKind.i64 IntKind.i8 x2)), x7, x8, x9, x10, x11))
      (none))
     (none))
    (none))
   (none)
-- END

-- FN deed_Game_put deed_Game_put
def deed_Game_put (x0 : Int) (x1 : Int) (x2 : Int) (x3 : Nat) (x4 : List Int) (x5 : List Int) (x6 : Int) (x7 : List (List Int)) (x8 : List (List Int)) (x9 : Nat) (x10 : List (List Int)) : Option (Int × Nat × List Int × List Int × Int × List (List Int) × List (List Int) × Nat × List (List Int)) :=
  ob (board_At x0 x4 x5 x6 x7 x8) fun a11 =>
  ob (key_Piece x0 a11) fun a12 =>
  ob (key_Piece x0 x1) fun a13 =>
  ob (board_Put x0 x1 x4 x5 x6 x7 x8) fun (a14_0, a14_1, a14_2, a14_3, a14_4) =>
  some (bitop BinOp.xor IntKind.u64 x2 (bitop BinOp.xor IntKind.u64 a12 a13), x3, a14_0, a14_1, a14_2, a14_3, a14_4, x9, x10)
-- END

-- FN deed_Game_turn deed_Game_turn
def deed_Game_turn (x0 : Int) (x1 : Nat) (x2 : List Int) (x3 : List Int) (x4 : Int) (x5 : List (List Int)) (x6 : List (List Int)) (x7 : Nat) (x8 : List (List Int)) : Option (Int × Nat × List Int × List Int × Int × List (List Int) × List (List Int) × Nat × List (List Int)) :=
  ob (key_Side ) fun a9 =>
  some (bitop BinOp.xor IntKind.u64 x0 a9, x1, x2, x3, IntKind.wrap IntKind.i8 (1 - x4), x5, x6, x7, x8)
-- END

-- FN piece_Raw piece_Raw
def piece_Raw (x0 : Int) : Option (Int) :=
  ob (piece_Of 0 x0) fun a1 =>
  br (a1 == 0)
   (some (0))
   (br (decide (x0 > 8))
    (some (IntKind.wrap IntKind.i64 (x0 - 8)))
    (some (x0)))
-- END

-- FN deed_Game_hand deed_Game_hand_v1
def deed_Game_hand_v1 (x0 : Int) (x1 : Int) (x2 : Int) (_x3 : Int) (_x4 : Nat) (x5 : List Int) (x6 : List Int) (x7 : Int) (x8 : List (List Int)) (x9 : List (List Int)) (_x10 : Nat) (_x11 : List (List Int)) : Option (Empty) :=
  ob (board_Hand x0 x1 x5 x6 x7 x8 x9) fun a12 =>
  ob (key_Hand x0 x1 a12) fun _ =>
  ob (key_Hand x0 x1 (IntKind.wrap IntKind.i64 (a12 + x2))) fun _ =>
  none
-- END

-- FN deed_Game_put deed_Game_put_v1
def deed_Game_put_v1 (x0 : Int) (x1 : Int) (_x2 : Int) (_x3 : Nat) (x4 : List Int) (x5 : List Int) (x6 : Int) (x7 : List (List Int)) (x8 : List (List Int)) (_x9 : Nat) (_x10 : List (List Int)) : Option (Empty) :=
  ob (board_At x0 x4 x5 x6 x7 x8) fun a11 =>
  ob (key_Piece x0 a11) fun _ =>
  ob (key_Piece x0 x1) fun _ =>
  none
-- END

-- FN deed_Game_Make deed_Game_Make
def deed_Game_Make (x0 : Int) (x1 : Int) (x2 : Int) (x3 : Bool) (x4 : Int) (x5 : Nat) (x6 : List Int) (x7 : List Int) (x8 : Int) (x9 : List (List Int)) (x10 : List (List Int)) (x11 : Nat) (x12 : List (List Int)) : Option ((Bool × Int × Nat × List Int × List Int × Int × List (List Int) × List (List Int) × Nat × List (List Int)) ⊕ (Bool × Int × Nat × List Int × List Int × Int × List (List Int) × List (List Int) × Nat × List (List Int))) :=
  ob (deed_Game_Can x0 x1 x2 x3 x4 x5 x6 x7 x8 x9 x10 x11 x12) fun a13 =>
  br (!a13)
   (some (Sum.inl (false, x4, x5, x6, x7, x8, x9, x10, x11, x12)))
   (ob (board_At x1 x6 x7 x8 x9 x10) fun a14 =>
   br (x2 != 0)
    (ob (piece_Of x8 x2) fun a15 =>
    ob (deed_Game_hand x8 x2 (-1) x4 x5 x6 x7 x8 x9 x10 x11 x12) fun (a16_0, a16_1, a16_2, a16_3, a16_4, a16_5, a16_6, a16_7, a16_8) =>
    ob (deed_Game_put x1 a15 a16_0 a16_1 a16_2 a16_3 a16_4 a16_5 a16_6 a16_7 a16_8) fun (a25_0, a25_1, a25_2, a25_3, a25_4, a25_5, a25_6, a25_7, a25_8) =>
    ob (deed_Game_turn a25_0 a25_1 a25_2 a25_3 a25_4 a25_5 a25_6 a25_7 a25_8) fun (a34_0, a34_1, a34_2, a34_3, a34_4, a34_5, a34_6, _, a34_8) =>
    br (decide ((a34_1 + 1) * 40 ≤ 140737488355328))
     (some (Sum.inr (true, a34_0, a34_1 + 1, a34_2, a34_3, a34_4, a34_5, a34_6, a34_1 + 1, List.append (List.take a34_1 a34_8) [[x0, x1, x2, bi x3, a14, a15]])))
     (none))
    (ob (board_At x0 x6 x7 x8 x9 x10) fun a15 =>
    br (x3)
     (ob (piece_Kind a15) fun a16 =>
     ob (piece_Up a16) fun a17 =>
     ob (piece_Of x8 a17) fun a18 =>
     ob (deed_Game_put x0 0 x4 x5 x6 x7 x8 x9 x10 x11 x12) fun (a19_0, a19_1, a19_2, a19_3, a19_4, a19_5, a19_6, a19_7, a19_8) =>
     ob (deed_Game_put x1 a18 a19_0 a19_1 a19_2 a19_3 a19_4 a19_5 a19_6 a19_7 a19_8) fun (a28_0, a28_1, a28_2, a28_3, a28_4, a28_5, a28_6, a28_7, a28_8) =>
     br (a14 != 0)
      (ob (piece_Kind a14) fun a37 =>
      ob (piece_Raw a37) fun a38 =>
      ob (deed_Game_hand x8 a38 1 a28_0 a28_1 a28_2 a28_3 a28_4 a28_5 a28_6 a28_7 a28_8) fun (a39_0, a39_1, a39_2, a39_3, a39_4, a39_5, a39_6, a39_7, a39_8) =>
      ob (deed_Game_turn a39_0 a39_1 a39_2 a39_3 a39_4 a39_5 a39_6 a39_7 a39_8) fun (a48_0, a48_1, a48_2, a48_3, a48_4, a48_5, a48_6, _, a48_8) =>
      br (decide ((a48_1 + 1) * 40 ≤ 140737488355328))
       (some (Sum.inr (true, a48_0, a48_1 + 1, a48_2, a48_3, a48_4, a48_5, a48_6, a48_1 + 1, List.append (List.take a48_1 a48_8) [[x0, x1, x2, bi x3, a14, a15]])))
       (none))
      (ob (deed_Game_turn a28_0 a28_1 a28_2 a28_3 a28_4 a28_5 a28_6 a28_7 a28_8) fun (a37_0, a37_1, a37_2, a37_3, a37_4, a37_5, a37_6, _, a37_8) =>
      br (decide ((a37_1 + 1) * 40 ≤ 140737488355328))
       (some (Sum.inr (true, a37_0, a37_1 + 1, a37_2, a37_3, a37_4, a37_5, a37_6, a37_1 + 1, List.append (List.take a37_1 a37_8) [[x0, x1, x2, bi x3, a14, a15]])))
       (none)))
     (ob (deed_Game_put x0 0 x4 x5 x6 x7 x8 x9 x10 x11 x12) fun (a16_0, a16_1, a16_2, a16_3, a16_4, a16_5, a16_6, a16_7, a16_8) =>
     ob (deed_Game_put x1 a15 a16_0 a16_1 a16_2 a16_3 a16_4 a16_5 a16_6 a16_7 a16_8) fun (a25_0, a25_1, a25_2, a25_3, a25_4, a25_5, a25_6, a25_7, a25_8) =>
     br (a14 != 0)
      (ob (piece_Kind a14) fun a34 =>
      ob (piece_Raw a34) fun a35 =>
      ob (deed_Game_hand x8 a35 1 a25_0 a25_1 a25_2 a25_3 a25_4 a25_5 a25_6 a25_7 a25_8) fun (a36_0, a36_1, a36_2, a36_3, a36_4, a36_5, a36_6, a36_7, a36_8) =>
      ob (deed_Game_turn a36_0 a36_1 a36_2 a36_3 a36_4 a36_5 a36_6 a36_7 a36_8) fun (a45_0, a45_1, a45_2, a45_3, a45_4, a45_5, a45_6, _, a45_8) =>
      br (decide ((a45_1 + 1) * 40 ≤ 140737488355328))
       (some (Sum.inr (true, a45_0, a45_1 + 1, a45_2, a45_3, a45_4, a45_5, a45_6, a45_1 + 1, List.append (List.take a45_1 a45_8) [[x0, x1, x2, bi x3, a14, a15]])))
       (none))
      (ob (deed_Game_turn a25_0 a25_1 a25_2 a25_3 a25_4 a25_5 a25_6 a25_7 a25_8) fun (a34_0, a34_1, a34_2, a34_3, a34_4, a34_5, a34_6, _, a34_8) =>
      br (decide ((a34_1 + 1) * 40 ≤ 140737488355328))
       (some (Sum.inr (true, a34_0, a34_1 + 1, a34_2, a34_3, a34_4, a34_5, a34_6, a34_1 + 1, List.append (List.take a34_1 a34_8) [[x0, x1, x2, bi x3, a14, a15]])))
       (none)))))
-- END

-- FN deed_Game_Len deed_Game_Len
def deed_Game_Len (_x0 : Int) (x1 : Nat) (_x2 : List Int) (_x3 : List Int) (_x4 : Int) (_x5 : List (List Int)) (_x6 : List (List Int)) (_x7 : Nat) (_x8 : List (List Int)) : Option (Int) :=
  some (Int.ofNat x1)
-- END

-- FN deed_Game_Back deed_Game_Back
def deed_Game_Back (x0 : Int) (x1 : Nat) (x2 : List Int) (x3 : List Int) (x4 : Int) (x5 : List (List Int)) (x6 : List (List Int)) (x7 : Nat) (x8 : List (List Int)) : Option (Bool × Int × Nat × List Int × List Int × Int × List (List Int) × List (List Int) × Nat × List (List Int)) :=
  br (Int.ofNat x1 == 0)
   (some (false, x0, x1, x2, x3, x4, x5, x6, x7, x8))
   (br (inB (IntKind.wrap IntKind.i64 (Int.ofNat x1 - 1)) x1)
    (br (inLe (IntKind.wrap IntKind.i64 (Int.ofNat x1 - 1)) x1)
     (ob (deed_Game_turn x0 (Int.toNat (IntKind.wrap IntKind.i64 (Int.ofNat x1 - 1)) - 0) x2 x3 x4 x5 x6 x7 x8) fun (a9_0, a9_1, a9_2, a9_3, a9_4, a9_5, a9_6, a9_7, a9_8) =>
     br (List.headD (List.tail (List.tail (List.take 6 (List.getD x8 (Int.toNat (IntKind.wrap IntKind.i64 (Int.ofNat x1 - 1))) [])))) 0 != 0)
      (ob (deed_Game_put (List.headD (List.tail (List.take 6 (List.getD x8 (Int.toNat (IntKind.wrap IntKind.i64 (Int.ofNat x1 - 1))) []))) 0) 0 a9_0 a9_1 a9_2 a9_3 a9_4 a9_5 a9_6 a9_7 a9_8) fun (a18_0, a18_1, a18_2, a18_3, a18_4, a18_5, a18_6, a18_7, a18_8) =>
      ob (deed_Game_hand a9_4 (List.headD (List.tail (List.tail (List.take 6 (List.getD x8 (Int.toNat (IntKind.wrap IntKind.i64 (Int.ofNat x1 - 1))) [])))) 0) 1 a18_0 a18_1 a18_2 a18_3 a18_4 a18_5 a18_6 a18_7 a18_8) fun (a27_0, a27_1, a27_2, a27_3, a27_4, a27_5, a27_6, a27_7, a27_8) =>
      some (true, a27_0, a27_1, a27_2, a27_3, a27_4, a27_5, a27_6, a27_7, a27_8))
      (ob (deed_Game_put (List.headD (List.tail (List.take 6 (List.getD x8 (Int.toNat (IntKind.wrap IntKind.i64 (Int.ofNat x1 - 1))) []))) 0) (List.headD (List.tail (List.tail (List.tail (List.tail (List.take 6 (List.getD x8 (Int.toNat (IntKind.wrap IntKind.i64 (Int.ofNat x1 - 1))) [])))))) 0) a9_0 a9_1 a9_2 a9_3 a9_4 a9_5 a9_6 a9_7 a9_8) fun (a18_0, a18_1, a18_2, a18_3, a18_4, a18_5, a18_6, a18_7, a18_8) =>
      ob (deed_Game_put (List.headD (List.take 6 (List.getD x8 (Int.toNat (IntKind.wrap IntKind.i64 (Int.ofNat x1 - 1))) [])) 0) (List.headD (List.tail (List.tail (List.tail (List.tail (List.tail (List.take 6 (List.getD x8 (Int.toNat (IntKind.wrap IntKind.i64 (Int.ofNat x1 - 1))) []))))))) 0) a18_0 a18_1 a18_2 a18_3 a18_4 a18_5 a18_6 a18_7 a18_8) fun (a27_0, a27_1, a27_2, a27_3, a27_4, a27_5, a27_6, a27_7, a27_8) =>
      br (List.headD (List.tail (List.tail (List.tail (List.tail (List.take 6 (List.getD x8 (Int.toNat (IntKind.wrap IntKind.i64 (Int.ofNat x1 - 1))) [])))))) 0 != 0)
       (ob (piece_Kind (List.headD (List.tail (List.tail (List.tail (List.tail (List.take 6 (List.getD x8 (Int.toNat (IntKind.wrap IntKind.i64 (Int.ofNat x1 - 1))) [])))))) 0)) fun a36 =>
       ob (piece_Raw a36) fun a37 =>
       ob (deed_Game_hand a9_4 a37 (-1) a27_0 a27_1 a27_2 a27_3 a27_4 a27_5 a27_6 a27_7 a27_8) fun (a38_0, a38_1, a38_2, a38_3, a38_4, a38_5, a38_6, a38_7, a38_8) =>
       some (true, a38_0, a38_1, a38_2, a38_3, a38_4, a38_5, a38_6, a38_7, a38_8))
       (some (true, a27_0, a27_1, a27_2, a27_3, a27_4, a27_5, a27_6, a27_7, a27_8))))
     (none))
    (none))
-- END

-- FN law09_makes law09_makes
def law09_makes : Option (Bool) :=
  ob (board_Start ) fun (a0_0, a0_1, a0_2) =>
  ob (deed_New a0_0 a0_1 a0_2) fun (a3_0, a3_1, a3_2, a3_3, a3_4, a3_5, a3_6, a3_7, a3_8) =>
  ob (deed_Game_Make 60 59 0 false a3_0 a3_1 a3_2 a3_3 a3_4 a3_5 a3_6 a3_7 a3_8) fun t12_2 =>
  sw t12_2 (fun (a12_0, a12_1, a12_2, a12_3, a12_4, a12_5, a12_6, a12_7, a12_8, a12_9) =>
   br (a12_0)
    (ob (board_At 59 a12_3 a12_4 a12_5 a12_6 a12_7) fun a22 =>
    br (a22 == 1)
     (ob (deed_Game_Len a12_1 a12_2 a12_3 a12_4 a12_5 a12_6 a12_7 a12_8 a12_9) fun a23 =>
     br (a23 == 1)
      (ob (deed_Game_Back a12_1 a12_2 a12_3 a12_4 a12_5 a12_6 a12_7 a12_8 a12_9) fun (a24_0, a24_1, a24_2, a24_3, a24_4, a24_5, a24_6, a24_7, a24_8, a24_9) =>
      br (a24_0)
       (ob (board_Start ) fun (a34_0, a34_1, a34_2) =>
       br (a24_3 == a34_0 && (a24_4 == a34_1 && a24_5 == a34_2))
        (ob (deed_Game_Back a24_1 a24_2 a24_3 a24_4 a24_5 a24_6 a24_7 a24_8 a24_9) fun (a37_0, _, _, _, _, _, _, _, _, _) =>
        some (!a37_0))
        (some (false)))
       (some (false)))
      (some (false)))
     (some (false)))
    (some (false)))
   (fun (a12_0, a12_1, a12_2, a12_3, a12_4, a12_5, a12_6, a12_7, a12_8, a12_9) =>
   br (a12_0)
    (ob (board_At 59 a12_3 a12_4 a12_5 a12_6 a12_7) fun a22 =>
    br (a22 == 1)
     (ob (deed_Game_Len a12_1 a12_2 a12_3 a12_4 a12_5 a12_6 a12_7 a12_8 a12_9) fun a23 =>
     br (a23 == 1)
      (ob (deed_Game_Back a12_1 a12_2 a12_3 a12_4 a12_5 a12_6 a12_7 a12_8 a12_9) fun (a24_0, a24_1, a24_2, a24_3, a24_4, a24_5, a24_6, a24_7, a24_8, a24_9) =>
      br (a24_0)
       (ob (board_Start ) fun (a34_0, a34_1, a34_2) =>
       br (a24_3 == a34_0 && (a24_4 == a34_1 && a24_5 == a34_2))
        (ob (deed_Game_Back a24_1 a24_2 a24_3 a24_4 a24_5 a24_6 a24_7 a24_8 a24_9) fun (a37_0, _, _, _, _, _, _, _, _, _) =>
        some (!a37_0))
        (some (false)))
       (some (false)))
      (some (false)))
     (some (false)))
    (some (false)))
-- END

-- FN ref02_Kind ref02_Kind
def ref02_Kind (x0 : Int) : Option (Int) :=
  br (decide (x0 < 1))
   (some (0))
   (br (decide (x0 > 31))
    (some (0))
    (br (x0 == 13)
     (some (0))
     (br (x0 == 16)
      (some (0))
      (br (x0 == 29)
       (some (0))
       (some (Int.tmod x0 16))))))
-- END

-- FN ref09_Clean ref09_Clean
def ref09_Cleanl2s (rec : Int → List Int → List Int → Int → List Int → List Int → Int → Option (List Int × List Int × Int × List Int × List Int × Int)) (x0 : Int) (x1 : List Int) (x2 : List Int) (x3 : Int) (x4 : List Int) (x5 : List Int) (x6 : Int) : Option (List Int × List Int × Int × List Int × List Int × Int) :=
  br (decide (x0 < 81))
   (br (inB x0 81)
    (ob (ref02_Kind (conv IntKind.i8 IntKind.i64 (List.getD x1 (Int.toNat x0) 0))) fun a10 =>
    br (a10 == 0)
     (br (inB x0 81)
      (rec (IntKind.wrap IntKind.i64 (x0 + 1)) (List.set x1 (Int.toNat x0) 0) x2 x3 x4 x5 x6)
      (none))
     (rec (IntKind.wrap IntKind.i64 (x0 + 1)) x1 x2 x3 x4 x5 x6))
    (none))
   (some (x1, x2, x3, x4, x5, x6))
def ref09_Cleanl2 : Nat → Int → List Int → List Int → Int → List Int → List Int → Int → Option (List Int × List Int × Int × List Int × List Int × Int)
  | 0, _, _, _, _, _, _, _ => none
  | f + 1, x0, x1, x2, x3, x4, x5, x6 => ref09_Cleanl2s (ref09_Cleanl2 f) x0 x1 x2 x3 x4 x5 x6
def ref09_Clean (x0 : List Int) (x1 : List Int) (x2 : Int) : Option (List Int × List Int × Int) :=
  ob (ref09_Cleanl2 many 0 x0 x1 x2 ([0, 0, 0, 0, 0, 0, 0, 0, 0, 0, 0, 0, 0, 0, 0, 0, 0, 0, 0, 0, 0, 0, 0, 0, 0, 0, 0, 0, 0, 0, 0, 0, 0, 0, 0, 0, 0, 0, 0, 0, 0, 0, 0, 0, 0, 0, 0, 0, 0, 0, 0, 0, 0, 0, 0, 0, 0, 0, 0, 0, 0, 0, 0, 0, 0, 0, 0, 0, 0, 0, 0, 0, 0, 0, 0, 0, 0, 0, 0, 0, 0]) ([0, 0, 0, 0, 0, 0, 0, 0, 0, 0, 0, 0, 0, 0, 0, 0]) 0) fun (a3_0, a3_1, a3_2, _, _, _) =>
  some (a3_0, a3_1, a3_2)
-- END

-- FN ref05_On ref05_On
def ref05_Onl3s (rec : Int → Int → Int → Int → List Int → List Int → Int → Option (Int)) (x0 : Int) (x1 : Int) (x2 : Int) (x3 : Int) (x4 : List Int) (x5 : List Int) (x6 : Int) : Option (Int) :=
  br (decide (x3 < 9))
   (br (inB (IntKind.wrap IntKind.i64 (IntKind.wrap IntKind.i64 (9 * x1) + x3)) 81)
    (br (conv IntKind.i8 IntKind.i64 (List.getD x4 (Int.toNat (IntKind.wrap IntKind.i64 (IntKind.wrap IntKind.i64 (9 * x1) + x3))) 0) == x0)
     (rec x0 x1 (IntKind.wrap IntKind.i64 (x2 + 1)) (IntKind.wrap IntKind.i64 (x3 + 1)) x4 x5 x6)
     (rec x0 x1 x2 (IntKind.wrap IntKind.i64 (x3 + 1)) x4 x5 x6))
    (none))
   (some (x2))
def ref05_Onl3 : Nat → Int → Int → Int → Int → List Int → List Int → Int → Option (Int)
  | 0, _, _, _, _, _, _, _ => none
  | f + 1, x0, x1, x2, x3, x4, x5, x6 => ref05_Onl3s (ref05_Onl3 f) x0 x1 x2 x3 x4 x5 x6
def ref05_On (x0 : List Int) (x1 : List Int) (x2 : Int) (x3 : Int) (x4 : Int) : Option (Int) :=
  ob (ref05_Onl3 many x3 x4 0 0 x0 x1 x2) fun a5 =>
  some (a5)
-- END

-- FN ref05_all ref05_all
def ref05_alll3s (rec : Int → Int → Int → List Int → List Int → Int → Option (Int)) (x0 : Int) (x1 : Int) (x2 : Int) (x3 : List Int) (x4 : List Int) (x5 : Int) : Option (Int) :=
  br (decide (x2 < 9))
   (ob (ref05_On x3 x4 x5 x0 x2) fun a10 =>
   rec x0 (IntKind.wrap IntKind.i64 (x1 + a10)) (IntKind.wrap IntKind.i64 (x2 + 1)) x3 x4 x5)
   (some (x1))
def ref05_alll3 : Nat → Int → Int → Int → List Int → List Int → Int → Option (Int)
  | 0, _, _, _, _, _, _ => none
  | f + 1, x0, x1, x2, x3, x4, x5 => ref05_alll3s (ref05_alll3 f) x0 x1 x2 x3 x4 x5
def ref05_all (x0 : List Int) (x1 : List Int) (x2 : Int) (x3 : Int) : Option (Int) :=
  ob (ref05_alll3 many x3 0 0 x0 x1 x2) fun a4 =>
  some (a4)
-- END

-- FN ref02_Raw ref02_Raw
def ref02_Raw (x0 : Int) : Option (Int) :=
  br (decide (x0 < 1))
   (some (0))
   (br (decide (x0 > 15))
    (some (0))
    (br (x0 == 13)
     (some (0))
     (br (decide (x0 > 8))
      (some (IntKind.wrap IntKind.i64 (x0 - 8)))
      (some (x0)))))
-- END

-- FN ref05_Count ref05_Count
def ref05_Countl3s (rec : Int → Int → Int → List Int → List Int → Int → Option (Int × Int × List Int × List Int × Int)) (x0 : Int) (x1 : Int) (x2 : Int) (x3 : List Int) (x4 : List Int) (x5 : Int) : Option (Int × Int × List Int × List Int × Int) :=
  br (decide (x2 < 81))
   (br (inB x2 81)
    (ob (ref02_Kind (conv IntKind.i8 IntKind.i64 (List.getD x3 (Int.toNat x2) 0))) fun a10 =>
    ob (ref02_Raw a10) fun a11 =>
    br (a11 == x0)
     (rec x0 (IntKind.wrap IntKind.i64 (x1 + 1)) (IntKind.wrap IntKind.i64 (x2 + 1)) x3 x4 x5)
     (rec x0 x1 (IntKind.wrap IntKind.i64 (x2 + 1)) x3 x4 x5))
    (none))
   (some (x0, x1, x3, x4, x5))
def ref05_Countl3 : Nat → Int → Int → Int → List Int → List Int → Int → Option (Int × Int × List Int × List Int × Int)
  | 0, _, _, _, _, _, _ => none
  | f + 1, x0, x1, x2, x3, x4, x5 => ref05_Countl3s (ref05_Countl3 f) x0 x1 x2 x3 x4 x5
def ref05_Count (x0 : List Int) (x1 : List Int) (x2 : Int) (x3 : Int) : Option (Int) :=
  ob (ref05_Countl3 many x3 0 0 x0 x1 x2) fun (a4_0, a4_1, _, a4_3, _) =>
  br (inB a4_0 8)
   (br (inB a4_0 8)
    (some (IntKind.wrap IntKind.i64 (IntKind.wrap IntKind.i64 (a4_1 + conv IntKind.i8 IntKind.i64 (List.getD a4_3 (0 + Int.toNat a4_0) 0)) + conv IntKind.i8 IntKind.i64 (List.getD a4_3 (8 + Int.toNat a4_0) 0))))
    (none))
   (none)
-- END

-- FN ref02_Total ref02_Total
def ref02_Total (x0 : Int) : Option (Int) :=
  br (decide (x0 < 1))
   (some (0))
   (br (decide (x0 > 8))
    (some (0))
    (br (inB x0 9)
     (some (List.getD [0, 18, 4, 4, 4, 4, 2, 2, 2] (Int.toNat x0) 0))
     (none)))
-- END

-- FN ref02_Side ref02_Side
def ref02_Side (x0 : Int) : Option (Int) :=
  ob (ref02_Kind x0) fun a1 =>
  br (a1 == 0)
   (some (-1))
   (some (IntKind.wrap IntKind.i64 (Int.tdiv x0 16)))
-- END

-- FN ref03_Far ref03_Far
def ref03_Far (x0 : Int) (x1 : Int) : Option (Int) :=
  br (decide (x1 < 0))
   (some (-1))
   (br (decide (x1 > 80))
    (some (-1))
    (br (decide (x0 < 0))
     (some (-1))
     (br (decide (x0 > 1))
      (some (-1))
      (br (x0 == 0)
       (some (Int.tmod x1 9))
       (some (IntKind.wrap IntKind.i64 (8 - Int.tmod x1 9)))))))
-- END

-- FN ref03_Dead ref03_Dead
def ref03_Dead (x0 : Int) (x1 : Int) : Option (Bool) :=
  ob (ref02_Side x0) fun a2 =>
  ob (ref03_Far a2 x1) fun a3 =>
  ob (ref02_Kind x0) fun a4 =>
  br (a4 == 1)
   (br (a3 == 0)
    (some (true))
    (br (a4 == 3)
     (br (a3 == 0)
      (some (true))
      (some (a3 == 1)))
     (some (false))))
   (br (a4 == 2)
    (br (a3 == 0)
     (some (true))
     (br (a4 == 3)
      (br (a3 == 0)
       (some (true))
       (some (a3 == 1)))
      (some (false))))
    (br (a4 == 3)
     (br (a3 == 0)
      (some (true))
      (some (a3 == 1)))
     (some (false))))
-- END

-- FN ref05_Check ref05_Check
def ref05_Checkl4s (rec : Int → List Int → List Int → Int → Option ((Int × List Int × List Int × Int) ⊕ (List Int × List Int × Int))) (x0 : Int) (x1 : List Int) (x2 : List Int) (x3 : Int) : Option ((Int × List Int × List Int × Int) ⊕ (List Int × List Int × Int)) :=
  br (decide (x0 < 81))
   (br (inB x0 81)
    (br (List.getD x1 (Int.toNat x0) 0 != 0)
     (br (inB x0 81)
      (ob (ref02_Kind (conv IntKind.i8 IntKind.i64 (List.getD x1 (Int.toNat x0) 0))) fun a7 =>
      br (a7 == 0)
       (some (Sum.inl (55, x1, x2, x3)))
       (rec (IntKind.wrap IntKind.i64 (x0 + 1)) x1 x2 x3))
      (none))
     (rec (IntKind.wrap IntKind.i64 (x0 + 1)) x1 x2 x3))
    (none))
   (some (Sum.inr (x1, x2, x3)))
def ref05_Checkl4 : Nat → Int → List Int → List Int → Int → Option ((Int × List Int × List Int × Int) ⊕ (List Int × List Int × Int))
  | 0, _, _, _, _ => none
  | f + 1, x0, x1, x2, x3 => ref05_Checkl4s (ref05_Checkl4 f) x0 x1 x2 x3
def ref05_Checkl12s (rec : Int → Int → List Int → List Int → Int → Option ((Int × Int × List Int × List Int × Int) ⊕ (Int × List Int × List Int × Int))) (x0 : Int) (x1 : Int) (x2 : List Int) (x3 : List Int) (x4 : Int) : Option ((Int × Int × List Int × List Int × Int) ⊕ (Int × List Int × List Int × Int)) :=
  br (decide (x1 < 2))
   (br (inB x1 2)
    (br (inB x0 8)
     (br (decide (List.getD x3 (Int.toNat x1 * 8 + Int.toNat x0) 0 < 0))
      (some (Sum.inl (55, x0, x2, x3, x4)))
      (br (x0 == 0)
       (br (List.getD x3 (Int.toNat x1 * 8 + Int.toNat x0) 0 != 0)
        (some (Sum.inl (55, x0, x2, x3, x4)))
        (rec x0 (IntKind.wrap IntKind.i64 (x1 + 1)) x2 x3 x4))
       (rec x0 (IntKind.wrap IntKind.i64 (x1 + 1)) x2 x3 x4)))
     (none))
    (none))
   (some (Sum.inr (x0, x2, x3, x4)))
def ref05_Checkl12 : Nat → Int → Int → List Int → List Int → Int → Option ((Int × Int × List Int × List Int × Int) ⊕ (Int × List Int × List Int × Int))
  | 0, _, _, _, _, _ => none
  | f + 1, x0, x1, x2, x3, x4 => ref05_Checkl12s (ref05_Checkl12 f) x0 x1 x2 x3 x4
def ref05_Checkl9s (rec : Int → List Int → List Int → Int → Option ((Int × List Int × List Int × Int) ⊕ (List Int × List Int × Int))) (x0 : Int) (x1 : List Int) (x2 : List Int) (x3 : Int) : Option ((Int × List Int × List Int × Int) ⊕ (List Int × List Int × Int)) :=
  br (decide (x0 < 8))
   (ob (ref05_Checkl12 many x0 0 x1 x2 x3) fun t10_2 =>
   sw t10_2 (fun (a10_0, _, a10_2, a10_3, a10_4) =>
    some (Sum.inl (a10_0, a10_2, a10_3, a10_4)))
    (fun (a10_0, a10_1, a10_2, a10_3) =>
    rec (IntKind.wrap IntKind.i64 (a10_0 + 1)) a10_1 a10_2 a10_3))
   (some (Sum.inr (x1, x2, x3)))
def ref05_Checkl9 : Nat → Int → List Int → List Int → Int → Option ((Int × List Int × List Int × Int) ⊕ (List Int × List Int × Int))
  | 0, _, _, _, _ => none
  | f + 1, x0, x1, x2, x3 => ref05_Checkl9s (ref05_Checkl9 f) x0 x1 x2 x3
def ref05_Checkl20s (rec : Int → List Int → List Int → Int → Option ((Int × List Int × List Int × Int) ⊕ (List Int × List Int × Int))) (x0 : Int) (x1 : List Int) (x2 : List Int) (x3 : Int) : Option ((Int × List Int × List Int × Int) ⊕ (List Int × List Int × Int)) :=
  br (decide (x0 < 8))
   (ob (ref05_Count x1 x2 x3 x0) fun a15 =>
   ob (ref02_Total x0) fun a16 =>
   br (decide (a15 > a16))
    (some (Sum.inl (51, x1, x2, x3)))
    (rec (IntKind.wrap IntKind.i64 (x0 + 1)) x1 x2 x3))
   (some (Sum.inr (x1, x2, x3)))
def ref05_Checkl20 : Nat → Int → List Int → List Int → Int → Option ((Int × List Int × List Int × Int) ⊕ (List Int × List Int × Int))
  | 0, _, _, _, _ => none
  | f + 1, x0, x1, x2, x3 => ref05_Checkl20s (ref05_Checkl20 f) x0 x1 x2 x3
def ref05_Checkl25s (rec : Int → List Int → List Int → Int → Option ((Int × List Int × List Int × Int) ⊕ (List Int × List Int × Int))) (x0 : Int) (x1 : List Int) (x2 : List Int) (x3 : Int) : Option ((Int × List Int × List Int × Int) ⊕ (List Int × List Int × Int)) :=
  br (decide (x0 < 81))
   (br (inB x0 81)
    (ob (ref03_Dead (conv IntKind.i8 IntKind.i64 (List.getD x1 (Int.toNat x0) 0)) x0) fun a18 =>
    br (a18)
     (some (Sum.inl (52, x1, x2, x3)))
     (rec (IntKind.wrap IntKind.i64 (x0 + 1)) x1 x2 x3))
    (none))
   (some (Sum.inr (x1, x2, x3)))
def ref05_Checkl25 : Nat → Int → List Int → List Int → Int → Option ((Int × List Int × List Int × Int) ⊕ (List Int × List Int × Int))
  | 0, _, _, _, _ => none
  | f + 1, x0, x1, x2, x3 => ref05_Checkl25s (ref05_Checkl25 f) x0 x1 x2 x3
def ref05_Checkl30s (rec : Int → List Int → List Int → Int → Option ((Int) ⊕ (Unit))) (x0 : Int) (x1 : List Int) (x2 : List Int) (x3 : Int) : Option ((Int) ⊕ (Unit)) :=
  br (decide (x0 < 9))
   (ob (ref05_On x1 x2 x3 1 x0) fun a21 =>
   br (decide (a21 > 1))
    (some (Sum.inl (53)))
    (ob (ref05_On x1 x2 x3 17 x0) fun a22 =>
    br (decide (a22 > 1))
     (some (Sum.inl (53)))
     (rec (IntKind.wrap IntKind.i64 (x0 + 1)) x1 x2 x3)))
   (some (Sum.inr ()))
def ref05_Checkl30 : Nat → Int → List Int → List Int → Int → Option ((Int) ⊕ (Unit))
  | 0, _, _, _, _ => none
  | f + 1, x0, x1, x2, x3 => ref05_Checkl30s (ref05_Checkl30 f) x0 x1 x2 x3
def ref05_Check (x0 : List Int) (x1 : List Int) (x2 : Int) : Option (Int) :=
  br (x2 != 0)
   (br (x2 != 1)
    (some (1))
    (ob (ref05_Checkl4 many 0 x0 x1 x2) fun t3_2 =>
    sw t3_2 (fun (a3_0, _, _, _) =>
     some (a3_0))
     (fun (a3_0, a3_1, a3_2) =>
     ob (ref05_Checkl9 many 0 a3_0 a3_1 a3_2) fun t6_2 =>
     sw t6_2 (fun (a6_0, _, _, _) =>
      some (a6_0))
      (fun (a6_0, a6_1, a6_2) =>
      ob (ref05_all a6_0 a6_1 a6_2 8) fun a9 =>
      br (a9 != 1)
       (some (50))
       (ob (ref05_all a6_0 a6_1 a6_2 24) fun a10 =>
       br (a10 != 1)
        (some (50))
        (ob (ref05_Checkl20 many 1 a6_0 a6_1 a6_2) fun t11_2 =>
        sw t11_2 (fun (a11_0, _, _, _) =>
         some (a11_0))
         (fun (a11_0, a11_1, a11_2) =>
         ob (ref05_Checkl25 many 0 a11_0 a11_1 a11_2) fun t14_2 =>
         sw t14_2 (fun (a14_0, _, _, _) =>
          some (a14_0))
          (fun (a14_0, a14_1, a14_2) =>
          ob (ref05_Checkl30 many 0 a14_0 a14_1 a14_2) fun t17_2 =>
          sw t17_2 (fun a17 =>
           some (a17))
           (fun _ =>
           some (0))))))))))
   (ob (ref05_Checkl4 many 0 x0 x1 x2) fun t3_2 =>
   sw t3_2 (fun (a3_0, _, _, _) =>
    some (a3_0))
    (fun (a3_0, a3_1, a3_2) =>
    ob (ref05_Checkl9 many 0 a3_0 a3_1 a3_2) fun t6_2 =>
    sw t6_2 (fun (a6_0, _, _, _) =>
     some (a6_0))
     (fun (a6_0, a6_1, a6_2) =>
     ob (ref05_all a6_0 a6_1 a6_2 8) fun a9 =>
     br (a9 != 1)
      (some (50))
      (ob (ref05_all a6_0 a6_1 a6_2 24) fun a10 =>
      br (a10 != 1)
       (some (50))
       (ob (ref05_Checkl20 many 1 a6_0 a6_1 a6_2) fun t11_2 =>
       sw t11_2 (fun (a11_0, _, _, _) =>
        some (a11_0))
        (fun (a11_0, a11_1, a11_2) =>
        ob (ref05_Checkl25 many 0 a11_0 a11_1 a11_2) fun t14_2 =>
        sw t14_2 (fun (a14_0, _, _, _) =>
         some (a14_0))
         (fun (a14_0, a14_1, a14_2) =>
         ob (ref05_Checkl30 many 0 a14_0 a14_1 a14_2) fun t17_2 =>
         sw t17_2 (fun a17 =>
          some (a17))
          (fun _ =>
          some (0)))))))))
-- END

-- FN deed_After deed_After
def deed_After (x0 : List Int) (x1 : List Int) (x2 : Int) (x3 : Int) (x4 : Int) (x5 : Int) (x6 : Bool) : Option (List Int × List Int × Int × Bool) :=
  ob (deed_New x0 x1 x2) fun (a7_0, a7_1, a7_2, a7_3, a7_4, a7_5, a7_6, a7_7, a7_8) =>
  ob (deed_Game_Make x3 x4 x5 x6 a7_0 a7_1 a7_2 a7_3 a7_4 a7_5 a7_6 a7_7 a7_8) fun t16_2 =>
  sw t16_2 (fun (a16_0, _, _, a16_3, a16_4, a16_5, _, _, _, _) =>
   some (a16_3, a16_4, a16_5, a16_0))
   (fun (a16_0, _, _, a16_3, a16_4, a16_5, _, _, _, _) =>
   some (a16_3, a16_4, a16_5, a16_0))
-- END

-- FN law09_DeedPieces law09_DeedPieces
def law09_DeedPiecesl10s (rec : Int → List Int → List Int → Int → List Int → List Int → Int → Option ((Bool × List Int × List Int × Int × List Int × List Int × Int) ⊕ (List Int × List Int × Int × List Int × List Int × Int))) (x0 : Int) (x1 : List Int) (x2 : List Int) (x3 : Int) (x4 : List Int) (x5 : List Int) (x6 : Int) : Option ((Bool × List Int × List Int × Int × List Int × List Int × Int) ⊕ (List Int × List Int × Int × List Int × List Int × Int)) :=
  br (decide (x0 ≤ 7))
   (ob (ref05_Count x1 x2 x3 x0) fun a23 =>
   ob (ref05_Count x4 x5 x6 x0) fun a24 =>
   br (a23 != a24)
    (some (Sum.inl (false, x1, x2, x3, x4, x5, x6)))
    (rec (IntKind.wrap IntKind.i64 (x0 + 1)) x1 x2 x3 x4 x5 x6))
   (some (Sum.inr (x1, x2, x3, x4, x5, x6)))
def law09_DeedPiecesl10 : Nat → Int → List Int → List Int → Int → List Int → List Int → Int → Option ((Bool × List Int × List Int × Int × List Int × List Int × Int) ⊕ (List Int × List Int × Int × List Int × List Int × Int))
  | 0, _, _, _, _, _, _, _ => none
  | f + 1, x0, x1, x2, x3, x4, x5, x6 => law09_DeedPiecesl10s (law09_DeedPiecesl10 f) x0 x1 x2 x3 x4 x5 x6
def law09_DeedPieces (x0 : List Int) (x1 : List Int) (x2 : Int) (x3 : Int) (x4 : Int) (x5 : Int) (x6 : Bool) : Option (Bool) :=
  ob (law09_makes ) fun a7 =>
  br (!a7)
   (some (false))
   (ob (ref09_Clean x0 x1 x2) fun (a8_0, a8_1, a8_2) =>
   ob (ref05_Check a8_0 a8_1 a8_2) fun a11 =>
   br (a11 != 0)
    (some (true))
    (ob (deed_After a8_0 a8_1 a8_2 x3 x4 x5 x6) fun (a12_0, a12_1, a12_2, a12_3) =>
    br (!a12_3)
     (some (a12_0 == a8_0 && (a12_1 == a8_1 && a12_2 == a8_2)))
     (ob (law09_DeedPiecesl10 many 1 a8_0 a8_1 a8_2 a12_0 a12_1 a12_2) fun t16_2 =>
     sw t16_2 (fun (a16_0, _, _, _, _, _, _) =>
      some (a16_0))
      (fun (_, _, a16_2, _, _, a16_5) =>
      some (a16_5 == IntKind.wrap IntKind.i8 (1 - a16_2))))))
-- END

-- FN law09_DeedHands law09_DeedHands
def law09_DeedHands (x0 : List Int) (x1 : List Int) (x2 : Int) (x3 : Int) (x4 : Int) (x5 : Int) (x6 : Bool) : Option (Bool) :=
  ob (law09_makes ) fun a7 =>
  br (!a7)
   (some (false))
   (ob (ref09_Clean x0 x1 x2) fun (a8_0, a8_1, a8_2) =>
   ob (ref05_Check a8_0 a8_1 a8_2) fun a11 =>
   br (a11 != 0)
    (some (true))
    (ob (deed_After a8_0 a8_1 a8_2 x3 x4 x5 x6) fun (a12_0, a12_1, _, a12_3) =>
    br (!a12_3)
     (some (true))
     (br (x5 != 0)
      (br (inB a8_2 2)
       (br (inB x5 8)
        (br (inB a8_2 2)
         (br (inB x5 8)
          (br (a12_1 == List.set a8_1 (Int.toNat a8_2 * 8 + Int.toNat x5) (IntKind.wrap IntKind.i8 (List.getD a8_1 (Int.toNat a8_2 * 8 + Int.toNat x5) 0 - 1)))
           (br (inB x4 81)
            (some (IntKind.wrap IntKind.i64 (Int.tdiv (conv IntKind.i8 IntKind.i64 (List.getD a12_0 (Int.toNat x4) 0)) 16) == a8_2))
            (none))
           (some (false)))
          (none))
         (none))
        (none))
       (none))
      (br (inB x4 81)
       (br (conv IntKind.i8 IntKind.i64 (List.getD a8_0 (Int.toNat x4) 0) != 0)
        (br (decide (Int.tmod (conv IntKind.i8 IntKind.i64 (List.getD a8_0 (Int.toNat x4) 0)) 16 > 8))
         (br (inB a8_2 2)
          (br (inB (IntKind.wrap IntKind.i64 (Int.tmod (conv IntKind.i8 IntKind.i64 (List.getD a8_0 (Int.toNat x4) 0)) 16 - 8)) 8)
           (br (inB a8_2 2)
            (br (inB (IntKind.wrap IntKind.i64 (Int.tmod (conv IntKind.i8 IntKind.i64 (List.getD a8_0 (Int.toNat x4) 0)) 16 - 8)) 8)
             (br (a12_1 == List.set a8_1 (Int.toNat a8_2 * 8 + Int.toNat (IntKind.wrap IntKind.i64 (Int.tmod (conv IntKind.i8 IntKind.i64 (List.getD a8_0 (Int.toNat x4) 0)) 16 - 8))) (IntKind.wrap IntKind.i8 (List.getD a8_1 (Int.toNat a8_2 * 8 + Int.toNat (IntKind.wrap IntKind.i64 (Int.tmod (conv IntKind.i8 IntKind.i64 (List.getD a8_0 (Int.toNat x4) 0)) 16 - 8))) 0 + 1)))
              (br (inB x4 81)
               (some (IntKind.wrap IntKind.i64 (Int.tdiv (conv IntKind.i8 IntKind.i64 (List.getD a12_0 (Int.toNat x4) 0)) 16) == a8_2))
               (none))
              (some (false)))
             (none))
            (none))
           (none))
          (none))
         (br (inB a8_2 2)
          (br (inB (Int.tmod (conv IntKind.i8 IntKind.i64 (List.getD a8_0 (Int.toNat x4) 0)) 16) 8)
           (br (inB a8_2 2)
            (br (inB (Int.tmod (conv IntKind.i8 IntKind.i64 (List.getD a8_0 (Int.toNat x4) 0)) 16) 8)
             (br (a12_1 == List.set a8_1 (Int.toNat a8_2 * 8 + Int.toNat (Int.tmod (conv IntKind.i8 IntKind.i64 (List.getD a8_0 (Int.toNat x4) 0)) 16)) (IntKind.wrap IntKind.i8 (List.getD a8_1 (Int.toNat a8_2 * 8 + Int.toNat (Int.tmod (conv IntKind.i8 IntKind.i64 (List.getD a8_0 (Int.toNat x4) 0)) 16)) 0 + 1)))
              (br (inB x4 81)
               (some (IntKind.wrap IntKind.i64 (Int.tdiv (conv IntKind.i8 IntKind.i64 (List.getD a12_0 (Int.toNat x4) 0)) 16) == a8_2))
               (none))
              (some (false)))
             (none))
            (none))
           (none))
          (none)))
        (br (a12_1 == a8_1)
         (br (inB x4 81)
          (some (IntKind.wrap IntKind.i64 (Int.tdiv (conv IntKind.i8 IntKind.i64 (List.getD a12_0 (Int.toNat x4) 0)) 16) == a8_2))
          (none))
         (some (false))))
       (none)))))
-- END

-- FN deed_Game_Key deed_Game_Key
def deed_Game_Key (x0 : Int) (_x1 : Nat) (_x2 : List Int) (_x3 : List Int) (_x4 : Int) (_x5 : List (List Int)) (_x6 : List (List Int)) (_x7 : Nat) (_x8 : List (List Int)) : Option (Int) :=
  some (x0)
-- END

-- FN law09_DeedKeys law09_DeedKeys
def law09_DeedKeysl8s (rec : Nat → Nat → Int → Int → Nat → List (List Int) → Int → Nat → List Int → List Int → Int → List (List Int) → List (List Int) → Nat → List (List Int) → Option ((Bool × Nat × List (List Int)) ⊕ (Nat × List (List Int)))) (x0 : Nat) (x1 : Nat) (x2 : Int) (x3 : Int) (x4 : Nat) (x5 : List (List Int)) (x6 : Int) (x7 : Nat) (x8 : List Int) (x9 : List Int) (x10 : Int) (x11 : List (List Int)) (x12 : List (List Int)) (x13 : Nat) (x14 : List (List Int)) : Option ((Bool × Nat × List (List Int)) ⊕ (Nat × List (List Int))) :=
  br (decide (x3 < x2))
   (br (inB x3 x1)
    (ob (deed_Game_Make (List.headD (List.take 4 (List.getD x5 (x0 + Int.toNat x3) [])) 0) (List.headD (List.tail (List.take 4 (List.getD x5 (x0 + Int.toNat x3) []))) 0) (List.headD (List.tail (List.tail (List.take 4 (List.getD x5 (x0 + Int.toNat x3) [])))) 0) (List.headD (List.tail (List.tail (List.tail (List.take 4 (List.getD x5 (x0 + Int.toNat x3) []))))) 0 != 0) x6 x7 x8 x9 x10 x11 x12 x13 x14) fun t36_2 =>
    sw t36_2 (fun (_, a36_1, a36_2, a36_3, a36_4, a36_5, a36_6, a36_7, a36_8, a36_9) =>
     ob (deed_Game_Key a36_1 a36_2 a36_3 a36_4 a36_5 a36_6 a36_7 a36_8 a36_9) fun a46 =>
     ob (key_Of a36_3 a36_4 a36_5) fun a47 =>
     br (a46 != a47)
      (some (Sum.inl (false, x4, x5)))
      (ob (board_New a36_3 a36_4 a36_5) fun (a48_0, a48_1, a48_2, _, _) =>
      br (!(a36_3 == a48_0 && (a36_4 == a48_1 && a36_5 == a48_2)))
       (some (Sum.inl (false, x4, x5)))
       (rec x0 x1 x2 (IntKind.wrap IntKind.i64 (x3 + 1)) x4 x5 a36_1 a36_2 a36_3 a36_4 a36_5 a36_6 a36_7 a36_8 a36_9)))
     (fun (_, a36_1, a36_2, a36_3, a36_4, a36_5, a36_6, a36_7, a36_8, a36_9) =>
     ob (deed_Game_Key a36_1 a36_2 a36_3 a36_4 a36_5 a36_6 a36_7 a36_8 a36_9) fun a46 =>
     ob (key_Of a36_3 a36_4 a36_5) fun a47 =>
     br (a46 != a47)
      (some (Sum.inl (false, x4, x5)))
      (ob (board_New a36_3 a36_4 a36_5) fun (a48_0, a48_1, a48_2, _, _) =>
      br (!(a36_3 == a48_0 && (a36_4 == a48_1 && a36_5 == a48_2)))
       (some (Sum.inl (false, x4, x5)))
       (rec x0 x1 x2 (IntKind.wrap IntKind.i64 (x3 + 1)) x4 x5 a36_1 a36_2 a36_3 a36_4 a36_5 a36_6 a36_7 a36_8 a36_9))))
    (none))
   (some (Sum.inr (x4, x5)))
def law09_DeedKeysl8 : Nat → Nat → Nat → Int → Int → Nat → List (List Int) → Int → Nat → List Int → List Int → Int → List (List Int) → List (List Int) → Nat → List (List Int) → Option ((Bool × Nat × List (List Int)) ⊕ (Nat × List (List Int)))
  | 0, _, _, _, _, _, _, _, _, _, _, _, _, _, _, _ => none
  | f + 1, x0, x1, x2, x3, x4, x5, x6, x7, x8, x9, x10, x11, x12, x13, x14 => law09_DeedKeysl8s (law09_DeedKeysl8 f) x0 x1 x2 x3 x4 x5 x6 x7 x8 x9 x10 x11 x12 x13 x14
def law09_DeedKeys (x0 : List Int) (x1 : List Int) (x2 : Int) (x3 : Nat) (x4 : Nat) (x5 : Nat) (x6 : List (List Int)) : Option (Bool) :=
  ob (law09_makes ) fun a7 =>
  br (!a7)
   (some (false))
   (ob (ref09_Clean x0 x1 x2) fun (a8_0, a8_1, a8_2) =>
   ob (ref05_Check a8_0 a8_1 a8_2) fun a11 =>
   br (a11 != 0)
    (some (true))
    (br (decide (Int.ofNat x4 > 100))
     (some (true))
     (ob (deed_New a8_0 a8_1 a8_2) fun (a12_0, a12_1, a12_2, a12_3, a12_4, a12_5, a12_6, a12_7, a12_8) =>
     ob (law09_DeedKeysl8 many x3 x4 (Int.ofNat x4) 0 x5 x6 a12_0 a12_1 a12_2 a12_3 a12_4 a12_5 a12_6 a12_7 a12_8) fun t21_2 =>
     sw t21_2 (fun (a21_0, _, _) =>
      some (a21_0))
      (fun (_, _) =>
      some (true)))))
-- END

-- FN law09_DeedTwice law09_DeedTwice
def law09_DeedTwicel8s (rec : Nat → Nat → Nat → Nat → Int → Int → Nat → List (List Int) → List Int → List Int → Int → Int → Nat → Int → Nat → List Int → List Int → Int → List (List Int) → List (List Int) → Nat → List (List Int) → List Int → List Int → Int → List (List Int) → List (List Int) → Nat → List (List Int) → Option ((Nat × Nat × Bool × Nat × List (List Int) × List Int × List Int × Int × Int × Nat × Int × Nat × List Int × List Int × Int × List (List Int) × List (List Int) × Nat × List (List Int) × List Int × List Int × Int × List (List Int) × List (List Int) × Nat × List (List Int)) ⊕ (Nat × Nat × Nat × List (List Int) × List Int × List Int × Int × Int × Nat × Int × Nat × List Int × List Int × Int × List (List Int) × List (List Int) × Nat × List (List Int) × List Int × List Int × Int × List (List Int) × List (List Int) × Nat × List (List Int)))) (x0 : Nat) (x1 : Nat) (x2 : Nat) (x3 : Nat) (x4 : Int) (x5 : Int) (x6 : Nat) (x7 : List (List Int)) (x8 : List Int) (x9 : List Int) (x10 : Int) (x11 : Int) (x12 : Nat) (x13 : Int) (x14 : Nat) (x15 : List Int) (x16 : List Int) (x17 : Int) (x18 : List (List Int)) (x19 : List (List Int)) (x20 : Nat) (x21 : List (List Int)) (x22 : List Int) (x23 : List Int) (x24 : Int) (x25 : List (List Int)) (x26 : List (List Int)) (x27 : Nat) (x28 : List (List Int)) : Option ((Nat × Nat × Bool × Nat × List (List Int) × List Int × List Int × Int × Int × Nat × Int × Nat × List Int × List Int × Int × List (List Int) × List (List Int) × Nat × List (List Int) × List Int × List Int × Int × List (List Int) × List (List Int) × Nat × List (List Int)) ⊕ (Nat × Nat × Nat × List (List Int) × List Int × List Int × Int × Int × Nat × Int × Nat × List Int × List Int × Int × List (List Int) × List (List Int) × Nat × List (List Int) × List Int × List Int × Int × List (List Int) × List (List Int) × Nat × List (List Int))) :=
  br (decide (x5 < x4))
   (br (inB x5 x3)
    (ob (deed_Game_Can (List.headD (List.take 4 (List.getD x7 (x2 + Int.toNat x5) [])) 0) (List.headD (List.tail (List.take 4 (List.getD x7 (x2 + Int.toNat x5) []))) 0) (List.headD (List.tail (List.tail (List.take 4 (List.getD x7 (x2 + Int.toNat x5) [])))) 0) (List.headD (List.tail (List.tail (List.tail (List.take 4 (List.getD x7 (x2 + Int.toNat x5) []))))) 0 != 0) x13 x14 x22 x23 x24 x25 x26 x27 x28) fun a59 =>
    ob (deed_Game_Make (List.headD (List.take 4 (List.getD x7 (x2 + Int.toNat x5) [])) 0) (List.headD (List.tail (List.take 4 (List.getD x7 (x2 + Int.toNat x5) []))) 0) (List.headD (List.tail (List.tail (List.take 4 (List.getD x7 (x2 + Int.toNat x5) [])))) 0) (List.headD (List.tail (List.tail (List.tail (List.take 4 (List.getD x7 (x2 + Int.toNat x5) []))))) 0 != 0) x11 x12 x15 x16 x17 x18 x19 x20 x21) fun t60_2 =>
    sw t60_2 (fun (a60_0, a60_1, a60_2, a60_3, a60_4, a60_5, a60_6, a60_7, a60_8, a60_9) =>
     br (!a60_0 == a59)
      (some (Sum.inl (x0, x1, false, x6, x7, x8, x9, x10, a60_1, a60_2, x13, x14, a60_3, a60_4, a60_5, a60_6, a60_7, a60_8, a60_9, x22, x23, x24, x25, x26, x27, x28)))
      (br (a59)
       (br (x22 == a60_3 && (x23 == a60_4 && x24 == a60_5))
        (some (Sum.inl (x0, x1, false, x6, x7, x8, x9, x10, a60_1, a60_2, x13, x14, a60_3, a60_4, a60_5, a60_6, a60_7, a60_8, a60_9, x22, x23, x24, x25, x26, x27, x28)))
        (ob (deed_Game_Make (List.headD (List.take 4 (List.getD x7 (x2 + Int.toNat x5) [])) 0) (List.headD (List.tail (List.take 4 (List.getD x7 (x2 + Int.toNat x5) []))) 0) (List.headD (List.tail (List.tail (List.take 4 (List.getD x7 (x2 + Int.toNat x5) [])))) 0) (List.headD (List.tail (List.tail (List.tail (List.take 4 (List.getD x7 (x2 + Int.toNat x5) []))))) 0 != 0) x13 x14 x22 x23 x24 x25 x26 x27 x28) fun t70_2 =>
        sw t70_2 (fun (a70_0, a70_1, a70_2, a70_3, a70_4, a70_5, a70_6, a70_7, a70_8, a70_9) =>
         br (!a70_0 == a59)
          (some (Sum.inl (x0, x1, false, x6, x7, x8, x9, x10, a60_1, a60_2, a70_1, a70_2, a60_3, a60_4, a60_5, a60_6, a60_7, a60_8, a60_9, a70_3, a70_4, a70_5, a70_6, a70_7, a70_8, a70_9)))
          (br (!(a60_3 == a70_3 && (a60_4 == a70_4 && a60_5 == a70_5)))
           (some (Sum.inl (x0, x1, false, x6, x7, x8, x9, x10, a60_1, a60_2, a70_1, a70_2, a60_3, a60_4, a60_5, a60_6, a60_7, a60_8, a60_9, a70_3, a70_4, a70_5, a70_6, a70_7, a70_8, a70_9)))
           (ob (deed_Game_Key a60_1 a60_2 a60_3 a60_4 a60_5 a60_6 a60_7 a60_8 a60_9) fun a80 =>
           ob (deed_Game_Key a70_1 a70_2 a70_3 a70_4 a70_5 a70_6 a70_7 a70_8 a70_9) fun a81 =>
           br (a80 != a81)
            (some (Sum.inl (x0, x1, false, x6, x7, x8, x9, x10, a60_1, a60_2, a70_1, a70_2, a60_3, a60_4, a60_5, a60_6, a60_7, a60_8, a60_9, a70_3, a70_4, a70_5, a70_6, a70_7, a70_8, a70_9)))
            (ob (deed_Game_Len a60_1 a60_2 a60_3 a60_4 a60_5 a60_6 a60_7 a60_8 a60_9) fun a82 =>
            ob (deed_Game_Len a70_1 a70_2 a70_3 a70_4 a70_5 a70_6 a70_7 a70_8 a70_9) fun a83 =>
            br (a82 != a83)
             (some (Sum.inl (x0, x1, false, x6, x7, x8, x9, x10, a60_1, a60_2, a70_1, a70_2, a60_3, a60_4, a60_5, a60_6, a60_7, a60_8, a60_9, a70_3, a70_4, a70_5, a70_6, a70_7, a70_8, a70_9)))
             (rec x0 x1 x2 x3 x4 (IntKind.wrap IntKind.i64 (x5 + 1)) x6 x7 x8 x9 x10 a60_1 a60_2 a70_1 a70_2 a60_3 a60_4 a60_5 a60_6 a60_7 a60_8 a60_9 a70_3 a70_4 a70_5 a70_6 a70_7 a70_8 a70_9)))))
         (fun (a70_0, a70_1, a70_2, a70_3, a70_4, a70_5, a70_6, a70_7, a70_8, a70_9) =>
         br (!a70_0 == a59)
          (some (Sum.inl (x0, x1, false, x6, x7, x8, x9, x10, a60_1, a60_2, a70_1, a70_2, a60_3, a60_4, a60_5, a60_6, a60_7, a60_8, a60_9, a70_3, a70_4, a70_5, a70_6, a70_7, a70_8, a70_9)))
          (br (!(a60_3 == a70_3 && (a60_4 == a70_4 && a60_5 == a70_5)))
           (some (Sum.inl (x0, x1, false, x6, x7, x8, x9, x10, a60_1, a60_2, a70_1, a70_2, a60_3, a60_4, a60_5, a60_6, a60_7, a60_8, a60_9, a70_3, a70_4, a70_5, a70_6, a70_7, a70_8, a70_9)))
           (ob (deed_Game_Key a60_1 a60_2 a60_3 a60_4 a60_5 a60_6 a60_7 a60_8 a60_9) fun a80 =>
           ob (deed_Game_Key a70_1 a70_2 a70_3 a70_4 a70_5 a70_6 a70_7 a70_8 a70_9) fun a81 =>
           br (a80 != a81)
            (some (Sum.inl (x0, x1, false, x6, x7, x8, x9, x10, a60_1, a60_2, a70_1, a70_2, a60_3, a60_4, a60_5, a60_6, a60_7, a60_8, a60_9, a70_3, a70_4, a70_5, a70_6, a70_7, a70_8, a70_9)))
            (ob (deed_Game_Len a60_1 a60_2 a60_3 a60_4 a60_5 a60_6 a60_7 a60_8 a60_9) fun a82 =>
            ob (deed_Game_Len a70_1 a70_2 a70_3 a70_4 a70_5 a70_6 a70_7 a70_8 a70_9) fun a83 =>
            br (a82 != a83)
             (some (Sum.inl (x0, x1, false, x6, x7, x8, x9, x10, a60_1, a60_2, a70_1, a70_2, a60_3, a60_4, a60_5, a60_6, a60_7, a60_8, a60_9, a70_3, a70_4, a70_5, a70_6, a70_7, a70_8, a70_9)))
             (rec x0 x1 x2 x3 x4 (IntKind.wrap IntKind.i64 (x5 + 1)) x6 x7 x8 x9 x10 a60_1 a60_2 a70_1 a70_2 a60_3 a60_4 a60_5 a60_6 a60_7 a60_8 a60_9 a70_3 a70_4 a70_5 a70_6 a70_7 a70_8 a70_9)))))))
       (ob (deed_Game_Make (List.headD (List.take 4 (List.getD x7 (x2 + Int.toNat x5) [])) 0) (List.headD (List.tail (List.take 4 (List.getD x7 (x2 + Int.toNat x5) []))) 0) (List.headD (List.tail (List.tail (List.take 4 (List.getD x7 (x2 + Int.toNat x5) [])))) 0) (List.headD (List.tail (List.tail (List.tail (List.take 4 (List.getD x7 (x2 + Int.toNat x5) []))))) 0 != 0) x13 x14 x22 x23 x24 x25 x26 x27 x28) fun t70_2 =>
       sw t70_2 (fun (a70_0, a70_1, a70_2, a70_3, a70_4, a70_5, a70_6, a70_7, a70_8, a70_9) =>
        br (!a70_0 == a59)
         (some (Sum.inl (x0, x1, false, x6, x7, x8, x9, x10, a60_1, a60_2, a70_1, a70_2, a60_3, a60_4, a60_5, a60_6, a60_7, a60_8, a60_9, a70_3, a70_4, a70_5, a70_6, a70_7, a70_8, a70_9)))
         (br (!(a60_3 == a70_3 && (a60_4 == a70_4 && a60_5 == a70_5)))
          (some (Sum.inl (x0, x1, false, x6, x7, x8, x9, x10, a60_1, a60_2, a70_1, a70_2, a60_3, a60_4, a60_5, a60_6, a60_7, a60_8, a60_9, a70_3, a70_4, a70_5, a70_6, a70_7, a70_8, a70_9)))
          (ob (deed_Game_Key a60_1 a60_2 a60_3 a60_4 a60_5 a60_6 a60_7 a60_8 a60_9) fun a80 =>
          ob (deed_Game_Key a70_1 a70_2 a70_3 a70_4 a70_5 a70_6 a70_7 a70_8 a70_9) fun a81 =>
          br (a80 != a81)
           (some (Sum.inl (x0, x1, false, x6, x7, x8, x9, x10, a60_1, a60_2, a70_1, a70_2, a60_3, a60_4, a60_5, a60_6, a60_7, a60_8, a60_9, a70_3, a70_4, a70_5, a70_6, a70_7, a70_8, a70_9)))
           (ob (deed_Game_Len a60_1 a60_2 a60_3 a60_4 a60_5 a60_6 a60_7 a60_8 a60_9) fun a82 =>
           ob (deed_Game_Len a70_1 a70_2 a70_3 a70_4 a70_5 a70_6 a70_7 a70_8 a70_9) fun a83 =>
           br (a82 != a83)
            (some (Sum.inl (x0, x1, false, x6, x7, x8, x9, x10, a60_1, a60_2, a70_1, a70_2, a60_3, a60_4, a60_5, a60_6, a60_7, a60_8, a60_9, a70_3, a70_4, a70_5, a70_6, a70_7, a70_8, a70_9)))
            (rec x0 x1 x2 x3 x4 (IntKind.wrap IntKind.i64 (x5 + 1)) x6 x7 x8 x9 x10 a60_1 a60_2 a70_1 a70_2 a60_3 a60_4 a60_5 a60_6 a60_7 a60_8 a60_9 a70_3 a70_4 a70_5 a70_6 a70_7 a70_8 a70_9)))))
        (fun (a70_0, a70_1, a70_2, a70_3, a70_4, a70_5, a70_6, a70_7, a70_8, a70_9) =>
        br (!a70_0 == a59)
         (some (Sum.inl (x0, x1, false, x6, x7, x8, x9, x10, a60_1, a60_2, a70_1, a70_2, a60_3, a60_4, a60_5, a60_6, a60_7, a60_8, a60_9, a70_3, a70_4, a70_5, a70_6, a70_7, a70_8, a70_9)))
         (br (!(a60_3 == a70_3 && (a60_4 == a70_4 && a60_5 == a70_5)))
          (some (Sum.inl (x0, x1, false, x6, x7, x8, x9, x10, a60_1, a60_2, a70_1, a70_2, a60_3, a60_4, a60_5, a60_6, a60_7, a60_8, a60_9, a70_3, a70_4, a70_5, a70_6, a70_7, a70_8, a70_9)))
          (ob (deed_Game_Key a60_1 a60_2 a60_3 a60_4 a60_5 a60_6 a60_7 a60_8 a60_9) fun a80 =>
          ob (deed_Game_Key a70_1 a70_2 a70_3 a70_4 a70_5 a70_6 a70_7 a70_8 a70_9) fun a81 =>
          br (a80 != a81)
           (some (Sum.inl (x0, x1, false, x6, x7, x8, x9, x10, a60_1, a60_2, a70_1, a70_2, a60_3, a60_4, a60_5, a60_6, a60_7, a60_8, a60_9, a70_3, a70_4, a70_5, a70_6, a70_7, a70_8, a70_9)))
           (ob (deed_Game_Len a60_1 a60_2 a60_3 a60_4 a60_5 a60_6 a60_7 a60_8 a60_9) fun a82 =>
           ob (deed_Game_Len a70_1 a70_2 a70_3 a70_4 a70_5 a70_6 a70_7 a70_8 a70_9) fun a83 =>
           br (a82 != a83)
            (some (Sum.inl (x0, x1, false, x6, x7, x8, x9, x10, a60_1, a60_2, a70_1, a70_2, a60_3, a60_4, a60_5, a60_6, a60_7, a60_8, a60_9, a70_3, a70_4, a70_5, a70_6, a70_7, a70_8, a70_9)))
            (rec x0 x1 x2 x3 x4 (IntKind.wrap IntKind.i64 (x5 + 1)) x6 x7 x8 x9 x10 a60_1 a60_2 a70_1 a70_2 a60_3 a60_4 a60_5 a60_6 a60_7 a60_8 a60_9 a70_3 a70_4 a70_5 a70_6 a70_7 a70_8 a70_9))))))))
     (fun (a60_0, a60_1, a60_2, a60_3, a60_4, a60_5, a60_6, a60_7, a60_8, a60_9) =>
     br (!a60_0 == a59)
      (some (Sum.inl (x0, x1, false, x6, x7, x8, x9, x10, a60_1, a60_2, x13, x14, a60_3, a60_4, a60_5, a60_6, a60_7, a60_8, a60_9, x22, x23, x24, x25, x26, x27, x28)))
      (br (a59)
       (br (x22 == a60_3 && (x23 == a60_4 && x24 == a60_5))
        (some (Sum.inl (x0, x1, false, x6, x7, x8, x9, x10, a60_1, a60_2, x13, x14, a60_3, a60_4, a60_5, a60_6, a60_7, a60_8, a60_9, x22, x23, x24, x25, x26, x27, x28)))
        (ob (deed_Game_Make (List.headD (List.take 4 (List.getD x7 (x2 + Int.toNat x5) [])) 0) (List.headD (List.tail (List.take 4 (List.getD x7 (x2 + Int.toNat x5) []))) 0) (List.headD (List.tail (List.tail (List.take 4 (List.getD x7 (x2 + Int.toNat x5) [])))) 0) (List.headD (List.tail (List.tail (List.tail (List.take 4 (List.getD x7 (x2 + Int.toNat x5) []))))) 0 != 0) x13 x14 x22 x23 x24 x25 x26 x27 x28) fun t70_2 =>
        sw t70_2 (fun (a70_0, a70_1, a70_2, a70_3, a70_4, a70_5, a70_6, a70_7, a70_8, a70_9) =>
         br (!a70_0 == a59)
          (some (Sum.inl (x0, x1, false, x6, x7, x8, x9, x10, a60_1, a60_2, a70_1, a70_2, a60_3, a60_4, a60_5, a60_6, a60_7, a60_8, a60_9, a70_3, a70_4, a70_5, a70_6, a70_7, a70_8, a70_9)))
          (br (!(a60_3 == a70_3 && (a60_4 == a70_4 && a60_5 == a70_5)))
           (some (Sum.inl (x0, x1, false, x6, x7, x8, x9, x10, a60_1, a60_2, a70_1, a70_2, a60_3, a60_4, a60_5, a60_6, a60_7, a60_8, a60_9, a70_3, a70_4, a70_5, a70_6, a70_7, a70_8, a70_9)))
           (ob (deed_Game_Key a60_1 a60_2 a60_3 a60_4 a60_5 a60_6 a60_7 a60_8 a60_9) fun a80 =>
           ob (deed_Game_Key a70_1 a70_2 a70_3 a70_4 a70_5 a70_6 a70_7 a70_8 a70_9) fun a81 =>
           br (a80 != a81)
            (some (Sum.inl (x0, x1, false, x6, x7, x8, x9, x10, a60_1, a60_2, a70_1, a70_2, a60_3, a60_4, a60_5, a60_6, a60_7, a60_8, a60_9, a70_3, a70_4, a70_5, a70_6, a70_7, a70_8, a70_9)))
            (ob (deed_Game_Len a60_1 a60_2 a60_3 a60_4 a60_5 a60_6 a60_7 a60_8 a60_9) fun a82 =>
            ob (deed_Game_Len a70_1 a70_2 a70_3 a70_4 a70_5 a70_6 a70_7 a70_8 a70_9) fun a83 =>
            br (a82 != a83)
             (some (Sum.inl (x0, x1, false, x6, x7, x8, x9, x10, a60_1, a60_2, a70_1, a70_2, a60_3, a60_4, a60_5, a60_6, a60_7, a60_8, a60_9, a70_3, a70_4, a70_5, a70_6, a70_7, a70_8, a70_9)))
             (rec x0 x1 x2 x3 x4 (IntKind.wrap IntKind.i64 (x5 + 1)) x6 x7 x8 x9 x10 a60_1 a60_2 a70_1 a70_2 a60_3 a60_4 a60_5 a60_6 a60_7 a60_8 a60_9 a70_3 a70_4 a70_5 a70_6 a70_7 a70_8 a70_9)))))
         (fun (a70_0, a70_1, a70_2, a70_3, a70_4, a70_5, a70_6, a70_7, a70_8, a70_9) =>
         br (!a70_0 == a59)
          (some (Sum.inl (x0, x1, false, x6, x7, x8, x9, x10, a60_1, a60_2, a70_1, a70_2, a60_3, a60_4, a60_5, a60_6, a60_7, a60_8, a60_9, a70_3, a70_4, a70_5, a70_6, a70_7, a70_8, a70_9)))
          (br (!(a60_3 == a70_3 && (a60_4 == a70_4 && a60_5 == a70_5)))
           (some (Sum.inl (x0, x1, false, x6, x7, x8, x9, x10, a60_1, a60_2, a70_1, a70_2, a60_3, a60_4, a60_5, a60_6, a60_7, a60_8, a60_9, a70_3, a70_4, a70_5, a70_6, a70_7, a70_8, a70_9)))
           (ob (deed_Game_Key a60_1 a60_2 a60_3 a60_4 a60_5 a60_6 a60_7 a60_8 a60_9) fun a80 =>
           ob (deed_Game_Key a70_1 a70_2 a70_3 a70_4 a70_5 a70_6 a70_7 a70_8 a70_9) fun a81 =>
           br (a80 != a81)
            (some (Sum.inl (x0, x1, false, x6, x7, x8, x9, x10, a60_1, a60_2, a70_1, a70_2, a60_3, a60_4, a60_5, a60_6, a60_7, a60_8, a60_9, a70_3, a70_4, a70_5, a70_6, a70_7, a70_8, a70_9)))
            (ob (deed_Game_Len a60_1 a60_2 a60_3 a60_4 a60_5 a60_6 a60_7 a60_8 a60_9) fun a82 =>
            ob (deed_Game_Len a70_1 a70_2 a70_3 a70_4 a70_5 a70_6 a70_7 a70_8 a70_9) fun a83 =>
            br (a82 != a83)
             (some (Sum.inl (x0, x1, false, x6, x7, x8, x9, x10, a60_1, a60_2, a70_1, a70_2, a60_3, a60_4, a60_5, a60_6, a60_7, a60_8, a60_9, a70_3, a70_4, a70_5, a70_6, a70_7, a70_8, a70_9)))
             (rec x0 x1 x2 x3 x4 (IntKind.wrap IntKind.i64 (x5 + 1)) x6 x7 x8 x9 x10 a60_1 a60_2 a70_1 a70_2 a60_3 a60_4 a60_5 a60_6 a60_7 a60_8 a60_9 a70_3 a70_4 a70_5 a70_6 a70_7 a70_8 a70_9)))))))
       (ob (deed_Game_Make (List.headD (List.take 4 (List.getD x7 (x2 + Int.toNat x5) [])) 0) (List.headD (List.tail (List.take 4 (List.getD x7 (x2 + Int.toNat x5) []))) 0) (List.headD (List.tail (List.tail (List.take 4 (List.getD x7 (x2 + Int.toNat x5) [])))) 0) (List.headD (List.tail (List.tail (List.tail (List.take 4 (List.getD x7 (x2 + Int.toNat x5) []))))) 0 != 0) x13 x14 x22 x23 x24 x25 x26 x27 x28) fun t70_2 =>
       sw t70_2 (fun (a70_0, a70_1, a70_2, a70_3, a70_4, a70_5, a70_6, a70_7, a70_8, a70_9) =>
        br (!a70_0 == a59)
         (some (Sum.inl (x0, x1, false, x6, x7, x8, x9, x10, a60_1, a60_2, a70_1, a70_2, a60_3, a60_4, a60_5, a60_6, a60_7, a60_8, a60_9, a70_3, a70_4, a70_5, a70_6, a70_7, a70_8, a70_9)))
         (br (!(a60_3 == a70_3 && (a60_4 == a70_4 && a60_5 == a70_5)))
          (some (Sum.inl (x0, x1, false, x6, x7, x8, x9, x10, a60_1, a60_2, a70_1, a70_2, a60_3, a60_4, a60_5, a60_6, a60_7, a60_8, a60_9, a70_3, a70_4, a70_5, a70_6, a70_7, a70_8, a70_9)))
          (ob (deed_Game_Key a60_1 a60_2 a60_3 a60_4 a60_5 a60_6 a60_7 a60_8 a60_9) fun a80 =>
          ob (deed_Game_Key a70_1 a70_2 a70_3 a70_4 a70_5 a70_6 a70_7 a70_8 a70_9) fun a81 =>
          br (a80 != a81)
           (some (Sum.inl (x0, x1, false, x6, x7, x8, x9, x10, a60_1, a60_2, a70_1, a70_2, a60_3, a60_4, a60_5, a60_6, a60_7, a60_8, a60_9, a70_3, a70_4, a70_5, a70_6, a70_7, a70_8, a70_9)))
           (ob (deed_Game_Len a60_1 a60_2 a60_3 a60_4 a60_5 a60_6 a60_7 a60_8 a60_9) fun a82 =>
           ob (deed_Game_Len a70_1 a70_2 a70_3 a70_4 a70_5 a70_6 a70_7 a70_8 a70_9) fun a83 =>
           br (a82 != a83)
            (some (Sum.inl (x0, x1, false, x6, x7, x8, x9, x10, a60_1, a60_2, a70_1, a70_2, a60_3, a60_4, a60_5, a60_6, a60_7, a60_8, a60_9, a70_3, a70_4, a70_5, a70_6, a70_7, a70_8, a70_9)))
            (rec x0 x1 x2 x3 x4 (IntKind.wrap IntKind.i64 (x5 + 1)) x6 x7 x8 x9 x10 a60_1 a60_2 a70_1 a70_2 a60_3 a60_4 a60_5 a60_6 a60_7 a60_8 a60_9 a70_3 a70_4 a70_5 a70_6 a70_7 a70_8 a70_9)))))
        (fun (a70_0, a70_1, a70_2, a70_3, a70_4, a70_5, a70_6, a70_7, a70_8, a70_9) =>
        br (!a70_0 == a59)
         (some (Sum.inl (x0, x1, false, x6, x7, x8, x9, x10, a60_1, a60_2, a70_1, a70_2, a60_3, a60_4, a60_5, a60_6, a60_7, a60_8, a60_9, a70_3, a70_4, a70_5, a70_6, a70_7, a70_8, a70_9)))
         (br (!(a60_3 == a70_3 && (a60_4 == a70_4 && a60_5 == a70_5)))
          (some (Sum.inl (x0, x1, false, x6, x7, x8, x9, x10, a60_1, a60_2, a70_1, a70_2, a60_3, a60_4, a60_5, a60_6, a60_7, a60_8, a60_9, a70_3, a70_4, a70_5, a70_6, a70_7, a70_8, a70_9)))
          (ob (deed_Game_Key a60_1 a60_2 a60_3 a60_4 a60_5 a60_6 a60_7 a60_8 a60_9) fun a80 =>
          ob (deed_Game_Key a70_1 a70_2 a70_3 a70_4 a70_5 a70_6 a70_7 a70_8 a70_9) fun a81 =>
          br (a80 != a81)
           (some (Sum.inl (x0, x1, false, x6, x7, x8, x9, x10, a60_1, a60_2, a70_1, a70_2, a60_3, a60_4, a60_5, a60_6, a60_7, a60_8, a60_9, a70_3, a70_4, a70_5, a70_6, a70_7, a70_8, a70_9)))
           (ob (deed_Game_Len a60_1 a60_2 a60_3 a60_4 a60_5 a60_6 a60_7 a60_8 a60_9) fun a82 =>
           ob (deed_Game_Len a70_1 a70_2 a70_3 a70_4 a70_5 a70_6 a70_7 a70_8 a70_9) fun a83 =>
           br (a82 != a83)
            (some (Sum.inl (x0, x1, false, x6, x7, x8, x9, x10, a60_1, a60_2, a70_1, a70_2, a60_3, a60_4, a60_5, a60_6, a60_7, a60_8, a60_9, a70_3, a70_4, a70_5, a70_6, a70_7, a70_8, a70_9)))
            (rec x0 x1 x2 x3 x4 (IntKind.wrap IntKind.i64 (x5 + 1)) x6 x7 x8 x9 x10 a60_1 a60_2 a70_1 a70_2 a60_3 a60_4 a60_5 a60_6 a60_7 a60_8 a60_9 a70_3 a70_4 a70_5 a70_6 a70_7 a70_8 a70_9)))))))))
    (none))
   (some (Sum.inr (x0, x1, x6, x7, x8, x9, x10, x11, x12, x13, x14, x15, x16, x17, x18, x19, x20, x21, x22, x23, x24, x25, x26, x27, x28)))
def law09_DeedTwicel8 : Nat → Nat → Nat → Nat → Nat → Int → Int → Nat → List (List Int) → List Int → List Int → Int → Int → Nat → Int → Nat → List Int → List Int → Int → List (List Int) → List (List Int) → Nat → List (List Int) → List Int → List Int → Int → List (List Int) → List (List Int) → Nat → List (List Int) → Option ((Nat × Nat × Bool × Nat × List (List Int) × List Int × List Int × Int × Int × Nat × Int × Nat × List Int × List Int × Int × List (List Int) × List (List Int) × Nat × List (List Int) × List Int × List Int × Int × List (List Int) × List (List Int) × Nat × List (List Int)) ⊕ (Nat × Nat × Nat × List (List Int) × List Int × List Int × Int × Int × Nat × Int × Nat × List Int × List Int × Int × List (List Int) × List (List Int) × Nat × List (List Int) × List Int × List Int × Int × List (List Int) × List (List Int) × Nat × List (List Int)))
  | 0, _, _, _, _, _, _, _, _, _, _, _, _, _, _, _, _, _, _, _, _, _, _, _, _, _, _, _, _, _ => none
  | f + 1, x0, x1, x2, x3, x4, x5, x6, x7, x8, x9, x10, x11, x12, x13, x14, x15, x16, x17, x18, x19, x20, x21, x22, x23, x24, x25, x26, x27, x28 => law09_DeedTwicel8s (law09_DeedTwicel8 f) x0 x1 x2 x3 x4 x5 x6 x7 x8 x9 x10 x11 x12 x13 x14 x15 x16 x17 x18 x19 x20 x21 x22 x23 x24 x25 x26 x27 x28
def law09_DeedTwicel16s (rec : Nat → Nat → Nat → List (List Int) → List Int → List Int → Int → Int → Nat → Int → Nat → List Int → List Int → Int → List (List Int) → List (List Int) → Nat → List (List Int) → List Int → List Int → Int → List (List Int) → List (List Int) → Nat → List (List Int) → Option (Nat × Nat × Nat × List (List Int) × List Int × List Int × Int × Int × Nat × Int × Nat × List Int × List Int × Int × List (List Int) × List (List Int) × Nat × List (List Int) × List Int × List Int × Int × List (List Int) × List (List Int) × Nat × List (List Int))) (x0 : Nat) (x1 : Nat) (x2 : Nat) (x3 : List (List Int)) (x4 : List Int) (x5 : List Int) (x6 : Int) (x7 : Int) (x8 : Nat) (x9 : Int) (x10 : Nat) (x11 : List Int) (x12 : List Int) (x13 : Int) (x14 : List (List Int)) (x15 : List (List Int)) (x16 : Nat) (x17 : List (List Int)) (x18 : List Int) (x19 : List Int) (x20 : Int) (x21 : List (List Int)) (x22 : List (List Int)) (x23 : Nat) (x24 : List (List Int)) : Option (Nat × Nat × Nat × List (List Int) × List Int × List Int × Int × Int × Nat × Int × Nat × List Int × List Int × Int × List (List Int) × List (List Int) × Nat × List (List Int) × List Int × List Int × Int × List (List Int) × List (List Int) × Nat × List (List Int)) :=
  ob (deed_Game_Back x7 x8 x11 x12 x13 x14 x15 x16 x17) fun (a80_0, a80_1, a80_2, a80_3, a80_4, a80_5, a80_6, a80_7, a80_8, a80_9) =>
  br (a80_0)
   (rec x0 x1 x2 x3 x4 x5 x6 a80_1 a80_2 x9 x10 a80_3 a80_4 a80_5 a80_6 a80_7 a80_8 a80_9 x18 x19 x20 x21 x22 x23 x24)
   (some (x0, x1, x2, x3, x4, x5, x6, a80_1, a80_2, x9, x10, a80_3, a80_4, a80_5, a80_6, a80_7, a80_8, a80_9, x18, x19, x20, x21, x22, x23, x24))
def law09_DeedTwicel16 : Nat → Nat → Nat → Nat → List (List Int) → List Int → List Int → Int → Int → Nat → Int → Nat → List Int → List Int → Int → List (List Int) → List (List Int) → Nat → List (List Int) → List Int → List Int → Int → List (List Int) → List (List Int) → Nat → List (List Int) → Option (Nat × Nat × Nat × List (List Int) × List Int × List Int × Int × Int × Nat × Int × Nat × List Int × List Int × Int × List (List Int) × List (List Int) × Nat × List (List Int) × List Int × List Int × Int × List (List Int) × List (List Int) × Nat × List (List Int))
  | 0, _, _, _, _, _, _, _, _, _, _, _, _, _, _, _, _, _, _, _, _, _, _, _, _, _ => none
  | f + 1, x0, x1, x2, x3, x4, x5, x6, x7, x8, x9, x10, x11, x12, x13, x14, x15, x16, x17, x18, x19, x20, x21, x22, x23, x24 => law09_DeedTwicel16s (law09_DeedTwicel16 f) x0 x1 x2 x3 x4 x5 x6 x7 x8 x9 x10 x11 x12 x13 x14 x15 x16 x17 x18 x19 x20 x21 x22 x23 x24
def law09_DeedTwice (x0 : List Int) (x1 : List Int) (x2 : Int) (x3 : Nat) (x4 : Nat) (x5 : Nat) (x6 : List (List Int)) : Option (Bool) :=
  ob (law09_makes ) fun a7 =>
  br (!a7)
   (some (false))
   (ob (ref09_Clean x0 x1 x2) fun (a8_0, a8_1, a8_2) =>
   ob (ref05_Check a8_0 a8_1 a8_2) fun a11 =>
   br (a11 != 0)
    (some (true))
    (br (decide (Int.ofNat x4 > 40))
     (some (true))
     (ob (deed_New a8_0 a8_1 a8_2) fun (a12_0, a12_1, a12_2, a12_3, a12_4, a12_5, a12_6, a12_7, a12_8) =>
     ob (deed_New a8_0 a8_1 a8_2) fun (a21_0, a21_1, a21_2, a21_3, a21_4, a21_5, a21_6, a21_7, a21_8) =>
     ob (law09_DeedTwicel8 many x3 x4 x3 x4 (Int.ofNat x4) 0 x5 x6 a8_0 a8_1 a8_2 a12_0 a12_1 a21_0 a21_1 a12_2 a12_3 a12_4 a12_5 a12_6 a12_7 a12_8 a21_2 a21_3 a21_4 a21_5 a21_6 a21_7 a21_8) fun t30_2 =>
     sw t30_2 (fun (_, _, a30_2, _, _, _, _, _, _, _, _, _, _, _, _, _, _, _, _, _, _, _, _, _, _, _) =>
      some (a30_2))
      (fun (a30_0, a30_1, a30_2, a30_3, a30_4, a30_5, a30_6, a30_7, a30_8, a30_9, a30_10, a30_11, a30_12, a30_13, a30_14, a30_15, a30_16, a30_17, a30_18, a30_19, a30_20, a30_21, a30_22, a30_23, a30_24) =>
      ob (law09_DeedTwicel16 many a30_0 a30_1 a30_2 a30_3 a30_4 a30_5 a30_6 a30_7 a30_8 a30_9 a30_10 a30_11 a30_12 a30_13 a30_14 a30_15 a30_16 a30_17 a30_18 a30_19 a30_20 a30_21 a30_22 a30_23 a30_24) fun (_, a55_1, _, _, a55_4, a55_5, a55_6, a55_7, a55_8, a55_9, a55_10, a55_11, a55_12, a55_13, a55_14, a55_15, a55_16, a55_17, a55_18, a55_19, a55_20, a55_21, a55_22, a55_23, a55_24) =>
      br (a55_11 == a55_4 && (a55_12 == a55_5 && a55_13 == a55_6))
       (ob (deed_Game_Len a55_7 a55_8 a55_11 a55_12 a55_13 a55_14 a55_15 a55_16 a55_17) fun a80 =>
       br (a80 == 0)
        (ob (deed_Game_Len a55_9 a55_10 a55_18 a55_19 a55_20 a55_21 a55_22 a55_23 a55_24) fun a81 =>
        some (decide (a81 ≤ Int.ofNat a55_1)))
        (some (false)))
       (some (false))))))
-- END

end Go.Kk.Pl
