/- Printed by a tool of this project (KkGen): the plain functions that the program's code comes to. -/
import Derived.Test.YtjlgnglacdhflaaKkE
namespace Go.Kk.Pl

-- FN table_New table_New
def table_New (x0 : Int) : Option ((Int) ⊕ (Int × Nat × Int × Nat × List (List Int))) :=
  br (decide (x0 < 1))
   (some (Sum.inl (1)))
   (br (decide (x0 > 65536))
    (some (Sum.inl (1)))
    (br (decide (0 ≤ x0))
     (br (decide (x0 ≤ x0))
      (br (decide (160 * x0 ≤ 281474976710656))
       (some (Sum.inr (0, Int.toNat x0, 0, Int.toNat x0, List.replicate (Int.toNat x0) [0, 0, 0, 0, 0, 0, 0, 0, 0, 0, 0, 0, 0, 0, 0, 0, 0, 0, 0, 0, 0, 0, 0, 0, 0, 0, 0, 0, 0, 0, 0, 0, 0, 0, 0, 0, 0, 0, 0, 0, 0, 0, 0, 0, 0, 0, 0, 0, 0, 0, 0, 0, 0, 0, 0, 0, 0, 0, 0, 0, 0, 0, 0, 0, 0, 0, 0, 0, 0, 0, 0, 0, 0, 0, 0, 0, 0, 0, 0, 0, 0, 0, 0, 0, 0, 0, 0, 0, 0, 0, 0, 0, 0, 0, 0, 0, 0, 0, 0, 0, 0, 0, 0, 0, 0, 0])))
       (none))
      (none))
     (none)))
-- END

-- FN set_Square set_Square
def set_Square (x0 : Int) (x1 : Int) : Option (Int) :=
  br (decide (x0 < 0))
   (some (-1))
   (br (decide (x0 > 8))
    (some (-1))
    (br (decide (x1 < 0))
     (some (-1))
     (br (decide (x1 > 8))
      (some (-1))
      (some (IntKind.wrap IntKind.i64 (IntKind.wrap IntKind.i64 (9 * x0) + x1))))))
-- END

-- FN board_Start_1 board_Start_1
def board_Start_1 (x0 : Int) (x1 : Int) (x2 : Int) : Option (Int) :=
  br (x1 == 1)
   (ob (set_Square x2 x0) fun a3 =>
   some (a3))
   (ob (set_Square x2 (IntKind.wrap IntKind.i64 (8 - x0))) fun a3 =>
   some (a3))
-- END

-- FN piece_Of piece_Of
def piece_Of (x0 : Int) (x1 : Int) : Option (Int) :=
  br (x0 != 0)
   (br (x0 != 1)
    (some (0))
    (br (decide (x1 < 1))
     (some (0))
     (br (decide (x1 > 15))
      (some (0))
      (br (x1 == 13)
       (some (0))
       (some (conv IntKind.i64 IntKind.i8 (IntKind.wrap IntKind.i64 (IntKind.wrap IntKind.i64 (16 * x0) + x1))))))))
   (br (decide (x1 < 1))
    (some (0))
    (br (decide (x1 > 15))
     (some (0))
     (br (x1 == 13)
      (some (0))
      (some (conv IntKind.i64 IntKind.i8 (IntKind.wrap IntKind.i64 (IntKind.wrap IntKind.i64 (16 * x0) + x1)))))))
-- END

-- FN board_Start board_Start
def board_Startl7s (rec : Int → Int → List Int → List Int → Int → List Int → List Int → Int → List Int → Int → Option (Int × List Int × List Int × Int × List Int × List Int × Int × List Int)) (x0 : Int) (x1 : Int) (x2 : List Int) (x3 : List Int) (x4 : Int) (x5 : List Int) (x6 : List Int) (x7 : Int) (x8 : List Int) (x9 : Int) : Option (Int × List Int × List Int × Int × List Int × List Int × Int × List Int) :=
  br (decide (x1 < 2))
   (ob (board_Start_1 0 x1 x9) fun a18 =>
   br (inB x9 9)
    (ob (piece_Of x1 (List.getD x8 (Int.toNat x9) 0)) fun a19 =>
    br (inB a18 81)
     (ob (board_Start_1 2 x1 x9) fun a20 =>
     ob (piece_Of x1 1) fun a21 =>
     br (inB a20 81)
      (rec x0 (IntKind.wrap IntKind.i64 (x1 + 1)) x2 x3 x4 (List.set (List.set x5 (Int.toNat a18) a19) (Int.toNat a20) a21) x6 x7 x8 x9)
      (none))
     (none))
    (none))
   (some (x0, x2, x3, x4, x5, x6, x7, x8))
def board_Startl7 : Nat → Int → Int → List Int → List Int → Int → List Int → List Int → Int → List Int → Int → Option (Int × List Int × List Int × Int × List Int × List Int × Int × List Int)
  | 0, _, _, _, _, _, _, _, _, _, _ => none
  | f + 1, x0, x1, x2, x3, x4, x5, x6, x7, x8, x9 => board_Startl7s (board_Startl7 f) x0 x1 x2 x3 x4 x5 x6 x7 x8 x9
def board_Startl4s (rec : Int → List Int → List Int → Int → List Int → List Int → Int → List Int → Option (List Int × List Int × Int × List Int × List Int × Int)) (x0 : Int) (x1 : List Int) (x2 : List Int) (x3 : Int) (x4 : List Int) (x5 : List Int) (x6 : Int) (x7 : List Int) : Option (List Int × List Int × Int × List Int × List Int × Int) :=
  br (decide (x0 < 9))
   (ob (board_Startl7 many x0 0 x1 x2 x3 x4 x5 x6 x7 x0) fun (a8_0, a8_1, a8_2, a8_3, a8_4, a8_5, a8_6, a8_7) =>
   rec (IntKind.wrap IntKind.i64 (a8_0 + 1)) a8_1 a8_2 a8_3 a8_4 a8_5 a8_6 a8_7)
   (some (x1, x2, x3, x4, x5, x6))
def board_Startl4 : Nat → Int → List Int → List Int → Int → List Int → List Int → Int → List Int → Option (List Int × List Int × Int × List Int × List Int × Int)
  | 0, _, _, _, _, _, _, _, _ => none
  | f + 1, x0, x1, x2, x3, x4, x5, x6, x7 => board_Startl4s (board_Startl4 f) x0 x1 x2 x3 x4 x5 x6 x7
def board_Start : Option (List Int × List Int × Int) :=
  ob (board_Startl4 many 0 ([0, 0, 0, 0, 0, 0, 0, 0, 0, 0, 0, 0, 0, 0, 0, 0, 0, 0, 0, 0, 0, 0, 0, 0, 0, 0, 0, 0, 0, 0, 0, 0, 0, 0, 0, 0, 0, 0, 0, 0, 0, 0, 0, 0, 0, 0, 0, 0, 0, 0, 0, 0, 0, 0, 0, 0, 0, 0, 0, 0, 0, 0, 0, 0, 0, 0, 0, 0, 0, 0, 0, 0, 0, 0, 0, 0, 0, 0, 0, 0, 0]) ([0, 0, 0, 0, 0, 0, 0, 0, 0, 0, 0, 0, 0, 0, 0, 0]) 0 ([0, 0, 0, 0, 0, 0, 0, 0, 0, 0, 0, 0, 0, 0, 0, 0, 0, 0, 0, 0, 0, 0, 0, 0, 0, 0, 0, 0, 0, 0, 0, 0, 0, 0, 0, 0, 0, 0, 0, 0, 0, 0, 0, 0, 0, 0, 0, 0, 0, 0, 0, 0, 0, 0, 0, 0, 0, 0, 0, 0, 0, 0, 0, 0, 0, 0, 0, 0, 0, 0, 0, 0, 0, 0, 0, 0, 0, 0, 0, 0, 0]) ([0, 0, 0, 0, 0, 0, 0, 0, 0, 0, 0, 0, 0, 0, 0, 0]) 0 ([2, 3, 4, 5, 8, 5, 4, 3, 2])) fun (_, _, _, a0_3, a0_4, a0_5) =>
  ob (set_Square 7 7) fun a6 =>
  ob (set_Square 1 7) fun a7 =>
  br (inB a6 81)
   (br (inB a7 81)
    (ob (set_Square 1 1) fun a8 =>
    ob (set_Square 7 1) fun a9 =>
    br (inB a8 81)
     (br (inB a9 81)
      (some (List.set (List.set (List.set (List.set a0_3 (Int.toNat a6) 6) (Int.toNat a7) 7) (Int.toNat a8) 22) (Int.toNat a9) 23, a0_4, a0_5))
      (none))
     (none))
    (none))
   (none)
-- END

-- FN piece_Kind piece_Kind
def piece_Kind (x0 : Int) : Option (Int) :=
  br (decide (x0 ≤ 0))
   (br (x0 == 8)
    (some (8))
    (br (x0 == 24)
     (some (8))
     (some (0))))
   (br (decide (x0 > 31))
    (br (x0 == 8)
     (some (8))
     (br (x0 == 24)
      (some (8))
      (some (0))))
    (br (bitop BinOp.and IntKind.i64 x0 15 == 0)
     (br (x0 == 8)
      (some (8))
      (br (x0 == 24)
       (some (8))
       (some (0))))
     (br (bitop BinOp.and IntKind.i64 x0 15 == 13)
      (br (x0 == 8)
       (some (8))
       (br (x0 == 24)
        (some (8))
        (some (0))))
      (some (bitop BinOp.and IntKind.i64 x0 15)))))
-- END

-- FN key_mix key_mix
def key_mix (x0 : Int) : Option (Int) :=
  some (bitop BinOp.xor IntKind.u64 (IntKind.wrap IntKind.u64 (bitop BinOp.xor IntKind.u64 (IntKind.wrap IntKind.u64 (bitop BinOp.xor IntKind.u64 (IntKind.wrap IntKind.u64 (x0 + 11400714819323198485)) (Int.fdiv (IntKind.wrap IntKind.u64 (x0 + 11400714819323198485)) 1073741824) * 13787848793156543929)) (Int.fdiv (IntKind.wrap IntKind.u64 (bitop BinOp.xor IntKind.u64 (IntKind.wrap IntKind.u64 (x0 + 11400714819323198485)) (Int.fdiv (IntKind.wrap IntKind.u64 (x0 + 11400714819323198485)) 1073741824) * 13787848793156543929)) 134217728) * 10723151780598845931)) (Int.fdiv (IntKind.wrap IntKind.u64 (bitop BinOp.xor IntKind.u64 (IntKind.wrap IntKind.u64 (bitop BinOp.xor IntKind.u64 (IntKind.wrap IntKind.u64 (x0 + 11400714819323198485)) (Int.fdiv (IntKind.wrap IntKind.u64 (x0 + 11400714819323198485)) 1073741824) * 13787848793156543929)) (Int.fdiv (IntKind.wrap IntKind.u64 (bitop BinOp.xor IntKind.u64 (IntKind.wrap IntKind.u64 (x0 + 11400714819323198485)) (Int.fdiv (IntKind.wrap IntKind.u64 (x0 + 11400714819323198485)) 1073741824) * 13787848793156543929)) 134217728) * 10723151780598845931)) 2147483648))
-- END

-- FN key_Piece key_Piece
def key_Piece (x0 : Int) (x1 : Int) : Option (Int) :=
  ob (piece_Kind x1) fun a2 =>
  br (a2 == 0)
   (some (0))
   (br (decide (x0 < 0))
    (some (0))
    (br (decide (x0 ≥ 81))
     (some (0))
     (ob (key_mix (IntKind.wrap IntKind.u64 (IntKind.wrap IntKind.u64 (conv IntKind.i64 IntKind.u64 x0 * 32) + conv IntKind.i8 IntKind.u64 x1))) fun a3 =>
     some (a3))))
-- END

-- FN key_Hand key_Hand
def key_Hand (x0 : Int) (x1 : Int) (x2 : Int) : Option (Int) :=
  br (x0 != 0)
   (br (x0 != 1)
    (some (0))
    (br (decide (x1 < 1))
     (some (0))
     (br (decide (x1 ≥ 8))
      (some (0))
      (br (decide (x2 ≤ 0))
       (some (0))
       (br (decide (x2 > 18))
        (some (0))
        (ob (key_mix (IntKind.wrap IntKind.u64 (IntKind.wrap IntKind.u64 (IntKind.wrap IntKind.u64 (65536 + IntKind.wrap IntKind.u64 (conv IntKind.i64 IntKind.u64 x0 * 1024)) + IntKind.wrap IntKind.u64 (conv IntKind.i64 IntKind.u64 x1 * 32)) + conv IntKind.i64 IntKind.u64 x2))) fun a3 =>
        some (a3)))))))
   (br (decide (x1 < 1))
    (some (0))
    (br (decide (x1 ≥ 8))
     (some (0))
     (br (decide (x2 ≤ 0))
      (some (0))
      (br (decide (x2 > 18))
       (some (0))
       (ob (key_mix (IntKind.wrap IntKind.u64 (IntKind.wrap IntKind.u64 (IntKind.wrap IntKind.u64 (65536 + IntKind.wrap IntKind.u64 (conv IntKind.i64 IntKind.u64 x0 * 1024)) + IntKind.wrap IntKind.u64 (conv IntKind.i64 IntKind.u64 x1 * 32)) + conv IntKind.i64 IntKind.u64 x2))) fun a3 =>
       some (a3))))))
-- END

-- FN key_Side key_Side
def key_Side : Option (Int) :=
  ob (key_mix 1048576) fun a0 =>
  some (a0)
-- END

-- FN key_Of key_Of
def key_Ofl3s (rec : Int → List Int → Int → List Int → List Int → Int → Option (Int × List Int × List Int × Int)) (x0 : Int) (x1 : List Int) (x2 : Int) (x3 : List Int) (x4 : List Int) (x5 : Int) : Option (Int × List Int × List Int × Int) :=
  br (decide (x2 < 81))
   (br (inB x2 81)
    (ob (key_Piece x2 (List.getD x1 (bif true then Int.toNat x2 else Int.toNat x2 * 1) 0)) fun a9 =>
    rec (bitop BinOp.xor IntKind.u64 x0 a9) x1 (IntKind.wrap IntKind.i64 (x2 + 1)) x3 x4 x5)
    (none))
   (some (x0, x3, x4, x5))
def key_Ofl3 : Nat → Int → List Int → Int → List Int → List Int → Int → Option (Int × List Int × List Int × Int)
  | 0, _, _, _, _, _, _ => none
  | f + 1, x0, x1, x2, x3, x4, x5 => key_Ofl3s (key_Ofl3 f) x0 x1 x2 x3 x4 x5
def key_Ofl11s (rec : Int → Int → List Int → Int → List Int → Int → List Int → List Int → Int → Option (Int × List Int × Int × List Int × List Int × Int)) (x0 : Int) (x1 : Int) (x2 : List Int) (x3 : Int) (x4 : List Int) (x5 : Int) (x6 : List Int) (x7 : List Int) (x8 : Int) : Option (Int × List Int × Int × List Int × List Int × Int) :=
  br (decide (x5 < 8))
   (br (inB x5 8)
    (ob (key_Hand x1 x5 (conv IntKind.i8 IntKind.i64 (List.getD x4 (bif true then Int.toNat x5 else Int.toNat x5 * 1) 0))) fun a22 =>
    rec (bitop BinOp.xor IntKind.u64 x0 a22) x1 x2 x3 x4 (IntKind.wrap IntKind.i64 (x5 + 1)) x6 x7 x8)
    (none))
   (some (x0, x2, x3, x6, x7, x8))
def key_Ofl11 : Nat → Int → Int → List Int → Int → List Int → Int → List Int → List Int → Int → Option (Int × List Int × Int × List Int × List Int × Int)
  | 0, _, _, _, _, _, _, _, _, _ => none
  | f + 1, x0, x1, x2, x3, x4, x5, x6, x7, x8 => key_Ofl11s (key_Ofl11 f) x0 x1 x2 x3 x4 x5 x6 x7 x8
def key_Ofl8s (rec : Int → List Int → Int → List Int → List Int → Int → Option (Int × List Int × List Int × Int)) (x0 : Int) (x1 : List Int) (x2 : Int) (x3 : List Int) (x4 : List Int) (x5 : Int) : Option (Int × List Int × List Int × Int) :=
  br (decide (x2 < 2))
   (br (inB x2 2)
    (ob (key_Ofl11 many x0 x2 x1 x2 (List.take 8 (List.drop (Nat.add (Nat.mul (Int.toNat x2) 7) (Int.toNat x2)) x1)) 0 x3 x4 x5) fun (a13_0, a13_1, a13_2, a13_3, a13_4, a13_5) =>
    rec a13_0 a13_1 (IntKind.wrap IntKind.i64 (a13_2 + 1)) a13_3 a13_4 a13_5)
    (none))
   (some (x0, x3, x4, x5))
def key_Ofl8 : Nat → Int → List Int → Int → List Int → List Int → Int → Option (Int × List Int × List Int × Int)
  | 0, _, _, _, _, _, _ => none
  | f + 1, x0, x1, x2, x3, x4, x5 => key_Ofl8s (key_Ofl8 f) x0 x1 x2 x3 x4 x5
def key_Of (x0 : List Int) (x1 : List Int) (x2 : Int) : Option (Int) :=
  ob (key_Ofl3 many 0 x0 0 x0 x1 x2) fun (a3_0, a3_1, a3_2, a3_3) =>
  ob (key_Ofl8 many a3_0 a3_2 0 a3_1 a3_2 a3_3) fun (a7_0, _, _, a7_3) =>
  br (a7_3 == 1)
   (ob (key_Side ) fun a11 =>
   some (bitop BinOp.xor IntKind.u64 a7_0 a11))
   (some (a7_0))
-- END

-- FN table_at table_at
def table_at (x0 : List Int) (x1 : List Int) (x2 : Int) (x3 : Nat) (_x4 : Int) (_x5 : Nat) (_x6 : List (List Int)) : Option (Nat) :=
  ob (key_Of x0 x1 x2) fun a7 =>
  br (decide (Int.ofNat (x3 % 18446744073709551616) = 0))
   (none)
   (br (inB (Int.tmod a7 (Int.ofNat (x3 % 18446744073709551616))) x3)
    (some (Int.toNat (Int.tmod a7 (Int.ofNat (x3 % 18446744073709551616)))))
    (none))
-- END

-- FN table_Put table_Put
def table_Put (x0 : List Int) (x1 : List Int) (x2 : Int) (x3 : Int) (x4 : Int) (x5 : Int) (x6 : Int) (x7 : Int) (x8 : Int) (x9 : Bool) (x10 : Nat) (x11 : Int) (x12 : Nat) (x13 : List (List Int)) : Option (Nat × Int × Nat × List (List Int)) :=
  ob (table_at x0 x1 x2 x10 x11 x12 x13) fun a14 =>
  br (!List.getD (List.getD x13 a14 []) 0 0 != 0)
   (some (x10, IntKind.wrap IntKind.i64 (x11 + 1), x12, List.set x13 a14 (1 :: List.append (List.append [] (List.append x0 (List.append x1 [x2, x3, x4, x5, x6, x7, x8, bi x9]))) (List.drop 106 (List.getD x13 a14 [])))))
   (some (x10, x11, x12, List.set x13 a14 (1 :: List.append (List.append [] (List.append x0 (List.append x1 [x2, x3, x4, x5, x6, x7, x8, bi x9]))) (List.drop 106 (List.getD x13 a14 [])))))
-- END

-- FN table_Get table_Get
def table_Get (x0 : List Int) (x1 : List Int) (x2 : Int) (x3 : Nat) (x4 : Int) (x5 : Nat) (x6 : List (List Int)) : Option (Int × Int × Int × Int × Int × Int × Bool × Bool) :=
  ob (table_at x0 x1 x2 x3 x4 x5 x6) fun a7 =>
  br (!List.getD (List.getD x6 a7 []) 0 0 != 0)
   (some (0, 0, 0, 0, 0, 0, false, false))
   (br (!(List.take 81 (List.take 98 (List.drop 1 (List.getD x6 a7 []))) == x0 && (List.take 16 (List.drop 81 (List.take 98 (List.drop 1 (List.getD x6 a7 [])))) == x1 && List.headD (List.drop 16 (List.drop 81 (List.take 98 (List.drop 1 (List.getD x6 a7 []))))) 0 == x2)))
    (some (0, 0, 0, 0, 0, 0, false, false))
    (some (List.headD (List.take 7 (List.drop 99 (List.getD x6 a7 []))) 0, List.headD (List.tail (List.take 7 (List.drop 99 (List.getD x6 a7 [])))) 0, List.headD (List.tail (List.tail (List.take 7 (List.drop 99 (List.getD x6 a7 []))))) 0, List.headD (List.tail (List.tail (List.tail (List.take 7 (List.drop 99 (List.getD x6 a7 [])))))) 0, List.headD (List.tail (List.tail (List.tail (List.tail (List.take 7 (List.drop 99 (List.getD x6 a7 []))))))) 0, List.headD (List.tail (List.tail (List.tail (List.tail (List.tail (List.take 7 (List.drop 99 (List.getD x6 a7 [])))))))) 0, List.headD (List.tail (List.tail (List.tail (List.tail (List.tail (List.tail (List.take 7 (List.drop 99 (List.getD x6 a7 []))))))))) 0 != 0, true)))
-- END

-- FN table_Len table_Len
def table_Len (_x0 : Nat) (x1 : Int) (_x2 : Nat) (_x3 : List (List Int)) : Option (Int) :=
  some (x1)
-- END

-- FN law18_keeps law18_keeps
def law18_keeps : Option (Bool) :=
  ob (table_New 4) fun t0_2 =>
  sw t0_2 (fun _ =>
   some (false))
   (fun (a0_0, a0_1, a0_2, a0_3, a0_4) =>
   br (a0_0 != 0)
    (some (false))
    (ob (board_Start ) fun (a5_0, a5_1, a5_2) =>
    ob (table_Put a5_0 a5_1 a5_2 3 7 0 0 0 0 false a0_1 a0_2 a0_3 a0_4) fun (a8_0, a8_1, a8_2, a8_3) =>
    ob (board_Start ) fun (a12_0, a12_1, a12_2) =>
    ob (table_Get a12_0 a12_1 a12_2 a8_0 a8_1 a8_2 a8_3) fun (a15_0, a15_1, _, _, _, _, _, a15_7) =>
    ob (table_Get ([0, 0, 0, 0, 0, 0, 0, 0, 0, 0, 0, 0, 0, 0, 0, 0, 0, 0, 0, 0, 0, 0, 0, 0, 0, 0, 0, 0, 0, 0, 0, 0, 0, 0, 0, 0, 0, 0, 0, 0, 0, 0, 0, 0, 0, 0, 0, 0, 0, 0, 0, 0, 0, 0, 0, 0, 0, 0, 0, 0, 0, 0, 0, 0, 0, 0, 0, 0, 0, 0, 0, 0, 0, 0, 0, 0, 0, 0, 0, 0, 0]) ([0, 0, 0, 0, 0, 0, 0, 0, 0, 0, 0, 0, 0, 0, 0, 0]) 0 a8_0 a8_1 a8_2 a8_3) fun (_, _, _, _, _, _, _, a23_7) =>
    br (a15_7)
     (br (!a23_7)
      (br (a15_1 == 7)
       (br (a15_0 == 3)
        (ob (table_Len a8_0 a8_1 a8_2 a8_3) fun a31 =>
        br (a31 == 1)
         (some (true))
         (some (false)))
        (some (false)))
       (some (false)))
      (some (false)))
     (some (false))))
-- END

-- FN table_at table_at_v1
def table_at_v1 (_x0 : List Int) (_x1 : List Int) (_x2 : Int) : Option (Empty) :=
  none
-- END

-- FN table_Put table_Put_v1
def table_Put_v1 (x0 : List Int) (x1 : List Int) (x2 : Int) (_x3 : Int) (_x4 : Int) (_x5 : Int) (_x6 : Int) (_x7 : Int) (_x8 : Int) (_x9 : Bool) : Option (Empty) :=
  ob (table_at_v1 x0 x1 x2) fun _ =>
  none
-- END

-- FN law18_TableRoom law18_TableRoom
def law18_TableRooml7s (_rec : Nat → Nat → Nat → Nat → Int → Int → Nat → List (List Int) → Option (Nat × List (List Int))) (_x0 : Nat) (_x1 : Nat) (x2 : Nat) (x3 : Nat) (x4 : Int) (x5 : Int) (x6 : Nat) (x7 : List (List Int)) : Option (Nat × List (List Int)) :=
  br (decide (x5 < x4))
   (br (inB x5 x3)
    (ob (table_Put_v1 (List.take 81 (List.take 98 (List.getD x7 (x2 + Int.toNat x5) []))) (List.take 16 (List.drop 81 (List.take 98 (List.getD x7 (x2 + Int.toNat x5) [])))) (List.headD (List.drop 16 (List.drop 81 (List.take 98 (List.getD x7 (x2 + Int.toNat x5) [])))) 0) x5 0 0 0 0 0 false) fun _ =>
    none)
    (none))
   (some (x6, x7))
def law18_TableRooml7 : Nat → Nat → Nat → Nat → Nat → Int → Int → Nat → List (List Int) → Option (Nat × List (List Int))
  | 0, _, _, _, _, _, _, _, _ => none
  | f + 1, x0, x1, x2, x3, x4, x5, x6, x7 => law18_TableRooml7s (law18_TableRooml7 f) x0 x1 x2 x3 x4 x5 x6 x7
def law18_TableRooml16s (rec : Nat → Nat → Nat → Nat → Int → Int → Nat → Nat → Int → Int → Nat → List (List Int) → Nat → Int → List Int → List Int → Int → Nat → List (List Int) → Option ((Nat × Nat × Bool × Nat × Nat × Int × Int × Nat × List (List Int) × Nat × Int × Nat × List (List Int)) ⊕ (Nat × Nat × Nat × Nat × Int × Int × Nat × List (List Int) × Nat × Int × Nat × List (List Int)))) (x0 : Nat) (x1 : Nat) (x2 : Nat) (x3 : Nat) (x4 : Int) (x5 : Int) (x6 : Nat) (x7 : Nat) (x8 : Int) (x9 : Int) (x10 : Nat) (x11 : List (List Int)) (x12 : Nat) (x13 : Int) (x14 : List Int) (x15 : List Int) (x16 : Int) (x17 : Nat) (x18 : List (List Int)) : Option ((Nat × Nat × Bool × Nat × Nat × Int × Int × Nat × List (List Int) × Nat × Int × Nat × List (List Int)) ⊕ (Nat × Nat × Nat × Nat × Int × Int × Nat × List (List Int) × Nat × Int × Nat × List (List Int))) :=
  br (decide (x9 < x8))
   (br (inB x9 x7)
    (ob (table_Get (List.take 81 (List.take 98 (List.getD x11 (x6 + Int.toNat x9) []))) (List.take 16 (List.drop 81 (List.take 98 (List.getD x11 (x6 + Int.toNat x9) [])))) (List.headD (List.drop 16 (List.drop 81 (List.take 98 (List.getD x11 (x6 + Int.toNat x9) [])))) 0) x12 x13 x17 x18) fun (_, _, _, _, _, _, _, a62_7) =>
    br (!a62_7 == (List.take 81 (List.take 98 (List.getD x11 (x6 + Int.toNat x9) [])) == x14 && (List.take 16 (List.drop 81 (List.take 98 (List.getD x11 (x6 + Int.toNat x9) []))) == x15 && List.headD (List.drop 16 (List.drop 81 (List.take 98 (List.getD x11 (x6 + Int.toNat x9) [])))) 0 == x16)))
     (some (Sum.inl (x0, x1, false, x2, x3, x4, x5, x10, x11, x12, x13, x17, x18)))
     (rec x0 x1 x2 x3 x4 x5 x6 x7 x8 (IntKind.wrap IntKind.i64 (x9 + 1)) x10 x11 x12 x13 x14 x15 x16 x17 x18))
    (none))
   (some (Sum.inr (x0, x1, x2, x3, x4, x5, x10, x11, x12, x13, x17, x18)))
def law18_TableRooml16 : Nat → Nat → Nat → Nat → Nat → Int → Int → Nat → Nat → Int → Int → Nat → List (List Int) → Nat → Int → List Int → List Int → Int → Nat → List (List Int) → Option ((Nat × Nat × Bool × Nat × Nat × Int × Int × Nat × List (List Int) × Nat × Int × Nat × List (List Int)) ⊕ (Nat × Nat × Nat × Nat × Int × Int × Nat × List (List Int) × Nat × Int × Nat × List (List Int)))
  | 0, _, _, _, _, _, _, _, _, _, _, _, _, _, _, _, _, _, _, _ => none
  | f + 1, x0, x1, x2, x3, x4, x5, x6, x7, x8, x9, x10, x11, x12, x13, x14, x15, x16, x17, x18 => law18_TableRooml16s (law18_TableRooml16 f) x0 x1 x2 x3 x4 x5 x6 x7 x8 x9 x10 x11 x12 x13 x14 x15 x16 x17 x18
def law18_TableRooml7v1s (rec : Nat → Nat → Nat → Nat → Int → Int → Nat → List (List Int) → Nat → Int → Nat → List (List Int) → Option ((Bool × Nat × List (List Int)) ⊕ (Nat × List (List Int)))) (x0 : Nat) (x1 : Nat) (x2 : Nat) (x3 : Nat) (x4 : Int) (x5 : Int) (x6 : Nat) (x7 : List (List Int)) (x8 : Nat) (x9 : Int) (x10 : Nat) (x11 : List (List Int)) : Option ((Bool × Nat × List (List Int)) ⊕ (Nat × List (List Int))) :=
  br (decide (x5 < x4))
   (br (inB x5 x3)
    (ob (table_Put (List.take 81 (List.take 98 (List.getD x7 (x2 + Int.toNat x5) []))) (List.take 16 (List.drop 81 (List.take 98 (List.getD x7 (x2 + Int.toNat x5) [])))) (List.headD (List.drop 16 (List.drop 81 (List.take 98 (List.getD x7 (x2 + Int.toNat x5) [])))) 0) x5 0 0 0 0 0 false x8 x9 x10 x11) fun (a22_0, a22_1, a22_2, a22_3) =>
    ob (table_Get (List.take 81 (List.take 98 (List.getD x7 (x2 + Int.toNat x5) []))) (List.take 16 (List.drop 81 (List.take 98 (List.getD x7 (x2 + Int.toNat x5) [])))) (List.headD (List.drop 16 (List.drop 81 (List.take 98 (List.getD x7 (x2 + Int.toNat x5) [])))) 0) a22_0 a22_1 a22_2 a22_3) fun (_, _, _, _, _, _, _, a26_7) =>
    ob (table_Get (List.take 81 (List.take 98 (List.getD x7 (x2 + Int.toNat x5) []))) (List.take 16 (List.drop 81 (List.take 98 (List.getD x7 (x2 + Int.toNat x5) [])))) (List.headD (List.drop 16 (List.drop 81 (List.take 98 (List.getD x7 (x2 + Int.toNat x5) [])))) 0) a22_0 a22_1 a22_2 a22_3) fun (a34_0, _, _, _, _, _, _, a34_7) =>
    br (!a26_7)
     (some (Sum.inl (false, x6, x7)))
     (br (!a34_7)
      (some (Sum.inl (false, x6, x7)))
      (br (a34_0 != x5)
       (some (Sum.inl (false, x6, x7)))
       (ob (table_Len a22_0 a22_1 a22_2 a22_3) fun a42 =>
       br (a42 != 1)
        (some (Sum.inl (false, x6, x7)))
        (br (inLe x5 x1)
         (ob (law18_TableRooml16 many x0 x1 x2 x3 x4 x5 (x0 + 0) (Int.toNat x5 - 0) (Int.ofNat (Int.toNat x5 - 0)) 0 x6 x7 a22_0 a22_1 (List.take 81 (List.take 98 (List.getD x7 (x2 + Int.toNat x5) []))) (List.take 16 (List.drop 81 (List.take 98 (List.getD x7 (x2 + Int.toNat x5) [])))) (List.headD (List.drop 16 (List.drop 81 (List.take 98 (List.getD x7 (x2 + Int.toNat x5) [])))) 0) a22_2 a22_3) fun t43_2 =>
         sw t43_2 (fun (_, _, a43_2, _, _, _, _, a43_7, a43_8, _, _, _, _) =>
          some (Sum.inl (a43_2, a43_7, a43_8)))
          (fun (a43_0, a43_1, a43_2, a43_3, a43_4, a43_5, a43_6, a43_7, a43_8, a43_9, a43_10, a43_11) =>
          rec a43_0 a43_1 a43_2 a43_3 a43_4 (IntKind.wrap IntKind.i64 (a43_5 + 1)) a43_6 a43_7 a43_8 a43_9 a43_10 a43_11))
         (none))))))
    (none))
   (some (Sum.inr (x6, x7)))
def law18_TableRooml7v1 : Nat → Nat → Nat → Nat → Nat → Int → Int → Nat → List (List Int) → Nat → Int → Nat → List (List Int) → Option ((Bool × Nat × List (List Int)) ⊕ (Nat × List (List Int)))
  | 0, _, _, _, _, _, _, _, _, _, _, _, _ => none
  | f + 1, x0, x1, x2, x3, x4, x5, x6, x7, x8, x9, x10, x11 => law18_TableRooml7v1s (law18_TableRooml7v1 f) x0 x1 x2 x3 x4 x5 x6 x7 x8 x9 x10 x11
def law18_TableRoom (x0 : Nat) (x1 : Nat) (x2 : Nat) (x3 : List (List Int)) : Option (Bool) :=
  ob (law18_keeps ) fun a4 =>
  br (!a4)
   (some (false))
   (br (decide (Int.ofNat x1 > 30))
    (some (true))
    (ob (table_New 1) fun t5_2 =>
    sw t5_2 (fun _ =>
     ob (law18_TableRooml7 many x0 x1 x0 x1 (Int.ofNat x1) 0 x2 x3) fun (_, _) =>
     some (true))
     (fun (_, a5_1, a5_2, a5_3, a5_4) =>
     ob (law18_TableRooml7v1 many x0 x1 x0 x1 (Int.ofNat x1) 0 x2 x3 a5_1 a5_2 a5_3 a5_4) fun t10_2 =>
     sw t10_2 (fun (a10_0, _, _) =>
      some (a10_0))
      (fun (_, _) =>
      some (true)))))
-- END

-- FN law18_TableMany law18_TableMany
def law18_TableManyl9s (rec : Nat → Nat → Nat → Nat → Int → Int → Nat → List (List Int) → Nat → Int → Nat → List (List Int) → Option (Nat × Nat × Nat × List (List Int) × Nat × Int × Nat × List (List Int))) (x0 : Nat) (x1 : Nat) (x2 : Nat) (x3 : Nat) (x4 : Int) (x5 : Int) (x6 : Nat) (x7 : List (List Int)) (x8 : Nat) (x9 : Int) (x10 : Nat) (x11 : List (List Int)) : Option (Nat × Nat × Nat × List (List Int) × Nat × Int × Nat × List (List Int)) :=
  br (decide (x5 < x4))
   (br (inB x5 x3)
    (ob (table_Put (List.take 81 (List.take 98 (List.getD x7 (x2 + Int.toNat x5) []))) (List.take 16 (List.drop 81 (List.take 98 (List.getD x7 (x2 + Int.toNat x5) [])))) (List.headD (List.drop 16 (List.drop 81 (List.take 98 (List.getD x7 (x2 + Int.toNat x5) [])))) 0) 1 x5 0 0 0 0 false x8 x9 x10 x11) fun (a22_0, a22_1, a22_2, a22_3) =>
    rec x0 x1 x2 x3 x4 (IntKind.wrap IntKind.i64 (x5 + 1)) x6 x7 a22_0 a22_1 a22_2 a22_3)
    (none))
   (some (x0, x1, x6, x7, x8, x9, x10, x11))
def law18_TableManyl9 : Nat → Nat → Nat → Nat → Nat → Int → Int → Nat → List (List Int) → Nat → Int → Nat → List (List Int) → Option (Nat × Nat × Nat × List (List Int) × Nat × Int × Nat × List (List Int))
  | 0, _, _, _, _, _, _, _, _, _, _, _, _ => none
  | f + 1, x0, x1, x2, x3, x4, x5, x6, x7, x8, x9, x10, x11 => law18_TableManyl9s (law18_TableManyl9 f) x0 x1 x2 x3 x4 x5 x6 x7 x8 x9 x10 x11
def law18_TableManyl19s (rec : Nat → Nat → Int → Bool → Int → Int → Nat → List (List Int) → Nat → Int → Int → Int → Int → Int → Int → Int → Bool → Nat → List (List Int) → Option (Nat × Nat × Int × Bool × Int × Nat × List (List Int) × Nat × Int × Int × Int × Int × Int × Int × Int × Bool × Nat × List (List Int))) (x0 : Nat) (x1 : Nat) (x2 : Int) (x3 : Bool) (x4 : Int) (x5 : Int) (x6 : Nat) (x7 : List (List Int)) (x8 : Nat) (x9 : Int) (x10 : Int) (x11 : Int) (x12 : Int) (x13 : Int) (x14 : Int) (x15 : Int) (x16 : Bool) (x17 : Nat) (x18 : List (List Int)) : Option (Nat × Nat × Int × Bool × Int × Nat × List (List Int) × Nat × Int × Int × Int × Int × Int × Int × Int × Bool × Nat × List (List Int)) :=
  br (decide (x5 < Int.ofNat x1))
   (br (inB x5 x1)
    (br (inB x2 x1)
     (br (List.take 81 (List.take 98 (List.getD x7 (x0 + Int.toNat x5) [])) == List.take 81 (List.take 98 (List.getD x7 (x0 + Int.toNat x2) [])) && (List.take 16 (List.drop 81 (List.take 98 (List.getD x7 (x0 + Int.toNat x5) []))) == List.take 16 (List.drop 81 (List.take 98 (List.getD x7 (x0 + Int.toNat x2) []))) && List.headD (List.drop 16 (List.drop 81 (List.take 98 (List.getD x7 (x0 + Int.toNat x5) [])))) 0 == List.headD (List.drop 16 (List.drop 81 (List.take 98 (List.getD x7 (x0 + Int.toNat x2) [])))) 0))
      (rec x0 x1 x2 x3 x5 (IntKind.wrap IntKind.i64 (x5 + 1)) x6 x7 x8 x9 x10 x11 x12 x13 x14 x15 x16 x17 x18)
      (rec x0 x1 x2 x3 x4 (IntKind.wrap IntKind.i64 (x5 + 1)) x6 x7 x8 x9 x10 x11 x12 x13 x14 x15 x16 x17 x18))
     (none))
    (none))
   (some (x0, x1, x2, x3, x4, x6, x7, x8, x9, x10, x11, x12, x13, x14, x15, x16, x17, x18))
def law18_TableManyl19 : Nat → Nat → Nat → Int → Bool → Int → Int → Nat → List (List Int) → Nat → Int → Int → Int → Int → Int → Int → Int → Bool → Nat → List (List Int) → Option (Nat × Nat × Int × Bool × Int × Nat × List (List Int) × Nat × Int × Int × Int × Int × Int × Int × Int × Bool × Nat × List (List Int))
  | 0, _, _, _, _, _, _, _, _, _, _, _, _, _, _, _, _, _, _, _ => none
  | f + 1, x0, x1, x2, x3, x4, x5, x6, x7, x8, x9, x10, x11, x12, x13, x14, x15, x16, x17, x18 => law18_TableManyl19s (law18_TableManyl19 f) x0 x1 x2 x3 x4 x5 x6 x7 x8 x9 x10 x11 x12 x13 x14 x15 x16 x17 x18
def law18_TableManyl14s (rec : Nat → Nat → Int → Nat → List (List Int) → Nat → Int → Nat → List (List Int) → Option ((Nat × Nat × Bool × Nat × List (List Int) × Nat × Int × Nat × List (List Int)) ⊕ (Nat × Nat × Nat × List (List Int) × Nat × Int × Nat × List (List Int)))) (x0 : Nat) (x1 : Nat) (x2 : Int) (x3 : Nat) (x4 : List (List Int)) (x5 : Nat) (x6 : Int) (x7 : Nat) (x8 : List (List Int)) : Option ((Nat × Nat × Bool × Nat × List (List Int) × Nat × Int × Nat × List (List Int)) ⊕ (Nat × Nat × Nat × List (List Int) × Nat × Int × Nat × List (List Int))) :=
  br (decide (x2 ≥ 0))
   (br (inB x2 x1)
    (ob (table_Get (List.take 81 (List.take 98 (List.getD x4 (x0 + Int.toNat x2) []))) (List.take 16 (List.drop 81 (List.take 98 (List.getD x4 (x0 + Int.toNat x2) [])))) (List.headD (List.drop 16 (List.drop 81 (List.take 98 (List.getD x4 (x0 + Int.toNat x2) [])))) 0) x5 x6 x7 x8) fun (a27_0, a27_1, a27_2, a27_3, a27_4, a27_5, a27_6, a27_7) =>
    ob (law18_TableManyl19 many x0 x1 x2 a27_7 x2 x2 x3 x4 x5 x6 a27_0 a27_1 a27_2 a27_3 a27_4 a27_5 a27_6 x7 x8) fun (a35_0, a35_1, a35_2, a35_3, a35_4, a35_5, a35_6, a35_7, a35_8, _, a35_10, _, _, _, _, _, a35_16, a35_17) =>
    br (a35_3)
     (br (a35_10 != a35_4)
      (some (Sum.inl (a35_0, a35_1, false, a35_5, a35_6, a35_7, a35_8, a35_16, a35_17)))
      (br (a35_2 == IntKind.wrap IntKind.i64 (Int.ofNat a35_1 - 1))
       (br (!a35_3)
        (some (Sum.inl (a35_0, a35_1, false, a35_5, a35_6, a35_7, a35_8, a35_16, a35_17)))
        (rec a35_0 a35_1 (IntKind.wrap IntKind.i64 (a35_2 - 1)) a35_5 a35_6 a35_7 a35_8 a35_16 a35_17))
       (rec a35_0 a35_1 (IntKind.wrap IntKind.i64 (a35_2 - 1)) a35_5 a35_6 a35_7 a35_8 a35_16 a35_17)))
     (br (a35_2 == IntKind.wrap IntKind.i64 (Int.ofNat a35_1 - 1))
      (br (!a35_3)
       (some (Sum.inl (a35_0, a35_1, false, a35_5, a35_6, a35_7, a35_8, a35_16, a35_17)))
       (rec a35_0 a35_1 (IntKind.wrap IntKind.i64 (a35_2 - 1)) a35_5 a35_6 a35_7 a35_8 a35_16 a35_17))
      (rec a35_0 a35_1 (IntKind.wrap IntKind.i64 (a35_2 - 1)) a35_5 a35_6 a35_7 a35_8 a35_16 a35_17)))
    (none))
   (some (Sum.inr (x0, x1, x3, x4, x5, x6, x7, x8)))
def law18_TableManyl14 : Nat → Nat → Nat → Int → Nat → List (List Int) → Nat → Int → Nat → List (List Int) → Option ((Nat × Nat × Bool × Nat × List (List Int) × Nat × Int × Nat × List (List Int)) ⊕ (Nat × Nat × Nat × List (List Int) × Nat × Int × Nat × List (List Int)))
  | 0, _, _, _, _, _, _, _, _, _ => none
  | f + 1, x0, x1, x2, x3, x4, x5, x6, x7, x8 => law18_TableManyl14s (law18_TableManyl14 f) x0 x1 x2 x3 x4 x5 x6 x7 x8
def law18_TableMany (x0 : Nat) (x1 : Nat) (x2 : Nat) (x3 : List (List Int)) : Option (Bool) :=
  ob (law18_keeps ) fun a4 =>
  br (!a4)
   (some (false))
   (br (decide (Int.ofNat x1 > 40))
    (some (true))
    (ob (table_New 65536) fun t5_2 =>
    sw t5_2 (fun _ =>
     some (false))
     (fun (a5_0, a5_1, a5_2, a5_3, a5_4) =>
     br (a5_0 != 0)
      (some (false))
      (ob (law18_TableManyl9 many x0 x1 x0 x1 (Int.ofNat x1) 0 x2 x3 a5_1 a5_2 a5_3 a5_4) fun (a10_0, a10_1, a10_2, a10_3, a10_4, a10_5, a10_6, a10_7) =>
      ob (law18_TableManyl14 many a10_0 a10_1 (IntKind.wrap IntKind.i64 (Int.ofNat a10_1 - 1)) a10_2 a10_3 a10_4 a10_5 a10_6 a10_7) fun t18_2 =>
      sw t18_2 (fun (_, _, a18_2, _, _, _, _, _, _) =>
       some (a18_2))
       (fun (_, a18_1, _, _, a18_4, a18_5, a18_6, a18_7) =>
       ob (table_Len a18_4 a18_5 a18_6 a18_7) fun a26 =>
       some (decide (a26 ≤ Int.ofNat a18_1)))))))
-- END

end Go.Kk.Pl
