/- Printed by a tool of this project (KkGen): the plain functions that the program's code comes to. -/
import Derived.Test.YtljnnegjhcdlkaaGreatDoorKkE
namespace Go.Kk.Pl
def set_Square (x0 x1 : Int) : Option (Int) :=
 br (decide (x0 < 0))
 (some (-1))
 (br (decide (x0 > 8))
 (some (-1))
 (br (decide (x1 < 0))
 (some (-1))
 (br (decide (x1 > 8))
 (some (-1))
 (some (IntKind.wrap .i64 (IntKind.wrap .i64 (9 * x0) + x1))))))
def piece_Of (x0 x1 : Int) : Option (Int) :=
 br (x0 != 0)
 (br (x0 != 1)
 (some (0))
 (br (decide (x1 < 1))
 (some (0))
 (br (decide (x1 > 15))
 (some (0))
 (br (x1 == 13)
 (some (0))
 (some (conv .i64 .i8 (IntKind.wrap .i64 (IntKind.wrap .i64 (16 * x0) + x1))))))))
 (br (decide (x1 < 1))
 (some (0))
 (br (decide (x1 > 15))
 (some (0))
 (br (x1 == 13)
 (some (0))
 (some (conv .i64 .i8 (IntKind.wrap .i64 (IntKind.wrap .i64 (16 * x0) + x1)))))))
def piece_Kind (x0 : Int) : Option (Int) :=
 br (decide (x0 ≤ 0))
 (br (x0 == 8)
 (some (8))
 (br (x0 == 24)
 (some (8))
 (some (0))))
 (br (decide (x0 > 31))
 (br (x0 == 8)
 (some (8))
 (br (x0 == 24)
 (some (8))
 (some (0))))
 (br (bitop BinOp.and .i64 x0 15 == 0)
 (br (x0 == 8)
 (some (8))
 (br (x0 == 24)
 (some (8))
 (some (0))))
 (br (bitop BinOp.and .i64 x0 15 == 13)
 (br (x0 == 8)
 (some (8))
 (br (x0 == 24)
 (some (8))
 (some (0))))
 (some (bitop BinOp.and .i64 x0 15)))))
def key_mix (x0 : Int) : Option (Int) :=
 some (bitop BinOp.xor .u64 (IntKind.wrap .u64 (bitop BinOp.xor .u64 (IntKind.wrap .u64 (bitop BinOp.xor .u64 (IntKind.wrap .u64 (x0 + 11400714819323198485)) (Int.fdiv (IntKind.wrap .u64 (x0 + 11400714819323198485)) 1073741824) * 13787848793156543929)) (Int.fdiv (IntKind.wrap .u64 (bitop BinOp.xor .u64 (IntKind.wrap .u64 (x0 + 11400714819323198485)) (Int.fdiv (IntKind.wrap .u64 (x0 + 11400714819323198485)) 1073741824) * 13787848793156543929)) 134217728) * 10723151780598845931)) (Int.fdiv (IntKind.wrap .u64 (bitop BinOp.xor .u64 (IntKind.wrap .u64 (bitop BinOp.xor .u64 (IntKind.wrap .u64 (x0 + 11400714819323198485)) (Int.fdiv (IntKind.wrap .u64 (x0 + 11400714819323198485)) 1073741824) * 13787848793156543929)) (Int.fdiv (IntKind.wrap .u64 (bitop BinOp.xor .u64 (IntKind.wrap .u64 (x0 + 11400714819323198485)) (Int.fdiv (IntKind.wrap .u64 (x0 + 11400714819323198485)) 1073741824) * 13787848793156543929)) 134217728) * 10723151780598845931)) 2147483648))
def key_Piece (x0 x1 : Int) : Option (Int) :=
 ob (piece_Kind x1) fun a2 =>
 br (a2 == 0)
 (some (0))
 (br (decide (x0 < 0))
 (some (0))
 (br (decide (x0 ≥ 81))
 (some (0))
 (ob (key_mix (IntKind.wrap .u64 (IntKind.wrap .u64 (conv .i64 .u64 x0 * 32) + conv .i8 .u64 x1))) fun a3 =>
 some (a3))))
def key_Hand (x0 x1 x2 : Int) : Option (Int) :=
 br (x0 != 0)
 (br (x0 != 1)
 (some (0))
 (br (decide (x1 < 1))
 (some (0))
 (br (decide (x1 ≥ 8))
 (some (0))
 (br (decide (x2 ≤ 0))
 (some (0))
 (br (decide (x2 > 18))
 (some (0))
 (ob (key_mix (IntKind.wrap .u64 (IntKind.wrap .u64 (IntKind.wrap .u64 (65536 + IntKind.wrap .u64 (conv .i64 .u64 x0 * 1024)) + IntKind.wrap .u64 (conv .i64 .u64 x1 * 32)) + conv .i64 .u64 x2))) fun a3 =>
 some (a3)))))))
 (br (decide (x1 < 1))
 (some (0))
 (br (decide (x1 ≥ 8))
 (some (0))
 (br (decide (x2 ≤ 0))
 (some (0))
 (br (decide (x2 > 18))
 (some (0))
 (ob (key_mix (IntKind.wrap .u64 (IntKind.wrap .u64 (IntKind.wrap .u64 (65536 + IntKind.wrap .u64 (conv .i64 .u64 x0 * 1024)) + IntKind.wrap .u64 (conv .i64 .u64 x1 * 32)) + conv .i64 .u64 x2))) fun a3 =>
 some (a3))))))
def key_Side : Option (Int) :=
 ob (key_mix 1048576) fun a0 =>
 some (a0)
def key_Ofl3s (rec : Int → List Int → Int → List Int → List Int → Int → Option (Int × List Int × List Int × Int)) (x0 : Int) (x1 : List Int) (x2 : Int) (x3 x4 : List Int) (x5 : Int) : Option (Int × List Int × List Int × Int) :=
 br (decide (x2 < 81))
 (br (inB x2 81)
 (ob (key_Piece x2 (List.getD x1 (bif true then Int.toNat x2 else Int.toNat x2 * 1) 0)) fun a9 =>
 rec (bitop BinOp.xor .u64 x0 a9) x1 (IntKind.wrap .i64 (x2 + 1)) x3 x4 x5)
 (none))
 (some (x0, x3, x4, x5))
def key_Ofl3 : Nat → Int → List Int → Int → List Int → List Int → Int → Option (Int × List Int × List Int × Int)
 | 0, _, _, _, _, _, _ => none
 | f + 1, x0, x1, x2, x3, x4, x5 => key_Ofl3s (key_Ofl3 f) x0 x1 x2 x3 x4 x5
def key_Ofl11s (rec : Int → Int → List Int → Int → List Int → Int → List Int → List Int → Int → Option (Int × List Int × Int × List Int × List Int × Int)) (x0 x1 : Int) (x2 : List Int) (x3 : Int) (x4 : List Int) (x5 : Int) (x6 x7 : List Int) (x8 : Int) : Option (Int × List Int × Int × List Int × List Int × Int) :=
 br (decide (x5 < 8))
 (br (inB x5 8)
 (ob (key_Hand x1 x5 (conv .i8 .i64 (List.getD x4 (bif true then Int.toNat x5 else Int.toNat x5 * 1) 0))) fun a22 =>
 rec (bitop BinOp.xor .u64 x0 a22) x1 x2 x3 x4 (IntKind.wrap .i64 (x5 + 1)) x6 x7 x8)
 (none))
 (some (x0, x2, x3, x6, x7, x8))
def key_Ofl11 : Nat → Int → Int → List Int → Int → List Int → Int → List Int → List Int → Int → Option (Int × List Int × Int × List Int × List Int × Int)
 | 0, _, _, _, _, _, _, _, _, _ => none
 | f + 1, x0, x1, x2, x3, x4, x5, x6, x7, x8 => key_Ofl11s (key_Ofl11 f) x0 x1 x2 x3 x4 x5 x6 x7 x8
def key_Ofl8s (rec : Int → List Int → Int → List Int → List Int → Int → Option (Int × List Int × List Int × Int)) (x0 : Int) (x1 : List Int) (x2 : Int) (x3 x4 : List Int) (x5 : Int) : Option (Int × List Int × List Int × Int) :=
 br (decide (x2 < 2))
 (br (inB x2 2)
 (ob (key_Ofl11 many x0 x2 x1 x2 (List.take 8 (List.drop (Nat.add (Nat.mul (Int.toNat x2) 7) (Int.toNat x2)) x1)) 0 x3 x4 x5) fun (a13_0, a13_1, a13_2, a13_3, a13_4, a13_5) =>
 rec a13_0 a13_1 (IntKind.wrap .i64 (a13_2 + 1)) a13_3 a13_4 a13_5)
 (none))
 (some (x0, x3, x4, x5))
def key_Ofl8 : Nat → Int → List Int → Int → List Int → List Int → Int → Option (Int × List Int × List Int × Int)
 | 0, _, _, _, _, _, _ => none
 | f + 1, x0, x1, x2, x3, x4, x5 => key_Ofl8s (key_Ofl8 f) x0 x1 x2 x3 x4 x5
def key_Of (x0 x1 : List Int) (x2 : Int) : Option (Int) :=
 ob (key_Ofl3 many 0 x0 0 x0 x1 x2) fun (a3_0, a3_1, a3_2, a3_3) =>
 ob (key_Ofl8 many a3_0 a3_2 0 a3_1 a3_2 a3_3) fun (a7_0, _, _, a7_3) =>
 br (a7_3 == 1)
 (ob (key_Side ) fun a11 =>
 some (bitop BinOp.xor .u64 a7_0 a11))
 (some (a7_0))
def set_bit (x0 : Int) : Option (Int × Int) :=
 br (decide (x0 < 0))
 (some (0, 0))
 (br (decide (x0 ≥ 81))
 (some (0, 0))
 (br (decide (x0 < 63))
 (br (decide (x0 < 0))
 (none)
 (some (IntKind.wrap .u64 (1 * 2 ^ min (Int.toNat x0) 64), 0)))
 (br (decide (IntKind.wrap .i64 (x0 - 63) < 0))
 (none)
 (some (0, IntKind.wrap .u64 (1 * 2 ^ min (Int.toNat (IntKind.wrap .i64 (x0 - 63))) 64))))))
def set_Minus (x0 x1 : Int) (x2 x3 : Int) : Option (Int × Int) :=
 some (bitop BinOp.andNot .u64 x0 x2, bitop BinOp.andNot .u64 x1 x3)
def set_Without (x0 x1 x2 : Int) : Option (Int × Int) :=
 ob (set_bit x2) fun (a3_0, a3_1) =>
 ob (set_Minus x0 x1 a3_0 a3_1) fun (a5_0, a5_1) =>
 some (a5_0, a5_1)
def piece_Side (x0 : Int) : Option (Int) :=
 ob (piece_Kind x0) fun a1 =>
 br (a1 == 0)
 (some (-1))
 (br (decide (x0 < 16))
 (some (0))
 (some (1)))
def set_Or (x0 x1 : Int) (x2 x3 : Int) : Option (Int × Int) :=
 some (bitop BinOp.or .u64 x0 x2, bitop BinOp.or .u64 x1 x3)
def set_With (x0 x1 x2 : Int) : Option (Int × Int) :=
 ob (set_bit x2) fun (a3_0, a3_1) =>
 ob (set_Or x0 x1 a3_0 a3_1) fun (a5_0, a5_1) =>
 some (a5_0, a5_1)
def board_Put (x0 x1 : Int) (x2 x3 : List Int) (x4 : Int) (x5 x6 : List (List Int)) : Option (List Int × List Int × Int × List (List Int) × List (List Int)) :=
 br (decide (x0 < 0))
 (some (x2, x3, x4, x5, x6))
 (br (decide (x0 ≥ 81))
 (some (x2, x3, x4, x5, x6))
 (br (inB x0 81)
 (br (List.getD x2 (Int.toNat x0) 0 != 0)
 (br (inB (List.getD x2 (Int.toNat x0) 0) 32)
 (ob (set_Without (List.headD (List.take 2 (List.getD x5 (Int.toNat (List.getD x2 (Int.toNat x0) 0)) [])) 0) (List.headD (List.tail (List.take 2 (List.getD x5 (Int.toNat (List.getD x2 (Int.toNat x0) 0)) []))) 0) x0) fun (a7_0, a7_1) =>
 br (inB (List.getD x2 (Int.toNat x0) 0) 32)
 (ob (piece_Side (List.getD x2 (Int.toNat x0) 0)) fun a9 =>
 ob (piece_Side (List.getD x2 (Int.toNat x0) 0)) fun a10 =>
 br (inB a10 2)
 (ob (set_Without (List.headD (List.take 2 (List.getD x6 (Int.toNat a10) [])) 0) (List.headD (List.tail (List.take 2 (List.getD x6 (Int.toNat a10) []))) 0) x0) fun (a11_0, a11_1) =>
 br (inB a9 2)
 (ob (piece_Kind x1) fun a13 =>
 br (a13 == 0)
 (br (inB x0 81)
 (some (List.set x2 (Int.toNat x0) 0, x3, x4, List.set x5 (Int.toNat (List.getD x2 (Int.toNat x0) 0)) (a7_0 :: a7_1 :: List.drop 2 (List.getD x5 (Int.toNat (List.getD x2 (Int.toNat x0) 0)) [])), List.set x6 (Int.toNat a9) (a11_0 :: a11_1 :: List.drop 2 (List.getD x6 (Int.toNat a9) []))))
 (none))
 (br (inB x0 81)
 (br (x1 != 0)
 (br (inB x1 32)
 (ob (set_With (List.headD (List.take 2 (List.getD (List.set x5 (Int.toNat (List.getD x2 (Int.toNat x0) 0)) (a7_0 :: a7_1 :: List.drop 2 (List.getD x5 (Int.toNat (List.getD x2 (Int.toNat x0) 0)) []))) (Int.toNat x1) [])) 0) (List.headD (List.tail (List.take 2 (List.getD (List.set x5 (Int.toNat (List.getD x2 (Int.toNat x0) 0)) (a7_0 :: a7_1 :: List.drop 2 (List.getD x5 (Int.toNat (List.getD x2 (Int.toNat x0) 0)) []))) (Int.toNat x1) []))) 0) x0) fun (a14_0, a14_1) =>
 br (inB x1 32)
 (ob (piece_Side x1) fun a16 =>
 ob (piece_Side x1) fun a17 =>
 br (inB a17 2)
 (ob (set_With (List.headD (List.take 2 (List.getD (List.set x6 (Int.toNat a9) (a11_0 :: a11_1 :: List.drop 2 (List.getD x6 (Int.toNat a9) []))) (Int.toNat a17) [])) 0) (List.headD (List.tail (List.take 2 (List.getD (List.set x6 (Int.toNat a9) (a11_0 :: a11_1 :: List.drop 2 (List.getD x6 (Int.toNat a9) []))) (Int.toNat a17) []))) 0) x0) fun (a18_0, a18_1) =>
 br (inB a16 2)
 (some (List.set x2 (Int.toNat x0) x1, x3, x4, List.set (List.set x5 (Int.toNat (List.getD x2 (Int.toNat x0) 0)) (a7_0 :: a7_1 :: List.drop 2 (List.getD x5 (Int.toNat (List.getD x2 (Int.toNat x0) 0)) []))) (Int.toNat x1) (a14_0 :: a14_1 :: List.drop 2 (List.getD (List.set x5 (Int.toNat (List.getD x2 (Int.toNat x0) 0)) (a7_0 :: a7_1 :: List.drop 2 (List.getD x5 (Int.toNat (List.getD x2 (Int.toNat x0) 0)) []))) (Int.toNat x1) [])), List.set (List.set x6 (Int.toNat a9) (a11_0 :: a11_1 :: List.drop 2 (List.getD x6 (Int.toNat a9) []))) (Int.toNat a16) (a18_0 :: a18_1 :: List.drop 2 (List.getD (List.set x6 (Int.toNat a9) (a11_0 :: a11_1 :: List.drop 2 (List.getD x6 (Int.toNat a9) []))) (Int.toNat a16) []))))
 (none))
 (none))
 (none))
 (none))
 (some (List.set x2 (Int.toNat x0) x1, x3, x4, List.set x5 (Int.toNat (List.getD x2 (Int.toNat x0) 0)) (a7_0 :: a7_1 :: List.drop 2 (List.getD x5 (Int.toNat (List.getD x2 (Int.toNat x0) 0)) [])), List.set x6 (Int.toNat a9) (a11_0 :: a11_1 :: List.drop 2 (List.getD x6 (Int.toNat a9) [])))))
 (none)))
 (none))
 (none))
 (none))
 (none))
 (ob (piece_Kind x1) fun a7 =>
 br (a7 == 0)
 (br (inB x0 81)
 (some (List.set x2 (Int.toNat x0) 0, x3, x4, x5, x6))
 (none))
 (br (inB x0 81)
 (br (x1 != 0)
 (br (inB x1 32)
 (ob (set_With (List.headD (List.take 2 (List.getD x5 (Int.toNat x1) [])) 0) (List.headD (List.tail (List.take 2 (List.getD x5 (Int.toNat x1) []))) 0) x0) fun (a8_0, a8_1) =>
 br (inB x1 32)
 (ob (piece_Side x1) fun a10 =>
 ob (piece_Side x1) fun a11 =>
 br (inB a11 2)
 (ob (set_With (List.headD (List.take 2 (List.getD x6 (Int.toNat a11) [])) 0) (List.headD (List.tail (List.take 2 (List.getD x6 (Int.toNat a11) []))) 0) x0) fun (a12_0, a12_1) =>
 br (inB a10 2)
 (some (List.set x2 (Int.toNat x0) x1, x3, x4, List.set x5 (Int.toNat x1) (a8_0 :: a8_1 :: List.drop 2 (List.getD x5 (Int.toNat x1) [])), List.set x6 (Int.toNat a10) (a12_0 :: a12_1 :: List.drop 2 (List.getD x6 (Int.toNat a10) []))))
 (none))
 (none))
 (none))
 (none))
 (some (List.set x2 (Int.toNat x0) x1, x3, x4, x5, x6)))
 (none))))
 (none)))
def board_Newl4s (rec : List Int → Int → List Int → List Int → Int → List (List Int) → List (List Int) → Option (List Int × List Int × Int × List (List Int) × List (List Int))) (x0 : List Int) (x1 : Int) (x2 x3 : List Int) (x4 : Int) (x5 x6 : List (List Int)) : Option (List Int × List Int × Int × List (List Int) × List (List Int)) :=
 br (decide (x1 < 81))
 (br (inB x1 81)
 (ob (board_Put x1 (List.getD x0 (bif true then Int.toNat x1 else Int.toNat x1 * 1) 0) x2 x3 x4 x5 x6) fun (a10_0, a10_1, a10_2, a10_3, a10_4) =>
 rec x0 (IntKind.wrap .i64 (x1 + 1)) a10_0 a10_1 a10_2 a10_3 a10_4)
 (none))
 (some (x2, x3, x4, x5, x6))
def board_Newl4 : Nat → List Int → Int → List Int → List Int → Int → List (List Int) → List (List Int) → Option (List Int × List Int × Int × List (List Int) × List (List Int))
 | 0, _, _, _, _, _, _, _ => none
 | f + 1, x0, x1, x2, x3, x4, x5, x6 => board_Newl4s (board_Newl4 f) x0 x1 x2 x3 x4 x5 x6
def board_New (x0 x1 : List Int) (x2 : Int) : Option (List Int × List Int × Int × List (List Int) × List (List Int)) :=
 ob (board_Newl4 many x0 0 ([0, 0, 0, 0, 0, 0, 0, 0, 0, 0, 0, 0, 0, 0, 0, 0, 0, 0, 0, 0, 0, 0, 0, 0, 0, 0, 0, 0, 0, 0, 0, 0, 0, 0, 0, 0, 0, 0, 0, 0, 0, 0, 0, 0, 0, 0, 0, 0, 0, 0, 0, 0, 0, 0, 0, 0, 0, 0, 0, 0, 0, 0, 0, 0, 0, 0, 0, 0, 0, 0, 0, 0, 0, 0, 0, 0, 0, 0, 0, 0, 0]) x1 x2 ([[0, 0], [0, 0], [0, 0], [0, 0], [0, 0], [0, 0], [0, 0], [0, 0], [0, 0], [0, 0], [0, 0], [0, 0], [0, 0], [0, 0], [0, 0], [0, 0], [0, 0], [0, 0], [0, 0], [0, 0], [0, 0], [0, 0], [0, 0], [0, 0], [0, 0], [0, 0], [0, 0], [0, 0], [0, 0], [0, 0], [0, 0], [0, 0]]) ([[0, 0], [0, 0]])) fun (a3_0, a3_1, a3_2, a3_3, a3_4) =>
 some (a3_0, a3_1, a3_2, a3_3, a3_4)
def deed_New (x0 x1 : List Int) (x2 : Int) : Option (Int × Nat × List Int × List Int × Int × List (List Int) × List (List Int) × Nat × List (List Int)) :=
 ob (board_New x0 x1 x2) fun (a3_0, a3_1, a3_2, a3_3, a3_4) =>
 ob (key_Of a3_0 a3_1 a3_2) fun a8 =>
 some (a8, 0, a3_0, a3_1, a3_2, a3_3, a3_4, 0, [])
def move_Check (x0 x1 x2 : Int) (x3 : Bool) : Option (Int) :=
 br (decide (x1 < 0))
 (some (1))
 (br (decide (x1 ≥ 81))
 (some (1))
 (br (x2 != 0)
 (br (decide (x2 < 0))
 (some (70))
 (br (decide (x2 ≥ 8))
 (some (70))
 (br (x0 != 0)
 (some (70))
 (br (x3)
 (some (70))
 (some (0))))))
 (br (decide (x0 < 0))
 (some (1))
 (br (decide (x0 ≥ 81))
 (some (1))
 (br (x0 == x1)
 (some (70))
 (some (0)))))))
def board_Hand (x0 x1 : Int) (_x2 x3 : List Int) (_x4 : Int) (_x5 _x6 : List (List Int)) : Option (Int) :=
 br (x0 != 0)
 (br (x0 != 1)
 (some (0))
 (br (decide (x1 < 1))
 (some (0))
 (br (decide (x1 ≥ 8))
 (some (0))
 (br (inB x0 2)
 (br (inB x1 8)
 (some (conv .i8 .i64 (List.getD x3 (Int.toNat x0 * 8 + Int.toNat x1) 0)))
 (none))
 (none)))))
 (br (decide (x1 < 1))
 (some (0))
 (br (decide (x1 ≥ 8))
 (some (0))
 (br (inB x0 2)
 (br (inB x1 8)
 (some (conv .i8 .i64 (List.getD x3 (Int.toNat x0 * 8 + Int.toNat x1) 0)))
 (none))
 (none))))
def board_At (x0 : Int) (x1 _x2 : List Int) (_x3 : Int) (_x4 _x5 : List (List Int)) : Option (Int) :=
 br (decide (x0 < 0))
 (some (0))
 (br (decide (x0 ≥ 81))
 (some (0))
 (br (inB x0 81)
 (some (List.getD x1 (Int.toNat x0) 0))
 (none)))
def piece_Up (x0 : Int) : Option (Int) :=
 br (x0 == 1)
 (some (IntKind.wrap .i64 (x0 + 8)))
 (br (x0 == 2)
 (some (IntKind.wrap .i64 (x0 + 8)))
 (br (x0 == 3)
 (some (IntKind.wrap .i64 (x0 + 8)))
 (br (x0 == 4)
 (some (IntKind.wrap .i64 (x0 + 8)))
 (br (x0 == 6)
 (some (IntKind.wrap .i64 (x0 + 8)))
 (br (x0 == 7)
 (some (IntKind.wrap .i64 (x0 + 8)))
 (some (0)))))))
def deed_Game_Can (x0 x1 x2 : Int) (x3 : Bool) (_x4 : Int) (_x5 : Nat) (x6 x7 : List Int) (x8 : Int) (x9 x10 : List (List Int)) (_x11 : Nat) (_x12 : List (List Int)) : Option (Bool) :=
 ob (move_Check x0 x1 x2 x3) fun a13 =>
 br (a13 != 0)
 (some (false))
 (br (x8 != 0)
 (br (x8 != 1)
 (some (false))
 (br (x2 != 0)
 (ob (board_Hand x8 x2 x6 x7 x8 x9 x10) fun a14 =>
 br (decide (a14 > 0))
 (ob (board_At x1 x6 x7 x8 x9 x10) fun a15 =>
 some (a15 == 0))
 (some (false)))
 (ob (board_At x0 x6 x7 x8 x9 x10) fun a14 =>
 ob (board_At x1 x6 x7 x8 x9 x10) fun a15 =>
 ob (piece_Side a14) fun a16 =>
 br (a16 == x8)
 (ob (piece_Side a15) fun a17 =>
 br (a17 != x8)
 (ob (piece_Kind a15) fun a18 =>
 br (a18 != 8)
 (br (!x3)
 (some (true))
 (ob (piece_Kind a14) fun a19 =>
 ob (piece_Up a19) fun a20 =>
 some (a20 != 0)))
 (some (false)))
 (some (false)))
 (some (false)))))
 (br (x2 != 0)
 (ob (board_Hand x8 x2 x6 x7 x8 x9 x10) fun a14 =>
 br (decide (a14 > 0))
 (ob (board_At x1 x6 x7 x8 x9 x10) fun a15 =>
 some (a15 == 0))
 (some (false)))
 (ob (board_At x0 x6 x7 x8 x9 x10) fun a14 =>
 ob (board_At x1 x6 x7 x8 x9 x10) fun a15 =>
 ob (piece_Side a14) fun a16 =>
 br (a16 == x8)
 (ob (piece_Side a15) fun a17 =>
 br (a17 != x8)
 (ob (piece_Kind a15) fun a18 =>
 br (a18 != 8)
 (br (!x3)
 (some (true))
 (ob (piece_Kind a14) fun a19 =>
 ob (piece_Up a19) fun a20 =>
 some (a20 != 0)))
 (some (false)))
 (some (false)))
 (some (false)))))
def deed_Game_hand (x0 x1 : Int) (x2 x3 : Int) (x4 : Nat) (x5 x6 : List Int) (x7 : Int) (x8 x9 : List (List Int)) (x10 : Nat) (x11 : List (List Int)) : Option (Int × Nat × List Int × List Int × Int × List (List Int) × List (List Int) × Nat × List (List Int)) :=
 ob (board_Hand x0 x1 x5 x6 x7 x8 x9) fun a12 =>
 ob (key_Hand x0 x1 a12) fun a13 =>
 ob (key_Hand x0 x1 (IntKind.wrap .i64 (a12 + x2))) fun a14 =>
 br (inB x0 2)
 (br (inB x1 8)
 (br (inB x0 2)
 (br (inB x1 8)
 (some (bitop BinOp.xor .u64 x3 (bitop BinOp.xor .u64 a13 a14), x4, x5, List.set x6 (Int.toNat x0 * 8 + Int.toNat x1) (IntKind.wrap .i8 (List.getD x6 (Int.toNat x0 * 8 + Int.toNat x1) 0 + conv .i64 .i8 x2)), x7, x8, x9, x10, x11))
 (none))
 (none))
 (none))
 (none)
def deed_Game_put (x0 x1 x2 : Int) (x3 : Nat) (x4 x5 : List Int) (x6 : Int) (x7 x8 : List (List Int)) (x9 : Nat) (x10 : List (List Int)) : Option (Int × Nat × List Int × List Int × Int × List (List Int) × List (List Int) × Nat × List (List Int)) :=
 ob (board_At x0 x4 x5 x6 x7 x8) fun a11 =>
 ob (key_Piece x0 a11) fun a12 =>
 ob (key_Piece x0 x1) fun a13 =>
 ob (board_Put x0 x1 x4 x5 x6 x7 x8) fun (a14_0, a14_1, a14_2, a14_3, a14_4) =>
 some (bitop BinOp.xor .u64 x2 (bitop BinOp.xor .u64 a12 a13), x3, a14_0, a14_1, a14_2, a14_3, a14_4, x9, x10)
def deed_Game_turn (x0 : Int) (x1 : Nat) (x2 x3 : List Int) (x4 : Int) (x5 x6 : List (List Int)) (x7 : Nat) (x8 : List (List Int)) : Option (Int × Nat × List Int × List Int × Int × List (List Int) × List (List Int) × Nat × List (List Int)) :=
 ob (key_Side ) fun a9 =>
 some (bitop BinOp.xor .u64 x0 a9, x1, x2, x3, IntKind.wrap .i8 (1 - x4), x5, x6, x7, x8)
def piece_Raw (x0 : Int) : Option (Int) :=
 ob (piece_Of 0 x0) fun a1 =>
 br (a1 == 0)
 (some (0))
 (br (decide (x0 > 8))
 (some (IntKind.wrap .i64 (x0 - 8)))
 (some (x0)))
def deed_Game_Make (x0 x1 x2 : Int) (x3 : Bool) (x4 : Int) (x5 : Nat) (x6 x7 : List Int) (x8 : Int) (x9 x10 : List (List Int)) (x11 : Nat) (x12 : List (List Int)) : Option ((Bool × Int × Nat × List Int × List Int × Int × List (List Int) × List (List Int) × Nat × List (List Int)) ⊕ (Bool × Int × Nat × List Int × List Int × Int × List (List Int) × List (List Int) × Nat × List (List Int))) :=
 ob (deed_Game_Can x0 x1 x2 x3 x4 x5 x6 x7 x8 x9 x10 x11 x12) fun a13 =>
 br (!a13)
 (some (.inl (false, x4, x5, x6, x7, x8, x9, x10, x11, x12)))
 (ob (board_At x1 x6 x7 x8 x9 x10) fun a14 =>
 br (x2 != 0)
 (ob (piece_Of x8 x2) fun a15 =>
 ob (deed_Game_hand x8 x2 (-1) x4 x5 x6 x7 x8 x9 x10 x11 x12) fun (a16_0, a16_1, a16_2, a16_3, a16_4, a16_5, a16_6, a16_7, a16_8) =>
 ob (deed_Game_put x1 a15 a16_0 a16_1 a16_2 a16_3 a16_4 a16_5 a16_6 a16_7 a16_8) fun (a25_0, a25_1, a25_2, a25_3, a25_4, a25_5, a25_6, a25_7, a25_8) =>
 ob (deed_Game_turn a25_0 a25_1 a25_2 a25_3 a25_4 a25_5 a25_6 a25_7 a25_8) fun (a34_0, a34_1, a34_2, a34_3, a34_4, a34_5, a34_6, _, a34_8) =>
 br (decide ((a34_1 + 1) * 40 ≤ 140737488355328))
 (some (.inr (true, a34_0, a34_1 + 1, a34_2, a34_3, a34_4, a34_5, a34_6, a34_1 + 1, List.append (List.take a34_1 a34_8) [[x0, x1, x2, bi x3, a14, a15]])))
 (none))
 (ob (board_At x0 x6 x7 x8 x9 x10) fun a15 =>
 br (x3)
 (ob (piece_Kind a15) fun a16 =>
 ob (piece_Up a16) fun a17 =>
 ob (piece_Of x8 a17) fun a18 =>
 ob (deed_Game_put x0 0 x4 x5 x6 x7 x8 x9 x10 x11 x12) fun (a19_0, a19_1, a19_2, a19_3, a19_4, a19_5, a19_6, a19_7, a19_8) =>
 ob (deed_Game_put x1 a18 a19_0 a19_1 a19_2 a19_3 a19_4 a19_5 a19_6 a19_7 a19_8) fun (a28_0, a28_1, a28_2, a28_3, a28_4, a28_5, a28_6, a28_7, a28_8) =>
 br (a14 != 0)
 (ob (piece_Kind a14) fun a37 =>
 ob (piece_Raw a37) fun a38 =>
 ob (deed_Game_hand x8 a38 1 a28_0 a28_1 a28_2 a28_3 a28_4 a28_5 a28_6 a28_7 a28_8) fun (a39_0, a39_1, a39_2, a39_3, a39_4, a39_5, a39_6, a39_7, a39_8) =>
 ob (deed_Game_turn a39_0 a39_1 a39_2 a39_3 a39_4 a39_5 a39_6 a39_7 a39_8) fun (a48_0, a48_1, a48_2, a48_3, a48_4, a48_5, a48_6, _, a48_8) =>
 br (decide ((a48_1 + 1) * 40 ≤ 140737488355328))
 (some (.inr (true, a48_0, a48_1 + 1, a48_2, a48_3, a48_4, a48_5, a48_6, a48_1 + 1, List.append (List.take a48_1 a48_8) [[x0, x1, x2, bi x3, a14, a15]])))
 (none))
 (ob (deed_Game_turn a28_0 a28_1 a28_2 a28_3 a28_4 a28_5 a28_6 a28_7 a28_8) fun (a37_0, a37_1, a37_2, a37_3, a37_4, a37_5, a37_6, _, a37_8) =>
 br (decide ((a37_1 + 1) * 40 ≤ 140737488355328))
 (some (.inr (true, a37_0, a37_1 + 1, a37_2, a37_3, a37_4, a37_5, a37_6, a37_1 + 1, List.append (List.take a37_1 a37_8) [[x0, x1, x2, bi x3, a14, a15]])))
 (none)))
 (ob (deed_Game_put x0 0 x4 x5 x6 x7 x8 x9 x10 x11 x12) fun (a16_0, a16_1, a16_2, a16_3, a16_4, a16_5, a16_6, a16_7, a16_8) =>
 ob (deed_Game_put x1 a15 a16_0 a16_1 a16_2 a16_3 a16_4 a16_5 a16_6 a16_7 a16_8) fun (a25_0, a25_1, a25_2, a25_3, a25_4, a25_5, a25_6, a25_7, a25_8) =>
 br (a14 != 0)
 (ob (piece_Kind a14) fun a34 =>
 ob (piece_Raw a34) fun a35 =>
 ob (deed_Game_hand x8 a35 1 a25_0 a25_1 a25_2 a25_3 a25_4 a25_5 a25_6 a25_7 a25_8) fun (a36_0, a36_1, a36_2, a36_3, a36_4, a36_5, a36_6, a36_7, a36_8) =>
 ob (deed_Game_turn a36_0 a36_1 a36_2 a36_3 a36_4 a36_5 a36_6 a36_7 a36_8) fun (a45_0, a45_1, a45_2, a45_3, a45_4, a45_5, a45_6, _, a45_8) =>
 br (decide ((a45_1 + 1) * 40 ≤ 140737488355328))
 (some (.inr (true, a45_0, a45_1 + 1, a45_2, a45_3, a45_4, a45_5, a45_6, a45_1 + 1, List.append (List.take a45_1 a45_8) [[x0, x1, x2, bi x3, a14, a15]])))
 (none))
 (ob (deed_Game_turn a25_0 a25_1 a25_2 a25_3 a25_4 a25_5 a25_6 a25_7 a25_8) fun (a34_0, a34_1, a34_2, a34_3, a34_4, a34_5, a34_6, _, a34_8) =>
 br (decide ((a34_1 + 1) * 40 ≤ 140737488355328))
 (some (.inr (true, a34_0, a34_1 + 1, a34_2, a34_3, a34_4, a34_5, a34_6, a34_1 + 1, List.append (List.take a34_1 a34_8) [[x0, x1, x2, bi x3, a14, a15]])))
 (none)))))
def deed_Game_Back (x0 : Int) (x1 : Nat) (x2 x3 : List Int) (x4 : Int) (x5 x6 : List (List Int)) (x7 : Nat) (x8 : List (List Int)) : Option (Bool × Int × Nat × List Int × List Int × Int × List (List Int) × List (List Int) × Nat × List (List Int)) :=
 br (Int.ofNat x1 == 0)
 (some (false, x0, x1, x2, x3, x4, x5, x6, x7, x8))
 (br (inB (IntKind.wrap .i64 (Int.ofNat x1 - 1)) x1)
 (br (inLe (IntKind.wrap .i64 (Int.ofNat x1 - 1)) x1)
 (ob (deed_Game_turn x0 (Int.toNat (IntKind.wrap .i64 (Int.ofNat x1 - 1)) - 0) x2 x3 x4 x5 x6 x7 x8) fun (a9_0, a9_1, a9_2, a9_3, a9_4, a9_5, a9_6, a9_7, a9_8) =>
 br (List.headD (List.tail (List.tail (List.take 6 (List.getD x8 (Int.toNat (IntKind.wrap .i64 (Int.ofNat x1 - 1))) [])))) 0 != 0)
 (ob (deed_Game_put (List.headD (List.tail (List.take 6 (List.getD x8 (Int.toNat (IntKind.wrap .i64 (Int.ofNat x1 - 1))) []))) 0) 0 a9_0 a9_1 a9_2 a9_3 a9_4 a9_5 a9_6 a9_7 a9_8) fun (a18_0, a18_1, a18_2, a18_3, a18_4, a18_5, a18_6, a18_7, a18_8) =>
 ob (deed_Game_hand a9_4 (List.headD (List.tail (List.tail (List.take 6 (List.getD x8 (Int.toNat (IntKind.wrap .i64 (Int.ofNat x1 - 1))) [])))) 0) 1 a18_0 a18_1 a18_2 a18_3 a18_4 a18_5 a18_6 a18_7 a18_8) fun (a27_0, a27_1, a27_2, a27_3, a27_4, a27_5, a27_6, a27_7, a27_8) =>
 some (true, a27_0, a27_1, a27_2, a27_3, a27_4, a27_5, a27_6, a27_7, a27_8))
 (ob (deed_Game_put (List.headD (List.tail (List.take 6 (List.getD x8 (Int.toNat (IntKind.wrap .i64 (Int.ofNat x1 - 1))) []))) 0) (List.headD (List.tail (List.tail (List.tail (List.tail (List.take 6 (List.getD x8 (Int.toNat (IntKind.wrap .i64 (Int.ofNat x1 - 1))) [])))))) 0) a9_0 a9_1 a9_2 a9_3 a9_4 a9_5 a9_6 a9_7 a9_8) fun (a18_0, a18_1, a18_2, a18_3, a18_4, a18_5, a18_6, a18_7, a18_8) =>
 ob (deed_Game_put (List.headD (List.take 6 (List.getD x8 (Int.toNat (IntKind.wrap .i64 (Int.ofNat x1 - 1))) [])) 0) (List.headD (List.tail (List.tail (List.tail (List.tail (List.tail (List.take 6 (List.getD x8 (Int.toNat (IntKind.wrap .i64 (Int.ofNat x1 - 1))) []))))))) 0) a18_0 a18_1 a18_2 a18_3 a18_4 a18_5 a18_6 a18_7 a18_8) fun (a27_0, a27_1, a27_2, a27_3, a27_4, a27_5, a27_6, a27_7, a27_8) =>
 br (List.headD (List.tail (List.tail (List.tail (List.tail (List.take 6 (List.getD x8 (Int.toNat (IntKind.wrap .i64 (Int.ofNat x1 - 1))) [])))))) 0 != 0)
 (ob (piece_Kind (List.headD (List.tail (List.tail (List.tail (List.tail (List.take 6 (List.getD x8 (Int.toNat (IntKind.wrap .i64 (Int.ofNat x1 - 1))) [])))))) 0)) fun a36 =>
 ob (piece_Raw a36) fun a37 =>
 ob (deed_Game_hand a9_4 a37 (-1) a27_0 a27_1 a27_2 a27_3 a27_4 a27_5 a27_6 a27_7 a27_8) fun (a38_0, a38_1, a38_2, a38_3, a38_4, a38_5, a38_6, a38_7, a38_8) =>
 some (true, a38_0, a38_1, a38_2, a38_3, a38_4, a38_5, a38_6, a38_7, a38_8))
 (some (true, a27_0, a27_1, a27_2, a27_3, a27_4, a27_5, a27_6, a27_7, a27_8))))
 (none))
 (none))
def ref02_Kind (x0 : Int) : Option (Int) :=
 br (decide (x0 < 1))
 (some (0))
 (br (decide (x0 > 31))
 (some (0))
 (br (x0 == 13)
 (some (0))
 (br (x0 == 16)
 (some (0))
 (br (x0 == 29)
 (some (0))
 (some (Int.tmod x0 16))))))
def ref05_Onl3s (rec : Int → Int → Int → Int → List Int → List Int → Int → Option (Int)) (x0 x1 : Int) (x2 x3 : Int) (x4 x5 : List Int) (x6 : Int) : Option (Int) :=
 br (decide (x3 < 9))
 (br (inB (IntKind.wrap .i64 (IntKind.wrap .i64 (9 * x1) + x3)) 81)
 (br (conv .i8 .i64 (List.getD x4 (Int.toNat (IntKind.wrap .i64 (IntKind.wrap .i64 (9 * x1) + x3))) 0) == x0)
 (rec x0 x1 (IntKind.wrap .i64 (x2 + 1)) (IntKind.wrap .i64 (x3 + 1)) x4 x5 x6)
 (rec x0 x1 x2 (IntKind.wrap .i64 (x3 + 1)) x4 x5 x6))
 (none))
 (some (x2))
def ref05_Onl3 : Nat → Int → Int → Int → Int → List Int → List Int → Int → Option (Int)
 | 0, _, _, _, _, _, _, _ => none
 | f + 1, x0, x1, x2, x3, x4, x5, x6 => ref05_Onl3s (ref05_Onl3 f) x0 x1 x2 x3 x4 x5 x6
def ref05_On (x0 x1 : List Int) (x2 x3 x4 : Int) : Option (Int) :=
 ob (ref05_Onl3 many x3 x4 0 0 x0 x1 x2) fun a5 =>
 some (a5)
def ref05_alll3s (rec : Int → Int → Int → List Int → List Int → Int → Option (Int)) (x0 x1 x2 : Int) (x3 x4 : List Int) (x5 : Int) : Option (Int) :=
 br (decide (x2 < 9))
 (ob (ref05_On x3 x4 x5 x0 x2) fun a10 =>
 rec x0 (IntKind.wrap .i64 (x1 + a10)) (IntKind.wrap .i64 (x2 + 1)) x3 x4 x5)
 (some (x1))
def ref05_alll3 : Nat → Int → Int → Int → List Int → List Int → Int → Option (Int)
 | 0, _, _, _, _, _, _ => none
 | f + 1, x0, x1, x2, x3, x4, x5 => ref05_alll3s (ref05_alll3 f) x0 x1 x2 x3 x4 x5
def ref05_all (x0 x1 : List Int) (x2 x3 : Int) : Option (Int) :=
 ob (ref05_alll3 many x3 0 0 x0 x1 x2) fun a4 =>
 some (a4)
def ref02_Raw (x0 : Int) : Option (Int) :=
 br (decide (x0 < 1))
 (some (0))
 (br (decide (x0 > 15))
 (some (0))
 (br (x0 == 13)
 (some (0))
 (br (decide (x0 > 8))
 (some (IntKind.wrap .i64 (x0 - 8)))
 (some (x0)))))
def ref05_Countl3s (rec : Int → Int → Int → List Int → List Int → Int → Option (Int × Int × List Int × List Int × Int)) (x0 x1 x2 : Int) (x3 x4 : List Int) (x5 : Int) : Option (Int × Int × List Int × List Int × Int) :=
 br (decide (x2 < 81))
 (br (inB x2 81)
 (ob (ref02_Kind (conv .i8 .i64 (List.getD x3 (Int.toNat x2) 0))) fun a10 =>
 ob (ref02_Raw a10) fun a11 =>
 br (a11 == x0)
 (rec x0 (IntKind.wrap .i64 (x1 + 1)) (IntKind.wrap .i64 (x2 + 1)) x3 x4 x5)
 (rec x0 x1 (IntKind.wrap .i64 (x2 + 1)) x3 x4 x5))
 (none))
 (some (x0, x1, x3, x4, x5))
def ref05_Countl3 : Nat → Int → Int → Int → List Int → List Int → Int → Option (Int × Int × List Int × List Int × Int)
 | 0, _, _, _, _, _, _ => none
 | f + 1, x0, x1, x2, x3, x4, x5 => ref05_Countl3s (ref05_Countl3 f) x0 x1 x2 x3 x4 x5
def ref05_Count (x0 x1 : List Int) (x2 x3 : Int) : Option (Int) :=
 ob (ref05_Countl3 many x3 0 0 x0 x1 x2) fun (a4_0, a4_1, _, a4_3, _) =>
 br (inB a4_0 8)
 (br (inB a4_0 8)
 (some (IntKind.wrap .i64 (IntKind.wrap .i64 (a4_1 + conv .i8 .i64 (List.getD a4_3 (0 + Int.toNat a4_0) 0)) + conv .i8 .i64 (List.getD a4_3 (8 + Int.toNat a4_0) 0))))
 (none))
 (none)
def ref02_Total (x0 : Int) : Option (Int) :=
 br (decide (x0 < 1))
 (some (0))
 (br (decide (x0 > 8))
 (some (0))
 (br (inB x0 9)
 (some (List.getD [0, 18, 4, 4, 4, 4, 2, 2, 2] (Int.toNat x0) 0))
 (none)))
def ref02_Side (x0 : Int) : Option (Int) :=
 ob (ref02_Kind x0) fun a1 =>
 br (a1 == 0)
 (some (-1))
 (some (IntKind.wrap .i64 (Int.tdiv x0 16)))
def ref03_Far (x0 x1 : Int) : Option (Int) :=
 br (decide (x1 < 0))
 (some (-1))
 (br (decide (x1 > 80))
 (some (-1))
 (br (decide (x0 < 0))
 (some (-1))
 (br (decide (x0 > 1))
 (some (-1))
 (br (x0 == 0)
 (some (Int.tmod x1 9))
 (some (IntKind.wrap .i64 (8 - Int.tmod x1 9)))))))
def ref03_Dead (x0 x1 : Int) : Option (Bool) :=
 ob (ref02_Side x0) fun a2 =>
 ob (ref03_Far a2 x1) fun a3 =>
 ob (ref02_Kind x0) fun a4 =>
 br (a4 == 1)
 (br (a3 == 0)
 (some (true))
 (br (a4 == 3)
 (br (a3 == 0)
 (some (true))
 (some (a3 == 1)))
 (some (false))))
 (br (a4 == 2)
 (br (a3 == 0)
 (some (true))
 (br (a4 == 3)
 (br (a3 == 0)
 (some (true))
 (some (a3 == 1)))
 (some (false))))
 (br (a4 == 3)
 (br (a3 == 0)
 (some (true))
 (some (a3 == 1)))
 (some (false))))
def ref05_Checkl4s (rec : Int → List Int → List Int → Int → Option ((Int × List Int × List Int × Int) ⊕ (List Int × List Int × Int))) (x0 : Int) (x1 x2 : List Int) (x3 : Int) : Option ((Int × List Int × List Int × Int) ⊕ (List Int × List Int × Int)) :=
 br (decide (x0 < 81))
 (br (inB x0 81)
 (br (List.getD x1 (Int.toNat x0) 0 != 0)
 (br (inB x0 81)
 (ob (ref02_Kind (conv .i8 .i64 (List.getD x1 (Int.toNat x0) 0))) fun a7 =>
 br (a7 == 0)
 (some (.inl (55, x1, x2, x3)))
 (rec (IntKind.wrap .i64 (x0 + 1)) x1 x2 x3))
 (none))
 (rec (IntKind.wrap .i64 (x0 + 1)) x1 x2 x3))
 (none))
 (some (.inr (x1, x2, x3)))
def ref05_Checkl4 : Nat → Int → List Int → List Int → Int → Option ((Int × List Int × List Int × Int) ⊕ (List Int × List Int × Int))
 | 0, _, _, _, _ => none
 | f + 1, x0, x1, x2, x3 => ref05_Checkl4s (ref05_Checkl4 f) x0 x1 x2 x3
def ref05_Checkl12s (rec : Int → Int → List Int → List Int → Int → Option ((Int × Int × List Int × List Int × Int) ⊕ (Int × List Int × List Int × Int))) (x0 x1 : Int) (x2 x3 : List Int) (x4 : Int) : Option ((Int × Int × List Int × List Int × Int) ⊕ (Int × List Int × List Int × Int)) :=
 br (decide (x1 < 2))
 (br (inB x1 2)
 (br (inB x0 8)
 (br (decide (List.getD x3 (Int.toNat x1 * 8 + Int.toNat x0) 0 < 0))
 (some (.inl (55, x0, x2, x3, x4)))
 (br (x0 == 0)
 (br (List.getD x3 (Int.toNat x1 * 8 + Int.toNat x0) 0 != 0)
 (some (.inl (55, x0, x2, x3, x4)))
 (rec x0 (IntKind.wrap .i64 (x1 + 1)) x2 x3 x4))
 (rec x0 (IntKind.wrap .i64 (x1 + 1)) x2 x3 x4)))
 (none))
 (none))
 (some (.inr (x0, x2, x3, x4)))
def ref05_Checkl12 : Nat → Int → Int → List Int → List Int → Int → Option ((Int × Int × List Int × List Int × Int) ⊕ (Int × List Int × List Int × Int))
 | 0, _, _, _, _, _ => none
 | f + 1, x0, x1, x2, x3, x4 => ref05_Checkl12s (ref05_Checkl12 f) x0 x1 x2 x3 x4
def ref05_Checkl9s (rec : Int → List Int → List Int → Int → Option ((Int × List Int × List Int × Int) ⊕ (List Int × List Int × Int))) (x0 : Int) (x1 x2 : List Int) (x3 : Int) : Option ((Int × List Int × List Int × Int) ⊕ (List Int × List Int × Int)) :=
 br (decide (x0 < 8))
 (ob (ref05_Checkl12 many x0 0 x1 x2 x3) fun t10_2 =>
 sw t10_2 (fun (a10_0, _, a10_2, a10_3, a10_4) =>
 some (.inl (a10_0, a10_2, a10_3, a10_4)))
 (fun (a10_0, a10_1, a10_2, a10_3) =>
 rec (IntKind.wrap .i64 (a10_0 + 1)) a10_1 a10_2 a10_3))
 (some (.inr (x1, x2, x3)))
def ref05_Checkl9 : Nat → Int → List Int → List Int → Int → Option ((Int × List Int × List Int × Int) ⊕ (List Int × List Int × Int))
 | 0, _, _, _, _ => none
 | f + 1, x0, x1, x2, x3 => ref05_Checkl9s (ref05_Checkl9 f) x0 x1 x2 x3
def ref05_Checkl20s (rec : Int → List Int → List Int → Int → Option ((Int × List Int × List Int × Int) ⊕ (List Int × List Int × Int))) (x0 : Int) (x1 x2 : List Int) (x3 : Int) : Option ((Int × List Int × List Int × Int) ⊕ (List Int × List Int × Int)) :=
 br (decide (x0 < 8))
 (ob (ref05_Count x1 x2 x3 x0) fun a15 =>
 ob (ref02_Total x0) fun a16 =>
 br (decide (a15 > a16))
 (some (.inl (51, x1, x2, x3)))
 (rec (IntKind.wrap .i64 (x0 + 1)) x1 x2 x3))
 (some (.inr (x1, x2, x3)))
def ref05_Checkl20 : Nat → Int → List Int → List Int → Int → Option ((Int × List Int × List Int × Int) ⊕ (List Int × List Int × Int))
 | 0, _, _, _, _ => none
 | f + 1, x0, x1, x2, x3 => ref05_Checkl20s (ref05_Checkl20 f) x0 x1 x2 x3
def ref05_Checkl25s (rec : Int → List Int → List Int → Int → Option ((Int × List Int × List Int × Int) ⊕ (List Int × List Int × Int))) (x0 : Int) (x1 x2 : List Int) (x3 : Int) : Option ((Int × List Int × List Int × Int) ⊕ (List Int × List Int × Int)) :=
 br (decide (x0 < 81))
 (br (inB x0 81)
 (ob (ref03_Dead (conv .i8 .i64 (List.getD x1 (Int.toNat x0) 0)) x0) fun a18 =>
 br (a18)
 (some (.inl (52, x1, x2, x3)))
 (rec (IntKind.wrap .i64 (x0 + 1)) x1 x2 x3))
 (none))
 (some (.inr (x1, x2, x3)))
def ref05_Checkl25 : Nat → Int → List Int → List Int → Int → Option ((Int × List Int × List Int × Int) ⊕ (List Int × List Int × Int))
 | 0, _, _, _, _ => none
 | f + 1, x0, x1, x2, x3 => ref05_Checkl25s (ref05_Checkl25 f) x0 x1 x2 x3
def ref05_Checkl30s (rec : Int → List Int → List Int → Int → Option ((Int) ⊕ (Unit))) (x0 : Int) (x1 x2 : List Int) (x3 : Int) : Option ((Int) ⊕ (Unit)) :=
 br (decide (x0 < 9))
 (ob (ref05_On x1 x2 x3 1 x0) fun a21 =>
 br (decide (a21 > 1))
 (some (.inl (53)))
 (ob (ref05_On x1 x2 x3 17 x0) fun a22 =>
 br (decide (a22 > 1))
 (some (.inl (53)))
 (rec (IntKind.wrap .i64 (x0 + 1)) x1 x2 x3)))
 (some (.inr ()))
def ref05_Checkl30 : Nat → Int → List Int → List Int → Int → Option ((Int) ⊕ (Unit))
 | 0, _, _, _, _ => none
 | f + 1, x0, x1, x2, x3 => ref05_Checkl30s (ref05_Checkl30 f) x0 x1 x2 x3
def ref05_Check (x0 x1 : List Int) (x2 : Int) : Option (Int) :=
 br (x2 != 0)
 (br (x2 != 1)
 (some (1))
 (ob (ref05_Checkl4 many 0 x0 x1 x2) fun t3_2 =>
 sw t3_2 (fun (a3_0, _, _, _) =>
 some (a3_0))
 (fun (a3_0, a3_1, a3_2) =>
 ob (ref05_Checkl9 many 0 a3_0 a3_1 a3_2) fun t6_2 =>
 sw t6_2 (fun (a6_0, _, _, _) =>
 some (a6_0))
 (fun (a6_0, a6_1, a6_2) =>
 ob (ref05_all a6_0 a6_1 a6_2 8) fun a9 =>
 br (a9 != 1)
 (some (50))
 (ob (ref05_all a6_0 a6_1 a6_2 24) fun a10 =>
 br (a10 != 1)
 (some (50))
 (ob (ref05_Checkl20 many 1 a6_0 a6_1 a6_2) fun t11_2 =>
 sw t11_2 (fun (a11_0, _, _, _) =>
 some (a11_0))
 (fun (a11_0, a11_1, a11_2) =>
 ob (ref05_Checkl25 many 0 a11_0 a11_1 a11_2) fun t14_2 =>
 sw t14_2 (fun (a14_0, _, _, _) =>
 some (a14_0))
 (fun (a14_0, a14_1, a14_2) =>
 ob (ref05_Checkl30 many 0 a14_0 a14_1 a14_2) fun t17_2 =>
 sw t17_2 (fun a17 =>
 some (a17))
 (fun _ =>
 some (0))))))))))
 (ob (ref05_Checkl4 many 0 x0 x1 x2) fun t3_2 =>
 sw t3_2 (fun (a3_0, _, _, _) =>
 some (a3_0))
 (fun (a3_0, a3_1, a3_2) =>
 ob (ref05_Checkl9 many 0 a3_0 a3_1 a3_2) fun t6_2 =>
 sw t6_2 (fun (a6_0, _, _, _) =>
 some (a6_0))
 (fun (a6_0, a6_1, a6_2) =>
 ob (ref05_all a6_0 a6_1 a6_2 8) fun a9 =>
 br (a9 != 1)
 (some (50))
 (ob (ref05_all a6_0 a6_1 a6_2 24) fun a10 =>
 br (a10 != 1)
 (some (50))
 (ob (ref05_Checkl20 many 1 a6_0 a6_1 a6_2) fun t11_2 =>
 sw t11_2 (fun (a11_0, _, _, _) =>
 some (a11_0))
 (fun (a11_0, a11_1, a11_2) =>
 ob (ref05_Checkl25 many 0 a11_0 a11_1 a11_2) fun t14_2 =>
 sw t14_2 (fun (a14_0, _, _, _) =>
 some (a14_0))
 (fun (a14_0, a14_1, a14_2) =>
 ob (ref05_Checkl30 many 0 a14_0 a14_1 a14_2) fun t17_2 =>
 sw t17_2 (fun a17 =>
 some (a17))
 (fun _ =>
 some (0)))))))))
def deed_After (x0 x1 : List Int) (x2 x3 : Int) (x4 x5 : Int) (x6 : Bool) : Option (List Int × List Int × Int × Bool) :=
 ob (deed_New x0 x1 x2) fun (a7_0, a7_1, a7_2, a7_3, a7_4, a7_5, a7_6, a7_7, a7_8) =>
 ob (deed_Game_Make x3 x4 x5 x6 a7_0 a7_1 a7_2 a7_3 a7_4 a7_5 a7_6 a7_7 a7_8) fun t16_2 =>
 sw t16_2 (fun (a16_0, _, _, a16_3, a16_4, a16_5, _, _, _, _) =>
 some (a16_3, a16_4, a16_5, a16_0))
 (fun (a16_0, _, _, a16_3, a16_4, a16_5, _, _, _, _) =>
 some (a16_3, a16_4, a16_5, a16_0))
def board_Taken (_x0 _x1 : List Int) (_x2 : Int) (_x3 x4 : List (List Int)) : Option (Int × Int) :=
 ob (set_Or (List.headD (List.take 2 (List.getD x4 0 [])) 0) (List.headD (List.tail (List.take 2 (List.getD x4 0 []))) 0) (List.headD (List.take 2 (List.getD x4 1 [])) 0) (List.headD (List.tail (List.take 2 (List.getD x4 1 []))) 0)) fun (a5_0, a5_1) =>
 some (a5_0, a5_1)
def bits_OnesCount64 (x0 : Int) : Option (Int) :=
 some (bitop BinOp.and .i64 (conv .u64 .i64 (IntKind.wrap .u64 (IntKind.wrap .u64 (IntKind.wrap .u64 (bitop BinOp.and .u64 (IntKind.wrap .u64 (Int.fdiv (IntKind.wrap .u64 (bitop BinOp.and .u64 (Int.fdiv (IntKind.wrap .u64 (bitop BinOp.and .u64 (Int.fdiv x0 2) 6148914691236517205 + bitop BinOp.and .u64 x0 6148914691236517205)) 4) 3689348814741910323 + bitop BinOp.and .u64 (IntKind.wrap .u64 (bitop BinOp.and .u64 (Int.fdiv x0 2) 6148914691236517205 + bitop BinOp.and .u64 x0 6148914691236517205)) 3689348814741910323)) 16 + IntKind.wrap .u64 (bitop BinOp.and .u64 (Int.fdiv (IntKind.wrap .u64 (bitop BinOp.and .u64 (Int.fdiv x0 2) 6148914691236517205 + bitop BinOp.and .u64 x0 6148914691236517205)) 4) 3689348814741910323 + bitop BinOp.and .u64 (IntKind.wrap .u64 (bitop BinOp.and .u64 (Int.fdiv x0 2) 6148914691236517205 + bitop BinOp.and .u64 x0 6148914691236517205)) 3689348814741910323))) 1085102592571150095 + Int.fdiv (bitop BinOp.and .u64 (IntKind.wrap .u64 (Int.fdiv (IntKind.wrap .u64 (bitop BinOp.and .u64 (Int.fdiv (IntKind.wrap .u64 (bitop BinOp.and .u64 (Int.fdiv x0 2) 6148914691236517205 + bitop BinOp.and .u64 x0 6148914691236517205)) 4) 3689348814741910323 + bitop BinOp.and .u64 (IntKind.wrap .u64 (bitop BinOp.and .u64 (Int.fdiv x0 2) 6148914691236517205 + bitop BinOp.and .u64 x0 6148914691236517205)) 3689348814741910323)) 16 + IntKind.wrap .u64 (bitop BinOp.and .u64 (Int.fdiv (IntKind.wrap .u64 (bitop BinOp.and .u64 (Int.fdiv x0 2) 6148914691236517205 + bitop BinOp.and .u64 x0 6148914691236517205)) 4) 3689348814741910323 + bitop BinOp.and .u64 (IntKind.wrap .u64 (bitop BinOp.and .u64 (Int.fdiv x0 2) 6148914691236517205 + bitop BinOp.and .u64 x0 6148914691236517205)) 3689348814741910323))) 1085102592571150095) 256) + Int.fdiv (IntKind.wrap .u64 (bitop BinOp.and .u64 (IntKind.wrap .u64 (Int.fdiv (IntKind.wrap .u64 (bitop BinOp.and .u64 (Int.fdiv (IntKind.wrap .u64 (bitop BinOp.and .u64 (Int.fdiv x0 2) 6148914691236517205 + bitop BinOp.and .u64 x0 6148914691236517205)) 4) 3689348814741910323 + bitop BinOp.and .u64 (IntKind.wrap .u64 (bitop BinOp.and .u64 (Int.fdiv x0 2) 6148914691236517205 + bitop BinOp.and .u64 x0 6148914691236517205)) 3689348814741910323)) 16 + IntKind.wrap .u64 (bitop BinOp.and .u64 (Int.fdiv (IntKind.wrap .u64 (bitop BinOp.and .u64 (Int.fdiv x0 2) 6148914691236517205 + bitop BinOp.and .u64 x0 6148914691236517205)) 4) 3689348814741910323 + bitop BinOp.and .u64 (IntKind.wrap .u64 (bitop BinOp.and .u64 (Int.fdiv x0 2) 6148914691236517205 + bitop BinOp.and .u64 x0 6148914691236517205)) 3689348814741910323))) 1085102592571150095 + Int.fdiv (bitop BinOp.and .u64 (IntKind.wrap .u64 (Int.fdiv (IntKind.wrap .u64 (bitop BinOp.and .u64 (Int.fdiv (IntKind.wrap .u64 (bitop BinOp.and .u64 (Int.fdiv x0 2) 6148914691236517205 + bitop BinOp.and .u64 x0 6148914691236517205)) 4) 3689348814741910323 + bitop BinOp.and .u64 (IntKind.wrap .u64 (bitop BinOp.and .u64 (Int.fdiv x0 2) 6148914691236517205 + bitop BinOp.and .u64 x0 6148914691236517205)) 3689348814741910323)) 16 + IntKind.wrap .u64 (bitop BinOp.and .u64 (Int.fdiv (IntKind.wrap .u64 (bitop BinOp.and .u64 (Int.fdiv x0 2) 6148914691236517205 + bitop BinOp.and .u64 x0 6148914691236517205)) 4) 3689348814741910323 + bitop BinOp.and .u64 (IntKind.wrap .u64 (bitop BinOp.and .u64 (Int.fdiv x0 2) 6148914691236517205 + bitop BinOp.and .u64 x0 6148914691236517205)) 3689348814741910323))) 1085102592571150095) 256)) 65536) + Int.fdiv (IntKind.wrap .u64 (IntKind.wrap .u64 (bitop BinOp.and .u64 (IntKind.wrap .u64 (Int.fdiv (IntKind.wrap .u64 (bitop BinOp.and .u64 (Int.fdiv (IntKind.wrap .u64 (bitop BinOp.and .u64 (Int.fdiv x0 2) 6148914691236517205 + bitop BinOp.and .u64 x0 6148914691236517205)) 4) 3689348814741910323 + bitop BinOp.and .u64 (IntKind.wrap .u64 (bitop BinOp.and .u64 (Int.fdiv x0 2) 6148914691236517205 + bitop BinOp.and .u64 x0 6148914691236517205)) 3689348814741910323)) 16 + IntKind.wrap .u64 (bitop BinOp.and .u64 (Int.fdiv (IntKind.wrap .u64 (bitop BinOp.and .u64 (Int.fdiv x0 2) 6148914691236517205 + bitop BinOp.and .u64 x0 6148914691236517205)) 4) 3689348814741910323 + bitop BinOp.and .u64 (IntKind.wrap .u64 (bitop BinOp.and .u64 (Int.fdiv x0 2) 6148914691236517205 + bitop BinOp.and .u64 x0 6148914691236517205)) 3689348814741910323))) 1085102592571150095 + Int.fdiv (bitop BinOp.and .u64 (IntKind.wrap .u64 (Int.fdiv (IntKind.wrap .u64 (bitop BinOp.and .u64 (Int.fdiv (IntKind.wrap .u64 (bitop BinOp.and .u64 (Int.fdiv x0 2) 6148914691236517205 + bitop BinOp.and .u64 x0 6148914691236517205)) 4) 3689348814741910323 + bitop BinOp.and .u64 (IntKind.wrap .u64 (bitop BinOp.and .u64 (Int.fdiv x0 2) 6148914691236517205 + bitop BinOp.and .u64 x0 6148914691236517205)) 3689348814741910323)) 16 + IntKind.wrap .u64 (bitop BinOp.and .u64 (Int.fdiv (IntKind.wrap .u64 (bitop BinOp.and .u64 (Int.fdiv x0 2) 6148914691236517205 + bitop BinOp.and .u64 x0 6148914691236517205)) 4) 3689348814741910323 + bitop BinOp.and .u64 (IntKind.wrap .u64 (bitop BinOp.and .u64 (Int.fdiv x0 2) 6148914691236517205 + bitop BinOp.and .u64 x0 6148914691236517205)) 3689348814741910323))) 1085102592571150095) 256) + Int.fdiv (IntKind.wrap .u64 (bitop BinOp.and .u64 (IntKind.wrap .u64 (Int.fdiv (IntKind.wrap .u64 (bitop BinOp.and .u64 (Int.fdiv (IntKind.wrap .u64 (bitop BinOp.and .u64 (Int.fdiv x0 2) 6148914691236517205 + bitop BinOp.and .u64 x0 6148914691236517205)) 4) 3689348814741910323 + bitop BinOp.and .u64 (IntKind.wrap .u64 (bitop BinOp.and .u64 (Int.fdiv x0 2) 6148914691236517205 + bitop BinOp.and .u64 x0 6148914691236517205)) 3689348814741910323)) 16 + IntKind.wrap .u64 (bitop BinOp.and .u64 (Int.fdiv (IntKind.wrap .u64 (bitop BinOp.and .u64 (Int.fdiv x0 2) 6148914691236517205 + bitop BinOp.and .u64 x0 6148914691236517205)) 4) 3689348814741910323 + bitop BinOp.and .u64 (IntKind.wrap .u64 (bitop BinOp.and .u64 (Int.fdiv x0 2) 6148914691236517205 + bitop BinOp.and .u64 x0 6148914691236517205)) 3689348814741910323))) 1085102592571150095 + Int.fdiv (bitop BinOp.and .u64 (IntKind.wrap .u64 (Int.fdiv (IntKind.wrap .u64 (bitop BinOp.and .u64 (Int.fdiv (IntKind.wrap .u64 (bitop BinOp.and .u64 (Int.fdiv x0 2) 6148914691236517205 + bitop BinOp.and .u64 x0 6148914691236517205)) 4) 3689348814741910323 + bitop BinOp.and .u64 (IntKind.wrap .u64 (bitop BinOp.and .u64 (Int.fdiv x0 2) 6148914691236517205 + bitop BinOp.and .u64 x0 6148914691236517205)) 3689348814741910323)) 16 + IntKind.wrap .u64 (bitop BinOp.and .u64 (Int.fdiv (IntKind.wrap .u64 (bitop BinOp.and .u64 (Int.fdiv x0 2) 6148914691236517205 + bitop BinOp.and .u64 x0 6148914691236517205)) 4) 3689348814741910323 + bitop BinOp.and .u64 (IntKind.wrap .u64 (bitop BinOp.and .u64 (Int.fdiv x0 2) 6148914691236517205 + bitop BinOp.and .u64 x0 6148914691236517205)) 3689348814741910323))) 1085102592571150095) 256)) 65536)) 4294967296))) 127)
def set_Count (x0 x1 : Int) : Option (Int) :=
 ob (bits_OnesCount64 x0) fun a2 =>
 ob (bits_OnesCount64 x1) fun a3 =>
 some (IntKind.wrap .i64 (a2 + a3))
def board_Of (x0 x1 : Int) (_x2 _x3 : List Int) (_x4 : Int) (x5 _x6 : List (List Int)) : Option (Int × Int) :=
 ob (piece_Of x0 x1) fun a7 =>
 br (a7 == 0)
 (some (0, 0))
 (br (inB a7 32)
 (some (List.headD (List.take 2 (List.getD x5 (Int.toNat a7) [])) 0, List.headD (List.tail (List.take 2 (List.getD x5 (Int.toNat a7) []))) 0))
 (none))
def bits_TrailingZeros64b (BBB : Bool → Option (Int) → Option (Int) → Option (Int)) (x0 : Int) : Option (Int) :=
 br (x0 == 0)
 (some (64))
 (BBB (inB (Int.fdiv (IntKind.wrap .u64 (bitop BinOp.and .u64 x0 (IntKind.wrap .u64 (0 - x0)) * 285870213051353865)) 288230376151711744) 64)
 (some (conv .u8 .i64 (List.getD [0, 1, 56, 2, 57, 49, 28, 3, 61, 58, 42, 50, 38, 29, 17, 4, 62, 47, 59, 36, 45, 43, 51, 22, 53, 39, 33, 30, 24, 18, 12, 5, 63, 55, 48, 27, 60, 41, 37, 16, 46, 35, 44, 21, 52, 32, 23, 11, 54, 26, 40, 15, 34, 20, 31, 10, 25, 14, 19, 9, 13, 8, 7, 6] (Int.toNat (Int.fdiv (IntKind.wrap .u64 (bitop BinOp.and .u64 x0 (IntKind.wrap .u64 (0 - x0)) * 285870213051353865)) 288230376151711744)) 0)))
 (none))
def bits_TrailingZeros64 (x0 : Int) : Option (Int) := bits_TrailingZeros64b br x0
def set_First (x0 x1 : Int) : Option (Int) :=
 br (x0 != 0)
 (ob (bits_TrailingZeros64 x0) fun a2 =>
 some (a2))
 (br (x1 != 0)
 (ob (bits_TrailingZeros64 x1) fun a2 =>
 some (IntKind.wrap .i64 (63 + a2)))
 (some (-1)))
def board_King (x0 : Int) (x1 x2 : List Int) (x3 : Int) (x4 x5 : List (List Int)) : Option (Int) :=
 ob (board_Of x0 8 x1 x2 x3 x4 x5) fun (a6_0, a6_1) =>
 ob (set_First a6_0 a6_1) fun a8 =>
 some (a8)
def set_Rank (x0 : Int) : Option (Int) :=
 some (Int.tmod x0 9)
def step_Far (x0 x1 : Int) : Option (Int) :=
 br (decide (x1 < 0))
 (some (-1))
 (br (decide (x1 ≥ 81))
 (some (-1))
 (br (x0 == 0)
 (ob (set_Rank x1) fun a2 =>
 some (a2))
 (br (x0 == 1)
 (ob (set_Rank x1) fun a2 =>
 some (IntKind.wrap .i64 (8 - a2)))
 (some (-1)))))
def step_Dead (x0 x1 : Int) : Option (Bool) :=
 ob (piece_Side x0) fun a2 =>
 ob (step_Far a2 x1) fun a3 =>
 ob (piece_Kind x0) fun a4 =>
 br (a4 == 1)
 (some (a3 == 0))
 (br (a4 == 2)
 (some (a3 == 0))
 (br (a4 == 3)
 (br (a3 == 0)
 (some (true))
 (some (a3 == 1)))
 (some (false))))
def set_InFilel3s (rec : Int → Int → Int → Int → Int → Int → Option (Int × Int × Int × Int)) (x0 x1 : Int) (x2 x3 : Int) (x4 x5 : Int) : Option (Int × Int × Int × Int) :=
 br (decide (x1 < 9))
 (ob (set_Square x0 x1) fun a7 =>
 ob (set_With x4 x5 a7) fun (a8_0, a8_1) =>
 rec x0 (IntKind.wrap .i64 (x1 + 1)) x2 x3 a8_0 a8_1)
 (some (x2, x3, x4, x5))
def set_InFilel3 : Nat → Int → Int → Int → Int → Int → Int → Option (Int × Int × Int × Int)
 | 0, _, _, _, _, _, _ => none
 | f + 1, x0, x1, x2, x3, x4, x5 => set_InFilel3s (set_InFilel3 f) x0 x1 x2 x3 x4 x5
def set_InFile (x0 : Int) : Option (Int × Int) :=
 ob (set_InFilel3 many x0 0 0 0 0 0) fun (_, _, a1_2, a1_3) =>
 some (a1_2, a1_3)
def set_And (x0 x1 : Int) (x2 x3 : Int) : Option (Int × Int) :=
 some (bitop BinOp.and .u64 x0 x2, bitop BinOp.and .u64 x1 x3)
def board_Clone (x0 x1 : List Int) (x2 : Int) (x3 x4 : List (List Int)) : Option (List Int × List Int × Int × List (List Int) × List (List Int)) :=
 some (x0, x1, x2, x3, x4)
def board_Pieces (x0 : Int) (_x1 _x2 : List Int) (_x3 : Int) (_x4 x5 : List (List Int)) : Option (Int × Int) :=
 br (x0 != 0)
 (br (x0 != 1)
 (some (0, 0))
 (br (inB x0 2)
 (some (List.headD (List.take 2 (List.getD x5 (Int.toNat x0) [])) 0, List.headD (List.tail (List.take 2 (List.getD x5 (Int.toNat x0) []))) 0))
 (none)))
 (br (inB x0 2)
 (some (List.headD (List.take 2 (List.getD x5 (Int.toNat x0) [])) 0, List.headD (List.tail (List.take 2 (List.getD x5 (Int.toNat x0) []))) 0))
 (none))
def set_Empty (x0 x1 : Int) : Option (Bool) :=
 some (x0 == 0 && x1 == 0)
def set_Has (x0 x1 x2 : Int) : Option (Bool) :=
 ob (set_bit x2) fun (a3_0, a3_1) =>
 ob (set_And x0 x1 a3_0 a3_1) fun (a5_0, a5_1) =>
 ob (set_Empty a5_0 a5_1) fun a7 =>
 some (!a7)
def set_All : Option (Int × Int) :=
 some (9223372036854775807, 262143)
def set_Squaresl2s (rec : Nat → Int → Int → Nat → List Int → Option (Nat × Int × Int × Nat × List Int)) (x0 : Nat) (x1 x2 : Int) (x3 : Nat) (x4 : List Int) : Option (Nat × Int × Int × Nat × List Int) :=
 br (x1 != 0)
 (ob (bits_TrailingZeros64 x1) fun a7 =>
 br (decide ((x0 + 1) * 8 ≤ 140737488355328))
 (rec (x0 + 1) (bitop BinOp.and .u64 x1 (IntKind.wrap .u64 (x1 - 1))) x2 (x0 + 1) (List.append (List.take x0 x4) [a7]))
 (none))
 (some (x0, x1, x2, x3, x4))
def set_Squaresl2 : Nat → Nat → Int → Int → Nat → List Int → Option (Nat × Int × Int × Nat × List Int)
 | 0, _, _, _, _, _ => none
 | f + 1, x0, x1, x2, x3, x4 => set_Squaresl2s (set_Squaresl2 f) x0 x1 x2 x3 x4
def set_Squaresl5s (rec : Nat → Int → Int → Nat → List Int → Option (Nat × Nat × List Int)) (x0 : Nat) (x1 x2 : Int) (x3 : Nat) (x4 : List Int) : Option (Nat × Nat × List Int) :=
 br (x2 != 0)
 (ob (bits_TrailingZeros64 x2) fun a12 =>
 br (decide ((x0 + 1) * 8 ≤ 140737488355328))
 (rec (x0 + 1) x1 (bitop BinOp.and .u64 x2 (IntKind.wrap .u64 (x2 - 1))) (x0 + 1) (List.append (List.take x0 x4) [IntKind.wrap .i64 (63 + a12)]))
 (none))
 (some (x0, x3, x4))
def set_Squaresl5 : Nat → Nat → Int → Int → Nat → List Int → Option (Nat × Nat × List Int)
 | 0, _, _, _, _, _ => none
 | f + 1, x0, x1, x2, x3, x4 => set_Squaresl5s (set_Squaresl5 f) x0 x1 x2 x3 x4
def set_Squares (x0 x1 : Int) : Option (Nat × Nat × List Int) :=
 ob (set_Squaresl2 many 0 x0 x1 0 []) fun (a2_0, a2_1, a2_2, a2_3, a2_4) =>
 ob (set_Squaresl5 many a2_0 a2_1 a2_2 a2_3 a2_4) fun (a7_0, a7_1, a7_2) =>
 some (a7_0, a7_1, a7_2)
def step_Dirss (self : Int → Option (Nat × Nat × List (List Int))) (x0 : Int) : Option (Nat × Nat × List (List Int)) :=
 br (x0 == 1)
 (some (1, 1, [[0, -1]]))
 (br (x0 == 3)
 (some (2, 2, [[-1, -2], [1, -2]]))
 (br (x0 == 4)
 (some (5, 5, [[-1, -1], [0, -1], [1, -1], [-1, 1], [1, 1]]))
 (br (x0 == 5)
 (some (6, 6, [[-1, -1], [0, -1], [1, -1], [-1, 0], [1, 0], [0, 1]]))
 (br (x0 == 9)
 (some (6, 6, [[-1, -1], [0, -1], [1, -1], [-1, 0], [1, 0], [0, 1]]))
 (br (x0 == 10)
 (some (6, 6, [[-1, -1], [0, -1], [1, -1], [-1, 0], [1, 0], [0, 1]]))
 (br (x0 == 11)
 (some (6, 6, [[-1, -1], [0, -1], [1, -1], [-1, 0], [1, 0], [0, 1]]))
 (br (x0 == 12)
 (some (6, 6, [[-1, -1], [0, -1], [1, -1], [-1, 0], [1, 0], [0, 1]]))
 (br (x0 == 8)
 (ob (self 5) fun (a1_0, _, a1_2) =>
 br (decide ((a1_0 + 2) * 16 ≤ 140737488355328))
 (some (a1_0 + 2, a1_0 + 2, List.append (List.take a1_0 a1_2) [[-1, 1], [1, 1]]))
 (none))
 (br (x0 == 14)
 (some (4, 4, [[0, -1], [-1, 0], [1, 0], [0, 1]]))
 (br (x0 == 15)
 (some (4, 4, [[-1, -1], [1, -1], [-1, 1], [1, 1]]))
 (some (0, 0, []))))))))))))
def step_Dirs : Nat → Int → Option (Nat × Nat × List (List Int))
 | 0, _ => none
 | f + 1, x0 => step_Dirss (step_Dirs f) x0
def step_Dir_Turn (x0 x1 x2 : Int) : Option (Int × Int) :=
 br (x2 == 1)
 (some (IntKind.wrap .i64 (0 - x0), IntKind.wrap .i64 (0 - x1)))
 (some (x0, x1))
def set_File (x0 : Int) : Option (Int) :=
 some (IntKind.wrap .i64 (Int.tdiv x0 9))
def step_Dir_From (x0 x1 x2 : Int) : Option (Int) :=
 br (decide (x2 < 0))
 (some (-1))
 (br (decide (x2 ≥ 81))
 (some (-1))
 (br (decide (x0 < -8))
 (some (-1))
 (br (decide (x0 > 8))
 (some (-1))
 (br (decide (x1 < -8))
 (some (-1))
 (br (decide (x1 > 8))
 (some (-1))
 (ob (set_File x2) fun a3 =>
 ob (set_Rank x2) fun a4 =>
 ob (set_Square (IntKind.wrap .i64 (a3 + x0)) (IntKind.wrap .i64 (a4 + x1))) fun a5 =>
 some (a5)))))))
def step_Ofl3s (rec : Int → Int → Nat → Int → Int → Int → Int → Int → Int → Nat → List (List Int) → Option (Int × Int × Int × Int)) (x0 x1 : Int) (x2 : Nat) (x3 x4 : Int) (x5 x6 : Int) (x7 x8 : Int) (x9 : Nat) (x10 : List (List Int)) : Option (Int × Int × Int × Int) :=
 br (decide (x4 < x3))
 (br (inB x4 x2)
 (ob (piece_Side x0) fun a17 =>
 ob (step_Dir_Turn (List.headD (List.take 2 (List.getD x10 (Int.toNat x4) [])) 0) (List.headD (List.tail (List.take 2 (List.getD x10 (Int.toNat x4) []))) 0) a17) fun (a18_0, a18_1) =>
 ob (step_Dir_From a18_0 a18_1 x1) fun a20 =>
 ob (set_With x7 x8 a20) fun (a21_0, a21_1) =>
 rec x0 x1 x2 x3 (IntKind.wrap .i64 (x4 + 1)) x5 x6 a21_0 a21_1 x9 x10)
 (none))
 (some (x5, x6, x7, x8))
def step_Ofl3 : Nat → Int → Int → Nat → Int → Int → Int → Int → Int → Int → Nat → List (List Int) → Option (Int × Int × Int × Int)
 | 0, _, _, _, _, _, _, _, _, _, _, _ => none
 | f + 1, x0, x1, x2, x3, x4, x5, x6, x7, x8, x9, x10 => step_Ofl3s (step_Ofl3 f) x0 x1 x2 x3 x4 x5 x6 x7 x8 x9 x10
def step_Of (x0 x1 : Int) : Option (Int × Int) :=
 ob (piece_Kind x0) fun a2 =>
 ob (step_Dirs many a2) fun (a3_0, a3_1, a3_2) =>
 ob (step_Ofl3 many x0 x1 a3_0 (Int.ofNat a3_0) 0 0 0 0 0 a3_1 a3_2) fun (_, _, a6_2, a6_3) =>
 some (a6_2, a6_3)
def ray_Dirs (x0 : Int) : Option (Nat × Nat × List (List Int)) :=
 br (x0 == 2)
 (some (1, 1, [[0, -1]]))
 (br (x0 == 6)
 (some (4, 4, [[-1, -1], [1, -1], [-1, 1], [1, 1]]))
 (br (x0 == 14)
 (some (4, 4, [[-1, -1], [1, -1], [-1, 1], [1, 1]]))
 (br (x0 == 7)
 (some (4, 4, [[0, -1], [-1, 0], [1, 0], [0, 1]]))
 (br (x0 == 15)
 (some (4, 4, [[0, -1], [-1, 0], [1, 0], [0, 1]]))
 (some (0, 0, []))))))
def ray_Wayl5s (rec : Int → Int → Int → Int → Int → Int → Int → Int → Int → Option (Int × Int × Int × Int)) (x0 x1 : Int) (x2 x3 : Int) (x4 x5 : Int) (x6 x7 x8 : Int) : Option (Int × Int × Int × Int) :=
 br (decide (x0 ≥ 0))
 (ob (set_With x7 x8 x0) fun (a15_0, a15_1) =>
 ob (set_Has x3 x4 x0) fun a17 =>
 br (a17)
 (some (x5, x6, a15_0, a15_1))
 (ob (step_Dir_From x1 x2 x0) fun a18 =>
 rec a18 x1 x2 x3 x4 x5 x6 a15_0 a15_1))
 (some (x5, x6, x7, x8))
def ray_Wayl5 : Nat → Int → Int → Int → Int → Int → Int → Int → Int → Int → Option (Int × Int × Int × Int)
 | 0, _, _, _, _, _, _, _, _, _ => none
 | f + 1, x0, x1, x2, x3, x4, x5, x6, x7, x8 => ray_Wayl5s (ray_Wayl5 f) x0 x1 x2 x3 x4 x5 x6 x7 x8
def ray_Way (x0 x1 : Int) (x2 x3 x4 : Int) : Option (Int × Int) :=
 br (x1 == 0 && x2 == 0)
 (some (0, 0))
 (ob (step_Dir_From x1 x2 x0) fun a5 =>
 ob (ray_Wayl5 many a5 x1 x2 x3 x4 0 0 0 0) fun (_, _, a6_2, a6_3) =>
 some (a6_2, a6_3))
def ray_Ofl3s (rec : Int → Int → Nat → Int → Int → Int → Int → Int → Int → Int → Int → Nat → List (List Int) → Option (Int × Int × Int × Int)) (x0 x1 : Int) (x2 : Nat) (x3 x4 : Int) (x5 x6 : Int) (x7 x8 : Int) (x9 x10 : Int) (x11 : Nat) (x12 : List (List Int)) : Option (Int × Int × Int × Int) :=
 br (decide (x4 < x3))
 (br (inB x4 x2)
 (ob (piece_Side x0) fun a23 =>
 ob (step_Dir_Turn (List.headD (List.take 2 (List.getD x12 (Int.toNat x4) [])) 0) (List.headD (List.tail (List.take 2 (List.getD x12 (Int.toNat x4) []))) 0) a23) fun (a24_0, a24_1) =>
 ob (ray_Way x1 a24_0 a24_1 x5 x6) fun (a26_0, a26_1) =>
 ob (set_Or x9 x10 a26_0 a26_1) fun (a28_0, a28_1) =>
 rec x0 x1 x2 x3 (IntKind.wrap .i64 (x4 + 1)) x5 x6 x7 x8 a28_0 a28_1 x11 x12)
 (none))
 (some (x7, x8, x9, x10))
def ray_Ofl3 : Nat → Int → Int → Nat → Int → Int → Int → Int → Int → Int → Int → Int → Nat → List (List Int) → Option (Int × Int × Int × Int)
 | 0, _, _, _, _, _, _, _, _, _, _, _, _, _ => none
 | f + 1, x0, x1, x2, x3, x4, x5, x6, x7, x8, x9, x10, x11, x12 => ray_Ofl3s (ray_Ofl3 f) x0 x1 x2 x3 x4 x5 x6 x7 x8 x9 x10 x11 x12
def ray_Of (x0 x1 : Int) (x2 x3 : Int) : Option (Int × Int) :=
 ob (step_Of x0 x1) fun (a4_0, a4_1) =>
 ob (piece_Kind x0) fun a6 =>
 ob (ray_Dirs a6) fun (a7_0, a7_1, a7_2) =>
 ob (ray_Ofl3 many x0 x1 a7_0 (Int.ofNat a7_0) 0 x2 x3 0 0 a4_0 a4_1 a7_1 a7_2) fun (_, _, a10_2, a10_3) =>
 some (a10_2, a10_3)
def step_Zonel3s (rec : Int → Int → Int → Int → Int → Int → Option (Int × Int × Int × Int)) (x0 x1 : Int) (x2 x3 : Int) (x4 x5 : Int) : Option (Int × Int × Int × Int) :=
 br (decide (x1 < 81))
 (ob (step_Far x0 x1) fun a7 =>
 br (decide (a7 ≥ 0))
 (br (decide (a7 ≤ 2))
 (ob (set_With x4 x5 x1) fun (a8_0, a8_1) =>
 rec x0 (IntKind.wrap .i64 (x1 + 1)) x2 x3 a8_0 a8_1)
 (rec x0 (IntKind.wrap .i64 (x1 + 1)) x2 x3 x4 x5))
 (rec x0 (IntKind.wrap .i64 (x1 + 1)) x2 x3 x4 x5))
 (some (x2, x3, x4, x5))
def step_Zonel3 : Nat → Int → Int → Int → Int → Int → Int → Option (Int × Int × Int × Int)
 | 0, _, _, _, _, _, _ => none
 | f + 1, x0, x1, x2, x3, x4, x5 => step_Zonel3s (step_Zonel3 f) x0 x1 x2 x3 x4 x5
def step_Zone (x0 : Int) : Option (Int × Int) :=
 ob (step_Zonel3 many x0 0 0 0 0 0) fun (_, _, a1_2, a1_3) =>
 some (a1_2, a1_3)
def gen_Promotes (x0 x1 x2 : Int) : Option (Bool × Bool) :=
 ob (piece_Kind x0) fun a3 =>
 ob (piece_Up a3) fun a4 =>
 br (a4 == 0)
 (some (false, false))
 (ob (piece_Side x0) fun a5 =>
 ob (step_Zone a5) fun (a6_0, a6_1) =>
 ob (set_Has a6_0 a6_1 x1) fun a8 =>
 br (a8)
 (ob (step_Dead x0 x2) fun a9 =>
 some (true, a9))
 (ob (set_Has a6_0 a6_1 x2) fun a9 =>
 ob (step_Dead x0 x2) fun a10 =>
 some (a9, a10)))
def gen_Boardl9s (rec : Nat → Int → Int → Int → Nat → Int → Int → Nat → Int → Int → List Int → List Int → Int → List (List Int) → List (List Int) → Int → Int → Nat → List (List Int) → Int → Int → Nat → List Int → Nat → List Int → Option (Nat × Int × Nat × Int × Int × List Int × List Int × Int × List (List Int) × List (List Int) × Int × Int × Nat × List (List Int) × Int × Int × Nat × List Int)) (x0 : Nat) (x1 x2 x3 : Int) (x4 : Nat) (x5 x6 : Int) (x7 : Nat) (x8 x9 : Int) (x10 x11 : List Int) (x12 : Int) (x13 x14 : List (List Int)) (x15 x16 : Int) (x17 : Nat) (x18 : List (List Int)) (x19 x20 : Int) (x21 : Nat) (x22 : List Int) (x23 : Nat) (x24 : List Int) : Option (Nat × Int × Nat × Int × Int × List Int × List Int × Int × List (List Int) × List (List Int) × Int × Int × Nat × List (List Int) × Int × Int × Nat × List Int) :=
 br (decide (x9 < x8))
 (br (inB x9 x7)
 (ob (gen_Promotes x3 x2 (List.getD x24 (Int.toNat x9) 0)) fun (a77_0, a77_1) =>
 br (!a77_1)
 (br (decide ((x0 + 1) * 32 ≤ 140737488355328))
 (br (a77_0)
 (br (decide ((x0 + 1 + 1) * 32 ≤ 140737488355328))
 (rec (x0 + 1 + 1) x1 x2 x3 x4 x5 x6 x7 x8 (IntKind.wrap .i64 (x9 + 1)) x10 x11 x12 x13 x14 x15 x16 (x0 + 1 + 1) (List.append (List.take (x0 + 1) (List.append (List.take x0 x18) [[x2, List.getD x24 (Int.toNat x9) 0, 0, 0]])) [[x2, List.getD x24 (Int.toNat x9) 0, 0, 1]]) x19 x20 x21 x22 x23 x24)
 (none))
 (rec (x0 + 1) x1 x2 x3 x4 x5 x6 x7 x8 (IntKind.wrap .i64 (x9 + 1)) x10 x11 x12 x13 x14 x15 x16 (x0 + 1) (List.append (List.take x0 x18) [[x2, List.getD x24 (Int.toNat x9) 0, 0, 0]]) x19 x20 x21 x22 x23 x24))
 (none))
 (br (a77_0)
 (br (decide ((x0 + 1) * 32 ≤ 140737488355328))
 (rec (x0 + 1) x1 x2 x3 x4 x5 x6 x7 x8 (IntKind.wrap .i64 (x9 + 1)) x10 x11 x12 x13 x14 x15 x16 (x0 + 1) (List.append (List.take x0 x18) [[x2, List.getD x24 (Int.toNat x9) 0, 0, 1]]) x19 x20 x21 x22 x23 x24)
 (none))
 (rec x0 x1 x2 x3 x4 x5 x6 x7 x8 (IntKind.wrap .i64 (x9 + 1)) x10 x11 x12 x13 x14 x15 x16 x17 x18 x19 x20 x21 x22 x23 x24)))
 (none))
 (some (x0, x1, x4, x5, x6, x10, x11, x12, x13, x14, x15, x16, x17, x18, x19, x20, x21, x22))
def gen_Boardl9 : Nat → Nat → Int → Int → Int → Nat → Int → Int → Nat → Int → Int → List Int → List Int → Int → List (List Int) → List (List Int) → Int → Int → Nat → List (List Int) → Int → Int → Nat → List Int → Nat → List Int → Option (Nat × Int × Nat × Int × Int × List Int × List Int × Int × List (List Int) × List (List Int) × Int × Int × Nat × List (List Int) × Int × Int × Nat × List Int)
 | 0, _, _, _, _, _, _, _, _, _, _, _, _, _, _, _, _, _, _, _, _, _, _, _, _, _ => none
 | f + 1, x0, x1, x2, x3, x4, x5, x6, x7, x8, x9, x10, x11, x12, x13, x14, x15, x16, x17, x18, x19, x20, x21, x22, x23, x24 => gen_Boardl9s (gen_Boardl9 f) x0 x1 x2 x3 x4 x5 x6 x7 x8 x9 x10 x11 x12 x13 x14 x15 x16 x17 x18 x19 x20 x21 x22 x23 x24
def gen_Boardl5s (rec : Nat → Int → Nat → Int → Int → List Int → List Int → Int → List (List Int) → List (List Int) → Int → Int → Nat → List (List Int) → Int → Int → Nat → List Int → Option (Nat × List Int × List Int × Int × List (List Int) × List (List Int) × Nat × List (List Int))) (x0 : Nat) (x1 : Int) (x2 : Nat) (x3 x4 : Int) (x5 x6 : List Int) (x7 : Int) (x8 x9 : List (List Int)) (x10 x11 : Int) (x12 : Nat) (x13 : List (List Int)) (x14 x15 : Int) (x16 : Nat) (x17 : List Int) : Option (Nat × List Int × List Int × Int × List (List Int) × List (List Int) × Nat × List (List Int)) :=
 br (decide (x4 < x3))
 (br (inB x4 x2)
 (ob (board_At (List.getD x17 (Int.toNat x4) 0) x5 x6 x7 x8 x9) fun a36 =>
 ob (board_Taken x5 x6 x7 x8 x9) fun (a37_0, a37_1) =>
 ob (ray_Of a36 (List.getD x17 (Int.toNat x4) 0) a37_0 a37_1) fun (a39_0, a39_1) =>
 ob (board_Pieces x1 x5 x6 x7 x8 x9) fun (a41_0, a41_1) =>
 ob (set_Minus a39_0 a39_1 a41_0 a41_1) fun (a43_0, a43_1) =>
 ob (set_Minus a43_0 a43_1 x14 x15) fun (a45_0, a45_1) =>
 ob (set_And a45_0 a45_1 x10 x11) fun (a47_0, a47_1) =>
 ob (set_Squares a47_0 a47_1) fun (a49_0, a49_1, a49_2) =>
 ob (gen_Boardl9 many x0 x1 (List.getD x17 (Int.toNat x4) 0) a36 x2 x3 x4 a49_0 (Int.ofNat a49_0) 0 x5 x6 x7 x8 x9 x10 x11 x12 x13 x14 x15 x16 x17 a49_1 a49_2) fun (a52_0, a52_1, a52_2, a52_3, a52_4, a52_5, a52_6, a52_7, a52_8, a52_9, a52_10, a52_11, a52_12, a52_13, a52_14, a52_15, a52_16, a52_17) =>
 rec a52_0 a52_1 a52_2 a52_3 (IntKind.wrap .i64 (a52_4 + 1)) a52_5 a52_6 a52_7 a52_8 a52_9 a52_10 a52_11 a52_12 a52_13 a52_14 a52_15 a52_16 a52_17)
 (none))
 (some (x0, x5, x6, x7, x8, x9, x12, x13))
def gen_Boardl5 : Nat → Nat → Int → Nat → Int → Int → List Int → List Int → Int → List (List Int) → List (List Int) → Int → Int → Nat → List (List Int) → Int → Int → Nat → List Int → Option (Nat × List Int × List Int × Int × List (List Int) × List (List Int) × Nat × List (List Int))
 | 0, _, _, _, _, _, _, _, _, _, _, _, _, _, _, _, _, _, _ => none
 | f + 1, x0, x1, x2, x3, x4, x5, x6, x7, x8, x9, x10, x11, x12, x13, x14, x15, x16, x17 => gen_Boardl5s (gen_Boardl5 f) x0 x1 x2 x3 x4 x5 x6 x7 x8 x9 x10 x11 x12 x13 x14 x15 x16 x17
def gen_Board (x0 x1 : Int) (x2 x3 : List Int) (x4 : Int) (x5 x6 : List (List Int)) : Option (Nat × Nat × List (List Int)) :=
 ob (board_Of 0 8 x2 x3 x4 x5 x6) fun (a7_0, a7_1) =>
 ob (board_Of 1 8 x2 x3 x4 x5 x6) fun (a9_0, a9_1) =>
 ob (set_Or a7_0 a7_1 a9_0 a9_1) fun (a11_0, a11_1) =>
 ob (board_Pieces x4 x2 x3 x4 x5 x6) fun (a13_0, a13_1) =>
 ob (set_Squares a13_0 a13_1) fun (a15_0, a15_1, a15_2) =>
 ob (gen_Boardl5 many 0 x4 a15_0 (Int.ofNat a15_0) 0 x2 x3 x4 x5 x6 x0 x1 0 [] a11_0 a11_1 a15_1 a15_2) fun (a18_0, _, _, _, _, _, a18_6, a18_7) =>
 some (a18_0, a18_6, a18_7)
def set_Not (x0 x1 : Int) : Option (Int × Int) :=
 ob (set_All ) fun (a2_0, a2_1) =>
 ob (set_Minus a2_0 a2_1 x0 x1) fun (a4_0, a4_1) =>
 some (a4_0, a4_1)
def gen_Freel6s (rec : Int → Int → Int → Nat → Int → Int → List Int → List Int → Int → List (List Int) → List (List Int) → Int → Int → Int → Int → Nat → List Int → Option (List Int × List Int × Int × List (List Int) × List (List Int) × Int × Int × Int × Int)) (x0 x1 x2 : Int) (x3 : Nat) (x4 x5 : Int) (x6 x7 : List Int) (x8 : Int) (x9 x10 : List (List Int)) (x11 x12 : Int) (x13 x14 : Int) (x15 : Nat) (x16 : List Int) : Option (List Int × List Int × Int × List (List Int) × List (List Int) × Int × Int × Int × Int) :=
 br (decide (x5 < x4))
 (br (inB x5 x3)
 (ob (step_Dead x2 (List.getD x16 (Int.toNat x5) 0)) fun a32 =>
 br (a32)
 (rec x0 x1 x2 x3 x4 (IntKind.wrap .i64 (x5 + 1)) x6 x7 x8 x9 x10 x11 x12 x13 x14 x15 x16)
 (br (x1 == 1)
 (ob (board_Of x0 1 x6 x7 x8 x9 x10) fun (a33_0, a33_1) =>
 ob (set_File (List.getD x16 (Int.toNat x5) 0)) fun a35 =>
 ob (set_InFile a35) fun (a36_0, a36_1) =>
 ob (set_And a33_0 a33_1 a36_0 a36_1) fun (a38_0, a38_1) =>
 ob (set_Empty a38_0 a38_1) fun a40 =>
 br (!a40)
 (rec x0 x1 x2 x3 x4 (IntKind.wrap .i64 (x5 + 1)) x6 x7 x8 x9 x10 x11 x12 x13 x14 x15 x16)
 (ob (set_With x13 x14 (List.getD x16 (Int.toNat x5) 0)) fun (a41_0, a41_1) =>
 rec x0 x1 x2 x3 x4 (IntKind.wrap .i64 (x5 + 1)) x6 x7 x8 x9 x10 x11 x12 a41_0 a41_1 x15 x16))
 (ob (set_With x13 x14 (List.getD x16 (Int.toNat x5) 0)) fun (a33_0, a33_1) =>
 rec x0 x1 x2 x3 x4 (IntKind.wrap .i64 (x5 + 1)) x6 x7 x8 x9 x10 x11 x12 a33_0 a33_1 x15 x16)))
 (none))
 (some (x6, x7, x8, x9, x10, x11, x12, x13, x14))
def gen_Freel6 : Nat → Int → Int → Int → Nat → Int → Int → List Int → List Int → Int → List (List Int) → List (List Int) → Int → Int → Int → Int → Nat → List Int → Option (List Int × List Int × Int × List (List Int) × List (List Int) × Int × Int × Int × Int)
 | 0, _, _, _, _, _, _, _, _, _, _, _, _, _, _, _, _, _ => none
 | f + 1, x0, x1, x2, x3, x4, x5, x6, x7, x8, x9, x10, x11, x12, x13, x14, x15, x16 => gen_Freel6s (gen_Freel6 f) x0 x1 x2 x3 x4 x5 x6 x7 x8 x9 x10 x11 x12 x13 x14 x15 x16
def gen_Free (x0 x1 : Int) (x2 x3 : List Int) (x4 : Int) (x5 x6 : List (List Int)) : Option (Int × Int) :=
 ob (piece_Of x0 x1) fun a7 =>
 br (a7 == 0)
 (some (0, 0))
 (br (decide (x1 ≥ 8))
 (some (0, 0))
 (ob (board_Taken x2 x3 x4 x5 x6) fun (a8_0, a8_1) =>
 ob (set_Not a8_0 a8_1) fun (a10_0, a10_1) =>
 ob (set_Squares a10_0 a10_1) fun (a12_0, a12_1, a12_2) =>
 ob (gen_Freel6 many x0 x1 a7 a12_0 (Int.ofNat a12_0) 0 x2 x3 x4 x5 x6 0 0 0 0 a12_1 a12_2) fun (_, _, _, _, _, _, _, a15_7, a15_8) =>
 some (a15_7, a15_8)))
def gen_Dropsl8s (rec : Nat → Int → Int → Nat → Int → Int → List Int → List Int → Int → List (List Int) → List (List Int) → Int → Int → Nat → List (List Int) → Nat → List Int → Option (Nat × Int × Int × List Int × List Int × Int × List (List Int) × List (List Int) × Int × Int × Nat × List (List Int))) (x0 : Nat) (x1 x2 : Int) (x3 : Nat) (x4 x5 : Int) (x6 x7 : List Int) (x8 : Int) (x9 x10 : List (List Int)) (x11 x12 : Int) (x13 : Nat) (x14 : List (List Int)) (x15 : Nat) (x16 : List Int) : Option (Nat × Int × Int × List Int × List Int × Int × List (List Int) × List (List Int) × Int × Int × Nat × List (List Int)) :=
 br (decide (x5 < x4))
 (br (inB x5 x3)
 (br (decide ((x0 + 1) * 32 ≤ 140737488355328))
 (rec (x0 + 1) x1 x2 x3 x4 (IntKind.wrap .i64 (x5 + 1)) x6 x7 x8 x9 x10 x11 x12 (x0 + 1) (List.append (List.take x0 x14) [[0, List.getD x16 (Int.toNat x5) 0, x2, 0]]) x15 x16)
 (none))
 (none))
 (some (x0, x1, x2, x6, x7, x8, x9, x10, x11, x12, x13, x14))
def gen_Dropsl8 : Nat → Nat → Int → Int → Nat → Int → Int → List Int → List Int → Int → List (List Int) → List (List Int) → Int → Int → Nat → List (List Int) → Nat → List Int → Option (Nat × Int × Int × List Int × List Int × Int × List (List Int) × List (List Int) × Int × Int × Nat × List (List Int))
 | 0, _, _, _, _, _, _, _, _, _, _, _, _, _, _, _, _, _ => none
 | f + 1, x0, x1, x2, x3, x4, x5, x6, x7, x8, x9, x10, x11, x12, x13, x14, x15, x16 => gen_Dropsl8s (gen_Dropsl8 f) x0 x1 x2 x3 x4 x5 x6 x7 x8 x9 x10 x11 x12 x13 x14 x15 x16
def gen_Dropsl4s (rec : Nat → Int → Int → List Int → List Int → Int → List (List Int) → List (List Int) → Int → Int → Nat → List (List Int) → Option (Nat × List Int × List Int × Int × List (List Int) × List (List Int) × Nat × List (List Int))) (x0 : Nat) (x1 x2 : Int) (x3 x4 : List Int) (x5 : Int) (x6 x7 : List (List Int)) (x8 x9 : Int) (x10 : Nat) (x11 : List (List Int)) : Option (Nat × List Int × List Int × Int × List (List Int) × List (List Int) × Nat × List (List Int)) :=
 br (decide (x2 < 8))
 (ob (board_Hand x1 x2 x3 x4 x5 x6 x7) fun a19 =>
 br (decide (a19 < 1))
 (rec x0 x1 (IntKind.wrap .i64 (x2 + 1)) x3 x4 x5 x6 x7 x8 x9 x10 x11)
 (ob (gen_Free x1 x2 x3 x4 x5 x6 x7) fun (a20_0, a20_1) =>
 ob (set_And a20_0 a20_1 x8 x9) fun (a22_0, a22_1) =>
 ob (set_Squares a22_0 a22_1) fun (a24_0, a24_1, a24_2) =>
 ob (gen_Dropsl8 many x0 x1 x2 a24_0 (Int.ofNat a24_0) 0 x3 x4 x5 x6 x7 x8 x9 x10 x11 a24_1 a24_2) fun (a27_0, a27_1, a27_2, a27_3, a27_4, a27_5, a27_6, a27_7, a27_8, a27_9, a27_10, a27_11) =>
 rec a27_0 a27_1 (IntKind.wrap .i64 (a27_2 + 1)) a27_3 a27_4 a27_5 a27_6 a27_7 a27_8 a27_9 a27_10 a27_11))
 (some (x0, x3, x4, x5, x6, x7, x10, x11))
def gen_Dropsl4 : Nat → Nat → Int → Int → List Int → List Int → Int → List (List Int) → List (List Int) → Int → Int → Nat → List (List Int) → Option (Nat × List Int × List Int × Int × List (List Int) × List (List Int) × Nat × List (List Int))
 | 0, _, _, _, _, _, _, _, _, _, _, _, _ => none
 | f + 1, x0, x1, x2, x3, x4, x5, x6, x7, x8, x9, x10, x11 => gen_Dropsl4s (gen_Dropsl4 f) x0 x1 x2 x3 x4 x5 x6 x7 x8 x9 x10 x11
def gen_Drops (x0 x1 : Int) (x2 x3 : List Int) (x4 : Int) (x5 x6 : List (List Int)) : Option (Nat × Nat × List (List Int)) :=
 ob (gen_Dropsl4 many 0 x4 1 x2 x3 x4 x5 x6 x0 x1 0 []) fun (a7_0, _, _, _, _, _, a7_6, a7_7) =>
 some (a7_0, a7_6, a7_7)
def ref02_Up (x0 : Int) : Option (Int) :=
 br (decide (x0 ≥ 1))
 (br (decide (x0 ≤ 7))
 (br (x0 != 5)
 (some (IntKind.wrap .i64 (x0 + 8)))
 (some (0)))
 (some (0)))
 (some (0))
def ref10_May (x0 x1 x2 : Int) : Option (Bool) :=
 ob (ref02_Kind x0) fun a3 =>
 ob (ref02_Up a3) fun a4 =>
 br (a4 == 0)
 (some (false))
 (ob (ref02_Side x0) fun a5 =>
 ob (ref03_Far a5 x1) fun a6 =>
 ob (ref02_Side x0) fun a7 =>
 ob (ref03_Far a7 x2) fun a8 =>
 br (decide (a6 ≥ 0))
 (br (decide (a6 ≤ 2))
 (some (true))
 (br (decide (a8 ≥ 0))
 (some (decide (a8 ≤ 2)))
 (some (false))))
 (br (decide (a8 ≥ 0))
 (some (decide (a8 ≤ 2)))
 (some (false))))
def ref10_Must (x0 x1 : Int) : Option (Bool) :=
 ob (ref02_Kind x0) fun a2 =>
 ob (ref02_Up a2) fun a3 =>
 br (a3 != 0)
 (ob (ref03_Dead x0 x1) fun a4 =>
 some (a4))
 (some (false))
def ref07_Check (x0 x1 x2 : Int) (x3 : Bool) : Option (Int) :=
 br (decide (x1 < 0))
 (some (1))
 (br (decide (x1 > 80))
 (some (1))
 (br (x2 != 0)
 (br (decide (x2 < 1))
 (some (70))
 (br (decide (x2 > 7))
 (some (70))
 (br (x0 != 0)
 (some (70))
 (br (x3)
 (some (70))
 (some (0))))))
 (br (decide (x0 < 0))
 (some (1))
 (br (decide (x0 > 80))
 (some (1))
 (br (x0 == x1)
 (some (70))
 (some (0)))))))
def ref09_Can (x0 x1 : List Int) (x2 x3 : Int) (x4 x5 : Int) (x6 : Bool) : Option (Bool) :=
 ob (ref07_Check x3 x4 x5 x6) fun a7 =>
 br (a7 != 0)
 (some (false))
 (br (x2 != 0)
 (br (x2 != 1)
 (some (false))
 (br (inB x4 81)
 (br (x5 != 0)
 (br (inB x2 2)
 (br (inB x5 8)
 (br (decide (List.getD x1 (Int.toNat x2 * 8 + Int.toNat x5) 0 > 0))
 (some (conv .i8 .i64 (List.getD x0 (Int.toNat x4) 0) == 0))
 (some (false)))
 (none))
 (none))
 (br (inB x3 81)
 (ob (ref02_Side (conv .i8 .i64 (List.getD x0 (Int.toNat x3) 0))) fun a8 =>
 br (a8 != x2)
 (some (false))
 (ob (ref02_Side (conv .i8 .i64 (List.getD x0 (Int.toNat x4) 0))) fun a9 =>
 br (a9 == x2)
 (some (false))
 (ob (ref02_Kind (conv .i8 .i64 (List.getD x0 (Int.toNat x4) 0))) fun a10 =>
 br (a10 == 8)
 (some (false))
 (br (!x6)
 (some (true))
 (ob (ref02_Kind (conv .i8 .i64 (List.getD x0 (Int.toNat x3) 0))) fun a11 =>
 ob (ref02_Up a11) fun a12 =>
 some (a12 != 0))))))
 (none)))
 (none)))
 (br (inB x4 81)
 (br (x5 != 0)
 (br (inB x2 2)
 (br (inB x5 8)
 (br (decide (List.getD x1 (Int.toNat x2 * 8 + Int.toNat x5) 0 > 0))
 (some (conv .i8 .i64 (List.getD x0 (Int.toNat x4) 0) == 0))
 (some (false)))
 (none))
 (none))
 (br (inB x3 81)
 (ob (ref02_Side (conv .i8 .i64 (List.getD x0 (Int.toNat x3) 0))) fun a8 =>
 br (a8 != x2)
 (some (false))
 (ob (ref02_Side (conv .i8 .i64 (List.getD x0 (Int.toNat x4) 0))) fun a9 =>
 br (a9 == x2)
 (some (false))
 (ob (ref02_Kind (conv .i8 .i64 (List.getD x0 (Int.toNat x4) 0))) fun a10 =>
 br (a10 == 8)
 (some (false))
 (br (!x6)
 (some (true))
 (ob (ref02_Kind (conv .i8 .i64 (List.getD x0 (Int.toNat x3) 0))) fun a11 =>
 ob (ref02_Up a11) fun a12 =>
 some (a12 != 0))))))
 (none)))
 (none)))
def ref05_Takenl3s (rec : Int → List Int → List Int → Int → List Bool → List Bool → Option (List Bool × List Bool)) (x0 : Int) (x1 x2 : List Int) (x3 : Int) (x4 x5 : List Bool) : Option (List Bool × List Bool) :=
 br (decide (x0 < 81))
 (br (inB x0 81)
 (br (inB x0 81)
 (rec (IntKind.wrap .i64 (x0 + 1)) x1 x2 x3 x4 (List.set x5 (Int.toNat x0) (List.getD x1 (Int.toNat x0) 0 != 0)))
 (none))
 (none))
 (some (x4, x5))
def ref05_Takenl3 : Nat → Int → List Int → List Int → Int → List Bool → List Bool → Option (List Bool × List Bool)
 | 0, _, _, _, _, _, _ => none
 | f + 1, x0, x1, x2, x3, x4, x5 => ref05_Takenl3s (ref05_Takenl3 f) x0 x1 x2 x3 x4 x5
def ref05_Taken (x0 x1 : List Int) (x2 : Int) : Option (List Bool) :=
 ob (ref05_Takenl3 many 0 x0 x1 x2 ([false, false, false, false, false, false, false, false, false, false, false, false, false, false, false, false, false, false, false, false, false, false, false, false, false, false, false, false, false, false, false, false, false, false, false, false, false, false, false, false, false, false, false, false, false, false, false, false, false, false, false, false, false, false, false, false, false, false, false, false, false, false, false, false, false, false, false, false, false, false, false, false, false, false, false, false, false, false, false, false, false]) ([false, false, false, false, false, false, false, false, false, false, false, false, false, false, false, false, false, false, false, false, false, false, false, false, false, false, false, false, false, false, false, false, false, false, false, false, false, false, false, false, false, false, false, false, false, false, false, false, false, false, false, false, false, false, false, false, false, false, false, false, false, false, false, false, false, false, false, false, false, false, false, false, false, false, false, false, false, false, false, false, false])) fun (_, a3_1) =>
 some (a3_1)
def ref03_size (x0 : Int) : Option (Int) :=
 br (decide (x0 < 0))
 (some (IntKind.wrap .i64 (0 - x0)))
 (some (x0))
def ref03_Step (x0 x1 x2 : Int) : Option (Bool) :=
 br (decide (x1 < 0))
 (some (false))
 (br (decide (x1 > 80))
 (some (false))
 (br (decide (x2 < 0))
 (some (false))
 (br (decide (x2 > 80))
 (some (false))
 (br (x1 == x2)
 (some (false))
 (ob (ref03_size (IntKind.wrap .i64 (IntKind.wrap .i64 (Int.tdiv x2 9) - IntKind.wrap .i64 (Int.tdiv x1 9)))) fun a3 =>
 ob (ref02_Side x0) fun a4 =>
 br (a4 == 1)
 (br (decide (a3 ≤ 1))
 (ob (ref03_size (IntKind.wrap .i64 (0 - IntKind.wrap .i64 (Int.tmod x1 9 - Int.tmod x2 9)))) fun a5 =>
 ob (ref02_Kind x0) fun a6 =>
 br (a6 == 1)
 (br (a3 == 0)
 (some (IntKind.wrap .i64 (0 - IntKind.wrap .i64 (Int.tmod x1 9 - Int.tmod x2 9)) == 1))
 (some (false)))
 (br (a6 == 3)
 (br (a3 == 1)
 (some (IntKind.wrap .i64 (0 - IntKind.wrap .i64 (Int.tmod x1 9 - Int.tmod x2 9)) == 2))
 (some (false)))
 (br (a6 == 4)
 (br (decide (a5 ≤ 1))
 (br (IntKind.wrap .i64 (0 - IntKind.wrap .i64 (Int.tmod x1 9 - Int.tmod x2 9)) == 1)
 (some (true))
 (br (a3 == 1)
 (some (IntKind.wrap .i64 (0 - IntKind.wrap .i64 (Int.tmod x1 9 - Int.tmod x2 9)) == -1))
 (some (false))))
 (some (false)))
 (br (a6 == 5)
 (br (decide (a5 ≤ 1))
 (br (decide (IntKind.wrap .i64 (0 - IntKind.wrap .i64 (Int.tmod x1 9 - Int.tmod x2 9)) ≥ 0))
 (some (true))
 (some (a3 == 0)))
 (some (false)))
 (br (a6 == 9)
 (br (decide (a5 ≤ 1))
 (br (decide (IntKind.wrap .i64 (0 - IntKind.wrap .i64 (Int.tmod x1 9 - Int.tmod x2 9)) ≥ 0))
 (some (true))
 (some (a3 == 0)))
 (some (false)))
 (br (a6 == 10)
 (br (decide (a5 ≤ 1))
 (br (decide (IntKind.wrap .i64 (0 - IntKind.wrap .i64 (Int.tmod x1 9 - Int.tmod x2 9)) ≥ 0))
 (some (true))
 (some (a3 == 0)))
 (some (false)))
 (br (a6 == 11)
 (br (decide (a5 ≤ 1))
 (br (decide (IntKind.wrap .i64 (0 - IntKind.wrap .i64 (Int.tmod x1 9 - Int.tmod x2 9)) ≥ 0))
 (some (true))
 (some (a3 == 0)))
 (some (false)))
 (br (a6 == 12)
 (br (decide (a5 ≤ 1))
 (br (decide (IntKind.wrap .i64 (0 - IntKind.wrap .i64 (Int.tmod x1 9 - Int.tmod x2 9)) ≥ 0))
 (some (true))
 (some (a3 == 0)))
 (some (false)))
 (br (a6 == 8)
 (some (decide (a5 ≤ 1)))
 (br (a6 == 14)
 (br (decide (a5 ≤ 1))
 (br (a3 == 0)
 (some (true))
 (some (IntKind.wrap .i64 (0 - IntKind.wrap .i64 (Int.tmod x1 9 - Int.tmod x2 9)) == 0)))
 (some (false)))
 (br (a6 == 15)
 (br (decide (a5 ≤ 1))
 (br (a3 == 1)
 (some (IntKind.wrap .i64 (0 - IntKind.wrap .i64 (Int.tmod x1 9 - Int.tmod x2 9)) != 0))
 (some (false)))
 (some (false)))
 (some (false)))))))))))))
 (ob (ref02_Kind x0) fun a5 =>
 br (a5 == 1)
 (br (a3 == 0)
 (some (IntKind.wrap .i64 (0 - IntKind.wrap .i64 (Int.tmod x1 9 - Int.tmod x2 9)) == 1))
 (some (false)))
 (br (a5 == 3)
 (br (a3 == 1)
 (some (IntKind.wrap .i64 (0 - IntKind.wrap .i64 (Int.tmod x1 9 - Int.tmod x2 9)) == 2))
 (some (false)))
 (br (a5 == 4)
 (some (false))
 (br (a5 == 5)
 (some (false))
 (br (a5 == 9)
 (some (false))
 (br (a5 == 10)
 (some (false))
 (br (a5 == 11)
 (some (false))
 (br (a5 == 12)
 (some (false))
 (br (a5 == 8)
 (some (false))
 (br (a5 == 14)
 (some (false))
 (br (a5 == 15)
 (some (false))
 (some (false))))))))))))))
 (br (decide (a3 ≤ 1))
 (ob (ref03_size (IntKind.wrap .i64 (Int.tmod x1 9 - Int.tmod x2 9))) fun a5 =>
 ob (ref02_Kind x0) fun a6 =>
 br (a6 == 1)
 (br (a3 == 0)
 (some (IntKind.wrap .i64 (Int.tmod x1 9 - Int.tmod x2 9) == 1))
 (some (false)))
 (br (a6 == 3)
 (br (a3 == 1)
 (some (IntKind.wrap .i64 (Int.tmod x1 9 - Int.tmod x2 9) == 2))
 (some (false)))
 (br (a6 == 4)
 (br (decide (a5 ≤ 1))
 (br (IntKind.wrap .i64 (Int.tmod x1 9 - Int.tmod x2 9) == 1)
 (some (true))
 (br (a3 == 1)
 (some (IntKind.wrap .i64 (Int.tmod x1 9 - Int.tmod x2 9) == -1))
 (some (false))))
 (some (false)))
 (br (a6 == 5)
 (br (decide (a5 ≤ 1))
 (br (decide (IntKind.wrap .i64 (Int.tmod x1 9 - Int.tmod x2 9) ≥ 0))
 (some (true))
 (some (a3 == 0)))
 (some (false)))
 (br (a6 == 9)
 (br (decide (a5 ≤ 1))
 (br (decide (IntKind.wrap .i64 (Int.tmod x1 9 - Int.tmod x2 9) ≥ 0))
 (some (true))
 (some (a3 == 0)))
 (some (false)))
 (br (a6 == 10)
 (br (decide (a5 ≤ 1))
 (br (decide (IntKind.wrap .i64 (Int.tmod x1 9 - Int.tmod x2 9) ≥ 0))
 (some (true))
 (some (a3 == 0)))
 (some (false)))
 (br (a6 == 11)
 (br (decide (a5 ≤ 1))
 (br (decide (IntKind.wrap .i64 (Int.tmod x1 9 - Int.tmod x2 9) ≥ 0))
 (some (true))
 (some (a3 == 0)))
 (some (false)))
 (br (a6 == 12)
 (br (decide (a5 ≤ 1))
 (br (decide (IntKind.wrap .i64 (Int.tmod x1 9 - Int.tmod x2 9) ≥ 0))
 (some (true))
 (some (a3 == 0)))
 (some (false)))
 (br (a6 == 8)
 (some (decide (a5 ≤ 1)))
 (br (a6 == 14)
 (br (decide (a5 ≤ 1))
 (br (a3 == 0)
 (some (true))
 (some (IntKind.wrap .i64 (Int.tmod x1 9 - Int.tmod x2 9) == 0)))
 (some (false)))
 (br (a6 == 15)
 (br (decide (a5 ≤ 1))
 (br (a3 == 1)
 (some (IntKind.wrap .i64 (Int.tmod x1 9 - Int.tmod x2 9) != 0))
 (some (false)))
 (some (false)))
 (some (false)))))))))))))
 (ob (ref02_Kind x0) fun a5 =>
 br (a5 == 1)
 (br (a3 == 0)
 (some (IntKind.wrap .i64 (Int.tmod x1 9 - Int.tmod x2 9) == 1))
 (some (false)))
 (br (a5 == 3)
 (br (a3 == 1)
 (some (IntKind.wrap .i64 (Int.tmod x1 9 - Int.tmod x2 9) == 2))
 (some (false)))
 (br (a5 == 4)
 (some (false))
 (br (a5 == 5)
 (some (false))
 (br (a5 == 9)
 (some (false))
 (br (a5 == 10)
 (some (false))
 (br (a5 == 11)
 (some (false))
 (br (a5 == 12)
 (some (false))
 (br (a5 == 8)
 (some (false))
 (br (a5 == 14)
 (some (false))
 (br (a5 == 15)
 (some (false))
 (some (false)))))))))))))))))))
def ref04_Line (x0 x1 : Int) : Option (Int) :=
 br (decide (x0 < 0))
 (some (0))
 (br (decide (x0 > 80))
 (some (0))
 (br (decide (x1 < 0))
 (some (0))
 (br (decide (x1 > 80))
 (some (0))
 (br (x0 == x1)
 (some (0))
 (br (IntKind.wrap .i64 (IntKind.wrap .i64 (Int.tdiv x1 9) - IntKind.wrap .i64 (Int.tdiv x0 9)) == 0)
 (some (1))
 (br (IntKind.wrap .i64 (Int.tmod x1 9 - Int.tmod x0 9) == 0)
 (some (1))
 (br (IntKind.wrap .i64 (IntKind.wrap .i64 (Int.tdiv x1 9) - IntKind.wrap .i64 (Int.tdiv x0 9)) == IntKind.wrap .i64 (Int.tmod x1 9 - Int.tmod x0 9))
 (some (2))
 (br (IntKind.wrap .i64 (IntKind.wrap .i64 (Int.tdiv x1 9) - IntKind.wrap .i64 (Int.tdiv x0 9)) == IntKind.wrap .i64 (0 - IntKind.wrap .i64 (Int.tmod x1 9 - Int.tmod x0 9)))
 (some (2))
 (some (0))))))))))
def ref04_sign (x0 : Int) : Option (Int) :=
 br (decide (x0 < 0))
 (some (-1))
 (br (decide (x0 > 0))
 (some (1))
 (some (0)))
def ref04_Betweenl6s (rec : Int → Nat → Int → Int → Nat → List Int → Option (Nat × Nat × List Int)) (x0 : Int) (x1 : Nat) (x2 x3 : Int) (x4 : Nat) (x5 : List Int) : Option (Nat × Nat × List Int) :=
 br (x3 != x0)
 (br (decide ((x1 + 1) * 8 ≤ 140737488355328))
 (rec x0 (x1 + 1) x2 (IntKind.wrap .i64 (x3 + x2)) (x1 + 1) (List.append (List.take x1 x5) [x3]))
 (none))
 (some (x1, x4, x5))
def ref04_Betweenl6 : Nat → Int → Nat → Int → Int → Nat → List Int → Option (Nat × Nat × List Int)
 | 0, _, _, _, _, _, _ => none
 | f + 1, x0, x1, x2, x3, x4, x5 => ref04_Betweenl6s (ref04_Betweenl6 f) x0 x1 x2 x3 x4 x5
def ref04_Between (x0 x1 : Int) : Option (Nat × Nat × List Int) :=
 ob (ref04_Line x0 x1) fun a2 =>
 br (a2 == 0)
 (some (0, 0, []))
 (ob (ref04_sign (IntKind.wrap .i64 (IntKind.wrap .i64 (Int.tdiv x1 9) - IntKind.wrap .i64 (Int.tdiv x0 9)))) fun a3 =>
 ob (ref04_sign (IntKind.wrap .i64 (Int.tmod x1 9 - Int.tmod x0 9))) fun a4 =>
 ob (ref04_Betweenl6 many x1 0 (IntKind.wrap .i64 (IntKind.wrap .i64 (9 * a3) + a4)) (IntKind.wrap .i64 (x0 + IntKind.wrap .i64 (IntKind.wrap .i64 (9 * a3) + a4))) 0 []) fun (a5_0, a5_1, a5_2) =>
 some (a5_0, a5_1, a5_2))
def ref04_Freel3s (rec : Nat → Int → List Bool → Nat → List Int → Option ((Bool) ⊕ (Unit))) (x0 : Nat) (x1 : Int) (x2 : List Bool) (x3 : Nat) (x4 : List Int) : Option ((Bool) ⊕ (Unit)) :=
 br (decide (x1 < Int.ofNat x0))
 (br (inB x1 x0)
 (br (inB (List.getD x4 (Int.toNat x1) 0) 81)
 (br (List.getD x2 (Int.toNat (List.getD x4 (Int.toNat x1) 0)) false)
 (some (.inl (false)))
 (rec x0 (IntKind.wrap .i64 (x1 + 1)) x2 x3 x4))
 (none))
 (none))
 (some (.inr ()))
def ref04_Freel3 : Nat → Nat → Int → List Bool → Nat → List Int → Option ((Bool) ⊕ (Unit))
 | 0, _, _, _, _, _ => none
 | f + 1, x0, x1, x2, x3, x4 => ref04_Freel3s (ref04_Freel3 f) x0 x1 x2 x3 x4
def ref04_Free (x0 x1 : Int) (x2 : List Bool) : Option (Bool) :=
 ob (ref04_Between x0 x1) fun (a3_0, a3_1, a3_2) =>
 ob (ref04_Freel3 many a3_0 0 x2 a3_1 a3_2) fun t6_2 =>
 sw t6_2 (fun a6 =>
 some (a6))
 (fun _ =>
 some (true))
def ref04_Reaches (x0 x1 x2 : Int) (x3 : List Bool) : Option (Bool) :=
 ob (ref03_Step x0 x1 x2) fun a4 =>
 br (a4)
 (some (true))
 (ob (ref04_Line x1 x2) fun a5 =>
 ob (ref02_Side x0) fun a6 =>
 br (a6 == 1)
 (ob (ref02_Kind x0) fun a7 =>
 br (a7 == 2)
 (br (a5 == 1)
 (br (IntKind.wrap .i64 (Int.tdiv x1 9) == IntKind.wrap .i64 (Int.tdiv x2 9))
 (br (decide (IntKind.wrap .i64 (0 - IntKind.wrap .i64 (Int.tmod x1 9 - Int.tmod x2 9)) > 0))
 (ob (ref04_Free x1 x2 x3) fun a8 =>
 some (a8))
 (some (false)))
 (some (false)))
 (some (false)))
 (br (a7 == 6)
 (br (a5 == 2)
 (ob (ref04_Free x1 x2 x3) fun a8 =>
 some (a8))
 (some (false)))
 (br (a7 == 14)
 (br (a5 == 2)
 (ob (ref04_Free x1 x2 x3) fun a8 =>
 some (a8))
 (some (false)))
 (br (a7 == 7)
 (br (a5 == 1)
 (ob (ref04_Free x1 x2 x3) fun a8 =>
 some (a8))
 (some (false)))
 (br (a7 == 15)
 (br (a5 == 1)
 (ob (ref04_Free x1 x2 x3) fun a8 =>
 some (a8))
 (some (false)))
 (some (false)))))))
 (ob (ref02_Kind x0) fun a7 =>
 br (a7 == 2)
 (br (a5 == 1)
 (br (IntKind.wrap .i64 (Int.tdiv x1 9) == IntKind.wrap .i64 (Int.tdiv x2 9))
 (br (decide (IntKind.wrap .i64 (Int.tmod x1 9 - Int.tmod x2 9) > 0))
 (ob (ref04_Free x1 x2 x3) fun a8 =>
 some (a8))
 (some (false)))
 (some (false)))
 (some (false)))
 (br (a7 == 6)
 (br (a5 == 2)
 (ob (ref04_Free x1 x2 x3) fun a8 =>
 some (a8))
 (some (false)))
 (br (a7 == 14)
 (br (a5 == 2)
 (ob (ref04_Free x1 x2 x3) fun a8 =>
 some (a8))
 (some (false)))
 (br (a7 == 7)
 (br (a5 == 1)
 (ob (ref04_Free x1 x2 x3) fun a8 =>
 some (a8))
 (some (false)))
 (br (a7 == 15)
 (br (a5 == 1)
 (ob (ref04_Free x1 x2 x3) fun a8 =>
 some (a8))
 (some (false)))
 (some (false))))))))
def ref10_Moves (x0 x1 : List Int) (x2 x3 : Int) (x4 x5 : Int) (x6 : Bool) : Option (Bool) :=
 ob (ref09_Can x0 x1 x2 x3 x4 x5 x6) fun a7 =>
 br (!a7)
 (some (false))
 (br (x5 != 0)
 (ob (ref03_Dead (IntKind.wrap .i64 (IntKind.wrap .i64 (16 * x2) + x5)) x4) fun a8 =>
 br (!a8)
 (br (x5 != 1)
 (some (true))
 (ob (ref05_On x0 x1 x2 (IntKind.wrap .i64 (IntKind.wrap .i64 (16 * x2) + x5)) (IntKind.wrap .i64 (Int.tdiv x4 9))) fun a9 =>
 some (a9 == 0)))
 (some (false)))
 (br (inB x3 81)
 (ob (ref05_Taken x0 x1 x2) fun a8 =>
 ob (ref04_Reaches (conv .i8 .i64 (List.getD x0 (Int.toNat x3) 0)) x3 x4 a8) fun a9 =>
 br (!a9)
 (some (false))
 (br (x6)
 (ob (ref10_May (conv .i8 .i64 (List.getD x0 (Int.toNat x3) 0)) x3 x4) fun a10 =>
 some (a10))
 (ob (ref10_Must (conv .i8 .i64 (List.getD x0 (Int.toNat x3) 0)) x4) fun a10 =>
 some (!a10))))
 (none)))
def ref10_Alll10s (rec : Nat → Int → Int → List Int → List Int → Int → Nat → List (List Int) → List Bool → Option (Nat × Int × List Int × List Int × Int × Nat × List (List Int) × List Bool)) (x0 : Nat) (x1 x2 : Int) (x3 x4 : List Int) (x5 : Int) (x6 : Nat) (x7 : List (List Int)) (x8 : List Bool) : Option (Nat × Int × List Int × List Int × Int × Nat × List (List Int) × List Bool) :=
 br (decide (x2 < 81))
 (br (inB x1 81)
 (ob (ref04_Reaches (conv .i8 .i64 (List.getD x3 (Int.toNat x1) 0)) x1 x2 x8) fun a22 =>
 br (!a22)
 (rec x0 x1 (IntKind.wrap .i64 (x2 + 1)) x3 x4 x5 x6 x7 x8)
 (ob (ref10_Moves x3 x4 x5 x1 x2 0 false) fun a23 =>
 br (a23)
 (br (decide ((x0 + 1) * 32 ≤ 140737488355328))
 (ob (ref10_Moves x3 x4 x5 x1 x2 0 true) fun a24 =>
 br (a24)
 (br (decide ((x0 + 1 + 1) * 32 ≤ 140737488355328))
 (rec (x0 + 1 + 1) x1 (IntKind.wrap .i64 (x2 + 1)) x3 x4 x5 (x0 + 1 + 1) (List.append (List.take (x0 + 1) (List.append (List.take x0 x7) [[x1, x2, 0, 0]])) [[x1, x2, 0, 1]]) x8)
 (none))
 (rec (x0 + 1) x1 (IntKind.wrap .i64 (x2 + 1)) x3 x4 x5 (x0 + 1) (List.append (List.take x0 x7) [[x1, x2, 0, 0]]) x8))
 (none))
 (ob (ref10_Moves x3 x4 x5 x1 x2 0 true) fun a24 =>
 br (a24)
 (br (decide ((x0 + 1) * 32 ≤ 140737488355328))
 (rec (x0 + 1) x1 (IntKind.wrap .i64 (x2 + 1)) x3 x4 x5 (x0 + 1) (List.append (List.take x0 x7) [[x1, x2, 0, 1]]) x8)
 (none))
 (rec x0 x1 (IntKind.wrap .i64 (x2 + 1)) x3 x4 x5 x6 x7 x8))))
 (none))
 (some (x0, x1, x3, x4, x5, x6, x7, x8))
def ref10_Alll10 : Nat → Nat → Int → Int → List Int → List Int → Int → Nat → List (List Int) → List Bool → Option (Nat × Int × List Int × List Int × Int × Nat × List (List Int) × List Bool)
 | 0, _, _, _, _, _, _, _, _, _ => none
 | f + 1, x0, x1, x2, x3, x4, x5, x6, x7, x8 => ref10_Alll10s (ref10_Alll10 f) x0 x1 x2 x3 x4 x5 x6 x7 x8
def ref10_Alll6s (rec : Nat → Int → List Int → List Int → Int → Nat → List (List Int) → List Bool → Option (Nat × List Int × List Int × Int × Nat × List (List Int))) (x0 : Nat) (x1 : Int) (x2 x3 : List Int) (x4 : Int) (x5 : Nat) (x6 : List (List Int)) (x7 : List Bool) : Option (Nat × List Int × List Int × Int × Nat × List (List Int)) :=
 br (decide (x1 < 81))
 (br (inB x1 81)
 (ob (ref02_Side (conv .i8 .i64 (List.getD x2 (Int.toNat x1) 0))) fun a12 =>
 br (a12 != x4)
 (rec x0 (IntKind.wrap .i64 (x1 + 1)) x2 x3 x4 x5 x6 x7)
 (ob (ref10_Alll10 many x0 x1 0 x2 x3 x4 x5 x6 x7) fun (a13_0, a13_1, a13_2, a13_3, a13_4, a13_5, a13_6, a13_7) =>
 rec a13_0 (IntKind.wrap .i64 (a13_1 + 1)) a13_2 a13_3 a13_4 a13_5 a13_6 a13_7))
 (none))
 (some (x0, x2, x3, x4, x5, x6))
def ref10_Alll6 : Nat → Nat → Int → List Int → List Int → Int → Nat → List (List Int) → List Bool → Option (Nat × List Int × List Int × Int × Nat × List (List Int))
 | 0, _, _, _, _, _, _, _, _ => none
 | f + 1, x0, x1, x2, x3, x4, x5, x6, x7 => ref10_Alll6s (ref10_Alll6 f) x0 x1 x2 x3 x4 x5 x6 x7
def ref10_Alll23s (rec : Nat → Int → Int → List Int → List Int → Int → Nat → List (List Int) → Option (Nat × Int × List Int × List Int × Int × Nat × List (List Int))) (x0 : Nat) (x1 x2 : Int) (x3 x4 : List Int) (x5 : Int) (x6 : Nat) (x7 : List (List Int)) : Option (Nat × Int × List Int × List Int × Int × Nat × List (List Int)) :=
 br (decide (x2 < 81))
 (br (inB x5 2)
 (br (inB x1 8)
 (br (decide (List.getD x4 (Int.toNat x5 * 8 + Int.toNat x1) 0 > 0))
 (ob (ref10_Moves x3 x4 x5 0 x2 x1 false) fun a25 =>
 br (a25)
 (br (decide ((x0 + 1) * 32 ≤ 140737488355328))
 (rec (x0 + 1) x1 (IntKind.wrap .i64 (x2 + 1)) x3 x4 x5 (x0 + 1) (List.append (List.take x0 x7) [[0, x2, x1, 0]]))
 (none))
 (rec x0 x1 (IntKind.wrap .i64 (x2 + 1)) x3 x4 x5 x6 x7))
 (some (x0, x1, x3, x4, x5, x6, x7)))
 (none))
 (none))
 (some (x0, x1, x3, x4, x5, x6, x7))
def ref10_Alll23 : Nat → Nat → Int → Int → List Int → List Int → Int → Nat → List (List Int) → Option (Nat × Int × List Int × List Int × Int × Nat × List (List Int))
 | 0, _, _, _, _, _, _, _, _ => none
 | f + 1, x0, x1, x2, x3, x4, x5, x6, x7 => ref10_Alll23s (ref10_Alll23 f) x0 x1 x2 x3 x4 x5 x6 x7
def ref10_Alll20s (rec : Nat → Int → List Int → List Int → Int → Nat → List (List Int) → Option (Nat × Nat × List (List Int))) (x0 : Nat) (x1 : Int) (x2 x3 : List Int) (x4 : Int) (x5 : Nat) (x6 : List (List Int)) : Option (Nat × Nat × List (List Int)) :=
 br (decide (x1 ≤ 7))
 (ob (ref10_Alll23 many x0 x1 0 x2 x3 x4 x5 x6) fun (a17_0, a17_1, a17_2, a17_3, a17_4, a17_5, a17_6) =>
 rec a17_0 (IntKind.wrap .i64 (a17_1 + 1)) a17_2 a17_3 a17_4 a17_5 a17_6)
 (some (x0, x5, x6))
def ref10_Alll20 : Nat → Nat → Int → List Int → List Int → Int → Nat → List (List Int) → Option (Nat × Nat × List (List Int))
 | 0, _, _, _, _, _, _, _ => none
 | f + 1, x0, x1, x2, x3, x4, x5, x6 => ref10_Alll20s (ref10_Alll20 f) x0 x1 x2 x3 x4 x5 x6
def ref10_All (x0 x1 : List Int) (x2 : Int) : Option (Nat × Nat × List (List Int)) :=
 br (x2 != 0)
 (br (x2 != 1)
 (some (0, 0, []))
 (ob (ref05_Taken x0 x1 x2) fun a3 =>
 ob (ref10_Alll6 many 0 0 x0 x1 x2 0 [] a3) fun (a4_0, a4_1, a4_2, a4_3, a4_4, a4_5) =>
 ob (ref10_Alll20 many a4_0 1 a4_1 a4_2 a4_3 a4_4 a4_5) fun (a10_0, a10_1, a10_2) =>
 some (a10_0, a10_1, a10_2)))
 (ob (ref05_Taken x0 x1 x2) fun a3 =>
 ob (ref10_Alll6 many 0 0 x0 x1 x2 0 [] a3) fun (a4_0, a4_1, a4_2, a4_3, a4_4, a4_5) =>
 ob (ref10_Alll20 many a4_0 1 a4_1 a4_2 a4_3 a4_4 a4_5) fun (a10_0, a10_1, a10_2) =>
 some (a10_0, a10_1, a10_2))
def attack_Onl5s (rec : Int → Int → Int → List Int → List Int → Int → List (List Int) → List (List Int) → Int → Int → Int → Int → Int → Int → Option (List Int × List Int × Int × List (List Int) × List (List Int) × Int × Int × Int × Int)) (x0 x1 x2 : Int) (x3 x4 : List Int) (x5 : Int) (x6 x7 : List (List Int)) (x8 x9 : Int) (x10 x11 : Int) (x12 x13 : Int) : Option (List Int × List Int × Int × List (List Int) × List (List Int) × Int × Int × Int × Int) :=
 br (decide (x2 ≤ 15))
 (ob (piece_Of (IntKind.wrap .i64 (1 - x1)) x2) fun a23 =>
 br (a23 == 0)
 (rec x0 x1 (IntKind.wrap .i64 (x2 + 1)) x3 x4 x5 x6 x7 x8 x9 x10 x11 x12 x13)
 (ob (ray_Of a23 x0 x8 x9) fun (a24_0, a24_1) =>
 ob (board_Of x1 x2 x3 x4 x5 x6 x7) fun (a26_0, a26_1) =>
 ob (set_And a24_0 a24_1 a26_0 a26_1) fun (a28_0, a28_1) =>
 ob (set_Or x12 x13 a28_0 a28_1) fun (a30_0, a30_1) =>
 rec x0 x1 (IntKind.wrap .i64 (x2 + 1)) x3 x4 x5 x6 x7 x8 x9 x10 x11 a30_0 a30_1))
 (some (x3, x4, x5, x6, x7, x10, x11, x12, x13))
def attack_Onl5 : Nat → Int → Int → Int → List Int → List Int → Int → List (List Int) → List (List Int) → Int → Int → Int → Int → Int → Int → Option (List Int × List Int × Int × List (List Int) × List (List Int) × Int × Int × Int × Int)
 | 0, _, _, _, _, _, _, _, _, _, _, _, _, _, _ => none
 | f + 1, x0, x1, x2, x3, x4, x5, x6, x7, x8, x9, x10, x11, x12, x13 => attack_Onl5s (attack_Onl5 f) x0 x1 x2 x3 x4 x5 x6 x7 x8 x9 x10 x11 x12 x13
def attack_On (x0 x1 : Int) (x2 x3 : Int) (x4 x5 : List Int) (x6 : Int) (x7 x8 : List (List Int)) : Option (Int × Int) :=
 br (decide (x0 < 0))
 (some (0, 0))
 (br (decide (x0 ≥ 81))
 (some (0, 0))
 (br (x1 != 0)
 (br (x1 != 1)
 (some (0, 0))
 (ob (attack_Onl5 many x0 x1 1 x4 x5 x6 x7 x8 x2 x3 0 0 0 0) fun (_, _, _, _, _, _, _, a9_7, a9_8) =>
 some (a9_7, a9_8)))
 (ob (attack_Onl5 many x0 x1 1 x4 x5 x6 x7 x8 x2 x3 0 0 0 0) fun (_, _, _, _, _, _, _, a9_7, a9_8) =>
 some (a9_7, a9_8))))
def attack_Checkers (x0 : Int) (x1 x2 : List Int) (x3 : Int) (x4 x5 : List (List Int)) : Option (Int × Int) :=
 ob (board_King x0 x1 x2 x3 x4 x5) fun a6 =>
 ob (board_Taken x1 x2 x3 x4 x5) fun (a7_0, a7_1) =>
 ob (attack_On a6 (IntKind.wrap .i64 (1 - x0)) a7_0 a7_1 x1 x2 x3 x4 x5) fun (a9_0, a9_1) =>
 some (a9_0, a9_1)
def attack_InCheck (x0 : Int) (x1 x2 : List Int) (x3 : Int) (x4 x5 : List (List Int)) : Option (Bool) :=
 ob (attack_Checkers x0 x1 x2 x3 x4 x5) fun (a6_0, a6_1) =>
 ob (set_Empty a6_0 a6_1) fun a8 =>
 some (!a8)
def set_Ofl3s (rec : Nat → Int → Int → Nat → List Int → Int → Int → Int → Int → Option (Nat × List Int × Int × Int × Int × Int)) (x0 : Nat) (x1 x2 : Int) (x3 : Nat) (x4 : List Int) (x5 x6 : Int) (x7 x8 : Int) : Option (Nat × List Int × Int × Int × Int × Int) :=
 br (decide (x2 < x1))
 (br (inB x2 x0)
 (ob (set_With x7 x8 (List.getD x4 (Int.toNat x2) 0)) fun (a12_0, a12_1) =>
 rec x0 x1 (IntKind.wrap .i64 (x2 + 1)) x3 x4 x5 x6 a12_0 a12_1)
 (none))
 (some (x3, x4, x5, x6, x7, x8))
def set_Ofl3 : Nat → Nat → Int → Int → Nat → List Int → Int → Int → Int → Int → Option (Nat × List Int × Int × Int × Int × Int)
 | 0, _, _, _, _, _, _, _, _, _ => none
 | f + 1, x0, x1, x2, x3, x4, x5, x6, x7, x8 => set_Ofl3s (set_Ofl3 f) x0 x1 x2 x3 x4 x5 x6 x7 x8
def set_Of (x0 x1 : Nat) (x2 : List Int) : Option (Int × Int) :=
 ob (set_Ofl3 many x0 (Int.ofNat x0) 0 x1 x2 0 0 0 0) fun (_, _, _, _, a3_4, a3_5) =>
 some (a3_4, a3_5)
def ref08_Kingl2s (rec : Int → Int → List Int → List Int → Int → Option ((Int) ⊕ (Unit))) (x0 x1 : Int) (x2 x3 : List Int) (x4 : Int) : Option ((Int) ⊕ (Unit)) :=
 br (decide (x1 < 81))
 (br (inB x1 81)
 (br (conv .i8 .i64 (List.getD x2 (Int.toNat x1) 0) == IntKind.wrap .i64 (IntKind.wrap .i64 (16 * x0) + 8))
 (some (.inl (x1)))
 (rec x0 (IntKind.wrap .i64 (x1 + 1)) x2 x3 x4))
 (none))
 (some (.inr ()))
def ref08_Kingl2 : Nat → Int → Int → List Int → List Int → Int → Option ((Int) ⊕ (Unit))
 | 0, _, _, _, _, _ => none
 | f + 1, x0, x1, x2, x3, x4 => ref08_Kingl2s (ref08_Kingl2 f) x0 x1 x2 x3 x4
def ref08_King (x0 x1 : List Int) (x2 x3 : Int) : Option (Int) :=
 ob (ref08_Kingl2 many x3 0 x0 x1 x2) fun t4_2 =>
 sw t4_2 (fun a4 =>
 some (a4))
 (fun _ =>
 some (-1))
def ref08_InCheckl6s (rec : Int → Int → Int → List Int → List Int → Int → List Bool → Option ((Bool) ⊕ (Unit))) (x0 x1 x2 : Int) (x3 x4 : List Int) (x5 : Int) (x6 : List Bool) : Option ((Bool) ⊕ (Unit)) :=
 br (decide (x2 < 81))
 (br (inB x2 81)
 (ob (ref02_Side (conv .i8 .i64 (List.getD x3 (Int.toNat x2) 0))) fun a13 =>
 br (a13 == IntKind.wrap .i64 (1 - x0))
 (br (inB x2 81)
 (ob (ref04_Reaches (conv .i8 .i64 (List.getD x3 (Int.toNat x2) 0)) x2 x1 x6) fun a14 =>
 br (a14)
 (some (.inl (true)))
 (rec x0 x1 (IntKind.wrap .i64 (x2 + 1)) x3 x4 x5 x6))
 (none))
 (rec x0 x1 (IntKind.wrap .i64 (x2 + 1)) x3 x4 x5 x6))
 (none))
 (some (.inr ()))
def ref08_InCheckl6 : Nat → Int → Int → Int → List Int → List Int → Int → List Bool → Option ((Bool) ⊕ (Unit))
 | 0, _, _, _, _, _, _, _ => none
 | f + 1, x0, x1, x2, x3, x4, x5, x6 => ref08_InCheckl6s (ref08_InCheckl6 f) x0 x1 x2 x3 x4 x5 x6
def ref08_InCheck (x0 x1 : List Int) (x2 x3 : Int) : Option (Bool) :=
 ob (ref05_Taken x0 x1 x2) fun a4 =>
 ob (ref08_King x0 x1 x2 x3) fun a5 =>
 br (decide (a5 < 0))
 (some (false))
 (ob (ref08_InCheckl6 many x3 a5 0 x0 x1 x2 a4) fun t6_2 =>
 sw t6_2 (fun a6 =>
 some (a6))
 (fun _ =>
 some (false)))
def ref08_Check (x0 x1 : List Int) (x2 : Int) : Option (Int) :=
 ob (ref05_Check x0 x1 x2) fun a3 =>
 br (a3 != 0)
 (some (a3))
 (ob (ref08_InCheck x0 x1 x2 (IntKind.wrap .i64 (1 - x2))) fun a4 =>
 br (a4)
 (some (54))
 (some (0)))
def ref09_After (x0 x1 : List Int) (x2 x3 : Int) (x4 x5 : Int) (x6 : Bool) : Option (List Int × List Int × Int) :=
 br (x5 != 0)
 (br (inB x2 2)
 (br (inB x5 8)
 (br (inB x2 2)
 (br (inB x5 8)
 (br (inB x4 81)
 (some (List.set x0 (Int.toNat x4) (conv .i64 .i8 (IntKind.wrap .i64 (IntKind.wrap .i64 (16 * x2) + x5))), List.set x1 (Int.toNat x2 * 8 + Int.toNat x5) (IntKind.wrap .i8 (List.getD x1 (Int.toNat x2 * 8 + Int.toNat x5) 0 - 1)), IntKind.wrap .i8 (1 - x2)))
 (none))
 (none))
 (none))
 (none))
 (none))
 (br (inB x4 81)
 (ob (ref02_Kind (conv .i8 .i64 (List.getD x0 (Int.toNat x4) 0))) fun a7 =>
 ob (ref02_Raw a7) fun a8 =>
 br (a8 != 0)
 (br (inB x2 2)
 (br (inB a8 8)
 (br (inB x2 2)
 (br (inB a8 8)
 (br (inB x3 81)
 (br (inB x4 81)
 (br (x6)
 (br (inB x4 81)
 (br (inB x4 81)
 (br (inB x3 81)
 (some (List.set (List.set (List.set x0 (Int.toNat x4) (List.getD x0 (Int.toNat x3) 0)) (Int.toNat x4) (IntKind.wrap .i8 (List.getD (List.set x0 (Int.toNat x4) (List.getD x0 (Int.toNat x3) 0)) (Int.toNat x4) 0 + 8))) (Int.toNat x3) 0, List.set x1 (Int.toNat x2 * 8 + Int.toNat a8) (IntKind.wrap .i8 (List.getD x1 (Int.toNat x2 * 8 + Int.toNat a8) 0 + 1)), IntKind.wrap .i8 (1 - x2)))
 (none))
 (none))
 (none))
 (br (inB x3 81)
 (some (List.set (List.set x0 (Int.toNat x4) (List.getD x0 (Int.toNat x3) 0)) (Int.toNat x3) 0, List.set x1 (Int.toNat x2 * 8 + Int.toNat a8) (IntKind.wrap .i8 (List.getD x1 (Int.toNat x2 * 8 + Int.toNat a8) 0 + 1)), IntKind.wrap .i8 (1 - x2)))
 (none)))
 (none))
 (none))
 (none))
 (none))
 (none))
 (none))
 (br (inB x3 81)
 (br (inB x4 81)
 (br (x6)
 (br (inB x4 81)
 (br (inB x4 81)
 (br (inB x3 81)
 (some (List.set (List.set (List.set x0 (Int.toNat x4) (List.getD x0 (Int.toNat x3) 0)) (Int.toNat x4) (IntKind.wrap .i8 (List.getD (List.set x0 (Int.toNat x4) (List.getD x0 (Int.toNat x3) 0)) (Int.toNat x4) 0 + 8))) (Int.toNat x3) 0, x1, IntKind.wrap .i8 (1 - x2)))
 (none))
 (none))
 (none))
 (br (inB x3 81)
 (some (List.set (List.set x0 (Int.toNat x4) (List.getD x0 (Int.toNat x3) 0)) (Int.toNat x3) 0, x1, IntKind.wrap .i8 (1 - x2)))
 (none)))
 (none))
 (none)))
 (none))
def ray_Between_v2l2s (rec : Int → Int → Nat → Int → Int → Int → Int → Nat → List (List Int) → Option ((Int × Int) ⊕ (Int × Int))) (x0 x1 : Int) (x2 : Nat) (x3 x4 : Int) (x5 x6 : Int) (x7 : Nat) (x8 : List (List Int)) : Option ((Int × Int) ⊕ (Int × Int)) :=
 br (decide (x4 < x3))
 (br (inB x4 x2)
 (ob (set_Of 1 1 [x1]) fun (a17_0, a17_1) =>
 ob (ray_Way x0 (List.headD (List.take 2 (List.getD x8 (Int.toNat x4) [])) 0) (List.headD (List.tail (List.take 2 (List.getD x8 (Int.toNat x4) []))) 0) a17_0 a17_1) fun (a19_0, a19_1) =>
 ob (set_Has a19_0 a19_1 x1) fun a21 =>
 br (a21)
 (ob (set_Without a19_0 a19_1 x1) fun (a22_0, a22_1) =>
 some (.inl (a22_0, a22_1)))
 (rec x0 x1 x2 x3 (IntKind.wrap .i64 (x4 + 1)) x5 x6 x7 x8))
 (none))
 (some (.inr (x5, x6)))
def ray_Between_v2l2 : Nat → Int → Int → Nat → Int → Int → Int → Int → Nat → List (List Int) → Option ((Int × Int) ⊕ (Int × Int))
 | 0, _, _, _, _, _, _, _, _, _ => none
 | f + 1, x0, x1, x2, x3, x4, x5, x6, x7, x8 => ray_Between_v2l2s (ray_Between_v2l2 f) x0 x1 x2 x3 x4 x5 x6 x7 x8
def ray_Between_v2 (x0 x1 : Int) : Option (Int × Int) :=
 ob (ray_Dirs 6) fun (a2_0, _, a2_2) =>
 ob (ray_Dirs 7) fun (a5_0, _, a5_2) =>
 br (decide ((a2_0 + a5_0) * 16 ≤ 140737488355328))
 (ob (ray_Between_v2l2 many x0 x1 (a2_0 + a5_0) (Int.ofNat (a2_0 + a5_0)) 0 0 0 (a2_0 + a5_0) (List.append (List.take a2_0 a2_2) (List.take a5_0 a5_2))) fun t8_2 =>
 sw t8_2 (fun (a8_0, a8_1) =>
 some (a8_0, a8_1))
 (fun (_, _) =>
 some (0, 0)))
 (none)
def attack_Pinned_v2l9s (rec : Int → Int → Nat → Int → Int → Nat → Int → Int → List Int → List Int → Int → List (List Int) → List (List Int) → List (List Int × List Int) → Nat → List Int → Nat → List Int → Option (Int × Int × Nat × Int × Int × List Int × List Int × Int × List (List Int) × List (List Int) × List (List Int × List Int) × Nat × List Int)) (x0 x1 : Int) (x2 : Nat) (x3 x4 : Int) (x5 : Nat) (x6 x7 : Int) (x8 x9 : List Int) (x10 : Int) (x11 x12 : List (List Int)) (x13 : List (List Int × List Int)) (x14 : Nat) (x15 : List Int) (x16 : Nat) (x17 : List Int) : Option (Int × Int × Nat × Int × Int × List Int × List Int × Int × List (List Int) × List (List Int) × List (List Int × List Int) × Nat × List Int) :=
 br (decide (x7 < x6))
 (br (inB x7 x5)
 (ob (ray_Between_v2 (List.getD x17 (Int.toNat x7) 0) x1) fun (a43_0, a43_1) =>
 ob (board_Taken x8 x9 x10 x11 x12) fun (a45_0, a45_1) =>
 ob (set_And a43_0 a43_1 a45_0 a45_1) fun (a47_0, a47_1) =>
 ob (set_Count a47_0 a47_1) fun a49 =>
 br (a49 != 1)
 (rec x0 x1 x2 x3 x4 x5 x6 (IntKind.wrap .i64 (x7 + 1)) x8 x9 x10 x11 x12 x13 x14 x15 x16 x17)
 (ob (board_Pieces x0 x8 x9 x10 x11 x12) fun (a50_0, a50_1) =>
 ob (set_And a47_0 a47_1 a50_0 a50_1) fun (a52_0, a52_1) =>
 ob (set_Empty a52_0 a52_1) fun a54 =>
 br (a54)
 (rec x0 x1 x2 x3 x4 x5 x6 (IntKind.wrap .i64 (x7 + 1)) x8 x9 x10 x11 x12 x13 x14 x15 x16 x17)
 (ob (set_First a47_0 a47_1) fun a55 =>
 ob (board_At (List.getD x17 (Int.toNat x7) 0) x8 x9 x10 x11 x12) fun a56 =>
 ob (board_Taken x8 x9 x10 x11 x12) fun (a57_0, a57_1) =>
 ob (set_Without a57_0 a57_1 a55) fun (a59_0, a59_1) =>
 ob (ray_Of a56 (List.getD x17 (Int.toNat x7) 0) a59_0 a59_1) fun (a61_0, a61_1) =>
 ob (set_Has a61_0 a61_1 x1) fun a63 =>
 br (!a63)
 (rec x0 x1 x2 x3 x4 x5 x6 (IntKind.wrap .i64 (x7 + 1)) x8 x9 x10 x11 x12 x13 x14 x15 x16 x17)
 (ob (board_At (List.getD x17 (Int.toNat x7) 0) x8 x9 x10 x11 x12) fun a64 =>
 ob (board_Taken x8 x9 x10 x11 x12) fun (a65_0, a65_1) =>
 ob (ray_Of a64 (List.getD x17 (Int.toNat x7) 0) a65_0 a65_1) fun (a67_0, a67_1) =>
 ob (set_Has a67_0 a67_1 x1) fun a69 =>
 br (a69)
 (rec x0 x1 x2 x3 x4 x5 x6 (IntKind.wrap .i64 (x7 + 1)) x8 x9 x10 x11 x12 x13 x14 x15 x16 x17)
 (ob (set_With a43_0 a43_1 (List.getD x17 (Int.toNat x7) 0)) fun (a70_0, a70_1) =>
 rec x0 x1 x2 x3 x4 x5 x6 (IntKind.wrap .i64 (x7 + 1)) x8 x9 x10 x11 x12 (putM x13 [a55] [a70_0, a70_1]) x14 x15 x16 x17)))))
 (none))
 (some (x0, x1, x2, x3, x4, x8, x9, x10, x11, x12, x13, x14, x15))
def attack_Pinned_v2l9 : Nat → Int → Int → Nat → Int → Int → Nat → Int → Int → List Int → List Int → Int → List (List Int) → List (List Int) → List (List Int × List Int) → Nat → List Int → Nat → List Int → Option (Int × Int × Nat × Int × Int × List Int × List Int × Int × List (List Int) × List (List Int) × List (List Int × List Int) × Nat × List Int)
 | 0, _, _, _, _, _, _, _, _, _, _, _, _, _, _, _, _, _, _ => none
 | f + 1, x0, x1, x2, x3, x4, x5, x6, x7, x8, x9, x10, x11, x12, x13, x14, x15, x16, x17 => attack_Pinned_v2l9s (attack_Pinned_v2l9 f) x0 x1 x2 x3 x4 x5 x6 x7 x8 x9 x10 x11 x12 x13 x14 x15 x16 x17
def attack_Pinned_v2l6s (rec : Int → Int → Nat → Int → Int → List Int → List Int → Int → List (List Int) → List (List Int) → List (List Int × List Int) → Nat → List Int → Option (List Int × List Int × Int × List (List Int) × List (List Int) × List (List Int × List Int))) (x0 x1 : Int) (x2 : Nat) (x3 x4 : Int) (x5 x6 : List Int) (x7 : Int) (x8 x9 : List (List Int)) (x10 : List (List Int × List Int)) (x11 : Nat) (x12 : List Int) : Option (List Int × List Int × Int × List (List Int) × List (List Int) × List (List Int × List Int)) :=
 br (decide (x4 < x3))
 (br (inB x4 x2)
 (ob (board_Of (IntKind.wrap .i64 (1 - x0)) (List.getD x12 (Int.toNat x4) 0) x5 x6 x7 x8 x9) fun (a20_0, a20_1) =>
 ob (set_Squares a20_0 a20_1) fun (a22_0, a22_1, a22_2) =>
 ob (attack_Pinned_v2l9 many x0 x1 x2 x3 x4 a22_0 (Int.ofNat a22_0) 0 x5 x6 x7 x8 x9 x10 x11 x12 a22_1 a22_2) fun (a25_0, a25_1, a25_2, a25_3, a25_4, a25_5, a25_6, a25_7, a25_8, a25_9, a25_10, a25_11, a25_12) =>
 rec a25_0 a25_1 a25_2 a25_3 (IntKind.wrap .i64 (a25_4 + 1)) a25_5 a25_6 a25_7 a25_8 a25_9 a25_10 a25_11 a25_12)
 (none))
 (some (x5, x6, x7, x8, x9, x10))
def attack_Pinned_v2l6 : Nat → Int → Int → Nat → Int → Int → List Int → List Int → Int → List (List Int) → List (List Int) → List (List Int × List Int) → Nat → List Int → Option (List Int × List Int × Int × List (List Int) × List (List Int) × List (List Int × List Int))
 | 0, _, _, _, _, _, _, _, _, _, _, _, _, _ => none
 | f + 1, x0, x1, x2, x3, x4, x5, x6, x7, x8, x9, x10, x11, x12 => attack_Pinned_v2l6s (attack_Pinned_v2l6 f) x0 x1 x2 x3 x4 x5 x6 x7 x8 x9 x10 x11 x12
def attack_Pinned_v2 (x0 : Int) (x1 x2 : List Int) (x3 : Int) (x4 x5 : List (List Int)) : Option (List (List Int × List Int)) :=
 ob (board_King x0 x1 x2 x3 x4 x5) fun a6 =>
 br (decide (a6 < 0))
 (some ([]))
 (ob (attack_Pinned_v2l6 many x0 a6 5 5 0 x1 x2 x3 x4 x5 [] 5 ([2, 6, 7, 14, 15])) fun (_, _, _, _, _, a7_5) =>
 some (a7_5))
def legal_look (x0 x1 : List Int) (x2 : Int) (x3 x4 : List (List Int)) : Option (Int × Int × Int × Int × Bool × List (List Int × List Int)) :=
 ob (board_King x2 x0 x1 x2 x3 x4) fun a5 =>
 ob (set_All ) fun (a6_0, a6_1) =>
 ob (attack_Pinned_v2 x2 x0 x1 x2 x3 x4) fun a8 =>
 ob (attack_Checkers x2 x0 x1 x2 x3 x4) fun (a9_0, a9_1) =>
 ob (set_Count a9_0 a9_1) fun a11 =>
 br (a11 == 0)
 (some (x2, a5, a6_0, a6_1, false, a8))
 (br (a11 == 1)
 (ob (set_First a9_0 a9_1) fun a12 =>
 ob (ray_Between_v2 a12 a5) fun (a13_0, a13_1) =>
 ob (set_Or a13_0 a13_1 a9_0 a9_1) fun (a15_0, a15_1) =>
 some (x2, a5, a15_0, a15_1, true, a8))
 (some (x2, a5, 0, 0, true, a8)))
def legal_state_board (x0 x1 : Int) (x2 x3 : Int) (_x4 : Bool) (x5 x6 _x7 : Int) (_x8 : Bool) (x9 x10 : List Int) (x11 : Int) (x12 x13 : List (List Int)) (x14 : List (List Int × List Int)) : Option (Bool × List Int × List Int × Int × List (List Int) × List (List Int) × List (List Int × List Int)) :=
 br (x5 == x1)
 (ob (board_Taken x9 x10 x11 x12 x13) fun (a15_0, a15_1) =>
 ob (set_Without a15_0 a15_1 x1) fun (a17_0, a17_1) =>
 ob (attack_On x6 (IntKind.wrap .i64 (1 - x0)) a17_0 a17_1 x9 x10 x11 x12 x13) fun (a19_0, a19_1) =>
 ob (set_Empty a19_0 a19_1) fun a21 =>
 some (a21, x9, x10, x11, x12, x13, x14))
 (ob (set_Has x2 x3 x6) fun a15 =>
 br (!a15)
 (some (false, x9, x10, x11, x12, x13, x14))
 (br (!hasM x14 [x5])
 (some (true, x9, x10, x11, x12, x13, x14))
 (ob (set_Has (List.headD (getM x14 [x5] [0, 0]) 0) (List.headD (List.tail (getM x14 [x5] [0, 0])) 0) x6) fun a16 =>
 some (a16, x9, x10, x11, x12, x13, x14))))
def legal_PawnMatesl11s (rec : Nat → Int → Int → List Int → List Int → Int → List (List Int) → List (List Int) → Int → Int → Int → Int → Bool → Nat → List (List Int) → List Int → List Int → Int → List (List Int) → List (List Int) → List (List Int × List Int) → Option ((Bool × List Int × List Int × Int × List (List Int) × List (List Int)) ⊕ (List Int × List Int × Int × List (List Int) × List (List Int)))) (x0 : Nat) (x1 x2 : Int) (x3 x4 : List Int) (x5 : Int) (x6 x7 : List (List Int)) (x8 x9 : Int) (x10 x11 : Int) (x12 : Bool) (x13 : Nat) (x14 : List (List Int)) (x15 x16 : List Int) (x17 : Int) (x18 x19 : List (List Int)) (x20 : List (List Int × List Int)) : Option ((Bool × List Int × List Int × Int × List (List Int) × List (List Int)) ⊕ (List Int × List Int × Int × List (List Int) × List (List Int))) :=
 br (decide (x2 < x1))
 (br (inB x2 x0)
 (ob (legal_state_board x8 x9 x10 x11 x12 (List.headD (List.take 4 (List.getD x14 (Int.toNat x2) [])) 0) (List.headD (List.tail (List.take 4 (List.getD x14 (Int.toNat x2) []))) 0) (List.headD (List.tail (List.tail (List.take 4 (List.getD x14 (Int.toNat x2) [])))) 0) (List.headD (List.tail (List.tail (List.tail (List.take 4 (List.getD x14 (Int.toNat x2) []))))) 0 != 0) x15 x16 x17 x18 x19 x20) fun (a53_0, a53_1, a53_2, a53_3, a53_4, a53_5, a53_6) =>
 br (a53_0)
 (some (.inl (false, x3, x4, x5, x6, x7)))
 (rec x0 x1 (IntKind.wrap .i64 (x2 + 1)) x3 x4 x5 x6 x7 x8 x9 x10 x11 x12 x13 x14 a53_1 a53_2 a53_3 a53_4 a53_5 a53_6))
 (none))
 (some (.inr (x3, x4, x5, x6, x7)))
def legal_PawnMatesl11 : Nat → Nat → Int → Int → List Int → List Int → Int → List (List Int) → List (List Int) → Int → Int → Int → Int → Bool → Nat → List (List Int) → List Int → List Int → Int → List (List Int) → List (List Int) → List (List Int × List Int) → Option ((Bool × List Int × List Int × Int × List (List Int) × List (List Int)) ⊕ (List Int × List Int × Int × List (List Int) × List (List Int)))
 | 0, _, _, _, _, _, _, _, _, _, _, _, _, _, _, _, _, _, _, _, _, _ => none
 | f + 1, x0, x1, x2, x3, x4, x5, x6, x7, x8, x9, x10, x11, x12, x13, x14, x15, x16, x17, x18, x19, x20 => legal_PawnMatesl11s (legal_PawnMatesl11 f) x0 x1 x2 x3 x4 x5 x6 x7 x8 x9 x10 x11 x12 x13 x14 x15 x16 x17 x18 x19 x20
def legal_PawnMates (x0 : Int) (x1 x2 : List Int) (x3 : Int) (x4 x5 : List (List Int)) : Option (Bool) :=
 ob (piece_Of x3 1) fun a6 =>
 br (a6 == 0)
 (some (false))
 (br (decide (x0 < 0))
 (some (false))
 (br (decide (x0 ≥ 81))
 (some (false))
 (ob (board_At x0 x1 x2 x3 x4 x5) fun a7 =>
 br (a7 != 0)
 (some (false))
 (ob (board_Clone x1 x2 x3 x4 x5) fun (a8_0, a8_1, a8_2, a8_3, a8_4) =>
 ob (board_Put x0 a6 a8_0 a8_1 a8_2 a8_3 a8_4) fun (a13_0, a13_1, a13_2, a13_3, a13_4) =>
 ob (attack_Checkers (conv .i8 .i64 (IntKind.wrap .i8 (1 - a13_2))) a13_0 a13_1 (IntKind.wrap .i8 (1 - a13_2)) a13_3 a13_4) fun (a18_0, a18_1) =>
 ob (set_Has a18_0 a18_1 x0) fun a20 =>
 br (!a20)
 (some (false))
 (ob (legal_look a13_0 a13_1 (IntKind.wrap .i8 (1 - a13_2)) a13_3 a13_4) fun (a21_0, a21_1, a21_2, a21_3, a21_4, a21_5) =>
 ob (set_All ) fun (a27_0, a27_1) =>
 ob (gen_Board a27_0 a27_1 a13_0 a13_1 (IntKind.wrap .i8 (1 - a13_2)) a13_3 a13_4) fun (a29_0, a29_1, a29_2) =>
 ob (legal_PawnMatesl11 many a29_0 (Int.ofNat a29_0) 0 x1 x2 x3 x4 x5 a21_0 a21_1 a21_2 a21_3 a21_4 a29_1 a29_2 a13_0 a13_1 (IntKind.wrap .i8 (1 - a13_2)) a13_3 a13_4 a21_5) fun t32_2 =>
 sw t32_2 (fun (a32_0, _, _, _, _, _) =>
 some (a32_0))
 (fun (_, _, _, _, _) =>
 some (true)))))))
def legal_Alll4s (rec : Nat → Nat → Int → Int → List Int → List Int → Int → List (List Int) → List (List Int) → Int → Int → Int → Int → Bool → Nat → List (List Int) → Nat → List (List Int) → List (List Int × List Int) → Option (Nat × List Int × List Int × Int × List (List Int) × List (List Int) × Int × Int × Int × Int × Bool × Nat × List (List Int) × List (List Int × List Int))) (x0 x1 : Nat) (x2 x3 : Int) (x4 x5 : List Int) (x6 : Int) (x7 x8 : List (List Int)) (x9 x10 : Int) (x11 x12 : Int) (x13 : Bool) (x14 : Nat) (x15 : List (List Int)) (x16 : Nat) (x17 : List (List Int)) (x18 : List (List Int × List Int)) : Option (Nat × List Int × List Int × Int × List (List Int) × List (List Int) × Int × Int × Int × Int × Bool × Nat × List (List Int) × List (List Int × List Int)) :=
 br (decide (x3 < x2))
 (br (inB x3 x1)
 (ob (legal_state_board x9 x10 x11 x12 x13 (List.headD (List.take 4 (List.getD x17 (Int.toNat x3) [])) 0) (List.headD (List.tail (List.take 4 (List.getD x17 (Int.toNat x3) []))) 0) (List.headD (List.tail (List.tail (List.take 4 (List.getD x17 (Int.toNat x3) [])))) 0) (List.headD (List.tail (List.tail (List.tail (List.take 4 (List.getD x17 (Int.toNat x3) []))))) 0 != 0) x4 x5 x6 x7 x8 x18) fun (a35_0, a35_1, a35_2, a35_3, a35_4, a35_5, a35_6) =>
 br (a35_0)
 (br (decide ((x0 + 1) * 32 ≤ 140737488355328))
 (rec (x0 + 1) x1 x2 (IntKind.wrap .i64 (x3 + 1)) a35_1 a35_2 a35_3 a35_4 a35_5 x9 x10 x11 x12 x13 (x0 + 1) (List.append (List.take x0 x15) [[List.headD (List.take 4 (List.getD x17 (Int.toNat x3) [])) 0, List.headD (List.tail (List.take 4 (List.getD x17 (Int.toNat x3) []))) 0, List.headD (List.tail (List.tail (List.take 4 (List.getD x17 (Int.toNat x3) [])))) 0, bi (List.headD (List.tail (List.tail (List.tail (List.take 4 (List.getD x17 (Int.toNat x3) []))))) 0 != 0)]]) x16 x17 a35_6)
 (none))
 (rec x0 x1 x2 (IntKind.wrap .i64 (x3 + 1)) a35_1 a35_2 a35_3 a35_4 a35_5 x9 x10 x11 x12 x13 x14 x15 x16 x17 a35_6))
 (none))
 (some (x0, x4, x5, x6, x7, x8, x9, x10, x11, x12, x13, x14, x15, x18))
def legal_Alll4 : Nat → Nat → Nat → Int → Int → List Int → List Int → Int → List (List Int) → List (List Int) → Int → Int → Int → Int → Bool → Nat → List (List Int) → Nat → List (List Int) → List (List Int × List Int) → Option (Nat × List Int × List Int × Int × List (List Int) × List (List Int) × Int × Int × Int × Int × Bool × Nat × List (List Int) × List (List Int × List Int))
 | 0, _, _, _, _, _, _, _, _, _, _, _, _, _, _, _, _, _, _, _ => none
 | f + 1, x0, x1, x2, x3, x4, x5, x6, x7, x8, x9, x10, x11, x12, x13, x14, x15, x16, x17, x18 => legal_Alll4s (legal_Alll4 f) x0 x1 x2 x3 x4 x5 x6 x7 x8 x9 x10 x11 x12 x13 x14 x15 x16 x17 x18
def legal_Alll10s (rec : Nat → Nat → Int → Int → List Int → List Int → Int → List (List Int) → List (List Int) → Nat → List (List Int) → Nat → List (List Int) → Option (Nat × List Int × List Int × Int × List (List Int) × List (List Int) × Nat × List (List Int))) (x0 x1 : Nat) (x2 x3 : Int) (x4 x5 : List Int) (x6 : Int) (x7 x8 : List (List Int)) (x9 : Nat) (x10 : List (List Int)) (x11 : Nat) (x12 : List (List Int)) : Option (Nat × List Int × List Int × Int × List (List Int) × List (List Int) × Nat × List (List Int)) :=
 br (decide (x3 < x2))
 (br (inB x3 x1)
 (br (List.headD (List.tail (List.tail (List.take 4 (List.getD x12 (Int.toNat x3) [])))) 0 == 1)
 (ob (legal_PawnMates (List.headD (List.tail (List.take 4 (List.getD x12 (Int.toNat x3) []))) 0) x4 x5 x6 x7 x8) fun a46 =>
 br (a46)
 (rec x0 x1 x2 (IntKind.wrap .i64 (x3 + 1)) x4 x5 x6 x7 x8 x9 x10 x11 x12)
 (br (decide ((x0 + 1) * 32 ≤ 140737488355328))
 (rec (x0 + 1) x1 x2 (IntKind.wrap .i64 (x3 + 1)) x4 x5 x6 x7 x8 (x0 + 1) (List.append (List.take x0 x10) [[List.headD (List.take 4 (List.getD x12 (Int.toNat x3) [])) 0, List.headD (List.tail (List.take 4 (List.getD x12 (Int.toNat x3) []))) 0, List.headD (List.tail (List.tail (List.take 4 (List.getD x12 (Int.toNat x3) [])))) 0, bi (List.headD (List.tail (List.tail (List.tail (List.take 4 (List.getD x12 (Int.toNat x3) []))))) 0 != 0)]]) x11 x12)
 (none)))
 (br (decide ((x0 + 1) * 32 ≤ 140737488355328))
 (rec (x0 + 1) x1 x2 (IntKind.wrap .i64 (x3 + 1)) x4 x5 x6 x7 x8 (x0 + 1) (List.append (List.take x0 x10) [[List.headD (List.take 4 (List.getD x12 (Int.toNat x3) [])) 0, List.headD (List.tail (List.take 4 (List.getD x12 (Int.toNat x3) []))) 0, List.headD (List.tail (List.tail (List.take 4 (List.getD x12 (Int.toNat x3) [])))) 0, bi (List.headD (List.tail (List.tail (List.tail (List.take 4 (List.getD x12 (Int.toNat x3) []))))) 0 != 0)]]) x11 x12)
 (none)))
 (none))
 (some (x0, x4, x5, x6, x7, x8, x9, x10))
def legal_Alll10 : Nat → Nat → Nat → Int → Int → List Int → List Int → Int → List (List Int) → List (List Int) → Nat → List (List Int) → Nat → List (List Int) → Option (Nat × List Int × List Int × Int × List (List Int) × List (List Int) × Nat × List (List Int))
 | 0, _, _, _, _, _, _, _, _, _, _, _, _, _ => none
 | f + 1, x0, x1, x2, x3, x4, x5, x6, x7, x8, x9, x10, x11, x12 => legal_Alll10s (legal_Alll10 f) x0 x1 x2 x3 x4 x5 x6 x7 x8 x9 x10 x11 x12
def legal_All (x0 x1 : List Int) (x2 : Int) (x3 x4 : List (List Int)) : Option (Nat × List Int × List Int × Int × List (List Int) × List (List Int) × Nat × List (List Int)) :=
 ob (legal_look x0 x1 x2 x3 x4) fun (a5_0, a5_1, a5_2, a5_3, a5_4, a5_5) =>
 ob (set_All ) fun (a11_0, a11_1) =>
 ob (gen_Board a11_0 a11_1 x0 x1 x2 x3 x4) fun (a13_0, a13_1, a13_2) =>
 ob (legal_Alll4 many 0 a13_0 (Int.ofNat a13_0) 0 x0 x1 x2 x3 x4 a5_0 a5_1 a5_2 a5_3 a5_4 0 [] a13_1 a13_2 a5_5) fun (a16_0, a16_1, a16_2, a16_3, a16_4, a16_5, _, _, a16_8, a16_9, _, a16_11, a16_12, _) =>
 ob (gen_Drops a16_8 a16_9 a16_1 a16_2 a16_3 a16_4 a16_5) fun (a30_0, a30_1, a30_2) =>
 ob (legal_Alll10 many a16_0 a30_0 (Int.ofNat a30_0) 0 a16_1 a16_2 a16_3 a16_4 a16_5 a16_11 a16_12 a30_1 a30_2) fun (a33_0, a33_1, a33_2, a33_3, a33_4, a33_5, a33_6, a33_7) =>
 some (a33_0, a33_1, a33_2, a33_3, a33_4, a33_5, a33_6, a33_7)
def ref11_Safe (x0 x1 : List Int) (x2 x3 : Int) (x4 x5 : Int) (x6 : Bool) : Option (Bool) :=
 ob (ref09_After x0 x1 x2 x3 x4 x5 x6) fun (a7_0, a7_1, a7_2) =>
 ob (ref08_InCheck a7_0 a7_1 a7_2 x2) fun a10 =>
 some (!a10)
def ref11_Stuckl3s (rec : Nat → Int → List Int → List Int → Int → Nat → List (List Int) → Option ((Bool) ⊕ (Unit))) (x0 : Nat) (x1 : Int) (x2 x3 : List Int) (x4 : Int) (x5 : Nat) (x6 : List (List Int)) : Option ((Bool) ⊕ (Unit)) :=
 br (decide (x1 < Int.ofNat x0))
 (br (inB x1 x0)
 (ob (ref11_Safe x2 x3 x4 (List.headD (List.take 4 (List.getD x6 (Int.toNat x1) [])) 0) (List.headD (List.tail (List.take 4 (List.getD x6 (Int.toNat x1) []))) 0) (List.headD (List.tail (List.tail (List.take 4 (List.getD x6 (Int.toNat x1) [])))) 0) (List.headD (List.tail (List.tail (List.tail (List.take 4 (List.getD x6 (Int.toNat x1) []))))) 0 != 0)) fun a13 =>
 br (a13)
 (some (.inl (false)))
 (rec x0 (IntKind.wrap .i64 (x1 + 1)) x2 x3 x4 x5 x6))
 (none))
 (some (.inr ()))
def ref11_Stuckl3 : Nat → Nat → Int → List Int → List Int → Int → Nat → List (List Int) → Option ((Bool) ⊕ (Unit))
 | 0, _, _, _, _, _, _, _ => none
 | f + 1, x0, x1, x2, x3, x4, x5, x6 => ref11_Stuckl3s (ref11_Stuckl3 f) x0 x1 x2 x3 x4 x5 x6
def ref11_Stuck (x0 x1 : List Int) (x2 : Int) : Option (Bool) :=
 ob (ref10_All x0 x1 x2) fun (a3_0, a3_1, a3_2) =>
 ob (ref11_Stuckl3 many a3_0 0 x0 x1 x2 a3_1 a3_2) fun t6_2 =>
 sw t6_2 (fun a6 =>
 some (a6))
 (fun _ =>
 some (true))
def ref11_Legal (x0 x1 : List Int) (x2 x3 : Int) (x4 x5 : Int) (x6 : Bool) : Option (Bool) :=
 ob (ref11_Safe x0 x1 x2 x3 x4 x5 x6) fun a7 =>
 br (!a7)
 (some (false))
 (br (x5 != 1)
 (some (true))
 (ob (ref09_After x0 x1 x2 x3 x4 x5 x6) fun (a8_0, a8_1, a8_2) =>
 ob (ref08_InCheck a8_0 a8_1 a8_2 a8_2) fun a11 =>
 br (!a11)
 (some (true))
 (ob (ref11_Stuck a8_0 a8_1 a8_2) fun a12 =>
 some (!a12))))
def ref11_Alll4s (rec : Nat → Nat → Int → List Int → List Int → Int → Nat → List (List Int) → Nat → List (List Int) → Option (Nat × Nat × List (List Int))) (x0 x1 : Nat) (x2 : Int) (x3 x4 : List Int) (x5 : Int) (x6 : Nat) (x7 : List (List Int)) (x8 : Nat) (x9 : List (List Int)) : Option (Nat × Nat × List (List Int)) :=
 br (decide (x2 < Int.ofNat x1))
 (br (inB x2 x1)
 (ob (ref11_Legal x3 x4 x5 (List.headD (List.take 4 (List.getD x9 (Int.toNat x2) [])) 0) (List.headD (List.tail (List.take 4 (List.getD x9 (Int.toNat x2) []))) 0) (List.headD (List.tail (List.tail (List.take 4 (List.getD x9 (Int.toNat x2) [])))) 0) (List.headD (List.tail (List.tail (List.tail (List.take 4 (List.getD x9 (Int.toNat x2) []))))) 0 != 0)) fun a16 =>
 br (a16)
 (br (inB x2 x1)
 (br (decide ((x0 + 1) * 32 ≤ 140737488355328))
 (rec (x0 + 1) x1 (IntKind.wrap .i64 (x2 + 1)) x3 x4 x5 (x0 + 1) (List.append (List.take x0 x7) [[List.headD (List.take 4 (List.getD x9 (Int.toNat x2) [])) 0, List.headD (List.tail (List.take 4 (List.getD x9 (Int.toNat x2) []))) 0, List.headD (List.tail (List.tail (List.take 4 (List.getD x9 (Int.toNat x2) [])))) 0, bi (List.headD (List.tail (List.tail (List.tail (List.take 4 (List.getD x9 (Int.toNat x2) []))))) 0 != 0)]]) x8 x9)
 (none))
 (none))
 (rec x0 x1 (IntKind.wrap .i64 (x2 + 1)) x3 x4 x5 x6 x7 x8 x9))
 (none))
 (some (x0, x6, x7))
def ref11_Alll4 : Nat → Nat → Nat → Int → List Int → List Int → Int → Nat → List (List Int) → Nat → List (List Int) → Option (Nat × Nat × List (List Int))
 | 0, _, _, _, _, _, _, _, _, _, _ => none
 | f + 1, x0, x1, x2, x3, x4, x5, x6, x7, x8, x9 => ref11_Alll4s (ref11_Alll4 f) x0 x1 x2 x3 x4 x5 x6 x7 x8 x9
def ref11_All (x0 x1 : List Int) (x2 : Int) : Option (Nat × Nat × List (List Int)) :=
 ob (ref10_All x0 x1 x2) fun (a3_0, a3_1, a3_2) =>
 ob (ref11_Alll4 many 0 a3_0 0 x0 x1 x2 0 [] a3_1 a3_2) fun (a6_0, a6_1, a6_2) =>
 some (a6_0, a6_1, a6_2)
def mate_Stuck (x0 x1 : List Int) (x2 : Int) (x3 x4 : List (List Int)) : Option (Bool × List Int × List Int × Int × List (List Int) × List (List Int)) :=
 ob (legal_All x0 x1 x2 x3 x4) fun (a5_0, a5_1, a5_2, a5_3, a5_4, a5_5, _, _) =>
 some (Int.ofNat a5_0 == 0, a5_1, a5_2, a5_3, a5_4, a5_5)
def mate_Mated (x0 x1 : List Int) (x2 : Int) (x3 x4 : List (List Int)) : Option (Bool × List Int × List Int × Int × List (List Int) × List (List Int)) :=
 ob (attack_InCheck x2 x0 x1 x2 x3 x4) fun a5 =>
 br (a5)
 (ob (mate_Stuck x0 x1 x2 x3 x4) fun (a6_0, a6_1, a6_2, a6_3, a6_4, a6_5) =>
 some (a6_0, a6_1, a6_2, a6_3, a6_4, a6_5))
 (some (false, x0, x1, x2, x3, x4))
def mate_Gives_v1 (x0 x1 x2 : Int) (x3 : Bool) (x4 : Int) (x5 : Nat) (x6 x7 : List Int) (x8 : Int) (x9 x10 : List (List Int)) (x11 : Nat) (x12 : List (List Int)) : Option ((Bool × Int × Nat × List Int × List Int × Int × List (List Int) × List (List Int) × Nat × List (List Int)) ⊕ (Bool × Int × Nat × List Int × List Int × Int × List (List Int) × List (List Int) × Nat × List (List Int))) :=
 ob (deed_Game_Make x0 x1 x2 x3 x4 x5 x6 x7 x8 x9 x10 x11 x12) fun t13_2 =>
 sw t13_2 (fun (a13_0, a13_1, a13_2, a13_3, a13_4, a13_5, a13_6, a13_7, a13_8, a13_9) =>
 br (!a13_0)
 (some (.inl (false, a13_1, a13_2, a13_3, a13_4, a13_5, a13_6, a13_7, a13_8, a13_9)))
 (ob (attack_InCheck a13_5 a13_3 a13_4 a13_5 a13_6 a13_7) fun a23 =>
 ob (deed_Game_Back a13_1 a13_2 a13_3 a13_4 a13_5 a13_6 a13_7 a13_8 a13_9) fun (_, a24_1, a24_2, a24_3, a24_4, a24_5, a24_6, a24_7, a24_8, a24_9) =>
 some (.inl (a23, a24_1, a24_2, a24_3, a24_4, a24_5, a24_6, a24_7, a24_8, a24_9))))
 (fun (a13_0, a13_1, a13_2, a13_3, a13_4, a13_5, a13_6, a13_7, a13_8, a13_9) =>
 br (!a13_0)
 (some (.inr (false, a13_1, a13_2, a13_3, a13_4, a13_5, a13_6, a13_7, a13_8, a13_9)))
 (ob (attack_InCheck a13_5 a13_3 a13_4 a13_5 a13_6 a13_7) fun a23 =>
 ob (deed_Game_Back a13_1 a13_2 a13_3 a13_4 a13_5 a13_6 a13_7 a13_8 a13_9) fun (_, a24_1, a24_2, a24_3, a24_4, a24_5, a24_6, a24_7, a24_8, a24_9) =>
 some (.inr (a23, a24_1, a24_2, a24_3, a24_4, a24_5, a24_6, a24_7, a24_8, a24_9))))
def mate_Checks_v1l4s (rec : Nat → Nat → Int → Int → Int → Nat → Nat → List (List Int) → Nat → List (List Int) → List Int → List Int → Int → List (List Int) → List (List Int) → Nat → List (List Int) → Option (Nat × Nat × List (List Int))) (x0 x1 : Nat) (x2 x3 x4 : Int) (x5 x6 : Nat) (x7 : List (List Int)) (x8 : Nat) (x9 : List (List Int)) (x10 x11 : List Int) (x12 : Int) (x13 x14 : List (List Int)) (x15 : Nat) (x16 : List (List Int)) : Option (Nat × Nat × List (List Int)) :=
 br (decide (x3 < x2))
 (br (inB x3 x1)
 (ob (mate_Gives_v1 (List.headD (List.take 4 (List.getD x9 (Int.toNat x3) [])) 0) (List.headD (List.tail (List.take 4 (List.getD x9 (Int.toNat x3) []))) 0) (List.headD (List.tail (List.tail (List.take 4 (List.getD x9 (Int.toNat x3) [])))) 0) (List.headD (List.tail (List.tail (List.tail (List.take 4 (List.getD x9 (Int.toNat x3) []))))) 0 != 0) x4 x5 x10 x11 x12 x13 x14 x15 x16) fun t37_2 =>
 sw t37_2 (fun (a37_0, a37_1, a37_2, a37_3, a37_4, a37_5, a37_6, a37_7, a37_8, a37_9) =>
 br (a37_0)
 (br (decide ((x0 + 1) * 32 ≤ 140737488355328))
 (rec (x0 + 1) x1 x2 (IntKind.wrap .i64 (x3 + 1)) a37_1 a37_2 (x0 + 1) (List.append (List.take x0 x7) [[List.headD (List.take 4 (List.getD x9 (Int.toNat x3) [])) 0, List.headD (List.tail (List.take 4 (List.getD x9 (Int.toNat x3) []))) 0, List.headD (List.tail (List.tail (List.take 4 (List.getD x9 (Int.toNat x3) [])))) 0, bi (List.headD (List.tail (List.tail (List.tail (List.take 4 (List.getD x9 (Int.toNat x3) []))))) 0 != 0)]]) x8 x9 a37_3 a37_4 a37_5 a37_6 a37_7 a37_8 a37_9)
 (none))
 (rec x0 x1 x2 (IntKind.wrap .i64 (x3 + 1)) a37_1 a37_2 x6 x7 x8 x9 a37_3 a37_4 a37_5 a37_6 a37_7 a37_8 a37_9))
 (fun (a37_0, a37_1, a37_2, a37_3, a37_4, a37_5, a37_6, a37_7, a37_8, a37_9) =>
 br (a37_0)
 (br (decide ((x0 + 1) * 32 ≤ 140737488355328))
 (rec (x0 + 1) x1 x2 (IntKind.wrap .i64 (x3 + 1)) a37_1 a37_2 (x0 + 1) (List.append (List.take x0 x7) [[List.headD (List.take 4 (List.getD x9 (Int.toNat x3) [])) 0, List.headD (List.tail (List.take 4 (List.getD x9 (Int.toNat x3) []))) 0, List.headD (List.tail (List.tail (List.take 4 (List.getD x9 (Int.toNat x3) [])))) 0, bi (List.headD (List.tail (List.tail (List.tail (List.take 4 (List.getD x9 (Int.toNat x3) []))))) 0 != 0)]]) x8 x9 a37_3 a37_4 a37_5 a37_6 a37_7 a37_8 a37_9)
 (none))
 (rec x0 x1 x2 (IntKind.wrap .i64 (x3 + 1)) a37_1 a37_2 x6 x7 x8 x9 a37_3 a37_4 a37_5 a37_6 a37_7 a37_8 a37_9)))
 (none))
 (some (x0, x6, x7))
def mate_Checks_v1l4 : Nat → Nat → Nat → Int → Int → Int → Nat → Nat → List (List Int) → Nat → List (List Int) → List Int → List Int → Int → List (List Int) → List (List Int) → Nat → List (List Int) → Option (Nat × Nat × List (List Int))
 | 0, _, _, _, _, _, _, _, _, _, _, _, _, _, _, _, _, _ => none
 | f + 1, x0, x1, x2, x3, x4, x5, x6, x7, x8, x9, x10, x11, x12, x13, x14, x15, x16 => mate_Checks_v1l4s (mate_Checks_v1l4 f) x0 x1 x2 x3 x4 x5 x6 x7 x8 x9 x10 x11 x12 x13 x14 x15 x16
def mate_Checks_v1 (x0 x1 : List Int) (x2 : Int) : Option (Nat × Nat × List (List Int)) :=
 ob (deed_New x0 x1 x2) fun (a3_0, a3_1, a3_2, a3_3, a3_4, a3_5, a3_6, a3_7, a3_8) =>
 ob (legal_All a3_2 a3_3 a3_4 a3_5 a3_6) fun (a12_0, a12_1, a12_2, a12_3, a12_4, a12_5, a12_6, a12_7) =>
 ob (mate_Checks_v1l4 many 0 a12_0 (Int.ofNat a12_0) 0 a3_0 a3_1 0 [] a12_6 a12_7 a12_1 a12_2 a12_3 a12_4 a12_5 a3_7 a3_8) fun (a20_0, a20_1, a20_2) =>
 some (a20_0, a20_1, a20_2)
def mate_InOne_v1l2s (rec : Nat → Int → Int → List Int → List Int → Int → Int → Int → Int → Bool → Nat → List (List Int) → Option ((Bool × Int × Int × Int × Bool) ⊕ (Int × Int × Int × Bool))) (x0 : Nat) (x1 x2 : Int) (x3 x4 : List Int) (x5 x6 : Int) (x7 x8 : Int) (x9 : Bool) (x10 : Nat) (x11 : List (List Int)) : Option ((Bool × Int × Int × Int × Bool) ⊕ (Int × Int × Int × Bool)) :=
 br (decide (x2 < x1))
 (br (inB x2 x0)
 (ob (deed_After x3 x4 x5 (List.headD (List.take 4 (List.getD x11 (Int.toNat x2) [])) 0) (List.headD (List.tail (List.take 4 (List.getD x11 (Int.toNat x2) []))) 0) (List.headD (List.tail (List.tail (List.take 4 (List.getD x11 (Int.toNat x2) [])))) 0) (List.headD (List.tail (List.tail (List.tail (List.take 4 (List.getD x11 (Int.toNat x2) []))))) 0 != 0)) fun (a18_0, a18_1, a18_2, a18_3) =>
 br (a18_3)
 (ob (board_New a18_0 a18_1 a18_2) fun (a22_0, a22_1, a22_2, a22_3, a22_4) =>
 ob (mate_Mated a22_0 a22_1 a22_2 a22_3 a22_4) fun (a27_0, _, _, _, _, _) =>
 br (a27_0)
 (some (.inl (true, List.headD (List.take 4 (List.getD x11 (Int.toNat x2) [])) 0, List.headD (List.tail (List.take 4 (List.getD x11 (Int.toNat x2) []))) 0, List.headD (List.tail (List.tail (List.take 4 (List.getD x11 (Int.toNat x2) [])))) 0, List.headD (List.tail (List.tail (List.tail (List.take 4 (List.getD x11 (Int.toNat x2) []))))) 0 != 0)))
 (rec x0 x1 (IntKind.wrap .i64 (x2 + 1)) x3 x4 x5 x6 x7 x8 x9 x10 x11))
 (rec x0 x1 (IntKind.wrap .i64 (x2 + 1)) x3 x4 x5 x6 x7 x8 x9 x10 x11))
 (none))
 (some (.inr (x6, x7, x8, x9)))
def mate_InOne_v1l2 : Nat → Nat → Int → Int → List Int → List Int → Int → Int → Int → Int → Bool → Nat → List (List Int) → Option ((Bool × Int × Int × Int × Bool) ⊕ (Int × Int × Int × Bool))
 | 0, _, _, _, _, _, _, _, _, _, _, _, _ => none
 | f + 1, x0, x1, x2, x3, x4, x5, x6, x7, x8, x9, x10, x11 => mate_InOne_v1l2s (mate_InOne_v1l2 f) x0 x1 x2 x3 x4 x5 x6 x7 x8 x9 x10 x11
def mate_InOne_v1 (x0 x1 : List Int) (x2 : Int) : Option (Int × Int × Int × Bool × Bool) :=
 ob (mate_Checks_v1 x0 x1 x2) fun (a3_0, a3_1, a3_2) =>
 ob (mate_InOne_v1l2 many a3_0 (Int.ofNat a3_0) 0 x0 x1 x2 0 0 0 false a3_1 a3_2) fun t6_2 =>
 sw t6_2 (fun (a6_0, a6_1, a6_2, a6_3, a6_4) =>
 some (a6_1, a6_2, a6_3, a6_4, a6_0))
 (fun (_, _, _, _) =>
 some (0, 0, 0, false, false))
def law12_mates_v1 : Option (Bool) :=
 ob (mate_InOne_v1 ([0, 0, 0, 0, 0, 0, 0, 0, 0, 0, 0, 0, 0, 0, 0, 0, 0, 0, 0, 0, 0, 0, 0, 0, 0, 0, 0, 0, 0, 0, 0, 0, 0, 0, 0, 0, 24, 0, 1, 0, 0, 0, 0, 0, 0, 0, 0, 0, 0, 0, 0, 0, 0, 0, 0, 0, 0, 0, 0, 0, 0, 0, 0, 0, 0, 0, 0, 0, 0, 0, 0, 0, 0, 0, 0, 0, 0, 0, 0, 0, 8]) ([0, 0, 0, 0, 0, 1, 0, 0, 0, 0, 0, 0, 0, 0, 0, 0]) 0) fun (a0_0, a0_1, a0_2, a0_3, a0_4) =>
 br (a0_4)
 (br (a0_0 == 0 && (a0_1 == 37 && (a0_2 == 5 && a0_3 == false)))
 (ob (mate_Checks_v1 ([0, 0, 0, 0, 0, 0, 0, 0, 0, 0, 0, 0, 0, 0, 0, 0, 0, 0, 0, 0, 0, 0, 0, 0, 0, 0, 0, 0, 0, 0, 0, 0, 0, 0, 0, 0, 24, 0, 1, 0, 0, 0, 0, 0, 0, 0, 0, 0, 0, 0, 0, 0, 0, 0, 0, 0, 0, 0, 0, 0, 0, 0, 0, 0, 0, 0, 0, 0, 0, 0, 0, 0, 0, 0, 0, 0, 0, 0, 0, 0, 8]) ([0, 0, 0, 0, 0, 1, 0, 0, 0, 0, 0, 0, 0, 0, 0, 0]) 0) fun (a5_0, _, _) =>
 br (Int.ofNat a5_0 == 7)
 (ob (board_New ([0, 0, 0, 0, 0, 0, 0, 0, 0, 0, 0, 0, 0, 0, 0, 0, 0, 0, 0, 0, 0, 0, 0, 0, 0, 0, 0, 0, 0, 0, 0, 0, 0, 0, 0, 0, 24, 0, 1, 0, 0, 0, 0, 0, 0, 0, 0, 0, 0, 0, 0, 0, 0, 0, 0, 0, 0, 0, 0, 0, 0, 0, 0, 0, 0, 0, 0, 0, 0, 0, 0, 0, 0, 0, 0, 0, 0, 0, 0, 0, 8]) ([0, 0, 0, 0, 0, 1, 0, 0, 0, 0, 0, 0, 0, 0, 0, 0]) 0) fun (a8_0, a8_1, a8_2, a8_3, a8_4) =>
 ob (mate_Mated a8_0 a8_1 a8_2 a8_3 a8_4) fun (a13_0, _, _, _, _, _) =>
 some (!a13_0))
 (some (false)))
 (some (false)))
 (some (false))
def ref12_Stuck (x0 x1 : List Int) (x2 : Int) : Option (Bool) :=
 ob (ref11_All x0 x1 x2) fun (a3_0, _, _) =>
 some (Int.ofNat a3_0 == 0)
def ref12_Mated (x0 x1 : List Int) (x2 : Int) : Option (Bool) :=
 ob (ref08_InCheck x0 x1 x2 x2) fun a3 =>
 br (a3)
 (ob (ref12_Stuck x0 x1 x2) fun a4 =>
 some (a4))
 (some (false))
def law12_MateStuck (x0 x1 : List Int) (x2 : Int) : Option (Bool) :=
 ob (law12_mates_v1 ) fun a3 =>
 br (!a3)
 (some (false))
 (ob (ref08_Check x0 x1 x2) fun a4 =>
 br (a4 != 0)
 (some (true))
 (ob (board_New x0 x1 x2) fun (a5_0, a5_1, a5_2, a5_3, a5_4) =>
 ob (mate_Stuck a5_0 a5_1 a5_2 a5_3 a5_4) fun (a10_0, a10_1, a10_2, a10_3, a10_4, a10_5) =>
 ob (ref12_Stuck x0 x1 x2) fun a16 =>
 br (a10_0 == a16)
 (ob (mate_Mated a10_1 a10_2 a10_3 a10_4 a10_5) fun (a17_0, _, _, _, _, _) =>
 ob (ref12_Mated x0 x1 x2) fun a23 =>
 some (a17_0 == a23))
 (some (false))))
end Go.Kk.Pl
