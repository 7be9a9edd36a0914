/- Printed by a tool of this project (KkGen): the plain functions that the program's code comes to. -/
import Derived.Test.YthhkpianmpgeiaaDoorKkE
namespace Go.Kk.Pl
def set_Square (x0 x1 : Int) : Option (Int) :=
 br (decide (x0 < 0))
 (some (-1))
 (br (decide (x0 > 8))
 (some (-1))
 (br (decide (x1 < 0))
 (some (-1))
 (br (decide (x1 > 8))
 (some (-1))
 (some (IntKind.wrap .i64 (IntKind.wrap .i64 (9 * x0) + x1))))))
def board_Start_1 (x0 x1 x2 : Int) : Option (Int) :=
 br (x1 == 1)
 (ob (set_Square x2 x0) fun a3 =>
 some (a3))
 (ob (set_Square x2 (IntKind.wrap .i64 (8 - x0))) fun a3 =>
 some (a3))
def piece_Of (x0 x1 : Int) : Option (Int) :=
 br (x0 != 0)
 (br (x0 != 1)
 (some (0))
 (br (decide (x1 < 1))
 (some (0))
 (br (decide (x1 > 15))
 (some (0))
 (br (x1 == 13)
 (some (0))
 (some (conv .i64 .i8 (IntKind.wrap .i64 (IntKind.wrap .i64 (16 * x0) + x1))))))))
 (br (decide (x1 < 1))
 (some (0))
 (br (decide (x1 > 15))
 (some (0))
 (br (x1 == 13)
 (some (0))
 (some (conv .i64 .i8 (IntKind.wrap .i64 (IntKind.wrap .i64 (16 * x0) + x1)))))))
def board_Startl7s (rec : Int → Int → List Int → List Int → Int → List Int → List Int → Int → List Int → Int → Option (Int × List Int × List Int × Int × List Int × List Int × Int × List Int)) (x0 x1 : Int) (x2 x3 : List Int) (x4 : Int) (x5 x6 : List Int) (x7 : Int) (x8 : List Int) (x9 : Int) : Option (Int × List Int × List Int × Int × List Int × List Int × Int × List Int) :=
 br (decide (x1 < 2))
 (ob (board_Start_1 0 x1 x9) fun a18 =>
 br (inB x9 9)
 (ob (piece_Of x1 (List.getD x8 (Int.toNat x9) 0)) fun a19 =>
 br (inB a18 81)
 (ob (board_Start_1 2 x1 x9) fun a20 =>
 ob (piece_Of x1 1) fun a21 =>
 br (inB a20 81)
 (rec x0 (IntKind.wrap .i64 (x1 + 1)) x2 x3 x4 (List.set (List.set x5 (Int.toNat a18) a19) (Int.toNat a20) a21) x6 x7 x8 x9)
 (none))
 (none))
 (none))
 (some (x0, x2, x3, x4, x5, x6, x7, x8))
def board_Startl7 : Nat → Int → Int → List Int → List Int → Int → List Int → List Int → Int → List Int → Int → Option (Int × List Int × List Int × Int × List Int × List Int × Int × List Int)
 | 0, _, _, _, _, _, _, _, _, _, _ => none
 | f + 1, x0, x1, x2, x3, x4, x5, x6, x7, x8, x9 => board_Startl7s (board_Startl7 f) x0 x1 x2 x3 x4 x5 x6 x7 x8 x9
def board_Startl4s (rec : Int → List Int → List Int → Int → List Int → List Int → Int → List Int → Option (List Int × List Int × Int × List Int × List Int × Int)) (x0 : Int) (x1 x2 : List Int) (x3 : Int) (x4 x5 : List Int) (x6 : Int) (x7 : List Int) : Option (List Int × List Int × Int × List Int × List Int × Int) :=
 br (decide (x0 < 9))
 (ob (board_Startl7 many x0 0 x1 x2 x3 x4 x5 x6 x7 x0) fun (a8_0, a8_1, a8_2, a8_3, a8_4, a8_5, a8_6, a8_7) =>
 rec (IntKind.wrap .i64 (a8_0 + 1)) a8_1 a8_2 a8_3 a8_4 a8_5 a8_6 a8_7)
 (some (x1, x2, x3, x4, x5, x6))
def board_Startl4 : Nat → Int → List Int → List Int → Int → List Int → List Int → Int → List Int → Option (List Int × List Int × Int × List Int × List Int × Int)
 | 0, _, _, _, _, _, _, _, _ => none
 | f + 1, x0, x1, x2, x3, x4, x5, x6, x7 => board_Startl4s (board_Startl4 f) x0 x1 x2 x3 x4 x5 x6 x7
def board_Start : Option (List Int × List Int × Int) :=
 ob (board_Startl4 many 0 ([0, 0, 0, 0, 0, 0, 0, 0, 0, 0, 0, 0, 0, 0, 0, 0, 0, 0, 0, 0, 0, 0, 0, 0, 0, 0, 0, 0, 0, 0, 0, 0, 0, 0, 0, 0, 0, 0, 0, 0, 0, 0, 0, 0, 0, 0, 0, 0, 0, 0, 0, 0, 0, 0, 0, 0, 0, 0, 0, 0, 0, 0, 0, 0, 0, 0, 0, 0, 0, 0, 0, 0, 0, 0, 0, 0, 0, 0, 0, 0, 0]) ([0, 0, 0, 0, 0, 0, 0, 0, 0, 0, 0, 0, 0, 0, 0, 0]) 0 ([0, 0, 0, 0, 0, 0, 0, 0, 0, 0, 0, 0, 0, 0, 0, 0, 0, 0, 0, 0, 0, 0, 0, 0, 0, 0, 0, 0, 0, 0, 0, 0, 0, 0, 0, 0, 0, 0, 0, 0, 0, 0, 0, 0, 0, 0, 0, 0, 0, 0, 0, 0, 0, 0, 0, 0, 0, 0, 0, 0, 0, 0, 0, 0, 0, 0, 0, 0, 0, 0, 0, 0, 0, 0, 0, 0, 0, 0, 0, 0, 0]) ([0, 0, 0, 0, 0, 0, 0, 0, 0, 0, 0, 0, 0, 0, 0, 0]) 0 ([2, 3, 4, 5, 8, 5, 4, 3, 2])) fun (_, _, _, a0_3, a0_4, a0_5) =>
 ob (set_Square 7 7) fun a6 =>
 ob (set_Square 1 7) fun a7 =>
 br (inB a6 81)
 (br (inB a7 81)
 (ob (set_Square 1 1) fun a8 =>
 ob (set_Square 7 1) fun a9 =>
 br (inB a8 81)
 (br (inB a9 81)
 (some (List.set (List.set (List.set (List.set a0_3 (Int.toNat a6) 6) (Int.toNat a7) 7) (Int.toNat a8) 22) (Int.toNat a9) 23, a0_4, a0_5))
 (none))
 (none))
 (none))
 (none)
def piece_Kind (x0 : Int) : Option (Int) :=
 br (decide (x0 ≤ 0))
 (br (x0 == 8)
 (some (8))
 (br (x0 == 24)
 (some (8))
 (some (0))))
 (br (decide (x0 > 31))
 (br (x0 == 8)
 (some (8))
 (br (x0 == 24)
 (some (8))
 (some (0))))
 (br (bitop BinOp.and .i64 x0 15 == 0)
 (br (x0 == 8)
 (some (8))
 (br (x0 == 24)
 (some (8))
 (some (0))))
 (br (bitop BinOp.and .i64 x0 15 == 13)
 (br (x0 == 8)
 (some (8))
 (br (x0 == 24)
 (some (8))
 (some (0))))
 (some (bitop BinOp.and .i64 x0 15)))))
def set_bit (x0 : Int) : Option (Int × Int) :=
 br (decide (x0 < 0))
 (some (0, 0))
 (br (decide (x0 ≥ 81))
 (some (0, 0))
 (br (decide (x0 < 63))
 (br (decide (x0 < 0))
 (none)
 (some (IntKind.wrap .u64 (1 * 2 ^ min (Int.toNat x0) 64), 0)))
 (br (decide (IntKind.wrap .i64 (x0 - 63) < 0))
 (none)
 (some (0, IntKind.wrap .u64 (1 * 2 ^ min (Int.toNat (IntKind.wrap .i64 (x0 - 63))) 64))))))
def set_Minus (x0 x1 : Int) (x2 x3 : Int) : Option (Int × Int) :=
 some (bitop BinOp.andNot .u64 x0 x2, bitop BinOp.andNot .u64 x1 x3)
def set_Without (x0 x1 x2 : Int) : Option (Int × Int) :=
 ob (set_bit x2) fun (a3_0, a3_1) =>
 ob (set_Minus x0 x1 a3_0 a3_1) fun (a5_0, a5_1) =>
 some (a5_0, a5_1)
def piece_Side (x0 : Int) : Option (Int) :=
 ob (piece_Kind x0) fun a1 =>
 br (a1 == 0)
 (some (-1))
 (br (decide (x0 < 16))
 (some (0))
 (some (1)))
def set_Or (x0 x1 : Int) (x2 x3 : Int) : Option (Int × Int) :=
 some (bitop BinOp.or .u64 x0 x2, bitop BinOp.or .u64 x1 x3)
def set_With (x0 x1 x2 : Int) : Option (Int × Int) :=
 ob (set_bit x2) fun (a3_0, a3_1) =>
 ob (set_Or x0 x1 a3_0 a3_1) fun (a5_0, a5_1) =>
 some (a5_0, a5_1)
def board_Put (x0 x1 : Int) (x2 x3 : List Int) (x4 : Int) (x5 x6 : List (List Int)) : Option (List Int × List Int × Int × List (List Int) × List (List Int)) :=
 br (decide (x0 < 0))
 (some (x2, x3, x4, x5, x6))
 (br (decide (x0 ≥ 81))
 (some (x2, x3, x4, x5, x6))
 (br (inB x0 81)
 (br (List.getD x2 (Int.toNat x0) 0 != 0)
 (br (inB (List.getD x2 (Int.toNat x0) 0) 32)
 (ob (set_Without (List.headD (List.take 2 (List.getD x5 (Int.toNat (List.getD x2 (Int.toNat x0) 0)) [])) 0) (List.headD (List.tail (List.take 2 (List.getD x5 (Int.toNat (List.getD x2 (Int.toNat x0) 0)) []))) 0) x0) fun (a7_0, a7_1) =>
 br (inB (List.getD x2 (Int.toNat x0) 0) 32)
 (ob (piece_Side (List.getD x2 (Int.toNat x0) 0)) fun a9 =>
 ob (piece_Side (List.getD x2 (Int.toNat x0) 0)) fun a10 =>
 br (inB a10 2)
 (ob (set_Without (List.headD (List.take 2 (List.getD x6 (Int.toNat a10) [])) 0) (List.headD (List.tail (List.take 2 (List.getD x6 (Int.toNat a10) []))) 0) x0) fun (a11_0, a11_1) =>
 br (inB a9 2)
 (ob (piece_Kind x1) fun a13 =>
 br (a13 == 0)
 (br (inB x0 81)
 (some (List.set x2 (Int.toNat x0) 0, x3, x4, List.set x5 (Int.toNat (List.getD x2 (Int.toNat x0) 0)) (a7_0 :: a7_1 :: List.drop 2 (List.getD x5 (Int.toNat (List.getD x2 (Int.toNat x0) 0)) [])), List.set x6 (Int.toNat a9) (a11_0 :: a11_1 :: List.drop 2 (List.getD x6 (Int.toNat a9) []))))
 (none))
 (br (inB x0 81)
 (br (x1 != 0)
 (br (inB x1 32)
 (ob (set_With (List.headD (List.take 2 (List.getD (List.set x5 (Int.toNat (List.getD x2 (Int.toNat x0) 0)) (a7_0 :: a7_1 :: List.drop 2 (List.getD x5 (Int.toNat (List.getD x2 (Int.toNat x0) 0)) []))) (Int.toNat x1) [])) 0) (List.headD (List.tail (List.take 2 (List.getD (List.set x5 (Int.toNat (List.getD x2 (Int.toNat x0) 0)) (a7_0 :: a7_1 :: List.drop 2 (List.getD x5 (Int.toNat (List.getD x2 (Int.toNat x0) 0)) []))) (Int.toNat x1) []))) 0) x0) fun (a14_0, a14_1) =>
 br (inB x1 32)
 (ob (piece_Side x1) fun a16 =>
 ob (piece_Side x1) fun a17 =>
 br (inB a17 2)
 (ob (set_With (List.headD (List.take 2 (List.getD (List.set x6 (Int.toNat a9) (a11_0 :: a11_1 :: List.drop 2 (List.getD x6 (Int.toNat a9) []))) (Int.toNat a17) [])) 0) (List.headD (List.tail (List.take 2 (List.getD (List.set x6 (Int.toNat a9) (a11_0 :: a11_1 :: List.drop 2 (List.getD x6 (Int.toNat a9) []))) (Int.toNat a17) []))) 0) x0) fun (a18_0, a18_1) =>
 br (inB a16 2)
 (some (List.set x2 (Int.toNat x0) x1, x3, x4, List.set (List.set x5 (Int.toNat (List.getD x2 (Int.toNat x0) 0)) (a7_0 :: a7_1 :: List.drop 2 (List.getD x5 (Int.toNat (List.getD x2 (Int.toNat x0) 0)) []))) (Int.toNat x1) (a14_0 :: a14_1 :: List.drop 2 (List.getD (List.set x5 (Int.toNat (List.getD x2 (Int.toNat x0) 0)) (a7_0 :: a7_1 :: List.drop 2 (List.getD x5 (Int.toNat (List.getD x2 (Int.toNat x0) 0)) []))) (Int.toNat x1) [])), List.set (List.set x6 (Int.toNat a9) (a11_0 :: a11_1 :: List.drop 2 (List.getD x6 (Int.toNat a9) []))) (Int.toNat a16) (a18_0 :: a18_1 :: List.drop 2 (List.getD (List.set x6 (Int.toNat a9) (a11_0 :: a11_1 :: List.drop 2 (List.getD x6 (Int.toNat a9) []))) (Int.toNat a16) []))))
 (none))
 (none))
 (none))
 (none))
 (some (List.set x2 (Int.toNat x0) x1, x3, x4, List.set x5 (Int.toNat (List.getD x2 (Int.toNat x0) 0)) (a7_0 :: a7_1 :: List.drop 2 (List.getD x5 (Int.toNat (List.getD x2 (Int.toNat x0) 0)) [])), List.set x6 (Int.toNat a9) (a11_0 :: a11_1 :: List.drop 2 (List.getD x6 (Int.toNat a9) [])))))
 (none)))
 (none))
 (none))
 (none))
 (none))
 (ob (piece_Kind x1) fun a7 =>
 br (a7 == 0)
 (br (inB x0 81)
 (some (List.set x2 (Int.toNat x0) 0, x3, x4, x5, x6))
 (none))
 (br (inB x0 81)
 (br (x1 != 0)
 (br (inB x1 32)
 (ob (set_With (List.headD (List.take 2 (List.getD x5 (Int.toNat x1) [])) 0) (List.headD (List.tail (List.take 2 (List.getD x5 (Int.toNat x1) []))) 0) x0) fun (a8_0, a8_1) =>
 br (inB x1 32)
 (ob (piece_Side x1) fun a10 =>
 ob (piece_Side x1) fun a11 =>
 br (inB a11 2)
 (ob (set_With (List.headD (List.take 2 (List.getD x6 (Int.toNat a11) [])) 0) (List.headD (List.tail (List.take 2 (List.getD x6 (Int.toNat a11) []))) 0) x0) fun (a12_0, a12_1) =>
 br (inB a10 2)
 (some (List.set x2 (Int.toNat x0) x1, x3, x4, List.set x5 (Int.toNat x1) (a8_0 :: a8_1 :: List.drop 2 (List.getD x5 (Int.toNat x1) [])), List.set x6 (Int.toNat a10) (a12_0 :: a12_1 :: List.drop 2 (List.getD x6 (Int.toNat a10) []))))
 (none))
 (none))
 (none))
 (none))
 (some (List.set x2 (Int.toNat x0) x1, x3, x4, x5, x6)))
 (none))))
 (none)))
def board_Newl4s (rec : List Int → Int → List Int → List Int → Int → List (List Int) → List (List Int) → Option (List Int × List Int × Int × List (List Int) × List (List Int))) (x0 : List Int) (x1 : Int) (x2 x3 : List Int) (x4 : Int) (x5 x6 : List (List Int)) : Option (List Int × List Int × Int × List (List Int) × List (List Int)) :=
 br (decide (x1 < 81))
 (br (inB x1 81)
 (ob (board_Put x1 (List.getD x0 (bif true then Int.toNat x1 else Int.toNat x1 * 1) 0) x2 x3 x4 x5 x6) fun (a10_0, a10_1, a10_2, a10_3, a10_4) =>
 rec x0 (IntKind.wrap .i64 (x1 + 1)) a10_0 a10_1 a10_2 a10_3 a10_4)
 (none))
 (some (x2, x3, x4, x5, x6))
def board_Newl4 : Nat → List Int → Int → List Int → List Int → Int → List (List Int) → List (List Int) → Option (List Int × List Int × Int × List (List Int) × List (List Int))
 | 0, _, _, _, _, _, _, _ => none
 | f + 1, x0, x1, x2, x3, x4, x5, x6 => board_Newl4s (board_Newl4 f) x0 x1 x2 x3 x4 x5 x6
def board_New (x0 x1 : List Int) (x2 : Int) : Option (List Int × List Int × Int × List (List Int) × List (List Int)) :=
 ob (board_Newl4 many x0 0 ([0, 0, 0, 0, 0, 0, 0, 0, 0, 0, 0, 0, 0, 0, 0, 0, 0, 0, 0, 0, 0, 0, 0, 0, 0, 0, 0, 0, 0, 0, 0, 0, 0, 0, 0, 0, 0, 0, 0, 0, 0, 0, 0, 0, 0, 0, 0, 0, 0, 0, 0, 0, 0, 0, 0, 0, 0, 0, 0, 0, 0, 0, 0, 0, 0, 0, 0, 0, 0, 0, 0, 0, 0, 0, 0, 0, 0, 0, 0, 0, 0]) x1 x2 ([[0, 0], [0, 0], [0, 0], [0, 0], [0, 0], [0, 0], [0, 0], [0, 0], [0, 0], [0, 0], [0, 0], [0, 0], [0, 0], [0, 0], [0, 0], [0, 0], [0, 0], [0, 0], [0, 0], [0, 0], [0, 0], [0, 0], [0, 0], [0, 0], [0, 0], [0, 0], [0, 0], [0, 0], [0, 0], [0, 0], [0, 0], [0, 0]]) ([[0, 0], [0, 0]])) fun (a3_0, a3_1, a3_2, a3_3, a3_4) =>
 some (a3_0, a3_1, a3_2, a3_3, a3_4)
def board_At (x0 : Int) (x1 _x2 : List Int) (_x3 : Int) (_x4 _x5 : List (List Int)) : Option (Int) :=
 br (decide (x0 < 0))
 (some (0))
 (br (decide (x0 ≥ 81))
 (some (0))
 (br (inB x0 81)
 (some (List.getD x1 (Int.toNat x0) 0))
 (none)))
def piece_Raw (x0 : Int) : Option (Int) :=
 ob (piece_Of 0 x0) fun a1 =>
 br (a1 == 0)
 (some (0))
 (br (decide (x0 > 8))
 (some (IntKind.wrap .i64 (x0 - 8)))
 (some (x0)))
def ref02_Kind (x0 : Int) : Option (Int) :=
 br (decide (x0 < 1))
 (some (0))
 (br (decide (x0 > 31))
 (some (0))
 (br (x0 == 13)
 (some (0))
 (br (x0 == 16)
 (some (0))
 (br (x0 == 29)
 (some (0))
 (some (Int.tmod x0 16))))))
def ref05_Onl3s (rec : Int → Int → Int → Int → List Int → List Int → Int → Option (Int)) (x0 x1 : Int) (x2 x3 : Int) (x4 x5 : List Int) (x6 : Int) : Option (Int) :=
 br (decide (x3 < 9))
 (br (inB (IntKind.wrap .i64 (IntKind.wrap .i64 (9 * x1) + x3)) 81)
 (br (conv .i8 .i64 (List.getD x4 (Int.toNat (IntKind.wrap .i64 (IntKind.wrap .i64 (9 * x1) + x3))) 0) == x0)
 (rec x0 x1 (IntKind.wrap .i64 (x2 + 1)) (IntKind.wrap .i64 (x3 + 1)) x4 x5 x6)
 (rec x0 x1 x2 (IntKind.wrap .i64 (x3 + 1)) x4 x5 x6))
 (none))
 (some (x2))
def ref05_Onl3 : Nat → Int → Int → Int → Int → List Int → List Int → Int → Option (Int)
 | 0, _, _, _, _, _, _, _ => none
 | f + 1, x0, x1, x2, x3, x4, x5, x6 => ref05_Onl3s (ref05_Onl3 f) x0 x1 x2 x3 x4 x5 x6
def ref05_On (x0 x1 : List Int) (x2 x3 x4 : Int) : Option (Int) :=
 ob (ref05_Onl3 many x3 x4 0 0 x0 x1 x2) fun a5 =>
 some (a5)
def ref05_alll3s (rec : Int → Int → Int → List Int → List Int → Int → Option (Int)) (x0 x1 x2 : Int) (x3 x4 : List Int) (x5 : Int) : Option (Int) :=
 br (decide (x2 < 9))
 (ob (ref05_On x3 x4 x5 x0 x2) fun a10 =>
 rec x0 (IntKind.wrap .i64 (x1 + a10)) (IntKind.wrap .i64 (x2 + 1)) x3 x4 x5)
 (some (x1))
def ref05_alll3 : Nat → Int → Int → Int → List Int → List Int → Int → Option (Int)
 | 0, _, _, _, _, _, _ => none
 | f + 1, x0, x1, x2, x3, x4, x5 => ref05_alll3s (ref05_alll3 f) x0 x1 x2 x3 x4 x5
def ref05_all (x0 x1 : List Int) (x2 x3 : Int) : Option (Int) :=
 ob (ref05_alll3 many x3 0 0 x0 x1 x2) fun a4 =>
 some (a4)
def ref02_Raw (x0 : Int) : Option (Int) :=
 br (decide (x0 < 1))
 (some (0))
 (br (decide (x0 > 15))
 (some (0))
 (br (x0 == 13)
 (some (0))
 (br (decide (x0 > 8))
 (some (IntKind.wrap .i64 (x0 - 8)))
 (some (x0)))))
def ref05_Countl3s (rec : Int → Int → Int → List Int → List Int → Int → Option (Int × Int × List Int × List Int × Int)) (x0 x1 x2 : Int) (x3 x4 : List Int) (x5 : Int) : Option (Int × Int × List Int × List Int × Int) :=
 br (decide (x2 < 81))
 (br (inB x2 81)
 (ob (ref02_Kind (conv .i8 .i64 (List.getD x3 (Int.toNat x2) 0))) fun a10 =>
 ob (ref02_Raw a10) fun a11 =>
 br (a11 == x0)
 (rec x0 (IntKind.wrap .i64 (x1 + 1)) (IntKind.wrap .i64 (x2 + 1)) x3 x4 x5)
 (rec x0 x1 (IntKind.wrap .i64 (x2 + 1)) x3 x4 x5))
 (none))
 (some (x0, x1, x3, x4, x5))
def ref05_Countl3 : Nat → Int → Int → Int → List Int → List Int → Int → Option (Int × Int × List Int × List Int × Int)
 | 0, _, _, _, _, _, _ => none
 | f + 1, x0, x1, x2, x3, x4, x5 => ref05_Countl3s (ref05_Countl3 f) x0 x1 x2 x3 x4 x5
def ref05_Count (x0 x1 : List Int) (x2 x3 : Int) : Option (Int) :=
 ob (ref05_Countl3 many x3 0 0 x0 x1 x2) fun (a4_0, a4_1, _, a4_3, _) =>
 br (inB a4_0 8)
 (br (inB a4_0 8)
 (some (IntKind.wrap .i64 (IntKind.wrap .i64 (a4_1 + conv .i8 .i64 (List.getD a4_3 (0 + Int.toNat a4_0) 0)) + conv .i8 .i64 (List.getD a4_3 (8 + Int.toNat a4_0) 0))))
 (none))
 (none)
def ref02_Total (x0 : Int) : Option (Int) :=
 br (decide (x0 < 1))
 (some (0))
 (br (decide (x0 > 8))
 (some (0))
 (br (inB x0 9)
 (some (List.getD [0, 18, 4, 4, 4, 4, 2, 2, 2] (Int.toNat x0) 0))
 (none)))
def ref02_Side (x0 : Int) : Option (Int) :=
 ob (ref02_Kind x0) fun a1 =>
 br (a1 == 0)
 (some (-1))
 (some (IntKind.wrap .i64 (Int.tdiv x0 16)))
def ref03_Far (x0 x1 : Int) : Option (Int) :=
 br (decide (x1 < 0))
 (some (-1))
 (br (decide (x1 > 80))
 (some (-1))
 (br (decide (x0 < 0))
 (some (-1))
 (br (decide (x0 > 1))
 (some (-1))
 (br (x0 == 0)
 (some (Int.tmod x1 9))
 (some (IntKind.wrap .i64 (8 - Int.tmod x1 9)))))))
def ref03_Dead (x0 x1 : Int) : Option (Bool) :=
 ob (ref02_Side x0) fun a2 =>
 ob (ref03_Far a2 x1) fun a3 =>
 ob (ref02_Kind x0) fun a4 =>
 br (a4 == 1)
 (br (a3 == 0)
 (some (true))
 (br (a4 == 3)
 (br (a3 == 0)
 (some (true))
 (some (a3 == 1)))
 (some (false))))
 (br (a4 == 2)
 (br (a3 == 0)
 (some (true))
 (br (a4 == 3)
 (br (a3 == 0)
 (some (true))
 (some (a3 == 1)))
 (some (false))))
 (br (a4 == 3)
 (br (a3 == 0)
 (some (true))
 (some (a3 == 1)))
 (some (false))))
def ref05_Checkl4s (rec : Int → List Int → List Int → Int → Option ((Int × List Int × List Int × Int) ⊕ (List Int × List Int × Int))) (x0 : Int) (x1 x2 : List Int) (x3 : Int) : Option ((Int × List Int × List Int × Int) ⊕ (List Int × List Int × Int)) :=
 br (decide (x0 < 81))
 (br (inB x0 81)
 (br (List.getD x1 (Int.toNat x0) 0 != 0)
 (br (inB x0 81)
 (ob (ref02_Kind (conv .i8 .i64 (List.getD x1 (Int.toNat x0) 0))) fun a7 =>
 br (a7 == 0)
 (some (.inl (55, x1, x2, x3)))
 (rec (IntKind.wrap .i64 (x0 + 1)) x1 x2 x3))
 (none))
 (rec (IntKind.wrap .i64 (x0 + 1)) x1 x2 x3))
 (none))
 (some (.inr (x1, x2, x3)))
def ref05_Checkl4 : Nat → Int → List Int → List Int → Int → Option ((Int × List Int × List Int × Int) ⊕ (List Int × List Int × Int))
 | 0, _, _, _, _ => none
 | f + 1, x0, x1, x2, x3 => ref05_Checkl4s (ref05_Checkl4 f) x0 x1 x2 x3
def ref05_Checkl12s (rec : Int → Int → List Int → List Int → Int → Option ((Int × Int × List Int × List Int × Int) ⊕ (Int × List Int × List Int × Int))) (x0 x1 : Int) (x2 x3 : List Int) (x4 : Int) : Option ((Int × Int × List Int × List Int × Int) ⊕ (Int × List Int × List Int × Int)) :=
 br (decide (x1 < 2))
 (br (inB x1 2)
 (br (inB x0 8)
 (br (decide (List.getD x3 (Int.toNat x1 * 8 + Int.toNat x0) 0 < 0))
 (some (.inl (55, x0, x2, x3, x4)))
 (br (x0 == 0)
 (br (List.getD x3 (Int.toNat x1 * 8 + Int.toNat x0) 0 != 0)
 (some (.inl (55, x0, x2, x3, x4)))
 (rec x0 (IntKind.wrap .i64 (x1 + 1)) x2 x3 x4))
 (rec x0 (IntKind.wrap .i64 (x1 + 1)) x2 x3 x4)))
 (none))
 (none))
 (some (.inr (x0, x2, x3, x4)))
def ref05_Checkl12 : Nat → Int → Int → List Int → List Int → Int → Option ((Int × Int × List Int × List Int × Int) ⊕ (Int × List Int × List Int × Int))
 | 0, _, _, _, _, _ => none
 | f + 1, x0, x1, x2, x3, x4 => ref05_Checkl12s (ref05_Checkl12 f) x0 x1 x2 x3 x4
def ref05_Checkl9s (rec : Int → List Int → List Int → Int → Option ((Int × List Int × List Int × Int) ⊕ (List Int × List Int × Int))) (x0 : Int) (x1 x2 : List Int) (x3 : Int) : Option ((Int × List Int × List Int × Int) ⊕ (List Int × List Int × Int)) :=
 br (decide (x0 < 8))
 (ob (ref05_Checkl12 many x0 0 x1 x2 x3) fun t10_2 =>
 sw t10_2 (fun (a10_0, _, a10_2, a10_3, a10_4) =>
 some (.inl (a10_0, a10_2, a10_3, a10_4)))
 (fun (a10_0, a10_1, a10_2, a10_3) =>
 rec (IntKind.wrap .i64 (a10_0 + 1)) a10_1 a10_2 a10_3))
 (some (.inr (x1, x2, x3)))
def ref05_Checkl9 : Nat → Int → List Int → List Int → Int → Option ((Int × List Int × List Int × Int) ⊕ (List Int × List Int × Int))
 | 0, _, _, _, _ => none
 | f + 1, x0, x1, x2, x3 => ref05_Checkl9s (ref05_Checkl9 f) x0 x1 x2 x3
def ref05_Checkl20s (rec : Int → List Int → List Int → Int → Option ((Int × List Int × List Int × Int) ⊕ (List Int × List Int × Int))) (x0 : Int) (x1 x2 : List Int) (x3 : Int) : Option ((Int × List Int × List Int × Int) ⊕ (List Int × List Int × Int)) :=
 br (decide (x0 < 8))
 (ob (ref05_Count x1 x2 x3 x0) fun a15 =>
 ob (ref02_Total x0) fun a16 =>
 br (decide (a15 > a16))
 (some (.inl (51, x1, x2, x3)))
 (rec (IntKind.wrap .i64 (x0 + 1)) x1 x2 x3))
 (some (.inr (x1, x2, x3)))
def ref05_Checkl20 : Nat → Int → List Int → List Int → Int → Option ((Int × List Int × List Int × Int) ⊕ (List Int × List Int × Int))
 | 0, _, _, _, _ => none
 | f + 1, x0, x1, x2, x3 => ref05_Checkl20s (ref05_Checkl20 f) x0 x1 x2 x3
def ref05_Checkl25s (rec : Int → List Int → List Int → Int → Option ((Int × List Int × List Int × Int) ⊕ (List Int × List Int × Int))) (x0 : Int) (x1 x2 : List Int) (x3 : Int) : Option ((Int × List Int × List Int × Int) ⊕ (List Int × List Int × Int)) :=
 br (decide (x0 < 81))
 (br (inB x0 81)
 (ob (ref03_Dead (conv .i8 .i64 (List.getD x1 (Int.toNat x0) 0)) x0) fun a18 =>
 br (a18)
 (some (.inl (52, x1, x2, x3)))
 (rec (IntKind.wrap .i64 (x0 + 1)) x1 x2 x3))
 (none))
 (some (.inr (x1, x2, x3)))
def ref05_Checkl25 : Nat → Int → List Int → List Int → Int → Option ((Int × List Int × List Int × Int) ⊕ (List Int × List Int × Int))
 | 0, _, _, _, _ => none
 | f + 1, x0, x1, x2, x3 => ref05_Checkl25s (ref05_Checkl25 f) x0 x1 x2 x3
def ref05_Checkl30s (rec : Int → List Int → List Int → Int → Option ((Int) ⊕ (Unit))) (x0 : Int) (x1 x2 : List Int) (x3 : Int) : Option ((Int) ⊕ (Unit)) :=
 br (decide (x0 < 9))
 (ob (ref05_On x1 x2 x3 1 x0) fun a21 =>
 br (decide (a21 > 1))
 (some (.inl (53)))
 (ob (ref05_On x1 x2 x3 17 x0) fun a22 =>
 br (decide (a22 > 1))
 (some (.inl (53)))
 (rec (IntKind.wrap .i64 (x0 + 1)) x1 x2 x3)))
 (some (.inr ()))
def ref05_Checkl30 : Nat → Int → List Int → List Int → Int → Option ((Int) ⊕ (Unit))
 | 0, _, _, _, _ => none
 | f + 1, x0, x1, x2, x3 => ref05_Checkl30s (ref05_Checkl30 f) x0 x1 x2 x3
def ref05_Check (x0 x1 : List Int) (x2 : Int) : Option (Int) :=
 br (x2 != 0)
 (br (x2 != 1)
 (some (1))
 (ob (ref05_Checkl4 many 0 x0 x1 x2) fun t3_2 =>
 sw t3_2 (fun (a3_0, _, _, _) =>
 some (a3_0))
 (fun (a3_0, a3_1, a3_2) =>
 ob (ref05_Checkl9 many 0 a3_0 a3_1 a3_2) fun t6_2 =>
 sw t6_2 (fun (a6_0, _, _, _) =>
 some (a6_0))
 (fun (a6_0, a6_1, a6_2) =>
 ob (ref05_all a6_0 a6_1 a6_2 8) fun a9 =>
 br (a9 != 1)
 (some (50))
 (ob (ref05_all a6_0 a6_1 a6_2 24) fun a10 =>
 br (a10 != 1)
 (some (50))
 (ob (ref05_Checkl20 many 1 a6_0 a6_1 a6_2) fun t11_2 =>
 sw t11_2 (fun (a11_0, _, _, _) =>
 some (a11_0))
 (fun (a11_0, a11_1, a11_2) =>
 ob (ref05_Checkl25 many 0 a11_0 a11_1 a11_2) fun t14_2 =>
 sw t14_2 (fun (a14_0, _, _, _) =>
 some (a14_0))
 (fun (a14_0, a14_1, a14_2) =>
 ob (ref05_Checkl30 many 0 a14_0 a14_1 a14_2) fun t17_2 =>
 sw t17_2 (fun a17 =>
 some (a17))
 (fun _ =>
 some (0))))))))))
 (ob (ref05_Checkl4 many 0 x0 x1 x2) fun t3_2 =>
 sw t3_2 (fun (a3_0, _, _, _) =>
 some (a3_0))
 (fun (a3_0, a3_1, a3_2) =>
 ob (ref05_Checkl9 many 0 a3_0 a3_1 a3_2) fun t6_2 =>
 sw t6_2 (fun (a6_0, _, _, _) =>
 some (a6_0))
 (fun (a6_0, a6_1, a6_2) =>
 ob (ref05_all a6_0 a6_1 a6_2 8) fun a9 =>
 br (a9 != 1)
 (some (50))
 (ob (ref05_all a6_0 a6_1 a6_2 24) fun a10 =>
 br (a10 != 1)
 (some (50))
 (ob (ref05_Checkl20 many 1 a6_0 a6_1 a6_2) fun t11_2 =>
 sw t11_2 (fun (a11_0, _, _, _) =>
 some (a11_0))
 (fun (a11_0, a11_1, a11_2) =>
 ob (ref05_Checkl25 many 0 a11_0 a11_1 a11_2) fun t14_2 =>
 sw t14_2 (fun (a14_0, _, _, _) =>
 some (a14_0))
 (fun (a14_0, a14_1, a14_2) =>
 ob (ref05_Checkl30 many 0 a14_0 a14_1 a14_2) fun t17_2 =>
 sw t17_2 (fun a17 =>
 some (a17))
 (fun _ =>
 some (0)))))))))
def board_Taken (_x0 _x1 : List Int) (_x2 : Int) (_x3 x4 : List (List Int)) : Option (Int × Int) :=
 ob (set_Or (List.headD (List.take 2 (List.getD x4 0 [])) 0) (List.headD (List.tail (List.take 2 (List.getD x4 0 []))) 0) (List.headD (List.take 2 (List.getD x4 1 [])) 0) (List.headD (List.tail (List.take 2 (List.getD x4 1 []))) 0)) fun (a5_0, a5_1) =>
 some (a5_0, a5_1)
def bits_OnesCount64 (x0 : Int) : Option (Int) :=
 some (bitop BinOp.and .i64 (conv .u64 .i64 (IntKind.wrap .u64 (IntKind.wrap .u64 (IntKind.wrap .u64 (bitop BinOp.and .u64 (IntKind.wrap .u64 (Int.fdiv (IntKind.wrap .u64 (bitop BinOp.and .u64 (Int.fdiv (IntKind.wrap .u64 (bitop BinOp.and .u64 (Int.fdiv x0 2) 6148914691236517205 + bitop BinOp.and .u64 x0 6148914691236517205)) 4) 3689348814741910323 + bitop BinOp.and .u64 (IntKind.wrap .u64 (bitop BinOp.and .u64 (Int.fdiv x0 2) 6148914691236517205 + bitop BinOp.and .u64 x0 6148914691236517205)) 3689348814741910323)) 16 + IntKind.wrap .u64 (bitop BinOp.and .u64 (Int.fdiv (IntKind.wrap .u64 (bitop BinOp.and .u64 (Int.fdiv x0 2) 6148914691236517205 + bitop BinOp.and .u64 x0 6148914691236517205)) 4) 3689348814741910323 + bitop BinOp.and .u64 (IntKind.wrap .u64 (bitop BinOp.and .u64 (Int.fdiv x0 2) 6148914691236517205 + bitop BinOp.and .u64 x0 6148914691236517205)) 3689348814741910323))) 1085102592571150095 + Int.fdiv (bitop BinOp.and .u64 (IntKind.wrap .u64 (Int.fdiv (IntKind.wrap .u64 (bitop BinOp.and .u64 (Int.fdiv (IntKind.wrap .u64 (bitop BinOp.and .u64 (Int.fdiv x0 2) 6148914691236517205 + bitop BinOp.and .u64 x0 6148914691236517205)) 4) 3689348814741910323 + bitop BinOp.and .u64 (IntKind.wrap .u64 (bitop BinOp.and .u64 (Int.fdiv x0 2) 6148914691236517205 + bitop BinOp.and .u64 x0 6148914691236517205)) 3689348814741910323)) 16 + IntKind.wrap .u64 (bitop BinOp.and .u64 (Int.fdiv (IntKind.wrap .u64 (bitop BinOp.and .u64 (Int.fdiv x0 2) 6148914691236517205 + bitop BinOp.and .u64 x0 6148914691236517205)) 4) 3689348814741910323 + bitop BinOp.and .u64 (IntKind.wrap .u64 (bitop BinOp.and .u64 (Int.fdiv x0 2) 6148914691236517205 + bitop BinOp.and .u64 x0 6148914691236517205)) 3689348814741910323))) 1085102592571150095) 256) + Int.fdiv (IntKind.wrap .u64 (bitop BinOp.and .u64 (IntKind.wrap .u64 (Int.fdiv (IntKind.wrap .u64 (bitop BinOp.and .u64 (Int.fdiv (IntKind.wrap .u64 (bitop BinOp.and .u64 (Int.fdiv x0 2) 6148914691236517205 + bitop BinOp.and .u64 x0 6148914691236517205)) 4) 3689348814741910323 + bitop BinOp.and .u64 (IntKind.wrap .u64 (bitop BinOp.and .u64 (Int.fdiv x0 2) 6148914691236517205 + bitop BinOp.and .u64 x0 6148914691236517205)) 3689348814741910323)) 16 + IntKind.wrap .u64 (bitop BinOp.and .u64 (Int.fdiv (IntKind.wrap .u64 (bitop BinOp.and .u64 (Int.fdiv x0 2) 6148914691236517205 + bitop BinOp.and .u64 x0 6148914691236517205)) 4) 3689348814741910323 + bitop BinOp.and .u64 (IntKind.wrap .u64 (bitop BinOp.and .u64 (Int.fdiv x0 2) 6148914691236517205 + bitop BinOp.and .u64 x0 6148914691236517205)) 3689348814741910323))) 1085102592571150095 + Int.fdiv (bitop BinOp.and .u64 (IntKind.wrap .u64 (Int.fdiv (IntKind.wrap .u64 (bitop BinOp.and .u64 (Int.fdiv (IntKind.wrap .u64 (bitop BinOp.and .u64 (Int.fdiv x0 2) 6148914691236517205 + bitop BinOp.and .u64 x0 6148914691236517205)) 4) 3689348814741910323 + bitop BinOp.and .u64 (IntKind.wrap .u64 (bitop BinOp.and .u64 (Int.fdiv x0 2) 6148914691236517205 + bitop BinOp.and .u64 x0 6148914691236517205)) 3689348814741910323)) 16 + IntKind.wrap .u64 (bitop BinOp.and .u64 (Int.fdiv (IntKind.wrap .u64 (bitop BinOp.and .u64 (Int.fdiv x0 2) 6148914691236517205 + bitop BinOp.and .u64 x0 6148914691236517205)) 4) 3689348814741910323 + bitop BinOp.and .u64 (IntKind.wrap .u64 (bitop BinOp.and .u64 (Int.fdiv x0 2) 6148914691236517205 + bitop BinOp.and .u64 x0 6148914691236517205)) 3689348814741910323))) 1085102592571150095) 256)) 65536) + Int.fdiv (IntKind.wrap .u64 (IntKind.wrap .u64 (bitop BinOp.and .u64 (IntKind.wrap .u64 (Int.fdiv (IntKind.wrap .u64 (bitop BinOp.and .u64 (Int.fdiv (IntKind.wrap .u64 (bitop BinOp.and .u64 (Int.fdiv x0 2) 6148914691236517205 + bitop BinOp.and .u64 x0 6148914691236517205)) 4) 3689348814741910323 + bitop BinOp.and .u64 (IntKind.wrap .u64 (bitop BinOp.and .u64 (Int.fdiv x0 2) 6148914691236517205 + bitop BinOp.and .u64 x0 6148914691236517205)) 3689348814741910323)) 16 + IntKind.wrap .u64 (bitop BinOp.and .u64 (Int.fdiv (IntKind.wrap .u64 (bitop BinOp.and .u64 (Int.fdiv x0 2) 6148914691236517205 + bitop BinOp.and .u64 x0 6148914691236517205)) 4) 3689348814741910323 + bitop BinOp.and .u64 (IntKind.wrap .u64 (bitop BinOp.and .u64 (Int.fdiv x0 2) 6148914691236517205 + bitop BinOp.and .u64 x0 6148914691236517205)) 3689348814741910323))) 1085102592571150095 + Int.fdiv (bitop BinOp.and .u64 (IntKind.wrap .u64 (Int.fdiv (IntKind.wrap .u64 (bitop BinOp.and .u64 (Int.fdiv (IntKind.wrap .u64 (bitop BinOp.and .u64 (Int.fdiv x0 2) 6148914691236517205 + bitop BinOp.and .u64 x0 6148914691236517205)) 4) 3689348814741910323 + bitop BinOp.and .u64 (IntKind.wrap .u64 (bitop BinOp.and .u64 (Int.fdiv x0 2) 6148914691236517205 + bitop BinOp.and .u64 x0 6148914691236517205)) 3689348814741910323)) 16 + IntKind.wrap .u64 (bitop BinOp.and .u64 (Int.fdiv (IntKind.wrap .u64 (bitop BinOp.and .u64 (Int.fdiv x0 2) 6148914691236517205 + bitop BinOp.and .u64 x0 6148914691236517205)) 4) 3689348814741910323 + bitop BinOp.and .u64 (IntKind.wrap .u64 (bitop BinOp.and .u64 (Int.fdiv x0 2) 6148914691236517205 + bitop BinOp.and .u64 x0 6148914691236517205)) 3689348814741910323))) 1085102592571150095) 256) + Int.fdiv (IntKind.wrap .u64 (bitop BinOp.and .u64 (IntKind.wrap .u64 (Int.fdiv (IntKind.wrap .u64 (bitop BinOp.and .u64 (Int.fdiv (IntKind.wrap .u64 (bitop BinOp.and .u64 (Int.fdiv x0 2) 6148914691236517205 + bitop BinOp.and .u64 x0 6148914691236517205)) 4) 3689348814741910323 + bitop BinOp.and .u64 (IntKind.wrap .u64 (bitop BinOp.and .u64 (Int.fdiv x0 2) 6148914691236517205 + bitop BinOp.and .u64 x0 6148914691236517205)) 3689348814741910323)) 16 + IntKind.wrap .u64 (bitop BinOp.and .u64 (Int.fdiv (IntKind.wrap .u64 (bitop BinOp.and .u64 (Int.fdiv x0 2) 6148914691236517205 + bitop BinOp.and .u64 x0 6148914691236517205)) 4) 3689348814741910323 + bitop BinOp.and .u64 (IntKind.wrap .u64 (bitop BinOp.and .u64 (Int.fdiv x0 2) 6148914691236517205 + bitop BinOp.and .u64 x0 6148914691236517205)) 3689348814741910323))) 1085102592571150095 + Int.fdiv (bitop BinOp.and .u64 (IntKind.wrap .u64 (Int.fdiv (IntKind.wrap .u64 (bitop BinOp.and .u64 (Int.fdiv (IntKind.wrap .u64 (bitop BinOp.and .u64 (Int.fdiv x0 2) 6148914691236517205 + bitop BinOp.and .u64 x0 6148914691236517205)) 4) 3689348814741910323 + bitop BinOp.and .u64 (IntKind.wrap .u64 (bitop BinOp.and .u64 (Int.fdiv x0 2) 6148914691236517205 + bitop BinOp.and .u64 x0 6148914691236517205)) 3689348814741910323)) 16 + IntKind.wrap .u64 (bitop BinOp.and .u64 (Int.fdiv (IntKind.wrap .u64 (bitop BinOp.and .u64 (Int.fdiv x0 2) 6148914691236517205 + bitop BinOp.and .u64 x0 6148914691236517205)) 4) 3689348814741910323 + bitop BinOp.and .u64 (IntKind.wrap .u64 (bitop BinOp.and .u64 (Int.fdiv x0 2) 6148914691236517205 + bitop BinOp.and .u64 x0 6148914691236517205)) 3689348814741910323))) 1085102592571150095) 256)) 65536)) 4294967296))) 127)
def set_Count (x0 x1 : Int) : Option (Int) :=
 ob (bits_OnesCount64 x0) fun a2 =>
 ob (bits_OnesCount64 x1) fun a3 =>
 some (IntKind.wrap .i64 (a2 + a3))
def board_Of (x0 x1 : Int) (_x2 _x3 : List Int) (_x4 : Int) (x5 _x6 : List (List Int)) : Option (Int × Int) :=
 ob (piece_Of x0 x1) fun a7 =>
 br (a7 == 0)
 (some (0, 0))
 (br (inB a7 32)
 (some (List.headD (List.take 2 (List.getD x5 (Int.toNat a7) [])) 0, List.headD (List.tail (List.take 2 (List.getD x5 (Int.toNat a7) []))) 0))
 (none))
def bits_TrailingZeros64b (BBB : Bool → Option (Int) → Option (Int) → Option (Int)) (x0 : Int) : Option (Int) :=
 br (x0 == 0)
 (some (64))
 (BBB (inB (Int.fdiv (IntKind.wrap .u64 (bitop BinOp.and .u64 x0 (IntKind.wrap .u64 (0 - x0)) * 285870213051353865)) 288230376151711744) 64)
 (some (conv .u8 .i64 (List.getD [0, 1, 56, 2, 57, 49, 28, 3, 61, 58, 42, 50, 38, 29, 17, 4, 62, 47, 59, 36, 45, 43, 51, 22, 53, 39, 33, 30, 24, 18, 12, 5, 63, 55, 48, 27, 60, 41, 37, 16, 46, 35, 44, 21, 52, 32, 23, 11, 54, 26, 40, 15, 34, 20, 31, 10, 25, 14, 19, 9, 13, 8, 7, 6] (Int.toNat (Int.fdiv (IntKind.wrap .u64 (bitop BinOp.and .u64 x0 (IntKind.wrap .u64 (0 - x0)) * 285870213051353865)) 288230376151711744)) 0)))
 (none))
def bits_TrailingZeros64 (x0 : Int) : Option (Int) := bits_TrailingZeros64b br x0
def set_First (x0 x1 : Int) : Option (Int) :=
 br (x0 != 0)
 (ob (bits_TrailingZeros64 x0) fun a2 =>
 some (a2))
 (br (x1 != 0)
 (ob (bits_TrailingZeros64 x1) fun a2 =>
 some (IntKind.wrap .i64 (63 + a2)))
 (some (-1)))
def board_King (x0 : Int) (x1 x2 : List Int) (x3 : Int) (x4 x5 : List (List Int)) : Option (Int) :=
 ob (board_Of x0 8 x1 x2 x3 x4 x5) fun (a6_0, a6_1) =>
 ob (set_First a6_0 a6_1) fun a8 =>
 some (a8)
def piece_Total (x0 : Int) : Option (Int) :=
 br (x0 == 1)
 (some (18))
 (br (x0 == 2)
 (some (4))
 (br (x0 == 3)
 (some (4))
 (br (x0 == 4)
 (some (4))
 (br (x0 == 5)
 (some (4))
 (br (x0 == 6)
 (some (2))
 (br (x0 == 7)
 (some (2))
 (br (x0 == 8)
 (some (2))
 (some (0)))))))))
def set_Rank (x0 : Int) : Option (Int) :=
 some (Int.tmod x0 9)
def step_Far (x0 x1 : Int) : Option (Int) :=
 br (decide (x1 < 0))
 (some (-1))
 (br (decide (x1 ≥ 81))
 (some (-1))
 (br (x0 == 0)
 (ob (set_Rank x1) fun a2 =>
 some (a2))
 (br (x0 == 1)
 (ob (set_Rank x1) fun a2 =>
 some (IntKind.wrap .i64 (8 - a2)))
 (some (-1)))))
def step_Dead (x0 x1 : Int) : Option (Bool) :=
 ob (piece_Side x0) fun a2 =>
 ob (step_Far a2 x1) fun a3 =>
 ob (piece_Kind x0) fun a4 =>
 br (a4 == 1)
 (some (a3 == 0))
 (br (a4 == 2)
 (some (a3 == 0))
 (br (a4 == 3)
 (br (a3 == 0)
 (some (true))
 (some (a3 == 1)))
 (some (false))))
def set_InFilel3s (rec : Int → Int → Int → Int → Int → Int → Option (Int × Int × Int × Int)) (x0 x1 : Int) (x2 x3 : Int) (x4 x5 : Int) : Option (Int × Int × Int × Int) :=
 br (decide (x1 < 9))
 (ob (set_Square x0 x1) fun a7 =>
 ob (set_With x4 x5 a7) fun (a8_0, a8_1) =>
 rec x0 (IntKind.wrap .i64 (x1 + 1)) x2 x3 a8_0 a8_1)
 (some (x2, x3, x4, x5))
def set_InFilel3 : Nat → Int → Int → Int → Int → Int → Int → Option (Int × Int × Int × Int)
 | 0, _, _, _, _, _, _ => none
 | f + 1, x0, x1, x2, x3, x4, x5 => set_InFilel3s (set_InFilel3 f) x0 x1 x2 x3 x4 x5
def set_InFile (x0 : Int) : Option (Int × Int) :=
 ob (set_InFilel3 many x0 0 0 0 0 0) fun (_, _, a1_2, a1_3) =>
 some (a1_2, a1_3)
def set_And (x0 x1 : Int) (x2 x3 : Int) : Option (Int × Int) :=
 some (bitop BinOp.and .u64 x0 x2, bitop BinOp.and .u64 x1 x3)
def board_filesl2s (rec : List Int → Int → List Int → List Int → Int → Option ((Int × List Int × List Int × Int) ⊕ (List Int × List Int × Int))) (x0 : List Int) (x1 : Int) (x2 x3 : List Int) (x4 : Int) : Option ((Int × List Int × List Int × Int) ⊕ (List Int × List Int × Int)) :=
 br (decide (x1 < 81))
 (br (inB x1 81)
 (ob (step_Dead (List.getD x0 (bif true then Int.toNat x1 else Int.toNat x1 * 1) 0) x1) fun a8 =>
 br (a8)
 (some (.inl (52, x2, x3, x4)))
 (rec x0 (IntKind.wrap .i64 (x1 + 1)) x2 x3 x4))
 (none))
 (some (.inr (x2, x3, x4)))
def board_filesl2 : Nat → List Int → Int → List Int → List Int → Int → Option ((Int × List Int × List Int × Int) ⊕ (List Int × List Int × Int))
 | 0, _, _, _, _, _ => none
 | f + 1, x0, x1, x2, x3, x4 => board_filesl2s (board_filesl2 f) x0 x1 x2 x3 x4
def board_filesl12s (rec : Int → Int → Int → List Int → List Int → Int → List (List Int) → List (List Int) → Option ((Int × Int × List Int × List Int × Int × List (List Int) × List (List Int)) ⊕ (Int × List Int × List Int × Int × List (List Int) × List (List Int)))) (x0 x1 x2 : Int) (x3 x4 : List Int) (x5 : Int) (x6 x7 : List (List Int)) : Option ((Int × Int × List Int × List Int × Int × List (List Int) × List (List Int)) ⊕ (Int × List Int × List Int × Int × List (List Int) × List (List Int))) :=
 br (decide (x2 < 2))
 (ob (board_Of x2 1 x3 x4 x5 x6 x7) fun (a25_0, a25_1) =>
 ob (set_InFile x0) fun (a27_0, a27_1) =>
 ob (set_And a25_0 a25_1 a27_0 a27_1) fun (a29_0, a29_1) =>
 ob (set_Count a29_0 a29_1) fun a31 =>
 br (decide (a31 > 1))
 (some (.inl (53, x1, x3, x4, x5, x6, x7)))
 (rec x0 x1 (IntKind.wrap .i64 (x2 + 1)) x3 x4 x5 x6 x7))
 (some (.inr (x1, x3, x4, x5, x6, x7)))
def board_filesl12 : Nat → Int → Int → Int → List Int → List Int → Int → List (List Int) → List (List Int) → Option ((Int × Int × List Int × List Int × Int × List (List Int) × List (List Int)) ⊕ (Int × List Int × List Int × Int × List (List Int) × List (List Int)))
 | 0, _, _, _, _, _, _, _, _ => none
 | f + 1, x0, x1, x2, x3, x4, x5, x6, x7 => board_filesl12s (board_filesl12 f) x0 x1 x2 x3 x4 x5 x6 x7
def board_filesl9s (rec : Int → List Int → List Int → Int → List (List Int) → List (List Int) → Option ((Int) ⊕ (Unit))) (x0 : Int) (x1 x2 : List Int) (x3 : Int) (x4 x5 : List (List Int)) : Option ((Int) ⊕ (Unit)) :=
 br (decide (x0 < 9))
 (ob (board_filesl12 many x0 x0 0 x1 x2 x3 x4 x5) fun t17_2 =>
 sw t17_2 (fun (a17_0, _, _, _, _, _, _) =>
 some (.inl (a17_0)))
 (fun (a17_0, a17_1, a17_2, a17_3, a17_4, a17_5) =>
 rec (IntKind.wrap .i64 (a17_0 + 1)) a17_1 a17_2 a17_3 a17_4 a17_5))
 (some (.inr ()))
def board_filesl9 : Nat → Int → List Int → List Int → Int → List (List Int) → List (List Int) → Option ((Int) ⊕ (Unit))
 | 0, _, _, _, _, _, _ => none
 | f + 1, x0, x1, x2, x3, x4, x5 => board_filesl9s (board_filesl9 f) x0 x1 x2 x3 x4 x5
def board_files (x0 x1 : List Int) (x2 : Int) : Option (Int) :=
 ob (board_filesl2 many x0 0 x0 x1 x2) fun t3_2 =>
 sw t3_2 (fun (a3_0, _, _, _) =>
 some (a3_0))
 (fun (a3_0, a3_1, a3_2) =>
 ob (board_New a3_0 a3_1 a3_2) fun (a6_0, a6_1, a6_2, a6_3, a6_4) =>
 ob (board_filesl9 many 0 a6_0 a6_1 a6_2 a6_3 a6_4) fun t11_2 =>
 sw t11_2 (fun a11 =>
 some (a11))
 (fun _ =>
 some (0)))
def board_Checkl6s (rec : List Int → Int → List Int → List Int → Int → List Int → List Int → Option ((Int × List Int × List Int × Int × List Int × List Int) ⊕ (List Int × List Int × Int × List Int × List Int))) (x0 : List Int) (x1 : Int) (x2 x3 : List Int) (x4 : Int) (x5 x6 : List Int) : Option ((Int × List Int × List Int × Int × List Int × List Int) ⊕ (List Int × List Int × Int × List Int × List Int)) :=
 br (decide (x1 < 81))
 (br (inB x1 81)
 (ob (piece_Kind (List.getD x0 (bif true then Int.toNat x1 else Int.toNat x1 * 1) 0)) fun a10 =>
 br (List.getD x0 (bif true then Int.toNat x1 else Int.toNat x1 * 1) 0 == 0)
 (rec x0 (IntKind.wrap .i64 (x1 + 1)) x2 x3 x4 x5 x6)
 (br (a10 == 0)
 (some (.inl (55, x2, x3, x4, x5, x6)))
 (br (a10 == 8)
 (ob (piece_Side (List.getD x0 (bif true then Int.toNat x1 else Int.toNat x1 * 1) 0)) fun a11 =>
 br (inB a11 2)
 (br (inB a11 2)
 (ob (piece_Raw a10) fun a12 =>
 br (inB a12 9)
 (br (inB a12 9)
 (rec x0 (IntKind.wrap .i64 (x1 + 1)) x2 x3 x4 (List.set x5 (Int.toNat a12) (IntKind.wrap .i64 (List.getD x5 (Int.toNat a12) 0 + 1))) (List.set x6 (Int.toNat a11) (IntKind.wrap .i64 (List.getD x6 (Int.toNat a11) 0 + 1))))
 (none))
 (none))
 (none))
 (none))
 (ob (piece_Raw a10) fun a11 =>
 br (inB a11 9)
 (br (inB a11 9)
 (rec x0 (IntKind.wrap .i64 (x1 + 1)) x2 x3 x4 (List.set x5 (Int.toNat a11) (IntKind.wrap .i64 (List.getD x5 (Int.toNat a11) 0 + 1))) x6)
 (none))
 (none)))))
 (none))
 (some (.inr (x2, x3, x4, x5, x6)))
def board_Checkl6 : Nat → List Int → Int → List Int → List Int → Int → List Int → List Int → Option ((Int × List Int × List Int × Int × List Int × List Int) ⊕ (List Int × List Int × Int × List Int × List Int))
 | 0, _, _, _, _, _, _, _ => none
 | f + 1, x0, x1, x2, x3, x4, x5, x6 => board_Checkl6s (board_Checkl6 f) x0 x1 x2 x3 x4 x5 x6
def board_Checkl20s (rec : List Int → Int → List Int → Int → List Int → List Int → Int → List Int → List Int → Option ((Int × List Int × Int × List Int × List Int × Int × List Int × List Int) ⊕ (List Int × Int × List Int × List Int × Int × List Int × List Int))) (x0 : List Int) (x1 : Int) (x2 : List Int) (x3 : Int) (x4 x5 : List Int) (x6 : Int) (x7 x8 : List Int) : Option ((Int × List Int × Int × List Int × List Int × Int × List Int × List Int) ⊕ (List Int × Int × List Int × List Int × Int × List Int × List Int)) :=
 br (decide (x3 < 8))
 (br (inB x3 8)
 (br (decide (List.getD x2 (bif true then Int.toNat x3 else Int.toNat x3 * 1) 0 < 0))
 (some (.inl (55, x0, x1, x4, x5, x6, x7, x8)))
 (br (decide (List.getD x2 (bif true then Int.toNat x3 else Int.toNat x3 * 1) 0 > 0))
 (br (x3 == 0)
 (some (.inl (55, x0, x1, x4, x5, x6, x7, x8)))
 (br (x3 == 8)
 (some (.inl (55, x0, x1, x4, x5, x6, x7, x8)))
 (br (inB x3 9)
 (br (inB x3 9)
 (rec x0 x1 x2 (IntKind.wrap .i64 (x3 + 1)) x4 x5 x6 (List.set x7 (Int.toNat x3) (IntKind.wrap .i64 (List.getD x7 (Int.toNat x3) 0 + conv .i8 .i64 (List.getD x2 (bif true then Int.toNat x3 else Int.toNat x3 * 1) 0)))) x8)
 (none))
 (none))))
 (br (inB x3 9)
 (br (inB x3 9)
 (rec x0 x1 x2 (IntKind.wrap .i64 (x3 + 1)) x4 x5 x6 (List.set x7 (Int.toNat x3) (IntKind.wrap .i64 (List.getD x7 (Int.toNat x3) 0 + conv .i8 .i64 (List.getD x2 (bif true then Int.toNat x3 else Int.toNat x3 * 1) 0)))) x8)
 (none))
 (none))))
 (none))
 (some (.inr (x0, x1, x4, x5, x6, x7, x8)))
def board_Checkl20 : Nat → List Int → Int → List Int → Int → List Int → List Int → Int → List Int → List Int → Option ((Int × List Int × Int × List Int × List Int × Int × List Int × List Int) ⊕ (List Int × Int × List Int × List Int × Int × List Int × List Int))
 | 0, _, _, _, _, _, _, _, _, _ => none
 | f + 1, x0, x1, x2, x3, x4, x5, x6, x7, x8 => board_Checkl20s (board_Checkl20 f) x0 x1 x2 x3 x4 x5 x6 x7 x8
def board_Checkl17s (rec : List Int → Int → List Int → List Int → Int → List Int → List Int → Option ((Int × List Int × List Int × Int × List Int × List Int) ⊕ (List Int × List Int × Int × List Int × List Int))) (x0 : List Int) (x1 : Int) (x2 x3 : List Int) (x4 : Int) (x5 x6 : List Int) : Option ((Int × List Int × List Int × Int × List Int × List Int) ⊕ (List Int × List Int × Int × List Int × List Int)) :=
 br (decide (x1 < 2))
 (br (inB x1 2)
 (ob (board_Checkl20 many x0 x1 (List.take 8 (List.drop (Nat.add (Nat.mul (Int.toNat x1) 7) (Int.toNat x1)) x0)) 0 x2 x3 x4 x5 x6) fun t15_2 =>
 sw t15_2 (fun (a15_0, _, _, a15_3, a15_4, a15_5, a15_6, a15_7) =>
 some (.inl (a15_0, a15_3, a15_4, a15_5, a15_6, a15_7)))
 (fun (a15_0, a15_1, a15_2, a15_3, a15_4, a15_5, a15_6) =>
 rec a15_0 (IntKind.wrap .i64 (a15_1 + 1)) a15_2 a15_3 a15_4 a15_5 a15_6))
 (none))
 (some (.inr (x2, x3, x4, x5, x6)))
def board_Checkl17 : Nat → List Int → Int → List Int → List Int → Int → List Int → List Int → Option ((Int × List Int × List Int × Int × List Int × List Int) ⊕ (List Int × List Int × Int × List Int × List Int))
 | 0, _, _, _, _, _, _, _ => none
 | f + 1, x0, x1, x2, x3, x4, x5, x6 => board_Checkl17s (board_Checkl17 f) x0 x1 x2 x3 x4 x5 x6
def board_Checkl30s (rec : Int → List Int → List Int → Int → List Int → Option ((Int × List Int × List Int × Int) ⊕ (List Int × List Int × Int))) (x0 : Int) (x1 x2 : List Int) (x3 : Int) (x4 : List Int) : Option ((Int × List Int × List Int × Int) ⊕ (List Int × List Int × Int)) :=
 br (decide (x0 < 8))
 (br (inB x0 9)
 (ob (piece_Total x0) fun a18 =>
 br (decide (List.getD x4 (Int.toNat x0) 0 > a18))
 (some (.inl (51, x1, x2, x3)))
 (rec (IntKind.wrap .i64 (x0 + 1)) x1 x2 x3 x4))
 (none))
 (some (.inr (x1, x2, x3)))
def board_Checkl30 : Nat → Int → List Int → List Int → Int → List Int → Option ((Int × List Int × List Int × Int) ⊕ (List Int × List Int × Int))
 | 0, _, _, _, _, _ => none
 | f + 1, x0, x1, x2, x3, x4 => board_Checkl30s (board_Checkl30 f) x0 x1 x2 x3 x4
def board_Check (x0 x1 : List Int) (x2 : Int) : Option (Int) :=
 br (x2 != 0)
 (br (x2 != 1)
 (some (1))
 (ob (board_Checkl6 many x0 0 x0 x1 x2 ([0, 0, 0, 0, 0, 0, 0, 0, 0]) ([0, 0])) fun t3_2 =>
 sw t3_2 (fun (a3_0, _, _, _, _, _) =>
 some (a3_0))
 (fun (a3_0, a3_1, a3_2, a3_3, a3_4) =>
 ob (board_Checkl17 many a3_1 0 a3_0 a3_1 a3_2 a3_3 a3_4) fun t8_2 =>
 sw t8_2 (fun (a8_0, _, _, _, _, _) =>
 some (a8_0))
 (fun (a8_0, a8_1, a8_2, a8_3, a8_4) =>
 br (!a8_4 == [1, 1])
 (some (50))
 (ob (board_Checkl30 many 1 a8_0 a8_1 a8_2 a8_3) fun t13_2 =>
 sw t13_2 (fun (a13_0, _, _, _) =>
 some (a13_0))
 (fun (a13_0, a13_1, a13_2) =>
 ob (board_files a13_0 a13_1 a13_2) fun a16 =>
 some (a16)))))))
 (ob (board_Checkl6 many x0 0 x0 x1 x2 ([0, 0, 0, 0, 0, 0, 0, 0, 0]) ([0, 0])) fun t3_2 =>
 sw t3_2 (fun (a3_0, _, _, _, _, _) =>
 some (a3_0))
 (fun (a3_0, a3_1, a3_2, a3_3, a3_4) =>
 ob (board_Checkl17 many a3_1 0 a3_0 a3_1 a3_2 a3_3 a3_4) fun t8_2 =>
 sw t8_2 (fun (a8_0, _, _, _, _, _) =>
 some (a8_0))
 (fun (a8_0, a8_1, a8_2, a8_3, a8_4) =>
 br (!a8_4 == [1, 1])
 (some (50))
 (ob (board_Checkl30 many 1 a8_0 a8_1 a8_2 a8_3) fun t13_2 =>
 sw t13_2 (fun (a13_0, _, _, _) =>
 some (a13_0))
 (fun (a13_0, a13_1, a13_2) =>
 ob (board_files a13_0 a13_1 a13_2) fun a16 =>
 some (a16))))))
def law05_begins : Option (Bool) :=
 ob (board_Start ) fun (a0_0, a0_1, a0_2) =>
 ob (board_New a0_0 a0_1 a0_2) fun (a3_0, a3_1, a3_2, a3_3, a3_4) =>
 ob (board_Taken a3_0 a3_1 a3_2 a3_3 a3_4) fun (a8_0, a8_1) =>
 ob (set_Count a8_0 a8_1) fun a10 =>
 br (a10 == 40)
 (ob (board_At 44 a3_0 a3_1 a3_2 a3_3 a3_4) fun a11 =>
 br (a11 == 8)
 (ob (board_King 0 a3_0 a3_1 a3_2 a3_3 a3_4) fun a12 =>
 br (a12 == 44)
 (ob (board_King 1 a3_0 a3_1 a3_2 a3_3 a3_4) fun a13 =>
 br (a13 == 36)
 (ob (board_Start ) fun (a14_0, a14_1, a14_2) =>
 ob (board_Check a14_0 a14_1 a14_2) fun a17 =>
 some (a17 == 0))
 (some (false)))
 (some (false)))
 (some (false)))
 (some (false))
def ref02_Letters : Option (Nat × Nat × List (List Int)) :=
 some (16, 16, [[0], [81], [77], [79], [84], [72], [67], [83], [76], [20780], [19756], [20268], [21548], [0], [17196], [21292]])
def ref05_Startl8s (rec : ByteArray → Nat → Int → Int → List Int → List Int → Int → List Int → List Int → Int → Nat → List (List Int) → Option (ByteArray × Nat × Int × List Int × List Int × Int × List Int × List Int × Int × Nat × List (List Int))) (x0 : ByteArray) (x1 : Nat) (x2 x3 : Int) (x4 x5 : List Int) (x6 : Int) (x7 x8 : List Int) (x9 : Int) (x10 : Nat) (x11 : List (List Int)) : Option (ByteArray × Nat × Int × List Int × List Int × Int × List Int × List Int × Int × Nat × List (List Int)) :=
 br (decide (x3 ≤ 8))
 (br (inB x3 x1)
 (br (inLe (IntKind.wrap .i64 (x2 + 1)) (ByteArray.size x0) && inLe x2 (Int.toNat (IntKind.wrap .i64 (x2 + 1))))
 (br (strEq (decS (List.getD (List.getD x11 (Int.toNat x3) []) 0 0)) (ByteArray.extract x0 (Int.toNat x2) (Int.toNat (IntKind.wrap .i64 (x2 + 1)))))
 (br (inB (IntKind.wrap .i64 (IntKind.wrap .i64 (9 * x2) + 8)) 81)
 (br (inB (IntKind.wrap .i64 (9 * x2)) 81)
 (rec x0 x1 x2 (IntKind.wrap .i64 (x3 + 1)) x4 x5 x6 (List.set (List.set x7 (Int.toNat (IntKind.wrap .i64 (IntKind.wrap .i64 (9 * x2) + 8))) (conv .i64 .i8 x3)) (Int.toNat (IntKind.wrap .i64 (9 * x2))) (conv .i64 .i8 (IntKind.wrap .i64 (x3 + 16)))) x8 x9 x10 x11)
 (none))
 (none))
 (rec x0 x1 x2 (IntKind.wrap .i64 (x3 + 1)) x4 x5 x6 x7 x8 x9 x10 x11))
 (none))
 (none))
 (some (x0, x1, x2, x4, x5, x6, x7, x8, x9, x10, x11))
def ref05_Startl8 : Nat → ByteArray → Nat → Int → Int → List Int → List Int → Int → List Int → List Int → Int → Nat → List (List Int) → Option (ByteArray × Nat × Int × List Int × List Int × Int × List Int × List Int × Int × Nat × List (List Int))
 | 0, _, _, _, _, _, _, _, _, _, _, _, _ => none
 | f + 1, x0, x1, x2, x3, x4, x5, x6, x7, x8, x9, x10, x11 => ref05_Startl8s (ref05_Startl8 f) x0 x1 x2 x3 x4 x5 x6 x7 x8 x9 x10 x11
def ref05_Startl5s (rec : ByteArray → Nat → Int → List Int → List Int → Int → List Int → List Int → Int → Nat → List (List Int) → Option (List Int × List Int × Int × List Int × List Int × Int)) (x0 : ByteArray) (x1 : Nat) (x2 : Int) (x3 x4 : List Int) (x5 : Int) (x6 x7 : List Int) (x8 : Int) (x9 : Nat) (x10 : List (List Int)) : Option (List Int × List Int × Int × List Int × List Int × Int) :=
 br (decide (x2 < 9))
 (ob (ref05_Startl8 many x0 x1 x2 1 x3 x4 x5 x6 x7 x8 x9 x10) fun (a14_0, a14_1, a14_2, a14_3, a14_4, a14_5, a14_6, a14_7, a14_8, a14_9, a14_10) =>
 br (inB (IntKind.wrap .i64 (IntKind.wrap .i64 (9 * a14_2) + 6)) 81)
 (br (inB (IntKind.wrap .i64 (IntKind.wrap .i64 (9 * a14_2) + 2)) 81)
 (rec a14_0 a14_1 (IntKind.wrap .i64 (a14_2 + 1)) a14_3 a14_4 a14_5 (List.set (List.set a14_6 (Int.toNat (IntKind.wrap .i64 (IntKind.wrap .i64 (9 * a14_2) + 6))) 1) (Int.toNat (IntKind.wrap .i64 (IntKind.wrap .i64 (9 * a14_2) + 2))) 17) a14_7 a14_8 a14_9 a14_10)
 (none))
 (none))
 (some (x3, x4, x5, x6, x7, x8))
def ref05_Startl5 : Nat → ByteArray → Nat → Int → List Int → List Int → Int → List Int → List Int → Int → Nat → List (List Int) → Option (List Int × List Int × Int × List Int × List Int × Int)
 | 0, _, _, _, _, _, _, _, _, _, _, _ => none
 | f + 1, x0, x1, x2, x3, x4, x5, x6, x7, x8, x9, x10 => ref05_Startl5s (ref05_Startl5 f) x0 x1 x2 x3 x4 x5 x6 x7 x8 x9 x10
def ref05_Start : Option (List Int × List Int × Int) :=
 ob (ref02_Letters ) fun (a0_0, a0_1, a0_2) =>
 ob (ref05_Startl5 many ({ data := #[76, 78, 83, 71, 75, 71, 83, 78, 76] }) a0_0 0 ([0, 0, 0, 0, 0, 0, 0, 0, 0, 0, 0, 0, 0, 0, 0, 0, 0, 0, 0, 0, 0, 0, 0, 0, 0, 0, 0, 0, 0, 0, 0, 0, 0, 0, 0, 0, 0, 0, 0, 0, 0, 0, 0, 0, 0, 0, 0, 0, 0, 0, 0, 0, 0, 0, 0, 0, 0, 0, 0, 0, 0, 0, 0, 0, 0, 0, 0, 0, 0, 0, 0, 0, 0, 0, 0, 0, 0, 0, 0, 0, 0]) ([0, 0, 0, 0, 0, 0, 0, 0, 0, 0, 0, 0, 0, 0, 0, 0]) 0 ([0, 0, 0, 0, 0, 0, 0, 0, 0, 0, 0, 0, 0, 0, 0, 0, 0, 0, 0, 0, 0, 0, 0, 0, 0, 0, 0, 0, 0, 0, 0, 0, 0, 0, 0, 0, 0, 0, 0, 0, 0, 0, 0, 0, 0, 0, 0, 0, 0, 0, 0, 0, 0, 0, 0, 0, 0, 0, 0, 0, 0, 0, 0, 0, 0, 0, 0, 0, 0, 0, 0, 0, 0, 0, 0, 0, 0, 0, 0, 0, 0]) ([0, 0, 0, 0, 0, 0, 0, 0, 0, 0, 0, 0, 0, 0, 0, 0]) 0 a0_1 a0_2) fun (_, _, _, a3_3, a3_4, a3_5) =>
 some (List.set (List.set (List.set (List.set a3_3 70 6) 16 7) 10 22) 64 23, a3_4, a3_5)
def law05_BoardStart (x0 x1 : Int) : Option (Bool) :=
 ob (law05_begins ) fun a2 =>
 br (!a2)
 (some (false))
 (ob (board_Start ) fun (a3_0, a3_1, a3_2) =>
 ob (ref05_Start ) fun (a6_0, a6_1, a6_2) =>
 br (!(a3_0 == a6_0 && (a3_1 == a6_1 && a3_2 == a6_2)))
 (some (false))
 (br (a3_2 != 0)
 (some (false))
 (br (decide (x0 < 0))
 (some (true))
 (br (decide (x0 > 80))
 (some (true))
 (br (inB x0 81)
 (ob (board_Check (List.set a3_0 (Int.toNat x0) x1) a3_1 a3_2) fun a9 =>
 ob (ref05_Check (List.set a3_0 (Int.toNat x0) x1) a3_1 a3_2) fun a10 =>
 some (a9 == a10))
 (none))))))
end Go.Kk.Pl
