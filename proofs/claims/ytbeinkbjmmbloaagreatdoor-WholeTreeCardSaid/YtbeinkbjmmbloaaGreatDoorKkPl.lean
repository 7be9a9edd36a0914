/- Printed by a tool of this project (KkGen): the plain functions that the program's code comes to. -/
import Derived.Test.YtbeinkbjmmbloaaGreatDoorKkE
namespace Go.Kk.Pl
def qCT (x0 x1 : Int) : Option (Int) :=
 br (decide (x0 < 0))
 (some (-1))
 (br (decide (x0 > 8))
 (some (-1))
 (br (decide (x1 < 0))
 (some (-1))
 (br (decide (x1 > 8))
 (some (-1))
 (some (IntKind.wrap .i64 (IntKind.wrap .i64 (9 * x0) + x1))))))
def qKL (x0 x1 x2 : Int) : Option (Int) :=
 br (x1 == 1)
 (ob (qCT x2 x0) fun a3 =>
 some (a3))
 (ob (qCT x2 (IntKind.wrap .i64 (8 - x0))) fun a3 =>
 some (a3))
def qAh (x0 x1 : Int) : Option (Int) :=
 br (x0 != 0)
 (br (x0 != 1)
 (some (0))
 (br (decide (x1 < 1))
 (some (0))
 (br (decide (x1 > 15))
 (some (0))
 (br (x1 == 13)
 (some (0))
 (some (conv .i64 .i8 (IntKind.wrap .i64 (IntKind.wrap .i64 (16 * x0) + x1))))))))
 (br (decide (x1 < 1))
 (some (0))
 (br (decide (x1 > 15))
 (some (0))
 (br (x1 == 13)
 (some (0))
 (some (conv .i64 .i8 (IntKind.wrap .i64 (IntKind.wrap .i64 (16 * x0) + x1)))))))
def qTO (rec : Int -> Int -> List Int -> List Int -> Int -> List Int -> List Int -> Int -> List Int -> Int -> Option (Int × List Int × List Int × Int × List Int × List Int × Int × List Int)) (x0 x1 : Int) (x2 x3 : List Int) (x4 : Int) (x5 x6 : List Int) (x7 : Int) (x8 : List Int) (x9 : Int) : Option (Int × List Int × List Int × Int × List Int × List Int × Int × List Int) :=
 br (decide (x1 < 2))
 (ob (qKL 0 x1 x9) fun a18 =>
 br (inB x9 9)
 (ob (qAh x1 (List.getD x8 (Int.toNat x9) 0)) fun a19 =>
 br (inB a18 81)
 (ob (qKL 2 x1 x9) fun a20 =>
 ob (qAh x1 1) fun a21 =>
 br (inB a20 81)
 (rec x0 (IntKind.wrap .i64 (x1 + 1)) x2 x3 x4 (List.set (List.set x5 (Int.toNat a18) a19) (Int.toNat a20) a21) x6 x7 x8 x9)
 (none))
 (none))
 (none))
 (some (x0, x2, x3, x4, x5, x6, x7, x8))
def qKN : Nat -> Int -> Int -> List Int -> List Int -> Int -> List Int -> List Int -> Int -> List Int -> Int -> Option (Int × List Int × List Int × Int × List Int × List Int × Int × List Int)
 | 0, _, _, _, _, _, _, _, _, _, _ => none
 | f + 1, x0, x1, x2, x3, x4, x5, x6, x7, x8, x9 => qTO (qKN f) x0 x1 x2 x3 x4 x5 x6 x7 x8 x9
def qTM (rec : Int -> List Int -> List Int -> Int -> List Int -> List Int -> Int -> List Int -> Option (List Int × List Int × Int × List Int × List Int × Int)) (x0 : Int) (x1 x2 : List Int) (x3 : Int) (x4 x5 : List Int) (x6 : Int) (x7 : List Int) : Option (List Int × List Int × Int × List Int × List Int × Int) :=
 br (decide (x0 < 9))
 (ob (qKN qC x0 0 x1 x2 x3 x4 x5 x6 x7 x0) fun (a8_0, a8_1, a8_2, a8_3, a8_4, a8_5, a8_6, a8_7) =>
 rec (IntKind.wrap .i64 (a8_0 + 1)) a8_1 a8_2 a8_3 a8_4 a8_5 a8_6 a8_7)
 (some (x1, x2, x3, x4, x5, x6))
def qKM : Nat -> Int -> List Int -> List Int -> Int -> List Int -> List Int -> Int -> List Int -> Option (List Int × List Int × Int × List Int × List Int × Int)
 | 0, _, _, _, _, _, _, _, _ => none
 | f + 1, x0, x1, x2, x3, x4, x5, x6, x7 => qTM (qKM f) x0 x1 x2 x3 x4 x5 x6 x7
def qIi : Option (List Int × List Int × Int) :=
 ob (qKM qC 0 ([0, 0, 0, 0, 0, 0, 0, 0, 0, 0, 0, 0, 0, 0, 0, 0, 0, 0, 0, 0, 0, 0, 0, 0, 0, 0, 0, 0, 0, 0, 0, 0, 0, 0, 0, 0, 0, 0, 0, 0, 0, 0, 0, 0, 0, 0, 0, 0, 0, 0, 0, 0, 0, 0, 0, 0, 0, 0, 0, 0, 0, 0, 0, 0, 0, 0, 0, 0, 0, 0, 0, 0, 0, 0, 0, 0, 0, 0, 0, 0, 0]) ([0, 0, 0, 0, 0, 0, 0, 0, 0, 0, 0, 0, 0, 0, 0, 0]) 0 ([0, 0, 0, 0, 0, 0, 0, 0, 0, 0, 0, 0, 0, 0, 0, 0, 0, 0, 0, 0, 0, 0, 0, 0, 0, 0, 0, 0, 0, 0, 0, 0, 0, 0, 0, 0, 0, 0, 0, 0, 0, 0, 0, 0, 0, 0, 0, 0, 0, 0, 0, 0, 0, 0, 0, 0, 0, 0, 0, 0, 0, 0, 0, 0, 0, 0, 0, 0, 0, 0, 0, 0, 0, 0, 0, 0, 0, 0, 0, 0, 0]) ([0, 0, 0, 0, 0, 0, 0, 0, 0, 0, 0, 0, 0, 0, 0, 0]) 0 ([2, 3, 4, 5, 8, 5, 4, 3, 2])) fun (_, _, _, a0_3, a0_4, a0_5) =>
 ob (qCT 7 7) fun a6 =>
 ob (qCT 1 7) fun a7 =>
 br (inB a6 81)
 (br (inB a7 81)
 (ob (qCT 1 1) fun a8 =>
 ob (qCT 7 1) fun a9 =>
 br (inB a8 81)
 (br (inB a9 81)
 (some (List.set (List.set (List.set (List.set a0_3 (Int.toNat a6) 6) (Int.toNat a7) 7) (Int.toNat a8) 22) (Int.toNat a9) 23, a0_4, a0_5))
 (none))
 (none))
 (none))
 (none)
def q9 (x0 : Int) : Option (Int) :=
 br (decide (x0 <= 0))
 (br (x0 == 8)
 (some (8))
 (br (x0 == 24)
 (some (8))
 (some (0))))
 (br (decide (x0 > 31))
 (br (x0 == 8)
 (some (8))
 (br (x0 == 24)
 (some (8))
 (some (0))))
 (br (qD BinOp.and .i64 x0 15 == 0)
 (br (x0 == 8)
 (some (8))
 (br (x0 == 24)
 (some (8))
 (some (0))))
 (br (qD BinOp.and .i64 x0 15 == 13)
 (br (x0 == 8)
 (some (8))
 (br (x0 == 24)
 (some (8))
 (some (0))))
 (some (qD BinOp.and .i64 x0 15)))))
def qDa (x0 : Int) : Option (Int) :=
 some (qD BinOp.xor .u64 (IntKind.wrap .u64 (qD BinOp.xor .u64 (IntKind.wrap .u64 (qD BinOp.xor .u64 (IntKind.wrap .u64 (x0 + 11400714819323198485)) (Int.fdiv (IntKind.wrap .u64 (x0 + 11400714819323198485)) 1073741824) * 13787848793156543929)) (Int.fdiv (IntKind.wrap .u64 (qD BinOp.xor .u64 (IntKind.wrap .u64 (x0 + 11400714819323198485)) (Int.fdiv (IntKind.wrap .u64 (x0 + 11400714819323198485)) 1073741824) * 13787848793156543929)) 134217728) * 10723151780598845931)) (Int.fdiv (IntKind.wrap .u64 (qD BinOp.xor .u64 (IntKind.wrap .u64 (qD BinOp.xor .u64 (IntKind.wrap .u64 (x0 + 11400714819323198485)) (Int.fdiv (IntKind.wrap .u64 (x0 + 11400714819323198485)) 1073741824) * 13787848793156543929)) (Int.fdiv (IntKind.wrap .u64 (qD BinOp.xor .u64 (IntKind.wrap .u64 (x0 + 11400714819323198485)) (Int.fdiv (IntKind.wrap .u64 (x0 + 11400714819323198485)) 1073741824) * 13787848793156543929)) 134217728) * 10723151780598845931)) 2147483648))
def qB6 (x0 x1 : Int) : Option (Int) :=
 ob (q9 x1) fun a2 =>
 br (a2 == 0)
 (some (0))
 (br (decide (x0 < 0))
 (some (0))
 (br (decide (x0 >= 81))
 (some (0))
 (ob (qDa (IntKind.wrap .u64 (IntKind.wrap .u64 (conv .i64 .u64 x0 * 32) + conv .i8 .u64 x1))) fun a3 =>
 some (a3))))
def qCe (x0 x1 x2 : Int) : Option (Int) :=
 br (x0 != 0)
 (br (x0 != 1)
 (some (0))
 (br (decide (x1 < 1))
 (some (0))
 (br (decide (x1 >= 8))
 (some (0))
 (br (decide (x2 <= 0))
 (some (0))
 (br (decide (x2 > 18))
 (some (0))
 (ob (qDa (IntKind.wrap .u64 (IntKind.wrap .u64 (IntKind.wrap .u64 (65536 + IntKind.wrap .u64 (conv .i64 .u64 x0 * 1024)) + IntKind.wrap .u64 (conv .i64 .u64 x1 * 32)) + conv .i64 .u64 x2))) fun a3 =>
 some (a3)))))))
 (br (decide (x1 < 1))
 (some (0))
 (br (decide (x1 >= 8))
 (some (0))
 (br (decide (x2 <= 0))
 (some (0))
 (br (decide (x2 > 18))
 (some (0))
 (ob (qDa (IntKind.wrap .u64 (IntKind.wrap .u64 (IntKind.wrap .u64 (65536 + IntKind.wrap .u64 (conv .i64 .u64 x0 * 1024)) + IntKind.wrap .u64 (conv .i64 .u64 x1 * 32)) + conv .i64 .u64 x2))) fun a3 =>
 some (a3))))))
def qCg : Option (Int) :=
 ob (qDa 1048576) fun a0 =>
 some (a0)
def qDY (rec : Int -> List Int -> Int -> List Int -> List Int -> Int -> Option (Int × List Int × List Int × Int)) (x0 : Int) (x1 : List Int) (x2 : Int) (x3 x4 : List Int) (x5 : Int) : Option (Int × List Int × List Int × Int) :=
 br (decide (x2 < 81))
 (br (inB x2 81)
 (ob (qB6 x2 (List.getD x1 (bif true then Int.toNat x2 else Int.toNat x2 * 1) 0)) fun a9 =>
 rec (qD BinOp.xor .u64 x0 a9) x1 (IntKind.wrap .i64 (x2 + 1)) x3 x4 x5)
 (none))
 (some (x0, x3, x4, x5))
def qCL : Nat -> Int -> List Int -> Int -> List Int -> List Int -> Int -> Option (Int × List Int × List Int × Int)
 | 0, _, _, _, _, _, _ => none
 | f + 1, x0, x1, x2, x3, x4, x5 => qDY (qCL f) x0 x1 x2 x3 x4 x5
def qDX (rec : Int -> Int -> List Int -> Int -> List Int -> Int -> List Int -> List Int -> Int -> Option (Int × List Int × Int × List Int × List Int × Int)) (x0 x1 : Int) (x2 : List Int) (x3 : Int) (x4 : List Int) (x5 : Int) (x6 x7 : List Int) (x8 : Int) : Option (Int × List Int × Int × List Int × List Int × Int) :=
 br (decide (x5 < 8))
 (br (inB x5 8)
 (ob (qCe x1 x5 (conv .i8 .i64 (List.getD x4 (bif true then Int.toNat x5 else Int.toNat x5 * 1) 0))) fun a22 =>
 rec (qD BinOp.xor .u64 x0 a22) x1 x2 x3 x4 (IntKind.wrap .i64 (x5 + 1)) x6 x7 x8)
 (none))
 (some (x0, x2, x3, x6, x7, x8))
def qCf : Nat -> Int -> Int -> List Int -> Int -> List Int -> Int -> List Int -> List Int -> Int -> Option (Int × List Int × Int × List Int × List Int × Int)
 | 0, _, _, _, _, _, _, _, _, _ => none
 | f + 1, x0, x1, x2, x3, x4, x5, x6, x7, x8 => qDX (qCf f) x0 x1 x2 x3 x4 x5 x6 x7 x8
def qDZ (rec : Int -> List Int -> Int -> List Int -> List Int -> Int -> Option (Int × List Int × List Int × Int)) (x0 : Int) (x1 : List Int) (x2 : Int) (x3 x4 : List Int) (x5 : Int) : Option (Int × List Int × List Int × Int) :=
 br (decide (x2 < 2))
 (br (inB x2 2)
 (ob (qCf qC x0 x2 x1 x2 (List.take 8 (List.drop (Nat.add (Nat.mul (Int.toNat x2) 7) (Int.toNat x2)) x1)) 0 x3 x4 x5) fun (a13_0, a13_1, a13_2, a13_3, a13_4, a13_5) =>
 rec a13_0 a13_1 (IntKind.wrap .i64 (a13_2 + 1)) a13_3 a13_4 a13_5)
 (none))
 (some (x0, x3, x4, x5))
def qBp : Nat -> Int -> List Int -> Int -> List Int -> List Int -> Int -> Option (Int × List Int × List Int × Int)
 | 0, _, _, _, _, _, _ => none
 | f + 1, x0, x1, x2, x3, x4, x5 => qDZ (qBp f) x0 x1 x2 x3 x4 x5
def qC1 (x0 x1 : List Int) (x2 : Int) : Option (Int) :=
 ob (qCL qC 0 x0 0 x0 x1 x2) fun (a3_0, a3_1, a3_2, a3_3) =>
 ob (qBp qC a3_0 a3_2 0 a3_1 a3_2 a3_3) fun (a7_0, _, _, a7_3) =>
 br (a7_3 == 1)
 (ob (qCg ) fun a11 =>
 some (qD BinOp.xor .u64 a7_0 a11))
 (some (a7_0))
def qFo (x0 : Int) : Option (Int × Int) :=
 br (decide (x0 < 0))
 (some (0, 0))
 (br (decide (x0 >= 81))
 (some (0, 0))
 (br (decide (x0 < 63))
 (br (decide (x0 < 0))
 (none)
 (some (IntKind.wrap .u64 (1 * 2 ^ min (Int.toNat x0) 64), 0)))
 (br (decide (IntKind.wrap .i64 (x0 - 63) < 0))
 (none)
 (some (0, IntKind.wrap .u64 (1 * 2 ^ min (Int.toNat (IntKind.wrap .i64 (x0 - 63))) 64))))))
def qFk (x0 x1 : Int) (x2 x3 : Int) : Option (Int × Int) :=
 some (qD BinOp.andNot .u64 x0 x2, qD BinOp.andNot .u64 x1 x3)
def qEc (x0 x1 x2 : Int) : Option (Int × Int) :=
 ob (qFo x2) fun (a3_0, a3_1) =>
 ob (qFk x0 x1 a3_0 a3_1) fun (a5_0, a5_1) =>
 some (a5_0, a5_1)
def qAM (x0 : Int) : Option (Int) :=
 ob (q9 x0) fun a1 =>
 br (a1 == 0)
 (some (-1))
 (br (decide (x0 < 16))
 (some (0))
 (some (1)))
def qDn (x0 x1 : Int) (x2 x3 : Int) : Option (Int × Int) :=
 some (qD BinOp.or .u64 x0 x2, qD BinOp.or .u64 x1 x3)
def qA7 (x0 x1 x2 : Int) : Option (Int × Int) :=
 ob (qFo x2) fun (a3_0, a3_1) =>
 ob (qDn x0 x1 a3_0 a3_1) fun (a5_0, a5_1) =>
 some (a5_0, a5_1)
def qF4 (x0 x1 : Int) (x2 x3 : List Int) (x4 : Int) (x5 x6 : List (List Int)) : Option (List Int × List Int × Int × List (List Int) × List (List Int)) :=
 br (decide (x0 < 0))
 (some (x2, x3, x4, x5, x6))
 (br (decide (x0 >= 81))
 (some (x2, x3, x4, x5, x6))
 (br (inB x0 81)
 (br (List.getD x2 (Int.toNat x0) 0 != 0)
 (br (inB (List.getD x2 (Int.toNat x0) 0) 32)
 (ob (qEc (List.headD (List.take 2 (List.getD x5 (Int.toNat (List.getD x2 (Int.toNat x0) 0)) [])) 0) (List.headD (List.tail (List.take 2 (List.getD x5 (Int.toNat (List.getD x2 (Int.toNat x0) 0)) []))) 0) x0) fun (a7_0, a7_1) =>
 br (inB (List.getD x2 (Int.toNat x0) 0) 32)
 (ob (qAM (List.getD x2 (Int.toNat x0) 0)) fun a9 =>
 ob (qAM (List.getD x2 (Int.toNat x0) 0)) fun a10 =>
 br (inB a10 2)
 (ob (qEc (List.headD (List.take 2 (List.getD x6 (Int.toNat a10) [])) 0) (List.headD (List.tail (List.take 2 (List.getD x6 (Int.toNat a10) []))) 0) x0) fun (a11_0, a11_1) =>
 br (inB a9 2)
 (ob (q9 x1) fun a13 =>
 br (a13 == 0)
 (br (inB x0 81)
 (some (List.set x2 (Int.toNat x0) 0, x3, x4, List.set x5 (Int.toNat (List.getD x2 (Int.toNat x0) 0)) (a7_0 :: a7_1 :: List.drop 2 (List.getD x5 (Int.toNat (List.getD x2 (Int.toNat x0) 0)) [])), List.set x6 (Int.toNat a9) (a11_0 :: a11_1 :: List.drop 2 (List.getD x6 (Int.toNat a9) []))))
 (none))
 (br (inB x0 81)
 (br (x1 != 0)
 (br (inB x1 32)
 (ob (qA7 (List.headD (List.take 2 (List.getD (List.set x5 (Int.toNat (List.getD x2 (Int.toNat x0) 0)) (a7_0 :: a7_1 :: List.drop 2 (List.getD x5 (Int.toNat (List.getD x2 (Int.toNat x0) 0)) []))) (Int.toNat x1) [])) 0) (List.headD (List.tail (List.take 2 (List.getD (List.set x5 (Int.toNat (List.getD x2 (Int.toNat x0) 0)) (a7_0 :: a7_1 :: List.drop 2 (List.getD x5 (Int.toNat (List.getD x2 (Int.toNat x0) 0)) []))) (Int.toNat x1) []))) 0) x0) fun (a14_0, a14_1) =>
 br (inB x1 32)
 (ob (qAM x1) fun a16 =>
 ob (qAM x1) fun a17 =>
 br (inB a17 2)
 (ob (qA7 (List.headD (List.take 2 (List.getD (List.set x6 (Int.toNat a9) (a11_0 :: a11_1 :: List.drop 2 (List.getD x6 (Int.toNat a9) []))) (Int.toNat a17) [])) 0) (List.headD (List.tail (List.take 2 (List.getD (List.set x6 (Int.toNat a9) (a11_0 :: a11_1 :: List.drop 2 (List.getD x6 (Int.toNat a9) []))) (Int.toNat a17) []))) 0) x0) fun (a18_0, a18_1) =>
 br (inB a16 2)
 (some (List.set x2 (Int.toNat x0) x1, x3, x4, List.set (List.set x5 (Int.toNat (List.getD x2 (Int.toNat x0) 0)) (a7_0 :: a7_1 :: List.drop 2 (List.getD x5 (Int.toNat (List.getD x2 (Int.toNat x0) 0)) []))) (Int.toNat x1) (a14_0 :: a14_1 :: List.drop 2 (List.getD (List.set x5 (Int.toNat (List.getD x2 (Int.toNat x0) 0)) (a7_0 :: a7_1 :: List.drop 2 (List.getD x5 (Int.toNat (List.getD x2 (Int.toNat x0) 0)) []))) (Int.toNat x1) [])), List.set (List.set x6 (Int.toNat a9) (a11_0 :: a11_1 :: List.drop 2 (List.getD x6 (Int.toNat a9) []))) (Int.toNat a16) (a18_0 :: a18_1 :: List.drop 2 (List.getD (List.set x6 (Int.toNat a9) (a11_0 :: a11_1 :: List.drop 2 (List.getD x6 (Int.toNat a9) []))) (Int.toNat a16) []))))
 (none))
 (none))
 (none))
 (none))
 (some (List.set x2 (Int.toNat x0) x1, x3, x4, List.set x5 (Int.toNat (List.getD x2 (Int.toNat x0) 0)) (a7_0 :: a7_1 :: List.drop 2 (List.getD x5 (Int.toNat (List.getD x2 (Int.toNat x0) 0)) [])), List.set x6 (Int.toNat a9) (a11_0 :: a11_1 :: List.drop 2 (List.getD x6 (Int.toNat a9) [])))))
 (none)))
 (none))
 (none))
 (none))
 (none))
 (ob (q9 x1) fun a7 =>
 br (a7 == 0)
 (br (inB x0 81)
 (some (List.set x2 (Int.toNat x0) 0, x3, x4, x5, x6))
 (none))
 (br (inB x0 81)
 (br (x1 != 0)
 (br (inB x1 32)
 (ob (qA7 (List.headD (List.take 2 (List.getD x5 (Int.toNat x1) [])) 0) (List.headD (List.tail (List.take 2 (List.getD x5 (Int.toNat x1) []))) 0) x0) fun (a8_0, a8_1) =>
 br (inB x1 32)
 (ob (qAM x1) fun a10 =>
 ob (qAM x1) fun a11 =>
 br (inB a11 2)
 (ob (qA7 (List.headD (List.take 2 (List.getD x6 (Int.toNat a11) [])) 0) (List.headD (List.tail (List.take 2 (List.getD x6 (Int.toNat a11) []))) 0) x0) fun (a12_0, a12_1) =>
 br (inB a10 2)
 (some (List.set x2 (Int.toNat x0) x1, x3, x4, List.set x5 (Int.toNat x1) (a8_0 :: a8_1 :: List.drop 2 (List.getD x5 (Int.toNat x1) [])), List.set x6 (Int.toNat a10) (a12_0 :: a12_1 :: List.drop 2 (List.getD x6 (Int.toNat a10) []))))
 (none))
 (none))
 (none))
 (none))
 (some (List.set x2 (Int.toNat x0) x1, x3, x4, x5, x6)))
 (none))))
 (none)))
def qGs (rec : List Int -> Int -> List Int -> List Int -> Int -> List (List Int) -> List (List Int) -> Option (List Int × List Int × Int × List (List Int) × List (List Int))) (x0 : List Int) (x1 : Int) (x2 x3 : List Int) (x4 : Int) (x5 x6 : List (List Int)) : Option (List Int × List Int × Int × List (List Int) × List (List Int)) :=
 br (decide (x1 < 81))
 (br (inB x1 81)
 (ob (qF4 x1 (List.getD x0 (bif true then Int.toNat x1 else Int.toNat x1 * 1) 0) x2 x3 x4 x5 x6) fun (a10_0, a10_1, a10_2, a10_3, a10_4) =>
 rec x0 (IntKind.wrap .i64 (x1 + 1)) a10_0 a10_1 a10_2 a10_3 a10_4)
 (none))
 (some (x2, x3, x4, x5, x6))
def qD1 : Nat -> List Int -> Int -> List Int -> List Int -> Int -> List (List Int) -> List (List Int) -> Option (List Int × List Int × Int × List (List Int) × List (List Int))
 | 0, _, _, _, _, _, _, _ => none
 | f + 1, x0, x1, x2, x3, x4, x5, x6 => qGs (qD1 f) x0 x1 x2 x3 x4 x5 x6
def qD0 (x0 x1 : List Int) (x2 : Int) : Option (List Int × List Int × Int × List (List Int) × List (List Int)) :=
 ob (qD1 qC x0 0 ([0, 0, 0, 0, 0, 0, 0, 0, 0, 0, 0, 0, 0, 0, 0, 0, 0, 0, 0, 0, 0, 0, 0, 0, 0, 0, 0, 0, 0, 0, 0, 0, 0, 0, 0, 0, 0, 0, 0, 0, 0, 0, 0, 0, 0, 0, 0, 0, 0, 0, 0, 0, 0, 0, 0, 0, 0, 0, 0, 0, 0, 0, 0, 0, 0, 0, 0, 0, 0, 0, 0, 0, 0, 0, 0, 0, 0, 0, 0, 0, 0]) x1 x2 ([[0, 0], [0, 0], [0, 0], [0, 0], [0, 0], [0, 0], [0, 0], [0, 0], [0, 0], [0, 0], [0, 0], [0, 0], [0, 0], [0, 0], [0, 0], [0, 0], [0, 0], [0, 0], [0, 0], [0, 0], [0, 0], [0, 0], [0, 0], [0, 0], [0, 0], [0, 0], [0, 0], [0, 0], [0, 0], [0, 0], [0, 0], [0, 0]]) ([[0, 0], [0, 0]])) fun (a3_0, a3_1, a3_2, a3_3, a3_4) =>
 some (a3_0, a3_1, a3_2, a3_3, a3_4)
def qIv (x0 x1 : List Int) (x2 : Int) : Option (Int × Nat × List Int × List Int × Int × List (List Int) × List (List Int) × Nat × List (List Int)) :=
 ob (qD0 x0 x1 x2) fun (a3_0, a3_1, a3_2, a3_3, a3_4) =>
 ob (qC1 a3_0 a3_1 a3_2) fun a8 =>
 some (a8, 0, a3_0, a3_1, a3_2, a3_3, a3_4, 0, [])
def qDc (x0 x1 x2 : Int) (x3 : Bool) : Option (Int) :=
 br (decide (x1 < 0))
 (some (1))
 (br (decide (x1 >= 81))
 (some (1))
 (br (x2 != 0)
 (br (decide (x2 < 0))
 (some (70))
 (br (decide (x2 >= 8))
 (some (70))
 (br (x0 != 0)
 (some (70))
 (br (x3)
 (some (70))
 (some (0))))))
 (br (decide (x0 < 0))
 (some (1))
 (br (decide (x0 >= 81))
 (some (1))
 (br (x0 == x1)
 (some (70))
 (some (0)))))))
def qCZ (x0 x1 : Int) (_x2 x3 : List Int) (_x4 : Int) (_x5 _x6 : List (List Int)) : Option (Int) :=
 br (x0 != 0)
 (br (x0 != 1)
 (some (0))
 (br (decide (x1 < 1))
 (some (0))
 (br (decide (x1 >= 8))
 (some (0))
 (br (inB x0 2)
 (br (inB x1 8)
 (some (conv .i8 .i64 (List.getD x3 (Int.toNat x0 * 8 + Int.toNat x1) 0)))
 (none))
 (none)))))
 (br (decide (x1 < 1))
 (some (0))
 (br (decide (x1 >= 8))
 (some (0))
 (br (inB x0 2)
 (br (inB x1 8)
 (some (conv .i8 .i64 (List.getD x3 (Int.toNat x0 * 8 + Int.toNat x1) 0)))
 (none))
 (none))))
def qAc (x0 : Int) (x1 _x2 : List Int) (_x3 : Int) (_x4 _x5 : List (List Int)) : Option (Int) :=
 br (decide (x0 < 0))
 (some (0))
 (br (decide (x0 >= 81))
 (some (0))
 (br (inB x0 81)
 (some (List.getD x1 (Int.toNat x0) 0))
 (none)))
def qCk (x0 : Int) : Option (Int) :=
 br (x0 == 1)
 (some (IntKind.wrap .i64 (x0 + 8)))
 (br (x0 == 2)
 (some (IntKind.wrap .i64 (x0 + 8)))
 (br (x0 == 3)
 (some (IntKind.wrap .i64 (x0 + 8)))
 (br (x0 == 4)
 (some (IntKind.wrap .i64 (x0 + 8)))
 (br (x0 == 6)
 (some (IntKind.wrap .i64 (x0 + 8)))
 (br (x0 == 7)
 (some (IntKind.wrap .i64 (x0 + 8)))
 (some (0)))))))
def qD4 (x0 x1 x2 : Int) (x3 : Bool) (_x4 : Int) (_x5 : Nat) (x6 x7 : List Int) (x8 : Int) (x9 x10 : List (List Int)) (_x11 : Nat) (_x12 : List (List Int)) : Option (Bool) :=
 ob (qDc x0 x1 x2 x3) fun a13 =>
 br (a13 != 0)
 (some (false))
 (br (x8 != 0)
 (br (x8 != 1)
 (some (false))
 (br (x2 != 0)
 (ob (qCZ x8 x2 x6 x7 x8 x9 x10) fun a14 =>
 br (decide (a14 > 0))
 (ob (qAc x1 x6 x7 x8 x9 x10) fun a15 =>
 some (a15 == 0))
 (some (false)))
 (ob (qAc x0 x6 x7 x8 x9 x10) fun a14 =>
 ob (qAc x1 x6 x7 x8 x9 x10) fun a15 =>
 ob (qAM a14) fun a16 =>
 br (a16 == x8)
 (ob (qAM a15) fun a17 =>
 br (a17 != x8)
 (ob (q9 a15) fun a18 =>
 br (a18 != 8)
 (br (!x3)
 (some (true))
 (ob (q9 a14) fun a19 =>
 ob (qCk a19) fun a20 =>
 some (a20 != 0)))
 (some (false)))
 (some (false)))
 (some (false)))))
 (br (x2 != 0)
 (ob (qCZ x8 x2 x6 x7 x8 x9 x10) fun a14 =>
 br (decide (a14 > 0))
 (ob (qAc x1 x6 x7 x8 x9 x10) fun a15 =>
 some (a15 == 0))
 (some (false)))
 (ob (qAc x0 x6 x7 x8 x9 x10) fun a14 =>
 ob (qAc x1 x6 x7 x8 x9 x10) fun a15 =>
 ob (qAM a14) fun a16 =>
 br (a16 == x8)
 (ob (qAM a15) fun a17 =>
 br (a17 != x8)
 (ob (q9 a15) fun a18 =>
 br (a18 != 8)
 (br (!x3)
 (some (true))
 (ob (q9 a14) fun a19 =>
 ob (qCk a19) fun a20 =>
 some (a20 != 0)))
 (some (false)))
 (some (false)))
 (some (false)))))
def qDT (x0 x1 : Int) (x2 x3 : Int) (x4 : Nat) (x5 x6 : List Int) (x7 : Int) (x8 x9 : List (List Int)) (x10 : Nat) (x11 : List (List Int)) : Option (Int × Nat × List Int × List Int × Int × List (List Int) × List (List Int) × Nat × List (List Int)) :=
 ob (qCZ x0 x1 x5 x6 x7 x8 x9) fun a12 =>
 ob (qCe x0 x1 a12) fun a13 =>
 ob (qCe x0 x1 (IntKind.wrap .i64 (a12 + x2))) fun a14 =>
 br (inB x0 2)
 (br (inB x1 8)
 (br (inB x0 2)
 (br (inB x1 8)
 (some (qD BinOp.xor .u64 x3 (qD BinOp.xor .u64 a13 a14), x4, x5, List.set x6 (Int.toNat x0 * 8 + Int.toNat x1) (IntKind.wrap .i8 (List.getD x6 (Int.toNat x0 * 8 + Int.toNat x1) 0 + conv .i64 .i8 x2)), x7, x8, x9, x10, x11))
 (none))
 (none))
 (none))
 (none)
def qB4 (x0 x1 x2 : Int) (x3 : Nat) (x4 x5 : List Int) (x6 : Int) (x7 x8 : List (List Int)) (x9 : Nat) (x10 : List (List Int)) : Option (Int × Nat × List Int × List Int × Int × List (List Int) × List (List Int) × Nat × List (List Int)) :=
 ob (qAc x0 x4 x5 x6 x7 x8) fun a11 =>
 ob (qB6 x0 a11) fun a12 =>
 ob (qB6 x0 x1) fun a13 =>
 ob (qF4 x0 x1 x4 x5 x6 x7 x8) fun (a14_0, a14_1, a14_2, a14_3, a14_4) =>
 some (qD BinOp.xor .u64 x2 (qD BinOp.xor .u64 a12 a13), x3, a14_0, a14_1, a14_2, a14_3, a14_4, x9, x10)
def qCa (x0 : Int) (x1 : Nat) (x2 x3 : List Int) (x4 : Int) (x5 x6 : List (List Int)) (x7 : Nat) (x8 : List (List Int)) : Option (Int × Nat × List Int × List Int × Int × List (List Int) × List (List Int) × Nat × List (List Int)) :=
 ob (qCg ) fun a9 =>
 some (qD BinOp.xor .u64 x0 a9, x1, x2, x3, IntKind.wrap .i8 (1 - x4), x5, x6, x7, x8)
def qCj (x0 : Int) : Option (Int) :=
 ob (qAh 0 x0) fun a1 =>
 br (a1 == 0)
 (some (0))
 (br (decide (x0 > 8))
 (some (IntKind.wrap .i64 (x0 - 8)))
 (some (x0)))
def qDS (x0 x1 x2 : Int) (x3 : Bool) (x4 : Int) (x5 : Nat) (x6 x7 : List Int) (x8 : Int) (x9 x10 : List (List Int)) (x11 : Nat) (x12 : List (List Int)) : Option ((Bool × Int × Nat × List Int × List Int × Int × List (List Int) × List (List Int) × Nat × List (List Int)) ⊕ (Bool × Int × Nat × List Int × List Int × Int × List (List Int) × List (List Int) × Nat × List (List Int))) :=
 ob (qD4 x0 x1 x2 x3 x4 x5 x6 x7 x8 x9 x10 x11 x12) fun a13 =>
 br (!a13)
 (some (.inl (false, x4, x5, x6, x7, x8, x9, x10, x11, x12)))
 (ob (qAc x1 x6 x7 x8 x9 x10) fun a14 =>
 br (x2 != 0)
 (ob (qAh x8 x2) fun a15 =>
 ob (qDT x8 x2 (-1) x4 x5 x6 x7 x8 x9 x10 x11 x12) fun (a16_0, a16_1, a16_2, a16_3, a16_4, a16_5, a16_6, a16_7, a16_8) =>
 ob (qB4 x1 a15 a16_0 a16_1 a16_2 a16_3 a16_4 a16_5 a16_6 a16_7 a16_8) fun (a25_0, a25_1, a25_2, a25_3, a25_4, a25_5, a25_6, a25_7, a25_8) =>
 ob (qCa a25_0 a25_1 a25_2 a25_3 a25_4 a25_5 a25_6 a25_7 a25_8) fun (a34_0, a34_1, a34_2, a34_3, a34_4, a34_5, a34_6, _, a34_8) =>
 br (decide ((a34_1 + 1) * 40 <= 140737488355328))
 (some (.inr (true, a34_0, a34_1 + 1, a34_2, a34_3, a34_4, a34_5, a34_6, a34_1 + 1, List.append (List.take a34_1 a34_8) [[x0, x1, x2, bi x3, a14, a15]])))
 (none))
 (ob (qAc x0 x6 x7 x8 x9 x10) fun a15 =>
 br (x3)
 (ob (q9 a15) fun a16 =>
 ob (qCk a16) fun a17 =>
 ob (qAh x8 a17) fun a18 =>
 ob (qB4 x0 0 x4 x5 x6 x7 x8 x9 x10 x11 x12) fun (a19_0, a19_1, a19_2, a19_3, a19_4, a19_5, a19_6, a19_7, a19_8) =>
 ob (qB4 x1 a18 a19_0 a19_1 a19_2 a19_3 a19_4 a19_5 a19_6 a19_7 a19_8) fun (a28_0, a28_1, a28_2, a28_3, a28_4, a28_5, a28_6, a28_7, a28_8) =>
 br (a14 != 0)
 (ob (q9 a14) fun a37 =>
 ob (qCj a37) fun a38 =>
 ob (qDT x8 a38 1 a28_0 a28_1 a28_2 a28_3 a28_4 a28_5 a28_6 a28_7 a28_8) fun (a39_0, a39_1, a39_2, a39_3, a39_4, a39_5, a39_6, a39_7, a39_8) =>
 ob (qCa a39_0 a39_1 a39_2 a39_3 a39_4 a39_5 a39_6 a39_7 a39_8) fun (a48_0, a48_1, a48_2, a48_3, a48_4, a48_5, a48_6, _, a48_8) =>
 br (decide ((a48_1 + 1) * 40 <= 140737488355328))
 (some (.inr (true, a48_0, a48_1 + 1, a48_2, a48_3, a48_4, a48_5, a48_6, a48_1 + 1, List.append (List.take a48_1 a48_8) [[x0, x1, x2, bi x3, a14, a15]])))
 (none))
 (ob (qCa a28_0 a28_1 a28_2 a28_3 a28_4 a28_5 a28_6 a28_7 a28_8) fun (a37_0, a37_1, a37_2, a37_3, a37_4, a37_5, a37_6, _, a37_8) =>
 br (decide ((a37_1 + 1) * 40 <= 140737488355328))
 (some (.inr (true, a37_0, a37_1 + 1, a37_2, a37_3, a37_4, a37_5, a37_6, a37_1 + 1, List.append (List.take a37_1 a37_8) [[x0, x1, x2, bi x3, a14, a15]])))
 (none)))
 (ob (qB4 x0 0 x4 x5 x6 x7 x8 x9 x10 x11 x12) fun (a16_0, a16_1, a16_2, a16_3, a16_4, a16_5, a16_6, a16_7, a16_8) =>
 ob (qB4 x1 a15 a16_0 a16_1 a16_2 a16_3 a16_4 a16_5 a16_6 a16_7 a16_8) fun (a25_0, a25_1, a25_2, a25_3, a25_4, a25_5, a25_6, a25_7, a25_8) =>
 br (a14 != 0)
 (ob (q9 a14) fun a34 =>
 ob (qCj a34) fun a35 =>
 ob (qDT x8 a35 1 a25_0 a25_1 a25_2 a25_3 a25_4 a25_5 a25_6 a25_7 a25_8) fun (a36_0, a36_1, a36_2, a36_3, a36_4, a36_5, a36_6, a36_7, a36_8) =>
 ob (qCa a36_0 a36_1 a36_2 a36_3 a36_4 a36_5 a36_6 a36_7 a36_8) fun (a45_0, a45_1, a45_2, a45_3, a45_4, a45_5, a45_6, _, a45_8) =>
 br (decide ((a45_1 + 1) * 40 <= 140737488355328))
 (some (.inr (true, a45_0, a45_1 + 1, a45_2, a45_3, a45_4, a45_5, a45_6, a45_1 + 1, List.append (List.take a45_1 a45_8) [[x0, x1, x2, bi x3, a14, a15]])))
 (none))
 (ob (qCa a25_0 a25_1 a25_2 a25_3 a25_4 a25_5 a25_6 a25_7 a25_8) fun (a34_0, a34_1, a34_2, a34_3, a34_4, a34_5, a34_6, _, a34_8) =>
 br (decide ((a34_1 + 1) * 40 <= 140737488355328))
 (some (.inr (true, a34_0, a34_1 + 1, a34_2, a34_3, a34_4, a34_5, a34_6, a34_1 + 1, List.append (List.take a34_1 a34_8) [[x0, x1, x2, bi x3, a14, a15]])))
 (none)))))
def qKW (_x0 : Int) (x1 : Nat) (_x2 _x3 : List Int) (_x4 : Int) (_x5 _x6 : List (List Int)) (_x7 : Nat) (_x8 : List (List Int)) : Option (Int) :=
 some (Int.ofNat x1)
def qE5 (x0 : Int) (x1 : Nat) (x2 x3 : List Int) (x4 : Int) (x5 x6 : List (List Int)) (x7 : Nat) (x8 : List (List Int)) : Option (Bool × Int × Nat × List Int × List Int × Int × List (List Int) × List (List Int) × Nat × List (List Int)) :=
 br (Int.ofNat x1 == 0)
 (some (false, x0, x1, x2, x3, x4, x5, x6, x7, x8))
 (br (inB (IntKind.wrap .i64 (Int.ofNat x1 - 1)) x1)
 (br (qFE (IntKind.wrap .i64 (Int.ofNat x1 - 1)) x1)
 (ob (qCa x0 (Int.toNat (IntKind.wrap .i64 (Int.ofNat x1 - 1)) - 0) x2 x3 x4 x5 x6 x7 x8) fun (a9_0, a9_1, a9_2, a9_3, a9_4, a9_5, a9_6, a9_7, a9_8) =>
 br (List.headD (List.tail (List.tail (List.take 6 (List.getD x8 (Int.toNat (IntKind.wrap .i64 (Int.ofNat x1 - 1))) [])))) 0 != 0)
 (ob (qB4 (List.headD (List.tail (List.take 6 (List.getD x8 (Int.toNat (IntKind.wrap .i64 (Int.ofNat x1 - 1))) []))) 0) 0 a9_0 a9_1 a9_2 a9_3 a9_4 a9_5 a9_6 a9_7 a9_8) fun (a18_0, a18_1, a18_2, a18_3, a18_4, a18_5, a18_6, a18_7, a18_8) =>
 ob (qDT a9_4 (List.headD (List.tail (List.tail (List.take 6 (List.getD x8 (Int.toNat (IntKind.wrap .i64 (Int.ofNat x1 - 1))) [])))) 0) 1 a18_0 a18_1 a18_2 a18_3 a18_4 a18_5 a18_6 a18_7 a18_8) fun (a27_0, a27_1, a27_2, a27_3, a27_4, a27_5, a27_6, a27_7, a27_8) =>
 some (true, a27_0, a27_1, a27_2, a27_3, a27_4, a27_5, a27_6, a27_7, a27_8))
 (ob (qB4 (List.headD (List.tail (List.take 6 (List.getD x8 (Int.toNat (IntKind.wrap .i64 (Int.ofNat x1 - 1))) []))) 0) (List.headD (List.tail (List.tail (List.tail (List.tail (List.take 6 (List.getD x8 (Int.toNat (IntKind.wrap .i64 (Int.ofNat x1 - 1))) [])))))) 0) a9_0 a9_1 a9_2 a9_3 a9_4 a9_5 a9_6 a9_7 a9_8) fun (a18_0, a18_1, a18_2, a18_3, a18_4, a18_5, a18_6, a18_7, a18_8) =>
 ob (qB4 (List.headD (List.take 6 (List.getD x8 (Int.toNat (IntKind.wrap .i64 (Int.ofNat x1 - 1))) [])) 0) (List.headD (List.tail (List.tail (List.tail (List.tail (List.tail (List.take 6 (List.getD x8 (Int.toNat (IntKind.wrap .i64 (Int.ofNat x1 - 1))) []))))))) 0) a18_0 a18_1 a18_2 a18_3 a18_4 a18_5 a18_6 a18_7 a18_8) fun (a27_0, a27_1, a27_2, a27_3, a27_4, a27_5, a27_6, a27_7, a27_8) =>
 br (List.headD (List.tail (List.tail (List.tail (List.tail (List.take 6 (List.getD x8 (Int.toNat (IntKind.wrap .i64 (Int.ofNat x1 - 1))) [])))))) 0 != 0)
 (ob (q9 (List.headD (List.tail (List.tail (List.tail (List.tail (List.take 6 (List.getD x8 (Int.toNat (IntKind.wrap .i64 (Int.ofNat x1 - 1))) [])))))) 0)) fun a36 =>
 ob (qCj a36) fun a37 =>
 ob (qDT a9_4 a37 (-1) a27_0 a27_1 a27_2 a27_3 a27_4 a27_5 a27_6 a27_7 a27_8) fun (a38_0, a38_1, a38_2, a38_3, a38_4, a38_5, a38_6, a38_7, a38_8) =>
 some (true, a38_0, a38_1, a38_2, a38_3, a38_4, a38_5, a38_6, a38_7, a38_8))
 (some (true, a27_0, a27_1, a27_2, a27_3, a27_4, a27_5, a27_6, a27_7, a27_8))))
 (none))
 (none))
def qAO (x0 : Int) : Option (Int) :=
 br (decide (x0 < 1))
 (some (0))
 (br (decide (x0 > 31))
 (some (0))
 (br (x0 == 13)
 (some (0))
 (br (x0 == 16)
 (some (0))
 (br (x0 == 29)
 (some (0))
 (some (Int.tmod x0 16))))))
def qDh (rec : Int -> Int -> Int -> Int -> List Int -> List Int -> Int -> Option (Int)) (x0 x1 : Int) (x2 x3 : Int) (x4 x5 : List Int) (x6 : Int) : Option (Int) :=
 br (decide (x3 < 9))
 (br (inB (IntKind.wrap .i64 (IntKind.wrap .i64 (9 * x1) + x3)) 81)
 (br (conv .i8 .i64 (List.getD x4 (Int.toNat (IntKind.wrap .i64 (IntKind.wrap .i64 (9 * x1) + x3))) 0) == x0)
 (rec x0 x1 (IntKind.wrap .i64 (x2 + 1)) (IntKind.wrap .i64 (x3 + 1)) x4 x5 x6)
 (rec x0 x1 x2 (IntKind.wrap .i64 (x3 + 1)) x4 x5 x6))
 (none))
 (some (x2))
def qCR : Nat -> Int -> Int -> Int -> Int -> List Int -> List Int -> Int -> Option (Int)
 | 0, _, _, _, _, _, _, _ => none
 | f + 1, x0, x1, x2, x3, x4, x5, x6 => qDh (qCR f) x0 x1 x2 x3 x4 x5 x6
def qDg (x0 x1 : List Int) (x2 x3 x4 : Int) : Option (Int) :=
 ob (qCR qC x3 x4 0 0 x0 x1 x2) fun a5 =>
 some (a5)
def qEV (rec : Int -> Int -> Int -> List Int -> List Int -> Int -> Option (Int)) (x0 x1 x2 : Int) (x3 x4 : List Int) (x5 : Int) : Option (Int) :=
 br (decide (x2 < 9))
 (ob (qDg x3 x4 x5 x0 x2) fun a10 =>
 rec x0 (IntKind.wrap .i64 (x1 + a10)) (IntKind.wrap .i64 (x2 + 1)) x3 x4 x5)
 (some (x1))
def qC9 : Nat -> Int -> Int -> Int -> List Int -> List Int -> Int -> Option (Int)
 | 0, _, _, _, _, _, _ => none
 | f + 1, x0, x1, x2, x3, x4, x5 => qEV (qC9 f) x0 x1 x2 x3 x4 x5
def qCl (x0 x1 : List Int) (x2 x3 : Int) : Option (Int) :=
 ob (qC9 qC x3 0 0 x0 x1 x2) fun a4 =>
 some (a4)
def qHn (x0 : Int) : Option (Int) :=
 br (decide (x0 < 1))
 (some (0))
 (br (decide (x0 > 15))
 (some (0))
 (br (x0 == 13)
 (some (0))
 (br (decide (x0 > 8))
 (some (IntKind.wrap .i64 (x0 - 8)))
 (some (x0)))))
def qJQ (rec : Int -> Int -> Int -> List Int -> List Int -> Int -> Option (Int × Int × List Int × List Int × Int)) (x0 x1 x2 : Int) (x3 x4 : List Int) (x5 : Int) : Option (Int × Int × List Int × List Int × Int) :=
 br (decide (x2 < 81))
 (br (inB x2 81)
 (ob (qAO (conv .i8 .i64 (List.getD x3 (Int.toNat x2) 0))) fun a10 =>
 ob (qHn a10) fun a11 =>
 br (a11 == x0)
 (rec x0 (IntKind.wrap .i64 (x1 + 1)) (IntKind.wrap .i64 (x2 + 1)) x3 x4 x5)
 (rec x0 x1 (IntKind.wrap .i64 (x2 + 1)) x3 x4 x5))
 (none))
 (some (x0, x1, x3, x4, x5))
def qHs : Nat -> Int -> Int -> Int -> List Int -> List Int -> Int -> Option (Int × Int × List Int × List Int × Int)
 | 0, _, _, _, _, _, _ => none
 | f + 1, x0, x1, x2, x3, x4, x5 => qJQ (qHs f) x0 x1 x2 x3 x4 x5
def qP9 (x0 x1 : List Int) (x2 x3 : Int) : Option (Int) :=
 ob (qHs qC x3 0 0 x0 x1 x2) fun (a4_0, a4_1, _, a4_3, _) =>
 br (inB a4_0 8)
 (br (inB a4_0 8)
 (some (IntKind.wrap .i64 (IntKind.wrap .i64 (a4_1 + conv .i8 .i64 (List.getD a4_3 (0 + Int.toNat a4_0) 0)) + conv .i8 .i64 (List.getD a4_3 (8 + Int.toNat a4_0) 0))))
 (none))
 (none)
def qPx (x0 : Int) : Option (Int) :=
 br (decide (x0 < 1))
 (some (0))
 (br (decide (x0 > 8))
 (some (0))
 (br (inB x0 9)
 (some (List.getD [0, 18, 4, 4, 4, 4, 2, 2, 2] (Int.toNat x0) 0))
 (none)))
def qA6 (x0 : Int) : Option (Int) :=
 ob (qAO x0) fun a1 =>
 br (a1 == 0)
 (some (-1))
 (some (IntKind.wrap .i64 (Int.tdiv x0 16)))
def qC8 (x0 x1 : Int) : Option (Int) :=
 br (decide (x1 < 0))
 (some (-1))
 (br (decide (x1 > 80))
 (some (-1))
 (br (decide (x0 < 0))
 (some (-1))
 (br (decide (x0 > 1))
 (some (-1))
 (br (x0 == 0)
 (some (Int.tmod x1 9))
 (some (IntKind.wrap .i64 (8 - Int.tmod x1 9)))))))
def qC7 (x0 x1 : Int) : Option (Bool) :=
 ob (qA6 x0) fun a2 =>
 ob (qC8 a2 x1) fun a3 =>
 ob (qAO x0) fun a4 =>
 br (a4 == 1)
 (br (a3 == 0)
 (some (true))
 (br (a4 == 3)
 (br (a3 == 0)
 (some (true))
 (some (a3 == 1)))
 (some (false))))
 (br (a4 == 2)
 (br (a3 == 0)
 (some (true))
 (br (a4 == 3)
 (br (a3 == 0)
 (some (true))
 (some (a3 == 1)))
 (some (false))))
 (br (a4 == 3)
 (br (a3 == 0)
 (some (true))
 (some (a3 == 1)))
 (some (false))))
def qER (rec : Int -> List Int -> List Int -> Int -> Option ((Int × List Int × List Int × Int) ⊕ (List Int × List Int × Int))) (x0 : Int) (x1 x2 : List Int) (x3 : Int) : Option ((Int × List Int × List Int × Int) ⊕ (List Int × List Int × Int)) :=
 br (decide (x0 < 81))
 (br (inB x0 81)
 (br (List.getD x1 (Int.toNat x0) 0 != 0)
 (br (inB x0 81)
 (ob (qAO (conv .i8 .i64 (List.getD x1 (Int.toNat x0) 0))) fun a7 =>
 br (a7 == 0)
 (some (.inl (55, x1, x2, x3)))
 (rec (IntKind.wrap .i64 (x0 + 1)) x1 x2 x3))
 (none))
 (rec (IntKind.wrap .i64 (x0 + 1)) x1 x2 x3))
 (none))
 (some (.inr (x1, x2, x3)))
def qCQ : Nat -> Int -> List Int -> List Int -> Int -> Option ((Int × List Int × List Int × Int) ⊕ (List Int × List Int × Int))
 | 0, _, _, _, _ => none
 | f + 1, x0, x1, x2, x3 => qER (qCQ f) x0 x1 x2 x3
def qEN (rec : Int -> Int -> List Int -> List Int -> Int -> Option ((Int × Int × List Int × List Int × Int) ⊕ (Int × List Int × List Int × Int))) (x0 x1 : Int) (x2 x3 : List Int) (x4 : Int) : Option ((Int × Int × List Int × List Int × Int) ⊕ (Int × List Int × List Int × Int)) :=
 br (decide (x1 < 2))
 (br (inB x1 2)
 (br (inB x0 8)
 (br (decide (List.getD x3 (Int.toNat x1 * 8 + Int.toNat x0) 0 < 0))
 (some (.inl (55, x0, x2, x3, x4)))
 (br (x0 == 0)
 (br (List.getD x3 (Int.toNat x1 * 8 + Int.toNat x0) 0 != 0)
 (some (.inl (55, x0, x2, x3, x4)))
 (rec x0 (IntKind.wrap .i64 (x1 + 1)) x2 x3 x4))
 (rec x0 (IntKind.wrap .i64 (x1 + 1)) x2 x3 x4)))
 (none))
 (none))
 (some (.inr (x0, x2, x3, x4)))
def qBw : Nat -> Int -> Int -> List Int -> List Int -> Int -> Option ((Int × Int × List Int × List Int × Int) ⊕ (Int × List Int × List Int × Int))
 | 0, _, _, _, _, _ => none
 | f + 1, x0, x1, x2, x3, x4 => qEN (qBw f) x0 x1 x2 x3 x4
def qES (rec : Int -> List Int -> List Int -> Int -> Option ((Int × List Int × List Int × Int) ⊕ (List Int × List Int × Int))) (x0 : Int) (x1 x2 : List Int) (x3 : Int) : Option ((Int × List Int × List Int × Int) ⊕ (List Int × List Int × Int)) :=
 br (decide (x0 < 8))
 (ob (qBw qC x0 0 x1 x2 x3) fun t10_2 =>
 sw t10_2 (fun (a10_0, _, a10_2, a10_3, a10_4) =>
 some (.inl (a10_0, a10_2, a10_3, a10_4)))
 (fun (a10_0, a10_1, a10_2, a10_3) =>
 rec (IntKind.wrap .i64 (a10_0 + 1)) a10_1 a10_2 a10_3))
 (some (.inr (x1, x2, x3)))
def qBe : Nat -> Int -> List Int -> List Int -> Int -> Option ((Int × List Int × List Int × Int) ⊕ (List Int × List Int × Int))
 | 0, _, _, _, _ => none
 | f + 1, x0, x1, x2, x3 => qES (qBe f) x0 x1 x2 x3
def qEO (rec : Int -> List Int -> List Int -> Int -> Option ((Int × List Int × List Int × Int) ⊕ (List Int × List Int × Int))) (x0 : Int) (x1 x2 : List Int) (x3 : Int) : Option ((Int × List Int × List Int × Int) ⊕ (List Int × List Int × Int)) :=
 br (decide (x0 < 8))
 (ob (qP9 x1 x2 x3 x0) fun a15 =>
 ob (qPx x0) fun a16 =>
 br (decide (a15 > a16))
 (some (.inl (51, x1, x2, x3)))
 (rec (IntKind.wrap .i64 (x0 + 1)) x1 x2 x3))
 (some (.inr (x1, x2, x3)))
def qBb : Nat -> Int -> List Int -> List Int -> Int -> Option ((Int × List Int × List Int × Int) ⊕ (List Int × List Int × Int))
 | 0, _, _, _, _ => none
 | f + 1, x0, x1, x2, x3 => qEO (qBb f) x0 x1 x2 x3
def qEP (rec : Int -> List Int -> List Int -> Int -> Option ((Int × List Int × List Int × Int) ⊕ (List Int × List Int × Int))) (x0 : Int) (x1 x2 : List Int) (x3 : Int) : Option ((Int × List Int × List Int × Int) ⊕ (List Int × List Int × Int)) :=
 br (decide (x0 < 81))
 (br (inB x0 81)
 (ob (qC7 (conv .i8 .i64 (List.getD x1 (Int.toNat x0) 0)) x0) fun a18 =>
 br (a18)
 (some (.inl (52, x1, x2, x3)))
 (rec (IntKind.wrap .i64 (x0 + 1)) x1 x2 x3))
 (none))
 (some (.inr (x1, x2, x3)))
def qBc : Nat -> Int -> List Int -> List Int -> Int -> Option ((Int × List Int × List Int × Int) ⊕ (List Int × List Int × Int))
 | 0, _, _, _, _ => none
 | f + 1, x0, x1, x2, x3 => qEP (qBc f) x0 x1 x2 x3
def qEQ (rec : Int -> List Int -> List Int -> Int -> Option ((Int) ⊕ (Unit))) (x0 : Int) (x1 x2 : List Int) (x3 : Int) : Option ((Int) ⊕ (Unit)) :=
 br (decide (x0 < 9))
 (ob (qDg x1 x2 x3 1 x0) fun a21 =>
 br (decide (a21 > 1))
 (some (.inl (53)))
 (ob (qDg x1 x2 x3 17 x0) fun a22 =>
 br (decide (a22 > 1))
 (some (.inl (53)))
 (rec (IntKind.wrap .i64 (x0 + 1)) x1 x2 x3)))
 (some (.inr ()))
def qBd : Nat -> Int -> List Int -> List Int -> Int -> Option ((Int) ⊕ (Unit))
 | 0, _, _, _, _ => none
 | f + 1, x0, x1, x2, x3 => qEQ (qBd f) x0 x1 x2 x3
def qJP (x0 x1 : List Int) (x2 : Int) : Option (Int) :=
 br (x2 != 0)
 (br (x2 != 1)
 (some (1))
 (ob (qCQ qC 0 x0 x1 x2) fun t3_2 =>
 sw t3_2 (fun (a3_0, _, _, _) =>
 some (a3_0))
 (fun (a3_0, a3_1, a3_2) =>
 ob (qBe qC 0 a3_0 a3_1 a3_2) fun t6_2 =>
 sw t6_2 (fun (a6_0, _, _, _) =>
 some (a6_0))
 (fun (a6_0, a6_1, a6_2) =>
 ob (qCl a6_0 a6_1 a6_2 8) fun a9 =>
 br (a9 != 1)
 (some (50))
 (ob (qCl a6_0 a6_1 a6_2 24) fun a10 =>
 br (a10 != 1)
 (some (50))
 (ob (qBb qC 1 a6_0 a6_1 a6_2) fun t11_2 =>
 sw t11_2 (fun (a11_0, _, _, _) =>
 some (a11_0))
 (fun (a11_0, a11_1, a11_2) =>
 ob (qBc qC 0 a11_0 a11_1 a11_2) fun t14_2 =>
 sw t14_2 (fun (a14_0, _, _, _) =>
 some (a14_0))
 (fun (a14_0, a14_1, a14_2) =>
 ob (qBd qC 0 a14_0 a14_1 a14_2) fun t17_2 =>
 sw t17_2 (fun a17 =>
 some (a17))
 (fun _ =>
 some (0))))))))))
 (ob (qCQ qC 0 x0 x1 x2) fun t3_2 =>
 sw t3_2 (fun (a3_0, _, _, _) =>
 some (a3_0))
 (fun (a3_0, a3_1, a3_2) =>
 ob (qBe qC 0 a3_0 a3_1 a3_2) fun t6_2 =>
 sw t6_2 (fun (a6_0, _, _, _) =>
 some (a6_0))
 (fun (a6_0, a6_1, a6_2) =>
 ob (qCl a6_0 a6_1 a6_2 8) fun a9 =>
 br (a9 != 1)
 (some (50))
 (ob (qCl a6_0 a6_1 a6_2 24) fun a10 =>
 br (a10 != 1)
 (some (50))
 (ob (qBb qC 1 a6_0 a6_1 a6_2) fun t11_2 =>
 sw t11_2 (fun (a11_0, _, _, _) =>
 some (a11_0))
 (fun (a11_0, a11_1, a11_2) =>
 ob (qBc qC 0 a11_0 a11_1 a11_2) fun t14_2 =>
 sw t14_2 (fun (a14_0, _, _, _) =>
 some (a14_0))
 (fun (a14_0, a14_1, a14_2) =>
 ob (qBd qC 0 a14_0 a14_1 a14_2) fun t17_2 =>
 sw t17_2 (fun a17 =>
 some (a17))
 (fun _ =>
 some (0)))))))))
def qIu (x0 : Int) (_x1 : Nat) (_x2 _x3 : List Int) (_x4 : Int) (_x5 _x6 : List (List Int)) (_x7 : Nat) (_x8 : List (List Int)) : Option (Int) :=
 some (x0)
def qCw (_x0 _x1 : List Int) (_x2 : Int) (_x3 x4 : List (List Int)) : Option (Int × Int) :=
 ob (qDn (List.headD (List.take 2 (List.getD x4 0 [])) 0) (List.headD (List.tail (List.take 2 (List.getD x4 0 []))) 0) (List.headD (List.take 2 (List.getD x4 1 [])) 0) (List.headD (List.tail (List.take 2 (List.getD x4 1 []))) 0)) fun (a5_0, a5_1) =>
 some (a5_0, a5_1)
def qFz (x0 : Int) : Option (Int) :=
 some (qD BinOp.and .i64 (conv .u64 .i64 (IntKind.wrap .u64 (IntKind.wrap .u64 (IntKind.wrap .u64 (qD BinOp.and .u64 (IntKind.wrap .u64 (Int.fdiv (IntKind.wrap .u64 (qD BinOp.and .u64 (Int.fdiv (IntKind.wrap .u64 (qD BinOp.and .u64 (Int.fdiv x0 2) 6148914691236517205 + qD BinOp.and .u64 x0 6148914691236517205)) 4) 3689348814741910323 + qD BinOp.and .u64 (IntKind.wrap .u64 (qD BinOp.and .u64 (Int.fdiv x0 2) 6148914691236517205 + qD BinOp.and .u64 x0 6148914691236517205)) 3689348814741910323)) 16 + IntKind.wrap .u64 (qD BinOp.and .u64 (Int.fdiv (IntKind.wrap .u64 (qD BinOp.and .u64 (Int.fdiv x0 2) 6148914691236517205 + qD BinOp.and .u64 x0 6148914691236517205)) 4) 3689348814741910323 + qD BinOp.and .u64 (IntKind.wrap .u64 (qD BinOp.and .u64 (Int.fdiv x0 2) 6148914691236517205 + qD BinOp.and .u64 x0 6148914691236517205)) 3689348814741910323))) 1085102592571150095 + Int.fdiv (qD BinOp.and .u64 (IntKind.wrap .u64 (Int.fdiv (IntKind.wrap .u64 (qD BinOp.and .u64 (Int.fdiv (IntKind.wrap .u64 (qD BinOp.and .u64 (Int.fdiv x0 2) 6148914691236517205 + qD BinOp.and .u64 x0 6148914691236517205)) 4) 3689348814741910323 + qD BinOp.and .u64 (IntKind.wrap .u64 (qD BinOp.and .u64 (Int.fdiv x0 2) 6148914691236517205 + qD BinOp.and .u64 x0 6148914691236517205)) 3689348814741910323)) 16 + IntKind.wrap .u64 (qD BinOp.and .u64 (Int.fdiv (IntKind.wrap .u64 (qD BinOp.and .u64 (Int.fdiv x0 2) 6148914691236517205 + qD BinOp.and .u64 x0 6148914691236517205)) 4) 3689348814741910323 + qD BinOp.and .u64 (IntKind.wrap .u64 (qD BinOp.and .u64 (Int.fdiv x0 2) 6148914691236517205 + qD BinOp.and .u64 x0 6148914691236517205)) 3689348814741910323))) 1085102592571150095) 256) + Int.fdiv (IntKind.wrap .u64 (qD BinOp.and .u64 (IntKind.wrap .u64 (Int.fdiv (IntKind.wrap .u64 (qD BinOp.and .u64 (Int.fdiv (IntKind.wrap .u64 (qD BinOp.and .u64 (Int.fdiv x0 2) 6148914691236517205 + qD BinOp.and .u64 x0 6148914691236517205)) 4) 3689348814741910323 + qD BinOp.and .u64 (IntKind.wrap .u64 (qD BinOp.and .u64 (Int.fdiv x0 2) 6148914691236517205 + qD BinOp.and .u64 x0 6148914691236517205)) 3689348814741910323)) 16 + IntKind.wrap .u64 (qD BinOp.and .u64 (Int.fdiv (IntKind.wrap .u64 (qD BinOp.and .u64 (Int.fdiv x0 2) 6148914691236517205 + qD BinOp.and .u64 x0 6148914691236517205)) 4) 3689348814741910323 + qD BinOp.and .u64 (IntKind.wrap .u64 (qD BinOp.and .u64 (Int.fdiv x0 2) 6148914691236517205 + qD BinOp.and .u64 x0 6148914691236517205)) 3689348814741910323))) 1085102592571150095 + Int.fdiv (qD BinOp.and .u64 (IntKind.wrap .u64 (Int.fdiv (IntKind.wrap .u64 (qD BinOp.and .u64 (Int.fdiv (IntKind.wrap .u64 (qD BinOp.and .u64 (Int.fdiv x0 2) 6148914691236517205 + qD BinOp.and .u64 x0 6148914691236517205)) 4) 3689348814741910323 + qD BinOp.and .u64 (IntKind.wrap .u64 (qD BinOp.and .u64 (Int.fdiv x0 2) 6148914691236517205 + qD BinOp.and .u64 x0 6148914691236517205)) 3689348814741910323)) 16 + IntKind.wrap .u64 (qD BinOp.and .u64 (Int.fdiv (IntKind.wrap .u64 (qD BinOp.and .u64 (Int.fdiv x0 2) 6148914691236517205 + qD BinOp.and .u64 x0 6148914691236517205)) 4) 3689348814741910323 + qD BinOp.and .u64 (IntKind.wrap .u64 (qD BinOp.and .u64 (Int.fdiv x0 2) 6148914691236517205 + qD BinOp.and .u64 x0 6148914691236517205)) 3689348814741910323))) 1085102592571150095) 256)) 65536) + Int.fdiv (IntKind.wrap .u64 (IntKind.wrap .u64 (qD BinOp.and .u64 (IntKind.wrap .u64 (Int.fdiv (IntKind.wrap .u64 (qD BinOp.and .u64 (Int.fdiv (IntKind.wrap .u64 (qD BinOp.and .u64 (Int.fdiv x0 2) 6148914691236517205 + qD BinOp.and .u64 x0 6148914691236517205)) 4) 3689348814741910323 + qD BinOp.and .u64 (IntKind.wrap .u64 (qD BinOp.and .u64 (Int.fdiv x0 2) 6148914691236517205 + qD BinOp.and .u64 x0 6148914691236517205)) 3689348814741910323)) 16 + IntKind.wrap .u64 (qD BinOp.and .u64 (Int.fdiv (IntKind.wrap .u64 (qD BinOp.and .u64 (Int.fdiv x0 2) 6148914691236517205 + qD BinOp.and .u64 x0 6148914691236517205)) 4) 3689348814741910323 + qD BinOp.and .u64 (IntKind.wrap .u64 (qD BinOp.and .u64 (Int.fdiv x0 2) 6148914691236517205 + qD BinOp.and .u64 x0 6148914691236517205)) 3689348814741910323))) 1085102592571150095 + Int.fdiv (qD BinOp.and .u64 (IntKind.wrap .u64 (Int.fdiv (IntKind.wrap .u64 (qD BinOp.and .u64 (Int.fdiv (IntKind.wrap .u64 (qD BinOp.and .u64 (Int.fdiv x0 2) 6148914691236517205 + qD BinOp.and .u64 x0 6148914691236517205)) 4) 3689348814741910323 + qD BinOp.and .u64 (IntKind.wrap .u64 (qD BinOp.and .u64 (Int.fdiv x0 2) 6148914691236517205 + qD BinOp.and .u64 x0 6148914691236517205)) 3689348814741910323)) 16 + IntKind.wrap .u64 (qD BinOp.and .u64 (Int.fdiv (IntKind.wrap .u64 (qD BinOp.and .u64 (Int.fdiv x0 2) 6148914691236517205 + qD BinOp.and .u64 x0 6148914691236517205)) 4) 3689348814741910323 + qD BinOp.and .u64 (IntKind.wrap .u64 (qD BinOp.and .u64 (Int.fdiv x0 2) 6148914691236517205 + qD BinOp.and .u64 x0 6148914691236517205)) 3689348814741910323))) 1085102592571150095) 256) + Int.fdiv (IntKind.wrap .u64 (qD BinOp.and .u64 (IntKind.wrap .u64 (Int.fdiv (IntKind.wrap .u64 (qD BinOp.and .u64 (Int.fdiv (IntKind.wrap .u64 (qD BinOp.and .u64 (Int.fdiv x0 2) 6148914691236517205 + qD BinOp.and .u64 x0 6148914691236517205)) 4) 3689348814741910323 + qD BinOp.and .u64 (IntKind.wrap .u64 (qD BinOp.and .u64 (Int.fdiv x0 2) 6148914691236517205 + qD BinOp.and .u64 x0 6148914691236517205)) 3689348814741910323)) 16 + IntKind.wrap .u64 (qD BinOp.and .u64 (Int.fdiv (IntKind.wrap .u64 (qD BinOp.and .u64 (Int.fdiv x0 2) 6148914691236517205 + qD BinOp.and .u64 x0 6148914691236517205)) 4) 3689348814741910323 + qD BinOp.and .u64 (IntKind.wrap .u64 (qD BinOp.and .u64 (Int.fdiv x0 2) 6148914691236517205 + qD BinOp.and .u64 x0 6148914691236517205)) 3689348814741910323))) 1085102592571150095 + Int.fdiv (qD BinOp.and .u64 (IntKind.wrap .u64 (Int.fdiv (IntKind.wrap .u64 (qD BinOp.and .u64 (Int.fdiv (IntKind.wrap .u64 (qD BinOp.and .u64 (Int.fdiv x0 2) 6148914691236517205 + qD BinOp.and .u64 x0 6148914691236517205)) 4) 3689348814741910323 + qD BinOp.and .u64 (IntKind.wrap .u64 (qD BinOp.and .u64 (Int.fdiv x0 2) 6148914691236517205 + qD BinOp.and .u64 x0 6148914691236517205)) 3689348814741910323)) 16 + IntKind.wrap .u64 (qD BinOp.and .u64 (Int.fdiv (IntKind.wrap .u64 (qD BinOp.and .u64 (Int.fdiv x0 2) 6148914691236517205 + qD BinOp.and .u64 x0 6148914691236517205)) 4) 3689348814741910323 + qD BinOp.and .u64 (IntKind.wrap .u64 (qD BinOp.and .u64 (Int.fdiv x0 2) 6148914691236517205 + qD BinOp.and .u64 x0 6148914691236517205)) 3689348814741910323))) 1085102592571150095) 256)) 65536)) 4294967296))) 127)
def qGU (x0 x1 : Int) : Option (Int) :=
 ob (qFz x0) fun a2 =>
 ob (qFz x1) fun a3 =>
 some (IntKind.wrap .i64 (a2 + a3))
def qCv (x0 x1 : Int) (_x2 _x3 : List Int) (_x4 : Int) (x5 _x6 : List (List Int)) : Option (Int × Int) :=
 ob (qAh x0 x1) fun a7 =>
 br (a7 == 0)
 (some (0, 0))
 (br (inB a7 32)
 (some (List.headD (List.take 2 (List.getD x5 (Int.toNat a7) [])) 0, List.headD (List.tail (List.take 2 (List.getD x5 (Int.toNat a7) []))) 0))
 (none))
def qM4 (BBB : Bool -> Option (Int) -> Option (Int) -> Option (Int)) (x0 : Int) : Option (Int) :=
 br (x0 == 0)
 (some (64))
 (BBB (inB (Int.fdiv (IntKind.wrap .u64 (qD BinOp.and .u64 x0 (IntKind.wrap .u64 (0 - x0)) * 285870213051353865)) 288230376151711744) 64)
 (some (conv .u8 .i64 (List.getD [0, 1, 56, 2, 57, 49, 28, 3, 61, 58, 42, 50, 38, 29, 17, 4, 62, 47, 59, 36, 45, 43, 51, 22, 53, 39, 33, 30, 24, 18, 12, 5, 63, 55, 48, 27, 60, 41, 37, 16, 46, 35, 44, 21, 52, 32, 23, 11, 54, 26, 40, 15, 34, 20, 31, 10, 25, 14, 19, 9, 13, 8, 7, 6] (Int.toNat (Int.fdiv (IntKind.wrap .u64 (qD BinOp.and .u64 x0 (IntKind.wrap .u64 (0 - x0)) * 285870213051353865)) 288230376151711744)) 0)))
 (none))
def qEu (x0 : Int) : Option (Int) := qM4 br x0
def qGW (x0 x1 : Int) : Option (Int) :=
 br (x0 != 0)
 (ob (qEu x0) fun a2 =>
 some (a2))
 (br (x1 != 0)
 (ob (qEu x1) fun a2 =>
 some (IntKind.wrap .i64 (63 + a2)))
 (some (-1)))
def qF1 (x0 : Int) (x1 x2 : List Int) (x3 : Int) (x4 x5 : List (List Int)) : Option (Int) :=
 ob (qCv x0 8 x1 x2 x3 x4 x5) fun (a6_0, a6_1) =>
 ob (qGW a6_0 a6_1) fun a8 =>
 some (a8)
def qLX (x0 : Int) : Option (Int) :=
 br (x0 == 1)
 (some (18))
 (br (x0 == 2)
 (some (4))
 (br (x0 == 3)
 (some (4))
 (br (x0 == 4)
 (some (4))
 (br (x0 == 5)
 (some (4))
 (br (x0 == 6)
 (some (2))
 (br (x0 == 7)
 (some (2))
 (br (x0 == 8)
 (some (2))
 (some (0)))))))))
def qFm (x0 : Int) : Option (Int) :=
 some (Int.tmod x0 9)
def qFq (x0 x1 : Int) : Option (Int) :=
 br (decide (x1 < 0))
 (some (-1))
 (br (decide (x1 >= 81))
 (some (-1))
 (br (x0 == 0)
 (ob (qFm x1) fun a2 =>
 some (a2))
 (br (x0 == 1)
 (ob (qFm x1) fun a2 =>
 some (IntKind.wrap .i64 (8 - a2)))
 (some (-1)))))
def qDq (x0 x1 : Int) : Option (Bool) :=
 ob (qAM x0) fun a2 =>
 ob (qFq a2 x1) fun a3 =>
 ob (q9 x0) fun a4 =>
 br (a4 == 1)
 (some (a3 == 0))
 (br (a4 == 2)
 (some (a3 == 0))
 (br (a4 == 3)
 (br (a3 == 0)
 (some (true))
 (some (a3 == 1)))
 (some (false))))
def qbM (rec : Int -> Int -> Int -> Int -> Int -> Int -> Option (Int × Int × Int × Int)) (x0 x1 : Int) (x2 x3 : Int) (x4 x5 : Int) : Option (Int × Int × Int × Int) :=
 br (decide (x1 < 9))
 (ob (qCT x0 x1) fun a7 =>
 ob (qA7 x4 x5 a7) fun (a8_0, a8_1) =>
 rec x0 (IntKind.wrap .i64 (x1 + 1)) x2 x3 a8_0 a8_1)
 (some (x2, x3, x4, x5))
def qMB : Nat -> Int -> Int -> Int -> Int -> Int -> Int -> Option (Int × Int × Int × Int)
 | 0, _, _, _, _, _, _ => none
 | f + 1, x0, x1, x2, x3, x4, x5 => qbM (qMB f) x0 x1 x2 x3 x4 x5
def qIG (x0 : Int) : Option (Int × Int) :=
 ob (qMB qC x0 0 0 0 0 0) fun (_, _, a1_2, a1_3) =>
 some (a1_2, a1_3)
def qCn (x0 x1 : Int) (x2 x3 : Int) : Option (Int × Int) :=
 some (qD BinOp.and .u64 x0 x2, qD BinOp.and .u64 x1 x3)
def qGw (rec : List Int -> Int -> List Int -> List Int -> Int -> Option ((Int × List Int × List Int × Int) ⊕ (List Int × List Int × Int))) (x0 : List Int) (x1 : Int) (x2 x3 : List Int) (x4 : Int) : Option ((Int × List Int × List Int × Int) ⊕ (List Int × List Int × Int)) :=
 br (decide (x1 < 81))
 (br (inB x1 81)
 (ob (qDq (List.getD x0 (bif true then Int.toNat x1 else Int.toNat x1 * 1) 0) x1) fun a8 =>
 br (a8)
 (some (.inl (52, x2, x3, x4)))
 (rec x0 (IntKind.wrap .i64 (x1 + 1)) x2 x3 x4))
 (none))
 (some (.inr (x2, x3, x4)))
def qE0 : Nat -> List Int -> Int -> List Int -> List Int -> Int -> Option ((Int × List Int × List Int × Int) ⊕ (List Int × List Int × Int))
 | 0, _, _, _, _, _ => none
 | f + 1, x0, x1, x2, x3, x4 => qGw (qE0 f) x0 x1 x2 x3 x4
def qEz (rec : Int -> Int -> Int -> List Int -> List Int -> Int -> List (List Int) -> List (List Int) -> Option ((Int × Int × List Int × List Int × Int × List (List Int) × List (List Int)) ⊕ (Int × List Int × List Int × Int × List (List Int) × List (List Int)))) (x0 x1 x2 : Int) (x3 x4 : List Int) (x5 : Int) (x6 x7 : List (List Int)) : Option ((Int × Int × List Int × List Int × Int × List (List Int) × List (List Int)) ⊕ (Int × List Int × List Int × Int × List (List Int) × List (List Int))) :=
 br (decide (x2 < 2))
 (ob (qCv x2 1 x3 x4 x5 x6 x7) fun (a25_0, a25_1) =>
 ob (qIG x0) fun (a27_0, a27_1) =>
 ob (qCn a25_0 a25_1 a27_0 a27_1) fun (a29_0, a29_1) =>
 ob (qGU a29_0 a29_1) fun a31 =>
 br (decide (a31 > 1))
 (some (.inl (53, x1, x3, x4, x5, x6, x7)))
 (rec x0 x1 (IntKind.wrap .i64 (x2 + 1)) x3 x4 x5 x6 x7))
 (some (.inr (x1, x3, x4, x5, x6, x7)))
def qEy : Nat -> Int -> Int -> Int -> List Int -> List Int -> Int -> List (List Int) -> List (List Int) -> Option ((Int × Int × List Int × List Int × Int × List (List Int) × List (List Int)) ⊕ (Int × List Int × List Int × Int × List (List Int) × List (List Int)))
 | 0, _, _, _, _, _, _, _, _ => none
 | f + 1, x0, x1, x2, x3, x4, x5, x6, x7 => qEz (qEy f) x0 x1 x2 x3 x4 x5 x6 x7
def qGx (rec : Int -> List Int -> List Int -> Int -> List (List Int) -> List (List Int) -> Option ((Int) ⊕ (Unit))) (x0 : Int) (x1 x2 : List Int) (x3 : Int) (x4 x5 : List (List Int)) : Option ((Int) ⊕ (Unit)) :=
 br (decide (x0 < 9))
 (ob (qEy qC x0 x0 0 x1 x2 x3 x4 x5) fun t17_2 =>
 sw t17_2 (fun (a17_0, _, _, _, _, _, _) =>
 some (.inl (a17_0)))
 (fun (a17_0, a17_1, a17_2, a17_3, a17_4, a17_5) =>
 rec (IntKind.wrap .i64 (a17_0 + 1)) a17_1 a17_2 a17_3 a17_4 a17_5))
 (some (.inr ()))
def qE1 : Nat -> Int -> List Int -> List Int -> Int -> List (List Int) -> List (List Int) -> Option ((Int) ⊕ (Unit))
 | 0, _, _, _, _, _, _ => none
 | f + 1, x0, x1, x2, x3, x4, x5 => qGx (qE1 f) x0 x1 x2 x3 x4 x5
def qF5 (x0 x1 : List Int) (x2 : Int) : Option (Int) :=
 ob (qE0 qC x0 0 x0 x1 x2) fun t3_2 =>
 sw t3_2 (fun (a3_0, _, _, _) =>
 some (a3_0))
 (fun (a3_0, a3_1, a3_2) =>
 ob (qD0 a3_0 a3_1 a3_2) fun (a6_0, a6_1, a6_2, a6_3, a6_4) =>
 ob (qE1 qC 0 a6_0 a6_1 a6_2 a6_3 a6_4) fun t11_2 =>
 sw t11_2 (fun a11 =>
 some (a11))
 (fun _ =>
 some (0)))
def qEw (rec : List Int -> Int -> List Int -> List Int -> Int -> List Int -> List Int -> Option ((Int × List Int × List Int × Int × List Int × List Int) ⊕ (List Int × List Int × Int × List Int × List Int))) (x0 : List Int) (x1 : Int) (x2 x3 : List Int) (x4 : Int) (x5 x6 : List Int) : Option ((Int × List Int × List Int × Int × List Int × List Int) ⊕ (List Int × List Int × Int × List Int × List Int)) :=
 br (decide (x1 < 81))
 (br (inB x1 81)
 (ob (q9 (List.getD x0 (bif true then Int.toNat x1 else Int.toNat x1 * 1) 0)) fun a10 =>
 br (List.getD x0 (bif true then Int.toNat x1 else Int.toNat x1 * 1) 0 == 0)
 (rec x0 (IntKind.wrap .i64 (x1 + 1)) x2 x3 x4 x5 x6)
 (br (a10 == 0)
 (some (.inl (55, x2, x3, x4, x5, x6)))
 (br (a10 == 8)
 (ob (qAM (List.getD x0 (bif true then Int.toNat x1 else Int.toNat x1 * 1) 0)) fun a11 =>
 br (inB a11 2)
 (br (inB a11 2)
 (ob (qCj a10) fun a12 =>
 br (inB a12 9)
 (br (inB a12 9)
 (rec x0 (IntKind.wrap .i64 (x1 + 1)) x2 x3 x4 (List.set x5 (Int.toNat a12) (IntKind.wrap .i64 (List.getD x5 (Int.toNat a12) 0 + 1))) (List.set x6 (Int.toNat a11) (IntKind.wrap .i64 (List.getD x6 (Int.toNat a11) 0 + 1))))
 (none))
 (none))
 (none))
 (none))
 (ob (qCj a10) fun a11 =>
 br (inB a11 9)
 (br (inB a11 9)
 (rec x0 (IntKind.wrap .i64 (x1 + 1)) x2 x3 x4 (List.set x5 (Int.toNat a11) (IntKind.wrap .i64 (List.getD x5 (Int.toNat a11) 0 + 1))) x6)
 (none))
 (none)))))
 (none))
 (some (.inr (x2, x3, x4, x5, x6)))
def qCH : Nat -> List Int -> Int -> List Int -> List Int -> Int -> List Int -> List Int -> Option ((Int × List Int × List Int × Int × List Int × List Int) ⊕ (List Int × List Int × Int × List Int × List Int))
 | 0, _, _, _, _, _, _, _ => none
 | f + 1, x0, x1, x2, x3, x4, x5, x6 => qEw (qCH f) x0 x1 x2 x3 x4 x5 x6
def qEv (rec : List Int -> Int -> List Int -> Int -> List Int -> List Int -> Int -> List Int -> List Int -> Option ((Int × List Int × Int × List Int × List Int × Int × List Int × List Int) ⊕ (List Int × Int × List Int × List Int × Int × List Int × List Int))) (x0 : List Int) (x1 : Int) (x2 : List Int) (x3 : Int) (x4 x5 : List Int) (x6 : Int) (x7 x8 : List Int) : Option ((Int × List Int × Int × List Int × List Int × Int × List Int × List Int) ⊕ (List Int × Int × List Int × List Int × Int × List Int × List Int)) :=
 br (decide (x3 < 8))
 (br (inB x3 8)
 (br (decide (List.getD x2 (bif true then Int.toNat x3 else Int.toNat x3 * 1) 0 < 0))
 (some (.inl (55, x0, x1, x4, x5, x6, x7, x8)))
 (br (decide (List.getD x2 (bif true then Int.toNat x3 else Int.toNat x3 * 1) 0 > 0))
 (br (x3 == 0)
 (some (.inl (55, x0, x1, x4, x5, x6, x7, x8)))
 (br (x3 == 8)
 (some (.inl (55, x0, x1, x4, x5, x6, x7, x8)))
 (br (inB x3 9)
 (br (inB x3 9)
 (rec x0 x1 x2 (IntKind.wrap .i64 (x3 + 1)) x4 x5 x6 (List.set x7 (Int.toNat x3) (IntKind.wrap .i64 (List.getD x7 (Int.toNat x3) 0 + conv .i8 .i64 (List.getD x2 (bif true then Int.toNat x3 else Int.toNat x3 * 1) 0)))) x8)
 (none))
 (none))))
 (br (inB x3 9)
 (br (inB x3 9)
 (rec x0 x1 x2 (IntKind.wrap .i64 (x3 + 1)) x4 x5 x6 (List.set x7 (Int.toNat x3) (IntKind.wrap .i64 (List.getD x7 (Int.toNat x3) 0 + conv .i8 .i64 (List.getD x2 (bif true then Int.toNat x3 else Int.toNat x3 * 1) 0)))) x8)
 (none))
 (none))))
 (none))
 (some (.inr (x0, x1, x4, x5, x6, x7, x8)))
def qCu : Nat -> List Int -> Int -> List Int -> Int -> List Int -> List Int -> Int -> List Int -> List Int -> Option ((Int × List Int × Int × List Int × List Int × Int × List Int × List Int) ⊕ (List Int × Int × List Int × List Int × Int × List Int × List Int))
 | 0, _, _, _, _, _, _, _, _, _ => none
 | f + 1, x0, x1, x2, x3, x4, x5, x6, x7, x8 => qEv (qCu f) x0 x1 x2 x3 x4 x5 x6 x7 x8
def qDM (rec : List Int -> Int -> List Int -> List Int -> Int -> List Int -> List Int -> Option ((Int × List Int × List Int × Int × List Int × List Int) ⊕ (List Int × List Int × Int × List Int × List Int))) (x0 : List Int) (x1 : Int) (x2 x3 : List Int) (x4 : Int) (x5 x6 : List Int) : Option ((Int × List Int × List Int × Int × List Int × List Int) ⊕ (List Int × List Int × Int × List Int × List Int)) :=
 br (decide (x1 < 2))
 (br (inB x1 2)
 (ob (qCu qC x0 x1 (List.take 8 (List.drop (Nat.add (Nat.mul (Int.toNat x1) 7) (Int.toNat x1)) x0)) 0 x2 x3 x4 x5 x6) fun t15_2 =>
 sw t15_2 (fun (a15_0, _, _, a15_3, a15_4, a15_5, a15_6, a15_7) =>
 some (.inl (a15_0, a15_3, a15_4, a15_5, a15_6, a15_7)))
 (fun (a15_0, a15_1, a15_2, a15_3, a15_4, a15_5, a15_6) =>
 rec a15_0 (IntKind.wrap .i64 (a15_1 + 1)) a15_2 a15_3 a15_4 a15_5 a15_6))
 (none))
 (some (.inr (x2, x3, x4, x5, x6)))
def qCY : Nat -> List Int -> Int -> List Int -> List Int -> Int -> List Int -> List Int -> Option ((Int × List Int × List Int × Int × List Int × List Int) ⊕ (List Int × List Int × Int × List Int × List Int))
 | 0, _, _, _, _, _, _, _ => none
 | f + 1, x0, x1, x2, x3, x4, x5, x6 => qDM (qCY f) x0 x1 x2 x3 x4 x5 x6
def qGr (rec : Int -> List Int -> List Int -> Int -> List Int -> Option ((Int × List Int × List Int × Int) ⊕ (List Int × List Int × Int))) (x0 : Int) (x1 x2 : List Int) (x3 : Int) (x4 : List Int) : Option ((Int × List Int × List Int × Int) ⊕ (List Int × List Int × Int)) :=
 br (decide (x0 < 8))
 (br (inB x0 9)
 (ob (qLX x0) fun a18 =>
 br (decide (List.getD x4 (Int.toNat x0) 0 > a18))
 (some (.inl (51, x1, x2, x3)))
 (rec (IntKind.wrap .i64 (x0 + 1)) x1 x2 x3 x4))
 (none))
 (some (.inr (x1, x2, x3)))
def qDN : Nat -> Int -> List Int -> List Int -> Int -> List Int -> Option ((Int × List Int × List Int × Int) ⊕ (List Int × List Int × Int))
 | 0, _, _, _, _, _ => none
 | f + 1, x0, x1, x2, x3, x4 => qGr (qDN f) x0 x1 x2 x3 x4
def qIf (x0 x1 : List Int) (x2 : Int) : Option (Int) :=
 br (x2 != 0)
 (br (x2 != 1)
 (some (1))
 (ob (qCH qC x0 0 x0 x1 x2 ([0, 0, 0, 0, 0, 0, 0, 0, 0]) ([0, 0])) fun t3_2 =>
 sw t3_2 (fun (a3_0, _, _, _, _, _) =>
 some (a3_0))
 (fun (a3_0, a3_1, a3_2, a3_3, a3_4) =>
 ob (qCY qC a3_1 0 a3_0 a3_1 a3_2 a3_3 a3_4) fun t8_2 =>
 sw t8_2 (fun (a8_0, _, _, _, _, _) =>
 some (a8_0))
 (fun (a8_0, a8_1, a8_2, a8_3, a8_4) =>
 br (!a8_4 == [1, 1])
 (some (50))
 (ob (qDN qC 1 a8_0 a8_1 a8_2 a8_3) fun t13_2 =>
 sw t13_2 (fun (a13_0, _, _, _) =>
 some (a13_0))
 (fun (a13_0, a13_1, a13_2) =>
 ob (qF5 a13_0 a13_1 a13_2) fun a16 =>
 some (a16)))))))
 (ob (qCH qC x0 0 x0 x1 x2 ([0, 0, 0, 0, 0, 0, 0, 0, 0]) ([0, 0])) fun t3_2 =>
 sw t3_2 (fun (a3_0, _, _, _, _, _) =>
 some (a3_0))
 (fun (a3_0, a3_1, a3_2, a3_3, a3_4) =>
 ob (qCY qC a3_1 0 a3_0 a3_1 a3_2 a3_3 a3_4) fun t8_2 =>
 sw t8_2 (fun (a8_0, _, _, _, _, _) =>
 some (a8_0))
 (fun (a8_0, a8_1, a8_2, a8_3, a8_4) =>
 br (!a8_4 == [1, 1])
 (some (50))
 (ob (qDN qC 1 a8_0 a8_1 a8_2 a8_3) fun t13_2 =>
 sw t13_2 (fun (a13_0, _, _, _) =>
 some (a13_0))
 (fun (a13_0, a13_1, a13_2) =>
 ob (qF5 a13_0 a13_1 a13_2) fun a16 =>
 some (a16))))))
def qKF (x0 x1 : List Int) (x2 : Int) (x3 x4 : List (List Int)) : Option (List Int × List Int × Int × List (List Int) × List (List Int)) :=
 some (x0, x1, x2, x3, x4)
def qF3 (x0 : Int) (_x1 _x2 : List Int) (_x3 : Int) (_x4 x5 : List (List Int)) : Option (Int × Int) :=
 br (x0 != 0)
 (br (x0 != 1)
 (some (0, 0))
 (br (inB x0 2)
 (some (List.headD (List.take 2 (List.getD x5 (Int.toNat x0) [])) 0, List.headD (List.tail (List.take 2 (List.getD x5 (Int.toNat x0) []))) 0))
 (none)))
 (br (inB x0 2)
 (some (List.headD (List.take 2 (List.getD x5 (Int.toNat x0) [])) 0, List.headD (List.tail (List.take 2 (List.getD x5 (Int.toNat x0) []))) 0))
 (none))
def qEZ (x0 x1 : Int) : Option (Bool) :=
 some (x0 == 0 && x1 == 0)
def qCA (x0 x1 x2 : Int) : Option (Bool) :=
 ob (qFo x2) fun (a3_0, a3_1) =>
 ob (qCn x0 x1 a3_0 a3_1) fun (a5_0, a5_1) =>
 ob (qEZ a5_0 a5_1) fun a7 =>
 some (!a7)
def qGS : Option (Int × Int) :=
 some (9223372036854775807, 262143)
def qMF (rec : Nat -> Int -> Int -> Nat -> List Int -> Option (Nat × Int × Int × Nat × List Int)) (x0 : Nat) (x1 x2 : Int) (x3 : Nat) (x4 : List Int) : Option (Nat × Int × Int × Nat × List Int) :=
 br (x1 != 0)
 (ob (qEu x1) fun a7 =>
 br (decide ((x0 + 1) * 8 <= 140737488355328))
 (rec (x0 + 1) (qD BinOp.and .u64 x1 (IntKind.wrap .u64 (x1 - 1))) x2 (x0 + 1) (List.append (List.take x0 x4) [a7]))
 (none))
 (some (x0, x1, x2, x3, x4))
def qIL : Nat -> Nat -> Int -> Int -> Nat -> List Int -> Option (Nat × Int × Int × Nat × List Int)
 | 0, _, _, _, _, _ => none
 | f + 1, x0, x1, x2, x3, x4 => qMF (qIL f) x0 x1 x2 x3 x4
def qMG (rec : Nat -> Int -> Int -> Nat -> List Int -> Option (Nat × Nat × List Int)) (x0 : Nat) (x1 x2 : Int) (x3 : Nat) (x4 : List Int) : Option (Nat × Nat × List Int) :=
 br (x2 != 0)
 (ob (qEu x2) fun a12 =>
 br (decide ((x0 + 1) * 8 <= 140737488355328))
 (rec (x0 + 1) x1 (qD BinOp.and .u64 x2 (IntKind.wrap .u64 (x2 - 1))) (x0 + 1) (List.append (List.take x0 x4) [IntKind.wrap .i64 (63 + a12)]))
 (none))
 (some (x0, x3, x4))
def qIM : Nat -> Nat -> Int -> Int -> Nat -> List Int -> Option (Nat × Nat × List Int)
 | 0, _, _, _, _, _ => none
 | f + 1, x0, x1, x2, x3, x4 => qMG (qIM f) x0 x1 x2 x3 x4
def qEa (x0 x1 : Int) : Option (Nat × Nat × List Int) :=
 ob (qIL qC 0 x0 x1 0 []) fun (a2_0, a2_1, a2_2, a2_3, a2_4) =>
 ob (qIM qC a2_0 a2_1 a2_2 a2_3 a2_4) fun (a7_0, a7_1, a7_2) =>
 some (a7_0, a7_1, a7_2)
def qpT (self : Int -> Option (Nat × Nat × List (List Int))) (x0 : Int) : Option (Nat × Nat × List (List Int)) :=
 br (x0 == 1)
 (some (1, 1, [[0, -1]]))
 (br (x0 == 3)
 (some (2, 2, [[-1, -2], [1, -2]]))
 (br (x0 == 4)
 (some (5, 5, [[-1, -1], [0, -1], [1, -1], [-1, 1], [1, 1]]))
 (br (x0 == 5)
 (some (6, 6, [[-1, -1], [0, -1], [1, -1], [-1, 0], [1, 0], [0, 1]]))
 (br (x0 == 9)
 (some (6, 6, [[-1, -1], [0, -1], [1, -1], [-1, 0], [1, 0], [0, 1]]))
 (br (x0 == 10)
 (some (6, 6, [[-1, -1], [0, -1], [1, -1], [-1, 0], [1, 0], [0, 1]]))
 (br (x0 == 11)
 (some (6, 6, [[-1, -1], [0, -1], [1, -1], [-1, 0], [1, 0], [0, 1]]))
 (br (x0 == 12)
 (some (6, 6, [[-1, -1], [0, -1], [1, -1], [-1, 0], [1, 0], [0, 1]]))
 (br (x0 == 8)
 (ob (self 5) fun (a1_0, _, a1_2) =>
 br (decide ((a1_0 + 2) * 16 <= 140737488355328))
 (some (a1_0 + 2, a1_0 + 2, List.append (List.take a1_0 a1_2) [[-1, 1], [1, 1]]))
 (none))
 (br (x0 == 14)
 (some (4, 4, [[0, -1], [-1, 0], [1, 0], [0, 1]]))
 (br (x0 == 15)
 (some (4, 4, [[-1, -1], [1, -1], [-1, 1], [1, 1]]))
 (some (0, 0, []))))))))))))
def qGc : Nat -> Int -> Option (Nat × Nat × List (List Int))
 | 0, _ => none
 | f + 1, x0 => qpT (qGc f) x0
def qFp (x0 x1 x2 : Int) : Option (Int × Int) :=
 br (x2 == 1)
 (some (IntKind.wrap .i64 (0 - x0), IntKind.wrap .i64 (0 - x1)))
 (some (x0, x1))
def qGV (x0 : Int) : Option (Int) :=
 some (IntKind.wrap .i64 (Int.tdiv x0 9))
def qGb (x0 x1 x2 : Int) : Option (Int) :=
 br (decide (x2 < 0))
 (some (-1))
 (br (decide (x2 >= 81))
 (some (-1))
 (br (decide (x0 < -8))
 (some (-1))
 (br (decide (x0 > 8))
 (some (-1))
 (br (decide (x1 < -8))
 (some (-1))
 (br (decide (x1 > 8))
 (some (-1))
 (ob (qGV x2) fun a3 =>
 ob (qFm x2) fun a4 =>
 ob (qCT (IntKind.wrap .i64 (a3 + x0)) (IntKind.wrap .i64 (a4 + x1))) fun a5 =>
 some (a5)))))))
def qIR (rec : Int -> Int -> Nat -> Int -> Int -> Int -> Int -> Int -> Int -> Nat -> List (List Int) -> Option (Int × Int × Int × Int)) (x0 x1 : Int) (x2 : Nat) (x3 x4 : Int) (x5 x6 : Int) (x7 x8 : Int) (x9 : Nat) (x10 : List (List Int)) : Option (Int × Int × Int × Int) :=
 br (decide (x4 < x3))
 (br (inB x4 x2)
 (ob (qAM x0) fun a17 =>
 ob (qFp (List.headD (List.take 2 (List.getD x10 (Int.toNat x4) [])) 0) (List.headD (List.tail (List.take 2 (List.getD x10 (Int.toNat x4) []))) 0) a17) fun (a18_0, a18_1) =>
 ob (qGb a18_0 a18_1 x1) fun a20 =>
 ob (qA7 x7 x8 a20) fun (a21_0, a21_1) =>
 rec x0 x1 x2 x3 (IntKind.wrap .i64 (x4 + 1)) x5 x6 a21_0 a21_1 x9 x10)
 (none))
 (some (x5, x6, x7, x8))
def qFr : Nat -> Int -> Int -> Nat -> Int -> Int -> Int -> Int -> Int -> Int -> Nat -> List (List Int) -> Option (Int × Int × Int × Int)
 | 0, _, _, _, _, _, _, _, _, _, _, _ => none
 | f + 1, x0, x1, x2, x3, x4, x5, x6, x7, x8, x9, x10 => qIR (qFr f) x0 x1 x2 x3 x4 x5 x6 x7 x8 x9 x10
def qJl (x0 x1 : Int) : Option (Int × Int) :=
 ob (q9 x0) fun a2 =>
 ob (qGc qC a2) fun (a3_0, a3_1, a3_2) =>
 ob (qFr qC x0 x1 a3_0 (Int.ofNat a3_0) 0 0 0 0 0 a3_1 a3_2) fun (_, _, a6_2, a6_3) =>
 some (a6_2, a6_3)
def qGN (x0 : Int) : Option (Nat × Nat × List (List Int)) :=
 br (x0 == 2)
 (some (1, 1, [[0, -1]]))
 (br (x0 == 6)
 (some (4, 4, [[-1, -1], [1, -1], [-1, 1], [1, 1]]))
 (br (x0 == 14)
 (some (4, 4, [[-1, -1], [1, -1], [-1, 1], [1, 1]]))
 (br (x0 == 7)
 (some (4, 4, [[0, -1], [-1, 0], [1, 0], [0, 1]]))
 (br (x0 == 15)
 (some (4, 4, [[0, -1], [-1, 0], [1, 0], [0, 1]]))
 (some (0, 0, []))))))
def qHm (rec : Int -> Int -> Int -> Int -> Int -> Int -> Int -> Int -> Int -> Option (Int × Int × Int × Int)) (x0 x1 : Int) (x2 x3 : Int) (x4 x5 : Int) (x6 x7 x8 : Int) : Option (Int × Int × Int × Int) :=
 br (decide (x0 >= 0))
 (ob (qA7 x7 x8 x0) fun (a15_0, a15_1) =>
 ob (qCA x3 x4 x0) fun a17 =>
 br (a17)
 (some (x5, x6, a15_0, a15_1))
 (ob (qGb x1 x2 x0) fun a18 =>
 rec a18 x1 x2 x3 x4 x5 x6 a15_0 a15_1))
 (some (x5, x6, x7, x8))
def qGO : Nat -> Int -> Int -> Int -> Int -> Int -> Int -> Int -> Int -> Int -> Option (Int × Int × Int × Int)
 | 0, _, _, _, _, _, _, _, _, _ => none
 | f + 1, x0, x1, x2, x3, x4, x5, x6, x7, x8 => qHm (qGO f) x0 x1 x2 x3 x4 x5 x6 x7 x8
def qHl (x0 x1 : Int) (x2 x3 x4 : Int) : Option (Int × Int) :=
 br (x1 == 0 && x2 == 0)
 (some (0, 0))
 (ob (qGb x1 x2 x0) fun a5 =>
 ob (qGO qC a5 x1 x2 x3 x4 0 0 0 0) fun (_, _, a6_2, a6_3) =>
 some (a6_2, a6_3))
def qHk (rec : Int -> Int -> Nat -> Int -> Int -> Int -> Int -> Int -> Int -> Int -> Int -> Nat -> List (List Int) -> Option (Int × Int × Int × Int)) (x0 x1 : Int) (x2 : Nat) (x3 x4 : Int) (x5 x6 : Int) (x7 x8 : Int) (x9 x10 : Int) (x11 : Nat) (x12 : List (List Int)) : Option (Int × Int × Int × Int) :=
 br (decide (x4 < x3))
 (br (inB x4 x2)
 (ob (qAM x0) fun a23 =>
 ob (qFp (List.headD (List.take 2 (List.getD x12 (Int.toNat x4) [])) 0) (List.headD (List.tail (List.take 2 (List.getD x12 (Int.toNat x4) []))) 0) a23) fun (a24_0, a24_1) =>
 ob (qHl x1 a24_0 a24_1 x5 x6) fun (a26_0, a26_1) =>
 ob (qDn x9 x10 a26_0 a26_1) fun (a28_0, a28_1) =>
 rec x0 x1 x2 x3 (IntKind.wrap .i64 (x4 + 1)) x5 x6 x7 x8 a28_0 a28_1 x11 x12)
 (none))
 (some (x7, x8, x9, x10))
def qFT : Nat -> Int -> Int -> Nat -> Int -> Int -> Int -> Int -> Int -> Int -> Int -> Int -> Nat -> List (List Int) -> Option (Int × Int × Int × Int)
 | 0, _, _, _, _, _, _, _, _, _, _, _, _, _ => none
 | f + 1, x0, x1, x2, x3, x4, x5, x6, x7, x8, x9, x10, x11, x12 => qHk (qFT f) x0 x1 x2 x3 x4 x5 x6 x7 x8 x9 x10 x11 x12
def qFS (x0 x1 : Int) (x2 x3 : Int) : Option (Int × Int) :=
 ob (qJl x0 x1) fun (a4_0, a4_1) =>
 ob (q9 x0) fun a6 =>
 ob (qGN a6) fun (a7_0, a7_1, a7_2) =>
 ob (qFT qC x0 x1 a7_0 (Int.ofNat a7_0) 0 x2 x3 0 0 a4_0 a4_1 a7_1 a7_2) fun (_, _, a10_2, a10_3) =>
 some (a10_2, a10_3)
def qcY (rec : Int -> Int -> Int -> Int -> Int -> Int -> Option (Int × Int × Int × Int)) (x0 x1 : Int) (x2 x3 : Int) (x4 x5 : Int) : Option (Int × Int × Int × Int) :=
 br (decide (x1 < 81))
 (ob (qFq x0 x1) fun a7 =>
 br (decide (a7 >= 0))
 (br (decide (a7 <= 2))
 (ob (qA7 x4 x5 x1) fun (a8_0, a8_1) =>
 rec x0 (IntKind.wrap .i64 (x1 + 1)) x2 x3 a8_0 a8_1)
 (rec x0 (IntKind.wrap .i64 (x1 + 1)) x2 x3 x4 x5))
 (rec x0 (IntKind.wrap .i64 (x1 + 1)) x2 x3 x4 x5))
 (some (x2, x3, x4, x5))
def qMT : Nat -> Int -> Int -> Int -> Int -> Int -> Int -> Option (Int × Int × Int × Int)
 | 0, _, _, _, _, _, _ => none
 | f + 1, x0, x1, x2, x3, x4, x5 => qcY (qMT f) x0 x1 x2 x3 x4 x5
def qJm (x0 : Int) : Option (Int × Int) :=
 ob (qMT qC x0 0 0 0 0 0) fun (_, _, a1_2, a1_3) =>
 some (a1_2, a1_3)
def qI3 (x0 x1 x2 : Int) : Option (Bool × Bool) :=
 ob (q9 x0) fun a3 =>
 ob (qCk a3) fun a4 =>
 br (a4 == 0)
 (some (false, false))
 (ob (qAM x0) fun a5 =>
 ob (qJm a5) fun (a6_0, a6_1) =>
 ob (qCA a6_0 a6_1 x1) fun a8 =>
 br (a8)
 (ob (qDq x0 x2) fun a9 =>
 some (true, a9))
 (ob (qCA a6_0 a6_1 x2) fun a9 =>
 ob (qDq x0 x2) fun a10 =>
 some (a9, a10)))
def qHD (rec : Nat -> Int -> Int -> Int -> Nat -> Int -> Int -> Nat -> Int -> Int -> List Int -> List Int -> Int -> List (List Int) -> List (List Int) -> Int -> Int -> Nat -> List (List Int) -> Int -> Int -> Nat -> List Int -> Nat -> List Int -> Option (Nat × Int × Nat × Int × Int × List Int × List Int × Int × List (List Int) × List (List Int) × Int × Int × Nat × List (List Int) × Int × Int × Nat × List Int)) (x0 : Nat) (x1 x2 x3 : Int) (x4 : Nat) (x5 x6 : Int) (x7 : Nat) (x8 x9 : Int) (x10 x11 : List Int) (x12 : Int) (x13 x14 : List (List Int)) (x15 x16 : Int) (x17 : Nat) (x18 : List (List Int)) (x19 x20 : Int) (x21 : Nat) (x22 : List Int) (x23 : Nat) (x24 : List Int) : Option (Nat × Int × Nat × Int × Int × List Int × List Int × Int × List (List Int) × List (List Int) × Int × Int × Nat × List (List Int) × Int × Int × Nat × List Int) :=
 br (decide (x9 < x8))
 (br (inB x9 x7)
 (ob (qI3 x3 x2 (List.getD x24 (Int.toNat x9) 0)) fun (a77_0, a77_1) =>
 br (!a77_1)
 (br (decide ((x0 + 1) * 32 <= 140737488355328))
 (br (a77_0)
 (br (decide ((x0 + 1 + 1) * 32 <= 140737488355328))
 (rec (x0 + 1 + 1) x1 x2 x3 x4 x5 x6 x7 x8 (IntKind.wrap .i64 (x9 + 1)) x10 x11 x12 x13 x14 x15 x16 (x0 + 1 + 1) (List.append (List.take (x0 + 1) (List.append (List.take x0 x18) [[x2, List.getD x24 (Int.toNat x9) 0, 0, 0]])) [[x2, List.getD x24 (Int.toNat x9) 0, 0, 1]]) x19 x20 x21 x22 x23 x24)
 (none))
 (rec (x0 + 1) x1 x2 x3 x4 x5 x6 x7 x8 (IntKind.wrap .i64 (x9 + 1)) x10 x11 x12 x13 x14 x15 x16 (x0 + 1) (List.append (List.take x0 x18) [[x2, List.getD x24 (Int.toNat x9) 0, 0, 0]]) x19 x20 x21 x22 x23 x24))
 (none))
 (br (a77_0)
 (br (decide ((x0 + 1) * 32 <= 140737488355328))
 (rec (x0 + 1) x1 x2 x3 x4 x5 x6 x7 x8 (IntKind.wrap .i64 (x9 + 1)) x10 x11 x12 x13 x14 x15 x16 (x0 + 1) (List.append (List.take x0 x18) [[x2, List.getD x24 (Int.toNat x9) 0, 0, 1]]) x19 x20 x21 x22 x23 x24)
 (none))
 (rec x0 x1 x2 x3 x4 x5 x6 x7 x8 (IntKind.wrap .i64 (x9 + 1)) x10 x11 x12 x13 x14 x15 x16 x17 x18 x19 x20 x21 x22 x23 x24)))
 (none))
 (some (x0, x1, x4, x5, x6, x10, x11, x12, x13, x14, x15, x16, x17, x18, x19, x20, x21, x22))
def qE9 : Nat -> Nat -> Int -> Int -> Int -> Nat -> Int -> Int -> Nat -> Int -> Int -> List Int -> List Int -> Int -> List (List Int) -> List (List Int) -> Int -> Int -> Nat -> List (List Int) -> Int -> Int -> Nat -> List Int -> Nat -> List Int -> Option (Nat × Int × Nat × Int × Int × List Int × List Int × Int × List (List Int) × List (List Int) × Int × Int × Nat × List (List Int) × Int × Int × Nat × List Int)
 | 0, _, _, _, _, _, _, _, _, _, _, _, _, _, _, _, _, _, _, _, _, _, _, _, _, _ => none
 | f + 1, x0, x1, x2, x3, x4, x5, x6, x7, x8, x9, x10, x11, x12, x13, x14, x15, x16, x17, x18, x19, x20, x21, x22, x23, x24 => qHD (qE9 f) x0 x1 x2 x3 x4 x5 x6 x7 x8 x9 x10 x11 x12 x13 x14 x15 x16 x17 x18 x19 x20 x21 x22 x23 x24
def qHC (rec : Nat -> Int -> Nat -> Int -> Int -> List Int -> List Int -> Int -> List (List Int) -> List (List Int) -> Int -> Int -> Nat -> List (List Int) -> Int -> Int -> Nat -> List Int -> Option (Nat × List Int × List Int × Int × List (List Int) × List (List Int) × Nat × List (List Int))) (x0 : Nat) (x1 : Int) (x2 : Nat) (x3 x4 : Int) (x5 x6 : List Int) (x7 : Int) (x8 x9 : List (List Int)) (x10 x11 : Int) (x12 : Nat) (x13 : List (List Int)) (x14 x15 : Int) (x16 : Nat) (x17 : List Int) : Option (Nat × List Int × List Int × Int × List (List Int) × List (List Int) × Nat × List (List Int)) :=
 br (decide (x4 < x3))
 (br (inB x4 x2)
 (ob (qAc (List.getD x17 (Int.toNat x4) 0) x5 x6 x7 x8 x9) fun a36 =>
 ob (qCw x5 x6 x7 x8 x9) fun (a37_0, a37_1) =>
 ob (qFS a36 (List.getD x17 (Int.toNat x4) 0) a37_0 a37_1) fun (a39_0, a39_1) =>
 ob (qF3 x1 x5 x6 x7 x8 x9) fun (a41_0, a41_1) =>
 ob (qFk a39_0 a39_1 a41_0 a41_1) fun (a43_0, a43_1) =>
 ob (qFk a43_0 a43_1 x14 x15) fun (a45_0, a45_1) =>
 ob (qCn a45_0 a45_1 x10 x11) fun (a47_0, a47_1) =>
 ob (qEa a47_0 a47_1) fun (a49_0, a49_1, a49_2) =>
 ob (qE9 qC x0 x1 (List.getD x17 (Int.toNat x4) 0) a36 x2 x3 x4 a49_0 (Int.ofNat a49_0) 0 x5 x6 x7 x8 x9 x10 x11 x12 x13 x14 x15 x16 x17 a49_1 a49_2) fun (a52_0, a52_1, a52_2, a52_3, a52_4, a52_5, a52_6, a52_7, a52_8, a52_9, a52_10, a52_11, a52_12, a52_13, a52_14, a52_15, a52_16, a52_17) =>
 rec a52_0 a52_1 a52_2 a52_3 (IntKind.wrap .i64 (a52_4 + 1)) a52_5 a52_6 a52_7 a52_8 a52_9 a52_10 a52_11 a52_12 a52_13 a52_14 a52_15 a52_16 a52_17)
 (none))
 (some (x0, x5, x6, x7, x8, x9, x12, x13))
def qE8 : Nat -> Nat -> Int -> Nat -> Int -> Int -> List Int -> List Int -> Int -> List (List Int) -> List (List Int) -> Int -> Int -> Nat -> List (List Int) -> Int -> Int -> Nat -> List Int -> Option (Nat × List Int × List Int × Int × List (List Int) × List (List Int) × Nat × List (List Int))
 | 0, _, _, _, _, _, _, _, _, _, _, _, _, _, _, _, _, _, _ => none
 | f + 1, x0, x1, x2, x3, x4, x5, x6, x7, x8, x9, x10, x11, x12, x13, x14, x15, x16, x17 => qHC (qE8 f) x0 x1 x2 x3 x4 x5 x6 x7 x8 x9 x10 x11 x12 x13 x14 x15 x16 x17
def qHA (x0 x1 : Int) (x2 x3 : List Int) (x4 : Int) (x5 x6 : List (List Int)) : Option (Nat × Nat × List (List Int)) :=
 ob (qCv 0 8 x2 x3 x4 x5 x6) fun (a7_0, a7_1) =>
 ob (qCv 1 8 x2 x3 x4 x5 x6) fun (a9_0, a9_1) =>
 ob (qDn a7_0 a7_1 a9_0 a9_1) fun (a11_0, a11_1) =>
 ob (qF3 x4 x2 x3 x4 x5 x6) fun (a13_0, a13_1) =>
 ob (qEa a13_0 a13_1) fun (a15_0, a15_1, a15_2) =>
 ob (qE8 qC 0 x4 a15_0 (Int.ofNat a15_0) 0 x2 x3 x4 x5 x6 x0 x1 0 [] a11_0 a11_1 a15_1 a15_2) fun (a18_0, _, _, _, _, _, a18_6, a18_7) =>
 some (a18_0, a18_6, a18_7)
def qJg (x0 x1 : Int) : Option (Int × Int) :=
 ob (qGS ) fun (a2_0, a2_1) =>
 ob (qFk a2_0 a2_1 x0 x1) fun (a4_0, a4_1) =>
 some (a4_0, a4_1)
def qHH (rec : Int -> Int -> Int -> Nat -> Int -> Int -> List Int -> List Int -> Int -> List (List Int) -> List (List Int) -> Int -> Int -> Int -> Int -> Nat -> List Int -> Option (List Int × List Int × Int × List (List Int) × List (List Int) × Int × Int × Int × Int)) (x0 x1 x2 : Int) (x3 : Nat) (x4 x5 : Int) (x6 x7 : List Int) (x8 : Int) (x9 x10 : List (List Int)) (x11 x12 : Int) (x13 x14 : Int) (x15 : Nat) (x16 : List Int) : Option (List Int × List Int × Int × List (List Int) × List (List Int) × Int × Int × Int × Int) :=
 br (decide (x5 < x4))
 (br (inB x5 x3)
 (ob (qDq x2 (List.getD x16 (Int.toNat x5) 0)) fun a32 =>
 br (a32)
 (rec x0 x1 x2 x3 x4 (IntKind.wrap .i64 (x5 + 1)) x6 x7 x8 x9 x10 x11 x12 x13 x14 x15 x16)
 (br (x1 == 1)
 (ob (qCv x0 1 x6 x7 x8 x9 x10) fun (a33_0, a33_1) =>
 ob (qGV (List.getD x16 (Int.toNat x5) 0)) fun a35 =>
 ob (qIG a35) fun (a36_0, a36_1) =>
 ob (qCn a33_0 a33_1 a36_0 a36_1) fun (a38_0, a38_1) =>
 ob (qEZ a38_0 a38_1) fun a40 =>
 br (!a40)
 (rec x0 x1 x2 x3 x4 (IntKind.wrap .i64 (x5 + 1)) x6 x7 x8 x9 x10 x11 x12 x13 x14 x15 x16)
 (ob (qA7 x13 x14 (List.getD x16 (Int.toNat x5) 0)) fun (a41_0, a41_1) =>
 rec x0 x1 x2 x3 x4 (IntKind.wrap .i64 (x5 + 1)) x6 x7 x8 x9 x10 x11 x12 a41_0 a41_1 x15 x16))
 (ob (qA7 x13 x14 (List.getD x16 (Int.toNat x5) 0)) fun (a33_0, a33_1) =>
 rec x0 x1 x2 x3 x4 (IntKind.wrap .i64 (x5 + 1)) x6 x7 x8 x9 x10 x11 x12 a33_0 a33_1 x15 x16)))
 (none))
 (some (x6, x7, x8, x9, x10, x11, x12, x13, x14))
def qDV : Nat -> Int -> Int -> Int -> Nat -> Int -> Int -> List Int -> List Int -> Int -> List (List Int) -> List (List Int) -> Int -> Int -> Int -> Int -> Nat -> List Int -> Option (List Int × List Int × Int × List (List Int) × List (List Int) × Int × Int × Int × Int)
 | 0, _, _, _, _, _, _, _, _, _, _, _, _, _, _, _, _, _ => none
 | f + 1, x0, x1, x2, x3, x4, x5, x6, x7, x8, x9, x10, x11, x12, x13, x14, x15, x16 => qHH (qDV f) x0 x1 x2 x3 x4 x5 x6 x7 x8 x9 x10 x11 x12 x13 x14 x15 x16
def qI2 (x0 x1 : Int) (x2 x3 : List Int) (x4 : Int) (x5 x6 : List (List Int)) : Option (Int × Int) :=
 ob (qAh x0 x1) fun a7 =>
 br (a7 == 0)
 (some (0, 0))
 (br (decide (x1 >= 8))
 (some (0, 0))
 (ob (qCw x2 x3 x4 x5 x6) fun (a8_0, a8_1) =>
 ob (qJg a8_0 a8_1) fun (a10_0, a10_1) =>
 ob (qEa a10_0 a10_1) fun (a12_0, a12_1, a12_2) =>
 ob (qDV qC x0 x1 a7 a12_0 (Int.ofNat a12_0) 0 x2 x3 x4 x5 x6 0 0 0 0 a12_1 a12_2) fun (_, _, _, _, _, _, _, a15_7, a15_8) =>
 some (a15_7, a15_8)))
def qHG (rec : Nat -> Int -> Int -> Nat -> Int -> Int -> List Int -> List Int -> Int -> List (List Int) -> List (List Int) -> Int -> Int -> Nat -> List (List Int) -> Nat -> List Int -> Option (Nat × Int × Int × List Int × List Int × Int × List (List Int) × List (List Int) × Int × Int × Nat × List (List Int))) (x0 : Nat) (x1 x2 : Int) (x3 : Nat) (x4 x5 : Int) (x6 x7 : List Int) (x8 : Int) (x9 x10 : List (List Int)) (x11 x12 : Int) (x13 : Nat) (x14 : List (List Int)) (x15 : Nat) (x16 : List Int) : Option (Nat × Int × Int × List Int × List Int × Int × List (List Int) × List (List Int) × Int × Int × Nat × List (List Int)) :=
 br (decide (x5 < x4))
 (br (inB x5 x3)
 (br (decide ((x0 + 1) * 32 <= 140737488355328))
 (rec (x0 + 1) x1 x2 x3 x4 (IntKind.wrap .i64 (x5 + 1)) x6 x7 x8 x9 x10 x11 x12 (x0 + 1) (List.append (List.take x0 x14) [[0, List.getD x16 (Int.toNat x5) 0, x2, 0]]) x15 x16)
 (none))
 (none))
 (some (x0, x1, x2, x6, x7, x8, x9, x10, x11, x12, x13, x14))
def qFB : Nat -> Nat -> Int -> Int -> Nat -> Int -> Int -> List Int -> List Int -> Int -> List (List Int) -> List (List Int) -> Int -> Int -> Nat -> List (List Int) -> Nat -> List Int -> Option (Nat × Int × Int × List Int × List Int × Int × List (List Int) × List (List Int) × Int × Int × Nat × List (List Int))
 | 0, _, _, _, _, _, _, _, _, _, _, _, _, _, _, _, _, _ => none
 | f + 1, x0, x1, x2, x3, x4, x5, x6, x7, x8, x9, x10, x11, x12, x13, x14, x15, x16 => qHG (qFB f) x0 x1 x2 x3 x4 x5 x6 x7 x8 x9 x10 x11 x12 x13 x14 x15 x16
def qHF (rec : Nat -> Int -> Int -> List Int -> List Int -> Int -> List (List Int) -> List (List Int) -> Int -> Int -> Nat -> List (List Int) -> Option (Nat × List Int × List Int × Int × List (List Int) × List (List Int) × Nat × List (List Int))) (x0 : Nat) (x1 x2 : Int) (x3 x4 : List Int) (x5 : Int) (x6 x7 : List (List Int)) (x8 x9 : Int) (x10 : Nat) (x11 : List (List Int)) : Option (Nat × List Int × List Int × Int × List (List Int) × List (List Int) × Nat × List (List Int)) :=
 br (decide (x2 < 8))
 (ob (qCZ x1 x2 x3 x4 x5 x6 x7) fun a19 =>
 br (decide (a19 < 1))
 (rec x0 x1 (IntKind.wrap .i64 (x2 + 1)) x3 x4 x5 x6 x7 x8 x9 x10 x11)
 (ob (qI2 x1 x2 x3 x4 x5 x6 x7) fun (a20_0, a20_1) =>
 ob (qCn a20_0 a20_1 x8 x9) fun (a22_0, a22_1) =>
 ob (qEa a22_0 a22_1) fun (a24_0, a24_1, a24_2) =>
 ob (qFB qC x0 x1 x2 a24_0 (Int.ofNat a24_0) 0 x3 x4 x5 x6 x7 x8 x9 x10 x11 a24_1 a24_2) fun (a27_0, a27_1, a27_2, a27_3, a27_4, a27_5, a27_6, a27_7, a27_8, a27_9, a27_10, a27_11) =>
 rec a27_0 a27_1 (IntKind.wrap .i64 (a27_2 + 1)) a27_3 a27_4 a27_5 a27_6 a27_7 a27_8 a27_9 a27_10 a27_11))
 (some (x0, x3, x4, x5, x6, x7, x10, x11))
def qFA : Nat -> Nat -> Int -> Int -> List Int -> List Int -> Int -> List (List Int) -> List (List Int) -> Int -> Int -> Nat -> List (List Int) -> Option (Nat × List Int × List Int × Int × List (List Int) × List (List Int) × Nat × List (List Int))
 | 0, _, _, _, _, _, _, _, _, _, _, _, _ => none
 | f + 1, x0, x1, x2, x3, x4, x5, x6, x7, x8, x9, x10, x11 => qHF (qFA f) x0 x1 x2 x3 x4 x5 x6 x7 x8 x9 x10 x11
def qI1 (x0 x1 : Int) (x2 x3 : List Int) (x4 : Int) (x5 x6 : List (List Int)) : Option (Nat × Nat × List (List Int)) :=
 ob (qFA qC 0 x4 1 x2 x3 x4 x5 x6 x0 x1 0 []) fun (a7_0, _, _, _, _, _, a7_6, a7_7) =>
 some (a7_0, a7_6, a7_7)
def qEM (x0 : Int) : Option (Int) :=
 br (decide (x0 >= 1))
 (br (decide (x0 <= 7))
 (br (x0 != 5)
 (some (IntKind.wrap .i64 (x0 + 8)))
 (some (0)))
 (some (0)))
 (some (0))
def qJV (x0 x1 x2 : Int) : Option (Bool) :=
 ob (qAO x0) fun a3 =>
 ob (qEM a3) fun a4 =>
 br (a4 == 0)
 (some (false))
 (ob (qA6 x0) fun a5 =>
 ob (qC8 a5 x1) fun a6 =>
 ob (qA6 x0) fun a7 =>
 ob (qC8 a7 x2) fun a8 =>
 br (decide (a6 >= 0))
 (br (decide (a6 <= 2))
 (some (true))
 (br (decide (a8 >= 0))
 (some (decide (a8 <= 2)))
 (some (false))))
 (br (decide (a8 >= 0))
 (some (decide (a8 <= 2)))
 (some (false))))
def qJW (x0 x1 : Int) : Option (Bool) :=
 ob (qAO x0) fun a2 =>
 ob (qEM a2) fun a3 =>
 br (a3 != 0)
 (ob (qC7 x0 x1) fun a4 =>
 some (a4))
 (some (false))
def qJR (x0 x1 x2 : Int) (x3 : Bool) : Option (Int) :=
 br (decide (x1 < 0))
 (some (1))
 (br (decide (x1 > 80))
 (some (1))
 (br (x2 != 0)
 (br (decide (x2 < 1))
 (some (70))
 (br (decide (x2 > 7))
 (some (70))
 (br (x0 != 0)
 (some (70))
 (br (x3)
 (some (70))
 (some (0))))))
 (br (decide (x0 < 0))
 (some (1))
 (br (decide (x0 > 80))
 (some (1))
 (br (x0 == x1)
 (some (70))
 (some (0)))))))
def qJT (x0 x1 : List Int) (x2 x3 : Int) (x4 x5 : Int) (x6 : Bool) : Option (Bool) :=
 ob (qJR x3 x4 x5 x6) fun a7 =>
 br (a7 != 0)
 (some (false))
 (br (x2 != 0)
 (br (x2 != 1)
 (some (false))
 (br (inB x4 81)
 (br (x5 != 0)
 (br (inB x2 2)
 (br (inB x5 8)
 (br (decide (List.getD x1 (Int.toNat x2 * 8 + Int.toNat x5) 0 > 0))
 (some (conv .i8 .i64 (List.getD x0 (Int.toNat x4) 0) == 0))
 (some (false)))
 (none))
 (none))
 (br (inB x3 81)
 (ob (qA6 (conv .i8 .i64 (List.getD x0 (Int.toNat x3) 0))) fun a8 =>
 br (a8 != x2)
 (some (false))
 (ob (qA6 (conv .i8 .i64 (List.getD x0 (Int.toNat x4) 0))) fun a9 =>
 br (a9 == x2)
 (some (false))
 (ob (qAO (conv .i8 .i64 (List.getD x0 (Int.toNat x4) 0))) fun a10 =>
 br (a10 == 8)
 (some (false))
 (br (!x6)
 (some (true))
 (ob (qAO (conv .i8 .i64 (List.getD x0 (Int.toNat x3) 0))) fun a11 =>
 ob (qEM a11) fun a12 =>
 some (a12 != 0))))))
 (none)))
 (none)))
 (br (inB x4 81)
 (br (x5 != 0)
 (br (inB x2 2)
 (br (inB x5 8)
 (br (decide (List.getD x1 (Int.toNat x2 * 8 + Int.toNat x5) 0 > 0))
 (some (conv .i8 .i64 (List.getD x0 (Int.toNat x4) 0) == 0))
 (some (false)))
 (none))
 (none))
 (br (inB x3 81)
 (ob (qA6 (conv .i8 .i64 (List.getD x0 (Int.toNat x3) 0))) fun a8 =>
 br (a8 != x2)
 (some (false))
 (ob (qA6 (conv .i8 .i64 (List.getD x0 (Int.toNat x4) 0))) fun a9 =>
 br (a9 == x2)
 (some (false))
 (ob (qAO (conv .i8 .i64 (List.getD x0 (Int.toNat x4) 0))) fun a10 =>
 br (a10 == 8)
 (some (false))
 (br (!x6)
 (some (true))
 (ob (qAO (conv .i8 .i64 (List.getD x0 (Int.toNat x3) 0))) fun a11 =>
 ob (qEM a11) fun a12 =>
 some (a12 != 0))))))
 (none)))
 (none)))
def qHt (rec : Int -> List Int -> List Int -> Int -> List Bool -> List Bool -> Option (List Bool × List Bool)) (x0 : Int) (x1 x2 : List Int) (x3 : Int) (x4 x5 : List Bool) : Option (List Bool × List Bool) :=
 br (decide (x0 < 81))
 (br (inB x0 81)
 (br (inB x0 81)
 (rec (IntKind.wrap .i64 (x0 + 1)) x1 x2 x3 x4 (List.set x5 (Int.toNat x0) (List.getD x1 (Int.toNat x0) 0 != 0)))
 (none))
 (none))
 (some (x4, x5))
def qEU : Nat -> Int -> List Int -> List Int -> Int -> List Bool -> List Bool -> Option (List Bool × List Bool)
 | 0, _, _, _, _, _, _ => none
 | f + 1, x0, x1, x2, x3, x4, x5 => qHt (qEU f) x0 x1 x2 x3 x4 x5
def qET (x0 x1 : List Int) (x2 : Int) : Option (List Bool) :=
 ob (qEU qC 0 x0 x1 x2 ([false, false, false, false, false, false, false, false, false, false, false, false, false, false, false, false, false, false, false, false, false, false, false, false, false, false, false, false, false, false, false, false, false, false, false, false, false, false, false, false, false, false, false, false, false, false, false, false, false, false, false, false, false, false, false, false, false, false, false, false, false, false, false, false, false, false, false, false, false, false, false, false, false, false, false, false, false, false, false, false, false]) ([false, false, false, false, false, false, false, false, false, false, false, false, false, false, false, false, false, false, false, false, false, false, false, false, false, false, false, false, false, false, false, false, false, false, false, false, false, false, false, false, false, false, false, false, false, false, false, false, false, false, false, false, false, false, false, false, false, false, false, false, false, false, false, false, false, false, false, false, false, false, false, false, false, false, false, false, false, false, false, false, false])) fun (_, a3_1) =>
 some (a3_1)
def qFW (x0 : Int) : Option (Int) :=
 br (decide (x0 < 0))
 (some (IntKind.wrap .i64 (0 - x0)))
 (some (x0))
def qJN (x0 x1 x2 : Int) : Option (Bool) :=
 br (decide (x1 < 0))
 (some (false))
 (br (decide (x1 > 80))
 (some (false))
 (br (decide (x2 < 0))
 (some (false))
 (br (decide (x2 > 80))
 (some (false))
 (br (x1 == x2)
 (some (false))
 (ob (qFW (IntKind.wrap .i64 (IntKind.wrap .i64 (Int.tdiv x2 9) - IntKind.wrap .i64 (Int.tdiv x1 9)))) fun a3 =>
 ob (qA6 x0) fun a4 =>
 br (a4 == 1)
 (br (decide (a3 <= 1))
 (ob (qFW (IntKind.wrap .i64 (0 - IntKind.wrap .i64 (Int.tmod x1 9 - Int.tmod x2 9)))) fun a5 =>
 ob (qAO x0) fun a6 =>
 br (a6 == 1)
 (br (a3 == 0)
 (some (IntKind.wrap .i64 (0 - IntKind.wrap .i64 (Int.tmod x1 9 - Int.tmod x2 9)) == 1))
 (some (false)))
 (br (a6 == 3)
 (br (a3 == 1)
 (some (IntKind.wrap .i64 (0 - IntKind.wrap .i64 (Int.tmod x1 9 - Int.tmod x2 9)) == 2))
 (some (false)))
 (br (a6 == 4)
 (br (decide (a5 <= 1))
 (br (IntKind.wrap .i64 (0 - IntKind.wrap .i64 (Int.tmod x1 9 - Int.tmod x2 9)) == 1)
 (some (true))
 (br (a3 == 1)
 (some (IntKind.wrap .i64 (0 - IntKind.wrap .i64 (Int.tmod x1 9 - Int.tmod x2 9)) == -1))
 (some (false))))
 (some (false)))
 (br (a6 == 5)
 (br (decide (a5 <= 1))
 (br (decide (IntKind.wrap .i64 (0 - IntKind.wrap .i64 (Int.tmod x1 9 - Int.tmod x2 9)) >= 0))
 (some (true))
 (some (a3 == 0)))
 (some (false)))
 (br (a6 == 9)
 (br (decide (a5 <= 1))
 (br (decide (IntKind.wrap .i64 (0 - IntKind.wrap .i64 (Int.tmod x1 9 - Int.tmod x2 9)) >= 0))
 (some (true))
 (some (a3 == 0)))
 (some (false)))
 (br (a6 == 10)
 (br (decide (a5 <= 1))
 (br (decide (IntKind.wrap .i64 (0 - IntKind.wrap .i64 (Int.tmod x1 9 - Int.tmod x2 9)) >= 0))
 (some (true))
 (some (a3 == 0)))
 (some (false)))
 (br (a6 == 11)
 (br (decide (a5 <= 1))
 (br (decide (IntKind.wrap .i64 (0 - IntKind.wrap .i64 (Int.tmod x1 9 - Int.tmod x2 9)) >= 0))
 (some (true))
 (some (a3 == 0)))
 (some (false)))
 (br (a6 == 12)
 (br (decide (a5 <= 1))
 (br (decide (IntKind.wrap .i64 (0 - IntKind.wrap .i64 (Int.tmod x1 9 - Int.tmod x2 9)) >= 0))
 (some (true))
 (some (a3 == 0)))
 (some (false)))
 (br (a6 == 8)
 (some (decide (a5 <= 1)))
 (br (a6 == 14)
 (br (decide (a5 <= 1))
 (br (a3 == 0)
 (some (true))
 (some (IntKind.wrap .i64 (0 - IntKind.wrap .i64 (Int.tmod x1 9 - Int.tmod x2 9)) == 0)))
 (some (false)))
 (br (a6 == 15)
 (br (decide (a5 <= 1))
 (br (a3 == 1)
 (some (IntKind.wrap .i64 (0 - IntKind.wrap .i64 (Int.tmod x1 9 - Int.tmod x2 9)) != 0))
 (some (false)))
 (some (false)))
 (some (false)))))))))))))
 (ob (qAO x0) fun a5 =>
 br (a5 == 1)
 (br (a3 == 0)
 (some (IntKind.wrap .i64 (0 - IntKind.wrap .i64 (Int.tmod x1 9 - Int.tmod x2 9)) == 1))
 (some (false)))
 (br (a5 == 3)
 (br (a3 == 1)
 (some (IntKind.wrap .i64 (0 - IntKind.wrap .i64 (Int.tmod x1 9 - Int.tmod x2 9)) == 2))
 (some (false)))
 (br (a5 == 4)
 (some (false))
 (br (a5 == 5)
 (some (false))
 (br (a5 == 9)
 (some (false))
 (br (a5 == 10)
 (some (false))
 (br (a5 == 11)
 (some (false))
 (br (a5 == 12)
 (some (false))
 (br (a5 == 8)
 (some (false))
 (br (a5 == 14)
 (some (false))
 (br (a5 == 15)
 (some (false))
 (some (false))))))))))))))
 (br (decide (a3 <= 1))
 (ob (qFW (IntKind.wrap .i64 (Int.tmod x1 9 - Int.tmod x2 9))) fun a5 =>
 ob (qAO x0) fun a6 =>
 br (a6 == 1)
 (br (a3 == 0)
 (some (IntKind.wrap .i64 (Int.tmod x1 9 - Int.tmod x2 9) == 1))
 (some (false)))
 (br (a6 == 3)
 (br (a3 == 1)
 (some (IntKind.wrap .i64 (Int.tmod x1 9 - Int.tmod x2 9) == 2))
 (some (false)))
 (br (a6 == 4)
 (br (decide (a5 <= 1))
 (br (IntKind.wrap .i64 (Int.tmod x1 9 - Int.tmod x2 9) == 1)
 (some (true))
 (br (a3 == 1)
 (some (IntKind.wrap .i64 (Int.tmod x1 9 - Int.tmod x2 9) == -1))
 (some (false))))
 (some (false)))
 (br (a6 == 5)
 (br (decide (a5 <= 1))
 (br (decide (IntKind.wrap .i64 (Int.tmod x1 9 - Int.tmod x2 9) >= 0))
 (some (true))
 (some (a3 == 0)))
 (some (false)))
 (br (a6 == 9)
 (br (decide (a5 <= 1))
 (br (decide (IntKind.wrap .i64 (Int.tmod x1 9 - Int.tmod x2 9) >= 0))
 (some (true))
 (some (a3 == 0)))
 (some (false)))
 (br (a6 == 10)
 (br (decide (a5 <= 1))
 (br (decide (IntKind.wrap .i64 (Int.tmod x1 9 - Int.tmod x2 9) >= 0))
 (some (true))
 (some (a3 == 0)))
 (some (false)))
 (br (a6 == 11)
 (br (decide (a5 <= 1))
 (br (decide (IntKind.wrap .i64 (Int.tmod x1 9 - Int.tmod x2 9) >= 0))
 (some (true))
 (some (a3 == 0)))
 (some (false)))
 (br (a6 == 12)
 (br (decide (a5 <= 1))
 (br (decide (IntKind.wrap .i64 (Int.tmod x1 9 - Int.tmod x2 9) >= 0))
 (some (true))
 (some (a3 == 0)))
 (some (false)))
 (br (a6 == 8)
 (some (decide (a5 <= 1)))
 (br (a6 == 14)
 (br (decide (a5 <= 1))
 (br (a3 == 0)
 (some (true))
 (some (IntKind.wrap .i64 (Int.tmod x1 9 - Int.tmod x2 9) == 0)))
 (some (false)))
 (br (a6 == 15)
 (br (decide (a5 <= 1))
 (br (a3 == 1)
 (some (IntKind.wrap .i64 (Int.tmod x1 9 - Int.tmod x2 9) != 0))
 (some (false)))
 (some (false)))
 (some (false)))))))))))))
 (ob (qAO x0) fun a5 =>
 br (a5 == 1)
 (br (a3 == 0)
 (some (IntKind.wrap .i64 (Int.tmod x1 9 - Int.tmod x2 9) == 1))
 (some (false)))
 (br (a5 == 3)
 (br (a3 == 1)
 (some (IntKind.wrap .i64 (Int.tmod x1 9 - Int.tmod x2 9) == 2))
 (some (false)))
 (br (a5 == 4)
 (some (false))
 (br (a5 == 5)
 (some (false))
 (br (a5 == 9)
 (some (false))
 (br (a5 == 10)
 (some (false))
 (br (a5 == 11)
 (some (false))
 (br (a5 == 12)
 (some (false))
 (br (a5 == 8)
 (some (false))
 (br (a5 == 14)
 (some (false))
 (br (a5 == 15)
 (some (false))
 (some (false)))))))))))))))))))
def qHq (x0 x1 : Int) : Option (Int) :=
 br (decide (x0 < 0))
 (some (0))
 (br (decide (x0 > 80))
 (some (0))
 (br (decide (x1 < 0))
 (some (0))
 (br (decide (x1 > 80))
 (some (0))
 (br (x0 == x1)
 (some (0))
 (br (IntKind.wrap .i64 (IntKind.wrap .i64 (Int.tdiv x1 9) - IntKind.wrap .i64 (Int.tdiv x0 9)) == 0)
 (some (1))
 (br (IntKind.wrap .i64 (Int.tmod x1 9 - Int.tmod x0 9) == 0)
 (some (1))
 (br (IntKind.wrap .i64 (IntKind.wrap .i64 (Int.tdiv x1 9) - IntKind.wrap .i64 (Int.tdiv x0 9)) == IntKind.wrap .i64 (Int.tmod x1 9 - Int.tmod x0 9))
 (some (2))
 (br (IntKind.wrap .i64 (IntKind.wrap .i64 (Int.tdiv x1 9) - IntKind.wrap .i64 (Int.tdiv x0 9)) == IntKind.wrap .i64 (0 - IntKind.wrap .i64 (Int.tmod x1 9 - Int.tmod x0 9)))
 (some (2))
 (some (0))))))))))
def qHr (x0 : Int) : Option (Int) :=
 br (decide (x0 < 0))
 (some (-1))
 (br (decide (x0 > 0))
 (some (1))
 (some (0)))
def qHo (rec : Int -> Nat -> Int -> Int -> Nat -> List Int -> Option (Nat × Nat × List Int)) (x0 : Int) (x1 : Nat) (x2 x3 : Int) (x4 : Nat) (x5 : List Int) : Option (Nat × Nat × List Int) :=
 br (x3 != x0)
 (br (decide ((x1 + 1) * 8 <= 140737488355328))
 (rec x0 (x1 + 1) x2 (IntKind.wrap .i64 (x3 + x2)) (x1 + 1) (List.append (List.take x1 x5) [x3]))
 (none))
 (some (x1, x4, x5))
def qFX : Nat -> Int -> Nat -> Int -> Int -> Nat -> List Int -> Option (Nat × Nat × List Int)
 | 0, _, _, _, _, _, _ => none
 | f + 1, x0, x1, x2, x3, x4, x5 => qHo (qFX f) x0 x1 x2 x3 x4 x5
def qJO (x0 x1 : Int) : Option (Nat × Nat × List Int) :=
 ob (qHq x0 x1) fun a2 =>
 br (a2 == 0)
 (some (0, 0, []))
 (ob (qHr (IntKind.wrap .i64 (IntKind.wrap .i64 (Int.tdiv x1 9) - IntKind.wrap .i64 (Int.tdiv x0 9)))) fun a3 =>
 ob (qHr (IntKind.wrap .i64 (Int.tmod x1 9 - Int.tmod x0 9))) fun a4 =>
 ob (qFX qC x1 0 (IntKind.wrap .i64 (IntKind.wrap .i64 (9 * a3) + a4)) (IntKind.wrap .i64 (x0 + IntKind.wrap .i64 (IntKind.wrap .i64 (9 * a3) + a4))) 0 []) fun (a5_0, a5_1, a5_2) =>
 some (a5_0, a5_1, a5_2))
def qHp (rec : Nat -> Int -> List Bool -> Nat -> List Int -> Option ((Bool) ⊕ (Unit))) (x0 : Nat) (x1 : Int) (x2 : List Bool) (x3 : Nat) (x4 : List Int) : Option ((Bool) ⊕ (Unit)) :=
 br (decide (x1 < Int.ofNat x0))
 (br (inB x1 x0)
 (br (inB (List.getD x4 (Int.toNat x1) 0) 81)
 (br (List.getD x2 (Int.toNat (List.getD x4 (Int.toNat x1) 0)) false)
 (some (.inl (false)))
 (rec x0 (IntKind.wrap .i64 (x1 + 1)) x2 x3 x4))
 (none))
 (none))
 (some (.inr ()))
def qFY : Nat -> Nat -> Int -> List Bool -> Nat -> List Int -> Option ((Bool) ⊕ (Unit))
 | 0, _, _, _, _, _ => none
 | f + 1, x0, x1, x2, x3, x4 => qHp (qFY f) x0 x1 x2 x3 x4
def qAo (x0 x1 : Int) (x2 : List Bool) : Option (Bool) :=
 ob (qJO x0 x1) fun (a3_0, a3_1, a3_2) =>
 ob (qFY qC a3_0 0 x2 a3_1 a3_2) fun t6_2 =>
 sw t6_2 (fun a6 =>
 some (a6))
 (fun _ =>
 some (true))
def qFZ (x0 x1 x2 : Int) (x3 : List Bool) : Option (Bool) :=
 ob (qJN x0 x1 x2) fun a4 =>
 br (a4)
 (some (true))
 (ob (qHq x1 x2) fun a5 =>
 ob (qA6 x0) fun a6 =>
 br (a6 == 1)
 (ob (qAO x0) fun a7 =>
 br (a7 == 2)
 (br (a5 == 1)
 (br (IntKind.wrap .i64 (Int.tdiv x1 9) == IntKind.wrap .i64 (Int.tdiv x2 9))
 (br (decide (IntKind.wrap .i64 (0 - IntKind.wrap .i64 (Int.tmod x1 9 - Int.tmod x2 9)) > 0))
 (ob (qAo x1 x2 x3) fun a8 =>
 some (a8))
 (some (false)))
 (some (false)))
 (some (false)))
 (br (a7 == 6)
 (br (a5 == 2)
 (ob (qAo x1 x2 x3) fun a8 =>
 some (a8))
 (some (false)))
 (br (a7 == 14)
 (br (a5 == 2)
 (ob (qAo x1 x2 x3) fun a8 =>
 some (a8))
 (some (false)))
 (br (a7 == 7)
 (br (a5 == 1)
 (ob (qAo x1 x2 x3) fun a8 =>
 some (a8))
 (some (false)))
 (br (a7 == 15)
 (br (a5 == 1)
 (ob (qAo x1 x2 x3) fun a8 =>
 some (a8))
 (some (false)))
 (some (false)))))))
 (ob (qAO x0) fun a7 =>
 br (a7 == 2)
 (br (a5 == 1)
 (br (IntKind.wrap .i64 (Int.tdiv x1 9) == IntKind.wrap .i64 (Int.tdiv x2 9))
 (br (decide (IntKind.wrap .i64 (Int.tmod x1 9 - Int.tmod x2 9) > 0))
 (ob (qAo x1 x2 x3) fun a8 =>
 some (a8))
 (some (false)))
 (some (false)))
 (some (false)))
 (br (a7 == 6)
 (br (a5 == 2)
 (ob (qAo x1 x2 x3) fun a8 =>
 some (a8))
 (some (false)))
 (br (a7 == 14)
 (br (a5 == 2)
 (ob (qAo x1 x2 x3) fun a8 =>
 some (a8))
 (some (false)))
 (br (a7 == 7)
 (br (a5 == 1)
 (ob (qAo x1 x2 x3) fun a8 =>
 some (a8))
 (some (false)))
 (br (a7 == 15)
 (br (a5 == 1)
 (ob (qAo x1 x2 x3) fun a8 =>
 some (a8))
 (some (false)))
 (some (false))))))))
def qFe (x0 x1 : List Int) (x2 x3 : Int) (x4 x5 : Int) (x6 : Bool) : Option (Bool) :=
 ob (qJT x0 x1 x2 x3 x4 x5 x6) fun a7 =>
 br (!a7)
 (some (false))
 (br (x5 != 0)
 (ob (qC7 (IntKind.wrap .i64 (IntKind.wrap .i64 (16 * x2) + x5)) x4) fun a8 =>
 br (!a8)
 (br (x5 != 1)
 (some (true))
 (ob (qDg x0 x1 x2 (IntKind.wrap .i64 (IntKind.wrap .i64 (16 * x2) + x5)) (IntKind.wrap .i64 (Int.tdiv x4 9))) fun a9 =>
 some (a9 == 0)))
 (some (false)))
 (br (inB x3 81)
 (ob (qET x0 x1 x2) fun a8 =>
 ob (qFZ (conv .i8 .i64 (List.getD x0 (Int.toNat x3) 0)) x3 x4 a8) fun a9 =>
 br (!a9)
 (some (false))
 (br (x6)
 (ob (qJV (conv .i8 .i64 (List.getD x0 (Int.toNat x3) 0)) x3 x4) fun a10 =>
 some (a10))
 (ob (qJW (conv .i8 .i64 (List.getD x0 (Int.toNat x3) 0)) x4) fun a10 =>
 some (!a10))))
 (none)))
def qHz (rec : Nat -> Int -> Int -> List Int -> List Int -> Int -> Nat -> List (List Int) -> List Bool -> Option (Nat × Int × List Int × List Int × Int × Nat × List (List Int) × List Bool)) (x0 : Nat) (x1 x2 : Int) (x3 x4 : List Int) (x5 : Int) (x6 : Nat) (x7 : List (List Int)) (x8 : List Bool) : Option (Nat × Int × List Int × List Int × Int × Nat × List (List Int) × List Bool) :=
 br (decide (x2 < 81))
 (br (inB x1 81)
 (ob (qFZ (conv .i8 .i64 (List.getD x3 (Int.toNat x1) 0)) x1 x2 x8) fun a22 =>
 br (!a22)
 (rec x0 x1 (IntKind.wrap .i64 (x2 + 1)) x3 x4 x5 x6 x7 x8)
 (ob (qFe x3 x4 x5 x1 x2 0 false) fun a23 =>
 br (a23)
 (br (decide ((x0 + 1) * 32 <= 140737488355328))
 (ob (qFe x3 x4 x5 x1 x2 0 true) fun a24 =>
 br (a24)
 (br (decide ((x0 + 1 + 1) * 32 <= 140737488355328))
 (rec (x0 + 1 + 1) x1 (IntKind.wrap .i64 (x2 + 1)) x3 x4 x5 (x0 + 1 + 1) (List.append (List.take (x0 + 1) (List.append (List.take x0 x7) [[x1, x2, 0, 0]])) [[x1, x2, 0, 1]]) x8)
 (none))
 (rec (x0 + 1) x1 (IntKind.wrap .i64 (x2 + 1)) x3 x4 x5 (x0 + 1) (List.append (List.take x0 x7) [[x1, x2, 0, 0]]) x8))
 (none))
 (ob (qFe x3 x4 x5 x1 x2 0 true) fun a24 =>
 br (a24)
 (br (decide ((x0 + 1) * 32 <= 140737488355328))
 (rec (x0 + 1) x1 (IntKind.wrap .i64 (x2 + 1)) x3 x4 x5 (x0 + 1) (List.append (List.take x0 x7) [[x1, x2, 0, 1]]) x8)
 (none))
 (rec x0 x1 (IntKind.wrap .i64 (x2 + 1)) x3 x4 x5 x6 x7 x8))))
 (none))
 (some (x0, x1, x3, x4, x5, x6, x7, x8))
def qFc : Nat -> Nat -> Int -> Int -> List Int -> List Int -> Int -> Nat -> List (List Int) -> List Bool -> Option (Nat × Int × List Int × List Int × Int × Nat × List (List Int) × List Bool)
 | 0, _, _, _, _, _, _, _, _, _ => none
 | f + 1, x0, x1, x2, x3, x4, x5, x6, x7, x8 => qHz (qFc f) x0 x1 x2 x3 x4 x5 x6 x7 x8
def qH2 (rec : Nat -> Int -> List Int -> List Int -> Int -> Nat -> List (List Int) -> List Bool -> Option (Nat × List Int × List Int × Int × Nat × List (List Int))) (x0 : Nat) (x1 : Int) (x2 x3 : List Int) (x4 : Int) (x5 : Nat) (x6 : List (List Int)) (x7 : List Bool) : Option (Nat × List Int × List Int × Int × Nat × List (List Int)) :=
 br (decide (x1 < 81))
 (br (inB x1 81)
 (ob (qA6 (conv .i8 .i64 (List.getD x2 (Int.toNat x1) 0))) fun a12 =>
 br (a12 != x4)
 (rec x0 (IntKind.wrap .i64 (x1 + 1)) x2 x3 x4 x5 x6 x7)
 (ob (qFc qC x0 x1 0 x2 x3 x4 x5 x6 x7) fun (a13_0, a13_1, a13_2, a13_3, a13_4, a13_5, a13_6, a13_7) =>
 rec a13_0 (IntKind.wrap .i64 (a13_1 + 1)) a13_2 a13_3 a13_4 a13_5 a13_6 a13_7))
 (none))
 (some (x0, x2, x3, x4, x5, x6))
def qDk : Nat -> Nat -> Int -> List Int -> List Int -> Int -> Nat -> List (List Int) -> List Bool -> Option (Nat × List Int × List Int × Int × Nat × List (List Int))
 | 0, _, _, _, _, _, _, _, _ => none
 | f + 1, x0, x1, x2, x3, x4, x5, x6, x7 => qH2 (qDk f) x0 x1 x2 x3 x4 x5 x6 x7
def qH1 (rec : Nat -> Int -> Int -> List Int -> List Int -> Int -> Nat -> List (List Int) -> Option (Nat × Int × List Int × List Int × Int × Nat × List (List Int))) (x0 : Nat) (x1 x2 : Int) (x3 x4 : List Int) (x5 : Int) (x6 : Nat) (x7 : List (List Int)) : Option (Nat × Int × List Int × List Int × Int × Nat × List (List Int)) :=
 br (decide (x2 < 81))
 (br (inB x5 2)
 (br (inB x1 8)
 (br (decide (List.getD x4 (Int.toNat x5 * 8 + Int.toNat x1) 0 > 0))
 (ob (qFe x3 x4 x5 0 x2 x1 false) fun a25 =>
 br (a25)
 (br (decide ((x0 + 1) * 32 <= 140737488355328))
 (rec (x0 + 1) x1 (IntKind.wrap .i64 (x2 + 1)) x3 x4 x5 (x0 + 1) (List.append (List.take x0 x7) [[0, x2, x1, 0]]))
 (none))
 (rec x0 x1 (IntKind.wrap .i64 (x2 + 1)) x3 x4 x5 x6 x7))
 (some (x0, x1, x3, x4, x5, x6, x7)))
 (none))
 (none))
 (some (x0, x1, x3, x4, x5, x6, x7))
def qFd : Nat -> Nat -> Int -> Int -> List Int -> List Int -> Int -> Nat -> List (List Int) -> Option (Nat × Int × List Int × List Int × Int × Nat × List (List Int))
 | 0, _, _, _, _, _, _, _, _ => none
 | f + 1, x0, x1, x2, x3, x4, x5, x6, x7 => qH1 (qFd f) x0 x1 x2 x3 x4 x5 x6 x7
def qH0 (rec : Nat -> Int -> List Int -> List Int -> Int -> Nat -> List (List Int) -> Option (Nat × Nat × List (List Int))) (x0 : Nat) (x1 : Int) (x2 x3 : List Int) (x4 : Int) (x5 : Nat) (x6 : List (List Int)) : Option (Nat × Nat × List (List Int)) :=
 br (decide (x1 <= 7))
 (ob (qFd qC x0 x1 0 x2 x3 x4 x5 x6) fun (a17_0, a17_1, a17_2, a17_3, a17_4, a17_5, a17_6) =>
 rec a17_0 (IntKind.wrap .i64 (a17_1 + 1)) a17_2 a17_3 a17_4 a17_5 a17_6)
 (some (x0, x5, x6))
def qDj : Nat -> Nat -> Int -> List Int -> List Int -> Int -> Nat -> List (List Int) -> Option (Nat × Nat × List (List Int))
 | 0, _, _, _, _, _, _, _ => none
 | f + 1, x0, x1, x2, x3, x4, x5, x6 => qH0 (qDj f) x0 x1 x2 x3 x4 x5 x6
def qHy (x0 x1 : List Int) (x2 : Int) : Option (Nat × Nat × List (List Int)) :=
 br (x2 != 0)
 (br (x2 != 1)
 (some (0, 0, []))
 (ob (qET x0 x1 x2) fun a3 =>
 ob (qDk qC 0 0 x0 x1 x2 0 [] a3) fun (a4_0, a4_1, a4_2, a4_3, a4_4, a4_5) =>
 ob (qDj qC a4_0 1 a4_1 a4_2 a4_3 a4_4 a4_5) fun (a10_0, a10_1, a10_2) =>
 some (a10_0, a10_1, a10_2)))
 (ob (qET x0 x1 x2) fun a3 =>
 ob (qDk qC 0 0 x0 x1 x2 0 [] a3) fun (a4_0, a4_1, a4_2, a4_3, a4_4, a4_5) =>
 ob (qDj qC a4_0 1 a4_1 a4_2 a4_3 a4_4 a4_5) fun (a10_0, a10_1, a10_2) =>
 some (a10_0, a10_1, a10_2))
def qGm (rec : Int -> Int -> Int -> List Int -> List Int -> Int -> List (List Int) -> List (List Int) -> Int -> Int -> Int -> Int -> Int -> Int -> Option (List Int × List Int × Int × List (List Int) × List (List Int) × Int × Int × Int × Int)) (x0 x1 x2 : Int) (x3 x4 : List Int) (x5 : Int) (x6 x7 : List (List Int)) (x8 x9 : Int) (x10 x11 : Int) (x12 x13 : Int) : Option (List Int × List Int × Int × List (List Int) × List (List Int) × Int × Int × Int × Int) :=
 br (decide (x2 <= 15))
 (ob (qAh (IntKind.wrap .i64 (1 - x1)) x2) fun a23 =>
 br (a23 == 0)
 (rec x0 x1 (IntKind.wrap .i64 (x2 + 1)) x3 x4 x5 x6 x7 x8 x9 x10 x11 x12 x13)
 (ob (qFS a23 x0 x8 x9) fun (a24_0, a24_1) =>
 ob (qCv x1 x2 x3 x4 x5 x6 x7) fun (a26_0, a26_1) =>
 ob (qCn a24_0 a24_1 a26_0 a26_1) fun (a28_0, a28_1) =>
 ob (qDn x12 x13 a28_0 a28_1) fun (a30_0, a30_1) =>
 rec x0 x1 (IntKind.wrap .i64 (x2 + 1)) x3 x4 x5 x6 x7 x8 x9 x10 x11 a30_0 a30_1))
 (some (x3, x4, x5, x6, x7, x10, x11, x12, x13))
def qDx : Nat -> Int -> Int -> Int -> List Int -> List Int -> Int -> List (List Int) -> List (List Int) -> Int -> Int -> Int -> Int -> Int -> Int -> Option (List Int × List Int × Int × List (List Int) × List (List Int) × Int × Int × Int × Int)
 | 0, _, _, _, _, _, _, _, _, _, _, _, _, _, _ => none
 | f + 1, x0, x1, x2, x3, x4, x5, x6, x7, x8, x9, x10, x11, x12, x13 => qGm (qDx f) x0 x1 x2 x3 x4 x5 x6 x7 x8 x9 x10 x11 x12 x13
def qGl (x0 x1 : Int) (x2 x3 : Int) (x4 x5 : List Int) (x6 : Int) (x7 x8 : List (List Int)) : Option (Int × Int) :=
 br (decide (x0 < 0))
 (some (0, 0))
 (br (decide (x0 >= 81))
 (some (0, 0))
 (br (x1 != 0)
 (br (x1 != 1)
 (some (0, 0))
 (ob (qDx qC x0 x1 1 x4 x5 x6 x7 x8 x2 x3 0 0 0 0) fun (_, _, _, _, _, _, _, a9_7, a9_8) =>
 some (a9_7, a9_8)))
 (ob (qDx qC x0 x1 1 x4 x5 x6 x7 x8 x2 x3 0 0 0 0) fun (_, _, _, _, _, _, _, a9_7, a9_8) =>
 some (a9_7, a9_8))))
def qFx (x0 : Int) (x1 x2 : List Int) (x3 : Int) (x4 x5 : List (List Int)) : Option (Int × Int) :=
 ob (qF1 x0 x1 x2 x3 x4 x5) fun a6 =>
 ob (qCw x1 x2 x3 x4 x5) fun (a7_0, a7_1) =>
 ob (qGl a6 (IntKind.wrap .i64 (1 - x0)) a7_0 a7_1 x1 x2 x3 x4 x5) fun (a9_0, a9_1) =>
 some (a9_0, a9_1)
def qIc (x0 : Int) (x1 x2 : List Int) (x3 : Int) (x4 x5 : List (List Int)) : Option (Bool) :=
 ob (qFx x0 x1 x2 x3 x4 x5) fun (a6_0, a6_1) =>
 ob (qEZ a6_0 a6_1) fun a8 =>
 some (!a8)
def qDw (x0 x1 : List Int) (x2 : Int) : Option (Int) :=
 ob (qIf x0 x1 x2) fun a3 =>
 br (a3 != 0)
 (some (a3))
 (ob (qD0 x0 x1 x2) fun (a4_0, a4_1, a4_2, a4_3, a4_4) =>
 ob (qIc (IntKind.wrap .i64 (1 - x2)) a4_0 a4_1 a4_2 a4_3 a4_4) fun a9 =>
 br (a9)
 (some (54))
 (some (0)))
def qII (rec : Nat -> Int -> Int -> Nat -> List Int -> Int -> Int -> Int -> Int -> Option (Nat × List Int × Int × Int × Int × Int)) (x0 : Nat) (x1 x2 : Int) (x3 : Nat) (x4 : List Int) (x5 x6 : Int) (x7 x8 : Int) : Option (Nat × List Int × Int × Int × Int × Int) :=
 br (decide (x2 < x1))
 (br (inB x2 x0)
 (ob (qA7 x7 x8 (List.getD x4 (Int.toNat x2) 0)) fun (a12_0, a12_1) =>
 rec x0 x1 (IntKind.wrap .i64 (x2 + 1)) x3 x4 x5 x6 a12_0 a12_1)
 (none))
 (some (x3, x4, x5, x6, x7, x8))
def qFl : Nat -> Nat -> Int -> Int -> Nat -> List Int -> Int -> Int -> Int -> Int -> Option (Nat × List Int × Int × Int × Int × Int)
 | 0, _, _, _, _, _, _, _, _, _ => none
 | f + 1, x0, x1, x2, x3, x4, x5, x6, x7, x8 => qII (qFl f) x0 x1 x2 x3 x4 x5 x6 x7 x8
def qIH (x0 x1 : Nat) (x2 : List Int) : Option (Int × Int) :=
 ob (qFl qC x0 (Int.ofNat x0) 0 x1 x2 0 0 0 0) fun (_, _, _, _, a3_4, a3_5) =>
 some (a3_4, a3_5)
def qHw (rec : Int -> Int -> List Int -> List Int -> Int -> Option ((Int) ⊕ (Unit))) (x0 x1 : Int) (x2 x3 : List Int) (x4 : Int) : Option ((Int) ⊕ (Unit)) :=
 br (decide (x1 < 81))
 (br (inB x1 81)
 (br (conv .i8 .i64 (List.getD x2 (Int.toNat x1) 0) == IntKind.wrap .i64 (IntKind.wrap .i64 (16 * x0) + 8))
 (some (.inl (x1)))
 (rec x0 (IntKind.wrap .i64 (x1 + 1)) x2 x3 x4))
 (none))
 (some (.inr ()))
def qFb : Nat -> Int -> Int -> List Int -> List Int -> Int -> Option ((Int) ⊕ (Unit))
 | 0, _, _, _, _, _ => none
 | f + 1, x0, x1, x2, x3, x4 => qHw (qFb f) x0 x1 x2 x3 x4
def qJS (x0 x1 : List Int) (x2 x3 : Int) : Option (Int) :=
 ob (qFb qC x3 0 x0 x1 x2) fun t4_2 =>
 sw t4_2 (fun a4 =>
 some (a4))
 (fun _ =>
 some (-1))
def qHv (rec : Int -> Int -> Int -> List Int -> List Int -> Int -> List Bool -> Option ((Bool) ⊕ (Unit))) (x0 x1 x2 : Int) (x3 x4 : List Int) (x5 : Int) (x6 : List Bool) : Option ((Bool) ⊕ (Unit)) :=
 br (decide (x2 < 81))
 (br (inB x2 81)
 (ob (qA6 (conv .i8 .i64 (List.getD x3 (Int.toNat x2) 0))) fun a13 =>
 br (a13 == IntKind.wrap .i64 (1 - x0))
 (br (inB x2 81)
 (ob (qFZ (conv .i8 .i64 (List.getD x3 (Int.toNat x2) 0)) x2 x1 x6) fun a14 =>
 br (a14)
 (some (.inl (true)))
 (rec x0 x1 (IntKind.wrap .i64 (x2 + 1)) x3 x4 x5 x6))
 (none))
 (rec x0 x1 (IntKind.wrap .i64 (x2 + 1)) x3 x4 x5 x6))
 (none))
 (some (.inr ()))
def qFa : Nat -> Int -> Int -> Int -> List Int -> List Int -> Int -> List Bool -> Option ((Bool) ⊕ (Unit))
 | 0, _, _, _, _, _, _, _ => none
 | f + 1, x0, x1, x2, x3, x4, x5, x6 => qHv (qFa f) x0 x1 x2 x3 x4 x5 x6
def qHu (x0 x1 : List Int) (x2 x3 : Int) : Option (Bool) :=
 ob (qET x0 x1 x2) fun a4 =>
 ob (qJS x0 x1 x2 x3) fun a5 =>
 br (decide (a5 < 0))
 (some (false))
 (ob (qFa qC x3 a5 0 x0 x1 x2 a4) fun t6_2 =>
 sw t6_2 (fun a6 =>
 some (a6))
 (fun _ =>
 some (false)))
def qHx (x0 x1 : List Int) (x2 x3 : Int) (x4 x5 : Int) (x6 : Bool) : Option (List Int × List Int × Int) :=
 br (x5 != 0)
 (br (inB x2 2)
 (br (inB x5 8)
 (br (inB x2 2)
 (br (inB x5 8)
 (br (inB x4 81)
 (some (List.set x0 (Int.toNat x4) (conv .i64 .i8 (IntKind.wrap .i64 (IntKind.wrap .i64 (16 * x2) + x5))), List.set x1 (Int.toNat x2 * 8 + Int.toNat x5) (IntKind.wrap .i8 (List.getD x1 (Int.toNat x2 * 8 + Int.toNat x5) 0 - 1)), IntKind.wrap .i8 (1 - x2)))
 (none))
 (none))
 (none))
 (none))
 (none))
 (br (inB x4 81)
 (ob (qAO (conv .i8 .i64 (List.getD x0 (Int.toNat x4) 0))) fun a7 =>
 ob (qHn a7) fun a8 =>
 br (a8 != 0)
 (br (inB x2 2)
 (br (inB a8 8)
 (br (inB x2 2)
 (br (inB a8 8)
 (br (inB x3 81)
 (br (inB x4 81)
 (br (x6)
 (br (inB x4 81)
 (br (inB x4 81)
 (br (inB x3 81)
 (some (List.set (List.set (List.set x0 (Int.toNat x4) (List.getD x0 (Int.toNat x3) 0)) (Int.toNat x4) (IntKind.wrap .i8 (List.getD (List.set x0 (Int.toNat x4) (List.getD x0 (Int.toNat x3) 0)) (Int.toNat x4) 0 + 8))) (Int.toNat x3) 0, List.set x1 (Int.toNat x2 * 8 + Int.toNat a8) (IntKind.wrap .i8 (List.getD x1 (Int.toNat x2 * 8 + Int.toNat a8) 0 + 1)), IntKind.wrap .i8 (1 - x2)))
 (none))
 (none))
 (none))
 (br (inB x3 81)
 (some (List.set (List.set x0 (Int.toNat x4) (List.getD x0 (Int.toNat x3) 0)) (Int.toNat x3) 0, List.set x1 (Int.toNat x2 * 8 + Int.toNat a8) (IntKind.wrap .i8 (List.getD x1 (Int.toNat x2 * 8 + Int.toNat a8) 0 + 1)), IntKind.wrap .i8 (1 - x2)))
 (none)))
 (none))
 (none))
 (none))
 (none))
 (none))
 (none))
 (br (inB x3 81)
 (br (inB x4 81)
 (br (x6)
 (br (inB x4 81)
 (br (inB x4 81)
 (br (inB x3 81)
 (some (List.set (List.set (List.set x0 (Int.toNat x4) (List.getD x0 (Int.toNat x3) 0)) (Int.toNat x4) (IntKind.wrap .i8 (List.getD (List.set x0 (Int.toNat x4) (List.getD x0 (Int.toNat x3) 0)) (Int.toNat x4) 0 + 8))) (Int.toNat x3) 0, x1, IntKind.wrap .i8 (1 - x2)))
 (none))
 (none))
 (none))
 (br (inB x3 81)
 (some (List.set (List.set x0 (Int.toNat x4) (List.getD x0 (Int.toNat x3) 0)) (Int.toNat x3) 0, x1, IntKind.wrap .i8 (1 - x2)))
 (none)))
 (none))
 (none)))
 (none))
def qHj (rec : Int -> Int -> Nat -> Int -> Int -> Int -> Int -> Nat -> List (List Int) -> Option ((Int × Int) ⊕ (Int × Int))) (x0 x1 : Int) (x2 : Nat) (x3 x4 : Int) (x5 x6 : Int) (x7 : Nat) (x8 : List (List Int)) : Option ((Int × Int) ⊕ (Int × Int)) :=
 br (decide (x4 < x3))
 (br (inB x4 x2)
 (ob (qIH 1 1 [x1]) fun (a17_0, a17_1) =>
 ob (qHl x0 (List.headD (List.take 2 (List.getD x8 (Int.toNat x4) [])) 0) (List.headD (List.tail (List.take 2 (List.getD x8 (Int.toNat x4) []))) 0) a17_0 a17_1) fun (a19_0, a19_1) =>
 ob (qCA a19_0 a19_1 x1) fun a21 =>
 br (a21)
 (ob (qEc a19_0 a19_1 x1) fun (a22_0, a22_1) =>
 some (.inl (a22_0, a22_1)))
 (rec x0 x1 x2 x3 (IntKind.wrap .i64 (x4 + 1)) x5 x6 x7 x8))
 (none))
 (some (.inr (x5, x6)))
def qFR : Nat -> Int -> Int -> Nat -> Int -> Int -> Int -> Int -> Nat -> List (List Int) -> Option ((Int × Int) ⊕ (Int × Int))
 | 0, _, _, _, _, _, _, _, _, _ => none
 | f + 1, x0, x1, x2, x3, x4, x5, x6, x7, x8 => qHj (qFR f) x0 x1 x2 x3 x4 x5 x6 x7 x8
def qHi (x0 x1 : Int) : Option (Int × Int) :=
 ob (qGN 6) fun (a2_0, _, a2_2) =>
 ob (qGN 7) fun (a5_0, _, a5_2) =>
 br (decide ((a2_0 + a5_0) * 16 <= 140737488355328))
 (ob (qFR qC x0 x1 (a2_0 + a5_0) (Int.ofNat (a2_0 + a5_0)) 0 0 0 (a2_0 + a5_0) (List.append (List.take a2_0 a2_2) (List.take a5_0 a5_2))) fun t8_2 =>
 sw t8_2 (fun (a8_0, a8_1) =>
 some (a8_0, a8_1))
 (fun (_, _) =>
 some (0, 0)))
 (none)
def qFy (rec : Int -> Int -> Nat -> Int -> Int -> Nat -> Int -> Int -> List Int -> List Int -> Int -> List (List Int) -> List (List Int) -> List (List Int × List Int) -> Nat -> List Int -> Nat -> List Int -> Option (Int × Int × Nat × Int × Int × List Int × List Int × Int × List (List Int) × List (List Int) × List (List Int × List Int) × Nat × List Int)) (x0 x1 : Int) (x2 : Nat) (x3 x4 : Int) (x5 : Nat) (x6 x7 : Int) (x8 x9 : List Int) (x10 : Int) (x11 x12 : List (List Int)) (x13 : List (List Int × List Int)) (x14 : Nat) (x15 : List Int) (x16 : Nat) (x17 : List Int) : Option (Int × Int × Nat × Int × Int × List Int × List Int × Int × List (List Int) × List (List Int) × List (List Int × List Int) × Nat × List Int) :=
 br (decide (x7 < x6))
 (br (inB x7 x5)
 (ob (qHi (List.getD x17 (Int.toNat x7) 0) x1) fun (a43_0, a43_1) =>
 ob (qCw x8 x9 x10 x11 x12) fun (a45_0, a45_1) =>
 ob (qCn a43_0 a43_1 a45_0 a45_1) fun (a47_0, a47_1) =>
 ob (qGU a47_0 a47_1) fun a49 =>
 br (a49 != 1)
 (rec x0 x1 x2 x3 x4 x5 x6 (IntKind.wrap .i64 (x7 + 1)) x8 x9 x10 x11 x12 x13 x14 x15 x16 x17)
 (ob (qF3 x0 x8 x9 x10 x11 x12) fun (a50_0, a50_1) =>
 ob (qCn a47_0 a47_1 a50_0 a50_1) fun (a52_0, a52_1) =>
 ob (qEZ a52_0 a52_1) fun a54 =>
 br (a54)
 (rec x0 x1 x2 x3 x4 x5 x6 (IntKind.wrap .i64 (x7 + 1)) x8 x9 x10 x11 x12 x13 x14 x15 x16 x17)
 (ob (qGW a47_0 a47_1) fun a55 =>
 ob (qAc (List.getD x17 (Int.toNat x7) 0) x8 x9 x10 x11 x12) fun a56 =>
 ob (qCw x8 x9 x10 x11 x12) fun (a57_0, a57_1) =>
 ob (qEc a57_0 a57_1 a55) fun (a59_0, a59_1) =>
 ob (qFS a56 (List.getD x17 (Int.toNat x7) 0) a59_0 a59_1) fun (a61_0, a61_1) =>
 ob (qCA a61_0 a61_1 x1) fun a63 =>
 br (!a63)
 (rec x0 x1 x2 x3 x4 x5 x6 (IntKind.wrap .i64 (x7 + 1)) x8 x9 x10 x11 x12 x13 x14 x15 x16 x17)
 (ob (qAc (List.getD x17 (Int.toNat x7) 0) x8 x9 x10 x11 x12) fun a64 =>
 ob (qCw x8 x9 x10 x11 x12) fun (a65_0, a65_1) =>
 ob (qFS a64 (List.getD x17 (Int.toNat x7) 0) a65_0 a65_1) fun (a67_0, a67_1) =>
 ob (qCA a67_0 a67_1 x1) fun a69 =>
 br (a69)
 (rec x0 x1 x2 x3 x4 x5 x6 (IntKind.wrap .i64 (x7 + 1)) x8 x9 x10 x11 x12 x13 x14 x15 x16 x17)
 (ob (qA7 a43_0 a43_1 (List.getD x17 (Int.toNat x7) 0)) fun (a70_0, a70_1) =>
 rec x0 x1 x2 x3 x4 x5 x6 (IntKind.wrap .i64 (x7 + 1)) x8 x9 x10 x11 x12 (q8 x13 [a55] [a70_0, a70_1]) x14 x15 x16 x17)))))
 (none))
 (some (x0, x1, x2, x3, x4, x8, x9, x10, x11, x12, x13, x14, x15))
def qEs : Nat -> Int -> Int -> Nat -> Int -> Int -> Nat -> Int -> Int -> List Int -> List Int -> Int -> List (List Int) -> List (List Int) -> List (List Int × List Int) -> Nat -> List Int -> Nat -> List Int -> Option (Int × Int × Nat × Int × Int × List Int × List Int × Int × List (List Int) × List (List Int) × List (List Int × List Int) × Nat × List Int)
 | 0, _, _, _, _, _, _, _, _, _, _, _, _, _, _, _, _, _, _ => none
 | f + 1, x0, x1, x2, x3, x4, x5, x6, x7, x8, x9, x10, x11, x12, x13, x14, x15, x16, x17 => qFy (qEs f) x0 x1 x2 x3 x4 x5 x6 x7 x8 x9 x10 x11 x12 x13 x14 x15 x16 x17
def qGp (rec : Int -> Int -> Nat -> Int -> Int -> List Int -> List Int -> Int -> List (List Int) -> List (List Int) -> List (List Int × List Int) -> Nat -> List Int -> Option (List Int × List Int × Int × List (List Int) × List (List Int) × List (List Int × List Int))) (x0 x1 : Int) (x2 : Nat) (x3 x4 : Int) (x5 x6 : List Int) (x7 : Int) (x8 x9 : List (List Int)) (x10 : List (List Int × List Int)) (x11 : Nat) (x12 : List Int) : Option (List Int × List Int × Int × List (List Int) × List (List Int) × List (List Int × List Int)) :=
 br (decide (x4 < x3))
 (br (inB x4 x2)
 (ob (qCv (IntKind.wrap .i64 (1 - x0)) (List.getD x12 (Int.toNat x4) 0) x5 x6 x7 x8 x9) fun (a20_0, a20_1) =>
 ob (qEa a20_0 a20_1) fun (a22_0, a22_1, a22_2) =>
 ob (qEs qC x0 x1 x2 x3 x4 a22_0 (Int.ofNat a22_0) 0 x5 x6 x7 x8 x9 x10 x11 x12 a22_1 a22_2) fun (a25_0, a25_1, a25_2, a25_3, a25_4, a25_5, a25_6, a25_7, a25_8, a25_9, a25_10, a25_11, a25_12) =>
 rec a25_0 a25_1 a25_2 a25_3 (IntKind.wrap .i64 (a25_4 + 1)) a25_5 a25_6 a25_7 a25_8 a25_9 a25_10 a25_11 a25_12)
 (none))
 (some (x5, x6, x7, x8, x9, x10))
def qEr : Nat -> Int -> Int -> Nat -> Int -> Int -> List Int -> List Int -> Int -> List (List Int) -> List (List Int) -> List (List Int × List Int) -> Nat -> List Int -> Option (List Int × List Int × Int × List (List Int) × List (List Int) × List (List Int × List Int))
 | 0, _, _, _, _, _, _, _, _, _, _, _, _, _ => none
 | f + 1, x0, x1, x2, x3, x4, x5, x6, x7, x8, x9, x10, x11, x12 => qGp (qEr f) x0 x1 x2 x3 x4 x5 x6 x7 x8 x9 x10 x11 x12
def qGn (x0 : Int) (x1 x2 : List Int) (x3 : Int) (x4 x5 : List (List Int)) : Option (List (List Int × List Int)) :=
 ob (qF1 x0 x1 x2 x3 x4 x5) fun a6 =>
 br (decide (a6 < 0))
 (some ([]))
 (ob (qEr qC x0 a6 5 5 0 x1 x2 x3 x4 x5 [] 5 ([2, 6, 7, 14, 15])) fun (_, _, _, _, _, a7_5) =>
 some (a7_5))
def qHS (x0 x1 : List Int) (x2 : Int) (x3 x4 : List (List Int)) : Option (Int × Int × Int × Int × Bool × List (List Int × List Int)) :=
 ob (qF1 x2 x0 x1 x2 x3 x4) fun a5 =>
 ob (qGS ) fun (a6_0, a6_1) =>
 ob (qGn x2 x0 x1 x2 x3 x4) fun a8 =>
 ob (qFx x2 x0 x1 x2 x3 x4) fun (a9_0, a9_1) =>
 ob (qGU a9_0 a9_1) fun a11 =>
 br (a11 == 0)
 (some (x2, a5, a6_0, a6_1, false, a8))
 (br (a11 == 1)
 (ob (qGW a9_0 a9_1) fun a12 =>
 ob (qHi a12 a5) fun (a13_0, a13_1) =>
 ob (qDn a13_0 a13_1 a9_0 a9_1) fun (a15_0, a15_1) =>
 some (x2, a5, a15_0, a15_1, true, a8))
 (some (x2, a5, 0, 0, true, a8)))
def qHT (x0 x1 : Int) (x2 x3 : Int) (_x4 : Bool) (x5 x6 _x7 : Int) (_x8 : Bool) (x9 x10 : List Int) (x11 : Int) (x12 x13 : List (List Int)) (x14 : List (List Int × List Int)) : Option (Bool × List Int × List Int × Int × List (List Int) × List (List Int) × List (List Int × List Int)) :=
 br (x5 == x1)
 (ob (qCw x9 x10 x11 x12 x13) fun (a15_0, a15_1) =>
 ob (qEc a15_0 a15_1 x1) fun (a17_0, a17_1) =>
 ob (qGl x6 (IntKind.wrap .i64 (1 - x0)) a17_0 a17_1 x9 x10 x11 x12 x13) fun (a19_0, a19_1) =>
 ob (qEZ a19_0 a19_1) fun a21 =>
 some (a21, x9, x10, x11, x12, x13, x14))
 (ob (qCA x2 x3 x6) fun a15 =>
 br (!a15)
 (some (false, x9, x10, x11, x12, x13, x14))
 (br (!qA1 x14 [x5])
 (some (true, x9, x10, x11, x12, x13, x14))
 (ob (qCA (List.headD (qAe x14 [x5] [0, 0]) 0) (List.headD (List.tail (qAe x14 [x5] [0, 0])) 0) x6) fun a16 =>
 some (a16, x9, x10, x11, x12, x13, x14))))
def qHR (rec : Nat -> Int -> Int -> List Int -> List Int -> Int -> List (List Int) -> List (List Int) -> Int -> Int -> Int -> Int -> Bool -> Nat -> List (List Int) -> List Int -> List Int -> Int -> List (List Int) -> List (List Int) -> List (List Int × List Int) -> Option ((Bool × List Int × List Int × Int × List (List Int) × List (List Int)) ⊕ (List Int × List Int × Int × List (List Int) × List (List Int)))) (x0 : Nat) (x1 x2 : Int) (x3 x4 : List Int) (x5 : Int) (x6 x7 : List (List Int)) (x8 x9 : Int) (x10 x11 : Int) (x12 : Bool) (x13 : Nat) (x14 : List (List Int)) (x15 x16 : List Int) (x17 : Int) (x18 x19 : List (List Int)) (x20 : List (List Int × List Int)) : Option ((Bool × List Int × List Int × Int × List (List Int) × List (List Int)) ⊕ (List Int × List Int × Int × List (List Int) × List (List Int))) :=
 br (decide (x2 < x1))
 (br (inB x2 x0)
 (ob (qHT x8 x9 x10 x11 x12 (List.headD (List.take 4 (List.getD x14 (Int.toNat x2) [])) 0) (List.headD (List.tail (List.take 4 (List.getD x14 (Int.toNat x2) []))) 0) (List.headD (List.tail (List.tail (List.take 4 (List.getD x14 (Int.toNat x2) [])))) 0) (List.headD (List.tail (List.tail (List.tail (List.take 4 (List.getD x14 (Int.toNat x2) []))))) 0 != 0) x15 x16 x17 x18 x19 x20) fun (a53_0, a53_1, a53_2, a53_3, a53_4, a53_5, a53_6) =>
 br (a53_0)
 (some (.inl (false, x3, x4, x5, x6, x7)))
 (rec x0 x1 (IntKind.wrap .i64 (x2 + 1)) x3 x4 x5 x6 x7 x8 x9 x10 x11 x12 x13 x14 a53_1 a53_2 a53_3 a53_4 a53_5 a53_6))
 (none))
 (some (.inr (x3, x4, x5, x6, x7)))
def qFL : Nat -> Nat -> Int -> Int -> List Int -> List Int -> Int -> List (List Int) -> List (List Int) -> Int -> Int -> Int -> Int -> Bool -> Nat -> List (List Int) -> List Int -> List Int -> Int -> List (List Int) -> List (List Int) -> List (List Int × List Int) -> Option ((Bool × List Int × List Int × Int × List (List Int) × List (List Int)) ⊕ (List Int × List Int × Int × List (List Int) × List (List Int)))
 | 0, _, _, _, _, _, _, _, _, _, _, _, _, _, _, _, _, _, _, _, _, _ => none
 | f + 1, x0, x1, x2, x3, x4, x5, x6, x7, x8, x9, x10, x11, x12, x13, x14, x15, x16, x17, x18, x19, x20 => qHR (qFL f) x0 x1 x2 x3 x4 x5 x6 x7 x8 x9 x10 x11 x12 x13 x14 x15 x16 x17 x18 x19 x20
def qI7 (x0 : Int) (x1 x2 : List Int) (x3 : Int) (x4 x5 : List (List Int)) : Option (Bool) :=
 ob (qAh x3 1) fun a6 =>
 br (a6 == 0)
 (some (false))
 (br (decide (x0 < 0))
 (some (false))
 (br (decide (x0 >= 81))
 (some (false))
 (ob (qAc x0 x1 x2 x3 x4 x5) fun a7 =>
 br (a7 != 0)
 (some (false))
 (ob (qKF x1 x2 x3 x4 x5) fun (a8_0, a8_1, a8_2, a8_3, a8_4) =>
 ob (qF4 x0 a6 a8_0 a8_1 a8_2 a8_3 a8_4) fun (a13_0, a13_1, a13_2, a13_3, a13_4) =>
 ob (qFx (conv .i8 .i64 (IntKind.wrap .i8 (1 - a13_2))) a13_0 a13_1 (IntKind.wrap .i8 (1 - a13_2)) a13_3 a13_4) fun (a18_0, a18_1) =>
 ob (qCA a18_0 a18_1 x0) fun a20 =>
 br (!a20)
 (some (false))
 (ob (qHS a13_0 a13_1 (IntKind.wrap .i8 (1 - a13_2)) a13_3 a13_4) fun (a21_0, a21_1, a21_2, a21_3, a21_4, a21_5) =>
 ob (qGS ) fun (a27_0, a27_1) =>
 ob (qHA a27_0 a27_1 a13_0 a13_1 (IntKind.wrap .i8 (1 - a13_2)) a13_3 a13_4) fun (a29_0, a29_1, a29_2) =>
 ob (qFL qC a29_0 (Int.ofNat a29_0) 0 x1 x2 x3 x4 x5 a21_0 a21_1 a21_2 a21_3 a21_4 a29_1 a29_2 a13_0 a13_1 (IntKind.wrap .i8 (1 - a13_2)) a13_3 a13_4 a21_5) fun t32_2 =>
 sw t32_2 (fun (a32_0, _, _, _, _, _) =>
 some (a32_0))
 (fun (_, _, _, _, _) =>
 some (true)))))))
def qHQ (rec : Nat -> Nat -> Int -> Int -> List Int -> List Int -> Int -> List (List Int) -> List (List Int) -> Int -> Int -> Int -> Int -> Bool -> Nat -> List (List Int) -> Nat -> List (List Int) -> List (List Int × List Int) -> Option (Nat × List Int × List Int × Int × List (List Int) × List (List Int) × Int × Int × Int × Int × Bool × Nat × List (List Int) × List (List Int × List Int))) (x0 x1 : Nat) (x2 x3 : Int) (x4 x5 : List Int) (x6 : Int) (x7 x8 : List (List Int)) (x9 x10 : Int) (x11 x12 : Int) (x13 : Bool) (x14 : Nat) (x15 : List (List Int)) (x16 : Nat) (x17 : List (List Int)) (x18 : List (List Int × List Int)) : Option (Nat × List Int × List Int × Int × List (List Int) × List (List Int) × Int × Int × Int × Int × Bool × Nat × List (List Int) × List (List Int × List Int)) :=
 br (decide (x3 < x2))
 (br (inB x3 x1)
 (ob (qHT x9 x10 x11 x12 x13 (List.headD (List.take 4 (List.getD x17 (Int.toNat x3) [])) 0) (List.headD (List.tail (List.take 4 (List.getD x17 (Int.toNat x3) []))) 0) (List.headD (List.tail (List.tail (List.take 4 (List.getD x17 (Int.toNat x3) [])))) 0) (List.headD (List.tail (List.tail (List.tail (List.take 4 (List.getD x17 (Int.toNat x3) []))))) 0 != 0) x4 x5 x6 x7 x8 x18) fun (a35_0, a35_1, a35_2, a35_3, a35_4, a35_5, a35_6) =>
 br (a35_0)
 (br (decide ((x0 + 1) * 32 <= 140737488355328))
 (rec (x0 + 1) x1 x2 (IntKind.wrap .i64 (x3 + 1)) a35_1 a35_2 a35_3 a35_4 a35_5 x9 x10 x11 x12 x13 (x0 + 1) (List.append (List.take x0 x15) [[List.headD (List.take 4 (List.getD x17 (Int.toNat x3) [])) 0, List.headD (List.tail (List.take 4 (List.getD x17 (Int.toNat x3) []))) 0, List.headD (List.tail (List.tail (List.take 4 (List.getD x17 (Int.toNat x3) [])))) 0, bi (List.headD (List.tail (List.tail (List.tail (List.take 4 (List.getD x17 (Int.toNat x3) []))))) 0 != 0)]]) x16 x17 a35_6)
 (none))
 (rec x0 x1 x2 (IntKind.wrap .i64 (x3 + 1)) a35_1 a35_2 a35_3 a35_4 a35_5 x9 x10 x11 x12 x13 x14 x15 x16 x17 a35_6))
 (none))
 (some (x0, x4, x5, x6, x7, x8, x9, x10, x11, x12, x13, x14, x15, x18))
def qFK : Nat -> Nat -> Nat -> Int -> Int -> List Int -> List Int -> Int -> List (List Int) -> List (List Int) -> Int -> Int -> Int -> Int -> Bool -> Nat -> List (List Int) -> Nat -> List (List Int) -> List (List Int × List Int) -> Option (Nat × List Int × List Int × Int × List (List Int) × List (List Int) × Int × Int × Int × Int × Bool × Nat × List (List Int) × List (List Int × List Int))
 | 0, _, _, _, _, _, _, _, _, _, _, _, _, _, _, _, _, _, _, _ => none
 | f + 1, x0, x1, x2, x3, x4, x5, x6, x7, x8, x9, x10, x11, x12, x13, x14, x15, x16, x17, x18 => qHQ (qFK f) x0 x1 x2 x3 x4 x5 x6 x7 x8 x9 x10 x11 x12 x13 x14 x15 x16 x17 x18
def qHP (rec : Nat -> Nat -> Int -> Int -> List Int -> List Int -> Int -> List (List Int) -> List (List Int) -> Nat -> List (List Int) -> Nat -> List (List Int) -> Option (Nat × List Int × List Int × Int × List (List Int) × List (List Int) × Nat × List (List Int))) (x0 x1 : Nat) (x2 x3 : Int) (x4 x5 : List Int) (x6 : Int) (x7 x8 : List (List Int)) (x9 : Nat) (x10 : List (List Int)) (x11 : Nat) (x12 : List (List Int)) : Option (Nat × List Int × List Int × Int × List (List Int) × List (List Int) × Nat × List (List Int)) :=
 br (decide (x3 < x2))
 (br (inB x3 x1)
 (br (List.headD (List.tail (List.tail (List.take 4 (List.getD x12 (Int.toNat x3) [])))) 0 == 1)
 (ob (qI7 (List.headD (List.tail (List.take 4 (List.getD x12 (Int.toNat x3) []))) 0) x4 x5 x6 x7 x8) fun a46 =>
 br (a46)
 (rec x0 x1 x2 (IntKind.wrap .i64 (x3 + 1)) x4 x5 x6 x7 x8 x9 x10 x11 x12)
 (br (decide ((x0 + 1) * 32 <= 140737488355328))
 (rec (x0 + 1) x1 x2 (IntKind.wrap .i64 (x3 + 1)) x4 x5 x6 x7 x8 (x0 + 1) (List.append (List.take x0 x10) [[List.headD (List.take 4 (List.getD x12 (Int.toNat x3) [])) 0, List.headD (List.tail (List.take 4 (List.getD x12 (Int.toNat x3) []))) 0, List.headD (List.tail (List.tail (List.take 4 (List.getD x12 (Int.toNat x3) [])))) 0, bi (List.headD (List.tail (List.tail (List.tail (List.take 4 (List.getD x12 (Int.toNat x3) []))))) 0 != 0)]]) x11 x12)
 (none)))
 (br (decide ((x0 + 1) * 32 <= 140737488355328))
 (rec (x0 + 1) x1 x2 (IntKind.wrap .i64 (x3 + 1)) x4 x5 x6 x7 x8 (x0 + 1) (List.append (List.take x0 x10) [[List.headD (List.take 4 (List.getD x12 (Int.toNat x3) [])) 0, List.headD (List.tail (List.take 4 (List.getD x12 (Int.toNat x3) []))) 0, List.headD (List.tail (List.tail (List.take 4 (List.getD x12 (Int.toNat x3) [])))) 0, bi (List.headD (List.tail (List.tail (List.tail (List.take 4 (List.getD x12 (Int.toNat x3) []))))) 0 != 0)]]) x11 x12)
 (none)))
 (none))
 (some (x0, x4, x5, x6, x7, x8, x9, x10))
def qEA : Nat -> Nat -> Nat -> Int -> Int -> List Int -> List Int -> Int -> List (List Int) -> List (List Int) -> Nat -> List (List Int) -> Nat -> List (List Int) -> Option (Nat × List Int × List Int × Int × List (List Int) × List (List Int) × Nat × List (List Int))
 | 0, _, _, _, _, _, _, _, _, _, _, _, _, _ => none
 | f + 1, x0, x1, x2, x3, x4, x5, x6, x7, x8, x9, x10, x11, x12 => qHP (qEA f) x0 x1 x2 x3 x4 x5 x6 x7 x8 x9 x10 x11 x12
def qD9 (x0 x1 : List Int) (x2 : Int) (x3 x4 : List (List Int)) : Option (Nat × List Int × List Int × Int × List (List Int) × List (List Int) × Nat × List (List Int)) :=
 ob (qHS x0 x1 x2 x3 x4) fun (a5_0, a5_1, a5_2, a5_3, a5_4, a5_5) =>
 ob (qGS ) fun (a11_0, a11_1) =>
 ob (qHA a11_0 a11_1 x0 x1 x2 x3 x4) fun (a13_0, a13_1, a13_2) =>
 ob (qFK qC 0 a13_0 (Int.ofNat a13_0) 0 x0 x1 x2 x3 x4 a5_0 a5_1 a5_2 a5_3 a5_4 0 [] a13_1 a13_2 a5_5) fun (a16_0, a16_1, a16_2, a16_3, a16_4, a16_5, _, _, a16_8, a16_9, _, a16_11, a16_12, _) =>
 ob (qI1 a16_8 a16_9 a16_1 a16_2 a16_3 a16_4 a16_5) fun (a30_0, a30_1, a30_2) =>
 ob (qEA qC a16_0 a30_0 (Int.ofNat a30_0) 0 a16_1 a16_2 a16_3 a16_4 a16_5 a16_11 a16_12 a30_1 a30_2) fun (a33_0, a33_1, a33_2, a33_3, a33_4, a33_5, a33_6, a33_7) =>
 some (a33_0, a33_1, a33_2, a33_3, a33_4, a33_5, a33_6, a33_7)
def qH4 (x0 x1 : List Int) (x2 x3 : Int) (x4 x5 : Int) (x6 : Bool) : Option (Bool) :=
 ob (qHx x0 x1 x2 x3 x4 x5 x6) fun (a7_0, a7_1, a7_2) =>
 ob (qHu a7_0 a7_1 a7_2 x2) fun a10 =>
 some (!a10)
def qH5 (rec : Nat -> Int -> List Int -> List Int -> Int -> Nat -> List (List Int) -> Option ((Bool) ⊕ (Unit))) (x0 : Nat) (x1 : Int) (x2 x3 : List Int) (x4 : Int) (x5 : Nat) (x6 : List (List Int)) : Option ((Bool) ⊕ (Unit)) :=
 br (decide (x1 < Int.ofNat x0))
 (br (inB x1 x0)
 (ob (qH4 x2 x3 x4 (List.headD (List.take 4 (List.getD x6 (Int.toNat x1) [])) 0) (List.headD (List.tail (List.take 4 (List.getD x6 (Int.toNat x1) []))) 0) (List.headD (List.tail (List.tail (List.take 4 (List.getD x6 (Int.toNat x1) [])))) 0) (List.headD (List.tail (List.tail (List.tail (List.take 4 (List.getD x6 (Int.toNat x1) []))))) 0 != 0)) fun a13 =>
 br (a13)
 (some (.inl (false)))
 (rec x0 (IntKind.wrap .i64 (x1 + 1)) x2 x3 x4 x5 x6))
 (none))
 (some (.inr ()))
def qFg : Nat -> Nat -> Int -> List Int -> List Int -> Int -> Nat -> List (List Int) -> Option ((Bool) ⊕ (Unit))
 | 0, _, _, _, _, _, _, _ => none
 | f + 1, x0, x1, x2, x3, x4, x5, x6 => qH5 (qFg f) x0 x1 x2 x3 x4 x5 x6
def qJZ (x0 x1 : List Int) (x2 : Int) : Option (Bool) :=
 ob (qHy x0 x1 x2) fun (a3_0, a3_1, a3_2) =>
 ob (qFg qC a3_0 0 x0 x1 x2 a3_1 a3_2) fun t6_2 =>
 sw t6_2 (fun a6 =>
 some (a6))
 (fun _ =>
 some (true))
def qJY (x0 x1 : List Int) (x2 x3 : Int) (x4 x5 : Int) (x6 : Bool) : Option (Bool) :=
 ob (qH4 x0 x1 x2 x3 x4 x5 x6) fun a7 =>
 br (!a7)
 (some (false))
 (br (x5 != 1)
 (some (true))
 (ob (qHx x0 x1 x2 x3 x4 x5 x6) fun (a8_0, a8_1, a8_2) =>
 ob (qHu a8_0 a8_1 a8_2 a8_2) fun a11 =>
 br (!a11)
 (some (true))
 (ob (qJZ a8_0 a8_1 a8_2) fun a12 =>
 some (!a12))))
def qH3 (rec : Nat -> Nat -> Int -> List Int -> List Int -> Int -> Nat -> List (List Int) -> Nat -> List (List Int) -> Option (Nat × Nat × List (List Int))) (x0 x1 : Nat) (x2 : Int) (x3 x4 : List Int) (x5 : Int) (x6 : Nat) (x7 : List (List Int)) (x8 : Nat) (x9 : List (List Int)) : Option (Nat × Nat × List (List Int)) :=
 br (decide (x2 < Int.ofNat x1))
 (br (inB x2 x1)
 (ob (qJY x3 x4 x5 (List.headD (List.take 4 (List.getD x9 (Int.toNat x2) [])) 0) (List.headD (List.tail (List.take 4 (List.getD x9 (Int.toNat x2) []))) 0) (List.headD (List.tail (List.tail (List.take 4 (List.getD x9 (Int.toNat x2) [])))) 0) (List.headD (List.tail (List.tail (List.tail (List.take 4 (List.getD x9 (Int.toNat x2) []))))) 0 != 0)) fun a16 =>
 br (a16)
 (br (inB x2 x1)
 (br (decide ((x0 + 1) * 32 <= 140737488355328))
 (rec (x0 + 1) x1 (IntKind.wrap .i64 (x2 + 1)) x3 x4 x5 (x0 + 1) (List.append (List.take x0 x7) [[List.headD (List.take 4 (List.getD x9 (Int.toNat x2) [])) 0, List.headD (List.tail (List.take 4 (List.getD x9 (Int.toNat x2) []))) 0, List.headD (List.tail (List.tail (List.take 4 (List.getD x9 (Int.toNat x2) [])))) 0, bi (List.headD (List.tail (List.tail (List.tail (List.take 4 (List.getD x9 (Int.toNat x2) []))))) 0 != 0)]]) x8 x9)
 (none))
 (none))
 (rec x0 x1 (IntKind.wrap .i64 (x2 + 1)) x3 x4 x5 x6 x7 x8 x9))
 (none))
 (some (x0, x6, x7))
def qFf : Nat -> Nat -> Nat -> Int -> List Int -> List Int -> Int -> Nat -> List (List Int) -> Nat -> List (List Int) -> Option (Nat × Nat × List (List Int))
 | 0, _, _, _, _, _, _, _, _, _, _ => none
 | f + 1, x0, x1, x2, x3, x4, x5, x6, x7, x8, x9 => qH3 (qFf f) x0 x1 x2 x3 x4 x5 x6 x7 x8 x9
def qJX (x0 x1 : List Int) (x2 : Int) : Option (Nat × Nat × List (List Int)) :=
 ob (qHy x0 x1 x2) fun (a3_0, a3_1, a3_2) =>
 ob (qFf qC 0 a3_0 0 x0 x1 x2 0 [] a3_1 a3_2) fun (a6_0, a6_1, a6_2) =>
 some (a6_0, a6_1, a6_2)
def qHX (x0 x1 : List Int) (x2 : Int) (x3 x4 : List (List Int)) : Option (Bool × List Int × List Int × Int × List (List Int) × List (List Int)) :=
 ob (qD9 x0 x1 x2 x3 x4) fun (a5_0, a5_1, a5_2, a5_3, a5_4, a5_5, _, _) =>
 some (Int.ofNat a5_0 == 0, a5_1, a5_2, a5_3, a5_4, a5_5)
def qLU (x0 : Int) : Option (ByteArray) :=
 ob (q9 x0) fun a1 =>
 br (a1 == 0)
 (some ({ data := #[] }))
 (ob (qCj a1) fun a2 =>
 br (inB a2 9)
 (ob (qAM x0) fun a3 =>
 br (a3 == 1)
 (br (decide (a1 > 8))
 (some (qFs [43, IntKind.wrap .u8 (qE2 { data := #[32, 80, 76, 78, 83, 71, 66, 82, 75] } (Int.toNat a2) + 32)]))
 (some (qFs [IntKind.wrap .u8 (qE2 { data := #[32, 80, 76, 78, 83, 71, 66, 82, 75] } (Int.toNat a2) + 32)])))
 (br (decide (a1 > 8))
 (some (qFs [43, qE2 { data := #[32, 80, 76, 78, 83, 71, 66, 82, 75] } (Int.toNat a2)]))
 (some (qFs [qE2 { data := #[32, 80, 76, 78, 83, 71, 66, 82, 75] } (Int.toNat a2)]))))
 (none))
def qFO (x0 : Int) : Option (ByteArray) :=
 br (decide (x0 < 0))
 (some ({ data := #[] }))
 (br (decide (x0 >= 81))
 (some ({ data := #[] }))
 (ob (qGV x0) fun a1 =>
 ob (qFm x0) fun a2 =>
 some (qFs [conv .i64 .u8 (IntKind.wrap .i64 (49 + a1)), conv .i64 .u8 (IntKind.wrap .i64 (97 + a2))])))
def qHa (x0 x1 x2 : Int) (x3 : Bool) : Option (ByteArray) :=
 ob (qDc x0 x1 x2 x3) fun a4 =>
 br (a4 != 0)
 (some ({ data := #[] }))
 (br (x2 != 0)
 (ob (qAh 0 x2) fun a5 =>
 ob (qLU a5) fun a6 =>
 br (qEg (ByteArray.size a6 + 1))
 (ob (qFO x1) fun a7 =>
 br (qEg (ByteArray.size { data := { toList := List.append (Array.toList (ByteArray.data a6)) (Array.toList (ByteArray.data { data := #[42] })) } } + ByteArray.size a7))
 (some ({ data := { toList := List.append (Array.toList (ByteArray.data { data := { toList := List.append (Array.toList (ByteArray.data a6)) (Array.toList (ByteArray.data { data := #[42] })) } })) (Array.toList (ByteArray.data a7)) } }))
 (none))
 (none))
 (br (x3)
 (ob (qFO x0) fun a5 =>
 ob (qFO x1) fun a6 =>
 br (qEg (ByteArray.size a5 + ByteArray.size a6))
 (br (qEg (ByteArray.size { data := { toList := List.append (Array.toList (ByteArray.data a5)) (Array.toList (ByteArray.data a6)) } } + 1))
 (some ({ data := { toList := List.append (Array.toList (ByteArray.data { data := { toList := List.append (Array.toList (ByteArray.data a5)) (Array.toList (ByteArray.data a6)) } })) (Array.toList (ByteArray.data { data := #[43] })) } }))
 (none))
 (none))
 (ob (qFO x0) fun a5 =>
 ob (qFO x1) fun a6 =>
 br (qEg (ByteArray.size a5 + ByteArray.size a6))
 (some ({ data := { toList := List.append (Array.toList (ByteArray.data a5)) (Array.toList (ByteArray.data a6)) } }))
 (none))))
def qXv (rec : Int -> Bool -> Int -> ByteArray -> Nat -> Option ((Int) ⊕ (Unit))) (x0 : Int) (x1 : Bool) (x2 : Int) (x3 : ByteArray) (x4 : Nat) : Option ((Int) ⊕ (Unit)) :=
 br (Nat.blt x4 (ByteArray.size x3))
 (br (Int.ofNat x4 == 0)
 (rec x0 x1 x2 x3 (x4 + qCx x3 x4))
 (br (qD3 x3 x4 != x0)
 (rec x0 x1 x2 x3 (x4 + qCx x3 x4))
 (br (x1)
 (ob (qCk (Int.ofNat x4)) fun a7 =>
 ob (qAh x2 a7) fun a8 =>
 some (.inl (a8)))
 (ob (qAh x2 (Int.ofNat x4)) fun a7 =>
 some (.inl (a7))))))
 (some (.inr ()))
def qHe : Nat -> Int -> Bool -> Int -> ByteArray -> Nat -> Option ((Int) ⊕ (Unit))
 | 0, _, _, _, _, _ => none
 | f + 1, x0, x1, x2, x3, x4 => qXv (qHe f) x0 x1 x2 x3 x4
def qJI (x0 : Int) (x1 : Bool) : Option (Int) :=
 br (decide (x0 >= 97))
 (br (decide (x0 <= 122))
 (ob (qHe qC (IntKind.wrap .i32 (x0 - 32)) x1 1 ({ data := #[32, 80, 76, 78, 83, 71, 66, 82, 75] }) 0) fun t2_2 =>
 sw t2_2 (fun a2 =>
 some (a2))
 (fun _ =>
 some (0)))
 (ob (qHe qC x0 x1 0 ({ data := #[32, 80, 76, 78, 83, 71, 66, 82, 75] }) 0) fun t2_2 =>
 sw t2_2 (fun a2 =>
 some (a2))
 (fun _ =>
 some (0))))
 (ob (qHe qC x0 x1 0 ({ data := #[32, 80, 76, 78, 83, 71, 66, 82, 75] }) 0) fun t2_2 =>
 sw t2_2 (fun a2 =>
 some (a2))
 (fun _ =>
 some (0)))
def qEF (x0 x1 : Int) : Option (Int × Bool) :=
 ob (qCT (conv .i32 .i64 (IntKind.wrap .i32 (x0 - 49))) (conv .i32 .i64 (IntKind.wrap .i32 (x1 - 97)))) fun a2 =>
 some (a2, decide (a2 >= 0))
def qHZ (rec : Nat -> Int -> Int -> Int -> Bool -> Nat -> List Int -> ByteArray -> Nat -> Option (Nat × Int × Int × Int × Bool × Nat × List Int)) (x0 : Nat) (x1 x2 x3 : Int) (x4 : Bool) (x5 : Nat) (x6 : List Int) (x7 : ByteArray) (x8 : Nat) : Option (Nat × Int × Int × Int × Bool × Nat × List Int) :=
 br (Nat.blt x8 (ByteArray.size x7))
 (br (Int.ofNat x0 == 6)
 (some (x0, x1, x2, x3, x4, x5, x6))
 (br (decide ((x0 + 1) * 4 <= 140737488355328))
 (rec (x0 + 1) x1 x2 x3 x4 (x0 + 1) (List.append (List.take x0 x6) [qD3 x7 x8]) x7 (x8 + qCx x7 x8))
 (none)))
 (some (x0, x1, x2, x3, x4, x5, x6))
def qEE : Nat -> Nat -> Int -> Int -> Int -> Bool -> Nat -> List Int -> ByteArray -> Nat -> Option (Nat × Int × Int × Int × Bool × Nat × List Int)
 | 0, _, _, _, _, _, _, _, _, _ => none
 | f + 1, x0, x1, x2, x3, x4, x5, x6, x7, x8 => qHZ (qEE f) x0 x1 x2 x3 x4 x5 x6 x7 x8
def qFN (x0 : ByteArray) : Option (Int × Int × Int × Bool × Int) :=
 br (decide (Int.ofNat (ByteArray.size x0) <= qEf))
 (ob (qEE qC 0 0 0 0 false 0 [] x0 0) fun (a1_0, _, _, _, _, _, a1_6) =>
 br (Int.ofNat a1_0 != 4)
 (br (Int.ofNat a1_0 != 5)
 (some (0, 0, 0, false, 70))
 (br (inB 1 a1_0)
 (br (List.getD a1_6 1 0 == 42)
 (br (inB 0 a1_0)
 (ob (qJI (List.getD a1_6 0 0) false) fun a8 =>
 br (inB 2 a1_0)
 (br (inB 3 a1_0)
 (ob (qEF (List.getD a1_6 2 0) (List.getD a1_6 3 0)) fun (a9_0, a9_1) =>
 ob (qAM a8) fun a11 =>
 br (a11 != 0)
 (some (0, 0, 0, false, 70))
 (br (a8 == 8)
 (some (0, 0, 0, false, 70))
 (br (!a9_1)
 (some (0, 0, 0, false, 70))
 (br (Int.ofNat a1_0 != 4)
 (some (0, 0, 0, false, 70))
 (some (0, a9_0, a8, false, 0))))))
 (none))
 (none))
 (none))
 (br (inB 0 a1_0)
 (br (inB 1 a1_0)
 (ob (qEF (List.getD a1_6 0 0) (List.getD a1_6 1 0)) fun (a8_0, a8_1) =>
 br (inB 2 a1_0)
 (br (inB 3 a1_0)
 (ob (qEF (List.getD a1_6 2 0) (List.getD a1_6 3 0)) fun (a10_0, a10_1) =>
 br (!a8_1)
 (some (0, 0, 0, false, 70))
 (br (!a10_1)
 (some (0, 0, 0, false, 70))
 (br (a8_0 == a10_0)
 (some (0, 0, 0, false, 70))
 (br (Int.ofNat a1_0 == 5)
 (br (inB 4 a1_0)
 (br (List.getD a1_6 4 0 != 43)
 (some (0, 0, 0, false, 70))
 (some (a8_0, a10_0, 0, Int.ofNat a1_0 == 5, 0)))
 (none))
 (some (a8_0, a10_0, 0, Int.ofNat a1_0 == 5, 0))))))
 (none))
 (none))
 (none))
 (none)))
 (none)))
 (br (inB 1 a1_0)
 (br (List.getD a1_6 1 0 == 42)
 (br (inB 0 a1_0)
 (ob (qJI (List.getD a1_6 0 0) false) fun a8 =>
 br (inB 2 a1_0)
 (br (inB 3 a1_0)
 (ob (qEF (List.getD a1_6 2 0) (List.getD a1_6 3 0)) fun (a9_0, a9_1) =>
 ob (qAM a8) fun a11 =>
 br (a11 != 0)
 (some (0, 0, 0, false, 70))
 (br (a8 == 8)
 (some (0, 0, 0, false, 70))
 (br (!a9_1)
 (some (0, 0, 0, false, 70))
 (br (Int.ofNat a1_0 != 4)
 (some (0, 0, 0, false, 70))
 (some (0, a9_0, a8, false, 0))))))
 (none))
 (none))
 (none))
 (br (inB 0 a1_0)
 (br (inB 1 a1_0)
 (ob (qEF (List.getD a1_6 0 0) (List.getD a1_6 1 0)) fun (a8_0, a8_1) =>
 br (inB 2 a1_0)
 (br (inB 3 a1_0)
 (ob (qEF (List.getD a1_6 2 0) (List.getD a1_6 3 0)) fun (a10_0, a10_1) =>
 br (!a8_1)
 (some (0, 0, 0, false, 70))
 (br (!a10_1)
 (some (0, 0, 0, false, 70))
 (br (a8_0 == a10_0)
 (some (0, 0, 0, false, 70))
 (br (Int.ofNat a1_0 == 5)
 (br (inB 4 a1_0)
 (br (List.getD a1_6 4 0 != 43)
 (some (0, 0, 0, false, 70))
 (some (a8_0, a10_0, 0, Int.ofNat a1_0 == 5, 0)))
 (none))
 (some (a8_0, a10_0, 0, Int.ofNat a1_0 == 5, 0))))))
 (none))
 (none))
 (none))
 (none)))
 (none)))
 (none)
def qMY (rec : Int -> Nat -> Nat -> Nat -> Int -> Int -> Nat -> Int -> Int -> Nat -> List Int -> List Int -> List Int -> Int -> Int -> Nat -> List Int -> List Int -> Int -> Nat -> List (List Int) -> Nat -> List (List Int) -> List (List Int × List Int) -> Nat -> List Int -> List Int -> List Int -> Int -> List (List Int) -> List (List Int) -> Nat -> List (List Int) -> Option ((Bool × Int × Nat × Nat × Int × Int × Nat × List Int × List Int × List Int × Int × Int × Nat × Nat × List (List Int) × Nat × List Int × List Int × List Int × Int × List (List Int) × List (List Int) × Nat × List (List Int)) ⊕ (Int × Nat × Nat × Int × Int × Nat × List Int × List Int × List Int × Int × Int × Nat × Nat × List (List Int) × Nat × List Int × List Int × List Int × Int × List (List Int) × List (List Int) × Nat × List (List Int)))) (x0 : Int) (x1 x2 x3 : Nat) (x4 x5 : Int) (x6 : Nat) (x7 x8 : Int) (x9 : Nat) (x10 x11 x12 : List Int) (x13 x14 : Int) (x15 : Nat) (x16 x17 : List Int) (x18 : Int) (x19 : Nat) (x20 : List (List Int)) (x21 : Nat) (x22 : List (List Int)) (x23 : List (List Int × List Int)) (x24 : Nat) (x25 x26 x27 : List Int) (x28 : Int) (x29 x30 : List (List Int)) (x31 : Nat) (x32 : List (List Int)) : Option ((Bool × Int × Nat × Nat × Int × Int × Nat × List Int × List Int × List Int × Int × Int × Nat × Nat × List (List Int) × Nat × List Int × List Int × List Int × Int × List (List Int) × List (List Int) × Nat × List (List Int)) ⊕ (Int × Nat × Nat × Int × Int × Nat × List Int × List Int × List Int × Int × Int × Nat × Nat × List (List Int) × Nat × List Int × List Int × List Int × Int × List (List Int) × List (List Int) × Nat × List (List Int))) :=
 br (decide (x8 < x7))
 (br (inB x8 x6)
 (ob (qHa (List.headD (List.take 4 (List.getD x20 (Int.toNat x8) [])) 0) (List.headD (List.tail (List.take 4 (List.getD x20 (Int.toNat x8) []))) 0) (List.headD (List.tail (List.tail (List.take 4 (List.getD x20 (Int.toNat x8) [])))) 0) (List.headD (List.tail (List.tail (List.tail (List.take 4 (List.getD x20 (Int.toNat x8) []))))) 0 != 0)) fun a100 =>
 ob (qFN a100) fun (a101_0, a101_1, a101_2, a101_3, a101_4) =>
 br (inB x8 x2)
 (br (!(List.headD (List.take 4 (List.getD x20 (Int.toNat x8) [])) 0 == List.headD (List.take 4 (List.getD x22 (Int.toNat x8) [])) 0 && (List.headD (List.tail (List.take 4 (List.getD x20 (Int.toNat x8) []))) 0 == List.headD (List.tail (List.take 4 (List.getD x22 (Int.toNat x8) []))) 0 && (List.headD (List.tail (List.tail (List.take 4 (List.getD x20 (Int.toNat x8) [])))) 0 == List.headD (List.tail (List.tail (List.take 4 (List.getD x22 (Int.toNat x8) [])))) 0 && (List.headD (List.tail (List.tail (List.tail (List.take 4 (List.getD x20 (Int.toNat x8) []))))) 0 != 0) == (List.headD (List.tail (List.tail (List.tail (List.take 4 (List.getD x22 (Int.toNat x8) []))))) 0 != 0)))))
 (some (.inl (false, x0, x1, x3, x4, x5, x9, x10, x11, x12, x13, x14, x15, x19, x20, x24, x25, x26, x27, x28, x29, x30, x31, x32)))
 (br (List.headD (qAe x23 [qAR a100] [0]) 0 != 0)
 (some (.inl (false, x0, x1, x3, x4, x5, x9, x10, x11, x12, x13, x14, x15, x19, x20, x24, x25, x26, x27, x28, x29, x30, x31, x32)))
 (br (a101_4 != 0)
 (some (.inl (false, x0, x1, x3, x4, x5, x9, x10, x11, x12, x13, x14, x15, x19, x20, x24, x25, x26, x27, x28, x29, x30, x31, x32)))
 (br (!(a101_0 == List.headD (List.take 4 (List.getD x20 (Int.toNat x8) [])) 0 && (a101_1 == List.headD (List.tail (List.take 4 (List.getD x20 (Int.toNat x8) []))) 0 && (a101_2 == List.headD (List.tail (List.tail (List.take 4 (List.getD x20 (Int.toNat x8) [])))) 0 && a101_3 == (List.headD (List.tail (List.tail (List.tail (List.take 4 (List.getD x20 (Int.toNat x8) []))))) 0 != 0)))))
 (some (.inl (false, x0, x1, x3, x4, x5, x9, x10, x11, x12, x13, x14, x15, x19, x20, x24, x25, x26, x27, x28, x29, x30, x31, x32)))
 (ob (qDS (List.headD (List.take 4 (List.getD x20 (Int.toNat x8) [])) 0) (List.headD (List.tail (List.take 4 (List.getD x20 (Int.toNat x8) []))) 0) (List.headD (List.tail (List.tail (List.take 4 (List.getD x20 (Int.toNat x8) [])))) 0) (List.headD (List.tail (List.tail (List.tail (List.take 4 (List.getD x20 (Int.toNat x8) []))))) 0 != 0) x14 x15 x26 x27 x28 x29 x30 x31 x32) fun t106_2 =>
 sw t106_2 (fun (a106_0, a106_1, a106_2, a106_3, a106_4, a106_5, a106_6, a106_7, a106_8, a106_9) =>
 br (!a106_0)
 (some (.inl (false, x0, x1, x3, x4, x5, x9, x10, x11, x12, x13, a106_1, a106_2, x19, x20, x24, x25, a106_3, a106_4, a106_5, a106_6, a106_7, a106_8, a106_9)))
 (ob (qDw a106_3 a106_4 a106_5) fun a116 =>
 br (a116 != 0)
 (some (.inl (false, x0, x1, x3, x4, x5, x9, x10, x11, x12, x13, a106_1, a106_2, x19, x20, x24, x25, a106_3, a106_4, a106_5, a106_6, a106_7, a106_8, a106_9)))
 (ob (qIu a106_1 a106_2 a106_3 a106_4 a106_5 a106_6 a106_7 a106_8 a106_9) fun a117 =>
 ob (qC1 a106_3 a106_4 a106_5) fun a118 =>
 br (a117 != a118)
 (some (.inl (false, x0, x1, x3, x4, x5, x9, x10, x11, x12, x13, a106_1, a106_2, x19, x20, x24, x25, a106_3, a106_4, a106_5, a106_6, a106_7, a106_8, a106_9)))
 (ob (qE5 a106_1 a106_2 a106_3 a106_4 a106_5 a106_6 a106_7 a106_8 a106_9) fun (a119_0, a119_1, a119_2, a119_3, a119_4, a119_5, a119_6, a119_7, a119_8, a119_9) =>
 br (!a119_0)
 (some (.inl (false, x0, x1, x3, x4, x5, x9, x10, x11, x12, x13, a119_1, a119_2, x19, x20, x24, x25, a119_3, a119_4, a119_5, a119_6, a119_7, a119_8, a119_9)))
 (br (!(a119_3 == x16 && (a119_4 == x17 && a119_5 == x18)))
 (some (.inl (false, x0, x1, x3, x4, x5, x9, x10, x11, x12, x13, a119_1, a119_2, x19, x20, x24, x25, a119_3, a119_4, a119_5, a119_6, a119_7, a119_8, a119_9)))
 (rec x0 x1 x2 x3 x4 x5 x6 x7 (IntKind.wrap .i64 (x8 + 1)) x9 x10 x11 x12 x13 a119_1 a119_2 x16 x17 x18 x19 x20 x21 x22 (q8 x23 [qAR a100] [1]) x24 x25 a119_3 a119_4 a119_5 a119_6 a119_7 a119_8 a119_9))))))
 (fun (a106_0, a106_1, a106_2, a106_3, a106_4, a106_5, a106_6, a106_7, a106_8, a106_9) =>
 br (!a106_0)
 (some (.inl (false, x0, x1, x3, x4, x5, x9, x10, x11, x12, x13, a106_1, a106_2, x19, x20, x24, x25, a106_3, a106_4, a106_5, a106_6, a106_7, a106_8, a106_9)))
 (ob (qDw a106_3 a106_4 a106_5) fun a116 =>
 br (a116 != 0)
 (some (.inl (false, x0, x1, x3, x4, x5, x9, x10, x11, x12, x13, a106_1, a106_2, x19, x20, x24, x25, a106_3, a106_4, a106_5, a106_6, a106_7, a106_8, a106_9)))
 (ob (qIu a106_1 a106_2 a106_3 a106_4 a106_5 a106_6 a106_7 a106_8 a106_9) fun a117 =>
 ob (qC1 a106_3 a106_4 a106_5) fun a118 =>
 br (a117 != a118)
 (some (.inl (false, x0, x1, x3, x4, x5, x9, x10, x11, x12, x13, a106_1, a106_2, x19, x20, x24, x25, a106_3, a106_4, a106_5, a106_6, a106_7, a106_8, a106_9)))
 (ob (qE5 a106_1 a106_2 a106_3 a106_4 a106_5 a106_6 a106_7 a106_8 a106_9) fun (a119_0, a119_1, a119_2, a119_3, a119_4, a119_5, a119_6, a119_7, a119_8, a119_9) =>
 br (!a119_0)
 (some (.inl (false, x0, x1, x3, x4, x5, x9, x10, x11, x12, x13, a119_1, a119_2, x19, x20, x24, x25, a119_3, a119_4, a119_5, a119_6, a119_7, a119_8, a119_9)))
 (br (!(a119_3 == x16 && (a119_4 == x17 && a119_5 == x18)))
 (some (.inl (false, x0, x1, x3, x4, x5, x9, x10, x11, x12, x13, a119_1, a119_2, x19, x20, x24, x25, a119_3, a119_4, a119_5, a119_6, a119_7, a119_8, a119_9)))
 (rec x0 x1 x2 x3 x4 x5 x6 x7 (IntKind.wrap .i64 (x8 + 1)) x9 x10 x11 x12 x13 a119_1 a119_2 x16 x17 x18 x19 x20 x21 x22 (q8 x23 [qAR a100] [1]) x24 x25 a119_3 a119_4 a119_5 a119_6 a119_7 a119_8 a119_9)))))))))))
 (none))
 (none))
 (some (.inr (x0, x1, x3, x4, x5, x9, x10, x11, x12, x13, x14, x15, x19, x20, x24, x25, x26, x27, x28, x29, x30, x31, x32)))
def qDr : Nat -> Int -> Nat -> Nat -> Nat -> Int -> Int -> Nat -> Int -> Int -> Nat -> List Int -> List Int -> List Int -> Int -> Int -> Nat -> List Int -> List Int -> Int -> Nat -> List (List Int) -> Nat -> List (List Int) -> List (List Int × List Int) -> Nat -> List Int -> List Int -> List Int -> Int -> List (List Int) -> List (List Int) -> Nat -> List (List Int) -> Option ((Bool × Int × Nat × Nat × Int × Int × Nat × List Int × List Int × List Int × Int × Int × Nat × Nat × List (List Int) × Nat × List Int × List Int × List Int × Int × List (List Int) × List (List Int) × Nat × List (List Int)) ⊕ (Int × Nat × Nat × Int × Int × Nat × List Int × List Int × List Int × Int × Int × Nat × Nat × List (List Int) × Nat × List Int × List Int × List Int × Int × List (List Int) × List (List Int) × Nat × List (List Int)))
 | 0, _, _, _, _, _, _, _, _, _, _, _, _, _, _, _, _, _, _, _, _, _, _, _, _, _, _, _, _, _, _, _, _, _ => none
 | f + 1, x0, x1, x2, x3, x4, x5, x6, x7, x8, x9, x10, x11, x12, x13, x14, x15, x16, x17, x18, x19, x20, x21, x22, x23, x24, x25, x26, x27, x28, x29, x30, x31, x32 => qMY (qDr f) x0 x1 x2 x3 x4 x5 x6 x7 x8 x9 x10 x11 x12 x13 x14 x15 x16 x17 x18 x19 x20 x21 x22 x23 x24 x25 x26 x27 x28 x29 x30 x31 x32
def qMZ (rec : Nat -> Int -> Int -> Nat -> List Int -> List Int -> List Int -> Int -> Int -> Nat -> Nat -> List Int -> List Int -> List Int -> Int -> List (List Int) -> List (List Int) -> Nat -> List (List Int) -> Option ((Bool × Nat × List Int × List Int × List Int × Int × Int × Nat × List Int × List Int × Int × List (List Int) × List (List Int) × Nat × List (List Int)) ⊕ (Nat × List Int × List Int × List Int × Int × Int × Nat × List Int × List Int × Int × List (List Int) × List (List Int) × Nat × List (List Int)))) (x0 : Nat) (x1 x2 : Int) (x3 : Nat) (x4 x5 x6 : List Int) (x7 x8 : Int) (x9 x10 : Nat) (x11 x12 x13 : List Int) (x14 : Int) (x15 x16 : List (List Int)) (x17 : Nat) (x18 : List (List Int)) : Option ((Bool × Nat × List Int × List Int × List Int × Int × Int × Nat × List Int × List Int × Int × List (List Int) × List (List Int) × Nat × List (List Int)) ⊕ (Nat × List Int × List Int × List Int × Int × Int × Nat × List Int × List Int × Int × List (List Int) × List (List Int) × Nat × List (List Int))) :=
 br (decide (x2 < x1))
 (br (inB x2 x0)
 (ob (qD9 x12 x13 x14 x15 x16) fun (a56_0, a56_1, a56_2, a56_3, a56_4, a56_5, a56_6, a56_7) =>
 ob (qJX x12 x13 x14) fun (a64_0, a64_1, a64_2) =>
 br (Int.ofNat a56_0 != Int.ofNat a64_0)
 (some (.inl (false, x3, x4, x5, x6, x7, x8, x9, a56_1, a56_2, a56_3, a56_4, a56_5, x17, x18)))
 (ob (qDr qC (List.getD x11 (Int.toNat x2) 0) a56_0 a64_0 x0 x1 x2 a56_0 (Int.ofNat a56_0) 0 x3 x4 x5 x6 x7 x8 x9 x12 x13 x14 a56_6 a56_7 a64_1 a64_2 [] x10 x11 a56_1 a56_2 a56_3 a56_4 a56_5 x17 x18) fun t67_2 =>
 sw t67_2 (fun (a67_0, _, _, _, _, _, a67_6, a67_7, a67_8, a67_9, a67_10, a67_11, a67_12, _, _, _, _, a67_17, a67_18, a67_19, a67_20, a67_21, a67_22, a67_23) =>
 some (.inl (a67_0, a67_6, a67_7, a67_8, a67_9, a67_10, a67_11, a67_12, a67_17, a67_18, a67_19, a67_20, a67_21, a67_22, a67_23)))
 (fun (a67_0, a67_1, a67_2, a67_3, a67_4, a67_5, a67_6, a67_7, a67_8, a67_9, a67_10, a67_11, _, a67_13, a67_14, a67_15, a67_16, a67_17, a67_18, a67_19, a67_20, a67_21, a67_22) =>
 ob (qHX a67_16 a67_17 a67_18 a67_19 a67_20) fun (a90_0, a90_1, a90_2, a90_3, a90_4, a90_5) =>
 br (!a90_0 == (Int.ofNat a67_1 == 0))
 (some (.inl (false, a67_5, a67_6, a67_7, a67_8, a67_9, a67_10, a67_11, a90_1, a90_2, a90_3, a90_4, a90_5, a67_21, a67_22)))
 (br (Int.ofNat a67_1 == 0)
 (some (.inr (a67_5, a67_6, a67_7, a67_8, a67_9, a67_10, a67_11, a90_1, a90_2, a90_3, a90_4, a90_5, a67_21, a67_22)))
 (br (decide (a67_0 < 0))
 (some (.inr (a67_5, a67_6, a67_7, a67_8, a67_9, a67_10, a67_11, a90_1, a90_2, a90_3, a90_4, a90_5, a67_21, a67_22)))
 (br (decide (Int.ofNat a67_1 = 0))
 (none)
 (br (inB (Int.tmod a67_0 (Int.ofNat a67_1)) a67_1)
 (ob (qDS (List.headD (List.take 4 (List.getD a67_13 (Int.toNat (Int.tmod a67_0 (Int.ofNat a67_1))) [])) 0) (List.headD (List.tail (List.take 4 (List.getD a67_13 (Int.toNat (Int.tmod a67_0 (Int.ofNat a67_1))) []))) 0) (List.headD (List.tail (List.tail (List.take 4 (List.getD a67_13 (Int.toNat (Int.tmod a67_0 (Int.ofNat a67_1))) [])))) 0) (List.headD (List.tail (List.tail (List.tail (List.take 4 (List.getD a67_13 (Int.toNat (Int.tmod a67_0 (Int.ofNat a67_1))) []))))) 0 != 0) a67_10 a67_11 a90_1 a90_2 a90_3 a90_4 a90_5 a67_21 a67_22) fun t96_2 =>
 sw t96_2 (fun (_, a96_1, a96_2, a96_3, a96_4, a96_5, a96_6, a96_7, a96_8, a96_9) =>
 rec a67_2 a67_3 (IntKind.wrap .i64 (a67_4 + 1)) a67_5 a67_6 a67_7 a67_8 a67_9 a96_1 a96_2 a67_14 a67_15 a96_3 a96_4 a96_5 a96_6 a96_7 a96_8 a96_9)
 (fun (_, a96_1, a96_2, a96_3, a96_4, a96_5, a96_6, a96_7, a96_8, a96_9) =>
 rec a67_2 a67_3 (IntKind.wrap .i64 (a67_4 + 1)) a67_5 a67_6 a67_7 a67_8 a67_9 a96_1 a96_2 a67_14 a67_15 a96_3 a96_4 a96_5 a96_6 a96_7 a96_8 a96_9))
 (none))))))))
 (none))
 (some (.inr (x3, x4, x5, x6, x7, x8, x9, x12, x13, x14, x15, x16, x17, x18)))
def qCV : Nat -> Nat -> Int -> Int -> Nat -> List Int -> List Int -> List Int -> Int -> Int -> Nat -> Nat -> List Int -> List Int -> List Int -> Int -> List (List Int) -> List (List Int) -> Nat -> List (List Int) -> Option ((Bool × Nat × List Int × List Int × List Int × Int × Int × Nat × List Int × List Int × Int × List (List Int) × List (List Int) × Nat × List (List Int)) ⊕ (Nat × List Int × List Int × List Int × Int × Int × Nat × List Int × List Int × Int × List (List Int) × List (List Int) × Nat × List (List Int)))
 | 0, _, _, _, _, _, _, _, _, _, _, _, _, _, _, _, _, _, _, _ => none
 | f + 1, x0, x1, x2, x3, x4, x5, x6, x7, x8, x9, x10, x11, x12, x13, x14, x15, x16, x17, x18 => qMZ (qCV f) x0 x1 x2 x3 x4 x5 x6 x7 x8 x9 x10 x11 x12 x13 x14 x15 x16 x17 x18
def qRm (rec : Nat -> List Int -> List Int -> List Int -> Int -> Int -> Nat -> List Int -> List Int -> Int -> List (List Int) -> List (List Int) -> Nat -> List (List Int) -> Option (Nat × List Int × List Int × List Int × Int × Int × Nat × List Int × List Int × Int × List (List Int) × List (List Int) × Nat × List (List Int))) (x0 : Nat) (x1 x2 x3 : List Int) (x4 x5 : Int) (x6 : Nat) (x7 x8 : List Int) (x9 : Int) (x10 x11 : List (List Int)) (x12 : Nat) (x13 : List (List Int)) : Option (Nat × List Int × List Int × List Int × Int × Int × Nat × List Int × List Int × Int × List (List Int) × List (List Int) × Nat × List (List Int)) :=
 ob (qE5 x5 x6 x7 x8 x9 x10 x11 x12 x13) fun (a65_0, a65_1, a65_2, a65_3, a65_4, a65_5, a65_6, a65_7, a65_8, a65_9) =>
 br (a65_0)
 (rec x0 x1 x2 x3 x4 a65_1 a65_2 a65_3 a65_4 a65_5 a65_6 a65_7 a65_8 a65_9)
 (some (x0, x1, x2, x3, x4, a65_1, a65_2, a65_3, a65_4, a65_5, a65_6, a65_7, a65_8, a65_9))
def qIV : Nat -> Nat -> List Int -> List Int -> List Int -> Int -> Int -> Nat -> List Int -> List Int -> Int -> List (List Int) -> List (List Int) -> Nat -> List (List Int) -> Option (Nat × List Int × List Int × List Int × Int × Int × Nat × List Int × List Int × Int × List (List Int) × List (List Int) × Nat × List (List Int))
 | 0, _, _, _, _, _, _, _, _, _, _, _, _, _, _ => none
 | f + 1, x0, x1, x2, x3, x4, x5, x6, x7, x8, x9, x10, x11, x12, x13 => qRm (qIV f) x0 x1 x2 x3 x4 x5 x6 x7 x8 x9 x10 x11 x12 x13
def qJu (x0 x1 : List Int) (x2 : Int) (x3 x4 x5 : Nat) (x6 : List Int) : Option (Bool) :=
 ob (qIi ) fun (a7_0, a7_1, a7_2) =>
 ob (qD0 a7_0 a7_1 a7_2) fun (a10_0, a10_1, a10_2, a10_3, a10_4) =>
 ob (qD9 a10_0 a10_1 a10_2 a10_3 a10_4) fun (a15_0, _, _, _, _, _, _, _) =>
 br (Int.ofNat a15_0 != 30)
 (some (false))
 (ob (qIi ) fun (a23_0, a23_1, a23_2) =>
 ob (qDw a23_0 a23_1 a23_2) fun a26 =>
 br (a26 != 0)
 (some (false))
 (ob (qDw x0 x1 x2) fun a27 =>
 br (a27 != 0)
 (some (true))
 (br (decide (Int.ofNat x4 > 12))
 (some (true))
 (ob (qIv x0 x1 x2) fun (a28_0, a28_1, a28_2, a28_3, a28_4, a28_5, a28_6, a28_7, a28_8) =>
 br (decide ((1 + x4) * 8 <= 140737488355328))
 (ob (qCV qC (1 + x4) (Int.ofNat (1 + x4)) 0 x5 x6 x0 x1 x2 a28_0 a28_1 (1 + x4) (0 :: List.take x4 (List.drop x3 x6)) a28_2 a28_3 a28_4 a28_5 a28_6 a28_7 a28_8) fun t37_2 =>
 sw t37_2 (fun (a37_0, _, _, _, _, _, _, _, _, _, _, _, _, _, _) =>
 some (a37_0))
 (fun (a37_0, a37_1, a37_2, a37_3, a37_4, a37_5, a37_6, a37_7, a37_8, a37_9, a37_10, a37_11, a37_12, a37_13) =>
 ob (qIV qC a37_0 a37_1 a37_2 a37_3 a37_4 a37_5 a37_6 a37_7 a37_8 a37_9 a37_10 a37_11 a37_12 a37_13) fun (_, _, a51_2, a51_3, a51_4, a51_5, a51_6, a51_7, a51_8, a51_9, a51_10, a51_11, a51_12, a51_13) =>
 br (a51_7 == a51_2 && (a51_8 == a51_3 && a51_9 == a51_4))
 (ob (qKW a51_5 a51_6 a51_7 a51_8 a51_9 a51_10 a51_11 a51_12 a51_13) fun a65 =>
 some (a65 == 0))
 (some (false))))
 (none)))))
end Go.Kk.Pl
