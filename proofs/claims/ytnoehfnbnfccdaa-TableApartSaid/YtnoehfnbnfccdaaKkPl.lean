/- Printed by a tool of this project (KkGen): the plain functions that the program's code comes to. -/
import Derived.Test.YtnoehfnbnfccdaaKkE
namespace Go.Kk.Pl
def table_New (x0 : Int) : Option ((Int) ⊕ (Int × Nat × Int × Nat × List (List Int))) :=
 br (decide (x0 < 1))
 (some (.inl (1)))
 (br (decide (x0 > 65536))
 (some (.inl (1)))
 (br (decide (0 ≤ x0))
 (br (decide (x0 ≤ x0))
 (br (decide (160 * x0 ≤ 281474976710656))
 (some (.inr (0, Int.toNat x0, 0, Int.toNat x0, List.replicate (Int.toNat x0) [0, 0, 0, 0, 0, 0, 0, 0, 0, 0, 0, 0, 0, 0, 0, 0, 0, 0, 0, 0, 0, 0, 0, 0, 0, 0, 0, 0, 0, 0, 0, 0, 0, 0, 0, 0, 0, 0, 0, 0, 0, 0, 0, 0, 0, 0, 0, 0, 0, 0, 0, 0, 0, 0, 0, 0, 0, 0, 0, 0, 0, 0, 0, 0, 0, 0, 0, 0, 0, 0, 0, 0, 0, 0, 0, 0, 0, 0, 0, 0, 0, 0, 0, 0, 0, 0, 0, 0, 0, 0, 0, 0, 0, 0, 0, 0, 0, 0, 0, 0, 0, 0, 0, 0, 0, 0])))
 (none))
 (none))
 (none)))
def set_Square (x0 x1 : Int) : Option (Int) :=
 br (decide (x0 < 0))
 (some (-1))
 (br (decide (x0 > 8))
 (some (-1))
 (br (decide (x1 < 0))
 (some (-1))
 (br (decide (x1 > 8))
 (some (-1))
 (some (IntKind.wrap .i64 (IntKind.wrap .i64 (9 * x0) + x1))))))
def board_Start_1 (x0 x1 x2 : Int) : Option (Int) :=
 br (x1 == 1)
 (ob (set_Square x2 x0) fun a3 =>
 some (a3))
 (ob (set_Square x2 (IntKind.wrap .i64 (8 - x0))) fun a3 =>
 some (a3))
def piece_Of (x0 x1 : Int) : Option (Int) :=
 br (x0 != 0)
 (br (x0 != 1)
 (some (0))
 (br (decide (x1 < 1))
 (some (0))
 (br (decide (x1 > 15))
 (some (0))
 (br (x1 == 13)
 (some (0))
 (some (conv .i64 .i8 (IntKind.wrap .i64 (IntKind.wrap .i64 (16 * x0) + x1))))))))
 (br (decide (x1 < 1))
 (some (0))
 (br (decide (x1 > 15))
 (some (0))
 (br (x1 == 13)
 (some (0))
 (some (conv .i64 .i8 (IntKind.wrap .i64 (IntKind.wrap .i64 (16 * x0) + x1)))))))
def board_Startl7s (rec : Int → Int → List Int → List Int → Int → List Int → List Int → Int → List Int → Int → Option (Int × List Int × List Int × Int × List Int × List Int × Int × List Int)) (x0 x1 : Int) (x2 x3 : List Int) (x4 : Int) (x5 x6 : List Int) (x7 : Int) (x8 : List Int) (x9 : Int) : Option (Int × List Int × List Int × Int × List Int × List Int × Int × List Int) :=
 br (decide (x1 < 2))
 (ob (board_Start_1 0 x1 x9) fun a18 =>
 br (inB x9 9)
 (ob (piece_Of x1 (List.getD x8 (Int.toNat x9) 0)) fun a19 =>
 br (inB a18 81)
 (ob (board_Start_1 2 x1 x9) fun a20 =>
 ob (piece_Of x1 1) fun a21 =>
 br (inB a20 81)
 (rec x0 (IntKind.wrap .i64 (x1 + 1)) x2 x3 x4 (List.set (List.set x5 (Int.toNat a18) a19) (Int.toNat a20) a21) x6 x7 x8 x9)
 (none))
 (none))
 (none))
 (some (x0, x2, x3, x4, x5, x6, x7, x8))
def board_Startl7 : Nat → Int → Int → List Int → List Int → Int → List Int → List Int → Int → List Int → Int → Option (Int × List Int × List Int × Int × List Int × List Int × Int × List Int)
 | 0, _, _, _, _, _, _, _, _, _, _ => none
 | f + 1, x0, x1, x2, x3, x4, x5, x6, x7, x8, x9 => board_Startl7s (board_Startl7 f) x0 x1 x2 x3 x4 x5 x6 x7 x8 x9
def board_Startl4s (rec : Int → List Int → List Int → Int → List Int → List Int → Int → List Int → Option (List Int × List Int × Int × List Int × List Int × Int)) (x0 : Int) (x1 x2 : List Int) (x3 : Int) (x4 x5 : List Int) (x6 : Int) (x7 : List Int) : Option (List Int × List Int × Int × List Int × List Int × Int) :=
 br (decide (x0 < 9))
 (ob (board_Startl7 many x0 0 x1 x2 x3 x4 x5 x6 x7 x0) fun (a8_0, a8_1, a8_2, a8_3, a8_4, a8_5, a8_6, a8_7) =>
 rec (IntKind.wrap .i64 (a8_0 + 1)) a8_1 a8_2 a8_3 a8_4 a8_5 a8_6 a8_7)
 (some (x1, x2, x3, x4, x5, x6))
def board_Startl4 : Nat → Int → List Int → List Int → Int → List Int → List Int → Int → List Int → Option (List Int × List Int × Int × List Int × List Int × Int)
 | 0, _, _, _, _, _, _, _, _ => none
 | f + 1, x0, x1, x2, x3, x4, x5, x6, x7 => board_Startl4s (board_Startl4 f) x0 x1 x2 x3 x4 x5 x6 x7
def board_Start : Option (List Int × List Int × Int) :=
 ob (board_Startl4 many 0 ([0, 0, 0, 0, 0, 0, 0, 0, 0, 0, 0, 0, 0, 0, 0, 0, 0, 0, 0, 0, 0, 0, 0, 0, 0, 0, 0, 0, 0, 0, 0, 0, 0, 0, 0, 0, 0, 0, 0, 0, 0, 0, 0, 0, 0, 0, 0, 0, 0, 0, 0, 0, 0, 0, 0, 0, 0, 0, 0, 0, 0, 0, 0, 0, 0, 0, 0, 0, 0, 0, 0, 0, 0, 0, 0, 0, 0, 0, 0, 0, 0]) ([0, 0, 0, 0, 0, 0, 0, 0, 0, 0, 0, 0, 0, 0, 0, 0]) 0 ([0, 0, 0, 0, 0, 0, 0, 0, 0, 0, 0, 0, 0, 0, 0, 0, 0, 0, 0, 0, 0, 0, 0, 0, 0, 0, 0, 0, 0, 0, 0, 0, 0, 0, 0, 0, 0, 0, 0, 0, 0, 0, 0, 0, 0, 0, 0, 0, 0, 0, 0, 0, 0, 0, 0, 0, 0, 0, 0, 0, 0, 0, 0, 0, 0, 0, 0, 0, 0, 0, 0, 0, 0, 0, 0, 0, 0, 0, 0, 0, 0]) ([0, 0, 0, 0, 0, 0, 0, 0, 0, 0, 0, 0, 0, 0, 0, 0]) 0 ([2, 3, 4, 5, 8, 5, 4, 3, 2])) fun (_, _, _, a0_3, a0_4, a0_5) =>
 ob (set_Square 7 7) fun a6 =>
 ob (set_Square 1 7) fun a7 =>
 br (inB a6 81)
 (br (inB a7 81)
 (ob (set_Square 1 1) fun a8 =>
 ob (set_Square 7 1) fun a9 =>
 br (inB a8 81)
 (br (inB a9 81)
 (some (List.set (List.set (List.set (List.set a0_3 (Int.toNat a6) 6) (Int.toNat a7) 7) (Int.toNat a8) 22) (Int.toNat a9) 23, a0_4, a0_5))
 (none))
 (none))
 (none))
 (none)
def piece_Kind (x0 : Int) : Option (Int) :=
 br (decide (x0 ≤ 0))
 (br (x0 == 8)
 (some (8))
 (br (x0 == 24)
 (some (8))
 (some (0))))
 (br (decide (x0 > 31))
 (br (x0 == 8)
 (some (8))
 (br (x0 == 24)
 (some (8))
 (some (0))))
 (br (bitop BinOp.and .i64 x0 15 == 0)
 (br (x0 == 8)
 (some (8))
 (br (x0 == 24)
 (some (8))
 (some (0))))
 (br (bitop BinOp.and .i64 x0 15 == 13)
 (br (x0 == 8)
 (some (8))
 (br (x0 == 24)
 (some (8))
 (some (0))))
 (some (bitop BinOp.and .i64 x0 15)))))
def key_mix (x0 : Int) : Option (Int) :=
 some (bitop BinOp.xor .u64 (IntKind.wrap .u64 (bitop BinOp.xor .u64 (IntKind.wrap .u64 (bitop BinOp.xor .u64 (IntKind.wrap .u64 (x0 + 11400714819323198485)) (Int.fdiv (IntKind.wrap .u64 (x0 + 11400714819323198485)) 1073741824) * 13787848793156543929)) (Int.fdiv (IntKind.wrap .u64 (bitop BinOp.xor .u64 (IntKind.wrap .u64 (x0 + 11400714819323198485)) (Int.fdiv (IntKind.wrap .u64 (x0 + 11400714819323198485)) 1073741824) * 13787848793156543929)) 134217728) * 10723151780598845931)) (Int.fdiv (IntKind.wrap .u64 (bitop BinOp.xor .u64 (IntKind.wrap .u64 (bitop BinOp.xor .u64 (IntKind.wrap .u64 (x0 + 11400714819323198485)) (Int.fdiv (IntKind.wrap .u64 (x0 + 11400714819323198485)) 1073741824) * 13787848793156543929)) (Int.fdiv (IntKind.wrap .u64 (bitop BinOp.xor .u64 (IntKind.wrap .u64 (x0 + 11400714819323198485)) (Int.fdiv (IntKind.wrap .u64 (x0 + 11400714819323198485)) 1073741824) * 13787848793156543929)) 134217728) * 10723151780598845931)) 2147483648))
def key_Piece (x0 x1 : Int) : Option (Int) :=
 ob (piece_Kind x1) fun a2 =>
 br (a2 == 0)
 (some (0))
 (br (decide (x0 < 0))
 (some (0))
 (br (decide (x0 ≥ 81))
 (some (0))
 (ob (key_mix (IntKind.wrap .u64 (IntKind.wrap .u64 (conv .i64 .u64 x0 * 32) + conv .i8 .u64 x1))) fun a3 =>
 some (a3))))
def key_Hand (x0 x1 x2 : Int) : Option (Int) :=
 br (x0 != 0)
 (br (x0 != 1)
 (some (0))
 (br (decide (x1 < 1))
 (some (0))
 (br (decide (x1 ≥ 8))
 (some (0))
 (br (decide (x2 ≤ 0))
 (some (0))
 (br (decide (x2 > 18))
 (some (0))
 (ob (key_mix (IntKind.wrap .u64 (IntKind.wrap .u64 (IntKind.wrap .u64 (65536 + IntKind.wrap .u64 (conv .i64 .u64 x0 * 1024)) + IntKind.wrap .u64 (conv .i64 .u64 x1 * 32)) + conv .i64 .u64 x2))) fun a3 =>
 some (a3)))))))
 (br (decide (x1 < 1))
 (some (0))
 (br (decide (x1 ≥ 8))
 (some (0))
 (br (decide (x2 ≤ 0))
 (some (0))
 (br (decide (x2 > 18))
 (some (0))
 (ob (key_mix (IntKind.wrap .u64 (IntKind.wrap .u64 (IntKind.wrap .u64 (65536 + IntKind.wrap .u64 (conv .i64 .u64 x0 * 1024)) + IntKind.wrap .u64 (conv .i64 .u64 x1 * 32)) + conv .i64 .u64 x2))) fun a3 =>
 some (a3))))))
def key_Side : Option (Int) :=
 ob (key_mix 1048576) fun a0 =>
 some (a0)
def key_Ofl3s (rec : Int → List Int → Int → List Int → List Int → Int → Option (Int × List Int × List Int × Int)) (x0 : Int) (x1 : List Int) (x2 : Int) (x3 x4 : List Int) (x5 : Int) : Option (Int × List Int × List Int × Int) :=
 br (decide (x2 < 81))
 (br (inB x2 81)
 (ob (key_Piece x2 (List.getD x1 (bif true then Int.toNat x2 else Int.toNat x2 * 1) 0)) fun a9 =>
 rec (bitop BinOp.xor .u64 x0 a9) x1 (IntKind.wrap .i64 (x2 + 1)) x3 x4 x5)
 (none))
 (some (x0, x3, x4, x5))
def key_Ofl3 : Nat → Int → List Int → Int → List Int → List Int → Int → Option (Int × List Int × List Int × Int)
 | 0, _, _, _, _, _, _ => none
 | f + 1, x0, x1, x2, x3, x4, x5 => key_Ofl3s (key_Ofl3 f) x0 x1 x2 x3 x4 x5
def key_Ofl11s (rec : Int → Int → List Int → Int → List Int → Int → List Int → List Int → Int → Option (Int × List Int × Int × List Int × List Int × Int)) (x0 x1 : Int) (x2 : List Int) (x3 : Int) (x4 : List Int) (x5 : Int) (x6 x7 : List Int) (x8 : Int) : Option (Int × List Int × Int × List Int × List Int × Int) :=
 br (decide (x5 < 8))
 (br (inB x5 8)
 (ob (key_Hand x1 x5 (conv .i8 .i64 (List.getD x4 (bif true then Int.toNat x5 else Int.toNat x5 * 1) 0))) fun a22 =>
 rec (bitop BinOp.xor .u64 x0 a22) x1 x2 x3 x4 (IntKind.wrap .i64 (x5 + 1)) x6 x7 x8)
 (none))
 (some (x0, x2, x3, x6, x7, x8))
def key_Ofl11 : Nat → Int → Int → List Int → Int → List Int → Int → List Int → List Int → Int → Option (Int × List Int × Int × List Int × List Int × Int)
 | 0, _, _, _, _, _, _, _, _, _ => none
 | f + 1, x0, x1, x2, x3, x4, x5, x6, x7, x8 => key_Ofl11s (key_Ofl11 f) x0 x1 x2 x3 x4 x5 x6 x7 x8
def key_Ofl8s (rec : Int → List Int → Int → List Int → List Int → Int → Option (Int × List Int × List Int × Int)) (x0 : Int) (x1 : List Int) (x2 : Int) (x3 x4 : List Int) (x5 : Int) : Option (Int × List Int × List Int × Int) :=
 br (decide (x2 < 2))
 (br (inB x2 2)
 (ob (key_Ofl11 many x0 x2 x1 x2 (List.take 8 (List.drop (Nat.add (Nat.mul (Int.toNat x2) 7) (Int.toNat x2)) x1)) 0 x3 x4 x5) fun (a13_0, a13_1, a13_2, a13_3, a13_4, a13_5) =>
 rec a13_0 a13_1 (IntKind.wrap .i64 (a13_2 + 1)) a13_3 a13_4 a13_5)
 (none))
 (some (x0, x3, x4, x5))
def key_Ofl8 : Nat → Int → List Int → Int → List Int → List Int → Int → Option (Int × List Int × List Int × Int)
 | 0, _, _, _, _, _, _ => none
 | f + 1, x0, x1, x2, x3, x4, x5 => key_Ofl8s (key_Ofl8 f) x0 x1 x2 x3 x4 x5
def key_Of (x0 x1 : List Int) (x2 : Int) : Option (Int) :=
 ob (key_Ofl3 many 0 x0 0 x0 x1 x2) fun (a3_0, a3_1, a3_2, a3_3) =>
 ob (key_Ofl8 many a3_0 a3_2 0 a3_1 a3_2 a3_3) fun (a7_0, _, _, a7_3) =>
 br (a7_3 == 1)
 (ob (key_Side ) fun a11 =>
 some (bitop BinOp.xor .u64 a7_0 a11))
 (some (a7_0))
def table_at (x0 x1 : List Int) (x2 : Int) (x3 : Nat) (_x4 : Int) (_x5 : Nat) (_x6 : List (List Int)) : Option (Nat) :=
 ob (key_Of x0 x1 x2) fun a7 =>
 br (decide (Int.ofNat (x3 % 18446744073709551616) = 0))
 (none)
 (br (inB (Int.tmod a7 (Int.ofNat (x3 % 18446744073709551616))) x3)
 (some (Int.toNat (Int.tmod a7 (Int.ofNat (x3 % 18446744073709551616)))))
 (none))
def table_Put (x0 x1 : List Int) (x2 x3 : Int) (x4 x5 : Int) (x6 x7 x8 : Int) (x9 : Bool) (x10 : Nat) (x11 : Int) (x12 : Nat) (x13 : List (List Int)) : Option (Nat × Int × Nat × List (List Int)) :=
 ob (table_at x0 x1 x2 x10 x11 x12 x13) fun a14 =>
 br (!List.getD (List.getD x13 a14 []) 0 0 != 0)
 (some (x10, IntKind.wrap .i64 (x11 + 1), x12, List.set x13 a14 (1 :: List.append (List.append [] (List.append x0 (List.append x1 [x2, x3, x4, x5, x6, x7, x8, bi x9]))) (List.drop 106 (List.getD x13 a14 [])))))
 (some (x10, x11, x12, List.set x13 a14 (1 :: List.append (List.append [] (List.append x0 (List.append x1 [x2, x3, x4, x5, x6, x7, x8, bi x9]))) (List.drop 106 (List.getD x13 a14 [])))))
def table_Get (x0 x1 : List Int) (x2 : Int) (x3 : Nat) (x4 : Int) (x5 : Nat) (x6 : List (List Int)) : Option (Int × Int × Int × Int × Int × Int × Bool × Bool) :=
 ob (table_at x0 x1 x2 x3 x4 x5 x6) fun a7 =>
 br (!List.getD (List.getD x6 a7 []) 0 0 != 0)
 (some (0, 0, 0, 0, 0, 0, false, false))
 (br (!(List.take 81 (List.take 98 (List.drop 1 (List.getD x6 a7 []))) == x0 && (List.take 16 (List.drop 81 (List.take 98 (List.drop 1 (List.getD x6 a7 [])))) == x1 && List.headD (List.drop 16 (List.drop 81 (List.take 98 (List.drop 1 (List.getD x6 a7 []))))) 0 == x2)))
 (some (0, 0, 0, 0, 0, 0, false, false))
 (some (List.headD (List.take 7 (List.drop 99 (List.getD x6 a7 []))) 0, List.headD (List.tail (List.take 7 (List.drop 99 (List.getD x6 a7 [])))) 0, List.headD (List.tail (List.tail (List.take 7 (List.drop 99 (List.getD x6 a7 []))))) 0, List.headD (List.tail (List.tail (List.tail (List.take 7 (List.drop 99 (List.getD x6 a7 [])))))) 0, List.headD (List.tail (List.tail (List.tail (List.tail (List.take 7 (List.drop 99 (List.getD x6 a7 []))))))) 0, List.headD (List.tail (List.tail (List.tail (List.tail (List.tail (List.take 7 (List.drop 99 (List.getD x6 a7 [])))))))) 0, List.headD (List.tail (List.tail (List.tail (List.tail (List.tail (List.tail (List.take 7 (List.drop 99 (List.getD x6 a7 []))))))))) 0 != 0, true)))
def table_Len (_x0 : Nat) (x1 : Int) (_x2 : Nat) (_x3 : List (List Int)) : Option (Int) :=
 some (x1)
def law18_keeps : Option (Bool) :=
 ob (table_New 4) fun t0_2 =>
 sw t0_2 (fun _ =>
 some (false))
 (fun (a0_0, a0_1, a0_2, a0_3, a0_4) =>
 br (a0_0 != 0)
 (some (false))
 (ob (board_Start ) fun (a5_0, a5_1, a5_2) =>
 ob (table_Put a5_0 a5_1 a5_2 3 7 0 0 0 0 false a0_1 a0_2 a0_3 a0_4) fun (a8_0, a8_1, a8_2, a8_3) =>
 ob (board_Start ) fun (a12_0, a12_1, a12_2) =>
 ob (table_Get a12_0 a12_1 a12_2 a8_0 a8_1 a8_2 a8_3) fun (a15_0, a15_1, _, _, _, _, _, a15_7) =>
 ob (table_Get ([0, 0, 0, 0, 0, 0, 0, 0, 0, 0, 0, 0, 0, 0, 0, 0, 0, 0, 0, 0, 0, 0, 0, 0, 0, 0, 0, 0, 0, 0, 0, 0, 0, 0, 0, 0, 0, 0, 0, 0, 0, 0, 0, 0, 0, 0, 0, 0, 0, 0, 0, 0, 0, 0, 0, 0, 0, 0, 0, 0, 0, 0, 0, 0, 0, 0, 0, 0, 0, 0, 0, 0, 0, 0, 0, 0, 0, 0, 0, 0, 0]) ([0, 0, 0, 0, 0, 0, 0, 0, 0, 0, 0, 0, 0, 0, 0, 0]) 0 a8_0 a8_1 a8_2 a8_3) fun (_, _, _, _, _, _, _, a23_7) =>
 br (a15_7)
 (br (!a23_7)
 (br (a15_1 == 7)
 (br (a15_0 == 3)
 (ob (table_Len a8_0 a8_1 a8_2 a8_3) fun a31 =>
 br (a31 == 1)
 (some (true))
 (some (false)))
 (some (false)))
 (some (false)))
 (some (false)))
 (some (false))))
def table_at_v1 (_x0 _x1 : List Int) (_x2 : Int) : Option (Empty) :=
 none
def table_Put_v1 (x0 x1 : List Int) (x2 _x3 : Int) (_x4 _x5 : Int) (_x6 _x7 _x8 : Int) (_x9 : Bool) : Option (Empty) :=
 ob (table_at_v1 x0 x1 x2) fun _ =>
 none
def law18_TableApartl12s (rec : Nat → Int → Int → List Int → List Int → Int → Nat → Int → Int → Int → Int → Int → Int → Int → Bool → Nat → List (List Int) → Nat → List (List Int) → Option ((Bool) ⊕ (Unit))) (x0 : Nat) (x1 x2 : Int) (x3 x4 : List Int) (x5 : Int) (x6 : Nat) (x7 x8 : Int) (x9 x10 : Int) (x11 x12 x13 : Int) (x14 : Bool) (x15 : Nat) (x16 : List (List Int)) (x17 : Nat) (x18 : List (List Int)) : Option ((Bool) ⊕ (Unit)) :=
 br (decide (x2 < x1))
 (br (inB x2 x0)
 (ob (table_Get (List.take 81 (List.take 98 (List.getD x16 (Int.toNat x2) []))) (List.take 16 (List.drop 81 (List.take 98 (List.getD x16 (Int.toNat x2) [])))) (List.headD (List.drop 16 (List.drop 81 (List.take 98 (List.getD x16 (Int.toNat x2) [])))) 0) x6 x7 x17 x18) fun (a34_0, a34_1, a34_2, a34_3, a34_4, a34_5, a34_6, a34_7) =>
 br (!a34_7 == (List.take 81 (List.take 98 (List.getD x16 (Int.toNat x2) [])) == x3 && (List.take 16 (List.drop 81 (List.take 98 (List.getD x16 (Int.toNat x2) []))) == x4 && List.headD (List.drop 16 (List.drop 81 (List.take 98 (List.getD x16 (Int.toNat x2) [])))) 0 == x5)))
 (some (.inl (false)))
 (br (a34_7)
 (br (!(a34_0 == x8 && (a34_1 == x9 && (a34_2 == x10 && (a34_3 == x11 && (a34_4 == x12 && (a34_5 == x13 && a34_6 == x14)))))))
 (some (.inl (false)))
 (rec x0 x1 (IntKind.wrap .i64 (x2 + 1)) x3 x4 x5 x6 x7 x8 x9 x10 x11 x12 x13 x14 x15 x16 x17 x18))
 (rec x0 x1 (IntKind.wrap .i64 (x2 + 1)) x3 x4 x5 x6 x7 x8 x9 x10 x11 x12 x13 x14 x15 x16 x17 x18)))
 (none))
 (some (.inr ()))
def law18_TableApartl12 : Nat → Nat → Int → Int → List Int → List Int → Int → Nat → Int → Int → Int → Int → Int → Int → Int → Bool → Nat → List (List Int) → Nat → List (List Int) → Option ((Bool) ⊕ (Unit))
 | 0, _, _, _, _, _, _, _, _, _, _, _, _, _, _, _, _, _, _, _ => none
 | f + 1, x0, x1, x2, x3, x4, x5, x6, x7, x8, x9, x10, x11, x12, x13, x14, x15, x16, x17, x18 => law18_TableApartl12s (law18_TableApartl12 f) x0 x1 x2 x3 x4 x5 x6 x7 x8 x9 x10 x11 x12 x13 x14 x15 x16 x17 x18
def law18_TableApart (x0 x1 : List Int) (x2 x3 x4 : Int) : Option (Bool) :=
 ob (law18_keeps ) fun a5 =>
 br (!a5)
 (some (false))
 (ob (table_New 1000) fun t6_2 =>
 sw t6_2 (fun _ =>
 ob (table_Put_v1 x0 x1 x2 2 5 0 0 0 0 false) fun _ =>
 none)
 (fun (_, a6_1, a6_2, a6_3, a6_4) =>
 ob (table_Put x0 x1 x2 2 5 0 0 0 0 false a6_1 a6_2 a6_3 a6_4) fun (a11_0, a11_1, a11_2, a11_3) =>
 br (decide (x3 ≥ 0))
 (br (decide (x3 ≤ 80))
 (br (inB x3 81)
 (ob (law18_TableApartl12 many 3 3 0 x0 x1 x2 a11_0 a11_1 2 5 0 0 0 0 false 3 ([List.set (List.append (List.append x0 (List.append x1 [x2])) []) (0 + Int.toNat x3 * 1) x4, List.set (List.append (List.append x0 (List.append x1 [x2])) []) 92 (bitop BinOp.xor .i8 (List.getD (List.append (List.append x0 (List.append x1 [x2])) []) 92 0) 1), List.set (List.append (List.append x0 (List.append x1 [x2])) []) 97 (bitop BinOp.xor .i8 (List.getD (List.append (List.append x0 (List.append x1 [x2])) []) 97 0) 1)]) a11_2 a11_3) fun t15_2 =>
 sw t15_2 (fun a15 =>
 some (a15))
 (fun _ =>
 some (true)))
 (none))
 (ob (law18_TableApartl12 many 3 3 0 x0 x1 x2 a11_0 a11_1 2 5 0 0 0 0 false 3 ([List.append (List.append x0 (List.append x1 [x2])) [], List.set (List.append (List.append x0 (List.append x1 [x2])) []) 92 (bitop BinOp.xor .i8 (List.getD (List.append (List.append x0 (List.append x1 [x2])) []) 92 0) 1), List.set (List.append (List.append x0 (List.append x1 [x2])) []) 97 (bitop BinOp.xor .i8 (List.getD (List.append (List.append x0 (List.append x1 [x2])) []) 97 0) 1)]) a11_2 a11_3) fun t15_2 =>
 sw t15_2 (fun a15 =>
 some (a15))
 (fun _ =>
 some (true))))
 (ob (law18_TableApartl12 many 3 3 0 x0 x1 x2 a11_0 a11_1 2 5 0 0 0 0 false 3 ([List.append (List.append x0 (List.append x1 [x2])) [], List.set (List.append (List.append x0 (List.append x1 [x2])) []) 92 (bitop BinOp.xor .i8 (List.getD (List.append (List.append x0 (List.append x1 [x2])) []) 92 0) 1), List.set (List.append (List.append x0 (List.append x1 [x2])) []) 97 (bitop BinOp.xor .i8 (List.getD (List.append (List.append x0 (List.append x1 [x2])) []) 97 0) 1)]) a11_2 a11_3) fun t15_2 =>
 sw t15_2 (fun a15 =>
 some (a15))
 (fun _ =>
 some (true)))))
end Go.Kk.Pl
