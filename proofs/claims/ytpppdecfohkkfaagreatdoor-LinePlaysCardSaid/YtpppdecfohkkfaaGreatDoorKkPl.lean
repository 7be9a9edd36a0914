/- Printed by a tool of this project (KkGen): the plain functions that the program's code comes to. -/
import Derived.Test.YtpppdecfohkkfaaGreatDoorKkE
namespace Go.Kk.Pl
def qCZ (x0 x1:Int):Option (Int):=
 br (decide (x0 < 0))
 (some (-1))
 (br (decide (x0 > 8))
 (some (-1))
 (br (decide (x1 < 0))
 (some (-1))
 (br (decide (x1 > 8))
 (some (-1))
 (some (IntKind.wrap .i64 (IntKind.wrap .i64 (9 * x0)+x1))))))
def qKQ (x0 x1 x2:Int):Option (Int):=
 br (x1==1)
 (ob (qCZ x2 x0) fun a3=>
 some (a3))
 (ob (qCZ x2 (IntKind.wrap .i64 (8 - x0))) fun a3=>
 some (a3))
def qAi (x0 x1:Int):Option (Int):=
 br (x0 != 0)
 (br (x0 != 1)
 (some (0))
 (br (decide (x1 < 1))
 (some (0))
 (br (decide (x1 > 15))
 (some (0))
 (br (x1==13)
 (some (0))
 (some (conv .i64 .i8 (IntKind.wrap .i64 (IntKind.wrap .i64 (16 * x0)+x1))))))))
 (br (decide (x1 < 1))
 (some (0))
 (br (decide (x1 > 15))
 (some (0))
 (br (x1==13)
 (some (0))
 (some (conv .i64 .i8 (IntKind.wrap .i64 (IntKind.wrap .i64 (16 * x0)+x1)))))))
def qUr (rec:Int->Int->List Int->List Int->Int->List Int->List Int->Int->List Int->Int->Option (Int×List Int×List Int×Int×List Int×List Int×Int×List Int)) (x0 x1:Int) (x2 x3:List Int) (x4:Int) (x5 x6:List Int) (x7:Int) (x8:List Int) (x9:Int):Option (Int×List Int×List Int×Int×List Int×List Int×Int×List Int):=
 br (decide (x1 < 2))
 (ob (qKQ 0 x1 x9) fun a18=>
 br (inB x9 9)
 (ob (qAi x1 (List.getD x8 (Int.toNat x9) 0)) fun a19=>
 br (inB a18 81)
 (ob (qKQ 2 x1 x9) fun a20=>
 ob (qAi x1 1) fun a21=>
 br (inB a20 81)
 (rec x0 (IntKind.wrap .i64 (x1+1)) x2 x3 x4 (List.set (List.set x5 (Int.toNat a18) a19) (Int.toNat a20) a21) x6 x7 x8 x9)
 (none))
 (none))
 (none))
 (some (x0,x2,x3,x4,x5,x6,x7,x8))
def qKS:Nat->Int->Int->List Int->List Int->Int->List Int->List Int->Int->List Int->Int->Option (Int×List Int×List Int×Int×List Int×List Int×Int×List Int)
 | 0,_,_,_,_,_,_,_,_,_,_=>none
 | f+1,x0,x1,x2,x3,x4,x5,x6,x7,x8,x9=>qUr (qKS f) x0 x1 x2 x3 x4 x5 x6 x7 x8 x9
def qUp (rec:Int->List Int->List Int->Int->List Int->List Int->Int->List Int->Option (List Int×List Int×Int×List Int×List Int×Int)) (x0:Int) (x1 x2:List Int) (x3:Int) (x4 x5:List Int) (x6:Int) (x7:List Int):Option (List Int×List Int×Int×List Int×List Int×Int):=
 br (decide (x0 < 9))
 (ob (qKS qB x0 0 x1 x2 x3 x4 x5 x6 x7 x0) fun (a8_0,a8_1,a8_2,a8_3,a8_4,a8_5,a8_6,a8_7)=>
 rec (IntKind.wrap .i64 (a8_0+1)) a8_1 a8_2 a8_3 a8_4 a8_5 a8_6 a8_7)
 (some (x1,x2,x3,x4,x5,x6))
def qKR:Nat->Int->List Int->List Int->Int->List Int->List Int->Int->List Int->Option (List Int×List Int×Int×List Int×List Int×Int)
 | 0,_,_,_,_,_,_,_,_=>none
 | f+1,x0,x1,x2,x3,x4,x5,x6,x7=>qUp (qKR f) x0 x1 x2 x3 x4 x5 x6 x7
def qNt:Option (List Int×List Int×Int):=
 ob (qKR qB 0 ([0,0,0,0,0,0,0,0,0,0,0,0,0,0,0,0,0,0,0,0,0,0,0,0,0,0,0,0,0,0,0,0,0,0,0,0,0,0,0,0,0,0,0,0,0,0,0,0,0,0,0,0,0,0,0,0,0,0,0,0,0,0,0,0,0,0,0,0,0,0,0,0,0,0,0,0,0,0,0,0,0]) ([0,0,0,0,0,0,0,0,0,0,0,0,0,0,0,0]) 0 ([0,0,0,0,0,0,0,0,0,0,0,0,0,0,0,0,0,0,0,0,0,0,0,0,0,0,0,0,0,0,0,0,0,0,0,0,0,0,0,0,0,0,0,0,0,0,0,0,0,0,0,0,0,0,0,0,0,0,0,0,0,0,0,0,0,0,0,0,0,0,0,0,0,0,0,0,0,0,0,0,0]) ([0,0,0,0,0,0,0,0,0,0,0,0,0,0,0,0]) 0 ([2,3,4,5,8,5,4,3,2])) fun (_,_,_,a0_3,a0_4,a0_5)=>
 ob (qCZ 7 7) fun a6=>
 ob (qCZ 1 7) fun a7=>
 br (inB a6 81)
 (br (inB a7 81)
 (ob (qCZ 1 1) fun a8=>
 ob (qCZ 7 1) fun a9=>
 br (inB a8 81)
 (br (inB a9 81)
 (some (List.set (List.set (List.set (List.set a0_3 (Int.toNat a6) 6) (Int.toNat a7) 7) (Int.toNat a8) 22) (Int.toNat a9) 23,a0_4,a0_5))
 (none))
 (none))
 (none))
 (none)
def qAC (x0:Int):Option (Int):=
 br (decide (x0<=0))
 (br (x0==8)
 (some (8))
 (br (x0==24)
 (some (8))
 (some (0))))
 (br (decide (x0 > 31))
 (br (x0==8)
 (some (8))
 (br (x0==24)
 (some (8))
 (some (0))))
 (br (qF BinOp.and .i64 x0 15==0)
 (br (x0==8)
 (some (8))
 (br (x0==24)
 (some (8))
 (some (0))))
 (br (qF BinOp.and .i64 x0 15==13)
 (br (x0==8)
 (some (8))
 (br (x0==24)
 (some (8))
 (some (0))))
 (some (qF BinOp.and .i64 x0 15)))))
def qDg (x0:Int):Option (Int):=
 some (qF BinOp.xor .u64 (IntKind.wrap .u64 (qF BinOp.xor .u64 (IntKind.wrap .u64 (qF BinOp.xor .u64 (IntKind.wrap .u64 (x0+11400714819323198485)) (Int.fdiv (IntKind.wrap .u64 (x0+11400714819323198485)) 1073741824) * 13787848793156543929)) (Int.fdiv (IntKind.wrap .u64 (qF BinOp.xor .u64 (IntKind.wrap .u64 (x0+11400714819323198485)) (Int.fdiv (IntKind.wrap .u64 (x0+11400714819323198485)) 1073741824) * 13787848793156543929)) 134217728) * 10723151780598845931)) (Int.fdiv (IntKind.wrap .u64 (qF BinOp.xor .u64 (IntKind.wrap .u64 (qF BinOp.xor .u64 (IntKind.wrap .u64 (x0+11400714819323198485)) (Int.fdiv (IntKind.wrap .u64 (x0+11400714819323198485)) 1073741824) * 13787848793156543929)) (Int.fdiv (IntKind.wrap .u64 (qF BinOp.xor .u64 (IntKind.wrap .u64 (x0+11400714819323198485)) (Int.fdiv (IntKind.wrap .u64 (x0+11400714819323198485)) 1073741824) * 13787848793156543929)) 134217728) * 10723151780598845931)) 2147483648))
def qCB (x0 x1:Int):Option (Int):=
 ob (qAC x1) fun a2=>
 br (a2==0)
 (some (0))
 (br (decide (x0 < 0))
 (some (0))
 (br (decide (x0 >= 81))
 (some (0))
 (ob (qDg (IntKind.wrap .u64 (IntKind.wrap .u64 (conv .i64 .u64 x0 * 32)+conv .i8 .u64 x1))) fun a3=>
 some (a3))))
def qCn (x0 x1 x2:Int):Option (Int):=
 br (x0 != 0)
 (br (x0 != 1)
 (some (0))
 (br (decide (x1 < 1))
 (some (0))
 (br (decide (x1 >= 8))
 (some (0))
 (br (decide (x2<=0))
 (some (0))
 (br (decide (x2 > 18))
 (some (0))
 (ob (qDg (IntKind.wrap .u64 (IntKind.wrap .u64 (IntKind.wrap .u64 (65536+IntKind.wrap .u64 (conv .i64 .u64 x0 * 1024))+IntKind.wrap .u64 (conv .i64 .u64 x1 * 32))+conv .i64 .u64 x2))) fun a3=>
 some (a3)))))))
 (br (decide (x1 < 1))
 (some (0))
 (br (decide (x1 >= 8))
 (some (0))
 (br (decide (x2<=0))
 (some (0))
 (br (decide (x2 > 18))
 (some (0))
 (ob (qDg (IntKind.wrap .u64 (IntKind.wrap .u64 (IntKind.wrap .u64 (65536+IntKind.wrap .u64 (conv .i64 .u64 x0 * 1024))+IntKind.wrap .u64 (conv .i64 .u64 x1 * 32))+conv .i64 .u64 x2))) fun a3=>
 some (a3))))))
def qCp:Option (Int):=
 ob (qDg 1048576) fun a0=>
 some (a0)
def qDe (rec:Int->List Int->Int->List Int->List Int->Int->Option (Int×List Int×List Int×Int)) (x0:Int) (x1:List Int) (x2:Int) (x3 x4:List Int) (x5:Int):Option (Int×List Int×List Int×Int):=
 br (decide (x2 < 81))
 (br (inB x2 81)
 (ob (qCB x2 (List.getD x1 (bif true then Int.toNat x2 else Int.toNat x2 * 1) 0)) fun a9=>
 rec (qF BinOp.xor .u64 x0 a9) x1 (IntKind.wrap .i64 (x2+1)) x3 x4 x5)
 (none))
 (some (x0,x3,x4,x5))
def qCR:Nat->Int->List Int->Int->List Int->List Int->Int->Option (Int×List Int×List Int×Int)
 | 0,_,_,_,_,_,_=>none
 | f+1,x0,x1,x2,x3,x4,x5=>qDe (qCR f) x0 x1 x2 x3 x4 x5
def qDd (rec:Int->Int->List Int->Int->List Int->Int->List Int->List Int->Int->Option (Int×List Int×Int×List Int×List Int×Int)) (x0 x1:Int) (x2:List Int) (x3:Int) (x4:List Int) (x5:Int) (x6 x7:List Int) (x8:Int):Option (Int×List Int×Int×List Int×List Int×Int):=
 br (decide (x5 < 8))
 (br (inB x5 8)
 (ob (qCn x1 x5 (conv .i8 .i64 (List.getD x4 (bif true then Int.toNat x5 else Int.toNat x5 * 1) 0))) fun a22=>
 rec (qF BinOp.xor .u64 x0 a22) x1 x2 x3 x4 (IntKind.wrap .i64 (x5+1)) x6 x7 x8)
 (none))
 (some (x0,x2,x3,x6,x7,x8))
def qCo:Nat->Int->Int->List Int->Int->List Int->Int->List Int->List Int->Int->Option (Int×List Int×Int×List Int×List Int×Int)
 | 0,_,_,_,_,_,_,_,_,_=>none
 | f+1,x0,x1,x2,x3,x4,x5,x6,x7,x8=>qDd (qCo f) x0 x1 x2 x3 x4 x5 x6 x7 x8
def qDf (rec:Int->List Int->Int->List Int->List Int->Int->Option (Int×List Int×List Int×Int)) (x0:Int) (x1:List Int) (x2:Int) (x3 x4:List Int) (x5:Int):Option (Int×List Int×List Int×Int):=
 br (decide (x2 < 2))
 (br (inB x2 2)
 (ob (qCo qB x0 x2 x1 x2 (List.take 8 (List.drop (Nat.add (Nat.mul (Int.toNat x2) 7) (Int.toNat x2)) x1)) 0 x3 x4 x5) fun (a13_0,a13_1,a13_2,a13_3,a13_4,a13_5)=>
 rec a13_0 a13_1 (IntKind.wrap .i64 (a13_2+1)) a13_3 a13_4 a13_5)
 (none))
 (some (x0,x3,x4,x5))
def qBu:Nat->Int->List Int->Int->List Int->List Int->Int->Option (Int×List Int×List Int×Int)
 | 0,_,_,_,_,_,_=>none
 | f+1,x0,x1,x2,x3,x4,x5=>qDf (qBu f) x0 x1 x2 x3 x4 x5
def qEL (x0 x1:List Int) (x2:Int):Option (Int):=
 ob (qCR qB 0 x0 0 x0 x1 x2) fun (a3_0,a3_1,a3_2,a3_3)=>
 ob (qBu qB a3_0 a3_2 0 a3_1 a3_2 a3_3) fun (a7_0,_,_,a7_3)=>
 br (a7_3==1)
 (ob (qCp ) fun a11=>
 some (qF BinOp.xor .u64 a7_0 a11))
 (some (a7_0))
def qFr (x0:Int):Option (Int×Int):=
 br (decide (x0 < 0))
 (some (0,0))
 (br (decide (x0 >= 81))
 (some (0,0))
 (br (decide (x0 < 63))
 (br (decide (x0 < 0))
 (none)
 (some (IntKind.wrap .u64 (1 * 2 ^ min (Int.toNat x0) 64),0)))
 (br (decide (IntKind.wrap .i64 (x0 - 63) < 0))
 (none)
 (some (0,IntKind.wrap .u64 (1 * 2 ^ min (Int.toNat (IntKind.wrap .i64 (x0 - 63))) 64))))))
def qFn (x0 x1:Int) (x2 x3:Int):Option (Int×Int):=
 some (qF BinOp.andNot .u64 x0 x2,qF BinOp.andNot .u64 x1 x3)
def qEf (x0 x1 x2:Int):Option (Int×Int):=
 ob (qFr x2) fun (a3_0,a3_1)=>
 ob (qFn x0 x1 a3_0 a3_1) fun (a5_0,a5_1)=>
 some (a5_0,a5_1)
def qAQ (x0:Int):Option (Int):=
 ob (qAC x0) fun a1=>
 br (a1==0)
 (some (-1))
 (br (decide (x0 < 16))
 (some (0))
 (some (1)))
def qD2 (x0 x1:Int) (x2 x3:Int):Option (Int×Int):=
 some (qF BinOp.or .u64 x0 x2,qF BinOp.or .u64 x1 x3)
def qBA (x0 x1 x2:Int):Option (Int×Int):=
 ob (qFr x2) fun (a3_0,a3_1)=>
 ob (qD2 x0 x1 a3_0 a3_1) fun (a5_0,a5_1)=>
 some (a5_0,a5_1)
def qF7 (x0 x1:Int) (x2 x3:List Int) (x4:Int) (x5 x6:List (List Int)):Option (List Int×List Int×Int×List (List Int)×List (List Int)):=
 br (decide (x0 < 0))
 (some (x2,x3,x4,x5,x6))
 (br (decide (x0 >= 81))
 (some (x2,x3,x4,x5,x6))
 (br (inB x0 81)
 (br (List.getD x2 (Int.toNat x0) 0 != 0)
 (br (inB (List.getD x2 (Int.toNat x0) 0) 32)
 (ob (qEf (List.headD (List.take 2 (List.getD x5 (Int.toNat (List.getD x2 (Int.toNat x0) 0)) [])) 0) (List.headD (List.tail (List.take 2 (List.getD x5 (Int.toNat (List.getD x2 (Int.toNat x0) 0)) []))) 0) x0) fun (a7_0,a7_1)=>
 br (inB (List.getD x2 (Int.toNat x0) 0) 32)
 (ob (qAQ (List.getD x2 (Int.toNat x0) 0)) fun a9=>
 ob (qAQ (List.getD x2 (Int.toNat x0) 0)) fun a10=>
 br (inB a10 2)
 (ob (qEf (List.headD (List.take 2 (List.getD x6 (Int.toNat a10) [])) 0) (List.headD (List.tail (List.take 2 (List.getD x6 (Int.toNat a10) []))) 0) x0) fun (a11_0,a11_1)=>
 br (inB a9 2)
 (ob (qAC x1) fun a13=>
 br (a13==0)
 (br (inB x0 81)
 (some (List.set x2 (Int.toNat x0) 0,x3,x4,List.set x5 (Int.toNat (List.getD x2 (Int.toNat x0) 0)) (a7_0 :: a7_1 :: List.drop 2 (List.getD x5 (Int.toNat (List.getD x2 (Int.toNat x0) 0)) [])),List.set x6 (Int.toNat a9) (a11_0 :: a11_1 :: List.drop 2 (List.getD x6 (Int.toNat a9) []))))
 (none))
 (br (inB x0 81)
 (br (x1 != 0)
 (br (inB x1 32)
 (ob (qBA (List.headD (List.take 2 (List.getD (List.set x5 (Int.toNat (List.getD x2 (Int.toNat x0) 0)) (a7_0 :: a7_1 :: List.drop 2 (List.getD x5 (Int.toNat (List.getD x2 (Int.toNat x0) 0)) []))) (Int.toNat x1) [])) 0) (List.headD (List.tail (List.take 2 (List.getD (List.set x5 (Int.toNat (List.getD x2 (Int.toNat x0) 0)) (a7_0 :: a7_1 :: List.drop 2 (List.getD x5 (Int.toNat (List.getD x2 (Int.toNat x0) 0)) []))) (Int.toNat x1) []))) 0) x0) fun (a14_0,a14_1)=>
 br (inB x1 32)
 (ob (qAQ x1) fun a16=>
 ob (qAQ x1) fun a17=>
 br (inB a17 2)
 (ob (qBA (List.headD (List.take 2 (List.getD (List.set x6 (Int.toNat a9) (a11_0 :: a11_1 :: List.drop 2 (List.getD x6 (Int.toNat a9) []))) (Int.toNat a17) [])) 0) (List.headD (List.tail (List.take 2 (List.getD (List.set x6 (Int.toNat a9) (a11_0 :: a11_1 :: List.drop 2 (List.getD x6 (Int.toNat a9) []))) (Int.toNat a17) []))) 0) x0) fun (a18_0,a18_1)=>
 br (inB a16 2)
 (some (List.set x2 (Int.toNat x0) x1,x3,x4,List.set (List.set x5 (Int.toNat (List.getD x2 (Int.toNat x0) 0)) (a7_0 :: a7_1 :: List.drop 2 (List.getD x5 (Int.toNat (List.getD x2 (Int.toNat x0) 0)) []))) (Int.toNat x1) (a14_0 :: a14_1 :: List.drop 2 (List.getD (List.set x5 (Int.toNat (List.getD x2 (Int.toNat x0) 0)) (a7_0 :: a7_1 :: List.drop 2 (List.getD x5 (Int.toNat (List.getD x2 (Int.toNat x0) 0)) []))) (Int.toNat x1) [])),List.set (List.set x6 (Int.toNat a9) (a11_0 :: a11_1 :: List.drop 2 (List.getD x6 (Int.toNat a9) []))) (Int.toNat a16) (a18_0 :: a18_1 :: List.drop 2 (List.getD (List.set x6 (Int.toNat a9) (a11_0 :: a11_1 :: List.drop 2 (List.getD x6 (Int.toNat a9) []))) (Int.toNat a16) []))))
 (none))
 (none))
 (none))
 (none))
 (some (List.set x2 (Int.toNat x0) x1,x3,x4,List.set x5 (Int.toNat (List.getD x2 (Int.toNat x0) 0)) (a7_0 :: a7_1 :: List.drop 2 (List.getD x5 (Int.toNat (List.getD x2 (Int.toNat x0) 0)) [])),List.set x6 (Int.toNat a9) (a11_0 :: a11_1 :: List.drop 2 (List.getD x6 (Int.toNat a9) [])))))
 (none)))
 (none))
 (none))
 (none))
 (none))
 (ob (qAC x1) fun a7=>
 br (a7==0)
 (br (inB x0 81)
 (some (List.set x2 (Int.toNat x0) 0,x3,x4,x5,x6))
 (none))
 (br (inB x0 81)
 (br (x1 != 0)
 (br (inB x1 32)
 (ob (qBA (List.headD (List.take 2 (List.getD x5 (Int.toNat x1) [])) 0) (List.headD (List.tail (List.take 2 (List.getD x5 (Int.toNat x1) []))) 0) x0) fun (a8_0,a8_1)=>
 br (inB x1 32)
 (ob (qAQ x1) fun a10=>
 ob (qAQ x1) fun a11=>
 br (inB a11 2)
 (ob (qBA (List.headD (List.take 2 (List.getD x6 (Int.toNat a11) [])) 0) (List.headD (List.tail (List.take 2 (List.getD x6 (Int.toNat a11) []))) 0) x0) fun (a12_0,a12_1)=>
 br (inB a10 2)
 (some (List.set x2 (Int.toNat x0) x1,x3,x4,List.set x5 (Int.toNat x1) (a8_0 :: a8_1 :: List.drop 2 (List.getD x5 (Int.toNat x1) [])),List.set x6 (Int.toNat a10) (a12_0 :: a12_1 :: List.drop 2 (List.getD x6 (Int.toNat a10) []))))
 (none))
 (none))
 (none))
 (none))
 (some (List.set x2 (Int.toNat x0) x1,x3,x4,x5,x6)))
 (none))))
 (none)))
def qG0 (rec:List Int->Int->List Int->List Int->Int->List (List Int)->List (List Int)->Option (List Int×List Int×Int×List (List Int)×List (List Int))) (x0:List Int) (x1:Int) (x2 x3:List Int) (x4:Int) (x5 x6:List (List Int)):Option (List Int×List Int×Int×List (List Int)×List (List Int)):=
 br (decide (x1 < 81))
 (br (inB x1 81)
 (ob (qF7 x1 (List.getD x0 (bif true then Int.toNat x1 else Int.toNat x1 * 1) 0) x2 x3 x4 x5 x6) fun (a10_0,a10_1,a10_2,a10_3,a10_4)=>
 rec x0 (IntKind.wrap .i64 (x1+1)) a10_0 a10_1 a10_2 a10_3 a10_4)
 (none))
 (some (x2,x3,x4,x5,x6))
def qED:Nat->List Int->Int->List Int->List Int->Int->List (List Int)->List (List Int)->Option (List Int×List Int×Int×List (List Int)×List (List Int))
 | 0,_,_,_,_,_,_,_=>none
 | f+1,x0,x1,x2,x3,x4,x5,x6=>qG0 (qED f) x0 x1 x2 x3 x4 x5 x6
def qF4 (x0 x1:List Int) (x2:Int):Option (List Int×List Int×Int×List (List Int)×List (List Int)):=
 ob (qED qB x0 0 ([0,0,0,0,0,0,0,0,0,0,0,0,0,0,0,0,0,0,0,0,0,0,0,0,0,0,0,0,0,0,0,0,0,0,0,0,0,0,0,0,0,0,0,0,0,0,0,0,0,0,0,0,0,0,0,0,0,0,0,0,0,0,0,0,0,0,0,0,0,0,0,0,0,0,0,0,0,0,0,0,0]) x1 x2 ([[0,0],[0,0],[0,0],[0,0],[0,0],[0,0],[0,0],[0,0],[0,0],[0,0],[0,0],[0,0],[0,0],[0,0],[0,0],[0,0],[0,0],[0,0],[0,0],[0,0],[0,0],[0,0],[0,0],[0,0],[0,0],[0,0],[0,0],[0,0],[0,0],[0,0],[0,0],[0,0]]) ([[0,0],[0,0]])) fun (a3_0,a3_1,a3_2,a3_3,a3_4)=>
 some (a3_0,a3_1,a3_2,a3_3,a3_4)
def qHB (x0 x1:List Int) (x2:Int):Option (Int×Nat×List Int×List Int×Int×List (List Int)×List (List Int)×Nat×List (List Int)):=
 ob (qF4 x0 x1 x2) fun (a3_0,a3_1,a3_2,a3_3,a3_4)=>
 ob (qEL a3_0 a3_1 a3_2) fun a8=>
 some (a8,0,a3_0,a3_1,a3_2,a3_3,a3_4,0,[])
def qDh (x0 x1 x2:Int) (x3:Bool):Option (Int):=
 br (decide (x1 < 0))
 (some (1))
 (br (decide (x1 >= 81))
 (some (1))
 (br (x2 != 0)
 (br (decide (x2 < 0))
 (some (70))
 (br (decide (x2 >= 8))
 (some (70))
 (br (x0 != 0)
 (some (70))
 (br (x3)
 (some (70))
 (some (0))))))
 (br (decide (x0 < 0))
 (some (1))
 (br (decide (x0 >= 81))
 (some (1))
 (br (x0==x1)
 (some (70))
 (some (0)))))))
def qCg (x0 x1:Int) (_x2 x3:List Int) (_x4:Int) (_x5 _x6:List (List Int)):Option (Int):=
 br (x0 != 0)
 (br (x0 != 1)
 (some (0))
 (br (decide (x1 < 1))
 (some (0))
 (br (decide (x1 >= 8))
 (some (0))
 (br (inB x0 2)
 (br (inB x1 8)
 (some (conv .i8 .i64 (List.getD x3 (Int.toNat x0 * 8+Int.toNat x1) 0)))
 (none))
 (none)))))
 (br (decide (x1 < 1))
 (some (0))
 (br (decide (x1 >= 8))
 (some (0))
 (br (inB x0 2)
 (br (inB x1 8)
 (some (conv .i8 .i64 (List.getD x3 (Int.toNat x0 * 8+Int.toNat x1) 0)))
 (none))
 (none))))
def qAe (x0:Int) (x1 _x2:List Int) (_x3:Int) (_x4 _x5:List (List Int)):Option (Int):=
 br (decide (x0 < 0))
 (some (0))
 (br (decide (x0 >= 81))
 (some (0))
 (br (inB x0 81)
 (some (List.getD x1 (Int.toNat x0) 0))
 (none)))
def qCt (x0:Int):Option (Int):=
 br (x0==1)
 (some (IntKind.wrap .i64 (x0+8)))
 (br (x0==2)
 (some (IntKind.wrap .i64 (x0+8)))
 (br (x0==3)
 (some (IntKind.wrap .i64 (x0+8)))
 (br (x0==4)
 (some (IntKind.wrap .i64 (x0+8)))
 (br (x0==6)
 (some (IntKind.wrap .i64 (x0+8)))
 (br (x0==7)
 (some (IntKind.wrap .i64 (x0+8)))
 (some (0)))))))
def qEG (x0 x1 x2:Int) (x3:Bool) (_x4:Int) (_x5:Nat) (x6 x7:List Int) (x8:Int) (x9 x10:List (List Int)) (_x11:Nat) (_x12:List (List Int)):Option (Bool):=
 ob (qDh x0 x1 x2 x3) fun a13=>
 br (a13 != 0)
 (some (false))
 (br (x8 != 0)
 (br (x8 != 1)
 (some (false))
 (br (x2 != 0)
 (ob (qCg x8 x2 x6 x7 x8 x9 x10) fun a14=>
 br (decide (a14 > 0))
 (ob (qAe x1 x6 x7 x8 x9 x10) fun a15=>
 some (a15==0))
 (some (false)))
 (ob (qAe x0 x6 x7 x8 x9 x10) fun a14=>
 ob (qAe x1 x6 x7 x8 x9 x10) fun a15=>
 ob (qAQ a14) fun a16=>
 br (a16==x8)
 (ob (qAQ a15) fun a17=>
 br (a17 != x8)
 (ob (qAC a15) fun a18=>
 br (a18 != 8)
 (br (!x3)
 (some (true))
 (ob (qAC a14) fun a19=>
 ob (qCt a19) fun a20=>
 some (a20 != 0)))
 (some (false)))
 (some (false)))
 (some (false)))))
 (br (x2 != 0)
 (ob (qCg x8 x2 x6 x7 x8 x9 x10) fun a14=>
 br (decide (a14 > 0))
 (ob (qAe x1 x6 x7 x8 x9 x10) fun a15=>
 some (a15==0))
 (some (false)))
 (ob (qAe x0 x6 x7 x8 x9 x10) fun a14=>
 ob (qAe x1 x6 x7 x8 x9 x10) fun a15=>
 ob (qAQ a14) fun a16=>
 br (a16==x8)
 (ob (qAQ a15) fun a17=>
 br (a17 != x8)
 (ob (qAC a15) fun a18=>
 br (a18 != 8)
 (br (!x3)
 (some (true))
 (ob (qAC a14) fun a19=>
 ob (qCt a19) fun a20=>
 some (a20 != 0)))
 (some (false)))
 (some (false)))
 (some (false)))))
def qDZ (x0 x1:Int) (x2 x3:Int) (x4:Nat) (x5 x6:List Int) (x7:Int) (x8 x9:List (List Int)) (x10:Nat) (x11:List (List Int)):Option (Int×Nat×List Int×List Int×Int×List (List Int)×List (List Int)×Nat×List (List Int)):=
 ob (qCg x0 x1 x5 x6 x7 x8 x9) fun a12=>
 ob (qCn x0 x1 a12) fun a13=>
 ob (qCn x0 x1 (IntKind.wrap .i64 (a12+x2))) fun a14=>
 br (inB x0 2)
 (br (inB x1 8)
 (br (inB x0 2)
 (br (inB x1 8)
 (some (qF BinOp.xor .u64 x3 (qF BinOp.xor .u64 a13 a14),x4,x5,List.set x6 (Int.toNat x0 * 8+Int.toNat x1) (IntKind.wrap .i8 (List.getD x6 (Int.toNat x0 * 8+Int.toNat x1) 0+conv .i64 .i8 x2)),x7,x8,x9,x10,x11))
 (none))
 (none))
 (none))
 (none)
def qB9 (x0 x1 x2:Int) (x3:Nat) (x4 x5:List Int) (x6:Int) (x7 x8:List (List Int)) (x9:Nat) (x10:List (List Int)):Option (Int×Nat×List Int×List Int×Int×List (List Int)×List (List Int)×Nat×List (List Int)):=
 ob (qAe x0 x4 x5 x6 x7 x8) fun a11=>
 ob (qCB x0 a11) fun a12=>
 ob (qCB x0 x1) fun a13=>
 ob (qF7 x0 x1 x4 x5 x6 x7 x8) fun (a14_0,a14_1,a14_2,a14_3,a14_4)=>
 some (qF BinOp.xor .u64 x2 (qF BinOp.xor .u64 a12 a13),x3,a14_0,a14_1,a14_2,a14_3,a14_4,x9,x10)
def qCi (x0:Int) (x1:Nat) (x2 x3:List Int) (x4:Int) (x5 x6:List (List Int)) (x7:Nat) (x8:List (List Int)):Option (Int×Nat×List Int×List Int×Int×List (List Int)×List (List Int)×Nat×List (List Int)):=
 ob (qCp ) fun a9=>
 some (qF BinOp.xor .u64 x0 a9,x1,x2,x3,IntKind.wrap .i8 (1 - x4),x5,x6,x7,x8)
def qCs (x0:Int):Option (Int):=
 ob (qAi 0 x0) fun a1=>
 br (a1==0)
 (some (0))
 (br (decide (x0 > 8))
 (some (IntKind.wrap .i64 (x0 - 8)))
 (some (x0)))
def qC5 (x0 x1 x2:Int) (x3:Bool) (x4:Int) (x5:Nat) (x6 x7:List Int) (x8:Int) (x9 x10:List (List Int)) (x11:Nat) (x12:List (List Int)):Option ((Bool×Int×Nat×List Int×List Int×Int×List (List Int)×List (List Int)×Nat×List (List Int)) ⊕ (Bool×Int×Nat×List Int×List Int×Int×List (List Int)×List (List Int)×Nat×List (List Int))):=
 ob (qEG x0 x1 x2 x3 x4 x5 x6 x7 x8 x9 x10 x11 x12) fun a13=>
 br (!a13)
 (some (.inl (false,x4,x5,x6,x7,x8,x9,x10,x11,x12)))
 (ob (qAe x1 x6 x7 x8 x9 x10) fun a14=>
 br (x2 != 0)
 (ob (qAi x8 x2) fun a15=>
 ob (qDZ x8 x2 (-1) x4 x5 x6 x7 x8 x9 x10 x11 x12) fun (a16_0,a16_1,a16_2,a16_3,a16_4,a16_5,a16_6,a16_7,a16_8)=>
 ob (qB9 x1 a15 a16_0 a16_1 a16_2 a16_3 a16_4 a16_5 a16_6 a16_7 a16_8) fun (a25_0,a25_1,a25_2,a25_3,a25_4,a25_5,a25_6,a25_7,a25_8)=>
 ob (qCi a25_0 a25_1 a25_2 a25_3 a25_4 a25_5 a25_6 a25_7 a25_8) fun (a34_0,a34_1,a34_2,a34_3,a34_4,a34_5,a34_6,_,a34_8)=>
 br (decide ((a34_1+1) * 40<=140737488355328))
 (some (.inr (true,a34_0,a34_1+1,a34_2,a34_3,a34_4,a34_5,a34_6,a34_1+1,List.append (List.take a34_1 a34_8) [[x0,x1,x2,bi x3,a14,a15]])))
 (none))
 (ob (qAe x0 x6 x7 x8 x9 x10) fun a15=>
 br (x3)
 (ob (qAC a15) fun a16=>
 ob (qCt a16) fun a17=>
 ob (qAi x8 a17) fun a18=>
 ob (qB9 x0 0 x4 x5 x6 x7 x8 x9 x10 x11 x12) fun (a19_0,a19_1,a19_2,a19_3,a19_4,a19_5,a19_6,a19_7,a19_8)=>
 ob (qB9 x1 a18 a19_0 a19_1 a19_2 a19_3 a19_4 a19_5 a19_6 a19_7 a19_8) fun (a28_0,a28_1,a28_2,a28_3,a28_4,a28_5,a28_6,a28_7,a28_8)=>
 br (a14 != 0)
 (ob (qAC a14) fun a37=>
 ob (qCs a37) fun a38=>
 ob (qDZ x8 a38 1 a28_0 a28_1 a28_2 a28_3 a28_4 a28_5 a28_6 a28_7 a28_8) fun (a39_0,a39_1,a39_2,a39_3,a39_4,a39_5,a39_6,a39_7,a39_8)=>
 ob (qCi a39_0 a39_1 a39_2 a39_3 a39_4 a39_5 a39_6 a39_7 a39_8) fun (a48_0,a48_1,a48_2,a48_3,a48_4,a48_5,a48_6,_,a48_8)=>
 br (decide ((a48_1+1) * 40<=140737488355328))
 (some (.inr (true,a48_0,a48_1+1,a48_2,a48_3,a48_4,a48_5,a48_6,a48_1+1,List.append (List.take a48_1 a48_8) [[x0,x1,x2,bi x3,a14,a15]])))
 (none))
 (ob (qCi a28_0 a28_1 a28_2 a28_3 a28_4 a28_5 a28_6 a28_7 a28_8) fun (a37_0,a37_1,a37_2,a37_3,a37_4,a37_5,a37_6,_,a37_8)=>
 br (decide ((a37_1+1) * 40<=140737488355328))
 (some (.inr (true,a37_0,a37_1+1,a37_2,a37_3,a37_4,a37_5,a37_6,a37_1+1,List.append (List.take a37_1 a37_8) [[x0,x1,x2,bi x3,a14,a15]])))
 (none)))
 (ob (qB9 x0 0 x4 x5 x6 x7 x8 x9 x10 x11 x12) fun (a16_0,a16_1,a16_2,a16_3,a16_4,a16_5,a16_6,a16_7,a16_8)=>
 ob (qB9 x1 a15 a16_0 a16_1 a16_2 a16_3 a16_4 a16_5 a16_6 a16_7 a16_8) fun (a25_0,a25_1,a25_2,a25_3,a25_4,a25_5,a25_6,a25_7,a25_8)=>
 br (a14 != 0)
 (ob (qAC a14) fun a34=>
 ob (qCs a34) fun a35=>
 ob (qDZ x8 a35 1 a25_0 a25_1 a25_2 a25_3 a25_4 a25_5 a25_6 a25_7 a25_8) fun (a36_0,a36_1,a36_2,a36_3,a36_4,a36_5,a36_6,a36_7,a36_8)=>
 ob (qCi a36_0 a36_1 a36_2 a36_3 a36_4 a36_5 a36_6 a36_7 a36_8) fun (a45_0,a45_1,a45_2,a45_3,a45_4,a45_5,a45_6,_,a45_8)=>
 br (decide ((a45_1+1) * 40<=140737488355328))
 (some (.inr (true,a45_0,a45_1+1,a45_2,a45_3,a45_4,a45_5,a45_6,a45_1+1,List.append (List.take a45_1 a45_8) [[x0,x1,x2,bi x3,a14,a15]])))
 (none))
 (ob (qCi a25_0 a25_1 a25_2 a25_3 a25_4 a25_5 a25_6 a25_7 a25_8) fun (a34_0,a34_1,a34_2,a34_3,a34_4,a34_5,a34_6,_,a34_8)=>
 br (decide ((a34_1+1) * 40<=140737488355328))
 (some (.inr (true,a34_0,a34_1+1,a34_2,a34_3,a34_4,a34_5,a34_6,a34_1+1,List.append (List.take a34_1 a34_8) [[x0,x1,x2,bi x3,a14,a15]])))
 (none)))))
def qOQ (x0:Int) (x1:Nat) (x2 x3:List Int) (x4:Int) (x5 x6:List (List Int)) (x7:Nat) (x8:List (List Int)):Option (Bool×Int×Nat×List Int×List Int×Int×List (List Int)×List (List Int)×Nat×List (List Int)):=
 br (Int.ofNat x1==0)
 (some (false,x0,x1,x2,x3,x4,x5,x6,x7,x8))
 (br (inB (IntKind.wrap .i64 (Int.ofNat x1 - 1)) x1)
 (br (qBs (IntKind.wrap .i64 (Int.ofNat x1 - 1)) x1)
 (ob (qCi x0 (Int.toNat (IntKind.wrap .i64 (Int.ofNat x1 - 1)) - 0) x2 x3 x4 x5 x6 x7 x8) fun (a9_0,a9_1,a9_2,a9_3,a9_4,a9_5,a9_6,a9_7,a9_8)=>
 br (List.headD (List.tail (List.tail (List.take 6 (List.getD x8 (Int.toNat (IntKind.wrap .i64 (Int.ofNat x1 - 1))) [])))) 0 != 0)
 (ob (qB9 (List.headD (List.tail (List.take 6 (List.getD x8 (Int.toNat (IntKind.wrap .i64 (Int.ofNat x1 - 1))) []))) 0) 0 a9_0 a9_1 a9_2 a9_3 a9_4 a9_5 a9_6 a9_7 a9_8) fun (a18_0,a18_1,a18_2,a18_3,a18_4,a18_5,a18_6,a18_7,a18_8)=>
 ob (qDZ a9_4 (List.headD (List.tail (List.tail (List.take 6 (List.getD x8 (Int.toNat (IntKind.wrap .i64 (Int.ofNat x1 - 1))) [])))) 0) 1 a18_0 a18_1 a18_2 a18_3 a18_4 a18_5 a18_6 a18_7 a18_8) fun (a27_0,a27_1,a27_2,a27_3,a27_4,a27_5,a27_6,a27_7,a27_8)=>
 some (true,a27_0,a27_1,a27_2,a27_3,a27_4,a27_5,a27_6,a27_7,a27_8))
 (ob (qB9 (List.headD (List.tail (List.take 6 (List.getD x8 (Int.toNat (IntKind.wrap .i64 (Int.ofNat x1 - 1))) []))) 0) (List.headD (List.tail (List.tail (List.tail (List.tail (List.take 6 (List.getD x8 (Int.toNat (IntKind.wrap .i64 (Int.ofNat x1 - 1))) [])))))) 0) a9_0 a9_1 a9_2 a9_3 a9_4 a9_5 a9_6 a9_7 a9_8) fun (a18_0,a18_1,a18_2,a18_3,a18_4,a18_5,a18_6,a18_7,a18_8)=>
 ob (qB9 (List.headD (List.take 6 (List.getD x8 (Int.toNat (IntKind.wrap .i64 (Int.ofNat x1 - 1))) [])) 0) (List.headD (List.tail (List.tail (List.tail (List.tail (List.tail (List.take 6 (List.getD x8 (Int.toNat (IntKind.wrap .i64 (Int.ofNat x1 - 1))) []))))))) 0) a18_0 a18_1 a18_2 a18_3 a18_4 a18_5 a18_6 a18_7 a18_8) fun (a27_0,a27_1,a27_2,a27_3,a27_4,a27_5,a27_6,a27_7,a27_8)=>
 br (List.headD (List.tail (List.tail (List.tail (List.tail (List.take 6 (List.getD x8 (Int.toNat (IntKind.wrap .i64 (Int.ofNat x1 - 1))) [])))))) 0 != 0)
 (ob (qAC (List.headD (List.tail (List.tail (List.tail (List.tail (List.take 6 (List.getD x8 (Int.toNat (IntKind.wrap .i64 (Int.ofNat x1 - 1))) [])))))) 0)) fun a36=>
 ob (qCs a36) fun a37=>
 ob (qDZ a9_4 a37 (-1) a27_0 a27_1 a27_2 a27_3 a27_4 a27_5 a27_6 a27_7 a27_8) fun (a38_0,a38_1,a38_2,a38_3,a38_4,a38_5,a38_6,a38_7,a38_8)=>
 some (true,a38_0,a38_1,a38_2,a38_3,a38_4,a38_5,a38_6,a38_7,a38_8))
 (some (true,a27_0,a27_1,a27_2,a27_3,a27_4,a27_5,a27_6,a27_7,a27_8))))
 (none))
 (none))
def qAS (x0:Int):Option (Int):=
 br (decide (x0 < 1))
 (some (0))
 (br (decide (x0 > 31))
 (some (0))
 (br (x0==13)
 (some (0))
 (br (x0==16)
 (some (0))
 (br (x0==29)
 (some (0))
 (some (Int.tmod x0 16))))))
def qDv (rec:Int->Int->Int->Int->List Int->List Int->Int->Option (Int)) (x0 x1:Int) (x2 x3:Int) (x4 x5:List Int) (x6:Int):Option (Int):=
 br (decide (x3 < 9))
 (br (inB (IntKind.wrap .i64 (IntKind.wrap .i64 (9 * x1)+x3)) 81)
 (br (conv .i8 .i64 (List.getD x4 (Int.toNat (IntKind.wrap .i64 (IntKind.wrap .i64 (9 * x1)+x3))) 0)==x0)
 (rec x0 x1 (IntKind.wrap .i64 (x2+1)) (IntKind.wrap .i64 (x3+1)) x4 x5 x6)
 (rec x0 x1 x2 (IntKind.wrap .i64 (x3+1)) x4 x5 x6))
 (none))
 (some (x2))
def qCW:Nat->Int->Int->Int->Int->List Int->List Int->Int->Option (Int)
 | 0,_,_,_,_,_,_,_=>none
 | f+1,x0,x1,x2,x3,x4,x5,x6=>qDv (qCW f) x0 x1 x2 x3 x4 x5 x6
def qDu (x0 x1:List Int) (x2 x3 x4:Int):Option (Int):=
 ob (qCW qB x3 x4 0 0 x0 x1 x2) fun a5=>
 some (a5)
def qDw (rec:Int->Int->Int->List Int->List Int->Int->Option (Int)) (x0 x1 x2:Int) (x3 x4:List Int) (x5:Int):Option (Int):=
 br (decide (x2 < 9))
 (ob (qDu x3 x4 x5 x0 x2) fun a10=>
 rec x0 (IntKind.wrap .i64 (x1+a10)) (IntKind.wrap .i64 (x2+1)) x3 x4 x5)
 (some (x1))
def qCX:Nat->Int->Int->Int->List Int->List Int->Int->Option (Int)
 | 0,_,_,_,_,_,_=>none
 | f+1,x0,x1,x2,x3,x4,x5=>qDw (qCX f) x0 x1 x2 x3 x4 x5
def qCF (x0 x1:List Int) (x2 x3:Int):Option (Int):=
 ob (qCX qB x3 0 0 x0 x1 x2) fun a4=>
 some (a4)
def qHy (x0:Int):Option (Int):=
 br (decide (x0 < 1))
 (some (0))
 (br (decide (x0 > 15))
 (some (0))
 (br (x0==13)
 (some (0))
 (br (decide (x0 > 8))
 (some (IntKind.wrap .i64 (x0 - 8)))
 (some (x0)))))
def qH3 (rec:Int->Int->Int->List Int->List Int->Int->Option (Int×Int×List Int×List Int×Int)) (x0 x1 x2:Int) (x3 x4:List Int) (x5:Int):Option (Int×Int×List Int×List Int×Int):=
 br (decide (x2 < 81))
 (br (inB x2 81)
 (ob (qAS (conv .i8 .i64 (List.getD x3 (Int.toNat x2) 0))) fun a10=>
 ob (qHy a10) fun a11=>
 br (a11==x0)
 (rec x0 (IntKind.wrap .i64 (x1+1)) (IntKind.wrap .i64 (x2+1)) x3 x4 x5)
 (rec x0 x1 (IntKind.wrap .i64 (x2+1)) x3 x4 x5))
 (none))
 (some (x0,x1,x3,x4,x5))
def qFd:Nat->Int->Int->Int->List Int->List Int->Int->Option (Int×Int×List Int×List Int×Int)
 | 0,_,_,_,_,_,_=>none
 | f+1,x0,x1,x2,x3,x4,x5=>qH3 (qFd f) x0 x1 x2 x3 x4 x5
def qJU (x0 x1:List Int) (x2 x3:Int):Option (Int):=
 ob (qFd qB x3 0 0 x0 x1 x2) fun (a4_0,a4_1,_,a4_3,_)=>
 br (inB a4_0 8)
 (br (inB a4_0 8)
 (some (IntKind.wrap .i64 (IntKind.wrap .i64 (a4_1+conv .i8 .i64 (List.getD a4_3 (0+Int.toNat a4_0) 0))+conv .i8 .i64 (List.getD a4_3 (8+Int.toNat a4_0) 0))))
 (none))
 (none)
def qJR (x0:Int):Option (Int):=
 br (decide (x0 < 1))
 (some (0))
 (br (decide (x0 > 8))
 (some (0))
 (br (inB x0 9)
 (some (List.getD [0,18,4,4,4,4,2,2,2] (Int.toNat x0) 0))
 (none)))
def qA9 (x0:Int):Option (Int):=
 ob (qAS x0) fun a1=>
 br (a1==0)
 (some (-1))
 (some (IntKind.wrap .i64 (Int.tdiv x0 16)))
def qDG (x0 x1:Int):Option (Int):=
 br (decide (x1 < 0))
 (some (-1))
 (br (decide (x1 > 80))
 (some (-1))
 (br (decide (x0 < 0))
 (some (-1))
 (br (decide (x0 > 1))
 (some (-1))
 (br (x0==0)
 (some (Int.tmod x1 9))
 (some (IntKind.wrap .i64 (8 - Int.tmod x1 9)))))))
def qDF (x0 x1:Int):Option (Bool):=
 ob (qA9 x0) fun a2=>
 ob (qDG a2 x1) fun a3=>
 ob (qAS x0) fun a4=>
 br (a4==1)
 (br (a3==0)
 (some (true))
 (br (a4==3)
 (br (a3==0)
 (some (true))
 (some (a3==1)))
 (some (false))))
 (br (a4==2)
 (br (a3==0)
 (some (true))
 (br (a4==3)
 (br (a3==0)
 (some (true))
 (some (a3==1)))
 (some (false))))
 (br (a4==3)
 (br (a3==0)
 (some (true))
 (some (a3==1)))
 (some (false))))
def qDs (rec:Int->List Int->List Int->Int->Option ((Int×List Int×List Int×Int) ⊕ (List Int×List Int×Int))) (x0:Int) (x1 x2:List Int) (x3:Int):Option ((Int×List Int×List Int×Int) ⊕ (List Int×List Int×Int)):=
 br (decide (x0 < 81))
 (br (inB x0 81)
 (br (List.getD x1 (Int.toNat x0) 0 != 0)
 (br (inB x0 81)
 (ob (qAS (conv .i8 .i64 (List.getD x1 (Int.toNat x0) 0))) fun a7=>
 br (a7==0)
 (some (.inl (55,x1,x2,x3)))
 (rec (IntKind.wrap .i64 (x0+1)) x1 x2 x3))
 (none))
 (rec (IntKind.wrap .i64 (x0+1)) x1 x2 x3))
 (none))
 (some (.inr (x1,x2,x3)))
def qB1:Nat->Int->List Int->List Int->Int->Option ((Int×List Int×List Int×Int) ⊕ (List Int×List Int×Int))
 | 0,_,_,_,_=>none
 | f+1,x0,x1,x2,x3=>qDs (qB1 f) x0 x1 x2 x3
def qDo (rec:Int->Int->List Int->List Int->Int->Option ((Int×Int×List Int×List Int×Int) ⊕ (Int×List Int×List Int×Int))) (x0 x1:Int) (x2 x3:List Int) (x4:Int):Option ((Int×Int×List Int×List Int×Int) ⊕ (Int×List Int×List Int×Int)):=
 br (decide (x1 < 2))
 (br (inB x1 2)
 (br (inB x0 8)
 (br (decide (List.getD x3 (Int.toNat x1 * 8+Int.toNat x0) 0 < 0))
 (some (.inl (55,x0,x2,x3,x4)))
 (br (x0==0)
 (br (List.getD x3 (Int.toNat x1 * 8+Int.toNat x0) 0 != 0)
 (some (.inl (55,x0,x2,x3,x4)))
 (rec x0 (IntKind.wrap .i64 (x1+1)) x2 x3 x4))
 (rec x0 (IntKind.wrap .i64 (x1+1)) x2 x3 x4)))
 (none))
 (none))
 (some (.inr (x0,x2,x3,x4)))
def qBZ:Nat->Int->Int->List Int->List Int->Int->Option ((Int×Int×List Int×List Int×Int) ⊕ (Int×List Int×List Int×Int))
 | 0,_,_,_,_,_=>none
 | f+1,x0,x1,x2,x3,x4=>qDo (qBZ f) x0 x1 x2 x3 x4
def qDt (rec:Int->List Int->List Int->Int->Option ((Int×List Int×List Int×Int) ⊕ (List Int×List Int×Int))) (x0:Int) (x1 x2:List Int) (x3:Int):Option ((Int×List Int×List Int×Int) ⊕ (List Int×List Int×Int)):=
 br (decide (x0 < 8))
 (ob (qBZ qB x0 0 x1 x2 x3) fun t10_2=>
 sw t10_2 (fun (a10_0,_,a10_2,a10_3,a10_4)=>
 some (.inl (a10_0,a10_2,a10_3,a10_4)))
 (fun (a10_0,a10_1,a10_2,a10_3)=>
 rec (IntKind.wrap .i64 (a10_0+1)) a10_1 a10_2 a10_3))
 (some (.inr (x1,x2,x3)))
def qBO:Nat->Int->List Int->List Int->Int->Option ((Int×List Int×List Int×Int) ⊕ (List Int×List Int×Int))
 | 0,_,_,_,_=>none
 | f+1,x0,x1,x2,x3=>qDt (qBO f) x0 x1 x2 x3
def qDp (rec:Int->List Int->List Int->Int->Option ((Int×List Int×List Int×Int) ⊕ (List Int×List Int×Int))) (x0:Int) (x1 x2:List Int) (x3:Int):Option ((Int×List Int×List Int×Int) ⊕ (List Int×List Int×Int)):=
 br (decide (x0 < 8))
 (ob (qJU x1 x2 x3 x0) fun a15=>
 ob (qJR x0) fun a16=>
 br (decide (a15 > a16))
 (some (.inl (51,x1,x2,x3)))
 (rec (IntKind.wrap .i64 (x0+1)) x1 x2 x3))
 (some (.inr (x1,x2,x3)))
def qBL:Nat->Int->List Int->List Int->Int->Option ((Int×List Int×List Int×Int) ⊕ (List Int×List Int×Int))
 | 0,_,_,_,_=>none
 | f+1,x0,x1,x2,x3=>qDp (qBL f) x0 x1 x2 x3
def qDq (rec:Int->List Int->List Int->Int->Option ((Int×List Int×List Int×Int) ⊕ (List Int×List Int×Int))) (x0:Int) (x1 x2:List Int) (x3:Int):Option ((Int×List Int×List Int×Int) ⊕ (List Int×List Int×Int)):=
 br (decide (x0 < 81))
 (br (inB x0 81)
 (ob (qDF (conv .i8 .i64 (List.getD x1 (Int.toNat x0) 0)) x0) fun a18=>
 br (a18)
 (some (.inl (52,x1,x2,x3)))
 (rec (IntKind.wrap .i64 (x0+1)) x1 x2 x3))
 (none))
 (some (.inr (x1,x2,x3)))
def qBM:Nat->Int->List Int->List Int->Int->Option ((Int×List Int×List Int×Int) ⊕ (List Int×List Int×Int))
 | 0,_,_,_,_=>none
 | f+1,x0,x1,x2,x3=>qDq (qBM f) x0 x1 x2 x3
def qDr (rec:Int->List Int->List Int->Int->Option ((Int) ⊕ (Unit))) (x0:Int) (x1 x2:List Int) (x3:Int):Option ((Int) ⊕ (Unit)):=
 br (decide (x0 < 9))
 (ob (qDu x1 x2 x3 1 x0) fun a21=>
 br (decide (a21 > 1))
 (some (.inl (53)))
 (ob (qDu x1 x2 x3 17 x0) fun a22=>
 br (decide (a22 > 1))
 (some (.inl (53)))
 (rec (IntKind.wrap .i64 (x0+1)) x1 x2 x3)))
 (some (.inr ()))
def qBN:Nat->Int->List Int->List Int->Int->Option ((Int) ⊕ (Unit))
 | 0,_,_,_,_=>none
 | f+1,x0,x1,x2,x3=>qDr (qBN f) x0 x1 x2 x3
def qFc (x0 x1:List Int) (x2:Int):Option (Int):=
 br (x2 != 0)
 (br (x2 != 1)
 (some (1))
 (ob (qB1 qB 0 x0 x1 x2) fun t3_2=>
 sw t3_2 (fun (a3_0,_,_,_)=>
 some (a3_0))
 (fun (a3_0,a3_1,a3_2)=>
 ob (qBO qB 0 a3_0 a3_1 a3_2) fun t6_2=>
 sw t6_2 (fun (a6_0,_,_,_)=>
 some (a6_0))
 (fun (a6_0,a6_1,a6_2)=>
 ob (qCF a6_0 a6_1 a6_2 8) fun a9=>
 br (a9 != 1)
 (some (50))
 (ob (qCF a6_0 a6_1 a6_2 24) fun a10=>
 br (a10 != 1)
 (some (50))
 (ob (qBL qB 1 a6_0 a6_1 a6_2) fun t11_2=>
 sw t11_2 (fun (a11_0,_,_,_)=>
 some (a11_0))
 (fun (a11_0,a11_1,a11_2)=>
 ob (qBM qB 0 a11_0 a11_1 a11_2) fun t14_2=>
 sw t14_2 (fun (a14_0,_,_,_)=>
 some (a14_0))
 (fun (a14_0,a14_1,a14_2)=>
 ob (qBN qB 0 a14_0 a14_1 a14_2) fun t17_2=>
 sw t17_2 (fun a17=>
 some (a17))
 (fun _=>
 some (0))))))))))
 (ob (qB1 qB 0 x0 x1 x2) fun t3_2=>
 sw t3_2 (fun (a3_0,_,_,_)=>
 some (a3_0))
 (fun (a3_0,a3_1,a3_2)=>
 ob (qBO qB 0 a3_0 a3_1 a3_2) fun t6_2=>
 sw t6_2 (fun (a6_0,_,_,_)=>
 some (a6_0))
 (fun (a6_0,a6_1,a6_2)=>
 ob (qCF a6_0 a6_1 a6_2 8) fun a9=>
 br (a9 != 1)
 (some (50))
 (ob (qCF a6_0 a6_1 a6_2 24) fun a10=>
 br (a10 != 1)
 (some (50))
 (ob (qBL qB 1 a6_0 a6_1 a6_2) fun t11_2=>
 sw t11_2 (fun (a11_0,_,_,_)=>
 some (a11_0))
 (fun (a11_0,a11_1,a11_2)=>
 ob (qBM qB 0 a11_0 a11_1 a11_2) fun t14_2=>
 sw t14_2 (fun (a14_0,_,_,_)=>
 some (a14_0))
 (fun (a14_0,a14_1,a14_2)=>
 ob (qBN qB 0 a14_0 a14_1 a14_2) fun t17_2=>
 sw t17_2 (fun a17=>
 some (a17))
 (fun _=>
 some (0)))))))))
def qC3 (_x0 _x1:List Int) (_x2:Int) (_x3 x4:List (List Int)):Option (Int×Int):=
 ob (qD2 (List.headD (List.take 2 (List.getD x4 0 [])) 0) (List.headD (List.tail (List.take 2 (List.getD x4 0 []))) 0) (List.headD (List.take 2 (List.getD x4 1 [])) 0) (List.headD (List.tail (List.take 2 (List.getD x4 1 []))) 0)) fun (a5_0,a5_1)=>
 some (a5_0,a5_1)
def qF1 (x0:Int):Option (Int):=
 some (qF BinOp.and .i64 (conv .u64 .i64 (IntKind.wrap .u64 (IntKind.wrap .u64 (IntKind.wrap .u64 (qF BinOp.and .u64 (IntKind.wrap .u64 (Int.fdiv (IntKind.wrap .u64 (qF BinOp.and .u64 (Int.fdiv (IntKind.wrap .u64 (qF BinOp.and .u64 (Int.fdiv x0 2) 6148914691236517205+qF BinOp.and .u64 x0 6148914691236517205)) 4) 3689348814741910323+qF BinOp.and .u64 (IntKind.wrap .u64 (qF BinOp.and .u64 (Int.fdiv x0 2) 6148914691236517205+qF BinOp.and .u64 x0 6148914691236517205)) 3689348814741910323)) 16+IntKind.wrap .u64 (qF BinOp.and .u64 (Int.fdiv (IntKind.wrap .u64 (qF BinOp.and .u64 (Int.fdiv x0 2) 6148914691236517205+qF BinOp.and .u64 x0 6148914691236517205)) 4) 3689348814741910323+qF BinOp.and .u64 (IntKind.wrap .u64 (qF BinOp.and .u64 (Int.fdiv x0 2) 6148914691236517205+qF BinOp.and .u64 x0 6148914691236517205)) 3689348814741910323))) 1085102592571150095+Int.fdiv (qF BinOp.and .u64 (IntKind.wrap .u64 (Int.fdiv (IntKind.wrap .u64 (qF BinOp.and .u64 (Int.fdiv (IntKind.wrap .u64 (qF BinOp.and .u64 (Int.fdiv x0 2) 6148914691236517205+qF BinOp.and .u64 x0 6148914691236517205)) 4) 3689348814741910323+qF BinOp.and .u64 (IntKind.wrap .u64 (qF BinOp.and .u64 (Int.fdiv x0 2) 6148914691236517205+qF BinOp.and .u64 x0 6148914691236517205)) 3689348814741910323)) 16+IntKind.wrap .u64 (qF BinOp.and .u64 (Int.fdiv (IntKind.wrap .u64 (qF BinOp.and .u64 (Int.fdiv x0 2) 6148914691236517205+qF BinOp.and .u64 x0 6148914691236517205)) 4) 3689348814741910323+qF BinOp.and .u64 (IntKind.wrap .u64 (qF BinOp.and .u64 (Int.fdiv x0 2) 6148914691236517205+qF BinOp.and .u64 x0 6148914691236517205)) 3689348814741910323))) 1085102592571150095) 256)+Int.fdiv (IntKind.wrap .u64 (qF BinOp.and .u64 (IntKind.wrap .u64 (Int.fdiv (IntKind.wrap .u64 (qF BinOp.and .u64 (Int.fdiv (IntKind.wrap .u64 (qF BinOp.and .u64 (Int.fdiv x0 2) 6148914691236517205+qF BinOp.and .u64 x0 6148914691236517205)) 4) 3689348814741910323+qF BinOp.and .u64 (IntKind.wrap .u64 (qF BinOp.and .u64 (Int.fdiv x0 2) 6148914691236517205+qF BinOp.and .u64 x0 6148914691236517205)) 3689348814741910323)) 16+IntKind.wrap .u64 (qF BinOp.and .u64 (Int.fdiv (IntKind.wrap .u64 (qF BinOp.and .u64 (Int.fdiv x0 2) 6148914691236517205+qF BinOp.and .u64 x0 6148914691236517205)) 4) 3689348814741910323+qF BinOp.and .u64 (IntKind.wrap .u64 (qF BinOp.and .u64 (Int.fdiv x0 2) 6148914691236517205+qF BinOp.and .u64 x0 6148914691236517205)) 3689348814741910323))) 1085102592571150095+Int.fdiv (qF BinOp.and .u64 (IntKind.wrap .u64 (Int.fdiv (IntKind.wrap .u64 (qF BinOp.and .u64 (Int.fdiv (IntKind.wrap .u64 (qF BinOp.and .u64 (Int.fdiv x0 2) 6148914691236517205+qF BinOp.and .u64 x0 6148914691236517205)) 4) 3689348814741910323+qF BinOp.and .u64 (IntKind.wrap .u64 (qF BinOp.and .u64 (Int.fdiv x0 2) 6148914691236517205+qF BinOp.and .u64 x0 6148914691236517205)) 3689348814741910323)) 16+IntKind.wrap .u64 (qF BinOp.and .u64 (Int.fdiv (IntKind.wrap .u64 (qF BinOp.and .u64 (Int.fdiv x0 2) 6148914691236517205+qF BinOp.and .u64 x0 6148914691236517205)) 4) 3689348814741910323+qF BinOp.and .u64 (IntKind.wrap .u64 (qF BinOp.and .u64 (Int.fdiv x0 2) 6148914691236517205+qF BinOp.and .u64 x0 6148914691236517205)) 3689348814741910323))) 1085102592571150095) 256)) 65536)+Int.fdiv (IntKind.wrap .u64 (IntKind.wrap .u64 (qF BinOp.and .u64 (IntKind.wrap .u64 (Int.fdiv (IntKind.wrap .u64 (qF BinOp.and .u64 (Int.fdiv (IntKind.wrap .u64 (qF BinOp.and .u64 (Int.fdiv x0 2) 6148914691236517205+qF BinOp.and .u64 x0 6148914691236517205)) 4) 3689348814741910323+qF BinOp.and .u64 (IntKind.wrap .u64 (qF BinOp.and .u64 (Int.fdiv x0 2) 6148914691236517205+qF BinOp.and .u64 x0 6148914691236517205)) 3689348814741910323)) 16+IntKind.wrap .u64 (qF BinOp.and .u64 (Int.fdiv (IntKind.wrap .u64 (qF BinOp.and .u64 (Int.fdiv x0 2) 6148914691236517205+qF BinOp.and .u64 x0 6148914691236517205)) 4) 3689348814741910323+qF BinOp.and .u64 (IntKind.wrap .u64 (qF BinOp.and .u64 (Int.fdiv x0 2) 6148914691236517205+qF BinOp.and .u64 x0 6148914691236517205)) 3689348814741910323))) 1085102592571150095+Int.fdiv (qF BinOp.and .u64 (IntKind.wrap .u64 (Int.fdiv (IntKind.wrap .u64 (qF BinOp.and .u64 (Int.fdiv (IntKind.wrap .u64 (qF BinOp.and .u64 (Int.fdiv x0 2) 6148914691236517205+qF BinOp.and .u64 x0 6148914691236517205)) 4) 3689348814741910323+qF BinOp.and .u64 (IntKind.wrap .u64 (qF BinOp.and .u64 (Int.fdiv x0 2) 6148914691236517205+qF BinOp.and .u64 x0 6148914691236517205)) 3689348814741910323)) 16+IntKind.wrap .u64 (qF BinOp.and .u64 (Int.fdiv (IntKind.wrap .u64 (qF BinOp.and .u64 (Int.fdiv x0 2) 6148914691236517205+qF BinOp.and .u64 x0 6148914691236517205)) 4) 3689348814741910323+qF BinOp.and .u64 (IntKind.wrap .u64 (qF BinOp.and .u64 (Int.fdiv x0 2) 6148914691236517205+qF BinOp.and .u64 x0 6148914691236517205)) 3689348814741910323))) 1085102592571150095) 256)+Int.fdiv (IntKind.wrap .u64 (qF BinOp.and .u64 (IntKind.wrap .u64 (Int.fdiv (IntKind.wrap .u64 (qF BinOp.and .u64 (Int.fdiv (IntKind.wrap .u64 (qF BinOp.and .u64 (Int.fdiv x0 2) 6148914691236517205+qF BinOp.and .u64 x0 6148914691236517205)) 4) 3689348814741910323+qF BinOp.and .u64 (IntKind.wrap .u64 (qF BinOp.and .u64 (Int.fdiv x0 2) 6148914691236517205+qF BinOp.and .u64 x0 6148914691236517205)) 3689348814741910323)) 16+IntKind.wrap .u64 (qF BinOp.and .u64 (Int.fdiv (IntKind.wrap .u64 (qF BinOp.and .u64 (Int.fdiv x0 2) 6148914691236517205+qF BinOp.and .u64 x0 6148914691236517205)) 4) 3689348814741910323+qF BinOp.and .u64 (IntKind.wrap .u64 (qF BinOp.and .u64 (Int.fdiv x0 2) 6148914691236517205+qF BinOp.and .u64 x0 6148914691236517205)) 3689348814741910323))) 1085102592571150095+Int.fdiv (qF BinOp.and .u64 (IntKind.wrap .u64 (Int.fdiv (IntKind.wrap .u64 (qF BinOp.and .u64 (Int.fdiv (IntKind.wrap .u64 (qF BinOp.and .u64 (Int.fdiv x0 2) 6148914691236517205+qF BinOp.and .u64 x0 6148914691236517205)) 4) 3689348814741910323+qF BinOp.and .u64 (IntKind.wrap .u64 (qF BinOp.and .u64 (Int.fdiv x0 2) 6148914691236517205+qF BinOp.and .u64 x0 6148914691236517205)) 3689348814741910323)) 16+IntKind.wrap .u64 (qF BinOp.and .u64 (Int.fdiv (IntKind.wrap .u64 (qF BinOp.and .u64 (Int.fdiv x0 2) 6148914691236517205+qF BinOp.and .u64 x0 6148914691236517205)) 4) 3689348814741910323+qF BinOp.and .u64 (IntKind.wrap .u64 (qF BinOp.and .u64 (Int.fdiv x0 2) 6148914691236517205+qF BinOp.and .u64 x0 6148914691236517205)) 3689348814741910323))) 1085102592571150095) 256)) 65536)) 4294967296))) 127)
def qGb (x0 x1:Int):Option (Int):=
 ob (qF1 x0) fun a2=>
 ob (qF1 x1) fun a3=>
 some (IntKind.wrap .i64 (a2+a3))
def qC2 (x0 x1:Int) (_x2 _x3:List Int) (_x4:Int) (x5 _x6:List (List Int)):Option (Int×Int):=
 ob (qAi x0 x1) fun a7=>
 br (a7==0)
 (some (0,0))
 (br (inB a7 32)
 (some (List.headD (List.take 2 (List.getD x5 (Int.toNat a7) [])) 0,List.headD (List.tail (List.take 2 (List.getD x5 (Int.toNat a7) []))) 0))
 (none))
def qNU (BBB:Bool->Option (Int)->Option (Int)->Option (Int)) (x0:Int):Option (Int):=
 br (x0==0)
 (some (64))
 (BBB (inB (Int.fdiv (IntKind.wrap .u64 (qF BinOp.and .u64 x0 (IntKind.wrap .u64 (0 - x0)) * 285870213051353865)) 288230376151711744) 64)
 (some (conv .u8 .i64 (List.getD [0,1,56,2,57,49,28,3,61,58,42,50,38,29,17,4,62,47,59,36,45,43,51,22,53,39,33,30,24,18,12,5,63,55,48,27,60,41,37,16,46,35,44,21,52,32,23,11,54,26,40,15,34,20,31,10,25,14,19,9,13,8,7,6] (Int.toNat (Int.fdiv (IntKind.wrap .u64 (qF BinOp.and .u64 x0 (IntKind.wrap .u64 (0 - x0)) * 285870213051353865)) 288230376151711744)) 0)))
 (none))
def qEw (x0:Int):Option (Int):=qNU br x0
def qGd (x0 x1:Int):Option (Int):=
 br (x0 != 0)
 (ob (qEw x0) fun a2=>
 some (a2))
 (br (x1 != 0)
 (ob (qEw x1) fun a2=>
 some (IntKind.wrap .i64 (63+a2)))
 (some (-1)))
def qF3 (x0:Int) (x1 x2:List Int) (x3:Int) (x4 x5:List (List Int)):Option (Int):=
 ob (qC2 x0 8 x1 x2 x3 x4 x5) fun (a6_0,a6_1)=>
 ob (qGd a6_0 a6_1) fun a8=>
 some (a8)
def qLm (x0:Int):Option (Int):=
 br (x0==1)
 (some (18))
 (br (x0==2)
 (some (4))
 (br (x0==3)
 (some (4))
 (br (x0==4)
 (some (4))
 (br (x0==5)
 (some (4))
 (br (x0==6)
 (some (2))
 (br (x0==7)
 (some (2))
 (br (x0==8)
 (some (2))
 (some (0)))))))))
def qFp (x0:Int):Option (Int):=
 some (Int.tmod x0 9)
def qFt (x0 x1:Int):Option (Int):=
 br (decide (x1 < 0))
 (some (-1))
 (br (decide (x1 >= 81))
 (some (-1))
 (br (x0==0)
 (ob (qFp x1) fun a2=>
 some (a2))
 (br (x0==1)
 (ob (qFp x1) fun a2=>
 some (IntKind.wrap .i64 (8 - a2)))
 (some (-1)))))
def qD5 (x0 x1:Int):Option (Bool):=
 ob (qAQ x0) fun a2=>
 ob (qFt a2 x1) fun a3=>
 ob (qAC x0) fun a4=>
 br (a4==1)
 (some (a3==0))
 (br (a4==2)
 (some (a3==0))
 (br (a4==3)
 (br (a3==0)
 (some (true))
 (some (a3==1)))
 (some (false))))
def qdT (rec:Int->Int->Int->Int->Int->Int->Option (Int×Int×Int×Int)) (x0 x1:Int) (x2 x3:Int) (x4 x5:Int):Option (Int×Int×Int×Int):=
 br (decide (x1 < 9))
 (ob (qCZ x0 x1) fun a7=>
 ob (qBA x4 x5 a7) fun (a8_0,a8_1)=>
 rec x0 (IntKind.wrap .i64 (x1+1)) x2 x3 a8_0 a8_1)
 (some (x2,x3,x4,x5))
def qMU:Nat->Int->Int->Int->Int->Int->Int->Option (Int×Int×Int×Int)
 | 0,_,_,_,_,_,_=>none
 | f+1,x0,x1,x2,x3,x4,x5=>qdT (qMU f) x0 x1 x2 x3 x4 x5
def qIP (x0:Int):Option (Int×Int):=
 ob (qMU qB x0 0 0 0 0 0) fun (_,_,a1_2,a1_3)=>
 some (a1_2,a1_3)
def qCv (x0 x1:Int) (x2 x3:Int):Option (Int×Int):=
 some (qF BinOp.and .u64 x0 x2,qF BinOp.and .u64 x1 x3)
def qG4 (rec:List Int->Int->List Int->List Int->Int->Option ((Int×List Int×List Int×Int) ⊕ (List Int×List Int×Int))) (x0:List Int) (x1:Int) (x2 x3:List Int) (x4:Int):Option ((Int×List Int×List Int×Int) ⊕ (List Int×List Int×Int)):=
 br (decide (x1 < 81))
 (br (inB x1 81)
 (ob (qD5 (List.getD x0 (bif true then Int.toNat x1 else Int.toNat x1 * 1) 0) x1) fun a8=>
 br (a8)
 (some (.inl (52,x2,x3,x4)))
 (rec x0 (IntKind.wrap .i64 (x1+1)) x2 x3 x4))
 (none))
 (some (.inr (x2,x3,x4)))
def qE2:Nat->List Int->Int->List Int->List Int->Int->Option ((Int×List Int×List Int×Int) ⊕ (List Int×List Int×Int))
 | 0,_,_,_,_,_=>none
 | f+1,x0,x1,x2,x3,x4=>qG4 (qE2 f) x0 x1 x2 x3 x4
def qE1 (rec:Int->Int->Int->List Int->List Int->Int->List (List Int)->List (List Int)->Option ((Int×Int×List Int×List Int×Int×List (List Int)×List (List Int)) ⊕ (Int×List Int×List Int×Int×List (List Int)×List (List Int)))) (x0 x1 x2:Int) (x3 x4:List Int) (x5:Int) (x6 x7:List (List Int)):Option ((Int×Int×List Int×List Int×Int×List (List Int)×List (List Int)) ⊕ (Int×List Int×List Int×Int×List (List Int)×List (List Int))):=
 br (decide (x2 < 2))
 (ob (qC2 x2 1 x3 x4 x5 x6 x7) fun (a25_0,a25_1)=>
 ob (qIP x0) fun (a27_0,a27_1)=>
 ob (qCv a25_0 a25_1 a27_0 a27_1) fun (a29_0,a29_1)=>
 ob (qGb a29_0 a29_1) fun a31=>
 br (decide (a31 > 1))
 (some (.inl (53,x1,x3,x4,x5,x6,x7)))
 (rec x0 x1 (IntKind.wrap .i64 (x2+1)) x3 x4 x5 x6 x7))
 (some (.inr (x1,x3,x4,x5,x6,x7)))
def qE0:Nat->Int->Int->Int->List Int->List Int->Int->List (List Int)->List (List Int)->Option ((Int×Int×List Int×List Int×Int×List (List Int)×List (List Int)) ⊕ (Int×List Int×List Int×Int×List (List Int)×List (List Int)))
 | 0,_,_,_,_,_,_,_,_=>none
 | f+1,x0,x1,x2,x3,x4,x5,x6,x7=>qE1 (qE0 f) x0 x1 x2 x3 x4 x5 x6 x7
def qG5 (rec:Int->List Int->List Int->Int->List (List Int)->List (List Int)->Option ((Int) ⊕ (Unit))) (x0:Int) (x1 x2:List Int) (x3:Int) (x4 x5:List (List Int)):Option ((Int) ⊕ (Unit)):=
 br (decide (x0 < 9))
 (ob (qE0 qB x0 x0 0 x1 x2 x3 x4 x5) fun t17_2=>
 sw t17_2 (fun (a17_0,_,_,_,_,_,_)=>
 some (.inl (a17_0)))
 (fun (a17_0,a17_1,a17_2,a17_3,a17_4,a17_5)=>
 rec (IntKind.wrap .i64 (a17_0+1)) a17_1 a17_2 a17_3 a17_4 a17_5))
 (some (.inr ()))
def qE3:Nat->Int->List Int->List Int->Int->List (List Int)->List (List Int)->Option ((Int) ⊕ (Unit))
 | 0,_,_,_,_,_,_=>none
 | f+1,x0,x1,x2,x3,x4,x5=>qG5 (qE3 f) x0 x1 x2 x3 x4 x5
def qF8 (x0 x1:List Int) (x2:Int):Option (Int):=
 ob (qE2 qB x0 0 x0 x1 x2) fun t3_2=>
 sw t3_2 (fun (a3_0,_,_,_)=>
 some (a3_0))
 (fun (a3_0,a3_1,a3_2)=>
 ob (qF4 a3_0 a3_1 a3_2) fun (a6_0,a6_1,a6_2,a6_3,a6_4)=>
 ob (qE3 qB 0 a6_0 a6_1 a6_2 a6_3 a6_4) fun t11_2=>
 sw t11_2 (fun a11=>
 some (a11))
 (fun _=>
 some (0)))
def qEy (rec:List Int->Int->List Int->List Int->Int->List Int->List Int->Option ((Int×List Int×List Int×Int×List Int×List Int) ⊕ (List Int×List Int×Int×List Int×List Int))) (x0:List Int) (x1:Int) (x2 x3:List Int) (x4:Int) (x5 x6:List Int):Option ((Int×List Int×List Int×Int×List Int×List Int) ⊕ (List Int×List Int×Int×List Int×List Int)):=
 br (decide (x1 < 81))
 (br (inB x1 81)
 (ob (qAC (List.getD x0 (bif true then Int.toNat x1 else Int.toNat x1 * 1) 0)) fun a10=>
 br (List.getD x0 (bif true then Int.toNat x1 else Int.toNat x1 * 1) 0==0)
 (rec x0 (IntKind.wrap .i64 (x1+1)) x2 x3 x4 x5 x6)
 (br (a10==0)
 (some (.inl (55,x2,x3,x4,x5,x6)))
 (br (a10==8)
 (ob (qAQ (List.getD x0 (bif true then Int.toNat x1 else Int.toNat x1 * 1) 0)) fun a11=>
 br (inB a11 2)
 (br (inB a11 2)
 (ob (qCs a10) fun a12=>
 br (inB a12 9)
 (br (inB a12 9)
 (rec x0 (IntKind.wrap .i64 (x1+1)) x2 x3 x4 (List.set x5 (Int.toNat a12) (IntKind.wrap .i64 (List.getD x5 (Int.toNat a12) 0+1))) (List.set x6 (Int.toNat a11) (IntKind.wrap .i64 (List.getD x6 (Int.toNat a11) 0+1))))
 (none))
 (none))
 (none))
 (none))
 (ob (qCs a10) fun a11=>
 br (inB a11 9)
 (br (inB a11 9)
 (rec x0 (IntKind.wrap .i64 (x1+1)) x2 x3 x4 (List.set x5 (Int.toNat a11) (IntKind.wrap .i64 (List.getD x5 (Int.toNat a11) 0+1))) x6)
 (none))
 (none)))))
 (none))
 (some (.inr (x2,x3,x4,x5,x6)))
def qCN:Nat->List Int->Int->List Int->List Int->Int->List Int->List Int->Option ((Int×List Int×List Int×Int×List Int×List Int) ⊕ (List Int×List Int×Int×List Int×List Int))
 | 0,_,_,_,_,_,_,_=>none
 | f+1,x0,x1,x2,x3,x4,x5,x6=>qEy (qCN f) x0 x1 x2 x3 x4 x5 x6
def qEx (rec:List Int->Int->List Int->Int->List Int->List Int->Int->List Int->List Int->Option ((Int×List Int×Int×List Int×List Int×Int×List Int×List Int) ⊕ (List Int×Int×List Int×List Int×Int×List Int×List Int))) (x0:List Int) (x1:Int) (x2:List Int) (x3:Int) (x4 x5:List Int) (x6:Int) (x7 x8:List Int):Option ((Int×List Int×Int×List Int×List Int×Int×List Int×List Int) ⊕ (List Int×Int×List Int×List Int×Int×List Int×List Int)):=
 br (decide (x3 < 8))
 (br (inB x3 8)
 (br (decide (List.getD x2 (bif true then Int.toNat x3 else Int.toNat x3 * 1) 0 < 0))
 (some (.inl (55,x0,x1,x4,x5,x6,x7,x8)))
 (br (decide (List.getD x2 (bif true then Int.toNat x3 else Int.toNat x3 * 1) 0 > 0))
 (br (x3==0)
 (some (.inl (55,x0,x1,x4,x5,x6,x7,x8)))
 (br (x3==8)
 (some (.inl (55,x0,x1,x4,x5,x6,x7,x8)))
 (br (inB x3 9)
 (br (inB x3 9)
 (rec x0 x1 x2 (IntKind.wrap .i64 (x3+1)) x4 x5 x6 (List.set x7 (Int.toNat x3) (IntKind.wrap .i64 (List.getD x7 (Int.toNat x3) 0+conv .i8 .i64 (List.getD x2 (bif true then Int.toNat x3 else Int.toNat x3 * 1) 0)))) x8)
 (none))
 (none))))
 (br (inB x3 9)
 (br (inB x3 9)
 (rec x0 x1 x2 (IntKind.wrap .i64 (x3+1)) x4 x5 x6 (List.set x7 (Int.toNat x3) (IntKind.wrap .i64 (List.getD x7 (Int.toNat x3) 0+conv .i8 .i64 (List.getD x2 (bif true then Int.toNat x3 else Int.toNat x3 * 1) 0)))) x8)
 (none))
 (none))))
 (none))
 (some (.inr (x0,x1,x4,x5,x6,x7,x8)))
def qC1:Nat->List Int->Int->List Int->Int->List Int->List Int->Int->List Int->List Int->Option ((Int×List Int×Int×List Int×List Int×Int×List Int×List Int) ⊕ (List Int×Int×List Int×List Int×Int×List Int×List Int))
 | 0,_,_,_,_,_,_,_,_,_=>none
 | f+1,x0,x1,x2,x3,x4,x5,x6,x7,x8=>qEx (qC1 f) x0 x1 x2 x3 x4 x5 x6 x7 x8
def qDT (rec:List Int->Int->List Int->List Int->Int->List Int->List Int->Option ((Int×List Int×List Int×Int×List Int×List Int) ⊕ (List Int×List Int×Int×List Int×List Int))) (x0:List Int) (x1:Int) (x2 x3:List Int) (x4:Int) (x5 x6:List Int):Option ((Int×List Int×List Int×Int×List Int×List Int) ⊕ (List Int×List Int×Int×List Int×List Int)):=
 br (decide (x1 < 2))
 (br (inB x1 2)
 (ob (qC1 qB x0 x1 (List.take 8 (List.drop (Nat.add (Nat.mul (Int.toNat x1) 7) (Int.toNat x1)) x0)) 0 x2 x3 x4 x5 x6) fun t15_2=>
 sw t15_2 (fun (a15_0,_,_,a15_3,a15_4,a15_5,a15_6,a15_7)=>
 some (.inl (a15_0,a15_3,a15_4,a15_5,a15_6,a15_7)))
 (fun (a15_0,a15_1,a15_2,a15_3,a15_4,a15_5,a15_6)=>
 rec a15_0 (IntKind.wrap .i64 (a15_1+1)) a15_2 a15_3 a15_4 a15_5 a15_6))
 (none))
 (some (.inr (x2,x3,x4,x5,x6)))
def qCf:Nat->List Int->Int->List Int->List Int->Int->List Int->List Int->Option ((Int×List Int×List Int×Int×List Int×List Int) ⊕ (List Int×List Int×Int×List Int×List Int))
 | 0,_,_,_,_,_,_,_=>none
 | f+1,x0,x1,x2,x3,x4,x5,x6=>qDT (qCf f) x0 x1 x2 x3 x4 x5 x6
def qGz (rec:Int->List Int->List Int->Int->List Int->Option ((Int×List Int×List Int×Int) ⊕ (List Int×List Int×Int))) (x0:Int) (x1 x2:List Int) (x3:Int) (x4:List Int):Option ((Int×List Int×List Int×Int) ⊕ (List Int×List Int×Int)):=
 br (decide (x0 < 8))
 (br (inB x0 9)
 (ob (qLm x0) fun a18=>
 br (decide (List.getD x4 (Int.toNat x0) 0 > a18))
 (some (.inl (51,x1,x2,x3)))
 (rec (IntKind.wrap .i64 (x0+1)) x1 x2 x3 x4))
 (none))
 (some (.inr (x1,x2,x3)))
def qDU:Nat->Int->List Int->List Int->Int->List Int->Option ((Int×List Int×List Int×Int) ⊕ (List Int×List Int×Int))
 | 0,_,_,_,_,_=>none
 | f+1,x0,x1,x2,x3,x4=>qGz (qDU f) x0 x1 x2 x3 x4
def qIm (x0 x1:List Int) (x2:Int):Option (Int):=
 br (x2 != 0)
 (br (x2 != 1)
 (some (1))
 (ob (qCN qB x0 0 x0 x1 x2 ([0,0,0,0,0,0,0,0,0]) ([0,0])) fun t3_2=>
 sw t3_2 (fun (a3_0,_,_,_,_,_)=>
 some (a3_0))
 (fun (a3_0,a3_1,a3_2,a3_3,a3_4)=>
 ob (qCf qB a3_1 0 a3_0 a3_1 a3_2 a3_3 a3_4) fun t8_2=>
 sw t8_2 (fun (a8_0,_,_,_,_,_)=>
 some (a8_0))
 (fun (a8_0,a8_1,a8_2,a8_3,a8_4)=>
 br (!a8_4==[1,1])
 (some (50))
 (ob (qDU qB 1 a8_0 a8_1 a8_2 a8_3) fun t13_2=>
 sw t13_2 (fun (a13_0,_,_,_)=>
 some (a13_0))
 (fun (a13_0,a13_1,a13_2)=>
 ob (qF8 a13_0 a13_1 a13_2) fun a16=>
 some (a16)))))))
 (ob (qCN qB x0 0 x0 x1 x2 ([0,0,0,0,0,0,0,0,0]) ([0,0])) fun t3_2=>
 sw t3_2 (fun (a3_0,_,_,_,_,_)=>
 some (a3_0))
 (fun (a3_0,a3_1,a3_2,a3_3,a3_4)=>
 ob (qCf qB a3_1 0 a3_0 a3_1 a3_2 a3_3 a3_4) fun t8_2=>
 sw t8_2 (fun (a8_0,_,_,_,_,_)=>
 some (a8_0))
 (fun (a8_0,a8_1,a8_2,a8_3,a8_4)=>
 br (!a8_4==[1,1])
 (some (50))
 (ob (qDU qB 1 a8_0 a8_1 a8_2 a8_3) fun t13_2=>
 sw t13_2 (fun (a13_0,_,_,_)=>
 some (a13_0))
 (fun (a13_0,a13_1,a13_2)=>
 ob (qF8 a13_0 a13_1 a13_2) fun a16=>
 some (a16))))))
def qKK (x0 x1:List Int) (x2:Int) (x3 x4:List (List Int)):Option (List Int×List Int×Int×List (List Int)×List (List Int)):=
 some (x0,x1,x2,x3,x4)
def qF6 (x0:Int) (_x1 _x2:List Int) (_x3:Int) (_x4 x5:List (List Int)):Option (Int×Int):=
 br (x0 != 0)
 (br (x0 != 1)
 (some (0,0))
 (br (inB x0 2)
 (some (List.headD (List.take 2 (List.getD x5 (Int.toNat x0) [])) 0,List.headD (List.tail (List.take 2 (List.getD x5 (Int.toNat x0) []))) 0))
 (none)))
 (br (inB x0 2)
 (some (List.headD (List.take 2 (List.getD x5 (Int.toNat x0) [])) 0,List.headD (List.tail (List.take 2 (List.getD x5 (Int.toNat x0) []))) 0))
 (none))
def qEc (x0 x1:Int):Option (Bool):=
 some (x0==0&&x1==0)
def qCG (x0 x1 x2:Int):Option (Bool):=
 ob (qFr x2) fun (a3_0,a3_1)=>
 ob (qCv x0 x1 a3_0 a3_1) fun (a5_0,a5_1)=>
 ob (qEc a5_0 a5_1) fun a7=>
 some (!a7)
def qGZ:Option (Int×Int):=
 some (9223372036854775807,262143)
def qMY (rec:Nat->Int->Int->Nat->List Int->Option (Nat×Int×Int×Nat×List Int)) (x0:Nat) (x1 x2:Int) (x3:Nat) (x4:List Int):Option (Nat×Int×Int×Nat×List Int):=
 br (x1 != 0)
 (ob (qEw x1) fun a7=>
 br (decide ((x0+1) * 8<=140737488355328))
 (rec (x0+1) (qF BinOp.and .u64 x1 (IntKind.wrap .u64 (x1 - 1))) x2 (x0+1) (List.append (List.take x0 x4) [a7]))
 (none))
 (some (x0,x1,x2,x3,x4))
def qIU:Nat->Nat->Int->Int->Nat->List Int->Option (Nat×Int×Int×Nat×List Int)
 | 0,_,_,_,_,_=>none
 | f+1,x0,x1,x2,x3,x4=>qMY (qIU f) x0 x1 x2 x3 x4
def qMZ (rec:Nat->Int->Int->Nat->List Int->Option (Nat×Nat×List Int)) (x0:Nat) (x1 x2:Int) (x3:Nat) (x4:List Int):Option (Nat×Nat×List Int):=
 br (x2 != 0)
 (ob (qEw x2) fun a12=>
 br (decide ((x0+1) * 8<=140737488355328))
 (rec (x0+1) x1 (qF BinOp.and .u64 x2 (IntKind.wrap .u64 (x2 - 1))) (x0+1) (List.append (List.take x0 x4) [IntKind.wrap .i64 (63+a12)]))
 (none))
 (some (x0,x3,x4))
def qIV:Nat->Nat->Int->Int->Nat->List Int->Option (Nat×Nat×List Int)
 | 0,_,_,_,_,_=>none
 | f+1,x0,x1,x2,x3,x4=>qMZ (qIV f) x0 x1 x2 x3 x4
def qEd (x0 x1:Int):Option (Nat×Nat×List Int):=
 ob (qIU qB 0 x0 x1 0 []) fun (a2_0,a2_1,a2_2,a2_3,a2_4)=>
 ob (qIV qB a2_0 a2_1 a2_2 a2_3 a2_4) fun (a7_0,a7_1,a7_2)=>
 some (a7_0,a7_1,a7_2)
def qtA (self:Int->Option (Nat×Nat×List (List Int))) (x0:Int):Option (Nat×Nat×List (List Int)):=
 br (x0==1)
 (some (1,1,[[0,-1]]))
 (br (x0==3)
 (some (2,2,[[-1,-2],[1,-2]]))
 (br (x0==4)
 (some (5,5,[[-1,-1],[0,-1],[1,-1],[-1,1],[1,1]]))
 (br (x0==5)
 (some (6,6,[[-1,-1],[0,-1],[1,-1],[-1,0],[1,0],[0,1]]))
 (br (x0==9)
 (some (6,6,[[-1,-1],[0,-1],[1,-1],[-1,0],[1,0],[0,1]]))
 (br (x0==10)
 (some (6,6,[[-1,-1],[0,-1],[1,-1],[-1,0],[1,0],[0,1]]))
 (br (x0==11)
 (some (6,6,[[-1,-1],[0,-1],[1,-1],[-1,0],[1,0],[0,1]]))
 (br (x0==12)
 (some (6,6,[[-1,-1],[0,-1],[1,-1],[-1,0],[1,0],[0,1]]))
 (br (x0==8)
 (ob (self 5) fun (a1_0,_,a1_2)=>
 br (decide ((a1_0+2) * 16<=140737488355328))
 (some (a1_0+2,a1_0+2,List.append (List.take a1_0 a1_2) [[-1,1],[1,1]]))
 (none))
 (br (x0==14)
 (some (4,4,[[0,-1],[-1,0],[1,0],[0,1]]))
 (br (x0==15)
 (some (4,4,[[-1,-1],[1,-1],[-1,1],[1,1]]))
 (some (0,0,[]))))))))))))
def qGj:Nat->Int->Option (Nat×Nat×List (List Int))
 | 0,_=>none
 | f+1,x0=>qtA (qGj f) x0
def qFs (x0 x1 x2:Int):Option (Int×Int):=
 br (x2==1)
 (some (IntKind.wrap .i64 (0 - x0),IntKind.wrap .i64 (0 - x1)))
 (some (x0,x1))
def qGc (x0:Int):Option (Int):=
 some (IntKind.wrap .i64 (Int.tdiv x0 9))
def qGi (x0 x1 x2:Int):Option (Int):=
 br (decide (x2 < 0))
 (some (-1))
 (br (decide (x2 >= 81))
 (some (-1))
 (br (decide (x0 < -8))
 (some (-1))
 (br (decide (x0 > 8))
 (some (-1))
 (br (decide (x1 < -8))
 (some (-1))
 (br (decide (x1 > 8))
 (some (-1))
 (ob (qGc x2) fun a3=>
 ob (qFp x2) fun a4=>
 ob (qCZ (IntKind.wrap .i64 (a3+x0)) (IntKind.wrap .i64 (a4+x1))) fun a5=>
 some (a5)))))))
def qIZ (rec:Int->Int->Nat->Int->Int->Int->Int->Int->Int->Nat->List (List Int)->Option (Int×Int×Int×Int)) (x0 x1:Int) (x2:Nat) (x3 x4:Int) (x5 x6:Int) (x7 x8:Int) (x9:Nat) (x10:List (List Int)):Option (Int×Int×Int×Int):=
 br (decide (x4 < x3))
 (br (inB x4 x2)
 (ob (qAQ x0) fun a17=>
 ob (qFs (List.headD (List.take 2 (List.getD x10 (Int.toNat x4) [])) 0) (List.headD (List.tail (List.take 2 (List.getD x10 (Int.toNat x4) []))) 0) a17) fun (a18_0,a18_1)=>
 ob (qGi a18_0 a18_1 x1) fun a20=>
 ob (qBA x7 x8 a20) fun (a21_0,a21_1)=>
 rec x0 x1 x2 x3 (IntKind.wrap .i64 (x4+1)) x5 x6 a21_0 a21_1 x9 x10)
 (none))
 (some (x5,x6,x7,x8))
def qFu:Nat->Int->Int->Nat->Int->Int->Int->Int->Int->Int->Nat->List (List Int)->Option (Int×Int×Int×Int)
 | 0,_,_,_,_,_,_,_,_,_,_,_=>none
 | f+1,x0,x1,x2,x3,x4,x5,x6,x7,x8,x9,x10=>qIZ (qFu f) x0 x1 x2 x3 x4 x5 x6 x7 x8 x9 x10
def qJq (x0 x1:Int):Option (Int×Int):=
 ob (qAC x0) fun a2=>
 ob (qGj qB a2) fun (a3_0,a3_1,a3_2)=>
 ob (qFu qB x0 x1 a3_0 (Int.ofNat a3_0) 0 0 0 0 0 a3_1 a3_2) fun (_,_,a6_2,a6_3)=>
 some (a6_2,a6_3)
def qGS (x0:Int):Option (Nat×Nat×List (List Int)):=
 br (x0==2)
 (some (1,1,[[0,-1]]))
 (br (x0==6)
 (some (4,4,[[-1,-1],[1,-1],[-1,1],[1,1]]))
 (br (x0==14)
 (some (4,4,[[-1,-1],[1,-1],[-1,1],[1,1]]))
 (br (x0==7)
 (some (4,4,[[0,-1],[-1,0],[1,0],[0,1]]))
 (br (x0==15)
 (some (4,4,[[0,-1],[-1,0],[1,0],[0,1]]))
 (some (0,0,[]))))))
def qHx (rec:Int->Int->Int->Int->Int->Int->Int->Int->Int->Option (Int×Int×Int×Int)) (x0 x1:Int) (x2 x3:Int) (x4 x5:Int) (x6 x7 x8:Int):Option (Int×Int×Int×Int):=
 br (decide (x0 >= 0))
 (ob (qBA x7 x8 x0) fun (a15_0,a15_1)=>
 ob (qCG x3 x4 x0) fun a17=>
 br (a17)
 (some (x5,x6,a15_0,a15_1))
 (ob (qGi x1 x2 x0) fun a18=>
 rec a18 x1 x2 x3 x4 x5 x6 a15_0 a15_1))
 (some (x5,x6,x7,x8))
def qGT:Nat->Int->Int->Int->Int->Int->Int->Int->Int->Int->Option (Int×Int×Int×Int)
 | 0,_,_,_,_,_,_,_,_,_=>none
 | f+1,x0,x1,x2,x3,x4,x5,x6,x7,x8=>qHx (qGT f) x0 x1 x2 x3 x4 x5 x6 x7 x8
def qHw (x0 x1:Int) (x2 x3 x4:Int):Option (Int×Int):=
 br (x1==0&&x2==0)
 (some (0,0))
 (ob (qGi x1 x2 x0) fun a5=>
 ob (qGT qB a5 x1 x2 x3 x4 0 0 0 0) fun (_,_,a6_2,a6_3)=>
 some (a6_2,a6_3))
def qHv (rec:Int->Int->Nat->Int->Int->Int->Int->Int->Int->Int->Int->Nat->List (List Int)->Option (Int×Int×Int×Int)) (x0 x1:Int) (x2:Nat) (x3 x4:Int) (x5 x6:Int) (x7 x8:Int) (x9 x10:Int) (x11:Nat) (x12:List (List Int)):Option (Int×Int×Int×Int):=
 br (decide (x4 < x3))
 (br (inB x4 x2)
 (ob (qAQ x0) fun a23=>
 ob (qFs (List.headD (List.take 2 (List.getD x12 (Int.toNat x4) [])) 0) (List.headD (List.tail (List.take 2 (List.getD x12 (Int.toNat x4) []))) 0) a23) fun (a24_0,a24_1)=>
 ob (qHw x1 a24_0 a24_1 x5 x6) fun (a26_0,a26_1)=>
 ob (qD2 x9 x10 a26_0 a26_1) fun (a28_0,a28_1)=>
 rec x0 x1 x2 x3 (IntKind.wrap .i64 (x4+1)) x5 x6 x7 x8 a28_0 a28_1 x11 x12)
 (none))
 (some (x7,x8,x9,x10))
def qFW:Nat->Int->Int->Nat->Int->Int->Int->Int->Int->Int->Int->Int->Nat->List (List Int)->Option (Int×Int×Int×Int)
 | 0,_,_,_,_,_,_,_,_,_,_,_,_,_=>none
 | f+1,x0,x1,x2,x3,x4,x5,x6,x7,x8,x9,x10,x11,x12=>qHv (qFW f) x0 x1 x2 x3 x4 x5 x6 x7 x8 x9 x10 x11 x12
def qFV (x0 x1:Int) (x2 x3:Int):Option (Int×Int):=
 ob (qJq x0 x1) fun (a4_0,a4_1)=>
 ob (qAC x0) fun a6=>
 ob (qGS a6) fun (a7_0,a7_1,a7_2)=>
 ob (qFW qB x0 x1 a7_0 (Int.ofNat a7_0) 0 x2 x3 0 0 a4_0 a4_1 a7_1 a7_2) fun (_,_,a10_2,a10_3)=>
 some (a10_2,a10_3)
def qed (rec:Int->Int->Int->Int->Int->Int->Option (Int×Int×Int×Int)) (x0 x1:Int) (x2 x3:Int) (x4 x5:Int):Option (Int×Int×Int×Int):=
 br (decide (x1 < 81))
 (ob (qFt x0 x1) fun a7=>
 br (decide (a7 >= 0))
 (br (decide (a7<=2))
 (ob (qBA x4 x5 x1) fun (a8_0,a8_1)=>
 rec x0 (IntKind.wrap .i64 (x1+1)) x2 x3 a8_0 a8_1)
 (rec x0 (IntKind.wrap .i64 (x1+1)) x2 x3 x4 x5))
 (rec x0 (IntKind.wrap .i64 (x1+1)) x2 x3 x4 x5))
 (some (x2,x3,x4,x5))
def qMl:Nat->Int->Int->Int->Int->Int->Int->Option (Int×Int×Int×Int)
 | 0,_,_,_,_,_,_=>none
 | f+1,x0,x1,x2,x3,x4,x5=>qed (qMl f) x0 x1 x2 x3 x4 x5
def qJr (x0:Int):Option (Int×Int):=
 ob (qMl qB x0 0 0 0 0 0) fun (_,_,a1_2,a1_3)=>
 some (a1_2,a1_3)
def qI8 (x0 x1 x2:Int):Option (Bool×Bool):=
 ob (qAC x0) fun a3=>
 ob (qCt a3) fun a4=>
 br (a4==0)
 (some (false,false))
 (ob (qAQ x0) fun a5=>
 ob (qJr a5) fun (a6_0,a6_1)=>
 ob (qCG a6_0 a6_1 x1) fun a8=>
 br (a8)
 (ob (qD5 x0 x2) fun a9=>
 some (true,a9))
 (ob (qCG a6_0 a6_1 x2) fun a9=>
 ob (qD5 x0 x2) fun a10=>
 some (a9,a10)))
def qHM (rec:Nat->Int->Int->Int->Nat->Int->Int->Nat->Int->Int->List Int->List Int->Int->List (List Int)->List (List Int)->Int->Int->Nat->List (List Int)->Int->Int->Nat->List Int->Nat->List Int->Option (Nat×Int×Nat×Int×Int×List Int×List Int×Int×List (List Int)×List (List Int)×Int×Int×Nat×List (List Int)×Int×Int×Nat×List Int)) (x0:Nat) (x1 x2 x3:Int) (x4:Nat) (x5 x6:Int) (x7:Nat) (x8 x9:Int) (x10 x11:List Int) (x12:Int) (x13 x14:List (List Int)) (x15 x16:Int) (x17:Nat) (x18:List (List Int)) (x19 x20:Int) (x21:Nat) (x22:List Int) (x23:Nat) (x24:List Int):Option (Nat×Int×Nat×Int×Int×List Int×List Int×Int×List (List Int)×List (List Int)×Int×Int×Nat×List (List Int)×Int×Int×Nat×List Int):=
 br (decide (x9 < x8))
 (br (inB x9 x7)
 (ob (qI8 x3 x2 (List.getD x24 (Int.toNat x9) 0)) fun (a77_0,a77_1)=>
 br (!a77_1)
 (br (decide ((x0+1) * 32<=140737488355328))
 (br (a77_0)
 (br (decide ((x0+1+1) * 32<=140737488355328))
 (rec (x0+1+1) x1 x2 x3 x4 x5 x6 x7 x8 (IntKind.wrap .i64 (x9+1)) x10 x11 x12 x13 x14 x15 x16 (x0+1+1) (List.append (List.take (x0+1) (List.append (List.take x0 x18) [[x2,List.getD x24 (Int.toNat x9) 0,0,0]])) [[x2,List.getD x24 (Int.toNat x9) 0,0,1]]) x19 x20 x21 x22 x23 x24)
 (none))
 (rec (x0+1) x1 x2 x3 x4 x5 x6 x7 x8 (IntKind.wrap .i64 (x9+1)) x10 x11 x12 x13 x14 x15 x16 (x0+1) (List.append (List.take x0 x18) [[x2,List.getD x24 (Int.toNat x9) 0,0,0]]) x19 x20 x21 x22 x23 x24))
 (none))
 (br (a77_0)
 (br (decide ((x0+1) * 32<=140737488355328))
 (rec (x0+1) x1 x2 x3 x4 x5 x6 x7 x8 (IntKind.wrap .i64 (x9+1)) x10 x11 x12 x13 x14 x15 x16 (x0+1) (List.append (List.take x0 x18) [[x2,List.getD x24 (Int.toNat x9) 0,0,1]]) x19 x20 x21 x22 x23 x24)
 (none))
 (rec x0 x1 x2 x3 x4 x5 x6 x7 x8 (IntKind.wrap .i64 (x9+1)) x10 x11 x12 x13 x14 x15 x16 x17 x18 x19 x20 x21 x22 x23 x24)))
 (none))
 (some (x0,x1,x4,x5,x6,x10,x11,x12,x13,x14,x15,x16,x17,x18,x19,x20,x21,x22))
def qE9:Nat->Nat->Int->Int->Int->Nat->Int->Int->Nat->Int->Int->List Int->List Int->Int->List (List Int)->List (List Int)->Int->Int->Nat->List (List Int)->Int->Int->Nat->List Int->Nat->List Int->Option (Nat×Int×Nat×Int×Int×List Int×List Int×Int×List (List Int)×List (List Int)×Int×Int×Nat×List (List Int)×Int×Int×Nat×List Int)
 | 0,_,_,_,_,_,_,_,_,_,_,_,_,_,_,_,_,_,_,_,_,_,_,_,_,_=>none
 | f+1,x0,x1,x2,x3,x4,x5,x6,x7,x8,x9,x10,x11,x12,x13,x14,x15,x16,x17,x18,x19,x20,x21,x22,x23,x24=>qHM (qE9 f) x0 x1 x2 x3 x4 x5 x6 x7 x8 x9 x10 x11 x12 x13 x14 x15 x16 x17 x18 x19 x20 x21 x22 x23 x24
def qHL (rec:Nat->Int->Nat->Int->Int->List Int->List Int->Int->List (List Int)->List (List Int)->Int->Int->Nat->List (List Int)->Int->Int->Nat->List Int->Option (Nat×List Int×List Int×Int×List (List Int)×List (List Int)×Nat×List (List Int))) (x0:Nat) (x1:Int) (x2:Nat) (x3 x4:Int) (x5 x6:List Int) (x7:Int) (x8 x9:List (List Int)) (x10 x11:Int) (x12:Nat) (x13:List (List Int)) (x14 x15:Int) (x16:Nat) (x17:List Int):Option (Nat×List Int×List Int×Int×List (List Int)×List (List Int)×Nat×List (List Int)):=
 br (decide (x4 < x3))
 (br (inB x4 x2)
 (ob (qAe (List.getD x17 (Int.toNat x4) 0) x5 x6 x7 x8 x9) fun a36=>
 ob (qC3 x5 x6 x7 x8 x9) fun (a37_0,a37_1)=>
 ob (qFV a36 (List.getD x17 (Int.toNat x4) 0) a37_0 a37_1) fun (a39_0,a39_1)=>
 ob (qF6 x1 x5 x6 x7 x8 x9) fun (a41_0,a41_1)=>
 ob (qFn a39_0 a39_1 a41_0 a41_1) fun (a43_0,a43_1)=>
 ob (qFn a43_0 a43_1 x14 x15) fun (a45_0,a45_1)=>
 ob (qCv a45_0 a45_1 x10 x11) fun (a47_0,a47_1)=>
 ob (qEd a47_0 a47_1) fun (a49_0,a49_1,a49_2)=>
 ob (qE9 qB x0 x1 (List.getD x17 (Int.toNat x4) 0) a36 x2 x3 x4 a49_0 (Int.ofNat a49_0) 0 x5 x6 x7 x8 x9 x10 x11 x12 x13 x14 x15 x16 x17 a49_1 a49_2) fun (a52_0,a52_1,a52_2,a52_3,a52_4,a52_5,a52_6,a52_7,a52_8,a52_9,a52_10,a52_11,a52_12,a52_13,a52_14,a52_15,a52_16,a52_17)=>
 rec a52_0 a52_1 a52_2 a52_3 (IntKind.wrap .i64 (a52_4+1)) a52_5 a52_6 a52_7 a52_8 a52_9 a52_10 a52_11 a52_12 a52_13 a52_14 a52_15 a52_16 a52_17)
 (none))
 (some (x0,x5,x6,x7,x8,x9,x12,x13))
def qE8:Nat->Nat->Int->Nat->Int->Int->List Int->List Int->Int->List (List Int)->List (List Int)->Int->Int->Nat->List (List Int)->Int->Int->Nat->List Int->Option (Nat×List Int×List Int×Int×List (List Int)×List (List Int)×Nat×List (List Int))
 | 0,_,_,_,_,_,_,_,_,_,_,_,_,_,_,_,_,_,_=>none
 | f+1,x0,x1,x2,x3,x4,x5,x6,x7,x8,x9,x10,x11,x12,x13,x14,x15,x16,x17=>qHL (qE8 f) x0 x1 x2 x3 x4 x5 x6 x7 x8 x9 x10 x11 x12 x13 x14 x15 x16 x17
def qHJ (x0 x1:Int) (x2 x3:List Int) (x4:Int) (x5 x6:List (List Int)):Option (Nat×Nat×List (List Int)):=
 ob (qC2 0 8 x2 x3 x4 x5 x6) fun (a7_0,a7_1)=>
 ob (qC2 1 8 x2 x3 x4 x5 x6) fun (a9_0,a9_1)=>
 ob (qD2 a7_0 a7_1 a9_0 a9_1) fun (a11_0,a11_1)=>
 ob (qF6 x4 x2 x3 x4 x5 x6) fun (a13_0,a13_1)=>
 ob (qEd a13_0 a13_1) fun (a15_0,a15_1,a15_2)=>
 ob (qE8 qB 0 x4 a15_0 (Int.ofNat a15_0) 0 x2 x3 x4 x5 x6 x0 x1 0 [] a11_0 a11_1 a15_1 a15_2) fun (a18_0,_,_,_,_,_,a18_6,a18_7)=>
 some (a18_0,a18_6,a18_7)
def qJl (x0 x1:Int):Option (Int×Int):=
 ob (qGZ ) fun (a2_0,a2_1)=>
 ob (qFn a2_0 a2_1 x0 x1) fun (a4_0,a4_1)=>
 some (a4_0,a4_1)
def qHQ (rec:Int->Int->Int->Nat->Int->Int->List Int->List Int->Int->List (List Int)->List (List Int)->Int->Int->Int->Int->Nat->List Int->Option (List Int×List Int×Int×List (List Int)×List (List Int)×Int×Int×Int×Int)) (x0 x1 x2:Int) (x3:Nat) (x4 x5:Int) (x6 x7:List Int) (x8:Int) (x9 x10:List (List Int)) (x11 x12:Int) (x13 x14:Int) (x15:Nat) (x16:List Int):Option (List Int×List Int×Int×List (List Int)×List (List Int)×Int×Int×Int×Int):=
 br (decide (x5 < x4))
 (br (inB x5 x3)
 (ob (qD5 x2 (List.getD x16 (Int.toNat x5) 0)) fun a32=>
 br (a32)
 (rec x0 x1 x2 x3 x4 (IntKind.wrap .i64 (x5+1)) x6 x7 x8 x9 x10 x11 x12 x13 x14 x15 x16)
 (br (x1==1)
 (ob (qC2 x0 1 x6 x7 x8 x9 x10) fun (a33_0,a33_1)=>
 ob (qGc (List.getD x16 (Int.toNat x5) 0)) fun a35=>
 ob (qIP a35) fun (a36_0,a36_1)=>
 ob (qCv a33_0 a33_1 a36_0 a36_1) fun (a38_0,a38_1)=>
 ob (qEc a38_0 a38_1) fun a40=>
 br (!a40)
 (rec x0 x1 x2 x3 x4 (IntKind.wrap .i64 (x5+1)) x6 x7 x8 x9 x10 x11 x12 x13 x14 x15 x16)
 (ob (qBA x13 x14 (List.getD x16 (Int.toNat x5) 0)) fun (a41_0,a41_1)=>
 rec x0 x1 x2 x3 x4 (IntKind.wrap .i64 (x5+1)) x6 x7 x8 x9 x10 x11 x12 a41_0 a41_1 x15 x16))
 (ob (qBA x13 x14 (List.getD x16 (Int.toNat x5) 0)) fun (a33_0,a33_1)=>
 rec x0 x1 x2 x3 x4 (IntKind.wrap .i64 (x5+1)) x6 x7 x8 x9 x10 x11 x12 a33_0 a33_1 x15 x16)))
 (none))
 (some (x6,x7,x8,x9,x10,x11,x12,x13,x14))
def qDb:Nat->Int->Int->Int->Nat->Int->Int->List Int->List Int->Int->List (List Int)->List (List Int)->Int->Int->Int->Int->Nat->List Int->Option (List Int×List Int×Int×List (List Int)×List (List Int)×Int×Int×Int×Int)
 | 0,_,_,_,_,_,_,_,_,_,_,_,_,_,_,_,_,_=>none
 | f+1,x0,x1,x2,x3,x4,x5,x6,x7,x8,x9,x10,x11,x12,x13,x14,x15,x16=>qHQ (qDb f) x0 x1 x2 x3 x4 x5 x6 x7 x8 x9 x10 x11 x12 x13 x14 x15 x16
def qI7 (x0 x1:Int) (x2 x3:List Int) (x4:Int) (x5 x6:List (List Int)):Option (Int×Int):=
 ob (qAi x0 x1) fun a7=>
 br (a7==0)
 (some (0,0))
 (br (decide (x1 >= 8))
 (some (0,0))
 (ob (qC3 x2 x3 x4 x5 x6) fun (a8_0,a8_1)=>
 ob (qJl a8_0 a8_1) fun (a10_0,a10_1)=>
 ob (qEd a10_0 a10_1) fun (a12_0,a12_1,a12_2)=>
 ob (qDb qB x0 x1 a7 a12_0 (Int.ofNat a12_0) 0 x2 x3 x4 x5 x6 0 0 0 0 a12_1 a12_2) fun (_,_,_,_,_,_,_,a15_7,a15_8)=>
 some (a15_7,a15_8)))
def qHP (rec:Nat->Int->Int->Nat->Int->Int->List Int->List Int->Int->List (List Int)->List (List Int)->Int->Int->Nat->List (List Int)->Nat->List Int->Option (Nat×Int×Int×List Int×List Int×Int×List (List Int)×List (List Int)×Int×Int×Nat×List (List Int))) (x0:Nat) (x1 x2:Int) (x3:Nat) (x4 x5:Int) (x6 x7:List Int) (x8:Int) (x9 x10:List (List Int)) (x11 x12:Int) (x13:Nat) (x14:List (List Int)) (x15:Nat) (x16:List Int):Option (Nat×Int×Int×List Int×List Int×Int×List (List Int)×List (List Int)×Int×Int×Nat×List (List Int)):=
 br (decide (x5 < x4))
 (br (inB x5 x3)
 (br (decide ((x0+1) * 32<=140737488355328))
 (rec (x0+1) x1 x2 x3 x4 (IntKind.wrap .i64 (x5+1)) x6 x7 x8 x9 x10 x11 x12 (x0+1) (List.append (List.take x0 x14) [[0,List.getD x16 (Int.toNat x5) 0,x2,0]]) x15 x16)
 (none))
 (none))
 (some (x0,x1,x2,x6,x7,x8,x9,x10,x11,x12,x13,x14))
def qFB:Nat->Nat->Int->Int->Nat->Int->Int->List Int->List Int->Int->List (List Int)->List (List Int)->Int->Int->Nat->List (List Int)->Nat->List Int->Option (Nat×Int×Int×List Int×List Int×Int×List (List Int)×List (List Int)×Int×Int×Nat×List (List Int))
 | 0,_,_,_,_,_,_,_,_,_,_,_,_,_,_,_,_,_=>none
 | f+1,x0,x1,x2,x3,x4,x5,x6,x7,x8,x9,x10,x11,x12,x13,x14,x15,x16=>qHP (qFB f) x0 x1 x2 x3 x4 x5 x6 x7 x8 x9 x10 x11 x12 x13 x14 x15 x16
def qHO (rec:Nat->Int->Int->List Int->List Int->Int->List (List Int)->List (List Int)->Int->Int->Nat->List (List Int)->Option (Nat×List Int×List Int×Int×List (List Int)×List (List Int)×Nat×List (List Int))) (x0:Nat) (x1 x2:Int) (x3 x4:List Int) (x5:Int) (x6 x7:List (List Int)) (x8 x9:Int) (x10:Nat) (x11:List (List Int)):Option (Nat×List Int×List Int×Int×List (List Int)×List (List Int)×Nat×List (List Int)):=
 br (decide (x2 < 8))
 (ob (qCg x1 x2 x3 x4 x5 x6 x7) fun a19=>
 br (decide (a19 < 1))
 (rec x0 x1 (IntKind.wrap .i64 (x2+1)) x3 x4 x5 x6 x7 x8 x9 x10 x11)
 (ob (qI7 x1 x2 x3 x4 x5 x6 x7) fun (a20_0,a20_1)=>
 ob (qCv a20_0 a20_1 x8 x9) fun (a22_0,a22_1)=>
 ob (qEd a22_0 a22_1) fun (a24_0,a24_1,a24_2)=>
 ob (qFB qB x0 x1 x2 a24_0 (Int.ofNat a24_0) 0 x3 x4 x5 x6 x7 x8 x9 x10 x11 a24_1 a24_2) fun (a27_0,a27_1,a27_2,a27_3,a27_4,a27_5,a27_6,a27_7,a27_8,a27_9,a27_10,a27_11)=>
 rec a27_0 a27_1 (IntKind.wrap .i64 (a27_2+1)) a27_3 a27_4 a27_5 a27_6 a27_7 a27_8 a27_9 a27_10 a27_11))
 (some (x0,x3,x4,x5,x6,x7,x10,x11))
def qFA:Nat->Nat->Int->Int->List Int->List Int->Int->List (List Int)->List (List Int)->Int->Int->Nat->List (List Int)->Option (Nat×List Int×List Int×Int×List (List Int)×List (List Int)×Nat×List (List Int))
 | 0,_,_,_,_,_,_,_,_,_,_,_,_=>none
 | f+1,x0,x1,x2,x3,x4,x5,x6,x7,x8,x9,x10,x11=>qHO (qFA f) x0 x1 x2 x3 x4 x5 x6 x7 x8 x9 x10 x11
def qI6 (x0 x1:Int) (x2 x3:List Int) (x4:Int) (x5 x6:List (List Int)):Option (Nat×Nat×List (List Int)):=
 ob (qFA qB 0 x4 1 x2 x3 x4 x5 x6 x0 x1 0 []) fun (a7_0,_,_,_,_,_,a7_6,a7_7)=>
 some (a7_0,a7_6,a7_7)
def qEV (x0:Int):Option (Int):=
 br (decide (x0 >= 1))
 (br (decide (x0<=7))
 (br (x0 != 5)
 (some (IntKind.wrap .i64 (x0+8)))
 (some (0)))
 (some (0)))
 (some (0))
def qJb (x0 x1 x2:Int):Option (Bool):=
 ob (qAS x0) fun a3=>
 ob (qEV a3) fun a4=>
 br (a4==0)
 (some (false))
 (ob (qA9 x0) fun a5=>
 ob (qDG a5 x1) fun a6=>
 ob (qA9 x0) fun a7=>
 ob (qDG a7 x2) fun a8=>
 br (decide (a6 >= 0))
 (br (decide (a6<=2))
 (some (true))
 (br (decide (a8 >= 0))
 (some (decide (a8<=2)))
 (some (false))))
 (br (decide (a8 >= 0))
 (some (decide (a8<=2)))
 (some (false))))
def qJc (x0 x1:Int):Option (Bool):=
 ob (qAS x0) fun a2=>
 ob (qEV a2) fun a3=>
 br (a3 != 0)
 (ob (qDF x0 x1) fun a4=>
 some (a4))
 (some (false))
def qJV (x0 x1 x2:Int) (x3:Bool):Option (Int):=
 br (decide (x1 < 0))
 (some (1))
 (br (decide (x1 > 80))
 (some (1))
 (br (x2 != 0)
 (br (decide (x2 < 1))
 (some (70))
 (br (decide (x2 > 7))
 (some (70))
 (br (x0 != 0)
 (some (70))
 (br (x3)
 (some (70))
 (some (0))))))
 (br (decide (x0 < 0))
 (some (1))
 (br (decide (x0 > 80))
 (some (1))
 (br (x0==x1)
 (some (70))
 (some (0)))))))
def qJY (x0 x1:List Int) (x2 x3:Int) (x4 x5:Int) (x6:Bool):Option (Bool):=
 ob (qJV x3 x4 x5 x6) fun a7=>
 br (a7 != 0)
 (some (false))
 (br (x2 != 0)
 (br (x2 != 1)
 (some (false))
 (br (inB x4 81)
 (br (x5 != 0)
 (br (inB x2 2)
 (br (inB x5 8)
 (br (decide (List.getD x1 (Int.toNat x2 * 8+Int.toNat x5) 0 > 0))
 (some (conv .i8 .i64 (List.getD x0 (Int.toNat x4) 0)==0))
 (some (false)))
 (none))
 (none))
 (br (inB x3 81)
 (ob (qA9 (conv .i8 .i64 (List.getD x0 (Int.toNat x3) 0))) fun a8=>
 br (a8 != x2)
 (some (false))
 (ob (qA9 (conv .i8 .i64 (List.getD x0 (Int.toNat x4) 0))) fun a9=>
 br (a9==x2)
 (some (false))
 (ob (qAS (conv .i8 .i64 (List.getD x0 (Int.toNat x4) 0))) fun a10=>
 br (a10==8)
 (some (false))
 (br (!x6)
 (some (true))
 (ob (qAS (conv .i8 .i64 (List.getD x0 (Int.toNat x3) 0))) fun a11=>
 ob (qEV a11) fun a12=>
 some (a12 != 0))))))
 (none)))
 (none)))
 (br (inB x4 81)
 (br (x5 != 0)
 (br (inB x2 2)
 (br (inB x5 8)
 (br (decide (List.getD x1 (Int.toNat x2 * 8+Int.toNat x5) 0 > 0))
 (some (conv .i8 .i64 (List.getD x0 (Int.toNat x4) 0)==0))
 (some (false)))
 (none))
 (none))
 (br (inB x3 81)
 (ob (qA9 (conv .i8 .i64 (List.getD x0 (Int.toNat x3) 0))) fun a8=>
 br (a8 != x2)
 (some (false))
 (ob (qA9 (conv .i8 .i64 (List.getD x0 (Int.toNat x4) 0))) fun a9=>
 br (a9==x2)
 (some (false))
 (ob (qAS (conv .i8 .i64 (List.getD x0 (Int.toNat x4) 0))) fun a10=>
 br (a10==8)
 (some (false))
 (br (!x6)
 (some (true))
 (ob (qAS (conv .i8 .i64 (List.getD x0 (Int.toNat x3) 0))) fun a11=>
 ob (qEV a11) fun a12=>
 some (a12 != 0))))))
 (none)))
 (none)))
def qH4 (rec:Int->List Int->List Int->Int->List Bool->List Bool->Option (List Bool×List Bool)) (x0:Int) (x1 x2:List Int) (x3:Int) (x4 x5:List Bool):Option (List Bool×List Bool):=
 br (decide (x0 < 81))
 (br (inB x0 81)
 (br (inB x0 81)
 (rec (IntKind.wrap .i64 (x0+1)) x1 x2 x3 x4 (List.set x5 (Int.toNat x0) (List.getD x1 (Int.toNat x0) 0 != 0)))
 (none))
 (none))
 (some (x4,x5))
def qEX:Nat->Int->List Int->List Int->Int->List Bool->List Bool->Option (List Bool×List Bool)
 | 0,_,_,_,_,_,_=>none
 | f+1,x0,x1,x2,x3,x4,x5=>qH4 (qEX f) x0 x1 x2 x3 x4 x5
def qEW (x0 x1:List Int) (x2:Int):Option (List Bool):=
 ob (qEX qB 0 x0 x1 x2 ([false,false,false,false,false,false,false,false,false,false,false,false,false,false,false,false,false,false,false,false,false,false,false,false,false,false,false,false,false,false,false,false,false,false,false,false,false,false,false,false,false,false,false,false,false,false,false,false,false,false,false,false,false,false,false,false,false,false,false,false,false,false,false,false,false,false,false,false,false,false,false,false,false,false,false,false,false,false,false,false,false]) ([false,false,false,false,false,false,false,false,false,false,false,false,false,false,false,false,false,false,false,false,false,false,false,false,false,false,false,false,false,false,false,false,false,false,false,false,false,false,false,false,false,false,false,false,false,false,false,false,false,false,false,false,false,false,false,false,false,false,false,false,false,false,false,false,false,false,false,false,false,false,false,false,false,false,false,false,false,false,false,false,false])) fun (_,a3_1)=>
 some (a3_1)
def qFY (x0:Int):Option (Int):=
 br (decide (x0 < 0))
 (some (IntKind.wrap .i64 (0 - x0)))
 (some (x0))
def qJS (x0 x1 x2:Int):Option (Bool):=
 br (decide (x1 < 0))
 (some (false))
 (br (decide (x1 > 80))
 (some (false))
 (br (decide (x2 < 0))
 (some (false))
 (br (decide (x2 > 80))
 (some (false))
 (br (x1==x2)
 (some (false))
 (ob (qFY (IntKind.wrap .i64 (IntKind.wrap .i64 (Int.tdiv x2 9) - IntKind.wrap .i64 (Int.tdiv x1 9)))) fun a3=>
 ob (qA9 x0) fun a4=>
 br (a4==1)
 (br (decide (a3<=1))
 (ob (qFY (IntKind.wrap .i64 (0 - IntKind.wrap .i64 (Int.tmod x1 9 - Int.tmod x2 9)))) fun a5=>
 ob (qAS x0) fun a6=>
 br (a6==1)
 (br (a3==0)
 (some (IntKind.wrap .i64 (0 - IntKind.wrap .i64 (Int.tmod x1 9 - Int.tmod x2 9))==1))
 (some (false)))
 (br (a6==3)
 (br (a3==1)
 (some (IntKind.wrap .i64 (0 - IntKind.wrap .i64 (Int.tmod x1 9 - Int.tmod x2 9))==2))
 (some (false)))
 (br (a6==4)
 (br (decide (a5<=1))
 (br (IntKind.wrap .i64 (0 - IntKind.wrap .i64 (Int.tmod x1 9 - Int.tmod x2 9))==1)
 (some (true))
 (br (a3==1)
 (some (IntKind.wrap .i64 (0 - IntKind.wrap .i64 (Int.tmod x1 9 - Int.tmod x2 9)) == -1))
 (some (false))))
 (some (false)))
 (br (a6==5)
 (br (decide (a5<=1))
 (br (decide (IntKind.wrap .i64 (0 - IntKind.wrap .i64 (Int.tmod x1 9 - Int.tmod x2 9)) >= 0))
 (some (true))
 (some (a3==0)))
 (some (false)))
 (br (a6==9)
 (br (decide (a5<=1))
 (br (decide (IntKind.wrap .i64 (0 - IntKind.wrap .i64 (Int.tmod x1 9 - Int.tmod x2 9)) >= 0))
 (some (true))
 (some (a3==0)))
 (some (false)))
 (br (a6==10)
 (br (decide (a5<=1))
 (br (decide (IntKind.wrap .i64 (0 - IntKind.wrap .i64 (Int.tmod x1 9 - Int.tmod x2 9)) >= 0))
 (some (true))
 (some (a3==0)))
 (some (false)))
 (br (a6==11)
 (br (decide (a5<=1))
 (br (decide (IntKind.wrap .i64 (0 - IntKind.wrap .i64 (Int.tmod x1 9 - Int.tmod x2 9)) >= 0))
 (some (true))
 (some (a3==0)))
 (some (false)))
 (br (a6==12)
 (br (decide (a5<=1))
 (br (decide (IntKind.wrap .i64 (0 - IntKind.wrap .i64 (Int.tmod x1 9 - Int.tmod x2 9)) >= 0))
 (some (true))
 (some (a3==0)))
 (some (false)))
 (br (a6==8)
 (some (decide (a5<=1)))
 (br (a6==14)
 (br (decide (a5<=1))
 (br (a3==0)
 (some (true))
 (some (IntKind.wrap .i64 (0 - IntKind.wrap .i64 (Int.tmod x1 9 - Int.tmod x2 9))==0)))
 (some (false)))
 (br (a6==15)
 (br (decide (a5<=1))
 (br (a3==1)
 (some (IntKind.wrap .i64 (0 - IntKind.wrap .i64 (Int.tmod x1 9 - Int.tmod x2 9)) != 0))
 (some (false)))
 (some (false)))
 (some (false)))))))))))))
 (ob (qAS x0) fun a5=>
 br (a5==1)
 (br (a3==0)
 (some (IntKind.wrap .i64 (0 - IntKind.wrap .i64 (Int.tmod x1 9 - Int.tmod x2 9))==1))
 (some (false)))
 (br (a5==3)
 (br (a3==1)
 (some (IntKind.wrap .i64 (0 - IntKind.wrap .i64 (Int.tmod x1 9 - Int.tmod x2 9))==2))
 (some (false)))
 (br (a5==4)
 (some (false))
 (br (a5==5)
 (some (false))
 (br (a5==9)
 (some (false))
 (br (a5==10)
 (some (false))
 (br (a5==11)
 (some (false))
 (br (a5==12)
 (some (false))
 (br (a5==8)
 (some (false))
 (br (a5==14)
 (some (false))
 (br (a5==15)
 (some (false))
 (some (false))))))))))))))
 (br (decide (a3<=1))
 (ob (qFY (IntKind.wrap .i64 (Int.tmod x1 9 - Int.tmod x2 9))) fun a5=>
 ob (qAS x0) fun a6=>
 br (a6==1)
 (br (a3==0)
 (some (IntKind.wrap .i64 (Int.tmod x1 9 - Int.tmod x2 9)==1))
 (some (false)))
 (br (a6==3)
 (br (a3==1)
 (some (IntKind.wrap .i64 (Int.tmod x1 9 - Int.tmod x2 9)==2))
 (some (false)))
 (br (a6==4)
 (br (decide (a5<=1))
 (br (IntKind.wrap .i64 (Int.tmod x1 9 - Int.tmod x2 9)==1)
 (some (true))
 (br (a3==1)
 (some (IntKind.wrap .i64 (Int.tmod x1 9 - Int.tmod x2 9) == -1))
 (some (false))))
 (some (false)))
 (br (a6==5)
 (br (decide (a5<=1))
 (br (decide (IntKind.wrap .i64 (Int.tmod x1 9 - Int.tmod x2 9) >= 0))
 (some (true))
 (some (a3==0)))
 (some (false)))
 (br (a6==9)
 (br (decide (a5<=1))
 (br (decide (IntKind.wrap .i64 (Int.tmod x1 9 - Int.tmod x2 9) >= 0))
 (some (true))
 (some (a3==0)))
 (some (false)))
 (br (a6==10)
 (br (decide (a5<=1))
 (br (decide (IntKind.wrap .i64 (Int.tmod x1 9 - Int.tmod x2 9) >= 0))
 (some (true))
 (some (a3==0)))
 (some (false)))
 (br (a6==11)
 (br (decide (a5<=1))
 (br (decide (IntKind.wrap .i64 (Int.tmod x1 9 - Int.tmod x2 9) >= 0))
 (some (true))
 (some (a3==0)))
 (some (false)))
 (br (a6==12)
 (br (decide (a5<=1))
 (br (decide (IntKind.wrap .i64 (Int.tmod x1 9 - Int.tmod x2 9) >= 0))
 (some (true))
 (some (a3==0)))
 (some (false)))
 (br (a6==8)
 (some (decide (a5<=1)))
 (br (a6==14)
 (br (decide (a5<=1))
 (br (a3==0)
 (some (true))
 (some (IntKind.wrap .i64 (Int.tmod x1 9 - Int.tmod x2 9)==0)))
 (some (false)))
 (br (a6==15)
 (br (decide (a5<=1))
 (br (a3==1)
 (some (IntKind.wrap .i64 (Int.tmod x1 9 - Int.tmod x2 9) != 0))
 (some (false)))
 (some (false)))
 (some (false)))))))))))))
 (ob (qAS x0) fun a5=>
 br (a5==1)
 (br (a3==0)
 (some (IntKind.wrap .i64 (Int.tmod x1 9 - Int.tmod x2 9)==1))
 (some (false)))
 (br (a5==3)
 (br (a3==1)
 (some (IntKind.wrap .i64 (Int.tmod x1 9 - Int.tmod x2 9)==2))
 (some (false)))
 (br (a5==4)
 (some (false))
 (br (a5==5)
 (some (false))
 (br (a5==9)
 (some (false))
 (br (a5==10)
 (some (false))
 (br (a5==11)
 (some (false))
 (br (a5==12)
 (some (false))
 (br (a5==8)
 (some (false))
 (br (a5==14)
 (some (false))
 (br (a5==15)
 (some (false))
 (some (false)))))))))))))))))))
def qH1 (x0 x1:Int):Option (Int):=
 br (decide (x0 < 0))
 (some (0))
 (br (decide (x0 > 80))
 (some (0))
 (br (decide (x1 < 0))
 (some (0))
 (br (decide (x1 > 80))
 (some (0))
 (br (x0==x1)
 (some (0))
 (br (IntKind.wrap .i64 (IntKind.wrap .i64 (Int.tdiv x1 9) - IntKind.wrap .i64 (Int.tdiv x0 9))==0)
 (some (1))
 (br (IntKind.wrap .i64 (Int.tmod x1 9 - Int.tmod x0 9)==0)
 (some (1))
 (br (IntKind.wrap .i64 (IntKind.wrap .i64 (Int.tdiv x1 9) - IntKind.wrap .i64 (Int.tdiv x0 9))==IntKind.wrap .i64 (Int.tmod x1 9 - Int.tmod x0 9))
 (some (2))
 (br (IntKind.wrap .i64 (IntKind.wrap .i64 (Int.tdiv x1 9) - IntKind.wrap .i64 (Int.tdiv x0 9))==IntKind.wrap .i64 (0 - IntKind.wrap .i64 (Int.tmod x1 9 - Int.tmod x0 9)))
 (some (2))
 (some (0))))))))))
def qH2 (x0:Int):Option (Int):=
 br (decide (x0 < 0))
 (some (-1))
 (br (decide (x0 > 0))
 (some (1))
 (some (0)))
def qHz (rec:Int->Nat->Int->Int->Nat->List Int->Option (Nat×Nat×List Int)) (x0:Int) (x1:Nat) (x2 x3:Int) (x4:Nat) (x5:List Int):Option (Nat×Nat×List Int):=
 br (x3 != x0)
 (br (decide ((x1+1) * 8<=140737488355328))
 (rec x0 (x1+1) x2 (IntKind.wrap .i64 (x3+x2)) (x1+1) (List.append (List.take x1 x5) [x3]))
 (none))
 (some (x1,x4,x5))
def qFZ:Nat->Int->Nat->Int->Int->Nat->List Int->Option (Nat×Nat×List Int)
 | 0,_,_,_,_,_,_=>none
 | f+1,x0,x1,x2,x3,x4,x5=>qHz (qFZ f) x0 x1 x2 x3 x4 x5
def qJT (x0 x1:Int):Option (Nat×Nat×List Int):=
 ob (qH1 x0 x1) fun a2=>
 br (a2==0)
 (some (0,0,[]))
 (ob (qH2 (IntKind.wrap .i64 (IntKind.wrap .i64 (Int.tdiv x1 9) - IntKind.wrap .i64 (Int.tdiv x0 9)))) fun a3=>
 ob (qH2 (IntKind.wrap .i64 (Int.tmod x1 9 - Int.tmod x0 9))) fun a4=>
 ob (qFZ qB x1 0 (IntKind.wrap .i64 (IntKind.wrap .i64 (9 * a3)+a4)) (IntKind.wrap .i64 (x0+IntKind.wrap .i64 (IntKind.wrap .i64 (9 * a3)+a4))) 0 []) fun (a5_0,a5_1,a5_2)=>
 some (a5_0,a5_1,a5_2))
def qH0 (rec:Nat->Int->List Bool->Nat->List Int->Option ((Bool) ⊕ (Unit))) (x0:Nat) (x1:Int) (x2:List Bool) (x3:Nat) (x4:List Int):Option ((Bool) ⊕ (Unit)):=
 br (decide (x1 < Int.ofNat x0))
 (br (inB x1 x0)
 (br (inB (List.getD x4 (Int.toNat x1) 0) 81)
 (br (List.getD x2 (Int.toNat (List.getD x4 (Int.toNat x1) 0)) false)
 (some (.inl (false)))
 (rec x0 (IntKind.wrap .i64 (x1+1)) x2 x3 x4))
 (none))
 (none))
 (some (.inr ()))
def qFa:Nat->Nat->Int->List Bool->Nat->List Int->Option ((Bool) ⊕ (Unit))
 | 0,_,_,_,_,_=>none
 | f+1,x0,x1,x2,x3,x4=>qH0 (qFa f) x0 x1 x2 x3 x4
def qAq (x0 x1:Int) (x2:List Bool):Option (Bool):=
 ob (qJT x0 x1) fun (a3_0,a3_1,a3_2)=>
 ob (qFa qB a3_0 0 x2 a3_1 a3_2) fun t6_2=>
 sw t6_2 (fun a6=>
 some (a6))
 (fun _=>
 some (true))
def qFb (x0 x1 x2:Int) (x3:List Bool):Option (Bool):=
 ob (qJS x0 x1 x2) fun a4=>
 br (a4)
 (some (true))
 (ob (qH1 x1 x2) fun a5=>
 ob (qA9 x0) fun a6=>
 br (a6==1)
 (ob (qAS x0) fun a7=>
 br (a7==2)
 (br (a5==1)
 (br (IntKind.wrap .i64 (Int.tdiv x1 9)==IntKind.wrap .i64 (Int.tdiv x2 9))
 (br (decide (IntKind.wrap .i64 (0 - IntKind.wrap .i64 (Int.tmod x1 9 - Int.tmod x2 9)) > 0))
 (ob (qAq x1 x2 x3) fun a8=>
 some (a8))
 (some (false)))
 (some (false)))
 (some (false)))
 (br (a7==6)
 (br (a5==2)
 (ob (qAq x1 x2 x3) fun a8=>
 some (a8))
 (some (false)))
 (br (a7==14)
 (br (a5==2)
 (ob (qAq x1 x2 x3) fun a8=>
 some (a8))
 (some (false)))
 (br (a7==7)
 (br (a5==1)
 (ob (qAq x1 x2 x3) fun a8=>
 some (a8))
 (some (false)))
 (br (a7==15)
 (br (a5==1)
 (ob (qAq x1 x2 x3) fun a8=>
 some (a8))
 (some (false)))
 (some (false)))))))
 (ob (qAS x0) fun a7=>
 br (a7==2)
 (br (a5==1)
 (br (IntKind.wrap .i64 (Int.tdiv x1 9)==IntKind.wrap .i64 (Int.tdiv x2 9))
 (br (decide (IntKind.wrap .i64 (Int.tmod x1 9 - Int.tmod x2 9) > 0))
 (ob (qAq x1 x2 x3) fun a8=>
 some (a8))
 (some (false)))
 (some (false)))
 (some (false)))
 (br (a7==6)
 (br (a5==2)
 (ob (qAq x1 x2 x3) fun a8=>
 some (a8))
 (some (false)))
 (br (a7==14)
 (br (a5==2)
 (ob (qAq x1 x2 x3) fun a8=>
 some (a8))
 (some (false)))
 (br (a7==7)
 (br (a5==1)
 (ob (qAq x1 x2 x3) fun a8=>
 some (a8))
 (some (false)))
 (br (a7==15)
 (br (a5==1)
 (ob (qAq x1 x2 x3) fun a8=>
 some (a8))
 (some (false)))
 (some (false))))))))
def qEY (x0 x1:List Int) (x2 x3:Int) (x4 x5:Int) (x6:Bool):Option (Bool):=
 ob (qJY x0 x1 x2 x3 x4 x5 x6) fun a7=>
 br (!a7)
 (some (false))
 (br (x5 != 0)
 (ob (qDF (IntKind.wrap .i64 (IntKind.wrap .i64 (16 * x2)+x5)) x4) fun a8=>
 br (!a8)
 (br (x5 != 1)
 (some (true))
 (ob (qDu x0 x1 x2 (IntKind.wrap .i64 (IntKind.wrap .i64 (16 * x2)+x5)) (IntKind.wrap .i64 (Int.tdiv x4 9))) fun a9=>
 some (a9==0)))
 (some (false)))
 (br (inB x3 81)
 (ob (qEW x0 x1 x2) fun a8=>
 ob (qFb (conv .i8 .i64 (List.getD x0 (Int.toNat x3) 0)) x3 x4 a8) fun a9=>
 br (!a9)
 (some (false))
 (br (x6)
 (ob (qJb (conv .i8 .i64 (List.getD x0 (Int.toNat x3) 0)) x3 x4) fun a10=>
 some (a10))
 (ob (qJc (conv .i8 .i64 (List.getD x0 (Int.toNat x3) 0)) x4) fun a10=>
 some (!a10))))
 (none)))
def qH7 (rec:Nat->Int->Int->List Int->List Int->Int->Nat->List (List Int)->List Bool->Option (Nat×Int×List Int×List Int×Int×Nat×List (List Int)×List Bool)) (x0:Nat) (x1 x2:Int) (x3 x4:List Int) (x5:Int) (x6:Nat) (x7:List (List Int)) (x8:List Bool):Option (Nat×Int×List Int×List Int×Int×Nat×List (List Int)×List Bool):=
 br (decide (x2 < 81))
 (br (inB x1 81)
 (ob (qFb (conv .i8 .i64 (List.getD x3 (Int.toNat x1) 0)) x1 x2 x8) fun a22=>
 br (!a22)
 (rec x0 x1 (IntKind.wrap .i64 (x2+1)) x3 x4 x5 x6 x7 x8)
 (ob (qEY x3 x4 x5 x1 x2 0 false) fun a23=>
 br (a23)
 (br (decide ((x0+1) * 32<=140737488355328))
 (ob (qEY x3 x4 x5 x1 x2 0 true) fun a24=>
 br (a24)
 (br (decide ((x0+1+1) * 32<=140737488355328))
 (rec (x0+1+1) x1 (IntKind.wrap .i64 (x2+1)) x3 x4 x5 (x0+1+1) (List.append (List.take (x0+1) (List.append (List.take x0 x7) [[x1,x2,0,0]])) [[x1,x2,0,1]]) x8)
 (none))
 (rec (x0+1) x1 (IntKind.wrap .i64 (x2+1)) x3 x4 x5 (x0+1) (List.append (List.take x0 x7) [[x1,x2,0,0]]) x8))
 (none))
 (ob (qEY x3 x4 x5 x1 x2 0 true) fun a24=>
 br (a24)
 (br (decide ((x0+1) * 32<=140737488355328))
 (rec (x0+1) x1 (IntKind.wrap .i64 (x2+1)) x3 x4 x5 (x0+1) (List.append (List.take x0 x7) [[x1,x2,0,1]]) x8)
 (none))
 (rec x0 x1 (IntKind.wrap .i64 (x2+1)) x3 x4 x5 x6 x7 x8))))
 (none))
 (some (x0,x1,x3,x4,x5,x6,x7,x8))
def qFh:Nat->Nat->Int->Int->List Int->List Int->Int->Nat->List (List Int)->List Bool->Option (Nat×Int×List Int×List Int×Int×Nat×List (List Int)×List Bool)
 | 0,_,_,_,_,_,_,_,_,_=>none
 | f+1,x0,x1,x2,x3,x4,x5,x6,x7,x8=>qH7 (qFh f) x0 x1 x2 x3 x4 x5 x6 x7 x8
def qIA (rec:Nat->Int->List Int->List Int->Int->Nat->List (List Int)->List Bool->Option (Nat×List Int×List Int×Int×Nat×List (List Int))) (x0:Nat) (x1:Int) (x2 x3:List Int) (x4:Int) (x5:Nat) (x6:List (List Int)) (x7:List Bool):Option (Nat×List Int×List Int×Int×Nat×List (List Int)):=
 br (decide (x1 < 81))
 (br (inB x1 81)
 (ob (qA9 (conv .i8 .i64 (List.getD x2 (Int.toNat x1) 0))) fun a12=>
 br (a12 != x4)
 (rec x0 (IntKind.wrap .i64 (x1+1)) x2 x3 x4 x5 x6 x7)
 (ob (qFh qB x0 x1 0 x2 x3 x4 x5 x6 x7) fun (a13_0,a13_1,a13_2,a13_3,a13_4,a13_5,a13_6,a13_7)=>
 rec a13_0 (IntKind.wrap .i64 (a13_1+1)) a13_2 a13_3 a13_4 a13_5 a13_6 a13_7))
 (none))
 (some (x0,x2,x3,x4,x5,x6))
def qDz:Nat->Nat->Int->List Int->List Int->Int->Nat->List (List Int)->List Bool->Option (Nat×List Int×List Int×Int×Nat×List (List Int))
 | 0,_,_,_,_,_,_,_,_=>none
 | f+1,x0,x1,x2,x3,x4,x5,x6,x7=>qIA (qDz f) x0 x1 x2 x3 x4 x5 x6 x7
def qH9 (rec:Nat->Int->Int->List Int->List Int->Int->Nat->List (List Int)->Option (Nat×Int×List Int×List Int×Int×Nat×List (List Int))) (x0:Nat) (x1 x2:Int) (x3 x4:List Int) (x5:Int) (x6:Nat) (x7:List (List Int)):Option (Nat×Int×List Int×List Int×Int×Nat×List (List Int)):=
 br (decide (x2 < 81))
 (br (inB x5 2)
 (br (inB x1 8)
 (br (decide (List.getD x4 (Int.toNat x5 * 8+Int.toNat x1) 0 > 0))
 (ob (qEY x3 x4 x5 0 x2 x1 false) fun a25=>
 br (a25)
 (br (decide ((x0+1) * 32<=140737488355328))
 (rec (x0+1) x1 (IntKind.wrap .i64 (x2+1)) x3 x4 x5 (x0+1) (List.append (List.take x0 x7) [[0,x2,x1,0]]))
 (none))
 (rec x0 x1 (IntKind.wrap .i64 (x2+1)) x3 x4 x5 x6 x7))
 (some (x0,x1,x3,x4,x5,x6,x7)))
 (none))
 (none))
 (some (x0,x1,x3,x4,x5,x6,x7))
def qFi:Nat->Nat->Int->Int->List Int->List Int->Int->Nat->List (List Int)->Option (Nat×Int×List Int×List Int×Int×Nat×List (List Int))
 | 0,_,_,_,_,_,_,_,_=>none
 | f+1,x0,x1,x2,x3,x4,x5,x6,x7=>qH9 (qFi f) x0 x1 x2 x3 x4 x5 x6 x7
def qH8 (rec:Nat->Int->List Int->List Int->Int->Nat->List (List Int)->Option (Nat×Nat×List (List Int))) (x0:Nat) (x1:Int) (x2 x3:List Int) (x4:Int) (x5:Nat) (x6:List (List Int)):Option (Nat×Nat×List (List Int)):=
 br (decide (x1<=7))
 (ob (qFi qB x0 x1 0 x2 x3 x4 x5 x6) fun (a17_0,a17_1,a17_2,a17_3,a17_4,a17_5,a17_6)=>
 rec a17_0 (IntKind.wrap .i64 (a17_1+1)) a17_2 a17_3 a17_4 a17_5 a17_6)
 (some (x0,x5,x6))
def qDy:Nat->Nat->Int->List Int->List Int->Int->Nat->List (List Int)->Option (Nat×Nat×List (List Int))
 | 0,_,_,_,_,_,_,_=>none
 | f+1,x0,x1,x2,x3,x4,x5,x6=>qH8 (qDy f) x0 x1 x2 x3 x4 x5 x6
def qJZ (x0 x1:List Int) (x2:Int):Option (Nat×Nat×List (List Int)):=
 br (x2 != 0)
 (br (x2 != 1)
 (some (0,0,[]))
 (ob (qEW x0 x1 x2) fun a3=>
 ob (qDz qB 0 0 x0 x1 x2 0 [] a3) fun (a4_0,a4_1,a4_2,a4_3,a4_4,a4_5)=>
 ob (qDy qB a4_0 1 a4_1 a4_2 a4_3 a4_4 a4_5) fun (a10_0,a10_1,a10_2)=>
 some (a10_0,a10_1,a10_2)))
 (ob (qEW x0 x1 x2) fun a3=>
 ob (qDz qB 0 0 x0 x1 x2 0 [] a3) fun (a4_0,a4_1,a4_2,a4_3,a4_4,a4_5)=>
 ob (qDy qB a4_0 1 a4_1 a4_2 a4_3 a4_4 a4_5) fun (a10_0,a10_1,a10_2)=>
 some (a10_0,a10_1,a10_2))
def qGu (rec:Int->Int->Int->List Int->List Int->Int->List (List Int)->List (List Int)->Int->Int->Int->Int->Int->Int->Option (List Int×List Int×Int×List (List Int)×List (List Int)×Int×Int×Int×Int)) (x0 x1 x2:Int) (x3 x4:List Int) (x5:Int) (x6 x7:List (List Int)) (x8 x9:Int) (x10 x11:Int) (x12 x13:Int):Option (List Int×List Int×Int×List (List Int)×List (List Int)×Int×Int×Int×Int):=
 br (decide (x2<=15))
 (ob (qAi (IntKind.wrap .i64 (1 - x1)) x2) fun a23=>
 br (a23==0)
 (rec x0 x1 (IntKind.wrap .i64 (x2+1)) x3 x4 x5 x6 x7 x8 x9 x10 x11 x12 x13)
 (ob (qFV a23 x0 x8 x9) fun (a24_0,a24_1)=>
 ob (qC2 x1 x2 x3 x4 x5 x6 x7) fun (a26_0,a26_1)=>
 ob (qCv a24_0 a24_1 a26_0 a26_1) fun (a28_0,a28_1)=>
 ob (qD2 x12 x13 a28_0 a28_1) fun (a30_0,a30_1)=>
 rec x0 x1 (IntKind.wrap .i64 (x2+1)) x3 x4 x5 x6 x7 x8 x9 x10 x11 a30_0 a30_1))
 (some (x3,x4,x5,x6,x7,x10,x11,x12,x13))
def qEA:Nat->Int->Int->Int->List Int->List Int->Int->List (List Int)->List (List Int)->Int->Int->Int->Int->Int->Int->Option (List Int×List Int×Int×List (List Int)×List (List Int)×Int×Int×Int×Int)
 | 0,_,_,_,_,_,_,_,_,_,_,_,_,_,_=>none
 | f+1,x0,x1,x2,x3,x4,x5,x6,x7,x8,x9,x10,x11,x12,x13=>qGu (qEA f) x0 x1 x2 x3 x4 x5 x6 x7 x8 x9 x10 x11 x12 x13
def qGt (x0 x1:Int) (x2 x3:Int) (x4 x5:List Int) (x6:Int) (x7 x8:List (List Int)):Option (Int×Int):=
 br (decide (x0 < 0))
 (some (0,0))
 (br (decide (x0 >= 81))
 (some (0,0))
 (br (x1 != 0)
 (br (x1 != 1)
 (some (0,0))
 (ob (qEA qB x0 x1 1 x4 x5 x6 x7 x8 x2 x3 0 0 0 0) fun (_,_,_,_,_,_,_,a9_7,a9_8)=>
 some (a9_7,a9_8)))
 (ob (qEA qB x0 x1 1 x4 x5 x6 x7 x8 x2 x3 0 0 0 0) fun (_,_,_,_,_,_,_,a9_7,a9_8)=>
 some (a9_7,a9_8))))
def qFz (x0:Int) (x1 x2:List Int) (x3:Int) (x4 x5:List (List Int)):Option (Int×Int):=
 ob (qF3 x0 x1 x2 x3 x4 x5) fun a6=>
 ob (qC3 x1 x2 x3 x4 x5) fun (a7_0,a7_1)=>
 ob (qGt a6 (IntKind.wrap .i64 (1 - x0)) a7_0 a7_1 x1 x2 x3 x4 x5) fun (a9_0,a9_1)=>
 some (a9_0,a9_1)
def qIk (x0:Int) (x1 x2:List Int) (x3:Int) (x4 x5:List (List Int)):Option (Bool):=
 ob (qFz x0 x1 x2 x3 x4 x5) fun (a6_0,a6_1)=>
 ob (qEc a6_0 a6_1) fun a8=>
 some (!a8)
def qGs (x0 x1:List Int) (x2:Int):Option (Int):=
 ob (qIm x0 x1 x2) fun a3=>
 br (a3 != 0)
 (some (a3))
 (ob (qF4 x0 x1 x2) fun (a4_0,a4_1,a4_2,a4_3,a4_4)=>
 ob (qIk (IntKind.wrap .i64 (1 - x2)) a4_0 a4_1 a4_2 a4_3 a4_4) fun a9=>
 br (a9)
 (some (54))
 (some (0)))
def qIR (rec:Nat->Int->Int->Nat->List Int->Int->Int->Int->Int->Option (Nat×List Int×Int×Int×Int×Int)) (x0:Nat) (x1 x2:Int) (x3:Nat) (x4:List Int) (x5 x6:Int) (x7 x8:Int):Option (Nat×List Int×Int×Int×Int×Int):=
 br (decide (x2 < x1))
 (br (inB x2 x0)
 (ob (qBA x7 x8 (List.getD x4 (Int.toNat x2) 0)) fun (a12_0,a12_1)=>
 rec x0 x1 (IntKind.wrap .i64 (x2+1)) x3 x4 x5 x6 a12_0 a12_1)
 (none))
 (some (x3,x4,x5,x6,x7,x8))
def qFo:Nat->Nat->Int->Int->Nat->List Int->Int->Int->Int->Int->Option (Nat×List Int×Int×Int×Int×Int)
 | 0,_,_,_,_,_,_,_,_,_=>none
 | f+1,x0,x1,x2,x3,x4,x5,x6,x7,x8=>qIR (qFo f) x0 x1 x2 x3 x4 x5 x6 x7 x8
def qIQ (x0 x1:Nat) (x2:List Int):Option (Int×Int):=
 ob (qFo qB x0 (Int.ofNat x0) 0 x1 x2 0 0 0 0) fun (_,_,_,_,a3_4,a3_5)=>
 some (a3_4,a3_5)
def qH6 (rec:Int->Int->List Int->List Int->Int->Option ((Int) ⊕ (Unit))) (x0 x1:Int) (x2 x3:List Int) (x4:Int):Option ((Int) ⊕ (Unit)):=
 br (decide (x1 < 81))
 (br (inB x1 81)
 (br (conv .i8 .i64 (List.getD x2 (Int.toNat x1) 0)==IntKind.wrap .i64 (IntKind.wrap .i64 (16 * x0)+8))
 (some (.inl (x1)))
 (rec x0 (IntKind.wrap .i64 (x1+1)) x2 x3 x4))
 (none))
 (some (.inr ()))
def qFf:Nat->Int->Int->List Int->List Int->Int->Option ((Int) ⊕ (Unit))
 | 0,_,_,_,_,_=>none
 | f+1,x0,x1,x2,x3,x4=>qH6 (qFf f) x0 x1 x2 x3 x4
def qJX (x0 x1:List Int) (x2 x3:Int):Option (Int):=
 ob (qFf qB x3 0 x0 x1 x2) fun t4_2=>
 sw t4_2 (fun a4=>
 some (a4))
 (fun _=>
 some (-1))
def qH5 (rec:Int->Int->Int->List Int->List Int->Int->List Bool->Option ((Bool) ⊕ (Unit))) (x0 x1 x2:Int) (x3 x4:List Int) (x5:Int) (x6:List Bool):Option ((Bool) ⊕ (Unit)):=
 br (decide (x2 < 81))
 (br (inB x2 81)
 (ob (qA9 (conv .i8 .i64 (List.getD x3 (Int.toNat x2) 0))) fun a13=>
 br (a13==IntKind.wrap .i64 (1 - x0))
 (br (inB x2 81)
 (ob (qFb (conv .i8 .i64 (List.getD x3 (Int.toNat x2) 0)) x2 x1 x6) fun a14=>
 br (a14)
 (some (.inl (true)))
 (rec x0 x1 (IntKind.wrap .i64 (x2+1)) x3 x4 x5 x6))
 (none))
 (rec x0 x1 (IntKind.wrap .i64 (x2+1)) x3 x4 x5 x6))
 (none))
 (some (.inr ()))
def qFe:Nat->Int->Int->Int->List Int->List Int->Int->List Bool->Option ((Bool) ⊕ (Unit))
 | 0,_,_,_,_,_,_,_=>none
 | f+1,x0,x1,x2,x3,x4,x5,x6=>qH5 (qFe f) x0 x1 x2 x3 x4 x5 x6
def qGW (x0 x1:List Int) (x2 x3:Int):Option (Bool):=
 ob (qEW x0 x1 x2) fun a4=>
 ob (qJX x0 x1 x2 x3) fun a5=>
 br (decide (a5 < 0))
 (some (false))
 (ob (qFe qB x3 a5 0 x0 x1 x2 a4) fun t6_2=>
 sw t6_2 (fun a6=>
 some (a6))
 (fun _=>
 some (false)))
def qJW (x0 x1:List Int) (x2:Int):Option (Int):=
 ob (qFc x0 x1 x2) fun a3=>
 br (a3 != 0)
 (some (a3))
 (ob (qGW x0 x1 x2 (IntKind.wrap .i64 (1 - x2))) fun a4=>
 br (a4)
 (some (54))
 (some (0)))
def qFg (x0 x1:List Int) (x2 x3:Int) (x4 x5:Int) (x6:Bool):Option (List Int×List Int×Int):=
 br (x5 != 0)
 (br (inB x2 2)
 (br (inB x5 8)
 (br (inB x2 2)
 (br (inB x5 8)
 (br (inB x4 81)
 (some (List.set x0 (Int.toNat x4) (conv .i64 .i8 (IntKind.wrap .i64 (IntKind.wrap .i64 (16 * x2)+x5))),List.set x1 (Int.toNat x2 * 8+Int.toNat x5) (IntKind.wrap .i8 (List.getD x1 (Int.toNat x2 * 8+Int.toNat x5) 0 - 1)),IntKind.wrap .i8 (1 - x2)))
 (none))
 (none))
 (none))
 (none))
 (none))
 (br (inB x4 81)
 (ob (qAS (conv .i8 .i64 (List.getD x0 (Int.toNat x4) 0))) fun a7=>
 ob (qHy a7) fun a8=>
 br (a8 != 0)
 (br (inB x2 2)
 (br (inB a8 8)
 (br (inB x2 2)
 (br (inB a8 8)
 (br (inB x3 81)
 (br (inB x4 81)
 (br (x6)
 (br (inB x4 81)
 (br (inB x4 81)
 (br (inB x3 81)
 (some (List.set (List.set (List.set x0 (Int.toNat x4) (List.getD x0 (Int.toNat x3) 0)) (Int.toNat x4) (IntKind.wrap .i8 (List.getD (List.set x0 (Int.toNat x4) (List.getD x0 (Int.toNat x3) 0)) (Int.toNat x4) 0+8))) (Int.toNat x3) 0,List.set x1 (Int.toNat x2 * 8+Int.toNat a8) (IntKind.wrap .i8 (List.getD x1 (Int.toNat x2 * 8+Int.toNat a8) 0+1)),IntKind.wrap .i8 (1 - x2)))
 (none))
 (none))
 (none))
 (br (inB x3 81)
 (some (List.set (List.set x0 (Int.toNat x4) (List.getD x0 (Int.toNat x3) 0)) (Int.toNat x3) 0,List.set x1 (Int.toNat x2 * 8+Int.toNat a8) (IntKind.wrap .i8 (List.getD x1 (Int.toNat x2 * 8+Int.toNat a8) 0+1)),IntKind.wrap .i8 (1 - x2)))
 (none)))
 (none))
 (none))
 (none))
 (none))
 (none))
 (none))
 (br (inB x3 81)
 (br (inB x4 81)
 (br (x6)
 (br (inB x4 81)
 (br (inB x4 81)
 (br (inB x3 81)
 (some (List.set (List.set (List.set x0 (Int.toNat x4) (List.getD x0 (Int.toNat x3) 0)) (Int.toNat x4) (IntKind.wrap .i8 (List.getD (List.set x0 (Int.toNat x4) (List.getD x0 (Int.toNat x3) 0)) (Int.toNat x4) 0+8))) (Int.toNat x3) 0,x1,IntKind.wrap .i8 (1 - x2)))
 (none))
 (none))
 (none))
 (br (inB x3 81)
 (some (List.set (List.set x0 (Int.toNat x4) (List.getD x0 (Int.toNat x3) 0)) (Int.toNat x3) 0,x1,IntKind.wrap .i8 (1 - x2)))
 (none)))
 (none))
 (none)))
 (none))
def qHu (rec:Int->Int->Nat->Int->Int->Int->Int->Nat->List (List Int)->Option ((Int×Int) ⊕ (Int×Int))) (x0 x1:Int) (x2:Nat) (x3 x4:Int) (x5 x6:Int) (x7:Nat) (x8:List (List Int)):Option ((Int×Int) ⊕ (Int×Int)):=
 br (decide (x4 < x3))
 (br (inB x4 x2)
 (ob (qIQ 1 1 [x1]) fun (a17_0,a17_1)=>
 ob (qHw x0 (List.headD (List.take 2 (List.getD x8 (Int.toNat x4) [])) 0) (List.headD (List.tail (List.take 2 (List.getD x8 (Int.toNat x4) []))) 0) a17_0 a17_1) fun (a19_0,a19_1)=>
 ob (qCG a19_0 a19_1 x1) fun a21=>
 br (a21)
 (ob (qEf a19_0 a19_1 x1) fun (a22_0,a22_1)=>
 some (.inl (a22_0,a22_1)))
 (rec x0 x1 x2 x3 (IntKind.wrap .i64 (x4+1)) x5 x6 x7 x8))
 (none))
 (some (.inr (x5,x6)))
def qFU:Nat->Int->Int->Nat->Int->Int->Int->Int->Nat->List (List Int)->Option ((Int×Int) ⊕ (Int×Int))
 | 0,_,_,_,_,_,_,_,_,_=>none
 | f+1,x0,x1,x2,x3,x4,x5,x6,x7,x8=>qHu (qFU f) x0 x1 x2 x3 x4 x5 x6 x7 x8
def qHt (x0 x1:Int):Option (Int×Int):=
 ob (qGS 6) fun (a2_0,_,a2_2)=>
 ob (qGS 7) fun (a5_0,_,a5_2)=>
 br (decide ((a2_0+a5_0) * 16<=140737488355328))
 (ob (qFU qB x0 x1 (a2_0+a5_0) (Int.ofNat (a2_0+a5_0)) 0 0 0 (a2_0+a5_0) (List.append (List.take a2_0 a2_2) (List.take a5_0 a5_2))) fun t8_2=>
 sw t8_2 (fun (a8_0,a8_1)=>
 some (a8_0,a8_1))
 (fun (_,_)=>
 some (0,0)))
 (none)
def qF0 (rec:Int->Int->Nat->Int->Int->Nat->Int->Int->List Int->List Int->Int->List (List Int)->List (List Int)->List (List Int×List Int)->Nat->List Int->Nat->List Int->Option (Int×Int×Nat×Int×Int×List Int×List Int×Int×List (List Int)×List (List Int)×List (List Int×List Int)×Nat×List Int)) (x0 x1:Int) (x2:Nat) (x3 x4:Int) (x5:Nat) (x6 x7:Int) (x8 x9:List Int) (x10:Int) (x11 x12:List (List Int)) (x13:List (List Int×List Int)) (x14:Nat) (x15:List Int) (x16:Nat) (x17:List Int):Option (Int×Int×Nat×Int×Int×List Int×List Int×Int×List (List Int)×List (List Int)×List (List Int×List Int)×Nat×List Int):=
 br (decide (x7 < x6))
 (br (inB x7 x5)
 (ob (qHt (List.getD x17 (Int.toNat x7) 0) x1) fun (a43_0,a43_1)=>
 ob (qC3 x8 x9 x10 x11 x12) fun (a45_0,a45_1)=>
 ob (qCv a43_0 a43_1 a45_0 a45_1) fun (a47_0,a47_1)=>
 ob (qGb a47_0 a47_1) fun a49=>
 br (a49 != 1)
 (rec x0 x1 x2 x3 x4 x5 x6 (IntKind.wrap .i64 (x7+1)) x8 x9 x10 x11 x12 x13 x14 x15 x16 x17)
 (ob (qF6 x0 x8 x9 x10 x11 x12) fun (a50_0,a50_1)=>
 ob (qCv a47_0 a47_1 a50_0 a50_1) fun (a52_0,a52_1)=>
 ob (qEc a52_0 a52_1) fun a54=>
 br (a54)
 (rec x0 x1 x2 x3 x4 x5 x6 (IntKind.wrap .i64 (x7+1)) x8 x9 x10 x11 x12 x13 x14 x15 x16 x17)
 (ob (qGd a47_0 a47_1) fun a55=>
 ob (qAe (List.getD x17 (Int.toNat x7) 0) x8 x9 x10 x11 x12) fun a56=>
 ob (qC3 x8 x9 x10 x11 x12) fun (a57_0,a57_1)=>
 ob (qEf a57_0 a57_1 a55) fun (a59_0,a59_1)=>
 ob (qFV a56 (List.getD x17 (Int.toNat x7) 0) a59_0 a59_1) fun (a61_0,a61_1)=>
 ob (qCG a61_0 a61_1 x1) fun a63=>
 br (!a63)
 (rec x0 x1 x2 x3 x4 x5 x6 (IntKind.wrap .i64 (x7+1)) x8 x9 x10 x11 x12 x13 x14 x15 x16 x17)
 (ob (qAe (List.getD x17 (Int.toNat x7) 0) x8 x9 x10 x11 x12) fun a64=>
 ob (qC3 x8 x9 x10 x11 x12) fun (a65_0,a65_1)=>
 ob (qFV a64 (List.getD x17 (Int.toNat x7) 0) a65_0 a65_1) fun (a67_0,a67_1)=>
 ob (qCG a67_0 a67_1 x1) fun a69=>
 br (a69)
 (rec x0 x1 x2 x3 x4 x5 x6 (IntKind.wrap .i64 (x7+1)) x8 x9 x10 x11 x12 x13 x14 x15 x16 x17)
 (ob (qBA a43_0 a43_1 (List.getD x17 (Int.toNat x7) 0)) fun (a70_0,a70_1)=>
 rec x0 x1 x2 x3 x4 x5 x6 (IntKind.wrap .i64 (x7+1)) x8 x9 x10 x11 x12 (qAG x13 [a55] [a70_0,a70_1]) x14 x15 x16 x17)))))
 (none))
 (some (x0,x1,x2,x3,x4,x8,x9,x10,x11,x12,x13,x14,x15))
def qEt:Nat->Int->Int->Nat->Int->Int->Nat->Int->Int->List Int->List Int->Int->List (List Int)->List (List Int)->List (List Int×List Int)->Nat->List Int->Nat->List Int->Option (Int×Int×Nat×Int×Int×List Int×List Int×Int×List (List Int)×List (List Int)×List (List Int×List Int)×Nat×List Int)
 | 0,_,_,_,_,_,_,_,_,_,_,_,_,_,_,_,_,_,_=>none
 | f+1,x0,x1,x2,x3,x4,x5,x6,x7,x8,x9,x10,x11,x12,x13,x14,x15,x16,x17=>qF0 (qEt f) x0 x1 x2 x3 x4 x5 x6 x7 x8 x9 x10 x11 x12 x13 x14 x15 x16 x17
def qGx (rec:Int->Int->Nat->Int->Int->List Int->List Int->Int->List (List Int)->List (List Int)->List (List Int×List Int)->Nat->List Int->Option (List Int×List Int×Int×List (List Int)×List (List Int)×List (List Int×List Int))) (x0 x1:Int) (x2:Nat) (x3 x4:Int) (x5 x6:List Int) (x7:Int) (x8 x9:List (List Int)) (x10:List (List Int×List Int)) (x11:Nat) (x12:List Int):Option (List Int×List Int×Int×List (List Int)×List (List Int)×List (List Int×List Int)):=
 br (decide (x4 < x3))
 (br (inB x4 x2)
 (ob (qC2 (IntKind.wrap .i64 (1 - x0)) (List.getD x12 (Int.toNat x4) 0) x5 x6 x7 x8 x9) fun (a20_0,a20_1)=>
 ob (qEd a20_0 a20_1) fun (a22_0,a22_1,a22_2)=>
 ob (qEt qB x0 x1 x2 x3 x4 a22_0 (Int.ofNat a22_0) 0 x5 x6 x7 x8 x9 x10 x11 x12 a22_1 a22_2) fun (a25_0,a25_1,a25_2,a25_3,a25_4,a25_5,a25_6,a25_7,a25_8,a25_9,a25_10,a25_11,a25_12)=>
 rec a25_0 a25_1 a25_2 a25_3 (IntKind.wrap .i64 (a25_4+1)) a25_5 a25_6 a25_7 a25_8 a25_9 a25_10 a25_11 a25_12)
 (none))
 (some (x5,x6,x7,x8,x9,x10))
def qEs:Nat->Int->Int->Nat->Int->Int->List Int->List Int->Int->List (List Int)->List (List Int)->List (List Int×List Int)->Nat->List Int->Option (List Int×List Int×Int×List (List Int)×List (List Int)×List (List Int×List Int))
 | 0,_,_,_,_,_,_,_,_,_,_,_,_,_=>none
 | f+1,x0,x1,x2,x3,x4,x5,x6,x7,x8,x9,x10,x11,x12=>qGx (qEs f) x0 x1 x2 x3 x4 x5 x6 x7 x8 x9 x10 x11 x12
def qGv (x0:Int) (x1 x2:List Int) (x3:Int) (x4 x5:List (List Int)):Option (List (List Int×List Int)):=
 ob (qF3 x0 x1 x2 x3 x4 x5) fun a6=>
 br (decide (a6 < 0))
 (some ([]))
 (ob (qEs qB x0 a6 5 5 0 x1 x2 x3 x4 x5 [] 5 ([2,6,7,14,15])) fun (_,_,_,_,_,a7_5)=>
 some (a7_5))
def qHd (x0 x1:List Int) (x2:Int) (x3 x4:List (List Int)):Option (Int×Int×Int×Int×Bool×List (List Int×List Int)):=
 ob (qF3 x2 x0 x1 x2 x3 x4) fun a5=>
 ob (qGZ ) fun (a6_0,a6_1)=>
 ob (qGv x2 x0 x1 x2 x3 x4) fun a8=>
 ob (qFz x2 x0 x1 x2 x3 x4) fun (a9_0,a9_1)=>
 ob (qGb a9_0 a9_1) fun a11=>
 br (a11==0)
 (some (x2,a5,a6_0,a6_1,false,a8))
 (br (a11==1)
 (ob (qGd a9_0 a9_1) fun a12=>
 ob (qHt a12 a5) fun (a13_0,a13_1)=>
 ob (qD2 a13_0 a13_1 a9_0 a9_1) fun (a15_0,a15_1)=>
 some (x2,a5,a15_0,a15_1,true,a8))
 (some (x2,a5,0,0,true,a8)))
def qHe (x0 x1:Int) (x2 x3:Int) (_x4:Bool) (x5 x6 _x7:Int) (_x8:Bool) (x9 x10:List Int) (x11:Int) (x12 x13:List (List Int)) (x14:List (List Int×List Int)):Option (Bool×List Int×List Int×Int×List (List Int)×List (List Int)×List (List Int×List Int)):=
 br (x5==x1)
 (ob (qC3 x9 x10 x11 x12 x13) fun (a15_0,a15_1)=>
 ob (qEf a15_0 a15_1 x1) fun (a17_0,a17_1)=>
 ob (qGt x6 (IntKind.wrap .i64 (1 - x0)) a17_0 a17_1 x9 x10 x11 x12 x13) fun (a19_0,a19_1)=>
 ob (qEc a19_0 a19_1) fun a21=>
 some (a21,x9,x10,x11,x12,x13,x14))
 (ob (qCG x2 x3 x6) fun a15=>
 br (!a15)
 (some (false,x9,x10,x11,x12,x13,x14))
 (br (!qA3 x14 [x5])
 (some (true,x9,x10,x11,x12,x13,x14))
 (ob (qCG (List.headD (qA2 x14 [x5] [0,0]) 0) (List.headD (List.tail (qA2 x14 [x5] [0,0])) 0) x6) fun a16=>
 some (a16,x9,x10,x11,x12,x13,x14))))
def qHc (rec:Nat->Int->Int->List Int->List Int->Int->List (List Int)->List (List Int)->Int->Int->Int->Int->Bool->Nat->List (List Int)->List Int->List Int->Int->List (List Int)->List (List Int)->List (List Int×List Int)->Option ((Bool×List Int×List Int×Int×List (List Int)×List (List Int)) ⊕ (List Int×List Int×Int×List (List Int)×List (List Int)))) (x0:Nat) (x1 x2:Int) (x3 x4:List Int) (x5:Int) (x6 x7:List (List Int)) (x8 x9:Int) (x10 x11:Int) (x12:Bool) (x13:Nat) (x14:List (List Int)) (x15 x16:List Int) (x17:Int) (x18 x19:List (List Int)) (x20:List (List Int×List Int)):Option ((Bool×List Int×List Int×Int×List (List Int)×List (List Int)) ⊕ (List Int×List Int×Int×List (List Int)×List (List Int))):=
 br (decide (x2 < x1))
 (br (inB x2 x0)
 (ob (qHe x8 x9 x10 x11 x12 (List.headD (List.take 4 (List.getD x14 (Int.toNat x2) [])) 0) (List.headD (List.tail (List.take 4 (List.getD x14 (Int.toNat x2) []))) 0) (List.headD (List.tail (List.tail (List.take 4 (List.getD x14 (Int.toNat x2) [])))) 0) (List.headD (List.tail (List.tail (List.tail (List.take 4 (List.getD x14 (Int.toNat x2) []))))) 0 != 0) x15 x16 x17 x18 x19 x20) fun (a53_0,a53_1,a53_2,a53_3,a53_4,a53_5,a53_6)=>
 br (a53_0)
 (some (.inl (false,x3,x4,x5,x6,x7)))
 (rec x0 x1 (IntKind.wrap .i64 (x2+1)) x3 x4 x5 x6 x7 x8 x9 x10 x11 x12 x13 x14 a53_1 a53_2 a53_3 a53_4 a53_5 a53_6))
 (none))
 (some (.inr (x3,x4,x5,x6,x7)))
def qFM:Nat->Nat->Int->Int->List Int->List Int->Int->List (List Int)->List (List Int)->Int->Int->Int->Int->Bool->Nat->List (List Int)->List Int->List Int->Int->List (List Int)->List (List Int)->List (List Int×List Int)->Option ((Bool×List Int×List Int×Int×List (List Int)×List (List Int)) ⊕ (List Int×List Int×Int×List (List Int)×List (List Int)))
 | 0,_,_,_,_,_,_,_,_,_,_,_,_,_,_,_,_,_,_,_,_,_=>none
 | f+1,x0,x1,x2,x3,x4,x5,x6,x7,x8,x9,x10,x11,x12,x13,x14,x15,x16,x17,x18,x19,x20=>qHc (qFM f) x0 x1 x2 x3 x4 x5 x6 x7 x8 x9 x10 x11 x12 x13 x14 x15 x16 x17 x18 x19 x20
def qJE (x0:Int) (x1 x2:List Int) (x3:Int) (x4 x5:List (List Int)):Option (Bool):=
 ob (qAi x3 1) fun a6=>
 br (a6==0)
 (some (false))
 (br (decide (x0 < 0))
 (some (false))
 (br (decide (x0 >= 81))
 (some (false))
 (ob (qAe x0 x1 x2 x3 x4 x5) fun a7=>
 br (a7 != 0)
 (some (false))
 (ob (qKK x1 x2 x3 x4 x5) fun (a8_0,a8_1,a8_2,a8_3,a8_4)=>
 ob (qF7 x0 a6 a8_0 a8_1 a8_2 a8_3 a8_4) fun (a13_0,a13_1,a13_2,a13_3,a13_4)=>
 ob (qFz (conv .i8 .i64 (IntKind.wrap .i8 (1 - a13_2))) a13_0 a13_1 (IntKind.wrap .i8 (1 - a13_2)) a13_3 a13_4) fun (a18_0,a18_1)=>
 ob (qCG a18_0 a18_1 x0) fun a20=>
 br (!a20)
 (some (false))
 (ob (qHd a13_0 a13_1 (IntKind.wrap .i8 (1 - a13_2)) a13_3 a13_4) fun (a21_0,a21_1,a21_2,a21_3,a21_4,a21_5)=>
 ob (qGZ ) fun (a27_0,a27_1)=>
 ob (qHJ a27_0 a27_1 a13_0 a13_1 (IntKind.wrap .i8 (1 - a13_2)) a13_3 a13_4) fun (a29_0,a29_1,a29_2)=>
 ob (qFM qB a29_0 (Int.ofNat a29_0) 0 x1 x2 x3 x4 x5 a21_0 a21_1 a21_2 a21_3 a21_4 a29_1 a29_2 a13_0 a13_1 (IntKind.wrap .i8 (1 - a13_2)) a13_3 a13_4 a21_5) fun t32_2=>
 sw t32_2 (fun (a32_0,_,_,_,_,_)=>
 some (a32_0))
 (fun (_,_,_,_,_)=>
 some (true)))))))
def qHa (rec:Nat->Nat->Int->Int->List Int->List Int->Int->List (List Int)->List (List Int)->Int->Int->Int->Int->Bool->Nat->List (List Int)->Nat->List (List Int)->List (List Int×List Int)->Option (Nat×List Int×List Int×Int×List (List Int)×List (List Int)×Int×Int×Int×Int×Bool×Nat×List (List Int)×List (List Int×List Int))) (x0 x1:Nat) (x2 x3:Int) (x4 x5:List Int) (x6:Int) (x7 x8:List (List Int)) (x9 x10:Int) (x11 x12:Int) (x13:Bool) (x14:Nat) (x15:List (List Int)) (x16:Nat) (x17:List (List Int)) (x18:List (List Int×List Int)):Option (Nat×List Int×List Int×Int×List (List Int)×List (List Int)×Int×Int×Int×Int×Bool×Nat×List (List Int)×List (List Int×List Int)):=
 br (decide (x3 < x2))
 (br (inB x3 x1)
 (ob (qHe x9 x10 x11 x12 x13 (List.headD (List.take 4 (List.getD x17 (Int.toNat x3) [])) 0) (List.headD (List.tail (List.take 4 (List.getD x17 (Int.toNat x3) []))) 0) (List.headD (List.tail (List.tail (List.take 4 (List.getD x17 (Int.toNat x3) [])))) 0) (List.headD (List.tail (List.tail (List.tail (List.take 4 (List.getD x17 (Int.toNat x3) []))))) 0 != 0) x4 x5 x6 x7 x8 x18) fun (a35_0,a35_1,a35_2,a35_3,a35_4,a35_5,a35_6)=>
 br (a35_0)
 (br (decide ((x0+1) * 32<=140737488355328))
 (rec (x0+1) x1 x2 (IntKind.wrap .i64 (x3+1)) a35_1 a35_2 a35_3 a35_4 a35_5 x9 x10 x11 x12 x13 (x0+1) (List.append (List.take x0 x15) [[List.headD (List.take 4 (List.getD x17 (Int.toNat x3) [])) 0,List.headD (List.tail (List.take 4 (List.getD x17 (Int.toNat x3) []))) 0,List.headD (List.tail (List.tail (List.take 4 (List.getD x17 (Int.toNat x3) [])))) 0,bi (List.headD (List.tail (List.tail (List.tail (List.take 4 (List.getD x17 (Int.toNat x3) []))))) 0 != 0)]]) x16 x17 a35_6)
 (none))
 (rec x0 x1 x2 (IntKind.wrap .i64 (x3+1)) a35_1 a35_2 a35_3 a35_4 a35_5 x9 x10 x11 x12 x13 x14 x15 x16 x17 a35_6))
 (none))
 (some (x0,x4,x5,x6,x7,x8,x9,x10,x11,x12,x13,x14,x15,x18))
def qFK:Nat->Nat->Nat->Int->Int->List Int->List Int->Int->List (List Int)->List (List Int)->Int->Int->Int->Int->Bool->Nat->List (List Int)->Nat->List (List Int)->List (List Int×List Int)->Option (Nat×List Int×List Int×Int×List (List Int)×List (List Int)×Int×Int×Int×Int×Bool×Nat×List (List Int)×List (List Int×List Int))
 | 0,_,_,_,_,_,_,_,_,_,_,_,_,_,_,_,_,_,_,_=>none
 | f+1,x0,x1,x2,x3,x4,x5,x6,x7,x8,x9,x10,x11,x12,x13,x14,x15,x16,x17,x18=>qHa (qFK f) x0 x1 x2 x3 x4 x5 x6 x7 x8 x9 x10 x11 x12 x13 x14 x15 x16 x17 x18
def qHZ (rec:Nat->Nat->Int->Int->List Int->List Int->Int->List (List Int)->List (List Int)->Nat->List (List Int)->Nat->List (List Int)->Option (Nat×List Int×List Int×Int×List (List Int)×List (List Int)×Nat×List (List Int))) (x0 x1:Nat) (x2 x3:Int) (x4 x5:List Int) (x6:Int) (x7 x8:List (List Int)) (x9:Nat) (x10:List (List Int)) (x11:Nat) (x12:List (List Int)):Option (Nat×List Int×List Int×Int×List (List Int)×List (List Int)×Nat×List (List Int)):=
 br (decide (x3 < x2))
 (br (inB x3 x1)
 (br (List.headD (List.tail (List.tail (List.take 4 (List.getD x12 (Int.toNat x3) [])))) 0==1)
 (ob (qJE (List.headD (List.tail (List.take 4 (List.getD x12 (Int.toNat x3) []))) 0) x4 x5 x6 x7 x8) fun a46=>
 br (a46)
 (rec x0 x1 x2 (IntKind.wrap .i64 (x3+1)) x4 x5 x6 x7 x8 x9 x10 x11 x12)
 (br (decide ((x0+1) * 32<=140737488355328))
 (rec (x0+1) x1 x2 (IntKind.wrap .i64 (x3+1)) x4 x5 x6 x7 x8 (x0+1) (List.append (List.take x0 x10) [[List.headD (List.take 4 (List.getD x12 (Int.toNat x3) [])) 0,List.headD (List.tail (List.take 4 (List.getD x12 (Int.toNat x3) []))) 0,List.headD (List.tail (List.tail (List.take 4 (List.getD x12 (Int.toNat x3) [])))) 0,bi (List.headD (List.tail (List.tail (List.tail (List.take 4 (List.getD x12 (Int.toNat x3) []))))) 0 != 0)]]) x11 x12)
 (none)))
 (br (decide ((x0+1) * 32<=140737488355328))
 (rec (x0+1) x1 x2 (IntKind.wrap .i64 (x3+1)) x4 x5 x6 x7 x8 (x0+1) (List.append (List.take x0 x10) [[List.headD (List.take 4 (List.getD x12 (Int.toNat x3) [])) 0,List.headD (List.tail (List.take 4 (List.getD x12 (Int.toNat x3) []))) 0,List.headD (List.tail (List.tail (List.take 4 (List.getD x12 (Int.toNat x3) [])))) 0,bi (List.headD (List.tail (List.tail (List.tail (List.take 4 (List.getD x12 (Int.toNat x3) []))))) 0 != 0)]]) x11 x12)
 (none)))
 (none))
 (some (x0,x4,x5,x6,x7,x8,x9,x10))
def qEM:Nat->Nat->Nat->Int->Int->List Int->List Int->Int->List (List Int)->List (List Int)->Nat->List (List Int)->Nat->List (List Int)->Option (Nat×List Int×List Int×Int×List (List Int)×List (List Int)×Nat×List (List Int))
 | 0,_,_,_,_,_,_,_,_,_,_,_,_,_=>none
 | f+1,x0,x1,x2,x3,x4,x5,x6,x7,x8,x9,x10,x11,x12=>qHZ (qEM f) x0 x1 x2 x3 x4 x5 x6 x7 x8 x9 x10 x11 x12
def qHX (x0 x1:List Int) (x2:Int) (x3 x4:List (List Int)):Option (Nat×List Int×List Int×Int×List (List Int)×List (List Int)×Nat×List (List Int)):=
 ob (qHd x0 x1 x2 x3 x4) fun (a5_0,a5_1,a5_2,a5_3,a5_4,a5_5)=>
 ob (qGZ ) fun (a11_0,a11_1)=>
 ob (qHJ a11_0 a11_1 x0 x1 x2 x3 x4) fun (a13_0,a13_1,a13_2)=>
 ob (qFK qB 0 a13_0 (Int.ofNat a13_0) 0 x0 x1 x2 x3 x4 a5_0 a5_1 a5_2 a5_3 a5_4 0 [] a13_1 a13_2 a5_5) fun (a16_0,a16_1,a16_2,a16_3,a16_4,a16_5,_,_,a16_8,a16_9,_,a16_11,a16_12,_)=>
 ob (qI6 a16_8 a16_9 a16_1 a16_2 a16_3 a16_4 a16_5) fun (a30_0,a30_1,a30_2)=>
 ob (qEM qB a16_0 a30_0 (Int.ofNat a30_0) 0 a16_1 a16_2 a16_3 a16_4 a16_5 a16_11 a16_12 a30_1 a30_2) fun (a33_0,a33_1,a33_2,a33_3,a33_4,a33_5,a33_6,a33_7)=>
 some (a33_0,a33_1,a33_2,a33_3,a33_4,a33_5,a33_6,a33_7)
def qHb (rec:Nat->Int->Int->List Int->List Int->Int->List (List Int)->List (List Int)->Int->Int->Int->Bool->Nat->List (List Int)->Option ((Bool×List Int×List Int×Int×List (List Int)×List (List Int)) ⊕ (List Int×List Int×Int×List (List Int)×List (List Int)))) (x0:Nat) (x1 x2:Int) (x3 x4:List Int) (x5:Int) (x6 x7:List (List Int)) (x8 x9 x10:Int) (x11:Bool) (x12:Nat) (x13:List (List Int)):Option ((Bool×List Int×List Int×Int×List (List Int)×List (List Int)) ⊕ (List Int×List Int×Int×List (List Int)×List (List Int))):=
 br (decide (x2 < x1))
 (br (inB x2 x0)
 (br (List.headD (List.take 4 (List.getD x13 (Int.toNat x2) [])) 0==x8&&(List.headD (List.tail (List.take 4 (List.getD x13 (Int.toNat x2) []))) 0==x9&&(List.headD (List.tail (List.tail (List.take 4 (List.getD x13 (Int.toNat x2) [])))) 0==x10&&(List.headD (List.tail (List.tail (List.tail (List.take 4 (List.getD x13 (Int.toNat x2) []))))) 0 != 0)==x11)))
 (some (.inl (true,x3,x4,x5,x6,x7)))
 (rec x0 x1 (IntKind.wrap .i64 (x2+1)) x3 x4 x5 x6 x7 x8 x9 x10 x11 x12 x13))
 (none))
 (some (.inr (x3,x4,x5,x6,x7)))
def qFL:Nat->Nat->Int->Int->List Int->List Int->Int->List (List Int)->List (List Int)->Int->Int->Int->Bool->Nat->List (List Int)->Option ((Bool×List Int×List Int×Int×List (List Int)×List (List Int)) ⊕ (List Int×List Int×Int×List (List Int)×List (List Int)))
 | 0,_,_,_,_,_,_,_,_,_,_,_,_,_,_=>none
 | f+1,x0,x1,x2,x3,x4,x5,x6,x7,x8,x9,x10,x11,x12,x13=>qHb (qFL f) x0 x1 x2 x3 x4 x5 x6 x7 x8 x9 x10 x11 x12 x13
def qGH (x0 x1 x2:Int) (x3:Bool) (x4 x5:List Int) (x6:Int) (x7 x8:List (List Int)):Option (Bool×List Int×List Int×Int×List (List Int)×List (List Int)):=
 ob (qHX x4 x5 x6 x7 x8) fun (a9_0,a9_1,a9_2,a9_3,a9_4,a9_5,a9_6,a9_7)=>
 ob (qFL qB a9_0 (Int.ofNat a9_0) 0 a9_1 a9_2 a9_3 a9_4 a9_5 x0 x1 x2 x3 a9_6 a9_7) fun t17_2=>
 sw t17_2 (fun (a17_0,a17_1,a17_2,a17_3,a17_4,a17_5)=>
 some (a17_0,a17_1,a17_2,a17_3,a17_4,a17_5))
 (fun (a17_0,a17_1,a17_2,a17_3,a17_4)=>
 some (false,a17_0,a17_1,a17_2,a17_3,a17_4))
def qID (x0 x1:List Int) (x2 x3:Int) (x4 x5:Int) (x6:Bool):Option (Bool):=
 ob (qFg x0 x1 x2 x3 x4 x5 x6) fun (a7_0,a7_1,a7_2)=>
 ob (qGW a7_0 a7_1 a7_2 x2) fun a10=>
 some (!a10)
def qIE (rec:Nat->Int->List Int->List Int->Int->Nat->List (List Int)->Option ((Bool) ⊕ (Unit))) (x0:Nat) (x1:Int) (x2 x3:List Int) (x4:Int) (x5:Nat) (x6:List (List Int)):Option ((Bool) ⊕ (Unit)):=
 br (decide (x1 < Int.ofNat x0))
 (br (inB x1 x0)
 (ob (qID x2 x3 x4 (List.headD (List.take 4 (List.getD x6 (Int.toNat x1) [])) 0) (List.headD (List.tail (List.take 4 (List.getD x6 (Int.toNat x1) []))) 0) (List.headD (List.tail (List.tail (List.take 4 (List.getD x6 (Int.toNat x1) [])))) 0) (List.headD (List.tail (List.tail (List.tail (List.take 4 (List.getD x6 (Int.toNat x1) []))))) 0 != 0)) fun a13=>
 br (a13)
 (some (.inl (false)))
 (rec x0 (IntKind.wrap .i64 (x1+1)) x2 x3 x4 x5 x6))
 (none))
 (some (.inr ()))
def qFj:Nat->Nat->Int->List Int->List Int->Int->Nat->List (List Int)->Option ((Bool) ⊕ (Unit))
 | 0,_,_,_,_,_,_,_=>none
 | f+1,x0,x1,x2,x3,x4,x5,x6=>qIE (qFj f) x0 x1 x2 x3 x4 x5 x6
def qJd (x0 x1:List Int) (x2:Int):Option (Bool):=
 ob (qJZ x0 x1 x2) fun (a3_0,a3_1,a3_2)=>
 ob (qFj qB a3_0 0 x0 x1 x2 a3_1 a3_2) fun t6_2=>
 sw t6_2 (fun a6=>
 some (a6))
 (fun _=>
 some (true))
def qIC (x0 x1:List Int) (x2 x3:Int) (x4 x5:Int) (x6:Bool):Option (Bool):=
 ob (qID x0 x1 x2 x3 x4 x5 x6) fun a7=>
 br (!a7)
 (some (false))
 (br (x5 != 1)
 (some (true))
 (ob (qFg x0 x1 x2 x3 x4 x5 x6) fun (a8_0,a8_1,a8_2)=>
 ob (qGW a8_0 a8_1 a8_2 a8_2) fun a11=>
 br (!a11)
 (some (true))
 (ob (qJd a8_0 a8_1 a8_2) fun a12=>
 some (!a12))))
def qIB (x0 x1:List Int) (x2 x3:Int) (x4 x5:Int) (x6:Bool):Option (Bool):=
 ob (qEY x0 x1 x2 x3 x4 x5 x6) fun a7=>
 br (a7)
 (ob (qIC x0 x1 x2 x3 x4 x5 x6) fun a8=>
 some (a8))
 (some (false))
def qLj (x0:Int):Option (ByteArray):=
 ob (qAC x0) fun a1=>
 br (a1==0)
 (some ({ data:=#[] }))
 (ob (qCs a1) fun a2=>
 br (inB a2 9)
 (ob (qAQ x0) fun a3=>
 br (a3==1)
 (br (decide (a1 > 8))
 (some (qFv [43,IntKind.wrap .u8 (qC4 { data:=#[32,80,76,78,83,71,66,82,75] } (Int.toNat a2)+32)]))
 (some (qFv [IntKind.wrap .u8 (qC4 { data:=#[32,80,76,78,83,71,66,82,75] } (Int.toNat a2)+32)])))
 (br (decide (a1 > 8))
 (some (qFv [43,qC4 { data:=#[32,80,76,78,83,71,66,82,75] } (Int.toNat a2)]))
 (some (qFv [qC4 { data:=#[32,80,76,78,83,71,66,82,75] } (Int.toNat a2)]))))
 (none))
def qFQ (x0:Int):Option (ByteArray):=
 br (decide (x0 < 0))
 (some ({ data:=#[] }))
 (br (decide (x0 >= 81))
 (some ({ data:=#[] }))
 (ob (qGc x0) fun a1=>
 ob (qFp x0) fun a2=>
 some (qFv [conv .i64 .u8 (IntKind.wrap .i64 (49+a1)),conv .i64 .u8 (IntKind.wrap .i64 (97+a2))])))
def qHk (x0 x1 x2:Int) (x3:Bool):Option (ByteArray):=
 ob (qDh x0 x1 x2 x3) fun a4=>
 br (a4 != 0)
 (some ({ data:=#[] }))
 (br (x2 != 0)
 (ob (qAi 0 x2) fun a5=>
 ob (qLj a5) fun a6=>
 br (qCb (ByteArray.size a6+1))
 (ob (qFQ x1) fun a7=>
 br (qCb (ByteArray.size { data:={ toList:=List.append (Array.toList (ByteArray.data a6)) (Array.toList (ByteArray.data { data:=#[42] })) } }+ByteArray.size a7))
 (some ({ data:={ toList:=List.append (Array.toList (ByteArray.data { data:={ toList:=List.append (Array.toList (ByteArray.data a6)) (Array.toList (ByteArray.data { data:=#[42] })) } })) (Array.toList (ByteArray.data a7)) } }))
 (none))
 (none))
 (br (x3)
 (ob (qFQ x0) fun a5=>
 ob (qFQ x1) fun a6=>
 br (qCb (ByteArray.size a5+ByteArray.size a6))
 (br (qCb (ByteArray.size { data:={ toList:=List.append (Array.toList (ByteArray.data a5)) (Array.toList (ByteArray.data a6)) } }+1))
 (some ({ data:={ toList:=List.append (Array.toList (ByteArray.data { data:={ toList:=List.append (Array.toList (ByteArray.data a5)) (Array.toList (ByteArray.data a6)) } })) (Array.toList (ByteArray.data { data:=#[43] })) } }))
 (none))
 (none))
 (ob (qFQ x0) fun a5=>
 ob (qFQ x1) fun a6=>
 br (qCb (ByteArray.size a5+ByteArray.size a6))
 (some ({ data:={ toList:=List.append (Array.toList (ByteArray.data a5)) (Array.toList (ByteArray.data a6)) } }))
 (none))))
def qZi (rec:Int->Bool->Int->ByteArray->Nat->Option ((Int) ⊕ (Unit))) (x0:Int) (x1:Bool) (x2:Int) (x3:ByteArray) (x4:Nat):Option ((Int) ⊕ (Unit)):=
 br (Nat.blt x4 (ByteArray.size x3))
 (br (Int.ofNat x4==0)
 (rec x0 x1 x2 x3 (x4+qCh x3 x4))
 (br (qEF x3 x4 != x0)
 (rec x0 x1 x2 x3 (x4+qCh x3 x4))
 (br (x1)
 (ob (qCt (Int.ofNat x4)) fun a7=>
 ob (qAi x2 a7) fun a8=>
 some (.inl (a8)))
 (ob (qAi x2 (Int.ofNat x4)) fun a7=>
 some (.inl (a7))))))
 (some (.inr ()))
def qHp:Nat->Int->Bool->Int->ByteArray->Nat->Option ((Int) ⊕ (Unit))
 | 0,_,_,_,_,_=>none
 | f+1,x0,x1,x2,x3,x4=>qZi (qHp f) x0 x1 x2 x3 x4
def qJN (x0:Int) (x1:Bool):Option (Int):=
 br (decide (x0 >= 97))
 (br (decide (x0<=122))
 (ob (qHp qB (IntKind.wrap .i32 (x0 - 32)) x1 1 ({ data:=#[32,80,76,78,83,71,66,82,75] }) 0) fun t2_2=>
 sw t2_2 (fun a2=>
 some (a2))
 (fun _=>
 some (0)))
 (ob (qHp qB x0 x1 0 ({ data:=#[32,80,76,78,83,71,66,82,75] }) 0) fun t2_2=>
 sw t2_2 (fun a2=>
 some (a2))
 (fun _=>
 some (0))))
 (ob (qHp qB x0 x1 0 ({ data:=#[32,80,76,78,83,71,66,82,75] }) 0) fun t2_2=>
 sw t2_2 (fun a2=>
 some (a2))
 (fun _=>
 some (0)))
def qER (x0 x1:Int):Option (Int×Bool):=
 ob (qCZ (conv .i32 .i64 (IntKind.wrap .i32 (x0 - 49))) (conv .i32 .i64 (IntKind.wrap .i32 (x1 - 97)))) fun a2=>
 some (a2,decide (a2 >= 0))
def qHj (rec:Nat->Int->Int->Int->Bool->Nat->List Int->ByteArray->Nat->Option (Nat×Int×Int×Int×Bool×Nat×List Int)) (x0:Nat) (x1 x2 x3:Int) (x4:Bool) (x5:Nat) (x6:List Int) (x7:ByteArray) (x8:Nat):Option (Nat×Int×Int×Int×Bool×Nat×List Int):=
 br (Nat.blt x8 (ByteArray.size x7))
 (br (Int.ofNat x0==6)
 (some (x0,x1,x2,x3,x4,x5,x6))
 (br (decide ((x0+1) * 4<=140737488355328))
 (rec (x0+1) x1 x2 x3 x4 (x0+1) (List.append (List.take x0 x6) [qEF x7 x8]) x7 (x8+qCh x7 x8))
 (none)))
 (some (x0,x1,x2,x3,x4,x5,x6))
def qEQ:Nat->Nat->Int->Int->Int->Bool->Nat->List Int->ByteArray->Nat->Option (Nat×Int×Int×Int×Bool×Nat×List Int)
 | 0,_,_,_,_,_,_,_,_,_=>none
 | f+1,x0,x1,x2,x3,x4,x5,x6,x7,x8=>qHj (qEQ f) x0 x1 x2 x3 x4 x5 x6 x7 x8
def qFP (x0:ByteArray):Option (Int×Int×Int×Bool×Int):=
 br (decide (Int.ofNat (ByteArray.size x0)<=qA5))
 (ob (qEQ qB 0 0 0 0 false 0 [] x0 0) fun (a1_0,_,_,_,_,_,a1_6)=>
 br (Int.ofNat a1_0 != 4)
 (br (Int.ofNat a1_0 != 5)
 (some (0,0,0,false,70))
 (br (inB 1 a1_0)
 (br (List.getD a1_6 1 0==42)
 (br (inB 0 a1_0)
 (ob (qJN (List.getD a1_6 0 0) false) fun a8=>
 br (inB 2 a1_0)
 (br (inB 3 a1_0)
 (ob (qER (List.getD a1_6 2 0) (List.getD a1_6 3 0)) fun (a9_0,a9_1)=>
 ob (qAQ a8) fun a11=>
 br (a11 != 0)
 (some (0,0,0,false,70))
 (br (a8==8)
 (some (0,0,0,false,70))
 (br (!a9_1)
 (some (0,0,0,false,70))
 (br (Int.ofNat a1_0 != 4)
 (some (0,0,0,false,70))
 (some (0,a9_0,a8,false,0))))))
 (none))
 (none))
 (none))
 (br (inB 0 a1_0)
 (br (inB 1 a1_0)
 (ob (qER (List.getD a1_6 0 0) (List.getD a1_6 1 0)) fun (a8_0,a8_1)=>
 br (inB 2 a1_0)
 (br (inB 3 a1_0)
 (ob (qER (List.getD a1_6 2 0) (List.getD a1_6 3 0)) fun (a10_0,a10_1)=>
 br (!a8_1)
 (some (0,0,0,false,70))
 (br (!a10_1)
 (some (0,0,0,false,70))
 (br (a8_0==a10_0)
 (some (0,0,0,false,70))
 (br (Int.ofNat a1_0==5)
 (br (inB 4 a1_0)
 (br (List.getD a1_6 4 0 != 43)
 (some (0,0,0,false,70))
 (some (a8_0,a10_0,0,Int.ofNat a1_0==5,0)))
 (none))
 (some (a8_0,a10_0,0,Int.ofNat a1_0==5,0))))))
 (none))
 (none))
 (none))
 (none)))
 (none)))
 (br (inB 1 a1_0)
 (br (List.getD a1_6 1 0==42)
 (br (inB 0 a1_0)
 (ob (qJN (List.getD a1_6 0 0) false) fun a8=>
 br (inB 2 a1_0)
 (br (inB 3 a1_0)
 (ob (qER (List.getD a1_6 2 0) (List.getD a1_6 3 0)) fun (a9_0,a9_1)=>
 ob (qAQ a8) fun a11=>
 br (a11 != 0)
 (some (0,0,0,false,70))
 (br (a8==8)
 (some (0,0,0,false,70))
 (br (!a9_1)
 (some (0,0,0,false,70))
 (br (Int.ofNat a1_0 != 4)
 (some (0,0,0,false,70))
 (some (0,a9_0,a8,false,0))))))
 (none))
 (none))
 (none))
 (br (inB 0 a1_0)
 (br (inB 1 a1_0)
 (ob (qER (List.getD a1_6 0 0) (List.getD a1_6 1 0)) fun (a8_0,a8_1)=>
 br (inB 2 a1_0)
 (br (inB 3 a1_0)
 (ob (qER (List.getD a1_6 2 0) (List.getD a1_6 3 0)) fun (a10_0,a10_1)=>
 br (!a8_1)
 (some (0,0,0,false,70))
 (br (!a10_1)
 (some (0,0,0,false,70))
 (br (a8_0==a10_0)
 (some (0,0,0,false,70))
 (br (Int.ofNat a1_0==5)
 (br (inB 4 a1_0)
 (br (List.getD a1_6 4 0 != 43)
 (some (0,0,0,false,70))
 (some (a8_0,a10_0,0,Int.ofNat a1_0==5,0)))
 (none))
 (some (a8_0,a10_0,0,Int.ofNat a1_0==5,0))))))
 (none))
 (none))
 (none))
 (none)))
 (none)))
 (none)
def qYL (rec:Nat->Nat->Int->Int->Nat->List (List Int)->List Int->List Int->Int->Int->Nat->List Int->List Int->Int->List (List Int)->List (List Int)->Nat->List (List Int)->Option ((Nat×Int×Int×Nat×List (List Int)×List Int×List Int×Int×Int×Nat×List Int×List Int×Int×List (List Int)×List (List Int)×Nat×List (List Int)) ⊕ (Nat×Nat×List (List Int)×List Int×List Int×Int×Int×Nat×List Int×List Int×Int×List (List Int)×List (List Int)×Nat×List (List Int)))) (x0 x1:Nat) (x2 x3:Int) (x4:Nat) (x5:List (List Int)) (x6 x7:List Int) (x8 x9:Int) (x10:Nat) (x11 x12:List Int) (x13:Int) (x14 x15:List (List Int)) (x16:Nat) (x17:List (List Int)):Option ((Nat×Int×Int×Nat×List (List Int)×List Int×List Int×Int×Int×Nat×List Int×List Int×Int×List (List Int)×List (List Int)×Nat×List (List Int)) ⊕ (Nat×Nat×List (List Int)×List Int×List Int×Int×Int×Nat×List Int×List Int×Int×List (List Int)×List (List Int)×Nat×List (List Int))):=
 br (decide (x3 < x2))
 (br (inB x3 x1)
 (ob (qGH (List.headD (List.take 4 (List.getD x5 (Int.toNat x3) [])) 0) (List.headD (List.tail (List.take 4 (List.getD x5 (Int.toNat x3) []))) 0) (List.headD (List.tail (List.tail (List.take 4 (List.getD x5 (Int.toNat x3) [])))) 0) (List.headD (List.tail (List.tail (List.tail (List.take 4 (List.getD x5 (Int.toNat x3) []))))) 0 != 0) x11 x12 x13 x14 x15) fun (a34_0,a34_1,a34_2,a34_3,a34_4,a34_5)=>
 br (!a34_0)
 (some (.inl (x0,x3,110,x4,x5,a34_1,a34_2,a34_3,x9,x10,a34_1,a34_2,a34_3,a34_4,a34_5,x16,x17)))
 (ob (qC5 (List.headD (List.take 4 (List.getD x5 (Int.toNat x3) [])) 0) (List.headD (List.tail (List.take 4 (List.getD x5 (Int.toNat x3) []))) 0) (List.headD (List.tail (List.tail (List.take 4 (List.getD x5 (Int.toNat x3) [])))) 0) (List.headD (List.tail (List.tail (List.tail (List.take 4 (List.getD x5 (Int.toNat x3) []))))) 0 != 0) x9 x10 a34_1 a34_2 a34_3 a34_4 a34_5 x16 x17) fun t40_2=>
 sw t40_2 (fun (_,a40_1,a40_2,a40_3,a40_4,a40_5,a40_6,a40_7,a40_8,a40_9)=>
 rec x0 x1 x2 (IntKind.wrap .i64 (x3+1)) x4 x5 x6 x7 x8 a40_1 a40_2 a40_3 a40_4 a40_5 a40_6 a40_7 a40_8 a40_9)
 (fun (_,a40_1,a40_2,a40_3,a40_4,a40_5,a40_6,a40_7,a40_8,a40_9)=>
 rec x0 x1 x2 (IntKind.wrap .i64 (x3+1)) x4 x5 x6 x7 x8 a40_1 a40_2 a40_3 a40_4 a40_5 a40_6 a40_7 a40_8 a40_9)))
 (none))
 (some (.inr (x0,x4,x5,x6,x7,x8,x9,x10,x11,x12,x13,x14,x15,x16,x17)))
def qLH:Nat->Nat->Nat->Int->Int->Nat->List (List Int)->List Int->List Int->Int->Int->Nat->List Int->List Int->Int->List (List Int)->List (List Int)->Nat->List (List Int)->Option ((Nat×Int×Int×Nat×List (List Int)×List Int×List Int×Int×Int×Nat×List Int×List Int×Int×List (List Int)×List (List Int)×Nat×List (List Int)) ⊕ (Nat×Nat×List (List Int)×List Int×List Int×Int×Int×Nat×List Int×List Int×Int×List (List Int)×List (List Int)×Nat×List (List Int)))
 | 0,_,_,_,_,_,_,_,_,_,_,_,_,_,_,_,_,_,_=>none
 | f+1,x0,x1,x2,x3,x4,x5,x6,x7,x8,x9,x10,x11,x12,x13,x14,x15,x16,x17=>qYL (qLH f) x0 x1 x2 x3 x4 x5 x6 x7 x8 x9 x10 x11 x12 x13 x14 x15 x16 x17
def qPn (x0 x1:List Int) (x2:Int) (x3 x4:Nat) (x5:List (List Int)):Option (Int×List Int×List Int×Int×Int):=
 ob (qGs x0 x1 x2) fun a6=>
 br (a6 != 0)
 (some (0,x0,x1,x2,a6))
 (ob (qHB x0 x1 x2) fun (a7_0,a7_1,a7_2,a7_3,a7_4,a7_5,a7_6,a7_7,a7_8)=>
 ob (qLH qB x3 x3 (Int.ofNat x3) 0 x4 x5 ([0,0,0,0,0,0,0,0,0,0,0,0,0,0,0,0,0,0,0,0,0,0,0,0,0,0,0,0,0,0,0,0,0,0,0,0,0,0,0,0,0,0,0,0,0,0,0,0,0,0,0,0,0,0,0,0,0,0,0,0,0,0,0,0,0,0,0,0,0,0,0,0,0,0,0,0,0,0,0,0,0]) ([0,0,0,0,0,0,0,0,0,0,0,0,0,0,0,0]) 0 a7_0 a7_1 a7_2 a7_3 a7_4 a7_5 a7_6 a7_7 a7_8) fun t16_2=>
 sw t16_2 (fun (_,a16_1,a16_2,_,_,a16_5,a16_6,a16_7,_,_,_,_,_,_,_,_,_)=>
 some (a16_1,a16_5,a16_6,a16_7,a16_2))
 (fun (a16_0,_,_,_,_,_,_,_,a16_8,a16_9,a16_10,_,_,_,_)=>
 some (Int.ofNat a16_0,a16_8,a16_9,a16_10,0)))
def qfe (rec:Int->ByteArray->Nat->Option (Int)) (x0:Int) (x1:ByteArray) (x2:Nat):Option (Int):=
 br (Nat.blt x2 (ByteArray.size x1))
 (rec (IntKind.wrap .i64 (x0+1)) x1 (x2+qCh x1 x2))
 (some (x0))
def qMy:Nat->Int->ByteArray->Nat->Option (Int)
 | 0,_,_,_=>none
 | f+1,x0,x1,x2=>qfe (qMy f) x0 x1 x2
def qMw (x0:ByteArray):Option (Int):=
 br (decide (Int.ofNat (ByteArray.size x0)<=qA5))
 (ob (qMy qB 0 x0 0) fun a1=>
 some (a1))
 (none)
def qMz (x0:ByteArray):Option (Int×Int):=
 br (decide (Int.ofNat (ByteArray.size x0)<=qA5))
 (br (decide (Int.ofNat (ByteArray.size x0) < 1))
 (some (65533,0))
 (br (inB 0 (ByteArray.size x0))
 (none)
 (none)))
 (none)
def qTK (x0:ByteArray):Option (Int×Int):=
 br (!qDK x0 { data:=#[] })
 (br (inB 0 (ByteArray.size x0))
 (br (decide (qC4 x0 0 < 128))
 (br (inB 0 (ByteArray.size x0))
 (some (Int.ofNat (UInt8.toNat (List.getD (Array.toList (ByteArray.data x0)) 0 0)),1))
 (none))
 (ob (qMz x0) fun (a1_0,a1_1)=>
 some (a1_0,a1_1)))
 (none))
 (ob (qMz x0) fun (a1_0,a1_1)=>
 some (a1_0,a1_1))
def qe2 (rec:ByteArray->Int->Nat->Int->Nat->List (List Int)->Option (ByteArray×Int×Nat×Nat×List (List Int))) (x0:ByteArray) (x1:Int) (x2:Nat) (x3:Int) (x4:Nat) (x5:List (List Int)):Option (ByteArray×Int×Nat×Nat×List (List Int)):=
 br (decide (x3 < IntKind.wrap .i64 (x1 - 1)))
 (ob (qTK x0) fun (_,a9_1)=>
 br (qBs a9_1 (ByteArray.size x0)&&true)
 (br (inB x3 x2)
 (br (true&&qBs a9_1 (ByteArray.size x0))
 (rec (ByteArray.extract x0 (Int.toNat a9_1) (ByteArray.size x0)) x1 x2 (IntKind.wrap .i64 (x3+1)) x4 (List.set x5 (Int.toNat x3) (List.set (List.getD x5 (Int.toNat x3) []) 0 (qAM (ByteArray.extract x0 0 (Int.toNat a9_1))))))
 (none))
 (none))
 (none))
 (some (x0,x1,x2,x4,x5))
def qIa:Nat->ByteArray->Int->Nat->Int->Nat->List (List Int)->Option (ByteArray×Int×Nat×Nat×List (List Int))
 | 0,_,_,_,_,_,_=>none
 | f+1,x0,x1,x2,x3,x4,x5=>qe2 (qIa f) x0 x1 x2 x3 x4 x5
def qSy (x0:ByteArray) (x1:Int):Option (Nat×Nat×List (List Int)):=
 ob (qMw x0) fun a2=>
 br (decide (x1 < 0))
 (br (decide (0<=a2))
 (br (decide (a2<=a2))
 (br (decide (16 * a2<=281474976710656))
 (ob (qIa qB x0 a2 (Int.toNat a2) 0 (Int.toNat a2) (List.replicate (Int.toNat a2) [0])) fun (a3_0,a3_1,a3_2,a3_3,a3_4)=>
 br (decide (a3_1 > 0))
 (br (inB (IntKind.wrap .i64 (a3_1 - 1)) a3_2)
 (some (a3_2,a3_3,List.set a3_4 (Int.toNat (IntKind.wrap .i64 (a3_1 - 1))) (List.set (List.getD a3_4 (Int.toNat (IntKind.wrap .i64 (a3_1 - 1))) []) 0 (qAM a3_0))))
 (none))
 (some (a3_2,a3_3,a3_4)))
 (none))
 (none))
 (none))
 (br (decide (x1 > a2))
 (br (decide (0<=a2))
 (br (decide (a2<=a2))
 (br (decide (16 * a2<=281474976710656))
 (ob (qIa qB x0 a2 (Int.toNat a2) 0 (Int.toNat a2) (List.replicate (Int.toNat a2) [0])) fun (a3_0,a3_1,a3_2,a3_3,a3_4)=>
 br (decide (a3_1 > 0))
 (br (inB (IntKind.wrap .i64 (a3_1 - 1)) a3_2)
 (some (a3_2,a3_3,List.set a3_4 (Int.toNat (IntKind.wrap .i64 (a3_1 - 1))) (List.set (List.getD a3_4 (Int.toNat (IntKind.wrap .i64 (a3_1 - 1))) []) 0 (qAM a3_0))))
 (none))
 (some (a3_2,a3_3,a3_4)))
 (none))
 (none))
 (none))
 (br (decide (0<=x1))
 (br (decide (x1<=x1))
 (br (decide (16 * x1<=281474976710656))
 (ob (qIa qB x0 x1 (Int.toNat x1) 0 (Int.toNat x1) (List.replicate (Int.toNat x1) [0])) fun (a3_0,a3_1,a3_2,a3_3,a3_4)=>
 br (decide (a3_1 > 0))
 (br (inB (IntKind.wrap .i64 (a3_1 - 1)) a3_2)
 (some (a3_2,a3_3,List.set a3_4 (Int.toNat (IntKind.wrap .i64 (a3_1 - 1))) (List.set (List.getD a3_4 (Int.toNat (IntKind.wrap .i64 (a3_1 - 1))) []) 0 (qAM a3_0))))
 (none))
 (some (a3_2,a3_3,a3_4)))
 (none))
 (none))
 (none)))
def qS7 (x0:ByteArray) (x1:Int):Option (Int):=
 br (qCb (ByteArray.size x0))
 (some (qCk 1 x0 x1))
 (none)
def qS6 (x0 x1:ByteArray):Option (Int):=
 br (decide (Int.ofNat (ByteArray.size x1)<=qA5))
 (br (Int.ofNat (ByteArray.size x1)==0)
 (some (0))
 (br (qDK x1 x0)
 (some (0))
 (br (Int.ofNat (ByteArray.size x1)==1)
 (br (inB 0 (ByteArray.size x1))
 (ob (qS7 x0 (qC4 x1 0)) fun a2=>
 some (a2))
 (none))
 (br (decide (Int.ofNat (ByteArray.size x0)<=qA5))
 (br (decide (Int.ofNat (ByteArray.size x1) >= Int.ofNat (ByteArray.size x0)))
 (some (-1))
 (none))
 (none)))))
 (none)
def qMp (x0 x1:ByteArray):Option (Int):=
 ob (qS6 x0 x1) fun a2=>
 some (a2)
def qel (rec:ByteArray->ByteArray->Int->Option (Int)) (x0 x1:ByteArray) (x2:Int):Option (Int):=
 ob (qMp x0 x1) fun a5=>
 br (a5 == -1)
 (some (x2))
 (br (decide (Int.ofNat (ByteArray.size x1)<=qA5))
 (br (true&&qBs (IntKind.wrap .i64 (a5+Int.ofNat (ByteArray.size x1))) (ByteArray.size x0))
 (rec (ByteArray.extract x0 (Int.toNat (IntKind.wrap .i64 (a5+Int.ofNat (ByteArray.size x1)))) (ByteArray.size x0)) x1 (IntKind.wrap .i64 (x2+1)))
 (none))
 (none))
def qMo:Nat->ByteArray->ByteArray->Int->Option (Int)
 | 0,_,_,_=>none
 | f+1,x0,x1,x2=>qel (qMo f) x0 x1 x2
def qSs (x0 x1:ByteArray):Option (Int):=
 br (decide (Int.ofNat (ByteArray.size x1)<=qA5))
 (br (Int.ofNat (ByteArray.size x1)==0)
 (ob (qMw x0) fun a2=>
 some (IntKind.wrap .i64 (a2+1)))
 (br (decide (Int.ofNat (ByteArray.size x1)<=qA5))
 (br (Int.ofNat (ByteArray.size x1)==1)
 (br (inB 0 (ByteArray.size x1))
 (br (qCb (ByteArray.size x0))
 (some (qCk 0 x0 (qC4 x1 0)))
 (none))
 (none))
 (ob (qMo qB x0 x1 0) fun a2=>
 some (a2)))
 (none)))
 (none)
def qe8 (rec:ByteArray->ByteArray->Int->Int->Nat->Int->Nat->List (List Int)->Option (ByteArray×Nat×Int×Nat×List (List Int))) (x0 x1:ByteArray) (x2 x3:Int) (x4:Nat) (x5:Int) (x6:Nat) (x7:List (List Int)):Option (ByteArray×Nat×Int×Nat×List (List Int)):=
 br (decide (x5 < x3))
 (ob (qMp x0 x1) fun a13=>
 br (decide (a13 < 0))
 (some (x0,x4,x5,x6,x7))
 (br (qBs (IntKind.wrap .i64 (a13+x2)) (ByteArray.size x0)&&true)
 (br (inB x5 x4)
 (br (decide (Int.ofNat (ByteArray.size x1)<=qA5))
 (br (true&&qBs (IntKind.wrap .i64 (a13+Int.ofNat (ByteArray.size x1))) (ByteArray.size x0))
 (rec (ByteArray.extract x0 (Int.toNat (IntKind.wrap .i64 (a13+Int.ofNat (ByteArray.size x1)))) (ByteArray.size x0)) x1 x2 x3 x4 (IntKind.wrap .i64 (x5+1)) x6 (List.set x7 (Int.toNat x5) (List.set (List.getD x7 (Int.toNat x5) []) 0 (qAM (ByteArray.extract x0 0 (Int.toNat (IntKind.wrap .i64 (a13+x2))))))))
 (none))
 (none))
 (none))
 (none)))
 (some (x0,x4,x5,x6,x7))
def qJt:Nat->ByteArray->ByteArray->Int->Int->Nat->Int->Nat->List (List Int)->Option (ByteArray×Nat×Int×Nat×List (List Int))
 | 0,_,_,_,_,_,_,_,_=>none
 | f+1,x0,x1,x2,x3,x4,x5,x6,x7=>qe8 (qJt f) x0 x1 x2 x3 x4 x5 x6 x7
def qS2 (x0 x1:ByteArray) (x2 x3:Int):Option (Nat×Nat×List (List Int)):=
 br (x3==0)
 (some (0,0,[]))
 (br (qDK x1 { data:=#[] })
 (ob (qSy x0 x3) fun (a4_0,a4_1,a4_2)=>
 some (a4_0,a4_1,a4_2))
 (br (decide (x3 < 0))
 (ob (qSs x0 x1) fun a4=>
 br (decide (Int.ofNat (ByteArray.size x0)<=qA5))
 (br (decide (0<=bif true then bif decide (IntKind.wrap .i64 (Int.ofNat (ByteArray.size x0)+1) < IntKind.wrap .i64 (a4+1)) then IntKind.wrap .i64 (Int.ofNat (ByteArray.size x0)+1) else IntKind.wrap .i64 (a4+1) else bif decide (IntKind.wrap .i64 (Int.ofNat (ByteArray.size x0)+1) > IntKind.wrap .i64 (a4+1)) then IntKind.wrap .i64 (Int.ofNat (ByteArray.size x0)+1) else IntKind.wrap .i64 (a4+1)))
 (br (decide ((bif true then bif decide (IntKind.wrap .i64 (Int.ofNat (ByteArray.size x0)+1) < IntKind.wrap .i64 (a4+1)) then IntKind.wrap .i64 (Int.ofNat (ByteArray.size x0)+1) else IntKind.wrap .i64 (a4+1) else bif decide (IntKind.wrap .i64 (Int.ofNat (ByteArray.size x0)+1) > IntKind.wrap .i64 (a4+1)) then IntKind.wrap .i64 (Int.ofNat (ByteArray.size x0)+1) else IntKind.wrap .i64 (a4+1))<=bif true then bif decide (IntKind.wrap .i64 (Int.ofNat (ByteArray.size x0)+1) < IntKind.wrap .i64 (a4+1)) then IntKind.wrap .i64 (Int.ofNat (ByteArray.size x0)+1) else IntKind.wrap .i64 (a4+1) else bif decide (IntKind.wrap .i64 (Int.ofNat (ByteArray.size x0)+1) > IntKind.wrap .i64 (a4+1)) then IntKind.wrap .i64 (Int.ofNat (ByteArray.size x0)+1) else IntKind.wrap .i64 (a4+1)))
 (br (decide ((16 * bif true then bif decide (IntKind.wrap .i64 (Int.ofNat (ByteArray.size x0)+1) < IntKind.wrap .i64 (a4+1)) then IntKind.wrap .i64 (Int.ofNat (ByteArray.size x0)+1) else IntKind.wrap .i64 (a4+1) else bif decide (IntKind.wrap .i64 (Int.ofNat (ByteArray.size x0)+1) > IntKind.wrap .i64 (a4+1)) then IntKind.wrap .i64 (Int.ofNat (ByteArray.size x0)+1) else IntKind.wrap .i64 (a4+1))<=281474976710656))
 (ob (qJt qB x0 x1 x2 (IntKind.wrap .i64 ((bif true then bif decide (IntKind.wrap .i64 (Int.ofNat (ByteArray.size x0)+1) < IntKind.wrap .i64 (a4+1)) then IntKind.wrap .i64 (Int.ofNat (ByteArray.size x0)+1) else IntKind.wrap .i64 (a4+1) else bif decide (IntKind.wrap .i64 (Int.ofNat (ByteArray.size x0)+1) > IntKind.wrap .i64 (a4+1)) then IntKind.wrap .i64 (Int.ofNat (ByteArray.size x0)+1) else IntKind.wrap .i64 (a4+1)) - 1)) (Int.toNat (bif true then bif decide (IntKind.wrap .i64 (Int.ofNat (ByteArray.size x0)+1) < IntKind.wrap .i64 (a4+1)) then IntKind.wrap .i64 (Int.ofNat (ByteArray.size x0)+1) else IntKind.wrap .i64 (a4+1) else bif decide (IntKind.wrap .i64 (Int.ofNat (ByteArray.size x0)+1) > IntKind.wrap .i64 (a4+1)) then IntKind.wrap .i64 (Int.ofNat (ByteArray.size x0)+1) else IntKind.wrap .i64 (a4+1))) 0 (Int.toNat (bif true then bif decide (IntKind.wrap .i64 (Int.ofNat (ByteArray.size x0)+1) < IntKind.wrap .i64 (a4+1)) then IntKind.wrap .i64 (Int.ofNat (ByteArray.size x0)+1) else IntKind.wrap .i64 (a4+1) else bif decide (IntKind.wrap .i64 (Int.ofNat (ByteArray.size x0)+1) > IntKind.wrap .i64 (a4+1)) then IntKind.wrap .i64 (Int.ofNat (ByteArray.size x0)+1) else IntKind.wrap .i64 (a4+1))) (List.replicate (Int.toNat (bif true then bif decide (IntKind.wrap .i64 (Int.ofNat (ByteArray.size x0)+1) < IntKind.wrap .i64 (a4+1)) then IntKind.wrap .i64 (Int.ofNat (ByteArray.size x0)+1) else IntKind.wrap .i64 (a4+1) else bif decide (IntKind.wrap .i64 (Int.ofNat (ByteArray.size x0)+1) > IntKind.wrap .i64 (a4+1)) then IntKind.wrap .i64 (Int.ofNat (ByteArray.size x0)+1) else IntKind.wrap .i64 (a4+1))) [0])) fun (a5_0,a5_1,a5_2,a5_3,a5_4)=>
 br (inB a5_2 a5_1)
 (br (qBs (IntKind.wrap .i64 (a5_2+1)) a5_1)
 (some (Int.toNat (IntKind.wrap .i64 (a5_2+1)) - 0,a5_3,List.set a5_4 (Int.toNat a5_2) (List.set (List.getD a5_4 (Int.toNat a5_2) []) 0 (qAM a5_0))))
 (none))
 (none))
 (none))
 (none))
 (none))
 (none))
 (br (decide (Int.ofNat (ByteArray.size x0)<=qA5))
 (br (decide (0<=bif true then bif decide (IntKind.wrap .i64 (Int.ofNat (ByteArray.size x0)+1) < x3) then IntKind.wrap .i64 (Int.ofNat (ByteArray.size x0)+1) else x3 else bif decide (IntKind.wrap .i64 (Int.ofNat (ByteArray.size x0)+1) > x3) then IntKind.wrap .i64 (Int.ofNat (ByteArray.size x0)+1) else x3))
 (br (decide ((bif true then bif decide (IntKind.wrap .i64 (Int.ofNat (ByteArray.size x0)+1) < x3) then IntKind.wrap .i64 (Int.ofNat (ByteArray.size x0)+1) else x3 else bif decide (IntKind.wrap .i64 (Int.ofNat (ByteArray.size x0)+1) > x3) then IntKind.wrap .i64 (Int.ofNat (ByteArray.size x0)+1) else x3)<=bif true then bif decide (IntKind.wrap .i64 (Int.ofNat (ByteArray.size x0)+1) < x3) then IntKind.wrap .i64 (Int.ofNat (ByteArray.size x0)+1) else x3 else bif decide (IntKind.wrap .i64 (Int.ofNat (ByteArray.size x0)+1) > x3) then IntKind.wrap .i64 (Int.ofNat (ByteArray.size x0)+1) else x3))
 (br (decide ((16 * bif true then bif decide (IntKind.wrap .i64 (Int.ofNat (ByteArray.size x0)+1) < x3) then IntKind.wrap .i64 (Int.ofNat (ByteArray.size x0)+1) else x3 else bif decide (IntKind.wrap .i64 (Int.ofNat (ByteArray.size x0)+1) > x3) then IntKind.wrap .i64 (Int.ofNat (ByteArray.size x0)+1) else x3)<=281474976710656))
 (ob (qJt qB x0 x1 x2 (IntKind.wrap .i64 ((bif true then bif decide (IntKind.wrap .i64 (Int.ofNat (ByteArray.size x0)+1) < x3) then IntKind.wrap .i64 (Int.ofNat (ByteArray.size x0)+1) else x3 else bif decide (IntKind.wrap .i64 (Int.ofNat (ByteArray.size x0)+1) > x3) then IntKind.wrap .i64 (Int.ofNat (ByteArray.size x0)+1) else x3) - 1)) (Int.toNat (bif true then bif decide (IntKind.wrap .i64 (Int.ofNat (ByteArray.size x0)+1) < x3) then IntKind.wrap .i64 (Int.ofNat (ByteArray.size x0)+1) else x3 else bif decide (IntKind.wrap .i64 (Int.ofNat (ByteArray.size x0)+1) > x3) then IntKind.wrap .i64 (Int.ofNat (ByteArray.size x0)+1) else x3)) 0 (Int.toNat (bif true then bif decide (IntKind.wrap .i64 (Int.ofNat (ByteArray.size x0)+1) < x3) then IntKind.wrap .i64 (Int.ofNat (ByteArray.size x0)+1) else x3 else bif decide (IntKind.wrap .i64 (Int.ofNat (ByteArray.size x0)+1) > x3) then IntKind.wrap .i64 (Int.ofNat (ByteArray.size x0)+1) else x3)) (List.replicate (Int.toNat (bif true then bif decide (IntKind.wrap .i64 (Int.ofNat (ByteArray.size x0)+1) < x3) then IntKind.wrap .i64 (Int.ofNat (ByteArray.size x0)+1) else x3 else bif decide (IntKind.wrap .i64 (Int.ofNat (ByteArray.size x0)+1) > x3) then IntKind.wrap .i64 (Int.ofNat (ByteArray.size x0)+1) else x3)) [0])) fun (a4_0,a4_1,a4_2,a4_3,a4_4)=>
 br (inB a4_2 a4_1)
 (br (qBs (IntKind.wrap .i64 (a4_2+1)) a4_1)
 (some (Int.toNat (IntKind.wrap .i64 (a4_2+1)) - 0,a4_3,List.set a4_4 (Int.toNat a4_2) (List.set (List.getD a4_4 (Int.toNat a4_2) []) 0 (qAM a4_0))))
 (none))
 (none))
 (none))
 (none))
 (none))
 (none))))
def qSx (x0 x1:ByteArray):Option (Nat×Nat×List (List Int)):=
 ob (qS2 x0 x1 0 (-1)) fun (a2_0,a2_1,a2_2)=>
 some (a2_0,a2_1,a2_2)
def qYA (rec:Nat->Nat->Int->Int->Nat->List (List Int)->Nat->List (List Int)->Option ((Nat×Int×Int×Nat×Nat×List (List Int)×Nat×List (List Int)) ⊕ (Nat×Nat×List (List Int)))) (x0 x1:Nat) (x2 x3:Int) (x4:Nat) (x5:List (List Int)) (x6:Nat) (x7:List (List Int)):Option ((Nat×Int×Int×Nat×Nat×List (List Int)×Nat×List (List Int)) ⊕ (Nat×Nat×List (List Int))):=
 br (decide (x3 < x2))
 (br (inB x3 x1)
 (ob (qFP (qA1 (List.getD (List.getD x7 (Int.toNat x3) []) 0 0))) fun (a12_0,a12_1,a12_2,a12_3,a12_4)=>
 br (a12_4 != 0)
 (some (.inl (0,x3,a12_4,x0,0,[],x4,x5)))
 (br (decide ((x0+1) * 32<=140737488355328))
 (rec (x0+1) x1 x2 (IntKind.wrap .i64 (x3+1)) (x0+1) (List.append (List.take x0 x5) [[a12_0,a12_1,a12_2,bi a12_3]]) x6 x7)
 (none)))
 (none))
 (some (.inr (x0,x4,x5)))
def qLD:Nat->Nat->Nat->Int->Int->Nat->List (List Int)->Nat->List (List Int)->Option ((Nat×Int×Int×Nat×Nat×List (List Int)×Nat×List (List Int)) ⊕ (Nat×Nat×List (List Int)))
 | 0,_,_,_,_,_,_,_,_=>none
 | f+1,x0,x1,x2,x3,x4,x5,x6,x7=>qYA (qLD f) x0 x1 x2 x3 x4 x5 x6 x7
def qPj (x0:ByteArray):Option (Nat×Int×Int×Nat×List (List Int)):=
 br (qDK x0 { data:=#[] })
 (some (0,0,0,0,[]))
 (ob (qSx x0 ({ data:=#[32] })) fun (a1_0,a1_1,a1_2)=>
 ob (qLD qB 0 a1_0 (Int.ofNat a1_0) 0 0 [] a1_1 a1_2) fun t4_2=>
 sw t4_2 (fun (a4_0,a4_1,a4_2,_,a4_4,a4_5,_,_)=>
 some (a4_0,a4_1,a4_2,a4_4,a4_5))
 (fun (a4_0,a4_1,a4_2)=>
 some (a4_0,Int.ofNat a4_0,0,a4_1,a4_2)))
def strings_Join (x0:Nat) (x1:ByteArray) (_x2:Nat) (x3:List (List Int)):Option (ByteArray):=
 br (qO0 (qEi (List.take x0 x3)) x1)
 (some (qKy (qEi (List.take x0 x3)) x1))
 (none)
def qYR (rec:Nat->Nat->Int->Int->Nat->List (List Int)->Nat->List (List Int)->Option (Nat×Nat×List (List Int)×Nat×List (List Int))) (x0 x1:Nat) (x2 x3:Int) (x4:Nat) (x5:List (List Int)) (x6:Nat) (x7:List (List Int)):Option (Nat×Nat×List (List Int)×Nat×List (List Int)):=
 br (decide (x3 < x2))
 (br (inB x3 x1)
 (ob (qHk (List.headD (List.take 4 (List.getD x5 (Int.toNat x3) [])) 0) (List.headD (List.tail (List.take 4 (List.getD x5 (Int.toNat x3) []))) 0) (List.headD (List.tail (List.tail (List.take 4 (List.getD x5 (Int.toNat x3) [])))) 0) (List.headD (List.tail (List.tail (List.tail (List.take 4 (List.getD x5 (Int.toNat x3) []))))) 0 != 0)) fun a11=>
 br (decide ((x0+1) * 16<=140737488355328))
 (rec (x0+1) x1 x2 (IntKind.wrap .i64 (x3+1)) x4 x5 (x0+1) (List.append (List.take x0 x7) [[qAM a11]]))
 (none))
 (none))
 (some (x0,x4,x5,x6,x7))
def qLJ:Nat->Nat->Nat->Int->Int->Nat->List (List Int)->Nat->List (List Int)->Option (Nat×Nat×List (List Int)×Nat×List (List Int))
 | 0,_,_,_,_,_,_,_,_=>none
 | f+1,x0,x1,x2,x3,x4,x5,x6,x7=>qYR (qLJ f) x0 x1 x2 x3 x4 x5 x6 x7
def qPu (x0 x1:Nat) (x2:List (List Int)):Option (ByteArray):=
 ob (qLJ qB 0 x0 (Int.ofNat x0) 0 x1 x2 0 []) fun (a3_0,_,_,a3_3,a3_4)=>
 ob (strings_Join a3_0 ({ data:=#[32] }) a3_3 a3_4) fun a8=>
 some (a8)
def qJD:Option (Bool):=
 ob (qNt ) fun (a0_0,a0_1,a0_2)=>
 ob (qPn a0_0 a0_1 a0_2 2 2 ([[60,59,0,0],[60,58,0,0]])) fun (a3_0,a3_1,_,_,a3_4)=>
 ob (qPj ({ data:=#[55,103,55,102,32,51,99,51,100] })) fun (a8_0,a8_1,a8_2,a8_3,a8_4)=>
 br (a3_0==1)
 (br (a3_4==110)
 (br (List.getD a3_1 59 0==1)
 (br (a8_2==0)
 (br (a8_1==2)
 (ob (qPu a8_0 a8_3 a8_4) fun a13=>
 some (qDK a13 { data:=#[55,103,55,102,32,51,99,51,100] }))
 (some (false)))
 (some (false)))
 (some (false)))
 (some (false)))
 (some (false))
def qLF (rec:Nat->Nat->Nat->Nat->Int->Int->Nat->List (List Int)->List Int->List Int->Int->Int->Nat->List Int->List Int->Int->List (List Int)->List (List Int)->Nat->List (List Int)->Option ((Nat×Nat×Int×Int×Nat×List (List Int)×List Int×List Int×Int×Int×Nat×List Int×List Int×Int×List (List Int)×List (List Int)×Nat×List (List Int)) ⊕ (Nat×Nat×Nat×List (List Int)×List Int×List Int×Int×Int×Nat×List Int×List Int×Int×List (List Int)×List (List Int)×Nat×List (List Int)))) (x0 x1:Nat) (x2 x3:Nat) (x4 x5:Int) (x6:Nat) (x7:List (List Int)) (x8 x9:List Int) (x10 x11:Int) (x12:Nat) (x13 x14:List Int) (x15:Int) (x16 x17:List (List Int)) (x18:Nat) (x19:List (List Int)):Option ((Nat×Nat×Int×Int×Nat×List (List Int)×List Int×List Int×Int×Int×Nat×List Int×List Int×Int×List (List Int)×List (List Int)×Nat×List (List Int)) ⊕ (Nat×Nat×Nat×List (List Int)×List Int×List Int×Int×Int×Nat×List Int×List Int×Int×List (List Int)×List (List Int)×Nat×List (List Int))):=
 br (decide (x5 < x4))
 (br (inB x5 x3)
 (ob (qGH (List.headD (List.take 4 (List.getD x7 (x2+Int.toNat x5) [])) 0) (List.headD (List.tail (List.take 4 (List.getD x7 (x2+Int.toNat x5) []))) 0) (List.headD (List.tail (List.tail (List.take 4 (List.getD x7 (x2+Int.toNat x5) [])))) 0) (List.headD (List.tail (List.tail (List.tail (List.take 4 (List.getD x7 (x2+Int.toNat x5) []))))) 0 != 0) x13 x14 x15 x16 x17) fun (a37_0,a37_1,a37_2,a37_3,a37_4,a37_5)=>
 br (!a37_0)
 (some (.inl (x0,x1,x5,110,x6,x7,a37_1,a37_2,a37_3,x11,x12,a37_1,a37_2,a37_3,a37_4,a37_5,x18,x19)))
 (ob (qC5 (List.headD (List.take 4 (List.getD x7 (x2+Int.toNat x5) [])) 0) (List.headD (List.tail (List.take 4 (List.getD x7 (x2+Int.toNat x5) []))) 0) (List.headD (List.tail (List.tail (List.take 4 (List.getD x7 (x2+Int.toNat x5) [])))) 0) (List.headD (List.tail (List.tail (List.tail (List.take 4 (List.getD x7 (x2+Int.toNat x5) []))))) 0 != 0) x11 x12 a37_1 a37_2 a37_3 a37_4 a37_5 x18 x19) fun t43_2=>
 sw t43_2 (fun (_,a43_1,a43_2,a43_3,a43_4,a43_5,a43_6,a43_7,a43_8,a43_9)=>
 rec x0 x1 x2 x3 x4 (IntKind.wrap .i64 (x5+1)) x6 x7 x8 x9 x10 a43_1 a43_2 a43_3 a43_4 a43_5 a43_6 a43_7 a43_8 a43_9)
 (fun (_,a43_1,a43_2,a43_3,a43_4,a43_5,a43_6,a43_7,a43_8,a43_9)=>
 rec x0 x1 x2 x3 x4 (IntKind.wrap .i64 (x5+1)) x6 x7 x8 x9 x10 a43_1 a43_2 a43_3 a43_4 a43_5 a43_6 a43_7 a43_8 a43_9)))
 (none))
 (some (.inr (x0,x1,x6,x7,x8,x9,x10,x11,x12,x13,x14,x15,x16,x17,x18,x19)))
def qC9:Nat->Nat->Nat->Nat->Nat->Int->Int->Nat->List (List Int)->List Int->List Int->Int->Int->Nat->List Int->List Int->Int->List (List Int)->List (List Int)->Nat->List (List Int)->Option ((Nat×Nat×Int×Int×Nat×List (List Int)×List Int×List Int×Int×Int×Nat×List Int×List Int×Int×List (List Int)×List (List Int)×Nat×List (List Int)) ⊕ (Nat×Nat×Nat×List (List Int)×List Int×List Int×Int×Int×Nat×List Int×List Int×Int×List (List Int)×List (List Int)×Nat×List (List Int)))
 | 0,_,_,_,_,_,_,_,_,_,_,_,_,_,_,_,_,_,_,_,_=>none
 | f+1,x0,x1,x2,x3,x4,x5,x6,x7,x8,x9,x10,x11,x12,x13,x14,x15,x16,x17,x18,x19=>qLF (qC9 f) x0 x1 x2 x3 x4 x5 x6 x7 x8 x9 x10 x11 x12 x13 x14 x15 x16 x17 x18 x19
def qGI (x0 x1:List Int) (x2:Int) (x3 x4 x5:Nat) (x6:List (List Int)):Option (Int×List Int×List Int×Int×Int):=
 ob (qGs x0 x1 x2) fun a7=>
 br (a7 != 0)
 (some (0,x0,x1,x2,a7))
 (ob (qHB x0 x1 x2) fun (a8_0,a8_1,a8_2,a8_3,a8_4,a8_5,a8_6,a8_7,a8_8)=>
 ob (qC9 qB x3 x4 x3 x4 (Int.ofNat x4) 0 x5 x6 ([0,0,0,0,0,0,0,0,0,0,0,0,0,0,0,0,0,0,0,0,0,0,0,0,0,0,0,0,0,0,0,0,0,0,0,0,0,0,0,0,0,0,0,0,0,0,0,0,0,0,0,0,0,0,0,0,0,0,0,0,0,0,0,0,0,0,0,0,0,0,0,0,0,0,0,0,0,0,0,0,0]) ([0,0,0,0,0,0,0,0,0,0,0,0,0,0,0,0]) 0 a8_0 a8_1 a8_2 a8_3 a8_4 a8_5 a8_6 a8_7 a8_8) fun t17_2=>
 sw t17_2 (fun (_,_,a17_2,a17_3,_,_,a17_6,a17_7,a17_8,_,_,_,_,_,_,_,_,_)=>
 some (a17_2,a17_6,a17_7,a17_8,a17_3))
 (fun (_,a17_1,_,_,_,_,_,_,_,a17_9,a17_10,a17_11,_,_,_,_)=>
 some (Int.ofNat a17_1,a17_9,a17_10,a17_11,0)))
def qK8 (rec:Nat->Nat->Int->Int->Int->Nat->List (List Int)->List Int->List Int->Int->List Int->List Int->Int->Option (Nat×Nat×Int×Int×Int×Nat×List (List Int)×List Int×List Int×Int×List Int×List Int×Int)) (x0 x1:Nat) (x2 x3 x4:Int) (x5:Nat) (x6:List (List Int)) (x7 x8:List Int) (x9:Int) (x10 x11:List Int) (x12:Int):Option (Nat×Nat×Int×Int×Int×Nat×List (List Int)×List Int×List Int×Int×List Int×List Int×Int):=
 br (decide (x4 < Int.ofNat x1))
 (br (inB x4 x1)
 (ob (qIB x10 x11 x12 (List.headD (List.take 4 (List.getD x6 (x0+Int.toNat x4) [])) 0) (List.headD (List.tail (List.take 4 (List.getD x6 (x0+Int.toNat x4) []))) 0) (List.headD (List.tail (List.tail (List.take 4 (List.getD x6 (x0+Int.toNat x4) [])))) 0) (List.headD (List.tail (List.tail (List.tail (List.take 4 (List.getD x6 (x0+Int.toNat x4) []))))) 0 != 0)) fun a27=>
 br (a27)
 (br (inB x4 x1)
 (ob (qFg x10 x11 x12 (List.headD (List.take 4 (List.getD x6 (x0+Int.toNat x4) [])) 0) (List.headD (List.tail (List.take 4 (List.getD x6 (x0+Int.toNat x4) []))) 0) (List.headD (List.tail (List.tail (List.take 4 (List.getD x6 (x0+Int.toNat x4) [])))) 0) (List.headD (List.tail (List.tail (List.tail (List.take 4 (List.getD x6 (x0+Int.toNat x4) []))))) 0 != 0)) fun (a28_0,a28_1,a28_2)=>
 rec x0 x1 x2 x3 (IntKind.wrap .i64 (x4+1)) x5 x6 x7 x8 x9 a28_0 a28_1 a28_2)
 (none))
 (some (x0,x1,x2,x3,x4,x5,x6,x7,x8,x9,x10,x11,x12)))
 (none))
 (some (x0,x1,x2,x3,x4,x5,x6,x7,x8,x9,x10,x11,x12))
def qGG:Nat->Nat->Nat->Int->Int->Int->Nat->List (List Int)->List Int->List Int->Int->List Int->List Int->Int->Option (Nat×Nat×Int×Int×Int×Nat×List (List Int)×List Int×List Int×Int×List Int×List Int×Int)
 | 0,_,_,_,_,_,_,_,_,_,_,_,_,_=>none
 | f+1,x0,x1,x2,x3,x4,x5,x6,x7,x8,x9,x10,x11,x12=>qK8 (qGG f) x0 x1 x2 x3 x4 x5 x6 x7 x8 x9 x10 x11 x12
def qJC (x0 x1:List Int) (x2:Int) (x3 x4 x5:Nat) (x6:List (List Int)):Option (Bool):=
 ob (qJD ) fun a7=>
 br (!a7)
 (some (false))
 (br (decide (Int.ofNat x4 > 30))
 (some (true))
 (ob (qGI x0 x1 x2 x3 x4 x5 x6) fun (a8_0,a8_1,a8_2,a8_3,a8_4)=>
 ob (qJW x0 x1 x2) fun a13=>
 br (a13 != 0)
 (br (a8_0==0)
 (br (a8_4==a13)
 (some (a8_1==x0&&(a8_2==x1&&a8_3==x2)))
 (some (false)))
 (some (false)))
 (ob (qGG qB x3 x4 a8_0 a8_4 0 x5 x6 a8_1 a8_2 a8_3 x0 x1 x2) fun (_,a14_1,a14_2,a14_3,a14_4,_,_,a14_7,a14_8,a14_9,a14_10,a14_11,a14_12)=>
 br (a14_2==a14_4)
 (br (a14_7==a14_10&&(a14_8==a14_11&&a14_9==a14_12))
 (br ((a14_3==0)==(a14_4==Int.ofNat a14_1))
 (br (a14_3==0)
 (some (true))
 (some (a14_3==110)))
 (some (false)))
 (some (false)))
 (some (false)))))
end Go.Kk.Pl
