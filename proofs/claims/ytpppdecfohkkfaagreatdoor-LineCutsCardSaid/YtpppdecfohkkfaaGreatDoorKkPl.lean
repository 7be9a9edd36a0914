/- Printed by a tool of this project (KkGen): the plain functions that the program's code comes to. -/
import Derived.Test.YtpppdecfohkkfaaGreatDoorKkE
namespace Go.Kk.Pl
def qCe (x0 x1:Int):Option (Int):=
 br (decide (x0<0))
 (some (-1))
 (br (decide (x0>8))
 (some (-1))
 (br (decide (x1<0))
 (some (-1))
 (br (decide (x1>8))
 (some (-1))
 (some (IntKind.wrap .i64 (IntKind.wrap .i64 (9*x0)+x1))))))
def qKa (x0 x1 x2:Int):Option (Int):=
 br (x1==1)
 (ob (qCe x2 x0) fun a3=>
 some (a3))
 (ob (qCe x2 (IntKind.wrap .i64 (8 - x0))) fun a3=>
 some (a3))
def qAi (x0 x1:Int):Option (Int):=
 br (x0 != 0)
 (br (x0 != 1)
 (some (0))
 (br (decide (x1<1))
 (some (0))
 (br (decide (x1>15))
 (some (0))
 (br (x1==13)
 (some (0))
 (some (conv .i64 .i8 (IntKind.wrap .i64 (IntKind.wrap .i64 (16*x0)+x1))))))))
 (br (decide (x1<1))
 (some (0))
 (br (decide (x1>15))
 (some (0))
 (br (x1==13)
 (some (0))
 (some (conv .i64 .i8 (IntKind.wrap .i64 (IntKind.wrap .i64 (16*x0)+x1)))))))
def qU2 (rec:Int->Int->List Int->List Int->Int->List Int->List Int->Int->List Int->Int->Option (Int×List Int×List Int×Int×List Int×List Int×Int×List Int)) (x0 x1:Int) (x2 x3:List Int) (x4:Int) (x5 x6:List Int) (x7:Int) (x8:List Int) (x9:Int):Option (Int×List Int×List Int×Int×List Int×List Int×Int×List Int):=
 br (decide (x1<2))
 (ob (qKa 0 x1 x9) fun a18=>
 br (inB x9 9)
 (ob (qAi x1 (List.getD x8 (Int.toNat x9) 0)) fun a19=>
 br (inB a18 81)
 (ob (qKa 2 x1 x9) fun a20=>
 ob (qAi x1 1) fun a21=>
 br (inB a20 81)
 (rec x0 (IntKind.wrap .i64 (x1+1)) x2 x3 x4 (List.set (List.set x5 (Int.toNat a18) a19) (Int.toNat a20) a21) x6 x7 x8 x9)
 (none))
 (none))
 (none))
 (some (x0,x2,x3,x4,x5,x6,x7,x8))
def qKc:Nat->Int->Int->List Int->List Int->Int->List Int->List Int->Int->List Int->Int->Option (Int×List Int×List Int×Int×List Int×List Int×Int×List Int)
 | 0,_,_,_,_,_,_,_,_,_,_=>none
 | f+1,x0,x1,x2,x3,x4,x5,x6,x7,x8,x9=>qU2 (qKc f) x0 x1 x2 x3 x4 x5 x6 x7 x8 x9
def qU0 (rec:Int->List Int->List Int->Int->List Int->List Int->Int->List Int->Option (List Int×List Int×Int×List Int×List Int×Int)) (x0:Int) (x1 x2:List Int) (x3:Int) (x4 x5:List Int) (x6:Int) (x7:List Int):Option (List Int×List Int×Int×List Int×List Int×Int):=
 br (decide (x0<9))
 (ob (qKc qB x0 0 x1 x2 x3 x4 x5 x6 x7 x0) fun (a8_0,a8_1,a8_2,a8_3,a8_4,a8_5,a8_6,a8_7)=>
 rec (IntKind.wrap .i64 (a8_0+1)) a8_1 a8_2 a8_3 a8_4 a8_5 a8_6 a8_7)
 (some (x1,x2,x3,x4,x5,x6))
def qKb:Nat->Int->List Int->List Int->Int->List Int->List Int->Int->List Int->Option (List Int×List Int×Int×List Int×List Int×Int)
 | 0,_,_,_,_,_,_,_,_=>none
 | f+1,x0,x1,x2,x3,x4,x5,x6,x7=>qU0 (qKb f) x0 x1 x2 x3 x4 x5 x6 x7
def qN1:Option (List Int×List Int×Int):=
 ob (qKb qB 0 ([0,0,0,0,0,0,0,0,0,0,0,0,0,0,0,0,0,0,0,0,0,0,0,0,0,0,0,0,0,0,0,0,0,0,0,0,0,0,0,0,0,0,0,0,0,0,0,0,0,0,0,0,0,0,0,0,0,0,0,0,0,0,0,0,0,0,0,0,0,0,0,0,0,0,0,0,0,0,0,0,0]) ([0,0,0,0,0,0,0,0,0,0,0,0,0,0,0,0]) 0 ([0,0,0,0,0,0,0,0,0,0,0,0,0,0,0,0,0,0,0,0,0,0,0,0,0,0,0,0,0,0,0,0,0,0,0,0,0,0,0,0,0,0,0,0,0,0,0,0,0,0,0,0,0,0,0,0,0,0,0,0,0,0,0,0,0,0,0,0,0,0,0,0,0,0,0,0,0,0,0,0,0]) ([0,0,0,0,0,0,0,0,0,0,0,0,0,0,0,0]) 0 ([2,3,4,5,8,5,4,3,2])) fun (_,_,_,a0_3,a0_4,a0_5)=>
 ob (qCe 7 7) fun a6=>
 ob (qCe 1 7) fun a7=>
 br (inB a6 81)
 (br (inB a7 81)
 (ob (qCe 1 1) fun a8=>
 ob (qCe 7 1) fun a9=>
 br (inB a8 81)
 (br (inB a9 81)
 (some (List.set (List.set (List.set (List.set a0_3 (Int.toNat a6) 6) (Int.toNat a7) 7) (Int.toNat a8) 22) (Int.toNat a9) 23,a0_4,a0_5))
 (none))
 (none))
 (none))
 (none)
def qAD (x0:Int):Option (Int):=
 br (decide (x0<=0))
 (br (x0==8)
 (some (8))
 (br (x0==24)
 (some (8))
 (some (0))))
 (br (decide (x0>31))
 (br (x0==8)
 (some (8))
 (br (x0==24)
 (some (8))
 (some (0))))
 (br (qF BinOp.and .i64 x0 15==0)
 (br (x0==8)
 (some (8))
 (br (x0==24)
 (some (8))
 (some (0))))
 (br (qF BinOp.and .i64 x0 15==13)
 (br (x0==8)
 (some (8))
 (br (x0==24)
 (some (8))
 (some (0))))
 (some (qF BinOp.and .i64 x0 15)))))
def qDm (x0:Int):Option (Int):=
 some (qF BinOp.xor .u64 (IntKind.wrap .u64 (qF BinOp.xor .u64 (IntKind.wrap .u64 (qF BinOp.xor .u64 (IntKind.wrap .u64 (x0+11400714819323198485)) (Int.fdiv (IntKind.wrap .u64 (x0+11400714819323198485)) 1073741824)*13787848793156543929)) (Int.fdiv (IntKind.wrap .u64 (qF BinOp.xor .u64 (IntKind.wrap .u64 (x0+11400714819323198485)) (Int.fdiv (IntKind.wrap .u64 (x0+11400714819323198485)) 1073741824)*13787848793156543929)) 134217728)*10723151780598845931)) (Int.fdiv (IntKind.wrap .u64 (qF BinOp.xor .u64 (IntKind.wrap .u64 (qF BinOp.xor .u64 (IntKind.wrap .u64 (x0+11400714819323198485)) (Int.fdiv (IntKind.wrap .u64 (x0+11400714819323198485)) 1073741824)*13787848793156543929)) (Int.fdiv (IntKind.wrap .u64 (qF BinOp.xor .u64 (IntKind.wrap .u64 (x0+11400714819323198485)) (Int.fdiv (IntKind.wrap .u64 (x0+11400714819323198485)) 1073741824)*13787848793156543929)) 134217728)*10723151780598845931)) 2147483648))
def qCF (x0 x1:Int):Option (Int):=
 ob (qAD x1) fun a2=>
 br (a2==0)
 (some (0))
 (br (decide (x0<0))
 (some (0))
 (br (decide (x0 >= 81))
 (some (0))
 (ob (qDm (IntKind.wrap .u64 (IntKind.wrap .u64 (conv .i64 .u64 x0*32)+conv .i8 .u64 x1))) fun a3=>
 some (a3))))
def qCt (x0 x1 x2:Int):Option (Int):=
 br (x0 != 0)
 (br (x0 != 1)
 (some (0))
 (br (decide (x1<1))
 (some (0))
 (br (decide (x1 >= 8))
 (some (0))
 (br (decide (x2<=0))
 (some (0))
 (br (decide (x2>18))
 (some (0))
 (ob (qDm (IntKind.wrap .u64 (IntKind.wrap .u64 (IntKind.wrap .u64 (65536+IntKind.wrap .u64 (conv .i64 .u64 x0*1024))+IntKind.wrap .u64 (conv .i64 .u64 x1*32))+conv .i64 .u64 x2))) fun a3=>
 some (a3)))))))
 (br (decide (x1<1))
 (some (0))
 (br (decide (x1 >= 8))
 (some (0))
 (br (decide (x2<=0))
 (some (0))
 (br (decide (x2>18))
 (some (0))
 (ob (qDm (IntKind.wrap .u64 (IntKind.wrap .u64 (IntKind.wrap .u64 (65536+IntKind.wrap .u64 (conv .i64 .u64 x0*1024))+IntKind.wrap .u64 (conv .i64 .u64 x1*32))+conv .i64 .u64 x2))) fun a3=>
 some (a3))))))
def qCv:Option (Int):=
 ob (qDm 1048576) fun a0=>
 some (a0)
def qDk (rec:Int->List Int->Int->List Int->List Int->Int->Option (Int×List Int×List Int×Int)) (x0:Int) (x1:List Int) (x2:Int) (x3 x4:List Int) (x5:Int):Option (Int×List Int×List Int×Int):=
 br (decide (x2<81))
 (br (inB x2 81)
 (ob (qCF x2 (List.getD x1 (bif true then Int.toNat x2 else Int.toNat x2*1) 0)) fun a9=>
 rec (qF BinOp.xor .u64 x0 a9) x1 (IntKind.wrap .i64 (x2+1)) x3 x4 x5)
 (none))
 (some (x0,x3,x4,x5))
def qCV:Nat->Int->List Int->Int->List Int->List Int->Int->Option (Int×List Int×List Int×Int)
 | 0,_,_,_,_,_,_=>none
 | f+1,x0,x1,x2,x3,x4,x5=>qDk (qCV f) x0 x1 x2 x3 x4 x5
def qDj (rec:Int->Int->List Int->Int->List Int->Int->List Int->List Int->Int->Option (Int×List Int×Int×List Int×List Int×Int)) (x0 x1:Int) (x2:List Int) (x3:Int) (x4:List Int) (x5:Int) (x6 x7:List Int) (x8:Int):Option (Int×List Int×Int×List Int×List Int×Int):=
 br (decide (x5<8))
 (br (inB x5 8)
 (ob (qCt x1 x5 (conv .i8 .i64 (List.getD x4 (bif true then Int.toNat x5 else Int.toNat x5*1) 0))) fun a22=>
 rec (qF BinOp.xor .u64 x0 a22) x1 x2 x3 x4 (IntKind.wrap .i64 (x5+1)) x6 x7 x8)
 (none))
 (some (x0,x2,x3,x6,x7,x8))
def qCu:Nat->Int->Int->List Int->Int->List Int->Int->List Int->List Int->Int->Option (Int×List Int×Int×List Int×List Int×Int)
 | 0,_,_,_,_,_,_,_,_,_=>none
 | f+1,x0,x1,x2,x3,x4,x5,x6,x7,x8=>qDj (qCu f) x0 x1 x2 x3 x4 x5 x6 x7 x8
def qDl (rec:Int->List Int->Int->List Int->List Int->Int->Option (Int×List Int×List Int×Int)) (x0:Int) (x1:List Int) (x2:Int) (x3 x4:List Int) (x5:Int):Option (Int×List Int×List Int×Int):=
 br (decide (x2<2))
 (br (inB x2 2)
 (ob (qCu qB x0 x2 x1 x2 (List.take 8 (List.drop (Nat.add (Nat.mul (Int.toNat x2) 7) (Int.toNat x2)) x1)) 0 x3 x4 x5) fun (a13_0,a13_1,a13_2,a13_3,a13_4,a13_5)=>
 rec a13_0 a13_1 (IntKind.wrap .i64 (a13_2+1)) a13_3 a13_4 a13_5)
 (none))
 (some (x0,x3,x4,x5))
def qBy:Nat->Int->List Int->Int->List Int->List Int->Int->Option (Int×List Int×List Int×Int)
 | 0,_,_,_,_,_,_=>none
 | f+1,x0,x1,x2,x3,x4,x5=>qDl (qBy f) x0 x1 x2 x3 x4 x5
def qER (x0 x1:List Int) (x2:Int):Option (Int):=
 ob (qCV qB 0 x0 0 x0 x1 x2) fun (a3_0,a3_1,a3_2,a3_3)=>
 ob (qBy qB a3_0 a3_2 0 a3_1 a3_2 a3_3) fun (a7_0,_,_,a7_3)=>
 br (a7_3==1)
 (ob (qCv ) fun a11=>
 some (qF BinOp.xor .u64 a7_0 a11))
 (some (a7_0))
def qFu (x0:Int):Option (Int×Int):=
 br (decide (x0<0))
 (some (0,0))
 (br (decide (x0 >= 81))
 (some (0,0))
 (br (decide (x0<63))
 (br (decide (x0<0))
 (none)
 (some (IntKind.wrap .u64 (1*2 ^ min (Int.toNat x0) 64),0)))
 (br (decide (IntKind.wrap .i64 (x0 - 63)<0))
 (none)
 (some (0,IntKind.wrap .u64 (1*2 ^ min (Int.toNat (IntKind.wrap .i64 (x0 - 63))) 64))))))
def qFq (x0 x1:Int) (x2 x3:Int):Option (Int×Int):=
 some (qF BinOp.andNot .u64 x0 x2,qF BinOp.andNot .u64 x1 x3)
def qEk (x0 x1 x2:Int):Option (Int×Int):=
 ob (qFu x2) fun (a3_0,a3_1)=>
 ob (qFq x0 x1 a3_0 a3_1) fun (a5_0,a5_1)=>
 some (a5_0,a5_1)
def qAQ (x0:Int):Option (Int):=
 ob (qAD x0) fun a1=>
 br (a1==0)
 (some (-1))
 (br (decide (x0<16))
 (some (0))
 (some (1)))
def qD9 (x0 x1:Int) (x2 x3:Int):Option (Int×Int):=
 some (qF BinOp.or .u64 x0 x2,qF BinOp.or .u64 x1 x3)
def qBA (x0 x1 x2:Int):Option (Int×Int):=
 ob (qFu x2) fun (a3_0,a3_1)=>
 ob (qD9 x0 x1 a3_0 a3_1) fun (a5_0,a5_1)=>
 some (a5_0,a5_1)
def qGA (x0 x1:Int) (x2 x3:List Int) (x4:Int) (x5 x6:List (List Int)):Option (List Int×List Int×Int×List (List Int)×List (List Int)):=
 br (decide (x0<0))
 (some (x2,x3,x4,x5,x6))
 (br (decide (x0 >= 81))
 (some (x2,x3,x4,x5,x6))
 (br (inB x0 81)
 (br (List.getD x2 (Int.toNat x0) 0 != 0)
 (br (inB (List.getD x2 (Int.toNat x0) 0) 32)
 (ob (qEk (List.headD (List.take 2 (List.getD x5 (Int.toNat (List.getD x2 (Int.toNat x0) 0)) [])) 0) (List.headD (List.tail (List.take 2 (List.getD x5 (Int.toNat (List.getD x2 (Int.toNat x0) 0)) []))) 0) x0) fun (a7_0,a7_1)=>
 br (inB (List.getD x2 (Int.toNat x0) 0) 32)
 (ob (qAQ (List.getD x2 (Int.toNat x0) 0)) fun a9=>
 ob (qAQ (List.getD x2 (Int.toNat x0) 0)) fun a10=>
 br (inB a10 2)
 (ob (qEk (List.headD (List.take 2 (List.getD x6 (Int.toNat a10) [])) 0) (List.headD (List.tail (List.take 2 (List.getD x6 (Int.toNat a10) []))) 0) x0) fun (a11_0,a11_1)=>
 br (inB a9 2)
 (ob (qAD x1) fun a13=>
 br (a13==0)
 (br (inB x0 81)
 (some (List.set x2 (Int.toNat x0) 0,x3,x4,List.set x5 (Int.toNat (List.getD x2 (Int.toNat x0) 0)) (a7_0 :: a7_1 :: List.drop 2 (List.getD x5 (Int.toNat (List.getD x2 (Int.toNat x0) 0)) [])),List.set x6 (Int.toNat a9) (a11_0 :: a11_1 :: List.drop 2 (List.getD x6 (Int.toNat a9) []))))
 (none))
 (br (inB x0 81)
 (br (x1 != 0)
 (br (inB x1 32)
 (ob (qBA (List.headD (List.take 2 (List.getD (List.set x5 (Int.toNat (List.getD x2 (Int.toNat x0) 0)) (a7_0 :: a7_1 :: List.drop 2 (List.getD x5 (Int.toNat (List.getD x2 (Int.toNat x0) 0)) []))) (Int.toNat x1) [])) 0) (List.headD (List.tail (List.take 2 (List.getD (List.set x5 (Int.toNat (List.getD x2 (Int.toNat x0) 0)) (a7_0 :: a7_1 :: List.drop 2 (List.getD x5 (Int.toNat (List.getD x2 (Int.toNat x0) 0)) []))) (Int.toNat x1) []))) 0) x0) fun (a14_0,a14_1)=>
 br (inB x1 32)
 (ob (qAQ x1) fun a16=>
 ob (qAQ x1) fun a17=>
 br (inB a17 2)
 (ob (qBA (List.headD (List.take 2 (List.getD (List.set x6 (Int.toNat a9) (a11_0 :: a11_1 :: List.drop 2 (List.getD x6 (Int.toNat a9) []))) (Int.toNat a17) [])) 0) (List.headD (List.tail (List.take 2 (List.getD (List.set x6 (Int.toNat a9) (a11_0 :: a11_1 :: List.drop 2 (List.getD x6 (Int.toNat a9) []))) (Int.toNat a17) []))) 0) x0) fun (a18_0,a18_1)=>
 br (inB a16 2)
 (some (List.set x2 (Int.toNat x0) x1,x3,x4,List.set (List.set x5 (Int.toNat (List.getD x2 (Int.toNat x0) 0)) (a7_0 :: a7_1 :: List.drop 2 (List.getD x5 (Int.toNat (List.getD x2 (Int.toNat x0) 0)) []))) (Int.toNat x1) (a14_0 :: a14_1 :: List.drop 2 (List.getD (List.set x5 (Int.toNat (List.getD x2 (Int.toNat x0) 0)) (a7_0 :: a7_1 :: List.drop 2 (List.getD x5 (Int.toNat (List.getD x2 (Int.toNat x0) 0)) []))) (Int.toNat x1) [])),List.set (List.set x6 (Int.toNat a9) (a11_0 :: a11_1 :: List.drop 2 (List.getD x6 (Int.toNat a9) []))) (Int.toNat a16) (a18_0 :: a18_1 :: List.drop 2 (List.getD (List.set x6 (Int.toNat a9) (a11_0 :: a11_1 :: List.drop 2 (List.getD x6 (Int.toNat a9) []))) (Int.toNat a16) []))))
 (none))
 (none))
 (none))
 (none))
 (some (List.set x2 (Int.toNat x0) x1,x3,x4,List.set x5 (Int.toNat (List.getD x2 (Int.toNat x0) 0)) (a7_0 :: a7_1 :: List.drop 2 (List.getD x5 (Int.toNat (List.getD x2 (Int.toNat x0) 0)) [])),List.set x6 (Int.toNat a9) (a11_0 :: a11_1 :: List.drop 2 (List.getD x6 (Int.toNat a9) [])))))
 (none)))
 (none))
 (none))
 (none))
 (none))
 (ob (qAD x1) fun a7=>
 br (a7==0)
 (br (inB x0 81)
 (some (List.set x2 (Int.toNat x0) 0,x3,x4,x5,x6))
 (none))
 (br (inB x0 81)
 (br (x1 != 0)
 (br (inB x1 32)
 (ob (qBA (List.headD (List.take 2 (List.getD x5 (Int.toNat x1) [])) 0) (List.headD (List.tail (List.take 2 (List.getD x5 (Int.toNat x1) []))) 0) x0) fun (a8_0,a8_1)=>
 br (inB x1 32)
 (ob (qAQ x1) fun a10=>
 ob (qAQ x1) fun a11=>
 br (inB a11 2)
 (ob (qBA (List.headD (List.take 2 (List.getD x6 (Int.toNat a11) [])) 0) (List.headD (List.tail (List.take 2 (List.getD x6 (Int.toNat a11) []))) 0) x0) fun (a12_0,a12_1)=>
 br (inB a10 2)
 (some (List.set x2 (Int.toNat x0) x1,x3,x4,List.set x5 (Int.toNat x1) (a8_0 :: a8_1 :: List.drop 2 (List.getD x5 (Int.toNat x1) [])),List.set x6 (Int.toNat a10) (a12_0 :: a12_1 :: List.drop 2 (List.getD x6 (Int.toNat a10) []))))
 (none))
 (none))
 (none))
 (none))
 (some (List.set x2 (Int.toNat x0) x1,x3,x4,x5,x6)))
 (none))))
 (none)))
def qG9 (rec:List Int->Int->List Int->List Int->Int->List (List Int)->List (List Int)->Option (List Int×List Int×Int×List (List Int)×List (List Int))) (x0:List Int) (x1:Int) (x2 x3:List Int) (x4:Int) (x5 x6:List (List Int)):Option (List Int×List Int×Int×List (List Int)×List (List Int)):=
 br (decide (x1<81))
 (br (inB x1 81)
 (ob (qGA x1 (List.getD x0 (bif true then Int.toNat x1 else Int.toNat x1*1) 0) x2 x3 x4 x5 x6) fun (a10_0,a10_1,a10_2,a10_3,a10_4)=>
 rec x0 (IntKind.wrap .i64 (x1+1)) a10_0 a10_1 a10_2 a10_3 a10_4)
 (none))
 (some (x2,x3,x4,x5,x6))
def qEL:Nat->List Int->Int->List Int->List Int->Int->List (List Int)->List (List Int)->Option (List Int×List Int×Int×List (List Int)×List (List Int))
 | 0,_,_,_,_,_,_,_=>none
 | f+1,x0,x1,x2,x3,x4,x5,x6=>qG9 (qEL f) x0 x1 x2 x3 x4 x5 x6
def qF7 (x0 x1:List Int) (x2:Int):Option (List Int×List Int×Int×List (List Int)×List (List Int)):=
 ob (qEL qB x0 0 ([0,0,0,0,0,0,0,0,0,0,0,0,0,0,0,0,0,0,0,0,0,0,0,0,0,0,0,0,0,0,0,0,0,0,0,0,0,0,0,0,0,0,0,0,0,0,0,0,0,0,0,0,0,0,0,0,0,0,0,0,0,0,0,0,0,0,0,0,0,0,0,0,0,0,0,0,0,0,0,0,0]) x1 x2 ([[0,0],[0,0],[0,0],[0,0],[0,0],[0,0],[0,0],[0,0],[0,0],[0,0],[0,0],[0,0],[0,0],[0,0],[0,0],[0,0],[0,0],[0,0],[0,0],[0,0],[0,0],[0,0],[0,0],[0,0],[0,0],[0,0],[0,0],[0,0],[0,0],[0,0],[0,0],[0,0]]) ([[0,0],[0,0]])) fun (a3_0,a3_1,a3_2,a3_3,a3_4)=>
 some (a3_0,a3_1,a3_2,a3_3,a3_4)
def qJC (x0 x1:List Int) (x2:Int):Option (Int×Nat×List Int×List Int×Int×List (List Int)×List (List Int)×Nat×List (List Int)):=
 ob (qF7 x0 x1 x2) fun (a3_0,a3_1,a3_2,a3_3,a3_4)=>
 ob (qER a3_0 a3_1 a3_2) fun a8=>
 some (a8,0,a3_0,a3_1,a3_2,a3_3,a3_4,0,[])
def qDn (x0 x1 x2:Int) (x3:Bool):Option (Int):=
 br (decide (x1<0))
 (some (1))
 (br (decide (x1 >= 81))
 (some (1))
 (br (x2 != 0)
 (br (decide (x2<0))
 (some (70))
 (br (decide (x2 >= 8))
 (some (70))
 (br (x0 != 0)
 (some (70))
 (br (x3)
 (some (70))
 (some (0))))))
 (br (decide (x0<0))
 (some (1))
 (br (decide (x0 >= 81))
 (some (1))
 (br (x0==x1)
 (some (70))
 (some (0)))))))
def qCk (x0 x1:Int) (_x2 x3:List Int) (_x4:Int) (_x5 _x6:List (List Int)):Option (Int):=
 br (x0 != 0)
 (br (x0 != 1)
 (some (0))
 (br (decide (x1<1))
 (some (0))
 (br (decide (x1 >= 8))
 (some (0))
 (br (inB x0 2)
 (br (inB x1 8)
 (some (conv .i8 .i64 (List.getD x3 (Int.toNat x0*8+Int.toNat x1) 0)))
 (none))
 (none)))))
 (br (decide (x1<1))
 (some (0))
 (br (decide (x1 >= 8))
 (some (0))
 (br (inB x0 2)
 (br (inB x1 8)
 (some (conv .i8 .i64 (List.getD x3 (Int.toNat x0*8+Int.toNat x1) 0)))
 (none))
 (none))))
def qAf (x0:Int) (x1 _x2:List Int) (_x3:Int) (_x4 _x5:List (List Int)):Option (Int):=
 br (decide (x0<0))
 (some (0))
 (br (decide (x0 >= 81))
 (some (0))
 (br (inB x0 81)
 (some (List.getD x1 (Int.toNat x0) 0))
 (none)))
def qC0 (x0:Int):Option (Int):=
 br (x0==1)
 (some (IntKind.wrap .i64 (x0+8)))
 (br (x0==2)
 (some (IntKind.wrap .i64 (x0+8)))
 (br (x0==3)
 (some (IntKind.wrap .i64 (x0+8)))
 (br (x0==4)
 (some (IntKind.wrap .i64 (x0+8)))
 (br (x0==6)
 (some (IntKind.wrap .i64 (x0+8)))
 (br (x0==7)
 (some (IntKind.wrap .i64 (x0+8)))
 (some (0)))))))
def qEN (x0 x1 x2:Int) (x3:Bool) (_x4:Int) (_x5:Nat) (x6 x7:List Int) (x8:Int) (x9 x10:List (List Int)) (_x11:Nat) (_x12:List (List Int)):Option (Bool):=
 ob (qDn x0 x1 x2 x3) fun a13=>
 br (a13 != 0)
 (some (false))
 (br (x8 != 0)
 (br (x8 != 1)
 (some (false))
 (br (x2 != 0)
 (ob (qCk x8 x2 x6 x7 x8 x9 x10) fun a14=>
 br (decide (a14>0))
 (ob (qAf x1 x6 x7 x8 x9 x10) fun a15=>
 some (a15==0))
 (some (false)))
 (ob (qAf x0 x6 x7 x8 x9 x10) fun a14=>
 ob (qAf x1 x6 x7 x8 x9 x10) fun a15=>
 ob (qAQ a14) fun a16=>
 br (a16==x8)
 (ob (qAQ a15) fun a17=>
 br (a17 != x8)
 (ob (qAD a15) fun a18=>
 br (a18 != 8)
 (br (!x3)
 (some (true))
 (ob (qAD a14) fun a19=>
 ob (qC0 a19) fun a20=>
 some (a20 != 0)))
 (some (false)))
 (some (false)))
 (some (false)))))
 (br (x2 != 0)
 (ob (qCk x8 x2 x6 x7 x8 x9 x10) fun a14=>
 br (decide (a14>0))
 (ob (qAf x1 x6 x7 x8 x9 x10) fun a15=>
 some (a15==0))
 (some (false)))
 (ob (qAf x0 x6 x7 x8 x9 x10) fun a14=>
 ob (qAf x1 x6 x7 x8 x9 x10) fun a15=>
 ob (qAQ a14) fun a16=>
 br (a16==x8)
 (ob (qAQ a15) fun a17=>
 br (a17 != x8)
 (ob (qAD a15) fun a18=>
 br (a18 != 8)
 (br (!x3)
 (some (true))
 (ob (qAD a14) fun a19=>
 ob (qC0 a19) fun a20=>
 some (a20 != 0)))
 (some (false)))
 (some (false)))
 (some (false)))))
def qDe (x0 x1:Int) (x2 x3:Int) (x4:Nat) (x5 x6:List Int) (x7:Int) (x8 x9:List (List Int)) (x10:Nat) (x11:List (List Int)):Option (Int×Nat×List Int×List Int×Int×List (List Int)×List (List Int)×Nat×List (List Int)):=
 ob (qCk x0 x1 x5 x6 x7 x8 x9) fun a12=>
 ob (qCt x0 x1 a12) fun a13=>
 ob (qCt x0 x1 (IntKind.wrap .i64 (a12+x2))) fun a14=>
 br (inB x0 2)
 (br (inB x1 8)
 (br (inB x0 2)
 (br (inB x1 8)
 (some (qF BinOp.xor .u64 x3 (qF BinOp.xor .u64 a13 a14),x4,x5,List.set x6 (Int.toNat x0*8+Int.toNat x1) (IntKind.wrap .i8 (List.getD x6 (Int.toNat x0*8+Int.toNat x1) 0+conv .i64 .i8 x2)),x7,x8,x9,x10,x11))
 (none))
 (none))
 (none))
 (none)
def qCD (x0 x1 x2:Int) (x3:Nat) (x4 x5:List Int) (x6:Int) (x7 x8:List (List Int)) (x9:Nat) (x10:List (List Int)):Option (Int×Nat×List Int×List Int×Int×List (List Int)×List (List Int)×Nat×List (List Int)):=
 ob (qAf x0 x4 x5 x6 x7 x8) fun a11=>
 ob (qCF x0 a11) fun a12=>
 ob (qCF x0 x1) fun a13=>
 ob (qGA x0 x1 x4 x5 x6 x7 x8) fun (a14_0,a14_1,a14_2,a14_3,a14_4)=>
 some (qF BinOp.xor .u64 x2 (qF BinOp.xor .u64 a12 a13),x3,a14_0,a14_1,a14_2,a14_3,a14_4,x9,x10)
def qCn (x0:Int) (x1:Nat) (x2 x3:List Int) (x4:Int) (x5 x6:List (List Int)) (x7:Nat) (x8:List (List Int)):Option (Int×Nat×List Int×List Int×Int×List (List Int)×List (List Int)×Nat×List (List Int)):=
 ob (qCv ) fun a9=>
 some (qF BinOp.xor .u64 x0 a9,x1,x2,x3,IntKind.wrap .i8 (1 - x4),x5,x6,x7,x8)
def qCz (x0:Int):Option (Int):=
 ob (qAi 0 x0) fun a1=>
 br (a1==0)
 (some (0))
 (br (decide (x0>8))
 (some (IntKind.wrap .i64 (x0 - 8)))
 (some (x0)))
def qDd (x0 x1 x2:Int) (x3:Bool) (x4:Int) (x5:Nat) (x6 x7:List Int) (x8:Int) (x9 x10:List (List Int)) (x11:Nat) (x12:List (List Int)):Option ((Bool×Int×Nat×List Int×List Int×Int×List (List Int)×List (List Int)×Nat×List (List Int))⊕(Bool×Int×Nat×List Int×List Int×Int×List (List Int)×List (List Int)×Nat×List (List Int))):=
 ob (qEN x0 x1 x2 x3 x4 x5 x6 x7 x8 x9 x10 x11 x12) fun a13=>
 br (!a13)
 (some (.inl (false,x4,x5,x6,x7,x8,x9,x10,x11,x12)))
 (ob (qAf x1 x6 x7 x8 x9 x10) fun a14=>
 br (x2 != 0)
 (ob (qAi x8 x2) fun a15=>
 ob (qDe x8 x2 (-1) x4 x5 x6 x7 x8 x9 x10 x11 x12) fun (a16_0,a16_1,a16_2,a16_3,a16_4,a16_5,a16_6,a16_7,a16_8)=>
 ob (qCD x1 a15 a16_0 a16_1 a16_2 a16_3 a16_4 a16_5 a16_6 a16_7 a16_8) fun (a25_0,a25_1,a25_2,a25_3,a25_4,a25_5,a25_6,a25_7,a25_8)=>
 ob (qCn a25_0 a25_1 a25_2 a25_3 a25_4 a25_5 a25_6 a25_7 a25_8) fun (a34_0,a34_1,a34_2,a34_3,a34_4,a34_5,a34_6,_,a34_8)=>
 br (decide ((a34_1+1)*40<=140737488355328))
 (some (.inr (true,a34_0,a34_1+1,a34_2,a34_3,a34_4,a34_5,a34_6,a34_1+1,List.append (List.take a34_1 a34_8) [[x0,x1,x2,bi x3,a14,a15]])))
 (none))
 (ob (qAf x0 x6 x7 x8 x9 x10) fun a15=>
 br (x3)
 (ob (qAD a15) fun a16=>
 ob (qC0 a16) fun a17=>
 ob (qAi x8 a17) fun a18=>
 ob (qCD x0 0 x4 x5 x6 x7 x8 x9 x10 x11 x12) fun (a19_0,a19_1,a19_2,a19_3,a19_4,a19_5,a19_6,a19_7,a19_8)=>
 ob (qCD x1 a18 a19_0 a19_1 a19_2 a19_3 a19_4 a19_5 a19_6 a19_7 a19_8) fun (a28_0,a28_1,a28_2,a28_3,a28_4,a28_5,a28_6,a28_7,a28_8)=>
 br (a14 != 0)
 (ob (qAD a14) fun a37=>
 ob (qCz a37) fun a38=>
 ob (qDe x8 a38 1 a28_0 a28_1 a28_2 a28_3 a28_4 a28_5 a28_6 a28_7 a28_8) fun (a39_0,a39_1,a39_2,a39_3,a39_4,a39_5,a39_6,a39_7,a39_8)=>
 ob (qCn a39_0 a39_1 a39_2 a39_3 a39_4 a39_5 a39_6 a39_7 a39_8) fun (a48_0,a48_1,a48_2,a48_3,a48_4,a48_5,a48_6,_,a48_8)=>
 br (decide ((a48_1+1)*40<=140737488355328))
 (some (.inr (true,a48_0,a48_1+1,a48_2,a48_3,a48_4,a48_5,a48_6,a48_1+1,List.append (List.take a48_1 a48_8) [[x0,x1,x2,bi x3,a14,a15]])))
 (none))
 (ob (qCn a28_0 a28_1 a28_2 a28_3 a28_4 a28_5 a28_6 a28_7 a28_8) fun (a37_0,a37_1,a37_2,a37_3,a37_4,a37_5,a37_6,_,a37_8)=>
 br (decide ((a37_1+1)*40<=140737488355328))
 (some (.inr (true,a37_0,a37_1+1,a37_2,a37_3,a37_4,a37_5,a37_6,a37_1+1,List.append (List.take a37_1 a37_8) [[x0,x1,x2,bi x3,a14,a15]])))
 (none)))
 (ob (qCD x0 0 x4 x5 x6 x7 x8 x9 x10 x11 x12) fun (a16_0,a16_1,a16_2,a16_3,a16_4,a16_5,a16_6,a16_7,a16_8)=>
 ob (qCD x1 a15 a16_0 a16_1 a16_2 a16_3 a16_4 a16_5 a16_6 a16_7 a16_8) fun (a25_0,a25_1,a25_2,a25_3,a25_4,a25_5,a25_6,a25_7,a25_8)=>
 br (a14 != 0)
 (ob (qAD a14) fun a34=>
 ob (qCz a34) fun a35=>
 ob (qDe x8 a35 1 a25_0 a25_1 a25_2 a25_3 a25_4 a25_5 a25_6 a25_7 a25_8) fun (a36_0,a36_1,a36_2,a36_3,a36_4,a36_5,a36_6,a36_7,a36_8)=>
 ob (qCn a36_0 a36_1 a36_2 a36_3 a36_4 a36_5 a36_6 a36_7 a36_8) fun (a45_0,a45_1,a45_2,a45_3,a45_4,a45_5,a45_6,_,a45_8)=>
 br (decide ((a45_1+1)*40<=140737488355328))
 (some (.inr (true,a45_0,a45_1+1,a45_2,a45_3,a45_4,a45_5,a45_6,a45_1+1,List.append (List.take a45_1 a45_8) [[x0,x1,x2,bi x3,a14,a15]])))
 (none))
 (ob (qCn a25_0 a25_1 a25_2 a25_3 a25_4 a25_5 a25_6 a25_7 a25_8) fun (a34_0,a34_1,a34_2,a34_3,a34_4,a34_5,a34_6,_,a34_8)=>
 br (decide ((a34_1+1)*40<=140737488355328))
 (some (.inr (true,a34_0,a34_1+1,a34_2,a34_3,a34_4,a34_5,a34_6,a34_1+1,List.append (List.take a34_1 a34_8) [[x0,x1,x2,bi x3,a14,a15]])))
 (none)))))
def qOY (x0:Int) (x1:Nat) (x2 x3:List Int) (x4:Int) (x5 x6:List (List Int)) (x7:Nat) (x8:List (List Int)):Option (Bool×Int×Nat×List Int×List Int×Int×List (List Int)×List (List Int)×Nat×List (List Int)):=
 br (Int.ofNat x1==0)
 (some (false,x0,x1,x2,x3,x4,x5,x6,x7,x8))
 (br (inB (IntKind.wrap .i64 (Int.ofNat x1 - 1)) x1)
 (br (qBi (IntKind.wrap .i64 (Int.ofNat x1 - 1)) x1)
 (ob (qCn x0 (Int.toNat (IntKind.wrap .i64 (Int.ofNat x1 - 1)) - 0) x2 x3 x4 x5 x6 x7 x8) fun (a9_0,a9_1,a9_2,a9_3,a9_4,a9_5,a9_6,a9_7,a9_8)=>
 br (List.headD (List.tail (List.tail (List.take 6 (List.getD x8 (Int.toNat (IntKind.wrap .i64 (Int.ofNat x1 - 1))) [])))) 0 != 0)
 (ob (qCD (List.headD (List.tail (List.take 6 (List.getD x8 (Int.toNat (IntKind.wrap .i64 (Int.ofNat x1 - 1))) []))) 0) 0 a9_0 a9_1 a9_2 a9_3 a9_4 a9_5 a9_6 a9_7 a9_8) fun (a18_0,a18_1,a18_2,a18_3,a18_4,a18_5,a18_6,a18_7,a18_8)=>
 ob (qDe a9_4 (List.headD (List.tail (List.tail (List.take 6 (List.getD x8 (Int.toNat (IntKind.wrap .i64 (Int.ofNat x1 - 1))) [])))) 0) 1 a18_0 a18_1 a18_2 a18_3 a18_4 a18_5 a18_6 a18_7 a18_8) fun (a27_0,a27_1,a27_2,a27_3,a27_4,a27_5,a27_6,a27_7,a27_8)=>
 some (true,a27_0,a27_1,a27_2,a27_3,a27_4,a27_5,a27_6,a27_7,a27_8))
 (ob (qCD (List.headD (List.tail (List.take 6 (List.getD x8 (Int.toNat (IntKind.wrap .i64 (Int.ofNat x1 - 1))) []))) 0) (List.headD (List.tail (List.tail (List.tail (List.tail (List.take 6 (List.getD x8 (Int.toNat (IntKind.wrap .i64 (Int.ofNat x1 - 1))) [])))))) 0) a9_0 a9_1 a9_2 a9_3 a9_4 a9_5 a9_6 a9_7 a9_8) fun (a18_0,a18_1,a18_2,a18_3,a18_4,a18_5,a18_6,a18_7,a18_8)=>
 ob (qCD (List.headD (List.take 6 (List.getD x8 (Int.toNat (IntKind.wrap .i64 (Int.ofNat x1 - 1))) [])) 0) (List.headD (List.tail (List.tail (List.tail (List.tail (List.tail (List.take 6 (List.getD x8 (Int.toNat (IntKind.wrap .i64 (Int.ofNat x1 - 1))) []))))))) 0) a18_0 a18_1 a18_2 a18_3 a18_4 a18_5 a18_6 a18_7 a18_8) fun (a27_0,a27_1,a27_2,a27_3,a27_4,a27_5,a27_6,a27_7,a27_8)=>
 br (List.headD (List.tail (List.tail (List.tail (List.tail (List.take 6 (List.getD x8 (Int.toNat (IntKind.wrap .i64 (Int.ofNat x1 - 1))) [])))))) 0 != 0)
 (ob (qAD (List.headD (List.tail (List.tail (List.tail (List.tail (List.take 6 (List.getD x8 (Int.toNat (IntKind.wrap .i64 (Int.ofNat x1 - 1))) [])))))) 0)) fun a36=>
 ob (qCz a36) fun a37=>
 ob (qDe a9_4 a37 (-1) a27_0 a27_1 a27_2 a27_3 a27_4 a27_5 a27_6 a27_7 a27_8) fun (a38_0,a38_1,a38_2,a38_3,a38_4,a38_5,a38_6,a38_7,a38_8)=>
 some (true,a38_0,a38_1,a38_2,a38_3,a38_4,a38_5,a38_6,a38_7,a38_8))
 (some (true,a27_0,a27_1,a27_2,a27_3,a27_4,a27_5,a27_6,a27_7,a27_8))))
 (none))
 (none))
def qAS (x0:Int):Option (Int):=
 br (decide (x0<1))
 (some (0))
 (br (decide (x0>31))
 (some (0))
 (br (x0==13)
 (some (0))
 (br (x0==16)
 (some (0))
 (br (x0==29)
 (some (0))
 (some (Int.tmod x0 16))))))
def qD1 (rec:Int->Int->Int->Int->List Int->List Int->Int->Option (Int)) (x0 x1:Int) (x2 x3:Int) (x4 x5:List Int) (x6:Int):Option (Int):=
 br (decide (x3<9))
 (br (inB (IntKind.wrap .i64 (IntKind.wrap .i64 (9*x1)+x3)) 81)
 (br (conv .i8 .i64 (List.getD x4 (Int.toNat (IntKind.wrap .i64 (IntKind.wrap .i64 (9*x1)+x3))) 0)==x0)
 (rec x0 x1 (IntKind.wrap .i64 (x2+1)) (IntKind.wrap .i64 (x3+1)) x4 x5 x6)
 (rec x0 x1 x2 (IntKind.wrap .i64 (x3+1)) x4 x5 x6))
 (none))
 (some (x2))
def qCb:Nat->Int->Int->Int->Int->List Int->List Int->Int->Option (Int)
 | 0,_,_,_,_,_,_,_=>none
 | f+1,x0,x1,x2,x3,x4,x5,x6=>qD1 (qCb f) x0 x1 x2 x3 x4 x5 x6
def qD0 (x0 x1:List Int) (x2 x3 x4:Int):Option (Int):=
 ob (qCb qB x3 x4 0 0 x0 x1 x2) fun a5=>
 some (a5)
def qD2 (rec:Int->Int->Int->List Int->List Int->Int->Option (Int)) (x0 x1 x2:Int) (x3 x4:List Int) (x5:Int):Option (Int):=
 br (decide (x2<9))
 (ob (qD0 x3 x4 x5 x0 x2) fun a10=>
 rec x0 (IntKind.wrap .i64 (x1+a10)) (IntKind.wrap .i64 (x2+1)) x3 x4 x5)
 (some (x1))
def qCc:Nat->Int->Int->Int->List Int->List Int->Int->Option (Int)
 | 0,_,_,_,_,_,_=>none
 | f+1,x0,x1,x2,x3,x4,x5=>qD2 (qCc f) x0 x1 x2 x3 x4 x5
def qCJ (x0 x1:List Int) (x2 x3:Int):Option (Int):=
 ob (qCc qB x3 0 0 x0 x1 x2) fun a4=>
 some (a4)
def qH7 (x0:Int):Option (Int):=
 br (decide (x0<1))
 (some (0))
 (br (decide (x0>15))
 (some (0))
 (br (x0==13)
 (some (0))
 (br (decide (x0>8))
 (some (IntKind.wrap .i64 (x0 - 8)))
 (some (x0)))))
def qIC (rec:Int->Int->Int->List Int->List Int->Int->Option (Int×Int×List Int×List Int×Int)) (x0 x1 x2:Int) (x3 x4:List Int) (x5:Int):Option (Int×Int×List Int×List Int×Int):=
 br (decide (x2<81))
 (br (inB x2 81)
 (ob (qAS (conv .i8 .i64 (List.getD x3 (Int.toNat x2) 0))) fun a10=>
 ob (qH7 a10) fun a11=>
 br (a11==x0)
 (rec x0 (IntKind.wrap .i64 (x1+1)) (IntKind.wrap .i64 (x2+1)) x3 x4 x5)
 (rec x0 x1 (IntKind.wrap .i64 (x2+1)) x3 x4 x5))
 (none))
 (some (x0,x1,x3,x4,x5))
def qFf:Nat->Int->Int->Int->List Int->List Int->Int->Option (Int×Int×List Int×List Int×Int)
 | 0,_,_,_,_,_,_=>none
 | f+1,x0,x1,x2,x3,x4,x5=>qIC (qFf f) x0 x1 x2 x3 x4 x5
def qJg (x0 x1:List Int) (x2 x3:Int):Option (Int):=
 ob (qFf qB x3 0 0 x0 x1 x2) fun (a4_0,a4_1,_,a4_3,_)=>
 br (inB a4_0 8)
 (br (inB a4_0 8)
 (some (IntKind.wrap .i64 (IntKind.wrap .i64 (a4_1+conv .i8 .i64 (List.getD a4_3 (0+Int.toNat a4_0) 0))+conv .i8 .i64 (List.getD a4_3 (8+Int.toNat a4_0) 0))))
 (none))
 (none)
def qJd (x0:Int):Option (Int):=
 br (decide (x0<1))
 (some (0))
 (br (decide (x0>8))
 (some (0))
 (br (inB x0 9)
 (some (List.getD [0,18,4,4,4,4,2,2,2] (Int.toNat x0) 0))
 (none)))
def qA9 (x0:Int):Option (Int):=
 ob (qAS x0) fun a1=>
 br (a1==0)
 (some (-1))
 (some (IntKind.wrap .i64 (Int.tdiv x0 16)))
def qDK (x0 x1:Int):Option (Int):=
 br (decide (x1<0))
 (some (-1))
 (br (decide (x1>80))
 (some (-1))
 (br (decide (x0<0))
 (some (-1))
 (br (decide (x0>1))
 (some (-1))
 (br (x0==0)
 (some (Int.tmod x1 9))
 (some (IntKind.wrap .i64 (8 - Int.tmod x1 9)))))))
def qDJ (x0 x1:Int):Option (Bool):=
 ob (qA9 x0) fun a2=>
 ob (qDK a2 x1) fun a3=>
 ob (qAS x0) fun a4=>
 br (a4==1)
 (br (a3==0)
 (some (true))
 (br (a4==3)
 (br (a3==0)
 (some (true))
 (some (a3==1)))
 (some (false))))
 (br (a4==2)
 (br (a3==0)
 (some (true))
 (br (a4==3)
 (br (a3==0)
 (some (true))
 (some (a3==1)))
 (some (false))))
 (br (a4==3)
 (br (a3==0)
 (some (true))
 (some (a3==1)))
 (some (false))))
def qDy (rec:Int->List Int->List Int->Int->Option ((Int×List Int×List Int×Int)⊕(List Int×List Int×Int))) (x0:Int) (x1 x2:List Int) (x3:Int):Option ((Int×List Int×List Int×Int)⊕(List Int×List Int×Int)):=
 br (decide (x0<81))
 (br (inB x0 81)
 (br (List.getD x1 (Int.toNat x0) 0 != 0)
 (br (inB x0 81)
 (ob (qAS (conv .i8 .i64 (List.getD x1 (Int.toNat x0) 0))) fun a7=>
 br (a7==0)
 (some (.inl (55,x1,x2,x3)))
 (rec (IntKind.wrap .i64 (x0+1)) x1 x2 x3))
 (none))
 (rec (IntKind.wrap .i64 (x0+1)) x1 x2 x3))
 (none))
 (some (.inr (x1,x2,x3)))
def qB5:Nat->Int->List Int->List Int->Int->Option ((Int×List Int×List Int×Int)⊕(List Int×List Int×Int))
 | 0,_,_,_,_=>none
 | f+1,x0,x1,x2,x3=>qDy (qB5 f) x0 x1 x2 x3
def qDu (rec:Int->Int->List Int->List Int->Int->Option ((Int×Int×List Int×List Int×Int)⊕(Int×List Int×List Int×Int))) (x0 x1:Int) (x2 x3:List Int) (x4:Int):Option ((Int×Int×List Int×List Int×Int)⊕(Int×List Int×List Int×Int)):=
 br (decide (x1<2))
 (br (inB x1 2)
 (br (inB x0 8)
 (br (decide (List.getD x3 (Int.toNat x1*8+Int.toNat x0) 0<0))
 (some (.inl (55,x0,x2,x3,x4)))
 (br (x0==0)
 (br (List.getD x3 (Int.toNat x1*8+Int.toNat x0) 0 != 0)
 (some (.inl (55,x0,x2,x3,x4)))
 (rec x0 (IntKind.wrap .i64 (x1+1)) x2 x3 x4))
 (rec x0 (IntKind.wrap .i64 (x1+1)) x2 x3 x4)))
 (none))
 (none))
 (some (.inr (x0,x2,x3,x4)))
def qBa:Nat->Int->Int->List Int->List Int->Int->Option ((Int×Int×List Int×List Int×Int)⊕(Int×List Int×List Int×Int))
 | 0,_,_,_,_,_=>none
 | f+1,x0,x1,x2,x3,x4=>qDu (qBa f) x0 x1 x2 x3 x4
def qDz (rec:Int->List Int->List Int->Int->Option ((Int×List Int×List Int×Int)⊕(List Int×List Int×Int))) (x0:Int) (x1 x2:List Int) (x3:Int):Option ((Int×List Int×List Int×Int)⊕(List Int×List Int×Int)):=
 br (decide (x0<8))
 (ob (qBa qB x0 0 x1 x2 x3) fun t10_2=>
 sw t10_2 (fun (a10_0,_,a10_2,a10_3,a10_4)=>
 some (.inl (a10_0,a10_2,a10_3,a10_4)))
 (fun (a10_0,a10_1,a10_2,a10_3)=>
 rec (IntKind.wrap .i64 (a10_0+1)) a10_1 a10_2 a10_3))
 (some (.inr (x1,x2,x3)))
def qBP:Nat->Int->List Int->List Int->Int->Option ((Int×List Int×List Int×Int)⊕(List Int×List Int×Int))
 | 0,_,_,_,_=>none
 | f+1,x0,x1,x2,x3=>qDz (qBP f) x0 x1 x2 x3
def qDv (rec:Int->List Int->List Int->Int->Option ((Int×List Int×List Int×Int)⊕(List Int×List Int×Int))) (x0:Int) (x1 x2:List Int) (x3:Int):Option ((Int×List Int×List Int×Int)⊕(List Int×List Int×Int)):=
 br (decide (x0<8))
 (ob (qJg x1 x2 x3 x0) fun a15=>
 ob (qJd x0) fun a16=>
 br (decide (a15>a16))
 (some (.inl (51,x1,x2,x3)))
 (rec (IntKind.wrap .i64 (x0+1)) x1 x2 x3))
 (some (.inr (x1,x2,x3)))
def qBM:Nat->Int->List Int->List Int->Int->Option ((Int×List Int×List Int×Int)⊕(List Int×List Int×Int))
 | 0,_,_,_,_=>none
 | f+1,x0,x1,x2,x3=>qDv (qBM f) x0 x1 x2 x3
def qDw (rec:Int->List Int->List Int->Int->Option ((Int×List Int×List Int×Int)⊕(List Int×List Int×Int))) (x0:Int) (x1 x2:List Int) (x3:Int):Option ((Int×List Int×List Int×Int)⊕(List Int×List Int×Int)):=
 br (decide (x0<81))
 (br (inB x0 81)
 (ob (qDJ (conv .i8 .i64 (List.getD x1 (Int.toNat x0) 0)) x0) fun a18=>
 br (a18)
 (some (.inl (52,x1,x2,x3)))
 (rec (IntKind.wrap .i64 (x0+1)) x1 x2 x3))
 (none))
 (some (.inr (x1,x2,x3)))
def qBN:Nat->Int->List Int->List Int->Int->Option ((Int×List Int×List Int×Int)⊕(List Int×List Int×Int))
 | 0,_,_,_,_=>none
 | f+1,x0,x1,x2,x3=>qDw (qBN f) x0 x1 x2 x3
def qDx (rec:Int->List Int->List Int->Int->Option ((Int)⊕(Unit))) (x0:Int) (x1 x2:List Int) (x3:Int):Option ((Int)⊕(Unit)):=
 br (decide (x0<9))
 (ob (qD0 x1 x2 x3 1 x0) fun a21=>
 br (decide (a21>1))
 (some (.inl (53)))
 (ob (qD0 x1 x2 x3 17 x0) fun a22=>
 br (decide (a22>1))
 (some (.inl (53)))
 (rec (IntKind.wrap .i64 (x0+1)) x1 x2 x3)))
 (some (.inr ()))
def qBO:Nat->Int->List Int->List Int->Int->Option ((Int)⊕(Unit))
 | 0,_,_,_,_=>none
 | f+1,x0,x1,x2,x3=>qDx (qBO f) x0 x1 x2 x3
def qFe (x0 x1:List Int) (x2:Int):Option (Int):=
 br (x2 != 0)
 (br (x2 != 1)
 (some (1))
 (ob (qB5 qB 0 x0 x1 x2) fun t3_2=>
 sw t3_2 (fun (a3_0,_,_,_)=>
 some (a3_0))
 (fun (a3_0,a3_1,a3_2)=>
 ob (qBP qB 0 a3_0 a3_1 a3_2) fun t6_2=>
 sw t6_2 (fun (a6_0,_,_,_)=>
 some (a6_0))
 (fun (a6_0,a6_1,a6_2)=>
 ob (qCJ a6_0 a6_1 a6_2 8) fun a9=>
 br (a9 != 1)
 (some (50))
 (ob (qCJ a6_0 a6_1 a6_2 24) fun a10=>
 br (a10 != 1)
 (some (50))
 (ob (qBM qB 1 a6_0 a6_1 a6_2) fun t11_2=>
 sw t11_2 (fun (a11_0,_,_,_)=>
 some (a11_0))
 (fun (a11_0,a11_1,a11_2)=>
 ob (qBN qB 0 a11_0 a11_1 a11_2) fun t14_2=>
 sw t14_2 (fun (a14_0,_,_,_)=>
 some (a14_0))
 (fun (a14_0,a14_1,a14_2)=>
 ob (qBO qB 0 a14_0 a14_1 a14_2) fun t17_2=>
 sw t17_2 (fun a17=>
 some (a17))
 (fun _=>
 some (0))))))))))
 (ob (qB5 qB 0 x0 x1 x2) fun t3_2=>
 sw t3_2 (fun (a3_0,_,_,_)=>
 some (a3_0))
 (fun (a3_0,a3_1,a3_2)=>
 ob (qBP qB 0 a3_0 a3_1 a3_2) fun t6_2=>
 sw t6_2 (fun (a6_0,_,_,_)=>
 some (a6_0))
 (fun (a6_0,a6_1,a6_2)=>
 ob (qCJ a6_0 a6_1 a6_2 8) fun a9=>
 br (a9 != 1)
 (some (50))
 (ob (qCJ a6_0 a6_1 a6_2 24) fun a10=>
 br (a10 != 1)
 (some (50))
 (ob (qBM qB 1 a6_0 a6_1 a6_2) fun t11_2=>
 sw t11_2 (fun (a11_0,_,_,_)=>
 some (a11_0))
 (fun (a11_0,a11_1,a11_2)=>
 ob (qBN qB 0 a11_0 a11_1 a11_2) fun t14_2=>
 sw t14_2 (fun (a14_0,_,_,_)=>
 some (a14_0))
 (fun (a14_0,a14_1,a14_2)=>
 ob (qBO qB 0 a14_0 a14_1 a14_2) fun t17_2=>
 sw t17_2 (fun a17=>
 some (a17))
 (fun _=>
 some (0)))))))))
def qC9 (_x0 _x1:List Int) (_x2:Int) (_x3 x4:List (List Int)):Option (Int×Int):=
 ob (qD9 (List.headD (List.take 2 (List.getD x4 0 [])) 0) (List.headD (List.tail (List.take 2 (List.getD x4 0 []))) 0) (List.headD (List.take 2 (List.getD x4 1 [])) 0) (List.headD (List.tail (List.take 2 (List.getD x4 1 []))) 0)) fun (a5_0,a5_1)=>
 some (a5_0,a5_1)
def qF4 (x0:Int):Option (Int):=
 some (qF BinOp.and .i64 (conv .u64 .i64 (IntKind.wrap .u64 (IntKind.wrap .u64 (IntKind.wrap .u64 (qF BinOp.and .u64 (IntKind.wrap .u64 (Int.fdiv (IntKind.wrap .u64 (qF BinOp.and .u64 (Int.fdiv (IntKind.wrap .u64 (qF BinOp.and .u64 (Int.fdiv x0 2) 6148914691236517205+qF BinOp.and .u64 x0 6148914691236517205)) 4) 3689348814741910323+qF BinOp.and .u64 (IntKind.wrap .u64 (qF BinOp.and .u64 (Int.fdiv x0 2) 6148914691236517205+qF BinOp.and .u64 x0 6148914691236517205)) 3689348814741910323)) 16+IntKind.wrap .u64 (qF BinOp.and .u64 (Int.fdiv (IntKind.wrap .u64 (qF BinOp.and .u64 (Int.fdiv x0 2) 6148914691236517205+qF BinOp.and .u64 x0 6148914691236517205)) 4) 3689348814741910323+qF BinOp.and .u64 (IntKind.wrap .u64 (qF BinOp.and .u64 (Int.fdiv x0 2) 6148914691236517205+qF BinOp.and .u64 x0 6148914691236517205)) 3689348814741910323))) 1085102592571150095+Int.fdiv (qF BinOp.and .u64 (IntKind.wrap .u64 (Int.fdiv (IntKind.wrap .u64 (qF BinOp.and .u64 (Int.fdiv (IntKind.wrap .u64 (qF BinOp.and .u64 (Int.fdiv x0 2) 6148914691236517205+qF BinOp.and .u64 x0 6148914691236517205)) 4) 3689348814741910323+qF BinOp.and .u64 (IntKind.wrap .u64 (qF BinOp.and .u64 (Int.fdiv x0 2) 6148914691236517205+qF BinOp.and .u64 x0 6148914691236517205)) 3689348814741910323)) 16+IntKind.wrap .u64 (qF BinOp.and .u64 (Int.fdiv (IntKind.wrap .u64 (qF BinOp.and .u64 (Int.fdiv x0 2) 6148914691236517205+qF BinOp.and .u64 x0 6148914691236517205)) 4) 3689348814741910323+qF BinOp.and .u64 (IntKind.wrap .u64 (qF BinOp.and .u64 (Int.fdiv x0 2) 6148914691236517205+qF BinOp.and .u64 x0 6148914691236517205)) 3689348814741910323))) 1085102592571150095) 256)+Int.fdiv (IntKind.wrap .u64 (qF BinOp.and .u64 (IntKind.wrap .u64 (Int.fdiv (IntKind.wrap .u64 (qF BinOp.and .u64 (Int.fdiv (IntKind.wrap .u64 (qF BinOp.and .u64 (Int.fdiv x0 2) 6148914691236517205+qF BinOp.and .u64 x0 6148914691236517205)) 4) 3689348814741910323+qF BinOp.and .u64 (IntKind.wrap .u64 (qF BinOp.and .u64 (Int.fdiv x0 2) 6148914691236517205+qF BinOp.and .u64 x0 6148914691236517205)) 3689348814741910323)) 16+IntKind.wrap .u64 (qF BinOp.and .u64 (Int.fdiv (IntKind.wrap .u64 (qF BinOp.and .u64 (Int.fdiv x0 2) 6148914691236517205+qF BinOp.and .u64 x0 6148914691236517205)) 4) 3689348814741910323+qF BinOp.and .u64 (IntKind.wrap .u64 (qF BinOp.and .u64 (Int.fdiv x0 2) 6148914691236517205+qF BinOp.and .u64 x0 6148914691236517205)) 3689348814741910323))) 1085102592571150095+Int.fdiv (qF BinOp.and .u64 (IntKind.wrap .u64 (Int.fdiv (IntKind.wrap .u64 (qF BinOp.and .u64 (Int.fdiv (IntKind.wrap .u64 (qF BinOp.and .u64 (Int.fdiv x0 2) 6148914691236517205+qF BinOp.and .u64 x0 6148914691236517205)) 4) 3689348814741910323+qF BinOp.and .u64 (IntKind.wrap .u64 (qF BinOp.and .u64 (Int.fdiv x0 2) 6148914691236517205+qF BinOp.and .u64 x0 6148914691236517205)) 3689348814741910323)) 16+IntKind.wrap .u64 (qF BinOp.and .u64 (Int.fdiv (IntKind.wrap .u64 (qF BinOp.and .u64 (Int.fdiv x0 2) 6148914691236517205+qF BinOp.and .u64 x0 6148914691236517205)) 4) 3689348814741910323+qF BinOp.and .u64 (IntKind.wrap .u64 (qF BinOp.and .u64 (Int.fdiv x0 2) 6148914691236517205+qF BinOp.and .u64 x0 6148914691236517205)) 3689348814741910323))) 1085102592571150095) 256)) 65536)+Int.fdiv (IntKind.wrap .u64 (IntKind.wrap .u64 (qF BinOp.and .u64 (IntKind.wrap .u64 (Int.fdiv (IntKind.wrap .u64 (qF BinOp.and .u64 (Int.fdiv (IntKind.wrap .u64 (qF BinOp.and .u64 (Int.fdiv x0 2) 6148914691236517205+qF BinOp.and .u64 x0 6148914691236517205)) 4) 3689348814741910323+qF BinOp.and .u64 (IntKind.wrap .u64 (qF BinOp.and .u64 (Int.fdiv x0 2) 6148914691236517205+qF BinOp.and .u64 x0 6148914691236517205)) 3689348814741910323)) 16+IntKind.wrap .u64 (qF BinOp.and .u64 (Int.fdiv (IntKind.wrap .u64 (qF BinOp.and .u64 (Int.fdiv x0 2) 6148914691236517205+qF BinOp.and .u64 x0 6148914691236517205)) 4) 3689348814741910323+qF BinOp.and .u64 (IntKind.wrap .u64 (qF BinOp.and .u64 (Int.fdiv x0 2) 6148914691236517205+qF BinOp.and .u64 x0 6148914691236517205)) 3689348814741910323))) 1085102592571150095+Int.fdiv (qF BinOp.and .u64 (IntKind.wrap .u64 (Int.fdiv (IntKind.wrap .u64 (qF BinOp.and .u64 (Int.fdiv (IntKind.wrap .u64 (qF BinOp.and .u64 (Int.fdiv x0 2) 6148914691236517205+qF BinOp.and .u64 x0 6148914691236517205)) 4) 3689348814741910323+qF BinOp.and .u64 (IntKind.wrap .u64 (qF BinOp.and .u64 (Int.fdiv x0 2) 6148914691236517205+qF BinOp.and .u64 x0 6148914691236517205)) 3689348814741910323)) 16+IntKind.wrap .u64 (qF BinOp.and .u64 (Int.fdiv (IntKind.wrap .u64 (qF BinOp.and .u64 (Int.fdiv x0 2) 6148914691236517205+qF BinOp.and .u64 x0 6148914691236517205)) 4) 3689348814741910323+qF BinOp.and .u64 (IntKind.wrap .u64 (qF BinOp.and .u64 (Int.fdiv x0 2) 6148914691236517205+qF BinOp.and .u64 x0 6148914691236517205)) 3689348814741910323))) 1085102592571150095) 256)+Int.fdiv (IntKind.wrap .u64 (qF BinOp.and .u64 (IntKind.wrap .u64 (Int.fdiv (IntKind.wrap .u64 (qF BinOp.and .u64 (Int.fdiv (IntKind.wrap .u64 (qF BinOp.and .u64 (Int.fdiv x0 2) 6148914691236517205+qF BinOp.and .u64 x0 6148914691236517205)) 4) 3689348814741910323+qF BinOp.and .u64 (IntKind.wrap .u64 (qF BinOp.and .u64 (Int.fdiv x0 2) 6148914691236517205+qF BinOp.and .u64 x0 6148914691236517205)) 3689348814741910323)) 16+IntKind.wrap .u64 (qF BinOp.and .u64 (Int.fdiv (IntKind.wrap .u64 (qF BinOp.and .u64 (Int.fdiv x0 2) 6148914691236517205+qF BinOp.and .u64 x0 6148914691236517205)) 4) 3689348814741910323+qF BinOp.and .u64 (IntKind.wrap .u64 (qF BinOp.and .u64 (Int.fdiv x0 2) 6148914691236517205+qF BinOp.and .u64 x0 6148914691236517205)) 3689348814741910323))) 1085102592571150095+Int.fdiv (qF BinOp.and .u64 (IntKind.wrap .u64 (Int.fdiv (IntKind.wrap .u64 (qF BinOp.and .u64 (Int.fdiv (IntKind.wrap .u64 (qF BinOp.and .u64 (Int.fdiv x0 2) 6148914691236517205+qF BinOp.and .u64 x0 6148914691236517205)) 4) 3689348814741910323+qF BinOp.and .u64 (IntKind.wrap .u64 (qF BinOp.and .u64 (Int.fdiv x0 2) 6148914691236517205+qF BinOp.and .u64 x0 6148914691236517205)) 3689348814741910323)) 16+IntKind.wrap .u64 (qF BinOp.and .u64 (Int.fdiv (IntKind.wrap .u64 (qF BinOp.and .u64 (Int.fdiv x0 2) 6148914691236517205+qF BinOp.and .u64 x0 6148914691236517205)) 4) 3689348814741910323+qF BinOp.and .u64 (IntKind.wrap .u64 (qF BinOp.and .u64 (Int.fdiv x0 2) 6148914691236517205+qF BinOp.and .u64 x0 6148914691236517205)) 3689348814741910323))) 1085102592571150095) 256)) 65536)) 4294967296))) 127)
def qGk (x0 x1:Int):Option (Int):=
 ob (qF4 x0) fun a2=>
 ob (qF4 x1) fun a3=>
 some (IntKind.wrap .i64 (a2+a3))
def qC8 (x0 x1:Int) (_x2 _x3:List Int) (_x4:Int) (x5 _x6:List (List Int)):Option (Int×Int):=
 ob (qAi x0 x1) fun a7=>
 br (a7==0)
 (some (0,0))
 (br (inB a7 32)
 (some (List.headD (List.take 2 (List.getD x5 (Int.toNat a7) [])) 0,List.headD (List.tail (List.take 2 (List.getD x5 (Int.toNat a7) []))) 0))
 (none))
def qNc (BBB:Bool->Option (Int)->Option (Int)->Option (Int)) (x0:Int):Option (Int):=
 br (x0==0)
 (some (64))
 (BBB (inB (Int.fdiv (IntKind.wrap .u64 (qF BinOp.and .u64 x0 (IntKind.wrap .u64 (0 - x0))*285870213051353865)) 288230376151711744) 64)
 (some (conv .u8 .i64 (List.getD [0,1,56,2,57,49,28,3,61,58,42,50,38,29,17,4,62,47,59,36,45,43,51,22,53,39,33,30,24,18,12,5,63,55,48,27,60,41,37,16,46,35,44,21,52,32,23,11,54,26,40,15,34,20,31,10,25,14,19,9,13,8,7,6] (Int.toNat (Int.fdiv (IntKind.wrap .u64 (qF BinOp.and .u64 x0 (IntKind.wrap .u64 (0 - x0))*285870213051353865)) 288230376151711744)) 0)))
 (none))
def qEz (x0:Int):Option (Int):=qNc br x0
def qGm (x0 x1:Int):Option (Int):=
 br (x0 != 0)
 (ob (qEz x0) fun a2=>
 some (a2))
 (br (x1 != 0)
 (ob (qEz x1) fun a2=>
 some (IntKind.wrap .i64 (63+a2)))
 (some (-1)))
def qF6 (x0:Int) (x1 x2:List Int) (x3:Int) (x4 x5:List (List Int)):Option (Int):=
 ob (qC8 x0 8 x1 x2 x3 x4 x5) fun (a6_0,a6_1)=>
 ob (qGm a6_0 a6_1) fun a8=>
 some (a8)
def qLv (x0:Int):Option (Int):=
 br (x0==1)
 (some (18))
 (br (x0==2)
 (some (4))
 (br (x0==3)
 (some (4))
 (br (x0==4)
 (some (4))
 (br (x0==5)
 (some (4))
 (br (x0==6)
 (some (2))
 (br (x0==7)
 (some (2))
 (br (x0==8)
 (some (2))
 (some (0)))))))))
def qFs (x0:Int):Option (Int):=
 some (Int.tmod x0 9)
def qFw (x0 x1:Int):Option (Int):=
 br (decide (x1<0))
 (some (-1))
 (br (decide (x1 >= 81))
 (some (-1))
 (br (x0==0)
 (ob (qFs x1) fun a2=>
 some (a2))
 (br (x0==1)
 (ob (qFs x1) fun a2=>
 some (IntKind.wrap .i64 (8 - a2)))
 (some (-1)))))
def qEC (x0 x1:Int):Option (Bool):=
 ob (qAQ x0) fun a2=>
 ob (qFw a2 x1) fun a3=>
 ob (qAD x0) fun a4=>
 br (a4==1)
 (some (a3==0))
 (br (a4==2)
 (some (a3==0))
 (br (a4==3)
 (br (a3==0)
 (some (true))
 (some (a3==1)))
 (some (false))))
def qdk (rec:Int->Int->Int->Int->Int->Int->Option (Int×Int×Int×Int)) (x0 x1:Int) (x2 x3:Int) (x4 x5:Int):Option (Int×Int×Int×Int):=
 br (decide (x1<9))
 (ob (qCe x0 x1) fun a7=>
 ob (qBA x4 x5 a7) fun (a8_0,a8_1)=>
 rec x0 (IntKind.wrap .i64 (x1+1)) x2 x3 a8_0 a8_1)
 (some (x2,x3,x4,x5))
def qMe:Nat->Int->Int->Int->Int->Int->Int->Option (Int×Int×Int×Int)
 | 0,_,_,_,_,_,_=>none
 | f+1,x0,x1,x2,x3,x4,x5=>qdk (qMe f) x0 x1 x2 x3 x4 x5
def qIW (x0:Int):Option (Int×Int):=
 ob (qMe qB x0 0 0 0 0 0) fun (_,_,a1_2,a1_3)=>
 some (a1_2,a1_3)
def qC2 (x0 x1:Int) (x2 x3:Int):Option (Int×Int):=
 some (qF BinOp.and .u64 x0 x2,qF BinOp.and .u64 x1 x3)
def qHD (rec:List Int->Int->List Int->List Int->Int->Option ((Int×List Int×List Int×Int)⊕(List Int×List Int×Int))) (x0:List Int) (x1:Int) (x2 x3:List Int) (x4:Int):Option ((Int×List Int×List Int×Int)⊕(List Int×List Int×Int)):=
 br (decide (x1<81))
 (br (inB x1 81)
 (ob (qEC (List.getD x0 (bif true then Int.toNat x1 else Int.toNat x1*1) 0) x1) fun a8=>
 br (a8)
 (some (.inl (52,x2,x3,x4)))
 (rec x0 (IntKind.wrap .i64 (x1+1)) x2 x3 x4))
 (none))
 (some (.inr (x2,x3,x4)))
def qE5:Nat->List Int->Int->List Int->List Int->Int->Option ((Int×List Int×List Int×Int)⊕(List Int×List Int×Int))
 | 0,_,_,_,_,_=>none
 | f+1,x0,x1,x2,x3,x4=>qHD (qE5 f) x0 x1 x2 x3 x4
def qE4 (rec:Int->Int->Int->List Int->List Int->Int->List (List Int)->List (List Int)->Option ((Int×Int×List Int×List Int×Int×List (List Int)×List (List Int))⊕(Int×List Int×List Int×Int×List (List Int)×List (List Int)))) (x0 x1 x2:Int) (x3 x4:List Int) (x5:Int) (x6 x7:List (List Int)):Option ((Int×Int×List Int×List Int×Int×List (List Int)×List (List Int))⊕(Int×List Int×List Int×Int×List (List Int)×List (List Int))):=
 br (decide (x2<2))
 (ob (qC8 x2 1 x3 x4 x5 x6 x7) fun (a25_0,a25_1)=>
 ob (qIW x0) fun (a27_0,a27_1)=>
 ob (qC2 a25_0 a25_1 a27_0 a27_1) fun (a29_0,a29_1)=>
 ob (qGk a29_0 a29_1) fun a31=>
 br (decide (a31>1))
 (some (.inl (53,x1,x3,x4,x5,x6,x7)))
 (rec x0 x1 (IntKind.wrap .i64 (x2+1)) x3 x4 x5 x6 x7))
 (some (.inr (x1,x3,x4,x5,x6,x7)))
def qE3:Nat->Int->Int->Int->List Int->List Int->Int->List (List Int)->List (List Int)->Option ((Int×Int×List Int×List Int×Int×List (List Int)×List (List Int))⊕(Int×List Int×List Int×Int×List (List Int)×List (List Int)))
 | 0,_,_,_,_,_,_,_,_=>none
 | f+1,x0,x1,x2,x3,x4,x5,x6,x7=>qE4 (qE3 f) x0 x1 x2 x3 x4 x5 x6 x7
def qHE (rec:Int->List Int->List Int->Int->List (List Int)->List (List Int)->Option ((Int)⊕(Unit))) (x0:Int) (x1 x2:List Int) (x3:Int) (x4 x5:List (List Int)):Option ((Int)⊕(Unit)):=
 br (decide (x0<9))
 (ob (qE3 qB x0 x0 0 x1 x2 x3 x4 x5) fun t17_2=>
 sw t17_2 (fun (a17_0,_,_,_,_,_,_)=>
 some (.inl (a17_0)))
 (fun (a17_0,a17_1,a17_2,a17_3,a17_4,a17_5)=>
 rec (IntKind.wrap .i64 (a17_0+1)) a17_1 a17_2 a17_3 a17_4 a17_5))
 (some (.inr ()))
def qE6:Nat->Int->List Int->List Int->Int->List (List Int)->List (List Int)->Option ((Int)⊕(Unit))
 | 0,_,_,_,_,_,_=>none
 | f+1,x0,x1,x2,x3,x4,x5=>qHE (qE6 f) x0 x1 x2 x3 x4 x5
def qGB (x0 x1:List Int) (x2:Int):Option (Int):=
 ob (qE5 qB x0 0 x0 x1 x2) fun t3_2=>
 sw t3_2 (fun (a3_0,_,_,_)=>
 some (a3_0))
 (fun (a3_0,a3_1,a3_2)=>
 ob (qF7 a3_0 a3_1 a3_2) fun (a6_0,a6_1,a6_2,a6_3,a6_4)=>
 ob (qE6 qB 0 a6_0 a6_1 a6_2 a6_3 a6_4) fun t11_2=>
 sw t11_2 (fun a11=>
 some (a11))
 (fun _=>
 some (0)))
def qE1 (rec:List Int->Int->List Int->List Int->Int->List Int->List Int->Option ((Int×List Int×List Int×Int×List Int×List Int)⊕(List Int×List Int×Int×List Int×List Int))) (x0:List Int) (x1:Int) (x2 x3:List Int) (x4:Int) (x5 x6:List Int):Option ((Int×List Int×List Int×Int×List Int×List Int)⊕(List Int×List Int×Int×List Int×List Int)):=
 br (decide (x1<81))
 (br (inB x1 81)
 (ob (qAD (List.getD x0 (bif true then Int.toNat x1 else Int.toNat x1*1) 0)) fun a10=>
 br (List.getD x0 (bif true then Int.toNat x1 else Int.toNat x1*1) 0==0)
 (rec x0 (IntKind.wrap .i64 (x1+1)) x2 x3 x4 x5 x6)
 (br (a10==0)
 (some (.inl (55,x2,x3,x4,x5,x6)))
 (br (a10==8)
 (ob (qAQ (List.getD x0 (bif true then Int.toNat x1 else Int.toNat x1*1) 0)) fun a11=>
 br (inB a11 2)
 (br (inB a11 2)
 (ob (qCz a10) fun a12=>
 br (inB a12 9)
 (br (inB a12 9)
 (rec x0 (IntKind.wrap .i64 (x1+1)) x2 x3 x4 (List.set x5 (Int.toNat a12) (IntKind.wrap .i64 (List.getD x5 (Int.toNat a12) 0+1))) (List.set x6 (Int.toNat a11) (IntKind.wrap .i64 (List.getD x6 (Int.toNat a11) 0+1))))
 (none))
 (none))
 (none))
 (none))
 (ob (qCz a10) fun a11=>
 br (inB a11 9)
 (br (inB a11 9)
 (rec x0 (IntKind.wrap .i64 (x1+1)) x2 x3 x4 (List.set x5 (Int.toNat a11) (IntKind.wrap .i64 (List.getD x5 (Int.toNat a11) 0+1))) x6)
 (none))
 (none)))))
 (none))
 (some (.inr (x2,x3,x4,x5,x6)))
def qCS:Nat->List Int->Int->List Int->List Int->Int->List Int->List Int->Option ((Int×List Int×List Int×Int×List Int×List Int)⊕(List Int×List Int×Int×List Int×List Int))
 | 0,_,_,_,_,_,_,_=>none
 | f+1,x0,x1,x2,x3,x4,x5,x6=>qE1 (qCS f) x0 x1 x2 x3 x4 x5 x6
def qE0 (rec:List Int->Int->List Int->Int->List Int->List Int->Int->List Int->List Int->Option ((Int×List Int×Int×List Int×List Int×Int×List Int×List Int)⊕(List Int×Int×List Int×List Int×Int×List Int×List Int))) (x0:List Int) (x1:Int) (x2:List Int) (x3:Int) (x4 x5:List Int) (x6:Int) (x7 x8:List Int):Option ((Int×List Int×Int×List Int×List Int×Int×List Int×List Int)⊕(List Int×Int×List Int×List Int×Int×List Int×List Int)):=
 br (decide (x3<8))
 (br (inB x3 8)
 (br (decide (List.getD x2 (bif true then Int.toNat x3 else Int.toNat x3*1) 0<0))
 (some (.inl (55,x0,x1,x4,x5,x6,x7,x8)))
 (br (decide (List.getD x2 (bif true then Int.toNat x3 else Int.toNat x3*1) 0>0))
 (br (x3==0)
 (some (.inl (55,x0,x1,x4,x5,x6,x7,x8)))
 (br (x3==8)
 (some (.inl (55,x0,x1,x4,x5,x6,x7,x8)))
 (br (inB x3 9)
 (br (inB x3 9)
 (rec x0 x1 x2 (IntKind.wrap .i64 (x3+1)) x4 x5 x6 (List.set x7 (Int.toNat x3) (IntKind.wrap .i64 (List.getD x7 (Int.toNat x3) 0+conv .i8 .i64 (List.getD x2 (bif true then Int.toNat x3 else Int.toNat x3*1) 0)))) x8)
 (none))
 (none))))
 (br (inB x3 9)
 (br (inB x3 9)
 (rec x0 x1 x2 (IntKind.wrap .i64 (x3+1)) x4 x5 x6 (List.set x7 (Int.toNat x3) (IntKind.wrap .i64 (List.getD x7 (Int.toNat x3) 0+conv .i8 .i64 (List.getD x2 (bif true then Int.toNat x3 else Int.toNat x3*1) 0)))) x8)
 (none))
 (none))))
 (none))
 (some (.inr (x0,x1,x4,x5,x6,x7,x8)))
def qC7:Nat->List Int->Int->List Int->Int->List Int->List Int->Int->List Int->List Int->Option ((Int×List Int×Int×List Int×List Int×Int×List Int×List Int)⊕(List Int×Int×List Int×List Int×Int×List Int×List Int))
 | 0,_,_,_,_,_,_,_,_,_=>none
 | f+1,x0,x1,x2,x3,x4,x5,x6,x7,x8=>qE0 (qC7 f) x0 x1 x2 x3 x4 x5 x6 x7 x8
def qDX (rec:List Int->Int->List Int->List Int->Int->List Int->List Int->Option ((Int×List Int×List Int×Int×List Int×List Int)⊕(List Int×List Int×Int×List Int×List Int))) (x0:List Int) (x1:Int) (x2 x3:List Int) (x4:Int) (x5 x6:List Int):Option ((Int×List Int×List Int×Int×List Int×List Int)⊕(List Int×List Int×Int×List Int×List Int)):=
 br (decide (x1<2))
 (br (inB x1 2)
 (ob (qC7 qB x0 x1 (List.take 8 (List.drop (Nat.add (Nat.mul (Int.toNat x1) 7) (Int.toNat x1)) x0)) 0 x2 x3 x4 x5 x6) fun t15_2=>
 sw t15_2 (fun (a15_0,_,_,a15_3,a15_4,a15_5,a15_6,a15_7)=>
 some (.inl (a15_0,a15_3,a15_4,a15_5,a15_6,a15_7)))
 (fun (a15_0,a15_1,a15_2,a15_3,a15_4,a15_5,a15_6)=>
 rec a15_0 (IntKind.wrap .i64 (a15_1+1)) a15_2 a15_3 a15_4 a15_5 a15_6))
 (none))
 (some (.inr (x2,x3,x4,x5,x6)))
def qCj:Nat->List Int->Int->List Int->List Int->Int->List Int->List Int->Option ((Int×List Int×List Int×Int×List Int×List Int)⊕(List Int×List Int×Int×List Int×List Int))
 | 0,_,_,_,_,_,_,_=>none
 | f+1,x0,x1,x2,x3,x4,x5,x6=>qDX (qCj f) x0 x1 x2 x3 x4 x5 x6
def qG8 (rec:Int->List Int->List Int->Int->List Int->Option ((Int×List Int×List Int×Int)⊕(List Int×List Int×Int))) (x0:Int) (x1 x2:List Int) (x3:Int) (x4:List Int):Option ((Int×List Int×List Int×Int)⊕(List Int×List Int×Int)):=
 br (decide (x0<8))
 (br (inB x0 9)
 (ob (qLv x0) fun a18=>
 br (decide (List.getD x4 (Int.toNat x0) 0>a18))
 (some (.inl (51,x1,x2,x3)))
 (rec (IntKind.wrap .i64 (x0+1)) x1 x2 x3 x4))
 (none))
 (some (.inr (x1,x2,x3)))
def qDY:Nat->Int->List Int->List Int->Int->List Int->Option ((Int×List Int×List Int×Int)⊕(List Int×List Int×Int))
 | 0,_,_,_,_,_=>none
 | f+1,x0,x1,x2,x3,x4=>qG8 (qDY f) x0 x1 x2 x3 x4
def qIx (x0 x1:List Int) (x2:Int):Option (Int):=
 br (x2 != 0)
 (br (x2 != 1)
 (some (1))
 (ob (qCS qB x0 0 x0 x1 x2 ([0,0,0,0,0,0,0,0,0]) ([0,0])) fun t3_2=>
 sw t3_2 (fun (a3_0,_,_,_,_,_)=>
 some (a3_0))
 (fun (a3_0,a3_1,a3_2,a3_3,a3_4)=>
 ob (qCj qB a3_1 0 a3_0 a3_1 a3_2 a3_3 a3_4) fun t8_2=>
 sw t8_2 (fun (a8_0,_,_,_,_,_)=>
 some (a8_0))
 (fun (a8_0,a8_1,a8_2,a8_3,a8_4)=>
 br (!a8_4==[1,1])
 (some (50))
 (ob (qDY qB 1 a8_0 a8_1 a8_2 a8_3) fun t13_2=>
 sw t13_2 (fun (a13_0,_,_,_)=>
 some (a13_0))
 (fun (a13_0,a13_1,a13_2)=>
 ob (qGB a13_0 a13_1 a13_2) fun a16=>
 some (a16)))))))
 (ob (qCS qB x0 0 x0 x1 x2 ([0,0,0,0,0,0,0,0,0]) ([0,0])) fun t3_2=>
 sw t3_2 (fun (a3_0,_,_,_,_,_)=>
 some (a3_0))
 (fun (a3_0,a3_1,a3_2,a3_3,a3_4)=>
 ob (qCj qB a3_1 0 a3_0 a3_1 a3_2 a3_3 a3_4) fun t8_2=>
 sw t8_2 (fun (a8_0,_,_,_,_,_)=>
 some (a8_0))
 (fun (a8_0,a8_1,a8_2,a8_3,a8_4)=>
 br (!a8_4==[1,1])
 (some (50))
 (ob (qDY qB 1 a8_0 a8_1 a8_2 a8_3) fun t13_2=>
 sw t13_2 (fun (a13_0,_,_,_)=>
 some (a13_0))
 (fun (a13_0,a13_1,a13_2)=>
 ob (qGB a13_0 a13_1 a13_2) fun a16=>
 some (a16))))))
def qKU (x0 x1:List Int) (x2:Int) (x3 x4:List (List Int)):Option (List Int×List Int×Int×List (List Int)×List (List Int)):=
 some (x0,x1,x2,x3,x4)
def qF9 (x0:Int) (_x1 _x2:List Int) (_x3:Int) (_x4 x5:List (List Int)):Option (Int×Int):=
 br (x0 != 0)
 (br (x0 != 1)
 (some (0,0))
 (br (inB x0 2)
 (some (List.headD (List.take 2 (List.getD x5 (Int.toNat x0) [])) 0,List.headD (List.tail (List.take 2 (List.getD x5 (Int.toNat x0) []))) 0))
 (none)))
 (br (inB x0 2)
 (some (List.headD (List.take 2 (List.getD x5 (Int.toNat x0) [])) 0,List.headD (List.tail (List.take 2 (List.getD x5 (Int.toNat x0) []))) 0))
 (none))
def qEh (x0 x1:Int):Option (Bool):=
 some (x0==0&&x1==0)
def qCK (x0 x1 x2:Int):Option (Bool):=
 ob (qFu x2) fun (a3_0,a3_1)=>
 ob (qC2 x0 x1 a3_0 a3_1) fun (a5_0,a5_1)=>
 ob (qEh a5_0 a5_1) fun a7=>
 some (!a7)
def qGi:Option (Int×Int):=
 some (9223372036854775807,262143)
def qMi (rec:Nat->Int->Int->Nat->List Int->Option (Nat×Int×Int×Nat×List Int)) (x0:Nat) (x1 x2:Int) (x3:Nat) (x4:List Int):Option (Nat×Int×Int×Nat×List Int):=
 br (x1 != 0)
 (ob (qEz x1) fun a7=>
 br (decide ((x0+1)*8<=140737488355328))
 (rec (x0+1) (qF BinOp.and .u64 x1 (IntKind.wrap .u64 (x1 - 1))) x2 (x0+1) (List.append (List.take x0 x4) [a7]))
 (none))
 (some (x0,x1,x2,x3,x4))
def qIb:Nat->Nat->Int->Int->Nat->List Int->Option (Nat×Int×Int×Nat×List Int)
 | 0,_,_,_,_,_=>none
 | f+1,x0,x1,x2,x3,x4=>qMi (qIb f) x0 x1 x2 x3 x4
def qMj (rec:Nat->Int->Int->Nat->List Int->Option (Nat×Nat×List Int)) (x0:Nat) (x1 x2:Int) (x3:Nat) (x4:List Int):Option (Nat×Nat×List Int):=
 br (x2 != 0)
 (ob (qEz x2) fun a12=>
 br (decide ((x0+1)*8<=140737488355328))
 (rec (x0+1) x1 (qF BinOp.and .u64 x2 (IntKind.wrap .u64 (x2 - 1))) (x0+1) (List.append (List.take x0 x4) [IntKind.wrap .i64 (63+a12)]))
 (none))
 (some (x0,x3,x4))
def qIc:Nat->Nat->Int->Int->Nat->List Int->Option (Nat×Nat×List Int)
 | 0,_,_,_,_,_=>none
 | f+1,x0,x1,x2,x3,x4=>qMj (qIc f) x0 x1 x2 x3 x4
def qEi (x0 x1:Int):Option (Nat×Nat×List Int):=
 ob (qIb qB 0 x0 x1 0 []) fun (a2_0,a2_1,a2_2,a2_3,a2_4)=>
 ob (qIc qB a2_0 a2_1 a2_2 a2_3 a2_4) fun (a7_0,a7_1,a7_2)=>
 some (a7_0,a7_1,a7_2)
def qtU (self:Int->Option (Nat×Nat×List (List Int))) (x0:Int):Option (Nat×Nat×List (List Int)):=
 br (x0==1)
 (some (1,1,[[0,-1]]))
 (br (x0==3)
 (some (2,2,[[-1,-2],[1,-2]]))
 (br (x0==4)
 (some (5,5,[[-1,-1],[0,-1],[1,-1],[-1,1],[1,1]]))
 (br (x0==5)
 (some (6,6,[[-1,-1],[0,-1],[1,-1],[-1,0],[1,0],[0,1]]))
 (br (x0==9)
 (some (6,6,[[-1,-1],[0,-1],[1,-1],[-1,0],[1,0],[0,1]]))
 (br (x0==10)
 (some (6,6,[[-1,-1],[0,-1],[1,-1],[-1,0],[1,0],[0,1]]))
 (br (x0==11)
 (some (6,6,[[-1,-1],[0,-1],[1,-1],[-1,0],[1,0],[0,1]]))
 (br (x0==12)
 (some (6,6,[[-1,-1],[0,-1],[1,-1],[-1,0],[1,0],[0,1]]))
 (br (x0==8)
 (ob (self 5) fun (a1_0,_,a1_2)=>
 br (decide ((a1_0+2)*16<=140737488355328))
 (some (a1_0+2,a1_0+2,List.append (List.take a1_0 a1_2) [[-1,1],[1,1]]))
 (none))
 (br (x0==14)
 (some (4,4,[[0,-1],[-1,0],[1,0],[0,1]]))
 (br (x0==15)
 (some (4,4,[[-1,-1],[1,-1],[-1,1],[1,1]]))
 (some (0,0,[]))))))))))))
def qGt:Nat->Int->Option (Nat×Nat×List (List Int))
 | 0,_=>none
 | f+1,x0=>qtU (qGt f) x0
def qFv (x0 x1 x2:Int):Option (Int×Int):=
 br (x2==1)
 (some (IntKind.wrap .i64 (0 - x0),IntKind.wrap .i64 (0 - x1)))
 (some (x0,x1))
def qGl (x0:Int):Option (Int):=
 some (IntKind.wrap .i64 (Int.tdiv x0 9))
def qGs (x0 x1 x2:Int):Option (Int):=
 br (decide (x2<0))
 (some (-1))
 (br (decide (x2 >= 81))
 (some (-1))
 (br (decide (x0 < -8))
 (some (-1))
 (br (decide (x0>8))
 (some (-1))
 (br (decide (x1 < -8))
 (some (-1))
 (br (decide (x1>8))
 (some (-1))
 (ob (qGl x2) fun a3=>
 ob (qFs x2) fun a4=>
 ob (qCe (IntKind.wrap .i64 (a3+x0)) (IntKind.wrap .i64 (a4+x1))) fun a5=>
 some (a5)))))))
def qIf (rec:Int->Int->Nat->Int->Int->Int->Int->Int->Int->Nat->List (List Int)->Option (Int×Int×Int×Int)) (x0 x1:Int) (x2:Nat) (x3 x4:Int) (x5 x6:Int) (x7 x8:Int) (x9:Nat) (x10:List (List Int)):Option (Int×Int×Int×Int):=
 br (decide (x4<x3))
 (br (inB x4 x2)
 (ob (qAQ x0) fun a17=>
 ob (qFv (List.headD (List.take 2 (List.getD x10 (Int.toNat x4) [])) 0) (List.headD (List.tail (List.take 2 (List.getD x10 (Int.toNat x4) []))) 0) a17) fun (a18_0,a18_1)=>
 ob (qGs a18_0 a18_1 x1) fun a20=>
 ob (qBA x7 x8 a20) fun (a21_0,a21_1)=>
 rec x0 x1 x2 x3 (IntKind.wrap .i64 (x4+1)) x5 x6 a21_0 a21_1 x9 x10)
 (none))
 (some (x5,x6,x7,x8))
def qFx:Nat->Int->Int->Nat->Int->Int->Int->Int->Int->Int->Nat->List (List Int)->Option (Int×Int×Int×Int)
 | 0,_,_,_,_,_,_,_,_,_,_,_=>none
 | f+1,x0,x1,x2,x3,x4,x5,x6,x7,x8,x9,x10=>qIf (qFx f) x0 x1 x2 x3 x4 x5 x6 x7 x8 x9 x10
def qJ2 (x0 x1:Int):Option (Int×Int):=
 ob (qAD x0) fun a2=>
 ob (qGt qB a2) fun (a3_0,a3_1,a3_2)=>
 ob (qFx qB x0 x1 a3_0 (Int.ofNat a3_0) 0 0 0 0 0 a3_1 a3_2) fun (_,_,a6_2,a6_3)=>
 some (a6_2,a6_3)
def qGX (x0:Int):Option (Nat×Nat×List (List Int)):=
 br (x0==2)
 (some (1,1,[[0,-1]]))
 (br (x0==6)
 (some (4,4,[[-1,-1],[1,-1],[-1,1],[1,1]]))
 (br (x0==14)
 (some (4,4,[[-1,-1],[1,-1],[-1,1],[1,1]]))
 (br (x0==7)
 (some (4,4,[[0,-1],[-1,0],[1,0],[0,1]]))
 (br (x0==15)
 (some (4,4,[[0,-1],[-1,0],[1,0],[0,1]]))
 (some (0,0,[]))))))
def qH6 (rec:Int->Int->Int->Int->Int->Int->Int->Int->Int->Option (Int×Int×Int×Int)) (x0 x1:Int) (x2 x3:Int) (x4 x5:Int) (x6 x7 x8:Int):Option (Int×Int×Int×Int):=
 br (decide (x0 >= 0))
 (ob (qBA x7 x8 x0) fun (a15_0,a15_1)=>
 ob (qCK x3 x4 x0) fun a17=>
 br (a17)
 (some (x5,x6,a15_0,a15_1))
 (ob (qGs x1 x2 x0) fun a18=>
 rec a18 x1 x2 x3 x4 x5 x6 a15_0 a15_1))
 (some (x5,x6,x7,x8))
def qGY:Nat->Int->Int->Int->Int->Int->Int->Int->Int->Int->Option (Int×Int×Int×Int)
 | 0,_,_,_,_,_,_,_,_,_=>none
 | f+1,x0,x1,x2,x3,x4,x5,x6,x7,x8=>qH6 (qGY f) x0 x1 x2 x3 x4 x5 x6 x7 x8
def qH5 (x0 x1:Int) (x2 x3 x4:Int):Option (Int×Int):=
 br (x1==0&&x2==0)
 (some (0,0))
 (ob (qGs x1 x2 x0) fun a5=>
 ob (qGY qB a5 x1 x2 x3 x4 0 0 0 0) fun (_,_,a6_2,a6_3)=>
 some (a6_2,a6_3))
def qH4 (rec:Int->Int->Nat->Int->Int->Int->Int->Int->Int->Int->Int->Nat->List (List Int)->Option (Int×Int×Int×Int)) (x0 x1:Int) (x2:Nat) (x3 x4:Int) (x5 x6:Int) (x7 x8:Int) (x9 x10:Int) (x11:Nat) (x12:List (List Int)):Option (Int×Int×Int×Int):=
 br (decide (x4<x3))
 (br (inB x4 x2)
 (ob (qAQ x0) fun a23=>
 ob (qFv (List.headD (List.take 2 (List.getD x12 (Int.toNat x4) [])) 0) (List.headD (List.tail (List.take 2 (List.getD x12 (Int.toNat x4) []))) 0) a23) fun (a24_0,a24_1)=>
 ob (qH5 x1 a24_0 a24_1 x5 x6) fun (a26_0,a26_1)=>
 ob (qD9 x9 x10 a26_0 a26_1) fun (a28_0,a28_1)=>
 rec x0 x1 x2 x3 (IntKind.wrap .i64 (x4+1)) x5 x6 x7 x8 a28_0 a28_1 x11 x12)
 (none))
 (some (x7,x8,x9,x10))
def qFY:Nat->Int->Int->Nat->Int->Int->Int->Int->Int->Int->Int->Int->Nat->List (List Int)->Option (Int×Int×Int×Int)
 | 0,_,_,_,_,_,_,_,_,_,_,_,_,_=>none
 | f+1,x0,x1,x2,x3,x4,x5,x6,x7,x8,x9,x10,x11,x12=>qH4 (qFY f) x0 x1 x2 x3 x4 x5 x6 x7 x8 x9 x10 x11 x12
def qFX (x0 x1:Int) (x2 x3:Int):Option (Int×Int):=
 ob (qJ2 x0 x1) fun (a4_0,a4_1)=>
 ob (qAD x0) fun a6=>
 ob (qGX a6) fun (a7_0,a7_1,a7_2)=>
 ob (qFY qB x0 x1 a7_0 (Int.ofNat a7_0) 0 x2 x3 0 0 a4_0 a4_1 a7_1 a7_2) fun (_,_,a10_2,a10_3)=>
 some (a10_2,a10_3)
def qeu (rec:Int->Int->Int->Int->Int->Int->Option (Int×Int×Int×Int)) (x0 x1:Int) (x2 x3:Int) (x4 x5:Int):Option (Int×Int×Int×Int):=
 br (decide (x1<81))
 (ob (qFw x0 x1) fun a7=>
 br (decide (a7 >= 0))
 (br (decide (a7<=2))
 (ob (qBA x4 x5 x1) fun (a8_0,a8_1)=>
 rec x0 (IntKind.wrap .i64 (x1+1)) x2 x3 a8_0 a8_1)
 (rec x0 (IntKind.wrap .i64 (x1+1)) x2 x3 x4 x5))
 (rec x0 (IntKind.wrap .i64 (x1+1)) x2 x3 x4 x5))
 (some (x2,x3,x4,x5))
def qMv:Nat->Int->Int->Int->Int->Int->Int->Option (Int×Int×Int×Int)
 | 0,_,_,_,_,_,_=>none
 | f+1,x0,x1,x2,x3,x4,x5=>qeu (qMv f) x0 x1 x2 x3 x4 x5
def qJ3 (x0:Int):Option (Int×Int):=
 ob (qMv qB x0 0 0 0 0 0) fun (_,_,a1_2,a1_3)=>
 some (a1_2,a1_3)
def qJM (x0 x1 x2:Int):Option (Bool×Bool):=
 ob (qAD x0) fun a3=>
 ob (qC0 a3) fun a4=>
 br (a4==0)
 (some (false,false))
 (ob (qAQ x0) fun a5=>
 ob (qJ3 a5) fun (a6_0,a6_1)=>
 ob (qCK a6_0 a6_1 x1) fun a8=>
 br (a8)
 (ob (qEC x0 x2) fun a9=>
 some (true,a9))
 (ob (qCK a6_0 a6_1 x2) fun a9=>
 ob (qEC x0 x2) fun a10=>
 some (a9,a10)))
def qHT (rec:Nat->Int->Int->Int->Nat->Int->Int->Nat->Int->Int->List Int->List Int->Int->List (List Int)->List (List Int)->Int->Int->Nat->List (List Int)->Int->Int->Nat->List Int->Nat->List Int->Option (Nat×Int×Nat×Int×Int×List Int×List Int×Int×List (List Int)×List (List Int)×Int×Int×Nat×List (List Int)×Int×Int×Nat×List Int)) (x0:Nat) (x1 x2 x3:Int) (x4:Nat) (x5 x6:Int) (x7:Nat) (x8 x9:Int) (x10 x11:List Int) (x12:Int) (x13 x14:List (List Int)) (x15 x16:Int) (x17:Nat) (x18:List (List Int)) (x19 x20:Int) (x21:Nat) (x22:List Int) (x23:Nat) (x24:List Int):Option (Nat×Int×Nat×Int×Int×List Int×List Int×Int×List (List Int)×List (List Int)×Int×Int×Nat×List (List Int)×Int×Int×Nat×List Int):=
 br (decide (x9<x8))
 (br (inB x9 x7)
 (ob (qJM x3 x2 (List.getD x24 (Int.toNat x9) 0)) fun (a77_0,a77_1)=>
 br (!a77_1)
 (br (decide ((x0+1)*32<=140737488355328))
 (br (a77_0)
 (br (decide ((x0+1+1)*32<=140737488355328))
 (rec (x0+1+1) x1 x2 x3 x4 x5 x6 x7 x8 (IntKind.wrap .i64 (x9+1)) x10 x11 x12 x13 x14 x15 x16 (x0+1+1) (List.append (List.take (x0+1) (List.append (List.take x0 x18) [[x2,List.getD x24 (Int.toNat x9) 0,0,0]])) [[x2,List.getD x24 (Int.toNat x9) 0,0,1]]) x19 x20 x21 x22 x23 x24)
 (none))
 (rec (x0+1) x1 x2 x3 x4 x5 x6 x7 x8 (IntKind.wrap .i64 (x9+1)) x10 x11 x12 x13 x14 x15 x16 (x0+1) (List.append (List.take x0 x18) [[x2,List.getD x24 (Int.toNat x9) 0,0,0]]) x19 x20 x21 x22 x23 x24))
 (none))
 (br (a77_0)
 (br (decide ((x0+1)*32<=140737488355328))
 (rec (x0+1) x1 x2 x3 x4 x5 x6 x7 x8 (IntKind.wrap .i64 (x9+1)) x10 x11 x12 x13 x14 x15 x16 (x0+1) (List.append (List.take x0 x18) [[x2,List.getD x24 (Int.toNat x9) 0,0,1]]) x19 x20 x21 x22 x23 x24)
 (none))
 (rec x0 x1 x2 x3 x4 x5 x6 x7 x8 (IntKind.wrap .i64 (x9+1)) x10 x11 x12 x13 x14 x15 x16 x17 x18 x19 x20 x21 x22 x23 x24)))
 (none))
 (some (x0,x1,x4,x5,x6,x10,x11,x12,x13,x14,x15,x16,x17,x18,x19,x20,x21,x22))
def qFC:Nat->Nat->Int->Int->Int->Nat->Int->Int->Nat->Int->Int->List Int->List Int->Int->List (List Int)->List (List Int)->Int->Int->Nat->List (List Int)->Int->Int->Nat->List Int->Nat->List Int->Option (Nat×Int×Nat×Int×Int×List Int×List Int×Int×List (List Int)×List (List Int)×Int×Int×Nat×List (List Int)×Int×Int×Nat×List Int)
 | 0,_,_,_,_,_,_,_,_,_,_,_,_,_,_,_,_,_,_,_,_,_,_,_,_,_=>none
 | f+1,x0,x1,x2,x3,x4,x5,x6,x7,x8,x9,x10,x11,x12,x13,x14,x15,x16,x17,x18,x19,x20,x21,x22,x23,x24=>qHT (qFC f) x0 x1 x2 x3 x4 x5 x6 x7 x8 x9 x10 x11 x12 x13 x14 x15 x16 x17 x18 x19 x20 x21 x22 x23 x24
def qHS (rec:Nat->Int->Nat->Int->Int->List Int->List Int->Int->List (List Int)->List (List Int)->Int->Int->Nat->List (List Int)->Int->Int->Nat->List Int->Option (Nat×List Int×List Int×Int×List (List Int)×List (List Int)×Nat×List (List Int))) (x0:Nat) (x1:Int) (x2:Nat) (x3 x4:Int) (x5 x6:List Int) (x7:Int) (x8 x9:List (List Int)) (x10 x11:Int) (x12:Nat) (x13:List (List Int)) (x14 x15:Int) (x16:Nat) (x17:List Int):Option (Nat×List Int×List Int×Int×List (List Int)×List (List Int)×Nat×List (List Int)):=
 br (decide (x4<x3))
 (br (inB x4 x2)
 (ob (qAf (List.getD x17 (Int.toNat x4) 0) x5 x6 x7 x8 x9) fun a36=>
 ob (qC9 x5 x6 x7 x8 x9) fun (a37_0,a37_1)=>
 ob (qFX a36 (List.getD x17 (Int.toNat x4) 0) a37_0 a37_1) fun (a39_0,a39_1)=>
 ob (qF9 x1 x5 x6 x7 x8 x9) fun (a41_0,a41_1)=>
 ob (qFq a39_0 a39_1 a41_0 a41_1) fun (a43_0,a43_1)=>
 ob (qFq a43_0 a43_1 x14 x15) fun (a45_0,a45_1)=>
 ob (qC2 a45_0 a45_1 x10 x11) fun (a47_0,a47_1)=>
 ob (qEi a47_0 a47_1) fun (a49_0,a49_1,a49_2)=>
 ob (qFC qB x0 x1 (List.getD x17 (Int.toNat x4) 0) a36 x2 x3 x4 a49_0 (Int.ofNat a49_0) 0 x5 x6 x7 x8 x9 x10 x11 x12 x13 x14 x15 x16 x17 a49_1 a49_2) fun (a52_0,a52_1,a52_2,a52_3,a52_4,a52_5,a52_6,a52_7,a52_8,a52_9,a52_10,a52_11,a52_12,a52_13,a52_14,a52_15,a52_16,a52_17)=>
 rec a52_0 a52_1 a52_2 a52_3 (IntKind.wrap .i64 (a52_4+1)) a52_5 a52_6 a52_7 a52_8 a52_9 a52_10 a52_11 a52_12 a52_13 a52_14 a52_15 a52_16 a52_17)
 (none))
 (some (x0,x5,x6,x7,x8,x9,x12,x13))
def qFB:Nat->Nat->Int->Nat->Int->Int->List Int->List Int->Int->List (List Int)->List (List Int)->Int->Int->Nat->List (List Int)->Int->Int->Nat->List Int->Option (Nat×List Int×List Int×Int×List (List Int)×List (List Int)×Nat×List (List Int))
 | 0,_,_,_,_,_,_,_,_,_,_,_,_,_,_,_,_,_,_=>none
 | f+1,x0,x1,x2,x3,x4,x5,x6,x7,x8,x9,x10,x11,x12,x13,x14,x15,x16,x17=>qHS (qFB f) x0 x1 x2 x3 x4 x5 x6 x7 x8 x9 x10 x11 x12 x13 x14 x15 x16 x17
def qHQ (x0 x1:Int) (x2 x3:List Int) (x4:Int) (x5 x6:List (List Int)):Option (Nat×Nat×List (List Int)):=
 ob (qC8 0 8 x2 x3 x4 x5 x6) fun (a7_0,a7_1)=>
 ob (qC8 1 8 x2 x3 x4 x5 x6) fun (a9_0,a9_1)=>
 ob (qD9 a7_0 a7_1 a9_0 a9_1) fun (a11_0,a11_1)=>
 ob (qF9 x4 x2 x3 x4 x5 x6) fun (a13_0,a13_1)=>
 ob (qEi a13_0 a13_1) fun (a15_0,a15_1,a15_2)=>
 ob (qFB qB 0 x4 a15_0 (Int.ofNat a15_0) 0 x2 x3 x4 x5 x6 x0 x1 0 [] a11_0 a11_1 a15_1 a15_2) fun (a18_0,_,_,_,_,_,a18_6,a18_7)=>
 some (a18_0,a18_6,a18_7)
def qJx (x0 x1:Int):Option (Int×Int):=
 ob (qGi ) fun (a2_0,a2_1)=>
 ob (qFq a2_0 a2_1 x0 x1) fun (a4_0,a4_1)=>
 some (a4_0,a4_1)
def qHX (rec:Int->Int->Int->Nat->Int->Int->List Int->List Int->Int->List (List Int)->List (List Int)->Int->Int->Int->Int->Nat->List Int->Option (List Int×List Int×Int×List (List Int)×List (List Int)×Int×Int×Int×Int)) (x0 x1 x2:Int) (x3:Nat) (x4 x5:Int) (x6 x7:List Int) (x8:Int) (x9 x10:List (List Int)) (x11 x12:Int) (x13 x14:Int) (x15:Nat) (x16:List Int):Option (List Int×List Int×Int×List (List Int)×List (List Int)×Int×Int×Int×Int):=
 br (decide (x5<x4))
 (br (inB x5 x3)
 (ob (qEC x2 (List.getD x16 (Int.toNat x5) 0)) fun a32=>
 br (a32)
 (rec x0 x1 x2 x3 x4 (IntKind.wrap .i64 (x5+1)) x6 x7 x8 x9 x10 x11 x12 x13 x14 x15 x16)
 (br (x1==1)
 (ob (qC8 x0 1 x6 x7 x8 x9 x10) fun (a33_0,a33_1)=>
 ob (qGl (List.getD x16 (Int.toNat x5) 0)) fun a35=>
 ob (qIW a35) fun (a36_0,a36_1)=>
 ob (qC2 a33_0 a33_1 a36_0 a36_1) fun (a38_0,a38_1)=>
 ob (qEh a38_0 a38_1) fun a40=>
 br (!a40)
 (rec x0 x1 x2 x3 x4 (IntKind.wrap .i64 (x5+1)) x6 x7 x8 x9 x10 x11 x12 x13 x14 x15 x16)
 (ob (qBA x13 x14 (List.getD x16 (Int.toNat x5) 0)) fun (a41_0,a41_1)=>
 rec x0 x1 x2 x3 x4 (IntKind.wrap .i64 (x5+1)) x6 x7 x8 x9 x10 x11 x12 a41_0 a41_1 x15 x16))
 (ob (qBA x13 x14 (List.getD x16 (Int.toNat x5) 0)) fun (a33_0,a33_1)=>
 rec x0 x1 x2 x3 x4 (IntKind.wrap .i64 (x5+1)) x6 x7 x8 x9 x10 x11 x12 a33_0 a33_1 x15 x16)))
 (none))
 (some (x6,x7,x8,x9,x10,x11,x12,x13,x14))
def qDg:Nat->Int->Int->Int->Nat->Int->Int->List Int->List Int->Int->List (List Int)->List (List Int)->Int->Int->Int->Int->Nat->List Int->Option (List Int×List Int×Int×List (List Int)×List (List Int)×Int×Int×Int×Int)
 | 0,_,_,_,_,_,_,_,_,_,_,_,_,_,_,_,_,_=>none
 | f+1,x0,x1,x2,x3,x4,x5,x6,x7,x8,x9,x10,x11,x12,x13,x14,x15,x16=>qHX (qDg f) x0 x1 x2 x3 x4 x5 x6 x7 x8 x9 x10 x11 x12 x13 x14 x15 x16
def qJL (x0 x1:Int) (x2 x3:List Int) (x4:Int) (x5 x6:List (List Int)):Option (Int×Int):=
 ob (qAi x0 x1) fun a7=>
 br (a7==0)
 (some (0,0))
 (br (decide (x1 >= 8))
 (some (0,0))
 (ob (qC9 x2 x3 x4 x5 x6) fun (a8_0,a8_1)=>
 ob (qJx a8_0 a8_1) fun (a10_0,a10_1)=>
 ob (qEi a10_0 a10_1) fun (a12_0,a12_1,a12_2)=>
 ob (qDg qB x0 x1 a7 a12_0 (Int.ofNat a12_0) 0 x2 x3 x4 x5 x6 0 0 0 0 a12_1 a12_2) fun (_,_,_,_,_,_,_,a15_7,a15_8)=>
 some (a15_7,a15_8)))
def qHW (rec:Nat->Int->Int->Nat->Int->Int->List Int->List Int->Int->List (List Int)->List (List Int)->Int->Int->Nat->List (List Int)->Nat->List Int->Option (Nat×Int×Int×List Int×List Int×Int×List (List Int)×List (List Int)×Int×Int×Nat×List (List Int))) (x0:Nat) (x1 x2:Int) (x3:Nat) (x4 x5:Int) (x6 x7:List Int) (x8:Int) (x9 x10:List (List Int)) (x11 x12:Int) (x13:Nat) (x14:List (List Int)) (x15:Nat) (x16:List Int):Option (Nat×Int×Int×List Int×List Int×Int×List (List Int)×List (List Int)×Int×Int×Nat×List (List Int)):=
 br (decide (x5<x4))
 (br (inB x5 x3)
 (br (decide ((x0+1)*32<=140737488355328))
 (rec (x0+1) x1 x2 x3 x4 (IntKind.wrap .i64 (x5+1)) x6 x7 x8 x9 x10 x11 x12 (x0+1) (List.append (List.take x0 x14) [[0,List.getD x16 (Int.toNat x5) 0,x2,0]]) x15 x16)
 (none))
 (none))
 (some (x0,x1,x2,x6,x7,x8,x9,x10,x11,x12,x13,x14))
def qFE:Nat->Nat->Int->Int->Nat->Int->Int->List Int->List Int->Int->List (List Int)->List (List Int)->Int->Int->Nat->List (List Int)->Nat->List Int->Option (Nat×Int×Int×List Int×List Int×Int×List (List Int)×List (List Int)×Int×Int×Nat×List (List Int))
 | 0,_,_,_,_,_,_,_,_,_,_,_,_,_,_,_,_,_=>none
 | f+1,x0,x1,x2,x3,x4,x5,x6,x7,x8,x9,x10,x11,x12,x13,x14,x15,x16=>qHW (qFE f) x0 x1 x2 x3 x4 x5 x6 x7 x8 x9 x10 x11 x12 x13 x14 x15 x16
def qHV (rec:Nat->Int->Int->List Int->List Int->Int->List (List Int)->List (List Int)->Int->Int->Nat->List (List Int)->Option (Nat×List Int×List Int×Int×List (List Int)×List (List Int)×Nat×List (List Int))) (x0:Nat) (x1 x2:Int) (x3 x4:List Int) (x5:Int) (x6 x7:List (List Int)) (x8 x9:Int) (x10:Nat) (x11:List (List Int)):Option (Nat×List Int×List Int×Int×List (List Int)×List (List Int)×Nat×List (List Int)):=
 br (decide (x2<8))
 (ob (qCk x1 x2 x3 x4 x5 x6 x7) fun a19=>
 br (decide (a19<1))
 (rec x0 x1 (IntKind.wrap .i64 (x2+1)) x3 x4 x5 x6 x7 x8 x9 x10 x11)
 (ob (qJL x1 x2 x3 x4 x5 x6 x7) fun (a20_0,a20_1)=>
 ob (qC2 a20_0 a20_1 x8 x9) fun (a22_0,a22_1)=>
 ob (qEi a22_0 a22_1) fun (a24_0,a24_1,a24_2)=>
 ob (qFE qB x0 x1 x2 a24_0 (Int.ofNat a24_0) 0 x3 x4 x5 x6 x7 x8 x9 x10 x11 a24_1 a24_2) fun (a27_0,a27_1,a27_2,a27_3,a27_4,a27_5,a27_6,a27_7,a27_8,a27_9,a27_10,a27_11)=>
 rec a27_0 a27_1 (IntKind.wrap .i64 (a27_2+1)) a27_3 a27_4 a27_5 a27_6 a27_7 a27_8 a27_9 a27_10 a27_11))
 (some (x0,x3,x4,x5,x6,x7,x10,x11))
def qFD:Nat->Nat->Int->Int->List Int->List Int->Int->List (List Int)->List (List Int)->Int->Int->Nat->List (List Int)->Option (Nat×List Int×List Int×Int×List (List Int)×List (List Int)×Nat×List (List Int))
 | 0,_,_,_,_,_,_,_,_,_,_,_,_=>none
 | f+1,x0,x1,x2,x3,x4,x5,x6,x7,x8,x9,x10,x11=>qHV (qFD f) x0 x1 x2 x3 x4 x5 x6 x7 x8 x9 x10 x11
def qJK (x0 x1:Int) (x2 x3:List Int) (x4:Int) (x5 x6:List (List Int)):Option (Nat×Nat×List (List Int)):=
 ob (qFD qB 0 x4 1 x2 x3 x4 x5 x6 x0 x1 0 []) fun (a7_0,_,_,_,_,_,a7_6,a7_7)=>
 some (a7_0,a7_6,a7_7)
def qEb (x0:Int):Option (Int):=
 br (decide (x0 >= 1))
 (br (decide (x0<=7))
 (br (x0 != 5)
 (some (IntKind.wrap .i64 (x0+8)))
 (some (0)))
 (some (0)))
 (some (0))
def qJm (x0 x1 x2:Int):Option (Bool):=
 ob (qAS x0) fun a3=>
 ob (qEb a3) fun a4=>
 br (a4==0)
 (some (false))
 (ob (qA9 x0) fun a5=>
 ob (qDK a5 x1) fun a6=>
 ob (qA9 x0) fun a7=>
 ob (qDK a7 x2) fun a8=>
 br (decide (a6 >= 0))
 (br (decide (a6<=2))
 (some (true))
 (br (decide (a8 >= 0))
 (some (decide (a8<=2)))
 (some (false))))
 (br (decide (a8 >= 0))
 (some (decide (a8<=2)))
 (some (false))))
def qJn (x0 x1:Int):Option (Bool):=
 ob (qAS x0) fun a2=>
 ob (qEb a2) fun a3=>
 br (a3 != 0)
 (ob (qDJ x0 x1) fun a4=>
 some (a4))
 (some (false))
def qJh (x0 x1 x2:Int) (x3:Bool):Option (Int):=
 br (decide (x1<0))
 (some (1))
 (br (decide (x1>80))
 (some (1))
 (br (x2 != 0)
 (br (decide (x2<1))
 (some (70))
 (br (decide (x2>7))
 (some (70))
 (br (x0 != 0)
 (some (70))
 (br (x3)
 (some (70))
 (some (0))))))
 (br (decide (x0<0))
 (some (1))
 (br (decide (x0>80))
 (some (1))
 (br (x0==x1)
 (some (70))
 (some (0)))))))
def qJk (x0 x1:List Int) (x2 x3:Int) (x4 x5:Int) (x6:Bool):Option (Bool):=
 ob (qJh x3 x4 x5 x6) fun a7=>
 br (a7 != 0)
 (some (false))
 (br (x2 != 0)
 (br (x2 != 1)
 (some (false))
 (br (inB x4 81)
 (br (x5 != 0)
 (br (inB x2 2)
 (br (inB x5 8)
 (br (decide (List.getD x1 (Int.toNat x2*8+Int.toNat x5) 0>0))
 (some (conv .i8 .i64 (List.getD x0 (Int.toNat x4) 0)==0))
 (some (false)))
 (none))
 (none))
 (br (inB x3 81)
 (ob (qA9 (conv .i8 .i64 (List.getD x0 (Int.toNat x3) 0))) fun a8=>
 br (a8 != x2)
 (some (false))
 (ob (qA9 (conv .i8 .i64 (List.getD x0 (Int.toNat x4) 0))) fun a9=>
 br (a9==x2)
 (some (false))
 (ob (qAS (conv .i8 .i64 (List.getD x0 (Int.toNat x4) 0))) fun a10=>
 br (a10==8)
 (some (false))
 (br (!x6)
 (some (true))
 (ob (qAS (conv .i8 .i64 (List.getD x0 (Int.toNat x3) 0))) fun a11=>
 ob (qEb a11) fun a12=>
 some (a12 != 0))))))
 (none)))
 (none)))
 (br (inB x4 81)
 (br (x5 != 0)
 (br (inB x2 2)
 (br (inB x5 8)
 (br (decide (List.getD x1 (Int.toNat x2*8+Int.toNat x5) 0>0))
 (some (conv .i8 .i64 (List.getD x0 (Int.toNat x4) 0)==0))
 (some (false)))
 (none))
 (none))
 (br (inB x3 81)
 (ob (qA9 (conv .i8 .i64 (List.getD x0 (Int.toNat x3) 0))) fun a8=>
 br (a8 != x2)
 (some (false))
 (ob (qA9 (conv .i8 .i64 (List.getD x0 (Int.toNat x4) 0))) fun a9=>
 br (a9==x2)
 (some (false))
 (ob (qAS (conv .i8 .i64 (List.getD x0 (Int.toNat x4) 0))) fun a10=>
 br (a10==8)
 (some (false))
 (br (!x6)
 (some (true))
 (ob (qAS (conv .i8 .i64 (List.getD x0 (Int.toNat x3) 0))) fun a11=>
 ob (qEb a11) fun a12=>
 some (a12 != 0))))))
 (none)))
 (none)))
def qID (rec:Int->List Int->List Int->Int->List Bool->List Bool->Option (List Bool×List Bool)) (x0:Int) (x1 x2:List Int) (x3:Int) (x4 x5:List Bool):Option (List Bool×List Bool):=
 br (decide (x0<81))
 (br (inB x0 81)
 (br (inB x0 81)
 (rec (IntKind.wrap .i64 (x0+1)) x1 x2 x3 x4 (List.set x5 (Int.toNat x0) (List.getD x1 (Int.toNat x0) 0 != 0)))
 (none))
 (none))
 (some (x4,x5))
def qEd:Nat->Int->List Int->List Int->Int->List Bool->List Bool->Option (List Bool×List Bool)
 | 0,_,_,_,_,_,_=>none
 | f+1,x0,x1,x2,x3,x4,x5=>qID (qEd f) x0 x1 x2 x3 x4 x5
def qEc (x0 x1:List Int) (x2:Int):Option (List Bool):=
 ob (qEd qB 0 x0 x1 x2 ([false,false,false,false,false,false,false,false,false,false,false,false,false,false,false,false,false,false,false,false,false,false,false,false,false,false,false,false,false,false,false,false,false,false,false,false,false,false,false,false,false,false,false,false,false,false,false,false,false,false,false,false,false,false,false,false,false,false,false,false,false,false,false,false,false,false,false,false,false,false,false,false,false,false,false,false,false,false,false,false,false]) ([false,false,false,false,false,false,false,false,false,false,false,false,false,false,false,false,false,false,false,false,false,false,false,false,false,false,false,false,false,false,false,false,false,false,false,false,false,false,false,false,false,false,false,false,false,false,false,false,false,false,false,false,false,false,false,false,false,false,false,false,false,false,false,false,false,false,false,false,false,false,false,false,false,false,false,false,false,false,false,false,false])) fun (_,a3_1)=>
 some (a3_1)
def qFa (x0:Int):Option (Int):=
 br (decide (x0<0))
 (some (IntKind.wrap .i64 (0 - x0)))
 (some (x0))
def qJe (x0 x1 x2:Int):Option (Bool):=
 br (decide (x1<0))
 (some (false))
 (br (decide (x1>80))
 (some (false))
 (br (decide (x2<0))
 (some (false))
 (br (decide (x2>80))
 (some (false))
 (br (x1==x2)
 (some (false))
 (ob (qFa (IntKind.wrap .i64 (IntKind.wrap .i64 (Int.tdiv x2 9) - IntKind.wrap .i64 (Int.tdiv x1 9)))) fun a3=>
 ob (qA9 x0) fun a4=>
 br (a4==1)
 (br (decide (a3<=1))
 (ob (qFa (IntKind.wrap .i64 (0 - IntKind.wrap .i64 (Int.tmod x1 9 - Int.tmod x2 9)))) fun a5=>
 ob (qAS x0) fun a6=>
 br (a6==1)
 (br (a3==0)
 (some (IntKind.wrap .i64 (0 - IntKind.wrap .i64 (Int.tmod x1 9 - Int.tmod x2 9))==1))
 (some (false)))
 (br (a6==3)
 (br (a3==1)
 (some (IntKind.wrap .i64 (0 - IntKind.wrap .i64 (Int.tmod x1 9 - Int.tmod x2 9))==2))
 (some (false)))
 (br (a6==4)
 (br (decide (a5<=1))
 (br (IntKind.wrap .i64 (0 - IntKind.wrap .i64 (Int.tmod x1 9 - Int.tmod x2 9))==1)
 (some (true))
 (br (a3==1)
 (some (IntKind.wrap .i64 (0 - IntKind.wrap .i64 (Int.tmod x1 9 - Int.tmod x2 9)) == -1))
 (some (false))))
 (some (false)))
 (br (a6==5)
 (br (decide (a5<=1))
 (br (decide (IntKind.wrap .i64 (0 - IntKind.wrap .i64 (Int.tmod x1 9 - Int.tmod x2 9)) >= 0))
 (some (true))
 (some (a3==0)))
 (some (false)))
 (br (a6==9)
 (br (decide (a5<=1))
 (br (decide (IntKind.wrap .i64 (0 - IntKind.wrap .i64 (Int.tmod x1 9 - Int.tmod x2 9)) >= 0))
 (some (true))
 (some (a3==0)))
 (some (false)))
 (br (a6==10)
 (br (decide (a5<=1))
 (br (decide (IntKind.wrap .i64 (0 - IntKind.wrap .i64 (Int.tmod x1 9 - Int.tmod x2 9)) >= 0))
 (some (true))
 (some (a3==0)))
 (some (false)))
 (br (a6==11)
 (br (decide (a5<=1))
 (br (decide (IntKind.wrap .i64 (0 - IntKind.wrap .i64 (Int.tmod x1 9 - Int.tmod x2 9)) >= 0))
 (some (true))
 (some (a3==0)))
 (some (false)))
 (br (a6==12)
 (br (decide (a5<=1))
 (br (decide (IntKind.wrap .i64 (0 - IntKind.wrap .i64 (Int.tmod x1 9 - Int.tmod x2 9)) >= 0))
 (some (true))
 (some (a3==0)))
 (some (false)))
 (br (a6==8)
 (some (decide (a5<=1)))
 (br (a6==14)
 (br (decide (a5<=1))
 (br (a3==0)
 (some (true))
 (some (IntKind.wrap .i64 (0 - IntKind.wrap .i64 (Int.tmod x1 9 - Int.tmod x2 9))==0)))
 (some (false)))
 (br (a6==15)
 (br (decide (a5<=1))
 (br (a3==1)
 (some (IntKind.wrap .i64 (0 - IntKind.wrap .i64 (Int.tmod x1 9 - Int.tmod x2 9)) != 0))
 (some (false)))
 (some (false)))
 (some (false)))))))))))))
 (ob (qAS x0) fun a5=>
 br (a5==1)
 (br (a3==0)
 (some (IntKind.wrap .i64 (0 - IntKind.wrap .i64 (Int.tmod x1 9 - Int.tmod x2 9))==1))
 (some (false)))
 (br (a5==3)
 (br (a3==1)
 (some (IntKind.wrap .i64 (0 - IntKind.wrap .i64 (Int.tmod x1 9 - Int.tmod x2 9))==2))
 (some (false)))
 (br (a5==4)
 (some (false))
 (br (a5==5)
 (some (false))
 (br (a5==9)
 (some (false))
 (br (a5==10)
 (some (false))
 (br (a5==11)
 (some (false))
 (br (a5==12)
 (some (false))
 (br (a5==8)
 (some (false))
 (br (a5==14)
 (some (false))
 (br (a5==15)
 (some (false))
 (some (false))))))))))))))
 (br (decide (a3<=1))
 (ob (qFa (IntKind.wrap .i64 (Int.tmod x1 9 - Int.tmod x2 9))) fun a5=>
 ob (qAS x0) fun a6=>
 br (a6==1)
 (br (a3==0)
 (some (IntKind.wrap .i64 (Int.tmod x1 9 - Int.tmod x2 9)==1))
 (some (false)))
 (br (a6==3)
 (br (a3==1)
 (some (IntKind.wrap .i64 (Int.tmod x1 9 - Int.tmod x2 9)==2))
 (some (false)))
 (br (a6==4)
 (br (decide (a5<=1))
 (br (IntKind.wrap .i64 (Int.tmod x1 9 - Int.tmod x2 9)==1)
 (some (true))
 (br (a3==1)
 (some (IntKind.wrap .i64 (Int.tmod x1 9 - Int.tmod x2 9) == -1))
 (some (false))))
 (some (false)))
 (br (a6==5)
 (br (decide (a5<=1))
 (br (decide (IntKind.wrap .i64 (Int.tmod x1 9 - Int.tmod x2 9) >= 0))
 (some (true))
 (some (a3==0)))
 (some (false)))
 (br (a6==9)
 (br (decide (a5<=1))
 (br (decide (IntKind.wrap .i64 (Int.tmod x1 9 - Int.tmod x2 9) >= 0))
 (some (true))
 (some (a3==0)))
 (some (false)))
 (br (a6==10)
 (br (decide (a5<=1))
 (br (decide (IntKind.wrap .i64 (Int.tmod x1 9 - Int.tmod x2 9) >= 0))
 (some (true))
 (some (a3==0)))
 (some (false)))
 (br (a6==11)
 (br (decide (a5<=1))
 (br (decide (IntKind.wrap .i64 (Int.tmod x1 9 - Int.tmod x2 9) >= 0))
 (some (true))
 (some (a3==0)))
 (some (false)))
 (br (a6==12)
 (br (decide (a5<=1))
 (br (decide (IntKind.wrap .i64 (Int.tmod x1 9 - Int.tmod x2 9) >= 0))
 (some (true))
 (some (a3==0)))
 (some (false)))
 (br (a6==8)
 (some (decide (a5<=1)))
 (br (a6==14)
 (br (decide (a5<=1))
 (br (a3==0)
 (some (true))
 (some (IntKind.wrap .i64 (Int.tmod x1 9 - Int.tmod x2 9)==0)))
 (some (false)))
 (br (a6==15)
 (br (decide (a5<=1))
 (br (a3==1)
 (some (IntKind.wrap .i64 (Int.tmod x1 9 - Int.tmod x2 9) != 0))
 (some (false)))
 (some (false)))
 (some (false)))))))))))))
 (ob (qAS x0) fun a5=>
 br (a5==1)
 (br (a3==0)
 (some (IntKind.wrap .i64 (Int.tmod x1 9 - Int.tmod x2 9)==1))
 (some (false)))
 (br (a5==3)
 (br (a3==1)
 (some (IntKind.wrap .i64 (Int.tmod x1 9 - Int.tmod x2 9)==2))
 (some (false)))
 (br (a5==4)
 (some (false))
 (br (a5==5)
 (some (false))
 (br (a5==9)
 (some (false))
 (br (a5==10)
 (some (false))
 (br (a5==11)
 (some (false))
 (br (a5==12)
 (some (false))
 (br (a5==8)
 (some (false))
 (br (a5==14)
 (some (false))
 (br (a5==15)
 (some (false))
 (some (false)))))))))))))))))))
def qIA (x0 x1:Int):Option (Int):=
 br (decide (x0<0))
 (some (0))
 (br (decide (x0>80))
 (some (0))
 (br (decide (x1<0))
 (some (0))
 (br (decide (x1>80))
 (some (0))
 (br (x0==x1)
 (some (0))
 (br (IntKind.wrap .i64 (IntKind.wrap .i64 (Int.tdiv x1 9) - IntKind.wrap .i64 (Int.tdiv x0 9))==0)
 (some (1))
 (br (IntKind.wrap .i64 (Int.tmod x1 9 - Int.tmod x0 9)==0)
 (some (1))
 (br (IntKind.wrap .i64 (IntKind.wrap .i64 (Int.tdiv x1 9) - IntKind.wrap .i64 (Int.tdiv x0 9))==IntKind.wrap .i64 (Int.tmod x1 9 - Int.tmod x0 9))
 (some (2))
 (br (IntKind.wrap .i64 (IntKind.wrap .i64 (Int.tdiv x1 9) - IntKind.wrap .i64 (Int.tdiv x0 9))==IntKind.wrap .i64 (0 - IntKind.wrap .i64 (Int.tmod x1 9 - Int.tmod x0 9)))
 (some (2))
 (some (0))))))))))
def qIB (x0:Int):Option (Int):=
 br (decide (x0<0))
 (some (-1))
 (br (decide (x0>0))
 (some (1))
 (some (0)))
def qH8 (rec:Int->Nat->Int->Int->Nat->List Int->Option (Nat×Nat×List Int)) (x0:Int) (x1:Nat) (x2 x3:Int) (x4:Nat) (x5:List Int):Option (Nat×Nat×List Int):=
 br (x3 != x0)
 (br (decide ((x1+1)*8<=140737488355328))
 (rec x0 (x1+1) x2 (IntKind.wrap .i64 (x3+x2)) (x1+1) (List.append (List.take x1 x5) [x3]))
 (none))
 (some (x1,x4,x5))
def qFb:Nat->Int->Nat->Int->Int->Nat->List Int->Option (Nat×Nat×List Int)
 | 0,_,_,_,_,_,_=>none
 | f+1,x0,x1,x2,x3,x4,x5=>qH8 (qFb f) x0 x1 x2 x3 x4 x5
def qJf (x0 x1:Int):Option (Nat×Nat×List Int):=
 ob (qIA x0 x1) fun a2=>
 br (a2==0)
 (some (0,0,[]))
 (ob (qIB (IntKind.wrap .i64 (IntKind.wrap .i64 (Int.tdiv x1 9) - IntKind.wrap .i64 (Int.tdiv x0 9)))) fun a3=>
 ob (qIB (IntKind.wrap .i64 (Int.tmod x1 9 - Int.tmod x0 9))) fun a4=>
 ob (qFb qB x1 0 (IntKind.wrap .i64 (IntKind.wrap .i64 (9*a3)+a4)) (IntKind.wrap .i64 (x0+IntKind.wrap .i64 (IntKind.wrap .i64 (9*a3)+a4))) 0 []) fun (a5_0,a5_1,a5_2)=>
 some (a5_0,a5_1,a5_2))
def qH9 (rec:Nat->Int->List Bool->Nat->List Int->Option ((Bool)⊕(Unit))) (x0:Nat) (x1:Int) (x2:List Bool) (x3:Nat) (x4:List Int):Option ((Bool)⊕(Unit)):=
 br (decide (x1<Int.ofNat x0))
 (br (inB x1 x0)
 (br (inB (List.getD x4 (Int.toNat x1) 0) 81)
 (br (List.getD x2 (Int.toNat (List.getD x4 (Int.toNat x1) 0)) false)
 (some (.inl (false)))
 (rec x0 (IntKind.wrap .i64 (x1+1)) x2 x3 x4))
 (none))
 (none))
 (some (.inr ()))
def qFc:Nat->Nat->Int->List Bool->Nat->List Int->Option ((Bool)⊕(Unit))
 | 0,_,_,_,_,_=>none
 | f+1,x0,x1,x2,x3,x4=>qH9 (qFc f) x0 x1 x2 x3 x4
def qAr (x0 x1:Int) (x2:List Bool):Option (Bool):=
 ob (qJf x0 x1) fun (a3_0,a3_1,a3_2)=>
 ob (qFc qB a3_0 0 x2 a3_1 a3_2) fun t6_2=>
 sw t6_2 (fun a6=>
 some (a6))
 (fun _=>
 some (true))
def qFd (x0 x1 x2:Int) (x3:List Bool):Option (Bool):=
 ob (qJe x0 x1 x2) fun a4=>
 br (a4)
 (some (true))
 (ob (qIA x1 x2) fun a5=>
 ob (qA9 x0) fun a6=>
 br (a6==1)
 (ob (qAS x0) fun a7=>
 br (a7==2)
 (br (a5==1)
 (br (IntKind.wrap .i64 (Int.tdiv x1 9)==IntKind.wrap .i64 (Int.tdiv x2 9))
 (br (decide (IntKind.wrap .i64 (0 - IntKind.wrap .i64 (Int.tmod x1 9 - Int.tmod x2 9))>0))
 (ob (qAr x1 x2 x3) fun a8=>
 some (a8))
 (some (false)))
 (some (false)))
 (some (false)))
 (br (a7==6)
 (br (a5==2)
 (ob (qAr x1 x2 x3) fun a8=>
 some (a8))
 (some (false)))
 (br (a7==14)
 (br (a5==2)
 (ob (qAr x1 x2 x3) fun a8=>
 some (a8))
 (some (false)))
 (br (a7==7)
 (br (a5==1)
 (ob (qAr x1 x2 x3) fun a8=>
 some (a8))
 (some (false)))
 (br (a7==15)
 (br (a5==1)
 (ob (qAr x1 x2 x3) fun a8=>
 some (a8))
 (some (false)))
 (some (false)))))))
 (ob (qAS x0) fun a7=>
 br (a7==2)
 (br (a5==1)
 (br (IntKind.wrap .i64 (Int.tdiv x1 9)==IntKind.wrap .i64 (Int.tdiv x2 9))
 (br (decide (IntKind.wrap .i64 (Int.tmod x1 9 - Int.tmod x2 9)>0))
 (ob (qAr x1 x2 x3) fun a8=>
 some (a8))
 (some (false)))
 (some (false)))
 (some (false)))
 (br (a7==6)
 (br (a5==2)
 (ob (qAr x1 x2 x3) fun a8=>
 some (a8))
 (some (false)))
 (br (a7==14)
 (br (a5==2)
 (ob (qAr x1 x2 x3) fun a8=>
 some (a8))
 (some (false)))
 (br (a7==7)
 (br (a5==1)
 (ob (qAr x1 x2 x3) fun a8=>
 some (a8))
 (some (false)))
 (br (a7==15)
 (br (a5==1)
 (ob (qAr x1 x2 x3) fun a8=>
 some (a8))
 (some (false)))
 (some (false))))))))
def qEe (x0 x1:List Int) (x2 x3:Int) (x4 x5:Int) (x6:Bool):Option (Bool):=
 ob (qJk x0 x1 x2 x3 x4 x5 x6) fun a7=>
 br (!a7)
 (some (false))
 (br (x5 != 0)
 (ob (qDJ (IntKind.wrap .i64 (IntKind.wrap .i64 (16*x2)+x5)) x4) fun a8=>
 br (!a8)
 (br (x5 != 1)
 (some (true))
 (ob (qD0 x0 x1 x2 (IntKind.wrap .i64 (IntKind.wrap .i64 (16*x2)+x5)) (IntKind.wrap .i64 (Int.tdiv x4 9))) fun a9=>
 some (a9==0)))
 (some (false)))
 (br (inB x3 81)
 (ob (qEc x0 x1 x2) fun a8=>
 ob (qFd (conv .i8 .i64 (List.getD x0 (Int.toNat x3) 0)) x3 x4 a8) fun a9=>
 br (!a9)
 (some (false))
 (br (x6)
 (ob (qJm (conv .i8 .i64 (List.getD x0 (Int.toNat x3) 0)) x3 x4) fun a10=>
 some (a10))
 (ob (qJn (conv .i8 .i64 (List.getD x0 (Int.toNat x3) 0)) x4) fun a10=>
 some (!a10))))
 (none)))
def qIH (rec:Nat->Int->Int->List Int->List Int->Int->Nat->List (List Int)->List Bool->Option (Nat×Int×List Int×List Int×Int×Nat×List (List Int)×List Bool)) (x0:Nat) (x1 x2:Int) (x3 x4:List Int) (x5:Int) (x6:Nat) (x7:List (List Int)) (x8:List Bool):Option (Nat×Int×List Int×List Int×Int×Nat×List (List Int)×List Bool):=
 br (decide (x2<81))
 (br (inB x1 81)
 (ob (qFd (conv .i8 .i64 (List.getD x3 (Int.toNat x1) 0)) x1 x2 x8) fun a22=>
 br (!a22)
 (rec x0 x1 (IntKind.wrap .i64 (x2+1)) x3 x4 x5 x6 x7 x8)
 (ob (qEe x3 x4 x5 x1 x2 0 false) fun a23=>
 br (a23)
 (br (decide ((x0+1)*32<=140737488355328))
 (ob (qEe x3 x4 x5 x1 x2 0 true) fun a24=>
 br (a24)
 (br (decide ((x0+1+1)*32<=140737488355328))
 (rec (x0+1+1) x1 (IntKind.wrap .i64 (x2+1)) x3 x4 x5 (x0+1+1) (List.append (List.take (x0+1) (List.append (List.take x0 x7) [[x1,x2,0,0]])) [[x1,x2,0,1]]) x8)
 (none))
 (rec (x0+1) x1 (IntKind.wrap .i64 (x2+1)) x3 x4 x5 (x0+1) (List.append (List.take x0 x7) [[x1,x2,0,0]]) x8))
 (none))
 (ob (qEe x3 x4 x5 x1 x2 0 true) fun a24=>
 br (a24)
 (br (decide ((x0+1)*32<=140737488355328))
 (rec (x0+1) x1 (IntKind.wrap .i64 (x2+1)) x3 x4 x5 (x0+1) (List.append (List.take x0 x7) [[x1,x2,0,1]]) x8)
 (none))
 (rec x0 x1 (IntKind.wrap .i64 (x2+1)) x3 x4 x5 x6 x7 x8))))
 (none))
 (some (x0,x1,x3,x4,x5,x6,x7,x8))
def qFj:Nat->Nat->Int->Int->List Int->List Int->Int->Nat->List (List Int)->List Bool->Option (Nat×Int×List Int×List Int×Int×Nat×List (List Int)×List Bool)
 | 0,_,_,_,_,_,_,_,_,_=>none
 | f+1,x0,x1,x2,x3,x4,x5,x6,x7,x8=>qIH (qFj f) x0 x1 x2 x3 x4 x5 x6 x7 x8
def qIK (rec:Nat->Int->List Int->List Int->Int->Nat->List (List Int)->List Bool->Option (Nat×List Int×List Int×Int×Nat×List (List Int))) (x0:Nat) (x1:Int) (x2 x3:List Int) (x4:Int) (x5:Nat) (x6:List (List Int)) (x7:List Bool):Option (Nat×List Int×List Int×Int×Nat×List (List Int)):=
 br (decide (x1<81))
 (br (inB x1 81)
 (ob (qA9 (conv .i8 .i64 (List.getD x2 (Int.toNat x1) 0))) fun a12=>
 br (a12 != x4)
 (rec x0 (IntKind.wrap .i64 (x1+1)) x2 x3 x4 x5 x6 x7)
 (ob (qFj qB x0 x1 0 x2 x3 x4 x5 x6 x7) fun (a13_0,a13_1,a13_2,a13_3,a13_4,a13_5,a13_6,a13_7)=>
 rec a13_0 (IntKind.wrap .i64 (a13_1+1)) a13_2 a13_3 a13_4 a13_5 a13_6 a13_7))
 (none))
 (some (x0,x2,x3,x4,x5,x6))
def qD5:Nat->Nat->Int->List Int->List Int->Int->Nat->List (List Int)->List Bool->Option (Nat×List Int×List Int×Int×Nat×List (List Int))
 | 0,_,_,_,_,_,_,_,_=>none
 | f+1,x0,x1,x2,x3,x4,x5,x6,x7=>qIK (qD5 f) x0 x1 x2 x3 x4 x5 x6 x7
def qIJ (rec:Nat->Int->Int->List Int->List Int->Int->Nat->List (List Int)->Option (Nat×Int×List Int×List Int×Int×Nat×List (List Int))) (x0:Nat) (x1 x2:Int) (x3 x4:List Int) (x5:Int) (x6:Nat) (x7:List (List Int)):Option (Nat×Int×List Int×List Int×Int×Nat×List (List Int)):=
 br (decide (x2<81))
 (br (inB x5 2)
 (br (inB x1 8)
 (br (decide (List.getD x4 (Int.toNat x5*8+Int.toNat x1) 0>0))
 (ob (qEe x3 x4 x5 0 x2 x1 false) fun a25=>
 br (a25)
 (br (decide ((x0+1)*32<=140737488355328))
 (rec (x0+1) x1 (IntKind.wrap .i64 (x2+1)) x3 x4 x5 (x0+1) (List.append (List.take x0 x7) [[0,x2,x1,0]]))
 (none))
 (rec x0 x1 (IntKind.wrap .i64 (x2+1)) x3 x4 x5 x6 x7))
 (some (x0,x1,x3,x4,x5,x6,x7)))
 (none))
 (none))
 (some (x0,x1,x3,x4,x5,x6,x7))
def qFk:Nat->Nat->Int->Int->List Int->List Int->Int->Nat->List (List Int)->Option (Nat×Int×List Int×List Int×Int×Nat×List (List Int))
 | 0,_,_,_,_,_,_,_,_=>none
 | f+1,x0,x1,x2,x3,x4,x5,x6,x7=>qIJ (qFk f) x0 x1 x2 x3 x4 x5 x6 x7
def qII (rec:Nat->Int->List Int->List Int->Int->Nat->List (List Int)->Option (Nat×Nat×List (List Int))) (x0:Nat) (x1:Int) (x2 x3:List Int) (x4:Int) (x5:Nat) (x6:List (List Int)):Option (Nat×Nat×List (List Int)):=
 br (decide (x1<=7))
 (ob (qFk qB x0 x1 0 x2 x3 x4 x5 x6) fun (a17_0,a17_1,a17_2,a17_3,a17_4,a17_5,a17_6)=>
 rec a17_0 (IntKind.wrap .i64 (a17_1+1)) a17_2 a17_3 a17_4 a17_5 a17_6)
 (some (x0,x5,x6))
def qD4:Nat->Nat->Int->List Int->List Int->Int->Nat->List (List Int)->Option (Nat×Nat×List (List Int))
 | 0,_,_,_,_,_,_,_=>none
 | f+1,x0,x1,x2,x3,x4,x5,x6=>qII (qD4 f) x0 x1 x2 x3 x4 x5 x6
def qIG (x0 x1:List Int) (x2:Int):Option (Nat×Nat×List (List Int)):=
 br (x2 != 0)
 (br (x2 != 1)
 (some (0,0,[]))
 (ob (qEc x0 x1 x2) fun a3=>
 ob (qD5 qB 0 0 x0 x1 x2 0 [] a3) fun (a4_0,a4_1,a4_2,a4_3,a4_4,a4_5)=>
 ob (qD4 qB a4_0 1 a4_1 a4_2 a4_3 a4_4 a4_5) fun (a10_0,a10_1,a10_2)=>
 some (a10_0,a10_1,a10_2)))
 (ob (qEc x0 x1 x2) fun a3=>
 ob (qD5 qB 0 0 x0 x1 x2 0 [] a3) fun (a4_0,a4_1,a4_2,a4_3,a4_4,a4_5)=>
 ob (qD4 qB a4_0 1 a4_1 a4_2 a4_3 a4_4 a4_5) fun (a10_0,a10_1,a10_2)=>
 some (a10_0,a10_1,a10_2))
def qG3 (rec:Int->Int->Int->List Int->List Int->Int->List (List Int)->List (List Int)->Int->Int->Int->Int->Int->Int->Option (List Int×List Int×Int×List (List Int)×List (List Int)×Int×Int×Int×Int)) (x0 x1 x2:Int) (x3 x4:List Int) (x5:Int) (x6 x7:List (List Int)) (x8 x9:Int) (x10 x11:Int) (x12 x13:Int):Option (List Int×List Int×Int×List (List Int)×List (List Int)×Int×Int×Int×Int):=
 br (decide (x2<=15))
 (ob (qAi (IntKind.wrap .i64 (1 - x1)) x2) fun a23=>
 br (a23==0)
 (rec x0 x1 (IntKind.wrap .i64 (x2+1)) x3 x4 x5 x6 x7 x8 x9 x10 x11 x12 x13)
 (ob (qFX a23 x0 x8 x9) fun (a24_0,a24_1)=>
 ob (qC8 x1 x2 x3 x4 x5 x6 x7) fun (a26_0,a26_1)=>
 ob (qC2 a24_0 a24_1 a26_0 a26_1) fun (a28_0,a28_1)=>
 ob (qD9 x12 x13 a28_0 a28_1) fun (a30_0,a30_1)=>
 rec x0 x1 (IntKind.wrap .i64 (x2+1)) x3 x4 x5 x6 x7 x8 x9 x10 x11 a30_0 a30_1))
 (some (x3,x4,x5,x6,x7,x10,x11,x12,x13))
def qEI:Nat->Int->Int->Int->List Int->List Int->Int->List (List Int)->List (List Int)->Int->Int->Int->Int->Int->Int->Option (List Int×List Int×Int×List (List Int)×List (List Int)×Int×Int×Int×Int)
 | 0,_,_,_,_,_,_,_,_,_,_,_,_,_,_=>none
 | f+1,x0,x1,x2,x3,x4,x5,x6,x7,x8,x9,x10,x11,x12,x13=>qG3 (qEI f) x0 x1 x2 x3 x4 x5 x6 x7 x8 x9 x10 x11 x12 x13
def qG2 (x0 x1:Int) (x2 x3:Int) (x4 x5:List Int) (x6:Int) (x7 x8:List (List Int)):Option (Int×Int):=
 br (decide (x0<0))
 (some (0,0))
 (br (decide (x0 >= 81))
 (some (0,0))
 (br (x1 != 0)
 (br (x1 != 1)
 (some (0,0))
 (ob (qEI qB x0 x1 1 x4 x5 x6 x7 x8 x2 x3 0 0 0 0) fun (_,_,_,_,_,_,_,a9_7,a9_8)=>
 some (a9_7,a9_8)))
 (ob (qEI qB x0 x1 1 x4 x5 x6 x7 x8 x2 x3 0 0 0 0) fun (_,_,_,_,_,_,_,a9_7,a9_8)=>
 some (a9_7,a9_8))))
def qF2 (x0:Int) (x1 x2:List Int) (x3:Int) (x4 x5:List (List Int)):Option (Int×Int):=
 ob (qF6 x0 x1 x2 x3 x4 x5) fun a6=>
 ob (qC9 x1 x2 x3 x4 x5) fun (a7_0,a7_1)=>
 ob (qG2 a6 (IntKind.wrap .i64 (1 - x0)) a7_0 a7_1 x1 x2 x3 x4 x5) fun (a9_0,a9_1)=>
 some (a9_0,a9_1)
def qIv (x0:Int) (x1 x2:List Int) (x3:Int) (x4 x5:List (List Int)):Option (Bool):=
 ob (qF2 x0 x1 x2 x3 x4 x5) fun (a6_0,a6_1)=>
 ob (qEh a6_0 a6_1) fun a8=>
 some (!a8)
def qIu (x0 x1:List Int) (x2:Int):Option (Int):=
 ob (qIx x0 x1 x2) fun a3=>
 br (a3 != 0)
 (some (a3))
 (ob (qF7 x0 x1 x2) fun (a4_0,a4_1,a4_2,a4_3,a4_4)=>
 ob (qIv (IntKind.wrap .i64 (1 - x2)) a4_0 a4_1 a4_2 a4_3 a4_4) fun a9=>
 br (a9)
 (some (54))
 (some (0)))
def qIY (rec:Nat->Int->Int->Nat->List Int->Int->Int->Int->Int->Option (Nat×List Int×Int×Int×Int×Int)) (x0:Nat) (x1 x2:Int) (x3:Nat) (x4:List Int) (x5 x6:Int) (x7 x8:Int):Option (Nat×List Int×Int×Int×Int×Int):=
 br (decide (x2<x1))
 (br (inB x2 x0)
 (ob (qBA x7 x8 (List.getD x4 (Int.toNat x2) 0)) fun (a12_0,a12_1)=>
 rec x0 x1 (IntKind.wrap .i64 (x2+1)) x3 x4 x5 x6 a12_0 a12_1)
 (none))
 (some (x3,x4,x5,x6,x7,x8))
def qFr:Nat->Nat->Int->Int->Nat->List Int->Int->Int->Int->Int->Option (Nat×List Int×Int×Int×Int×Int)
 | 0,_,_,_,_,_,_,_,_,_=>none
 | f+1,x0,x1,x2,x3,x4,x5,x6,x7,x8=>qIY (qFr f) x0 x1 x2 x3 x4 x5 x6 x7 x8
def qIX (x0 x1:Nat) (x2:List Int):Option (Int×Int):=
 ob (qFr qB x0 (Int.ofNat x0) 0 x1 x2 0 0 0 0) fun (_,_,_,_,a3_4,a3_5)=>
 some (a3_4,a3_5)
def qIF (rec:Int->Int->List Int->List Int->Int->Option ((Int)⊕(Unit))) (x0 x1:Int) (x2 x3:List Int) (x4:Int):Option ((Int)⊕(Unit)):=
 br (decide (x1<81))
 (br (inB x1 81)
 (br (conv .i8 .i64 (List.getD x2 (Int.toNat x1) 0)==IntKind.wrap .i64 (IntKind.wrap .i64 (16*x0)+8))
 (some (.inl (x1)))
 (rec x0 (IntKind.wrap .i64 (x1+1)) x2 x3 x4))
 (none))
 (some (.inr ()))
def qFh:Nat->Int->Int->List Int->List Int->Int->Option ((Int)⊕(Unit))
 | 0,_,_,_,_,_=>none
 | f+1,x0,x1,x2,x3,x4=>qIF (qFh f) x0 x1 x2 x3 x4
def qJj (x0 x1:List Int) (x2 x3:Int):Option (Int):=
 ob (qFh qB x3 0 x0 x1 x2) fun t4_2=>
 sw t4_2 (fun a4=>
 some (a4))
 (fun _=>
 some (-1))
def qIE (rec:Int->Int->Int->List Int->List Int->Int->List Bool->Option ((Bool)⊕(Unit))) (x0 x1 x2:Int) (x3 x4:List Int) (x5:Int) (x6:List Bool):Option ((Bool)⊕(Unit)):=
 br (decide (x2<81))
 (br (inB x2 81)
 (ob (qA9 (conv .i8 .i64 (List.getD x3 (Int.toNat x2) 0))) fun a13=>
 br (a13==IntKind.wrap .i64 (1 - x0))
 (br (inB x2 81)
 (ob (qFd (conv .i8 .i64 (List.getD x3 (Int.toNat x2) 0)) x2 x1 x6) fun a14=>
 br (a14)
 (some (.inl (true)))
 (rec x0 x1 (IntKind.wrap .i64 (x2+1)) x3 x4 x5 x6))
 (none))
 (rec x0 x1 (IntKind.wrap .i64 (x2+1)) x3 x4 x5 x6))
 (none))
 (some (.inr ()))
def qFg:Nat->Int->Int->Int->List Int->List Int->Int->List Bool->Option ((Bool)⊕(Unit))
 | 0,_,_,_,_,_,_,_=>none
 | f+1,x0,x1,x2,x3,x4,x5,x6=>qIE (qFg f) x0 x1 x2 x3 x4 x5 x6
def qGb (x0 x1:List Int) (x2 x3:Int):Option (Bool):=
 ob (qEc x0 x1 x2) fun a4=>
 ob (qJj x0 x1 x2 x3) fun a5=>
 br (decide (a5<0))
 (some (false))
 (ob (qFg qB x3 a5 0 x0 x1 x2 a4) fun t6_2=>
 sw t6_2 (fun a6=>
 some (a6))
 (fun _=>
 some (false)))
def qJi (x0 x1:List Int) (x2:Int):Option (Int):=
 ob (qFe x0 x1 x2) fun a3=>
 br (a3 != 0)
 (some (a3))
 (ob (qGb x0 x1 x2 (IntKind.wrap .i64 (1 - x2))) fun a4=>
 br (a4)
 (some (54))
 (some (0)))
def qFi (x0 x1:List Int) (x2 x3:Int) (x4 x5:Int) (x6:Bool):Option (List Int×List Int×Int):=
 br (x5 != 0)
 (br (inB x2 2)
 (br (inB x5 8)
 (br (inB x2 2)
 (br (inB x5 8)
 (br (inB x4 81)
 (some (List.set x0 (Int.toNat x4) (conv .i64 .i8 (IntKind.wrap .i64 (IntKind.wrap .i64 (16*x2)+x5))),List.set x1 (Int.toNat x2*8+Int.toNat x5) (IntKind.wrap .i8 (List.getD x1 (Int.toNat x2*8+Int.toNat x5) 0 - 1)),IntKind.wrap .i8 (1 - x2)))
 (none))
 (none))
 (none))
 (none))
 (none))
 (br (inB x4 81)
 (ob (qAS (conv .i8 .i64 (List.getD x0 (Int.toNat x4) 0))) fun a7=>
 ob (qH7 a7) fun a8=>
 br (a8 != 0)
 (br (inB x2 2)
 (br (inB a8 8)
 (br (inB x2 2)
 (br (inB a8 8)
 (br (inB x3 81)
 (br (inB x4 81)
 (br (x6)
 (br (inB x4 81)
 (br (inB x4 81)
 (br (inB x3 81)
 (some (List.set (List.set (List.set x0 (Int.toNat x4) (List.getD x0 (Int.toNat x3) 0)) (Int.toNat x4) (IntKind.wrap .i8 (List.getD (List.set x0 (Int.toNat x4) (List.getD x0 (Int.toNat x3) 0)) (Int.toNat x4) 0+8))) (Int.toNat x3) 0,List.set x1 (Int.toNat x2*8+Int.toNat a8) (IntKind.wrap .i8 (List.getD x1 (Int.toNat x2*8+Int.toNat a8) 0+1)),IntKind.wrap .i8 (1 - x2)))
 (none))
 (none))
 (none))
 (br (inB x3 81)
 (some (List.set (List.set x0 (Int.toNat x4) (List.getD x0 (Int.toNat x3) 0)) (Int.toNat x3) 0,List.set x1 (Int.toNat x2*8+Int.toNat a8) (IntKind.wrap .i8 (List.getD x1 (Int.toNat x2*8+Int.toNat a8) 0+1)),IntKind.wrap .i8 (1 - x2)))
 (none)))
 (none))
 (none))
 (none))
 (none))
 (none))
 (none))
 (br (inB x3 81)
 (br (inB x4 81)
 (br (x6)
 (br (inB x4 81)
 (br (inB x4 81)
 (br (inB x3 81)
 (some (List.set (List.set (List.set x0 (Int.toNat x4) (List.getD x0 (Int.toNat x3) 0)) (Int.toNat x4) (IntKind.wrap .i8 (List.getD (List.set x0 (Int.toNat x4) (List.getD x0 (Int.toNat x3) 0)) (Int.toNat x4) 0+8))) (Int.toNat x3) 0,x1,IntKind.wrap .i8 (1 - x2)))
 (none))
 (none))
 (none))
 (br (inB x3 81)
 (some (List.set (List.set x0 (Int.toNat x4) (List.getD x0 (Int.toNat x3) 0)) (Int.toNat x3) 0,x1,IntKind.wrap .i8 (1 - x2)))
 (none)))
 (none))
 (none)))
 (none))
def qH3 (rec:Int->Int->Nat->Int->Int->Int->Int->Nat->List (List Int)->Option ((Int×Int)⊕(Int×Int))) (x0 x1:Int) (x2:Nat) (x3 x4:Int) (x5 x6:Int) (x7:Nat) (x8:List (List Int)):Option ((Int×Int)⊕(Int×Int)):=
 br (decide (x4<x3))
 (br (inB x4 x2)
 (ob (qIX 1 1 [x1]) fun (a17_0,a17_1)=>
 ob (qH5 x0 (List.headD (List.take 2 (List.getD x8 (Int.toNat x4) [])) 0) (List.headD (List.tail (List.take 2 (List.getD x8 (Int.toNat x4) []))) 0) a17_0 a17_1) fun (a19_0,a19_1)=>
 ob (qCK a19_0 a19_1 x1) fun a21=>
 br (a21)
 (ob (qEk a19_0 a19_1 x1) fun (a22_0,a22_1)=>
 some (.inl (a22_0,a22_1)))
 (rec x0 x1 x2 x3 (IntKind.wrap .i64 (x4+1)) x5 x6 x7 x8))
 (none))
 (some (.inr (x5,x6)))
def qFW:Nat->Int->Int->Nat->Int->Int->Int->Int->Nat->List (List Int)->Option ((Int×Int)⊕(Int×Int))
 | 0,_,_,_,_,_,_,_,_,_=>none
 | f+1,x0,x1,x2,x3,x4,x5,x6,x7,x8=>qH3 (qFW f) x0 x1 x2 x3 x4 x5 x6 x7 x8
def qH2 (x0 x1:Int):Option (Int×Int):=
 ob (qGX 6) fun (a2_0,_,a2_2)=>
 ob (qGX 7) fun (a5_0,_,a5_2)=>
 br (decide ((a2_0+a5_0)*16<=140737488355328))
 (ob (qFW qB x0 x1 (a2_0+a5_0) (Int.ofNat (a2_0+a5_0)) 0 0 0 (a2_0+a5_0) (List.append (List.take a2_0 a2_2) (List.take a5_0 a5_2))) fun t8_2=>
 sw t8_2 (fun (a8_0,a8_1)=>
 some (a8_0,a8_1))
 (fun (_,_)=>
 some (0,0)))
 (none)
def qF3 (rec:Int->Int->Nat->Int->Int->Nat->Int->Int->List Int->List Int->Int->List (List Int)->List (List Int)->List (List Int×List Int)->Nat->List Int->Nat->List Int->Option (Int×Int×Nat×Int×Int×List Int×List Int×Int×List (List Int)×List (List Int)×List (List Int×List Int)×Nat×List Int)) (x0 x1:Int) (x2:Nat) (x3 x4:Int) (x5:Nat) (x6 x7:Int) (x8 x9:List Int) (x10:Int) (x11 x12:List (List Int)) (x13:List (List Int×List Int)) (x14:Nat) (x15:List Int) (x16:Nat) (x17:List Int):Option (Int×Int×Nat×Int×Int×List Int×List Int×Int×List (List Int)×List (List Int)×List (List Int×List Int)×Nat×List Int):=
 br (decide (x7<x6))
 (br (inB x7 x5)
 (ob (qH2 (List.getD x17 (Int.toNat x7) 0) x1) fun (a43_0,a43_1)=>
 ob (qC9 x8 x9 x10 x11 x12) fun (a45_0,a45_1)=>
 ob (qC2 a43_0 a43_1 a45_0 a45_1) fun (a47_0,a47_1)=>
 ob (qGk a47_0 a47_1) fun a49=>
 br (a49 != 1)
 (rec x0 x1 x2 x3 x4 x5 x6 (IntKind.wrap .i64 (x7+1)) x8 x9 x10 x11 x12 x13 x14 x15 x16 x17)
 (ob (qF9 x0 x8 x9 x10 x11 x12) fun (a50_0,a50_1)=>
 ob (qC2 a47_0 a47_1 a50_0 a50_1) fun (a52_0,a52_1)=>
 ob (qEh a52_0 a52_1) fun a54=>
 br (a54)
 (rec x0 x1 x2 x3 x4 x5 x6 (IntKind.wrap .i64 (x7+1)) x8 x9 x10 x11 x12 x13 x14 x15 x16 x17)
 (ob (qGm a47_0 a47_1) fun a55=>
 ob (qAf (List.getD x17 (Int.toNat x7) 0) x8 x9 x10 x11 x12) fun a56=>
 ob (qC9 x8 x9 x10 x11 x12) fun (a57_0,a57_1)=>
 ob (qEk a57_0 a57_1 a55) fun (a59_0,a59_1)=>
 ob (qFX a56 (List.getD x17 (Int.toNat x7) 0) a59_0 a59_1) fun (a61_0,a61_1)=>
 ob (qCK a61_0 a61_1 x1) fun a63=>
 br (!a63)
 (rec x0 x1 x2 x3 x4 x5 x6 (IntKind.wrap .i64 (x7+1)) x8 x9 x10 x11 x12 x13 x14 x15 x16 x17)
 (ob (qAf (List.getD x17 (Int.toNat x7) 0) x8 x9 x10 x11 x12) fun a64=>
 ob (qC9 x8 x9 x10 x11 x12) fun (a65_0,a65_1)=>
 ob (qFX a64 (List.getD x17 (Int.toNat x7) 0) a65_0 a65_1) fun (a67_0,a67_1)=>
 ob (qCK a67_0 a67_1 x1) fun a69=>
 br (a69)
 (rec x0 x1 x2 x3 x4 x5 x6 (IntKind.wrap .i64 (x7+1)) x8 x9 x10 x11 x12 x13 x14 x15 x16 x17)
 (ob (qBA a43_0 a43_1 (List.getD x17 (Int.toNat x7) 0)) fun (a70_0,a70_1)=>
 rec x0 x1 x2 x3 x4 x5 x6 (IntKind.wrap .i64 (x7+1)) x8 x9 x10 x11 x12 (qAH x13 [a55] [a70_0,a70_1]) x14 x15 x16 x17)))))
 (none))
 (some (x0,x1,x2,x3,x4,x8,x9,x10,x11,x12,x13,x14,x15))
def qEx:Nat->Int->Int->Nat->Int->Int->Nat->Int->Int->List Int->List Int->Int->List (List Int)->List (List Int)->List (List Int×List Int)->Nat->List Int->Nat->List Int->Option (Int×Int×Nat×Int×Int×List Int×List Int×Int×List (List Int)×List (List Int)×List (List Int×List Int)×Nat×List Int)
 | 0,_,_,_,_,_,_,_,_,_,_,_,_,_,_,_,_,_,_=>none
 | f+1,x0,x1,x2,x3,x4,x5,x6,x7,x8,x9,x10,x11,x12,x13,x14,x15,x16,x17=>qF3 (qEx f) x0 x1 x2 x3 x4 x5 x6 x7 x8 x9 x10 x11 x12 x13 x14 x15 x16 x17
def qG6 (rec:Int->Int->Nat->Int->Int->List Int->List Int->Int->List (List Int)->List (List Int)->List (List Int×List Int)->Nat->List Int->Option (List Int×List Int×Int×List (List Int)×List (List Int)×List (List Int×List Int))) (x0 x1:Int) (x2:Nat) (x3 x4:Int) (x5 x6:List Int) (x7:Int) (x8 x9:List (List Int)) (x10:List (List Int×List Int)) (x11:Nat) (x12:List Int):Option (List Int×List Int×Int×List (List Int)×List (List Int)×List (List Int×List Int)):=
 br (decide (x4<x3))
 (br (inB x4 x2)
 (ob (qC8 (IntKind.wrap .i64 (1 - x0)) (List.getD x12 (Int.toNat x4) 0) x5 x6 x7 x8 x9) fun (a20_0,a20_1)=>
 ob (qEi a20_0 a20_1) fun (a22_0,a22_1,a22_2)=>
 ob (qEx qB x0 x1 x2 x3 x4 a22_0 (Int.ofNat a22_0) 0 x5 x6 x7 x8 x9 x10 x11 x12 a22_1 a22_2) fun (a25_0,a25_1,a25_2,a25_3,a25_4,a25_5,a25_6,a25_7,a25_8,a25_9,a25_10,a25_11,a25_12)=>
 rec a25_0 a25_1 a25_2 a25_3 (IntKind.wrap .i64 (a25_4+1)) a25_5 a25_6 a25_7 a25_8 a25_9 a25_10 a25_11 a25_12)
 (none))
 (some (x5,x6,x7,x8,x9,x10))
def qEw:Nat->Int->Int->Nat->Int->Int->List Int->List Int->Int->List (List Int)->List (List Int)->List (List Int×List Int)->Nat->List Int->Option (List Int×List Int×Int×List (List Int)×List (List Int)×List (List Int×List Int))
 | 0,_,_,_,_,_,_,_,_,_,_,_,_,_=>none
 | f+1,x0,x1,x2,x3,x4,x5,x6,x7,x8,x9,x10,x11,x12=>qG6 (qEw f) x0 x1 x2 x3 x4 x5 x6 x7 x8 x9 x10 x11 x12
def qG4 (x0:Int) (x1 x2:List Int) (x3:Int) (x4 x5:List (List Int)):Option (List (List Int×List Int)):=
 ob (qF6 x0 x1 x2 x3 x4 x5) fun a6=>
 br (decide (a6<0))
 (some ([]))
 (ob (qEw qB x0 a6 5 5 0 x1 x2 x3 x4 x5 [] 5 ([2,6,7,14,15])) fun (_,_,_,_,_,a7_5)=>
 some (a7_5))
def qHn (x0 x1:List Int) (x2:Int) (x3 x4:List (List Int)):Option (Int×Int×Int×Int×Bool×List (List Int×List Int)):=
 ob (qF6 x2 x0 x1 x2 x3 x4) fun a5=>
 ob (qGi ) fun (a6_0,a6_1)=>
 ob (qG4 x2 x0 x1 x2 x3 x4) fun a8=>
 ob (qF2 x2 x0 x1 x2 x3 x4) fun (a9_0,a9_1)=>
 ob (qGk a9_0 a9_1) fun a11=>
 br (a11==0)
 (some (x2,a5,a6_0,a6_1,false,a8))
 (br (a11==1)
 (ob (qGm a9_0 a9_1) fun a12=>
 ob (qH2 a12 a5) fun (a13_0,a13_1)=>
 ob (qD9 a13_0 a13_1 a9_0 a9_1) fun (a15_0,a15_1)=>
 some (x2,a5,a15_0,a15_1,true,a8))
 (some (x2,a5,0,0,true,a8)))
def qHo (x0 x1:Int) (x2 x3:Int) (_x4:Bool) (x5 x6 _x7:Int) (_x8:Bool) (x9 x10:List Int) (x11:Int) (x12 x13:List (List Int)) (x14:List (List Int×List Int)):Option (Bool×List Int×List Int×Int×List (List Int)×List (List Int)×List (List Int×List Int)):=
 br (x5==x1)
 (ob (qC9 x9 x10 x11 x12 x13) fun (a15_0,a15_1)=>
 ob (qEk a15_0 a15_1 x1) fun (a17_0,a17_1)=>
 ob (qG2 x6 (IntKind.wrap .i64 (1 - x0)) a17_0 a17_1 x9 x10 x11 x12 x13) fun (a19_0,a19_1)=>
 ob (qEh a19_0 a19_1) fun a21=>
 some (a21,x9,x10,x11,x12,x13,x14))
 (ob (qCK x2 x3 x6) fun a15=>
 br (!a15)
 (some (false,x9,x10,x11,x12,x13,x14))
 (br (!qA4 x14 [x5])
 (some (true,x9,x10,x11,x12,x13,x14))
 (ob (qCK (List.headD (qA3 x14 [x5] [0,0]) 0) (List.headD (List.tail (qA3 x14 [x5] [0,0])) 0) x6) fun a16=>
 some (a16,x9,x10,x11,x12,x13,x14))))
def qHm (rec:Nat->Int->Int->List Int->List Int->Int->List (List Int)->List (List Int)->Int->Int->Int->Int->Bool->Nat->List (List Int)->List Int->List Int->Int->List (List Int)->List (List Int)->List (List Int×List Int)->Option ((Bool×List Int×List Int×Int×List (List Int)×List (List Int))⊕(List Int×List Int×Int×List (List Int)×List (List Int)))) (x0:Nat) (x1 x2:Int) (x3 x4:List Int) (x5:Int) (x6 x7:List (List Int)) (x8 x9:Int) (x10 x11:Int) (x12:Bool) (x13:Nat) (x14:List (List Int)) (x15 x16:List Int) (x17:Int) (x18 x19:List (List Int)) (x20:List (List Int×List Int)):Option ((Bool×List Int×List Int×Int×List (List Int)×List (List Int))⊕(List Int×List Int×Int×List (List Int)×List (List Int))):=
 br (decide (x2<x1))
 (br (inB x2 x0)
 (ob (qHo x8 x9 x10 x11 x12 (List.headD (List.take 4 (List.getD x14 (Int.toNat x2) [])) 0) (List.headD (List.tail (List.take 4 (List.getD x14 (Int.toNat x2) []))) 0) (List.headD (List.tail (List.tail (List.take 4 (List.getD x14 (Int.toNat x2) [])))) 0) (List.headD (List.tail (List.tail (List.tail (List.take 4 (List.getD x14 (Int.toNat x2) []))))) 0 != 0) x15 x16 x17 x18 x19 x20) fun (a53_0,a53_1,a53_2,a53_3,a53_4,a53_5,a53_6)=>
 br (a53_0)
 (some (.inl (false,x3,x4,x5,x6,x7)))
 (rec x0 x1 (IntKind.wrap .i64 (x2+1)) x3 x4 x5 x6 x7 x8 x9 x10 x11 x12 x13 x14 a53_1 a53_2 a53_3 a53_4 a53_5 a53_6))
 (none))
 (some (.inr (x3,x4,x5,x6,x7)))
def qFP:Nat->Nat->Int->Int->List Int->List Int->Int->List (List Int)->List (List Int)->Int->Int->Int->Int->Bool->Nat->List (List Int)->List Int->List Int->Int->List (List Int)->List (List Int)->List (List Int×List Int)->Option ((Bool×List Int×List Int×Int×List (List Int)×List (List Int))⊕(List Int×List Int×Int×List (List Int)×List (List Int)))
 | 0,_,_,_,_,_,_,_,_,_,_,_,_,_,_,_,_,_,_,_,_,_=>none
 | f+1,x0,x1,x2,x3,x4,x5,x6,x7,x8,x9,x10,x11,x12,x13,x14,x15,x16,x17,x18,x19,x20=>qHm (qFP f) x0 x1 x2 x3 x4 x5 x6 x7 x8 x9 x10 x11 x12 x13 x14 x15 x16 x17 x18 x19 x20
def qJR (x0:Int) (x1 x2:List Int) (x3:Int) (x4 x5:List (List Int)):Option (Bool):=
 ob (qAi x3 1) fun a6=>
 br (a6==0)
 (some (false))
 (br (decide (x0<0))
 (some (false))
 (br (decide (x0 >= 81))
 (some (false))
 (ob (qAf x0 x1 x2 x3 x4 x5) fun a7=>
 br (a7 != 0)
 (some (false))
 (ob (qKU x1 x2 x3 x4 x5) fun (a8_0,a8_1,a8_2,a8_3,a8_4)=>
 ob (qGA x0 a6 a8_0 a8_1 a8_2 a8_3 a8_4) fun (a13_0,a13_1,a13_2,a13_3,a13_4)=>
 ob (qF2 (conv .i8 .i64 (IntKind.wrap .i8 (1 - a13_2))) a13_0 a13_1 (IntKind.wrap .i8 (1 - a13_2)) a13_3 a13_4) fun (a18_0,a18_1)=>
 ob (qCK a18_0 a18_1 x0) fun a20=>
 br (!a20)
 (some (false))
 (ob (qHn a13_0 a13_1 (IntKind.wrap .i8 (1 - a13_2)) a13_3 a13_4) fun (a21_0,a21_1,a21_2,a21_3,a21_4,a21_5)=>
 ob (qGi ) fun (a27_0,a27_1)=>
 ob (qHQ a27_0 a27_1 a13_0 a13_1 (IntKind.wrap .i8 (1 - a13_2)) a13_3 a13_4) fun (a29_0,a29_1,a29_2)=>
 ob (qFP qB a29_0 (Int.ofNat a29_0) 0 x1 x2 x3 x4 x5 a21_0 a21_1 a21_2 a21_3 a21_4 a29_1 a29_2 a13_0 a13_1 (IntKind.wrap .i8 (1 - a13_2)) a13_3 a13_4 a21_5) fun t32_2=>
 sw t32_2 (fun (a32_0,_,_,_,_,_)=>
 some (a32_0))
 (fun (_,_,_,_,_)=>
 some (true)))))))
def qHj (rec:Nat->Nat->Int->Int->List Int->List Int->Int->List (List Int)->List (List Int)->Int->Int->Int->Int->Bool->Nat->List (List Int)->Nat->List (List Int)->List (List Int×List Int)->Option (Nat×List Int×List Int×Int×List (List Int)×List (List Int)×Int×Int×Int×Int×Bool×Nat×List (List Int)×List (List Int×List Int))) (x0 x1:Nat) (x2 x3:Int) (x4 x5:List Int) (x6:Int) (x7 x8:List (List Int)) (x9 x10:Int) (x11 x12:Int) (x13:Bool) (x14:Nat) (x15:List (List Int)) (x16:Nat) (x17:List (List Int)) (x18:List (List Int×List Int)):Option (Nat×List Int×List Int×Int×List (List Int)×List (List Int)×Int×Int×Int×Int×Bool×Nat×List (List Int)×List (List Int×List Int)):=
 br (decide (x3<x2))
 (br (inB x3 x1)
 (ob (qHo x9 x10 x11 x12 x13 (List.headD (List.take 4 (List.getD x17 (Int.toNat x3) [])) 0) (List.headD (List.tail (List.take 4 (List.getD x17 (Int.toNat x3) []))) 0) (List.headD (List.tail (List.tail (List.take 4 (List.getD x17 (Int.toNat x3) [])))) 0) (List.headD (List.tail (List.tail (List.tail (List.take 4 (List.getD x17 (Int.toNat x3) []))))) 0 != 0) x4 x5 x6 x7 x8 x18) fun (a35_0,a35_1,a35_2,a35_3,a35_4,a35_5,a35_6)=>
 br (a35_0)
 (br (decide ((x0+1)*32<=140737488355328))
 (rec (x0+1) x1 x2 (IntKind.wrap .i64 (x3+1)) a35_1 a35_2 a35_3 a35_4 a35_5 x9 x10 x11 x12 x13 (x0+1) (List.append (List.take x0 x15) [[List.headD (List.take 4 (List.getD x17 (Int.toNat x3) [])) 0,List.headD (List.tail (List.take 4 (List.getD x17 (Int.toNat x3) []))) 0,List.headD (List.tail (List.tail (List.take 4 (List.getD x17 (Int.toNat x3) [])))) 0,bi (List.headD (List.tail (List.tail (List.tail (List.take 4 (List.getD x17 (Int.toNat x3) []))))) 0 != 0)]]) x16 x17 a35_6)
 (none))
 (rec x0 x1 x2 (IntKind.wrap .i64 (x3+1)) a35_1 a35_2 a35_3 a35_4 a35_5 x9 x10 x11 x12 x13 x14 x15 x16 x17 a35_6))
 (none))
 (some (x0,x4,x5,x6,x7,x8,x9,x10,x11,x12,x13,x14,x15,x18))
def qFN:Nat->Nat->Nat->Int->Int->List Int->List Int->Int->List (List Int)->List (List Int)->Int->Int->Int->Int->Bool->Nat->List (List Int)->Nat->List (List Int)->List (List Int×List Int)->Option (Nat×List Int×List Int×Int×List (List Int)×List (List Int)×Int×Int×Int×Int×Bool×Nat×List (List Int)×List (List Int×List Int))
 | 0,_,_,_,_,_,_,_,_,_,_,_,_,_,_,_,_,_,_,_=>none
 | f+1,x0,x1,x2,x3,x4,x5,x6,x7,x8,x9,x10,x11,x12,x13,x14,x15,x16,x17,x18=>qHj (qFN f) x0 x1 x2 x3 x4 x5 x6 x7 x8 x9 x10 x11 x12 x13 x14 x15 x16 x17 x18
def qHi (rec:Nat->Nat->Int->Int->List Int->List Int->Int->List (List Int)->List (List Int)->Nat->List (List Int)->Nat->List (List Int)->Option (Nat×List Int×List Int×Int×List (List Int)×List (List Int)×Nat×List (List Int))) (x0 x1:Nat) (x2 x3:Int) (x4 x5:List Int) (x6:Int) (x7 x8:List (List Int)) (x9:Nat) (x10:List (List Int)) (x11:Nat) (x12:List (List Int)):Option (Nat×List Int×List Int×Int×List (List Int)×List (List Int)×Nat×List (List Int)):=
 br (decide (x3<x2))
 (br (inB x3 x1)
 (br (List.headD (List.tail (List.tail (List.take 4 (List.getD x12 (Int.toNat x3) [])))) 0==1)
 (ob (qJR (List.headD (List.tail (List.take 4 (List.getD x12 (Int.toNat x3) []))) 0) x4 x5 x6 x7 x8) fun a46=>
 br (a46)
 (rec x0 x1 x2 (IntKind.wrap .i64 (x3+1)) x4 x5 x6 x7 x8 x9 x10 x11 x12)
 (br (decide ((x0+1)*32<=140737488355328))
 (rec (x0+1) x1 x2 (IntKind.wrap .i64 (x3+1)) x4 x5 x6 x7 x8 (x0+1) (List.append (List.take x0 x10) [[List.headD (List.take 4 (List.getD x12 (Int.toNat x3) [])) 0,List.headD (List.tail (List.take 4 (List.getD x12 (Int.toNat x3) []))) 0,List.headD (List.tail (List.tail (List.take 4 (List.getD x12 (Int.toNat x3) [])))) 0,bi (List.headD (List.tail (List.tail (List.tail (List.take 4 (List.getD x12 (Int.toNat x3) []))))) 0 != 0)]]) x11 x12)
 (none)))
 (br (decide ((x0+1)*32<=140737488355328))
 (rec (x0+1) x1 x2 (IntKind.wrap .i64 (x3+1)) x4 x5 x6 x7 x8 (x0+1) (List.append (List.take x0 x10) [[List.headD (List.take 4 (List.getD x12 (Int.toNat x3) [])) 0,List.headD (List.tail (List.take 4 (List.getD x12 (Int.toNat x3) []))) 0,List.headD (List.tail (List.tail (List.take 4 (List.getD x12 (Int.toNat x3) [])))) 0,bi (List.headD (List.tail (List.tail (List.tail (List.take 4 (List.getD x12 (Int.toNat x3) []))))) 0 != 0)]]) x11 x12)
 (none)))
 (none))
 (some (x0,x4,x5,x6,x7,x8,x9,x10))
def qES:Nat->Nat->Nat->Int->Int->List Int->List Int->Int->List (List Int)->List (List Int)->Nat->List (List Int)->Nat->List (List Int)->Option (Nat×List Int×List Int×Int×List (List Int)×List (List Int)×Nat×List (List Int))
 | 0,_,_,_,_,_,_,_,_,_,_,_,_,_=>none
 | f+1,x0,x1,x2,x3,x4,x5,x6,x7,x8,x9,x10,x11,x12=>qHi (qES f) x0 x1 x2 x3 x4 x5 x6 x7 x8 x9 x10 x11 x12
def qHg (x0 x1:List Int) (x2:Int) (x3 x4:List (List Int)):Option (Nat×List Int×List Int×Int×List (List Int)×List (List Int)×Nat×List (List Int)):=
 ob (qHn x0 x1 x2 x3 x4) fun (a5_0,a5_1,a5_2,a5_3,a5_4,a5_5)=>
 ob (qGi ) fun (a11_0,a11_1)=>
 ob (qHQ a11_0 a11_1 x0 x1 x2 x3 x4) fun (a13_0,a13_1,a13_2)=>
 ob (qFN qB 0 a13_0 (Int.ofNat a13_0) 0 x0 x1 x2 x3 x4 a5_0 a5_1 a5_2 a5_3 a5_4 0 [] a13_1 a13_2 a5_5) fun (a16_0,a16_1,a16_2,a16_3,a16_4,a16_5,_,_,a16_8,a16_9,_,a16_11,a16_12,_)=>
 ob (qJK a16_8 a16_9 a16_1 a16_2 a16_3 a16_4 a16_5) fun (a30_0,a30_1,a30_2)=>
 ob (qES qB a16_0 a30_0 (Int.ofNat a30_0) 0 a16_1 a16_2 a16_3 a16_4 a16_5 a16_11 a16_12 a30_1 a30_2) fun (a33_0,a33_1,a33_2,a33_3,a33_4,a33_5,a33_6,a33_7)=>
 some (a33_0,a33_1,a33_2,a33_3,a33_4,a33_5,a33_6,a33_7)
def qHl (rec:Nat->Int->Int->List Int->List Int->Int->List (List Int)->List (List Int)->Int->Int->Int->Bool->Nat->List (List Int)->Option ((Bool×List Int×List Int×Int×List (List Int)×List (List Int))⊕(List Int×List Int×Int×List (List Int)×List (List Int)))) (x0:Nat) (x1 x2:Int) (x3 x4:List Int) (x5:Int) (x6 x7:List (List Int)) (x8 x9 x10:Int) (x11:Bool) (x12:Nat) (x13:List (List Int)):Option ((Bool×List Int×List Int×Int×List (List Int)×List (List Int))⊕(List Int×List Int×Int×List (List Int)×List (List Int))):=
 br (decide (x2<x1))
 (br (inB x2 x0)
 (br (List.headD (List.take 4 (List.getD x13 (Int.toNat x2) [])) 0==x8&&(List.headD (List.tail (List.take 4 (List.getD x13 (Int.toNat x2) []))) 0==x9&&(List.headD (List.tail (List.tail (List.take 4 (List.getD x13 (Int.toNat x2) [])))) 0==x10&&(List.headD (List.tail (List.tail (List.tail (List.take 4 (List.getD x13 (Int.toNat x2) []))))) 0 != 0)==x11)))
 (some (.inl (true,x3,x4,x5,x6,x7)))
 (rec x0 x1 (IntKind.wrap .i64 (x2+1)) x3 x4 x5 x6 x7 x8 x9 x10 x11 x12 x13))
 (none))
 (some (.inr (x3,x4,x5,x6,x7)))
def qFO:Nat->Nat->Int->Int->List Int->List Int->Int->List (List Int)->List (List Int)->Int->Int->Int->Bool->Nat->List (List Int)->Option ((Bool×List Int×List Int×Int×List (List Int)×List (List Int))⊕(List Int×List Int×Int×List (List Int)×List (List Int)))
 | 0,_,_,_,_,_,_,_,_,_,_,_,_,_,_=>none
 | f+1,x0,x1,x2,x3,x4,x5,x6,x7,x8,x9,x10,x11,x12,x13=>qHl (qFO f) x0 x1 x2 x3 x4 x5 x6 x7 x8 x9 x10 x11 x12 x13
def qHk (x0 x1 x2:Int) (x3:Bool) (x4 x5:List Int) (x6:Int) (x7 x8:List (List Int)):Option (Bool×List Int×List Int×Int×List (List Int)×List (List Int)):=
 ob (qHg x4 x5 x6 x7 x8) fun (a9_0,a9_1,a9_2,a9_3,a9_4,a9_5,a9_6,a9_7)=>
 ob (qFO qB a9_0 (Int.ofNat a9_0) 0 a9_1 a9_2 a9_3 a9_4 a9_5 x0 x1 x2 x3 a9_6 a9_7) fun t17_2=>
 sw t17_2 (fun (a17_0,a17_1,a17_2,a17_3,a17_4,a17_5)=>
 some (a17_0,a17_1,a17_2,a17_3,a17_4,a17_5))
 (fun (a17_0,a17_1,a17_2,a17_3,a17_4)=>
 some (false,a17_0,a17_1,a17_2,a17_3,a17_4))
def qIM (x0 x1:List Int) (x2 x3:Int) (x4 x5:Int) (x6:Bool):Option (Bool):=
 ob (qFi x0 x1 x2 x3 x4 x5 x6) fun (a7_0,a7_1,a7_2)=>
 ob (qGb a7_0 a7_1 a7_2 x2) fun a10=>
 some (!a10)
def qIN (rec:Nat->Int->List Int->List Int->Int->Nat->List (List Int)->Option ((Bool)⊕(Unit))) (x0:Nat) (x1:Int) (x2 x3:List Int) (x4:Int) (x5:Nat) (x6:List (List Int)):Option ((Bool)⊕(Unit)):=
 br (decide (x1<Int.ofNat x0))
 (br (inB x1 x0)
 (ob (qIM x2 x3 x4 (List.headD (List.take 4 (List.getD x6 (Int.toNat x1) [])) 0) (List.headD (List.tail (List.take 4 (List.getD x6 (Int.toNat x1) []))) 0) (List.headD (List.tail (List.tail (List.take 4 (List.getD x6 (Int.toNat x1) [])))) 0) (List.headD (List.tail (List.tail (List.tail (List.take 4 (List.getD x6 (Int.toNat x1) []))))) 0 != 0)) fun a13=>
 br (a13)
 (some (.inl (false)))
 (rec x0 (IntKind.wrap .i64 (x1+1)) x2 x3 x4 x5 x6))
 (none))
 (some (.inr ()))
def qFm:Nat->Nat->Int->List Int->List Int->Int->Nat->List (List Int)->Option ((Bool)⊕(Unit))
 | 0,_,_,_,_,_,_,_=>none
 | f+1,x0,x1,x2,x3,x4,x5,x6=>qIN (qFm f) x0 x1 x2 x3 x4 x5 x6
def qJp (x0 x1:List Int) (x2:Int):Option (Bool):=
 ob (qIG x0 x1 x2) fun (a3_0,a3_1,a3_2)=>
 ob (qFm qB a3_0 0 x0 x1 x2 a3_1 a3_2) fun t6_2=>
 sw t6_2 (fun a6=>
 some (a6))
 (fun _=>
 some (true))
def qGd (x0 x1:List Int) (x2 x3:Int) (x4 x5:Int) (x6:Bool):Option (Bool):=
 ob (qIM x0 x1 x2 x3 x4 x5 x6) fun a7=>
 br (!a7)
 (some (false))
 (br (x5 != 1)
 (some (true))
 (ob (qFi x0 x1 x2 x3 x4 x5 x6) fun (a8_0,a8_1,a8_2)=>
 ob (qGb a8_0 a8_1 a8_2 a8_2) fun a11=>
 br (!a11)
 (some (true))
 (ob (qJp a8_0 a8_1 a8_2) fun a12=>
 some (!a12))))
def qIL (rec:Nat->Nat->Int->List Int->List Int->Int->Nat->List (List Int)->Nat->List (List Int)->Option (Nat×Nat×List (List Int))) (x0 x1:Nat) (x2:Int) (x3 x4:List Int) (x5:Int) (x6:Nat) (x7:List (List Int)) (x8:Nat) (x9:List (List Int)):Option (Nat×Nat×List (List Int)):=
 br (decide (x2<Int.ofNat x1))
 (br (inB x2 x1)
 (ob (qGd x3 x4 x5 (List.headD (List.take 4 (List.getD x9 (Int.toNat x2) [])) 0) (List.headD (List.tail (List.take 4 (List.getD x9 (Int.toNat x2) []))) 0) (List.headD (List.tail (List.tail (List.take 4 (List.getD x9 (Int.toNat x2) [])))) 0) (List.headD (List.tail (List.tail (List.tail (List.take 4 (List.getD x9 (Int.toNat x2) []))))) 0 != 0)) fun a16=>
 br (a16)
 (br (inB x2 x1)
 (br (decide ((x0+1)*32<=140737488355328))
 (rec (x0+1) x1 (IntKind.wrap .i64 (x2+1)) x3 x4 x5 (x0+1) (List.append (List.take x0 x7) [[List.headD (List.take 4 (List.getD x9 (Int.toNat x2) [])) 0,List.headD (List.tail (List.take 4 (List.getD x9 (Int.toNat x2) []))) 0,List.headD (List.tail (List.tail (List.take 4 (List.getD x9 (Int.toNat x2) [])))) 0,bi (List.headD (List.tail (List.tail (List.tail (List.take 4 (List.getD x9 (Int.toNat x2) []))))) 0 != 0)]]) x8 x9)
 (none))
 (none))
 (rec x0 x1 (IntKind.wrap .i64 (x2+1)) x3 x4 x5 x6 x7 x8 x9))
 (none))
 (some (x0,x6,x7))
def qFl:Nat->Nat->Nat->Int->List Int->List Int->Int->Nat->List (List Int)->Nat->List (List Int)->Option (Nat×Nat×List (List Int))
 | 0,_,_,_,_,_,_,_,_,_,_=>none
 | f+1,x0,x1,x2,x3,x4,x5,x6,x7,x8,x9=>qIL (qFl f) x0 x1 x2 x3 x4 x5 x6 x7 x8 x9
def qJo (x0 x1:List Int) (x2:Int):Option (Nat×Nat×List (List Int)):=
 ob (qIG x0 x1 x2) fun (a3_0,a3_1,a3_2)=>
 ob (qFl qB 0 a3_0 0 x0 x1 x2 0 [] a3_1 a3_2) fun (a6_0,a6_1,a6_2)=>
 some (a6_0,a6_1,a6_2)
def qGc (x0 x1:List Int) (x2 x3:Int) (x4 x5:Int) (x6:Bool):Option (Bool):=
 ob (qEe x0 x1 x2 x3 x4 x5 x6) fun a7=>
 br (a7)
 (ob (qGd x0 x1 x2 x3 x4 x5 x6) fun a8=>
 some (a8))
 (some (false))
def qLs (x0:Int):Option (ByteArray):=
 ob (qAD x0) fun a1=>
 br (a1==0)
 (some ({data:=#[]}))
 (ob (qCz a1) fun a2=>
 br (inB a2 9)
 (ob (qAQ x0) fun a3=>
 br (a3==1)
 (br (decide (a1>8))
 (some (qFy [43,IntKind.wrap .u8 (qDA { data:=#[32,80,76,78,83,71,66,82,75] } (Int.toNat a2)+32)]))
 (some (qFy [IntKind.wrap .u8 (qDA { data:=#[32,80,76,78,83,71,66,82,75] } (Int.toNat a2)+32)])))
 (br (decide (a1>8))
 (some (qFy [43,qDA { data:=#[32,80,76,78,83,71,66,82,75] } (Int.toNat a2)]))
 (some (qFy [qDA { data:=#[32,80,76,78,83,71,66,82,75] } (Int.toNat a2)]))))
 (none))
def qFS (x0:Int):Option (ByteArray):=
 br (decide (x0<0))
 (some ({data:=#[]}))
 (br (decide (x0 >= 81))
 (some ({data:=#[]}))
 (ob (qGl x0) fun a1=>
 ob (qFs x0) fun a2=>
 some (qFy [conv .i64 .u8 (IntKind.wrap .i64 (49+a1)),conv .i64 .u8 (IntKind.wrap .i64 (97+a2))])))
def qHu (x0 x1 x2:Int) (x3:Bool):Option (ByteArray):=
 ob (qDn x0 x1 x2 x3) fun a4=>
 br (a4 != 0)
 (some ({data:=#[]}))
 (br (x2 != 0)
 (ob (qAi 0 x2) fun a5=>
 ob (qLs a5) fun a6=>
 br (qCf (ByteArray.size a6+1))
 (ob (qFS x1) fun a7=>
 br (qCf (ByteArray.size { data:={toList:=List.append (Array.toList (ByteArray.data a6)) (Array.toList (ByteArray.data { data:=#[42]})) }}+ByteArray.size a7))
 (some ({data:={toList:=List.append (Array.toList (ByteArray.data { data:={toList:=List.append (Array.toList (ByteArray.data a6)) (Array.toList (ByteArray.data { data:=#[42]})) }})) (Array.toList (ByteArray.data a7)) }}))
 (none))
 (none))
 (br (x3)
 (ob (qFS x0) fun a5=>
 ob (qFS x1) fun a6=>
 br (qCf (ByteArray.size a5+ByteArray.size a6))
 (br (qCf (ByteArray.size { data:={toList:=List.append (Array.toList (ByteArray.data a5)) (Array.toList (ByteArray.data a6)) }}+1))
 (some ({data:={toList:=List.append (Array.toList (ByteArray.data { data:={toList:=List.append (Array.toList (ByteArray.data a5)) (Array.toList (ByteArray.data a6)) }})) (Array.toList (ByteArray.data { data:=#[43]})) }}))
 (none))
 (none))
 (ob (qFS x0) fun a5=>
 ob (qFS x1) fun a6=>
 br (qCf (ByteArray.size a5+ByteArray.size a6))
 (some ({data:={toList:=List.append (Array.toList (ByteArray.data a5)) (Array.toList (ByteArray.data a6)) }}))
 (none))))
def qZr (rec:Int->Bool->Int->ByteArray->Nat->Option ((Int)⊕(Unit))) (x0:Int) (x1:Bool) (x2:Int) (x3:ByteArray) (x4:Nat):Option ((Int)⊕(Unit)):=
 br (Nat.blt x4 (ByteArray.size x3))
 (br (Int.ofNat x4==0)
 (rec x0 x1 x2 x3 (x4+qCm x3 x4))
 (br (qEM x3 x4 != x0)
 (rec x0 x1 x2 x3 (x4+qCm x3 x4))
 (br (x1)
 (ob (qC0 (Int.ofNat x4)) fun a7=>
 ob (qAi x2 a7) fun a8=>
 some (.inl (a8)))
 (ob (qAi x2 (Int.ofNat x4)) fun a7=>
 some (.inl (a7))))))
 (some (.inr ()))
def qHy:Nat->Int->Bool->Int->ByteArray->Nat->Option ((Int)⊕(Unit))
 | 0,_,_,_,_,_=>none
 | f+1,x0,x1,x2,x3,x4=>qZr (qHy f) x0 x1 x2 x3 x4
def qJZ (x0:Int) (x1:Bool):Option (Int):=
 br (decide (x0 >= 97))
 (br (decide (x0<=122))
 (ob (qHy qB (IntKind.wrap .i32 (x0 - 32)) x1 1 ({data:=#[32,80,76,78,83,71,66,82,75]}) 0) fun t2_2=>
 sw t2_2 (fun a2=>
 some (a2))
 (fun _=>
 some (0)))
 (ob (qHy qB x0 x1 0 ({data:=#[32,80,76,78,83,71,66,82,75]}) 0) fun t2_2=>
 sw t2_2 (fun a2=>
 some (a2))
 (fun _=>
 some (0))))
 (ob (qHy qB x0 x1 0 ({data:=#[32,80,76,78,83,71,66,82,75]}) 0) fun t2_2=>
 sw t2_2 (fun a2=>
 some (a2))
 (fun _=>
 some (0)))
def qEX (x0 x1:Int):Option (Int×Bool):=
 ob (qCe (conv .i32 .i64 (IntKind.wrap .i32 (x0 - 49))) (conv .i32 .i64 (IntKind.wrap .i32 (x1 - 97)))) fun a2=>
 some (a2,decide (a2 >= 0))
def qHt (rec:Nat->Int->Int->Int->Bool->Nat->List Int->ByteArray->Nat->Option (Nat×Int×Int×Int×Bool×Nat×List Int)) (x0:Nat) (x1 x2 x3:Int) (x4:Bool) (x5:Nat) (x6:List Int) (x7:ByteArray) (x8:Nat):Option (Nat×Int×Int×Int×Bool×Nat×List Int):=
 br (Nat.blt x8 (ByteArray.size x7))
 (br (Int.ofNat x0==6)
 (some (x0,x1,x2,x3,x4,x5,x6))
 (br (decide ((x0+1)*4<=140737488355328))
 (rec (x0+1) x1 x2 x3 x4 (x0+1) (List.append (List.take x0 x6) [qEM x7 x8]) x7 (x8+qCm x7 x8))
 (none)))
 (some (x0,x1,x2,x3,x4,x5,x6))
def qEW:Nat->Nat->Int->Int->Int->Bool->Nat->List Int->ByteArray->Nat->Option (Nat×Int×Int×Int×Bool×Nat×List Int)
 | 0,_,_,_,_,_,_,_,_,_=>none
 | f+1,x0,x1,x2,x3,x4,x5,x6,x7,x8=>qHt (qEW f) x0 x1 x2 x3 x4 x5 x6 x7 x8
def qFR (x0:ByteArray):Option (Int×Int×Int×Bool×Int):=
 br (decide (Int.ofNat (ByteArray.size x0)<=qA6))
 (ob (qEW qB 0 0 0 0 false 0 [] x0 0) fun (a1_0,_,_,_,_,_,a1_6)=>
 br (Int.ofNat a1_0 != 4)
 (br (Int.ofNat a1_0 != 5)
 (some (0,0,0,false,70))
 (br (inB 1 a1_0)
 (br (List.getD a1_6 1 0==42)
 (br (inB 0 a1_0)
 (ob (qJZ (List.getD a1_6 0 0) false) fun a8=>
 br (inB 2 a1_0)
 (br (inB 3 a1_0)
 (ob (qEX (List.getD a1_6 2 0) (List.getD a1_6 3 0)) fun (a9_0,a9_1)=>
 ob (qAQ a8) fun a11=>
 br (a11 != 0)
 (some (0,0,0,false,70))
 (br (a8==8)
 (some (0,0,0,false,70))
 (br (!a9_1)
 (some (0,0,0,false,70))
 (br (Int.ofNat a1_0 != 4)
 (some (0,0,0,false,70))
 (some (0,a9_0,a8,false,0))))))
 (none))
 (none))
 (none))
 (br (inB 0 a1_0)
 (br (inB 1 a1_0)
 (ob (qEX (List.getD a1_6 0 0) (List.getD a1_6 1 0)) fun (a8_0,a8_1)=>
 br (inB 2 a1_0)
 (br (inB 3 a1_0)
 (ob (qEX (List.getD a1_6 2 0) (List.getD a1_6 3 0)) fun (a10_0,a10_1)=>
 br (!a8_1)
 (some (0,0,0,false,70))
 (br (!a10_1)
 (some (0,0,0,false,70))
 (br (a8_0==a10_0)
 (some (0,0,0,false,70))
 (br (Int.ofNat a1_0==5)
 (br (inB 4 a1_0)
 (br (List.getD a1_6 4 0 != 43)
 (some (0,0,0,false,70))
 (some (a8_0,a10_0,0,Int.ofNat a1_0==5,0)))
 (none))
 (some (a8_0,a10_0,0,Int.ofNat a1_0==5,0))))))
 (none))
 (none))
 (none))
 (none)))
 (none)))
 (br (inB 1 a1_0)
 (br (List.getD a1_6 1 0==42)
 (br (inB 0 a1_0)
 (ob (qJZ (List.getD a1_6 0 0) false) fun a8=>
 br (inB 2 a1_0)
 (br (inB 3 a1_0)
 (ob (qEX (List.getD a1_6 2 0) (List.getD a1_6 3 0)) fun (a9_0,a9_1)=>
 ob (qAQ a8) fun a11=>
 br (a11 != 0)
 (some (0,0,0,false,70))
 (br (a8==8)
 (some (0,0,0,false,70))
 (br (!a9_1)
 (some (0,0,0,false,70))
 (br (Int.ofNat a1_0 != 4)
 (some (0,0,0,false,70))
 (some (0,a9_0,a8,false,0))))))
 (none))
 (none))
 (none))
 (br (inB 0 a1_0)
 (br (inB 1 a1_0)
 (ob (qEX (List.getD a1_6 0 0) (List.getD a1_6 1 0)) fun (a8_0,a8_1)=>
 br (inB 2 a1_0)
 (br (inB 3 a1_0)
 (ob (qEX (List.getD a1_6 2 0) (List.getD a1_6 3 0)) fun (a10_0,a10_1)=>
 br (!a8_1)
 (some (0,0,0,false,70))
 (br (!a10_1)
 (some (0,0,0,false,70))
 (br (a8_0==a10_0)
 (some (0,0,0,false,70))
 (br (Int.ofNat a1_0==5)
 (br (inB 4 a1_0)
 (br (List.getD a1_6 4 0 != 43)
 (some (0,0,0,false,70))
 (some (a8_0,a10_0,0,Int.ofNat a1_0==5,0)))
 (none))
 (some (a8_0,a10_0,0,Int.ofNat a1_0==5,0))))))
 (none))
 (none))
 (none))
 (none)))
 (none)))
 (none)
def qLO (rec:Nat->Nat->Int->Int->Nat->List (List Int)->List Int->List Int->Int->Int->Nat->List Int->List Int->Int->List (List Int)->List (List Int)->Nat->List (List Int)->Option ((Nat×Int×Int×Nat×List (List Int)×List Int×List Int×Int×Int×Nat×List Int×List Int×Int×List (List Int)×List (List Int)×Nat×List (List Int))⊕(Nat×Nat×List (List Int)×List Int×List Int×Int×Int×Nat×List Int×List Int×Int×List (List Int)×List (List Int)×Nat×List (List Int)))) (x0 x1:Nat) (x2 x3:Int) (x4:Nat) (x5:List (List Int)) (x6 x7:List Int) (x8 x9:Int) (x10:Nat) (x11 x12:List Int) (x13:Int) (x14 x15:List (List Int)) (x16:Nat) (x17:List (List Int)):Option ((Nat×Int×Int×Nat×List (List Int)×List Int×List Int×Int×Int×Nat×List Int×List Int×Int×List (List Int)×List (List Int)×Nat×List (List Int))⊕(Nat×Nat×List (List Int)×List Int×List Int×Int×Int×Nat×List Int×List Int×Int×List (List Int)×List (List Int)×Nat×List (List Int))):=
 br (decide (x3<x2))
 (br (inB x3 x1)
 (ob (qHk (List.headD (List.take 4 (List.getD x5 (Int.toNat x3) [])) 0) (List.headD (List.tail (List.take 4 (List.getD x5 (Int.toNat x3) []))) 0) (List.headD (List.tail (List.tail (List.take 4 (List.getD x5 (Int.toNat x3) [])))) 0) (List.headD (List.tail (List.tail (List.tail (List.take 4 (List.getD x5 (Int.toNat x3) []))))) 0 != 0) x11 x12 x13 x14 x15) fun (a34_0,a34_1,a34_2,a34_3,a34_4,a34_5)=>
 br (!a34_0)
 (some (.inl (x0,x3,110,x4,x5,a34_1,a34_2,a34_3,x9,x10,a34_1,a34_2,a34_3,a34_4,a34_5,x16,x17)))
 (ob (qDd (List.headD (List.take 4 (List.getD x5 (Int.toNat x3) [])) 0) (List.headD (List.tail (List.take 4 (List.getD x5 (Int.toNat x3) []))) 0) (List.headD (List.tail (List.tail (List.take 4 (List.getD x5 (Int.toNat x3) [])))) 0) (List.headD (List.tail (List.tail (List.tail (List.take 4 (List.getD x5 (Int.toNat x3) []))))) 0 != 0) x9 x10 a34_1 a34_2 a34_3 a34_4 a34_5 x16 x17) fun t40_2=>
 sw t40_2 (fun (_,a40_1,a40_2,a40_3,a40_4,a40_5,a40_6,a40_7,a40_8,a40_9)=>
 rec x0 x1 x2 (IntKind.wrap .i64 (x3+1)) x4 x5 x6 x7 x8 a40_1 a40_2 a40_3 a40_4 a40_5 a40_6 a40_7 a40_8 a40_9)
 (fun (_,a40_1,a40_2,a40_3,a40_4,a40_5,a40_6,a40_7,a40_8,a40_9)=>
 rec x0 x1 x2 (IntKind.wrap .i64 (x3+1)) x4 x5 x6 x7 x8 a40_1 a40_2 a40_3 a40_4 a40_5 a40_6 a40_7 a40_8 a40_9)))
 (none))
 (some (.inr (x0,x4,x5,x6,x7,x8,x9,x10,x11,x12,x13,x14,x15,x16,x17)))
def qDE:Nat->Nat->Nat->Int->Int->Nat->List (List Int)->List Int->List Int->Int->Int->Nat->List Int->List Int->Int->List (List Int)->List (List Int)->Nat->List (List Int)->Option ((Nat×Int×Int×Nat×List (List Int)×List Int×List Int×Int×Int×Nat×List Int×List Int×Int×List (List Int)×List (List Int)×Nat×List (List Int))⊕(Nat×Nat×List (List Int)×List Int×List Int×Int×Int×Nat×List Int×List Int×Int×List (List Int)×List (List Int)×Nat×List (List Int)))
 | 0,_,_,_,_,_,_,_,_,_,_,_,_,_,_,_,_,_,_=>none
 | f+1,x0,x1,x2,x3,x4,x5,x6,x7,x8,x9,x10,x11,x12,x13,x14,x15,x16,x17=>qLO (qDE f) x0 x1 x2 x3 x4 x5 x6 x7 x8 x9 x10 x11 x12 x13 x14 x15 x16 x17
def qGL (x0 x1:List Int) (x2:Int) (x3 x4:Nat) (x5:List (List Int)):Option (Int×List Int×List Int×Int×Int):=
 ob (qIu x0 x1 x2) fun a6=>
 br (a6 != 0)
 (some (0,x0,x1,x2,a6))
 (ob (qJC x0 x1 x2) fun (a7_0,a7_1,a7_2,a7_3,a7_4,a7_5,a7_6,a7_7,a7_8)=>
 ob (qDE qB x3 x3 (Int.ofNat x3) 0 x4 x5 ([0,0,0,0,0,0,0,0,0,0,0,0,0,0,0,0,0,0,0,0,0,0,0,0,0,0,0,0,0,0,0,0,0,0,0,0,0,0,0,0,0,0,0,0,0,0,0,0,0,0,0,0,0,0,0,0,0,0,0,0,0,0,0,0,0,0,0,0,0,0,0,0,0,0,0,0,0,0,0,0,0]) ([0,0,0,0,0,0,0,0,0,0,0,0,0,0,0,0]) 0 a7_0 a7_1 a7_2 a7_3 a7_4 a7_5 a7_6 a7_7 a7_8) fun t16_2=>
 sw t16_2 (fun (_,a16_1,a16_2,_,_,a16_5,a16_6,a16_7,_,_,_,_,_,_,_,_,_)=>
 some (a16_1,a16_5,a16_6,a16_7,a16_2))
 (fun (a16_0,_,_,_,_,_,_,_,a16_8,a16_9,a16_10,_,_,_,_)=>
 some (Int.ofNat a16_0,a16_8,a16_9,a16_10,0)))
def qfv (rec:Int->ByteArray->Nat->Option (Int)) (x0:Int) (x1:ByteArray) (x2:Nat):Option (Int):=
 br (Nat.blt x2 (ByteArray.size x1))
 (rec (IntKind.wrap .i64 (x0+1)) x1 (x2+qCm x1 x2))
 (some (x0))
def qM8:Nat->Int->ByteArray->Nat->Option (Int)
 | 0,_,_,_=>none
 | f+1,x0,x1,x2=>qfv (qM8 f) x0 x1 x2
def qM6 (x0:ByteArray):Option (Int):=
 br (decide (Int.ofNat (ByteArray.size x0)<=qA6))
 (ob (qM8 qB 0 x0 0) fun a1=>
 some (a1))
 (none)
def qM9 (x0:ByteArray):Option (Int×Int):=
 br (decide (Int.ofNat (ByteArray.size x0)<=qA6))
 (br (decide (Int.ofNat (ByteArray.size x0)<1))
 (some (65533,0))
 (br (inB 0 (ByteArray.size x0))
 (none)
 (none)))
 (none)
def qTX (x0:ByteArray):Option (Int×Int):=
 br (!qDO x0 { data:=#[]})
 (br (inB 0 (ByteArray.size x0))
 (br (decide (qDA x0 0<128))
 (br (inB 0 (ByteArray.size x0))
 (some (Int.ofNat (UInt8.toNat (List.getD (Array.toList (ByteArray.data x0)) 0 0)),1))
 (none))
 (ob (qM9 x0) fun (a1_0,a1_1)=>
 some (a1_0,a1_1)))
 (none))
 (ob (qM9 x0) fun (a1_0,a1_1)=>
 some (a1_0,a1_1))
def qfJ (rec:ByteArray->Int->Nat->Int->Nat->List (List Int)->Option (ByteArray×Int×Nat×Nat×List (List Int))) (x0:ByteArray) (x1:Int) (x2:Nat) (x3:Int) (x4:Nat) (x5:List (List Int)):Option (ByteArray×Int×Nat×Nat×List (List Int)):=
 br (decide (x3<IntKind.wrap .i64 (x1 - 1)))
 (ob (qTX x0) fun (_,a9_1)=>
 br (qBi a9_1 (ByteArray.size x0)&&true)
 (br (inB x3 x2)
 (br (true&&qBi a9_1 (ByteArray.size x0))
 (rec (ByteArray.extract x0 (Int.toNat a9_1) (ByteArray.size x0)) x1 x2 (IntKind.wrap .i64 (x3+1)) x4 (List.set x5 (Int.toNat x3) (List.set (List.getD x5 (Int.toNat x3) []) 0 (qAL (ByteArray.extract x0 0 (Int.toNat a9_1))))))
 (none))
 (none))
 (none))
 (some (x0,x1,x2,x4,x5))
def qIh:Nat->ByteArray->Int->Nat->Int->Nat->List (List Int)->Option (ByteArray×Int×Nat×Nat×List (List Int))
 | 0,_,_,_,_,_,_=>none
 | f+1,x0,x1,x2,x3,x4,x5=>qfJ (qIh f) x0 x1 x2 x3 x4 x5
def qTB (x0:ByteArray) (x1:Int):Option (Nat×Nat×List (List Int)):=
 ob (qM6 x0) fun a2=>
 br (decide (x1<0))
 (br (decide (0<=a2))
 (br (decide (a2<=a2))
 (br (decide (16*a2<=281474976710656))
 (ob (qIh qB x0 a2 (Int.toNat a2) 0 (Int.toNat a2) (List.replicate (Int.toNat a2) [0])) fun (a3_0,a3_1,a3_2,a3_3,a3_4)=>
 br (decide (a3_1>0))
 (br (inB (IntKind.wrap .i64 (a3_1 - 1)) a3_2)
 (some (a3_2,a3_3,List.set a3_4 (Int.toNat (IntKind.wrap .i64 (a3_1 - 1))) (List.set (List.getD a3_4 (Int.toNat (IntKind.wrap .i64 (a3_1 - 1))) []) 0 (qAL a3_0))))
 (none))
 (some (a3_2,a3_3,a3_4)))
 (none))
 (none))
 (none))
 (br (decide (x1>a2))
 (br (decide (0<=a2))
 (br (decide (a2<=a2))
 (br (decide (16*a2<=281474976710656))
 (ob (qIh qB x0 a2 (Int.toNat a2) 0 (Int.toNat a2) (List.replicate (Int.toNat a2) [0])) fun (a3_0,a3_1,a3_2,a3_3,a3_4)=>
 br (decide (a3_1>0))
 (br (inB (IntKind.wrap .i64 (a3_1 - 1)) a3_2)
 (some (a3_2,a3_3,List.set a3_4 (Int.toNat (IntKind.wrap .i64 (a3_1 - 1))) (List.set (List.getD a3_4 (Int.toNat (IntKind.wrap .i64 (a3_1 - 1))) []) 0 (qAL a3_0))))
 (none))
 (some (a3_2,a3_3,a3_4)))
 (none))
 (none))
 (none))
 (br (decide (0<=x1))
 (br (decide (x1<=x1))
 (br (decide (16*x1<=281474976710656))
 (ob (qIh qB x0 x1 (Int.toNat x1) 0 (Int.toNat x1) (List.replicate (Int.toNat x1) [0])) fun (a3_0,a3_1,a3_2,a3_3,a3_4)=>
 br (decide (a3_1>0))
 (br (inB (IntKind.wrap .i64 (a3_1 - 1)) a3_2)
 (some (a3_2,a3_3,List.set a3_4 (Int.toNat (IntKind.wrap .i64 (a3_1 - 1))) (List.set (List.getD a3_4 (Int.toNat (IntKind.wrap .i64 (a3_1 - 1))) []) 0 (qAL a3_0))))
 (none))
 (some (a3_2,a3_3,a3_4)))
 (none))
 (none))
 (none)))
def qTK (x0:ByteArray) (x1:Int):Option (Int):=
 br (qCf (ByteArray.size x0))
 (some (qCp 1 x0 x1))
 (none)
def qTJ (x0 x1:ByteArray):Option (Int):=
 br (decide (Int.ofNat (ByteArray.size x1)<=qA6))
 (br (Int.ofNat (ByteArray.size x1)==0)
 (some (0))
 (br (qDO x1 x0)
 (some (0))
 (br (Int.ofNat (ByteArray.size x1)==1)
 (br (inB 0 (ByteArray.size x1))
 (ob (qTK x0 (qDA x1 0)) fun a2=>
 some (a2))
 (none))
 (br (decide (Int.ofNat (ByteArray.size x0)<=qA6))
 (br (decide (Int.ofNat (ByteArray.size x1) >= Int.ofNat (ByteArray.size x0)))
 (some (-1))
 (none))
 (none)))))
 (none)
def qMz (x0 x1:ByteArray):Option (Int):=
 ob (qTJ x0 x1) fun a2=>
 some (a2)
def qe2 (rec:ByteArray->ByteArray->Int->Option (Int)) (x0 x1:ByteArray) (x2:Int):Option (Int):=
 ob (qMz x0 x1) fun a5=>
 br (a5 == -1)
 (some (x2))
 (br (decide (Int.ofNat (ByteArray.size x1)<=qA6))
 (br (true&&qBi (IntKind.wrap .i64 (a5+Int.ofNat (ByteArray.size x1))) (ByteArray.size x0))
 (rec (ByteArray.extract x0 (Int.toNat (IntKind.wrap .i64 (a5+Int.ofNat (ByteArray.size x1)))) (ByteArray.size x0)) x1 (IntKind.wrap .i64 (x2+1)))
 (none))
 (none))
def qMy:Nat->ByteArray->ByteArray->Int->Option (Int)
 | 0,_,_,_=>none
 | f+1,x0,x1,x2=>qe2 (qMy f) x0 x1 x2
def qS5 (x0 x1:ByteArray):Option (Int):=
 br (decide (Int.ofNat (ByteArray.size x1)<=qA6))
 (br (Int.ofNat (ByteArray.size x1)==0)
 (ob (qM6 x0) fun a2=>
 some (IntKind.wrap .i64 (a2+1)))
 (br (decide (Int.ofNat (ByteArray.size x1)<=qA6))
 (br (Int.ofNat (ByteArray.size x1)==1)
 (br (inB 0 (ByteArray.size x1))
 (br (qCf (ByteArray.size x0))
 (some (qCp 0 x0 (qDA x1 0)))
 (none))
 (none))
 (ob (qMy qB x0 x1 0) fun a2=>
 some (a2)))
 (none)))
 (none)
def qfP (rec:ByteArray->ByteArray->Int->Int->Nat->Int->Nat->List (List Int)->Option (ByteArray×Nat×Int×Nat×List (List Int))) (x0 x1:ByteArray) (x2 x3:Int) (x4:Nat) (x5:Int) (x6:Nat) (x7:List (List Int)):Option (ByteArray×Nat×Int×Nat×List (List Int)):=
 br (decide (x5<x3))
 (ob (qMz x0 x1) fun a13=>
 br (decide (a13<0))
 (some (x0,x4,x5,x6,x7))
 (br (qBi (IntKind.wrap .i64 (a13+x2)) (ByteArray.size x0)&&true)
 (br (inB x5 x4)
 (br (decide (Int.ofNat (ByteArray.size x1)<=qA6))
 (br (true&&qBi (IntKind.wrap .i64 (a13+Int.ofNat (ByteArray.size x1))) (ByteArray.size x0))
 (rec (ByteArray.extract x0 (Int.toNat (IntKind.wrap .i64 (a13+Int.ofNat (ByteArray.size x1)))) (ByteArray.size x0)) x1 x2 x3 x4 (IntKind.wrap .i64 (x5+1)) x6 (List.set x7 (Int.toNat x5) (List.set (List.getD x7 (Int.toNat x5) []) 0 (qAL (ByteArray.extract x0 0 (Int.toNat (IntKind.wrap .i64 (a13+x2))))))))
 (none))
 (none))
 (none))
 (none)))
 (some (x0,x4,x5,x6,x7))
def qJ4:Nat->ByteArray->ByteArray->Int->Int->Nat->Int->Nat->List (List Int)->Option (ByteArray×Nat×Int×Nat×List (List Int))
 | 0,_,_,_,_,_,_,_,_=>none
 | f+1,x0,x1,x2,x3,x4,x5,x6,x7=>qfP (qJ4 f) x0 x1 x2 x3 x4 x5 x6 x7
def qTF (x0 x1:ByteArray) (x2 x3:Int):Option (Nat×Nat×List (List Int)):=
 br (x3==0)
 (some (0,0,[]))
 (br (qDO x1 { data:=#[]})
 (ob (qTB x0 x3) fun (a4_0,a4_1,a4_2)=>
 some (a4_0,a4_1,a4_2))
 (br (decide (x3<0))
 (ob (qS5 x0 x1) fun a4=>
 br (decide (Int.ofNat (ByteArray.size x0)<=qA6))
 (br (decide (0<=bif true then bif decide (IntKind.wrap .i64 (Int.ofNat (ByteArray.size x0)+1)<IntKind.wrap .i64 (a4+1)) then IntKind.wrap .i64 (Int.ofNat (ByteArray.size x0)+1) else IntKind.wrap .i64 (a4+1) else bif decide (IntKind.wrap .i64 (Int.ofNat (ByteArray.size x0)+1)>IntKind.wrap .i64 (a4+1)) then IntKind.wrap .i64 (Int.ofNat (ByteArray.size x0)+1) else IntKind.wrap .i64 (a4+1)))
 (br (decide ((bif true then bif decide (IntKind.wrap .i64 (Int.ofNat (ByteArray.size x0)+1)<IntKind.wrap .i64 (a4+1)) then IntKind.wrap .i64 (Int.ofNat (ByteArray.size x0)+1) else IntKind.wrap .i64 (a4+1) else bif decide (IntKind.wrap .i64 (Int.ofNat (ByteArray.size x0)+1)>IntKind.wrap .i64 (a4+1)) then IntKind.wrap .i64 (Int.ofNat (ByteArray.size x0)+1) else IntKind.wrap .i64 (a4+1))<=bif true then bif decide (IntKind.wrap .i64 (Int.ofNat (ByteArray.size x0)+1)<IntKind.wrap .i64 (a4+1)) then IntKind.wrap .i64 (Int.ofNat (ByteArray.size x0)+1) else IntKind.wrap .i64 (a4+1) else bif decide (IntKind.wrap .i64 (Int.ofNat (ByteArray.size x0)+1)>IntKind.wrap .i64 (a4+1)) then IntKind.wrap .i64 (Int.ofNat (ByteArray.size x0)+1) else IntKind.wrap .i64 (a4+1)))
 (br (decide ((16*bif true then bif decide (IntKind.wrap .i64 (Int.ofNat (ByteArray.size x0)+1)<IntKind.wrap .i64 (a4+1)) then IntKind.wrap .i64 (Int.ofNat (ByteArray.size x0)+1) else IntKind.wrap .i64 (a4+1) else bif decide (IntKind.wrap .i64 (Int.ofNat (ByteArray.size x0)+1)>IntKind.wrap .i64 (a4+1)) then IntKind.wrap .i64 (Int.ofNat (ByteArray.size x0)+1) else IntKind.wrap .i64 (a4+1))<=281474976710656))
 (ob (qJ4 qB x0 x1 x2 (IntKind.wrap .i64 ((bif true then bif decide (IntKind.wrap .i64 (Int.ofNat (ByteArray.size x0)+1)<IntKind.wrap .i64 (a4+1)) then IntKind.wrap .i64 (Int.ofNat (ByteArray.size x0)+1) else IntKind.wrap .i64 (a4+1) else bif decide (IntKind.wrap .i64 (Int.ofNat (ByteArray.size x0)+1)>IntKind.wrap .i64 (a4+1)) then IntKind.wrap .i64 (Int.ofNat (ByteArray.size x0)+1) else IntKind.wrap .i64 (a4+1)) - 1)) (Int.toNat (bif true then bif decide (IntKind.wrap .i64 (Int.ofNat (ByteArray.size x0)+1)<IntKind.wrap .i64 (a4+1)) then IntKind.wrap .i64 (Int.ofNat (ByteArray.size x0)+1) else IntKind.wrap .i64 (a4+1) else bif decide (IntKind.wrap .i64 (Int.ofNat (ByteArray.size x0)+1)>IntKind.wrap .i64 (a4+1)) then IntKind.wrap .i64 (Int.ofNat (ByteArray.size x0)+1) else IntKind.wrap .i64 (a4+1))) 0 (Int.toNat (bif true then bif decide (IntKind.wrap .i64 (Int.ofNat (ByteArray.size x0)+1)<IntKind.wrap .i64 (a4+1)) then IntKind.wrap .i64 (Int.ofNat (ByteArray.size x0)+1) else IntKind.wrap .i64 (a4+1) else bif decide (IntKind.wrap .i64 (Int.ofNat (ByteArray.size x0)+1)>IntKind.wrap .i64 (a4+1)) then IntKind.wrap .i64 (Int.ofNat (ByteArray.size x0)+1) else IntKind.wrap .i64 (a4+1))) (List.replicate (Int.toNat (bif true then bif decide (IntKind.wrap .i64 (Int.ofNat (ByteArray.size x0)+1)<IntKind.wrap .i64 (a4+1)) then IntKind.wrap .i64 (Int.ofNat (ByteArray.size x0)+1) else IntKind.wrap .i64 (a4+1) else bif decide (IntKind.wrap .i64 (Int.ofNat (ByteArray.size x0)+1)>IntKind.wrap .i64 (a4+1)) then IntKind.wrap .i64 (Int.ofNat (ByteArray.size x0)+1) else IntKind.wrap .i64 (a4+1))) [0])) fun (a5_0,a5_1,a5_2,a5_3,a5_4)=>
 br (inB a5_2 a5_1)
 (br (qBi (IntKind.wrap .i64 (a5_2+1)) a5_1)
 (some (Int.toNat (IntKind.wrap .i64 (a5_2+1)) - 0,a5_3,List.set a5_4 (Int.toNat a5_2) (List.set (List.getD a5_4 (Int.toNat a5_2) []) 0 (qAL a5_0))))
 (none))
 (none))
 (none))
 (none))
 (none))
 (none))
 (br (decide (Int.ofNat (ByteArray.size x0)<=qA6))
 (br (decide (0<=bif true then bif decide (IntKind.wrap .i64 (Int.ofNat (ByteArray.size x0)+1)<x3) then IntKind.wrap .i64 (Int.ofNat (ByteArray.size x0)+1) else x3 else bif decide (IntKind.wrap .i64 (Int.ofNat (ByteArray.size x0)+1)>x3) then IntKind.wrap .i64 (Int.ofNat (ByteArray.size x0)+1) else x3))
 (br (decide ((bif true then bif decide (IntKind.wrap .i64 (Int.ofNat (ByteArray.size x0)+1)<x3) then IntKind.wrap .i64 (Int.ofNat (ByteArray.size x0)+1) else x3 else bif decide (IntKind.wrap .i64 (Int.ofNat (ByteArray.size x0)+1)>x3) then IntKind.wrap .i64 (Int.ofNat (ByteArray.size x0)+1) else x3)<=bif true then bif decide (IntKind.wrap .i64 (Int.ofNat (ByteArray.size x0)+1)<x3) then IntKind.wrap .i64 (Int.ofNat (ByteArray.size x0)+1) else x3 else bif decide (IntKind.wrap .i64 (Int.ofNat (ByteArray.size x0)+1)>x3) then IntKind.wrap .i64 (Int.ofNat (ByteArray.size x0)+1) else x3))
 (br (decide ((16*bif true then bif decide (IntKind.wrap .i64 (Int.ofNat (ByteArray.size x0)+1)<x3) then IntKind.wrap .i64 (Int.ofNat (ByteArray.size x0)+1) else x3 else bif decide (IntKind.wrap .i64 (Int.ofNat (ByteArray.size x0)+1)>x3) then IntKind.wrap .i64 (Int.ofNat (ByteArray.size x0)+1) else x3)<=281474976710656))
 (ob (qJ4 qB x0 x1 x2 (IntKind.wrap .i64 ((bif true then bif decide (IntKind.wrap .i64 (Int.ofNat (ByteArray.size x0)+1)<x3) then IntKind.wrap .i64 (Int.ofNat (ByteArray.size x0)+1) else x3 else bif decide (IntKind.wrap .i64 (Int.ofNat (ByteArray.size x0)+1)>x3) then IntKind.wrap .i64 (Int.ofNat (ByteArray.size x0)+1) else x3) - 1)) (Int.toNat (bif true then bif decide (IntKind.wrap .i64 (Int.ofNat (ByteArray.size x0)+1)<x3) then IntKind.wrap .i64 (Int.ofNat (ByteArray.size x0)+1) else x3 else bif decide (IntKind.wrap .i64 (Int.ofNat (ByteArray.size x0)+1)>x3) then IntKind.wrap .i64 (Int.ofNat (ByteArray.size x0)+1) else x3)) 0 (Int.toNat (bif true then bif decide (IntKind.wrap .i64 (Int.ofNat (ByteArray.size x0)+1)<x3) then IntKind.wrap .i64 (Int.ofNat (ByteArray.size x0)+1) else x3 else bif decide (IntKind.wrap .i64 (Int.ofNat (ByteArray.size x0)+1)>x3) then IntKind.wrap .i64 (Int.ofNat (ByteArray.size x0)+1) else x3)) (List.replicate (Int.toNat (bif true then bif decide (IntKind.wrap .i64 (Int.ofNat (ByteArray.size x0)+1)<x3) then IntKind.wrap .i64 (Int.ofNat (ByteArray.size x0)+1) else x3 else bif decide (IntKind.wrap .i64 (Int.ofNat (ByteArray.size x0)+1)>x3) then IntKind.wrap .i64 (Int.ofNat (ByteArray.size x0)+1) else x3)) [0])) fun (a4_0,a4_1,a4_2,a4_3,a4_4)=>
 br (inB a4_2 a4_1)
 (br (qBi (IntKind.wrap .i64 (a4_2+1)) a4_1)
 (some (Int.toNat (IntKind.wrap .i64 (a4_2+1)) - 0,a4_3,List.set a4_4 (Int.toNat a4_2) (List.set (List.getD a4_4 (Int.toNat a4_2) []) 0 (qAL a4_0))))
 (none))
 (none))
 (none))
 (none))
 (none))
 (none))))
def qTA (x0 x1:ByteArray):Option (Nat×Nat×List (List Int)):=
 ob (qTF x0 x1 0 (-1)) fun (a2_0,a2_1,a2_2)=>
 some (a2_0,a2_1,a2_2)
def qYN (rec:Nat->Nat->Int->Int->Nat->List (List Int)->Nat->List (List Int)->Option ((Nat×Int×Int×Nat×Nat×List (List Int)×Nat×List (List Int))⊕(Nat×Nat×List (List Int)))) (x0 x1:Nat) (x2 x3:Int) (x4:Nat) (x5:List (List Int)) (x6:Nat) (x7:List (List Int)):Option ((Nat×Int×Int×Nat×Nat×List (List Int)×Nat×List (List Int))⊕(Nat×Nat×List (List Int))):=
 br (decide (x3<x2))
 (br (inB x3 x1)
 (ob (qFR (qA2 (List.getD (List.getD x7 (Int.toNat x3) []) 0 0))) fun (a12_0,a12_1,a12_2,a12_3,a12_4)=>
 br (a12_4 != 0)
 (some (.inl (0,x3,a12_4,x0,0,[],x4,x5)))
 (br (decide ((x0+1)*32<=140737488355328))
 (rec (x0+1) x1 x2 (IntKind.wrap .i64 (x3+1)) (x0+1) (List.append (List.take x0 x5) [[a12_0,a12_1,a12_2,bi a12_3]]) x6 x7)
 (none)))
 (none))
 (some (.inr (x0,x4,x5)))
def qLM:Nat->Nat->Nat->Int->Int->Nat->List (List Int)->Nat->List (List Int)->Option ((Nat×Int×Int×Nat×Nat×List (List Int)×Nat×List (List Int))⊕(Nat×Nat×List (List Int)))
 | 0,_,_,_,_,_,_,_,_=>none
 | f+1,x0,x1,x2,x3,x4,x5,x6,x7=>qYN (qLM f) x0 x1 x2 x3 x4 x5 x6 x7
def qPr (x0:ByteArray):Option (Nat×Int×Int×Nat×List (List Int)):=
 br (qDO x0 { data:=#[]})
 (some (0,0,0,0,[]))
 (ob (qTA x0 ({data:=#[32]})) fun (a1_0,a1_1,a1_2)=>
 ob (qLM qB 0 a1_0 (Int.ofNat a1_0) 0 0 [] a1_1 a1_2) fun t4_2=>
 sw t4_2 (fun (a4_0,a4_1,a4_2,_,a4_4,a4_5,_,_)=>
 some (a4_0,a4_1,a4_2,a4_4,a4_5))
 (fun (a4_0,a4_1,a4_2)=>
 some (a4_0,Int.ofNat a4_0,0,a4_1,a4_2)))
def strings_Join (x0:Nat) (x1:ByteArray) (_x2:Nat) (x3:List (List Int)):Option (ByteArray):=
 br (qO7 (qEm (List.take x0 x3)) x1)
 (some (qK6 (qEm (List.take x0 x3)) x1))
 (none)
def qYY (rec:Nat->Nat->Int->Int->Nat->List (List Int)->Nat->List (List Int)->Option (Nat×Nat×List (List Int)×Nat×List (List Int))) (x0 x1:Nat) (x2 x3:Int) (x4:Nat) (x5:List (List Int)) (x6:Nat) (x7:List (List Int)):Option (Nat×Nat×List (List Int)×Nat×List (List Int)):=
 br (decide (x3<x2))
 (br (inB x3 x1)
 (ob (qHu (List.headD (List.take 4 (List.getD x5 (Int.toNat x3) [])) 0) (List.headD (List.tail (List.take 4 (List.getD x5 (Int.toNat x3) []))) 0) (List.headD (List.tail (List.tail (List.take 4 (List.getD x5 (Int.toNat x3) [])))) 0) (List.headD (List.tail (List.tail (List.tail (List.take 4 (List.getD x5 (Int.toNat x3) []))))) 0 != 0)) fun a11=>
 br (decide ((x0+1)*16<=140737488355328))
 (rec (x0+1) x1 x2 (IntKind.wrap .i64 (x3+1)) x4 x5 (x0+1) (List.append (List.take x0 x7) [[qAL a11]]))
 (none))
 (none))
 (some (x0,x4,x5,x6,x7))
def qLQ:Nat->Nat->Nat->Int->Int->Nat->List (List Int)->Nat->List (List Int)->Option (Nat×Nat×List (List Int)×Nat×List (List Int))
 | 0,_,_,_,_,_,_,_,_=>none
 | f+1,x0,x1,x2,x3,x4,x5,x6,x7=>qYY (qLQ f) x0 x1 x2 x3 x4 x5 x6 x7
def qPz (x0 x1:Nat) (x2:List (List Int)):Option (ByteArray):=
 ob (qLQ qB 0 x0 (Int.ofNat x0) 0 x1 x2 0 []) fun (a3_0,_,_,a3_3,a3_4)=>
 ob (strings_Join a3_0 ({data:=#[32]}) a3_3 a3_4) fun a8=>
 some (a8)
def qLH:Option (Bool):=
 ob (qN1 ) fun (a0_0,a0_1,a0_2)=>
 ob (qGL a0_0 a0_1 a0_2 2 2 ([[60,59,0,0],[60,58,0,0]])) fun (a3_0,a3_1,_,_,a3_4)=>
 ob (qPr ({data:=#[55,103,55,102,32,51,99,51,100]})) fun (a8_0,a8_1,a8_2,a8_3,a8_4)=>
 br (a3_0==1)
 (br (a3_4==110)
 (br (List.getD a3_1 59 0==1)
 (br (a8_2==0)
 (br (a8_1==2)
 (ob (qPz a8_0 a8_3 a8_4) fun a13=>
 some (qDO a13 { data:=#[55,103,55,102,32,51,99,51,100]}))
 (some (false)))
 (some (false)))
 (some (false)))
 (some (false)))
 (some (false))
def qHe (rec:Nat->Nat->Nat->Int->Int->Nat->List Int->List Int->List Int->Int->Int->Int->Int->Bool->Nat->List (List Int)->List Int->List Int->Int->Option (Nat×Nat×List Int×List Int×List Int×Int×Int×Int×Int×Bool×Nat×List (List Int)×List Int×List Int×Int)) (x0 x1 x2:Nat) (x3 x4:Int) (x5:Nat) (x6 x7 x8:List Int) (x9 x10:Int) (x11 x12:Int) (x13:Bool) (x14:Nat) (x15:List (List Int)) (x16 x17:List Int) (x18:Int):Option (Nat×Nat×List Int×List Int×List Int×Int×Int×Int×Int×Bool×Nat×List (List Int)×List Int×List Int×Int):=
 br (decide (x4<x3))
 (br (inB x4 x2)
 (ob (qJo x16 x17 x18) fun (a32_0,_,a32_2)=>
 br (Int.ofNat a32_0==0)
 (some (x0,x5,x6,x7,x8,x9,x10,x11,x12,x13,x14,x15,x16,x17,x18))
 (br (decide (List.getD x6 (x1+Int.toNat x4) 0<0))
 (some (x0,x5,x6,x7,x8,x9,x10,x11,x12,x13,x14,x15,x16,x17,x18))
 (br (decide (Int.ofNat a32_0=0))
 (none)
 (br (inB (Int.tmod (List.getD x6 (x1+Int.toNat x4) 0) (Int.ofNat a32_0)) a32_0)
 (br (decide ((x0+1)*32<=140737488355328))
 (br (decide (Int.ofNat a32_0=0))
 (none)
 (br (inB (Int.tmod (List.getD x6 (x1+Int.toNat x4) 0) (Int.ofNat a32_0)) a32_0)
 (ob (qFi x16 x17 x18 (List.headD (List.take 4 (List.getD a32_2 (Int.toNat (Int.tmod (List.getD x6 (x1+Int.toNat x4) 0) (Int.ofNat a32_0))) [])) 0) (List.headD (List.tail (List.take 4 (List.getD a32_2 (Int.toNat (Int.tmod (List.getD x6 (x1+Int.toNat x4) 0) (Int.ofNat a32_0))) []))) 0) (List.headD (List.tail (List.tail (List.take 4 (List.getD a32_2 (Int.toNat (Int.tmod (List.getD x6 (x1+Int.toNat x4) 0) (Int.ofNat a32_0))) [])))) 0) (List.headD (List.tail (List.tail (List.tail (List.take 4 (List.getD a32_2 (Int.toNat (Int.tmod (List.getD x6 (x1+Int.toNat x4) 0) (Int.ofNat a32_0))) []))))) 0 != 0)) fun (a35_0,a35_1,a35_2)=>
 rec (x0+1) x1 x2 x3 (IntKind.wrap .i64 (x4+1)) x5 x6 x7 x8 x9 x10 x11 x12 x13 (x0+1) (List.append (List.take x0 x15) [[List.headD (List.take 4 (List.getD a32_2 (Int.toNat (Int.tmod (List.getD x6 (x1+Int.toNat x4) 0) (Int.ofNat a32_0))) [])) 0,List.headD (List.tail (List.take 4 (List.getD a32_2 (Int.toNat (Int.tmod (List.getD x6 (x1+Int.toNat x4) 0) (Int.ofNat a32_0))) []))) 0,List.headD (List.tail (List.tail (List.take 4 (List.getD a32_2 (Int.toNat (Int.tmod (List.getD x6 (x1+Int.toNat x4) 0) (Int.ofNat a32_0))) [])))) 0,bi (List.headD (List.tail (List.tail (List.tail (List.take 4 (List.getD a32_2 (Int.toNat (Int.tmod (List.getD x6 (x1+Int.toNat x4) 0) (Int.ofNat a32_0))) []))))) 0 != 0)]]) a35_0 a35_1 a35_2)
 (none)))
 (none))
 (none)))))
 (none))
 (some (x0,x5,x6,x7,x8,x9,x10,x11,x12,x13,x14,x15,x16,x17,x18))
def qDD:Nat->Nat->Nat->Nat->Int->Int->Nat->List Int->List Int->List Int->Int->Int->Int->Int->Bool->Nat->List (List Int)->List Int->List Int->Int->Option (Nat×Nat×List Int×List Int×List Int×Int×Int×Int×Int×Bool×Nat×List (List Int)×List Int×List Int×Int)
 | 0,_,_,_,_,_,_,_,_,_,_,_,_,_,_,_,_,_,_,_=>none
 | f+1,x0,x1,x2,x3,x4,x5,x6,x7,x8,x9,x10,x11,x12,x13,x14,x15,x16,x17,x18=>qHe (qDD f) x0 x1 x2 x3 x4 x5 x6 x7 x8 x9 x10 x11 x12 x13 x14 x15 x16 x17 x18
def qLG (rec:Nat->Int->Int->Nat->List Int->List Int->List Int->Int->Int->Int->Int->Bool->Nat->List (List Int)->List Int->List Int->Int->Option ((Bool×Nat×Nat×List Int×List Int×List Int×Int×Int×Int×Int×Bool×Nat×List (List Int)×List Int×List Int×Int)⊕(Nat×Nat×List Int×List Int×List Int×Int×Int×Int×Int×Bool×Nat×List (List Int)×List Int×List Int×Int))) (x0:Nat) (x1 x2:Int) (x3:Nat) (x4 x5 x6:List Int) (x7 x8:Int) (x9 x10:Int) (x11:Bool) (x12:Nat) (x13:List (List Int)) (x14 x15:List Int) (x16:Int):Option ((Bool×Nat×Nat×List Int×List Int×List Int×Int×Int×Int×Int×Bool×Nat×List (List Int)×List Int×List Int×Int)⊕(Nat×Nat×List Int×List Int×List Int×Int×Int×Int×Int×Bool×Nat×List (List Int)×List Int×List Int×Int)):=
 br (decide (x2<x1))
 (br (qBi x2 x0)
 (ob (qGL x5 x6 x7 (Int.toNat x2 - 0) x12 x13) fun (a45_0,_,_,_,a45_4)=>
 br (a45_0 != x2)
 (some (.inl (false,x0,x3,x4,x5,x6,x7,x8,x9,x10,x11,x12,x13,x14,x15,x16)))
 (br (a45_4 != 0)
 (some (.inl (false,x0,x3,x4,x5,x6,x7,x8,x9,x10,x11,x12,x13,x14,x15,x16)))
 (rec x0 x1 (IntKind.wrap .i64 (x2+1)) x3 x4 x5 x6 x7 x8 x9 x10 x11 x12 x13 x14 x15 x16)))
 (none))
 (some (.inr (x0,x3,x4,x5,x6,x7,x8,x9,x10,x11,x12,x13,x14,x15,x16)))
def qGK:Nat->Nat->Int->Int->Nat->List Int->List Int->List Int->Int->Int->Int->Int->Bool->Nat->List (List Int)->List Int->List Int->Int->Option ((Bool×Nat×Nat×List Int×List Int×List Int×Int×Int×Int×Int×Bool×Nat×List (List Int)×List Int×List Int×Int)⊕(Nat×Nat×List Int×List Int×List Int×Int×Int×Int×Int×Bool×Nat×List (List Int)×List Int×List Int×Int))
 | 0,_,_,_,_,_,_,_,_,_,_,_,_,_,_,_,_,_=>none
 | f+1,x0,x1,x2,x3,x4,x5,x6,x7,x8,x9,x10,x11,x12,x13,x14,x15,x16=>qLG (qGK f) x0 x1 x2 x3 x4 x5 x6 x7 x8 x9 x10 x11 x12 x13 x14 x15 x16
def qJQ (x0 x1:List Int) (x2:Int) (x3 x4 x5:Nat) (x6:List Int) (x7 x8 x9:Int) (x10:Bool):Option (Bool):=
 ob (qLH ) fun a11=>
 br (!a11)
 (some (false))
 (ob (qJi x0 x1 x2) fun a12=>
 br (a12 != 0)
 (some (true))
 (br (decide (Int.ofNat x4>12))
 (some (true))
 (ob (qDD qB 0 x3 x4 (Int.ofNat x4) 0 x5 x6 x0 x1 x2 x7 x8 x9 x10 0 [] x0 x1 x2) fun (a13_0,a13_1,a13_2,a13_3,a13_4,a13_5,a13_6,a13_7,a13_8,a13_9,a13_10,a13_11,a13_12,a13_13,a13_14)=>
 ob (qGK qB a13_0 (Int.ofNat a13_0) 0 a13_1 a13_2 a13_3 a13_4 a13_5 a13_6 a13_7 a13_8 a13_9 a13_10 a13_11 a13_12 a13_13 a13_14) fun t28_2=>
 sw t28_2 (fun (a28_0,_,_,_,_,_,_,_,_,_,_,_,_,_,_,_)=>
 some (a28_0))
 (fun (a28_0,_,_,a28_3,a28_4,a28_5,a28_6,a28_7,a28_8,a28_9,_,a28_11,a28_12,a28_13,a28_14)=>
 br (decide ((0+a28_0)*32<=140737488355328))
 (br (decide ((0+a28_0+1)*32<=140737488355328))
 (ob (qGL a28_3 a28_4 a28_5 (0+a28_0+1) (0+a28_0+1) (List.append (List.take (0+a28_0) (List.take a28_0 a28_11)) [[a28_6,a28_7,a28_8,bi a28_9]])) fun (a43_0,a43_1,a43_2,a43_3,a43_4)=>
 ob (qGc a28_12 a28_13 a28_14 a28_6 a28_7 a28_8 a28_9) fun a48=>
 br (a48)
 (br (a43_0==IntKind.wrap .i64 (Int.ofNat a28_0+1))
 (some (a43_4==0))
 (some (false)))
 (br (a43_0==Int.ofNat a28_0)
 (br (a43_1==a28_12&&(a43_2==a28_13&&a43_3==a28_14))
 (some (a43_4==110))
 (some (false)))
 (some (false))))
 (none))
 (none)))))
end Go.Kk.Pl
