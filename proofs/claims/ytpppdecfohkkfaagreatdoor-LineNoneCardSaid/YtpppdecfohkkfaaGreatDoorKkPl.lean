/- Printed by a tool of this project (KkGen): the plain functions that the program's code comes to. -/
import Derived.Test.YtpppdecfohkkfaaGreatDoorKkE
namespace Go.Kk.Pl
def qCD (x0 x1:Int):Option (Int):=
 br (decide (x0<0))
 (some (-1))
 (br (decide (x0>8))
 (some (-1))
 (br (decide (x1<0))
 (some (-1))
 (br (decide (x1>8))
 (some (-1))
 (some (IntKind.wrap .i64 (IntKind.wrap .i64 (9*x0)+x1))))))
def qKF (x0 x1 x2:Int):Option (Int):=
 br (x1==1)
 (ob (qCD x2 x0) fun a3=>
 some (a3))
 (ob (qCD x2 (IntKind.wrap .i64 (8 - x0))) fun a3=>
 some (a3))
def qAm (x0 x1:Int):Option (Int):=
 br (x0 != 0)
 (br (x0 != 1)
 (some (0))
 (br (decide (x1<1))
 (some (0))
 (br (decide (x1>15))
 (some (0))
 (br (x1==13)
 (some (0))
 (some (conv .i64 .i8 (IntKind.wrap .i64 (IntKind.wrap .i64 (16*x0)+x1))))))))
 (br (decide (x1<1))
 (some (0))
 (br (decide (x1>15))
 (some (0))
 (br (x1==13)
 (some (0))
 (some (conv .i64 .i8 (IntKind.wrap .i64 (IntKind.wrap .i64 (16*x0)+x1)))))))
def qUT (rec:Int->Int->List Int->List Int->Int->List Int->List Int->Int->List Int->Int->Option (Int×List Int×List Int×Int×List Int×List Int×Int×List Int)) (x0 x1:Int) (x2 x3:List Int) (x4:Int) (x5 x6:List Int) (x7:Int) (x8:List Int) (x9:Int):Option (Int×List Int×List Int×Int×List Int×List Int×Int×List Int):=
 br (decide (x1<2))
 (ob (qKF 0 x1 x9) fun a18=>
 br (inB x9 9)
 (ob (qAm x1 (List.getD x8 (Int.toNat x9) 0)) fun a19=>
 br (inB a18 81)
 (ob (qKF 2 x1 x9) fun a20=>
 ob (qAm x1 1) fun a21=>
 br (inB a20 81)
 (rec x0 (IntKind.wrap .i64 (x1+1)) x2 x3 x4 (List.set (List.set x5 (Int.toNat a18) a19) (Int.toNat a20) a21) x6 x7 x8 x9)
 (none))
 (none))
 (none))
 (some (x0,x2,x3,x4,x5,x6,x7,x8))
def qKH:Nat->Int->Int->List Int->List Int->Int->List Int->List Int->Int->List Int->Int->Option (Int×List Int×List Int×Int×List Int×List Int×Int×List Int)
 | 0,_,_,_,_,_,_,_,_,_,_=>none
 | f+1,x0,x1,x2,x3,x4,x5,x6,x7,x8,x9=>qUT (qKH f) x0 x1 x2 x3 x4 x5 x6 x7 x8 x9
def qUR (rec:Int->List Int->List Int->Int->List Int->List Int->Int->List Int->Option (List Int×List Int×Int×List Int×List Int×Int)) (x0:Int) (x1 x2:List Int) (x3:Int) (x4 x5:List Int) (x6:Int) (x7:List Int):Option (List Int×List Int×Int×List Int×List Int×Int):=
 br (decide (x0<9))
 (ob (qKH qB x0 0 x1 x2 x3 x4 x5 x6 x7 x0) fun (a8_0,a8_1,a8_2,a8_3,a8_4,a8_5,a8_6,a8_7)=>
 rec (IntKind.wrap .i64 (a8_0+1)) a8_1 a8_2 a8_3 a8_4 a8_5 a8_6 a8_7)
 (some (x1,x2,x3,x4,x5,x6))
def qKG:Nat->Int->List Int->List Int->Int->List Int->List Int->Int->List Int->Option (List Int×List Int×Int×List Int×List Int×Int)
 | 0,_,_,_,_,_,_,_,_=>none
 | f+1,x0,x1,x2,x3,x4,x5,x6,x7=>qUR (qKG f) x0 x1 x2 x3 x4 x5 x6 x7
def qNk:Option (List Int×List Int×Int):=
 ob (qKG qB 0 ([0,0,0,0,0,0,0,0,0,0,0,0,0,0,0,0,0,0,0,0,0,0,0,0,0,0,0,0,0,0,0,0,0,0,0,0,0,0,0,0,0,0,0,0,0,0,0,0,0,0,0,0,0,0,0,0,0,0,0,0,0,0,0,0,0,0,0,0,0,0,0,0,0,0,0,0,0,0,0,0,0]) ([0,0,0,0,0,0,0,0,0,0,0,0,0,0,0,0]) 0 ([0,0,0,0,0,0,0,0,0,0,0,0,0,0,0,0,0,0,0,0,0,0,0,0,0,0,0,0,0,0,0,0,0,0,0,0,0,0,0,0,0,0,0,0,0,0,0,0,0,0,0,0,0,0,0,0,0,0,0,0,0,0,0,0,0,0,0,0,0,0,0,0,0,0,0,0,0,0,0,0,0]) ([0,0,0,0,0,0,0,0,0,0,0,0,0,0,0,0]) 0 ([2,3,4,5,8,5,4,3,2])) fun (_,_,_,a0_3,a0_4,a0_5)=>
 ob (qCD 7 7) fun a6=>
 ob (qCD 1 7) fun a7=>
 br (inB a6 81)
 (br (inB a7 81)
 (ob (qCD 1 1) fun a8=>
 ob (qCD 7 1) fun a9=>
 br (inB a8 81)
 (br (inB a9 81)
 (some (List.set (List.set (List.set (List.set a0_3 (Int.toNat a6) 6) (Int.toNat a7) 7) (Int.toNat a8) 22) (Int.toNat a9) 23,a0_4,a0_5))
 (none))
 (none))
 (none))
 (none)
def qAE (x0:Int):Option (Int):=
 br (decide (x0<=0))
 (br (x0==8)
 (some (8))
 (br (x0==24)
 (some (8))
 (some (0))))
 (br (decide (x0>31))
 (br (x0==8)
 (some (8))
 (br (x0==24)
 (some (8))
 (some (0))))
 (br (qI BinOp.and .i64 x0 15==0)
 (br (x0==8)
 (some (8))
 (br (x0==24)
 (some (8))
 (some (0))))
 (br (qI BinOp.and .i64 x0 15==13)
 (br (x0==8)
 (some (8))
 (br (x0==24)
 (some (8))
 (some (0))))
 (some (qI BinOp.and .i64 x0 15)))))
def qDh (x0:Int):Option (Int):=
 some (qI BinOp.xor .u64 (IntKind.wrap .u64 (qI BinOp.xor .u64 (IntKind.wrap .u64 (qI BinOp.xor .u64 (IntKind.wrap .u64 (x0+11400714819323198485)) (Int.fdiv (IntKind.wrap .u64 (x0+11400714819323198485)) 1073741824)*13787848793156543929)) (Int.fdiv (IntKind.wrap .u64 (qI BinOp.xor .u64 (IntKind.wrap .u64 (x0+11400714819323198485)) (Int.fdiv (IntKind.wrap .u64 (x0+11400714819323198485)) 1073741824)*13787848793156543929)) 134217728)*10723151780598845931)) (Int.fdiv (IntKind.wrap .u64 (qI BinOp.xor .u64 (IntKind.wrap .u64 (qI BinOp.xor .u64 (IntKind.wrap .u64 (x0+11400714819323198485)) (Int.fdiv (IntKind.wrap .u64 (x0+11400714819323198485)) 1073741824)*13787848793156543929)) (Int.fdiv (IntKind.wrap .u64 (qI BinOp.xor .u64 (IntKind.wrap .u64 (x0+11400714819323198485)) (Int.fdiv (IntKind.wrap .u64 (x0+11400714819323198485)) 1073741824)*13787848793156543929)) 134217728)*10723151780598845931)) 2147483648))
def qB7 (x0 x1:Int):Option (Int):=
 ob (qAE x1) fun a2=>
 br (a2==0)
 (some (0))
 (br (decide (x0<0))
 (some (0))
 (br (decide (x0 >= 81))
 (some (0))
 (ob (qDh (IntKind.wrap .u64 (IntKind.wrap .u64 (conv .i64 .u64 x0*32)+conv .i8 .u64 x1))) fun a3=>
 some (a3))))
def qCn (x0 x1 x2:Int):Option (Int):=
 br (x0 != 0)
 (br (x0 != 1)
 (some (0))
 (br (decide (x1<1))
 (some (0))
 (br (decide (x1 >= 8))
 (some (0))
 (br (decide (x2<=0))
 (some (0))
 (br (decide (x2>18))
 (some (0))
 (ob (qDh (IntKind.wrap .u64 (IntKind.wrap .u64 (IntKind.wrap .u64 (65536+IntKind.wrap .u64 (conv .i64 .u64 x0*1024))+IntKind.wrap .u64 (conv .i64 .u64 x1*32))+conv .i64 .u64 x2))) fun a3=>
 some (a3)))))))
 (br (decide (x1<1))
 (some (0))
 (br (decide (x1 >= 8))
 (some (0))
 (br (decide (x2<=0))
 (some (0))
 (br (decide (x2>18))
 (some (0))
 (ob (qDh (IntKind.wrap .u64 (IntKind.wrap .u64 (IntKind.wrap .u64 (65536+IntKind.wrap .u64 (conv .i64 .u64 x0*1024))+IntKind.wrap .u64 (conv .i64 .u64 x1*32))+conv .i64 .u64 x2))) fun a3=>
 some (a3))))))
def qCp:Option (Int):=
 ob (qDh 1048576) fun a0=>
 some (a0)
def qDf (rec:Int->List Int->Int->List Int->List Int->Int->Option (Int×List Int×List Int×Int)) (x0:Int) (x1:List Int) (x2:Int) (x3 x4:List Int) (x5:Int):Option (Int×List Int×List Int×Int):=
 br (decide (x2<81))
 (br (inB x2 81)
 (ob (qB7 x2 (List.getD x1 (bif true then Int.toNat x2 else Int.toNat x2*1) 0)) fun a9=>
 rec (qI BinOp.xor .u64 x0 a9) x1 (IntKind.wrap .i64 (x2+1)) x3 x4 x5)
 (none))
 (some (x0,x3,x4,x5))
def qCP:Nat->Int->List Int->Int->List Int->List Int->Int->Option (Int×List Int×List Int×Int)
 | 0,_,_,_,_,_,_=>none
 | f+1,x0,x1,x2,x3,x4,x5=>qDf (qCP f) x0 x1 x2 x3 x4 x5
def qDe (rec:Int->Int->List Int->Int->List Int->Int->List Int->List Int->Int->Option (Int×List Int×Int×List Int×List Int×Int)) (x0 x1:Int) (x2:List Int) (x3:Int) (x4:List Int) (x5:Int) (x6 x7:List Int) (x8:Int):Option (Int×List Int×Int×List Int×List Int×Int):=
 br (decide (x5<8))
 (br (inB x5 8)
 (ob (qCn x1 x5 (conv .i8 .i64 (List.getD x4 (bif true then Int.toNat x5 else Int.toNat x5*1) 0))) fun a22=>
 rec (qI BinOp.xor .u64 x0 a22) x1 x2 x3 x4 (IntKind.wrap .i64 (x5+1)) x6 x7 x8)
 (none))
 (some (x0,x2,x3,x6,x7,x8))
def qCo:Nat->Int->Int->List Int->Int->List Int->Int->List Int->List Int->Int->Option (Int×List Int×Int×List Int×List Int×Int)
 | 0,_,_,_,_,_,_,_,_,_=>none
 | f+1,x0,x1,x2,x3,x4,x5,x6,x7,x8=>qDe (qCo f) x0 x1 x2 x3 x4 x5 x6 x7 x8
def qDg (rec:Int->List Int->Int->List Int->List Int->Int->Option (Int×List Int×List Int×Int)) (x0:Int) (x1:List Int) (x2:Int) (x3 x4:List Int) (x5:Int):Option (Int×List Int×List Int×Int):=
 br (decide (x2<2))
 (br (inB x2 2)
 (ob (qCo qB x0 x2 x1 x2 (List.take 8 (List.drop (Nat.add (Nat.mul (Int.toNat x2) 7) (Int.toNat x2)) x1)) 0 x3 x4 x5) fun (a13_0,a13_1,a13_2,a13_3,a13_4,a13_5)=>
 rec a13_0 a13_1 (IntKind.wrap .i64 (a13_2+1)) a13_3 a13_4 a13_5)
 (none))
 (some (x0,x3,x4,x5))
def qBu:Nat->Int->List Int->Int->List Int->List Int->Int->Option (Int×List Int×List Int×Int)
 | 0,_,_,_,_,_,_=>none
 | f+1,x0,x1,x2,x3,x4,x5=>qDg (qBu f) x0 x1 x2 x3 x4 x5
def qEN (x0 x1:List Int) (x2:Int):Option (Int):=
 ob (qCP qB 0 x0 0 x0 x1 x2) fun (a3_0,a3_1,a3_2,a3_3)=>
 ob (qBu qB a3_0 a3_2 0 a3_1 a3_2 a3_3) fun (a7_0,_,_,a7_3)=>
 br (a7_3==1)
 (ob (qCp ) fun a11=>
 some (qI BinOp.xor .u64 a7_0 a11))
 (some (a7_0))
def qFf (x0:Int):Option (Int×Int):=
 br (decide (x0<0))
 (some (0,0))
 (br (decide (x0 >= 81))
 (some (0,0))
 (br (decide (x0<63))
 (br (decide (x0<0))
 (none)
 (some (IntKind.wrap .u64 (1*2 ^ min (Int.toNat x0) 64),0)))
 (br (decide (IntKind.wrap .i64 (x0 - 63)<0))
 (none)
 (some (0,IntKind.wrap .u64 (1*2 ^ min (Int.toNat (IntKind.wrap .i64 (x0 - 63))) 64))))))
def qFb (x0 x1:Int) (x2 x3:Int):Option (Int×Int):=
 some (qI BinOp.andNot .u64 x0 x2,qI BinOp.andNot .u64 x1 x3)
def qEf (x0 x1 x2:Int):Option (Int×Int):=
 ob (qFf x2) fun (a3_0,a3_1)=>
 ob (qFb x0 x1 a3_0 a3_1) fun (a5_0,a5_1)=>
 some (a5_0,a5_1)
def qAL (x0:Int):Option (Int):=
 ob (qAE x0) fun a1=>
 br (a1==0)
 (some (-1))
 (br (decide (x0<16))
 (some (0))
 (some (1)))
def qD1 (x0 x1:Int) (x2 x3:Int):Option (Int×Int):=
 some (qI BinOp.or .u64 x0 x2,qI BinOp.or .u64 x1 x3)
def qBD (x0 x1 x2:Int):Option (Int×Int):=
 ob (qFf x2) fun (a3_0,a3_1)=>
 ob (qD1 x0 x1 a3_0 a3_1) fun (a5_0,a5_1)=>
 some (a5_0,a5_1)
def qFv (x0 x1:Int) (x2 x3:List Int) (x4:Int) (x5 x6:List (List Int)):Option (List Int×List Int×Int×List (List Int)×List (List Int)):=
 br (decide (x0<0))
 (some (x2,x3,x4,x5,x6))
 (br (decide (x0 >= 81))
 (some (x2,x3,x4,x5,x6))
 (br (inB x0 81)
 (br (List.getD x2 (Int.toNat x0) 0 != 0)
 (br (inB (List.getD x2 (Int.toNat x0) 0) 32)
 (ob (qEf (List.headD (List.take 2 (List.getD x5 (Int.toNat (List.getD x2 (Int.toNat x0) 0)) [])) 0) (List.headD (List.tail (List.take 2 (List.getD x5 (Int.toNat (List.getD x2 (Int.toNat x0) 0)) []))) 0) x0) fun (a7_0,a7_1)=>
 br (inB (List.getD x2 (Int.toNat x0) 0) 32)
 (ob (qAL (List.getD x2 (Int.toNat x0) 0)) fun a9=>
 ob (qAL (List.getD x2 (Int.toNat x0) 0)) fun a10=>
 br (inB a10 2)
 (ob (qEf (List.headD (List.take 2 (List.getD x6 (Int.toNat a10) [])) 0) (List.headD (List.tail (List.take 2 (List.getD x6 (Int.toNat a10) []))) 0) x0) fun (a11_0,a11_1)=>
 br (inB a9 2)
 (ob (qAE x1) fun a13=>
 br (a13==0)
 (br (inB x0 81)
 (some (List.set x2 (Int.toNat x0) 0,x3,x4,List.set x5 (Int.toNat (List.getD x2 (Int.toNat x0) 0)) (a7_0 :: a7_1 :: List.drop 2 (List.getD x5 (Int.toNat (List.getD x2 (Int.toNat x0) 0)) [])),List.set x6 (Int.toNat a9) (a11_0 :: a11_1 :: List.drop 2 (List.getD x6 (Int.toNat a9) []))))
 (none))
 (br (inB x0 81)
 (br (x1 != 0)
 (br (inB x1 32)
 (ob (qBD (List.headD (List.take 2 (List.getD (List.set x5 (Int.toNat (List.getD x2 (Int.toNat x0) 0)) (a7_0 :: a7_1 :: List.drop 2 (List.getD x5 (Int.toNat (List.getD x2 (Int.toNat x0) 0)) []))) (Int.toNat x1) [])) 0) (List.headD (List.tail (List.take 2 (List.getD (List.set x5 (Int.toNat (List.getD x2 (Int.toNat x0) 0)) (a7_0 :: a7_1 :: List.drop 2 (List.getD x5 (Int.toNat (List.getD x2 (Int.toNat x0) 0)) []))) (Int.toNat x1) []))) 0) x0) fun (a14_0,a14_1)=>
 br (inB x1 32)
 (ob (qAL x1) fun a16=>
 ob (qAL x1) fun a17=>
 br (inB a17 2)
 (ob (qBD (List.headD (List.take 2 (List.getD (List.set x6 (Int.toNat a9) (a11_0 :: a11_1 :: List.drop 2 (List.getD x6 (Int.toNat a9) []))) (Int.toNat a17) [])) 0) (List.headD (List.tail (List.take 2 (List.getD (List.set x6 (Int.toNat a9) (a11_0 :: a11_1 :: List.drop 2 (List.getD x6 (Int.toNat a9) []))) (Int.toNat a17) []))) 0) x0) fun (a18_0,a18_1)=>
 br (inB a16 2)
 (some (List.set x2 (Int.toNat x0) x1,x3,x4,List.set (List.set x5 (Int.toNat (List.getD x2 (Int.toNat x0) 0)) (a7_0 :: a7_1 :: List.drop 2 (List.getD x5 (Int.toNat (List.getD x2 (Int.toNat x0) 0)) []))) (Int.toNat x1) (a14_0 :: a14_1 :: List.drop 2 (List.getD (List.set x5 (Int.toNat (List.getD x2 (Int.toNat x0) 0)) (a7_0 :: a7_1 :: List.drop 2 (List.getD x5 (Int.toNat (List.getD x2 (Int.toNat x0) 0)) []))) (Int.toNat x1) [])),List.set (List.set x6 (Int.toNat a9) (a11_0 :: a11_1 :: List.drop 2 (List.getD x6 (Int.toNat a9) []))) (Int.toNat a16) (a18_0 :: a18_1 :: List.drop 2 (List.getD (List.set x6 (Int.toNat a9) (a11_0 :: a11_1 :: List.drop 2 (List.getD x6 (Int.toNat a9) []))) (Int.toNat a16) []))))
 (none))
 (none))
 (none))
 (none))
 (some (List.set x2 (Int.toNat x0) x1,x3,x4,List.set x5 (Int.toNat (List.getD x2 (Int.toNat x0) 0)) (a7_0 :: a7_1 :: List.drop 2 (List.getD x5 (Int.toNat (List.getD x2 (Int.toNat x0) 0)) [])),List.set x6 (Int.toNat a9) (a11_0 :: a11_1 :: List.drop 2 (List.getD x6 (Int.toNat a9) [])))))
 (none)))
 (none))
 (none))
 (none))
 (none))
 (ob (qAE x1) fun a7=>
 br (a7==0)
 (br (inB x0 81)
 (some (List.set x2 (Int.toNat x0) 0,x3,x4,x5,x6))
 (none))
 (br (inB x0 81)
 (br (x1 != 0)
 (br (inB x1 32)
 (ob (qBD (List.headD (List.take 2 (List.getD x5 (Int.toNat x1) [])) 0) (List.headD (List.tail (List.take 2 (List.getD x5 (Int.toNat x1) []))) 0) x0) fun (a8_0,a8_1)=>
 br (inB x1 32)
 (ob (qAL x1) fun a10=>
 ob (qAL x1) fun a11=>
 br (inB a11 2)
 (ob (qBD (List.headD (List.take 2 (List.getD x6 (Int.toNat a11) [])) 0) (List.headD (List.tail (List.take 2 (List.getD x6 (Int.toNat a11) []))) 0) x0) fun (a12_0,a12_1)=>
 br (inB a10 2)
 (some (List.set x2 (Int.toNat x0) x1,x3,x4,List.set x5 (Int.toNat x1) (a8_0 :: a8_1 :: List.drop 2 (List.getD x5 (Int.toNat x1) [])),List.set x6 (Int.toNat a10) (a12_0 :: a12_1 :: List.drop 2 (List.getD x6 (Int.toNat a10) []))))
 (none))
 (none))
 (none))
 (none))
 (some (List.set x2 (Int.toNat x0) x1,x3,x4,x5,x6)))
 (none))))
 (none)))
def qGq (rec:List Int->Int->List Int->List Int->Int->List (List Int)->List (List Int)->Option (List Int×List Int×Int×List (List Int)×List (List Int))) (x0:List Int) (x1:Int) (x2 x3:List Int) (x4:Int) (x5 x6:List (List Int)):Option (List Int×List Int×Int×List (List Int)×List (List Int)):=
 br (decide (x1<81))
 (br (inB x1 81)
 (ob (qFv x1 (List.getD x0 (bif true then Int.toNat x1 else Int.toNat x1*1) 0) x2 x3 x4 x5 x6) fun (a10_0,a10_1,a10_2,a10_3,a10_4)=>
 rec x0 (IntKind.wrap .i64 (x1+1)) a10_0 a10_1 a10_2 a10_3 a10_4)
 (none))
 (some (x2,x3,x4,x5,x6))
def qEE:Nat->List Int->Int->List Int->List Int->Int->List (List Int)->List (List Int)->Option (List Int×List Int×Int×List (List Int)×List (List Int))
 | 0,_,_,_,_,_,_,_=>none
 | f+1,x0,x1,x2,x3,x4,x5,x6=>qGq (qEE f) x0 x1 x2 x3 x4 x5 x6
def qFs (x0 x1:List Int) (x2:Int):Option (List Int×List Int×Int×List (List Int)×List (List Int)):=
 ob (qEE qB x0 0 ([0,0,0,0,0,0,0,0,0,0,0,0,0,0,0,0,0,0,0,0,0,0,0,0,0,0,0,0,0,0,0,0,0,0,0,0,0,0,0,0,0,0,0,0,0,0,0,0,0,0,0,0,0,0,0,0,0,0,0,0,0,0,0,0,0,0,0,0,0,0,0,0,0,0,0,0,0,0,0,0,0]) x1 x2 ([[0,0],[0,0],[0,0],[0,0],[0,0],[0,0],[0,0],[0,0],[0,0],[0,0],[0,0],[0,0],[0,0],[0,0],[0,0],[0,0],[0,0],[0,0],[0,0],[0,0],[0,0],[0,0],[0,0],[0,0],[0,0],[0,0],[0,0],[0,0],[0,0],[0,0],[0,0],[0,0]]) ([[0,0],[0,0]])) fun (a3_0,a3_1,a3_2,a3_3,a3_4)=>
 some (a3_0,a3_1,a3_2,a3_3,a3_4)
def qG0 (x0 x1:List Int) (x2:Int):Option (Int×Nat×List Int×List Int×Int×List (List Int)×List (List Int)×Nat×List (List Int)):=
 ob (qFs x0 x1 x2) fun (a3_0,a3_1,a3_2,a3_3,a3_4)=>
 ob (qEN a3_0 a3_1 a3_2) fun a8=>
 some (a8,0,a3_0,a3_1,a3_2,a3_3,a3_4,0,[])
def qDj (x0 x1 x2:Int) (x3:Bool):Option (Int):=
 br (decide (x1<0))
 (some (1))
 (br (decide (x1 >= 81))
 (some (1))
 (br (x2 != 0)
 (br (decide (x2<0))
 (some (70))
 (br (decide (x2 >= 8))
 (some (70))
 (br (x0 != 0)
 (some (70))
 (br (x3)
 (some (70))
 (some (0))))))
 (br (decide (x0<0))
 (some (1))
 (br (decide (x0 >= 81))
 (some (1))
 (br (x0==x1)
 (some (70))
 (some (0)))))))
def qCg (x0 x1:Int) (_x2 x3:List Int) (_x4:Int) (_x5 _x6:List (List Int)):Option (Int):=
 br (x0 != 0)
 (br (x0 != 1)
 (some (0))
 (br (decide (x1<1))
 (some (0))
 (br (decide (x1 >= 8))
 (some (0))
 (br (inB x0 2)
 (br (inB x1 8)
 (some (conv .i8 .i64 (List.getD x3 (Int.toNat x0*8+Int.toNat x1) 0)))
 (none))
 (none)))))
 (br (decide (x1<1))
 (some (0))
 (br (decide (x1 >= 8))
 (some (0))
 (br (inB x0 2)
 (br (inB x1 8)
 (some (conv .i8 .i64 (List.getD x3 (Int.toNat x0*8+Int.toNat x1) 0)))
 (none))
 (none))))
def qAi (x0:Int) (x1 _x2:List Int) (_x3:Int) (_x4 _x5:List (List Int)):Option (Int):=
 br (decide (x0<0))
 (some (0))
 (br (decide (x0 >= 81))
 (some (0))
 (br (inB x0 81)
 (some (List.getD x1 (Int.toNat x0) 0))
 (none)))
def qCt (x0:Int):Option (Int):=
 br (x0==1)
 (some (IntKind.wrap .i64 (x0+8)))
 (br (x0==2)
 (some (IntKind.wrap .i64 (x0+8)))
 (br (x0==3)
 (some (IntKind.wrap .i64 (x0+8)))
 (br (x0==4)
 (some (IntKind.wrap .i64 (x0+8)))
 (br (x0==6)
 (some (IntKind.wrap .i64 (x0+8)))
 (br (x0==7)
 (some (IntKind.wrap .i64 (x0+8)))
 (some (0)))))))
def qEG (x0 x1 x2:Int) (x3:Bool) (_x4:Int) (_x5:Nat) (x6 x7:List Int) (x8:Int) (x9 x10:List (List Int)) (_x11:Nat) (_x12:List (List Int)):Option (Bool):=
 ob (qDj x0 x1 x2 x3) fun a13=>
 br (a13 != 0)
 (some (false))
 (br (x8 != 0)
 (br (x8 != 1)
 (some (false))
 (br (x2 != 0)
 (ob (qCg x8 x2 x6 x7 x8 x9 x10) fun a14=>
 br (decide (a14>0))
 (ob (qAi x1 x6 x7 x8 x9 x10) fun a15=>
 some (a15==0))
 (some (false)))
 (ob (qAi x0 x6 x7 x8 x9 x10) fun a14=>
 ob (qAi x1 x6 x7 x8 x9 x10) fun a15=>
 ob (qAL a14) fun a16=>
 br (a16==x8)
 (ob (qAL a15) fun a17=>
 br (a17 != x8)
 (ob (qAE a15) fun a18=>
 br (a18 != 8)
 (br (!x3)
 (some (true))
 (ob (qAE a14) fun a19=>
 ob (qCt a19) fun a20=>
 some (a20 != 0)))
 (some (false)))
 (some (false)))
 (some (false)))))
 (br (x2 != 0)
 (ob (qCg x8 x2 x6 x7 x8 x9 x10) fun a14=>
 br (decide (a14>0))
 (ob (qAi x1 x6 x7 x8 x9 x10) fun a15=>
 some (a15==0))
 (some (false)))
 (ob (qAi x0 x6 x7 x8 x9 x10) fun a14=>
 ob (qAi x1 x6 x7 x8 x9 x10) fun a15=>
 ob (qAL a14) fun a16=>
 br (a16==x8)
 (ob (qAL a15) fun a17=>
 br (a17 != x8)
 (ob (qAE a15) fun a18=>
 br (a18 != 8)
 (br (!x3)
 (some (true))
 (ob (qAE a14) fun a19=>
 ob (qCt a19) fun a20=>
 some (a20 != 0)))
 (some (false)))
 (some (false)))
 (some (false)))))
def qDZ (x0 x1:Int) (x2 x3:Int) (x4:Nat) (x5 x6:List Int) (x7:Int) (x8 x9:List (List Int)) (x10:Nat) (x11:List (List Int)):Option (Int×Nat×List Int×List Int×Int×List (List Int)×List (List Int)×Nat×List (List Int)):=
 ob (qCg x0 x1 x5 x6 x7 x8 x9) fun a12=>
 ob (qCn x0 x1 a12) fun a13=>
 ob (qCn x0 x1 (IntKind.wrap .i64 (a12+x2))) fun a14=>
 br (inB x0 2)
 (br (inB x1 8)
 (br (inB x0 2)
 (br (inB x1 8)
 (some (qI BinOp.xor .u64 x3 (qI BinOp.xor .u64 a13 a14),x4,x5,List.set x6 (Int.toNat x0*8+Int.toNat x1) (IntKind.wrap .i8 (List.getD x6 (Int.toNat x0*8+Int.toNat x1) 0+conv .i64 .i8 x2)),x7,x8,x9,x10,x11))
 (none))
 (none))
 (none))
 (none)
def qB5 (x0 x1 x2:Int) (x3:Nat) (x4 x5:List Int) (x6:Int) (x7 x8:List (List Int)) (x9:Nat) (x10:List (List Int)):Option (Int×Nat×List Int×List Int×Int×List (List Int)×List (List Int)×Nat×List (List Int)):=
 ob (qAi x0 x4 x5 x6 x7 x8) fun a11=>
 ob (qB7 x0 a11) fun a12=>
 ob (qB7 x0 x1) fun a13=>
 ob (qFv x0 x1 x4 x5 x6 x7 x8) fun (a14_0,a14_1,a14_2,a14_3,a14_4)=>
 some (qI BinOp.xor .u64 x2 (qI BinOp.xor .u64 a12 a13),x3,a14_0,a14_1,a14_2,a14_3,a14_4,x9,x10)
def qCh (x0:Int) (x1:Nat) (x2 x3:List Int) (x4:Int) (x5 x6:List (List Int)) (x7:Nat) (x8:List (List Int)):Option (Int×Nat×List Int×List Int×Int×List (List Int)×List (List Int)×Nat×List (List Int)):=
 ob (qCp ) fun a9=>
 some (qI BinOp.xor .u64 x0 a9,x1,x2,x3,IntKind.wrap .i8 (1 - x4),x5,x6,x7,x8)
def qCs (x0:Int):Option (Int):=
 ob (qAm 0 x0) fun a1=>
 br (a1==0)
 (some (0))
 (br (decide (x0>8))
 (some (IntKind.wrap .i64 (x0 - 8)))
 (some (x0)))
def qE4 (x0 x1 x2:Int) (x3:Bool) (x4:Int) (x5:Nat) (x6 x7:List Int) (x8:Int) (x9 x10:List (List Int)) (x11:Nat) (x12:List (List Int)):Option ((Bool×Int×Nat×List Int×List Int×Int×List (List Int)×List (List Int)×Nat×List (List Int))⊕(Bool×Int×Nat×List Int×List Int×Int×List (List Int)×List (List Int)×Nat×List (List Int))):=
 ob (qEG x0 x1 x2 x3 x4 x5 x6 x7 x8 x9 x10 x11 x12) fun a13=>
 br (!a13)
 (some (.inl (false,x4,x5,x6,x7,x8,x9,x10,x11,x12)))
 (ob (qAi x1 x6 x7 x8 x9 x10) fun a14=>
 br (x2 != 0)
 (ob (qAm x8 x2) fun a15=>
 ob (qDZ x8 x2 (-1) x4 x5 x6 x7 x8 x9 x10 x11 x12) fun (a16_0,a16_1,a16_2,a16_3,a16_4,a16_5,a16_6,a16_7,a16_8)=>
 ob (qB5 x1 a15 a16_0 a16_1 a16_2 a16_3 a16_4 a16_5 a16_6 a16_7 a16_8) fun (a25_0,a25_1,a25_2,a25_3,a25_4,a25_5,a25_6,a25_7,a25_8)=>
 ob (qCh a25_0 a25_1 a25_2 a25_3 a25_4 a25_5 a25_6 a25_7 a25_8) fun (a34_0,a34_1,a34_2,a34_3,a34_4,a34_5,a34_6,_,a34_8)=>
 br (decide ((a34_1+1)*40<=140737488355328))
 (some (.inr (true,a34_0,a34_1+1,a34_2,a34_3,a34_4,a34_5,a34_6,a34_1+1,List.append (List.take a34_1 a34_8) [[x0,x1,x2,bi x3,a14,a15]])))
 (none))
 (ob (qAi x0 x6 x7 x8 x9 x10) fun a15=>
 br (x3)
 (ob (qAE a15) fun a16=>
 ob (qCt a16) fun a17=>
 ob (qAm x8 a17) fun a18=>
 ob (qB5 x0 0 x4 x5 x6 x7 x8 x9 x10 x11 x12) fun (a19_0,a19_1,a19_2,a19_3,a19_4,a19_5,a19_6,a19_7,a19_8)=>
 ob (qB5 x1 a18 a19_0 a19_1 a19_2 a19_3 a19_4 a19_5 a19_6 a19_7 a19_8) fun (a28_0,a28_1,a28_2,a28_3,a28_4,a28_5,a28_6,a28_7,a28_8)=>
 br (a14 != 0)
 (ob (qAE a14) fun a37=>
 ob (qCs a37) fun a38=>
 ob (qDZ x8 a38 1 a28_0 a28_1 a28_2 a28_3 a28_4 a28_5 a28_6 a28_7 a28_8) fun (a39_0,a39_1,a39_2,a39_3,a39_4,a39_5,a39_6,a39_7,a39_8)=>
 ob (qCh a39_0 a39_1 a39_2 a39_3 a39_4 a39_5 a39_6 a39_7 a39_8) fun (a48_0,a48_1,a48_2,a48_3,a48_4,a48_5,a48_6,_,a48_8)=>
 br (decide ((a48_1+1)*40<=140737488355328))
 (some (.inr (true,a48_0,a48_1+1,a48_2,a48_3,a48_4,a48_5,a48_6,a48_1+1,List.append (List.take a48_1 a48_8) [[x0,x1,x2,bi x3,a14,a15]])))
 (none))
 (ob (qCh a28_0 a28_1 a28_2 a28_3 a28_4 a28_5 a28_6 a28_7 a28_8) fun (a37_0,a37_1,a37_2,a37_3,a37_4,a37_5,a37_6,_,a37_8)=>
 br (decide ((a37_1+1)*40<=140737488355328))
 (some (.inr (true,a37_0,a37_1+1,a37_2,a37_3,a37_4,a37_5,a37_6,a37_1+1,List.append (List.take a37_1 a37_8) [[x0,x1,x2,bi x3,a14,a15]])))
 (none)))
 (ob (qB5 x0 0 x4 x5 x6 x7 x8 x9 x10 x11 x12) fun (a16_0,a16_1,a16_2,a16_3,a16_4,a16_5,a16_6,a16_7,a16_8)=>
 ob (qB5 x1 a15 a16_0 a16_1 a16_2 a16_3 a16_4 a16_5 a16_6 a16_7 a16_8) fun (a25_0,a25_1,a25_2,a25_3,a25_4,a25_5,a25_6,a25_7,a25_8)=>
 br (a14 != 0)
 (ob (qAE a14) fun a34=>
 ob (qCs a34) fun a35=>
 ob (qDZ x8 a35 1 a25_0 a25_1 a25_2 a25_3 a25_4 a25_5 a25_6 a25_7 a25_8) fun (a36_0,a36_1,a36_2,a36_3,a36_4,a36_5,a36_6,a36_7,a36_8)=>
 ob (qCh a36_0 a36_1 a36_2 a36_3 a36_4 a36_5 a36_6 a36_7 a36_8) fun (a45_0,a45_1,a45_2,a45_3,a45_4,a45_5,a45_6,_,a45_8)=>
 br (decide ((a45_1+1)*40<=140737488355328))
 (some (.inr (true,a45_0,a45_1+1,a45_2,a45_3,a45_4,a45_5,a45_6,a45_1+1,List.append (List.take a45_1 a45_8) [[x0,x1,x2,bi x3,a14,a15]])))
 (none))
 (ob (qCh a25_0 a25_1 a25_2 a25_3 a25_4 a25_5 a25_6 a25_7 a25_8) fun (a34_0,a34_1,a34_2,a34_3,a34_4,a34_5,a34_6,_,a34_8)=>
 br (decide ((a34_1+1)*40<=140737488355328))
 (some (.inr (true,a34_0,a34_1+1,a34_2,a34_3,a34_4,a34_5,a34_6,a34_1+1,List.append (List.take a34_1 a34_8) [[x0,x1,x2,bi x3,a14,a15]])))
 (none)))))
def qOG (x0:Int) (x1:Nat) (x2 x3:List Int) (x4:Int) (x5 x6:List (List Int)) (x7:Nat) (x8:List (List Int)):Option (Bool×Int×Nat×List Int×List Int×Int×List (List Int)×List (List Int)×Nat×List (List Int)):=
 br (Int.ofNat x1==0)
 (some (false,x0,x1,x2,x3,x4,x5,x6,x7,x8))
 (br (inB (IntKind.wrap .i64 (Int.ofNat x1 - 1)) x1)
 (br (qAj (IntKind.wrap .i64 (Int.ofNat x1 - 1)) x1)
 (ob (qCh x0 (Int.toNat (IntKind.wrap .i64 (Int.ofNat x1 - 1)) - 0) x2 x3 x4 x5 x6 x7 x8) fun (a9_0,a9_1,a9_2,a9_3,a9_4,a9_5,a9_6,a9_7,a9_8)=>
 br (List.headD (List.tail (List.tail (List.take 6 (List.getD x8 (Int.toNat (IntKind.wrap .i64 (Int.ofNat x1 - 1))) [])))) 0 != 0)
 (ob (qB5 (List.headD (List.tail (List.take 6 (List.getD x8 (Int.toNat (IntKind.wrap .i64 (Int.ofNat x1 - 1))) []))) 0) 0 a9_0 a9_1 a9_2 a9_3 a9_4 a9_5 a9_6 a9_7 a9_8) fun (a18_0,a18_1,a18_2,a18_3,a18_4,a18_5,a18_6,a18_7,a18_8)=>
 ob (qDZ a9_4 (List.headD (List.tail (List.tail (List.take 6 (List.getD x8 (Int.toNat (IntKind.wrap .i64 (Int.ofNat x1 - 1))) [])))) 0) 1 a18_0 a18_1 a18_2 a18_3 a18_4 a18_5 a18_6 a18_7 a18_8) fun (a27_0,a27_1,a27_2,a27_3,a27_4,a27_5,a27_6,a27_7,a27_8)=>
 some (true,a27_0,a27_1,a27_2,a27_3,a27_4,a27_5,a27_6,a27_7,a27_8))
 (ob (qB5 (List.headD (List.tail (List.take 6 (List.getD x8 (Int.toNat (IntKind.wrap .i64 (Int.ofNat x1 - 1))) []))) 0) (List.headD (List.tail (List.tail (List.tail (List.tail (List.take 6 (List.getD x8 (Int.toNat (IntKind.wrap .i64 (Int.ofNat x1 - 1))) [])))))) 0) a9_0 a9_1 a9_2 a9_3 a9_4 a9_5 a9_6 a9_7 a9_8) fun (a18_0,a18_1,a18_2,a18_3,a18_4,a18_5,a18_6,a18_7,a18_8)=>
 ob (qB5 (List.headD (List.take 6 (List.getD x8 (Int.toNat (IntKind.wrap .i64 (Int.ofNat x1 - 1))) [])) 0) (List.headD (List.tail (List.tail (List.tail (List.tail (List.tail (List.take 6 (List.getD x8 (Int.toNat (IntKind.wrap .i64 (Int.ofNat x1 - 1))) []))))))) 0) a18_0 a18_1 a18_2 a18_3 a18_4 a18_5 a18_6 a18_7 a18_8) fun (a27_0,a27_1,a27_2,a27_3,a27_4,a27_5,a27_6,a27_7,a27_8)=>
 br (List.headD (List.tail (List.tail (List.tail (List.tail (List.take 6 (List.getD x8 (Int.toNat (IntKind.wrap .i64 (Int.ofNat x1 - 1))) [])))))) 0 != 0)
 (ob (qAE (List.headD (List.tail (List.tail (List.tail (List.tail (List.take 6 (List.getD x8 (Int.toNat (IntKind.wrap .i64 (Int.ofNat x1 - 1))) [])))))) 0)) fun a36=>
 ob (qCs a36) fun a37=>
 ob (qDZ a9_4 a37 (-1) a27_0 a27_1 a27_2 a27_3 a27_4 a27_5 a27_6 a27_7 a27_8) fun (a38_0,a38_1,a38_2,a38_3,a38_4,a38_5,a38_6,a38_7,a38_8)=>
 some (true,a38_0,a38_1,a38_2,a38_3,a38_4,a38_5,a38_6,a38_7,a38_8))
 (some (true,a27_0,a27_1,a27_2,a27_3,a27_4,a27_5,a27_6,a27_7,a27_8))))
 (none))
 (none))
def qBO (x0:Int):Option (Int):=
 br (decide (x0<1))
 (some (0))
 (br (decide (x0>31))
 (some (0))
 (br (x0==13)
 (some (0))
 (br (x0==16)
 (some (0))
 (br (x0==29)
 (some (0))
 (some (Int.tmod x0 16))))))
def qDx (rec:Int->Int->Int->Int->List Int->List Int->Int->Option (Int)) (x0 x1:Int) (x2 x3:Int) (x4 x5:List Int) (x6:Int):Option (Int):=
 br (decide (x3<9))
 (br (inB (IntKind.wrap .i64 (IntKind.wrap .i64 (9*x1)+x3)) 81)
 (br (conv .i8 .i64 (List.getD x4 (Int.toNat (IntKind.wrap .i64 (IntKind.wrap .i64 (9*x1)+x3))) 0)==x0)
 (rec x0 x1 (IntKind.wrap .i64 (x2+1)) (IntKind.wrap .i64 (x3+1)) x4 x5 x6)
 (rec x0 x1 x2 (IntKind.wrap .i64 (x3+1)) x4 x5 x6))
 (none))
 (some (x2))
def qCV:Nat->Int->Int->Int->Int->List Int->List Int->Int->Option (Int)
 | 0,_,_,_,_,_,_,_=>none
 | f+1,x0,x1,x2,x3,x4,x5,x6=>qDx (qCV f) x0 x1 x2 x3 x4 x5 x6
def qEX (x0 x1:List Int) (x2 x3 x4:Int):Option (Int):=
 ob (qCV qB x3 x4 0 0 x0 x1 x2) fun a5=>
 some (a5)
def qDy (rec:Int->Int->Int->List Int->List Int->Int->Option (Int)) (x0 x1 x2:Int) (x3 x4:List Int) (x5:Int):Option (Int):=
 br (decide (x2<9))
 (ob (qEX x3 x4 x5 x0 x2) fun a10=>
 rec x0 (IntKind.wrap .i64 (x1+a10)) (IntKind.wrap .i64 (x2+1)) x3 x4 x5)
 (some (x1))
def qCW:Nat->Int->Int->Int->List Int->List Int->Int->Option (Int)
 | 0,_,_,_,_,_,_=>none
 | f+1,x0,x1,x2,x3,x4,x5=>qDy (qCW f) x0 x1 x2 x3 x4 x5
def qCB (x0 x1:List Int) (x2 x3:Int):Option (Int):=
 ob (qCW qB x3 0 0 x0 x1 x2) fun a4=>
 some (a4)
def qJI (x0:Int):Option (Int):=
 br (decide (x0<1))
 (some (0))
 (br (decide (x0>15))
 (some (0))
 (br (x0==13)
 (some (0))
 (br (decide (x0>8))
 (some (IntKind.wrap .i64 (x0 - 8)))
 (some (x0)))))
def qHx (rec:Int->Int->Int->List Int->List Int->Int->Option (Int×Int×List Int×List Int×Int)) (x0 x1 x2:Int) (x3 x4:List Int) (x5:Int):Option (Int×Int×List Int×List Int×Int):=
 br (decide (x2<81))
 (br (inB x2 81)
 (ob (qBO (conv .i8 .i64 (List.getD x3 (Int.toNat x2) 0))) fun a10=>
 ob (qJI a10) fun a11=>
 br (a11==x0)
 (rec x0 (IntKind.wrap .i64 (x1+1)) (IntKind.wrap .i64 (x2+1)) x3 x4 x5)
 (rec x0 x1 (IntKind.wrap .i64 (x2+1)) x3 x4 x5))
 (none))
 (some (x0,x1,x3,x4,x5))
def qFV:Nat->Int->Int->Int->List Int->List Int->Int->Option (Int×Int×List Int×List Int×Int)
 | 0,_,_,_,_,_,_=>none
 | f+1,x0,x1,x2,x3,x4,x5=>qHx (qFV f) x0 x1 x2 x3 x4 x5
def qJN (x0 x1:List Int) (x2 x3:Int):Option (Int):=
 ob (qFV qB x3 0 0 x0 x1 x2) fun (a4_0,a4_1,_,a4_3,_)=>
 br (inB a4_0 8)
 (br (inB a4_0 8)
 (some (IntKind.wrap .i64 (IntKind.wrap .i64 (a4_1+conv .i8 .i64 (List.getD a4_3 (0+Int.toNat a4_0) 0))+conv .i8 .i64 (List.getD a4_3 (8+Int.toNat a4_0) 0))))
 (none))
 (none)
def qJK (x0:Int):Option (Int):=
 br (decide (x0<1))
 (some (0))
 (br (decide (x0>8))
 (some (0))
 (br (inB x0 9)
 (some (List.getD [0,18,4,4,4,4,2,2,2] (Int.toNat x0) 0))
 (none)))
def qDq (x0:Int):Option (Int):=
 ob (qBO x0) fun a1=>
 br (a1==0)
 (some (-1))
 (some (IntKind.wrap .i64 (Int.tdiv x0 16)))
def qGK (x0 x1:Int):Option (Int):=
 br (decide (x1<0))
 (some (-1))
 (br (decide (x1>80))
 (some (-1))
 (br (decide (x0<0))
 (some (-1))
 (br (decide (x0>1))
 (some (-1))
 (br (x0==0)
 (some (Int.tmod x1 9))
 (some (IntKind.wrap .i64 (8 - Int.tmod x1 9)))))))
def qGJ (x0 x1:Int):Option (Bool):=
 ob (qDq x0) fun a2=>
 ob (qGK a2 x1) fun a3=>
 ob (qBO x0) fun a4=>
 br (a4==1)
 (br (a3==0)
 (some (true))
 (br (a4==3)
 (br (a3==0)
 (some (true))
 (some (a3==1)))
 (some (false))))
 (br (a4==2)
 (br (a3==0)
 (some (true))
 (br (a4==3)
 (br (a3==0)
 (some (true))
 (some (a3==1)))
 (some (false))))
 (br (a4==3)
 (br (a3==0)
 (some (true))
 (some (a3==1)))
 (some (false))))
def qDv (rec:Int->List Int->List Int->Int->Option ((Int×List Int×List Int×Int)⊕(List Int×List Int×Int))) (x0:Int) (x1 x2:List Int) (x3:Int):Option ((Int×List Int×List Int×Int)⊕(List Int×List Int×Int)):=
 br (decide (x0<81))
 (br (inB x0 81)
 (br (List.getD x1 (Int.toNat x0) 0 != 0)
 (br (inB x0 81)
 (ob (qBO (conv .i8 .i64 (List.getD x1 (Int.toNat x0) 0))) fun a7=>
 br (a7==0)
 (some (.inl (55,x1,x2,x3)))
 (rec (IntKind.wrap .i64 (x0+1)) x1 x2 x3))
 (none))
 (rec (IntKind.wrap .i64 (x0+1)) x1 x2 x3))
 (none))
 (some (.inr (x1,x2,x3)))
def qB0:Nat->Int->List Int->List Int->Int->Option ((Int×List Int×List Int×Int)⊕(List Int×List Int×Int))
 | 0,_,_,_,_=>none
 | f+1,x0,x1,x2,x3=>qDv (qB0 f) x0 x1 x2 x3
def qDr (rec:Int->Int->List Int->List Int->Int->Option ((Int×Int×List Int×List Int×Int)⊕(Int×List Int×List Int×Int))) (x0 x1:Int) (x2 x3:List Int) (x4:Int):Option ((Int×Int×List Int×List Int×Int)⊕(Int×List Int×List Int×Int)):=
 br (decide (x1<2))
 (br (inB x1 2)
 (br (inB x0 8)
 (br (decide (List.getD x3 (Int.toNat x1*8+Int.toNat x0) 0<0))
 (some (.inl (55,x0,x2,x3,x4)))
 (br (x0==0)
 (br (List.getD x3 (Int.toNat x1*8+Int.toNat x0) 0 != 0)
 (some (.inl (55,x0,x2,x3,x4)))
 (rec x0 (IntKind.wrap .i64 (x1+1)) x2 x3 x4))
 (rec x0 (IntKind.wrap .i64 (x1+1)) x2 x3 x4)))
 (none))
 (none))
 (some (.inr (x0,x2,x3,x4)))
def qBd:Nat->Int->Int->List Int->List Int->Int->Option ((Int×Int×List Int×List Int×Int)⊕(Int×List Int×List Int×Int))
 | 0,_,_,_,_,_=>none
 | f+1,x0,x1,x2,x3,x4=>qDr (qBd f) x0 x1 x2 x3 x4
def qDw (rec:Int->List Int->List Int->Int->Option ((Int×List Int×List Int×Int)⊕(List Int×List Int×Int))) (x0:Int) (x1 x2:List Int) (x3:Int):Option ((Int×List Int×List Int×Int)⊕(List Int×List Int×Int)):=
 br (decide (x0<8))
 (ob (qBd qB x0 0 x1 x2 x3) fun t10_2=>
 sw t10_2 (fun (a10_0,_,a10_2,a10_3,a10_4)=>
 some (.inl (a10_0,a10_2,a10_3,a10_4)))
 (fun (a10_0,a10_1,a10_2,a10_3)=>
 rec (IntKind.wrap .i64 (a10_0+1)) a10_1 a10_2 a10_3))
 (some (.inr (x1,x2,x3)))
def qBS:Nat->Int->List Int->List Int->Int->Option ((Int×List Int×List Int×Int)⊕(List Int×List Int×Int))
 | 0,_,_,_,_=>none
 | f+1,x0,x1,x2,x3=>qDw (qBS f) x0 x1 x2 x3
def qDs (rec:Int->List Int->List Int->Int->Option ((Int×List Int×List Int×Int)⊕(List Int×List Int×Int))) (x0:Int) (x1 x2:List Int) (x3:Int):Option ((Int×List Int×List Int×Int)⊕(List Int×List Int×Int)):=
 br (decide (x0<8))
 (ob (qJN x1 x2 x3 x0) fun a15=>
 ob (qJK x0) fun a16=>
 br (decide (a15>a16))
 (some (.inl (51,x1,x2,x3)))
 (rec (IntKind.wrap .i64 (x0+1)) x1 x2 x3))
 (some (.inr (x1,x2,x3)))
def qBP:Nat->Int->List Int->List Int->Int->Option ((Int×List Int×List Int×Int)⊕(List Int×List Int×Int))
 | 0,_,_,_,_=>none
 | f+1,x0,x1,x2,x3=>qDs (qBP f) x0 x1 x2 x3
def qDt (rec:Int->List Int->List Int->Int->Option ((Int×List Int×List Int×Int)⊕(List Int×List Int×Int))) (x0:Int) (x1 x2:List Int) (x3:Int):Option ((Int×List Int×List Int×Int)⊕(List Int×List Int×Int)):=
 br (decide (x0<81))
 (br (inB x0 81)
 (ob (qGJ (conv .i8 .i64 (List.getD x1 (Int.toNat x0) 0)) x0) fun a18=>
 br (a18)
 (some (.inl (52,x1,x2,x3)))
 (rec (IntKind.wrap .i64 (x0+1)) x1 x2 x3))
 (none))
 (some (.inr (x1,x2,x3)))
def qBQ:Nat->Int->List Int->List Int->Int->Option ((Int×List Int×List Int×Int)⊕(List Int×List Int×Int))
 | 0,_,_,_,_=>none
 | f+1,x0,x1,x2,x3=>qDt (qBQ f) x0 x1 x2 x3
def qDu (rec:Int->List Int->List Int->Int->Option ((Int)⊕(Unit))) (x0:Int) (x1 x2:List Int) (x3:Int):Option ((Int)⊕(Unit)):=
 br (decide (x0<9))
 (ob (qEX x1 x2 x3 1 x0) fun a21=>
 br (decide (a21>1))
 (some (.inl (53)))
 (ob (qEX x1 x2 x3 17 x0) fun a22=>
 br (decide (a22>1))
 (some (.inl (53)))
 (rec (IntKind.wrap .i64 (x0+1)) x1 x2 x3)))
 (some (.inr ()))
def qBR:Nat->Int->List Int->List Int->Int->Option ((Int)⊕(Unit))
 | 0,_,_,_,_=>none
 | f+1,x0,x1,x2,x3=>qDu (qBR f) x0 x1 x2 x3
def qFU (x0 x1:List Int) (x2:Int):Option (Int):=
 br (x2 != 0)
 (br (x2 != 1)
 (some (1))
 (ob (qB0 qB 0 x0 x1 x2) fun t3_2=>
 sw t3_2 (fun (a3_0,_,_,_)=>
 some (a3_0))
 (fun (a3_0,a3_1,a3_2)=>
 ob (qBS qB 0 a3_0 a3_1 a3_2) fun t6_2=>
 sw t6_2 (fun (a6_0,_,_,_)=>
 some (a6_0))
 (fun (a6_0,a6_1,a6_2)=>
 ob (qCB a6_0 a6_1 a6_2 8) fun a9=>
 br (a9 != 1)
 (some (50))
 (ob (qCB a6_0 a6_1 a6_2 24) fun a10=>
 br (a10 != 1)
 (some (50))
 (ob (qBP qB 1 a6_0 a6_1 a6_2) fun t11_2=>
 sw t11_2 (fun (a11_0,_,_,_)=>
 some (a11_0))
 (fun (a11_0,a11_1,a11_2)=>
 ob (qBQ qB 0 a11_0 a11_1 a11_2) fun t14_2=>
 sw t14_2 (fun (a14_0,_,_,_)=>
 some (a14_0))
 (fun (a14_0,a14_1,a14_2)=>
 ob (qBR qB 0 a14_0 a14_1 a14_2) fun t17_2=>
 sw t17_2 (fun a17=>
 some (a17))
 (fun _=>
 some (0))))))))))
 (ob (qB0 qB 0 x0 x1 x2) fun t3_2=>
 sw t3_2 (fun (a3_0,_,_,_)=>
 some (a3_0))
 (fun (a3_0,a3_1,a3_2)=>
 ob (qBS qB 0 a3_0 a3_1 a3_2) fun t6_2=>
 sw t6_2 (fun (a6_0,_,_,_)=>
 some (a6_0))
 (fun (a6_0,a6_1,a6_2)=>
 ob (qCB a6_0 a6_1 a6_2 8) fun a9=>
 br (a9 != 1)
 (some (50))
 (ob (qCB a6_0 a6_1 a6_2 24) fun a10=>
 br (a10 != 1)
 (some (50))
 (ob (qBP qB 1 a6_0 a6_1 a6_2) fun t11_2=>
 sw t11_2 (fun (a11_0,_,_,_)=>
 some (a11_0))
 (fun (a11_0,a11_1,a11_2)=>
 ob (qBQ qB 0 a11_0 a11_1 a11_2) fun t14_2=>
 sw t14_2 (fun (a14_0,_,_,_)=>
 some (a14_0))
 (fun (a14_0,a14_1,a14_2)=>
 ob (qBR qB 0 a14_0 a14_1 a14_2) fun t17_2=>
 sw t17_2 (fun a17=>
 some (a17))
 (fun _=>
 some (0)))))))))
def qC4 (_x0 _x1:List Int) (_x2:Int) (_x3 x4:List (List Int)):Option (Int×Int):=
 ob (qD1 (List.headD (List.take 2 (List.getD x4 0 [])) 0) (List.headD (List.tail (List.take 2 (List.getD x4 0 []))) 0) (List.headD (List.take 2 (List.getD x4 1 [])) 0) (List.headD (List.tail (List.take 2 (List.getD x4 1 []))) 0)) fun (a5_0,a5_1)=>
 some (a5_0,a5_1)
def qFp (x0:Int):Option (Int):=
 some (qI BinOp.and .i64 (conv .u64 .i64 (IntKind.wrap .u64 (IntKind.wrap .u64 (IntKind.wrap .u64 (qI BinOp.and .u64 (IntKind.wrap .u64 (Int.fdiv (IntKind.wrap .u64 (qI BinOp.and .u64 (Int.fdiv (IntKind.wrap .u64 (qI BinOp.and .u64 (Int.fdiv x0 2) 6148914691236517205+qI BinOp.and .u64 x0 6148914691236517205)) 4) 3689348814741910323+qI BinOp.and .u64 (IntKind.wrap .u64 (qI BinOp.and .u64 (Int.fdiv x0 2) 6148914691236517205+qI BinOp.and .u64 x0 6148914691236517205)) 3689348814741910323)) 16+IntKind.wrap .u64 (qI BinOp.and .u64 (Int.fdiv (IntKind.wrap .u64 (qI BinOp.and .u64 (Int.fdiv x0 2) 6148914691236517205+qI BinOp.and .u64 x0 6148914691236517205)) 4) 3689348814741910323+qI BinOp.and .u64 (IntKind.wrap .u64 (qI BinOp.and .u64 (Int.fdiv x0 2) 6148914691236517205+qI BinOp.and .u64 x0 6148914691236517205)) 3689348814741910323))) 1085102592571150095+Int.fdiv (qI BinOp.and .u64 (IntKind.wrap .u64 (Int.fdiv (IntKind.wrap .u64 (qI BinOp.and .u64 (Int.fdiv (IntKind.wrap .u64 (qI BinOp.and .u64 (Int.fdiv x0 2) 6148914691236517205+qI BinOp.and .u64 x0 6148914691236517205)) 4) 3689348814741910323+qI BinOp.and .u64 (IntKind.wrap .u64 (qI BinOp.and .u64 (Int.fdiv x0 2) 6148914691236517205+qI BinOp.and .u64 x0 6148914691236517205)) 3689348814741910323)) 16+IntKind.wrap .u64 (qI BinOp.and .u64 (Int.fdiv (IntKind.wrap .u64 (qI BinOp.and .u64 (Int.fdiv x0 2) 6148914691236517205+qI BinOp.and .u64 x0 6148914691236517205)) 4) 3689348814741910323+qI BinOp.and .u64 (IntKind.wrap .u64 (qI BinOp.and .u64 (Int.fdiv x0 2) 6148914691236517205+qI BinOp.and .u64 x0 6148914691236517205)) 3689348814741910323))) 1085102592571150095) 256)+Int.fdiv (IntKind.wrap .u64 (qI BinOp.and .u64 (IntKind.wrap .u64 (Int.fdiv (IntKind.wrap .u64 (qI BinOp.and .u64 (Int.fdiv (IntKind.wrap .u64 (qI BinOp.and .u64 (Int.fdiv x0 2) 6148914691236517205+qI BinOp.and .u64 x0 6148914691236517205)) 4) 3689348814741910323+qI BinOp.and .u64 (IntKind.wrap .u64 (qI BinOp.and .u64 (Int.fdiv x0 2) 6148914691236517205+qI BinOp.and .u64 x0 6148914691236517205)) 3689348814741910323)) 16+IntKind.wrap .u64 (qI BinOp.and .u64 (Int.fdiv (IntKind.wrap .u64 (qI BinOp.and .u64 (Int.fdiv x0 2) 6148914691236517205+qI BinOp.and .u64 x0 6148914691236517205)) 4) 3689348814741910323+qI BinOp.and .u64 (IntKind.wrap .u64 (qI BinOp.and .u64 (Int.fdiv x0 2) 6148914691236517205+qI BinOp.and .u64 x0 6148914691236517205)) 3689348814741910323))) 1085102592571150095+Int.fdiv (qI BinOp.and .u64 (IntKind.wrap .u64 (Int.fdiv (IntKind.wrap .u64 (qI BinOp.and .u64 (Int.fdiv (IntKind.wrap .u64 (qI BinOp.and .u64 (Int.fdiv x0 2) 6148914691236517205+qI BinOp.and .u64 x0 6148914691236517205)) 4) 3689348814741910323+qI BinOp.and .u64 (IntKind.wrap .u64 (qI BinOp.and .u64 (Int.fdiv x0 2) 6148914691236517205+qI BinOp.and .u64 x0 6148914691236517205)) 3689348814741910323)) 16+IntKind.wrap .u64 (qI BinOp.and .u64 (Int.fdiv (IntKind.wrap .u64 (qI BinOp.and .u64 (Int.fdiv x0 2) 6148914691236517205+qI BinOp.and .u64 x0 6148914691236517205)) 4) 3689348814741910323+qI BinOp.and .u64 (IntKind.wrap .u64 (qI BinOp.and .u64 (Int.fdiv x0 2) 6148914691236517205+qI BinOp.and .u64 x0 6148914691236517205)) 3689348814741910323))) 1085102592571150095) 256)) 65536)+Int.fdiv (IntKind.wrap .u64 (IntKind.wrap .u64 (qI BinOp.and .u64 (IntKind.wrap .u64 (Int.fdiv (IntKind.wrap .u64 (qI BinOp.and .u64 (Int.fdiv (IntKind.wrap .u64 (qI BinOp.and .u64 (Int.fdiv x0 2) 6148914691236517205+qI BinOp.and .u64 x0 6148914691236517205)) 4) 3689348814741910323+qI BinOp.and .u64 (IntKind.wrap .u64 (qI BinOp.and .u64 (Int.fdiv x0 2) 6148914691236517205+qI BinOp.and .u64 x0 6148914691236517205)) 3689348814741910323)) 16+IntKind.wrap .u64 (qI BinOp.and .u64 (Int.fdiv (IntKind.wrap .u64 (qI BinOp.and .u64 (Int.fdiv x0 2) 6148914691236517205+qI BinOp.and .u64 x0 6148914691236517205)) 4) 3689348814741910323+qI BinOp.and .u64 (IntKind.wrap .u64 (qI BinOp.and .u64 (Int.fdiv x0 2) 6148914691236517205+qI BinOp.and .u64 x0 6148914691236517205)) 3689348814741910323))) 1085102592571150095+Int.fdiv (qI BinOp.and .u64 (IntKind.wrap .u64 (Int.fdiv (IntKind.wrap .u64 (qI BinOp.and .u64 (Int.fdiv (IntKind.wrap .u64 (qI BinOp.and .u64 (Int.fdiv x0 2) 6148914691236517205+qI BinOp.and .u64 x0 6148914691236517205)) 4) 3689348814741910323+qI BinOp.and .u64 (IntKind.wrap .u64 (qI BinOp.and .u64 (Int.fdiv x0 2) 6148914691236517205+qI BinOp.and .u64 x0 6148914691236517205)) 3689348814741910323)) 16+IntKind.wrap .u64 (qI BinOp.and .u64 (Int.fdiv (IntKind.wrap .u64 (qI BinOp.and .u64 (Int.fdiv x0 2) 6148914691236517205+qI BinOp.and .u64 x0 6148914691236517205)) 4) 3689348814741910323+qI BinOp.and .u64 (IntKind.wrap .u64 (qI BinOp.and .u64 (Int.fdiv x0 2) 6148914691236517205+qI BinOp.and .u64 x0 6148914691236517205)) 3689348814741910323))) 1085102592571150095) 256)+Int.fdiv (IntKind.wrap .u64 (qI BinOp.and .u64 (IntKind.wrap .u64 (Int.fdiv (IntKind.wrap .u64 (qI BinOp.and .u64 (Int.fdiv (IntKind.wrap .u64 (qI BinOp.and .u64 (Int.fdiv x0 2) 6148914691236517205+qI BinOp.and .u64 x0 6148914691236517205)) 4) 3689348814741910323+qI BinOp.and .u64 (IntKind.wrap .u64 (qI BinOp.and .u64 (Int.fdiv x0 2) 6148914691236517205+qI BinOp.and .u64 x0 6148914691236517205)) 3689348814741910323)) 16+IntKind.wrap .u64 (qI BinOp.and .u64 (Int.fdiv (IntKind.wrap .u64 (qI BinOp.and .u64 (Int.fdiv x0 2) 6148914691236517205+qI BinOp.and .u64 x0 6148914691236517205)) 4) 3689348814741910323+qI BinOp.and .u64 (IntKind.wrap .u64 (qI BinOp.and .u64 (Int.fdiv x0 2) 6148914691236517205+qI BinOp.and .u64 x0 6148914691236517205)) 3689348814741910323))) 1085102592571150095+Int.fdiv (qI BinOp.and .u64 (IntKind.wrap .u64 (Int.fdiv (IntKind.wrap .u64 (qI BinOp.and .u64 (Int.fdiv (IntKind.wrap .u64 (qI BinOp.and .u64 (Int.fdiv x0 2) 6148914691236517205+qI BinOp.and .u64 x0 6148914691236517205)) 4) 3689348814741910323+qI BinOp.and .u64 (IntKind.wrap .u64 (qI BinOp.and .u64 (Int.fdiv x0 2) 6148914691236517205+qI BinOp.and .u64 x0 6148914691236517205)) 3689348814741910323)) 16+IntKind.wrap .u64 (qI BinOp.and .u64 (Int.fdiv (IntKind.wrap .u64 (qI BinOp.and .u64 (Int.fdiv x0 2) 6148914691236517205+qI BinOp.and .u64 x0 6148914691236517205)) 4) 3689348814741910323+qI BinOp.and .u64 (IntKind.wrap .u64 (qI BinOp.and .u64 (Int.fdiv x0 2) 6148914691236517205+qI BinOp.and .u64 x0 6148914691236517205)) 3689348814741910323))) 1085102592571150095) 256)) 65536)) 4294967296))) 127)
def qGQ (x0 x1:Int):Option (Int):=
 ob (qFp x0) fun a2=>
 ob (qFp x1) fun a3=>
 some (IntKind.wrap .i64 (a2+a3))
def qC3 (x0 x1:Int) (_x2 _x3:List Int) (_x4:Int) (x5 _x6:List (List Int)):Option (Int×Int):=
 ob (qAm x0 x1) fun a7=>
 br (a7==0)
 (some (0,0))
 (br (inB a7 32)
 (some (List.headD (List.take 2 (List.getD x5 (Int.toNat a7) [])) 0,List.headD (List.tail (List.take 2 (List.getD x5 (Int.toNat a7) []))) 0))
 (none))
def qNL (BBB:Bool->Option (Int)->Option (Int)->Option (Int)) (x0:Int):Option (Int):=
 br (x0==0)
 (some (64))
 (BBB (inB (Int.fdiv (IntKind.wrap .u64 (qI BinOp.and .u64 x0 (IntKind.wrap .u64 (0 - x0))*285870213051353865)) 288230376151711744) 64)
 (some (conv .u8 .i64 (List.getD [0,1,56,2,57,49,28,3,61,58,42,50,38,29,17,4,62,47,59,36,45,43,51,22,53,39,33,30,24,18,12,5,63,55,48,27,60,41,37,16,46,35,44,21,52,32,23,11,54,26,40,15,34,20,31,10,25,14,19,9,13,8,7,6] (Int.toNat (Int.fdiv (IntKind.wrap .u64 (qI BinOp.and .u64 x0 (IntKind.wrap .u64 (0 - x0))*285870213051353865)) 288230376151711744)) 0)))
 (none))
def qEv (x0:Int):Option (Int):=qNL br x0
def qGS (x0 x1:Int):Option (Int):=
 br (x0 != 0)
 (ob (qEv x0) fun a2=>
 some (a2))
 (br (x1 != 0)
 (ob (qEv x1) fun a2=>
 some (IntKind.wrap .i64 (63+a2)))
 (some (-1)))
def qFr (x0:Int) (x1 x2:List Int) (x3:Int) (x4 x5:List (List Int)):Option (Int):=
 ob (qC3 x0 8 x1 x2 x3 x4 x5) fun (a6_0,a6_1)=>
 ob (qGS a6_0 a6_1) fun a8=>
 some (a8)
def qLe (x0:Int):Option (Int):=
 br (x0==1)
 (some (18))
 (br (x0==2)
 (some (4))
 (br (x0==3)
 (some (4))
 (br (x0==4)
 (some (4))
 (br (x0==5)
 (some (4))
 (br (x0==6)
 (some (2))
 (br (x0==7)
 (some (2))
 (br (x0==8)
 (some (2))
 (some (0)))))))))
def qFd (x0:Int):Option (Int):=
 some (Int.tmod x0 9)
def qFh (x0 x1:Int):Option (Int):=
 br (decide (x1<0))
 (some (-1))
 (br (decide (x1 >= 81))
 (some (-1))
 (br (x0==0)
 (ob (qFd x1) fun a2=>
 some (a2))
 (br (x0==1)
 (ob (qFd x1) fun a2=>
 some (IntKind.wrap .i64 (8 - a2)))
 (some (-1)))))
def qD4 (x0 x1:Int):Option (Bool):=
 ob (qAL x0) fun a2=>
 ob (qFh a2 x1) fun a3=>
 ob (qAE x0) fun a4=>
 br (a4==1)
 (some (a3==0))
 (br (a4==2)
 (some (a3==0))
 (br (a4==3)
 (br (a3==0)
 (some (true))
 (some (a3==1)))
 (some (false))))
def qco (rec:Int->Int->Int->Int->Int->Int->Option (Int×Int×Int×Int)) (x0 x1:Int) (x2 x3:Int) (x4 x5:Int):Option (Int×Int×Int×Int):=
 br (decide (x1<9))
 (ob (qCD x0 x1) fun a7=>
 ob (qBD x4 x5 a7) fun (a8_0,a8_1)=>
 rec x0 (IntKind.wrap .i64 (x1+1)) x2 x3 a8_0 a8_1)
 (some (x2,x3,x4,x5))
def qMH:Nat->Int->Int->Int->Int->Int->Int->Option (Int×Int×Int×Int)
 | 0,_,_,_,_,_,_=>none
 | f+1,x0,x1,x2,x3,x4,x5=>qco (qMH f) x0 x1 x2 x3 x4 x5
def qIB (x0:Int):Option (Int×Int):=
 ob (qMH qB x0 0 0 0 0 0) fun (_,_,a1_2,a1_3)=>
 some (a1_2,a1_3)
def qCv (x0 x1:Int) (x2 x3:Int):Option (Int×Int):=
 some (qI BinOp.and .u64 x0 x2,qI BinOp.and .u64 x1 x3)
def qGu (rec:List Int->Int->List Int->List Int->Int->Option ((Int×List Int×List Int×Int)⊕(List Int×List Int×Int))) (x0:List Int) (x1:Int) (x2 x3:List Int) (x4:Int):Option ((Int×List Int×List Int×Int)⊕(List Int×List Int×Int)):=
 br (decide (x1<81))
 (br (inB x1 81)
 (ob (qD4 (List.getD x0 (bif true then Int.toNat x1 else Int.toNat x1*1) 0) x1) fun a8=>
 br (a8)
 (some (.inl (52,x2,x3,x4)))
 (rec x0 (IntKind.wrap .i64 (x1+1)) x2 x3 x4))
 (none))
 (some (.inr (x2,x3,x4)))
def qE1:Nat->List Int->Int->List Int->List Int->Int->Option ((Int×List Int×List Int×Int)⊕(List Int×List Int×Int))
 | 0,_,_,_,_,_=>none
 | f+1,x0,x1,x2,x3,x4=>qGu (qE1 f) x0 x1 x2 x3 x4
def qE0 (rec:Int->Int->Int->List Int->List Int->Int->List (List Int)->List (List Int)->Option ((Int×Int×List Int×List Int×Int×List (List Int)×List (List Int))⊕(Int×List Int×List Int×Int×List (List Int)×List (List Int)))) (x0 x1 x2:Int) (x3 x4:List Int) (x5:Int) (x6 x7:List (List Int)):Option ((Int×Int×List Int×List Int×Int×List (List Int)×List (List Int))⊕(Int×List Int×List Int×Int×List (List Int)×List (List Int))):=
 br (decide (x2<2))
 (ob (qC3 x2 1 x3 x4 x5 x6 x7) fun (a25_0,a25_1)=>
 ob (qIB x0) fun (a27_0,a27_1)=>
 ob (qCv a25_0 a25_1 a27_0 a27_1) fun (a29_0,a29_1)=>
 ob (qGQ a29_0 a29_1) fun a31=>
 br (decide (a31>1))
 (some (.inl (53,x1,x3,x4,x5,x6,x7)))
 (rec x0 x1 (IntKind.wrap .i64 (x2+1)) x3 x4 x5 x6 x7))
 (some (.inr (x1,x3,x4,x5,x6,x7)))
def qEz:Nat->Int->Int->Int->List Int->List Int->Int->List (List Int)->List (List Int)->Option ((Int×Int×List Int×List Int×Int×List (List Int)×List (List Int))⊕(Int×List Int×List Int×Int×List (List Int)×List (List Int)))
 | 0,_,_,_,_,_,_,_,_=>none
 | f+1,x0,x1,x2,x3,x4,x5,x6,x7=>qE0 (qEz f) x0 x1 x2 x3 x4 x5 x6 x7
def qGv (rec:Int->List Int->List Int->Int->List (List Int)->List (List Int)->Option ((Int)⊕(Unit))) (x0:Int) (x1 x2:List Int) (x3:Int) (x4 x5:List (List Int)):Option ((Int)⊕(Unit)):=
 br (decide (x0<9))
 (ob (qEz qB x0 x0 0 x1 x2 x3 x4 x5) fun t17_2=>
 sw t17_2 (fun (a17_0,_,_,_,_,_,_)=>
 some (.inl (a17_0)))
 (fun (a17_0,a17_1,a17_2,a17_3,a17_4,a17_5)=>
 rec (IntKind.wrap .i64 (a17_0+1)) a17_1 a17_2 a17_3 a17_4 a17_5))
 (some (.inr ()))
def qE2:Nat->Int->List Int->List Int->Int->List (List Int)->List (List Int)->Option ((Int)⊕(Unit))
 | 0,_,_,_,_,_,_=>none
 | f+1,x0,x1,x2,x3,x4,x5=>qGv (qE2 f) x0 x1 x2 x3 x4 x5
def qFw (x0 x1:List Int) (x2:Int):Option (Int):=
 ob (qE1 qB x0 0 x0 x1 x2) fun t3_2=>
 sw t3_2 (fun (a3_0,_,_,_)=>
 some (a3_0))
 (fun (a3_0,a3_1,a3_2)=>
 ob (qFs a3_0 a3_1 a3_2) fun (a6_0,a6_1,a6_2,a6_3,a6_4)=>
 ob (qE2 qB 0 a6_0 a6_1 a6_2 a6_3 a6_4) fun t11_2=>
 sw t11_2 (fun a11=>
 some (a11))
 (fun _=>
 some (0)))
def qEx (rec:List Int->Int->List Int->List Int->Int->List Int->List Int->Option ((Int×List Int×List Int×Int×List Int×List Int)⊕(List Int×List Int×Int×List Int×List Int))) (x0:List Int) (x1:Int) (x2 x3:List Int) (x4:Int) (x5 x6:List Int):Option ((Int×List Int×List Int×Int×List Int×List Int)⊕(List Int×List Int×Int×List Int×List Int)):=
 br (decide (x1<81))
 (br (inB x1 81)
 (ob (qAE (List.getD x0 (bif true then Int.toNat x1 else Int.toNat x1*1) 0)) fun a10=>
 br (List.getD x0 (bif true then Int.toNat x1 else Int.toNat x1*1) 0==0)
 (rec x0 (IntKind.wrap .i64 (x1+1)) x2 x3 x4 x5 x6)
 (br (a10==0)
 (some (.inl (55,x2,x3,x4,x5,x6)))
 (br (a10==8)
 (ob (qAL (List.getD x0 (bif true then Int.toNat x1 else Int.toNat x1*1) 0)) fun a11=>
 br (inB a11 2)
 (br (inB a11 2)
 (ob (qCs a10) fun a12=>
 br (inB a12 9)
 (br (inB a12 9)
 (rec x0 (IntKind.wrap .i64 (x1+1)) x2 x3 x4 (List.set x5 (Int.toNat a12) (IntKind.wrap .i64 (List.getD x5 (Int.toNat a12) 0+1))) (List.set x6 (Int.toNat a11) (IntKind.wrap .i64 (List.getD x6 (Int.toNat a11) 0+1))))
 (none))
 (none))
 (none))
 (none))
 (ob (qCs a10) fun a11=>
 br (inB a11 9)
 (br (inB a11 9)
 (rec x0 (IntKind.wrap .i64 (x1+1)) x2 x3 x4 (List.set x5 (Int.toNat a11) (IntKind.wrap .i64 (List.getD x5 (Int.toNat a11) 0+1))) x6)
 (none))
 (none)))))
 (none))
 (some (.inr (x2,x3,x4,x5,x6)))
def qCL:Nat->List Int->Int->List Int->List Int->Int->List Int->List Int->Option ((Int×List Int×List Int×Int×List Int×List Int)⊕(List Int×List Int×Int×List Int×List Int))
 | 0,_,_,_,_,_,_,_=>none
 | f+1,x0,x1,x2,x3,x4,x5,x6=>qEx (qCL f) x0 x1 x2 x3 x4 x5 x6
def qEw (rec:List Int->Int->List Int->Int->List Int->List Int->Int->List Int->List Int->Option ((Int×List Int×Int×List Int×List Int×Int×List Int×List Int)⊕(List Int×Int×List Int×List Int×Int×List Int×List Int))) (x0:List Int) (x1:Int) (x2:List Int) (x3:Int) (x4 x5:List Int) (x6:Int) (x7 x8:List Int):Option ((Int×List Int×Int×List Int×List Int×Int×List Int×List Int)⊕(List Int×Int×List Int×List Int×Int×List Int×List Int)):=
 br (decide (x3<8))
 (br (inB x3 8)
 (br (decide (List.getD x2 (bif true then Int.toNat x3 else Int.toNat x3*1) 0<0))
 (some (.inl (55,x0,x1,x4,x5,x6,x7,x8)))
 (br (decide (List.getD x2 (bif true then Int.toNat x3 else Int.toNat x3*1) 0>0))
 (br (x3==0)
 (some (.inl (55,x0,x1,x4,x5,x6,x7,x8)))
 (br (x3==8)
 (some (.inl (55,x0,x1,x4,x5,x6,x7,x8)))
 (br (inB x3 9)
 (br (inB x3 9)
 (rec x0 x1 x2 (IntKind.wrap .i64 (x3+1)) x4 x5 x6 (List.set x7 (Int.toNat x3) (IntKind.wrap .i64 (List.getD x7 (Int.toNat x3) 0+conv .i8 .i64 (List.getD x2 (bif true then Int.toNat x3 else Int.toNat x3*1) 0)))) x8)
 (none))
 (none))))
 (br (inB x3 9)
 (br (inB x3 9)
 (rec x0 x1 x2 (IntKind.wrap .i64 (x3+1)) x4 x5 x6 (List.set x7 (Int.toNat x3) (IntKind.wrap .i64 (List.getD x7 (Int.toNat x3) 0+conv .i8 .i64 (List.getD x2 (bif true then Int.toNat x3 else Int.toNat x3*1) 0)))) x8)
 (none))
 (none))))
 (none))
 (some (.inr (x0,x1,x4,x5,x6,x7,x8)))
def qC2:Nat->List Int->Int->List Int->Int->List Int->List Int->Int->List Int->List Int->Option ((Int×List Int×Int×List Int×List Int×Int×List Int×List Int)⊕(List Int×Int×List Int×List Int×Int×List Int×List Int))
 | 0,_,_,_,_,_,_,_,_,_=>none
 | f+1,x0,x1,x2,x3,x4,x5,x6,x7,x8=>qEw (qC2 f) x0 x1 x2 x3 x4 x5 x6 x7 x8
def qDR (rec:List Int->Int->List Int->List Int->Int->List Int->List Int->Option ((Int×List Int×List Int×Int×List Int×List Int)⊕(List Int×List Int×Int×List Int×List Int))) (x0:List Int) (x1:Int) (x2 x3:List Int) (x4:Int) (x5 x6:List Int):Option ((Int×List Int×List Int×Int×List Int×List Int)⊕(List Int×List Int×Int×List Int×List Int)):=
 br (decide (x1<2))
 (br (inB x1 2)
 (ob (qC2 qB x0 x1 (List.take 8 (List.drop (Nat.add (Nat.mul (Int.toNat x1) 7) (Int.toNat x1)) x0)) 0 x2 x3 x4 x5 x6) fun t15_2=>
 sw t15_2 (fun (a15_0,_,_,a15_3,a15_4,a15_5,a15_6,a15_7)=>
 some (.inl (a15_0,a15_3,a15_4,a15_5,a15_6,a15_7)))
 (fun (a15_0,a15_1,a15_2,a15_3,a15_4,a15_5,a15_6)=>
 rec a15_0 (IntKind.wrap .i64 (a15_1+1)) a15_2 a15_3 a15_4 a15_5 a15_6))
 (none))
 (some (.inr (x2,x3,x4,x5,x6)))
def qCf:Nat->List Int->Int->List Int->List Int->Int->List Int->List Int->Option ((Int×List Int×List Int×Int×List Int×List Int)⊕(List Int×List Int×Int×List Int×List Int))
 | 0,_,_,_,_,_,_,_=>none
 | f+1,x0,x1,x2,x3,x4,x5,x6=>qDR (qCf f) x0 x1 x2 x3 x4 x5 x6
def qGp (rec:Int->List Int->List Int->Int->List Int->Option ((Int×List Int×List Int×Int)⊕(List Int×List Int×Int))) (x0:Int) (x1 x2:List Int) (x3:Int) (x4:List Int):Option ((Int×List Int×List Int×Int)⊕(List Int×List Int×Int)):=
 br (decide (x0<8))
 (br (inB x0 9)
 (ob (qLe x0) fun a18=>
 br (decide (List.getD x4 (Int.toNat x0) 0>a18))
 (some (.inl (51,x1,x2,x3)))
 (rec (IntKind.wrap .i64 (x0+1)) x1 x2 x3 x4))
 (none))
 (some (.inr (x1,x2,x3)))
def qDS:Nat->Int->List Int->List Int->Int->List Int->Option ((Int×List Int×List Int×Int)⊕(List Int×List Int×Int))
 | 0,_,_,_,_,_=>none
 | f+1,x0,x1,x2,x3,x4=>qGp (qDS f) x0 x1 x2 x3 x4
def qIY (x0 x1:List Int) (x2:Int):Option (Int):=
 br (x2 != 0)
 (br (x2 != 1)
 (some (1))
 (ob (qCL qB x0 0 x0 x1 x2 ([0,0,0,0,0,0,0,0,0]) ([0,0])) fun t3_2=>
 sw t3_2 (fun (a3_0,_,_,_,_,_)=>
 some (a3_0))
 (fun (a3_0,a3_1,a3_2,a3_3,a3_4)=>
 ob (qCf qB a3_1 0 a3_0 a3_1 a3_2 a3_3 a3_4) fun t8_2=>
 sw t8_2 (fun (a8_0,_,_,_,_,_)=>
 some (a8_0))
 (fun (a8_0,a8_1,a8_2,a8_3,a8_4)=>
 br (!a8_4==[1,1])
 (some (50))
 (ob (qDS qB 1 a8_0 a8_1 a8_2 a8_3) fun t13_2=>
 sw t13_2 (fun (a13_0,_,_,_)=>
 some (a13_0))
 (fun (a13_0,a13_1,a13_2)=>
 ob (qFw a13_0 a13_1 a13_2) fun a16=>
 some (a16)))))))
 (ob (qCL qB x0 0 x0 x1 x2 ([0,0,0,0,0,0,0,0,0]) ([0,0])) fun t3_2=>
 sw t3_2 (fun (a3_0,_,_,_,_,_)=>
 some (a3_0))
 (fun (a3_0,a3_1,a3_2,a3_3,a3_4)=>
 ob (qCf qB a3_1 0 a3_0 a3_1 a3_2 a3_3 a3_4) fun t8_2=>
 sw t8_2 (fun (a8_0,_,_,_,_,_)=>
 some (a8_0))
 (fun (a8_0,a8_1,a8_2,a8_3,a8_4)=>
 br (!a8_4==[1,1])
 (some (50))
 (ob (qDS qB 1 a8_0 a8_1 a8_2 a8_3) fun t13_2=>
 sw t13_2 (fun (a13_0,_,_,_)=>
 some (a13_0))
 (fun (a13_0,a13_1,a13_2)=>
 ob (qFw a13_0 a13_1 a13_2) fun a16=>
 some (a16))))))
def qJ9 (x0 x1:List Int) (x2:Int) (x3 x4:List (List Int)):Option (List Int×List Int×Int×List (List Int)×List (List Int)):=
 some (x0,x1,x2,x3,x4)
def qFu (x0:Int) (_x1 _x2:List Int) (_x3:Int) (_x4 x5:List (List Int)):Option (Int×Int):=
 br (x0 != 0)
 (br (x0 != 1)
 (some (0,0))
 (br (inB x0 2)
 (some (List.headD (List.take 2 (List.getD x5 (Int.toNat x0) [])) 0,List.headD (List.tail (List.take 2 (List.getD x5 (Int.toNat x0) []))) 0))
 (none)))
 (br (inB x0 2)
 (some (List.headD (List.take 2 (List.getD x5 (Int.toNat x0) [])) 0,List.headD (List.tail (List.take 2 (List.getD x5 (Int.toNat x0) []))) 0))
 (none))
def qEc (x0 x1:Int):Option (Bool):=
 some (x0==0&&x1==0)
def qCC (x0 x1 x2:Int):Option (Bool):=
 ob (qFf x2) fun (a3_0,a3_1)=>
 ob (qCv x0 x1 a3_0 a3_1) fun (a5_0,a5_1)=>
 ob (qEc a5_0 a5_1) fun a7=>
 some (!a7)
def qGO:Option (Int×Int):=
 some (9223372036854775807,262143)
def qML (rec:Nat->Int->Int->Nat->List Int->Option (Nat×Int×Int×Nat×List Int)) (x0:Nat) (x1 x2:Int) (x3:Nat) (x4:List Int):Option (Nat×Int×Int×Nat×List Int):=
 br (x1 != 0)
 (ob (qEv x1) fun a7=>
 br (decide ((x0+1)*8<=140737488355328))
 (rec (x0+1) (qI BinOp.and .u64 x1 (IntKind.wrap .u64 (x1 - 1))) x2 (x0+1) (List.append (List.take x0 x4) [a7]))
 (none))
 (some (x0,x1,x2,x3,x4))
def qIG:Nat->Nat->Int->Int->Nat->List Int->Option (Nat×Int×Int×Nat×List Int)
 | 0,_,_,_,_,_=>none
 | f+1,x0,x1,x2,x3,x4=>qML (qIG f) x0 x1 x2 x3 x4
def qMM (rec:Nat->Int->Int->Nat->List Int->Option (Nat×Nat×List Int)) (x0:Nat) (x1 x2:Int) (x3:Nat) (x4:List Int):Option (Nat×Nat×List Int):=
 br (x2 != 0)
 (ob (qEv x2) fun a12=>
 br (decide ((x0+1)*8<=140737488355328))
 (rec (x0+1) x1 (qI BinOp.and .u64 x2 (IntKind.wrap .u64 (x2 - 1))) (x0+1) (List.append (List.take x0 x4) [IntKind.wrap .i64 (63+a12)]))
 (none))
 (some (x0,x3,x4))
def qIH:Nat->Nat->Int->Int->Nat->List Int->Option (Nat×Nat×List Int)
 | 0,_,_,_,_,_=>none
 | f+1,x0,x1,x2,x3,x4=>qMM (qIH f) x0 x1 x2 x3 x4
def qEd (x0 x1:Int):Option (Nat×Nat×List Int):=
 ob (qIG qB 0 x0 x1 0 []) fun (a2_0,a2_1,a2_2,a2_3,a2_4)=>
 ob (qIH qB a2_0 a2_1 a2_2 a2_3 a2_4) fun (a7_0,a7_1,a7_2)=>
 some (a7_0,a7_1,a7_2)
def qsZ (self:Int->Option (Nat×Nat×List (List Int))) (x0:Int):Option (Nat×Nat×List (List Int)):=
 br (x0==1)
 (some (1,1,[[0,-1]]))
 (br (x0==3)
 (some (2,2,[[-1,-2],[1,-2]]))
 (br (x0==4)
 (some (5,5,[[-1,-1],[0,-1],[1,-1],[-1,1],[1,1]]))
 (br (x0==5)
 (some (6,6,[[-1,-1],[0,-1],[1,-1],[-1,0],[1,0],[0,1]]))
 (br (x0==9)
 (some (6,6,[[-1,-1],[0,-1],[1,-1],[-1,0],[1,0],[0,1]]))
 (br (x0==10)
 (some (6,6,[[-1,-1],[0,-1],[1,-1],[-1,0],[1,0],[0,1]]))
 (br (x0==11)
 (some (6,6,[[-1,-1],[0,-1],[1,-1],[-1,0],[1,0],[0,1]]))
 (br (x0==12)
 (some (6,6,[[-1,-1],[0,-1],[1,-1],[-1,0],[1,0],[0,1]]))
 (br (x0==8)
 (ob (self 5) fun (a1_0,_,a1_2)=>
 br (decide ((a1_0+2)*16<=140737488355328))
 (some (a1_0+2,a1_0+2,List.append (List.take a1_0 a1_2) [[-1,1],[1,1]]))
 (none))
 (br (x0==14)
 (some (4,4,[[0,-1],[-1,0],[1,0],[0,1]]))
 (br (x0==15)
 (some (4,4,[[-1,-1],[1,-1],[-1,1],[1,1]]))
 (some (0,0,[]))))))))))))
def qGY:Nat->Int->Option (Nat×Nat×List (List Int))
 | 0,_=>none
 | f+1,x0=>qsZ (qGY f) x0
def qFg (x0 x1 x2:Int):Option (Int×Int):=
 br (x2==1)
 (some (IntKind.wrap .i64 (0 - x0),IntKind.wrap .i64 (0 - x1)))
 (some (x0,x1))
def qGR (x0:Int):Option (Int):=
 some (IntKind.wrap .i64 (Int.tdiv x0 9))
def qGX (x0 x1 x2:Int):Option (Int):=
 br (decide (x2<0))
 (some (-1))
 (br (decide (x2 >= 81))
 (some (-1))
 (br (decide (x0 < -8))
 (some (-1))
 (br (decide (x0>8))
 (some (-1))
 (br (decide (x1 < -8))
 (some (-1))
 (br (decide (x1>8))
 (some (-1))
 (ob (qGR x2) fun a3=>
 ob (qFd x2) fun a4=>
 ob (qCD (IntKind.wrap .i64 (a3+x0)) (IntKind.wrap .i64 (a4+x1))) fun a5=>
 some (a5)))))))
def qIL (rec:Int->Int->Nat->Int->Int->Int->Int->Int->Int->Nat->List (List Int)->Option (Int×Int×Int×Int)) (x0 x1:Int) (x2:Nat) (x3 x4:Int) (x5 x6:Int) (x7 x8:Int) (x9:Nat) (x10:List (List Int)):Option (Int×Int×Int×Int):=
 br (decide (x4<x3))
 (br (inB x4 x2)
 (ob (qAL x0) fun a17=>
 ob (qFg (List.headD (List.take 2 (List.getD x10 (Int.toNat x4) [])) 0) (List.headD (List.tail (List.take 2 (List.getD x10 (Int.toNat x4) []))) 0) a17) fun (a18_0,a18_1)=>
 ob (qGX a18_0 a18_1 x1) fun a20=>
 ob (qBD x7 x8 a20) fun (a21_0,a21_1)=>
 rec x0 x1 x2 x3 (IntKind.wrap .i64 (x4+1)) x5 x6 a21_0 a21_1 x9 x10)
 (none))
 (some (x5,x6,x7,x8))
def qFi:Nat->Int->Int->Nat->Int->Int->Int->Int->Int->Int->Nat->List (List Int)->Option (Int×Int×Int×Int)
 | 0,_,_,_,_,_,_,_,_,_,_,_=>none
 | f+1,x0,x1,x2,x3,x4,x5,x6,x7,x8,x9,x10=>qIL (qFi f) x0 x1 x2 x3 x4 x5 x6 x7 x8 x9 x10
def qJf (x0 x1:Int):Option (Int×Int):=
 ob (qAE x0) fun a2=>
 ob (qGY qB a2) fun (a3_0,a3_1,a3_2)=>
 ob (qFi qB x0 x1 a3_0 (Int.ofNat a3_0) 0 0 0 0 0 a3_1 a3_2) fun (_,_,a6_2,a6_3)=>
 some (a6_2,a6_3)
def qGG (x0:Int):Option (Nat×Nat×List (List Int)):=
 br (x0==2)
 (some (1,1,[[0,-1]]))
 (br (x0==6)
 (some (4,4,[[-1,-1],[1,-1],[-1,1],[1,1]]))
 (br (x0==14)
 (some (4,4,[[-1,-1],[1,-1],[-1,1],[1,1]]))
 (br (x0==7)
 (some (4,4,[[0,-1],[-1,0],[1,0],[0,1]]))
 (br (x0==15)
 (some (4,4,[[0,-1],[-1,0],[1,0],[0,1]]))
 (some (0,0,[]))))))
def qHq (rec:Int->Int->Int->Int->Int->Int->Int->Int->Int->Option (Int×Int×Int×Int)) (x0 x1:Int) (x2 x3:Int) (x4 x5:Int) (x6 x7 x8:Int):Option (Int×Int×Int×Int):=
 br (decide (x0 >= 0))
 (ob (qBD x7 x8 x0) fun (a15_0,a15_1)=>
 ob (qCC x3 x4 x0) fun a17=>
 br (a17)
 (some (x5,x6,a15_0,a15_1))
 (ob (qGX x1 x2 x0) fun a18=>
 rec a18 x1 x2 x3 x4 x5 x6 a15_0 a15_1))
 (some (x5,x6,x7,x8))
def qGH:Nat->Int->Int->Int->Int->Int->Int->Int->Int->Int->Option (Int×Int×Int×Int)
 | 0,_,_,_,_,_,_,_,_,_=>none
 | f+1,x0,x1,x2,x3,x4,x5,x6,x7,x8=>qHq (qGH f) x0 x1 x2 x3 x4 x5 x6 x7 x8
def qHp (x0 x1:Int) (x2 x3 x4:Int):Option (Int×Int):=
 br (x1==0&&x2==0)
 (some (0,0))
 (ob (qGX x1 x2 x0) fun a5=>
 ob (qGH qB a5 x1 x2 x3 x4 0 0 0 0) fun (_,_,a6_2,a6_3)=>
 some (a6_2,a6_3))
def qHo (rec:Int->Int->Nat->Int->Int->Int->Int->Int->Int->Int->Int->Nat->List (List Int)->Option (Int×Int×Int×Int)) (x0 x1:Int) (x2:Nat) (x3 x4:Int) (x5 x6:Int) (x7 x8:Int) (x9 x10:Int) (x11:Nat) (x12:List (List Int)):Option (Int×Int×Int×Int):=
 br (decide (x4<x3))
 (br (inB x4 x2)
 (ob (qAL x0) fun a23=>
 ob (qFg (List.headD (List.take 2 (List.getD x12 (Int.toNat x4) [])) 0) (List.headD (List.tail (List.take 2 (List.getD x12 (Int.toNat x4) []))) 0) a23) fun (a24_0,a24_1)=>
 ob (qHp x1 a24_0 a24_1 x5 x6) fun (a26_0,a26_1)=>
 ob (qD1 x9 x10 a26_0 a26_1) fun (a28_0,a28_1)=>
 rec x0 x1 x2 x3 (IntKind.wrap .i64 (x4+1)) x5 x6 x7 x8 a28_0 a28_1 x11 x12)
 (none))
 (some (x7,x8,x9,x10))
def qFQ:Nat->Int->Int->Nat->Int->Int->Int->Int->Int->Int->Int->Int->Nat->List (List Int)->Option (Int×Int×Int×Int)
 | 0,_,_,_,_,_,_,_,_,_,_,_,_,_=>none
 | f+1,x0,x1,x2,x3,x4,x5,x6,x7,x8,x9,x10,x11,x12=>qHo (qFQ f) x0 x1 x2 x3 x4 x5 x6 x7 x8 x9 x10 x11 x12
def qFP (x0 x1:Int) (x2 x3:Int):Option (Int×Int):=
 ob (qJf x0 x1) fun (a4_0,a4_1)=>
 ob (qAE x0) fun a6=>
 ob (qGG a6) fun (a7_0,a7_1,a7_2)=>
 ob (qFQ qB x0 x1 a7_0 (Int.ofNat a7_0) 0 x2 x3 0 0 a4_0 a4_1 a7_1 a7_2) fun (_,_,a10_2,a10_3)=>
 some (a10_2,a10_3)
def qdy (rec:Int->Int->Int->Int->Int->Int->Option (Int×Int×Int×Int)) (x0 x1:Int) (x2 x3:Int) (x4 x5:Int):Option (Int×Int×Int×Int):=
 br (decide (x1<81))
 (ob (qFh x0 x1) fun a7=>
 br (decide (a7 >= 0))
 (br (decide (a7<=2))
 (ob (qBD x4 x5 x1) fun (a8_0,a8_1)=>
 rec x0 (IntKind.wrap .i64 (x1+1)) x2 x3 a8_0 a8_1)
 (rec x0 (IntKind.wrap .i64 (x1+1)) x2 x3 x4 x5))
 (rec x0 (IntKind.wrap .i64 (x1+1)) x2 x3 x4 x5))
 (some (x2,x3,x4,x5))
def qMY:Nat->Int->Int->Int->Int->Int->Int->Option (Int×Int×Int×Int)
 | 0,_,_,_,_,_,_=>none
 | f+1,x0,x1,x2,x3,x4,x5=>qdy (qMY f) x0 x1 x2 x3 x4 x5
def qJg (x0:Int):Option (Int×Int):=
 ob (qMY qB x0 0 0 0 0 0) fun (_,_,a1_2,a1_3)=>
 some (a1_2,a1_3)
def qIs (x0 x1 x2:Int):Option (Bool×Bool):=
 ob (qAE x0) fun a3=>
 ob (qCt a3) fun a4=>
 br (a4==0)
 (some (false,false))
 (ob (qAL x0) fun a5=>
 ob (qJg a5) fun (a6_0,a6_1)=>
 ob (qCC a6_0 a6_1 x1) fun a8=>
 br (a8)
 (ob (qD4 x0 x2) fun a9=>
 some (true,a9))
 (ob (qCC a6_0 a6_1 x2) fun a9=>
 ob (qD4 x0 x2) fun a10=>
 some (a9,a10)))
def qHA (rec:Nat->Int->Int->Int->Nat->Int->Int->Nat->Int->Int->List Int->List Int->Int->List (List Int)->List (List Int)->Int->Int->Nat->List (List Int)->Int->Int->Nat->List Int->Nat->List Int->Option (Nat×Int×Nat×Int×Int×List Int×List Int×Int×List (List Int)×List (List Int)×Int×Int×Nat×List (List Int)×Int×Int×Nat×List Int)) (x0:Nat) (x1 x2 x3:Int) (x4:Nat) (x5 x6:Int) (x7:Nat) (x8 x9:Int) (x10 x11:List Int) (x12:Int) (x13 x14:List (List Int)) (x15 x16:Int) (x17:Nat) (x18:List (List Int)) (x19 x20:Int) (x21:Nat) (x22:List Int) (x23:Nat) (x24:List Int):Option (Nat×Int×Nat×Int×Int×List Int×List Int×Int×List (List Int)×List (List Int)×Int×Int×Nat×List (List Int)×Int×Int×Nat×List Int):=
 br (decide (x9<x8))
 (br (inB x9 x7)
 (ob (qIs x3 x2 (List.getD x24 (Int.toNat x9) 0)) fun (a77_0,a77_1)=>
 br (!a77_1)
 (br (decide ((x0+1)*32<=140737488355328))
 (br (a77_0)
 (br (decide ((x0+1+1)*32<=140737488355328))
 (rec (x0+1+1) x1 x2 x3 x4 x5 x6 x7 x8 (IntKind.wrap .i64 (x9+1)) x10 x11 x12 x13 x14 x15 x16 (x0+1+1) (List.append (List.take (x0+1) (List.append (List.take x0 x18) [[x2,List.getD x24 (Int.toNat x9) 0,0,0]])) [[x2,List.getD x24 (Int.toNat x9) 0,0,1]]) x19 x20 x21 x22 x23 x24)
 (none))
 (rec (x0+1) x1 x2 x3 x4 x5 x6 x7 x8 (IntKind.wrap .i64 (x9+1)) x10 x11 x12 x13 x14 x15 x16 (x0+1) (List.append (List.take x0 x18) [[x2,List.getD x24 (Int.toNat x9) 0,0,0]]) x19 x20 x21 x22 x23 x24))
 (none))
 (br (a77_0)
 (br (decide ((x0+1)*32<=140737488355328))
 (rec (x0+1) x1 x2 x3 x4 x5 x6 x7 x8 (IntKind.wrap .i64 (x9+1)) x10 x11 x12 x13 x14 x15 x16 (x0+1) (List.append (List.take x0 x18) [[x2,List.getD x24 (Int.toNat x9) 0,0,1]]) x19 x20 x21 x22 x23 x24)
 (none))
 (rec x0 x1 x2 x3 x4 x5 x6 x7 x8 (IntKind.wrap .i64 (x9+1)) x10 x11 x12 x13 x14 x15 x16 x17 x18 x19 x20 x21 x22 x23 x24)))
 (none))
 (some (x0,x1,x4,x5,x6,x10,x11,x12,x13,x14,x15,x16,x17,x18,x19,x20,x21,x22))
def qE8:Nat->Nat->Int->Int->Int->Nat->Int->Int->Nat->Int->Int->List Int->List Int->Int->List (List Int)->List (List Int)->Int->Int->Nat->List (List Int)->Int->Int->Nat->List Int->Nat->List Int->Option (Nat×Int×Nat×Int×Int×List Int×List Int×Int×List (List Int)×List (List Int)×Int×Int×Nat×List (List Int)×Int×Int×Nat×List Int)
 | 0,_,_,_,_,_,_,_,_,_,_,_,_,_,_,_,_,_,_,_,_,_,_,_,_,_=>none
 | f+1,x0,x1,x2,x3,x4,x5,x6,x7,x8,x9,x10,x11,x12,x13,x14,x15,x16,x17,x18,x19,x20,x21,x22,x23,x24=>qHA (qE8 f) x0 x1 x2 x3 x4 x5 x6 x7 x8 x9 x10 x11 x12 x13 x14 x15 x16 x17 x18 x19 x20 x21 x22 x23 x24
def qG9 (rec:Nat->Int->Nat->Int->Int->List Int->List Int->Int->List (List Int)->List (List Int)->Int->Int->Nat->List (List Int)->Int->Int->Nat->List Int->Option (Nat×List Int×List Int×Int×List (List Int)×List (List Int)×Nat×List (List Int))) (x0:Nat) (x1:Int) (x2:Nat) (x3 x4:Int) (x5 x6:List Int) (x7:Int) (x8 x9:List (List Int)) (x10 x11:Int) (x12:Nat) (x13:List (List Int)) (x14 x15:Int) (x16:Nat) (x17:List Int):Option (Nat×List Int×List Int×Int×List (List Int)×List (List Int)×Nat×List (List Int)):=
 br (decide (x4<x3))
 (br (inB x4 x2)
 (ob (qAi (List.getD x17 (Int.toNat x4) 0) x5 x6 x7 x8 x9) fun a36=>
 ob (qC4 x5 x6 x7 x8 x9) fun (a37_0,a37_1)=>
 ob (qFP a36 (List.getD x17 (Int.toNat x4) 0) a37_0 a37_1) fun (a39_0,a39_1)=>
 ob (qFu x1 x5 x6 x7 x8 x9) fun (a41_0,a41_1)=>
 ob (qFb a39_0 a39_1 a41_0 a41_1) fun (a43_0,a43_1)=>
 ob (qFb a43_0 a43_1 x14 x15) fun (a45_0,a45_1)=>
 ob (qCv a45_0 a45_1 x10 x11) fun (a47_0,a47_1)=>
 ob (qEd a47_0 a47_1) fun (a49_0,a49_1,a49_2)=>
 ob (qE8 qB x0 x1 (List.getD x17 (Int.toNat x4) 0) a36 x2 x3 x4 a49_0 (Int.ofNat a49_0) 0 x5 x6 x7 x8 x9 x10 x11 x12 x13 x14 x15 x16 x17 a49_1 a49_2) fun (a52_0,a52_1,a52_2,a52_3,a52_4,a52_5,a52_6,a52_7,a52_8,a52_9,a52_10,a52_11,a52_12,a52_13,a52_14,a52_15,a52_16,a52_17)=>
 rec a52_0 a52_1 a52_2 a52_3 (IntKind.wrap .i64 (a52_4+1)) a52_5 a52_6 a52_7 a52_8 a52_9 a52_10 a52_11 a52_12 a52_13 a52_14 a52_15 a52_16 a52_17)
 (none))
 (some (x0,x5,x6,x7,x8,x9,x12,x13))
def qE7:Nat->Nat->Int->Nat->Int->Int->List Int->List Int->Int->List (List Int)->List (List Int)->Int->Int->Nat->List (List Int)->Int->Int->Nat->List Int->Option (Nat×List Int×List Int×Int×List (List Int)×List (List Int)×Nat×List (List Int))
 | 0,_,_,_,_,_,_,_,_,_,_,_,_,_,_,_,_,_,_=>none
 | f+1,x0,x1,x2,x3,x4,x5,x6,x7,x8,x9,x10,x11,x12,x13,x14,x15,x16,x17=>qG9 (qE7 f) x0 x1 x2 x3 x4 x5 x6 x7 x8 x9 x10 x11 x12 x13 x14 x15 x16 x17
def qG7 (x0 x1:Int) (x2 x3:List Int) (x4:Int) (x5 x6:List (List Int)):Option (Nat×Nat×List (List Int)):=
 ob (qC3 0 8 x2 x3 x4 x5 x6) fun (a7_0,a7_1)=>
 ob (qC3 1 8 x2 x3 x4 x5 x6) fun (a9_0,a9_1)=>
 ob (qD1 a7_0 a7_1 a9_0 a9_1) fun (a11_0,a11_1)=>
 ob (qFu x4 x2 x3 x4 x5 x6) fun (a13_0,a13_1)=>
 ob (qEd a13_0 a13_1) fun (a15_0,a15_1,a15_2)=>
 ob (qE7 qB 0 x4 a15_0 (Int.ofNat a15_0) 0 x2 x3 x4 x5 x6 x0 x1 0 [] a11_0 a11_1 a15_1 a15_2) fun (a18_0,_,_,_,_,_,a18_6,a18_7)=>
 some (a18_0,a18_6,a18_7)
def qJZ (x0 x1:Int):Option (Int×Int):=
 ob (qGO ) fun (a2_0,a2_1)=>
 ob (qFb a2_0 a2_1 x0 x1) fun (a4_0,a4_1)=>
 some (a4_0,a4_1)
def qHE (rec:Int->Int->Int->Nat->Int->Int->List Int->List Int->Int->List (List Int)->List (List Int)->Int->Int->Int->Int->Nat->List Int->Option (List Int×List Int×Int×List (List Int)×List (List Int)×Int×Int×Int×Int)) (x0 x1 x2:Int) (x3:Nat) (x4 x5:Int) (x6 x7:List Int) (x8:Int) (x9 x10:List (List Int)) (x11 x12:Int) (x13 x14:Int) (x15:Nat) (x16:List Int):Option (List Int×List Int×Int×List (List Int)×List (List Int)×Int×Int×Int×Int):=
 br (decide (x5<x4))
 (br (inB x5 x3)
 (ob (qD4 x2 (List.getD x16 (Int.toNat x5) 0)) fun a32=>
 br (a32)
 (rec x0 x1 x2 x3 x4 (IntKind.wrap .i64 (x5+1)) x6 x7 x8 x9 x10 x11 x12 x13 x14 x15 x16)
 (br (x1==1)
 (ob (qC3 x0 1 x6 x7 x8 x9 x10) fun (a33_0,a33_1)=>
 ob (qGR (List.getD x16 (Int.toNat x5) 0)) fun a35=>
 ob (qIB a35) fun (a36_0,a36_1)=>
 ob (qCv a33_0 a33_1 a36_0 a36_1) fun (a38_0,a38_1)=>
 ob (qEc a38_0 a38_1) fun a40=>
 br (!a40)
 (rec x0 x1 x2 x3 x4 (IntKind.wrap .i64 (x5+1)) x6 x7 x8 x9 x10 x11 x12 x13 x14 x15 x16)
 (ob (qBD x13 x14 (List.getD x16 (Int.toNat x5) 0)) fun (a41_0,a41_1)=>
 rec x0 x1 x2 x3 x4 (IntKind.wrap .i64 (x5+1)) x6 x7 x8 x9 x10 x11 x12 a41_0 a41_1 x15 x16))
 (ob (qBD x13 x14 (List.getD x16 (Int.toNat x5) 0)) fun (a33_0,a33_1)=>
 rec x0 x1 x2 x3 x4 (IntKind.wrap .i64 (x5+1)) x6 x7 x8 x9 x10 x11 x12 a33_0 a33_1 x15 x16)))
 (none))
 (some (x6,x7,x8,x9,x10,x11,x12,x13,x14))
def qDc:Nat->Int->Int->Int->Nat->Int->Int->List Int->List Int->Int->List (List Int)->List (List Int)->Int->Int->Int->Int->Nat->List Int->Option (List Int×List Int×Int×List (List Int)×List (List Int)×Int×Int×Int×Int)
 | 0,_,_,_,_,_,_,_,_,_,_,_,_,_,_,_,_,_=>none
 | f+1,x0,x1,x2,x3,x4,x5,x6,x7,x8,x9,x10,x11,x12,x13,x14,x15,x16=>qHE (qDc f) x0 x1 x2 x3 x4 x5 x6 x7 x8 x9 x10 x11 x12 x13 x14 x15 x16
def qIr (x0 x1:Int) (x2 x3:List Int) (x4:Int) (x5 x6:List (List Int)):Option (Int×Int):=
 ob (qAm x0 x1) fun a7=>
 br (a7==0)
 (some (0,0))
 (br (decide (x1 >= 8))
 (some (0,0))
 (ob (qC4 x2 x3 x4 x5 x6) fun (a8_0,a8_1)=>
 ob (qJZ a8_0 a8_1) fun (a10_0,a10_1)=>
 ob (qEd a10_0 a10_1) fun (a12_0,a12_1,a12_2)=>
 ob (qDc qB x0 x1 a7 a12_0 (Int.ofNat a12_0) 0 x2 x3 x4 x5 x6 0 0 0 0 a12_1 a12_2) fun (_,_,_,_,_,_,_,a15_7,a15_8)=>
 some (a15_7,a15_8)))
def qHD (rec:Nat->Int->Int->Nat->Int->Int->List Int->List Int->Int->List (List Int)->List (List Int)->Int->Int->Nat->List (List Int)->Nat->List Int->Option (Nat×Int×Int×List Int×List Int×Int×List (List Int)×List (List Int)×Int×Int×Nat×List (List Int))) (x0:Nat) (x1 x2:Int) (x3:Nat) (x4 x5:Int) (x6 x7:List Int) (x8:Int) (x9 x10:List (List Int)) (x11 x12:Int) (x13:Nat) (x14:List (List Int)) (x15:Nat) (x16:List Int):Option (Nat×Int×Int×List Int×List Int×Int×List (List Int)×List (List Int)×Int×Int×Nat×List (List Int)):=
 br (decide (x5<x4))
 (br (inB x5 x3)
 (br (decide ((x0+1)*32<=140737488355328))
 (rec (x0+1) x1 x2 x3 x4 (IntKind.wrap .i64 (x5+1)) x6 x7 x8 x9 x10 x11 x12 (x0+1) (List.append (List.take x0 x14) [[0,List.getD x16 (Int.toNat x5) 0,x2,0]]) x15 x16)
 (none))
 (none))
 (some (x0,x1,x2,x6,x7,x8,x9,x10,x11,x12,x13,x14))
def qFA:Nat->Nat->Int->Int->Nat->Int->Int->List Int->List Int->Int->List (List Int)->List (List Int)->Int->Int->Nat->List (List Int)->Nat->List Int->Option (Nat×Int×Int×List Int×List Int×Int×List (List Int)×List (List Int)×Int×Int×Nat×List (List Int))
 | 0,_,_,_,_,_,_,_,_,_,_,_,_,_,_,_,_,_=>none
 | f+1,x0,x1,x2,x3,x4,x5,x6,x7,x8,x9,x10,x11,x12,x13,x14,x15,x16=>qHD (qFA f) x0 x1 x2 x3 x4 x5 x6 x7 x8 x9 x10 x11 x12 x13 x14 x15 x16
def qHC (rec:Nat->Int->Int->List Int->List Int->Int->List (List Int)->List (List Int)->Int->Int->Nat->List (List Int)->Option (Nat×List Int×List Int×Int×List (List Int)×List (List Int)×Nat×List (List Int))) (x0:Nat) (x1 x2:Int) (x3 x4:List Int) (x5:Int) (x6 x7:List (List Int)) (x8 x9:Int) (x10:Nat) (x11:List (List Int)):Option (Nat×List Int×List Int×Int×List (List Int)×List (List Int)×Nat×List (List Int)):=
 br (decide (x2<8))
 (ob (qCg x1 x2 x3 x4 x5 x6 x7) fun a19=>
 br (decide (a19<1))
 (rec x0 x1 (IntKind.wrap .i64 (x2+1)) x3 x4 x5 x6 x7 x8 x9 x10 x11)
 (ob (qIr x1 x2 x3 x4 x5 x6 x7) fun (a20_0,a20_1)=>
 ob (qCv a20_0 a20_1 x8 x9) fun (a22_0,a22_1)=>
 ob (qEd a22_0 a22_1) fun (a24_0,a24_1,a24_2)=>
 ob (qFA qB x0 x1 x2 a24_0 (Int.ofNat a24_0) 0 x3 x4 x5 x6 x7 x8 x9 x10 x11 a24_1 a24_2) fun (a27_0,a27_1,a27_2,a27_3,a27_4,a27_5,a27_6,a27_7,a27_8,a27_9,a27_10,a27_11)=>
 rec a27_0 a27_1 (IntKind.wrap .i64 (a27_2+1)) a27_3 a27_4 a27_5 a27_6 a27_7 a27_8 a27_9 a27_10 a27_11))
 (some (x0,x3,x4,x5,x6,x7,x10,x11))
def qE9:Nat->Nat->Int->Int->List Int->List Int->Int->List (List Int)->List (List Int)->Int->Int->Nat->List (List Int)->Option (Nat×List Int×List Int×Int×List (List Int)×List (List Int)×Nat×List (List Int))
 | 0,_,_,_,_,_,_,_,_,_,_,_,_=>none
 | f+1,x0,x1,x2,x3,x4,x5,x6,x7,x8,x9,x10,x11=>qHC (qE9 f) x0 x1 x2 x3 x4 x5 x6 x7 x8 x9 x10 x11
def qIq (x0 x1:Int) (x2 x3:List Int) (x4:Int) (x5 x6:List (List Int)):Option (Nat×Nat×List (List Int)):=
 ob (qE9 qB 0 x4 1 x2 x3 x4 x5 x6 x0 x1 0 []) fun (a7_0,_,_,_,_,_,a7_6,a7_7)=>
 some (a7_0,a7_6,a7_7)
def qGM (x0 x1 x2:Int) (x3:Bool):Option (Int):=
 br (decide (x1<0))
 (some (1))
 (br (decide (x1>80))
 (some (1))
 (br (x2 != 0)
 (br (decide (x2<1))
 (some (70))
 (br (decide (x2>7))
 (some (70))
 (br (x0 != 0)
 (some (70))
 (br (x3)
 (some (70))
 (some (0))))))
 (br (decide (x0<0))
 (some (1))
 (br (decide (x0>80))
 (some (1))
 (br (x0==x1)
 (some (70))
 (some (0)))))))
def qHy (rec:Int->List Int->List Int->Int->List Bool->List Bool->Option (List Bool×List Bool)) (x0:Int) (x1 x2:List Int) (x3:Int) (x4 x5:List Bool):Option (List Bool×List Bool):=
 br (decide (x0<81))
 (br (inB x0 81)
 (br (inB x0 81)
 (rec (IntKind.wrap .i64 (x0+1)) x1 x2 x3 x4 (List.set x5 (Int.toNat x0) (List.getD x1 (Int.toNat x0) 0 != 0)))
 (none))
 (none))
 (some (x4,x5))
def qEY:Nat->Int->List Int->List Int->Int->List Bool->List Bool->Option (List Bool×List Bool)
 | 0,_,_,_,_,_,_=>none
 | f+1,x0,x1,x2,x3,x4,x5=>qHy (qEY f) x0 x1 x2 x3 x4 x5
def qJO (x0 x1:List Int) (x2:Int):Option (List Bool):=
 ob (qEY qB 0 x0 x1 x2 ([false,false,false,false,false,false,false,false,false,false,false,false,false,false,false,false,false,false,false,false,false,false,false,false,false,false,false,false,false,false,false,false,false,false,false,false,false,false,false,false,false,false,false,false,false,false,false,false,false,false,false,false,false,false,false,false,false,false,false,false,false,false,false,false,false,false,false,false,false,false,false,false,false,false,false,false,false,false,false,false,false]) ([false,false,false,false,false,false,false,false,false,false,false,false,false,false,false,false,false,false,false,false,false,false,false,false,false,false,false,false,false,false,false,false,false,false,false,false,false,false,false,false,false,false,false,false,false,false,false,false,false,false,false,false,false,false,false,false,false,false,false,false,false,false,false,false,false,false,false,false,false,false,false,false,false,false,false,false,false,false,false,false,false])) fun (_,a3_1)=>
 some (a3_1)
def qFR (x0:Int):Option (Int):=
 br (decide (x0<0))
 (some (IntKind.wrap .i64 (0 - x0)))
 (some (x0))
def qJL (x0 x1 x2:Int):Option (Bool):=
 br (decide (x1<0))
 (some (false))
 (br (decide (x1>80))
 (some (false))
 (br (decide (x2<0))
 (some (false))
 (br (decide (x2>80))
 (some (false))
 (br (x1==x2)
 (some (false))
 (ob (qFR (IntKind.wrap .i64 (IntKind.wrap .i64 (Int.tdiv x2 9) - IntKind.wrap .i64 (Int.tdiv x1 9)))) fun a3=>
 ob (qDq x0) fun a4=>
 br (a4==1)
 (br (decide (a3<=1))
 (ob (qFR (IntKind.wrap .i64 (0 - IntKind.wrap .i64 (Int.tmod x1 9 - Int.tmod x2 9)))) fun a5=>
 ob (qBO x0) fun a6=>
 br (a6==1)
 (br (a3==0)
 (some (IntKind.wrap .i64 (0 - IntKind.wrap .i64 (Int.tmod x1 9 - Int.tmod x2 9))==1))
 (some (false)))
 (br (a6==3)
 (br (a3==1)
 (some (IntKind.wrap .i64 (0 - IntKind.wrap .i64 (Int.tmod x1 9 - Int.tmod x2 9))==2))
 (some (false)))
 (br (a6==4)
 (br (decide (a5<=1))
 (br (IntKind.wrap .i64 (0 - IntKind.wrap .i64 (Int.tmod x1 9 - Int.tmod x2 9))==1)
 (some (true))
 (br (a3==1)
 (some (IntKind.wrap .i64 (0 - IntKind.wrap .i64 (Int.tmod x1 9 - Int.tmod x2 9)) == -1))
 (some (false))))
 (some (false)))
 (br (a6==5)
 (br (decide (a5<=1))
 (br (decide (IntKind.wrap .i64 (0 - IntKind.wrap .i64 (Int.tmod x1 9 - Int.tmod x2 9)) >= 0))
 (some (true))
 (some (a3==0)))
 (some (false)))
 (br (a6==9)
 (br (decide (a5<=1))
 (br (decide (IntKind.wrap .i64 (0 - IntKind.wrap .i64 (Int.tmod x1 9 - Int.tmod x2 9)) >= 0))
 (some (true))
 (some (a3==0)))
 (some (false)))
 (br (a6==10)
 (br (decide (a5<=1))
 (br (decide (IntKind.wrap .i64 (0 - IntKind.wrap .i64 (Int.tmod x1 9 - Int.tmod x2 9)) >= 0))
 (some (true))
 (some (a3==0)))
 (some (false)))
 (br (a6==11)
 (br (decide (a5<=1))
 (br (decide (IntKind.wrap .i64 (0 - IntKind.wrap .i64 (Int.tmod x1 9 - Int.tmod x2 9)) >= 0))
 (some (true))
 (some (a3==0)))
 (some (false)))
 (br (a6==12)
 (br (decide (a5<=1))
 (br (decide (IntKind.wrap .i64 (0 - IntKind.wrap .i64 (Int.tmod x1 9 - Int.tmod x2 9)) >= 0))
 (some (true))
 (some (a3==0)))
 (some (false)))
 (br (a6==8)
 (some (decide (a5<=1)))
 (br (a6==14)
 (br (decide (a5<=1))
 (br (a3==0)
 (some (true))
 (some (IntKind.wrap .i64 (0 - IntKind.wrap .i64 (Int.tmod x1 9 - Int.tmod x2 9))==0)))
 (some (false)))
 (br (a6==15)
 (br (decide (a5<=1))
 (br (a3==1)
 (some (IntKind.wrap .i64 (0 - IntKind.wrap .i64 (Int.tmod x1 9 - Int.tmod x2 9)) != 0))
 (some (false)))
 (some (false)))
 (some (false)))))))))))))
 (ob (qBO x0) fun a5=>
 br (a5==1)
 (br (a3==0)
 (some (IntKind.wrap .i64 (0 - IntKind.wrap .i64 (Int.tmod x1 9 - Int.tmod x2 9))==1))
 (some (false)))
 (br (a5==3)
 (br (a3==1)
 (some (IntKind.wrap .i64 (0 - IntKind.wrap .i64 (Int.tmod x1 9 - Int.tmod x2 9))==2))
 (some (false)))
 (br (a5==4)
 (some (false))
 (br (a5==5)
 (some (false))
 (br (a5==9)
 (some (false))
 (br (a5==10)
 (some (false))
 (br (a5==11)
 (some (false))
 (br (a5==12)
 (some (false))
 (br (a5==8)
 (some (false))
 (br (a5==14)
 (some (false))
 (br (a5==15)
 (some (false))
 (some (false))))))))))))))
 (br (decide (a3<=1))
 (ob (qFR (IntKind.wrap .i64 (Int.tmod x1 9 - Int.tmod x2 9))) fun a5=>
 ob (qBO x0) fun a6=>
 br (a6==1)
 (br (a3==0)
 (some (IntKind.wrap .i64 (Int.tmod x1 9 - Int.tmod x2 9)==1))
 (some (false)))
 (br (a6==3)
 (br (a3==1)
 (some (IntKind.wrap .i64 (Int.tmod x1 9 - Int.tmod x2 9)==2))
 (some (false)))
 (br (a6==4)
 (br (decide (a5<=1))
 (br (IntKind.wrap .i64 (Int.tmod x1 9 - Int.tmod x2 9)==1)
 (some (true))
 (br (a3==1)
 (some (IntKind.wrap .i64 (Int.tmod x1 9 - Int.tmod x2 9) == -1))
 (some (false))))
 (some (false)))
 (br (a6==5)
 (br (decide (a5<=1))
 (br (decide (IntKind.wrap .i64 (Int.tmod x1 9 - Int.tmod x2 9) >= 0))
 (some (true))
 (some (a3==0)))
 (some (false)))
 (br (a6==9)
 (br (decide (a5<=1))
 (br (decide (IntKind.wrap .i64 (Int.tmod x1 9 - Int.tmod x2 9) >= 0))
 (some (true))
 (some (a3==0)))
 (some (false)))
 (br (a6==10)
 (br (decide (a5<=1))
 (br (decide (IntKind.wrap .i64 (Int.tmod x1 9 - Int.tmod x2 9) >= 0))
 (some (true))
 (some (a3==0)))
 (some (false)))
 (br (a6==11)
 (br (decide (a5<=1))
 (br (decide (IntKind.wrap .i64 (Int.tmod x1 9 - Int.tmod x2 9) >= 0))
 (some (true))
 (some (a3==0)))
 (some (false)))
 (br (a6==12)
 (br (decide (a5<=1))
 (br (decide (IntKind.wrap .i64 (Int.tmod x1 9 - Int.tmod x2 9) >= 0))
 (some (true))
 (some (a3==0)))
 (some (false)))
 (br (a6==8)
 (some (decide (a5<=1)))
 (br (a6==14)
 (br (decide (a5<=1))
 (br (a3==0)
 (some (true))
 (some (IntKind.wrap .i64 (Int.tmod x1 9 - Int.tmod x2 9)==0)))
 (some (false)))
 (br (a6==15)
 (br (decide (a5<=1))
 (br (a3==1)
 (some (IntKind.wrap .i64 (Int.tmod x1 9 - Int.tmod x2 9) != 0))
 (some (false)))
 (some (false)))
 (some (false)))))))))))))
 (ob (qBO x0) fun a5=>
 br (a5==1)
 (br (a3==0)
 (some (IntKind.wrap .i64 (Int.tmod x1 9 - Int.tmod x2 9)==1))
 (some (false)))
 (br (a5==3)
 (br (a3==1)
 (some (IntKind.wrap .i64 (Int.tmod x1 9 - Int.tmod x2 9)==2))
 (some (false)))
 (br (a5==4)
 (some (false))
 (br (a5==5)
 (some (false))
 (br (a5==9)
 (some (false))
 (br (a5==10)
 (some (false))
 (br (a5==11)
 (some (false))
 (br (a5==12)
 (some (false))
 (br (a5==8)
 (some (false))
 (br (a5==14)
 (some (false))
 (br (a5==15)
 (some (false))
 (some (false)))))))))))))))))))
def qHu (x0 x1:Int):Option (Int):=
 br (decide (x0<0))
 (some (0))
 (br (decide (x0>80))
 (some (0))
 (br (decide (x1<0))
 (some (0))
 (br (decide (x1>80))
 (some (0))
 (br (x0==x1)
 (some (0))
 (br (IntKind.wrap .i64 (IntKind.wrap .i64 (Int.tdiv x1 9) - IntKind.wrap .i64 (Int.tdiv x0 9))==0)
 (some (1))
 (br (IntKind.wrap .i64 (Int.tmod x1 9 - Int.tmod x0 9)==0)
 (some (1))
 (br (IntKind.wrap .i64 (IntKind.wrap .i64 (Int.tdiv x1 9) - IntKind.wrap .i64 (Int.tdiv x0 9))==IntKind.wrap .i64 (Int.tmod x1 9 - Int.tmod x0 9))
 (some (2))
 (br (IntKind.wrap .i64 (IntKind.wrap .i64 (Int.tdiv x1 9) - IntKind.wrap .i64 (Int.tdiv x0 9))==IntKind.wrap .i64 (0 - IntKind.wrap .i64 (Int.tmod x1 9 - Int.tmod x0 9)))
 (some (2))
 (some (0))))))))))
def qHw (x0:Int):Option (Int):=
 br (decide (x0<0))
 (some (-1))
 (br (decide (x0>0))
 (some (1))
 (some (0)))
def qHs (rec:Int->Nat->Int->Int->Nat->List Int->Option (Nat×Nat×List Int)) (x0:Int) (x1:Nat) (x2 x3:Int) (x4:Nat) (x5:List Int):Option (Nat×Nat×List Int):=
 br (x3 != x0)
 (br (decide ((x1+1)*8<=140737488355328))
 (rec x0 (x1+1) x2 (IntKind.wrap .i64 (x3+x2)) (x1+1) (List.append (List.take x1 x5) [x3]))
 (none))
 (some (x1,x4,x5))
def qFS:Nat->Int->Nat->Int->Int->Nat->List Int->Option (Nat×Nat×List Int)
 | 0,_,_,_,_,_,_=>none
 | f+1,x0,x1,x2,x3,x4,x5=>qHs (qFS f) x0 x1 x2 x3 x4 x5
def qJM (x0 x1:Int):Option (Nat×Nat×List Int):=
 ob (qHu x0 x1) fun a2=>
 br (a2==0)
 (some (0,0,[]))
 (ob (qHw (IntKind.wrap .i64 (IntKind.wrap .i64 (Int.tdiv x1 9) - IntKind.wrap .i64 (Int.tdiv x0 9)))) fun a3=>
 ob (qHw (IntKind.wrap .i64 (Int.tmod x1 9 - Int.tmod x0 9))) fun a4=>
 ob (qFS qB x1 0 (IntKind.wrap .i64 (IntKind.wrap .i64 (9*a3)+a4)) (IntKind.wrap .i64 (x0+IntKind.wrap .i64 (IntKind.wrap .i64 (9*a3)+a4))) 0 []) fun (a5_0,a5_1,a5_2)=>
 some (a5_0,a5_1,a5_2))
def qHt (rec:Nat->Int->List Bool->Nat->List Int->Option ((Bool)⊕(Unit))) (x0:Nat) (x1:Int) (x2:List Bool) (x3:Nat) (x4:List Int):Option ((Bool)⊕(Unit)):=
 br (decide (x1<Int.ofNat x0))
 (br (inB x1 x0)
 (br (inB (List.getD x4 (Int.toNat x1) 0) 81)
 (br (List.getD x2 (Int.toNat (List.getD x4 (Int.toNat x1) 0)) false)
 (some (.inl (false)))
 (rec x0 (IntKind.wrap .i64 (x1+1)) x2 x3 x4))
 (none))
 (none))
 (some (.inr ()))
def qFT:Nat->Nat->Int->List Bool->Nat->List Int->Option ((Bool)⊕(Unit))
 | 0,_,_,_,_,_=>none
 | f+1,x0,x1,x2,x3,x4=>qHt (qFT f) x0 x1 x2 x3 x4
def qAv (x0 x1:Int) (x2:List Bool):Option (Bool):=
 ob (qJM x0 x1) fun (a3_0,a3_1,a3_2)=>
 ob (qFT qB a3_0 0 x2 a3_1 a3_2) fun t6_2=>
 sw t6_2 (fun a6=>
 some (a6))
 (fun _=>
 some (true))
def qHv (x0 x1 x2:Int) (x3:List Bool):Option (Bool):=
 ob (qJL x0 x1 x2) fun a4=>
 br (a4)
 (some (true))
 (ob (qHu x1 x2) fun a5=>
 ob (qDq x0) fun a6=>
 br (a6==1)
 (ob (qBO x0) fun a7=>
 br (a7==2)
 (br (a5==1)
 (br (IntKind.wrap .i64 (Int.tdiv x1 9)==IntKind.wrap .i64 (Int.tdiv x2 9))
 (br (decide (IntKind.wrap .i64 (0 - IntKind.wrap .i64 (Int.tmod x1 9 - Int.tmod x2 9))>0))
 (ob (qAv x1 x2 x3) fun a8=>
 some (a8))
 (some (false)))
 (some (false)))
 (some (false)))
 (br (a7==6)
 (br (a5==2)
 (ob (qAv x1 x2 x3) fun a8=>
 some (a8))
 (some (false)))
 (br (a7==14)
 (br (a5==2)
 (ob (qAv x1 x2 x3) fun a8=>
 some (a8))
 (some (false)))
 (br (a7==7)
 (br (a5==1)
 (ob (qAv x1 x2 x3) fun a8=>
 some (a8))
 (some (false)))
 (br (a7==15)
 (br (a5==1)
 (ob (qAv x1 x2 x3) fun a8=>
 some (a8))
 (some (false)))
 (some (false)))))))
 (ob (qBO x0) fun a7=>
 br (a7==2)
 (br (a5==1)
 (br (IntKind.wrap .i64 (Int.tdiv x1 9)==IntKind.wrap .i64 (Int.tdiv x2 9))
 (br (decide (IntKind.wrap .i64 (Int.tmod x1 9 - Int.tmod x2 9)>0))
 (ob (qAv x1 x2 x3) fun a8=>
 some (a8))
 (some (false)))
 (some (false)))
 (some (false)))
 (br (a7==6)
 (br (a5==2)
 (ob (qAv x1 x2 x3) fun a8=>
 some (a8))
 (some (false)))
 (br (a7==14)
 (br (a5==2)
 (ob (qAv x1 x2 x3) fun a8=>
 some (a8))
 (some (false)))
 (br (a7==7)
 (br (a5==1)
 (ob (qAv x1 x2 x3) fun a8=>
 some (a8))
 (some (false)))
 (br (a7==15)
 (br (a5==1)
 (ob (qAv x1 x2 x3) fun a8=>
 some (a8))
 (some (false)))
 (some (false))))))))
def qGj (rec:Int->Int->Int->List Int->List Int->Int->List (List Int)->List (List Int)->Int->Int->Int->Int->Int->Int->Option (List Int×List Int×Int×List (List Int)×List (List Int)×Int×Int×Int×Int)) (x0 x1 x2:Int) (x3 x4:List Int) (x5:Int) (x6 x7:List (List Int)) (x8 x9:Int) (x10 x11:Int) (x12 x13:Int):Option (List Int×List Int×Int×List (List Int)×List (List Int)×Int×Int×Int×Int):=
 br (decide (x2<=15))
 (ob (qAm (IntKind.wrap .i64 (1 - x1)) x2) fun a23=>
 br (a23==0)
 (rec x0 x1 (IntKind.wrap .i64 (x2+1)) x3 x4 x5 x6 x7 x8 x9 x10 x11 x12 x13)
 (ob (qFP a23 x0 x8 x9) fun (a24_0,a24_1)=>
 ob (qC3 x1 x2 x3 x4 x5 x6 x7) fun (a26_0,a26_1)=>
 ob (qCv a24_0 a24_1 a26_0 a26_1) fun (a28_0,a28_1)=>
 ob (qD1 x12 x13 a28_0 a28_1) fun (a30_0,a30_1)=>
 rec x0 x1 (IntKind.wrap .i64 (x2+1)) x3 x4 x5 x6 x7 x8 x9 x10 x11 a30_0 a30_1))
 (some (x3,x4,x5,x6,x7,x10,x11,x12,x13))
def qEB:Nat->Int->Int->Int->List Int->List Int->Int->List (List Int)->List (List Int)->Int->Int->Int->Int->Int->Int->Option (List Int×List Int×Int×List (List Int)×List (List Int)×Int×Int×Int×Int)
 | 0,_,_,_,_,_,_,_,_,_,_,_,_,_,_=>none
 | f+1,x0,x1,x2,x3,x4,x5,x6,x7,x8,x9,x10,x11,x12,x13=>qGj (qEB f) x0 x1 x2 x3 x4 x5 x6 x7 x8 x9 x10 x11 x12 x13
def qGi (x0 x1:Int) (x2 x3:Int) (x4 x5:List Int) (x6:Int) (x7 x8:List (List Int)):Option (Int×Int):=
 br (decide (x0<0))
 (some (0,0))
 (br (decide (x0 >= 81))
 (some (0,0))
 (br (x1 != 0)
 (br (x1 != 1)
 (some (0,0))
 (ob (qEB qB x0 x1 1 x4 x5 x6 x7 x8 x2 x3 0 0 0 0) fun (_,_,_,_,_,_,_,a9_7,a9_8)=>
 some (a9_7,a9_8)))
 (ob (qEB qB x0 x1 1 x4 x5 x6 x7 x8 x2 x3 0 0 0 0) fun (_,_,_,_,_,_,_,a9_7,a9_8)=>
 some (a9_7,a9_8))))
def qFn (x0:Int) (x1 x2:List Int) (x3:Int) (x4 x5:List (List Int)):Option (Int×Int):=
 ob (qFr x0 x1 x2 x3 x4 x5) fun a6=>
 ob (qC4 x1 x2 x3 x4 x5) fun (a7_0,a7_1)=>
 ob (qGi a6 (IntKind.wrap .i64 (1 - x0)) a7_0 a7_1 x1 x2 x3 x4 x5) fun (a9_0,a9_1)=>
 some (a9_0,a9_1)
def qIW (x0:Int) (x1 x2:List Int) (x3:Int) (x4 x5:List (List Int)):Option (Bool):=
 ob (qFn x0 x1 x2 x3 x4 x5) fun (a6_0,a6_1)=>
 ob (qEc a6_0 a6_1) fun a8=>
 some (!a8)
def qGh (x0 x1:List Int) (x2:Int):Option (Int):=
 ob (qIY x0 x1 x2) fun a3=>
 br (a3 != 0)
 (some (a3))
 (ob (qFs x0 x1 x2) fun (a4_0,a4_1,a4_2,a4_3,a4_4)=>
 ob (qIW (IntKind.wrap .i64 (1 - x2)) a4_0 a4_1 a4_2 a4_3 a4_4) fun a9=>
 br (a9)
 (some (54))
 (some (0)))
def qID (rec:Nat->Int->Int->Nat->List Int->Int->Int->Int->Int->Option (Nat×List Int×Int×Int×Int×Int)) (x0:Nat) (x1 x2:Int) (x3:Nat) (x4:List Int) (x5 x6:Int) (x7 x8:Int):Option (Nat×List Int×Int×Int×Int×Int):=
 br (decide (x2<x1))
 (br (inB x2 x0)
 (ob (qBD x7 x8 (List.getD x4 (Int.toNat x2) 0)) fun (a12_0,a12_1)=>
 rec x0 x1 (IntKind.wrap .i64 (x2+1)) x3 x4 x5 x6 a12_0 a12_1)
 (none))
 (some (x3,x4,x5,x6,x7,x8))
def qFc:Nat->Nat->Int->Int->Nat->List Int->Int->Int->Int->Int->Option (Nat×List Int×Int×Int×Int×Int)
 | 0,_,_,_,_,_,_,_,_,_=>none
 | f+1,x0,x1,x2,x3,x4,x5,x6,x7,x8=>qID (qFc f) x0 x1 x2 x3 x4 x5 x6 x7 x8
def qIC (x0 x1:Nat) (x2:List Int):Option (Int×Int):=
 ob (qFc qB x0 (Int.ofNat x0) 0 x1 x2 0 0 0 0) fun (_,_,_,_,a3_4,a3_5)=>
 some (a3_4,a3_5)
def qH1 (rec:Int->Int->List Int->List Int->Int->Option ((Int)⊕(Unit))) (x0 x1:Int) (x2 x3:List Int) (x4:Int):Option ((Int)⊕(Unit)):=
 br (decide (x1<81))
 (br (inB x1 81)
 (br (conv .i8 .i64 (List.getD x2 (Int.toNat x1) 0)==IntKind.wrap .i64 (IntKind.wrap .i64 (16*x0)+8))
 (some (.inl (x1)))
 (rec x0 (IntKind.wrap .i64 (x1+1)) x2 x3 x4))
 (none))
 (some (.inr ()))
def qFX:Nat->Int->Int->List Int->List Int->Int->Option ((Int)⊕(Unit))
 | 0,_,_,_,_,_=>none
 | f+1,x0,x1,x2,x3,x4=>qH1 (qFX f) x0 x1 x2 x3 x4
def qJR (x0 x1:List Int) (x2 x3:Int):Option (Int):=
 ob (qFX qB x3 0 x0 x1 x2) fun t4_2=>
 sw t4_2 (fun a4=>
 some (a4))
 (fun _=>
 some (-1))
def qH0 (rec:Int->Int->Int->List Int->List Int->Int->List Bool->Option ((Bool)⊕(Unit))) (x0 x1 x2:Int) (x3 x4:List Int) (x5:Int) (x6:List Bool):Option ((Bool)⊕(Unit)):=
 br (decide (x2<81))
 (br (inB x2 81)
 (ob (qDq (conv .i8 .i64 (List.getD x3 (Int.toNat x2) 0))) fun a13=>
 br (a13==IntKind.wrap .i64 (1 - x0))
 (br (inB x2 81)
 (ob (qHv (conv .i8 .i64 (List.getD x3 (Int.toNat x2) 0)) x2 x1 x6) fun a14=>
 br (a14)
 (some (.inl (true)))
 (rec x0 x1 (IntKind.wrap .i64 (x2+1)) x3 x4 x5 x6))
 (none))
 (rec x0 x1 (IntKind.wrap .i64 (x2+1)) x3 x4 x5 x6))
 (none))
 (some (.inr ()))
def qFW:Nat->Int->Int->Int->List Int->List Int->Int->List Bool->Option ((Bool)⊕(Unit))
 | 0,_,_,_,_,_,_,_=>none
 | f+1,x0,x1,x2,x3,x4,x5,x6=>qH0 (qFW f) x0 x1 x2 x3 x4 x5 x6
def qJQ (x0 x1:List Int) (x2 x3:Int):Option (Bool):=
 ob (qJO x0 x1 x2) fun a4=>
 ob (qJR x0 x1 x2 x3) fun a5=>
 br (decide (a5<0))
 (some (false))
 (ob (qFW qB x3 a5 0 x0 x1 x2 a4) fun t6_2=>
 sw t6_2 (fun a6=>
 some (a6))
 (fun _=>
 some (false)))
def qJP (x0 x1:List Int) (x2:Int):Option (Int):=
 ob (qFU x0 x1 x2) fun a3=>
 br (a3 != 0)
 (some (a3))
 (ob (qJQ x0 x1 x2 (IntKind.wrap .i64 (1 - x2))) fun a4=>
 br (a4)
 (some (54))
 (some (0)))
def qHn (rec:Int->Int->Nat->Int->Int->Int->Int->Nat->List (List Int)->Option ((Int×Int)⊕(Int×Int))) (x0 x1:Int) (x2:Nat) (x3 x4:Int) (x5 x6:Int) (x7:Nat) (x8:List (List Int)):Option ((Int×Int)⊕(Int×Int)):=
 br (decide (x4<x3))
 (br (inB x4 x2)
 (ob (qIC 1 1 [x1]) fun (a17_0,a17_1)=>
 ob (qHp x0 (List.headD (List.take 2 (List.getD x8 (Int.toNat x4) [])) 0) (List.headD (List.tail (List.take 2 (List.getD x8 (Int.toNat x4) []))) 0) a17_0 a17_1) fun (a19_0,a19_1)=>
 ob (qCC a19_0 a19_1 x1) fun a21=>
 br (a21)
 (ob (qEf a19_0 a19_1 x1) fun (a22_0,a22_1)=>
 some (.inl (a22_0,a22_1)))
 (rec x0 x1 x2 x3 (IntKind.wrap .i64 (x4+1)) x5 x6 x7 x8))
 (none))
 (some (.inr (x5,x6)))
def qFO:Nat->Int->Int->Nat->Int->Int->Int->Int->Nat->List (List Int)->Option ((Int×Int)⊕(Int×Int))
 | 0,_,_,_,_,_,_,_,_,_=>none
 | f+1,x0,x1,x2,x3,x4,x5,x6,x7,x8=>qHn (qFO f) x0 x1 x2 x3 x4 x5 x6 x7 x8
def qHm (x0 x1:Int):Option (Int×Int):=
 ob (qGG 6) fun (a2_0,_,a2_2)=>
 ob (qGG 7) fun (a5_0,_,a5_2)=>
 br (decide ((a2_0+a5_0)*16<=140737488355328))
 (ob (qFO qB x0 x1 (a2_0+a5_0) (Int.ofNat (a2_0+a5_0)) 0 0 0 (a2_0+a5_0) (List.append (List.take a2_0 a2_2) (List.take a5_0 a5_2))) fun t8_2=>
 sw t8_2 (fun (a8_0,a8_1)=>
 some (a8_0,a8_1))
 (fun (_,_)=>
 some (0,0)))
 (none)
def qFo (rec:Int->Int->Nat->Int->Int->Nat->Int->Int->List Int->List Int->Int->List (List Int)->List (List Int)->List (List Int×List Int)->Nat->List Int->Nat->List Int->Option (Int×Int×Nat×Int×Int×List Int×List Int×Int×List (List Int)×List (List Int)×List (List Int×List Int)×Nat×List Int)) (x0 x1:Int) (x2:Nat) (x3 x4:Int) (x5:Nat) (x6 x7:Int) (x8 x9:List Int) (x10:Int) (x11 x12:List (List Int)) (x13:List (List Int×List Int)) (x14:Nat) (x15:List Int) (x16:Nat) (x17:List Int):Option (Int×Int×Nat×Int×Int×List Int×List Int×Int×List (List Int)×List (List Int)×List (List Int×List Int)×Nat×List Int):=
 br (decide (x7<x6))
 (br (inB x7 x5)
 (ob (qHm (List.getD x17 (Int.toNat x7) 0) x1) fun (a43_0,a43_1)=>
 ob (qC4 x8 x9 x10 x11 x12) fun (a45_0,a45_1)=>
 ob (qCv a43_0 a43_1 a45_0 a45_1) fun (a47_0,a47_1)=>
 ob (qGQ a47_0 a47_1) fun a49=>
 br (a49 != 1)
 (rec x0 x1 x2 x3 x4 x5 x6 (IntKind.wrap .i64 (x7+1)) x8 x9 x10 x11 x12 x13 x14 x15 x16 x17)
 (ob (qFu x0 x8 x9 x10 x11 x12) fun (a50_0,a50_1)=>
 ob (qCv a47_0 a47_1 a50_0 a50_1) fun (a52_0,a52_1)=>
 ob (qEc a52_0 a52_1) fun a54=>
 br (a54)
 (rec x0 x1 x2 x3 x4 x5 x6 (IntKind.wrap .i64 (x7+1)) x8 x9 x10 x11 x12 x13 x14 x15 x16 x17)
 (ob (qGS a47_0 a47_1) fun a55=>
 ob (qAi (List.getD x17 (Int.toNat x7) 0) x8 x9 x10 x11 x12) fun a56=>
 ob (qC4 x8 x9 x10 x11 x12) fun (a57_0,a57_1)=>
 ob (qEf a57_0 a57_1 a55) fun (a59_0,a59_1)=>
 ob (qFP a56 (List.getD x17 (Int.toNat x7) 0) a59_0 a59_1) fun (a61_0,a61_1)=>
 ob (qCC a61_0 a61_1 x1) fun a63=>
 br (!a63)
 (rec x0 x1 x2 x3 x4 x5 x6 (IntKind.wrap .i64 (x7+1)) x8 x9 x10 x11 x12 x13 x14 x15 x16 x17)
 (ob (qAi (List.getD x17 (Int.toNat x7) 0) x8 x9 x10 x11 x12) fun a64=>
 ob (qC4 x8 x9 x10 x11 x12) fun (a65_0,a65_1)=>
 ob (qFP a64 (List.getD x17 (Int.toNat x7) 0) a65_0 a65_1) fun (a67_0,a67_1)=>
 ob (qCC a67_0 a67_1 x1) fun a69=>
 br (a69)
 (rec x0 x1 x2 x3 x4 x5 x6 (IntKind.wrap .i64 (x7+1)) x8 x9 x10 x11 x12 x13 x14 x15 x16 x17)
 (ob (qBD a43_0 a43_1 (List.getD x17 (Int.toNat x7) 0)) fun (a70_0,a70_1)=>
 rec x0 x1 x2 x3 x4 x5 x6 (IntKind.wrap .i64 (x7+1)) x8 x9 x10 x11 x12 (qAI x13 [a55] [a70_0,a70_1]) x14 x15 x16 x17)))))
 (none))
 (some (x0,x1,x2,x3,x4,x8,x9,x10,x11,x12,x13,x14,x15))
def qEt:Nat->Int->Int->Nat->Int->Int->Nat->Int->Int->List Int->List Int->Int->List (List Int)->List (List Int)->List (List Int×List Int)->Nat->List Int->Nat->List Int->Option (Int×Int×Nat×Int×Int×List Int×List Int×Int×List (List Int)×List (List Int)×List (List Int×List Int)×Nat×List Int)
 | 0,_,_,_,_,_,_,_,_,_,_,_,_,_,_,_,_,_,_=>none
 | f+1,x0,x1,x2,x3,x4,x5,x6,x7,x8,x9,x10,x11,x12,x13,x14,x15,x16,x17=>qFo (qEt f) x0 x1 x2 x3 x4 x5 x6 x7 x8 x9 x10 x11 x12 x13 x14 x15 x16 x17
def qGm (rec:Int->Int->Nat->Int->Int->List Int->List Int->Int->List (List Int)->List (List Int)->List (List Int×List Int)->Nat->List Int->Option (List Int×List Int×Int×List (List Int)×List (List Int)×List (List Int×List Int))) (x0 x1:Int) (x2:Nat) (x3 x4:Int) (x5 x6:List Int) (x7:Int) (x8 x9:List (List Int)) (x10:List (List Int×List Int)) (x11:Nat) (x12:List Int):Option (List Int×List Int×Int×List (List Int)×List (List Int)×List (List Int×List Int)):=
 br (decide (x4<x3))
 (br (inB x4 x2)
 (ob (qC3 (IntKind.wrap .i64 (1 - x0)) (List.getD x12 (Int.toNat x4) 0) x5 x6 x7 x8 x9) fun (a20_0,a20_1)=>
 ob (qEd a20_0 a20_1) fun (a22_0,a22_1,a22_2)=>
 ob (qEt qB x0 x1 x2 x3 x4 a22_0 (Int.ofNat a22_0) 0 x5 x6 x7 x8 x9 x10 x11 x12 a22_1 a22_2) fun (a25_0,a25_1,a25_2,a25_3,a25_4,a25_5,a25_6,a25_7,a25_8,a25_9,a25_10,a25_11,a25_12)=>
 rec a25_0 a25_1 a25_2 a25_3 (IntKind.wrap .i64 (a25_4+1)) a25_5 a25_6 a25_7 a25_8 a25_9 a25_10 a25_11 a25_12)
 (none))
 (some (x5,x6,x7,x8,x9,x10))
def qEs:Nat->Int->Int->Nat->Int->Int->List Int->List Int->Int->List (List Int)->List (List Int)->List (List Int×List Int)->Nat->List Int->Option (List Int×List Int×Int×List (List Int)×List (List Int)×List (List Int×List Int))
 | 0,_,_,_,_,_,_,_,_,_,_,_,_,_=>none
 | f+1,x0,x1,x2,x3,x4,x5,x6,x7,x8,x9,x10,x11,x12=>qGm (qEs f) x0 x1 x2 x3 x4 x5 x6 x7 x8 x9 x10 x11 x12
def qGk (x0:Int) (x1 x2:List Int) (x3:Int) (x4 x5:List (List Int)):Option (List (List Int×List Int)):=
 ob (qFr x0 x1 x2 x3 x4 x5) fun a6=>
 br (decide (a6<0))
 (some ([]))
 (ob (qEs qB x0 a6 5 5 0 x1 x2 x3 x4 x5 [] 5 ([2,6,7,14,15])) fun (_,_,_,_,_,a7_5)=>
 some (a7_5))
def qHW (x0 x1:List Int) (x2:Int) (x3 x4:List (List Int)):Option (Int×Int×Int×Int×Bool×List (List Int×List Int)):=
 ob (qFr x2 x0 x1 x2 x3 x4) fun a5=>
 ob (qGO ) fun (a6_0,a6_1)=>
 ob (qGk x2 x0 x1 x2 x3 x4) fun a8=>
 ob (qFn x2 x0 x1 x2 x3 x4) fun (a9_0,a9_1)=>
 ob (qGQ a9_0 a9_1) fun a11=>
 br (a11==0)
 (some (x2,a5,a6_0,a6_1,false,a8))
 (br (a11==1)
 (ob (qGS a9_0 a9_1) fun a12=>
 ob (qHm a12 a5) fun (a13_0,a13_1)=>
 ob (qD1 a13_0 a13_1 a9_0 a9_1) fun (a15_0,a15_1)=>
 some (x2,a5,a15_0,a15_1,true,a8))
 (some (x2,a5,0,0,true,a8)))
def qHX (x0 x1:Int) (x2 x3:Int) (_x4:Bool) (x5 x6 _x7:Int) (_x8:Bool) (x9 x10:List Int) (x11:Int) (x12 x13:List (List Int)) (x14:List (List Int×List Int)):Option (Bool×List Int×List Int×Int×List (List Int)×List (List Int)×List (List Int×List Int)):=
 br (x5==x1)
 (ob (qC4 x9 x10 x11 x12 x13) fun (a15_0,a15_1)=>
 ob (qEf a15_0 a15_1 x1) fun (a17_0,a17_1)=>
 ob (qGi x6 (IntKind.wrap .i64 (1 - x0)) a17_0 a17_1 x9 x10 x11 x12 x13) fun (a19_0,a19_1)=>
 ob (qEc a19_0 a19_1) fun a21=>
 some (a21,x9,x10,x11,x12,x13,x14))
 (ob (qCC x2 x3 x6) fun a15=>
 br (!a15)
 (some (false,x9,x10,x11,x12,x13,x14))
 (br (!qA7 x14 [x5])
 (some (true,x9,x10,x11,x12,x13,x14))
 (ob (qCC (List.headD (qA6 x14 [x5] [0,0]) 0) (List.headD (List.tail (qA6 x14 [x5] [0,0])) 0) x6) fun a16=>
 some (a16,x9,x10,x11,x12,x13,x14))))
def qHV (rec:Nat->Int->Int->List Int->List Int->Int->List (List Int)->List (List Int)->Int->Int->Int->Int->Bool->Nat->List (List Int)->List Int->List Int->Int->List (List Int)->List (List Int)->List (List Int×List Int)->Option ((Bool×List Int×List Int×Int×List (List Int)×List (List Int))⊕(List Int×List Int×Int×List (List Int)×List (List Int)))) (x0:Nat) (x1 x2:Int) (x3 x4:List Int) (x5:Int) (x6 x7:List (List Int)) (x8 x9:Int) (x10 x11:Int) (x12:Bool) (x13:Nat) (x14:List (List Int)) (x15 x16:List Int) (x17:Int) (x18 x19:List (List Int)) (x20:List (List Int×List Int)):Option ((Bool×List Int×List Int×Int×List (List Int)×List (List Int))⊕(List Int×List Int×Int×List (List Int)×List (List Int))):=
 br (decide (x2<x1))
 (br (inB x2 x0)
 (ob (qHX x8 x9 x10 x11 x12 (List.headD (List.take 4 (List.getD x14 (Int.toNat x2) [])) 0) (List.headD (List.tail (List.take 4 (List.getD x14 (Int.toNat x2) []))) 0) (List.headD (List.tail (List.tail (List.take 4 (List.getD x14 (Int.toNat x2) [])))) 0) (List.headD (List.tail (List.tail (List.tail (List.take 4 (List.getD x14 (Int.toNat x2) []))))) 0 != 0) x15 x16 x17 x18 x19 x20) fun (a53_0,a53_1,a53_2,a53_3,a53_4,a53_5,a53_6)=>
 br (a53_0)
 (some (.inl (false,x3,x4,x5,x6,x7)))
 (rec x0 x1 (IntKind.wrap .i64 (x2+1)) x3 x4 x5 x6 x7 x8 x9 x10 x11 x12 x13 x14 a53_1 a53_2 a53_3 a53_4 a53_5 a53_6))
 (none))
 (some (.inr (x3,x4,x5,x6,x7)))
def qFJ:Nat->Nat->Int->Int->List Int->List Int->Int->List (List Int)->List (List Int)->Int->Int->Int->Int->Bool->Nat->List (List Int)->List Int->List Int->Int->List (List Int)->List (List Int)->List (List Int×List Int)->Option ((Bool×List Int×List Int×Int×List (List Int)×List (List Int))⊕(List Int×List Int×Int×List (List Int)×List (List Int)))
 | 0,_,_,_,_,_,_,_,_,_,_,_,_,_,_,_,_,_,_,_,_,_=>none
 | f+1,x0,x1,x2,x3,x4,x5,x6,x7,x8,x9,x10,x11,x12,x13,x14,x15,x16,x17,x18,x19,x20=>qHV (qFJ f) x0 x1 x2 x3 x4 x5 x6 x7 x8 x9 x10 x11 x12 x13 x14 x15 x16 x17 x18 x19 x20
def qIz (x0:Int) (x1 x2:List Int) (x3:Int) (x4 x5:List (List Int)):Option (Bool):=
 ob (qAm x3 1) fun a6=>
 br (a6==0)
 (some (false))
 (br (decide (x0<0))
 (some (false))
 (br (decide (x0 >= 81))
 (some (false))
 (ob (qAi x0 x1 x2 x3 x4 x5) fun a7=>
 br (a7 != 0)
 (some (false))
 (ob (qJ9 x1 x2 x3 x4 x5) fun (a8_0,a8_1,a8_2,a8_3,a8_4)=>
 ob (qFv x0 a6 a8_0 a8_1 a8_2 a8_3 a8_4) fun (a13_0,a13_1,a13_2,a13_3,a13_4)=>
 ob (qFn (conv .i8 .i64 (IntKind.wrap .i8 (1 - a13_2))) a13_0 a13_1 (IntKind.wrap .i8 (1 - a13_2)) a13_3 a13_4) fun (a18_0,a18_1)=>
 ob (qCC a18_0 a18_1 x0) fun a20=>
 br (!a20)
 (some (false))
 (ob (qHW a13_0 a13_1 (IntKind.wrap .i8 (1 - a13_2)) a13_3 a13_4) fun (a21_0,a21_1,a21_2,a21_3,a21_4,a21_5)=>
 ob (qGO ) fun (a27_0,a27_1)=>
 ob (qG7 a27_0 a27_1 a13_0 a13_1 (IntKind.wrap .i8 (1 - a13_2)) a13_3 a13_4) fun (a29_0,a29_1,a29_2)=>
 ob (qFJ qB a29_0 (Int.ofNat a29_0) 0 x1 x2 x3 x4 x5 a21_0 a21_1 a21_2 a21_3 a21_4 a29_1 a29_2 a13_0 a13_1 (IntKind.wrap .i8 (1 - a13_2)) a13_3 a13_4 a21_5) fun t32_2=>
 sw t32_2 (fun (a32_0,_,_,_,_,_)=>
 some (a32_0))
 (fun (_,_,_,_,_)=>
 some (true)))))))
def qHS (rec:Nat->Nat->Int->Int->List Int->List Int->Int->List (List Int)->List (List Int)->Int->Int->Int->Int->Bool->Nat->List (List Int)->Nat->List (List Int)->List (List Int×List Int)->Option (Nat×List Int×List Int×Int×List (List Int)×List (List Int)×Int×Int×Int×Int×Bool×Nat×List (List Int)×List (List Int×List Int))) (x0 x1:Nat) (x2 x3:Int) (x4 x5:List Int) (x6:Int) (x7 x8:List (List Int)) (x9 x10:Int) (x11 x12:Int) (x13:Bool) (x14:Nat) (x15:List (List Int)) (x16:Nat) (x17:List (List Int)) (x18:List (List Int×List Int)):Option (Nat×List Int×List Int×Int×List (List Int)×List (List Int)×Int×Int×Int×Int×Bool×Nat×List (List Int)×List (List Int×List Int)):=
 br (decide (x3<x2))
 (br (inB x3 x1)
 (ob (qHX x9 x10 x11 x12 x13 (List.headD (List.take 4 (List.getD x17 (Int.toNat x3) [])) 0) (List.headD (List.tail (List.take 4 (List.getD x17 (Int.toNat x3) []))) 0) (List.headD (List.tail (List.tail (List.take 4 (List.getD x17 (Int.toNat x3) [])))) 0) (List.headD (List.tail (List.tail (List.tail (List.take 4 (List.getD x17 (Int.toNat x3) []))))) 0 != 0) x4 x5 x6 x7 x8 x18) fun (a35_0,a35_1,a35_2,a35_3,a35_4,a35_5,a35_6)=>
 br (a35_0)
 (br (decide ((x0+1)*32<=140737488355328))
 (rec (x0+1) x1 x2 (IntKind.wrap .i64 (x3+1)) a35_1 a35_2 a35_3 a35_4 a35_5 x9 x10 x11 x12 x13 (x0+1) (List.append (List.take x0 x15) [[List.headD (List.take 4 (List.getD x17 (Int.toNat x3) [])) 0,List.headD (List.tail (List.take 4 (List.getD x17 (Int.toNat x3) []))) 0,List.headD (List.tail (List.tail (List.take 4 (List.getD x17 (Int.toNat x3) [])))) 0,bi (List.headD (List.tail (List.tail (List.tail (List.take 4 (List.getD x17 (Int.toNat x3) []))))) 0 != 0)]]) x16 x17 a35_6)
 (none))
 (rec x0 x1 x2 (IntKind.wrap .i64 (x3+1)) a35_1 a35_2 a35_3 a35_4 a35_5 x9 x10 x11 x12 x13 x14 x15 x16 x17 a35_6))
 (none))
 (some (x0,x4,x5,x6,x7,x8,x9,x10,x11,x12,x13,x14,x15,x18))
def qFH:Nat->Nat->Nat->Int->Int->List Int->List Int->Int->List (List Int)->List (List Int)->Int->Int->Int->Int->Bool->Nat->List (List Int)->Nat->List (List Int)->List (List Int×List Int)->Option (Nat×List Int×List Int×Int×List (List Int)×List (List Int)×Int×Int×Int×Int×Bool×Nat×List (List Int)×List (List Int×List Int))
 | 0,_,_,_,_,_,_,_,_,_,_,_,_,_,_,_,_,_,_,_=>none
 | f+1,x0,x1,x2,x3,x4,x5,x6,x7,x8,x9,x10,x11,x12,x13,x14,x15,x16,x17,x18=>qHS (qFH f) x0 x1 x2 x3 x4 x5 x6 x7 x8 x9 x10 x11 x12 x13 x14 x15 x16 x17 x18
def qHR (rec:Nat->Nat->Int->Int->List Int->List Int->Int->List (List Int)->List (List Int)->Nat->List (List Int)->Nat->List (List Int)->Option (Nat×List Int×List Int×Int×List (List Int)×List (List Int)×Nat×List (List Int))) (x0 x1:Nat) (x2 x3:Int) (x4 x5:List Int) (x6:Int) (x7 x8:List (List Int)) (x9:Nat) (x10:List (List Int)) (x11:Nat) (x12:List (List Int)):Option (Nat×List Int×List Int×Int×List (List Int)×List (List Int)×Nat×List (List Int)):=
 br (decide (x3<x2))
 (br (inB x3 x1)
 (br (List.headD (List.tail (List.tail (List.take 4 (List.getD x12 (Int.toNat x3) [])))) 0==1)
 (ob (qIz (List.headD (List.tail (List.take 4 (List.getD x12 (Int.toNat x3) []))) 0) x4 x5 x6 x7 x8) fun a46=>
 br (a46)
 (rec x0 x1 x2 (IntKind.wrap .i64 (x3+1)) x4 x5 x6 x7 x8 x9 x10 x11 x12)
 (br (decide ((x0+1)*32<=140737488355328))
 (rec (x0+1) x1 x2 (IntKind.wrap .i64 (x3+1)) x4 x5 x6 x7 x8 (x0+1) (List.append (List.take x0 x10) [[List.headD (List.take 4 (List.getD x12 (Int.toNat x3) [])) 0,List.headD (List.tail (List.take 4 (List.getD x12 (Int.toNat x3) []))) 0,List.headD (List.tail (List.tail (List.take 4 (List.getD x12 (Int.toNat x3) [])))) 0,bi (List.headD (List.tail (List.tail (List.tail (List.take 4 (List.getD x12 (Int.toNat x3) []))))) 0 != 0)]]) x11 x12)
 (none)))
 (br (decide ((x0+1)*32<=140737488355328))
 (rec (x0+1) x1 x2 (IntKind.wrap .i64 (x3+1)) x4 x5 x6 x7 x8 (x0+1) (List.append (List.take x0 x10) [[List.headD (List.take 4 (List.getD x12 (Int.toNat x3) [])) 0,List.headD (List.tail (List.take 4 (List.getD x12 (Int.toNat x3) []))) 0,List.headD (List.tail (List.tail (List.take 4 (List.getD x12 (Int.toNat x3) [])))) 0,bi (List.headD (List.tail (List.tail (List.tail (List.take 4 (List.getD x12 (Int.toNat x3) []))))) 0 != 0)]]) x11 x12)
 (none)))
 (none))
 (some (x0,x4,x5,x6,x7,x8,x9,x10))
def qEO:Nat->Nat->Nat->Int->Int->List Int->List Int->Int->List (List Int)->List (List Int)->Nat->List (List Int)->Nat->List (List Int)->Option (Nat×List Int×List Int×Int×List (List Int)×List (List Int)×Nat×List (List Int))
 | 0,_,_,_,_,_,_,_,_,_,_,_,_,_=>none
 | f+1,x0,x1,x2,x3,x4,x5,x6,x7,x8,x9,x10,x11,x12=>qHR (qEO f) x0 x1 x2 x3 x4 x5 x6 x7 x8 x9 x10 x11 x12
def qHP (x0 x1:List Int) (x2:Int) (x3 x4:List (List Int)):Option (Nat×List Int×List Int×Int×List (List Int)×List (List Int)×Nat×List (List Int)):=
 ob (qHW x0 x1 x2 x3 x4) fun (a5_0,a5_1,a5_2,a5_3,a5_4,a5_5)=>
 ob (qGO ) fun (a11_0,a11_1)=>
 ob (qG7 a11_0 a11_1 x0 x1 x2 x3 x4) fun (a13_0,a13_1,a13_2)=>
 ob (qFH qB 0 a13_0 (Int.ofNat a13_0) 0 x0 x1 x2 x3 x4 a5_0 a5_1 a5_2 a5_3 a5_4 0 [] a13_1 a13_2 a5_5) fun (a16_0,a16_1,a16_2,a16_3,a16_4,a16_5,_,_,a16_8,a16_9,_,a16_11,a16_12,_)=>
 ob (qIq a16_8 a16_9 a16_1 a16_2 a16_3 a16_4 a16_5) fun (a30_0,a30_1,a30_2)=>
 ob (qEO qB a16_0 a30_0 (Int.ofNat a30_0) 0 a16_1 a16_2 a16_3 a16_4 a16_5 a16_11 a16_12 a30_1 a30_2) fun (a33_0,a33_1,a33_2,a33_3,a33_4,a33_5,a33_6,a33_7)=>
 some (a33_0,a33_1,a33_2,a33_3,a33_4,a33_5,a33_6,a33_7)
def qHU (rec:Nat->Int->Int->List Int->List Int->Int->List (List Int)->List (List Int)->Int->Int->Int->Bool->Nat->List (List Int)->Option ((Bool×List Int×List Int×Int×List (List Int)×List (List Int))⊕(List Int×List Int×Int×List (List Int)×List (List Int)))) (x0:Nat) (x1 x2:Int) (x3 x4:List Int) (x5:Int) (x6 x7:List (List Int)) (x8 x9 x10:Int) (x11:Bool) (x12:Nat) (x13:List (List Int)):Option ((Bool×List Int×List Int×Int×List (List Int)×List (List Int))⊕(List Int×List Int×Int×List (List Int)×List (List Int))):=
 br (decide (x2<x1))
 (br (inB x2 x0)
 (br (List.headD (List.take 4 (List.getD x13 (Int.toNat x2) [])) 0==x8&&(List.headD (List.tail (List.take 4 (List.getD x13 (Int.toNat x2) []))) 0==x9&&(List.headD (List.tail (List.tail (List.take 4 (List.getD x13 (Int.toNat x2) [])))) 0==x10&&(List.headD (List.tail (List.tail (List.tail (List.take 4 (List.getD x13 (Int.toNat x2) []))))) 0 != 0)==x11)))
 (some (.inl (true,x3,x4,x5,x6,x7)))
 (rec x0 x1 (IntKind.wrap .i64 (x2+1)) x3 x4 x5 x6 x7 x8 x9 x10 x11 x12 x13))
 (none))
 (some (.inr (x3,x4,x5,x6,x7)))
def qFI:Nat->Nat->Int->Int->List Int->List Int->Int->List (List Int)->List (List Int)->Int->Int->Int->Bool->Nat->List (List Int)->Option ((Bool×List Int×List Int×Int×List (List Int)×List (List Int))⊕(List Int×List Int×Int×List (List Int)×List (List Int)))
 | 0,_,_,_,_,_,_,_,_,_,_,_,_,_,_=>none
 | f+1,x0,x1,x2,x3,x4,x5,x6,x7,x8,x9,x10,x11,x12,x13=>qHU (qFI f) x0 x1 x2 x3 x4 x5 x6 x7 x8 x9 x10 x11 x12 x13
def qHT (x0 x1 x2:Int) (x3:Bool) (x4 x5:List Int) (x6:Int) (x7 x8:List (List Int)):Option (Bool×List Int×List Int×Int×List (List Int)×List (List Int)):=
 ob (qHP x4 x5 x6 x7 x8) fun (a9_0,a9_1,a9_2,a9_3,a9_4,a9_5,a9_6,a9_7)=>
 ob (qFI qB a9_0 (Int.ofNat a9_0) 0 a9_1 a9_2 a9_3 a9_4 a9_5 x0 x1 x2 x3 a9_6 a9_7) fun t17_2=>
 sw t17_2 (fun (a17_0,a17_1,a17_2,a17_3,a17_4,a17_5)=>
 some (a17_0,a17_1,a17_2,a17_3,a17_4,a17_5))
 (fun (a17_0,a17_1,a17_2,a17_3,a17_4)=>
 some (false,a17_0,a17_1,a17_2,a17_3,a17_4))
def qLa (x0:Int):Option (ByteArray):=
 ob (qAE x0) fun a1=>
 br (a1==0)
 (some ({data:=#[]}))
 (ob (qCs a1) fun a2=>
 br (inB a2 9)
 (ob (qAL x0) fun a3=>
 br (a3==1)
 (br (decide (a1>8))
 (some (qFj [43,IntKind.wrap .u8 (qC5 { data:=#[32,80,76,78,83,71,66,82,75] } (Int.toNat a2)+32)]))
 (some (qFj [IntKind.wrap .u8 (qC5 { data:=#[32,80,76,78,83,71,66,82,75] } (Int.toNat a2)+32)])))
 (br (decide (a1>8))
 (some (qFj [43,qC5 { data:=#[32,80,76,78,83,71,66,82,75] } (Int.toNat a2)]))
 (some (qFj [qC5 { data:=#[32,80,76,78,83,71,66,82,75] } (Int.toNat a2)]))))
 (none))
def qFK (x0:Int):Option (ByteArray):=
 br (decide (x0<0))
 (some ({data:=#[]}))
 (br (decide (x0 >= 81))
 (some ({data:=#[]}))
 (ob (qGR x0) fun a1=>
 ob (qFd x0) fun a2=>
 some (qFj [conv .i64 .u8 (IntKind.wrap .i64 (49+a1)),conv .i64 .u8 (IntKind.wrap .i64 (97+a2))])))
def qDl (x0 x1 x2:Int) (x3:Bool):Option (ByteArray):=
 ob (qDj x0 x1 x2 x3) fun a4=>
 br (a4 != 0)
 (some ({data:=#[]}))
 (br (x2 != 0)
 (ob (qAm 0 x2) fun a5=>
 ob (qLa a5) fun a6=>
 br (qAb (ByteArray.size a6+1))
 (ob (qFK x1) fun a7=>
 br (qAb (ByteArray.size { data:={toList:=List.append (Array.toList (ByteArray.data a6)) (Array.toList (ByteArray.data { data:=#[42]})) }}+ByteArray.size a7))
 (some ({data:={toList:=List.append (Array.toList (ByteArray.data { data:={toList:=List.append (Array.toList (ByteArray.data a6)) (Array.toList (ByteArray.data { data:=#[42]})) }})) (Array.toList (ByteArray.data a7)) }}))
 (none))
 (none))
 (br (x3)
 (ob (qFK x0) fun a5=>
 ob (qFK x1) fun a6=>
 br (qAb (ByteArray.size a5+ByteArray.size a6))
 (br (qAb (ByteArray.size { data:={toList:=List.append (Array.toList (ByteArray.data a5)) (Array.toList (ByteArray.data a6)) }}+1))
 (some ({data:={toList:=List.append (Array.toList (ByteArray.data { data:={toList:=List.append (Array.toList (ByteArray.data a5)) (Array.toList (ByteArray.data a6)) }})) (Array.toList (ByteArray.data { data:=#[43]})) }}))
 (none))
 (none))
 (ob (qFK x0) fun a5=>
 ob (qFK x1) fun a6=>
 br (qAb (ByteArray.size a5+ByteArray.size a6))
 (some ({data:={toList:=List.append (Array.toList (ByteArray.data a5)) (Array.toList (ByteArray.data a6)) }}))
 (none))))
def qLc (rec:Int->Bool->Int->ByteArray->Nat->Option ((Int)⊕(Unit))) (x0:Int) (x1:Bool) (x2:Int) (x3:ByteArray) (x4:Nat):Option ((Int)⊕(Unit)):=
 br (Nat.blt x4 (ByteArray.size x3))
 (br (Int.ofNat x4==0)
 (rec x0 x1 x2 x3 (x4+qBg x3 x4))
 (br (qAW x3 x4 != x0)
 (rec x0 x1 x2 x3 (x4+qBg x3 x4))
 (br (x1)
 (ob (qCt (Int.ofNat x4)) fun a7=>
 ob (qAm x2 a7) fun a8=>
 some (.inl (a8)))
 (ob (qAm x2 (Int.ofNat x4)) fun a7=>
 some (.inl (a7))))))
 (some (.inr ()))
def qDn:Nat->Int->Bool->Int->ByteArray->Nat->Option ((Int)⊕(Unit))
 | 0,_,_,_,_,_=>none
 | f+1,x0,x1,x2,x3,x4=>qLc (qDn f) x0 x1 x2 x3 x4
def qFN (x0:Int) (x1:Bool):Option (Int):=
 br (decide (x0 >= 97))
 (br (decide (x0<=122))
 (ob (qDn qB (IntKind.wrap .i32 (x0 - 32)) x1 1 ({data:=#[32,80,76,78,83,71,66,82,75]}) 0) fun t2_2=>
 sw t2_2 (fun a2=>
 some (a2))
 (fun _=>
 some (0)))
 (ob (qDn qB x0 x1 0 ({data:=#[32,80,76,78,83,71,66,82,75]}) 0) fun t2_2=>
 sw t2_2 (fun a2=>
 some (a2))
 (fun _=>
 some (0))))
 (ob (qDn qB x0 x1 0 ({data:=#[32,80,76,78,83,71,66,82,75]}) 0) fun t2_2=>
 sw t2_2 (fun a2=>
 some (a2))
 (fun _=>
 some (0)))
def qDA (x0 x1:Int):Option (Int×Bool):=
 ob (qCD (conv .i32 .i64 (IntKind.wrap .i32 (x0 - 49))) (conv .i32 .i64 (IntKind.wrap .i32 (x1 - 97)))) fun a2=>
 some (a2,decide (a2 >= 0))
def qCR (rec:Nat->Int->Int->Int->Bool->Nat->List Int->ByteArray->Nat->Option (Nat×Int×Int×Int×Bool×Nat×List Int)) (x0:Nat) (x1 x2 x3:Int) (x4:Bool) (x5:Nat) (x6:List Int) (x7:ByteArray) (x8:Nat):Option (Nat×Int×Int×Int×Bool×Nat×List Int):=
 br (Nat.blt x8 (ByteArray.size x7))
 (br (Int.ofNat x0==6)
 (some (x0,x1,x2,x3,x4,x5,x6))
 (br (decide ((x0+1)*4<=140737488355328))
 (rec (x0+1) x1 x2 x3 x4 (x0+1) (List.append (List.take x0 x6) [qAW x7 x8]) x7 (x8+qBg x7 x8))
 (none)))
 (some (x0,x1,x2,x3,x4,x5,x6))
def qBC:Nat->Nat->Int->Int->Int->Bool->Nat->List Int->ByteArray->Nat->Option (Nat×Int×Int×Int×Bool×Nat×List Int)
 | 0,_,_,_,_,_,_,_,_,_=>none
 | f+1,x0,x1,x2,x3,x4,x5,x6,x7,x8=>qCR (qBC f) x0 x1 x2 x3 x4 x5 x6 x7 x8
def qDk (x0:ByteArray):Option (Int×Int×Int×Bool×Int):=
 br (decide (Int.ofNat (ByteArray.size x0)<=qAg))
 (ob (qBC qB 0 0 0 0 false 0 [] x0 0) fun (a1_0,_,_,_,_,_,a1_6)=>
 br (Int.ofNat a1_0 != 4)
 (br (Int.ofNat a1_0 != 5)
 (some (0,0,0,false,70))
 (br (inB 1 a1_0)
 (br (List.getD a1_6 1 0==42)
 (br (inB 0 a1_0)
 (ob (qFN (List.getD a1_6 0 0) false) fun a8=>
 br (inB 2 a1_0)
 (br (inB 3 a1_0)
 (ob (qDA (List.getD a1_6 2 0) (List.getD a1_6 3 0)) fun (a9_0,a9_1)=>
 ob (qAL a8) fun a11=>
 br (a11 != 0)
 (some (0,0,0,false,70))
 (br (a8==8)
 (some (0,0,0,false,70))
 (br (!a9_1)
 (some (0,0,0,false,70))
 (br (Int.ofNat a1_0 != 4)
 (some (0,0,0,false,70))
 (some (0,a9_0,a8,false,0))))))
 (none))
 (none))
 (none))
 (br (inB 0 a1_0)
 (br (inB 1 a1_0)
 (ob (qDA (List.getD a1_6 0 0) (List.getD a1_6 1 0)) fun (a8_0,a8_1)=>
 br (inB 2 a1_0)
 (br (inB 3 a1_0)
 (ob (qDA (List.getD a1_6 2 0) (List.getD a1_6 3 0)) fun (a10_0,a10_1)=>
 br (!a8_1)
 (some (0,0,0,false,70))
 (br (!a10_1)
 (some (0,0,0,false,70))
 (br (a8_0==a10_0)
 (some (0,0,0,false,70))
 (br (Int.ofNat a1_0==5)
 (br (inB 4 a1_0)
 (br (List.getD a1_6 4 0 != 43)
 (some (0,0,0,false,70))
 (some (a8_0,a10_0,0,Int.ofNat a1_0==5,0)))
 (none))
 (some (a8_0,a10_0,0,Int.ofNat a1_0==5,0))))))
 (none))
 (none))
 (none))
 (none)))
 (none)))
 (br (inB 1 a1_0)
 (br (List.getD a1_6 1 0==42)
 (br (inB 0 a1_0)
 (ob (qFN (List.getD a1_6 0 0) false) fun a8=>
 br (inB 2 a1_0)
 (br (inB 3 a1_0)
 (ob (qDA (List.getD a1_6 2 0) (List.getD a1_6 3 0)) fun (a9_0,a9_1)=>
 ob (qAL a8) fun a11=>
 br (a11 != 0)
 (some (0,0,0,false,70))
 (br (a8==8)
 (some (0,0,0,false,70))
 (br (!a9_1)
 (some (0,0,0,false,70))
 (br (Int.ofNat a1_0 != 4)
 (some (0,0,0,false,70))
 (some (0,a9_0,a8,false,0))))))
 (none))
 (none))
 (none))
 (br (inB 0 a1_0)
 (br (inB 1 a1_0)
 (ob (qDA (List.getD a1_6 0 0) (List.getD a1_6 1 0)) fun (a8_0,a8_1)=>
 br (inB 2 a1_0)
 (br (inB 3 a1_0)
 (ob (qDA (List.getD a1_6 2 0) (List.getD a1_6 3 0)) fun (a10_0,a10_1)=>
 br (!a8_1)
 (some (0,0,0,false,70))
 (br (!a10_1)
 (some (0,0,0,false,70))
 (br (a8_0==a10_0)
 (some (0,0,0,false,70))
 (br (Int.ofNat a1_0==5)
 (br (inB 4 a1_0)
 (br (List.getD a1_6 4 0 != 43)
 (some (0,0,0,false,70))
 (some (a8_0,a10_0,0,Int.ofNat a1_0==5,0)))
 (none))
 (some (a8_0,a10_0,0,Int.ofNat a1_0==5,0))))))
 (none))
 (none))
 (none))
 (none)))
 (none)))
 (none)
def qX5 (rec:Nat->Nat->Int->Int->Nat->List (List Int)->List Int->List Int->Int->Int->Nat->List Int->List Int->Int->List (List Int)->List (List Int)->Nat->List (List Int)->Option ((Nat×Int×Int×Nat×List (List Int)×List Int×List Int×Int×Int×Nat×List Int×List Int×Int×List (List Int)×List (List Int)×Nat×List (List Int))⊕(Nat×Nat×List (List Int)×List Int×List Int×Int×Int×Nat×List Int×List Int×Int×List (List Int)×List (List Int)×Nat×List (List Int)))) (x0 x1:Nat) (x2 x3:Int) (x4:Nat) (x5:List (List Int)) (x6 x7:List Int) (x8 x9:Int) (x10:Nat) (x11 x12:List Int) (x13:Int) (x14 x15:List (List Int)) (x16:Nat) (x17:List (List Int)):Option ((Nat×Int×Int×Nat×List (List Int)×List Int×List Int×Int×Int×Nat×List Int×List Int×Int×List (List Int)×List (List Int)×Nat×List (List Int))⊕(Nat×Nat×List (List Int)×List Int×List Int×Int×Int×Nat×List Int×List Int×Int×List (List Int)×List (List Int)×Nat×List (List Int))):=
 br (decide (x3<x2))
 (br (inB x3 x1)
 (ob (qHT (List.headD (List.take 4 (List.getD x5 (Int.toNat x3) [])) 0) (List.headD (List.tail (List.take 4 (List.getD x5 (Int.toNat x3) []))) 0) (List.headD (List.tail (List.tail (List.take 4 (List.getD x5 (Int.toNat x3) [])))) 0) (List.headD (List.tail (List.tail (List.tail (List.take 4 (List.getD x5 (Int.toNat x3) []))))) 0 != 0) x11 x12 x13 x14 x15) fun (a34_0,a34_1,a34_2,a34_3,a34_4,a34_5)=>
 br (!a34_0)
 (some (.inl (x0,x3,110,x4,x5,a34_1,a34_2,a34_3,x9,x10,a34_1,a34_2,a34_3,a34_4,a34_5,x16,x17)))
 (ob (qE4 (List.headD (List.take 4 (List.getD x5 (Int.toNat x3) [])) 0) (List.headD (List.tail (List.take 4 (List.getD x5 (Int.toNat x3) []))) 0) (List.headD (List.tail (List.tail (List.take 4 (List.getD x5 (Int.toNat x3) [])))) 0) (List.headD (List.tail (List.tail (List.tail (List.take 4 (List.getD x5 (Int.toNat x3) []))))) 0 != 0) x9 x10 a34_1 a34_2 a34_3 a34_4 a34_5 x16 x17) fun t40_2=>
 sw t40_2 (fun (_,a40_1,a40_2,a40_3,a40_4,a40_5,a40_6,a40_7,a40_8,a40_9)=>
 rec x0 x1 x2 (IntKind.wrap .i64 (x3+1)) x4 x5 x6 x7 x8 a40_1 a40_2 a40_3 a40_4 a40_5 a40_6 a40_7 a40_8 a40_9)
 (fun (_,a40_1,a40_2,a40_3,a40_4,a40_5,a40_6,a40_7,a40_8,a40_9)=>
 rec x0 x1 x2 (IntKind.wrap .i64 (x3+1)) x4 x5 x6 x7 x8 a40_1 a40_2 a40_3 a40_4 a40_5 a40_6 a40_7 a40_8 a40_9)))
 (none))
 (some (.inr (x0,x4,x5,x6,x7,x8,x9,x10,x11,x12,x13,x14,x15,x16,x17)))
def qK9:Nat->Nat->Nat->Int->Int->Nat->List (List Int)->List Int->List Int->Int->Int->Nat->List Int->List Int->Int->List (List Int)->List (List Int)->Nat->List (List Int)->Option ((Nat×Int×Int×Nat×List (List Int)×List Int×List Int×Int×Int×Nat×List Int×List Int×Int×List (List Int)×List (List Int)×Nat×List (List Int))⊕(Nat×Nat×List (List Int)×List Int×List Int×Int×Int×Nat×List Int×List Int×Int×List (List Int)×List (List Int)×Nat×List (List Int)))
 | 0,_,_,_,_,_,_,_,_,_,_,_,_,_,_,_,_,_,_=>none
 | f+1,x0,x1,x2,x3,x4,x5,x6,x7,x8,x9,x10,x11,x12,x13,x14,x15,x16,x17=>qX5 (qK9 f) x0 x1 x2 x3 x4 x5 x6 x7 x8 x9 x10 x11 x12 x13 x14 x15 x16 x17
def qPg (x0 x1:List Int) (x2:Int) (x3 x4:Nat) (x5:List (List Int)):Option (Int×List Int×List Int×Int×Int):=
 ob (qGh x0 x1 x2) fun a6=>
 br (a6 != 0)
 (some (0,x0,x1,x2,a6))
 (ob (qG0 x0 x1 x2) fun (a7_0,a7_1,a7_2,a7_3,a7_4,a7_5,a7_6,a7_7,a7_8)=>
 ob (qK9 qB x3 x3 (Int.ofNat x3) 0 x4 x5 ([0,0,0,0,0,0,0,0,0,0,0,0,0,0,0,0,0,0,0,0,0,0,0,0,0,0,0,0,0,0,0,0,0,0,0,0,0,0,0,0,0,0,0,0,0,0,0,0,0,0,0,0,0,0,0,0,0,0,0,0,0,0,0,0,0,0,0,0,0,0,0,0,0,0,0,0,0,0,0,0,0]) ([0,0,0,0,0,0,0,0,0,0,0,0,0,0,0,0]) 0 a7_0 a7_1 a7_2 a7_3 a7_4 a7_5 a7_6 a7_7 a7_8) fun t16_2=>
 sw t16_2 (fun (_,a16_1,a16_2,_,_,a16_5,a16_6,a16_7,_,_,_,_,_,_,_,_,_)=>
 some (a16_1,a16_5,a16_6,a16_7,a16_2))
 (fun (a16_0,_,_,_,_,_,_,_,a16_8,a16_9,a16_10,_,_,_,_)=>
 some (Int.ofNat a16_0,a16_8,a16_9,a16_10,0)))
def qey (rec:Int->ByteArray->Nat->Option (Int)) (x0:Int) (x1:ByteArray) (x2:Nat):Option (Int):=
 br (Nat.blt x2 (ByteArray.size x1))
 (rec (IntKind.wrap .i64 (x0+1)) x1 (x2+qBg x1 x2))
 (some (x0))
def qMo:Nat->Int->ByteArray->Nat->Option (Int)
 | 0,_,_,_=>none
 | f+1,x0,x1,x2=>qey (qMo f) x0 x1 x2
def qMm (x0:ByteArray):Option (Int):=
 br (decide (Int.ofNat (ByteArray.size x0)<=qAg))
 (ob (qMo qB 0 x0 0) fun a1=>
 some (a1))
 (none)
def qMp (x0:ByteArray):Option (Int×Int):=
 br (decide (Int.ofNat (ByteArray.size x0)<=qAg))
 (br (decide (Int.ofNat (ByteArray.size x0)<1))
 (some (65533,0))
 (br (inB 0 (ByteArray.size x0))
 (none)
 (none)))
 (none)
def qSy (x0:ByteArray):Option (Int×Int):=
 br (!qAa x0 { data:=#[]})
 (br (inB 0 (ByteArray.size x0))
 (br (decide (qC5 x0 0<128))
 (br (inB 0 (ByteArray.size x0))
 (some (Int.ofNat (UInt8.toNat (List.getD (Array.toList (ByteArray.data x0)) 0 0)),1))
 (none))
 (ob (qMp x0) fun (a1_0,a1_1)=>
 some (a1_0,a1_1)))
 (none))
 (ob (qMp x0) fun (a1_0,a1_1)=>
 some (a1_0,a1_1))
def qeN (rec:ByteArray->Int->Nat->Int->Nat->List (List Int)->Option (ByteArray×Int×Nat×Nat×List (List Int))) (x0:ByteArray) (x1:Int) (x2:Nat) (x3:Int) (x4:Nat) (x5:List (List Int)):Option (ByteArray×Int×Nat×Nat×List (List Int)):=
 br (decide (x3<IntKind.wrap .i64 (x1 - 1)))
 (ob (qSy x0) fun (_,a9_1)=>
 br (qAj a9_1 (ByteArray.size x0)&&true)
 (br (inB x3 x2)
 (br (true&&qAj a9_1 (ByteArray.size x0))
 (rec (ByteArray.extract x0 (Int.toNat a9_1) (ByteArray.size x0)) x1 x2 (IntKind.wrap .i64 (x3+1)) x4 (List.set x5 (Int.toNat x3) (List.set (List.getD x5 (Int.toNat x3) []) 0 (qAC (ByteArray.extract x0 0 (Int.toNat a9_1))))))
 (none))
 (none))
 (none))
 (some (x0,x1,x2,x4,x5))
def qIM:Nat->ByteArray->Int->Nat->Int->Nat->List (List Int)->Option (ByteArray×Int×Nat×Nat×List (List Int))
 | 0,_,_,_,_,_,_=>none
 | f+1,x0,x1,x2,x3,x4,x5=>qeN (qIM f) x0 x1 x2 x3 x4 x5
def qSe (x0:ByteArray) (x1:Int):Option (Nat×Nat×List (List Int)):=
 ob (qMm x0) fun a2=>
 br (decide (x1<0))
 (br (decide (0<=a2))
 (br (decide (a2<=a2))
 (br (decide (16*a2<=281474976710656))
 (ob (qIM qB x0 a2 (Int.toNat a2) 0 (Int.toNat a2) (List.replicate (Int.toNat a2) [0])) fun (a3_0,a3_1,a3_2,a3_3,a3_4)=>
 br (decide (a3_1>0))
 (br (inB (IntKind.wrap .i64 (a3_1 - 1)) a3_2)
 (some (a3_2,a3_3,List.set a3_4 (Int.toNat (IntKind.wrap .i64 (a3_1 - 1))) (List.set (List.getD a3_4 (Int.toNat (IntKind.wrap .i64 (a3_1 - 1))) []) 0 (qAC a3_0))))
 (none))
 (some (a3_2,a3_3,a3_4)))
 (none))
 (none))
 (none))
 (br (decide (x1>a2))
 (br (decide (0<=a2))
 (br (decide (a2<=a2))
 (br (decide (16*a2<=281474976710656))
 (ob (qIM qB x0 a2 (Int.toNat a2) 0 (Int.toNat a2) (List.replicate (Int.toNat a2) [0])) fun (a3_0,a3_1,a3_2,a3_3,a3_4)=>
 br (decide (a3_1>0))
 (br (inB (IntKind.wrap .i64 (a3_1 - 1)) a3_2)
 (some (a3_2,a3_3,List.set a3_4 (Int.toNat (IntKind.wrap .i64 (a3_1 - 1))) (List.set (List.getD a3_4 (Int.toNat (IntKind.wrap .i64 (a3_1 - 1))) []) 0 (qAC a3_0))))
 (none))
 (some (a3_2,a3_3,a3_4)))
 (none))
 (none))
 (none))
 (br (decide (0<=x1))
 (br (decide (x1<=x1))
 (br (decide (16*x1<=281474976710656))
 (ob (qIM qB x0 x1 (Int.toNat x1) 0 (Int.toNat x1) (List.replicate (Int.toNat x1) [0])) fun (a3_0,a3_1,a3_2,a3_3,a3_4)=>
 br (decide (a3_1>0))
 (br (inB (IntKind.wrap .i64 (a3_1 - 1)) a3_2)
 (some (a3_2,a3_3,List.set a3_4 (Int.toNat (IntKind.wrap .i64 (a3_1 - 1))) (List.set (List.getD a3_4 (Int.toNat (IntKind.wrap .i64 (a3_1 - 1))) []) 0 (qAC a3_0))))
 (none))
 (some (a3_2,a3_3,a3_4)))
 (none))
 (none))
 (none)))
def qMh (x0:ByteArray) (x1:Int):Option (Int):=
 br (qAb (ByteArray.size x0))
 (some (qCj 1 x0 x1))
 (none)
def qJk (x0 x1:ByteArray):Option (Int):=
 br (decide (Int.ofNat (ByteArray.size x1)<=qAg))
 (br (Int.ofNat (ByteArray.size x1)==0)
 (some (0))
 (br (qAa x1 x0)
 (some (0))
 (br (Int.ofNat (ByteArray.size x1)==1)
 (br (inB 0 (ByteArray.size x1))
 (ob (qMh x0 (qC5 x1 0)) fun a2=>
 some (a2))
 (none))
 (br (decide (Int.ofNat (ByteArray.size x0)<=qAg))
 (br (decide (Int.ofNat (ByteArray.size x1) >= Int.ofNat (ByteArray.size x0)))
 (some (-1))
 (none))
 (none)))))
 (none)
def qD5 (x0 x1:ByteArray):Option (Int):=
 ob (qJk x0 x1) fun a2=>
 some (a2)
def qd6 (rec:ByteArray->ByteArray->Int->Option (Int)) (x0 x1:ByteArray) (x2:Int):Option (Int):=
 ob (qD5 x0 x1) fun a5=>
 br (a5 == -1)
 (some (x2))
 (br (decide (Int.ofNat (ByteArray.size x1)<=qAg))
 (br (true&&qAj (IntKind.wrap .i64 (a5+Int.ofNat (ByteArray.size x1))) (ByteArray.size x0))
 (rec (ByteArray.extract x0 (Int.toNat (IntKind.wrap .i64 (a5+Int.ofNat (ByteArray.size x1)))) (ByteArray.size x0)) x1 (IntKind.wrap .i64 (x2+1)))
 (none))
 (none))
def qMc:Nat->ByteArray->ByteArray->Int->Option (Int)
 | 0,_,_,_=>none
 | f+1,x0,x1,x2=>qd6 (qMc f) x0 x1 x2
def qJi (x0 x1:ByteArray):Option (Int):=
 br (decide (Int.ofNat (ByteArray.size x1)<=qAg))
 (br (Int.ofNat (ByteArray.size x1)==0)
 (ob (qMm x0) fun a2=>
 some (IntKind.wrap .i64 (a2+1)))
 (br (decide (Int.ofNat (ByteArray.size x1)<=qAg))
 (br (Int.ofNat (ByteArray.size x1)==1)
 (br (inB 0 (ByteArray.size x1))
 (br (qAb (ByteArray.size x0))
 (some (qCj 0 x0 (qC5 x1 0)))
 (none))
 (none))
 (ob (qMc qB x0 x1 0) fun a2=>
 some (a2)))
 (none)))
 (none)
def qMg (rec:ByteArray->ByteArray->Int->Int->Nat->Int->Nat->List (List Int)->Option (ByteArray×Nat×Int×Nat×List (List Int))) (x0 x1:ByteArray) (x2 x3:Int) (x4:Nat) (x5:Int) (x6:Nat) (x7:List (List Int)):Option (ByteArray×Nat×Int×Nat×List (List Int)):=
 br (decide (x5<x3))
 (ob (qD5 x0 x1) fun a13=>
 br (decide (a13<0))
 (some (x0,x4,x5,x6,x7))
 (br (qAj (IntKind.wrap .i64 (a13+x2)) (ByteArray.size x0)&&true)
 (br (inB x5 x4)
 (br (decide (Int.ofNat (ByteArray.size x1)<=qAg))
 (br (true&&qAj (IntKind.wrap .i64 (a13+Int.ofNat (ByteArray.size x1))) (ByteArray.size x0))
 (rec (ByteArray.extract x0 (Int.toNat (IntKind.wrap .i64 (a13+Int.ofNat (ByteArray.size x1)))) (ByteArray.size x0)) x1 x2 x3 x4 (IntKind.wrap .i64 (x5+1)) x6 (List.set x7 (Int.toNat x5) (List.set (List.getD x7 (Int.toNat x5) []) 0 (qAC (ByteArray.extract x0 0 (Int.toNat (IntKind.wrap .i64 (a13+x2))))))))
 (none))
 (none))
 (none))
 (none)))
 (some (x0,x4,x5,x6,x7))
def qEi:Nat->ByteArray->ByteArray->Int->Int->Nat->Int->Nat->List (List Int)->Option (ByteArray×Nat×Int×Nat×List (List Int))
 | 0,_,_,_,_,_,_,_,_=>none
 | f+1,x0,x1,x2,x3,x4,x5,x6,x7=>qMg (qEi f) x0 x1 x2 x3 x4 x5 x6 x7
def qMe (x0 x1:ByteArray) (x2 x3:Int):Option (Nat×Nat×List (List Int)):=
 br (x3==0)
 (some (0,0,[]))
 (br (qAa x1 { data:=#[]})
 (ob (qSe x0 x3) fun (a4_0,a4_1,a4_2)=>
 some (a4_0,a4_1,a4_2))
 (br (decide (x3<0))
 (ob (qJi x0 x1) fun a4=>
 br (decide (Int.ofNat (ByteArray.size x0)<=qAg))
 (br (decide (0<=bif true then bif decide (IntKind.wrap .i64 (Int.ofNat (ByteArray.size x0)+1)<IntKind.wrap .i64 (a4+1)) then IntKind.wrap .i64 (Int.ofNat (ByteArray.size x0)+1) else IntKind.wrap .i64 (a4+1) else bif decide (IntKind.wrap .i64 (Int.ofNat (ByteArray.size x0)+1)>IntKind.wrap .i64 (a4+1)) then IntKind.wrap .i64 (Int.ofNat (ByteArray.size x0)+1) else IntKind.wrap .i64 (a4+1)))
 (br (decide ((bif true then bif decide (IntKind.wrap .i64 (Int.ofNat (ByteArray.size x0)+1)<IntKind.wrap .i64 (a4+1)) then IntKind.wrap .i64 (Int.ofNat (ByteArray.size x0)+1) else IntKind.wrap .i64 (a4+1) else bif decide (IntKind.wrap .i64 (Int.ofNat (ByteArray.size x0)+1)>IntKind.wrap .i64 (a4+1)) then IntKind.wrap .i64 (Int.ofNat (ByteArray.size x0)+1) else IntKind.wrap .i64 (a4+1))<=bif true then bif decide (IntKind.wrap .i64 (Int.ofNat (ByteArray.size x0)+1)<IntKind.wrap .i64 (a4+1)) then IntKind.wrap .i64 (Int.ofNat (ByteArray.size x0)+1) else IntKind.wrap .i64 (a4+1) else bif decide (IntKind.wrap .i64 (Int.ofNat (ByteArray.size x0)+1)>IntKind.wrap .i64 (a4+1)) then IntKind.wrap .i64 (Int.ofNat (ByteArray.size x0)+1) else IntKind.wrap .i64 (a4+1)))
 (br (decide ((16*bif true then bif decide (IntKind.wrap .i64 (Int.ofNat (ByteArray.size x0)+1)<IntKind.wrap .i64 (a4+1)) then IntKind.wrap .i64 (Int.ofNat (ByteArray.size x0)+1) else IntKind.wrap .i64 (a4+1) else bif decide (IntKind.wrap .i64 (Int.ofNat (ByteArray.size x0)+1)>IntKind.wrap .i64 (a4+1)) then IntKind.wrap .i64 (Int.ofNat (ByteArray.size x0)+1) else IntKind.wrap .i64 (a4+1))<=281474976710656))
 (ob (qEi qB x0 x1 x2 (IntKind.wrap .i64 ((bif true then bif decide (IntKind.wrap .i64 (Int.ofNat (ByteArray.size x0)+1)<IntKind.wrap .i64 (a4+1)) then IntKind.wrap .i64 (Int.ofNat (ByteArray.size x0)+1) else IntKind.wrap .i64 (a4+1) else bif decide (IntKind.wrap .i64 (Int.ofNat (ByteArray.size x0)+1)>IntKind.wrap .i64 (a4+1)) then IntKind.wrap .i64 (Int.ofNat (ByteArray.size x0)+1) else IntKind.wrap .i64 (a4+1)) - 1)) (Int.toNat (bif true then bif decide (IntKind.wrap .i64 (Int.ofNat (ByteArray.size x0)+1)<IntKind.wrap .i64 (a4+1)) then IntKind.wrap .i64 (Int.ofNat (ByteArray.size x0)+1) else IntKind.wrap .i64 (a4+1) else bif decide (IntKind.wrap .i64 (Int.ofNat (ByteArray.size x0)+1)>IntKind.wrap .i64 (a4+1)) then IntKind.wrap .i64 (Int.ofNat (ByteArray.size x0)+1) else IntKind.wrap .i64 (a4+1))) 0 (Int.toNat (bif true then bif decide (IntKind.wrap .i64 (Int.ofNat (ByteArray.size x0)+1)<IntKind.wrap .i64 (a4+1)) then IntKind.wrap .i64 (Int.ofNat (ByteArray.size x0)+1) else IntKind.wrap .i64 (a4+1) else bif decide (IntKind.wrap .i64 (Int.ofNat (ByteArray.size x0)+1)>IntKind.wrap .i64 (a4+1)) then IntKind.wrap .i64 (Int.ofNat (ByteArray.size x0)+1) else IntKind.wrap .i64 (a4+1))) (List.replicate (Int.toNat (bif true then bif decide (IntKind.wrap .i64 (Int.ofNat (ByteArray.size x0)+1)<IntKind.wrap .i64 (a4+1)) then IntKind.wrap .i64 (Int.ofNat (ByteArray.size x0)+1) else IntKind.wrap .i64 (a4+1) else bif decide (IntKind.wrap .i64 (Int.ofNat (ByteArray.size x0)+1)>IntKind.wrap .i64 (a4+1)) then IntKind.wrap .i64 (Int.ofNat (ByteArray.size x0)+1) else IntKind.wrap .i64 (a4+1))) [0])) fun (a5_0,a5_1,a5_2,a5_3,a5_4)=>
 br (inB a5_2 a5_1)
 (br (qAj (IntKind.wrap .i64 (a5_2+1)) a5_1)
 (some (Int.toNat (IntKind.wrap .i64 (a5_2+1)) - 0,a5_3,List.set a5_4 (Int.toNat a5_2) (List.set (List.getD a5_4 (Int.toNat a5_2) []) 0 (qAC a5_0))))
 (none))
 (none))
 (none))
 (none))
 (none))
 (none))
 (br (decide (Int.ofNat (ByteArray.size x0)<=qAg))
 (br (decide (0<=bif true then bif decide (IntKind.wrap .i64 (Int.ofNat (ByteArray.size x0)+1)<x3) then IntKind.wrap .i64 (Int.ofNat (ByteArray.size x0)+1) else x3 else bif decide (IntKind.wrap .i64 (Int.ofNat (ByteArray.size x0)+1)>x3) then IntKind.wrap .i64 (Int.ofNat (ByteArray.size x0)+1) else x3))
 (br (decide ((bif true then bif decide (IntKind.wrap .i64 (Int.ofNat (ByteArray.size x0)+1)<x3) then IntKind.wrap .i64 (Int.ofNat (ByteArray.size x0)+1) else x3 else bif decide (IntKind.wrap .i64 (Int.ofNat (ByteArray.size x0)+1)>x3) then IntKind.wrap .i64 (Int.ofNat (ByteArray.size x0)+1) else x3)<=bif true then bif decide (IntKind.wrap .i64 (Int.ofNat (ByteArray.size x0)+1)<x3) then IntKind.wrap .i64 (Int.ofNat (ByteArray.size x0)+1) else x3 else bif decide (IntKind.wrap .i64 (Int.ofNat (ByteArray.size x0)+1)>x3) then IntKind.wrap .i64 (Int.ofNat (ByteArray.size x0)+1) else x3))
 (br (decide ((16*bif true then bif decide (IntKind.wrap .i64 (Int.ofNat (ByteArray.size x0)+1)<x3) then IntKind.wrap .i64 (Int.ofNat (ByteArray.size x0)+1) else x3 else bif decide (IntKind.wrap .i64 (Int.ofNat (ByteArray.size x0)+1)>x3) then IntKind.wrap .i64 (Int.ofNat (ByteArray.size x0)+1) else x3)<=281474976710656))
 (ob (qEi qB x0 x1 x2 (IntKind.wrap .i64 ((bif true then bif decide (IntKind.wrap .i64 (Int.ofNat (ByteArray.size x0)+1)<x3) then IntKind.wrap .i64 (Int.ofNat (ByteArray.size x0)+1) else x3 else bif decide (IntKind.wrap .i64 (Int.ofNat (ByteArray.size x0)+1)>x3) then IntKind.wrap .i64 (Int.ofNat (ByteArray.size x0)+1) else x3) - 1)) (Int.toNat (bif true then bif decide (IntKind.wrap .i64 (Int.ofNat (ByteArray.size x0)+1)<x3) then IntKind.wrap .i64 (Int.ofNat (ByteArray.size x0)+1) else x3 else bif decide (IntKind.wrap .i64 (Int.ofNat (ByteArray.size x0)+1)>x3) then IntKind.wrap .i64 (Int.ofNat (ByteArray.size x0)+1) else x3)) 0 (Int.toNat (bif true then bif decide (IntKind.wrap .i64 (Int.ofNat (ByteArray.size x0)+1)<x3) then IntKind.wrap .i64 (Int.ofNat (ByteArray.size x0)+1) else x3 else bif decide (IntKind.wrap .i64 (Int.ofNat (ByteArray.size x0)+1)>x3) then IntKind.wrap .i64 (Int.ofNat (ByteArray.size x0)+1) else x3)) (List.replicate (Int.toNat (bif true then bif decide (IntKind.wrap .i64 (Int.ofNat (ByteArray.size x0)+1)<x3) then IntKind.wrap .i64 (Int.ofNat (ByteArray.size x0)+1) else x3 else bif decide (IntKind.wrap .i64 (Int.ofNat (ByteArray.size x0)+1)>x3) then IntKind.wrap .i64 (Int.ofNat (ByteArray.size x0)+1) else x3)) [0])) fun (a4_0,a4_1,a4_2,a4_3,a4_4)=>
 br (inB a4_2 a4_1)
 (br (qAj (IntKind.wrap .i64 (a4_2+1)) a4_1)
 (some (Int.toNat (IntKind.wrap .i64 (a4_2+1)) - 0,a4_3,List.set a4_4 (Int.toNat a4_2) (List.set (List.getD a4_4 (Int.toNat a4_2) []) 0 (qAC a4_0))))
 (none))
 (none))
 (none))
 (none))
 (none))
 (none))))
def qJj (x0 x1:ByteArray):Option (Nat×Nat×List (List Int)):=
 ob (qMe x0 x1 0 (-1)) fun (a2_0,a2_1,a2_2)=>
 some (a2_0,a2_1,a2_2)
def qK6 (rec:Nat->Nat->Int->Int->Nat->List (List Int)->Nat->List (List Int)->Option ((Nat×Int×Int×Nat×Nat×List (List Int)×Nat×List (List Int))⊕(Nat×Nat×List (List Int)))) (x0 x1:Nat) (x2 x3:Int) (x4:Nat) (x5:List (List Int)) (x6:Nat) (x7:List (List Int)):Option ((Nat×Int×Int×Nat×Nat×List (List Int)×Nat×List (List Int))⊕(Nat×Nat×List (List Int))):=
 br (decide (x3<x2))
 (br (inB x3 x1)
 (ob (qDk (qAq (List.getD (List.getD x7 (Int.toNat x3) []) 0 0))) fun (a12_0,a12_1,a12_2,a12_3,a12_4)=>
 br (a12_4 != 0)
 (some (.inl (0,x3,a12_4,x0,0,[],x4,x5)))
 (br (decide ((x0+1)*32<=140737488355328))
 (rec (x0+1) x1 x2 (IntKind.wrap .i64 (x3+1)) (x0+1) (List.append (List.take x0 x5) [[a12_0,a12_1,a12_2,bi a12_3]]) x6 x7)
 (none)))
 (none))
 (some (.inr (x0,x4,x5)))
def qEQ:Nat->Nat->Nat->Int->Int->Nat->List (List Int)->Nat->List (List Int)->Option ((Nat×Int×Int×Nat×Nat×List (List Int)×Nat×List (List Int))⊕(Nat×Nat×List (List Int)))
 | 0,_,_,_,_,_,_,_,_=>none
 | f+1,x0,x1,x2,x3,x4,x5,x6,x7=>qK6 (qEQ f) x0 x1 x2 x3 x4 x5 x6 x7
def qHY (x0:ByteArray):Option (Nat×Int×Int×Nat×List (List Int)):=
 br (qAa x0 { data:=#[]})
 (some (0,0,0,0,[]))
 (ob (qJj x0 ({data:=#[32]})) fun (a1_0,a1_1,a1_2)=>
 ob (qEQ qB 0 a1_0 (Int.ofNat a1_0) 0 0 [] a1_1 a1_2) fun t4_2=>
 sw t4_2 (fun (a4_0,a4_1,a4_2,_,a4_4,a4_5,_,_)=>
 some (a4_0,a4_1,a4_2,a4_4,a4_5))
 (fun (a4_0,a4_1,a4_2)=>
 some (a4_0,Int.ofNat a4_0,0,a4_1,a4_2)))
def strings_Join (x0:Nat) (x1:ByteArray) (_x2:Nat) (x3:List (List Int)):Option (ByteArray):=
 br (qIv (qDJ (List.take x0 x3)) x1)
 (some (qHK (qDJ (List.take x0 x3)) x1))
 (none)
def qYH (rec:Nat->Nat->Int->Int->Nat->List (List Int)->Nat->List (List Int)->Option (Nat×Nat×List (List Int)×Nat×List (List Int))) (x0 x1:Nat) (x2 x3:Int) (x4:Nat) (x5:List (List Int)) (x6:Nat) (x7:List (List Int)):Option (Nat×Nat×List (List Int)×Nat×List (List Int)):=
 br (decide (x3<x2))
 (br (inB x3 x1)
 (ob (qDl (List.headD (List.take 4 (List.getD x5 (Int.toNat x3) [])) 0) (List.headD (List.tail (List.take 4 (List.getD x5 (Int.toNat x3) []))) 0) (List.headD (List.tail (List.tail (List.take 4 (List.getD x5 (Int.toNat x3) [])))) 0) (List.headD (List.tail (List.tail (List.tail (List.take 4 (List.getD x5 (Int.toNat x3) []))))) 0 != 0)) fun a11=>
 br (decide ((x0+1)*16<=140737488355328))
 (rec (x0+1) x1 x2 (IntKind.wrap .i64 (x3+1)) x4 x5 (x0+1) (List.append (List.take x0 x7) [[qAC a11]]))
 (none))
 (none))
 (some (x0,x4,x5,x6,x7))
def qLC:Nat->Nat->Nat->Int->Int->Nat->List (List Int)->Nat->List (List Int)->Option (Nat×Nat×List (List Int)×Nat×List (List Int))
 | 0,_,_,_,_,_,_,_,_=>none
 | f+1,x0,x1,x2,x3,x4,x5,x6,x7=>qYH (qLC f) x0 x1 x2 x3 x4 x5 x6 x7
def qPo (x0 x1:Nat) (x2:List (List Int)):Option (ByteArray):=
 ob (qLC qB 0 x0 (Int.ofNat x0) 0 x1 x2 0 []) fun (a3_0,_,_,a3_3,a3_4)=>
 ob (strings_Join a3_0 ({data:=#[32]}) a3_3 a3_4) fun a8=>
 some (a8)
def qKz:Option (Bool):=
 ob (qNk ) fun (a0_0,a0_1,a0_2)=>
 ob (qPg a0_0 a0_1 a0_2 2 2 ([[60,59,0,0],[60,58,0,0]])) fun (a3_0,a3_1,_,_,a3_4)=>
 ob (qHY ({data:=#[55,103,55,102,32,51,99,51,100]})) fun (a8_0,a8_1,a8_2,a8_3,a8_4)=>
 br (a3_0==1)
 (br (a3_4==110)
 (br (List.getD a3_1 59 0==1)
 (br (a8_2==0)
 (br (a8_1==2)
 (ob (qPo a8_0 a8_3 a8_4) fun a13=>
 some (qAa a13 { data:=#[55,103,55,102,32,51,99,51,100]}))
 (some (false)))
 (some (false)))
 (some (false)))
 (some (false)))
 (some (false))
def qHz (x0:Int):Option (ByteArray):=
 br (qAj (IntKind.wrap .i64 (IntKind.wrap .i64 (Int.tdiv x0 9)+1)) 9&&qAj (IntKind.wrap .i64 (Int.tdiv x0 9)) (Int.toNat (IntKind.wrap .i64 (IntKind.wrap .i64 (Int.tdiv x0 9)+1))))
 (br (qAj (IntKind.wrap .i64 (Int.tmod x0 9+1)) 9&&qAj (Int.tmod x0 9) (Int.toNat (IntKind.wrap .i64 (Int.tmod x0 9+1))))
 (br (qAb (ByteArray.size (ByteArray.extract { data:=#[49,50,51,52,53,54,55,56,57] } (Int.toNat (IntKind.wrap .i64 (Int.tdiv x0 9))) (Int.toNat (IntKind.wrap .i64 (IntKind.wrap .i64 (Int.tdiv x0 9)+1))))+ByteArray.size (ByteArray.extract { data:=#[97,98,99,100,101,102,103,104,105] } (Int.toNat (Int.tmod x0 9)) (Int.toNat (IntKind.wrap .i64 (Int.tmod x0 9+1))))))
 (some ({data:={toList:=List.append (Array.toList (ByteArray.data (ByteArray.extract { data:=#[49,50,51,52,53,54,55,56,57] } (Int.toNat (IntKind.wrap .i64 (Int.tdiv x0 9))) (Int.toNat (IntKind.wrap .i64 (IntKind.wrap .i64 (Int.tdiv x0 9)+1)))))) (Array.toList (ByteArray.data (ByteArray.extract { data:=#[97,98,99,100,101,102,103,104,105] } (Int.toNat (Int.tmod x0 9)) (Int.toNat (IntKind.wrap .i64 (Int.tmod x0 9+1)))))) }}))
 (none))
 (none))
 (none)
def qCX (x0 x1 x2:Int) (x3:Bool):Option (ByteArray):=
 ob (qGM x0 x1 x2 x3) fun a4=>
 br (a4 != 0)
 (some ({data:=#[]}))
 (br (x2 != 0)
 (br (qAj x2 7&&qAj (IntKind.wrap .i64 (x2 - 1)) (Int.toNat x2))
 (br (qAb (ByteArray.size (ByteArray.extract { data:=#[80,76,78,83,71,66,82] } (Int.toNat (IntKind.wrap .i64 (x2 - 1))) (Int.toNat x2))+1))
 (ob (qHz x1) fun a5=>
 br (qAb (ByteArray.size { data:={toList:=List.append (Array.toList (ByteArray.data (ByteArray.extract { data:=#[80,76,78,83,71,66,82] } (Int.toNat (IntKind.wrap .i64 (x2 - 1))) (Int.toNat x2)))) (Array.toList (ByteArray.data { data:=#[42]})) }}+ByteArray.size a5))
 (some ({data:={toList:=List.append (Array.toList (ByteArray.data { data:={toList:=List.append (Array.toList (ByteArray.data (ByteArray.extract { data:=#[80,76,78,83,71,66,82] } (Int.toNat (IntKind.wrap .i64 (x2 - 1))) (Int.toNat x2)))) (Array.toList (ByteArray.data { data:=#[42]})) }})) (Array.toList (ByteArray.data a5)) }}))
 (none))
 (none))
 (none))
 (ob (qHz x0) fun a5=>
 ob (qHz x1) fun a6=>
 br (qAb (ByteArray.size a5+ByteArray.size a6))
 (br (x3)
 (br (qAb (ByteArray.size { data:={toList:=List.append (Array.toList (ByteArray.data a5)) (Array.toList (ByteArray.data a6)) }}+1))
 (some ({data:={toList:=List.append (Array.toList (ByteArray.data { data:={toList:=List.append (Array.toList (ByteArray.data a5)) (Array.toList (ByteArray.data a6)) }})) (Array.toList (ByteArray.data { data:=#[43]})) }}))
 (none))
 (some ({data:={toList:=List.append (Array.toList (ByteArray.data a5)) (Array.toList (ByteArray.data a6)) }})))
 (none)))
def qPj (_rec:Int->Int->List Int->List Int->Int->Int->Nat->List Int->List Int->Int->List (List Int)->List (List Int)->Nat->List (List Int)->Option (List Int×List Int×Int×Int×Nat×List Int×List Int×Int×List (List Int)×List (List Int)×Nat×List (List Int))) (x0 x1:Int) (x2 x3:List Int) (x4 x5:Int) (x6:Nat) (x7 x8:List Int) (x9:Int) (x10 x11:List (List Int)) (x12:Nat) (x13:List (List Int)):Option (List Int×List Int×Int×Int×Nat×List Int×List Int×Int×List (List Int)×List (List Int)×Nat×List (List Int)):=
 br (decide (x1<x0))
 (none)
 (some (x2,x3,x4,x5,x6,x7,x8,x9,x10,x11,x12,x13))
def qI4:Nat->Int->Int->List Int->List Int->Int->Int->Nat->List Int->List Int->Int->List (List Int)->List (List Int)->Nat->List (List Int)->Option (List Int×List Int×Int×Int×Nat×List Int×List Int×Int×List (List Int)×List (List Int)×Nat×List (List Int))
 | 0,_,_,_,_,_,_,_,_,_,_,_,_,_,_=>none
 | f+1,x0,x1,x2,x3,x4,x5,x6,x7,x8,x9,x10,x11,x12,x13=>qPj (qI4 f) x0 x1 x2 x3 x4 x5 x6 x7 x8 x9 x10 x11 x12 x13
def qI3 (x0 x1:List Int) (x2:Int):Option (Int×List Int×List Int×Int×Int):=
 ob (qGh x0 x1 x2) fun a3=>
 br (a3 != 0)
 (some (0,x0,x1,x2,a3))
 (ob (qG0 x0 x1 x2) fun (a4_0,a4_1,a4_2,a4_3,a4_4,a4_5,a4_6,a4_7,a4_8)=>
 ob (qI4 qB 0 0 ([0,0,0,0,0,0,0,0,0,0,0,0,0,0,0,0,0,0,0,0,0,0,0,0,0,0,0,0,0,0,0,0,0,0,0,0,0,0,0,0,0,0,0,0,0,0,0,0,0,0,0,0,0,0,0,0,0,0,0,0,0,0,0,0,0,0,0,0,0,0,0,0,0,0,0,0,0,0,0,0,0]) ([0,0,0,0,0,0,0,0,0,0,0,0,0,0,0,0]) 0 a4_0 a4_1 a4_2 a4_3 a4_4 a4_5 a4_6 a4_7 a4_8) fun (_,_,_,_,_,a13_5,a13_6,a13_7,_,_,_,_)=>
 some (0,a13_5,a13_6,a13_7,0))
def qYB (_rec:Nat->Int->Int->Nat->List (List Int)->Option (Nat×Nat×List (List Int))) (x0:Nat) (x1 x2:Int) (x3:Nat) (x4:List (List Int)):Option (Nat×Nat×List (List Int)):=
 br (decide (x2<x1))
 (none)
 (some (x0,x3,x4))
def qHZ:Nat->Nat->Int->Int->Nat->List (List Int)->Option (Nat×Nat×List (List Int))
 | 0,_,_,_,_,_=>none
 | f+1,x0,x1,x2,x3,x4=>qYB (qHZ f) x0 x1 x2 x3 x4
def qI5:Option (ByteArray):=
 ob (qHZ qB 0 0 0 0 []) fun (a0_0,a0_1,a0_2)=>
 ob (strings_Join a0_0 ({data:=#[32]}) a0_1 a0_2) fun a3=>
 some (a3)
def qXp (_rec:Int->Int->List Int->List Int->Int->Option (Unit)) (x0 x1:Int) (_x2 _x3:List Int) (_x4:Int):Option (Unit):=
 br (decide (x1<x0))
 (none)
 (some ())
def qI2:Nat->Int->Int->List Int->List Int->Int->Option (Unit)
 | 0,_,_,_,_,_=>none
 | f+1,x0,x1,x2,x3,x4=>qXp (qI2 f) x0 x1 x2 x3 x4
def qI1 (x0 x1:List Int) (x2:Int):Option (Int×Int):=
 ob (qI2 qB 0 0 x0 x1 x2) fun _=>
 some (0,210)
def qKy (rec:Int->ByteArray->Nat->Nat->Int->Int->Nat->List (List Int)->Option ((Int×Bool×ByteArray×Nat×List (List Int))⊕(Int×ByteArray×Nat×List (List Int)))) (x0:Int) (x1:ByteArray) (x2 x3:Nat) (x4 x5:Int) (x6:Nat) (x7:List (List Int)):Option ((Int×Bool×ByteArray×Nat×List (List Int))⊕(Int×ByteArray×Nat×List (List Int))):=
 br (decide (x5<x4))
 (br (inB x5 x3)
 (br (decide (x5>0))
 (br (qAb (ByteArray.size x1+1))
 (ob (qCX (List.headD (List.take 4 (List.getD x7 (x2+Int.toNat x5) [])) 0) (List.headD (List.tail (List.take 4 (List.getD x7 (x2+Int.toNat x5) []))) 0) (List.headD (List.tail (List.tail (List.take 4 (List.getD x7 (x2+Int.toNat x5) [])))) 0) (List.headD (List.tail (List.tail (List.tail (List.take 4 (List.getD x7 (x2+Int.toNat x5) []))))) 0 != 0)) fun a26=>
 br (qAa a26 { data:=#[]})
 (some (.inl (x0,true,{data:={toList:=List.append (Array.toList (ByteArray.data x1)) (Array.toList (ByteArray.data { data:=#[32]})) }},x6,x7)))
 (br (x5==x0)
 (br (qAb (ByteArray.size { data:={toList:=List.append (Array.toList (ByteArray.data x1)) (Array.toList (ByteArray.data { data:=#[32]})) }}+1))
 (ob (qCX (List.headD (List.take 4 (List.getD x7 (x2+Int.toNat x5) [])) 0) (List.headD (List.tail (List.take 4 (List.getD x7 (x2+Int.toNat x5) []))) 0) (List.headD (List.tail (List.tail (List.take 4 (List.getD x7 (x2+Int.toNat x5) [])))) 0) (List.headD (List.tail (List.tail (List.tail (List.take 4 (List.getD x7 (x2+Int.toNat x5) []))))) 0 != 0)) fun a27=>
 br (qAb (ByteArray.size { data:={toList:=List.append (Array.toList (ByteArray.data { data:={toList:=List.append (Array.toList (ByteArray.data x1)) (Array.toList (ByteArray.data { data:=#[32]})) }})) (Array.toList (ByteArray.data { data:=#[120]})) }}+ByteArray.size a27))
 (rec x0 ({data:={toList:=List.append (Array.toList (ByteArray.data { data:={toList:=List.append (Array.toList (ByteArray.data { data:={toList:=List.append (Array.toList (ByteArray.data x1)) (Array.toList (ByteArray.data { data:=#[32]})) }})) (Array.toList (ByteArray.data { data:=#[120]})) }})) (Array.toList (ByteArray.data a27)) }}) x2 x3 x4 (IntKind.wrap .i64 (x5+1)) x6 x7)
 (none))
 (none))
 (ob (qCX (List.headD (List.take 4 (List.getD x7 (x2+Int.toNat x5) [])) 0) (List.headD (List.tail (List.take 4 (List.getD x7 (x2+Int.toNat x5) []))) 0) (List.headD (List.tail (List.tail (List.take 4 (List.getD x7 (x2+Int.toNat x5) [])))) 0) (List.headD (List.tail (List.tail (List.tail (List.take 4 (List.getD x7 (x2+Int.toNat x5) []))))) 0 != 0)) fun a27=>
 br (qAb (ByteArray.size { data:={toList:=List.append (Array.toList (ByteArray.data x1)) (Array.toList (ByteArray.data { data:=#[32]})) }}+ByteArray.size a27))
 (rec x0 ({data:={toList:=List.append (Array.toList (ByteArray.data { data:={toList:=List.append (Array.toList (ByteArray.data x1)) (Array.toList (ByteArray.data { data:=#[32]})) }})) (Array.toList (ByteArray.data a27)) }}) x2 x3 x4 (IntKind.wrap .i64 (x5+1)) x6 x7)
 (none))))
 (none))
 (ob (qCX (List.headD (List.take 4 (List.getD x7 (x2+Int.toNat x5) [])) 0) (List.headD (List.tail (List.take 4 (List.getD x7 (x2+Int.toNat x5) []))) 0) (List.headD (List.tail (List.tail (List.take 4 (List.getD x7 (x2+Int.toNat x5) [])))) 0) (List.headD (List.tail (List.tail (List.tail (List.take 4 (List.getD x7 (x2+Int.toNat x5) []))))) 0 != 0)) fun a26=>
 br (qAa a26 { data:=#[]})
 (some (.inl (x0,true,x1,x6,x7)))
 (br (x5==x0)
 (br (qAb (ByteArray.size x1+1))
 (ob (qCX (List.headD (List.take 4 (List.getD x7 (x2+Int.toNat x5) [])) 0) (List.headD (List.tail (List.take 4 (List.getD x7 (x2+Int.toNat x5) []))) 0) (List.headD (List.tail (List.tail (List.take 4 (List.getD x7 (x2+Int.toNat x5) [])))) 0) (List.headD (List.tail (List.tail (List.tail (List.take 4 (List.getD x7 (x2+Int.toNat x5) []))))) 0 != 0)) fun a27=>
 br (qAb (ByteArray.size { data:={toList:=List.append (Array.toList (ByteArray.data x1)) (Array.toList (ByteArray.data { data:=#[120]})) }}+ByteArray.size a27))
 (rec x0 ({data:={toList:=List.append (Array.toList (ByteArray.data { data:={toList:=List.append (Array.toList (ByteArray.data x1)) (Array.toList (ByteArray.data { data:=#[120]})) }})) (Array.toList (ByteArray.data a27)) }}) x2 x3 x4 (IntKind.wrap .i64 (x5+1)) x6 x7)
 (none))
 (none))
 (ob (qCX (List.headD (List.take 4 (List.getD x7 (x2+Int.toNat x5) [])) 0) (List.headD (List.tail (List.take 4 (List.getD x7 (x2+Int.toNat x5) []))) 0) (List.headD (List.tail (List.tail (List.take 4 (List.getD x7 (x2+Int.toNat x5) [])))) 0) (List.headD (List.tail (List.tail (List.tail (List.take 4 (List.getD x7 (x2+Int.toNat x5) []))))) 0 != 0)) fun a27=>
 br (qAb (ByteArray.size x1+ByteArray.size a27))
 (rec x0 ({data:={toList:=List.append (Array.toList (ByteArray.data x1)) (Array.toList (ByteArray.data a27)) }}) x2 x3 x4 (IntKind.wrap .i64 (x5+1)) x6 x7)
 (none)))))
 (none))
 (some (.inr (x0,x1,x6,x7)))
def qCq:Nat->Int->ByteArray->Nat->Nat->Int->Int->Nat->List (List Int)->Option ((Int×Bool×ByteArray×Nat×List (List Int))⊕(Int×ByteArray×Nat×List (List Int)))
 | 0,_,_,_,_,_,_,_,_=>none
 | f+1,x0,x1,x2,x3,x4,x5,x6,x7=>qKy (qCq f) x0 x1 x2 x3 x4 x5 x6 x7
def qIy (x0 x1:List Int) (x2:Int) (x3 x4 x5:Nat) (x6:List (List Int)) (x7:Int):Option (Bool):=
 ob (qKz ) fun a8=>
 br (!a8)
 (some (false))
 (ob (qI3 x0 x1 x2) fun (a9_0,a9_1,a9_2,a9_3,a9_4)=>
 br (a9_0 != 0)
 (some (false))
 (br (!(a9_1==x0&&(a9_2==x1&&a9_3==x2)))
 (some (false))
 (ob (qJP x0 x1 x2) fun a14=>
 br (a9_4 != a14)
 (some (false))
 (ob (qI5 ) fun a15=>
 br (!qAa a15 { data:=#[]})
 (some (false))
 (ob (qI1 x0 x1 x2) fun (a16_0,a16_1)=>
 br (a16_0 != 0)
 (some (false))
 (br (a16_1 != 210)
 (some (false))
 (br (decide (Int.ofNat x4>20))
 (some (true))
 (br (decide (x7<0))
 (some (true))
 (br (decide (x7 >= Int.ofNat x4))
 (some (true))
 (ob (qCq qB x7 ({data:=#[]}) x3 x4 (Int.ofNat x4) 0 x5 x6) fun t18_2=>
 sw t18_2 (fun (_,a18_1,_,_,_)=>
 some (a18_1))
 (fun (a18_0,a18_1,_,_)=>
 ob (qHY a18_1) fun (a22_0,a22_1,a22_2,_,_)=>
 br (Int.ofNat a22_0==0)
 (br (a22_1==a18_0)
 (some (a22_2==70))
 (some (false)))
 (some (false)))))))))))))
end Go.Kk.Pl
