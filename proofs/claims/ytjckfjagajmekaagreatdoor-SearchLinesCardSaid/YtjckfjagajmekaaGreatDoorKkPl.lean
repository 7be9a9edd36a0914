/- Printed by a tool of this project (KkGen): the plain functions that the program's code comes to. -/
import Derived.Test.YtjckfjagajmekaaGreatDoorKkE
namespace Go.Kk.Pl
def qGa (x0 x1:Int):Option (Int):=
 br (decide (x0<0))
 (some (-1))
 (br (decide (x0>8))
 (some (-1))
 (br (decide (x1<0))
 (some (-1))
 (br (decide (x1>8))
 (some (-1))
 (some (IntKind.wrap .i64 (IntKind.wrap .i64 (9*x0)+x1))))))
def qAy (x0 x1:Int):Option (Int):=
 br (x0 != 0)
 (br (x0 != 1)
 (some (0))
 (br (decide (x1<1))
 (some (0))
 (br (decide (x1>15))
 (some (0))
 (br (x1==13)
 (some (0))
 (some (conv .i64 .i8 (IntKind.wrap .i64 (IntKind.wrap .i64 (16*x0)+x1))))))))
 (br (decide (x1<1))
 (some (0))
 (br (decide (x1>15))
 (some (0))
 (br (x1==13)
 (some (0))
 (some (conv .i64 .i8 (IntKind.wrap .i64 (IntKind.wrap .i64 (16*x0)+x1)))))))
def qAC (x0:Int):Option (Int):=
 br (decide (x0<=0))
 (br (x0==8)
 (some (8))
 (br (x0==24)
 (some (8))
 (some (0))))
 (br (decide (x0>31))
 (br (x0==8)
 (some (8))
 (br (x0==24)
 (some (8))
 (some (0))))
 (br (qE BinOp.and .i64 x0 15==0)
 (br (x0==8)
 (some (8))
 (br (x0==24)
 (some (8))
 (some (0))))
 (br (qE BinOp.and .i64 x0 15==13)
 (br (x0==8)
 (some (8))
 (br (x0==24)
 (some (8))
 (some (0))))
 (some (qE BinOp.and .i64 x0 15)))))
def qDX (x0:Int):Option (Int):=
 some (qE BinOp.xor .u64 (IntKind.wrap .u64 (qE BinOp.xor .u64 (IntKind.wrap .u64 (qE BinOp.xor .u64 (IntKind.wrap .u64 (x0+11400714819323198485)) (Int.fdiv (IntKind.wrap .u64 (x0+11400714819323198485)) 1073741824)*13787848793156543929)) (Int.fdiv (IntKind.wrap .u64 (qE BinOp.xor .u64 (IntKind.wrap .u64 (x0+11400714819323198485)) (Int.fdiv (IntKind.wrap .u64 (x0+11400714819323198485)) 1073741824)*13787848793156543929)) 134217728)*10723151780598845931)) (Int.fdiv (IntKind.wrap .u64 (qE BinOp.xor .u64 (IntKind.wrap .u64 (qE BinOp.xor .u64 (IntKind.wrap .u64 (x0+11400714819323198485)) (Int.fdiv (IntKind.wrap .u64 (x0+11400714819323198485)) 1073741824)*13787848793156543929)) (Int.fdiv (IntKind.wrap .u64 (qE BinOp.xor .u64 (IntKind.wrap .u64 (x0+11400714819323198485)) (Int.fdiv (IntKind.wrap .u64 (x0+11400714819323198485)) 1073741824)*13787848793156543929)) 134217728)*10723151780598845931)) 2147483648))
def qCA (x0 x1:Int):Option (Int):=
 ob (qAC x1) fun a2=>
 br (a2==0)
 (some (0))
 (br (decide (x0<0))
 (some (0))
 (br (decide (x0 >= 81))
 (some (0))
 (ob (qDX (IntKind.wrap .u64 (IntKind.wrap .u64 (conv .i64 .u64 x0*32)+conv .i8 .u64 x1))) fun a3=>
 some (a3))))
def qCo (x0 x1 x2:Int):Option (Int):=
 br (x0 != 0)
 (br (x0 != 1)
 (some (0))
 (br (decide (x1<1))
 (some (0))
 (br (decide (x1 >= 8))
 (some (0))
 (br (decide (x2<=0))
 (some (0))
 (br (decide (x2>18))
 (some (0))
 (ob (qDX (IntKind.wrap .u64 (IntKind.wrap .u64 (IntKind.wrap .u64 (65536+IntKind.wrap .u64 (conv .i64 .u64 x0*1024))+IntKind.wrap .u64 (conv .i64 .u64 x1*32))+conv .i64 .u64 x2))) fun a3=>
 some (a3)))))))
 (br (decide (x1<1))
 (some (0))
 (br (decide (x1 >= 8))
 (some (0))
 (br (decide (x2<=0))
 (some (0))
 (br (decide (x2>18))
 (some (0))
 (ob (qDX (IntKind.wrap .u64 (IntKind.wrap .u64 (IntKind.wrap .u64 (65536+IntKind.wrap .u64 (conv .i64 .u64 x0*1024))+IntKind.wrap .u64 (conv .i64 .u64 x1*32))+conv .i64 .u64 x2))) fun a3=>
 some (a3))))))
def qCq:Option (Int):=
 ob (qDX 1048576) fun a0=>
 some (a0)
def qDV (rec:Int->List Int->Int->List Int->List Int->Int->Option (Int×List Int×List Int×Int)) (x0:Int) (x1:List Int) (x2:Int) (x3 x4:List Int) (x5:Int):Option (Int×List Int×List Int×Int):=
 br (decide (x2<81))
 (br (inB x2 81)
 (ob (qCA x2 (List.getD x1 (bif true then Int.toNat x2 else Int.toNat x2*1) 0)) fun a9=>
 rec (qE BinOp.xor .u64 x0 a9) x1 (IntKind.wrap .i64 (x2+1)) x3 x4 x5)
 (none))
 (some (x0,x3,x4,x5))
def qCT:Nat->Int->List Int->Int->List Int->List Int->Int->Option (Int×List Int×List Int×Int)
 | 0,_,_,_,_,_,_=>none
 | f+1,x0,x1,x2,x3,x4,x5=>qDV (qCT f) x0 x1 x2 x3 x4 x5
def qDU (rec:Int->Int->List Int->Int->List Int->Int->List Int->List Int->Int->Option (Int×List Int×Int×List Int×List Int×Int)) (x0 x1:Int) (x2:List Int) (x3:Int) (x4:List Int) (x5:Int) (x6 x7:List Int) (x8:Int):Option (Int×List Int×Int×List Int×List Int×Int):=
 br (decide (x5<8))
 (br (inB x5 8)
 (ob (qCo x1 x5 (conv .i8 .i64 (List.getD x4 (bif true then Int.toNat x5 else Int.toNat x5*1) 0))) fun a22=>
 rec (qE BinOp.xor .u64 x0 a22) x1 x2 x3 x4 (IntKind.wrap .i64 (x5+1)) x6 x7 x8)
 (none))
 (some (x0,x2,x3,x6,x7,x8))
def qCp:Nat->Int->Int->List Int->Int->List Int->Int->List Int->List Int->Int->Option (Int×List Int×Int×List Int×List Int×Int)
 | 0,_,_,_,_,_,_,_,_,_=>none
 | f+1,x0,x1,x2,x3,x4,x5,x6,x7,x8=>qDU (qCp f) x0 x1 x2 x3 x4 x5 x6 x7 x8
def qDW (rec:Int->List Int->Int->List Int->List Int->Int->Option (Int×List Int×List Int×Int)) (x0:Int) (x1:List Int) (x2:Int) (x3 x4:List Int) (x5:Int):Option (Int×List Int×List Int×Int):=
 br (decide (x2<2))
 (br (inB x2 2)
 (ob (qCp qC x0 x2 x1 x2 (List.take 8 (List.drop (Nat.add (Nat.mul (Int.toNat x2) 7) (Int.toNat x2)) x1)) 0 x3 x4 x5) fun (a13_0,a13_1,a13_2,a13_3,a13_4,a13_5)=>
 rec a13_0 a13_1 (IntKind.wrap .i64 (a13_2+1)) a13_3 a13_4 a13_5)
 (none))
 (some (x0,x3,x4,x5))
def qBr:Nat->Int->List Int->Int->List Int->List Int->Int->Option (Int×List Int×List Int×Int)
 | 0,_,_,_,_,_,_=>none
 | f+1,x0,x1,x2,x3,x4,x5=>qDW (qBr f) x0 x1 x2 x3 x4 x5
def qDT (x0 x1:List Int) (x2:Int):Option (Int):=
 ob (qCT qC 0 x0 0 x0 x1 x2) fun (a3_0,a3_1,a3_2,a3_3)=>
 ob (qBr qC a3_0 a3_2 0 a3_1 a3_2 a3_3) fun (a7_0,_,_,a7_3)=>
 br (a7_3==1)
 (ob (qCq ) fun a11=>
 some (qE BinOp.xor .u64 a7_0 a11))
 (some (a7_0))
def qEg (x0 x1:List Int) (x2:Int) (x3:Nat) (_x4:Int) (_x5:Nat) (_x6:List (List Int)):Option (Nat):=
 ob (qDT x0 x1 x2) fun a7=>
 br (decide (Int.ofNat (x3 % 18446744073709551616)=0))
 (none)
 (br (inB (Int.tmod a7 (Int.ofNat (x3 % 18446744073709551616))) x3)
 (some (Int.toNat (Int.tmod a7 (Int.ofNat (x3 % 18446744073709551616)))))
 (none))
def qD2 (x0 x1:List Int) (x2 x3:Int) (x4 x5:Int) (x6 x7 x8:Int) (x9:Bool) (x10:Nat) (x11:Int) (x12:Nat) (x13:List (List Int)):Option (Nat×Int×Nat×List (List Int)):=
 ob (qEg x0 x1 x2 x10 x11 x12 x13) fun a14=>
 br (!List.getD (List.getD x13 a14 []) 0 0 != 0)
 (some (x10,IntKind.wrap .i64 (x11+1),x12,List.set x13 a14 (1 :: List.append (List.append [] (List.append x0 (List.append x1 [x2,x3,x4,x5,x6,x7,x8,bi x9]))) (List.drop 106 (List.getD x13 a14 [])))))
 (some (x10,x11,x12,List.set x13 a14 (1 :: List.append (List.append [] (List.append x0 (List.append x1 [x2,x3,x4,x5,x6,x7,x8,bi x9]))) (List.drop 106 (List.getD x13 a14 [])))))
def qD1 (x0 x1:List Int) (x2:Int) (x3:Nat) (x4:Int) (x5:Nat) (x6:List (List Int)):Option (Int×Int×Int×Int×Int×Int×Bool×Bool):=
 ob (qEg x0 x1 x2 x3 x4 x5 x6) fun a7=>
 br (!List.getD (List.getD x6 a7 []) 0 0 != 0)
 (some (0,0,0,0,0,0,false,false))
 (br (!(List.take 81 (List.take 98 (List.drop 1 (List.getD x6 a7 [])))==x0&&(List.take 16 (List.drop 81 (List.take 98 (List.drop 1 (List.getD x6 a7 []))))==x1&&List.headD (List.drop 16 (List.drop 81 (List.take 98 (List.drop 1 (List.getD x6 a7 []))))) 0==x2)))
 (some (0,0,0,0,0,0,false,false))
 (some (List.headD (List.take 7 (List.drop 99 (List.getD x6 a7 []))) 0,List.headD (List.tail (List.take 7 (List.drop 99 (List.getD x6 a7 [])))) 0,List.headD (List.tail (List.tail (List.take 7 (List.drop 99 (List.getD x6 a7 []))))) 0,List.headD (List.tail (List.tail (List.tail (List.take 7 (List.drop 99 (List.getD x6 a7 [])))))) 0,List.headD (List.tail (List.tail (List.tail (List.tail (List.take 7 (List.drop 99 (List.getD x6 a7 []))))))) 0,List.headD (List.tail (List.tail (List.tail (List.tail (List.tail (List.take 7 (List.drop 99 (List.getD x6 a7 [])))))))) 0,List.headD (List.tail (List.tail (List.tail (List.tail (List.tail (List.tail (List.take 7 (List.drop 99 (List.getD x6 a7 []))))))))) 0 != 0,true)))
def qFh (x0:Int):Option (Int×Int):=
 br (decide (x0<0))
 (some (0,0))
 (br (decide (x0 >= 81))
 (some (0,0))
 (br (decide (x0<63))
 (br (decide (x0<0))
 (none)
 (some (IntKind.wrap .u64 (1*2 ^ min (Int.toNat x0) 64),0)))
 (br (decide (IntKind.wrap .i64 (x0 - 63)<0))
 (none)
 (some (0,IntKind.wrap .u64 (1*2 ^ min (Int.toNat (IntKind.wrap .i64 (x0 - 63))) 64))))))
def qFe (x0 x1:Int) (x2 x3:Int):Option (Int×Int):=
 some (qE BinOp.andNot .u64 x0 x2,qE BinOp.andNot .u64 x1 x3)
def qEb (x0 x1 x2:Int):Option (Int×Int):=
 ob (qFh x2) fun (a3_0,a3_1)=>
 ob (qFe x0 x1 a3_0 a3_1) fun (a5_0,a5_1)=>
 some (a5_0,a5_1)
def qAQ (x0:Int):Option (Int):=
 ob (qAC x0) fun a1=>
 br (a1==0)
 (some (-1))
 (br (decide (x0<16))
 (some (0))
 (some (1)))
def qDv (x0 x1:Int) (x2 x3:Int):Option (Int×Int):=
 some (qE BinOp.or .u64 x0 x2,qE BinOp.or .u64 x1 x3)
def qBA (x0 x1 x2:Int):Option (Int×Int):=
 ob (qFh x2) fun (a3_0,a3_1)=>
 ob (qDv x0 x1 a3_0 a3_1) fun (a5_0,a5_1)=>
 some (a5_0,a5_1)
def qF0 (x0 x1:Int) (x2 x3:List Int) (x4:Int) (x5 x6:List (List Int)):Option (List Int×List Int×Int×List (List Int)×List (List Int)):=
 br (decide (x0<0))
 (some (x2,x3,x4,x5,x6))
 (br (decide (x0 >= 81))
 (some (x2,x3,x4,x5,x6))
 (br (inB x0 81)
 (br (List.getD x2 (Int.toNat x0) 0 != 0)
 (br (inB (List.getD x2 (Int.toNat x0) 0) 32)
 (ob (qEb (List.headD (List.take 2 (List.getD x5 (Int.toNat (List.getD x2 (Int.toNat x0) 0)) [])) 0) (List.headD (List.tail (List.take 2 (List.getD x5 (Int.toNat (List.getD x2 (Int.toNat x0) 0)) []))) 0) x0) fun (a7_0,a7_1)=>
 br (inB (List.getD x2 (Int.toNat x0) 0) 32)
 (ob (qAQ (List.getD x2 (Int.toNat x0) 0)) fun a9=>
 ob (qAQ (List.getD x2 (Int.toNat x0) 0)) fun a10=>
 br (inB a10 2)
 (ob (qEb (List.headD (List.take 2 (List.getD x6 (Int.toNat a10) [])) 0) (List.headD (List.tail (List.take 2 (List.getD x6 (Int.toNat a10) []))) 0) x0) fun (a11_0,a11_1)=>
 br (inB a9 2)
 (ob (qAC x1) fun a13=>
 br (a13==0)
 (br (inB x0 81)
 (some (List.set x2 (Int.toNat x0) 0,x3,x4,List.set x5 (Int.toNat (List.getD x2 (Int.toNat x0) 0)) (a7_0 :: a7_1 :: List.drop 2 (List.getD x5 (Int.toNat (List.getD x2 (Int.toNat x0) 0)) [])),List.set x6 (Int.toNat a9) (a11_0 :: a11_1 :: List.drop 2 (List.getD x6 (Int.toNat a9) []))))
 (none))
 (br (inB x0 81)
 (br (x1 != 0)
 (br (inB x1 32)
 (ob (qBA (List.headD (List.take 2 (List.getD (List.set x5 (Int.toNat (List.getD x2 (Int.toNat x0) 0)) (a7_0 :: a7_1 :: List.drop 2 (List.getD x5 (Int.toNat (List.getD x2 (Int.toNat x0) 0)) []))) (Int.toNat x1) [])) 0) (List.headD (List.tail (List.take 2 (List.getD (List.set x5 (Int.toNat (List.getD x2 (Int.toNat x0) 0)) (a7_0 :: a7_1 :: List.drop 2 (List.getD x5 (Int.toNat (List.getD x2 (Int.toNat x0) 0)) []))) (Int.toNat x1) []))) 0) x0) fun (a14_0,a14_1)=>
 br (inB x1 32)
 (ob (qAQ x1) fun a16=>
 ob (qAQ x1) fun a17=>
 br (inB a17 2)
 (ob (qBA (List.headD (List.take 2 (List.getD (List.set x6 (Int.toNat a9) (a11_0 :: a11_1 :: List.drop 2 (List.getD x6 (Int.toNat a9) []))) (Int.toNat a17) [])) 0) (List.headD (List.tail (List.take 2 (List.getD (List.set x6 (Int.toNat a9) (a11_0 :: a11_1 :: List.drop 2 (List.getD x6 (Int.toNat a9) []))) (Int.toNat a17) []))) 0) x0) fun (a18_0,a18_1)=>
 br (inB a16 2)
 (some (List.set x2 (Int.toNat x0) x1,x3,x4,List.set (List.set x5 (Int.toNat (List.getD x2 (Int.toNat x0) 0)) (a7_0 :: a7_1 :: List.drop 2 (List.getD x5 (Int.toNat (List.getD x2 (Int.toNat x0) 0)) []))) (Int.toNat x1) (a14_0 :: a14_1 :: List.drop 2 (List.getD (List.set x5 (Int.toNat (List.getD x2 (Int.toNat x0) 0)) (a7_0 :: a7_1 :: List.drop 2 (List.getD x5 (Int.toNat (List.getD x2 (Int.toNat x0) 0)) []))) (Int.toNat x1) [])),List.set (List.set x6 (Int.toNat a9) (a11_0 :: a11_1 :: List.drop 2 (List.getD x6 (Int.toNat a9) []))) (Int.toNat a16) (a18_0 :: a18_1 :: List.drop 2 (List.getD (List.set x6 (Int.toNat a9) (a11_0 :: a11_1 :: List.drop 2 (List.getD x6 (Int.toNat a9) []))) (Int.toNat a16) []))))
 (none))
 (none))
 (none))
 (none))
 (some (List.set x2 (Int.toNat x0) x1,x3,x4,List.set x5 (Int.toNat (List.getD x2 (Int.toNat x0) 0)) (a7_0 :: a7_1 :: List.drop 2 (List.getD x5 (Int.toNat (List.getD x2 (Int.toNat x0) 0)) [])),List.set x6 (Int.toNat a9) (a11_0 :: a11_1 :: List.drop 2 (List.getD x6 (Int.toNat a9) [])))))
 (none)))
 (none))
 (none))
 (none))
 (none))
 (ob (qAC x1) fun a7=>
 br (a7==0)
 (br (inB x0 81)
 (some (List.set x2 (Int.toNat x0) 0,x3,x4,x5,x6))
 (none))
 (br (inB x0 81)
 (br (x1 != 0)
 (br (inB x1 32)
 (ob (qBA (List.headD (List.take 2 (List.getD x5 (Int.toNat x1) [])) 0) (List.headD (List.tail (List.take 2 (List.getD x5 (Int.toNat x1) []))) 0) x0) fun (a8_0,a8_1)=>
 br (inB x1 32)
 (ob (qAQ x1) fun a10=>
 ob (qAQ x1) fun a11=>
 br (inB a11 2)
 (ob (qBA (List.headD (List.take 2 (List.getD x6 (Int.toNat a11) [])) 0) (List.headD (List.tail (List.take 2 (List.getD x6 (Int.toNat a11) []))) 0) x0) fun (a12_0,a12_1)=>
 br (inB a10 2)
 (some (List.set x2 (Int.toNat x0) x1,x3,x4,List.set x5 (Int.toNat x1) (a8_0 :: a8_1 :: List.drop 2 (List.getD x5 (Int.toNat x1) [])),List.set x6 (Int.toNat a10) (a12_0 :: a12_1 :: List.drop 2 (List.getD x6 (Int.toNat a10) []))))
 (none))
 (none))
 (none))
 (none))
 (some (List.set x2 (Int.toNat x0) x1,x3,x4,x5,x6)))
 (none))))
 (none)))
def qGy (rec:List Int->Int->List Int->List Int->Int->List (List Int)->List (List Int)->Option (List Int×List Int×Int×List (List Int)×List (List Int))) (x0:List Int) (x1:Int) (x2 x3:List Int) (x4:Int) (x5 x6:List (List Int)):Option (List Int×List Int×Int×List (List Int)×List (List Int)):=
 br (decide (x1<81))
 (br (inB x1 81)
 (ob (qF0 x1 (List.getD x0 (bif true then Int.toNat x1 else Int.toNat x1*1) 0) x2 x3 x4 x5 x6) fun (a10_0,a10_1,a10_2,a10_3,a10_4)=>
 rec x0 (IntKind.wrap .i64 (x1+1)) a10_0 a10_1 a10_2 a10_3 a10_4)
 (none))
 (some (x2,x3,x4,x5,x6))
def qEB:Nat->List Int->Int->List Int->List Int->Int->List (List Int)->List (List Int)->Option (List Int×List Int×Int×List (List Int)×List (List Int))
 | 0,_,_,_,_,_,_,_=>none
 | f+1,x0,x1,x2,x3,x4,x5,x6=>qGy (qEB f) x0 x1 x2 x3 x4 x5 x6
def qIl (x0 x1:List Int) (x2:Int):Option (List Int×List Int×Int×List (List Int)×List (List Int)):=
 ob (qEB qC x0 0 ([0,0,0,0,0,0,0,0,0,0,0,0,0,0,0,0,0,0,0,0,0,0,0,0,0,0,0,0,0,0,0,0,0,0,0,0,0,0,0,0,0,0,0,0,0,0,0,0,0,0,0,0,0,0,0,0,0,0,0,0,0,0,0,0,0,0,0,0,0,0,0,0,0,0,0,0,0,0,0,0,0]) x1 x2 ([[0,0],[0,0],[0,0],[0,0],[0,0],[0,0],[0,0],[0,0],[0,0],[0,0],[0,0],[0,0],[0,0],[0,0],[0,0],[0,0],[0,0],[0,0],[0,0],[0,0],[0,0],[0,0],[0,0],[0,0],[0,0],[0,0],[0,0],[0,0],[0,0],[0,0],[0,0],[0,0]]) ([[0,0],[0,0]])) fun (a3_0,a3_1,a3_2,a3_3,a3_4)=>
 some (a3_0,a3_1,a3_2,a3_3,a3_4)
def qIz (x0 x1:List Int) (x2:Int):Option (Int×Nat×List Int×List Int×Int×List (List Int)×List (List Int)×Nat×List (List Int)):=
 ob (qIl x0 x1 x2) fun (a3_0,a3_1,a3_2,a3_3,a3_4)=>
 ob (qDT a3_0 a3_1 a3_2) fun a8=>
 some (a8,0,a3_0,a3_1,a3_2,a3_3,a3_4,0,[])
def qDZ (x0 x1 x2:Int) (x3:Bool):Option (Int):=
 br (decide (x1<0))
 (some (1))
 (br (decide (x1 >= 81))
 (some (1))
 (br (x2 != 0)
 (br (decide (x2<0))
 (some (70))
 (br (decide (x2 >= 8))
 (some (70))
 (br (x0 != 0)
 (some (70))
 (br (x3)
 (some (70))
 (some (0))))))
 (br (decide (x0<0))
 (some (1))
 (br (decide (x0 >= 81))
 (some (1))
 (br (x0==x1)
 (some (70))
 (some (0)))))))
def qCi (x0 x1:Int) (_x2 x3:List Int) (_x4:Int) (_x5 _x6:List (List Int)):Option (Int):=
 br (x0 != 0)
 (br (x0 != 1)
 (some (0))
 (br (decide (x1<1))
 (some (0))
 (br (decide (x1 >= 8))
 (some (0))
 (br (inB x0 2)
 (br (inB x1 8)
 (some (conv .i8 .i64 (List.getD x3 (Int.toNat x0*8+Int.toNat x1) 0)))
 (none))
 (none)))))
 (br (decide (x1<1))
 (some (0))
 (br (decide (x1 >= 8))
 (some (0))
 (br (inB x0 2)
 (br (inB x1 8)
 (some (conv .i8 .i64 (List.getD x3 (Int.toNat x0*8+Int.toNat x1) 0)))
 (none))
 (none))))
def qAf (x0:Int) (x1 _x2:List Int) (_x3:Int) (_x4 _x5:List (List Int)):Option (Int):=
 br (decide (x0<0))
 (some (0))
 (br (decide (x0 >= 81))
 (some (0))
 (br (inB x0 81)
 (some (List.getD x1 (Int.toNat x0) 0))
 (none)))
def qCu (x0:Int):Option (Int):=
 br (x0==1)
 (some (IntKind.wrap .i64 (x0+8)))
 (br (x0==2)
 (some (IntKind.wrap .i64 (x0+8)))
 (br (x0==3)
 (some (IntKind.wrap .i64 (x0+8)))
 (br (x0==4)
 (some (IntKind.wrap .i64 (x0+8)))
 (br (x0==6)
 (some (IntKind.wrap .i64 (x0+8)))
 (br (x0==7)
 (some (IntKind.wrap .i64 (x0+8)))
 (some (0)))))))
def qEE (x0 x1 x2:Int) (x3:Bool) (_x4:Int) (_x5:Nat) (x6 x7:List Int) (x8:Int) (x9 x10:List (List Int)) (_x11:Nat) (_x12:List (List Int)):Option (Bool):=
 ob (qDZ x0 x1 x2 x3) fun a13=>
 br (a13 != 0)
 (some (false))
 (br (x8 != 0)
 (br (x8 != 1)
 (some (false))
 (br (x2 != 0)
 (ob (qCi x8 x2 x6 x7 x8 x9 x10) fun a14=>
 br (decide (a14>0))
 (ob (qAf x1 x6 x7 x8 x9 x10) fun a15=>
 some (a15==0))
 (some (false)))
 (ob (qAf x0 x6 x7 x8 x9 x10) fun a14=>
 ob (qAf x1 x6 x7 x8 x9 x10) fun a15=>
 ob (qAQ a14) fun a16=>
 br (a16==x8)
 (ob (qAQ a15) fun a17=>
 br (a17 != x8)
 (ob (qAC a15) fun a18=>
 br (a18 != 8)
 (br (!x3)
 (some (true))
 (ob (qAC a14) fun a19=>
 ob (qCu a19) fun a20=>
 some (a20 != 0)))
 (some (false)))
 (some (false)))
 (some (false)))))
 (br (x2 != 0)
 (ob (qCi x8 x2 x6 x7 x8 x9 x10) fun a14=>
 br (decide (a14>0))
 (ob (qAf x1 x6 x7 x8 x9 x10) fun a15=>
 some (a15==0))
 (some (false)))
 (ob (qAf x0 x6 x7 x8 x9 x10) fun a14=>
 ob (qAf x1 x6 x7 x8 x9 x10) fun a15=>
 ob (qAQ a14) fun a16=>
 br (a16==x8)
 (ob (qAQ a15) fun a17=>
 br (a17 != x8)
 (ob (qAC a15) fun a18=>
 br (a18 != 8)
 (br (!x3)
 (some (true))
 (ob (qAC a14) fun a19=>
 ob (qCu a19) fun a20=>
 some (a20 != 0)))
 (some (false)))
 (some (false)))
 (some (false)))))
def qDO (x0 x1:Int) (x2 x3:Int) (x4:Nat) (x5 x6:List Int) (x7:Int) (x8 x9:List (List Int)) (x10:Nat) (x11:List (List Int)):Option (Int×Nat×List Int×List Int×Int×List (List Int)×List (List Int)×Nat×List (List Int)):=
 ob (qCi x0 x1 x5 x6 x7 x8 x9) fun a12=>
 ob (qCo x0 x1 a12) fun a13=>
 ob (qCo x0 x1 (IntKind.wrap .i64 (a12+x2))) fun a14=>
 br (inB x0 2)
 (br (inB x1 8)
 (br (inB x0 2)
 (br (inB x1 8)
 (some (qE BinOp.xor .u64 x3 (qE BinOp.xor .u64 a13 a14),x4,x5,List.set x6 (Int.toNat x0*8+Int.toNat x1) (IntKind.wrap .i8 (List.getD x6 (Int.toNat x0*8+Int.toNat x1) 0+conv .i64 .i8 x2)),x7,x8,x9,x10,x11))
 (none))
 (none))
 (none))
 (none)
def qB8 (x0 x1 x2:Int) (x3:Nat) (x4 x5:List Int) (x6:Int) (x7 x8:List (List Int)) (x9:Nat) (x10:List (List Int)):Option (Int×Nat×List Int×List Int×Int×List (List Int)×List (List Int)×Nat×List (List Int)):=
 ob (qAf x0 x4 x5 x6 x7 x8) fun a11=>
 ob (qCA x0 a11) fun a12=>
 ob (qCA x0 x1) fun a13=>
 ob (qF0 x0 x1 x4 x5 x6 x7 x8) fun (a14_0,a14_1,a14_2,a14_3,a14_4)=>
 some (qE BinOp.xor .u64 x2 (qE BinOp.xor .u64 a12 a13),x3,a14_0,a14_1,a14_2,a14_3,a14_4,x9,x10)
def qCk (x0:Int) (x1:Nat) (x2 x3:List Int) (x4:Int) (x5 x6:List (List Int)) (x7:Nat) (x8:List (List Int)):Option (Int×Nat×List Int×List Int×Int×List (List Int)×List (List Int)×Nat×List (List Int)):=
 ob (qCq ) fun a9=>
 some (qE BinOp.xor .u64 x0 a9,x1,x2,x3,IntKind.wrap .i8 (1 - x4),x5,x6,x7,x8)
def qEP (x0:Int):Option (Int):=
 ob (qAy 0 x0) fun a1=>
 br (a1==0)
 (some (0))
 (br (decide (x0>8))
 (some (IntKind.wrap .i64 (x0 - 8)))
 (some (x0)))
def qEw (x0 x1 x2:Int) (x3:Bool) (x4:Int) (x5:Nat) (x6 x7:List Int) (x8:Int) (x9 x10:List (List Int)) (x11:Nat) (x12:List (List Int)):Option ((Bool×Int×Nat×List Int×List Int×Int×List (List Int)×List (List Int)×Nat×List (List Int))⊕(Bool×Int×Nat×List Int×List Int×Int×List (List Int)×List (List Int)×Nat×List (List Int))):=
 ob (qEE x0 x1 x2 x3 x4 x5 x6 x7 x8 x9 x10 x11 x12) fun a13=>
 br (!a13)
 (some (.inl (false,x4,x5,x6,x7,x8,x9,x10,x11,x12)))
 (ob (qAf x1 x6 x7 x8 x9 x10) fun a14=>
 br (x2 != 0)
 (ob (qAy x8 x2) fun a15=>
 ob (qDO x8 x2 (-1) x4 x5 x6 x7 x8 x9 x10 x11 x12) fun (a16_0,a16_1,a16_2,a16_3,a16_4,a16_5,a16_6,a16_7,a16_8)=>
 ob (qB8 x1 a15 a16_0 a16_1 a16_2 a16_3 a16_4 a16_5 a16_6 a16_7 a16_8) fun (a25_0,a25_1,a25_2,a25_3,a25_4,a25_5,a25_6,a25_7,a25_8)=>
 ob (qCk a25_0 a25_1 a25_2 a25_3 a25_4 a25_5 a25_6 a25_7 a25_8) fun (a34_0,a34_1,a34_2,a34_3,a34_4,a34_5,a34_6,_,a34_8)=>
 br (decide ((a34_1+1)*40<=140737488355328))
 (some (.inr (true,a34_0,a34_1+1,a34_2,a34_3,a34_4,a34_5,a34_6,a34_1+1,List.append (List.take a34_1 a34_8) [[x0,x1,x2,bi x3,a14,a15]])))
 (none))
 (ob (qAf x0 x6 x7 x8 x9 x10) fun a15=>
 br (x3)
 (ob (qAC a15) fun a16=>
 ob (qCu a16) fun a17=>
 ob (qAy x8 a17) fun a18=>
 ob (qB8 x0 0 x4 x5 x6 x7 x8 x9 x10 x11 x12) fun (a19_0,a19_1,a19_2,a19_3,a19_4,a19_5,a19_6,a19_7,a19_8)=>
 ob (qB8 x1 a18 a19_0 a19_1 a19_2 a19_3 a19_4 a19_5 a19_6 a19_7 a19_8) fun (a28_0,a28_1,a28_2,a28_3,a28_4,a28_5,a28_6,a28_7,a28_8)=>
 br (a14 != 0)
 (ob (qAC a14) fun a37=>
 ob (qEP a37) fun a38=>
 ob (qDO x8 a38 1 a28_0 a28_1 a28_2 a28_3 a28_4 a28_5 a28_6 a28_7 a28_8) fun (a39_0,a39_1,a39_2,a39_3,a39_4,a39_5,a39_6,a39_7,a39_8)=>
 ob (qCk a39_0 a39_1 a39_2 a39_3 a39_4 a39_5 a39_6 a39_7 a39_8) fun (a48_0,a48_1,a48_2,a48_3,a48_4,a48_5,a48_6,_,a48_8)=>
 br (decide ((a48_1+1)*40<=140737488355328))
 (some (.inr (true,a48_0,a48_1+1,a48_2,a48_3,a48_4,a48_5,a48_6,a48_1+1,List.append (List.take a48_1 a48_8) [[x0,x1,x2,bi x3,a14,a15]])))
 (none))
 (ob (qCk a28_0 a28_1 a28_2 a28_3 a28_4 a28_5 a28_6 a28_7 a28_8) fun (a37_0,a37_1,a37_2,a37_3,a37_4,a37_5,a37_6,_,a37_8)=>
 br (decide ((a37_1+1)*40<=140737488355328))
 (some (.inr (true,a37_0,a37_1+1,a37_2,a37_3,a37_4,a37_5,a37_6,a37_1+1,List.append (List.take a37_1 a37_8) [[x0,x1,x2,bi x3,a14,a15]])))
 (none)))
 (ob (qB8 x0 0 x4 x5 x6 x7 x8 x9 x10 x11 x12) fun (a16_0,a16_1,a16_2,a16_3,a16_4,a16_5,a16_6,a16_7,a16_8)=>
 ob (qB8 x1 a15 a16_0 a16_1 a16_2 a16_3 a16_4 a16_5 a16_6 a16_7 a16_8) fun (a25_0,a25_1,a25_2,a25_3,a25_4,a25_5,a25_6,a25_7,a25_8)=>
 br (a14 != 0)
 (ob (qAC a14) fun a34=>
 ob (qEP a34) fun a35=>
 ob (qDO x8 a35 1 a25_0 a25_1 a25_2 a25_3 a25_4 a25_5 a25_6 a25_7 a25_8) fun (a36_0,a36_1,a36_2,a36_3,a36_4,a36_5,a36_6,a36_7,a36_8)=>
 ob (qCk a36_0 a36_1 a36_2 a36_3 a36_4 a36_5 a36_6 a36_7 a36_8) fun (a45_0,a45_1,a45_2,a45_3,a45_4,a45_5,a45_6,_,a45_8)=>
 br (decide ((a45_1+1)*40<=140737488355328))
 (some (.inr (true,a45_0,a45_1+1,a45_2,a45_3,a45_4,a45_5,a45_6,a45_1+1,List.append (List.take a45_1 a45_8) [[x0,x1,x2,bi x3,a14,a15]])))
 (none))
 (ob (qCk a25_0 a25_1 a25_2 a25_3 a25_4 a25_5 a25_6 a25_7 a25_8) fun (a34_0,a34_1,a34_2,a34_3,a34_4,a34_5,a34_6,_,a34_8)=>
 br (decide ((a34_1+1)*40<=140737488355328))
 (some (.inr (true,a34_0,a34_1+1,a34_2,a34_3,a34_4,a34_5,a34_6,a34_1+1,List.append (List.take a34_1 a34_8) [[x0,x1,x2,bi x3,a14,a15]])))
 (none)))))
def qED (x0:Int) (x1:Nat) (x2 x3:List Int) (x4:Int) (x5 x6:List (List Int)) (x7:Nat) (x8:List (List Int)):Option (Bool×Int×Nat×List Int×List Int×Int×List (List Int)×List (List Int)×Nat×List (List Int)):=
 br (Int.ofNat x1==0)
 (some (false,x0,x1,x2,x3,x4,x5,x6,x7,x8))
 (br (inB (IntKind.wrap .i64 (Int.ofNat x1 - 1)) x1)
 (br (qEJ (IntKind.wrap .i64 (Int.ofNat x1 - 1)) x1)
 (ob (qCk x0 (Int.toNat (IntKind.wrap .i64 (Int.ofNat x1 - 1)) - 0) x2 x3 x4 x5 x6 x7 x8) fun (a9_0,a9_1,a9_2,a9_3,a9_4,a9_5,a9_6,a9_7,a9_8)=>
 br (List.headD (List.tail (List.tail (List.take 6 (List.getD x8 (Int.toNat (IntKind.wrap .i64 (Int.ofNat x1 - 1))) [])))) 0 != 0)
 (ob (qB8 (List.headD (List.tail (List.take 6 (List.getD x8 (Int.toNat (IntKind.wrap .i64 (Int.ofNat x1 - 1))) []))) 0) 0 a9_0 a9_1 a9_2 a9_3 a9_4 a9_5 a9_6 a9_7 a9_8) fun (a18_0,a18_1,a18_2,a18_3,a18_4,a18_5,a18_6,a18_7,a18_8)=>
 ob (qDO a9_4 (List.headD (List.tail (List.tail (List.take 6 (List.getD x8 (Int.toNat (IntKind.wrap .i64 (Int.ofNat x1 - 1))) [])))) 0) 1 a18_0 a18_1 a18_2 a18_3 a18_4 a18_5 a18_6 a18_7 a18_8) fun (a27_0,a27_1,a27_2,a27_3,a27_4,a27_5,a27_6,a27_7,a27_8)=>
 some (true,a27_0,a27_1,a27_2,a27_3,a27_4,a27_5,a27_6,a27_7,a27_8))
 (ob (qB8 (List.headD (List.tail (List.take 6 (List.getD x8 (Int.toNat (IntKind.wrap .i64 (Int.ofNat x1 - 1))) []))) 0) (List.headD (List.tail (List.tail (List.tail (List.tail (List.take 6 (List.getD x8 (Int.toNat (IntKind.wrap .i64 (Int.ofNat x1 - 1))) [])))))) 0) a9_0 a9_1 a9_2 a9_3 a9_4 a9_5 a9_6 a9_7 a9_8) fun (a18_0,a18_1,a18_2,a18_3,a18_4,a18_5,a18_6,a18_7,a18_8)=>
 ob (qB8 (List.headD (List.take 6 (List.getD x8 (Int.toNat (IntKind.wrap .i64 (Int.ofNat x1 - 1))) [])) 0) (List.headD (List.tail (List.tail (List.tail (List.tail (List.tail (List.take 6 (List.getD x8 (Int.toNat (IntKind.wrap .i64 (Int.ofNat x1 - 1))) []))))))) 0) a18_0 a18_1 a18_2 a18_3 a18_4 a18_5 a18_6 a18_7 a18_8) fun (a27_0,a27_1,a27_2,a27_3,a27_4,a27_5,a27_6,a27_7,a27_8)=>
 br (List.headD (List.tail (List.tail (List.tail (List.tail (List.take 6 (List.getD x8 (Int.toNat (IntKind.wrap .i64 (Int.ofNat x1 - 1))) [])))))) 0 != 0)
 (ob (qAC (List.headD (List.tail (List.tail (List.tail (List.tail (List.take 6 (List.getD x8 (Int.toNat (IntKind.wrap .i64 (Int.ofNat x1 - 1))) [])))))) 0)) fun a36=>
 ob (qEP a36) fun a37=>
 ob (qDO a9_4 a37 (-1) a27_0 a27_1 a27_2 a27_3 a27_4 a27_5 a27_6 a27_7 a27_8) fun (a38_0,a38_1,a38_2,a38_3,a38_4,a38_5,a38_6,a38_7,a38_8)=>
 some (true,a38_0,a38_1,a38_2,a38_3,a38_4,a38_5,a38_6,a38_7,a38_8))
 (some (true,a27_0,a27_1,a27_2,a27_3,a27_4,a27_5,a27_6,a27_7,a27_8))))
 (none))
 (none))
def qAS (x0:Int):Option (Int):=
 br (decide (x0<1))
 (some (0))
 (br (decide (x0>31))
 (some (0))
 (br (x0==13)
 (some (0))
 (br (x0==16)
 (some (0))
 (br (x0==29)
 (some (0))
 (some (Int.tmod x0 16))))))
def qDm (rec:Int->Int->Int->Int->List Int->List Int->Int->Option (Int)) (x0 x1:Int) (x2 x3:Int) (x4 x5:List Int) (x6:Int):Option (Int):=
 br (decide (x3<9))
 (br (inB (IntKind.wrap .i64 (IntKind.wrap .i64 (9*x1)+x3)) 81)
 (br (conv .i8 .i64 (List.getD x4 (Int.toNat (IntKind.wrap .i64 (IntKind.wrap .i64 (9*x1)+x3))) 0)==x0)
 (rec x0 x1 (IntKind.wrap .i64 (x2+1)) (IntKind.wrap .i64 (x3+1)) x4 x5 x6)
 (rec x0 x1 x2 (IntKind.wrap .i64 (x3+1)) x4 x5 x6))
 (none))
 (some (x2))
def qCZ:Nat->Int->Int->Int->Int->List Int->List Int->Int->Option (Int)
 | 0,_,_,_,_,_,_,_=>none
 | f+1,x0,x1,x2,x3,x4,x5,x6=>qDm (qCZ f) x0 x1 x2 x3 x4 x5 x6
def qDl (x0 x1:List Int) (x2 x3 x4:Int):Option (Int):=
 ob (qCZ qC x3 x4 0 0 x0 x1 x2) fun a5=>
 some (a5)
def qDn (rec:Int->Int->Int->List Int->List Int->Int->Option (Int)) (x0 x1 x2:Int) (x3 x4:List Int) (x5:Int):Option (Int):=
 br (decide (x2<9))
 (ob (qDl x3 x4 x5 x0 x2) fun a10=>
 rec x0 (IntKind.wrap .i64 (x1+a10)) (IntKind.wrap .i64 (x2+1)) x3 x4 x5)
 (some (x1))
def qCa:Nat->Int->Int->Int->List Int->List Int->Int->Option (Int)
 | 0,_,_,_,_,_,_=>none
 | f+1,x0,x1,x2,x3,x4,x5=>qDn (qCa f) x0 x1 x2 x3 x4 x5
def qCG (x0 x1:List Int) (x2 x3:Int):Option (Int):=
 ob (qCa qC x3 0 0 x0 x1 x2) fun a4=>
 some (a4)
def qHr (x0:Int):Option (Int):=
 br (decide (x0<1))
 (some (0))
 (br (decide (x0>15))
 (some (0))
 (br (x0==13)
 (some (0))
 (br (decide (x0>8))
 (some (IntKind.wrap .i64 (x0 - 8)))
 (some (x0)))))
def qHw (rec:Int->Int->Int->List Int->List Int->Int->Option (Int×Int×List Int×List Int×Int)) (x0 x1 x2:Int) (x3 x4:List Int) (x5:Int):Option (Int×Int×List Int×List Int×Int):=
 br (decide (x2<81))
 (br (inB x2 81)
 (ob (qAS (conv .i8 .i64 (List.getD x3 (Int.toNat x2) 0))) fun a10=>
 ob (qHr a10) fun a11=>
 br (a11==x0)
 (rec x0 (IntKind.wrap .i64 (x1+1)) (IntKind.wrap .i64 (x2+1)) x3 x4 x5)
 (rec x0 x1 (IntKind.wrap .i64 (x2+1)) x3 x4 x5))
 (none))
 (some (x0,x1,x3,x4,x5))
def qFS:Nat->Int->Int->Int->List Int->List Int->Int->Option (Int×Int×List Int×List Int×Int)
 | 0,_,_,_,_,_,_=>none
 | f+1,x0,x1,x2,x3,x4,x5=>qHw (qFS f) x0 x1 x2 x3 x4 x5
def qJZ (x0 x1:List Int) (x2 x3:Int):Option (Int):=
 ob (qFS qC x3 0 0 x0 x1 x2) fun (a4_0,a4_1,_,a4_3,_)=>
 br (inB a4_0 8)
 (br (inB a4_0 8)
 (some (IntKind.wrap .i64 (IntKind.wrap .i64 (a4_1+conv .i8 .i64 (List.getD a4_3 (0+Int.toNat a4_0) 0))+conv .i8 .i64 (List.getD a4_3 (8+Int.toNat a4_0) 0))))
 (none))
 (none)
def qJW (x0:Int):Option (Int):=
 br (decide (x0<1))
 (some (0))
 (br (decide (x0>8))
 (some (0))
 (br (inB x0 9)
 (some (List.getD [0,18,4,4,4,4,2,2,2] (Int.toNat x0) 0))
 (none)))
def qA9 (x0:Int):Option (Int):=
 ob (qAS x0) fun a1=>
 br (a1==0)
 (some (-1))
 (some (IntKind.wrap .i64 (Int.tdiv x0 16)))
def qDC (x0 x1:Int):Option (Int):=
 br (decide (x1<0))
 (some (-1))
 (br (decide (x1>80))
 (some (-1))
 (br (decide (x0<0))
 (some (-1))
 (br (decide (x0>1))
 (some (-1))
 (br (x0==0)
 (some (Int.tmod x1 9))
 (some (IntKind.wrap .i64 (8 - Int.tmod x1 9)))))))
def qDB (x0 x1:Int):Option (Bool):=
 ob (qA9 x0) fun a2=>
 ob (qDC a2 x1) fun a3=>
 ob (qAS x0) fun a4=>
 br (a4==1)
 (br (a3==0)
 (some (true))
 (br (a4==3)
 (br (a3==0)
 (some (true))
 (some (a3==1)))
 (some (false))))
 (br (a4==2)
 (br (a3==0)
 (some (true))
 (br (a4==3)
 (br (a3==0)
 (some (true))
 (some (a3==1)))
 (some (false))))
 (br (a4==3)
 (br (a3==0)
 (some (true))
 (some (a3==1)))
 (some (false))))
def qDj (rec:Int->List Int->List Int->Int->Option ((Int×List Int×List Int×Int)⊕(List Int×List Int×Int))) (x0:Int) (x1 x2:List Int) (x3:Int):Option ((Int×List Int×List Int×Int)⊕(List Int×List Int×Int)):=
 br (decide (x0<81))
 (br (inB x0 81)
 (br (List.getD x1 (Int.toNat x0) 0 != 0)
 (br (inB x0 81)
 (ob (qAS (conv .i8 .i64 (List.getD x1 (Int.toNat x0) 0))) fun a7=>
 br (a7==0)
 (some (.inl (55,x1,x2,x3)))
 (rec (IntKind.wrap .i64 (x0+1)) x1 x2 x3))
 (none))
 (rec (IntKind.wrap .i64 (x0+1)) x1 x2 x3))
 (none))
 (some (.inr (x1,x2,x3)))
def qBx:Nat->Int->List Int->List Int->Int->Option ((Int×List Int×List Int×Int)⊕(List Int×List Int×Int))
 | 0,_,_,_,_=>none
 | f+1,x0,x1,x2,x3=>qDj (qBx f) x0 x1 x2 x3
def qDf (rec:Int->Int->List Int->List Int->Int->Option ((Int×Int×List Int×List Int×Int)⊕(Int×List Int×List Int×Int))) (x0 x1:Int) (x2 x3:List Int) (x4:Int):Option ((Int×Int×List Int×List Int×Int)⊕(Int×List Int×List Int×Int)):=
 br (decide (x1<2))
 (br (inB x1 2)
 (br (inB x0 8)
 (br (decide (List.getD x3 (Int.toNat x1*8+Int.toNat x0) 0<0))
 (some (.inl (55,x0,x2,x3,x4)))
 (br (x0==0)
 (br (List.getD x3 (Int.toNat x1*8+Int.toNat x0) 0 != 0)
 (some (.inl (55,x0,x2,x3,x4)))
 (rec x0 (IntKind.wrap .i64 (x1+1)) x2 x3 x4))
 (rec x0 (IntKind.wrap .i64 (x1+1)) x2 x3 x4)))
 (none))
 (none))
 (some (.inr (x0,x2,x3,x4)))
def qBV:Nat->Int->Int->List Int->List Int->Int->Option ((Int×Int×List Int×List Int×Int)⊕(Int×List Int×List Int×Int))
 | 0,_,_,_,_,_=>none
 | f+1,x0,x1,x2,x3,x4=>qDf (qBV f) x0 x1 x2 x3 x4
def qDk (rec:Int->List Int->List Int->Int->Option ((Int×List Int×List Int×Int)⊕(List Int×List Int×Int))) (x0:Int) (x1 x2:List Int) (x3:Int):Option ((Int×List Int×List Int×Int)⊕(List Int×List Int×Int)):=
 br (decide (x0<8))
 (ob (qBV qC x0 0 x1 x2 x3) fun t10_2=>
 sw t10_2 (fun (a10_0,_,a10_2,a10_3,a10_4)=>
 some (.inl (a10_0,a10_2,a10_3,a10_4)))
 (fun (a10_0,a10_1,a10_2,a10_3)=>
 rec (IntKind.wrap .i64 (a10_0+1)) a10_1 a10_2 a10_3))
 (some (.inr (x1,x2,x3)))
def qBN:Nat->Int->List Int->List Int->Int->Option ((Int×List Int×List Int×Int)⊕(List Int×List Int×Int))
 | 0,_,_,_,_=>none
 | f+1,x0,x1,x2,x3=>qDk (qBN f) x0 x1 x2 x3
def qDg (rec:Int->List Int->List Int->Int->Option ((Int×List Int×List Int×Int)⊕(List Int×List Int×Int))) (x0:Int) (x1 x2:List Int) (x3:Int):Option ((Int×List Int×List Int×Int)⊕(List Int×List Int×Int)):=
 br (decide (x0<8))
 (ob (qJZ x1 x2 x3 x0) fun a15=>
 ob (qJW x0) fun a16=>
 br (decide (a15>a16))
 (some (.inl (51,x1,x2,x3)))
 (rec (IntKind.wrap .i64 (x0+1)) x1 x2 x3))
 (some (.inr (x1,x2,x3)))
def qBK:Nat->Int->List Int->List Int->Int->Option ((Int×List Int×List Int×Int)⊕(List Int×List Int×Int))
 | 0,_,_,_,_=>none
 | f+1,x0,x1,x2,x3=>qDg (qBK f) x0 x1 x2 x3
def qDh (rec:Int->List Int->List Int->Int->Option ((Int×List Int×List Int×Int)⊕(List Int×List Int×Int))) (x0:Int) (x1 x2:List Int) (x3:Int):Option ((Int×List Int×List Int×Int)⊕(List Int×List Int×Int)):=
 br (decide (x0<81))
 (br (inB x0 81)
 (ob (qDB (conv .i8 .i64 (List.getD x1 (Int.toNat x0) 0)) x0) fun a18=>
 br (a18)
 (some (.inl (52,x1,x2,x3)))
 (rec (IntKind.wrap .i64 (x0+1)) x1 x2 x3))
 (none))
 (some (.inr (x1,x2,x3)))
def qBL:Nat->Int->List Int->List Int->Int->Option ((Int×List Int×List Int×Int)⊕(List Int×List Int×Int))
 | 0,_,_,_,_=>none
 | f+1,x0,x1,x2,x3=>qDh (qBL f) x0 x1 x2 x3
def qDi (rec:Int->List Int->List Int->Int->Option ((Int)⊕(Unit))) (x0:Int) (x1 x2:List Int) (x3:Int):Option ((Int)⊕(Unit)):=
 br (decide (x0<9))
 (ob (qDl x1 x2 x3 1 x0) fun a21=>
 br (decide (a21>1))
 (some (.inl (53)))
 (ob (qDl x1 x2 x3 17 x0) fun a22=>
 br (decide (a22>1))
 (some (.inl (53)))
 (rec (IntKind.wrap .i64 (x0+1)) x1 x2 x3)))
 (some (.inr ()))
def qBM:Nat->Int->List Int->List Int->Int->Option ((Int)⊕(Unit))
 | 0,_,_,_,_=>none
 | f+1,x0,x1,x2,x3=>qDi (qBM f) x0 x1 x2 x3
def qFR (x0 x1:List Int) (x2:Int):Option (Int):=
 br (x2 != 0)
 (br (x2 != 1)
 (some (1))
 (ob (qBx qC 0 x0 x1 x2) fun t3_2=>
 sw t3_2 (fun (a3_0,_,_,_)=>
 some (a3_0))
 (fun (a3_0,a3_1,a3_2)=>
 ob (qBN qC 0 a3_0 a3_1 a3_2) fun t6_2=>
 sw t6_2 (fun (a6_0,_,_,_)=>
 some (a6_0))
 (fun (a6_0,a6_1,a6_2)=>
 ob (qCG a6_0 a6_1 a6_2 8) fun a9=>
 br (a9 != 1)
 (some (50))
 (ob (qCG a6_0 a6_1 a6_2 24) fun a10=>
 br (a10 != 1)
 (some (50))
 (ob (qBK qC 1 a6_0 a6_1 a6_2) fun t11_2=>
 sw t11_2 (fun (a11_0,_,_,_)=>
 some (a11_0))
 (fun (a11_0,a11_1,a11_2)=>
 ob (qBL qC 0 a11_0 a11_1 a11_2) fun t14_2=>
 sw t14_2 (fun (a14_0,_,_,_)=>
 some (a14_0))
 (fun (a14_0,a14_1,a14_2)=>
 ob (qBM qC 0 a14_0 a14_1 a14_2) fun t17_2=>
 sw t17_2 (fun a17=>
 some (a17))
 (fun _=>
 some (0))))))))))
 (ob (qBx qC 0 x0 x1 x2) fun t3_2=>
 sw t3_2 (fun (a3_0,_,_,_)=>
 some (a3_0))
 (fun (a3_0,a3_1,a3_2)=>
 ob (qBN qC 0 a3_0 a3_1 a3_2) fun t6_2=>
 sw t6_2 (fun (a6_0,_,_,_)=>
 some (a6_0))
 (fun (a6_0,a6_1,a6_2)=>
 ob (qCG a6_0 a6_1 a6_2 8) fun a9=>
 br (a9 != 1)
 (some (50))
 (ob (qCG a6_0 a6_1 a6_2 24) fun a10=>
 br (a10 != 1)
 (some (50))
 (ob (qBK qC 1 a6_0 a6_1 a6_2) fun t11_2=>
 sw t11_2 (fun (a11_0,_,_,_)=>
 some (a11_0))
 (fun (a11_0,a11_1,a11_2)=>
 ob (qBL qC 0 a11_0 a11_1 a11_2) fun t14_2=>
 sw t14_2 (fun (a14_0,_,_,_)=>
 some (a14_0))
 (fun (a14_0,a14_1,a14_2)=>
 ob (qBM qC 0 a14_0 a14_1 a14_2) fun t17_2=>
 sw t17_2 (fun a17=>
 some (a17))
 (fun _=>
 some (0)))))))))
def qC3 (_x0 _x1:List Int) (_x2:Int) (_x3 x4:List (List Int)):Option (Int×Int):=
 ob (qDv (List.headD (List.take 2 (List.getD x4 0 [])) 0) (List.headD (List.tail (List.take 2 (List.getD x4 0 []))) 0) (List.headD (List.take 2 (List.getD x4 1 [])) 0) (List.headD (List.tail (List.take 2 (List.getD x4 1 []))) 0)) fun (a5_0,a5_1)=>
 some (a5_0,a5_1)
def qFw (x0:Int):Option (Int):=
 some (qE BinOp.and .i64 (conv .u64 .i64 (IntKind.wrap .u64 (IntKind.wrap .u64 (IntKind.wrap .u64 (qE BinOp.and .u64 (IntKind.wrap .u64 (Int.fdiv (IntKind.wrap .u64 (qE BinOp.and .u64 (Int.fdiv (IntKind.wrap .u64 (qE BinOp.and .u64 (Int.fdiv x0 2) 6148914691236517205+qE BinOp.and .u64 x0 6148914691236517205)) 4) 3689348814741910323+qE BinOp.and .u64 (IntKind.wrap .u64 (qE BinOp.and .u64 (Int.fdiv x0 2) 6148914691236517205+qE BinOp.and .u64 x0 6148914691236517205)) 3689348814741910323)) 16+IntKind.wrap .u64 (qE BinOp.and .u64 (Int.fdiv (IntKind.wrap .u64 (qE BinOp.and .u64 (Int.fdiv x0 2) 6148914691236517205+qE BinOp.and .u64 x0 6148914691236517205)) 4) 3689348814741910323+qE BinOp.and .u64 (IntKind.wrap .u64 (qE BinOp.and .u64 (Int.fdiv x0 2) 6148914691236517205+qE BinOp.and .u64 x0 6148914691236517205)) 3689348814741910323))) 1085102592571150095+Int.fdiv (qE BinOp.and .u64 (IntKind.wrap .u64 (Int.fdiv (IntKind.wrap .u64 (qE BinOp.and .u64 (Int.fdiv (IntKind.wrap .u64 (qE BinOp.and .u64 (Int.fdiv x0 2) 6148914691236517205+qE BinOp.and .u64 x0 6148914691236517205)) 4) 3689348814741910323+qE BinOp.and .u64 (IntKind.wrap .u64 (qE BinOp.and .u64 (Int.fdiv x0 2) 6148914691236517205+qE BinOp.and .u64 x0 6148914691236517205)) 3689348814741910323)) 16+IntKind.wrap .u64 (qE BinOp.and .u64 (Int.fdiv (IntKind.wrap .u64 (qE BinOp.and .u64 (Int.fdiv x0 2) 6148914691236517205+qE BinOp.and .u64 x0 6148914691236517205)) 4) 3689348814741910323+qE BinOp.and .u64 (IntKind.wrap .u64 (qE BinOp.and .u64 (Int.fdiv x0 2) 6148914691236517205+qE BinOp.and .u64 x0 6148914691236517205)) 3689348814741910323))) 1085102592571150095) 256)+Int.fdiv (IntKind.wrap .u64 (qE BinOp.and .u64 (IntKind.wrap .u64 (Int.fdiv (IntKind.wrap .u64 (qE BinOp.and .u64 (Int.fdiv (IntKind.wrap .u64 (qE BinOp.and .u64 (Int.fdiv x0 2) 6148914691236517205+qE BinOp.and .u64 x0 6148914691236517205)) 4) 3689348814741910323+qE BinOp.and .u64 (IntKind.wrap .u64 (qE BinOp.and .u64 (Int.fdiv x0 2) 6148914691236517205+qE BinOp.and .u64 x0 6148914691236517205)) 3689348814741910323)) 16+IntKind.wrap .u64 (qE BinOp.and .u64 (Int.fdiv (IntKind.wrap .u64 (qE BinOp.and .u64 (Int.fdiv x0 2) 6148914691236517205+qE BinOp.and .u64 x0 6148914691236517205)) 4) 3689348814741910323+qE BinOp.and .u64 (IntKind.wrap .u64 (qE BinOp.and .u64 (Int.fdiv x0 2) 6148914691236517205+qE BinOp.and .u64 x0 6148914691236517205)) 3689348814741910323))) 1085102592571150095+Int.fdiv (qE BinOp.and .u64 (IntKind.wrap .u64 (Int.fdiv (IntKind.wrap .u64 (qE BinOp.and .u64 (Int.fdiv (IntKind.wrap .u64 (qE BinOp.and .u64 (Int.fdiv x0 2) 6148914691236517205+qE BinOp.and .u64 x0 6148914691236517205)) 4) 3689348814741910323+qE BinOp.and .u64 (IntKind.wrap .u64 (qE BinOp.and .u64 (Int.fdiv x0 2) 6148914691236517205+qE BinOp.and .u64 x0 6148914691236517205)) 3689348814741910323)) 16+IntKind.wrap .u64 (qE BinOp.and .u64 (Int.fdiv (IntKind.wrap .u64 (qE BinOp.and .u64 (Int.fdiv x0 2) 6148914691236517205+qE BinOp.and .u64 x0 6148914691236517205)) 4) 3689348814741910323+qE BinOp.and .u64 (IntKind.wrap .u64 (qE BinOp.and .u64 (Int.fdiv x0 2) 6148914691236517205+qE BinOp.and .u64 x0 6148914691236517205)) 3689348814741910323))) 1085102592571150095) 256)) 65536)+Int.fdiv (IntKind.wrap .u64 (IntKind.wrap .u64 (qE BinOp.and .u64 (IntKind.wrap .u64 (Int.fdiv (IntKind.wrap .u64 (qE BinOp.and .u64 (Int.fdiv (IntKind.wrap .u64 (qE BinOp.and .u64 (Int.fdiv x0 2) 6148914691236517205+qE BinOp.and .u64 x0 6148914691236517205)) 4) 3689348814741910323+qE BinOp.and .u64 (IntKind.wrap .u64 (qE BinOp.and .u64 (Int.fdiv x0 2) 6148914691236517205+qE BinOp.and .u64 x0 6148914691236517205)) 3689348814741910323)) 16+IntKind.wrap .u64 (qE BinOp.and .u64 (Int.fdiv (IntKind.wrap .u64 (qE BinOp.and .u64 (Int.fdiv x0 2) 6148914691236517205+qE BinOp.and .u64 x0 6148914691236517205)) 4) 3689348814741910323+qE BinOp.and .u64 (IntKind.wrap .u64 (qE BinOp.and .u64 (Int.fdiv x0 2) 6148914691236517205+qE BinOp.and .u64 x0 6148914691236517205)) 3689348814741910323))) 1085102592571150095+Int.fdiv (qE BinOp.and .u64 (IntKind.wrap .u64 (Int.fdiv (IntKind.wrap .u64 (qE BinOp.and .u64 (Int.fdiv (IntKind.wrap .u64 (qE BinOp.and .u64 (Int.fdiv x0 2) 6148914691236517205+qE BinOp.and .u64 x0 6148914691236517205)) 4) 3689348814741910323+qE BinOp.and .u64 (IntKind.wrap .u64 (qE BinOp.and .u64 (Int.fdiv x0 2) 6148914691236517205+qE BinOp.and .u64 x0 6148914691236517205)) 3689348814741910323)) 16+IntKind.wrap .u64 (qE BinOp.and .u64 (Int.fdiv (IntKind.wrap .u64 (qE BinOp.and .u64 (Int.fdiv x0 2) 6148914691236517205+qE BinOp.and .u64 x0 6148914691236517205)) 4) 3689348814741910323+qE BinOp.and .u64 (IntKind.wrap .u64 (qE BinOp.and .u64 (Int.fdiv x0 2) 6148914691236517205+qE BinOp.and .u64 x0 6148914691236517205)) 3689348814741910323))) 1085102592571150095) 256)+Int.fdiv (IntKind.wrap .u64 (qE BinOp.and .u64 (IntKind.wrap .u64 (Int.fdiv (IntKind.wrap .u64 (qE BinOp.and .u64 (Int.fdiv (IntKind.wrap .u64 (qE BinOp.and .u64 (Int.fdiv x0 2) 6148914691236517205+qE BinOp.and .u64 x0 6148914691236517205)) 4) 3689348814741910323+qE BinOp.and .u64 (IntKind.wrap .u64 (qE BinOp.and .u64 (Int.fdiv x0 2) 6148914691236517205+qE BinOp.and .u64 x0 6148914691236517205)) 3689348814741910323)) 16+IntKind.wrap .u64 (qE BinOp.and .u64 (Int.fdiv (IntKind.wrap .u64 (qE BinOp.and .u64 (Int.fdiv x0 2) 6148914691236517205+qE BinOp.and .u64 x0 6148914691236517205)) 4) 3689348814741910323+qE BinOp.and .u64 (IntKind.wrap .u64 (qE BinOp.and .u64 (Int.fdiv x0 2) 6148914691236517205+qE BinOp.and .u64 x0 6148914691236517205)) 3689348814741910323))) 1085102592571150095+Int.fdiv (qE BinOp.and .u64 (IntKind.wrap .u64 (Int.fdiv (IntKind.wrap .u64 (qE BinOp.and .u64 (Int.fdiv (IntKind.wrap .u64 (qE BinOp.and .u64 (Int.fdiv x0 2) 6148914691236517205+qE BinOp.and .u64 x0 6148914691236517205)) 4) 3689348814741910323+qE BinOp.and .u64 (IntKind.wrap .u64 (qE BinOp.and .u64 (Int.fdiv x0 2) 6148914691236517205+qE BinOp.and .u64 x0 6148914691236517205)) 3689348814741910323)) 16+IntKind.wrap .u64 (qE BinOp.and .u64 (Int.fdiv (IntKind.wrap .u64 (qE BinOp.and .u64 (Int.fdiv x0 2) 6148914691236517205+qE BinOp.and .u64 x0 6148914691236517205)) 4) 3689348814741910323+qE BinOp.and .u64 (IntKind.wrap .u64 (qE BinOp.and .u64 (Int.fdiv x0 2) 6148914691236517205+qE BinOp.and .u64 x0 6148914691236517205)) 3689348814741910323))) 1085102592571150095) 256)) 65536)) 4294967296))) 127)
def qIF (x0 x1:Int):Option (Int):=
 ob (qFw x0) fun a2=>
 ob (qFw x1) fun a3=>
 some (IntKind.wrap .i64 (a2+a3))
def qDL (x0 x1:Int) (_x2 _x3:List Int) (_x4:Int) (x5 _x6:List (List Int)):Option (Int×Int):=
 ob (qAy x0 x1) fun a7=>
 br (a7==0)
 (some (0,0))
 (br (inB a7 32)
 (some (List.headD (List.take 2 (List.getD x5 (Int.toNat a7) [])) 0,List.headD (List.tail (List.take 2 (List.getD x5 (Int.toNat a7) []))) 0))
 (none))
def qNB (BBB:Bool->Option (Int)->Option (Int)->Option (Int)) (x0:Int):Option (Int):=
 br (x0==0)
 (some (64))
 (BBB (inB (Int.fdiv (IntKind.wrap .u64 (qE BinOp.and .u64 x0 (IntKind.wrap .u64 (0 - x0))*285870213051353865)) 288230376151711744) 64)
 (some (conv .u8 .i64 (List.getD [0,1,56,2,57,49,28,3,61,58,42,50,38,29,17,4,62,47,59,36,45,43,51,22,53,39,33,30,24,18,12,5,63,55,48,27,60,41,37,16,46,35,44,21,52,32,23,11,54,26,40,15,34,20,31,10,25,14,19,9,13,8,7,6] (Int.toNat (Int.fdiv (IntKind.wrap .u64 (qE BinOp.and .u64 x0 (IntKind.wrap .u64 (0 - x0))*285870213051353865)) 288230376151711744)) 0)))
 (none))
def qEs (x0:Int):Option (Int):=qNB br x0
def qGX (x0 x1:Int):Option (Int):=
 br (x0 != 0)
 (ob (qEs x0) fun a2=>
 some (a2))
 (br (x1 != 0)
 (ob (qEs x1) fun a2=>
 some (IntKind.wrap .i64 (63+a2)))
 (some (-1)))
def qFy (x0:Int) (x1 x2:List Int) (x3:Int) (x4 x5:List (List Int)):Option (Int):=
 ob (qDL x0 8 x1 x2 x3 x4 x5) fun (a6_0,a6_1)=>
 ob (qGX a6_0 a6_1) fun a8=>
 some (a8)
def qEY (x0:Int):Option (Int):=
 some (Int.tmod x0 9)
def qFj (x0 x1:Int):Option (Int):=
 br (decide (x1<0))
 (some (-1))
 (br (decide (x1 >= 81))
 (some (-1))
 (br (x0==0)
 (ob (qEY x1) fun a2=>
 some (a2))
 (br (x0==1)
 (ob (qEY x1) fun a2=>
 some (IntKind.wrap .i64 (8 - a2)))
 (some (-1)))))
def qEd (x0 x1:Int):Option (Bool):=
 ob (qAQ x0) fun a2=>
 ob (qFj a2 x1) fun a3=>
 ob (qAC x0) fun a4=>
 br (a4==1)
 (some (a3==0))
 (br (a4==2)
 (some (a3==0))
 (br (a4==3)
 (br (a3==0)
 (some (true))
 (some (a3==1)))
 (some (false))))
def qbX (rec:Int->Int->Int->Int->Int->Int->Option (Int×Int×Int×Int)) (x0 x1:Int) (x2 x3:Int) (x4 x5:Int):Option (Int×Int×Int×Int):=
 br (decide (x1<9))
 (ob (qGa x0 x1) fun a7=>
 ob (qBA x4 x5 a7) fun (a8_0,a8_1)=>
 rec x0 (IntKind.wrap .i64 (x1+1)) x2 x3 a8_0 a8_1)
 (some (x2,x3,x4,x5))
def qMF:Nat->Int->Int->Int->Int->Int->Int->Option (Int×Int×Int×Int)
 | 0,_,_,_,_,_,_=>none
 | f+1,x0,x1,x2,x3,x4,x5=>qbX (qMF f) x0 x1 x2 x3 x4 x5
def qJs (x0:Int):Option (Int×Int):=
 ob (qMF qC x0 0 0 0 0 0) fun (_,_,a1_2,a1_3)=>
 some (a1_2,a1_3)
def qDE (x0 x1:Int) (x2 x3:Int):Option (Int×Int):=
 some (qE BinOp.and .u64 x0 x2,qE BinOp.and .u64 x1 x3)
def qKN (x0 x1:List Int) (x2:Int) (x3 x4:List (List Int)):Option (List Int×List Int×Int×List (List Int)×List (List Int)):=
 some (x0,x1,x2,x3,x4)
def qFz (x0:Int) (_x1 _x2:List Int) (_x3:Int) (_x4 x5:List (List Int)):Option (Int×Int):=
 br (x0 != 0)
 (br (x0 != 1)
 (some (0,0))
 (br (inB x0 2)
 (some (List.headD (List.take 2 (List.getD x5 (Int.toNat x0) [])) 0,List.headD (List.tail (List.take 2 (List.getD x5 (Int.toNat x0) []))) 0))
 (none)))
 (br (inB x0 2)
 (some (List.headD (List.take 2 (List.getD x5 (Int.toNat x0) [])) 0,List.headD (List.tail (List.take 2 (List.getD x5 (Int.toNat x0) []))) 0))
 (none))
def qFc (x0 x1:Int):Option (Bool):=
 some (x0==0&&x1==0)
def qCI (x0 x1 x2:Int):Option (Bool):=
 ob (qFh x2) fun (a3_0,a3_1)=>
 ob (qDE x0 x1 a3_0 a3_1) fun (a5_0,a5_1)=>
 ob (qFc a5_0 a5_1) fun a7=>
 some (!a7)
def qGV:Option (Int×Int):=
 some (9223372036854775807,262143)
def qMJ (rec:Nat->Int->Int->Nat->List Int->Option (Nat×Int×Int×Nat×List Int)) (x0:Nat) (x1 x2:Int) (x3:Nat) (x4:List Int):Option (Nat×Int×Int×Nat×List Int):=
 br (x1 != 0)
 (ob (qEs x1) fun a7=>
 br (decide ((x0+1)*8<=140737488355328))
 (rec (x0+1) (qE BinOp.and .u64 x1 (IntKind.wrap .u64 (x1 - 1))) x2 (x0+1) (List.append (List.take x0 x4) [a7]))
 (none))
 (some (x0,x1,x2,x3,x4))
def qIL:Nat->Nat->Int->Int->Nat->List Int->Option (Nat×Int×Int×Nat×List Int)
 | 0,_,_,_,_,_=>none
 | f+1,x0,x1,x2,x3,x4=>qMJ (qIL f) x0 x1 x2 x3 x4
def qMK (rec:Nat->Int->Int->Nat->List Int->Option (Nat×Nat×List Int)) (x0:Nat) (x1 x2:Int) (x3:Nat) (x4:List Int):Option (Nat×Nat×List Int):=
 br (x2 != 0)
 (ob (qEs x2) fun a12=>
 br (decide ((x0+1)*8<=140737488355328))
 (rec (x0+1) x1 (qE BinOp.and .u64 x2 (IntKind.wrap .u64 (x2 - 1))) (x0+1) (List.append (List.take x0 x4) [IntKind.wrap .i64 (63+a12)]))
 (none))
 (some (x0,x3,x4))
def qIM:Nat->Nat->Int->Int->Nat->List Int->Option (Nat×Nat×List Int)
 | 0,_,_,_,_,_=>none
 | f+1,x0,x1,x2,x3,x4=>qMK (qIM f) x0 x1 x2 x3 x4
def qEZ (x0 x1:Int):Option (Nat×Nat×List Int):=
 ob (qIL qC 0 x0 x1 0 []) fun (a2_0,a2_1,a2_2,a2_3,a2_4)=>
 ob (qIM qC a2_0 a2_1 a2_2 a2_3 a2_4) fun (a7_0,a7_1,a7_2)=>
 some (a7_0,a7_1,a7_2)
def qqR (self:Int->Option (Nat×Nat×List (List Int))) (x0:Int):Option (Nat×Nat×List (List Int)):=
 br (x0==1)
 (some (1,1,[[0,-1]]))
 (br (x0==3)
 (some (2,2,[[-1,-2],[1,-2]]))
 (br (x0==4)
 (some (5,5,[[-1,-1],[0,-1],[1,-1],[-1,1],[1,1]]))
 (br (x0==5)
 (some (6,6,[[-1,-1],[0,-1],[1,-1],[-1,0],[1,0],[0,1]]))
 (br (x0==9)
 (some (6,6,[[-1,-1],[0,-1],[1,-1],[-1,0],[1,0],[0,1]]))
 (br (x0==10)
 (some (6,6,[[-1,-1],[0,-1],[1,-1],[-1,0],[1,0],[0,1]]))
 (br (x0==11)
 (some (6,6,[[-1,-1],[0,-1],[1,-1],[-1,0],[1,0],[0,1]]))
 (br (x0==12)
 (some (6,6,[[-1,-1],[0,-1],[1,-1],[-1,0],[1,0],[0,1]]))
 (br (x0==8)
 (ob (self 5) fun (a1_0,_,a1_2)=>
 br (decide ((a1_0+2)*16<=140737488355328))
 (some (a1_0+2,a1_0+2,List.append (List.take a1_0 a1_2) [[-1,1],[1,1]]))
 (none))
 (br (x0==14)
 (some (4,4,[[0,-1],[-1,0],[1,0],[0,1]]))
 (br (x0==15)
 (some (4,4,[[-1,-1],[1,-1],[-1,1],[1,1]]))
 (some (0,0,[]))))))))))))
def qGf:Nat->Int->Option (Nat×Nat×List (List Int))
 | 0,_=>none
 | f+1,x0=>qqR (qGf f) x0
def qFi (x0 x1 x2:Int):Option (Int×Int):=
 br (x2==1)
 (some (IntKind.wrap .i64 (0 - x0),IntKind.wrap .i64 (0 - x1)))
 (some (x0,x1))
def qFd (x0:Int):Option (Int):=
 some (IntKind.wrap .i64 (Int.tdiv x0 9))
def qGe (x0 x1 x2:Int):Option (Int):=
 br (decide (x2<0))
 (some (-1))
 (br (decide (x2 >= 81))
 (some (-1))
 (br (decide (x0 < -8))
 (some (-1))
 (br (decide (x0>8))
 (some (-1))
 (br (decide (x1 < -8))
 (some (-1))
 (br (decide (x1>8))
 (some (-1))
 (ob (qFd x2) fun a3=>
 ob (qEY x2) fun a4=>
 ob (qGa (IntKind.wrap .i64 (a3+x0)) (IntKind.wrap .i64 (a4+x1))) fun a5=>
 some (a5)))))))
def qIQ (rec:Int->Int->Nat->Int->Int->Int->Int->Int->Int->Nat->List (List Int)->Option (Int×Int×Int×Int)) (x0 x1:Int) (x2:Nat) (x3 x4:Int) (x5 x6:Int) (x7 x8:Int) (x9:Nat) (x10:List (List Int)):Option (Int×Int×Int×Int):=
 br (decide (x4<x3))
 (br (inB x4 x2)
 (ob (qAQ x0) fun a17=>
 ob (qFi (List.headD (List.take 2 (List.getD x10 (Int.toNat x4) [])) 0) (List.headD (List.tail (List.take 2 (List.getD x10 (Int.toNat x4) []))) 0) a17) fun (a18_0,a18_1)=>
 ob (qGe a18_0 a18_1 x1) fun a20=>
 ob (qBA x7 x8 a20) fun (a21_0,a21_1)=>
 rec x0 x1 x2 x3 (IntKind.wrap .i64 (x4+1)) x5 x6 a21_0 a21_1 x9 x10)
 (none))
 (some (x5,x6,x7,x8))
def qFk:Nat->Int->Int->Nat->Int->Int->Int->Int->Int->Int->Nat->List (List Int)->Option (Int×Int×Int×Int)
 | 0,_,_,_,_,_,_,_,_,_,_,_=>none
 | f+1,x0,x1,x2,x3,x4,x5,x6,x7,x8,x9,x10=>qIQ (qFk f) x0 x1 x2 x3 x4 x5 x6 x7 x8 x9 x10
def qJy (x0 x1:Int):Option (Int×Int):=
 ob (qAC x0) fun a2=>
 ob (qGf qC a2) fun (a3_0,a3_1,a3_2)=>
 ob (qFk qC x0 x1 a3_0 (Int.ofNat a3_0) 0 0 0 0 0 a3_1 a3_2) fun (_,_,a6_2,a6_3)=>
 some (a6_2,a6_3)
def qGJ (x0:Int):Option (Nat×Nat×List (List Int)):=
 br (x0==2)
 (some (1,1,[[0,-1]]))
 (br (x0==6)
 (some (4,4,[[-1,-1],[1,-1],[-1,1],[1,1]]))
 (br (x0==14)
 (some (4,4,[[-1,-1],[1,-1],[-1,1],[1,1]]))
 (br (x0==7)
 (some (4,4,[[0,-1],[-1,0],[1,0],[0,1]]))
 (br (x0==15)
 (some (4,4,[[0,-1],[-1,0],[1,0],[0,1]]))
 (some (0,0,[]))))))
def qHq (rec:Int->Int->Int->Int->Int->Int->Int->Int->Int->Option (Int×Int×Int×Int)) (x0 x1:Int) (x2 x3:Int) (x4 x5:Int) (x6 x7 x8:Int):Option (Int×Int×Int×Int):=
 br (decide (x0 >= 0))
 (ob (qBA x7 x8 x0) fun (a15_0,a15_1)=>
 ob (qCI x3 x4 x0) fun a17=>
 br (a17)
 (some (x5,x6,a15_0,a15_1))
 (ob (qGe x1 x2 x0) fun a18=>
 rec a18 x1 x2 x3 x4 x5 x6 a15_0 a15_1))
 (some (x5,x6,x7,x8))
def qGK:Nat->Int->Int->Int->Int->Int->Int->Int->Int->Int->Option (Int×Int×Int×Int)
 | 0,_,_,_,_,_,_,_,_,_=>none
 | f+1,x0,x1,x2,x3,x4,x5,x6,x7,x8=>qHq (qGK f) x0 x1 x2 x3 x4 x5 x6 x7 x8
def qHp (x0 x1:Int) (x2 x3 x4:Int):Option (Int×Int):=
 br (x1==0&&x2==0)
 (some (0,0))
 (ob (qGe x1 x2 x0) fun a5=>
 ob (qGK qC a5 x1 x2 x3 x4 0 0 0 0) fun (_,_,a6_2,a6_3)=>
 some (a6_2,a6_3))
def qHo (rec:Int->Int->Nat->Int->Int->Int->Int->Int->Int->Int->Int->Nat->List (List Int)->Option (Int×Int×Int×Int)) (x0 x1:Int) (x2:Nat) (x3 x4:Int) (x5 x6:Int) (x7 x8:Int) (x9 x10:Int) (x11:Nat) (x12:List (List Int)):Option (Int×Int×Int×Int):=
 br (decide (x4<x3))
 (br (inB x4 x2)
 (ob (qAQ x0) fun a23=>
 ob (qFi (List.headD (List.take 2 (List.getD x12 (Int.toNat x4) [])) 0) (List.headD (List.tail (List.take 2 (List.getD x12 (Int.toNat x4) []))) 0) a23) fun (a24_0,a24_1)=>
 ob (qHp x1 a24_0 a24_1 x5 x6) fun (a26_0,a26_1)=>
 ob (qDv x9 x10 a26_0 a26_1) fun (a28_0,a28_1)=>
 rec x0 x1 x2 x3 (IntKind.wrap .i64 (x4+1)) x5 x6 x7 x8 a28_0 a28_1 x11 x12)
 (none))
 (some (x7,x8,x9,x10))
def qFL:Nat->Int->Int->Nat->Int->Int->Int->Int->Int->Int->Int->Int->Nat->List (List Int)->Option (Int×Int×Int×Int)
 | 0,_,_,_,_,_,_,_,_,_,_,_,_,_=>none
 | f+1,x0,x1,x2,x3,x4,x5,x6,x7,x8,x9,x10,x11,x12=>qHo (qFL f) x0 x1 x2 x3 x4 x5 x6 x7 x8 x9 x10 x11 x12
def qFK (x0 x1:Int) (x2 x3:Int):Option (Int×Int):=
 ob (qJy x0 x1) fun (a4_0,a4_1)=>
 ob (qAC x0) fun a6=>
 ob (qGJ a6) fun (a7_0,a7_1,a7_2)=>
 ob (qFL qC x0 x1 a7_0 (Int.ofNat a7_0) 0 x2 x3 0 0 a4_0 a4_1 a7_1 a7_2) fun (_,_,a10_2,a10_3)=>
 some (a10_2,a10_3)
def qcs (rec:Int->Int->Int->Int->Int->Int->Option (Int×Int×Int×Int)) (x0 x1:Int) (x2 x3:Int) (x4 x5:Int):Option (Int×Int×Int×Int):=
 br (decide (x1<81))
 (ob (qFj x0 x1) fun a7=>
 br (decide (a7 >= 0))
 (br (decide (a7<=2))
 (ob (qBA x4 x5 x1) fun (a8_0,a8_1)=>
 rec x0 (IntKind.wrap .i64 (x1+1)) x2 x3 a8_0 a8_1)
 (rec x0 (IntKind.wrap .i64 (x1+1)) x2 x3 x4 x5))
 (rec x0 (IntKind.wrap .i64 (x1+1)) x2 x3 x4 x5))
 (some (x2,x3,x4,x5))
def qMY:Nat->Int->Int->Int->Int->Int->Int->Option (Int×Int×Int×Int)
 | 0,_,_,_,_,_,_=>none
 | f+1,x0,x1,x2,x3,x4,x5=>qcs (qMY f) x0 x1 x2 x3 x4 x5
def qJz (x0:Int):Option (Int×Int):=
 ob (qMY qC x0 0 0 0 0 0) fun (_,_,a1_2,a1_3)=>
 some (a1_2,a1_3)
def qJA (x0 x1 x2:Int):Option (Bool×Bool):=
 ob (qAC x0) fun a3=>
 ob (qCu a3) fun a4=>
 br (a4==0)
 (some (false,false))
 (ob (qAQ x0) fun a5=>
 ob (qJz a5) fun (a6_0,a6_1)=>
 ob (qCI a6_0 a6_1 x1) fun a8=>
 br (a8)
 (ob (qEd x0 x2) fun a9=>
 some (true,a9))
 (ob (qCI a6_0 a6_1 x2) fun a9=>
 ob (qEd x0 x2) fun a10=>
 some (a9,a10)))
def qHF (rec:Nat->Int->Int->Int->Nat->Int->Int->Nat->Int->Int->List Int->List Int->Int->List (List Int)->List (List Int)->Int->Int->Nat->List (List Int)->Int->Int->Nat->List Int->Nat->List Int->Option (Nat×Int×Nat×Int×Int×List Int×List Int×Int×List (List Int)×List (List Int)×Int×Int×Nat×List (List Int)×Int×Int×Nat×List Int)) (x0:Nat) (x1 x2 x3:Int) (x4:Nat) (x5 x6:Int) (x7:Nat) (x8 x9:Int) (x10 x11:List Int) (x12:Int) (x13 x14:List (List Int)) (x15 x16:Int) (x17:Nat) (x18:List (List Int)) (x19 x20:Int) (x21:Nat) (x22:List Int) (x23:Nat) (x24:List Int):Option (Nat×Int×Nat×Int×Int×List Int×List Int×Int×List (List Int)×List (List Int)×Int×Int×Nat×List (List Int)×Int×Int×Nat×List Int):=
 br (decide (x9<x8))
 (br (inB x9 x7)
 (ob (qJA x3 x2 (List.getD x24 (Int.toNat x9) 0)) fun (a77_0,a77_1)=>
 br (!a77_1)
 (br (decide ((x0+1)*32<=140737488355328))
 (br (a77_0)
 (br (decide ((x0+1+1)*32<=140737488355328))
 (rec (x0+1+1) x1 x2 x3 x4 x5 x6 x7 x8 (IntKind.wrap .i64 (x9+1)) x10 x11 x12 x13 x14 x15 x16 (x0+1+1) (List.append (List.take (x0+1) (List.append (List.take x0 x18) [[x2,List.getD x24 (Int.toNat x9) 0,0,0]])) [[x2,List.getD x24 (Int.toNat x9) 0,0,1]]) x19 x20 x21 x22 x23 x24)
 (none))
 (rec (x0+1) x1 x2 x3 x4 x5 x6 x7 x8 (IntKind.wrap .i64 (x9+1)) x10 x11 x12 x13 x14 x15 x16 (x0+1) (List.append (List.take x0 x18) [[x2,List.getD x24 (Int.toNat x9) 0,0,0]]) x19 x20 x21 x22 x23 x24))
 (none))
 (br (a77_0)
 (br (decide ((x0+1)*32<=140737488355328))
 (rec (x0+1) x1 x2 x3 x4 x5 x6 x7 x8 (IntKind.wrap .i64 (x9+1)) x10 x11 x12 x13 x14 x15 x16 (x0+1) (List.append (List.take x0 x18) [[x2,List.getD x24 (Int.toNat x9) 0,0,1]]) x19 x20 x21 x22 x23 x24)
 (none))
 (rec x0 x1 x2 x3 x4 x5 x6 x7 x8 (IntKind.wrap .i64 (x9+1)) x10 x11 x12 x13 x14 x15 x16 x17 x18 x19 x20 x21 x22 x23 x24)))
 (none))
 (some (x0,x1,x4,x5,x6,x10,x11,x12,x13,x14,x15,x16,x17,x18,x19,x20,x21,x22))
def qE1:Nat->Nat->Int->Int->Int->Nat->Int->Int->Nat->Int->Int->List Int->List Int->Int->List (List Int)->List (List Int)->Int->Int->Nat->List (List Int)->Int->Int->Nat->List Int->Nat->List Int->Option (Nat×Int×Nat×Int×Int×List Int×List Int×Int×List (List Int)×List (List Int)×Int×Int×Nat×List (List Int)×Int×Int×Nat×List Int)
 | 0,_,_,_,_,_,_,_,_,_,_,_,_,_,_,_,_,_,_,_,_,_,_,_,_,_=>none
 | f+1,x0,x1,x2,x3,x4,x5,x6,x7,x8,x9,x10,x11,x12,x13,x14,x15,x16,x17,x18,x19,x20,x21,x22,x23,x24=>qHF (qE1 f) x0 x1 x2 x3 x4 x5 x6 x7 x8 x9 x10 x11 x12 x13 x14 x15 x16 x17 x18 x19 x20 x21 x22 x23 x24
def qHE (rec:Nat->Int->Nat->Int->Int->List Int->List Int->Int->List (List Int)->List (List Int)->Int->Int->Nat->List (List Int)->Int->Int->Nat->List Int->Option (Nat×List Int×List Int×Int×List (List Int)×List (List Int)×Nat×List (List Int))) (x0:Nat) (x1:Int) (x2:Nat) (x3 x4:Int) (x5 x6:List Int) (x7:Int) (x8 x9:List (List Int)) (x10 x11:Int) (x12:Nat) (x13:List (List Int)) (x14 x15:Int) (x16:Nat) (x17:List Int):Option (Nat×List Int×List Int×Int×List (List Int)×List (List Int)×Nat×List (List Int)):=
 br (decide (x4<x3))
 (br (inB x4 x2)
 (ob (qAf (List.getD x17 (Int.toNat x4) 0) x5 x6 x7 x8 x9) fun a36=>
 ob (qC3 x5 x6 x7 x8 x9) fun (a37_0,a37_1)=>
 ob (qFK a36 (List.getD x17 (Int.toNat x4) 0) a37_0 a37_1) fun (a39_0,a39_1)=>
 ob (qFz x1 x5 x6 x7 x8 x9) fun (a41_0,a41_1)=>
 ob (qFe a39_0 a39_1 a41_0 a41_1) fun (a43_0,a43_1)=>
 ob (qFe a43_0 a43_1 x14 x15) fun (a45_0,a45_1)=>
 ob (qDE a45_0 a45_1 x10 x11) fun (a47_0,a47_1)=>
 ob (qEZ a47_0 a47_1) fun (a49_0,a49_1,a49_2)=>
 ob (qE1 qC x0 x1 (List.getD x17 (Int.toNat x4) 0) a36 x2 x3 x4 a49_0 (Int.ofNat a49_0) 0 x5 x6 x7 x8 x9 x10 x11 x12 x13 x14 x15 x16 x17 a49_1 a49_2) fun (a52_0,a52_1,a52_2,a52_3,a52_4,a52_5,a52_6,a52_7,a52_8,a52_9,a52_10,a52_11,a52_12,a52_13,a52_14,a52_15,a52_16,a52_17)=>
 rec a52_0 a52_1 a52_2 a52_3 (IntKind.wrap .i64 (a52_4+1)) a52_5 a52_6 a52_7 a52_8 a52_9 a52_10 a52_11 a52_12 a52_13 a52_14 a52_15 a52_16 a52_17)
 (none))
 (some (x0,x5,x6,x7,x8,x9,x12,x13))
def qE0:Nat->Nat->Int->Nat->Int->Int->List Int->List Int->Int->List (List Int)->List (List Int)->Int->Int->Nat->List (List Int)->Int->Int->Nat->List Int->Option (Nat×List Int×List Int×Int×List (List Int)×List (List Int)×Nat×List (List Int))
 | 0,_,_,_,_,_,_,_,_,_,_,_,_,_,_,_,_,_,_=>none
 | f+1,x0,x1,x2,x3,x4,x5,x6,x7,x8,x9,x10,x11,x12,x13,x14,x15,x16,x17=>qHE (qE0 f) x0 x1 x2 x3 x4 x5 x6 x7 x8 x9 x10 x11 x12 x13 x14 x15 x16 x17
def qHC (x0 x1:Int) (x2 x3:List Int) (x4:Int) (x5 x6:List (List Int)):Option (Nat×Nat×List (List Int)):=
 ob (qDL 0 8 x2 x3 x4 x5 x6) fun (a7_0,a7_1)=>
 ob (qDL 1 8 x2 x3 x4 x5 x6) fun (a9_0,a9_1)=>
 ob (qDv a7_0 a7_1 a9_0 a9_1) fun (a11_0,a11_1)=>
 ob (qFz x4 x2 x3 x4 x5 x6) fun (a13_0,a13_1)=>
 ob (qEZ a13_0 a13_1) fun (a15_0,a15_1,a15_2)=>
 ob (qE0 qC 0 x4 a15_0 (Int.ofNat a15_0) 0 x2 x3 x4 x5 x6 x0 x1 0 [] a11_0 a11_1 a15_1 a15_2) fun (a18_0,_,_,_,_,_,a18_6,a18_7)=>
 some (a18_0,a18_6,a18_7)
def qJt (x0 x1:Int):Option (Int×Int):=
 ob (qGV ) fun (a2_0,a2_1)=>
 ob (qFe a2_0 a2_1 x0 x1) fun (a4_0,a4_1)=>
 some (a4_0,a4_1)
def qHJ (rec:Int->Int->Int->Nat->Int->Int->List Int->List Int->Int->List (List Int)->List (List Int)->Int->Int->Int->Int->Nat->List Int->Option (List Int×List Int×Int×List (List Int)×List (List Int)×Int×Int×Int×Int)) (x0 x1 x2:Int) (x3:Nat) (x4 x5:Int) (x6 x7:List Int) (x8:Int) (x9 x10:List (List Int)) (x11 x12:Int) (x13 x14:Int) (x15:Nat) (x16:List Int):Option (List Int×List Int×Int×List (List Int)×List (List Int)×Int×Int×Int×Int):=
 br (decide (x5<x4))
 (br (inB x5 x3)
 (ob (qEd x2 (List.getD x16 (Int.toNat x5) 0)) fun a32=>
 br (a32)
 (rec x0 x1 x2 x3 x4 (IntKind.wrap .i64 (x5+1)) x6 x7 x8 x9 x10 x11 x12 x13 x14 x15 x16)
 (br (x1==1)
 (ob (qDL x0 1 x6 x7 x8 x9 x10) fun (a33_0,a33_1)=>
 ob (qFd (List.getD x16 (Int.toNat x5) 0)) fun a35=>
 ob (qJs a35) fun (a36_0,a36_1)=>
 ob (qDE a33_0 a33_1 a36_0 a36_1) fun (a38_0,a38_1)=>
 ob (qFc a38_0 a38_1) fun a40=>
 br (!a40)
 (rec x0 x1 x2 x3 x4 (IntKind.wrap .i64 (x5+1)) x6 x7 x8 x9 x10 x11 x12 x13 x14 x15 x16)
 (ob (qBA x13 x14 (List.getD x16 (Int.toNat x5) 0)) fun (a41_0,a41_1)=>
 rec x0 x1 x2 x3 x4 (IntKind.wrap .i64 (x5+1)) x6 x7 x8 x9 x10 x11 x12 a41_0 a41_1 x15 x16))
 (ob (qBA x13 x14 (List.getD x16 (Int.toNat x5) 0)) fun (a33_0,a33_1)=>
 rec x0 x1 x2 x3 x4 (IntKind.wrap .i64 (x5+1)) x6 x7 x8 x9 x10 x11 x12 a33_0 a33_1 x15 x16)))
 (none))
 (some (x6,x7,x8,x9,x10,x11,x12,x13,x14))
def qDQ:Nat->Int->Int->Int->Nat->Int->Int->List Int->List Int->Int->List (List Int)->List (List Int)->Int->Int->Int->Int->Nat->List Int->Option (List Int×List Int×Int×List (List Int)×List (List Int)×Int×Int×Int×Int)
 | 0,_,_,_,_,_,_,_,_,_,_,_,_,_,_,_,_,_=>none
 | f+1,x0,x1,x2,x3,x4,x5,x6,x7,x8,x9,x10,x11,x12,x13,x14,x15,x16=>qHJ (qDQ f) x0 x1 x2 x3 x4 x5 x6 x7 x8 x9 x10 x11 x12 x13 x14 x15 x16
def qI9 (x0 x1:Int) (x2 x3:List Int) (x4:Int) (x5 x6:List (List Int)):Option (Int×Int):=
 ob (qAy x0 x1) fun a7=>
 br (a7==0)
 (some (0,0))
 (br (decide (x1 >= 8))
 (some (0,0))
 (ob (qC3 x2 x3 x4 x5 x6) fun (a8_0,a8_1)=>
 ob (qJt a8_0 a8_1) fun (a10_0,a10_1)=>
 ob (qEZ a10_0 a10_1) fun (a12_0,a12_1,a12_2)=>
 ob (qDQ qC x0 x1 a7 a12_0 (Int.ofNat a12_0) 0 x2 x3 x4 x5 x6 0 0 0 0 a12_1 a12_2) fun (_,_,_,_,_,_,_,a15_7,a15_8)=>
 some (a15_7,a15_8)))
def qHI (rec:Nat->Int->Int->Nat->Int->Int->List Int->List Int->Int->List (List Int)->List (List Int)->Int->Int->Nat->List (List Int)->Nat->List Int->Option (Nat×Int×Int×List Int×List Int×Int×List (List Int)×List (List Int)×Int×Int×Nat×List (List Int))) (x0:Nat) (x1 x2:Int) (x3:Nat) (x4 x5:Int) (x6 x7:List Int) (x8:Int) (x9 x10:List (List Int)) (x11 x12:Int) (x13:Nat) (x14:List (List Int)) (x15:Nat) (x16:List Int):Option (Nat×Int×Int×List Int×List Int×Int×List (List Int)×List (List Int)×Int×Int×Nat×List (List Int)):=
 br (decide (x5<x4))
 (br (inB x5 x3)
 (br (decide ((x0+1)*32<=140737488355328))
 (rec (x0+1) x1 x2 x3 x4 (IntKind.wrap .i64 (x5+1)) x6 x7 x8 x9 x10 x11 x12 (x0+1) (List.append (List.take x0 x14) [[0,List.getD x16 (Int.toNat x5) 0,x2,0]]) x15 x16)
 (none))
 (none))
 (some (x0,x1,x2,x6,x7,x8,x9,x10,x11,x12,x13,x14))
def qE3:Nat->Nat->Int->Int->Nat->Int->Int->List Int->List Int->Int->List (List Int)->List (List Int)->Int->Int->Nat->List (List Int)->Nat->List Int->Option (Nat×Int×Int×List Int×List Int×Int×List (List Int)×List (List Int)×Int×Int×Nat×List (List Int))
 | 0,_,_,_,_,_,_,_,_,_,_,_,_,_,_,_,_,_=>none
 | f+1,x0,x1,x2,x3,x4,x5,x6,x7,x8,x9,x10,x11,x12,x13,x14,x15,x16=>qHI (qE3 f) x0 x1 x2 x3 x4 x5 x6 x7 x8 x9 x10 x11 x12 x13 x14 x15 x16
def qHH (rec:Nat->Int->Int->List Int->List Int->Int->List (List Int)->List (List Int)->Int->Int->Nat->List (List Int)->Option (Nat×List Int×List Int×Int×List (List Int)×List (List Int)×Nat×List (List Int))) (x0:Nat) (x1 x2:Int) (x3 x4:List Int) (x5:Int) (x6 x7:List (List Int)) (x8 x9:Int) (x10:Nat) (x11:List (List Int)):Option (Nat×List Int×List Int×Int×List (List Int)×List (List Int)×Nat×List (List Int)):=
 br (decide (x2<8))
 (ob (qCi x1 x2 x3 x4 x5 x6 x7) fun a19=>
 br (decide (a19<1))
 (rec x0 x1 (IntKind.wrap .i64 (x2+1)) x3 x4 x5 x6 x7 x8 x9 x10 x11)
 (ob (qI9 x1 x2 x3 x4 x5 x6 x7) fun (a20_0,a20_1)=>
 ob (qDE a20_0 a20_1 x8 x9) fun (a22_0,a22_1)=>
 ob (qEZ a22_0 a22_1) fun (a24_0,a24_1,a24_2)=>
 ob (qE3 qC x0 x1 x2 a24_0 (Int.ofNat a24_0) 0 x3 x4 x5 x6 x7 x8 x9 x10 x11 a24_1 a24_2) fun (a27_0,a27_1,a27_2,a27_3,a27_4,a27_5,a27_6,a27_7,a27_8,a27_9,a27_10,a27_11)=>
 rec a27_0 a27_1 (IntKind.wrap .i64 (a27_2+1)) a27_3 a27_4 a27_5 a27_6 a27_7 a27_8 a27_9 a27_10 a27_11))
 (some (x0,x3,x4,x5,x6,x7,x10,x11))
def qE2:Nat->Nat->Int->Int->List Int->List Int->Int->List (List Int)->List (List Int)->Int->Int->Nat->List (List Int)->Option (Nat×List Int×List Int×Int×List (List Int)×List (List Int)×Nat×List (List Int))
 | 0,_,_,_,_,_,_,_,_,_,_,_,_=>none
 | f+1,x0,x1,x2,x3,x4,x5,x6,x7,x8,x9,x10,x11=>qHH (qE2 f) x0 x1 x2 x3 x4 x5 x6 x7 x8 x9 x10 x11
def qI8 (x0 x1:Int) (x2 x3:List Int) (x4:Int) (x5 x6:List (List Int)):Option (Nat×Nat×List (List Int)):=
 ob (qE2 qC 0 x4 1 x2 x3 x4 x5 x6 x0 x1 0 []) fun (a7_0,_,_,_,_,_,a7_6,a7_7)=>
 some (a7_0,a7_6,a7_7)
def qER (x0:Int):Option (Int):=
 br (decide (x0 >= 1))
 (br (decide (x0<=7))
 (br (x0 != 5)
 (some (IntKind.wrap .i64 (x0+8)))
 (some (0)))
 (some (0)))
 (some (0))
def qJf (x0 x1 x2:Int):Option (Bool):=
 ob (qAS x0) fun a3=>
 ob (qER a3) fun a4=>
 br (a4==0)
 (some (false))
 (ob (qA9 x0) fun a5=>
 ob (qDC a5 x1) fun a6=>
 ob (qA9 x0) fun a7=>
 ob (qDC a7 x2) fun a8=>
 br (decide (a6 >= 0))
 (br (decide (a6<=2))
 (some (true))
 (br (decide (a8 >= 0))
 (some (decide (a8<=2)))
 (some (false))))
 (br (decide (a8 >= 0))
 (some (decide (a8<=2)))
 (some (false))))
def qJg (x0 x1:Int):Option (Bool):=
 ob (qAS x0) fun a2=>
 ob (qER a2) fun a3=>
 br (a3 != 0)
 (ob (qDB x0 x1) fun a4=>
 some (a4))
 (some (false))
def qJa (x0 x1 x2:Int) (x3:Bool):Option (Int):=
 br (decide (x1<0))
 (some (1))
 (br (decide (x1>80))
 (some (1))
 (br (x2 != 0)
 (br (decide (x2<1))
 (some (70))
 (br (decide (x2>7))
 (some (70))
 (br (x0 != 0)
 (some (70))
 (br (x3)
 (some (70))
 (some (0))))))
 (br (decide (x0<0))
 (some (1))
 (br (decide (x0>80))
 (some (1))
 (br (x0==x1)
 (some (70))
 (some (0)))))))
def qJc (x0 x1:List Int) (x2 x3:Int) (x4 x5:Int) (x6:Bool):Option (Bool):=
 ob (qJa x3 x4 x5 x6) fun a7=>
 br (a7 != 0)
 (some (false))
 (br (x2 != 0)
 (br (x2 != 1)
 (some (false))
 (br (inB x4 81)
 (br (x5 != 0)
 (br (inB x2 2)
 (br (inB x5 8)
 (br (decide (List.getD x1 (Int.toNat x2*8+Int.toNat x5) 0>0))
 (some (conv .i8 .i64 (List.getD x0 (Int.toNat x4) 0)==0))
 (some (false)))
 (none))
 (none))
 (br (inB x3 81)
 (ob (qA9 (conv .i8 .i64 (List.getD x0 (Int.toNat x3) 0))) fun a8=>
 br (a8 != x2)
 (some (false))
 (ob (qA9 (conv .i8 .i64 (List.getD x0 (Int.toNat x4) 0))) fun a9=>
 br (a9==x2)
 (some (false))
 (ob (qAS (conv .i8 .i64 (List.getD x0 (Int.toNat x4) 0))) fun a10=>
 br (a10==8)
 (some (false))
 (br (!x6)
 (some (true))
 (ob (qAS (conv .i8 .i64 (List.getD x0 (Int.toNat x3) 0))) fun a11=>
 ob (qER a11) fun a12=>
 some (a12 != 0))))))
 (none)))
 (none)))
 (br (inB x4 81)
 (br (x5 != 0)
 (br (inB x2 2)
 (br (inB x5 8)
 (br (decide (List.getD x1 (Int.toNat x2*8+Int.toNat x5) 0>0))
 (some (conv .i8 .i64 (List.getD x0 (Int.toNat x4) 0)==0))
 (some (false)))
 (none))
 (none))
 (br (inB x3 81)
 (ob (qA9 (conv .i8 .i64 (List.getD x0 (Int.toNat x3) 0))) fun a8=>
 br (a8 != x2)
 (some (false))
 (ob (qA9 (conv .i8 .i64 (List.getD x0 (Int.toNat x4) 0))) fun a9=>
 br (a9==x2)
 (some (false))
 (ob (qAS (conv .i8 .i64 (List.getD x0 (Int.toNat x4) 0))) fun a10=>
 br (a10==8)
 (some (false))
 (br (!x6)
 (some (true))
 (ob (qAS (conv .i8 .i64 (List.getD x0 (Int.toNat x3) 0))) fun a11=>
 ob (qER a11) fun a12=>
 some (a12 != 0))))))
 (none)))
 (none)))
def qHx (rec:Int->List Int->List Int->Int->List Bool->List Bool->Option (List Bool×List Bool)) (x0:Int) (x1 x2:List Int) (x3:Int) (x4 x5:List Bool):Option (List Bool×List Bool):=
 br (decide (x0<81))
 (br (inB x0 81)
 (br (inB x0 81)
 (rec (IntKind.wrap .i64 (x0+1)) x1 x2 x3 x4 (List.set x5 (Int.toNat x0) (List.getD x1 (Int.toNat x0) 0 != 0)))
 (none))
 (none))
 (some (x4,x5))
def qET:Nat->Int->List Int->List Int->Int->List Bool->List Bool->Option (List Bool×List Bool)
 | 0,_,_,_,_,_,_=>none
 | f+1,x0,x1,x2,x3,x4,x5=>qHx (qET f) x0 x1 x2 x3 x4 x5
def qES (x0 x1:List Int) (x2:Int):Option (List Bool):=
 ob (qET qC 0 x0 x1 x2 ([false,false,false,false,false,false,false,false,false,false,false,false,false,false,false,false,false,false,false,false,false,false,false,false,false,false,false,false,false,false,false,false,false,false,false,false,false,false,false,false,false,false,false,false,false,false,false,false,false,false,false,false,false,false,false,false,false,false,false,false,false,false,false,false,false,false,false,false,false,false,false,false,false,false,false,false,false,false,false,false,false]) ([false,false,false,false,false,false,false,false,false,false,false,false,false,false,false,false,false,false,false,false,false,false,false,false,false,false,false,false,false,false,false,false,false,false,false,false,false,false,false,false,false,false,false,false,false,false,false,false,false,false,false,false,false,false,false,false,false,false,false,false,false,false,false,false,false,false,false,false,false,false,false,false,false,false,false,false,false,false,false,false,false])) fun (_,a3_1)=>
 some (a3_1)
def qFN (x0:Int):Option (Int):=
 br (decide (x0<0))
 (some (IntKind.wrap .i64 (0 - x0)))
 (some (x0))
def qJX (x0 x1 x2:Int):Option (Bool):=
 br (decide (x1<0))
 (some (false))
 (br (decide (x1>80))
 (some (false))
 (br (decide (x2<0))
 (some (false))
 (br (decide (x2>80))
 (some (false))
 (br (x1==x2)
 (some (false))
 (ob (qFN (IntKind.wrap .i64 (IntKind.wrap .i64 (Int.tdiv x2 9) - IntKind.wrap .i64 (Int.tdiv x1 9)))) fun a3=>
 ob (qA9 x0) fun a4=>
 br (a4==1)
 (br (decide (a3<=1))
 (ob (qFN (IntKind.wrap .i64 (0 - IntKind.wrap .i64 (Int.tmod x1 9 - Int.tmod x2 9)))) fun a5=>
 ob (qAS x0) fun a6=>
 br (a6==1)
 (br (a3==0)
 (some (IntKind.wrap .i64 (0 - IntKind.wrap .i64 (Int.tmod x1 9 - Int.tmod x2 9))==1))
 (some (false)))
 (br (a6==3)
 (br (a3==1)
 (some (IntKind.wrap .i64 (0 - IntKind.wrap .i64 (Int.tmod x1 9 - Int.tmod x2 9))==2))
 (some (false)))
 (br (a6==4)
 (br (decide (a5<=1))
 (br (IntKind.wrap .i64 (0 - IntKind.wrap .i64 (Int.tmod x1 9 - Int.tmod x2 9))==1)
 (some (true))
 (br (a3==1)
 (some (IntKind.wrap .i64 (0 - IntKind.wrap .i64 (Int.tmod x1 9 - Int.tmod x2 9)) == -1))
 (some (false))))
 (some (false)))
 (br (a6==5)
 (br (decide (a5<=1))
 (br (decide (IntKind.wrap .i64 (0 - IntKind.wrap .i64 (Int.tmod x1 9 - Int.tmod x2 9)) >= 0))
 (some (true))
 (some (a3==0)))
 (some (false)))
 (br (a6==9)
 (br (decide (a5<=1))
 (br (decide (IntKind.wrap .i64 (0 - IntKind.wrap .i64 (Int.tmod x1 9 - Int.tmod x2 9)) >= 0))
 (some (true))
 (some (a3==0)))
 (some (false)))
 (br (a6==10)
 (br (decide (a5<=1))
 (br (decide (IntKind.wrap .i64 (0 - IntKind.wrap .i64 (Int.tmod x1 9 - Int.tmod x2 9)) >= 0))
 (some (true))
 (some (a3==0)))
 (some (false)))
 (br (a6==11)
 (br (decide (a5<=1))
 (br (decide (IntKind.wrap .i64 (0 - IntKind.wrap .i64 (Int.tmod x1 9 - Int.tmod x2 9)) >= 0))
 (some (true))
 (some (a3==0)))
 (some (false)))
 (br (a6==12)
 (br (decide (a5<=1))
 (br (decide (IntKind.wrap .i64 (0 - IntKind.wrap .i64 (Int.tmod x1 9 - Int.tmod x2 9)) >= 0))
 (some (true))
 (some (a3==0)))
 (some (false)))
 (br (a6==8)
 (some (decide (a5<=1)))
 (br (a6==14)
 (br (decide (a5<=1))
 (br (a3==0)
 (some (true))
 (some (IntKind.wrap .i64 (0 - IntKind.wrap .i64 (Int.tmod x1 9 - Int.tmod x2 9))==0)))
 (some (false)))
 (br (a6==15)
 (br (decide (a5<=1))
 (br (a3==1)
 (some (IntKind.wrap .i64 (0 - IntKind.wrap .i64 (Int.tmod x1 9 - Int.tmod x2 9)) != 0))
 (some (false)))
 (some (false)))
 (some (false)))))))))))))
 (ob (qAS x0) fun a5=>
 br (a5==1)
 (br (a3==0)
 (some (IntKind.wrap .i64 (0 - IntKind.wrap .i64 (Int.tmod x1 9 - Int.tmod x2 9))==1))
 (some (false)))
 (br (a5==3)
 (br (a3==1)
 (some (IntKind.wrap .i64 (0 - IntKind.wrap .i64 (Int.tmod x1 9 - Int.tmod x2 9))==2))
 (some (false)))
 (br (a5==4)
 (some (false))
 (br (a5==5)
 (some (false))
 (br (a5==9)
 (some (false))
 (br (a5==10)
 (some (false))
 (br (a5==11)
 (some (false))
 (br (a5==12)
 (some (false))
 (br (a5==8)
 (some (false))
 (br (a5==14)
 (some (false))
 (br (a5==15)
 (some (false))
 (some (false))))))))))))))
 (br (decide (a3<=1))
 (ob (qFN (IntKind.wrap .i64 (Int.tmod x1 9 - Int.tmod x2 9))) fun a5=>
 ob (qAS x0) fun a6=>
 br (a6==1)
 (br (a3==0)
 (some (IntKind.wrap .i64 (Int.tmod x1 9 - Int.tmod x2 9)==1))
 (some (false)))
 (br (a6==3)
 (br (a3==1)
 (some (IntKind.wrap .i64 (Int.tmod x1 9 - Int.tmod x2 9)==2))
 (some (false)))
 (br (a6==4)
 (br (decide (a5<=1))
 (br (IntKind.wrap .i64 (Int.tmod x1 9 - Int.tmod x2 9)==1)
 (some (true))
 (br (a3==1)
 (some (IntKind.wrap .i64 (Int.tmod x1 9 - Int.tmod x2 9) == -1))
 (some (false))))
 (some (false)))
 (br (a6==5)
 (br (decide (a5<=1))
 (br (decide (IntKind.wrap .i64 (Int.tmod x1 9 - Int.tmod x2 9) >= 0))
 (some (true))
 (some (a3==0)))
 (some (false)))
 (br (a6==9)
 (br (decide (a5<=1))
 (br (decide (IntKind.wrap .i64 (Int.tmod x1 9 - Int.tmod x2 9) >= 0))
 (some (true))
 (some (a3==0)))
 (some (false)))
 (br (a6==10)
 (br (decide (a5<=1))
 (br (decide (IntKind.wrap .i64 (Int.tmod x1 9 - Int.tmod x2 9) >= 0))
 (some (true))
 (some (a3==0)))
 (some (false)))
 (br (a6==11)
 (br (decide (a5<=1))
 (br (decide (IntKind.wrap .i64 (Int.tmod x1 9 - Int.tmod x2 9) >= 0))
 (some (true))
 (some (a3==0)))
 (some (false)))
 (br (a6==12)
 (br (decide (a5<=1))
 (br (decide (IntKind.wrap .i64 (Int.tmod x1 9 - Int.tmod x2 9) >= 0))
 (some (true))
 (some (a3==0)))
 (some (false)))
 (br (a6==8)
 (some (decide (a5<=1)))
 (br (a6==14)
 (br (decide (a5<=1))
 (br (a3==0)
 (some (true))
 (some (IntKind.wrap .i64 (Int.tmod x1 9 - Int.tmod x2 9)==0)))
 (some (false)))
 (br (a6==15)
 (br (decide (a5<=1))
 (br (a3==1)
 (some (IntKind.wrap .i64 (Int.tmod x1 9 - Int.tmod x2 9) != 0))
 (some (false)))
 (some (false)))
 (some (false)))))))))))))
 (ob (qAS x0) fun a5=>
 br (a5==1)
 (br (a3==0)
 (some (IntKind.wrap .i64 (Int.tmod x1 9 - Int.tmod x2 9)==1))
 (some (false)))
 (br (a5==3)
 (br (a3==1)
 (some (IntKind.wrap .i64 (Int.tmod x1 9 - Int.tmod x2 9)==2))
 (some (false)))
 (br (a5==4)
 (some (false))
 (br (a5==5)
 (some (false))
 (br (a5==9)
 (some (false))
 (br (a5==10)
 (some (false))
 (br (a5==11)
 (some (false))
 (br (a5==12)
 (some (false))
 (br (a5==8)
 (some (false))
 (br (a5==14)
 (some (false))
 (br (a5==15)
 (some (false))
 (some (false)))))))))))))))))))
def qHu (x0 x1:Int):Option (Int):=
 br (decide (x0<0))
 (some (0))
 (br (decide (x0>80))
 (some (0))
 (br (decide (x1<0))
 (some (0))
 (br (decide (x1>80))
 (some (0))
 (br (x0==x1)
 (some (0))
 (br (IntKind.wrap .i64 (IntKind.wrap .i64 (Int.tdiv x1 9) - IntKind.wrap .i64 (Int.tdiv x0 9))==0)
 (some (1))
 (br (IntKind.wrap .i64 (Int.tmod x1 9 - Int.tmod x0 9)==0)
 (some (1))
 (br (IntKind.wrap .i64 (IntKind.wrap .i64 (Int.tdiv x1 9) - IntKind.wrap .i64 (Int.tdiv x0 9))==IntKind.wrap .i64 (Int.tmod x1 9 - Int.tmod x0 9))
 (some (2))
 (br (IntKind.wrap .i64 (IntKind.wrap .i64 (Int.tdiv x1 9) - IntKind.wrap .i64 (Int.tdiv x0 9))==IntKind.wrap .i64 (0 - IntKind.wrap .i64 (Int.tmod x1 9 - Int.tmod x0 9)))
 (some (2))
 (some (0))))))))))
def qHv (x0:Int):Option (Int):=
 br (decide (x0<0))
 (some (-1))
 (br (decide (x0>0))
 (some (1))
 (some (0)))
def qHs (rec:Int->Nat->Int->Int->Nat->List Int->Option (Nat×Nat×List Int)) (x0:Int) (x1:Nat) (x2 x3:Int) (x4:Nat) (x5:List Int):Option (Nat×Nat×List Int):=
 br (x3 != x0)
 (br (decide ((x1+1)*8<=140737488355328))
 (rec x0 (x1+1) x2 (IntKind.wrap .i64 (x3+x2)) (x1+1) (List.append (List.take x1 x5) [x3]))
 (none))
 (some (x1,x4,x5))
def qFO:Nat->Int->Nat->Int->Int->Nat->List Int->Option (Nat×Nat×List Int)
 | 0,_,_,_,_,_,_=>none
 | f+1,x0,x1,x2,x3,x4,x5=>qHs (qFO f) x0 x1 x2 x3 x4 x5
def qJY (x0 x1:Int):Option (Nat×Nat×List Int):=
 ob (qHu x0 x1) fun a2=>
 br (a2==0)
 (some (0,0,[]))
 (ob (qHv (IntKind.wrap .i64 (IntKind.wrap .i64 (Int.tdiv x1 9) - IntKind.wrap .i64 (Int.tdiv x0 9)))) fun a3=>
 ob (qHv (IntKind.wrap .i64 (Int.tmod x1 9 - Int.tmod x0 9))) fun a4=>
 ob (qFO qC x1 0 (IntKind.wrap .i64 (IntKind.wrap .i64 (9*a3)+a4)) (IntKind.wrap .i64 (x0+IntKind.wrap .i64 (IntKind.wrap .i64 (9*a3)+a4))) 0 []) fun (a5_0,a5_1,a5_2)=>
 some (a5_0,a5_1,a5_2))
def qHt (rec:Nat->Int->List Bool->Nat->List Int->Option ((Bool)⊕(Unit))) (x0:Nat) (x1:Int) (x2:List Bool) (x3:Nat) (x4:List Int):Option ((Bool)⊕(Unit)):=
 br (decide (x1<Int.ofNat x0))
 (br (inB x1 x0)
 (br (inB (List.getD x4 (Int.toNat x1) 0) 81)
 (br (List.getD x2 (Int.toNat (List.getD x4 (Int.toNat x1) 0)) false)
 (some (.inl (false)))
 (rec x0 (IntKind.wrap .i64 (x1+1)) x2 x3 x4))
 (none))
 (none))
 (some (.inr ()))
def qFP:Nat->Nat->Int->List Bool->Nat->List Int->Option ((Bool)⊕(Unit))
 | 0,_,_,_,_,_=>none
 | f+1,x0,x1,x2,x3,x4=>qHt (qFP f) x0 x1 x2 x3 x4
def qAt (x0 x1:Int) (x2:List Bool):Option (Bool):=
 ob (qJY x0 x1) fun (a3_0,a3_1,a3_2)=>
 ob (qFP qC a3_0 0 x2 a3_1 a3_2) fun t6_2=>
 sw t6_2 (fun a6=>
 some (a6))
 (fun _=>
 some (true))
def qFQ (x0 x1 x2:Int) (x3:List Bool):Option (Bool):=
 ob (qJX x0 x1 x2) fun a4=>
 br (a4)
 (some (true))
 (ob (qHu x1 x2) fun a5=>
 ob (qA9 x0) fun a6=>
 br (a6==1)
 (ob (qAS x0) fun a7=>
 br (a7==2)
 (br (a5==1)
 (br (IntKind.wrap .i64 (Int.tdiv x1 9)==IntKind.wrap .i64 (Int.tdiv x2 9))
 (br (decide (IntKind.wrap .i64 (0 - IntKind.wrap .i64 (Int.tmod x1 9 - Int.tmod x2 9))>0))
 (ob (qAt x1 x2 x3) fun a8=>
 some (a8))
 (some (false)))
 (some (false)))
 (some (false)))
 (br (a7==6)
 (br (a5==2)
 (ob (qAt x1 x2 x3) fun a8=>
 some (a8))
 (some (false)))
 (br (a7==14)
 (br (a5==2)
 (ob (qAt x1 x2 x3) fun a8=>
 some (a8))
 (some (false)))
 (br (a7==7)
 (br (a5==1)
 (ob (qAt x1 x2 x3) fun a8=>
 some (a8))
 (some (false)))
 (br (a7==15)
 (br (a5==1)
 (ob (qAt x1 x2 x3) fun a8=>
 some (a8))
 (some (false)))
 (some (false)))))))
 (ob (qAS x0) fun a7=>
 br (a7==2)
 (br (a5==1)
 (br (IntKind.wrap .i64 (Int.tdiv x1 9)==IntKind.wrap .i64 (Int.tdiv x2 9))
 (br (decide (IntKind.wrap .i64 (Int.tmod x1 9 - Int.tmod x2 9)>0))
 (ob (qAt x1 x2 x3) fun a8=>
 some (a8))
 (some (false)))
 (some (false)))
 (some (false)))
 (br (a7==6)
 (br (a5==2)
 (ob (qAt x1 x2 x3) fun a8=>
 some (a8))
 (some (false)))
 (br (a7==14)
 (br (a5==2)
 (ob (qAt x1 x2 x3) fun a8=>
 some (a8))
 (some (false)))
 (br (a7==7)
 (br (a5==1)
 (ob (qAt x1 x2 x3) fun a8=>
 some (a8))
 (some (false)))
 (br (a7==15)
 (br (a5==1)
 (ob (qAt x1 x2 x3) fun a8=>
 some (a8))
 (some (false)))
 (some (false))))))))
def qEV (x0 x1:List Int) (x2 x3:Int) (x4 x5:Int) (x6:Bool):Option (Bool):=
 ob (qJc x0 x1 x2 x3 x4 x5 x6) fun a7=>
 br (!a7)
 (some (false))
 (br (x5 != 0)
 (ob (qDB (IntKind.wrap .i64 (IntKind.wrap .i64 (16*x2)+x5)) x4) fun a8=>
 br (!a8)
 (br (x5 != 1)
 (some (true))
 (ob (qDl x0 x1 x2 (IntKind.wrap .i64 (IntKind.wrap .i64 (16*x2)+x5)) (IntKind.wrap .i64 (Int.tdiv x4 9))) fun a9=>
 some (a9==0)))
 (some (false)))
 (br (inB x3 81)
 (ob (qES x0 x1 x2) fun a8=>
 ob (qFQ (conv .i8 .i64 (List.getD x0 (Int.toNat x3) 0)) x3 x4 a8) fun a9=>
 br (!a9)
 (some (false))
 (br (x6)
 (ob (qJf (conv .i8 .i64 (List.getD x0 (Int.toNat x3) 0)) x3 x4) fun a10=>
 some (a10))
 (ob (qJg (conv .i8 .i64 (List.getD x0 (Int.toNat x3) 0)) x4) fun a10=>
 some (!a10))))
 (none)))
def qH1 (rec:Nat->Int->Int->List Int->List Int->Int->Nat->List (List Int)->List Bool->Option (Nat×Int×List Int×List Int×Int×Nat×List (List Int)×List Bool)) (x0:Nat) (x1 x2:Int) (x3 x4:List Int) (x5:Int) (x6:Nat) (x7:List (List Int)) (x8:List Bool):Option (Nat×Int×List Int×List Int×Int×Nat×List (List Int)×List Bool):=
 br (decide (x2<81))
 (br (inB x1 81)
 (ob (qFQ (conv .i8 .i64 (List.getD x3 (Int.toNat x1) 0)) x1 x2 x8) fun a22=>
 br (!a22)
 (rec x0 x1 (IntKind.wrap .i64 (x2+1)) x3 x4 x5 x6 x7 x8)
 (ob (qEV x3 x4 x5 x1 x2 0 false) fun a23=>
 br (a23)
 (br (decide ((x0+1)*32<=140737488355328))
 (ob (qEV x3 x4 x5 x1 x2 0 true) fun a24=>
 br (a24)
 (br (decide ((x0+1+1)*32<=140737488355328))
 (rec (x0+1+1) x1 (IntKind.wrap .i64 (x2+1)) x3 x4 x5 (x0+1+1) (List.append (List.take (x0+1) (List.append (List.take x0 x7) [[x1,x2,0,0]])) [[x1,x2,0,1]]) x8)
 (none))
 (rec (x0+1) x1 (IntKind.wrap .i64 (x2+1)) x3 x4 x5 (x0+1) (List.append (List.take x0 x7) [[x1,x2,0,0]]) x8))
 (none))
 (ob (qEV x3 x4 x5 x1 x2 0 true) fun a24=>
 br (a24)
 (br (decide ((x0+1)*32<=140737488355328))
 (rec (x0+1) x1 (IntKind.wrap .i64 (x2+1)) x3 x4 x5 (x0+1) (List.append (List.take x0 x7) [[x1,x2,0,1]]) x8)
 (none))
 (rec x0 x1 (IntKind.wrap .i64 (x2+1)) x3 x4 x5 x6 x7 x8))))
 (none))
 (some (x0,x1,x3,x4,x5,x6,x7,x8))
def qFV:Nat->Nat->Int->Int->List Int->List Int->Int->Nat->List (List Int)->List Bool->Option (Nat×Int×List Int×List Int×Int×Nat×List (List Int)×List Bool)
 | 0,_,_,_,_,_,_,_,_,_=>none
 | f+1,x0,x1,x2,x3,x4,x5,x6,x7,x8=>qH1 (qFV f) x0 x1 x2 x3 x4 x5 x6 x7 x8
def qH4 (rec:Nat->Int->List Int->List Int->Int->Nat->List (List Int)->List Bool->Option (Nat×List Int×List Int×Int×Nat×List (List Int))) (x0:Nat) (x1:Int) (x2 x3:List Int) (x4:Int) (x5:Nat) (x6:List (List Int)) (x7:List Bool):Option (Nat×List Int×List Int×Int×Nat×List (List Int)):=
 br (decide (x1<81))
 (br (inB x1 81)
 (ob (qA9 (conv .i8 .i64 (List.getD x2 (Int.toNat x1) 0))) fun a12=>
 br (a12 != x4)
 (rec x0 (IntKind.wrap .i64 (x1+1)) x2 x3 x4 x5 x6 x7)
 (ob (qFV qC x0 x1 0 x2 x3 x4 x5 x6 x7) fun (a13_0,a13_1,a13_2,a13_3,a13_4,a13_5,a13_6,a13_7)=>
 rec a13_0 (IntKind.wrap .i64 (a13_1+1)) a13_2 a13_3 a13_4 a13_5 a13_6 a13_7))
 (none))
 (some (x0,x2,x3,x4,x5,x6))
def qDq:Nat->Nat->Int->List Int->List Int->Int->Nat->List (List Int)->List Bool->Option (Nat×List Int×List Int×Int×Nat×List (List Int))
 | 0,_,_,_,_,_,_,_,_=>none
 | f+1,x0,x1,x2,x3,x4,x5,x6,x7=>qH4 (qDq f) x0 x1 x2 x3 x4 x5 x6 x7
def qH3 (rec:Nat->Int->Int->List Int->List Int->Int->Nat->List (List Int)->Option (Nat×Int×List Int×List Int×Int×Nat×List (List Int))) (x0:Nat) (x1 x2:Int) (x3 x4:List Int) (x5:Int) (x6:Nat) (x7:List (List Int)):Option (Nat×Int×List Int×List Int×Int×Nat×List (List Int)):=
 br (decide (x2<81))
 (br (inB x5 2)
 (br (inB x1 8)
 (br (decide (List.getD x4 (Int.toNat x5*8+Int.toNat x1) 0>0))
 (ob (qEV x3 x4 x5 0 x2 x1 false) fun a25=>
 br (a25)
 (br (decide ((x0+1)*32<=140737488355328))
 (rec (x0+1) x1 (IntKind.wrap .i64 (x2+1)) x3 x4 x5 (x0+1) (List.append (List.take x0 x7) [[0,x2,x1,0]]))
 (none))
 (rec x0 x1 (IntKind.wrap .i64 (x2+1)) x3 x4 x5 x6 x7))
 (some (x0,x1,x3,x4,x5,x6,x7)))
 (none))
 (none))
 (some (x0,x1,x3,x4,x5,x6,x7))
def qFW:Nat->Nat->Int->Int->List Int->List Int->Int->Nat->List (List Int)->Option (Nat×Int×List Int×List Int×Int×Nat×List (List Int))
 | 0,_,_,_,_,_,_,_,_=>none
 | f+1,x0,x1,x2,x3,x4,x5,x6,x7=>qH3 (qFW f) x0 x1 x2 x3 x4 x5 x6 x7
def qH2 (rec:Nat->Int->List Int->List Int->Int->Nat->List (List Int)->Option (Nat×Nat×List (List Int))) (x0:Nat) (x1:Int) (x2 x3:List Int) (x4:Int) (x5:Nat) (x6:List (List Int)):Option (Nat×Nat×List (List Int)):=
 br (decide (x1<=7))
 (ob (qFW qC x0 x1 0 x2 x3 x4 x5 x6) fun (a17_0,a17_1,a17_2,a17_3,a17_4,a17_5,a17_6)=>
 rec a17_0 (IntKind.wrap .i64 (a17_1+1)) a17_2 a17_3 a17_4 a17_5 a17_6)
 (some (x0,x5,x6))
def qDp:Nat->Nat->Int->List Int->List Int->Int->Nat->List (List Int)->Option (Nat×Nat×List (List Int))
 | 0,_,_,_,_,_,_,_=>none
 | f+1,x0,x1,x2,x3,x4,x5,x6=>qH2 (qDp f) x0 x1 x2 x3 x4 x5 x6
def qJd (x0 x1:List Int) (x2:Int):Option (Nat×Nat×List (List Int)):=
 br (x2 != 0)
 (br (x2 != 1)
 (some (0,0,[]))
 (ob (qES x0 x1 x2) fun a3=>
 ob (qDq qC 0 0 x0 x1 x2 0 [] a3) fun (a4_0,a4_1,a4_2,a4_3,a4_4,a4_5)=>
 ob (qDp qC a4_0 1 a4_1 a4_2 a4_3 a4_4 a4_5) fun (a10_0,a10_1,a10_2)=>
 some (a10_0,a10_1,a10_2)))
 (ob (qES x0 x1 x2) fun a3=>
 ob (qDq qC 0 0 x0 x1 x2 0 [] a3) fun (a4_0,a4_1,a4_2,a4_3,a4_4,a4_5)=>
 ob (qDp qC a4_0 1 a4_1 a4_2 a4_3 a4_4 a4_5) fun (a10_0,a10_1,a10_2)=>
 some (a10_0,a10_1,a10_2))
def qGs (rec:Int->Int->Int->List Int->List Int->Int->List (List Int)->List (List Int)->Int->Int->Int->Int->Int->Int->Option (List Int×List Int×Int×List (List Int)×List (List Int)×Int×Int×Int×Int)) (x0 x1 x2:Int) (x3 x4:List Int) (x5:Int) (x6 x7:List (List Int)) (x8 x9:Int) (x10 x11:Int) (x12 x13:Int):Option (List Int×List Int×Int×List (List Int)×List (List Int)×Int×Int×Int×Int):=
 br (decide (x2<=15))
 (ob (qAy (IntKind.wrap .i64 (1 - x1)) x2) fun a23=>
 br (a23==0)
 (rec x0 x1 (IntKind.wrap .i64 (x2+1)) x3 x4 x5 x6 x7 x8 x9 x10 x11 x12 x13)
 (ob (qFK a23 x0 x8 x9) fun (a24_0,a24_1)=>
 ob (qDL x1 x2 x3 x4 x5 x6 x7) fun (a26_0,a26_1)=>
 ob (qDE a24_0 a24_1 a26_0 a26_1) fun (a28_0,a28_1)=>
 ob (qDv x12 x13 a28_0 a28_1) fun (a30_0,a30_1)=>
 rec x0 x1 (IntKind.wrap .i64 (x2+1)) x3 x4 x5 x6 x7 x8 x9 x10 x11 a30_0 a30_1))
 (some (x3,x4,x5,x6,x7,x10,x11,x12,x13))
def qD8:Nat->Int->Int->Int->List Int->List Int->Int->List (List Int)->List (List Int)->Int->Int->Int->Int->Int->Int->Option (List Int×List Int×Int×List (List Int)×List (List Int)×Int×Int×Int×Int)
 | 0,_,_,_,_,_,_,_,_,_,_,_,_,_,_=>none
 | f+1,x0,x1,x2,x3,x4,x5,x6,x7,x8,x9,x10,x11,x12,x13=>qGs (qD8 f) x0 x1 x2 x3 x4 x5 x6 x7 x8 x9 x10 x11 x12 x13
def qGr (x0 x1:Int) (x2 x3:Int) (x4 x5:List Int) (x6:Int) (x7 x8:List (List Int)):Option (Int×Int):=
 br (decide (x0<0))
 (some (0,0))
 (br (decide (x0 >= 81))
 (some (0,0))
 (br (x1 != 0)
 (br (x1 != 1)
 (some (0,0))
 (ob (qD8 qC x0 x1 1 x4 x5 x6 x7 x8 x2 x3 0 0 0 0) fun (_,_,_,_,_,_,_,a9_7,a9_8)=>
 some (a9_7,a9_8)))
 (ob (qD8 qC x0 x1 1 x4 x5 x6 x7 x8 x2 x3 0 0 0 0) fun (_,_,_,_,_,_,_,a9_7,a9_8)=>
 some (a9_7,a9_8))))
def qGq (x0:Int) (x1 x2:List Int) (x3:Int) (x4 x5:List (List Int)):Option (Int×Int):=
 ob (qFy x0 x1 x2 x3 x4 x5) fun a6=>
 ob (qC3 x1 x2 x3 x4 x5) fun (a7_0,a7_1)=>
 ob (qGr a6 (IntKind.wrap .i64 (1 - x0)) a7_0 a7_1 x1 x2 x3 x4 x5) fun (a9_0,a9_1)=>
 some (a9_0,a9_1)
def qII (rec:Nat->Int->Int->Nat->List Int->Int->Int->Int->Int->Option (Nat×List Int×Int×Int×Int×Int)) (x0:Nat) (x1 x2:Int) (x3:Nat) (x4:List Int) (x5 x6:Int) (x7 x8:Int):Option (Nat×List Int×Int×Int×Int×Int):=
 br (decide (x2<x1))
 (br (inB x2 x0)
 (ob (qBA x7 x8 (List.getD x4 (Int.toNat x2) 0)) fun (a12_0,a12_1)=>
 rec x0 x1 (IntKind.wrap .i64 (x2+1)) x3 x4 x5 x6 a12_0 a12_1)
 (none))
 (some (x3,x4,x5,x6,x7,x8))
def qFf:Nat->Nat->Int->Int->Nat->List Int->Int->Int->Int->Int->Option (Nat×List Int×Int×Int×Int×Int)
 | 0,_,_,_,_,_,_,_,_,_=>none
 | f+1,x0,x1,x2,x3,x4,x5,x6,x7,x8=>qII (qFf f) x0 x1 x2 x3 x4 x5 x6 x7 x8
def qIH (x0 x1:Nat) (x2:List Int):Option (Int×Int):=
 ob (qFf qC x0 (Int.ofNat x0) 0 x1 x2 0 0 0 0) fun (_,_,_,_,a3_4,a3_5)=>
 some (a3_4,a3_5)
def qH0 (rec:Int->Int->List Int->List Int->Int->Option ((Int)⊕(Unit))) (x0 x1:Int) (x2 x3:List Int) (x4:Int):Option ((Int)⊕(Unit)):=
 br (decide (x1<81))
 (br (inB x1 81)
 (br (conv .i8 .i64 (List.getD x2 (Int.toNat x1) 0)==IntKind.wrap .i64 (IntKind.wrap .i64 (16*x0)+8))
 (some (.inl (x1)))
 (rec x0 (IntKind.wrap .i64 (x1+1)) x2 x3 x4))
 (none))
 (some (.inr ()))
def qFU:Nat->Int->Int->List Int->List Int->Int->Option ((Int)⊕(Unit))
 | 0,_,_,_,_,_=>none
 | f+1,x0,x1,x2,x3,x4=>qH0 (qFU f) x0 x1 x2 x3 x4
def qJb (x0 x1:List Int) (x2 x3:Int):Option (Int):=
 ob (qFU qC x3 0 x0 x1 x2) fun t4_2=>
 sw t4_2 (fun a4=>
 some (a4))
 (fun _=>
 some (-1))
def qHz (rec:Int->Int->Int->List Int->List Int->Int->List Bool->Option ((Bool)⊕(Unit))) (x0 x1 x2:Int) (x3 x4:List Int) (x5:Int) (x6:List Bool):Option ((Bool)⊕(Unit)):=
 br (decide (x2<81))
 (br (inB x2 81)
 (ob (qA9 (conv .i8 .i64 (List.getD x3 (Int.toNat x2) 0))) fun a13=>
 br (a13==IntKind.wrap .i64 (1 - x0))
 (br (inB x2 81)
 (ob (qFQ (conv .i8 .i64 (List.getD x3 (Int.toNat x2) 0)) x2 x1 x6) fun a14=>
 br (a14)
 (some (.inl (true)))
 (rec x0 x1 (IntKind.wrap .i64 (x2+1)) x3 x4 x5 x6))
 (none))
 (rec x0 x1 (IntKind.wrap .i64 (x2+1)) x3 x4 x5 x6))
 (none))
 (some (.inr ()))
def qFT:Nat->Int->Int->Int->List Int->List Int->Int->List Bool->Option ((Bool)⊕(Unit))
 | 0,_,_,_,_,_,_,_=>none
 | f+1,x0,x1,x2,x3,x4,x5,x6=>qHz (qFT f) x0 x1 x2 x3 x4 x5 x6
def qGN (x0 x1:List Int) (x2 x3:Int):Option (Bool):=
 ob (qES x0 x1 x2) fun a4=>
 ob (qJb x0 x1 x2 x3) fun a5=>
 br (decide (a5<0))
 (some (false))
 (ob (qFT qC x3 a5 0 x0 x1 x2 a4) fun t6_2=>
 sw t6_2 (fun a6=>
 some (a6))
 (fun _=>
 some (false)))
def qHy (x0 x1:List Int) (x2:Int):Option (Int):=
 ob (qFR x0 x1 x2) fun a3=>
 br (a3 != 0)
 (some (a3))
 (ob (qGN x0 x1 x2 (IntKind.wrap .i64 (1 - x2))) fun a4=>
 br (a4)
 (some (54))
 (some (0)))
def qEU (x0 x1:List Int) (x2 x3:Int) (x4 x5:Int) (x6:Bool):Option (List Int×List Int×Int):=
 br (x5 != 0)
 (br (inB x2 2)
 (br (inB x5 8)
 (br (inB x2 2)
 (br (inB x5 8)
 (br (inB x4 81)
 (some (List.set x0 (Int.toNat x4) (conv .i64 .i8 (IntKind.wrap .i64 (IntKind.wrap .i64 (16*x2)+x5))),List.set x1 (Int.toNat x2*8+Int.toNat x5) (IntKind.wrap .i8 (List.getD x1 (Int.toNat x2*8+Int.toNat x5) 0 - 1)),IntKind.wrap .i8 (1 - x2)))
 (none))
 (none))
 (none))
 (none))
 (none))
 (br (inB x4 81)
 (ob (qAS (conv .i8 .i64 (List.getD x0 (Int.toNat x4) 0))) fun a7=>
 ob (qHr a7) fun a8=>
 br (a8 != 0)
 (br (inB x2 2)
 (br (inB a8 8)
 (br (inB x2 2)
 (br (inB a8 8)
 (br (inB x3 81)
 (br (inB x4 81)
 (br (x6)
 (br (inB x4 81)
 (br (inB x4 81)
 (br (inB x3 81)
 (some (List.set (List.set (List.set x0 (Int.toNat x4) (List.getD x0 (Int.toNat x3) 0)) (Int.toNat x4) (IntKind.wrap .i8 (List.getD (List.set x0 (Int.toNat x4) (List.getD x0 (Int.toNat x3) 0)) (Int.toNat x4) 0+8))) (Int.toNat x3) 0,List.set x1 (Int.toNat x2*8+Int.toNat a8) (IntKind.wrap .i8 (List.getD x1 (Int.toNat x2*8+Int.toNat a8) 0+1)),IntKind.wrap .i8 (1 - x2)))
 (none))
 (none))
 (none))
 (br (inB x3 81)
 (some (List.set (List.set x0 (Int.toNat x4) (List.getD x0 (Int.toNat x3) 0)) (Int.toNat x3) 0,List.set x1 (Int.toNat x2*8+Int.toNat a8) (IntKind.wrap .i8 (List.getD x1 (Int.toNat x2*8+Int.toNat a8) 0+1)),IntKind.wrap .i8 (1 - x2)))
 (none)))
 (none))
 (none))
 (none))
 (none))
 (none))
 (none))
 (br (inB x3 81)
 (br (inB x4 81)
 (br (x6)
 (br (inB x4 81)
 (br (inB x4 81)
 (br (inB x3 81)
 (some (List.set (List.set (List.set x0 (Int.toNat x4) (List.getD x0 (Int.toNat x3) 0)) (Int.toNat x4) (IntKind.wrap .i8 (List.getD (List.set x0 (Int.toNat x4) (List.getD x0 (Int.toNat x3) 0)) (Int.toNat x4) 0+8))) (Int.toNat x3) 0,x1,IntKind.wrap .i8 (1 - x2)))
 (none))
 (none))
 (none))
 (br (inB x3 81)
 (some (List.set (List.set x0 (Int.toNat x4) (List.getD x0 (Int.toNat x3) 0)) (Int.toNat x3) 0,x1,IntKind.wrap .i8 (1 - x2)))
 (none)))
 (none))
 (none)))
 (none))
def qHn (rec:Int->Int->Nat->Int->Int->Int->Int->Nat->List (List Int)->Option ((Int×Int)⊕(Int×Int))) (x0 x1:Int) (x2:Nat) (x3 x4:Int) (x5 x6:Int) (x7:Nat) (x8:List (List Int)):Option ((Int×Int)⊕(Int×Int)):=
 br (decide (x4<x3))
 (br (inB x4 x2)
 (ob (qIH 1 1 [x1]) fun (a17_0,a17_1)=>
 ob (qHp x0 (List.headD (List.take 2 (List.getD x8 (Int.toNat x4) [])) 0) (List.headD (List.tail (List.take 2 (List.getD x8 (Int.toNat x4) []))) 0) a17_0 a17_1) fun (a19_0,a19_1)=>
 ob (qCI a19_0 a19_1 x1) fun a21=>
 br (a21)
 (ob (qEb a19_0 a19_1 x1) fun (a22_0,a22_1)=>
 some (.inl (a22_0,a22_1)))
 (rec x0 x1 x2 x3 (IntKind.wrap .i64 (x4+1)) x5 x6 x7 x8))
 (none))
 (some (.inr (x5,x6)))
def qFJ:Nat->Int->Int->Nat->Int->Int->Int->Int->Nat->List (List Int)->Option ((Int×Int)⊕(Int×Int))
 | 0,_,_,_,_,_,_,_,_,_=>none
 | f+1,x0,x1,x2,x3,x4,x5,x6,x7,x8=>qHn (qFJ f) x0 x1 x2 x3 x4 x5 x6 x7 x8
def qHm (x0 x1:Int):Option (Int×Int):=
 ob (qGJ 6) fun (a2_0,_,a2_2)=>
 ob (qGJ 7) fun (a5_0,_,a5_2)=>
 br (decide ((a2_0+a5_0)*16<=140737488355328))
 (ob (qFJ qC x0 x1 (a2_0+a5_0) (Int.ofNat (a2_0+a5_0)) 0 0 0 (a2_0+a5_0) (List.append (List.take a2_0 a2_2) (List.take a5_0 a5_2))) fun t8_2=>
 sw t8_2 (fun (a8_0,a8_1)=>
 some (a8_0,a8_1))
 (fun (_,_)=>
 some (0,0)))
 (none)
def qFv (rec:Int->Int->Nat->Int->Int->Nat->Int->Int->List Int->List Int->Int->List (List Int)->List (List Int)->List (List Int×List Int)->Nat->List Int->Nat->List Int->Option (Int×Int×Nat×Int×Int×List Int×List Int×Int×List (List Int)×List (List Int)×List (List Int×List Int)×Nat×List Int)) (x0 x1:Int) (x2:Nat) (x3 x4:Int) (x5:Nat) (x6 x7:Int) (x8 x9:List Int) (x10:Int) (x11 x12:List (List Int)) (x13:List (List Int×List Int)) (x14:Nat) (x15:List Int) (x16:Nat) (x17:List Int):Option (Int×Int×Nat×Int×Int×List Int×List Int×Int×List (List Int)×List (List Int)×List (List Int×List Int)×Nat×List Int):=
 br (decide (x7<x6))
 (br (inB x7 x5)
 (ob (qHm (List.getD x17 (Int.toNat x7) 0) x1) fun (a43_0,a43_1)=>
 ob (qC3 x8 x9 x10 x11 x12) fun (a45_0,a45_1)=>
 ob (qDE a43_0 a43_1 a45_0 a45_1) fun (a47_0,a47_1)=>
 ob (qIF a47_0 a47_1) fun a49=>
 br (a49 != 1)
 (rec x0 x1 x2 x3 x4 x5 x6 (IntKind.wrap .i64 (x7+1)) x8 x9 x10 x11 x12 x13 x14 x15 x16 x17)
 (ob (qFz x0 x8 x9 x10 x11 x12) fun (a50_0,a50_1)=>
 ob (qDE a47_0 a47_1 a50_0 a50_1) fun (a52_0,a52_1)=>
 ob (qFc a52_0 a52_1) fun a54=>
 br (a54)
 (rec x0 x1 x2 x3 x4 x5 x6 (IntKind.wrap .i64 (x7+1)) x8 x9 x10 x11 x12 x13 x14 x15 x16 x17)
 (ob (qGX a47_0 a47_1) fun a55=>
 ob (qAf (List.getD x17 (Int.toNat x7) 0) x8 x9 x10 x11 x12) fun a56=>
 ob (qC3 x8 x9 x10 x11 x12) fun (a57_0,a57_1)=>
 ob (qEb a57_0 a57_1 a55) fun (a59_0,a59_1)=>
 ob (qFK a56 (List.getD x17 (Int.toNat x7) 0) a59_0 a59_1) fun (a61_0,a61_1)=>
 ob (qCI a61_0 a61_1 x1) fun a63=>
 br (!a63)
 (rec x0 x1 x2 x3 x4 x5 x6 (IntKind.wrap .i64 (x7+1)) x8 x9 x10 x11 x12 x13 x14 x15 x16 x17)
 (ob (qAf (List.getD x17 (Int.toNat x7) 0) x8 x9 x10 x11 x12) fun a64=>
 ob (qC3 x8 x9 x10 x11 x12) fun (a65_0,a65_1)=>
 ob (qFK a64 (List.getD x17 (Int.toNat x7) 0) a65_0 a65_1) fun (a67_0,a67_1)=>
 ob (qCI a67_0 a67_1 x1) fun a69=>
 br (a69)
 (rec x0 x1 x2 x3 x4 x5 x6 (IntKind.wrap .i64 (x7+1)) x8 x9 x10 x11 x12 x13 x14 x15 x16 x17)
 (ob (qBA a43_0 a43_1 (List.getD x17 (Int.toNat x7) 0)) fun (a70_0,a70_1)=>
 rec x0 x1 x2 x3 x4 x5 x6 (IntKind.wrap .i64 (x7+1)) x8 x9 x10 x11 x12 (qAJ x13 [a55] [a70_0,a70_1]) x14 x15 x16 x17)))))
 (none))
 (some (x0,x1,x2,x3,x4,x8,x9,x10,x11,x12,x13,x14,x15))
def qEp:Nat->Int->Int->Nat->Int->Int->Nat->Int->Int->List Int->List Int->Int->List (List Int)->List (List Int)->List (List Int×List Int)->Nat->List Int->Nat->List Int->Option (Int×Int×Nat×Int×Int×List Int×List Int×Int×List (List Int)×List (List Int)×List (List Int×List Int)×Nat×List Int)
 | 0,_,_,_,_,_,_,_,_,_,_,_,_,_,_,_,_,_,_=>none
 | f+1,x0,x1,x2,x3,x4,x5,x6,x7,x8,x9,x10,x11,x12,x13,x14,x15,x16,x17=>qFv (qEp f) x0 x1 x2 x3 x4 x5 x6 x7 x8 x9 x10 x11 x12 x13 x14 x15 x16 x17
def qGv (rec:Int->Int->Nat->Int->Int->List Int->List Int->Int->List (List Int)->List (List Int)->List (List Int×List Int)->Nat->List Int->Option (List Int×List Int×Int×List (List Int)×List (List Int)×List (List Int×List Int))) (x0 x1:Int) (x2:Nat) (x3 x4:Int) (x5 x6:List Int) (x7:Int) (x8 x9:List (List Int)) (x10:List (List Int×List Int)) (x11:Nat) (x12:List Int):Option (List Int×List Int×Int×List (List Int)×List (List Int)×List (List Int×List Int)):=
 br (decide (x4<x3))
 (br (inB x4 x2)
 (ob (qDL (IntKind.wrap .i64 (1 - x0)) (List.getD x12 (Int.toNat x4) 0) x5 x6 x7 x8 x9) fun (a20_0,a20_1)=>
 ob (qEZ a20_0 a20_1) fun (a22_0,a22_1,a22_2)=>
 ob (qEp qC x0 x1 x2 x3 x4 a22_0 (Int.ofNat a22_0) 0 x5 x6 x7 x8 x9 x10 x11 x12 a22_1 a22_2) fun (a25_0,a25_1,a25_2,a25_3,a25_4,a25_5,a25_6,a25_7,a25_8,a25_9,a25_10,a25_11,a25_12)=>
 rec a25_0 a25_1 a25_2 a25_3 (IntKind.wrap .i64 (a25_4+1)) a25_5 a25_6 a25_7 a25_8 a25_9 a25_10 a25_11 a25_12)
 (none))
 (some (x5,x6,x7,x8,x9,x10))
def qEo:Nat->Int->Int->Nat->Int->Int->List Int->List Int->Int->List (List Int)->List (List Int)->List (List Int×List Int)->Nat->List Int->Option (List Int×List Int×Int×List (List Int)×List (List Int)×List (List Int×List Int))
 | 0,_,_,_,_,_,_,_,_,_,_,_,_,_=>none
 | f+1,x0,x1,x2,x3,x4,x5,x6,x7,x8,x9,x10,x11,x12=>qGv (qEo f) x0 x1 x2 x3 x4 x5 x6 x7 x8 x9 x10 x11 x12
def qGt (x0:Int) (x1 x2:List Int) (x3:Int) (x4 x5:List (List Int)):Option (List (List Int×List Int)):=
 ob (qFy x0 x1 x2 x3 x4 x5) fun a6=>
 br (decide (a6<0))
 (some ([]))
 (ob (qEo qC x0 a6 5 5 0 x1 x2 x3 x4 x5 [] 5 ([2,6,7,14,15])) fun (_,_,_,_,_,a7_5)=>
 some (a7_5))
def qHX (x0 x1:List Int) (x2:Int) (x3 x4:List (List Int)):Option (Int×Int×Int×Int×Bool×List (List Int×List Int)):=
 ob (qFy x2 x0 x1 x2 x3 x4) fun a5=>
 ob (qGV ) fun (a6_0,a6_1)=>
 ob (qGt x2 x0 x1 x2 x3 x4) fun a8=>
 ob (qGq x2 x0 x1 x2 x3 x4) fun (a9_0,a9_1)=>
 ob (qIF a9_0 a9_1) fun a11=>
 br (a11==0)
 (some (x2,a5,a6_0,a6_1,false,a8))
 (br (a11==1)
 (ob (qGX a9_0 a9_1) fun a12=>
 ob (qHm a12 a5) fun (a13_0,a13_1)=>
 ob (qDv a13_0 a13_1 a9_0 a9_1) fun (a15_0,a15_1)=>
 some (x2,a5,a15_0,a15_1,true,a8))
 (some (x2,a5,0,0,true,a8)))
def qHY (x0 x1:Int) (x2 x3:Int) (_x4:Bool) (x5 x6 _x7:Int) (_x8:Bool) (x9 x10:List Int) (x11:Int) (x12 x13:List (List Int)) (x14:List (List Int×List Int)):Option (Bool×List Int×List Int×Int×List (List Int)×List (List Int)×List (List Int×List Int)):=
 br (x5==x1)
 (ob (qC3 x9 x10 x11 x12 x13) fun (a15_0,a15_1)=>
 ob (qEb a15_0 a15_1 x1) fun (a17_0,a17_1)=>
 ob (qGr x6 (IntKind.wrap .i64 (1 - x0)) a17_0 a17_1 x9 x10 x11 x12 x13) fun (a19_0,a19_1)=>
 ob (qFc a19_0 a19_1) fun a21=>
 some (a21,x9,x10,x11,x12,x13,x14))
 (ob (qCI x2 x3 x6) fun a15=>
 br (!a15)
 (some (false,x9,x10,x11,x12,x13,x14))
 (br (!qA4 x14 [x5])
 (some (true,x9,x10,x11,x12,x13,x14))
 (ob (qCI (List.headD (qA3 x14 [x5] [0,0]) 0) (List.headD (List.tail (qA3 x14 [x5] [0,0])) 0) x6) fun a16=>
 some (a16,x9,x10,x11,x12,x13,x14))))
def qHW (rec:Nat->Int->Int->List Int->List Int->Int->List (List Int)->List (List Int)->Int->Int->Int->Int->Bool->Nat->List (List Int)->List Int->List Int->Int->List (List Int)->List (List Int)->List (List Int×List Int)->Option ((Bool×List Int×List Int×Int×List (List Int)×List (List Int))⊕(List Int×List Int×Int×List (List Int)×List (List Int)))) (x0:Nat) (x1 x2:Int) (x3 x4:List Int) (x5:Int) (x6 x7:List (List Int)) (x8 x9:Int) (x10 x11:Int) (x12:Bool) (x13:Nat) (x14:List (List Int)) (x15 x16:List Int) (x17:Int) (x18 x19:List (List Int)) (x20:List (List Int×List Int)):Option ((Bool×List Int×List Int×Int×List (List Int)×List (List Int))⊕(List Int×List Int×Int×List (List Int)×List (List Int))):=
 br (decide (x2<x1))
 (br (inB x2 x0)
 (ob (qHY x8 x9 x10 x11 x12 (List.headD (List.take 4 (List.getD x14 (Int.toNat x2) [])) 0) (List.headD (List.tail (List.take 4 (List.getD x14 (Int.toNat x2) []))) 0) (List.headD (List.tail (List.tail (List.take 4 (List.getD x14 (Int.toNat x2) [])))) 0) (List.headD (List.tail (List.tail (List.tail (List.take 4 (List.getD x14 (Int.toNat x2) []))))) 0 != 0) x15 x16 x17 x18 x19 x20) fun (a53_0,a53_1,a53_2,a53_3,a53_4,a53_5,a53_6)=>
 br (a53_0)
 (some (.inl (false,x3,x4,x5,x6,x7)))
 (rec x0 x1 (IntKind.wrap .i64 (x2+1)) x3 x4 x5 x6 x7 x8 x9 x10 x11 x12 x13 x14 a53_1 a53_2 a53_3 a53_4 a53_5 a53_6))
 (none))
 (some (.inr (x3,x4,x5,x6,x7)))
def qFD:Nat->Nat->Int->Int->List Int->List Int->Int->List (List Int)->List (List Int)->Int->Int->Int->Int->Bool->Nat->List (List Int)->List Int->List Int->Int->List (List Int)->List (List Int)->List (List Int×List Int)->Option ((Bool×List Int×List Int×Int×List (List Int)×List (List Int))⊕(List Int×List Int×Int×List (List Int)×List (List Int)))
 | 0,_,_,_,_,_,_,_,_,_,_,_,_,_,_,_,_,_,_,_,_,_=>none
 | f+1,x0,x1,x2,x3,x4,x5,x6,x7,x8,x9,x10,x11,x12,x13,x14,x15,x16,x17,x18,x19,x20=>qHW (qFD f) x0 x1 x2 x3 x4 x5 x6 x7 x8 x9 x10 x11 x12 x13 x14 x15 x16 x17 x18 x19 x20
def qJI (x0:Int) (x1 x2:List Int) (x3:Int) (x4 x5:List (List Int)):Option (Bool):=
 ob (qAy x3 1) fun a6=>
 br (a6==0)
 (some (false))
 (br (decide (x0<0))
 (some (false))
 (br (decide (x0 >= 81))
 (some (false))
 (ob (qAf x0 x1 x2 x3 x4 x5) fun a7=>
 br (a7 != 0)
 (some (false))
 (ob (qKN x1 x2 x3 x4 x5) fun (a8_0,a8_1,a8_2,a8_3,a8_4)=>
 ob (qF0 x0 a6 a8_0 a8_1 a8_2 a8_3 a8_4) fun (a13_0,a13_1,a13_2,a13_3,a13_4)=>
 ob (qGq (conv .i8 .i64 (IntKind.wrap .i8 (1 - a13_2))) a13_0 a13_1 (IntKind.wrap .i8 (1 - a13_2)) a13_3 a13_4) fun (a18_0,a18_1)=>
 ob (qCI a18_0 a18_1 x0) fun a20=>
 br (!a20)
 (some (false))
 (ob (qHX a13_0 a13_1 (IntKind.wrap .i8 (1 - a13_2)) a13_3 a13_4) fun (a21_0,a21_1,a21_2,a21_3,a21_4,a21_5)=>
 ob (qGV ) fun (a27_0,a27_1)=>
 ob (qHC a27_0 a27_1 a13_0 a13_1 (IntKind.wrap .i8 (1 - a13_2)) a13_3 a13_4) fun (a29_0,a29_1,a29_2)=>
 ob (qFD qC a29_0 (Int.ofNat a29_0) 0 x1 x2 x3 x4 x5 a21_0 a21_1 a21_2 a21_3 a21_4 a29_1 a29_2 a13_0 a13_1 (IntKind.wrap .i8 (1 - a13_2)) a13_3 a13_4 a21_5) fun t32_2=>
 sw t32_2 (fun (a32_0,_,_,_,_,_)=>
 some (a32_0))
 (fun (_,_,_,_,_)=>
 some (true)))))))
def qHU (rec:Nat->Nat->Int->Int->List Int->List Int->Int->List (List Int)->List (List Int)->Int->Int->Int->Int->Bool->Nat->List (List Int)->Nat->List (List Int)->List (List Int×List Int)->Option (Nat×List Int×List Int×Int×List (List Int)×List (List Int)×Int×Int×Int×Int×Bool×Nat×List (List Int)×List (List Int×List Int))) (x0 x1:Nat) (x2 x3:Int) (x4 x5:List Int) (x6:Int) (x7 x8:List (List Int)) (x9 x10:Int) (x11 x12:Int) (x13:Bool) (x14:Nat) (x15:List (List Int)) (x16:Nat) (x17:List (List Int)) (x18:List (List Int×List Int)):Option (Nat×List Int×List Int×Int×List (List Int)×List (List Int)×Int×Int×Int×Int×Bool×Nat×List (List Int)×List (List Int×List Int)):=
 br (decide (x3<x2))
 (br (inB x3 x1)
 (ob (qHY x9 x10 x11 x12 x13 (List.headD (List.take 4 (List.getD x17 (Int.toNat x3) [])) 0) (List.headD (List.tail (List.take 4 (List.getD x17 (Int.toNat x3) []))) 0) (List.headD (List.tail (List.tail (List.take 4 (List.getD x17 (Int.toNat x3) [])))) 0) (List.headD (List.tail (List.tail (List.tail (List.take 4 (List.getD x17 (Int.toNat x3) []))))) 0 != 0) x4 x5 x6 x7 x8 x18) fun (a35_0,a35_1,a35_2,a35_3,a35_4,a35_5,a35_6)=>
 br (a35_0)
 (br (decide ((x0+1)*32<=140737488355328))
 (rec (x0+1) x1 x2 (IntKind.wrap .i64 (x3+1)) a35_1 a35_2 a35_3 a35_4 a35_5 x9 x10 x11 x12 x13 (x0+1) (List.append (List.take x0 x15) [[List.headD (List.take 4 (List.getD x17 (Int.toNat x3) [])) 0,List.headD (List.tail (List.take 4 (List.getD x17 (Int.toNat x3) []))) 0,List.headD (List.tail (List.tail (List.take 4 (List.getD x17 (Int.toNat x3) [])))) 0,bi (List.headD (List.tail (List.tail (List.tail (List.take 4 (List.getD x17 (Int.toNat x3) []))))) 0 != 0)]]) x16 x17 a35_6)
 (none))
 (rec x0 x1 x2 (IntKind.wrap .i64 (x3+1)) a35_1 a35_2 a35_3 a35_4 a35_5 x9 x10 x11 x12 x13 x14 x15 x16 x17 a35_6))
 (none))
 (some (x0,x4,x5,x6,x7,x8,x9,x10,x11,x12,x13,x14,x15,x18))
def qFC:Nat->Nat->Nat->Int->Int->List Int->List Int->Int->List (List Int)->List (List Int)->Int->Int->Int->Int->Bool->Nat->List (List Int)->Nat->List (List Int)->List (List Int×List Int)->Option (Nat×List Int×List Int×Int×List (List Int)×List (List Int)×Int×Int×Int×Int×Bool×Nat×List (List Int)×List (List Int×List Int))
 | 0,_,_,_,_,_,_,_,_,_,_,_,_,_,_,_,_,_,_,_=>none
 | f+1,x0,x1,x2,x3,x4,x5,x6,x7,x8,x9,x10,x11,x12,x13,x14,x15,x16,x17,x18=>qHU (qFC f) x0 x1 x2 x3 x4 x5 x6 x7 x8 x9 x10 x11 x12 x13 x14 x15 x16 x17 x18
def qHT (rec:Nat->Nat->Int->Int->List Int->List Int->Int->List (List Int)->List (List Int)->Nat->List (List Int)->Nat->List (List Int)->Option (Nat×List Int×List Int×Int×List (List Int)×List (List Int)×Nat×List (List Int))) (x0 x1:Nat) (x2 x3:Int) (x4 x5:List Int) (x6:Int) (x7 x8:List (List Int)) (x9:Nat) (x10:List (List Int)) (x11:Nat) (x12:List (List Int)):Option (Nat×List Int×List Int×Int×List (List Int)×List (List Int)×Nat×List (List Int)):=
 br (decide (x3<x2))
 (br (inB x3 x1)
 (br (List.headD (List.tail (List.tail (List.take 4 (List.getD x12 (Int.toNat x3) [])))) 0==1)
 (ob (qJI (List.headD (List.tail (List.take 4 (List.getD x12 (Int.toNat x3) []))) 0) x4 x5 x6 x7 x8) fun a46=>
 br (a46)
 (rec x0 x1 x2 (IntKind.wrap .i64 (x3+1)) x4 x5 x6 x7 x8 x9 x10 x11 x12)
 (br (decide ((x0+1)*32<=140737488355328))
 (rec (x0+1) x1 x2 (IntKind.wrap .i64 (x3+1)) x4 x5 x6 x7 x8 (x0+1) (List.append (List.take x0 x10) [[List.headD (List.take 4 (List.getD x12 (Int.toNat x3) [])) 0,List.headD (List.tail (List.take 4 (List.getD x12 (Int.toNat x3) []))) 0,List.headD (List.tail (List.tail (List.take 4 (List.getD x12 (Int.toNat x3) [])))) 0,bi (List.headD (List.tail (List.tail (List.tail (List.take 4 (List.getD x12 (Int.toNat x3) []))))) 0 != 0)]]) x11 x12)
 (none)))
 (br (decide ((x0+1)*32<=140737488355328))
 (rec (x0+1) x1 x2 (IntKind.wrap .i64 (x3+1)) x4 x5 x6 x7 x8 (x0+1) (List.append (List.take x0 x10) [[List.headD (List.take 4 (List.getD x12 (Int.toNat x3) [])) 0,List.headD (List.tail (List.take 4 (List.getD x12 (Int.toNat x3) []))) 0,List.headD (List.tail (List.tail (List.take 4 (List.getD x12 (Int.toNat x3) [])))) 0,bi (List.headD (List.tail (List.tail (List.tail (List.take 4 (List.getD x12 (Int.toNat x3) []))))) 0 != 0)]]) x11 x12)
 (none)))
 (none))
 (some (x0,x4,x5,x6,x7,x8,x9,x10))
def qEK:Nat->Nat->Nat->Int->Int->List Int->List Int->Int->List (List Int)->List (List Int)->Nat->List (List Int)->Nat->List (List Int)->Option (Nat×List Int×List Int×Int×List (List Int)×List (List Int)×Nat×List (List Int))
 | 0,_,_,_,_,_,_,_,_,_,_,_,_,_=>none
 | f+1,x0,x1,x2,x3,x4,x5,x6,x7,x8,x9,x10,x11,x12=>qHT (qEK f) x0 x1 x2 x3 x4 x5 x6 x7 x8 x9 x10 x11 x12
def qDY (x0 x1:List Int) (x2:Int) (x3 x4:List (List Int)):Option (Nat×List Int×List Int×Int×List (List Int)×List (List Int)×Nat×List (List Int)):=
 ob (qHX x0 x1 x2 x3 x4) fun (a5_0,a5_1,a5_2,a5_3,a5_4,a5_5)=>
 ob (qGV ) fun (a11_0,a11_1)=>
 ob (qHC a11_0 a11_1 x0 x1 x2 x3 x4) fun (a13_0,a13_1,a13_2)=>
 ob (qFC qC 0 a13_0 (Int.ofNat a13_0) 0 x0 x1 x2 x3 x4 a5_0 a5_1 a5_2 a5_3 a5_4 0 [] a13_1 a13_2 a5_5) fun (a16_0,a16_1,a16_2,a16_3,a16_4,a16_5,_,_,a16_8,a16_9,_,a16_11,a16_12,_)=>
 ob (qI8 a16_8 a16_9 a16_1 a16_2 a16_3 a16_4 a16_5) fun (a30_0,a30_1,a30_2)=>
 ob (qEK qC a16_0 a30_0 (Int.ofNat a30_0) 0 a16_1 a16_2 a16_3 a16_4 a16_5 a16_11 a16_12 a30_1 a30_2) fun (a33_0,a33_1,a33_2,a33_3,a33_4,a33_5,a33_6,a33_7)=>
 some (a33_0,a33_1,a33_2,a33_3,a33_4,a33_5,a33_6,a33_7)
def qJH (rec:Nat->Int->Int->List Int->List Int->Int->List (List Int)->List (List Int)->Int->Int->Int->Bool->Nat->List (List Int)->Option ((Bool×List Int×List Int×Int×List (List Int)×List (List Int))⊕(List Int×List Int×Int×List (List Int)×List (List Int)))) (x0:Nat) (x1 x2:Int) (x3 x4:List Int) (x5:Int) (x6 x7:List (List Int)) (x8 x9 x10:Int) (x11:Bool) (x12:Nat) (x13:List (List Int)):Option ((Bool×List Int×List Int×Int×List (List Int)×List (List Int))⊕(List Int×List Int×Int×List (List Int)×List (List Int))):=
 br (decide (x2<x1))
 (br (inB x2 x0)
 (br (List.headD (List.take 4 (List.getD x13 (Int.toNat x2) [])) 0==x8&&(List.headD (List.tail (List.take 4 (List.getD x13 (Int.toNat x2) []))) 0==x9&&(List.headD (List.tail (List.tail (List.take 4 (List.getD x13 (Int.toNat x2) [])))) 0==x10&&(List.headD (List.tail (List.tail (List.tail (List.take 4 (List.getD x13 (Int.toNat x2) []))))) 0 != 0)==x11)))
 (some (.inl (true,x3,x4,x5,x6,x7)))
 (rec x0 x1 (IntKind.wrap .i64 (x2+1)) x3 x4 x5 x6 x7 x8 x9 x10 x11 x12 x13))
 (none))
 (some (.inr (x3,x4,x5,x6,x7)))
def qHV:Nat->Nat->Int->Int->List Int->List Int->Int->List (List Int)->List (List Int)->Int->Int->Int->Bool->Nat->List (List Int)->Option ((Bool×List Int×List Int×Int×List (List Int)×List (List Int))⊕(List Int×List Int×Int×List (List Int)×List (List Int)))
 | 0,_,_,_,_,_,_,_,_,_,_,_,_,_,_=>none
 | f+1,x0,x1,x2,x3,x4,x5,x6,x7,x8,x9,x10,x11,x12,x13=>qJH (qHV f) x0 x1 x2 x3 x4 x5 x6 x7 x8 x9 x10 x11 x12 x13
def qOu (x0 x1 x2:Int) (x3:Bool) (x4 x5:List Int) (x6:Int) (x7 x8:List (List Int)):Option (Bool×List Int×List Int×Int×List (List Int)×List (List Int)):=
 ob (qDY x4 x5 x6 x7 x8) fun (a9_0,a9_1,a9_2,a9_3,a9_4,a9_5,a9_6,a9_7)=>
 ob (qHV qC a9_0 (Int.ofNat a9_0) 0 a9_1 a9_2 a9_3 a9_4 a9_5 x0 x1 x2 x3 a9_6 a9_7) fun t17_2=>
 sw t17_2 (fun (a17_0,a17_1,a17_2,a17_3,a17_4,a17_5)=>
 some (a17_0,a17_1,a17_2,a17_3,a17_4,a17_5))
 (fun (a17_0,a17_1,a17_2,a17_3,a17_4)=>
 some (false,a17_0,a17_1,a17_2,a17_3,a17_4))
def qH6 (x0 x1:List Int) (x2 x3:Int) (x4 x5:Int) (x6:Bool):Option (Bool):=
 ob (qEU x0 x1 x2 x3 x4 x5 x6) fun (a7_0,a7_1,a7_2)=>
 ob (qGN a7_0 a7_1 a7_2 x2) fun a10=>
 some (!a10)
def qH7 (rec:Nat->Int->List Int->List Int->Int->Nat->List (List Int)->Option ((Bool)⊕(Unit))) (x0:Nat) (x1:Int) (x2 x3:List Int) (x4:Int) (x5:Nat) (x6:List (List Int)):Option ((Bool)⊕(Unit)):=
 br (decide (x1<Int.ofNat x0))
 (br (inB x1 x0)
 (ob (qH6 x2 x3 x4 (List.headD (List.take 4 (List.getD x6 (Int.toNat x1) [])) 0) (List.headD (List.tail (List.take 4 (List.getD x6 (Int.toNat x1) []))) 0) (List.headD (List.tail (List.tail (List.take 4 (List.getD x6 (Int.toNat x1) [])))) 0) (List.headD (List.tail (List.tail (List.tail (List.take 4 (List.getD x6 (Int.toNat x1) []))))) 0 != 0)) fun a13=>
 br (a13)
 (some (.inl (false)))
 (rec x0 (IntKind.wrap .i64 (x1+1)) x2 x3 x4 x5 x6))
 (none))
 (some (.inr ()))
def qFX:Nat->Nat->Int->List Int->List Int->Int->Nat->List (List Int)->Option ((Bool)⊕(Unit))
 | 0,_,_,_,_,_,_,_=>none
 | f+1,x0,x1,x2,x3,x4,x5,x6=>qH7 (qFX f) x0 x1 x2 x3 x4 x5 x6
def qJh (x0 x1:List Int) (x2:Int):Option (Bool):=
 ob (qJd x0 x1 x2) fun (a3_0,a3_1,a3_2)=>
 ob (qFX qC a3_0 0 x0 x1 x2 a3_1 a3_2) fun t6_2=>
 sw t6_2 (fun a6=>
 some (a6))
 (fun _=>
 some (true))
def qH5 (x0 x1:List Int) (x2 x3:Int) (x4 x5:Int) (x6:Bool):Option (Bool):=
 ob (qH6 x0 x1 x2 x3 x4 x5 x6) fun a7=>
 br (!a7)
 (some (false))
 (br (x5 != 1)
 (some (true))
 (ob (qEU x0 x1 x2 x3 x4 x5 x6) fun (a8_0,a8_1,a8_2)=>
 ob (qGN a8_0 a8_1 a8_2 a8_2) fun a11=>
 br (!a11)
 (some (true))
 (ob (qJh a8_0 a8_1 a8_2) fun a12=>
 some (!a12))))
def qGO (x0 x1:List Int) (x2 x3:Int) (x4 x5:Int) (x6:Bool):Option (Bool):=
 ob (qEV x0 x1 x2 x3 x4 x5 x6) fun a7=>
 br (a7)
 (ob (qH5 x0 x1 x2 x3 x4 x5 x6) fun a8=>
 some (a8))
 (some (false))
def qO9 (x0 x1:List Int) (x2:Int) (x3 x4:List (List Int)):Option (Bool×List Int×List Int×Int×List (List Int)×List (List Int)):=
 ob (qDY x0 x1 x2 x3 x4) fun (a5_0,a5_1,a5_2,a5_3,a5_4,a5_5,_,_)=>
 some (Int.ofNat a5_0==0,a5_1,a5_2,a5_3,a5_4,a5_5)
def qXW (x0:Int):Option (ByteArray):=
 ob (qAC x0) fun a1=>
 br (a1==0)
 (some ({data:=#[]}))
 (ob (qEP a1) fun a2=>
 br (inB a2 9)
 (ob (qAQ x0) fun a3=>
 br (a3==1)
 (br (decide (a1>8))
 (some (qJ0 [43,IntKind.wrap .u8 (qKT { data:=#[32,80,76,78,83,71,66,82,75] } (Int.toNat a2)+32)]))
 (some (qJ0 [IntKind.wrap .u8 (qKT { data:=#[32,80,76,78,83,71,66,82,75] } (Int.toNat a2)+32)])))
 (br (decide (a1>8))
 (some (qJ0 [43,qKT { data:=#[32,80,76,78,83,71,66,82,75] } (Int.toNat a2)]))
 (some (qJ0 [qKT { data:=#[32,80,76,78,83,71,66,82,75] } (Int.toNat a2)]))))
 (none))
def qHd (x0:Int):Option (ByteArray):=
 br (decide (x0<0))
 (some ({data:=#[]}))
 (br (decide (x0 >= 81))
 (some ({data:=#[]}))
 (ob (qFd x0) fun a1=>
 ob (qEY x0) fun a2=>
 some (qJ0 [conv .i64 .u8 (IntKind.wrap .i64 (49+a1)),conv .i64 .u8 (IntKind.wrap .i64 (97+a2))])))
def qPG (x0 x1 x2:Int) (x3:Bool):Option (ByteArray):=
 ob (qDZ x0 x1 x2 x3) fun a4=>
 br (a4 != 0)
 (some ({data:=#[]}))
 (br (x2 != 0)
 (ob (qAy 0 x2) fun a5=>
 ob (qXW a5) fun a6=>
 br (qFm (ByteArray.size a6+1))
 (ob (qHd x1) fun a7=>
 br (qFm (ByteArray.size { data:={toList:=List.append (Array.toList (ByteArray.data a6)) (Array.toList (ByteArray.data { data:=#[42]})) }}+ByteArray.size a7))
 (some ({data:={toList:=List.append (Array.toList (ByteArray.data { data:={toList:=List.append (Array.toList (ByteArray.data a6)) (Array.toList (ByteArray.data { data:=#[42]})) }})) (Array.toList (ByteArray.data a7)) }}))
 (none))
 (none))
 (br (x3)
 (ob (qHd x0) fun a5=>
 ob (qHd x1) fun a6=>
 br (qFm (ByteArray.size a5+ByteArray.size a6))
 (br (qFm (ByteArray.size { data:={toList:=List.append (Array.toList (ByteArray.data a5)) (Array.toList (ByteArray.data a6)) }}+1))
 (some ({data:={toList:=List.append (Array.toList (ByteArray.data { data:={toList:=List.append (Array.toList (ByteArray.data a5)) (Array.toList (ByteArray.data a6)) }})) (Array.toList (ByteArray.data { data:=#[43]})) }}))
 (none))
 (none))
 (ob (qHd x0) fun a5=>
 ob (qHd x1) fun a6=>
 br (qFm (ByteArray.size a5+ByteArray.size a6))
 (some ({data:={toList:=List.append (Array.toList (ByteArray.data a5)) (Array.toList (ByteArray.data a6)) }}))
 (none))))
def qk9 (rec:Int->Bool->Int->ByteArray->Nat->Option ((Int)⊕(Unit))) (x0:Int) (x1:Bool) (x2:Int) (x3:ByteArray) (x4:Nat):Option ((Int)⊕(Unit)):=
 br (Nat.blt x4 (ByteArray.size x3))
 (br (Int.ofNat x4==0)
 (rec x0 x1 x2 x3 (x4+qKa x3 x4))
 (br (qNa x3 x4 != x0)
 (rec x0 x1 x2 x3 (x4+qKa x3 x4))
 (br (x1)
 (ob (qCu (Int.ofNat x4)) fun a7=>
 ob (qAy x2 a7) fun a8=>
 some (.inl (a8)))
 (ob (qAy x2 (Int.ofNat x4)) fun a7=>
 some (.inl (a7))))))
 (some (.inr ()))
def qLV:Nat->Int->Bool->Int->ByteArray->Nat->Option ((Int)⊕(Unit))
 | 0,_,_,_,_,_=>none
 | f+1,x0,x1,x2,x3,x4=>qk9 (qLV f) x0 x1 x2 x3 x4
def qPX (x0:Int) (x1:Bool):Option (Int):=
 br (decide (x0 >= 97))
 (br (decide (x0<=122))
 (ob (qLV qC (IntKind.wrap .i32 (x0 - 32)) x1 1 ({data:=#[32,80,76,78,83,71,66,82,75]}) 0) fun t2_2=>
 sw t2_2 (fun a2=>
 some (a2))
 (fun _=>
 some (0)))
 (ob (qLV qC x0 x1 0 ({data:=#[32,80,76,78,83,71,66,82,75]}) 0) fun t2_2=>
 sw t2_2 (fun a2=>
 some (a2))
 (fun _=>
 some (0))))
 (ob (qLV qC x0 x1 0 ({data:=#[32,80,76,78,83,71,66,82,75]}) 0) fun t2_2=>
 sw t2_2 (fun a2=>
 some (a2))
 (fun _=>
 some (0)))
def qGC (x0 x1:Int):Option (Int×Bool):=
 ob (qGa (conv .i32 .i64 (IntKind.wrap .i32 (x0 - 49))) (conv .i32 .i64 (IntKind.wrap .i32 (x1 - 97)))) fun a2=>
 some (a2,decide (a2 >= 0))
def qJN (rec:Nat->Int->Int->Int->Bool->Nat->List Int->ByteArray->Nat->Option (Nat×Int×Int×Int×Bool×Nat×List Int)) (x0:Nat) (x1 x2 x3:Int) (x4:Bool) (x5:Nat) (x6:List Int) (x7:ByteArray) (x8:Nat):Option (Nat×Int×Int×Int×Bool×Nat×List Int):=
 br (Nat.blt x8 (ByteArray.size x7))
 (br (Int.ofNat x0==6)
 (some (x0,x1,x2,x3,x4,x5,x6))
 (br (decide ((x0+1)*4<=140737488355328))
 (rec (x0+1) x1 x2 x3 x4 (x0+1) (List.append (List.take x0 x6) [qNa x7 x8]) x7 (x8+qKa x7 x8))
 (none)))
 (some (x0,x1,x2,x3,x4,x5,x6))
def qGB:Nat->Nat->Int->Int->Int->Bool->Nat->List Int->ByteArray->Nat->Option (Nat×Int×Int×Int×Bool×Nat×List Int)
 | 0,_,_,_,_,_,_,_,_,_=>none
 | f+1,x0,x1,x2,x3,x4,x5,x6,x7,x8=>qJN (qGB f) x0 x1 x2 x3 x4 x5 x6 x7 x8
def qJM (x0:ByteArray):Option (Int×Int×Int×Bool×Int):=
 br (decide (Int.ofNat (ByteArray.size x0)<=qIR))
 (ob (qGB qC 0 0 0 0 false 0 [] x0 0) fun (a1_0,_,_,_,_,_,a1_6)=>
 br (Int.ofNat a1_0 != 4)
 (br (Int.ofNat a1_0 != 5)
 (some (0,0,0,false,70))
 (br (inB 1 a1_0)
 (br (List.getD a1_6 1 0==42)
 (br (inB 0 a1_0)
 (ob (qPX (List.getD a1_6 0 0) false) fun a8=>
 br (inB 2 a1_0)
 (br (inB 3 a1_0)
 (ob (qGC (List.getD a1_6 2 0) (List.getD a1_6 3 0)) fun (a9_0,a9_1)=>
 ob (qAQ a8) fun a11=>
 br (a11 != 0)
 (some (0,0,0,false,70))
 (br (a8==8)
 (some (0,0,0,false,70))
 (br (!a9_1)
 (some (0,0,0,false,70))
 (br (Int.ofNat a1_0 != 4)
 (some (0,0,0,false,70))
 (some (0,a9_0,a8,false,0))))))
 (none))
 (none))
 (none))
 (br (inB 0 a1_0)
 (br (inB 1 a1_0)
 (ob (qGC (List.getD a1_6 0 0) (List.getD a1_6 1 0)) fun (a8_0,a8_1)=>
 br (inB 2 a1_0)
 (br (inB 3 a1_0)
 (ob (qGC (List.getD a1_6 2 0) (List.getD a1_6 3 0)) fun (a10_0,a10_1)=>
 br (!a8_1)
 (some (0,0,0,false,70))
 (br (!a10_1)
 (some (0,0,0,false,70))
 (br (a8_0==a10_0)
 (some (0,0,0,false,70))
 (br (Int.ofNat a1_0==5)
 (br (inB 4 a1_0)
 (br (List.getD a1_6 4 0 != 43)
 (some (0,0,0,false,70))
 (some (a8_0,a10_0,0,Int.ofNat a1_0==5,0)))
 (none))
 (some (a8_0,a10_0,0,Int.ofNat a1_0==5,0))))))
 (none))
 (none))
 (none))
 (none)))
 (none)))
 (br (inB 1 a1_0)
 (br (List.getD a1_6 1 0==42)
 (br (inB 0 a1_0)
 (ob (qPX (List.getD a1_6 0 0) false) fun a8=>
 br (inB 2 a1_0)
 (br (inB 3 a1_0)
 (ob (qGC (List.getD a1_6 2 0) (List.getD a1_6 3 0)) fun (a9_0,a9_1)=>
 ob (qAQ a8) fun a11=>
 br (a11 != 0)
 (some (0,0,0,false,70))
 (br (a8==8)
 (some (0,0,0,false,70))
 (br (!a9_1)
 (some (0,0,0,false,70))
 (br (Int.ofNat a1_0 != 4)
 (some (0,0,0,false,70))
 (some (0,a9_0,a8,false,0))))))
 (none))
 (none))
 (none))
 (br (inB 0 a1_0)
 (br (inB 1 a1_0)
 (ob (qGC (List.getD a1_6 0 0) (List.getD a1_6 1 0)) fun (a8_0,a8_1)=>
 br (inB 2 a1_0)
 (br (inB 3 a1_0)
 (ob (qGC (List.getD a1_6 2 0) (List.getD a1_6 3 0)) fun (a10_0,a10_1)=>
 br (!a8_1)
 (some (0,0,0,false,70))
 (br (!a10_1)
 (some (0,0,0,false,70))
 (br (a8_0==a10_0)
 (some (0,0,0,false,70))
 (br (Int.ofNat a1_0==5)
 (br (inB 4 a1_0)
 (br (List.getD a1_6 4 0 != 43)
 (some (0,0,0,false,70))
 (some (a8_0,a10_0,0,Int.ofNat a1_0==5,0)))
 (none))
 (some (a8_0,a10_0,0,Int.ofNat a1_0==5,0))))))
 (none))
 (none))
 (none))
 (none)))
 (none)))
 (none)
def qFp (x0:Int):Option (Int):=
 br (x0==1)
 (some (100))
 (br (x0==2)
 (some (300))
 (br (x0==3)
 (some (350))
 (br (x0==4)
 (some (500))
 (br (x0==5)
 (some (550))
 (br (x0==12)
 (some (550))
 (br (x0==11)
 (some (550))
 (br (x0==10)
 (some (550))
 (br (x0==9)
 (some (600))
 (br (x0==6)
 (some (850))
 (br (x0==7)
 (some (950))
 (br (x0==14)
 (some (1100))
 (br (x0==15)
 (some (1250))
 (some (0))))))))))))))
def qMh (x0:Int):Option (Int):=
 some (bif false then bif decide (IntKind.wrap .i64 (4 - x0)<IntKind.wrap .i64 (x0 - 4)) then IntKind.wrap .i64 (4 - x0) else IntKind.wrap .i64 (x0 - 4) else bif decide (IntKind.wrap .i64 (4 - x0)>IntKind.wrap .i64 (x0 - 4)) then IntKind.wrap .i64 (4 - x0) else IntKind.wrap .i64 (x0 - 4))
def qIa (x0:Int):Option (Int):=
 br (decide (x0<0))
 (some (0))
 (br (decide (x0 >= 81))
 (some (0))
 (ob (qFd x0) fun a1=>
 ob (qMh a1) fun a2=>
 ob (qEY x0) fun a3=>
 ob (qMh a3) fun a4=>
 some (IntKind.wrap .i64 (4 - bif false then bif decide (a4<a2) then a4 else a2 else bif decide (a4>a2) then a4 else a2))))
def qKA (x0:Int):Option (Int):=
 br (decide (x0<1))
 (some (0))
 (br (decide (x0 >= 8))
 (some (0))
 (ob (qFp x0) fun a1=>
 ob (qFp x0) fun a2=>
 some (IntKind.wrap .i64 (a1+IntKind.wrap .i64 (Int.tdiv a2 10)))))
def qMg (rec:List Int->Int->List Int->List Int->Int->List Int->Option (List Int×List Int×Int×List Int)) (x0:List Int) (x1:Int) (x2 x3:List Int) (x4:Int) (x5:List Int):Option (List Int×List Int×Int×List Int):=
 br (decide (x1<81))
 (br (inB x1 81)
 (ob (qAQ (List.getD x0 (bif true then Int.toNat x1 else Int.toNat x1*1) 0)) fun a9=>
 br (decide (a9 >= 0))
 (ob (qAC (List.getD x0 (bif true then Int.toNat x1 else Int.toNat x1*1) 0)) fun a10=>
 br (a10 != 8)
 (br (inB a9 2)
 (ob (qAC (List.getD x0 (bif true then Int.toNat x1 else Int.toNat x1*1) 0)) fun a11=>
 ob (qFp a11) fun a12=>
 ob (qIa x1) fun a13=>
 br (inB a9 2)
 (rec x0 (IntKind.wrap .i64 (x1+1)) x2 x3 x4 (List.set x5 (Int.toNat a9) (IntKind.wrap .i64 (List.getD x5 (Int.toNat a9) 0+IntKind.wrap .i64 (a12+a13)))))
 (none))
 (none))
 (rec x0 (IntKind.wrap .i64 (x1+1)) x2 x3 x4 x5))
 (rec x0 (IntKind.wrap .i64 (x1+1)) x2 x3 x4 x5))
 (none))
 (some (x2,x3,x4,x5))
def qB2:Nat->List Int->Int->List Int->List Int->Int->List Int->Option (List Int×List Int×Int×List Int)
 | 0,_,_,_,_,_,_=>none
 | f+1,x0,x1,x2,x3,x4,x5=>qMg (qB2 f) x0 x1 x2 x3 x4 x5
def qMf (rec:Int->List Int->Int->List Int->Int->List Int->List Int->Int->List Int->Option (List Int×Int×List Int×List Int×Int×List Int)) (x0:Int) (x1:List Int) (x2:Int) (x3:List Int) (x4:Int) (x5 x6:List Int) (x7:Int) (x8:List Int):Option (List Int×Int×List Int×List Int×Int×List Int):=
 br (decide (x4<8))
 (br (inB x4 8)
 (br (inB x0 2)
 (ob (qKA x4) fun a22=>
 br (inB x0 2)
 (rec x0 x1 x2 x3 (IntKind.wrap .i64 (x4+1)) x5 x6 x7 (List.set x8 (Int.toNat x0) (IntKind.wrap .i64 (List.getD x8 (Int.toNat x0) 0+IntKind.wrap .i64 (conv .i8 .i64 (List.getD x3 (bif true then Int.toNat x4 else Int.toNat x4*1) 0)*a22)))))
 (none))
 (none))
 (none))
 (some (x1,x2,x5,x6,x7,x8))
def qCg:Nat->Int->List Int->Int->List Int->Int->List Int->List Int->Int->List Int->Option (List Int×Int×List Int×List Int×Int×List Int)
 | 0,_,_,_,_,_,_,_,_,_=>none
 | f+1,x0,x1,x2,x3,x4,x5,x6,x7,x8=>qMf (qCg f) x0 x1 x2 x3 x4 x5 x6 x7 x8
def qKB (rec:List Int->Int->List Int->List Int->Int->List Int->Option (List Int×List Int×Int×List Int)) (x0:List Int) (x1:Int) (x2 x3:List Int) (x4:Int) (x5:List Int):Option (List Int×List Int×Int×List Int):=
 br (decide (x1<2))
 (br (inB x1 2)
 (ob (qCg qC x1 x0 x1 (List.take 8 (List.drop (Nat.add (Nat.mul (Int.toNat x1) 7) (Int.toNat x1)) x0)) 0 x2 x3 x4 x5) fun (a13_0,a13_1,a13_2,a13_3,a13_4,a13_5)=>
 rec a13_0 (IntKind.wrap .i64 (a13_1+1)) a13_2 a13_3 a13_4 a13_5)
 (none))
 (some (x2,x3,x4,x5))
def qFo:Nat->List Int->Int->List Int->List Int->Int->List Int->Option (List Int×List Int×Int×List Int)
 | 0,_,_,_,_,_,_=>none
 | f+1,x0,x1,x2,x3,x4,x5=>qKB (qFo f) x0 x1 x2 x3 x4 x5
def qIZ (x0 x1:List Int) (x2:Int):Option (Int):=
 ob (qB2 qC x0 0 x0 x1 x2 ([0,0])) fun (a3_0,a3_1,a3_2,a3_3)=>
 ob (qFo qC a3_1 0 a3_0 a3_1 a3_2 a3_3) fun (_,_,a7_2,a7_3)=>
 br (a7_2==1)
 (some (IntKind.wrap .i64 (List.getD a7_3 1 0 - List.getD a7_3 0 0)))
 (some (IntKind.wrap .i64 (List.getD a7_3 0 0 - List.getD a7_3 1 0)))
def qFa (x0 x1:Int):Option (Int):=
 br (decide (x0>27000))
 (some (IntKind.wrap .i64 (x0+x1)))
 (br (decide (x0 < -27000))
 (some (IntKind.wrap .i64 (x0 - x1)))
 (some (x0)))
def qMT (rec:Nat->Int->Int->Nat->List (List Int)->Int->Int->Int->Bool->Option ((Int×Nat×List (List Int))⊕(Nat×List (List Int)))) (x0:Nat) (x1 x2:Int) (x3:Nat) (x4:List (List Int)) (x5 x6 x7:Int) (x8:Bool):Option ((Int×Nat×List (List Int))⊕(Nat×List (List Int))):=
 br (decide (x2<x1))
 (br (inB x2 x0)
 (br (x5==List.headD (List.take 4 (List.getD x4 (Int.toNat x2) [])) 0&&(x6==List.headD (List.tail (List.take 4 (List.getD x4 (Int.toNat x2) []))) 0&&(x7==List.headD (List.tail (List.tail (List.take 4 (List.getD x4 (Int.toNat x2) [])))) 0&&x8==(List.headD (List.tail (List.tail (List.tail (List.take 4 (List.getD x4 (Int.toNat x2) []))))) 0 != 0))))
 (some (.inl (x2,x3,x4)))
 (rec x0 x1 (IntKind.wrap .i64 (x2+1)) x3 x4 x5 x6 x7 x8))
 (none))
 (some (.inr (x3,x4)))
def qDy:Nat->Nat->Int->Int->Nat->List (List Int)->Int->Int->Int->Bool->Option ((Int×Nat×List (List Int))⊕(Nat×List (List Int)))
 | 0,_,_,_,_,_,_,_,_,_=>none
 | f+1,x0,x1,x2,x3,x4,x5,x6,x7,x8=>qMT (qDy f) x0 x1 x2 x3 x4 x5 x6 x7 x8
def qIP (x0:Nat) (x1 x2 x3:Int) (x4:Bool) (x5:Nat) (x6:List (List Int)):Option (Int):=
 ob (qDy qC x0 (Int.ofNat x0) 0 x5 x6 x1 x2 x3 x4) fun t7_2=>
 sw t7_2 (fun (a7_0,_,_)=>
 some (a7_0))
 (fun (_,_)=>
 some (-1))
def qL8 (self:Int->Int->Int->Int->Int->Int->Nat->Int->Int->Nat->Nat->List (List Int)->List Int->List Int->Int->List (List Int)->List (List Int)->Nat->List (List Int)->Option ((Int×Nat×Bool×Int×Int×Nat×Int×Int×Nat×Nat×List (List Int)×List Int×List Int×Int×List (List Int)×List (List Int)×Nat×List (List Int)×Nat×List (List Int))⊕(Int×Nat×Bool×Int×Int×Nat×Int×Int×Nat×Nat×List (List Int)×List Int×List Int×Int×List (List Int)×List (List Int)×Nat×List (List Int)×Nat×List (List Int)))) (rec:Int->Int->Int->Int->Int->Nat->Int->Nat->Int->Int->Int->Int->Nat->Int->Int->Nat->Nat->List (List Int)->List Int->List Int->Int->List (List Int)->List (List Int)->Nat->List (List Int)->Nat->List (List Int)->Nat->List (List Int)->Option ((Int×Int×Int×Int×Int×Nat×Bool×Int×Nat×Int×Int×Nat×Int×Int×Nat×Nat×List (List Int)×List Int×List Int×Int×List (List Int)×List (List Int)×Nat×List (List Int)×Nat×List (List Int)×Nat×List (List Int))⊕(Int×Int×Int×Int×Int×Nat×Int×Int×Nat×Int×Int×Nat×Nat×List (List Int)×List Int×List Int×Int×List (List Int)×List (List Int)×Nat×List (List Int)×Nat×List (List Int)))) (x0 x1:Int) (x2 x3 x4:Int) (x5:Nat) (x6:Int) (x7:Nat) (x8 x9:Int) (x10 x11:Int) (x12:Nat) (x13 x14:Int) (x15 x16:Nat) (x17:List (List Int)) (x18 x19:List Int) (x20:Int) (x21 x22:List (List Int)) (x23:Nat) (x24:List (List Int)) (x25:Nat) (x26:List (List Int)) (x27:Nat) (x28:List (List Int)):Option ((Int×Int×Int×Int×Int×Nat×Bool×Int×Nat×Int×Int×Nat×Int×Int×Nat×Nat×List (List Int)×List Int×List Int×Int×List (List Int)×List (List Int)×Nat×List (List Int)×Nat×List (List Int)×Nat×List (List Int))⊕(Int×Int×Int×Int×Int×Nat×Int×Int×Nat×Int×Int×Nat×Nat×List (List Int)×List Int×List Int×Int×List (List Int)×List (List Int)×Nat×List (List Int)×Nat×List (List Int))):=
 br (decide (x9<x8))
 (br (inB x9 x7)
 (ob (qEw (List.headD (List.take 4 (List.getD x28 (Int.toNat x9) [])) 0) (List.headD (List.tail (List.take 4 (List.getD x28 (Int.toNat x9) []))) 0) (List.headD (List.tail (List.tail (List.take 4 (List.getD x28 (Int.toNat x9) [])))) 0) (List.headD (List.tail (List.tail (List.tail (List.take 4 (List.getD x28 (Int.toNat x9) []))))) 0 != 0) x14 x15 x18 x19 x20 x21 x22 x23 x24) fun t66_2=>
 sw t66_2 (fun (_,a66_1,a66_2,a66_3,a66_4,a66_5,a66_6,a66_7,a66_8,a66_9)=>
 ob (self (IntKind.wrap .i64 (x0 - 1)) (IntKind.wrap .i64 (x1+1)) (IntKind.wrap .i64 (0 - x3)) (IntKind.wrap .i64 (0 - x6)) x10 x11 x12 x13 a66_1 a66_2 x16 x17 a66_3 a66_4 a66_5 a66_6 a66_7 a66_8 a66_9) fun t76_2=>
 sw t76_2 (fun (a76_0,a76_1,a76_2,a76_3,a76_4,a76_5,a76_6,a76_7,a76_8,a76_9,a76_10,a76_11,a76_12,a76_13,a76_14,a76_15,a76_16,a76_17,_,a76_19)=>
 ob (qED a76_7 a76_8 a76_11 a76_12 a76_13 a76_14 a76_15 a76_16 a76_17) fun (_,a96_1,a96_2,a96_3,a96_4,a96_5,a96_6,a96_7,a96_8,a96_9)=>
 br (!a76_2)
 (some (.inl (x0,x1,x2,x3,0,0,false,x4,x5,a76_3,a76_4,a76_5,a76_6,a96_1,a96_2,a76_9,a76_10,a96_3,a96_4,a96_5,a96_6,a96_7,a96_8,a96_9,0,[],x25,x26)))
 (br (decide (IntKind.wrap .i64 (0 - a76_0)>x4))
 (br (decide ((1+a76_1)*32<=140737488355328))
 (br (decide ((bif false then bif decide (IntKind.wrap .i64 (0 - a76_0)<x6) then IntKind.wrap .i64 (0 - a76_0) else x6 else bif decide (IntKind.wrap .i64 (0 - a76_0)>x6) then IntKind.wrap .i64 (0 - a76_0) else x6) >= x3))
 (some (.inr (x0,x1,x2,x3,IntKind.wrap .i64 (0 - a76_0),1+a76_1,a76_3,a76_4,a76_5,a76_6,a96_1,a96_2,a76_9,a76_10,a96_3,a96_4,a96_5,a96_6,a96_7,a96_8,a96_9,1+a76_1,[List.headD (List.take 4 (List.getD x28 (Int.toNat x9) [])) 0,List.headD (List.tail (List.take 4 (List.getD x28 (Int.toNat x9) []))) 0,List.headD (List.tail (List.tail (List.take 4 (List.getD x28 (Int.toNat x9) [])))) 0,bi (List.headD (List.tail (List.tail (List.tail (List.take 4 (List.getD x28 (Int.toNat x9) []))))) 0 != 0)] :: List.take a76_1 a76_19)))
 (rec x0 x1 x2 x3 (IntKind.wrap .i64 (0 - a76_0)) (1+a76_1) (bif false then bif decide (IntKind.wrap .i64 (0 - a76_0)<x6) then IntKind.wrap .i64 (0 - a76_0) else x6 else bif decide (IntKind.wrap .i64 (0 - a76_0)>x6) then IntKind.wrap .i64 (0 - a76_0) else x6) x7 x8 (IntKind.wrap .i64 (x9+1)) a76_3 a76_4 a76_5 a76_6 a96_1 a96_2 a76_9 a76_10 a96_3 a96_4 a96_5 a96_6 a96_7 a96_8 a96_9 (1+a76_1) ([List.headD (List.take 4 (List.getD x28 (Int.toNat x9) [])) 0,List.headD (List.tail (List.take 4 (List.getD x28 (Int.toNat x9) []))) 0,List.headD (List.tail (List.tail (List.take 4 (List.getD x28 (Int.toNat x9) [])))) 0,bi (List.headD (List.tail (List.tail (List.tail (List.take 4 (List.getD x28 (Int.toNat x9) []))))) 0 != 0)] :: List.take a76_1 a76_19) x27 x28))
 (none))
 (br (decide ((bif false then bif decide (x4<x6) then x4 else x6 else bif decide (x4>x6) then x4 else x6) >= x3))
 (some (.inr (x0,x1,x2,x3,x4,x5,a76_3,a76_4,a76_5,a76_6,a96_1,a96_2,a76_9,a76_10,a96_3,a96_4,a96_5,a96_6,a96_7,a96_8,a96_9,x25,x26)))
 (rec x0 x1 x2 x3 x4 x5 (bif false then bif decide (x4<x6) then x4 else x6 else bif decide (x4>x6) then x4 else x6) x7 x8 (IntKind.wrap .i64 (x9+1)) a76_3 a76_4 a76_5 a76_6 a96_1 a96_2 a76_9 a76_10 a96_3 a96_4 a96_5 a96_6 a96_7 a96_8 a96_9 x25 x26 x27 x28))))
 (fun (a76_0,a76_1,a76_2,a76_3,a76_4,a76_5,a76_6,a76_7,a76_8,a76_9,a76_10,a76_11,a76_12,a76_13,a76_14,a76_15,a76_16,a76_17,_,a76_19)=>
 ob (qED a76_7 a76_8 a76_11 a76_12 a76_13 a76_14 a76_15 a76_16 a76_17) fun (_,a96_1,a96_2,a96_3,a96_4,a96_5,a96_6,a96_7,a96_8,a96_9)=>
 br (!a76_2)
 (some (.inl (x0,x1,x2,x3,0,0,false,x4,x5,a76_3,a76_4,a76_5,a76_6,a96_1,a96_2,a76_9,a76_10,a96_3,a96_4,a96_5,a96_6,a96_7,a96_8,a96_9,0,[],x25,x26)))
 (br (decide (IntKind.wrap .i64 (0 - a76_0)>x4))
 (br (decide ((1+a76_1)*32<=140737488355328))
 (br (decide ((bif false then bif decide (IntKind.wrap .i64 (0 - a76_0)<x6) then IntKind.wrap .i64 (0 - a76_0) else x6 else bif decide (IntKind.wrap .i64 (0 - a76_0)>x6) then IntKind.wrap .i64 (0 - a76_0) else x6) >= x3))
 (some (.inr (x0,x1,x2,x3,IntKind.wrap .i64 (0 - a76_0),1+a76_1,a76_3,a76_4,a76_5,a76_6,a96_1,a96_2,a76_9,a76_10,a96_3,a96_4,a96_5,a96_6,a96_7,a96_8,a96_9,1+a76_1,[List.headD (List.take 4 (List.getD x28 (Int.toNat x9) [])) 0,List.headD (List.tail (List.take 4 (List.getD x28 (Int.toNat x9) []))) 0,List.headD (List.tail (List.tail (List.take 4 (List.getD x28 (Int.toNat x9) [])))) 0,bi (List.headD (List.tail (List.tail (List.tail (List.take 4 (List.getD x28 (Int.toNat x9) []))))) 0 != 0)] :: List.take a76_1 a76_19)))
 (rec x0 x1 x2 x3 (IntKind.wrap .i64 (0 - a76_0)) (1+a76_1) (bif false then bif decide (IntKind.wrap .i64 (0 - a76_0)<x6) then IntKind.wrap .i64 (0 - a76_0) else x6 else bif decide (IntKind.wrap .i64 (0 - a76_0)>x6) then IntKind.wrap .i64 (0 - a76_0) else x6) x7 x8 (IntKind.wrap .i64 (x9+1)) a76_3 a76_4 a76_5 a76_6 a96_1 a96_2 a76_9 a76_10 a96_3 a96_4 a96_5 a96_6 a96_7 a96_8 a96_9 (1+a76_1) ([List.headD (List.take 4 (List.getD x28 (Int.toNat x9) [])) 0,List.headD (List.tail (List.take 4 (List.getD x28 (Int.toNat x9) []))) 0,List.headD (List.tail (List.tail (List.take 4 (List.getD x28 (Int.toNat x9) [])))) 0,bi (List.headD (List.tail (List.tail (List.tail (List.take 4 (List.getD x28 (Int.toNat x9) []))))) 0 != 0)] :: List.take a76_1 a76_19) x27 x28))
 (none))
 (br (decide ((bif false then bif decide (x4<x6) then x4 else x6 else bif decide (x4>x6) then x4 else x6) >= x3))
 (some (.inr (x0,x1,x2,x3,x4,x5,a76_3,a76_4,a76_5,a76_6,a96_1,a96_2,a76_9,a76_10,a96_3,a96_4,a96_5,a96_6,a96_7,a96_8,a96_9,x25,x26)))
 (rec x0 x1 x2 x3 x4 x5 (bif false then bif decide (x4<x6) then x4 else x6 else bif decide (x4>x6) then x4 else x6) x7 x8 (IntKind.wrap .i64 (x9+1)) a76_3 a76_4 a76_5 a76_6 a96_1 a96_2 a76_9 a76_10 a96_3 a96_4 a96_5 a96_6 a96_7 a96_8 a96_9 x25 x26 x27 x28)))))
 (fun (_,a66_1,a66_2,a66_3,a66_4,a66_5,a66_6,a66_7,a66_8,a66_9)=>
 ob (self (IntKind.wrap .i64 (x0 - 1)) (IntKind.wrap .i64 (x1+1)) (IntKind.wrap .i64 (0 - x3)) (IntKind.wrap .i64 (0 - x6)) x10 x11 x12 x13 a66_1 a66_2 x16 x17 a66_3 a66_4 a66_5 a66_6 a66_7 a66_8 a66_9) fun t76_2=>
 sw t76_2 (fun (a76_0,a76_1,a76_2,a76_3,a76_4,a76_5,a76_6,a76_7,a76_8,a76_9,a76_10,a76_11,a76_12,a76_13,a76_14,a76_15,a76_16,a76_17,_,a76_19)=>
 ob (qED a76_7 a76_8 a76_11 a76_12 a76_13 a76_14 a76_15 a76_16 a76_17) fun (_,a96_1,a96_2,a96_3,a96_4,a96_5,a96_6,a96_7,a96_8,a96_9)=>
 br (!a76_2)
 (some (.inl (x0,x1,x2,x3,0,0,false,x4,x5,a76_3,a76_4,a76_5,a76_6,a96_1,a96_2,a76_9,a76_10,a96_3,a96_4,a96_5,a96_6,a96_7,a96_8,a96_9,0,[],x25,x26)))
 (br (decide (IntKind.wrap .i64 (0 - a76_0)>x4))
 (br (decide ((1+a76_1)*32<=140737488355328))
 (br (decide ((bif false then bif decide (IntKind.wrap .i64 (0 - a76_0)<x6) then IntKind.wrap .i64 (0 - a76_0) else x6 else bif decide (IntKind.wrap .i64 (0 - a76_0)>x6) then IntKind.wrap .i64 (0 - a76_0) else x6) >= x3))
 (some (.inr (x0,x1,x2,x3,IntKind.wrap .i64 (0 - a76_0),1+a76_1,a76_3,a76_4,a76_5,a76_6,a96_1,a96_2,a76_9,a76_10,a96_3,a96_4,a96_5,a96_6,a96_7,a96_8,a96_9,1+a76_1,[List.headD (List.take 4 (List.getD x28 (Int.toNat x9) [])) 0,List.headD (List.tail (List.take 4 (List.getD x28 (Int.toNat x9) []))) 0,List.headD (List.tail (List.tail (List.take 4 (List.getD x28 (Int.toNat x9) [])))) 0,bi (List.headD (List.tail (List.tail (List.tail (List.take 4 (List.getD x28 (Int.toNat x9) []))))) 0 != 0)] :: List.take a76_1 a76_19)))
 (rec x0 x1 x2 x3 (IntKind.wrap .i64 (0 - a76_0)) (1+a76_1) (bif false then bif decide (IntKind.wrap .i64 (0 - a76_0)<x6) then IntKind.wrap .i64 (0 - a76_0) else x6 else bif decide (IntKind.wrap .i64 (0 - a76_0)>x6) then IntKind.wrap .i64 (0 - a76_0) else x6) x7 x8 (IntKind.wrap .i64 (x9+1)) a76_3 a76_4 a76_5 a76_6 a96_1 a96_2 a76_9 a76_10 a96_3 a96_4 a96_5 a96_6 a96_7 a96_8 a96_9 (1+a76_1) ([List.headD (List.take 4 (List.getD x28 (Int.toNat x9) [])) 0,List.headD (List.tail (List.take 4 (List.getD x28 (Int.toNat x9) []))) 0,List.headD (List.tail (List.tail (List.take 4 (List.getD x28 (Int.toNat x9) [])))) 0,bi (List.headD (List.tail (List.tail (List.tail (List.take 4 (List.getD x28 (Int.toNat x9) []))))) 0 != 0)] :: List.take a76_1 a76_19) x27 x28))
 (none))
 (br (decide ((bif false then bif decide (x4<x6) then x4 else x6 else bif decide (x4>x6) then x4 else x6) >= x3))
 (some (.inr (x0,x1,x2,x3,x4,x5,a76_3,a76_4,a76_5,a76_6,a96_1,a96_2,a76_9,a76_10,a96_3,a96_4,a96_5,a96_6,a96_7,a96_8,a96_9,x25,x26)))
 (rec x0 x1 x2 x3 x4 x5 (bif false then bif decide (x4<x6) then x4 else x6 else bif decide (x4>x6) then x4 else x6) x7 x8 (IntKind.wrap .i64 (x9+1)) a76_3 a76_4 a76_5 a76_6 a96_1 a96_2 a76_9 a76_10 a96_3 a96_4 a96_5 a96_6 a96_7 a96_8 a96_9 x25 x26 x27 x28))))
 (fun (a76_0,a76_1,a76_2,a76_3,a76_4,a76_5,a76_6,a76_7,a76_8,a76_9,a76_10,a76_11,a76_12,a76_13,a76_14,a76_15,a76_16,a76_17,_,a76_19)=>
 ob (qED a76_7 a76_8 a76_11 a76_12 a76_13 a76_14 a76_15 a76_16 a76_17) fun (_,a96_1,a96_2,a96_3,a96_4,a96_5,a96_6,a96_7,a96_8,a96_9)=>
 br (!a76_2)
 (some (.inl (x0,x1,x2,x3,0,0,false,x4,x5,a76_3,a76_4,a76_5,a76_6,a96_1,a96_2,a76_9,a76_10,a96_3,a96_4,a96_5,a96_6,a96_7,a96_8,a96_9,0,[],x25,x26)))
 (br (decide (IntKind.wrap .i64 (0 - a76_0)>x4))
 (br (decide ((1+a76_1)*32<=140737488355328))
 (br (decide ((bif false then bif decide (IntKind.wrap .i64 (0 - a76_0)<x6) then IntKind.wrap .i64 (0 - a76_0) else x6 else bif decide (IntKind.wrap .i64 (0 - a76_0)>x6) then IntKind.wrap .i64 (0 - a76_0) else x6) >= x3))
 (some (.inr (x0,x1,x2,x3,IntKind.wrap .i64 (0 - a76_0),1+a76_1,a76_3,a76_4,a76_5,a76_6,a96_1,a96_2,a76_9,a76_10,a96_3,a96_4,a96_5,a96_6,a96_7,a96_8,a96_9,1+a76_1,[List.headD (List.take 4 (List.getD x28 (Int.toNat x9) [])) 0,List.headD (List.tail (List.take 4 (List.getD x28 (Int.toNat x9) []))) 0,List.headD (List.tail (List.tail (List.take 4 (List.getD x28 (Int.toNat x9) [])))) 0,bi (List.headD (List.tail (List.tail (List.tail (List.take 4 (List.getD x28 (Int.toNat x9) []))))) 0 != 0)] :: List.take a76_1 a76_19)))
 (rec x0 x1 x2 x3 (IntKind.wrap .i64 (0 - a76_0)) (1+a76_1) (bif false then bif decide (IntKind.wrap .i64 (0 - a76_0)<x6) then IntKind.wrap .i64 (0 - a76_0) else x6 else bif decide (IntKind.wrap .i64 (0 - a76_0)>x6) then IntKind.wrap .i64 (0 - a76_0) else x6) x7 x8 (IntKind.wrap .i64 (x9+1)) a76_3 a76_4 a76_5 a76_6 a96_1 a96_2 a76_9 a76_10 a96_3 a96_4 a96_5 a96_6 a96_7 a96_8 a96_9 (1+a76_1) ([List.headD (List.take 4 (List.getD x28 (Int.toNat x9) [])) 0,List.headD (List.tail (List.take 4 (List.getD x28 (Int.toNat x9) []))) 0,List.headD (List.tail (List.tail (List.take 4 (List.getD x28 (Int.toNat x9) [])))) 0,bi (List.headD (List.tail (List.tail (List.tail (List.take 4 (List.getD x28 (Int.toNat x9) []))))) 0 != 0)] :: List.take a76_1 a76_19) x27 x28))
 (none))
 (br (decide ((bif false then bif decide (x4<x6) then x4 else x6 else bif decide (x4>x6) then x4 else x6) >= x3))
 (some (.inr (x0,x1,x2,x3,x4,x5,a76_3,a76_4,a76_5,a76_6,a96_1,a96_2,a76_9,a76_10,a96_3,a96_4,a96_5,a96_6,a96_7,a96_8,a96_9,x25,x26)))
 (rec x0 x1 x2 x3 x4 x5 (bif false then bif decide (x4<x6) then x4 else x6 else bif decide (x4>x6) then x4 else x6) x7 x8 (IntKind.wrap .i64 (x9+1)) a76_3 a76_4 a76_5 a76_6 a96_1 a96_2 a76_9 a76_10 a96_3 a96_4 a96_5 a96_6 a96_7 a96_8 a96_9 x25 x26 x27 x28))))))
 (none))
 (some (.inr (x0,x1,x2,x3,x4,x5,x10,x11,x12,x13,x14,x15,x16,x17,x18,x19,x20,x21,x22,x23,x24,x25,x26)))
def qCc (self:Int->Int->Int->Int->Int->Int->Nat->Int->Int->Nat->Nat->List (List Int)->List Int->List Int->Int->List (List Int)->List (List Int)->Nat->List (List Int)->Option ((Int×Nat×Bool×Int×Int×Nat×Int×Int×Nat×Nat×List (List Int)×List Int×List Int×Int×List (List Int)×List (List Int)×Nat×List (List Int)×Nat×List (List Int))⊕(Int×Nat×Bool×Int×Int×Nat×Int×Int×Nat×Nat×List (List Int)×List Int×List Int×Int×List (List Int)×List (List Int)×Nat×List (List Int)×Nat×List (List Int)))):Nat->Int->Int->Int->Int->Int->Nat->Int->Nat->Int->Int->Int->Int->Nat->Int->Int->Nat->Nat->List (List Int)->List Int->List Int->Int->List (List Int)->List (List Int)->Nat->List (List Int)->Nat->List (List Int)->Nat->List (List Int)->Option ((Int×Int×Int×Int×Int×Nat×Bool×Int×Nat×Int×Int×Nat×Int×Int×Nat×Nat×List (List Int)×List Int×List Int×Int×List (List Int)×List (List Int)×Nat×List (List Int)×Nat×List (List Int)×Nat×List (List Int))⊕(Int×Int×Int×Int×Int×Nat×Int×Int×Nat×Int×Int×Nat×Nat×List (List Int)×List Int×List Int×Int×List (List Int)×List (List Int)×Nat×List (List Int)×Nat×List (List Int)))
 | 0,_,_,_,_,_,_,_,_,_,_,_,_,_,_,_,_,_,_,_,_,_,_,_,_,_,_,_,_,_=>none
 | f+1,x0,x1,x2,x3,x4,x5,x6,x7,x8,x9,x10,x11,x12,x13,x14,x15,x16,x17,x18,x19,x20,x21,x22,x23,x24,x25,x26,x27,x28=>qL8 self (qCc self f) x0 x1 x2 x3 x4 x5 x6 x7 x8 x9 x10 x11 x12 x13 x14 x15 x16 x17 x18 x19 x20 x21 x22 x23 x24 x25 x26 x27 x28
def qHa (self:Int->Int->Int->Int->Int->Int->Nat->Int->Int->Nat->Nat->List (List Int)->List Int->List Int->Int->List (List Int)->List (List Int)->Nat->List (List Int)->Option ((Int×Nat×Bool×Int×Int×Nat×Int×Int×Nat×Nat×List (List Int)×List Int×List Int×Int×List (List Int)×List (List Int)×Nat×List (List Int)×Nat×List (List Int))⊕(Int×Nat×Bool×Int×Int×Nat×Int×Int×Nat×Nat×List (List Int)×List Int×List Int×Int×List (List Int)×List (List Int)×Nat×List (List Int)×Nat×List (List Int)))) (x0 x1:Int) (x2 x3:Int) (x4 x5:Int) (x6:Nat) (x7 x8:Int) (x9 x10:Nat) (x11:List (List Int)) (x12 x13:List Int) (x14:Int) (x15 x16:List (List Int)) (x17:Nat) (x18:List (List Int)) (ln ln2:Nat) (M:List (List Int)):Option ((Int×Nat×Bool×Int×Int×Nat×Int×Int×Nat×Nat×List (List Int)×List Int×List Int×Int×List (List Int)×List (List Int)×Nat×List (List Int)×Nat×List (List Int))⊕(Int×Nat×Bool×Int×Int×Nat×Int×Int×Nat×Nat×List (List Int)×List Int×List Int×Int×List (List Int)×List (List Int)×Nat×List (List Int)×Nat×List (List Int))):=
 (ob (qCc self qC x0 x1 x2 x3 (-60000) 0 x2 ln (Int.ofNat ln) 0 (IntKind.wrap .i64 (x4+1)) x5 x6 x7 x8 x9 x10 x11 x12 x13 x14 x15 x16 x17 x18 0 [] ln2 M) fun t37_2=>
 sw t37_2 (fun (_,_,_,_,a37_4,a37_5,a37_6,_,_,a37_9,a37_10,a37_11,a37_12,a37_13,a37_14,a37_15,a37_16,a37_17,a37_18,a37_19,a37_20,a37_21,a37_22,a37_23,a37_24,a37_25,_,_)=>
 some (.inr (a37_4,a37_5,a37_6,a37_9,a37_10,a37_11,a37_12,a37_13,a37_14,a37_15,a37_16,a37_17,a37_18,a37_19,a37_20,a37_21,a37_22,a37_23,a37_24,a37_25)))
 (fun (a37_0,a37_1,a37_2,a37_3,a37_4,a37_5,a37_6,a37_7,a37_8,a37_9,a37_10,a37_11,a37_12,a37_13,a37_14,a37_15,a37_16,a37_17,a37_18,a37_19,a37_20,a37_21,a37_22)=>
 ob (qFa a37_4 a37_1) fun a60=>
 br (inB 0 a37_5)
 (br (decide (a37_4 >= a37_3))
 (ob (qD2 a37_14 a37_15 a37_16 a37_0 a60 1 (List.headD (List.take 4 (List.getD a37_22 0 [])) 0) (List.headD (List.tail (List.take 4 (List.getD a37_22 0 []))) 0) (List.headD (List.tail (List.tail (List.take 4 (List.getD a37_22 0 [])))) 0) (List.headD (List.tail (List.tail (List.tail (List.take 4 (List.getD a37_22 0 []))))) 0 != 0) a37_8 a37_9 a37_12 a37_13) fun (a61_0,a61_1,a61_2,a61_3)=>
 some (.inr (a37_4,a37_5,true,a37_6,a37_7,a61_0,a61_1,a37_10,a37_11,a61_2,a61_3,a37_14,a37_15,a37_16,a37_17,a37_18,a37_19,a37_20,a37_21,a37_22)))
 (br (decide (a37_4<=a37_2))
 (ob (qD2 a37_14 a37_15 a37_16 a37_0 a60 2 (List.headD (List.take 4 (List.getD a37_22 0 [])) 0) (List.headD (List.tail (List.take 4 (List.getD a37_22 0 []))) 0) (List.headD (List.tail (List.tail (List.take 4 (List.getD a37_22 0 [])))) 0) (List.headD (List.tail (List.tail (List.tail (List.take 4 (List.getD a37_22 0 []))))) 0 != 0) a37_8 a37_9 a37_12 a37_13) fun (a61_0,a61_1,a61_2,a61_3)=>
 some (.inr (a37_4,a37_5,true,a37_6,a37_7,a61_0,a61_1,a37_10,a37_11,a61_2,a61_3,a37_14,a37_15,a37_16,a37_17,a37_18,a37_19,a37_20,a37_21,a37_22)))
 (ob (qD2 a37_14 a37_15 a37_16 a37_0 a60 0 (List.headD (List.take 4 (List.getD a37_22 0 [])) 0) (List.headD (List.tail (List.take 4 (List.getD a37_22 0 []))) 0) (List.headD (List.tail (List.tail (List.take 4 (List.getD a37_22 0 [])))) 0) (List.headD (List.tail (List.tail (List.tail (List.take 4 (List.getD a37_22 0 []))))) 0 != 0) a37_8 a37_9 a37_12 a37_13) fun (a61_0,a61_1,a61_2,a61_3)=>
 some (.inr (a37_4,a37_5,true,a37_6,a37_7,a61_0,a61_1,a37_10,a37_11,a61_2,a61_3,a37_14,a37_15,a37_16,a37_17,a37_18,a37_19,a37_20,a37_21,a37_22)))))
 (none)))
def qCC (self:Int->Int->Int->Int->Int->Int->Nat->Int->Int->Nat->Nat->List (List Int)->List Int->List Int->Int->List (List Int)->List (List Int)->Nat->List (List Int)->Option ((Int×Nat×Bool×Int×Int×Nat×Int×Int×Nat×Nat×List (List Int)×List Int×List Int×Int×List (List Int)×List (List Int)×Nat×List (List Int)×Nat×List (List Int))⊕(Int×Nat×Bool×Int×Int×Nat×Int×Int×Nat×Nat×List (List Int)×List Int×List Int×Int×List (List Int)×List (List Int)×Nat×List (List Int)×Nat×List (List Int)))) (x0 x1:Int) (x2 x3:Int) (x4 x5:Int) (x6:Nat) (x7 x8:Int) (x9 x10:Nat) (x11:List (List Int)) (x12 x13:List Int) (x14:Int) (x15 x16:List (List Int)) (x17:Nat) (x18:List (List Int)) (ln ln2:Nat) (M:List (List Int)) (f t d:Int) (p:Bool):Option ((Int×Nat×Bool×Int×Int×Nat×Int×Int×Nat×Nat×List (List Int)×List Int×List Int×Int×List (List Int)×List (List Int)×Nat×List (List Int)×Nat×List (List Int))⊕(Int×Nat×Bool×Int×Int×Nat×Int×Int×Nat×Nat×List (List Int)×List Int×List Int×Int×List (List Int)×List (List Int)×Nat×List (List Int)×Nat×List (List Int))):=
 (ob (qIP ln f t d p ln2 M) fun a36=>
 br (decide (a36>0))
 (br (qEJ (IntKind.wrap .i64 (a36+1)) ln)
 (br (true&&decide (1<Int.ofNat (Int.toNat (IntKind.wrap .i64 (a36+1)))))
 (br (qEJ a36 ln)
 (br (inB 0 ln)
 (qHa self x0 x1 x2 x3 x4 x5 x6 x7 x8 x9 x10 x11 x12 x13 x14 x15 x16 x17 x18 ln ln2 (List.set (List.append (List.take 1 M) (List.append (List.take (Nat.min (Int.toNat a36 - 0) (Int.toNat (IntKind.wrap .i64 (a36+1)) - 1)) M) (List.drop (1+Nat.min (Int.toNat a36 - 0) (Int.toNat (IntKind.wrap .i64 (a36+1)) - 1)) M))) 0 (f :: t :: d :: bi p :: List.drop 4 (List.getD (List.append (List.take 1 M) (List.append (List.take (Nat.min (Int.toNat a36 - 0) (Int.toNat (IntKind.wrap .i64 (a36+1)) - 1)) M) (List.drop (1+Nat.min (Int.toNat a36 - 0) (Int.toNat (IntKind.wrap .i64 (a36+1)) - 1)) M))) 0 []))))
 (none))
 (none))
 (none))
 (none))
 (qHa self x0 x1 x2 x3 x4 x5 x6 x7 x8 x9 x10 x11 x12 x13 x14 x15 x16 x17 x18 ln ln2 M))
def qa1 (self:Int->Int->Int->Int->Int->Int->Nat->Int->Int->Nat->Nat->List (List Int)->List Int->List Int->Int->List (List Int)->List (List Int)->Nat->List (List Int)->Option ((Int×Nat×Bool×Int×Int×Nat×Int×Int×Nat×Nat×List (List Int)×List Int×List Int×Int×List (List Int)×List (List Int)×Nat×List (List Int)×Nat×List (List Int))⊕(Int×Nat×Bool×Int×Int×Nat×Int×Int×Nat×Nat×List (List Int)×List Int×List Int×Int×List (List Int)×List (List Int)×Nat×List (List Int)×Nat×List (List Int)))) (x0 x1:Int) (x2 x3:Int) (x4 x5:Int) (x6:Nat) (x7 x8:Int) (x9 x10:Nat) (x11:List (List Int)) (x12 x13:List Int) (x14:Int) (x15 x16:List (List Int)) (x17:Nat) (x18:List (List Int)):Option ((Int×Nat×Bool×Int×Int×Nat×Int×Int×Nat×Nat×List (List Int)×List Int×List Int×Int×List (List Int)×List (List Int)×Nat×List (List Int)×Nat×List (List Int))⊕(Int×Nat×Bool×Int×Int×Nat×Int×Int×Nat×Nat×List (List Int)×List Int×List Int×Int×List (List Int)×List (List Int)×Nat×List (List Int)×Nat×List (List Int))):=
 br (decide (x4 >= x5))
 (some (.inl (0,0,false,x4,x5,x6,x7,x8,x9,x10,x11,x12,x13,x14,x15,x16,x17,x18,0,[])))
 (ob (qDY x12 x13 x14 x15 x16) fun (a19_0,a19_1,a19_2,a19_3,a19_4,a19_5,a19_6,a19_7)=>
 br (Int.ofNat a19_0==0)
 (some (.inl (IntKind.wrap .i64 (x1 - 30000),0,true,IntKind.wrap .i64 (x4+1),x5,x6,x7,x8,x9,x10,x11,a19_1,a19_2,a19_3,a19_4,a19_5,x17,x18,0,[])))
 (br (x0==0)
 (ob (qIZ a19_1 a19_2 a19_3) fun a27=>
 some (.inl (a27,0,true,IntKind.wrap .i64 (x4+1),x5,x6,x7,x8,x9,x10,x11,a19_1,a19_2,a19_3,a19_4,a19_5,x17,x18,0,[])))
 (ob (qD1 a19_1 a19_2 a19_3 x6 x7 x10 x11) fun (a27_0,a27_1,a27_2,a27_3,a27_4,a27_5,a27_6,a27_7)=>
 br (a27_7)
 (ob (qFa a27_1 (IntKind.wrap .i64 (0 - x1))) fun a35=>
 br (a27_0==x0)
 (br (decide (x1>0))
 (br (a27_2==0)
 (some (.inl (a35,1,true,IntKind.wrap .i64 (x4+1),x5,x6,x7,x8,x9,x10,x11,a19_1,a19_2,a19_3,a19_4,a19_5,x17,x18,1,[[a27_3,a27_4,a27_5,bi a27_6]])))
 (br (a27_2==1)
 (br (decide (a35 >= x3))
 (some (.inl (a35,1,true,IntKind.wrap .i64 (x4+1),x5,x6,x7,x8,x9,x10,x11,a19_1,a19_2,a19_3,a19_4,a19_5,x17,x18,1,[[a27_3,a27_4,a27_5,bi a27_6]])))
 (br (a27_2==2)
 (br (decide (a35<=x2))
 (some (.inl (a35,1,true,IntKind.wrap .i64 (x4+1),x5,x6,x7,x8,x9,x10,x11,a19_1,a19_2,a19_3,a19_4,a19_5,x17,x18,1,[[a27_3,a27_4,a27_5,bi a27_6]])))
 (qCC self x0 x1 x2 x3 x4 x5 x6 x7 x8 x9 x10 x11 a19_1 a19_2 a19_3 a19_4 a19_5 x17 x18 a19_0 a19_6 a19_7 a27_3 a27_4 a27_5 a27_6))
 (qCC self x0 x1 x2 x3 x4 x5 x6 x7 x8 x9 x10 x11 a19_1 a19_2 a19_3 a19_4 a19_5 x17 x18 a19_0 a19_6 a19_7 a27_3 a27_4 a27_5 a27_6)))
 (br (a27_2==2)
 (br (decide (a35<=x2))
 (some (.inl (a35,1,true,IntKind.wrap .i64 (x4+1),x5,x6,x7,x8,x9,x10,x11,a19_1,a19_2,a19_3,a19_4,a19_5,x17,x18,1,[[a27_3,a27_4,a27_5,bi a27_6]])))
 (qCC self x0 x1 x2 x3 x4 x5 x6 x7 x8 x9 x10 x11 a19_1 a19_2 a19_3 a19_4 a19_5 x17 x18 a19_0 a19_6 a19_7 a27_3 a27_4 a27_5 a27_6))
 (qCC self x0 x1 x2 x3 x4 x5 x6 x7 x8 x9 x10 x11 a19_1 a19_2 a19_3 a19_4 a19_5 x17 x18 a19_0 a19_6 a19_7 a27_3 a27_4 a27_5 a27_6))))
 (qCC self x0 x1 x2 x3 x4 x5 x6 x7 x8 x9 x10 x11 a19_1 a19_2 a19_3 a19_4 a19_5 x17 x18 a19_0 a19_6 a19_7 a27_3 a27_4 a27_5 a27_6))
 (qCC self x0 x1 x2 x3 x4 x5 x6 x7 x8 x9 x10 x11 a19_1 a19_2 a19_3 a19_4 a19_5 x17 x18 a19_0 a19_6 a19_7 a27_3 a27_4 a27_5 a27_6))
 (qHa self x0 x1 x2 x3 x4 x5 x6 x7 x8 x9 x10 x11 a19_1 a19_2 a19_3 a19_4 a19_5 x17 x18 a19_0 a19_6 a19_7))))
def qBk:Nat->Int->Int->Int->Int->Int->Int->Nat->Int->Int->Nat->Nat->List (List Int)->List Int->List Int->Int->List (List Int)->List (List Int)->Nat->List (List Int)->Option ((Int×Nat×Bool×Int×Int×Nat×Int×Int×Nat×Nat×List (List Int)×List Int×List Int×Int×List (List Int)×List (List Int)×Nat×List (List Int)×Nat×List (List Int))⊕(Int×Nat×Bool×Int×Int×Nat×Int×Int×Nat×Nat×List (List Int)×List Int×List Int×Int×List (List Int)×List (List Int)×Nat×List (List Int)×Nat×List (List Int)))
 | 0,_,_,_,_,_,_,_,_,_,_,_,_,_,_,_,_,_,_,_=>none
 | f+1,x0,x1,x2,x3,x4,x5,x6,x7,x8,x9,x10,x11,x12,x13,x14,x15,x16,x17,x18=>qa1 (qBk f) x0 x1 x2 x3 x4 x5 x6 x7 x8 x9 x10 x11 x12 x13 x14 x15 x16 x17 x18
def qJo (rec:Int->Int->Int->Int->Nat->Int->Nat->List (List Int)->Int->Nat->Int->Int->Nat->Int->Bool->Int->Int->Nat->Nat->Int->Bool->List Int->List Int->Int->List (List Int)->List (List Int)->Nat->List (List Int)->Nat->List (List Int)->Nat->List (List Int)->Option (Int×Int×Nat×Int×Nat×List (List Int)×Int×Nat×Int×Int×Nat×Int×Bool×Int×Int×Nat×Nat×Int×Bool×List Int×List Int×Int×List (List Int)×List (List Int)×Nat×List (List Int)×Nat×List (List Int)×Nat×List (List Int))) (x0 x1:Int) (x2 x3:Int) (x4:Nat) (x5:Int) (x6:Nat) (x7:List (List Int)) (x8:Int) (x9:Nat) (x10 x11:Int) (x12:Nat) (x13:Int) (x14:Bool) (x15 x16:Int) (x17 x18:Nat) (x19:Int) (x20:Bool) (x21 x22:List Int) (x23:Int) (x24 x25:List (List Int)) (x26:Nat) (x27:List (List Int)) (x28:Nat) (x29:List (List Int)) (x30:Nat) (x31:List (List Int)):Option (Int×Int×Nat×Int×Nat×List (List Int)×Int×Nat×Int×Int×Nat×Int×Bool×Int×Int×Nat×Nat×Int×Bool×List Int×List Int×Int×List (List Int)×List (List Int)×Nat×List (List Int)×Nat×List (List Int)×Nat×List (List Int)):=
 br (decide (x1<=bif true then bif decide (64<x0) then 64 else x0 else bif decide (64>x0) then 64 else x0))
 (ob (qBk qC x1 0 (-60000) 60000 x2 x3 x4 x5 x8 x9 x6 x7 x21 x22 x23 x24 x25 x26 x27) fun t60_2=>
 sw t60_2 (fun (a60_0,a60_1,a60_2,a60_3,a60_4,a60_5,a60_6,a60_7,a60_8,a60_9,a60_10,a60_11,a60_12,a60_13,a60_14,a60_15,a60_16,a60_17,a60_18,a60_19)=>
 br (!a60_2)
 (some (a60_3,a60_4,a60_5,a60_6,a60_9,a60_10,a60_7,a60_8,x10,x11,x12,x13,x14,x15,x16,x17,x18,x19,true,a60_11,a60_12,a60_13,a60_14,a60_15,a60_16,a60_17,x28,x29,x30,x31))
 (rec x0 (IntKind.wrap .i64 (x1+1)) a60_3 a60_4 a60_5 a60_6 a60_9 a60_10 a60_7 a60_8 x10 x11 x12 x13 x14 x1 a60_0 0 a60_1 x19 x20 a60_11 a60_12 a60_13 a60_14 a60_15 a60_16 a60_17 x28 x29 a60_18 a60_19))
 (fun (a60_0,a60_1,a60_2,a60_3,a60_4,a60_5,a60_6,a60_7,a60_8,a60_9,a60_10,a60_11,a60_12,a60_13,a60_14,a60_15,a60_16,a60_17,a60_18,a60_19)=>
 br (!a60_2)
 (some (a60_3,a60_4,a60_5,a60_6,a60_9,a60_10,a60_7,a60_8,x10,x11,x12,x13,x14,x15,x16,x17,x18,x19,true,a60_11,a60_12,a60_13,a60_14,a60_15,a60_16,a60_17,x28,x29,x30,x31))
 (rec x0 (IntKind.wrap .i64 (x1+1)) a60_3 a60_4 a60_5 a60_6 a60_9 a60_10 a60_7 a60_8 x10 x11 x12 x13 x14 x1 a60_0 0 a60_1 x19 x20 a60_11 a60_12 a60_13 a60_14 a60_15 a60_16 a60_17 x28 x29 a60_18 a60_19)))
 (some (x2,x3,x4,x5,x6,x7,x8,x9,x10,x11,x12,x13,x14,x15,x16,x17,x18,x19,x20,x21,x22,x23,x24,x25,x26,x27,x28,x29,x30,x31))
def qCw:Nat->Int->Int->Int->Int->Nat->Int->Nat->List (List Int)->Int->Nat->Int->Int->Nat->Int->Bool->Int->Int->Nat->Nat->Int->Bool->List Int->List Int->Int->List (List Int)->List (List Int)->Nat->List (List Int)->Nat->List (List Int)->Nat->List (List Int)->Option (Int×Int×Nat×Int×Nat×List (List Int)×Int×Nat×Int×Int×Nat×Int×Bool×Int×Int×Nat×Nat×Int×Bool×List Int×List Int×Int×List (List Int)×List (List Int)×Nat×List (List Int)×Nat×List (List Int)×Nat×List (List Int))
 | 0,_,_,_,_,_,_,_,_,_,_,_,_,_,_,_,_,_,_,_,_,_,_,_,_,_,_,_,_,_,_,_,_=>none
 | f+1,x0,x1,x2,x3,x4,x5,x6,x7,x8,x9,x10,x11,x12,x13,x14,x15,x16,x17,x18,x19,x20,x21,x22,x23,x24,x25,x26,x27,x28,x29,x30,x31=>qJo (qCw f) x0 x1 x2 x3 x4 x5 x6 x7 x8 x9 x10 x11 x12 x13 x14 x15 x16 x17 x18 x19 x20 x21 x22 x23 x24 x25 x26 x27 x28 x29 x30 x31
def qFZ (x0 x1:List Int) (x2 x3:Int) (x4 _x5 _x6:Int) (x7:Nat) (x8:Int) (x9:Nat) (x10:List (List Int)):Option ((Int×Int×Nat×Int×Bool×Int×Int×Nat×Int×Nat×List (List Int)×Nat×List (List Int))⊕(Int×Int×Nat×Nat×Int×Bool×Int×Int×Nat×Int×Nat×List (List Int)×Nat×List (List Int))):=
 ob (qIz x0 x1 x2) fun (a11_0,a11_1,a11_2,a11_3,a11_4,a11_5,a11_6,a11_7,a11_8)=>
 ob (qDY a11_2 a11_3 a11_4 a11_5 a11_6) fun (a20_0,a20_1,a20_2,a20_3,a20_4,a20_5,a20_6,a20_7)=>
 br (Int.ofNat a20_0==0)
 (some (.inl (0,-30000,0,0,false,0,x4,x7,x8,x9,x10,0,[])))
 (br (qEJ 1 a20_0)
 (br (true&&decide (1<=Int.ofNat a20_0))
 (ob (qCw qC x3 1 0 x4 x7 x8 x9 x10 a11_0 a11_1 0 0 0 0 false 0 0 0 1 0 false a20_1 a20_2 a20_3 a20_4 a20_5 a11_7 a11_8 0 [] a20_6 a20_7) fun (a28_0,a28_1,a28_2,a28_3,a28_4,a28_5,_,_,_,_,_,_,_,a28_13,a28_14,a28_15,a28_16,_,a28_18,_,_,_,_,_,_,_,_,_,a28_28,a28_29)=>
 some (.inr (a28_13,a28_14,a28_15,a28_16,a28_0,a28_18,a28_0,a28_1,a28_2,a28_3,a28_4,a28_5,a28_28,a28_29)))
 (none))
 (none))
def qJ3 (x0:Int):Option ((Unit)⊕(Nat×Nat×List (List Int))):=
 br (decide (x0<1))
 (some (.inl ()))
 (br (decide (x0>65536))
 (some (.inl ()))
 (br (decide (0<=x0))
 (br (decide (x0<=x0))
 (br (decide (160*x0<=281474976710656))
 (some (.inr (Int.toNat x0,Int.toNat x0,List.replicate (Int.toNat x0) [0,0,0,0,0,0,0,0,0,0,0,0,0,0,0,0,0,0,0,0,0,0,0,0,0,0,0,0,0,0,0,0,0,0,0,0,0,0,0,0,0,0,0,0,0,0,0,0,0,0,0,0,0,0,0,0,0,0,0,0,0,0,0,0,0,0,0,0,0,0,0,0,0,0,0,0,0,0,0,0,0,0,0,0,0,0,0,0,0,0,0,0,0,0,0,0,0,0,0,0,0,0,0,0,0,0])))
 (none))
 (none))
 (none)))
def qGT (x0:Int):Option ((Unit)⊕(Nat×Nat×List (List Int))):=
 ob (qJ3 x0) fun t1_2=>
 sw t1_2 (fun _=>
 some (.inl ()))
 (fun (a1_0,a1_1,a1_2)=>
 some (.inr (a1_0,a1_1,a1_2)))
def qK1:Option (Bool):=
 ob (qGT 100) fun t0_2=>
 sw t0_2 (fun _=>
 some (false))
 (fun (a0_0,a0_1,a0_2)=>
 ob (qFZ ([24,0,0,0,0,0,0,0,0,0,0,0,0,0,0,0,0,0,0,0,0,0,0,0,0,0,0,0,0,0,0,0,0,0,0,0,0,0,0,0,23,1,0,0,0,0,0,0,0,0,0,0,0,0,0,0,0,0,0,0,0,0,0,0,0,0,0,0,0,0,0,0,0,0,0,0,0,0,0,0,8]) ([0,0,0,0,0,0,0,0,0,0,0,0,0,0,0,0]) 0 1 1000 0 0 a0_0 0 a0_1 a0_2) fun t3_2=>
 sw t3_2 (fun (a3_0,a3_1,a3_2,_,a3_4,_,_,_,_,_,_,_,a3_12)=>
 br (a3_0==1)
 (br (!a3_4)
 (br (Int.ofNat a3_2==1)
 (br (inB 0 a3_2)
 (br (List.headD (List.take 4 (List.getD a3_12 0 [])) 0==41&&(List.headD (List.tail (List.take 4 (List.getD a3_12 0 []))) 0==40&&(List.headD (List.tail (List.tail (List.take 4 (List.getD a3_12 0 [])))) 0==0&&(List.headD (List.tail (List.tail (List.tail (List.take 4 (List.getD a3_12 0 []))))) 0 != 0)==false)))
 (br (a3_1==1149)
 (some (true))
 (some (false)))
 (some (false)))
 (none))
 (some (false)))
 (some (false)))
 (some (false)))
 (fun (a3_0,a3_1,a3_2,a3_3,_,a3_5,_,_,_,_,_,_,_,a3_13)=>
 br (a3_0==1)
 (br (!a3_5)
 (br (Int.ofNat a3_3==1)
 (br (inB 0 a3_3)
 (br (List.headD (List.take 4 (List.getD a3_13 (a3_2+0) [])) 0==41&&(List.headD (List.tail (List.take 4 (List.getD a3_13 (a3_2+0) []))) 0==40&&(List.headD (List.tail (List.tail (List.take 4 (List.getD a3_13 (a3_2+0) [])))) 0==0&&(List.headD (List.tail (List.tail (List.tail (List.take 4 (List.getD a3_13 (a3_2+0) []))))) 0 != 0)==false)))
 (br (a3_1==1149)
 (some (true))
 (some (false)))
 (some (false)))
 (none))
 (some (false)))
 (some (false)))
 (some (false))))
def qK3 (rec:Nat->Nat->Int->Int->Nat->List (List Int)->Int->Int->Nat->Int->Nat->List (List Int)->Option (Nat×List (List Int)×Int×Int×Nat×Int×Nat×List (List Int))) (x0 x1:Nat) (x2 x3:Int) (x4:Nat) (x5:List (List Int)) (x6 x7:Int) (x8:Nat) (x9:Int) (x10:Nat) (x11:List (List Int)):Option (Nat×List (List Int)×Int×Int×Nat×Int×Nat×List (List Int)):=
 br (decide (x3<x2))
 (br (inB x3 x1)
 (ob (qHy (List.take 81 (List.take 100 (List.getD x5 (x0+Int.toNat x3) []))) (List.take 16 (List.drop 81 (List.take 100 (List.getD x5 (x0+Int.toNat x3) [])))) (List.headD (List.drop 16 (List.drop 81 (List.take 100 (List.getD x5 (x0+Int.toNat x3) [])))) 0)) fun a20=>
 br (a20==0)
 (br (decide (List.headD (List.drop 1 (List.drop 16 (List.drop 81 (List.take 100 (List.getD x5 (x0+Int.toNat x3) []))))) 0<=3))
 (ob (qFZ (List.take 81 (List.take 100 (List.getD x5 (x0+Int.toNat x3) []))) (List.take 16 (List.drop 81 (List.take 100 (List.getD x5 (x0+Int.toNat x3) [])))) (List.headD (List.drop 16 (List.drop 81 (List.take 100 (List.getD x5 (x0+Int.toNat x3) [])))) 0) (List.headD (List.drop 1 (List.drop 16 (List.drop 81 (List.take 100 (List.getD x5 (x0+Int.toNat x3) []))))) 0) (bif true then bif decide (300<List.headD (List.tail (List.drop 1 (List.drop 16 (List.drop 81 (List.take 100 (List.getD x5 (x0+Int.toNat x3) [])))))) 0) then 300 else List.headD (List.tail (List.drop 1 (List.drop 16 (List.drop 81 (List.take 100 (List.getD x5 (x0+Int.toNat x3) [])))))) 0 else bif decide (300>List.headD (List.tail (List.drop 1 (List.drop 16 (List.drop 81 (List.take 100 (List.getD x5 (x0+Int.toNat x3) [])))))) 0) then 300 else List.headD (List.tail (List.drop 1 (List.drop 16 (List.drop 81 (List.take 100 (List.getD x5 (x0+Int.toNat x3) [])))))) 0) x6 x7 x8 x9 x10 x11) fun t21_2=>
 sw t21_2 (fun (_,_,_,_,_,a21_5,a21_6,a21_7,a21_8,a21_9,a21_10,_,_)=>
 rec x0 x1 x2 (IntKind.wrap .i64 (x3+1)) x4 x5 a21_5 a21_6 a21_7 a21_8 a21_9 a21_10)
 (fun (_,_,_,_,_,_,a21_6,a21_7,a21_8,a21_9,a21_10,a21_11,_,_)=>
 rec x0 x1 x2 (IntKind.wrap .i64 (x3+1)) x4 x5 a21_6 a21_7 a21_8 a21_9 a21_10 a21_11))
 (rec x0 x1 x2 (IntKind.wrap .i64 (x3+1)) x4 x5 x6 x7 x8 x9 x10 x11))
 (rec x0 x1 x2 (IntKind.wrap .i64 (x3+1)) x4 x5 x6 x7 x8 x9 x10 x11))
 (none))
 (some (x4,x5,x6,x7,x8,x9,x10,x11))
def qFB:Nat->Nat->Nat->Int->Int->Nat->List (List Int)->Int->Int->Nat->Int->Nat->List (List Int)->Option (Nat×List (List Int)×Int×Int×Nat×Int×Nat×List (List Int))
 | 0,_,_,_,_,_,_,_,_,_,_,_,_=>none
 | f+1,x0,x1,x2,x3,x4,x5,x6,x7,x8,x9,x10,x11=>qK3 (qFB f) x0 x1 x2 x3 x4 x5 x6 x7 x8 x9 x10 x11
def qJG (x0:Int) (x1 x2 x3:Nat) (x4:List (List Int)):Option ((Unit)⊕(Int×Int×Nat×Int×Nat×List (List Int))):=
 ob (qGT x0) fun t5_2=>
 sw t5_2 (fun _=>
 some (.inl ()))
 (fun (a5_0,a5_1,a5_2)=>
 ob (qFB qC x1 x2 (Int.ofNat x2) 0 x3 x4 0 0 a5_0 0 a5_1 a5_2) fun (_,_,a8_2,a8_3,a8_4,a8_5,a8_6,a8_7)=>
 some (.inr (a8_2,a8_3,a8_4,a8_5,a8_6,a8_7)))
def qOc (rec:Nat->Int->Int->Nat->List (List Int)->Int->Int->Nat->Int->Bool->List Int->List Int->Int->Nat->List (List Int)->Option ((Bool×Nat×List (List Int)×Int×Int×Nat×Int×Bool×Nat×List (List Int))⊕(Nat×List (List Int)×Int×Int×Nat×Int×Bool×Nat×List (List Int)))) (x0:Nat) (x1 x2:Int) (x3:Nat) (x4:List (List Int)) (x5 x6:Int) (x7:Nat) (x8:Int) (x9:Bool) (x10 x11:List Int) (x12:Int) (x13:Nat) (x14:List (List Int)):Option ((Bool×Nat×List (List Int)×Int×Int×Nat×Int×Bool×Nat×List (List Int))⊕(Nat×List (List Int)×Int×Int×Nat×Int×Bool×Nat×List (List Int))):=
 br (decide (x2<x1))
 (br (inB x2 x0)
 (ob (qGO x10 x11 x12 (List.headD (List.take 4 (List.getD x14 (Int.toNat x2) [])) 0) (List.headD (List.tail (List.take 4 (List.getD x14 (Int.toNat x2) []))) 0) (List.headD (List.tail (List.tail (List.take 4 (List.getD x14 (Int.toNat x2) [])))) 0) (List.headD (List.tail (List.tail (List.tail (List.take 4 (List.getD x14 (Int.toNat x2) []))))) 0 != 0)) fun a45=>
 br (!a45)
 (some (.inl (false,x3,x4,x5,x6,x7,x8,x9,x13,x14)))
 (ob (qEU x10 x11 x12 (List.headD (List.take 4 (List.getD x14 (Int.toNat x2) [])) 0) (List.headD (List.tail (List.take 4 (List.getD x14 (Int.toNat x2) []))) 0) (List.headD (List.tail (List.tail (List.take 4 (List.getD x14 (Int.toNat x2) [])))) 0) (List.headD (List.tail (List.tail (List.tail (List.take 4 (List.getD x14 (Int.toNat x2) []))))) 0 != 0)) fun (a46_0,a46_1,a46_2)=>
 rec x0 x1 (IntKind.wrap .i64 (x2+1)) x3 x4 x5 x6 x7 x8 x9 a46_0 a46_1 a46_2 x13 x14))
 (none))
 (some (.inr (x3,x4,x5,x6,x7,x8,x9,x13,x14)))
def qHQ:Nat->Nat->Int->Int->Nat->List (List Int)->Int->Int->Nat->Int->Bool->List Int->List Int->Int->Nat->List (List Int)->Option ((Bool×Nat×List (List Int)×Int×Int×Nat×Int×Bool×Nat×List (List Int))⊕(Nat×List (List Int)×Int×Int×Nat×Int×Bool×Nat×List (List Int)))
 | 0,_,_,_,_,_,_,_,_,_,_,_,_,_,_,_=>none
 | f+1,x0,x1,x2,x3,x4,x5,x6,x7,x8,x9,x10,x11,x12,x13,x14=>qOc (qHQ f) x0 x1 x2 x3 x4 x5 x6 x7 x8 x9 x10 x11 x12 x13 x14
def qK0 (rec:Nat->Nat->Int->Int->Nat->List (List Int)->Int->Int->Nat->Nat->Int->Bool->List Int->List Int->Int->Nat->List (List Int)->Option ((Bool×Nat×List (List Int)×Int×Int×Nat×Nat×Int×Bool×Nat×List (List Int))⊕(Nat×List (List Int)×Int×Int×Nat×Nat×Int×Bool×Nat×List (List Int)))) (x0 x1:Nat) (x2 x3:Int) (x4:Nat) (x5:List (List Int)) (x6 x7:Int) (x8 x9:Nat) (x10:Int) (x11:Bool) (x12 x13:List Int) (x14:Int) (x15:Nat) (x16:List (List Int)):Option ((Bool×Nat×List (List Int)×Int×Int×Nat×Nat×Int×Bool×Nat×List (List Int))⊕(Nat×List (List Int)×Int×Int×Nat×Nat×Int×Bool×Nat×List (List Int))):=
 br (decide (x3<x2))
 (br (inB x3 x1)
 (ob (qGO x12 x13 x14 (List.headD (List.take 4 (List.getD x16 (x0+Int.toNat x3) [])) 0) (List.headD (List.tail (List.take 4 (List.getD x16 (x0+Int.toNat x3) []))) 0) (List.headD (List.tail (List.tail (List.take 4 (List.getD x16 (x0+Int.toNat x3) [])))) 0) (List.headD (List.tail (List.tail (List.tail (List.take 4 (List.getD x16 (x0+Int.toNat x3) []))))) 0 != 0)) fun a48=>
 br (!a48)
 (some (.inl (false,x4,x5,x6,x7,x8,x9,x10,x11,x15,x16)))
 (ob (qEU x12 x13 x14 (List.headD (List.take 4 (List.getD x16 (x0+Int.toNat x3) [])) 0) (List.headD (List.tail (List.take 4 (List.getD x16 (x0+Int.toNat x3) []))) 0) (List.headD (List.tail (List.tail (List.take 4 (List.getD x16 (x0+Int.toNat x3) [])))) 0) (List.headD (List.tail (List.tail (List.tail (List.take 4 (List.getD x16 (x0+Int.toNat x3) []))))) 0 != 0)) fun (a49_0,a49_1,a49_2)=>
 rec x0 x1 x2 (IntKind.wrap .i64 (x3+1)) x4 x5 x6 x7 x8 x9 x10 x11 a49_0 a49_1 a49_2 x15 x16))
 (none))
 (some (.inr (x4,x5,x6,x7,x8,x9,x10,x11,x15,x16)))
def qFA:Nat->Nat->Nat->Int->Int->Nat->List (List Int)->Int->Int->Nat->Nat->Int->Bool->List Int->List Int->Int->Nat->List (List Int)->Option ((Bool×Nat×List (List Int)×Int×Int×Nat×Nat×Int×Bool×Nat×List (List Int))⊕(Nat×List (List Int)×Int×Int×Nat×Nat×Int×Bool×Nat×List (List Int)))
 | 0,_,_,_,_,_,_,_,_,_,_,_,_,_,_,_,_,_=>none
 | f+1,x0,x1,x2,x3,x4,x5,x6,x7,x8,x9,x10,x11,x12,x13,x14,x15,x16=>qK0 (qFA f) x0 x1 x2 x3 x4 x5 x6 x7 x8 x9 x10 x11 x12 x13 x14 x15 x16
def qJE (x0 x1 x2:Nat) (x3:List (List Int)) (x4 x5:List Int) (x6 x7 x8:Int):Option (Bool):=
 ob (qK1 ) fun a9=>
 br (!a9)
 (some (false))
 (br (decide (Int.ofNat x1>4))
 (some (true))
 (br (decide (x7>3))
 (some (true))
 (ob (qHy x4 x5 x6) fun a10=>
 br (a10 != 0)
 (some (true))
 (ob (qJG 50 x0 x1 x2 x3) fun t11_2=>
 sw t11_2 (fun _=>
 some (false))
 (fun (a11_0,a11_1,a11_2,a11_3,a11_4,a11_5)=>
 ob (qFZ x4 x5 x6 x7 (bif true then bif decide (400<x8) then 400 else x8 else bif decide (400>x8) then 400 else x8) a11_0 a11_1 a11_2 a11_3 a11_4 a11_5) fun t17_2=>
 sw t17_2 (fun (a17_0,a17_1,a17_2,a17_3,a17_4,_,_,_,_,_,_,a17_11,a17_12)=>
 br (decide (Int.ofNat a17_2>bif false then bif decide (1<a17_0) then 1 else a17_0 else bif decide (1>a17_0) then 1 else a17_0))
 (some (false))
 (ob (qHQ qC a17_2 (Int.ofNat a17_2) 0 x2 x3 a17_0 a17_1 a17_2 a17_3 a17_4 x4 x5 x6 a17_11 a17_12) fun t30_2=>
 sw t30_2 (fun (a30_0,_,_,_,_,_,_,_,_,_)=>
 some (a30_0))
 (fun (_,_,_,a30_3,_,_,_,_,_)=>
 br (decide (a30_3 >= -30000))
 (some (decide (a30_3<=30000)))
 (some (false)))))
 (fun (a17_0,a17_1,a17_2,a17_3,a17_4,a17_5,_,_,_,_,_,_,a17_12,a17_13)=>
 br (decide (Int.ofNat a17_3>bif false then bif decide (1<a17_0) then 1 else a17_0 else bif decide (1>a17_0) then 1 else a17_0))
 (some (false))
 (ob (qFA qC a17_2 a17_3 (Int.ofNat a17_3) 0 x2 x3 a17_0 a17_1 a17_2 a17_3 a17_4 a17_5 x4 x5 x6 a17_12 a17_13) fun t31_2=>
 sw t31_2 (fun (a31_0,_,_,_,_,_,_,_,_,_,_)=>
 some (a31_0))
 (fun (_,_,_,a31_3,_,_,_,_,_,_)=>
 br (decide (a31_3 >= -30000))
 (some (decide (a31_3<=30000)))
 (some (false))))))))))
end Go.Kk.Pl
