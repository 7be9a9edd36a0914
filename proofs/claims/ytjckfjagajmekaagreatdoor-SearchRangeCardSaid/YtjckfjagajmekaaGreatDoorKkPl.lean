/- Printed by a tool of this project (KkGen): the plain functions that the program's code comes to. -/
import Derived.Test.YtjckfjagajmekaaGreatDoorKkE
namespace Go.Kk.Pl
def qFv (x0:Int):Option ((Int)⊕(Int×Nat×Int×Nat×List (List Int))):=
 br (decide (x0<1))
 (some (.inl (1)))
 (br (decide (x0>65536))
 (some (.inl (1)))
 (br (decide (0<=x0))
 (br (decide (x0<=x0))
 (br (decide (160*x0<=281474976710656))
 (some (.inr (0,Int.toNat x0,0,Int.toNat x0,List.replicate (Int.toNat x0) [0,0,0,0,0,0,0,0,0,0,0,0,0,0,0,0,0,0,0,0,0,0,0,0,0,0,0,0,0,0,0,0,0,0,0,0,0,0,0,0,0,0,0,0,0,0,0,0,0,0,0,0,0,0,0,0,0,0,0,0,0,0,0,0,0,0,0,0,0,0,0,0,0,0,0,0,0,0,0,0,0,0,0,0,0,0,0,0,0,0,0,0,0,0,0,0,0,0,0,0,0,0,0,0,0,0])))
 (none))
 (none))
 (none)))
def qHc (x0 x1:Int):Option (Int):=
 br (decide (x0<0))
 (some (-1))
 (br (decide (x0>8))
 (some (-1))
 (br (decide (x1<0))
 (some (-1))
 (br (decide (x1>8))
 (some (-1))
 (some (IntKind.wrap .i64 (IntKind.wrap .i64 (9*x0)+x1))))))
def qBj (x0 x1:Int):Option (Int):=
 br (x0 != 0)
 (br (x0 != 1)
 (some (0))
 (br (decide (x1<1))
 (some (0))
 (br (decide (x1>15))
 (some (0))
 (br (x1==13)
 (some (0))
 (some (conv .i64 .i8 (IntKind.wrap .i64 (IntKind.wrap .i64 (16*x0)+x1))))))))
 (br (decide (x1<1))
 (some (0))
 (br (decide (x1>15))
 (some (0))
 (br (x1==13)
 (some (0))
 (some (conv .i64 .i8 (IntKind.wrap .i64 (IntKind.wrap .i64 (16*x0)+x1)))))))
def qAQ (x0:Int):Option (Int):=
 br (decide (x0<=0))
 (br (x0==8)
 (some (8))
 (br (x0==24)
 (some (8))
 (some (0))))
 (br (decide (x0>31))
 (br (x0==8)
 (some (8))
 (br (x0==24)
 (some (8))
 (some (0))))
 (br (qE BinOp.and .i64 x0 15==0)
 (br (x0==8)
 (some (8))
 (br (x0==24)
 (some (8))
 (some (0))))
 (br (qE BinOp.and .i64 x0 15==13)
 (br (x0==8)
 (some (8))
 (br (x0==24)
 (some (8))
 (some (0))))
 (some (qE BinOp.and .i64 x0 15)))))
def qFM (x0:Int):Option (Int):=
 some (qE BinOp.xor .u64 (IntKind.wrap .u64 (qE BinOp.xor .u64 (IntKind.wrap .u64 (qE BinOp.xor .u64 (IntKind.wrap .u64 (x0+11400714819323198485)) (Int.fdiv (IntKind.wrap .u64 (x0+11400714819323198485)) 1073741824)*13787848793156543929)) (Int.fdiv (IntKind.wrap .u64 (qE BinOp.xor .u64 (IntKind.wrap .u64 (x0+11400714819323198485)) (Int.fdiv (IntKind.wrap .u64 (x0+11400714819323198485)) 1073741824)*13787848793156543929)) 134217728)*10723151780598845931)) (Int.fdiv (IntKind.wrap .u64 (qE BinOp.xor .u64 (IntKind.wrap .u64 (qE BinOp.xor .u64 (IntKind.wrap .u64 (x0+11400714819323198485)) (Int.fdiv (IntKind.wrap .u64 (x0+11400714819323198485)) 1073741824)*13787848793156543929)) (Int.fdiv (IntKind.wrap .u64 (qE BinOp.xor .u64 (IntKind.wrap .u64 (x0+11400714819323198485)) (Int.fdiv (IntKind.wrap .u64 (x0+11400714819323198485)) 1073741824)*13787848793156543929)) 134217728)*10723151780598845931)) 2147483648))
def qFL (x0 x1:Int):Option (Int):=
 ob (qAQ x1) fun a2=>
 br (a2==0)
 (some (0))
 (br (decide (x0<0))
 (some (0))
 (br (decide (x0 >= 81))
 (some (0))
 (ob (qFM (IntKind.wrap .u64 (IntKind.wrap .u64 (conv .i64 .u64 x0*32)+conv .i8 .u64 x1))) fun a3=>
 some (a3))))
def qFJ (x0 x1 x2:Int):Option (Int):=
 br (x0 != 0)
 (br (x0 != 1)
 (some (0))
 (br (decide (x1<1))
 (some (0))
 (br (decide (x1 >= 8))
 (some (0))
 (br (decide (x2<=0))
 (some (0))
 (br (decide (x2>18))
 (some (0))
 (ob (qFM (IntKind.wrap .u64 (IntKind.wrap .u64 (IntKind.wrap .u64 (65536+IntKind.wrap .u64 (conv .i64 .u64 x0*1024))+IntKind.wrap .u64 (conv .i64 .u64 x1*32))+conv .i64 .u64 x2))) fun a3=>
 some (a3)))))))
 (br (decide (x1<1))
 (some (0))
 (br (decide (x1 >= 8))
 (some (0))
 (br (decide (x2<=0))
 (some (0))
 (br (decide (x2>18))
 (some (0))
 (ob (qFM (IntKind.wrap .u64 (IntKind.wrap .u64 (IntKind.wrap .u64 (65536+IntKind.wrap .u64 (conv .i64 .u64 x0*1024))+IntKind.wrap .u64 (conv .i64 .u64 x1*32))+conv .i64 .u64 x2))) fun a3=>
 some (a3))))))
def qGh:Option (Int):=
 ob (qFM 1048576) fun a0=>
 some (a0)
def qGf (rec:Int->List Int->Int->List Int->List Int->Int->Option (Int×List Int×List Int×Int)) (x0:Int) (x1:List Int) (x2:Int) (x3 x4:List Int) (x5:Int):Option (Int×List Int×List Int×Int):=
 br (decide (x2<81))
 (br (inB x2 81)
 (ob (qFL x2 (List.getD x1 (bif true then Int.toNat x2 else Int.toNat x2*1) 0)) fun a9=>
 rec (qE BinOp.xor .u64 x0 a9) x1 (IntKind.wrap .i64 (x2+1)) x3 x4 x5)
 (none))
 (some (x0,x3,x4,x5))
def qEM:Nat->Int->List Int->Int->List Int->List Int->Int->Option (Int×List Int×List Int×Int)
 | 0,_,_,_,_,_,_=>none
 | f+1,x0,x1,x2,x3,x4,x5=>qGf (qEM f) x0 x1 x2 x3 x4 x5
def qGe (rec:Int->Int->List Int->Int->List Int->Int->List Int->List Int->Int->Option (Int×List Int×Int×List Int×List Int×Int)) (x0 x1:Int) (x2:List Int) (x3:Int) (x4:List Int) (x5:Int) (x6 x7:List Int) (x8:Int):Option (Int×List Int×Int×List Int×List Int×Int):=
 br (decide (x5<8))
 (br (inB x5 8)
 (ob (qFJ x1 x5 (conv .i8 .i64 (List.getD x4 (bif true then Int.toNat x5 else Int.toNat x5*1) 0))) fun a22=>
 rec (qE BinOp.xor .u64 x0 a22) x1 x2 x3 x4 (IntKind.wrap .i64 (x5+1)) x6 x7 x8)
 (none))
 (some (x0,x2,x3,x6,x7,x8))
def qFK:Nat->Int->Int->List Int->Int->List Int->Int->List Int->List Int->Int->Option (Int×List Int×Int×List Int×List Int×Int)
 | 0,_,_,_,_,_,_,_,_,_=>none
 | f+1,x0,x1,x2,x3,x4,x5,x6,x7,x8=>qGe (qFK f) x0 x1 x2 x3 x4 x5 x6 x7 x8
def qGg (rec:Int->List Int->Int->List Int->List Int->Int->Option (Int×List Int×List Int×Int)) (x0:Int) (x1:List Int) (x2:Int) (x3 x4:List Int) (x5:Int):Option (Int×List Int×List Int×Int):=
 br (decide (x2<2))
 (br (inB x2 2)
 (ob (qFK qC x0 x2 x1 x2 (List.take 8 (List.drop (Nat.add (Nat.mul (Int.toNat x2) 7) (Int.toNat x2)) x1)) 0 x3 x4 x5) fun (a13_0,a13_1,a13_2,a13_3,a13_4,a13_5)=>
 rec a13_0 a13_1 (IntKind.wrap .i64 (a13_2+1)) a13_3 a13_4 a13_5)
 (none))
 (some (x0,x3,x4,x5))
def qEN:Nat->Int->List Int->Int->List Int->List Int->Int->Option (Int×List Int×List Int×Int)
 | 0,_,_,_,_,_,_=>none
 | f+1,x0,x1,x2,x3,x4,x5=>qGg (qEN f) x0 x1 x2 x3 x4 x5
def qEK (x0 x1:List Int) (x2:Int):Option (Int):=
 ob (qEM qC 0 x0 0 x0 x1 x2) fun (a3_0,a3_1,a3_2,a3_3)=>
 ob (qEN qC a3_0 a3_2 0 a3_1 a3_2 a3_3) fun (a7_0,_,_,a7_3)=>
 br (a7_3==1)
 (ob (qGh ) fun a11=>
 some (qE BinOp.xor .u64 a7_0 a11))
 (some (a7_0))
def qLd (x0 x1:List Int) (x2:Int) (x3:Nat) (_x4:Int) (_x5:Nat) (_x6:List (List Int)):Option (Nat):=
 ob (qEK x0 x1 x2) fun a7=>
 br (decide (Int.ofNat (x3 % 18446744073709551616)=0))
 (none)
 (br (inB (Int.tmod a7 (Int.ofNat (x3 % 18446744073709551616))) x3)
 (some (Int.toNat (Int.tmod a7 (Int.ofNat (x3 % 18446744073709551616)))))
 (none))
def qp (x0 x1:List Int) (x2 x3:Int) (x4 x5:Int) (x6 x7 x8:Int) (x9:Bool) (x10:Nat) (x11:Int) (x12:Nat) (x13:List (List Int)):Option (Nat×Int×Nat×List (List Int)):=
 ob (qLd x0 x1 x2 x10 x11 x12 x13) fun a14=>
 br (!List.getD (List.getD x13 a14 []) 0 0 != 0)
 (some (x10,IntKind.wrap .i64 (x11+1),x12,List.set x13 a14 (1 :: List.append (List.append [] (List.append x0 (List.append x1 [x2,x3,x4,x5,x6,x7,x8,bi x9]))) (List.drop 106 (List.getD x13 a14 [])))))
 (some (x10,x11,x12,List.set x13 a14 (1 :: List.append (List.append [] (List.append x0 (List.append x1 [x2,x3,x4,x5,x6,x7,x8,bi x9]))) (List.drop 106 (List.getD x13 a14 [])))))
def qQ9 (x0 x1:List Int) (x2:Int) (x3:Nat) (x4:Int) (x5:Nat) (x6:List (List Int)):Option (Int×Int×Int×Int×Int×Int×Bool×Bool):=
 ob (qLd x0 x1 x2 x3 x4 x5 x6) fun a7=>
 br (!List.getD (List.getD x6 a7 []) 0 0 != 0)
 (some (0,0,0,0,0,0,false,false))
 (br (!(List.take 81 (List.take 98 (List.drop 1 (List.getD x6 a7 [])))==x0&&(List.take 16 (List.drop 81 (List.take 98 (List.drop 1 (List.getD x6 a7 []))))==x1&&List.headD (List.drop 16 (List.drop 81 (List.take 98 (List.drop 1 (List.getD x6 a7 []))))) 0==x2)))
 (some (0,0,0,0,0,0,false,false))
 (some (List.headD (List.take 7 (List.drop 99 (List.getD x6 a7 []))) 0,List.headD (List.tail (List.take 7 (List.drop 99 (List.getD x6 a7 [])))) 0,List.headD (List.tail (List.tail (List.take 7 (List.drop 99 (List.getD x6 a7 []))))) 0,List.headD (List.tail (List.tail (List.tail (List.take 7 (List.drop 99 (List.getD x6 a7 [])))))) 0,List.headD (List.tail (List.tail (List.tail (List.tail (List.take 7 (List.drop 99 (List.getD x6 a7 []))))))) 0,List.headD (List.tail (List.tail (List.tail (List.tail (List.tail (List.take 7 (List.drop 99 (List.getD x6 a7 [])))))))) 0,List.headD (List.tail (List.tail (List.tail (List.tail (List.tail (List.tail (List.take 7 (List.drop 99 (List.getD x6 a7 []))))))))) 0 != 0,true)))
def qRB (_x0 _x1:List Int) (_x2:Int):Option (Empty):=
 none
def qEu (x0:Int):Option (Int×Int):=
 br (decide (x0<0))
 (some (0,0))
 (br (decide (x0 >= 81))
 (some (0,0))
 (br (decide (x0<63))
 (br (decide (x0<0))
 (none)
 (some (IntKind.wrap .u64 (1*2 ^ min (Int.toNat x0) 64),0)))
 (br (decide (IntKind.wrap .i64 (x0 - 63)<0))
 (none)
 (some (0,IntKind.wrap .u64 (1*2 ^ min (Int.toNat (IntKind.wrap .i64 (x0 - 63))) 64))))))
def qEq (x0 x1:Int) (x2 x3:Int):Option (Int×Int):=
 some (qE BinOp.andNot .u64 x0 x2,qE BinOp.andNot .u64 x1 x3)
def qDu (x0 x1 x2:Int):Option (Int×Int):=
 ob (qEu x2) fun (a3_0,a3_1)=>
 ob (qEq x0 x1 a3_0 a3_1) fun (a5_0,a5_1)=>
 some (a5_0,a5_1)
def qAy (x0:Int):Option (Int):=
 ob (qAQ x0) fun a1=>
 br (a1==0)
 (some (-1))
 (br (decide (x0<16))
 (some (0))
 (some (1)))
def qDM (x0 x1:Int) (x2 x3:Int):Option (Int×Int):=
 some (qE BinOp.or .u64 x0 x2,qE BinOp.or .u64 x1 x3)
def qA1 (x0 x1 x2:Int):Option (Int×Int):=
 ob (qEu x2) fun (a3_0,a3_1)=>
 ob (qDM x0 x1 a3_0 a3_1) fun (a5_0,a5_1)=>
 some (a5_0,a5_1)
def qE9 (x0 x1:Int) (x2 x3:List Int) (x4:Int) (x5 x6:List (List Int)):Option (List Int×List Int×Int×List (List Int)×List (List Int)):=
 br (decide (x0<0))
 (some (x2,x3,x4,x5,x6))
 (br (decide (x0 >= 81))
 (some (x2,x3,x4,x5,x6))
 (br (inB x0 81)
 (br (List.getD x2 (Int.toNat x0) 0 != 0)
 (br (inB (List.getD x2 (Int.toNat x0) 0) 32)
 (ob (qDu (List.headD (List.take 2 (List.getD x5 (Int.toNat (List.getD x2 (Int.toNat x0) 0)) [])) 0) (List.headD (List.tail (List.take 2 (List.getD x5 (Int.toNat (List.getD x2 (Int.toNat x0) 0)) []))) 0) x0) fun (a7_0,a7_1)=>
 br (inB (List.getD x2 (Int.toNat x0) 0) 32)
 (ob (qAy (List.getD x2 (Int.toNat x0) 0)) fun a9=>
 ob (qAy (List.getD x2 (Int.toNat x0) 0)) fun a10=>
 br (inB a10 2)
 (ob (qDu (List.headD (List.take 2 (List.getD x6 (Int.toNat a10) [])) 0) (List.headD (List.tail (List.take 2 (List.getD x6 (Int.toNat a10) []))) 0) x0) fun (a11_0,a11_1)=>
 br (inB a9 2)
 (ob (qAQ x1) fun a13=>
 br (a13==0)
 (br (inB x0 81)
 (some (List.set x2 (Int.toNat x0) 0,x3,x4,List.set x5 (Int.toNat (List.getD x2 (Int.toNat x0) 0)) (a7_0 :: a7_1 :: List.drop 2 (List.getD x5 (Int.toNat (List.getD x2 (Int.toNat x0) 0)) [])),List.set x6 (Int.toNat a9) (a11_0 :: a11_1 :: List.drop 2 (List.getD x6 (Int.toNat a9) []))))
 (none))
 (br (inB x0 81)
 (br (x1 != 0)
 (br (inB x1 32)
 (ob (qA1 (List.headD (List.take 2 (List.getD (List.set x5 (Int.toNat (List.getD x2 (Int.toNat x0) 0)) (a7_0 :: a7_1 :: List.drop 2 (List.getD x5 (Int.toNat (List.getD x2 (Int.toNat x0) 0)) []))) (Int.toNat x1) [])) 0) (List.headD (List.tail (List.take 2 (List.getD (List.set x5 (Int.toNat (List.getD x2 (Int.toNat x0) 0)) (a7_0 :: a7_1 :: List.drop 2 (List.getD x5 (Int.toNat (List.getD x2 (Int.toNat x0) 0)) []))) (Int.toNat x1) []))) 0) x0) fun (a14_0,a14_1)=>
 br (inB x1 32)
 (ob (qAy x1) fun a16=>
 ob (qAy x1) fun a17=>
 br (inB a17 2)
 (ob (qA1 (List.headD (List.take 2 (List.getD (List.set x6 (Int.toNat a9) (a11_0 :: a11_1 :: List.drop 2 (List.getD x6 (Int.toNat a9) []))) (Int.toNat a17) [])) 0) (List.headD (List.tail (List.take 2 (List.getD (List.set x6 (Int.toNat a9) (a11_0 :: a11_1 :: List.drop 2 (List.getD x6 (Int.toNat a9) []))) (Int.toNat a17) []))) 0) x0) fun (a18_0,a18_1)=>
 br (inB a16 2)
 (some (List.set x2 (Int.toNat x0) x1,x3,x4,List.set (List.set x5 (Int.toNat (List.getD x2 (Int.toNat x0) 0)) (a7_0 :: a7_1 :: List.drop 2 (List.getD x5 (Int.toNat (List.getD x2 (Int.toNat x0) 0)) []))) (Int.toNat x1) (a14_0 :: a14_1 :: List.drop 2 (List.getD (List.set x5 (Int.toNat (List.getD x2 (Int.toNat x0) 0)) (a7_0 :: a7_1 :: List.drop 2 (List.getD x5 (Int.toNat (List.getD x2 (Int.toNat x0) 0)) []))) (Int.toNat x1) [])),List.set (List.set x6 (Int.toNat a9) (a11_0 :: a11_1 :: List.drop 2 (List.getD x6 (Int.toNat a9) []))) (Int.toNat a16) (a18_0 :: a18_1 :: List.drop 2 (List.getD (List.set x6 (Int.toNat a9) (a11_0 :: a11_1 :: List.drop 2 (List.getD x6 (Int.toNat a9) []))) (Int.toNat a16) []))))
 (none))
 (none))
 (none))
 (none))
 (some (List.set x2 (Int.toNat x0) x1,x3,x4,List.set x5 (Int.toNat (List.getD x2 (Int.toNat x0) 0)) (a7_0 :: a7_1 :: List.drop 2 (List.getD x5 (Int.toNat (List.getD x2 (Int.toNat x0) 0)) [])),List.set x6 (Int.toNat a9) (a11_0 :: a11_1 :: List.drop 2 (List.getD x6 (Int.toNat a9) [])))))
 (none)))
 (none))
 (none))
 (none))
 (none))
 (ob (qAQ x1) fun a7=>
 br (a7==0)
 (br (inB x0 81)
 (some (List.set x2 (Int.toNat x0) 0,x3,x4,x5,x6))
 (none))
 (br (inB x0 81)
 (br (x1 != 0)
 (br (inB x1 32)
 (ob (qA1 (List.headD (List.take 2 (List.getD x5 (Int.toNat x1) [])) 0) (List.headD (List.tail (List.take 2 (List.getD x5 (Int.toNat x1) []))) 0) x0) fun (a8_0,a8_1)=>
 br (inB x1 32)
 (ob (qAy x1) fun a10=>
 ob (qAy x1) fun a11=>
 br (inB a11 2)
 (ob (qA1 (List.headD (List.take 2 (List.getD x6 (Int.toNat a11) [])) 0) (List.headD (List.tail (List.take 2 (List.getD x6 (Int.toNat a11) []))) 0) x0) fun (a12_0,a12_1)=>
 br (inB a10 2)
 (some (List.set x2 (Int.toNat x0) x1,x3,x4,List.set x5 (Int.toNat x1) (a8_0 :: a8_1 :: List.drop 2 (List.getD x5 (Int.toNat x1) [])),List.set x6 (Int.toNat a10) (a12_0 :: a12_1 :: List.drop 2 (List.getD x6 (Int.toNat a10) []))))
 (none))
 (none))
 (none))
 (none))
 (some (List.set x2 (Int.toNat x0) x1,x3,x4,x5,x6)))
 (none))))
 (none)))
def qGA (rec:List Int->Int->List Int->List Int->Int->List (List Int)->List (List Int)->Option (List Int×List Int×Int×List (List Int)×List (List Int))) (x0:List Int) (x1:Int) (x2 x3:List Int) (x4:Int) (x5 x6:List (List Int)):Option (List Int×List Int×Int×List (List Int)×List (List Int)):=
 br (decide (x1<81))
 (br (inB x1 81)
 (ob (qE9 x1 (List.getD x0 (bif true then Int.toNat x1 else Int.toNat x1*1) 0) x2 x3 x4 x5 x6) fun (a10_0,a10_1,a10_2,a10_3,a10_4)=>
 rec x0 (IntKind.wrap .i64 (x1+1)) a10_0 a10_1 a10_2 a10_3 a10_4)
 (none))
 (some (x2,x3,x4,x5,x6))
def qDX:Nat->List Int->Int->List Int->List Int->Int->List (List Int)->List (List Int)->Option (List Int×List Int×Int×List (List Int)×List (List Int))
 | 0,_,_,_,_,_,_,_=>none
 | f+1,x0,x1,x2,x3,x4,x5,x6=>qGA (qDX f) x0 x1 x2 x3 x4 x5 x6
def qHz (x0 x1:List Int) (x2:Int):Option (List Int×List Int×Int×List (List Int)×List (List Int)):=
 ob (qDX qC x0 0 ([0,0,0,0,0,0,0,0,0,0,0,0,0,0,0,0,0,0,0,0,0,0,0,0,0,0,0,0,0,0,0,0,0,0,0,0,0,0,0,0,0,0,0,0,0,0,0,0,0,0,0,0,0,0,0,0,0,0,0,0,0,0,0,0,0,0,0,0,0,0,0,0,0,0,0,0,0,0,0,0,0]) x1 x2 ([[0,0],[0,0],[0,0],[0,0],[0,0],[0,0],[0,0],[0,0],[0,0],[0,0],[0,0],[0,0],[0,0],[0,0],[0,0],[0,0],[0,0],[0,0],[0,0],[0,0],[0,0],[0,0],[0,0],[0,0],[0,0],[0,0],[0,0],[0,0],[0,0],[0,0],[0,0],[0,0]]) ([[0,0],[0,0]])) fun (a3_0,a3_1,a3_2,a3_3,a3_4)=>
 some (a3_0,a3_1,a3_2,a3_3,a3_4)
def qGK (x0 x1:List Int) (x2:Int):Option (Int×Nat×List Int×List Int×Int×List (List Int)×List (List Int)×Nat×List (List Int)):=
 ob (qHz x0 x1 x2) fun (a3_0,a3_1,a3_2,a3_3,a3_4)=>
 ob (qEK a3_0 a3_1 a3_2) fun a8=>
 some (a8,0,a3_0,a3_1,a3_2,a3_3,a3_4,0,[])
def qN1 (x0 x1 x2:Int) (x3:Bool):Option (Int):=
 br (decide (x1<0))
 (some (1))
 (br (decide (x1 >= 81))
 (some (1))
 (br (x2 != 0)
 (br (decide (x2<0))
 (some (70))
 (br (decide (x2 >= 8))
 (some (70))
 (br (x0 != 0)
 (some (70))
 (br (x3)
 (some (70))
 (some (0))))))
 (br (decide (x0<0))
 (some (1))
 (br (decide (x0 >= 81))
 (some (1))
 (br (x0==x1)
 (some (70))
 (some (0)))))))
def qCv (x0 x1:Int) (_x2 x3:List Int) (_x4:Int) (_x5 _x6:List (List Int)):Option (Int):=
 br (x0 != 0)
 (br (x0 != 1)
 (some (0))
 (br (decide (x1<1))
 (some (0))
 (br (decide (x1 >= 8))
 (some (0))
 (br (inB x0 2)
 (br (inB x1 8)
 (some (conv .i8 .i64 (List.getD x3 (Int.toNat x0*8+Int.toNat x1) 0)))
 (none))
 (none)))))
 (br (decide (x1<1))
 (some (0))
 (br (decide (x1 >= 8))
 (some (0))
 (br (inB x0 2)
 (br (inB x1 8)
 (some (conv .i8 .i64 (List.getD x3 (Int.toNat x0*8+Int.toNat x1) 0)))
 (none))
 (none))))
def qBI (x0:Int) (x1 _x2:List Int) (_x3:Int) (_x4 _x5:List (List Int)):Option (Int):=
 br (decide (x0<0))
 (some (0))
 (br (decide (x0 >= 81))
 (some (0))
 (br (inB x0 81)
 (some (List.getD x1 (Int.toNat x0) 0))
 (none)))
def qET (x0:Int):Option (Int):=
 br (x0==1)
 (some (IntKind.wrap .i64 (x0+8)))
 (br (x0==2)
 (some (IntKind.wrap .i64 (x0+8)))
 (br (x0==3)
 (some (IntKind.wrap .i64 (x0+8)))
 (br (x0==4)
 (some (IntKind.wrap .i64 (x0+8)))
 (br (x0==6)
 (some (IntKind.wrap .i64 (x0+8)))
 (br (x0==7)
 (some (IntKind.wrap .i64 (x0+8)))
 (some (0)))))))
def qMh (x0 x1 x2:Int) (x3:Bool) (_x4:Int) (_x5:Nat) (x6 x7:List Int) (x8:Int) (x9 x10:List (List Int)) (_x11:Nat) (_x12:List (List Int)):Option (Bool):=
 ob (qN1 x0 x1 x2 x3) fun a13=>
 br (a13 != 0)
 (some (false))
 (br (x8 != 0)
 (br (x8 != 1)
 (some (false))
 (br (x2 != 0)
 (ob (qCv x8 x2 x6 x7 x8 x9 x10) fun a14=>
 br (decide (a14>0))
 (ob (qBI x1 x6 x7 x8 x9 x10) fun a15=>
 some (a15==0))
 (some (false)))
 (ob (qBI x0 x6 x7 x8 x9 x10) fun a14=>
 ob (qBI x1 x6 x7 x8 x9 x10) fun a15=>
 ob (qAy a14) fun a16=>
 br (a16==x8)
 (ob (qAy a15) fun a17=>
 br (a17 != x8)
 (ob (qAQ a15) fun a18=>
 br (a18 != 8)
 (br (!x3)
 (some (true))
 (ob (qAQ a14) fun a19=>
 ob (qET a19) fun a20=>
 some (a20 != 0)))
 (some (false)))
 (some (false)))
 (some (false)))))
 (br (x2 != 0)
 (ob (qCv x8 x2 x6 x7 x8 x9 x10) fun a14=>
 br (decide (a14>0))
 (ob (qBI x1 x6 x7 x8 x9 x10) fun a15=>
 some (a15==0))
 (some (false)))
 (ob (qBI x0 x6 x7 x8 x9 x10) fun a14=>
 ob (qBI x1 x6 x7 x8 x9 x10) fun a15=>
 ob (qAy a14) fun a16=>
 br (a16==x8)
 (ob (qAy a15) fun a17=>
 br (a17 != x8)
 (ob (qAQ a15) fun a18=>
 br (a18 != 8)
 (br (!x3)
 (some (true))
 (ob (qAQ a14) fun a19=>
 ob (qET a19) fun a20=>
 some (a20 != 0)))
 (some (false)))
 (some (false)))
 (some (false)))))
def qFC (x0 x1:Int) (x2 x3:Int) (x4:Nat) (x5 x6:List Int) (x7:Int) (x8 x9:List (List Int)) (x10:Nat) (x11:List (List Int)):Option (Int×Nat×List Int×List Int×Int×List (List Int)×List (List Int)×Nat×List (List Int)):=
 ob (qCv x0 x1 x5 x6 x7 x8 x9) fun a12=>
 ob (qFJ x0 x1 a12) fun a13=>
 ob (qFJ x0 x1 (IntKind.wrap .i64 (a12+x2))) fun a14=>
 br (inB x0 2)
 (br (inB x1 8)
 (br (inB x0 2)
 (br (inB x1 8)
 (some (qE BinOp.xor .u64 x3 (qE BinOp.xor .u64 a13 a14),x4,x5,List.set x6 (Int.toNat x0*8+Int.toNat x1) (IntKind.wrap .i8 (List.getD x6 (Int.toNat x0*8+Int.toNat x1) 0+conv .i64 .i8 x2)),x7,x8,x9,x10,x11))
 (none))
 (none))
 (none))
 (none)
def qC1 (x0 x1 x2:Int) (x3:Nat) (x4 x5:List Int) (x6:Int) (x7 x8:List (List Int)) (x9:Nat) (x10:List (List Int)):Option (Int×Nat×List Int×List Int×Int×List (List Int)×List (List Int)×Nat×List (List Int)):=
 ob (qBI x0 x4 x5 x6 x7 x8) fun a11=>
 ob (qFL x0 a11) fun a12=>
 ob (qFL x0 x1) fun a13=>
 ob (qE9 x0 x1 x4 x5 x6 x7 x8) fun (a14_0,a14_1,a14_2,a14_3,a14_4)=>
 some (qE BinOp.xor .u64 x2 (qE BinOp.xor .u64 a12 a13),x3,a14_0,a14_1,a14_2,a14_3,a14_4,x9,x10)
def qEA (x0:Int) (x1:Nat) (x2 x3:List Int) (x4:Int) (x5 x6:List (List Int)) (x7:Nat) (x8:List (List Int)):Option (Int×Nat×List Int×List Int×Int×List (List Int)×List (List Int)×Nat×List (List Int)):=
 ob (qGh ) fun a9=>
 some (qE BinOp.xor .u64 x0 a9,x1,x2,x3,IntKind.wrap .i8 (1 - x4),x5,x6,x7,x8)
def qIc (x0:Int):Option (Int):=
 ob (qBj 0 x0) fun a1=>
 br (a1==0)
 (some (0))
 (br (decide (x0>8))
 (some (IntKind.wrap .i64 (x0 - 8)))
 (some (x0)))
def qMi (x0 x1 x2:Int) (x3:Bool) (x4:Int) (x5:Nat) (x6 x7:List Int) (x8:Int) (x9 x10:List (List Int)) (x11:Nat) (x12:List (List Int)):Option ((Bool×Int×Nat×List Int×List Int×Int×List (List Int)×List (List Int)×Nat×List (List Int))⊕(Bool×Int×Nat×List Int×List Int×Int×List (List Int)×List (List Int)×Nat×List (List Int))):=
 ob (qMh x0 x1 x2 x3 x4 x5 x6 x7 x8 x9 x10 x11 x12) fun a13=>
 br (!a13)
 (some (.inl (false,x4,x5,x6,x7,x8,x9,x10,x11,x12)))
 (ob (qBI x1 x6 x7 x8 x9 x10) fun a14=>
 br (x2 != 0)
 (ob (qBj x8 x2) fun a15=>
 ob (qFC x8 x2 (-1) x4 x5 x6 x7 x8 x9 x10 x11 x12) fun (a16_0,a16_1,a16_2,a16_3,a16_4,a16_5,a16_6,a16_7,a16_8)=>
 ob (qC1 x1 a15 a16_0 a16_1 a16_2 a16_3 a16_4 a16_5 a16_6 a16_7 a16_8) fun (a25_0,a25_1,a25_2,a25_3,a25_4,a25_5,a25_6,a25_7,a25_8)=>
 ob (qEA a25_0 a25_1 a25_2 a25_3 a25_4 a25_5 a25_6 a25_7 a25_8) fun (a34_0,a34_1,a34_2,a34_3,a34_4,a34_5,a34_6,_,a34_8)=>
 br (decide ((a34_1+1)*40<=140737488355328))
 (some (.inr (true,a34_0,a34_1+1,a34_2,a34_3,a34_4,a34_5,a34_6,a34_1+1,List.append (List.take a34_1 a34_8) [[x0,x1,x2,bi x3,a14,a15]])))
 (none))
 (ob (qBI x0 x6 x7 x8 x9 x10) fun a15=>
 br (x3)
 (ob (qAQ a15) fun a16=>
 ob (qET a16) fun a17=>
 ob (qBj x8 a17) fun a18=>
 ob (qC1 x0 0 x4 x5 x6 x7 x8 x9 x10 x11 x12) fun (a19_0,a19_1,a19_2,a19_3,a19_4,a19_5,a19_6,a19_7,a19_8)=>
 ob (qC1 x1 a18 a19_0 a19_1 a19_2 a19_3 a19_4 a19_5 a19_6 a19_7 a19_8) fun (a28_0,a28_1,a28_2,a28_3,a28_4,a28_5,a28_6,a28_7,a28_8)=>
 br (a14 != 0)
 (ob (qAQ a14) fun a37=>
 ob (qIc a37) fun a38=>
 ob (qFC x8 a38 1 a28_0 a28_1 a28_2 a28_3 a28_4 a28_5 a28_6 a28_7 a28_8) fun (a39_0,a39_1,a39_2,a39_3,a39_4,a39_5,a39_6,a39_7,a39_8)=>
 ob (qEA a39_0 a39_1 a39_2 a39_3 a39_4 a39_5 a39_6 a39_7 a39_8) fun (a48_0,a48_1,a48_2,a48_3,a48_4,a48_5,a48_6,_,a48_8)=>
 br (decide ((a48_1+1)*40<=140737488355328))
 (some (.inr (true,a48_0,a48_1+1,a48_2,a48_3,a48_4,a48_5,a48_6,a48_1+1,List.append (List.take a48_1 a48_8) [[x0,x1,x2,bi x3,a14,a15]])))
 (none))
 (ob (qEA a28_0 a28_1 a28_2 a28_3 a28_4 a28_5 a28_6 a28_7 a28_8) fun (a37_0,a37_1,a37_2,a37_3,a37_4,a37_5,a37_6,_,a37_8)=>
 br (decide ((a37_1+1)*40<=140737488355328))
 (some (.inr (true,a37_0,a37_1+1,a37_2,a37_3,a37_4,a37_5,a37_6,a37_1+1,List.append (List.take a37_1 a37_8) [[x0,x1,x2,bi x3,a14,a15]])))
 (none)))
 (ob (qC1 x0 0 x4 x5 x6 x7 x8 x9 x10 x11 x12) fun (a16_0,a16_1,a16_2,a16_3,a16_4,a16_5,a16_6,a16_7,a16_8)=>
 ob (qC1 x1 a15 a16_0 a16_1 a16_2 a16_3 a16_4 a16_5 a16_6 a16_7 a16_8) fun (a25_0,a25_1,a25_2,a25_3,a25_4,a25_5,a25_6,a25_7,a25_8)=>
 br (a14 != 0)
 (ob (qAQ a14) fun a34=>
 ob (qIc a34) fun a35=>
 ob (qFC x8 a35 1 a25_0 a25_1 a25_2 a25_3 a25_4 a25_5 a25_6 a25_7 a25_8) fun (a36_0,a36_1,a36_2,a36_3,a36_4,a36_5,a36_6,a36_7,a36_8)=>
 ob (qEA a36_0 a36_1 a36_2 a36_3 a36_4 a36_5 a36_6 a36_7 a36_8) fun (a45_0,a45_1,a45_2,a45_3,a45_4,a45_5,a45_6,_,a45_8)=>
 br (decide ((a45_1+1)*40<=140737488355328))
 (some (.inr (true,a45_0,a45_1+1,a45_2,a45_3,a45_4,a45_5,a45_6,a45_1+1,List.append (List.take a45_1 a45_8) [[x0,x1,x2,bi x3,a14,a15]])))
 (none))
 (ob (qEA a25_0 a25_1 a25_2 a25_3 a25_4 a25_5 a25_6 a25_7 a25_8) fun (a34_0,a34_1,a34_2,a34_3,a34_4,a34_5,a34_6,_,a34_8)=>
 br (decide ((a34_1+1)*40<=140737488355328))
 (some (.inr (true,a34_0,a34_1+1,a34_2,a34_3,a34_4,a34_5,a34_6,a34_1+1,List.append (List.take a34_1 a34_8) [[x0,x1,x2,bi x3,a14,a15]])))
 (none)))))
def qGJ (x0:Int) (x1:Nat) (x2 x3:List Int) (x4:Int) (x5 x6:List (List Int)) (x7:Nat) (x8:List (List Int)):Option (Bool×Int×Nat×List Int×List Int×Int×List (List Int)×List (List Int)×Nat×List (List Int)):=
 br (Int.ofNat x1==0)
 (some (false,x0,x1,x2,x3,x4,x5,x6,x7,x8))
 (br (inB (IntKind.wrap .i64 (Int.ofNat x1 - 1)) x1)
 (br (qAd (IntKind.wrap .i64 (Int.ofNat x1 - 1)) x1)
 (ob (qEA x0 (Int.toNat (IntKind.wrap .i64 (Int.ofNat x1 - 1)) - 0) x2 x3 x4 x5 x6 x7 x8) fun (a9_0,a9_1,a9_2,a9_3,a9_4,a9_5,a9_6,a9_7,a9_8)=>
 br (List.headD (List.tail (List.tail (List.take 6 (List.getD x8 (Int.toNat (IntKind.wrap .i64 (Int.ofNat x1 - 1))) [])))) 0 != 0)
 (ob (qC1 (List.headD (List.tail (List.take 6 (List.getD x8 (Int.toNat (IntKind.wrap .i64 (Int.ofNat x1 - 1))) []))) 0) 0 a9_0 a9_1 a9_2 a9_3 a9_4 a9_5 a9_6 a9_7 a9_8) fun (a18_0,a18_1,a18_2,a18_3,a18_4,a18_5,a18_6,a18_7,a18_8)=>
 ob (qFC a9_4 (List.headD (List.tail (List.tail (List.take 6 (List.getD x8 (Int.toNat (IntKind.wrap .i64 (Int.ofNat x1 - 1))) [])))) 0) 1 a18_0 a18_1 a18_2 a18_3 a18_4 a18_5 a18_6 a18_7 a18_8) fun (a27_0,a27_1,a27_2,a27_3,a27_4,a27_5,a27_6,a27_7,a27_8)=>
 some (true,a27_0,a27_1,a27_2,a27_3,a27_4,a27_5,a27_6,a27_7,a27_8))
 (ob (qC1 (List.headD (List.tail (List.take 6 (List.getD x8 (Int.toNat (IntKind.wrap .i64 (Int.ofNat x1 - 1))) []))) 0) (List.headD (List.tail (List.tail (List.tail (List.tail (List.take 6 (List.getD x8 (Int.toNat (IntKind.wrap .i64 (Int.ofNat x1 - 1))) [])))))) 0) a9_0 a9_1 a9_2 a9_3 a9_4 a9_5 a9_6 a9_7 a9_8) fun (a18_0,a18_1,a18_2,a18_3,a18_4,a18_5,a18_6,a18_7,a18_8)=>
 ob (qC1 (List.headD (List.take 6 (List.getD x8 (Int.toNat (IntKind.wrap .i64 (Int.ofNat x1 - 1))) [])) 0) (List.headD (List.tail (List.tail (List.tail (List.tail (List.tail (List.take 6 (List.getD x8 (Int.toNat (IntKind.wrap .i64 (Int.ofNat x1 - 1))) []))))))) 0) a18_0 a18_1 a18_2 a18_3 a18_4 a18_5 a18_6 a18_7 a18_8) fun (a27_0,a27_1,a27_2,a27_3,a27_4,a27_5,a27_6,a27_7,a27_8)=>
 br (List.headD (List.tail (List.tail (List.tail (List.tail (List.take 6 (List.getD x8 (Int.toNat (IntKind.wrap .i64 (Int.ofNat x1 - 1))) [])))))) 0 != 0)
 (ob (qAQ (List.headD (List.tail (List.tail (List.tail (List.tail (List.take 6 (List.getD x8 (Int.toNat (IntKind.wrap .i64 (Int.ofNat x1 - 1))) [])))))) 0)) fun a36=>
 ob (qIc a36) fun a37=>
 ob (qFC a9_4 a37 (-1) a27_0 a27_1 a27_2 a27_3 a27_4 a27_5 a27_6 a27_7 a27_8) fun (a38_0,a38_1,a38_2,a38_3,a38_4,a38_5,a38_6,a38_7,a38_8)=>
 some (true,a38_0,a38_1,a38_2,a38_3,a38_4,a38_5,a38_6,a38_7,a38_8))
 (some (true,a27_0,a27_1,a27_2,a27_3,a27_4,a27_5,a27_6,a27_7,a27_8))))
 (none))
 (none))
def qAK (x0:Int):Option (Int):=
 br (decide (x0<1))
 (some (0))
 (br (decide (x0>31))
 (some (0))
 (br (x0==13)
 (some (0))
 (br (x0==16)
 (some (0))
 (br (x0==29)
 (some (0))
 (some (Int.tmod x0 16))))))
def qDE (rec:Int->Int->Int->Int->List Int->List Int->Int->Option (Int)) (x0 x1:Int) (x2 x3:Int) (x4 x5:List Int) (x6:Int):Option (Int):=
 br (decide (x3<9))
 (br (inB (IntKind.wrap .i64 (IntKind.wrap .i64 (9*x1)+x3)) 81)
 (br (conv .i8 .i64 (List.getD x4 (Int.toNat (IntKind.wrap .i64 (IntKind.wrap .i64 (9*x1)+x3))) 0)==x0)
 (rec x0 x1 (IntKind.wrap .i64 (x2+1)) (IntKind.wrap .i64 (x3+1)) x4 x5 x6)
 (rec x0 x1 x2 (IntKind.wrap .i64 (x3+1)) x4 x5 x6))
 (none))
 (some (x2))
def qCJ:Nat->Int->Int->Int->Int->List Int->List Int->Int->Option (Int)
 | 0,_,_,_,_,_,_,_=>none
 | f+1,x0,x1,x2,x3,x4,x5,x6=>qDE (qCJ f) x0 x1 x2 x3 x4 x5 x6
def qDD (x0 x1:List Int) (x2 x3 x4:Int):Option (Int):=
 ob (qCJ qC x3 x4 0 0 x0 x1 x2) fun a5=>
 some (a5)
def qDF (rec:Int->Int->Int->List Int->List Int->Int->Option (Int)) (x0 x1 x2:Int) (x3 x4:List Int) (x5:Int):Option (Int):=
 br (decide (x2<9))
 (ob (qDD x3 x4 x5 x0 x2) fun a10=>
 rec x0 (IntKind.wrap .i64 (x1+a10)) (IntKind.wrap .i64 (x2+1)) x3 x4 x5)
 (some (x1))
def qCK:Nat->Int->Int->Int->List Int->List Int->Int->Option (Int)
 | 0,_,_,_,_,_,_=>none
 | f+1,x0,x1,x2,x3,x4,x5=>qDF (qCK f) x0 x1 x2 x3 x4 x5
def qB2 (x0 x1:List Int) (x2 x3:Int):Option (Int):=
 ob (qCK qC x3 0 0 x0 x1 x2) fun a4=>
 some (a4)
def qG5 (x0:Int):Option (Int):=
 br (decide (x0<1))
 (some (0))
 (br (decide (x0>15))
 (some (0))
 (br (x0==13)
 (some (0))
 (br (decide (x0>8))
 (some (IntKind.wrap .i64 (x0 - 8)))
 (some (x0)))))
def qHA (rec:Int->Int->Int->List Int->List Int->Int->Option (Int×Int×List Int×List Int×Int)) (x0 x1 x2:Int) (x3 x4:List Int) (x5:Int):Option (Int×Int×List Int×List Int×Int):=
 br (decide (x2<81))
 (br (inB x2 81)
 (ob (qAK (conv .i8 .i64 (List.getD x3 (Int.toNat x2) 0))) fun a10=>
 ob (qG5 a10) fun a11=>
 br (a11==x0)
 (rec x0 (IntKind.wrap .i64 (x1+1)) (IntKind.wrap .i64 (x2+1)) x3 x4 x5)
 (rec x0 x1 (IntKind.wrap .i64 (x2+1)) x3 x4 x5))
 (none))
 (some (x0,x1,x3,x4,x5))
def qEd:Nat->Int->Int->Int->List Int->List Int->Int->Option (Int×Int×List Int×List Int×Int)
 | 0,_,_,_,_,_,_=>none
 | f+1,x0,x1,x2,x3,x4,x5=>qHA (qEd f) x0 x1 x2 x3 x4 x5
def qIi (x0 x1:List Int) (x2 x3:Int):Option (Int):=
 ob (qEd qC x3 0 0 x0 x1 x2) fun (a4_0,a4_1,_,a4_3,_)=>
 br (inB a4_0 8)
 (br (inB a4_0 8)
 (some (IntKind.wrap .i64 (IntKind.wrap .i64 (a4_1+conv .i8 .i64 (List.getD a4_3 (0+Int.toNat a4_0) 0))+conv .i8 .i64 (List.getD a4_3 (8+Int.toNat a4_0) 0))))
 (none))
 (none)
def qIf (x0:Int):Option (Int):=
 br (decide (x0<1))
 (some (0))
 (br (decide (x0>8))
 (some (0))
 (br (inB x0 9)
 (some (List.getD [0,18,4,4,4,4,2,2,2] (Int.toNat x0) 0))
 (none)))
def qA0 (x0:Int):Option (Int):=
 ob (qAK x0) fun a1=>
 br (a1==0)
 (some (-1))
 (some (IntKind.wrap .i64 (Int.tdiv x0 16)))
def qCm (x0 x1:Int):Option (Int):=
 br (decide (x1<0))
 (some (-1))
 (br (decide (x1>80))
 (some (-1))
 (br (decide (x0<0))
 (some (-1))
 (br (decide (x0>1))
 (some (-1))
 (br (x0==0)
 (some (Int.tmod x1 9))
 (some (IntKind.wrap .i64 (8 - Int.tmod x1 9)))))))
def qCl (x0 x1:Int):Option (Bool):=
 ob (qA0 x0) fun a2=>
 ob (qCm a2 x1) fun a3=>
 ob (qAK x0) fun a4=>
 br (a4==1)
 (br (a3==0)
 (some (true))
 (br (a4==3)
 (br (a3==0)
 (some (true))
 (some (a3==1)))
 (some (false))))
 (br (a4==2)
 (br (a3==0)
 (some (true))
 (br (a4==3)
 (br (a3==0)
 (some (true))
 (some (a3==1)))
 (some (false))))
 (br (a4==3)
 (br (a3==0)
 (some (true))
 (some (a3==1)))
 (some (false))))
def qDB (rec:Int->List Int->List Int->Int->Option ((Int×List Int×List Int×Int)⊕(List Int×List Int×Int))) (x0:Int) (x1 x2:List Int) (x3:Int):Option ((Int×List Int×List Int×Int)⊕(List Int×List Int×Int)):=
 br (decide (x0<81))
 (br (inB x0 81)
 (br (List.getD x1 (Int.toNat x0) 0 != 0)
 (br (inB x0 81)
 (ob (qAK (conv .i8 .i64 (List.getD x1 (Int.toNat x0) 0))) fun a7=>
 br (a7==0)
 (some (.inl (55,x1,x2,x3)))
 (rec (IntKind.wrap .i64 (x0+1)) x1 x2 x3))
 (none))
 (rec (IntKind.wrap .i64 (x0+1)) x1 x2 x3))
 (none))
 (some (.inr (x1,x2,x3)))
def qBm:Nat->Int->List Int->List Int->Int->Option ((Int×List Int×List Int×Int)⊕(List Int×List Int×Int))
 | 0,_,_,_,_=>none
 | f+1,x0,x1,x2,x3=>qDB (qBm f) x0 x1 x2 x3
def qC7 (rec:Int->Int->List Int->List Int->Int->Option ((Int×Int×List Int×List Int×Int)⊕(Int×List Int×List Int×Int))) (x0 x1:Int) (x2 x3:List Int) (x4:Int):Option ((Int×Int×List Int×List Int×Int)⊕(Int×List Int×List Int×Int)):=
 br (decide (x1<2))
 (br (inB x1 2)
 (br (inB x0 8)
 (br (decide (List.getD x3 (Int.toNat x1*8+Int.toNat x0) 0<0))
 (some (.inl (55,x0,x2,x3,x4)))
 (br (x0==0)
 (br (List.getD x3 (Int.toNat x1*8+Int.toNat x0) 0 != 0)
 (some (.inl (55,x0,x2,x3,x4)))
 (rec x0 (IntKind.wrap .i64 (x1+1)) x2 x3 x4))
 (rec x0 (IntKind.wrap .i64 (x1+1)) x2 x3 x4)))
 (none))
 (none))
 (some (.inr (x0,x2,x3,x4)))
def qBN:Nat->Int->Int->List Int->List Int->Int->Option ((Int×Int×List Int×List Int×Int)⊕(Int×List Int×List Int×Int))
 | 0,_,_,_,_,_=>none
 | f+1,x0,x1,x2,x3,x4=>qC7 (qBN f) x0 x1 x2 x3 x4
def qDC (rec:Int->List Int->List Int->Int->Option ((Int×List Int×List Int×Int)⊕(List Int×List Int×Int))) (x0:Int) (x1 x2:List Int) (x3:Int):Option ((Int×List Int×List Int×Int)⊕(List Int×List Int×Int)):=
 br (decide (x0<8))
 (ob (qBN qC x0 0 x1 x2 x3) fun t10_2=>
 sw t10_2 (fun (a10_0,_,a10_2,a10_3,a10_4)=>
 some (.inl (a10_0,a10_2,a10_3,a10_4)))
 (fun (a10_0,a10_1,a10_2,a10_3)=>
 rec (IntKind.wrap .i64 (a10_0+1)) a10_1 a10_2 a10_3))
 (some (.inr (x1,x2,x3)))
def qBE:Nat->Int->List Int->List Int->Int->Option ((Int×List Int×List Int×Int)⊕(List Int×List Int×Int))
 | 0,_,_,_,_=>none
 | f+1,x0,x1,x2,x3=>qDC (qBE f) x0 x1 x2 x3
def qC8 (rec:Int->List Int->List Int->Int->Option ((Int×List Int×List Int×Int)⊕(List Int×List Int×Int))) (x0:Int) (x1 x2:List Int) (x3:Int):Option ((Int×List Int×List Int×Int)⊕(List Int×List Int×Int)):=
 br (decide (x0<8))
 (ob (qIi x1 x2 x3 x0) fun a15=>
 ob (qIf x0) fun a16=>
 br (decide (a15>a16))
 (some (.inl (51,x1,x2,x3)))
 (rec (IntKind.wrap .i64 (x0+1)) x1 x2 x3))
 (some (.inr (x1,x2,x3)))
def qBB:Nat->Int->List Int->List Int->Int->Option ((Int×List Int×List Int×Int)⊕(List Int×List Int×Int))
 | 0,_,_,_,_=>none
 | f+1,x0,x1,x2,x3=>qC8 (qBB f) x0 x1 x2 x3
def qC9 (rec:Int->List Int->List Int->Int->Option ((Int×List Int×List Int×Int)⊕(List Int×List Int×Int))) (x0:Int) (x1 x2:List Int) (x3:Int):Option ((Int×List Int×List Int×Int)⊕(List Int×List Int×Int)):=
 br (decide (x0<81))
 (br (inB x0 81)
 (ob (qCl (conv .i8 .i64 (List.getD x1 (Int.toNat x0) 0)) x0) fun a18=>
 br (a18)
 (some (.inl (52,x1,x2,x3)))
 (rec (IntKind.wrap .i64 (x0+1)) x1 x2 x3))
 (none))
 (some (.inr (x1,x2,x3)))
def qBC:Nat->Int->List Int->List Int->Int->Option ((Int×List Int×List Int×Int)⊕(List Int×List Int×Int))
 | 0,_,_,_,_=>none
 | f+1,x0,x1,x2,x3=>qC9 (qBC f) x0 x1 x2 x3
def qDA (rec:Int->List Int->List Int->Int->Option ((Int)⊕(Unit))) (x0:Int) (x1 x2:List Int) (x3:Int):Option ((Int)⊕(Unit)):=
 br (decide (x0<9))
 (ob (qDD x1 x2 x3 1 x0) fun a21=>
 br (decide (a21>1))
 (some (.inl (53)))
 (ob (qDD x1 x2 x3 17 x0) fun a22=>
 br (decide (a22>1))
 (some (.inl (53)))
 (rec (IntKind.wrap .i64 (x0+1)) x1 x2 x3)))
 (some (.inr ()))
def qBD:Nat->Int->List Int->List Int->Int->Option ((Int)⊕(Unit))
 | 0,_,_,_,_=>none
 | f+1,x0,x1,x2,x3=>qDA (qBD f) x0 x1 x2 x3
def qEc (x0 x1:List Int) (x2:Int):Option (Int):=
 br (x2 != 0)
 (br (x2 != 1)
 (some (1))
 (ob (qBm qC 0 x0 x1 x2) fun t3_2=>
 sw t3_2 (fun (a3_0,_,_,_)=>
 some (a3_0))
 (fun (a3_0,a3_1,a3_2)=>
 ob (qBE qC 0 a3_0 a3_1 a3_2) fun t6_2=>
 sw t6_2 (fun (a6_0,_,_,_)=>
 some (a6_0))
 (fun (a6_0,a6_1,a6_2)=>
 ob (qB2 a6_0 a6_1 a6_2 8) fun a9=>
 br (a9 != 1)
 (some (50))
 (ob (qB2 a6_0 a6_1 a6_2 24) fun a10=>
 br (a10 != 1)
 (some (50))
 (ob (qBB qC 1 a6_0 a6_1 a6_2) fun t11_2=>
 sw t11_2 (fun (a11_0,_,_,_)=>
 some (a11_0))
 (fun (a11_0,a11_1,a11_2)=>
 ob (qBC qC 0 a11_0 a11_1 a11_2) fun t14_2=>
 sw t14_2 (fun (a14_0,_,_,_)=>
 some (a14_0))
 (fun (a14_0,a14_1,a14_2)=>
 ob (qBD qC 0 a14_0 a14_1 a14_2) fun t17_2=>
 sw t17_2 (fun a17=>
 some (a17))
 (fun _=>
 some (0))))))))))
 (ob (qBm qC 0 x0 x1 x2) fun t3_2=>
 sw t3_2 (fun (a3_0,_,_,_)=>
 some (a3_0))
 (fun (a3_0,a3_1,a3_2)=>
 ob (qBE qC 0 a3_0 a3_1 a3_2) fun t6_2=>
 sw t6_2 (fun (a6_0,_,_,_)=>
 some (a6_0))
 (fun (a6_0,a6_1,a6_2)=>
 ob (qB2 a6_0 a6_1 a6_2 8) fun a9=>
 br (a9 != 1)
 (some (50))
 (ob (qB2 a6_0 a6_1 a6_2 24) fun a10=>
 br (a10 != 1)
 (some (50))
 (ob (qBB qC 1 a6_0 a6_1 a6_2) fun t11_2=>
 sw t11_2 (fun (a11_0,_,_,_)=>
 some (a11_0))
 (fun (a11_0,a11_1,a11_2)=>
 ob (qBC qC 0 a11_0 a11_1 a11_2) fun t14_2=>
 sw t14_2 (fun (a14_0,_,_,_)=>
 some (a14_0))
 (fun (a14_0,a14_1,a14_2)=>
 ob (qBD qC 0 a14_0 a14_1 a14_2) fun t17_2=>
 sw t17_2 (fun a17=>
 some (a17))
 (fun _=>
 some (0)))))))))
def qCc (_x0 _x1:List Int) (_x2:Int) (_x3 x4:List (List Int)):Option (Int×Int):=
 ob (qDM (List.headD (List.take 2 (List.getD x4 0 [])) 0) (List.headD (List.tail (List.take 2 (List.getD x4 0 []))) 0) (List.headD (List.take 2 (List.getD x4 1 [])) 0) (List.headD (List.tail (List.take 2 (List.getD x4 1 []))) 0)) fun (a5_0,a5_1)=>
 some (a5_0,a5_1)
def qE5 (x0:Int):Option (Int):=
 some (qE BinOp.and .i64 (conv .u64 .i64 (IntKind.wrap .u64 (IntKind.wrap .u64 (IntKind.wrap .u64 (qE BinOp.and .u64 (IntKind.wrap .u64 (Int.fdiv (IntKind.wrap .u64 (qE BinOp.and .u64 (Int.fdiv (IntKind.wrap .u64 (qE BinOp.and .u64 (Int.fdiv x0 2) 6148914691236517205+qE BinOp.and .u64 x0 6148914691236517205)) 4) 3689348814741910323+qE BinOp.and .u64 (IntKind.wrap .u64 (qE BinOp.and .u64 (Int.fdiv x0 2) 6148914691236517205+qE BinOp.and .u64 x0 6148914691236517205)) 3689348814741910323)) 16+IntKind.wrap .u64 (qE BinOp.and .u64 (Int.fdiv (IntKind.wrap .u64 (qE BinOp.and .u64 (Int.fdiv x0 2) 6148914691236517205+qE BinOp.and .u64 x0 6148914691236517205)) 4) 3689348814741910323+qE BinOp.and .u64 (IntKind.wrap .u64 (qE BinOp.and .u64 (Int.fdiv x0 2) 6148914691236517205+qE BinOp.and .u64 x0 6148914691236517205)) 3689348814741910323))) 1085102592571150095+Int.fdiv (qE BinOp.and .u64 (IntKind.wrap .u64 (Int.fdiv (IntKind.wrap .u64 (qE BinOp.and .u64 (Int.fdiv (IntKind.wrap .u64 (qE BinOp.and .u64 (Int.fdiv x0 2) 6148914691236517205+qE BinOp.and .u64 x0 6148914691236517205)) 4) 3689348814741910323+qE BinOp.and .u64 (IntKind.wrap .u64 (qE BinOp.and .u64 (Int.fdiv x0 2) 6148914691236517205+qE BinOp.and .u64 x0 6148914691236517205)) 3689348814741910323)) 16+IntKind.wrap .u64 (qE BinOp.and .u64 (Int.fdiv (IntKind.wrap .u64 (qE BinOp.and .u64 (Int.fdiv x0 2) 6148914691236517205+qE BinOp.and .u64 x0 6148914691236517205)) 4) 3689348814741910323+qE BinOp.and .u64 (IntKind.wrap .u64 (qE BinOp.and .u64 (Int.fdiv x0 2) 6148914691236517205+qE BinOp.and .u64 x0 6148914691236517205)) 3689348814741910323))) 1085102592571150095) 256)+Int.fdiv (IntKind.wrap .u64 (qE BinOp.and .u64 (IntKind.wrap .u64 (Int.fdiv (IntKind.wrap .u64 (qE BinOp.and .u64 (Int.fdiv (IntKind.wrap .u64 (qE BinOp.and .u64 (Int.fdiv x0 2) 6148914691236517205+qE BinOp.and .u64 x0 6148914691236517205)) 4) 3689348814741910323+qE BinOp.and .u64 (IntKind.wrap .u64 (qE BinOp.and .u64 (Int.fdiv x0 2) 6148914691236517205+qE BinOp.and .u64 x0 6148914691236517205)) 3689348814741910323)) 16+IntKind.wrap .u64 (qE BinOp.and .u64 (Int.fdiv (IntKind.wrap .u64 (qE BinOp.and .u64 (Int.fdiv x0 2) 6148914691236517205+qE BinOp.and .u64 x0 6148914691236517205)) 4) 3689348814741910323+qE BinOp.and .u64 (IntKind.wrap .u64 (qE BinOp.and .u64 (Int.fdiv x0 2) 6148914691236517205+qE BinOp.and .u64 x0 6148914691236517205)) 3689348814741910323))) 1085102592571150095+Int.fdiv (qE BinOp.and .u64 (IntKind.wrap .u64 (Int.fdiv (IntKind.wrap .u64 (qE BinOp.and .u64 (Int.fdiv (IntKind.wrap .u64 (qE BinOp.and .u64 (Int.fdiv x0 2) 6148914691236517205+qE BinOp.and .u64 x0 6148914691236517205)) 4) 3689348814741910323+qE BinOp.and .u64 (IntKind.wrap .u64 (qE BinOp.and .u64 (Int.fdiv x0 2) 6148914691236517205+qE BinOp.and .u64 x0 6148914691236517205)) 3689348814741910323)) 16+IntKind.wrap .u64 (qE BinOp.and .u64 (Int.fdiv (IntKind.wrap .u64 (qE BinOp.and .u64 (Int.fdiv x0 2) 6148914691236517205+qE BinOp.and .u64 x0 6148914691236517205)) 4) 3689348814741910323+qE BinOp.and .u64 (IntKind.wrap .u64 (qE BinOp.and .u64 (Int.fdiv x0 2) 6148914691236517205+qE BinOp.and .u64 x0 6148914691236517205)) 3689348814741910323))) 1085102592571150095) 256)) 65536)+Int.fdiv (IntKind.wrap .u64 (IntKind.wrap .u64 (qE BinOp.and .u64 (IntKind.wrap .u64 (Int.fdiv (IntKind.wrap .u64 (qE BinOp.and .u64 (Int.fdiv (IntKind.wrap .u64 (qE BinOp.and .u64 (Int.fdiv x0 2) 6148914691236517205+qE BinOp.and .u64 x0 6148914691236517205)) 4) 3689348814741910323+qE BinOp.and .u64 (IntKind.wrap .u64 (qE BinOp.and .u64 (Int.fdiv x0 2) 6148914691236517205+qE BinOp.and .u64 x0 6148914691236517205)) 3689348814741910323)) 16+IntKind.wrap .u64 (qE BinOp.and .u64 (Int.fdiv (IntKind.wrap .u64 (qE BinOp.and .u64 (Int.fdiv x0 2) 6148914691236517205+qE BinOp.and .u64 x0 6148914691236517205)) 4) 3689348814741910323+qE BinOp.and .u64 (IntKind.wrap .u64 (qE BinOp.and .u64 (Int.fdiv x0 2) 6148914691236517205+qE BinOp.and .u64 x0 6148914691236517205)) 3689348814741910323))) 1085102592571150095+Int.fdiv (qE BinOp.and .u64 (IntKind.wrap .u64 (Int.fdiv (IntKind.wrap .u64 (qE BinOp.and .u64 (Int.fdiv (IntKind.wrap .u64 (qE BinOp.and .u64 (Int.fdiv x0 2) 6148914691236517205+qE BinOp.and .u64 x0 6148914691236517205)) 4) 3689348814741910323+qE BinOp.and .u64 (IntKind.wrap .u64 (qE BinOp.and .u64 (Int.fdiv x0 2) 6148914691236517205+qE BinOp.and .u64 x0 6148914691236517205)) 3689348814741910323)) 16+IntKind.wrap .u64 (qE BinOp.and .u64 (Int.fdiv (IntKind.wrap .u64 (qE BinOp.and .u64 (Int.fdiv x0 2) 6148914691236517205+qE BinOp.and .u64 x0 6148914691236517205)) 4) 3689348814741910323+qE BinOp.and .u64 (IntKind.wrap .u64 (qE BinOp.and .u64 (Int.fdiv x0 2) 6148914691236517205+qE BinOp.and .u64 x0 6148914691236517205)) 3689348814741910323))) 1085102592571150095) 256)+Int.fdiv (IntKind.wrap .u64 (qE BinOp.and .u64 (IntKind.wrap .u64 (Int.fdiv (IntKind.wrap .u64 (qE BinOp.and .u64 (Int.fdiv (IntKind.wrap .u64 (qE BinOp.and .u64 (Int.fdiv x0 2) 6148914691236517205+qE BinOp.and .u64 x0 6148914691236517205)) 4) 3689348814741910323+qE BinOp.and .u64 (IntKind.wrap .u64 (qE BinOp.and .u64 (Int.fdiv x0 2) 6148914691236517205+qE BinOp.and .u64 x0 6148914691236517205)) 3689348814741910323)) 16+IntKind.wrap .u64 (qE BinOp.and .u64 (Int.fdiv (IntKind.wrap .u64 (qE BinOp.and .u64 (Int.fdiv x0 2) 6148914691236517205+qE BinOp.and .u64 x0 6148914691236517205)) 4) 3689348814741910323+qE BinOp.and .u64 (IntKind.wrap .u64 (qE BinOp.and .u64 (Int.fdiv x0 2) 6148914691236517205+qE BinOp.and .u64 x0 6148914691236517205)) 3689348814741910323))) 1085102592571150095+Int.fdiv (qE BinOp.and .u64 (IntKind.wrap .u64 (Int.fdiv (IntKind.wrap .u64 (qE BinOp.and .u64 (Int.fdiv (IntKind.wrap .u64 (qE BinOp.and .u64 (Int.fdiv x0 2) 6148914691236517205+qE BinOp.and .u64 x0 6148914691236517205)) 4) 3689348814741910323+qE BinOp.and .u64 (IntKind.wrap .u64 (qE BinOp.and .u64 (Int.fdiv x0 2) 6148914691236517205+qE BinOp.and .u64 x0 6148914691236517205)) 3689348814741910323)) 16+IntKind.wrap .u64 (qE BinOp.and .u64 (Int.fdiv (IntKind.wrap .u64 (qE BinOp.and .u64 (Int.fdiv x0 2) 6148914691236517205+qE BinOp.and .u64 x0 6148914691236517205)) 4) 3689348814741910323+qE BinOp.and .u64 (IntKind.wrap .u64 (qE BinOp.and .u64 (Int.fdiv x0 2) 6148914691236517205+qE BinOp.and .u64 x0 6148914691236517205)) 3689348814741910323))) 1085102592571150095) 256)) 65536)) 4294967296))) 127)
def qHX (x0 x1:Int):Option (Int):=
 ob (qE5 x0) fun a2=>
 ob (qE5 x1) fun a3=>
 some (IntKind.wrap .i64 (a2+a3))
def qCw (x0 x1:Int) (_x2 _x3:List Int) (_x4:Int) (x5 _x6:List (List Int)):Option (Int×Int):=
 ob (qBj x0 x1) fun a7=>
 br (a7==0)
 (some (0,0))
 (br (inB a7 32)
 (some (List.headD (List.take 2 (List.getD x5 (Int.toNat a7) [])) 0,List.headD (List.tail (List.take 2 (List.getD x5 (Int.toNat a7) []))) 0))
 (none))
def qMH (BBB:Bool->Option (Int)->Option (Int)->Option (Int)) (x0:Int):Option (Int):=
 br (x0==0)
 (some (64))
 (BBB (inB (Int.fdiv (IntKind.wrap .u64 (qE BinOp.and .u64 x0 (IntKind.wrap .u64 (0 - x0))*285870213051353865)) 288230376151711744) 64)
 (some (conv .u8 .i64 (List.getD [0,1,56,2,57,49,28,3,61,58,42,50,38,29,17,4,62,47,59,36,45,43,51,22,53,39,33,30,24,18,12,5,63,55,48,27,60,41,37,16,46,35,44,21,52,32,23,11,54,26,40,15,34,20,31,10,25,14,19,9,13,8,7,6] (Int.toNat (Int.fdiv (IntKind.wrap .u64 (qE BinOp.and .u64 x0 (IntKind.wrap .u64 (0 - x0))*285870213051353865)) 288230376151711744)) 0)))
 (none))
def qD7 (x0:Int):Option (Int):=qMH br x0
def qFl (x0 x1:Int):Option (Int):=
 br (x0 != 0)
 (ob (qD7 x0) fun a2=>
 some (a2))
 (br (x1 != 0)
 (ob (qD7 x1) fun a2=>
 some (IntKind.wrap .i64 (63+a2)))
 (some (-1)))
def qE7 (x0:Int) (x1 x2:List Int) (x3:Int) (x4 x5:List (List Int)):Option (Int):=
 ob (qCw x0 8 x1 x2 x3 x4 x5) fun (a6_0,a6_1)=>
 ob (qFl a6_0 a6_1) fun a8=>
 some (a8)
def qEs (x0:Int):Option (Int):=
 some (Int.tmod x0 9)
def qEx (x0 x1:Int):Option (Int):=
 br (decide (x1<0))
 (some (-1))
 (br (decide (x1 >= 81))
 (some (-1))
 (br (x0==0)
 (ob (qEs x1) fun a2=>
 some (a2))
 (br (x0==1)
 (ob (qEs x1) fun a2=>
 some (IntKind.wrap .i64 (8 - a2)))
 (some (-1)))))
def qDw (x0 x1:Int):Option (Bool):=
 ob (qAy x0) fun a2=>
 ob (qEx a2 x1) fun a3=>
 ob (qAQ x0) fun a4=>
 br (a4==1)
 (some (a3==0))
 (br (a4==2)
 (some (a3==0))
 (br (a4==3)
 (br (a3==0)
 (some (true))
 (some (a3==1)))
 (some (false))))
def qaJ (rec:Int->Int->Int->Int->Int->Int->Option (Int×Int×Int×Int)) (x0 x1:Int) (x2 x3:Int) (x4 x5:Int):Option (Int×Int×Int×Int):=
 br (decide (x1<9))
 (ob (qHc x0 x1) fun a7=>
 ob (qA1 x4 x5 a7) fun (a8_0,a8_1)=>
 rec x0 (IntKind.wrap .i64 (x1+1)) x2 x3 a8_0 a8_1)
 (some (x2,x3,x4,x5))
def qLG:Nat->Int->Int->Int->Int->Int->Int->Option (Int×Int×Int×Int)
 | 0,_,_,_,_,_,_=>none
 | f+1,x0,x1,x2,x3,x4,x5=>qaJ (qLG f) x0 x1 x2 x3 x4 x5
def qIy (x0:Int):Option (Int×Int):=
 ob (qLG qC x0 0 0 0 0 0) fun (_,_,a1_2,a1_3)=>
 some (a1_2,a1_3)
def qCn (x0 x1:Int) (x2 x3:Int):Option (Int×Int):=
 some (qE BinOp.and .u64 x0 x2,qE BinOp.and .u64 x1 x3)
def qJU (x0 x1:List Int) (x2:Int) (x3 x4:List (List Int)):Option (List Int×List Int×Int×List (List Int)×List (List Int)):=
 some (x0,x1,x2,x3,x4)
def qE8 (x0:Int) (_x1 _x2:List Int) (_x3:Int) (_x4 x5:List (List Int)):Option (Int×Int):=
 br (x0 != 0)
 (br (x0 != 1)
 (some (0,0))
 (br (inB x0 2)
 (some (List.headD (List.take 2 (List.getD x5 (Int.toNat x0) [])) 0,List.headD (List.tail (List.take 2 (List.getD x5 (Int.toNat x0) []))) 0))
 (none)))
 (br (inB x0 2)
 (some (List.headD (List.take 2 (List.getD x5 (Int.toNat x0) [])) 0,List.headD (List.tail (List.take 2 (List.getD x5 (Int.toNat x0) []))) 0))
 (none))
def qEp (x0 x1:Int):Option (Bool):=
 some (x0==0&&x1==0)
def qB3 (x0 x1 x2:Int):Option (Bool):=
 ob (qEu x2) fun (a3_0,a3_1)=>
 ob (qCn x0 x1 a3_0 a3_1) fun (a5_0,a5_1)=>
 ob (qEp a5_0 a5_1) fun a7=>
 some (!a7)
def qFi:Option (Int×Int):=
 some (9223372036854775807,262143)
def qLK (rec:Nat->Int->Int->Nat->List Int->Option (Nat×Int×Int×Nat×List Int)) (x0:Nat) (x1 x2:Int) (x3:Nat) (x4:List Int):Option (Nat×Int×Int×Nat×List Int):=
 br (x1 != 0)
 (ob (qD7 x1) fun a7=>
 br (decide ((x0+1)*8<=140737488355328))
 (rec (x0+1) (qE BinOp.and .u64 x1 (IntKind.wrap .u64 (x1 - 1))) x2 (x0+1) (List.append (List.take x0 x4) [a7]))
 (none))
 (some (x0,x1,x2,x3,x4))
def qHe:Nat->Nat->Int->Int->Nat->List Int->Option (Nat×Int×Int×Nat×List Int)
 | 0,_,_,_,_,_=>none
 | f+1,x0,x1,x2,x3,x4=>qLK (qHe f) x0 x1 x2 x3 x4
def qLL (rec:Nat->Int->Int->Nat->List Int->Option (Nat×Nat×List Int)) (x0:Nat) (x1 x2:Int) (x3:Nat) (x4:List Int):Option (Nat×Nat×List Int):=
 br (x2 != 0)
 (ob (qD7 x2) fun a12=>
 br (decide ((x0+1)*8<=140737488355328))
 (rec (x0+1) x1 (qE BinOp.and .u64 x2 (IntKind.wrap .u64 (x2 - 1))) (x0+1) (List.append (List.take x0 x4) [IntKind.wrap .i64 (63+a12)]))
 (none))
 (some (x0,x3,x4))
def qHf:Nat->Nat->Int->Int->Nat->List Int->Option (Nat×Nat×List Int)
 | 0,_,_,_,_,_=>none
 | f+1,x0,x1,x2,x3,x4=>qLL (qHf f) x0 x1 x2 x3 x4
def qDs (x0 x1:Int):Option (Nat×Nat×List Int):=
 ob (qHe qC 0 x0 x1 0 []) fun (a2_0,a2_1,a2_2,a2_3,a2_4)=>
 ob (qHf qC a2_0 a2_1 a2_2 a2_3 a2_4) fun (a7_0,a7_1,a7_2)=>
 some (a7_0,a7_1,a7_2)
def qoZ (self:Int->Option (Nat×Nat×List (List Int))) (x0:Int):Option (Nat×Nat×List (List Int)):=
 br (x0==1)
 (some (1,1,[[0,-1]]))
 (br (x0==3)
 (some (2,2,[[-1,-2],[1,-2]]))
 (br (x0==4)
 (some (5,5,[[-1,-1],[0,-1],[1,-1],[-1,1],[1,1]]))
 (br (x0==5)
 (some (6,6,[[-1,-1],[0,-1],[1,-1],[-1,0],[1,0],[0,1]]))
 (br (x0==9)
 (some (6,6,[[-1,-1],[0,-1],[1,-1],[-1,0],[1,0],[0,1]]))
 (br (x0==10)
 (some (6,6,[[-1,-1],[0,-1],[1,-1],[-1,0],[1,0],[0,1]]))
 (br (x0==11)
 (some (6,6,[[-1,-1],[0,-1],[1,-1],[-1,0],[1,0],[0,1]]))
 (br (x0==12)
 (some (6,6,[[-1,-1],[0,-1],[1,-1],[-1,0],[1,0],[0,1]]))
 (br (x0==8)
 (ob (self 5) fun (a1_0,_,a1_2)=>
 br (decide ((a1_0+2)*16<=140737488355328))
 (some (a1_0+2,a1_0+2,List.append (List.take a1_0 a1_2) [[-1,1],[1,1]]))
 (none))
 (br (x0==14)
 (some (4,4,[[0,-1],[-1,0],[1,0],[0,1]]))
 (br (x0==15)
 (some (4,4,[[-1,-1],[1,-1],[-1,1],[1,1]]))
 (some (0,0,[]))))))))))))
def qFs:Nat->Int->Option (Nat×Nat×List (List Int))
 | 0,_=>none
 | f+1,x0=>qoZ (qFs f) x0
def qEw (x0 x1 x2:Int):Option (Int×Int):=
 br (x2==1)
 (some (IntKind.wrap .i64 (0 - x0),IntKind.wrap .i64 (0 - x1)))
 (some (x0,x1))
def qFk (x0:Int):Option (Int):=
 some (IntKind.wrap .i64 (Int.tdiv x0 9))
def qFr (x0 x1 x2:Int):Option (Int):=
 br (decide (x2<0))
 (some (-1))
 (br (decide (x2 >= 81))
 (some (-1))
 (br (decide (x0 < -8))
 (some (-1))
 (br (decide (x0>8))
 (some (-1))
 (br (decide (x1 < -8))
 (some (-1))
 (br (decide (x1>8))
 (some (-1))
 (ob (qFk x2) fun a3=>
 ob (qEs x2) fun a4=>
 ob (qHc (IntKind.wrap .i64 (a3+x0)) (IntKind.wrap .i64 (a4+x1))) fun a5=>
 some (a5)))))))
def qHj (rec:Int->Int->Nat->Int->Int->Int->Int->Int->Int->Nat->List (List Int)->Option (Int×Int×Int×Int)) (x0 x1:Int) (x2:Nat) (x3 x4:Int) (x5 x6:Int) (x7 x8:Int) (x9:Nat) (x10:List (List Int)):Option (Int×Int×Int×Int):=
 br (decide (x4<x3))
 (br (inB x4 x2)
 (ob (qAy x0) fun a17=>
 ob (qEw (List.headD (List.take 2 (List.getD x10 (Int.toNat x4) [])) 0) (List.headD (List.tail (List.take 2 (List.getD x10 (Int.toNat x4) []))) 0) a17) fun (a18_0,a18_1)=>
 ob (qFr a18_0 a18_1 x1) fun a20=>
 ob (qA1 x7 x8 a20) fun (a21_0,a21_1)=>
 rec x0 x1 x2 x3 (IntKind.wrap .i64 (x4+1)) x5 x6 a21_0 a21_1 x9 x10)
 (none))
 (some (x5,x6,x7,x8))
def qEy:Nat->Int->Int->Nat->Int->Int->Int->Int->Int->Int->Nat->List (List Int)->Option (Int×Int×Int×Int)
 | 0,_,_,_,_,_,_,_,_,_,_,_=>none
 | f+1,x0,x1,x2,x3,x4,x5,x6,x7,x8,x9,x10=>qHj (qEy f) x0 x1 x2 x3 x4 x5 x6 x7 x8 x9 x10
def qI4 (x0 x1:Int):Option (Int×Int):=
 ob (qAQ x0) fun a2=>
 ob (qFs qC a2) fun (a3_0,a3_1,a3_2)=>
 ob (qEy qC x0 x1 a3_0 (Int.ofNat a3_0) 0 0 0 0 0 a3_1 a3_2) fun (_,_,a6_2,a6_3)=>
 some (a6_2,a6_3)
def qFY (x0:Int):Option (Nat×Nat×List (List Int)):=
 br (x0==2)
 (some (1,1,[[0,-1]]))
 (br (x0==6)
 (some (4,4,[[-1,-1],[1,-1],[-1,1],[1,1]]))
 (br (x0==14)
 (some (4,4,[[-1,-1],[1,-1],[-1,1],[1,1]]))
 (br (x0==7)
 (some (4,4,[[0,-1],[-1,0],[1,0],[0,1]]))
 (br (x0==15)
 (some (4,4,[[0,-1],[-1,0],[1,0],[0,1]]))
 (some (0,0,[]))))))
def qG4 (rec:Int->Int->Int->Int->Int->Int->Int->Int->Int->Option (Int×Int×Int×Int)) (x0 x1:Int) (x2 x3:Int) (x4 x5:Int) (x6 x7 x8:Int):Option (Int×Int×Int×Int):=
 br (decide (x0 >= 0))
 (ob (qA1 x7 x8 x0) fun (a15_0,a15_1)=>
 ob (qB3 x3 x4 x0) fun a17=>
 br (a17)
 (some (x5,x6,a15_0,a15_1))
 (ob (qFr x1 x2 x0) fun a18=>
 rec a18 x1 x2 x3 x4 x5 x6 a15_0 a15_1))
 (some (x5,x6,x7,x8))
def qFZ:Nat->Int->Int->Int->Int->Int->Int->Int->Int->Int->Option (Int×Int×Int×Int)
 | 0,_,_,_,_,_,_,_,_,_=>none
 | f+1,x0,x1,x2,x3,x4,x5,x6,x7,x8=>qG4 (qFZ f) x0 x1 x2 x3 x4 x5 x6 x7 x8
def qG3 (x0 x1:Int) (x2 x3 x4:Int):Option (Int×Int):=
 br (x1==0&&x2==0)
 (some (0,0))
 (ob (qFr x1 x2 x0) fun a5=>
 ob (qFZ qC a5 x1 x2 x3 x4 0 0 0 0) fun (_,_,a6_2,a6_3)=>
 some (a6_2,a6_3))
def qG2 (rec:Int->Int->Nat->Int->Int->Int->Int->Int->Int->Int->Int->Nat->List (List Int)->Option (Int×Int×Int×Int)) (x0 x1:Int) (x2:Nat) (x3 x4:Int) (x5 x6:Int) (x7 x8:Int) (x9 x10:Int) (x11:Nat) (x12:List (List Int)):Option (Int×Int×Int×Int):=
 br (decide (x4<x3))
 (br (inB x4 x2)
 (ob (qAy x0) fun a23=>
 ob (qEw (List.headD (List.take 2 (List.getD x12 (Int.toNat x4) [])) 0) (List.headD (List.tail (List.take 2 (List.getD x12 (Int.toNat x4) []))) 0) a23) fun (a24_0,a24_1)=>
 ob (qG3 x1 a24_0 a24_1 x5 x6) fun (a26_0,a26_1)=>
 ob (qDM x9 x10 a26_0 a26_1) fun (a28_0,a28_1)=>
 rec x0 x1 x2 x3 (IntKind.wrap .i64 (x4+1)) x5 x6 x7 x8 a28_0 a28_1 x11 x12)
 (none))
 (some (x7,x8,x9,x10))
def qEW:Nat->Int->Int->Nat->Int->Int->Int->Int->Int->Int->Int->Int->Nat->List (List Int)->Option (Int×Int×Int×Int)
 | 0,_,_,_,_,_,_,_,_,_,_,_,_,_=>none
 | f+1,x0,x1,x2,x3,x4,x5,x6,x7,x8,x9,x10,x11,x12=>qG2 (qEW f) x0 x1 x2 x3 x4 x5 x6 x7 x8 x9 x10 x11 x12
def qEV (x0 x1:Int) (x2 x3:Int):Option (Int×Int):=
 ob (qI4 x0 x1) fun (a4_0,a4_1)=>
 ob (qAQ x0) fun a6=>
 ob (qFY a6) fun (a7_0,a7_1,a7_2)=>
 ob (qEW qC x0 x1 a7_0 (Int.ofNat a7_0) 0 x2 x3 0 0 a4_0 a4_1 a7_1 a7_2) fun (_,_,a10_2,a10_3)=>
 some (a10_2,a10_3)
def qbc (rec:Int->Int->Int->Int->Int->Int->Option (Int×Int×Int×Int)) (x0 x1:Int) (x2 x3:Int) (x4 x5:Int):Option (Int×Int×Int×Int):=
 br (decide (x1<81))
 (ob (qEx x0 x1) fun a7=>
 br (decide (a7 >= 0))
 (br (decide (a7<=2))
 (ob (qA1 x4 x5 x1) fun (a8_0,a8_1)=>
 rec x0 (IntKind.wrap .i64 (x1+1)) x2 x3 a8_0 a8_1)
 (rec x0 (IntKind.wrap .i64 (x1+1)) x2 x3 x4 x5))
 (rec x0 (IntKind.wrap .i64 (x1+1)) x2 x3 x4 x5))
 (some (x2,x3,x4,x5))
def qLZ:Nat->Int->Int->Int->Int->Int->Int->Option (Int×Int×Int×Int)
 | 0,_,_,_,_,_,_=>none
 | f+1,x0,x1,x2,x3,x4,x5=>qbc (qLZ f) x0 x1 x2 x3 x4 x5
def qI5 (x0:Int):Option (Int×Int):=
 ob (qLZ qC x0 0 0 0 0 0) fun (_,_,a1_2,a1_3)=>
 some (a1_2,a1_3)
def qIM (x0 x1 x2:Int):Option (Bool×Bool):=
 ob (qAQ x0) fun a3=>
 ob (qET a3) fun a4=>
 br (a4==0)
 (some (false,false))
 (ob (qAy x0) fun a5=>
 ob (qI5 a5) fun (a6_0,a6_1)=>
 ob (qB3 a6_0 a6_1 x1) fun a8=>
 br (a8)
 (ob (qDw x0 x2) fun a9=>
 some (true,a9))
 (ob (qB3 a6_0 a6_1 x2) fun a9=>
 ob (qDw x0 x2) fun a10=>
 some (a9,a10)))
def qGU (rec:Nat->Int->Int->Int->Nat->Int->Int->Nat->Int->Int->List Int->List Int->Int->List (List Int)->List (List Int)->Int->Int->Nat->List (List Int)->Int->Int->Nat->List Int->Nat->List Int->Option (Nat×Int×Nat×Int×Int×List Int×List Int×Int×List (List Int)×List (List Int)×Int×Int×Nat×List (List Int)×Int×Int×Nat×List Int)) (x0:Nat) (x1 x2 x3:Int) (x4:Nat) (x5 x6:Int) (x7:Nat) (x8 x9:Int) (x10 x11:List Int) (x12:Int) (x13 x14:List (List Int)) (x15 x16:Int) (x17:Nat) (x18:List (List Int)) (x19 x20:Int) (x21:Nat) (x22:List Int) (x23:Nat) (x24:List Int):Option (Nat×Int×Nat×Int×Int×List Int×List Int×Int×List (List Int)×List (List Int)×Int×Int×Nat×List (List Int)×Int×Int×Nat×List Int):=
 br (decide (x9<x8))
 (br (inB x9 x7)
 (ob (qIM x3 x2 (List.getD x24 (Int.toNat x9) 0)) fun (a77_0,a77_1)=>
 br (!a77_1)
 (br (decide ((x0+1)*32<=140737488355328))
 (br (a77_0)
 (br (decide ((x0+1+1)*32<=140737488355328))
 (rec (x0+1+1) x1 x2 x3 x4 x5 x6 x7 x8 (IntKind.wrap .i64 (x9+1)) x10 x11 x12 x13 x14 x15 x16 (x0+1+1) (List.append (List.take (x0+1) (List.append (List.take x0 x18) [[x2,List.getD x24 (Int.toNat x9) 0,0,0]])) [[x2,List.getD x24 (Int.toNat x9) 0,0,1]]) x19 x20 x21 x22 x23 x24)
 (none))
 (rec (x0+1) x1 x2 x3 x4 x5 x6 x7 x8 (IntKind.wrap .i64 (x9+1)) x10 x11 x12 x13 x14 x15 x16 (x0+1) (List.append (List.take x0 x18) [[x2,List.getD x24 (Int.toNat x9) 0,0,0]]) x19 x20 x21 x22 x23 x24))
 (none))
 (br (a77_0)
 (br (decide ((x0+1)*32<=140737488355328))
 (rec (x0+1) x1 x2 x3 x4 x5 x6 x7 x8 (IntKind.wrap .i64 (x9+1)) x10 x11 x12 x13 x14 x15 x16 (x0+1) (List.append (List.take x0 x18) [[x2,List.getD x24 (Int.toNat x9) 0,0,1]]) x19 x20 x21 x22 x23 x24)
 (none))
 (rec x0 x1 x2 x3 x4 x5 x6 x7 x8 (IntKind.wrap .i64 (x9+1)) x10 x11 x12 x13 x14 x15 x16 x17 x18 x19 x20 x21 x22 x23 x24)))
 (none))
 (some (x0,x1,x4,x5,x6,x10,x11,x12,x13,x14,x15,x16,x17,x18,x19,x20,x21,x22))
def qEG:Nat->Nat->Int->Int->Int->Nat->Int->Int->Nat->Int->Int->List Int->List Int->Int->List (List Int)->List (List Int)->Int->Int->Nat->List (List Int)->Int->Int->Nat->List Int->Nat->List Int->Option (Nat×Int×Nat×Int×Int×List Int×List Int×Int×List (List Int)×List (List Int)×Int×Int×Nat×List (List Int)×Int×Int×Nat×List Int)
 | 0,_,_,_,_,_,_,_,_,_,_,_,_,_,_,_,_,_,_,_,_,_,_,_,_,_=>none
 | f+1,x0,x1,x2,x3,x4,x5,x6,x7,x8,x9,x10,x11,x12,x13,x14,x15,x16,x17,x18,x19,x20,x21,x22,x23,x24=>qGU (qEG f) x0 x1 x2 x3 x4 x5 x6 x7 x8 x9 x10 x11 x12 x13 x14 x15 x16 x17 x18 x19 x20 x21 x22 x23 x24
def qGT (rec:Nat->Int->Nat->Int->Int->List Int->List Int->Int->List (List Int)->List (List Int)->Int->Int->Nat->List (List Int)->Int->Int->Nat->List Int->Option (Nat×List Int×List Int×Int×List (List Int)×List (List Int)×Nat×List (List Int))) (x0:Nat) (x1:Int) (x2:Nat) (x3 x4:Int) (x5 x6:List Int) (x7:Int) (x8 x9:List (List Int)) (x10 x11:Int) (x12:Nat) (x13:List (List Int)) (x14 x15:Int) (x16:Nat) (x17:List Int):Option (Nat×List Int×List Int×Int×List (List Int)×List (List Int)×Nat×List (List Int)):=
 br (decide (x4<x3))
 (br (inB x4 x2)
 (ob (qBI (List.getD x17 (Int.toNat x4) 0) x5 x6 x7 x8 x9) fun a36=>
 ob (qCc x5 x6 x7 x8 x9) fun (a37_0,a37_1)=>
 ob (qEV a36 (List.getD x17 (Int.toNat x4) 0) a37_0 a37_1) fun (a39_0,a39_1)=>
 ob (qE8 x1 x5 x6 x7 x8 x9) fun (a41_0,a41_1)=>
 ob (qEq a39_0 a39_1 a41_0 a41_1) fun (a43_0,a43_1)=>
 ob (qEq a43_0 a43_1 x14 x15) fun (a45_0,a45_1)=>
 ob (qCn a45_0 a45_1 x10 x11) fun (a47_0,a47_1)=>
 ob (qDs a47_0 a47_1) fun (a49_0,a49_1,a49_2)=>
 ob (qEG qC x0 x1 (List.getD x17 (Int.toNat x4) 0) a36 x2 x3 x4 a49_0 (Int.ofNat a49_0) 0 x5 x6 x7 x8 x9 x10 x11 x12 x13 x14 x15 x16 x17 a49_1 a49_2) fun (a52_0,a52_1,a52_2,a52_3,a52_4,a52_5,a52_6,a52_7,a52_8,a52_9,a52_10,a52_11,a52_12,a52_13,a52_14,a52_15,a52_16,a52_17)=>
 rec a52_0 a52_1 a52_2 a52_3 (IntKind.wrap .i64 (a52_4+1)) a52_5 a52_6 a52_7 a52_8 a52_9 a52_10 a52_11 a52_12 a52_13 a52_14 a52_15 a52_16 a52_17)
 (none))
 (some (x0,x5,x6,x7,x8,x9,x12,x13))
def qEF:Nat->Nat->Int->Nat->Int->Int->List Int->List Int->Int->List (List Int)->List (List Int)->Int->Int->Nat->List (List Int)->Int->Int->Nat->List Int->Option (Nat×List Int×List Int×Int×List (List Int)×List (List Int)×Nat×List (List Int))
 | 0,_,_,_,_,_,_,_,_,_,_,_,_,_,_,_,_,_,_=>none
 | f+1,x0,x1,x2,x3,x4,x5,x6,x7,x8,x9,x10,x11,x12,x13,x14,x15,x16,x17=>qGT (qEF f) x0 x1 x2 x3 x4 x5 x6 x7 x8 x9 x10 x11 x12 x13 x14 x15 x16 x17
def qGR (x0 x1:Int) (x2 x3:List Int) (x4:Int) (x5 x6:List (List Int)):Option (Nat×Nat×List (List Int)):=
 ob (qCw 0 8 x2 x3 x4 x5 x6) fun (a7_0,a7_1)=>
 ob (qCw 1 8 x2 x3 x4 x5 x6) fun (a9_0,a9_1)=>
 ob (qDM a7_0 a7_1 a9_0 a9_1) fun (a11_0,a11_1)=>
 ob (qE8 x4 x2 x3 x4 x5 x6) fun (a13_0,a13_1)=>
 ob (qDs a13_0 a13_1) fun (a15_0,a15_1,a15_2)=>
 ob (qEF qC 0 x4 a15_0 (Int.ofNat a15_0) 0 x2 x3 x4 x5 x6 x0 x1 0 [] a11_0 a11_1 a15_1 a15_2) fun (a18_0,_,_,_,_,_,a18_6,a18_7)=>
 some (a18_0,a18_6,a18_7)
def qIz (x0 x1:Int):Option (Int×Int):=
 ob (qFi ) fun (a2_0,a2_1)=>
 ob (qEq a2_0 a2_1 x0 x1) fun (a4_0,a4_1)=>
 some (a4_0,a4_1)
def qGY (rec:Int->Int->Int->Nat->Int->Int->List Int->List Int->Int->List (List Int)->List (List Int)->Int->Int->Int->Int->Nat->List Int->Option (List Int×List Int×Int×List (List Int)×List (List Int)×Int×Int×Int×Int)) (x0 x1 x2:Int) (x3:Nat) (x4 x5:Int) (x6 x7:List Int) (x8:Int) (x9 x10:List (List Int)) (x11 x12:Int) (x13 x14:Int) (x15:Nat) (x16:List Int):Option (List Int×List Int×Int×List (List Int)×List (List Int)×Int×Int×Int×Int):=
 br (decide (x5<x4))
 (br (inB x5 x3)
 (ob (qDw x2 (List.getD x16 (Int.toNat x5) 0)) fun a32=>
 br (a32)
 (rec x0 x1 x2 x3 x4 (IntKind.wrap .i64 (x5+1)) x6 x7 x8 x9 x10 x11 x12 x13 x14 x15 x16)
 (br (x1==1)
 (ob (qCw x0 1 x6 x7 x8 x9 x10) fun (a33_0,a33_1)=>
 ob (qFk (List.getD x16 (Int.toNat x5) 0)) fun a35=>
 ob (qIy a35) fun (a36_0,a36_1)=>
 ob (qCn a33_0 a33_1 a36_0 a36_1) fun (a38_0,a38_1)=>
 ob (qEp a38_0 a38_1) fun a40=>
 br (!a40)
 (rec x0 x1 x2 x3 x4 (IntKind.wrap .i64 (x5+1)) x6 x7 x8 x9 x10 x11 x12 x13 x14 x15 x16)
 (ob (qA1 x13 x14 (List.getD x16 (Int.toNat x5) 0)) fun (a41_0,a41_1)=>
 rec x0 x1 x2 x3 x4 (IntKind.wrap .i64 (x5+1)) x6 x7 x8 x9 x10 x11 x12 a41_0 a41_1 x15 x16))
 (ob (qA1 x13 x14 (List.getD x16 (Int.toNat x5) 0)) fun (a33_0,a33_1)=>
 rec x0 x1 x2 x3 x4 (IntKind.wrap .i64 (x5+1)) x6 x7 x8 x9 x10 x11 x12 a33_0 a33_1 x15 x16)))
 (none))
 (some (x6,x7,x8,x9,x10,x11,x12,x13,x14))
def qC3:Nat->Int->Int->Int->Nat->Int->Int->List Int->List Int->Int->List (List Int)->List (List Int)->Int->Int->Int->Int->Nat->List Int->Option (List Int×List Int×Int×List (List Int)×List (List Int)×Int×Int×Int×Int)
 | 0,_,_,_,_,_,_,_,_,_,_,_,_,_,_,_,_,_=>none
 | f+1,x0,x1,x2,x3,x4,x5,x6,x7,x8,x9,x10,x11,x12,x13,x14,x15,x16=>qGY (qC3 f) x0 x1 x2 x3 x4 x5 x6 x7 x8 x9 x10 x11 x12 x13 x14 x15 x16
def qIL (x0 x1:Int) (x2 x3:List Int) (x4:Int) (x5 x6:List (List Int)):Option (Int×Int):=
 ob (qBj x0 x1) fun a7=>
 br (a7==0)
 (some (0,0))
 (br (decide (x1 >= 8))
 (some (0,0))
 (ob (qCc x2 x3 x4 x5 x6) fun (a8_0,a8_1)=>
 ob (qIz a8_0 a8_1) fun (a10_0,a10_1)=>
 ob (qDs a10_0 a10_1) fun (a12_0,a12_1,a12_2)=>
 ob (qC3 qC x0 x1 a7 a12_0 (Int.ofNat a12_0) 0 x2 x3 x4 x5 x6 0 0 0 0 a12_1 a12_2) fun (_,_,_,_,_,_,_,a15_7,a15_8)=>
 some (a15_7,a15_8)))
def qGX (rec:Nat->Int->Int->Nat->Int->Int->List Int->List Int->Int->List (List Int)->List (List Int)->Int->Int->Nat->List (List Int)->Nat->List Int->Option (Nat×Int×Int×List Int×List Int×Int×List (List Int)×List (List Int)×Int×Int×Nat×List (List Int))) (x0:Nat) (x1 x2:Int) (x3:Nat) (x4 x5:Int) (x6 x7:List Int) (x8:Int) (x9 x10:List (List Int)) (x11 x12:Int) (x13:Nat) (x14:List (List Int)) (x15:Nat) (x16:List Int):Option (Nat×Int×Int×List Int×List Int×Int×List (List Int)×List (List Int)×Int×Int×Nat×List (List Int)):=
 br (decide (x5<x4))
 (br (inB x5 x3)
 (br (decide ((x0+1)*32<=140737488355328))
 (rec (x0+1) x1 x2 x3 x4 (IntKind.wrap .i64 (x5+1)) x6 x7 x8 x9 x10 x11 x12 (x0+1) (List.append (List.take x0 x14) [[0,List.getD x16 (Int.toNat x5) 0,x2,0]]) x15 x16)
 (none))
 (none))
 (some (x0,x1,x2,x6,x7,x8,x9,x10,x11,x12,x13,x14))
def qEI:Nat->Nat->Int->Int->Nat->Int->Int->List Int->List Int->Int->List (List Int)->List (List Int)->Int->Int->Nat->List (List Int)->Nat->List Int->Option (Nat×Int×Int×List Int×List Int×Int×List (List Int)×List (List Int)×Int×Int×Nat×List (List Int))
 | 0,_,_,_,_,_,_,_,_,_,_,_,_,_,_,_,_,_=>none
 | f+1,x0,x1,x2,x3,x4,x5,x6,x7,x8,x9,x10,x11,x12,x13,x14,x15,x16=>qGX (qEI f) x0 x1 x2 x3 x4 x5 x6 x7 x8 x9 x10 x11 x12 x13 x14 x15 x16
def qGW (rec:Nat->Int->Int->List Int->List Int->Int->List (List Int)->List (List Int)->Int->Int->Nat->List (List Int)->Option (Nat×List Int×List Int×Int×List (List Int)×List (List Int)×Nat×List (List Int))) (x0:Nat) (x1 x2:Int) (x3 x4:List Int) (x5:Int) (x6 x7:List (List Int)) (x8 x9:Int) (x10:Nat) (x11:List (List Int)):Option (Nat×List Int×List Int×Int×List (List Int)×List (List Int)×Nat×List (List Int)):=
 br (decide (x2<8))
 (ob (qCv x1 x2 x3 x4 x5 x6 x7) fun a19=>
 br (decide (a19<1))
 (rec x0 x1 (IntKind.wrap .i64 (x2+1)) x3 x4 x5 x6 x7 x8 x9 x10 x11)
 (ob (qIL x1 x2 x3 x4 x5 x6 x7) fun (a20_0,a20_1)=>
 ob (qCn a20_0 a20_1 x8 x9) fun (a22_0,a22_1)=>
 ob (qDs a22_0 a22_1) fun (a24_0,a24_1,a24_2)=>
 ob (qEI qC x0 x1 x2 a24_0 (Int.ofNat a24_0) 0 x3 x4 x5 x6 x7 x8 x9 x10 x11 a24_1 a24_2) fun (a27_0,a27_1,a27_2,a27_3,a27_4,a27_5,a27_6,a27_7,a27_8,a27_9,a27_10,a27_11)=>
 rec a27_0 a27_1 (IntKind.wrap .i64 (a27_2+1)) a27_3 a27_4 a27_5 a27_6 a27_7 a27_8 a27_9 a27_10 a27_11))
 (some (x0,x3,x4,x5,x6,x7,x10,x11))
def qEH:Nat->Nat->Int->Int->List Int->List Int->Int->List (List Int)->List (List Int)->Int->Int->Nat->List (List Int)->Option (Nat×List Int×List Int×Int×List (List Int)×List (List Int)×Nat×List (List Int))
 | 0,_,_,_,_,_,_,_,_,_,_,_,_=>none
 | f+1,x0,x1,x2,x3,x4,x5,x6,x7,x8,x9,x10,x11=>qGW (qEH f) x0 x1 x2 x3 x4 x5 x6 x7 x8 x9 x10 x11
def qIK (x0 x1:Int) (x2 x3:List Int) (x4:Int) (x5 x6:List (List Int)):Option (Nat×Nat×List (List Int)):=
 ob (qEH qC 0 x4 1 x2 x3 x4 x5 x6 x0 x1 0 []) fun (a7_0,_,_,_,_,_,a7_6,a7_7)=>
 some (a7_0,a7_6,a7_7)
def qDm (x0:Int):Option (Int):=
 br (decide (x0 >= 1))
 (br (decide (x0<=7))
 (br (x0 != 5)
 (some (IntKind.wrap .i64 (x0+8)))
 (some (0)))
 (some (0)))
 (some (0))
def qIn (x0 x1 x2:Int):Option (Bool):=
 ob (qAK x0) fun a3=>
 ob (qDm a3) fun a4=>
 br (a4==0)
 (some (false))
 (ob (qA0 x0) fun a5=>
 ob (qCm a5 x1) fun a6=>
 ob (qA0 x0) fun a7=>
 ob (qCm a7 x2) fun a8=>
 br (decide (a6 >= 0))
 (br (decide (a6<=2))
 (some (true))
 (br (decide (a8 >= 0))
 (some (decide (a8<=2)))
 (some (false))))
 (br (decide (a8 >= 0))
 (some (decide (a8<=2)))
 (some (false))))
def qIo (x0 x1:Int):Option (Bool):=
 ob (qAK x0) fun a2=>
 ob (qDm a2) fun a3=>
 br (a3 != 0)
 (ob (qCl x0 x1) fun a4=>
 some (a4))
 (some (false))
def qIj (x0 x1 x2:Int) (x3:Bool):Option (Int):=
 br (decide (x1<0))
 (some (1))
 (br (decide (x1>80))
 (some (1))
 (br (x2 != 0)
 (br (decide (x2<1))
 (some (70))
 (br (decide (x2>7))
 (some (70))
 (br (x0 != 0)
 (some (70))
 (br (x3)
 (some (70))
 (some (0))))))
 (br (decide (x0<0))
 (some (1))
 (br (decide (x0>80))
 (some (1))
 (br (x0==x1)
 (some (70))
 (some (0)))))))
def qIl (x0 x1:List Int) (x2 x3:Int) (x4 x5:Int) (x6:Bool):Option (Bool):=
 ob (qIj x3 x4 x5 x6) fun a7=>
 br (a7 != 0)
 (some (false))
 (br (x2 != 0)
 (br (x2 != 1)
 (some (false))
 (br (inB x4 81)
 (br (x5 != 0)
 (br (inB x2 2)
 (br (inB x5 8)
 (br (decide (List.getD x1 (Int.toNat x2*8+Int.toNat x5) 0>0))
 (some (conv .i8 .i64 (List.getD x0 (Int.toNat x4) 0)==0))
 (some (false)))
 (none))
 (none))
 (br (inB x3 81)
 (ob (qA0 (conv .i8 .i64 (List.getD x0 (Int.toNat x3) 0))) fun a8=>
 br (a8 != x2)
 (some (false))
 (ob (qA0 (conv .i8 .i64 (List.getD x0 (Int.toNat x4) 0))) fun a9=>
 br (a9==x2)
 (some (false))
 (ob (qAK (conv .i8 .i64 (List.getD x0 (Int.toNat x4) 0))) fun a10=>
 br (a10==8)
 (some (false))
 (br (!x6)
 (some (true))
 (ob (qAK (conv .i8 .i64 (List.getD x0 (Int.toNat x3) 0))) fun a11=>
 ob (qDm a11) fun a12=>
 some (a12 != 0))))))
 (none)))
 (none)))
 (br (inB x4 81)
 (br (x5 != 0)
 (br (inB x2 2)
 (br (inB x5 8)
 (br (decide (List.getD x1 (Int.toNat x2*8+Int.toNat x5) 0>0))
 (some (conv .i8 .i64 (List.getD x0 (Int.toNat x4) 0)==0))
 (some (false)))
 (none))
 (none))
 (br (inB x3 81)
 (ob (qA0 (conv .i8 .i64 (List.getD x0 (Int.toNat x3) 0))) fun a8=>
 br (a8 != x2)
 (some (false))
 (ob (qA0 (conv .i8 .i64 (List.getD x0 (Int.toNat x4) 0))) fun a9=>
 br (a9==x2)
 (some (false))
 (ob (qAK (conv .i8 .i64 (List.getD x0 (Int.toNat x4) 0))) fun a10=>
 br (a10==8)
 (some (false))
 (br (!x6)
 (some (true))
 (ob (qAK (conv .i8 .i64 (List.getD x0 (Int.toNat x3) 0))) fun a11=>
 ob (qDm a11) fun a12=>
 some (a12 != 0))))))
 (none)))
 (none)))
def qHB (rec:Int->List Int->List Int->Int->List Bool->List Bool->Option (List Bool×List Bool)) (x0:Int) (x1 x2:List Int) (x3:Int) (x4 x5:List Bool):Option (List Bool×List Bool):=
 br (decide (x0<81))
 (br (inB x0 81)
 (br (inB x0 81)
 (rec (IntKind.wrap .i64 (x0+1)) x1 x2 x3 x4 (List.set x5 (Int.toNat x0) (List.getD x1 (Int.toNat x0) 0 != 0)))
 (none))
 (none))
 (some (x4,x5))
def qDo:Nat->Int->List Int->List Int->Int->List Bool->List Bool->Option (List Bool×List Bool)
 | 0,_,_,_,_,_,_=>none
 | f+1,x0,x1,x2,x3,x4,x5=>qHB (qDo f) x0 x1 x2 x3 x4 x5
def qDn (x0 x1:List Int) (x2:Int):Option (List Bool):=
 ob (qDo qC 0 x0 x1 x2 ([false,false,false,false,false,false,false,false,false,false,false,false,false,false,false,false,false,false,false,false,false,false,false,false,false,false,false,false,false,false,false,false,false,false,false,false,false,false,false,false,false,false,false,false,false,false,false,false,false,false,false,false,false,false,false,false,false,false,false,false,false,false,false,false,false,false,false,false,false,false,false,false,false,false,false,false,false,false,false,false,false]) ([false,false,false,false,false,false,false,false,false,false,false,false,false,false,false,false,false,false,false,false,false,false,false,false,false,false,false,false,false,false,false,false,false,false,false,false,false,false,false,false,false,false,false,false,false,false,false,false,false,false,false,false,false,false,false,false,false,false,false,false,false,false,false,false,false,false,false,false,false,false,false,false,false,false,false,false,false,false,false,false,false])) fun (_,a3_1)=>
 some (a3_1)
def qEY (x0:Int):Option (Int):=
 br (decide (x0<0))
 (some (IntKind.wrap .i64 (0 - x0)))
 (some (x0))
def qIg (x0 x1 x2:Int):Option (Bool):=
 br (decide (x1<0))
 (some (false))
 (br (decide (x1>80))
 (some (false))
 (br (decide (x2<0))
 (some (false))
 (br (decide (x2>80))
 (some (false))
 (br (x1==x2)
 (some (false))
 (ob (qEY (IntKind.wrap .i64 (IntKind.wrap .i64 (Int.tdiv x2 9) - IntKind.wrap .i64 (Int.tdiv x1 9)))) fun a3=>
 ob (qA0 x0) fun a4=>
 br (a4==1)
 (br (decide (a3<=1))
 (ob (qEY (IntKind.wrap .i64 (0 - IntKind.wrap .i64 (Int.tmod x1 9 - Int.tmod x2 9)))) fun a5=>
 ob (qAK x0) fun a6=>
 br (a6==1)
 (br (a3==0)
 (some (IntKind.wrap .i64 (0 - IntKind.wrap .i64 (Int.tmod x1 9 - Int.tmod x2 9))==1))
 (some (false)))
 (br (a6==3)
 (br (a3==1)
 (some (IntKind.wrap .i64 (0 - IntKind.wrap .i64 (Int.tmod x1 9 - Int.tmod x2 9))==2))
 (some (false)))
 (br (a6==4)
 (br (decide (a5<=1))
 (br (IntKind.wrap .i64 (0 - IntKind.wrap .i64 (Int.tmod x1 9 - Int.tmod x2 9))==1)
 (some (true))
 (br (a3==1)
 (some (IntKind.wrap .i64 (0 - IntKind.wrap .i64 (Int.tmod x1 9 - Int.tmod x2 9)) == -1))
 (some (false))))
 (some (false)))
 (br (a6==5)
 (br (decide (a5<=1))
 (br (decide (IntKind.wrap .i64 (0 - IntKind.wrap .i64 (Int.tmod x1 9 - Int.tmod x2 9)) >= 0))
 (some (true))
 (some (a3==0)))
 (some (false)))
 (br (a6==9)
 (br (decide (a5<=1))
 (br (decide (IntKind.wrap .i64 (0 - IntKind.wrap .i64 (Int.tmod x1 9 - Int.tmod x2 9)) >= 0))
 (some (true))
 (some (a3==0)))
 (some (false)))
 (br (a6==10)
 (br (decide (a5<=1))
 (br (decide (IntKind.wrap .i64 (0 - IntKind.wrap .i64 (Int.tmod x1 9 - Int.tmod x2 9)) >= 0))
 (some (true))
 (some (a3==0)))
 (some (false)))
 (br (a6==11)
 (br (decide (a5<=1))
 (br (decide (IntKind.wrap .i64 (0 - IntKind.wrap .i64 (Int.tmod x1 9 - Int.tmod x2 9)) >= 0))
 (some (true))
 (some (a3==0)))
 (some (false)))
 (br (a6==12)
 (br (decide (a5<=1))
 (br (decide (IntKind.wrap .i64 (0 - IntKind.wrap .i64 (Int.tmod x1 9 - Int.tmod x2 9)) >= 0))
 (some (true))
 (some (a3==0)))
 (some (false)))
 (br (a6==8)
 (some (decide (a5<=1)))
 (br (a6==14)
 (br (decide (a5<=1))
 (br (a3==0)
 (some (true))
 (some (IntKind.wrap .i64 (0 - IntKind.wrap .i64 (Int.tmod x1 9 - Int.tmod x2 9))==0)))
 (some (false)))
 (br (a6==15)
 (br (decide (a5<=1))
 (br (a3==1)
 (some (IntKind.wrap .i64 (0 - IntKind.wrap .i64 (Int.tmod x1 9 - Int.tmod x2 9)) != 0))
 (some (false)))
 (some (false)))
 (some (false)))))))))))))
 (ob (qAK x0) fun a5=>
 br (a5==1)
 (br (a3==0)
 (some (IntKind.wrap .i64 (0 - IntKind.wrap .i64 (Int.tmod x1 9 - Int.tmod x2 9))==1))
 (some (false)))
 (br (a5==3)
 (br (a3==1)
 (some (IntKind.wrap .i64 (0 - IntKind.wrap .i64 (Int.tmod x1 9 - Int.tmod x2 9))==2))
 (some (false)))
 (br (a5==4)
 (some (false))
 (br (a5==5)
 (some (false))
 (br (a5==9)
 (some (false))
 (br (a5==10)
 (some (false))
 (br (a5==11)
 (some (false))
 (br (a5==12)
 (some (false))
 (br (a5==8)
 (some (false))
 (br (a5==14)
 (some (false))
 (br (a5==15)
 (some (false))
 (some (false))))))))))))))
 (br (decide (a3<=1))
 (ob (qEY (IntKind.wrap .i64 (Int.tmod x1 9 - Int.tmod x2 9))) fun a5=>
 ob (qAK x0) fun a6=>
 br (a6==1)
 (br (a3==0)
 (some (IntKind.wrap .i64 (Int.tmod x1 9 - Int.tmod x2 9)==1))
 (some (false)))
 (br (a6==3)
 (br (a3==1)
 (some (IntKind.wrap .i64 (Int.tmod x1 9 - Int.tmod x2 9)==2))
 (some (false)))
 (br (a6==4)
 (br (decide (a5<=1))
 (br (IntKind.wrap .i64 (Int.tmod x1 9 - Int.tmod x2 9)==1)
 (some (true))
 (br (a3==1)
 (some (IntKind.wrap .i64 (Int.tmod x1 9 - Int.tmod x2 9) == -1))
 (some (false))))
 (some (false)))
 (br (a6==5)
 (br (decide (a5<=1))
 (br (decide (IntKind.wrap .i64 (Int.tmod x1 9 - Int.tmod x2 9) >= 0))
 (some (true))
 (some (a3==0)))
 (some (false)))
 (br (a6==9)
 (br (decide (a5<=1))
 (br (decide (IntKind.wrap .i64 (Int.tmod x1 9 - Int.tmod x2 9) >= 0))
 (some (true))
 (some (a3==0)))
 (some (false)))
 (br (a6==10)
 (br (decide (a5<=1))
 (br (decide (IntKind.wrap .i64 (Int.tmod x1 9 - Int.tmod x2 9) >= 0))
 (some (true))
 (some (a3==0)))
 (some (false)))
 (br (a6==11)
 (br (decide (a5<=1))
 (br (decide (IntKind.wrap .i64 (Int.tmod x1 9 - Int.tmod x2 9) >= 0))
 (some (true))
 (some (a3==0)))
 (some (false)))
 (br (a6==12)
 (br (decide (a5<=1))
 (br (decide (IntKind.wrap .i64 (Int.tmod x1 9 - Int.tmod x2 9) >= 0))
 (some (true))
 (some (a3==0)))
 (some (false)))
 (br (a6==8)
 (some (decide (a5<=1)))
 (br (a6==14)
 (br (decide (a5<=1))
 (br (a3==0)
 (some (true))
 (some (IntKind.wrap .i64 (Int.tmod x1 9 - Int.tmod x2 9)==0)))
 (some (false)))
 (br (a6==15)
 (br (decide (a5<=1))
 (br (a3==1)
 (some (IntKind.wrap .i64 (Int.tmod x1 9 - Int.tmod x2 9) != 0))
 (some (false)))
 (some (false)))
 (some (false)))))))))))))
 (ob (qAK x0) fun a5=>
 br (a5==1)
 (br (a3==0)
 (some (IntKind.wrap .i64 (Int.tmod x1 9 - Int.tmod x2 9)==1))
 (some (false)))
 (br (a5==3)
 (br (a3==1)
 (some (IntKind.wrap .i64 (Int.tmod x1 9 - Int.tmod x2 9)==2))
 (some (false)))
 (br (a5==4)
 (some (false))
 (br (a5==5)
 (some (false))
 (br (a5==9)
 (some (false))
 (br (a5==10)
 (some (false))
 (br (a5==11)
 (some (false))
 (br (a5==12)
 (some (false))
 (br (a5==8)
 (some (false))
 (br (a5==14)
 (some (false))
 (br (a5==15)
 (some (false))
 (some (false)))))))))))))))))))
def qG8 (x0 x1:Int):Option (Int):=
 br (decide (x0<0))
 (some (0))
 (br (decide (x0>80))
 (some (0))
 (br (decide (x1<0))
 (some (0))
 (br (decide (x1>80))
 (some (0))
 (br (x0==x1)
 (some (0))
 (br (IntKind.wrap .i64 (IntKind.wrap .i64 (Int.tdiv x1 9) - IntKind.wrap .i64 (Int.tdiv x0 9))==0)
 (some (1))
 (br (IntKind.wrap .i64 (Int.tmod x1 9 - Int.tmod x0 9)==0)
 (some (1))
 (br (IntKind.wrap .i64 (IntKind.wrap .i64 (Int.tdiv x1 9) - IntKind.wrap .i64 (Int.tdiv x0 9))==IntKind.wrap .i64 (Int.tmod x1 9 - Int.tmod x0 9))
 (some (2))
 (br (IntKind.wrap .i64 (IntKind.wrap .i64 (Int.tdiv x1 9) - IntKind.wrap .i64 (Int.tdiv x0 9))==IntKind.wrap .i64 (0 - IntKind.wrap .i64 (Int.tmod x1 9 - Int.tmod x0 9)))
 (some (2))
 (some (0))))))))))
def qG9 (x0:Int):Option (Int):=
 br (decide (x0<0))
 (some (-1))
 (br (decide (x0>0))
 (some (1))
 (some (0)))
def qG6 (rec:Int->Nat->Int->Int->Nat->List Int->Option (Nat×Nat×List Int)) (x0:Int) (x1:Nat) (x2 x3:Int) (x4:Nat) (x5:List Int):Option (Nat×Nat×List Int):=
 br (x3 != x0)
 (br (decide ((x1+1)*8<=140737488355328))
 (rec x0 (x1+1) x2 (IntKind.wrap .i64 (x3+x2)) (x1+1) (List.append (List.take x1 x5) [x3]))
 (none))
 (some (x1,x4,x5))
def qEZ:Nat->Int->Nat->Int->Int->Nat->List Int->Option (Nat×Nat×List Int)
 | 0,_,_,_,_,_,_=>none
 | f+1,x0,x1,x2,x3,x4,x5=>qG6 (qEZ f) x0 x1 x2 x3 x4 x5
def qIh (x0 x1:Int):Option (Nat×Nat×List Int):=
 ob (qG8 x0 x1) fun a2=>
 br (a2==0)
 (some (0,0,[]))
 (ob (qG9 (IntKind.wrap .i64 (IntKind.wrap .i64 (Int.tdiv x1 9) - IntKind.wrap .i64 (Int.tdiv x0 9)))) fun a3=>
 ob (qG9 (IntKind.wrap .i64 (Int.tmod x1 9 - Int.tmod x0 9))) fun a4=>
 ob (qEZ qC x1 0 (IntKind.wrap .i64 (IntKind.wrap .i64 (9*a3)+a4)) (IntKind.wrap .i64 (x0+IntKind.wrap .i64 (IntKind.wrap .i64 (9*a3)+a4))) 0 []) fun (a5_0,a5_1,a5_2)=>
 some (a5_0,a5_1,a5_2))
def qG7 (rec:Nat->Int->List Bool->Nat->List Int->Option ((Bool)⊕(Unit))) (x0:Nat) (x1:Int) (x2:List Bool) (x3:Nat) (x4:List Int):Option ((Bool)⊕(Unit)):=
 br (decide (x1<Int.ofNat x0))
 (br (inB x1 x0)
 (br (inB (List.getD x4 (Int.toNat x1) 0) 81)
 (br (List.getD x2 (Int.toNat (List.getD x4 (Int.toNat x1) 0)) false)
 (some (.inl (false)))
 (rec x0 (IntKind.wrap .i64 (x1+1)) x2 x3 x4))
 (none))
 (none))
 (some (.inr ()))
def qEa:Nat->Nat->Int->List Bool->Nat->List Int->Option ((Bool)⊕(Unit))
 | 0,_,_,_,_,_=>none
 | f+1,x0,x1,x2,x3,x4=>qG7 (qEa f) x0 x1 x2 x3 x4
def qAi (x0 x1:Int) (x2:List Bool):Option (Bool):=
 ob (qIh x0 x1) fun (a3_0,a3_1,a3_2)=>
 ob (qEa qC a3_0 0 x2 a3_1 a3_2) fun t6_2=>
 sw t6_2 (fun a6=>
 some (a6))
 (fun _=>
 some (true))
def qEb (x0 x1 x2:Int) (x3:List Bool):Option (Bool):=
 ob (qIg x0 x1 x2) fun a4=>
 br (a4)
 (some (true))
 (ob (qG8 x1 x2) fun a5=>
 ob (qA0 x0) fun a6=>
 br (a6==1)
 (ob (qAK x0) fun a7=>
 br (a7==2)
 (br (a5==1)
 (br (IntKind.wrap .i64 (Int.tdiv x1 9)==IntKind.wrap .i64 (Int.tdiv x2 9))
 (br (decide (IntKind.wrap .i64 (0 - IntKind.wrap .i64 (Int.tmod x1 9 - Int.tmod x2 9))>0))
 (ob (qAi x1 x2 x3) fun a8=>
 some (a8))
 (some (false)))
 (some (false)))
 (some (false)))
 (br (a7==6)
 (br (a5==2)
 (ob (qAi x1 x2 x3) fun a8=>
 some (a8))
 (some (false)))
 (br (a7==14)
 (br (a5==2)
 (ob (qAi x1 x2 x3) fun a8=>
 some (a8))
 (some (false)))
 (br (a7==7)
 (br (a5==1)
 (ob (qAi x1 x2 x3) fun a8=>
 some (a8))
 (some (false)))
 (br (a7==15)
 (br (a5==1)
 (ob (qAi x1 x2 x3) fun a8=>
 some (a8))
 (some (false)))
 (some (false)))))))
 (ob (qAK x0) fun a7=>
 br (a7==2)
 (br (a5==1)
 (br (IntKind.wrap .i64 (Int.tdiv x1 9)==IntKind.wrap .i64 (Int.tdiv x2 9))
 (br (decide (IntKind.wrap .i64 (Int.tmod x1 9 - Int.tmod x2 9)>0))
 (ob (qAi x1 x2 x3) fun a8=>
 some (a8))
 (some (false)))
 (some (false)))
 (some (false)))
 (br (a7==6)
 (br (a5==2)
 (ob (qAi x1 x2 x3) fun a8=>
 some (a8))
 (some (false)))
 (br (a7==14)
 (br (a5==2)
 (ob (qAi x1 x2 x3) fun a8=>
 some (a8))
 (some (false)))
 (br (a7==7)
 (br (a5==1)
 (ob (qAi x1 x2 x3) fun a8=>
 some (a8))
 (some (false)))
 (br (a7==15)
 (br (a5==1)
 (ob (qAi x1 x2 x3) fun a8=>
 some (a8))
 (some (false)))
 (some (false))))))))
def qEi (x0 x1:List Int) (x2 x3:Int) (x4 x5:Int) (x6:Bool):Option (Bool):=
 ob (qIl x0 x1 x2 x3 x4 x5 x6) fun a7=>
 br (!a7)
 (some (false))
 (br (x5 != 0)
 (ob (qCl (IntKind.wrap .i64 (IntKind.wrap .i64 (16*x2)+x5)) x4) fun a8=>
 br (!a8)
 (br (x5 != 1)
 (some (true))
 (ob (qDD x0 x1 x2 (IntKind.wrap .i64 (IntKind.wrap .i64 (16*x2)+x5)) (IntKind.wrap .i64 (Int.tdiv x4 9))) fun a9=>
 some (a9==0)))
 (some (false)))
 (br (inB x3 81)
 (ob (qDn x0 x1 x2) fun a8=>
 ob (qEb (conv .i8 .i64 (List.getD x0 (Int.toNat x3) 0)) x3 x4 a8) fun a9=>
 br (!a9)
 (some (false))
 (br (x6)
 (ob (qIn (conv .i8 .i64 (List.getD x0 (Int.toNat x3) 0)) x3 x4) fun a10=>
 some (a10))
 (ob (qIo (conv .i8 .i64 (List.getD x0 (Int.toNat x3) 0)) x4) fun a10=>
 some (!a10))))
 (none)))
def qHH (rec:Nat->Int->Int->List Int->List Int->Int->Nat->List (List Int)->List Bool->Option (Nat×Int×List Int×List Int×Int×Nat×List (List Int)×List Bool)) (x0:Nat) (x1 x2:Int) (x3 x4:List Int) (x5:Int) (x6:Nat) (x7:List (List Int)) (x8:List Bool):Option (Nat×Int×List Int×List Int×Int×Nat×List (List Int)×List Bool):=
 br (decide (x2<81))
 (br (inB x1 81)
 (ob (qEb (conv .i8 .i64 (List.getD x3 (Int.toNat x1) 0)) x1 x2 x8) fun a22=>
 br (!a22)
 (rec x0 x1 (IntKind.wrap .i64 (x2+1)) x3 x4 x5 x6 x7 x8)
 (ob (qEi x3 x4 x5 x1 x2 0 false) fun a23=>
 br (a23)
 (br (decide ((x0+1)*32<=140737488355328))
 (ob (qEi x3 x4 x5 x1 x2 0 true) fun a24=>
 br (a24)
 (br (decide ((x0+1+1)*32<=140737488355328))
 (rec (x0+1+1) x1 (IntKind.wrap .i64 (x2+1)) x3 x4 x5 (x0+1+1) (List.append (List.take (x0+1) (List.append (List.take x0 x7) [[x1,x2,0,0]])) [[x1,x2,0,1]]) x8)
 (none))
 (rec (x0+1) x1 (IntKind.wrap .i64 (x2+1)) x3 x4 x5 (x0+1) (List.append (List.take x0 x7) [[x1,x2,0,0]]) x8))
 (none))
 (ob (qEi x3 x4 x5 x1 x2 0 true) fun a24=>
 br (a24)
 (br (decide ((x0+1)*32<=140737488355328))
 (rec (x0+1) x1 (IntKind.wrap .i64 (x2+1)) x3 x4 x5 (x0+1) (List.append (List.take x0 x7) [[x1,x2,0,1]]) x8)
 (none))
 (rec x0 x1 (IntKind.wrap .i64 (x2+1)) x3 x4 x5 x6 x7 x8))))
 (none))
 (some (x0,x1,x3,x4,x5,x6,x7,x8))
def qEg:Nat->Nat->Int->Int->List Int->List Int->Int->Nat->List (List Int)->List Bool->Option (Nat×Int×List Int×List Int×Int×Nat×List (List Int)×List Bool)
 | 0,_,_,_,_,_,_,_,_,_=>none
 | f+1,x0,x1,x2,x3,x4,x5,x6,x7,x8=>qHH (qEg f) x0 x1 x2 x3 x4 x5 x6 x7 x8
def qHK (rec:Nat->Int->List Int->List Int->Int->Nat->List (List Int)->List Bool->Option (Nat×List Int×List Int×Int×Nat×List (List Int))) (x0:Nat) (x1:Int) (x2 x3:List Int) (x4:Int) (x5:Nat) (x6:List (List Int)) (x7:List Bool):Option (Nat×List Int×List Int×Int×Nat×List (List Int)):=
 br (decide (x1<81))
 (br (inB x1 81)
 (ob (qA0 (conv .i8 .i64 (List.getD x2 (Int.toNat x1) 0))) fun a12=>
 br (a12 != x4)
 (rec x0 (IntKind.wrap .i64 (x1+1)) x2 x3 x4 x5 x6 x7)
 (ob (qEg qC x0 x1 0 x2 x3 x4 x5 x6 x7) fun (a13_0,a13_1,a13_2,a13_3,a13_4,a13_5,a13_6,a13_7)=>
 rec a13_0 (IntKind.wrap .i64 (a13_1+1)) a13_2 a13_3 a13_4 a13_5 a13_6 a13_7))
 (none))
 (some (x0,x2,x3,x4,x5,x6))
def qDI:Nat->Nat->Int->List Int->List Int->Int->Nat->List (List Int)->List Bool->Option (Nat×List Int×List Int×Int×Nat×List (List Int))
 | 0,_,_,_,_,_,_,_,_=>none
 | f+1,x0,x1,x2,x3,x4,x5,x6,x7=>qHK (qDI f) x0 x1 x2 x3 x4 x5 x6 x7
def qHJ (rec:Nat->Int->Int->List Int->List Int->Int->Nat->List (List Int)->Option (Nat×Int×List Int×List Int×Int×Nat×List (List Int))) (x0:Nat) (x1 x2:Int) (x3 x4:List Int) (x5:Int) (x6:Nat) (x7:List (List Int)):Option (Nat×Int×List Int×List Int×Int×Nat×List (List Int)):=
 br (decide (x2<81))
 (br (inB x5 2)
 (br (inB x1 8)
 (br (decide (List.getD x4 (Int.toNat x5*8+Int.toNat x1) 0>0))
 (ob (qEi x3 x4 x5 0 x2 x1 false) fun a25=>
 br (a25)
 (br (decide ((x0+1)*32<=140737488355328))
 (rec (x0+1) x1 (IntKind.wrap .i64 (x2+1)) x3 x4 x5 (x0+1) (List.append (List.take x0 x7) [[0,x2,x1,0]]))
 (none))
 (rec x0 x1 (IntKind.wrap .i64 (x2+1)) x3 x4 x5 x6 x7))
 (some (x0,x1,x3,x4,x5,x6,x7)))
 (none))
 (none))
 (some (x0,x1,x3,x4,x5,x6,x7))
def qEh:Nat->Nat->Int->Int->List Int->List Int->Int->Nat->List (List Int)->Option (Nat×Int×List Int×List Int×Int×Nat×List (List Int))
 | 0,_,_,_,_,_,_,_,_=>none
 | f+1,x0,x1,x2,x3,x4,x5,x6,x7=>qHJ (qEh f) x0 x1 x2 x3 x4 x5 x6 x7
def qHI (rec:Nat->Int->List Int->List Int->Int->Nat->List (List Int)->Option (Nat×Nat×List (List Int))) (x0:Nat) (x1:Int) (x2 x3:List Int) (x4:Int) (x5:Nat) (x6:List (List Int)):Option (Nat×Nat×List (List Int)):=
 br (decide (x1<=7))
 (ob (qEh qC x0 x1 0 x2 x3 x4 x5 x6) fun (a17_0,a17_1,a17_2,a17_3,a17_4,a17_5,a17_6)=>
 rec a17_0 (IntKind.wrap .i64 (a17_1+1)) a17_2 a17_3 a17_4 a17_5 a17_6)
 (some (x0,x5,x6))
def qDH:Nat->Nat->Int->List Int->List Int->Int->Nat->List (List Int)->Option (Nat×Nat×List (List Int))
 | 0,_,_,_,_,_,_,_=>none
 | f+1,x0,x1,x2,x3,x4,x5,x6=>qHI (qDH f) x0 x1 x2 x3 x4 x5 x6
def qHG (x0 x1:List Int) (x2:Int):Option (Nat×Nat×List (List Int)):=
 br (x2 != 0)
 (br (x2 != 1)
 (some (0,0,[]))
 (ob (qDn x0 x1 x2) fun a3=>
 ob (qDI qC 0 0 x0 x1 x2 0 [] a3) fun (a4_0,a4_1,a4_2,a4_3,a4_4,a4_5)=>
 ob (qDH qC a4_0 1 a4_1 a4_2 a4_3 a4_4 a4_5) fun (a10_0,a10_1,a10_2)=>
 some (a10_0,a10_1,a10_2)))
 (ob (qDn x0 x1 x2) fun a3=>
 ob (qDI qC 0 0 x0 x1 x2 0 [] a3) fun (a4_0,a4_1,a4_2,a4_3,a4_4,a4_5)=>
 ob (qDH qC a4_0 1 a4_1 a4_2 a4_3 a4_4 a4_5) fun (a10_0,a10_1,a10_2)=>
 some (a10_0,a10_1,a10_2))
def qF5 (rec:Int->Int->Int->List Int->List Int->Int->List (List Int)->List (List Int)->Int->Int->Int->Int->Int->Int->Option (List Int×List Int×Int×List (List Int)×List (List Int)×Int×Int×Int×Int)) (x0 x1 x2:Int) (x3 x4:List Int) (x5:Int) (x6 x7:List (List Int)) (x8 x9:Int) (x10 x11:Int) (x12 x13:Int):Option (List Int×List Int×Int×List (List Int)×List (List Int)×Int×Int×Int×Int):=
 br (decide (x2<=15))
 (ob (qBj (IntKind.wrap .i64 (1 - x1)) x2) fun a23=>
 br (a23==0)
 (rec x0 x1 (IntKind.wrap .i64 (x2+1)) x3 x4 x5 x6 x7 x8 x9 x10 x11 x12 x13)
 (ob (qEV a23 x0 x8 x9) fun (a24_0,a24_1)=>
 ob (qCw x1 x2 x3 x4 x5 x6 x7) fun (a26_0,a26_1)=>
 ob (qCn a24_0 a24_1 a26_0 a26_1) fun (a28_0,a28_1)=>
 ob (qDM x12 x13 a28_0 a28_1) fun (a30_0,a30_1)=>
 rec x0 x1 (IntKind.wrap .i64 (x2+1)) x3 x4 x5 x6 x7 x8 x9 x10 x11 a30_0 a30_1))
 (some (x3,x4,x5,x6,x7,x10,x11,x12,x13))
def qDU:Nat->Int->Int->Int->List Int->List Int->Int->List (List Int)->List (List Int)->Int->Int->Int->Int->Int->Int->Option (List Int×List Int×Int×List (List Int)×List (List Int)×Int×Int×Int×Int)
 | 0,_,_,_,_,_,_,_,_,_,_,_,_,_,_=>none
 | f+1,x0,x1,x2,x3,x4,x5,x6,x7,x8,x9,x10,x11,x12,x13=>qF5 (qDU f) x0 x1 x2 x3 x4 x5 x6 x7 x8 x9 x10 x11 x12 x13
def qF4 (x0 x1:Int) (x2 x3:Int) (x4 x5:List Int) (x6:Int) (x7 x8:List (List Int)):Option (Int×Int):=
 br (decide (x0<0))
 (some (0,0))
 (br (decide (x0 >= 81))
 (some (0,0))
 (br (x1 != 0)
 (br (x1 != 1)
 (some (0,0))
 (ob (qDU qC x0 x1 1 x4 x5 x6 x7 x8 x2 x3 0 0 0 0) fun (_,_,_,_,_,_,_,a9_7,a9_8)=>
 some (a9_7,a9_8)))
 (ob (qDU qC x0 x1 1 x4 x5 x6 x7 x8 x2 x3 0 0 0 0) fun (_,_,_,_,_,_,_,a9_7,a9_8)=>
 some (a9_7,a9_8))))
def qF3 (x0:Int) (x1 x2:List Int) (x3:Int) (x4 x5:List (List Int)):Option (Int×Int):=
 ob (qE7 x0 x1 x2 x3 x4 x5) fun a6=>
 ob (qCc x1 x2 x3 x4 x5) fun (a7_0,a7_1)=>
 ob (qF4 a6 (IntKind.wrap .i64 (1 - x0)) a7_0 a7_1 x1 x2 x3 x4 x5) fun (a9_0,a9_1)=>
 some (a9_0,a9_1)
def qHa (rec:Nat->Int->Int->Nat->List Int->Int->Int->Int->Int->Option (Nat×List Int×Int×Int×Int×Int)) (x0:Nat) (x1 x2:Int) (x3:Nat) (x4:List Int) (x5 x6:Int) (x7 x8:Int):Option (Nat×List Int×Int×Int×Int×Int):=
 br (decide (x2<x1))
 (br (inB x2 x0)
 (ob (qA1 x7 x8 (List.getD x4 (Int.toNat x2) 0)) fun (a12_0,a12_1)=>
 rec x0 x1 (IntKind.wrap .i64 (x2+1)) x3 x4 x5 x6 a12_0 a12_1)
 (none))
 (some (x3,x4,x5,x6,x7,x8))
def qEr:Nat->Nat->Int->Int->Nat->List Int->Int->Int->Int->Int->Option (Nat×List Int×Int×Int×Int×Int)
 | 0,_,_,_,_,_,_,_,_,_=>none
 | f+1,x0,x1,x2,x3,x4,x5,x6,x7,x8=>qHa (qEr f) x0 x1 x2 x3 x4 x5 x6 x7 x8
def qHZ (x0 x1:Nat) (x2:List Int):Option (Int×Int):=
 ob (qEr qC x0 (Int.ofNat x0) 0 x1 x2 0 0 0 0) fun (_,_,_,_,a3_4,a3_5)=>
 some (a3_4,a3_5)
def qHE (rec:Int->Int->List Int->List Int->Int->Option ((Int)⊕(Unit))) (x0 x1:Int) (x2 x3:List Int) (x4:Int):Option ((Int)⊕(Unit)):=
 br (decide (x1<81))
 (br (inB x1 81)
 (br (conv .i8 .i64 (List.getD x2 (Int.toNat x1) 0)==IntKind.wrap .i64 (IntKind.wrap .i64 (16*x0)+8))
 (some (.inl (x1)))
 (rec x0 (IntKind.wrap .i64 (x1+1)) x2 x3 x4))
 (none))
 (some (.inr ()))
def qEf:Nat->Int->Int->List Int->List Int->Int->Option ((Int)⊕(Unit))
 | 0,_,_,_,_,_=>none
 | f+1,x0,x1,x2,x3,x4=>qHE (qEf f) x0 x1 x2 x3 x4
def qIk (x0 x1:List Int) (x2 x3:Int):Option (Int):=
 ob (qEf qC x3 0 x0 x1 x2) fun t4_2=>
 sw t4_2 (fun a4=>
 some (a4))
 (fun _=>
 some (-1))
def qHD (rec:Int->Int->Int->List Int->List Int->Int->List Bool->Option ((Bool)⊕(Unit))) (x0 x1 x2:Int) (x3 x4:List Int) (x5:Int) (x6:List Bool):Option ((Bool)⊕(Unit)):=
 br (decide (x2<81))
 (br (inB x2 81)
 (ob (qA0 (conv .i8 .i64 (List.getD x3 (Int.toNat x2) 0))) fun a13=>
 br (a13==IntKind.wrap .i64 (1 - x0))
 (br (inB x2 81)
 (ob (qEb (conv .i8 .i64 (List.getD x3 (Int.toNat x2) 0)) x2 x1 x6) fun a14=>
 br (a14)
 (some (.inl (true)))
 (rec x0 x1 (IntKind.wrap .i64 (x2+1)) x3 x4 x5 x6))
 (none))
 (rec x0 x1 (IntKind.wrap .i64 (x2+1)) x3 x4 x5 x6))
 (none))
 (some (.inr ()))
def qEe:Nat->Int->Int->Int->List Int->List Int->Int->List Bool->Option ((Bool)⊕(Unit))
 | 0,_,_,_,_,_,_,_=>none
 | f+1,x0,x1,x2,x3,x4,x5,x6=>qHD (qEe f) x0 x1 x2 x3 x4 x5 x6
def qFc (x0 x1:List Int) (x2 x3:Int):Option (Bool):=
 ob (qDn x0 x1 x2) fun a4=>
 ob (qIk x0 x1 x2 x3) fun a5=>
 br (decide (a5<0))
 (some (false))
 (ob (qEe qC x3 a5 0 x0 x1 x2 a4) fun t6_2=>
 sw t6_2 (fun a6=>
 some (a6))
 (fun _=>
 some (false)))
def qHC (x0 x1:List Int) (x2:Int):Option (Int):=
 ob (qEc x0 x1 x2) fun a3=>
 br (a3 != 0)
 (some (a3))
 (ob (qFc x0 x1 x2 (IntKind.wrap .i64 (1 - x2))) fun a4=>
 br (a4)
 (some (54))
 (some (0)))
def qHF (x0 x1:List Int) (x2 x3:Int) (x4 x5:Int) (x6:Bool):Option (List Int×List Int×Int):=
 br (x5 != 0)
 (br (inB x2 2)
 (br (inB x5 8)
 (br (inB x2 2)
 (br (inB x5 8)
 (br (inB x4 81)
 (some (List.set x0 (Int.toNat x4) (conv .i64 .i8 (IntKind.wrap .i64 (IntKind.wrap .i64 (16*x2)+x5))),List.set x1 (Int.toNat x2*8+Int.toNat x5) (IntKind.wrap .i8 (List.getD x1 (Int.toNat x2*8+Int.toNat x5) 0 - 1)),IntKind.wrap .i8 (1 - x2)))
 (none))
 (none))
 (none))
 (none))
 (none))
 (br (inB x4 81)
 (ob (qAK (conv .i8 .i64 (List.getD x0 (Int.toNat x4) 0))) fun a7=>
 ob (qG5 a7) fun a8=>
 br (a8 != 0)
 (br (inB x2 2)
 (br (inB a8 8)
 (br (inB x2 2)
 (br (inB a8 8)
 (br (inB x3 81)
 (br (inB x4 81)
 (br (x6)
 (br (inB x4 81)
 (br (inB x4 81)
 (br (inB x3 81)
 (some (List.set (List.set (List.set x0 (Int.toNat x4) (List.getD x0 (Int.toNat x3) 0)) (Int.toNat x4) (IntKind.wrap .i8 (List.getD (List.set x0 (Int.toNat x4) (List.getD x0 (Int.toNat x3) 0)) (Int.toNat x4) 0+8))) (Int.toNat x3) 0,List.set x1 (Int.toNat x2*8+Int.toNat a8) (IntKind.wrap .i8 (List.getD x1 (Int.toNat x2*8+Int.toNat a8) 0+1)),IntKind.wrap .i8 (1 - x2)))
 (none))
 (none))
 (none))
 (br (inB x3 81)
 (some (List.set (List.set x0 (Int.toNat x4) (List.getD x0 (Int.toNat x3) 0)) (Int.toNat x3) 0,List.set x1 (Int.toNat x2*8+Int.toNat a8) (IntKind.wrap .i8 (List.getD x1 (Int.toNat x2*8+Int.toNat a8) 0+1)),IntKind.wrap .i8 (1 - x2)))
 (none)))
 (none))
 (none))
 (none))
 (none))
 (none))
 (none))
 (br (inB x3 81)
 (br (inB x4 81)
 (br (x6)
 (br (inB x4 81)
 (br (inB x4 81)
 (br (inB x3 81)
 (some (List.set (List.set (List.set x0 (Int.toNat x4) (List.getD x0 (Int.toNat x3) 0)) (Int.toNat x4) (IntKind.wrap .i8 (List.getD (List.set x0 (Int.toNat x4) (List.getD x0 (Int.toNat x3) 0)) (Int.toNat x4) 0+8))) (Int.toNat x3) 0,x1,IntKind.wrap .i8 (1 - x2)))
 (none))
 (none))
 (none))
 (br (inB x3 81)
 (some (List.set (List.set x0 (Int.toNat x4) (List.getD x0 (Int.toNat x3) 0)) (Int.toNat x3) 0,x1,IntKind.wrap .i8 (1 - x2)))
 (none)))
 (none))
 (none)))
 (none))
def qG1 (rec:Int->Int->Nat->Int->Int->Int->Int->Nat->List (List Int)->Option ((Int×Int)⊕(Int×Int))) (x0 x1:Int) (x2:Nat) (x3 x4:Int) (x5 x6:Int) (x7:Nat) (x8:List (List Int)):Option ((Int×Int)⊕(Int×Int)):=
 br (decide (x4<x3))
 (br (inB x4 x2)
 (ob (qHZ 1 1 [x1]) fun (a17_0,a17_1)=>
 ob (qG3 x0 (List.headD (List.take 2 (List.getD x8 (Int.toNat x4) [])) 0) (List.headD (List.tail (List.take 2 (List.getD x8 (Int.toNat x4) []))) 0) a17_0 a17_1) fun (a19_0,a19_1)=>
 ob (qB3 a19_0 a19_1 x1) fun a21=>
 br (a21)
 (ob (qDu a19_0 a19_1 x1) fun (a22_0,a22_1)=>
 some (.inl (a22_0,a22_1)))
 (rec x0 x1 x2 x3 (IntKind.wrap .i64 (x4+1)) x5 x6 x7 x8))
 (none))
 (some (.inr (x5,x6)))
def qEU:Nat->Int->Int->Nat->Int->Int->Int->Int->Nat->List (List Int)->Option ((Int×Int)⊕(Int×Int))
 | 0,_,_,_,_,_,_,_,_,_=>none
 | f+1,x0,x1,x2,x3,x4,x5,x6,x7,x8=>qG1 (qEU f) x0 x1 x2 x3 x4 x5 x6 x7 x8
def qG0 (x0 x1:Int):Option (Int×Int):=
 ob (qFY 6) fun (a2_0,_,a2_2)=>
 ob (qFY 7) fun (a5_0,_,a5_2)=>
 br (decide ((a2_0+a5_0)*16<=140737488355328))
 (ob (qEU qC x0 x1 (a2_0+a5_0) (Int.ofNat (a2_0+a5_0)) 0 0 0 (a2_0+a5_0) (List.append (List.take a2_0 a2_2) (List.take a5_0 a5_2))) fun t8_2=>
 sw t8_2 (fun (a8_0,a8_1)=>
 some (a8_0,a8_1))
 (fun (_,_)=>
 some (0,0)))
 (none)
def qE4 (rec:Int->Int->Nat->Int->Int->Nat->Int->Int->List Int->List Int->Int->List (List Int)->List (List Int)->List (List Int×List Int)->Nat->List Int->Nat->List Int->Option (Int×Int×Nat×Int×Int×List Int×List Int×Int×List (List Int)×List (List Int)×List (List Int×List Int)×Nat×List Int)) (x0 x1:Int) (x2:Nat) (x3 x4:Int) (x5:Nat) (x6 x7:Int) (x8 x9:List Int) (x10:Int) (x11 x12:List (List Int)) (x13:List (List Int×List Int)) (x14:Nat) (x15:List Int) (x16:Nat) (x17:List Int):Option (Int×Int×Nat×Int×Int×List Int×List Int×Int×List (List Int)×List (List Int)×List (List Int×List Int)×Nat×List Int):=
 br (decide (x7<x6))
 (br (inB x7 x5)
 (ob (qG0 (List.getD x17 (Int.toNat x7) 0) x1) fun (a43_0,a43_1)=>
 ob (qCc x8 x9 x10 x11 x12) fun (a45_0,a45_1)=>
 ob (qCn a43_0 a43_1 a45_0 a45_1) fun (a47_0,a47_1)=>
 ob (qHX a47_0 a47_1) fun a49=>
 br (a49 != 1)
 (rec x0 x1 x2 x3 x4 x5 x6 (IntKind.wrap .i64 (x7+1)) x8 x9 x10 x11 x12 x13 x14 x15 x16 x17)
 (ob (qE8 x0 x8 x9 x10 x11 x12) fun (a50_0,a50_1)=>
 ob (qCn a47_0 a47_1 a50_0 a50_1) fun (a52_0,a52_1)=>
 ob (qEp a52_0 a52_1) fun a54=>
 br (a54)
 (rec x0 x1 x2 x3 x4 x5 x6 (IntKind.wrap .i64 (x7+1)) x8 x9 x10 x11 x12 x13 x14 x15 x16 x17)
 (ob (qFl a47_0 a47_1) fun a55=>
 ob (qBI (List.getD x17 (Int.toNat x7) 0) x8 x9 x10 x11 x12) fun a56=>
 ob (qCc x8 x9 x10 x11 x12) fun (a57_0,a57_1)=>
 ob (qDu a57_0 a57_1 a55) fun (a59_0,a59_1)=>
 ob (qEV a56 (List.getD x17 (Int.toNat x7) 0) a59_0 a59_1) fun (a61_0,a61_1)=>
 ob (qB3 a61_0 a61_1 x1) fun a63=>
 br (!a63)
 (rec x0 x1 x2 x3 x4 x5 x6 (IntKind.wrap .i64 (x7+1)) x8 x9 x10 x11 x12 x13 x14 x15 x16 x17)
 (ob (qBI (List.getD x17 (Int.toNat x7) 0) x8 x9 x10 x11 x12) fun a64=>
 ob (qCc x8 x9 x10 x11 x12) fun (a65_0,a65_1)=>
 ob (qEV a64 (List.getD x17 (Int.toNat x7) 0) a65_0 a65_1) fun (a67_0,a67_1)=>
 ob (qB3 a67_0 a67_1 x1) fun a69=>
 br (a69)
 (rec x0 x1 x2 x3 x4 x5 x6 (IntKind.wrap .i64 (x7+1)) x8 x9 x10 x11 x12 x13 x14 x15 x16 x17)
 (ob (qA1 a43_0 a43_1 (List.getD x17 (Int.toNat x7) 0)) fun (a70_0,a70_1)=>
 rec x0 x1 x2 x3 x4 x5 x6 (IntKind.wrap .i64 (x7+1)) x8 x9 x10 x11 x12 (qAE x13 [a55] [a70_0,a70_1]) x14 x15 x16 x17)))))
 (none))
 (some (x0,x1,x2,x3,x4,x8,x9,x10,x11,x12,x13,x14,x15))
def qD5:Nat->Int->Int->Nat->Int->Int->Nat->Int->Int->List Int->List Int->Int->List (List Int)->List (List Int)->List (List Int×List Int)->Nat->List Int->Nat->List Int->Option (Int×Int×Nat×Int×Int×List Int×List Int×Int×List (List Int)×List (List Int)×List (List Int×List Int)×Nat×List Int)
 | 0,_,_,_,_,_,_,_,_,_,_,_,_,_,_,_,_,_,_=>none
 | f+1,x0,x1,x2,x3,x4,x5,x6,x7,x8,x9,x10,x11,x12,x13,x14,x15,x16,x17=>qE4 (qD5 f) x0 x1 x2 x3 x4 x5 x6 x7 x8 x9 x10 x11 x12 x13 x14 x15 x16 x17
def qF8 (rec:Int->Int->Nat->Int->Int->List Int->List Int->Int->List (List Int)->List (List Int)->List (List Int×List Int)->Nat->List Int->Option (List Int×List Int×Int×List (List Int)×List (List Int)×List (List Int×List Int))) (x0 x1:Int) (x2:Nat) (x3 x4:Int) (x5 x6:List Int) (x7:Int) (x8 x9:List (List Int)) (x10:List (List Int×List Int)) (x11:Nat) (x12:List Int):Option (List Int×List Int×Int×List (List Int)×List (List Int)×List (List Int×List Int)):=
 br (decide (x4<x3))
 (br (inB x4 x2)
 (ob (qCw (IntKind.wrap .i64 (1 - x0)) (List.getD x12 (Int.toNat x4) 0) x5 x6 x7 x8 x9) fun (a20_0,a20_1)=>
 ob (qDs a20_0 a20_1) fun (a22_0,a22_1,a22_2)=>
 ob (qD5 qC x0 x1 x2 x3 x4 a22_0 (Int.ofNat a22_0) 0 x5 x6 x7 x8 x9 x10 x11 x12 a22_1 a22_2) fun (a25_0,a25_1,a25_2,a25_3,a25_4,a25_5,a25_6,a25_7,a25_8,a25_9,a25_10,a25_11,a25_12)=>
 rec a25_0 a25_1 a25_2 a25_3 (IntKind.wrap .i64 (a25_4+1)) a25_5 a25_6 a25_7 a25_8 a25_9 a25_10 a25_11 a25_12)
 (none))
 (some (x5,x6,x7,x8,x9,x10))
def qD4:Nat->Int->Int->Nat->Int->Int->List Int->List Int->Int->List (List Int)->List (List Int)->List (List Int×List Int)->Nat->List Int->Option (List Int×List Int×Int×List (List Int)×List (List Int)×List (List Int×List Int))
 | 0,_,_,_,_,_,_,_,_,_,_,_,_,_=>none
 | f+1,x0,x1,x2,x3,x4,x5,x6,x7,x8,x9,x10,x11,x12=>qF8 (qD4 f) x0 x1 x2 x3 x4 x5 x6 x7 x8 x9 x10 x11 x12
def qF6 (x0:Int) (x1 x2:List Int) (x3:Int) (x4 x5:List (List Int)):Option (List (List Int×List Int)):=
 ob (qE7 x0 x1 x2 x3 x4 x5) fun a6=>
 br (decide (a6<0))
 (some ([]))
 (ob (qD4 qC x0 a6 5 5 0 x1 x2 x3 x4 x5 [] 5 ([2,6,7,14,15])) fun (_,_,_,_,_,a7_5)=>
 some (a7_5))
def qGn (x0 x1:List Int) (x2:Int) (x3 x4:List (List Int)):Option (Int×Int×Int×Int×Bool×List (List Int×List Int)):=
 ob (qE7 x2 x0 x1 x2 x3 x4) fun a5=>
 ob (qFi ) fun (a6_0,a6_1)=>
 ob (qF6 x2 x0 x1 x2 x3 x4) fun a8=>
 ob (qF3 x2 x0 x1 x2 x3 x4) fun (a9_0,a9_1)=>
 ob (qHX a9_0 a9_1) fun a11=>
 br (a11==0)
 (some (x2,a5,a6_0,a6_1,false,a8))
 (br (a11==1)
 (ob (qFl a9_0 a9_1) fun a12=>
 ob (qG0 a12 a5) fun (a13_0,a13_1)=>
 ob (qDM a13_0 a13_1 a9_0 a9_1) fun (a15_0,a15_1)=>
 some (x2,a5,a15_0,a15_1,true,a8))
 (some (x2,a5,0,0,true,a8)))
def qGo (x0 x1:Int) (x2 x3:Int) (_x4:Bool) (x5 x6 _x7:Int) (_x8:Bool) (x9 x10:List Int) (x11:Int) (x12 x13:List (List Int)) (x14:List (List Int×List Int)):Option (Bool×List Int×List Int×Int×List (List Int)×List (List Int)×List (List Int×List Int)):=
 br (x5==x1)
 (ob (qCc x9 x10 x11 x12 x13) fun (a15_0,a15_1)=>
 ob (qDu a15_0 a15_1 x1) fun (a17_0,a17_1)=>
 ob (qF4 x6 (IntKind.wrap .i64 (1 - x0)) a17_0 a17_1 x9 x10 x11 x12 x13) fun (a19_0,a19_1)=>
 ob (qEp a19_0 a19_1) fun a21=>
 some (a21,x9,x10,x11,x12,x13,x14))
 (ob (qB3 x2 x3 x6) fun a15=>
 br (!a15)
 (some (false,x9,x10,x11,x12,x13,x14))
 (br (!qAt x14 [x5])
 (some (true,x9,x10,x11,x12,x13,x14))
 (ob (qB3 (List.headD (qAs x14 [x5] [0,0]) 0) (List.headD (List.tail (qAs x14 [x5] [0,0])) 0) x6) fun a16=>
 some (a16,x9,x10,x11,x12,x13,x14))))
def qGm (rec:Nat->Int->Int->List Int->List Int->Int->List (List Int)->List (List Int)->Int->Int->Int->Int->Bool->Nat->List (List Int)->List Int->List Int->Int->List (List Int)->List (List Int)->List (List Int×List Int)->Option ((Bool×List Int×List Int×Int×List (List Int)×List (List Int))⊕(List Int×List Int×Int×List (List Int)×List (List Int)))) (x0:Nat) (x1 x2:Int) (x3 x4:List Int) (x5:Int) (x6 x7:List (List Int)) (x8 x9:Int) (x10 x11:Int) (x12:Bool) (x13:Nat) (x14:List (List Int)) (x15 x16:List Int) (x17:Int) (x18 x19:List (List Int)) (x20:List (List Int×List Int)):Option ((Bool×List Int×List Int×Int×List (List Int)×List (List Int))⊕(List Int×List Int×Int×List (List Int)×List (List Int))):=
 br (decide (x2<x1))
 (br (inB x2 x0)
 (ob (qGo x8 x9 x10 x11 x12 (List.headD (List.take 4 (List.getD x14 (Int.toNat x2) [])) 0) (List.headD (List.tail (List.take 4 (List.getD x14 (Int.toNat x2) []))) 0) (List.headD (List.tail (List.tail (List.take 4 (List.getD x14 (Int.toNat x2) [])))) 0) (List.headD (List.tail (List.tail (List.tail (List.take 4 (List.getD x14 (Int.toNat x2) []))))) 0 != 0) x15 x16 x17 x18 x19 x20) fun (a53_0,a53_1,a53_2,a53_3,a53_4,a53_5,a53_6)=>
 br (a53_0)
 (some (.inl (false,x3,x4,x5,x6,x7)))
 (rec x0 x1 (IntKind.wrap .i64 (x2+1)) x3 x4 x5 x6 x7 x8 x9 x10 x11 x12 x13 x14 a53_1 a53_2 a53_3 a53_4 a53_5 a53_6))
 (none))
 (some (.inr (x3,x4,x5,x6,x7)))
def qEQ:Nat->Nat->Int->Int->List Int->List Int->Int->List (List Int)->List (List Int)->Int->Int->Int->Int->Bool->Nat->List (List Int)->List Int->List Int->Int->List (List Int)->List (List Int)->List (List Int×List Int)->Option ((Bool×List Int×List Int×Int×List (List Int)×List (List Int))⊕(List Int×List Int×Int×List (List Int)×List (List Int)))
 | 0,_,_,_,_,_,_,_,_,_,_,_,_,_,_,_,_,_,_,_,_,_=>none
 | f+1,x0,x1,x2,x3,x4,x5,x6,x7,x8,x9,x10,x11,x12,x13,x14,x15,x16,x17,x18,x19,x20=>qGm (qEQ f) x0 x1 x2 x3 x4 x5 x6 x7 x8 x9 x10 x11 x12 x13 x14 x15 x16 x17 x18 x19 x20
def qIS (x0:Int) (x1 x2:List Int) (x3:Int) (x4 x5:List (List Int)):Option (Bool):=
 ob (qBj x3 1) fun a6=>
 br (a6==0)
 (some (false))
 (br (decide (x0<0))
 (some (false))
 (br (decide (x0 >= 81))
 (some (false))
 (ob (qBI x0 x1 x2 x3 x4 x5) fun a7=>
 br (a7 != 0)
 (some (false))
 (ob (qJU x1 x2 x3 x4 x5) fun (a8_0,a8_1,a8_2,a8_3,a8_4)=>
 ob (qE9 x0 a6 a8_0 a8_1 a8_2 a8_3 a8_4) fun (a13_0,a13_1,a13_2,a13_3,a13_4)=>
 ob (qF3 (conv .i8 .i64 (IntKind.wrap .i8 (1 - a13_2))) a13_0 a13_1 (IntKind.wrap .i8 (1 - a13_2)) a13_3 a13_4) fun (a18_0,a18_1)=>
 ob (qB3 a18_0 a18_1 x0) fun a20=>
 br (!a20)
 (some (false))
 (ob (qGn a13_0 a13_1 (IntKind.wrap .i8 (1 - a13_2)) a13_3 a13_4) fun (a21_0,a21_1,a21_2,a21_3,a21_4,a21_5)=>
 ob (qFi ) fun (a27_0,a27_1)=>
 ob (qGR a27_0 a27_1 a13_0 a13_1 (IntKind.wrap .i8 (1 - a13_2)) a13_3 a13_4) fun (a29_0,a29_1,a29_2)=>
 ob (qEQ qC a29_0 (Int.ofNat a29_0) 0 x1 x2 x3 x4 x5 a21_0 a21_1 a21_2 a21_3 a21_4 a29_1 a29_2 a13_0 a13_1 (IntKind.wrap .i8 (1 - a13_2)) a13_3 a13_4 a21_5) fun t32_2=>
 sw t32_2 (fun (a32_0,_,_,_,_,_)=>
 some (a32_0))
 (fun (_,_,_,_,_)=>
 some (true)))))))
def qGl (rec:Nat->Nat->Int->Int->List Int->List Int->Int->List (List Int)->List (List Int)->Int->Int->Int->Int->Bool->Nat->List (List Int)->Nat->List (List Int)->List (List Int×List Int)->Option (Nat×List Int×List Int×Int×List (List Int)×List (List Int)×Int×Int×Int×Int×Bool×Nat×List (List Int)×List (List Int×List Int))) (x0 x1:Nat) (x2 x3:Int) (x4 x5:List Int) (x6:Int) (x7 x8:List (List Int)) (x9 x10:Int) (x11 x12:Int) (x13:Bool) (x14:Nat) (x15:List (List Int)) (x16:Nat) (x17:List (List Int)) (x18:List (List Int×List Int)):Option (Nat×List Int×List Int×Int×List (List Int)×List (List Int)×Int×Int×Int×Int×Bool×Nat×List (List Int)×List (List Int×List Int)):=
 br (decide (x3<x2))
 (br (inB x3 x1)
 (ob (qGo x9 x10 x11 x12 x13 (List.headD (List.take 4 (List.getD x17 (Int.toNat x3) [])) 0) (List.headD (List.tail (List.take 4 (List.getD x17 (Int.toNat x3) []))) 0) (List.headD (List.tail (List.tail (List.take 4 (List.getD x17 (Int.toNat x3) [])))) 0) (List.headD (List.tail (List.tail (List.tail (List.take 4 (List.getD x17 (Int.toNat x3) []))))) 0 != 0) x4 x5 x6 x7 x8 x18) fun (a35_0,a35_1,a35_2,a35_3,a35_4,a35_5,a35_6)=>
 br (a35_0)
 (br (decide ((x0+1)*32<=140737488355328))
 (rec (x0+1) x1 x2 (IntKind.wrap .i64 (x3+1)) a35_1 a35_2 a35_3 a35_4 a35_5 x9 x10 x11 x12 x13 (x0+1) (List.append (List.take x0 x15) [[List.headD (List.take 4 (List.getD x17 (Int.toNat x3) [])) 0,List.headD (List.tail (List.take 4 (List.getD x17 (Int.toNat x3) []))) 0,List.headD (List.tail (List.tail (List.take 4 (List.getD x17 (Int.toNat x3) [])))) 0,bi (List.headD (List.tail (List.tail (List.tail (List.take 4 (List.getD x17 (Int.toNat x3) []))))) 0 != 0)]]) x16 x17 a35_6)
 (none))
 (rec x0 x1 x2 (IntKind.wrap .i64 (x3+1)) a35_1 a35_2 a35_3 a35_4 a35_5 x9 x10 x11 x12 x13 x14 x15 x16 x17 a35_6))
 (none))
 (some (x0,x4,x5,x6,x7,x8,x9,x10,x11,x12,x13,x14,x15,x18))
def qEP:Nat->Nat->Nat->Int->Int->List Int->List Int->Int->List (List Int)->List (List Int)->Int->Int->Int->Int->Bool->Nat->List (List Int)->Nat->List (List Int)->List (List Int×List Int)->Option (Nat×List Int×List Int×Int×List (List Int)×List (List Int)×Int×Int×Int×Int×Bool×Nat×List (List Int)×List (List Int×List Int))
 | 0,_,_,_,_,_,_,_,_,_,_,_,_,_,_,_,_,_,_,_=>none
 | f+1,x0,x1,x2,x3,x4,x5,x6,x7,x8,x9,x10,x11,x12,x13,x14,x15,x16,x17,x18=>qGl (qEP f) x0 x1 x2 x3 x4 x5 x6 x7 x8 x9 x10 x11 x12 x13 x14 x15 x16 x17 x18
def qGk (rec:Nat->Nat->Int->Int->List Int->List Int->Int->List (List Int)->List (List Int)->Nat->List (List Int)->Nat->List (List Int)->Option (Nat×List Int×List Int×Int×List (List Int)×List (List Int)×Nat×List (List Int))) (x0 x1:Nat) (x2 x3:Int) (x4 x5:List Int) (x6:Int) (x7 x8:List (List Int)) (x9:Nat) (x10:List (List Int)) (x11:Nat) (x12:List (List Int)):Option (Nat×List Int×List Int×Int×List (List Int)×List (List Int)×Nat×List (List Int)):=
 br (decide (x3<x2))
 (br (inB x3 x1)
 (br (List.headD (List.tail (List.tail (List.take 4 (List.getD x12 (Int.toNat x3) [])))) 0==1)
 (ob (qIS (List.headD (List.tail (List.take 4 (List.getD x12 (Int.toNat x3) []))) 0) x4 x5 x6 x7 x8) fun a46=>
 br (a46)
 (rec x0 x1 x2 (IntKind.wrap .i64 (x3+1)) x4 x5 x6 x7 x8 x9 x10 x11 x12)
 (br (decide ((x0+1)*32<=140737488355328))
 (rec (x0+1) x1 x2 (IntKind.wrap .i64 (x3+1)) x4 x5 x6 x7 x8 (x0+1) (List.append (List.take x0 x10) [[List.headD (List.take 4 (List.getD x12 (Int.toNat x3) [])) 0,List.headD (List.tail (List.take 4 (List.getD x12 (Int.toNat x3) []))) 0,List.headD (List.tail (List.tail (List.take 4 (List.getD x12 (Int.toNat x3) [])))) 0,bi (List.headD (List.tail (List.tail (List.tail (List.take 4 (List.getD x12 (Int.toNat x3) []))))) 0 != 0)]]) x11 x12)
 (none)))
 (br (decide ((x0+1)*32<=140737488355328))
 (rec (x0+1) x1 x2 (IntKind.wrap .i64 (x3+1)) x4 x5 x6 x7 x8 (x0+1) (List.append (List.take x0 x10) [[List.headD (List.take 4 (List.getD x12 (Int.toNat x3) [])) 0,List.headD (List.tail (List.take 4 (List.getD x12 (Int.toNat x3) []))) 0,List.headD (List.tail (List.tail (List.take 4 (List.getD x12 (Int.toNat x3) [])))) 0,bi (List.headD (List.tail (List.tail (List.tail (List.take 4 (List.getD x12 (Int.toNat x3) []))))) 0 != 0)]]) x11 x12)
 (none)))
 (none))
 (some (x0,x4,x5,x6,x7,x8,x9,x10))
def qDd:Nat->Nat->Nat->Int->Int->List Int->List Int->Int->List (List Int)->List (List Int)->Nat->List (List Int)->Nat->List (List Int)->Option (Nat×List Int×List Int×Int×List (List Int)×List (List Int)×Nat×List (List Int))
 | 0,_,_,_,_,_,_,_,_,_,_,_,_,_=>none
 | f+1,x0,x1,x2,x3,x4,x5,x6,x7,x8,x9,x10,x11,x12=>qGk (qDd f) x0 x1 x2 x3 x4 x5 x6 x7 x8 x9 x10 x11 x12
def qDc (x0 x1:List Int) (x2:Int) (x3 x4:List (List Int)):Option (Nat×List Int×List Int×Int×List (List Int)×List (List Int)×Nat×List (List Int)):=
 ob (qGn x0 x1 x2 x3 x4) fun (a5_0,a5_1,a5_2,a5_3,a5_4,a5_5)=>
 ob (qFi ) fun (a11_0,a11_1)=>
 ob (qGR a11_0 a11_1 x0 x1 x2 x3 x4) fun (a13_0,a13_1,a13_2)=>
 ob (qEP qC 0 a13_0 (Int.ofNat a13_0) 0 x0 x1 x2 x3 x4 a5_0 a5_1 a5_2 a5_3 a5_4 0 [] a13_1 a13_2 a5_5) fun (a16_0,a16_1,a16_2,a16_3,a16_4,a16_5,_,_,a16_8,a16_9,_,a16_11,a16_12,_)=>
 ob (qIK a16_8 a16_9 a16_1 a16_2 a16_3 a16_4 a16_5) fun (a30_0,a30_1,a30_2)=>
 ob (qDd qC a16_0 a30_0 (Int.ofNat a30_0) 0 a16_1 a16_2 a16_3 a16_4 a16_5 a16_11 a16_12 a30_1 a30_2) fun (a33_0,a33_1,a33_2,a33_3,a33_4,a33_5,a33_6,a33_7)=>
 some (a33_0,a33_1,a33_2,a33_3,a33_4,a33_5,a33_6,a33_7)
def qHN (x0 x1:List Int) (x2 x3:Int) (x4 x5:Int) (x6:Bool):Option (Bool):=
 ob (qHF x0 x1 x2 x3 x4 x5 x6) fun (a7_0,a7_1,a7_2)=>
 ob (qFc a7_0 a7_1 a7_2 x2) fun a10=>
 some (!a10)
def qHO (rec:Nat->Int->List Int->List Int->Int->Nat->List (List Int)->Option ((Bool)⊕(Unit))) (x0:Nat) (x1:Int) (x2 x3:List Int) (x4:Int) (x5:Nat) (x6:List (List Int)):Option ((Bool)⊕(Unit)):=
 br (decide (x1<Int.ofNat x0))
 (br (inB x1 x0)
 (ob (qHN x2 x3 x4 (List.headD (List.take 4 (List.getD x6 (Int.toNat x1) [])) 0) (List.headD (List.tail (List.take 4 (List.getD x6 (Int.toNat x1) []))) 0) (List.headD (List.tail (List.tail (List.take 4 (List.getD x6 (Int.toNat x1) [])))) 0) (List.headD (List.tail (List.tail (List.tail (List.take 4 (List.getD x6 (Int.toNat x1) []))))) 0 != 0)) fun a13=>
 br (a13)
 (some (.inl (false)))
 (rec x0 (IntKind.wrap .i64 (x1+1)) x2 x3 x4 x5 x6))
 (none))
 (some (.inr ()))
def qEk:Nat->Nat->Int->List Int->List Int->Int->Nat->List (List Int)->Option ((Bool)⊕(Unit))
 | 0,_,_,_,_,_,_,_=>none
 | f+1,x0,x1,x2,x3,x4,x5,x6=>qHO (qEk f) x0 x1 x2 x3 x4 x5 x6
def qIq (x0 x1:List Int) (x2:Int):Option (Bool):=
 ob (qHG x0 x1 x2) fun (a3_0,a3_1,a3_2)=>
 ob (qEk qC a3_0 0 x0 x1 x2 a3_1 a3_2) fun t6_2=>
 sw t6_2 (fun a6=>
 some (a6))
 (fun _=>
 some (true))
def qIp (x0 x1:List Int) (x2 x3:Int) (x4 x5:Int) (x6:Bool):Option (Bool):=
 ob (qHN x0 x1 x2 x3 x4 x5 x6) fun a7=>
 br (!a7)
 (some (false))
 (br (x5 != 1)
 (some (true))
 (ob (qHF x0 x1 x2 x3 x4 x5 x6) fun (a8_0,a8_1,a8_2)=>
 ob (qFc a8_0 a8_1 a8_2 a8_2) fun a11=>
 br (!a11)
 (some (true))
 (ob (qIq a8_0 a8_1 a8_2) fun a12=>
 some (!a12))))
def qHM (rec:Nat->Nat->Int->List Int->List Int->Int->Nat->List (List Int)->Nat->List (List Int)->Option (Nat×Nat×List (List Int))) (x0 x1:Nat) (x2:Int) (x3 x4:List Int) (x5:Int) (x6:Nat) (x7:List (List Int)) (x8:Nat) (x9:List (List Int)):Option (Nat×Nat×List (List Int)):=
 br (decide (x2<Int.ofNat x1))
 (br (inB x2 x1)
 (ob (qIp x3 x4 x5 (List.headD (List.take 4 (List.getD x9 (Int.toNat x2) [])) 0) (List.headD (List.tail (List.take 4 (List.getD x9 (Int.toNat x2) []))) 0) (List.headD (List.tail (List.tail (List.take 4 (List.getD x9 (Int.toNat x2) [])))) 0) (List.headD (List.tail (List.tail (List.tail (List.take 4 (List.getD x9 (Int.toNat x2) []))))) 0 != 0)) fun a16=>
 br (a16)
 (br (inB x2 x1)
 (br (decide ((x0+1)*32<=140737488355328))
 (rec (x0+1) x1 (IntKind.wrap .i64 (x2+1)) x3 x4 x5 (x0+1) (List.append (List.take x0 x7) [[List.headD (List.take 4 (List.getD x9 (Int.toNat x2) [])) 0,List.headD (List.tail (List.take 4 (List.getD x9 (Int.toNat x2) []))) 0,List.headD (List.tail (List.tail (List.take 4 (List.getD x9 (Int.toNat x2) [])))) 0,bi (List.headD (List.tail (List.tail (List.tail (List.take 4 (List.getD x9 (Int.toNat x2) []))))) 0 != 0)]]) x8 x9)
 (none))
 (none))
 (rec x0 x1 (IntKind.wrap .i64 (x2+1)) x3 x4 x5 x6 x7 x8 x9))
 (none))
 (some (x0,x6,x7))
def qEj:Nat->Nat->Nat->Int->List Int->List Int->Int->Nat->List (List Int)->Nat->List (List Int)->Option (Nat×Nat×List (List Int))
 | 0,_,_,_,_,_,_,_,_,_,_=>none
 | f+1,x0,x1,x2,x3,x4,x5,x6,x7,x8,x9=>qHM (qEj f) x0 x1 x2 x3 x4 x5 x6 x7 x8 x9
def qHL (x0 x1:List Int) (x2:Int):Option (Nat×Nat×List (List Int)):=
 ob (qHG x0 x1 x2) fun (a3_0,a3_1,a3_2)=>
 ob (qEj qC 0 a3_0 0 x0 x1 x2 0 [] a3_1 a3_2) fun (a6_0,a6_1,a6_2)=>
 some (a6_0,a6_1,a6_2)
def qEm (x0:Int):Option ((Int)⊕((Int×Int×Int)⊕(Int×Int×Int×Nat×Int×Nat×List (List Int)))):=
 ob (qFv x0) fun t1_2=>
 sw t1_2 (fun a1=>
 br (a1 != 0)
 (some (.inl (a1)))
 (some (.inr (.inl (0,0,0)))))
 (fun (a1_0,a1_1,a1_2,a1_3,a1_4)=>
 br (a1_0 != 0)
 (some (.inl (a1_0)))
 (some (.inr (.inr (0,0,0,a1_1,a1_2,a1_3,a1_4)))))
def qJD (x0:Int):Option (Int):=
 br (x0==1)
 (some (100))
 (br (x0==2)
 (some (300))
 (br (x0==3)
 (some (350))
 (br (x0==4)
 (some (500))
 (br (x0==5)
 (some (550))
 (br (x0==12)
 (some (550))
 (br (x0==11)
 (some (550))
 (br (x0==10)
 (some (550))
 (br (x0==9)
 (some (600))
 (br (x0==6)
 (some (850))
 (br (x0==7)
 (some (950))
 (br (x0==14)
 (some (1100))
 (br (x0==15)
 (some (1250))
 (some (0))))))))))))))
def qLn (x0:Int):Option (Int):=
 some (bif false then bif decide (IntKind.wrap .i64 (4 - x0)<IntKind.wrap .i64 (x0 - 4)) then IntKind.wrap .i64 (4 - x0) else IntKind.wrap .i64 (x0 - 4) else bif decide (IntKind.wrap .i64 (4 - x0)>IntKind.wrap .i64 (x0 - 4)) then IntKind.wrap .i64 (4 - x0) else IntKind.wrap .i64 (x0 - 4))
def qRW (x0:Int):Option (Int):=
 br (decide (x0<0))
 (some (0))
 (br (decide (x0 >= 81))
 (some (0))
 (ob (qFk x0) fun a1=>
 ob (qLn a1) fun a2=>
 ob (qEs x0) fun a3=>
 ob (qLn a3) fun a4=>
 some (IntKind.wrap .i64 (4 - bif false then bif decide (a4<a2) then a4 else a2 else bif decide (a4>a2) then a4 else a2))))
def qRK (x0:Int):Option (Int):=
 br (decide (x0<1))
 (some (0))
 (br (decide (x0 >= 8))
 (some (0))
 (ob (qJD x0) fun a1=>
 ob (qJD x0) fun a2=>
 some (IntKind.wrap .i64 (a1+IntKind.wrap .i64 (Int.tdiv a2 10)))))
def qcO (rec:List Int->Int->List Int->List Int->Int->List Int->Option (List Int×List Int×Int×List Int)) (x0:List Int) (x1:Int) (x2 x3:List Int) (x4:Int) (x5:List Int):Option (List Int×List Int×Int×List Int):=
 br (decide (x1<81))
 (br (inB x1 81)
 (ob (qAy (List.getD x0 (bif true then Int.toNat x1 else Int.toNat x1*1) 0)) fun a9=>
 br (decide (a9 >= 0))
 (ob (qAQ (List.getD x0 (bif true then Int.toNat x1 else Int.toNat x1*1) 0)) fun a10=>
 br (a10 != 8)
 (br (inB a9 2)
 (ob (qAQ (List.getD x0 (bif true then Int.toNat x1 else Int.toNat x1*1) 0)) fun a11=>
 ob (qJD a11) fun a12=>
 ob (qRW x1) fun a13=>
 br (inB a9 2)
 (rec x0 (IntKind.wrap .i64 (x1+1)) x2 x3 x4 (List.set x5 (Int.toNat a9) (IntKind.wrap .i64 (List.getD x5 (Int.toNat a9) 0+IntKind.wrap .i64 (a12+a13)))))
 (none))
 (none))
 (rec x0 (IntKind.wrap .i64 (x1+1)) x2 x3 x4 x5))
 (rec x0 (IntKind.wrap .i64 (x1+1)) x2 x3 x4 x5))
 (none))
 (some (x2,x3,x4,x5))
def qLm:Nat->List Int->Int->List Int->List Int->Int->List Int->Option (List Int×List Int×Int×List Int)
 | 0,_,_,_,_,_,_=>none
 | f+1,x0,x1,x2,x3,x4,x5=>qcO (qLm f) x0 x1 x2 x3 x4 x5
def qcM (rec:Int->List Int->Int->List Int->Int->List Int->List Int->Int->List Int->Option (List Int×Int×List Int×List Int×Int×List Int)) (x0:Int) (x1:List Int) (x2:Int) (x3:List Int) (x4:Int) (x5 x6:List Int) (x7:Int) (x8:List Int):Option (List Int×Int×List Int×List Int×Int×List Int):=
 br (decide (x4<8))
 (br (inB x4 8)
 (br (inB x0 2)
 (ob (qRK x4) fun a22=>
 br (inB x0 2)
 (rec x0 x1 x2 x3 (IntKind.wrap .i64 (x4+1)) x5 x6 x7 (List.set x8 (Int.toNat x0) (IntKind.wrap .i64 (List.getD x8 (Int.toNat x0) 0+IntKind.wrap .i64 (conv .i8 .i64 (List.getD x3 (bif true then Int.toNat x4 else Int.toNat x4*1) 0)*a22)))))
 (none))
 (none))
 (none))
 (some (x1,x2,x5,x6,x7,x8))
def qLl:Nat->Int->List Int->Int->List Int->Int->List Int->List Int->Int->List Int->Option (List Int×Int×List Int×List Int×Int×List Int)
 | 0,_,_,_,_,_,_,_,_,_=>none
 | f+1,x0,x1,x2,x3,x4,x5,x6,x7,x8=>qcM (qLl f) x0 x1 x2 x3 x4 x5 x6 x7 x8
def qcK (rec:List Int->Int->List Int->List Int->Int->List Int->Option (List Int×List Int×Int×List Int)) (x0:List Int) (x1:Int) (x2 x3:List Int) (x4:Int) (x5:List Int):Option (List Int×List Int×Int×List Int):=
 br (decide (x1<2))
 (br (inB x1 2)
 (ob (qLl qC x1 x0 x1 (List.take 8 (List.drop (Nat.add (Nat.mul (Int.toNat x1) 7) (Int.toNat x1)) x0)) 0 x2 x3 x4 x5) fun (a13_0,a13_1,a13_2,a13_3,a13_4,a13_5)=>
 rec a13_0 (IntKind.wrap .i64 (a13_1+1)) a13_2 a13_3 a13_4 a13_5)
 (none))
 (some (x2,x3,x4,x5))
def qLk:Nat->List Int->Int->List Int->List Int->Int->List Int->Option (List Int×List Int×Int×List Int)
 | 0,_,_,_,_,_,_=>none
 | f+1,x0,x1,x2,x3,x4,x5=>qcK (qLk f) x0 x1 x2 x3 x4 x5
def qLi (x0 x1:List Int) (x2:Int):Option (Int):=
 ob (qLm qC x0 0 x0 x1 x2 ([0,0])) fun (a3_0,a3_1,a3_2,a3_3)=>
 ob (qLk qC a3_1 0 a3_0 a3_1 a3_2 a3_3) fun (_,_,a7_2,a7_3)=>
 br (a7_2==1)
 (some (IntKind.wrap .i64 (List.getD a7_3 1 0 - List.getD a7_3 0 0)))
 (some (IntKind.wrap .i64 (List.getD a7_3 0 0 - List.getD a7_3 1 0)))
def qRA (x0 x1:List Int) (x2:Int):Option (Empty):=
 ob (qRB x0 x1 x2) fun _=>
 none
def qQG (x0 x1:Int) (_x2 _x3:Int) (x4 x5 x6:Int) (x7:Nat) (x8 x9:List Int) (x10:Int) (x11 x12:List (List Int)) (x13:Nat) (x14:List (List Int)):Option (Int×Nat×Bool×Int×Int×Int×Nat×List Int×List Int×Int×List (List Int)×List (List Int)×Nat×List (List Int)×Nat×List (List Int)):=
 br (decide (x4 >= x5))
 (some (0,0,false,x4,x5,x6,x7,x8,x9,x10,x11,x12,x13,x14,0,[]))
 (ob (qDc x8 x9 x10 x11 x12) fun (a15_0,a15_1,a15_2,a15_3,a15_4,a15_5,_,_)=>
 br (Int.ofNat a15_0==0)
 (some (IntKind.wrap .i64 (x1 - 30000),0,true,IntKind.wrap .i64 (x4+1),x5,x6,x7,a15_1,a15_2,a15_3,a15_4,a15_5,x13,x14,0,[]))
 (br (x0==0)
 (ob (qLi a15_1 a15_2 a15_3) fun a23=>
 some (a23,0,true,IntKind.wrap .i64 (x4+1),x5,x6,x7,a15_1,a15_2,a15_3,a15_4,a15_5,x13,x14,0,[]))
 (ob (qRA a15_1 a15_2 a15_3) fun _=>
 none)))
def qZf (rec:Int->Int->Int->Int->Int->Nat->Int->Int->Nat->Int->Bool->Int->Int->Nat->Nat->Int->Bool->List Int->List Int->Int->List (List Int)->List (List Int)->Nat->List (List Int)->Nat->List (List Int)->Nat->List (List Int)->Option (Int×Int×Int×Nat×Int×Int×Nat×Int×Bool×Int×Int×Nat×Nat×Int×Bool×List Int×List Int×Int×List (List Int)×List (List Int)×Nat×List (List Int)×Nat×List (List Int)×Nat×List (List Int))) (x0 x1:Int) (x2 x3 x4:Int) (x5:Nat) (x6 x7:Int) (x8:Nat) (x9:Int) (x10:Bool) (x11 x12:Int) (x13 x14:Nat) (x15:Int) (x16:Bool) (x17 x18:List Int) (x19:Int) (x20 x21:List (List Int)) (x22:Nat) (x23:List (List Int)) (x24:Nat) (x25:List (List Int)) (x26:Nat) (x27:List (List Int)):Option (Int×Int×Int×Nat×Int×Int×Nat×Int×Bool×Int×Int×Nat×Nat×Int×Bool×List Int×List Int×Int×List (List Int)×List (List Int)×Nat×List (List Int)×Nat×List (List Int)×Nat×List (List Int)):=
 br (decide (x1<=bif true then bif decide (64<x0) then 64 else x0 else bif decide (64>x0) then 64 else x0))
 (ob (qQG x1 0 (-60000) 60000 x2 x3 x4 x5 x17 x18 x19 x20 x21 x22 x23) fun (a52_0,a52_1,a52_2,a52_3,a52_4,a52_5,a52_6,a52_7,a52_8,a52_9,a52_10,a52_11,a52_12,a52_13,a52_14,a52_15)=>
 br (!a52_2)
 (some (a52_3,a52_4,a52_5,a52_6,x6,x7,x8,x9,x10,x11,x12,x13,x14,x15,true,a52_7,a52_8,a52_9,a52_10,a52_11,a52_12,a52_13,x24,x25,x26,x27))
 (rec x0 (IntKind.wrap .i64 (x1+1)) a52_3 a52_4 a52_5 a52_6 x6 x7 x8 x9 x10 x1 a52_0 0 a52_1 x15 x16 a52_7 a52_8 a52_9 a52_10 a52_11 a52_12 a52_13 x24 x25 a52_14 a52_15))
 (some (x2,x3,x4,x5,x6,x7,x8,x9,x10,x11,x12,x13,x14,x15,x16,x17,x18,x19,x20,x21,x22,x23,x24,x25,x26,x27))
def qK9:Nat->Int->Int->Int->Int->Int->Nat->Int->Int->Nat->Int->Bool->Int->Int->Nat->Nat->Int->Bool->List Int->List Int->Int->List (List Int)->List (List Int)->Nat->List (List Int)->Nat->List (List Int)->Nat->List (List Int)->Option (Int×Int×Int×Nat×Int×Int×Nat×Int×Bool×Int×Int×Nat×Nat×Int×Bool×List Int×List Int×Int×List (List Int)×List (List Int)×Nat×List (List Int)×Nat×List (List Int)×Nat×List (List Int))
 | 0,_,_,_,_,_,_,_,_,_,_,_,_,_,_,_,_,_,_,_,_,_,_,_,_,_,_,_,_=>none
 | f+1,x0,x1,x2,x3,x4,x5,x6,x7,x8,x9,x10,x11,x12,x13,x14,x15,x16,x17,x18,x19,x20,x21,x22,x23,x24,x25,x26,x27=>qZf (qK9 f) x0 x1 x2 x3 x4 x5 x6 x7 x8 x9 x10 x11 x12 x13 x14 x15 x16 x17 x18 x19 x20 x21 x22 x23 x24 x25 x26 x27
def qK6 (x0 x1:List Int) (x2 x3:Int) (x4 _x5 _x6:Int):Option ((Int×Int×Nat×Int×Bool×Int×Int×Nat×List (List Int))⊕(Int×Int×Nat×Nat×Int×Bool×Int×Int×Nat×List (List Int))):=
 ob (qGK x0 x1 x2) fun (a7_0,a7_1,a7_2,a7_3,a7_4,a7_5,a7_6,a7_7,a7_8)=>
 ob (qDc a7_2 a7_3 a7_4 a7_5 a7_6) fun (a16_0,a16_1,a16_2,a16_3,a16_4,a16_5,a16_6,a16_7)=>
 br (Int.ofNat a16_0==0)
 (some (.inl (0,-30000,0,0,false,0,x4,0,[])))
 (br (qAd 1 a16_0)
 (br (true&&decide (1<=Int.ofNat a16_0))
 (ob (qK9 qC x3 1 0 x4 a7_0 a7_1 0 0 0 0 false 0 0 0 1 0 false a16_1 a16_2 a16_3 a16_4 a16_5 a7_7 a7_8 0 [] a16_6 a16_7) fun (a24_0,a24_1,_,_,_,_,_,_,_,a24_9,a24_10,a24_11,a24_12,_,a24_14,_,_,_,_,_,_,_,_,_,a24_24,a24_25)=>
 some (.inr (a24_9,a24_10,a24_11,a24_12,a24_0,a24_14,a24_0,a24_1,a24_24,a24_25)))
 (none))
 (none))
def qBc (x0 x1:Int):Option (Int):=
 br (decide (x0>27000))
 (some (IntKind.wrap .i64 (x0+x1)))
 (br (decide (x0 < -27000))
 (some (IntKind.wrap .i64 (x0 - x1)))
 (some (x0)))
def qa3 (rec:Nat->Int->Int->Nat->List (List Int)->Int->Int->Int->Bool->Option ((Int×Nat×List (List Int))⊕(Nat×List (List Int)))) (x0:Nat) (x1 x2:Int) (x3:Nat) (x4:List (List Int)) (x5 x6 x7:Int) (x8:Bool):Option ((Int×Nat×List (List Int))⊕(Nat×List (List Int))):=
 br (decide (x2<x1))
 (br (inB x2 x0)
 (br (x5==List.headD (List.take 4 (List.getD x4 (Int.toNat x2) [])) 0&&(x6==List.headD (List.tail (List.take 4 (List.getD x4 (Int.toNat x2) []))) 0&&(x7==List.headD (List.tail (List.tail (List.take 4 (List.getD x4 (Int.toNat x2) [])))) 0&&x8==(List.headD (List.tail (List.tail (List.tail (List.take 4 (List.getD x4 (Int.toNat x2) []))))) 0 != 0))))
 (some (.inl (x2,x3,x4)))
 (rec x0 x1 (IntKind.wrap .i64 (x2+1)) x3 x4 x5 x6 x7 x8))
 (none))
 (some (.inr (x3,x4)))
def qLU:Nat->Nat->Int->Int->Nat->List (List Int)->Int->Int->Int->Bool->Option ((Int×Nat×List (List Int))⊕(Nat×List (List Int)))
 | 0,_,_,_,_,_,_,_,_,_=>none
 | f+1,x0,x1,x2,x3,x4,x5,x6,x7,x8=>qa3 (qLU f) x0 x1 x2 x3 x4 x5 x6 x7 x8
def qEv (x0:Nat) (x1 x2 x3:Int) (x4:Bool) (x5:Nat) (x6:List (List Int)):Option (Int):=
 ob (qLU qC x0 (Int.ofNat x0) 0 x5 x6 x1 x2 x3 x4) fun t7_2=>
 sw t7_2 (fun (a7_0,_,_)=>
 some (a7_0))
 (fun (_,_)=>
 some (-1))
def qZj (self:Int->Int->Int->Int->Int->Int->Nat->Int->Int->Nat->Nat->List (List Int)->List Int->List Int->Int->List (List Int)->List (List Int)->Nat->List (List Int)->Option ((Int×Nat×Bool×Int×Int×Nat×Int×Int×Nat×Nat×List (List Int)×List Int×List Int×Int×List (List Int)×List (List Int)×Nat×List (List Int)×Nat×List (List Int))⊕(Int×Nat×Bool×Int×Int×Nat×Int×Int×Nat×Nat×List (List Int)×List Int×List Int×Int×List (List Int)×List (List Int)×Nat×List (List Int)×Nat×List (List Int)))) (rec:Int->Int->Int->Int->Int->Nat->Int->Nat->Int->Int->Int->Int->Nat->Int->Int->Nat->Nat->List (List Int)->List Int->List Int->Int->List (List Int)->List (List Int)->Nat->List (List Int)->Nat->List (List Int)->Nat->List (List Int)->Option ((Int×Int×Int×Int×Int×Nat×Bool×Int×Nat×Int×Int×Nat×Int×Int×Nat×Nat×List (List Int)×List Int×List Int×Int×List (List Int)×List (List Int)×Nat×List (List Int)×Nat×List (List Int)×Nat×List (List Int))⊕(Int×Int×Int×Int×Int×Nat×Int×Int×Nat×Int×Int×Nat×Nat×List (List Int)×List Int×List Int×Int×List (List Int)×List (List Int)×Nat×List (List Int)×Nat×List (List Int)))) (x0 x1:Int) (x2 x3 x4:Int) (x5:Nat) (x6:Int) (x7:Nat) (x8 x9:Int) (x10 x11:Int) (x12:Nat) (x13 x14:Int) (x15 x16:Nat) (x17:List (List Int)) (x18 x19:List Int) (x20:Int) (x21 x22:List (List Int)) (x23:Nat) (x24:List (List Int)) (x25:Nat) (x26:List (List Int)) (x27:Nat) (x28:List (List Int)):Option ((Int×Int×Int×Int×Int×Nat×Bool×Int×Nat×Int×Int×Nat×Int×Int×Nat×Nat×List (List Int)×List Int×List Int×Int×List (List Int)×List (List Int)×Nat×List (List Int)×Nat×List (List Int)×Nat×List (List Int))⊕(Int×Int×Int×Int×Int×Nat×Int×Int×Nat×Int×Int×Nat×Nat×List (List Int)×List Int×List Int×Int×List (List Int)×List (List Int)×Nat×List (List Int)×Nat×List (List Int))):=
 br (decide (x9<x8))
 (br (inB x9 x7)
 (ob (qMi (List.headD (List.take 4 (List.getD x28 (Int.toNat x9) [])) 0) (List.headD (List.tail (List.take 4 (List.getD x28 (Int.toNat x9) []))) 0) (List.headD (List.tail (List.tail (List.take 4 (List.getD x28 (Int.toNat x9) [])))) 0) (List.headD (List.tail (List.tail (List.tail (List.take 4 (List.getD x28 (Int.toNat x9) []))))) 0 != 0) x14 x15 x18 x19 x20 x21 x22 x23 x24) fun t66_2=>
 sw t66_2 (fun (_,a66_1,a66_2,a66_3,a66_4,a66_5,a66_6,a66_7,a66_8,a66_9)=>
 ob (self (IntKind.wrap .i64 (x0 - 1)) (IntKind.wrap .i64 (x1+1)) (IntKind.wrap .i64 (0 - x3)) (IntKind.wrap .i64 (0 - x6)) x10 x11 x12 x13 a66_1 a66_2 x16 x17 a66_3 a66_4 a66_5 a66_6 a66_7 a66_8 a66_9) fun t76_2=>
 sw t76_2 (fun (a76_0,a76_1,a76_2,a76_3,a76_4,a76_5,a76_6,a76_7,a76_8,a76_9,a76_10,a76_11,a76_12,a76_13,a76_14,a76_15,a76_16,a76_17,_,a76_19)=>
 ob (qGJ a76_7 a76_8 a76_11 a76_12 a76_13 a76_14 a76_15 a76_16 a76_17) fun (_,a96_1,a96_2,a96_3,a96_4,a96_5,a96_6,a96_7,a96_8,a96_9)=>
 br (!a76_2)
 (some (.inl (x0,x1,x2,x3,0,0,false,x4,x5,a76_3,a76_4,a76_5,a76_6,a96_1,a96_2,a76_9,a76_10,a96_3,a96_4,a96_5,a96_6,a96_7,a96_8,a96_9,0,[],x25,x26)))
 (br (decide (IntKind.wrap .i64 (0 - a76_0)>x4))
 (br (decide ((1+a76_1)*32<=140737488355328))
 (br (decide ((bif false then bif decide (IntKind.wrap .i64 (0 - a76_0)<x6) then IntKind.wrap .i64 (0 - a76_0) else x6 else bif decide (IntKind.wrap .i64 (0 - a76_0)>x6) then IntKind.wrap .i64 (0 - a76_0) else x6) >= x3))
 (some (.inr (x0,x1,x2,x3,IntKind.wrap .i64 (0 - a76_0),1+a76_1,a76_3,a76_4,a76_5,a76_6,a96_1,a96_2,a76_9,a76_10,a96_3,a96_4,a96_5,a96_6,a96_7,a96_8,a96_9,1+a76_1,[List.headD (List.take 4 (List.getD x28 (Int.toNat x9) [])) 0,List.headD (List.tail (List.take 4 (List.getD x28 (Int.toNat x9) []))) 0,List.headD (List.tail (List.tail (List.take 4 (List.getD x28 (Int.toNat x9) [])))) 0,bi (List.headD (List.tail (List.tail (List.tail (List.take 4 (List.getD x28 (Int.toNat x9) []))))) 0 != 0)] :: List.take a76_1 a76_19)))
 (rec x0 x1 x2 x3 (IntKind.wrap .i64 (0 - a76_0)) (1+a76_1) (bif false then bif decide (IntKind.wrap .i64 (0 - a76_0)<x6) then IntKind.wrap .i64 (0 - a76_0) else x6 else bif decide (IntKind.wrap .i64 (0 - a76_0)>x6) then IntKind.wrap .i64 (0 - a76_0) else x6) x7 x8 (IntKind.wrap .i64 (x9+1)) a76_3 a76_4 a76_5 a76_6 a96_1 a96_2 a76_9 a76_10 a96_3 a96_4 a96_5 a96_6 a96_7 a96_8 a96_9 (1+a76_1) ([List.headD (List.take 4 (List.getD x28 (Int.toNat x9) [])) 0,List.headD (List.tail (List.take 4 (List.getD x28 (Int.toNat x9) []))) 0,List.headD (List.tail (List.tail (List.take 4 (List.getD x28 (Int.toNat x9) [])))) 0,bi (List.headD (List.tail (List.tail (List.tail (List.take 4 (List.getD x28 (Int.toNat x9) []))))) 0 != 0)] :: List.take a76_1 a76_19) x27 x28))
 (none))
 (br (decide ((bif false then bif decide (x4<x6) then x4 else x6 else bif decide (x4>x6) then x4 else x6) >= x3))
 (some (.inr (x0,x1,x2,x3,x4,x5,a76_3,a76_4,a76_5,a76_6,a96_1,a96_2,a76_9,a76_10,a96_3,a96_4,a96_5,a96_6,a96_7,a96_8,a96_9,x25,x26)))
 (rec x0 x1 x2 x3 x4 x5 (bif false then bif decide (x4<x6) then x4 else x6 else bif decide (x4>x6) then x4 else x6) x7 x8 (IntKind.wrap .i64 (x9+1)) a76_3 a76_4 a76_5 a76_6 a96_1 a96_2 a76_9 a76_10 a96_3 a96_4 a96_5 a96_6 a96_7 a96_8 a96_9 x25 x26 x27 x28))))
 (fun (a76_0,a76_1,a76_2,a76_3,a76_4,a76_5,a76_6,a76_7,a76_8,a76_9,a76_10,a76_11,a76_12,a76_13,a76_14,a76_15,a76_16,a76_17,_,a76_19)=>
 ob (qGJ a76_7 a76_8 a76_11 a76_12 a76_13 a76_14 a76_15 a76_16 a76_17) fun (_,a96_1,a96_2,a96_3,a96_4,a96_5,a96_6,a96_7,a96_8,a96_9)=>
 br (!a76_2)
 (some (.inl (x0,x1,x2,x3,0,0,false,x4,x5,a76_3,a76_4,a76_5,a76_6,a96_1,a96_2,a76_9,a76_10,a96_3,a96_4,a96_5,a96_6,a96_7,a96_8,a96_9,0,[],x25,x26)))
 (br (decide (IntKind.wrap .i64 (0 - a76_0)>x4))
 (br (decide ((1+a76_1)*32<=140737488355328))
 (br (decide ((bif false then bif decide (IntKind.wrap .i64 (0 - a76_0)<x6) then IntKind.wrap .i64 (0 - a76_0) else x6 else bif decide (IntKind.wrap .i64 (0 - a76_0)>x6) then IntKind.wrap .i64 (0 - a76_0) else x6) >= x3))
 (some (.inr (x0,x1,x2,x3,IntKind.wrap .i64 (0 - a76_0),1+a76_1,a76_3,a76_4,a76_5,a76_6,a96_1,a96_2,a76_9,a76_10,a96_3,a96_4,a96_5,a96_6,a96_7,a96_8,a96_9,1+a76_1,[List.headD (List.take 4 (List.getD x28 (Int.toNat x9) [])) 0,List.headD (List.tail (List.take 4 (List.getD x28 (Int.toNat x9) []))) 0,List.headD (List.tail (List.tail (List.take 4 (List.getD x28 (Int.toNat x9) [])))) 0,bi (List.headD (List.tail (List.tail (List.tail (List.take 4 (List.getD x28 (Int.toNat x9) []))))) 0 != 0)] :: List.take a76_1 a76_19)))
 (rec x0 x1 x2 x3 (IntKind.wrap .i64 (0 - a76_0)) (1+a76_1) (bif false then bif decide (IntKind.wrap .i64 (0 - a76_0)<x6) then IntKind.wrap .i64 (0 - a76_0) else x6 else bif decide (IntKind.wrap .i64 (0 - a76_0)>x6) then IntKind.wrap .i64 (0 - a76_0) else x6) x7 x8 (IntKind.wrap .i64 (x9+1)) a76_3 a76_4 a76_5 a76_6 a96_1 a96_2 a76_9 a76_10 a96_3 a96_4 a96_5 a96_6 a96_7 a96_8 a96_9 (1+a76_1) ([List.headD (List.take 4 (List.getD x28 (Int.toNat x9) [])) 0,List.headD (List.tail (List.take 4 (List.getD x28 (Int.toNat x9) []))) 0,List.headD (List.tail (List.tail (List.take 4 (List.getD x28 (Int.toNat x9) [])))) 0,bi (List.headD (List.tail (List.tail (List.tail (List.take 4 (List.getD x28 (Int.toNat x9) []))))) 0 != 0)] :: List.take a76_1 a76_19) x27 x28))
 (none))
 (br (decide ((bif false then bif decide (x4<x6) then x4 else x6 else bif decide (x4>x6) then x4 else x6) >= x3))
 (some (.inr (x0,x1,x2,x3,x4,x5,a76_3,a76_4,a76_5,a76_6,a96_1,a96_2,a76_9,a76_10,a96_3,a96_4,a96_5,a96_6,a96_7,a96_8,a96_9,x25,x26)))
 (rec x0 x1 x2 x3 x4 x5 (bif false then bif decide (x4<x6) then x4 else x6 else bif decide (x4>x6) then x4 else x6) x7 x8 (IntKind.wrap .i64 (x9+1)) a76_3 a76_4 a76_5 a76_6 a96_1 a96_2 a76_9 a76_10 a96_3 a96_4 a96_5 a96_6 a96_7 a96_8 a96_9 x25 x26 x27 x28)))))
 (fun (_,a66_1,a66_2,a66_3,a66_4,a66_5,a66_6,a66_7,a66_8,a66_9)=>
 ob (self (IntKind.wrap .i64 (x0 - 1)) (IntKind.wrap .i64 (x1+1)) (IntKind.wrap .i64 (0 - x3)) (IntKind.wrap .i64 (0 - x6)) x10 x11 x12 x13 a66_1 a66_2 x16 x17 a66_3 a66_4 a66_5 a66_6 a66_7 a66_8 a66_9) fun t76_2=>
 sw t76_2 (fun (a76_0,a76_1,a76_2,a76_3,a76_4,a76_5,a76_6,a76_7,a76_8,a76_9,a76_10,a76_11,a76_12,a76_13,a76_14,a76_15,a76_16,a76_17,_,a76_19)=>
 ob (qGJ a76_7 a76_8 a76_11 a76_12 a76_13 a76_14 a76_15 a76_16 a76_17) fun (_,a96_1,a96_2,a96_3,a96_4,a96_5,a96_6,a96_7,a96_8,a96_9)=>
 br (!a76_2)
 (some (.inl (x0,x1,x2,x3,0,0,false,x4,x5,a76_3,a76_4,a76_5,a76_6,a96_1,a96_2,a76_9,a76_10,a96_3,a96_4,a96_5,a96_6,a96_7,a96_8,a96_9,0,[],x25,x26)))
 (br (decide (IntKind.wrap .i64 (0 - a76_0)>x4))
 (br (decide ((1+a76_1)*32<=140737488355328))
 (br (decide ((bif false then bif decide (IntKind.wrap .i64 (0 - a76_0)<x6) then IntKind.wrap .i64 (0 - a76_0) else x6 else bif decide (IntKind.wrap .i64 (0 - a76_0)>x6) then IntKind.wrap .i64 (0 - a76_0) else x6) >= x3))
 (some (.inr (x0,x1,x2,x3,IntKind.wrap .i64 (0 - a76_0),1+a76_1,a76_3,a76_4,a76_5,a76_6,a96_1,a96_2,a76_9,a76_10,a96_3,a96_4,a96_5,a96_6,a96_7,a96_8,a96_9,1+a76_1,[List.headD (List.take 4 (List.getD x28 (Int.toNat x9) [])) 0,List.headD (List.tail (List.take 4 (List.getD x28 (Int.toNat x9) []))) 0,List.headD (List.tail (List.tail (List.take 4 (List.getD x28 (Int.toNat x9) [])))) 0,bi (List.headD (List.tail (List.tail (List.tail (List.take 4 (List.getD x28 (Int.toNat x9) []))))) 0 != 0)] :: List.take a76_1 a76_19)))
 (rec x0 x1 x2 x3 (IntKind.wrap .i64 (0 - a76_0)) (1+a76_1) (bif false then bif decide (IntKind.wrap .i64 (0 - a76_0)<x6) then IntKind.wrap .i64 (0 - a76_0) else x6 else bif decide (IntKind.wrap .i64 (0 - a76_0)>x6) then IntKind.wrap .i64 (0 - a76_0) else x6) x7 x8 (IntKind.wrap .i64 (x9+1)) a76_3 a76_4 a76_5 a76_6 a96_1 a96_2 a76_9 a76_10 a96_3 a96_4 a96_5 a96_6 a96_7 a96_8 a96_9 (1+a76_1) ([List.headD (List.take 4 (List.getD x28 (Int.toNat x9) [])) 0,List.headD (List.tail (List.take 4 (List.getD x28 (Int.toNat x9) []))) 0,List.headD (List.tail (List.tail (List.take 4 (List.getD x28 (Int.toNat x9) [])))) 0,bi (List.headD (List.tail (List.tail (List.tail (List.take 4 (List.getD x28 (Int.toNat x9) []))))) 0 != 0)] :: List.take a76_1 a76_19) x27 x28))
 (none))
 (br (decide ((bif false then bif decide (x4<x6) then x4 else x6 else bif decide (x4>x6) then x4 else x6) >= x3))
 (some (.inr (x0,x1,x2,x3,x4,x5,a76_3,a76_4,a76_5,a76_6,a96_1,a96_2,a76_9,a76_10,a96_3,a96_4,a96_5,a96_6,a96_7,a96_8,a96_9,x25,x26)))
 (rec x0 x1 x2 x3 x4 x5 (bif false then bif decide (x4<x6) then x4 else x6 else bif decide (x4>x6) then x4 else x6) x7 x8 (IntKind.wrap .i64 (x9+1)) a76_3 a76_4 a76_5 a76_6 a96_1 a96_2 a76_9 a76_10 a96_3 a96_4 a96_5 a96_6 a96_7 a96_8 a96_9 x25 x26 x27 x28))))
 (fun (a76_0,a76_1,a76_2,a76_3,a76_4,a76_5,a76_6,a76_7,a76_8,a76_9,a76_10,a76_11,a76_12,a76_13,a76_14,a76_15,a76_16,a76_17,_,a76_19)=>
 ob (qGJ a76_7 a76_8 a76_11 a76_12 a76_13 a76_14 a76_15 a76_16 a76_17) fun (_,a96_1,a96_2,a96_3,a96_4,a96_5,a96_6,a96_7,a96_8,a96_9)=>
 br (!a76_2)
 (some (.inl (x0,x1,x2,x3,0,0,false,x4,x5,a76_3,a76_4,a76_5,a76_6,a96_1,a96_2,a76_9,a76_10,a96_3,a96_4,a96_5,a96_6,a96_7,a96_8,a96_9,0,[],x25,x26)))
 (br (decide (IntKind.wrap .i64 (0 - a76_0)>x4))
 (br (decide ((1+a76_1)*32<=140737488355328))
 (br (decide ((bif false then bif decide (IntKind.wrap .i64 (0 - a76_0)<x6) then IntKind.wrap .i64 (0 - a76_0) else x6 else bif decide (IntKind.wrap .i64 (0 - a76_0)>x6) then IntKind.wrap .i64 (0 - a76_0) else x6) >= x3))
 (some (.inr (x0,x1,x2,x3,IntKind.wrap .i64 (0 - a76_0),1+a76_1,a76_3,a76_4,a76_5,a76_6,a96_1,a96_2,a76_9,a76_10,a96_3,a96_4,a96_5,a96_6,a96_7,a96_8,a96_9,1+a76_1,[List.headD (List.take 4 (List.getD x28 (Int.toNat x9) [])) 0,List.headD (List.tail (List.take 4 (List.getD x28 (Int.toNat x9) []))) 0,List.headD (List.tail (List.tail (List.take 4 (List.getD x28 (Int.toNat x9) [])))) 0,bi (List.headD (List.tail (List.tail (List.tail (List.take 4 (List.getD x28 (Int.toNat x9) []))))) 0 != 0)] :: List.take a76_1 a76_19)))
 (rec x0 x1 x2 x3 (IntKind.wrap .i64 (0 - a76_0)) (1+a76_1) (bif false then bif decide (IntKind.wrap .i64 (0 - a76_0)<x6) then IntKind.wrap .i64 (0 - a76_0) else x6 else bif decide (IntKind.wrap .i64 (0 - a76_0)>x6) then IntKind.wrap .i64 (0 - a76_0) else x6) x7 x8 (IntKind.wrap .i64 (x9+1)) a76_3 a76_4 a76_5 a76_6 a96_1 a96_2 a76_9 a76_10 a96_3 a96_4 a96_5 a96_6 a96_7 a96_8 a96_9 (1+a76_1) ([List.headD (List.take 4 (List.getD x28 (Int.toNat x9) [])) 0,List.headD (List.tail (List.take 4 (List.getD x28 (Int.toNat x9) []))) 0,List.headD (List.tail (List.tail (List.take 4 (List.getD x28 (Int.toNat x9) [])))) 0,bi (List.headD (List.tail (List.tail (List.tail (List.take 4 (List.getD x28 (Int.toNat x9) []))))) 0 != 0)] :: List.take a76_1 a76_19) x27 x28))
 (none))
 (br (decide ((bif false then bif decide (x4<x6) then x4 else x6 else bif decide (x4>x6) then x4 else x6) >= x3))
 (some (.inr (x0,x1,x2,x3,x4,x5,a76_3,a76_4,a76_5,a76_6,a96_1,a96_2,a76_9,a76_10,a96_3,a96_4,a96_5,a96_6,a96_7,a96_8,a96_9,x25,x26)))
 (rec x0 x1 x2 x3 x4 x5 (bif false then bif decide (x4<x6) then x4 else x6 else bif decide (x4>x6) then x4 else x6) x7 x8 (IntKind.wrap .i64 (x9+1)) a76_3 a76_4 a76_5 a76_6 a96_1 a96_2 a76_9 a76_10 a96_3 a96_4 a96_5 a96_6 a96_7 a96_8 a96_9 x25 x26 x27 x28))))))
 (none))
 (some (.inr (x0,x1,x2,x3,x4,x5,x10,x11,x12,x13,x14,x15,x16,x17,x18,x19,x20,x21,x22,x23,x24,x25,x26)))
def qBb (self:Int->Int->Int->Int->Int->Int->Nat->Int->Int->Nat->Nat->List (List Int)->List Int->List Int->Int->List (List Int)->List (List Int)->Nat->List (List Int)->Option ((Int×Nat×Bool×Int×Int×Nat×Int×Int×Nat×Nat×List (List Int)×List Int×List Int×Int×List (List Int)×List (List Int)×Nat×List (List Int)×Nat×List (List Int))⊕(Int×Nat×Bool×Int×Int×Nat×Int×Int×Nat×Nat×List (List Int)×List Int×List Int×Int×List (List Int)×List (List Int)×Nat×List (List Int)×Nat×List (List Int)))):Nat->Int->Int->Int->Int->Int->Nat->Int->Nat->Int->Int->Int->Int->Nat->Int->Int->Nat->Nat->List (List Int)->List Int->List Int->Int->List (List Int)->List (List Int)->Nat->List (List Int)->Nat->List (List Int)->Nat->List (List Int)->Option ((Int×Int×Int×Int×Int×Nat×Bool×Int×Nat×Int×Int×Nat×Int×Int×Nat×Nat×List (List Int)×List Int×List Int×Int×List (List Int)×List (List Int)×Nat×List (List Int)×Nat×List (List Int)×Nat×List (List Int))⊕(Int×Int×Int×Int×Int×Nat×Int×Int×Nat×Int×Int×Nat×Nat×List (List Int)×List Int×List Int×Int×List (List Int)×List (List Int)×Nat×List (List Int)×Nat×List (List Int)))
 | 0,_,_,_,_,_,_,_,_,_,_,_,_,_,_,_,_,_,_,_,_,_,_,_,_,_,_,_,_,_=>none
 | f+1,x0,x1,x2,x3,x4,x5,x6,x7,x8,x9,x10,x11,x12,x13,x14,x15,x16,x17,x18,x19,x20,x21,x22,x23,x24,x25,x26,x27,x28=>qZj self (qBb self f) x0 x1 x2 x3 x4 x5 x6 x7 x8 x9 x10 x11 x12 x13 x14 x15 x16 x17 x18 x19 x20 x21 x22 x23 x24 x25 x26 x27 x28
def qmu (self:Int->Int->Int->Int->Int->Int->Nat->Int->Int->Nat->Nat->List (List Int)->List Int->List Int->Int->List (List Int)->List (List Int)->Nat->List (List Int)->Option ((Int×Nat×Bool×Int×Int×Nat×Int×Int×Nat×Nat×List (List Int)×List Int×List Int×Int×List (List Int)×List (List Int)×Nat×List (List Int)×Nat×List (List Int))⊕(Int×Nat×Bool×Int×Int×Nat×Int×Int×Nat×Nat×List (List Int)×List Int×List Int×Int×List (List Int)×List (List Int)×Nat×List (List Int)×Nat×List (List Int)))) (x0 x1:Int) (x2 x3:Int) (x4 x5:Int) (x6:Nat) (x7 x8:Int) (x9 x10:Nat) (x11:List (List Int)) (x12 x13:List Int) (x14:Int) (x15 x16:List (List Int)) (x17:Nat) (x18:List (List Int)):Option ((Int×Nat×Bool×Int×Int×Nat×Int×Int×Nat×Nat×List (List Int)×List Int×List Int×Int×List (List Int)×List (List Int)×Nat×List (List Int)×Nat×List (List Int))⊕(Int×Nat×Bool×Int×Int×Nat×Int×Int×Nat×Nat×List (List Int)×List Int×List Int×Int×List (List Int)×List (List Int)×Nat×List (List Int)×Nat×List (List Int))):=
 br (decide (x4 >= x5))
 (some (.inl (0,0,false,x4,x5,x6,x7,x8,x9,x10,x11,x12,x13,x14,x15,x16,x17,x18,0,[])))
 (ob (qDc x12 x13 x14 x15 x16) fun (a19_0,a19_1,a19_2,a19_3,a19_4,a19_5,a19_6,a19_7)=>
 br (Int.ofNat a19_0==0)
 (some (.inl (IntKind.wrap .i64 (x1 - 30000),0,true,IntKind.wrap .i64 (x4+1),x5,x6,x7,x8,x9,x10,x11,a19_1,a19_2,a19_3,a19_4,a19_5,x17,x18,0,[])))
 (br (x0==0)
 (ob (qLi a19_1 a19_2 a19_3) fun a27=>
 some (.inl (a27,0,true,IntKind.wrap .i64 (x4+1),x5,x6,x7,x8,x9,x10,x11,a19_1,a19_2,a19_3,a19_4,a19_5,x17,x18,0,[])))
 (ob (qQ9 a19_1 a19_2 a19_3 x6 x7 x10 x11) fun (a27_0,a27_1,a27_2,a27_3,a27_4,a27_5,a27_6,a27_7)=>
 br (a27_7)
 (ob (qBc a27_1 (IntKind.wrap .i64 (0 - x1))) fun a35=>
 br (a27_0==x0)
 (br (decide (x1>0))
 (br (a27_2==0)
 (some (.inl (a35,1,true,IntKind.wrap .i64 (x4+1),x5,x6,x7,x8,x9,x10,x11,a19_1,a19_2,a19_3,a19_4,a19_5,x17,x18,1,[[a27_3,a27_4,a27_5,bi a27_6]])))
 (br (a27_2==1)
 (br (decide (a35 >= x3))
 (some (.inl (a35,1,true,IntKind.wrap .i64 (x4+1),x5,x6,x7,x8,x9,x10,x11,a19_1,a19_2,a19_3,a19_4,a19_5,x17,x18,1,[[a27_3,a27_4,a27_5,bi a27_6]])))
 (br (a27_2==2)
 (br (decide (a35<=x2))
 (some (.inl (a35,1,true,IntKind.wrap .i64 (x4+1),x5,x6,x7,x8,x9,x10,x11,a19_1,a19_2,a19_3,a19_4,a19_5,x17,x18,1,[[a27_3,a27_4,a27_5,bi a27_6]])))
 (ob (qEv a19_0 a27_3 a27_4 a27_5 a27_6 a19_6 a19_7) fun a36=>
 br (decide (a36>0))
 (br (qAd (IntKind.wrap .i64 (a36+1)) a19_0)
 (br (true&&decide (1<Int.ofNat (Int.toNat (IntKind.wrap .i64 (a36+1)))))
 (br (qAd a36 a19_0)
 (br (inB 0 a19_0)
 (ob (qBb self qC x0 x1 x2 x3 (-60000) 0 x2 a19_0 (Int.ofNat a19_0) 0 (IntKind.wrap .i64 (x4+1)) x5 x6 x7 x8 x9 x10 x11 a19_1 a19_2 a19_3 a19_4 a19_5 x17 x18 0 [] a19_6 (List.set (List.append (List.take 1 a19_7) (List.append (List.take (Nat.min (Int.toNat a36 - 0) (Int.toNat (IntKind.wrap .i64 (a36+1)) - 1)) a19_7) (List.drop (1+Nat.min (Int.toNat a36 - 0) (Int.toNat (IntKind.wrap .i64 (a36+1)) - 1)) a19_7))) 0 (a27_3 :: a27_4 :: a27_5 :: bi a27_6 :: List.drop 4 (List.getD (List.append (List.take 1 a19_7) (List.append (List.take (Nat.min (Int.toNat a36 - 0) (Int.toNat (IntKind.wrap .i64 (a36+1)) - 1)) a19_7) (List.drop (1+Nat.min (Int.toNat a36 - 0) (Int.toNat (IntKind.wrap .i64 (a36+1)) - 1)) a19_7))) 0 [])))) fun t37_2=>
 sw t37_2 (fun (_,_,_,_,a37_4,a37_5,a37_6,_,_,a37_9,a37_10,a37_11,a37_12,a37_13,a37_14,a37_15,a37_16,a37_17,a37_18,a37_19,a37_20,a37_21,a37_22,a37_23,a37_24,a37_25,_,_)=>
 some (.inr (a37_4,a37_5,a37_6,a37_9,a37_10,a37_11,a37_12,a37_13,a37_14,a37_15,a37_16,a37_17,a37_18,a37_19,a37_20,a37_21,a37_22,a37_23,a37_24,a37_25)))
 (fun (a37_0,a37_1,a37_2,a37_3,a37_4,a37_5,a37_6,a37_7,a37_8,a37_9,a37_10,a37_11,a37_12,a37_13,a37_14,a37_15,a37_16,a37_17,a37_18,a37_19,a37_20,a37_21,a37_22)=>
 ob (qBc a37_4 a37_1) fun a60=>
 br (inB 0 a37_5)
 (br (decide (a37_4 >= a37_3))
 (ob (qp a37_14 a37_15 a37_16 a37_0 a60 1 (List.headD (List.take 4 (List.getD a37_22 0 [])) 0) (List.headD (List.tail (List.take 4 (List.getD a37_22 0 []))) 0) (List.headD (List.tail (List.tail (List.take 4 (List.getD a37_22 0 [])))) 0) (List.headD (List.tail (List.tail (List.tail (List.take 4 (List.getD a37_22 0 []))))) 0 != 0) a37_8 a37_9 a37_12 a37_13) fun (a61_0,a61_1,a61_2,a61_3)=>
 some (.inr (a37_4,a37_5,true,a37_6,a37_7,a61_0,a61_1,a37_10,a37_11,a61_2,a61_3,a37_14,a37_15,a37_16,a37_17,a37_18,a37_19,a37_20,a37_21,a37_22)))
 (br (decide (a37_4<=a37_2))
 (ob (qp a37_14 a37_15 a37_16 a37_0 a60 2 (List.headD (List.take 4 (List.getD a37_22 0 [])) 0) (List.headD (List.tail (List.take 4 (List.getD a37_22 0 []))) 0) (List.headD (List.tail (List.tail (List.take 4 (List.getD a37_22 0 [])))) 0) (List.headD (List.tail (List.tail (List.tail (List.take 4 (List.getD a37_22 0 []))))) 0 != 0) a37_8 a37_9 a37_12 a37_13) fun (a61_0,a61_1,a61_2,a61_3)=>
 some (.inr (a37_4,a37_5,true,a37_6,a37_7,a61_0,a61_1,a37_10,a37_11,a61_2,a61_3,a37_14,a37_15,a37_16,a37_17,a37_18,a37_19,a37_20,a37_21,a37_22)))
 (ob (qp a37_14 a37_15 a37_16 a37_0 a60 0 (List.headD (List.take 4 (List.getD a37_22 0 [])) 0) (List.headD (List.tail (List.take 4 (List.getD a37_22 0 []))) 0) (List.headD (List.tail (List.tail (List.take 4 (List.getD a37_22 0 [])))) 0) (List.headD (List.tail (List.tail (List.tail (List.take 4 (List.getD a37_22 0 []))))) 0 != 0) a37_8 a37_9 a37_12 a37_13) fun (a61_0,a61_1,a61_2,a61_3)=>
 some (.inr (a37_4,a37_5,true,a37_6,a37_7,a61_0,a61_1,a37_10,a37_11,a61_2,a61_3,a37_14,a37_15,a37_16,a37_17,a37_18,a37_19,a37_20,a37_21,a37_22)))))
 (none)))
 (none))
 (none))
 (none))
 (none))
 (ob (qBb self qC x0 x1 x2 x3 (-60000) 0 x2 a19_0 (Int.ofNat a19_0) 0 (IntKind.wrap .i64 (x4+1)) x5 x6 x7 x8 x9 x10 x11 a19_1 a19_2 a19_3 a19_4 a19_5 x17 x18 0 [] a19_6 a19_7) fun t37_2=>
 sw t37_2 (fun (_,_,_,_,a37_4,a37_5,a37_6,_,_,a37_9,a37_10,a37_11,a37_12,a37_13,a37_14,a37_15,a37_16,a37_17,a37_18,a37_19,a37_20,a37_21,a37_22,a37_23,a37_24,a37_25,_,_)=>
 some (.inr (a37_4,a37_5,a37_6,a37_9,a37_10,a37_11,a37_12,a37_13,a37_14,a37_15,a37_16,a37_17,a37_18,a37_19,a37_20,a37_21,a37_22,a37_23,a37_24,a37_25)))
 (fun (a37_0,a37_1,a37_2,a37_3,a37_4,a37_5,a37_6,a37_7,a37_8,a37_9,a37_10,a37_11,a37_12,a37_13,a37_14,a37_15,a37_16,a37_17,a37_18,a37_19,a37_20,a37_21,a37_22)=>
 ob (qBc a37_4 a37_1) fun a60=>
 br (inB 0 a37_5)
 (br (decide (a37_4 >= a37_3))
 (ob (qp a37_14 a37_15 a37_16 a37_0 a60 1 (List.headD (List.take 4 (List.getD a37_22 0 [])) 0) (List.headD (List.tail (List.take 4 (List.getD a37_22 0 []))) 0) (List.headD (List.tail (List.tail (List.take 4 (List.getD a37_22 0 [])))) 0) (List.headD (List.tail (List.tail (List.tail (List.take 4 (List.getD a37_22 0 []))))) 0 != 0) a37_8 a37_9 a37_12 a37_13) fun (a61_0,a61_1,a61_2,a61_3)=>
 some (.inr (a37_4,a37_5,true,a37_6,a37_7,a61_0,a61_1,a37_10,a37_11,a61_2,a61_3,a37_14,a37_15,a37_16,a37_17,a37_18,a37_19,a37_20,a37_21,a37_22)))
 (br (decide (a37_4<=a37_2))
 (ob (qp a37_14 a37_15 a37_16 a37_0 a60 2 (List.headD (List.take 4 (List.getD a37_22 0 [])) 0) (List.headD (List.tail (List.take 4 (List.getD a37_22 0 []))) 0) (List.headD (List.tail (List.tail (List.take 4 (List.getD a37_22 0 [])))) 0) (List.headD (List.tail (List.tail (List.tail (List.take 4 (List.getD a37_22 0 []))))) 0 != 0) a37_8 a37_9 a37_12 a37_13) fun (a61_0,a61_1,a61_2,a61_3)=>
 some (.inr (a37_4,a37_5,true,a37_6,a37_7,a61_0,a61_1,a37_10,a37_11,a61_2,a61_3,a37_14,a37_15,a37_16,a37_17,a37_18,a37_19,a37_20,a37_21,a37_22)))
 (ob (qp a37_14 a37_15 a37_16 a37_0 a60 0 (List.headD (List.take 4 (List.getD a37_22 0 [])) 0) (List.headD (List.tail (List.take 4 (List.getD a37_22 0 []))) 0) (List.headD (List.tail (List.tail (List.take 4 (List.getD a37_22 0 [])))) 0) (List.headD (List.tail (List.tail (List.tail (List.take 4 (List.getD a37_22 0 []))))) 0 != 0) a37_8 a37_9 a37_12 a37_13) fun (a61_0,a61_1,a61_2,a61_3)=>
 some (.inr (a37_4,a37_5,true,a37_6,a37_7,a61_0,a61_1,a37_10,a37_11,a61_2,a61_3,a37_14,a37_15,a37_16,a37_17,a37_18,a37_19,a37_20,a37_21,a37_22)))))
 (none)))))
 (ob (qEv a19_0 a27_3 a27_4 a27_5 a27_6 a19_6 a19_7) fun a36=>
 br (decide (a36>0))
 (br (qAd (IntKind.wrap .i64 (a36+1)) a19_0)
 (br (true&&decide (1<Int.ofNat (Int.toNat (IntKind.wrap .i64 (a36+1)))))
 (br (qAd a36 a19_0)
 (br (inB 0 a19_0)
 (ob (qBb self qC x0 x1 x2 x3 (-60000) 0 x2 a19_0 (Int.ofNat a19_0) 0 (IntKind.wrap .i64 (x4+1)) x5 x6 x7 x8 x9 x10 x11 a19_1 a19_2 a19_3 a19_4 a19_5 x17 x18 0 [] a19_6 (List.set (List.append (List.take 1 a19_7) (List.append (List.take (Nat.min (Int.toNat a36 - 0) (Int.toNat (IntKind.wrap .i64 (a36+1)) - 1)) a19_7) (List.drop (1+Nat.min (Int.toNat a36 - 0) (Int.toNat (IntKind.wrap .i64 (a36+1)) - 1)) a19_7))) 0 (a27_3 :: a27_4 :: a27_5 :: bi a27_6 :: List.drop 4 (List.getD (List.append (List.take 1 a19_7) (List.append (List.take (Nat.min (Int.toNat a36 - 0) (Int.toNat (IntKind.wrap .i64 (a36+1)) - 1)) a19_7) (List.drop (1+Nat.min (Int.toNat a36 - 0) (Int.toNat (IntKind.wrap .i64 (a36+1)) - 1)) a19_7))) 0 [])))) fun t37_2=>
 sw t37_2 (fun (_,_,_,_,a37_4,a37_5,a37_6,_,_,a37_9,a37_10,a37_11,a37_12,a37_13,a37_14,a37_15,a37_16,a37_17,a37_18,a37_19,a37_20,a37_21,a37_22,a37_23,a37_24,a37_25,_,_)=>
 some (.inr (a37_4,a37_5,a37_6,a37_9,a37_10,a37_11,a37_12,a37_13,a37_14,a37_15,a37_16,a37_17,a37_18,a37_19,a37_20,a37_21,a37_22,a37_23,a37_24,a37_25)))
 (fun (a37_0,a37_1,a37_2,a37_3,a37_4,a37_5,a37_6,a37_7,a37_8,a37_9,a37_10,a37_11,a37_12,a37_13,a37_14,a37_15,a37_16,a37_17,a37_18,a37_19,a37_20,a37_21,a37_22)=>
 ob (qBc a37_4 a37_1) fun a60=>
 br (inB 0 a37_5)
 (br (decide (a37_4 >= a37_3))
 (ob (qp a37_14 a37_15 a37_16 a37_0 a60 1 (List.headD (List.take 4 (List.getD a37_22 0 [])) 0) (List.headD (List.tail (List.take 4 (List.getD a37_22 0 []))) 0) (List.headD (List.tail (List.tail (List.take 4 (List.getD a37_22 0 [])))) 0) (List.headD (List.tail (List.tail (List.tail (List.take 4 (List.getD a37_22 0 []))))) 0 != 0) a37_8 a37_9 a37_12 a37_13) fun (a61_0,a61_1,a61_2,a61_3)=>
 some (.inr (a37_4,a37_5,true,a37_6,a37_7,a61_0,a61_1,a37_10,a37_11,a61_2,a61_3,a37_14,a37_15,a37_16,a37_17,a37_18,a37_19,a37_20,a37_21,a37_22)))
 (br (decide (a37_4<=a37_2))
 (ob (qp a37_14 a37_15 a37_16 a37_0 a60 2 (List.headD (List.take 4 (List.getD a37_22 0 [])) 0) (List.headD (List.tail (List.take 4 (List.getD a37_22 0 []))) 0) (List.headD (List.tail (List.tail (List.take 4 (List.getD a37_22 0 [])))) 0) (List.headD (List.tail (List.tail (List.tail (List.take 4 (List.getD a37_22 0 []))))) 0 != 0) a37_8 a37_9 a37_12 a37_13) fun (a61_0,a61_1,a61_2,a61_3)=>
 some (.inr (a37_4,a37_5,true,a37_6,a37_7,a61_0,a61_1,a37_10,a37_11,a61_2,a61_3,a37_14,a37_15,a37_16,a37_17,a37_18,a37_19,a37_20,a37_21,a37_22)))
 (ob (qp a37_14 a37_15 a37_16 a37_0 a60 0 (List.headD (List.take 4 (List.getD a37_22 0 [])) 0) (List.headD (List.tail (List.take 4 (List.getD a37_22 0 []))) 0) (List.headD (List.tail (List.tail (List.take 4 (List.getD a37_22 0 [])))) 0) (List.headD (List.tail (List.tail (List.tail (List.take 4 (List.getD a37_22 0 []))))) 0 != 0) a37_8 a37_9 a37_12 a37_13) fun (a61_0,a61_1,a61_2,a61_3)=>
 some (.inr (a37_4,a37_5,true,a37_6,a37_7,a61_0,a61_1,a37_10,a37_11,a61_2,a61_3,a37_14,a37_15,a37_16,a37_17,a37_18,a37_19,a37_20,a37_21,a37_22)))))
 (none)))
 (none))
 (none))
 (none))
 (none))
 (ob (qBb self qC x0 x1 x2 x3 (-60000) 0 x2 a19_0 (Int.ofNat a19_0) 0 (IntKind.wrap .i64 (x4+1)) x5 x6 x7 x8 x9 x10 x11 a19_1 a19_2 a19_3 a19_4 a19_5 x17 x18 0 [] a19_6 a19_7) fun t37_2=>
 sw t37_2 (fun (_,_,_,_,a37_4,a37_5,a37_6,_,_,a37_9,a37_10,a37_11,a37_12,a37_13,a37_14,a37_15,a37_16,a37_17,a37_18,a37_19,a37_20,a37_21,a37_22,a37_23,a37_24,a37_25,_,_)=>
 some (.inr (a37_4,a37_5,a37_6,a37_9,a37_10,a37_11,a37_12,a37_13,a37_14,a37_15,a37_16,a37_17,a37_18,a37_19,a37_20,a37_21,a37_22,a37_23,a37_24,a37_25)))
 (fun (a37_0,a37_1,a37_2,a37_3,a37_4,a37_5,a37_6,a37_7,a37_8,a37_9,a37_10,a37_11,a37_12,a37_13,a37_14,a37_15,a37_16,a37_17,a37_18,a37_19,a37_20,a37_21,a37_22)=>
 ob (qBc a37_4 a37_1) fun a60=>
 br (inB 0 a37_5)
 (br (decide (a37_4 >= a37_3))
 (ob (qp a37_14 a37_15 a37_16 a37_0 a60 1 (List.headD (List.take 4 (List.getD a37_22 0 [])) 0) (List.headD (List.tail (List.take 4 (List.getD a37_22 0 []))) 0) (List.headD (List.tail (List.tail (List.take 4 (List.getD a37_22 0 [])))) 0) (List.headD (List.tail (List.tail (List.tail (List.take 4 (List.getD a37_22 0 []))))) 0 != 0) a37_8 a37_9 a37_12 a37_13) fun (a61_0,a61_1,a61_2,a61_3)=>
 some (.inr (a37_4,a37_5,true,a37_6,a37_7,a61_0,a61_1,a37_10,a37_11,a61_2,a61_3,a37_14,a37_15,a37_16,a37_17,a37_18,a37_19,a37_20,a37_21,a37_22)))
 (br (decide (a37_4<=a37_2))
 (ob (qp a37_14 a37_15 a37_16 a37_0 a60 2 (List.headD (List.take 4 (List.getD a37_22 0 [])) 0) (List.headD (List.tail (List.take 4 (List.getD a37_22 0 []))) 0) (List.headD (List.tail (List.tail (List.take 4 (List.getD a37_22 0 [])))) 0) (List.headD (List.tail (List.tail (List.tail (List.take 4 (List.getD a37_22 0 []))))) 0 != 0) a37_8 a37_9 a37_12 a37_13) fun (a61_0,a61_1,a61_2,a61_3)=>
 some (.inr (a37_4,a37_5,true,a37_6,a37_7,a61_0,a61_1,a37_10,a37_11,a61_2,a61_3,a37_14,a37_15,a37_16,a37_17,a37_18,a37_19,a37_20,a37_21,a37_22)))
 (ob (qp a37_14 a37_15 a37_16 a37_0 a60 0 (List.headD (List.take 4 (List.getD a37_22 0 [])) 0) (List.headD (List.tail (List.take 4 (List.getD a37_22 0 []))) 0) (List.headD (List.tail (List.tail (List.take 4 (List.getD a37_22 0 [])))) 0) (List.headD (List.tail (List.tail (List.tail (List.take 4 (List.getD a37_22 0 []))))) 0 != 0) a37_8 a37_9 a37_12 a37_13) fun (a61_0,a61_1,a61_2,a61_3)=>
 some (.inr (a37_4,a37_5,true,a37_6,a37_7,a61_0,a61_1,a37_10,a37_11,a61_2,a61_3,a37_14,a37_15,a37_16,a37_17,a37_18,a37_19,a37_20,a37_21,a37_22)))))
 (none))))))
 (br (a27_2==2)
 (br (decide (a35<=x2))
 (some (.inl (a35,1,true,IntKind.wrap .i64 (x4+1),x5,x6,x7,x8,x9,x10,x11,a19_1,a19_2,a19_3,a19_4,a19_5,x17,x18,1,[[a27_3,a27_4,a27_5,bi a27_6]])))
 (ob (qEv a19_0 a27_3 a27_4 a27_5 a27_6 a19_6 a19_7) fun a36=>
 br (decide (a36>0))
 (br (qAd (IntKind.wrap .i64 (a36+1)) a19_0)
 (br (true&&decide (1<Int.ofNat (Int.toNat (IntKind.wrap .i64 (a36+1)))))
 (br (qAd a36 a19_0)
 (br (inB 0 a19_0)
 (ob (qBb self qC x0 x1 x2 x3 (-60000) 0 x2 a19_0 (Int.ofNat a19_0) 0 (IntKind.wrap .i64 (x4+1)) x5 x6 x7 x8 x9 x10 x11 a19_1 a19_2 a19_3 a19_4 a19_5 x17 x18 0 [] a19_6 (List.set (List.append (List.take 1 a19_7) (List.append (List.take (Nat.min (Int.toNat a36 - 0) (Int.toNat (IntKind.wrap .i64 (a36+1)) - 1)) a19_7) (List.drop (1+Nat.min (Int.toNat a36 - 0) (Int.toNat (IntKind.wrap .i64 (a36+1)) - 1)) a19_7))) 0 (a27_3 :: a27_4 :: a27_5 :: bi a27_6 :: List.drop 4 (List.getD (List.append (List.take 1 a19_7) (List.append (List.take (Nat.min (Int.toNat a36 - 0) (Int.toNat (IntKind.wrap .i64 (a36+1)) - 1)) a19_7) (List.drop (1+Nat.min (Int.toNat a36 - 0) (Int.toNat (IntKind.wrap .i64 (a36+1)) - 1)) a19_7))) 0 [])))) fun t37_2=>
 sw t37_2 (fun (_,_,_,_,a37_4,a37_5,a37_6,_,_,a37_9,a37_10,a37_11,a37_12,a37_13,a37_14,a37_15,a37_16,a37_17,a37_18,a37_19,a37_20,a37_21,a37_22,a37_23,a37_24,a37_25,_,_)=>
 some (.inr (a37_4,a37_5,a37_6,a37_9,a37_10,a37_11,a37_12,a37_13,a37_14,a37_15,a37_16,a37_17,a37_18,a37_19,a37_20,a37_21,a37_22,a37_23,a37_24,a37_25)))
 (fun (a37_0,a37_1,a37_2,a37_3,a37_4,a37_5,a37_6,a37_7,a37_8,a37_9,a37_10,a37_11,a37_12,a37_13,a37_14,a37_15,a37_16,a37_17,a37_18,a37_19,a37_20,a37_21,a37_22)=>
 ob (qBc a37_4 a37_1) fun a60=>
 br (inB 0 a37_5)
 (br (decide (a37_4 >= a37_3))
 (ob (qp a37_14 a37_15 a37_16 a37_0 a60 1 (List.headD (List.take 4 (List.getD a37_22 0 [])) 0) (List.headD (List.tail (List.take 4 (List.getD a37_22 0 []))) 0) (List.headD (List.tail (List.tail (List.take 4 (List.getD a37_22 0 [])))) 0) (List.headD (List.tail (List.tail (List.tail (List.take 4 (List.getD a37_22 0 []))))) 0 != 0) a37_8 a37_9 a37_12 a37_13) fun (a61_0,a61_1,a61_2,a61_3)=>
 some (.inr (a37_4,a37_5,true,a37_6,a37_7,a61_0,a61_1,a37_10,a37_11,a61_2,a61_3,a37_14,a37_15,a37_16,a37_17,a37_18,a37_19,a37_20,a37_21,a37_22)))
 (br (decide (a37_4<=a37_2))
 (ob (qp a37_14 a37_15 a37_16 a37_0 a60 2 (List.headD (List.take 4 (List.getD a37_22 0 [])) 0) (List.headD (List.tail (List.take 4 (List.getD a37_22 0 []))) 0) (List.headD (List.tail (List.tail (List.take 4 (List.getD a37_22 0 [])))) 0) (List.headD (List.tail (List.tail (List.tail (List.take 4 (List.getD a37_22 0 []))))) 0 != 0) a37_8 a37_9 a37_12 a37_13) fun (a61_0,a61_1,a61_2,a61_3)=>
 some (.inr (a37_4,a37_5,true,a37_6,a37_7,a61_0,a61_1,a37_10,a37_11,a61_2,a61_3,a37_14,a37_15,a37_16,a37_17,a37_18,a37_19,a37_20,a37_21,a37_22)))
 (ob (qp a37_14 a37_15 a37_16 a37_0 a60 0 (List.headD (List.take 4 (List.getD a37_22 0 [])) 0) (List.headD (List.tail (List.take 4 (List.getD a37_22 0 []))) 0) (List.headD (List.tail (List.tail (List.take 4 (List.getD a37_22 0 [])))) 0) (List.headD (List.tail (List.tail (List.tail (List.take 4 (List.getD a37_22 0 []))))) 0 != 0) a37_8 a37_9 a37_12 a37_13) fun (a61_0,a61_1,a61_2,a61_3)=>
 some (.inr (a37_4,a37_5,true,a37_6,a37_7,a61_0,a61_1,a37_10,a37_11,a61_2,a61_3,a37_14,a37_15,a37_16,a37_17,a37_18,a37_19,a37_20,a37_21,a37_22)))))
 (none)))
 (none))
 (none))
 (none))
 (none))
 (ob (qBb self qC x0 x1 x2 x3 (-60000) 0 x2 a19_0 (Int.ofNat a19_0) 0 (IntKind.wrap .i64 (x4+1)) x5 x6 x7 x8 x9 x10 x11 a19_1 a19_2 a19_3 a19_4 a19_5 x17 x18 0 [] a19_6 a19_7) fun t37_2=>
 sw t37_2 (fun (_,_,_,_,a37_4,a37_5,a37_6,_,_,a37_9,a37_10,a37_11,a37_12,a37_13,a37_14,a37_15,a37_16,a37_17,a37_18,a37_19,a37_20,a37_21,a37_22,a37_23,a37_24,a37_25,_,_)=>
 some (.inr (a37_4,a37_5,a37_6,a37_9,a37_10,a37_11,a37_12,a37_13,a37_14,a37_15,a37_16,a37_17,a37_18,a37_19,a37_20,a37_21,a37_22,a37_23,a37_24,a37_25)))
 (fun (a37_0,a37_1,a37_2,a37_3,a37_4,a37_5,a37_6,a37_7,a37_8,a37_9,a37_10,a37_11,a37_12,a37_13,a37_14,a37_15,a37_16,a37_17,a37_18,a37_19,a37_20,a37_21,a37_22)=>
 ob (qBc a37_4 a37_1) fun a60=>
 br (inB 0 a37_5)
 (br (decide (a37_4 >= a37_3))
 (ob (qp a37_14 a37_15 a37_16 a37_0 a60 1 (List.headD (List.take 4 (List.getD a37_22 0 [])) 0) (List.headD (List.tail (List.take 4 (List.getD a37_22 0 []))) 0) (List.headD (List.tail (List.tail (List.take 4 (List.getD a37_22 0 [])))) 0) (List.headD (List.tail (List.tail (List.tail (List.take 4 (List.getD a37_22 0 []))))) 0 != 0) a37_8 a37_9 a37_12 a37_13) fun (a61_0,a61_1,a61_2,a61_3)=>
 some (.inr (a37_4,a37_5,true,a37_6,a37_7,a61_0,a61_1,a37_10,a37_11,a61_2,a61_3,a37_14,a37_15,a37_16,a37_17,a37_18,a37_19,a37_20,a37_21,a37_22)))
 (br (decide (a37_4<=a37_2))
 (ob (qp a37_14 a37_15 a37_16 a37_0 a60 2 (List.headD (List.take 4 (List.getD a37_22 0 [])) 0) (List.headD (List.tail (List.take 4 (List.getD a37_22 0 []))) 0) (List.headD (List.tail (List.tail (List.take 4 (List.getD a37_22 0 [])))) 0) (List.headD (List.tail (List.tail (List.tail (List.take 4 (List.getD a37_22 0 []))))) 0 != 0) a37_8 a37_9 a37_12 a37_13) fun (a61_0,a61_1,a61_2,a61_3)=>
 some (.inr (a37_4,a37_5,true,a37_6,a37_7,a61_0,a61_1,a37_10,a37_11,a61_2,a61_3,a37_14,a37_15,a37_16,a37_17,a37_18,a37_19,a37_20,a37_21,a37_22)))
 (ob (qp a37_14 a37_15 a37_16 a37_0 a60 0 (List.headD (List.take 4 (List.getD a37_22 0 [])) 0) (List.headD (List.tail (List.take 4 (List.getD a37_22 0 []))) 0) (List.headD (List.tail (List.tail (List.take 4 (List.getD a37_22 0 [])))) 0) (List.headD (List.tail (List.tail (List.tail (List.take 4 (List.getD a37_22 0 []))))) 0 != 0) a37_8 a37_9 a37_12 a37_13) fun (a61_0,a61_1,a61_2,a61_3)=>
 some (.inr (a37_4,a37_5,true,a37_6,a37_7,a61_0,a61_1,a37_10,a37_11,a61_2,a61_3,a37_14,a37_15,a37_16,a37_17,a37_18,a37_19,a37_20,a37_21,a37_22)))))
 (none)))))
 (ob (qEv a19_0 a27_3 a27_4 a27_5 a27_6 a19_6 a19_7) fun a36=>
 br (decide (a36>0))
 (br (qAd (IntKind.wrap .i64 (a36+1)) a19_0)
 (br (true&&decide (1<Int.ofNat (Int.toNat (IntKind.wrap .i64 (a36+1)))))
 (br (qAd a36 a19_0)
 (br (inB 0 a19_0)
 (ob (qBb self qC x0 x1 x2 x3 (-60000) 0 x2 a19_0 (Int.ofNat a19_0) 0 (IntKind.wrap .i64 (x4+1)) x5 x6 x7 x8 x9 x10 x11 a19_1 a19_2 a19_3 a19_4 a19_5 x17 x18 0 [] a19_6 (List.set (List.append (List.take 1 a19_7) (List.append (List.take (Nat.min (Int.toNat a36 - 0) (Int.toNat (IntKind.wrap .i64 (a36+1)) - 1)) a19_7) (List.drop (1+Nat.min (Int.toNat a36 - 0) (Int.toNat (IntKind.wrap .i64 (a36+1)) - 1)) a19_7))) 0 (a27_3 :: a27_4 :: a27_5 :: bi a27_6 :: List.drop 4 (List.getD (List.append (List.take 1 a19_7) (List.append (List.take (Nat.min (Int.toNat a36 - 0) (Int.toNat (IntKind.wrap .i64 (a36+1)) - 1)) a19_7) (List.drop (1+Nat.min (Int.toNat a36 - 0) (Int.toNat (IntKind.wrap .i64 (a36+1)) - 1)) a19_7))) 0 [])))) fun t37_2=>
 sw t37_2 (fun (_,_,_,_,a37_4,a37_5,a37_6,_,_,a37_9,a37_10,a37_11,a37_12,a37_13,a37_14,a37_15,a37_16,a37_17,a37_18,a37_19,a37_20,a37_21,a37_22,a37_23,a37_24,a37_25,_,_)=>
 some (.inr (a37_4,a37_5,a37_6,a37_9,a37_10,a37_11,a37_12,a37_13,a37_14,a37_15,a37_16,a37_17,a37_18,a37_19,a37_20,a37_21,a37_22,a37_23,a37_24,a37_25)))
 (fun (a37_0,a37_1,a37_2,a37_3,a37_4,a37_5,a37_6,a37_7,a37_8,a37_9,a37_10,a37_11,a37_12,a37_13,a37_14,a37_15,a37_16,a37_17,a37_18,a37_19,a37_20,a37_21,a37_22)=>
 ob (qBc a37_4 a37_1) fun a60=>
 br (inB 0 a37_5)
 (br (decide (a37_4 >= a37_3))
 (ob (qp a37_14 a37_15 a37_16 a37_0 a60 1 (List.headD (List.take 4 (List.getD a37_22 0 [])) 0) (List.headD (List.tail (List.take 4 (List.getD a37_22 0 []))) 0) (List.headD (List.tail (List.tail (List.take 4 (List.getD a37_22 0 [])))) 0) (List.headD (List.tail (List.tail (List.tail (List.take 4 (List.getD a37_22 0 []))))) 0 != 0) a37_8 a37_9 a37_12 a37_13) fun (a61_0,a61_1,a61_2,a61_3)=>
 some (.inr (a37_4,a37_5,true,a37_6,a37_7,a61_0,a61_1,a37_10,a37_11,a61_2,a61_3,a37_14,a37_15,a37_16,a37_17,a37_18,a37_19,a37_20,a37_21,a37_22)))
 (br (decide (a37_4<=a37_2))
 (ob (qp a37_14 a37_15 a37_16 a37_0 a60 2 (List.headD (List.take 4 (List.getD a37_22 0 [])) 0) (List.headD (List.tail (List.take 4 (List.getD a37_22 0 []))) 0) (List.headD (List.tail (List.tail (List.take 4 (List.getD a37_22 0 [])))) 0) (List.headD (List.tail (List.tail (List.tail (List.take 4 (List.getD a37_22 0 []))))) 0 != 0) a37_8 a37_9 a37_12 a37_13) fun (a61_0,a61_1,a61_2,a61_3)=>
 some (.inr (a37_4,a37_5,true,a37_6,a37_7,a61_0,a61_1,a37_10,a37_11,a61_2,a61_3,a37_14,a37_15,a37_16,a37_17,a37_18,a37_19,a37_20,a37_21,a37_22)))
 (ob (qp a37_14 a37_15 a37_16 a37_0 a60 0 (List.headD (List.take 4 (List.getD a37_22 0 [])) 0) (List.headD (List.tail (List.take 4 (List.getD a37_22 0 []))) 0) (List.headD (List.tail (List.tail (List.take 4 (List.getD a37_22 0 [])))) 0) (List.headD (List.tail (List.tail (List.tail (List.take 4 (List.getD a37_22 0 []))))) 0 != 0) a37_8 a37_9 a37_12 a37_13) fun (a61_0,a61_1,a61_2,a61_3)=>
 some (.inr (a37_4,a37_5,true,a37_6,a37_7,a61_0,a61_1,a37_10,a37_11,a61_2,a61_3,a37_14,a37_15,a37_16,a37_17,a37_18,a37_19,a37_20,a37_21,a37_22)))))
 (none)))
 (none))
 (none))
 (none))
 (none))
 (ob (qBb self qC x0 x1 x2 x3 (-60000) 0 x2 a19_0 (Int.ofNat a19_0) 0 (IntKind.wrap .i64 (x4+1)) x5 x6 x7 x8 x9 x10 x11 a19_1 a19_2 a19_3 a19_4 a19_5 x17 x18 0 [] a19_6 a19_7) fun t37_2=>
 sw t37_2 (fun (_,_,_,_,a37_4,a37_5,a37_6,_,_,a37_9,a37_10,a37_11,a37_12,a37_13,a37_14,a37_15,a37_16,a37_17,a37_18,a37_19,a37_20,a37_21,a37_22,a37_23,a37_24,a37_25,_,_)=>
 some (.inr (a37_4,a37_5,a37_6,a37_9,a37_10,a37_11,a37_12,a37_13,a37_14,a37_15,a37_16,a37_17,a37_18,a37_19,a37_20,a37_21,a37_22,a37_23,a37_24,a37_25)))
 (fun (a37_0,a37_1,a37_2,a37_3,a37_4,a37_5,a37_6,a37_7,a37_8,a37_9,a37_10,a37_11,a37_12,a37_13,a37_14,a37_15,a37_16,a37_17,a37_18,a37_19,a37_20,a37_21,a37_22)=>
 ob (qBc a37_4 a37_1) fun a60=>
 br (inB 0 a37_5)
 (br (decide (a37_4 >= a37_3))
 (ob (qp a37_14 a37_15 a37_16 a37_0 a60 1 (List.headD (List.take 4 (List.getD a37_22 0 [])) 0) (List.headD (List.tail (List.take 4 (List.getD a37_22 0 []))) 0) (List.headD (List.tail (List.tail (List.take 4 (List.getD a37_22 0 [])))) 0) (List.headD (List.tail (List.tail (List.tail (List.take 4 (List.getD a37_22 0 []))))) 0 != 0) a37_8 a37_9 a37_12 a37_13) fun (a61_0,a61_1,a61_2,a61_3)=>
 some (.inr (a37_4,a37_5,true,a37_6,a37_7,a61_0,a61_1,a37_10,a37_11,a61_2,a61_3,a37_14,a37_15,a37_16,a37_17,a37_18,a37_19,a37_20,a37_21,a37_22)))
 (br (decide (a37_4<=a37_2))
 (ob (qp a37_14 a37_15 a37_16 a37_0 a60 2 (List.headD (List.take 4 (List.getD a37_22 0 [])) 0) (List.headD (List.tail (List.take 4 (List.getD a37_22 0 []))) 0) (List.headD (List.tail (List.tail (List.take 4 (List.getD a37_22 0 [])))) 0) (List.headD (List.tail (List.tail (List.tail (List.take 4 (List.getD a37_22 0 []))))) 0 != 0) a37_8 a37_9 a37_12 a37_13) fun (a61_0,a61_1,a61_2,a61_3)=>
 some (.inr (a37_4,a37_5,true,a37_6,a37_7,a61_0,a61_1,a37_10,a37_11,a61_2,a61_3,a37_14,a37_15,a37_16,a37_17,a37_18,a37_19,a37_20,a37_21,a37_22)))
 (ob (qp a37_14 a37_15 a37_16 a37_0 a60 0 (List.headD (List.take 4 (List.getD a37_22 0 [])) 0) (List.headD (List.tail (List.take 4 (List.getD a37_22 0 []))) 0) (List.headD (List.tail (List.tail (List.take 4 (List.getD a37_22 0 [])))) 0) (List.headD (List.tail (List.tail (List.tail (List.take 4 (List.getD a37_22 0 []))))) 0 != 0) a37_8 a37_9 a37_12 a37_13) fun (a61_0,a61_1,a61_2,a61_3)=>
 some (.inr (a37_4,a37_5,true,a37_6,a37_7,a61_0,a61_1,a37_10,a37_11,a61_2,a61_3,a37_14,a37_15,a37_16,a37_17,a37_18,a37_19,a37_20,a37_21,a37_22)))))
 (none)))))))
 (ob (qEv a19_0 a27_3 a27_4 a27_5 a27_6 a19_6 a19_7) fun a36=>
 br (decide (a36>0))
 (br (qAd (IntKind.wrap .i64 (a36+1)) a19_0)
 (br (true&&decide (1<Int.ofNat (Int.toNat (IntKind.wrap .i64 (a36+1)))))
 (br (qAd a36 a19_0)
 (br (inB 0 a19_0)
 (ob (qBb self qC x0 x1 x2 x3 (-60000) 0 x2 a19_0 (Int.ofNat a19_0) 0 (IntKind.wrap .i64 (x4+1)) x5 x6 x7 x8 x9 x10 x11 a19_1 a19_2 a19_3 a19_4 a19_5 x17 x18 0 [] a19_6 (List.set (List.append (List.take 1 a19_7) (List.append (List.take (Nat.min (Int.toNat a36 - 0) (Int.toNat (IntKind.wrap .i64 (a36+1)) - 1)) a19_7) (List.drop (1+Nat.min (Int.toNat a36 - 0) (Int.toNat (IntKind.wrap .i64 (a36+1)) - 1)) a19_7))) 0 (a27_3 :: a27_4 :: a27_5 :: bi a27_6 :: List.drop 4 (List.getD (List.append (List.take 1 a19_7) (List.append (List.take (Nat.min (Int.toNat a36 - 0) (Int.toNat (IntKind.wrap .i64 (a36+1)) - 1)) a19_7) (List.drop (1+Nat.min (Int.toNat a36 - 0) (Int.toNat (IntKind.wrap .i64 (a36+1)) - 1)) a19_7))) 0 [])))) fun t37_2=>
 sw t37_2 (fun (_,_,_,_,a37_4,a37_5,a37_6,_,_,a37_9,a37_10,a37_11,a37_12,a37_13,a37_14,a37_15,a37_16,a37_17,a37_18,a37_19,a37_20,a37_21,a37_22,a37_23,a37_24,a37_25,_,_)=>
 some (.inr (a37_4,a37_5,a37_6,a37_9,a37_10,a37_11,a37_12,a37_13,a37_14,a37_15,a37_16,a37_17,a37_18,a37_19,a37_20,a37_21,a37_22,a37_23,a37_24,a37_25)))
 (fun (a37_0,a37_1,a37_2,a37_3,a37_4,a37_5,a37_6,a37_7,a37_8,a37_9,a37_10,a37_11,a37_12,a37_13,a37_14,a37_15,a37_16,a37_17,a37_18,a37_19,a37_20,a37_21,a37_22)=>
 ob (qBc a37_4 a37_1) fun a60=>
 br (inB 0 a37_5)
 (br (decide (a37_4 >= a37_3))
 (ob (qp a37_14 a37_15 a37_16 a37_0 a60 1 (List.headD (List.take 4 (List.getD a37_22 0 [])) 0) (List.headD (List.tail (List.take 4 (List.getD a37_22 0 []))) 0) (List.headD (List.tail (List.tail (List.take 4 (List.getD a37_22 0 [])))) 0) (List.headD (List.tail (List.tail (List.tail (List.take 4 (List.getD a37_22 0 []))))) 0 != 0) a37_8 a37_9 a37_12 a37_13) fun (a61_0,a61_1,a61_2,a61_3)=>
 some (.inr (a37_4,a37_5,true,a37_6,a37_7,a61_0,a61_1,a37_10,a37_11,a61_2,a61_3,a37_14,a37_15,a37_16,a37_17,a37_18,a37_19,a37_20,a37_21,a37_22)))
 (br (decide (a37_4<=a37_2))
 (ob (qp a37_14 a37_15 a37_16 a37_0 a60 2 (List.headD (List.take 4 (List.getD a37_22 0 [])) 0) (List.headD (List.tail (List.take 4 (List.getD a37_22 0 []))) 0) (List.headD (List.tail (List.tail (List.take 4 (List.getD a37_22 0 [])))) 0) (List.headD (List.tail (List.tail (List.tail (List.take 4 (List.getD a37_22 0 []))))) 0 != 0) a37_8 a37_9 a37_12 a37_13) fun (a61_0,a61_1,a61_2,a61_3)=>
 some (.inr (a37_4,a37_5,true,a37_6,a37_7,a61_0,a61_1,a37_10,a37_11,a61_2,a61_3,a37_14,a37_15,a37_16,a37_17,a37_18,a37_19,a37_20,a37_21,a37_22)))
 (ob (qp a37_14 a37_15 a37_16 a37_0 a60 0 (List.headD (List.take 4 (List.getD a37_22 0 [])) 0) (List.headD (List.tail (List.take 4 (List.getD a37_22 0 []))) 0) (List.headD (List.tail (List.tail (List.take 4 (List.getD a37_22 0 [])))) 0) (List.headD (List.tail (List.tail (List.tail (List.take 4 (List.getD a37_22 0 []))))) 0 != 0) a37_8 a37_9 a37_12 a37_13) fun (a61_0,a61_1,a61_2,a61_3)=>
 some (.inr (a37_4,a37_5,true,a37_6,a37_7,a61_0,a61_1,a37_10,a37_11,a61_2,a61_3,a37_14,a37_15,a37_16,a37_17,a37_18,a37_19,a37_20,a37_21,a37_22)))))
 (none)))
 (none))
 (none))
 (none))
 (none))
 (ob (qBb self qC x0 x1 x2 x3 (-60000) 0 x2 a19_0 (Int.ofNat a19_0) 0 (IntKind.wrap .i64 (x4+1)) x5 x6 x7 x8 x9 x10 x11 a19_1 a19_2 a19_3 a19_4 a19_5 x17 x18 0 [] a19_6 a19_7) fun t37_2=>
 sw t37_2 (fun (_,_,_,_,a37_4,a37_5,a37_6,_,_,a37_9,a37_10,a37_11,a37_12,a37_13,a37_14,a37_15,a37_16,a37_17,a37_18,a37_19,a37_20,a37_21,a37_22,a37_23,a37_24,a37_25,_,_)=>
 some (.inr (a37_4,a37_5,a37_6,a37_9,a37_10,a37_11,a37_12,a37_13,a37_14,a37_15,a37_16,a37_17,a37_18,a37_19,a37_20,a37_21,a37_22,a37_23,a37_24,a37_25)))
 (fun (a37_0,a37_1,a37_2,a37_3,a37_4,a37_5,a37_6,a37_7,a37_8,a37_9,a37_10,a37_11,a37_12,a37_13,a37_14,a37_15,a37_16,a37_17,a37_18,a37_19,a37_20,a37_21,a37_22)=>
 ob (qBc a37_4 a37_1) fun a60=>
 br (inB 0 a37_5)
 (br (decide (a37_4 >= a37_3))
 (ob (qp a37_14 a37_15 a37_16 a37_0 a60 1 (List.headD (List.take 4 (List.getD a37_22 0 [])) 0) (List.headD (List.tail (List.take 4 (List.getD a37_22 0 []))) 0) (List.headD (List.tail (List.tail (List.take 4 (List.getD a37_22 0 [])))) 0) (List.headD (List.tail (List.tail (List.tail (List.take 4 (List.getD a37_22 0 []))))) 0 != 0) a37_8 a37_9 a37_12 a37_13) fun (a61_0,a61_1,a61_2,a61_3)=>
 some (.inr (a37_4,a37_5,true,a37_6,a37_7,a61_0,a61_1,a37_10,a37_11,a61_2,a61_3,a37_14,a37_15,a37_16,a37_17,a37_18,a37_19,a37_20,a37_21,a37_22)))
 (br (decide (a37_4<=a37_2))
 (ob (qp a37_14 a37_15 a37_16 a37_0 a60 2 (List.headD (List.take 4 (List.getD a37_22 0 [])) 0) (List.headD (List.tail (List.take 4 (List.getD a37_22 0 []))) 0) (List.headD (List.tail (List.tail (List.take 4 (List.getD a37_22 0 [])))) 0) (List.headD (List.tail (List.tail (List.tail (List.take 4 (List.getD a37_22 0 []))))) 0 != 0) a37_8 a37_9 a37_12 a37_13) fun (a61_0,a61_1,a61_2,a61_3)=>
 some (.inr (a37_4,a37_5,true,a37_6,a37_7,a61_0,a61_1,a37_10,a37_11,a61_2,a61_3,a37_14,a37_15,a37_16,a37_17,a37_18,a37_19,a37_20,a37_21,a37_22)))
 (ob (qp a37_14 a37_15 a37_16 a37_0 a60 0 (List.headD (List.take 4 (List.getD a37_22 0 [])) 0) (List.headD (List.tail (List.take 4 (List.getD a37_22 0 []))) 0) (List.headD (List.tail (List.tail (List.take 4 (List.getD a37_22 0 [])))) 0) (List.headD (List.tail (List.tail (List.tail (List.take 4 (List.getD a37_22 0 []))))) 0 != 0) a37_8 a37_9 a37_12 a37_13) fun (a61_0,a61_1,a61_2,a61_3)=>
 some (.inr (a37_4,a37_5,true,a37_6,a37_7,a61_0,a61_1,a37_10,a37_11,a61_2,a61_3,a37_14,a37_15,a37_16,a37_17,a37_18,a37_19,a37_20,a37_21,a37_22)))))
 (none)))))
 (ob (qEv a19_0 a27_3 a27_4 a27_5 a27_6 a19_6 a19_7) fun a36=>
 br (decide (a36>0))
 (br (qAd (IntKind.wrap .i64 (a36+1)) a19_0)
 (br (true&&decide (1<Int.ofNat (Int.toNat (IntKind.wrap .i64 (a36+1)))))
 (br (qAd a36 a19_0)
 (br (inB 0 a19_0)
 (ob (qBb self qC x0 x1 x2 x3 (-60000) 0 x2 a19_0 (Int.ofNat a19_0) 0 (IntKind.wrap .i64 (x4+1)) x5 x6 x7 x8 x9 x10 x11 a19_1 a19_2 a19_3 a19_4 a19_5 x17 x18 0 [] a19_6 (List.set (List.append (List.take 1 a19_7) (List.append (List.take (Nat.min (Int.toNat a36 - 0) (Int.toNat (IntKind.wrap .i64 (a36+1)) - 1)) a19_7) (List.drop (1+Nat.min (Int.toNat a36 - 0) (Int.toNat (IntKind.wrap .i64 (a36+1)) - 1)) a19_7))) 0 (a27_3 :: a27_4 :: a27_5 :: bi a27_6 :: List.drop 4 (List.getD (List.append (List.take 1 a19_7) (List.append (List.take (Nat.min (Int.toNat a36 - 0) (Int.toNat (IntKind.wrap .i64 (a36+1)) - 1)) a19_7) (List.drop (1+Nat.min (Int.toNat a36 - 0) (Int.toNat (IntKind.wrap .i64 (a36+1)) - 1)) a19_7))) 0 [])))) fun t37_2=>
 sw t37_2 (fun (_,_,_,_,a37_4,a37_5,a37_6,_,_,a37_9,a37_10,a37_11,a37_12,a37_13,a37_14,a37_15,a37_16,a37_17,a37_18,a37_19,a37_20,a37_21,a37_22,a37_23,a37_24,a37_25,_,_)=>
 some (.inr (a37_4,a37_5,a37_6,a37_9,a37_10,a37_11,a37_12,a37_13,a37_14,a37_15,a37_16,a37_17,a37_18,a37_19,a37_20,a37_21,a37_22,a37_23,a37_24,a37_25)))
 (fun (a37_0,a37_1,a37_2,a37_3,a37_4,a37_5,a37_6,a37_7,a37_8,a37_9,a37_10,a37_11,a37_12,a37_13,a37_14,a37_15,a37_16,a37_17,a37_18,a37_19,a37_20,a37_21,a37_22)=>
 ob (qBc a37_4 a37_1) fun a60=>
 br (inB 0 a37_5)
 (br (decide (a37_4 >= a37_3))
 (ob (qp a37_14 a37_15 a37_16 a37_0 a60 1 (List.headD (List.take 4 (List.getD a37_22 0 [])) 0) (List.headD (List.tail (List.take 4 (List.getD a37_22 0 []))) 0) (List.headD (List.tail (List.tail (List.take 4 (List.getD a37_22 0 [])))) 0) (List.headD (List.tail (List.tail (List.tail (List.take 4 (List.getD a37_22 0 []))))) 0 != 0) a37_8 a37_9 a37_12 a37_13) fun (a61_0,a61_1,a61_2,a61_3)=>
 some (.inr (a37_4,a37_5,true,a37_6,a37_7,a61_0,a61_1,a37_10,a37_11,a61_2,a61_3,a37_14,a37_15,a37_16,a37_17,a37_18,a37_19,a37_20,a37_21,a37_22)))
 (br (decide (a37_4<=a37_2))
 (ob (qp a37_14 a37_15 a37_16 a37_0 a60 2 (List.headD (List.take 4 (List.getD a37_22 0 [])) 0) (List.headD (List.tail (List.take 4 (List.getD a37_22 0 []))) 0) (List.headD (List.tail (List.tail (List.take 4 (List.getD a37_22 0 [])))) 0) (List.headD (List.tail (List.tail (List.tail (List.take 4 (List.getD a37_22 0 []))))) 0 != 0) a37_8 a37_9 a37_12 a37_13) fun (a61_0,a61_1,a61_2,a61_3)=>
 some (.inr (a37_4,a37_5,true,a37_6,a37_7,a61_0,a61_1,a37_10,a37_11,a61_2,a61_3,a37_14,a37_15,a37_16,a37_17,a37_18,a37_19,a37_20,a37_21,a37_22)))
 (ob (qp a37_14 a37_15 a37_16 a37_0 a60 0 (List.headD (List.take 4 (List.getD a37_22 0 [])) 0) (List.headD (List.tail (List.take 4 (List.getD a37_22 0 []))) 0) (List.headD (List.tail (List.tail (List.take 4 (List.getD a37_22 0 [])))) 0) (List.headD (List.tail (List.tail (List.tail (List.take 4 (List.getD a37_22 0 []))))) 0 != 0) a37_8 a37_9 a37_12 a37_13) fun (a61_0,a61_1,a61_2,a61_3)=>
 some (.inr (a37_4,a37_5,true,a37_6,a37_7,a61_0,a61_1,a37_10,a37_11,a61_2,a61_3,a37_14,a37_15,a37_16,a37_17,a37_18,a37_19,a37_20,a37_21,a37_22)))))
 (none)))
 (none))
 (none))
 (none))
 (none))
 (ob (qBb self qC x0 x1 x2 x3 (-60000) 0 x2 a19_0 (Int.ofNat a19_0) 0 (IntKind.wrap .i64 (x4+1)) x5 x6 x7 x8 x9 x10 x11 a19_1 a19_2 a19_3 a19_4 a19_5 x17 x18 0 [] a19_6 a19_7) fun t37_2=>
 sw t37_2 (fun (_,_,_,_,a37_4,a37_5,a37_6,_,_,a37_9,a37_10,a37_11,a37_12,a37_13,a37_14,a37_15,a37_16,a37_17,a37_18,a37_19,a37_20,a37_21,a37_22,a37_23,a37_24,a37_25,_,_)=>
 some (.inr (a37_4,a37_5,a37_6,a37_9,a37_10,a37_11,a37_12,a37_13,a37_14,a37_15,a37_16,a37_17,a37_18,a37_19,a37_20,a37_21,a37_22,a37_23,a37_24,a37_25)))
 (fun (a37_0,a37_1,a37_2,a37_3,a37_4,a37_5,a37_6,a37_7,a37_8,a37_9,a37_10,a37_11,a37_12,a37_13,a37_14,a37_15,a37_16,a37_17,a37_18,a37_19,a37_20,a37_21,a37_22)=>
 ob (qBc a37_4 a37_1) fun a60=>
 br (inB 0 a37_5)
 (br (decide (a37_4 >= a37_3))
 (ob (qp a37_14 a37_15 a37_16 a37_0 a60 1 (List.headD (List.take 4 (List.getD a37_22 0 [])) 0) (List.headD (List.tail (List.take 4 (List.getD a37_22 0 []))) 0) (List.headD (List.tail (List.tail (List.take 4 (List.getD a37_22 0 [])))) 0) (List.headD (List.tail (List.tail (List.tail (List.take 4 (List.getD a37_22 0 []))))) 0 != 0) a37_8 a37_9 a37_12 a37_13) fun (a61_0,a61_1,a61_2,a61_3)=>
 some (.inr (a37_4,a37_5,true,a37_6,a37_7,a61_0,a61_1,a37_10,a37_11,a61_2,a61_3,a37_14,a37_15,a37_16,a37_17,a37_18,a37_19,a37_20,a37_21,a37_22)))
 (br (decide (a37_4<=a37_2))
 (ob (qp a37_14 a37_15 a37_16 a37_0 a60 2 (List.headD (List.take 4 (List.getD a37_22 0 [])) 0) (List.headD (List.tail (List.take 4 (List.getD a37_22 0 []))) 0) (List.headD (List.tail (List.tail (List.take 4 (List.getD a37_22 0 [])))) 0) (List.headD (List.tail (List.tail (List.tail (List.take 4 (List.getD a37_22 0 []))))) 0 != 0) a37_8 a37_9 a37_12 a37_13) fun (a61_0,a61_1,a61_2,a61_3)=>
 some (.inr (a37_4,a37_5,true,a37_6,a37_7,a61_0,a61_1,a37_10,a37_11,a61_2,a61_3,a37_14,a37_15,a37_16,a37_17,a37_18,a37_19,a37_20,a37_21,a37_22)))
 (ob (qp a37_14 a37_15 a37_16 a37_0 a60 0 (List.headD (List.take 4 (List.getD a37_22 0 [])) 0) (List.headD (List.tail (List.take 4 (List.getD a37_22 0 []))) 0) (List.headD (List.tail (List.tail (List.take 4 (List.getD a37_22 0 [])))) 0) (List.headD (List.tail (List.tail (List.tail (List.take 4 (List.getD a37_22 0 []))))) 0 != 0) a37_8 a37_9 a37_12 a37_13) fun (a61_0,a61_1,a61_2,a61_3)=>
 some (.inr (a37_4,a37_5,true,a37_6,a37_7,a61_0,a61_1,a37_10,a37_11,a61_2,a61_3,a37_14,a37_15,a37_16,a37_17,a37_18,a37_19,a37_20,a37_21,a37_22)))))
 (none)))))
 (ob (qBb self qC x0 x1 x2 x3 (-60000) 0 x2 a19_0 (Int.ofNat a19_0) 0 (IntKind.wrap .i64 (x4+1)) x5 x6 x7 x8 x9 x10 x11 a19_1 a19_2 a19_3 a19_4 a19_5 x17 x18 0 [] a19_6 a19_7) fun t35_2=>
 sw t35_2 (fun (_,_,_,_,a35_4,a35_5,a35_6,_,_,a35_9,a35_10,a35_11,a35_12,a35_13,a35_14,a35_15,a35_16,a35_17,a35_18,a35_19,a35_20,a35_21,a35_22,a35_23,a35_24,a35_25,_,_)=>
 some (.inr (a35_4,a35_5,a35_6,a35_9,a35_10,a35_11,a35_12,a35_13,a35_14,a35_15,a35_16,a35_17,a35_18,a35_19,a35_20,a35_21,a35_22,a35_23,a35_24,a35_25)))
 (fun (a35_0,a35_1,a35_2,a35_3,a35_4,a35_5,a35_6,a35_7,a35_8,a35_9,a35_10,a35_11,a35_12,a35_13,a35_14,a35_15,a35_16,a35_17,a35_18,a35_19,a35_20,a35_21,a35_22)=>
 ob (qBc a35_4 a35_1) fun a58=>
 br (inB 0 a35_5)
 (br (decide (a35_4 >= a35_3))
 (ob (qp a35_14 a35_15 a35_16 a35_0 a58 1 (List.headD (List.take 4 (List.getD a35_22 0 [])) 0) (List.headD (List.tail (List.take 4 (List.getD a35_22 0 []))) 0) (List.headD (List.tail (List.tail (List.take 4 (List.getD a35_22 0 [])))) 0) (List.headD (List.tail (List.tail (List.tail (List.take 4 (List.getD a35_22 0 []))))) 0 != 0) a35_8 a35_9 a35_12 a35_13) fun (a59_0,a59_1,a59_2,a59_3)=>
 some (.inr (a35_4,a35_5,true,a35_6,a35_7,a59_0,a59_1,a35_10,a35_11,a59_2,a59_3,a35_14,a35_15,a35_16,a35_17,a35_18,a35_19,a35_20,a35_21,a35_22)))
 (br (decide (a35_4<=a35_2))
 (ob (qp a35_14 a35_15 a35_16 a35_0 a58 2 (List.headD (List.take 4 (List.getD a35_22 0 [])) 0) (List.headD (List.tail (List.take 4 (List.getD a35_22 0 []))) 0) (List.headD (List.tail (List.tail (List.take 4 (List.getD a35_22 0 [])))) 0) (List.headD (List.tail (List.tail (List.tail (List.take 4 (List.getD a35_22 0 []))))) 0 != 0) a35_8 a35_9 a35_12 a35_13) fun (a59_0,a59_1,a59_2,a59_3)=>
 some (.inr (a35_4,a35_5,true,a35_6,a35_7,a59_0,a59_1,a35_10,a35_11,a59_2,a59_3,a35_14,a35_15,a35_16,a35_17,a35_18,a35_19,a35_20,a35_21,a35_22)))
 (ob (qp a35_14 a35_15 a35_16 a35_0 a58 0 (List.headD (List.take 4 (List.getD a35_22 0 [])) 0) (List.headD (List.tail (List.take 4 (List.getD a35_22 0 []))) 0) (List.headD (List.tail (List.tail (List.take 4 (List.getD a35_22 0 [])))) 0) (List.headD (List.tail (List.tail (List.tail (List.take 4 (List.getD a35_22 0 []))))) 0 != 0) a35_8 a35_9 a35_12 a35_13) fun (a59_0,a59_1,a59_2,a59_3)=>
 some (.inr (a35_4,a35_5,true,a35_6,a35_7,a59_0,a59_1,a35_10,a35_11,a59_2,a59_3,a35_14,a35_15,a35_16,a35_17,a35_18,a35_19,a35_20,a35_21,a35_22)))))
 (none))))))
def qEn:Nat->Int->Int->Int->Int->Int->Int->Nat->Int->Int->Nat->Nat->List (List Int)->List Int->List Int->Int->List (List Int)->List (List Int)->Nat->List (List Int)->Option ((Int×Nat×Bool×Int×Int×Nat×Int×Int×Nat×Nat×List (List Int)×List Int×List Int×Int×List (List Int)×List (List Int)×Nat×List (List Int)×Nat×List (List Int))⊕(Int×Nat×Bool×Int×Int×Nat×Int×Int×Nat×Nat×List (List Int)×List Int×List Int×Int×List (List Int)×List (List Int)×Nat×List (List Int)×Nat×List (List Int)))
 | 0,_,_,_,_,_,_,_,_,_,_,_,_,_,_,_,_,_,_,_=>none
 | f+1,x0,x1,x2,x3,x4,x5,x6,x7,x8,x9,x10,x11,x12,x13,x14,x15,x16,x17,x18=>qmu (qEn f) x0 x1 x2 x3 x4 x5 x6 x7 x8 x9 x10 x11 x12 x13 x14 x15 x16 x17 x18
def qP9 (rec:Int->Int->Int->Int->Nat->Int->Nat->List (List Int)->Int->Nat->Int->Int->Nat->Int->Bool->Int->Int->Nat->Nat->Int->Bool->List Int->List Int->Int->List (List Int)->List (List Int)->Nat->List (List Int)->Nat->List (List Int)->Nat->List (List Int)->Option (Int×Int×Nat×Int×Nat×List (List Int)×Int×Nat×Int×Int×Nat×Int×Bool×Int×Int×Nat×Nat×Int×Bool×List Int×List Int×Int×List (List Int)×List (List Int)×Nat×List (List Int)×Nat×List (List Int)×Nat×List (List Int))) (x0 x1:Int) (x2 x3:Int) (x4:Nat) (x5:Int) (x6:Nat) (x7:List (List Int)) (x8:Int) (x9:Nat) (x10 x11:Int) (x12:Nat) (x13:Int) (x14:Bool) (x15 x16:Int) (x17 x18:Nat) (x19:Int) (x20:Bool) (x21 x22:List Int) (x23:Int) (x24 x25:List (List Int)) (x26:Nat) (x27:List (List Int)) (x28:Nat) (x29:List (List Int)) (x30:Nat) (x31:List (List Int)):Option (Int×Int×Nat×Int×Nat×List (List Int)×Int×Nat×Int×Int×Nat×Int×Bool×Int×Int×Nat×Nat×Int×Bool×List Int×List Int×Int×List (List Int)×List (List Int)×Nat×List (List Int)×Nat×List (List Int)×Nat×List (List Int)):=
 br (decide (x1<=bif true then bif decide (64<x0) then 64 else x0 else bif decide (64>x0) then 64 else x0))
 (ob (qEn qC x1 0 (-60000) 60000 x2 x3 x4 x5 x8 x9 x6 x7 x21 x22 x23 x24 x25 x26 x27) fun t60_2=>
 sw t60_2 (fun (a60_0,a60_1,a60_2,a60_3,a60_4,a60_5,a60_6,a60_7,a60_8,a60_9,a60_10,a60_11,a60_12,a60_13,a60_14,a60_15,a60_16,a60_17,a60_18,a60_19)=>
 br (!a60_2)
 (some (a60_3,a60_4,a60_5,a60_6,a60_9,a60_10,a60_7,a60_8,x10,x11,x12,x13,x14,x15,x16,x17,x18,x19,true,a60_11,a60_12,a60_13,a60_14,a60_15,a60_16,a60_17,x28,x29,x30,x31))
 (rec x0 (IntKind.wrap .i64 (x1+1)) a60_3 a60_4 a60_5 a60_6 a60_9 a60_10 a60_7 a60_8 x10 x11 x12 x13 x14 x1 a60_0 0 a60_1 x19 x20 a60_11 a60_12 a60_13 a60_14 a60_15 a60_16 a60_17 x28 x29 a60_18 a60_19))
 (fun (a60_0,a60_1,a60_2,a60_3,a60_4,a60_5,a60_6,a60_7,a60_8,a60_9,a60_10,a60_11,a60_12,a60_13,a60_14,a60_15,a60_16,a60_17,a60_18,a60_19)=>
 br (!a60_2)
 (some (a60_3,a60_4,a60_5,a60_6,a60_9,a60_10,a60_7,a60_8,x10,x11,x12,x13,x14,x15,x16,x17,x18,x19,true,a60_11,a60_12,a60_13,a60_14,a60_15,a60_16,a60_17,x28,x29,x30,x31))
 (rec x0 (IntKind.wrap .i64 (x1+1)) a60_3 a60_4 a60_5 a60_6 a60_9 a60_10 a60_7 a60_8 x10 x11 x12 x13 x14 x1 a60_0 0 a60_1 x19 x20 a60_11 a60_12 a60_13 a60_14 a60_15 a60_16 a60_17 x28 x29 a60_18 a60_19)))
 (some (x2,x3,x4,x5,x6,x7,x8,x9,x10,x11,x12,x13,x14,x15,x16,x17,x18,x19,x20,x21,x22,x23,x24,x25,x26,x27,x28,x29,x30,x31))
def qIu:Nat->Int->Int->Int->Int->Nat->Int->Nat->List (List Int)->Int->Nat->Int->Int->Nat->Int->Bool->Int->Int->Nat->Nat->Int->Bool->List Int->List Int->Int->List (List Int)->List (List Int)->Nat->List (List Int)->Nat->List (List Int)->Nat->List (List Int)->Option (Int×Int×Nat×Int×Nat×List (List Int)×Int×Nat×Int×Int×Nat×Int×Bool×Int×Int×Nat×Nat×Int×Bool×List Int×List Int×Int×List (List Int)×List (List Int)×Nat×List (List Int)×Nat×List (List Int)×Nat×List (List Int))
 | 0,_,_,_,_,_,_,_,_,_,_,_,_,_,_,_,_,_,_,_,_,_,_,_,_,_,_,_,_,_,_,_,_=>none
 | f+1,x0,x1,x2,x3,x4,x5,x6,x7,x8,x9,x10,x11,x12,x13,x14,x15,x16,x17,x18,x19,x20,x21,x22,x23,x24,x25,x26,x27,x28,x29,x30,x31=>qP9 (qIu f) x0 x1 x2 x3 x4 x5 x6 x7 x8 x9 x10 x11 x12 x13 x14 x15 x16 x17 x18 x19 x20 x21 x22 x23 x24 x25 x26 x27 x28 x29 x30 x31
def qHT (x0 x1:List Int) (x2 x3:Int) (x4 _x5 _x6:Int) (x7:Nat) (x8:Int) (x9:Nat) (x10:List (List Int)):Option ((Int×Int×Nat×Int×Bool×Int×Int×Nat×Int×Nat×List (List Int)×Nat×List (List Int))⊕(Int×Int×Nat×Nat×Int×Bool×Int×Int×Nat×Int×Nat×List (List Int)×Nat×List (List Int))):=
 ob (qGK x0 x1 x2) fun (a11_0,a11_1,a11_2,a11_3,a11_4,a11_5,a11_6,a11_7,a11_8)=>
 ob (qDc a11_2 a11_3 a11_4 a11_5 a11_6) fun (a20_0,a20_1,a20_2,a20_3,a20_4,a20_5,a20_6,a20_7)=>
 br (Int.ofNat a20_0==0)
 (some (.inl (0,-30000,0,0,false,0,x4,x7,x8,x9,x10,0,[])))
 (br (qAd 1 a20_0)
 (br (true&&decide (1<=Int.ofNat a20_0))
 (ob (qIu qC x3 1 0 x4 x7 x8 x9 x10 a11_0 a11_1 0 0 0 0 false 0 0 0 1 0 false a20_1 a20_2 a20_3 a20_4 a20_5 a11_7 a11_8 0 [] a20_6 a20_7) fun (a28_0,a28_1,a28_2,a28_3,a28_4,a28_5,_,_,_,_,_,_,_,a28_13,a28_14,a28_15,a28_16,_,a28_18,_,_,_,_,_,_,_,_,_,a28_28,a28_29)=>
 some (.inr (a28_13,a28_14,a28_15,a28_16,a28_0,a28_18,a28_0,a28_1,a28_2,a28_3,a28_4,a28_5,a28_28,a28_29)))
 (none))
 (none))
def qJ4:Option (Bool):=
 ob (qEm 100) fun t0_3=>
 sw t0_3 (fun _=>
 some (false))
 (fun t0_2=>
 sw t0_2 (fun (a0_0,a0_1,a0_2)=>
 br (a0_0 != 0)
 (some (false))
 (ob (qK6 ([24,0,0,0,0,0,0,0,0,0,0,0,0,0,0,0,0,0,0,0,0,0,0,0,0,0,0,0,0,0,0,0,0,0,0,0,0,0,0,0,23,1,0,0,0,0,0,0,0,0,0,0,0,0,0,0,0,0,0,0,0,0,0,0,0,0,0,0,0,0,0,0,0,0,0,0,0,0,0,0,8]) ([0,0,0,0,0,0,0,0,0,0,0,0,0,0,0,0]) 0 1 1000 a0_1 a0_2) fun t3_2=>
 sw t3_2 (fun (a3_0,a3_1,a3_2,_,a3_4,_,_,_,a3_8)=>
 br (a3_0==1)
 (br (!a3_4)
 (br (Int.ofNat a3_2==1)
 (br (inB 0 a3_2)
 (br (List.headD (List.take 4 (List.getD a3_8 0 [])) 0==41&&(List.headD (List.tail (List.take 4 (List.getD a3_8 0 []))) 0==40&&(List.headD (List.tail (List.tail (List.take 4 (List.getD a3_8 0 [])))) 0==0&&(List.headD (List.tail (List.tail (List.tail (List.take 4 (List.getD a3_8 0 []))))) 0 != 0)==false)))
 (br (a3_1==1149)
 (some (true))
 (some (false)))
 (some (false)))
 (none))
 (some (false)))
 (some (false)))
 (some (false)))
 (fun (a3_0,a3_1,a3_2,a3_3,_,a3_5,_,_,_,a3_9)=>
 br (a3_0==1)
 (br (!a3_5)
 (br (Int.ofNat a3_3==1)
 (br (inB 0 a3_3)
 (br (List.headD (List.take 4 (List.getD a3_9 (a3_2+0) [])) 0==41&&(List.headD (List.tail (List.take 4 (List.getD a3_9 (a3_2+0) []))) 0==40&&(List.headD (List.tail (List.tail (List.take 4 (List.getD a3_9 (a3_2+0) [])))) 0==0&&(List.headD (List.tail (List.tail (List.tail (List.take 4 (List.getD a3_9 (a3_2+0) []))))) 0 != 0)==false)))
 (br (a3_1==1149)
 (some (true))
 (some (false)))
 (some (false)))
 (none))
 (some (false)))
 (some (false)))
 (some (false)))))
 (fun (a0_0,a0_1,a0_2,a0_3,a0_4,a0_5,a0_6)=>
 br (a0_0 != 0)
 (some (false))
 (ob (qHT ([24,0,0,0,0,0,0,0,0,0,0,0,0,0,0,0,0,0,0,0,0,0,0,0,0,0,0,0,0,0,0,0,0,0,0,0,0,0,0,0,23,1,0,0,0,0,0,0,0,0,0,0,0,0,0,0,0,0,0,0,0,0,0,0,0,0,0,0,0,0,0,0,0,0,0,0,0,0,0,0,8]) ([0,0,0,0,0,0,0,0,0,0,0,0,0,0,0,0]) 0 1 1000 a0_1 a0_2 a0_3 a0_4 a0_5 a0_6) fun t7_2=>
 sw t7_2 (fun (a7_0,a7_1,a7_2,_,a7_4,_,_,_,_,_,_,_,a7_12)=>
 br (a7_0==1)
 (br (!a7_4)
 (br (Int.ofNat a7_2==1)
 (br (inB 0 a7_2)
 (br (List.headD (List.take 4 (List.getD a7_12 0 [])) 0==41&&(List.headD (List.tail (List.take 4 (List.getD a7_12 0 []))) 0==40&&(List.headD (List.tail (List.tail (List.take 4 (List.getD a7_12 0 [])))) 0==0&&(List.headD (List.tail (List.tail (List.tail (List.take 4 (List.getD a7_12 0 []))))) 0 != 0)==false)))
 (br (a7_1==1149)
 (some (true))
 (some (false)))
 (some (false)))
 (none))
 (some (false)))
 (some (false)))
 (some (false)))
 (fun (a7_0,a7_1,a7_2,a7_3,_,a7_5,_,_,_,_,_,_,_,a7_13)=>
 br (a7_0==1)
 (br (!a7_5)
 (br (Int.ofNat a7_3==1)
 (br (inB 0 a7_3)
 (br (List.headD (List.take 4 (List.getD a7_13 (a7_2+0) [])) 0==41&&(List.headD (List.tail (List.take 4 (List.getD a7_13 (a7_2+0) []))) 0==40&&(List.headD (List.tail (List.tail (List.take 4 (List.getD a7_13 (a7_2+0) [])))) 0==0&&(List.headD (List.tail (List.tail (List.tail (List.take 4 (List.getD a7_13 (a7_2+0) []))))) 0 != 0)==false)))
 (br (a7_1==1149)
 (some (true))
 (some (false)))
 (some (false)))
 (none))
 (some (false)))
 (some (false)))
 (some (false))))))
def qIQ (x0 x1:List Int) (x2 x3 x4:Int):Option (Bool):=
 ob (qJ4 ) fun a5=>
 br (!a5)
 (some (false))
 (ob (qEm x3) fun t6_3=>
 sw t6_3 (fun a6=>
 br (decide (x3<1))
 (some (a6==1))
 (br (decide (x3>65536))
 (some (a6==1))
 (some (false))))
 (fun t6_2=>
 sw t6_2 (fun (a6_0,a6_1,a6_2)=>
 br (decide (x3<1))
 (some (false))
 (br (decide (x3>65536))
 (some (false))
 (br (a6_0 != 0)
 (some (false))
 (ob (qHC x0 x1 x2) fun a9=>
 br (a9 != 0)
 (some (true))
 (br (decide (x4 >= 1))
 (some (true))
 (ob (qHL x0 x1 x2) fun (a10_0,_,a10_2)=>
 ob (qK6 x0 x1 x2 x4 50 a6_1 a6_2) fun t13_2=>
 sw t13_2 (fun (a13_0,a13_1,a13_2,_,a13_4,_,_,_,a13_8)=>
 br (Int.ofNat a10_0==0)
 (br (a13_1 == -30000)
 (some (Int.ofNat a13_2==0))
 (some (false)))
 (br (a13_0==0)
 (br (a13_1==0)
 (br (Int.ofNat a13_2==1)
 (br (inB 0 a13_2)
 (br (inB 0 a10_0)
 (br (List.headD (List.take 4 (List.getD a13_8 0 [])) 0==List.headD (List.take 4 (List.getD a10_2 0 [])) 0&&(List.headD (List.tail (List.take 4 (List.getD a13_8 0 []))) 0==List.headD (List.tail (List.take 4 (List.getD a10_2 0 []))) 0&&(List.headD (List.tail (List.tail (List.take 4 (List.getD a13_8 0 [])))) 0==List.headD (List.tail (List.tail (List.take 4 (List.getD a10_2 0 [])))) 0&&(List.headD (List.tail (List.tail (List.tail (List.take 4 (List.getD a13_8 0 []))))) 0 != 0)==(List.headD (List.tail (List.tail (List.tail (List.take 4 (List.getD a10_2 0 []))))) 0 != 0))))
 (some (!a13_4))
 (some (false)))
 (none))
 (none))
 (some (false)))
 (some (false)))
 (some (false))))
 (fun (a13_0,a13_1,a13_2,a13_3,_,a13_5,_,_,_,a13_9)=>
 br (Int.ofNat a10_0==0)
 (br (a13_1 == -30000)
 (some (Int.ofNat a13_3==0))
 (some (false)))
 (br (a13_0==0)
 (br (a13_1==0)
 (br (Int.ofNat a13_3==1)
 (br (inB 0 a13_3)
 (br (inB 0 a10_0)
 (br (List.headD (List.take 4 (List.getD a13_9 (a13_2+0) [])) 0==List.headD (List.take 4 (List.getD a10_2 0 [])) 0&&(List.headD (List.tail (List.take 4 (List.getD a13_9 (a13_2+0) []))) 0==List.headD (List.tail (List.take 4 (List.getD a10_2 0 []))) 0&&(List.headD (List.tail (List.tail (List.take 4 (List.getD a13_9 (a13_2+0) [])))) 0==List.headD (List.tail (List.tail (List.take 4 (List.getD a10_2 0 [])))) 0&&(List.headD (List.tail (List.tail (List.tail (List.take 4 (List.getD a13_9 (a13_2+0) []))))) 0 != 0)==(List.headD (List.tail (List.tail (List.tail (List.take 4 (List.getD a10_2 0 []))))) 0 != 0))))
 (some (!a13_5))
 (some (false)))
 (none))
 (none))
 (some (false)))
 (some (false)))
 (some (false))))))))))
 (fun (a6_0,a6_1,a6_2,a6_3,a6_4,a6_5,a6_6)=>
 br (decide (x3<1))
 (some (false))
 (br (decide (x3>65536))
 (some (false))
 (br (a6_0 != 0)
 (some (false))
 (ob (qHC x0 x1 x2) fun a13=>
 br (a13 != 0)
 (some (true))
 (br (decide (x4 >= 1))
 (some (true))
 (ob (qHL x0 x1 x2) fun (a14_0,_,a14_2)=>
 ob (qHT x0 x1 x2 x4 50 a6_1 a6_2 a6_3 a6_4 a6_5 a6_6) fun t17_2=>
 sw t17_2 (fun (a17_0,a17_1,a17_2,_,a17_4,_,_,_,_,_,_,_,a17_12)=>
 br (Int.ofNat a14_0==0)
 (br (a17_1 == -30000)
 (some (Int.ofNat a17_2==0))
 (some (false)))
 (br (a17_0==0)
 (br (a17_1==0)
 (br (Int.ofNat a17_2==1)
 (br (inB 0 a17_2)
 (br (inB 0 a14_0)
 (br (List.headD (List.take 4 (List.getD a17_12 0 [])) 0==List.headD (List.take 4 (List.getD a14_2 0 [])) 0&&(List.headD (List.tail (List.take 4 (List.getD a17_12 0 []))) 0==List.headD (List.tail (List.take 4 (List.getD a14_2 0 []))) 0&&(List.headD (List.tail (List.tail (List.take 4 (List.getD a17_12 0 [])))) 0==List.headD (List.tail (List.tail (List.take 4 (List.getD a14_2 0 [])))) 0&&(List.headD (List.tail (List.tail (List.tail (List.take 4 (List.getD a17_12 0 []))))) 0 != 0)==(List.headD (List.tail (List.tail (List.tail (List.take 4 (List.getD a14_2 0 []))))) 0 != 0))))
 (some (!a17_4))
 (some (false)))
 (none))
 (none))
 (some (false)))
 (some (false)))
 (some (false))))
 (fun (a17_0,a17_1,a17_2,a17_3,_,a17_5,_,_,_,_,_,_,_,a17_13)=>
 br (Int.ofNat a14_0==0)
 (br (a17_1 == -30000)
 (some (Int.ofNat a17_3==0))
 (some (false)))
 (br (a17_0==0)
 (br (a17_1==0)
 (br (Int.ofNat a17_3==1)
 (br (inB 0 a17_3)
 (br (inB 0 a14_0)
 (br (List.headD (List.take 4 (List.getD a17_13 (a17_2+0) [])) 0==List.headD (List.take 4 (List.getD a14_2 0 [])) 0&&(List.headD (List.tail (List.take 4 (List.getD a17_13 (a17_2+0) []))) 0==List.headD (List.tail (List.take 4 (List.getD a14_2 0 []))) 0&&(List.headD (List.tail (List.tail (List.take 4 (List.getD a17_13 (a17_2+0) [])))) 0==List.headD (List.tail (List.tail (List.take 4 (List.getD a14_2 0 [])))) 0&&(List.headD (List.tail (List.tail (List.tail (List.take 4 (List.getD a17_13 (a17_2+0) []))))) 0 != 0)==(List.headD (List.tail (List.tail (List.tail (List.take 4 (List.getD a14_2 0 []))))) 0 != 0))))
 (some (!a17_5))
 (some (false)))
 (none))
 (none))
 (some (false)))
 (some (false)))
 (some (false))))))))))))
end Go.Kk.Pl
