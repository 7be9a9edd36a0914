/- Printed by a tool of this project (KkGen): the plain functions that the program's code comes to. -/
import Derived.Test.YtcilcokdgpnkmaaGreatDoorKkE
namespace Go.Kk.Pl
abbrev LI:=List Int
abbrev LL:=List (List Int)
open List _root_.Go.IntKind
def qDA (x0 x1:Int):Option (Int):=
 br (decide (x0<0))
 (some (-1))
 (br (decide (x0>8))
 (some (-1))
 (br (decide (x1<0))
 (some (-1))
 (br (decide (x1>8))
 (some (-1))
 (some (wrap .i64 (wrap .i64 (9*x0)+x1))))))
def qLA (x0 x1 x2:Int):Option (Int):=
 br (x1==1)
 (ob (qDA x2 x0) fun a3=>
 some (a3))
 (ob (qDA x2 (wrap .i64 (8 - x0))) fun a3=>
 some (a3))
def qAz (x0 x1:Int):Option (Int):=
 br (x0 != 0)
 (br (x0 != 1)
 (some (0))
 (br (decide (x1<1))
 (some (0))
 (br (decide (x1>15))
 (some (0))
 (br (x1==13)
 (some (0))
 (some (conv .i64 .i8 (wrap .i64 (wrap .i64 (16*x0)+x1))))))))
 (br (decide (x1<1))
 (some (0))
 (br (decide (x1>15))
 (some (0))
 (br (x1==13)
 (some (0))
 (some (conv .i64 .i8 (wrap .i64 (wrap .i64 (16*x0)+x1)))))))
def qU0 (rec:Int->Int->LI->LI->Int->LI->LI->Int->LI->Int->Option (Int×LI×LI×Int×LI×LI×Int×LI)) (x0 x1:Int) (x2 x3:LI) (x4:Int) (x5 x6:LI) (x7:Int) (x8:LI) (x9:Int):Option (Int×LI×LI×Int×LI×LI×Int×LI):=
 br (decide (x1<2))
 (ob (qLA 0 x1 x9) fun a18=>
 br (inB x9 9)
 (ob (qAz x1 (getD x8 (Int.toNat x9) 0)) fun a19=>
 br (inB a18 81)
 (ob (qLA 2 x1 x9) fun a20=>
 ob (qAz x1 1) fun a21=>
 br (inB a20 81)
 (rec x0 (wrap .i64 (x1+1)) x2 x3 x4 (List.set (List.set x5 (Int.toNat a18) a19) (Int.toNat a20) a21) x6 x7 x8 x9)
 (none))
 (none))
 (none))
 (some (x0,x2,x3,x4,x5,x6,x7,x8))
def qLC:Nat->Int->Int->LI->LI->Int->LI->LI->Int->LI->Int->Option (Int×LI×LI×Int×LI×LI×Int×LI)
 | 0,_,_,_,_,_,_,_,_,_,_=>none
 | f+1,x0,x1,x2,x3,x4,x5,x6,x7,x8,x9=>qU0 (qLC f) x0 x1 x2 x3 x4 x5 x6 x7 x8 x9
def qUy (rec:Int->LI->LI->Int->LI->LI->Int->LI->Option (LI×LI×Int×LI×LI×Int)) (x0:Int) (x1 x2:LI) (x3:Int) (x4 x5:LI) (x6:Int) (x7:LI):Option (LI×LI×Int×LI×LI×Int):=
 br (decide (x0<9))
 (ob (qLC qB x0 0 x1 x2 x3 x4 x5 x6 x7 x0) fun (a8_0,a8_1,a8_2,a8_3,a8_4,a8_5,a8_6,a8_7)=>
 rec (wrap .i64 (a8_0+1)) a8_1 a8_2 a8_3 a8_4 a8_5 a8_6 a8_7)
 (some (x1,x2,x3,x4,x5,x6))
def qLB:Nat->Int->LI->LI->Int->LI->LI->Int->LI->Option (LI×LI×Int×LI×LI×Int)
 | 0,_,_,_,_,_,_,_,_=>none
 | f+1,x0,x1,x2,x3,x4,x5,x6,x7=>qUy (qLB f) x0 x1 x2 x3 x4 x5 x6 x7
def qJW:Option (LI×LI×Int):=
 ob (qLB qB 0 ([0,0,0,0,0,0,0,0,0,0,0,0,0,0,0,0,0,0,0,0,0,0,0,0,0,0,0,0,0,0,0,0,0,0,0,0,0,0,0,0,0,0,0,0,0,0,0,0,0,0,0,0,0,0,0,0,0,0,0,0,0,0,0,0,0,0,0,0,0,0,0,0,0,0,0,0,0,0,0,0,0]) ([0,0,0,0,0,0,0,0,0,0,0,0,0,0,0,0]) 0 ([0,0,0,0,0,0,0,0,0,0,0,0,0,0,0,0,0,0,0,0,0,0,0,0,0,0,0,0,0,0,0,0,0,0,0,0,0,0,0,0,0,0,0,0,0,0,0,0,0,0,0,0,0,0,0,0,0,0,0,0,0,0,0,0,0,0,0,0,0,0,0,0,0,0,0,0,0,0,0,0,0]) ([0,0,0,0,0,0,0,0,0,0,0,0,0,0,0,0]) 0 ([2,3,4,5,8,5,4,3,2])) fun (_,_,_,a0_3,a0_4,a0_5)=>
 ob (qDA 7 7) fun a6=>
 ob (qDA 1 7) fun a7=>
 br (inB a6 81)
 (br (inB a7 81)
 (ob (qDA 1 1) fun a8=>
 ob (qDA 7 1) fun a9=>
 br (inB a8 81)
 (br (inB a9 81)
 (some (List.set (List.set (List.set (List.set a0_3 (Int.toNat a6) 6) (Int.toNat a7) 7) (Int.toNat a8) 22) (Int.toNat a9) 23,a0_4,a0_5))
 (none))
 (none))
 (none))
 (none)
def qAB (x0:Int):Option (Int):=
 br (decide (x0<=0))
 (br (x0==8)
 (some (8))
 (br (x0==24)
 (some (8))
 (some (0))))
 (br (decide (x0>31))
 (br (x0==8)
 (some (8))
 (br (x0==24)
 (some (8))
 (some (0))))
 (br (qF BinOp.and .i64 x0 15==0)
 (br (x0==8)
 (some (8))
 (br (x0==24)
 (some (8))
 (some (0))))
 (br (qF BinOp.and .i64 x0 15==13)
 (br (x0==8)
 (some (8))
 (br (x0==24)
 (some (8))
 (some (0))))
 (some (qF BinOp.and .i64 x0 15)))))
def qDz (x0:Int):Option (Int):=
 some (qF BinOp.xor .u64 (wrap .u64 (qF BinOp.xor .u64 (wrap .u64 (qF BinOp.xor .u64 (wrap .u64 (x0+11400714819323198485)) (Int.fdiv (wrap .u64 (x0+11400714819323198485)) 1073741824)*13787848793156543929)) (Int.fdiv (wrap .u64 (qF BinOp.xor .u64 (wrap .u64 (x0+11400714819323198485)) (Int.fdiv (wrap .u64 (x0+11400714819323198485)) 1073741824)*13787848793156543929)) 134217728)*10723151780598845931)) (Int.fdiv (wrap .u64 (qF BinOp.xor .u64 (wrap .u64 (qF BinOp.xor .u64 (wrap .u64 (x0+11400714819323198485)) (Int.fdiv (wrap .u64 (x0+11400714819323198485)) 1073741824)*13787848793156543929)) (Int.fdiv (wrap .u64 (qF BinOp.xor .u64 (wrap .u64 (x0+11400714819323198485)) (Int.fdiv (wrap .u64 (x0+11400714819323198485)) 1073741824)*13787848793156543929)) 134217728)*10723151780598845931)) 2147483648))
def qCI (x0 x1:Int):Option (Int):=
 ob (qAB x1) fun a2=>
 br (a2==0)
 (some (0))
 (br (decide (x0<0))
 (some (0))
 (br (decide (x0 >= 81))
 (some (0))
 (ob (qDz (wrap .u64 (wrap .u64 (conv .i64 .u64 x0*32)+conv .i8 .u64 x1))) fun a3=>
 some (a3))))
def qC0 (x0 x1 x2:Int):Option (Int):=
 br (x0 != 0)
 (br (x0 != 1)
 (some (0))
 (br (decide (x1<1))
 (some (0))
 (br (decide (x1 >= 8))
 (some (0))
 (br (decide (x2<=0))
 (some (0))
 (br (decide (x2>18))
 (some (0))
 (ob (qDz (wrap .u64 (wrap .u64 (wrap .u64 (65536+wrap .u64 (conv .i64 .u64 x0*1024))+wrap .u64 (conv .i64 .u64 x1*32))+conv .i64 .u64 x2))) fun a3=>
 some (a3)))))))
 (br (decide (x1<1))
 (some (0))
 (br (decide (x1 >= 8))
 (some (0))
 (br (decide (x2<=0))
 (some (0))
 (br (decide (x2>18))
 (some (0))
 (ob (qDz (wrap .u64 (wrap .u64 (wrap .u64 (65536+wrap .u64 (conv .i64 .u64 x0*1024))+wrap .u64 (conv .i64 .u64 x1*32))+conv .i64 .u64 x2))) fun a3=>
 some (a3))))))
def qC2:Option (Int):=
 ob (qDz 1048576) fun a0=>
 some (a0)
def qDx (rec:Int->LI->Int->LI->LI->Int->Option (Int×LI×LI×Int)) (x0:Int) (x1:LI) (x2:Int) (x3 x4:LI) (x5:Int):Option (Int×LI×LI×Int):=
 br (decide (x2<81))
 (br (inB x2 81)
 (ob (qCI x2 (getD x1 (bif true then Int.toNat x2 else Int.toNat x2*1) 0)) fun a9=>
 rec (qF BinOp.xor .u64 x0 a9) x1 (wrap .i64 (x2+1)) x3 x4 x5)
 (none))
 (some (x0,x3,x4,x5))
def qCe:Nat->Int->LI->Int->LI->LI->Int->Option (Int×LI×LI×Int)
 | 0,_,_,_,_,_,_=>none
 | f+1,x0,x1,x2,x3,x4,x5=>qDx (qCe f) x0 x1 x2 x3 x4 x5
def qDw (rec:Int->Int->LI->Int->LI->Int->LI->LI->Int->Option (Int×LI×Int×LI×LI×Int)) (x0 x1:Int) (x2:LI) (x3:Int) (x4:LI) (x5:Int) (x6 x7:LI) (x8:Int):Option (Int×LI×Int×LI×LI×Int):=
 br (decide (x5<8))
 (br (inB x5 8)
 (ob (qC0 x1 x5 (conv .i8 .i64 (getD x4 (bif true then Int.toNat x5 else Int.toNat x5*1) 0))) fun a22=>
 rec (qF BinOp.xor .u64 x0 a22) x1 x2 x3 x4 (wrap .i64 (x5+1)) x6 x7 x8)
 (none))
 (some (x0,x2,x3,x6,x7,x8))
def qC1:Nat->Int->Int->LI->Int->LI->Int->LI->LI->Int->Option (Int×LI×Int×LI×LI×Int)
 | 0,_,_,_,_,_,_,_,_,_=>none
 | f+1,x0,x1,x2,x3,x4,x5,x6,x7,x8=>qDw (qC1 f) x0 x1 x2 x3 x4 x5 x6 x7 x8
def qDy (rec:Int->LI->Int->LI->LI->Int->Option (Int×LI×LI×Int)) (x0:Int) (x1:LI) (x2:Int) (x3 x4:LI) (x5:Int):Option (Int×LI×LI×Int):=
 br (decide (x2<2))
 (br (inB x2 2)
 (ob (qC1 qB x0 x2 x1 x2 (take 8 (drop (Nat.add (Nat.mul (Int.toNat x2) 7) (Int.toNat x2)) x1)) 0 x3 x4 x5) fun (a13_0,a13_1,a13_2,a13_3,a13_4,a13_5)=>
 rec a13_0 a13_1 (wrap .i64 (a13_2+1)) a13_3 a13_4 a13_5)
 (none))
 (some (x0,x3,x4,x5))
def qB1:Nat->Int->LI->Int->LI->LI->Int->Option (Int×LI×LI×Int)
 | 0,_,_,_,_,_,_=>none
 | f+1,x0,x1,x2,x3,x4,x5=>qDy (qB1 f) x0 x1 x2 x3 x4 x5
def qDv (x0 x1:LI) (x2:Int):Option (Int):=
 ob (qCe qB 0 x0 0 x0 x1 x2) fun (a3_0,a3_1,a3_2,a3_3)=>
 ob (qB1 qB a3_0 a3_2 0 a3_1 a3_2 a3_3) fun (a7_0,_,_,a7_3)=>
 br (a7_3==1)
 (ob (qC2 ) fun a11=>
 some (qF BinOp.xor .u64 a7_0 a11))
 (some (a7_0))
def qFC (x0 x1:LI) (x2:Int) (x3:Nat) (_x4:Int) (_x5:Nat) (_x6:LL):Option (Nat):=
 ob (qDv x0 x1 x2) fun a7=>
 br (decide (Int.ofNat (x3 % 18446744073709551616)=0))
 (none)
 (br (inB (Int.tmod a7 (Int.ofNat (x3 % 18446744073709551616))) x3)
 (some (Int.toNat (Int.tmod a7 (Int.ofNat (x3 % 18446744073709551616)))))
 (none))
def qFB (x0 x1:LI) (x2 x3:Int) (x4 x5:Int) (x6 x7 x8:Int) (x9:Bool) (x10:Nat) (x11:Int) (x12:Nat) (x13:LL):Option (Nat×Int×Nat×LL):=
 ob (qFC x0 x1 x2 x10 x11 x12 x13) fun a14=>
 br (!getD (getD x13 a14 []) 0 0 != 0)
 (some (x10,wrap .i64 (x11+1),x12,List.set x13 a14 (1 :: List.append (List.append [] (List.append x0 (List.append x1 [x2,x3,x4,x5,x6,x7,x8,bi x9]))) (drop 106 (getD x13 a14 [])))))
 (some (x10,x11,x12,List.set x13 a14 (1 :: List.append (List.append [] (List.append x0 (List.append x1 [x2,x3,x4,x5,x6,x7,x8,bi x9]))) (drop 106 (getD x13 a14 [])))))
def qEK (x0 x1:LI) (x2:Int) (x3:Nat) (x4:Int) (x5:Nat) (x6:LL):Option (Int×Int×Int×Int×Int×Int×Bool×Bool):=
 ob (qFC x0 x1 x2 x3 x4 x5 x6) fun a7=>
 br (!getD (getD x6 a7 []) 0 0 != 0)
 (some (0,0,0,0,0,0,false,false))
 (br (!(take 81 (take 98 (drop 1 (getD x6 a7 [])))==x0&&(take 16 (drop 81 (take 98 (drop 1 (getD x6 a7 []))))==x1&&headD (drop 16 (drop 81 (take 98 (drop 1 (getD x6 a7 []))))) 0==x2)))
 (some (0,0,0,0,0,0,false,false))
 (some (headD (take 7 (drop 99 (getD x6 a7 []))) 0,headD (tail (take 7 (drop 99 (getD x6 a7 [])))) 0,headD (tail (tail (take 7 (drop 99 (getD x6 a7 []))))) 0,headD (tail (tail (tail (take 7 (drop 99 (getD x6 a7 [])))))) 0,headD (tail (tail (tail (tail (take 7 (drop 99 (getD x6 a7 []))))))) 0,headD (tail (tail (tail (tail (tail (take 7 (drop 99 (getD x6 a7 [])))))))) 0,headD (tail (tail (tail (tail (tail (tail (take 7 (drop 99 (getD x6 a7 []))))))))) 0 != 0,true)))
def qEE (x0:Int):Option (Int×Int):=
 br (decide (x0<0))
 (some (0,0))
 (br (decide (x0 >= 81))
 (some (0,0))
 (br (decide (x0<63))
 (br (decide (x0<0))
 (none)
 (some (wrap .u64 (1*2 ^ min (Int.toNat x0) 64),0)))
 (br (decide (wrap .i64 (x0 - 63)<0))
 (none)
 (some (0,wrap .u64 (1*2 ^ min (Int.toNat (wrap .i64 (x0 - 63))) 64))))))
def qE4 (x0 x1:Int) (x2 x3:Int):Option (Int×Int):=
 some (qF BinOp.andNot .u64 x0 x2,qF BinOp.andNot .u64 x1 x3)
def qDY (x0 x1 x2:Int):Option (Int×Int):=
 ob (qEE x2) fun (a3_0,a3_1)=>
 ob (qE4 x0 x1 a3_0 a3_1) fun (a5_0,a5_1)=>
 some (a5_0,a5_1)
def qAe (x0:Int):Option (Int):=
 ob (qAB x0) fun a1=>
 br (a1==0)
 (some (-1))
 (br (decide (x0<16))
 (some (0))
 (some (1)))
def qDX (x0 x1:Int) (x2 x3:Int):Option (Int×Int):=
 some (qF BinOp.or .u64 x0 x2,qF BinOp.or .u64 x1 x3)
def qA1 (x0 x1 x2:Int):Option (Int×Int):=
 ob (qEE x2) fun (a3_0,a3_1)=>
 ob (qDX x0 x1 a3_0 a3_1) fun (a5_0,a5_1)=>
 some (a5_0,a5_1)
def qET (x0 x1:Int) (x2 x3:LI) (x4:Int) (x5 x6:LL):Option (LI×LI×Int×LL×LL):=
 br (decide (x0<0))
 (some (x2,x3,x4,x5,x6))
 (br (decide (x0 >= 81))
 (some (x2,x3,x4,x5,x6))
 (br (inB x0 81)
 (br (getD x2 (Int.toNat x0) 0 != 0)
 (br (inB (getD x2 (Int.toNat x0) 0) 32)
 (ob (qDY (headD (take 2 (getD x5 (Int.toNat (getD x2 (Int.toNat x0) 0)) [])) 0) (headD (tail (take 2 (getD x5 (Int.toNat (getD x2 (Int.toNat x0) 0)) []))) 0) x0) fun (a7_0,a7_1)=>
 br (inB (getD x2 (Int.toNat x0) 0) 32)
 (ob (qAe (getD x2 (Int.toNat x0) 0)) fun a9=>
 ob (qAe (getD x2 (Int.toNat x0) 0)) fun a10=>
 br (inB a10 2)
 (ob (qDY (headD (take 2 (getD x6 (Int.toNat a10) [])) 0) (headD (tail (take 2 (getD x6 (Int.toNat a10) []))) 0) x0) fun (a11_0,a11_1)=>
 br (inB a9 2)
 (ob (qAB x1) fun a13=>
 br (a13==0)
 (br (inB x0 81)
 (some (List.set x2 (Int.toNat x0) 0,x3,x4,List.set x5 (Int.toNat (getD x2 (Int.toNat x0) 0)) (a7_0 :: a7_1 :: drop 2 (getD x5 (Int.toNat (getD x2 (Int.toNat x0) 0)) [])),List.set x6 (Int.toNat a9) (a11_0 :: a11_1 :: drop 2 (getD x6 (Int.toNat a9) []))))
 (none))
 (br (inB x0 81)
 (br (x1 != 0)
 (br (inB x1 32)
 (ob (qA1 (headD (take 2 (getD (List.set x5 (Int.toNat (getD x2 (Int.toNat x0) 0)) (a7_0 :: a7_1 :: drop 2 (getD x5 (Int.toNat (getD x2 (Int.toNat x0) 0)) []))) (Int.toNat x1) [])) 0) (headD (tail (take 2 (getD (List.set x5 (Int.toNat (getD x2 (Int.toNat x0) 0)) (a7_0 :: a7_1 :: drop 2 (getD x5 (Int.toNat (getD x2 (Int.toNat x0) 0)) []))) (Int.toNat x1) []))) 0) x0) fun (a14_0,a14_1)=>
 br (inB x1 32)
 (ob (qAe x1) fun a16=>
 ob (qAe x1) fun a17=>
 br (inB a17 2)
 (ob (qA1 (headD (take 2 (getD (List.set x6 (Int.toNat a9) (a11_0 :: a11_1 :: drop 2 (getD x6 (Int.toNat a9) []))) (Int.toNat a17) [])) 0) (headD (tail (take 2 (getD (List.set x6 (Int.toNat a9) (a11_0 :: a11_1 :: drop 2 (getD x6 (Int.toNat a9) []))) (Int.toNat a17) []))) 0) x0) fun (a18_0,a18_1)=>
 br (inB a16 2)
 (some (List.set x2 (Int.toNat x0) x1,x3,x4,List.set (List.set x5 (Int.toNat (getD x2 (Int.toNat x0) 0)) (a7_0 :: a7_1 :: drop 2 (getD x5 (Int.toNat (getD x2 (Int.toNat x0) 0)) []))) (Int.toNat x1) (a14_0 :: a14_1 :: drop 2 (getD (List.set x5 (Int.toNat (getD x2 (Int.toNat x0) 0)) (a7_0 :: a7_1 :: drop 2 (getD x5 (Int.toNat (getD x2 (Int.toNat x0) 0)) []))) (Int.toNat x1) [])),List.set (List.set x6 (Int.toNat a9) (a11_0 :: a11_1 :: drop 2 (getD x6 (Int.toNat a9) []))) (Int.toNat a16) (a18_0 :: a18_1 :: drop 2 (getD (List.set x6 (Int.toNat a9) (a11_0 :: a11_1 :: drop 2 (getD x6 (Int.toNat a9) []))) (Int.toNat a16) []))))
 (none))
 (none))
 (none))
 (none))
 (some (List.set x2 (Int.toNat x0) x1,x3,x4,List.set x5 (Int.toNat (getD x2 (Int.toNat x0) 0)) (a7_0 :: a7_1 :: drop 2 (getD x5 (Int.toNat (getD x2 (Int.toNat x0) 0)) [])),List.set x6 (Int.toNat a9) (a11_0 :: a11_1 :: drop 2 (getD x6 (Int.toNat a9) [])))))
 (none)))
 (none))
 (none))
 (none))
 (none))
 (ob (qAB x1) fun a7=>
 br (a7==0)
 (br (inB x0 81)
 (some (List.set x2 (Int.toNat x0) 0,x3,x4,x5,x6))
 (none))
 (br (inB x0 81)
 (br (x1 != 0)
 (br (inB x1 32)
 (ob (qA1 (headD (take 2 (getD x5 (Int.toNat x1) [])) 0) (headD (tail (take 2 (getD x5 (Int.toNat x1) []))) 0) x0) fun (a8_0,a8_1)=>
 br (inB x1 32)
 (ob (qAe x1) fun a10=>
 ob (qAe x1) fun a11=>
 br (inB a11 2)
 (ob (qA1 (headD (take 2 (getD x6 (Int.toNat a11) [])) 0) (headD (tail (take 2 (getD x6 (Int.toNat a11) []))) 0) x0) fun (a12_0,a12_1)=>
 br (inB a10 2)
 (some (List.set x2 (Int.toNat x0) x1,x3,x4,List.set x5 (Int.toNat x1) (a8_0 :: a8_1 :: drop 2 (getD x5 (Int.toNat x1) [])),List.set x6 (Int.toNat a10) (a12_0 :: a12_1 :: drop 2 (getD x6 (Int.toNat a10) []))))
 (none))
 (none))
 (none))
 (none))
 (some (List.set x2 (Int.toNat x0) x1,x3,x4,x5,x6)))
 (none))))
 (none)))
def qDn (rec:LI->Int->LI->LI->Int->LL->LL->Option (LI×LI×Int×LL×LL)) (x0:LI) (x1:Int) (x2 x3:LI) (x4:Int) (x5 x6:LL):Option (LI×LI×Int×LL×LL):=
 br (decide (x1<81))
 (br (inB x1 81)
 (ob (qET x1 (getD x0 (bif true then Int.toNat x1 else Int.toNat x1*1) 0) x2 x3 x4 x5 x6) fun (a10_0,a10_1,a10_2,a10_3,a10_4)=>
 rec x0 (wrap .i64 (x1+1)) a10_0 a10_1 a10_2 a10_3 a10_4)
 (none))
 (some (x2,x3,x4,x5,x6))
def qCD:Nat->LI->Int->LI->LI->Int->LL->LL->Option (LI×LI×Int×LL×LL)
 | 0,_,_,_,_,_,_,_=>none
 | f+1,x0,x1,x2,x3,x4,x5,x6=>qDn (qCD f) x0 x1 x2 x3 x4 x5 x6
def qBz (x0 x1:LI) (x2:Int):Option (LI×LI×Int×LL×LL):=
 ob (qCD qB x0 0 ([0,0,0,0,0,0,0,0,0,0,0,0,0,0,0,0,0,0,0,0,0,0,0,0,0,0,0,0,0,0,0,0,0,0,0,0,0,0,0,0,0,0,0,0,0,0,0,0,0,0,0,0,0,0,0,0,0,0,0,0,0,0,0,0,0,0,0,0,0,0,0,0,0,0,0,0,0,0,0,0,0]) x1 x2 ([[0,0],[0,0],[0,0],[0,0],[0,0],[0,0],[0,0],[0,0],[0,0],[0,0],[0,0],[0,0],[0,0],[0,0],[0,0],[0,0],[0,0],[0,0],[0,0],[0,0],[0,0],[0,0],[0,0],[0,0],[0,0],[0,0],[0,0],[0,0],[0,0],[0,0],[0,0],[0,0]]) ([[0,0],[0,0]])) fun (a3_0,a3_1,a3_2,a3_3,a3_4)=>
 some (a3_0,a3_1,a3_2,a3_3,a3_4)
def qFZ (x0 x1:LI) (x2:Int):Option (Int×Nat×LI×LI×Int×LL×LL×Nat×LL):=
 ob (qBz x0 x1 x2) fun (a3_0,a3_1,a3_2,a3_3,a3_4)=>
 ob (qDv a3_0 a3_1 a3_2) fun a8=>
 some (a8,0,a3_0,a3_1,a3_2,a3_3,a3_4,0,[])
def qGu (x0 x1 x2:Int) (x3:Bool):Option (Int):=
 br (decide (x1<0))
 (some (1))
 (br (decide (x1 >= 81))
 (some (1))
 (br (x2 != 0)
 (br (decide (x2<0))
 (some (70))
 (br (decide (x2 >= 8))
 (some (70))
 (br (x0 != 0)
 (some (70))
 (br (x3)
 (some (70))
 (some (0))))))
 (br (decide (x0<0))
 (some (1))
 (br (decide (x0 >= 81))
 (some (1))
 (br (x0==x1)
 (some (70))
 (some (0)))))))
def qCv (x0 x1:Int) (_x2 x3:LI) (_x4:Int) (_x5 _x6:LL):Option (Int):=
 br (x0 != 0)
 (br (x0 != 1)
 (some (0))
 (br (decide (x1<1))
 (some (0))
 (br (decide (x1 >= 8))
 (some (0))
 (br (inB x0 2)
 (br (inB x1 8)
 (some (conv .i8 .i64 (getD x3 (Int.toNat x0*8+Int.toNat x1) 0)))
 (none))
 (none)))))
 (br (decide (x1<1))
 (some (0))
 (br (decide (x1 >= 8))
 (some (0))
 (br (inB x0 2)
 (br (inB x1 8)
 (some (conv .i8 .i64 (getD x3 (Int.toNat x0*8+Int.toNat x1) 0)))
 (none))
 (none))))
def qAi (x0:Int) (x1 _x2:LI) (_x3:Int) (_x4 _x5:LL):Option (Int):=
 br (decide (x0<0))
 (some (0))
 (br (decide (x0 >= 81))
 (some (0))
 (br (inB x0 81)
 (some (getD x1 (Int.toNat x0) 0))
 (none)))
def qC6 (x0:Int):Option (Int):=
 br (x0==1)
 (some (wrap .i64 (x0+8)))
 (br (x0==2)
 (some (wrap .i64 (x0+8)))
 (br (x0==3)
 (some (wrap .i64 (x0+8)))
 (br (x0==4)
 (some (wrap .i64 (x0+8)))
 (br (x0==6)
 (some (wrap .i64 (x0+8)))
 (br (x0==7)
 (some (wrap .i64 (x0+8)))
 (some (0)))))))
def qDq (x0 x1 x2:Int) (x3:Bool) (_x4:Int) (_x5:Nat) (x6 x7:LI) (x8:Int) (x9 x10:LL) (_x11:Nat) (_x12:LL):Option (Bool):=
 ob (qGu x0 x1 x2 x3) fun a13=>
 br (a13 != 0)
 (some (false))
 (br (x8 != 0)
 (br (x8 != 1)
 (some (false))
 (br (x2 != 0)
 (ob (qCv x8 x2 x6 x7 x8 x9 x10) fun a14=>
 br (decide (a14>0))
 (ob (qAi x1 x6 x7 x8 x9 x10) fun a15=>
 some (a15==0))
 (some (false)))
 (ob (qAi x0 x6 x7 x8 x9 x10) fun a14=>
 ob (qAi x1 x6 x7 x8 x9 x10) fun a15=>
 ob (qAe a14) fun a16=>
 br (a16==x8)
 (ob (qAe a15) fun a17=>
 br (a17 != x8)
 (ob (qAB a15) fun a18=>
 br (a18 != 8)
 (br (!x3)
 (some (true))
 (ob (qAB a14) fun a19=>
 ob (qC6 a19) fun a20=>
 some (a20 != 0)))
 (some (false)))
 (some (false)))
 (some (false)))))
 (br (x2 != 0)
 (ob (qCv x8 x2 x6 x7 x8 x9 x10) fun a14=>
 br (decide (a14>0))
 (ob (qAi x1 x6 x7 x8 x9 x10) fun a15=>
 some (a15==0))
 (some (false)))
 (ob (qAi x0 x6 x7 x8 x9 x10) fun a14=>
 ob (qAi x1 x6 x7 x8 x9 x10) fun a15=>
 ob (qAe a14) fun a16=>
 br (a16==x8)
 (ob (qAe a15) fun a17=>
 br (a17 != x8)
 (ob (qAB a15) fun a18=>
 br (a18 != 8)
 (br (!x3)
 (some (true))
 (ob (qAB a14) fun a19=>
 ob (qC6 a19) fun a20=>
 some (a20 != 0)))
 (some (false)))
 (some (false)))
 (some (false)))))
def qDK (x0 x1:Int) (x2 x3:Int) (x4:Nat) (x5 x6:LI) (x7:Int) (x8 x9:LL) (x10:Nat) (x11:LL):Option (Int×Nat×LI×LI×Int×LL×LL×Nat×LL):=
 ob (qCv x0 x1 x5 x6 x7 x8 x9) fun a12=>
 ob (qC0 x0 x1 a12) fun a13=>
 ob (qC0 x0 x1 (wrap .i64 (a12+x2))) fun a14=>
 br (inB x0 2)
 (br (inB x1 8)
 (br (inB x0 2)
 (br (inB x1 8)
 (some (qF BinOp.xor .u64 x3 (qF BinOp.xor .u64 a13 a14),x4,x5,List.set x6 (Int.toNat x0*8+Int.toNat x1) (wrap .i8 (getD x6 (Int.toNat x0*8+Int.toNat x1) 0+conv .i64 .i8 x2)),x7,x8,x9,x10,x11))
 (none))
 (none))
 (none))
 (none)
def qBI (x0 x1 x2:Int) (x3:Nat) (x4 x5:LI) (x6:Int) (x7 x8:LL) (x9:Nat) (x10:LL):Option (Int×Nat×LI×LI×Int×LL×LL×Nat×LL):=
 ob (qAi x0 x4 x5 x6 x7 x8) fun a11=>
 ob (qCI x0 a11) fun a12=>
 ob (qCI x0 x1) fun a13=>
 ob (qET x0 x1 x4 x5 x6 x7 x8) fun (a14_0,a14_1,a14_2,a14_3,a14_4)=>
 some (qF BinOp.xor .u64 x2 (qF BinOp.xor .u64 a12 a13),x3,a14_0,a14_1,a14_2,a14_3,a14_4,x9,x10)
def qCG (x0:Int) (x1:Nat) (x2 x3:LI) (x4:Int) (x5 x6:LL) (x7:Nat) (x8:LL):Option (Int×Nat×LI×LI×Int×LL×LL×Nat×LL):=
 ob (qC2 ) fun a9=>
 some (qF BinOp.xor .u64 x0 a9,x1,x2,x3,wrap .i8 (1 - x4),x5,x6,x7,x8)
def qC5 (x0:Int):Option (Int):=
 ob (qAz 0 x0) fun a1=>
 br (a1==0)
 (some (0))
 (br (decide (x0>8))
 (some (wrap .i64 (x0 - 8)))
 (some (x0)))
def qCb (x0 x1 x2:Int) (x3:Bool) (x4:Int) (x5:Nat) (x6 x7:LI) (x8:Int) (x9 x10:LL) (x11:Nat) (x12:LL):Option ((Bool×Int×Nat×LI×LI×Int×LL×LL×Nat×LL)⊕(Bool×Int×Nat×LI×LI×Int×LL×LL×Nat×LL)):=
 ob (qDq x0 x1 x2 x3 x4 x5 x6 x7 x8 x9 x10 x11 x12) fun a13=>
 br (!a13)
 (some (.inl (false,x4,x5,x6,x7,x8,x9,x10,x11,x12)))
 (ob (qAi x1 x6 x7 x8 x9 x10) fun a14=>
 br (x2 != 0)
 (ob (qAz x8 x2) fun a15=>
 ob (qDK x8 x2 (-1) x4 x5 x6 x7 x8 x9 x10 x11 x12) fun (a16_0,a16_1,a16_2,a16_3,a16_4,a16_5,a16_6,a16_7,a16_8)=>
 ob (qBI x1 a15 a16_0 a16_1 a16_2 a16_3 a16_4 a16_5 a16_6 a16_7 a16_8) fun (a25_0,a25_1,a25_2,a25_3,a25_4,a25_5,a25_6,a25_7,a25_8)=>
 ob (qCG a25_0 a25_1 a25_2 a25_3 a25_4 a25_5 a25_6 a25_7 a25_8) fun (a34_0,a34_1,a34_2,a34_3,a34_4,a34_5,a34_6,_,a34_8)=>
 br (decide ((a34_1+1)*40<=140737488355328))
 (some (.inr (true,a34_0,a34_1+1,a34_2,a34_3,a34_4,a34_5,a34_6,a34_1+1,List.append (take a34_1 a34_8) [[x0,x1,x2,bi x3,a14,a15]])))
 (none))
 (ob (qAi x0 x6 x7 x8 x9 x10) fun a15=>
 br (x3)
 (ob (qAB a15) fun a16=>
 ob (qC6 a16) fun a17=>
 ob (qAz x8 a17) fun a18=>
 ob (qBI x0 0 x4 x5 x6 x7 x8 x9 x10 x11 x12) fun (a19_0,a19_1,a19_2,a19_3,a19_4,a19_5,a19_6,a19_7,a19_8)=>
 ob (qBI x1 a18 a19_0 a19_1 a19_2 a19_3 a19_4 a19_5 a19_6 a19_7 a19_8) fun (a28_0,a28_1,a28_2,a28_3,a28_4,a28_5,a28_6,a28_7,a28_8)=>
 br (a14 != 0)
 (ob (qAB a14) fun a37=>
 ob (qC5 a37) fun a38=>
 ob (qDK x8 a38 1 a28_0 a28_1 a28_2 a28_3 a28_4 a28_5 a28_6 a28_7 a28_8) fun (a39_0,a39_1,a39_2,a39_3,a39_4,a39_5,a39_6,a39_7,a39_8)=>
 ob (qCG a39_0 a39_1 a39_2 a39_3 a39_4 a39_5 a39_6 a39_7 a39_8) fun (a48_0,a48_1,a48_2,a48_3,a48_4,a48_5,a48_6,_,a48_8)=>
 br (decide ((a48_1+1)*40<=140737488355328))
 (some (.inr (true,a48_0,a48_1+1,a48_2,a48_3,a48_4,a48_5,a48_6,a48_1+1,List.append (take a48_1 a48_8) [[x0,x1,x2,bi x3,a14,a15]])))
 (none))
 (ob (qCG a28_0 a28_1 a28_2 a28_3 a28_4 a28_5 a28_6 a28_7 a28_8) fun (a37_0,a37_1,a37_2,a37_3,a37_4,a37_5,a37_6,_,a37_8)=>
 br (decide ((a37_1+1)*40<=140737488355328))
 (some (.inr (true,a37_0,a37_1+1,a37_2,a37_3,a37_4,a37_5,a37_6,a37_1+1,List.append (take a37_1 a37_8) [[x0,x1,x2,bi x3,a14,a15]])))
 (none)))
 (ob (qBI x0 0 x4 x5 x6 x7 x8 x9 x10 x11 x12) fun (a16_0,a16_1,a16_2,a16_3,a16_4,a16_5,a16_6,a16_7,a16_8)=>
 ob (qBI x1 a15 a16_0 a16_1 a16_2 a16_3 a16_4 a16_5 a16_6 a16_7 a16_8) fun (a25_0,a25_1,a25_2,a25_3,a25_4,a25_5,a25_6,a25_7,a25_8)=>
 br (a14 != 0)
 (ob (qAB a14) fun a34=>
 ob (qC5 a34) fun a35=>
 ob (qDK x8 a35 1 a25_0 a25_1 a25_2 a25_3 a25_4 a25_5 a25_6 a25_7 a25_8) fun (a36_0,a36_1,a36_2,a36_3,a36_4,a36_5,a36_6,a36_7,a36_8)=>
 ob (qCG a36_0 a36_1 a36_2 a36_3 a36_4 a36_5 a36_6 a36_7 a36_8) fun (a45_0,a45_1,a45_2,a45_3,a45_4,a45_5,a45_6,_,a45_8)=>
 br (decide ((a45_1+1)*40<=140737488355328))
 (some (.inr (true,a45_0,a45_1+1,a45_2,a45_3,a45_4,a45_5,a45_6,a45_1+1,List.append (take a45_1 a45_8) [[x0,x1,x2,bi x3,a14,a15]])))
 (none))
 (ob (qCG a25_0 a25_1 a25_2 a25_3 a25_4 a25_5 a25_6 a25_7 a25_8) fun (a34_0,a34_1,a34_2,a34_3,a34_4,a34_5,a34_6,_,a34_8)=>
 br (decide ((a34_1+1)*40<=140737488355328))
 (some (.inr (true,a34_0,a34_1+1,a34_2,a34_3,a34_4,a34_5,a34_6,a34_1+1,List.append (take a34_1 a34_8) [[x0,x1,x2,bi x3,a14,a15]])))
 (none)))))
def qEW (x0:Int) (x1:Nat) (x2 x3:LI) (x4:Int) (x5 x6:LL) (x7:Nat) (x8:LL):Option (Bool×Int×Nat×LI×LI×Int×LL×LL×Nat×LL):=
 br (Int.ofNat x1==0)
 (some (false,x0,x1,x2,x3,x4,x5,x6,x7,x8))
 (br (inB (wrap .i64 (Int.ofNat x1 - 1)) x1)
 (br (qEb (wrap .i64 (Int.ofNat x1 - 1)) x1)
 (ob (qCG x0 (Int.toNat (wrap .i64 (Int.ofNat x1 - 1)) - 0) x2 x3 x4 x5 x6 x7 x8) fun (a9_0,a9_1,a9_2,a9_3,a9_4,a9_5,a9_6,a9_7,a9_8)=>
 br (headD (tail (tail (take 6 (getD x8 (Int.toNat (wrap .i64 (Int.ofNat x1 - 1))) [])))) 0 != 0)
 (ob (qBI (headD (tail (take 6 (getD x8 (Int.toNat (wrap .i64 (Int.ofNat x1 - 1))) []))) 0) 0 a9_0 a9_1 a9_2 a9_3 a9_4 a9_5 a9_6 a9_7 a9_8) fun (a18_0,a18_1,a18_2,a18_3,a18_4,a18_5,a18_6,a18_7,a18_8)=>
 ob (qDK a9_4 (headD (tail (tail (take 6 (getD x8 (Int.toNat (wrap .i64 (Int.ofNat x1 - 1))) [])))) 0) 1 a18_0 a18_1 a18_2 a18_3 a18_4 a18_5 a18_6 a18_7 a18_8) fun (a27_0,a27_1,a27_2,a27_3,a27_4,a27_5,a27_6,a27_7,a27_8)=>
 some (true,a27_0,a27_1,a27_2,a27_3,a27_4,a27_5,a27_6,a27_7,a27_8))
 (ob (qBI (headD (tail (take 6 (getD x8 (Int.toNat (wrap .i64 (Int.ofNat x1 - 1))) []))) 0) (headD (tail (tail (tail (tail (take 6 (getD x8 (Int.toNat (wrap .i64 (Int.ofNat x1 - 1))) [])))))) 0) a9_0 a9_1 a9_2 a9_3 a9_4 a9_5 a9_6 a9_7 a9_8) fun (a18_0,a18_1,a18_2,a18_3,a18_4,a18_5,a18_6,a18_7,a18_8)=>
 ob (qBI (headD (take 6 (getD x8 (Int.toNat (wrap .i64 (Int.ofNat x1 - 1))) [])) 0) (headD (tail (tail (tail (tail (tail (take 6 (getD x8 (Int.toNat (wrap .i64 (Int.ofNat x1 - 1))) []))))))) 0) a18_0 a18_1 a18_2 a18_3 a18_4 a18_5 a18_6 a18_7 a18_8) fun (a27_0,a27_1,a27_2,a27_3,a27_4,a27_5,a27_6,a27_7,a27_8)=>
 br (headD (tail (tail (tail (tail (take 6 (getD x8 (Int.toNat (wrap .i64 (Int.ofNat x1 - 1))) [])))))) 0 != 0)
 (ob (qAB (headD (tail (tail (tail (tail (take 6 (getD x8 (Int.toNat (wrap .i64 (Int.ofNat x1 - 1))) [])))))) 0)) fun a36=>
 ob (qC5 a36) fun a37=>
 ob (qDK a9_4 a37 (-1) a27_0 a27_1 a27_2 a27_3 a27_4 a27_5 a27_6 a27_7 a27_8) fun (a38_0,a38_1,a38_2,a38_3,a38_4,a38_5,a38_6,a38_7,a38_8)=>
 some (true,a38_0,a38_1,a38_2,a38_3,a38_4,a38_5,a38_6,a38_7,a38_8))
 (some (true,a27_0,a27_1,a27_2,a27_3,a27_4,a27_5,a27_6,a27_7,a27_8))))
 (none))
 (none))
def qAP (x0:Int):Option (Int):=
 br (decide (x0<1))
 (some (0))
 (br (decide (x0>31))
 (some (0))
 (br (x0==13)
 (some (0))
 (br (x0==16)
 (some (0))
 (br (x0==29)
 (some (0))
 (some (Int.tmod x0 16))))))
def qD5 (rec:Int->Int->Int->Int->LI->LI->Int->Option (Int)) (x0 x1:Int) (x2 x3:Int) (x4 x5:LI) (x6:Int):Option (Int):=
 br (decide (x3<9))
 (br (inB (wrap .i64 (wrap .i64 (9*x1)+x3)) 81)
 (br (conv .i8 .i64 (getD x4 (Int.toNat (wrap .i64 (wrap .i64 (9*x1)+x3))) 0)==x0)
 (rec x0 x1 (wrap .i64 (x2+1)) (wrap .i64 (x3+1)) x4 x5 x6)
 (rec x0 x1 x2 (wrap .i64 (x3+1)) x4 x5 x6))
 (none))
 (some (x2))
def qCl:Nat->Int->Int->Int->Int->LI->LI->Int->Option (Int)
 | 0,_,_,_,_,_,_,_=>none
 | f+1,x0,x1,x2,x3,x4,x5,x6=>qD5 (qCl f) x0 x1 x2 x3 x4 x5 x6
def qD4 (x0 x1:LI) (x2 x3 x4:Int):Option (Int):=
 ob (qCl qB x3 x4 0 0 x0 x1 x2) fun a5=>
 some (a5)
def qEx (rec:Int->Int->Int->LI->LI->Int->Option (Int)) (x0 x1 x2:Int) (x3 x4:LI) (x5:Int):Option (Int):=
 br (decide (x2<9))
 (ob (qD4 x3 x4 x5 x0 x2) fun a10=>
 rec x0 (wrap .i64 (x1+a10)) (wrap .i64 (x2+1)) x3 x4 x5)
 (some (x1))
def qDU:Nat->Int->Int->Int->LI->LI->Int->Option (Int)
 | 0,_,_,_,_,_,_=>none
 | f+1,x0,x1,x2,x3,x4,x5=>qEx (qDU f) x0 x1 x2 x3 x4 x5
def qC7 (x0 x1:LI) (x2 x3:Int):Option (Int):=
 ob (qDU qB x3 0 0 x0 x1 x2) fun a4=>
 some (a4)
def qIb (x0:Int):Option (Int):=
 br (decide (x0<1))
 (some (0))
 (br (decide (x0>15))
 (some (0))
 (br (x0==13)
 (some (0))
 (br (decide (x0>8))
 (some (wrap .i64 (x0 - 8)))
 (some (x0)))))
def qKH (rec:Int->Int->Int->LI->LI->Int->Option (Int×Int×LI×LI×Int)) (x0 x1 x2:Int) (x3 x4:LI) (x5:Int):Option (Int×Int×LI×LI×Int):=
 br (decide (x2<81))
 (br (inB x2 81)
 (ob (qAP (conv .i8 .i64 (getD x3 (Int.toNat x2) 0))) fun a10=>
 ob (qIb a10) fun a11=>
 br (a11==x0)
 (rec x0 (wrap .i64 (x1+1)) (wrap .i64 (x2+1)) x3 x4 x5)
 (rec x0 x1 (wrap .i64 (x2+1)) x3 x4 x5))
 (none))
 (some (x0,x1,x3,x4,x5))
def qIg:Nat->Int->Int->Int->LI->LI->Int->Option (Int×Int×LI×LI×Int)
 | 0,_,_,_,_,_,_=>none
 | f+1,x0,x1,x2,x3,x4,x5=>qKH (qIg f) x0 x1 x2 x3 x4 x5
def qQ6 (x0 x1:LI) (x2 x3:Int):Option (Int):=
 ob (qIg qB x3 0 0 x0 x1 x2) fun (a4_0,a4_1,_,a4_3,_)=>
 br (inB a4_0 8)
 (br (inB a4_0 8)
 (some (wrap .i64 (wrap .i64 (a4_1+conv .i8 .i64 (getD a4_3 (0+Int.toNat a4_0) 0))+conv .i8 .i64 (getD a4_3 (8+Int.toNat a4_0) 0))))
 (none))
 (none)
def qQu (x0:Int):Option (Int):=
 br (decide (x0<1))
 (some (0))
 (br (decide (x0>8))
 (some (0))
 (br (inB x0 9)
 (some (getD [0,18,4,4,4,4,2,2,2] (Int.toNat x0) 0))
 (none)))
def qA9 (x0:Int):Option (Int):=
 ob (qAP x0) fun a1=>
 br (a1==0)
 (some (-1))
 (some (wrap .i64 (Int.tdiv x0 16)))
def qDT (x0 x1:Int):Option (Int):=
 br (decide (x1<0))
 (some (-1))
 (br (decide (x1>80))
 (some (-1))
 (br (decide (x0<0))
 (some (-1))
 (br (decide (x0>1))
 (some (-1))
 (br (x0==0)
 (some (Int.tmod x1 9))
 (some (wrap .i64 (8 - Int.tmod x1 9)))))))
def qDS (x0 x1:Int):Option (Bool):=
 ob (qA9 x0) fun a2=>
 ob (qDT a2 x1) fun a3=>
 ob (qAP x0) fun a4=>
 br (a4==1)
 (br (a3==0)
 (some (true))
 (br (a4==3)
 (br (a3==0)
 (some (true))
 (some (a3==1)))
 (some (false))))
 (br (a4==2)
 (br (a3==0)
 (some (true))
 (br (a4==3)
 (br (a3==0)
 (some (true))
 (some (a3==1)))
 (some (false))))
 (br (a4==3)
 (br (a3==0)
 (some (true))
 (some (a3==1)))
 (some (false))))
def qEt (rec:Int->LI->LI->Int->Option ((Int×LI×LI×Int)⊕(LI×LI×Int))) (x0:Int) (x1 x2:LI) (x3:Int):Option ((Int×LI×LI×Int)⊕(LI×LI×Int)):=
 br (decide (x0<81))
 (br (inB x0 81)
 (br (getD x1 (Int.toNat x0) 0 != 0)
 (br (inB x0 81)
 (ob (qAP (conv .i8 .i64 (getD x1 (Int.toNat x0) 0))) fun a7=>
 br (a7==0)
 (some (.inl (55,x1,x2,x3)))
 (rec (wrap .i64 (x0+1)) x1 x2 x3))
 (none))
 (rec (wrap .i64 (x0+1)) x1 x2 x3))
 (none))
 (some (.inr (x1,x2,x3)))
def qCk:Nat->Int->LI->LI->Int->Option ((Int×LI×LI×Int)⊕(LI×LI×Int))
 | 0,_,_,_,_=>none
 | f+1,x0,x1,x2,x3=>qEt (qCk f) x0 x1 x2 x3
def qEp (rec:Int->Int->LI->LI->Int->Option ((Int×Int×LI×LI×Int)⊕(Int×LI×LI×Int))) (x0 x1:Int) (x2 x3:LI) (x4:Int):Option ((Int×Int×LI×LI×Int)⊕(Int×LI×LI×Int)):=
 br (decide (x1<2))
 (br (inB x1 2)
 (br (inB x0 8)
 (br (decide (getD x3 (Int.toNat x1*8+Int.toNat x0) 0<0))
 (some (.inl (55,x0,x2,x3,x4)))
 (br (x0==0)
 (br (getD x3 (Int.toNat x1*8+Int.toNat x0) 0 != 0)
 (some (.inl (55,x0,x2,x3,x4)))
 (rec x0 (wrap .i64 (x1+1)) x2 x3 x4))
 (rec x0 (wrap .i64 (x1+1)) x2 x3 x4)))
 (none))
 (none))
 (some (.inr (x0,x2,x3,x4)))
def qB6:Nat->Int->Int->LI->LI->Int->Option ((Int×Int×LI×LI×Int)⊕(Int×LI×LI×Int))
 | 0,_,_,_,_,_=>none
 | f+1,x0,x1,x2,x3,x4=>qEp (qB6 f) x0 x1 x2 x3 x4
def qEu (rec:Int->LI->LI->Int->Option ((Int×LI×LI×Int)⊕(LI×LI×Int))) (x0:Int) (x1 x2:LI) (x3:Int):Option ((Int×LI×LI×Int)⊕(LI×LI×Int)):=
 br (decide (x0<8))
 (ob (qB6 qB x0 0 x1 x2 x3) fun t10_2=>
 sw t10_2 (fun (a10_0,_,a10_2,a10_3,a10_4)=>
 some (.inl (a10_0,a10_2,a10_3,a10_4)))
 (fun (a10_0,a10_1,a10_2,a10_3)=>
 rec (wrap .i64 (a10_0+1)) a10_1 a10_2 a10_3))
 (some (.inr (x1,x2,x3)))
def qBn:Nat->Int->LI->LI->Int->Option ((Int×LI×LI×Int)⊕(LI×LI×Int))
 | 0,_,_,_,_=>none
 | f+1,x0,x1,x2,x3=>qEu (qBn f) x0 x1 x2 x3
def qEq (rec:Int->LI->LI->Int->Option ((Int×LI×LI×Int)⊕(LI×LI×Int))) (x0:Int) (x1 x2:LI) (x3:Int):Option ((Int×LI×LI×Int)⊕(LI×LI×Int)):=
 br (decide (x0<8))
 (ob (qQ6 x1 x2 x3 x0) fun a15=>
 ob (qQu x0) fun a16=>
 br (decide (a15>a16))
 (some (.inl (51,x1,x2,x3)))
 (rec (wrap .i64 (x0+1)) x1 x2 x3))
 (some (.inr (x1,x2,x3)))
def qBk:Nat->Int->LI->LI->Int->Option ((Int×LI×LI×Int)⊕(LI×LI×Int))
 | 0,_,_,_,_=>none
 | f+1,x0,x1,x2,x3=>qEq (qBk f) x0 x1 x2 x3
def qEr (rec:Int->LI->LI->Int->Option ((Int×LI×LI×Int)⊕(LI×LI×Int))) (x0:Int) (x1 x2:LI) (x3:Int):Option ((Int×LI×LI×Int)⊕(LI×LI×Int)):=
 br (decide (x0<81))
 (br (inB x0 81)
 (ob (qDS (conv .i8 .i64 (getD x1 (Int.toNat x0) 0)) x0) fun a18=>
 br (a18)
 (some (.inl (52,x1,x2,x3)))
 (rec (wrap .i64 (x0+1)) x1 x2 x3))
 (none))
 (some (.inr (x1,x2,x3)))
def qBl:Nat->Int->LI->LI->Int->Option ((Int×LI×LI×Int)⊕(LI×LI×Int))
 | 0,_,_,_,_=>none
 | f+1,x0,x1,x2,x3=>qEr (qBl f) x0 x1 x2 x3
def qEs (rec:Int->LI->LI->Int->Option ((Int)⊕(Unit))) (x0:Int) (x1 x2:LI) (x3:Int):Option ((Int)⊕(Unit)):=
 br (decide (x0<9))
 (ob (qD4 x1 x2 x3 1 x0) fun a21=>
 br (decide (a21>1))
 (some (.inl (53)))
 (ob (qD4 x1 x2 x3 17 x0) fun a22=>
 br (decide (a22>1))
 (some (.inl (53)))
 (rec (wrap .i64 (x0+1)) x1 x2 x3)))
 (some (.inr ()))
def qBm:Nat->Int->LI->LI->Int->Option ((Int)⊕(Unit))
 | 0,_,_,_,_=>none
 | f+1,x0,x1,x2,x3=>qEs (qBm f) x0 x1 x2 x3
def qKG (x0 x1:LI) (x2:Int):Option (Int):=
 br (x2 != 0)
 (br (x2 != 1)
 (some (1))
 (ob (qCk qB 0 x0 x1 x2) fun t3_2=>
 sw t3_2 (fun (a3_0,_,_,_)=>
 some (a3_0))
 (fun (a3_0,a3_1,a3_2)=>
 ob (qBn qB 0 a3_0 a3_1 a3_2) fun t6_2=>
 sw t6_2 (fun (a6_0,_,_,_)=>
 some (a6_0))
 (fun (a6_0,a6_1,a6_2)=>
 ob (qC7 a6_0 a6_1 a6_2 8) fun a9=>
 br (a9 != 1)
 (some (50))
 (ob (qC7 a6_0 a6_1 a6_2 24) fun a10=>
 br (a10 != 1)
 (some (50))
 (ob (qBk qB 1 a6_0 a6_1 a6_2) fun t11_2=>
 sw t11_2 (fun (a11_0,_,_,_)=>
 some (a11_0))
 (fun (a11_0,a11_1,a11_2)=>
 ob (qBl qB 0 a11_0 a11_1 a11_2) fun t14_2=>
 sw t14_2 (fun (a14_0,_,_,_)=>
 some (a14_0))
 (fun (a14_0,a14_1,a14_2)=>
 ob (qBm qB 0 a14_0 a14_1 a14_2) fun t17_2=>
 sw t17_2 (fun a17=>
 some (a17))
 (fun _=>
 some (0))))))))))
 (ob (qCk qB 0 x0 x1 x2) fun t3_2=>
 sw t3_2 (fun (a3_0,_,_,_)=>
 some (a3_0))
 (fun (a3_0,a3_1,a3_2)=>
 ob (qBn qB 0 a3_0 a3_1 a3_2) fun t6_2=>
 sw t6_2 (fun (a6_0,_,_,_)=>
 some (a6_0))
 (fun (a6_0,a6_1,a6_2)=>
 ob (qC7 a6_0 a6_1 a6_2 8) fun a9=>
 br (a9 != 1)
 (some (50))
 (ob (qC7 a6_0 a6_1 a6_2 24) fun a10=>
 br (a10 != 1)
 (some (50))
 (ob (qBk qB 1 a6_0 a6_1 a6_2) fun t11_2=>
 sw t11_2 (fun (a11_0,_,_,_)=>
 some (a11_0))
 (fun (a11_0,a11_1,a11_2)=>
 ob (qBl qB 0 a11_0 a11_1 a11_2) fun t14_2=>
 sw t14_2 (fun (a14_0,_,_,_)=>
 some (a14_0))
 (fun (a14_0,a14_1,a14_2)=>
 ob (qBm qB 0 a14_0 a14_1 a14_2) fun t17_2=>
 sw t17_2 (fun a17=>
 some (a17))
 (fun _=>
 some (0)))))))))
def qEV (x0 x1:LI) (x2 x3:Int) (x4 x5:Int) (x6:Bool):Option (LI×LI×Int×Bool):=
 ob (qFZ x0 x1 x2) fun (a7_0,a7_1,a7_2,a7_3,a7_4,a7_5,a7_6,a7_7,a7_8)=>
 ob (qCb x3 x4 x5 x6 a7_0 a7_1 a7_2 a7_3 a7_4 a7_5 a7_6 a7_7 a7_8) fun t16_2=>
 sw t16_2 (fun (a16_0,_,_,a16_3,a16_4,a16_5,_,_,_,_)=>
 some (a16_3,a16_4,a16_5,a16_0))
 (fun (a16_0,_,_,a16_3,a16_4,a16_5,_,_,_,_)=>
 some (a16_3,a16_4,a16_5,a16_0))
def qDI (_x0 _x1:LI) (_x2:Int) (_x3 x4:LL):Option (Int×Int):=
 ob (qDX (headD (take 2 (getD x4 0 [])) 0) (headD (tail (take 2 (getD x4 0 []))) 0) (headD (take 2 (getD x4 1 [])) 0) (headD (tail (take 2 (getD x4 1 []))) 0)) fun (a5_0,a5_1)=>
 some (a5_0,a5_1)
def qGe (x0:Int):Option (Int):=
 some (qF BinOp.and .i64 (conv .u64 .i64 (wrap .u64 (wrap .u64 (wrap .u64 (qF BinOp.and .u64 (wrap .u64 (Int.fdiv (wrap .u64 (qF BinOp.and .u64 (Int.fdiv (wrap .u64 (qF BinOp.and .u64 (Int.fdiv x0 2) 6148914691236517205+qF BinOp.and .u64 x0 6148914691236517205)) 4) 3689348814741910323+qF BinOp.and .u64 (wrap .u64 (qF BinOp.and .u64 (Int.fdiv x0 2) 6148914691236517205+qF BinOp.and .u64 x0 6148914691236517205)) 3689348814741910323)) 16+wrap .u64 (qF BinOp.and .u64 (Int.fdiv (wrap .u64 (qF BinOp.and .u64 (Int.fdiv x0 2) 6148914691236517205+qF BinOp.and .u64 x0 6148914691236517205)) 4) 3689348814741910323+qF BinOp.and .u64 (wrap .u64 (qF BinOp.and .u64 (Int.fdiv x0 2) 6148914691236517205+qF BinOp.and .u64 x0 6148914691236517205)) 3689348814741910323))) 1085102592571150095+Int.fdiv (qF BinOp.and .u64 (wrap .u64 (Int.fdiv (wrap .u64 (qF BinOp.and .u64 (Int.fdiv (wrap .u64 (qF BinOp.and .u64 (Int.fdiv x0 2) 6148914691236517205+qF BinOp.and .u64 x0 6148914691236517205)) 4) 3689348814741910323+qF BinOp.and .u64 (wrap .u64 (qF BinOp.and .u64 (Int.fdiv x0 2) 6148914691236517205+qF BinOp.and .u64 x0 6148914691236517205)) 3689348814741910323)) 16+wrap .u64 (qF BinOp.and .u64 (Int.fdiv (wrap .u64 (qF BinOp.and .u64 (Int.fdiv x0 2) 6148914691236517205+qF BinOp.and .u64 x0 6148914691236517205)) 4) 3689348814741910323+qF BinOp.and .u64 (wrap .u64 (qF BinOp.and .u64 (Int.fdiv x0 2) 6148914691236517205+qF BinOp.and .u64 x0 6148914691236517205)) 3689348814741910323))) 1085102592571150095) 256)+Int.fdiv (wrap .u64 (qF BinOp.and .u64 (wrap .u64 (Int.fdiv (wrap .u64 (qF BinOp.and .u64 (Int.fdiv (wrap .u64 (qF BinOp.and .u64 (Int.fdiv x0 2) 6148914691236517205+qF BinOp.and .u64 x0 6148914691236517205)) 4) 3689348814741910323+qF BinOp.and .u64 (wrap .u64 (qF BinOp.and .u64 (Int.fdiv x0 2) 6148914691236517205+qF BinOp.and .u64 x0 6148914691236517205)) 3689348814741910323)) 16+wrap .u64 (qF BinOp.and .u64 (Int.fdiv (wrap .u64 (qF BinOp.and .u64 (Int.fdiv x0 2) 6148914691236517205+qF BinOp.and .u64 x0 6148914691236517205)) 4) 3689348814741910323+qF BinOp.and .u64 (wrap .u64 (qF BinOp.and .u64 (Int.fdiv x0 2) 6148914691236517205+qF BinOp.and .u64 x0 6148914691236517205)) 3689348814741910323))) 1085102592571150095+Int.fdiv (qF BinOp.and .u64 (wrap .u64 (Int.fdiv (wrap .u64 (qF BinOp.and .u64 (Int.fdiv (wrap .u64 (qF BinOp.and .u64 (Int.fdiv x0 2) 6148914691236517205+qF BinOp.and .u64 x0 6148914691236517205)) 4) 3689348814741910323+qF BinOp.and .u64 (wrap .u64 (qF BinOp.and .u64 (Int.fdiv x0 2) 6148914691236517205+qF BinOp.and .u64 x0 6148914691236517205)) 3689348814741910323)) 16+wrap .u64 (qF BinOp.and .u64 (Int.fdiv (wrap .u64 (qF BinOp.and .u64 (Int.fdiv x0 2) 6148914691236517205+qF BinOp.and .u64 x0 6148914691236517205)) 4) 3689348814741910323+qF BinOp.and .u64 (wrap .u64 (qF BinOp.and .u64 (Int.fdiv x0 2) 6148914691236517205+qF BinOp.and .u64 x0 6148914691236517205)) 3689348814741910323))) 1085102592571150095) 256)) 65536)+Int.fdiv (wrap .u64 (wrap .u64 (qF BinOp.and .u64 (wrap .u64 (Int.fdiv (wrap .u64 (qF BinOp.and .u64 (Int.fdiv (wrap .u64 (qF BinOp.and .u64 (Int.fdiv x0 2) 6148914691236517205+qF BinOp.and .u64 x0 6148914691236517205)) 4) 3689348814741910323+qF BinOp.and .u64 (wrap .u64 (qF BinOp.and .u64 (Int.fdiv x0 2) 6148914691236517205+qF BinOp.and .u64 x0 6148914691236517205)) 3689348814741910323)) 16+wrap .u64 (qF BinOp.and .u64 (Int.fdiv (wrap .u64 (qF BinOp.and .u64 (Int.fdiv x0 2) 6148914691236517205+qF BinOp.and .u64 x0 6148914691236517205)) 4) 3689348814741910323+qF BinOp.and .u64 (wrap .u64 (qF BinOp.and .u64 (Int.fdiv x0 2) 6148914691236517205+qF BinOp.and .u64 x0 6148914691236517205)) 3689348814741910323))) 1085102592571150095+Int.fdiv (qF BinOp.and .u64 (wrap .u64 (Int.fdiv (wrap .u64 (qF BinOp.and .u64 (Int.fdiv (wrap .u64 (qF BinOp.and .u64 (Int.fdiv x0 2) 6148914691236517205+qF BinOp.and .u64 x0 6148914691236517205)) 4) 3689348814741910323+qF BinOp.and .u64 (wrap .u64 (qF BinOp.and .u64 (Int.fdiv x0 2) 6148914691236517205+qF BinOp.and .u64 x0 6148914691236517205)) 3689348814741910323)) 16+wrap .u64 (qF BinOp.and .u64 (Int.fdiv (wrap .u64 (qF BinOp.and .u64 (Int.fdiv x0 2) 6148914691236517205+qF BinOp.and .u64 x0 6148914691236517205)) 4) 3689348814741910323+qF BinOp.and .u64 (wrap .u64 (qF BinOp.and .u64 (Int.fdiv x0 2) 6148914691236517205+qF BinOp.and .u64 x0 6148914691236517205)) 3689348814741910323))) 1085102592571150095) 256)+Int.fdiv (wrap .u64 (qF BinOp.and .u64 (wrap .u64 (Int.fdiv (wrap .u64 (qF BinOp.and .u64 (Int.fdiv (wrap .u64 (qF BinOp.and .u64 (Int.fdiv x0 2) 6148914691236517205+qF BinOp.and .u64 x0 6148914691236517205)) 4) 3689348814741910323+qF BinOp.and .u64 (wrap .u64 (qF BinOp.and .u64 (Int.fdiv x0 2) 6148914691236517205+qF BinOp.and .u64 x0 6148914691236517205)) 3689348814741910323)) 16+wrap .u64 (qF BinOp.and .u64 (Int.fdiv (wrap .u64 (qF BinOp.and .u64 (Int.fdiv x0 2) 6148914691236517205+qF BinOp.and .u64 x0 6148914691236517205)) 4) 3689348814741910323+qF BinOp.and .u64 (wrap .u64 (qF BinOp.and .u64 (Int.fdiv x0 2) 6148914691236517205+qF BinOp.and .u64 x0 6148914691236517205)) 3689348814741910323))) 1085102592571150095+Int.fdiv (qF BinOp.and .u64 (wrap .u64 (Int.fdiv (wrap .u64 (qF BinOp.and .u64 (Int.fdiv (wrap .u64 (qF BinOp.and .u64 (Int.fdiv x0 2) 6148914691236517205+qF BinOp.and .u64 x0 6148914691236517205)) 4) 3689348814741910323+qF BinOp.and .u64 (wrap .u64 (qF BinOp.and .u64 (Int.fdiv x0 2) 6148914691236517205+qF BinOp.and .u64 x0 6148914691236517205)) 3689348814741910323)) 16+wrap .u64 (qF BinOp.and .u64 (Int.fdiv (wrap .u64 (qF BinOp.and .u64 (Int.fdiv x0 2) 6148914691236517205+qF BinOp.and .u64 x0 6148914691236517205)) 4) 3689348814741910323+qF BinOp.and .u64 (wrap .u64 (qF BinOp.and .u64 (Int.fdiv x0 2) 6148914691236517205+qF BinOp.and .u64 x0 6148914691236517205)) 3689348814741910323))) 1085102592571150095) 256)) 65536)) 4294967296))) 127)
def qHE (x0 x1:Int):Option (Int):=
 ob (qGe x0) fun a2=>
 ob (qGe x1) fun a3=>
 some (wrap .i64 (a2+a3))
def qDH (x0 x1:Int) (_x2 _x3:LI) (_x4:Int) (x5 _x6:LL):Option (Int×Int):=
 ob (qAz x0 x1) fun a7=>
 br (a7==0)
 (some (0,0))
 (br (inB a7 32)
 (some (headD (take 2 (getD x5 (Int.toNat a7) [])) 0,headD (tail (take 2 (getD x5 (Int.toNat a7) []))) 0))
 (none))
def qN0 (BBB:Bool->Option (Int)->Option (Int)->Option (Int)) (x0:Int):Option (Int):=
 br (x0==0)
 (some (64))
 (BBB (inB (Int.fdiv (wrap .u64 (qF BinOp.and .u64 x0 (wrap .u64 (0 - x0))*285870213051353865)) 288230376151711744) 64)
 (some (conv .u8 .i64 (getD [0,1,56,2,57,49,28,3,61,58,42,50,38,29,17,4,62,47,59,36,45,43,51,22,53,39,33,30,24,18,12,5,63,55,48,27,60,41,37,16,46,35,44,21,52,32,23,11,54,26,40,15,34,20,31,10,25,14,19,9,13,8,7,6] (Int.toNat (Int.fdiv (wrap .u64 (qF BinOp.and .u64 x0 (wrap .u64 (0 - x0))*285870213051353865)) 288230376151711744)) 0)))
 (none))
def qFO (x0:Int):Option (Int):=qN0 br x0
def qHG (x0 x1:Int):Option (Int):=
 br (x0 != 0)
 (ob (qFO x0) fun a2=>
 some (a2))
 (br (x1 != 0)
 (ob (qFO x1) fun a2=>
 some (wrap .i64 (63+a2)))
 (some (-1)))
def qGg (x0:Int) (x1 x2:LI) (x3:Int) (x4 x5:LL):Option (Int):=
 ob (qDH x0 8 x1 x2 x3 x4 x5) fun (a6_0,a6_1)=>
 ob (qHG a6_0 a6_1) fun a8=>
 some (a8)
def qMD (x0:Int):Option (Int):=
 br (x0==1)
 (some (18))
 (br (x0==2)
 (some (4))
 (br (x0==3)
 (some (4))
 (br (x0==4)
 (some (4))
 (br (x0==5)
 (some (4))
 (br (x0==6)
 (some (2))
 (br (x0==7)
 (some (2))
 (br (x0==8)
 (some (2))
 (some (0)))))))))
def qGK (x0:Int):Option (Int):=
 some (Int.tmod x0 9)
def qGN (x0 x1:Int):Option (Int):=
 br (decide (x1<0))
 (some (-1))
 (br (decide (x1 >= 81))
 (some (-1))
 (br (x0==0)
 (ob (qGK x1) fun a2=>
 some (a2))
 (br (x0==1)
 (ob (qGK x1) fun a2=>
 some (wrap .i64 (8 - a2)))
 (some (-1)))))
def qEI (x0 x1:Int):Option (Bool):=
 ob (qAe x0) fun a2=>
 ob (qGN a2 x1) fun a3=>
 ob (qAB x0) fun a4=>
 br (a4==1)
 (some (a3==0))
 (br (a4==2)
 (some (a3==0))
 (br (a4==3)
 (br (a3==0)
 (some (true))
 (some (a3==1)))
 (some (false))))
def qc7 (rec:Int->Int->Int->Int->Int->Int->Option (Int×Int×Int×Int)) (x0 x1:Int) (x2 x3:Int) (x4 x5:Int):Option (Int×Int×Int×Int):=
 br (decide (x1<9))
 (ob (qDA x0 x1) fun a7=>
 ob (qA1 x4 x5 a7) fun (a8_0,a8_1)=>
 rec x0 (wrap .i64 (x1+1)) x2 x3 a8_0 a8_1)
 (some (x2,x3,x4,x5))
def qMy:Nat->Int->Int->Int->Int->Int->Int->Option (Int×Int×Int×Int)
 | 0,_,_,_,_,_,_=>none
 | f+1,x0,x1,x2,x3,x4,x5=>qc7 (qMy f) x0 x1 x2 x3 x4 x5
def qI0 (x0:Int):Option (Int×Int):=
 ob (qMy qB x0 0 0 0 0 0) fun (_,_,a1_2,a1_3)=>
 some (a1_2,a1_3)
def qC9 (x0 x1:Int) (x2 x3:Int):Option (Int×Int):=
 some (qF BinOp.and .u64 x0 x2,qF BinOp.and .u64 x1 x3)
def qHm (rec:LI->Int->LI->LI->Int->Option ((Int×LI×LI×Int)⊕(LI×LI×Int))) (x0:LI) (x1:Int) (x2 x3:LI) (x4:Int):Option ((Int×LI×LI×Int)⊕(LI×LI×Int)):=
 br (decide (x1<81))
 (br (inB x1 81)
 (ob (qEI (getD x0 (bif true then Int.toNat x1 else Int.toNat x1*1) 0) x1) fun a8=>
 br (a8)
 (some (.inl (52,x2,x3,x4)))
 (rec x0 (wrap .i64 (x1+1)) x2 x3 x4))
 (none))
 (some (.inr (x2,x3,x4)))
def qFU:Nat->LI->Int->LI->LI->Int->Option ((Int×LI×LI×Int)⊕(LI×LI×Int))
 | 0,_,_,_,_,_=>none
 | f+1,x0,x1,x2,x3,x4=>qHm (qFU f) x0 x1 x2 x3 x4
def qFT (rec:Int->Int->Int->LI->LI->Int->LL->LL->Option ((Int×Int×LI×LI×Int×LL×LL)⊕(Int×LI×LI×Int×LL×LL))) (x0 x1 x2:Int) (x3 x4:LI) (x5:Int) (x6 x7:LL):Option ((Int×Int×LI×LI×Int×LL×LL)⊕(Int×LI×LI×Int×LL×LL)):=
 br (decide (x2<2))
 (ob (qDH x2 1 x3 x4 x5 x6 x7) fun (a25_0,a25_1)=>
 ob (qI0 x0) fun (a27_0,a27_1)=>
 ob (qC9 a25_0 a25_1 a27_0 a27_1) fun (a29_0,a29_1)=>
 ob (qHE a29_0 a29_1) fun a31=>
 br (decide (a31>1))
 (some (.inl (53,x1,x3,x4,x5,x6,x7)))
 (rec x0 x1 (wrap .i64 (x2+1)) x3 x4 x5 x6 x7))
 (some (.inr (x1,x3,x4,x5,x6,x7)))
def qFS:Nat->Int->Int->Int->LI->LI->Int->LL->LL->Option ((Int×Int×LI×LI×Int×LL×LL)⊕(Int×LI×LI×Int×LL×LL))
 | 0,_,_,_,_,_,_,_,_=>none
 | f+1,x0,x1,x2,x3,x4,x5,x6,x7=>qFT (qFS f) x0 x1 x2 x3 x4 x5 x6 x7
def qHn (rec:Int->LI->LI->Int->LL->LL->Option ((Int)⊕(Unit))) (x0:Int) (x1 x2:LI) (x3:Int) (x4 x5:LL):Option ((Int)⊕(Unit)):=
 br (decide (x0<9))
 (ob (qFS qB x0 x0 0 x1 x2 x3 x4 x5) fun t17_2=>
 sw t17_2 (fun (a17_0,_,_,_,_,_,_)=>
 some (.inl (a17_0)))
 (fun (a17_0,a17_1,a17_2,a17_3,a17_4,a17_5)=>
 rec (wrap .i64 (a17_0+1)) a17_1 a17_2 a17_3 a17_4 a17_5))
 (some (.inr ()))
def qFV:Nat->Int->LI->LI->Int->LL->LL->Option ((Int)⊕(Unit))
 | 0,_,_,_,_,_,_=>none
 | f+1,x0,x1,x2,x3,x4,x5=>qHn (qFV f) x0 x1 x2 x3 x4 x5
def qGj (x0 x1:LI) (x2:Int):Option (Int):=
 ob (qFU qB x0 0 x0 x1 x2) fun t3_2=>
 sw t3_2 (fun (a3_0,_,_,_)=>
 some (a3_0))
 (fun (a3_0,a3_1,a3_2)=>
 ob (qBz a3_0 a3_1 a3_2) fun (a6_0,a6_1,a6_2,a6_3,a6_4)=>
 ob (qFV qB 0 a6_0 a6_1 a6_2 a6_3 a6_4) fun t11_2=>
 sw t11_2 (fun a11=>
 some (a11))
 (fun _=>
 some (0)))
def qFQ (rec:LI->Int->LI->LI->Int->LI->LI->Option ((Int×LI×LI×Int×LI×LI)⊕(LI×LI×Int×LI×LI))) (x0:LI) (x1:Int) (x2 x3:LI) (x4:Int) (x5 x6:LI):Option ((Int×LI×LI×Int×LI×LI)⊕(LI×LI×Int×LI×LI)):=
 br (decide (x1<81))
 (br (inB x1 81)
 (ob (qAB (getD x0 (bif true then Int.toNat x1 else Int.toNat x1*1) 0)) fun a10=>
 br (getD x0 (bif true then Int.toNat x1 else Int.toNat x1*1) 0==0)
 (rec x0 (wrap .i64 (x1+1)) x2 x3 x4 x5 x6)
 (br (a10==0)
 (some (.inl (55,x2,x3,x4,x5,x6)))
 (br (a10==8)
 (ob (qAe (getD x0 (bif true then Int.toNat x1 else Int.toNat x1*1) 0)) fun a11=>
 br (inB a11 2)
 (br (inB a11 2)
 (ob (qC5 a10) fun a12=>
 br (inB a12 9)
 (br (inB a12 9)
 (rec x0 (wrap .i64 (x1+1)) x2 x3 x4 (List.set x5 (Int.toNat a12) (wrap .i64 (getD x5 (Int.toNat a12) 0+1))) (List.set x6 (Int.toNat a11) (wrap .i64 (getD x6 (Int.toNat a11) 0+1))))
 (none))
 (none))
 (none))
 (none))
 (ob (qC5 a10) fun a11=>
 br (inB a11 9)
 (br (inB a11 9)
 (rec x0 (wrap .i64 (x1+1)) x2 x3 x4 (List.set x5 (Int.toNat a11) (wrap .i64 (getD x5 (Int.toNat a11) 0+1))) x6)
 (none))
 (none)))))
 (none))
 (some (.inr (x2,x3,x4,x5,x6)))
def qCZ:Nat->LI->Int->LI->LI->Int->LI->LI->Option ((Int×LI×LI×Int×LI×LI)⊕(LI×LI×Int×LI×LI))
 | 0,_,_,_,_,_,_,_=>none
 | f+1,x0,x1,x2,x3,x4,x5,x6=>qFQ (qCZ f) x0 x1 x2 x3 x4 x5 x6
def qFP (rec:LI->Int->LI->Int->LI->LI->Int->LI->LI->Option ((Int×LI×Int×LI×LI×Int×LI×LI)⊕(LI×Int×LI×LI×Int×LI×LI))) (x0:LI) (x1:Int) (x2:LI) (x3:Int) (x4 x5:LI) (x6:Int) (x7 x8:LI):Option ((Int×LI×Int×LI×LI×Int×LI×LI)⊕(LI×Int×LI×LI×Int×LI×LI)):=
 br (decide (x3<8))
 (br (inB x3 8)
 (br (decide (getD x2 (bif true then Int.toNat x3 else Int.toNat x3*1) 0<0))
 (some (.inl (55,x0,x1,x4,x5,x6,x7,x8)))
 (br (decide (getD x2 (bif true then Int.toNat x3 else Int.toNat x3*1) 0>0))
 (br (x3==0)
 (some (.inl (55,x0,x1,x4,x5,x6,x7,x8)))
 (br (x3==8)
 (some (.inl (55,x0,x1,x4,x5,x6,x7,x8)))
 (br (inB x3 9)
 (br (inB x3 9)
 (rec x0 x1 x2 (wrap .i64 (x3+1)) x4 x5 x6 (List.set x7 (Int.toNat x3) (wrap .i64 (getD x7 (Int.toNat x3) 0+conv .i8 .i64 (getD x2 (bif true then Int.toNat x3 else Int.toNat x3*1) 0)))) x8)
 (none))
 (none))))
 (br (inB x3 9)
 (br (inB x3 9)
 (rec x0 x1 x2 (wrap .i64 (x3+1)) x4 x5 x6 (List.set x7 (Int.toNat x3) (wrap .i64 (getD x7 (Int.toNat x3) 0+conv .i8 .i64 (getD x2 (bif true then Int.toNat x3 else Int.toNat x3*1) 0)))) x8)
 (none))
 (none))))
 (none))
 (some (.inr (x0,x1,x4,x5,x6,x7,x8)))
def qDG:Nat->LI->Int->LI->Int->LI->LI->Int->LI->LI->Option ((Int×LI×Int×LI×LI×Int×LI×LI)⊕(LI×Int×LI×LI×Int×LI×LI))
 | 0,_,_,_,_,_,_,_,_,_=>none
 | f+1,x0,x1,x2,x3,x4,x5,x6,x7,x8=>qFP (qDG f) x0 x1 x2 x3 x4 x5 x6 x7 x8
def qDl (rec:LI->Int->LI->LI->Int->LI->LI->Option ((Int×LI×LI×Int×LI×LI)⊕(LI×LI×Int×LI×LI))) (x0:LI) (x1:Int) (x2 x3:LI) (x4:Int) (x5 x6:LI):Option ((Int×LI×LI×Int×LI×LI)⊕(LI×LI×Int×LI×LI)):=
 br (decide (x1<2))
 (br (inB x1 2)
 (ob (qDG qB x0 x1 (take 8 (drop (Nat.add (Nat.mul (Int.toNat x1) 7) (Int.toNat x1)) x0)) 0 x2 x3 x4 x5 x6) fun t15_2=>
 sw t15_2 (fun (a15_0,_,_,a15_3,a15_4,a15_5,a15_6,a15_7)=>
 some (.inl (a15_0,a15_3,a15_4,a15_5,a15_6,a15_7)))
 (fun (a15_0,a15_1,a15_2,a15_3,a15_4,a15_5,a15_6)=>
 rec a15_0 (wrap .i64 (a15_1+1)) a15_2 a15_3 a15_4 a15_5 a15_6))
 (none))
 (some (.inr (x2,x3,x4,x5,x6)))
def qCu:Nat->LI->Int->LI->LI->Int->LI->LI->Option ((Int×LI×LI×Int×LI×LI)⊕(LI×LI×Int×LI×LI))
 | 0,_,_,_,_,_,_,_=>none
 | f+1,x0,x1,x2,x3,x4,x5,x6=>qDl (qCu f) x0 x1 x2 x3 x4 x5 x6
def qHi (rec:Int->LI->LI->Int->LI->Option ((Int×LI×LI×Int)⊕(LI×LI×Int))) (x0:Int) (x1 x2:LI) (x3:Int) (x4:LI):Option ((Int×LI×LI×Int)⊕(LI×LI×Int)):=
 br (decide (x0<8))
 (br (inB x0 9)
 (ob (qMD x0) fun a18=>
 br (decide (getD x4 (Int.toNat x0) 0>a18))
 (some (.inl (51,x1,x2,x3)))
 (rec (wrap .i64 (x0+1)) x1 x2 x3 x4))
 (none))
 (some (.inr (x1,x2,x3)))
def qDm:Nat->Int->LI->LI->Int->LI->Option ((Int×LI×LI×Int)⊕(LI×LI×Int))
 | 0,_,_,_,_,_=>none
 | f+1,x0,x1,x2,x3,x4=>qHi (qDm f) x0 x1 x2 x3 x4
def qJT (x0 x1:LI) (x2:Int):Option (Int):=
 br (x2 != 0)
 (br (x2 != 1)
 (some (1))
 (ob (qCZ qB x0 0 x0 x1 x2 ([0,0,0,0,0,0,0,0,0]) ([0,0])) fun t3_2=>
 sw t3_2 (fun (a3_0,_,_,_,_,_)=>
 some (a3_0))
 (fun (a3_0,a3_1,a3_2,a3_3,a3_4)=>
 ob (qCu qB a3_1 0 a3_0 a3_1 a3_2 a3_3 a3_4) fun t8_2=>
 sw t8_2 (fun (a8_0,_,_,_,_,_)=>
 some (a8_0))
 (fun (a8_0,a8_1,a8_2,a8_3,a8_4)=>
 br (!a8_4==[1,1])
 (some (50))
 (ob (qDm qB 1 a8_0 a8_1 a8_2 a8_3) fun t13_2=>
 sw t13_2 (fun (a13_0,_,_,_)=>
 some (a13_0))
 (fun (a13_0,a13_1,a13_2)=>
 ob (qGj a13_0 a13_1 a13_2) fun a16=>
 some (a16)))))))
 (ob (qCZ qB x0 0 x0 x1 x2 ([0,0,0,0,0,0,0,0,0]) ([0,0])) fun t3_2=>
 sw t3_2 (fun (a3_0,_,_,_,_,_)=>
 some (a3_0))
 (fun (a3_0,a3_1,a3_2,a3_3,a3_4)=>
 ob (qCu qB a3_1 0 a3_0 a3_1 a3_2 a3_3 a3_4) fun t8_2=>
 sw t8_2 (fun (a8_0,_,_,_,_,_)=>
 some (a8_0))
 (fun (a8_0,a8_1,a8_2,a8_3,a8_4)=>
 br (!a8_4==[1,1])
 (some (50))
 (ob (qDm qB 1 a8_0 a8_1 a8_2 a8_3) fun t13_2=>
 sw t13_2 (fun (a13_0,_,_,_)=>
 some (a13_0))
 (fun (a13_0,a13_1,a13_2)=>
 ob (qGj a13_0 a13_1 a13_2) fun a16=>
 some (a16))))))
def qK4 (x0 x1:LI) (x2:Int) (x3 x4:LL):Option (LI×LI×Int×LL×LL):=
 some (x0,x1,x2,x3,x4)
def qGi (x0:Int) (_x1 _x2:LI) (_x3:Int) (_x4 x5:LL):Option (Int×Int):=
 br (x0 != 0)
 (br (x0 != 1)
 (some (0,0))
 (br (inB x0 2)
 (some (headD (take 2 (getD x5 (Int.toNat x0) [])) 0,headD (tail (take 2 (getD x5 (Int.toNat x0) []))) 0))
 (none)))
 (br (inB x0 2)
 (some (headD (take 2 (getD x5 (Int.toNat x0) [])) 0,headD (tail (take 2 (getD x5 (Int.toNat x0) []))) 0))
 (none))
def qE3 (x0 x1:Int):Option (Bool):=
 some (x0==0&&x1==0)
def qCQ (x0 x1 x2:Int):Option (Bool):=
 ob (qEE x2) fun (a3_0,a3_1)=>
 ob (qC9 x0 x1 a3_0 a3_1) fun (a5_0,a5_1)=>
 ob (qE3 a5_0 a5_1) fun a7=>
 some (!a7)
def qHC:Option (Int×Int):=
 some (9223372036854775807,262143)
def qM3 (rec:Nat->Int->Int->Nat->LI->Option (Nat×Int×Int×Nat×LI)) (x0:Nat) (x1 x2:Int) (x3:Nat) (x4:LI):Option (Nat×Int×Int×Nat×LI):=
 br (x1 != 0)
 (ob (qFO x1) fun a7=>
 br (decide ((x0+1)*8<=140737488355328))
 (rec (x0+1) (qF BinOp.and .u64 x1 (wrap .u64 (x1 - 1))) x2 (x0+1) (List.append (take x0 x4) [a7]))
 (none))
 (some (x0,x1,x2,x3,x4))
def qI5:Nat->Nat->Int->Int->Nat->LI->Option (Nat×Int×Int×Nat×LI)
 | 0,_,_,_,_,_=>none
 | f+1,x0,x1,x2,x3,x4=>qM3 (qI5 f) x0 x1 x2 x3 x4
def qM4 (rec:Nat->Int->Int->Nat->LI->Option (Nat×Nat×LI)) (x0:Nat) (x1 x2:Int) (x3:Nat) (x4:LI):Option (Nat×Nat×LI):=
 br (x2 != 0)
 (ob (qFO x2) fun a12=>
 br (decide ((x0+1)*8<=140737488355328))
 (rec (x0+1) x1 (qF BinOp.and .u64 x2 (wrap .u64 (x2 - 1))) (x0+1) (List.append (take x0 x4) [wrap .i64 (63+a12)]))
 (none))
 (some (x0,x3,x4))
def qI6:Nat->Nat->Int->Int->Nat->LI->Option (Nat×Nat×LI)
 | 0,_,_,_,_,_=>none
 | f+1,x0,x1,x2,x3,x4=>qM4 (qI6 f) x0 x1 x2 x3 x4
def qE5 (x0 x1:Int):Option (Nat×Nat×LI):=
 ob (qI5 qB 0 x0 x1 0 []) fun (a2_0,a2_1,a2_2,a2_3,a2_4)=>
 ob (qI6 qB a2_0 a2_1 a2_2 a2_3 a2_4) fun (a7_0,a7_1,a7_2)=>
 some (a7_0,a7_1,a7_2)
def qss (self:Int->Option (Nat×Nat×LL)) (x0:Int):Option (Nat×Nat×LL):=
 br (x0==1)
 (some (1,1,[[0,-1]]))
 (br (x0==3)
 (some (2,2,[[-1,-2],[1,-2]]))
 (br (x0==4)
 (some (5,5,[[-1,-1],[0,-1],[1,-1],[-1,1],[1,1]]))
 (br (x0==5)
 (some (6,6,[[-1,-1],[0,-1],[1,-1],[-1,0],[1,0],[0,1]]))
 (br (x0==9)
 (some (6,6,[[-1,-1],[0,-1],[1,-1],[-1,0],[1,0],[0,1]]))
 (br (x0==10)
 (some (6,6,[[-1,-1],[0,-1],[1,-1],[-1,0],[1,0],[0,1]]))
 (br (x0==11)
 (some (6,6,[[-1,-1],[0,-1],[1,-1],[-1,0],[1,0],[0,1]]))
 (br (x0==12)
 (some (6,6,[[-1,-1],[0,-1],[1,-1],[-1,0],[1,0],[0,1]]))
 (br (x0==8)
 (ob (self 5) fun (a1_0,_,a1_2)=>
 br (decide ((a1_0+2)*16<=140737488355328))
 (some (a1_0+2,a1_0+2,List.append (take a1_0 a1_2) [[-1,1],[1,1]]))
 (none))
 (br (x0==14)
 (some (4,4,[[0,-1],[-1,0],[1,0],[0,1]]))
 (br (x0==15)
 (some (4,4,[[-1,-1],[1,-1],[-1,1],[1,1]]))
 (some (0,0,[]))))))))))))
def qHO:Nat->Int->Option (Nat×Nat×LL)
 | 0,_=>none
 | f+1,x0=>qss (qHO f) x0
def qGM (x0 x1 x2:Int):Option (Int×Int):=
 br (x2==1)
 (some (wrap .i64 (0 - x0),wrap .i64 (0 - x1)))
 (some (x0,x1))
def qHF (x0:Int):Option (Int):=
 some (wrap .i64 (Int.tdiv x0 9))
def qHN (x0 x1 x2:Int):Option (Int):=
 br (decide (x2<0))
 (some (-1))
 (br (decide (x2 >= 81))
 (some (-1))
 (br (decide (x0 < -8))
 (some (-1))
 (br (decide (x0>8))
 (some (-1))
 (br (decide (x1 < -8))
 (some (-1))
 (br (decide (x1>8))
 (some (-1))
 (ob (qHF x2) fun a3=>
 ob (qGK x2) fun a4=>
 ob (qDA (wrap .i64 (a3+x0)) (wrap .i64 (a4+x1))) fun a5=>
 some (a5)))))))
def qJA (rec:Int->Int->Nat->Int->Int->Int->Int->Int->Int->Nat->LL->Option (Int×Int×Int×Int)) (x0 x1:Int) (x2:Nat) (x3 x4:Int) (x5 x6:Int) (x7 x8:Int) (x9:Nat) (x10:LL):Option (Int×Int×Int×Int):=
 br (decide (x4<x3))
 (br (inB x4 x2)
 (ob (qAe x0) fun a17=>
 ob (qGM (headD (take 2 (getD x10 (Int.toNat x4) [])) 0) (headD (tail (take 2 (getD x10 (Int.toNat x4) []))) 0) a17) fun (a18_0,a18_1)=>
 ob (qHN a18_0 a18_1 x1) fun a20=>
 ob (qA1 x7 x8 a20) fun (a21_0,a21_1)=>
 rec x0 x1 x2 x3 (wrap .i64 (x4+1)) x5 x6 a21_0 a21_1 x9 x10)
 (none))
 (some (x5,x6,x7,x8))
def qGO:Nat->Int->Int->Nat->Int->Int->Int->Int->Int->Int->Nat->LL->Option (Int×Int×Int×Int)
 | 0,_,_,_,_,_,_,_,_,_,_,_=>none
 | f+1,x0,x1,x2,x3,x4,x5,x6,x7,x8,x9,x10=>qJA (qGO f) x0 x1 x2 x3 x4 x5 x6 x7 x8 x9 x10
def qKi (x0 x1:Int):Option (Int×Int):=
 ob (qAB x0) fun a2=>
 ob (qHO qB a2) fun (a3_0,a3_1,a3_2)=>
 ob (qGO qB x0 x1 a3_0 (Int.ofNat a3_0) 0 0 0 0 0 a3_1 a3_2) fun (_,_,a6_2,a6_3)=>
 some (a6_2,a6_3)
def qG2 (x0:Int):Option (Nat×Nat×LL):=
 br (x0==2)
 (some (1,1,[[0,-1]]))
 (br (x0==6)
 (some (4,4,[[-1,-1],[1,-1],[-1,1],[1,1]]))
 (br (x0==14)
 (some (4,4,[[-1,-1],[1,-1],[-1,1],[1,1]]))
 (br (x0==7)
 (some (4,4,[[0,-1],[-1,0],[1,0],[0,1]]))
 (br (x0==15)
 (some (4,4,[[0,-1],[-1,0],[1,0],[0,1]]))
 (some (0,0,[]))))))
def qIa (rec:Int->Int->Int->Int->Int->Int->Int->Int->Int->Option (Int×Int×Int×Int)) (x0 x1:Int) (x2 x3:Int) (x4 x5:Int) (x6 x7 x8:Int):Option (Int×Int×Int×Int):=
 br (decide (x0 >= 0))
 (ob (qA1 x7 x8 x0) fun (a15_0,a15_1)=>
 ob (qCQ x3 x4 x0) fun a17=>
 br (a17)
 (some (x5,x6,a15_0,a15_1))
 (ob (qHN x1 x2 x0) fun a18=>
 rec a18 x1 x2 x3 x4 x5 x6 a15_0 a15_1))
 (some (x5,x6,x7,x8))
def qG3:Nat->Int->Int->Int->Int->Int->Int->Int->Int->Int->Option (Int×Int×Int×Int)
 | 0,_,_,_,_,_,_,_,_,_=>none
 | f+1,x0,x1,x2,x3,x4,x5,x6,x7,x8=>qIa (qG3 f) x0 x1 x2 x3 x4 x5 x6 x7 x8
def qIZ (x0 x1:Int) (x2 x3 x4:Int):Option (Int×Int):=
 br (x1==0&&x2==0)
 (some (0,0))
 (ob (qHN x1 x2 x0) fun a5=>
 ob (qG3 qB a5 x1 x2 x3 x4 0 0 0 0) fun (_,_,a6_2,a6_3)=>
 some (a6_2,a6_3))
def qIY (rec:Int->Int->Nat->Int->Int->Int->Int->Int->Int->Int->Int->Nat->LL->Option (Int×Int×Int×Int)) (x0 x1:Int) (x2:Nat) (x3 x4:Int) (x5 x6:Int) (x7 x8:Int) (x9 x10:Int) (x11:Nat) (x12:LL):Option (Int×Int×Int×Int):=
 br (decide (x4<x3))
 (br (inB x4 x2)
 (ob (qAe x0) fun a23=>
 ob (qGM (headD (take 2 (getD x12 (Int.toNat x4) [])) 0) (headD (tail (take 2 (getD x12 (Int.toNat x4) []))) 0) a23) fun (a24_0,a24_1)=>
 ob (qIZ x1 a24_0 a24_1 x5 x6) fun (a26_0,a26_1)=>
 ob (qDX x9 x10 a26_0 a26_1) fun (a28_0,a28_1)=>
 rec x0 x1 x2 x3 (wrap .i64 (x4+1)) x5 x6 x7 x8 a28_0 a28_1 x11 x12)
 (none))
 (some (x7,x8,x9,x10))
def qFz:Nat->Int->Int->Nat->Int->Int->Int->Int->Int->Int->Int->Int->Nat->LL->Option (Int×Int×Int×Int)
 | 0,_,_,_,_,_,_,_,_,_,_,_,_,_=>none
 | f+1,x0,x1,x2,x3,x4,x5,x6,x7,x8,x9,x10,x11,x12=>qIY (qFz f) x0 x1 x2 x3 x4 x5 x6 x7 x8 x9 x10 x11 x12
def qFy (x0 x1:Int) (x2 x3:Int):Option (Int×Int):=
 ob (qKi x0 x1) fun (a4_0,a4_1)=>
 ob (qAB x0) fun a6=>
 ob (qG2 a6) fun (a7_0,a7_1,a7_2)=>
 ob (qFz qB x0 x1 a7_0 (Int.ofNat a7_0) 0 x2 x3 0 0 a4_0 a4_1 a7_1 a7_2) fun (_,_,a10_2,a10_3)=>
 some (a10_2,a10_3)
def qeP (rec:Int->Int->Int->Int->Int->Int->Option (Int×Int×Int×Int)) (x0 x1:Int) (x2 x3:Int) (x4 x5:Int):Option (Int×Int×Int×Int):=
 br (decide (x1<81))
 (ob (qGN x0 x1) fun a7=>
 br (decide (a7 >= 0))
 (br (decide (a7<=2))
 (ob (qA1 x4 x5 x1) fun (a8_0,a8_1)=>
 rec x0 (wrap .i64 (x1+1)) x2 x3 a8_0 a8_1)
 (rec x0 (wrap .i64 (x1+1)) x2 x3 x4 x5))
 (rec x0 (wrap .i64 (x1+1)) x2 x3 x4 x5))
 (some (x2,x3,x4,x5))
def qNJ:Nat->Int->Int->Int->Int->Int->Int->Option (Int×Int×Int×Int)
 | 0,_,_,_,_,_,_=>none
 | f+1,x0,x1,x2,x3,x4,x5=>qeP (qNJ f) x0 x1 x2 x3 x4 x5
def qKj (x0:Int):Option (Int×Int):=
 ob (qNJ qB x0 0 0 0 0 0) fun (_,_,a1_2,a1_3)=>
 some (a1_2,a1_3)
def qJu (x0 x1 x2:Int):Option (Bool×Bool):=
 ob (qAB x0) fun a3=>
 ob (qC6 a3) fun a4=>
 br (a4==0)
 (some (false,false))
 (ob (qAe x0) fun a5=>
 ob (qKj a5) fun (a6_0,a6_1)=>
 ob (qCQ a6_0 a6_1 x1) fun a8=>
 br (a8)
 (ob (qEI x0 x2) fun a9=>
 some (true,a9))
 (ob (qCQ a6_0 a6_1 x2) fun a9=>
 ob (qEI x0 x2) fun a10=>
 some (a9,a10)))
def qH2 (rec:Nat->Int->Int->Int->Nat->Int->Int->Nat->Int->Int->LI->LI->Int->LL->LL->Int->Int->Nat->LL->Int->Int->Nat->LI->Nat->LI->Option (Nat×Int×Nat×Int×Int×LI×LI×Int×LL×LL×Int×Int×Nat×LL×Int×Int×Nat×LI)) (x0:Nat) (x1 x2 x3:Int) (x4:Nat) (x5 x6:Int) (x7:Nat) (x8 x9:Int) (x10 x11:LI) (x12:Int) (x13 x14:LL) (x15 x16:Int) (x17:Nat) (x18:LL) (x19 x20:Int) (x21:Nat) (x22:LI) (x23:Nat) (x24:LI):Option (Nat×Int×Nat×Int×Int×LI×LI×Int×LL×LL×Int×Int×Nat×LL×Int×Int×Nat×LI):=
 br (decide (x9<x8))
 (br (inB x9 x7)
 (ob (qJu x3 x2 (getD x24 (Int.toNat x9) 0)) fun (a77_0,a77_1)=>
 br (!a77_1)
 (br (decide ((x0+1)*32<=140737488355328))
 (br (a77_0)
 (br (decide ((x0+1+1)*32<=140737488355328))
 (rec (x0+1+1) x1 x2 x3 x4 x5 x6 x7 x8 (wrap .i64 (x9+1)) x10 x11 x12 x13 x14 x15 x16 (x0+1+1) (List.append (take (x0+1) (List.append (take x0 x18) [[x2,getD x24 (Int.toNat x9) 0,0,0]])) [[x2,getD x24 (Int.toNat x9) 0,0,1]]) x19 x20 x21 x22 x23 x24)
 (none))
 (rec (x0+1) x1 x2 x3 x4 x5 x6 x7 x8 (wrap .i64 (x9+1)) x10 x11 x12 x13 x14 x15 x16 (x0+1) (List.append (take x0 x18) [[x2,getD x24 (Int.toNat x9) 0,0,0]]) x19 x20 x21 x22 x23 x24))
 (none))
 (br (a77_0)
 (br (decide ((x0+1)*32<=140737488355328))
 (rec (x0+1) x1 x2 x3 x4 x5 x6 x7 x8 (wrap .i64 (x9+1)) x10 x11 x12 x13 x14 x15 x16 (x0+1) (List.append (take x0 x18) [[x2,getD x24 (Int.toNat x9) 0,0,1]]) x19 x20 x21 x22 x23 x24)
 (none))
 (rec x0 x1 x2 x3 x4 x5 x6 x7 x8 (wrap .i64 (x9+1)) x10 x11 x12 x13 x14 x15 x16 x17 x18 x19 x20 x21 x22 x23 x24)))
 (none))
 (some (x0,x1,x4,x5,x6,x10,x11,x12,x13,x14,x15,x16,x17,x18,x19,x20,x21,x22))
def qFe:Nat->Nat->Int->Int->Int->Nat->Int->Int->Nat->Int->Int->LI->LI->Int->LL->LL->Int->Int->Nat->LL->Int->Int->Nat->LI->Nat->LI->Option (Nat×Int×Nat×Int×Int×LI×LI×Int×LL×LL×Int×Int×Nat×LL×Int×Int×Nat×LI)
 | 0,_,_,_,_,_,_,_,_,_,_,_,_,_,_,_,_,_,_,_,_,_,_,_,_,_=>none
 | f+1,x0,x1,x2,x3,x4,x5,x6,x7,x8,x9,x10,x11,x12,x13,x14,x15,x16,x17,x18,x19,x20,x21,x22,x23,x24=>qH2 (qFe f) x0 x1 x2 x3 x4 x5 x6 x7 x8 x9 x10 x11 x12 x13 x14 x15 x16 x17 x18 x19 x20 x21 x22 x23 x24
def qH1 (rec:Nat->Int->Nat->Int->Int->LI->LI->Int->LL->LL->Int->Int->Nat->LL->Int->Int->Nat->LI->Option (Nat×LI×LI×Int×LL×LL×Nat×LL)) (x0:Nat) (x1:Int) (x2:Nat) (x3 x4:Int) (x5 x6:LI) (x7:Int) (x8 x9:LL) (x10 x11:Int) (x12:Nat) (x13:LL) (x14 x15:Int) (x16:Nat) (x17:LI):Option (Nat×LI×LI×Int×LL×LL×Nat×LL):=
 br (decide (x4<x3))
 (br (inB x4 x2)
 (ob (qAi (getD x17 (Int.toNat x4) 0) x5 x6 x7 x8 x9) fun a36=>
 ob (qDI x5 x6 x7 x8 x9) fun (a37_0,a37_1)=>
 ob (qFy a36 (getD x17 (Int.toNat x4) 0) a37_0 a37_1) fun (a39_0,a39_1)=>
 ob (qGi x1 x5 x6 x7 x8 x9) fun (a41_0,a41_1)=>
 ob (qE4 a39_0 a39_1 a41_0 a41_1) fun (a43_0,a43_1)=>
 ob (qE4 a43_0 a43_1 x14 x15) fun (a45_0,a45_1)=>
 ob (qC9 a45_0 a45_1 x10 x11) fun (a47_0,a47_1)=>
 ob (qE5 a47_0 a47_1) fun (a49_0,a49_1,a49_2)=>
 ob (qFe qB x0 x1 (getD x17 (Int.toNat x4) 0) a36 x2 x3 x4 a49_0 (Int.ofNat a49_0) 0 x5 x6 x7 x8 x9 x10 x11 x12 x13 x14 x15 x16 x17 a49_1 a49_2) fun (a52_0,a52_1,a52_2,a52_3,a52_4,a52_5,a52_6,a52_7,a52_8,a52_9,a52_10,a52_11,a52_12,a52_13,a52_14,a52_15,a52_16,a52_17)=>
 rec a52_0 a52_1 a52_2 a52_3 (wrap .i64 (a52_4+1)) a52_5 a52_6 a52_7 a52_8 a52_9 a52_10 a52_11 a52_12 a52_13 a52_14 a52_15 a52_16 a52_17)
 (none))
 (some (x0,x5,x6,x7,x8,x9,x12,x13))
def qFd:Nat->Nat->Int->Nat->Int->Int->LI->LI->Int->LL->LL->Int->Int->Nat->LL->Int->Int->Nat->LI->Option (Nat×LI×LI×Int×LL×LL×Nat×LL)
 | 0,_,_,_,_,_,_,_,_,_,_,_,_,_,_,_,_,_,_=>none
 | f+1,x0,x1,x2,x3,x4,x5,x6,x7,x8,x9,x10,x11,x12,x13,x14,x15,x16,x17=>qH1 (qFd f) x0 x1 x2 x3 x4 x5 x6 x7 x8 x9 x10 x11 x12 x13 x14 x15 x16 x17
def qHz (x0 x1:Int) (x2 x3:LI) (x4:Int) (x5 x6:LL):Option (Nat×Nat×LL):=
 ob (qDH 0 8 x2 x3 x4 x5 x6) fun (a7_0,a7_1)=>
 ob (qDH 1 8 x2 x3 x4 x5 x6) fun (a9_0,a9_1)=>
 ob (qDX a7_0 a7_1 a9_0 a9_1) fun (a11_0,a11_1)=>
 ob (qGi x4 x2 x3 x4 x5 x6) fun (a13_0,a13_1)=>
 ob (qE5 a13_0 a13_1) fun (a15_0,a15_1,a15_2)=>
 ob (qFd qB 0 x4 a15_0 (Int.ofNat a15_0) 0 x2 x3 x4 x5 x6 x0 x1 0 [] a11_0 a11_1 a15_1 a15_2) fun (a18_0,_,_,_,_,_,a18_6,a18_7)=>
 some (a18_0,a18_6,a18_7)
def qKc (x0 x1:Int):Option (Int×Int):=
 ob (qHC ) fun (a2_0,a2_1)=>
 ob (qE4 a2_0 a2_1 x0 x1) fun (a4_0,a4_1)=>
 some (a4_0,a4_1)
def qH6 (rec:Int->Int->Int->Nat->Int->Int->LI->LI->Int->LL->LL->Int->Int->Int->Int->Nat->LI->Option (LI×LI×Int×LL×LL×Int×Int×Int×Int)) (x0 x1 x2:Int) (x3:Nat) (x4 x5:Int) (x6 x7:LI) (x8:Int) (x9 x10:LL) (x11 x12:Int) (x13 x14:Int) (x15:Nat) (x16:LI):Option (LI×LI×Int×LL×LL×Int×Int×Int×Int):=
 br (decide (x5<x4))
 (br (inB x5 x3)
 (ob (qEI x2 (getD x16 (Int.toNat x5) 0)) fun a32=>
 br (a32)
 (rec x0 x1 x2 x3 x4 (wrap .i64 (x5+1)) x6 x7 x8 x9 x10 x11 x12 x13 x14 x15 x16)
 (br (x1==1)
 (ob (qDH x0 1 x6 x7 x8 x9 x10) fun (a33_0,a33_1)=>
 ob (qHF (getD x16 (Int.toNat x5) 0)) fun a35=>
 ob (qI0 a35) fun (a36_0,a36_1)=>
 ob (qC9 a33_0 a33_1 a36_0 a36_1) fun (a38_0,a38_1)=>
 ob (qE3 a38_0 a38_1) fun a40=>
 br (!a40)
 (rec x0 x1 x2 x3 x4 (wrap .i64 (x5+1)) x6 x7 x8 x9 x10 x11 x12 x13 x14 x15 x16)
 (ob (qA1 x13 x14 (getD x16 (Int.toNat x5) 0)) fun (a41_0,a41_1)=>
 rec x0 x1 x2 x3 x4 (wrap .i64 (x5+1)) x6 x7 x8 x9 x10 x11 x12 a41_0 a41_1 x15 x16))
 (ob (qA1 x13 x14 (getD x16 (Int.toNat x5) 0)) fun (a33_0,a33_1)=>
 rec x0 x1 x2 x3 x4 (wrap .i64 (x5+1)) x6 x7 x8 x9 x10 x11 x12 a33_0 a33_1 x15 x16)))
 (none))
 (some (x6,x7,x8,x9,x10,x11,x12,x13,x14))
def qDs:Nat->Int->Int->Int->Nat->Int->Int->LI->LI->Int->LL->LL->Int->Int->Int->Int->Nat->LI->Option (LI×LI×Int×LL×LL×Int×Int×Int×Int)
 | 0,_,_,_,_,_,_,_,_,_,_,_,_,_,_,_,_,_=>none
 | f+1,x0,x1,x2,x3,x4,x5,x6,x7,x8,x9,x10,x11,x12,x13,x14,x15,x16=>qH6 (qDs f) x0 x1 x2 x3 x4 x5 x6 x7 x8 x9 x10 x11 x12 x13 x14 x15 x16
def qJt (x0 x1:Int) (x2 x3:LI) (x4:Int) (x5 x6:LL):Option (Int×Int):=
 ob (qAz x0 x1) fun a7=>
 br (a7==0)
 (some (0,0))
 (br (decide (x1 >= 8))
 (some (0,0))
 (ob (qDI x2 x3 x4 x5 x6) fun (a8_0,a8_1)=>
 ob (qKc a8_0 a8_1) fun (a10_0,a10_1)=>
 ob (qE5 a10_0 a10_1) fun (a12_0,a12_1,a12_2)=>
 ob (qDs qB x0 x1 a7 a12_0 (Int.ofNat a12_0) 0 x2 x3 x4 x5 x6 0 0 0 0 a12_1 a12_2) fun (_,_,_,_,_,_,_,a15_7,a15_8)=>
 some (a15_7,a15_8)))
def qH5 (rec:Nat->Int->Int->Nat->Int->Int->LI->LI->Int->LL->LL->Int->Int->Nat->LL->Nat->LI->Option (Nat×Int×Int×LI×LI×Int×LL×LL×Int×Int×Nat×LL)) (x0:Nat) (x1 x2:Int) (x3:Nat) (x4 x5:Int) (x6 x7:LI) (x8:Int) (x9 x10:LL) (x11 x12:Int) (x13:Nat) (x14:LL) (x15:Nat) (x16:LI):Option (Nat×Int×Int×LI×LI×Int×LL×LL×Int×Int×Nat×LL):=
 br (decide (x5<x4))
 (br (inB x5 x3)
 (br (decide ((x0+1)*32<=140737488355328))
 (rec (x0+1) x1 x2 x3 x4 (wrap .i64 (x5+1)) x6 x7 x8 x9 x10 x11 x12 (x0+1) (List.append (take x0 x14) [[0,getD x16 (Int.toNat x5) 0,x2,0]]) x15 x16)
 (none))
 (none))
 (some (x0,x1,x2,x6,x7,x8,x9,x10,x11,x12,x13,x14))
def qFg:Nat->Nat->Int->Int->Nat->Int->Int->LI->LI->Int->LL->LL->Int->Int->Nat->LL->Nat->LI->Option (Nat×Int×Int×LI×LI×Int×LL×LL×Int×Int×Nat×LL)
 | 0,_,_,_,_,_,_,_,_,_,_,_,_,_,_,_,_,_=>none
 | f+1,x0,x1,x2,x3,x4,x5,x6,x7,x8,x9,x10,x11,x12,x13,x14,x15,x16=>qH5 (qFg f) x0 x1 x2 x3 x4 x5 x6 x7 x8 x9 x10 x11 x12 x13 x14 x15 x16
def qH4 (rec:Nat->Int->Int->LI->LI->Int->LL->LL->Int->Int->Nat->LL->Option (Nat×LI×LI×Int×LL×LL×Nat×LL)) (x0:Nat) (x1 x2:Int) (x3 x4:LI) (x5:Int) (x6 x7:LL) (x8 x9:Int) (x10:Nat) (x11:LL):Option (Nat×LI×LI×Int×LL×LL×Nat×LL):=
 br (decide (x2<8))
 (ob (qCv x1 x2 x3 x4 x5 x6 x7) fun a19=>
 br (decide (a19<1))
 (rec x0 x1 (wrap .i64 (x2+1)) x3 x4 x5 x6 x7 x8 x9 x10 x11)
 (ob (qJt x1 x2 x3 x4 x5 x6 x7) fun (a20_0,a20_1)=>
 ob (qC9 a20_0 a20_1 x8 x9) fun (a22_0,a22_1)=>
 ob (qE5 a22_0 a22_1) fun (a24_0,a24_1,a24_2)=>
 ob (qFg qB x0 x1 x2 a24_0 (Int.ofNat a24_0) 0 x3 x4 x5 x6 x7 x8 x9 x10 x11 a24_1 a24_2) fun (a27_0,a27_1,a27_2,a27_3,a27_4,a27_5,a27_6,a27_7,a27_8,a27_9,a27_10,a27_11)=>
 rec a27_0 a27_1 (wrap .i64 (a27_2+1)) a27_3 a27_4 a27_5 a27_6 a27_7 a27_8 a27_9 a27_10 a27_11))
 (some (x0,x3,x4,x5,x6,x7,x10,x11))
def qFf:Nat->Nat->Int->Int->LI->LI->Int->LL->LL->Int->Int->Nat->LL->Option (Nat×LI×LI×Int×LL×LL×Nat×LL)
 | 0,_,_,_,_,_,_,_,_,_,_,_,_=>none
 | f+1,x0,x1,x2,x3,x4,x5,x6,x7,x8,x9,x10,x11=>qH4 (qFf f) x0 x1 x2 x3 x4 x5 x6 x7 x8 x9 x10 x11
def qJs (x0 x1:Int) (x2 x3:LI) (x4:Int) (x5 x6:LL):Option (Nat×Nat×LL):=
 ob (qFf qB 0 x4 1 x2 x3 x4 x5 x6 x0 x1 0 []) fun (a7_0,_,_,_,_,_,a7_6,a7_7)=>
 some (a7_0,a7_6,a7_7)
def qEo (x0:Int):Option (Int):=
 br (decide (x0 >= 1))
 (br (decide (x0<=7))
 (br (x0 != 5)
 (some (wrap .i64 (x0+8)))
 (some (0)))
 (some (0)))
 (some (0))
def qKM (x0 x1 x2:Int):Option (Bool):=
 ob (qAP x0) fun a3=>
 ob (qEo a3) fun a4=>
 br (a4==0)
 (some (false))
 (ob (qA9 x0) fun a5=>
 ob (qDT a5 x1) fun a6=>
 ob (qA9 x0) fun a7=>
 ob (qDT a7 x2) fun a8=>
 br (decide (a6 >= 0))
 (br (decide (a6<=2))
 (some (true))
 (br (decide (a8 >= 0))
 (some (decide (a8<=2)))
 (some (false))))
 (br (decide (a8 >= 0))
 (some (decide (a8<=2)))
 (some (false))))
def qKN (x0 x1:Int):Option (Bool):=
 ob (qAP x0) fun a2=>
 ob (qEo a2) fun a3=>
 br (a3 != 0)
 (ob (qDS x0 x1) fun a4=>
 some (a4))
 (some (false))
def qKI (x0 x1 x2:Int) (x3:Bool):Option (Int):=
 br (decide (x1<0))
 (some (1))
 (br (decide (x1>80))
 (some (1))
 (br (x2 != 0)
 (br (decide (x2<1))
 (some (70))
 (br (decide (x2>7))
 (some (70))
 (br (x0 != 0)
 (some (70))
 (br (x3)
 (some (70))
 (some (0))))))
 (br (decide (x0<0))
 (some (1))
 (br (decide (x0>80))
 (some (1))
 (br (x0==x1)
 (some (70))
 (some (0)))))))
def qKK (x0 x1:LI) (x2 x3:Int) (x4 x5:Int) (x6:Bool):Option (Bool):=
 ob (qKI x3 x4 x5 x6) fun a7=>
 br (a7 != 0)
 (some (false))
 (br (x2 != 0)
 (br (x2 != 1)
 (some (false))
 (br (inB x4 81)
 (br (x5 != 0)
 (br (inB x2 2)
 (br (inB x5 8)
 (br (decide (getD x1 (Int.toNat x2*8+Int.toNat x5) 0>0))
 (some (conv .i8 .i64 (getD x0 (Int.toNat x4) 0)==0))
 (some (false)))
 (none))
 (none))
 (br (inB x3 81)
 (ob (qA9 (conv .i8 .i64 (getD x0 (Int.toNat x3) 0))) fun a8=>
 br (a8 != x2)
 (some (false))
 (ob (qA9 (conv .i8 .i64 (getD x0 (Int.toNat x4) 0))) fun a9=>
 br (a9==x2)
 (some (false))
 (ob (qAP (conv .i8 .i64 (getD x0 (Int.toNat x4) 0))) fun a10=>
 br (a10==8)
 (some (false))
 (br (!x6)
 (some (true))
 (ob (qAP (conv .i8 .i64 (getD x0 (Int.toNat x3) 0))) fun a11=>
 ob (qEo a11) fun a12=>
 some (a12 != 0))))))
 (none)))
 (none)))
 (br (inB x4 81)
 (br (x5 != 0)
 (br (inB x2 2)
 (br (inB x5 8)
 (br (decide (getD x1 (Int.toNat x2*8+Int.toNat x5) 0>0))
 (some (conv .i8 .i64 (getD x0 (Int.toNat x4) 0)==0))
 (some (false)))
 (none))
 (none))
 (br (inB x3 81)
 (ob (qA9 (conv .i8 .i64 (getD x0 (Int.toNat x3) 0))) fun a8=>
 br (a8 != x2)
 (some (false))
 (ob (qA9 (conv .i8 .i64 (getD x0 (Int.toNat x4) 0))) fun a9=>
 br (a9==x2)
 (some (false))
 (ob (qAP (conv .i8 .i64 (getD x0 (Int.toNat x4) 0))) fun a10=>
 br (a10==8)
 (some (false))
 (br (!x6)
 (some (true))
 (ob (qAP (conv .i8 .i64 (getD x0 (Int.toNat x3) 0))) fun a11=>
 ob (qEo a11) fun a12=>
 some (a12 != 0))))))
 (none)))
 (none)))
def qIh (rec:Int->LI->LI->Int->List Bool->List Bool->Option (List Bool×List Bool)) (x0:Int) (x1 x2:LI) (x3:Int) (x4 x5:List Bool):Option (List Bool×List Bool):=
 br (decide (x0<81))
 (br (inB x0 81)
 (br (inB x0 81)
 (rec (wrap .i64 (x0+1)) x1 x2 x3 x4 (List.set x5 (Int.toNat x0) (getD x1 (Int.toNat x0) 0 != 0)))
 (none))
 (none))
 (some (x4,x5))
def qEw:Nat->Int->LI->LI->Int->List Bool->List Bool->Option (List Bool×List Bool)
 | 0,_,_,_,_,_,_=>none
 | f+1,x0,x1,x2,x3,x4,x5=>qIh (qEw f) x0 x1 x2 x3 x4 x5
def qEv (x0 x1:LI) (x2:Int):Option (List Bool):=
 ob (qEw qB 0 x0 x1 x2 ([false,false,false,false,false,false,false,false,false,false,false,false,false,false,false,false,false,false,false,false,false,false,false,false,false,false,false,false,false,false,false,false,false,false,false,false,false,false,false,false,false,false,false,false,false,false,false,false,false,false,false,false,false,false,false,false,false,false,false,false,false,false,false,false,false,false,false,false,false,false,false,false,false,false,false,false,false,false,false,false,false]) ([false,false,false,false,false,false,false,false,false,false,false,false,false,false,false,false,false,false,false,false,false,false,false,false,false,false,false,false,false,false,false,false,false,false,false,false,false,false,false,false,false,false,false,false,false,false,false,false,false,false,false,false,false,false,false,false,false,false,false,false,false,false,false,false,false,false,false,false,false,false,false,false,false,false,false,false,false,false,false,false,false])) fun (_,a3_1)=>
 some (a3_1)
def qF1 (x0:Int):Option (Int):=
 br (decide (x0<0))
 (some (wrap .i64 (0 - x0)))
 (some (x0))
def qKE (x0 x1 x2:Int):Option (Bool):=
 br (decide (x1<0))
 (some (false))
 (br (decide (x1>80))
 (some (false))
 (br (decide (x2<0))
 (some (false))
 (br (decide (x2>80))
 (some (false))
 (br (x1==x2)
 (some (false))
 (ob (qF1 (wrap .i64 (wrap .i64 (Int.tdiv x2 9) - wrap .i64 (Int.tdiv x1 9)))) fun a3=>
 ob (qA9 x0) fun a4=>
 br (a4==1)
 (br (decide (a3<=1))
 (ob (qF1 (wrap .i64 (0 - wrap .i64 (Int.tmod x1 9 - Int.tmod x2 9)))) fun a5=>
 ob (qAP x0) fun a6=>
 br (a6==1)
 (br (a3==0)
 (some (wrap .i64 (0 - wrap .i64 (Int.tmod x1 9 - Int.tmod x2 9))==1))
 (some (false)))
 (br (a6==3)
 (br (a3==1)
 (some (wrap .i64 (0 - wrap .i64 (Int.tmod x1 9 - Int.tmod x2 9))==2))
 (some (false)))
 (br (a6==4)
 (br (decide (a5<=1))
 (br (wrap .i64 (0 - wrap .i64 (Int.tmod x1 9 - Int.tmod x2 9))==1)
 (some (true))
 (br (a3==1)
 (some (wrap .i64 (0 - wrap .i64 (Int.tmod x1 9 - Int.tmod x2 9)) == -1))
 (some (false))))
 (some (false)))
 (br (a6==5)
 (br (decide (a5<=1))
 (br (decide (wrap .i64 (0 - wrap .i64 (Int.tmod x1 9 - Int.tmod x2 9)) >= 0))
 (some (true))
 (some (a3==0)))
 (some (false)))
 (br (a6==9)
 (br (decide (a5<=1))
 (br (decide (wrap .i64 (0 - wrap .i64 (Int.tmod x1 9 - Int.tmod x2 9)) >= 0))
 (some (true))
 (some (a3==0)))
 (some (false)))
 (br (a6==10)
 (br (decide (a5<=1))
 (br (decide (wrap .i64 (0 - wrap .i64 (Int.tmod x1 9 - Int.tmod x2 9)) >= 0))
 (some (true))
 (some (a3==0)))
 (some (false)))
 (br (a6==11)
 (br (decide (a5<=1))
 (br (decide (wrap .i64 (0 - wrap .i64 (Int.tmod x1 9 - Int.tmod x2 9)) >= 0))
 (some (true))
 (some (a3==0)))
 (some (false)))
 (br (a6==12)
 (br (decide (a5<=1))
 (br (decide (wrap .i64 (0 - wrap .i64 (Int.tmod x1 9 - Int.tmod x2 9)) >= 0))
 (some (true))
 (some (a3==0)))
 (some (false)))
 (br (a6==8)
 (some (decide (a5<=1)))
 (br (a6==14)
 (br (decide (a5<=1))
 (br (a3==0)
 (some (true))
 (some (wrap .i64 (0 - wrap .i64 (Int.tmod x1 9 - Int.tmod x2 9))==0)))
 (some (false)))
 (br (a6==15)
 (br (decide (a5<=1))
 (br (a3==1)
 (some (wrap .i64 (0 - wrap .i64 (Int.tmod x1 9 - Int.tmod x2 9)) != 0))
 (some (false)))
 (some (false)))
 (some (false)))))))))))))
 (ob (qAP x0) fun a5=>
 br (a5==1)
 (br (a3==0)
 (some (wrap .i64 (0 - wrap .i64 (Int.tmod x1 9 - Int.tmod x2 9))==1))
 (some (false)))
 (br (a5==3)
 (br (a3==1)
 (some (wrap .i64 (0 - wrap .i64 (Int.tmod x1 9 - Int.tmod x2 9))==2))
 (some (false)))
 (br (a5==4)
 (some (false))
 (br (a5==5)
 (some (false))
 (br (a5==9)
 (some (false))
 (br (a5==10)
 (some (false))
 (br (a5==11)
 (some (false))
 (br (a5==12)
 (some (false))
 (br (a5==8)
 (some (false))
 (br (a5==14)
 (some (false))
 (br (a5==15)
 (some (false))
 (some (false))))))))))))))
 (br (decide (a3<=1))
 (ob (qF1 (wrap .i64 (Int.tmod x1 9 - Int.tmod x2 9))) fun a5=>
 ob (qAP x0) fun a6=>
 br (a6==1)
 (br (a3==0)
 (some (wrap .i64 (Int.tmod x1 9 - Int.tmod x2 9)==1))
 (some (false)))
 (br (a6==3)
 (br (a3==1)
 (some (wrap .i64 (Int.tmod x1 9 - Int.tmod x2 9)==2))
 (some (false)))
 (br (a6==4)
 (br (decide (a5<=1))
 (br (wrap .i64 (Int.tmod x1 9 - Int.tmod x2 9)==1)
 (some (true))
 (br (a3==1)
 (some (wrap .i64 (Int.tmod x1 9 - Int.tmod x2 9) == -1))
 (some (false))))
 (some (false)))
 (br (a6==5)
 (br (decide (a5<=1))
 (br (decide (wrap .i64 (Int.tmod x1 9 - Int.tmod x2 9) >= 0))
 (some (true))
 (some (a3==0)))
 (some (false)))
 (br (a6==9)
 (br (decide (a5<=1))
 (br (decide (wrap .i64 (Int.tmod x1 9 - Int.tmod x2 9) >= 0))
 (some (true))
 (some (a3==0)))
 (some (false)))
 (br (a6==10)
 (br (decide (a5<=1))
 (br (decide (wrap .i64 (Int.tmod x1 9 - Int.tmod x2 9) >= 0))
 (some (true))
 (some (a3==0)))
 (some (false)))
 (br (a6==11)
 (br (decide (a5<=1))
 (br (decide (wrap .i64 (Int.tmod x1 9 - Int.tmod x2 9) >= 0))
 (some (true))
 (some (a3==0)))
 (some (false)))
 (br (a6==12)
 (br (decide (a5<=1))
 (br (decide (wrap .i64 (Int.tmod x1 9 - Int.tmod x2 9) >= 0))
 (some (true))
 (some (a3==0)))
 (some (false)))
 (br (a6==8)
 (some (decide (a5<=1)))
 (br (a6==14)
 (br (decide (a5<=1))
 (br (a3==0)
 (some (true))
 (some (wrap .i64 (Int.tmod x1 9 - Int.tmod x2 9)==0)))
 (some (false)))
 (br (a6==15)
 (br (decide (a5<=1))
 (br (a3==1)
 (some (wrap .i64 (Int.tmod x1 9 - Int.tmod x2 9) != 0))
 (some (false)))
 (some (false)))
 (some (false)))))))))))))
 (ob (qAP x0) fun a5=>
 br (a5==1)
 (br (a3==0)
 (some (wrap .i64 (Int.tmod x1 9 - Int.tmod x2 9)==1))
 (some (false)))
 (br (a5==3)
 (br (a3==1)
 (some (wrap .i64 (Int.tmod x1 9 - Int.tmod x2 9)==2))
 (some (false)))
 (br (a5==4)
 (some (false))
 (br (a5==5)
 (some (false))
 (br (a5==9)
 (some (false))
 (br (a5==10)
 (some (false))
 (br (a5==11)
 (some (false))
 (br (a5==12)
 (some (false))
 (br (a5==8)
 (some (false))
 (br (a5==14)
 (some (false))
 (br (a5==15)
 (some (false))
 (some (false)))))))))))))))))))
def qIe (x0 x1:Int):Option (Int):=
 br (decide (x0<0))
 (some (0))
 (br (decide (x0>80))
 (some (0))
 (br (decide (x1<0))
 (some (0))
 (br (decide (x1>80))
 (some (0))
 (br (x0==x1)
 (some (0))
 (br (wrap .i64 (wrap .i64 (Int.tdiv x1 9) - wrap .i64 (Int.tdiv x0 9))==0)
 (some (1))
 (br (wrap .i64 (Int.tmod x1 9 - Int.tmod x0 9)==0)
 (some (1))
 (br (wrap .i64 (wrap .i64 (Int.tdiv x1 9) - wrap .i64 (Int.tdiv x0 9))==wrap .i64 (Int.tmod x1 9 - Int.tmod x0 9))
 (some (2))
 (br (wrap .i64 (wrap .i64 (Int.tdiv x1 9) - wrap .i64 (Int.tdiv x0 9))==wrap .i64 (0 - wrap .i64 (Int.tmod x1 9 - Int.tmod x0 9)))
 (some (2))
 (some (0))))))))))
def qIf (x0:Int):Option (Int):=
 br (decide (x0<0))
 (some (-1))
 (br (decide (x0>0))
 (some (1))
 (some (0)))
def qIc (rec:Int->Nat->Int->Int->Nat->LI->Option (Nat×Nat×LI)) (x0:Int) (x1:Nat) (x2 x3:Int) (x4:Nat) (x5:LI):Option (Nat×Nat×LI):=
 br (x3 != x0)
 (br (decide ((x1+1)*8<=140737488355328))
 (rec x0 (x1+1) x2 (wrap .i64 (x3+x2)) (x1+1) (List.append (take x1 x5) [x3]))
 (none))
 (some (x1,x4,x5))
def qF2:Nat->Int->Nat->Int->Int->Nat->LI->Option (Nat×Nat×LI)
 | 0,_,_,_,_,_,_=>none
 | f+1,x0,x1,x2,x3,x4,x5=>qIc (qF2 f) x0 x1 x2 x3 x4 x5
def qKF (x0 x1:Int):Option (Nat×Nat×LI):=
 ob (qIe x0 x1) fun a2=>
 br (a2==0)
 (some (0,0,[]))
 (ob (qIf (wrap .i64 (wrap .i64 (Int.tdiv x1 9) - wrap .i64 (Int.tdiv x0 9)))) fun a3=>
 ob (qIf (wrap .i64 (Int.tmod x1 9 - Int.tmod x0 9))) fun a4=>
 ob (qF2 qB x1 0 (wrap .i64 (wrap .i64 (9*a3)+a4)) (wrap .i64 (x0+wrap .i64 (wrap .i64 (9*a3)+a4))) 0 []) fun (a5_0,a5_1,a5_2)=>
 some (a5_0,a5_1,a5_2))
def qId (rec:Nat->Int->List Bool->Nat->LI->Option ((Bool)⊕(Unit))) (x0:Nat) (x1:Int) (x2:List Bool) (x3:Nat) (x4:LI):Option ((Bool)⊕(Unit)):=
 br (decide (x1<Int.ofNat x0))
 (br (inB x1 x0)
 (br (inB (getD x4 (Int.toNat x1) 0) 81)
 (br (getD x2 (Int.toNat (getD x4 (Int.toNat x1) 0)) false)
 (some (.inl (false)))
 (rec x0 (wrap .i64 (x1+1)) x2 x3 x4))
 (none))
 (none))
 (some (.inr ()))
def qF3:Nat->Nat->Int->List Bool->Nat->LI->Option ((Bool)⊕(Unit))
 | 0,_,_,_,_,_=>none
 | f+1,x0,x1,x2,x3,x4=>qId (qF3 f) x0 x1 x2 x3 x4
def qAt (x0 x1:Int) (x2:List Bool):Option (Bool):=
 ob (qKF x0 x1) fun (a3_0,a3_1,a3_2)=>
 ob (qF3 qB a3_0 0 x2 a3_1 a3_2) fun t6_2=>
 sw t6_2 (fun a6=>
 some (a6))
 (fun _=>
 some (true))
def qF4 (x0 x1 x2:Int) (x3:List Bool):Option (Bool):=
 ob (qKE x0 x1 x2) fun a4=>
 br (a4)
 (some (true))
 (ob (qIe x1 x2) fun a5=>
 ob (qA9 x0) fun a6=>
 br (a6==1)
 (ob (qAP x0) fun a7=>
 br (a7==2)
 (br (a5==1)
 (br (wrap .i64 (Int.tdiv x1 9)==wrap .i64 (Int.tdiv x2 9))
 (br (decide (wrap .i64 (0 - wrap .i64 (Int.tmod x1 9 - Int.tmod x2 9))>0))
 (ob (qAt x1 x2 x3) fun a8=>
 some (a8))
 (some (false)))
 (some (false)))
 (some (false)))
 (br (a7==6)
 (br (a5==2)
 (ob (qAt x1 x2 x3) fun a8=>
 some (a8))
 (some (false)))
 (br (a7==14)
 (br (a5==2)
 (ob (qAt x1 x2 x3) fun a8=>
 some (a8))
 (some (false)))
 (br (a7==7)
 (br (a5==1)
 (ob (qAt x1 x2 x3) fun a8=>
 some (a8))
 (some (false)))
 (br (a7==15)
 (br (a5==1)
 (ob (qAt x1 x2 x3) fun a8=>
 some (a8))
 (some (false)))
 (some (false)))))))
 (ob (qAP x0) fun a7=>
 br (a7==2)
 (br (a5==1)
 (br (wrap .i64 (Int.tdiv x1 9)==wrap .i64 (Int.tdiv x2 9))
 (br (decide (wrap .i64 (Int.tmod x1 9 - Int.tmod x2 9)>0))
 (ob (qAt x1 x2 x3) fun a8=>
 some (a8))
 (some (false)))
 (some (false)))
 (some (false)))
 (br (a7==6)
 (br (a5==2)
 (ob (qAt x1 x2 x3) fun a8=>
 some (a8))
 (some (false)))
 (br (a7==14)
 (br (a5==2)
 (ob (qAt x1 x2 x3) fun a8=>
 some (a8))
 (some (false)))
 (br (a7==7)
 (br (a5==1)
 (ob (qAt x1 x2 x3) fun a8=>
 some (a8))
 (some (false)))
 (br (a7==15)
 (br (a5==1)
 (ob (qAt x1 x2 x3) fun a8=>
 some (a8))
 (some (false)))
 (some (false))))))))
def qGA (x0 x1:LI) (x2 x3:Int) (x4 x5:Int) (x6:Bool):Option (Bool):=
 ob (qKK x0 x1 x2 x3 x4 x5 x6) fun a7=>
 br (!a7)
 (some (false))
 (br (x5 != 0)
 (ob (qDS (wrap .i64 (wrap .i64 (16*x2)+x5)) x4) fun a8=>
 br (!a8)
 (br (x5 != 1)
 (some (true))
 (ob (qD4 x0 x1 x2 (wrap .i64 (wrap .i64 (16*x2)+x5)) (wrap .i64 (Int.tdiv x4 9))) fun a9=>
 some (a9==0)))
 (some (false)))
 (br (inB x3 81)
 (ob (qEv x0 x1 x2) fun a8=>
 ob (qF4 (conv .i8 .i64 (getD x0 (Int.toNat x3) 0)) x3 x4 a8) fun a9=>
 br (!a9)
 (some (false))
 (br (x6)
 (ob (qKM (conv .i8 .i64 (getD x0 (Int.toNat x3) 0)) x3 x4) fun a10=>
 some (a10))
 (ob (qKN (conv .i8 .i64 (getD x0 (Int.toNat x3) 0)) x4) fun a10=>
 some (!a10))))
 (none)))
def qIm (rec:Nat->Int->Int->LI->LI->Int->Nat->LL->List Bool->Option (Nat×Int×LI×LI×Int×Nat×LL×List Bool)) (x0:Nat) (x1 x2:Int) (x3 x4:LI) (x5:Int) (x6:Nat) (x7:LL) (x8:List Bool):Option (Nat×Int×LI×LI×Int×Nat×LL×List Bool):=
 br (decide (x2<81))
 (br (inB x1 81)
 (ob (qF4 (conv .i8 .i64 (getD x3 (Int.toNat x1) 0)) x1 x2 x8) fun a22=>
 br (!a22)
 (rec x0 x1 (wrap .i64 (x2+1)) x3 x4 x5 x6 x7 x8)
 (ob (qGA x3 x4 x5 x1 x2 0 false) fun a23=>
 br (a23)
 (br (decide ((x0+1)*32<=140737488355328))
 (ob (qGA x3 x4 x5 x1 x2 0 true) fun a24=>
 br (a24)
 (br (decide ((x0+1+1)*32<=140737488355328))
 (rec (x0+1+1) x1 (wrap .i64 (x2+1)) x3 x4 x5 (x0+1+1) (List.append (take (x0+1) (List.append (take x0 x7) [[x1,x2,0,0]])) [[x1,x2,0,1]]) x8)
 (none))
 (rec (x0+1) x1 (wrap .i64 (x2+1)) x3 x4 x5 (x0+1) (List.append (take x0 x7) [[x1,x2,0,0]]) x8))
 (none))
 (ob (qGA x3 x4 x5 x1 x2 0 true) fun a24=>
 br (a24)
 (br (decide ((x0+1)*32<=140737488355328))
 (rec (x0+1) x1 (wrap .i64 (x2+1)) x3 x4 x5 (x0+1) (List.append (take x0 x7) [[x1,x2,0,1]]) x8)
 (none))
 (rec x0 x1 (wrap .i64 (x2+1)) x3 x4 x5 x6 x7 x8))))
 (none))
 (some (x0,x1,x3,x4,x5,x6,x7,x8))
def qF8:Nat->Nat->Int->Int->LI->LI->Int->Nat->LL->List Bool->Option (Nat×Int×LI×LI×Int×Nat×LL×List Bool)
 | 0,_,_,_,_,_,_,_,_,_=>none
 | f+1,x0,x1,x2,x3,x4,x5,x6,x7,x8=>qIm (qF8 f) x0 x1 x2 x3 x4 x5 x6 x7 x8
def qIp (rec:Nat->Int->LI->LI->Int->Nat->LL->List Bool->Option (Nat×LI×LI×Int×Nat×LL)) (x0:Nat) (x1:Int) (x2 x3:LI) (x4:Int) (x5:Nat) (x6:LL) (x7:List Bool):Option (Nat×LI×LI×Int×Nat×LL):=
 br (decide (x1<81))
 (br (inB x1 81)
 (ob (qA9 (conv .i8 .i64 (getD x2 (Int.toNat x1) 0))) fun a12=>
 br (a12 != x4)
 (rec x0 (wrap .i64 (x1+1)) x2 x3 x4 x5 x6 x7)
 (ob (qF8 qB x0 x1 0 x2 x3 x4 x5 x6 x7) fun (a13_0,a13_1,a13_2,a13_3,a13_4,a13_5,a13_6,a13_7)=>
 rec a13_0 (wrap .i64 (a13_1+1)) a13_2 a13_3 a13_4 a13_5 a13_6 a13_7))
 (none))
 (some (x0,x2,x3,x4,x5,x6))
def qD8:Nat->Nat->Int->LI->LI->Int->Nat->LL->List Bool->Option (Nat×LI×LI×Int×Nat×LL)
 | 0,_,_,_,_,_,_,_,_=>none
 | f+1,x0,x1,x2,x3,x4,x5,x6,x7=>qIp (qD8 f) x0 x1 x2 x3 x4 x5 x6 x7
def qIo (rec:Nat->Int->Int->LI->LI->Int->Nat->LL->Option (Nat×Int×LI×LI×Int×Nat×LL)) (x0:Nat) (x1 x2:Int) (x3 x4:LI) (x5:Int) (x6:Nat) (x7:LL):Option (Nat×Int×LI×LI×Int×Nat×LL):=
 br (decide (x2<81))
 (br (inB x5 2)
 (br (inB x1 8)
 (br (decide (getD x4 (Int.toNat x5*8+Int.toNat x1) 0>0))
 (ob (qGA x3 x4 x5 0 x2 x1 false) fun a25=>
 br (a25)
 (br (decide ((x0+1)*32<=140737488355328))
 (rec (x0+1) x1 (wrap .i64 (x2+1)) x3 x4 x5 (x0+1) (List.append (take x0 x7) [[0,x2,x1,0]]))
 (none))
 (rec x0 x1 (wrap .i64 (x2+1)) x3 x4 x5 x6 x7))
 (some (x0,x1,x3,x4,x5,x6,x7)))
 (none))
 (none))
 (some (x0,x1,x3,x4,x5,x6,x7))
def qF9:Nat->Nat->Int->Int->LI->LI->Int->Nat->LL->Option (Nat×Int×LI×LI×Int×Nat×LL)
 | 0,_,_,_,_,_,_,_,_=>none
 | f+1,x0,x1,x2,x3,x4,x5,x6,x7=>qIo (qF9 f) x0 x1 x2 x3 x4 x5 x6 x7
def qIn (rec:Nat->Int->LI->LI->Int->Nat->LL->Option (Nat×Nat×LL)) (x0:Nat) (x1:Int) (x2 x3:LI) (x4:Int) (x5:Nat) (x6:LL):Option (Nat×Nat×LL):=
 br (decide (x1<=7))
 (ob (qF9 qB x0 x1 0 x2 x3 x4 x5 x6) fun (a17_0,a17_1,a17_2,a17_3,a17_4,a17_5,a17_6)=>
 rec a17_0 (wrap .i64 (a17_1+1)) a17_2 a17_3 a17_4 a17_5 a17_6)
 (some (x0,x5,x6))
def qD7:Nat->Nat->Int->LI->LI->Int->Nat->LL->Option (Nat×Nat×LL)
 | 0,_,_,_,_,_,_,_=>none
 | f+1,x0,x1,x2,x3,x4,x5,x6=>qIn (qD7 f) x0 x1 x2 x3 x4 x5 x6
def qIl (x0 x1:LI) (x2:Int):Option (Nat×Nat×LL):=
 br (x2 != 0)
 (br (x2 != 1)
 (some (0,0,[]))
 (ob (qEv x0 x1 x2) fun a3=>
 ob (qD8 qB 0 0 x0 x1 x2 0 [] a3) fun (a4_0,a4_1,a4_2,a4_3,a4_4,a4_5)=>
 ob (qD7 qB a4_0 1 a4_1 a4_2 a4_3 a4_4 a4_5) fun (a10_0,a10_1,a10_2)=>
 some (a10_0,a10_1,a10_2)))
 (ob (qEv x0 x1 x2) fun a3=>
 ob (qD8 qB 0 0 x0 x1 x2 0 [] a3) fun (a4_0,a4_1,a4_2,a4_3,a4_4,a4_5)=>
 ob (qD7 qB a4_0 1 a4_1 a4_2 a4_3 a4_4 a4_5) fun (a10_0,a10_1,a10_2)=>
 some (a10_0,a10_1,a10_2))
def qHc (rec:Int->Int->Int->LI->LI->Int->LL->LL->Int->Int->Int->Int->Int->Int->Option (LI×LI×Int×LL×LL×Int×Int×Int×Int)) (x0 x1 x2:Int) (x3 x4:LI) (x5:Int) (x6 x7:LL) (x8 x9:Int) (x10 x11:Int) (x12 x13:Int):Option (LI×LI×Int×LL×LL×Int×Int×Int×Int):=
 br (decide (x2<=15))
 (ob (qAz (wrap .i64 (1 - x1)) x2) fun a23=>
 br (a23==0)
 (rec x0 x1 (wrap .i64 (x2+1)) x3 x4 x5 x6 x7 x8 x9 x10 x11 x12 x13)
 (ob (qFy a23 x0 x8 x9) fun (a24_0,a24_1)=>
 ob (qDH x1 x2 x3 x4 x5 x6 x7) fun (a26_0,a26_1)=>
 ob (qC9 a24_0 a24_1 a26_0 a26_1) fun (a28_0,a28_1)=>
 ob (qDX x12 x13 a28_0 a28_1) fun (a30_0,a30_1)=>
 rec x0 x1 (wrap .i64 (x2+1)) x3 x4 x5 x6 x7 x8 x9 x10 x11 a30_0 a30_1))
 (some (x3,x4,x5,x6,x7,x10,x11,x12,x13))
def qEQ:Nat->Int->Int->Int->LI->LI->Int->LL->LL->Int->Int->Int->Int->Int->Int->Option (LI×LI×Int×LL×LL×Int×Int×Int×Int)
 | 0,_,_,_,_,_,_,_,_,_,_,_,_,_,_=>none
 | f+1,x0,x1,x2,x3,x4,x5,x6,x7,x8,x9,x10,x11,x12,x13=>qHc (qEQ f) x0 x1 x2 x3 x4 x5 x6 x7 x8 x9 x10 x11 x12 x13
def qHb (x0 x1:Int) (x2 x3:Int) (x4 x5:LI) (x6:Int) (x7 x8:LL):Option (Int×Int):=
 br (decide (x0<0))
 (some (0,0))
 (br (decide (x0 >= 81))
 (some (0,0))
 (br (x1 != 0)
 (br (x1 != 1)
 (some (0,0))
 (ob (qEQ qB x0 x1 1 x4 x5 x6 x7 x8 x2 x3 0 0 0 0) fun (_,_,_,_,_,_,_,a9_7,a9_8)=>
 some (a9_7,a9_8)))
 (ob (qEQ qB x0 x1 1 x4 x5 x6 x7 x8 x2 x3 0 0 0 0) fun (_,_,_,_,_,_,_,a9_7,a9_8)=>
 some (a9_7,a9_8))))
def qGa (x0:Int) (x1 x2:LI) (x3:Int) (x4 x5:LL):Option (Int×Int):=
 ob (qGg x0 x1 x2 x3 x4 x5) fun a6=>
 ob (qDI x1 x2 x3 x4 x5) fun (a7_0,a7_1)=>
 ob (qHb a6 (wrap .i64 (1 - x0)) a7_0 a7_1 x1 x2 x3 x4 x5) fun (a9_0,a9_1)=>
 some (a9_0,a9_1)
def qJS (x0:Int) (x1 x2:LI) (x3:Int) (x4 x5:LL):Option (Bool):=
 ob (qGa x0 x1 x2 x3 x4 x5) fun (a6_0,a6_1)=>
 ob (qE3 a6_0 a6_1) fun a8=>
 some (!a8)
def qCY (x0 x1:LI) (x2:Int):Option (Int):=
 ob (qJT x0 x1 x2) fun a3=>
 br (a3 != 0)
 (some (a3))
 (ob (qBz x0 x1 x2) fun (a4_0,a4_1,a4_2,a4_3,a4_4)=>
 ob (qJS (wrap .i64 (1 - x2)) a4_0 a4_1 a4_2 a4_3 a4_4) fun a9=>
 br (a9)
 (some (54))
 (some (0)))
def qI2 (rec:Nat->Int->Int->Nat->LI->Int->Int->Int->Int->Option (Nat×LI×Int×Int×Int×Int)) (x0:Nat) (x1 x2:Int) (x3:Nat) (x4:LI) (x5 x6:Int) (x7 x8:Int):Option (Nat×LI×Int×Int×Int×Int):=
 br (decide (x2<x1))
 (br (inB x2 x0)
 (ob (qA1 x7 x8 (getD x4 (Int.toNat x2) 0)) fun (a12_0,a12_1)=>
 rec x0 x1 (wrap .i64 (x2+1)) x3 x4 x5 x6 a12_0 a12_1)
 (none))
 (some (x3,x4,x5,x6,x7,x8))
def qGJ:Nat->Nat->Int->Int->Nat->LI->Int->Int->Int->Int->Option (Nat×LI×Int×Int×Int×Int)
 | 0,_,_,_,_,_,_,_,_,_=>none
 | f+1,x0,x1,x2,x3,x4,x5,x6,x7,x8=>qI2 (qGJ f) x0 x1 x2 x3 x4 x5 x6 x7 x8
def qI1 (x0 x1:Nat) (x2:LI):Option (Int×Int):=
 ob (qGJ qB x0 (Int.ofNat x0) 0 x1 x2 0 0 0 0) fun (_,_,_,_,a3_4,a3_5)=>
 some (a3_4,a3_5)
def qIk (rec:Int->Int->LI->LI->Int->Option ((Int)⊕(Unit))) (x0 x1:Int) (x2 x3:LI) (x4:Int):Option ((Int)⊕(Unit)):=
 br (decide (x1<81))
 (br (inB x1 81)
 (br (conv .i8 .i64 (getD x2 (Int.toNat x1) 0)==wrap .i64 (wrap .i64 (16*x0)+8))
 (some (.inl (x1)))
 (rec x0 (wrap .i64 (x1+1)) x2 x3 x4))
 (none))
 (some (.inr ()))
def qF6:Nat->Int->Int->LI->LI->Int->Option ((Int)⊕(Unit))
 | 0,_,_,_,_,_=>none
 | f+1,x0,x1,x2,x3,x4=>qIk (qF6 f) x0 x1 x2 x3 x4
def qKJ (x0 x1:LI) (x2 x3:Int):Option (Int):=
 ob (qF6 qB x3 0 x0 x1 x2) fun t4_2=>
 sw t4_2 (fun a4=>
 some (a4))
 (fun _=>
 some (-1))
def qIj (rec:Int->Int->Int->LI->LI->Int->List Bool->Option ((Bool)⊕(Unit))) (x0 x1 x2:Int) (x3 x4:LI) (x5:Int) (x6:List Bool):Option ((Bool)⊕(Unit)):=
 br (decide (x2<81))
 (br (inB x2 81)
 (ob (qA9 (conv .i8 .i64 (getD x3 (Int.toNat x2) 0))) fun a13=>
 br (a13==wrap .i64 (1 - x0))
 (br (inB x2 81)
 (ob (qF4 (conv .i8 .i64 (getD x3 (Int.toNat x2) 0)) x2 x1 x6) fun a14=>
 br (a14)
 (some (.inl (true)))
 (rec x0 x1 (wrap .i64 (x2+1)) x3 x4 x5 x6))
 (none))
 (rec x0 x1 (wrap .i64 (x2+1)) x3 x4 x5 x6))
 (none))
 (some (.inr ()))
def qF5:Nat->Int->Int->Int->LI->LI->Int->List Bool->Option ((Bool)⊕(Unit))
 | 0,_,_,_,_,_,_,_=>none
 | f+1,x0,x1,x2,x3,x4,x5,x6=>qIj (qF5 f) x0 x1 x2 x3 x4 x5 x6
def qIi (x0 x1:LI) (x2 x3:Int):Option (Bool):=
 ob (qEv x0 x1 x2) fun a4=>
 ob (qKJ x0 x1 x2 x3) fun a5=>
 br (decide (a5<0))
 (some (false))
 (ob (qF5 qB x3 a5 0 x0 x1 x2 a4) fun t6_2=>
 sw t6_2 (fun a6=>
 some (a6))
 (fun _=>
 some (false)))
def qF7 (x0 x1:LI) (x2 x3:Int) (x4 x5:Int) (x6:Bool):Option (LI×LI×Int):=
 br (x5 != 0)
 (br (inB x2 2)
 (br (inB x5 8)
 (br (inB x2 2)
 (br (inB x5 8)
 (br (inB x4 81)
 (some (List.set x0 (Int.toNat x4) (conv .i64 .i8 (wrap .i64 (wrap .i64 (16*x2)+x5))),List.set x1 (Int.toNat x2*8+Int.toNat x5) (wrap .i8 (getD x1 (Int.toNat x2*8+Int.toNat x5) 0 - 1)),wrap .i8 (1 - x2)))
 (none))
 (none))
 (none))
 (none))
 (none))
 (br (inB x4 81)
 (ob (qAP (conv .i8 .i64 (getD x0 (Int.toNat x4) 0))) fun a7=>
 ob (qIb a7) fun a8=>
 br (a8 != 0)
 (br (inB x2 2)
 (br (inB a8 8)
 (br (inB x2 2)
 (br (inB a8 8)
 (br (inB x3 81)
 (br (inB x4 81)
 (br (x6)
 (br (inB x4 81)
 (br (inB x4 81)
 (br (inB x3 81)
 (some (List.set (List.set (List.set x0 (Int.toNat x4) (getD x0 (Int.toNat x3) 0)) (Int.toNat x4) (wrap .i8 (getD (List.set x0 (Int.toNat x4) (getD x0 (Int.toNat x3) 0)) (Int.toNat x4) 0+8))) (Int.toNat x3) 0,List.set x1 (Int.toNat x2*8+Int.toNat a8) (wrap .i8 (getD x1 (Int.toNat x2*8+Int.toNat a8) 0+1)),wrap .i8 (1 - x2)))
 (none))
 (none))
 (none))
 (br (inB x3 81)
 (some (List.set (List.set x0 (Int.toNat x4) (getD x0 (Int.toNat x3) 0)) (Int.toNat x3) 0,List.set x1 (Int.toNat x2*8+Int.toNat a8) (wrap .i8 (getD x1 (Int.toNat x2*8+Int.toNat a8) 0+1)),wrap .i8 (1 - x2)))
 (none)))
 (none))
 (none))
 (none))
 (none))
 (none))
 (none))
 (br (inB x3 81)
 (br (inB x4 81)
 (br (x6)
 (br (inB x4 81)
 (br (inB x4 81)
 (br (inB x3 81)
 (some (List.set (List.set (List.set x0 (Int.toNat x4) (getD x0 (Int.toNat x3) 0)) (Int.toNat x4) (wrap .i8 (getD (List.set x0 (Int.toNat x4) (getD x0 (Int.toNat x3) 0)) (Int.toNat x4) 0+8))) (Int.toNat x3) 0,x1,wrap .i8 (1 - x2)))
 (none))
 (none))
 (none))
 (br (inB x3 81)
 (some (List.set (List.set x0 (Int.toNat x4) (getD x0 (Int.toNat x3) 0)) (Int.toNat x3) 0,x1,wrap .i8 (1 - x2)))
 (none)))
 (none))
 (none)))
 (none))
def qIX (rec:Int->Int->Nat->Int->Int->Int->Int->Nat->LL->Option ((Int×Int)⊕(Int×Int))) (x0 x1:Int) (x2:Nat) (x3 x4:Int) (x5 x6:Int) (x7:Nat) (x8:LL):Option ((Int×Int)⊕(Int×Int)):=
 br (decide (x4<x3))
 (br (inB x4 x2)
 (ob (qI1 1 1 [x1]) fun (a17_0,a17_1)=>
 ob (qIZ x0 (headD (take 2 (getD x8 (Int.toNat x4) [])) 0) (headD (tail (take 2 (getD x8 (Int.toNat x4) []))) 0) a17_0 a17_1) fun (a19_0,a19_1)=>
 ob (qCQ a19_0 a19_1 x1) fun a21=>
 br (a21)
 (ob (qDY a19_0 a19_1 x1) fun (a22_0,a22_1)=>
 some (.inl (a22_0,a22_1)))
 (rec x0 x1 x2 x3 (wrap .i64 (x4+1)) x5 x6 x7 x8))
 (none))
 (some (.inr (x5,x6)))
def qFx:Nat->Int->Int->Nat->Int->Int->Int->Int->Nat->LL->Option ((Int×Int)⊕(Int×Int))
 | 0,_,_,_,_,_,_,_,_,_=>none
 | f+1,x0,x1,x2,x3,x4,x5,x6,x7,x8=>qIX (qFx f) x0 x1 x2 x3 x4 x5 x6 x7 x8
def qIW (x0 x1:Int):Option (Int×Int):=
 ob (qG2 6) fun (a2_0,_,a2_2)=>
 ob (qG2 7) fun (a5_0,_,a5_2)=>
 br (decide ((a2_0+a5_0)*16<=140737488355328))
 (ob (qFx qB x0 x1 (a2_0+a5_0) (Int.ofNat (a2_0+a5_0)) 0 0 0 (a2_0+a5_0) (List.append (take a2_0 a2_2) (take a5_0 a5_2))) fun t8_2=>
 sw t8_2 (fun (a8_0,a8_1)=>
 some (a8_0,a8_1))
 (fun (_,_)=>
 some (0,0)))
 (none)
def qGb (rec:Int->Int->Nat->Int->Int->Nat->Int->Int->LI->LI->Int->LL->LL->List (LI×LI)->Nat->LI->Nat->LI->Option (Int×Int×Nat×Int×Int×LI×LI×Int×LL×LL×List (LI×LI)×Nat×LI)) (x0 x1:Int) (x2:Nat) (x3 x4:Int) (x5:Nat) (x6 x7:Int) (x8 x9:LI) (x10:Int) (x11 x12:LL) (x13:List (LI×LI)) (x14:Nat) (x15:LI) (x16:Nat) (x17:LI):Option (Int×Int×Nat×Int×Int×LI×LI×Int×LL×LL×List (LI×LI)×Nat×LI):=
 br (decide (x7<x6))
 (br (inB x7 x5)
 (ob (qIW (getD x17 (Int.toNat x7) 0) x1) fun (a43_0,a43_1)=>
 ob (qDI x8 x9 x10 x11 x12) fun (a45_0,a45_1)=>
 ob (qC9 a43_0 a43_1 a45_0 a45_1) fun (a47_0,a47_1)=>
 ob (qHE a47_0 a47_1) fun a49=>
 br (a49 != 1)
 (rec x0 x1 x2 x3 x4 x5 x6 (wrap .i64 (x7+1)) x8 x9 x10 x11 x12 x13 x14 x15 x16 x17)
 (ob (qGi x0 x8 x9 x10 x11 x12) fun (a50_0,a50_1)=>
 ob (qC9 a47_0 a47_1 a50_0 a50_1) fun (a52_0,a52_1)=>
 ob (qE3 a52_0 a52_1) fun a54=>
 br (a54)
 (rec x0 x1 x2 x3 x4 x5 x6 (wrap .i64 (x7+1)) x8 x9 x10 x11 x12 x13 x14 x15 x16 x17)
 (ob (qHG a47_0 a47_1) fun a55=>
 ob (qAi (getD x17 (Int.toNat x7) 0) x8 x9 x10 x11 x12) fun a56=>
 ob (qDI x8 x9 x10 x11 x12) fun (a57_0,a57_1)=>
 ob (qDY a57_0 a57_1 a55) fun (a59_0,a59_1)=>
 ob (qFy a56 (getD x17 (Int.toNat x7) 0) a59_0 a59_1) fun (a61_0,a61_1)=>
 ob (qCQ a61_0 a61_1 x1) fun a63=>
 br (!a63)
 (rec x0 x1 x2 x3 x4 x5 x6 (wrap .i64 (x7+1)) x8 x9 x10 x11 x12 x13 x14 x15 x16 x17)
 (ob (qAi (getD x17 (Int.toNat x7) 0) x8 x9 x10 x11 x12) fun a64=>
 ob (qDI x8 x9 x10 x11 x12) fun (a65_0,a65_1)=>
 ob (qFy a64 (getD x17 (Int.toNat x7) 0) a65_0 a65_1) fun (a67_0,a67_1)=>
 ob (qCQ a67_0 a67_1 x1) fun a69=>
 br (a69)
 (rec x0 x1 x2 x3 x4 x5 x6 (wrap .i64 (x7+1)) x8 x9 x10 x11 x12 x13 x14 x15 x16 x17)
 (ob (qA1 a43_0 a43_1 (getD x17 (Int.toNat x7) 0)) fun (a70_0,a70_1)=>
 rec x0 x1 x2 x3 x4 x5 x6 (wrap .i64 (x7+1)) x8 x9 x10 x11 x12 (qAL x13 [a55] [a70_0,a70_1]) x14 x15 x16 x17)))))
 (none))
 (some (x0,x1,x2,x3,x4,x8,x9,x10,x11,x12,x13,x14,x15))
def qFM:Nat->Int->Int->Nat->Int->Int->Nat->Int->Int->LI->LI->Int->LL->LL->List (LI×LI)->Nat->LI->Nat->LI->Option (Int×Int×Nat×Int×Int×LI×LI×Int×LL×LL×List (LI×LI)×Nat×LI)
 | 0,_,_,_,_,_,_,_,_,_,_,_,_,_,_,_,_,_,_=>none
 | f+1,x0,x1,x2,x3,x4,x5,x6,x7,x8,x9,x10,x11,x12,x13,x14,x15,x16,x17=>qGb (qFM f) x0 x1 x2 x3 x4 x5 x6 x7 x8 x9 x10 x11 x12 x13 x14 x15 x16 x17
def qHf (rec:Int->Int->Nat->Int->Int->LI->LI->Int->LL->LL->List (LI×LI)->Nat->LI->Option (LI×LI×Int×LL×LL×List (LI×LI))) (x0 x1:Int) (x2:Nat) (x3 x4:Int) (x5 x6:LI) (x7:Int) (x8 x9:LL) (x10:List (LI×LI)) (x11:Nat) (x12:LI):Option (LI×LI×Int×LL×LL×List (LI×LI)):=
 br (decide (x4<x3))
 (br (inB x4 x2)
 (ob (qDH (wrap .i64 (1 - x0)) (getD x12 (Int.toNat x4) 0) x5 x6 x7 x8 x9) fun (a20_0,a20_1)=>
 ob (qE5 a20_0 a20_1) fun (a22_0,a22_1,a22_2)=>
 ob (qFM qB x0 x1 x2 x3 x4 a22_0 (Int.ofNat a22_0) 0 x5 x6 x7 x8 x9 x10 x11 x12 a22_1 a22_2) fun (a25_0,a25_1,a25_2,a25_3,a25_4,a25_5,a25_6,a25_7,a25_8,a25_9,a25_10,a25_11,a25_12)=>
 rec a25_0 a25_1 a25_2 a25_3 (wrap .i64 (a25_4+1)) a25_5 a25_6 a25_7 a25_8 a25_9 a25_10 a25_11 a25_12)
 (none))
 (some (x5,x6,x7,x8,x9,x10))
def qFL:Nat->Int->Int->Nat->Int->Int->LI->LI->Int->LL->LL->List (LI×LI)->Nat->LI->Option (LI×LI×Int×LL×LL×List (LI×LI))
 | 0,_,_,_,_,_,_,_,_,_,_,_,_,_=>none
 | f+1,x0,x1,x2,x3,x4,x5,x6,x7,x8,x9,x10,x11,x12=>qHf (qFL f) x0 x1 x2 x3 x4 x5 x6 x7 x8 x9 x10 x11 x12
def qHd (x0:Int) (x1 x2:LI) (x3:Int) (x4 x5:LL):Option (List (LI×LI)):=
 ob (qGg x0 x1 x2 x3 x4 x5) fun a6=>
 br (decide (a6<0))
 (some ([]))
 (ob (qFL qB x0 a6 5 5 0 x1 x2 x3 x4 x5 [] 5 ([2,6,7,14,15])) fun (_,_,_,_,_,a7_5)=>
 some (a7_5))
def qIK (x0 x1:LI) (x2:Int) (x3 x4:LL):Option (Int×Int×Int×Int×Bool×List (LI×LI)):=
 ob (qGg x2 x0 x1 x2 x3 x4) fun a5=>
 ob (qHC ) fun (a6_0,a6_1)=>
 ob (qHd x2 x0 x1 x2 x3 x4) fun a8=>
 ob (qGa x2 x0 x1 x2 x3 x4) fun (a9_0,a9_1)=>
 ob (qHE a9_0 a9_1) fun a11=>
 br (a11==0)
 (some (x2,a5,a6_0,a6_1,false,a8))
 (br (a11==1)
 (ob (qHG a9_0 a9_1) fun a12=>
 ob (qIW a12 a5) fun (a13_0,a13_1)=>
 ob (qDX a13_0 a13_1 a9_0 a9_1) fun (a15_0,a15_1)=>
 some (x2,a5,a15_0,a15_1,true,a8))
 (some (x2,a5,0,0,true,a8)))
def qIL (x0 x1:Int) (x2 x3:Int) (_x4:Bool) (x5 x6 _x7:Int) (_x8:Bool) (x9 x10:LI) (x11:Int) (x12 x13:LL) (x14:List (LI×LI)):Option (Bool×LI×LI×Int×LL×LL×List (LI×LI)):=
 br (x5==x1)
 (ob (qDI x9 x10 x11 x12 x13) fun (a15_0,a15_1)=>
 ob (qDY a15_0 a15_1 x1) fun (a17_0,a17_1)=>
 ob (qHb x6 (wrap .i64 (1 - x0)) a17_0 a17_1 x9 x10 x11 x12 x13) fun (a19_0,a19_1)=>
 ob (qE3 a19_0 a19_1) fun a21=>
 some (a21,x9,x10,x11,x12,x13,x14))
 (ob (qCQ x2 x3 x6) fun a15=>
 br (!a15)
 (some (false,x9,x10,x11,x12,x13,x14))
 (br (!qA8 x14 [x5])
 (some (true,x9,x10,x11,x12,x13,x14))
 (ob (qCQ (headD (qA7 x14 [x5] [0,0]) 0) (headD (tail (qA7 x14 [x5] [0,0])) 0) x6) fun a16=>
 some (a16,x9,x10,x11,x12,x13,x14))))
def qIJ (rec:Nat->Int->Int->LI->LI->Int->LL->LL->Int->Int->Int->Int->Bool->Nat->LL->LI->LI->Int->LL->LL->List (LI×LI)->Option ((Bool×LI×LI×Int×LL×LL)⊕(LI×LI×Int×LL×LL))) (x0:Nat) (x1 x2:Int) (x3 x4:LI) (x5:Int) (x6 x7:LL) (x8 x9:Int) (x10 x11:Int) (x12:Bool) (x13:Nat) (x14:LL) (x15 x16:LI) (x17:Int) (x18 x19:LL) (x20:List (LI×LI)):Option ((Bool×LI×LI×Int×LL×LL)⊕(LI×LI×Int×LL×LL)):=
 br (decide (x2<x1))
 (br (inB x2 x0)
 (ob (qIL x8 x9 x10 x11 x12 (headD (take 4 (getD x14 (Int.toNat x2) [])) 0) (headD (tail (take 4 (getD x14 (Int.toNat x2) []))) 0) (headD (tail (tail (take 4 (getD x14 (Int.toNat x2) [])))) 0) (headD (tail (tail (tail (take 4 (getD x14 (Int.toNat x2) []))))) 0 != 0) x15 x16 x17 x18 x19 x20) fun (a53_0,a53_1,a53_2,a53_3,a53_4,a53_5,a53_6)=>
 br (a53_0)
 (some (.inl (false,x3,x4,x5,x6,x7)))
 (rec x0 x1 (wrap .i64 (x2+1)) x3 x4 x5 x6 x7 x8 x9 x10 x11 x12 x13 x14 a53_1 a53_2 a53_3 a53_4 a53_5 a53_6))
 (none))
 (some (.inr (x3,x4,x5,x6,x7)))
def qFr:Nat->Nat->Int->Int->LI->LI->Int->LL->LL->Int->Int->Int->Int->Bool->Nat->LL->LI->LI->Int->LL->LL->List (LI×LI)->Option ((Bool×LI×LI×Int×LL×LL)⊕(LI×LI×Int×LL×LL))
 | 0,_,_,_,_,_,_,_,_,_,_,_,_,_,_,_,_,_,_,_,_,_=>none
 | f+1,x0,x1,x2,x3,x4,x5,x6,x7,x8,x9,x10,x11,x12,x13,x14,x15,x16,x17,x18,x19,x20=>qIJ (qFr f) x0 x1 x2 x3 x4 x5 x6 x7 x8 x9 x10 x11 x12 x13 x14 x15 x16 x17 x18 x19 x20
def qJz (x0:Int) (x1 x2:LI) (x3:Int) (x4 x5:LL):Option (Bool):=
 ob (qAz x3 1) fun a6=>
 br (a6==0)
 (some (false))
 (br (decide (x0<0))
 (some (false))
 (br (decide (x0 >= 81))
 (some (false))
 (ob (qAi x0 x1 x2 x3 x4 x5) fun a7=>
 br (a7 != 0)
 (some (false))
 (ob (qK4 x1 x2 x3 x4 x5) fun (a8_0,a8_1,a8_2,a8_3,a8_4)=>
 ob (qET x0 a6 a8_0 a8_1 a8_2 a8_3 a8_4) fun (a13_0,a13_1,a13_2,a13_3,a13_4)=>
 ob (qGa (conv .i8 .i64 (wrap .i8 (1 - a13_2))) a13_0 a13_1 (wrap .i8 (1 - a13_2)) a13_3 a13_4) fun (a18_0,a18_1)=>
 ob (qCQ a18_0 a18_1 x0) fun a20=>
 br (!a20)
 (some (false))
 (ob (qIK a13_0 a13_1 (wrap .i8 (1 - a13_2)) a13_3 a13_4) fun (a21_0,a21_1,a21_2,a21_3,a21_4,a21_5)=>
 ob (qHC ) fun (a27_0,a27_1)=>
 ob (qHz a27_0 a27_1 a13_0 a13_1 (wrap .i8 (1 - a13_2)) a13_3 a13_4) fun (a29_0,a29_1,a29_2)=>
 ob (qFr qB a29_0 (Int.ofNat a29_0) 0 x1 x2 x3 x4 x5 a21_0 a21_1 a21_2 a21_3 a21_4 a29_1 a29_2 a13_0 a13_1 (wrap .i8 (1 - a13_2)) a13_3 a13_4 a21_5) fun t32_2=>
 sw t32_2 (fun (a32_0,_,_,_,_,_)=>
 some (a32_0))
 (fun (_,_,_,_,_)=>
 some (true)))))))
def qIH (rec:Nat->Nat->Int->Int->LI->LI->Int->LL->LL->Int->Int->Int->Int->Bool->Nat->LL->Nat->LL->List (LI×LI)->Option (Nat×LI×LI×Int×LL×LL×Int×Int×Int×Int×Bool×Nat×LL×List (LI×LI))) (x0 x1:Nat) (x2 x3:Int) (x4 x5:LI) (x6:Int) (x7 x8:LL) (x9 x10:Int) (x11 x12:Int) (x13:Bool) (x14:Nat) (x15:LL) (x16:Nat) (x17:LL) (x18:List (LI×LI)):Option (Nat×LI×LI×Int×LL×LL×Int×Int×Int×Int×Bool×Nat×LL×List (LI×LI)):=
 br (decide (x3<x2))
 (br (inB x3 x1)
 (ob (qIL x9 x10 x11 x12 x13 (headD (take 4 (getD x17 (Int.toNat x3) [])) 0) (headD (tail (take 4 (getD x17 (Int.toNat x3) []))) 0) (headD (tail (tail (take 4 (getD x17 (Int.toNat x3) [])))) 0) (headD (tail (tail (tail (take 4 (getD x17 (Int.toNat x3) []))))) 0 != 0) x4 x5 x6 x7 x8 x18) fun (a35_0,a35_1,a35_2,a35_3,a35_4,a35_5,a35_6)=>
 br (a35_0)
 (br (decide ((x0+1)*32<=140737488355328))
 (rec (x0+1) x1 x2 (wrap .i64 (x3+1)) a35_1 a35_2 a35_3 a35_4 a35_5 x9 x10 x11 x12 x13 (x0+1) (List.append (take x0 x15) [[headD (take 4 (getD x17 (Int.toNat x3) [])) 0,headD (tail (take 4 (getD x17 (Int.toNat x3) []))) 0,headD (tail (tail (take 4 (getD x17 (Int.toNat x3) [])))) 0,bi (headD (tail (tail (tail (take 4 (getD x17 (Int.toNat x3) []))))) 0 != 0)]]) x16 x17 a35_6)
 (none))
 (rec x0 x1 x2 (wrap .i64 (x3+1)) a35_1 a35_2 a35_3 a35_4 a35_5 x9 x10 x11 x12 x13 x14 x15 x16 x17 a35_6))
 (none))
 (some (x0,x4,x5,x6,x7,x8,x9,x10,x11,x12,x13,x14,x15,x18))
def qFp:Nat->Nat->Nat->Int->Int->LI->LI->Int->LL->LL->Int->Int->Int->Int->Bool->Nat->LL->Nat->LL->List (LI×LI)->Option (Nat×LI×LI×Int×LL×LL×Int×Int×Int×Int×Bool×Nat×LL×List (LI×LI))
 | 0,_,_,_,_,_,_,_,_,_,_,_,_,_,_,_,_,_,_,_=>none
 | f+1,x0,x1,x2,x3,x4,x5,x6,x7,x8,x9,x10,x11,x12,x13,x14,x15,x16,x17,x18=>qIH (qFp f) x0 x1 x2 x3 x4 x5 x6 x7 x8 x9 x10 x11 x12 x13 x14 x15 x16 x17 x18
def qIG (rec:Nat->Nat->Int->Int->LI->LI->Int->LL->LL->Nat->LL->Nat->LL->Option (Nat×LI×LI×Int×LL×LL×Nat×LL)) (x0 x1:Nat) (x2 x3:Int) (x4 x5:LI) (x6:Int) (x7 x8:LL) (x9:Nat) (x10:LL) (x11:Nat) (x12:LL):Option (Nat×LI×LI×Int×LL×LL×Nat×LL):=
 br (decide (x3<x2))
 (br (inB x3 x1)
 (br (headD (tail (tail (take 4 (getD x12 (Int.toNat x3) [])))) 0==1)
 (ob (qJz (headD (tail (take 4 (getD x12 (Int.toNat x3) []))) 0) x4 x5 x6 x7 x8) fun a46=>
 br (a46)
 (rec x0 x1 x2 (wrap .i64 (x3+1)) x4 x5 x6 x7 x8 x9 x10 x11 x12)
 (br (decide ((x0+1)*32<=140737488355328))
 (rec (x0+1) x1 x2 (wrap .i64 (x3+1)) x4 x5 x6 x7 x8 (x0+1) (List.append (take x0 x10) [[headD (take 4 (getD x12 (Int.toNat x3) [])) 0,headD (tail (take 4 (getD x12 (Int.toNat x3) []))) 0,headD (tail (tail (take 4 (getD x12 (Int.toNat x3) [])))) 0,bi (headD (tail (tail (tail (take 4 (getD x12 (Int.toNat x3) []))))) 0 != 0)]]) x11 x12)
 (none)))
 (br (decide ((x0+1)*32<=140737488355328))
 (rec (x0+1) x1 x2 (wrap .i64 (x3+1)) x4 x5 x6 x7 x8 (x0+1) (List.append (take x0 x10) [[headD (take 4 (getD x12 (Int.toNat x3) [])) 0,headD (tail (take 4 (getD x12 (Int.toNat x3) []))) 0,headD (tail (tail (take 4 (getD x12 (Int.toNat x3) [])))) 0,bi (headD (tail (tail (tail (take 4 (getD x12 (Int.toNat x3) []))))) 0 != 0)]]) x11 x12)
 (none)))
 (none))
 (some (x0,x4,x5,x6,x7,x8,x9,x10))
def qEd:Nat->Nat->Nat->Int->Int->LI->LI->Int->LL->LL->Nat->LL->Nat->LL->Option (Nat×LI×LI×Int×LL×LL×Nat×LL)
 | 0,_,_,_,_,_,_,_,_,_,_,_,_,_=>none
 | f+1,x0,x1,x2,x3,x4,x5,x6,x7,x8,x9,x10,x11,x12=>qIG (qEd f) x0 x1 x2 x3 x4 x5 x6 x7 x8 x9 x10 x11 x12
def qDN (x0 x1:LI) (x2:Int) (x3 x4:LL):Option (Nat×LI×LI×Int×LL×LL×Nat×LL):=
 ob (qIK x0 x1 x2 x3 x4) fun (a5_0,a5_1,a5_2,a5_3,a5_4,a5_5)=>
 ob (qHC ) fun (a11_0,a11_1)=>
 ob (qHz a11_0 a11_1 x0 x1 x2 x3 x4) fun (a13_0,a13_1,a13_2)=>
 ob (qFp qB 0 a13_0 (Int.ofNat a13_0) 0 x0 x1 x2 x3 x4 a5_0 a5_1 a5_2 a5_3 a5_4 0 [] a13_1 a13_2 a5_5) fun (a16_0,a16_1,a16_2,a16_3,a16_4,a16_5,_,_,a16_8,a16_9,_,a16_11,a16_12,_)=>
 ob (qJs a16_8 a16_9 a16_1 a16_2 a16_3 a16_4 a16_5) fun (a30_0,a30_1,a30_2)=>
 ob (qEd qB a16_0 a30_0 (Int.ofNat a30_0) 0 a16_1 a16_2 a16_3 a16_4 a16_5 a16_11 a16_12 a30_1 a30_2) fun (a33_0,a33_1,a33_2,a33_3,a33_4,a33_5,a33_6,a33_7)=>
 some (a33_0,a33_1,a33_2,a33_3,a33_4,a33_5,a33_6,a33_7)
def qII (rec:Nat->Int->Int->LI->LI->Int->LL->LL->Int->Int->Int->Bool->Nat->LL->Option ((Bool×LI×LI×Int×LL×LL)⊕(LI×LI×Int×LL×LL))) (x0:Nat) (x1 x2:Int) (x3 x4:LI) (x5:Int) (x6 x7:LL) (x8 x9 x10:Int) (x11:Bool) (x12:Nat) (x13:LL):Option ((Bool×LI×LI×Int×LL×LL)⊕(LI×LI×Int×LL×LL)):=
 br (decide (x2<x1))
 (br (inB x2 x0)
 (br (headD (take 4 (getD x13 (Int.toNat x2) [])) 0==x8&&(headD (tail (take 4 (getD x13 (Int.toNat x2) []))) 0==x9&&(headD (tail (tail (take 4 (getD x13 (Int.toNat x2) [])))) 0==x10&&(headD (tail (tail (tail (take 4 (getD x13 (Int.toNat x2) []))))) 0 != 0)==x11)))
 (some (.inl (true,x3,x4,x5,x6,x7)))
 (rec x0 x1 (wrap .i64 (x2+1)) x3 x4 x5 x6 x7 x8 x9 x10 x11 x12 x13))
 (none))
 (some (.inr (x3,x4,x5,x6,x7)))
def qFq:Nat->Nat->Int->Int->LI->LI->Int->LL->LL->Int->Int->Int->Bool->Nat->LL->Option ((Bool×LI×LI×Int×LL×LL)⊕(LI×LI×Int×LL×LL))
 | 0,_,_,_,_,_,_,_,_,_,_,_,_,_,_=>none
 | f+1,x0,x1,x2,x3,x4,x5,x6,x7,x8,x9,x10,x11,x12,x13=>qII (qFq f) x0 x1 x2 x3 x4 x5 x6 x7 x8 x9 x10 x11 x12 x13
def qD0 (x0 x1 x2:Int) (x3:Bool) (x4 x5:LI) (x6:Int) (x7 x8:LL):Option (Bool×LI×LI×Int×LL×LL):=
 ob (qDN x4 x5 x6 x7 x8) fun (a9_0,a9_1,a9_2,a9_3,a9_4,a9_5,a9_6,a9_7)=>
 ob (qFq qB a9_0 (Int.ofNat a9_0) 0 a9_1 a9_2 a9_3 a9_4 a9_5 x0 x1 x2 x3 a9_6 a9_7) fun t17_2=>
 sw t17_2 (fun (a17_0,a17_1,a17_2,a17_3,a17_4,a17_5)=>
 some (a17_0,a17_1,a17_2,a17_3,a17_4,a17_5))
 (fun (a17_0,a17_1,a17_2,a17_3,a17_4)=>
 some (false,a17_0,a17_1,a17_2,a17_3,a17_4))
def qIr (x0 x1:LI) (x2 x3:Int) (x4 x5:Int) (x6:Bool):Option (Bool):=
 ob (qF7 x0 x1 x2 x3 x4 x5 x6) fun (a7_0,a7_1,a7_2)=>
 ob (qIi a7_0 a7_1 a7_2 x2) fun a10=>
 some (!a10)
def qIs (rec:Nat->Int->LI->LI->Int->Nat->LL->Option ((Bool)⊕(Unit))) (x0:Nat) (x1:Int) (x2 x3:LI) (x4:Int) (x5:Nat) (x6:LL):Option ((Bool)⊕(Unit)):=
 br (decide (x1<Int.ofNat x0))
 (br (inB x1 x0)
 (ob (qIr x2 x3 x4 (headD (take 4 (getD x6 (Int.toNat x1) [])) 0) (headD (tail (take 4 (getD x6 (Int.toNat x1) []))) 0) (headD (tail (tail (take 4 (getD x6 (Int.toNat x1) [])))) 0) (headD (tail (tail (tail (take 4 (getD x6 (Int.toNat x1) []))))) 0 != 0)) fun a13=>
 br (a13)
 (some (.inl (false)))
 (rec x0 (wrap .i64 (x1+1)) x2 x3 x4 x5 x6))
 (none))
 (some (.inr ()))
def qGC:Nat->Nat->Int->LI->LI->Int->Nat->LL->Option ((Bool)⊕(Unit))
 | 0,_,_,_,_,_,_,_=>none
 | f+1,x0,x1,x2,x3,x4,x5,x6=>qIs (qGC f) x0 x1 x2 x3 x4 x5 x6
def qKQ (x0 x1:LI) (x2:Int):Option (Bool):=
 ob (qIl x0 x1 x2) fun (a3_0,a3_1,a3_2)=>
 ob (qGC qB a3_0 0 x0 x1 x2 a3_1 a3_2) fun t6_2=>
 sw t6_2 (fun a6=>
 some (a6))
 (fun _=>
 some (true))
def qKP (x0 x1:LI) (x2 x3:Int) (x4 x5:Int) (x6:Bool):Option (Bool):=
 ob (qIr x0 x1 x2 x3 x4 x5 x6) fun a7=>
 br (!a7)
 (some (false))
 (br (x5 != 1)
 (some (true))
 (ob (qF7 x0 x1 x2 x3 x4 x5 x6) fun (a8_0,a8_1,a8_2)=>
 ob (qIi a8_0 a8_1 a8_2 a8_2) fun a11=>
 br (!a11)
 (some (true))
 (ob (qKQ a8_0 a8_1 a8_2) fun a12=>
 some (!a12))))
def qIq (rec:Nat->Nat->Int->LI->LI->Int->Nat->LL->Nat->LL->Option (Nat×Nat×LL)) (x0 x1:Nat) (x2:Int) (x3 x4:LI) (x5:Int) (x6:Nat) (x7:LL) (x8:Nat) (x9:LL):Option (Nat×Nat×LL):=
 br (decide (x2<Int.ofNat x1))
 (br (inB x2 x1)
 (ob (qKP x3 x4 x5 (headD (take 4 (getD x9 (Int.toNat x2) [])) 0) (headD (tail (take 4 (getD x9 (Int.toNat x2) []))) 0) (headD (tail (tail (take 4 (getD x9 (Int.toNat x2) [])))) 0) (headD (tail (tail (tail (take 4 (getD x9 (Int.toNat x2) []))))) 0 != 0)) fun a16=>
 br (a16)
 (br (inB x2 x1)
 (br (decide ((x0+1)*32<=140737488355328))
 (rec (x0+1) x1 (wrap .i64 (x2+1)) x3 x4 x5 (x0+1) (List.append (take x0 x7) [[headD (take 4 (getD x9 (Int.toNat x2) [])) 0,headD (tail (take 4 (getD x9 (Int.toNat x2) []))) 0,headD (tail (tail (take 4 (getD x9 (Int.toNat x2) [])))) 0,bi (headD (tail (tail (tail (take 4 (getD x9 (Int.toNat x2) []))))) 0 != 0)]]) x8 x9)
 (none))
 (none))
 (rec x0 x1 (wrap .i64 (x2+1)) x3 x4 x5 x6 x7 x8 x9))
 (none))
 (some (x0,x6,x7))
def qGB:Nat->Nat->Nat->Int->LI->LI->Int->Nat->LL->Nat->LL->Option (Nat×Nat×LL)
 | 0,_,_,_,_,_,_,_,_,_,_=>none
 | f+1,x0,x1,x2,x3,x4,x5,x6,x7,x8,x9=>qIq (qGB f) x0 x1 x2 x3 x4 x5 x6 x7 x8 x9
def qKO (x0 x1:LI) (x2:Int):Option (Nat×Nat×LL):=
 ob (qIl x0 x1 x2) fun (a3_0,a3_1,a3_2)=>
 ob (qGB qB 0 a3_0 0 x0 x1 x2 0 [] a3_1 a3_2) fun (a6_0,a6_1,a6_2)=>
 some (a6_0,a6_1,a6_2)
def qDc (x0:Int):Option (Int):=
 br (x0==1)
 (some (100))
 (br (x0==2)
 (some (300))
 (br (x0==3)
 (some (350))
 (br (x0==4)
 (some (500))
 (br (x0==5)
 (some (550))
 (br (x0==12)
 (some (550))
 (br (x0==11)
 (some (550))
 (br (x0==10)
 (some (550))
 (br (x0==9)
 (some (600))
 (br (x0==6)
 (some (850))
 (br (x0==7)
 (some (950))
 (br (x0==14)
 (some (1100))
 (br (x0==15)
 (some (1250))
 (some (0))))))))))))))
def qNS (x0:Int):Option (Int):=
 some (bif false then bif decide (wrap .i64 (4 - x0)<wrap .i64 (x0 - 4)) then wrap .i64 (4 - x0) else wrap .i64 (x0 - 4) else bif decide (wrap .i64 (4 - x0)>wrap .i64 (x0 - 4)) then wrap .i64 (4 - x0) else wrap .i64 (x0 - 4))
def qEL (x0:Int):Option (Int):=
 br (decide (x0<0))
 (some (0))
 (br (decide (x0 >= 81))
 (some (0))
 (ob (qHF x0) fun a1=>
 ob (qNS a1) fun a2=>
 ob (qGK x0) fun a3=>
 ob (qNS a3) fun a4=>
 some (wrap .i64 (4 - bif false then bif decide (a4<a2) then a4 else a2 else bif decide (a4>a2) then a4 else a2))))
def qHT (x0:Int):Option (Int):=
 br (decide (x0<1))
 (some (0))
 (br (decide (x0 >= 8))
 (some (0))
 (ob (qDc x0) fun a1=>
 ob (qDc x0) fun a2=>
 some (wrap .i64 (a1+wrap .i64 (Int.tdiv a2 10)))))
def qJH (rec:LI->Int->LI->LI->Int->LI->Option (LI×LI×Int×LI)) (x0:LI) (x1:Int) (x2 x3:LI) (x4:Int) (x5:LI):Option (LI×LI×Int×LI):=
 br (decide (x1<81))
 (br (inB x1 81)
 (ob (qAe (getD x0 (bif true then Int.toNat x1 else Int.toNat x1*1) 0)) fun a9=>
 br (decide (a9 >= 0))
 (ob (qAB (getD x0 (bif true then Int.toNat x1 else Int.toNat x1*1) 0)) fun a10=>
 br (a10 != 8)
 (br (inB a9 2)
 (ob (qAB (getD x0 (bif true then Int.toNat x1 else Int.toNat x1*1) 0)) fun a11=>
 ob (qDc a11) fun a12=>
 ob (qEL x1) fun a13=>
 br (inB a9 2)
 (rec x0 (wrap .i64 (x1+1)) x2 x3 x4 (List.set x5 (Int.toNat a9) (wrap .i64 (getD x5 (Int.toNat a9) 0+wrap .i64 (a12+a13)))))
 (none))
 (none))
 (rec x0 (wrap .i64 (x1+1)) x2 x3 x4 x5))
 (rec x0 (wrap .i64 (x1+1)) x2 x3 x4 x5))
 (none))
 (some (x2,x3,x4,x5))
def qAh:Nat->LI->Int->LI->LI->Int->LI->Option (LI×LI×Int×LI)
 | 0,_,_,_,_,_,_=>none
 | f+1,x0,x1,x2,x3,x4,x5=>qJH (qAh f) x0 x1 x2 x3 x4 x5
def qJG (rec:Int->LI->Int->LI->Int->LI->LI->Int->LI->Option (LI×Int×LI×LI×Int×LI)) (x0:Int) (x1:LI) (x2:Int) (x3:LI) (x4:Int) (x5 x6:LI) (x7:Int) (x8:LI):Option (LI×Int×LI×LI×Int×LI):=
 br (decide (x4<8))
 (br (inB x4 8)
 (br (inB x0 2)
 (ob (qHT x4) fun a22=>
 br (inB x0 2)
 (rec x0 x1 x2 x3 (wrap .i64 (x4+1)) x5 x6 x7 (List.set x8 (Int.toNat x0) (wrap .i64 (getD x8 (Int.toNat x0) 0+wrap .i64 (conv .i8 .i64 (getD x3 (bif true then Int.toNat x4 else Int.toNat x4*1) 0)*a22)))))
 (none))
 (none))
 (none))
 (some (x1,x2,x5,x6,x7,x8))
def qBA:Nat->Int->LI->Int->LI->Int->LI->LI->Int->LI->Option (LI×Int×LI×LI×Int×LI)
 | 0,_,_,_,_,_,_,_,_,_=>none
 | f+1,x0,x1,x2,x3,x4,x5,x6,x7,x8=>qJG (qBA f) x0 x1 x2 x3 x4 x5 x6 x7 x8
def qGT (rec:LI->Int->LI->LI->Int->LI->Option (LI×LI×Int×LI)) (x0:LI) (x1:Int) (x2 x3:LI) (x4:Int) (x5:LI):Option (LI×LI×Int×LI):=
 br (decide (x1<2))
 (br (inB x1 2)
 (ob (qBA qB x1 x0 x1 (take 8 (drop (Nat.add (Nat.mul (Int.toNat x1) 7) (Int.toNat x1)) x0)) 0 x2 x3 x4 x5) fun (a13_0,a13_1,a13_2,a13_3,a13_4,a13_5)=>
 rec a13_0 (wrap .i64 (a13_1+1)) a13_2 a13_3 a13_4 a13_5)
 (none))
 (some (x2,x3,x4,x5))
def qDC:Nat->LI->Int->LI->LI->Int->LI->Option (LI×LI×Int×LI)
 | 0,_,_,_,_,_,_=>none
 | f+1,x0,x1,x2,x3,x4,x5=>qGT (qDC f) x0 x1 x2 x3 x4 x5
def qDb (x0 x1:LI) (x2:Int):Option (Int):=
 ob (qAh qB x0 0 x0 x1 x2 ([0,0])) fun (a3_0,a3_1,a3_2,a3_3)=>
 ob (qDC qB a3_1 0 a3_0 a3_1 a3_2 a3_3) fun (_,_,a7_2,a7_3)=>
 br (a7_2==1)
 (some (wrap .i64 (getD a7_3 1 0 - getD a7_3 0 0)))
 (some (wrap .i64 (getD a7_3 0 0 - getD a7_3 1 0)))
def qGG (x0 x1:Int):Option (Int):=
 br (decide (x0>27000))
 (some (wrap .i64 (x0+x1)))
 (br (decide (x0 < -27000))
 (some (wrap .i64 (x0 - x1)))
 (some (x0)))
def qND (rec:Nat->Int->Int->Nat->LL->Int->Int->Int->Bool->Option ((Int×Nat×LL)⊕(Nat×LL))) (x0:Nat) (x1 x2:Int) (x3:Nat) (x4:LL) (x5 x6 x7:Int) (x8:Bool):Option ((Int×Nat×LL)⊕(Nat×LL)):=
 br (decide (x2<x1))
 (br (inB x2 x0)
 (br (x5==headD (take 4 (getD x4 (Int.toNat x2) [])) 0&&(x6==headD (tail (take 4 (getD x4 (Int.toNat x2) []))) 0&&(x7==headD (tail (tail (take 4 (getD x4 (Int.toNat x2) [])))) 0&&x8==(headD (tail (tail (tail (take 4 (getD x4 (Int.toNat x2) []))))) 0 != 0))))
 (some (.inl (x2,x3,x4)))
 (rec x0 x1 (wrap .i64 (x2+1)) x3 x4 x5 x6 x7 x8))
 (none))
 (some (.inr (x3,x4)))
def qEG:Nat->Nat->Int->Int->Nat->LL->Int->Int->Int->Bool->Option ((Int×Nat×LL)⊕(Nat×LL))
 | 0,_,_,_,_,_,_,_,_,_=>none
 | f+1,x0,x1,x2,x3,x4,x5,x6,x7,x8=>qND (qEG f) x0 x1 x2 x3 x4 x5 x6 x7 x8
def qI9 (x0:Nat) (x1 x2 x3:Int) (x4:Bool) (x5:Nat) (x6:LL):Option (Int):=
 ob (qEG qB x0 (Int.ofNat x0) 0 x5 x6 x1 x2 x3 x4) fun t7_2=>
 sw t7_2 (fun (a7_0,_,_)=>
 some (a7_0))
 (fun (_,_)=>
 some (-1))
def qMr (self:Int->Int->Int->Int->Int->Int->Nat->Int->Int->Nat->Nat->LL->LI->LI->Int->LL->LL->Nat->LL->Option ((Int×Nat×Bool×Int×Int×Nat×Int×Int×Nat×Nat×LL×LI×LI×Int×LL×LL×Nat×LL×Nat×LL)⊕(Int×Nat×Bool×Int×Int×Nat×Int×Int×Nat×Nat×LL×LI×LI×Int×LL×LL×Nat×LL×Nat×LL))) (rec:Int->Int->Int->Int->Int->Nat->Int->Nat->Int->Int->Int->Int->Nat->Int->Int->Nat->Nat->LL->LI->LI->Int->LL->LL->Nat->LL->Nat->LL->Nat->LL->Option ((Int×Int×Int×Int×Int×Nat×Bool×Int×Nat×Int×Int×Nat×Int×Int×Nat×Nat×LL×LI×LI×Int×LL×LL×Nat×LL×Nat×LL×Nat×LL)⊕(Int×Int×Int×Int×Int×Nat×Int×Int×Nat×Int×Int×Nat×Nat×LL×LI×LI×Int×LL×LL×Nat×LL×Nat×LL))) (x0 x1:Int) (x2 x3 x4:Int) (x5:Nat) (x6:Int) (x7:Nat) (x8 x9:Int) (x10 x11:Int) (x12:Nat) (x13 x14:Int) (x15 x16:Nat) (x17:LL) (x18 x19:LI) (x20:Int) (x21 x22:LL) (x23:Nat) (x24:LL) (x25:Nat) (x26:LL) (x27:Nat) (x28:LL):Option ((Int×Int×Int×Int×Int×Nat×Bool×Int×Nat×Int×Int×Nat×Int×Int×Nat×Nat×LL×LI×LI×Int×LL×LL×Nat×LL×Nat×LL×Nat×LL)⊕(Int×Int×Int×Int×Int×Nat×Int×Int×Nat×Int×Int×Nat×Nat×LL×LI×LI×Int×LL×LL×Nat×LL×Nat×LL)):=
 br (decide (x9<x8))
 (br (inB x9 x7)
 (ob (qCb (headD (take 4 (getD x28 (Int.toNat x9) [])) 0) (headD (tail (take 4 (getD x28 (Int.toNat x9) []))) 0) (headD (tail (tail (take 4 (getD x28 (Int.toNat x9) [])))) 0) (headD (tail (tail (tail (take 4 (getD x28 (Int.toNat x9) []))))) 0 != 0) x14 x15 x18 x19 x20 x21 x22 x23 x24) fun t66_2=>
 sw t66_2 (fun (_,a66_1,a66_2,a66_3,a66_4,a66_5,a66_6,a66_7,a66_8,a66_9)=>
 ob (self (wrap .i64 (x0 - 1)) (wrap .i64 (x1+1)) (wrap .i64 (0 - x3)) (wrap .i64 (0 - x6)) x10 x11 x12 x13 a66_1 a66_2 x16 x17 a66_3 a66_4 a66_5 a66_6 a66_7 a66_8 a66_9) fun t76_2=>
 sw t76_2 (fun (a76_0,a76_1,a76_2,a76_3,a76_4,a76_5,a76_6,a76_7,a76_8,a76_9,a76_10,a76_11,a76_12,a76_13,a76_14,a76_15,a76_16,a76_17,_,a76_19)=>
 ob (qEW a76_7 a76_8 a76_11 a76_12 a76_13 a76_14 a76_15 a76_16 a76_17) fun (_,a96_1,a96_2,a96_3,a96_4,a96_5,a96_6,a96_7,a96_8,a96_9)=>
 br (!a76_2)
 (some (.inl (x0,x1,x2,x3,0,0,false,x4,x5,a76_3,a76_4,a76_5,a76_6,a96_1,a96_2,a76_9,a76_10,a96_3,a96_4,a96_5,a96_6,a96_7,a96_8,a96_9,0,[],x25,x26)))
 (br (decide (wrap .i64 (0 - a76_0)>x4))
 (br (decide ((1+a76_1)*32<=140737488355328))
 (br (decide ((bif false then bif decide (wrap .i64 (0 - a76_0)<x6) then wrap .i64 (0 - a76_0) else x6 else bif decide (wrap .i64 (0 - a76_0)>x6) then wrap .i64 (0 - a76_0) else x6) >= x3))
 (some (.inr (x0,x1,x2,x3,wrap .i64 (0 - a76_0),1+a76_1,a76_3,a76_4,a76_5,a76_6,a96_1,a96_2,a76_9,a76_10,a96_3,a96_4,a96_5,a96_6,a96_7,a96_8,a96_9,1+a76_1,[headD (take 4 (getD x28 (Int.toNat x9) [])) 0,headD (tail (take 4 (getD x28 (Int.toNat x9) []))) 0,headD (tail (tail (take 4 (getD x28 (Int.toNat x9) [])))) 0,bi (headD (tail (tail (tail (take 4 (getD x28 (Int.toNat x9) []))))) 0 != 0)] :: take a76_1 a76_19)))
 (rec x0 x1 x2 x3 (wrap .i64 (0 - a76_0)) (1+a76_1) (bif false then bif decide (wrap .i64 (0 - a76_0)<x6) then wrap .i64 (0 - a76_0) else x6 else bif decide (wrap .i64 (0 - a76_0)>x6) then wrap .i64 (0 - a76_0) else x6) x7 x8 (wrap .i64 (x9+1)) a76_3 a76_4 a76_5 a76_6 a96_1 a96_2 a76_9 a76_10 a96_3 a96_4 a96_5 a96_6 a96_7 a96_8 a96_9 (1+a76_1) ([headD (take 4 (getD x28 (Int.toNat x9) [])) 0,headD (tail (take 4 (getD x28 (Int.toNat x9) []))) 0,headD (tail (tail (take 4 (getD x28 (Int.toNat x9) [])))) 0,bi (headD (tail (tail (tail (take 4 (getD x28 (Int.toNat x9) []))))) 0 != 0)] :: take a76_1 a76_19) x27 x28))
 (none))
 (br (decide ((bif false then bif decide (x4<x6) then x4 else x6 else bif decide (x4>x6) then x4 else x6) >= x3))
 (some (.inr (x0,x1,x2,x3,x4,x5,a76_3,a76_4,a76_5,a76_6,a96_1,a96_2,a76_9,a76_10,a96_3,a96_4,a96_5,a96_6,a96_7,a96_8,a96_9,x25,x26)))
 (rec x0 x1 x2 x3 x4 x5 (bif false then bif decide (x4<x6) then x4 else x6 else bif decide (x4>x6) then x4 else x6) x7 x8 (wrap .i64 (x9+1)) a76_3 a76_4 a76_5 a76_6 a96_1 a96_2 a76_9 a76_10 a96_3 a96_4 a96_5 a96_6 a96_7 a96_8 a96_9 x25 x26 x27 x28))))
 (fun (a76_0,a76_1,a76_2,a76_3,a76_4,a76_5,a76_6,a76_7,a76_8,a76_9,a76_10,a76_11,a76_12,a76_13,a76_14,a76_15,a76_16,a76_17,_,a76_19)=>
 ob (qEW a76_7 a76_8 a76_11 a76_12 a76_13 a76_14 a76_15 a76_16 a76_17) fun (_,a96_1,a96_2,a96_3,a96_4,a96_5,a96_6,a96_7,a96_8,a96_9)=>
 br (!a76_2)
 (some (.inl (x0,x1,x2,x3,0,0,false,x4,x5,a76_3,a76_4,a76_5,a76_6,a96_1,a96_2,a76_9,a76_10,a96_3,a96_4,a96_5,a96_6,a96_7,a96_8,a96_9,0,[],x25,x26)))
 (br (decide (wrap .i64 (0 - a76_0)>x4))
 (br (decide ((1+a76_1)*32<=140737488355328))
 (br (decide ((bif false then bif decide (wrap .i64 (0 - a76_0)<x6) then wrap .i64 (0 - a76_0) else x6 else bif decide (wrap .i64 (0 - a76_0)>x6) then wrap .i64 (0 - a76_0) else x6) >= x3))
 (some (.inr (x0,x1,x2,x3,wrap .i64 (0 - a76_0),1+a76_1,a76_3,a76_4,a76_5,a76_6,a96_1,a96_2,a76_9,a76_10,a96_3,a96_4,a96_5,a96_6,a96_7,a96_8,a96_9,1+a76_1,[headD (take 4 (getD x28 (Int.toNat x9) [])) 0,headD (tail (take 4 (getD x28 (Int.toNat x9) []))) 0,headD (tail (tail (take 4 (getD x28 (Int.toNat x9) [])))) 0,bi (headD (tail (tail (tail (take 4 (getD x28 (Int.toNat x9) []))))) 0 != 0)] :: take a76_1 a76_19)))
 (rec x0 x1 x2 x3 (wrap .i64 (0 - a76_0)) (1+a76_1) (bif false then bif decide (wrap .i64 (0 - a76_0)<x6) then wrap .i64 (0 - a76_0) else x6 else bif decide (wrap .i64 (0 - a76_0)>x6) then wrap .i64 (0 - a76_0) else x6) x7 x8 (wrap .i64 (x9+1)) a76_3 a76_4 a76_5 a76_6 a96_1 a96_2 a76_9 a76_10 a96_3 a96_4 a96_5 a96_6 a96_7 a96_8 a96_9 (1+a76_1) ([headD (take 4 (getD x28 (Int.toNat x9) [])) 0,headD (tail (take 4 (getD x28 (Int.toNat x9) []))) 0,headD (tail (tail (take 4 (getD x28 (Int.toNat x9) [])))) 0,bi (headD (tail (tail (tail (take 4 (getD x28 (Int.toNat x9) []))))) 0 != 0)] :: take a76_1 a76_19) x27 x28))
 (none))
 (br (decide ((bif false then bif decide (x4<x6) then x4 else x6 else bif decide (x4>x6) then x4 else x6) >= x3))
 (some (.inr (x0,x1,x2,x3,x4,x5,a76_3,a76_4,a76_5,a76_6,a96_1,a96_2,a76_9,a76_10,a96_3,a96_4,a96_5,a96_6,a96_7,a96_8,a96_9,x25,x26)))
 (rec x0 x1 x2 x3 x4 x5 (bif false then bif decide (x4<x6) then x4 else x6 else bif decide (x4>x6) then x4 else x6) x7 x8 (wrap .i64 (x9+1)) a76_3 a76_4 a76_5 a76_6 a96_1 a96_2 a76_9 a76_10 a96_3 a96_4 a96_5 a96_6 a96_7 a96_8 a96_9 x25 x26 x27 x28)))))
 (fun (_,a66_1,a66_2,a66_3,a66_4,a66_5,a66_6,a66_7,a66_8,a66_9)=>
 ob (self (wrap .i64 (x0 - 1)) (wrap .i64 (x1+1)) (wrap .i64 (0 - x3)) (wrap .i64 (0 - x6)) x10 x11 x12 x13 a66_1 a66_2 x16 x17 a66_3 a66_4 a66_5 a66_6 a66_7 a66_8 a66_9) fun t76_2=>
 sw t76_2 (fun (a76_0,a76_1,a76_2,a76_3,a76_4,a76_5,a76_6,a76_7,a76_8,a76_9,a76_10,a76_11,a76_12,a76_13,a76_14,a76_15,a76_16,a76_17,_,a76_19)=>
 ob (qEW a76_7 a76_8 a76_11 a76_12 a76_13 a76_14 a76_15 a76_16 a76_17) fun (_,a96_1,a96_2,a96_3,a96_4,a96_5,a96_6,a96_7,a96_8,a96_9)=>
 br (!a76_2)
 (some (.inl (x0,x1,x2,x3,0,0,false,x4,x5,a76_3,a76_4,a76_5,a76_6,a96_1,a96_2,a76_9,a76_10,a96_3,a96_4,a96_5,a96_6,a96_7,a96_8,a96_9,0,[],x25,x26)))
 (br (decide (wrap .i64 (0 - a76_0)>x4))
 (br (decide ((1+a76_1)*32<=140737488355328))
 (br (decide ((bif false then bif decide (wrap .i64 (0 - a76_0)<x6) then wrap .i64 (0 - a76_0) else x6 else bif decide (wrap .i64 (0 - a76_0)>x6) then wrap .i64 (0 - a76_0) else x6) >= x3))
 (some (.inr (x0,x1,x2,x3,wrap .i64 (0 - a76_0),1+a76_1,a76_3,a76_4,a76_5,a76_6,a96_1,a96_2,a76_9,a76_10,a96_3,a96_4,a96_5,a96_6,a96_7,a96_8,a96_9,1+a76_1,[headD (take 4 (getD x28 (Int.toNat x9) [])) 0,headD (tail (take 4 (getD x28 (Int.toNat x9) []))) 0,headD (tail (tail (take 4 (getD x28 (Int.toNat x9) [])))) 0,bi (headD (tail (tail (tail (take 4 (getD x28 (Int.toNat x9) []))))) 0 != 0)] :: take a76_1 a76_19)))
 (rec x0 x1 x2 x3 (wrap .i64 (0 - a76_0)) (1+a76_1) (bif false then bif decide (wrap .i64 (0 - a76_0)<x6) then wrap .i64 (0 - a76_0) else x6 else bif decide (wrap .i64 (0 - a76_0)>x6) then wrap .i64 (0 - a76_0) else x6) x7 x8 (wrap .i64 (x9+1)) a76_3 a76_4 a76_5 a76_6 a96_1 a96_2 a76_9 a76_10 a96_3 a96_4 a96_5 a96_6 a96_7 a96_8 a96_9 (1+a76_1) ([headD (take 4 (getD x28 (Int.toNat x9) [])) 0,headD (tail (take 4 (getD x28 (Int.toNat x9) []))) 0,headD (tail (tail (take 4 (getD x28 (Int.toNat x9) [])))) 0,bi (headD (tail (tail (tail (take 4 (getD x28 (Int.toNat x9) []))))) 0 != 0)] :: take a76_1 a76_19) x27 x28))
 (none))
 (br (decide ((bif false then bif decide (x4<x6) then x4 else x6 else bif decide (x4>x6) then x4 else x6) >= x3))
 (some (.inr (x0,x1,x2,x3,x4,x5,a76_3,a76_4,a76_5,a76_6,a96_1,a96_2,a76_9,a76_10,a96_3,a96_4,a96_5,a96_6,a96_7,a96_8,a96_9,x25,x26)))
 (rec x0 x1 x2 x3 x4 x5 (bif false then bif decide (x4<x6) then x4 else x6 else bif decide (x4>x6) then x4 else x6) x7 x8 (wrap .i64 (x9+1)) a76_3 a76_4 a76_5 a76_6 a96_1 a96_2 a76_9 a76_10 a96_3 a96_4 a96_5 a96_6 a96_7 a96_8 a96_9 x25 x26 x27 x28))))
 (fun (a76_0,a76_1,a76_2,a76_3,a76_4,a76_5,a76_6,a76_7,a76_8,a76_9,a76_10,a76_11,a76_12,a76_13,a76_14,a76_15,a76_16,a76_17,_,a76_19)=>
 ob (qEW a76_7 a76_8 a76_11 a76_12 a76_13 a76_14 a76_15 a76_16 a76_17) fun (_,a96_1,a96_2,a96_3,a96_4,a96_5,a96_6,a96_7,a96_8,a96_9)=>
 br (!a76_2)
 (some (.inl (x0,x1,x2,x3,0,0,false,x4,x5,a76_3,a76_4,a76_5,a76_6,a96_1,a96_2,a76_9,a76_10,a96_3,a96_4,a96_5,a96_6,a96_7,a96_8,a96_9,0,[],x25,x26)))
 (br (decide (wrap .i64 (0 - a76_0)>x4))
 (br (decide ((1+a76_1)*32<=140737488355328))
 (br (decide ((bif false then bif decide (wrap .i64 (0 - a76_0)<x6) then wrap .i64 (0 - a76_0) else x6 else bif decide (wrap .i64 (0 - a76_0)>x6) then wrap .i64 (0 - a76_0) else x6) >= x3))
 (some (.inr (x0,x1,x2,x3,wrap .i64 (0 - a76_0),1+a76_1,a76_3,a76_4,a76_5,a76_6,a96_1,a96_2,a76_9,a76_10,a96_3,a96_4,a96_5,a96_6,a96_7,a96_8,a96_9,1+a76_1,[headD (take 4 (getD x28 (Int.toNat x9) [])) 0,headD (tail (take 4 (getD x28 (Int.toNat x9) []))) 0,headD (tail (tail (take 4 (getD x28 (Int.toNat x9) [])))) 0,bi (headD (tail (tail (tail (take 4 (getD x28 (Int.toNat x9) []))))) 0 != 0)] :: take a76_1 a76_19)))
 (rec x0 x1 x2 x3 (wrap .i64 (0 - a76_0)) (1+a76_1) (bif false then bif decide (wrap .i64 (0 - a76_0)<x6) then wrap .i64 (0 - a76_0) else x6 else bif decide (wrap .i64 (0 - a76_0)>x6) then wrap .i64 (0 - a76_0) else x6) x7 x8 (wrap .i64 (x9+1)) a76_3 a76_4 a76_5 a76_6 a96_1 a96_2 a76_9 a76_10 a96_3 a96_4 a96_5 a96_6 a96_7 a96_8 a96_9 (1+a76_1) ([headD (take 4 (getD x28 (Int.toNat x9) [])) 0,headD (tail (take 4 (getD x28 (Int.toNat x9) []))) 0,headD (tail (tail (take 4 (getD x28 (Int.toNat x9) [])))) 0,bi (headD (tail (tail (tail (take 4 (getD x28 (Int.toNat x9) []))))) 0 != 0)] :: take a76_1 a76_19) x27 x28))
 (none))
 (br (decide ((bif false then bif decide (x4<x6) then x4 else x6 else bif decide (x4>x6) then x4 else x6) >= x3))
 (some (.inr (x0,x1,x2,x3,x4,x5,a76_3,a76_4,a76_5,a76_6,a96_1,a96_2,a76_9,a76_10,a96_3,a96_4,a96_5,a96_6,a96_7,a96_8,a96_9,x25,x26)))
 (rec x0 x1 x2 x3 x4 x5 (bif false then bif decide (x4<x6) then x4 else x6 else bif decide (x4>x6) then x4 else x6) x7 x8 (wrap .i64 (x9+1)) a76_3 a76_4 a76_5 a76_6 a96_1 a96_2 a76_9 a76_10 a96_3 a96_4 a96_5 a96_6 a96_7 a96_8 a96_9 x25 x26 x27 x28))))))
 (none))
 (some (.inr (x0,x1,x2,x3,x4,x5,x10,x11,x12,x13,x14,x15,x16,x17,x18,x19,x20,x21,x22,x23,x24,x25,x26)))
def qCo (self:Int->Int->Int->Int->Int->Int->Nat->Int->Int->Nat->Nat->LL->LI->LI->Int->LL->LL->Nat->LL->Option ((Int×Nat×Bool×Int×Int×Nat×Int×Int×Nat×Nat×LL×LI×LI×Int×LL×LL×Nat×LL×Nat×LL)⊕(Int×Nat×Bool×Int×Int×Nat×Int×Int×Nat×Nat×LL×LI×LI×Int×LL×LL×Nat×LL×Nat×LL))):Nat->Int->Int->Int->Int->Int->Nat->Int->Nat->Int->Int->Int->Int->Nat->Int->Int->Nat->Nat->LL->LI->LI->Int->LL->LL->Nat->LL->Nat->LL->Nat->LL->Option ((Int×Int×Int×Int×Int×Nat×Bool×Int×Nat×Int×Int×Nat×Int×Int×Nat×Nat×LL×LI×LI×Int×LL×LL×Nat×LL×Nat×LL×Nat×LL)⊕(Int×Int×Int×Int×Int×Nat×Int×Int×Nat×Int×Int×Nat×Nat×LL×LI×LI×Int×LL×LL×Nat×LL×Nat×LL))
 | 0,_,_,_,_,_,_,_,_,_,_,_,_,_,_,_,_,_,_,_,_,_,_,_,_,_,_,_,_,_=>none
 | f+1,x0,x1,x2,x3,x4,x5,x6,x7,x8,x9,x10,x11,x12,x13,x14,x15,x16,x17,x18,x19,x20,x21,x22,x23,x24,x25,x26,x27,x28=>qMr self (qCo self f) x0 x1 x2 x3 x4 x5 x6 x7 x8 x9 x10 x11 x12 x13 x14 x15 x16 x17 x18 x19 x20 x21 x22 x23 x24 x25 x26 x27 x28
def qIN (self:Int->Int->Int->Int->Int->Int->Nat->Int->Int->Nat->Nat->LL->LI->LI->Int->LL->LL->Nat->LL->Option ((Int×Nat×Bool×Int×Int×Nat×Int×Int×Nat×Nat×LL×LI×LI×Int×LL×LL×Nat×LL×Nat×LL)⊕(Int×Nat×Bool×Int×Int×Nat×Int×Int×Nat×Nat×LL×LI×LI×Int×LL×LL×Nat×LL×Nat×LL))) (x0 x1:Int) (x2 x3:Int) (x4 x5:Int) (x6:Nat) (x7 x8:Int) (x9 x10:Nat) (x11:LL) (x12 x13:LI) (x14:Int) (x15 x16:LL) (x17:Nat) (x18:LL) (ln ln2:Nat) (M:LL):Option ((Int×Nat×Bool×Int×Int×Nat×Int×Int×Nat×Nat×LL×LI×LI×Int×LL×LL×Nat×LL×Nat×LL)⊕(Int×Nat×Bool×Int×Int×Nat×Int×Int×Nat×Nat×LL×LI×LI×Int×LL×LL×Nat×LL×Nat×LL)):=
 (ob (qCo self qB x0 x1 x2 x3 (-60000) 0 x2 ln (Int.ofNat ln) 0 (wrap .i64 (x4+1)) x5 x6 x7 x8 x9 x10 x11 x12 x13 x14 x15 x16 x17 x18 0 [] ln2 M) fun t37_2=>
 sw t37_2 (fun (_,_,_,_,a37_4,a37_5,a37_6,_,_,a37_9,a37_10,a37_11,a37_12,a37_13,a37_14,a37_15,a37_16,a37_17,a37_18,a37_19,a37_20,a37_21,a37_22,a37_23,a37_24,a37_25,_,_)=>
 some (.inr (a37_4,a37_5,a37_6,a37_9,a37_10,a37_11,a37_12,a37_13,a37_14,a37_15,a37_16,a37_17,a37_18,a37_19,a37_20,a37_21,a37_22,a37_23,a37_24,a37_25)))
 (fun (a37_0,a37_1,a37_2,a37_3,a37_4,a37_5,a37_6,a37_7,a37_8,a37_9,a37_10,a37_11,a37_12,a37_13,a37_14,a37_15,a37_16,a37_17,a37_18,a37_19,a37_20,a37_21,a37_22)=>
 ob (qGG a37_4 a37_1) fun a60=>
 br (inB 0 a37_5)
 (br (decide (a37_4 >= a37_3))
 (ob (qFB a37_14 a37_15 a37_16 a37_0 a60 1 (headD (take 4 (getD a37_22 0 [])) 0) (headD (tail (take 4 (getD a37_22 0 []))) 0) (headD (tail (tail (take 4 (getD a37_22 0 [])))) 0) (headD (tail (tail (tail (take 4 (getD a37_22 0 []))))) 0 != 0) a37_8 a37_9 a37_12 a37_13) fun (a61_0,a61_1,a61_2,a61_3)=>
 some (.inr (a37_4,a37_5,true,a37_6,a37_7,a61_0,a61_1,a37_10,a37_11,a61_2,a61_3,a37_14,a37_15,a37_16,a37_17,a37_18,a37_19,a37_20,a37_21,a37_22)))
 (br (decide (a37_4<=a37_2))
 (ob (qFB a37_14 a37_15 a37_16 a37_0 a60 2 (headD (take 4 (getD a37_22 0 [])) 0) (headD (tail (take 4 (getD a37_22 0 []))) 0) (headD (tail (tail (take 4 (getD a37_22 0 [])))) 0) (headD (tail (tail (tail (take 4 (getD a37_22 0 []))))) 0 != 0) a37_8 a37_9 a37_12 a37_13) fun (a61_0,a61_1,a61_2,a61_3)=>
 some (.inr (a37_4,a37_5,true,a37_6,a37_7,a61_0,a61_1,a37_10,a37_11,a61_2,a61_3,a37_14,a37_15,a37_16,a37_17,a37_18,a37_19,a37_20,a37_21,a37_22)))
 (ob (qFB a37_14 a37_15 a37_16 a37_0 a60 0 (headD (take 4 (getD a37_22 0 [])) 0) (headD (tail (take 4 (getD a37_22 0 []))) 0) (headD (tail (tail (take 4 (getD a37_22 0 [])))) 0) (headD (tail (tail (tail (take 4 (getD a37_22 0 []))))) 0 != 0) a37_8 a37_9 a37_12 a37_13) fun (a61_0,a61_1,a61_2,a61_3)=>
 some (.inr (a37_4,a37_5,true,a37_6,a37_7,a61_0,a61_1,a37_10,a37_11,a61_2,a61_3,a37_14,a37_15,a37_16,a37_17,a37_18,a37_19,a37_20,a37_21,a37_22)))))
 (none)))
def qCK (self:Int->Int->Int->Int->Int->Int->Nat->Int->Int->Nat->Nat->LL->LI->LI->Int->LL->LL->Nat->LL->Option ((Int×Nat×Bool×Int×Int×Nat×Int×Int×Nat×Nat×LL×LI×LI×Int×LL×LL×Nat×LL×Nat×LL)⊕(Int×Nat×Bool×Int×Int×Nat×Int×Int×Nat×Nat×LL×LI×LI×Int×LL×LL×Nat×LL×Nat×LL))) (x0 x1:Int) (x2 x3:Int) (x4 x5:Int) (x6:Nat) (x7 x8:Int) (x9 x10:Nat) (x11:LL) (x12 x13:LI) (x14:Int) (x15 x16:LL) (x17:Nat) (x18:LL) (ln ln2:Nat) (M:LL) (f t d:Int) (p:Bool):Option ((Int×Nat×Bool×Int×Int×Nat×Int×Int×Nat×Nat×LL×LI×LI×Int×LL×LL×Nat×LL×Nat×LL)⊕(Int×Nat×Bool×Int×Int×Nat×Int×Int×Nat×Nat×LL×LI×LI×Int×LL×LL×Nat×LL×Nat×LL)):=
 (ob (qI9 ln f t d p ln2 M) fun a36=>
 br (decide (a36>0))
 (br (qEb (wrap .i64 (a36+1)) ln)
 (br (true&&decide (1<Int.ofNat (Int.toNat (wrap .i64 (a36+1)))))
 (br (qEb a36 ln)
 (br (inB 0 ln)
 (qIN self x0 x1 x2 x3 x4 x5 x6 x7 x8 x9 x10 x11 x12 x13 x14 x15 x16 x17 x18 ln ln2 (List.set (List.append (take 1 M) (List.append (take (Nat.min (Int.toNat a36 - 0) (Int.toNat (wrap .i64 (a36+1)) - 1)) M) (drop (1+Nat.min (Int.toNat a36 - 0) (Int.toNat (wrap .i64 (a36+1)) - 1)) M))) 0 (f :: t :: d :: bi p :: drop 4 (getD (List.append (take 1 M) (List.append (take (Nat.min (Int.toNat a36 - 0) (Int.toNat (wrap .i64 (a36+1)) - 1)) M) (drop (1+Nat.min (Int.toNat a36 - 0) (Int.toNat (wrap .i64 (a36+1)) - 1)) M))) 0 []))))
 (none))
 (none))
 (none))
 (none))
 (qIN self x0 x1 x2 x3 x4 x5 x6 x7 x8 x9 x10 x11 x12 x13 x14 x15 x16 x17 x18 ln ln2 M))
def qcc (self:Int->Int->Int->Int->Int->Int->Nat->Int->Int->Nat->Nat->LL->LI->LI->Int->LL->LL->Nat->LL->Option ((Int×Nat×Bool×Int×Int×Nat×Int×Int×Nat×Nat×LL×LI×LI×Int×LL×LL×Nat×LL×Nat×LL)⊕(Int×Nat×Bool×Int×Int×Nat×Int×Int×Nat×Nat×LL×LI×LI×Int×LL×LL×Nat×LL×Nat×LL))) (x0 x1:Int) (x2 x3:Int) (x4 x5:Int) (x6:Nat) (x7 x8:Int) (x9 x10:Nat) (x11:LL) (x12 x13:LI) (x14:Int) (x15 x16:LL) (x17:Nat) (x18:LL):Option ((Int×Nat×Bool×Int×Int×Nat×Int×Int×Nat×Nat×LL×LI×LI×Int×LL×LL×Nat×LL×Nat×LL)⊕(Int×Nat×Bool×Int×Int×Nat×Int×Int×Nat×Nat×LL×LI×LI×Int×LL×LL×Nat×LL×Nat×LL)):=
 br (decide (x4 >= x5))
 (some (.inl (0,0,false,x4,x5,x6,x7,x8,x9,x10,x11,x12,x13,x14,x15,x16,x17,x18,0,[])))
 (ob (qDN x12 x13 x14 x15 x16) fun (a19_0,a19_1,a19_2,a19_3,a19_4,a19_5,a19_6,a19_7)=>
 br (Int.ofNat a19_0==0)
 (some (.inl (wrap .i64 (x1 - 30000),0,true,wrap .i64 (x4+1),x5,x6,x7,x8,x9,x10,x11,a19_1,a19_2,a19_3,a19_4,a19_5,x17,x18,0,[])))
 (br (x0==0)
 (ob (qDb a19_1 a19_2 a19_3) fun a27=>
 some (.inl (a27,0,true,wrap .i64 (x4+1),x5,x6,x7,x8,x9,x10,x11,a19_1,a19_2,a19_3,a19_4,a19_5,x17,x18,0,[])))
 (ob (qEK a19_1 a19_2 a19_3 x6 x7 x10 x11) fun (a27_0,a27_1,a27_2,a27_3,a27_4,a27_5,a27_6,a27_7)=>
 br (a27_7)
 (ob (qGG a27_1 (wrap .i64 (0 - x1))) fun a35=>
 br (a27_0==x0)
 (br (decide (x1>0))
 (br (a27_2==0)
 (some (.inl (a35,1,true,wrap .i64 (x4+1),x5,x6,x7,x8,x9,x10,x11,a19_1,a19_2,a19_3,a19_4,a19_5,x17,x18,1,[[a27_3,a27_4,a27_5,bi a27_6]])))
 (br (a27_2==1)
 (br (decide (a35 >= x3))
 (some (.inl (a35,1,true,wrap .i64 (x4+1),x5,x6,x7,x8,x9,x10,x11,a19_1,a19_2,a19_3,a19_4,a19_5,x17,x18,1,[[a27_3,a27_4,a27_5,bi a27_6]])))
 (br (a27_2==2)
 (br (decide (a35<=x2))
 (some (.inl (a35,1,true,wrap .i64 (x4+1),x5,x6,x7,x8,x9,x10,x11,a19_1,a19_2,a19_3,a19_4,a19_5,x17,x18,1,[[a27_3,a27_4,a27_5,bi a27_6]])))
 (qCK self x0 x1 x2 x3 x4 x5 x6 x7 x8 x9 x10 x11 a19_1 a19_2 a19_3 a19_4 a19_5 x17 x18 a19_0 a19_6 a19_7 a27_3 a27_4 a27_5 a27_6))
 (qCK self x0 x1 x2 x3 x4 x5 x6 x7 x8 x9 x10 x11 a19_1 a19_2 a19_3 a19_4 a19_5 x17 x18 a19_0 a19_6 a19_7 a27_3 a27_4 a27_5 a27_6)))
 (br (a27_2==2)
 (br (decide (a35<=x2))
 (some (.inl (a35,1,true,wrap .i64 (x4+1),x5,x6,x7,x8,x9,x10,x11,a19_1,a19_2,a19_3,a19_4,a19_5,x17,x18,1,[[a27_3,a27_4,a27_5,bi a27_6]])))
 (qCK self x0 x1 x2 x3 x4 x5 x6 x7 x8 x9 x10 x11 a19_1 a19_2 a19_3 a19_4 a19_5 x17 x18 a19_0 a19_6 a19_7 a27_3 a27_4 a27_5 a27_6))
 (qCK self x0 x1 x2 x3 x4 x5 x6 x7 x8 x9 x10 x11 a19_1 a19_2 a19_3 a19_4 a19_5 x17 x18 a19_0 a19_6 a19_7 a27_3 a27_4 a27_5 a27_6))))
 (qCK self x0 x1 x2 x3 x4 x5 x6 x7 x8 x9 x10 x11 a19_1 a19_2 a19_3 a19_4 a19_5 x17 x18 a19_0 a19_6 a19_7 a27_3 a27_4 a27_5 a27_6))
 (qCK self x0 x1 x2 x3 x4 x5 x6 x7 x8 x9 x10 x11 a19_1 a19_2 a19_3 a19_4 a19_5 x17 x18 a19_0 a19_6 a19_7 a27_3 a27_4 a27_5 a27_6))
 (qIN self x0 x1 x2 x3 x4 x5 x6 x7 x8 x9 x10 x11 a19_1 a19_2 a19_3 a19_4 a19_5 x17 x18 a19_0 a19_6 a19_7))))
def qCP:Nat->Int->Int->Int->Int->Int->Int->Nat->Int->Int->Nat->Nat->LL->LI->LI->Int->LL->LL->Nat->LL->Option ((Int×Nat×Bool×Int×Int×Nat×Int×Int×Nat×Nat×LL×LI×LI×Int×LL×LL×Nat×LL×Nat×LL)⊕(Int×Nat×Bool×Int×Int×Nat×Int×Int×Nat×Nat×LL×LI×LI×Int×LL×LL×Nat×LL×Nat×LL))
 | 0,_,_,_,_,_,_,_,_,_,_,_,_,_,_,_,_,_,_,_=>none
 | f+1,x0,x1,x2,x3,x4,x5,x6,x7,x8,x9,x10,x11,x12,x13,x14,x15,x16,x17,x18=>qcc (qCP f) x0 x1 x2 x3 x4 x5 x6 x7 x8 x9 x10 x11 x12 x13 x14 x15 x16 x17 x18
def qKY (rec:Int->Int->Int->Int->Nat->Int->Nat->LL->Int->Nat->Int->Int->Nat->Int->Bool->Int->Int->Nat->Nat->Int->Bool->LI->LI->Int->LL->LL->Nat->LL->Nat->LL->Nat->LL->Option (Int×Int×Nat×Int×Nat×LL×Int×Nat×Int×Int×Nat×Int×Bool×Int×Int×Nat×Nat×Int×Bool×LI×LI×Int×LL×LL×Nat×LL×Nat×LL×Nat×LL)) (x0 x1:Int) (x2 x3:Int) (x4:Nat) (x5:Int) (x6:Nat) (x7:LL) (x8:Int) (x9:Nat) (x10 x11:Int) (x12:Nat) (x13:Int) (x14:Bool) (x15 x16:Int) (x17 x18:Nat) (x19:Int) (x20:Bool) (x21 x22:LI) (x23:Int) (x24 x25:LL) (x26:Nat) (x27:LL) (x28:Nat) (x29:LL) (x30:Nat) (x31:LL):Option (Int×Int×Nat×Int×Nat×LL×Int×Nat×Int×Int×Nat×Int×Bool×Int×Int×Nat×Nat×Int×Bool×LI×LI×Int×LL×LL×Nat×LL×Nat×LL×Nat×LL):=
 br (decide (x1<=bif true then bif decide (64<x0) then 64 else x0 else bif decide (64>x0) then 64 else x0))
 (ob (qCP qB x1 0 (-60000) 60000 x2 x3 x4 x5 x8 x9 x6 x7 x21 x22 x23 x24 x25 x26 x27) fun t60_2=>
 sw t60_2 (fun (a60_0,a60_1,a60_2,a60_3,a60_4,a60_5,a60_6,a60_7,a60_8,a60_9,a60_10,a60_11,a60_12,a60_13,a60_14,a60_15,a60_16,a60_17,a60_18,a60_19)=>
 br (!a60_2)
 (some (a60_3,a60_4,a60_5,a60_6,a60_9,a60_10,a60_7,a60_8,x10,x11,x12,x13,x14,x15,x16,x17,x18,x19,true,a60_11,a60_12,a60_13,a60_14,a60_15,a60_16,a60_17,x28,x29,x30,x31))
 (rec x0 (wrap .i64 (x1+1)) a60_3 a60_4 a60_5 a60_6 a60_9 a60_10 a60_7 a60_8 x10 x11 x12 x13 x14 x1 a60_0 0 a60_1 x19 x20 a60_11 a60_12 a60_13 a60_14 a60_15 a60_16 a60_17 x28 x29 a60_18 a60_19))
 (fun (a60_0,a60_1,a60_2,a60_3,a60_4,a60_5,a60_6,a60_7,a60_8,a60_9,a60_10,a60_11,a60_12,a60_13,a60_14,a60_15,a60_16,a60_17,a60_18,a60_19)=>
 br (!a60_2)
 (some (a60_3,a60_4,a60_5,a60_6,a60_9,a60_10,a60_7,a60_8,x10,x11,x12,x13,x14,x15,x16,x17,x18,x19,true,a60_11,a60_12,a60_13,a60_14,a60_15,a60_16,a60_17,x28,x29,x30,x31))
 (rec x0 (wrap .i64 (x1+1)) a60_3 a60_4 a60_5 a60_6 a60_9 a60_10 a60_7 a60_8 x10 x11 x12 x13 x14 x1 a60_0 0 a60_1 x19 x20 a60_11 a60_12 a60_13 a60_14 a60_15 a60_16 a60_17 x28 x29 a60_18 a60_19)))
 (some (x2,x3,x4,x5,x6,x7,x8,x9,x10,x11,x12,x13,x14,x15,x16,x17,x18,x19,x20,x21,x22,x23,x24,x25,x26,x27,x28,x29,x30,x31))
def qDW:Nat->Int->Int->Int->Int->Nat->Int->Nat->LL->Int->Nat->Int->Int->Nat->Int->Bool->Int->Int->Nat->Nat->Int->Bool->LI->LI->Int->LL->LL->Nat->LL->Nat->LL->Nat->LL->Option (Int×Int×Nat×Int×Nat×LL×Int×Nat×Int×Int×Nat×Int×Bool×Int×Int×Nat×Nat×Int×Bool×LI×LI×Int×LL×LL×Nat×LL×Nat×LL×Nat×LL)
 | 0,_,_,_,_,_,_,_,_,_,_,_,_,_,_,_,_,_,_,_,_,_,_,_,_,_,_,_,_,_,_,_,_=>none
 | f+1,x0,x1,x2,x3,x4,x5,x6,x7,x8,x9,x10,x11,x12,x13,x14,x15,x16,x17,x18,x19,x20,x21,x22,x23,x24,x25,x26,x27,x28,x29,x30,x31=>qKY (qDW f) x0 x1 x2 x3 x4 x5 x6 x7 x8 x9 x10 x11 x12 x13 x14 x15 x16 x17 x18 x19 x20 x21 x22 x23 x24 x25 x26 x27 x28 x29 x30 x31
def qE1 (x0 x1:LI) (x2 x3:Int) (x4 _x5 _x6:Int) (x7:Nat) (x8:Int) (x9:Nat) (x10:LL):Option ((Int×Int×Nat×Int×Bool×Int×Int×Nat×Int×Nat×LL×Nat×LL)⊕(Int×Int×Nat×Nat×Int×Bool×Int×Int×Nat×Int×Nat×LL×Nat×LL)):=
 ob (qFZ x0 x1 x2) fun (a11_0,a11_1,a11_2,a11_3,a11_4,a11_5,a11_6,a11_7,a11_8)=>
 ob (qDN a11_2 a11_3 a11_4 a11_5 a11_6) fun (a20_0,a20_1,a20_2,a20_3,a20_4,a20_5,a20_6,a20_7)=>
 br (Int.ofNat a20_0==0)
 (some (.inl (0,-30000,0,0,false,0,x4,x7,x8,x9,x10,0,[])))
 (br (qEb 1 a20_0)
 (br (true&&decide (1<=Int.ofNat a20_0))
 (ob (qDW qB x3 1 0 x4 x7 x8 x9 x10 a11_0 a11_1 0 0 0 0 false 0 0 0 1 0 false a20_1 a20_2 a20_3 a20_4 a20_5 a11_7 a11_8 0 [] a20_6 a20_7) fun (a28_0,a28_1,a28_2,a28_3,a28_4,a28_5,_,_,_,_,_,_,_,a28_13,a28_14,a28_15,a28_16,_,a28_18,_,_,_,_,_,_,_,_,_,a28_28,a28_29)=>
 some (.inr (a28_13,a28_14,a28_15,a28_16,a28_0,a28_18,a28_0,a28_1,a28_2,a28_3,a28_4,a28_5,a28_28,a28_29)))
 (none))
 (none))
def qGQ (x0:Int):Option ((Unit)⊕(Nat×Nat×LL)):=
 br (decide (x0<1))
 (some (.inl ()))
 (br (decide (x0>65536))
 (some (.inl ()))
 (br (decide (0<=x0))
 (br (decide (x0<=x0))
 (br (decide (160*x0<=281474976710656))
 (some (.inr (Int.toNat x0,Int.toNat x0,replicate (Int.toNat x0) [0,0,0,0,0,0,0,0,0,0,0,0,0,0,0,0,0,0,0,0,0,0,0,0,0,0,0,0,0,0,0,0,0,0,0,0,0,0,0,0,0,0,0,0,0,0,0,0,0,0,0,0,0,0,0,0,0,0,0,0,0,0,0,0,0,0,0,0,0,0,0,0,0,0,0,0,0,0,0,0,0,0,0,0,0,0,0,0,0,0,0,0,0,0,0,0,0,0,0,0,0,0,0,0,0,0])))
 (none))
 (none))
 (none)))
def qGF (x0:Int):Option ((Unit)⊕(Nat×Nat×LL)):=
 ob (qGQ x0) fun t1_2=>
 sw t1_2 (fun _=>
 some (.inl ()))
 (fun (a1_0,a1_1,a1_2)=>
 some (.inr (a1_0,a1_1,a1_2)))
def qG5:Option (Nat×Nat×LI):=
 some (16,16,[0,100,300,350,500,550,850,950,0,600,550,550,550,0,1100,1250])
def qMi (x0:Int):Option (Int):=
 br (decide (x0<0))
 (some (wrap .i64 (0 - x0)))
 (some (x0))
def qKT (x0:Int):Option (Int):=
 ob (qMi (wrap .i64 (wrap .i64 (Int.tdiv x0 9) - 4))) fun a1=>
 ob (qMi (wrap .i64 (Int.tmod x0 9 - 4))) fun a2=>
 br (decide (a2>a1))
 (some (wrap .i64 (4 - a2)))
 (some (wrap .i64 (4 - a1)))
def qMg (rec:Int->Int->Int->LI->LI->Int->Option (Int×Int×LI×LI×Int)) (x0 x1 x2:Int) (x3 x4:LI) (x5:Int):Option (Int×Int×LI×LI×Int):=
 br (decide (x2<81))
 (br (inB x2 81)
 (ob (qA9 (conv .i8 .i64 (getD x3 (Int.toNat x2) 0))) fun a10=>
 br (a10==x0)
 (ob (qAP (conv .i8 .i64 (getD x3 (Int.toNat x2) 0))) fun a11=>
 br (a11 != 8)
 (ob (qG5 ) fun (a12_0,_,a12_2)=>
 ob (qAP (conv .i8 .i64 (getD x3 (Int.toNat x2) 0))) fun a15=>
 br (inB a15 a12_0)
 (ob (qKT x2) fun a16=>
 rec x0 (wrap .i64 (x1+wrap .i64 (getD a12_2 (Int.toNat a15) 0+a16))) (wrap .i64 (x2+1)) x3 x4 x5)
 (none))
 (rec x0 x1 (wrap .i64 (x2+1)) x3 x4 x5))
 (rec x0 x1 (wrap .i64 (x2+1)) x3 x4 x5))
 (none))
 (some (x0,x1,x3,x4,x5))
def qEy:Nat->Int->Int->Int->LI->LI->Int->Option (Int×Int×LI×LI×Int)
 | 0,_,_,_,_,_,_=>none
 | f+1,x0,x1,x2,x3,x4,x5=>qMg (qEy f) x0 x1 x2 x3 x4 x5
def qMh (rec:Int->Int->Int->LI->LI->Int->Option (Int)) (x0 x1 x2:Int) (x3 x4:LI) (x5:Int):Option (Int):=
 br (decide (x2<=7))
 (br (inB x0 2)
 (br (inB x2 8)
 (ob (qG5 ) fun (a15_0,_,a15_2)=>
 br (inB x2 a15_0)
 (ob (qG5 ) fun (a18_0,_,a18_2)=>
 br (inB x2 a18_0)
 (rec x0 (wrap .i64 (x1+wrap .i64 (conv .i8 .i64 (getD x4 (Int.toNat x0*8+Int.toNat x2) 0)*wrap .i64 (getD a15_2 (Int.toNat x2) 0+wrap .i64 (Int.tdiv (getD a18_2 (Int.toNat x2) 0) 10))))) (wrap .i64 (x2+1)) x3 x4 x5)
 (none))
 (none))
 (none))
 (none))
 (some (x1))
def qGD:Nat->Int->Int->Int->LI->LI->Int->Option (Int)
 | 0,_,_,_,_,_,_=>none
 | f+1,x0,x1,x2,x3,x4,x5=>qMh (qGD f) x0 x1 x2 x3 x4 x5
def qD9 (x0 x1:LI) (x2 x3:Int):Option (Int):=
 ob (qEy qB x3 0 0 x0 x1 x2) fun (a4_0,a4_1,a4_2,a4_3,a4_4)=>
 ob (qGD qB a4_0 a4_1 1 a4_2 a4_3 a4_4) fun a9=>
 some (a9)
def qKS (x0 x1:LI) (x2:Int):Option (Int):=
 br (x2==1)
 (ob (qD9 x0 x1 x2 1) fun a3=>
 ob (qD9 x0 x1 x2 0) fun a4=>
 some (wrap .i64 (a3 - a4)))
 (ob (qD9 x0 x1 x2 0) fun a3=>
 ob (qD9 x0 x1 x2 1) fun a4=>
 some (wrap .i64 (a3 - a4)))
def qMf (self:LI->LI->Int->Int->Int->Int->Option (Int×Int)) (rec:Int->Int->Int->Nat->Int->Int->LI->LI->Int->Nat->LL->Option ((Int×Int×Int×Int)⊕(Int×Int))) (x0 x1 x2:Int) (x3:Nat) (x4 x5:Int) (x6 x7:LI) (x8:Int) (x9:Nat) (x10:LL):Option ((Int×Int×Int×Int)⊕(Int×Int)):=
 br (decide (x5<Int.ofNat x3))
 (br (inB x5 x3)
 (ob (qF7 x6 x7 x8 (headD (take 4 (getD x10 (Int.toNat x5) [])) 0) (headD (tail (take 4 (getD x10 (Int.toNat x5) []))) 0) (headD (tail (tail (take 4 (getD x10 (Int.toNat x5) [])))) 0) (headD (tail (tail (tail (take 4 (getD x10 (Int.toNat x5) []))))) 0 != 0)) fun (a20_0,a20_1,a20_2)=>
 ob (self a20_0 a20_1 a20_2 (wrap .i64 (x0 - 1)) (wrap .i64 (x1+1)) x2) fun (a23_0,a23_1)=>
 br (decide (a23_1<0))
 (some (.inl (a23_1,0,a23_1,x4)))
 (br (decide (wrap .i64 (0 - a23_0)>x4))
 (rec x0 x1 a23_1 x3 (wrap .i64 (0 - a23_0)) (wrap .i64 (x5+1)) x6 x7 x8 x9 x10)
 (rec x0 x1 a23_1 x3 x4 (wrap .i64 (x5+1)) x6 x7 x8 x9 x10)))
 (none))
 (some (.inr (x2,x4)))
def qCm (self:LI->LI->Int->Int->Int->Int->Option (Int×Int)):Nat->Int->Int->Int->Nat->Int->Int->LI->LI->Int->Nat->LL->Option ((Int×Int×Int×Int)⊕(Int×Int))
 | 0,_,_,_,_,_,_,_,_,_,_,_=>none
 | f+1,x0,x1,x2,x3,x4,x5,x6,x7,x8,x9,x10=>qMf self (qCm self f) x0 x1 x2 x3 x4 x5 x6 x7 x8 x9 x10
def qRk (self:LI->LI->Int->Int->Int->Int->Option (Int×Int)) (x0 x1:LI) (x2 x3:Int) (x4 x5:Int):Option (Int×Int):=
 br (decide (wrap .i64 (x5 - 1)<0))
 (some (0,wrap .i64 (x5 - 1)))
 (ob (qKO x0 x1 x2) fun (a6_0,a6_1,a6_2)=>
 br (Int.ofNat a6_0==0)
 (some (wrap .i64 (x4 - 30000),wrap .i64 (x5 - 1)))
 (br (decide (x3<=0))
 (ob (qKS x0 x1 x2) fun a9=>
 some (a9,wrap .i64 (x5 - 1)))
 (ob (qCm self qB x3 x4 (wrap .i64 (x5 - 1)) a6_0 (-100000) 0 x0 x1 x2 a6_1 a6_2) fun t9_2=>
 sw t9_2 (fun (_,a9_1,a9_2,_)=>
 some (a9_1,a9_2))
 (fun (a9_0,a9_1)=>
 some (a9_1,a9_0)))))
def qBo:Nat->LI->LI->Int->Int->Int->Int->Option (Int×Int)
 | 0,_,_,_,_,_,_=>none
 | f+1,x0,x1,x2,x3,x4,x5=>qRk (qBo f) x0 x1 x2 x3 x4 x5
def qNO (rec:Int->Int->LI->LI->Int->Int->Int->Nat->Int->Nat->LL->Option ((Bool)⊕(Unit))) (x0 x1:Int) (x2 x3:LI) (x4 x5 x6:Int) (x7:Nat) (x8:Int) (x9:Nat) (x10:LL):Option ((Bool)⊕(Unit)):=
 br (decide (x1<x0))
 (ob (qBz x2 x3 x4) fun (a46_0,a46_1,a46_2,a46_3,a46_4)=>
 ob (qDN a46_0 a46_1 a46_2 a46_3 a46_4) fun (a51_0,_,_,_,_,_,_,_)=>
 ob (qE1 x2 x3 x4 2 3000 x5 x6 x7 x8 x9 x10) fun t59_2=>
 sw t59_2 (fun (a59_0,a59_1,a59_2,_,a59_4,a59_5,a59_6,a59_7,a59_8,a59_9,a59_10,_,a59_12)=>
 br (Int.ofNat a51_0==0)
 (br (Int.ofNat a59_2==0)
 (some (.inl (a59_1 == -30000)))
 (some (.inl (false))))
 (br (a59_4)
 (some (.inl (decide (a59_0<2))))
 (ob (qBo qB x2 x3 x4 2 0 400) fun (a72_0,a72_1)=>
 br (decide (a72_1 >= 0))
 (br (a72_0 != a59_1)
 (some (.inl (false)))
 (br (inB 0 a59_2)
 (ob (qEV x2 x3 x4 (headD (take 4 (getD a59_12 0 [])) 0) (headD (tail (take 4 (getD a59_12 0 []))) 0) (headD (tail (tail (take 4 (getD a59_12 0 [])))) 0) (headD (tail (tail (tail (take 4 (getD a59_12 0 []))))) 0 != 0)) fun (a74_0,a74_1,a74_2,a74_3)=>
 br (!a74_3)
 (some (.inl (false)))
 (ob (qBz x2 x3 x4) fun (a78_0,a78_1,a78_2,a78_3,a78_4)=>
 br (inB 0 a59_2)
 (ob (qD0 (headD (take 4 (getD a59_12 0 [])) 0) (headD (tail (take 4 (getD a59_12 0 []))) 0) (headD (tail (tail (take 4 (getD a59_12 0 [])))) 0) (headD (tail (tail (tail (take 4 (getD a59_12 0 []))))) 0 != 0) a78_0 a78_1 a78_2 a78_3 a78_4) fun (a83_0,_,_,_,_,_)=>
 br (!a83_0)
 (some (.inl (false)))
 (ob (qCY a74_0 a74_1 a74_2) fun a89=>
 br (a89 != 0)
 (some (.inl (false)))
 (rec x0 (wrap .i64 (x1+1)) a74_0 a74_1 a74_2 a59_5 a59_6 a59_7 a59_8 a59_9 a59_10)))
 (none)))
 (none)))
 (br (inB 0 a59_2)
 (ob (qEV x2 x3 x4 (headD (take 4 (getD a59_12 0 [])) 0) (headD (tail (take 4 (getD a59_12 0 []))) 0) (headD (tail (tail (take 4 (getD a59_12 0 [])))) 0) (headD (tail (tail (tail (take 4 (getD a59_12 0 []))))) 0 != 0)) fun (a74_0,a74_1,a74_2,a74_3)=>
 br (!a74_3)
 (some (.inl (false)))
 (ob (qBz x2 x3 x4) fun (a78_0,a78_1,a78_2,a78_3,a78_4)=>
 br (inB 0 a59_2)
 (ob (qD0 (headD (take 4 (getD a59_12 0 [])) 0) (headD (tail (take 4 (getD a59_12 0 []))) 0) (headD (tail (tail (take 4 (getD a59_12 0 [])))) 0) (headD (tail (tail (tail (take 4 (getD a59_12 0 []))))) 0 != 0) a78_0 a78_1 a78_2 a78_3 a78_4) fun (a83_0,_,_,_,_,_)=>
 br (!a83_0)
 (some (.inl (false)))
 (ob (qCY a74_0 a74_1 a74_2) fun a89=>
 br (a89 != 0)
 (some (.inl (false)))
 (rec x0 (wrap .i64 (x1+1)) a74_0 a74_1 a74_2 a59_5 a59_6 a59_7 a59_8 a59_9 a59_10)))
 (none)))
 (none)))))
 (fun (a59_0,a59_1,a59_2,a59_3,_,a59_5,a59_6,a59_7,a59_8,a59_9,a59_10,a59_11,_,a59_13)=>
 br (Int.ofNat a51_0==0)
 (br (Int.ofNat a59_3==0)
 (some (.inl (a59_1 == -30000)))
 (some (.inl (false))))
 (br (a59_5)
 (some (.inl (decide (a59_0<2))))
 (ob (qBo qB x2 x3 x4 2 0 400) fun (a73_0,a73_1)=>
 br (decide (a73_1 >= 0))
 (br (a73_0 != a59_1)
 (some (.inl (false)))
 (br (inB 0 a59_3)
 (ob (qEV x2 x3 x4 (headD (take 4 (getD a59_13 (a59_2+0) [])) 0) (headD (tail (take 4 (getD a59_13 (a59_2+0) []))) 0) (headD (tail (tail (take 4 (getD a59_13 (a59_2+0) [])))) 0) (headD (tail (tail (tail (take 4 (getD a59_13 (a59_2+0) []))))) 0 != 0)) fun (a75_0,a75_1,a75_2,a75_3)=>
 br (!a75_3)
 (some (.inl (false)))
 (ob (qBz x2 x3 x4) fun (a79_0,a79_1,a79_2,a79_3,a79_4)=>
 br (inB 0 a59_3)
 (ob (qD0 (headD (take 4 (getD a59_13 (a59_2+0) [])) 0) (headD (tail (take 4 (getD a59_13 (a59_2+0) []))) 0) (headD (tail (tail (take 4 (getD a59_13 (a59_2+0) [])))) 0) (headD (tail (tail (tail (take 4 (getD a59_13 (a59_2+0) []))))) 0 != 0) a79_0 a79_1 a79_2 a79_3 a79_4) fun (a84_0,_,_,_,_,_)=>
 br (!a84_0)
 (some (.inl (false)))
 (ob (qCY a75_0 a75_1 a75_2) fun a90=>
 br (a90 != 0)
 (some (.inl (false)))
 (rec x0 (wrap .i64 (x1+1)) a75_0 a75_1 a75_2 a59_6 a59_7 a59_8 a59_9 a59_10 a59_11)))
 (none)))
 (none)))
 (br (inB 0 a59_3)
 (ob (qEV x2 x3 x4 (headD (take 4 (getD a59_13 (a59_2+0) [])) 0) (headD (tail (take 4 (getD a59_13 (a59_2+0) []))) 0) (headD (tail (tail (take 4 (getD a59_13 (a59_2+0) [])))) 0) (headD (tail (tail (tail (take 4 (getD a59_13 (a59_2+0) []))))) 0 != 0)) fun (a75_0,a75_1,a75_2,a75_3)=>
 br (!a75_3)
 (some (.inl (false)))
 (ob (qBz x2 x3 x4) fun (a79_0,a79_1,a79_2,a79_3,a79_4)=>
 br (inB 0 a59_3)
 (ob (qD0 (headD (take 4 (getD a59_13 (a59_2+0) [])) 0) (headD (tail (take 4 (getD a59_13 (a59_2+0) []))) 0) (headD (tail (tail (take 4 (getD a59_13 (a59_2+0) [])))) 0) (headD (tail (tail (tail (take 4 (getD a59_13 (a59_2+0) []))))) 0 != 0) a79_0 a79_1 a79_2 a79_3 a79_4) fun (a84_0,_,_,_,_,_)=>
 br (!a84_0)
 (some (.inl (false)))
 (ob (qCY a75_0 a75_1 a75_2) fun a90=>
 br (a90 != 0)
 (some (.inl (false)))
 (rec x0 (wrap .i64 (x1+1)) a75_0 a75_1 a75_2 a59_6 a59_7 a59_8 a59_9 a59_10 a59_11)))
 (none)))
 (none))))))
 (some (.inr ()))
def qCT:Nat->Int->Int->LI->LI->Int->Int->Int->Nat->Int->Nat->LL->Option ((Bool)⊕(Unit))
 | 0,_,_,_,_,_,_,_,_,_,_,_=>none
 | f+1,x0,x1,x2,x3,x4,x5,x6,x7,x8,x9,x10=>qNO (qCT f) x0 x1 x2 x3 x4 x5 x6 x7 x8 x9 x10
def qKp (x0 x1:LI) (x2 x3 x4:Int):Option (Bool):=
 ob (qGF 10) fun t5_2=>
 sw t5_2 (fun _=>
 ob (qGQ 1) fun t5_2=>
 sw t5_2 (fun _=>
 some (false))
 (fun (_,_,_)=>
 some (false)))
 (fun (a5_0,a5_1,a5_2)=>
 ob (qGQ 1) fun t8_2=>
 sw t8_2 (fun _=>
 some (false))
 (fun (_,_,_)=>
 ob (qJW ) fun (a11_0,a11_1,a11_2)=>
 ob (qDb a11_0 a11_1 a11_2) fun a14=>
 br (a14 != 0)
 (some (false))
 (ob (qJW ) fun (a15_0,a15_1,a15_2)=>
 ob (qE1 a15_0 a15_1 a15_2 0 10 0 0 a5_0 0 a5_1 a5_2) fun t18_2=>
 sw t18_2 (fun (a18_0,_,a18_2,_,_,_,_,_,_,_,_,_,_)=>
 br (Int.ofNat a18_2 != 1)
 (some (false))
 (br (a18_0 != 0)
 (some (false))
 (ob (qCY x0 x1 x2) fun a31=>
 br (a31 != 0)
 (some (true))
 (br (decide (x3<1))
 (some (true))
 (br (decide (x3>500))
 (some (true))
 (br (decide (x4<0))
 (some (true))
 (br (decide (x4>4))
 (some (true))
 (ob (qGF x3) fun t32_2=>
 sw t32_2 (fun _=>
 some (false))
 (fun (a32_0,a32_1,a32_2)=>
 ob (qCT qB x4 0 x0 x1 x2 0 0 a32_0 0 a32_1 a32_2) fun t35_2=>
 sw t35_2 (fun a35=>
 some (a35))
 (fun _=>
 some (true)))))))))))
 (fun (a18_0,_,_,a18_3,_,_,_,_,_,_,_,_,_,_)=>
 br (Int.ofNat a18_3 != 1)
 (some (false))
 (br (a18_0 != 0)
 (some (false))
 (ob (qCY x0 x1 x2) fun a32=>
 br (a32 != 0)
 (some (true))
 (br (decide (x3<1))
 (some (true))
 (br (decide (x3>500))
 (some (true))
 (br (decide (x4<0))
 (some (true))
 (br (decide (x4>4))
 (some (true))
 (ob (qGF x3) fun t33_2=>
 sw t33_2 (fun _=>
 some (false))
 (fun (a33_0,a33_1,a33_2)=>
 ob (qCT qB x4 0 x0 x1 x2 0 0 a33_0 0 a33_1 a33_2) fun t36_2=>
 sw t36_2 (fun a36=>
 some (a36))
 (fun _=>
 some (true))))))))))))))
end Go.Kk.Pl
