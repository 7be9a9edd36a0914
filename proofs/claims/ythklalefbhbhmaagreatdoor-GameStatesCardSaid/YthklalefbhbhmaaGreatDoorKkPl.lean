/- Printed by a tool of this project (KkGen): the plain functions that the program's code comes to. -/
import Derived.Test.YthklalefbhbhmaaGreatDoorKkE
namespace Go.Kk.Pl
abbrev LI:=List Int
abbrev LL:=List (List Int)
open List _root_.Go.IntKind
def qDO (x0 x1:Int):Option (Int):=
 br (decide (x0<0))
 (some (-1))
 (br (decide (x0>8))
 (some (-1))
 (br (decide (x1<0))
 (some (-1))
 (br (decide (x1>8))
 (some (-1))
 (some (wrap .i64 (wrap .i64 (9*x0)+x1))))))
def qNO (x0 x1 x2:Int):Option (Int):=
 br (x1==1)
 (ob (qDO x2 x0) fun A0=>
 some (A0))
 (ob (qDO x2 (wrap .i64 (8 - x0))) fun A0=>
 some (A0))
def qBS (x0 x1:Int):Option (Int):=
 br (x0 != 0)
 (br (x0 != 1)
 (some (0))
 (br (decide (x1<1))
 (some (0))
 (br (decide (x1>15))
 (some (0))
 (br (x1==13)
 (some (0))
 (some (conv .i64 .i8 (wrap .i64 (wrap .i64 (16*x0)+x1))))))))
 (br (decide (x1<1))
 (some (0))
 (br (decide (x1>15))
 (some (0))
 (br (x1==13)
 (some (0))
 (some (conv .i64 .i8 (wrap .i64 (wrap .i64 (16*x0)+x1)))))))
def qUI (rec:Int->Int->LI->LI->Int->LI->LI->Int->LI->Int->Option (Int×LI×LI×Int×LI×LI×Int×LI)) (x0 x1:Int) (x2 x3:LI) (x4:Int) (x5 x6:LI) (x7:Int) (x8:LI) (x9:Int):Option (Int×LI×LI×Int×LI×LI×Int×LI):=
 br (decide (x1<2))
 (ob (qNO 0 x1 x9) fun A0=>
 br (inB x9 9)
 (ob (qBS x1 (getD x8 (Int.toNat x9) 0)) fun A1=>
 br (inB A0 81)
 (ob (qNO 2 x1 x9) fun A2=>
 ob (qBS x1 1) fun A3=>
 br (inB A2 81)
 (rec x0 (wrap .i64 (x1+1)) x2 x3 x4 (List.set (List.set x5 (Int.toNat A0) A1) (Int.toNat A2) A3) x6 x7 x8 x9)
 (none))
 (none))
 (none))
 (some (x0,x2,x3,x4,x5,x6,x7,x8))
def qKK:Nat->Int->Int->LI->LI->Int->LI->LI->Int->LI->Int->Option (Int×LI×LI×Int×LI×LI×Int×LI)
 | 0,_,_,_,_,_,_,_,_,_,_=>none
 | f+1,x0,x1,x2,x3,x4,x5,x6,x7,x8,x9=>qUI (qKK f) x0 x1 x2 x3 x4 x5 x6 x7 x8 x9
def qUG (rec:Int->LI->LI->Int->LI->LI->Int->LI->Option (LI×LI×Int×LI×LI×Int)) (x0:Int) (x1 x2:LI) (x3:Int) (x4 x5:LI) (x6:Int) (x7:LI):Option (LI×LI×Int×LI×LI×Int):=
 br (decide (x0<9))
 (ob (qKK qC x0 0 x1 x2 x3 x4 x5 x6 x7 x0) fun (A0,A1,A2,A3,A4,A5,A6,A7)=>
 rec (wrap .i64 (A0+1)) A1 A2 A3 A4 A5 A6 A7)
 (some (x1,x2,x3,x4,x5,x6))
def qKJ:Nat->Int->LI->LI->Int->LI->LI->Int->LI->Option (LI×LI×Int×LI×LI×Int)
 | 0,_,_,_,_,_,_,_,_=>none
 | f+1,x0,x1,x2,x3,x4,x5,x6,x7=>qUG (qKJ f) x0 x1 x2 x3 x4 x5 x6 x7
def qT9:Option (LI×LI×Int):=
 ob (qKJ qC 0 ([0,0,0,0,0,0,0,0,0,0,0,0,0,0,0,0,0,0,0,0,0,0,0,0,0,0,0,0,0,0,0,0,0,0,0,0,0,0,0,0,0,0,0,0,0,0,0,0,0,0,0,0,0,0,0,0,0,0,0,0,0,0,0,0,0,0,0,0,0,0,0,0,0,0,0,0,0,0,0,0,0]) ([0,0,0,0,0,0,0,0,0,0,0,0,0,0,0,0]) 0 ([0,0,0,0,0,0,0,0,0,0,0,0,0,0,0,0,0,0,0,0,0,0,0,0,0,0,0,0,0,0,0,0,0,0,0,0,0,0,0,0,0,0,0,0,0,0,0,0,0,0,0,0,0,0,0,0,0,0,0,0,0,0,0,0,0,0,0,0,0,0,0,0,0,0,0,0,0,0,0,0,0]) ([0,0,0,0,0,0,0,0,0,0,0,0,0,0,0,0]) 0 ([2,3,4,5,8,5,4,3,2])) fun (_,_,_,A0,A1,A2)=>
 ob (qDO 7 7) fun A3=>
 ob (qDO 1 7) fun A4=>
 br (inB A3 81)
 (br (inB A4 81)
 (ob (qDO 1 1) fun A5=>
 ob (qDO 7 1) fun A6=>
 br (inB A5 81)
 (br (inB A6 81)
 (some (List.set (List.set (List.set (List.set A0 (Int.toNat A3) 6) (Int.toNat A4) 7) (Int.toNat A5) 22) (Int.toNat A6) 23,A1,A2))
 (none))
 (none))
 (none))
 (none)
def qAO (x0:Int):Option (Int):=
 br (decide (x0<=0))
 (br (x0==8)
 (some (8))
 (br (x0==24)
 (some (8))
 (some (0))))
 (br (decide (x0>31))
 (br (x0==8)
 (some (8))
 (br (x0==24)
 (some (8))
 (some (0))))
 (br (qD BinOp.and .i64 x0 15==0)
 (br (x0==8)
 (some (8))
 (br (x0==24)
 (some (8))
 (some (0))))
 (br (qD BinOp.and .i64 x0 15==13)
 (br (x0==8)
 (some (8))
 (br (x0==24)
 (some (8))
 (some (0))))
 (some (qD BinOp.and .i64 x0 15)))))
def qEH (x0:Int):Option (Int):=
 some (qD BinOp.xor .u64 (wrap .u64 (qD BinOp.xor .u64 (wrap .u64 (qD BinOp.xor .u64 (wrap .u64 (x0+11400714819323198485)) (Int.fdiv (wrap .u64 (x0+11400714819323198485)) 1073741824)*13787848793156543929)) (Int.fdiv (wrap .u64 (qD BinOp.xor .u64 (wrap .u64 (x0+11400714819323198485)) (Int.fdiv (wrap .u64 (x0+11400714819323198485)) 1073741824)*13787848793156543929)) 134217728)*10723151780598845931)) (Int.fdiv (wrap .u64 (qD BinOp.xor .u64 (wrap .u64 (qD BinOp.xor .u64 (wrap .u64 (x0+11400714819323198485)) (Int.fdiv (wrap .u64 (x0+11400714819323198485)) 1073741824)*13787848793156543929)) (Int.fdiv (wrap .u64 (qD BinOp.xor .u64 (wrap .u64 (x0+11400714819323198485)) (Int.fdiv (wrap .u64 (x0+11400714819323198485)) 1073741824)*13787848793156543929)) 134217728)*10723151780598845931)) 2147483648))
def qCe (x0 x1:Int):Option (Int):=
 ob (qAO x1) fun A0=>
 br (A0==0)
 (some (0))
 (br (decide (x0<0))
 (some (0))
 (br (decide (x0 >= 81))
 (some (0))
 (ob (qEH (wrap .u64 (wrap .u64 (conv .i64 .u64 x0*32)+conv .i8 .u64 x1))) fun A1=>
 some (A1))))
def qDD (x0 x1 x2:Int):Option (Int):=
 br (x0 != 0)
 (br (x0 != 1)
 (some (0))
 (br (decide (x1<1))
 (some (0))
 (br (decide (x1 >= 8))
 (some (0))
 (br (decide (x2<=0))
 (some (0))
 (br (decide (x2>18))
 (some (0))
 (ob (qEH (wrap .u64 (wrap .u64 (wrap .u64 (65536+wrap .u64 (conv .i64 .u64 x0*1024))+wrap .u64 (conv .i64 .u64 x1*32))+conv .i64 .u64 x2))) fun A0=>
 some (A0)))))))
 (br (decide (x1<1))
 (some (0))
 (br (decide (x1 >= 8))
 (some (0))
 (br (decide (x2<=0))
 (some (0))
 (br (decide (x2>18))
 (some (0))
 (ob (qEH (wrap .u64 (wrap .u64 (wrap .u64 (65536+wrap .u64 (conv .i64 .u64 x0*1024))+wrap .u64 (conv .i64 .u64 x1*32))+conv .i64 .u64 x2))) fun A0=>
 some (A0))))))
def qDE:Option (Int):=
 ob (qEH 1048576) fun A0=>
 some (A0)
def qDl (rec:Int->LI->Int->LI->LI->Int->Option (Int×LI×LI×Int)) (x0:Int) (x1:LI) (x2:Int) (x3 x4:LI) (x5:Int):Option (Int×LI×LI×Int):=
 br (decide (x2<81))
 (br (inB x2 81)
 (ob (qCe x2 (getD x1 (bif true then Int.toNat x2 else Int.toNat x2*1) 0)) fun A0=>
 rec (qD BinOp.xor .u64 x0 A0) x1 (wrap .i64 (x2+1)) x3 x4 x5)
 (none))
 (some (x0,x3,x4,x5))
def qCd:Nat->Int->LI->Int->LI->LI->Int->Option (Int×LI×LI×Int)
 | 0,_,_,_,_,_,_=>none
 | f+1,x0,x1,x2,x3,x4,x5=>qDl (qCd f) x0 x1 x2 x3 x4 x5
def qDk (rec:Int->Int->LI->Int->LI->Int->LI->LI->Int->Option (Int×LI×Int×LI×LI×Int)) (x0 x1:Int) (x2:LI) (x3:Int) (x4:LI) (x5:Int) (x6 x7:LI) (x8:Int):Option (Int×LI×Int×LI×LI×Int):=
 br (decide (x5<8))
 (br (inB x5 8)
 (ob (qDD x1 x5 (conv .i8 .i64 (getD x4 (bif true then Int.toNat x5 else Int.toNat x5*1) 0))) fun A0=>
 rec (qD BinOp.xor .u64 x0 A0) x1 x2 x3 x4 (wrap .i64 (x5+1)) x6 x7 x8)
 (none))
 (some (x0,x2,x3,x6,x7,x8))
def qCy:Nat->Int->Int->LI->Int->LI->Int->LI->LI->Int->Option (Int×LI×Int×LI×LI×Int)
 | 0,_,_,_,_,_,_,_,_,_=>none
 | f+1,x0,x1,x2,x3,x4,x5,x6,x7,x8=>qDk (qCy f) x0 x1 x2 x3 x4 x5 x6 x7 x8
def qDm (rec:Int->LI->Int->LI->LI->Int->Option (Int×LI×LI×Int)) (x0:Int) (x1:LI) (x2:Int) (x3 x4:LI) (x5:Int):Option (Int×LI×LI×Int):=
 br (decide (x2<2))
 (br (inB x2 2)
 (ob (qCy qC x0 x2 x1 x2 (take 8 (drop (Nat.add (Nat.mul (Int.toNat x2) 7) (Int.toNat x2)) x1)) 0 x3 x4 x5) fun (A0,A1,A2,A3,A4,A5)=>
 rec A0 A1 (wrap .i64 (A2+1)) A3 A4 A5)
 (none))
 (some (x0,x3,x4,x5))
def qB3:Nat->Int->LI->Int->LI->LI->Int->Option (Int×LI×LI×Int)
 | 0,_,_,_,_,_,_=>none
 | f+1,x0,x1,x2,x3,x4,x5=>qDm (qB3 f) x0 x1 x2 x3 x4 x5
def qFC (x0 x1:LI) (x2:Int):Option (Int):=
 ob (qCd qC 0 x0 0 x0 x1 x2) fun (A0,A1,A2,A3)=>
 ob (qB3 qC A0 A2 0 A1 A2 A3) fun (A4,_,_,A5)=>
 br (A5==1)
 (ob (qDE ) fun A6=>
 some (qD BinOp.xor .u64 A4 A6))
 (some (A4))
def qGd (x0:Int):Option (Int×Int):=
 br (decide (x0<0))
 (some (0,0))
 (br (decide (x0 >= 81))
 (some (0,0))
 (br (decide (x0<63))
 (br (decide (x0<0))
 (none)
 (some (wrap .u64 (1*2 ^ min (Int.toNat x0) 64),0)))
 (br (decide (wrap .i64 (x0 - 63)<0))
 (none)
 (some (0,wrap .u64 (1*2 ^ min (Int.toNat (wrap .i64 (x0 - 63))) 64))))))
def qGb (x0 x1:Int) (x2 x3:Int):Option (Int×Int):=
 some (qD BinOp.andNot .u64 x0 x2,qD BinOp.andNot .u64 x1 x3)
def qFi (x0 x1 x2:Int):Option (Int×Int):=
 ob (qGd x2) fun (A0,A1)=>
 ob (qGb x0 x1 A0 A1) fun (A2,A3)=>
 some (A2,A3)
def qAz (x0:Int):Option (Int):=
 ob (qAO x0) fun A0=>
 br (A0==0)
 (some (-1))
 (br (decide (x0<16))
 (some (0))
 (some (1)))
def qEU (x0 x1:Int) (x2 x3:Int):Option (Int×Int):=
 some (qD BinOp.or .u64 x0 x2,qD BinOp.or .u64 x1 x3)
def qBb (x0 x1 x2:Int):Option (Int×Int):=
 ob (qGd x2) fun (A0,A1)=>
 ob (qEU x0 x1 A0 A1) fun (A2,A3)=>
 some (A2,A3)
def qG3 (x0 x1:Int) (x2 x3:LI) (x4:Int) (x5 x6:LL):Option (LI×LI×Int×LL×LL):=
 br (decide (x0<0))
 (some (x2,x3,x4,x5,x6))
 (br (decide (x0 >= 81))
 (some (x2,x3,x4,x5,x6))
 (br (inB x0 81)
 (br (getD x2 (Int.toNat x0) 0 != 0)
 (br (inB (getD x2 (Int.toNat x0) 0) 32)
 (ob (qFi (headD (take 2 (getD x5 (Int.toNat (getD x2 (Int.toNat x0) 0)) [])) 0) (headD (tail (take 2 (getD x5 (Int.toNat (getD x2 (Int.toNat x0) 0)) []))) 0) x0) fun (A0,A1)=>
 br (inB (getD x2 (Int.toNat x0) 0) 32)
 (ob (qAz (getD x2 (Int.toNat x0) 0)) fun A2=>
 ob (qAz (getD x2 (Int.toNat x0) 0)) fun A3=>
 br (inB A3 2)
 (ob (qFi (headD (take 2 (getD x6 (Int.toNat A3) [])) 0) (headD (tail (take 2 (getD x6 (Int.toNat A3) []))) 0) x0) fun (A4,A5)=>
 br (inB A2 2)
 (ob (qAO x1) fun A6=>
 br (A6==0)
 (br (inB x0 81)
 (some (List.set x2 (Int.toNat x0) 0,x3,x4,List.set x5 (Int.toNat (getD x2 (Int.toNat x0) 0)) (A0 :: A1 :: drop 2 (getD x5 (Int.toNat (getD x2 (Int.toNat x0) 0)) [])),List.set x6 (Int.toNat A2) (A4 :: A5 :: drop 2 (getD x6 (Int.toNat A2) []))))
 (none))
 (br (inB x0 81)
 (br (x1 != 0)
 (br (inB x1 32)
 (ob (qBb (headD (take 2 (getD (List.set x5 (Int.toNat (getD x2 (Int.toNat x0) 0)) (A0 :: A1 :: drop 2 (getD x5 (Int.toNat (getD x2 (Int.toNat x0) 0)) []))) (Int.toNat x1) [])) 0) (headD (tail (take 2 (getD (List.set x5 (Int.toNat (getD x2 (Int.toNat x0) 0)) (A0 :: A1 :: drop 2 (getD x5 (Int.toNat (getD x2 (Int.toNat x0) 0)) []))) (Int.toNat x1) []))) 0) x0) fun (A7,A8)=>
 br (inB x1 32)
 (ob (qAz x1) fun A9=>
 ob (qAz x1) fun Aa=>
 br (inB Aa 2)
 (ob (qBb (headD (take 2 (getD (List.set x6 (Int.toNat A2) (A4 :: A5 :: drop 2 (getD x6 (Int.toNat A2) []))) (Int.toNat Aa) [])) 0) (headD (tail (take 2 (getD (List.set x6 (Int.toNat A2) (A4 :: A5 :: drop 2 (getD x6 (Int.toNat A2) []))) (Int.toNat Aa) []))) 0) x0) fun (Ab,Ac)=>
 br (inB A9 2)
 (some (List.set x2 (Int.toNat x0) x1,x3,x4,List.set (List.set x5 (Int.toNat (getD x2 (Int.toNat x0) 0)) (A0 :: A1 :: drop 2 (getD x5 (Int.toNat (getD x2 (Int.toNat x0) 0)) []))) (Int.toNat x1) (A7 :: A8 :: drop 2 (getD (List.set x5 (Int.toNat (getD x2 (Int.toNat x0) 0)) (A0 :: A1 :: drop 2 (getD x5 (Int.toNat (getD x2 (Int.toNat x0) 0)) []))) (Int.toNat x1) [])),List.set (List.set x6 (Int.toNat A2) (A4 :: A5 :: drop 2 (getD x6 (Int.toNat A2) []))) (Int.toNat A9) (Ab :: Ac :: drop 2 (getD (List.set x6 (Int.toNat A2) (A4 :: A5 :: drop 2 (getD x6 (Int.toNat A2) []))) (Int.toNat A9) []))))
 (none))
 (none))
 (none))
 (none))
 (some (List.set x2 (Int.toNat x0) x1,x3,x4,List.set x5 (Int.toNat (getD x2 (Int.toNat x0) 0)) (A0 :: A1 :: drop 2 (getD x5 (Int.toNat (getD x2 (Int.toNat x0) 0)) [])),List.set x6 (Int.toNat A2) (A4 :: A5 :: drop 2 (getD x6 (Int.toNat A2) [])))))
 (none)))
 (none))
 (none))
 (none))
 (none))
 (ob (qAO x1) fun Ad=>
 br (Ad==0)
 (br (inB x0 81)
 (some (List.set x2 (Int.toNat x0) 0,x3,x4,x5,x6))
 (none))
 (br (inB x0 81)
 (br (x1 != 0)
 (br (inB x1 32)
 (ob (qBb (headD (take 2 (getD x5 (Int.toNat x1) [])) 0) (headD (tail (take 2 (getD x5 (Int.toNat x1) []))) 0) x0) fun (Ae,Af)=>
 br (inB x1 32)
 (ob (qAz x1) fun A3=>
 ob (qAz x1) fun Ag=>
 br (inB Ag 2)
 (ob (qBb (headD (take 2 (getD x6 (Int.toNat Ag) [])) 0) (headD (tail (take 2 (getD x6 (Int.toNat Ag) []))) 0) x0) fun (Ah,Ai)=>
 br (inB A3 2)
 (some (List.set x2 (Int.toNat x0) x1,x3,x4,List.set x5 (Int.toNat x1) (Ae :: Af :: drop 2 (getD x5 (Int.toNat x1) [])),List.set x6 (Int.toNat A3) (Ah :: Ai :: drop 2 (getD x6 (Int.toNat A3) []))))
 (none))
 (none))
 (none))
 (none))
 (some (List.set x2 (Int.toNat x0) x1,x3,x4,x5,x6)))
 (none))))
 (none)))
def qG0 (rec:LI->Int->LI->LI->Int->LL->LL->Option (LI×LI×Int×LL×LL)) (x0:LI) (x1:Int) (x2 x3:LI) (x4:Int) (x5 x6:LL):Option (LI×LI×Int×LL×LL):=
 br (decide (x1<81))
 (br (inB x1 81)
 (ob (qG3 x1 (getD x0 (bif true then Int.toNat x1 else Int.toNat x1*1) 0) x2 x3 x4 x5 x6) fun (A0,A1,A2,A3,A4)=>
 rec x0 (wrap .i64 (x1+1)) A0 A1 A2 A3 A4)
 (none))
 (some (x2,x3,x4,x5,x6))
def qEE:Nat->LI->Int->LI->LI->Int->LL->LL->Option (LI×LI×Int×LL×LL)
 | 0,_,_,_,_,_,_,_=>none
 | f+1,x0,x1,x2,x3,x4,x5,x6=>qG0 (qEE f) x0 x1 x2 x3 x4 x5 x6
def qGz (x0 x1:LI) (x2:Int):Option (LI×LI×Int×LL×LL):=
 ob (qEE qC x0 0 ([0,0,0,0,0,0,0,0,0,0,0,0,0,0,0,0,0,0,0,0,0,0,0,0,0,0,0,0,0,0,0,0,0,0,0,0,0,0,0,0,0,0,0,0,0,0,0,0,0,0,0,0,0,0,0,0,0,0,0,0,0,0,0,0,0,0,0,0,0,0,0,0,0,0,0,0,0,0,0,0,0]) x1 x2 ([[0,0],[0,0],[0,0],[0,0],[0,0],[0,0],[0,0],[0,0],[0,0],[0,0],[0,0],[0,0],[0,0],[0,0],[0,0],[0,0],[0,0],[0,0],[0,0],[0,0],[0,0],[0,0],[0,0],[0,0],[0,0],[0,0],[0,0],[0,0],[0,0],[0,0],[0,0],[0,0]]) ([[0,0],[0,0]])) fun (A0,A1,A2,A3,A4)=>
 some (A0,A1,A2,A3,A4)
def qKS (x0 x1:LI) (x2:Int):Option (Int×Nat×LI×LI×Int×LL×LL×Nat×LL):=
 ob (qGz x0 x1 x2) fun (A0,A1,A2,A3,A4)=>
 ob (qFC A0 A1 A2) fun A5=>
 some (A5,0,A0,A1,A2,A3,A4,0,[])
def qHh (x0 x1 x2:Int) (x3:Bool):Option (Int):=
 br (decide (x1<0))
 (some (1))
 (br (decide (x1 >= 81))
 (some (1))
 (br (x2 != 0)
 (br (decide (x2<0))
 (some (70))
 (br (decide (x2 >= 8))
 (some (70))
 (br (x0 != 0)
 (some (70))
 (br (x3)
 (some (70))
 (some (0))))))
 (br (decide (x0<0))
 (some (1))
 (br (decide (x0 >= 81))
 (some (1))
 (br (x0==x1)
 (some (70))
 (some (0)))))))
def qC8 (x0 x1:Int) (_x2 x3:LI) (_x4:Int) (_x5 _x6:LL):Option (Int):=
 br (x0 != 0)
 (br (x0 != 1)
 (some (0))
 (br (decide (x1<1))
 (some (0))
 (br (decide (x1 >= 8))
 (some (0))
 (br (inB x0 2)
 (br (inB x1 8)
 (some (conv .i8 .i64 (getD x3 (Int.toNat x0*8+Int.toNat x1) 0)))
 (none))
 (none)))))
 (br (decide (x1<1))
 (some (0))
 (br (decide (x1 >= 8))
 (some (0))
 (br (inB x0 2)
 (br (inB x1 8)
 (some (conv .i8 .i64 (getD x3 (Int.toNat x0*8+Int.toNat x1) 0)))
 (none))
 (none))))
def qAv (x0:Int) (x1 _x2:LI) (_x3:Int) (_x4 _x5:LL):Option (Int):=
 br (decide (x0<0))
 (some (0))
 (br (decide (x0 >= 81))
 (some (0))
 (br (inB x0 81)
 (some (getD x1 (Int.toNat x0) 0))
 (none)))
def qDp (x0:Int):Option (Int):=
 br (x0==1)
 (some (wrap .i64 (x0+8)))
 (br (x0==2)
 (some (wrap .i64 (x0+8)))
 (br (x0==3)
 (some (wrap .i64 (x0+8)))
 (br (x0==4)
 (some (wrap .i64 (x0+8)))
 (br (x0==6)
 (some (wrap .i64 (x0+8)))
 (br (x0==7)
 (some (wrap .i64 (x0+8)))
 (some (0)))))))
def qEx (x0 x1 x2:Int) (x3:Bool) (_x4:Int) (_x5:Nat) (x6 x7:LI) (x8:Int) (x9 x10:LL) (_x11:Nat) (_x12:LL):Option (Bool):=
 ob (qHh x0 x1 x2 x3) fun A0=>
 br (A0 != 0)
 (some (false))
 (br (x8 != 0)
 (br (x8 != 1)
 (some (false))
 (br (x2 != 0)
 (ob (qC8 x8 x2 x6 x7 x8 x9 x10) fun A1=>
 br (decide (A1>0))
 (ob (qAv x1 x6 x7 x8 x9 x10) fun A2=>
 some (A2==0))
 (some (false)))
 (ob (qAv x0 x6 x7 x8 x9 x10) fun A1=>
 ob (qAv x1 x6 x7 x8 x9 x10) fun A2=>
 ob (qAz A1) fun A3=>
 br (A3==x8)
 (ob (qAz A2) fun A4=>
 br (A4 != x8)
 (ob (qAO A2) fun A5=>
 br (A5 != 8)
 (br (!x3)
 (some (true))
 (ob (qAO A1) fun A6=>
 ob (qDp A6) fun A7=>
 some (A7 != 0)))
 (some (false)))
 (some (false)))
 (some (false)))))
 (br (x2 != 0)
 (ob (qC8 x8 x2 x6 x7 x8 x9 x10) fun A1=>
 br (decide (A1>0))
 (ob (qAv x1 x6 x7 x8 x9 x10) fun A2=>
 some (A2==0))
 (some (false)))
 (ob (qAv x0 x6 x7 x8 x9 x10) fun A1=>
 ob (qAv x1 x6 x7 x8 x9 x10) fun A2=>
 ob (qAz A1) fun A3=>
 br (A3==x8)
 (ob (qAz A2) fun A4=>
 br (A4 != x8)
 (ob (qAO A2) fun A5=>
 br (A5 != 8)
 (br (!x3)
 (some (true))
 (ob (qAO A1) fun A6=>
 ob (qDp A6) fun A7=>
 some (A7 != 0)))
 (some (false)))
 (some (false)))
 (some (false)))))
def qFt (x0 x1:Int) (x2 x3:Int) (x4:Nat) (x5 x6:LI) (x7:Int) (x8 x9:LL) (x10:Nat) (x11:LL):Option (Int×Nat×LI×LI×Int×LL×LL×Nat×LL):=
 ob (qC8 x0 x1 x5 x6 x7 x8 x9) fun A0=>
 ob (qDD x0 x1 A0) fun A1=>
 ob (qDD x0 x1 (wrap .i64 (A0+x2))) fun A2=>
 br (inB x0 2)
 (br (inB x1 8)
 (br (inB x0 2)
 (br (inB x1 8)
 (some (qD BinOp.xor .u64 x3 (qD BinOp.xor .u64 A1 A2),x4,x5,List.set x6 (Int.toNat x0*8+Int.toNat x1) (wrap .i8 (getD x6 (Int.toNat x0*8+Int.toNat x1) 0+conv .i64 .i8 x2)),x7,x8,x9,x10,x11))
 (none))
 (none))
 (none))
 (none)
def qDg (x0 x1 x2:Int) (x3:Nat) (x4 x5:LI) (x6:Int) (x7 x8:LL) (x9:Nat) (x10:LL):Option (Int×Nat×LI×LI×Int×LL×LL×Nat×LL):=
 ob (qAv x0 x4 x5 x6 x7 x8) fun A0=>
 ob (qCe x0 A0) fun A1=>
 ob (qCe x0 x1) fun A2=>
 ob (qG3 x0 x1 x4 x5 x6 x7 x8) fun (A3,A4,A5,A6,A7)=>
 some (qD BinOp.xor .u64 x2 (qD BinOp.xor .u64 A1 A2),x3,A3,A4,A5,A6,A7,x9,x10)
def qDh (x0:Int) (x1:Nat) (x2 x3:LI) (x4:Int) (x5 x6:LL) (x7:Nat) (x8:LL):Option (Int×Nat×LI×LI×Int×LL×LL×Nat×LL):=
 ob (qDE ) fun A0=>
 some (qD BinOp.xor .u64 x0 A0,x1,x2,x3,wrap .i8 (1 - x4),x5,x6,x7,x8)
def qEL (x0:Int):Option (Int):=
 ob (qBS 0 x0) fun A0=>
 br (A0==0)
 (some (0))
 (br (decide (x0>8))
 (some (wrap .i64 (x0 - 8)))
 (some (x0)))
def qEy (x0 x1 x2:Int) (x3:Bool) (x4:Int) (x5:Nat) (x6 x7:LI) (x8:Int) (x9 x10:LL) (x11:Nat) (x12:LL):Option ((Bool×Int×Nat×LI×LI×Int×LL×LL×Nat×LL)⊕(Bool×Int×Nat×LI×LI×Int×LL×LL×Nat×LL)):=
 ob (qEx x0 x1 x2 x3 x4 x5 x6 x7 x8 x9 x10 x11 x12) fun A0=>
 br (!A0)
 (some (.inl (false,x4,x5,x6,x7,x8,x9,x10,x11,x12)))
 (ob (qAv x1 x6 x7 x8 x9 x10) fun A1=>
 br (x2 != 0)
 (ob (qBS x8 x2) fun A2=>
 ob (qFt x8 x2 (-1) x4 x5 x6 x7 x8 x9 x10 x11 x12) fun (A3,A4,A5,A6,A7,A8,A9,Aa,Ab)=>
 ob (qDg x1 A2 A3 A4 A5 A6 A7 A8 A9 Aa Ab) fun (Ac,Ad,Ae,Af,Ag,Ah,Ai,Aj,Ak)=>
 ob (qDh Ac Ad Ae Af Ag Ah Ai Aj Ak) fun (Al,Am,An,Ao,Ap,Aq,Ar,_,As)=>
 br (decide ((Am+1)*40<=140737488355328))
 (some (.inr (true,Al,Am+1,An,Ao,Ap,Aq,Ar,Am+1,List.append (take Am As) [[x0,x1,x2,bi x3,A1,A2]])))
 (none))
 (ob (qAv x0 x6 x7 x8 x9 x10) fun A2=>
 br (x3)
 (ob (qAO A2) fun At=>
 ob (qDp At) fun Au=>
 ob (qBS x8 Au) fun Av=>
 ob (qDg x0 0 x4 x5 x6 x7 x8 x9 x10 x11 x12) fun (Aw,Ax,Ay,Az,B0,B1,B2,B3,B4)=>
 ob (qDg x1 Av Aw Ax Ay Az B0 B1 B2 B3 B4) fun (B5,B6,B7,B8,B9,Ba,Bb,Bc,Bd)=>
 br (A1 != 0)
 (ob (qAO A1) fun Be=>
 ob (qEL Be) fun Bf=>
 ob (qFt x8 Bf 1 B5 B6 B7 B8 B9 Ba Bb Bc Bd) fun (Bg,Bh,Bi,Bj,Bk,Bl,Bm,Bn,Bo)=>
 ob (qDh Bg Bh Bi Bj Bk Bl Bm Bn Bo) fun (Bp,Bq,Br,Bs,Bt,Bu,Bv,_,Bw)=>
 br (decide ((Bq+1)*40<=140737488355328))
 (some (.inr (true,Bp,Bq+1,Br,Bs,Bt,Bu,Bv,Bq+1,List.append (take Bq Bw) [[x0,x1,x2,bi x3,A1,A2]])))
 (none))
 (ob (qDh B5 B6 B7 B8 B9 Ba Bb Bc Bd) fun (Bx,By,Bz,C0,C1,C2,C3,_,C4)=>
 br (decide ((By+1)*40<=140737488355328))
 (some (.inr (true,Bx,By+1,Bz,C0,C1,C2,C3,By+1,List.append (take By C4) [[x0,x1,x2,bi x3,A1,A2]])))
 (none)))
 (ob (qDg x0 0 x4 x5 x6 x7 x8 x9 x10 x11 x12) fun (A3,A4,A5,A6,A7,A8,A9,Aa,Ab)=>
 ob (qDg x1 A2 A3 A4 A5 A6 A7 A8 A9 Aa Ab) fun (Ac,Ad,Ae,Af,Ag,Ah,Ai,Aj,Ak)=>
 br (A1 != 0)
 (ob (qAO A1) fun C5=>
 ob (qEL C5) fun C6=>
 ob (qFt x8 C6 1 Ac Ad Ae Af Ag Ah Ai Aj Ak) fun (C7,C8,C9,Ca,Cb,Cc,Cd,Ce,Cf)=>
 ob (qDh C7 C8 C9 Ca Cb Cc Cd Ce Cf) fun (Cg,Ch,Ci,Cj,Ck,Cl,Cm,_,Cn)=>
 br (decide ((Ch+1)*40<=140737488355328))
 (some (.inr (true,Cg,Ch+1,Ci,Cj,Ck,Cl,Cm,Ch+1,List.append (take Ch Cn) [[x0,x1,x2,bi x3,A1,A2]])))
 (none))
 (ob (qDh Ac Ad Ae Af Ag Ah Ai Aj Ak) fun (Al,Am,An,Ao,Ap,Aq,Ar,_,As)=>
 br (decide ((Am+1)*40<=140737488355328))
 (some (.inr (true,Al,Am+1,An,Ao,Ap,Aq,Ar,Am+1,List.append (take Am As) [[x0,x1,x2,bi x3,A1,A2]])))
 (none)))))
def qAb (x0:Int):Option (Int):=
 br (decide (x0<1))
 (some (0))
 (br (decide (x0>31))
 (some (0))
 (br (x0==13)
 (some (0))
 (br (x0==16)
 (some (0))
 (br (x0==29)
 (some (0))
 (some (Int.tmod x0 16))))))
def qD0 (rec:Int->Int->Int->Int->LI->LI->Int->Option (Int)) (x0 x1:Int) (x2 x3:Int) (x4 x5:LI) (x6:Int):Option (Int):=
 br (decide (x3<9))
 (br (inB (wrap .i64 (wrap .i64 (9*x1)+x3)) 81)
 (br (conv .i8 .i64 (getD x4 (Int.toNat (wrap .i64 (wrap .i64 (9*x1)+x3))) 0)==x0)
 (rec x0 x1 (wrap .i64 (x2+1)) (wrap .i64 (x3+1)) x4 x5 x6)
 (rec x0 x1 x2 (wrap .i64 (x3+1)) x4 x5 x6))
 (none))
 (some (x2))
def qCj:Nat->Int->Int->Int->Int->LI->LI->Int->Option (Int)
 | 0,_,_,_,_,_,_,_=>none
 | f+1,x0,x1,x2,x3,x4,x5,x6=>qD0 (qCj f) x0 x1 x2 x3 x4 x5 x6
def qEP (x0 x1:LI) (x2 x3 x4:Int):Option (Int):=
 ob (qCj qC x3 x4 0 0 x0 x1 x2) fun A0=>
 some (A0)
def qD1 (rec:Int->Int->Int->LI->LI->Int->Option (Int)) (x0 x1 x2:Int) (x3 x4:LI) (x5:Int):Option (Int):=
 br (decide (x2<9))
 (ob (qEP x3 x4 x5 x0 x2) fun A0=>
 rec x0 (wrap .i64 (x1+A0)) (wrap .i64 (x2+1)) x3 x4 x5)
 (some (x1))
def qCl:Nat->Int->Int->Int->LI->LI->Int->Option (Int)
 | 0,_,_,_,_,_,_=>none
 | f+1,x0,x1,x2,x3,x4,x5=>qD1 (qCl f) x0 x1 x2 x3 x4 x5
def qCk (x0 x1:LI) (x2 x3:Int):Option (Int):=
 ob (qCl qC x3 0 0 x0 x1 x2) fun A0=>
 some (A0)
def qJO (x0:Int):Option (Int):=
 br (decide (x0<1))
 (some (0))
 (br (decide (x0>15))
 (some (0))
 (br (x0==13)
 (some (0))
 (br (decide (x0>8))
 (some (wrap .i64 (x0 - 8)))
 (some (x0)))))
def qHv (rec:Int->Int->Int->LI->LI->Int->Option (Int×Int×LI×LI×Int)) (x0 x1 x2:Int) (x3 x4:LI) (x5:Int):Option (Int×Int×LI×LI×Int):=
 br (decide (x2<81))
 (br (inB x2 81)
 (ob (qAb (conv .i8 .i64 (getD x3 (Int.toNat x2) 0))) fun A0=>
 ob (qJO A0) fun A1=>
 br (A1==x0)
 (rec x0 (wrap .i64 (x1+1)) (wrap .i64 (x2+1)) x3 x4 x5)
 (rec x0 x1 (wrap .i64 (x2+1)) x3 x4 x5))
 (none))
 (some (x0,x1,x3,x4,x5))
def qFS:Nat->Int->Int->Int->LI->LI->Int->Option (Int×Int×LI×LI×Int)
 | 0,_,_,_,_,_,_=>none
 | f+1,x0,x1,x2,x3,x4,x5=>qHv (qFS f) x0 x1 x2 x3 x4 x5
def qLm (x0 x1:LI) (x2 x3:Int):Option (Int):=
 ob (qFS qC x3 0 0 x0 x1 x2) fun (A0,A1,_,A2,_)=>
 br (inB A0 8)
 (br (inB A0 8)
 (some (wrap .i64 (wrap .i64 (A1+conv .i8 .i64 (getD A2 (0+Int.toNat A0) 0))+conv .i8 .i64 (getD A2 (8+Int.toNat A0) 0))))
 (none))
 (none)
def qLg (x0:Int):Option (Int):=
 br (decide (x0<1))
 (some (0))
 (br (decide (x0>8))
 (some (0))
 (br (inB x0 9)
 (some (getD [0,18,4,4,4,4,2,2,2] (Int.toNat x0) 0))
 (none)))
def qBU (x0:Int):Option (Int):=
 ob (qAb x0) fun A0=>
 br (A0==0)
 (some (-1))
 (some (wrap .i64 (Int.tdiv x0 16)))
def qDt (x0 x1:Int):Option (Int):=
 br (decide (x1<0))
 (some (-1))
 (br (decide (x1>80))
 (some (-1))
 (br (decide (x0<0))
 (some (-1))
 (br (decide (x0>1))
 (some (-1))
 (br (x0==0)
 (some (Int.tmod x1 9))
 (some (wrap .i64 (8 - Int.tmod x1 9)))))))
def qDs (x0 x1:Int):Option (Bool):=
 ob (qBU x0) fun A0=>
 ob (qDt A0 x1) fun A1=>
 ob (qAb x0) fun A2=>
 br (A2==1)
 (br (A1==0)
 (some (true))
 (br (A2==3)
 (br (A1==0)
 (some (true))
 (some (A1==1)))
 (some (false))))
 (br (A2==2)
 (br (A1==0)
 (some (true))
 (br (A2==3)
 (br (A1==0)
 (some (true))
 (some (A1==1)))
 (some (false))))
 (br (A2==3)
 (br (A1==0)
 (some (true))
 (some (A1==1)))
 (some (false))))
def qDy (rec:Int->LI->LI->Int->Option ((Int×LI×LI×Int)⊕(LI×LI×Int))) (x0:Int) (x1 x2:LI) (x3:Int):Option ((Int×LI×LI×Int)⊕(LI×LI×Int)):=
 br (decide (x0<81))
 (br (inB x0 81)
 (br (getD x1 (Int.toNat x0) 0 != 0)
 (br (inB x0 81)
 (ob (qAb (conv .i8 .i64 (getD x1 (Int.toNat x0) 0))) fun A0=>
 br (A0==0)
 (some (.inl (55,x1,x2,x3)))
 (rec (wrap .i64 (x0+1)) x1 x2 x3))
 (none))
 (rec (wrap .i64 (x0+1)) x1 x2 x3))
 (none))
 (some (.inr (x1,x2,x3)))
def qCA:Nat->Int->LI->LI->Int->Option ((Int×LI×LI×Int)⊕(LI×LI×Int))
 | 0,_,_,_,_=>none
 | f+1,x0,x1,x2,x3=>qDy (qCA f) x0 x1 x2 x3
def qDu (rec:Int->Int->LI->LI->Int->Option ((Int×Int×LI×LI×Int)⊕(Int×LI×LI×Int))) (x0 x1:Int) (x2 x3:LI) (x4:Int):Option ((Int×Int×LI×LI×Int)⊕(Int×LI×LI×Int)):=
 br (decide (x1<2))
 (br (inB x1 2)
 (br (inB x0 8)
 (br (decide (getD x3 (Int.toNat x1*8+Int.toNat x0) 0<0))
 (some (.inl (55,x0,x2,x3,x4)))
 (br (x0==0)
 (br (getD x3 (Int.toNat x1*8+Int.toNat x0) 0 != 0)
 (some (.inl (55,x0,x2,x3,x4)))
 (rec x0 (wrap .i64 (x1+1)) x2 x3 x4))
 (rec x0 (wrap .i64 (x1+1)) x2 x3 x4)))
 (none))
 (none))
 (some (.inr (x0,x2,x3,x4)))
def qBk:Nat->Int->Int->LI->LI->Int->Option ((Int×Int×LI×LI×Int)⊕(Int×LI×LI×Int))
 | 0,_,_,_,_,_=>none
 | f+1,x0,x1,x2,x3,x4=>qDu (qBk f) x0 x1 x2 x3 x4
def qDz (rec:Int->LI->LI->Int->Option ((Int×LI×LI×Int)⊕(LI×LI×Int))) (x0:Int) (x1 x2:LI) (x3:Int):Option ((Int×LI×LI×Int)⊕(LI×LI×Int)):=
 br (decide (x0<8))
 (ob (qBk qC x0 0 x1 x2 x3) fun A0=>
 sw A0 (fun (A1,_,A2,A3,A4)=>
 some (.inl (A1,A2,A3,A4)))
 (fun (A1,A5,A2,A3)=>
 rec (wrap .i64 (A1+1)) A5 A2 A3))
 (some (.inr (x1,x2,x3)))
def qBY:Nat->Int->LI->LI->Int->Option ((Int×LI×LI×Int)⊕(LI×LI×Int))
 | 0,_,_,_,_=>none
 | f+1,x0,x1,x2,x3=>qDz (qBY f) x0 x1 x2 x3
def qDv (rec:Int->LI->LI->Int->Option ((Int×LI×LI×Int)⊕(LI×LI×Int))) (x0:Int) (x1 x2:LI) (x3:Int):Option ((Int×LI×LI×Int)⊕(LI×LI×Int)):=
 br (decide (x0<8))
 (ob (qLm x1 x2 x3 x0) fun A0=>
 ob (qLg x0) fun A1=>
 br (decide (A0>A1))
 (some (.inl (51,x1,x2,x3)))
 (rec (wrap .i64 (x0+1)) x1 x2 x3))
 (some (.inr (x1,x2,x3)))
def qBV:Nat->Int->LI->LI->Int->Option ((Int×LI×LI×Int)⊕(LI×LI×Int))
 | 0,_,_,_,_=>none
 | f+1,x0,x1,x2,x3=>qDv (qBV f) x0 x1 x2 x3
def qDw (rec:Int->LI->LI->Int->Option ((Int×LI×LI×Int)⊕(LI×LI×Int))) (x0:Int) (x1 x2:LI) (x3:Int):Option ((Int×LI×LI×Int)⊕(LI×LI×Int)):=
 br (decide (x0<81))
 (br (inB x0 81)
 (ob (qDs (conv .i8 .i64 (getD x1 (Int.toNat x0) 0)) x0) fun A0=>
 br (A0)
 (some (.inl (52,x1,x2,x3)))
 (rec (wrap .i64 (x0+1)) x1 x2 x3))
 (none))
 (some (.inr (x1,x2,x3)))
def qBW:Nat->Int->LI->LI->Int->Option ((Int×LI×LI×Int)⊕(LI×LI×Int))
 | 0,_,_,_,_=>none
 | f+1,x0,x1,x2,x3=>qDw (qBW f) x0 x1 x2 x3
def qDx (rec:Int->LI->LI->Int->Option ((Int)⊕(Unit))) (x0:Int) (x1 x2:LI) (x3:Int):Option ((Int)⊕(Unit)):=
 br (decide (x0<9))
 (ob (qEP x1 x2 x3 1 x0) fun A0=>
 br (decide (A0>1))
 (some (.inl (53)))
 (ob (qEP x1 x2 x3 17 x0) fun A1=>
 br (decide (A1>1))
 (some (.inl (53)))
 (rec (wrap .i64 (x0+1)) x1 x2 x3)))
 (some (.inr ()))
def qBX:Nat->Int->LI->LI->Int->Option ((Int)⊕(Unit))
 | 0,_,_,_,_=>none
 | f+1,x0,x1,x2,x3=>qDx (qBX f) x0 x1 x2 x3
def qGQ (x0 x1:LI) (x2:Int):Option (Int):=
 br (x2 != 0)
 (br (x2 != 1)
 (some (1))
 (ob (qCA qC 0 x0 x1 x2) fun A0=>
 sw A0 (fun (A1,_,_,_)=>
 some (A1))
 (fun (A1,A2,A3)=>
 ob (qBY qC 0 A1 A2 A3) fun A4=>
 sw A4 (fun (A5,_,_,_)=>
 some (A5))
 (fun (A5,A6,A7)=>
 ob (qCk A5 A6 A7 8) fun A8=>
 br (A8 != 1)
 (some (50))
 (ob (qCk A5 A6 A7 24) fun A9=>
 br (A9 != 1)
 (some (50))
 (ob (qBV qC 1 A5 A6 A7) fun Aa=>
 sw Aa (fun (Ab,_,_,_)=>
 some (Ab))
 (fun (Ab,Ac,Ad)=>
 ob (qBW qC 0 Ab Ac Ad) fun Ae=>
 sw Ae (fun (Af,_,_,_)=>
 some (Af))
 (fun (Af,Ag,Ah)=>
 ob (qBX qC 0 Af Ag Ah) fun Ai=>
 sw Ai (fun Aj=>
 some (Aj))
 (fun _=>
 some (0))))))))))
 (ob (qCA qC 0 x0 x1 x2) fun A0=>
 sw A0 (fun (A1,_,_,_)=>
 some (A1))
 (fun (A1,A2,A3)=>
 ob (qBY qC 0 A1 A2 A3) fun A4=>
 sw A4 (fun (A5,_,_,_)=>
 some (A5))
 (fun (A5,A6,A7)=>
 ob (qCk A5 A6 A7 8) fun A8=>
 br (A8 != 1)
 (some (50))
 (ob (qCk A5 A6 A7 24) fun A9=>
 br (A9 != 1)
 (some (50))
 (ob (qBV qC 1 A5 A6 A7) fun Aa=>
 sw Aa (fun (Ab,_,_,_)=>
 some (Ab))
 (fun (Ab,Ac,Ad)=>
 ob (qBW qC 0 Ab Ac Ad) fun Ae=>
 sw Ae (fun (Af,_,_,_)=>
 some (Af))
 (fun (Af,Ag,Ah)=>
 ob (qBX qC 0 Af Ag Ah) fun Ai=>
 sw Ai (fun Aj=>
 some (Aj))
 (fun _=>
 some (0)))))))))
def qHC (x0:Int) (_x1:Nat) (_x2 _x3:LI) (_x4:Int) (_x5 _x6:LL) (_x7:Nat) (_x8:LL):Option (Int):=
 some (x0)
def qDc (_x0 _x1:LI) (_x2:Int) (_x3 x4:LL):Option (Int×Int):=
 ob (qEU (headD (take 2 (getD x4 0 [])) 0) (headD (tail (take 2 (getD x4 0 []))) 0) (headD (take 2 (getD x4 1 [])) 0) (headD (tail (take 2 (getD x4 1 []))) 0)) fun (A0,A1)=>
 some (A0,A1)
def qGv (x0:Int):Option (Int):=
 some (qD BinOp.and .i64 (conv .u64 .i64 (wrap .u64 (wrap .u64 (wrap .u64 (qD BinOp.and .u64 (wrap .u64 (Int.fdiv (wrap .u64 (qD BinOp.and .u64 (Int.fdiv (wrap .u64 (qD BinOp.and .u64 (Int.fdiv x0 2) 6148914691236517205+qD BinOp.and .u64 x0 6148914691236517205)) 4) 3689348814741910323+qD BinOp.and .u64 (wrap .u64 (qD BinOp.and .u64 (Int.fdiv x0 2) 6148914691236517205+qD BinOp.and .u64 x0 6148914691236517205)) 3689348814741910323)) 16+wrap .u64 (qD BinOp.and .u64 (Int.fdiv (wrap .u64 (qD BinOp.and .u64 (Int.fdiv x0 2) 6148914691236517205+qD BinOp.and .u64 x0 6148914691236517205)) 4) 3689348814741910323+qD BinOp.and .u64 (wrap .u64 (qD BinOp.and .u64 (Int.fdiv x0 2) 6148914691236517205+qD BinOp.and .u64 x0 6148914691236517205)) 3689348814741910323))) 1085102592571150095+Int.fdiv (qD BinOp.and .u64 (wrap .u64 (Int.fdiv (wrap .u64 (qD BinOp.and .u64 (Int.fdiv (wrap .u64 (qD BinOp.and .u64 (Int.fdiv x0 2) 6148914691236517205+qD BinOp.and .u64 x0 6148914691236517205)) 4) 3689348814741910323+qD BinOp.and .u64 (wrap .u64 (qD BinOp.and .u64 (Int.fdiv x0 2) 6148914691236517205+qD BinOp.and .u64 x0 6148914691236517205)) 3689348814741910323)) 16+wrap .u64 (qD BinOp.and .u64 (Int.fdiv (wrap .u64 (qD BinOp.and .u64 (Int.fdiv x0 2) 6148914691236517205+qD BinOp.and .u64 x0 6148914691236517205)) 4) 3689348814741910323+qD BinOp.and .u64 (wrap .u64 (qD BinOp.and .u64 (Int.fdiv x0 2) 6148914691236517205+qD BinOp.and .u64 x0 6148914691236517205)) 3689348814741910323))) 1085102592571150095) 256)+Int.fdiv (wrap .u64 (qD BinOp.and .u64 (wrap .u64 (Int.fdiv (wrap .u64 (qD BinOp.and .u64 (Int.fdiv (wrap .u64 (qD BinOp.and .u64 (Int.fdiv x0 2) 6148914691236517205+qD BinOp.and .u64 x0 6148914691236517205)) 4) 3689348814741910323+qD BinOp.and .u64 (wrap .u64 (qD BinOp.and .u64 (Int.fdiv x0 2) 6148914691236517205+qD BinOp.and .u64 x0 6148914691236517205)) 3689348814741910323)) 16+wrap .u64 (qD BinOp.and .u64 (Int.fdiv (wrap .u64 (qD BinOp.and .u64 (Int.fdiv x0 2) 6148914691236517205+qD BinOp.and .u64 x0 6148914691236517205)) 4) 3689348814741910323+qD BinOp.and .u64 (wrap .u64 (qD BinOp.and .u64 (Int.fdiv x0 2) 6148914691236517205+qD BinOp.and .u64 x0 6148914691236517205)) 3689348814741910323))) 1085102592571150095+Int.fdiv (qD BinOp.and .u64 (wrap .u64 (Int.fdiv (wrap .u64 (qD BinOp.and .u64 (Int.fdiv (wrap .u64 (qD BinOp.and .u64 (Int.fdiv x0 2) 6148914691236517205+qD BinOp.and .u64 x0 6148914691236517205)) 4) 3689348814741910323+qD BinOp.and .u64 (wrap .u64 (qD BinOp.and .u64 (Int.fdiv x0 2) 6148914691236517205+qD BinOp.and .u64 x0 6148914691236517205)) 3689348814741910323)) 16+wrap .u64 (qD BinOp.and .u64 (Int.fdiv (wrap .u64 (qD BinOp.and .u64 (Int.fdiv x0 2) 6148914691236517205+qD BinOp.and .u64 x0 6148914691236517205)) 4) 3689348814741910323+qD BinOp.and .u64 (wrap .u64 (qD BinOp.and .u64 (Int.fdiv x0 2) 6148914691236517205+qD BinOp.and .u64 x0 6148914691236517205)) 3689348814741910323))) 1085102592571150095) 256)) 65536)+Int.fdiv (wrap .u64 (wrap .u64 (qD BinOp.and .u64 (wrap .u64 (Int.fdiv (wrap .u64 (qD BinOp.and .u64 (Int.fdiv (wrap .u64 (qD BinOp.and .u64 (Int.fdiv x0 2) 6148914691236517205+qD BinOp.and .u64 x0 6148914691236517205)) 4) 3689348814741910323+qD BinOp.and .u64 (wrap .u64 (qD BinOp.and .u64 (Int.fdiv x0 2) 6148914691236517205+qD BinOp.and .u64 x0 6148914691236517205)) 3689348814741910323)) 16+wrap .u64 (qD BinOp.and .u64 (Int.fdiv (wrap .u64 (qD BinOp.and .u64 (Int.fdiv x0 2) 6148914691236517205+qD BinOp.and .u64 x0 6148914691236517205)) 4) 3689348814741910323+qD BinOp.and .u64 (wrap .u64 (qD BinOp.and .u64 (Int.fdiv x0 2) 6148914691236517205+qD BinOp.and .u64 x0 6148914691236517205)) 3689348814741910323))) 1085102592571150095+Int.fdiv (qD BinOp.and .u64 (wrap .u64 (Int.fdiv (wrap .u64 (qD BinOp.and .u64 (Int.fdiv (wrap .u64 (qD BinOp.and .u64 (Int.fdiv x0 2) 6148914691236517205+qD BinOp.and .u64 x0 6148914691236517205)) 4) 3689348814741910323+qD BinOp.and .u64 (wrap .u64 (qD BinOp.and .u64 (Int.fdiv x0 2) 6148914691236517205+qD BinOp.and .u64 x0 6148914691236517205)) 3689348814741910323)) 16+wrap .u64 (qD BinOp.and .u64 (Int.fdiv (wrap .u64 (qD BinOp.and .u64 (Int.fdiv x0 2) 6148914691236517205+qD BinOp.and .u64 x0 6148914691236517205)) 4) 3689348814741910323+qD BinOp.and .u64 (wrap .u64 (qD BinOp.and .u64 (Int.fdiv x0 2) 6148914691236517205+qD BinOp.and .u64 x0 6148914691236517205)) 3689348814741910323))) 1085102592571150095) 256)+Int.fdiv (wrap .u64 (qD BinOp.and .u64 (wrap .u64 (Int.fdiv (wrap .u64 (qD BinOp.and .u64 (Int.fdiv (wrap .u64 (qD BinOp.and .u64 (Int.fdiv x0 2) 6148914691236517205+qD BinOp.and .u64 x0 6148914691236517205)) 4) 3689348814741910323+qD BinOp.and .u64 (wrap .u64 (qD BinOp.and .u64 (Int.fdiv x0 2) 6148914691236517205+qD BinOp.and .u64 x0 6148914691236517205)) 3689348814741910323)) 16+wrap .u64 (qD BinOp.and .u64 (Int.fdiv (wrap .u64 (qD BinOp.and .u64 (Int.fdiv x0 2) 6148914691236517205+qD BinOp.and .u64 x0 6148914691236517205)) 4) 3689348814741910323+qD BinOp.and .u64 (wrap .u64 (qD BinOp.and .u64 (Int.fdiv x0 2) 6148914691236517205+qD BinOp.and .u64 x0 6148914691236517205)) 3689348814741910323))) 1085102592571150095+Int.fdiv (qD BinOp.and .u64 (wrap .u64 (Int.fdiv (wrap .u64 (qD BinOp.and .u64 (Int.fdiv (wrap .u64 (qD BinOp.and .u64 (Int.fdiv x0 2) 6148914691236517205+qD BinOp.and .u64 x0 6148914691236517205)) 4) 3689348814741910323+qD BinOp.and .u64 (wrap .u64 (qD BinOp.and .u64 (Int.fdiv x0 2) 6148914691236517205+qD BinOp.and .u64 x0 6148914691236517205)) 3689348814741910323)) 16+wrap .u64 (qD BinOp.and .u64 (Int.fdiv (wrap .u64 (qD BinOp.and .u64 (Int.fdiv x0 2) 6148914691236517205+qD BinOp.and .u64 x0 6148914691236517205)) 4) 3689348814741910323+qD BinOp.and .u64 (wrap .u64 (qD BinOp.and .u64 (Int.fdiv x0 2) 6148914691236517205+qD BinOp.and .u64 x0 6148914691236517205)) 3689348814741910323))) 1085102592571150095) 256)) 65536)) 4294967296))) 127)
def qIE (x0 x1:Int):Option (Int):=
 ob (qGv x0) fun A0=>
 ob (qGv x1) fun A1=>
 some (wrap .i64 (A0+A1))
def qDb (x0 x1:Int) (_x2 _x3:LI) (_x4:Int) (x5 _x6:LL):Option (Int×Int):=
 ob (qBS x0 x1) fun A0=>
 br (A0==0)
 (some (0,0))
 (br (inB A0 32)
 (some (headD (take 2 (getD x5 (Int.toNat A0) [])) 0,headD (tail (take 2 (getD x5 (Int.toNat A0) []))) 0))
 (none))
def qMy (BBB:Bool->Option (Int)->Option (Int)->Option (Int)) (x0:Int):Option (Int):=
 br (x0==0)
 (some (64))
 (BBB (inB (Int.fdiv (wrap .u64 (qD BinOp.and .u64 x0 (wrap .u64 (0 - x0))*285870213051353865)) 288230376151711744) 64)
 (some (conv .u8 .i64 (getD [0,1,56,2,57,49,28,3,61,58,42,50,38,29,17,4,62,47,59,36,45,43,51,22,53,39,33,30,24,18,12,5,63,55,48,27,60,41,37,16,46,35,44,21,52,32,23,11,54,26,40,15,34,20,31,10,25,14,19,9,13,8,7,6] (Int.toNat (Int.fdiv (wrap .u64 (qD BinOp.and .u64 x0 (wrap .u64 (0 - x0))*285870213051353865)) 288230376151711744)) 0)))
 (none))
def qEn (x0:Int):Option (Int):=qMy br x0
def qIG (x0 x1:Int):Option (Int):=
 br (x0 != 0)
 (ob (qEn x0) fun A0=>
 some (A0))
 (br (x1 != 0)
 (ob (qEn x1) fun A0=>
 some (wrap .i64 (63+A0)))
 (some (-1)))
def qGy (x0:Int) (x1 x2:LI) (x3:Int) (x4 x5:LL):Option (Int):=
 ob (qDb x0 8 x1 x2 x3 x4 x5) fun (A0,A1)=>
 ob (qIG A0 A1) fun A2=>
 some (A2)
def qP4 (x0:Int):Option (Int):=
 br (x0==1)
 (some (18))
 (br (x0==2)
 (some (4))
 (br (x0==3)
 (some (4))
 (br (x0==4)
 (some (4))
 (br (x0==5)
 (some (4))
 (br (x0==6)
 (some (2))
 (br (x0==7)
 (some (2))
 (br (x0==8)
 (some (2))
 (some (0)))))))))
def qIK (x0:Int):Option (Int):=
 some (Int.tmod x0 9)
def qGj (x0 x1:Int):Option (Int):=
 br (decide (x1<0))
 (some (-1))
 (br (decide (x1 >= 81))
 (some (-1))
 (br (x0==0)
 (ob (qIK x1) fun A0=>
 some (A0))
 (br (x0==1)
 (ob (qIK x1) fun A0=>
 some (wrap .i64 (8 - A0)))
 (some (-1)))))
def qEY (x0 x1:Int):Option (Bool):=
 ob (qAz x0) fun A0=>
 ob (qGj A0 x1) fun A1=>
 ob (qAO x0) fun A2=>
 br (A2==1)
 (some (A1==0))
 (br (A2==2)
 (some (A1==0))
 (br (A2==3)
 (br (A1==0)
 (some (true))
 (some (A1==1)))
 (some (false))))
def qcF (rec:Int->Int->Int->Int->Int->Int->Option (Int×Int×Int×Int)) (x0 x1:Int) (x2 x3:Int) (x4 x5:Int):Option (Int×Int×Int×Int):=
 br (decide (x1<9))
 (ob (qDO x0 x1) fun A0=>
 ob (qBb x4 x5 A0) fun (A1,A2)=>
 rec x0 (wrap .i64 (x1+1)) x2 x3 A1 A2)
 (some (x2,x3,x4,x5))
def qL9:Nat->Int->Int->Int->Int->Int->Int->Option (Int×Int×Int×Int)
 | 0,_,_,_,_,_,_=>none
 | f+1,x0,x1,x2,x3,x4,x5=>qcF (qL9 f) x0 x1 x2 x3 x4 x5
def qJg (x0:Int):Option (Int×Int):=
 ob (qL9 qC x0 0 0 0 0 0) fun (_,_,A0,A1)=>
 some (A0,A1)
def qDN (x0 x1:Int) (x2 x3:Int):Option (Int×Int):=
 some (qD BinOp.and .u64 x0 x2,qD BinOp.and .u64 x1 x3)
def qG6 (rec:LI->Int->LI->LI->Int->Option ((Int×LI×LI×Int)⊕(LI×LI×Int))) (x0:LI) (x1:Int) (x2 x3:LI) (x4:Int):Option ((Int×LI×LI×Int)⊕(LI×LI×Int)):=
 br (decide (x1<81))
 (br (inB x1 81)
 (ob (qEY (getD x0 (bif true then Int.toNat x1 else Int.toNat x1*1) 0) x1) fun A0=>
 br (A0)
 (some (.inl (52,x2,x3,x4)))
 (rec x0 (wrap .i64 (x1+1)) x2 x3 x4))
 (none))
 (some (.inr (x2,x3,x4)))
def qEs:Nat->LI->Int->LI->LI->Int->Option ((Int×LI×LI×Int)⊕(LI×LI×Int))
 | 0,_,_,_,_,_=>none
 | f+1,x0,x1,x2,x3,x4=>qG6 (qEs f) x0 x1 x2 x3 x4
def qEr (rec:Int->Int->Int->LI->LI->Int->LL->LL->Option ((Int×Int×LI×LI×Int×LL×LL)⊕(Int×LI×LI×Int×LL×LL))) (x0 x1 x2:Int) (x3 x4:LI) (x5:Int) (x6 x7:LL):Option ((Int×Int×LI×LI×Int×LL×LL)⊕(Int×LI×LI×Int×LL×LL)):=
 br (decide (x2<2))
 (ob (qDb x2 1 x3 x4 x5 x6 x7) fun (A0,A1)=>
 ob (qJg x0) fun (A2,A3)=>
 ob (qDN A0 A1 A2 A3) fun (A4,A5)=>
 ob (qIE A4 A5) fun A6=>
 br (decide (A6>1))
 (some (.inl (53,x1,x3,x4,x5,x6,x7)))
 (rec x0 x1 (wrap .i64 (x2+1)) x3 x4 x5 x6 x7))
 (some (.inr (x1,x3,x4,x5,x6,x7)))
def qEq:Nat->Int->Int->Int->LI->LI->Int->LL->LL->Option ((Int×Int×LI×LI×Int×LL×LL)⊕(Int×LI×LI×Int×LL×LL))
 | 0,_,_,_,_,_,_,_,_=>none
 | f+1,x0,x1,x2,x3,x4,x5,x6,x7=>qEr (qEq f) x0 x1 x2 x3 x4 x5 x6 x7
def qG7 (rec:Int->LI->LI->Int->LL->LL->Option ((Int)⊕(Unit))) (x0:Int) (x1 x2:LI) (x3:Int) (x4 x5:LL):Option ((Int)⊕(Unit)):=
 br (decide (x0<9))
 (ob (qEq qC x0 x0 0 x1 x2 x3 x4 x5) fun A0=>
 sw A0 (fun (A1,_,_,_,_,_,_)=>
 some (.inl (A1)))
 (fun (A1,A2,A3,A4,A5,A6)=>
 rec (wrap .i64 (A1+1)) A2 A3 A4 A5 A6))
 (some (.inr ()))
def qEt:Nat->Int->LI->LI->Int->LL->LL->Option ((Int)⊕(Unit))
 | 0,_,_,_,_,_,_=>none
 | f+1,x0,x1,x2,x3,x4,x5=>qG7 (qEt f) x0 x1 x2 x3 x4 x5
def qG5 (x0 x1:LI) (x2:Int):Option (Int):=
 ob (qEs qC x0 0 x0 x1 x2) fun A0=>
 sw A0 (fun (A1,_,_,_)=>
 some (A1))
 (fun (A1,A2,A3)=>
 ob (qGz A1 A2 A3) fun (A4,A5,A6,A7,A8)=>
 ob (qEt qC 0 A4 A5 A6 A7 A8) fun A9=>
 sw A9 (fun Aa=>
 some (Aa))
 (fun _=>
 some (0)))
def qEp (rec:LI->Int->LI->LI->Int->LI->LI->Option ((Int×LI×LI×Int×LI×LI)⊕(LI×LI×Int×LI×LI))) (x0:LI) (x1:Int) (x2 x3:LI) (x4:Int) (x5 x6:LI):Option ((Int×LI×LI×Int×LI×LI)⊕(LI×LI×Int×LI×LI)):=
 br (decide (x1<81))
 (br (inB x1 81)
 (ob (qAO (getD x0 (bif true then Int.toNat x1 else Int.toNat x1*1) 0)) fun A0=>
 br (getD x0 (bif true then Int.toNat x1 else Int.toNat x1*1) 0==0)
 (rec x0 (wrap .i64 (x1+1)) x2 x3 x4 x5 x6)
 (br (A0==0)
 (some (.inl (55,x2,x3,x4,x5,x6)))
 (br (A0==8)
 (ob (qAz (getD x0 (bif true then Int.toNat x1 else Int.toNat x1*1) 0)) fun A1=>
 br (inB A1 2)
 (br (inB A1 2)
 (ob (qEL A0) fun A2=>
 br (inB A2 9)
 (br (inB A2 9)
 (rec x0 (wrap .i64 (x1+1)) x2 x3 x4 (List.set x5 (Int.toNat A2) (wrap .i64 (getD x5 (Int.toNat A2) 0+1))) (List.set x6 (Int.toNat A1) (wrap .i64 (getD x6 (Int.toNat A1) 0+1))))
 (none))
 (none))
 (none))
 (none))
 (ob (qEL A0) fun A1=>
 br (inB A1 9)
 (br (inB A1 9)
 (rec x0 (wrap .i64 (x1+1)) x2 x3 x4 (List.set x5 (Int.toNat A1) (wrap .i64 (getD x5 (Int.toNat A1) 0+1))) x6)
 (none))
 (none)))))
 (none))
 (some (.inr (x2,x3,x4,x5,x6)))
def qCZ:Nat->LI->Int->LI->LI->Int->LI->LI->Option ((Int×LI×LI×Int×LI×LI)⊕(LI×LI×Int×LI×LI))
 | 0,_,_,_,_,_,_,_=>none
 | f+1,x0,x1,x2,x3,x4,x5,x6=>qEp (qCZ f) x0 x1 x2 x3 x4 x5 x6
def qEo (rec:LI->Int->LI->Int->LI->LI->Int->LI->LI->Option ((Int×LI×Int×LI×LI×Int×LI×LI)⊕(LI×Int×LI×LI×Int×LI×LI))) (x0:LI) (x1:Int) (x2:LI) (x3:Int) (x4 x5:LI) (x6:Int) (x7 x8:LI):Option ((Int×LI×Int×LI×LI×Int×LI×LI)⊕(LI×Int×LI×LI×Int×LI×LI)):=
 br (decide (x3<8))
 (br (inB x3 8)
 (br (decide (getD x2 (bif true then Int.toNat x3 else Int.toNat x3*1) 0<0))
 (some (.inl (55,x0,x1,x4,x5,x6,x7,x8)))
 (br (decide (getD x2 (bif true then Int.toNat x3 else Int.toNat x3*1) 0>0))
 (br (x3==0)
 (some (.inl (55,x0,x1,x4,x5,x6,x7,x8)))
 (br (x3==8)
 (some (.inl (55,x0,x1,x4,x5,x6,x7,x8)))
 (br (inB x3 9)
 (br (inB x3 9)
 (rec x0 x1 x2 (wrap .i64 (x3+1)) x4 x5 x6 (List.set x7 (Int.toNat x3) (wrap .i64 (getD x7 (Int.toNat x3) 0+conv .i8 .i64 (getD x2 (bif true then Int.toNat x3 else Int.toNat x3*1) 0)))) x8)
 (none))
 (none))))
 (br (inB x3 9)
 (br (inB x3 9)
 (rec x0 x1 x2 (wrap .i64 (x3+1)) x4 x5 x6 (List.set x7 (Int.toNat x3) (wrap .i64 (getD x7 (Int.toNat x3) 0+conv .i8 .i64 (getD x2 (bif true then Int.toNat x3 else Int.toNat x3*1) 0)))) x8)
 (none))
 (none))))
 (none))
 (some (.inr (x0,x1,x4,x5,x6,x7,x8)))
def qC7:Nat->LI->Int->LI->Int->LI->LI->Int->LI->LI->Option ((Int×LI×Int×LI×LI×Int×LI×LI)⊕(LI×Int×LI×LI×Int×LI×LI))
 | 0,_,_,_,_,_,_,_,_,_=>none
 | f+1,x0,x1,x2,x3,x4,x5,x6,x7,x8=>qEo (qC7 f) x0 x1 x2 x3 x4 x5 x6 x7 x8
def qDZ (rec:LI->Int->LI->LI->Int->LI->LI->Option ((Int×LI×LI×Int×LI×LI)⊕(LI×LI×Int×LI×LI))) (x0:LI) (x1:Int) (x2 x3:LI) (x4:Int) (x5 x6:LI):Option ((Int×LI×LI×Int×LI×LI)⊕(LI×LI×Int×LI×LI)):=
 br (decide (x1<2))
 (br (inB x1 2)
 (ob (qC7 qC x0 x1 (take 8 (drop (Nat.add (Nat.mul (Int.toNat x1) 7) (Int.toNat x1)) x0)) 0 x2 x3 x4 x5 x6) fun A0=>
 sw A0 (fun (A1,_,_,A2,A3,A4,A5,A6)=>
 some (.inl (A1,A2,A3,A4,A5,A6)))
 (fun (A1,A7,A8,A2,A3,A4,A5)=>
 rec A1 (wrap .i64 (A7+1)) A8 A2 A3 A4 A5))
 (none))
 (some (.inr (x2,x3,x4,x5,x6)))
def qCq:Nat->LI->Int->LI->LI->Int->LI->LI->Option ((Int×LI×LI×Int×LI×LI)⊕(LI×LI×Int×LI×LI))
 | 0,_,_,_,_,_,_,_=>none
 | f+1,x0,x1,x2,x3,x4,x5,x6=>qDZ (qCq f) x0 x1 x2 x3 x4 x5 x6
def qGx (rec:Int->LI->LI->Int->LI->Option ((Int×LI×LI×Int)⊕(LI×LI×Int))) (x0:Int) (x1 x2:LI) (x3:Int) (x4:LI):Option ((Int×LI×LI×Int)⊕(LI×LI×Int)):=
 br (decide (x0<8))
 (br (inB x0 9)
 (ob (qP4 x0) fun A0=>
 br (decide (getD x4 (Int.toNat x0) 0>A0))
 (some (.inl (51,x1,x2,x3)))
 (rec (wrap .i64 (x0+1)) x1 x2 x3 x4))
 (none))
 (some (.inr (x1,x2,x3)))
def qDa:Nat->Int->LI->LI->Int->LI->Option ((Int×LI×LI×Int)⊕(LI×LI×Int))
 | 0,_,_,_,_,_=>none
 | f+1,x0,x1,x2,x3,x4=>qGx (qDa f) x0 x1 x2 x3 x4
def qKE (x0 x1:LI) (x2:Int):Option (Int):=
 br (x2 != 0)
 (br (x2 != 1)
 (some (1))
 (ob (qCZ qC x0 0 x0 x1 x2 ([0,0,0,0,0,0,0,0,0]) ([0,0])) fun A0=>
 sw A0 (fun (A1,_,_,_,_,_)=>
 some (A1))
 (fun (A1,A2,A3,A4,A5)=>
 ob (qCq qC A2 0 A1 A2 A3 A4 A5) fun A6=>
 sw A6 (fun (A7,_,_,_,_,_)=>
 some (A7))
 (fun (A7,A8,A9,Aa,Ab)=>
 br (!Ab==[1,1])
 (some (50))
 (ob (qDa qC 1 A7 A8 A9 Aa) fun Ac=>
 sw Ac (fun (Ad,_,_,_)=>
 some (Ad))
 (fun (Ad,Ae,Af)=>
 ob (qG5 Ad Ae Af) fun Ag=>
 some (Ag)))))))
 (ob (qCZ qC x0 0 x0 x1 x2 ([0,0,0,0,0,0,0,0,0]) ([0,0])) fun A0=>
 sw A0 (fun (A1,_,_,_,_,_)=>
 some (A1))
 (fun (A1,A2,A3,A4,A5)=>
 ob (qCq qC A2 0 A1 A2 A3 A4 A5) fun A6=>
 sw A6 (fun (A7,_,_,_,_,_)=>
 some (A7))
 (fun (A7,A8,A9,Aa,Ab)=>
 br (!Ab==[1,1])
 (some (50))
 (ob (qDa qC 1 A7 A8 A9 Aa) fun Ac=>
 sw Ac (fun (Ad,_,_,_)=>
 some (Ad))
 (fun (Ad,Ae,Af)=>
 ob (qG5 Ad Ae Af) fun Ag=>
 some (Ag))))))
def qNE (x0 x1:LI) (x2:Int) (x3 x4:LL):Option (LI×LI×Int×LL×LL):=
 some (x0,x1,x2,x3,x4)
def qG2 (x0:Int) (_x1 _x2:LI) (_x3:Int) (_x4 x5:LL):Option (Int×Int):=
 br (x0 != 0)
 (br (x0 != 1)
 (some (0,0))
 (br (inB x0 2)
 (some (headD (take 2 (getD x5 (Int.toNat x0) [])) 0,headD (tail (take 2 (getD x5 (Int.toNat x0) []))) 0))
 (none)))
 (br (inB x0 2)
 (some (headD (take 2 (getD x5 (Int.toNat x0) [])) 0,headD (tail (take 2 (getD x5 (Int.toNat x0) []))) 0))
 (none))
def qFe (x0 x1:Int):Option (Bool):=
 some (x0==0&&x1==0)
def qCm (x0 x1 x2:Int):Option (Bool):=
 ob (qGd x2) fun (A0,A1)=>
 ob (qDN x0 x1 A0 A1) fun (A2,A3)=>
 ob (qFe A2 A3) fun A4=>
 some (!A4)
def qID:Option (Int×Int):=
 some (9223372036854775807,262143)
def qMC (rec:Nat->Int->Int->Nat->LI->Option (Nat×Int×Int×Nat×LI)) (x0:Nat) (x1 x2:Int) (x3:Nat) (x4:LI):Option (Nat×Int×Int×Nat×LI):=
 br (x1 != 0)
 (ob (qEn x1) fun A0=>
 br (decide ((x0+1)*8<=140737488355328))
 (rec (x0+1) (qD BinOp.and .u64 x1 (wrap .u64 (x1 - 1))) x2 (x0+1) (List.append (take x0 x4) [A0]))
 (none))
 (some (x0,x1,x2,x3,x4))
def qIL:Nat->Nat->Int->Int->Nat->LI->Option (Nat×Int×Int×Nat×LI)
 | 0,_,_,_,_,_=>none
 | f+1,x0,x1,x2,x3,x4=>qMC (qIL f) x0 x1 x2 x3 x4
def qMD (rec:Nat->Int->Int->Nat->LI->Option (Nat×Nat×LI)) (x0:Nat) (x1 x2:Int) (x3:Nat) (x4:LI):Option (Nat×Nat×LI):=
 br (x2 != 0)
 (ob (qEn x2) fun A0=>
 br (decide ((x0+1)*8<=140737488355328))
 (rec (x0+1) x1 (qD BinOp.and .u64 x2 (wrap .u64 (x2 - 1))) (x0+1) (List.append (take x0 x4) [wrap .i64 (63+A0)]))
 (none))
 (some (x0,x3,x4))
def qIM:Nat->Nat->Int->Int->Nat->LI->Option (Nat×Nat×LI)
 | 0,_,_,_,_,_=>none
 | f+1,x0,x1,x2,x3,x4=>qMD (qIM f) x0 x1 x2 x3 x4
def qFg (x0 x1:Int):Option (Nat×Nat×LI):=
 ob (qIL qC 0 x0 x1 0 []) fun (A0,A1,A2,A3,A4)=>
 ob (qIM qC A0 A1 A2 A3 A4) fun (A5,A6,A7)=>
 some (A5,A6,A7)
def qqp (self:Int->Option (Nat×Nat×LL)) (x0:Int):Option (Nat×Nat×LL):=
 br (x0==1)
 (some (1,1,[[0,-1]]))
 (br (x0==3)
 (some (2,2,[[-1,-2],[1,-2]]))
 (br (x0==4)
 (some (5,5,[[-1,-1],[0,-1],[1,-1],[-1,1],[1,1]]))
 (br (x0==5)
 (some (6,6,[[-1,-1],[0,-1],[1,-1],[-1,0],[1,0],[0,1]]))
 (br (x0==9)
 (some (6,6,[[-1,-1],[0,-1],[1,-1],[-1,0],[1,0],[0,1]]))
 (br (x0==10)
 (some (6,6,[[-1,-1],[0,-1],[1,-1],[-1,0],[1,0],[0,1]]))
 (br (x0==11)
 (some (6,6,[[-1,-1],[0,-1],[1,-1],[-1,0],[1,0],[0,1]]))
 (br (x0==12)
 (some (6,6,[[-1,-1],[0,-1],[1,-1],[-1,0],[1,0],[0,1]]))
 (br (x0==8)
 (ob (self 5) fun (A0,_,A1)=>
 br (decide ((A0+2)*16<=140737488355328))
 (some (A0+2,A0+2,List.append (take A0 A1) [[-1,1],[1,1]]))
 (none))
 (br (x0==14)
 (some (4,4,[[0,-1],[-1,0],[1,0],[0,1]]))
 (br (x0==15)
 (some (4,4,[[-1,-1],[1,-1],[-1,1],[1,1]]))
 (some (0,0,[]))))))))))))
def qGh:Nat->Int->Option (Nat×Nat×LL)
 | 0,_=>none
 | f+1,x0=>qqp (qGh f) x0
def qGg (x0 x1 x2:Int):Option (Int×Int):=
 br (x2==1)
 (some (wrap .i64 (0 - x0),wrap .i64 (0 - x1)))
 (some (x0,x1))
def qJf (x0:Int):Option (Int):=
 some (wrap .i64 (Int.tdiv x0 9))
def qIP (x0 x1 x2:Int):Option (Int):=
 br (decide (x2<0))
 (some (-1))
 (br (decide (x2 >= 81))
 (some (-1))
 (br (decide (x0 < -8))
 (some (-1))
 (br (decide (x0>8))
 (some (-1))
 (br (decide (x1 < -8))
 (some (-1))
 (br (decide (x1>8))
 (some (-1))
 (ob (qJf x2) fun A0=>
 ob (qIK x2) fun A1=>
 ob (qDO (wrap .i64 (A0+x0)) (wrap .i64 (A1+x1))) fun A2=>
 some (A2)))))))
def qIQ (rec:Int->Int->Nat->Int->Int->Int->Int->Int->Int->Nat->LL->Option (Int×Int×Int×Int)) (x0 x1:Int) (x2:Nat) (x3 x4:Int) (x5 x6:Int) (x7 x8:Int) (x9:Nat) (x10:LL):Option (Int×Int×Int×Int):=
 br (decide (x4<x3))
 (br (inB x4 x2)
 (ob (qAz x0) fun A0=>
 ob (qGg (headD (take 2 (getD x10 (Int.toNat x4) [])) 0) (headD (tail (take 2 (getD x10 (Int.toNat x4) []))) 0) A0) fun (A1,A2)=>
 ob (qIP A1 A2 x1) fun A3=>
 ob (qBb x7 x8 A3) fun (A4,A5)=>
 rec x0 x1 x2 x3 (wrap .i64 (x4+1)) x5 x6 A4 A5 x9 x10)
 (none))
 (some (x5,x6,x7,x8))
def qFk:Nat->Int->Int->Nat->Int->Int->Int->Int->Int->Int->Nat->LL->Option (Int×Int×Int×Int)
 | 0,_,_,_,_,_,_,_,_,_,_,_=>none
 | f+1,x0,x1,x2,x3,x4,x5,x6,x7,x8,x9,x10=>qIQ (qFk f) x0 x1 x2 x3 x4 x5 x6 x7 x8 x9 x10
def qMN (x0 x1:Int):Option (Int×Int):=
 ob (qAO x0) fun A0=>
 ob (qGh qC A0) fun (A1,A2,A3)=>
 ob (qFk qC x0 x1 A1 (Int.ofNat A1) 0 0 0 0 0 A2 A3) fun (_,_,A4,A5)=>
 some (A4,A5)
def qHq (x0:Int):Option (Nat×Nat×LL):=
 br (x0==2)
 (some (1,1,[[0,-1]]))
 (br (x0==6)
 (some (4,4,[[-1,-1],[1,-1],[-1,1],[1,1]]))
 (br (x0==14)
 (some (4,4,[[-1,-1],[1,-1],[-1,1],[1,1]]))
 (br (x0==7)
 (some (4,4,[[0,-1],[-1,0],[1,0],[0,1]]))
 (br (x0==15)
 (some (4,4,[[0,-1],[-1,0],[1,0],[0,1]]))
 (some (0,0,[]))))))
def qHs (rec:Int->Int->Int->Int->Int->Int->Int->Int->Int->Option (Int×Int×Int×Int)) (x0 x1:Int) (x2 x3:Int) (x4 x5:Int) (x6 x7 x8:Int):Option (Int×Int×Int×Int):=
 br (decide (x0 >= 0))
 (ob (qBb x7 x8 x0) fun (A0,A1)=>
 ob (qCm x3 x4 x0) fun A2=>
 br (A2)
 (some (x5,x6,A0,A1))
 (ob (qIP x1 x2 x0) fun A3=>
 rec A3 x1 x2 x3 x4 x5 x6 A0 A1))
 (some (x5,x6,x7,x8))
def qGM:Nat->Int->Int->Int->Int->Int->Int->Int->Int->Int->Option (Int×Int×Int×Int)
 | 0,_,_,_,_,_,_,_,_,_=>none
 | f+1,x0,x1,x2,x3,x4,x5,x6,x7,x8=>qHs (qGM f) x0 x1 x2 x3 x4 x5 x6 x7 x8
def qJM (x0 x1:Int) (x2 x3 x4:Int):Option (Int×Int):=
 br (x1==0&&x2==0)
 (some (0,0))
 (ob (qIP x1 x2 x0) fun A0=>
 ob (qGM qC A0 x1 x2 x3 x4 0 0 0 0) fun (_,_,A1,A2)=>
 some (A1,A2))
def qHr (rec:Int->Int->Nat->Int->Int->Int->Int->Int->Int->Int->Int->Nat->LL->Option (Int×Int×Int×Int)) (x0 x1:Int) (x2:Nat) (x3 x4:Int) (x5 x6:Int) (x7 x8:Int) (x9 x10:Int) (x11:Nat) (x12:LL):Option (Int×Int×Int×Int):=
 br (decide (x4<x3))
 (br (inB x4 x2)
 (ob (qAz x0) fun A0=>
 ob (qGg (headD (take 2 (getD x12 (Int.toNat x4) [])) 0) (headD (tail (take 2 (getD x12 (Int.toNat x4) []))) 0) A0) fun (A1,A2)=>
 ob (qJM x1 A1 A2 x5 x6) fun (A3,A4)=>
 ob (qEU x9 x10 A3 A4) fun (A5,A6)=>
 rec x0 x1 x2 x3 (wrap .i64 (x4+1)) x5 x6 x7 x8 A5 A6 x11 x12)
 (none))
 (some (x7,x8,x9,x10))
def qFN:Nat->Int->Int->Nat->Int->Int->Int->Int->Int->Int->Int->Int->Nat->LL->Option (Int×Int×Int×Int)
 | 0,_,_,_,_,_,_,_,_,_,_,_,_,_=>none
 | f+1,x0,x1,x2,x3,x4,x5,x6,x7,x8,x9,x10,x11,x12=>qHr (qFN f) x0 x1 x2 x3 x4 x5 x6 x7 x8 x9 x10 x11 x12
def qGL (x0 x1:Int) (x2 x3:Int):Option (Int×Int):=
 ob (qMN x0 x1) fun (A0,A1)=>
 ob (qAO x0) fun A2=>
 ob (qHq A2) fun (A3,A4,A5)=>
 ob (qFN qC x0 x1 A3 (Int.ofNat A3) 0 x2 x3 0 0 A0 A1 A4 A5) fun (_,_,A6,A7)=>
 some (A6,A7)
def qdH (rec:Int->Int->Int->Int->Int->Int->Option (Int×Int×Int×Int)) (x0 x1:Int) (x2 x3:Int) (x4 x5:Int):Option (Int×Int×Int×Int):=
 br (decide (x1<81))
 (ob (qGj x0 x1) fun A0=>
 br (decide (A0 >= 0))
 (br (decide (A0<=2))
 (ob (qBb x4 x5 x1) fun (A1,A2)=>
 rec x0 (wrap .i64 (x1+1)) x2 x3 A1 A2)
 (rec x0 (wrap .i64 (x1+1)) x2 x3 x4 x5))
 (rec x0 (wrap .i64 (x1+1)) x2 x3 x4 x5))
 (some (x2,x3,x4,x5))
def qMP:Nat->Int->Int->Int->Int->Int->Int->Option (Int×Int×Int×Int)
 | 0,_,_,_,_,_,_=>none
 | f+1,x0,x1,x2,x3,x4,x5=>qdH (qMP f) x0 x1 x2 x3 x4 x5
def qMO (x0:Int):Option (Int×Int):=
 ob (qMP qC x0 0 0 0 0 0) fun (_,_,A0,A1)=>
 some (A0,A1)
def qKn (x0 x1 x2:Int):Option (Bool×Bool):=
 ob (qAO x0) fun A0=>
 ob (qDp A0) fun A1=>
 br (A1==0)
 (some (false,false))
 (ob (qAz x0) fun A2=>
 ob (qMO A2) fun (A3,A4)=>
 ob (qCm A3 A4 x1) fun A5=>
 br (A5)
 (ob (qEY x0 x2) fun A6=>
 some (true,A6))
 (ob (qCm A3 A4 x2) fun A6=>
 ob (qEY x0 x2) fun A7=>
 some (A6,A7)))
def qHL (rec:Nat->Int->Int->Int->Nat->Int->Int->Nat->Int->Int->LI->LI->Int->LL->LL->Int->Int->Nat->LL->Int->Int->Nat->LI->Nat->LI->Option (Nat×Int×Nat×Int×Int×LI×LI×Int×LL×LL×Int×Int×Nat×LL×Int×Int×Nat×LI)) (x0:Nat) (x1 x2 x3:Int) (x4:Nat) (x5 x6:Int) (x7:Nat) (x8 x9:Int) (x10 x11:LI) (x12:Int) (x13 x14:LL) (x15 x16:Int) (x17:Nat) (x18:LL) (x19 x20:Int) (x21:Nat) (x22:LI) (x23:Nat) (x24:LI):Option (Nat×Int×Nat×Int×Int×LI×LI×Int×LL×LL×Int×Int×Nat×LL×Int×Int×Nat×LI):=
 br (decide (x9<x8))
 (br (inB x9 x7)
 (ob (qKn x3 x2 (getD x24 (Int.toNat x9) 0)) fun (A0,A1)=>
 br (!A1)
 (br (decide ((x0+1)*32<=140737488355328))
 (br (A0)
 (br (decide ((x0+1+1)*32<=140737488355328))
 (rec (x0+1+1) x1 x2 x3 x4 x5 x6 x7 x8 (wrap .i64 (x9+1)) x10 x11 x12 x13 x14 x15 x16 (x0+1+1) (List.append (take (x0+1) (List.append (take x0 x18) [[x2,getD x24 (Int.toNat x9) 0,0,0]])) [[x2,getD x24 (Int.toNat x9) 0,0,1]]) x19 x20 x21 x22 x23 x24)
 (none))
 (rec (x0+1) x1 x2 x3 x4 x5 x6 x7 x8 (wrap .i64 (x9+1)) x10 x11 x12 x13 x14 x15 x16 (x0+1) (List.append (take x0 x18) [[x2,getD x24 (Int.toNat x9) 0,0,0]]) x19 x20 x21 x22 x23 x24))
 (none))
 (br (A0)
 (br (decide ((x0+1)*32<=140737488355328))
 (rec (x0+1) x1 x2 x3 x4 x5 x6 x7 x8 (wrap .i64 (x9+1)) x10 x11 x12 x13 x14 x15 x16 (x0+1) (List.append (take x0 x18) [[x2,getD x24 (Int.toNat x9) 0,0,1]]) x19 x20 x21 x22 x23 x24)
 (none))
 (rec x0 x1 x2 x3 x4 x5 x6 x7 x8 (wrap .i64 (x9+1)) x10 x11 x12 x13 x14 x15 x16 x17 x18 x19 x20 x21 x22 x23 x24)))
 (none))
 (some (x0,x1,x4,x5,x6,x10,x11,x12,x13,x14,x15,x16,x17,x18,x19,x20,x21,x22))
def qE5:Nat->Nat->Int->Int->Int->Nat->Int->Int->Nat->Int->Int->LI->LI->Int->LL->LL->Int->Int->Nat->LL->Int->Int->Nat->LI->Nat->LI->Option (Nat×Int×Nat×Int×Int×LI×LI×Int×LL×LL×Int×Int×Nat×LL×Int×Int×Nat×LI)
 | 0,_,_,_,_,_,_,_,_,_,_,_,_,_,_,_,_,_,_,_,_,_,_,_,_,_=>none
 | f+1,x0,x1,x2,x3,x4,x5,x6,x7,x8,x9,x10,x11,x12,x13,x14,x15,x16,x17,x18,x19,x20,x21,x22,x23,x24=>qHL (qE5 f) x0 x1 x2 x3 x4 x5 x6 x7 x8 x9 x10 x11 x12 x13 x14 x15 x16 x17 x18 x19 x20 x21 x22 x23 x24
def qHK (rec:Nat->Int->Nat->Int->Int->LI->LI->Int->LL->LL->Int->Int->Nat->LL->Int->Int->Nat->LI->Option (Nat×LI×LI×Int×LL×LL×Nat×LL)) (x0:Nat) (x1:Int) (x2:Nat) (x3 x4:Int) (x5 x6:LI) (x7:Int) (x8 x9:LL) (x10 x11:Int) (x12:Nat) (x13:LL) (x14 x15:Int) (x16:Nat) (x17:LI):Option (Nat×LI×LI×Int×LL×LL×Nat×LL):=
 br (decide (x4<x3))
 (br (inB x4 x2)
 (ob (qAv (getD x17 (Int.toNat x4) 0) x5 x6 x7 x8 x9) fun A0=>
 ob (qDc x5 x6 x7 x8 x9) fun (A1,A2)=>
 ob (qGL A0 (getD x17 (Int.toNat x4) 0) A1 A2) fun (A3,A4)=>
 ob (qG2 x1 x5 x6 x7 x8 x9) fun (A5,A6)=>
 ob (qGb A3 A4 A5 A6) fun (A7,A8)=>
 ob (qGb A7 A8 x14 x15) fun (A9,Aa)=>
 ob (qDN A9 Aa x10 x11) fun (Ab,Ac)=>
 ob (qFg Ab Ac) fun (Ad,Ae,Af)=>
 ob (qE5 qC x0 x1 (getD x17 (Int.toNat x4) 0) A0 x2 x3 x4 Ad (Int.ofNat Ad) 0 x5 x6 x7 x8 x9 x10 x11 x12 x13 x14 x15 x16 x17 Ae Af) fun (Ag,Ah,Ai,Aj,Ak,Al,Am,An,Ao,Ap,Aq,Ar,As,At,Au,Av,Aw,Ax)=>
 rec Ag Ah Ai Aj (wrap .i64 (Ak+1)) Al Am An Ao Ap Aq Ar As At Au Av Aw Ax)
 (none))
 (some (x0,x5,x6,x7,x8,x9,x12,x13))
def qE4:Nat->Nat->Int->Nat->Int->Int->LI->LI->Int->LL->LL->Int->Int->Nat->LL->Int->Int->Nat->LI->Option (Nat×LI×LI×Int×LL×LL×Nat×LL)
 | 0,_,_,_,_,_,_,_,_,_,_,_,_,_,_,_,_,_,_=>none
 | f+1,x0,x1,x2,x3,x4,x5,x6,x7,x8,x9,x10,x11,x12,x13,x14,x15,x16,x17=>qHK (qE4 f) x0 x1 x2 x3 x4 x5 x6 x7 x8 x9 x10 x11 x12 x13 x14 x15 x16 x17
def qI3 (x0 x1:Int) (x2 x3:LI) (x4:Int) (x5 x6:LL):Option (Nat×Nat×LL):=
 ob (qDb 0 8 x2 x3 x4 x5 x6) fun (A0,A1)=>
 ob (qDb 1 8 x2 x3 x4 x5 x6) fun (A2,A3)=>
 ob (qEU A0 A1 A2 A3) fun (A4,A5)=>
 ob (qG2 x4 x2 x3 x4 x5 x6) fun (A6,A7)=>
 ob (qFg A6 A7) fun (A8,A9,Aa)=>
 ob (qE4 qC 0 x4 A8 (Int.ofNat A8) 0 x2 x3 x4 x5 x6 x0 x1 0 [] A4 A5 A9 Aa) fun (Ab,_,_,_,_,_,Ac,Ad)=>
 some (Ab,Ac,Ad)
def qMB (x0 x1:Int):Option (Int×Int):=
 ob (qID ) fun (A0,A1)=>
 ob (qGb A0 A1 x0 x1) fun (A2,A3)=>
 some (A2,A3)
def qHO (rec:Int->Int->Int->Nat->Int->Int->LI->LI->Int->LL->LL->Int->Int->Int->Int->Nat->LI->Option (LI×LI×Int×LL×LL×Int×Int×Int×Int)) (x0 x1 x2:Int) (x3:Nat) (x4 x5:Int) (x6 x7:LI) (x8:Int) (x9 x10:LL) (x11 x12:Int) (x13 x14:Int) (x15:Nat) (x16:LI):Option (LI×LI×Int×LL×LL×Int×Int×Int×Int):=
 br (decide (x5<x4))
 (br (inB x5 x3)
 (ob (qEY x2 (getD x16 (Int.toNat x5) 0)) fun A0=>
 br (A0)
 (rec x0 x1 x2 x3 x4 (wrap .i64 (x5+1)) x6 x7 x8 x9 x10 x11 x12 x13 x14 x15 x16)
 (br (x1==1)
 (ob (qDb x0 1 x6 x7 x8 x9 x10) fun (A1,A2)=>
 ob (qJf (getD x16 (Int.toNat x5) 0)) fun A3=>
 ob (qJg A3) fun (A4,A5)=>
 ob (qDN A1 A2 A4 A5) fun (A6,A7)=>
 ob (qFe A6 A7) fun A8=>
 br (!A8)
 (rec x0 x1 x2 x3 x4 (wrap .i64 (x5+1)) x6 x7 x8 x9 x10 x11 x12 x13 x14 x15 x16)
 (ob (qBb x13 x14 (getD x16 (Int.toNat x5) 0)) fun (A9,Aa)=>
 rec x0 x1 x2 x3 x4 (wrap .i64 (x5+1)) x6 x7 x8 x9 x10 x11 x12 A9 Aa x15 x16))
 (ob (qBb x13 x14 (getD x16 (Int.toNat x5) 0)) fun (A1,A2)=>
 rec x0 x1 x2 x3 x4 (wrap .i64 (x5+1)) x6 x7 x8 x9 x10 x11 x12 A1 A2 x15 x16)))
 (none))
 (some (x6,x7,x8,x9,x10,x11,x12,x13,x14))
def qDi:Nat->Int->Int->Int->Nat->Int->Int->LI->LI->Int->LL->LL->Int->Int->Int->Int->Nat->LI->Option (LI×LI×Int×LL×LL×Int×Int×Int×Int)
 | 0,_,_,_,_,_,_,_,_,_,_,_,_,_,_,_,_,_=>none
 | f+1,x0,x1,x2,x3,x4,x5,x6,x7,x8,x9,x10,x11,x12,x13,x14,x15,x16=>qHO (qDi f) x0 x1 x2 x3 x4 x5 x6 x7 x8 x9 x10 x11 x12 x13 x14 x15 x16
def qKm (x0 x1:Int) (x2 x3:LI) (x4:Int) (x5 x6:LL):Option (Int×Int):=
 ob (qBS x0 x1) fun A0=>
 br (A0==0)
 (some (0,0))
 (br (decide (x1 >= 8))
 (some (0,0))
 (ob (qDc x2 x3 x4 x5 x6) fun (A1,A2)=>
 ob (qMB A1 A2) fun (A3,A4)=>
 ob (qFg A3 A4) fun (A5,A6,A7)=>
 ob (qDi qC x0 x1 A0 A5 (Int.ofNat A5) 0 x2 x3 x4 x5 x6 0 0 0 0 A6 A7) fun (_,_,_,_,_,_,_,A8,A9)=>
 some (A8,A9)))
def qHN (rec:Nat->Int->Int->Nat->Int->Int->LI->LI->Int->LL->LL->Int->Int->Nat->LL->Nat->LI->Option (Nat×Int×Int×LI×LI×Int×LL×LL×Int×Int×Nat×LL)) (x0:Nat) (x1 x2:Int) (x3:Nat) (x4 x5:Int) (x6 x7:LI) (x8:Int) (x9 x10:LL) (x11 x12:Int) (x13:Nat) (x14:LL) (x15:Nat) (x16:LI):Option (Nat×Int×Int×LI×LI×Int×LL×LL×Int×Int×Nat×LL):=
 br (decide (x5<x4))
 (br (inB x5 x3)
 (br (decide ((x0+1)*32<=140737488355328))
 (rec (x0+1) x1 x2 x3 x4 (wrap .i64 (x5+1)) x6 x7 x8 x9 x10 x11 x12 (x0+1) (List.append (take x0 x14) [[0,getD x16 (Int.toNat x5) 0,x2,0]]) x15 x16)
 (none))
 (none))
 (some (x0,x1,x2,x6,x7,x8,x9,x10,x11,x12,x13,x14))
def qE7:Nat->Nat->Int->Int->Nat->Int->Int->LI->LI->Int->LL->LL->Int->Int->Nat->LL->Nat->LI->Option (Nat×Int×Int×LI×LI×Int×LL×LL×Int×Int×Nat×LL)
 | 0,_,_,_,_,_,_,_,_,_,_,_,_,_,_,_,_,_=>none
 | f+1,x0,x1,x2,x3,x4,x5,x6,x7,x8,x9,x10,x11,x12,x13,x14,x15,x16=>qHN (qE7 f) x0 x1 x2 x3 x4 x5 x6 x7 x8 x9 x10 x11 x12 x13 x14 x15 x16
def qHM (rec:Nat->Int->Int->LI->LI->Int->LL->LL->Int->Int->Nat->LL->Option (Nat×LI×LI×Int×LL×LL×Nat×LL)) (x0:Nat) (x1 x2:Int) (x3 x4:LI) (x5:Int) (x6 x7:LL) (x8 x9:Int) (x10:Nat) (x11:LL):Option (Nat×LI×LI×Int×LL×LL×Nat×LL):=
 br (decide (x2<8))
 (ob (qC8 x1 x2 x3 x4 x5 x6 x7) fun A0=>
 br (decide (A0<1))
 (rec x0 x1 (wrap .i64 (x2+1)) x3 x4 x5 x6 x7 x8 x9 x10 x11)
 (ob (qKm x1 x2 x3 x4 x5 x6 x7) fun (A1,A2)=>
 ob (qDN A1 A2 x8 x9) fun (A3,A4)=>
 ob (qFg A3 A4) fun (A5,A6,A7)=>
 ob (qE7 qC x0 x1 x2 A5 (Int.ofNat A5) 0 x3 x4 x5 x6 x7 x8 x9 x10 x11 A6 A7) fun (A8,A9,Aa,Ab,Ac,Ad,Ae,Af,Ag,Ah,Ai,Aj)=>
 rec A8 A9 (wrap .i64 (Aa+1)) Ab Ac Ad Ae Af Ag Ah Ai Aj))
 (some (x0,x3,x4,x5,x6,x7,x10,x11))
def qE6:Nat->Nat->Int->Int->LI->LI->Int->LL->LL->Int->Int->Nat->LL->Option (Nat×LI×LI×Int×LL×LL×Nat×LL)
 | 0,_,_,_,_,_,_,_,_,_,_,_,_=>none
 | f+1,x0,x1,x2,x3,x4,x5,x6,x7,x8,x9,x10,x11=>qHM (qE6 f) x0 x1 x2 x3 x4 x5 x6 x7 x8 x9 x10 x11
def qKl (x0 x1:Int) (x2 x3:LI) (x4:Int) (x5 x6:LL):Option (Nat×Nat×LL):=
 ob (qE6 qC 0 x4 1 x2 x3 x4 x5 x6 x0 x1 0 []) fun (A0,_,_,_,_,_,A1,A2)=>
 some (A0,A1,A2)
def qFP (x0:Int):Option (Int):=
 br (decide (x0 >= 1))
 (br (decide (x0<=7))
 (br (x0 != 5)
 (some (wrap .i64 (x0+8)))
 (some (0)))
 (some (0)))
 (some (0))
def qLu (x0 x1 x2:Int):Option (Bool):=
 ob (qAb x0) fun A0=>
 ob (qFP A0) fun A1=>
 br (A1==0)
 (some (false))
 (ob (qBU x0) fun A2=>
 ob (qDt A2 x1) fun A3=>
 ob (qBU x0) fun A4=>
 ob (qDt A4 x2) fun A5=>
 br (decide (A3 >= 0))
 (br (decide (A3<=2))
 (some (true))
 (br (decide (A5 >= 0))
 (some (decide (A5<=2)))
 (some (false))))
 (br (decide (A5 >= 0))
 (some (decide (A5<=2)))
 (some (false))))
def qLv (x0 x1:Int):Option (Bool):=
 ob (qAb x0) fun A0=>
 ob (qFP A0) fun A1=>
 br (A1 != 0)
 (ob (qDs x0 x1) fun A2=>
 some (A2))
 (some (false))
def qLp (x0 x1 x2:Int) (x3:Bool):Option (Int):=
 br (decide (x1<0))
 (some (1))
 (br (decide (x1>80))
 (some (1))
 (br (x2 != 0)
 (br (decide (x2<1))
 (some (70))
 (br (decide (x2>7))
 (some (70))
 (br (x0 != 0)
 (some (70))
 (br (x3)
 (some (70))
 (some (0))))))
 (br (decide (x0<0))
 (some (1))
 (br (decide (x0>80))
 (some (1))
 (br (x0==x1)
 (some (70))
 (some (0)))))))
def qLt (x0 x1:LI) (x2 x3:Int) (x4 x5:Int) (x6:Bool):Option (Bool):=
 ob (qLp x3 x4 x5 x6) fun A0=>
 br (A0 != 0)
 (some (false))
 (br (x2 != 0)
 (br (x2 != 1)
 (some (false))
 (br (inB x4 81)
 (br (x5 != 0)
 (br (inB x2 2)
 (br (inB x5 8)
 (br (decide (getD x1 (Int.toNat x2*8+Int.toNat x5) 0>0))
 (some (conv .i8 .i64 (getD x0 (Int.toNat x4) 0)==0))
 (some (false)))
 (none))
 (none))
 (br (inB x3 81)
 (ob (qBU (conv .i8 .i64 (getD x0 (Int.toNat x3) 0))) fun A1=>
 br (A1 != x2)
 (some (false))
 (ob (qBU (conv .i8 .i64 (getD x0 (Int.toNat x4) 0))) fun A2=>
 br (A2==x2)
 (some (false))
 (ob (qAb (conv .i8 .i64 (getD x0 (Int.toNat x4) 0))) fun A3=>
 br (A3==8)
 (some (false))
 (br (!x6)
 (some (true))
 (ob (qAb (conv .i8 .i64 (getD x0 (Int.toNat x3) 0))) fun A4=>
 ob (qFP A4) fun A5=>
 some (A5 != 0))))))
 (none)))
 (none)))
 (br (inB x4 81)
 (br (x5 != 0)
 (br (inB x2 2)
 (br (inB x5 8)
 (br (decide (getD x1 (Int.toNat x2*8+Int.toNat x5) 0>0))
 (some (conv .i8 .i64 (getD x0 (Int.toNat x4) 0)==0))
 (some (false)))
 (none))
 (none))
 (br (inB x3 81)
 (ob (qBU (conv .i8 .i64 (getD x0 (Int.toNat x3) 0))) fun A1=>
 br (A1 != x2)
 (some (false))
 (ob (qBU (conv .i8 .i64 (getD x0 (Int.toNat x4) 0))) fun A2=>
 br (A2==x2)
 (some (false))
 (ob (qAb (conv .i8 .i64 (getD x0 (Int.toNat x4) 0))) fun A3=>
 br (A3==8)
 (some (false))
 (br (!x6)
 (some (true))
 (ob (qAb (conv .i8 .i64 (getD x0 (Int.toNat x3) 0))) fun A4=>
 ob (qFP A4) fun A5=>
 some (A5 != 0))))))
 (none)))
 (none)))
def qHw (rec:Int->LI->LI->Int->List Bool->List Bool->Option (List Bool×List Bool)) (x0:Int) (x1 x2:LI) (x3:Int) (x4 x5:List Bool):Option (List Bool×List Bool):=
 br (decide (x0<81))
 (br (inB x0 81)
 (br (inB x0 81)
 (rec (wrap .i64 (x0+1)) x1 x2 x3 x4 (List.set x5 (Int.toNat x0) (getD x1 (Int.toNat x0) 0 != 0)))
 (none))
 (none))
 (some (x4,x5))
def qEQ:Nat->Int->LI->LI->Int->List Bool->List Bool->Option (List Bool×List Bool)
 | 0,_,_,_,_,_,_=>none
 | f+1,x0,x1,x2,x3,x4,x5=>qHw (qEQ f) x0 x1 x2 x3 x4 x5
def qFT (x0 x1:LI) (x2:Int):Option (List Bool):=
 ob (qEQ qC 0 x0 x1 x2 ([false,false,false,false,false,false,false,false,false,false,false,false,false,false,false,false,false,false,false,false,false,false,false,false,false,false,false,false,false,false,false,false,false,false,false,false,false,false,false,false,false,false,false,false,false,false,false,false,false,false,false,false,false,false,false,false,false,false,false,false,false,false,false,false,false,false,false,false,false,false,false,false,false,false,false,false,false,false,false,false,false]) ([false,false,false,false,false,false,false,false,false,false,false,false,false,false,false,false,false,false,false,false,false,false,false,false,false,false,false,false,false,false,false,false,false,false,false,false,false,false,false,false,false,false,false,false,false,false,false,false,false,false,false,false,false,false,false,false,false,false,false,false,false,false,false,false,false,false,false,false,false,false,false,false,false,false,false,false,false,false,false,false,false])) fun (_,A0)=>
 some (A0)
def qGO (x0:Int):Option (Int):=
 br (decide (x0<0))
 (some (wrap .i64 (0 - x0)))
 (some (x0))
def qLj (x0 x1 x2:Int):Option (Bool):=
 br (decide (x1<0))
 (some (false))
 (br (decide (x1>80))
 (some (false))
 (br (decide (x2<0))
 (some (false))
 (br (decide (x2>80))
 (some (false))
 (br (x1==x2)
 (some (false))
 (ob (qGO (wrap .i64 (wrap .i64 (Int.tdiv x2 9) - wrap .i64 (Int.tdiv x1 9)))) fun A0=>
 ob (qBU x0) fun A1=>
 br (A1==1)
 (br (decide (A0<=1))
 (ob (qGO (wrap .i64 (0 - wrap .i64 (Int.tmod x1 9 - Int.tmod x2 9)))) fun A2=>
 ob (qAb x0) fun A3=>
 br (A3==1)
 (br (A0==0)
 (some (wrap .i64 (0 - wrap .i64 (Int.tmod x1 9 - Int.tmod x2 9))==1))
 (some (false)))
 (br (A3==3)
 (br (A0==1)
 (some (wrap .i64 (0 - wrap .i64 (Int.tmod x1 9 - Int.tmod x2 9))==2))
 (some (false)))
 (br (A3==4)
 (br (decide (A2<=1))
 (br (wrap .i64 (0 - wrap .i64 (Int.tmod x1 9 - Int.tmod x2 9))==1)
 (some (true))
 (br (A0==1)
 (some (wrap .i64 (0 - wrap .i64 (Int.tmod x1 9 - Int.tmod x2 9)) == -1))
 (some (false))))
 (some (false)))
 (br (A3==5)
 (br (decide (A2<=1))
 (br (decide (wrap .i64 (0 - wrap .i64 (Int.tmod x1 9 - Int.tmod x2 9)) >= 0))
 (some (true))
 (some (A0==0)))
 (some (false)))
 (br (A3==9)
 (br (decide (A2<=1))
 (br (decide (wrap .i64 (0 - wrap .i64 (Int.tmod x1 9 - Int.tmod x2 9)) >= 0))
 (some (true))
 (some (A0==0)))
 (some (false)))
 (br (A3==10)
 (br (decide (A2<=1))
 (br (decide (wrap .i64 (0 - wrap .i64 (Int.tmod x1 9 - Int.tmod x2 9)) >= 0))
 (some (true))
 (some (A0==0)))
 (some (false)))
 (br (A3==11)
 (br (decide (A2<=1))
 (br (decide (wrap .i64 (0 - wrap .i64 (Int.tmod x1 9 - Int.tmod x2 9)) >= 0))
 (some (true))
 (some (A0==0)))
 (some (false)))
 (br (A3==12)
 (br (decide (A2<=1))
 (br (decide (wrap .i64 (0 - wrap .i64 (Int.tmod x1 9 - Int.tmod x2 9)) >= 0))
 (some (true))
 (some (A0==0)))
 (some (false)))
 (br (A3==8)
 (some (decide (A2<=1)))
 (br (A3==14)
 (br (decide (A2<=1))
 (br (A0==0)
 (some (true))
 (some (wrap .i64 (0 - wrap .i64 (Int.tmod x1 9 - Int.tmod x2 9))==0)))
 (some (false)))
 (br (A3==15)
 (br (decide (A2<=1))
 (br (A0==1)
 (some (wrap .i64 (0 - wrap .i64 (Int.tmod x1 9 - Int.tmod x2 9)) != 0))
 (some (false)))
 (some (false)))
 (some (false)))))))))))))
 (ob (qAb x0) fun A2=>
 br (A2==1)
 (br (A0==0)
 (some (wrap .i64 (0 - wrap .i64 (Int.tmod x1 9 - Int.tmod x2 9))==1))
 (some (false)))
 (br (A2==3)
 (br (A0==1)
 (some (wrap .i64 (0 - wrap .i64 (Int.tmod x1 9 - Int.tmod x2 9))==2))
 (some (false)))
 (br (A2==4)
 (some (false))
 (br (A2==5)
 (some (false))
 (br (A2==9)
 (some (false))
 (br (A2==10)
 (some (false))
 (br (A2==11)
 (some (false))
 (br (A2==12)
 (some (false))
 (br (A2==8)
 (some (false))
 (br (A2==14)
 (some (false))
 (br (A2==15)
 (some (false))
 (some (false))))))))))))))
 (br (decide (A0<=1))
 (ob (qGO (wrap .i64 (Int.tmod x1 9 - Int.tmod x2 9))) fun A2=>
 ob (qAb x0) fun A3=>
 br (A3==1)
 (br (A0==0)
 (some (wrap .i64 (Int.tmod x1 9 - Int.tmod x2 9)==1))
 (some (false)))
 (br (A3==3)
 (br (A0==1)
 (some (wrap .i64 (Int.tmod x1 9 - Int.tmod x2 9)==2))
 (some (false)))
 (br (A3==4)
 (br (decide (A2<=1))
 (br (wrap .i64 (Int.tmod x1 9 - Int.tmod x2 9)==1)
 (some (true))
 (br (A0==1)
 (some (wrap .i64 (Int.tmod x1 9 - Int.tmod x2 9) == -1))
 (some (false))))
 (some (false)))
 (br (A3==5)
 (br (decide (A2<=1))
 (br (decide (wrap .i64 (Int.tmod x1 9 - Int.tmod x2 9) >= 0))
 (some (true))
 (some (A0==0)))
 (some (false)))
 (br (A3==9)
 (br (decide (A2<=1))
 (br (decide (wrap .i64 (Int.tmod x1 9 - Int.tmod x2 9) >= 0))
 (some (true))
 (some (A0==0)))
 (some (false)))
 (br (A3==10)
 (br (decide (A2<=1))
 (br (decide (wrap .i64 (Int.tmod x1 9 - Int.tmod x2 9) >= 0))
 (some (true))
 (some (A0==0)))
 (some (false)))
 (br (A3==11)
 (br (decide (A2<=1))
 (br (decide (wrap .i64 (Int.tmod x1 9 - Int.tmod x2 9) >= 0))
 (some (true))
 (some (A0==0)))
 (some (false)))
 (br (A3==12)
 (br (decide (A2<=1))
 (br (decide (wrap .i64 (Int.tmod x1 9 - Int.tmod x2 9) >= 0))
 (some (true))
 (some (A0==0)))
 (some (false)))
 (br (A3==8)
 (some (decide (A2<=1)))
 (br (A3==14)
 (br (decide (A2<=1))
 (br (A0==0)
 (some (true))
 (some (wrap .i64 (Int.tmod x1 9 - Int.tmod x2 9)==0)))
 (some (false)))
 (br (A3==15)
 (br (decide (A2<=1))
 (br (A0==1)
 (some (wrap .i64 (Int.tmod x1 9 - Int.tmod x2 9) != 0))
 (some (false)))
 (some (false)))
 (some (false)))))))))))))
 (ob (qAb x0) fun A2=>
 br (A2==1)
 (br (A0==0)
 (some (wrap .i64 (Int.tmod x1 9 - Int.tmod x2 9)==1))
 (some (false)))
 (br (A2==3)
 (br (A0==1)
 (some (wrap .i64 (Int.tmod x1 9 - Int.tmod x2 9)==2))
 (some (false)))
 (br (A2==4)
 (some (false))
 (br (A2==5)
 (some (false))
 (br (A2==9)
 (some (false))
 (br (A2==10)
 (some (false))
 (br (A2==11)
 (some (false))
 (br (A2==12)
 (some (false))
 (br (A2==8)
 (some (false))
 (br (A2==14)
 (some (false))
 (br (A2==15)
 (some (false))
 (some (false)))))))))))))))))))
def qJP (x0 x1:Int):Option (Int):=
 br (decide (x0<0))
 (some (0))
 (br (decide (x0>80))
 (some (0))
 (br (decide (x1<0))
 (some (0))
 (br (decide (x1>80))
 (some (0))
 (br (x0==x1)
 (some (0))
 (br (wrap .i64 (wrap .i64 (Int.tdiv x1 9) - wrap .i64 (Int.tdiv x0 9))==0)
 (some (1))
 (br (wrap .i64 (Int.tmod x1 9 - Int.tmod x0 9)==0)
 (some (1))
 (br (wrap .i64 (wrap .i64 (Int.tdiv x1 9) - wrap .i64 (Int.tdiv x0 9))==wrap .i64 (Int.tmod x1 9 - Int.tmod x0 9))
 (some (2))
 (br (wrap .i64 (wrap .i64 (Int.tdiv x1 9) - wrap .i64 (Int.tdiv x0 9))==wrap .i64 (0 - wrap .i64 (Int.tmod x1 9 - Int.tmod x0 9)))
 (some (2))
 (some (0))))))))))
def qJQ (x0:Int):Option (Int):=
 br (decide (x0<0))
 (some (-1))
 (br (decide (x0>0))
 (some (1))
 (some (0)))
def qHt (rec:Int->Nat->Int->Int->Nat->LI->Option (Nat×Nat×LI)) (x0:Int) (x1:Nat) (x2 x3:Int) (x4:Nat) (x5:LI):Option (Nat×Nat×LI):=
 br (x3 != x0)
 (br (decide ((x1+1)*8<=140737488355328))
 (rec x0 (x1+1) x2 (wrap .i64 (x3+x2)) (x1+1) (List.append (take x1 x5) [x3]))
 (none))
 (some (x1,x4,x5))
def qFQ:Nat->Int->Nat->Int->Int->Nat->LI->Option (Nat×Nat×LI)
 | 0,_,_,_,_,_,_=>none
 | f+1,x0,x1,x2,x3,x4,x5=>qHt (qFQ f) x0 x1 x2 x3 x4 x5
def qLk (x0 x1:Int):Option (Nat×Nat×LI):=
 ob (qJP x0 x1) fun A0=>
 br (A0==0)
 (some (0,0,[]))
 (ob (qJQ (wrap .i64 (wrap .i64 (Int.tdiv x1 9) - wrap .i64 (Int.tdiv x0 9)))) fun A1=>
 ob (qJQ (wrap .i64 (Int.tmod x1 9 - Int.tmod x0 9))) fun A2=>
 ob (qFQ qC x1 0 (wrap .i64 (wrap .i64 (9*A1)+A2)) (wrap .i64 (x0+wrap .i64 (wrap .i64 (9*A1)+A2))) 0 []) fun (A3,A4,A5)=>
 some (A3,A4,A5))
def qHu (rec:Nat->Int->List Bool->Nat->LI->Option ((Bool)⊕(Unit))) (x0:Nat) (x1:Int) (x2:List Bool) (x3:Nat) (x4:LI):Option ((Bool)⊕(Unit)):=
 br (decide (x1<Int.ofNat x0))
 (br (inB x1 x0)
 (br (inB (getD x4 (Int.toNat x1) 0) 81)
 (br (getD x2 (Int.toNat (getD x4 (Int.toNat x1) 0)) false)
 (some (.inl (false)))
 (rec x0 (wrap .i64 (x1+1)) x2 x3 x4))
 (none))
 (none))
 (some (.inr ()))
def qFR:Nat->Nat->Int->List Bool->Nat->LI->Option ((Bool)⊕(Unit))
 | 0,_,_,_,_,_=>none
 | f+1,x0,x1,x2,x3,x4=>qHu (qFR f) x0 x1 x2 x3 x4
def qA6 (x0 x1:Int) (x2:List Bool):Option (Bool):=
 ob (qLk x0 x1) fun (A0,A1,A2)=>
 ob (qFR qC A0 0 x2 A1 A2) fun A3=>
 sw A3 (fun A4=>
 some (A4))
 (fun _=>
 some (true))
def qGP (x0 x1 x2:Int) (x3:List Bool):Option (Bool):=
 ob (qLj x0 x1 x2) fun A0=>
 br (A0)
 (some (true))
 (ob (qJP x1 x2) fun A1=>
 ob (qBU x0) fun A2=>
 br (A2==1)
 (ob (qAb x0) fun A3=>
 br (A3==2)
 (br (A1==1)
 (br (wrap .i64 (Int.tdiv x1 9)==wrap .i64 (Int.tdiv x2 9))
 (br (decide (wrap .i64 (0 - wrap .i64 (Int.tmod x1 9 - Int.tmod x2 9))>0))
 (ob (qA6 x1 x2 x3) fun A4=>
 some (A4))
 (some (false)))
 (some (false)))
 (some (false)))
 (br (A3==6)
 (br (A1==2)
 (ob (qA6 x1 x2 x3) fun A4=>
 some (A4))
 (some (false)))
 (br (A3==14)
 (br (A1==2)
 (ob (qA6 x1 x2 x3) fun A4=>
 some (A4))
 (some (false)))
 (br (A3==7)
 (br (A1==1)
 (ob (qA6 x1 x2 x3) fun A4=>
 some (A4))
 (some (false)))
 (br (A3==15)
 (br (A1==1)
 (ob (qA6 x1 x2 x3) fun A4=>
 some (A4))
 (some (false)))
 (some (false)))))))
 (ob (qAb x0) fun A3=>
 br (A3==2)
 (br (A1==1)
 (br (wrap .i64 (Int.tdiv x1 9)==wrap .i64 (Int.tdiv x2 9))
 (br (decide (wrap .i64 (Int.tmod x1 9 - Int.tmod x2 9)>0))
 (ob (qA6 x1 x2 x3) fun A4=>
 some (A4))
 (some (false)))
 (some (false)))
 (some (false)))
 (br (A3==6)
 (br (A1==2)
 (ob (qA6 x1 x2 x3) fun A4=>
 some (A4))
 (some (false)))
 (br (A3==14)
 (br (A1==2)
 (ob (qA6 x1 x2 x3) fun A4=>
 some (A4))
 (some (false)))
 (br (A3==7)
 (br (A1==1)
 (ob (qA6 x1 x2 x3) fun A4=>
 some (A4))
 (some (false)))
 (br (A3==15)
 (br (A1==1)
 (ob (qA6 x1 x2 x3) fun A4=>
 some (A4))
 (some (false)))
 (some (false))))))))
def qGS (x0 x1:LI) (x2 x3:Int) (x4 x5:Int) (x6:Bool):Option (Bool):=
 ob (qLt x0 x1 x2 x3 x4 x5 x6) fun A0=>
 br (!A0)
 (some (false))
 (br (x5 != 0)
 (ob (qDs (wrap .i64 (wrap .i64 (16*x2)+x5)) x4) fun A1=>
 br (!A1)
 (br (x5 != 1)
 (some (true))
 (ob (qEP x0 x1 x2 (wrap .i64 (wrap .i64 (16*x2)+x5)) (wrap .i64 (Int.tdiv x4 9))) fun A2=>
 some (A2==0)))
 (some (false)))
 (br (inB x3 81)
 (ob (qFT x0 x1 x2) fun A1=>
 ob (qGP (conv .i8 .i64 (getD x0 (Int.toNat x3) 0)) x3 x4 A1) fun A2=>
 br (!A2)
 (some (false))
 (br (x6)
 (ob (qLu (conv .i8 .i64 (getD x0 (Int.toNat x3) 0)) x3 x4) fun A3=>
 some (A3))
 (ob (qLv (conv .i8 .i64 (getD x0 (Int.toNat x3) 0)) x4) fun A3=>
 some (!A3))))
 (none)))
def qH0 (rec:Nat->Int->Int->LI->LI->Int->Nat->LL->List Bool->Option (Nat×Int×LI×LI×Int×Nat×LL×List Bool)) (x0:Nat) (x1 x2:Int) (x3 x4:LI) (x5:Int) (x6:Nat) (x7:LL) (x8:List Bool):Option (Nat×Int×LI×LI×Int×Nat×LL×List Bool):=
 br (decide (x2<81))
 (br (inB x1 81)
 (ob (qGP (conv .i8 .i64 (getD x3 (Int.toNat x1) 0)) x1 x2 x8) fun A0=>
 br (!A0)
 (rec x0 x1 (wrap .i64 (x2+1)) x3 x4 x5 x6 x7 x8)
 (ob (qGS x3 x4 x5 x1 x2 0 false) fun A1=>
 br (A1)
 (br (decide ((x0+1)*32<=140737488355328))
 (ob (qGS x3 x4 x5 x1 x2 0 true) fun A2=>
 br (A2)
 (br (decide ((x0+1+1)*32<=140737488355328))
 (rec (x0+1+1) x1 (wrap .i64 (x2+1)) x3 x4 x5 (x0+1+1) (List.append (take (x0+1) (List.append (take x0 x7) [[x1,x2,0,0]])) [[x1,x2,0,1]]) x8)
 (none))
 (rec (x0+1) x1 (wrap .i64 (x2+1)) x3 x4 x5 (x0+1) (List.append (take x0 x7) [[x1,x2,0,0]]) x8))
 (none))
 (ob (qGS x3 x4 x5 x1 x2 0 true) fun A2=>
 br (A2)
 (br (decide ((x0+1)*32<=140737488355328))
 (rec (x0+1) x1 (wrap .i64 (x2+1)) x3 x4 x5 (x0+1) (List.append (take x0 x7) [[x1,x2,0,1]]) x8)
 (none))
 (rec x0 x1 (wrap .i64 (x2+1)) x3 x4 x5 x6 x7 x8))))
 (none))
 (some (x0,x1,x3,x4,x5,x6,x7,x8))
def qFW:Nat->Nat->Int->Int->LI->LI->Int->Nat->LL->List Bool->Option (Nat×Int×LI×LI×Int×Nat×LL×List Bool)
 | 0,_,_,_,_,_,_,_,_,_=>none
 | f+1,x0,x1,x2,x3,x4,x5,x6,x7,x8=>qH0 (qFW f) x0 x1 x2 x3 x4 x5 x6 x7 x8
def qH3 (rec:Nat->Int->LI->LI->Int->Nat->LL->List Bool->Option (Nat×LI×LI×Int×Nat×LL)) (x0:Nat) (x1:Int) (x2 x3:LI) (x4:Int) (x5:Nat) (x6:LL) (x7:List Bool):Option (Nat×LI×LI×Int×Nat×LL):=
 br (decide (x1<81))
 (br (inB x1 81)
 (ob (qBU (conv .i8 .i64 (getD x2 (Int.toNat x1) 0))) fun A0=>
 br (A0 != x4)
 (rec x0 (wrap .i64 (x1+1)) x2 x3 x4 x5 x6 x7)
 (ob (qFW qC x0 x1 0 x2 x3 x4 x5 x6 x7) fun (A1,A2,A3,A4,A5,A6,A7,A8)=>
 rec A1 (wrap .i64 (A2+1)) A3 A4 A5 A6 A7 A8))
 (none))
 (some (x0,x2,x3,x4,x5,x6))
def qD3:Nat->Nat->Int->LI->LI->Int->Nat->LL->List Bool->Option (Nat×LI×LI×Int×Nat×LL)
 | 0,_,_,_,_,_,_,_,_=>none
 | f+1,x0,x1,x2,x3,x4,x5,x6,x7=>qH3 (qD3 f) x0 x1 x2 x3 x4 x5 x6 x7
def qH2 (rec:Nat->Int->Int->LI->LI->Int->Nat->LL->Option (Nat×Int×LI×LI×Int×Nat×LL)) (x0:Nat) (x1 x2:Int) (x3 x4:LI) (x5:Int) (x6:Nat) (x7:LL):Option (Nat×Int×LI×LI×Int×Nat×LL):=
 br (decide (x2<81))
 (br (inB x5 2)
 (br (inB x1 8)
 (br (decide (getD x4 (Int.toNat x5*8+Int.toNat x1) 0>0))
 (ob (qGS x3 x4 x5 0 x2 x1 false) fun A0=>
 br (A0)
 (br (decide ((x0+1)*32<=140737488355328))
 (rec (x0+1) x1 (wrap .i64 (x2+1)) x3 x4 x5 (x0+1) (List.append (take x0 x7) [[0,x2,x1,0]]))
 (none))
 (rec x0 x1 (wrap .i64 (x2+1)) x3 x4 x5 x6 x7))
 (some (x0,x1,x3,x4,x5,x6,x7)))
 (none))
 (none))
 (some (x0,x1,x3,x4,x5,x6,x7))
def qFX:Nat->Nat->Int->Int->LI->LI->Int->Nat->LL->Option (Nat×Int×LI×LI×Int×Nat×LL)
 | 0,_,_,_,_,_,_,_,_=>none
 | f+1,x0,x1,x2,x3,x4,x5,x6,x7=>qH2 (qFX f) x0 x1 x2 x3 x4 x5 x6 x7
def qH1 (rec:Nat->Int->LI->LI->Int->Nat->LL->Option (Nat×Nat×LL)) (x0:Nat) (x1:Int) (x2 x3:LI) (x4:Int) (x5:Nat) (x6:LL):Option (Nat×Nat×LL):=
 br (decide (x1<=7))
 (ob (qFX qC x0 x1 0 x2 x3 x4 x5 x6) fun (A0,A1,A2,A3,A4,A5,A6)=>
 rec A0 (wrap .i64 (A1+1)) A2 A3 A4 A5 A6)
 (some (x0,x5,x6))
def qD2:Nat->Nat->Int->LI->LI->Int->Nat->LL->Option (Nat×Nat×LL)
 | 0,_,_,_,_,_,_,_=>none
 | f+1,x0,x1,x2,x3,x4,x5,x6=>qH1 (qD2 f) x0 x1 x2 x3 x4 x5 x6
def qJS (x0 x1:LI) (x2:Int):Option (Nat×Nat×LL):=
 br (x2 != 0)
 (br (x2 != 1)
 (some (0,0,[]))
 (ob (qFT x0 x1 x2) fun A0=>
 ob (qD3 qC 0 0 x0 x1 x2 0 [] A0) fun (A1,A2,A3,A4,A5,A6)=>
 ob (qD2 qC A1 1 A2 A3 A4 A5 A6) fun (A7,A8,A9)=>
 some (A7,A8,A9)))
 (ob (qFT x0 x1 x2) fun A0=>
 ob (qD3 qC 0 0 x0 x1 x2 0 [] A0) fun (A1,A2,A3,A4,A5,A6)=>
 ob (qD2 qC A1 1 A2 A3 A4 A5 A6) fun (A7,A8,A9)=>
 some (A7,A8,A9))
def qGr (rec:Int->Int->Int->LI->LI->Int->LL->LL->Int->Int->Int->Int->Int->Int->Option (LI×LI×Int×LL×LL×Int×Int×Int×Int)) (x0 x1 x2:Int) (x3 x4:LI) (x5:Int) (x6 x7:LL) (x8 x9:Int) (x10 x11:Int) (x12 x13:Int):Option (LI×LI×Int×LL×LL×Int×Int×Int×Int):=
 br (decide (x2<=15))
 (ob (qBS (wrap .i64 (1 - x1)) x2) fun A0=>
 br (A0==0)
 (rec x0 x1 (wrap .i64 (x2+1)) x3 x4 x5 x6 x7 x8 x9 x10 x11 x12 x13)
 (ob (qGL A0 x0 x8 x9) fun (A1,A2)=>
 ob (qDb x1 x2 x3 x4 x5 x6 x7) fun (A3,A4)=>
 ob (qDN A1 A2 A3 A4) fun (A5,A6)=>
 ob (qEU x12 x13 A5 A6) fun (A7,A8)=>
 rec x0 x1 (wrap .i64 (x2+1)) x3 x4 x5 x6 x7 x8 x9 x10 x11 A7 A8))
 (some (x3,x4,x5,x6,x7,x10,x11,x12,x13))
def qEA:Nat->Int->Int->Int->LI->LI->Int->LL->LL->Int->Int->Int->Int->Int->Int->Option (LI×LI×Int×LL×LL×Int×Int×Int×Int)
 | 0,_,_,_,_,_,_,_,_,_,_,_,_,_,_=>none
 | f+1,x0,x1,x2,x3,x4,x5,x6,x7,x8,x9,x10,x11,x12,x13=>qGr (qEA f) x0 x1 x2 x3 x4 x5 x6 x7 x8 x9 x10 x11 x12 x13
def qIc (x0 x1:Int) (x2 x3:Int) (x4 x5:LI) (x6:Int) (x7 x8:LL):Option (Int×Int):=
 br (decide (x0<0))
 (some (0,0))
 (br (decide (x0 >= 81))
 (some (0,0))
 (br (x1 != 0)
 (br (x1 != 1)
 (some (0,0))
 (ob (qEA qC x0 x1 1 x4 x5 x6 x7 x8 x2 x3 0 0 0 0) fun (_,_,_,_,_,_,_,A0,A1)=>
 some (A0,A1)))
 (ob (qEA qC x0 x1 1 x4 x5 x6 x7 x8 x2 x3 0 0 0 0) fun (_,_,_,_,_,_,_,A0,A1)=>
 some (A0,A1))))
def qGq (x0:Int) (x1 x2:LI) (x3:Int) (x4 x5:LL):Option (Int×Int):=
 ob (qGy x0 x1 x2 x3 x4 x5) fun A0=>
 ob (qDc x1 x2 x3 x4 x5) fun (A1,A2)=>
 ob (qIc A0 (wrap .i64 (1 - x0)) A1 A2 x1 x2 x3 x4 x5) fun (A3,A4)=>
 some (A3,A4)
def qIb (x0:Int) (x1 x2:LI) (x3:Int) (x4 x5:LL):Option (Bool):=
 ob (qGq x0 x1 x2 x3 x4 x5) fun (A0,A1)=>
 ob (qFe A0 A1) fun A2=>
 some (!A2)
def qJ7 (x0 x1:LI) (x2:Int):Option (Int):=
 ob (qKE x0 x1 x2) fun A0=>
 br (A0 != 0)
 (some (A0))
 (ob (qGz x0 x1 x2) fun (A1,A2,A3,A4,A5)=>
 ob (qIb (wrap .i64 (1 - x2)) A1 A2 A3 A4 A5) fun A6=>
 br (A6)
 (some (54))
 (some (0)))
def qII (rec:Nat->Int->Int->Nat->LI->Int->Int->Int->Int->Option (Nat×LI×Int×Int×Int×Int)) (x0:Nat) (x1 x2:Int) (x3:Nat) (x4:LI) (x5 x6:Int) (x7 x8:Int):Option (Nat×LI×Int×Int×Int×Int):=
 br (decide (x2<x1))
 (br (inB x2 x0)
 (ob (qBb x7 x8 (getD x4 (Int.toNat x2) 0)) fun (A0,A1)=>
 rec x0 x1 (wrap .i64 (x2+1)) x3 x4 x5 x6 A0 A1)
 (none))
 (some (x3,x4,x5,x6,x7,x8))
def qFf:Nat->Nat->Int->Int->Nat->LI->Int->Int->Int->Int->Option (Nat×LI×Int×Int×Int×Int)
 | 0,_,_,_,_,_,_,_,_,_=>none
 | f+1,x0,x1,x2,x3,x4,x5,x6,x7,x8=>qII (qFf f) x0 x1 x2 x3 x4 x5 x6 x7 x8
def qJh (x0 x1:Nat) (x2:LI):Option (Int×Int):=
 ob (qFf qC x0 (Int.ofNat x0) 0 x1 x2 0 0 0 0) fun (_,_,_,_,A0,A1)=>
 some (A0,A1)
def qHz (rec:Int->Int->LI->LI->Int->Option ((Int)⊕(Unit))) (x0 x1:Int) (x2 x3:LI) (x4:Int):Option ((Int)⊕(Unit)):=
 br (decide (x1<81))
 (br (inB x1 81)
 (br (conv .i8 .i64 (getD x2 (Int.toNat x1) 0)==wrap .i64 (wrap .i64 (16*x0)+8))
 (some (.inl (x1)))
 (rec x0 (wrap .i64 (x1+1)) x2 x3 x4))
 (none))
 (some (.inr ()))
def qFV:Nat->Int->Int->LI->LI->Int->Option ((Int)⊕(Unit))
 | 0,_,_,_,_,_=>none
 | f+1,x0,x1,x2,x3,x4=>qHz (qFV f) x0 x1 x2 x3 x4
def qLs (x0 x1:LI) (x2 x3:Int):Option (Int):=
 ob (qFV qC x3 0 x0 x1 x2) fun A0=>
 sw A0 (fun A1=>
 some (A1))
 (fun _=>
 some (-1))
def qHy (rec:Int->Int->Int->LI->LI->Int->List Bool->Option ((Bool)⊕(Unit))) (x0 x1 x2:Int) (x3 x4:LI) (x5:Int) (x6:List Bool):Option ((Bool)⊕(Unit)):=
 br (decide (x2<81))
 (br (inB x2 81)
 (ob (qBU (conv .i8 .i64 (getD x3 (Int.toNat x2) 0))) fun A0=>
 br (A0==wrap .i64 (1 - x0))
 (br (inB x2 81)
 (ob (qGP (conv .i8 .i64 (getD x3 (Int.toNat x2) 0)) x2 x1 x6) fun A1=>
 br (A1)
 (some (.inl (true)))
 (rec x0 x1 (wrap .i64 (x2+1)) x3 x4 x5 x6))
 (none))
 (rec x0 x1 (wrap .i64 (x2+1)) x3 x4 x5 x6))
 (none))
 (some (.inr ()))
def qFU:Nat->Int->Int->Int->LI->LI->Int->List Bool->Option ((Bool)⊕(Unit))
 | 0,_,_,_,_,_,_,_=>none
 | f+1,x0,x1,x2,x3,x4,x5,x6=>qHy (qFU f) x0 x1 x2 x3 x4 x5 x6
def qHx (x0 x1:LI) (x2 x3:Int):Option (Bool):=
 ob (qFT x0 x1 x2) fun A0=>
 ob (qLs x0 x1 x2 x3) fun A1=>
 br (decide (A1<0))
 (some (false))
 (ob (qFU qC x3 A1 0 x0 x1 x2 A0) fun A2=>
 sw A2 (fun A3=>
 some (A3))
 (fun _=>
 some (false)))
def qLq (x0 x1:LI) (x2:Int):Option (Int):=
 ob (qGQ x0 x1 x2) fun A0=>
 br (A0 != 0)
 (some (A0))
 (ob (qHx x0 x1 x2 (wrap .i64 (1 - x2))) fun A1=>
 br (A1)
 (some (54))
 (some (0)))
def qJR (x0 x1:LI) (x2 x3:Int) (x4 x5:Int) (x6:Bool):Option (LI×LI×Int):=
 br (x5 != 0)
 (br (inB x2 2)
 (br (inB x5 8)
 (br (inB x2 2)
 (br (inB x5 8)
 (br (inB x4 81)
 (some (List.set x0 (Int.toNat x4) (conv .i64 .i8 (wrap .i64 (wrap .i64 (16*x2)+x5))),List.set x1 (Int.toNat x2*8+Int.toNat x5) (wrap .i8 (getD x1 (Int.toNat x2*8+Int.toNat x5) 0 - 1)),wrap .i8 (1 - x2)))
 (none))
 (none))
 (none))
 (none))
 (none))
 (br (inB x4 81)
 (ob (qAb (conv .i8 .i64 (getD x0 (Int.toNat x4) 0))) fun A0=>
 ob (qJO A0) fun A1=>
 br (A1 != 0)
 (br (inB x2 2)
 (br (inB A1 8)
 (br (inB x2 2)
 (br (inB A1 8)
 (br (inB x3 81)
 (br (inB x4 81)
 (br (x6)
 (br (inB x4 81)
 (br (inB x4 81)
 (br (inB x3 81)
 (some (List.set (List.set (List.set x0 (Int.toNat x4) (getD x0 (Int.toNat x3) 0)) (Int.toNat x4) (wrap .i8 (getD (List.set x0 (Int.toNat x4) (getD x0 (Int.toNat x3) 0)) (Int.toNat x4) 0+8))) (Int.toNat x3) 0,List.set x1 (Int.toNat x2*8+Int.toNat A1) (wrap .i8 (getD x1 (Int.toNat x2*8+Int.toNat A1) 0+1)),wrap .i8 (1 - x2)))
 (none))
 (none))
 (none))
 (br (inB x3 81)
 (some (List.set (List.set x0 (Int.toNat x4) (getD x0 (Int.toNat x3) 0)) (Int.toNat x3) 0,List.set x1 (Int.toNat x2*8+Int.toNat A1) (wrap .i8 (getD x1 (Int.toNat x2*8+Int.toNat A1) 0+1)),wrap .i8 (1 - x2)))
 (none)))
 (none))
 (none))
 (none))
 (none))
 (none))
 (none))
 (br (inB x3 81)
 (br (inB x4 81)
 (br (x6)
 (br (inB x4 81)
 (br (inB x4 81)
 (br (inB x3 81)
 (some (List.set (List.set (List.set x0 (Int.toNat x4) (getD x0 (Int.toNat x3) 0)) (Int.toNat x4) (wrap .i8 (getD (List.set x0 (Int.toNat x4) (getD x0 (Int.toNat x3) 0)) (Int.toNat x4) 0+8))) (Int.toNat x3) 0,x1,wrap .i8 (1 - x2)))
 (none))
 (none))
 (none))
 (br (inB x3 81)
 (some (List.set (List.set x0 (Int.toNat x4) (getD x0 (Int.toNat x3) 0)) (Int.toNat x3) 0,x1,wrap .i8 (1 - x2)))
 (none)))
 (none))
 (none)))
 (none))
def qHp (rec:Int->Int->Nat->Int->Int->Int->Int->Nat->LL->Option ((Int×Int)⊕(Int×Int))) (x0 x1:Int) (x2:Nat) (x3 x4:Int) (x5 x6:Int) (x7:Nat) (x8:LL):Option ((Int×Int)⊕(Int×Int)):=
 br (decide (x4<x3))
 (br (inB x4 x2)
 (ob (qJh 1 1 [x1]) fun (A0,A1)=>
 ob (qJM x0 (headD (take 2 (getD x8 (Int.toNat x4) [])) 0) (headD (tail (take 2 (getD x8 (Int.toNat x4) []))) 0) A0 A1) fun (A2,A3)=>
 ob (qCm A2 A3 x1) fun A4=>
 br (A4)
 (ob (qFi A2 A3 x1) fun (A5,A6)=>
 some (.inl (A5,A6)))
 (rec x0 x1 x2 x3 (wrap .i64 (x4+1)) x5 x6 x7 x8))
 (none))
 (some (.inr (x5,x6)))
def qFM:Nat->Int->Int->Nat->Int->Int->Int->Int->Nat->LL->Option ((Int×Int)⊕(Int×Int))
 | 0,_,_,_,_,_,_,_,_,_=>none
 | f+1,x0,x1,x2,x3,x4,x5,x6,x7,x8=>qHp (qFM f) x0 x1 x2 x3 x4 x5 x6 x7 x8
def qJL (x0 x1:Int):Option (Int×Int):=
 ob (qHq 6) fun (A0,_,A1)=>
 ob (qHq 7) fun (A2,_,A3)=>
 br (decide ((A0+A2)*16<=140737488355328))
 (ob (qFM qC x0 x1 (A0+A2) (Int.ofNat (A0+A2)) 0 0 0 (A0+A2) (List.append (take A0 A1) (take A2 A3))) fun A4=>
 sw A4 (fun (A5,A6)=>
 some (A5,A6))
 (fun (_,_)=>
 some (0,0)))
 (none)
def qFn (rec:Int->Int->Nat->Int->Int->Nat->Int->Int->LI->LI->Int->LL->LL->List (LI×LI)->Nat->LI->Nat->LI->Option (Int×Int×Nat×Int×Int×LI×LI×Int×LL×LL×List (LI×LI)×Nat×LI)) (x0 x1:Int) (x2:Nat) (x3 x4:Int) (x5:Nat) (x6 x7:Int) (x8 x9:LI) (x10:Int) (x11 x12:LL) (x13:List (LI×LI)) (x14:Nat) (x15:LI) (x16:Nat) (x17:LI):Option (Int×Int×Nat×Int×Int×LI×LI×Int×LL×LL×List (LI×LI)×Nat×LI):=
 br (decide (x7<x6))
 (br (inB x7 x5)
 (ob (qJL (getD x17 (Int.toNat x7) 0) x1) fun (A0,A1)=>
 ob (qDc x8 x9 x10 x11 x12) fun (A2,A3)=>
 ob (qDN A0 A1 A2 A3) fun (A4,A5)=>
 ob (qIE A4 A5) fun A6=>
 br (A6 != 1)
 (rec x0 x1 x2 x3 x4 x5 x6 (wrap .i64 (x7+1)) x8 x9 x10 x11 x12 x13 x14 x15 x16 x17)
 (ob (qG2 x0 x8 x9 x10 x11 x12) fun (A7,A8)=>
 ob (qDN A4 A5 A7 A8) fun (A9,Aa)=>
 ob (qFe A9 Aa) fun Ab=>
 br (Ab)
 (rec x0 x1 x2 x3 x4 x5 x6 (wrap .i64 (x7+1)) x8 x9 x10 x11 x12 x13 x14 x15 x16 x17)
 (ob (qIG A4 A5) fun Ac=>
 ob (qAv (getD x17 (Int.toNat x7) 0) x8 x9 x10 x11 x12) fun Ad=>
 ob (qDc x8 x9 x10 x11 x12) fun (Ae,Af)=>
 ob (qFi Ae Af Ac) fun (Ag,Ah)=>
 ob (qGL Ad (getD x17 (Int.toNat x7) 0) Ag Ah) fun (Ai,Aj)=>
 ob (qCm Ai Aj x1) fun Ak=>
 br (!Ak)
 (rec x0 x1 x2 x3 x4 x5 x6 (wrap .i64 (x7+1)) x8 x9 x10 x11 x12 x13 x14 x15 x16 x17)
 (ob (qAv (getD x17 (Int.toNat x7) 0) x8 x9 x10 x11 x12) fun Al=>
 ob (qDc x8 x9 x10 x11 x12) fun (Am,An)=>
 ob (qGL Al (getD x17 (Int.toNat x7) 0) Am An) fun (Ao,Ap)=>
 ob (qCm Ao Ap x1) fun Aq=>
 br (Aq)
 (rec x0 x1 x2 x3 x4 x5 x6 (wrap .i64 (x7+1)) x8 x9 x10 x11 x12 x13 x14 x15 x16 x17)
 (ob (qBb A0 A1 (getD x17 (Int.toNat x7) 0)) fun (Ar,As)=>
 rec x0 x1 x2 x3 x4 x5 x6 (wrap .i64 (x7+1)) x8 x9 x10 x11 x12 (qAK x13 [Ac] [Ar,As]) x14 x15 x16 x17)))))
 (none))
 (some (x0,x1,x2,x3,x4,x8,x9,x10,x11,x12,x13,x14,x15))
def qEl:Nat->Int->Int->Nat->Int->Int->Nat->Int->Int->LI->LI->Int->LL->LL->List (LI×LI)->Nat->LI->Nat->LI->Option (Int×Int×Nat×Int×Int×LI×LI×Int×LL×LL×List (LI×LI)×Nat×LI)
 | 0,_,_,_,_,_,_,_,_,_,_,_,_,_,_,_,_,_,_=>none
 | f+1,x0,x1,x2,x3,x4,x5,x6,x7,x8,x9,x10,x11,x12,x13,x14,x15,x16,x17=>qFn (qEl f) x0 x1 x2 x3 x4 x5 x6 x7 x8 x9 x10 x11 x12 x13 x14 x15 x16 x17
def qGs (rec:Int->Int->Nat->Int->Int->LI->LI->Int->LL->LL->List (LI×LI)->Nat->LI->Option (LI×LI×Int×LL×LL×List (LI×LI))) (x0 x1:Int) (x2:Nat) (x3 x4:Int) (x5 x6:LI) (x7:Int) (x8 x9:LL) (x10:List (LI×LI)) (x11:Nat) (x12:LI):Option (LI×LI×Int×LL×LL×List (LI×LI)):=
 br (decide (x4<x3))
 (br (inB x4 x2)
 (ob (qDb (wrap .i64 (1 - x0)) (getD x12 (Int.toNat x4) 0) x5 x6 x7 x8 x9) fun (A0,A1)=>
 ob (qFg A0 A1) fun (A2,A3,A4)=>
 ob (qEl qC x0 x1 x2 x3 x4 A2 (Int.ofNat A2) 0 x5 x6 x7 x8 x9 x10 x11 x12 A3 A4) fun (A5,A6,A7,A8,A9,Aa,Ab,Ac,Ad,Ae,Af,Ag,Ah)=>
 rec A5 A6 A7 A8 (wrap .i64 (A9+1)) Aa Ab Ac Ad Ae Af Ag Ah)
 (none))
 (some (x5,x6,x7,x8,x9,x10))
def qEk:Nat->Int->Int->Nat->Int->Int->LI->LI->Int->LL->LL->List (LI×LI)->Nat->LI->Option (LI×LI×Int×LL×LL×List (LI×LI))
 | 0,_,_,_,_,_,_,_,_,_,_,_,_,_=>none
 | f+1,x0,x1,x2,x3,x4,x5,x6,x7,x8,x9,x10,x11,x12=>qGs (qEk f) x0 x1 x2 x3 x4 x5 x6 x7 x8 x9 x10 x11 x12
def qId (x0:Int) (x1 x2:LI) (x3:Int) (x4 x5:LL):Option (List (LI×LI)):=
 ob (qGy x0 x1 x2 x3 x4 x5) fun A0=>
 br (decide (A0<0))
 (some ([]))
 (ob (qEk qC x0 A0 5 5 0 x1 x2 x3 x4 x5 [] 5 ([2,6,7,14,15])) fun (_,_,_,_,_,A1)=>
 some (A1))
def qJB (x0 x1:LI) (x2:Int) (x3 x4:LL):Option (Int×Int×Int×Int×Bool×List (LI×LI)):=
 ob (qGy x2 x0 x1 x2 x3 x4) fun A0=>
 ob (qID ) fun (A1,A2)=>
 ob (qId x2 x0 x1 x2 x3 x4) fun A3=>
 ob (qGq x2 x0 x1 x2 x3 x4) fun (A4,A5)=>
 ob (qIE A4 A5) fun A6=>
 br (A6==0)
 (some (x2,A0,A1,A2,false,A3))
 (br (A6==1)
 (ob (qIG A4 A5) fun A7=>
 ob (qJL A7 A0) fun (A8,A9)=>
 ob (qEU A8 A9 A4 A5) fun (Aa,Ab)=>
 some (x2,A0,Aa,Ab,true,A3))
 (some (x2,A0,0,0,true,A3)))
def qJC (x0 x1:Int) (x2 x3:Int) (_x4:Bool) (x5 x6 _x7:Int) (_x8:Bool) (x9 x10:LI) (x11:Int) (x12 x13:LL) (x14:List (LI×LI)):Option (Bool×LI×LI×Int×LL×LL×List (LI×LI)):=
 br (x5==x1)
 (ob (qDc x9 x10 x11 x12 x13) fun (A0,A1)=>
 ob (qFi A0 A1 x1) fun (A2,A3)=>
 ob (qIc x6 (wrap .i64 (1 - x0)) A2 A3 x9 x10 x11 x12 x13) fun (A4,A5)=>
 ob (qFe A4 A5) fun A6=>
 some (A6,x9,x10,x11,x12,x13,x14))
 (ob (qCm x2 x3 x6) fun A7=>
 br (!A7)
 (some (false,x9,x10,x11,x12,x13,x14))
 (br (!qBC x14 [x5])
 (some (true,x9,x10,x11,x12,x13,x14))
 (ob (qCm (headD (qBB x14 [x5] [0,0]) 0) (headD (tail (qBB x14 [x5] [0,0])) 0) x6) fun A8=>
 some (A8,x9,x10,x11,x12,x13,x14))))
def qHZ (rec:Nat->Int->Int->LI->LI->Int->LL->LL->Int->Int->Int->Int->Bool->Nat->LL->LI->LI->Int->LL->LL->List (LI×LI)->Option ((Bool×LI×LI×Int×LL×LL)⊕(LI×LI×Int×LL×LL))) (x0:Nat) (x1 x2:Int) (x3 x4:LI) (x5:Int) (x6 x7:LL) (x8 x9:Int) (x10 x11:Int) (x12:Bool) (x13:Nat) (x14:LL) (x15 x16:LI) (x17:Int) (x18 x19:LL) (x20:List (LI×LI)):Option ((Bool×LI×LI×Int×LL×LL)⊕(LI×LI×Int×LL×LL)):=
 br (decide (x2<x1))
 (br (inB x2 x0)
 (ob (qJC x8 x9 x10 x11 x12 (headD (take 4 (getD x14 (Int.toNat x2) [])) 0) (headD (tail (take 4 (getD x14 (Int.toNat x2) []))) 0) (headD (tail (tail (take 4 (getD x14 (Int.toNat x2) [])))) 0) (headD (tail (tail (tail (take 4 (getD x14 (Int.toNat x2) []))))) 0 != 0) x15 x16 x17 x18 x19 x20) fun (A0,A1,A2,A3,A4,A5,A6)=>
 br (A0)
 (some (.inl (false,x3,x4,x5,x6,x7)))
 (rec x0 x1 (wrap .i64 (x2+1)) x3 x4 x5 x6 x7 x8 x9 x10 x11 x12 x13 x14 A1 A2 A3 A4 A5 A6))
 (none))
 (some (.inr (x3,x4,x5,x6,x7)))
def qFH:Nat->Nat->Int->Int->LI->LI->Int->LL->LL->Int->Int->Int->Int->Bool->Nat->LL->LI->LI->Int->LL->LL->List (LI×LI)->Option ((Bool×LI×LI×Int×LL×LL)⊕(LI×LI×Int×LL×LL))
 | 0,_,_,_,_,_,_,_,_,_,_,_,_,_,_,_,_,_,_,_,_,_=>none
 | f+1,x0,x1,x2,x3,x4,x5,x6,x7,x8,x9,x10,x11,x12,x13,x14,x15,x16,x17,x18,x19,x20=>qHZ (qFH f) x0 x1 x2 x3 x4 x5 x6 x7 x8 x9 x10 x11 x12 x13 x14 x15 x16 x17 x18 x19 x20
def qK4 (x0:Int) (x1 x2:LI) (x3:Int) (x4 x5:LL):Option (Bool):=
 ob (qBS x3 1) fun A0=>
 br (A0==0)
 (some (false))
 (br (decide (x0<0))
 (some (false))
 (br (decide (x0 >= 81))
 (some (false))
 (ob (qAv x0 x1 x2 x3 x4 x5) fun A1=>
 br (A1 != 0)
 (some (false))
 (ob (qNE x1 x2 x3 x4 x5) fun (A2,A3,A4,A5,A6)=>
 ob (qG3 x0 A0 A2 A3 A4 A5 A6) fun (A7,A8,A9,Aa,Ab)=>
 ob (qGq (conv .i8 .i64 (wrap .i8 (1 - A9))) A7 A8 (wrap .i8 (1 - A9)) Aa Ab) fun (Ac,Ad)=>
 ob (qCm Ac Ad x0) fun Ae=>
 br (!Ae)
 (some (false))
 (ob (qJB A7 A8 (wrap .i8 (1 - A9)) Aa Ab) fun (Af,Ag,Ah,Ai,Aj,Ak)=>
 ob (qID ) fun (Al,Am)=>
 ob (qI3 Al Am A7 A8 (wrap .i8 (1 - A9)) Aa Ab) fun (An,Ao,Ap)=>
 ob (qFH qC An (Int.ofNat An) 0 x1 x2 x3 x4 x5 Af Ag Ah Ai Aj Ao Ap A7 A8 (wrap .i8 (1 - A9)) Aa Ab Ak) fun Aq=>
 sw Aq (fun (Ar,_,_,_,_,_)=>
 some (Ar))
 (fun (_,_,_,_,_)=>
 some (true)))))))
def qHX (rec:Nat->Nat->Int->Int->LI->LI->Int->LL->LL->Int->Int->Int->Int->Bool->Nat->LL->Nat->LL->List (LI×LI)->Option (Nat×LI×LI×Int×LL×LL×Int×Int×Int×Int×Bool×Nat×LL×List (LI×LI))) (x0 x1:Nat) (x2 x3:Int) (x4 x5:LI) (x6:Int) (x7 x8:LL) (x9 x10:Int) (x11 x12:Int) (x13:Bool) (x14:Nat) (x15:LL) (x16:Nat) (x17:LL) (x18:List (LI×LI)):Option (Nat×LI×LI×Int×LL×LL×Int×Int×Int×Int×Bool×Nat×LL×List (LI×LI)):=
 br (decide (x3<x2))
 (br (inB x3 x1)
 (ob (qJC x9 x10 x11 x12 x13 (headD (take 4 (getD x17 (Int.toNat x3) [])) 0) (headD (tail (take 4 (getD x17 (Int.toNat x3) []))) 0) (headD (tail (tail (take 4 (getD x17 (Int.toNat x3) [])))) 0) (headD (tail (tail (tail (take 4 (getD x17 (Int.toNat x3) []))))) 0 != 0) x4 x5 x6 x7 x8 x18) fun (A0,A1,A2,A3,A4,A5,A6)=>
 br (A0)
 (br (decide ((x0+1)*32<=140737488355328))
 (rec (x0+1) x1 x2 (wrap .i64 (x3+1)) A1 A2 A3 A4 A5 x9 x10 x11 x12 x13 (x0+1) (List.append (take x0 x15) [[headD (take 4 (getD x17 (Int.toNat x3) [])) 0,headD (tail (take 4 (getD x17 (Int.toNat x3) []))) 0,headD (tail (tail (take 4 (getD x17 (Int.toNat x3) [])))) 0,bi (headD (tail (tail (tail (take 4 (getD x17 (Int.toNat x3) []))))) 0 != 0)]]) x16 x17 A6)
 (none))
 (rec x0 x1 x2 (wrap .i64 (x3+1)) A1 A2 A3 A4 A5 x9 x10 x11 x12 x13 x14 x15 x16 x17 A6))
 (none))
 (some (x0,x4,x5,x6,x7,x8,x9,x10,x11,x12,x13,x14,x15,x18))
def qFF:Nat->Nat->Nat->Int->Int->LI->LI->Int->LL->LL->Int->Int->Int->Int->Bool->Nat->LL->Nat->LL->List (LI×LI)->Option (Nat×LI×LI×Int×LL×LL×Int×Int×Int×Int×Bool×Nat×LL×List (LI×LI))
 | 0,_,_,_,_,_,_,_,_,_,_,_,_,_,_,_,_,_,_,_=>none
 | f+1,x0,x1,x2,x3,x4,x5,x6,x7,x8,x9,x10,x11,x12,x13,x14,x15,x16,x17,x18=>qHX (qFF f) x0 x1 x2 x3 x4 x5 x6 x7 x8 x9 x10 x11 x12 x13 x14 x15 x16 x17 x18
def qHW (rec:Nat->Nat->Int->Int->LI->LI->Int->LL->LL->Nat->LL->Nat->LL->Option (Nat×LI×LI×Int×LL×LL×Nat×LL)) (x0 x1:Nat) (x2 x3:Int) (x4 x5:LI) (x6:Int) (x7 x8:LL) (x9:Nat) (x10:LL) (x11:Nat) (x12:LL):Option (Nat×LI×LI×Int×LL×LL×Nat×LL):=
 br (decide (x3<x2))
 (br (inB x3 x1)
 (br (headD (tail (tail (take 4 (getD x12 (Int.toNat x3) [])))) 0==1)
 (ob (qK4 (headD (tail (take 4 (getD x12 (Int.toNat x3) []))) 0) x4 x5 x6 x7 x8) fun A0=>
 br (A0)
 (rec x0 x1 x2 (wrap .i64 (x3+1)) x4 x5 x6 x7 x8 x9 x10 x11 x12)
 (br (decide ((x0+1)*32<=140737488355328))
 (rec (x0+1) x1 x2 (wrap .i64 (x3+1)) x4 x5 x6 x7 x8 (x0+1) (List.append (take x0 x10) [[headD (take 4 (getD x12 (Int.toNat x3) [])) 0,headD (tail (take 4 (getD x12 (Int.toNat x3) []))) 0,headD (tail (tail (take 4 (getD x12 (Int.toNat x3) [])))) 0,bi (headD (tail (tail (tail (take 4 (getD x12 (Int.toNat x3) []))))) 0 != 0)]]) x11 x12)
 (none)))
 (br (decide ((x0+1)*32<=140737488355328))
 (rec (x0+1) x1 x2 (wrap .i64 (x3+1)) x4 x5 x6 x7 x8 (x0+1) (List.append (take x0 x10) [[headD (take 4 (getD x12 (Int.toNat x3) [])) 0,headD (tail (take 4 (getD x12 (Int.toNat x3) []))) 0,headD (tail (tail (take 4 (getD x12 (Int.toNat x3) [])))) 0,bi (headD (tail (tail (tail (take 4 (getD x12 (Int.toNat x3) []))))) 0 != 0)]]) x11 x12)
 (none)))
 (none))
 (some (x0,x4,x5,x6,x7,x8,x9,x10))
def qEI:Nat->Nat->Nat->Int->Int->LI->LI->Int->LL->LL->Nat->LL->Nat->LL->Option (Nat×LI×LI×Int×LL×LL×Nat×LL)
 | 0,_,_,_,_,_,_,_,_,_,_,_,_,_=>none
 | f+1,x0,x1,x2,x3,x4,x5,x6,x7,x8,x9,x10,x11,x12=>qHW (qEI f) x0 x1 x2 x3 x4 x5 x6 x7 x8 x9 x10 x11 x12
def qHV (x0 x1:LI) (x2:Int) (x3 x4:LL):Option (Nat×LI×LI×Int×LL×LL×Nat×LL):=
 ob (qJB x0 x1 x2 x3 x4) fun (A0,A1,A2,A3,A4,A5)=>
 ob (qID ) fun (A6,A7)=>
 ob (qI3 A6 A7 x0 x1 x2 x3 x4) fun (A8,A9,Aa)=>
 ob (qFF qC 0 A8 (Int.ofNat A8) 0 x0 x1 x2 x3 x4 A0 A1 A2 A3 A4 0 [] A9 Aa A5) fun (Ab,Ac,Ad,Ae,Af,Ag,_,_,Ah,Ai,_,Aj,Ak,_)=>
 ob (qKl Ah Ai Ac Ad Ae Af Ag) fun (Al,Am,An)=>
 ob (qEI qC Ab Al (Int.ofNat Al) 0 Ac Ad Ae Af Ag Aj Ak Am An) fun (Ao,Ap,Aq,Ar,As,At,Au,Av)=>
 some (Ao,Ap,Aq,Ar,As,At,Au,Av)
def qHY (rec:Nat->Int->Int->LI->LI->Int->LL->LL->Int->Int->Int->Bool->Nat->LL->Option ((Bool×LI×LI×Int×LL×LL)⊕(LI×LI×Int×LL×LL))) (x0:Nat) (x1 x2:Int) (x3 x4:LI) (x5:Int) (x6 x7:LL) (x8 x9 x10:Int) (x11:Bool) (x12:Nat) (x13:LL):Option ((Bool×LI×LI×Int×LL×LL)⊕(LI×LI×Int×LL×LL)):=
 br (decide (x2<x1))
 (br (inB x2 x0)
 (br (headD (take 4 (getD x13 (Int.toNat x2) [])) 0==x8&&(headD (tail (take 4 (getD x13 (Int.toNat x2) []))) 0==x9&&(headD (tail (tail (take 4 (getD x13 (Int.toNat x2) [])))) 0==x10&&(headD (tail (tail (tail (take 4 (getD x13 (Int.toNat x2) []))))) 0 != 0)==x11)))
 (some (.inl (true,x3,x4,x5,x6,x7)))
 (rec x0 x1 (wrap .i64 (x2+1)) x3 x4 x5 x6 x7 x8 x9 x10 x11 x12 x13))
 (none))
 (some (.inr (x3,x4,x5,x6,x7)))
def qFG:Nat->Nat->Int->Int->LI->LI->Int->LL->LL->Int->Int->Int->Bool->Nat->LL->Option ((Bool×LI×LI×Int×LL×LL)⊕(LI×LI×Int×LL×LL))
 | 0,_,_,_,_,_,_,_,_,_,_,_,_,_,_=>none
 | f+1,x0,x1,x2,x3,x4,x5,x6,x7,x8,x9,x10,x11,x12,x13=>qHY (qFG f) x0 x1 x2 x3 x4 x5 x6 x7 x8 x9 x10 x11 x12 x13
def qJA (x0 x1 x2:Int) (x3:Bool) (x4 x5:LI) (x6:Int) (x7 x8:LL):Option (Bool×LI×LI×Int×LL×LL):=
 ob (qHV x4 x5 x6 x7 x8) fun (A0,A1,A2,A3,A4,A5,A6,A7)=>
 ob (qFG qC A0 (Int.ofNat A0) 0 A1 A2 A3 A4 A5 x0 x1 x2 x3 A6 A7) fun A8=>
 sw A8 (fun (A9,Aa,Ab,Ac,Ad,Ae)=>
 some (A9,Aa,Ab,Ac,Ad,Ae))
 (fun (A9,Aa,Ab,Ac,Ad)=>
 some (false,A9,Aa,Ab,Ac,Ad))
def qJU (x0 x1:LI) (x2 x3:Int) (x4 x5:Int) (x6:Bool):Option (Bool):=
 ob (qJR x0 x1 x2 x3 x4 x5 x6) fun (A0,A1,A2)=>
 ob (qHx A0 A1 A2 x2) fun A3=>
 some (!A3)
def qH6 (rec:Nat->Int->LI->LI->Int->Nat->LL->Option ((Bool)⊕(Unit))) (x0:Nat) (x1:Int) (x2 x3:LI) (x4:Int) (x5:Nat) (x6:LL):Option ((Bool)⊕(Unit)):=
 br (decide (x1<Int.ofNat x0))
 (br (inB x1 x0)
 (ob (qJU x2 x3 x4 (headD (take 4 (getD x6 (Int.toNat x1) [])) 0) (headD (tail (take 4 (getD x6 (Int.toNat x1) []))) 0) (headD (tail (tail (take 4 (getD x6 (Int.toNat x1) [])))) 0) (headD (tail (tail (tail (take 4 (getD x6 (Int.toNat x1) []))))) 0 != 0)) fun A0=>
 br (A0)
 (some (.inl (false)))
 (rec x0 (wrap .i64 (x1+1)) x2 x3 x4 x5 x6))
 (none))
 (some (.inr ()))
def qFZ:Nat->Nat->Int->LI->LI->Int->Nat->LL->Option ((Bool)⊕(Unit))
 | 0,_,_,_,_,_,_,_=>none
 | f+1,x0,x1,x2,x3,x4,x5,x6=>qH6 (qFZ f) x0 x1 x2 x3 x4 x5 x6
def qLx (x0 x1:LI) (x2:Int):Option (Bool):=
 ob (qJS x0 x1 x2) fun (A0,A1,A2)=>
 ob (qFZ qC A0 0 x0 x1 x2 A1 A2) fun A3=>
 sw A3 (fun A4=>
 some (A4))
 (fun _=>
 some (true))
def qLw (x0 x1:LI) (x2 x3:Int) (x4 x5:Int) (x6:Bool):Option (Bool):=
 ob (qJU x0 x1 x2 x3 x4 x5 x6) fun A0=>
 br (!A0)
 (some (false))
 (br (x5 != 1)
 (some (true))
 (ob (qJR x0 x1 x2 x3 x4 x5 x6) fun (A1,A2,A3)=>
 ob (qHx A1 A2 A3 A3) fun A4=>
 br (!A4)
 (some (true))
 (ob (qLx A1 A2 A3) fun A5=>
 some (!A5))))
def qH5 (rec:Nat->Nat->Int->LI->LI->Int->Nat->LL->Nat->LL->Option (Nat×Nat×LL)) (x0 x1:Nat) (x2:Int) (x3 x4:LI) (x5:Int) (x6:Nat) (x7:LL) (x8:Nat) (x9:LL):Option (Nat×Nat×LL):=
 br (decide (x2<Int.ofNat x1))
 (br (inB x2 x1)
 (ob (qLw x3 x4 x5 (headD (take 4 (getD x9 (Int.toNat x2) [])) 0) (headD (tail (take 4 (getD x9 (Int.toNat x2) []))) 0) (headD (tail (tail (take 4 (getD x9 (Int.toNat x2) [])))) 0) (headD (tail (tail (tail (take 4 (getD x9 (Int.toNat x2) []))))) 0 != 0)) fun A0=>
 br (A0)
 (br (inB x2 x1)
 (br (decide ((x0+1)*32<=140737488355328))
 (rec (x0+1) x1 (wrap .i64 (x2+1)) x3 x4 x5 (x0+1) (List.append (take x0 x7) [[headD (take 4 (getD x9 (Int.toNat x2) [])) 0,headD (tail (take 4 (getD x9 (Int.toNat x2) []))) 0,headD (tail (tail (take 4 (getD x9 (Int.toNat x2) [])))) 0,bi (headD (tail (tail (tail (take 4 (getD x9 (Int.toNat x2) []))))) 0 != 0)]]) x8 x9)
 (none))
 (none))
 (rec x0 x1 (wrap .i64 (x2+1)) x3 x4 x5 x6 x7 x8 x9))
 (none))
 (some (x0,x6,x7))
def qFY:Nat->Nat->Nat->Int->LI->LI->Int->Nat->LL->Nat->LL->Option (Nat×Nat×LL)
 | 0,_,_,_,_,_,_,_,_,_,_=>none
 | f+1,x0,x1,x2,x3,x4,x5,x6,x7,x8,x9=>qH5 (qFY f) x0 x1 x2 x3 x4 x5 x6 x7 x8 x9
def qH4 (x0 x1:LI) (x2:Int):Option (Nat×Nat×LL):=
 ob (qJS x0 x1 x2) fun (A0,A1,A2)=>
 ob (qFY qC 0 A0 0 x0 x1 x2 0 [] A1 A2) fun (A3,A4,A5)=>
 some (A3,A4,A5)
def qKj (rec:Int->Nat->Nat->Int->Int->LI->LI->Int->Nat->Nat->Nat->Int->Int->Int->Nat->Nat->LL->Nat->LL->LL->Nat->List Bool->LI->LI->Int->LL->LL->Nat->LL->LL->Nat->LI->Option (Nat×LI×LI×Int×Nat×Nat×Nat×Int×Int×Int×Nat×Nat×LL×Nat×LL×LL×Nat×List Bool×LI×LI×Int×LL×LL×Nat×LL×LL×Nat×LI)) (x0:Int) (x1 x2:Nat) (x3 x4:Int) (x5 x6:LI) (x7:Int) (x8 x9 x10:Nat) (x11 x12 x13:Int) (x14 x15:Nat) (x16:LL) (x17:Nat) (x18 x19:LL) (x20:Nat) (x21:List Bool) (x22 x23:LI) (x24:Int) (x25 x26:LL) (x27:Nat) (x28 x29:LL) (x30:Nat) (x31:LI):Option (Nat×LI×LI×Int×Nat×Nat×Nat×Int×Int×Int×Nat×Nat×LL×Nat×LL×LL×Nat×List Bool×LI×LI×Int×LL×LL×Nat×LL×LL×Nat×LI):=
 br (decide (x4<x3))
 (br (inB x4 (List.length (getD x29 x2 [])))
 (br (inB (getD (getD x29 x2 []) (Int.toNat x4) 0) x9)
 (br (inB x0 x9)
 (br (take 81 (take 98 (getD x18 (Int.toNat (getD (getD x29 x2 []) (Int.toNat x4) 0)) []))==take 81 (take 98 (getD x18 (Int.toNat x0) []))&&(take 16 (drop 81 (take 98 (getD x18 (Int.toNat (getD (getD x29 x2 []) (Int.toNat x4) 0)) [])))==take 16 (drop 81 (take 98 (getD x18 (Int.toNat x0) [])))&&headD (drop 16 (drop 81 (take 98 (getD x18 (Int.toNat (getD (getD x29 x2 []) (Int.toNat x4) 0)) [])))) 0==headD (drop 16 (drop 81 (take 98 (getD x18 (Int.toNat x0) [])))) 0))
 (br (decide ((x1+1)*8<=140737488355328))
 (rec x0 (x1+1) x2 x3 (wrap .i64 (x4+1)) x5 x6 x7 x8 x9 x10 x11 x12 x13 x14 x15 x16 x17 x18 x19 x20 x21 x22 x23 x24 x25 x26 x27 x28 x29 (x1+1) (List.append (take x1 x31) [getD (getD x29 x2 []) (Int.toNat x4) 0]))
 (none))
 (rec x0 x1 x2 x3 (wrap .i64 (x4+1)) x5 x6 x7 x8 x9 x10 x11 x12 x13 x14 x15 x16 x17 x18 x19 x20 x21 x22 x23 x24 x25 x26 x27 x28 x29 x30 x31))
 (none))
 (none))
 (none))
 (some (x1,x5,x6,x7,x8,x9,x10,x11,x12,x13,x14,x15,x16,x17,x18,x19,x20,x21,x22,x23,x24,x25,x26,x27,x28,x29,x30,x31))
def qF2:Nat->Int->Nat->Nat->Int->Int->LI->LI->Int->Nat->Nat->Nat->Int->Int->Int->Nat->Nat->LL->Nat->LL->LL->Nat->List Bool->LI->LI->Int->LL->LL->Nat->LL->LL->Nat->LI->Option (Nat×LI×LI×Int×Nat×Nat×Nat×Int×Int×Int×Nat×Nat×LL×Nat×LL×LL×Nat×List Bool×LI×LI×Int×LL×LL×Nat×LL×LL×Nat×LI)
 | 0,_,_,_,_,_,_,_,_,_,_,_,_,_,_,_,_,_,_,_,_,_,_,_,_,_,_,_,_,_,_,_,_=>none
 | f+1,x0,x1,x2,x3,x4,x5,x6,x7,x8,x9,x10,x11,x12,x13,x14,x15,x16,x17,x18,x19,x20,x21,x22,x23,x24,x25,x26,x27,x28,x29,x30,x31=>qKj (qF2 f) x0 x1 x2 x3 x4 x5 x6 x7 x8 x9 x10 x11 x12 x13 x14 x15 x16 x17 x18 x19 x20 x21 x22 x23 x24 x25 x26 x27 x28 x29 x30 x31
 termination_by structural x=>x
def qKi (x0 x1:LI) (x2:Int) (x3 x4 x5:Nat) (x6 x7 x8:Int) (x9 x10:Nat) (x11:LL) (x12:Nat) (x13 x14:LL) (x15:Nat) (x16:List Bool) (x17 x18:LI) (x19:Int) (x20 x21:LL) (x22:Nat) (x23 x24:LL):Option (Int×Bool×LI×LI×Int×Nat×Nat×Nat×Int×Int×Int×Nat×Nat×LL×Nat×LL×LL×Nat×List Bool×LI×LI×Int×LL×LL×Nat×LL×LL):=
 ob (qHC x8 x9 x17 x18 x19 x20 x21 x22 x23) fun A0=>
 ob (qF2 qC (wrap .i64 (Int.ofNat x4 - 1)) 0 (qW [A0] x14) (Int.ofNat (List.length (getD x24 (qW [A0] x14) []))) 0 x0 x1 x2 x3 x4 x5 x6 x7 x8 x9 x10 x11 x12 x13 x14 x15 x16 x17 x18 x19 x20 x21 x22 x23 x24 0 []) fun (A1,A2,A3,A4,A5,A6,A7,A8,A9,Aa,Ab,Ac,Ad,Ae,Af,Ag,Ah,Ai,Aj,Ak,Al,Am,An,Ao,Ap,Aq,_,Ar)=>
 br (decide (Int.ofNat A1<4))
 (some (0,false,A2,A3,A4,A5,A6,A7,A8,A9,Aa,Ab,Ac,Ad,Ae,Af,Ag,Ah,Ai,Aj,Ak,Al,Am,An,Ao,Ap,Aq))
 (br (inB (wrap .i64 (Int.ofNat A1 - 4)) A1)
 (some (getD Ar (Int.toNat (wrap .i64 (Int.ofNat A1 - 4))) 0,true,A2,A3,A4,A5,A6,A7,A8,A9,Aa,Ab,Ac,Ad,Ae,Af,Ag,Ah,Ai,Aj,Ak,Al,Am,An,Ao,Ap,Aq))
 (none))
def qKk (rec:Int->Int->Int->LI->LI->Int->Nat->Nat->Nat->Int->Int->Int->Nat->Nat->LL->Nat->LL->LL->Nat->List Bool->LI->LI->Int->LL->LL->Nat->LL->LL->Option ((Bool×Int×LI×LI×Int×Nat×Nat×Nat×Int×Int×Int×Nat×Nat×LL×Nat×LL×LL×Nat×List Bool×LI×LI×Int×LL×LL×Nat×LL×LL)⊕(Int×LI×LI×Int×Nat×Nat×Nat×Int×Int×Int×Nat×Nat×LL×Nat×LL×LL×Nat×List Bool×LI×LI×Int×LL×LL×Nat×LL×LL))) (x0 x1 x2:Int) (x3 x4:LI) (x5:Int) (x6 x7 x8:Nat) (x9 x10 x11:Int) (x12 x13:Nat) (x14:LL) (x15:Nat) (x16 x17:LL) (x18:Nat) (x19:List Bool) (x20 x21:LI) (x22:Int) (x23 x24:LL) (x25:Nat) (x26 x27:LL):Option ((Bool×Int×LI×LI×Int×Nat×Nat×Nat×Int×Int×Int×Nat×Nat×LL×Nat×LL×LL×Nat×List Bool×LI×LI×Int×LL×LL×Nat×LL×LL)⊕(Int×LI×LI×Int×Nat×Nat×Nat×Int×Int×Int×Nat×Nat×LL×Nat×LL×LL×Nat×List Bool×LI×LI×Int×LL×LL×Nat×LL×LL)):=
 br (decide (x2<Int.ofNat x6))
 (br (inB x2 x7)
 (br (conv .i8 .i64 (getD (getD x16 (Int.toNat x2) []) 97 0) != x0)
 (rec x0 x1 (wrap .i64 (x2+1)) x3 x4 x5 x6 x7 x8 x9 x10 x11 x12 x13 x14 x15 x16 x17 x18 x19 x20 x21 x22 x23 x24 x25 x26 x27)
 (br (inB (wrap .i64 (x2+1)) x8)
 (br (!getD x19 (Int.toNat (wrap .i64 (x2+1))) false)
 (some (.inl (false,wrap .i64 (x1+1),x3,x4,x5,x6,x7,x8,x9,x10,x11,x12,x13,x14,x15,x16,x17,x18,x19,x20,x21,x22,x23,x24,x25,x26,x27)))
 (rec x0 (wrap .i64 (x1+1)) (wrap .i64 (x2+1)) x3 x4 x5 x6 x7 x8 x9 x10 x11 x12 x13 x14 x15 x16 x17 x18 x19 x20 x21 x22 x23 x24 x25 x26 x27))
 (none)))
 (none))
 (some (.inr (x1,x3,x4,x5,x6,x7,x8,x9,x10,x11,x12,x13,x14,x15,x16,x17,x18,x19,x20,x21,x22,x23,x24,x25,x26,x27)))
def qE3:Nat->Int->Int->Int->LI->LI->Int->Nat->Nat->Nat->Int->Int->Int->Nat->Nat->LL->Nat->LL->LL->Nat->List Bool->LI->LI->Int->LL->LL->Nat->LL->LL->Option ((Bool×Int×LI×LI×Int×Nat×Nat×Nat×Int×Int×Int×Nat×Nat×LL×Nat×LL×LL×Nat×List Bool×LI×LI×Int×LL×LL×Nat×LL×LL)⊕(Int×LI×LI×Int×Nat×Nat×Nat×Int×Int×Int×Nat×Nat×LL×Nat×LL×LL×Nat×List Bool×LI×LI×Int×LL×LL×Nat×LL×LL))
 | 0,_,_,_,_,_,_,_,_,_,_,_,_,_,_,_,_,_,_,_,_,_,_,_,_,_,_,_,_=>none
 | f+1,x0,x1,x2,x3,x4,x5,x6,x7,x8,x9,x10,x11,x12,x13,x14,x15,x16,x17,x18,x19,x20,x21,x22,x23,x24,x25,x26,x27=>qKk (qE3 f) x0 x1 x2 x3 x4 x5 x6 x7 x8 x9 x10 x11 x12 x13 x14 x15 x16 x17 x18 x19 x20 x21 x22 x23 x24 x25 x26 x27
 termination_by structural x=>x
def qI2 (x0 x1:Int) (x2 x3:LI) (x4:Int) (x5 x6 x7:Nat) (x8 x9 x10:Int) (x11 x12:Nat) (x13:LL) (x14:Nat) (x15 x16:LL) (x17:Nat) (x18:List Bool) (x19 x20:LI) (x21:Int) (x22 x23:LL) (x24:Nat) (x25 x26:LL):Option (Bool×LI×LI×Int×Nat×Nat×Nat×Int×Int×Int×Nat×Nat×LL×Nat×LL×LL×Nat×List Bool×LI×LI×Int×LL×LL×Nat×LL×LL):=
 ob (qE3 qC x0 0 x1 x2 x3 x4 x5 x6 x7 x8 x9 x10 x11 x12 x13 x14 x15 x16 x17 x18 x19 x20 x21 x22 x23 x24 x25 x26) fun A0=>
 sw A0 (fun (A1,_,A2,A3,A4,A5,A6,A7,A8,A9,Aa,Ab,Ac,Ad,Ae,Af,Ag,Ah,Ai,Aj,Ak,Al,Am,An,Ao,Ap,Aq)=>
 some (A1,A2,A3,A4,A5,A6,A7,A8,A9,Aa,Ab,Ac,Ad,Ae,Af,Ag,Ah,Ai,Aj,Ak,Al,Am,An,Ao,Ap,Aq))
 (fun (A1,Ar,A2,A3,A4,A5,A6,A7,A8,A9,Aa,Ab,Ac,Ad,Ae,Af,Ag,Ah,Ai,Aj,Ak,Al,Am,An,Ao,Ap)=>
 some (decide (A1>0),Ar,A2,A3,A4,A5,A6,A7,A8,A9,Aa,Ab,Ac,Ad,Ae,Af,Ag,Ah,Ai,Aj,Ak,Al,Am,An,Ao,Ap))
def qHJ (x0 x1:LI) (x2:Int) (x3 x4 x5:Nat) (x6 x7 x8:Int) (x9 x10:Nat) (x11:LL) (_x12:Nat) (x13 x14:LL) (_x15:Nat) (x16:List Bool) (x17 x18:LI) (x19:Int) (x20 x21:LL) (x22:Nat) (x23 x24:LL):Option (LI×LI×Int×Nat×Nat×Nat×Int×Int×Int×Nat×Nat×LL×LL×LI×LI×Int×LL×LL×Nat×LL×Nat×LL×Nat×List Bool×LL):=
 br (decide ((x4+1)*98<=140737488355328))
 (ob (qIb x19 x17 x18 x19 x20 x21) fun A0=>
 br (decide ((x5+1)*1<=140737488355328))
 (ob (qHC x8 x9 x17 x18 x19 x20 x21 x22 x23) fun A1=>
 ob (qHC x8 x9 x17 x18 x19 x20 x21 x22 x23) fun A2=>
 br (decide ((List.length (getD x24 (qW [A2] x14) [])+1)*8<=140737488355328))
 (br (qIf (some (qW [A2] x14)) (qW [A1] x14))
 (ob (qKi x0 x1 x2 x3 (x4+1) (x5+1) x6 x7 x8 x9 x10 x11 (x4+1) (List.append (take x4 x13) [List.append (List.append x17 (List.append x18 [x19])) []]) (qAj [A1] x14) (x5+1) (List.append (take x5 x16) [A0]) x17 x18 x19 x20 x21 x22 x23 (qAR x24 (qW [A1] x14) (take (List.length (getD x24 (qW [A2] x14) [])+1) (List.append (getD x24 (qW [A2] x14) []) [wrap .i64 (Int.ofNat (x4+1) - 1)])))) fun (A3,A4,A5,A6,A7,A8,A9,Aa,Ab,Ac,Ad,Ae,Af,Ag,Ah,Ai,Aj,Ak,Al,Am,An,Ao,Ap,Aq,Ar,As,At)=>
 ob (qHV Am An Ao Ap Aq) fun (Au,Av,Aw,Ax,Ay,Az,_,_)=>
 br (Int.ofNat Au==0)
 (some (A5,A6,A7,A8,A9,Aa,1,Ax,Ad,Ae,Af,Ag,Aj,Av,Aw,Ax,Ay,Az,Ar,As,Ah,Ai,Ak,Al,At))
 (br (A4)
 (ob (qI2 0 A3 A5 A6 A7 A8 A9 Aa 2 Ac Ad Ae Af Ag Ah Ai Aj Ak Al Av Aw Ax Ay Az Ar As At) fun (B0,B1,B2,B3,B4,B5,B6,B7,B8,B9,Ba,Bb,Bc,Bd,Be,Bf,Bg,Bh,Bi,Bj,Bk,Bl,Bm,Bn,Bo,Bp)=>
 ob (qI2 1 A3 B1 B2 B3 B4 B5 B6 B7 B8 B9 Ba Bb Bc Bd Be Bf Bg Bh Bi Bj Bk Bl Bm Bn Bo Bp) fun (Bq,Br,Bs,Bt,Bu,Bv,Bw,Bx,By,Bz,C0,C1,C2,C3,C4,C5,C6,C7,C8,C9,Ca,Cb,Cc,Cd,Ce,Cf)=>
 br (!B0==Bq)
 (br (Bq)
 (some (Br,Bs,Bt,Bu,Bv,Bw,3,1,Bz,C0,C1,C2,C5,C8,C9,Ca,Cb,Cc,Cd,Ce,C3,C4,C6,C7,Cf))
 (some (Br,Bs,Bt,Bu,Bv,Bw,3,0,Bz,C0,C1,C2,C5,C8,C9,Ca,Cb,Cc,Cd,Ce,C3,C4,C6,C7,Cf)))
 (some (Br,Bs,Bt,Bu,Bv,Bw,Bx,By,Bz,C0,C1,C2,C5,C8,C9,Ca,Cb,Cc,Cd,Ce,C3,C4,C6,C7,Cf)))
 (br (wrap .i64 (Int.ofNat (x4+1) - 1)==4096)
 (some (A5,A6,A7,A8,A9,Aa,5,Ac,Ad,Ae,Af,Ag,Aj,Av,Aw,Ax,Ay,Az,Ar,As,Ah,Ai,Ak,Al,At))
 (some (A5,A6,A7,A8,A9,Aa,Ab,Ac,Ad,Ae,Af,Ag,Aj,Av,Aw,Ax,Ay,Az,Ar,As,Ah,Ai,Ak,Al,At)))))
 (none))
 (none))
 (none))
 (none)
def qI1 (x0 x1:LI) (x2:Int):Option ((Int)⊕(Int×LI×LI×Int×Nat×Nat×Nat×Int×Int×Int×Nat×Nat×LL×Nat×LL×LL×Nat×List Bool×LI×LI×Int×LL×LL×Nat×LL×LL)):=
 ob (qJ7 x0 x1 x2) fun A0=>
 br (A0 != 0)
 (some (.inl (A0)))
 (ob (qKS x0 x1 x2) fun (A1,A2,A3,A4,A5,A6,A7,A8,A9)=>
 ob (qHJ x0 x1 x2 0 0 0 0 (-1) A1 A2 0 [] 0 [] [] 0 [] A3 A4 A5 A6 A7 A8 A9 []) fun (Aa,Ab,Ac,Ad,Ae,Af,Ag,Ah,Ai,Aj,Ak,Al,Am,An,Ao,Ap,Aq,Ar,As,At,Au,Av,Aw,Ax,Ay)=>
 some (.inr (0,Aa,Ab,Ac,Ad,Ae,Af,Ag,Ah,Ai,Aj,Ak,Al,Au,Av,Am,Aw,Ax,An,Ao,Ap,Aq,Ar,As,At,Ay)))
def qVe (_x0 _x1 _x2:Int) (_x3:Bool):Option (Empty):=
 none
def qF0 (x0 x1 x2:Int) (x3:Bool) (x4 x5:LI) (x6:Int) (x7 x8 x9:Nat) (x10 x11 x12:Int) (x13 x14:Nat) (x15:LL) (x16:Nat) (x17 x18:LL) (x19:Nat) (x20:List Bool) (x21 x22:LI) (x23:Int) (x24 x25:LL) (x26:Nat) (x27 x28:LL):Option ((Int×LI×LI×Int×Nat×Nat×Nat×Int×Int×Int×Nat×Nat×LL×Nat×LL×LL×Nat×List Bool×LI×LI×Int×LL×LL×Nat×LL×LL)⊕((Int×LI×LI×Int×Nat×Nat×Nat×Int×Int×Int×Nat×LL×LI×LI×Int×LL×LL×Nat×LL×Nat×LL×Nat×LL×Nat×List Bool×LL)⊕(Int×LI×LI×Int×Nat×Nat×Nat×Int×Int×Int×Nat×LL×LI×LI×Int×LL×LL×Nat×LL×Nat×LL×Nat×List Bool×Nat×LL×LL))):=
 br (x10 != 0)
 (some (.inl (140,x4,x5,x6,x7,x8,x9,x10,x11,x12,x13,x14,x15,x16,x17,x18,x19,x20,x21,x22,x23,x24,x25,x26,x27,x28)))
 (ob (qJA x0 x1 x2 x3 x21 x22 x23 x24 x25) fun (A0,A1,A2,A3,A4,A5)=>
 br (!A0)
 (some (.inl (110,x4,x5,x6,x7,x8,x9,x10,x11,x12,x13,x14,x15,x16,x17,x18,x19,x20,A1,A2,A3,A4,A5,x26,x27,x28)))
 (ob (qEy x0 x1 x2 x3 x12 x13 A1 A2 A3 A4 A5 x26 x27) fun A6=>
 sw A6 (fun (_,A7,A8,A9,Aa,Ab,Ac,Ad,Ae,Af)=>
 br (decide ((x7+1)*32<=140737488355328))
 (ob (qHJ x4 x5 x6 (x7+1) x8 x9 x10 x11 A7 A8 (x7+1) (List.append (take x7 x15) [[x0,x1,x2,bi x3]]) x16 x17 x18 x19 x20 A9 Aa Ab Ac Ad Ae Af x28) fun (Ag,Ah,Ai,Aj,Ak,Al,Am,An,Ao,Ap,Aq,Ar,As,At,Au,Av,Aw,Ax,Ay,Az,B0,B1,B2,B3,B4)=>
 some (.inr (.inl (0,Ag,Ah,Ai,Aj,Ak,Al,Am,An,Ao,Ap,As,At,Au,Av,Aw,Ax,Ay,Az,Aq,Ar,B0,B1,B2,B3,B4))))
 (none))
 (fun (_,A7,A8,A9,Aa,Ab,Ac,Ad,Ae,Af)=>
 br (decide ((x7+1)*32<=140737488355328))
 (ob (qHJ x4 x5 x6 (x7+1) x8 x9 x10 x11 A7 A8 (x7+1) (List.append (take x7 x15) [[x0,x1,x2,bi x3]]) x16 x17 x18 x19 x20 A9 Aa Ab Ac Ad Ae Af x28) fun (Ag,Ah,Ai,Aj,Ak,Al,Am,An,Ao,Ap,Aq,Ar,As,At,Au,Av,Aw,Ax,Ay,Az,B0,B1,B2,B3,B4)=>
 some (.inr (.inr (0,Ag,Ah,Ai,Aj,Ak,Al,Am,An,Ao,Ap,As,At,Au,Av,Aw,Ax,Aq,Ar,B0,B1,B2,B3,Ay,Az,B4))))
 (none))))
def qVw (_rec:Nat->Nat->Int->Int->Nat->LL->Option (Nat×Nat×LL)) (x0 x1:Nat) (x2 x3:Int) (x4:Nat) (x5:LL):Option (Nat×Nat×LL):=
 br (decide (x3<x2))
 (br (inB x3 x1)
 (ob (qVe (headD (take 4 (getD x5 (Int.toNat x3) [])) 0) (headD (tail (take 4 (getD x5 (Int.toNat x3) []))) 0) (headD (tail (tail (take 4 (getD x5 (Int.toNat x3) [])))) 0) (headD (tail (tail (tail (take 4 (getD x5 (Int.toNat x3) []))))) 0 != 0)) fun _=>
 none)
 (none))
 (some (x0,x4,x5))
def qKg:Nat->Nat->Nat->Int->Int->Nat->LL->Option (Nat×Nat×LL)
 | 0,_,_,_,_,_,_=>none
 | f+1,x0,x1,x2,x3,x4,x5=>qVw (qKg f) x0 x1 x2 x3 x4 x5
def qVy (rec:Nat->Nat->Int->Int->Nat->LL->LI->LI->Int->Nat->Nat->Nat->Int->Int->Int->Nat->Nat->LL->Nat->LL->LL->Nat->List Bool->LI->LI->Int->LL->LL->Nat->LL->LL->Option ((Nat×Int×Int×Nat×LL×LI×LI×Int×Nat×Nat×Nat×Int×Int×Int×Nat×Nat×LL×Nat×LL×LL×Nat×List Bool×LI×LI×Int×LL×LL×Nat×LL×LL)⊕(Nat×Nat×LL×LI×LI×Int×Nat×Nat×Nat×Int×Int×Int×Nat×Nat×LL×Nat×LL×LL×Nat×List Bool×LI×LI×Int×LL×LL×Nat×LL×LL))) (x0 x1:Nat) (x2 x3:Int) (x4:Nat) (x5:LL) (x6 x7:LI) (x8:Int) (x9 x10 x11:Nat) (x12 x13 x14:Int) (x15 x16:Nat) (x17:LL) (x18:Nat) (x19 x20:LL) (x21:Nat) (x22:List Bool) (x23 x24:LI) (x25:Int) (x26 x27:LL) (x28:Nat) (x29 x30:LL):Option ((Nat×Int×Int×Nat×LL×LI×LI×Int×Nat×Nat×Nat×Int×Int×Int×Nat×Nat×LL×Nat×LL×LL×Nat×List Bool×LI×LI×Int×LL×LL×Nat×LL×LL)⊕(Nat×Nat×LL×LI×LI×Int×Nat×Nat×Nat×Int×Int×Int×Nat×Nat×LL×Nat×LL×LL×Nat×List Bool×LI×LI×Int×LL×LL×Nat×LL×LL)):=
 br (decide (x3<x2))
 (br (inB x3 x1)
 (ob (qF0 (headD (take 4 (getD x5 (Int.toNat x3) [])) 0) (headD (tail (take 4 (getD x5 (Int.toNat x3) []))) 0) (headD (tail (tail (take 4 (getD x5 (Int.toNat x3) [])))) 0) (headD (tail (tail (tail (take 4 (getD x5 (Int.toNat x3) []))))) 0 != 0) x6 x7 x8 x9 x10 x11 x12 x13 x14 x15 x16 x17 x18 x19 x20 x21 x22 x23 x24 x25 x26 x27 x28 x29 x30) fun A0=>
 sw A0 (fun (A1,A2,A3,A4,A5,A6,A7,A8,A9,Aa,Ab,Ac,Ad,Ae,Af,Ag,Ah,Ai,Aj,Ak,Al,Am,An,Ao,Ap,Aq)=>
 br (A1 != 0)
 (some (.inl (x0,x3,A1,x4,x5,A2,A3,A4,A5,A6,A7,A8,A9,Aa,Ab,Ac,Ad,Ae,Af,Ag,Ah,Ai,Aj,Ak,Al,Am,An,Ao,Ap,Aq)))
 (rec x0 x1 x2 (wrap .i64 (x3+1)) x4 x5 A2 A3 A4 A5 A6 A7 A8 A9 Aa Ab Ac Ad Ae Af Ag Ah Ai Aj Ak Al Am An Ao Ap Aq))
 (fun Ar=>
 sw Ar (fun (A1,A2,A3,A4,A5,A6,A7,A8,A9,Aa,Ab,Ac,Ad,Ae,Af,Ag,Ah,Ai,Aj,Ak,Al,Am,An,Ao,Ap,Aq)=>
 br (A1 != 0)
 (some (.inl (x0,x3,A1,x4,x5,A2,A3,A4,A5,A6,A7,A8,A9,Aa,Ab,Ak,Al,Am,An,Ac,Ao,Ap,Ad,Ae,Af,Ag,Ah,Ai,Aj,Aq)))
 (rec x0 x1 x2 (wrap .i64 (x3+1)) x4 x5 A2 A3 A4 A5 A6 A7 A8 A9 Aa Ab Ak Al Am An Ac Ao Ap Ad Ae Af Ag Ah Ai Aj Aq))
 (fun (A1,A2,A3,A4,A5,A6,A7,A8,A9,Aa,Ab,Ac,Ad,Ae,Af,Ag,Ah,Ai,Aj,Ak,Al,Am,An,Ao,Ap,Aq)=>
 br (A1 != 0)
 (some (.inl (x0,x3,A1,x4,x5,A2,A3,A4,A5,A6,A7,A8,A9,Aa,Ab,Ai,Aj,Ak,Al,Ac,Am,An,Ad,Ae,Af,Ag,Ah,Ao,Ap,Aq)))
 (rec x0 x1 x2 (wrap .i64 (x3+1)) x4 x5 A2 A3 A4 A5 A6 A7 A8 A9 Aa Ab Ai Aj Ak Al Ac Am An Ad Ae Af Ag Ah Ao Ap Aq))))
 (none))
 (some (.inr (x0,x4,x5,x6,x7,x8,x9,x10,x11,x12,x13,x14,x15,x16,x17,x18,x19,x20,x21,x22,x23,x24,x25,x26,x27,x28,x29,x30)))
def qKh:Nat->Nat->Nat->Int->Int->Nat->LL->LI->LI->Int->Nat->Nat->Nat->Int->Int->Int->Nat->Nat->LL->Nat->LL->LL->Nat->List Bool->LI->LI->Int->LL->LL->Nat->LL->LL->Option ((Nat×Int×Int×Nat×LL×LI×LI×Int×Nat×Nat×Nat×Int×Int×Int×Nat×Nat×LL×Nat×LL×LL×Nat×List Bool×LI×LI×Int×LL×LL×Nat×LL×LL)⊕(Nat×Nat×LL×LI×LI×Int×Nat×Nat×Nat×Int×Int×Int×Nat×Nat×LL×Nat×LL×LL×Nat×List Bool×LI×LI×Int×LL×LL×Nat×LL×LL))
 | 0,_,_,_,_,_,_,_,_,_,_,_,_,_,_,_,_,_,_,_,_,_,_,_,_,_,_,_,_,_,_,_=>none
 | f+1,x0,x1,x2,x3,x4,x5,x6,x7,x8,x9,x10,x11,x12,x13,x14,x15,x16,x17,x18,x19,x20,x21,x22,x23,x24,x25,x26,x27,x28,x29,x30=>qVy (qKh f) x0 x1 x2 x3 x4 x5 x6 x7 x8 x9 x10 x11 x12 x13 x14 x15 x16 x17 x18 x19 x20 x21 x22 x23 x24 x25 x26 x27 x28 x29 x30
 termination_by structural x=>x
def qVr (x0 x1:LI) (x2:Int) (x3 x4:Nat) (x5:LL):Option ((Int×Int)⊕(Int×Int×LI×LI×Int×Nat×Nat×Nat×Int×Int×Int×Nat×Nat×LL×Nat×LL×LL×Nat×List Bool×LI×LI×Int×LL×LL×Nat×LL×LL)):=
 ob (qI1 x0 x1 x2) fun A0=>
 sw A0 (fun A1=>
 br (A1 != 0)
 (some (.inl (0,A1)))
 (ob (qKg qC x3 x3 (Int.ofNat x3) 0 x4 x5) fun (A2,_,_)=>
 some (.inl (Int.ofNat A2,0))))
 (fun (A3,A4,A5,A6,A7,A8,A9,Aa,Ab,Ac,Ad,Ae,Af,Ag,Ah,Ai,Aj,Ak,Al,Am,An,Ao,Ap,Aq,Ar,As)=>
 br (A3 != 0)
 (some (.inl (0,A3)))
 (ob (qKh qC x3 x3 (Int.ofNat x3) 0 x4 x5 A4 A5 A6 A7 A8 A9 Aa Ab Ac Ad Ae Af Ag Ah Ai Aj Ak Al Am An Ao Ap Aq Ar As) fun At=>
 sw At (fun (_,Au,Av,_,_,Aw,Ax,Ay,Az,B0,B1,B2,B3,B4,B5,B6,B7,B8,B9,Ba,Bb,Bc,Bd,Be,Bf,Bg,Bh,Bi,Bj,Bk)=>
 some (.inr (Au,Av,Aw,Ax,Ay,Az,B0,B1,B2,B3,B4,B5,B6,B7,B8,B9,Ba,Bb,Bc,Bd,Be,Bf,Bg,Bh,Bi,Bj,Bk)))
 (fun (Bl,_,_,Bm,Bn,Aw,Ax,Ay,Az,B0,B1,B2,B3,B4,B5,B6,B7,B8,B9,Ba,Bb,Bc,Bd,Be,Bf,Bg,Bh,Bi)=>
 some (.inr (Int.ofNat Bl,0,Bm,Bn,Aw,Ax,Ay,Az,B0,B1,B2,B3,B4,B5,B6,B7,B8,B9,Ba,Bb,Bc,Bd,Be,Bf,Bg,Bh,Bi)))))
def qV0 (x0 x1:LI) (x2:Int) (x3 x4 x5:Nat) (x6 x7 x8:Int) (x9 x10:Nat) (x11:LL) (x12:Nat) (x13 x14:LL) (x15:Nat) (x16:List Bool) (x17 x18:LI) (x19:Int) (x20 x21:LL) (x22:Nat) (x23 x24:LL):Option (Int×LI×LI×Int×Nat×Nat×Nat×Int×Int×Int×Nat×Nat×LL×Nat×LL×LL×Nat×List Bool×LI×LI×Int×LL×LL×Nat×LL×LL):=
 br (x6 != 0)
 (some (140,x0,x1,x2,x3,x4,x5,x6,x7,x8,x9,x10,x11,x12,x13,x14,x15,x16,x17,x18,x19,x20,x21,x22,x23,x24))
 (some (0,x0,x1,x2,x3,x4,x5,4,x19,x8,x9,x10,x11,x12,x13,x14,x15,x16,x17,x18,x19,x20,x21,x22,x23,x24))
def qE2 (x0 x1:LI) (x2:Int) (x3 x4 x5:Nat) (x6 x7 x8:Int) (x9 x10:Nat) (x11:LL) (x12:Nat) (x13 x14:LL) (x15:Nat) (x16:List Bool) (x17 x18:LI) (x19:Int) (x20 x21:LL) (x22:Nat) (x23 x24:LL):Option (Int×Int×LI×LI×Int×Nat×Nat×Nat×Int×Int×Int×Nat×Nat×LL×Nat×LL×LL×Nat×List Bool×LI×LI×Int×LL×LL×Nat×LL×LL):=
 some (x6,x7,x0,x1,x2,x3,x4,x5,x6,x7,x8,x9,x10,x11,x12,x13,x14,x15,x16,x17,x18,x19,x20,x21,x22,x23,x24)
def qPH:Option (Bool):=
 ob (qT9 ) fun (A0,A1,A2)=>
 ob (qVr A0 A1 A2 1 1 ([[60,59,0,0]])) fun A3=>
 sw A3 (fun (_,_)=>
 some (false))
 (fun (A4,A5,A6,A7,A8,A9,Aa,Ab,Ac,Ad,Ae,Af,Ag,Ah,Ai,Aj,Ak,Al,Am,An,Ao,Ap,Aq,Ar,As,At,Au)=>
 br (A4 != 1)
 (some (false))
 (br (A5 != 0)
 (some (false))
 (ob (qV0 A6 A7 A8 A9 Aa Ab Ac Ad Ae Af Ag Ah Ai Aj Ak Al Am An Ao Ap Aq Ar As At Au) fun (Av,Aw,Ax,Ay,Az,B0,B1,B2,B3,B4,B5,B6,B7,B8,B9,Ba,Bb,Bc,Bd,Be,Bf,Bg,Bh,Bi,Bj,Bk)=>
 br (Av != 0)
 (some (false))
 (ob (qE2 Aw Ax Ay Az B0 B1 B2 B3 B4 B5 B6 B7 B8 B9 Ba Bb Bc Bd Be Bf Bg Bh Bi Bj Bk) fun (Bl,Bm,_,_,_,_,_,_,_,_,_,_,_,_,_,_,_,_,_,_,_,_,_,_,_,_,_)=>
 br (Bl==4)
 (br (Bm==1)
 (some (true))
 (some (false)))
 (some (false))))))
def qF1 (x0 x1:LI) (x2:Int) (x3 x4 x5:Nat) (x6 x7 x8:Int) (x9 x10:Nat) (x11:LL) (x12:Nat) (x13 x14:LL) (x15:Nat) (x16:List Bool) (x17 x18:LI) (x19:Int) (x20 x21:LL) (x22:Nat) (x23 x24:LL):Option (LI×LI×Int×LI×LI×Int×Nat×Nat×Nat×Int×Int×Int×Nat×Nat×LL×Nat×LL×LL×Nat×List Bool×LI×LI×Int×LL×LL×Nat×LL×LL):=
 some (x17,x18,x19,x0,x1,x2,x3,x4,x5,x6,x7,x8,x9,x10,x11,x12,x13,x14,x15,x16,x17,x18,x19,x20,x21,x22,x23,x24)
def qF5 (A0:LI) (A1:LI) (A2:Int) (A3:Nat) (A4:Nat) (A5:Nat) (A6:Int) (A7:Int) (A8:Int) (A9:Nat) (Aa:Nat) (Ab:LL) (Ac:Nat) (Ad:LL) (Ae:LL) (Af:Nat) (Ag:List Bool) (Ah:LI) (Ai:LI) (Aj:Int) (Ak:LL) (Al:LL) (Am:Nat) (An:LL) (Ao:LL) (Ap:Int) (Aq:Int) (x3:Nat) (x4:LI) (rec:Nat->Int->Int->Nat->LI->LI->LI->Int->Nat->Nat->Nat->Int->Int->Nat->LI->Int->Nat->Nat->LL->Nat->LL->LL->Nat->List Bool->LI->LI->Int->LL->LL->Nat->LL->LL->Option ((Bool×Nat×LI)⊕(Nat×LI))) (x0:Nat) (x1 x2:Int) (x13:Nat) (x14:LI):Option ((Bool×Nat×LI)⊕(Nat×LI)):=
 ob (qF1 A0 A1 A2 A3 A4 A5 A6 A7 A8 A9 Aa Ab Ac Ad Ae Af Ag Ah Ai Aj Ak Al Am An Ao) fun (Ar,As,At,Au,Av,Aw,Ax,Ay,Az,B0,B1,B2,B3,B4,B5,B6,B7,B8,B9,Ba,Bb,Bc,Bd,Be,Bf,Bg,Bh,Bi)=>
 ob (qH4 Ar As At) fun (Bj,_,_)=>
 br (Ap==1)
 (br (!decide (Aq >= 0)==true)
 (some (.inl (false,x3,x4)))
 (br (decide (Aq>1))
 (some (.inl (false,x3,x4)))
 (br (decide (Aq < -1))
 (some (.inl (false,x3,x4)))
 (br ((Ap==1)==decide (Int.ofNat Bj>0))
 (some (.inl (false,x3,x4)))
 (br (Ap==1)
 (ob (qF1 Au Av Aw Ax Ay Az B0 B1 B2 B3 B4 B5 B6 B7 B8 B9 Ba Bb Bc Bd Be Bf Bg Bh Bi) fun (_,_,Bk,Bl,Bm,Bn,Bo,Bp,Bq,Br,Bs,Bt,Bu,Bv,Bw,Bx,By,Bz,C0,C1,C2,C3,C4,C5,C6,C7,C8,C9)=>
 br (Aq != Bk)
 (some (.inl (false,x3,x4)))
 (br (Ap==4)
 (some (.inl (false,x3,x4)))
 (rec x0 x1 (wrap .i64 (x2+1)) x3 x4 Bl Bm Bn Bo Bp Bq Br Bs x13 x14 Bt Bu Bv Bw Bx By Bz C0 C1 C2 C3 C4 C5 C6 C7 C8 C9)))
 (br (Ap==4)
 (some (.inl (false,x3,x4)))
 (rec x0 x1 (wrap .i64 (x2+1)) x3 x4 Au Av Aw Ax Ay Az B0 B1 x13 x14 B2 B3 B4 B5 B6 B7 B8 B9 Ba Bb Bc Bd Be Bf Bg Bh Bi)))))))
 (br (Ap==3)
 (br (!decide (Aq >= 0)==true)
 (some (.inl (false,x3,x4)))
 (br (decide (Aq>1))
 (some (.inl (false,x3,x4)))
 (br (decide (Aq < -1))
 (some (.inl (false,x3,x4)))
 (br ((Ap==1)==decide (Int.ofNat Bj>0))
 (some (.inl (false,x3,x4)))
 (br (Ap==1)
 (ob (qF1 Au Av Aw Ax Ay Az B0 B1 B2 B3 B4 B5 B6 B7 B8 B9 Ba Bb Bc Bd Be Bf Bg Bh Bi) fun (_,_,Bk,Bl,Bm,Bn,Bo,Bp,Bq,Br,Bs,Bt,Bu,Bv,Bw,Bx,By,Bz,C0,C1,C2,C3,C4,C5,C6,C7,C8,C9)=>
 br (Aq != Bk)
 (some (.inl (false,x3,x4)))
 (br (Ap==4)
 (some (.inl (false,x3,x4)))
 (rec x0 x1 (wrap .i64 (x2+1)) x3 x4 Bl Bm Bn Bo Bp Bq Br Bs x13 x14 Bt Bu Bv Bw Bx By Bz C0 C1 C2 C3 C4 C5 C6 C7 C8 C9)))
 (br (Ap==4)
 (some (.inl (false,x3,x4)))
 (rec x0 x1 (wrap .i64 (x2+1)) x3 x4 Au Av Aw Ax Ay Az B0 B1 x13 x14 B2 B3 B4 B5 B6 B7 B8 B9 Ba Bb Bc Bd Be Bf Bg Bh Bi)))))))
 (br (!decide (Aq >= 0)==(Ap==4))
 (some (.inl (false,x3,x4)))
 (br (decide (Aq>1))
 (some (.inl (false,x3,x4)))
 (br (decide (Aq < -1))
 (some (.inl (false,x3,x4)))
 (br ((Ap==1)==decide (Int.ofNat Bj>0))
 (some (.inl (false,x3,x4)))
 (br (Ap==1)
 (ob (qF1 Au Av Aw Ax Ay Az B0 B1 B2 B3 B4 B5 B6 B7 B8 B9 Ba Bb Bc Bd Be Bf Bg Bh Bi) fun (_,_,Bk,Bl,Bm,Bn,Bo,Bp,Bq,Br,Bs,Bt,Bu,Bv,Bw,Bx,By,Bz,C0,C1,C2,C3,C4,C5,C6,C7,C8,C9)=>
 br (Aq != Bk)
 (some (.inl (false,x3,x4)))
 (br (Ap==4)
 (some (.inl (false,x3,x4)))
 (rec x0 x1 (wrap .i64 (x2+1)) x3 x4 Bl Bm Bn Bo Bp Bq Br Bs x13 x14 Bt Bu Bv Bw Bx By Bz C0 C1 C2 C3 C4 C5 C6 C7 C8 C9)))
 (br (Ap==4)
 (some (.inl (false,x3,x4)))
 (rec x0 x1 (wrap .i64 (x2+1)) x3 x4 Au Av Aw Ax Ay Az B0 B1 x13 x14 B2 B3 B4 B5 B6 B7 B8 B9 Ba Bb Bc Bd Be Bf Bg Bh Bi))))))))
def qK3 (rec:Nat->Int->Int->Nat->LI->LI->LI->Int->Nat->Nat->Nat->Int->Int->Nat->LI->Int->Nat->Nat->LL->Nat->LL->LL->Nat->List Bool->LI->LI->Int->LL->LL->Nat->LL->LL->Option ((Bool×Nat×LI)⊕(Nat×LI))) (x0:Nat) (x1 x2:Int) (x3:Nat) (x4 x5 x6:LI) (x7:Int) (x8 x9 x10:Nat) (x11 x12:Int) (x13:Nat) (x14:LI) (x15:Int) (x16 x17:Nat) (x18:LL) (x19:Nat) (x20 x21:LL) (x22:Nat) (x23:List Bool) (x24 x25:LI) (x26:Int) (x27 x28:LL) (x29:Nat) (x30 x31:LL):Option ((Bool×Nat×LI)⊕(Nat×LI)):=
 br (decide (x2<x1))
 (br (inB x2 x0)
 (ob (qF1 x5 x6 x7 x8 x9 x10 x11 x12 x15 x16 x17 x18 x19 x20 x21 x22 x23 x24 x25 x26 x27 x28 x29 x30 x31) fun (A0,A1,A2,A3,A4,A5,A6,A7,A8,A9,Aa,Ab,Ac,Ad,Ae,Af,Ag,Ah,Ai,Aj,Ak,Al,Am,An,Ao,Ap,Aq,Ar)=>
 ob (qH4 A0 A1 A2) fun (As,_,At)=>
 br (decide (Int.ofNat As>0))
 (br (decide (getD x14 (Int.toNat x2) 0 >= 0))
 (br (decide (Int.ofNat As=0))
 (none)
 (br (inB (Int.tmod (getD x14 (Int.toNat x2) 0) (Int.ofNat As)) As)
 (ob (qF0 (headD (take 4 (getD At (Int.toNat (Int.tmod (getD x14 (Int.toNat x2) 0) (Int.ofNat As))) [])) 0) (headD (tail (take 4 (getD At (Int.toNat (Int.tmod (getD x14 (Int.toNat x2) 0) (Int.ofNat As))) []))) 0) (headD (tail (tail (take 4 (getD At (Int.toNat (Int.tmod (getD x14 (Int.toNat x2) 0) (Int.ofNat As))) [])))) 0) (headD (tail (tail (tail (take 4 (getD At (Int.toNat (Int.tmod (getD x14 (Int.toNat x2) 0) (Int.ofNat As))) []))))) 0 != 0) A3 A4 A5 A6 A7 A8 A9 Aa Ab Ac Ad Ae Af Ag Ah Ai Aj Ak Al Am An Ao Ap Aq Ar) fun Au=>
 sw Au (fun (_,Av,Aw,Ax,Ay,Az,B0,B1,B2,B3,B4,B5,B6,B7,B8,B9,Ba,Bb,Bc,Bd,Be,Bf,Bg,Bh,Bi,Bj)=>
 ob (qE2 Av Aw Ax Ay Az B0 B1 B2 B3 B4 B5 B6 B7 B8 B9 Ba Bb Bc Bd Be Bf Bg Bh Bi Bj) fun (Bk,Bl,Bm,Bn,Bo,Bp,Bq,Br,Bs,Bt,Bu,Bv,Bw,Bx,By,Bz,C0,C1,C2,C3,C4,C5,C6,C7,C8,C9,Ca)=>qF5 Bm Bn Bo Bp Bq Br Bs Bt Bu Bv Bw Bx By Bz C0 C1 C2 C3 C4 C5 C6 C7 C8 C9 Ca Bk Bl x3 x4 rec x0 x1 x2 x13 x14)
 (fun Cb=>
 sw Cb (fun (_,Av,Aw,Ax,Ay,Az,B0,B1,B2,B3,B4,B5,B6,B7,B8,B9,Ba,Bb,Bc,Bd,Be,Bf,Bg,Bh,Bi,Bj)=>
 ob (qE2 Av Aw Ax Ay Az B0 B1 B2 B3 B4 Bd Be Bf Bg B5 Bh Bi B6 B7 B8 B9 Ba Bb Bc Bj) fun (Bk,Bl,Bm,Bn,Bo,Bp,Bq,Br,Bs,Bt,Bu,Bv,Bw,Bx,By,Bz,C0,C1,C2,C3,C4,C5,C6,C7,C8,C9,Ca)=>qF5 Bm Bn Bo Bp Bq Br Bs Bt Bu Bv Bw Bx By Bz C0 C1 C2 C3 C4 C5 C6 C7 C8 C9 Ca Bk Bl x3 x4 rec x0 x1 x2 x13 x14)
 (fun (_,Av,Aw,Ax,Ay,Az,B0,B1,B2,B3,B4,B5,B6,B7,B8,B9,Ba,Bb,Bc,Bd,Be,Bf,Bg,Bh,Bi,Bj)=>
 ob (qE2 Av Aw Ax Ay Az B0 B1 B2 B3 B4 Bb Bc Bd Be B5 Bf Bg B6 B7 B8 B9 Ba Bh Bi Bj) fun (Bk,Bl,Bm,Bn,Bo,Bp,Bq,Br,Bs,Bt,Bu,Bv,Bw,Bx,By,Bz,C0,C1,C2,C3,C4,C5,C6,C7,C8,C9,Ca)=>qF5 Bm Bn Bo Bp Bq Br Bs Bt Bu Bv Bw Bx By Bz C0 C1 C2 C3 C4 C5 C6 C7 C8 C9 Ca Bk Bl x3 x4 rec x0 x1 x2 x13 x14)))
 (none)))
 (ob (qE2 A3 A4 A5 A6 A7 A8 A9 Aa Ab Ac Ad Ae Af Ag Ah Ai Aj Ak Al Am An Ao Ap Aq Ar) fun (Cc,Av,Aw,Ax,Ay,Az,B0,B1,B2,B3,B4,B5,B6,B7,B8,B9,Ba,Bb,Bc,Bd,Be,Bf,Bg,Bh,Bi,Bj,Cd)=>qF5 Aw Ax Ay Az B0 B1 B2 B3 B4 B5 B6 B7 B8 B9 Ba Bb Bc Bd Be Bf Bg Bh Bi Bj Cd Cc Av x3 x4 rec x0 x1 x2 x13 x14))
 (ob (qE2 A3 A4 A5 A6 A7 A8 A9 Aa Ab Ac Ad Ae Af Ag Ah Ai Aj Ak Al Am An Ao Ap Aq Ar) fun (Cc,Av,Aw,Ax,Ay,Az,B0,B1,B2,B3,B4,B5,B6,B7,B8,B9,Ba,Bb,Bc,Bd,Be,Bf,Bg,Bh,Bi,Bj,Cd)=>qF5 Aw Ax Ay Az B0 B1 B2 B3 B4 B5 B6 B7 B8 B9 Ba Bb Bc Bd Be Bf Bg Bh Bi Bj Cd Cc Av x3 x4 rec x0 x1 x2 x13 x14))
 (none))
 (some (.inr (x3,x4)))
def qFE:Nat->Nat->Int->Int->Nat->LI->LI->LI->Int->Nat->Nat->Nat->Int->Int->Nat->LI->Int->Nat->Nat->LL->Nat->LL->LL->Nat->List Bool->LI->LI->Int->LL->LL->Nat->LL->LL->Option ((Bool×Nat×LI)⊕(Nat×LI))
 | 0,_,_,_,_,_,_,_,_,_,_,_,_,_,_,_,_,_,_,_,_,_,_,_,_,_,_,_,_,_,_,_,_=>none
 | f+1,x0,x1,x2,x3,x4,x5,x6,x7,x8,x9,x10,x11,x12,x13,x14,x15,x16,x17,x18,x19,x20,x21,x22,x23,x24,x25,x26,x27,x28,x29,x30,x31=>qK3 (qFE f) x0 x1 x2 x3 x4 x5 x6 x7 x8 x9 x10 x11 x12 x13 x14 x15 x16 x17 x18 x19 x20 x21 x22 x23 x24 x25 x26 x27 x28 x29 x30 x31
 termination_by structural x=>x
def qK1 (x0 x1:LI) (x2:Int) (x3 x4 x5:Nat) (x6:LI):Option (Bool):=
 ob (qPH ) fun A0=>
 br (!A0)
 (some (false))
 (ob (qLq x0 x1 x2) fun A1=>
 br (A1 != 0)
 (some (true))
 (br (decide (Int.ofNat x4>30))
 (some (true))
 (ob (qI1 x0 x1 x2) fun A2=>
 sw A2 (fun _=>
 some (false))
 (fun (A3,A4,A5,A6,A7,A8,A9,Aa,Ab,Ac,Ad,Ae,Af,Ag,Ah,Ai,Aj,Ak,Al,Am,An,Ao,Ap,Aq,Ar,As)=>
 br (A3 != 0)
 (some (false))
 (br (decide ((1+x4)*8<=140737488355328))
 (ob (qFE qC (1+x4) (Int.ofNat (1+x4)) 0 x5 x6 A4 A5 A6 A7 A8 A9 Aa Ab (1+x4) (-1 :: take x4 (drop x3 x6)) Ac Ad Ae Af Ag Ah Ai Aj Ak Al Am An Ao Ap Aq Ar As) fun At=>
 sw At (fun (Au,_,_)=>
 some (Au))
 (fun (_,_)=>
 some (true)))
 (none))))))
end Go.Kk.Pl
