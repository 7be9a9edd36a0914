/-
 From a told call to a row, slices among the arguments: opened as objects that are only read.
-/
import Derived.Test.YtcilcokdgpnkmaaGreatDoorKkP
import Derived.OpenShut
namespace Go.Kk
open Go.ChangeShapes Go.WideShapes Go.ChangeAt Go.RowKit
section
variable {H:Type} {enc:TypeId×Value->H} {P:Program} {w:World} {base:Nat} {spare:Nat->Bool} {held:Bool}
end
theorem qnd {ks:List CK} {row:List Int} (hks:qAQ [SegT.arr .i8 81,.arr .i8 16,.one [.i .i8]]=some ks) (hrow:qAC ks row):
  (row.take 81).length=81 /\ ((row.drop 81).take 16).length=16 /\ (∀ i,-128<=((row.drop 81).take 16).getD i 0 /\ ((row.drop 81).take 16).getD i 0<=127) /\ (∀ i,-128<=(row.take 81).getD i 0 /\ (row.take 81).getD i 0<=127) /\
   -128<=((row.drop 81).drop 16).headD 0 /\ ((row.drop 81).drop 16).headD 0<=127:=by
 have hl:=qEz hrow
 have hks':ks=List.replicate 98 (.i .i8):=by
  simp only[qAQ,kcks?,Kd.ck?,Option.some.injEq] at hks
  rw[<- hks];rfl
 have hn:ks.length=98:=by rw[hks'];simp
 have all:∀ i,i<98->∃ x,row[i]? = some x /\ -128<=x /\ x<=127:=by
  intro i hi
  obtain⟨x,hx,hc⟩:=qC.get i hrow (by rw[hks',List.getElem?_replicate,if_pos hi])
  have hc:IntKind.wrap .i8 x=x:=hc
  refine⟨x,hx,?_⟩
  rw[<- hc]
  simp only[IntKind.wrap,IntKind.signed,IntKind.bits]
  simp
  omega
 refine⟨by simp;omega,by simp;omega,fun i=>?_,fun i=>?_,?_⟩
 ·by_cases hi:i<16
  ·obtain⟨x,hx,h1⟩:=all (81+i) (by omega)
   have:((row.drop 81).take 16).getD i 0=x:=by
    rw[List.getD_eq_getElem?_getD,List.getElem?_take,if_pos hi,List.getElem?_drop,hx]
    rfl
   rw[this];exact h1
  ·rw[List.getD_eq_getElem?_getD,List.getElem?_eq_none (by simp;omega)]
   simp
 ·by_cases hi:i<81
  ·obtain⟨x,hx,h1⟩:=all i (by omega)
   have:(row.take 81).getD i 0=x:=by
    rw[List.getD_eq_getElem?_getD,List.getElem?_take,if_pos hi,hx]
    rfl
   rw[this];exact h1
  ·rw[List.getD_eq_getElem?_getD,List.getElem?_eq_none (by simp;omega)]
   simp
 ·obtain⟨x,hx,h1⟩:=all 97 (by omega)
  have:((row.drop 81).drop 16).headD 0=x:=by
   rw[List.drop_drop,List.headD_eq_head?_getD,List.head?_drop,hx]
   rfl
  rw[this];exact h1
end Go.Kk
