/-
 What the library's contract tells of this program's strings.Join; what the model answers itself.
-/
import Derived.Test.YtpppdecfohkkfaaGreatDoorKkTl
import Derived.Test.YtpppdecfohkkfaaGreatDoorKkJoin
namespace Go.Kk
open Go.Proofs
theorem told_ok:qTi Tryz.prog:=by
 intro f hf R vs objs K r h
 have hf:f=35:=by
  simp only[told,qBY,Bool.or_false] at hf
  exact (Nat.eq_of_beq_eq_true hf).symm
 subst hf
 exact qkr (fn:=Tryz.f35) Tryz.func35 (by kernel_rfl) (by kernel_rfl) (by rfl) Tryz.strings_Join_none Tryz.strings_Join vs objs K r h
theorem exts_told:qNF Tryz.prog:=by
 intro e he s n w
 simp only[exts,List.mem_cons,List.not_mem_nil,or_false] at he
 rcases he with rfl | rfl
 ·exact qji (fn:=Tryz.f140) Tryz.func140 (by kernel_rfl) (by kernel_rfl) (by kernel_rfl) (by kernel_rfl) s n w
 ·exact qjj (fn:=Tryz.f161) Tryz.func161 (by kernel_rfl) (by kernel_rfl) (by kernel_rfl) (by kernel_rfl) s n w
end Go.Kk
