/-
 The one table that is read, at whatever number it lies.
-/
import Derived.Test.YtpppdecfohkkfaaGreatDoorKkQi
namespace Go.Kk
theorem qkB {P:Program} {w:World} {k:IntKind} {l:List Int} {n:String} {g0:Nat} (hfx:fx=[(g0,k,l)]) (hg:P.globalNamed n=some g0) (h:w.var? P n=some (l.map fun z=>Value.int k z).toArray):FxW w:=by
 intro g k' l' hq
 unfold qBg at hq
 rw[hfx] at hq
 simp only[qJJ] at hq
 cases hb:Nat.beq g0 g with
 | false=>rw[hb] at hq;cases hq
 | true=>
   rw[hb] at hq
   have:=Nat.eq_of_beq_eq_true hb
   subst this
   simp only[cond_true,Option.some.injEq,Prod.mk.injEq] at hq
   obtain⟨rfl,rfl⟩:=hq
   unfold World.var? at h
   rw[hg] at h
   simp only[Option.bind_some] at h
   split at h
   ·rename_i cs t fr hc
    cases h
    exact⟨_,_,_,hc,by simp⟩
   ·cases h
end Go.Kk
