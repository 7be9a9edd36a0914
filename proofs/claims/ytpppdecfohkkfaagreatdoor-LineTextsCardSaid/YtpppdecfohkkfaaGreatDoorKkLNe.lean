/- Printed by a tool of this project (KkGen): the program's functions come to the plain ones. -/
import Derived.Test.YtpppdecfohkkfaaGreatDoorKkLNd
namespace Go.Kk.KkLN
noncomputable section
open Go.Proofs Go.Kk.Pl
set_option maxRecDepth 100000
set_option maxHeartbeats 4000000
def qYm:Ctx:=mkC 44 (qL) [] qa
theorem qlQ:CtxOK Tryz.prog qYm:=mkC_ok (qN)
def qYn:V->List Obj->Option (Int):=fun v objs=>match v,objs with
 | .s (.i .i64 y0),[]=>some (y0)
 | _,_=>none
theorem qlP (x0 x1 x2:Int) (x3:Bool):fnE qYm Tryz.f32 ([.agg [.one [.i .i64 x0,.i .i64 x1,.i .i64 x2,.b x3]]]) ([]) qYn=qFr x0 x1 x2 x3:=by kernel_rfl
def qYl:HA:=fun o vs objs K=>match vs,objs with
 | [.agg [.one [.i .i64 x0,.i .i64 x1,.i .i64 x2,.b x3]]],[]=>ob (qFr x0 x1 x2 x3) fun y0=>K false (.s (.i .i64 y0)) ([])
 | _,_=>o 32 vs objs K
def qYo (o:Orc):Orc:=qM 32 (qYl o) o
theorem qlR:OQ Tryz.prog qYo:=fun _ ho=>qQ ho fun vs objs K r h=>by
 unfold qYl at h
 split at h
 ·skip
  obtain ⟨t,h1,h2⟩:=qG h
  refine qd mixed qlQ ((qlP _ _ _ _).trans h1) (by kernel_rfl) fun v objs' hd=>?_
  unfold qYn at hd;split at hd;(cases hd;exact h2);cases hd
 ·exact ho _ _ _ _ _ h
end
end Go.Kk.KkLN
