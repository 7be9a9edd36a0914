/- Printed by a tool of this project (KkGen): the program's functions come to the plain ones. -/
import Derived.Test.YtbeinkbjmmbloaaGreatDoorKkSTb
namespace Go.Kk.KkST
noncomputable section
open Go.Proofs Go.Kk.Pl
set_option maxRecDepth 100000
set_option maxHeartbeats 4000000
def qNb : Ex -> List V -> List Obj -> Option ((Int × LI × LI × Int) ⊕ (LI × LI × Int)) := fun e vs objs => match e, vs, objs with
 | .ret, [.s (.ptr 0 0 none 0), .s (.i .i64 y0)], [.cells 28 [.arr .i8 81 y1, .arr .i8 16 y2, .one [.i .i8 y3]]] => some (.inl (y0, y1, y2, y3))
 | .exit 0, [.s (.ptr 0 0 none 0), .s .bad], [.cells 28 [.arr .i8 81 y0, .arr .i8 16 y1, .one [.i .i8 y2]]] => some (.inr (y0, y1, y2))
 | _, _, _ => none
def qNZ : Ex -> List V -> List Obj -> Option ((Int × Int × LI × LI × Int × LL × LL) ⊕ (Int × LI × LI × Int × LL × LL)) := fun e vs objs => match e, vs, objs with
 | .ret, [.s (.i .i64 y0), .s (.ptr 0 0 none 0), .s (.i .i64 y1)], [.cells 49 [.arr .i8 81 y2, .arr .i8 16 y3, .one [.i .i8 y4], .rows [.i .u64, .i .u64] 32 y5, .rows [.i .u64, .i .u64] 2 y6]] => some (.inl (y0, y1, y2, y3, y4, y5, y6))
 | .exit 4, [.s .bad, .s (.ptr 0 0 none 0), .s (.i .i64 y0)], [.cells 49 [.arr .i8 81 y1, .arr .i8 16 y2, .one [.i .i8 y3], .rows [.i .u64, .i .u64] 32 y4, .rows [.i .u64, .i .u64] 2 y5]] => some (.inr (y0, y1, y2, y3, y4, y5))
 | _, _, _ => none
def qNd : Ex -> List V -> List Obj -> Option ((Int) ⊕ (Unit)) := fun e vs objs => match e, vs, objs with
 | .ret, [.s (.i .i64 y0)], [] => some (.inl (y0))
 | .exit 2, [.s .bad], [] => some (.inr ())
 | _, _, _ => none
def qNg : HL := fun vs objs K => match vs, objs with
 | [.s (.ptr 0 0 none 0), .agg [.arr .i8 81 x0], .s (.i .i64 x1)], [.cells 28 [.arr .i8 81 x2, .arr .i8 16 x3, .one [.i .i8 x4]]] => ob (qE0 qC x0 x1 x2 x3 x4) fun t0 => sw t0 (fun z => K (.ret) ([.s (.ptr 0 0 none 0), .s (.i .i64 (z.1))]) ([.cells 28 [.arr .i8 81 (z.2.1), .arr .i8 16 (z.2.2.1), .one [.i .i8 (z.2.2.2)]]])) (fun z => K (.exit 0) ([.s (.ptr 0 0 none 0), .s .bad]) ([.cells 28 [.arr .i8 81 (z.1), .arr .i8 16 (z.2.1), .one [.i .i8 (z.2.2)]]]))
 | _, _ => none
def qNf : HL := fun vs objs K => match vs, objs with
 | [.s (.ptr 0 0 none 0), .s (.i .i64 x0), .s (.i .i64 x1), .s (.i .i64 x2)], [.cells 49 [.arr .i8 81 x3, .arr .i8 16 x4, .one [.i .i8 x5], .rows [.i .u64, .i .u64] 32 x6, .rows [.i .u64, .i .u64] 2 x7]] => ob (qEy qC x0 x1 x2 x3 x4 x5 x6 x7) fun t0 => sw t0 (fun z => K (.ret) ([.s (.i .i64 (z.1)), .s (.ptr 0 0 none 0), .s (.i .i64 (z.2.1))]) ([.cells 49 [.arr .i8 81 (z.2.2.1), .arr .i8 16 (z.2.2.2.1), .one [.i .i8 (z.2.2.2.2.1)], .rows [.i .u64, .i .u64] 32 (z.2.2.2.2.2.1), .rows [.i .u64, .i .u64] 2 (z.2.2.2.2.2.2)]])) (fun z => K (.exit 4) ([.s .bad, .s (.ptr 0 0 none 0), .s (.i .i64 (z.1))]) ([.cells 49 [.arr .i8 81 (z.2.1), .arr .i8 16 (z.2.2.1), .one [.i .i8 (z.2.2.2.1)], .rows [.i .u64, .i .u64] 32 (z.2.2.2.2.1), .rows [.i .u64, .i .u64] 2 (z.2.2.2.2.2)]]))
 | _, _ => none
def qNh : HL := fun vs objs K => match vs, objs with
 | [.s (.ptr 0 0 none 0), .s (.i .i64 x0)], [.cells 49 [.arr .i8 81 x1, .arr .i8 16 x2, .one [.i .i8 x3], .rows [.i .u64, .i .u64] 32 x4, .rows [.i .u64, .i .u64] 2 x5]] => ob (qE1 qC x0 x1 x2 x3 x4 x5) fun t0 => sw t0 (fun y0 => K (.ret) ([.s (.i .i64 y0)]) ([])) (fun _ => K (.exit 2) ([.s .bad]) ([]))
 | _, _ => none
def qe3 : {R : Type} -> Nat -> List V -> List Obj -> (Ex -> List V -> List Obj -> Option R) -> Option R := fun q vs objs K => bif Nat.beq q 2 then qNg vs objs K else bif Nat.beq q 12 then qNf vs objs K else bif Nat.beq q 9 then qNh vs objs K else none
def qEx : Ctx := mkC 36 ((qL7 (qFj (qQ4 (qF2 (qIh (qMQ qL))))))) [(2, [1, 9, 10], [1, 2]), (9, [5, 20], [2]), (12, [5, 6, 20, 23], [2, 5, 20])] qe3
theorem qKO : CtxOK Tryz.prog qEx := mkC_ok ((qQz _ (qGT _ (qbN _ (qGt _ (qKJ _ (qRQ _ qN)))))))
def qNc (f : Nat) (x0 : LI) (x1 : Int) (x2 x3 : LI) (x4 : Int) : Option ((Int × LI × LI × Int) ⊕ (LI × LI × Int)) := qh qEx 0 [1, 9, 10] [1, 2] (qG Tryz.f73 2) f ([.s (.ptr 0 0 none 0), .agg [.arr .i8 81 x0], .s (.i .i64 x1)]) ([.cells 28 [.arr .i8 81 x2, .arr .i8 16 x3, .one [.i .i8 x4]]]) qNb
theorem qe1 (f : Nat) (x0 : LI) (x1 : Int) (x2 x3 : LI) (x4 : Int) : qNc (f + 1) x0 x1 x2 x3 x4 = qGw (qNc f) x0 x1 x2 x3 x4 := by kernel_rfl
theorem qTX : ∀ f, qNc f = qE0 f
 | 0 => rfl
 | f + 1 => by funext x0 x1 x2 x3 x4; rw [qe1, qTX f]; rfl
def qNa (f : Nat) (x0 x1 x2 : Int) (x3 x4 : LI) (x5 : Int) (x6 x7 : LL) : Option ((Int × Int × LI × LI × Int × LL × LL) ⊕ (Int × LI × LI × Int × LL × LL)) := qh qEx 0 [5, 6, 20, 23] [2, 5, 20] (qG Tryz.f73 12) f ([.s (.ptr 0 0 none 0), .s (.i .i64 x0), .s (.i .i64 x1), .s (.i .i64 x2)]) ([.cells 49 [.arr .i8 81 x3, .arr .i8 16 x4, .one [.i .i8 x5], .rows [.i .u64, .i .u64] 32 x6, .rows [.i .u64, .i .u64] 2 x7]]) qNZ
theorem qe0 (f : Nat) (x0 x1 x2 : Int) (x3 x4 : LI) (x5 : Int) (x6 x7 : LL) : qNa (f + 1) x0 x1 x2 x3 x4 x5 x6 x7 = qEz (qNa f) x0 x1 x2 x3 x4 x5 x6 x7 := by kernel_rfl
theorem qTW : ∀ f, qNa f = qEy f
 | 0 => rfl
 | f + 1 => by funext x0 x1 x2 x3 x4 x5 x6 x7; rw [qe0, qTW f]; rfl
def qNe (f : Nat) (x0 : Int) (x1 x2 : LI) (x3 : Int) (x4 x5 : LL) : Option ((Int) ⊕ (Unit)) := qh qEx 0 [5, 20] [2] (qG Tryz.f73 9) f ([.s (.ptr 0 0 none 0), .s (.i .i64 x0)]) ([.cells 49 [.arr .i8 81 x1, .arr .i8 16 x2, .one [.i .i8 x3], .rows [.i .u64, .i .u64] 32 x4, .rows [.i .u64, .i .u64] 2 x5]]) qNd
theorem qe2 (f : Nat) (x0 : Int) (x1 x2 : LI) (x3 : Int) (x4 x5 : LL) : qNe (f + 1) x0 x1 x2 x3 x4 x5 = qGx (qNe f) x0 x1 x2 x3 x4 x5 := by kernel_rfl
theorem qTY : ∀ f, qNe f = qE1 f
 | 0 => rfl
 | f + 1 => by funext x0 x1 x2 x3 x4 x5; rw [qe2, qTY f]; rfl
theorem qe6 : qf Tryz.prog qEx 0 (qG Tryz.f73 2) :=
 ql mixed qKO (qT.of (l' := []) (by kernel_rfl) trivial) (q := 2) (kin := [1, 9, 10]) (kout := [1, 2]) (by kernel_rfl) (by kernel_rfl) fun vs objs K r h => by
  replace h : qNg vs objs K = some r := h
  unfold qNg at h
  split at h
  ·skip
   obtain ⟨t, h1, h2⟩ := qE h
   rw [<- qTX] at h1
   refine ⟨_, qNb, t, qC, h1, fun e vs' objs' hd => ?_⟩
   unfold qNb at hd
   split at hd
   ·skip
    cases hd
    exact h2
   ·skip
    cases hd
    exact h2
   ·cases hd
  ·cases h
theorem qe5 : qf Tryz.prog qEx 0 (qG Tryz.f73 12) :=
 ql mixed qKO (qT.of (l' := []) (by kernel_rfl) trivial) (q := 12) (kin := [5, 6, 20, 23]) (kout := [2, 5, 20]) (by kernel_rfl) (by kernel_rfl) fun vs objs K r h => by
  replace h : qNf vs objs K = some r := h
  unfold qNf at h
  split at h
  ·skip
   obtain ⟨t, h1, h2⟩ := qE h
   rw [<- qTW] at h1
   refine ⟨_, qNZ, t, qC, h1, fun e vs' objs' hd => ?_⟩
   unfold qNZ at hd
   split at hd
   ·skip
    cases hd
    exact h2
   ·skip
    cases hd
    exact h2
   ·cases hd
  ·cases h
theorem qe7 : qf Tryz.prog qEx 0 (qG Tryz.f73 9) :=
 ql mixed qKO (qT.of (l' := [qG Tryz.f73 12]) (by kernel_rfl) ⟨qe5, trivial⟩) (q := 9) (kin := [5, 20]) (kout := [2]) (by kernel_rfl) (by kernel_rfl) fun vs objs K r h => by
  replace h : qNh vs objs K = some r := h
  unfold qNh at h
  split at h
  ·skip
   obtain ⟨t, h1, h2⟩ := qE h
   rw [<- qTY] at h1
   refine ⟨_, qNd, t, qC, h1, fun e vs' objs' hd => ?_⟩
   unfold qNd at hd
   split at hd
   ·skip
    cases hd
    exact h2
   ·skip
    cases hd
    exact h2
   ·cases hd
  ·cases h
def qTV : V -> List Obj -> Option (Int) := fun v objs => match v, objs with
 | .s (.i .i64 y0), [] => some (y0)
 | _, _ => none
theorem qez (x0 x1 : LI) (x2 : Int) : fnE qEx Tryz.f73 ([.agg [.arr .i8 81 x0, .arr .i8 16 x1, .one [.i .i8 x2]]]) ([]) qTV = qF5 x0 x1 x2 := by kernel_rfl
def qTU : HA := fun o vs objs K => match vs, objs with
 | [.agg [.arr .i8 81 x0, .arr .i8 16 x1, .one [.i .i8 x2]]], [] => ob (qF5 x0 x1 x2) fun y0 => K false (.s (.i .i64 y0)) ([])
 | _, _ => o 73 vs objs K
def qTZ (o : Orc) : Orc := qM 73 (qTU o) o
theorem qe4 : OQ Tryz.prog qTZ := fun _ ho => qP ho fun vs objs K r h => by
 unfold qTU at h
 split at h
 ·skip
  obtain ⟨t, h1, h2⟩ := qE h
  refine qAY mixed qKO (fn := Tryz.f73) (b := (Tryz.f73).body.getD .skip) (by kernel_rfl) (by kernel_rfl) (by kernel_rfl) ((qez _ _ _).trans h1) (m := 0) rfl (qT.of (l' := [qG Tryz.f73 2, qG Tryz.f73 9]) (by kernel_rfl) ⟨qe6, qe7, trivial⟩) fun v objs' hd => ?_
  unfold qTV at hd;split at hd;(cases hd;exact h2);cases hd
 ·exact ho _ _ _ _ _ h
def qNF : Ex -> List V -> List Obj -> Option ((Int × LI × LI × Int × LI × LI) ⊕ (LI × LI × Int × LI × LI)) := fun e vs objs => match e, vs, objs with
 | .ret, [.s (.ptr 0 0 none 0), .s (.i .i64 y0), .s (.ptr 1 0 none 0), .s (.ptr 2 0 none 0)], [.cells 28 [.arr .i8 81 y1, .arr .i8 16 y2, .one [.i .i8 y3]], .cells 72 [.arr .i64 9 y4], .cells 105 [.arr .i64 2 y5]] => some (.inl (y0, y1, y2, y3, y4, y5))
 | .exit 0, [.s (.ptr 0 0 none 0), .s .bad, .s (.ptr 1 0 none 0), .s (.ptr 2 0 none 0)], [.cells 28 [.arr .i8 81 y0, .arr .i8 16 y1, .one [.i .i8 y2]], .cells 72 [.arr .i64 9 y3], .cells 105 [.arr .i64 2 y4]] => some (.inr (y0, y1, y2, y3, y4))
 | _, _, _ => none
def qNB : Ex -> List V -> List Obj -> Option ((Int × LI × Int × LI × LI × Int × LI × LI) ⊕ (LI × Int × LI × LI × Int × LI × LI)) := fun e vs objs => match e, vs, objs with
 | .ret, [.s (.ptr 0 0 none 0), .s (.i .i64 y0), .s (.ptr 1 0 none 0), .s (.ptr 2 0 none 0), .agg [.arr .i8 16 y1], .s (.i .i64 y2)], [.cells 28 [.arr .i8 81 y3, .arr .i8 16 y4, .one [.i .i8 y5]], .cells 72 [.arr .i64 9 y6], .cells 105 [.arr .i64 2 y7]] => some (.inl (y0, y1, y2, y3, y4, y5, y6, y7))
 | .exit 9, [.s (.ptr 0 0 none 0), .s .bad, .s (.ptr 1 0 none 0), .s (.ptr 2 0 none 0), .agg [.arr .i8 16 y0], .s (.i .i64 y1)], [.cells 28 [.arr .i8 81 y2, .arr .i8 16 y3, .one [.i .i8 y4]], .cells 72 [.arr .i64 9 y5], .cells 105 [.arr .i64 2 y6]] => some (.inr (y0, y1, y2, y3, y4, y5, y6))
 | _, _, _ => none
def qM9 : Ex -> List V -> List Obj -> Option ((Int × LI × LI × Int × LI × LI) ⊕ (LI × LI × Int × LI × LI)) := fun e vs objs => match e, vs, objs with
 | .ret, [.s (.ptr 0 0 none 0), .s (.i .i64 y0), .s (.ptr 1 0 none 0), .s (.ptr 2 0 none 0)], [.cells 28 [.arr .i8 81 y1, .arr .i8 16 y2, .one [.i .i8 y3]], .cells 72 [.arr .i64 9 y4], .cells 105 [.arr .i64 2 y5]] => some (.inl (y0, y1, y2, y3, y4, y5))
 | .exit 7, [.s (.ptr 0 0 none 0), .s .bad, .s (.ptr 1 0 none 0), .s (.ptr 2 0 none 0)], [.cells 28 [.arr .i8 81 y0, .arr .i8 16 y1, .one [.i .i8 y2]], .cells 72 [.arr .i64 9 y3], .cells 105 [.arr .i64 2 y4]] => some (.inr (y0, y1, y2, y3, y4))
 | _, _, _ => none
def qND : Ex -> List V -> List Obj -> Option ((Int × LI × LI × Int) ⊕ (LI × LI × Int)) := fun e vs objs => match e, vs, objs with
 | .ret, [.s (.ptr 0 0 none 0), .s (.i .i64 y0)], [.cells 28 [.arr .i8 81 y1, .arr .i8 16 y2, .one [.i .i8 y3]]] => some (.inl (y0, y1, y2, y3))
 | .exit 11, [.s (.ptr 0 0 none 0), .s .bad], [.cells 28 [.arr .i8 81 y0, .arr .i8 16 y1, .one [.i .i8 y2]]] => some (.inr (y0, y1, y2))
 | _, _, _ => none
def qNK : HL := fun vs objs K => match vs, objs with
 | [.s (.ptr 0 0 none 0), .s (.ptr 1 0 none 0), .s (.ptr 2 0 none 0), .agg [.arr .i8 81 x0], .s (.i .i64 x1)], [.cells 28 [.arr .i8 81 x2, .arr .i8 16 x3, .one [.i .i8 x4]], .cells 72 [.arr .i64 9 x5], .cells 105 [.arr .i64 2 x6]] => ob (qCH qC x0 x1 x2 x3 x4 x5 x6) fun t0 => sw t0 (fun z => K (.ret) ([.s (.ptr 0 0 none 0), .s (.i .i64 (z.1)), .s (.ptr 1 0 none 0), .s (.ptr 2 0 none 0)]) ([.cells 28 [.arr .i8 81 (z.2.1), .arr .i8 16 (z.2.2.1), .one [.i .i8 (z.2.2.2.1)]], .cells 72 [.arr .i64 9 (z.2.2.2.2.1)], .cells 105 [.arr .i64 2 (z.2.2.2.2.2)]])) (fun z => K (.exit 0) ([.s (.ptr 0 0 none 0), .s .bad, .s (.ptr 1 0 none 0), .s (.ptr 2 0 none 0)]) ([.cells 28 [.arr .i8 81 (z.1), .arr .i8 16 (z.2.1), .one [.i .i8 (z.2.2.1)]], .cells 72 [.arr .i64 9 (z.2.2.2.1)], .cells 105 [.arr .i64 2 (z.2.2.2.2)]]))
 | _, _ => none
def qNI : HL := fun vs objs K => match vs, objs with
 | [.s (.ptr 0 0 none 0), .s (.ptr 1 0 none 0), .s (.ptr 2 0 none 0), .agg [.arr .i8 16 x0], .s (.i .i64 x1), .agg [.arr .i8 8 x2], .s (.i .i64 x3)], [.cells 28 [.arr .i8 81 x4, .arr .i8 16 x5, .one [.i .i8 x6]], .cells 72 [.arr .i64 9 x7], .cells 105 [.arr .i64 2 x8]] => ob (qCu qC x0 x1 x2 x3 x4 x5 x6 x7 x8) fun t0 => sw t0 (fun z => K (.ret) ([.s (.ptr 0 0 none 0), .s (.i .i64 (z.1)), .s (.ptr 1 0 none 0), .s (.ptr 2 0 none 0), .agg [.arr .i8 16 (z.2.1)], .s (.i .i64 (z.2.2.1))]) ([.cells 28 [.arr .i8 81 (z.2.2.2.1), .arr .i8 16 (z.2.2.2.2.1), .one [.i .i8 (z.2.2.2.2.2.1)]], .cells 72 [.arr .i64 9 (z.2.2.2.2.2.2.1)], .cells 105 [.arr .i64 2 (z.2.2.2.2.2.2.2)]])) (fun z => K (.exit 9) ([.s (.ptr 0 0 none 0), .s .bad, .s (.ptr 1 0 none 0), .s (.ptr 2 0 none 0), .agg [.arr .i8 16 (z.1)], .s (.i .i64 (z.2.1))]) ([.cells 28 [.arr .i8 81 (z.2.2.1), .arr .i8 16 (z.2.2.2.1), .one [.i .i8 (z.2.2.2.2.1)]], .cells 72 [.arr .i64 9 (z.2.2.2.2.2.1)], .cells 105 [.arr .i64 2 (z.2.2.2.2.2.2)]]))
 | _, _ => none
def qNH : HL := fun vs objs K => match vs, objs with
 | [.s (.ptr 0 0 none 0), .s (.ptr 1 0 none 0), .s (.ptr 2 0 none 0), .agg [.arr .i8 16 x0], .s (.i .i64 x1)], [.cells 28 [.arr .i8 81 x2, .arr .i8 16 x3, .one [.i .i8 x4]], .cells 72 [.arr .i64 9 x5], .cells 105 [.arr .i64 2 x6]] => ob (qCY qC x0 x1 x2 x3 x4 x5 x6) fun t0 => sw t0 (fun z => K (.ret) ([.s (.ptr 0 0 none 0), .s (.i .i64 (z.1)), .s (.ptr 1 0 none 0), .s (.ptr 2 0 none 0)]) ([.cells 28 [.arr .i8 81 (z.2.1), .arr .i8 16 (z.2.2.1), .one [.i .i8 (z.2.2.2.1)]], .cells 72 [.arr .i64 9 (z.2.2.2.2.1)], .cells 105 [.arr .i64 2 (z.2.2.2.2.2)]])) (fun z => K (.exit 7) ([.s (.ptr 0 0 none 0), .s .bad, .s (.ptr 1 0 none 0), .s (.ptr 2 0 none 0)]) ([.cells 28 [.arr .i8 81 (z.1), .arr .i8 16 (z.2.1), .one [.i .i8 (z.2.2.1)]], .cells 72 [.arr .i64 9 (z.2.2.2.1)], .cells 105 [.arr .i64 2 (z.2.2.2.2)]]))
 | _, _ => none
def qNJ : HL := fun vs objs K => match vs, objs with
 | [.s (.ptr 0 0 none 0), .s (.ptr 1 0 none 0), .s (.i .i64 x0)], [.cells 28 [.arr .i8 81 x1, .arr .i8 16 x2, .one [.i .i8 x3]], .cells 72 [.arr .i64 9 x4]] => ob (qDN qC x0 x1 x2 x3 x4) fun t0 => sw t0 (fun z => K (.ret) ([.s (.ptr 0 0 none 0), .s (.i .i64 (z.1))]) ([.cells 28 [.arr .i8 81 (z.2.1), .arr .i8 16 (z.2.2.1), .one [.i .i8 (z.2.2.2)]]])) (fun z => K (.exit 11) ([.s (.ptr 0 0 none 0), .s .bad]) ([.cells 28 [.arr .i8 81 (z.1), .arr .i8 16 (z.2.1), .one [.i .i8 (z.2.2)]]]))
 | _, _ => none
def qeQ : {R : Type} -> Nat -> List V -> List Obj -> (Ex -> List V -> List Obj -> Option R) -> Option R := fun q vs objs K => bif Nat.beq q 6 then qNK vs objs K else bif Nat.beq q 20 then qNI vs objs K else bif Nat.beq q 17 then qNH vs objs K else bif Nat.beq q 30 then qNJ vs objs K else none
def qDL : Ctx := mkC 98 ((qTZ (qX6 (qJJ (qDe (qCP qL)))))) [(6, [1, 3, 4, 22, 23], [1, 2, 3, 4]), (17, [1, 3, 4, 51, 52], [1, 2, 3, 4]), (20, [1, 3, 4, 51, 52, 55, 56], [1, 2, 3, 4, 51, 52]), (30, [1, 3, 12], [1, 2])] qeQ
theorem qIg : CtxOK Tryz.prog qDL := mkC_ok ((qe4 _ (qk3 _ (qLW _ (qEH _ (qCi _ qN))))))
def qNG (f : Nat) (x0 : LI) (x1 : Int) (x2 x3 : LI) (x4 : Int) (x5 x6 : LI) : Option ((Int × LI × LI × Int × LI × LI) ⊕ (LI × LI × Int × LI × LI)) := qh qDL 0 [1, 3, 4, 22, 23] [1, 2, 3, 4] (qG Tryz.f28 6) f ([.s (.ptr 0 0 none 0), .s (.ptr 1 0 none 0), .s (.ptr 2 0 none 0), .agg [.arr .i8 81 x0], .s (.i .i64 x1)]) ([.cells 28 [.arr .i8 81 x2, .arr .i8 16 x3, .one [.i .i8 x4]], .cells 72 [.arr .i64 9 x5], .cells 105 [.arr .i64 2 x6]]) qNF
theorem qeP (f : Nat) (x0 : LI) (x1 : Int) (x2 x3 : LI) (x4 : Int) (x5 x6 : LI) : qNG (f + 1) x0 x1 x2 x3 x4 x5 x6 = qEw (qNG f) x0 x1 x2 x3 x4 x5 x6 := by kernel_rfl
theorem qSp : ∀ f, qNG f = qCH f
 | 0 => rfl
 | f + 1 => by funext x0 x1 x2 x3 x4 x5 x6; rw [qeP, qSp f]; rfl
def qNC (f : Nat) (x0 : LI) (x1 : Int) (x2 : LI) (x3 : Int) (x4 x5 : LI) (x6 : Int) (x7 x8 : LI) : Option ((Int × LI × Int × LI × LI × Int × LI × LI) ⊕ (LI × Int × LI × LI × Int × LI × LI)) := qh qDL 0 [1, 3, 4, 51, 52, 55, 56] [1, 2, 3, 4, 51, 52] (qG Tryz.f28 20) f ([.s (.ptr 0 0 none 0), .s (.ptr 1 0 none 0), .s (.ptr 2 0 none 0), .agg [.arr .i8 16 x0], .s (.i .i64 x1), .agg [.arr .i8 8 x2], .s (.i .i64 x3)]) ([.cells 28 [.arr .i8 81 x4, .arr .i8 16 x5, .one [.i .i8 x6]], .cells 72 [.arr .i64 9 x7], .cells 105 [.arr .i64 2 x8]]) qNB
theorem qeN (f : Nat) (x0 : LI) (x1 : Int) (x2 : LI) (x3 : Int) (x4 x5 : LI) (x6 : Int) (x7 x8 : LI) : qNC (f + 1) x0 x1 x2 x3 x4 x5 x6 x7 x8 = qEv (qNC f) x0 x1 x2 x3 x4 x5 x6 x7 x8 := by kernel_rfl
theorem qSn : ∀ f, qNC f = qCu f
 | 0 => rfl
 | f + 1 => by funext x0 x1 x2 x3 x4 x5 x6 x7 x8; rw [qeN, qSn f]; rfl
def qNA (f : Nat) (x0 : LI) (x1 : Int) (x2 x3 : LI) (x4 : Int) (x5 x6 : LI) : Option ((Int × LI × LI × Int × LI × LI) ⊕ (LI × LI × Int × LI × LI)) := qh qDL 0 [1, 3, 4, 51, 52] [1, 2, 3, 4] (qG Tryz.f28 17) f ([.s (.ptr 0 0 none 0), .s (.ptr 1 0 none 0), .s (.ptr 2 0 none 0), .agg [.arr .i8 16 x0], .s (.i .i64 x1)]) ([.cells 28 [.arr .i8 81 x2, .arr .i8 16 x3, .one [.i .i8 x4]], .cells 72 [.arr .i64 9 x5], .cells 105 [.arr .i64 2 x6]]) qM9
theorem qeM (f : Nat) (x0 : LI) (x1 : Int) (x2 x3 : LI) (x4 : Int) (x5 x6 : LI) : qNA (f + 1) x0 x1 x2 x3 x4 x5 x6 = qDM (qNA f) x0 x1 x2 x3 x4 x5 x6 := by kernel_rfl
theorem qSm : ∀ f, qNA f = qCY f
 | 0 => rfl
 | f + 1 => by funext x0 x1 x2 x3 x4 x5 x6; rw [qeM, qSm f]; rfl
def qNE (f : Nat) (x0 : Int) (x1 x2 : LI) (x3 : Int) (x4 : LI) : Option ((Int × LI × LI × Int) ⊕ (LI × LI × Int)) := qh qDL 0 [1, 3, 12] [1, 2] (qG Tryz.f28 30) f ([.s (.ptr 0 0 none 0), .s (.ptr 1 0 none 0), .s (.i .i64 x0)]) ([.cells 28 [.arr .i8 81 x1, .arr .i8 16 x2, .one [.i .i8 x3]], .cells 72 [.arr .i64 9 x4]]) qND
theorem qeO (f : Nat) (x0 : Int) (x1 x2 : LI) (x3 : Int) (x4 : LI) : qNE (f + 1) x0 x1 x2 x3 x4 = qGr (qNE f) x0 x1 x2 x3 x4 := by kernel_rfl
theorem qSo : ∀ f, qNE f = qDN f
 | 0 => rfl
 | f + 1 => by funext x0 x1 x2 x3 x4; rw [qeO, qSo f]; rfl
theorem qeV : qf Tryz.prog qDL 0 (qG Tryz.f28 6) :=
 ql mixed qIg (qT.of (l' := []) (by kernel_rfl) trivial) (q := 6) (kin := [1, 3, 4, 22, 23]) (kout := [1, 2, 3, 4]) (by kernel_rfl) (by kernel_rfl) fun vs objs K r h => by
  replace h : qNK vs objs K = some r := h
  unfold qNK at h
  split at h
  ·skip
   obtain ⟨t, h1, h2⟩ := qE h
   rw [<- qSp] at h1
   refine ⟨_, qNF, t, qC, h1, fun e vs' objs' hd => ?_⟩
   unfold qNF at hd
   split at hd
   ·skip
    cases hd
    exact h2
   ·skip
    cases hd
    exact h2
   ·cases hd
  ·cases h
theorem qeT : qf Tryz.prog qDL 0 (qG Tryz.f28 20) :=
 ql mixed qIg (qT.of (l' := []) (by kernel_rfl) trivial) (q := 20) (kin := [1, 3, 4, 51, 52, 55, 56]) (kout := [1, 2, 3, 4, 51, 52]) (by kernel_rfl) (by kernel_rfl) fun vs objs K r h => by
  replace h : qNI vs objs K = some r := h
  unfold qNI at h
  split at h
  ·skip
   obtain ⟨t, h1, h2⟩ := qE h
   rw [<- qSn] at h1
   refine ⟨_, qNB, t, qC, h1, fun e vs' objs' hd => ?_⟩
   unfold qNB at hd
   split at hd
   ·skip
    cases hd
    exact h2
   ·skip
    cases hd
    exact h2
   ·cases hd
  ·cases h
theorem qeU : qf Tryz.prog qDL 0 (qG Tryz.f28 30) :=
 ql mixed qIg (qT.of (l' := []) (by kernel_rfl) trivial) (q := 30) (kin := [1, 3, 12]) (kout := [1, 2]) (by kernel_rfl) (by kernel_rfl) fun vs objs K r h => by
  replace h : qNJ vs objs K = some r := h
  unfold qNJ at h
  split at h
  ·skip
   obtain ⟨t, h1, h2⟩ := qE h
   rw [<- qSo] at h1
   refine ⟨_, qND, t, qC, h1, fun e vs' objs' hd => ?_⟩
   unfold qND at hd
   split at hd
   ·skip
    cases hd
    exact h2
   ·skip
    cases hd
    exact h2
   ·cases hd
  ·cases h
theorem qeS : qf Tryz.prog qDL 0 (qG Tryz.f28 17) :=
 ql mixed qIg (qT.of (l' := [qG Tryz.f28 20]) (by kernel_rfl) ⟨qeT, trivial⟩) (q := 17) (kin := [1, 3, 4, 51, 52]) (kout := [1, 2, 3, 4]) (by kernel_rfl) (by kernel_rfl) fun vs objs K r h => by
  replace h : qNH vs objs K = some r := h
  unfold qNH at h
  split at h
  ·skip
   obtain ⟨t, h1, h2⟩ := qE h
   rw [<- qSm] at h1
   refine ⟨_, qM9, t, qC, h1, fun e vs' objs' hd => ?_⟩
   unfold qM9 at hd
   split at hd
   ·skip
    cases hd
    exact h2
   ·skip
    cases hd
    exact h2
   ·cases hd
  ·cases h
def qSl : V -> List Obj -> Option (Int) := fun v objs => match v, objs with
 | .s (.i .i64 y0), [] => some (y0)
 | _, _ => none
theorem qeL (x0 x1 : LI) (x2 : Int) : fnE qDL Tryz.f28 ([.agg [.arr .i8 81 x0, .arr .i8 16 x1, .one [.i .i8 x2]]]) ([]) qSl = qIf x0 x1 x2 := by kernel_rfl
def qSk : HA := fun o vs objs K => match vs, objs with
 | [.agg [.arr .i8 81 x0, .arr .i8 16 x1, .one [.i .i8 x2]]], [] => ob (qIf x0 x1 x2) fun y0 => K false (.s (.i .i64 y0)) ([])
 | _, _ => o 28 vs objs K
def qSq (o : Orc) : Orc := qM 28 (qSk o) o
theorem qeR : OQ Tryz.prog qSq := fun _ ho => qP ho fun vs objs K r h => by
 unfold qSk at h
 split at h
 ·skip
  obtain ⟨t, h1, h2⟩ := qE h
  refine qAY mixed qIg (fn := Tryz.f28) (b := (Tryz.f28).body.getD .skip) (by kernel_rfl) (by kernel_rfl) (by kernel_rfl) ((qeL _ _ _).trans h1) (m := 0) rfl (qT.of (l' := [qG Tryz.f28 6, qG Tryz.f28 17, qG Tryz.f28 30]) (by kernel_rfl) ⟨qeV, qeS, qeU, trivial⟩) fun v objs' hd => ?_
  unfold qSl at hd;split at hd;(cases hd;exact h2);cases hd
 ·exact ho _ _ _ _ _ h
def qSK : Ctx := mkC 10 ((qIE (qJ8 qL))) [] qV
theorem qdi : CtxOK Tryz.prog qSK := mkC_ok ((qJf _ (qMo _ qN)))
def qSL : V -> List Obj -> Option (Bool) := fun v objs => match v, objs with
 | .s (.b y0), [] => some (y0)
 | _, _ => none
theorem qdh (x0 : Int) (x1 x2 : LI) (x3 : Int) (x4 x5 : LL) : fnE qSK Tryz.f29 ([.s (.ptr 0 0 none 0), .s (.i .i64 x0)]) ([.rcells 49 [.arr .i8 81 x1, .arr .i8 16 x2, .one [.i .i8 x3], .rows [.i .u64, .i .u64] 32 x4, .rows [.i .u64, .i .u64] 2 x5]]) (qAa 1 qSL) = qIc x0 x1 x2 x3 x4 x5 := by kernel_rfl
def qSJ : HA := fun o vs objs K => match vs, List.map Obj.toRO objs with
 | [.s (.ptr 0 0 none 0), .s (.i .i64 x0)], [.rcells 49 [.arr .i8 81 x1, .arr .i8 16 x2, .one [.i .i8 x3], .rows [.i .u64, .i .u64] 32 x4, .rows [.i .u64, .i .u64] 2 x5]] => ob (qIc x0 x1 x2 x3 x4 x5) fun y0 => K true (.s (.b y0)) ([])
 | _, _ => o 29 vs objs K
def qSM (o : Orc) : Orc := qM 29 (qSJ o) o
theorem qdj : OQ Tryz.prog qSM := fun _ ho => qP ho fun vs objs K r h => by
 unfold qSJ at h
 split at h
 ·skip
  have hq : List.map Obj.toRO objs = _ := (by rename_i hq; first | exact hq | assumption)
  obtain ⟨t, h1, h2⟩ := qE h
  refine qAi mixed qdi (m := 1) (fn := Tryz.f29) (b := (Tryz.f29).body.getD .skip) (by kernel_rfl) (by kernel_rfl) (by kernel_rfl) hq (by kernel_rfl) (by kernel_rfl) (qT.of (l' := []) (by kernel_rfl) trivial) ((qdh _ _ _ _ _ _).trans h1) fun v objs' hd => ?_
  unfold qSL at hd;split at hd;(cases hd;exact h2);cases hd
 ·exact ho _ _ _ _ _ h
def qSD : Ctx := mkC 16 ((qSM (qIh (qSq qL)))) [] qV
theorem qdd : CtxOK Tryz.prog qSD := mkC_ok ((qdj _ (qKJ _ (qeR _ qN))))
def qSE : V -> List Obj -> Option (Int) := fun v objs => match v, objs with
 | .s (.i .i64 y0), [] => some (y0)
 | _, _ => none
theorem qdc (x0 x1 : LI) (x2 : Int) : fnE qSD Tryz.f7 ([.agg [.arr .i8 81 x0, .arr .i8 16 x1, .one [.i .i8 x2]]]) ([]) qSE = qDw x0 x1 x2 := by kernel_rfl
def qSC : HA := fun o vs objs K => match vs, objs with
 | [.agg [.arr .i8 81 x0, .arr .i8 16 x1, .one [.i .i8 x2]]], [] => ob (qDw x0 x1 x2) fun y0 => K false (.s (.i .i64 y0)) ([])
 | _, _ => o 7 vs objs K
def qSI (o : Orc) : Orc := qM 7 (qSC o) o
theorem qdg : OQ Tryz.prog qSI := fun _ ho => qP ho fun vs objs K r h => by
 unfold qSC at h
 split at h
 ·skip
  obtain ⟨t, h1, h2⟩ := qE h
  refine qc mixed qdd ((qdc _ _ _).trans h1) (by kernel_rfl) fun v objs' hd => ?_
  unfold qSE at hd;split at hd;(cases hd;exact h2);cases hd
 ·exact ho _ _ _ _ _ h
def qV2 : Ctx := mkC 19 (qL) [] qV
theorem qh6 : CtxOK Tryz.prog qV2 := mkC_ok (qN)
def qV3 : V -> List Obj -> Option (Int) := fun v objs => match v, objs with
 | .s (.i .u64 y0), [] => some (y0)
 | _, _ => none
theorem qh5 (x0 : Int) : fnE qV2 Tryz.f84 ([.s (.i .u64 x0)]) ([]) qV3 = qDa x0 := by kernel_rfl
def qV1 : HA := fun o vs objs K => match vs, objs with
 | [.s (.i .u64 x0)], [] => ob (qDa x0) fun y0 => K false (.s (.i .u64 y0)) ([])
 | _, _ => o 84 vs objs K
def qKv (o : Orc) : Orc := qM 84 (qV1 o) o
theorem qOl : OQ Tryz.prog qKv := fun _ ho => qP ho fun vs objs K r h => by
 unfold qV1 at h
 split at h
 ·skip
  obtain ⟨t, h1, h2⟩ := qE h
  refine qc mixed qh6 ((qh5 _).trans h1) (by kernel_rfl) fun v objs' hd => ?_
  unfold qV3 at hd;split at hd;(cases hd;exact h2);cases hd
 ·exact ho _ _ _ _ _ h
def qVr : Ctx := mkC 23 ((qKv (qCP qL))) [] qV
theorem qh2 : CtxOK Tryz.prog qVr := mkC_ok ((qOl _ (qCi _ qN)))
def qVs : V -> List Obj -> Option (Int) := fun v objs => match v, objs with
 | .s (.i .u64 y0), [] => some (y0)
 | _, _ => none
theorem qh1 (x0 x1 : Int) : fnE qVr Tryz.f46 ([.s (.i .i64 x0), .s (.i .i8 x1)]) ([]) qVs = qB6 x0 x1 := by kernel_rfl
def qVq : HA := fun o vs objs K => match vs, objs with
 | [.s (.i .i64 x0), .s (.i .i8 x1)], [] => ob (qB6 x0 x1) fun y0 => K false (.s (.i .u64 y0)) ([])
 | _, _ => o 46 vs objs K
def qOj (o : Orc) : Orc := qM 46 (qVq o) o
theorem qVt : OQ Tryz.prog qOj := fun _ ho => qP ho fun vs objs K r h => by
 unfold qVq at h
 split at h
 ·skip
  obtain ⟨t, h1, h2⟩ := qE h
  refine qc mixed qh2 ((qh1 _ _).trans h1) (by kernel_rfl) fun v objs' hd => ?_
  unfold qVs at hd;split at hd;(cases hd;exact h2);cases hd
 ·exact ho _ _ _ _ _ h
def qVh : Ctx := mkC 41 ((qKv qL)) [] qV
theorem qhs : CtxOK Tryz.prog qVh := mkC_ok ((qOl _ qN))
def qVi : V -> List Obj -> Option (Int) := fun v objs => match v, objs with
 | .s (.i .u64 y0), [] => some (y0)
 | _, _ => none
theorem qhr (x0 x1 x2 : Int) : fnE qVh Tryz.f47 ([.s (.i .i64 x0), .s (.i .i64 x1), .s (.i .i64 x2)]) ([]) qVi = qCe x0 x1 x2 := by kernel_rfl
def qVg : HA := fun o vs objs K => match vs, objs with
 | [.s (.i .i64 x0), .s (.i .i64 x1), .s (.i .i64 x2)], [] => ob (qCe x0 x1 x2) fun y0 => K false (.s (.i .u64 y0)) ([])
 | _, _ => o 47 vs objs K
def qOY (o : Orc) : Orc := qM 47 (qVg o) o
theorem qVj : OQ Tryz.prog qOY := fun _ ho => qP ho fun vs objs K r h => by
 unfold qVg at h
 split at h
 ·skip
  obtain ⟨t, h1, h2⟩ := qE h
  refine qc mixed qhs ((qhr _ _ _).trans h1) (by kernel_rfl) fun v objs' hd => ?_
  unfold qVi at hd;split at hd;(cases hd;exact h2);cases hd
 ·exact ho _ _ _ _ _ h
def qVv : Ctx := mkC 2 ((qKv qL)) [] qV
theorem qh4 : CtxOK Tryz.prog qVv := mkC_ok ((qOl _ qN))
def qVw : V -> List Obj -> Option (Int) := fun v objs => match v, objs with
 | .s (.i .u64 y0), [] => some (y0)
 | _, _ => none
theorem qh3 : fnE qVv Tryz.f48 ([]) ([]) qVw = qCg  := by kernel_rfl
def qVu : HA := fun o vs objs K => match vs, objs with
 | [], [] => ob (qCg ) fun y0 => K false (.s (.i .u64 y0)) ([])
 | _, _ => o 48 vs objs K
def qOk (o : Orc) : Orc := qM 48 (qVu o) o
theorem qVx : OQ Tryz.prog qOk := fun _ ho => qP ho fun vs objs K r h => by
 unfold qVu at h
 split at h
 ·skip
  obtain ⟨t, h1, h2⟩ := qE h
  refine qc mixed qh4 ((qh3).trans h1) (by kernel_rfl) fun v objs' hd => ?_
  unfold qVw at hd;split at hd;(cases hd;exact h2);cases hd
 ·exact ho _ _ _ _ _ h
def qOb : Ex -> List V -> List Obj -> Option (Int × LI × LI × Int) := fun e vs objs => match e, vs, objs with
 | .exit 0, [.s (.ptr 0 0 none 0), .s (.i .u64 y0)], [.cells 28 [.arr .i8 81 y1, .arr .i8 16 y2, .one [.i .i8 y3]]] => some (y0, y1, y2, y3)
 | _, _, _ => none
def qOZ : Ex -> List V -> List Obj -> Option (Int × LI × Int × LI × LI × Int) := fun e vs objs => match e, vs, objs with
 | .exit 4, [.s (.ptr 0 0 none 0), .s (.i .u64 y0), .agg [.arr .i8 16 y1], .s (.i .i64 y2)], [.cells 28 [.arr .i8 81 y3, .arr .i8 16 y4, .one [.i .i8 y5]]] => some (y0, y1, y2, y3, y4, y5)
 | _, _, _ => none
def qOd : Ex -> List V -> List Obj -> Option (Int × LI × LI × Int) := fun e vs objs => match e, vs, objs with
 | .exit 2, [.s (.ptr 0 0 none 0), .s (.i .u64 y0)], [.cells 28 [.arr .i8 81 y1, .arr .i8 16 y2, .one [.i .i8 y3]]] => some (y0, y1, y2, y3)
 | _, _, _ => none
def qOh : HL := fun vs objs K => match vs, objs with
 | [.s (.ptr 0 0 none 0), .s (.i .u64 x0), .agg [.arr .i8 81 x1], .s (.i .i64 x2)], [.cells 28 [.arr .i8 81 x3, .arr .i8 16 x4, .one [.i .i8 x5]]] => ob (qCL qC x0 x1 x2 x3 x4 x5) fun z => K (.exit 0) ([.s (.ptr 0 0 none 0), .s (.i .u64 (z.1))]) ([.cells 28 [.arr .i8 81 (z.2.1), .arr .i8 16 (z.2.2.1), .one [.i .i8 (z.2.2.2)]]])
 | _, _ => none
def qOg : HL := fun vs objs K => match vs, objs with
 | [.s (.ptr 0 0 none 0), .s (.i .u64 x0), .s (.i .i64 x1), .agg [.arr .i8 16 x2], .s (.i .i64 x3), .agg [.arr .i8 8 x4], .s (.i .i64 x5)], [.cells 28 [.arr .i8 81 x6, .arr .i8 16 x7, .one [.i .i8 x8]]] => ob (qCf qC x0 x1 x2 x3 x4 x5 x6 x7 x8) fun z => K (.exit 4) ([.s (.ptr 0 0 none 0), .s (.i .u64 (z.1)), .agg [.arr .i8 16 (z.2.1)], .s (.i .i64 (z.2.2.1))]) ([.cells 28 [.arr .i8 81 (z.2.2.2.1), .arr .i8 16 (z.2.2.2.2.1), .one [.i .i8 (z.2.2.2.2.2)]]])
 | _, _ => none
def qOi : HL := fun vs objs K => match vs, objs with
 | [.s (.ptr 0 0 none 0), .s (.i .u64 x0), .agg [.arr .i8 16 x1], .s (.i .i64 x2)], [.cells 28 [.arr .i8 81 x3, .arr .i8 16 x4, .one [.i .i8 x5]]] => ob (qBp qC x0 x1 x2 x3 x4 x5) fun z => K (.exit 2) ([.s (.ptr 0 0 none 0), .s (.i .u64 (z.1))]) ([.cells 28 [.arr .i8 81 (z.2.1), .arr .i8 16 (z.2.2.1), .one [.i .i8 (z.2.2.2)]]])
 | _, _ => none
def qhx : {R : Type} -> Nat -> List V -> List Obj -> (Ex -> List V -> List Obj -> Option R) -> Option R := fun q vs objs K => bif Nat.beq q 3 then qOh vs objs K else bif Nat.beq q 11 then qOg vs objs K else bif Nat.beq q 8 then qOi vs objs K else none
def qFH : Ctx := mkC 49 ((qOk (qOY (qOj qL)))) [(3, [1, 3, 11, 12], [1, 3]), (8, [1, 3, 23, 24], [1, 3]), (11, [1, 3, 6, 23, 24, 28, 29], [1, 3, 23, 24])] qhx
theorem qKu : CtxOK Tryz.prog qFH := mkC_ok ((qVx _ (qVj _ (qVt _ qN))))
def qOc (f : Nat) (x0 : Int) (x1 : LI) (x2 : Int) (x3 x4 : LI) (x5 : Int) : Option (Int × LI × LI × Int) := qh qFH 0 [1, 3, 11, 12] [1, 3] (qG Tryz.f14 3) f ([.s (.ptr 0 0 none 0), .s (.i .u64 x0), .agg [.arr .i8 81 x1], .s (.i .i64 x2)]) ([.cells 28 [.arr .i8 81 x3, .arr .i8 16 x4, .one [.i .i8 x5]]]) qOb
theorem qhv (f : Nat) (x0 : Int) (x1 : LI) (x2 : Int) (x3 x4 : LI) (x5 : Int) : qOc (f + 1) x0 x1 x2 x3 x4 x5 = qDY (qOc f) x0 x1 x2 x3 x4 x5 := by kernel_rfl
theorem qVn : ∀ f, qOc f = qCL f
 | 0 => rfl
 | f + 1 => by funext x0 x1 x2 x3 x4 x5; rw [qhv, qVn f]; rfl
def qOa (f : Nat) (x0 x1 : Int) (x2 : LI) (x3 : Int) (x4 : LI) (x5 : Int) (x6 x7 : LI) (x8 : Int) : Option (Int × LI × Int × LI × LI × Int) := qh qFH 0 [1, 3, 6, 23, 24, 28, 29] [1, 3, 23, 24] (qG Tryz.f14 11) f ([.s (.ptr 0 0 none 0), .s (.i .u64 x0), .s (.i .i64 x1), .agg [.arr .i8 16 x2], .s (.i .i64 x3), .agg [.arr .i8 8 x4], .s (.i .i64 x5)]) ([.cells 28 [.arr .i8 81 x6, .arr .i8 16 x7, .one [.i .i8 x8]]]) qOZ
theorem qhu (f : Nat) (x0 x1 : Int) (x2 : LI) (x3 : Int) (x4 : LI) (x5 : Int) (x6 x7 : LI) (x8 : Int) : qOa (f + 1) x0 x1 x2 x3 x4 x5 x6 x7 x8 = qDX (qOa f) x0 x1 x2 x3 x4 x5 x6 x7 x8 := by kernel_rfl
theorem qVm : ∀ f, qOa f = qCf f
 | 0 => rfl
 | f + 1 => by funext x0 x1 x2 x3 x4 x5 x6 x7 x8; rw [qhu, qVm f]; rfl
def qOe (f : Nat) (x0 : Int) (x1 : LI) (x2 : Int) (x3 x4 : LI) (x5 : Int) : Option (Int × LI × LI × Int) := qh qFH 0 [1, 3, 23, 24] [1, 3] (qG Tryz.f14 8) f ([.s (.ptr 0 0 none 0), .s (.i .u64 x0), .agg [.arr .i8 16 x1], .s (.i .i64 x2)]) ([.cells 28 [.arr .i8 81 x3, .arr .i8 16 x4, .one [.i .i8 x5]]]) qOd
theorem qhw (f : Nat) (x0 : Int) (x1 : LI) (x2 : Int) (x3 x4 : LI) (x5 : Int) : qOe (f + 1) x0 x1 x2 x3 x4 x5 = qDZ (qOe f) x0 x1 x2 x3 x4 x5 := by kernel_rfl
theorem qVo : ∀ f, qOe f = qBp f
 | 0 => rfl
 | f + 1 => by funext x0 x1 x2 x3 x4 x5; rw [qhw, qVo f]; rfl
theorem qhz : qf Tryz.prog qFH 0 (qG Tryz.f14 3) :=
 ql mixed qKu (qT.of (l' := []) (by kernel_rfl) trivial) (q := 3) (kin := [1, 3, 11, 12]) (kout := [1, 3]) (by kernel_rfl) (by kernel_rfl) fun vs objs K r h => by
  replace h : qOh vs objs K = some r := h
  unfold qOh at h
  split at h
  ·skip
   obtain ⟨t, h1, h2⟩ := qE h
   rw [<- qVn] at h1
   refine ⟨_, qOb, t, qC, h1, fun e vs' objs' hd => ?_⟩
   unfold qOb at hd;split at hd;(cases hd;exact h2);cases hd
  ·cases h
theorem qhy : qf Tryz.prog qFH 0 (qG Tryz.f14 11) :=
 ql mixed qKu (qT.of (l' := []) (by kernel_rfl) trivial) (q := 11) (kin := [1, 3, 6, 23, 24, 28, 29]) (kout := [1, 3, 23, 24]) (by kernel_rfl) (by kernel_rfl) fun vs objs K r h => by
  replace h : qOg vs objs K = some r := h
  unfold qOg at h
  split at h
  ·skip
   obtain ⟨t, h1, h2⟩ := qE h
   rw [<- qVm] at h1
   refine ⟨_, qOZ, t, qC, h1, fun e vs' objs' hd => ?_⟩
   unfold qOZ at hd;split at hd;(cases hd;exact h2);cases hd
  ·cases h
theorem qh0 : qf Tryz.prog qFH 0 (qG Tryz.f14 8) :=
 ql mixed qKu (qT.of (l' := [qG Tryz.f14 11]) (by kernel_rfl) ⟨qhy, trivial⟩) (q := 8) (kin := [1, 3, 23, 24]) (kout := [1, 3]) (by kernel_rfl) (by kernel_rfl) fun vs objs K r h => by
  replace h : qOi vs objs K = some r := h
  unfold qOi at h
  split at h
  ·skip
   obtain ⟨t, h1, h2⟩ := qE h
   rw [<- qVo] at h1
   refine ⟨_, qOd, t, qC, h1, fun e vs' objs' hd => ?_⟩
   unfold qOd at hd;split at hd;(cases hd;exact h2);cases hd
  ·cases h
def qVl : V -> List Obj -> Option (Int) := fun v objs => match v, objs with
 | .s (.i .u64 y0), [] => some (y0)
 | _, _ => none
theorem qht (x0 x1 : LI) (x2 : Int) : fnE qFH Tryz.f14 ([.agg [.arr .i8 81 x0, .arr .i8 16 x1, .one [.i .i8 x2]]]) ([]) qVl = qC1 x0 x1 x2 := by kernel_rfl
def qVk : HA := fun o vs objs K => match vs, objs with
 | [.agg [.arr .i8 81 x0, .arr .i8 16 x1, .one [.i .i8 x2]]], [] => ob (qC1 x0 x1 x2) fun y0 => K false (.s (.i .u64 y0)) ([])
 | _, _ => o 14 vs objs K
def qOf (o : Orc) : Orc := qM 14 (qVk o) o
theorem qVp : OQ Tryz.prog qOf := fun _ ho => qP ho fun vs objs K r h => by
 unfold qVk at h
 split at h
 ·skip
  obtain ⟨t, h1, h2⟩ := qE h
  refine qAY mixed qKu (fn := Tryz.f14) (b := (Tryz.f14).body.getD .skip) (by kernel_rfl) (by kernel_rfl) (by kernel_rfl) ((qht _ _ _).trans h1) (m := 0) rfl (qT.of (l' := [qG Tryz.f14 3, qG Tryz.f14 8]) (by kernel_rfl) ⟨qhz, qh0, trivial⟩) fun v objs' hd => ?_
  unfold qVl at hd;split at hd;(cases hd;exact h2);cases hd
 ·exact ho _ _ _ _ _ h
def qUX : Ctx := mkC 14 ((qOf (qIh qL))) [] qV
theorem qgM : CtxOK Tryz.prog qUX := mkC_ok ((qVp _ (qKJ _ qN)))
def qUY : V -> List Obj -> Option (Int × Nat × LI × LI × Int × LL × LL × Nat × LL) := fun v objs => match v, objs with
 | .s (.ptr 0 0 none 0), [.cells 43 [.one [.ptr 1 0 none 0, .i .u64 y0, .sl 2 0 y1 true]], .cells 49 [.arr .i8 81 y2, .arr .i8 16 y3, .one [.i .i8 y4], .rows [.i .u64, .i .u64] 32 y5, .rows [.i .u64, .i .u64] 2 y6], .sli 87 false (.rows [.i .i64, .i .i64, .i .i64, .b, .i .i8, .i .i8] y7 y8)] => some (y0, y1, y2, y3, y4, y5, y6, y7, y8)
 | _, _ => none
theorem qgL (x0 x1 : LI) (x2 : Int) : fnE qUX Tryz.f8 ([.agg [.arr .i8 81 x0, .arr .i8 16 x1, .one [.i .i8 x2]]]) ([]) qUY = qIv x0 x1 x2 := by kernel_rfl
def qUW : HA := fun o vs objs K => match vs, objs with
 | [.agg [.arr .i8 81 x0, .arr .i8 16 x1, .one [.i .i8 x2]]], [] => ob (qIv x0 x1 x2) fun z => K false (.s (.ptr 0 0 none 0)) ([.cells 43 [.one [.ptr 1 0 none 0, .i .u64 (z.1), .sl 2 0 (z.2.1) true]], .cells 49 [.arr .i8 81 (z.2.2.1), .arr .i8 16 (z.2.2.2.1), .one [.i .i8 (z.2.2.2.2.1)], .rows [.i .u64, .i .u64] 32 (z.2.2.2.2.2.1), .rows [.i .u64, .i .u64] 2 (z.2.2.2.2.2.2.1)], .sli 87 false (.rows [.i .i64, .i .i64, .i .i64, .b, .i .i8, .i .i8] (z.2.2.2.2.2.2.2.1) (z.2.2.2.2.2.2.2.2))])
 | _, _ => o 8 vs objs K
def qUZ (o : Orc) : Orc := qM 8 (qUW o) o
theorem qgN : OQ Tryz.prog qUZ := fun _ ho => qP ho fun vs objs K r h => by
 unfold qUW at h
 split at h
 ·skip
  obtain ⟨t, h1, h2⟩ := qE h
  refine qc mixed qgM ((qgL _ _ _).trans h1) (by kernel_rfl) fun v objs' hd => ?_
  unfold qUY at hd;split at hd;(cases hd;exact h2);cases hd
 ·exact ho _ _ _ _ _ h
def qQD : Ex -> List V -> List Obj -> Option (List Bool × List Bool) := fun e vs objs => match e, vs, objs with
 | .exit 0, [.s (.ptr 0 0 none 0), .s (.ptr 1 0 none 0)], [.cells 106 [Seg.barr 81 y0], .cells 106 [Seg.barr 81 y1]] => some (y0, y1)
 | _, _, _ => none
def qQG : HL := fun vs objs K => match vs, objs with
 | [.s (.ptr 0 0 none 0), .s (.ptr 1 0 none 0), .s (.ptr 2 0 none 0), .s (.i .i64 x0)], [.cells 28 [.arr .i8 81 x1, .arr .i8 16 x2, .one [.i .i8 x3]], .cells 106 [Seg.barr 81 x4], .cells 106 [Seg.barr 81 x5]] => ob (qEU qC x0 x1 x2 x3 x4 x5) fun z => K (.exit 0) ([.s (.ptr 0 0 none 0), .s (.ptr 1 0 none 0)]) ([.cells 106 [Seg.barr 81 (z.1)], .cells 106 [Seg.barr 81 (z.2)]])
 | _, _ => none
def qmV : {R : Type} -> Nat -> List V -> List Obj -> (Ex -> List V -> List Obj -> Option R) -> Option R := fun q vs objs K => bif Nat.beq q 3 then qQG vs objs K else none
def qLr : Ctx := mkC 18 (qL) [(3, [1, 2, 3, 4], [2, 3])] qmV
theorem qZc : CtxOK Tryz.prog qLr := mkC_ok (qN)
def qQE (f : Nat) (x0 : Int) (x1 x2 : LI) (x3 : Int) (x4 x5 : List Bool) : Option (List Bool × List Bool) := qh qLr 0 [1, 2, 3, 4] [2, 3] (qG Tryz.f74 3) f ([.s (.ptr 0 0 none 0), .s (.ptr 1 0 none 0), .s (.ptr 2 0 none 0), .s (.i .i64 x0)]) ([.cells 28 [.arr .i8 81 x1, .arr .i8 16 x2, .one [.i .i8 x3]], .cells 106 [Seg.barr 81 x4], .cells 106 [Seg.barr 81 x5]]) qQD
theorem qmU (f : Nat) (x0 : Int) (x1 x2 : LI) (x3 : Int) (x4 x5 : List Bool) : qQE (f + 1) x0 x1 x2 x3 x4 x5 = qHt (qQE f) x0 x1 x2 x3 x4 x5 := by kernel_rfl
theorem qZe : ∀ f, qQE f = qEU f
 | 0 => rfl
 | f + 1 => by funext x0 x1 x2 x3 x4 x5; rw [qmU, qZe f]; rfl
theorem qmW : qf Tryz.prog qLr 0 (qG Tryz.f74 3) :=
 ql mixed qZc (qT.of (l' := []) (by kernel_rfl) trivial) (q := 3) (kin := [1, 2, 3, 4]) (kout := [2, 3]) (by kernel_rfl) (by kernel_rfl) fun vs objs K r h => by
  replace h : qQG vs objs K = some r := h
  unfold qQG at h
  split at h
  ·skip
   obtain ⟨t, h1, h2⟩ := qE h
   rw [<- qZe] at h1
   refine ⟨_, qQD, t, qC, h1, fun e vs' objs' hd => ?_⟩
   unfold qQD at hd;split at hd;(cases hd;exact h2);cases hd
  ·cases h
def qZd : V -> List Obj -> Option (List Bool) := fun v objs => match v, objs with
 | .agg [Seg.barr 81 y0], [] => some (y0)
 | _, _ => none
theorem qmT (x0 x1 : LI) (x2 : Int) : fnE qLr Tryz.f74 ([.agg [.arr .i8 81 x0, .arr .i8 16 x1, .one [.i .i8 x2]]]) ([]) qZd = qET x0 x1 x2 := by kernel_rfl
def qZb : HA := fun o vs objs K => match vs, objs with
 | [.agg [.arr .i8 81 x0, .arr .i8 16 x1, .one [.i .i8 x2]]], [] => ob (qET x0 x1 x2) fun y0 => K false (.agg [Seg.barr 81 y0]) ([])
 | _, _ => o 74 vs objs K
def qLs (o : Orc) : Orc := qM 74 (qZb o) o
theorem qQF : OQ Tryz.prog qLs := fun _ ho => qP ho fun vs objs K r h => by
 unfold qZb at h
 split at h
 ·skip
  obtain ⟨t, h1, h2⟩ := qE h
  refine qAY mixed qZc (fn := Tryz.f74) (b := (Tryz.f74).body.getD .skip) (by kernel_rfl) (by kernel_rfl) (by kernel_rfl) ((qmT _ _ _).trans h1) (m := 0) rfl (qT.of (l' := [qG Tryz.f74 3]) (by kernel_rfl) ⟨qmW, trivial⟩) fun v objs' hd => ?_
  unfold qZd at hd;split at hd;(cases hd;exact h2);cases hd
 ·exact ho _ _ _ _ _ h
def qYj : Ctx := mkC 23 (qL) [] qV
theorem qlp : CtxOK Tryz.prog qYj := mkC_ok (qN)
def qYk : V -> List Obj -> Option (Int) := fun v objs => match v, objs with
 | .s (.i .i64 y0), [] => some (y0)
 | _, _ => none
theorem qlo (x0 : Int) : fnE qYj Tryz.f97 ([.s (.i .i64 x0)]) ([]) qYk = qAO x0 := by kernel_rfl
def qYi : HA := fun o vs objs K => match vs, objs with
 | [.s (.i .i64 x0)], [] => ob (qAO x0) fun y0 => K false (.s (.i .i64 y0)) ([])
 | _, _ => o 97 vs objs K
def qEL (o : Orc) : Orc := qM 97 (qYi o) o
theorem qFU : OQ Tryz.prog qEL := fun _ ho => qP ho fun vs objs K r h => by
 unfold qYi at h
 split at h
 ·skip
  obtain ⟨t, h1, h2⟩ := qE h
  refine qc mixed qlp ((qlo _).trans h1) (by kernel_rfl) fun v objs' hd => ?_
  unfold qYk at hd;split at hd;(cases hd;exact h2);cases hd
 ·exact ho _ _ _ _ _ h
def qYq : Ctx := mkC 8 ((qEL qL)) [] qV
theorem qlu : CtxOK Tryz.prog qYq := mkC_ok ((qFU _ qN))
def qYr : V -> List Obj -> Option (Int) := fun v objs => match v, objs with
 | .s (.i .i64 y0), [] => some (y0)
 | _, _ => none
theorem qlt (x0 : Int) : fnE qYq Tryz.f75 ([.s (.i .i64 x0)]) ([]) qYr = qA6 x0 := by kernel_rfl
def qYp : HA := fun o vs objs K => match vs, objs with
 | [.s (.i .i64 x0)], [] => ob (qA6 x0) fun y0 => K false (.s (.i .i64 y0)) ([])
 | _, _ => o 75 vs objs K
def qFV (o : Orc) : Orc := qM 75 (qYp o) o
theorem qGP : OQ Tryz.prog qFV := fun _ ho => qP ho fun vs objs K r h => by
 unfold qYp at h
 split at h
 ·skip
  obtain ⟨t, h1, h2⟩ := qE h
  refine qc mixed qlu ((qlt _).trans h1) (by kernel_rfl) fun v objs' hd => ?_
  unfold qYr at hd;split at hd;(cases hd;exact h2);cases hd
 ·exact ho _ _ _ _ _ h
def qY8 : Ctx := mkC 8 (qL) [] qV
theorem ql5 : CtxOK Tryz.prog qY8 := mkC_ok (qN)
def qY9 : V -> List Obj -> Option (Int) := fun v objs => match v, objs with
 | .s (.i .i64 y0), [] => some (y0)
 | _, _ => none
theorem ql4 (x0 : Int) : fnE qY8 Tryz.f111 ([.s (.i .i64 x0)]) ([]) qY9 = qFW x0 := by kernel_rfl
def qY7 : HA := fun o vs objs K => match vs, objs with
 | [.s (.i .i64 x0)], [] => ob (qFW x0) fun y0 => K false (.s (.i .i64 y0)) ([])
 | _, _ => o 111 vs objs K
def qZA (o : Orc) : Orc := qM 111 (qY7 o) o
theorem ql6 : OQ Tryz.prog qZA := fun _ ho => qP ho fun vs objs K r h => by
 unfold qY7 at h
 split at h
 ·skip
  obtain ⟨t, h1, h2⟩ := qE h
  refine qc mixed ql5 ((ql4 _).trans h1) (by kernel_rfl) fun v objs' hd => ?_
  unfold qY9 at hd;split at hd;(cases hd;exact h2);cases hd
 ·exact ho _ _ _ _ _ h
def qY4 : Ctx := mkC 125 ((qEL (qFV (qZA qL)))) [] qV
theorem ql2 : CtxOK Tryz.prog qY4 := mkC_ok ((qFU _ (qGP _ (ql6 _ qN))))
def qY5 : V -> List Obj -> Option (Bool) := fun v objs => match v, objs with
 | .s (.b y0), [] => some (y0)
 | _, _ => none
theorem ql1 (x0 x1 x2 : Int) : fnE qY4 Tryz.f98 ([.s (.i .i64 x0), .s (.i .i64 x1), .s (.i .i64 x2)]) ([]) qY5 = qJN x0 x1 x2 := by kernel_rfl
def qY3 : HA := fun o vs objs K => match vs, objs with
 | [.s (.i .i64 x0), .s (.i .i64 x1), .s (.i .i64 x2)], [] => ob (qJN x0 x1 x2) fun y0 => K false (.s (.b y0)) ([])
 | _, _ => o 98 vs objs K
def qY6 (o : Orc) : Orc := qM 98 (qY3 o) o
theorem ql3 : OQ Tryz.prog qY6 := fun _ ho => qP ho fun vs objs K r h => by
 unfold qY3 at h
 split at h
 ·skip
  obtain ⟨t, h1, h2⟩ := qE h
  refine qc mixed ql2 ((ql1 _ _ _).trans h1) (by kernel_rfl) fun v objs' hd => ?_
  unfold qY5 at hd;split at hd;(cases hd;exact h2);cases hd
 ·exact ho _ _ _ _ _ h
def qZM : Ctx := mkC 51 (qL) [] qV
theorem qmI : CtxOK Tryz.prog qZM := mkC_ok (qN)
def qZN : V -> List Obj -> Option (Int) := fun v objs => match v, objs with
 | .s (.i .i64 y0), [] => some (y0)
 | _, _ => none
theorem qmH (x0 x1 : Int) : fnE qZM Tryz.f99 ([.s (.i .i64 x0), .s (.i .i64 x1)]) ([]) qZN = qHq x0 x1 := by kernel_rfl
def qZL : HA := fun o vs objs K => match vs, objs with
 | [.s (.i .i64 x0), .s (.i .i64 x1)], [] => ob (qHq x0 x1) fun y0 => K false (.s (.i .i64 y0)) ([])
 | _, _ => o 99 vs objs K
def qP7 (o : Orc) : Orc := qM 99 (qZL o) o
theorem qZO : OQ Tryz.prog qP7 := fun _ ho => qP ho fun vs objs K r h => by
 unfold qZL at h
 split at h
 ·skip
  obtain ⟨t, h1, h2⟩ := qE h
  refine qc mixed qmI ((qmH _ _).trans h1) (by kernel_rfl) fun v objs' hd => ?_
  unfold qZN at hd;split at hd;(cases hd;exact h2);cases hd
 ·exact ho _ _ _ _ _ h
def qZT : Ctx := mkC 7 (qL) [] qV
theorem qmM : CtxOK Tryz.prog qZT := mkC_ok (qN)
def qZU : V -> List Obj -> Option (Int) := fun v objs => match v, objs with
 | .s (.i .i64 y0), [] => some (y0)
 | _, _ => none
theorem qmL (x0 : Int) : fnE qZT Tryz.f116 ([.s (.i .i64 x0)]) ([]) qZU = qHr x0 := by kernel_rfl
def qZS : HA := fun o vs objs K => match vs, objs with
 | [.s (.i .i64 x0)], [] => ob (qHr x0) fun y0 => K false (.s (.i .i64 y0)) ([])
 | _, _ => o 116 vs objs K
def qZV (o : Orc) : Orc := qM 116 (qZS o) o
theorem qmN : OQ Tryz.prog qZV := fun _ ho => qP ho fun vs objs K r h => by
 unfold qZS at h
 split at h
 ·skip
  obtain ⟨t, h1, h2⟩ := qE h
  refine qc mixed qmM ((qmL _).trans h1) (by kernel_rfl) fun v objs' hd => ?_
  unfold qZU at hd;split at hd;(cases hd;exact h2);cases hd
 ·exact ho _ _ _ _ _ h
def qP1 : Ex -> List V -> List Obj -> Option (Nat × Nat × LI) := fun e vs objs => match e, vs, objs with
 | .exit 0, [.s (.sl 0 0 y0 true)], [.sli 3 false (.arr .i64 y1 y2)] => some (y0, y1, y2)
 | _, _, _ => none
def qP3 : HL := fun vs objs K => match vs, objs with
 | [.s (.i .i64 x0), .s (.sl 0 0 x1 true), .s (.i .i64 x2), .s (.i .i64 x3)], [.sli 3 false (.arr .i64 x4 x5)] => ob (qFX qC x0 x1 x2 x3 x4 x5) fun z => K (.exit 0) ([.s (.sl 0 0 (z.1) true)]) ([.sli 3 false (.arr .i64 (z.2.1) (z.2.2))])
 | _, _ => none
def ql9 : {R : Type} -> Nat -> List V -> List Obj -> (Ex -> List V -> List Obj -> Option R) -> Option R := fun q vs objs K => bif Nat.beq q 6 then qP3 vs objs K else none
def qLn : Ctx := mkC 41 ((qZV (qP7 qL))) [(6, [1, 5, 6, 7], [5])] ql9
theorem qZC : CtxOK Tryz.prog qLn := mkC_ok ((qmN _ (qZO _ qN)))
def qP2 (f : Nat) (x0 : Int) (x1 : Nat) (x2 x3 : Int) (x4 : Nat) (x5 : LI) : Option (Nat × Nat × LI) := qh qLn 0 [1, 5, 6, 7] [5] (qG Tryz.f112 6) f ([.s (.i .i64 x0), .s (.sl 0 0 x1 true), .s (.i .i64 x2), .s (.i .i64 x3)]) ([.sli 3 false (.arr .i64 x4 x5)]) qP1
theorem ql8 (f : Nat) (x0 : Int) (x1 : Nat) (x2 x3 : Int) (x4 : Nat) (x5 : LI) : qP2 (f + 1) x0 x1 x2 x3 x4 x5 = qHo (qP2 f) x0 x1 x2 x3 x4 x5 := by kernel_rfl
theorem qZE : ∀ f, qP2 f = qFX f
 | 0 => rfl
 | f + 1 => by funext x0 x1 x2 x3 x4 x5; rw [ql8, qZE f]; rfl
theorem qmB : qf Tryz.prog qLn 0 (qG Tryz.f112 6) :=
 ql mixed qZC (qT.of (l' := []) (by kernel_rfl) trivial) (q := 6) (kin := [1, 5, 6, 7]) (kout := [5]) (by kernel_rfl) (by kernel_rfl) fun vs objs K r h => by
  replace h : qP3 vs objs K = some r := h
  unfold qP3 at h
  split at h
  ·skip
   obtain ⟨t, h1, h2⟩ := qE h
   rw [<- qZE] at h1
   refine ⟨_, qP1, t, qC, h1, fun e vs' objs' hd => ?_⟩
   unfold qP1 at hd;split at hd;(cases hd;exact h2);cases hd
  ·cases h
def qZD : V -> List Obj -> Option (Nat × Nat × LI) := fun v objs => match v, objs with
 | .s (.sl 0 0 y0 true), [.sli 3 false (.arr .i64 y1 y2)] => some (y0, y1, y2)
 | _, _ => none
theorem ql7 (x0 x1 : Int) : fnE qLn Tryz.f112 ([.s (.i .i64 x0), .s (.i .i64 x1)]) ([]) qZD = qJO x0 x1 := by kernel_rfl
def qZB : HA := fun o vs objs K => match vs, objs with
 | [.s (.i .i64 x0), .s (.i .i64 x1)], [] => ob (qJO x0 x1) fun z => K false (.s (.sl 0 0 (z.1) true)) ([.sli 3 false (.arr .i64 (z.2.1) (z.2.2))])
 | _, _ => o 112 vs objs K
def qZF (o : Orc) : Orc := qM 112 (qZB o) o
theorem qmA : OQ Tryz.prog qZF := fun _ ho => qP ho fun vs objs K r h => by
 unfold qZB at h
 split at h
 ·skip
  obtain ⟨t, h1, h2⟩ := qE h
  refine qAY mixed qZC (fn := Tryz.f112) (b := (Tryz.f112).body.getD .skip) (by kernel_rfl) (by kernel_rfl) (by kernel_rfl) ((ql7 _ _).trans h1) (m := 0) rfl (qT.of (l' := [qG Tryz.f112 6]) (by kernel_rfl) ⟨qmB, trivial⟩) fun v objs' hd => ?_
  unfold qZD at hd;split at hd;(cases hd;exact h2);cases hd
 ·exact ho _ _ _ _ _ h
def qP4 : Ex -> List V -> List Obj -> Option ((Bool) ⊕ (Unit)) := fun e vs objs => match e, vs, objs with
 | .ret, [.s (.b y0)], [] => some (.inl (y0))
 | .exit 0, [.s .bad], [] => some (.inr ())
 | _, _, _ => none
def qP6 : HL := fun vs objs K => match vs, objs with
 | [.s (.ptr 0 0 none 0), .s (.sl 1 0 x0 true), .s (.i .i64 x1)], [.cells 106 [Seg.barr 81 x2], .sli 3 false (.arr .i64 x3 x4)] => ob (qFY qC x0 x1 x2 x3 x4) fun t0 => sw t0 (fun y0 => K (.ret) ([.s (.b y0)]) ([])) (fun _ => K (.exit 0) ([.s .bad]) ([]))
 | _, _ => none
def qmE : {R : Type} -> Nat -> List V -> List Obj -> (Ex -> List V -> List Obj -> Option R) -> Option R := fun q vs objs K => bif Nat.beq q 3 then qP6 vs objs K else none
def qLo : Ctx := mkC 24 ((qZF qL)) [(3, [5, 7, 8], [6])] qmE
theorem qZH : CtxOK Tryz.prog qLo := mkC_ok ((qmA _ qN))
def qP5 (f : Nat) (x0 : Nat) (x1 : Int) (x2 : List Bool) (x3 : Nat) (x4 : LI) : Option ((Bool) ⊕ (Unit)) := qh qLo 0 [5, 7, 8] [6] (qG Tryz.f100 3) f ([.s (.ptr 0 0 none 0), .s (.sl 1 0 x0 true), .s (.i .i64 x1)]) ([.cells 106 [Seg.barr 81 x2], .sli 3 false (.arr .i64 x3 x4)]) qP4
theorem qmD (f : Nat) (x0 : Nat) (x1 : Int) (x2 : List Bool) (x3 : Nat) (x4 : LI) : qP5 (f + 1) x0 x1 x2 x3 x4 = qHp (qP5 f) x0 x1 x2 x3 x4 := by kernel_rfl
theorem qZJ : ∀ f, qP5 f = qFY f
 | 0 => rfl
 | f + 1 => by funext x0 x1 x2 x3 x4; rw [qmD, qZJ f]; rfl
theorem qmG : qf Tryz.prog qLo 0 (qG Tryz.f100 3) :=
 ql mixed qZH (qT.of (l' := []) (by kernel_rfl) trivial) (q := 3) (kin := [5, 7, 8]) (kout := [6]) (by kernel_rfl) (by kernel_rfl) fun vs objs K r h => by
  replace h : qP6 vs objs K = some r := h
  unfold qP6 at h
  split at h
  ·skip
   obtain ⟨t, h1, h2⟩ := qE h
   rw [<- qZJ] at h1
   refine ⟨_, qP4, t, qC, h1, fun e vs' objs' hd => ?_⟩
   unfold qP4 at hd
   split at hd
   ·skip
    cases hd
    exact h2
   ·skip
    cases hd
    exact h2
   ·cases hd
  ·cases h
def qZI : V -> List Obj -> Option (Bool) := fun v objs => match v, objs with
 | .s (.b y0), [] => some (y0)
 | _, _ => none
theorem qmC (x0 x1 : Int) (x2 : List Bool) : fnE qLo Tryz.f100 ([.s (.i .i64 x0), .s (.i .i64 x1), .agg [Seg.barr 81 x2]]) ([]) qZI = qAo x0 x1 x2 := by kernel_rfl
def qZG : HA := fun o vs objs K => match vs, objs with
 | [.s (.i .i64 x0), .s (.i .i64 x1), .agg [Seg.barr 81 x2]], [] => ob (qAo x0 x1 x2) fun y0 => K false (.s (.b y0)) ([])
 | _, _ => o 100 vs objs K
def qZK (o : Orc) : Orc := qM 100 (qZG o) o
theorem qmF : OQ Tryz.prog qZK := fun _ ho => qP ho fun vs objs K r h => by
 unfold qZG at h
 split at h
 ·skip
  obtain ⟨t, h1, h2⟩ := qE h
  refine qAY mixed qZH (fn := Tryz.f100) (b := (Tryz.f100).body.getD .skip) (by kernel_rfl) (by kernel_rfl) (by kernel_rfl) ((qmC _ _ _).trans h1) (m := 0) rfl (qT.of (l' := [qG Tryz.f100 3]) (by kernel_rfl) ⟨qmG, trivial⟩) fun v objs' hd => ?_
  unfold qZI at hd;split at hd;(cases hd;exact h2);cases hd
 ·exact ho _ _ _ _ _ h
def qZQ : Ctx := mkC 63 ((qZK (qEL (qFV (qP7 (qY6 qL)))))) [] qV
theorem qmK : CtxOK Tryz.prog qZQ := mkC_ok ((qmF _ (qFU _ (qGP _ (qZO _ (ql3 _ qN))))))
def qZR : V -> List Obj -> Option (Bool) := fun v objs => match v, objs with
 | .s (.b y0), [] => some (y0)
 | _, _ => none
theorem qmJ (x0 x1 x2 : Int) (x3 : List Bool) : fnE qZQ Tryz.f76 ([.s (.i .i64 x0), .s (.i .i64 x1), .s (.i .i64 x2), .agg [Seg.barr 81 x3]]) ([]) qZR = qFZ x0 x1 x2 x3 := by kernel_rfl
def qZP : HA := fun o vs objs K => match vs, objs with
 | [.s (.i .i64 x0), .s (.i .i64 x1), .s (.i .i64 x2), .agg [Seg.barr 81 x3]], [] => ob (qFZ x0 x1 x2 x3) fun y0 => K false (.s (.b y0)) ([])
 | _, _ => o 76 vs objs K
def qLp (o : Orc) : Orc := qM 76 (qZP o) o
theorem qP8 : OQ Tryz.prog qLp := fun _ ho => qP ho fun vs objs K r h => by
 unfold qZP at h
 split at h
 ·skip
  obtain ⟨t, h1, h2⟩ := qE h
  refine qc mixed qmK ((qmJ _ _ _ _).trans h1) (by kernel_rfl) fun v objs' hd => ?_
  unfold qZR at hd;split at hd;(cases hd;exact h2);cases hd
 ·exact ho _ _ _ _ _ h
def qZg : Ctx := mkC 44 (qL) [] qV
theorem qmY : CtxOK Tryz.prog qZg := mkC_ok (qN)
def qZh : V -> List Obj -> Option (Int) := fun v objs => match v, objs with
 | .s (.i .i64 y0), [] => some (y0)
 | _, _ => none
theorem qmX (x0 x1 x2 : Int) (x3 : Bool) : fnE qZg Tryz.f113 ([.agg [.one [.i .i64 x0, .i .i64 x1, .i .i64 x2, .b x3]]]) ([]) qZh = qJR x0 x1 x2 x3 := by kernel_rfl
def qZf : HA := fun o vs objs K => match vs, objs with
 | [.agg [.one [.i .i64 x0, .i .i64 x1, .i .i64 x2, .b x3]]], [] => ob (qJR x0 x1 x2 x3) fun y0 => K false (.s (.i .i64 y0)) ([])
 | _, _ => o 113 vs objs K
def qZi (o : Orc) : Orc := qM 113 (qZf o) o
theorem qmZ : OQ Tryz.prog qZi := fun _ ho => qP ho fun vs objs K r h => by
 unfold qZf at h
 split at h
 ·skip
  obtain ⟨t, h1, h2⟩ := qE h
  refine qc mixed qmY ((qmX _ _ _ _).trans h1) (by kernel_rfl) fun v objs' hd => ?_
  unfold qZh at hd;split at hd;(cases hd;exact h2);cases hd
 ·exact ho _ _ _ _ _ h
def qYt : Ctx := mkC 15 (qL) [] qV
theorem qlw : CtxOK Tryz.prog qYt := mkC_ok (qN)
def qYu : V -> List Obj -> Option (Int) := fun v objs => match v, objs with
 | .s (.i .i64 y0), [] => some (y0)
 | _, _ => none
theorem qlv (x0 : Int) : fnE qYt Tryz.f114 ([.s (.i .i64 x0)]) ([]) qYu = qEM x0 := by kernel_rfl
def qYs : HA := fun o vs objs K => match vs, objs with
 | [.s (.i .i64 x0)], [] => ob (qEM x0) fun y0 => K false (.s (.i .i64 y0)) ([])
 | _, _ => o 114 vs objs K
def qLm (o : Orc) : Orc := qM 114 (qYs o) o
theorem qPy : OQ Tryz.prog qLm := fun _ ho => qP ho fun vs objs K r h => by
 unfold qYs at h
 split at h
 ·skip
  obtain ⟨t, h1, h2⟩ := qE h
  refine qc mixed qlw ((qlv _).trans h1) (by kernel_rfl) fun v objs' hd => ?_
  unfold qYu at hd;split at hd;(cases hd;exact h2);cases hd
 ·exact ho _ _ _ _ _ h
def qZy : Ctx := mkC 75 ((qLm (qEL (qFV (qZi qL))))) [] qV
theorem qmm : CtxOK Tryz.prog qZy := mkC_ok ((qPy _ (qFU _ (qGP _ (qmZ _ qN)))))
def qZz : V -> List Obj -> Option (Bool) := fun v objs => match v, objs with
 | .s (.b y0), [] => some (y0)
 | _, _ => none
theorem qml (x0 x1 : LI) (x2 x3 : Int) (x4 x5 : Int) (x6 : Bool) : fnE qZy Tryz.f101 ([.agg [.arr .i8 81 x0, .arr .i8 16 x1, .one [.i .i8 x2]], .agg [.one [.i .i64 x3, .i .i64 x4, .i .i64 x5, .b x6]]]) ([]) qZz = qJT x0 x1 x2 x3 x4 x5 x6 := by kernel_rfl
def qZx : HA := fun o vs objs K => match vs, objs with
 | [.agg [.arr .i8 81 x0, .arr .i8 16 x1, .one [.i .i8 x2]], .agg [.one [.i .i64 x3, .i .i64 x4, .i .i64 x5, .b x6]]], [] => ob (qJT x0 x1 x2 x3 x4 x5 x6) fun y0 => K false (.s (.b y0)) ([])
 | _, _ => o 101 vs objs K
def qZ0 (o : Orc) : Orc := qM 101 (qZx o) o
theorem qmn : OQ Tryz.prog qZ0 := fun _ ho => qP ho fun vs objs K r h => by
 unfold qZx at h
 split at h
 ·skip
  obtain ⟨t, h1, h2⟩ := qE h
  refine qc mixed qmm ((qml _ _ _ _ _ _ _).trans h1) (by kernel_rfl) fun v objs' hd => ?_
  unfold qZz at hd;split at hd;(cases hd;exact h2);cases hd
 ·exact ho _ _ _ _ _ h
def qY0 : Ctx := mkC 26 (qL) [] qV
theorem ql0 : CtxOK Tryz.prog qY0 := mkC_ok (qN)
def qY1 : V -> List Obj -> Option (Int) := fun v objs => match v, objs with
 | .s (.i .i64 y0), [] => some (y0)
 | _, _ => none
theorem qlz (x0 x1 : Int) : fnE qY0 Tryz.f115 ([.s (.i .i64 x0), .s (.i .i64 x1)]) ([]) qY1 = qC8 x0 x1 := by kernel_rfl
def qYz : HA := fun o vs objs K => match vs, objs with
 | [.s (.i .i64 x0), .s (.i .i64 x1)], [] => ob (qC8 x0 x1) fun y0 => K false (.s (.i .i64 y0)) ([])
 | _, _ => o 115 vs objs K
def qP0 (o : Orc) : Orc := qM 115 (qYz o) o
theorem qY2 : OQ Tryz.prog qP0 := fun _ ho => qP ho fun vs objs K r h => by
 unfold qYz at h
 split at h
 ·skip
  obtain ⟨t, h1, h2⟩ := qE h
  refine qc mixed ql0 ((qlz _ _).trans h1) (by kernel_rfl) fun v objs' hd => ?_
  unfold qY1 at hd;split at hd;(cases hd;exact h2);cases hd
 ·exact ho _ _ _ _ _ h
def qYw : Ctx := mkC 35 ((qEL (qP0 (qFV qL)))) [] qV
theorem qly : CtxOK Tryz.prog qYw := mkC_ok ((qFU _ (qY2 _ (qGP _ qN))))
def qYx : V -> List Obj -> Option (Bool) := fun v objs => match v, objs with
 | .s (.b y0), [] => some (y0)
 | _, _ => none
theorem qlx (x0 x1 : Int) : fnE qYw Tryz.f102 ([.s (.i .i64 x0), .s (.i .i64 x1)]) ([]) qYx = qC7 x0 x1 := by kernel_rfl
def qYv : HA := fun o vs objs K => match vs, objs with
 | [.s (.i .i64 x0), .s (.i .i64 x1)], [] => ob (qC7 x0 x1) fun y0 => K false (.s (.b y0)) ([])
 | _, _ => o 102 vs objs K
def qPz (o : Orc) : Orc := qM 102 (qYv o) o
theorem qYy : OQ Tryz.prog qPz := fun _ ho => qP ho fun vs objs K r h => by
 unfold qYv at h
 split at h
 ·skip
  obtain ⟨t, h1, h2⟩ := qE h
  refine qc mixed qly ((qlx _ _).trans h1) (by kernel_rfl) fun v objs' hd => ?_
  unfold qYx at hd;split at hd;(cases hd;exact h2);cases hd
 ·exact ho _ _ _ _ _ h
def qQA : Ex -> List V -> List Obj -> Option (Int) := fun e vs objs => match e, vs, objs with
 | .exit 0, [.s (.i .i64 y0)], [] => some (y0)
 | _, _, _ => none
def qQC : HL := fun vs objs K => match vs, objs with
 | [.s (.i .i64 x0), .s (.i .i64 x1), .s (.ptr 0 0 none 0), .s (.i .i64 x2), .s (.i .i64 x3)], [.cells 28 [.arr .i8 81 x4, .arr .i8 16 x5, .one [.i .i8 x6]]] => ob (qCR qC x0 x1 x2 x3 x4 x5 x6) fun y0 => K (.exit 0) ([.s (.i .i64 y0)]) ([])
 | _, _ => none
def qmQ : {R : Type} -> Nat -> List V -> List Obj -> (Ex -> List V -> List Obj -> Option R) -> Option R := fun q vs objs K => bif Nat.beq q 3 then qQC vs objs K else none
def qLq : Ctx := mkC 26 (qL) [(3, [1, 2, 3, 7, 8], [7])] qmQ
theorem qZX : CtxOK Tryz.prog qLq := mkC_ok (qN)
def qQB (f : Nat) (x0 x1 : Int) (x2 x3 : Int) (x4 x5 : LI) (x6 : Int) : Option (Int) := qh qLq 0 [1, 2, 3, 7, 8] [7] (qG Tryz.f103 3) f ([.s (.i .i64 x0), .s (.i .i64 x1), .s (.ptr 0 0 none 0), .s (.i .i64 x2), .s (.i .i64 x3)]) ([.cells 28 [.arr .i8 81 x4, .arr .i8 16 x5, .one [.i .i8 x6]]]) qQA
theorem qmP (f : Nat) (x0 x1 : Int) (x2 x3 : Int) (x4 x5 : LI) (x6 : Int) : qQB (f + 1) x0 x1 x2 x3 x4 x5 x6 = qDh (qQB f) x0 x1 x2 x3 x4 x5 x6 := by kernel_rfl
theorem qZZ : ∀ f, qQB f = qCR f
 | 0 => rfl
 | f + 1 => by funext x0 x1 x2 x3 x4 x5 x6; rw [qmP, qZZ f]; rfl
theorem qmS : qf Tryz.prog qLq 0 (qG Tryz.f103 3) :=
 ql mixed qZX (qT.of (l' := []) (by kernel_rfl) trivial) (q := 3) (kin := [1, 2, 3, 7, 8]) (kout := [7]) (by kernel_rfl) (by kernel_rfl) fun vs objs K r h => by
  replace h : qQC vs objs K = some r := h
  unfold qQC at h
  split at h
  ·skip
   obtain ⟨t, h1, h2⟩ := qE h
   rw [<- qZZ] at h1
   refine ⟨_, qQA, t, qC, h1, fun e vs' objs' hd => ?_⟩
   unfold qQA at hd;split at hd;(cases hd;exact h2);cases hd
  ·cases h
def qZY : V -> List Obj -> Option (Int) := fun v objs => match v, objs with
 | .s (.i .i64 y0), [] => some (y0)
 | _, _ => none
theorem qmO (x0 x1 : LI) (x2 x3 x4 : Int) : fnE qLq Tryz.f103 ([.agg [.arr .i8 81 x0, .arr .i8 16 x1, .one [.i .i8 x2]], .s (.i .i64 x3), .s (.i .i64 x4)]) ([]) qZY = qDg x0 x1 x2 x3 x4 := by kernel_rfl
def qZW : HA := fun o vs objs K => match vs, objs with
 | [.agg [.arr .i8 81 x0, .arr .i8 16 x1, .one [.i .i8 x2]], .s (.i .i64 x3), .s (.i .i64 x4)], [] => ob (qDg x0 x1 x2 x3 x4) fun y0 => K false (.s (.i .i64 y0)) ([])
 | _, _ => o 103 vs objs K
def qZa (o : Orc) : Orc := qM 103 (qZW o) o
theorem qmR : OQ Tryz.prog qZa := fun _ ho => qP ho fun vs objs K r h => by
 unfold qZW at h
 split at h
 ·skip
  obtain ⟨t, h1, h2⟩ := qE h
  refine qAY mixed qZX (fn := Tryz.f103) (b := (Tryz.f103).body.getD .skip) (by kernel_rfl) (by kernel_rfl) (by kernel_rfl) ((qmO _ _ _ _ _).trans h1) (m := 0) rfl (qT.of (l' := [qG Tryz.f103 3]) (by kernel_rfl) ⟨qmS, trivial⟩) fun v objs' hd => ?_
  unfold qZY at hd;split at hd;(cases hd;exact h2);cases hd
 ·exact ho _ _ _ _ _ h
def qZ9 : Ctx := mkC 35 ((qP0 (qFV (qLm (qEL qL))))) [] qV
theorem qmz : CtxOK Tryz.prog qZ9 := mkC_ok ((qY2 _ (qGP _ (qPy _ (qFU _ qN)))))
def qaA : V -> List Obj -> Option (Bool) := fun v objs => match v, objs with
 | .s (.b y0), [] => some (y0)
 | _, _ => none
theorem qmy (x0 x1 x2 : Int) : fnE qZ9 Tryz.f104 ([.s (.i .i64 x0), .s (.i .i64 x1), .s (.i .i64 x2)]) ([]) qaA = qJV x0 x1 x2 := by kernel_rfl
def qZ8 : HA := fun o vs objs K => match vs, objs with
 | [.s (.i .i64 x0), .s (.i .i64 x1), .s (.i .i64 x2)], [] => ob (qJV x0 x1 x2) fun y0 => K false (.s (.b y0)) ([])
 | _, _ => o 104 vs objs K
def qaB (o : Orc) : Orc := qM 104 (qZ8 o) o
theorem qm0 : OQ Tryz.prog qaB := fun _ ho => qP ho fun vs objs K r h => by
 unfold qZ8 at h
 split at h
 ·skip
  obtain ⟨t, h1, h2⟩ := qE h
  refine qc mixed qmz ((qmy _ _ _).trans h1) (by kernel_rfl) fun v objs' hd => ?_
  unfold qaA at hd;split at hd;(cases hd;exact h2);cases hd
 ·exact ho _ _ _ _ _ h
def qaH : Ctx := mkC 14 ((qPz (qLm (qEL qL)))) [] qV
theorem qm5 : CtxOK Tryz.prog qaH := mkC_ok ((qYy _ (qPy _ (qFU _ qN))))
def qaI : V -> List Obj -> Option (Bool) := fun v objs => match v, objs with
 | .s (.b y0), [] => some (y0)
 | _, _ => none
theorem qm4 (x0 x1 : Int) : fnE qaH Tryz.f105 ([.s (.i .i64 x0), .s (.i .i64 x1)]) ([]) qaI = qJW x0 x1 := by kernel_rfl
def qaG : HA := fun o vs objs K => match vs, objs with
 | [.s (.i .i64 x0), .s (.i .i64 x1)], [] => ob (qJW x0 x1) fun y0 => K false (.s (.b y0)) ([])
 | _, _ => o 105 vs objs K
def qaJ (o : Orc) : Orc := qM 105 (qaG o) o
theorem qm6 : OQ Tryz.prog qaJ := fun _ ho => qP ho fun vs objs K r h => by
 unfold qaG at h
 split at h
 ·skip
  obtain ⟨t, h1, h2⟩ := qE h
  refine qc mixed qm5 ((qm4 _ _).trans h1) (by kernel_rfl) fun v objs' hd => ?_
  unfold qaI at hd;split at hd;(cases hd;exact h2);cases hd
 ·exact ho _ _ _ _ _ h
def qaD : Ctx := mkC 70 ((qaJ (qaB (qLp (qLs (qZa (qPz (qZ0 qL)))))))) [] qV
theorem qm2 : CtxOK Tryz.prog qaD := mkC_ok ((qm6 _ (qm0 _ (qP8 _ (qQF _ (qmR _ (qYy _ (qmn _ qN))))))))
def qaE : V -> List Obj -> Option (Bool) := fun v objs => match v, objs with
 | .s (.b y0), [] => some (y0)
 | _, _ => none
theorem qm1 (x0 x1 : LI) (x2 x3 : Int) (x4 x5 : Int) (x6 : Bool) : fnE qaD Tryz.f77 ([.agg [.arr .i8 81 x0, .arr .i8 16 x1, .one [.i .i8 x2]], .agg [.one [.i .i64 x3, .i .i64 x4, .i .i64 x5, .b x6]]]) ([]) qaE = qFe x0 x1 x2 x3 x4 x5 x6 := by kernel_rfl
def qaC : HA := fun o vs objs K => match vs, objs with
 | [.agg [.arr .i8 81 x0, .arr .i8 16 x1, .one [.i .i8 x2]], .agg [.one [.i .i64 x3, .i .i64 x4, .i .i64 x5, .b x6]]], [] => ob (qFe x0 x1 x2 x3 x4 x5 x6) fun y0 => K false (.s (.b y0)) ([])
 | _, _ => o 77 vs objs K
def qaF (o : Orc) : Orc := qM 77 (qaC o) o
theorem qm3 : OQ Tryz.prog qaF := fun _ ho => qP ho fun vs objs K r h => by
 unfold qaC at h
 split at h
 ·skip
  obtain ⟨t, h1, h2⟩ := qE h
  refine qc mixed qm2 ((qm1 _ _ _ _ _ _ _).trans h1) (by kernel_rfl) fun v objs' hd => ?_
  unfold qaE at hd;split at hd;(cases hd;exact h2);cases hd
 ·exact ho _ _ _ _ _ h
def qQP : Ex -> List V -> List Obj -> Option (Nat × Int × LI × LI × Int × Nat × LL × List Bool) := fun e vs objs => match e, vs, objs with
 | .exit 2, [.s (.ptr 0 0 none 0), .s (.sl 1 0 y0 true), .s (.ptr 2 0 none 0), .s (.i .i64 y1)], [.cells 28 [.arr .i8 81 y2, .arr .i8 16 y3, .one [.i .i8 y4]], .sli 53 false (.rows [.i .i64, .i .i64, .i .i64, .b] y5 y6), .cells 106 [Seg.barr 81 y7]] => some (y0, y1, y2, y3, y4, y5, y6, y7)
 | _, _, _ => none
def qQV : Ex -> List V -> List Obj -> Option (Nat × LI × LI × Int × Nat × LL) := fun e vs objs => match e, vs, objs with
 | .exit 0, [.s (.ptr 0 0 none 0), .s (.sl 1 0 y0 true)], [.cells 28 [.arr .i8 81 y1, .arr .i8 16 y2, .one [.i .i8 y3]], .sli 53 false (.rows [.i .i64, .i .i64, .i .i64, .b] y4 y5)] => some (y0, y1, y2, y3, y4, y5)
 | _, _, _ => none
def qQT : Ex -> List V -> List Obj -> Option (Nat × Int × LI × LI × Int × Nat × LL) := fun e vs objs => match e, vs, objs with
 | .exit 6, [.s (.ptr 0 0 none 0), .s (.sl 1 0 y0 true), .s (.i .i64 y1)], [.cells 28 [.arr .i8 81 y2, .arr .i8 16 y3, .one [.i .i8 y4]], .sli 53 false (.rows [.i .i64, .i .i64, .i .i64, .b] y5 y6)] => some (y0, y1, y2, y3, y4, y5, y6)
 | _, _, _ => none
def qQR : Ex -> List V -> List Obj -> Option (Nat × Nat × LL) := fun e vs objs => match e, vs, objs with
 | .exit 4, [.s (.sl 0 0 y0 true)], [.sli 53 false (.rows [.i .i64, .i .i64, .i .i64, .b] y1 y2)] => some (y0, y1, y2)
 | _, _, _ => none
def qQY : HL := fun vs objs K => match vs, objs with
 | [.s (.ptr 0 0 none 0), .s (.sl 1 0 x0 true), .s (.ptr 2 0 none 0), .s (.i .i64 x1), .s (.i .i64 x2)], [.cells 28 [.arr .i8 81 x3, .arr .i8 16 x4, .one [.i .i8 x5]], .sli 53 false (.rows [.i .i64, .i .i64, .i .i64, .b] x6 x7), .cells 106 [Seg.barr 81 x8]] => ob (qFc qC x0 x1 x2 x3 x4 x5 x6 x7 x8) fun z => K (.exit 2) ([.s (.ptr 0 0 none 0), .s (.sl 1 0 (z.1) true), .s (.ptr 2 0 none 0), .s (.i .i64 (z.2.1))]) ([.cells 28 [.arr .i8 81 (z.2.2.1), .arr .i8 16 (z.2.2.2.1), .one [.i .i8 (z.2.2.2.2.1)]], .sli 53 false (.rows [.i .i64, .i .i64, .i .i64, .b] (z.2.2.2.2.2.1) (z.2.2.2.2.2.2.1)), .cells 106 [Seg.barr 81 (z.2.2.2.2.2.2.2)]])
 | _, _ => none
def qQb : HL := fun vs objs K => match vs, objs with
 | [.s (.ptr 0 0 none 0), .s (.sl 1 0 x0 true), .s (.ptr 2 0 none 0), .s (.i .i64 x1)], [.cells 28 [.arr .i8 81 x2, .arr .i8 16 x3, .one [.i .i8 x4]], .sli 53 false (.rows [.i .i64, .i .i64, .i .i64, .b] x5 x6), .cells 106 [Seg.barr 81 x7]] => ob (qDk qC x0 x1 x2 x3 x4 x5 x6 x7) fun z => K (.exit 0) ([.s (.ptr 0 0 none 0), .s (.sl 1 0 (z.1) true)]) ([.cells 28 [.arr .i8 81 (z.2.1), .arr .i8 16 (z.2.2.1), .one [.i .i8 (z.2.2.2.1)]], .sli 53 false (.rows [.i .i64, .i .i64, .i .i64, .b] (z.2.2.2.2.1) (z.2.2.2.2.2))])
 | _, _ => none
def qQa : HL := fun vs objs K => match vs, objs with
 | [.s (.ptr 0 0 none 0), .s (.sl 1 0 x0 true), .s (.i .i64 x1), .s (.i .i64 x2)], [.cells 28 [.arr .i8 81 x3, .arr .i8 16 x4, .one [.i .i8 x5]], .sli 53 false (.rows [.i .i64, .i .i64, .i .i64, .b] x6 x7)] => ob (qFd qC x0 x1 x2 x3 x4 x5 x6 x7) fun z => K (.exit 6) ([.s (.ptr 0 0 none 0), .s (.sl 1 0 (z.1) true), .s (.i .i64 (z.2.1))]) ([.cells 28 [.arr .i8 81 (z.2.2.1), .arr .i8 16 (z.2.2.2.1), .one [.i .i8 (z.2.2.2.2.1)]], .sli 53 false (.rows [.i .i64, .i .i64, .i .i64, .b] (z.2.2.2.2.2.1) (z.2.2.2.2.2.2))])
 | _, _ => none
def qQZ : HL := fun vs objs K => match vs, objs with
 | [.s (.ptr 0 0 none 0), .s (.sl 1 0 x0 true), .s (.i .i64 x1)], [.cells 28 [.arr .i8 81 x2, .arr .i8 16 x3, .one [.i .i8 x4]], .sli 53 false (.rows [.i .i64, .i .i64, .i .i64, .b] x5 x6)] => ob (qDj qC x0 x1 x2 x3 x4 x5 x6) fun z => K (.exit 4) ([.s (.sl 0 0 (z.1) true)]) ([.sli 53 false (.rows [.i .i64, .i .i64, .i .i64, .b] (z.2.1) (z.2.2))])
 | _, _ => none
def qmt : {R : Type} -> Nat -> List V -> List Obj -> (Ex -> List V -> List Obj -> Option R) -> Option R := fun q vs objs K => bif Nat.beq q 10 then qQY vs objs K else bif Nat.beq q 6 then qQb vs objs K else bif Nat.beq q 23 then qQa vs objs K else bif Nat.beq q 20 then qQZ vs objs K else none
def qDi : Ctx := mkC 98 ((qaF (qLp (qFV (qLs qL))))) [(6, [1, 3, 4, 5], [1, 3]), (10, [1, 3, 4, 5, 6], [1, 3, 4, 5]), (20, [1, 3, 8], [3]), (23, [1, 3, 8, 9], [1, 3, 8])] qmt
theorem qJU : CtxOK Tryz.prog qDi := mkC_ok ((qm3 _ (qP8 _ (qGP _ (qQF _ qN)))))
def qQQ (f : Nat) (x0 : Nat) (x1 x2 : Int) (x3 x4 : LI) (x5 : Int) (x6 : Nat) (x7 : LL) (x8 : List Bool) : Option (Nat × Int × LI × LI × Int × Nat × LL × List Bool) := qh qDi 0 [1, 3, 4, 5, 6] [1, 3, 4, 5] (qG Tryz.f30 10) f ([.s (.ptr 0 0 none 0), .s (.sl 1 0 x0 true), .s (.ptr 2 0 none 0), .s (.i .i64 x1), .s (.i .i64 x2)]) ([.cells 28 [.arr .i8 81 x3, .arr .i8 16 x4, .one [.i .i8 x5]], .sli 53 false (.rows [.i .i64, .i .i64, .i .i64, .b] x6 x7), .cells 106 [Seg.barr 81 x8]]) qQP
theorem qmp (f : Nat) (x0 : Nat) (x1 x2 : Int) (x3 x4 : LI) (x5 : Int) (x6 : Nat) (x7 : LL) (x8 : List Bool) : qQQ (f + 1) x0 x1 x2 x3 x4 x5 x6 x7 x8 = qHz (qQQ f) x0 x1 x2 x3 x4 x5 x6 x7 x8 := by kernel_rfl
theorem qZ3 : ∀ f, qQQ f = qFc f
 | 0 => rfl
 | f + 1 => by funext x0 x1 x2 x3 x4 x5 x6 x7 x8; rw [qmp, qZ3 f]; rfl
def qQW (f : Nat) (x0 : Nat) (x1 : Int) (x2 x3 : LI) (x4 : Int) (x5 : Nat) (x6 : LL) (x7 : List Bool) : Option (Nat × LI × LI × Int × Nat × LL) := qh qDi 0 [1, 3, 4, 5] [1, 3] (qG Tryz.f30 6) f ([.s (.ptr 0 0 none 0), .s (.sl 1 0 x0 true), .s (.ptr 2 0 none 0), .s (.i .i64 x1)]) ([.cells 28 [.arr .i8 81 x2, .arr .i8 16 x3, .one [.i .i8 x4]], .sli 53 false (.rows [.i .i64, .i .i64, .i .i64, .b] x5 x6), .cells 106 [Seg.barr 81 x7]]) qQV
theorem qms (f : Nat) (x0 : Nat) (x1 : Int) (x2 x3 : LI) (x4 : Int) (x5 : Nat) (x6 : LL) (x7 : List Bool) : qQW (f + 1) x0 x1 x2 x3 x4 x5 x6 x7 = qH2 (qQW f) x0 x1 x2 x3 x4 x5 x6 x7 := by kernel_rfl
theorem qZ6 : ∀ f, qQW f = qDk f
 | 0 => rfl
 | f + 1 => by funext x0 x1 x2 x3 x4 x5 x6 x7; rw [qms, qZ6 f]; rfl
def qQU (f : Nat) (x0 : Nat) (x1 x2 : Int) (x3 x4 : LI) (x5 : Int) (x6 : Nat) (x7 : LL) : Option (Nat × Int × LI × LI × Int × Nat × LL) := qh qDi 0 [1, 3, 8, 9] [1, 3, 8] (qG Tryz.f30 23) f ([.s (.ptr 0 0 none 0), .s (.sl 1 0 x0 true), .s (.i .i64 x1), .s (.i .i64 x2)]) ([.cells 28 [.arr .i8 81 x3, .arr .i8 16 x4, .one [.i .i8 x5]], .sli 53 false (.rows [.i .i64, .i .i64, .i .i64, .b] x6 x7)]) qQT
theorem qmr (f : Nat) (x0 : Nat) (x1 x2 : Int) (x3 x4 : LI) (x5 : Int) (x6 : Nat) (x7 : LL) : qQU (f + 1) x0 x1 x2 x3 x4 x5 x6 x7 = qH1 (qQU f) x0 x1 x2 x3 x4 x5 x6 x7 := by kernel_rfl
theorem qZ5 : ∀ f, qQU f = qFd f
 | 0 => rfl
 | f + 1 => by funext x0 x1 x2 x3 x4 x5 x6 x7; rw [qmr, qZ5 f]; rfl
def qQS (f : Nat) (x0 : Nat) (x1 : Int) (x2 x3 : LI) (x4 : Int) (x5 : Nat) (x6 : LL) : Option (Nat × Nat × LL) := qh qDi 0 [1, 3, 8] [3] (qG Tryz.f30 20) f ([.s (.ptr 0 0 none 0), .s (.sl 1 0 x0 true), .s (.i .i64 x1)]) ([.cells 28 [.arr .i8 81 x2, .arr .i8 16 x3, .one [.i .i8 x4]], .sli 53 false (.rows [.i .i64, .i .i64, .i .i64, .b] x5 x6)]) qQR
theorem qmq (f : Nat) (x0 : Nat) (x1 : Int) (x2 x3 : LI) (x4 : Int) (x5 : Nat) (x6 : LL) : qQS (f + 1) x0 x1 x2 x3 x4 x5 x6 = qH0 (qQS f) x0 x1 x2 x3 x4 x5 x6 := by kernel_rfl
theorem qZ4 : ∀ f, qQS f = qDj f
 | 0 => rfl
 | f + 1 => by funext x0 x1 x2 x3 x4 x5 x6; rw [qmq, qZ4 f]; rfl
theorem qmu : qf Tryz.prog qDi 0 (qG Tryz.f30 10) :=
 ql mixed qJU (qT.of (l' := []) (by kernel_rfl) trivial) (q := 10) (kin := [1, 3, 4, 5, 6]) (kout := [1, 3, 4, 5]) (by kernel_rfl) (by kernel_rfl) fun vs objs K r h => by
  replace h : qQY vs objs K = some r := h
  unfold qQY at h
  split at h
  ·skip
   obtain ⟨t, h1, h2⟩ := qE h
   rw [<- qZ3] at h1
   refine ⟨_, qQP, t, qC, h1, fun e vs' objs' hd => ?_⟩
   unfold qQP at hd;split at hd;(cases hd;exact h2);cases hd
  ·cases h
theorem qmw : qf Tryz.prog qDi 0 (qG Tryz.f30 23) :=
 ql mixed qJU (qT.of (l' := []) (by kernel_rfl) trivial) (q := 23) (kin := [1, 3, 8, 9]) (kout := [1, 3, 8]) (by kernel_rfl) (by kernel_rfl) fun vs objs K r h => by
  replace h : qQa vs objs K = some r := h
  unfold qQa at h
  split at h
  ·skip
   obtain ⟨t, h1, h2⟩ := qE h
   rw [<- qZ5] at h1
   refine ⟨_, qQT, t, qC, h1, fun e vs' objs' hd => ?_⟩
   unfold qQT at hd;split at hd;(cases hd;exact h2);cases hd
  ·cases h
theorem qmx : qf Tryz.prog qDi 0 (qG Tryz.f30 6) :=
 ql mixed qJU (qT.of (l' := [qG Tryz.f30 10]) (by kernel_rfl) ⟨qmu, trivial⟩) (q := 6) (kin := [1, 3, 4, 5]) (kout := [1, 3]) (by kernel_rfl) (by kernel_rfl) fun vs objs K r h => by
  replace h : qQb vs objs K = some r := h
  unfold qQb at h
  split at h
  ·skip
   obtain ⟨t, h1, h2⟩ := qE h
   rw [<- qZ6] at h1
   refine ⟨_, qQV, t, qC, h1, fun e vs' objs' hd => ?_⟩
   unfold qQV at hd;split at hd;(cases hd;exact h2);cases hd
  ·cases h
theorem qmv : qf Tryz.prog qDi 0 (qG Tryz.f30 20) :=
 ql mixed qJU (qT.of (l' := [qG Tryz.f30 23]) (by kernel_rfl) ⟨qmw, trivial⟩) (q := 20) (kin := [1, 3, 8]) (kout := [3]) (by kernel_rfl) (by kernel_rfl) fun vs objs K r h => by
  replace h : qQZ vs objs K = some r := h
  unfold qQZ at h
  split at h
  ·skip
   obtain ⟨t, h1, h2⟩ := qE h
   rw [<- qZ4] at h1
   refine ⟨_, qQR, t, qC, h1, fun e vs' objs' hd => ?_⟩
   unfold qQR at hd;split at hd;(cases hd;exact h2);cases hd
  ·cases h
def qZ2 : V -> List Obj -> Option (Nat × Nat × LL) := fun v objs => match v, objs with
 | .s (.sl 0 0 y0 true), [.sli 53 false (.rows [.i .i64, .i .i64, .i .i64, .b] y1 y2)] => some (y0, y1, y2)
 | _, _ => none
theorem qmo (x0 x1 : LI) (x2 : Int) : fnE qDi Tryz.f30 ([.agg [.arr .i8 81 x0, .arr .i8 16 x1, .one [.i .i8 x2]]]) ([]) qZ2 = qHy x0 x1 x2 := by kernel_rfl
def qZ1 : HA := fun o vs objs K => match vs, objs with
 | [.agg [.arr .i8 81 x0, .arr .i8 16 x1, .one [.i .i8 x2]]], [] => ob (qHy x0 x1 x2) fun z => K false (.s (.sl 0 0 (z.1) true)) ([.sli 53 false (.rows [.i .i64, .i .i64, .i .i64, .b] (z.2.1) (z.2.2))])
 | _, _ => o 30 vs objs K
def qQX (o : Orc) : Orc := qM 30 (qZ1 o) o
theorem qZ7 : OQ Tryz.prog qQX := fun _ ho => qP ho fun vs objs K r h => by
 unfold qZ1 at h
 split at h
 ·skip
  obtain ⟨t, h1, h2⟩ := qE h
  refine qAY mixed qJU (fn := Tryz.f30) (b := (Tryz.f30).body.getD .skip) (by kernel_rfl) (by kernel_rfl) (by kernel_rfl) ((qmo _ _ _).trans h1) (m := 0) rfl (qT.of (l' := [qG Tryz.f30 6, qG Tryz.f30 20]) (by kernel_rfl) ⟨qmx, qmv, trivial⟩) fun v objs' hd => ?_
  unfold qZ2 at hd;split at hd;(cases hd;exact h2);cases hd
 ·exact ho _ _ _ _ _ h
def qYm : Ctx := mkC 18 (qL) [] qV
theorem qlr : CtxOK Tryz.prog qYm := mkC_ok (qN)
def qYn : V -> List Obj -> Option (Int) := fun v objs => match v, objs with
 | .s (.i .i64 y0), [] => some (y0)
 | _, _ => none
theorem qlq (x0 : Int) : fnE qYm Tryz.f106 ([.s (.i .i64 x0)]) ([]) qYn = qHn x0 := by kernel_rfl
def qYl : HA := fun o vs objs K => match vs, objs with
 | [.s (.i .i64 x0)], [] => ob (qHn x0) fun y0 => K false (.s (.i .i64 y0)) ([])
 | _, _ => o 106 vs objs K
def qYo (o : Orc) : Orc := qM 106 (qYl o) o
theorem qls : OQ Tryz.prog qYo := fun _ ho => qP ho fun vs objs K r h => by
 unfold qYl at h
 split at h
 ·skip
  obtain ⟨t, h1, h2⟩ := qE h
  refine qc mixed qlr ((qlq _).trans h1) (by kernel_rfl) fun v objs' hd => ?_
  unfold qYn at hd;split at hd;(cases hd;exact h2);cases hd
 ·exact ho _ _ _ _ _ h
def qZu : Ctx := mkC 82 ((qYo (qEL qL))) [] qV
theorem qmk : CtxOK Tryz.prog qZu := mkC_ok ((qls _ (qFU _ qN)))
def qZv : V -> List Obj -> Option (LI × LI × Int) := fun v objs => match v, objs with
 | .agg [.arr .i8 81 y0, .arr .i8 16 y1, .one [.i .i8 y2]], [] => some (y0, y1, y2)
 | _, _ => none
theorem qmj (x0 x1 : LI) (x2 x3 : Int) (x4 x5 : Int) (x6 : Bool) : fnE qZu Tryz.f79 ([.agg [.arr .i8 81 x0, .arr .i8 16 x1, .one [.i .i8 x2]], .agg [.one [.i .i64 x3, .i .i64 x4, .i .i64 x5, .b x6]]]) ([]) qZv = qHx x0 x1 x2 x3 x4 x5 x6 := by kernel_rfl
def qZt : HA := fun o vs objs K => match vs, objs with
 | [.agg [.arr .i8 81 x0, .arr .i8 16 x1, .one [.i .i8 x2]], .agg [.one [.i .i64 x3, .i .i64 x4, .i .i64 x5, .b x6]]], [] => ob (qHx x0 x1 x2 x3 x4 x5 x6) fun z => K false (.agg [.arr .i8 81 (z.1), .arr .i8 16 (z.2.1), .one [.i .i8 (z.2.2)]]) ([])
 | _, _ => o 79 vs objs K
def qQO (o : Orc) : Orc := qM 79 (qZt o) o
theorem qZw : OQ Tryz.prog qQO := fun _ ho => qP ho fun vs objs K r h => by
 unfold qZt at h
 split at h
 ·skip
  obtain ⟨t, h1, h2⟩ := qE h
  refine qc mixed qmk ((qmj _ _ _ _ _ _ _).trans h1) (by kernel_rfl) fun v objs' hd => ?_
  unfold qZv at hd;split at hd;(cases hd;exact h2);cases hd
 ·exact ho _ _ _ _ _ h
end
end Go.Kk.KkST
