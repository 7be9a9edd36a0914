/- Printed by a tool of this project (KkGen): the program's functions come to the plain ones. -/
import Derived.Test.YtbeinkbjmmbloaaGreatDoorKkSTb
namespace Go.Kk.KkST
noncomputable section
open Go.Proofs Go.Kk.Pl
set_option maxRecDepth 100000
set_option maxHeartbeats 4000000
def qNZ : Ex -> List V -> List Obj -> Option ((Int × LI × LI × Int) ⊕ (LI × LI × Int)) := fun e vs objs => match e, vs, objs with
 | .ret, [.s (.ptr 0 0 none 0), .s (.i .i64 y0)], [.cells 28 [.arr .i8 81 y1, .arr .i8 16 y2, .one [.i .i8 y3]]] => some (.inl (y0, y1, y2, y3))
 | .exit 0, [.s (.ptr 0 0 none 0), .s .bad], [.cells 28 [.arr .i8 81 y0, .arr .i8 16 y1, .one [.i .i8 y2]]] => some (.inr (y0, y1, y2))
 | _, _, _ => none
def qNX : Ex -> List V -> List Obj -> Option ((Int × Int × LI × LI × Int × LL × LL) ⊕ (Int × LI × LI × Int × LL × LL)) := fun e vs objs => match e, vs, objs with
 | .ret, [.s (.i .i64 y0), .s (.ptr 0 0 none 0), .s (.i .i64 y1)], [.cells 49 [.arr .i8 81 y2, .arr .i8 16 y3, .one [.i .i8 y4], .rows [.i .u64, .i .u64] 32 y5, .rows [.i .u64, .i .u64] 2 y6]] => some (.inl (y0, y1, y2, y3, y4, y5, y6))
 | .exit 4, [.s .bad, .s (.ptr 0 0 none 0), .s (.i .i64 y0)], [.cells 49 [.arr .i8 81 y1, .arr .i8 16 y2, .one [.i .i8 y3], .rows [.i .u64, .i .u64] 32 y4, .rows [.i .u64, .i .u64] 2 y5]] => some (.inr (y0, y1, y2, y3, y4, y5))
 | _, _, _ => none
def qNb : Ex -> List V -> List Obj -> Option ((Int) ⊕ (Unit)) := fun e vs objs => match e, vs, objs with
 | .ret, [.s (.i .i64 y0)], [] => some (.inl (y0))
 | .exit 2, [.s .bad], [] => some (.inr ())
 | _, _, _ => none
def qNe : HL := fun vs objs K => match vs, objs with
 | [.s (.ptr 0 0 none 0), .agg [.arr .i8 81 x0], .s (.i .i64 x1)], [.cells 28 [.arr .i8 81 x2, .arr .i8 16 x3, .one [.i .i8 x4]]] => ob (qEy qC x0 x1 x2 x3 x4) fun t0 => sw t0 (fun z => K (.ret) ([.s (.ptr 0 0 none 0), .s (.i .i64 (z.1))]) ([.cells 28 [.arr .i8 81 (z.2.1), .arr .i8 16 (z.2.2.1), .one [.i .i8 (z.2.2.2)]]])) (fun z => K (.exit 0) ([.s (.ptr 0 0 none 0), .s .bad]) ([.cells 28 [.arr .i8 81 (z.1), .arr .i8 16 (z.2.1), .one [.i .i8 (z.2.2)]]]))
 | _, _ => none
def qNd : HL := fun vs objs K => match vs, objs with
 | [.s (.ptr 0 0 none 0), .s (.i .i64 x0), .s (.i .i64 x1), .s (.i .i64 x2)], [.cells 49 [.arr .i8 81 x3, .arr .i8 16 x4, .one [.i .i8 x5], .rows [.i .u64, .i .u64] 32 x6, .rows [.i .u64, .i .u64] 2 x7]] => ob (qEw qC x0 x1 x2 x3 x4 x5 x6 x7) fun t0 => sw t0 (fun z => K (.ret) ([.s (.i .i64 (z.1)), .s (.ptr 0 0 none 0), .s (.i .i64 (z.2.1))]) ([.cells 49 [.arr .i8 81 (z.2.2.1), .arr .i8 16 (z.2.2.2.1), .one [.i .i8 (z.2.2.2.2.1)], .rows [.i .u64, .i .u64] 32 (z.2.2.2.2.2.1), .rows [.i .u64, .i .u64] 2 (z.2.2.2.2.2.2)]])) (fun z => K (.exit 4) ([.s .bad, .s (.ptr 0 0 none 0), .s (.i .i64 (z.1))]) ([.cells 49 [.arr .i8 81 (z.2.1), .arr .i8 16 (z.2.2.1), .one [.i .i8 (z.2.2.2.1)], .rows [.i .u64, .i .u64] 32 (z.2.2.2.2.1), .rows [.i .u64, .i .u64] 2 (z.2.2.2.2.2)]]))
 | _, _ => none
def qNf : HL := fun vs objs K => match vs, objs with
 | [.s (.ptr 0 0 none 0), .s (.i .i64 x0)], [.cells 49 [.arr .i8 81 x1, .arr .i8 16 x2, .one [.i .i8 x3], .rows [.i .u64, .i .u64] 32 x4, .rows [.i .u64, .i .u64] 2 x5]] => ob (qEz qC x0 x1 x2 x3 x4 x5) fun t0 => sw t0 (fun y0 => K (.ret) ([.s (.i .i64 y0)]) ([])) (fun _ => K (.exit 2) ([.s .bad]) ([]))
 | _, _ => none
def qe2 : {R : Type} -> Nat -> List V -> List Obj -> (Ex -> List V -> List Obj -> Option R) -> Option R := fun q vs objs K => bif Nat.beq q 2 then qNe vs objs K else bif Nat.beq q 12 then qNd vs objs K else bif Nat.beq q 9 then qNf vs objs K else none
def qEv : Ctx := mkC 36 ((qL6 (qFh (qQ2 (qF1 (qIg (qMP qL))))))) [(2, [1, 9, 10], [1, 2]), (9, [5, 20], [2]), (12, [5, 6, 20, 23], [2, 5, 20])] qe2
theorem qKN : CtxOK Tryz.prog qEv := mkC_ok ((qQx _ (qGS _ (qbM _ (qGs _ (qKI _ (qRO _ qN)))))))
def qNa (f : Nat) (x0 : LI) (x1 : Int) (x2 x3 : LI) (x4 : Int) : Option ((Int × LI × LI × Int) ⊕ (LI × LI × Int)) := qg qEv 0 [1, 9, 10] [1, 2] (qG Tryz.f73 2) f ([.s (.ptr 0 0 none 0), .agg [.arr .i8 81 x0], .s (.i .i64 x1)]) ([.cells 28 [.arr .i8 81 x2, .arr .i8 16 x3, .one [.i .i8 x4]]]) qNZ
theorem qe0 (f : Nat) (x0 : LI) (x1 : Int) (x2 x3 : LI) (x4 : Int) : qNa (f + 1) x0 x1 x2 x3 x4 = qGv (qNa f) x0 x1 x2 x3 x4 := by kernel_rfl
theorem qTW : ∀ f, qNa f = qEy f
 | 0 => rfl
 | f + 1 => by funext x0 x1 x2 x3 x4; rw [qe0, qTW f]; rfl
def qNY (f : Nat) (x0 x1 x2 : Int) (x3 x4 : LI) (x5 : Int) (x6 x7 : LL) : Option ((Int × Int × LI × LI × Int × LL × LL) ⊕ (Int × LI × LI × Int × LL × LL)) := qg qEv 0 [5, 6, 20, 23] [2, 5, 20] (qG Tryz.f73 12) f ([.s (.ptr 0 0 none 0), .s (.i .i64 x0), .s (.i .i64 x1), .s (.i .i64 x2)]) ([.cells 49 [.arr .i8 81 x3, .arr .i8 16 x4, .one [.i .i8 x5], .rows [.i .u64, .i .u64] 32 x6, .rows [.i .u64, .i .u64] 2 x7]]) qNX
theorem qez (f : Nat) (x0 x1 x2 : Int) (x3 x4 : LI) (x5 : Int) (x6 x7 : LL) : qNY (f + 1) x0 x1 x2 x3 x4 x5 x6 x7 = qEx (qNY f) x0 x1 x2 x3 x4 x5 x6 x7 := by kernel_rfl
theorem qTV : ∀ f, qNY f = qEw f
 | 0 => rfl
 | f + 1 => by funext x0 x1 x2 x3 x4 x5 x6 x7; rw [qez, qTV f]; rfl
def qNc (f : Nat) (x0 : Int) (x1 x2 : LI) (x3 : Int) (x4 x5 : LL) : Option ((Int) ⊕ (Unit)) := qg qEv 0 [5, 20] [2] (qG Tryz.f73 9) f ([.s (.ptr 0 0 none 0), .s (.i .i64 x0)]) ([.cells 49 [.arr .i8 81 x1, .arr .i8 16 x2, .one [.i .i8 x3], .rows [.i .u64, .i .u64] 32 x4, .rows [.i .u64, .i .u64] 2 x5]]) qNb
theorem qe1 (f : Nat) (x0 : Int) (x1 x2 : LI) (x3 : Int) (x4 x5 : LL) : qNc (f + 1) x0 x1 x2 x3 x4 x5 = qGw (qNc f) x0 x1 x2 x3 x4 x5 := by kernel_rfl
theorem qTX : ∀ f, qNc f = qEz f
 | 0 => rfl
 | f + 1 => by funext x0 x1 x2 x3 x4 x5; rw [qe1, qTX f]; rfl
theorem qe5 : qe Tryz.prog qEv 0 (qG Tryz.f73 2) :=
 qk mixed qKN (qT.of (l' := []) (by kernel_rfl) trivial) (q := 2) (kin := [1, 9, 10]) (kout := [1, 2]) (by kernel_rfl) (by kernel_rfl) fun vs objs K r h => by
  replace h : qNe vs objs K = some r := h
  unfold qNe at h
  split at h
  ·skip
   obtain ⟨t, h1, h2⟩ := qE h
   rw [<- qTW] at h1
   refine ⟨_, qNZ, t, qC, h1, fun e vs' objs' hd => ?_⟩
   unfold qNZ at hd
   split at hd
   ·skip
    cases hd
    exact h2
   ·skip
    cases hd
    exact h2
   ·cases hd
  ·cases h
theorem qe4 : qe Tryz.prog qEv 0 (qG Tryz.f73 12) :=
 qk mixed qKN (qT.of (l' := []) (by kernel_rfl) trivial) (q := 12) (kin := [5, 6, 20, 23]) (kout := [2, 5, 20]) (by kernel_rfl) (by kernel_rfl) fun vs objs K r h => by
  replace h : qNd vs objs K = some r := h
  unfold qNd at h
  split at h
  ·skip
   obtain ⟨t, h1, h2⟩ := qE h
   rw [<- qTV] at h1
   refine ⟨_, qNX, t, qC, h1, fun e vs' objs' hd => ?_⟩
   unfold qNX at hd
   split at hd
   ·skip
    cases hd
    exact h2
   ·skip
    cases hd
    exact h2
   ·cases hd
  ·cases h
theorem qe6 : qe Tryz.prog qEv 0 (qG Tryz.f73 9) :=
 qk mixed qKN (qT.of (l' := [qG Tryz.f73 12]) (by kernel_rfl) ⟨qe4, trivial⟩) (q := 9) (kin := [5, 20]) (kout := [2]) (by kernel_rfl) (by kernel_rfl) fun vs objs K r h => by
  replace h : qNf vs objs K = some r := h
  unfold qNf at h
  split at h
  ·skip
   obtain ⟨t, h1, h2⟩ := qE h
   rw [<- qTX] at h1
   refine ⟨_, qNb, t, qC, h1, fun e vs' objs' hd => ?_⟩
   unfold qNb at hd
   split at hd
   ·skip
    cases hd
    exact h2
   ·skip
    cases hd
    exact h2
   ·cases hd
  ·cases h
def qTU : V -> List Obj -> Option (Int) := fun v objs => match v, objs with
 | .s (.i .i64 y0), [] => some (y0)
 | _, _ => none
theorem qey (x0 x1 : LI) (x2 : Int) : fnE qEv Tryz.f73 ([.agg [.arr .i8 81 x0, .arr .i8 16 x1, .one [.i .i8 x2]]]) ([]) qTU = qF4 x0 x1 x2 := by kernel_rfl
def qTT : HA := fun o vs objs K => match vs, objs with
 | [.agg [.arr .i8 81 x0, .arr .i8 16 x1, .one [.i .i8 x2]]], [] => ob (qF4 x0 x1 x2) fun y0 => K false (.s (.i .i64 y0)) ([])
 | _, _ => o 73 vs objs K
def qTY (o : Orc) : Orc := qM 73 (qTT o) o
theorem qe3 : OQ Tryz.prog qTY := fun _ ho => qP ho fun vs objs K r h => by
 unfold qTT at h
 split at h
 ·skip
  obtain ⟨t, h1, h2⟩ := qE h
  refine qAX mixed qKN (fn := Tryz.f73) (b := (Tryz.f73).body.getD .skip) (by kernel_rfl) (by kernel_rfl) (by kernel_rfl) ((qey _ _ _).trans h1) (m := 0) rfl (qT.of (l' := [qG Tryz.f73 2, qG Tryz.f73 9]) (by kernel_rfl) ⟨qe5, qe6, trivial⟩) fun v objs' hd => ?_
  unfold qTU at hd;split at hd;(cases hd;exact h2);cases hd
 ·exact ho _ _ _ _ _ h
def qND : Ex -> List V -> List Obj -> Option ((Int × LI × LI × Int × LI × LI) ⊕ (LI × LI × Int × LI × LI)) := fun e vs objs => match e, vs, objs with
 | .ret, [.s (.ptr 0 0 none 0), .s (.i .i64 y0), .s (.ptr 1 0 none 0), .s (.ptr 2 0 none 0)], [.cells 28 [.arr .i8 81 y1, .arr .i8 16 y2, .one [.i .i8 y3]], .cells 72 [.arr .i64 9 y4], .cells 105 [.arr .i64 2 y5]] => some (.inl (y0, y1, y2, y3, y4, y5))
 | .exit 0, [.s (.ptr 0 0 none 0), .s .bad, .s (.ptr 1 0 none 0), .s (.ptr 2 0 none 0)], [.cells 28 [.arr .i8 81 y0, .arr .i8 16 y1, .one [.i .i8 y2]], .cells 72 [.arr .i64 9 y3], .cells 105 [.arr .i64 2 y4]] => some (.inr (y0, y1, y2, y3, y4))
 | _, _, _ => none
def qM9 : Ex -> List V -> List Obj -> Option ((Int × LI × Int × LI × LI × Int × LI × LI) ⊕ (LI × Int × LI × LI × Int × LI × LI)) := fun e vs objs => match e, vs, objs with
 | .ret, [.s (.ptr 0 0 none 0), .s (.i .i64 y0), .s (.ptr 1 0 none 0), .s (.ptr 2 0 none 0), .agg [.arr .i8 16 y1], .s (.i .i64 y2)], [.cells 28 [.arr .i8 81 y3, .arr .i8 16 y4, .one [.i .i8 y5]], .cells 72 [.arr .i64 9 y6], .cells 105 [.arr .i64 2 y7]] => some (.inl (y0, y1, y2, y3, y4, y5, y6, y7))
 | .exit 9, [.s (.ptr 0 0 none 0), .s .bad, .s (.ptr 1 0 none 0), .s (.ptr 2 0 none 0), .agg [.arr .i8 16 y0], .s (.i .i64 y1)], [.cells 28 [.arr .i8 81 y2, .arr .i8 16 y3, .one [.i .i8 y4]], .cells 72 [.arr .i64 9 y5], .cells 105 [.arr .i64 2 y6]] => some (.inr (y0, y1, y2, y3, y4, y5, y6))
 | _, _, _ => none
def qM7 : Ex -> List V -> List Obj -> Option ((Int × LI × LI × Int × LI × LI) ⊕ (LI × LI × Int × LI × LI)) := fun e vs objs => match e, vs, objs with
 | .ret, [.s (.ptr 0 0 none 0), .s (.i .i64 y0), .s (.ptr 1 0 none 0), .s (.ptr 2 0 none 0)], [.cells 28 [.arr .i8 81 y1, .arr .i8 16 y2, .one [.i .i8 y3]], .cells 72 [.arr .i64 9 y4], .cells 105 [.arr .i64 2 y5]] => some (.inl (y0, y1, y2, y3, y4, y5))
 | .exit 7, [.s (.ptr 0 0 none 0), .s .bad, .s (.ptr 1 0 none 0), .s (.ptr 2 0 none 0)], [.cells 28 [.arr .i8 81 y0, .arr .i8 16 y1, .one [.i .i8 y2]], .cells 72 [.arr .i64 9 y3], .cells 105 [.arr .i64 2 y4]] => some (.inr (y0, y1, y2, y3, y4))
 | _, _, _ => none
def qNB : Ex -> List V -> List Obj -> Option ((Int × LI × LI × Int) ⊕ (LI × LI × Int)) := fun e vs objs => match e, vs, objs with
 | .ret, [.s (.ptr 0 0 none 0), .s (.i .i64 y0)], [.cells 28 [.arr .i8 81 y1, .arr .i8 16 y2, .one [.i .i8 y3]]] => some (.inl (y0, y1, y2, y3))
 | .exit 11, [.s (.ptr 0 0 none 0), .s .bad], [.cells 28 [.arr .i8 81 y0, .arr .i8 16 y1, .one [.i .i8 y2]]] => some (.inr (y0, y1, y2))
 | _, _, _ => none
def qNI : HL := fun vs objs K => match vs, objs with
 | [.s (.ptr 0 0 none 0), .s (.ptr 1 0 none 0), .s (.ptr 2 0 none 0), .agg [.arr .i8 81 x0], .s (.i .i64 x1)], [.cells 28 [.arr .i8 81 x2, .arr .i8 16 x3, .one [.i .i8 x4]], .cells 72 [.arr .i64 9 x5], .cells 105 [.arr .i64 2 x6]] => ob (qCG qC x0 x1 x2 x3 x4 x5 x6) fun t0 => sw t0 (fun z => K (.ret) ([.s (.ptr 0 0 none 0), .s (.i .i64 (z.1)), .s (.ptr 1 0 none 0), .s (.ptr 2 0 none 0)]) ([.cells 28 [.arr .i8 81 (z.2.1), .arr .i8 16 (z.2.2.1), .one [.i .i8 (z.2.2.2.1)]], .cells 72 [.arr .i64 9 (z.2.2.2.2.1)], .cells 105 [.arr .i64 2 (z.2.2.2.2.2)]])) (fun z => K (.exit 0) ([.s (.ptr 0 0 none 0), .s .bad, .s (.ptr 1 0 none 0), .s (.ptr 2 0 none 0)]) ([.cells 28 [.arr .i8 81 (z.1), .arr .i8 16 (z.2.1), .one [.i .i8 (z.2.2.1)]], .cells 72 [.arr .i64 9 (z.2.2.2.1)], .cells 105 [.arr .i64 2 (z.2.2.2.2)]]))
 | _, _ => none
def qNG : HL := fun vs objs K => match vs, objs with
 | [.s (.ptr 0 0 none 0), .s (.ptr 1 0 none 0), .s (.ptr 2 0 none 0), .agg [.arr .i8 16 x0], .s (.i .i64 x1), .agg [.arr .i8 8 x2], .s (.i .i64 x3)], [.cells 28 [.arr .i8 81 x4, .arr .i8 16 x5, .one [.i .i8 x6]], .cells 72 [.arr .i64 9 x7], .cells 105 [.arr .i64 2 x8]] => ob (qCs qC x0 x1 x2 x3 x4 x5 x6 x7 x8) fun t0 => sw t0 (fun z => K (.ret) ([.s (.ptr 0 0 none 0), .s (.i .i64 (z.1)), .s (.ptr 1 0 none 0), .s (.ptr 2 0 none 0), .agg [.arr .i8 16 (z.2.1)], .s (.i .i64 (z.2.2.1))]) ([.cells 28 [.arr .i8 81 (z.2.2.2.1), .arr .i8 16 (z.2.2.2.2.1), .one [.i .i8 (z.2.2.2.2.2.1)]], .cells 72 [.arr .i64 9 (z.2.2.2.2.2.2.1)], .cells 105 [.arr .i64 2 (z.2.2.2.2.2.2.2)]])) (fun z => K (.exit 9) ([.s (.ptr 0 0 none 0), .s .bad, .s (.ptr 1 0 none 0), .s (.ptr 2 0 none 0), .agg [.arr .i8 16 (z.1)], .s (.i .i64 (z.2.1))]) ([.cells 28 [.arr .i8 81 (z.2.2.1), .arr .i8 16 (z.2.2.2.1), .one [.i .i8 (z.2.2.2.2.1)]], .cells 72 [.arr .i64 9 (z.2.2.2.2.2.1)], .cells 105 [.arr .i64 2 (z.2.2.2.2.2.2)]]))
 | _, _ => none
def qNF : HL := fun vs objs K => match vs, objs with
 | [.s (.ptr 0 0 none 0), .s (.ptr 1 0 none 0), .s (.ptr 2 0 none 0), .agg [.arr .i8 16 x0], .s (.i .i64 x1)], [.cells 28 [.arr .i8 81 x2, .arr .i8 16 x3, .one [.i .i8 x4]], .cells 72 [.arr .i64 9 x5], .cells 105 [.arr .i64 2 x6]] => ob (qCX qC x0 x1 x2 x3 x4 x5 x6) fun t0 => sw t0 (fun z => K (.ret) ([.s (.ptr 0 0 none 0), .s (.i .i64 (z.1)), .s (.ptr 1 0 none 0), .s (.ptr 2 0 none 0)]) ([.cells 28 [.arr .i8 81 (z.2.1), .arr .i8 16 (z.2.2.1), .one [.i .i8 (z.2.2.2.1)]], .cells 72 [.arr .i64 9 (z.2.2.2.2.1)], .cells 105 [.arr .i64 2 (z.2.2.2.2.2)]])) (fun z => K (.exit 7) ([.s (.ptr 0 0 none 0), .s .bad, .s (.ptr 1 0 none 0), .s (.ptr 2 0 none 0)]) ([.cells 28 [.arr .i8 81 (z.1), .arr .i8 16 (z.2.1), .one [.i .i8 (z.2.2.1)]], .cells 72 [.arr .i64 9 (z.2.2.2.1)], .cells 105 [.arr .i64 2 (z.2.2.2.2)]]))
 | _, _ => none
def qNH : HL := fun vs objs K => match vs, objs with
 | [.s (.ptr 0 0 none 0), .s (.ptr 1 0 none 0), .s (.i .i64 x0)], [.cells 28 [.arr .i8 81 x1, .arr .i8 16 x2, .one [.i .i8 x3]], .cells 72 [.arr .i64 9 x4]] => ob (qDL qC x0 x1 x2 x3 x4) fun t0 => sw t0 (fun z => K (.ret) ([.s (.ptr 0 0 none 0), .s (.i .i64 (z.1))]) ([.cells 28 [.arr .i8 81 (z.2.1), .arr .i8 16 (z.2.2.1), .one [.i .i8 (z.2.2.2)]]])) (fun z => K (.exit 11) ([.s (.ptr 0 0 none 0), .s .bad]) ([.cells 28 [.arr .i8 81 (z.1), .arr .i8 16 (z.2.1), .one [.i .i8 (z.2.2)]]]))
 | _, _ => none
def qeP : {R : Type} -> Nat -> List V -> List Obj -> (Ex -> List V -> List Obj -> Option R) -> Option R := fun q vs objs K => bif Nat.beq q 6 then qNI vs objs K else bif Nat.beq q 20 then qNG vs objs K else bif Nat.beq q 17 then qNF vs objs K else bif Nat.beq q 30 then qNH vs objs K else none
def qDJ : Ctx := mkC 98 ((qTY (qX5 (qJI (qDc (qCO qL)))))) [(6, [1, 3, 4, 22, 23], [1, 2, 3, 4]), (17, [1, 3, 4, 51, 52], [1, 2, 3, 4]), (20, [1, 3, 4, 51, 52, 55, 56], [1, 2, 3, 4, 51, 52]), (30, [1, 3, 12], [1, 2])] qeP
theorem qIf : CtxOK Tryz.prog qDJ := mkC_ok ((qe3 _ (qk2 _ (qLV _ (qEG _ (qCh _ qN))))))
def qNE (f : Nat) (x0 : LI) (x1 : Int) (x2 x3 : LI) (x4 : Int) (x5 x6 : LI) : Option ((Int × LI × LI × Int × LI × LI) ⊕ (LI × LI × Int × LI × LI)) := qg qDJ 0 [1, 3, 4, 22, 23] [1, 2, 3, 4] (qG Tryz.f28 6) f ([.s (.ptr 0 0 none 0), .s (.ptr 1 0 none 0), .s (.ptr 2 0 none 0), .agg [.arr .i8 81 x0], .s (.i .i64 x1)]) ([.cells 28 [.arr .i8 81 x2, .arr .i8 16 x3, .one [.i .i8 x4]], .cells 72 [.arr .i64 9 x5], .cells 105 [.arr .i64 2 x6]]) qND
theorem qeO (f : Nat) (x0 : LI) (x1 : Int) (x2 x3 : LI) (x4 : Int) (x5 x6 : LI) : qNE (f + 1) x0 x1 x2 x3 x4 x5 x6 = qEu (qNE f) x0 x1 x2 x3 x4 x5 x6 := by kernel_rfl
theorem qSo : ∀ f, qNE f = qCG f
 | 0 => rfl
 | f + 1 => by funext x0 x1 x2 x3 x4 x5 x6; rw [qeO, qSo f]; rfl
def qNA (f : Nat) (x0 : LI) (x1 : Int) (x2 : LI) (x3 : Int) (x4 x5 : LI) (x6 : Int) (x7 x8 : LI) : Option ((Int × LI × Int × LI × LI × Int × LI × LI) ⊕ (LI × Int × LI × LI × Int × LI × LI)) := qg qDJ 0 [1, 3, 4, 51, 52, 55, 56] [1, 2, 3, 4, 51, 52] (qG Tryz.f28 20) f ([.s (.ptr 0 0 none 0), .s (.ptr 1 0 none 0), .s (.ptr 2 0 none 0), .agg [.arr .i8 16 x0], .s (.i .i64 x1), .agg [.arr .i8 8 x2], .s (.i .i64 x3)]) ([.cells 28 [.arr .i8 81 x4, .arr .i8 16 x5, .one [.i .i8 x6]], .cells 72 [.arr .i64 9 x7], .cells 105 [.arr .i64 2 x8]]) qM9
theorem qeM (f : Nat) (x0 : LI) (x1 : Int) (x2 : LI) (x3 : Int) (x4 x5 : LI) (x6 : Int) (x7 x8 : LI) : qNA (f + 1) x0 x1 x2 x3 x4 x5 x6 x7 x8 = qEt (qNA f) x0 x1 x2 x3 x4 x5 x6 x7 x8 := by kernel_rfl
theorem qSm : ∀ f, qNA f = qCs f
 | 0 => rfl
 | f + 1 => by funext x0 x1 x2 x3 x4 x5 x6 x7 x8; rw [qeM, qSm f]; rfl
def qM8 (f : Nat) (x0 : LI) (x1 : Int) (x2 x3 : LI) (x4 : Int) (x5 x6 : LI) : Option ((Int × LI × LI × Int × LI × LI) ⊕ (LI × LI × Int × LI × LI)) := qg qDJ 0 [1, 3, 4, 51, 52] [1, 2, 3, 4] (qG Tryz.f28 17) f ([.s (.ptr 0 0 none 0), .s (.ptr 1 0 none 0), .s (.ptr 2 0 none 0), .agg [.arr .i8 16 x0], .s (.i .i64 x1)]) ([.cells 28 [.arr .i8 81 x2, .arr .i8 16 x3, .one [.i .i8 x4]], .cells 72 [.arr .i64 9 x5], .cells 105 [.arr .i64 2 x6]]) qM7
theorem qeL (f : Nat) (x0 : LI) (x1 : Int) (x2 x3 : LI) (x4 : Int) (x5 x6 : LI) : qM8 (f + 1) x0 x1 x2 x3 x4 x5 x6 = qDK (qM8 f) x0 x1 x2 x3 x4 x5 x6 := by kernel_rfl
theorem qSl : ∀ f, qM8 f = qCX f
 | 0 => rfl
 | f + 1 => by funext x0 x1 x2 x3 x4 x5 x6; rw [qeL, qSl f]; rfl
def qNC (f : Nat) (x0 : Int) (x1 x2 : LI) (x3 : Int) (x4 : LI) : Option ((Int × LI × LI × Int) ⊕ (LI × LI × Int)) := qg qDJ 0 [1, 3, 12] [1, 2] (qG Tryz.f28 30) f ([.s (.ptr 0 0 none 0), .s (.ptr 1 0 none 0), .s (.i .i64 x0)]) ([.cells 28 [.arr .i8 81 x1, .arr .i8 16 x2, .one [.i .i8 x3]], .cells 72 [.arr .i64 9 x4]]) qNB
theorem qeN (f : Nat) (x0 : Int) (x1 x2 : LI) (x3 : Int) (x4 : LI) : qNC (f + 1) x0 x1 x2 x3 x4 = qGq (qNC f) x0 x1 x2 x3 x4 := by kernel_rfl
theorem qSn : ∀ f, qNC f = qDL f
 | 0 => rfl
 | f + 1 => by funext x0 x1 x2 x3 x4; rw [qeN, qSn f]; rfl
theorem qeU : qe Tryz.prog qDJ 0 (qG Tryz.f28 6) :=
 qk mixed qIf (qT.of (l' := []) (by kernel_rfl) trivial) (q := 6) (kin := [1, 3, 4, 22, 23]) (kout := [1, 2, 3, 4]) (by kernel_rfl) (by kernel_rfl) fun vs objs K r h => by
  replace h : qNI vs objs K = some r := h
  unfold qNI at h
  split at h
  ·skip
   obtain ⟨t, h1, h2⟩ := qE h
   rw [<- qSo] at h1
   refine ⟨_, qND, t, qC, h1, fun e vs' objs' hd => ?_⟩
   unfold qND at hd
   split at hd
   ·skip
    cases hd
    exact h2
   ·skip
    cases hd
    exact h2
   ·cases hd
  ·cases h
theorem qeS : qe Tryz.prog qDJ 0 (qG Tryz.f28 20) :=
 qk mixed qIf (qT.of (l' := []) (by kernel_rfl) trivial) (q := 20) (kin := [1, 3, 4, 51, 52, 55, 56]) (kout := [1, 2, 3, 4, 51, 52]) (by kernel_rfl) (by kernel_rfl) fun vs objs K r h => by
  replace h : qNG vs objs K = some r := h
  unfold qNG at h
  split at h
  ·skip
   obtain ⟨t, h1, h2⟩ := qE h
   rw [<- qSm] at h1
   refine ⟨_, qM9, t, qC, h1, fun e vs' objs' hd => ?_⟩
   unfold qM9 at hd
   split at hd
   ·skip
    cases hd
    exact h2
   ·skip
    cases hd
    exact h2
   ·cases hd
  ·cases h
theorem qeT : qe Tryz.prog qDJ 0 (qG Tryz.f28 30) :=
 qk mixed qIf (qT.of (l' := []) (by kernel_rfl) trivial) (q := 30) (kin := [1, 3, 12]) (kout := [1, 2]) (by kernel_rfl) (by kernel_rfl) fun vs objs K r h => by
  replace h : qNH vs objs K = some r := h
  unfold qNH at h
  split at h
  ·skip
   obtain ⟨t, h1, h2⟩ := qE h
   rw [<- qSn] at h1
   refine ⟨_, qNB, t, qC, h1, fun e vs' objs' hd => ?_⟩
   unfold qNB at hd
   split at hd
   ·skip
    cases hd
    exact h2
   ·skip
    cases hd
    exact h2
   ·cases hd
  ·cases h
theorem qeR : qe Tryz.prog qDJ 0 (qG Tryz.f28 17) :=
 qk mixed qIf (qT.of (l' := [qG Tryz.f28 20]) (by kernel_rfl) ⟨qeS, trivial⟩) (q := 17) (kin := [1, 3, 4, 51, 52]) (kout := [1, 2, 3, 4]) (by kernel_rfl) (by kernel_rfl) fun vs objs K r h => by
  replace h : qNF vs objs K = some r := h
  unfold qNF at h
  split at h
  ·skip
   obtain ⟨t, h1, h2⟩ := qE h
   rw [<- qSl] at h1
   refine ⟨_, qM7, t, qC, h1, fun e vs' objs' hd => ?_⟩
   unfold qM7 at hd
   split at hd
   ·skip
    cases hd
    exact h2
   ·skip
    cases hd
    exact h2
   ·cases hd
  ·cases h
def qSk : V -> List Obj -> Option (Int) := fun v objs => match v, objs with
 | .s (.i .i64 y0), [] => some (y0)
 | _, _ => none
theorem qeK (x0 x1 : LI) (x2 : Int) : fnE qDJ Tryz.f28 ([.agg [.arr .i8 81 x0, .arr .i8 16 x1, .one [.i .i8 x2]]]) ([]) qSk = qIe x0 x1 x2 := by kernel_rfl
def qSj : HA := fun o vs objs K => match vs, objs with
 | [.agg [.arr .i8 81 x0, .arr .i8 16 x1, .one [.i .i8 x2]]], [] => ob (qIe x0 x1 x2) fun y0 => K false (.s (.i .i64 y0)) ([])
 | _, _ => o 28 vs objs K
def qSp (o : Orc) : Orc := qM 28 (qSj o) o
theorem qeQ : OQ Tryz.prog qSp := fun _ ho => qP ho fun vs objs K r h => by
 unfold qSj at h
 split at h
 ·skip
  obtain ⟨t, h1, h2⟩ := qE h
  refine qAX mixed qIf (fn := Tryz.f28) (b := (Tryz.f28).body.getD .skip) (by kernel_rfl) (by kernel_rfl) (by kernel_rfl) ((qeK _ _ _).trans h1) (m := 0) rfl (qT.of (l' := [qG Tryz.f28 6, qG Tryz.f28 17, qG Tryz.f28 30]) (by kernel_rfl) ⟨qeU, qeR, qeT, trivial⟩) fun v objs' hd => ?_
  unfold qSk at hd;split at hd;(cases hd;exact h2);cases hd
 ·exact ho _ _ _ _ _ h
def qSJ : Ctx := mkC 10 ((qID (qJ7 qL))) [] qV
theorem qdh : CtxOK Tryz.prog qSJ := mkC_ok ((qJe _ (qMm _ qN)))
def qSK : V -> List Obj -> Option (Bool) := fun v objs => match v, objs with
 | .s (.b y0), [] => some (y0)
 | _, _ => none
theorem qdg (x0 : Int) (x1 x2 : LI) (x3 : Int) (x4 x5 : LL) : fnE qSJ Tryz.f29 ([.s (.ptr 0 0 none 0), .s (.i .i64 x0)]) ([.rcells 49 [.arr .i8 81 x1, .arr .i8 16 x2, .one [.i .i8 x3], .rows [.i .u64, .i .u64] 32 x4, .rows [.i .u64, .i .u64] 2 x5]]) (qAZ 1 qSK) = qIb x0 x1 x2 x3 x4 x5 := by kernel_rfl
def qSI : HA := fun o vs objs K => match vs, List.map Obj.toRO objs with
 | [.s (.ptr 0 0 none 0), .s (.i .i64 x0)], [.rcells 49 [.arr .i8 81 x1, .arr .i8 16 x2, .one [.i .i8 x3], .rows [.i .u64, .i .u64] 32 x4, .rows [.i .u64, .i .u64] 2 x5]] => ob (qIb x0 x1 x2 x3 x4 x5) fun y0 => K true (.s (.b y0)) ([])
 | _, _ => o 29 vs objs K
def qSL (o : Orc) : Orc := qM 29 (qSI o) o
theorem qdi : OQ Tryz.prog qSL := fun _ ho => qP ho fun vs objs K r h => by
 unfold qSI at h
 split at h
 ·skip
  have hq : List.map Obj.toRO objs = _ := (by rename_i hq; first | exact hq | assumption)
  obtain ⟨t, h1, h2⟩ := qE h
  refine qAh mixed qdh (m := 1) (fn := Tryz.f29) (b := (Tryz.f29).body.getD .skip) (by kernel_rfl) (by kernel_rfl) (by kernel_rfl) hq (by kernel_rfl) (by kernel_rfl) (qT.of (l' := []) (by kernel_rfl) trivial) ((qdg _ _ _ _ _ _).trans h1) fun v objs' hd => ?_
  unfold qSK at hd;split at hd;(cases hd;exact h2);cases hd
 ·exact ho _ _ _ _ _ h
def qSC : Ctx := mkC 16 ((qSL (qIg (qSp qL)))) [] qV
theorem qdc : CtxOK Tryz.prog qSC := mkC_ok ((qdi _ (qKI _ (qeQ _ qN))))
def qSD : V -> List Obj -> Option (Int) := fun v objs => match v, objs with
 | .s (.i .i64 y0), [] => some (y0)
 | _, _ => none
theorem qdb (x0 x1 : LI) (x2 : Int) : fnE qSC Tryz.f7 ([.agg [.arr .i8 81 x0, .arr .i8 16 x1, .one [.i .i8 x2]]]) ([]) qSD = qDv x0 x1 x2 := by kernel_rfl
def qSB : HA := fun o vs objs K => match vs, objs with
 | [.agg [.arr .i8 81 x0, .arr .i8 16 x1, .one [.i .i8 x2]]], [] => ob (qDv x0 x1 x2) fun y0 => K false (.s (.i .i64 y0)) ([])
 | _, _ => o 7 vs objs K
def qSH (o : Orc) : Orc := qM 7 (qSB o) o
theorem qdf : OQ Tryz.prog qSH := fun _ ho => qP ho fun vs objs K r h => by
 unfold qSB at h
 split at h
 ·skip
  obtain ⟨t, h1, h2⟩ := qE h
  refine any0K mixed qdc ((qdb _ _ _).trans h1) (by kernel_rfl) fun v objs' hd => ?_
  unfold qSD at hd;split at hd;(cases hd;exact h2);cases hd
 ·exact ho _ _ _ _ _ h
def qV1 : Ctx := mkC 19 (qL) [] qV
theorem qh5 : CtxOK Tryz.prog qV1 := mkC_ok (qN)
def qV2 : V -> List Obj -> Option (Int) := fun v objs => match v, objs with
 | .s (.i .u64 y0), [] => some (y0)
 | _, _ => none
theorem qh4 (x0 : Int) : fnE qV1 Tryz.f84 ([.s (.i .u64 x0)]) ([]) qV2 = qDY x0 := by kernel_rfl
def qV0 : HA := fun o vs objs K => match vs, objs with
 | [.s (.i .u64 x0)], [] => ob (qDY x0) fun y0 => K false (.s (.i .u64 y0)) ([])
 | _, _ => o 84 vs objs K
def qKu (o : Orc) : Orc := qM 84 (qV0 o) o
theorem qOj : OQ Tryz.prog qKu := fun _ ho => qP ho fun vs objs K r h => by
 unfold qV0 at h
 split at h
 ·skip
  obtain ⟨t, h1, h2⟩ := qE h
  refine any0K mixed qh5 ((qh4 _).trans h1) (by kernel_rfl) fun v objs' hd => ?_
  unfold qV2 at hd;split at hd;(cases hd;exact h2);cases hd
 ·exact ho _ _ _ _ _ h
def qVq : Ctx := mkC 23 ((qKu (qCO qL))) [] qV
theorem qh1 : CtxOK Tryz.prog qVq := mkC_ok ((qOj _ (qCh _ qN)))
def qVr : V -> List Obj -> Option (Int) := fun v objs => match v, objs with
 | .s (.i .u64 y0), [] => some (y0)
 | _, _ => none
theorem qh0 (x0 x1 : Int) : fnE qVq Tryz.f46 ([.s (.i .i64 x0), .s (.i .i8 x1)]) ([]) qVr = qB5 x0 x1 := by kernel_rfl
def qVp : HA := fun o vs objs K => match vs, objs with
 | [.s (.i .i64 x0), .s (.i .i8 x1)], [] => ob (qB5 x0 x1) fun y0 => K false (.s (.i .u64 y0)) ([])
 | _, _ => o 46 vs objs K
def qOh (o : Orc) : Orc := qM 46 (qVp o) o
theorem qVs : OQ Tryz.prog qOh := fun _ ho => qP ho fun vs objs K r h => by
 unfold qVp at h
 split at h
 ·skip
  obtain ⟨t, h1, h2⟩ := qE h
  refine any0K mixed qh1 ((qh0 _ _).trans h1) (by kernel_rfl) fun v objs' hd => ?_
  unfold qVr at hd;split at hd;(cases hd;exact h2);cases hd
 ·exact ho _ _ _ _ _ h
def qVg : Ctx := mkC 41 ((qKu qL)) [] qV
theorem qhr : CtxOK Tryz.prog qVg := mkC_ok ((qOj _ qN))
def qVh : V -> List Obj -> Option (Int) := fun v objs => match v, objs with
 | .s (.i .u64 y0), [] => some (y0)
 | _, _ => none
theorem qhq (x0 x1 x2 : Int) : fnE qVg Tryz.f47 ([.s (.i .i64 x0), .s (.i .i64 x1), .s (.i .i64 x2)]) ([]) qVh = qCd x0 x1 x2 := by kernel_rfl
def qVf : HA := fun o vs objs K => match vs, objs with
 | [.s (.i .i64 x0), .s (.i .i64 x1), .s (.i .i64 x2)], [] => ob (qCd x0 x1 x2) fun y0 => K false (.s (.i .u64 y0)) ([])
 | _, _ => o 47 vs objs K
def qOW (o : Orc) : Orc := qM 47 (qVf o) o
theorem qVi : OQ Tryz.prog qOW := fun _ ho => qP ho fun vs objs K r h => by
 unfold qVf at h
 split at h
 ·skip
  obtain ⟨t, h1, h2⟩ := qE h
  refine any0K mixed qhr ((qhq _ _ _).trans h1) (by kernel_rfl) fun v objs' hd => ?_
  unfold qVh at hd;split at hd;(cases hd;exact h2);cases hd
 ·exact ho _ _ _ _ _ h
def qVu : Ctx := mkC 2 ((qKu qL)) [] qV
theorem qh3 : CtxOK Tryz.prog qVu := mkC_ok ((qOj _ qN))
def qVv : V -> List Obj -> Option (Int) := fun v objs => match v, objs with
 | .s (.i .u64 y0), [] => some (y0)
 | _, _ => none
theorem qh2 : fnE qVu Tryz.f48 ([]) ([]) qVv = qCf  := by kernel_rfl
def qVt : HA := fun o vs objs K => match vs, objs with
 | [], [] => ob (qCf ) fun y0 => K false (.s (.i .u64 y0)) ([])
 | _, _ => o 48 vs objs K
def qOi (o : Orc) : Orc := qM 48 (qVt o) o
theorem qVw : OQ Tryz.prog qOi := fun _ ho => qP ho fun vs objs K r h => by
 unfold qVt at h
 split at h
 ·skip
  obtain ⟨t, h1, h2⟩ := qE h
  refine any0K mixed qh3 ((qh2).trans h1) (by kernel_rfl) fun v objs' hd => ?_
  unfold qVv at hd;split at hd;(cases hd;exact h2);cases hd
 ·exact ho _ _ _ _ _ h
def qOZ : Ex -> List V -> List Obj -> Option (Int × LI × LI × Int) := fun e vs objs => match e, vs, objs with
 | .exit 0, [.s (.ptr 0 0 none 0), .s (.i .u64 y0)], [.cells 28 [.arr .i8 81 y1, .arr .i8 16 y2, .one [.i .i8 y3]]] => some (y0, y1, y2, y3)
 | _, _, _ => none
def qOX : Ex -> List V -> List Obj -> Option (Int × LI × Int × LI × LI × Int) := fun e vs objs => match e, vs, objs with
 | .exit 4, [.s (.ptr 0 0 none 0), .s (.i .u64 y0), .agg [.arr .i8 16 y1], .s (.i .i64 y2)], [.cells 28 [.arr .i8 81 y3, .arr .i8 16 y4, .one [.i .i8 y5]]] => some (y0, y1, y2, y3, y4, y5)
 | _, _, _ => none
def qOb : Ex -> List V -> List Obj -> Option (Int × LI × LI × Int) := fun e vs objs => match e, vs, objs with
 | .exit 2, [.s (.ptr 0 0 none 0), .s (.i .u64 y0)], [.cells 28 [.arr .i8 81 y1, .arr .i8 16 y2, .one [.i .i8 y3]]] => some (y0, y1, y2, y3)
 | _, _, _ => none
def qOf : HL := fun vs objs K => match vs, objs with
 | [.s (.ptr 0 0 none 0), .s (.i .u64 x0), .agg [.arr .i8 81 x1], .s (.i .i64 x2)], [.cells 28 [.arr .i8 81 x3, .arr .i8 16 x4, .one [.i .i8 x5]]] => ob (qCK qC x0 x1 x2 x3 x4 x5) fun z => K (.exit 0) ([.s (.ptr 0 0 none 0), .s (.i .u64 (z.1))]) ([.cells 28 [.arr .i8 81 (z.2.1), .arr .i8 16 (z.2.2.1), .one [.i .i8 (z.2.2.2)]]])
 | _, _ => none
def qOe : HL := fun vs objs K => match vs, objs with
 | [.s (.ptr 0 0 none 0), .s (.i .u64 x0), .s (.i .i64 x1), .agg [.arr .i8 16 x2], .s (.i .i64 x3), .agg [.arr .i8 8 x4], .s (.i .i64 x5)], [.cells 28 [.arr .i8 81 x6, .arr .i8 16 x7, .one [.i .i8 x8]]] => ob (qCe qC x0 x1 x2 x3 x4 x5 x6 x7 x8) fun z => K (.exit 4) ([.s (.ptr 0 0 none 0), .s (.i .u64 (z.1)), .agg [.arr .i8 16 (z.2.1)], .s (.i .i64 (z.2.2.1))]) ([.cells 28 [.arr .i8 81 (z.2.2.2.1), .arr .i8 16 (z.2.2.2.2.1), .one [.i .i8 (z.2.2.2.2.2)]]])
 | _, _ => none
def qOg : HL := fun vs objs K => match vs, objs with
 | [.s (.ptr 0 0 none 0), .s (.i .u64 x0), .agg [.arr .i8 16 x1], .s (.i .i64 x2)], [.cells 28 [.arr .i8 81 x3, .arr .i8 16 x4, .one [.i .i8 x5]]] => ob (qBo qC x0 x1 x2 x3 x4 x5) fun z => K (.exit 2) ([.s (.ptr 0 0 none 0), .s (.i .u64 (z.1))]) ([.cells 28 [.arr .i8 81 (z.2.1), .arr .i8 16 (z.2.2.1), .one [.i .i8 (z.2.2.2)]]])
 | _, _ => none
def qhw : {R : Type} -> Nat -> List V -> List Obj -> (Ex -> List V -> List Obj -> Option R) -> Option R := fun q vs objs K => bif Nat.beq q 3 then qOf vs objs K else bif Nat.beq q 11 then qOe vs objs K else bif Nat.beq q 8 then qOg vs objs K else none
def qFF : Ctx := mkC 49 ((qOi (qOW (qOh qL)))) [(3, [1, 3, 11, 12], [1, 3]), (8, [1, 3, 23, 24], [1, 3]), (11, [1, 3, 6, 23, 24, 28, 29], [1, 3, 23, 24])] qhw
theorem qKt : CtxOK Tryz.prog qFF := mkC_ok ((qVw _ (qVi _ (qVs _ qN))))
def qOa (f : Nat) (x0 : Int) (x1 : LI) (x2 : Int) (x3 x4 : LI) (x5 : Int) : Option (Int × LI × LI × Int) := qg qFF 0 [1, 3, 11, 12] [1, 3] (qG Tryz.f14 3) f ([.s (.ptr 0 0 none 0), .s (.i .u64 x0), .agg [.arr .i8 81 x1], .s (.i .i64 x2)]) ([.cells 28 [.arr .i8 81 x3, .arr .i8 16 x4, .one [.i .i8 x5]]]) qOZ
theorem qhu (f : Nat) (x0 : Int) (x1 : LI) (x2 : Int) (x3 x4 : LI) (x5 : Int) : qOa (f + 1) x0 x1 x2 x3 x4 x5 = qDW (qOa f) x0 x1 x2 x3 x4 x5 := by kernel_rfl
theorem qVm : ∀ f, qOa f = qCK f
 | 0 => rfl
 | f + 1 => by funext x0 x1 x2 x3 x4 x5; rw [qhu, qVm f]; rfl
def qOY (f : Nat) (x0 x1 : Int) (x2 : LI) (x3 : Int) (x4 : LI) (x5 : Int) (x6 x7 : LI) (x8 : Int) : Option (Int × LI × Int × LI × LI × Int) := qg qFF 0 [1, 3, 6, 23, 24, 28, 29] [1, 3, 23, 24] (qG Tryz.f14 11) f ([.s (.ptr 0 0 none 0), .s (.i .u64 x0), .s (.i .i64 x1), .agg [.arr .i8 16 x2], .s (.i .i64 x3), .agg [.arr .i8 8 x4], .s (.i .i64 x5)]) ([.cells 28 [.arr .i8 81 x6, .arr .i8 16 x7, .one [.i .i8 x8]]]) qOX
theorem qht (f : Nat) (x0 x1 : Int) (x2 : LI) (x3 : Int) (x4 : LI) (x5 : Int) (x6 x7 : LI) (x8 : Int) : qOY (f + 1) x0 x1 x2 x3 x4 x5 x6 x7 x8 = qDV (qOY f) x0 x1 x2 x3 x4 x5 x6 x7 x8 := by kernel_rfl
theorem qVl : ∀ f, qOY f = qCe f
 | 0 => rfl
 | f + 1 => by funext x0 x1 x2 x3 x4 x5 x6 x7 x8; rw [qht, qVl f]; rfl
def qOc (f : Nat) (x0 : Int) (x1 : LI) (x2 : Int) (x3 x4 : LI) (x5 : Int) : Option (Int × LI × LI × Int) := qg qFF 0 [1, 3, 23, 24] [1, 3] (qG Tryz.f14 8) f ([.s (.ptr 0 0 none 0), .s (.i .u64 x0), .agg [.arr .i8 16 x1], .s (.i .i64 x2)]) ([.cells 28 [.arr .i8 81 x3, .arr .i8 16 x4, .one [.i .i8 x5]]]) qOb
theorem qhv (f : Nat) (x0 : Int) (x1 : LI) (x2 : Int) (x3 x4 : LI) (x5 : Int) : qOc (f + 1) x0 x1 x2 x3 x4 x5 = qDX (qOc f) x0 x1 x2 x3 x4 x5 := by kernel_rfl
theorem qVn : ∀ f, qOc f = qBo f
 | 0 => rfl
 | f + 1 => by funext x0 x1 x2 x3 x4 x5; rw [qhv, qVn f]; rfl
theorem qhy : qe Tryz.prog qFF 0 (qG Tryz.f14 3) :=
 qk mixed qKt (qT.of (l' := []) (by kernel_rfl) trivial) (q := 3) (kin := [1, 3, 11, 12]) (kout := [1, 3]) (by kernel_rfl) (by kernel_rfl) fun vs objs K r h => by
  replace h : qOf vs objs K = some r := h
  unfold qOf at h
  split at h
  ·skip
   obtain ⟨t, h1, h2⟩ := qE h
   rw [<- qVm] at h1
   refine ⟨_, qOZ, t, qC, h1, fun e vs' objs' hd => ?_⟩
   unfold qOZ at hd;split at hd;(cases hd;exact h2);cases hd
  ·cases h
theorem qhx : qe Tryz.prog qFF 0 (qG Tryz.f14 11) :=
 qk mixed qKt (qT.of (l' := []) (by kernel_rfl) trivial) (q := 11) (kin := [1, 3, 6, 23, 24, 28, 29]) (kout := [1, 3, 23, 24]) (by kernel_rfl) (by kernel_rfl) fun vs objs K r h => by
  replace h : qOe vs objs K = some r := h
  unfold qOe at h
  split at h
  ·skip
   obtain ⟨t, h1, h2⟩ := qE h
   rw [<- qVl] at h1
   refine ⟨_, qOX, t, qC, h1, fun e vs' objs' hd => ?_⟩
   unfold qOX at hd;split at hd;(cases hd;exact h2);cases hd
  ·cases h
theorem qhz : qe Tryz.prog qFF 0 (qG Tryz.f14 8) :=
 qk mixed qKt (qT.of (l' := [qG Tryz.f14 11]) (by kernel_rfl) ⟨qhx, trivial⟩) (q := 8) (kin := [1, 3, 23, 24]) (kout := [1, 3]) (by kernel_rfl) (by kernel_rfl) fun vs objs K r h => by
  replace h : qOg vs objs K = some r := h
  unfold qOg at h
  split at h
  ·skip
   obtain ⟨t, h1, h2⟩ := qE h
   rw [<- qVn] at h1
   refine ⟨_, qOb, t, qC, h1, fun e vs' objs' hd => ?_⟩
   unfold qOb at hd;split at hd;(cases hd;exact h2);cases hd
  ·cases h
def qVk : V -> List Obj -> Option (Int) := fun v objs => match v, objs with
 | .s (.i .u64 y0), [] => some (y0)
 | _, _ => none
theorem qhs (x0 x1 : LI) (x2 : Int) : fnE qFF Tryz.f14 ([.agg [.arr .i8 81 x0, .arr .i8 16 x1, .one [.i .i8 x2]]]) ([]) qVk = qCz x0 x1 x2 := by kernel_rfl
def qVj : HA := fun o vs objs K => match vs, objs with
 | [.agg [.arr .i8 81 x0, .arr .i8 16 x1, .one [.i .i8 x2]]], [] => ob (qCz x0 x1 x2) fun y0 => K false (.s (.i .u64 y0)) ([])
 | _, _ => o 14 vs objs K
def qOd (o : Orc) : Orc := qM 14 (qVj o) o
theorem qVo : OQ Tryz.prog qOd := fun _ ho => qP ho fun vs objs K r h => by
 unfold qVj at h
 split at h
 ·skip
  obtain ⟨t, h1, h2⟩ := qE h
  refine qAX mixed qKt (fn := Tryz.f14) (b := (Tryz.f14).body.getD .skip) (by kernel_rfl) (by kernel_rfl) (by kernel_rfl) ((qhs _ _ _).trans h1) (m := 0) rfl (qT.of (l' := [qG Tryz.f14 3, qG Tryz.f14 8]) (by kernel_rfl) ⟨qhy, qhz, trivial⟩) fun v objs' hd => ?_
  unfold qVk at hd;split at hd;(cases hd;exact h2);cases hd
 ·exact ho _ _ _ _ _ h
def qUW : Ctx := mkC 14 ((qOd (qIg qL))) [] qV
theorem qgL : CtxOK Tryz.prog qUW := mkC_ok ((qVo _ (qKI _ qN)))
def qUX : V -> List Obj -> Option (Int × Nat × LI × LI × Int × LL × LL × Nat × LL) := fun v objs => match v, objs with
 | .s (.ptr 0 0 none 0), [.cells 43 [.one [.ptr 1 0 none 0, .i .u64 y0, .sl 2 0 y1 true]], .cells 49 [.arr .i8 81 y2, .arr .i8 16 y3, .one [.i .i8 y4], .rows [.i .u64, .i .u64] 32 y5, .rows [.i .u64, .i .u64] 2 y6], .sli 87 false (.rows [.i .i64, .i .i64, .i .i64, .b, .i .i8, .i .i8] y7 y8)] => some (y0, y1, y2, y3, y4, y5, y6, y7, y8)
 | _, _ => none
theorem qgK (x0 x1 : LI) (x2 : Int) : fnE qUW Tryz.f8 ([.agg [.arr .i8 81 x0, .arr .i8 16 x1, .one [.i .i8 x2]]]) ([]) qUX = qIu x0 x1 x2 := by kernel_rfl
def qUV : HA := fun o vs objs K => match vs, objs with
 | [.agg [.arr .i8 81 x0, .arr .i8 16 x1, .one [.i .i8 x2]]], [] => ob (qIu x0 x1 x2) fun z => K false (.s (.ptr 0 0 none 0)) ([.cells 43 [.one [.ptr 1 0 none 0, .i .u64 (z.1), .sl 2 0 (z.2.1) true]], .cells 49 [.arr .i8 81 (z.2.2.1), .arr .i8 16 (z.2.2.2.1), .one [.i .i8 (z.2.2.2.2.1)], .rows [.i .u64, .i .u64] 32 (z.2.2.2.2.2.1), .rows [.i .u64, .i .u64] 2 (z.2.2.2.2.2.2.1)], .sli 87 false (.rows [.i .i64, .i .i64, .i .i64, .b, .i .i8, .i .i8] (z.2.2.2.2.2.2.2.1) (z.2.2.2.2.2.2.2.2))])
 | _, _ => o 8 vs objs K
def qUY (o : Orc) : Orc := qM 8 (qUV o) o
theorem qgM : OQ Tryz.prog qUY := fun _ ho => qP ho fun vs objs K r h => by
 unfold qUV at h
 split at h
 ·skip
  obtain ⟨t, h1, h2⟩ := qE h
  refine any0K mixed qgL ((qgK _ _ _).trans h1) (by kernel_rfl) fun v objs' hd => ?_
  unfold qUX at hd;split at hd;(cases hd;exact h2);cases hd
 ·exact ho _ _ _ _ _ h
def qQB : Ex -> List V -> List Obj -> Option (List Bool × List Bool) := fun e vs objs => match e, vs, objs with
 | .exit 0, [.s (.ptr 0 0 none 0), .s (.ptr 1 0 none 0)], [.cells 106 [Seg.barr 81 y0], .cells 106 [Seg.barr 81 y1]] => some (y0, y1)
 | _, _, _ => none
def qQE : HL := fun vs objs K => match vs, objs with
 | [.s (.ptr 0 0 none 0), .s (.ptr 1 0 none 0), .s (.ptr 2 0 none 0), .s (.i .i64 x0)], [.cells 28 [.arr .i8 81 x1, .arr .i8 16 x2, .one [.i .i8 x3]], .cells 106 [Seg.barr 81 x4], .cells 106 [Seg.barr 81 x5]] => ob (qET qC x0 x1 x2 x3 x4 x5) fun z => K (.exit 0) ([.s (.ptr 0 0 none 0), .s (.ptr 1 0 none 0)]) ([.cells 106 [Seg.barr 81 (z.1)], .cells 106 [Seg.barr 81 (z.2)]])
 | _, _ => none
def qmU : {R : Type} -> Nat -> List V -> List Obj -> (Ex -> List V -> List Obj -> Option R) -> Option R := fun q vs objs K => bif Nat.beq q 3 then qQE vs objs K else none
def qLq : Ctx := mkC 18 (qL) [(3, [1, 2, 3, 4], [2, 3])] qmU
theorem qZb : CtxOK Tryz.prog qLq := mkC_ok (qN)
def qQC (f : Nat) (x0 : Int) (x1 x2 : LI) (x3 : Int) (x4 x5 : List Bool) : Option (List Bool × List Bool) := qg qLq 0 [1, 2, 3, 4] [2, 3] (qG Tryz.f74 3) f ([.s (.ptr 0 0 none 0), .s (.ptr 1 0 none 0), .s (.ptr 2 0 none 0), .s (.i .i64 x0)]) ([.cells 28 [.arr .i8 81 x1, .arr .i8 16 x2, .one [.i .i8 x3]], .cells 106 [Seg.barr 81 x4], .cells 106 [Seg.barr 81 x5]]) qQB
theorem qmT (f : Nat) (x0 : Int) (x1 x2 : LI) (x3 : Int) (x4 x5 : List Bool) : qQC (f + 1) x0 x1 x2 x3 x4 x5 = qHs (qQC f) x0 x1 x2 x3 x4 x5 := by kernel_rfl
theorem qZd : ∀ f, qQC f = qET f
 | 0 => rfl
 | f + 1 => by funext x0 x1 x2 x3 x4 x5; rw [qmT, qZd f]; rfl
theorem qmV : qe Tryz.prog qLq 0 (qG Tryz.f74 3) :=
 qk mixed qZb (qT.of (l' := []) (by kernel_rfl) trivial) (q := 3) (kin := [1, 2, 3, 4]) (kout := [2, 3]) (by kernel_rfl) (by kernel_rfl) fun vs objs K r h => by
  replace h : qQE vs objs K = some r := h
  unfold qQE at h
  split at h
  ·skip
   obtain ⟨t, h1, h2⟩ := qE h
   rw [<- qZd] at h1
   refine ⟨_, qQB, t, qC, h1, fun e vs' objs' hd => ?_⟩
   unfold qQB at hd;split at hd;(cases hd;exact h2);cases hd
  ·cases h
def qZc : V -> List Obj -> Option (List Bool) := fun v objs => match v, objs with
 | .agg [Seg.barr 81 y0], [] => some (y0)
 | _, _ => none
theorem qmS (x0 x1 : LI) (x2 : Int) : fnE qLq Tryz.f74 ([.agg [.arr .i8 81 x0, .arr .i8 16 x1, .one [.i .i8 x2]]]) ([]) qZc = qES x0 x1 x2 := by kernel_rfl
def qZa : HA := fun o vs objs K => match vs, objs with
 | [.agg [.arr .i8 81 x0, .arr .i8 16 x1, .one [.i .i8 x2]]], [] => ob (qES x0 x1 x2) fun y0 => K false (.agg [Seg.barr 81 y0]) ([])
 | _, _ => o 74 vs objs K
def qLr (o : Orc) : Orc := qM 74 (qZa o) o
theorem qQD : OQ Tryz.prog qLr := fun _ ho => qP ho fun vs objs K r h => by
 unfold qZa at h
 split at h
 ·skip
  obtain ⟨t, h1, h2⟩ := qE h
  refine qAX mixed qZb (fn := Tryz.f74) (b := (Tryz.f74).body.getD .skip) (by kernel_rfl) (by kernel_rfl) (by kernel_rfl) ((qmS _ _ _).trans h1) (m := 0) rfl (qT.of (l' := [qG Tryz.f74 3]) (by kernel_rfl) ⟨qmV, trivial⟩) fun v objs' hd => ?_
  unfold qZc at hd;split at hd;(cases hd;exact h2);cases hd
 ·exact ho _ _ _ _ _ h
def qYi : Ctx := mkC 23 (qL) [] qV
theorem qlo : CtxOK Tryz.prog qYi := mkC_ok (qN)
def qYj : V -> List Obj -> Option (Int) := fun v objs => match v, objs with
 | .s (.i .i64 y0), [] => some (y0)
 | _, _ => none
theorem qln (x0 : Int) : fnE qYi Tryz.f97 ([.s (.i .i64 x0)]) ([]) qYj = qAN x0 := by kernel_rfl
def qYh : HA := fun o vs objs K => match vs, objs with
 | [.s (.i .i64 x0)], [] => ob (qAN x0) fun y0 => K false (.s (.i .i64 y0)) ([])
 | _, _ => o 97 vs objs K
def qEK (o : Orc) : Orc := qM 97 (qYh o) o
theorem qFS : OQ Tryz.prog qEK := fun _ ho => qP ho fun vs objs K r h => by
 unfold qYh at h
 split at h
 ·skip
  obtain ⟨t, h1, h2⟩ := qE h
  refine any0K mixed qlo ((qln _).trans h1) (by kernel_rfl) fun v objs' hd => ?_
  unfold qYj at hd;split at hd;(cases hd;exact h2);cases hd
 ·exact ho _ _ _ _ _ h
def qYp : Ctx := mkC 8 ((qEK qL)) [] qV
theorem qlt : CtxOK Tryz.prog qYp := mkC_ok ((qFS _ qN))
def qYq : V -> List Obj -> Option (Int) := fun v objs => match v, objs with
 | .s (.i .i64 y0), [] => some (y0)
 | _, _ => none
theorem qls (x0 : Int) : fnE qYp Tryz.f75 ([.s (.i .i64 x0)]) ([]) qYq = qA5 x0 := by kernel_rfl
def qYo : HA := fun o vs objs K => match vs, objs with
 | [.s (.i .i64 x0)], [] => ob (qA5 x0) fun y0 => K false (.s (.i .i64 y0)) ([])
 | _, _ => o 75 vs objs K
def qFT (o : Orc) : Orc := qM 75 (qYo o) o
theorem qGO : OQ Tryz.prog qFT := fun _ ho => qP ho fun vs objs K r h => by
 unfold qYo at h
 split at h
 ·skip
  obtain ⟨t, h1, h2⟩ := qE h
  refine any0K mixed qlt ((qls _).trans h1) (by kernel_rfl) fun v objs' hd => ?_
  unfold qYq at hd;split at hd;(cases hd;exact h2);cases hd
 ·exact ho _ _ _ _ _ h
def qY7 : Ctx := mkC 8 (qL) [] qV
theorem ql4 : CtxOK Tryz.prog qY7 := mkC_ok (qN)
def qY8 : V -> List Obj -> Option (Int) := fun v objs => match v, objs with
 | .s (.i .i64 y0), [] => some (y0)
 | _, _ => none
theorem ql3 (x0 : Int) : fnE qY7 Tryz.f111 ([.s (.i .i64 x0)]) ([]) qY8 = qFU x0 := by kernel_rfl
def qY6 : HA := fun o vs objs K => match vs, objs with
 | [.s (.i .i64 x0)], [] => ob (qFU x0) fun y0 => K false (.s (.i .i64 y0)) ([])
 | _, _ => o 111 vs objs K
def qY9 (o : Orc) : Orc := qM 111 (qY6 o) o
theorem ql5 : OQ Tryz.prog qY9 := fun _ ho => qP ho fun vs objs K r h => by
 unfold qY6 at h
 split at h
 ·skip
  obtain ⟨t, h1, h2⟩ := qE h
  refine any0K mixed ql4 ((ql3 _).trans h1) (by kernel_rfl) fun v objs' hd => ?_
  unfold qY8 at hd;split at hd;(cases hd;exact h2);cases hd
 ·exact ho _ _ _ _ _ h
def qY3 : Ctx := mkC 125 ((qEK (qFT (qY9 qL)))) [] qV
theorem ql1 : CtxOK Tryz.prog qY3 := mkC_ok ((qFS _ (qGO _ (ql5 _ qN))))
def qY4 : V -> List Obj -> Option (Bool) := fun v objs => match v, objs with
 | .s (.b y0), [] => some (y0)
 | _, _ => none
theorem ql0 (x0 x1 x2 : Int) : fnE qY3 Tryz.f98 ([.s (.i .i64 x0), .s (.i .i64 x1), .s (.i .i64 x2)]) ([]) qY4 = qJM x0 x1 x2 := by kernel_rfl
def qY2 : HA := fun o vs objs K => match vs, objs with
 | [.s (.i .i64 x0), .s (.i .i64 x1), .s (.i .i64 x2)], [] => ob (qJM x0 x1 x2) fun y0 => K false (.s (.b y0)) ([])
 | _, _ => o 98 vs objs K
def qY5 (o : Orc) : Orc := qM 98 (qY2 o) o
theorem ql2 : OQ Tryz.prog qY5 := fun _ ho => qP ho fun vs objs K r h => by
 unfold qY2 at h
 split at h
 ·skip
  obtain ⟨t, h1, h2⟩ := qE h
  refine any0K mixed ql1 ((ql0 _ _ _).trans h1) (by kernel_rfl) fun v objs' hd => ?_
  unfold qY4 at hd;split at hd;(cases hd;exact h2);cases hd
 ·exact ho _ _ _ _ _ h
def qZL : Ctx := mkC 51 (qL) [] qV
theorem qmH : CtxOK Tryz.prog qZL := mkC_ok (qN)
def qZM : V -> List Obj -> Option (Int) := fun v objs => match v, objs with
 | .s (.i .i64 y0), [] => some (y0)
 | _, _ => none
theorem qmG (x0 x1 : Int) : fnE qZL Tryz.f99 ([.s (.i .i64 x0), .s (.i .i64 x1)]) ([]) qZM = qHp x0 x1 := by kernel_rfl
def qZK : HA := fun o vs objs K => match vs, objs with
 | [.s (.i .i64 x0), .s (.i .i64 x1)], [] => ob (qHp x0 x1) fun y0 => K false (.s (.i .i64 y0)) ([])
 | _, _ => o 99 vs objs K
def qP5 (o : Orc) : Orc := qM 99 (qZK o) o
theorem qZN : OQ Tryz.prog qP5 := fun _ ho => qP ho fun vs objs K r h => by
 unfold qZK at h
 split at h
 ·skip
  obtain ⟨t, h1, h2⟩ := qE h
  refine any0K mixed qmH ((qmG _ _).trans h1) (by kernel_rfl) fun v objs' hd => ?_
  unfold qZM at hd;split at hd;(cases hd;exact h2);cases hd
 ·exact ho _ _ _ _ _ h
def qZS : Ctx := mkC 7 (qL) [] qV
theorem qmL : CtxOK Tryz.prog qZS := mkC_ok (qN)
def qZT : V -> List Obj -> Option (Int) := fun v objs => match v, objs with
 | .s (.i .i64 y0), [] => some (y0)
 | _, _ => none
theorem qmK (x0 : Int) : fnE qZS Tryz.f116 ([.s (.i .i64 x0)]) ([]) qZT = qHq x0 := by kernel_rfl
def qZR : HA := fun o vs objs K => match vs, objs with
 | [.s (.i .i64 x0)], [] => ob (qHq x0) fun y0 => K false (.s (.i .i64 y0)) ([])
 | _, _ => o 116 vs objs K
def qZU (o : Orc) : Orc := qM 116 (qZR o) o
theorem qmM : OQ Tryz.prog qZU := fun _ ho => qP ho fun vs objs K r h => by
 unfold qZR at h
 split at h
 ·skip
  obtain ⟨t, h1, h2⟩ := qE h
  refine any0K mixed qmL ((qmK _).trans h1) (by kernel_rfl) fun v objs' hd => ?_
  unfold qZT at hd;split at hd;(cases hd;exact h2);cases hd
 ·exact ho _ _ _ _ _ h
def qPz : Ex -> List V -> List Obj -> Option (Nat × Nat × LI) := fun e vs objs => match e, vs, objs with
 | .exit 0, [.s (.sl 0 0 y0 true)], [.sli 3 false (.arr .i64 y1 y2)] => some (y0, y1, y2)
 | _, _, _ => none
def qP1 : HL := fun vs objs K => match vs, objs with
 | [.s (.i .i64 x0), .s (.sl 0 0 x1 true), .s (.i .i64 x2), .s (.i .i64 x3)], [.sli 3 false (.arr .i64 x4 x5)] => ob (qFV qC x0 x1 x2 x3 x4 x5) fun z => K (.exit 0) ([.s (.sl 0 0 (z.1) true)]) ([.sli 3 false (.arr .i64 (z.2.1) (z.2.2))])
 | _, _ => none
def ql8 : {R : Type} -> Nat -> List V -> List Obj -> (Ex -> List V -> List Obj -> Option R) -> Option R := fun q vs objs K => bif Nat.beq q 6 then qP1 vs objs K else none
def qLm : Ctx := mkC 41 ((qZU (qP5 qL))) [(6, [1, 5, 6, 7], [5])] ql8
theorem qZB : CtxOK Tryz.prog qLm := mkC_ok ((qmM _ (qZN _ qN)))
def qP0 (f : Nat) (x0 : Int) (x1 : Nat) (x2 x3 : Int) (x4 : Nat) (x5 : LI) : Option (Nat × Nat × LI) := qg qLm 0 [1, 5, 6, 7] [5] (qG Tryz.f112 6) f ([.s (.i .i64 x0), .s (.sl 0 0 x1 true), .s (.i .i64 x2), .s (.i .i64 x3)]) ([.sli 3 false (.arr .i64 x4 x5)]) qPz
theorem ql7 (f : Nat) (x0 : Int) (x1 : Nat) (x2 x3 : Int) (x4 : Nat) (x5 : LI) : qP0 (f + 1) x0 x1 x2 x3 x4 x5 = qHn (qP0 f) x0 x1 x2 x3 x4 x5 := by kernel_rfl
theorem qZD : ∀ f, qP0 f = qFV f
 | 0 => rfl
 | f + 1 => by funext x0 x1 x2 x3 x4 x5; rw [ql7, qZD f]; rfl
theorem qmA : qe Tryz.prog qLm 0 (qG Tryz.f112 6) :=
 qk mixed qZB (qT.of (l' := []) (by kernel_rfl) trivial) (q := 6) (kin := [1, 5, 6, 7]) (kout := [5]) (by kernel_rfl) (by kernel_rfl) fun vs objs K r h => by
  replace h : qP1 vs objs K = some r := h
  unfold qP1 at h
  split at h
  ·skip
   obtain ⟨t, h1, h2⟩ := qE h
   rw [<- qZD] at h1
   refine ⟨_, qPz, t, qC, h1, fun e vs' objs' hd => ?_⟩
   unfold qPz at hd;split at hd;(cases hd;exact h2);cases hd
  ·cases h
def qZC : V -> List Obj -> Option (Nat × Nat × LI) := fun v objs => match v, objs with
 | .s (.sl 0 0 y0 true), [.sli 3 false (.arr .i64 y1 y2)] => some (y0, y1, y2)
 | _, _ => none
theorem ql6 (x0 x1 : Int) : fnE qLm Tryz.f112 ([.s (.i .i64 x0), .s (.i .i64 x1)]) ([]) qZC = qJN x0 x1 := by kernel_rfl
def qZA : HA := fun o vs objs K => match vs, objs with
 | [.s (.i .i64 x0), .s (.i .i64 x1)], [] => ob (qJN x0 x1) fun z => K false (.s (.sl 0 0 (z.1) true)) ([.sli 3 false (.arr .i64 (z.2.1) (z.2.2))])
 | _, _ => o 112 vs objs K
def qZE (o : Orc) : Orc := qM 112 (qZA o) o
theorem ql9 : OQ Tryz.prog qZE := fun _ ho => qP ho fun vs objs K r h => by
 unfold qZA at h
 split at h
 ·skip
  obtain ⟨t, h1, h2⟩ := qE h
  refine qAX mixed qZB (fn := Tryz.f112) (b := (Tryz.f112).body.getD .skip) (by kernel_rfl) (by kernel_rfl) (by kernel_rfl) ((ql6 _ _).trans h1) (m := 0) rfl (qT.of (l' := [qG Tryz.f112 6]) (by kernel_rfl) ⟨qmA, trivial⟩) fun v objs' hd => ?_
  unfold qZC at hd;split at hd;(cases hd;exact h2);cases hd
 ·exact ho _ _ _ _ _ h
def qP2 : Ex -> List V -> List Obj -> Option ((Bool) ⊕ (Unit)) := fun e vs objs => match e, vs, objs with
 | .ret, [.s (.b y0)], [] => some (.inl (y0))
 | .exit 0, [.s .bad], [] => some (.inr ())
 | _, _, _ => none
def qP4 : HL := fun vs objs K => match vs, objs with
 | [.s (.ptr 0 0 none 0), .s (.sl 1 0 x0 true), .s (.i .i64 x1)], [.cells 106 [Seg.barr 81 x2], .sli 3 false (.arr .i64 x3 x4)] => ob (qFW qC x0 x1 x2 x3 x4) fun t0 => sw t0 (fun y0 => K (.ret) ([.s (.b y0)]) ([])) (fun _ => K (.exit 0) ([.s .bad]) ([]))
 | _, _ => none
def qmD : {R : Type} -> Nat -> List V -> List Obj -> (Ex -> List V -> List Obj -> Option R) -> Option R := fun q vs objs K => bif Nat.beq q 3 then qP4 vs objs K else none
def qLn : Ctx := mkC 24 ((qZE qL)) [(3, [5, 7, 8], [6])] qmD
theorem qZG : CtxOK Tryz.prog qLn := mkC_ok ((ql9 _ qN))
def qP3 (f : Nat) (x0 : Nat) (x1 : Int) (x2 : List Bool) (x3 : Nat) (x4 : LI) : Option ((Bool) ⊕ (Unit)) := qg qLn 0 [5, 7, 8] [6] (qG Tryz.f100 3) f ([.s (.ptr 0 0 none 0), .s (.sl 1 0 x0 true), .s (.i .i64 x1)]) ([.cells 106 [Seg.barr 81 x2], .sli 3 false (.arr .i64 x3 x4)]) qP2
theorem qmC (f : Nat) (x0 : Nat) (x1 : Int) (x2 : List Bool) (x3 : Nat) (x4 : LI) : qP3 (f + 1) x0 x1 x2 x3 x4 = qHo (qP3 f) x0 x1 x2 x3 x4 := by kernel_rfl
theorem qZI : ∀ f, qP3 f = qFW f
 | 0 => rfl
 | f + 1 => by funext x0 x1 x2 x3 x4; rw [qmC, qZI f]; rfl
theorem qmF : qe Tryz.prog qLn 0 (qG Tryz.f100 3) :=
 qk mixed qZG (qT.of (l' := []) (by kernel_rfl) trivial) (q := 3) (kin := [5, 7, 8]) (kout := [6]) (by kernel_rfl) (by kernel_rfl) fun vs objs K r h => by
  replace h : qP4 vs objs K = some r := h
  unfold qP4 at h
  split at h
  ·skip
   obtain ⟨t, h1, h2⟩ := qE h
   rw [<- qZI] at h1
   refine ⟨_, qP2, t, qC, h1, fun e vs' objs' hd => ?_⟩
   unfold qP2 at hd
   split at hd
   ·skip
    cases hd
    exact h2
   ·skip
    cases hd
    exact h2
   ·cases hd
  ·cases h
def qZH : V -> List Obj -> Option (Bool) := fun v objs => match v, objs with
 | .s (.b y0), [] => some (y0)
 | _, _ => none
theorem qmB (x0 x1 : Int) (x2 : List Bool) : fnE qLn Tryz.f100 ([.s (.i .i64 x0), .s (.i .i64 x1), .agg [Seg.barr 81 x2]]) ([]) qZH = qAn x0 x1 x2 := by kernel_rfl
def qZF : HA := fun o vs objs K => match vs, objs with
 | [.s (.i .i64 x0), .s (.i .i64 x1), .agg [Seg.barr 81 x2]], [] => ob (qAn x0 x1 x2) fun y0 => K false (.s (.b y0)) ([])
 | _, _ => o 100 vs objs K
def qZJ (o : Orc) : Orc := qM 100 (qZF o) o
theorem qmE : OQ Tryz.prog qZJ := fun _ ho => qP ho fun vs objs K r h => by
 unfold qZF at h
 split at h
 ·skip
  obtain ⟨t, h1, h2⟩ := qE h
  refine qAX mixed qZG (fn := Tryz.f100) (b := (Tryz.f100).body.getD .skip) (by kernel_rfl) (by kernel_rfl) (by kernel_rfl) ((qmB _ _ _).trans h1) (m := 0) rfl (qT.of (l' := [qG Tryz.f100 3]) (by kernel_rfl) ⟨qmF, trivial⟩) fun v objs' hd => ?_
  unfold qZH at hd;split at hd;(cases hd;exact h2);cases hd
 ·exact ho _ _ _ _ _ h
def qZP : Ctx := mkC 63 ((qZJ (qEK (qFT (qP5 (qY5 qL)))))) [] qV
theorem qmJ : CtxOK Tryz.prog qZP := mkC_ok ((qmE _ (qFS _ (qGO _ (qZN _ (ql2 _ qN))))))
def qZQ : V -> List Obj -> Option (Bool) := fun v objs => match v, objs with
 | .s (.b y0), [] => some (y0)
 | _, _ => none
theorem qmI (x0 x1 x2 : Int) (x3 : List Bool) : fnE qZP Tryz.f76 ([.s (.i .i64 x0), .s (.i .i64 x1), .s (.i .i64 x2), .agg [Seg.barr 81 x3]]) ([]) qZQ = qFX x0 x1 x2 x3 := by kernel_rfl
def qZO : HA := fun o vs objs K => match vs, objs with
 | [.s (.i .i64 x0), .s (.i .i64 x1), .s (.i .i64 x2), .agg [Seg.barr 81 x3]], [] => ob (qFX x0 x1 x2 x3) fun y0 => K false (.s (.b y0)) ([])
 | _, _ => o 76 vs objs K
def qLo (o : Orc) : Orc := qM 76 (qZO o) o
theorem qP6 : OQ Tryz.prog qLo := fun _ ho => qP ho fun vs objs K r h => by
 unfold qZO at h
 split at h
 ·skip
  obtain ⟨t, h1, h2⟩ := qE h
  refine any0K mixed qmJ ((qmI _ _ _ _).trans h1) (by kernel_rfl) fun v objs' hd => ?_
  unfold qZQ at hd;split at hd;(cases hd;exact h2);cases hd
 ·exact ho _ _ _ _ _ h
def qZf : Ctx := mkC 44 (qL) [] qV
theorem qmX : CtxOK Tryz.prog qZf := mkC_ok (qN)
def qZg : V -> List Obj -> Option (Int) := fun v objs => match v, objs with
 | .s (.i .i64 y0), [] => some (y0)
 | _, _ => none
theorem qmW (x0 x1 x2 : Int) (x3 : Bool) : fnE qZf Tryz.f113 ([.agg [.one [.i .i64 x0, .i .i64 x1, .i .i64 x2, .b x3]]]) ([]) qZg = qJQ x0 x1 x2 x3 := by kernel_rfl
def qZe : HA := fun o vs objs K => match vs, objs with
 | [.agg [.one [.i .i64 x0, .i .i64 x1, .i .i64 x2, .b x3]]], [] => ob (qJQ x0 x1 x2 x3) fun y0 => K false (.s (.i .i64 y0)) ([])
 | _, _ => o 113 vs objs K
def qZh (o : Orc) : Orc := qM 113 (qZe o) o
theorem qmY : OQ Tryz.prog qZh := fun _ ho => qP ho fun vs objs K r h => by
 unfold qZe at h
 split at h
 ·skip
  obtain ⟨t, h1, h2⟩ := qE h
  refine any0K mixed qmX ((qmW _ _ _ _).trans h1) (by kernel_rfl) fun v objs' hd => ?_
  unfold qZg at hd;split at hd;(cases hd;exact h2);cases hd
 ·exact ho _ _ _ _ _ h
def qYs : Ctx := mkC 15 (qL) [] qV
theorem qlv : CtxOK Tryz.prog qYs := mkC_ok (qN)
def qYt : V -> List Obj -> Option (Int) := fun v objs => match v, objs with
 | .s (.i .i64 y0), [] => some (y0)
 | _, _ => none
theorem qlu (x0 : Int) : fnE qYs Tryz.f114 ([.s (.i .i64 x0)]) ([]) qYt = qEL x0 := by kernel_rfl
def qYr : HA := fun o vs objs K => match vs, objs with
 | [.s (.i .i64 x0)], [] => ob (qEL x0) fun y0 => K false (.s (.i .i64 y0)) ([])
 | _, _ => o 114 vs objs K
def qLl (o : Orc) : Orc := qM 114 (qYr o) o
theorem qPw : OQ Tryz.prog qLl := fun _ ho => qP ho fun vs objs K r h => by
 unfold qYr at h
 split at h
 ·skip
  obtain ⟨t, h1, h2⟩ := qE h
  refine any0K mixed qlv ((qlu _).trans h1) (by kernel_rfl) fun v objs' hd => ?_
  unfold qYt at hd;split at hd;(cases hd;exact h2);cases hd
 ·exact ho _ _ _ _ _ h
def qZx : Ctx := mkC 75 ((qLl (qEK (qFT (qZh qL))))) [] qV
theorem qml : CtxOK Tryz.prog qZx := mkC_ok ((qPw _ (qFS _ (qGO _ (qmY _ qN)))))
def qZy : V -> List Obj -> Option (Bool) := fun v objs => match v, objs with
 | .s (.b y0), [] => some (y0)
 | _, _ => none
theorem qmk (x0 x1 : LI) (x2 x3 : Int) (x4 x5 : Int) (x6 : Bool) : fnE qZx Tryz.f101 ([.agg [.arr .i8 81 x0, .arr .i8 16 x1, .one [.i .i8 x2]], .agg [.one [.i .i64 x3, .i .i64 x4, .i .i64 x5, .b x6]]]) ([]) qZy = qJS x0 x1 x2 x3 x4 x5 x6 := by kernel_rfl
def qZw : HA := fun o vs objs K => match vs, objs with
 | [.agg [.arr .i8 81 x0, .arr .i8 16 x1, .one [.i .i8 x2]], .agg [.one [.i .i64 x3, .i .i64 x4, .i .i64 x5, .b x6]]], [] => ob (qJS x0 x1 x2 x3 x4 x5 x6) fun y0 => K false (.s (.b y0)) ([])
 | _, _ => o 101 vs objs K
def qZz (o : Orc) : Orc := qM 101 (qZw o) o
theorem qmm : OQ Tryz.prog qZz := fun _ ho => qP ho fun vs objs K r h => by
 unfold qZw at h
 split at h
 ·skip
  obtain ⟨t, h1, h2⟩ := qE h
  refine any0K mixed qml ((qmk _ _ _ _ _ _ _).trans h1) (by kernel_rfl) fun v objs' hd => ?_
  unfold qZy at hd;split at hd;(cases hd;exact h2);cases hd
 ·exact ho _ _ _ _ _ h
def qYz : Ctx := mkC 26 (qL) [] qV
theorem qlz : CtxOK Tryz.prog qYz := mkC_ok (qN)
def qY0 : V -> List Obj -> Option (Int) := fun v objs => match v, objs with
 | .s (.i .i64 y0), [] => some (y0)
 | _, _ => none
theorem qly (x0 x1 : Int) : fnE qYz Tryz.f115 ([.s (.i .i64 x0), .s (.i .i64 x1)]) ([]) qY0 = qC6 x0 x1 := by kernel_rfl
def qYy : HA := fun o vs objs K => match vs, objs with
 | [.s (.i .i64 x0), .s (.i .i64 x1)], [] => ob (qC6 x0 x1) fun y0 => K false (.s (.i .i64 y0)) ([])
 | _, _ => o 115 vs objs K
def qPy (o : Orc) : Orc := qM 115 (qYy o) o
theorem qY1 : OQ Tryz.prog qPy := fun _ ho => qP ho fun vs objs K r h => by
 unfold qYy at h
 split at h
 ·skip
  obtain ⟨t, h1, h2⟩ := qE h
  refine any0K mixed qlz ((qly _ _).trans h1) (by kernel_rfl) fun v objs' hd => ?_
  unfold qY0 at hd;split at hd;(cases hd;exact h2);cases hd
 ·exact ho _ _ _ _ _ h
def qYv : Ctx := mkC 35 ((qEK (qPy (qFT qL)))) [] qV
theorem qlx : CtxOK Tryz.prog qYv := mkC_ok ((qFS _ (qY1 _ (qGO _ qN))))
def qYw : V -> List Obj -> Option (Bool) := fun v objs => match v, objs with
 | .s (.b y0), [] => some (y0)
 | _, _ => none
theorem qlw (x0 x1 : Int) : fnE qYv Tryz.f102 ([.s (.i .i64 x0), .s (.i .i64 x1)]) ([]) qYw = qC5 x0 x1 := by kernel_rfl
def qYu : HA := fun o vs objs K => match vs, objs with
 | [.s (.i .i64 x0), .s (.i .i64 x1)], [] => ob (qC5 x0 x1) fun y0 => K false (.s (.b y0)) ([])
 | _, _ => o 102 vs objs K
def qPx (o : Orc) : Orc := qM 102 (qYu o) o
theorem qYx : OQ Tryz.prog qPx := fun _ ho => qP ho fun vs objs K r h => by
 unfold qYu at h
 split at h
 ·skip
  obtain ⟨t, h1, h2⟩ := qE h
  refine any0K mixed qlx ((qlw _ _).trans h1) (by kernel_rfl) fun v objs' hd => ?_
  unfold qYw at hd;split at hd;(cases hd;exact h2);cases hd
 ·exact ho _ _ _ _ _ h
def qP8 : Ex -> List V -> List Obj -> Option (Int) := fun e vs objs => match e, vs, objs with
 | .exit 0, [.s (.i .i64 y0)], [] => some (y0)
 | _, _, _ => none
def qQA : HL := fun vs objs K => match vs, objs with
 | [.s (.i .i64 x0), .s (.i .i64 x1), .s (.ptr 0 0 none 0), .s (.i .i64 x2), .s (.i .i64 x3)], [.cells 28 [.arr .i8 81 x4, .arr .i8 16 x5, .one [.i .i8 x6]]] => ob (qCQ qC x0 x1 x2 x3 x4 x5 x6) fun y0 => K (.exit 0) ([.s (.i .i64 y0)]) ([])
 | _, _ => none
def qmP : {R : Type} -> Nat -> List V -> List Obj -> (Ex -> List V -> List Obj -> Option R) -> Option R := fun q vs objs K => bif Nat.beq q 3 then qQA vs objs K else none
def qLp : Ctx := mkC 26 (qL) [(3, [1, 2, 3, 7, 8], [7])] qmP
theorem qZW : CtxOK Tryz.prog qLp := mkC_ok (qN)
def qP9 (f : Nat) (x0 x1 : Int) (x2 x3 : Int) (x4 x5 : LI) (x6 : Int) : Option (Int) := qg qLp 0 [1, 2, 3, 7, 8] [7] (qG Tryz.f103 3) f ([.s (.i .i64 x0), .s (.i .i64 x1), .s (.ptr 0 0 none 0), .s (.i .i64 x2), .s (.i .i64 x3)]) ([.cells 28 [.arr .i8 81 x4, .arr .i8 16 x5, .one [.i .i8 x6]]]) qP8
theorem qmO (f : Nat) (x0 x1 : Int) (x2 x3 : Int) (x4 x5 : LI) (x6 : Int) : qP9 (f + 1) x0 x1 x2 x3 x4 x5 x6 = qDf (qP9 f) x0 x1 x2 x3 x4 x5 x6 := by kernel_rfl
theorem qZY : ∀ f, qP9 f = qCQ f
 | 0 => rfl
 | f + 1 => by funext x0 x1 x2 x3 x4 x5 x6; rw [qmO, qZY f]; rfl
theorem qmR : qe Tryz.prog qLp 0 (qG Tryz.f103 3) :=
 qk mixed qZW (qT.of (l' := []) (by kernel_rfl) trivial) (q := 3) (kin := [1, 2, 3, 7, 8]) (kout := [7]) (by kernel_rfl) (by kernel_rfl) fun vs objs K r h => by
  replace h : qQA vs objs K = some r := h
  unfold qQA at h
  split at h
  ·skip
   obtain ⟨t, h1, h2⟩ := qE h
   rw [<- qZY] at h1
   refine ⟨_, qP8, t, qC, h1, fun e vs' objs' hd => ?_⟩
   unfold qP8 at hd;split at hd;(cases hd;exact h2);cases hd
  ·cases h
def qZX : V -> List Obj -> Option (Int) := fun v objs => match v, objs with
 | .s (.i .i64 y0), [] => some (y0)
 | _, _ => none
theorem qmN (x0 x1 : LI) (x2 x3 x4 : Int) : fnE qLp Tryz.f103 ([.agg [.arr .i8 81 x0, .arr .i8 16 x1, .one [.i .i8 x2]], .s (.i .i64 x3), .s (.i .i64 x4)]) ([]) qZX = qDe x0 x1 x2 x3 x4 := by kernel_rfl
def qZV : HA := fun o vs objs K => match vs, objs with
 | [.agg [.arr .i8 81 x0, .arr .i8 16 x1, .one [.i .i8 x2]], .s (.i .i64 x3), .s (.i .i64 x4)], [] => ob (qDe x0 x1 x2 x3 x4) fun y0 => K false (.s (.i .i64 y0)) ([])
 | _, _ => o 103 vs objs K
def qZZ (o : Orc) : Orc := qM 103 (qZV o) o
theorem qmQ : OQ Tryz.prog qZZ := fun _ ho => qP ho fun vs objs K r h => by
 unfold qZV at h
 split at h
 ·skip
  obtain ⟨t, h1, h2⟩ := qE h
  refine qAX mixed qZW (fn := Tryz.f103) (b := (Tryz.f103).body.getD .skip) (by kernel_rfl) (by kernel_rfl) (by kernel_rfl) ((qmN _ _ _ _ _).trans h1) (m := 0) rfl (qT.of (l' := [qG Tryz.f103 3]) (by kernel_rfl) ⟨qmR, trivial⟩) fun v objs' hd => ?_
  unfold qZX at hd;split at hd;(cases hd;exact h2);cases hd
 ·exact ho _ _ _ _ _ h
def qZ8 : Ctx := mkC 35 ((qPy (qFT (qLl (qEK qL))))) [] qV
theorem qmy : CtxOK Tryz.prog qZ8 := mkC_ok ((qY1 _ (qGO _ (qPw _ (qFS _ qN)))))
def qZ9 : V -> List Obj -> Option (Bool) := fun v objs => match v, objs with
 | .s (.b y0), [] => some (y0)
 | _, _ => none
theorem qmx (x0 x1 x2 : Int) : fnE qZ8 Tryz.f104 ([.s (.i .i64 x0), .s (.i .i64 x1), .s (.i .i64 x2)]) ([]) qZ9 = qJU x0 x1 x2 := by kernel_rfl
def qZ7 : HA := fun o vs objs K => match vs, objs with
 | [.s (.i .i64 x0), .s (.i .i64 x1), .s (.i .i64 x2)], [] => ob (qJU x0 x1 x2) fun y0 => K false (.s (.b y0)) ([])
 | _, _ => o 104 vs objs K
def qaA (o : Orc) : Orc := qM 104 (qZ7 o) o
theorem qmz : OQ Tryz.prog qaA := fun _ ho => qP ho fun vs objs K r h => by
 unfold qZ7 at h
 split at h
 ·skip
  obtain ⟨t, h1, h2⟩ := qE h
  refine any0K mixed qmy ((qmx _ _ _).trans h1) (by kernel_rfl) fun v objs' hd => ?_
  unfold qZ9 at hd;split at hd;(cases hd;exact h2);cases hd
 ·exact ho _ _ _ _ _ h
def qaG : Ctx := mkC 14 ((qPx (qLl (qEK qL)))) [] qV
theorem qm4 : CtxOK Tryz.prog qaG := mkC_ok ((qYx _ (qPw _ (qFS _ qN))))
def qaH : V -> List Obj -> Option (Bool) := fun v objs => match v, objs with
 | .s (.b y0), [] => some (y0)
 | _, _ => none
theorem qm3 (x0 x1 : Int) : fnE qaG Tryz.f105 ([.s (.i .i64 x0), .s (.i .i64 x1)]) ([]) qaH = qJV x0 x1 := by kernel_rfl
def qaF : HA := fun o vs objs K => match vs, objs with
 | [.s (.i .i64 x0), .s (.i .i64 x1)], [] => ob (qJV x0 x1) fun y0 => K false (.s (.b y0)) ([])
 | _, _ => o 105 vs objs K
def qaI (o : Orc) : Orc := qM 105 (qaF o) o
theorem qm5 : OQ Tryz.prog qaI := fun _ ho => qP ho fun vs objs K r h => by
 unfold qaF at h
 split at h
 ·skip
  obtain ⟨t, h1, h2⟩ := qE h
  refine any0K mixed qm4 ((qm3 _ _).trans h1) (by kernel_rfl) fun v objs' hd => ?_
  unfold qaH at hd;split at hd;(cases hd;exact h2);cases hd
 ·exact ho _ _ _ _ _ h
def qaC : Ctx := mkC 70 ((qaI (qaA (qLo (qLr (qZZ (qPx (qZz qL)))))))) [] qV
theorem qm1 : CtxOK Tryz.prog qaC := mkC_ok ((qm5 _ (qmz _ (qP6 _ (qQD _ (qmQ _ (qYx _ (qmm _ qN))))))))
def qaD : V -> List Obj -> Option (Bool) := fun v objs => match v, objs with
 | .s (.b y0), [] => some (y0)
 | _, _ => none
theorem qm0 (x0 x1 : LI) (x2 x3 : Int) (x4 x5 : Int) (x6 : Bool) : fnE qaC Tryz.f77 ([.agg [.arr .i8 81 x0, .arr .i8 16 x1, .one [.i .i8 x2]], .agg [.one [.i .i64 x3, .i .i64 x4, .i .i64 x5, .b x6]]]) ([]) qaD = qFc x0 x1 x2 x3 x4 x5 x6 := by kernel_rfl
def qaB : HA := fun o vs objs K => match vs, objs with
 | [.agg [.arr .i8 81 x0, .arr .i8 16 x1, .one [.i .i8 x2]], .agg [.one [.i .i64 x3, .i .i64 x4, .i .i64 x5, .b x6]]], [] => ob (qFc x0 x1 x2 x3 x4 x5 x6) fun y0 => K false (.s (.b y0)) ([])
 | _, _ => o 77 vs objs K
def qaE (o : Orc) : Orc := qM 77 (qaB o) o
theorem qm2 : OQ Tryz.prog qaE := fun _ ho => qP ho fun vs objs K r h => by
 unfold qaB at h
 split at h
 ·skip
  obtain ⟨t, h1, h2⟩ := qE h
  refine any0K mixed qm1 ((qm0 _ _ _ _ _ _ _).trans h1) (by kernel_rfl) fun v objs' hd => ?_
  unfold qaD at hd;split at hd;(cases hd;exact h2);cases hd
 ·exact ho _ _ _ _ _ h
def qQN : Ex -> List V -> List Obj -> Option (Nat × Int × LI × LI × Int × Nat × LL × List Bool) := fun e vs objs => match e, vs, objs with
 | .exit 2, [.s (.ptr 0 0 none 0), .s (.sl 1 0 y0 true), .s (.ptr 2 0 none 0), .s (.i .i64 y1)], [.cells 28 [.arr .i8 81 y2, .arr .i8 16 y3, .one [.i .i8 y4]], .sli 53 false (.rows [.i .i64, .i .i64, .i .i64, .b] y5 y6), .cells 106 [Seg.barr 81 y7]] => some (y0, y1, y2, y3, y4, y5, y6, y7)
 | _, _, _ => none
def qQT : Ex -> List V -> List Obj -> Option (Nat × LI × LI × Int × Nat × LL) := fun e vs objs => match e, vs, objs with
 | .exit 0, [.s (.ptr 0 0 none 0), .s (.sl 1 0 y0 true)], [.cells 28 [.arr .i8 81 y1, .arr .i8 16 y2, .one [.i .i8 y3]], .sli 53 false (.rows [.i .i64, .i .i64, .i .i64, .b] y4 y5)] => some (y0, y1, y2, y3, y4, y5)
 | _, _, _ => none
def qQR : Ex -> List V -> List Obj -> Option (Nat × Int × LI × LI × Int × Nat × LL) := fun e vs objs => match e, vs, objs with
 | .exit 6, [.s (.ptr 0 0 none 0), .s (.sl 1 0 y0 true), .s (.i .i64 y1)], [.cells 28 [.arr .i8 81 y2, .arr .i8 16 y3, .one [.i .i8 y4]], .sli 53 false (.rows [.i .i64, .i .i64, .i .i64, .b] y5 y6)] => some (y0, y1, y2, y3, y4, y5, y6)
 | _, _, _ => none
def qQP : Ex -> List V -> List Obj -> Option (Nat × Nat × LL) := fun e vs objs => match e, vs, objs with
 | .exit 4, [.s (.sl 0 0 y0 true)], [.sli 53 false (.rows [.i .i64, .i .i64, .i .i64, .b] y1 y2)] => some (y0, y1, y2)
 | _, _, _ => none
def qQW : HL := fun vs objs K => match vs, objs with
 | [.s (.ptr 0 0 none 0), .s (.sl 1 0 x0 true), .s (.ptr 2 0 none 0), .s (.i .i64 x1), .s (.i .i64 x2)], [.cells 28 [.arr .i8 81 x3, .arr .i8 16 x4, .one [.i .i8 x5]], .sli 53 false (.rows [.i .i64, .i .i64, .i .i64, .b] x6 x7), .cells 106 [Seg.barr 81 x8]] => ob (qFa qC x0 x1 x2 x3 x4 x5 x6 x7 x8) fun z => K (.exit 2) ([.s (.ptr 0 0 none 0), .s (.sl 1 0 (z.1) true), .s (.ptr 2 0 none 0), .s (.i .i64 (z.2.1))]) ([.cells 28 [.arr .i8 81 (z.2.2.1), .arr .i8 16 (z.2.2.2.1), .one [.i .i8 (z.2.2.2.2.1)]], .sli 53 false (.rows [.i .i64, .i .i64, .i .i64, .b] (z.2.2.2.2.2.1) (z.2.2.2.2.2.2.1)), .cells 106 [Seg.barr 81 (z.2.2.2.2.2.2.2)]])
 | _, _ => none
def qQZ : HL := fun vs objs K => match vs, objs with
 | [.s (.ptr 0 0 none 0), .s (.sl 1 0 x0 true), .s (.ptr 2 0 none 0), .s (.i .i64 x1)], [.cells 28 [.arr .i8 81 x2, .arr .i8 16 x3, .one [.i .i8 x4]], .sli 53 false (.rows [.i .i64, .i .i64, .i .i64, .b] x5 x6), .cells 106 [Seg.barr 81 x7]] => ob (qDi qC x0 x1 x2 x3 x4 x5 x6 x7) fun z => K (.exit 0) ([.s (.ptr 0 0 none 0), .s (.sl 1 0 (z.1) true)]) ([.cells 28 [.arr .i8 81 (z.2.1), .arr .i8 16 (z.2.2.1), .one [.i .i8 (z.2.2.2.1)]], .sli 53 false (.rows [.i .i64, .i .i64, .i .i64, .b] (z.2.2.2.2.1) (z.2.2.2.2.2))])
 | _, _ => none
def qQY : HL := fun vs objs K => match vs, objs with
 | [.s (.ptr 0 0 none 0), .s (.sl 1 0 x0 true), .s (.i .i64 x1), .s (.i .i64 x2)], [.cells 28 [.arr .i8 81 x3, .arr .i8 16 x4, .one [.i .i8 x5]], .sli 53 false (.rows [.i .i64, .i .i64, .i .i64, .b] x6 x7)] => ob (qFb qC x0 x1 x2 x3 x4 x5 x6 x7) fun z => K (.exit 6) ([.s (.ptr 0 0 none 0), .s (.sl 1 0 (z.1) true), .s (.i .i64 (z.2.1))]) ([.cells 28 [.arr .i8 81 (z.2.2.1), .arr .i8 16 (z.2.2.2.1), .one [.i .i8 (z.2.2.2.2.1)]], .sli 53 false (.rows [.i .i64, .i .i64, .i .i64, .b] (z.2.2.2.2.2.1) (z.2.2.2.2.2.2))])
 | _, _ => none
def qQX : HL := fun vs objs K => match vs, objs with
 | [.s (.ptr 0 0 none 0), .s (.sl 1 0 x0 true), .s (.i .i64 x1)], [.cells 28 [.arr .i8 81 x2, .arr .i8 16 x3, .one [.i .i8 x4]], .sli 53 false (.rows [.i .i64, .i .i64, .i .i64, .b] x5 x6)] => ob (qDh qC x0 x1 x2 x3 x4 x5 x6) fun z => K (.exit 4) ([.s (.sl 0 0 (z.1) true)]) ([.sli 53 false (.rows [.i .i64, .i .i64, .i .i64, .b] (z.2.1) (z.2.2))])
 | _, _ => none
def qms : {R : Type} -> Nat -> List V -> List Obj -> (Ex -> List V -> List Obj -> Option R) -> Option R := fun q vs objs K => bif Nat.beq q 10 then qQW vs objs K else bif Nat.beq q 6 then qQZ vs objs K else bif Nat.beq q 23 then qQY vs objs K else bif Nat.beq q 20 then qQX vs objs K else none
def qDg : Ctx := mkC 98 ((qaE (qLo (qFT (qLr qL))))) [(6, [1, 3, 4, 5], [1, 3]), (10, [1, 3, 4, 5, 6], [1, 3, 4, 5]), (20, [1, 3, 8], [3]), (23, [1, 3, 8, 9], [1, 3, 8])] qms
theorem qJT : CtxOK Tryz.prog qDg := mkC_ok ((qm2 _ (qP6 _ (qGO _ (qQD _ qN)))))
def qQO (f : Nat) (x0 : Nat) (x1 x2 : Int) (x3 x4 : LI) (x5 : Int) (x6 : Nat) (x7 : LL) (x8 : List Bool) : Option (Nat × Int × LI × LI × Int × Nat × LL × List Bool) := qg qDg 0 [1, 3, 4, 5, 6] [1, 3, 4, 5] (qG Tryz.f30 10) f ([.s (.ptr 0 0 none 0), .s (.sl 1 0 x0 true), .s (.ptr 2 0 none 0), .s (.i .i64 x1), .s (.i .i64 x2)]) ([.cells 28 [.arr .i8 81 x3, .arr .i8 16 x4, .one [.i .i8 x5]], .sli 53 false (.rows [.i .i64, .i .i64, .i .i64, .b] x6 x7), .cells 106 [Seg.barr 81 x8]]) qQN
theorem qmo (f : Nat) (x0 : Nat) (x1 x2 : Int) (x3 x4 : LI) (x5 : Int) (x6 : Nat) (x7 : LL) (x8 : List Bool) : qQO (f + 1) x0 x1 x2 x3 x4 x5 x6 x7 x8 = qHy (qQO f) x0 x1 x2 x3 x4 x5 x6 x7 x8 := by kernel_rfl
theorem qZ2 : ∀ f, qQO f = qFa f
 | 0 => rfl
 | f + 1 => by funext x0 x1 x2 x3 x4 x5 x6 x7 x8; rw [qmo, qZ2 f]; rfl
def qQU (f : Nat) (x0 : Nat) (x1 : Int) (x2 x3 : LI) (x4 : Int) (x5 : Nat) (x6 : LL) (x7 : List Bool) : Option (Nat × LI × LI × Int × Nat × LL) := qg qDg 0 [1, 3, 4, 5] [1, 3] (qG Tryz.f30 6) f ([.s (.ptr 0 0 none 0), .s (.sl 1 0 x0 true), .s (.ptr 2 0 none 0), .s (.i .i64 x1)]) ([.cells 28 [.arr .i8 81 x2, .arr .i8 16 x3, .one [.i .i8 x4]], .sli 53 false (.rows [.i .i64, .i .i64, .i .i64, .b] x5 x6), .cells 106 [Seg.barr 81 x7]]) qQT
theorem qmr (f : Nat) (x0 : Nat) (x1 : Int) (x2 x3 : LI) (x4 : Int) (x5 : Nat) (x6 : LL) (x7 : List Bool) : qQU (f + 1) x0 x1 x2 x3 x4 x5 x6 x7 = qH1 (qQU f) x0 x1 x2 x3 x4 x5 x6 x7 := by kernel_rfl
theorem qZ5 : ∀ f, qQU f = qDi f
 | 0 => rfl
 | f + 1 => by funext x0 x1 x2 x3 x4 x5 x6 x7; rw [qmr, qZ5 f]; rfl
def qQS (f : Nat) (x0 : Nat) (x1 x2 : Int) (x3 x4 : LI) (x5 : Int) (x6 : Nat) (x7 : LL) : Option (Nat × Int × LI × LI × Int × Nat × LL) := qg qDg 0 [1, 3, 8, 9] [1, 3, 8] (qG Tryz.f30 23) f ([.s (.ptr 0 0 none 0), .s (.sl 1 0 x0 true), .s (.i .i64 x1), .s (.i .i64 x2)]) ([.cells 28 [.arr .i8 81 x3, .arr .i8 16 x4, .one [.i .i8 x5]], .sli 53 false (.rows [.i .i64, .i .i64, .i .i64, .b] x6 x7)]) qQR
theorem qmq (f : Nat) (x0 : Nat) (x1 x2 : Int) (x3 x4 : LI) (x5 : Int) (x6 : Nat) (x7 : LL) : qQS (f + 1) x0 x1 x2 x3 x4 x5 x6 x7 = qH0 (qQS f) x0 x1 x2 x3 x4 x5 x6 x7 := by kernel_rfl
theorem qZ4 : ∀ f, qQS f = qFb f
 | 0 => rfl
 | f + 1 => by funext x0 x1 x2 x3 x4 x5 x6 x7; rw [qmq, qZ4 f]; rfl
def qQQ (f : Nat) (x0 : Nat) (x1 : Int) (x2 x3 : LI) (x4 : Int) (x5 : Nat) (x6 : LL) : Option (Nat × Nat × LL) := qg qDg 0 [1, 3, 8] [3] (qG Tryz.f30 20) f ([.s (.ptr 0 0 none 0), .s (.sl 1 0 x0 true), .s (.i .i64 x1)]) ([.cells 28 [.arr .i8 81 x2, .arr .i8 16 x3, .one [.i .i8 x4]], .sli 53 false (.rows [.i .i64, .i .i64, .i .i64, .b] x5 x6)]) qQP
theorem qmp (f : Nat) (x0 : Nat) (x1 : Int) (x2 x3 : LI) (x4 : Int) (x5 : Nat) (x6 : LL) : qQQ (f + 1) x0 x1 x2 x3 x4 x5 x6 = qHz (qQQ f) x0 x1 x2 x3 x4 x5 x6 := by kernel_rfl
theorem qZ3 : ∀ f, qQQ f = qDh f
 | 0 => rfl
 | f + 1 => by funext x0 x1 x2 x3 x4 x5 x6; rw [qmp, qZ3 f]; rfl
theorem qmt : qe Tryz.prog qDg 0 (qG Tryz.f30 10) :=
 qk mixed qJT (qT.of (l' := []) (by kernel_rfl) trivial) (q := 10) (kin := [1, 3, 4, 5, 6]) (kout := [1, 3, 4, 5]) (by kernel_rfl) (by kernel_rfl) fun vs objs K r h => by
  replace h : qQW vs objs K = some r := h
  unfold qQW at h
  split at h
  ·skip
   obtain ⟨t, h1, h2⟩ := qE h
   rw [<- qZ2] at h1
   refine ⟨_, qQN, t, qC, h1, fun e vs' objs' hd => ?_⟩
   unfold qQN at hd;split at hd;(cases hd;exact h2);cases hd
  ·cases h
theorem qmv : qe Tryz.prog qDg 0 (qG Tryz.f30 23) :=
 qk mixed qJT (qT.of (l' := []) (by kernel_rfl) trivial) (q := 23) (kin := [1, 3, 8, 9]) (kout := [1, 3, 8]) (by kernel_rfl) (by kernel_rfl) fun vs objs K r h => by
  replace h : qQY vs objs K = some r := h
  unfold qQY at h
  split at h
  ·skip
   obtain ⟨t, h1, h2⟩ := qE h
   rw [<- qZ4] at h1
   refine ⟨_, qQR, t, qC, h1, fun e vs' objs' hd => ?_⟩
   unfold qQR at hd;split at hd;(cases hd;exact h2);cases hd
  ·cases h
theorem qmw : qe Tryz.prog qDg 0 (qG Tryz.f30 6) :=
 qk mixed qJT (qT.of (l' := [qG Tryz.f30 10]) (by kernel_rfl) ⟨qmt, trivial⟩) (q := 6) (kin := [1, 3, 4, 5]) (kout := [1, 3]) (by kernel_rfl) (by kernel_rfl) fun vs objs K r h => by
  replace h : qQZ vs objs K = some r := h
  unfold qQZ at h
  split at h
  ·skip
   obtain ⟨t, h1, h2⟩ := qE h
   rw [<- qZ5] at h1
   refine ⟨_, qQT, t, qC, h1, fun e vs' objs' hd => ?_⟩
   unfold qQT at hd;split at hd;(cases hd;exact h2);cases hd
  ·cases h
theorem qmu : qe Tryz.prog qDg 0 (qG Tryz.f30 20) :=
 qk mixed qJT (qT.of (l' := [qG Tryz.f30 23]) (by kernel_rfl) ⟨qmv, trivial⟩) (q := 20) (kin := [1, 3, 8]) (kout := [3]) (by kernel_rfl) (by kernel_rfl) fun vs objs K r h => by
  replace h : qQX vs objs K = some r := h
  unfold qQX at h
  split at h
  ·skip
   obtain ⟨t, h1, h2⟩ := qE h
   rw [<- qZ3] at h1
   refine ⟨_, qQP, t, qC, h1, fun e vs' objs' hd => ?_⟩
   unfold qQP at hd;split at hd;(cases hd;exact h2);cases hd
  ·cases h
def qZ1 : V -> List Obj -> Option (Nat × Nat × LL) := fun v objs => match v, objs with
 | .s (.sl 0 0 y0 true), [.sli 53 false (.rows [.i .i64, .i .i64, .i .i64, .b] y1 y2)] => some (y0, y1, y2)
 | _, _ => none
theorem qmn (x0 x1 : LI) (x2 : Int) : fnE qDg Tryz.f30 ([.agg [.arr .i8 81 x0, .arr .i8 16 x1, .one [.i .i8 x2]]]) ([]) qZ1 = qHx x0 x1 x2 := by kernel_rfl
def qZ0 : HA := fun o vs objs K => match vs, objs with
 | [.agg [.arr .i8 81 x0, .arr .i8 16 x1, .one [.i .i8 x2]]], [] => ob (qHx x0 x1 x2) fun z => K false (.s (.sl 0 0 (z.1) true)) ([.sli 53 false (.rows [.i .i64, .i .i64, .i .i64, .b] (z.2.1) (z.2.2))])
 | _, _ => o 30 vs objs K
def qQV (o : Orc) : Orc := qM 30 (qZ0 o) o
theorem qZ6 : OQ Tryz.prog qQV := fun _ ho => qP ho fun vs objs K r h => by
 unfold qZ0 at h
 split at h
 ·skip
  obtain ⟨t, h1, h2⟩ := qE h
  refine qAX mixed qJT (fn := Tryz.f30) (b := (Tryz.f30).body.getD .skip) (by kernel_rfl) (by kernel_rfl) (by kernel_rfl) ((qmn _ _ _).trans h1) (m := 0) rfl (qT.of (l' := [qG Tryz.f30 6, qG Tryz.f30 20]) (by kernel_rfl) ⟨qmw, qmu, trivial⟩) fun v objs' hd => ?_
  unfold qZ1 at hd;split at hd;(cases hd;exact h2);cases hd
 ·exact ho _ _ _ _ _ h
def qYl : Ctx := mkC 18 (qL) [] qV
theorem qlq : CtxOK Tryz.prog qYl := mkC_ok (qN)
def qYm : V -> List Obj -> Option (Int) := fun v objs => match v, objs with
 | .s (.i .i64 y0), [] => some (y0)
 | _, _ => none
theorem qlp (x0 : Int) : fnE qYl Tryz.f106 ([.s (.i .i64 x0)]) ([]) qYm = qHm x0 := by kernel_rfl
def qYk : HA := fun o vs objs K => match vs, objs with
 | [.s (.i .i64 x0)], [] => ob (qHm x0) fun y0 => K false (.s (.i .i64 y0)) ([])
 | _, _ => o 106 vs objs K
def qYn (o : Orc) : Orc := qM 106 (qYk o) o
theorem qlr : OQ Tryz.prog qYn := fun _ ho => qP ho fun vs objs K r h => by
 unfold qYk at h
 split at h
 ·skip
  obtain ⟨t, h1, h2⟩ := qE h
  refine any0K mixed qlq ((qlp _).trans h1) (by kernel_rfl) fun v objs' hd => ?_
  unfold qYm at hd;split at hd;(cases hd;exact h2);cases hd
 ·exact ho _ _ _ _ _ h
def qZt : Ctx := mkC 82 ((qYn (qEK qL))) [] qV
theorem qmj : CtxOK Tryz.prog qZt := mkC_ok ((qlr _ (qFS _ qN)))
def qZu : V -> List Obj -> Option (LI × LI × Int) := fun v objs => match v, objs with
 | .agg [.arr .i8 81 y0, .arr .i8 16 y1, .one [.i .i8 y2]], [] => some (y0, y1, y2)
 | _, _ => none
theorem qmi (x0 x1 : LI) (x2 x3 : Int) (x4 x5 : Int) (x6 : Bool) : fnE qZt Tryz.f79 ([.agg [.arr .i8 81 x0, .arr .i8 16 x1, .one [.i .i8 x2]], .agg [.one [.i .i64 x3, .i .i64 x4, .i .i64 x5, .b x6]]]) ([]) qZu = qHw x0 x1 x2 x3 x4 x5 x6 := by kernel_rfl
def qZs : HA := fun o vs objs K => match vs, objs with
 | [.agg [.arr .i8 81 x0, .arr .i8 16 x1, .one [.i .i8 x2]], .agg [.one [.i .i64 x3, .i .i64 x4, .i .i64 x5, .b x6]]], [] => ob (qHw x0 x1 x2 x3 x4 x5 x6) fun z => K false (.agg [.arr .i8 81 (z.1), .arr .i8 16 (z.2.1), .one [.i .i8 (z.2.2)]]) ([])
 | _, _ => o 79 vs objs K
def qQM (o : Orc) : Orc := qM 79 (qZs o) o
theorem qZv : OQ Tryz.prog qQM := fun _ ho => qP ho fun vs objs K r h => by
 unfold qZs at h
 split at h
 ·skip
  obtain ⟨t, h1, h2⟩ := qE h
  refine any0K mixed qmj ((qmi _ _ _ _ _ _ _).trans h1) (by kernel_rfl) fun v objs' hd => ?_
  unfold qZu at hd;split at hd;(cases hd;exact h2);cases hd
 ·exact ho _ _ _ _ _ h
end
end Go.Kk.KkST
