/- Printed by a tool of this project (KkGen): the program's functions come to the plain ones. -/
import Derived.Test.YthhkpianmpgeiaaDoorKkBS
namespace Go.Kk.KkBS
open Go.Proofs Go.Kk.Pl
set_option maxRecDepth 100000
set_option maxHeartbeats 4000000
noncomputable def ref05_Onl3d : Ex → List V → List Obj → Option (Int) := fun e vs objs => match e, vs, objs with
 | .exit 0, [.s (.i .i64 y0)], [] => some (y0)
 | _, _, _ => none
noncomputable def ref05_Onp3 {R : Type} (vs : List V) (objs : List Obj) (K : Ex → List V → List Obj → Option R) : Option R := match vs, objs with
 | [.s (.i .i64 x0), .s (.i .i64 x1), .s (.ptr 0 0 none 0), .s (.i .i64 x2), .s (.i .i64 x3)], [.cells 29 [.arr .i8 81 x4, .arr .i8 16 x5, .one [.i .i8 x6]]] => ob (ref05_Onl3 many x0 x1 x2 x3 x4 x5 x6) fun y0 => K (.exit 0) ([.s (.i .i64 y0)]) ([])
 | _, _ => none
noncomputable def ref05_Onlp : {R : Type} → Nat → List V → List Obj → (Ex → List V → List Obj → Option R) → Option R := fun q vs objs K => bif Nat.beq q 3 then ref05_Onp3 vs objs K else none
noncomputable def ref05_Onc : Ctx := mkC 26 (oNil) [(3, [1, 2, 3, 7, 8], [7])] ref05_Onlp
theorem ref05_Onc_ok : CtxOK Tryd.prog ref05_Onc := mkC_ok (oNil_ok)
noncomputable def ref05_Onl3r (f : Nat) (x0 x1 : Int) (x2 x3 : Int) (x4 x5 : List Int) (x6 : Int) : Option (Int) := lrun ref05_Onc 0 [1, 2, 3, 7, 8] [7] (loopOf Tryd.f28 3) f ([.s (.i .i64 x0), .s (.i .i64 x1), .s (.ptr 0 0 none 0), .s (.i .i64 x2), .s (.i .i64 x3)]) ([.cells 29 [.arr .i8 81 x4, .arr .i8 16 x5, .one [.i .i8 x6]]]) ref05_Onl3d
theorem ref05_Onl3_step (f : Nat) (x0 x1 : Int) (x2 x3 : Int) (x4 x5 : List Int) (x6 : Int) : ref05_Onl3r (f + 1) x0 x1 x2 x3 x4 x5 x6 = ref05_Onl3s (ref05_Onl3r f) x0 x1 x2 x3 x4 x5 x6 := by kernel_rfl
theorem ref05_Onl3_eq : ∀ f, ref05_Onl3r f = ref05_Onl3 f
 | 0 => rfl
 | f + 1 => by funext x0 x1 x2 x3 x4 x5 x6; rw [ref05_Onl3_step, ref05_Onl3_eq f]; rfl
theorem ref05_Ons3 : LoopSound Tryd.prog ref05_Onc 0 (loopOf Tryd.f28 3) :=
 loopSound_by mixed ref05_Onc_ok (AllP.of (l' := []) (by kernel_rfl) trivial) (q := 3) (kin := [1, 2, 3, 7, 8]) (kout := [7]) (by kernel_rfl) (by kernel_rfl) fun vs objs K r h => by
  replace h : ref05_Onp3 vs objs K = some r := h
  unfold ref05_Onp3 at h
  split at h
  ·skip
   obtain ⟨t, h1, h2⟩ := ob_ok h
   rw [← ref05_Onl3_eq] at h1
   refine ⟨_, ref05_Onl3d, t, many, h1, fun e vs' objs' hd => ?_⟩
   unfold ref05_Onl3d at hd
   split at hd
   ·skip
    cases hd
    exact h2
   ·cases hd
  ·cases h
noncomputable def ref05_Ond : V → List Obj → Option (Int) := fun v objs => match v, objs with
 | .s (.i .i64 y0), [] => some (y0)
 | _, _ => none
theorem ref05_On_eq (x0 x1 : List Int) (x2 x3 x4 : Int) : fnE ref05_Onc Tryd.f28 ([.agg [.arr .i8 81 x0, .arr .i8 16 x1, .one [.i .i8 x2]], .s (.i .i64 x3), .s (.i .i64 x4)]) ([]) ref05_Ond = ref05_On x0 x1 x2 x3 x4 := by kernel_rfl
noncomputable def ref05_Ona {R : Type} (o : Orc) (vs : List V) (objs : List Obj) (K : Bool → V → List Obj → Option R) : Option R := match vs, objs with
 | [.agg [.arr .i8 81 x0, .arr .i8 16 x1, .one [.i .i8 x2]], .s (.i .i64 x3), .s (.i .i64 x4)], [] => ob (ref05_On x0 x1 x2 x3 x4) fun y0 => K false (.s (.i .i64 y0)) ([])
 | _, _ => o 28 vs objs K
noncomputable def ref05_Ono (o : Orc) : Orc := hook 28 (ref05_Ona o) o
theorem ref05_Ono_ok (o : Orc) (ho : OSound Tryd.prog o) : OSound Tryd.prog (ref05_Ono o) := hook_ok ho fun vs objs K r h => by
 unfold ref05_Ona at h
 split at h
 ·skip
  obtain ⟨t, h1, h2⟩ := ob_ok h
  refine anyOK_of mixed ref05_Onc_ok (fn := Tryd.f28) (b := (Tryd.f28).body.getD .skip) (by kernel_rfl) (by kernel_rfl) (by kernel_rfl) ((ref05_On_eq _ _ _ _ _).trans h1) (m := 0) rfl (AllP.of (l' := [loopOf Tryd.f28 3]) (by kernel_rfl) ⟨ref05_Ons3, trivial⟩) fun v objs' hd => ?_
  unfold ref05_Ond at hd
  split at hd
  ·skip
   cases hd
   exact h2
  ·cases hd
 ·exact ho _ _ _ _ _ h
noncomputable def ref05_alll3d : Ex → List V → List Obj → Option (Int) := fun e vs objs => match e, vs, objs with
 | .exit 0, [.s (.i .i64 y0)], [] => some (y0)
 | _, _, _ => none
noncomputable def ref05_allp3 {R : Type} (vs : List V) (objs : List Obj) (K : Ex → List V → List Obj → Option R) : Option R := match vs, objs with
 | [.s (.i .i64 x0), .s (.ptr 0 0 none 0), .s (.i .i64 x1), .s (.i .i64 x2)], [.cells 29 [.arr .i8 81 x3, .arr .i8 16 x4, .one [.i .i8 x5]]] => ob (ref05_alll3 many x0 x1 x2 x3 x4 x5) fun y0 => K (.exit 0) ([.s (.i .i64 y0)]) ([])
 | _, _ => none
noncomputable def ref05_alllp : {R : Type} → Nat → List V → List Obj → (Ex → List V → List Obj → Option R) → Option R := fun q vs objs K => bif Nat.beq q 3 then ref05_allp3 vs objs K else none
noncomputable def ref05_allc : Ctx := mkC 18 ((ref05_Ono oNil)) [(3, [1, 2, 5, 6], [5])] ref05_alllp
theorem ref05_allc_ok : CtxOK Tryd.prog ref05_allc := mkC_ok ((ref05_Ono_ok _ oNil_ok))
noncomputable def ref05_alll3r (f : Nat) (x0 x1 x2 : Int) (x3 x4 : List Int) (x5 : Int) : Option (Int) := lrun ref05_allc 0 [1, 2, 5, 6] [5] (loopOf Tryd.f24 3) f ([.s (.i .i64 x0), .s (.ptr 0 0 none 0), .s (.i .i64 x1), .s (.i .i64 x2)]) ([.cells 29 [.arr .i8 81 x3, .arr .i8 16 x4, .one [.i .i8 x5]]]) ref05_alll3d
theorem ref05_alll3_step (f : Nat) (x0 x1 x2 : Int) (x3 x4 : List Int) (x5 : Int) : ref05_alll3r (f + 1) x0 x1 x2 x3 x4 x5 = ref05_alll3s (ref05_alll3r f) x0 x1 x2 x3 x4 x5 := by kernel_rfl
theorem ref05_alll3_eq : ∀ f, ref05_alll3r f = ref05_alll3 f
 | 0 => rfl
 | f + 1 => by funext x0 x1 x2 x3 x4 x5; rw [ref05_alll3_step, ref05_alll3_eq f]; rfl
theorem ref05_alls3 : LoopSound Tryd.prog ref05_allc 0 (loopOf Tryd.f24 3) :=
 loopSound_by mixed ref05_allc_ok (AllP.of (l' := []) (by kernel_rfl) trivial) (q := 3) (kin := [1, 2, 5, 6]) (kout := [5]) (by kernel_rfl) (by kernel_rfl) fun vs objs K r h => by
  replace h : ref05_allp3 vs objs K = some r := h
  unfold ref05_allp3 at h
  split at h
  ·skip
   obtain ⟨t, h1, h2⟩ := ob_ok h
   rw [← ref05_alll3_eq] at h1
   refine ⟨_, ref05_alll3d, t, many, h1, fun e vs' objs' hd => ?_⟩
   unfold ref05_alll3d at hd
   split at hd
   ·skip
    cases hd
    exact h2
   ·cases hd
  ·cases h
noncomputable def ref05_alld : V → List Obj → Option (Int) := fun v objs => match v, objs with
 | .s (.i .i64 y0), [] => some (y0)
 | _, _ => none
theorem ref05_all_eq (x0 x1 : List Int) (x2 x3 : Int) : fnE ref05_allc Tryd.f24 ([.agg [.arr .i8 81 x0, .arr .i8 16 x1, .one [.i .i8 x2]], .s (.i .i64 x3)]) ([]) ref05_alld = ref05_all x0 x1 x2 x3 := by kernel_rfl
noncomputable def ref05_alla {R : Type} (o : Orc) (vs : List V) (objs : List Obj) (K : Bool → V → List Obj → Option R) : Option R := match vs, objs with
 | [.agg [.arr .i8 81 x0, .arr .i8 16 x1, .one [.i .i8 x2]], .s (.i .i64 x3)], [] => ob (ref05_all x0 x1 x2 x3) fun y0 => K false (.s (.i .i64 y0)) ([])
 | _, _ => o 24 vs objs K
noncomputable def ref05_allo (o : Orc) : Orc := hook 24 (ref05_alla o) o
theorem ref05_allo_ok (o : Orc) (ho : OSound Tryd.prog o) : OSound Tryd.prog (ref05_allo o) := hook_ok ho fun vs objs K r h => by
 unfold ref05_alla at h
 split at h
 ·skip
  obtain ⟨t, h1, h2⟩ := ob_ok h
  refine anyOK_of mixed ref05_allc_ok (fn := Tryd.f24) (b := (Tryd.f24).body.getD .skip) (by kernel_rfl) (by kernel_rfl) (by kernel_rfl) ((ref05_all_eq _ _ _ _).trans h1) (m := 0) rfl (AllP.of (l' := [loopOf Tryd.f24 3]) (by kernel_rfl) ⟨ref05_alls3, trivial⟩) fun v objs' hd => ?_
  unfold ref05_alld at hd
  split at hd
  ·skip
   cases hd
   exact h2
  ·cases hd
 ·exact ho _ _ _ _ _ h
noncomputable def ref02_Rawc : Ctx := mkC 18 (oNil) [] lpNil
theorem ref02_Rawc_ok : CtxOK Tryd.prog ref02_Rawc := mkC_ok (oNil_ok)
noncomputable def ref02_Rawd : V → List Obj → Option (Int) := fun v objs => match v, objs with
 | .s (.i .i64 y0), [] => some (y0)
 | _, _ => none
theorem ref02_Raw_eq (x0 : Int) : fnE ref02_Rawc Tryd.f37 ([.s (.i .i64 x0)]) ([]) ref02_Rawd = ref02_Raw x0 := by kernel_rfl
noncomputable def ref02_Rawa {R : Type} (o : Orc) (vs : List V) (objs : List Obj) (K : Bool → V → List Obj → Option R) : Option R := match vs, objs with
 | [.s (.i .i64 x0)], [] => ob (ref02_Raw x0) fun y0 => K false (.s (.i .i64 y0)) ([])
 | _, _ => o 37 vs objs K
noncomputable def ref02_Rawo (o : Orc) : Orc := hook 37 (ref02_Rawa o) o
theorem ref02_Rawo_ok (o : Orc) (ho : OSound Tryd.prog o) : OSound Tryd.prog (ref02_Rawo o) := hook_ok ho fun vs objs K r h => by
 unfold ref02_Rawa at h
 split at h
 ·skip
  obtain ⟨t, h1, h2⟩ := ob_ok h
  refine anyOK_of mixed ref02_Rawc_ok (fn := Tryd.f37) (b := (Tryd.f37).body.getD .skip) (by kernel_rfl) (by kernel_rfl) (by kernel_rfl) ((ref02_Raw_eq _).trans h1) (m := 0) rfl (AllP.of (l' := []) (by kernel_rfl) trivial) fun v objs' hd => ?_
  unfold ref02_Rawd at hd
  split at hd
  ·skip
   cases hd
   exact h2
  ·cases hd
 ·exact ho _ _ _ _ _ h
noncomputable def ref05_Countl3d : Ex → List V → List Obj → Option (Int × Int × List Int × List Int × Int) := fun e vs objs => match e, vs, objs with
 | .exit 0, [.s (.i .i64 y0), .s (.ptr 0 0 none 0), .s (.i .i64 y1)], [.cells 29 [.arr .i8 81 y2, .arr .i8 16 y3, .one [.i .i8 y4]]] => some (y0, y1, y2, y3, y4)
 | _, _, _ => none
noncomputable def ref05_Countp3 {R : Type} (vs : List V) (objs : List Obj) (K : Ex → List V → List Obj → Option R) : Option R := match vs, objs with
 | [.s (.i .i64 x0), .s (.ptr 0 0 none 0), .s (.i .i64 x1), .s (.i .i64 x2)], [.cells 29 [.arr .i8 81 x3, .arr .i8 16 x4, .one [.i .i8 x5]]] => ob (ref05_Countl3 many x0 x1 x2 x3 x4 x5) fun z => K (.exit 0) ([.s (.i .i64 (z.1)), .s (.ptr 0 0 none 0), .s (.i .i64 (z.2.1))]) ([.cells 29 [.arr .i8 81 (z.2.2.1), .arr .i8 16 (z.2.2.2.1), .one [.i .i8 (z.2.2.2.2)]]])
 | _, _ => none
noncomputable def ref05_Countlp : {R : Type} → Nat → List V → List Obj → (Ex → List V → List Obj → Option R) → Option R := fun q vs objs K => bif Nat.beq q 3 then ref05_Countp3 vs objs K else none
noncomputable def ref05_Countc : Ctx := mkC 37 ((ref02_Rawo (ref02_Kindo oNil))) [(3, [1, 2, 5, 6], [1, 2, 5])] ref05_Countlp
theorem ref05_Countc_ok : CtxOK Tryd.prog ref05_Countc := mkC_ok ((ref02_Rawo_ok _ (ref02_Kindo_ok _ oNil_ok)))
noncomputable def ref05_Countl3r (f : Nat) (x0 x1 x2 : Int) (x3 x4 : List Int) (x5 : Int) : Option (Int × Int × List Int × List Int × Int) := lrun ref05_Countc 0 [1, 2, 5, 6] [1, 2, 5] (loopOf Tryd.f25 3) f ([.s (.i .i64 x0), .s (.ptr 0 0 none 0), .s (.i .i64 x1), .s (.i .i64 x2)]) ([.cells 29 [.arr .i8 81 x3, .arr .i8 16 x4, .one [.i .i8 x5]]]) ref05_Countl3d
theorem ref05_Countl3_step (f : Nat) (x0 x1 x2 : Int) (x3 x4 : List Int) (x5 : Int) : ref05_Countl3r (f + 1) x0 x1 x2 x3 x4 x5 = ref05_Countl3s (ref05_Countl3r f) x0 x1 x2 x3 x4 x5 := by kernel_rfl
theorem ref05_Countl3_eq : ∀ f, ref05_Countl3r f = ref05_Countl3 f
 | 0 => rfl
 | f + 1 => by funext x0 x1 x2 x3 x4 x5; rw [ref05_Countl3_step, ref05_Countl3_eq f]; rfl
theorem ref05_Counts3 : LoopSound Tryd.prog ref05_Countc 0 (loopOf Tryd.f25 3) :=
 loopSound_by mixed ref05_Countc_ok (AllP.of (l' := []) (by kernel_rfl) trivial) (q := 3) (kin := [1, 2, 5, 6]) (kout := [1, 2, 5]) (by kernel_rfl) (by kernel_rfl) fun vs objs K r h => by
  replace h : ref05_Countp3 vs objs K = some r := h
  unfold ref05_Countp3 at h
  split at h
  ·skip
   obtain ⟨t, h1, h2⟩ := ob_ok h
   rw [← ref05_Countl3_eq] at h1
   refine ⟨_, ref05_Countl3d, t, many, h1, fun e vs' objs' hd => ?_⟩
   unfold ref05_Countl3d at hd
   split at hd
   ·skip
    cases hd
    exact h2
   ·cases hd
  ·cases h
noncomputable def ref05_Countd : V → List Obj → Option (Int) := fun v objs => match v, objs with
 | .s (.i .i64 y0), [] => some (y0)
 | _, _ => none
theorem ref05_Count_eq (x0 x1 : List Int) (x2 x3 : Int) : fnE ref05_Countc Tryd.f25 ([.agg [.arr .i8 81 x0, .arr .i8 16 x1, .one [.i .i8 x2]], .s (.i .i64 x3)]) ([]) ref05_Countd = ref05_Count x0 x1 x2 x3 := by kernel_rfl
noncomputable def ref05_Counta {R : Type} (o : Orc) (vs : List V) (objs : List Obj) (K : Bool → V → List Obj → Option R) : Option R := match vs, objs with
 | [.agg [.arr .i8 81 x0, .arr .i8 16 x1, .one [.i .i8 x2]], .s (.i .i64 x3)], [] => ob (ref05_Count x0 x1 x2 x3) fun y0 => K false (.s (.i .i64 y0)) ([])
 | _, _ => o 25 vs objs K
noncomputable def ref05_Counto (o : Orc) : Orc := hook 25 (ref05_Counta o) o
theorem ref05_Counto_ok (o : Orc) (ho : OSound Tryd.prog o) : OSound Tryd.prog (ref05_Counto o) := hook_ok ho fun vs objs K r h => by
 unfold ref05_Counta at h
 split at h
 ·skip
  obtain ⟨t, h1, h2⟩ := ob_ok h
  refine anyOK_of mixed ref05_Countc_ok (fn := Tryd.f25) (b := (Tryd.f25).body.getD .skip) (by kernel_rfl) (by kernel_rfl) (by kernel_rfl) ((ref05_Count_eq _ _ _ _).trans h1) (m := 0) rfl (AllP.of (l' := [loopOf Tryd.f25 3]) (by kernel_rfl) ⟨ref05_Counts3, trivial⟩) fun v objs' hd => ?_
  unfold ref05_Countd at hd
  split at hd
  ·skip
   cases hd
   exact h2
  ·cases hd
 ·exact ho _ _ _ _ _ h
noncomputable def ref02_Totalc : Ctx := mkC 15 (oNil) [] lpNil
theorem ref02_Totalc_ok : CtxOK Tryd.prog ref02_Totalc := mkC_ok (oNil_ok)
noncomputable def ref02_Totald : V → List Obj → Option (Int) := fun v objs => match v, objs with
 | .s (.i .i64 y0), [] => some (y0)
 | _, _ => none
theorem ref02_Total_eq (x0 : Int) : fnE ref02_Totalc Tryd.f26 ([.s (.i .i64 x0)]) ([]) ref02_Totald = ref02_Total x0 := by kernel_rfl
noncomputable def ref02_Totala {R : Type} (o : Orc) (vs : List V) (objs : List Obj) (K : Bool → V → List Obj → Option R) : Option R := match vs, objs with
 | [.s (.i .i64 x0)], [] => ob (ref02_Total x0) fun y0 => K false (.s (.i .i64 y0)) ([])
 | _, _ => o 26 vs objs K
noncomputable def ref02_Totalo (o : Orc) : Orc := hook 26 (ref02_Totala o) o
theorem ref02_Totalo_ok (o : Orc) (ho : OSound Tryd.prog o) : OSound Tryd.prog (ref02_Totalo o) := hook_ok ho fun vs objs K r h => by
 unfold ref02_Totala at h
 split at h
 ·skip
  obtain ⟨t, h1, h2⟩ := ob_ok h
  refine anyOK_of mixed ref02_Totalc_ok (fn := Tryd.f26) (b := (Tryd.f26).body.getD .skip) (by kernel_rfl) (by kernel_rfl) (by kernel_rfl) ((ref02_Total_eq _).trans h1) (m := 0) rfl (AllP.of (l' := []) (by kernel_rfl) trivial) fun v objs' hd => ?_
  unfold ref02_Totald at hd
  split at hd
  ·skip
   cases hd
   exact h2
  ·cases hd
 ·exact ho _ _ _ _ _ h
noncomputable def ref02_Sidec : Ctx := mkC 8 ((ref02_Kindo oNil)) [] lpNil
theorem ref02_Sidec_ok : CtxOK Tryd.prog ref02_Sidec := mkC_ok ((ref02_Kindo_ok _ oNil_ok))
noncomputable def ref02_Sided : V → List Obj → Option (Int) := fun v objs => match v, objs with
 | .s (.i .i64 y0), [] => some (y0)
 | _, _ => none
theorem ref02_Side_eq (x0 : Int) : fnE ref02_Sidec Tryd.f39 ([.s (.i .i64 x0)]) ([]) ref02_Sided = ref02_Side x0 := by kernel_rfl
noncomputable def ref02_Sidea {R : Type} (o : Orc) (vs : List V) (objs : List Obj) (K : Bool → V → List Obj → Option R) : Option R := match vs, objs with
 | [.s (.i .i64 x0)], [] => ob (ref02_Side x0) fun y0 => K false (.s (.i .i64 y0)) ([])
 | _, _ => o 39 vs objs K
noncomputable def ref02_Sideo (o : Orc) : Orc := hook 39 (ref02_Sidea o) o
theorem ref02_Sideo_ok (o : Orc) (ho : OSound Tryd.prog o) : OSound Tryd.prog (ref02_Sideo o) := hook_ok ho fun vs objs K r h => by
 unfold ref02_Sidea at h
 split at h
 ·skip
  obtain ⟨t, h1, h2⟩ := ob_ok h
  refine anyOK_of mixed ref02_Sidec_ok (fn := Tryd.f39) (b := (Tryd.f39).body.getD .skip) (by kernel_rfl) (by kernel_rfl) (by kernel_rfl) ((ref02_Side_eq _).trans h1) (m := 0) rfl (AllP.of (l' := []) (by kernel_rfl) trivial) fun v objs' hd => ?_
  unfold ref02_Sided at hd
  split at hd
  ·skip
   cases hd
   exact h2
  ·cases hd
 ·exact ho _ _ _ _ _ h
noncomputable def ref03_Farc : Ctx := mkC 26 (oNil) [] lpNil
theorem ref03_Farc_ok : CtxOK Tryd.prog ref03_Farc := mkC_ok (oNil_ok)
noncomputable def ref03_Fard : V → List Obj → Option (Int) := fun v objs => match v, objs with
 | .s (.i .i64 y0), [] => some (y0)
 | _, _ => none
theorem ref03_Far_eq (x0 x1 : Int) : fnE ref03_Farc Tryd.f38 ([.s (.i .i64 x0), .s (.i .i64 x1)]) ([]) ref03_Fard = ref03_Far x0 x1 := by kernel_rfl
noncomputable def ref03_Fara {R : Type} (o : Orc) (vs : List V) (objs : List Obj) (K : Bool → V → List Obj → Option R) : Option R := match vs, objs with
 | [.s (.i .i64 x0), .s (.i .i64 x1)], [] => ob (ref03_Far x0 x1) fun y0 => K false (.s (.i .i64 y0)) ([])
 | _, _ => o 38 vs objs K
noncomputable def ref03_Faro (o : Orc) : Orc := hook 38 (ref03_Fara o) o
theorem ref03_Faro_ok (o : Orc) (ho : OSound Tryd.prog o) : OSound Tryd.prog (ref03_Faro o) := hook_ok ho fun vs objs K r h => by
 unfold ref03_Fara at h
 split at h
 ·skip
  obtain ⟨t, h1, h2⟩ := ob_ok h
  refine anyOK_of mixed ref03_Farc_ok (fn := Tryd.f38) (b := (Tryd.f38).body.getD .skip) (by kernel_rfl) (by kernel_rfl) (by kernel_rfl) ((ref03_Far_eq _ _).trans h1) (m := 0) rfl (AllP.of (l' := []) (by kernel_rfl) trivial) fun v objs' hd => ?_
  unfold ref03_Fard at hd
  split at hd
  ·skip
   cases hd
   exact h2
  ·cases hd
 ·exact ho _ _ _ _ _ h
noncomputable def ref03_Deadc : Ctx := mkC 35 ((ref02_Kindo (ref03_Faro (ref02_Sideo oNil)))) [] lpNil
theorem ref03_Deadc_ok : CtxOK Tryd.prog ref03_Deadc := mkC_ok ((ref02_Kindo_ok _ (ref03_Faro_ok _ (ref02_Sideo_ok _ oNil_ok))))
noncomputable def ref03_Deadd : V → List Obj → Option (Bool) := fun v objs => match v, objs with
 | .s (.b y0), [] => some (y0)
 | _, _ => none
theorem ref03_Dead_eq (x0 x1 : Int) : fnE ref03_Deadc Tryd.f27 ([.s (.i .i64 x0), .s (.i .i64 x1)]) ([]) ref03_Deadd = ref03_Dead x0 x1 := by kernel_rfl
noncomputable def ref03_Deada {R : Type} (o : Orc) (vs : List V) (objs : List Obj) (K : Bool → V → List Obj → Option R) : Option R := match vs, objs with
 | [.s (.i .i64 x0), .s (.i .i64 x1)], [] => ob (ref03_Dead x0 x1) fun y0 => K false (.s (.b y0)) ([])
 | _, _ => o 27 vs objs K
noncomputable def ref03_Deado (o : Orc) : Orc := hook 27 (ref03_Deada o) o
theorem ref03_Deado_ok (o : Orc) (ho : OSound Tryd.prog o) : OSound Tryd.prog (ref03_Deado o) := hook_ok ho fun vs objs K r h => by
 unfold ref03_Deada at h
 split at h
 ·skip
  obtain ⟨t, h1, h2⟩ := ob_ok h
  refine anyOK_of mixed ref03_Deadc_ok (fn := Tryd.f27) (b := (Tryd.f27).body.getD .skip) (by kernel_rfl) (by kernel_rfl) (by kernel_rfl) ((ref03_Dead_eq _ _).trans h1) (m := 0) rfl (AllP.of (l' := []) (by kernel_rfl) trivial) fun v objs' hd => ?_
  unfold ref03_Deadd at hd
  split at hd
  ·skip
   cases hd
   exact h2
  ·cases hd
 ·exact ho _ _ _ _ _ h
noncomputable def ref05_Checkl4d : Ex → List V → List Obj → Option ((Int × List Int × List Int × Int) ⊕ (List Int × List Int × Int)) := fun e vs objs => match e, vs, objs with
 | .ret, [.s (.ptr 0 0 none 0), .s (.i .i64 y0)], [.cells 29 [.arr .i8 81 y1, .arr .i8 16 y2, .one [.i .i8 y3]]] => some (.inl (y0, y1, y2, y3))
 | .exit 0, [.s (.ptr 0 0 none 0), .s .bad], [.cells 29 [.arr .i8 81 y0, .arr .i8 16 y1, .one [.i .i8 y2]]] => some (.inr (y0, y1, y2))
 | _, _, _ => none
noncomputable def ref05_Checkl12d : Ex → List V → List Obj → Option ((Int × Int × List Int × List Int × Int) ⊕ (Int × List Int × List Int × Int)) := fun e vs objs => match e, vs, objs with
 | .ret, [.s (.ptr 0 0 none 0), .s (.i .i64 y0), .s (.i .i64 y1)], [.cells 29 [.arr .i8 81 y2, .arr .i8 16 y3, .one [.i .i8 y4]]] => some (.inl (y0, y1, y2, y3, y4))
 | .exit 4, [.s (.ptr 0 0 none 0), .s .bad, .s (.i .i64 y0)], [.cells 29 [.arr .i8 81 y1, .arr .i8 16 y2, .one [.i .i8 y3]]] => some (.inr (y0, y1, y2, y3))
 | _, _, _ => none
noncomputable def ref05_Checkl9d : Ex → List V → List Obj → Option ((Int × List Int × List Int × Int) ⊕ (List Int × List Int × Int)) := fun e vs objs => match e, vs, objs with
 | .ret, [.s (.ptr 0 0 none 0), .s (.i .i64 y0)], [.cells 29 [.arr .i8 81 y1, .arr .i8 16 y2, .one [.i .i8 y3]]] => some (.inl (y0, y1, y2, y3))
 | .exit 2, [.s (.ptr 0 0 none 0), .s .bad], [.cells 29 [.arr .i8 81 y0, .arr .i8 16 y1, .one [.i .i8 y2]]] => some (.inr (y0, y1, y2))
 | _, _, _ => none
noncomputable def ref05_Checkl20d : Ex → List V → List Obj → Option ((Int × List Int × List Int × Int) ⊕ (List Int × List Int × Int)) := fun e vs objs => match e, vs, objs with
 | .ret, [.s (.ptr 0 0 none 0), .s (.i .i64 y0)], [.cells 29 [.arr .i8 81 y1, .arr .i8 16 y2, .one [.i .i8 y3]]] => some (.inl (y0, y1, y2, y3))
 | .exit 6, [.s (.ptr 0 0 none 0), .s .bad], [.cells 29 [.arr .i8 81 y0, .arr .i8 16 y1, .one [.i .i8 y2]]] => some (.inr (y0, y1, y2))
 | _, _, _ => none
noncomputable def ref05_Checkl25d : Ex → List V → List Obj → Option ((Int × List Int × List Int × Int) ⊕ (List Int × List Int × Int)) := fun e vs objs => match e, vs, objs with
 | .ret, [.s (.ptr 0 0 none 0), .s (.i .i64 y0)], [.cells 29 [.arr .i8 81 y1, .arr .i8 16 y2, .one [.i .i8 y3]]] => some (.inl (y0, y1, y2, y3))
 | .exit 8, [.s (.ptr 0 0 none 0), .s .bad], [.cells 29 [.arr .i8 81 y0, .arr .i8 16 y1, .one [.i .i8 y2]]] => some (.inr (y0, y1, y2))
 | _, _, _ => none
noncomputable def ref05_Checkl30d : Ex → List V → List Obj → Option ((Int) ⊕ (Unit)) := fun e vs objs => match e, vs, objs with
 | .ret, [.s (.i .i64 y0)], [] => some (.inl (y0))
 | .exit 10, [.s .bad], [] => some (.inr ())
 | _, _, _ => none
noncomputable def ref05_Checkp4 {R : Type} (vs : List V) (objs : List Obj) (K : Ex → List V → List Obj → Option R) : Option R := match vs, objs with
 | [.s (.ptr 0 0 none 0), .s (.i .i64 x0)], [.cells 29 [.arr .i8 81 x1, .arr .i8 16 x2, .one [.i .i8 x3]]] => ob (ref05_Checkl4 many x0 x1 x2 x3) fun t0 => sw t0 (fun z => K (.ret) ([.s (.ptr 0 0 none 0), .s (.i .i64 (z.1))]) ([.cells 29 [.arr .i8 81 (z.2.1), .arr .i8 16 (z.2.2.1), .one [.i .i8 (z.2.2.2)]]])) (fun z => K (.exit 0) ([.s (.ptr 0 0 none 0), .s .bad]) ([.cells 29 [.arr .i8 81 (z.1), .arr .i8 16 (z.2.1), .one [.i .i8 (z.2.2)]]]))
 | _, _ => none
noncomputable def ref05_Checkp12 {R : Type} (vs : List V) (objs : List Obj) (K : Ex → List V → List Obj → Option R) : Option R := match vs, objs with
 | [.s (.ptr 0 0 none 0), .s (.i .i64 x0), .s (.i .i64 x1)], [.cells 29 [.arr .i8 81 x2, .arr .i8 16 x3, .one [.i .i8 x4]]] => ob (ref05_Checkl12 many x0 x1 x2 x3 x4) fun t0 => sw t0 (fun z => K (.ret) ([.s (.ptr 0 0 none 0), .s (.i .i64 (z.1)), .s (.i .i64 (z.2.1))]) ([.cells 29 [.arr .i8 81 (z.2.2.1), .arr .i8 16 (z.2.2.2.1), .one [.i .i8 (z.2.2.2.2)]]])) (fun z => K (.exit 4) ([.s (.ptr 0 0 none 0), .s .bad, .s (.i .i64 (z.1))]) ([.cells 29 [.arr .i8 81 (z.2.1), .arr .i8 16 (z.2.2.1), .one [.i .i8 (z.2.2.2)]]]))
 | _, _ => none
noncomputable def ref05_Checkp9 {R : Type} (vs : List V) (objs : List Obj) (K : Ex → List V → List Obj → Option R) : Option R := match vs, objs with
 | [.s (.ptr 0 0 none 0), .s (.i .i64 x0)], [.cells 29 [.arr .i8 81 x1, .arr .i8 16 x2, .one [.i .i8 x3]]] => ob (ref05_Checkl9 many x0 x1 x2 x3) fun t0 => sw t0 (fun z => K (.ret) ([.s (.ptr 0 0 none 0), .s (.i .i64 (z.1))]) ([.cells 29 [.arr .i8 81 (z.2.1), .arr .i8 16 (z.2.2.1), .one [.i .i8 (z.2.2.2)]]])) (fun z => K (.exit 2) ([.s (.ptr 0 0 none 0), .s .bad]) ([.cells 29 [.arr .i8 81 (z.1), .arr .i8 16 (z.2.1), .one [.i .i8 (z.2.2)]]]))
 | _, _ => none
noncomputable def ref05_Checkp20 {R : Type} (vs : List V) (objs : List Obj) (K : Ex → List V → List Obj → Option R) : Option R := match vs, objs with
 | [.s (.ptr 0 0 none 0), .s (.i .i64 x0)], [.cells 29 [.arr .i8 81 x1, .arr .i8 16 x2, .one [.i .i8 x3]]] => ob (ref05_Checkl20 many x0 x1 x2 x3) fun t0 => sw t0 (fun z => K (.ret) ([.s (.ptr 0 0 none 0), .s (.i .i64 (z.1))]) ([.cells 29 [.arr .i8 81 (z.2.1), .arr .i8 16 (z.2.2.1), .one [.i .i8 (z.2.2.2)]]])) (fun z => K (.exit 6) ([.s (.ptr 0 0 none 0), .s .bad]) ([.cells 29 [.arr .i8 81 (z.1), .arr .i8 16 (z.2.1), .one [.i .i8 (z.2.2)]]]))
 | _, _ => none
noncomputable def ref05_Checkp25 {R : Type} (vs : List V) (objs : List Obj) (K : Ex → List V → List Obj → Option R) : Option R := match vs, objs with
 | [.s (.ptr 0 0 none 0), .s (.i .i64 x0)], [.cells 29 [.arr .i8 81 x1, .arr .i8 16 x2, .one [.i .i8 x3]]] => ob (ref05_Checkl25 many x0 x1 x2 x3) fun t0 => sw t0 (fun z => K (.ret) ([.s (.ptr 0 0 none 0), .s (.i .i64 (z.1))]) ([.cells 29 [.arr .i8 81 (z.2.1), .arr .i8 16 (z.2.2.1), .one [.i .i8 (z.2.2.2)]]])) (fun z => K (.exit 8) ([.s (.ptr 0 0 none 0), .s .bad]) ([.cells 29 [.arr .i8 81 (z.1), .arr .i8 16 (z.2.1), .one [.i .i8 (z.2.2)]]]))
 | _, _ => none
noncomputable def ref05_Checkp30 {R : Type} (vs : List V) (objs : List Obj) (K : Ex → List V → List Obj → Option R) : Option R := match vs, objs with
 | [.s (.ptr 0 0 none 0), .s (.i .i64 x0)], [.cells 29 [.arr .i8 81 x1, .arr .i8 16 x2, .one [.i .i8 x3]]] => ob (ref05_Checkl30 many x0 x1 x2 x3) fun t0 => sw t0 (fun y0 => K (.ret) ([.s (.i .i64 y0)]) ([])) (fun _ => K (.exit 10) ([.s .bad]) ([]))
 | _, _ => none
noncomputable def ref05_Checklp : {R : Type} → Nat → List V → List Obj → (Ex → List V → List Obj → Option R) → Option R := fun q vs objs K => bif Nat.beq q 4 then ref05_Checkp4 vs objs K else bif Nat.beq q 12 then ref05_Checkp12 vs objs K else bif Nat.beq q 9 then ref05_Checkp9 vs objs K else bif Nat.beq q 20 then ref05_Checkp20 vs objs K else bif Nat.beq q 25 then ref05_Checkp25 vs objs K else bif Nat.beq q 30 then ref05_Checkp30 vs objs K else none
noncomputable def ref05_Checkc : Ctx := mkC 103 ((ref05_Ono (ref03_Deado (ref02_Totalo (ref05_Counto (ref05_allo (ref02_Kindo oNil))))))) [(4, [1, 3], [1, 2]), (9, [1, 4], [1, 2]), (12, [1, 4, 5], [1, 2, 4]), (20, [1, 7], [1, 2]), (25, [1, 8], [1, 2]), (30, [1, 9], [2])] ref05_Checklp
theorem ref05_Checkc_ok : CtxOK Tryd.prog ref05_Checkc := mkC_ok ((ref05_Ono_ok _ (ref03_Deado_ok _ (ref02_Totalo_ok _ (ref05_Counto_ok _ (ref05_allo_ok _ (ref02_Kindo_ok _ oNil_ok)))))))
noncomputable def ref05_Checkl4r (f : Nat) (x0 : Int) (x1 x2 : List Int) (x3 : Int) : Option ((Int × List Int × List Int × Int) ⊕ (List Int × List Int × Int)) := lrun ref05_Checkc 0 [1, 3] [1, 2] (loopOf Tryd.f8 4) f ([.s (.ptr 0 0 none 0), .s (.i .i64 x0)]) ([.cells 29 [.arr .i8 81 x1, .arr .i8 16 x2, .one [.i .i8 x3]]]) ref05_Checkl4d
theorem ref05_Checkl4_step (f : Nat) (x0 : Int) (x1 x2 : List Int) (x3 : Int) : ref05_Checkl4r (f + 1) x0 x1 x2 x3 = ref05_Checkl4s (ref05_Checkl4r f) x0 x1 x2 x3 := by kernel_rfl
theorem ref05_Checkl4_eq : ∀ f, ref05_Checkl4r f = ref05_Checkl4 f
 | 0 => rfl
 | f + 1 => by funext x0 x1 x2 x3; rw [ref05_Checkl4_step, ref05_Checkl4_eq f]; rfl
noncomputable def ref05_Checkl12r (f : Nat) (x0 x1 : Int) (x2 x3 : List Int) (x4 : Int) : Option ((Int × Int × List Int × List Int × Int) ⊕ (Int × List Int × List Int × Int)) := lrun ref05_Checkc 0 [1, 4, 5] [1, 2, 4] (loopOf Tryd.f8 12) f ([.s (.ptr 0 0 none 0), .s (.i .i64 x0), .s (.i .i64 x1)]) ([.cells 29 [.arr .i8 81 x2, .arr .i8 16 x3, .one [.i .i8 x4]]]) ref05_Checkl12d
theorem ref05_Checkl12_step (f : Nat) (x0 x1 : Int) (x2 x3 : List Int) (x4 : Int) : ref05_Checkl12r (f + 1) x0 x1 x2 x3 x4 = ref05_Checkl12s (ref05_Checkl12r f) x0 x1 x2 x3 x4 := by kernel_rfl
theorem ref05_Checkl12_eq : ∀ f, ref05_Checkl12r f = ref05_Checkl12 f
 | 0 => rfl
 | f + 1 => by funext x0 x1 x2 x3 x4; rw [ref05_Checkl12_step, ref05_Checkl12_eq f]; rfl
noncomputable def ref05_Checkl9r (f : Nat) (x0 : Int) (x1 x2 : List Int) (x3 : Int) : Option ((Int × List Int × List Int × Int) ⊕ (List Int × List Int × Int)) := lrun ref05_Checkc 0 [1, 4] [1, 2] (loopOf Tryd.f8 9) f ([.s (.ptr 0 0 none 0), .s (.i .i64 x0)]) ([.cells 29 [.arr .i8 81 x1, .arr .i8 16 x2, .one [.i .i8 x3]]]) ref05_Checkl9d
theorem ref05_Checkl9_step (f : Nat) (x0 : Int) (x1 x2 : List Int) (x3 : Int) : ref05_Checkl9r (f + 1) x0 x1 x2 x3 = ref05_Checkl9s (ref05_Checkl9r f) x0 x1 x2 x3 := by kernel_rfl
theorem ref05_Checkl9_eq : ∀ f, ref05_Checkl9r f = ref05_Checkl9 f
 | 0 => rfl
 | f + 1 => by funext x0 x1 x2 x3; rw [ref05_Checkl9_step, ref05_Checkl9_eq f]; rfl
noncomputable def ref05_Checkl20r (f : Nat) (x0 : Int) (x1 x2 : List Int) (x3 : Int) : Option ((Int × List Int × List Int × Int) ⊕ (List Int × List Int × Int)) := lrun ref05_Checkc 0 [1, 7] [1, 2] (loopOf Tryd.f8 20) f ([.s (.ptr 0 0 none 0), .s (.i .i64 x0)]) ([.cells 29 [.arr .i8 81 x1, .arr .i8 16 x2, .one [.i .i8 x3]]]) ref05_Checkl20d
theorem ref05_Checkl20_step (f : Nat) (x0 : Int) (x1 x2 : List Int) (x3 : Int) : ref05_Checkl20r (f + 1) x0 x1 x2 x3 = ref05_Checkl20s (ref05_Checkl20r f) x0 x1 x2 x3 := by kernel_rfl
theorem ref05_Checkl20_eq : ∀ f, ref05_Checkl20r f = ref05_Checkl20 f
 | 0 => rfl
 | f + 1 => by funext x0 x1 x2 x3; rw [ref05_Checkl20_step, ref05_Checkl20_eq f]; rfl
noncomputable def ref05_Checkl25r (f : Nat) (x0 : Int) (x1 x2 : List Int) (x3 : Int) : Option ((Int × List Int × List Int × Int) ⊕ (List Int × List Int × Int)) := lrun ref05_Checkc 0 [1, 8] [1, 2] (loopOf Tryd.f8 25) f ([.s (.ptr 0 0 none 0), .s (.i .i64 x0)]) ([.cells 29 [.arr .i8 81 x1, .arr .i8 16 x2, .one [.i .i8 x3]]]) ref05_Checkl25d
theorem ref05_Checkl25_step (f : Nat) (x0 : Int) (x1 x2 : List Int) (x3 : Int) : ref05_Checkl25r (f + 1) x0 x1 x2 x3 = ref05_Checkl25s (ref05_Checkl25r f) x0 x1 x2 x3 := by kernel_rfl
theorem ref05_Checkl25_eq : ∀ f, ref05_Checkl25r f = ref05_Checkl25 f
 | 0 => rfl
 | f + 1 => by funext x0 x1 x2 x3; rw [ref05_Checkl25_step, ref05_Checkl25_eq f]; rfl
noncomputable def ref05_Checkl30r (f : Nat) (x0 : Int) (x1 x2 : List Int) (x3 : Int) : Option ((Int) ⊕ (Unit)) := lrun ref05_Checkc 0 [1, 9] [2] (loopOf Tryd.f8 30) f ([.s (.ptr 0 0 none 0), .s (.i .i64 x0)]) ([.cells 29 [.arr .i8 81 x1, .arr .i8 16 x2, .one [.i .i8 x3]]]) ref05_Checkl30d
theorem ref05_Checkl30_step (f : Nat) (x0 : Int) (x1 x2 : List Int) (x3 : Int) : ref05_Checkl30r (f + 1) x0 x1 x2 x3 = ref05_Checkl30s (ref05_Checkl30r f) x0 x1 x2 x3 := by kernel_rfl
theorem ref05_Checkl30_eq : ∀ f, ref05_Checkl30r f = ref05_Checkl30 f
 | 0 => rfl
 | f + 1 => by funext x0 x1 x2 x3; rw [ref05_Checkl30_step, ref05_Checkl30_eq f]; rfl
theorem ref05_Checks4 : LoopSound Tryd.prog ref05_Checkc 0 (loopOf Tryd.f8 4) :=
 loopSound_by mixed ref05_Checkc_ok (AllP.of (l' := []) (by kernel_rfl) trivial) (q := 4) (kin := [1, 3]) (kout := [1, 2]) (by kernel_rfl) (by kernel_rfl) fun vs objs K r h => by
  replace h : ref05_Checkp4 vs objs K = some r := h
  unfold ref05_Checkp4 at h
  split at h
  ·skip
   obtain ⟨t, h1, h2⟩ := ob_ok h
   rw [← ref05_Checkl4_eq] at h1
   refine ⟨_, ref05_Checkl4d, t, many, h1, fun e vs' objs' hd => ?_⟩
   unfold ref05_Checkl4d at hd
   split at hd
   ·skip
    cases hd
    exact h2
   ·skip
    cases hd
    exact h2
   ·cases hd
  ·cases h
theorem ref05_Checks12 : LoopSound Tryd.prog ref05_Checkc 0 (loopOf Tryd.f8 12) :=
 loopSound_by mixed ref05_Checkc_ok (AllP.of (l' := []) (by kernel_rfl) trivial) (q := 12) (kin := [1, 4, 5]) (kout := [1, 2, 4]) (by kernel_rfl) (by kernel_rfl) fun vs objs K r h => by
  replace h : ref05_Checkp12 vs objs K = some r := h
  unfold ref05_Checkp12 at h
  split at h
  ·skip
   obtain ⟨t, h1, h2⟩ := ob_ok h
   rw [← ref05_Checkl12_eq] at h1
   refine ⟨_, ref05_Checkl12d, t, many, h1, fun e vs' objs' hd => ?_⟩
   unfold ref05_Checkl12d at hd
   split at hd
   ·skip
    cases hd
    exact h2
   ·skip
    cases hd
    exact h2
   ·cases hd
  ·cases h
theorem ref05_Checks20 : LoopSound Tryd.prog ref05_Checkc 0 (loopOf Tryd.f8 20) :=
 loopSound_by mixed ref05_Checkc_ok (AllP.of (l' := []) (by kernel_rfl) trivial) (q := 20) (kin := [1, 7]) (kout := [1, 2]) (by kernel_rfl) (by kernel_rfl) fun vs objs K r h => by
  replace h : ref05_Checkp20 vs objs K = some r := h
  unfold ref05_Checkp20 at h
  split at h
  ·skip
   obtain ⟨t, h1, h2⟩ := ob_ok h
   rw [← ref05_Checkl20_eq] at h1
   refine ⟨_, ref05_Checkl20d, t, many, h1, fun e vs' objs' hd => ?_⟩
   unfold ref05_Checkl20d at hd
   split at hd
   ·skip
    cases hd
    exact h2
   ·skip
    cases hd
    exact h2
   ·cases hd
  ·cases h
theorem ref05_Checks25 : LoopSound Tryd.prog ref05_Checkc 0 (loopOf Tryd.f8 25) :=
 loopSound_by mixed ref05_Checkc_ok (AllP.of (l' := []) (by kernel_rfl) trivial) (q := 25) (kin := [1, 8]) (kout := [1, 2]) (by kernel_rfl) (by kernel_rfl) fun vs objs K r h => by
  replace h : ref05_Checkp25 vs objs K = some r := h
  unfold ref05_Checkp25 at h
  split at h
  ·skip
   obtain ⟨t, h1, h2⟩ := ob_ok h
   rw [← ref05_Checkl25_eq] at h1
   refine ⟨_, ref05_Checkl25d, t, many, h1, fun e vs' objs' hd => ?_⟩
   unfold ref05_Checkl25d at hd
   split at hd
   ·skip
    cases hd
    exact h2
   ·skip
    cases hd
    exact h2
   ·cases hd
  ·cases h
theorem ref05_Checks30 : LoopSound Tryd.prog ref05_Checkc 0 (loopOf Tryd.f8 30) :=
 loopSound_by mixed ref05_Checkc_ok (AllP.of (l' := []) (by kernel_rfl) trivial) (q := 30) (kin := [1, 9]) (kout := [2]) (by kernel_rfl) (by kernel_rfl) fun vs objs K r h => by
  replace h : ref05_Checkp30 vs objs K = some r := h
  unfold ref05_Checkp30 at h
  split at h
  ·skip
   obtain ⟨t, h1, h2⟩ := ob_ok h
   rw [← ref05_Checkl30_eq] at h1
   refine ⟨_, ref05_Checkl30d, t, many, h1, fun e vs' objs' hd => ?_⟩
   unfold ref05_Checkl30d at hd
   split at hd
   ·skip
    cases hd
    exact h2
   ·skip
    cases hd
    exact h2
   ·cases hd
  ·cases h
theorem ref05_Checks9 : LoopSound Tryd.prog ref05_Checkc 0 (loopOf Tryd.f8 9) :=
 loopSound_by mixed ref05_Checkc_ok (AllP.of (l' := [loopOf Tryd.f8 12]) (by kernel_rfl) ⟨ref05_Checks12, trivial⟩) (q := 9) (kin := [1, 4]) (kout := [1, 2]) (by kernel_rfl) (by kernel_rfl) fun vs objs K r h => by
  replace h : ref05_Checkp9 vs objs K = some r := h
  unfold ref05_Checkp9 at h
  split at h
  ·skip
   obtain ⟨t, h1, h2⟩ := ob_ok h
   rw [← ref05_Checkl9_eq] at h1
   refine ⟨_, ref05_Checkl9d, t, many, h1, fun e vs' objs' hd => ?_⟩
   unfold ref05_Checkl9d at hd
   split at hd
   ·skip
    cases hd
    exact h2
   ·skip
    cases hd
    exact h2
   ·cases hd
  ·cases h
noncomputable def ref05_Checkd : V → List Obj → Option (Int) := fun v objs => match v, objs with
 | .s (.i .i64 y0), [] => some (y0)
 | _, _ => none
theorem ref05_Check_eq (x0 x1 : List Int) (x2 : Int) : fnE ref05_Checkc Tryd.f8 ([.agg [.arr .i8 81 x0, .arr .i8 16 x1, .one [.i .i8 x2]]]) ([]) ref05_Checkd = ref05_Check x0 x1 x2 := by kernel_rfl
noncomputable def ref05_Checka {R : Type} (o : Orc) (vs : List V) (objs : List Obj) (K : Bool → V → List Obj → Option R) : Option R := match vs, objs with
 | [.agg [.arr .i8 81 x0, .arr .i8 16 x1, .one [.i .i8 x2]]], [] => ob (ref05_Check x0 x1 x2) fun y0 => K false (.s (.i .i64 y0)) ([])
 | _, _ => o 8 vs objs K
noncomputable def ref05_Checko (o : Orc) : Orc := hook 8 (ref05_Checka o) o
theorem ref05_Checko_ok (o : Orc) (ho : OSound Tryd.prog o) : OSound Tryd.prog (ref05_Checko o) := hook_ok ho fun vs objs K r h => by
 unfold ref05_Checka at h
 split at h
 ·skip
  obtain ⟨t, h1, h2⟩ := ob_ok h
  refine anyOK_of mixed ref05_Checkc_ok (fn := Tryd.f8) (b := (Tryd.f8).body.getD .skip) (by kernel_rfl) (by kernel_rfl) (by kernel_rfl) ((ref05_Check_eq _ _ _).trans h1) (m := 0) rfl (AllP.of (l' := [loopOf Tryd.f8 4, loopOf Tryd.f8 9, loopOf Tryd.f8 20, loopOf Tryd.f8 25, loopOf Tryd.f8 30]) (by kernel_rfl) ⟨ref05_Checks4, ref05_Checks9, ref05_Checks20, ref05_Checks25, ref05_Checks30, trivial⟩) fun v objs' hd => ?_
  unfold ref05_Checkd at hd
  split at hd
  ·skip
   cases hd
   exact h2
  ·cases hd
 ·exact ho _ _ _ _ _ h
noncomputable def law05_BoardStartc : Ctx := mkC 32 ((ref05_Checko (board_Checko (ref05_Starto (board_Starto (law05_beginso oNil)))))) [] lpNil
theorem law05_BoardStartc_ok : CtxOK Tryd.prog law05_BoardStartc := mkC_ok ((ref05_Checko_ok _ (board_Checko_ok _ (ref05_Starto_ok _ (board_Starto_ok _ (law05_beginso_ok _ oNil_ok))))))
noncomputable def law05_BoardStartd : V → List Obj → Option (Bool) := fun v objs => match v, objs with
 | .s (.b y0), [] => some (y0)
 | _, _ => none
theorem law05_BoardStart_eq (x0 x1 : Int) : fnE law05_BoardStartc Tryd.f3 ([.s (.i .i64 x0), .s (.i .i8 x1)]) ([]) law05_BoardStartd = law05_BoardStart x0 x1 := by kernel_rfl
noncomputable def law05_BoardStarta {R : Type} (o : Orc) (vs : List V) (objs : List Obj) (K : Bool → V → List Obj → Option R) : Option R := match vs, objs with
 | [.s (.i .i64 x0), .s (.i .i8 x1)], [] => ob (law05_BoardStart x0 x1) fun y0 => K false (.s (.b y0)) ([])
 | _, _ => o 3 vs objs K
noncomputable def law05_BoardStarto (o : Orc) : Orc := hook 3 (law05_BoardStarta o) o
theorem law05_BoardStart_ok {vs : List V} {objs : List Obj} (x0 x1 : Int) {R : Type} {K : Bool → V → List Obj → Option R} {r : R} (hv : vs = [.s (.i .i64 x0), .s (.i .i8 x1)]) (ho : objs = []) (h : ob (law05_BoardStart x0 x1) (fun y0 => K false (.s (.b y0)) ([])) = some r) :
  ∃ p v objs', K p v objs' = some r ∧ AnyOK Tryd.prog 3 vs objs p v objs' := by
 subst hv
 subst ho
 obtain ⟨t, h1, h2⟩ := ob_ok h
 refine anyOK_of mixed law05_BoardStartc_ok (fn := Tryd.f3) (b := (Tryd.f3).body.getD .skip) (by kernel_rfl) (by kernel_rfl) (by kernel_rfl) ((law05_BoardStart_eq _ _).trans h1) (m := 0) rfl (AllP.of (l' := []) (by kernel_rfl) trivial) fun v objs' hd => ?_
 unfold law05_BoardStartd at hd
 split at hd
 ·skip
  cases hd
  exact h2
 ·cases hd
theorem law05_BoardStarto_ok (o : Orc) (ho : OSound Tryd.prog o) : OSound Tryd.prog (law05_BoardStarto o) := hook_ok ho fun vs objs K r h => by
 unfold law05_BoardStarta at h
 split at h
 ·skip
  obtain ⟨t, h1, h2⟩ := ob_ok h
  refine anyOK_of mixed law05_BoardStartc_ok (fn := Tryd.f3) (b := (Tryd.f3).body.getD .skip) (by kernel_rfl) (by kernel_rfl) (by kernel_rfl) ((law05_BoardStart_eq _ _).trans h1) (m := 0) rfl (AllP.of (l' := []) (by kernel_rfl) trivial) fun v objs' hd => ?_
  unfold law05_BoardStartd at hd
  split at hd
  ·skip
   cases hd
   exact h2
  ·cases hd
 ·exact ho _ _ _ _ _ h
end Go.Kk.KkBS
