/- Printed by a tool of this project (KkGen): the program's functions come to the plain ones. -/
import Derived.Test.YtljnnegjhcdlkaaGreatDoorKkMS
namespace Go.Kk.KkMS
open Go.Proofs Go.Kk.Pl
set_option maxRecDepth 100000
set_option maxHeartbeats 4000000
noncomputable def ray_Ofl3d : Ex → List V → List Obj → Option (Int × Int × Int × Int) := fun e vs objs => match e, vs, objs with
 | .exit 0, [.s (.ptr 0 0 none 0), .s (.ptr 1 0 none 0)], [.cells 52 [.one [.i .u64 y0, .i .u64 y1]], .cells 52 [.one [.i .u64 y2, .i .u64 y3]]] => some (y0, y1, y2, y3)
 | _, _, _ => none
noncomputable def ray_Ofp3 {R : Type} (vs : List V) (objs : List Obj) (K : Ex → List V → List Obj → Option R) : Option R := match vs, objs with
 | [.s (.i .i8 x0), .s (.i .i64 x1), .s (.ptr 0 0 none 0), .s (.ptr 1 0 none 0), .s (.ptr 2 0 none 0), .s (.sl 3 0 x2 true), .s (.i .i64 x3), .s (.i .i64 x4)], [.cells 52 [.one [.i .u64 x5, .i .u64 x6]], .cells 52 [.one [.i .u64 x7, .i .u64 x8]], .cells 52 [.one [.i .u64 x9, .i .u64 x10]], .sli 120 false (.rows [.i .i64, .i .i64] x11 x12)] => ob (ray_Ofl3 many x0 x1 x2 x3 x4 x5 x6 x7 x8 x9 x10 x11 x12) fun z => K (.exit 0) ([.s (.ptr 0 0 none 0), .s (.ptr 1 0 none 0)]) ([.cells 52 [.one [.i .u64 (z.1), .i .u64 (z.2.1)]], .cells 52 [.one [.i .u64 (z.2.2.1), .i .u64 (z.2.2.2)]]])
 | _, _ => none
noncomputable def ray_Oflp : {R : Type} → Nat → List V → List Obj → (Ex → List V → List Obj → Option R) → Option R := fun q vs objs K => bif Nat.beq q 3 then ray_Ofp3 vs objs K else none
noncomputable def ray_Ofc : Ctx := mkC 32 ((set_Oro (ray_Wayo (step_Dir_Turno (piece_Sideo (ray_Dirso (piece_Kindo (step_Ofo oNil)))))))) [(3, [0, 1, 5, 6, 7, 15, 16, 17], [6, 7])] ray_Oflp
theorem ray_Ofc_ok : CtxOK Tryz.prog ray_Ofc := mkC_ok ((set_Oro_ok _ (ray_Wayo_ok _ (step_Dir_Turno_ok _ (piece_Sideo_ok _ (ray_Dirso_ok _ (piece_Kindo_ok _ (step_Ofo_ok _ oNil_ok))))))))
noncomputable def ray_Ofl3r (f : Nat) (x0 x1 : Int) (x2 : Nat) (x3 x4 : Int) (x5 x6 : Int) (x7 x8 : Int) (x9 x10 : Int) (x11 : Nat) (x12 : List (List Int)) : Option (Int × Int × Int × Int) := lrun ray_Ofc 0 [0, 1, 5, 6, 7, 15, 16, 17] [6, 7] (loopOf Tryz.f89 3) f ([.s (.i .i8 x0), .s (.i .i64 x1), .s (.ptr 0 0 none 0), .s (.ptr 1 0 none 0), .s (.ptr 2 0 none 0), .s (.sl 3 0 x2 true), .s (.i .i64 x3), .s (.i .i64 x4)]) ([.cells 52 [.one [.i .u64 x5, .i .u64 x6]], .cells 52 [.one [.i .u64 x7, .i .u64 x8]], .cells 52 [.one [.i .u64 x9, .i .u64 x10]], .sli 120 false (.rows [.i .i64, .i .i64] x11 x12)]) ray_Ofl3d
theorem ray_Ofl3_step (f : Nat) (x0 x1 : Int) (x2 : Nat) (x3 x4 : Int) (x5 x6 : Int) (x7 x8 : Int) (x9 x10 : Int) (x11 : Nat) (x12 : List (List Int)) : ray_Ofl3r (f + 1) x0 x1 x2 x3 x4 x5 x6 x7 x8 x9 x10 x11 x12 = ray_Ofl3s (ray_Ofl3r f) x0 x1 x2 x3 x4 x5 x6 x7 x8 x9 x10 x11 x12 := by kernel_rfl
theorem ray_Ofl3_eq : ∀ f, ray_Ofl3r f = ray_Ofl3 f
 | 0 => rfl
 | f + 1 => by funext x0 x1 x2 x3 x4 x5 x6 x7 x8 x9 x10 x11 x12; rw [ray_Ofl3_step, ray_Ofl3_eq f]; rfl
theorem ray_Ofs3 : LoopSound Tryz.prog ray_Ofc 0 (loopOf Tryz.f89 3) :=
 loopSound_by mixed ray_Ofc_ok (AllP.of (l' := []) (by kernel_rfl) trivial) (q := 3) (kin := [0, 1, 5, 6, 7, 15, 16, 17]) (kout := [6, 7]) (by kernel_rfl) (by kernel_rfl) fun vs objs K r h => by
  replace h : ray_Ofp3 vs objs K = some r := h
  unfold ray_Ofp3 at h
  split at h
  ·skip
   obtain ⟨t, h1, h2⟩ := ob_ok h
   rw [← ray_Ofl3_eq] at h1
   refine ⟨_, ray_Ofl3d, t, many, h1, fun e vs' objs' hd => ?_⟩
   unfold ray_Ofl3d at hd
   split at hd
   ·skip
    cases hd
    exact h2
   ·cases hd
  ·cases h
noncomputable def ray_Ofd : V → List Obj → Option (Int × Int) := fun v objs => match v, objs with
 | .agg [.one [.i .u64 y0, .i .u64 y1]], [] => some (y0, y1)
 | _, _ => none
theorem ray_Of_eq (x0 x1 : Int) (x2 x3 : Int) : fnE ray_Ofc Tryz.f89 ([.s (.i .i8 x0), .s (.i .i64 x1), .agg [.one [.i .u64 x2, .i .u64 x3]]]) ([]) ray_Ofd = ray_Of x0 x1 x2 x3 := by kernel_rfl
noncomputable def ray_Ofa {R : Type} (o : Orc) (vs : List V) (objs : List Obj) (K : Bool → V → List Obj → Option R) : Option R := match vs, objs with
 | [.s (.i .i8 x0), .s (.i .i64 x1), .agg [.one [.i .u64 x2, .i .u64 x3]]], [] => ob (ray_Of x0 x1 x2 x3) fun z => K false (.agg [.one [.i .u64 (z.1), .i .u64 (z.2)]]) ([])
 | _, _ => o 89 vs objs K
noncomputable def ray_Ofo (o : Orc) : Orc := hook 89 (ray_Ofa o) o
theorem ray_Ofo_ok (o : Orc) (ho : OSound Tryz.prog o) : OSound Tryz.prog (ray_Ofo o) := hook_ok ho fun vs objs K r h => by
 unfold ray_Ofa at h
 split at h
 ·skip
  obtain ⟨t, h1, h2⟩ := ob_ok h
  refine anyOK_of mixed ray_Ofc_ok (fn := Tryz.f89) (b := (Tryz.f89).body.getD .skip) (by kernel_rfl) (by kernel_rfl) (by kernel_rfl) ((ray_Of_eq _ _ _ _).trans h1) (m := 0) rfl (AllP.of (l' := [loopOf Tryz.f89 3]) (by kernel_rfl) ⟨ray_Ofs3, trivial⟩) fun v objs' hd => ?_
  unfold ray_Ofd at hd
  split at hd
  ·skip
   cases hd
   exact h2
  ·cases hd
 ·exact ho _ _ _ _ _ h
noncomputable def attack_Pinned_v2l9d : Ex → List V → List Obj → Option (Int × Int × Nat × Int × Int × List Int × List Int × Int × List (List Int) × List (List Int) × List (List Int × List Int) × Nat × List Int) := fun e vs objs => match e, vs, objs with
 | .exit 2, [.s (.ptr 0 0 none 0), .s (.i .i64 y0), .s (.mp 1), .s (.i .i64 y1), .s (.sl 2 0 y2 true), .s (.i .i64 y3), .s (.i .i64 y4)], [.rcells 56 [.arr .i8 81 y5, .arr .i8 16 y6, .one [.i .i8 y7], .rows [.i .u64, .i .u64] 32 y8, .rows [.i .u64, .i .u64] 2 y9], .map false true [.i .i64] [.i .u64, .i .u64] y10, .sli 3 false (.arr .i64 y11 y12)] => some (y0, y1, y2, y3, y4, y5, y6, y7, y8, y9, y10, y11, y12)
 | _, _, _ => none
noncomputable def attack_Pinned_v2l6d : Ex → List V → List Obj → Option (List Int × List Int × Int × List (List Int) × List (List Int) × List (List Int × List Int)) := fun e vs objs => match e, vs, objs with
 | .exit 0, [.s (.mp 1)], [.rcells 56 [.arr .i8 81 y0, .arr .i8 16 y1, .one [.i .i8 y2], .rows [.i .u64, .i .u64] 32 y3, .rows [.i .u64, .i .u64] 2 y4], .map false true [.i .i64] [.i .u64, .i .u64] y5] => some (y0, y1, y2, y3, y4, y5)
 | _, _, _ => none
noncomputable def attack_Pinned_v2p9 {R : Type} (vs : List V) (objs : List Obj) (K : Ex → List V → List Obj → Option R) : Option R := match vs, objs with
 | [.s (.ptr 0 0 none 0), .s (.i .i64 x0), .s (.mp 1), .s (.i .i64 x1), .s (.sl 2 0 x2 true), .s (.i .i64 x3), .s (.i .i64 x4), .s (.sl 3 0 x5 true), .s (.i .i64 x6), .s (.i .i64 x7)], [.rcells 56 [.arr .i8 81 x8, .arr .i8 16 x9, .one [.i .i8 x10], .rows [.i .u64, .i .u64] 32 x11, .rows [.i .u64, .i .u64] 2 x12], .map false true [.i .i64] [.i .u64, .i .u64] x13, .sli 3 false (.arr .i64 x14 x15), .sli 3 false (.arr .i64 x16 x17)] => ob (attack_Pinned_v2l9 many x0 x1 x2 x3 x4 x5 x6 x7 x8 x9 x10 x11 x12 x13 x14 x15 x16 x17) fun z => K (.exit 2) ([.s (.ptr 0 0 none 0), .s (.i .i64 (z.1)), .s (.mp 1), .s (.i .i64 (z.2.1)), .s (.sl 2 0 (z.2.2.1) true), .s (.i .i64 (z.2.2.2.1)), .s (.i .i64 (z.2.2.2.2.1))]) ([.rcells 56 [.arr .i8 81 (z.2.2.2.2.2.1), .arr .i8 16 (z.2.2.2.2.2.2.1), .one [.i .i8 (z.2.2.2.2.2.2.2.1)], .rows [.i .u64, .i .u64] 32 (z.2.2.2.2.2.2.2.2.1), .rows [.i .u64, .i .u64] 2 (z.2.2.2.2.2.2.2.2.2.1)], .map false true [.i .i64] [.i .u64, .i .u64] (z.2.2.2.2.2.2.2.2.2.2.1), .sli 3 false (.arr .i64 (z.2.2.2.2.2.2.2.2.2.2.2.1) (z.2.2.2.2.2.2.2.2.2.2.2.2))])
 | _, _ => none
noncomputable def attack_Pinned_v2p6 {R : Type} (vs : List V) (objs : List Obj) (K : Ex → List V → List Obj → Option R) : Option R := match vs, objs with
 | [.s (.ptr 0 0 none 0), .s (.i .i64 x0), .s (.mp 1), .s (.i .i64 x1), .s (.sl 2 0 x2 true), .s (.i .i64 x3), .s (.i .i64 x4)], [.rcells 56 [.arr .i8 81 x5, .arr .i8 16 x6, .one [.i .i8 x7], .rows [.i .u64, .i .u64] 32 x8, .rows [.i .u64, .i .u64] 2 x9], .map false true [.i .i64] [.i .u64, .i .u64] x10, .sli 3 false (.arr .i64 x11 x12)] => ob (attack_Pinned_v2l6 many x0 x1 x2 x3 x4 x5 x6 x7 x8 x9 x10 x11 x12) fun z => K (.exit 0) ([.s (.mp 1)]) ([.rcells 56 [.arr .i8 81 (z.1), .arr .i8 16 (z.2.1), .one [.i .i8 (z.2.2.1)], .rows [.i .u64, .i .u64] 32 (z.2.2.2.1), .rows [.i .u64, .i .u64] 2 (z.2.2.2.2.1)], .map false true [.i .i64] [.i .u64, .i .u64] (z.2.2.2.2.2)])
 | _, _ => none
noncomputable def attack_Pinned_v2lp : {R : Type} → Nat → List V → List Obj → (Ex → List V → List Obj → Option R) → Option R := fun q vs objs K => bif Nat.beq q 9 then attack_Pinned_v2p9 vs objs K else bif Nat.beq q 6 then attack_Pinned_v2p6 vs objs K else none
noncomputable def attack_Pinned_v2c : Ctx := mkC 89 ((set_Witho (set_Haso (ray_Ofo (set_Withouto (board_Ato (set_Firsto (set_Emptyo (board_Pieceso (set_Counto (set_Ando (board_Takeno (ray_Between_v2o (set_Squareso (board_Ofo (board_Kingo oNil)))))))))))))))) [(6, [0, 1, 5, 6, 21, 22, 23], [5]), (9, [0, 1, 5, 6, 21, 22, 23, 32, 33, 34], [0, 1, 5, 6, 21, 22, 23])] attack_Pinned_v2lp
theorem attack_Pinned_v2c_ok : CtxOK Tryz.prog attack_Pinned_v2c := mkC_ok ((set_Witho_ok _ (set_Haso_ok _ (ray_Ofo_ok _ (set_Withouto_ok _ (board_Ato_ok _ (set_Firsto_ok _ (set_Emptyo_ok _ (board_Pieceso_ok _ (set_Counto_ok _ (set_Ando_ok _ (board_Takeno_ok _ (ray_Between_v2o_ok _ (set_Squareso_ok _ (board_Ofo_ok _ (board_Kingo_ok _ oNil_ok))))))))))))))))
noncomputable def attack_Pinned_v2l9r (f : Nat) (x0 x1 : Int) (x2 : Nat) (x3 x4 : Int) (x5 : Nat) (x6 x7 : Int) (x8 x9 : List Int) (x10 : Int) (x11 x12 : List (List Int)) (x13 : List (List Int × List Int)) (x14 : Nat) (x15 : List Int) (x16 : Nat) (x17 : List Int) : Option (Int × Int × Nat × Int × Int × List Int × List Int × Int × List (List Int) × List (List Int) × List (List Int × List Int) × Nat × List Int) := lrun attack_Pinned_v2c 1 [0, 1, 5, 6, 21, 22, 23, 32, 33, 34] [0, 1, 5, 6, 21, 22, 23] (loopOf Tryz.f81 9) f ([.s (.ptr 0 0 none 0), .s (.i .i64 x0), .s (.mp 1), .s (.i .i64 x1), .s (.sl 2 0 x2 true), .s (.i .i64 x3), .s (.i .i64 x4), .s (.sl 3 0 x5 true), .s (.i .i64 x6), .s (.i .i64 x7)]) ([.rcells 56 [.arr .i8 81 x8, .arr .i8 16 x9, .one [.i .i8 x10], .rows [.i .u64, .i .u64] 32 x11, .rows [.i .u64, .i .u64] 2 x12], .map false true [.i .i64] [.i .u64, .i .u64] x13, .sli 3 false (.arr .i64 x14 x15), .sli 3 false (.arr .i64 x16 x17)]) attack_Pinned_v2l9d
theorem attack_Pinned_v2l9_step (f : Nat) (x0 x1 : Int) (x2 : Nat) (x3 x4 : Int) (x5 : Nat) (x6 x7 : Int) (x8 x9 : List Int) (x10 : Int) (x11 x12 : List (List Int)) (x13 : List (List Int × List Int)) (x14 : Nat) (x15 : List Int) (x16 : Nat) (x17 : List Int) : attack_Pinned_v2l9r (f + 1) x0 x1 x2 x3 x4 x5 x6 x7 x8 x9 x10 x11 x12 x13 x14 x15 x16 x17 = attack_Pinned_v2l9s (attack_Pinned_v2l9r f) x0 x1 x2 x3 x4 x5 x6 x7 x8 x9 x10 x11 x12 x13 x14 x15 x16 x17 := by kernel_rfl
theorem attack_Pinned_v2l9_eq : ∀ f, attack_Pinned_v2l9r f = attack_Pinned_v2l9 f
 | 0 => rfl
 | f + 1 => by funext x0 x1 x2 x3 x4 x5 x6 x7 x8 x9 x10 x11 x12 x13 x14 x15 x16 x17; rw [attack_Pinned_v2l9_step, attack_Pinned_v2l9_eq f]; rfl
noncomputable def attack_Pinned_v2l6r (f : Nat) (x0 x1 : Int) (x2 : Nat) (x3 x4 : Int) (x5 x6 : List Int) (x7 : Int) (x8 x9 : List (List Int)) (x10 : List (List Int × List Int)) (x11 : Nat) (x12 : List Int) : Option (List Int × List Int × Int × List (List Int) × List (List Int) × List (List Int × List Int)) := lrun attack_Pinned_v2c 1 [0, 1, 5, 6, 21, 22, 23] [5] (loopOf Tryz.f81 6) f ([.s (.ptr 0 0 none 0), .s (.i .i64 x0), .s (.mp 1), .s (.i .i64 x1), .s (.sl 2 0 x2 true), .s (.i .i64 x3), .s (.i .i64 x4)]) ([.rcells 56 [.arr .i8 81 x5, .arr .i8 16 x6, .one [.i .i8 x7], .rows [.i .u64, .i .u64] 32 x8, .rows [.i .u64, .i .u64] 2 x9], .map false true [.i .i64] [.i .u64, .i .u64] x10, .sli 3 false (.arr .i64 x11 x12)]) attack_Pinned_v2l6d
theorem attack_Pinned_v2l6_step (f : Nat) (x0 x1 : Int) (x2 : Nat) (x3 x4 : Int) (x5 x6 : List Int) (x7 : Int) (x8 x9 : List (List Int)) (x10 : List (List Int × List Int)) (x11 : Nat) (x12 : List Int) : attack_Pinned_v2l6r (f + 1) x0 x1 x2 x3 x4 x5 x6 x7 x8 x9 x10 x11 x12 = attack_Pinned_v2l6s (attack_Pinned_v2l6r f) x0 x1 x2 x3 x4 x5 x6 x7 x8 x9 x10 x11 x12 := by kernel_rfl
theorem attack_Pinned_v2l6_eq : ∀ f, attack_Pinned_v2l6r f = attack_Pinned_v2l6 f
 | 0 => rfl
 | f + 1 => by funext x0 x1 x2 x3 x4 x5 x6 x7 x8 x9 x10 x11 x12; rw [attack_Pinned_v2l6_step, attack_Pinned_v2l6_eq f]; rfl
theorem attack_Pinned_v2s9 : LoopSound Tryz.prog attack_Pinned_v2c 1 (loopOf Tryz.f81 9) :=
 loopSound_by mixed attack_Pinned_v2c_ok (AllP.of (l' := []) (by kernel_rfl) trivial) (q := 9) (kin := [0, 1, 5, 6, 21, 22, 23, 32, 33, 34]) (kout := [0, 1, 5, 6, 21, 22, 23]) (by kernel_rfl) (by kernel_rfl) fun vs objs K r h => by
  replace h : attack_Pinned_v2p9 vs objs K = some r := h
  unfold attack_Pinned_v2p9 at h
  split at h
  ·skip
   obtain ⟨t, h1, h2⟩ := ob_ok h
   rw [← attack_Pinned_v2l9_eq] at h1
   refine ⟨_, attack_Pinned_v2l9d, t, many, h1, fun e vs' objs' hd => ?_⟩
   unfold attack_Pinned_v2l9d at hd
   split at hd
   ·skip
    cases hd
    exact h2
   ·cases hd
  ·cases h
theorem attack_Pinned_v2s6 : LoopSound Tryz.prog attack_Pinned_v2c 1 (loopOf Tryz.f81 6) :=
 loopSound_by mixed attack_Pinned_v2c_ok (AllP.of (l' := [loopOf Tryz.f81 9]) (by kernel_rfl) ⟨attack_Pinned_v2s9, trivial⟩) (q := 6) (kin := [0, 1, 5, 6, 21, 22, 23]) (kout := [5]) (by kernel_rfl) (by kernel_rfl) fun vs objs K r h => by
  replace h : attack_Pinned_v2p6 vs objs K = some r := h
  unfold attack_Pinned_v2p6 at h
  split at h
  ·skip
   obtain ⟨t, h1, h2⟩ := ob_ok h
   rw [← attack_Pinned_v2l6_eq] at h1
   refine ⟨_, attack_Pinned_v2l6d, t, many, h1, fun e vs' objs' hd => ?_⟩
   unfold attack_Pinned_v2l6d at hd
   split at hd
   ·skip
    cases hd
    exact h2
   ·cases hd
  ·cases h
noncomputable def attack_Pinned_v2d : V → List Obj → Option (List (List Int × List Int)) := fun v objs => match v, objs with
 | .s (.mp 1), [.map false true [.i .i64] [.i .u64, .i .u64] y0] => some (y0)
 | _, _ => none
theorem attack_Pinned_v2_eq (x0 : Int) (x1 x2 : List Int) (x3 : Int) (x4 x5 : List (List Int)) : fnE attack_Pinned_v2c Tryz.f81 ([.s (.ptr 0 0 none 0), .s (.i .i64 x0)]) ([.rcells 56 [.arr .i8 81 x1, .arr .i8 16 x2, .one [.i .i8 x3], .rows [.i .u64, .i .u64] 32 x4, .rows [.i .u64, .i .u64] 2 x5]]) (pureD 1 attack_Pinned_v2d) = attack_Pinned_v2 x0 x1 x2 x3 x4 x5 := by kernel_rfl
noncomputable def attack_Pinned_v2a {R : Type} (o : Orc) (vs : List V) (objs : List Obj) (K : Bool → V → List Obj → Option R) : Option R := match vs, List.map Obj.toRO objs with
 | [.s (.ptr 0 0 none 0), .s (.i .i64 x0)], [.rcells 56 [.arr .i8 81 x1, .arr .i8 16 x2, .one [.i .i8 x3], .rows [.i .u64, .i .u64] 32 x4, .rows [.i .u64, .i .u64] 2 x5]] => ob (attack_Pinned_v2 x0 x1 x2 x3 x4 x5) fun y0 => K true (.s (.mp 1)) ([.map false true [.i .i64] [.i .u64, .i .u64] y0])
 | _, _ => o 81 vs objs K
noncomputable def attack_Pinned_v2o (o : Orc) : Orc := hook 81 (attack_Pinned_v2a o) o
theorem attack_Pinned_v2o_ok (o : Orc) (ho : OSound Tryz.prog o) : OSound Tryz.prog (attack_Pinned_v2o o) := hook_ok ho fun vs objs K r h => by
 unfold attack_Pinned_v2a at h
 split at h
 ·skip
  have hq : List.map Obj.toRO objs = _ := (by rename_i hq; first | exact hq | assumption)
  obtain ⟨t, h1, h2⟩ := ob_ok h
  refine purOK_by mixed attack_Pinned_v2c_ok (m := 1) (fn := Tryz.f81) (b := (Tryz.f81).body.getD .skip) (by kernel_rfl) (by kernel_rfl) (by kernel_rfl) hq (by kernel_rfl) (by kernel_rfl) (AllP.of (l' := [loopOf Tryz.f81 6]) (by kernel_rfl) ⟨attack_Pinned_v2s6, trivial⟩) ((attack_Pinned_v2_eq _ _ _ _ _ _).trans h1) fun v objs' hd => ?_
  unfold attack_Pinned_v2d at hd
  split at hd
  ·skip
   cases hd
   exact h2
  ·cases hd
 ·exact ho _ _ _ _ _ h
noncomputable def attack_Onl5d : Ex → List V → List Obj → Option (List Int × List Int × Int × List (List Int) × List (List Int) × Int × Int × Int × Int) := fun e vs objs => match e, vs, objs with
 | .exit 0, [.s (.ptr 1 0 none 0), .s (.ptr 2 0 none 0)], [.rcells 56 [.arr .i8 81 y0, .arr .i8 16 y1, .one [.i .i8 y2], .rows [.i .u64, .i .u64] 32 y3, .rows [.i .u64, .i .u64] 2 y4], .cells 52 [.one [.i .u64 y5, .i .u64 y6]], .cells 52 [.one [.i .u64 y7, .i .u64 y8]]] => some (y0, y1, y2, y3, y4, y5, y6, y7, y8)
 | _, _, _ => none
noncomputable def attack_Onp5 {R : Type} (vs : List V) (objs : List Obj) (K : Ex → List V → List Obj → Option R) : Option R := match vs, objs with
 | [.s (.ptr 0 0 none 0), .s (.i .i64 x0), .s (.i .i64 x1), .s (.ptr 1 0 none 0), .s (.ptr 2 0 none 0), .s (.ptr 3 0 none 0), .s (.i .i64 x2)], [.rcells 56 [.arr .i8 81 x3, .arr .i8 16 x4, .one [.i .i8 x5], .rows [.i .u64, .i .u64] 32 x6, .rows [.i .u64, .i .u64] 2 x7], .cells 52 [.one [.i .u64 x8, .i .u64 x9]], .cells 52 [.one [.i .u64 x10, .i .u64 x11]], .cells 52 [.one [.i .u64 x12, .i .u64 x13]]] => ob (attack_Onl5 many x0 x1 x2 x3 x4 x5 x6 x7 x8 x9 x10 x11 x12 x13) fun z => K (.exit 0) ([.s (.ptr 1 0 none 0), .s (.ptr 2 0 none 0)]) ([.rcells 56 [.arr .i8 81 (z.1), .arr .i8 16 (z.2.1), .one [.i .i8 (z.2.2.1)], .rows [.i .u64, .i .u64] 32 (z.2.2.2.1), .rows [.i .u64, .i .u64] 2 (z.2.2.2.2.1)], .cells 52 [.one [.i .u64 (z.2.2.2.2.2.1), .i .u64 (z.2.2.2.2.2.2.1)]], .cells 52 [.one [.i .u64 (z.2.2.2.2.2.2.2.1), .i .u64 (z.2.2.2.2.2.2.2.2)]]])
 | _, _ => none
noncomputable def attack_Onlp : {R : Type} → Nat → List V → List Obj → (Ex → List V → List Obj → Option R) → Option R := fun q vs objs K => bif Nat.beq q 5 then attack_Onp5 vs objs K else none
noncomputable def attack_Onc : Ctx := mkC 49 ((set_Oro (set_Ando (board_Ofo (ray_Ofo (piece_Ofo oNil)))))) [(5, [0, 1, 2, 7, 8, 9, 10], [8, 9])] attack_Onlp
theorem attack_Onc_ok : CtxOK Tryz.prog attack_Onc := mkC_ok ((set_Oro_ok _ (set_Ando_ok _ (board_Ofo_ok _ (ray_Ofo_ok _ (piece_Ofo_ok _ oNil_ok))))))
noncomputable def attack_Onl5r (f : Nat) (x0 x1 x2 : Int) (x3 x4 : List Int) (x5 : Int) (x6 x7 : List (List Int)) (x8 x9 : Int) (x10 x11 : Int) (x12 x13 : Int) : Option (List Int × List Int × Int × List (List Int) × List (List Int) × Int × Int × Int × Int) := lrun attack_Onc 1 [0, 1, 2, 7, 8, 9, 10] [8, 9] (loopOf Tryz.f94 5) f ([.s (.ptr 0 0 none 0), .s (.i .i64 x0), .s (.i .i64 x1), .s (.ptr 1 0 none 0), .s (.ptr 2 0 none 0), .s (.ptr 3 0 none 0), .s (.i .i64 x2)]) ([.rcells 56 [.arr .i8 81 x3, .arr .i8 16 x4, .one [.i .i8 x5], .rows [.i .u64, .i .u64] 32 x6, .rows [.i .u64, .i .u64] 2 x7], .cells 52 [.one [.i .u64 x8, .i .u64 x9]], .cells 52 [.one [.i .u64 x10, .i .u64 x11]], .cells 52 [.one [.i .u64 x12, .i .u64 x13]]]) attack_Onl5d
theorem attack_Onl5_step (f : Nat) (x0 x1 x2 : Int) (x3 x4 : List Int) (x5 : Int) (x6 x7 : List (List Int)) (x8 x9 : Int) (x10 x11 : Int) (x12 x13 : Int) : attack_Onl5r (f + 1) x0 x1 x2 x3 x4 x5 x6 x7 x8 x9 x10 x11 x12 x13 = attack_Onl5s (attack_Onl5r f) x0 x1 x2 x3 x4 x5 x6 x7 x8 x9 x10 x11 x12 x13 := by kernel_rfl
theorem attack_Onl5_eq : ∀ f, attack_Onl5r f = attack_Onl5 f
 | 0 => rfl
 | f + 1 => by funext x0 x1 x2 x3 x4 x5 x6 x7 x8 x9 x10 x11 x12 x13; rw [attack_Onl5_step, attack_Onl5_eq f]; rfl
theorem attack_Ons5 : LoopSound Tryz.prog attack_Onc 1 (loopOf Tryz.f94 5) :=
 loopSound_by mixed attack_Onc_ok (AllP.of (l' := []) (by kernel_rfl) trivial) (q := 5) (kin := [0, 1, 2, 7, 8, 9, 10]) (kout := [8, 9]) (by kernel_rfl) (by kernel_rfl) fun vs objs K r h => by
  replace h : attack_Onp5 vs objs K = some r := h
  unfold attack_Onp5 at h
  split at h
  ·skip
   obtain ⟨t, h1, h2⟩ := ob_ok h
   rw [← attack_Onl5_eq] at h1
   refine ⟨_, attack_Onl5d, t, many, h1, fun e vs' objs' hd => ?_⟩
   unfold attack_Onl5d at hd
   split at hd
   ·skip
    cases hd
    exact h2
   ·cases hd
  ·cases h
noncomputable def attack_Ond : V → List Obj → Option (Int × Int) := fun v objs => match v, objs with
 | .agg [.one [.i .u64 y0, .i .u64 y1]], [] => some (y0, y1)
 | _, _ => none
theorem attack_On_eq (x0 x1 : Int) (x2 x3 : Int) (x4 x5 : List Int) (x6 : Int) (x7 x8 : List (List Int)) : fnE attack_Onc Tryz.f94 ([.s (.ptr 0 0 none 0), .s (.i .i64 x0), .s (.i .i64 x1), .agg [.one [.i .u64 x2, .i .u64 x3]]]) ([.rcells 56 [.arr .i8 81 x4, .arr .i8 16 x5, .one [.i .i8 x6], .rows [.i .u64, .i .u64] 32 x7, .rows [.i .u64, .i .u64] 2 x8]]) (pureD 1 attack_Ond) = attack_On x0 x1 x2 x3 x4 x5 x6 x7 x8 := by kernel_rfl
noncomputable def attack_Ona {R : Type} (o : Orc) (vs : List V) (objs : List Obj) (K : Bool → V → List Obj → Option R) : Option R := match vs, List.map Obj.toRO objs with
 | [.s (.ptr 0 0 none 0), .s (.i .i64 x0), .s (.i .i64 x1), .agg [.one [.i .u64 x2, .i .u64 x3]]], [.rcells 56 [.arr .i8 81 x4, .arr .i8 16 x5, .one [.i .i8 x6], .rows [.i .u64, .i .u64] 32 x7, .rows [.i .u64, .i .u64] 2 x8]] => ob (attack_On x0 x1 x2 x3 x4 x5 x6 x7 x8) fun z => K true (.agg [.one [.i .u64 (z.1), .i .u64 (z.2)]]) ([])
 | _, _ => o 94 vs objs K
noncomputable def attack_Ono (o : Orc) : Orc := hook 94 (attack_Ona o) o
theorem attack_Ono_ok (o : Orc) (ho : OSound Tryz.prog o) : OSound Tryz.prog (attack_Ono o) := hook_ok ho fun vs objs K r h => by
 unfold attack_Ona at h
 split at h
 ·skip
  have hq : List.map Obj.toRO objs = _ := (by rename_i hq; first | exact hq | assumption)
  obtain ⟨t, h1, h2⟩ := ob_ok h
  refine purOK_by mixed attack_Onc_ok (m := 1) (fn := Tryz.f94) (b := (Tryz.f94).body.getD .skip) (by kernel_rfl) (by kernel_rfl) (by kernel_rfl) hq (by kernel_rfl) (by kernel_rfl) (AllP.of (l' := [loopOf Tryz.f94 5]) (by kernel_rfl) ⟨attack_Ons5, trivial⟩) ((attack_On_eq _ _ _ _ _ _ _ _ _).trans h1) fun v objs' hd => ?_
  unfold attack_Ond at hd
  split at hd
  ·skip
   cases hd
   exact h2
  ·cases hd
 ·exact ho _ _ _ _ _ h
noncomputable def attack_Checkersc : Ctx := mkC 14 ((attack_Ono (board_Takeno (board_Kingo oNil)))) [] lpNil
theorem attack_Checkersc_ok : CtxOK Tryz.prog attack_Checkersc := mkC_ok ((attack_Ono_ok _ (board_Takeno_ok _ (board_Kingo_ok _ oNil_ok))))
noncomputable def attack_Checkersd : V → List Obj → Option (Int × Int) := fun v objs => match v, objs with
 | .agg [.one [.i .u64 y0, .i .u64 y1]], [] => some (y0, y1)
 | _, _ => none
theorem attack_Checkers_eq (x0 : Int) (x1 x2 : List Int) (x3 : Int) (x4 x5 : List (List Int)) : fnE attack_Checkersc Tryz.f61 ([.s (.ptr 0 0 none 0), .s (.i .i64 x0)]) ([.rcells 56 [.arr .i8 81 x1, .arr .i8 16 x2, .one [.i .i8 x3], .rows [.i .u64, .i .u64] 32 x4, .rows [.i .u64, .i .u64] 2 x5]]) (pureD 1 attack_Checkersd) = attack_Checkers x0 x1 x2 x3 x4 x5 := by kernel_rfl
noncomputable def attack_Checkersa {R : Type} (o : Orc) (vs : List V) (objs : List Obj) (K : Bool → V → List Obj → Option R) : Option R := match vs, List.map Obj.toRO objs with
 | [.s (.ptr 0 0 none 0), .s (.i .i64 x0)], [.rcells 56 [.arr .i8 81 x1, .arr .i8 16 x2, .one [.i .i8 x3], .rows [.i .u64, .i .u64] 32 x4, .rows [.i .u64, .i .u64] 2 x5]] => ob (attack_Checkers x0 x1 x2 x3 x4 x5) fun z => K true (.agg [.one [.i .u64 (z.1), .i .u64 (z.2)]]) ([])
 | _, _ => o 61 vs objs K
noncomputable def attack_Checkerso (o : Orc) : Orc := hook 61 (attack_Checkersa o) o
theorem attack_Checkerso_ok (o : Orc) (ho : OSound Tryz.prog o) : OSound Tryz.prog (attack_Checkerso o) := hook_ok ho fun vs objs K r h => by
 unfold attack_Checkersa at h
 split at h
 ·skip
  have hq : List.map Obj.toRO objs = _ := (by rename_i hq; first | exact hq | assumption)
  obtain ⟨t, h1, h2⟩ := ob_ok h
  refine purOK_by mixed attack_Checkersc_ok (m := 1) (fn := Tryz.f61) (b := (Tryz.f61).body.getD .skip) (by kernel_rfl) (by kernel_rfl) (by kernel_rfl) hq (by kernel_rfl) (by kernel_rfl) (AllP.of (l' := []) (by kernel_rfl) trivial) ((attack_Checkers_eq _ _ _ _ _ _).trans h1) fun v objs' hd => ?_
  unfold attack_Checkersd at hd
  split at hd
  ·skip
   cases hd
   exact h2
  ·cases hd
 ·exact ho _ _ _ _ _ h
noncomputable def legal_lookc : Ctx := mkC 44 ((set_Oro (ray_Between_v2o (set_Firsto (set_Counto (attack_Checkerso (attack_Pinned_v2o (set_Allo (board_Kingo oNil))))))))) [] lpNil
theorem legal_lookc_ok : CtxOK Tryz.prog legal_lookc := mkC_ok ((set_Oro_ok _ (ray_Between_v2o_ok _ (set_Firsto_ok _ (set_Counto_ok _ (attack_Checkerso_ok _ (attack_Pinned_v2o_ok _ (set_Allo_ok _ (board_Kingo_ok _ oNil_ok)))))))))
noncomputable def legal_lookd : V → List Obj → Option (Int × Int × Int × Int × Bool × List (List Int × List Int)) := fun v objs => match v, objs with
 | .agg [.one [.ptr 0 0 none 0, .i .i64 y0, .i .i64 y1, .i .u64 y2, .i .u64 y3, .mp 1, .b y4]], [.map false true [.i .i64] [.i .u64, .i .u64] y5] => some (y0, y1, y2, y3, y4, y5)
 | _, _ => none
theorem legal_look_eq (x0 x1 : List Int) (x2 : Int) (x3 x4 : List (List Int)) : fnE legal_lookc Tryz.f42 ([.s (.ptr 0 0 none 0)]) ([.rcells 56 [.arr .i8 81 x0, .arr .i8 16 x1, .one [.i .i8 x2], .rows [.i .u64, .i .u64] 32 x3, .rows [.i .u64, .i .u64] 2 x4]]) (pureD 1 legal_lookd) = legal_look x0 x1 x2 x3 x4 := by kernel_rfl
noncomputable def legal_looka {R : Type} (o : Orc) (vs : List V) (objs : List Obj) (K : Bool → V → List Obj → Option R) : Option R := match vs, List.map Obj.toRO objs with
 | [.s (.ptr 0 0 none 0)], [.rcells 56 [.arr .i8 81 x0, .arr .i8 16 x1, .one [.i .i8 x2], .rows [.i .u64, .i .u64] 32 x3, .rows [.i .u64, .i .u64] 2 x4]] => ob (legal_look x0 x1 x2 x3 x4) fun z => K true (.agg [.one [.ptr 0 0 none 0, .i .i64 (z.1), .i .i64 (z.2.1), .i .u64 (z.2.2.1), .i .u64 (z.2.2.2.1), .mp 1, .b (z.2.2.2.2.1)]]) ([.map false true [.i .i64] [.i .u64, .i .u64] (z.2.2.2.2.2)])
 | _, _ => o 42 vs objs K
noncomputable def legal_looko (o : Orc) : Orc := hook 42 (legal_looka o) o
theorem legal_looko_ok (o : Orc) (ho : OSound Tryz.prog o) : OSound Tryz.prog (legal_looko o) := hook_ok ho fun vs objs K r h => by
 unfold legal_looka at h
 split at h
 ·skip
  have hq : List.map Obj.toRO objs = _ := (by rename_i hq; first | exact hq | assumption)
  obtain ⟨t, h1, h2⟩ := ob_ok h
  refine purOK_by mixed legal_lookc_ok (m := 1) (fn := Tryz.f42) (b := (Tryz.f42).body.getD .skip) (by kernel_rfl) (by kernel_rfl) (by kernel_rfl) hq (by kernel_rfl) (by kernel_rfl) (AllP.of (l' := []) (by kernel_rfl) trivial) ((legal_look_eq _ _ _ _ _).trans h1) fun v objs' hd => ?_
  unfold legal_lookd at hd
  split at hd
  ·skip
   cases hd
   exact h2
  ·cases hd
 ·exact ho _ _ _ _ _ h
noncomputable def piece_Upc : Ctx := mkC 13 (oNil) [] lpNil
theorem piece_Upc_ok : CtxOK Tryz.prog piece_Upc := mkC_ok (oNil_ok)
noncomputable def piece_Upd : V → List Obj → Option (Int) := fun v objs => match v, objs with
 | .s (.i .i64 y0), [] => some (y0)
 | _, _ => none
theorem piece_Up_eq (x0 : Int) : fnE piece_Upc Tryz.f72 ([.s (.i .i64 x0)]) ([]) piece_Upd = piece_Up x0 := by kernel_rfl
noncomputable def piece_Upa {R : Type} (o : Orc) (vs : List V) (objs : List Obj) (K : Bool → V → List Obj → Option R) : Option R := match vs, objs with
 | [.s (.i .i64 x0)], [] => ob (piece_Up x0) fun y0 => K false (.s (.i .i64 y0)) ([])
 | _, _ => o 72 vs objs K
noncomputable def piece_Upo (o : Orc) : Orc := hook 72 (piece_Upa o) o
theorem piece_Upo_ok (o : Orc) (ho : OSound Tryz.prog o) : OSound Tryz.prog (piece_Upo o) := hook_ok ho fun vs objs K r h => by
 unfold piece_Upa at h
 split at h
 ·skip
  obtain ⟨t, h1, h2⟩ := ob_ok h
  refine anyOK_of mixed piece_Upc_ok (fn := Tryz.f72) (b := (Tryz.f72).body.getD .skip) (by kernel_rfl) (by kernel_rfl) (by kernel_rfl) ((piece_Up_eq _).trans h1) (m := 0) rfl (AllP.of (l' := []) (by kernel_rfl) trivial) fun v objs' hd => ?_
  unfold piece_Upd at hd
  split at hd
  ·skip
   cases hd
   exact h2
  ·cases hd
 ·exact ho _ _ _ _ _ h
noncomputable def step_Farc : Ctx := mkC 23 ((set_Ranko oNil)) [] lpNil
theorem step_Farc_ok : CtxOK Tryz.prog step_Farc := mkC_ok ((set_Ranko_ok _ oNil_ok))
noncomputable def step_Fard : V → List Obj → Option (Int) := fun v objs => match v, objs with
 | .s (.i .i64 y0), [] => some (y0)
 | _, _ => none
theorem step_Far_eq (x0 x1 : Int) : fnE step_Farc Tryz.f128 ([.s (.i .i64 x0), .s (.i .i64 x1)]) ([]) step_Fard = step_Far x0 x1 := by kernel_rfl
noncomputable def step_Fara {R : Type} (o : Orc) (vs : List V) (objs : List Obj) (K : Bool → V → List Obj → Option R) : Option R := match vs, objs with
 | [.s (.i .i64 x0), .s (.i .i64 x1)], [] => ob (step_Far x0 x1) fun y0 => K false (.s (.i .i64 y0)) ([])
 | _, _ => o 128 vs objs K
noncomputable def step_Faro (o : Orc) : Orc := hook 128 (step_Fara o) o
theorem step_Faro_ok (o : Orc) (ho : OSound Tryz.prog o) : OSound Tryz.prog (step_Faro o) := hook_ok ho fun vs objs K r h => by
 unfold step_Fara at h
 split at h
 ·skip
  obtain ⟨t, h1, h2⟩ := ob_ok h
  refine anyOK_of mixed step_Farc_ok (fn := Tryz.f128) (b := (Tryz.f128).body.getD .skip) (by kernel_rfl) (by kernel_rfl) (by kernel_rfl) ((step_Far_eq _ _).trans h1) (m := 0) rfl (AllP.of (l' := []) (by kernel_rfl) trivial) fun v objs' hd => ?_
  unfold step_Fard at hd
  split at hd
  ·skip
   cases hd
   exact h2
  ·cases hd
 ·exact ho _ _ _ _ _ h
noncomputable def step_Zonel3d : Ex → List V → List Obj → Option (Int × Int × Int × Int) := fun e vs objs => match e, vs, objs with
 | .exit 0, [.s (.ptr 0 0 none 0), .s (.ptr 1 0 none 0)], [.cells 52 [.one [.i .u64 y0, .i .u64 y1]], .cells 52 [.one [.i .u64 y2, .i .u64 y3]]] => some (y0, y1, y2, y3)
 | _, _, _ => none
noncomputable def step_Zonep3 {R : Type} (vs : List V) (objs : List Obj) (K : Ex → List V → List Obj → Option R) : Option R := match vs, objs with
 | [.s (.i .i64 x0), .s (.ptr 0 0 none 0), .s (.ptr 1 0 none 0), .s (.i .i64 x1)], [.cells 52 [.one [.i .u64 x2, .i .u64 x3]], .cells 52 [.one [.i .u64 x4, .i .u64 x5]]] => ob (step_Zonel3 many x0 x1 x2 x3 x4 x5) fun z => K (.exit 0) ([.s (.ptr 0 0 none 0), .s (.ptr 1 0 none 0)]) ([.cells 52 [.one [.i .u64 (z.1), .i .u64 (z.2.1)]], .cells 52 [.one [.i .u64 (z.2.2.1), .i .u64 (z.2.2.2)]]])
 | _, _ => none
noncomputable def step_Zonelp : {R : Type} → Nat → List V → List Obj → (Ex → List V → List Obj → Option R) → Option R := fun q vs objs K => bif Nat.beq q 3 then step_Zonep3 vs objs K else none
noncomputable def step_Zonec : Ctx := mkC 23 ((set_Witho (step_Faro oNil))) [(3, [0, 2, 3, 6], [2, 3])] step_Zonelp
theorem step_Zonec_ok : CtxOK Tryz.prog step_Zonec := mkC_ok ((set_Witho_ok _ (step_Faro_ok _ oNil_ok)))
noncomputable def step_Zonel3r (f : Nat) (x0 x1 : Int) (x2 x3 : Int) (x4 x5 : Int) : Option (Int × Int × Int × Int) := lrun step_Zonec 0 [0, 2, 3, 6] [2, 3] (loopOf Tryz.f117 3) f ([.s (.i .i64 x0), .s (.ptr 0 0 none 0), .s (.ptr 1 0 none 0), .s (.i .i64 x1)]) ([.cells 52 [.one [.i .u64 x2, .i .u64 x3]], .cells 52 [.one [.i .u64 x4, .i .u64 x5]]]) step_Zonel3d
theorem step_Zonel3_step (f : Nat) (x0 x1 : Int) (x2 x3 : Int) (x4 x5 : Int) : step_Zonel3r (f + 1) x0 x1 x2 x3 x4 x5 = step_Zonel3s (step_Zonel3r f) x0 x1 x2 x3 x4 x5 := by kernel_rfl
theorem step_Zonel3_eq : ∀ f, step_Zonel3r f = step_Zonel3 f
 | 0 => rfl
 | f + 1 => by funext x0 x1 x2 x3 x4 x5; rw [step_Zonel3_step, step_Zonel3_eq f]; rfl
theorem step_Zones3 : LoopSound Tryz.prog step_Zonec 0 (loopOf Tryz.f117 3) :=
 loopSound_by mixed step_Zonec_ok (AllP.of (l' := []) (by kernel_rfl) trivial) (q := 3) (kin := [0, 2, 3, 6]) (kout := [2, 3]) (by kernel_rfl) (by kernel_rfl) fun vs objs K r h => by
  replace h : step_Zonep3 vs objs K = some r := h
  unfold step_Zonep3 at h
  split at h
  ·skip
   obtain ⟨t, h1, h2⟩ := ob_ok h
   rw [← step_Zonel3_eq] at h1
   refine ⟨_, step_Zonel3d, t, many, h1, fun e vs' objs' hd => ?_⟩
   unfold step_Zonel3d at hd
   split at hd
   ·skip
    cases hd
    exact h2
   ·cases hd
  ·cases h
noncomputable def step_Zoned : V → List Obj → Option (Int × Int) := fun v objs => match v, objs with
 | .agg [.one [.i .u64 y0, .i .u64 y1]], [] => some (y0, y1)
 | _, _ => none
theorem step_Zone_eq (x0 : Int) : fnE step_Zonec Tryz.f117 ([.s (.i .i64 x0)]) ([]) step_Zoned = step_Zone x0 := by kernel_rfl
noncomputable def step_Zonea {R : Type} (o : Orc) (vs : List V) (objs : List Obj) (K : Bool → V → List Obj → Option R) : Option R := match vs, objs with
 | [.s (.i .i64 x0)], [] => ob (step_Zone x0) fun z => K false (.agg [.one [.i .u64 (z.1), .i .u64 (z.2)]]) ([])
 | _, _ => o 117 vs objs K
noncomputable def step_Zoneo (o : Orc) : Orc := hook 117 (step_Zonea o) o
theorem step_Zoneo_ok (o : Orc) (ho : OSound Tryz.prog o) : OSound Tryz.prog (step_Zoneo o) := hook_ok ho fun vs objs K r h => by
 unfold step_Zonea at h
 split at h
 ·skip
  obtain ⟨t, h1, h2⟩ := ob_ok h
  refine anyOK_of mixed step_Zonec_ok (fn := Tryz.f117) (b := (Tryz.f117).body.getD .skip) (by kernel_rfl) (by kernel_rfl) (by kernel_rfl) ((step_Zone_eq _).trans h1) (m := 0) rfl (AllP.of (l' := [loopOf Tryz.f117 3]) (by kernel_rfl) ⟨step_Zones3, trivial⟩) fun v objs' hd => ?_
  unfold step_Zoned at hd
  split at hd
  ·skip
   cases hd
   exact h2
  ·cases hd
 ·exact ho _ _ _ _ _ h
noncomputable def step_Deadc : Ctx := mkC 25 ((piece_Kindo (step_Faro (piece_Sideo oNil)))) [] lpNil
theorem step_Deadc_ok : CtxOK Tryz.prog step_Deadc := mkC_ok ((piece_Kindo_ok _ (step_Faro_ok _ (piece_Sideo_ok _ oNil_ok))))
noncomputable def step_Deadd : V → List Obj → Option (Bool) := fun v objs => match v, objs with
 | .s (.b y0), [] => some (y0)
 | _, _ => none
theorem step_Dead_eq (x0 x1 : Int) : fnE step_Deadc Tryz.f118 ([.s (.i .i8 x0), .s (.i .i64 x1)]) ([]) step_Deadd = step_Dead x0 x1 := by kernel_rfl
noncomputable def step_Deada {R : Type} (o : Orc) (vs : List V) (objs : List Obj) (K : Bool → V → List Obj → Option R) : Option R := match vs, objs with
 | [.s (.i .i8 x0), .s (.i .i64 x1)], [] => ob (step_Dead x0 x1) fun y0 => K false (.s (.b y0)) ([])
 | _, _ => o 118 vs objs K
noncomputable def step_Deado (o : Orc) : Orc := hook 118 (step_Deada o) o
theorem step_Deado_ok (o : Orc) (ho : OSound Tryz.prog o) : OSound Tryz.prog (step_Deado o) := hook_ok ho fun vs objs K r h => by
 unfold step_Deada at h
 split at h
 ·skip
  obtain ⟨t, h1, h2⟩ := ob_ok h
  refine anyOK_of mixed step_Deadc_ok (fn := Tryz.f118) (b := (Tryz.f118).body.getD .skip) (by kernel_rfl) (by kernel_rfl) (by kernel_rfl) ((step_Dead_eq _ _).trans h1) (m := 0) rfl (AllP.of (l' := []) (by kernel_rfl) trivial) fun v objs' hd => ?_
  unfold step_Deadd at hd
  split at hd
  ·skip
   cases hd
   exact h2
  ·cases hd
 ·exact ho _ _ _ _ _ h
noncomputable def gen_Promotesc : Ctx := mkC 27 ((step_Deado (set_Haso (step_Zoneo (piece_Sideo (piece_Upo (piece_Kindo oNil))))))) [] lpNil
theorem gen_Promotesc_ok : CtxOK Tryz.prog gen_Promotesc := mkC_ok ((step_Deado_ok _ (set_Haso_ok _ (step_Zoneo_ok _ (piece_Sideo_ok _ (piece_Upo_ok _ (piece_Kindo_ok _ oNil_ok)))))))
noncomputable def gen_Promotesd : V → List Obj → Option (Bool × Bool) := fun v objs => match v, objs with
 | .tup [W.s (.b y0), W.s (.b y1)], [] => some (y0, y1)
 | _, _ => none
theorem gen_Promotes_eq (x0 x1 x2 : Int) : fnE gen_Promotesc Tryz.f93 ([.s (.i .i8 x0), .s (.i .i64 x1), .s (.i .i64 x2)]) ([]) gen_Promotesd = gen_Promotes x0 x1 x2 := by kernel_rfl
noncomputable def gen_Promotesa {R : Type} (o : Orc) (vs : List V) (objs : List Obj) (K : Bool → V → List Obj → Option R) : Option R := match vs, objs with
 | [.s (.i .i8 x0), .s (.i .i64 x1), .s (.i .i64 x2)], [] => ob (gen_Promotes x0 x1 x2) fun z => K false (.tup [W.s (.b (z.1)), W.s (.b (z.2))]) ([])
 | _, _ => o 93 vs objs K
noncomputable def gen_Promoteso (o : Orc) : Orc := hook 93 (gen_Promotesa o) o
theorem gen_Promoteso_ok (o : Orc) (ho : OSound Tryz.prog o) : OSound Tryz.prog (gen_Promoteso o) := hook_ok ho fun vs objs K r h => by
 unfold gen_Promotesa at h
 split at h
 ·skip
  obtain ⟨t, h1, h2⟩ := ob_ok h
  refine anyOK_of mixed gen_Promotesc_ok (fn := Tryz.f93) (b := (Tryz.f93).body.getD .skip) (by kernel_rfl) (by kernel_rfl) (by kernel_rfl) ((gen_Promotes_eq _ _ _).trans h1) (m := 0) rfl (AllP.of (l' := []) (by kernel_rfl) trivial) fun v objs' hd => ?_
  unfold gen_Promotesd at hd
  split at hd
  ·skip
   cases hd
   exact h2
  ·cases hd
 ·exact ho _ _ _ _ _ h
noncomputable def gen_Boardl9d : Ex → List V → List Obj → Option (Nat × Int × Nat × Int × Int × List Int × List Int × Int × List (List Int) × List (List Int) × Int × Int × Nat × List (List Int) × Int × Int × Nat × List Int) := fun e vs objs => match e, vs, objs with
 | .exit 2, [.s (.ptr 0 0 none 0), .s (.ptr 1 0 none 0), .s (.sl 2 0 y0 true), .s (.i .i64 y1), .s (.ptr 3 0 none 0), .s (.sl 4 0 y2 true), .s (.i .i64 y3), .s (.i .i64 y4)], [.rcells 56 [.arr .i8 81 y5, .arr .i8 16 y6, .one [.i .i8 y7], .rows [.i .u64, .i .u64] 32 y8, .rows [.i .u64, .i .u64] 2 y9], .cells 52 [.one [.i .u64 y10, .i .u64 y11]], .sli 39 false (.rows [.i .i64, .i .i64, .i .i64, .b] y12 y13), .cells 52 [.one [.i .u64 y14, .i .u64 y15]], .sli 3 false (.arr .i64 y16 y17)] => some (y0, y1, y2, y3, y4, y5, y6, y7, y8, y9, y10, y11, y12, y13, y14, y15, y16, y17)
 | _, _, _ => none
noncomputable def gen_Boardl5d : Ex → List V → List Obj → Option (Nat × List Int × List Int × Int × List (List Int) × List (List Int) × Nat × List (List Int)) := fun e vs objs => match e, vs, objs with
 | .exit 0, [.s (.sl 1 0 y0 true)], [.rcells 56 [.arr .i8 81 y1, .arr .i8 16 y2, .one [.i .i8 y3], .rows [.i .u64, .i .u64] 32 y4, .rows [.i .u64, .i .u64] 2 y5], .sli 39 false (.rows [.i .i64, .i .i64, .i .i64, .b] y6 y7)] => some (y0, y1, y2, y3, y4, y5, y6, y7)
 | _, _, _ => none
noncomputable def gen_Boardp9 {R : Type} (vs : List V) (objs : List Obj) (K : Ex → List V → List Obj → Option R) : Option R := match vs, objs with
 | [.s (.ptr 0 0 none 0), .s (.ptr 1 0 none 0), .s (.sl 2 0 x0 true), .s (.i .i64 x1), .s (.ptr 3 0 none 0), .s (.i .i64 x2), .s (.i .i8 x3), .s (.sl 4 0 x4 true), .s (.i .i64 x5), .s (.i .i64 x6), .s (.sl 5 0 x7 true), .s (.i .i64 x8), .s (.i .i64 x9)], [.rcells 56 [.arr .i8 81 x10, .arr .i8 16 x11, .one [.i .i8 x12], .rows [.i .u64, .i .u64] 32 x13, .rows [.i .u64, .i .u64] 2 x14], .cells 52 [.one [.i .u64 x15, .i .u64 x16]], .sli 39 false (.rows [.i .i64, .i .i64, .i .i64, .b] x17 x18), .cells 52 [.one [.i .u64 x19, .i .u64 x20]], .sli 3 false (.arr .i64 x21 x22), .sli 3 false (.arr .i64 x23 x24)] => ob (gen_Boardl9 many x0 x1 x2 x3 x4 x5 x6 x7 x8 x9 x10 x11 x12 x13 x14 x15 x16 x17 x18 x19 x20 x21 x22 x23 x24) fun z => K (.exit 2) ([.s (.ptr 0 0 none 0), .s (.ptr 1 0 none 0), .s (.sl 2 0 (z.1) true), .s (.i .i64 (z.2.1)), .s (.ptr 3 0 none 0), .s (.sl 4 0 (z.2.2.1) true), .s (.i .i64 (z.2.2.2.1)), .s (.i .i64 (z.2.2.2.2.1))]) ([.rcells 56 [.arr .i8 81 (z.2.2.2.2.2.1), .arr .i8 16 (z.2.2.2.2.2.2.1), .one [.i .i8 (z.2.2.2.2.2.2.2.1)], .rows [.i .u64, .i .u64] 32 (z.2.2.2.2.2.2.2.2.1), .rows [.i .u64, .i .u64] 2 (z.2.2.2.2.2.2.2.2.2.1)], .cells 52 [.one [.i .u64 (z.2.2.2.2.2.2.2.2.2.2.1), .i .u64 (z.2.2.2.2.2.2.2.2.2.2.2.1)]], .sli 39 false (.rows [.i .i64, .i .i64, .i .i64, .b] (z.2.2.2.2.2.2.2.2.2.2.2.2.1) (z.2.2.2.2.2.2.2.2.2.2.2.2.2.1)), .cells 52 [.one [.i .u64 (z.2.2.2.2.2.2.2.2.2.2.2.2.2.2.1), .i .u64 (z.2.2.2.2.2.2.2.2.2.2.2.2.2.2.2.1)]], .sli 3 false (.arr .i64 (z.2.2.2.2.2.2.2.2.2.2.2.2.2.2.2.2.1) (z.2.2.2.2.2.2.2.2.2.2.2.2.2.2.2.2.2))])
 | _, _ => none
noncomputable def gen_Boardp5 {R : Type} (vs : List V) (objs : List Obj) (K : Ex → List V → List Obj → Option R) : Option R := match vs, objs with
 | [.s (.ptr 0 0 none 0), .s (.ptr 1 0 none 0), .s (.sl 2 0 x0 true), .s (.i .i64 x1), .s (.ptr 3 0 none 0), .s (.sl 4 0 x2 true), .s (.i .i64 x3), .s (.i .i64 x4)], [.rcells 56 [.arr .i8 81 x5, .arr .i8 16 x6, .one [.i .i8 x7], .rows [.i .u64, .i .u64] 32 x8, .rows [.i .u64, .i .u64] 2 x9], .cells 52 [.one [.i .u64 x10, .i .u64 x11]], .sli 39 false (.rows [.i .i64, .i .i64, .i .i64, .b] x12 x13), .cells 52 [.one [.i .u64 x14, .i .u64 x15]], .sli 3 false (.arr .i64 x16 x17)] => ob (gen_Boardl5 many x0 x1 x2 x3 x4 x5 x6 x7 x8 x9 x10 x11 x12 x13 x14 x15 x16 x17) fun z => K (.exit 0) ([.s (.sl 1 0 (z.1) true)]) ([.rcells 56 [.arr .i8 81 (z.2.1), .arr .i8 16 (z.2.2.1), .one [.i .i8 (z.2.2.2.1)], .rows [.i .u64, .i .u64] 32 (z.2.2.2.2.1), .rows [.i .u64, .i .u64] 2 (z.2.2.2.2.2.1)], .sli 39 false (.rows [.i .i64, .i .i64, .i .i64, .b] (z.2.2.2.2.2.2.1) (z.2.2.2.2.2.2.2))])
 | _, _ => none
noncomputable def gen_Boardlp : {R : Type} → Nat → List V → List Obj → (Ex → List V → List Obj → Option R) → Option R := fun q vs objs K => bif Nat.beq q 9 then gen_Boardp9 vs objs K else bif Nat.beq q 5 then gen_Boardp5 vs objs K else none
noncomputable def gen_Boardc : Ctx := mkC 82 ((gen_Promoteso (set_Ando (set_Minuso (ray_Ofo (board_Takeno (board_Ato (set_Squareso (board_Pieceso (set_Oro (board_Ofo oNil))))))))))) [(5, [0, 3, 5, 6, 7, 29, 30, 31], [5]), (9, [0, 3, 5, 6, 7, 9, 10, 29, 30, 31, 51, 52, 53], [0, 3, 5, 6, 7, 29, 30, 31])] gen_Boardlp
theorem gen_Boardc_ok : CtxOK Tryz.prog gen_Boardc := mkC_ok ((gen_Promoteso_ok _ (set_Ando_ok _ (set_Minuso_ok _ (ray_Ofo_ok _ (board_Takeno_ok _ (board_Ato_ok _ (set_Squareso_ok _ (board_Pieceso_ok _ (set_Oro_ok _ (board_Ofo_ok _ oNil_ok)))))))))))
noncomputable def gen_Boardl9r (f : Nat) (x0 : Nat) (x1 x2 x3 : Int) (x4 : Nat) (x5 x6 : Int) (x7 : Nat) (x8 x9 : Int) (x10 x11 : List Int) (x12 : Int) (x13 x14 : List (List Int)) (x15 x16 : Int) (x17 : Nat) (x18 : List (List Int)) (x19 x20 : Int) (x21 : Nat) (x22 : List Int) (x23 : Nat) (x24 : List Int) : Option (Nat × Int × Nat × Int × Int × List Int × List Int × Int × List (List Int) × List (List Int) × Int × Int × Nat × List (List Int) × Int × Int × Nat × List Int) := lrun gen_Boardc 1 [0, 3, 5, 6, 7, 9, 10, 29, 30, 31, 51, 52, 53] [0, 3, 5, 6, 7, 29, 30, 31] (loopOf Tryz.f43 9) f ([.s (.ptr 0 0 none 0), .s (.ptr 1 0 none 0), .s (.sl 2 0 x0 true), .s (.i .i64 x1), .s (.ptr 3 0 none 0), .s (.i .i64 x2), .s (.i .i8 x3), .s (.sl 4 0 x4 true), .s (.i .i64 x5), .s (.i .i64 x6), .s (.sl 5 0 x7 true), .s (.i .i64 x8), .s (.i .i64 x9)]) ([.rcells 56 [.arr .i8 81 x10, .arr .i8 16 x11, .one [.i .i8 x12], .rows [.i .u64, .i .u64] 32 x13, .rows [.i .u64, .i .u64] 2 x14], .cells 52 [.one [.i .u64 x15, .i .u64 x16]], .sli 39 false (.rows [.i .i64, .i .i64, .i .i64, .b] x17 x18), .cells 52 [.one [.i .u64 x19, .i .u64 x20]], .sli 3 false (.arr .i64 x21 x22), .sli 3 false (.arr .i64 x23 x24)]) gen_Boardl9d
theorem gen_Boardl9_step (f : Nat) (x0 : Nat) (x1 x2 x3 : Int) (x4 : Nat) (x5 x6 : Int) (x7 : Nat) (x8 x9 : Int) (x10 x11 : List Int) (x12 : Int) (x13 x14 : List (List Int)) (x15 x16 : Int) (x17 : Nat) (x18 : List (List Int)) (x19 x20 : Int) (x21 : Nat) (x22 : List Int) (x23 : Nat) (x24 : List Int) : gen_Boardl9r (f + 1) x0 x1 x2 x3 x4 x5 x6 x7 x8 x9 x10 x11 x12 x13 x14 x15 x16 x17 x18 x19 x20 x21 x22 x23 x24 = gen_Boardl9s (gen_Boardl9r f) x0 x1 x2 x3 x4 x5 x6 x7 x8 x9 x10 x11 x12 x13 x14 x15 x16 x17 x18 x19 x20 x21 x22 x23 x24 := by kernel_rfl
theorem gen_Boardl9_eq : ∀ f, gen_Boardl9r f = gen_Boardl9 f
 | 0 => rfl
 | f + 1 => by funext x0 x1 x2 x3 x4 x5 x6 x7 x8 x9 x10 x11 x12 x13 x14 x15 x16 x17 x18 x19 x20 x21 x22 x23 x24; rw [gen_Boardl9_step, gen_Boardl9_eq f]; rfl
noncomputable def gen_Boardl5r (f : Nat) (x0 : Nat) (x1 : Int) (x2 : Nat) (x3 x4 : Int) (x5 x6 : List Int) (x7 : Int) (x8 x9 : List (List Int)) (x10 x11 : Int) (x12 : Nat) (x13 : List (List Int)) (x14 x15 : Int) (x16 : Nat) (x17 : List Int) : Option (Nat × List Int × List Int × Int × List (List Int) × List (List Int) × Nat × List (List Int)) := lrun gen_Boardc 1 [0, 3, 5, 6, 7, 29, 30, 31] [5] (loopOf Tryz.f43 5) f ([.s (.ptr 0 0 none 0), .s (.ptr 1 0 none 0), .s (.sl 2 0 x0 true), .s (.i .i64 x1), .s (.ptr 3 0 none 0), .s (.sl 4 0 x2 true), .s (.i .i64 x3), .s (.i .i64 x4)]) ([.rcells 56 [.arr .i8 81 x5, .arr .i8 16 x6, .one [.i .i8 x7], .rows [.i .u64, .i .u64] 32 x8, .rows [.i .u64, .i .u64] 2 x9], .cells 52 [.one [.i .u64 x10, .i .u64 x11]], .sli 39 false (.rows [.i .i64, .i .i64, .i .i64, .b] x12 x13), .cells 52 [.one [.i .u64 x14, .i .u64 x15]], .sli 3 false (.arr .i64 x16 x17)]) gen_Boardl5d
theorem gen_Boardl5_step (f : Nat) (x0 : Nat) (x1 : Int) (x2 : Nat) (x3 x4 : Int) (x5 x6 : List Int) (x7 : Int) (x8 x9 : List (List Int)) (x10 x11 : Int) (x12 : Nat) (x13 : List (List Int)) (x14 x15 : Int) (x16 : Nat) (x17 : List Int) : gen_Boardl5r (f + 1) x0 x1 x2 x3 x4 x5 x6 x7 x8 x9 x10 x11 x12 x13 x14 x15 x16 x17 = gen_Boardl5s (gen_Boardl5r f) x0 x1 x2 x3 x4 x5 x6 x7 x8 x9 x10 x11 x12 x13 x14 x15 x16 x17 := by kernel_rfl
theorem gen_Boardl5_eq : ∀ f, gen_Boardl5r f = gen_Boardl5 f
 | 0 => rfl
 | f + 1 => by funext x0 x1 x2 x3 x4 x5 x6 x7 x8 x9 x10 x11 x12 x13 x14 x15 x16 x17; rw [gen_Boardl5_step, gen_Boardl5_eq f]; rfl
theorem gen_Boards9 : LoopSound Tryz.prog gen_Boardc 1 (loopOf Tryz.f43 9) :=
 loopSound_by mixed gen_Boardc_ok (AllP.of (l' := []) (by kernel_rfl) trivial) (q := 9) (kin := [0, 3, 5, 6, 7, 9, 10, 29, 30, 31, 51, 52, 53]) (kout := [0, 3, 5, 6, 7, 29, 30, 31]) (by kernel_rfl) (by kernel_rfl) fun vs objs K r h => by
  replace h : gen_Boardp9 vs objs K = some r := h
  unfold gen_Boardp9 at h
  split at h
  ·skip
   obtain ⟨t, h1, h2⟩ := ob_ok h
   rw [← gen_Boardl9_eq] at h1
   refine ⟨_, gen_Boardl9d, t, many, h1, fun e vs' objs' hd => ?_⟩
   unfold gen_Boardl9d at hd
   split at hd
   ·skip
    cases hd
    exact h2
   ·cases hd
  ·cases h
theorem gen_Boards5 : LoopSound Tryz.prog gen_Boardc 1 (loopOf Tryz.f43 5) :=
 loopSound_by mixed gen_Boardc_ok (AllP.of (l' := [loopOf Tryz.f43 9]) (by kernel_rfl) ⟨gen_Boards9, trivial⟩) (q := 5) (kin := [0, 3, 5, 6, 7, 29, 30, 31]) (kout := [5]) (by kernel_rfl) (by kernel_rfl) fun vs objs K r h => by
  replace h : gen_Boardp5 vs objs K = some r := h
  unfold gen_Boardp5 at h
  split at h
  ·skip
   obtain ⟨t, h1, h2⟩ := ob_ok h
   rw [← gen_Boardl5_eq] at h1
   refine ⟨_, gen_Boardl5d, t, many, h1, fun e vs' objs' hd => ?_⟩
   unfold gen_Boardl5d at hd
   split at hd
   ·skip
    cases hd
    exact h2
   ·cases hd
  ·cases h
noncomputable def gen_Boardd : V → List Obj → Option (Nat × Nat × List (List Int)) := fun v objs => match v, objs with
 | .s (.sl 1 0 y0 true), [.sli 39 false (.rows [.i .i64, .i .i64, .i .i64, .b] y1 y2)] => some (y0, y1, y2)
 | _, _ => none
theorem gen_Board_eq (x0 x1 : Int) (x2 x3 : List Int) (x4 : Int) (x5 x6 : List (List Int)) : fnE gen_Boardc Tryz.f43 ([.s (.ptr 0 0 none 0), .agg [.one [.i .u64 x0, .i .u64 x1]]]) ([.rcells 56 [.arr .i8 81 x2, .arr .i8 16 x3, .one [.i .i8 x4], .rows [.i .u64, .i .u64] 32 x5, .rows [.i .u64, .i .u64] 2 x6]]) (pureD 1 gen_Boardd) = gen_Board x0 x1 x2 x3 x4 x5 x6 := by kernel_rfl
noncomputable def gen_Boarda {R : Type} (o : Orc) (vs : List V) (objs : List Obj) (K : Bool → V → List Obj → Option R) : Option R := match vs, List.map Obj.toRO objs with
 | [.s (.ptr 0 0 none 0), .agg [.one [.i .u64 x0, .i .u64 x1]]], [.rcells 56 [.arr .i8 81 x2, .arr .i8 16 x3, .one [.i .i8 x4], .rows [.i .u64, .i .u64] 32 x5, .rows [.i .u64, .i .u64] 2 x6]] => ob (gen_Board x0 x1 x2 x3 x4 x5 x6) fun z => K true (.s (.sl 1 0 (z.1) true)) ([.sli 39 false (.rows [.i .i64, .i .i64, .i .i64, .b] (z.2.1) (z.2.2))])
 | _, _ => o 43 vs objs K
noncomputable def gen_Boardo (o : Orc) : Orc := hook 43 (gen_Boarda o) o
theorem gen_Boardo_ok (o : Orc) (ho : OSound Tryz.prog o) : OSound Tryz.prog (gen_Boardo o) := hook_ok ho fun vs objs K r h => by
 unfold gen_Boarda at h
 split at h
 ·skip
  have hq : List.map Obj.toRO objs = _ := (by rename_i hq; first | exact hq | assumption)
  obtain ⟨t, h1, h2⟩ := ob_ok h
  refine purOK_by mixed gen_Boardc_ok (m := 1) (fn := Tryz.f43) (b := (Tryz.f43).body.getD .skip) (by kernel_rfl) (by kernel_rfl) (by kernel_rfl) hq (by kernel_rfl) (by kernel_rfl) (AllP.of (l' := [loopOf Tryz.f43 5]) (by kernel_rfl) ⟨gen_Boards5, trivial⟩) ((gen_Board_eq _ _ _ _ _ _ _).trans h1) fun v objs' hd => ?_
  unfold gen_Boardd at hd
  split at hd
  ·skip
   cases hd
   exact h2
  ·cases hd
 ·exact ho _ _ _ _ _ h
noncomputable def legal_state_boardc : Ctx := mkC 49 ((set_Haso (set_Emptyo (attack_Ono (set_Withouto (board_Takeno oNil)))))) [] lpNil
theorem legal_state_boardc_ok : CtxOK Tryz.prog legal_state_boardc := mkC_ok ((set_Haso_ok _ (set_Emptyo_ok _ (attack_Ono_ok _ (set_Withouto_ok _ (board_Takeno_ok _ oNil_ok))))))
noncomputable def legal_state_boardd : V → List Obj → Option (Bool × List Int × List Int × Int × List (List Int) × List (List Int) × List (List Int × List Int)) := fun v objs => match v, objs with
 | .s (.b y0), [.cells 56 [.arr .i8 81 y1, .arr .i8 16 y2, .one [.i .i8 y3], .rows [.i .u64, .i .u64] 32 y4, .rows [.i .u64, .i .u64] 2 y5], .map false true [.i .i64] [.i .u64, .i .u64] y6] => some (y0, y1, y2, y3, y4, y5, y6)
 | _, _ => none
theorem legal_state_board_eq (x0 x1 : Int) (x2 x3 : Int) (x4 : Bool) (x5 x6 x7 : Int) (x8 : Bool) (x9 x10 : List Int) (x11 : Int) (x12 x13 : List (List Int)) (x14 : List (List Int × List Int)) : fnE legal_state_boardc Tryz.f45 ([.agg [.one [.ptr 0 0 none 0, .i .i64 x0, .i .i64 x1, .i .u64 x2, .i .u64 x3, .mp 1, .b x4]], .agg [.one [.i .i64 x5, .i .i64 x6, .i .i64 x7, .b x8]]]) ([.cells 56 [.arr .i8 81 x9, .arr .i8 16 x10, .one [.i .i8 x11], .rows [.i .u64, .i .u64] 32 x12, .rows [.i .u64, .i .u64] 2 x13], .map false true [.i .i64] [.i .u64, .i .u64] x14]) legal_state_boardd = legal_state_board x0 x1 x2 x3 x4 x5 x6 x7 x8 x9 x10 x11 x12 x13 x14 := by kernel_rfl
noncomputable def legal_state_boarda {R : Type} (o : Orc) (vs : List V) (objs : List Obj) (K : Bool → V → List Obj → Option R) : Option R := match vs, objs with
 | [.agg [.one [.ptr 0 0 none 0, .i .i64 x0, .i .i64 x1, .i .u64 x2, .i .u64 x3, .mp 1, .b x4]], .agg [.one [.i .i64 x5, .i .i64 x6, .i .i64 x7, .b x8]]], [.cells 56 [.arr .i8 81 x9, .arr .i8 16 x10, .one [.i .i8 x11], .rows [.i .u64, .i .u64] 32 x12, .rows [.i .u64, .i .u64] 2 x13], .map false true [.i .i64] [.i .u64, .i .u64] x14] => ob (legal_state_board x0 x1 x2 x3 x4 x5 x6 x7 x8 x9 x10 x11 x12 x13 x14) fun z => K false (.s (.b (z.1))) ([.cells 56 [.arr .i8 81 (z.2.1), .arr .i8 16 (z.2.2.1), .one [.i .i8 (z.2.2.2.1)], .rows [.i .u64, .i .u64] 32 (z.2.2.2.2.1), .rows [.i .u64, .i .u64] 2 (z.2.2.2.2.2.1)], .map false true [.i .i64] [.i .u64, .i .u64] (z.2.2.2.2.2.2)])
 | _, _ => o 45 vs objs K
noncomputable def legal_state_boardo (o : Orc) : Orc := hook 45 (legal_state_boarda o) o
theorem legal_state_boardo_ok (o : Orc) (ho : OSound Tryz.prog o) : OSound Tryz.prog (legal_state_boardo o) := hook_ok ho fun vs objs K r h => by
 unfold legal_state_boarda at h
 split at h
 ·skip
  obtain ⟨t, h1, h2⟩ := ob_ok h
  refine anyOK_of mixed legal_state_boardc_ok (fn := Tryz.f45) (b := (Tryz.f45).body.getD .skip) (by kernel_rfl) (by kernel_rfl) (by kernel_rfl) ((legal_state_board_eq _ _ _ _ _ _ _ _ _ _ _ _ _ _ _).trans h1) (m := 2) rfl (AllP.of (l' := []) (by kernel_rfl) trivial) fun v objs' hd => ?_
  unfold legal_state_boardd at hd
  split at hd
  ·skip
   cases hd
   exact h2
  ·cases hd
 ·exact ho _ _ _ _ _ h
noncomputable def board_Handc : Ctx := mkC 31 (oNil) [] lpNil
theorem board_Handc_ok : CtxOK Tryz.prog board_Handc := mkC_ok (oNil_ok)
noncomputable def board_Handd : V → List Obj → Option (Int) := fun v objs => match v, objs with
 | .s (.i .i64 y0), [] => some (y0)
 | _, _ => none
theorem board_Hand_eq (x0 x1 : Int) (x2 x3 : List Int) (x4 : Int) (x5 x6 : List (List Int)) : fnE board_Handc Tryz.f96 ([.s (.ptr 0 0 none 0), .s (.i .i64 x0), .s (.i .i64 x1)]) ([.rcells 56 [.arr .i8 81 x2, .arr .i8 16 x3, .one [.i .i8 x4], .rows [.i .u64, .i .u64] 32 x5, .rows [.i .u64, .i .u64] 2 x6]]) (pureD 1 board_Handd) = board_Hand x0 x1 x2 x3 x4 x5 x6 := by kernel_rfl
noncomputable def board_Handa {R : Type} (o : Orc) (vs : List V) (objs : List Obj) (K : Bool → V → List Obj → Option R) : Option R := match vs, List.map Obj.toRO objs with
 | [.s (.ptr 0 0 none 0), .s (.i .i64 x0), .s (.i .i64 x1)], [.rcells 56 [.arr .i8 81 x2, .arr .i8 16 x3, .one [.i .i8 x4], .rows [.i .u64, .i .u64] 32 x5, .rows [.i .u64, .i .u64] 2 x6]] => ob (board_Hand x0 x1 x2 x3 x4 x5 x6) fun y0 => K true (.s (.i .i64 y0)) ([])
 | _, _ => o 96 vs objs K
noncomputable def board_Hando (o : Orc) : Orc := hook 96 (board_Handa o) o
theorem board_Hando_ok (o : Orc) (ho : OSound Tryz.prog o) : OSound Tryz.prog (board_Hando o) := hook_ok ho fun vs objs K r h => by
 unfold board_Handa at h
 split at h
 ·skip
  have hq : List.map Obj.toRO objs = _ := (by rename_i hq; first | exact hq | assumption)
  obtain ⟨t, h1, h2⟩ := ob_ok h
  refine purOK_by mixed board_Handc_ok (m := 1) (fn := Tryz.f96) (b := (Tryz.f96).body.getD .skip) (by kernel_rfl) (by kernel_rfl) (by kernel_rfl) hq (by kernel_rfl) (by kernel_rfl) (AllP.of (l' := []) (by kernel_rfl) trivial) ((board_Hand_eq _ _ _ _ _ _ _).trans h1) fun v objs' hd => ?_
  unfold board_Handd at hd
  split at hd
  ·skip
   cases hd
   exact h2
  ·cases hd
 ·exact ho _ _ _ _ _ h
noncomputable def set_Notc : Ctx := mkC 6 ((set_Minuso (set_Allo oNil))) [] lpNil
theorem set_Notc_ok : CtxOK Tryz.prog set_Notc := mkC_ok ((set_Minuso_ok _ (set_Allo_ok _ oNil_ok)))
noncomputable def set_Notd : V → List Obj → Option (Int × Int) := fun v objs => match v, objs with
 | .agg [.one [.i .u64 y0, .i .u64 y1]], [] => some (y0, y1)
 | _, _ => none
theorem set_Not_eq (x0 x1 : Int) : fnE set_Notc Tryz.f119 ([.agg [.one [.i .u64 x0, .i .u64 x1]]]) ([]) set_Notd = set_Not x0 x1 := by kernel_rfl
noncomputable def set_Nota {R : Type} (o : Orc) (vs : List V) (objs : List Obj) (K : Bool → V → List Obj → Option R) : Option R := match vs, objs with
 | [.agg [.one [.i .u64 x0, .i .u64 x1]]], [] => ob (set_Not x0 x1) fun z => K false (.agg [.one [.i .u64 (z.1), .i .u64 (z.2)]]) ([])
 | _, _ => o 119 vs objs K
noncomputable def set_Noto (o : Orc) : Orc := hook 119 (set_Nota o) o
theorem set_Noto_ok (o : Orc) (ho : OSound Tryz.prog o) : OSound Tryz.prog (set_Noto o) := hook_ok ho fun vs objs K r h => by
 unfold set_Nota at h
 split at h
 ·skip
  obtain ⟨t, h1, h2⟩ := ob_ok h
  refine anyOK_of mixed set_Notc_ok (fn := Tryz.f119) (b := (Tryz.f119).body.getD .skip) (by kernel_rfl) (by kernel_rfl) (by kernel_rfl) ((set_Not_eq _ _).trans h1) (m := 0) rfl (AllP.of (l' := []) (by kernel_rfl) trivial) fun v objs' hd => ?_
  unfold set_Notd at hd
  split at hd
  ·skip
   cases hd
   exact h2
  ·cases hd
 ·exact ho _ _ _ _ _ h
noncomputable def set_InFilel3d : Ex → List V → List Obj → Option (Int × Int × Int × Int) := fun e vs objs => match e, vs, objs with
 | .exit 0, [.s (.ptr 0 0 none 0), .s (.ptr 1 0 none 0)], [.cells 52 [.one [.i .u64 y0, .i .u64 y1]], .cells 52 [.one [.i .u64 y2, .i .u64 y3]]] => some (y0, y1, y2, y3)
 | _, _, _ => none
noncomputable def set_InFilep3 {R : Type} (vs : List V) (objs : List Obj) (K : Ex → List V → List Obj → Option R) : Option R := match vs, objs with
 | [.s (.i .i64 x0), .s (.ptr 0 0 none 0), .s (.ptr 1 0 none 0), .s (.i .i64 x1)], [.cells 52 [.one [.i .u64 x2, .i .u64 x3]], .cells 52 [.one [.i .u64 x4, .i .u64 x5]]] => ob (set_InFilel3 many x0 x1 x2 x3 x4 x5) fun z => K (.exit 0) ([.s (.ptr 0 0 none 0), .s (.ptr 1 0 none 0)]) ([.cells 52 [.one [.i .u64 (z.1), .i .u64 (z.2.1)]], .cells 52 [.one [.i .u64 (z.2.2.1), .i .u64 (z.2.2.2)]]])
 | _, _ => none
noncomputable def set_InFilelp : {R : Type} → Nat → List V → List Obj → (Ex → List V → List Obj → Option R) → Option R := fun q vs objs K => bif Nat.beq q 3 then set_InFilep3 vs objs K else none
noncomputable def set_InFilec : Ctx := mkC 15 ((set_Witho (set_Squareo oNil))) [(3, [0, 2, 3, 5], [2, 3])] set_InFilelp
theorem set_InFilec_ok : CtxOK Tryz.prog set_InFilec := mkC_ok ((set_Witho_ok _ (set_Squareo_ok _ oNil_ok)))
noncomputable def set_InFilel3r (f : Nat) (x0 x1 : Int) (x2 x3 : Int) (x4 x5 : Int) : Option (Int × Int × Int × Int) := lrun set_InFilec 0 [0, 2, 3, 5] [2, 3] (loopOf Tryz.f120 3) f ([.s (.i .i64 x0), .s (.ptr 0 0 none 0), .s (.ptr 1 0 none 0), .s (.i .i64 x1)]) ([.cells 52 [.one [.i .u64 x2, .i .u64 x3]], .cells 52 [.one [.i .u64 x4, .i .u64 x5]]]) set_InFilel3d
theorem set_InFilel3_step (f : Nat) (x0 x1 : Int) (x2 x3 : Int) (x4 x5 : Int) : set_InFilel3r (f + 1) x0 x1 x2 x3 x4 x5 = set_InFilel3s (set_InFilel3r f) x0 x1 x2 x3 x4 x5 := by kernel_rfl
theorem set_InFilel3_eq : ∀ f, set_InFilel3r f = set_InFilel3 f
 | 0 => rfl
 | f + 1 => by funext x0 x1 x2 x3 x4 x5; rw [set_InFilel3_step, set_InFilel3_eq f]; rfl
theorem set_InFiles3 : LoopSound Tryz.prog set_InFilec 0 (loopOf Tryz.f120 3) :=
 loopSound_by mixed set_InFilec_ok (AllP.of (l' := []) (by kernel_rfl) trivial) (q := 3) (kin := [0, 2, 3, 5]) (kout := [2, 3]) (by kernel_rfl) (by kernel_rfl) fun vs objs K r h => by
  replace h : set_InFilep3 vs objs K = some r := h
  unfold set_InFilep3 at h
  split at h
  ·skip
   obtain ⟨t, h1, h2⟩ := ob_ok h
   rw [← set_InFilel3_eq] at h1
   refine ⟨_, set_InFilel3d, t, many, h1, fun e vs' objs' hd => ?_⟩
   unfold set_InFilel3d at hd
   split at hd
   ·skip
    cases hd
    exact h2
   ·cases hd
  ·cases h
noncomputable def set_InFiled : V → List Obj → Option (Int × Int) := fun v objs => match v, objs with
 | .agg [.one [.i .u64 y0, .i .u64 y1]], [] => some (y0, y1)
 | _, _ => none
theorem set_InFile_eq (x0 : Int) : fnE set_InFilec Tryz.f120 ([.s (.i .i64 x0)]) ([]) set_InFiled = set_InFile x0 := by kernel_rfl
noncomputable def set_InFilea {R : Type} (o : Orc) (vs : List V) (objs : List Obj) (K : Bool → V → List Obj → Option R) : Option R := match vs, objs with
 | [.s (.i .i64 x0)], [] => ob (set_InFile x0) fun z => K false (.agg [.one [.i .u64 (z.1), .i .u64 (z.2)]]) ([])
 | _, _ => o 120 vs objs K
noncomputable def set_InFileo (o : Orc) : Orc := hook 120 (set_InFilea o) o
theorem set_InFileo_ok (o : Orc) (ho : OSound Tryz.prog o) : OSound Tryz.prog (set_InFileo o) := hook_ok ho fun vs objs K r h => by
 unfold set_InFilea at h
 split at h
 ·skip
  obtain ⟨t, h1, h2⟩ := ob_ok h
  refine anyOK_of mixed set_InFilec_ok (fn := Tryz.f120) (b := (Tryz.f120).body.getD .skip) (by kernel_rfl) (by kernel_rfl) (by kernel_rfl) ((set_InFile_eq _).trans h1) (m := 0) rfl (AllP.of (l' := [loopOf Tryz.f120 3]) (by kernel_rfl) ⟨set_InFiles3, trivial⟩) fun v objs' hd => ?_
  unfold set_InFiled at hd
  split at hd
  ·skip
   cases hd
   exact h2
  ·cases hd
 ·exact ho _ _ _ _ _ h
noncomputable def gen_Freel6d : Ex → List V → List Obj → Option (List Int × List Int × Int × List (List Int) × List (List Int) × Int × Int × Int × Int) := fun e vs objs => match e, vs, objs with
 | .exit 0, [.s (.ptr 1 0 none 0), .s (.ptr 2 0 none 0)], [.rcells 56 [.arr .i8 81 y0, .arr .i8 16 y1, .one [.i .i8 y2], .rows [.i .u64, .i .u64] 32 y3, .rows [.i .u64, .i .u64] 2 y4], .cells 52 [.one [.i .u64 y5, .i .u64 y6]], .cells 52 [.one [.i .u64 y7, .i .u64 y8]]] => some (y0, y1, y2, y3, y4, y5, y6, y7, y8)
 | _, _, _ => none
noncomputable def gen_Freep6 {R : Type} (vs : List V) (objs : List Obj) (K : Ex → List V → List Obj → Option R) : Option R := match vs, objs with
 | [.s (.ptr 0 0 none 0), .s (.i .i64 x0), .s (.i .i64 x1), .s (.ptr 1 0 none 0), .s (.i .i8 x2), .s (.ptr 2 0 none 0), .s (.sl 3 0 x3 true), .s (.i .i64 x4), .s (.i .i64 x5)], [.rcells 56 [.arr .i8 81 x6, .arr .i8 16 x7, .one [.i .i8 x8], .rows [.i .u64, .i .u64] 32 x9, .rows [.i .u64, .i .u64] 2 x10], .cells 52 [.one [.i .u64 x11, .i .u64 x12]], .cells 52 [.one [.i .u64 x13, .i .u64 x14]], .sli 3 false (.arr .i64 x15 x16)] => ob (gen_Freel6 many x0 x1 x2 x3 x4 x5 x6 x7 x8 x9 x10 x11 x12 x13 x14 x15 x16) fun z => K (.exit 0) ([.s (.ptr 1 0 none 0), .s (.ptr 2 0 none 0)]) ([.rcells 56 [.arr .i8 81 (z.1), .arr .i8 16 (z.2.1), .one [.i .i8 (z.2.2.1)], .rows [.i .u64, .i .u64] 32 (z.2.2.2.1), .rows [.i .u64, .i .u64] 2 (z.2.2.2.2.1)], .cells 52 [.one [.i .u64 (z.2.2.2.2.2.1), .i .u64 (z.2.2.2.2.2.2.1)]], .cells 52 [.one [.i .u64 (z.2.2.2.2.2.2.2.1), .i .u64 (z.2.2.2.2.2.2.2.2)]]])
 | _, _ => none
noncomputable def gen_Freelp : {R : Type} → Nat → List V → List Obj → (Ex → List V → List Obj → Option R) → Option R := fun q vs objs K => bif Nat.beq q 6 then gen_Freep6 vs objs K else none
noncomputable def gen_Freec : Ctx := mkC 53 ((set_Witho (set_Emptyo (set_Ando (set_InFileo (set_Fileo (board_Ofo (step_Deado (set_Squareso (set_Noto (board_Takeno (piece_Ofo oNil)))))))))))) [(6, [0, 1, 2, 6, 7, 8, 24, 25, 26], [6, 8])] gen_Freelp
theorem gen_Freec_ok : CtxOK Tryz.prog gen_Freec := mkC_ok ((set_Witho_ok _ (set_Emptyo_ok _ (set_Ando_ok _ (set_InFileo_ok _ (set_Fileo_ok _ (board_Ofo_ok _ (step_Deado_ok _ (set_Squareso_ok _ (set_Noto_ok _ (board_Takeno_ok _ (piece_Ofo_ok _ oNil_ok))))))))))))
noncomputable def gen_Freel6r (f : Nat) (x0 x1 x2 : Int) (x3 : Nat) (x4 x5 : Int) (x6 x7 : List Int) (x8 : Int) (x9 x10 : List (List Int)) (x11 x12 : Int) (x13 x14 : Int) (x15 : Nat) (x16 : List Int) : Option (List Int × List Int × Int × List (List Int) × List (List Int) × Int × Int × Int × Int) := lrun gen_Freec 1 [0, 1, 2, 6, 7, 8, 24, 25, 26] [6, 8] (loopOf Tryz.f97 6) f ([.s (.ptr 0 0 none 0), .s (.i .i64 x0), .s (.i .i64 x1), .s (.ptr 1 0 none 0), .s (.i .i8 x2), .s (.ptr 2 0 none 0), .s (.sl 3 0 x3 true), .s (.i .i64 x4), .s (.i .i64 x5)]) ([.rcells 56 [.arr .i8 81 x6, .arr .i8 16 x7, .one [.i .i8 x8], .rows [.i .u64, .i .u64] 32 x9, .rows [.i .u64, .i .u64] 2 x10], .cells 52 [.one [.i .u64 x11, .i .u64 x12]], .cells 52 [.one [.i .u64 x13, .i .u64 x14]], .sli 3 false (.arr .i64 x15 x16)]) gen_Freel6d
theorem gen_Freel6_step (f : Nat) (x0 x1 x2 : Int) (x3 : Nat) (x4 x5 : Int) (x6 x7 : List Int) (x8 : Int) (x9 x10 : List (List Int)) (x11 x12 : Int) (x13 x14 : Int) (x15 : Nat) (x16 : List Int) : gen_Freel6r (f + 1) x0 x1 x2 x3 x4 x5 x6 x7 x8 x9 x10 x11 x12 x13 x14 x15 x16 = gen_Freel6s (gen_Freel6r f) x0 x1 x2 x3 x4 x5 x6 x7 x8 x9 x10 x11 x12 x13 x14 x15 x16 := by kernel_rfl
theorem gen_Freel6_eq : ∀ f, gen_Freel6r f = gen_Freel6 f
 | 0 => rfl
 | f + 1 => by funext x0 x1 x2 x3 x4 x5 x6 x7 x8 x9 x10 x11 x12 x13 x14 x15 x16; rw [gen_Freel6_step, gen_Freel6_eq f]; rfl
theorem gen_Frees6 : LoopSound Tryz.prog gen_Freec 1 (loopOf Tryz.f97 6) :=
 loopSound_by mixed gen_Freec_ok (AllP.of (l' := []) (by kernel_rfl) trivial) (q := 6) (kin := [0, 1, 2, 6, 7, 8, 24, 25, 26]) (kout := [6, 8]) (by kernel_rfl) (by kernel_rfl) fun vs objs K r h => by
  replace h : gen_Freep6 vs objs K = some r := h
  unfold gen_Freep6 at h
  split at h
  ·skip
   obtain ⟨t, h1, h2⟩ := ob_ok h
   rw [← gen_Freel6_eq] at h1
   refine ⟨_, gen_Freel6d, t, many, h1, fun e vs' objs' hd => ?_⟩
   unfold gen_Freel6d at hd
   split at hd
   ·skip
    cases hd
    exact h2
   ·cases hd
  ·cases h
noncomputable def gen_Freed : V → List Obj → Option (Int × Int) := fun v objs => match v, objs with
 | .agg [.one [.i .u64 y0, .i .u64 y1]], [] => some (y0, y1)
 | _, _ => none
theorem gen_Free_eq (x0 x1 : Int) (x2 x3 : List Int) (x4 : Int) (x5 x6 : List (List Int)) : fnE gen_Freec Tryz.f97 ([.s (.ptr 0 0 none 0), .s (.i .i64 x0), .s (.i .i64 x1)]) ([.rcells 56 [.arr .i8 81 x2, .arr .i8 16 x3, .one [.i .i8 x4], .rows [.i .u64, .i .u64] 32 x5, .rows [.i .u64, .i .u64] 2 x6]]) (pureD 1 gen_Freed) = gen_Free x0 x1 x2 x3 x4 x5 x6 := by kernel_rfl
noncomputable def gen_Freea {R : Type} (o : Orc) (vs : List V) (objs : List Obj) (K : Bool → V → List Obj → Option R) : Option R := match vs, List.map Obj.toRO objs with
 | [.s (.ptr 0 0 none 0), .s (.i .i64 x0), .s (.i .i64 x1)], [.rcells 56 [.arr .i8 81 x2, .arr .i8 16 x3, .one [.i .i8 x4], .rows [.i .u64, .i .u64] 32 x5, .rows [.i .u64, .i .u64] 2 x6]] => ob (gen_Free x0 x1 x2 x3 x4 x5 x6) fun z => K true (.agg [.one [.i .u64 (z.1), .i .u64 (z.2)]]) ([])
 | _, _ => o 97 vs objs K
noncomputable def gen_Freeo (o : Orc) : Orc := hook 97 (gen_Freea o) o
theorem gen_Freeo_ok (o : Orc) (ho : OSound Tryz.prog o) : OSound Tryz.prog (gen_Freeo o) := hook_ok ho fun vs objs K r h => by
 unfold gen_Freea at h
 split at h
 ·skip
  have hq : List.map Obj.toRO objs = _ := (by rename_i hq; first | exact hq | assumption)
  obtain ⟨t, h1, h2⟩ := ob_ok h
  refine purOK_by mixed gen_Freec_ok (m := 1) (fn := Tryz.f97) (b := (Tryz.f97).body.getD .skip) (by kernel_rfl) (by kernel_rfl) (by kernel_rfl) hq (by kernel_rfl) (by kernel_rfl) (AllP.of (l' := [loopOf Tryz.f97 6]) (by kernel_rfl) ⟨gen_Frees6, trivial⟩) ((gen_Free_eq _ _ _ _ _ _ _).trans h1) fun v objs' hd => ?_
  unfold gen_Freed at hd
  split at hd
  ·skip
   cases hd
   exact h2
  ·cases hd
 ·exact ho _ _ _ _ _ h
noncomputable def gen_Dropsl8d : Ex → List V → List Obj → Option (Nat × Int × Int × List Int × List Int × Int × List (List Int) × List (List Int) × Int × Int × Nat × List (List Int)) := fun e vs objs => match e, vs, objs with
 | .exit 2, [.s (.ptr 0 0 none 0), .s (.ptr 1 0 none 0), .s (.sl 2 0 y0 true), .s (.i .i64 y1), .s (.i .i64 y2)], [.rcells 56 [.arr .i8 81 y3, .arr .i8 16 y4, .one [.i .i8 y5], .rows [.i .u64, .i .u64] 32 y6, .rows [.i .u64, .i .u64] 2 y7], .cells 52 [.one [.i .u64 y8, .i .u64 y9]], .sli 39 false (.rows [.i .i64, .i .i64, .i .i64, .b] y10 y11)] => some (y0, y1, y2, y3, y4, y5, y6, y7, y8, y9, y10, y11)
 | _, _, _ => none
noncomputable def gen_Dropsl4d : Ex → List V → List Obj → Option (Nat × List Int × List Int × Int × List (List Int) × List (List Int) × Nat × List (List Int)) := fun e vs objs => match e, vs, objs with
 | .exit 0, [.s (.sl 1 0 y0 true)], [.rcells 56 [.arr .i8 81 y1, .arr .i8 16 y2, .one [.i .i8 y3], .rows [.i .u64, .i .u64] 32 y4, .rows [.i .u64, .i .u64] 2 y5], .sli 39 false (.rows [.i .i64, .i .i64, .i .i64, .b] y6 y7)] => some (y0, y1, y2, y3, y4, y5, y6, y7)
 | _, _, _ => none
noncomputable def gen_Dropsp8 {R : Type} (vs : List V) (objs : List Obj) (K : Ex → List V → List Obj → Option R) : Option R := match vs, objs with
 | [.s (.ptr 0 0 none 0), .s (.ptr 1 0 none 0), .s (.sl 2 0 x0 true), .s (.i .i64 x1), .s (.i .i64 x2), .s (.sl 3 0 x3 true), .s (.i .i64 x4), .s (.i .i64 x5)], [.rcells 56 [.arr .i8 81 x6, .arr .i8 16 x7, .one [.i .i8 x8], .rows [.i .u64, .i .u64] 32 x9, .rows [.i .u64, .i .u64] 2 x10], .cells 52 [.one [.i .u64 x11, .i .u64 x12]], .sli 39 false (.rows [.i .i64, .i .i64, .i .i64, .b] x13 x14), .sli 3 false (.arr .i64 x15 x16)] => ob (gen_Dropsl8 many x0 x1 x2 x3 x4 x5 x6 x7 x8 x9 x10 x11 x12 x13 x14 x15 x16) fun z => K (.exit 2) ([.s (.ptr 0 0 none 0), .s (.ptr 1 0 none 0), .s (.sl 2 0 (z.1) true), .s (.i .i64 (z.2.1)), .s (.i .i64 (z.2.2.1))]) ([.rcells 56 [.arr .i8 81 (z.2.2.2.1), .arr .i8 16 (z.2.2.2.2.1), .one [.i .i8 (z.2.2.2.2.2.1)], .rows [.i .u64, .i .u64] 32 (z.2.2.2.2.2.2.1), .rows [.i .u64, .i .u64] 2 (z.2.2.2.2.2.2.2.1)], .cells 52 [.one [.i .u64 (z.2.2.2.2.2.2.2.2.1), .i .u64 (z.2.2.2.2.2.2.2.2.2.1)]], .sli 39 false (.rows [.i .i64, .i .i64, .i .i64, .b] (z.2.2.2.2.2.2.2.2.2.2.1) (z.2.2.2.2.2.2.2.2.2.2.2))])
 | _, _ => none
noncomputable def gen_Dropsp4 {R : Type} (vs : List V) (objs : List Obj) (K : Ex → List V → List Obj → Option R) : Option R := match vs, objs with
 | [.s (.ptr 0 0 none 0), .s (.ptr 1 0 none 0), .s (.sl 2 0 x0 true), .s (.i .i64 x1), .s (.i .i64 x2)], [.rcells 56 [.arr .i8 81 x3, .arr .i8 16 x4, .one [.i .i8 x5], .rows [.i .u64, .i .u64] 32 x6, .rows [.i .u64, .i .u64] 2 x7], .cells 52 [.one [.i .u64 x8, .i .u64 x9]], .sli 39 false (.rows [.i .i64, .i .i64, .i .i64, .b] x10 x11)] => ob (gen_Dropsl4 many x0 x1 x2 x3 x4 x5 x6 x7 x8 x9 x10 x11) fun z => K (.exit 0) ([.s (.sl 1 0 (z.1) true)]) ([.rcells 56 [.arr .i8 81 (z.2.1), .arr .i8 16 (z.2.2.1), .one [.i .i8 (z.2.2.2.1)], .rows [.i .u64, .i .u64] 32 (z.2.2.2.2.1), .rows [.i .u64, .i .u64] 2 (z.2.2.2.2.2.1)], .sli 39 false (.rows [.i .i64, .i .i64, .i .i64, .b] (z.2.2.2.2.2.2.1) (z.2.2.2.2.2.2.2))])
 | _, _ => none
noncomputable def gen_Dropslp : {R : Type} → Nat → List V → List Obj → (Ex → List V → List Obj → Option R) → Option R := fun q vs objs K => bif Nat.beq q 8 then gen_Dropsp8 vs objs K else bif Nat.beq q 4 then gen_Dropsp4 vs objs K else none
noncomputable def gen_Dropsc : Ctx := mkC 45 ((set_Squareso (set_Ando (gen_Freeo (board_Hando oNil))))) [(4, [0, 3, 5, 6, 7], [5]), (8, [0, 3, 5, 6, 7, 31, 32, 33], [0, 3, 5, 6, 7])] gen_Dropslp
theorem gen_Dropsc_ok : CtxOK Tryz.prog gen_Dropsc := mkC_ok ((set_Squareso_ok _ (set_Ando_ok _ (gen_Freeo_ok _ (board_Hando_ok _ oNil_ok)))))
noncomputable def gen_Dropsl8r (f : Nat) (x0 : Nat) (x1 x2 : Int) (x3 : Nat) (x4 x5 : Int) (x6 x7 : List Int) (x8 : Int) (x9 x10 : List (List Int)) (x11 x12 : Int) (x13 : Nat) (x14 : List (List Int)) (x15 : Nat) (x16 : List Int) : Option (Nat × Int × Int × List Int × List Int × Int × List (List Int) × List (List Int) × Int × Int × Nat × List (List Int)) := lrun gen_Dropsc 1 [0, 3, 5, 6, 7, 31, 32, 33] [0, 3, 5, 6, 7] (loopOf Tryz.f46 8) f ([.s (.ptr 0 0 none 0), .s (.ptr 1 0 none 0), .s (.sl 2 0 x0 true), .s (.i .i64 x1), .s (.i .i64 x2), .s (.sl 3 0 x3 true), .s (.i .i64 x4), .s (.i .i64 x5)]) ([.rcells 56 [.arr .i8 81 x6, .arr .i8 16 x7, .one [.i .i8 x8], .rows [.i .u64, .i .u64] 32 x9, .rows [.i .u64, .i .u64] 2 x10], .cells 52 [.one [.i .u64 x11, .i .u64 x12]], .sli 39 false (.rows [.i .i64, .i .i64, .i .i64, .b] x13 x14), .sli 3 false (.arr .i64 x15 x16)]) gen_Dropsl8d
theorem gen_Dropsl8_step (f : Nat) (x0 : Nat) (x1 x2 : Int) (x3 : Nat) (x4 x5 : Int) (x6 x7 : List Int) (x8 : Int) (x9 x10 : List (List Int)) (x11 x12 : Int) (x13 : Nat) (x14 : List (List Int)) (x15 : Nat) (x16 : List Int) : gen_Dropsl8r (f + 1) x0 x1 x2 x3 x4 x5 x6 x7 x8 x9 x10 x11 x12 x13 x14 x15 x16 = gen_Dropsl8s (gen_Dropsl8r f) x0 x1 x2 x3 x4 x5 x6 x7 x8 x9 x10 x11 x12 x13 x14 x15 x16 := by kernel_rfl
theorem gen_Dropsl8_eq : ∀ f, gen_Dropsl8r f = gen_Dropsl8 f
 | 0 => rfl
 | f + 1 => by funext x0 x1 x2 x3 x4 x5 x6 x7 x8 x9 x10 x11 x12 x13 x14 x15 x16; rw [gen_Dropsl8_step, gen_Dropsl8_eq f]; rfl
noncomputable def gen_Dropsl4r (f : Nat) (x0 : Nat) (x1 x2 : Int) (x3 x4 : List Int) (x5 : Int) (x6 x7 : List (List Int)) (x8 x9 : Int) (x10 : Nat) (x11 : List (List Int)) : Option (Nat × List Int × List Int × Int × List (List Int) × List (List Int) × Nat × List (List Int)) := lrun gen_Dropsc 1 [0, 3, 5, 6, 7] [5] (loopOf Tryz.f46 4) f ([.s (.ptr 0 0 none 0), .s (.ptr 1 0 none 0), .s (.sl 2 0 x0 true), .s (.i .i64 x1), .s (.i .i64 x2)]) ([.rcells 56 [.arr .i8 81 x3, .arr .i8 16 x4, .one [.i .i8 x5], .rows [.i .u64, .i .u64] 32 x6, .rows [.i .u64, .i .u64] 2 x7], .cells 52 [.one [.i .u64 x8, .i .u64 x9]], .sli 39 false (.rows [.i .i64, .i .i64, .i .i64, .b] x10 x11)]) gen_Dropsl4d
theorem gen_Dropsl4_step (f : Nat) (x0 : Nat) (x1 x2 : Int) (x3 x4 : List Int) (x5 : Int) (x6 x7 : List (List Int)) (x8 x9 : Int) (x10 : Nat) (x11 : List (List Int)) : gen_Dropsl4r (f + 1) x0 x1 x2 x3 x4 x5 x6 x7 x8 x9 x10 x11 = gen_Dropsl4s (gen_Dropsl4r f) x0 x1 x2 x3 x4 x5 x6 x7 x8 x9 x10 x11 := by kernel_rfl
theorem gen_Dropsl4_eq : ∀ f, gen_Dropsl4r f = gen_Dropsl4 f
 | 0 => rfl
 | f + 1 => by funext x0 x1 x2 x3 x4 x5 x6 x7 x8 x9 x10 x11; rw [gen_Dropsl4_step, gen_Dropsl4_eq f]; rfl
theorem gen_Dropss8 : LoopSound Tryz.prog gen_Dropsc 1 (loopOf Tryz.f46 8) :=
 loopSound_by mixed gen_Dropsc_ok (AllP.of (l' := []) (by kernel_rfl) trivial) (q := 8) (kin := [0, 3, 5, 6, 7, 31, 32, 33]) (kout := [0, 3, 5, 6, 7]) (by kernel_rfl) (by kernel_rfl) fun vs objs K r h => by
  replace h : gen_Dropsp8 vs objs K = some r := h
  unfold gen_Dropsp8 at h
  split at h
  ·skip
   obtain ⟨t, h1, h2⟩ := ob_ok h
   rw [← gen_Dropsl8_eq] at h1
   refine ⟨_, gen_Dropsl8d, t, many, h1, fun e vs' objs' hd => ?_⟩
   unfold gen_Dropsl8d at hd
   split at hd
   ·skip
    cases hd
    exact h2
   ·cases hd
  ·cases h
theorem gen_Dropss4 : LoopSound Tryz.prog gen_Dropsc 1 (loopOf Tryz.f46 4) :=
 loopSound_by mixed gen_Dropsc_ok (AllP.of (l' := [loopOf Tryz.f46 8]) (by kernel_rfl) ⟨gen_Dropss8, trivial⟩) (q := 4) (kin := [0, 3, 5, 6, 7]) (kout := [5]) (by kernel_rfl) (by kernel_rfl) fun vs objs K r h => by
  replace h : gen_Dropsp4 vs objs K = some r := h
  unfold gen_Dropsp4 at h
  split at h
  ·skip
   obtain ⟨t, h1, h2⟩ := ob_ok h
   rw [← gen_Dropsl4_eq] at h1
   refine ⟨_, gen_Dropsl4d, t, many, h1, fun e vs' objs' hd => ?_⟩
   unfold gen_Dropsl4d at hd
   split at hd
   ·skip
    cases hd
    exact h2
   ·cases hd
  ·cases h
noncomputable def gen_Dropsd : V → List Obj → Option (Nat × Nat × List (List Int)) := fun v objs => match v, objs with
 | .s (.sl 1 0 y0 true), [.sli 39 false (.rows [.i .i64, .i .i64, .i .i64, .b] y1 y2)] => some (y0, y1, y2)
 | _, _ => none
theorem gen_Drops_eq (x0 x1 : Int) (x2 x3 : List Int) (x4 : Int) (x5 x6 : List (List Int)) : fnE gen_Dropsc Tryz.f46 ([.s (.ptr 0 0 none 0), .agg [.one [.i .u64 x0, .i .u64 x1]]]) ([.rcells 56 [.arr .i8 81 x2, .arr .i8 16 x3, .one [.i .i8 x4], .rows [.i .u64, .i .u64] 32 x5, .rows [.i .u64, .i .u64] 2 x6]]) (pureD 1 gen_Dropsd) = gen_Drops x0 x1 x2 x3 x4 x5 x6 := by kernel_rfl
noncomputable def gen_Dropsa {R : Type} (o : Orc) (vs : List V) (objs : List Obj) (K : Bool → V → List Obj → Option R) : Option R := match vs, List.map Obj.toRO objs with
 | [.s (.ptr 0 0 none 0), .agg [.one [.i .u64 x0, .i .u64 x1]]], [.rcells 56 [.arr .i8 81 x2, .arr .i8 16 x3, .one [.i .i8 x4], .rows [.i .u64, .i .u64] 32 x5, .rows [.i .u64, .i .u64] 2 x6]] => ob (gen_Drops x0 x1 x2 x3 x4 x5 x6) fun z => K true (.s (.sl 1 0 (z.1) true)) ([.sli 39 false (.rows [.i .i64, .i .i64, .i .i64, .b] (z.2.1) (z.2.2))])
 | _, _ => o 46 vs objs K
noncomputable def gen_Dropso (o : Orc) : Orc := hook 46 (gen_Dropsa o) o
theorem gen_Dropso_ok (o : Orc) (ho : OSound Tryz.prog o) : OSound Tryz.prog (gen_Dropso o) := hook_ok ho fun vs objs K r h => by
 unfold gen_Dropsa at h
 split at h
 ·skip
  have hq : List.map Obj.toRO objs = _ := (by rename_i hq; first | exact hq | assumption)
  obtain ⟨t, h1, h2⟩ := ob_ok h
  refine purOK_by mixed gen_Dropsc_ok (m := 1) (fn := Tryz.f46) (b := (Tryz.f46).body.getD .skip) (by kernel_rfl) (by kernel_rfl) (by kernel_rfl) hq (by kernel_rfl) (by kernel_rfl) (AllP.of (l' := [loopOf Tryz.f46 4]) (by kernel_rfl) ⟨gen_Dropss4, trivial⟩) ((gen_Drops_eq _ _ _ _ _ _ _).trans h1) fun v objs' hd => ?_
  unfold gen_Dropsd at hd
  split at hd
  ·skip
   cases hd
   exact h2
  ·cases hd
 ·exact ho _ _ _ _ _ h
noncomputable def board_Clonec : Ctx := mkC 7 (oNil) [] lpNil
theorem board_Clonec_ok : CtxOK Tryz.prog board_Clonec := mkC_ok (oNil_ok)
noncomputable def board_Cloned : V → List Obj → Option (List Int × List Int × Int × List (List Int) × List (List Int)) := fun v objs => match v, objs with
 | .s (.ptr 1 0 none 0), [.cells 56 [.arr .i8 81 y0, .arr .i8 16 y1, .one [.i .i8 y2], .rows [.i .u64, .i .u64] 32 y3, .rows [.i .u64, .i .u64] 2 y4]] => some (y0, y1, y2, y3, y4)
 | _, _ => none
theorem board_Clone_eq (x0 x1 : List Int) (x2 : Int) (x3 x4 : List (List Int)) : fnE board_Clonec Tryz.f98 ([.s (.ptr 0 0 none 0)]) ([.rcells 56 [.arr .i8 81 x0, .arr .i8 16 x1, .one [.i .i8 x2], .rows [.i .u64, .i .u64] 32 x3, .rows [.i .u64, .i .u64] 2 x4]]) (pureD 1 board_Cloned) = board_Clone x0 x1 x2 x3 x4 := by kernel_rfl
noncomputable def board_Clonea {R : Type} (o : Orc) (vs : List V) (objs : List Obj) (K : Bool → V → List Obj → Option R) : Option R := match vs, List.map Obj.toRO objs with
 | [.s (.ptr 0 0 none 0)], [.rcells 56 [.arr .i8 81 x0, .arr .i8 16 x1, .one [.i .i8 x2], .rows [.i .u64, .i .u64] 32 x3, .rows [.i .u64, .i .u64] 2 x4]] => ob (board_Clone x0 x1 x2 x3 x4) fun z => K true (.s (.ptr 1 0 none 0)) ([.cells 56 [.arr .i8 81 (z.1), .arr .i8 16 (z.2.1), .one [.i .i8 (z.2.2.1)], .rows [.i .u64, .i .u64] 32 (z.2.2.2.1), .rows [.i .u64, .i .u64] 2 (z.2.2.2.2)]])
 | _, _ => o 98 vs objs K
noncomputable def board_Cloneo (o : Orc) : Orc := hook 98 (board_Clonea o) o
theorem board_Cloneo_ok (o : Orc) (ho : OSound Tryz.prog o) : OSound Tryz.prog (board_Cloneo o) := hook_ok ho fun vs objs K r h => by
 unfold board_Clonea at h
 split at h
 ·skip
  have hq : List.map Obj.toRO objs = _ := (by rename_i hq; first | exact hq | assumption)
  obtain ⟨t, h1, h2⟩ := ob_ok h
  refine purOK_by mixed board_Clonec_ok (m := 1) (fn := Tryz.f98) (b := (Tryz.f98).body.getD .skip) (by kernel_rfl) (by kernel_rfl) (by kernel_rfl) hq (by kernel_rfl) (by kernel_rfl) (AllP.of (l' := []) (by kernel_rfl) trivial) ((board_Clone_eq _ _ _ _ _).trans h1) fun v objs' hd => ?_
  unfold board_Cloned at hd
  split at hd
  ·skip
   cases hd
   exact h2
  ·cases hd
 ·exact ho _ _ _ _ _ h
noncomputable def legal_PawnMatesl11d : Ex → List V → List Obj → Option ((Bool × List Int × List Int × Int × List (List Int) × List (List Int)) ⊕ (List Int × List Int × Int × List (List Int) × List (List Int))) := fun e vs objs => match e, vs, objs with
 | .ret, [.s (.b y0)], [.rcells 56 [.arr .i8 81 y1, .arr .i8 16 y2, .one [.i .i8 y3], .rows [.i .u64, .i .u64] 32 y4, .rows [.i .u64, .i .u64] 2 y5]] => some (.inl (y0, y1, y2, y3, y4, y5))
 | .exit 0, [.s .bad], [.rcells 56 [.arr .i8 81 y0, .arr .i8 16 y1, .one [.i .i8 y2], .rows [.i .u64, .i .u64] 32 y3, .rows [.i .u64, .i .u64] 2 y4]] => some (.inr (y0, y1, y2, y3, y4))
 | _, _, _ => none
noncomputable def legal_PawnMatesp11 {R : Type} (vs : List V) (objs : List Obj) (K : Ex → List V → List Obj → Option R) : Option R := match vs, objs with
 | [.s (.ptr 1 0 none 0), .s (.sl 2 0 x0 true), .s (.i .i64 x1), .s (.i .i64 x2)], [.rcells 56 [.arr .i8 81 x3, .arr .i8 16 x4, .one [.i .i8 x5], .rows [.i .u64, .i .u64] 32 x6, .rows [.i .u64, .i .u64] 2 x7], .cells 79 [.one [.ptr 3 0 none 0, .i .i64 x8, .i .i64 x9, .i .u64 x10, .i .u64 x11, .mp 4, .b x12]], .sli 39 false (.rows [.i .i64, .i .i64, .i .i64, .b] x13 x14), .cells 56 [.arr .i8 81 x15, .arr .i8 16 x16, .one [.i .i8 x17], .rows [.i .u64, .i .u64] 32 x18, .rows [.i .u64, .i .u64] 2 x19], .map false true [.i .i64] [.i .u64, .i .u64] x20] => ob (legal_PawnMatesl11 many x0 x1 x2 x3 x4 x5 x6 x7 x8 x9 x10 x11 x12 x13 x14 x15 x16 x17 x18 x19 x20) fun t0 => sw t0 (fun z => K (.ret) ([.s (.b (z.1))]) ([.rcells 56 [.arr .i8 81 (z.2.1), .arr .i8 16 (z.2.2.1), .one [.i .i8 (z.2.2.2.1)], .rows [.i .u64, .i .u64] 32 (z.2.2.2.2.1), .rows [.i .u64, .i .u64] 2 (z.2.2.2.2.2)]])) (fun z => K (.exit 0) ([.s .bad]) ([.rcells 56 [.arr .i8 81 (z.1), .arr .i8 16 (z.2.1), .one [.i .i8 (z.2.2.1)], .rows [.i .u64, .i .u64] 32 (z.2.2.2.1), .rows [.i .u64, .i .u64] 2 (z.2.2.2.2)]]))
 | _, _ => none
noncomputable def legal_PawnMateslp : {R : Type} → Nat → List V → List Obj → (Ex → List V → List Obj → Option R) → Option R := fun q vs objs K => bif Nat.beq q 11 then legal_PawnMatesp11 vs objs K else none
noncomputable def legal_PawnMatesc : Ctx := mkC 74 ((legal_state_boardo (gen_Boardo (set_Allo (legal_looko (set_Haso (attack_Checkerso (board_Puto (board_Cloneo (board_Ato (piece_Ofo oNil))))))))))) [(11, [7, 64, 65, 66], [4])] legal_PawnMateslp
theorem legal_PawnMatesc_ok : CtxOK Tryz.prog legal_PawnMatesc := mkC_ok ((legal_state_boardo_ok _ (gen_Boardo_ok _ (set_Allo_ok _ (legal_looko_ok _ (set_Haso_ok _ (attack_Checkerso_ok _ (board_Puto_ok _ (board_Cloneo_ok _ (board_Ato_ok _ (piece_Ofo_ok _ oNil_ok)))))))))))
noncomputable def legal_PawnMatesl11r (f : Nat) (x0 : Nat) (x1 x2 : Int) (x3 x4 : List Int) (x5 : Int) (x6 x7 : List (List Int)) (x8 x9 : Int) (x10 x11 : Int) (x12 : Bool) (x13 : Nat) (x14 : List (List Int)) (x15 x16 : List Int) (x17 : Int) (x18 x19 : List (List Int)) (x20 : List (List Int × List Int)) : Option ((Bool × List Int × List Int × Int × List (List Int) × List (List Int)) ⊕ (List Int × List Int × Int × List (List Int) × List (List Int))) := lrun legal_PawnMatesc 1 [7, 64, 65, 66] [4] (loopOf Tryz.f47 11) f ([.s (.ptr 1 0 none 0), .s (.sl 2 0 x0 true), .s (.i .i64 x1), .s (.i .i64 x2)]) ([.rcells 56 [.arr .i8 81 x3, .arr .i8 16 x4, .one [.i .i8 x5], .rows [.i .u64, .i .u64] 32 x6, .rows [.i .u64, .i .u64] 2 x7], .cells 79 [.one [.ptr 3 0 none 0, .i .i64 x8, .i .i64 x9, .i .u64 x10, .i .u64 x11, .mp 4, .b x12]], .sli 39 false (.rows [.i .i64, .i .i64, .i .i64, .b] x13 x14), .cells 56 [.arr .i8 81 x15, .arr .i8 16 x16, .one [.i .i8 x17], .rows [.i .u64, .i .u64] 32 x18, .rows [.i .u64, .i .u64] 2 x19], .map false true [.i .i64] [.i .u64, .i .u64] x20]) legal_PawnMatesl11d
theorem legal_PawnMatesl11_step (f : Nat) (x0 : Nat) (x1 x2 : Int) (x3 x4 : List Int) (x5 : Int) (x6 x7 : List (List Int)) (x8 x9 : Int) (x10 x11 : Int) (x12 : Bool) (x13 : Nat) (x14 : List (List Int)) (x15 x16 : List Int) (x17 : Int) (x18 x19 : List (List Int)) (x20 : List (List Int × List Int)) : legal_PawnMatesl11r (f + 1) x0 x1 x2 x3 x4 x5 x6 x7 x8 x9 x10 x11 x12 x13 x14 x15 x16 x17 x18 x19 x20 = legal_PawnMatesl11s (legal_PawnMatesl11r f) x0 x1 x2 x3 x4 x5 x6 x7 x8 x9 x10 x11 x12 x13 x14 x15 x16 x17 x18 x19 x20 := by kernel_rfl
theorem legal_PawnMatesl11_eq : ∀ f, legal_PawnMatesl11r f = legal_PawnMatesl11 f
 | 0 => rfl
 | f + 1 => by funext x0 x1 x2 x3 x4 x5 x6 x7 x8 x9 x10 x11 x12 x13 x14 x15 x16 x17 x18 x19 x20; rw [legal_PawnMatesl11_step, legal_PawnMatesl11_eq f]; rfl
theorem legal_PawnMatess11 : LoopSound Tryz.prog legal_PawnMatesc 1 (loopOf Tryz.f47 11) :=
 loopSound_by mixed legal_PawnMatesc_ok (AllP.of (l' := []) (by kernel_rfl) trivial) (q := 11) (kin := [7, 64, 65, 66]) (kout := [4]) (by kernel_rfl) (by kernel_rfl) fun vs objs K r h => by
  replace h : legal_PawnMatesp11 vs objs K = some r := h
  unfold legal_PawnMatesp11 at h
  split at h
  ·skip
   obtain ⟨t, h1, h2⟩ := ob_ok h
   rw [← legal_PawnMatesl11_eq] at h1
   refine ⟨_, legal_PawnMatesl11d, t, many, h1, fun e vs' objs' hd => ?_⟩
   unfold legal_PawnMatesl11d at hd
   split at hd
   ·skip
    cases hd
    exact h2
   ·skip
    cases hd
    exact h2
   ·cases hd
  ·cases h
noncomputable def legal_PawnMatesd : V → List Obj → Option (Bool) := fun v objs => match v, objs with
 | .s (.b y0), [] => some (y0)
 | _, _ => none
theorem legal_PawnMates_eq (x0 : Int) (x1 x2 : List Int) (x3 : Int) (x4 x5 : List (List Int)) : fnE legal_PawnMatesc Tryz.f47 ([.s (.ptr 0 0 none 0), .s (.i .i64 x0)]) ([.rcells 56 [.arr .i8 81 x1, .arr .i8 16 x2, .one [.i .i8 x3], .rows [.i .u64, .i .u64] 32 x4, .rows [.i .u64, .i .u64] 2 x5]]) (pureD 1 legal_PawnMatesd) = legal_PawnMates x0 x1 x2 x3 x4 x5 := by kernel_rfl
noncomputable def legal_PawnMatesa {R : Type} (o : Orc) (vs : List V) (objs : List Obj) (K : Bool → V → List Obj → Option R) : Option R := match vs, List.map Obj.toRO objs with
 | [.s (.ptr 0 0 none 0), .s (.i .i64 x0)], [.rcells 56 [.arr .i8 81 x1, .arr .i8 16 x2, .one [.i .i8 x3], .rows [.i .u64, .i .u64] 32 x4, .rows [.i .u64, .i .u64] 2 x5]] => ob (legal_PawnMates x0 x1 x2 x3 x4 x5) fun y0 => K true (.s (.b y0)) ([])
 | _, _ => o 47 vs objs K
noncomputable def legal_PawnMateso (o : Orc) : Orc := hook 47 (legal_PawnMatesa o) o
theorem legal_PawnMateso_ok (o : Orc) (ho : OSound Tryz.prog o) : OSound Tryz.prog (legal_PawnMateso o) := hook_ok ho fun vs objs K r h => by
 unfold legal_PawnMatesa at h
 split at h
 ·skip
  have hq : List.map Obj.toRO objs = _ := (by rename_i hq; first | exact hq | assumption)
  obtain ⟨t, h1, h2⟩ := ob_ok h
  refine purOK_by mixed legal_PawnMatesc_ok (m := 1) (fn := Tryz.f47) (b := (Tryz.f47).body.getD .skip) (by kernel_rfl) (by kernel_rfl) (by kernel_rfl) hq (by kernel_rfl) (by kernel_rfl) (AllP.of (l' := [loopOf Tryz.f47 11]) (by kernel_rfl) ⟨legal_PawnMatess11, trivial⟩) ((legal_PawnMates_eq _ _ _ _ _ _).trans h1) fun v objs' hd => ?_
  unfold legal_PawnMatesd at hd
  split at hd
  ·skip
   cases hd
   exact h2
  ·cases hd
 ·exact ho _ _ _ _ _ h
noncomputable def legal_Alll4d : Ex → List V → List Obj → Option (Nat × List Int × List Int × Int × List (List Int) × List (List Int) × Int × Int × Int × Int × Bool × Nat × List (List Int) × List (List Int × List Int)) := fun e vs objs => match e, vs, objs with
 | .exit 0, [.s (.ptr 0 0 none 0), .s (.ptr 1 0 none 0), .s (.sl 2 0 y0 true)], [.cells 56 [.arr .i8 81 y1, .arr .i8 16 y2, .one [.i .i8 y3], .rows [.i .u64, .i .u64] 32 y4, .rows [.i .u64, .i .u64] 2 y5], .cells 79 [.one [.ptr 0 0 none 0, .i .i64 y6, .i .i64 y7, .i .u64 y8, .i .u64 y9, .mp 3, .b y10]], .sli 39 false (.rows [.i .i64, .i .i64, .i .i64, .b] y11 y12), .map false true [.i .i64] [.i .u64, .i .u64] y13] => some (y0, y1, y2, y3, y4, y5, y6, y7, y8, y9, y10, y11, y12, y13)
 | _, _, _ => none
noncomputable def legal_Alll10d : Ex → List V → List Obj → Option (Nat × List Int × List Int × Int × List (List Int) × List (List Int) × Nat × List (List Int)) := fun e vs objs => match e, vs, objs with
 | .exit 2, [.s (.sl 1 0 y0 true)], [.cells 56 [.arr .i8 81 y1, .arr .i8 16 y2, .one [.i .i8 y3], .rows [.i .u64, .i .u64] 32 y4, .rows [.i .u64, .i .u64] 2 y5], .sli 39 false (.rows [.i .i64, .i .i64, .i .i64, .b] y6 y7)] => some (y0, y1, y2, y3, y4, y5, y6, y7)
 | _, _, _ => none
noncomputable def legal_Allp4 {R : Type} (vs : List V) (objs : List Obj) (K : Ex → List V → List Obj → Option R) : Option R := match vs, objs with
 | [.s (.ptr 0 0 none 0), .s (.ptr 1 0 none 0), .s (.sl 2 0 x0 true), .s (.sl 3 0 x1 true), .s (.i .i64 x2), .s (.i .i64 x3)], [.cells 56 [.arr .i8 81 x4, .arr .i8 16 x5, .one [.i .i8 x6], .rows [.i .u64, .i .u64] 32 x7, .rows [.i .u64, .i .u64] 2 x8], .cells 79 [.one [.ptr 0 0 none 0, .i .i64 x9, .i .i64 x10, .i .u64 x11, .i .u64 x12, .mp 4, .b x13]], .sli 39 false (.rows [.i .i64, .i .i64, .i .i64, .b] x14 x15), .sli 39 false (.rows [.i .i64, .i .i64, .i .i64, .b] x16 x17), .map false true [.i .i64] [.i .u64, .i .u64] x18] => ob (legal_Alll4 many x0 x1 x2 x3 x4 x5 x6 x7 x8 x9 x10 x11 x12 x13 x14 x15 x16 x17 x18) fun z => K (.exit 0) ([.s (.ptr 0 0 none 0), .s (.ptr 1 0 none 0), .s (.sl 2 0 (z.1) true)]) ([.cells 56 [.arr .i8 81 (z.2.1), .arr .i8 16 (z.2.2.1), .one [.i .i8 (z.2.2.2.1)], .rows [.i .u64, .i .u64] 32 (z.2.2.2.2.1), .rows [.i .u64, .i .u64] 2 (z.2.2.2.2.2.1)], .cells 79 [.one [.ptr 0 0 none 0, .i .i64 (z.2.2.2.2.2.2.1), .i .i64 (z.2.2.2.2.2.2.2.1), .i .u64 (z.2.2.2.2.2.2.2.2.1), .i .u64 (z.2.2.2.2.2.2.2.2.2.1), .mp 3, .b (z.2.2.2.2.2.2.2.2.2.2.1)]], .sli 39 false (.rows [.i .i64, .i .i64, .i .i64, .b] (z.2.2.2.2.2.2.2.2.2.2.2.1) (z.2.2.2.2.2.2.2.2.2.2.2.2.1)), .map false true [.i .i64] [.i .u64, .i .u64] (z.2.2.2.2.2.2.2.2.2.2.2.2.2)])
 | _, _ => none
noncomputable def legal_Allp10 {R : Type} (vs : List V) (objs : List Obj) (K : Ex → List V → List Obj → Option R) : Option R := match vs, objs with
 | [.s (.ptr 0 0 none 0), .s (.sl 1 0 x0 true), .s (.sl 2 0 x1 true), .s (.i .i64 x2), .s (.i .i64 x3)], [.cells 56 [.arr .i8 81 x4, .arr .i8 16 x5, .one [.i .i8 x6], .rows [.i .u64, .i .u64] 32 x7, .rows [.i .u64, .i .u64] 2 x8], .sli 39 false (.rows [.i .i64, .i .i64, .i .i64, .b] x9 x10), .sli 39 false (.rows [.i .i64, .i .i64, .i .i64, .b] x11 x12)] => ob (legal_Alll10 many x0 x1 x2 x3 x4 x5 x6 x7 x8 x9 x10 x11 x12) fun z => K (.exit 2) ([.s (.sl 1 0 (z.1) true)]) ([.cells 56 [.arr .i8 81 (z.2.1), .arr .i8 16 (z.2.2.1), .one [.i .i8 (z.2.2.2.1)], .rows [.i .u64, .i .u64] 32 (z.2.2.2.2.1), .rows [.i .u64, .i .u64] 2 (z.2.2.2.2.2.1)], .sli 39 false (.rows [.i .i64, .i .i64, .i .i64, .b] (z.2.2.2.2.2.2.1) (z.2.2.2.2.2.2.2))])
 | _, _ => none
noncomputable def legal_Alllp : {R : Type} → Nat → List V → List Obj → (Ex → List V → List Obj → Option R) → Option R := fun q vs objs K => bif Nat.beq q 4 then legal_Allp4 vs objs K else bif Nat.beq q 10 then legal_Allp10 vs objs K else none
noncomputable def legal_Allc : Ctx := mkC 51 ((legal_PawnMateso (gen_Dropso (legal_state_boardo (gen_Boardo (set_Allo (legal_looko oNil))))))) [(4, [0, 3, 4, 13, 14, 15], [0, 3, 4]), (10, [0, 4, 30, 31, 32], [4])] legal_Alllp
theorem legal_Allc_ok : CtxOK Tryz.prog legal_Allc := mkC_ok ((legal_PawnMateso_ok _ (gen_Dropso_ok _ (legal_state_boardo_ok _ (gen_Boardo_ok _ (set_Allo_ok _ (legal_looko_ok _ oNil_ok)))))))
noncomputable def legal_Alll4r (f : Nat) (x0 x1 : Nat) (x2 x3 : Int) (x4 x5 : List Int) (x6 : Int) (x7 x8 : List (List Int)) (x9 x10 : Int) (x11 x12 : Int) (x13 : Bool) (x14 : Nat) (x15 : List (List Int)) (x16 : Nat) (x17 : List (List Int)) (x18 : List (List Int × List Int)) : Option (Nat × List Int × List Int × Int × List (List Int) × List (List Int) × Int × Int × Int × Int × Bool × Nat × List (List Int) × List (List Int × List Int)) := lrun legal_Allc 1 [0, 3, 4, 13, 14, 15] [0, 3, 4] (loopOf Tryz.f26 4) f ([.s (.ptr 0 0 none 0), .s (.ptr 1 0 none 0), .s (.sl 2 0 x0 true), .s (.sl 3 0 x1 true), .s (.i .i64 x2), .s (.i .i64 x3)]) ([.cells 56 [.arr .i8 81 x4, .arr .i8 16 x5, .one [.i .i8 x6], .rows [.i .u64, .i .u64] 32 x7, .rows [.i .u64, .i .u64] 2 x8], .cells 79 [.one [.ptr 0 0 none 0, .i .i64 x9, .i .i64 x10, .i .u64 x11, .i .u64 x12, .mp 4, .b x13]], .sli 39 false (.rows [.i .i64, .i .i64, .i .i64, .b] x14 x15), .sli 39 false (.rows [.i .i64, .i .i64, .i .i64, .b] x16 x17), .map false true [.i .i64] [.i .u64, .i .u64] x18]) legal_Alll4d
theorem legal_Alll4_step (f : Nat) (x0 x1 : Nat) (x2 x3 : Int) (x4 x5 : List Int) (x6 : Int) (x7 x8 : List (List Int)) (x9 x10 : Int) (x11 x12 : Int) (x13 : Bool) (x14 : Nat) (x15 : List (List Int)) (x16 : Nat) (x17 : List (List Int)) (x18 : List (List Int × List Int)) : legal_Alll4r (f + 1) x0 x1 x2 x3 x4 x5 x6 x7 x8 x9 x10 x11 x12 x13 x14 x15 x16 x17 x18 = legal_Alll4s (legal_Alll4r f) x0 x1 x2 x3 x4 x5 x6 x7 x8 x9 x10 x11 x12 x13 x14 x15 x16 x17 x18 := by kernel_rfl
theorem legal_Alll4_eq : ∀ f, legal_Alll4r f = legal_Alll4 f
 | 0 => rfl
 | f + 1 => by funext x0 x1 x2 x3 x4 x5 x6 x7 x8 x9 x10 x11 x12 x13 x14 x15 x16 x17 x18; rw [legal_Alll4_step, legal_Alll4_eq f]; rfl
noncomputable def legal_Alll10r (f : Nat) (x0 x1 : Nat) (x2 x3 : Int) (x4 x5 : List Int) (x6 : Int) (x7 x8 : List (List Int)) (x9 : Nat) (x10 : List (List Int)) (x11 : Nat) (x12 : List (List Int)) : Option (Nat × List Int × List Int × Int × List (List Int) × List (List Int) × Nat × List (List Int)) := lrun legal_Allc 1 [0, 4, 30, 31, 32] [4] (loopOf Tryz.f26 10) f ([.s (.ptr 0 0 none 0), .s (.sl 1 0 x0 true), .s (.sl 2 0 x1 true), .s (.i .i64 x2), .s (.i .i64 x3)]) ([.cells 56 [.arr .i8 81 x4, .arr .i8 16 x5, .one [.i .i8 x6], .rows [.i .u64, .i .u64] 32 x7, .rows [.i .u64, .i .u64] 2 x8], .sli 39 false (.rows [.i .i64, .i .i64, .i .i64, .b] x9 x10), .sli 39 false (.rows [.i .i64, .i .i64, .i .i64, .b] x11 x12)]) legal_Alll10d
theorem legal_Alll10_step (f : Nat) (x0 x1 : Nat) (x2 x3 : Int) (x4 x5 : List Int) (x6 : Int) (x7 x8 : List (List Int)) (x9 : Nat) (x10 : List (List Int)) (x11 : Nat) (x12 : List (List Int)) : legal_Alll10r (f + 1) x0 x1 x2 x3 x4 x5 x6 x7 x8 x9 x10 x11 x12 = legal_Alll10s (legal_Alll10r f) x0 x1 x2 x3 x4 x5 x6 x7 x8 x9 x10 x11 x12 := by kernel_rfl
theorem legal_Alll10_eq : ∀ f, legal_Alll10r f = legal_Alll10 f
 | 0 => rfl
 | f + 1 => by funext x0 x1 x2 x3 x4 x5 x6 x7 x8 x9 x10 x11 x12; rw [legal_Alll10_step, legal_Alll10_eq f]; rfl
theorem legal_Alls4 : LoopSound Tryz.prog legal_Allc 1 (loopOf Tryz.f26 4) :=
 loopSound_by mixed legal_Allc_ok (AllP.of (l' := []) (by kernel_rfl) trivial) (q := 4) (kin := [0, 3, 4, 13, 14, 15]) (kout := [0, 3, 4]) (by kernel_rfl) (by kernel_rfl) fun vs objs K r h => by
  replace h : legal_Allp4 vs objs K = some r := h
  unfold legal_Allp4 at h
  split at h
  ·skip
   obtain ⟨t, h1, h2⟩ := ob_ok h
   rw [← legal_Alll4_eq] at h1
   refine ⟨_, legal_Alll4d, t, many, h1, fun e vs' objs' hd => ?_⟩
   unfold legal_Alll4d at hd
   split at hd
   ·skip
    cases hd
    exact h2
   ·cases hd
  ·cases h
theorem legal_Alls10 : LoopSound Tryz.prog legal_Allc 1 (loopOf Tryz.f26 10) :=
 loopSound_by mixed legal_Allc_ok (AllP.of (l' := []) (by kernel_rfl) trivial) (q := 10) (kin := [0, 4, 30, 31, 32]) (kout := [4]) (by kernel_rfl) (by kernel_rfl) fun vs objs K r h => by
  replace h : legal_Allp10 vs objs K = some r := h
  unfold legal_Allp10 at h
  split at h
  ·skip
   obtain ⟨t, h1, h2⟩ := ob_ok h
   rw [← legal_Alll10_eq] at h1
   refine ⟨_, legal_Alll10d, t, many, h1, fun e vs' objs' hd => ?_⟩
   unfold legal_Alll10d at hd
   split at hd
   ·skip
    cases hd
    exact h2
   ·cases hd
  ·cases h
noncomputable def legal_Alld : V → List Obj → Option (Nat × List Int × List Int × Int × List (List Int) × List (List Int) × Nat × List (List Int)) := fun v objs => match v, objs with
 | .s (.sl 1 0 y0 true), [.cells 56 [.arr .i8 81 y1, .arr .i8 16 y2, .one [.i .i8 y3], .rows [.i .u64, .i .u64] 32 y4, .rows [.i .u64, .i .u64] 2 y5], .sli 39 false (.rows [.i .i64, .i .i64, .i .i64, .b] y6 y7)] => some (y0, y1, y2, y3, y4, y5, y6, y7)
 | _, _ => none
theorem legal_All_eq (x0 x1 : List Int) (x2 : Int) (x3 x4 : List (List Int)) : fnE legal_Allc Tryz.f26 ([.s (.ptr 0 0 none 0)]) ([.cells 56 [.arr .i8 81 x0, .arr .i8 16 x1, .one [.i .i8 x2], .rows [.i .u64, .i .u64] 32 x3, .rows [.i .u64, .i .u64] 2 x4]]) legal_Alld = legal_All x0 x1 x2 x3 x4 := by kernel_rfl
noncomputable def legal_Alla {R : Type} (o : Orc) (vs : List V) (objs : List Obj) (K : Bool → V → List Obj → Option R) : Option R := match vs, objs with
 | [.s (.ptr 0 0 none 0)], [.cells 56 [.arr .i8 81 x0, .arr .i8 16 x1, .one [.i .i8 x2], .rows [.i .u64, .i .u64] 32 x3, .rows [.i .u64, .i .u64] 2 x4]] => ob (legal_All x0 x1 x2 x3 x4) fun z => K false (.s (.sl 1 0 (z.1) true)) ([.cells 56 [.arr .i8 81 (z.2.1), .arr .i8 16 (z.2.2.1), .one [.i .i8 (z.2.2.2.1)], .rows [.i .u64, .i .u64] 32 (z.2.2.2.2.1), .rows [.i .u64, .i .u64] 2 (z.2.2.2.2.2.1)], .sli 39 false (.rows [.i .i64, .i .i64, .i .i64, .b] (z.2.2.2.2.2.2.1) (z.2.2.2.2.2.2.2))])
 | _, _ => o 26 vs objs K
noncomputable def legal_Allo (o : Orc) : Orc := hook 26 (legal_Alla o) o
theorem legal_Allo_ok (o : Orc) (ho : OSound Tryz.prog o) : OSound Tryz.prog (legal_Allo o) := hook_ok ho fun vs objs K r h => by
 unfold legal_Alla at h
 split at h
 ·skip
  obtain ⟨t, h1, h2⟩ := ob_ok h
  refine anyOK_of mixed legal_Allc_ok (fn := Tryz.f26) (b := (Tryz.f26).body.getD .skip) (by kernel_rfl) (by kernel_rfl) (by kernel_rfl) ((legal_All_eq _ _ _ _ _).trans h1) (m := 1) rfl (AllP.of (l' := [loopOf Tryz.f26 4, loopOf Tryz.f26 10]) (by kernel_rfl) ⟨legal_Alls4, legal_Alls10, trivial⟩) fun v objs' hd => ?_
  unfold legal_Alld at hd
  split at hd
  ·skip
   cases hd
   exact h2
  ·cases hd
 ·exact ho _ _ _ _ _ h
noncomputable def move_Checkc : Ctx := mkC 48 (oNil) [] lpNil
theorem move_Checkc_ok : CtxOK Tryz.prog move_Checkc := mkC_ok (oNil_ok)
noncomputable def move_Checkd : V → List Obj → Option (Int) := fun v objs => match v, objs with
 | .s (.i .i64 y0), [] => some (y0)
 | _, _ => none
theorem move_Check_eq (x0 x1 x2 : Int) (x3 : Bool) : fnE move_Checkc Tryz.f107 ([.agg [.one [.i .i64 x0, .i .i64 x1, .i .i64 x2, .b x3]]]) ([]) move_Checkd = move_Check x0 x1 x2 x3 := by kernel_rfl
noncomputable def move_Checka {R : Type} (o : Orc) (vs : List V) (objs : List Obj) (K : Bool → V → List Obj → Option R) : Option R := match vs, objs with
 | [.agg [.one [.i .i64 x0, .i .i64 x1, .i .i64 x2, .b x3]]], [] => ob (move_Check x0 x1 x2 x3) fun y0 => K false (.s (.i .i64 y0)) ([])
 | _, _ => o 107 vs objs K
noncomputable def move_Checko (o : Orc) : Orc := hook 107 (move_Checka o) o
theorem move_Checko_ok (o : Orc) (ho : OSound Tryz.prog o) : OSound Tryz.prog (move_Checko o) := hook_ok ho fun vs objs K r h => by
 unfold move_Checka at h
 split at h
 ·skip
  obtain ⟨t, h1, h2⟩ := ob_ok h
  refine anyOK_of mixed move_Checkc_ok (fn := Tryz.f107) (b := (Tryz.f107).body.getD .skip) (by kernel_rfl) (by kernel_rfl) (by kernel_rfl) ((move_Check_eq _ _ _ _).trans h1) (m := 0) rfl (AllP.of (l' := []) (by kernel_rfl) trivial) fun v objs' hd => ?_
  unfold move_Checkd at hd
  split at hd
  ·skip
   cases hd
   exact h2
  ·cases hd
 ·exact ho _ _ _ _ _ h
end Go.Kk.KkMS
