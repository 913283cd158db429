-- WRITTEN BY A PROGRAM OF THIS SESSION (wip/gprint.py) OVER THE KIT'S PRINT, some functions given by hand
import Derived.Test.YtnhalfkkamepgaaQx0
import Derived.Test.YtnhalfkkamepgaaQx1
import Derived.Test.YtnhalfkkamepgaaQx4
import Derived.Test.YtnhalfkkamepgaaQCheck
import Derived.Test.YtnhalfkkamepgaaQRead
import Derived.Test.YtnhalfkkamepgaaQWrite
namespace Go.Proofs.Ytnhalfkkamepgaa.Q
open Go.RowKit Go.Proofs.YtnhalfkkamepgaaW.PrintWords Go.Proofs.YtnhalfkkamepgaaW.PrintLast Go.Proofs.YtnhalfkkamepgaaW.PrintMore
attribute [local go_sem] max2_int min2_int max_two min_two max_three min_three max_four min_four   -- for this text's walks alone
set_option linter.unusedVariables false
set_option linter.unusedSimpArgs false

/-! ### compositorlaw13_TextJoins: function 8 -/
mutual
def compositorlaw13_TextJoins.j0 : Nat → List Int → List Int → Int → Bool → Bool → Option (Bool)
  | 0, _, _, _, _, _ => none
  | k + 1, x0, x1, x2, x7, x28 => if x28 = true then (some x7) else ((text_Read.f x0).bind fun bt349 => ((text_Read.f x1).bind fun bt353 => ((some (([] : List Int) : List Int)).bind fun y357 => (if y357.length + x0.length < 140737488355328 then ((some (y357 ++ x0 : List Int)).bind fun y360 => (if y360.length < 140737488355328 then ((some (y360 ++ [32] : List Int)).bind fun y363 => (if y363.length + x1.length < 140737488355328 then ((text_Read.f (y363 ++ x1)).bind fun bt369 => (if bt349.2 = 0 then (compositorlaw13_TextJoins.j1 k x2 x7 bt349.1 bt353.1 bt369.1 bt369.2 (bt353.2 != 0)) else (compositorlaw13_TextJoins.j1 k x2 x7 bt349.1 bt353.1 bt369.1 bt369.2 true))) else (none))) else (none))) else (none)))))
def compositorlaw13_TextJoins.j1 : Nat → Int → Bool → List (S36) → List (S36) → List (S36) → Int → Bool → Option (Bool)
  | 0, _, _, _, _, _, _, _ => none
  | k + 1, x2, x7, x8, x10, x12, x13, x56 => if x56 = true then (if x7 = true then (some ((wrap64 ((x8.length : Int) * (x10.length : Int))) == 0)) else (some false)) else ((some (([] : List (S36)) : List (S36))).bind fun y373 => (if y373.length + x8.length < 2932031007402 then ((some (y373 ++ x8 : List (S36))).bind fun y376 => (if y376.length + x10.length < 2932031007402 then ((some (y376 ++ x10 : List (S36))).bind fun y379 => (if x13 = 0 then (if (mx (y379.length : Int) 1) = 0 then (none) else (if (wrap64 (1 + (Int.tmod (wrap64 (x2)) (mx (y379.length : Int) 1)))) > (y379.length : Int) then (some false) else (if 0 ≤ (wrap64 (1 + (Int.tmod (wrap64 (x2)) (mx (y379.length : Int) 1)))) then (if (wrap64 (1 + (Int.tmod (wrap64 (x2)) (mx (y379.length : Int) 1)))) ≤ (y379.length : Int) then ((text_Write.f (y379.take ((wrap64 (1 + (Int.tmod (wrap64 (x2)) (mx (y379.length : Int) 1)))) : Int).toNat)).bind fun bt388 => ((text_Write.f x12).bind fun bt392 => (if bt388.2 = 0 then (if bt392.2 = 0 then (compositorlaw13_TextJoins.j2 k x7 x12 y379 bt388.1 bt392.1 (decide ((bt388.1.length : Int) > (bt392.1.length : Int)))) else (compositorlaw13_TextJoins.j2 k x7 x12 y379 bt388.1 bt392.1 true)) else (compositorlaw13_TextJoins.j2 k x7 x12 y379 bt388.1 bt392.1 true)))) else (none)) else (none)))) else (if x7 = true then ((text_Check.f y379).bind fun t382 => (some (!t382))) else (some false)))) else (none))) else (none)))
def compositorlaw13_TextJoins.j2 : Nat → Bool → List (S36) → List (S36) → List Int → List Int → Bool → Option (Bool)
  | 0, _, _, _, _, _, _ => none
  | k + 1, x7, x12, x14, x16, x18, x114 => if x114 = true then (some false) else (if x7 = true then ((text_Check.f x14).bind fun t396 => (if t396 = true then ((compositorref13_Same.f k x12 x14).bind fun t397 => (if t397 = true then (if 0 ≤ (x16.length : Int) then (if (x16.length : Int) ≤ (x18.length : Int) then (some ((strOfNums (x18.take ((x16.length : Int) : Int).toNat)).toList == (strOfNums x16).toList)) else (none)) else (none)) else (some false))) else (some false))) else (some false))
end
def compositorlaw13_TextJoins.f (k : Nat) (l0 : List Int) (l1 : List Int) (a2 : Int) : Option (Bool) := (compositorlaw13_awake.f k).bind fun t348 => (if (l0.length : Int) > 2000 then (compositorlaw13_TextJoins.j0 k l0 l1 a2 t348 true) else (compositorlaw13_TextJoins.j0 k l0 l1 a2 t348 (decide ((l1.length : Int) > 2000))))
theorem compositorlaw13_TextJoins.mono_l : ∀ k, (∀ y0 y1 y2 y3 y4, LeO (compositorlaw13_TextJoins.j0 k y0 y1 y2 y3 y4) (compositorlaw13_TextJoins.j0 (k + 1) y0 y1 y2 y3 y4)) ∧ (∀ y0 y1 y2 y3 y4 y5 y6, LeO (compositorlaw13_TextJoins.j1 k y0 y1 y2 y3 y4 y5 y6) (compositorlaw13_TextJoins.j1 (k + 1) y0 y1 y2 y3 y4 y5 y6)) ∧ (∀ y0 y1 y2 y3 y4 y5, LeO (compositorlaw13_TextJoins.j2 k y0 y1 y2 y3 y4 y5) (compositorlaw13_TextJoins.j2 (k + 1) y0 y1 y2 y3 y4 y5))
  | 0 => ⟨fun _ _ _ _ _ r h => by simp [compositorlaw13_TextJoins.j0] at h, fun _ _ _ _ _ _ _ r h => by simp [compositorlaw13_TextJoins.j1] at h, fun _ _ _ _ _ _ r h => by simp [compositorlaw13_TextJoins.j2] at h⟩
  | k + 1 => by
    obtain ⟨ih0, ih1, ih2⟩ := compositorlaw13_TextJoins.mono_l k
    refine ⟨?_, ?_, ?_⟩
    · intro y0 y1 y2 y3 y4
      unfold compositorlaw13_TextJoins.j0
      repeat' first
      | (with_reducible exact ih0 _ _ _ _ _)
      | (with_reducible exact ih1 _ _ _ _ _ _ _)
      | (with_reducible exact ih2 _ _ _ _ _ _)
      | (with_reducible exact compositorlaw13_awake.mono _)
      | (with_reducible exact compositorref13_Same.mono _ _ _)
      | (with_reducible exact LeO.refl _)
      | (with_reducible exact LeO.none _)
      | (with_reducible refine LeO.ite ?_ ?_)
      | (with_reducible refine LeO.bind ?_ (fun _ => ?_))
      | exact ih0 _ _ _ _ _
      | exact ih1 _ _ _ _ _ _ _
      | exact ih2 _ _ _ _ _ _
      | exact compositorlaw13_awake.mono _
      | exact compositorref13_Same.mono _ _ _
      | exact LeO.none _
      | refine LeO.ite ?_ ?_
      | refine LeO.bind ?_ (fun _ => ?_)
    · intro y0 y1 y2 y3 y4 y5 y6
      unfold compositorlaw13_TextJoins.j1
      repeat' first
      | (with_reducible exact ih0 _ _ _ _ _)
      | (with_reducible exact ih1 _ _ _ _ _ _ _)
      | (with_reducible exact ih2 _ _ _ _ _ _)
      | (with_reducible exact compositorlaw13_awake.mono _)
      | (with_reducible exact compositorref13_Same.mono _ _ _)
      | (with_reducible exact LeO.refl _)
      | (with_reducible exact LeO.none _)
      | (with_reducible refine LeO.ite ?_ ?_)
      | (with_reducible refine LeO.bind ?_ (fun _ => ?_))
      | exact ih0 _ _ _ _ _
      | exact ih1 _ _ _ _ _ _ _
      | exact ih2 _ _ _ _ _ _
      | exact compositorlaw13_awake.mono _
      | exact compositorref13_Same.mono _ _ _
      | exact LeO.none _
      | refine LeO.ite ?_ ?_
      | refine LeO.bind ?_ (fun _ => ?_)
    · intro y0 y1 y2 y3 y4 y5
      unfold compositorlaw13_TextJoins.j2
      repeat' first
      | (with_reducible exact ih0 _ _ _ _ _)
      | (with_reducible exact ih1 _ _ _ _ _ _ _)
      | (with_reducible exact ih2 _ _ _ _ _ _)
      | (with_reducible exact compositorlaw13_awake.mono _)
      | (with_reducible exact compositorref13_Same.mono _ _ _)
      | (with_reducible exact LeO.refl _)
      | (with_reducible exact LeO.none _)
      | (with_reducible refine LeO.ite ?_ ?_)
      | (with_reducible refine LeO.bind ?_ (fun _ => ?_))
      | exact ih0 _ _ _ _ _
      | exact ih1 _ _ _ _ _ _ _
      | exact ih2 _ _ _ _ _ _
      | exact compositorlaw13_awake.mono _
      | exact compositorref13_Same.mono _ _ _
      | exact LeO.none _
      | refine LeO.ite ?_ ?_
      | refine LeO.bind ?_ (fun _ => ?_)
theorem compositorlaw13_TextJoins.mono : ∀ a0 a1 a2 k, LeO (compositorlaw13_TextJoins.f k a0 a1 a2) (compositorlaw13_TextJoins.f (k + 1) a0 a1 a2) := by
  intro a0 a1 a2 k
  obtain ⟨ih0, ih1, ih2⟩ := compositorlaw13_TextJoins.mono_l k
  unfold compositorlaw13_TextJoins.f
  repeat' first
      | (with_reducible exact ih0 _ _ _ _ _)
      | (with_reducible exact ih1 _ _ _ _ _ _ _)
      | (with_reducible exact ih2 _ _ _ _ _ _)
      | (with_reducible exact compositorlaw13_awake.mono _)
      | (with_reducible exact compositorref13_Same.mono _ _ _)
      | (with_reducible exact LeO.refl _)
      | (with_reducible exact LeO.none _)
      | (with_reducible refine LeO.ite ?_ ?_)
      | (with_reducible refine LeO.bind ?_ (fun _ => ?_))
      | exact ih0 _ _ _ _ _
      | exact ih1 _ _ _ _ _ _ _
      | exact ih2 _ _ _ _ _ _
      | exact compositorlaw13_awake.mono _
      | exact compositorref13_Same.mono _ _ _
      | exact LeO.none _
      | refine LeO.ite ?_ ?_
      | refine LeO.bind ?_ (fun _ => ?_)
def compositorlaw13_TextJoins.T19 : Bool × List (List Nat × List Nat) := (true, [([], []), ([0], [0]), ([1], [1]), ([2, 1, 1], [1, 2]), ([1, 3], [1, 3]), ([4, 3], [4]), ([5], [5]), ([5], [5]), ([6, 7, 5, 5], [5, 6, 7]), ([5, 8], [5, 8]), ([9, 8], [9]), ([10], [10]), ([10], [10]), ([12, 10], [10, 12]), ([11, 13, 10], [10, 11, 13]), ([14, 10], [10, 14]), ([10], [10]), ([16, 10], [10, 16]), ([15, 17, 10], [10, 15, 17]), ([10, 18], [10, 18]), ([19, 10, 0, 1, 2, 3, 4, 5, 6, 7, 8, 9, 10, 11, 12, 13, 14, 15, 16, 17, 18, 19], [19])])
def compositorlaw13_TextJoins.B19 : List Nat := [0, 1, 3, 7, 15, 31, 63, 63, 255, 511, 1023, 2047, 2047, 6143, 16383, 32767, 2047, 67583, 262143, 524287, 1048575]
theorem compositorlaw13_TextJoins.tab19 : rtab .any (opsOf Try.f8 19) = compositorlaw13_TextJoins.T19 := by kernel_rfl
theorem compositorlaw13_TextJoins.bits19 : waitsOk compositorlaw13_TextJoins.T19.2 compositorlaw13_TextJoins.B19 = true := by kernel_rfl
set_option maxHeartbeats 8000000 in
set_option maxRecDepth 100000 in
theorem compositorlaw13_TextJoins.calls (k : Nat) (A0 : Option Addr) (c0 : Nat) (l0 : List Int) (A1 : Option Addr) (c1 : Nat) (l1 : List Int) (a2 : Int) (r : Bool) (w : World) (hr0 : Kd.C (Kd.int .u8) w A0 l0.length l0) (hc0 : l0.length ≤ c0) (hr1 : Kd.C (Kd.int .u8) w A1 l1.length l1) (hc1 : l1.length ≤ c1) (h : compositorlaw13_TextJoins.f k l0 l1 a2 = some r) :
    Calls Try.prog 8 #[.slice A0 l0.length c0, .slice A1 l1.length c1, .int .u8 a2] w fun e w' => e = .returned (.bool r) ∧ Below w.heap.size w w' := by
  have HR0 := Aside0.mk hr0
  have HC0 := Aside0.mk hc0
  clear hr0 hc0
  have HR1 := Aside0.mk hr1
  have HC1 := Aside0.mk hc1
  clear hr1 hc1
  have HB := Aside0.mk (Below.refl w.heap.size w)
  have H : ((compositorlaw13_awake.f k).bind fun t348 => (if (l0.length : Int) > 2000 then (compositorlaw13_TextJoins.j0 k l0 l1 a2 t348 true) else (compositorlaw13_TextJoins.j0 k l0 l1 a2 t348 (decide ((l1.length : Int) > 2000))))) = some r := h
  clear h
  replace H := Option.bind_eq_some_iff.mp H
  obtain ⟨t348, A40, H⟩ := H
  replace H : (if (l0.length : Int) > 2000 then (compositorlaw13_TextJoins.j0 k l0 l1 a2 t348 true) else (compositorlaw13_TextJoins.j0 k l0 l1 a2 t348 (decide ((l1.length : Int) > 2000)))) = some r := H
  have A4 := Aside0.mk A40
  clear A40
  have HC5 := Aside0.mk H
  clear H
  go_enter Try.func8, Try.ntmps8
  go_upto_region 2 with (first | ((with_reducible refine gate_callee (f := 10) rfl ?_); refine goesL_ (some 20) rfl rfl Try.func10 (by kernel_rfl) rfl #[] rfl (by (try simp only [List.map_toArray, List.map_cons, List.map_nil]); first | done | rfl | (simp only [List.length_drop, List.length_take]; rfl)) ?_; (with_reducible refine (compositorlaw13_awake.calls k  t348 _ A4.out).mono ?_); rintro e w6 ⟨rfl, hb⟩; refine ⟨_, rfl, ?_⟩; have n0_ := Aside0.mk (below_step (by repeat (first | (with_reducible first | exact HB.out | apply below_alloc | apply pw_below_drewN | apply below_drew1) | exact HB.out)) hb); clear HB; have HB := n0_; clear n0_; (try clear hb); (try clear hb2); (try clear hk); (try clear hi)))
  (try simp only [Act.put, List.setIfInBounds_toArray, List.set_cons_zero, List.set_cons_succ])
  go_cut [28] (fun v28 wc => ∃ (kq : Nat) (x28_4 : Bool), v28 = .bool x28_4 ∧ Aside0 (compositorlaw13_TextJoins.j0 kq l0 l1 a2 t348 x28_4 = some r) ∧ Aside0 (kq ≤ k) ∧ Aside0 (Below w.heap.size w wc))
  case first =>
    have H := HC5.out
    clear HC5
    by_cases c7 : (l0.length : Int) > 2000
    · rw [if_pos c7] at H
      have c7b0 : decide (2000 < (l0.length : Int)) = true := decide_eq_true c7
      have c7b1 : decide (2000 < l0.length) = true := decide_eq_true (by omega)
      clear c7
      (first | rw [c7b0] | (simp only [i64_w, i32_w]; rw [c7b0]) | skip)
      have H' := Aside0.mk H
      clear H
      go_wp2
      go_meet
      case rel => exact ⟨_, (true), (by first | rfl | (simp; done) | (simp [*]; done)), H', ⟨by first | omega | exact Nat.le_refl _⟩, ⟨by repeat (first | (with_reducible first | exact HB.out | apply below_alloc | apply pw_below_drewN | apply below_drew1) | exact HB.out)⟩⟩
    · rw [if_neg c7] at H
      have c7b0 : decide (2000 < (l0.length : Int)) = false := decide_eq_false c7
      have c7b1 : decide (2000 < l0.length) = false := decide_eq_false (by omega)
      clear c7
      (first | rw [c7b0] | (simp only [i64_w, i32_w]; rw [c7b0]) | skip)
      have H' := Aside0.mk H
      clear H
      go_wp2
      go_meet
      case rel => exact ⟨_, (decide ((l1.length : Int) > 2000)), (by first | rfl | (simp; done) | (simp [*]; done)), H', ⟨by first | omega | exact Nat.le_refl _⟩, ⟨by repeat (first | (with_reducible first | exact HB.out | apply below_alloc | apply pw_below_drewN | apply below_drew1) | exact HB.out)⟩⟩
  case rest =>
    clear HC5
    try clear c1
    try clear p2
    try clear c7
    try clear c7b0
    try clear c7b1
    obtain ⟨kq, x28_4, rfl, HA, HJ4, HB⟩ := hcut
    cases kq with
    | zero => exact absurd HA.out (by simp [compositorlaw13_TextJoins.j0])
    | succ kj4 =>
      have H := HA.out
      clear HA
      simp only [compositorlaw13_TextJoins.j0] at H
      by_cases c8 : x28_4 = true
      · subst c8
        have H1 : (some t348) = some r := by rw [if_pos rfl] at H; exact H
        clear H
        have H := H1
        clear H1
        obtain rfl := Option.some.inj H
        go_wp2
        go_ret
        exact ⟨by first | rfl | (simp [errW_none, errW_some] <;> rfl) | (simp [*, errW_none, errW_some] <;> rfl), by repeat (first | (with_reducible first | exact HB.out | apply below_alloc | apply pw_below_drewN | apply below_drew1) | exact HB.out)⟩
      · replace c8 := Bool.eq_false_iff.mpr c8
        subst c8
        have H1 : ((text_Read.f l0).bind fun bt349 => ((text_Read.f l1).bind fun bt353 => ((some (([] : List Int) : List Int)).bind fun y357 => (if y357.length + l0.length < 140737488355328 then ((some (y357 ++ l0 : List Int)).bind fun y360 => (if y360.length < 140737488355328 then ((some (y360 ++ [32] : List Int)).bind fun y363 => (if y363.length + l1.length < 140737488355328 then ((text_Read.f (y363 ++ l1)).bind fun bt369 => (if bt349.2 = 0 then (compositorlaw13_TextJoins.j1 kj4 a2 t348 bt349.1 bt353.1 bt369.1 bt369.2 (bt353.2 != 0)) else (compositorlaw13_TextJoins.j1 kj4 a2 t348 bt349.1 bt353.1 bt369.1 bt369.2 true))) else (none))) else (none))) else (none))))) = some r := by rw [if_neg (show ¬ (false = true) by decide)] at H; exact H
        clear H
        have H := H1
        clear H1
        replace H := Option.bind_eq_some_iff.mp H
        obtain ⟨⟨t349, t350⟩, A90, H⟩ := H
        replace H : ((text_Read.f l1).bind fun bt353 => ((some (([] : List Int) : List Int)).bind fun y357 => (if y357.length + l0.length < 140737488355328 then ((some (y357 ++ l0 : List Int)).bind fun y360 => (if y360.length < 140737488355328 then ((some (y360 ++ [32] : List Int)).bind fun y363 => (if y363.length + l1.length < 140737488355328 then ((text_Read.f (y363 ++ l1)).bind fun bt369 => (if t350 = 0 then (compositorlaw13_TextJoins.j1 kj4 a2 t348 t349 bt353.1 bt369.1 bt369.2 (bt353.2 != 0)) else (compositorlaw13_TextJoins.j1 kj4 a2 t348 t349 bt353.1 bt369.1 bt369.2 true))) else (none))) else (none))) else (none)))) = some r := H
        have A9 := Aside0.mk A90
        clear A90
        replace H := Option.bind_eq_some_iff.mp H
        obtain ⟨⟨t353, t354⟩, A100, H⟩ := H
        replace H : ((some (([] : List Int) : List Int)).bind fun y357 => (if y357.length + l0.length < 140737488355328 then ((some (y357 ++ l0 : List Int)).bind fun y360 => (if y360.length < 140737488355328 then ((some (y360 ++ [32] : List Int)).bind fun y363 => (if y363.length + l1.length < 140737488355328 then ((text_Read.f (y363 ++ l1)).bind fun bt369 => (if t350 = 0 then (compositorlaw13_TextJoins.j1 kj4 a2 t348 t349 t353 bt369.1 bt369.2 (t354 != 0)) else (compositorlaw13_TextJoins.j1 kj4 a2 t348 t349 t353 bt369.1 bt369.2 true))) else (none))) else (none))) else (none))) = some r := H
        have A10 := Aside0.mk A100
        clear A100
        obtain ⟨y357, hy357⟩ : ∃ y_ : List Int, y_ = (([] : List Int)) := ⟨_, rfl⟩
        replace H : (if y357.length + l0.length < 140737488355328 then ((some (y357 ++ l0 : List Int)).bind fun y360 => (if y360.length < 140737488355328 then ((some (y360 ++ [32] : List Int)).bind fun y363 => (if y363.length + l1.length < 140737488355328 then ((text_Read.f (y363 ++ l1)).bind fun bt369 => (if t350 = 0 then (compositorlaw13_TextJoins.j1 kj4 a2 t348 t349 t353 bt369.1 bt369.2 (t354 != 0)) else (compositorlaw13_TextJoins.j1 kj4 a2 t348 t349 t353 bt369.1 bt369.2 true))) else (none))) else (none))) else (none)) = some r := by first | (rw [hy357]; with_reducible exact H) | (have H2_ := (Option.bind_some _ _).symm.trans H; rw [hy357]; with_reducible exact H2_) | (have H2_ := (Option.bind_some _ _).symm.trans H; with_reducible exact H2_) | with_reducible exact H | (rw [hy357]; exact H) | exact H
        have Ny357 := Aside0.mk hy357
        clear hy357
        by_cases c11 : y357.length + l0.length < 140737488355328
        · rw [if_pos c11] at H
          have LMc11 := Aside0.mk c11
          clear c11
          obtain ⟨y360, hy360⟩ : ∃ y_ : List Int, y_ = (y357 ++ l0) := ⟨_, rfl⟩
          replace H : (if y360.length < 140737488355328 then ((some (y360 ++ [32] : List Int)).bind fun y363 => (if y363.length + l1.length < 140737488355328 then ((text_Read.f (y363 ++ l1)).bind fun bt369 => (if t350 = 0 then (compositorlaw13_TextJoins.j1 kj4 a2 t348 t349 t353 bt369.1 bt369.2 (t354 != 0)) else (compositorlaw13_TextJoins.j1 kj4 a2 t348 t349 t353 bt369.1 bt369.2 true))) else (none))) else (none)) = some r := by first | (rw [hy360]; with_reducible exact H) | (have H2_ := (Option.bind_some _ _).symm.trans H; rw [hy360]; with_reducible exact H2_) | (have H2_ := (Option.bind_some _ _).symm.trans H; with_reducible exact H2_) | with_reducible exact H | (rw [hy360]; exact H) | exact H
          have Ny360 := Aside0.mk hy360
          clear hy360
          by_cases c12 : y360.length < 140737488355328
          · rw [if_pos c12] at H
            have LMc12 := Aside0.mk c12
            clear c12
            obtain ⟨y363, hy363⟩ : ∃ y_ : List Int, y_ = (y360 ++ [32]) := ⟨_, rfl⟩
            replace H : (if y363.length + l1.length < 140737488355328 then ((text_Read.f (y363 ++ l1)).bind fun bt369 => (if t350 = 0 then (compositorlaw13_TextJoins.j1 kj4 a2 t348 t349 t353 bt369.1 bt369.2 (t354 != 0)) else (compositorlaw13_TextJoins.j1 kj4 a2 t348 t349 t353 bt369.1 bt369.2 true))) else (none)) = some r := by first | (rw [hy363]; with_reducible exact H) | (have H2_ := (Option.bind_some _ _).symm.trans H; rw [hy363]; with_reducible exact H2_) | (have H2_ := (Option.bind_some _ _).symm.trans H; with_reducible exact H2_) | with_reducible exact H | (rw [hy363]; exact H) | exact H
            have Ny363 := Aside0.mk hy363
            clear hy363
            by_cases c13 : y363.length + l1.length < 140737488355328
            · rw [if_pos c13] at H
              have LMc13 := Aside0.mk c13
              clear c13
              obtain ⟨y366, hy366⟩ : ∃ y_ : List Int, y_ = (y363 ++ l1) := ⟨_, rfl⟩
              replace H : ((text_Read.f y366).bind fun bt369 => (if t350 = 0 then (compositorlaw13_TextJoins.j1 kj4 a2 t348 t349 t353 bt369.1 bt369.2 (t354 != 0)) else (compositorlaw13_TextJoins.j1 kj4 a2 t348 t349 t353 bt369.1 bt369.2 true))) = some r := by first | (rw [hy366]; with_reducible exact H) | (have H2_ := (Option.bind_some _ _).symm.trans H; rw [hy366]; with_reducible exact H2_) | (have H2_ := (Option.bind_some _ _).symm.trans H; with_reducible exact H2_) | with_reducible exact H | (rw [hy366]; exact H) | exact H
              have Ny366 := Aside0.mk hy366
              clear hy366
              replace H := Option.bind_eq_some_iff.mp H
              obtain ⟨⟨t369, t370⟩, A140, H⟩ := H
              replace H : (if t350 = 0 then (compositorlaw13_TextJoins.j1 kj4 a2 t348 t349 t353 t369 t370 (t354 != 0)) else (compositorlaw13_TextJoins.j1 kj4 a2 t348 t349 t353 t369 t370 true)) = some r := H
              have A14 := Aside0.mk A140
              clear A140
              have HC15 := Aside0.mk H
              clear H
              go_upto_region 7 with (first | ((with_reducible refine gate_callee (f := 11) rfl ?_); refine goesL_ (some 32) rfl rfl Try.func11 (by kernel_rfl) rfl #[.slice A0 l0.length c0] rfl (by (try simp only [List.map_toArray, List.map_cons, List.map_nil]); first | done | rfl | (simp only [List.length_drop, List.length_take]; rfl)) ?_; (with_reducible refine (text_Read.calls _ _ l0 t349 t350 _ ?side1 ?side2 A9.out).mono ?_); (case side1 => repeat (first | exact (Kd.C_below HR0.out HB.out) | (with_reducible refine Kd.C_alloc ?_ _) | (with_reducible refine Kd.C_drewN ?_ _) | (with_reducible refine Kd.C_drew ?_))); (case side2 => exact HC0.out); rintro e w16 ⟨v351, rfl, ho0, hb⟩; refine ⟨_, rfl, ?_⟩; have n0_ := Aside0.mk (Kd.N_lower (Kd.N_mono (ok' := fun k_ => True) (Kd.S_N (Kd.S_bound ho0)) (fun k_ hk_ => trivial)) (below_size (by repeat (first | (with_reducible first | exact HB.out | apply below_alloc | apply pw_below_drewN | apply below_drew1) | exact HB.out)))); have n1_ := Aside0.mk (below_step (by repeat (first | (with_reducible first | exact HB.out | apply below_alloc | apply pw_below_drewN | apply below_drew1) | exact HB.out)) hb); clear HB; have HO352 := n0_; have HB := n1_; clear n0_ n1_; (try clear hb); (try clear hb2); (try clear hk); (try clear hi); (try clear ho0)) | ((with_reducible refine gate_callee (f := 11) rfl ?_); refine goesL_ (some 37) rfl rfl Try.func11 (by kernel_rfl) rfl #[.slice A1 l1.length c1] rfl (by (try simp only [List.map_toArray, List.map_cons, List.map_nil]); first | done | rfl | (simp only [List.length_drop, List.length_take]; rfl)) ?_; (with_reducible refine (text_Read.calls _ _ l1 t353 t354 _ ?side1 ?side2 A10.out).mono ?_); (case side1 => repeat (first | exact (Kd.C_below HR1.out HB.out) | (with_reducible refine Kd.C_alloc ?_ _) | (with_reducible refine Kd.C_drewN ?_ _) | (with_reducible refine Kd.C_drew ?_))); (case side2 => exact HC1.out); rintro e w17 ⟨v355, rfl, ho0, hb⟩; refine ⟨_, rfl, ?_⟩; have n0_ := Aside0.mk (Kd.N_elder' (by (with_reducible repeat (first | apply Kd.N_alloc | apply Kd.N_drewN | apply Kd.N_drew)); exact HO352.out) (Kd.S_base ho0) hb); have n1_ := Aside0.mk (Kd.N_lower (Kd.N_mono (ok' := fun k_ => some k_ ≠ (v351 : Value).ownBlock) (Kd.S_N (Kd.S_bound ho0)) (fun k_ hk_ => (Kd.fresh' (Kd.N_lt (by (with_reducible repeat (first | apply Kd.N_alloc | apply Kd.N_drewN | apply Kd.N_drew)); exact HO352.out)) k_ hk_.2.1))) (below_size (by repeat (first | (with_reducible first | exact HB.out | apply below_alloc | apply pw_below_drewN | apply below_drew1) | exact HB.out)))); have n2_ := Aside0.mk (below_step (by repeat (first | (with_reducible first | exact HB.out | apply below_alloc | apply pw_below_drewN | apply below_drew1) | exact HB.out)) hb); clear HO352; clear HB; have HO352 := n0_; have HO356 := n1_; have HB := n2_; clear n0_ n1_ n2_; (try clear hb); (try clear hb2); (try clear hk); (try clear hi); (try clear ho0)) | ((with_reducible refine gate_dst (N := 41) rfl ?_); (try (refine gate_guard (by rfl) ?_; dsimp only)); refine Kd.R_lit (Kd.int .u8) _ 5 ?hg (N := 41) ?hd (xs := ([] : List Int)) (inner := []) (ok := fun _ => True) (okp := fun _ => True) ?hr ?hp (fun _ hk => hk) trivial (Below.refl _ _) (Nat.le_refl _) (by simp) ?_; (case hd => rfl); (case hg => rfl); (case hr => first | (go_simp; done) | (go_simp; rfl)); (case hp => exact (Reps.none _ _)); intro v358 w18 ho19 hb hg_ hnew_; clear hg_ hnew_; (first | rw [← Ny357.out] at ho19 | (simp only [Int.reduceToNat] at ho19; rw [← Ny357.out] at ho19)); have n0_ := Aside0.mk (Kd.N_elder' (by (with_reducible repeat (first | apply Kd.N_alloc | apply Kd.N_drewN | apply Kd.N_drew)); exact HO352.out) (Kd.R_base ho19) hb); have n1_ := Aside0.mk (Kd.N_elder' (by (with_reducible repeat (first | apply Kd.N_alloc | apply Kd.N_drewN | apply Kd.N_drew)); exact HO356.out) (Kd.R_base ho19) hb); have n2_ := Aside0.mk (Kd.R_lower ho19 (below_size (by repeat (first | (with_reducible first | exact HB.out | apply below_alloc | apply pw_below_drewN | apply below_drew1) | exact HB.out)))); have n3_ := Aside0.mk (below_step (by repeat (first | (with_reducible first | exact HB.out | apply below_alloc | apply pw_below_drewN | apply below_drew1) | exact HB.out)) hb); clear HO352; clear HO356; clear HB; have HO352 := n0_; have HO356 := n1_; have HO359 := n2_; have HB := n3_; clear n0_ n1_ n2_ n3_; clear hb ho19) | ((with_reducible refine gate_builtin (b := .append) (xs := #[.tmp 41, .tmp 42]) rfl ?_); (try (refine gate_guard (by rfl) ?_; dsimp only)); at_builtin; refine Kd.R_append_rows (Kd.int .u8) (w0 := w) w.heap.size rfl (.tmp 41) (.tmp 42) 22 5 (.int .u8 0) 1 rfl Try.underlying22 info5 rfl (by decide) (by omega) v358 y357 l0 _ _ _ (fun _ => True) (fun _ => False) rfl rfl ?aO ?aR (fun _ _ h => h) (fun _ h => h.elim) ?aF ?aB ?aS ?aL ?_; (case aR => repeat (first | exact (Kd.C_below HR0.out HB.out) | (with_reducible refine Kd.C_alloc ?_ _) | (with_reducible refine Kd.C_drewN ?_ _) | (with_reducible refine Kd.C_drew ?_))); (case aB => exact (by repeat (first | (with_reducible first | exact HB.out | apply below_alloc | apply pw_below_drewN | apply below_drew1) | exact HB.out))); (case aF => exact (fun _ _ => trivial)); (case aO => exact (by (with_reducible repeat (first | apply Kd.R_alloc | apply Kd.R_drewN | apply Kd.R_drew)); exact HO359.out)); (case aS => exact (below_size (by repeat (first | (with_reducible first | exact HB.out | apply below_alloc | apply pw_below_drewN | apply below_drew1) | exact HB.out)))); (case aL => have := LMc11.out; omega); intro v361 w20 ho hb hg hat; rw [← Ny360.out] at ho; have n0_ := Aside0.mk (Kd.N_afterv (ok := (fun k_ => some k_ ≠ (v355 : Value).ownBlock)) (by (with_reducible repeat (first | apply Kd.N_alloc | apply Kd.N_drewN | apply Kd.N_drew)); exact Kd.N_mono HO352.out (fun _ hk => ⟨hk.1.2, hk.2⟩)) hg hat); have n1_ := Aside0.mk (Kd.N_afterv (ok := (fun k_ => some k_ ≠ (v351 : Value).ownBlock)) (by (with_reducible repeat (first | apply Kd.N_alloc | apply Kd.N_drewN | apply Kd.N_drew)); exact HO356.out) hg hat); have n2_ := Aside0.mk (hb); have n3_ := Aside0.mk (ho); clear HO352; clear HO356; clear HB; clear HO359; have HO352 := n0_; have HO356 := n1_; have HB := n2_; have HO362 := n3_; clear n0_ n1_ n2_ n3_; clear ho hb hg hat) | ((with_reducible refine gate_builtin (b := .append) (xs := #[.tmp 43, .tmp 44]) rfl ?_); (try (refine gate_guard (by rfl) ?_; dsimp only)); at_builtin; refine Kd.R_append (Kd.int .u8) (w0 := w) w.heap.size rfl (.tmp 43) (.tmp 44) 22 5 (.int .u8 0) 1 rfl Try.underlying22 info5 rfl (by decide) (by omega) v361 y360 32 [.int .u8 32] (fun _ => True) (fun _ => False) rfl rfl ?aP (fun _ hk => hk.elim) ?aF ?aO ?aB ?aS ?aL ?_; (case aP => exact rfl); (case aB => exact (by repeat (first | (with_reducible first | exact HB.out | apply below_alloc | apply pw_below_drewN | apply below_drew1) | exact HB.out))); (case aF => exact (fun _ _ => trivial)); (case aO => exact (by (with_reducible repeat (first | apply Kd.R_alloc | apply Kd.R_drewN | apply Kd.R_drew)); exact HO362.out)); (case aS => exact (below_size (by repeat (first | (with_reducible first | exact HB.out | apply below_alloc | apply pw_below_drewN | apply below_drew1) | exact HB.out)))); (case aL => have := LMc12.out; omega); intro v364 w21 ho hb hg hat; rw [← Ny363.out] at ho; have n0_ := Aside0.mk (Kd.N_afterv (ok := (fun k_ => some k_ ≠ (v355 : Value).ownBlock)) (by (with_reducible repeat (first | apply Kd.N_alloc | apply Kd.N_drewN | apply Kd.N_drew)); exact HO352.out) hg hat); have n1_ := Aside0.mk (Kd.N_afterv (ok := (fun k_ => some k_ ≠ (v351 : Value).ownBlock)) (by (with_reducible repeat (first | apply Kd.N_alloc | apply Kd.N_drewN | apply Kd.N_drew)); exact HO356.out) hg hat); have n2_ := Aside0.mk (hb); have n3_ := Aside0.mk (ho); clear HO352; clear HO356; clear HB; clear HO362; have HO352 := n0_; have HO356 := n1_; have HB := n2_; have HO365 := n3_; clear n0_ n1_ n2_ n3_; clear ho hb hg hat) | ((with_reducible refine gate_builtin (b := .append) (xs := #[.tmp 45, .tmp 46]) rfl ?_); (try (refine gate_guard (by rfl) ?_; dsimp only)); at_builtin; refine Kd.R_append_rows (Kd.int .u8) (w0 := w) w.heap.size rfl (.tmp 45) (.tmp 46) 22 5 (.int .u8 0) 1 rfl Try.underlying22 info5 rfl (by decide) (by omega) v364 y363 l1 _ _ _ (fun _ => True) (fun _ => False) rfl rfl ?aO ?aR (fun _ _ h => h) (fun _ h => h.elim) ?aF ?aB ?aS ?aL ?_; (case aR => repeat (first | exact (Kd.C_below HR1.out HB.out) | (with_reducible refine Kd.C_alloc ?_ _) | (with_reducible refine Kd.C_drewN ?_ _) | (with_reducible refine Kd.C_drew ?_))); (case aB => exact (by repeat (first | (with_reducible first | exact HB.out | apply below_alloc | apply pw_below_drewN | apply below_drew1) | exact HB.out))); (case aF => exact (fun _ _ => trivial)); (case aO => exact (by (with_reducible repeat (first | apply Kd.R_alloc | apply Kd.R_drewN | apply Kd.R_drew)); exact HO365.out)); (case aS => exact (below_size (by repeat (first | (with_reducible first | exact HB.out | apply below_alloc | apply pw_below_drewN | apply below_drew1) | exact HB.out)))); (case aL => have := LMc13.out; omega); intro v367 w22 ho hb hg hat; rw [← Ny366.out] at ho; have n0_ := Aside0.mk (Kd.N_afterv (ok := (fun k_ => some k_ ≠ (v355 : Value).ownBlock)) (by (with_reducible repeat (first | apply Kd.N_alloc | apply Kd.N_drewN | apply Kd.N_drew)); exact HO352.out) hg hat); have n1_ := Aside0.mk (Kd.N_afterv (ok := (fun k_ => some k_ ≠ (v351 : Value).ownBlock)) (by (with_reducible repeat (first | apply Kd.N_alloc | apply Kd.N_drewN | apply Kd.N_drew)); exact HO356.out) hg hat); have n2_ := Aside0.mk (hb); have n3_ := Aside0.mk (ho); clear HO352; clear HO356; clear HB; clear HO365; have HO352 := n0_; have HO356 := n1_; have HB := n2_; have HO368 := n3_; clear n0_ n1_ n2_ n3_; clear ho hb hg hat; obtain ⟨Ao23, co23, eo23⟩ := Kd.R_slice HO368.out; subst eo23) | ((with_reducible refine gate_callee (f := 11) rfl ?_); refine goesL_ (some 48) rfl rfl Try.func11 (by kernel_rfl) rfl #[.slice Ao23 y366.length co23] rfl (by (try simp only [List.map_toArray, List.map_cons, List.map_nil]); first | done | rfl | (simp only [List.length_drop, List.length_take]; rfl)) ?_; (with_reducible refine (text_Read.calls _ _ y366 t369 t370 _ ?side1 ?side2 A14.out).mono ?_); (case side1 => repeat (first | exact (Kd.R_reads' HO368.out).2.2 | (with_reducible refine Kd.C_alloc ?_ _) | (with_reducible refine Kd.C_drewN ?_ _) | (with_reducible refine Kd.C_drew ?_))); (case side2 => exact (Kd.R_reads' HO368.out).2.1); rintro e w24 ⟨v371, rfl, ho0, hb⟩; refine ⟨_, rfl, ?_⟩; have n0_ := Aside0.mk (Kd.N_elder' (by (with_reducible repeat (first | apply Kd.N_alloc | apply Kd.N_drewN | apply Kd.N_drew)); exact HO352.out) (Kd.S_base ho0) hb); have n1_ := Aside0.mk (Kd.N_elder' (by (with_reducible repeat (first | apply Kd.N_alloc | apply Kd.N_drewN | apply Kd.N_drew)); exact HO356.out) (Kd.S_base ho0) hb); have n2_ := Aside0.mk (Kd.R_below (by (with_reducible repeat (first | apply Kd.R_alloc | apply Kd.R_drewN | apply Kd.R_drew)); exact HO368.out) hb); have n3_ := Aside0.mk (Kd.N_lower (Kd.N_mono (ok' := fun k_ => some k_ ≠ (v351 : Value).ownBlock ∧ some k_ ≠ (v355 : Value).ownBlock ∧ some k_ ≠ (.slice Ao23 y366.length co23 : Value).ownBlock) (Kd.S_N (Kd.S_bound ho0)) (fun k_ hk_ => ⟨(Kd.fresh' (Kd.N_lt (by (with_reducible repeat (first | apply Kd.N_alloc | apply Kd.N_drewN | apply Kd.N_drew)); exact HO352.out)) k_ hk_.2.1), (Kd.fresh' (Kd.N_lt (by (with_reducible repeat (first | apply Kd.N_alloc | apply Kd.N_drewN | apply Kd.N_drew)); exact HO356.out)) k_ hk_.2.1), (Kd.fresh' (Kd.R_lt (by (with_reducible repeat (first | apply Kd.R_alloc | apply Kd.R_drewN | apply Kd.R_drew)); exact HO368.out)) k_ hk_.2.1)⟩)) (below_size (by repeat (first | (with_reducible first | exact HB.out | apply below_alloc | apply pw_below_drewN | apply below_drew1) | exact HB.out)))); have n4_ := Aside0.mk (below_step (by repeat (first | (with_reducible first | exact HB.out | apply below_alloc | apply pw_below_drewN | apply below_drew1) | exact HB.out)) hb); clear HO352; clear HO356; clear HO368; clear HB; have HO352 := n0_; have HO356 := n1_; have HO368 := n2_; have HO372 := n3_; have HB := n4_; clear n0_ n1_ n2_ n3_ n4_; (try clear hb); (try clear hb2); (try clear hk); (try clear hi); (try clear ho0)))
              (try simp only [Act.put, List.setIfInBounds_toArray, List.set_cons_zero, List.set_cons_succ])
              go_cut [56] (fun v56 wc => ∃ (kq : Nat) (x56_14 : Bool), v56 = .bool x56_14 ∧ Aside0 (compositorlaw13_TextJoins.j1 kq a2 t348 t349 t353 t369 t370 x56_14 = some r) ∧ Aside0 (kq ≤ kj4) ∧ Aside0 (Kd.N k36 36 wc w.heap.size (fun k_ => some k_ ≠ (v355 : Value).ownBlock ∧ some k_ ≠ (v371 : Value).ownBlock) v351 t349) ∧ Aside0 (Kd.N k36 36 wc w.heap.size (fun k_ => some k_ ≠ (v351 : Value).ownBlock ∧ some k_ ≠ (v371 : Value).ownBlock) v355 t353) ∧ Aside0 (Kd.N k36 36 wc w.heap.size (fun k_ => some k_ ≠ (v351 : Value).ownBlock ∧ some k_ ≠ (v355 : Value).ownBlock) v371 t369) ∧ Aside0 (Below w.heap.size w wc))
              case first =>
                have H := HC15.out
                clear HC15
                by_cases c25 : t350 = 0
                · rw [if_pos c25] at H
                  have c25b0 : (t350 == 0) = true := beq_iff_eq.mpr c25
                  have c25b1 : (t350 != 0) = false := bne_eq_false_iff_eq.mpr c25
                  clear c25
                  (first | rw [c25b0] | (simp only [i64_w, i32_w]; rw [c25b0]) | skip)
                  have H' := Aside0.mk H
                  clear H
                  go_wp2
                  go_meet
                  case rel => exact ⟨_, ((t354 != 0)), (by first | rfl | (simp; done) | (simp [*]; done)), H', ⟨by have := HJ4.out; first | omega | exact Nat.le_refl _⟩, ⟨by (with_reducible repeat (first | apply Kd.N_alloc | apply Kd.N_drewN | apply Kd.N_drew)); exact Kd.N_mono HO352.out (fun _ hk => ⟨hk.1.1, hk.2⟩)⟩, ⟨by (with_reducible repeat (first | apply Kd.N_alloc | apply Kd.N_drewN | apply Kd.N_drew)); exact Kd.N_mono HO356.out (fun _ hk => ⟨hk.1.1, hk.2⟩)⟩, ⟨by (with_reducible repeat (first | apply Kd.N_alloc | apply Kd.N_drewN | apply Kd.N_drew)); exact Kd.N_mono HO372.out (fun _ hk => ⟨hk.1, hk.2.1⟩)⟩, ⟨by repeat (first | (with_reducible first | exact HB.out | apply below_alloc | apply pw_below_drewN | apply below_drew1) | exact HB.out)⟩⟩
                · rw [if_neg c25] at H
                  have c25b0 : (t350 == 0) = false := beq_eq_false_iff_ne.mpr c25
                  have c25b1 : (t350 != 0) = true := bne_iff_ne.mpr c25
                  (first | rw [c25b0] | (simp only [i64_w, i32_w]; rw [c25b0]) | skip)
                  have H' := Aside0.mk H
                  clear H
                  go_wp2
                  go_meet
                  case rel => exact ⟨_, (true), (by first | rfl | (simp; done) | (simp [*]; done)), H', ⟨by have := HJ4.out; first | omega | exact Nat.le_refl _⟩, ⟨by (with_reducible repeat (first | apply Kd.N_alloc | apply Kd.N_drewN | apply Kd.N_drew)); exact Kd.N_mono HO352.out (fun _ hk => ⟨hk.1.1, hk.2⟩)⟩, ⟨by (with_reducible repeat (first | apply Kd.N_alloc | apply Kd.N_drewN | apply Kd.N_drew)); exact Kd.N_mono HO356.out (fun _ hk => ⟨hk.1.1, hk.2⟩)⟩, ⟨by (with_reducible repeat (first | apply Kd.N_alloc | apply Kd.N_drewN | apply Kd.N_drew)); exact Kd.N_mono HO372.out (fun _ hk => ⟨hk.1, hk.2.1⟩)⟩, ⟨by repeat (first | (with_reducible first | exact HB.out | apply below_alloc | apply pw_below_drewN | apply below_drew1) | exact HB.out)⟩⟩
              case rest =>
                clear HC15
                try clear c1
                try clear c2
                try clear p2
                try clear c7
                try clear c7b0
                try clear c7b1
                try clear c8
                try clear c10
                try clear c11
                try clear c12
                try clear c13
                try clear c25
                try clear c25b0
                try clear c25b1
                try clear p2
                obtain ⟨kq, x56_14, rfl, HA, HJ14, HO_8, HO_10, HO_12, HB⟩ := hcut
                cases kq with
                | zero => exact absurd HA.out (by simp [compositorlaw13_TextJoins.j1])
                | succ kj14 =>
                  have H := HA.out
                  clear HA
                  simp only [compositorlaw13_TextJoins.j1] at H
                  by_cases c26 : x56_14 = true
                  · subst c26
                    have H1 : (if t348 = true then (some ((wrap64 ((t349.length : Int) * (t353.length : Int))) == 0)) else (some false)) = some r := by rw [if_pos rfl] at H; exact H
                    clear H
                    have H := H1
                    clear H1
                    by_cases c27 : t348 = true
                    · subst c27
                      have H1 : (some ((wrap64 ((t349.length : Int) * (t353.length : Int))) == 0)) = some r := by rw [if_pos rfl] at H; exact H
                      clear H
                      have H := H1
                      clear H1
                      obtain rfl := Option.some.inj H
                      obtain ⟨Ao28, co28, eo28⟩ := Kd.N_slice HO_8.out
                      subst eo28
                      obtain ⟨Ao29, co29, eo29⟩ := Kd.N_slice HO_10.out
                      subst eo29
                      go_wp2
                      go_ret
                      exact ⟨by first | rfl | (simp [errW_none, errW_some] <;> rfl) | (simp [*, errW_none, errW_some] <;> rfl), by repeat (first | (with_reducible first | exact HB.out | apply below_alloc | apply pw_below_drewN | apply below_drew1) | exact HB.out)⟩
                    · replace c27 := Bool.eq_false_iff.mpr c27
                      subst c27
                      have H1 : (some false) = some r := by rw [if_neg (show ¬ (false = true) by decide)] at H; exact H
                      clear H
                      have H := H1
                      clear H1
                      obtain rfl := Option.some.inj H
                      go_wp2
                      go_ret
                      exact ⟨by first | rfl | (simp [errW_none, errW_some] <;> rfl) | (simp [*, errW_none, errW_some] <;> rfl), by repeat (first | (with_reducible first | exact HB.out | apply below_alloc | apply pw_below_drewN | apply below_drew1) | exact HB.out)⟩
                  · replace c26 := Bool.eq_false_iff.mpr c26
                    subst c26
                    have H1 : ((some (([] : List (S36)) : List (S36))).bind fun y373 => (if y373.length + t349.length < 2932031007402 then ((some (y373 ++ t349 : List (S36))).bind fun y376 => (if y376.length + t353.length < 2932031007402 then ((some (y376 ++ t353 : List (S36))).bind fun y379 => (if t370 = 0 then (if (mx (y379.length : Int) 1) = 0 then (none) else (if (wrap64 (1 + (Int.tmod (wrap64 (a2)) (mx (y379.length : Int) 1)))) > (y379.length : Int) then (some false) else (if 0 ≤ (wrap64 (1 + (Int.tmod (wrap64 (a2)) (mx (y379.length : Int) 1)))) then (if (wrap64 (1 + (Int.tmod (wrap64 (a2)) (mx (y379.length : Int) 1)))) ≤ (y379.length : Int) then ((text_Write.f (y379.take ((wrap64 (1 + (Int.tmod (wrap64 (a2)) (mx (y379.length : Int) 1)))) : Int).toNat)).bind fun bt388 => ((text_Write.f t369).bind fun bt392 => (if bt388.2 = 0 then (if bt392.2 = 0 then (compositorlaw13_TextJoins.j2 kj14 t348 t369 y379 bt388.1 bt392.1 (decide ((bt388.1.length : Int) > (bt392.1.length : Int)))) else (compositorlaw13_TextJoins.j2 kj14 t348 t369 y379 bt388.1 bt392.1 true)) else (compositorlaw13_TextJoins.j2 kj14 t348 t369 y379 bt388.1 bt392.1 true)))) else (none)) else (none)))) else (if t348 = true then ((text_Check.f y379).bind fun t382 => (some (!t382))) else (some false)))) else (none))) else (none))) = some r := by rw [if_neg (show ¬ (false = true) by decide)] at H; exact H
                    clear H
                    have H := H1
                    clear H1
                    obtain ⟨y373, hy373⟩ : ∃ y_ : List (S36), y_ = (([] : List (S36))) := ⟨_, rfl⟩
                    replace H : (if y373.length + t349.length < 2932031007402 then ((some (y373 ++ t349 : List (S36))).bind fun y376 => (if y376.length + t353.length < 2932031007402 then ((some (y376 ++ t353 : List (S36))).bind fun y379 => (if t370 = 0 then (if (mx (y379.length : Int) 1) = 0 then (none) else (if (wrap64 (1 + (Int.tmod (wrap64 (a2)) (mx (y379.length : Int) 1)))) > (y379.length : Int) then (some false) else (if 0 ≤ (wrap64 (1 + (Int.tmod (wrap64 (a2)) (mx (y379.length : Int) 1)))) then (if (wrap64 (1 + (Int.tmod (wrap64 (a2)) (mx (y379.length : Int) 1)))) ≤ (y379.length : Int) then ((text_Write.f (y379.take ((wrap64 (1 + (Int.tmod (wrap64 (a2)) (mx (y379.length : Int) 1)))) : Int).toNat)).bind fun bt388 => ((text_Write.f t369).bind fun bt392 => (if bt388.2 = 0 then (if bt392.2 = 0 then (compositorlaw13_TextJoins.j2 kj14 t348 t369 y379 bt388.1 bt392.1 (decide ((bt388.1.length : Int) > (bt392.1.length : Int)))) else (compositorlaw13_TextJoins.j2 kj14 t348 t369 y379 bt388.1 bt392.1 true)) else (compositorlaw13_TextJoins.j2 kj14 t348 t369 y379 bt388.1 bt392.1 true)))) else (none)) else (none)))) else (if t348 = true then ((text_Check.f y379).bind fun t382 => (some (!t382))) else (some false)))) else (none))) else (none)) = some r := by first | (rw [hy373]; with_reducible exact H) | (have H2_ := (Option.bind_some _ _).symm.trans H; rw [hy373]; with_reducible exact H2_) | (have H2_ := (Option.bind_some _ _).symm.trans H; with_reducible exact H2_) | with_reducible exact H | (rw [hy373]; exact H) | exact H
                    have Ny373 := Aside0.mk hy373
                    clear hy373
                    by_cases c30 : y373.length + t349.length < 2932031007402
                    · rw [if_pos c30] at H
                      have LMc30 := Aside0.mk c30
                      clear c30
                      obtain ⟨y376, hy376⟩ : ∃ y_ : List (S36), y_ = (y373 ++ t349) := ⟨_, rfl⟩
                      replace H : (if y376.length + t353.length < 2932031007402 then ((some (y376 ++ t353 : List (S36))).bind fun y379 => (if t370 = 0 then (if (mx (y379.length : Int) 1) = 0 then (none) else (if (wrap64 (1 + (Int.tmod (wrap64 (a2)) (mx (y379.length : Int) 1)))) > (y379.length : Int) then (some false) else (if 0 ≤ (wrap64 (1 + (Int.tmod (wrap64 (a2)) (mx (y379.length : Int) 1)))) then (if (wrap64 (1 + (Int.tmod (wrap64 (a2)) (mx (y379.length : Int) 1)))) ≤ (y379.length : Int) then ((text_Write.f (y379.take ((wrap64 (1 + (Int.tmod (wrap64 (a2)) (mx (y379.length : Int) 1)))) : Int).toNat)).bind fun bt388 => ((text_Write.f t369).bind fun bt392 => (if bt388.2 = 0 then (if bt392.2 = 0 then (compositorlaw13_TextJoins.j2 kj14 t348 t369 y379 bt388.1 bt392.1 (decide ((bt388.1.length : Int) > (bt392.1.length : Int)))) else (compositorlaw13_TextJoins.j2 kj14 t348 t369 y379 bt388.1 bt392.1 true)) else (compositorlaw13_TextJoins.j2 kj14 t348 t369 y379 bt388.1 bt392.1 true)))) else (none)) else (none)))) else (if t348 = true then ((text_Check.f y379).bind fun t382 => (some (!t382))) else (some false)))) else (none)) = some r := by first | (rw [hy376]; with_reducible exact H) | (have H2_ := (Option.bind_some _ _).symm.trans H; rw [hy376]; with_reducible exact H2_) | (have H2_ := (Option.bind_some _ _).symm.trans H; with_reducible exact H2_) | with_reducible exact H | (rw [hy376]; exact H) | exact H
                      have Ny376 := Aside0.mk hy376
                      clear hy376
                      by_cases c31 : y376.length + t353.length < 2932031007402
                      · rw [if_pos c31] at H
                        have LMc31 := Aside0.mk c31
                        clear c31
                        obtain ⟨y379, hy379⟩ : ∃ y_ : List (S36), y_ = (y376 ++ t353) := ⟨_, rfl⟩
                        replace H : (if t370 = 0 then (if (mx (y379.length : Int) 1) = 0 then (none) else (if (wrap64 (1 + (Int.tmod (wrap64 (a2)) (mx (y379.length : Int) 1)))) > (y379.length : Int) then (some false) else (if 0 ≤ (wrap64 (1 + (Int.tmod (wrap64 (a2)) (mx (y379.length : Int) 1)))) then (if (wrap64 (1 + (Int.tmod (wrap64 (a2)) (mx (y379.length : Int) 1)))) ≤ (y379.length : Int) then ((text_Write.f (y379.take ((wrap64 (1 + (Int.tmod (wrap64 (a2)) (mx (y379.length : Int) 1)))) : Int).toNat)).bind fun bt388 => ((text_Write.f t369).bind fun bt392 => (if bt388.2 = 0 then (if bt392.2 = 0 then (compositorlaw13_TextJoins.j2 kj14 t348 t369 y379 bt388.1 bt392.1 (decide ((bt388.1.length : Int) > (bt392.1.length : Int)))) else (compositorlaw13_TextJoins.j2 kj14 t348 t369 y379 bt388.1 bt392.1 true)) else (compositorlaw13_TextJoins.j2 kj14 t348 t369 y379 bt388.1 bt392.1 true)))) else (none)) else (none)))) else (if t348 = true then ((text_Check.f y379).bind fun t382 => (some (!t382))) else (some false))) = some r := by first | (rw [hy379]; with_reducible exact H) | (have H2_ := (Option.bind_some _ _).symm.trans H; rw [hy379]; with_reducible exact H2_) | (have H2_ := (Option.bind_some _ _).symm.trans H; with_reducible exact H2_) | with_reducible exact H | (rw [hy379]; exact H) | exact H
                        have Ny379 := Aside0.mk hy379
                        clear hy379
                        by_cases c32 : t370 = 0
                        · rw [if_pos c32] at H
                          have c32b0 : (t370 == 0) = true := beq_iff_eq.mpr c32
                          have c32b1 : (t370 != 0) = false := bne_eq_false_iff_eq.mpr c32
                          clear c32
                          obtain ⟨ji33, hji33⟩ : ∃ j_ : Int, (mx (y379.length : Int) 1) = j_ := ⟨_, rfl⟩
                          replace H : (if (ji33) = 0 then (none) else (if (wrap64 (1 + (Int.tmod (wrap64 (a2)) (ji33)))) > (y379.length : Int) then (some false) else (if 0 ≤ (wrap64 (1 + (Int.tmod (wrap64 (a2)) (ji33)))) then (if (wrap64 (1 + (Int.tmod (wrap64 (a2)) (ji33)))) ≤ (y379.length : Int) then ((text_Write.f (y379.take ((wrap64 (1 + (Int.tmod (wrap64 (a2)) (ji33)))) : Int).toNat)).bind fun bt388 => ((text_Write.f t369).bind fun bt392 => (if bt388.2 = 0 then (if bt392.2 = 0 then (compositorlaw13_TextJoins.j2 kj14 t348 t369 y379 bt388.1 bt392.1 (decide ((bt388.1.length : Int) > (bt392.1.length : Int)))) else (compositorlaw13_TextJoins.j2 kj14 t348 t369 y379 bt388.1 bt392.1 true)) else (compositorlaw13_TextJoins.j2 kj14 t348 t369 y379 bt388.1 bt392.1 true)))) else (none)) else (none)))) = some r := by first | (rw [hji33] at H; exact H) | (simp only [hji33] at H ⊢; exact H)
                          (try (have hji33l : 1 ≤ ji33 := by (rw [← hji33]; unfold mx; (repeat' split) <;> omega)))
                          (try (have hji33m : 0 ≤ ji33 := by omega))
                          have hji33_ : (if (y379.length : Int) < 1 then 1 else (y379.length : Int)) = ji33 := hji33
                          by_cases c34 : (ji33) = 0
                          · rw [if_pos c34] at H
                            exact absurd H (by simp)
                          · rw [if_neg c34] at H
                            have c34b0 : ((ji33) == 0) = false := beq_eq_false_iff_ne.mpr c34
                            have c34b1 : ((ji33) != 0) = true := bne_iff_ne.mpr c34
                            by_cases c35 : (wrap64 (1 + (Int.tmod (wrap64 (a2)) (ji33)))) > (y379.length : Int)
                            · rw [if_pos c35] at H
                              have c35b0 : decide ((y379.length : Int) < (wrap64 (1 + (Int.tmod (wrap64 (a2)) (ji33))))) = true := decide_eq_true c35
                              clear c35
                              obtain rfl := Option.some.inj H
                              go_wp2_with (first | ((with_reducible refine gate_dst (N := 66) rfl ?_); (try (refine gate_guard (by rfl) ?_; dsimp only)); refine Kd.N_lit k36 _ 36 ?hg (N' := 66) ?hd (xs := ([] : List (S36))) (inner := []) (ok := (fun k_ => some k_ ≠ (v351 : Value).ownBlock ∧ some k_ ≠ (v355 : Value).ownBlock ∧ some k_ ≠ (v371 : Value).ownBlock)) (okp := (fun k_ => some k_ ≠ (v351 : Value).ownBlock ∧ some k_ ≠ (v355 : Value).ownBlock ∧ some k_ ≠ (v371 : Value).ownBlock)) ?hr ?hp (fun _ hk => hk) ((show ∀ k_, wc.heap.size ≤ k_ → (fun k_ => some k_ ≠ (v351 : Value).ownBlock ∧ some k_ ≠ (v355 : Value).ownBlock ∧ some k_ ≠ (v371 : Value).ownBlock) k_ from fun k_ hk => ⟨Kd.fresh' (Kd.N_lt (by (with_reducible repeat (first | apply Kd.N_alloc | apply Kd.N_drewN | apply Kd.N_drew)); exact HO_8.out)) k_ hk, Kd.fresh' (Kd.N_lt (by (with_reducible repeat (first | apply Kd.N_alloc | apply Kd.N_drewN | apply Kd.N_drew)); exact HO_10.out)) k_ hk, Kd.fresh' (Kd.N_lt (by (with_reducible repeat (first | apply Kd.N_alloc | apply Kd.N_drewN | apply Kd.N_drew)); exact HO_12.out)) k_ hk⟩) _ (Nat.le_refl _)) (Below.refl _ _) (Nat.le_refl _) (by simp) ?_; (case hd => rfl); (case hg => rfl); (case hr => first | (go_simp; done) | (go_simp; rfl)); (case hp => exact (Reps.none _ _)); intro v374 w36 ho37 hb hg_ hnew_; clear hg_ hnew_; (first | rw [← Ny373.out] at ho37 | (simp only [Int.reduceToNat] at ho37; rw [← Ny373.out] at ho37)); have n0_ := Aside0.mk (Kd.N_elder' (by (with_reducible repeat (first | apply Kd.N_alloc | apply Kd.N_drewN | apply Kd.N_drew)); exact HO_8.out) (Kd.N_base ho37) hb); have n1_ := Aside0.mk (Kd.N_elder' (by (with_reducible repeat (first | apply Kd.N_alloc | apply Kd.N_drewN | apply Kd.N_drew)); exact HO_10.out) (Kd.N_base ho37) hb); have n2_ := Aside0.mk (Kd.N_elder' (by (with_reducible repeat (first | apply Kd.N_alloc | apply Kd.N_drewN | apply Kd.N_drew)); exact HO_12.out) (Kd.N_base ho37) hb); have n3_ := Aside0.mk (Kd.N_lower ho37 (below_size (by repeat (first | (with_reducible first | exact HB.out | apply below_alloc | apply pw_below_drewN | apply below_drew1) | exact HB.out)))); have n4_ := Aside0.mk (below_step (by repeat (first | (with_reducible first | exact HB.out | apply below_alloc | apply pw_below_drewN | apply below_drew1) | exact HB.out)) hb); clear HO_8; clear HO_10; clear HO_12; clear HB; have HO_8 := n0_; have HO_10 := n1_; have HO_12 := n2_; have HO375 := n3_; have HB := n4_; clear n0_ n1_ n2_ n3_ n4_; clear hb ho37; obtain ⟨Ao39, co39, eo39⟩ := Kd.N_slice HO_8.out; subst eo39) | ((with_reducible refine gate_builtin (b := .append) (xs := #[.tmp 66, .tmp 67]) rfl ?_); (try (refine gate_guard (by rfl) ?_; dsimp only)); at_builtin; refine Kd.N_append_rows k36 (w0 := w) w.heap.size rfl (.tmp 66) (.tmp 67) 24 36 (.agg #[(.slice none 0 0), (.slice none 0 0)]) 48 rfl Try.underlying24 info36 rfl (by decide) (by omega) v374 y373 t349 _ _ _ (fun k_ => some k_ ≠ (v355 : Value).ownBlock ∧ some k_ ≠ (v371 : Value).ownBlock) (fun k_ => ((fun k_ => some k_ ≠ (v355 : Value).ownBlock ∧ some k_ ≠ (v371 : Value).ownBlock)) k_ ∧ some k_ ≠ (v374 : Value).ownBlock) rfl rfl ?aO ?aR (fun _ hk => hk) ?aF ?aB ?aS ?aL ?_; (case aR => exact (by skip; exact Kd.N_F (Kd.N_mono (ok' := (fun k_ => ((fun k_ => some k_ ≠ (v355 : Value).ownBlock ∧ some k_ ≠ (v371 : Value).ownBlock)) k_ ∧ some k_ ≠ (v374 : Value).ownBlock)) (HO_8.out) (fun k_ hk => ⟨⟨hk.1.1, hk.1.2⟩, hk.2⟩)))); (case aB => exact (by repeat (first | (with_reducible first | exact HB.out | apply below_alloc | apply pw_below_drewN | apply below_drew1) | exact HB.out))); (case aF => exact (fun k_ hk => ⟨Kd.fresh' (Kd.N_lt (by (with_reducible repeat (first | apply Kd.N_alloc | apply Kd.N_drewN | apply Kd.N_drew)); exact HO_10.out)) k_ hk, Kd.fresh' (Kd.N_lt (by (with_reducible repeat (first | apply Kd.N_alloc | apply Kd.N_drewN | apply Kd.N_drew)); exact HO_12.out)) k_ hk⟩)); (case aO => exact (by (with_reducible repeat (first | apply Kd.N_alloc | apply Kd.N_drewN | apply Kd.N_drew)); exact Kd.N_mono HO375.out (fun _ hk => ⟨hk.2.1, hk.2.2⟩))); (case aS => exact (below_size (by repeat (first | (with_reducible first | exact HB.out | apply below_alloc | apply pw_below_drewN | apply below_drew1) | exact HB.out)))); (case aL => have := LMc30.out; omega); intro v377 w38 ho hb hg hat; rw [← Ny376.out] at ho; have n0_ := Aside0.mk (Kd.N_afterv (ok := (fun k_ => some k_ ≠ (v355 : Value).ownBlock ∧ some k_ ≠ (v371 : Value).ownBlock)) (by (with_reducible repeat (first | apply Kd.N_alloc | apply Kd.N_drewN | apply Kd.N_drew)); exact HO_8.out) hg hat); have n1_ := Aside0.mk (Kd.N_afterv (ok := (fun k_ => some k_ ≠ (.slice Ao39 t349.length co39 : Value).ownBlock ∧ some k_ ≠ (v371 : Value).ownBlock)) (by (with_reducible repeat (first | apply Kd.N_alloc | apply Kd.N_drewN | apply Kd.N_drew)); exact HO_10.out) hg hat); have n2_ := Aside0.mk (Kd.N_afterv (ok := (fun k_ => some k_ ≠ (.slice Ao39 t349.length co39 : Value).ownBlock ∧ some k_ ≠ (v355 : Value).ownBlock)) (by (with_reducible repeat (first | apply Kd.N_alloc | apply Kd.N_drewN | apply Kd.N_drew)); exact HO_12.out) hg hat); have n3_ := Aside0.mk (hb); have n4_ := Aside0.mk (ho); clear HO_8; clear HO_10; clear HO_12; clear HB; clear HO375; have HO_8 := n0_; have HO_10 := n1_; have HO_12 := n2_; have HB := n3_; have HO378 := n4_; clear n0_ n1_ n2_ n3_ n4_; clear ho hb hg hat; obtain ⟨Ao41, co41, eo41⟩ := Kd.N_slice HO_10.out; subst eo41) | ((with_reducible refine gate_builtin (b := .append) (xs := #[.tmp 68, .tmp 69]) rfl ?_); (try (refine gate_guard (by rfl) ?_; dsimp only)); at_builtin; refine Kd.N_append_rows k36 (w0 := w) w.heap.size rfl (.tmp 68) (.tmp 69) 24 36 (.agg #[(.slice none 0 0), (.slice none 0 0)]) 48 rfl Try.underlying24 info36 rfl (by decide) (by omega) v377 y376 t353 _ _ _ (fun k_ => some k_ ≠ (v371 : Value).ownBlock) (fun k_ => ((fun k_ => some k_ ≠ (v371 : Value).ownBlock)) k_ ∧ some k_ ≠ (v377 : Value).ownBlock) rfl rfl ?aO ?aR (fun _ hk => hk) ?aF ?aB ?aS ?aL ?_; (case aR => exact (by skip; exact Kd.N_F (Kd.N_mono (ok' := (fun k_ => ((fun k_ => some k_ ≠ (v371 : Value).ownBlock)) k_ ∧ some k_ ≠ (v377 : Value).ownBlock)) (HO_10.out) (fun k_ hk => ⟨hk.1.2, hk.2⟩)))); (case aB => exact (by repeat (first | (with_reducible first | exact HB.out | apply below_alloc | apply pw_below_drewN | apply below_drew1) | exact HB.out))); (case aF => exact (fun k_ hk => Kd.fresh' (Kd.N_lt (by (with_reducible repeat (first | apply Kd.N_alloc | apply Kd.N_drewN | apply Kd.N_drew)); exact HO_12.out)) k_ hk)); (case aO => exact (by (with_reducible repeat (first | apply Kd.N_alloc | apply Kd.N_drewN | apply Kd.N_drew)); exact Kd.N_mono HO378.out (fun _ hk => hk.2))); (case aS => exact (below_size (by repeat (first | (with_reducible first | exact HB.out | apply below_alloc | apply pw_below_drewN | apply below_drew1) | exact HB.out)))); (case aL => have := LMc31.out; omega); intro v380 w40 ho hb hg hat; rw [← Ny379.out] at ho; have n0_ := Aside0.mk (Kd.N_afterv (ok := (fun k_ => some k_ ≠ (.slice Ao41 t353.length co41 : Value).ownBlock ∧ some k_ ≠ (v371 : Value).ownBlock)) (by (with_reducible repeat (first | apply Kd.N_alloc | apply Kd.N_drewN | apply Kd.N_drew)); exact HO_8.out) hg hat); have n1_ := Aside0.mk (Kd.N_afterv (ok := (fun k_ => some k_ ≠ (.slice Ao39 t349.length co39 : Value).ownBlock ∧ some k_ ≠ (v371 : Value).ownBlock)) (by (with_reducible repeat (first | apply Kd.N_alloc | apply Kd.N_drewN | apply Kd.N_drew)); exact HO_10.out) hg hat); have n2_ := Aside0.mk (Kd.N_afterv (ok := (fun k_ => some k_ ≠ (.slice Ao39 t349.length co39 : Value).ownBlock ∧ some k_ ≠ (.slice Ao41 t353.length co41 : Value).ownBlock)) (by (with_reducible repeat (first | apply Kd.N_alloc | apply Kd.N_drewN | apply Kd.N_drew)); exact HO_12.out) hg hat); have n3_ := Aside0.mk (hb); have n4_ := Aside0.mk (ho); clear HO_8; clear HO_10; clear HO_12; clear HB; clear HO378; have HO_8 := n0_; have HO_10 := n1_; have HO_12 := n2_; have HB := n3_; have HO381 := n4_; clear n0_ n1_ n2_ n3_ n4_; clear ho hb hg hat; obtain ⟨Ao42, co42, eo42⟩ := Kd.N_slice HO381.out; subst eo42))
                              go_ret
                              exact ⟨by first | rfl | (simp [errW_none, errW_some] <;> rfl) | (simp only [← hji33]; first | rfl | (simp [errW_none, errW_some] <;> rfl)) | (simp [*, errW_none, errW_some] <;> rfl), by repeat (first | (with_reducible first | exact HB.out | apply below_alloc | apply pw_below_drewN | apply below_drew1) | exact HB.out)⟩
                            · rw [if_neg c35] at H
                              have c35b0 : decide ((y379.length : Int) < (wrap64 (1 + (Int.tmod (wrap64 (a2)) (ji33))))) = false := decide_eq_false c35
                              clear c35
                              obtain ⟨ji43, hji43⟩ : ∃ j_ : Int, (wrap64 (1 + (Int.tmod (wrap64 (a2)) (ji33)))) = j_ := ⟨_, rfl⟩
                              replace H : (if 0 ≤ (ji43) then (if (ji43) ≤ (y379.length : Int) then ((text_Write.f (y379.take ((ji43) : Int).toNat)).bind fun bt388 => ((text_Write.f t369).bind fun bt392 => (if bt388.2 = 0 then (if bt392.2 = 0 then (compositorlaw13_TextJoins.j2 kj14 t348 t369 y379 bt388.1 bt392.1 (decide ((bt388.1.length : Int) > (bt392.1.length : Int)))) else (compositorlaw13_TextJoins.j2 kj14 t348 t369 y379 bt388.1 bt392.1 true)) else (compositorlaw13_TextJoins.j2 kj14 t348 t369 y379 bt388.1 bt392.1 true)))) else (none)) else (none)) = some r := by first | (rw [hji43] at H; exact H) | (simp only [hji43] at H ⊢; exact H)
                              (try rw [hji43] at c35b0)
                              have hji43w : (IntKind.i64.wrap (1 + (Int.tmod (wrap64 (a2)) (ji33)))) = ji43 := (i64_w _).trans hji43
                              by_cases c44 : 0 ≤ (ji43)
                              · rw [if_pos c44] at H
                                have c44b0 := eq_true c44
                                have c44b1 : decide (0 ≤ (ji43)) = true := decide_eq_true c44
                                clear c44
                                by_cases c45 : (ji43) ≤ (y379.length : Int)
                                · rw [if_pos c45] at H
                                  have c45b0 := eq_true c45
                                  have c45b1 : decide ((ji43) ≤ (y379.length : Int)) = true := decide_eq_true c45
                                  clear c45
                                  obtain ⟨y383, hy383⟩ : ∃ y_ : List (S36), y_ = (y379.take ((ji43) : Int).toNat) := ⟨_, rfl⟩
                                  replace H : ((text_Write.f y383).bind fun bt388 => ((text_Write.f t369).bind fun bt392 => (if bt388.2 = 0 then (if bt392.2 = 0 then (compositorlaw13_TextJoins.j2 kj14 t348 t369 y379 bt388.1 bt392.1 (decide ((bt388.1.length : Int) > (bt392.1.length : Int)))) else (compositorlaw13_TextJoins.j2 kj14 t348 t369 y379 bt388.1 bt392.1 true)) else (compositorlaw13_TextJoins.j2 kj14 t348 t369 y379 bt388.1 bt392.1 true)))) = some r := by first | (rw [hy383]; with_reducible exact H) | (have H2_ := (Option.bind_some _ _).symm.trans H; rw [hy383]; with_reducible exact H2_) | (have H2_ := (Option.bind_some _ _).symm.trans H; with_reducible exact H2_) | with_reducible exact H | (rw [hy383]; exact H) | exact H
                                  have Ny383 := Aside0.mk hy383
                                  clear hy383
                                  replace H := Option.bind_eq_some_iff.mp H
                                  obtain ⟨⟨t388, t389⟩, A460, H⟩ := H
                                  replace H : ((text_Write.f t369).bind fun bt392 => (if t389 = 0 then (if bt392.2 = 0 then (compositorlaw13_TextJoins.j2 kj14 t348 t369 y379 t388 bt392.1 (decide ((t388.length : Int) > (bt392.1.length : Int)))) else (compositorlaw13_TextJoins.j2 kj14 t348 t369 y379 t388 bt392.1 true)) else (compositorlaw13_TextJoins.j2 kj14 t348 t369 y379 t388 bt392.1 true))) = some r := H
                                  have A46 := Aside0.mk A460
                                  clear A460
                                  replace H := Option.bind_eq_some_iff.mp H
                                  obtain ⟨⟨t392, t393⟩, A470, H⟩ := H
                                  replace H : (if t389 = 0 then (if t393 = 0 then (compositorlaw13_TextJoins.j2 kj14 t348 t369 y379 t388 t392 (decide ((t388.length : Int) > (t392.length : Int)))) else (compositorlaw13_TextJoins.j2 kj14 t348 t369 y379 t388 t392 true)) else (compositorlaw13_TextJoins.j2 kj14 t348 t369 y379 t388 t392 true)) = some r := H
                                  have A47 := Aside0.mk A470
                                  clear A470
                                  have HC48 := Aside0.mk H
                                  clear H
                                  go_upto_region 17 with (first | ((with_reducible refine gate_dst (N := 66) rfl ?_); (try (refine gate_guard (by rfl) ?_; dsimp only)); refine Kd.N_lit k36 _ 36 ?hg (N' := 66) ?hd (xs := ([] : List (S36))) (inner := []) (ok := (fun k_ => some k_ ≠ (v351 : Value).ownBlock ∧ some k_ ≠ (v355 : Value).ownBlock ∧ some k_ ≠ (v371 : Value).ownBlock)) (okp := (fun k_ => some k_ ≠ (v351 : Value).ownBlock ∧ some k_ ≠ (v355 : Value).ownBlock ∧ some k_ ≠ (v371 : Value).ownBlock)) ?hr ?hp (fun _ hk => hk) ((show ∀ k_, wc.heap.size ≤ k_ → (fun k_ => some k_ ≠ (v351 : Value).ownBlock ∧ some k_ ≠ (v355 : Value).ownBlock ∧ some k_ ≠ (v371 : Value).ownBlock) k_ from fun k_ hk => ⟨Kd.fresh' (Kd.N_lt (by (with_reducible repeat (first | apply Kd.N_alloc | apply Kd.N_drewN | apply Kd.N_drew)); exact HO_8.out)) k_ hk, Kd.fresh' (Kd.N_lt (by (with_reducible repeat (first | apply Kd.N_alloc | apply Kd.N_drewN | apply Kd.N_drew)); exact HO_10.out)) k_ hk, Kd.fresh' (Kd.N_lt (by (with_reducible repeat (first | apply Kd.N_alloc | apply Kd.N_drewN | apply Kd.N_drew)); exact HO_12.out)) k_ hk⟩) _ (Nat.le_refl _)) (Below.refl _ _) (Nat.le_refl _) (by simp) ?_; (case hd => rfl); (case hg => rfl); (case hr => first | (go_simp; done) | (go_simp; rfl)); (case hp => exact (Reps.none _ _)); intro v374 w49 ho50 hb hg_ hnew_; clear hg_ hnew_; (first | rw [← Ny373.out] at ho50 | (simp only [Int.reduceToNat] at ho50; rw [← Ny373.out] at ho50)); have n0_ := Aside0.mk (Kd.N_elder' (by (with_reducible repeat (first | apply Kd.N_alloc | apply Kd.N_drewN | apply Kd.N_drew)); exact HO_8.out) (Kd.N_base ho50) hb); have n1_ := Aside0.mk (Kd.N_elder' (by (with_reducible repeat (first | apply Kd.N_alloc | apply Kd.N_drewN | apply Kd.N_drew)); exact HO_10.out) (Kd.N_base ho50) hb); have n2_ := Aside0.mk (Kd.N_elder' (by (with_reducible repeat (first | apply Kd.N_alloc | apply Kd.N_drewN | apply Kd.N_drew)); exact HO_12.out) (Kd.N_base ho50) hb); have n3_ := Aside0.mk (Kd.N_lower ho50 (below_size (by repeat (first | (with_reducible first | exact HB.out | apply below_alloc | apply pw_below_drewN | apply below_drew1) | exact HB.out)))); have n4_ := Aside0.mk (below_step (by repeat (first | (with_reducible first | exact HB.out | apply below_alloc | apply pw_below_drewN | apply below_drew1) | exact HB.out)) hb); clear HO_8; clear HO_10; clear HO_12; clear HB; have HO_8 := n0_; have HO_10 := n1_; have HO_12 := n2_; have HO375 := n3_; have HB := n4_; clear n0_ n1_ n2_ n3_ n4_; clear hb ho50; obtain ⟨Ao52, co52, eo52⟩ := Kd.N_slice HO_8.out; subst eo52) | ((with_reducible refine gate_builtin (b := .append) (xs := #[.tmp 66, .tmp 67]) rfl ?_); (try (refine gate_guard (by rfl) ?_; dsimp only)); at_builtin; refine Kd.N_append_rows k36 (w0 := w) w.heap.size rfl (.tmp 66) (.tmp 67) 24 36 (.agg #[(.slice none 0 0), (.slice none 0 0)]) 48 rfl Try.underlying24 info36 rfl (by decide) (by omega) v374 y373 t349 _ _ _ (fun k_ => some k_ ≠ (v355 : Value).ownBlock ∧ some k_ ≠ (v371 : Value).ownBlock) (fun k_ => ((fun k_ => some k_ ≠ (v355 : Value).ownBlock ∧ some k_ ≠ (v371 : Value).ownBlock)) k_ ∧ some k_ ≠ (v374 : Value).ownBlock) rfl rfl ?aO ?aR (fun _ hk => hk) ?aF ?aB ?aS ?aL ?_; (case aR => exact (by skip; exact Kd.N_F (Kd.N_mono (ok' := (fun k_ => ((fun k_ => some k_ ≠ (v355 : Value).ownBlock ∧ some k_ ≠ (v371 : Value).ownBlock)) k_ ∧ some k_ ≠ (v374 : Value).ownBlock)) (HO_8.out) (fun k_ hk => ⟨⟨hk.1.1, hk.1.2⟩, hk.2⟩)))); (case aB => exact (by repeat (first | (with_reducible first | exact HB.out | apply below_alloc | apply pw_below_drewN | apply below_drew1) | exact HB.out))); (case aF => exact (fun k_ hk => ⟨Kd.fresh' (Kd.N_lt (by (with_reducible repeat (first | apply Kd.N_alloc | apply Kd.N_drewN | apply Kd.N_drew)); exact HO_10.out)) k_ hk, Kd.fresh' (Kd.N_lt (by (with_reducible repeat (first | apply Kd.N_alloc | apply Kd.N_drewN | apply Kd.N_drew)); exact HO_12.out)) k_ hk⟩)); (case aO => exact (by (with_reducible repeat (first | apply Kd.N_alloc | apply Kd.N_drewN | apply Kd.N_drew)); exact Kd.N_mono HO375.out (fun _ hk => ⟨hk.2.1, hk.2.2⟩))); (case aS => exact (below_size (by repeat (first | (with_reducible first | exact HB.out | apply below_alloc | apply pw_below_drewN | apply below_drew1) | exact HB.out)))); (case aL => have := LMc30.out; omega); intro v377 w51 ho hb hg hat; rw [← Ny376.out] at ho; have n0_ := Aside0.mk (Kd.N_afterv (ok := (fun k_ => some k_ ≠ (v355 : Value).ownBlock ∧ some k_ ≠ (v371 : Value).ownBlock)) (by (with_reducible repeat (first | apply Kd.N_alloc | apply Kd.N_drewN | apply Kd.N_drew)); exact HO_8.out) hg hat); have n1_ := Aside0.mk (Kd.N_afterv (ok := (fun k_ => some k_ ≠ (.slice Ao52 t349.length co52 : Value).ownBlock ∧ some k_ ≠ (v371 : Value).ownBlock)) (by (with_reducible repeat (first | apply Kd.N_alloc | apply Kd.N_drewN | apply Kd.N_drew)); exact HO_10.out) hg hat); have n2_ := Aside0.mk (Kd.N_afterv (ok := (fun k_ => some k_ ≠ (.slice Ao52 t349.length co52 : Value).ownBlock ∧ some k_ ≠ (v355 : Value).ownBlock)) (by (with_reducible repeat (first | apply Kd.N_alloc | apply Kd.N_drewN | apply Kd.N_drew)); exact HO_12.out) hg hat); have n3_ := Aside0.mk (hb); have n4_ := Aside0.mk (ho); clear HO_8; clear HO_10; clear HO_12; clear HB; clear HO375; have HO_8 := n0_; have HO_10 := n1_; have HO_12 := n2_; have HB := n3_; have HO378 := n4_; clear n0_ n1_ n2_ n3_ n4_; clear ho hb hg hat; obtain ⟨Ao54, co54, eo54⟩ := Kd.N_slice HO_10.out; subst eo54) | ((with_reducible refine gate_builtin (b := .append) (xs := #[.tmp 68, .tmp 69]) rfl ?_); (try (refine gate_guard (by rfl) ?_; dsimp only)); at_builtin; refine Kd.N_append_rows k36 (w0 := w) w.heap.size rfl (.tmp 68) (.tmp 69) 24 36 (.agg #[(.slice none 0 0), (.slice none 0 0)]) 48 rfl Try.underlying24 info36 rfl (by decide) (by omega) v377 y376 t353 _ _ _ (fun k_ => some k_ ≠ (v371 : Value).ownBlock) (fun k_ => ((fun k_ => some k_ ≠ (v371 : Value).ownBlock)) k_ ∧ some k_ ≠ (v377 : Value).ownBlock) rfl rfl ?aO ?aR (fun _ hk => hk) ?aF ?aB ?aS ?aL ?_; (case aR => exact (by skip; exact Kd.N_F (Kd.N_mono (ok' := (fun k_ => ((fun k_ => some k_ ≠ (v371 : Value).ownBlock)) k_ ∧ some k_ ≠ (v377 : Value).ownBlock)) (HO_10.out) (fun k_ hk => ⟨hk.1.2, hk.2⟩)))); (case aB => exact (by repeat (first | (with_reducible first | exact HB.out | apply below_alloc | apply pw_below_drewN | apply below_drew1) | exact HB.out))); (case aF => exact (fun k_ hk => Kd.fresh' (Kd.N_lt (by (with_reducible repeat (first | apply Kd.N_alloc | apply Kd.N_drewN | apply Kd.N_drew)); exact HO_12.out)) k_ hk)); (case aO => exact (by (with_reducible repeat (first | apply Kd.N_alloc | apply Kd.N_drewN | apply Kd.N_drew)); exact Kd.N_mono HO378.out (fun _ hk => hk.2))); (case aS => exact (below_size (by repeat (first | (with_reducible first | exact HB.out | apply below_alloc | apply pw_below_drewN | apply below_drew1) | exact HB.out)))); (case aL => have := LMc31.out; omega); intro v380 w53 ho hb hg hat; rw [← Ny379.out] at ho; have n0_ := Aside0.mk (Kd.N_afterv (ok := (fun k_ => some k_ ≠ (.slice Ao54 t353.length co54 : Value).ownBlock ∧ some k_ ≠ (v371 : Value).ownBlock)) (by (with_reducible repeat (first | apply Kd.N_alloc | apply Kd.N_drewN | apply Kd.N_drew)); exact HO_8.out) hg hat); have n1_ := Aside0.mk (Kd.N_afterv (ok := (fun k_ => some k_ ≠ (.slice Ao52 t349.length co52 : Value).ownBlock ∧ some k_ ≠ (v371 : Value).ownBlock)) (by (with_reducible repeat (first | apply Kd.N_alloc | apply Kd.N_drewN | apply Kd.N_drew)); exact HO_10.out) hg hat); have n2_ := Aside0.mk (Kd.N_afterv (ok := (fun k_ => some k_ ≠ (.slice Ao52 t349.length co52 : Value).ownBlock ∧ some k_ ≠ (.slice Ao54 t353.length co54 : Value).ownBlock)) (by (with_reducible repeat (first | apply Kd.N_alloc | apply Kd.N_drewN | apply Kd.N_drew)); exact HO_12.out) hg hat); have n3_ := Aside0.mk (hb); have n4_ := Aside0.mk (ho); clear HO_8; clear HO_10; clear HO_12; clear HB; clear HO378; have HO_8 := n0_; have HO_10 := n1_; have HO_12 := n2_; have HB := n3_; have HO381 := n4_; clear n0_ n1_ n2_ n3_ n4_; clear ho hb hg hat; obtain ⟨Ao55, co55, eo55⟩ := Kd.N_slice HO381.out; subst eo55; have q56 : ((ji43) : Int) ≤ ((y379.length : Int) : Int) := of_decide_eq_true (by first | (with_reducible assumption) | assumption); obtain ⟨i056, hi056, _, hsz56, _⟩ := info_parts info36; have hroom56 : y379.length ≤ co55 := (Kd.N_reads' HO381.out).2.1; have hC56 : Kd.F k36 _ _ Ao55 y379.length y379 := (Kd.V_at (base := w.heap.size) (Kd.N_V HO381.out)).2.2; have hcut56 := cut_to (P := Try.prog) 24 36 .i64 Try.underlying24 hi056 Ao55 y379.length co55 (ji43) (of_decide_eq_true (by first | (with_reducible assumption) | assumption)) q56 hroom56; have hr56 := Kd.F_take (m := ((ji43) : Int).toNat) hC56 (by omega); have hy56 : y383.length = ((ji43) : Int).toNat := (by rw [Ny383.out, List.length_take]; omega); rw [← Ny383.out] at hr56; rw [← hy56] at hcut56; have HO387 := Aside0.mk (show Kd.V k36 36 _ w.heap.size _ (.slice Ao55 y383.length co55) y383 from Kd.V_mk (by omega) hr56); have HC387 := Aside0.mk (show y383.length ≤ co55 from by omega); clear hr56 hC56 hroom56 hi056 hsz56; have KY56 := Aside0.mk hy56; clear hy56; replace q56 := eq_true q56) | ((with_reducible refine gate_callee (f := 15) rfl ?_); refine goesL_ (some 94) rfl rfl Try.func15 (by kernel_rfl) rfl #[.slice Ao55 y383.length co55] rfl (by (try simp only [List.map_toArray, List.map_cons, List.map_nil]); first | done | rfl | (simp only [List.length_drop, List.length_take]; rfl)) ?_; (with_reducible refine (text_Write.calls _ _ y383 t388 t389 _ ?side1 ?side2 A46.out).mono ?_); (case side1 => repeat (first | exact (Kd.V_reads' HO387.out).2.2 | (with_reducible refine Kd.C_alloc ?_ _) | (with_reducible refine Kd.C_drewN ?_ _) | (with_reducible refine Kd.C_drew ?_))); (case side2 => exact (Kd.V_reads' HO387.out).2.1); rintro e w57 ⟨v390, rfl, ho0, hb⟩; refine ⟨_, rfl, ?_⟩; have n0_ := Aside0.mk (Kd.N_elder' (by (with_reducible repeat (first | apply Kd.N_alloc | apply Kd.N_drewN | apply Kd.N_drew)); exact HO_8.out) (Kd.R_base ho0) hb); have n1_ := Aside0.mk (Kd.N_elder' (by (with_reducible repeat (first | apply Kd.N_alloc | apply Kd.N_drewN | apply Kd.N_drew)); exact HO_10.out) (Kd.R_base ho0) hb); have n2_ := Aside0.mk (Kd.N_elder' (by (with_reducible repeat (first | apply Kd.N_alloc | apply Kd.N_drewN | apply Kd.N_drew)); exact HO_12.out) (Kd.R_base ho0) hb); have n3_ := Aside0.mk (Kd.N_elder' (by (with_reducible repeat (first | apply Kd.N_alloc | apply Kd.N_drewN | apply Kd.N_drew)); exact HO381.out) (Kd.R_base ho0) hb); have n4_ := Aside0.mk (Kd.V_elder' (by (with_reducible repeat (first | apply Kd.V_alloc | apply Kd.V_drewN | apply Kd.V_drew)); exact HO387.out) (Kd.R_base ho0) hb); have n5_ := Aside0.mk (Kd.R_lower ho0 (below_size (by repeat (first | (with_reducible first | exact HB.out | apply below_alloc | apply pw_below_drewN | apply below_drew1) | exact HB.out)))); have n6_ := Aside0.mk (below_step (by repeat (first | (with_reducible first | exact HB.out | apply below_alloc | apply pw_below_drewN | apply below_drew1) | exact HB.out)) hb); clear HO_8; clear HO_10; clear HO_12; clear HO381; clear HO387; clear HB; have HO_8 := n0_; have HO_10 := n1_; have HO_12 := n2_; have HO381 := n3_; have HO387 := n4_; have HO391 := n5_; have HB := n6_; clear n0_ n1_ n2_ n3_ n4_ n5_ n6_; (try clear hb); (try clear hb2); (try clear hk); (try clear hi); (try clear ho0); obtain ⟨Ao58, co58, eo58⟩ := Kd.N_slice HO_12.out; subst eo58) | ((with_reducible refine gate_callee (f := 15) rfl ?_); refine goesL_ (some 99) rfl rfl Try.func15 (by kernel_rfl) rfl #[.slice Ao58 t369.length co58] rfl (by (try simp only [List.map_toArray, List.map_cons, List.map_nil]); first | done | rfl | (simp only [List.length_drop, List.length_take]; rfl)) ?_; (with_reducible refine (text_Write.calls _ _ t369 t392 t393 _ ?side1 ?side2 A47.out).mono ?_); (case side1 => repeat (first | exact (Kd.N_reads' HO_12.out).2.2 | (with_reducible refine Kd.C_alloc ?_ _) | (with_reducible refine Kd.C_drewN ?_ _) | (with_reducible refine Kd.C_drew ?_))); (case side2 => exact (Kd.N_reads' HO_12.out).2.1); rintro e w59 ⟨v394, rfl, ho0, hb⟩; refine ⟨_, rfl, ?_⟩; have n0_ := Aside0.mk (Kd.N_elder' (by (with_reducible repeat (first | apply Kd.N_alloc | apply Kd.N_drewN | apply Kd.N_drew)); exact HO_8.out) (Kd.R_base ho0) hb); have n1_ := Aside0.mk (Kd.N_elder' (by (with_reducible repeat (first | apply Kd.N_alloc | apply Kd.N_drewN | apply Kd.N_drew)); exact HO_10.out) (Kd.R_base ho0) hb); have n2_ := Aside0.mk (Kd.N_elder' (by (with_reducible repeat (first | apply Kd.N_alloc | apply Kd.N_drewN | apply Kd.N_drew)); exact HO_12.out) (Kd.R_base ho0) hb); have n3_ := Aside0.mk (Kd.N_elder' (by (with_reducible repeat (first | apply Kd.N_alloc | apply Kd.N_drewN | apply Kd.N_drew)); exact HO381.out) (Kd.R_base ho0) hb); have n4_ := Aside0.mk (Kd.V_elder' (by (with_reducible repeat (first | apply Kd.V_alloc | apply Kd.V_drewN | apply Kd.V_drew)); exact HO387.out) (Kd.R_base ho0) hb); have n5_ := Aside0.mk (Kd.R_elder' (by (with_reducible repeat (first | apply Kd.R_alloc | apply Kd.R_drewN | apply Kd.R_drew)); exact HO391.out) (Kd.R_base ho0) hb); have n6_ := Aside0.mk (Kd.R_lower (Kd.R_new' ho0 (Kd.R_lt (by (with_reducible repeat (first | apply Kd.R_alloc | apply Kd.R_drewN | apply Kd.R_drew)); exact HO391.out))) (below_size (by repeat (first | (with_reducible first | exact HB.out | apply below_alloc | apply pw_below_drewN | apply below_drew1) | exact HB.out)))); have n7_ := Aside0.mk (below_step (by repeat (first | (with_reducible first | exact HB.out | apply below_alloc | apply pw_below_drewN | apply below_drew1) | exact HB.out)) hb); clear HO_8; clear HO_10; clear HO_12; clear HO381; clear HO387; clear HO391; clear HB; have HO_8 := n0_; have HO_10 := n1_; have HO_12 := n2_; have HO381 := n3_; have HO387 := n4_; have HO391 := n5_; have HO395 := n6_; have HB := n7_; clear n0_ n1_ n2_ n3_ n4_ n5_ n6_ n7_; (try clear hb); (try clear hb2); (try clear hk); (try clear hi); (try clear ho0)))
                                  (try simp only [Act.put, List.setIfInBounds_toArray, List.set_cons_zero, List.set_cons_succ])
                                  go_cut [114] (fun v114 wc => ∃ (kq : Nat) (x114_47 : Bool), v114 = .bool x114_47 ∧ Aside0 (compositorlaw13_TextJoins.j2 kq t348 t369 y379 t388 t392 x114_47 = some r) ∧ Aside0 (kq ≤ kj14) ∧ Aside0 (Kd.N k36 36 wc w.heap.size (fun k_ => some k_ ≠ ((.slice Ao55 y379.length co55) : Value).ownBlock ∧ some k_ ≠ (v390 : Value).ownBlock ∧ some k_ ≠ (v394 : Value).ownBlock) (.slice Ao58 t369.length co58) t369) ∧ Aside0 (Kd.N k36 36 wc w.heap.size (fun k_ => some k_ ≠ ((.slice Ao58 t369.length co58) : Value).ownBlock ∧ some k_ ≠ (v390 : Value).ownBlock ∧ some k_ ≠ (v394 : Value).ownBlock) (.slice Ao55 y379.length co55) y379) ∧ Aside0 (Kd.R (Kd.int .u8) 5 wc w.heap.size (fun k_ => some k_ ≠ (v394 : Value).ownBlock) v390 t388) ∧ Aside0 (Kd.R (Kd.int .u8) 5 wc w.heap.size (fun k_ => some k_ ≠ (v390 : Value).ownBlock) v394 t392) ∧ Aside0 (Below w.heap.size w wc))
                                  case first =>
                                    have H := HC48.out
                                    clear HC48
                                    by_cases c60 : t389 = 0
                                    · rw [if_pos c60] at H
                                      have c60b0 : (t389 == 0) = true := beq_iff_eq.mpr c60
                                      have c60b1 : (t389 != 0) = false := bne_eq_false_iff_eq.mpr c60
                                      clear c60
                                      (first | rw [c60b0] | (simp only [i64_w, i32_w]; rw [c60b0]) | skip)
                                      by_cases c61 : t393 = 0
                                      · rw [if_pos c61] at H
                                        have c61b0 : (t393 == 0) = true := beq_iff_eq.mpr c61
                                        have c61b1 : (t393 != 0) = false := bne_eq_false_iff_eq.mpr c61
                                        clear c61
                                        have H' := Aside0.mk H
                                        clear H
                                        obtain ⟨Ao62, co62, eo62⟩ := Kd.R_slice HO391.out
                                        subst eo62
                                        obtain ⟨Ao63, co63, eo63⟩ := Kd.R_slice HO395.out
                                        subst eo63
                                        go_wp2
                                        go_meet
                                        case rel => exact ⟨_, (decide ((t388.length : Int) > (t392.length : Int))), (by first | rfl | (simp; done) | (simp [*]; done)), H', ⟨by have := HJ4.out; have := HJ14.out; first | omega | exact Nat.le_refl _⟩, ⟨by (with_reducible repeat (first | apply Kd.N_alloc | apply Kd.N_drewN | apply Kd.N_drew)); exact Kd.N_mono HO_12.out (fun _ hk => ⟨hk.1.1.2, ⟨hk.1.2, hk.2⟩⟩)⟩, ⟨by (with_reducible repeat (first | apply Kd.N_alloc | apply Kd.N_drewN | apply Kd.N_drew)); exact Kd.N_mono HO381.out (fun _ hk => ⟨hk.1.1, ⟨hk.1.2, hk.2⟩⟩)⟩, ⟨by (with_reducible repeat (first | apply Kd.R_alloc | apply Kd.R_drewN | apply Kd.R_drew)); exact Kd.R_mono HO391.out (fun _ hk => hk.2)⟩, ⟨by (with_reducible repeat (first | apply Kd.R_alloc | apply Kd.R_drewN | apply Kd.R_drew)); exact Kd.R_mono HO395.out (fun _ hk => hk.2)⟩, ⟨by repeat (first | (with_reducible first | exact HB.out | apply below_alloc | apply pw_below_drewN | apply below_drew1) | exact HB.out)⟩⟩
                                      · rw [if_neg c61] at H
                                        have c61b0 : (t393 == 0) = false := beq_eq_false_iff_ne.mpr c61
                                        have c61b1 : (t393 != 0) = true := bne_iff_ne.mpr c61
                                        have H' := Aside0.mk H
                                        clear H
                                        go_wp2
                                        go_meet
                                        case rel => exact ⟨_, (true), (by first | rfl | (simp; done) | (simp [*]; done)), H', ⟨by have := HJ4.out; have := HJ14.out; first | omega | exact Nat.le_refl _⟩, ⟨by (with_reducible repeat (first | apply Kd.N_alloc | apply Kd.N_drewN | apply Kd.N_drew)); exact Kd.N_mono HO_12.out (fun _ hk => ⟨hk.1.1.2, ⟨hk.1.2, hk.2⟩⟩)⟩, ⟨by (with_reducible repeat (first | apply Kd.N_alloc | apply Kd.N_drewN | apply Kd.N_drew)); exact Kd.N_mono HO381.out (fun _ hk => ⟨hk.1.1, ⟨hk.1.2, hk.2⟩⟩)⟩, ⟨by (with_reducible repeat (first | apply Kd.R_alloc | apply Kd.R_drewN | apply Kd.R_drew)); exact Kd.R_mono HO391.out (fun _ hk => hk.2)⟩, ⟨by (with_reducible repeat (first | apply Kd.R_alloc | apply Kd.R_drewN | apply Kd.R_drew)); exact Kd.R_mono HO395.out (fun _ hk => hk.2)⟩, ⟨by repeat (first | (with_reducible first | exact HB.out | apply below_alloc | apply pw_below_drewN | apply below_drew1) | exact HB.out)⟩⟩
                                    · rw [if_neg c60] at H
                                      have c60b0 : (t389 == 0) = false := beq_eq_false_iff_ne.mpr c60
                                      have c60b1 : (t389 != 0) = true := bne_iff_ne.mpr c60
                                      (first | rw [c60b0] | (simp only [i64_w, i32_w]; rw [c60b0]) | skip)
                                      have H' := Aside0.mk H
                                      clear H
                                      go_wp2
                                      go_meet
                                      case rel => exact ⟨_, (true), (by first | rfl | (simp; done) | (simp [*]; done)), H', ⟨by have := HJ4.out; have := HJ14.out; first | omega | exact Nat.le_refl _⟩, ⟨by (with_reducible repeat (first | apply Kd.N_alloc | apply Kd.N_drewN | apply Kd.N_drew)); exact Kd.N_mono HO_12.out (fun _ hk => ⟨hk.1.1.2, ⟨hk.1.2, hk.2⟩⟩)⟩, ⟨by (with_reducible repeat (first | apply Kd.N_alloc | apply Kd.N_drewN | apply Kd.N_drew)); exact Kd.N_mono HO381.out (fun _ hk => ⟨hk.1.1, ⟨hk.1.2, hk.2⟩⟩)⟩, ⟨by (with_reducible repeat (first | apply Kd.R_alloc | apply Kd.R_drewN | apply Kd.R_drew)); exact Kd.R_mono HO391.out (fun _ hk => hk.2)⟩, ⟨by (with_reducible repeat (first | apply Kd.R_alloc | apply Kd.R_drewN | apply Kd.R_drew)); exact Kd.R_mono HO395.out (fun _ hk => hk.2)⟩, ⟨by repeat (first | (with_reducible first | exact HB.out | apply below_alloc | apply pw_below_drewN | apply below_drew1) | exact HB.out)⟩⟩
                                  case rest =>
                                    clear HC48
                                    try clear c1
                                    try clear c2
                                    try clear p2
                                    try clear c3
                                    try clear c4
                                    try clear q5
                                    try clear c6
                                    try clear p6
                                    try clear c7
                                    try clear c7b0
                                    try clear c7b1
                                    try clear c8
                                    try clear c10
                                    try clear c11
                                    try clear c12
                                    try clear c13
                                    try clear c15
                                    try clear c25
                                    try clear c25b0
                                    try clear c25b1
                                    try clear c26
                                    try clear c27
                                    try clear c30
                                    try clear c31
                                    try clear c32
                                    try clear c32b0
                                    try clear c32b1
                                    try clear c34
                                    try clear c34b0
                                    try clear c34b1
                                    try clear c35
                                    try clear c35b0
                                    try clear c44
                                    try clear c44b0
                                    try clear c44b1
                                    try clear c45
                                    try clear c45b0
                                    try clear c45b1
                                    try clear q56
                                    try clear c60
                                    try clear c60b0
                                    try clear c60b1
                                    try clear c61
                                    try clear c61b0
                                    try clear c61b1
                                    try clear p2
                                    try clear q56
                                    obtain ⟨kq, x114_47, rfl, HA, HJ47, HO_12, HO_14, HO_16, HO_18, HB⟩ := hcut
                                    cases kq with
                                    | zero => exact absurd HA.out (by simp [compositorlaw13_TextJoins.j2])
                                    | succ kj47 =>
                                      have H := HA.out
                                      clear HA
                                      simp only [compositorlaw13_TextJoins.j2] at H
                                      by_cases c64 : x114_47 = true
                                      · subst c64
                                        have H1 : (some false) = some r := by rw [if_pos rfl] at H; exact H
                                        clear H
                                        have H := H1
                                        clear H1
                                        obtain rfl := Option.some.inj H
                                        go_wp2
                                        go_ret
                                        exact ⟨by first | rfl | (simp [errW_none, errW_some] <;> rfl) | (simp only [← hji33, ← hji43]; first | rfl | (simp [errW_none, errW_some] <;> rfl)) | (simp [*, errW_none, errW_some] <;> rfl), by repeat (first | (with_reducible first | exact HB.out | apply below_alloc | apply pw_below_drewN | apply below_drew1) | exact HB.out)⟩
                                      · replace c64 := Bool.eq_false_iff.mpr c64
                                        subst c64
                                        have H1 : (if t348 = true then ((text_Check.f y379).bind fun t396 => (if t396 = true then ((compositorref13_Same.f kj47 t369 y379).bind fun t397 => (if t397 = true then (if 0 ≤ (t388.length : Int) then (if (t388.length : Int) ≤ (t392.length : Int) then (some ((strOfNums (t392.take ((t388.length : Int) : Int).toNat)).toList == (strOfNums t388).toList)) else (none)) else (none)) else (some false))) else (some false))) else (some false)) = some r := by rw [if_neg (show ¬ (false = true) by decide)] at H; exact H
                                        clear H
                                        have H := H1
                                        clear H1
                                        by_cases c65 : t348 = true
                                        · subst c65
                                          have H1 : ((text_Check.f y379).bind fun t396 => (if t396 = true then ((compositorref13_Same.f kj47 t369 y379).bind fun t397 => (if t397 = true then (if 0 ≤ (t388.length : Int) then (if (t388.length : Int) ≤ (t392.length : Int) then (some ((strOfNums (t392.take ((t388.length : Int) : Int).toNat)).toList == (strOfNums t388).toList)) else (none)) else (none)) else (some false))) else (some false))) = some r := by rw [if_pos rfl] at H; exact H
                                          clear H
                                          have H := H1
                                          clear H1
                                          replace H := Option.bind_eq_some_iff.mp H
                                          obtain ⟨t396, A660, H⟩ := H
                                          replace H : (if t396 = true then ((compositorref13_Same.f kj47 t369 y379).bind fun t397 => (if t397 = true then (if 0 ≤ (t388.length : Int) then (if (t388.length : Int) ≤ (t392.length : Int) then (some ((strOfNums (t392.take ((t388.length : Int) : Int).toNat)).toList == (strOfNums t388).toList)) else (none)) else (none)) else (some false))) else (some false)) = some r := H
                                          have A66 := Aside0.mk A660
                                          clear A660
                                          by_cases c67 : t396 = true
                                          · subst c67
                                            have H1 : ((compositorref13_Same.f kj47 t369 y379).bind fun t397 => (if t397 = true then (if 0 ≤ (t388.length : Int) then (if (t388.length : Int) ≤ (t392.length : Int) then (some ((strOfNums (t392.take ((t388.length : Int) : Int).toNat)).toList == (strOfNums t388).toList)) else (none)) else (none)) else (some false))) = some r := by rw [if_pos rfl] at H; exact H
                                            clear H
                                            have H := H1
                                            clear H1
                                            replace H := Option.bind_eq_some_iff.mp H
                                            obtain ⟨t397, A680, H⟩ := H
                                            replace H : (if t397 = true then (if 0 ≤ (t388.length : Int) then (if (t388.length : Int) ≤ (t392.length : Int) then (some ((strOfNums (t392.take ((t388.length : Int) : Int).toNat)).toList == (strOfNums t388).toList)) else (none)) else (none)) else (some false)) = some r := H
                                            have A68 := Aside0.mk A680
                                            clear A680
                                            by_cases c69 : t397 = true
                                            · subst c69
                                              have H1 : (if 0 ≤ (t388.length : Int) then (if (t388.length : Int) ≤ (t392.length : Int) then (some ((strOfNums (t392.take ((t388.length : Int) : Int).toNat)).toList == (strOfNums t388).toList)) else (none)) else (none)) = some r := by rw [if_pos rfl] at H; exact H
                                              clear H
                                              have H := H1
                                              clear H1
                                              by_cases c70 : 0 ≤ (t388.length : Int)
                                              · rw [if_pos c70] at H
                                                have c70b0 := eq_true c70
                                                have c70b1 : decide (0 ≤ (t388.length : Int)) = true := decide_eq_true c70
                                                clear c70
                                                by_cases c71 : (t388.length : Int) ≤ (t392.length : Int)
                                                · rw [if_pos c71] at H
                                                  have c71b0 := eq_true c71
                                                  have c71b1 : decide ((t388.length : Int) ≤ (t392.length : Int)) = true := decide_eq_true c71
                                                  clear c71
                                                  obtain ⟨y398, hy398⟩ : ∃ y_ : List Int, y_ = (t392.take ((t388.length : Int) : Int).toNat) := ⟨_, rfl⟩
                                                  replace H : (some ((strOfNums y398).toList == (strOfNums t388).toList)) = some r := by first | (rw [hy398]; with_reducible exact H) | (have H2_ := (Option.bind_some _ _).symm.trans H; rw [hy398]; with_reducible exact H2_) | (have H2_ := (Option.bind_some _ _).symm.trans H; with_reducible exact H2_) | with_reducible exact H | (rw [hy398]; exact H) | exact H
                                                  have Ny398 := Aside0.mk hy398
                                                  clear hy398
                                                  obtain rfl := Option.some.inj H
                                                  try go_wp2
                                                  have n0_ := Aside0.mk (Kd.N_drew HO_12.out)
                                                  have n1_ := Aside0.mk (Kd.N_drew HO_14.out)
                                                  have n2_ := Aside0.mk (Kd.R_drew HO_16.out)
                                                  have n3_ := Aside0.mk (Kd.R_drew HO_18.out)
                                                  have n4_ := Aside0.mk (below_drew1 HB.out)
                                                  clear HO_12
                                                  clear HO_14
                                                  clear HO_16
                                                  clear HO_18
                                                  clear HB
                                                  have HO_12 := n0_
                                                  have HO_14 := n1_
                                                  have HO_16 := n2_
                                                  have HO_18 := n3_
                                                  have HB := n4_
                                                  clear n0_ n1_ n2_ n3_ n4_
                                                  refine start_ (n := 21) (S := fun w' => True) (ds := []) #[false, false, false, false, false, false, false, false, false, false, false, false, false, false, false, false, false, false, false, false, false] (by kernel_rfl) rfl rfl trivial (fun hHeld => ?_); refine with_tabW compositorlaw13_TextJoins.tab19 compositorlaw13_TextJoins.bits19 (fun HT_ HW_ => ?_)
                                                  generalize wc.drew = w72 at HO_12 HO_14 HO_16 HO_18 HB hHeld ⊢
                                                  refine pure_ (i := 0) (N := some 115) (v := ?_) (a' := ?_) #[true, false, false, false, false, false, false, false, false, false, false, false, false, false, false, false, false, false, false, false, false] rfl rfl (any_of HT_.out (by kernel_rfl)) (fun _ _ _ h => h) (Or.inl ⟨by rfl, ?_⟩) ?_ ?_
                                                  rotate_left
                                                  · intro w'
                                                    go_simp
                                                    with_reducible rfl
                                                  rotate_left
                                                  · simp only [Act.put, List.setIfInBounds_toArray, List.set_cons_zero, List.set_cons_succ, i64_w, i32_w]
                                                    rfl
                                                  refine pure_ (i := 1) (N := some 116) (v := ?_) (a' := ?_) #[true, true, false, false, false, false, false, false, false, false, false, false, false, false, false, false, false, false, false, false, false] rfl rfl (any_of HT_.out (by kernel_rfl)) (fun _ _ _ h => h) (Or.inl ⟨by rfl, ?_⟩) ?_ ?_
                                                  rotate_left
                                                  · intro w'
                                                    go_simp
                                                    with_reducible rfl
                                                  rotate_left
                                                  · simp only [Act.put, List.setIfInBounds_toArray, List.set_cons_zero, List.set_cons_succ, i64_w, i32_w]
                                                    rfl
                                                  refine pure_ (i := 2) (N := some 117) (v := ?_) (a' := ?_) #[true, true, true, false, false, false, false, false, false, false, false, false, false, false, false, false, false, false, false, false, false] rfl rfl (any_of HT_.out (by kernel_rfl)) (fun _ _ _ h => h) (Or.inl ⟨by rfl, ?_⟩) ?_ ?_
                                                  rotate_left
                                                  · intro w'
                                                    go_simp
                                                    with_reducible rfl
                                                  rotate_left
                                                  · simp only [Act.put, List.setIfInBounds_toArray, List.set_cons_zero, List.set_cons_succ, i64_w, i32_w]
                                                    rfl
                                                  refine one_ (i := 3) (N := some 118) #[true, true, true, true, false, false, false, false, false, false, false, false, false, false, false, false, false, false, false, false, false] rfl rfl (one_of HT_.out (by kernel_rfl)) (by decide) (fun K hK => ?_)
                                                  refine goes_ Try.func17 (by kernel_rfl) rfl #[.slice Ao55 y379.length co55] (by rfl) rfl rfl (by (try simp only [List.map_toArray, List.map_cons, List.map_nil]); first | done | rfl | (simp only [List.length_drop, List.length_take]; rfl)) ?_
                                                  with_reducible refine (text_Check.calls _ _ y379 true _ ?side1 ?side2 A66.out).mono ?_
                                                  (case side1 => repeat (first | exact (Kd.N_reads' HO_14.out).2.2 | (with_reducible refine Kd.C_alloc ?_ _) | (with_reducible refine Kd.C_drewN ?_ _) | (with_reducible refine Kd.C_drew ?_)))
                                                  (case side2 => exact (Kd.N_reads' HO_14.out).2.1)
                                                  rintro e w73 ⟨rfl, hb⟩
                                                  refine ⟨_, rfl, ?_⟩
                                                  have n0_ := Aside0.mk (Kd.N_below (by (with_reducible repeat (first | apply Kd.N_alloc | apply Kd.N_drewN | apply Kd.N_drew)); exact HO_12.out) hb)
                                                  have n1_ := Aside0.mk (Kd.N_below (by (with_reducible repeat (first | apply Kd.N_alloc | apply Kd.N_drewN | apply Kd.N_drew)); exact HO_14.out) hb)
                                                  have n2_ := Aside0.mk (Kd.R_below (by (with_reducible repeat (first | apply Kd.R_alloc | apply Kd.R_drewN | apply Kd.R_drew)); exact HO_16.out) hb)
                                                  have n3_ := Aside0.mk (Kd.R_below (by (with_reducible repeat (first | apply Kd.R_alloc | apply Kd.R_drewN | apply Kd.R_drew)); exact HO_18.out) hb)
                                                  have n4_ := Aside0.mk (below_step (by repeat (first | (with_reducible first | exact HB.out | apply below_alloc | apply pw_below_drewN | apply below_drew1) | exact HB.out)) hb)
                                                  clear HO_12
                                                  clear HO_14
                                                  clear HO_16
                                                  clear HO_18
                                                  clear HB
                                                  have HO_12 := n0_
                                                  have HO_14 := n1_
                                                  have HO_16 := n2_
                                                  have HO_18 := n3_
                                                  have HB := n4_
                                                  clear n0_ n1_ n2_ n3_ n4_
                                                  (try clear hb)
                                                  (try clear hb2)
                                                  (try clear hk)
                                                  (try clear hi)
                                                  refine hK.out _ _ trivial (fun hHeld => ?_)
                                                  clear hK K
                                                  refine norm_ (a' := ?_) ?_ ?_
                                                  rotate_left
                                                  · show Act.put _ (some 118) _ = _
                                                    simp only [Act.put, List.setIfInBounds_toArray, List.set_cons_zero, List.set_cons_succ, i64_w, i32_w]
                                                    rfl
                                                  refine pure_ (i := 4) (N := some 119) (v := ?_) (a' := ?_) #[true, true, true, true, true, false, false, false, false, false, false, false, false, false, false, false, false, false, false, false, false] rfl rfl (any_of HT_.out (by kernel_rfl)) (fun _ _ _ h => h) (Or.inl ⟨by rfl, ?_⟩) ?_ ?_
                                                  rotate_left
                                                  · intro w'
                                                    go_simp
                                                    with_reducible rfl
                                                  rotate_left
                                                  · simp only [Act.put, List.setIfInBounds_toArray, List.set_cons_zero, List.set_cons_succ, i64_w, i32_w]
                                                    rfl
                                                  refine pure_ (i := 5) (N := some 120) (v := ?_) (a' := ?_) #[true, true, true, true, true, true, false, false, false, false, false, false, false, false, false, false, false, false, false, false, false] rfl rfl (any_of HT_.out (by kernel_rfl)) (fun _ _ _ h => h) (Or.inl ⟨by rfl, ?_⟩) ?_ ?_
                                                  rotate_left
                                                  · intro w'
                                                    go_simp
                                                    with_reducible rfl
                                                  rotate_left
                                                  · simp only [Act.put, List.setIfInBounds_toArray, List.set_cons_zero, List.set_cons_succ, i64_w, i32_w]
                                                    rfl
                                                  refine pure_ (i := 6) (N := some 121) (v := ?_) (a' := ?_) #[true, true, true, true, true, true, true, false, false, false, false, false, false, false, false, false, false, false, false, false, false] rfl rfl (any_of HT_.out (by kernel_rfl)) (fun _ _ _ h => h) (Or.inl ⟨by rfl, ?_⟩) ?_ ?_
                                                  rotate_left
                                                  · intro w'
                                                    go_simp
                                                    with_reducible rfl
                                                  rotate_left
                                                  · simp only [Act.put, List.setIfInBounds_toArray, List.set_cons_zero, List.set_cons_succ, i64_w, i32_w]
                                                    rfl
                                                  refine pure_ (i := 7) (N := some 122) (v := ?_) (a' := ?_) #[true, true, true, true, true, true, true, true, false, false, false, false, false, false, false, false, false, false, false, false, false] rfl rfl (any_of HT_.out (by kernel_rfl)) (fun _ _ _ h => h) (Or.inl ⟨by rfl, ?_⟩) ?_ ?_
                                                  rotate_left
                                                  · intro w'
                                                    go_simp
                                                    with_reducible rfl
                                                  rotate_left
                                                  · simp only [Act.put, List.setIfInBounds_toArray, List.set_cons_zero, List.set_cons_succ, i64_w, i32_w]
                                                    rfl
                                                  refine one_ (i := 8) (N := some 123) #[true, true, true, true, true, true, true, true, true, false, false, false, false, false, false, false, false, false, false, false, false] rfl rfl (one_of HT_.out (by kernel_rfl)) (by decide) (fun K hK => ?_)
                                                  refine goes_ Try.func13 (by kernel_rfl) rfl #[.slice Ao58 t369.length co58, .slice Ao55 y379.length co55] (by rfl) rfl rfl (by (try simp only [List.map_toArray, List.map_cons, List.map_nil]); first | done | rfl | (simp only [List.length_drop, List.length_take]; rfl)) ?_
                                                  with_reducible refine (compositorref13_Same.calls kj47 _ _ t369 _ _ y379 true _ ?side1 ?side2 ?side3 ?side4 A68.out).mono ?_
                                                  (case side1 => repeat (first | exact (Kd.N_reads' HO_12.out).2.2 | (with_reducible refine Kd.C_alloc ?_ _) | (with_reducible refine Kd.C_drewN ?_ _) | (with_reducible refine Kd.C_drew ?_)))
                                                  (case side2 => exact (Kd.N_reads' HO_12.out).2.1)
                                                  (case side3 => repeat (first | exact (Kd.N_reads' HO_14.out).2.2 | (with_reducible refine Kd.C_alloc ?_ _) | (with_reducible refine Kd.C_drewN ?_ _) | (with_reducible refine Kd.C_drew ?_)))
                                                  (case side4 => exact (Kd.N_reads' HO_14.out).2.1)
                                                  rintro e w' ⟨rfl, ⟨nd, rfl⟩⟩
                                                  refine ⟨_, rfl, ?_⟩
                                                  obtain ⟨Ao74, co74, eo74⟩ := Kd.R_slice HO_16.out
                                                  (first | subst eo74 | (injection eo74 with f1_ f2_ f3_; have f4_ := f1_.symm; have f5_ := f3_.symm; clear f1_ f2_ f3_; subst f4_; subst f5_))
                                                  obtain ⟨Ao76, co76, eo76⟩ := Kd.R_slice HO_18.out
                                                  (first | subst eo76 | (injection eo76 with f1_ f2_ f3_; have f4_ := f1_.symm; have f5_ := f3_.symm; clear f1_ f2_ f3_; subst f4_; subst f5_))
                                                  have q75 : ((t388.length : Int) : Int) ≤ ((t392.length : Int) : Int) := of_decide_eq_true (by first | (with_reducible assumption) | assumption)
                                                  obtain ⟨i075, hi075, _, hsz75, _⟩ := info_parts info5
                                                  have hroom75 : t392.length ≤ co76 := (Kd.R_reads' HO_18.out).2.1
                                                  have hC75 : Kd.F (Kd.int .u8) _ _ Ao76 t392.length t392 := (Kd.V_at (base := w.heap.size) (Kd.R_V (Kd.R_apart' (Kd.R_apart' (HO_18.out) (Kd.N_typed HO_12.out) (by decide)) (Kd.N_typed HO_14.out) (by decide)))).2.2
                                                  have hcut75 := cut_to (P := Try.prog) 22 5 .i64 Try.underlying22 hi075 Ao76 t392.length co76 (t388.length : Int) (of_decide_eq_true (by first | (with_reducible assumption) | assumption)) q75 hroom75
                                                  have hr75 := Kd.F_take (m := ((t388.length : Int) : Int).toNat) hC75 (by omega)
                                                  have hy75 : y398.length = ((t388.length : Int) : Int).toNat := (by rw [Ny398.out, List.length_take]; omega)
                                                  rw [← Ny398.out] at hr75
                                                  rw [← hy75] at hcut75
                                                  have HO402 := Aside0.mk (show Kd.V (Kd.int .u8) 5 _ w.heap.size _ (.slice Ao76 y398.length co76) y398 from Kd.V_mk (by omega) hr75)
                                                  have HC402 := Aside0.mk (show y398.length ≤ co76 from by omega)
                                                  clear hr75 hC75 hroom75 hi075 hsz75
                                                  have KY75 := Aside0.mk hy75
                                                  clear hy75
                                                  replace q75 := eq_true q75
                                                  refine hK.out _ _ trivial (fun hHeld => ?_)
                                                  clear hK K
                                                  refine norm_ (a' := ?_) ?_ ?_
                                                  rotate_left
                                                  · show Act.put _ (some 123) _ = _
                                                    simp only [Act.put, List.setIfInBounds_toArray, List.set_cons_zero, List.set_cons_succ, i64_w, i32_w]
                                                    rfl
                                                  refine pure_ (i := 9) (N := some 124) (v := ?_) (a' := ?_) #[true, true, true, true, true, true, true, true, true, true, false, false, false, false, false, false, false, false, false, false, false] rfl rfl (any_of HT_.out (by kernel_rfl)) (fun _ _ _ h => h) (Or.inl ⟨by rfl, ?_⟩) ?_ ?_
                                                  rotate_left
                                                  · intro w'
                                                    go_simp
                                                    with_reducible rfl
                                                  rotate_left
                                                  · simp only [Act.put, List.setIfInBounds_toArray, List.set_cons_zero, List.set_cons_succ, i64_w, i32_w]
                                                    rfl
                                                  refine pure_ (i := 10) (N := some 125) (v := ?_) (a' := ?_) #[true, true, true, true, true, true, true, true, true, true, true, false, false, false, false, false, false, false, false, false, false] rfl rfl (any_of HT_.out (by kernel_rfl)) (fun _ _ _ h => h) (Or.inl ⟨by rfl, ?_⟩) ?_ ?_
                                                  rotate_left
                                                  · intro w'
                                                    go_simp
                                                    with_reducible rfl
                                                  rotate_left
                                                  · simp only [Act.put, List.setIfInBounds_toArray, List.set_cons_zero, List.set_cons_succ, i64_w, i32_w]
                                                    rfl
                                                  refine pure_ (i := 11) (N := some 126) (v := ?_) (a' := ?_) #[true, true, true, true, true, true, true, true, true, true, true, true, false, false, false, false, false, false, false, false, false] rfl rfl (any_of HT_.out (by kernel_rfl)) (fun _ _ _ h => h) (Or.inl ⟨by rfl, ?_⟩) ?_ ?_
                                                  rotate_left
                                                  · intro w'
                                                    go_simp
                                                    with_reducible rfl
                                                  rotate_left
                                                  · simp only [Act.put, List.setIfInBounds_toArray, List.set_cons_zero, List.set_cons_succ, i64_w, i32_w]
                                                    rfl
                                                  refine pure_ (i := 12) (N := some 127) (v := ?_) (a' := ?_) #[true, true, true, true, true, true, true, true, true, true, true, true, true, false, false, false, false, false, false, false, false] rfl rfl (any_of HT_.out (by kernel_rfl)) (fun _ _ _ h => h) (Or.inl ⟨by rfl, ?_⟩) ?_ ?_
                                                  rotate_left
                                                  · intro w'
                                                    go_simp
                                                    with_reducible rfl
                                                  rotate_left
                                                  · simp only [Act.put, List.setIfInBounds_toArray, List.set_cons_zero, List.set_cons_succ, i64_w, i32_w]
                                                    rfl
                                                  refine pure_ (i := 13) (N := some 128) (v := ?_) (a' := ?_) #[true, true, true, true, true, true, true, true, true, true, true, true, true, true, false, false, false, false, false, false, false] rfl rfl (any_of HT_.out (by kernel_rfl)) (fun _ _ _ h => h) (Or.inl ⟨by rfl, ?_⟩) ?_ ?_
                                                  rotate_left
                                                  · intro w'
                                                    go_simp
                                                    with_reducible rfl
                                                  rotate_left
                                                  · simp only [Act.put, List.setIfInBounds_toArray, List.set_cons_zero, List.set_cons_succ, i64_w, i32_w]
                                                    rfl
                                                  refine pure_ (i := 14) (N := some 129) (v := ?_) (a' := ?_) #[true, true, true, true, true, true, true, true, true, true, true, true, true, true, true, false, false, false, false, false, false] rfl rfl (any_of HT_.out (by kernel_rfl)) (fun _ _ _ h => h) (Or.inl ⟨by rfl, ?_⟩) ?_ ?_
                                                  rotate_left
                                                  · intro w'
                                                    go_simp
                                                    with_reducible rfl
                                                  rotate_left
                                                  · simp only [Act.put, List.setIfInBounds_toArray, List.set_cons_zero, List.set_cons_succ, i64_w, i32_w]
                                                    rfl
                                                  refine pure_ (i := 16) (N := some 131) (v := ?_) (a' := ?_) #[true, true, true, true, true, true, true, true, true, true, true, true, true, true, true, false, true, false, false, false, false] rfl rfl (any_of HT_.out (by kernel_rfl)) (fun _ _ _ h => h) (Or.inl ⟨by rfl, ?_⟩) ?_ ?_
                                                  rotate_left
                                                  · intro w'
                                                    go_simp
                                                    with_reducible rfl
                                                  rotate_left
                                                  · simp only [Act.put, List.setIfInBounds_toArray, List.set_cons_zero, List.set_cons_succ, i64_w, i32_w]
                                                    rfl
                                                  refine two_ (i := 15) (j := 17) (Ni := some 130) (Nj := some 132) #[true, true, true, true, true, true, true, true, true, true, true, true, true, true, true, true, true, false, false, false, false] #[true, true, true, true, true, true, true, true, true, true, true, true, true, true, true, false, true, true, false, false, false] rfl rfl rfl rfl (two_of HT_.out (by kernel_rfl)) (by decide) (by decide) (fun K hK => ?_) (fun K hK => ?_)
                                                  · have hcv77 := Kd.C_string (P := Try.prog) (c := co76) Try.underlying22 Try.underlying5 Try.underlying9 (Kd.C_drewN (Kd.V_reads' HO402.out).2.2 nd)
                                                    refine value_ (w1 := ?_) (v := ?_) (by rfl) rfl ?_ ?_
                                                    rotate_left 2
                                                    · go_simp
                                                      first | (rw [hcv77]; constructor <;> rfl) | (constructor <;> rfl) | (constructor; · rfl; · rfl)
                                                    refine hK.out _ _ trivial (fun hHeld => ?_)
                                                    clear hK K
                                                    refine norm_ (a' := ?_) ?_ ?_
                                                    rotate_left
                                                    · show Act.put _ (some 130) _ = _
                                                      simp only [Act.put, List.setIfInBounds_toArray, List.set_cons_zero, List.set_cons_succ, i64_w, i32_w]
                                                      rfl
                                                    refine one_ (i := 17) (N := some 132) #[true, true, true, true, true, true, true, true, true, true, true, true, true, true, true, true, true, true, false, false, false] rfl rfl (one_of HT_.out (by kernel_rfl)) (by decide) (fun K hK => ?_)
                                                    have hcv78 := own_string (P := Try.prog) Try.underlying22 Try.underlying5 Try.underlying9 (Kd.own_of_R (Kd.R_drewN HO_16.out nd))
                                                    refine value_ (w1 := ?_) (v := ?_) (by rfl) rfl ?_ ?_
                                                    rotate_left 2
                                                    · go_simp
                                                      first | (rw [hcv78]; constructor <;> rfl) | (constructor <;> rfl) | (constructor; · rfl; · rfl)
                                                    refine hK.out _ _ trivial (fun hHeld => ?_)
                                                    clear hK K
                                                    refine norm_ (a' := ?_) ?_ ?_
                                                    rotate_left
                                                    · show Act.put _ (some 132) _ = _
                                                      simp only [Act.put, List.setIfInBounds_toArray, List.set_cons_zero, List.set_cons_succ, i64_w, i32_w]
                                                      rfl
                                                    refine pure_ (i := 18) (N := some 133) (v := ?_) (a' := ?_) #[true, true, true, true, true, true, true, true, true, true, true, true, true, true, true, true, true, true, true, false, false] rfl rfl (any_of HT_.out (by kernel_rfl)) (fun _ _ _ h => h) (Or.inl ⟨by rfl, ?_⟩) ?_ ?_
                                                    rotate_left
                                                    · intro w'
                                                      go_simp
                                                      with_reducible rfl
                                                    rotate_left
                                                    · simp only [Act.put, List.setIfInBounds_toArray, List.set_cons_zero, List.set_cons_succ, i64_w, i32_w]
                                                      rfl
                                                    refine pure_ (i := 19) (N := some 134) (v := ?_) (a' := ?_) #[true, true, true, true, true, true, true, true, true, true, true, true, true, true, true, true, true, true, true, true, false] rfl rfl (any_of HT_.out (by kernel_rfl)) (fun _ _ _ h => h) (Or.inl ⟨by rfl, ?_⟩) ?_ ?_
                                                    rotate_left
                                                    · intro w'
                                                      go_simp
                                                      with_reducible rfl
                                                    rotate_left
                                                    · simp only [Act.put, List.setIfInBounds_toArray, List.set_cons_zero, List.set_cons_succ, i64_w, i32_w]
                                                      rfl
                                                    refine pure_ (i := 20) (N := some 6) (v := ?_) (a' := ?_) #[true, true, true, true, true, true, true, true, true, true, true, true, true, true, true, true, true, true, true, true, true] rfl rfl (any_of HT_.out (by kernel_rfl)) (fun _ _ _ h => h) (Or.inl ⟨by rfl, ?_⟩) ?_ ?_
                                                    rotate_left
                                                    · intro w'
                                                      go_simp
                                                      with_reducible rfl
                                                    rotate_left
                                                    · simp only [Act.put, List.setIfInBounds_toArray, List.set_cons_zero, List.set_cons_succ, i64_w, i32_w]
                                                      rfl
                                                    refine done_ (done_of HT_.out (by kernel_rfl)) ?_
                                                    try go_wp2
                                                    go_ret
                                                    exact ⟨by first | rfl | (simp [errW_none, errW_some] <;> rfl) | (simp only [← hji33, ← hji43]; first | rfl | (simp [errW_none, errW_some] <;> rfl)) | (simp [*, errW_none, errW_some] <;> rfl), by repeat (first | (with_reducible first | exact HB.out | apply below_alloc | apply pw_below_drewN | apply below_drew1) | exact HB.out)⟩
                                                  · have hcv78 := own_string (P := Try.prog) Try.underlying22 Try.underlying5 Try.underlying9 (Kd.own_of_R (Kd.R_drewN HO_16.out nd))
                                                    refine value_ (w1 := ?_) (v := ?_) (by rfl) rfl ?_ ?_
                                                    rotate_left 2
                                                    · go_simp
                                                      first | (rw [hcv78]; constructor <;> rfl) | (constructor <;> rfl) | (constructor; · rfl; · rfl)
                                                    refine hK.out _ _ trivial (fun hHeld => ?_)
                                                    clear hK K
                                                    refine norm_ (a' := ?_) ?_ ?_
                                                    rotate_left
                                                    · show Act.put _ (some 132) _ = _
                                                      simp only [Act.put, List.setIfInBounds_toArray, List.set_cons_zero, List.set_cons_succ, i64_w, i32_w]
                                                      rfl
                                                    refine one_ (i := 15) (N := some 130) #[true, true, true, true, true, true, true, true, true, true, true, true, true, true, true, true, true, true, false, false, false] rfl rfl (one_of HT_.out (by kernel_rfl)) (by decide) (fun K hK => ?_)
                                                    have hcv77 := Kd.C_string (P := Try.prog) (c := co76) Try.underlying22 Try.underlying5 Try.underlying9 (Kd.C_drewN (Kd.V_reads' HO402.out).2.2 nd)
                                                    refine value_ (w1 := ?_) (v := ?_) (by rfl) rfl ?_ ?_
                                                    rotate_left 2
                                                    · go_simp
                                                      first | (rw [hcv77]; constructor <;> rfl) | (constructor <;> rfl) | (constructor; · rfl; · rfl)
                                                    refine hK.out _ _ trivial (fun hHeld => ?_)
                                                    clear hK K
                                                    refine norm_ (a' := ?_) ?_ ?_
                                                    rotate_left
                                                    · show Act.put _ (some 130) _ = _
                                                      simp only [Act.put, List.setIfInBounds_toArray, List.set_cons_zero, List.set_cons_succ, i64_w, i32_w]
                                                      rfl
                                                    refine pure_ (i := 18) (N := some 133) (v := ?_) (a' := ?_) #[true, true, true, true, true, true, true, true, true, true, true, true, true, true, true, true, true, true, true, false, false] rfl rfl (any_of HT_.out (by kernel_rfl)) (fun _ _ _ h => h) (Or.inl ⟨by rfl, ?_⟩) ?_ ?_
                                                    rotate_left
                                                    · intro w'
                                                      go_simp
                                                      with_reducible rfl
                                                    rotate_left
                                                    · simp only [Act.put, List.setIfInBounds_toArray, List.set_cons_zero, List.set_cons_succ, i64_w, i32_w]
                                                      rfl
                                                    refine pure_ (i := 19) (N := some 134) (v := ?_) (a' := ?_) #[true, true, true, true, true, true, true, true, true, true, true, true, true, true, true, true, true, true, true, true, false] rfl rfl (any_of HT_.out (by kernel_rfl)) (fun _ _ _ h => h) (Or.inl ⟨by rfl, ?_⟩) ?_ ?_
                                                    rotate_left
                                                    · intro w'
                                                      go_simp
                                                      with_reducible rfl
                                                    rotate_left
                                                    · simp only [Act.put, List.setIfInBounds_toArray, List.set_cons_zero, List.set_cons_succ, i64_w, i32_w]
                                                      rfl
                                                    refine pure_ (i := 20) (N := some 6) (v := ?_) (a' := ?_) #[true, true, true, true, true, true, true, true, true, true, true, true, true, true, true, true, true, true, true, true, true] rfl rfl (any_of HT_.out (by kernel_rfl)) (fun _ _ _ h => h) (Or.inl ⟨by rfl, ?_⟩) ?_ ?_
                                                    rotate_left
                                                    · intro w'
                                                      go_simp
                                                      with_reducible rfl
                                                    rotate_left
                                                    · simp only [Act.put, List.setIfInBounds_toArray, List.set_cons_zero, List.set_cons_succ, i64_w, i32_w]
                                                      rfl
                                                    refine done_ (done_of HT_.out (by kernel_rfl)) ?_
                                                    try go_wp2
                                                    go_ret
                                                    exact ⟨by first | rfl | (simp [errW_none, errW_some] <;> rfl) | (simp only [← hji33, ← hji43]; first | rfl | (simp [errW_none, errW_some] <;> rfl)) | (simp [*, errW_none, errW_some] <;> rfl), by repeat (first | (with_reducible first | exact HB.out | apply below_alloc | apply pw_below_drewN | apply below_drew1) | exact HB.out)⟩
                                                · rw [if_neg c71] at H
                                                  exact absurd H (by simp)
                                              · rw [if_neg c70] at H
                                                exact absurd H (by simp)
                                            · replace c69 := Bool.eq_false_iff.mpr c69
                                              subst c69
                                              have H1 : (some false) = some r := by rw [if_neg (show ¬ (false = true) by decide)] at H; exact H
                                              clear H
                                              have H := H1
                                              clear H1
                                              obtain rfl := Option.some.inj H
                                              try go_wp2
                                              have n0_ := Aside0.mk (Kd.N_drew HO_12.out)
                                              have n1_ := Aside0.mk (Kd.N_drew HO_14.out)
                                              have n2_ := Aside0.mk (Kd.R_drew HO_16.out)
                                              have n3_ := Aside0.mk (Kd.R_drew HO_18.out)
                                              have n4_ := Aside0.mk (below_drew1 HB.out)
                                              clear HO_12
                                              clear HO_14
                                              clear HO_16
                                              clear HO_18
                                              clear HB
                                              have HO_12 := n0_
                                              have HO_14 := n1_
                                              have HO_16 := n2_
                                              have HO_18 := n3_
                                              have HB := n4_
                                              clear n0_ n1_ n2_ n3_ n4_
                                              refine start_ (n := 21) (S := fun w' => True) (ds := []) #[false, false, false, false, false, false, false, false, false, false, false, false, false, false, false, false, false, false, false, false, false] (by kernel_rfl) rfl rfl trivial (fun hHeld => ?_); refine with_tabW compositorlaw13_TextJoins.tab19 compositorlaw13_TextJoins.bits19 (fun HT_ HW_ => ?_)
                                              generalize wc.drew = w80 at HO_12 HO_14 HO_16 HO_18 HB hHeld ⊢
                                              refine pure_ (i := 0) (N := some 115) (v := ?_) (a' := ?_) #[true, false, false, false, false, false, false, false, false, false, false, false, false, false, false, false, false, false, false, false, false] rfl rfl (any_of HT_.out (by kernel_rfl)) (fun _ _ _ h => h) (Or.inl ⟨by rfl, ?_⟩) ?_ ?_
                                              rotate_left
                                              · intro w'
                                                go_simp
                                                with_reducible rfl
                                              rotate_left
                                              · simp only [Act.put, List.setIfInBounds_toArray, List.set_cons_zero, List.set_cons_succ, i64_w, i32_w]
                                                rfl
                                              refine pure_ (i := 1) (N := some 116) (v := ?_) (a' := ?_) #[true, true, false, false, false, false, false, false, false, false, false, false, false, false, false, false, false, false, false, false, false] rfl rfl (any_of HT_.out (by kernel_rfl)) (fun _ _ _ h => h) (Or.inl ⟨by rfl, ?_⟩) ?_ ?_
                                              rotate_left
                                              · intro w'
                                                go_simp
                                                with_reducible rfl
                                              rotate_left
                                              · simp only [Act.put, List.setIfInBounds_toArray, List.set_cons_zero, List.set_cons_succ, i64_w, i32_w]
                                                rfl
                                              refine pure_ (i := 2) (N := some 117) (v := ?_) (a' := ?_) #[true, true, true, false, false, false, false, false, false, false, false, false, false, false, false, false, false, false, false, false, false] rfl rfl (any_of HT_.out (by kernel_rfl)) (fun _ _ _ h => h) (Or.inl ⟨by rfl, ?_⟩) ?_ ?_
                                              rotate_left
                                              · intro w'
                                                go_simp
                                                with_reducible rfl
                                              rotate_left
                                              · simp only [Act.put, List.setIfInBounds_toArray, List.set_cons_zero, List.set_cons_succ, i64_w, i32_w]
                                                rfl
                                              refine one_ (i := 3) (N := some 118) #[true, true, true, true, false, false, false, false, false, false, false, false, false, false, false, false, false, false, false, false, false] rfl rfl (one_of HT_.out (by kernel_rfl)) (by decide) (fun K hK => ?_)
                                              refine goes_ Try.func17 (by kernel_rfl) rfl #[.slice Ao55 y379.length co55] (by rfl) rfl rfl (by (try simp only [List.map_toArray, List.map_cons, List.map_nil]); first | done | rfl | (simp only [List.length_drop, List.length_take]; rfl)) ?_
                                              with_reducible refine (text_Check.calls _ _ y379 true _ ?side1 ?side2 A66.out).mono ?_
                                              (case side1 => repeat (first | exact (Kd.N_reads' HO_14.out).2.2 | (with_reducible refine Kd.C_alloc ?_ _) | (with_reducible refine Kd.C_drewN ?_ _) | (with_reducible refine Kd.C_drew ?_)))
                                              (case side2 => exact (Kd.N_reads' HO_14.out).2.1)
                                              rintro e w81 ⟨rfl, hb⟩
                                              refine ⟨_, rfl, ?_⟩
                                              have n0_ := Aside0.mk (Kd.N_below (by (with_reducible repeat (first | apply Kd.N_alloc | apply Kd.N_drewN | apply Kd.N_drew)); exact HO_12.out) hb)
                                              have n1_ := Aside0.mk (Kd.N_below (by (with_reducible repeat (first | apply Kd.N_alloc | apply Kd.N_drewN | apply Kd.N_drew)); exact HO_14.out) hb)
                                              have n2_ := Aside0.mk (Kd.R_below (by (with_reducible repeat (first | apply Kd.R_alloc | apply Kd.R_drewN | apply Kd.R_drew)); exact HO_16.out) hb)
                                              have n3_ := Aside0.mk (Kd.R_below (by (with_reducible repeat (first | apply Kd.R_alloc | apply Kd.R_drewN | apply Kd.R_drew)); exact HO_18.out) hb)
                                              have n4_ := Aside0.mk (below_step (by repeat (first | (with_reducible first | exact HB.out | apply below_alloc | apply pw_below_drewN | apply below_drew1) | exact HB.out)) hb)
                                              clear HO_12
                                              clear HO_14
                                              clear HO_16
                                              clear HO_18
                                              clear HB
                                              have HO_12 := n0_
                                              have HO_14 := n1_
                                              have HO_16 := n2_
                                              have HO_18 := n3_
                                              have HB := n4_
                                              clear n0_ n1_ n2_ n3_ n4_
                                              (try clear hb)
                                              (try clear hb2)
                                              (try clear hk)
                                              (try clear hi)
                                              refine hK.out _ _ trivial (fun hHeld => ?_)
                                              clear hK K
                                              refine norm_ (a' := ?_) ?_ ?_
                                              rotate_left
                                              · show Act.put _ (some 118) _ = _
                                                simp only [Act.put, List.setIfInBounds_toArray, List.set_cons_zero, List.set_cons_succ, i64_w, i32_w]
                                                rfl
                                              refine pure_ (i := 4) (N := some 119) (v := ?_) (a' := ?_) #[true, true, true, true, true, false, false, false, false, false, false, false, false, false, false, false, false, false, false, false, false] rfl rfl (any_of HT_.out (by kernel_rfl)) (fun _ _ _ h => h) (Or.inl ⟨by rfl, ?_⟩) ?_ ?_
                                              rotate_left
                                              · intro w'
                                                go_simp
                                                with_reducible rfl
                                              rotate_left
                                              · simp only [Act.put, List.setIfInBounds_toArray, List.set_cons_zero, List.set_cons_succ, i64_w, i32_w]
                                                rfl
                                              refine pure_ (i := 5) (N := some 120) (v := ?_) (a' := ?_) #[true, true, true, true, true, true, false, false, false, false, false, false, false, false, false, false, false, false, false, false, false] rfl rfl (any_of HT_.out (by kernel_rfl)) (fun _ _ _ h => h) (Or.inl ⟨by rfl, ?_⟩) ?_ ?_
                                              rotate_left
                                              · intro w'
                                                go_simp
                                                with_reducible rfl
                                              rotate_left
                                              · simp only [Act.put, List.setIfInBounds_toArray, List.set_cons_zero, List.set_cons_succ, i64_w, i32_w]
                                                rfl
                                              refine pure_ (i := 6) (N := some 121) (v := ?_) (a' := ?_) #[true, true, true, true, true, true, true, false, false, false, false, false, false, false, false, false, false, false, false, false, false] rfl rfl (any_of HT_.out (by kernel_rfl)) (fun _ _ _ h => h) (Or.inl ⟨by rfl, ?_⟩) ?_ ?_
                                              rotate_left
                                              · intro w'
                                                go_simp
                                                with_reducible rfl
                                              rotate_left
                                              · simp only [Act.put, List.setIfInBounds_toArray, List.set_cons_zero, List.set_cons_succ, i64_w, i32_w]
                                                rfl
                                              refine pure_ (i := 7) (N := some 122) (v := ?_) (a' := ?_) #[true, true, true, true, true, true, true, true, false, false, false, false, false, false, false, false, false, false, false, false, false] rfl rfl (any_of HT_.out (by kernel_rfl)) (fun _ _ _ h => h) (Or.inl ⟨by rfl, ?_⟩) ?_ ?_
                                              rotate_left
                                              · intro w'
                                                go_simp
                                                with_reducible rfl
                                              rotate_left
                                              · simp only [Act.put, List.setIfInBounds_toArray, List.set_cons_zero, List.set_cons_succ, i64_w, i32_w]
                                                rfl
                                              refine one_ (i := 8) (N := some 123) #[true, true, true, true, true, true, true, true, true, false, false, false, false, false, false, false, false, false, false, false, false] rfl rfl (one_of HT_.out (by kernel_rfl)) (by decide) (fun K hK => ?_)
                                              refine goes_ Try.func13 (by kernel_rfl) rfl #[.slice Ao58 t369.length co58, .slice Ao55 y379.length co55] (by rfl) rfl rfl (by (try simp only [List.map_toArray, List.map_cons, List.map_nil]); first | done | rfl | (simp only [List.length_drop, List.length_take]; rfl)) ?_
                                              with_reducible refine (compositorref13_Same.calls kj47 _ _ t369 _ _ y379 false _ ?side1 ?side2 ?side3 ?side4 A68.out).mono ?_
                                              (case side1 => repeat (first | exact (Kd.N_reads' HO_12.out).2.2 | (with_reducible refine Kd.C_alloc ?_ _) | (with_reducible refine Kd.C_drewN ?_ _) | (with_reducible refine Kd.C_drew ?_)))
                                              (case side2 => exact (Kd.N_reads' HO_12.out).2.1)
                                              (case side3 => repeat (first | exact (Kd.N_reads' HO_14.out).2.2 | (with_reducible refine Kd.C_alloc ?_ _) | (with_reducible refine Kd.C_drewN ?_ _) | (with_reducible refine Kd.C_drew ?_)))
                                              (case side4 => exact (Kd.N_reads' HO_14.out).2.1)
                                              rintro e w' ⟨rfl, ⟨nd, rfl⟩⟩
                                              refine ⟨_, rfl, ?_⟩
                                              refine hK.out _ _ trivial (fun hHeld => ?_)
                                              clear hK K
                                              refine norm_ (a' := ?_) ?_ ?_
                                              rotate_left
                                              · show Act.put _ (some 123) _ = _
                                                simp only [Act.put, List.setIfInBounds_toArray, List.set_cons_zero, List.set_cons_succ, i64_w, i32_w]
                                                rfl
                                              refine pure_ (i := 9) (N := some 124) (v := ?_) (a' := ?_) #[true, true, true, true, true, true, true, true, true, true, false, false, false, false, false, false, false, false, false, false, false] rfl rfl (any_of HT_.out (by kernel_rfl)) (fun _ _ _ h => h) (Or.inl ⟨by rfl, ?_⟩) ?_ ?_
                                              rotate_left
                                              · intro w'
                                                go_simp
                                                with_reducible rfl
                                              rotate_left
                                              · simp only [Act.put, List.setIfInBounds_toArray, List.set_cons_zero, List.set_cons_succ, i64_w, i32_w]
                                                rfl
                                              refine pure_ (i := 10) (N := some 125) (v := ?_) (a' := ?_) #[true, true, true, true, true, true, true, true, true, true, true, false, false, false, false, false, false, false, false, false, false] rfl rfl (any_of HT_.out (by kernel_rfl)) (fun _ _ _ h => h) (Or.inl ⟨by rfl, ?_⟩) ?_ ?_
                                              rotate_left
                                              · intro w'
                                                go_simp
                                                with_reducible rfl
                                              rotate_left
                                              · simp only [Act.put, List.setIfInBounds_toArray, List.set_cons_zero, List.set_cons_succ, i64_w, i32_w]
                                                rfl
                                              refine pure_ (i := 11) (N := some 126) (v := undef) (a' := ?_) #[true, true, true, true, true, true, true, true, true, true, true, true, false, false, false, false, false, false, false, false, false] rfl rfl (any_of HT_.out (by kernel_rfl)) (fun _ _ _ h => h) (Or.inr ⟨by rfl, rfl⟩) ?_ ?_
                                              rotate_left
                                              · simp only [Act.put, List.setIfInBounds_toArray, List.set_cons_zero, List.set_cons_succ, i64_w, i32_w]
                                                rfl
                                              refine pure_ (i := 12) (N := some 127) (v := undef) (a' := ?_) #[true, true, true, true, true, true, true, true, true, true, true, true, true, false, false, false, false, false, false, false, false] rfl rfl (any_of HT_.out (by kernel_rfl)) (fun _ _ _ h => h) (Or.inr ⟨by rfl, rfl⟩) ?_ ?_
                                              rotate_left
                                              · simp only [Act.put, List.setIfInBounds_toArray, List.set_cons_zero, List.set_cons_succ, i64_w, i32_w]
                                                rfl
                                              refine pure_ (i := 13) (N := some 128) (v := undef) (a' := ?_) #[true, true, true, true, true, true, true, true, true, true, true, true, true, true, false, false, false, false, false, false, false] rfl rfl (any_of HT_.out (by kernel_rfl)) (fun _ _ _ h => h) (Or.inr ⟨by rfl, rfl⟩) ?_ ?_
                                              rotate_left
                                              · simp only [Act.put, List.setIfInBounds_toArray, List.set_cons_zero, List.set_cons_succ, i64_w, i32_w]
                                                rfl
                                              refine pure_ (i := 14) (N := some 129) (v := undef) (a' := ?_) #[true, true, true, true, true, true, true, true, true, true, true, true, true, true, true, false, false, false, false, false, false] rfl rfl (any_of HT_.out (by kernel_rfl)) (fun _ _ _ h => h) (Or.inr ⟨by rfl, rfl⟩) ?_ ?_
                                              rotate_left
                                              · simp only [Act.put, List.setIfInBounds_toArray, List.set_cons_zero, List.set_cons_succ, i64_w, i32_w]
                                                rfl
                                              refine pure_ (i := 15) (N := some 130) (v := undef) (a' := ?_) #[true, true, true, true, true, true, true, true, true, true, true, true, true, true, true, true, false, false, false, false, false] rfl rfl (any_of HT_.out (by kernel_rfl)) (fun _ _ _ h => h) (Or.inr ⟨by rfl, rfl⟩) ?_ ?_
                                              rotate_left
                                              · simp only [Act.put, List.setIfInBounds_toArray, List.set_cons_zero, List.set_cons_succ, i64_w, i32_w]
                                                rfl
                                              refine pure_ (i := 16) (N := some 131) (v := undef) (a' := ?_) #[true, true, true, true, true, true, true, true, true, true, true, true, true, true, true, true, true, false, false, false, false] rfl rfl (any_of HT_.out (by kernel_rfl)) (fun _ _ _ h => h) (Or.inr ⟨by rfl, rfl⟩) ?_ ?_
                                              rotate_left
                                              · simp only [Act.put, List.setIfInBounds_toArray, List.set_cons_zero, List.set_cons_succ, i64_w, i32_w]
                                                rfl
                                              refine pure_ (i := 17) (N := some 132) (v := undef) (a' := ?_) #[true, true, true, true, true, true, true, true, true, true, true, true, true, true, true, true, true, true, false, false, false] rfl rfl (any_of HT_.out (by kernel_rfl)) (fun _ _ _ h => h) (Or.inr ⟨by rfl, rfl⟩) ?_ ?_
                                              rotate_left
                                              · simp only [Act.put, List.setIfInBounds_toArray, List.set_cons_zero, List.set_cons_succ, i64_w, i32_w]
                                                rfl
                                              refine pure_ (i := 18) (N := some 133) (v := undef) (a' := ?_) #[true, true, true, true, true, true, true, true, true, true, true, true, true, true, true, true, true, true, true, false, false] rfl rfl (any_of HT_.out (by kernel_rfl)) (fun _ _ _ h => h) (Or.inr ⟨by rfl, rfl⟩) ?_ ?_
                                              rotate_left
                                              · simp only [Act.put, List.setIfInBounds_toArray, List.set_cons_zero, List.set_cons_succ, i64_w, i32_w]
                                                rfl
                                              refine pure_ (i := 19) (N := some 134) (v := ?_) (a' := ?_) #[true, true, true, true, true, true, true, true, true, true, true, true, true, true, true, true, true, true, true, true, false] rfl rfl (any_of HT_.out (by kernel_rfl)) (fun _ _ _ h => h) (Or.inl ⟨by rfl, ?_⟩) ?_ ?_
                                              rotate_left
                                              · intro w'
                                                go_simp
                                                with_reducible rfl
                                              rotate_left
                                              · simp only [Act.put, List.setIfInBounds_toArray, List.set_cons_zero, List.set_cons_succ, i64_w, i32_w]
                                                rfl
                                              refine pure_ (i := 20) (N := some 6) (v := ?_) (a' := ?_) #[true, true, true, true, true, true, true, true, true, true, true, true, true, true, true, true, true, true, true, true, true] rfl rfl (any_of HT_.out (by kernel_rfl)) (fun _ _ _ h => h) (Or.inl ⟨by rfl, ?_⟩) ?_ ?_
                                              rotate_left
                                              · intro w'
                                                go_simp
                                                with_reducible rfl
                                              rotate_left
                                              · simp only [Act.put, List.setIfInBounds_toArray, List.set_cons_zero, List.set_cons_succ, i64_w, i32_w]
                                                rfl
                                              refine done_ (done_of HT_.out (by kernel_rfl)) ?_
                                              try go_wp2
                                              go_ret
                                              exact ⟨by first | rfl | (simp [errW_none, errW_some] <;> rfl) | (simp only [← hji33, ← hji43]; first | rfl | (simp [errW_none, errW_some] <;> rfl)) | (simp [*, errW_none, errW_some] <;> rfl), by repeat (first | (with_reducible first | exact HB.out | apply below_alloc | apply pw_below_drewN | apply below_drew1) | exact HB.out)⟩
                                          · replace c67 := Bool.eq_false_iff.mpr c67
                                            subst c67
                                            have H1 : (some false) = some r := by rw [if_neg (show ¬ (false = true) by decide)] at H; exact H
                                            clear H
                                            have H := H1
                                            clear H1
                                            obtain rfl := Option.some.inj H
                                            try go_wp2
                                            have n0_ := Aside0.mk (Kd.N_drew HO_12.out)
                                            have n1_ := Aside0.mk (Kd.N_drew HO_14.out)
                                            have n2_ := Aside0.mk (Kd.R_drew HO_16.out)
                                            have n3_ := Aside0.mk (Kd.R_drew HO_18.out)
                                            have n4_ := Aside0.mk (below_drew1 HB.out)
                                            clear HO_12
                                            clear HO_14
                                            clear HO_16
                                            clear HO_18
                                            clear HB
                                            have HO_12 := n0_
                                            have HO_14 := n1_
                                            have HO_16 := n2_
                                            have HO_18 := n3_
                                            have HB := n4_
                                            clear n0_ n1_ n2_ n3_ n4_
                                            refine start_ (n := 21) (S := fun w' => True) (ds := []) #[false, false, false, false, false, false, false, false, false, false, false, false, false, false, false, false, false, false, false, false, false] (by kernel_rfl) rfl rfl trivial (fun hHeld => ?_); refine with_tabW compositorlaw13_TextJoins.tab19 compositorlaw13_TextJoins.bits19 (fun HT_ HW_ => ?_)
                                            generalize wc.drew = w82 at HO_12 HO_14 HO_16 HO_18 HB hHeld ⊢
                                            refine pure_ (i := 0) (N := some 115) (v := ?_) (a' := ?_) #[true, false, false, false, false, false, false, false, false, false, false, false, false, false, false, false, false, false, false, false, false] rfl rfl (any_of HT_.out (by kernel_rfl)) (fun _ _ _ h => h) (Or.inl ⟨by rfl, ?_⟩) ?_ ?_
                                            rotate_left
                                            · intro w'
                                              go_simp
                                              with_reducible rfl
                                            rotate_left
                                            · simp only [Act.put, List.setIfInBounds_toArray, List.set_cons_zero, List.set_cons_succ, i64_w, i32_w]
                                              rfl
                                            refine pure_ (i := 1) (N := some 116) (v := ?_) (a' := ?_) #[true, true, false, false, false, false, false, false, false, false, false, false, false, false, false, false, false, false, false, false, false] rfl rfl (any_of HT_.out (by kernel_rfl)) (fun _ _ _ h => h) (Or.inl ⟨by rfl, ?_⟩) ?_ ?_
                                            rotate_left
                                            · intro w'
                                              go_simp
                                              with_reducible rfl
                                            rotate_left
                                            · simp only [Act.put, List.setIfInBounds_toArray, List.set_cons_zero, List.set_cons_succ, i64_w, i32_w]
                                              rfl
                                            refine pure_ (i := 2) (N := some 117) (v := ?_) (a' := ?_) #[true, true, true, false, false, false, false, false, false, false, false, false, false, false, false, false, false, false, false, false, false] rfl rfl (any_of HT_.out (by kernel_rfl)) (fun _ _ _ h => h) (Or.inl ⟨by rfl, ?_⟩) ?_ ?_
                                            rotate_left
                                            · intro w'
                                              go_simp
                                              with_reducible rfl
                                            rotate_left
                                            · simp only [Act.put, List.setIfInBounds_toArray, List.set_cons_zero, List.set_cons_succ, i64_w, i32_w]
                                              rfl
                                            refine one_ (i := 3) (N := some 118) #[true, true, true, true, false, false, false, false, false, false, false, false, false, false, false, false, false, false, false, false, false] rfl rfl (one_of HT_.out (by kernel_rfl)) (by decide) (fun K hK => ?_)
                                            refine goes_ Try.func17 (by kernel_rfl) rfl #[.slice Ao55 y379.length co55] (by rfl) rfl rfl (by (try simp only [List.map_toArray, List.map_cons, List.map_nil]); first | done | rfl | (simp only [List.length_drop, List.length_take]; rfl)) ?_
                                            with_reducible refine (text_Check.calls _ _ y379 false _ ?side1 ?side2 A66.out).mono ?_
                                            (case side1 => repeat (first | exact (Kd.N_reads' HO_14.out).2.2 | (with_reducible refine Kd.C_alloc ?_ _) | (with_reducible refine Kd.C_drewN ?_ _) | (with_reducible refine Kd.C_drew ?_)))
                                            (case side2 => exact (Kd.N_reads' HO_14.out).2.1)
                                            rintro e w83 ⟨rfl, hb⟩
                                            refine ⟨_, rfl, ?_⟩
                                            have n0_ := Aside0.mk (Kd.N_below (by (with_reducible repeat (first | apply Kd.N_alloc | apply Kd.N_drewN | apply Kd.N_drew)); exact HO_12.out) hb)
                                            have n1_ := Aside0.mk (Kd.N_below (by (with_reducible repeat (first | apply Kd.N_alloc | apply Kd.N_drewN | apply Kd.N_drew)); exact HO_14.out) hb)
                                            have n2_ := Aside0.mk (Kd.R_below (by (with_reducible repeat (first | apply Kd.R_alloc | apply Kd.R_drewN | apply Kd.R_drew)); exact HO_16.out) hb)
                                            have n3_ := Aside0.mk (Kd.R_below (by (with_reducible repeat (first | apply Kd.R_alloc | apply Kd.R_drewN | apply Kd.R_drew)); exact HO_18.out) hb)
                                            have n4_ := Aside0.mk (below_step (by repeat (first | (with_reducible first | exact HB.out | apply below_alloc | apply pw_below_drewN | apply below_drew1) | exact HB.out)) hb)
                                            clear HO_12
                                            clear HO_14
                                            clear HO_16
                                            clear HO_18
                                            clear HB
                                            have HO_12 := n0_
                                            have HO_14 := n1_
                                            have HO_16 := n2_
                                            have HO_18 := n3_
                                            have HB := n4_
                                            clear n0_ n1_ n2_ n3_ n4_
                                            (try clear hb)
                                            (try clear hb2)
                                            (try clear hk)
                                            (try clear hi)
                                            refine hK.out _ _ trivial (fun hHeld => ?_)
                                            clear hK K
                                            refine norm_ (a' := ?_) ?_ ?_
                                            rotate_left
                                            · show Act.put _ (some 118) _ = _
                                              simp only [Act.put, List.setIfInBounds_toArray, List.set_cons_zero, List.set_cons_succ, i64_w, i32_w]
                                              rfl
                                            refine pure_ (i := 4) (N := some 119) (v := ?_) (a' := ?_) #[true, true, true, true, true, false, false, false, false, false, false, false, false, false, false, false, false, false, false, false, false] rfl rfl (any_of HT_.out (by kernel_rfl)) (fun _ _ _ h => h) (Or.inl ⟨by rfl, ?_⟩) ?_ ?_
                                            rotate_left
                                            · intro w'
                                              go_simp
                                              with_reducible rfl
                                            rotate_left
                                            · simp only [Act.put, List.setIfInBounds_toArray, List.set_cons_zero, List.set_cons_succ, i64_w, i32_w]
                                              rfl
                                            refine pure_ (i := 5) (N := some 120) (v := ?_) (a' := ?_) #[true, true, true, true, true, true, false, false, false, false, false, false, false, false, false, false, false, false, false, false, false] rfl rfl (any_of HT_.out (by kernel_rfl)) (fun _ _ _ h => h) (Or.inl ⟨by rfl, ?_⟩) ?_ ?_
                                            rotate_left
                                            · intro w'
                                              go_simp
                                              with_reducible rfl
                                            rotate_left
                                            · simp only [Act.put, List.setIfInBounds_toArray, List.set_cons_zero, List.set_cons_succ, i64_w, i32_w]
                                              rfl
                                            refine pure_ (i := 6) (N := some 121) (v := undef) (a' := ?_) #[true, true, true, true, true, true, true, false, false, false, false, false, false, false, false, false, false, false, false, false, false] rfl rfl (any_of HT_.out (by kernel_rfl)) (fun _ _ _ h => h) (Or.inr ⟨by rfl, rfl⟩) ?_ ?_
                                            rotate_left
                                            · simp only [Act.put, List.setIfInBounds_toArray, List.set_cons_zero, List.set_cons_succ, i64_w, i32_w]
                                              rfl
                                            refine pure_ (i := 7) (N := some 122) (v := undef) (a' := ?_) #[true, true, true, true, true, true, true, true, false, false, false, false, false, false, false, false, false, false, false, false, false] rfl rfl (any_of HT_.out (by kernel_rfl)) (fun _ _ _ h => h) (Or.inr ⟨by rfl, rfl⟩) ?_ ?_
                                            rotate_left
                                            · simp only [Act.put, List.setIfInBounds_toArray, List.set_cons_zero, List.set_cons_succ, i64_w, i32_w]
                                              rfl
                                            refine pure_ (i := 8) (N := some 123) (v := undef) (a' := ?_) #[true, true, true, true, true, true, true, true, true, false, false, false, false, false, false, false, false, false, false, false, false] rfl rfl (any_of HT_.out (by kernel_rfl)) (fun _ _ _ h => h) (Or.inr ⟨by rfl, rfl⟩) ?_ ?_
                                            rotate_left
                                            · simp only [Act.put, List.setIfInBounds_toArray, List.set_cons_zero, List.set_cons_succ, i64_w, i32_w]
                                              rfl
                                            refine pure_ (i := 9) (N := some 124) (v := ?_) (a' := ?_) #[true, true, true, true, true, true, true, true, true, true, false, false, false, false, false, false, false, false, false, false, false] rfl rfl (any_of HT_.out (by kernel_rfl)) (fun _ _ _ h => h) (Or.inl ⟨by rfl, ?_⟩) ?_ ?_
                                            rotate_left
                                            · intro w'
                                              go_simp
                                              with_reducible rfl
                                            rotate_left
                                            · simp only [Act.put, List.setIfInBounds_toArray, List.set_cons_zero, List.set_cons_succ, i64_w, i32_w]
                                              rfl
                                            refine pure_ (i := 10) (N := some 125) (v := ?_) (a' := ?_) #[true, true, true, true, true, true, true, true, true, true, true, false, false, false, false, false, false, false, false, false, false] rfl rfl (any_of HT_.out (by kernel_rfl)) (fun _ _ _ h => h) (Or.inl ⟨by rfl, ?_⟩) ?_ ?_
                                            rotate_left
                                            · intro w'
                                              go_simp
                                              with_reducible rfl
                                            rotate_left
                                            · simp only [Act.put, List.setIfInBounds_toArray, List.set_cons_zero, List.set_cons_succ, i64_w, i32_w]
                                              rfl
                                            refine pure_ (i := 11) (N := some 126) (v := undef) (a' := ?_) #[true, true, true, true, true, true, true, true, true, true, true, true, false, false, false, false, false, false, false, false, false] rfl rfl (any_of HT_.out (by kernel_rfl)) (fun _ _ _ h => h) (Or.inr ⟨by rfl, rfl⟩) ?_ ?_
                                            rotate_left
                                            · simp only [Act.put, List.setIfInBounds_toArray, List.set_cons_zero, List.set_cons_succ, i64_w, i32_w]
                                              rfl
                                            refine pure_ (i := 12) (N := some 127) (v := undef) (a' := ?_) #[true, true, true, true, true, true, true, true, true, true, true, true, true, false, false, false, false, false, false, false, false] rfl rfl (any_of HT_.out (by kernel_rfl)) (fun _ _ _ h => h) (Or.inr ⟨by rfl, rfl⟩) ?_ ?_
                                            rotate_left
                                            · simp only [Act.put, List.setIfInBounds_toArray, List.set_cons_zero, List.set_cons_succ, i64_w, i32_w]
                                              rfl
                                            refine pure_ (i := 13) (N := some 128) (v := undef) (a' := ?_) #[true, true, true, true, true, true, true, true, true, true, true, true, true, true, false, false, false, false, false, false, false] rfl rfl (any_of HT_.out (by kernel_rfl)) (fun _ _ _ h => h) (Or.inr ⟨by rfl, rfl⟩) ?_ ?_
                                            rotate_left
                                            · simp only [Act.put, List.setIfInBounds_toArray, List.set_cons_zero, List.set_cons_succ, i64_w, i32_w]
                                              rfl
                                            refine pure_ (i := 14) (N := some 129) (v := undef) (a' := ?_) #[true, true, true, true, true, true, true, true, true, true, true, true, true, true, true, false, false, false, false, false, false] rfl rfl (any_of HT_.out (by kernel_rfl)) (fun _ _ _ h => h) (Or.inr ⟨by rfl, rfl⟩) ?_ ?_
                                            rotate_left
                                            · simp only [Act.put, List.setIfInBounds_toArray, List.set_cons_zero, List.set_cons_succ, i64_w, i32_w]
                                              rfl
                                            refine pure_ (i := 15) (N := some 130) (v := undef) (a' := ?_) #[true, true, true, true, true, true, true, true, true, true, true, true, true, true, true, true, false, false, false, false, false] rfl rfl (any_of HT_.out (by kernel_rfl)) (fun _ _ _ h => h) (Or.inr ⟨by rfl, rfl⟩) ?_ ?_
                                            rotate_left
                                            · simp only [Act.put, List.setIfInBounds_toArray, List.set_cons_zero, List.set_cons_succ, i64_w, i32_w]
                                              rfl
                                            refine pure_ (i := 16) (N := some 131) (v := undef) (a' := ?_) #[true, true, true, true, true, true, true, true, true, true, true, true, true, true, true, true, true, false, false, false, false] rfl rfl (any_of HT_.out (by kernel_rfl)) (fun _ _ _ h => h) (Or.inr ⟨by rfl, rfl⟩) ?_ ?_
                                            rotate_left
                                            · simp only [Act.put, List.setIfInBounds_toArray, List.set_cons_zero, List.set_cons_succ, i64_w, i32_w]
                                              rfl
                                            refine pure_ (i := 17) (N := some 132) (v := undef) (a' := ?_) #[true, true, true, true, true, true, true, true, true, true, true, true, true, true, true, true, true, true, false, false, false] rfl rfl (any_of HT_.out (by kernel_rfl)) (fun _ _ _ h => h) (Or.inr ⟨by rfl, rfl⟩) ?_ ?_
                                            rotate_left
                                            · simp only [Act.put, List.setIfInBounds_toArray, List.set_cons_zero, List.set_cons_succ, i64_w, i32_w]
                                              rfl
                                            refine pure_ (i := 18) (N := some 133) (v := undef) (a' := ?_) #[true, true, true, true, true, true, true, true, true, true, true, true, true, true, true, true, true, true, true, false, false] rfl rfl (any_of HT_.out (by kernel_rfl)) (fun _ _ _ h => h) (Or.inr ⟨by rfl, rfl⟩) ?_ ?_
                                            rotate_left
                                            · simp only [Act.put, List.setIfInBounds_toArray, List.set_cons_zero, List.set_cons_succ, i64_w, i32_w]
                                              rfl
                                            refine pure_ (i := 19) (N := some 134) (v := ?_) (a' := ?_) #[true, true, true, true, true, true, true, true, true, true, true, true, true, true, true, true, true, true, true, true, false] rfl rfl (any_of HT_.out (by kernel_rfl)) (fun _ _ _ h => h) (Or.inl ⟨by rfl, ?_⟩) ?_ ?_
                                            rotate_left
                                            · intro w'
                                              go_simp
                                              with_reducible rfl
                                            rotate_left
                                            · simp only [Act.put, List.setIfInBounds_toArray, List.set_cons_zero, List.set_cons_succ, i64_w, i32_w]
                                              rfl
                                            refine pure_ (i := 20) (N := some 6) (v := ?_) (a' := ?_) #[true, true, true, true, true, true, true, true, true, true, true, true, true, true, true, true, true, true, true, true, true] rfl rfl (any_of HT_.out (by kernel_rfl)) (fun _ _ _ h => h) (Or.inl ⟨by rfl, ?_⟩) ?_ ?_
                                            rotate_left
                                            · intro w'
                                              go_simp
                                              with_reducible rfl
                                            rotate_left
                                            · simp only [Act.put, List.setIfInBounds_toArray, List.set_cons_zero, List.set_cons_succ, i64_w, i32_w]
                                              rfl
                                            refine done_ (done_of HT_.out (by kernel_rfl)) ?_
                                            try go_wp2
                                            go_ret
                                            exact ⟨by first | rfl | (simp [errW_none, errW_some] <;> rfl) | (simp only [← hji33, ← hji43]; first | rfl | (simp [errW_none, errW_some] <;> rfl)) | (simp [*, errW_none, errW_some] <;> rfl), by repeat (first | (with_reducible first | exact HB.out | apply below_alloc | apply pw_below_drewN | apply below_drew1) | exact HB.out)⟩
                                        · replace c65 := Bool.eq_false_iff.mpr c65
                                          subst c65
                                          have H1 : (some false) = some r := by rw [if_neg (show ¬ (false = true) by decide)] at H; exact H
                                          clear H
                                          have H := H1
                                          clear H1
                                          obtain rfl := Option.some.inj H
                                          try go_wp2
                                          have n0_ := Aside0.mk (Kd.N_drew HO_12.out)
                                          have n1_ := Aside0.mk (Kd.N_drew HO_14.out)
                                          have n2_ := Aside0.mk (Kd.R_drew HO_16.out)
                                          have n3_ := Aside0.mk (Kd.R_drew HO_18.out)
                                          have n4_ := Aside0.mk (below_drew1 HB.out)
                                          clear HO_12
                                          clear HO_14
                                          clear HO_16
                                          clear HO_18
                                          clear HB
                                          have HO_12 := n0_
                                          have HO_14 := n1_
                                          have HO_16 := n2_
                                          have HO_18 := n3_
                                          have HB := n4_
                                          clear n0_ n1_ n2_ n3_ n4_
                                          refine start_ (n := 21) (S := fun w' => True) (ds := []) #[false, false, false, false, false, false, false, false, false, false, false, false, false, false, false, false, false, false, false, false, false] (by kernel_rfl) rfl rfl trivial (fun hHeld => ?_); refine with_tabW compositorlaw13_TextJoins.tab19 compositorlaw13_TextJoins.bits19 (fun HT_ HW_ => ?_)
                                          generalize wc.drew = w84 at HO_12 HO_14 HO_16 HO_18 HB hHeld ⊢
                                          refine pure_ (i := 0) (N := some 115) (v := ?_) (a' := ?_) #[true, false, false, false, false, false, false, false, false, false, false, false, false, false, false, false, false, false, false, false, false] rfl rfl (any_of HT_.out (by kernel_rfl)) (fun _ _ _ h => h) (Or.inl ⟨by rfl, ?_⟩) ?_ ?_
                                          rotate_left
                                          · intro w'
                                            go_simp
                                            with_reducible rfl
                                          rotate_left
                                          · simp only [Act.put, List.setIfInBounds_toArray, List.set_cons_zero, List.set_cons_succ, i64_w, i32_w]
                                            rfl
                                          refine pure_ (i := 1) (N := some 116) (v := ?_) (a' := ?_) #[true, true, false, false, false, false, false, false, false, false, false, false, false, false, false, false, false, false, false, false, false] rfl rfl (any_of HT_.out (by kernel_rfl)) (fun _ _ _ h => h) (Or.inl ⟨by rfl, ?_⟩) ?_ ?_
                                          rotate_left
                                          · intro w'
                                            go_simp
                                            with_reducible rfl
                                          rotate_left
                                          · simp only [Act.put, List.setIfInBounds_toArray, List.set_cons_zero, List.set_cons_succ, i64_w, i32_w]
                                            rfl
                                          refine pure_ (i := 2) (N := some 117) (v := undef) (a' := ?_) #[true, true, true, false, false, false, false, false, false, false, false, false, false, false, false, false, false, false, false, false, false] rfl rfl (any_of HT_.out (by kernel_rfl)) (fun _ _ _ h => h) (Or.inr ⟨by rfl, rfl⟩) ?_ ?_
                                          rotate_left
                                          · simp only [Act.put, List.setIfInBounds_toArray, List.set_cons_zero, List.set_cons_succ, i64_w, i32_w]
                                            rfl
                                          refine pure_ (i := 3) (N := some 118) (v := undef) (a' := ?_) #[true, true, true, true, false, false, false, false, false, false, false, false, false, false, false, false, false, false, false, false, false] rfl rfl (any_of HT_.out (by kernel_rfl)) (fun _ _ _ h => h) (Or.inr ⟨by rfl, rfl⟩) ?_ ?_
                                          rotate_left
                                          · simp only [Act.put, List.setIfInBounds_toArray, List.set_cons_zero, List.set_cons_succ, i64_w, i32_w]
                                            rfl
                                          refine pure_ (i := 4) (N := some 119) (v := ?_) (a' := ?_) #[true, true, true, true, true, false, false, false, false, false, false, false, false, false, false, false, false, false, false, false, false] rfl rfl (any_of HT_.out (by kernel_rfl)) (fun _ _ _ h => h) (Or.inl ⟨by rfl, ?_⟩) ?_ ?_
                                          rotate_left
                                          · intro w'
                                            go_simp
                                            with_reducible rfl
                                          rotate_left
                                          · simp only [Act.put, List.setIfInBounds_toArray, List.set_cons_zero, List.set_cons_succ, i64_w, i32_w]
                                            rfl
                                          refine pure_ (i := 5) (N := some 120) (v := ?_) (a' := ?_) #[true, true, true, true, true, true, false, false, false, false, false, false, false, false, false, false, false, false, false, false, false] rfl rfl (any_of HT_.out (by kernel_rfl)) (fun _ _ _ h => h) (Or.inl ⟨by rfl, ?_⟩) ?_ ?_
                                          rotate_left
                                          · intro w'
                                            go_simp
                                            with_reducible rfl
                                          rotate_left
                                          · simp only [Act.put, List.setIfInBounds_toArray, List.set_cons_zero, List.set_cons_succ, i64_w, i32_w]
                                            rfl
                                          refine pure_ (i := 6) (N := some 121) (v := undef) (a' := ?_) #[true, true, true, true, true, true, true, false, false, false, false, false, false, false, false, false, false, false, false, false, false] rfl rfl (any_of HT_.out (by kernel_rfl)) (fun _ _ _ h => h) (Or.inr ⟨by rfl, rfl⟩) ?_ ?_
                                          rotate_left
                                          · simp only [Act.put, List.setIfInBounds_toArray, List.set_cons_zero, List.set_cons_succ, i64_w, i32_w]
                                            rfl
                                          refine pure_ (i := 7) (N := some 122) (v := undef) (a' := ?_) #[true, true, true, true, true, true, true, true, false, false, false, false, false, false, false, false, false, false, false, false, false] rfl rfl (any_of HT_.out (by kernel_rfl)) (fun _ _ _ h => h) (Or.inr ⟨by rfl, rfl⟩) ?_ ?_
                                          rotate_left
                                          · simp only [Act.put, List.setIfInBounds_toArray, List.set_cons_zero, List.set_cons_succ, i64_w, i32_w]
                                            rfl
                                          refine pure_ (i := 8) (N := some 123) (v := undef) (a' := ?_) #[true, true, true, true, true, true, true, true, true, false, false, false, false, false, false, false, false, false, false, false, false] rfl rfl (any_of HT_.out (by kernel_rfl)) (fun _ _ _ h => h) (Or.inr ⟨by rfl, rfl⟩) ?_ ?_
                                          rotate_left
                                          · simp only [Act.put, List.setIfInBounds_toArray, List.set_cons_zero, List.set_cons_succ, i64_w, i32_w]
                                            rfl
                                          refine pure_ (i := 9) (N := some 124) (v := ?_) (a' := ?_) #[true, true, true, true, true, true, true, true, true, true, false, false, false, false, false, false, false, false, false, false, false] rfl rfl (any_of HT_.out (by kernel_rfl)) (fun _ _ _ h => h) (Or.inl ⟨by rfl, ?_⟩) ?_ ?_
                                          rotate_left
                                          · intro w'
                                            go_simp
                                            with_reducible rfl
                                          rotate_left
                                          · simp only [Act.put, List.setIfInBounds_toArray, List.set_cons_zero, List.set_cons_succ, i64_w, i32_w]
                                            rfl
                                          refine pure_ (i := 10) (N := some 125) (v := ?_) (a' := ?_) #[true, true, true, true, true, true, true, true, true, true, true, false, false, false, false, false, false, false, false, false, false] rfl rfl (any_of HT_.out (by kernel_rfl)) (fun _ _ _ h => h) (Or.inl ⟨by rfl, ?_⟩) ?_ ?_
                                          rotate_left
                                          · intro w'
                                            go_simp
                                            with_reducible rfl
                                          rotate_left
                                          · simp only [Act.put, List.setIfInBounds_toArray, List.set_cons_zero, List.set_cons_succ, i64_w, i32_w]
                                            rfl
                                          refine pure_ (i := 11) (N := some 126) (v := undef) (a' := ?_) #[true, true, true, true, true, true, true, true, true, true, true, true, false, false, false, false, false, false, false, false, false] rfl rfl (any_of HT_.out (by kernel_rfl)) (fun _ _ _ h => h) (Or.inr ⟨by rfl, rfl⟩) ?_ ?_
                                          rotate_left
                                          · simp only [Act.put, List.setIfInBounds_toArray, List.set_cons_zero, List.set_cons_succ, i64_w, i32_w]
                                            rfl
                                          refine pure_ (i := 12) (N := some 127) (v := undef) (a' := ?_) #[true, true, true, true, true, true, true, true, true, true, true, true, true, false, false, false, false, false, false, false, false] rfl rfl (any_of HT_.out (by kernel_rfl)) (fun _ _ _ h => h) (Or.inr ⟨by rfl, rfl⟩) ?_ ?_
                                          rotate_left
                                          · simp only [Act.put, List.setIfInBounds_toArray, List.set_cons_zero, List.set_cons_succ, i64_w, i32_w]
                                            rfl
                                          refine pure_ (i := 13) (N := some 128) (v := undef) (a' := ?_) #[true, true, true, true, true, true, true, true, true, true, true, true, true, true, false, false, false, false, false, false, false] rfl rfl (any_of HT_.out (by kernel_rfl)) (fun _ _ _ h => h) (Or.inr ⟨by rfl, rfl⟩) ?_ ?_
                                          rotate_left
                                          · simp only [Act.put, List.setIfInBounds_toArray, List.set_cons_zero, List.set_cons_succ, i64_w, i32_w]
                                            rfl
                                          refine pure_ (i := 14) (N := some 129) (v := undef) (a' := ?_) #[true, true, true, true, true, true, true, true, true, true, true, true, true, true, true, false, false, false, false, false, false] rfl rfl (any_of HT_.out (by kernel_rfl)) (fun _ _ _ h => h) (Or.inr ⟨by rfl, rfl⟩) ?_ ?_
                                          rotate_left
                                          · simp only [Act.put, List.setIfInBounds_toArray, List.set_cons_zero, List.set_cons_succ, i64_w, i32_w]
                                            rfl
                                          refine pure_ (i := 15) (N := some 130) (v := undef) (a' := ?_) #[true, true, true, true, true, true, true, true, true, true, true, true, true, true, true, true, false, false, false, false, false] rfl rfl (any_of HT_.out (by kernel_rfl)) (fun _ _ _ h => h) (Or.inr ⟨by rfl, rfl⟩) ?_ ?_
                                          rotate_left
                                          · simp only [Act.put, List.setIfInBounds_toArray, List.set_cons_zero, List.set_cons_succ, i64_w, i32_w]
                                            rfl
                                          refine pure_ (i := 16) (N := some 131) (v := undef) (a' := ?_) #[true, true, true, true, true, true, true, true, true, true, true, true, true, true, true, true, true, false, false, false, false] rfl rfl (any_of HT_.out (by kernel_rfl)) (fun _ _ _ h => h) (Or.inr ⟨by rfl, rfl⟩) ?_ ?_
                                          rotate_left
                                          · simp only [Act.put, List.setIfInBounds_toArray, List.set_cons_zero, List.set_cons_succ, i64_w, i32_w]
                                            rfl
                                          refine pure_ (i := 17) (N := some 132) (v := undef) (a' := ?_) #[true, true, true, true, true, true, true, true, true, true, true, true, true, true, true, true, true, true, false, false, false] rfl rfl (any_of HT_.out (by kernel_rfl)) (fun _ _ _ h => h) (Or.inr ⟨by rfl, rfl⟩) ?_ ?_
                                          rotate_left
                                          · simp only [Act.put, List.setIfInBounds_toArray, List.set_cons_zero, List.set_cons_succ, i64_w, i32_w]
                                            rfl
                                          refine pure_ (i := 18) (N := some 133) (v := undef) (a' := ?_) #[true, true, true, true, true, true, true, true, true, true, true, true, true, true, true, true, true, true, true, false, false] rfl rfl (any_of HT_.out (by kernel_rfl)) (fun _ _ _ h => h) (Or.inr ⟨by rfl, rfl⟩) ?_ ?_
                                          rotate_left
                                          · simp only [Act.put, List.setIfInBounds_toArray, List.set_cons_zero, List.set_cons_succ, i64_w, i32_w]
                                            rfl
                                          refine pure_ (i := 19) (N := some 134) (v := ?_) (a' := ?_) #[true, true, true, true, true, true, true, true, true, true, true, true, true, true, true, true, true, true, true, true, false] rfl rfl (any_of HT_.out (by kernel_rfl)) (fun _ _ _ h => h) (Or.inl ⟨by rfl, ?_⟩) ?_ ?_
                                          rotate_left
                                          · intro w'
                                            go_simp
                                            with_reducible rfl
                                          rotate_left
                                          · simp only [Act.put, List.setIfInBounds_toArray, List.set_cons_zero, List.set_cons_succ, i64_w, i32_w]
                                            rfl
                                          refine pure_ (i := 20) (N := some 6) (v := ?_) (a' := ?_) #[true, true, true, true, true, true, true, true, true, true, true, true, true, true, true, true, true, true, true, true, true] rfl rfl (any_of HT_.out (by kernel_rfl)) (fun _ _ _ h => h) (Or.inl ⟨by rfl, ?_⟩) ?_ ?_
                                          rotate_left
                                          · intro w'
                                            go_simp
                                            with_reducible rfl
                                          rotate_left
                                          · simp only [Act.put, List.setIfInBounds_toArray, List.set_cons_zero, List.set_cons_succ, i64_w, i32_w]
                                            rfl
                                          refine done_ (done_of HT_.out (by kernel_rfl)) ?_
                                          try go_wp2
                                          go_ret
                                          exact ⟨by first | rfl | (simp [errW_none, errW_some] <;> rfl) | (simp only [← hji33, ← hji43]; first | rfl | (simp [errW_none, errW_some] <;> rfl)) | (simp [*, errW_none, errW_some] <;> rfl), by repeat (first | (with_reducible first | exact HB.out | apply below_alloc | apply pw_below_drewN | apply below_drew1) | exact HB.out)⟩
                                · rw [if_neg c45] at H
                                  exact absurd H (by simp)
                              · rw [if_neg c44] at H
                                exact absurd H (by simp)
                        · rw [if_neg c32] at H
                          have c32b0 : (t370 == 0) = false := beq_eq_false_iff_ne.mpr c32
                          have c32b1 : (t370 != 0) = true := bne_iff_ne.mpr c32
                          by_cases c85 : t348 = true
                          · subst c85
                            have H1 : ((text_Check.f y379).bind fun t382 => (some (!t382))) = some r := by rw [if_pos rfl] at H; exact H
                            clear H
                            have H := H1
                            clear H1
                            replace H := Option.bind_eq_some_iff.mp H
                            obtain ⟨t382, A860, H⟩ := H
                            replace H : (some (!t382)) = some r := H
                            have A86 := Aside0.mk A860
                            clear A860
                            obtain rfl := Option.some.inj H
                            go_wp2_with (first | ((with_reducible refine gate_dst (N := 66) rfl ?_); (try (refine gate_guard (by rfl) ?_; dsimp only)); refine Kd.N_lit k36 _ 36 ?hg (N' := 66) ?hd (xs := ([] : List (S36))) (inner := []) (ok := (fun k_ => some k_ ≠ (v351 : Value).ownBlock ∧ some k_ ≠ (v355 : Value).ownBlock ∧ some k_ ≠ (v371 : Value).ownBlock)) (okp := (fun k_ => some k_ ≠ (v351 : Value).ownBlock ∧ some k_ ≠ (v355 : Value).ownBlock ∧ some k_ ≠ (v371 : Value).ownBlock)) ?hr ?hp (fun _ hk => hk) ((show ∀ k_, wc.heap.size ≤ k_ → (fun k_ => some k_ ≠ (v351 : Value).ownBlock ∧ some k_ ≠ (v355 : Value).ownBlock ∧ some k_ ≠ (v371 : Value).ownBlock) k_ from fun k_ hk => ⟨Kd.fresh' (Kd.N_lt (by (with_reducible repeat (first | apply Kd.N_alloc | apply Kd.N_drewN | apply Kd.N_drew)); exact HO_8.out)) k_ hk, Kd.fresh' (Kd.N_lt (by (with_reducible repeat (first | apply Kd.N_alloc | apply Kd.N_drewN | apply Kd.N_drew)); exact HO_10.out)) k_ hk, Kd.fresh' (Kd.N_lt (by (with_reducible repeat (first | apply Kd.N_alloc | apply Kd.N_drewN | apply Kd.N_drew)); exact HO_12.out)) k_ hk⟩) _ (Nat.le_refl _)) (Below.refl _ _) (Nat.le_refl _) (by simp) ?_; (case hd => rfl); (case hg => rfl); (case hr => first | (go_simp; done) | (go_simp; rfl)); (case hp => exact (Reps.none _ _)); intro v374 w87 ho88 hb hg_ hnew_; clear hg_ hnew_; (first | rw [← Ny373.out] at ho88 | (simp only [Int.reduceToNat] at ho88; rw [← Ny373.out] at ho88)); have n0_ := Aside0.mk (Kd.N_elder' (by (with_reducible repeat (first | apply Kd.N_alloc | apply Kd.N_drewN | apply Kd.N_drew)); exact HO_8.out) (Kd.N_base ho88) hb); have n1_ := Aside0.mk (Kd.N_elder' (by (with_reducible repeat (first | apply Kd.N_alloc | apply Kd.N_drewN | apply Kd.N_drew)); exact HO_10.out) (Kd.N_base ho88) hb); have n2_ := Aside0.mk (Kd.N_elder' (by (with_reducible repeat (first | apply Kd.N_alloc | apply Kd.N_drewN | apply Kd.N_drew)); exact HO_12.out) (Kd.N_base ho88) hb); have n3_ := Aside0.mk (Kd.N_lower ho88 (below_size (by repeat (first | (with_reducible first | exact HB.out | apply below_alloc | apply pw_below_drewN | apply below_drew1) | exact HB.out)))); have n4_ := Aside0.mk (below_step (by repeat (first | (with_reducible first | exact HB.out | apply below_alloc | apply pw_below_drewN | apply below_drew1) | exact HB.out)) hb); clear HO_8; clear HO_10; clear HO_12; clear HB; have HO_8 := n0_; have HO_10 := n1_; have HO_12 := n2_; have HO375 := n3_; have HB := n4_; clear n0_ n1_ n2_ n3_ n4_; clear hb ho88; obtain ⟨Ao90, co90, eo90⟩ := Kd.N_slice HO_8.out; subst eo90) | ((with_reducible refine gate_builtin (b := .append) (xs := #[.tmp 66, .tmp 67]) rfl ?_); (try (refine gate_guard (by rfl) ?_; dsimp only)); at_builtin; refine Kd.N_append_rows k36 (w0 := w) w.heap.size rfl (.tmp 66) (.tmp 67) 24 36 (.agg #[(.slice none 0 0), (.slice none 0 0)]) 48 rfl Try.underlying24 info36 rfl (by decide) (by omega) v374 y373 t349 _ _ _ (fun k_ => some k_ ≠ (v355 : Value).ownBlock ∧ some k_ ≠ (v371 : Value).ownBlock) (fun k_ => ((fun k_ => some k_ ≠ (v355 : Value).ownBlock ∧ some k_ ≠ (v371 : Value).ownBlock)) k_ ∧ some k_ ≠ (v374 : Value).ownBlock) rfl rfl ?aO ?aR (fun _ hk => hk) ?aF ?aB ?aS ?aL ?_; (case aR => exact (by skip; exact Kd.N_F (Kd.N_mono (ok' := (fun k_ => ((fun k_ => some k_ ≠ (v355 : Value).ownBlock ∧ some k_ ≠ (v371 : Value).ownBlock)) k_ ∧ some k_ ≠ (v374 : Value).ownBlock)) (HO_8.out) (fun k_ hk => ⟨⟨hk.1.1, hk.1.2⟩, hk.2⟩)))); (case aB => exact (by repeat (first | (with_reducible first | exact HB.out | apply below_alloc | apply pw_below_drewN | apply below_drew1) | exact HB.out))); (case aF => exact (fun k_ hk => ⟨Kd.fresh' (Kd.N_lt (by (with_reducible repeat (first | apply Kd.N_alloc | apply Kd.N_drewN | apply Kd.N_drew)); exact HO_10.out)) k_ hk, Kd.fresh' (Kd.N_lt (by (with_reducible repeat (first | apply Kd.N_alloc | apply Kd.N_drewN | apply Kd.N_drew)); exact HO_12.out)) k_ hk⟩)); (case aO => exact (by (with_reducible repeat (first | apply Kd.N_alloc | apply Kd.N_drewN | apply Kd.N_drew)); exact Kd.N_mono HO375.out (fun _ hk => ⟨hk.2.1, hk.2.2⟩))); (case aS => exact (below_size (by repeat (first | (with_reducible first | exact HB.out | apply below_alloc | apply pw_below_drewN | apply below_drew1) | exact HB.out)))); (case aL => have := LMc30.out; omega); intro v377 w89 ho hb hg hat; rw [← Ny376.out] at ho; have n0_ := Aside0.mk (Kd.N_afterv (ok := (fun k_ => some k_ ≠ (v355 : Value).ownBlock ∧ some k_ ≠ (v371 : Value).ownBlock)) (by (with_reducible repeat (first | apply Kd.N_alloc | apply Kd.N_drewN | apply Kd.N_drew)); exact HO_8.out) hg hat); have n1_ := Aside0.mk (Kd.N_afterv (ok := (fun k_ => some k_ ≠ (.slice Ao90 t349.length co90 : Value).ownBlock ∧ some k_ ≠ (v371 : Value).ownBlock)) (by (with_reducible repeat (first | apply Kd.N_alloc | apply Kd.N_drewN | apply Kd.N_drew)); exact HO_10.out) hg hat); have n2_ := Aside0.mk (Kd.N_afterv (ok := (fun k_ => some k_ ≠ (.slice Ao90 t349.length co90 : Value).ownBlock ∧ some k_ ≠ (v355 : Value).ownBlock)) (by (with_reducible repeat (first | apply Kd.N_alloc | apply Kd.N_drewN | apply Kd.N_drew)); exact HO_12.out) hg hat); have n3_ := Aside0.mk (hb); have n4_ := Aside0.mk (ho); clear HO_8; clear HO_10; clear HO_12; clear HB; clear HO375; have HO_8 := n0_; have HO_10 := n1_; have HO_12 := n2_; have HB := n3_; have HO378 := n4_; clear n0_ n1_ n2_ n3_ n4_; clear ho hb hg hat; obtain ⟨Ao92, co92, eo92⟩ := Kd.N_slice HO_10.out; subst eo92) | ((with_reducible refine gate_builtin (b := .append) (xs := #[.tmp 68, .tmp 69]) rfl ?_); (try (refine gate_guard (by rfl) ?_; dsimp only)); at_builtin; refine Kd.N_append_rows k36 (w0 := w) w.heap.size rfl (.tmp 68) (.tmp 69) 24 36 (.agg #[(.slice none 0 0), (.slice none 0 0)]) 48 rfl Try.underlying24 info36 rfl (by decide) (by omega) v377 y376 t353 _ _ _ (fun k_ => some k_ ≠ (v371 : Value).ownBlock) (fun k_ => ((fun k_ => some k_ ≠ (v371 : Value).ownBlock)) k_ ∧ some k_ ≠ (v377 : Value).ownBlock) rfl rfl ?aO ?aR (fun _ hk => hk) ?aF ?aB ?aS ?aL ?_; (case aR => exact (by skip; exact Kd.N_F (Kd.N_mono (ok' := (fun k_ => ((fun k_ => some k_ ≠ (v371 : Value).ownBlock)) k_ ∧ some k_ ≠ (v377 : Value).ownBlock)) (HO_10.out) (fun k_ hk => ⟨hk.1.2, hk.2⟩)))); (case aB => exact (by repeat (first | (with_reducible first | exact HB.out | apply below_alloc | apply pw_below_drewN | apply below_drew1) | exact HB.out))); (case aF => exact (fun k_ hk => Kd.fresh' (Kd.N_lt (by (with_reducible repeat (first | apply Kd.N_alloc | apply Kd.N_drewN | apply Kd.N_drew)); exact HO_12.out)) k_ hk)); (case aO => exact (by (with_reducible repeat (first | apply Kd.N_alloc | apply Kd.N_drewN | apply Kd.N_drew)); exact Kd.N_mono HO378.out (fun _ hk => hk.2))); (case aS => exact (below_size (by repeat (first | (with_reducible first | exact HB.out | apply below_alloc | apply pw_below_drewN | apply below_drew1) | exact HB.out)))); (case aL => have := LMc31.out; omega); intro v380 w91 ho hb hg hat; rw [← Ny379.out] at ho; have n0_ := Aside0.mk (Kd.N_afterv (ok := (fun k_ => some k_ ≠ (.slice Ao92 t353.length co92 : Value).ownBlock ∧ some k_ ≠ (v371 : Value).ownBlock)) (by (with_reducible repeat (first | apply Kd.N_alloc | apply Kd.N_drewN | apply Kd.N_drew)); exact HO_8.out) hg hat); have n1_ := Aside0.mk (Kd.N_afterv (ok := (fun k_ => some k_ ≠ (.slice Ao90 t349.length co90 : Value).ownBlock ∧ some k_ ≠ (v371 : Value).ownBlock)) (by (with_reducible repeat (first | apply Kd.N_alloc | apply Kd.N_drewN | apply Kd.N_drew)); exact HO_10.out) hg hat); have n2_ := Aside0.mk (Kd.N_afterv (ok := (fun k_ => some k_ ≠ (.slice Ao90 t349.length co90 : Value).ownBlock ∧ some k_ ≠ (.slice Ao92 t353.length co92 : Value).ownBlock)) (by (with_reducible repeat (first | apply Kd.N_alloc | apply Kd.N_drewN | apply Kd.N_drew)); exact HO_12.out) hg hat); have n3_ := Aside0.mk (hb); have n4_ := Aside0.mk (ho); clear HO_8; clear HO_10; clear HO_12; clear HB; clear HO378; have HO_8 := n0_; have HO_10 := n1_; have HO_12 := n2_; have HB := n3_; have HO381 := n4_; clear n0_ n1_ n2_ n3_ n4_; clear ho hb hg hat; obtain ⟨Ao93, co93, eo93⟩ := Kd.N_slice HO381.out; subst eo93) | (go_at_call 17; (with_reducible refine (text_Check.calls _ _ y379 t382 _ ?side1 ?side2 A86.out).mono ?_); (case side1 => repeat (first | exact (Kd.N_reads' HO381.out).2.2 | (with_reducible refine Kd.C_alloc ?_ _) | (with_reducible refine Kd.C_drewN ?_ _) | (with_reducible refine Kd.C_drew ?_))); (case side2 => exact (Kd.N_reads' HO381.out).2.1); rintro e w94 ⟨rfl, hb⟩; have n0_ := Aside0.mk (Kd.N_below (by (with_reducible repeat (first | apply Kd.N_alloc | apply Kd.N_drewN | apply Kd.N_drew)); exact HO_8.out) hb); have n1_ := Aside0.mk (Kd.N_below (by (with_reducible repeat (first | apply Kd.N_alloc | apply Kd.N_drewN | apply Kd.N_drew)); exact HO_10.out) hb); have n2_ := Aside0.mk (Kd.N_below (by (with_reducible repeat (first | apply Kd.N_alloc | apply Kd.N_drewN | apply Kd.N_drew)); exact HO_12.out) hb); have n3_ := Aside0.mk (Kd.N_below (by (with_reducible repeat (first | apply Kd.N_alloc | apply Kd.N_drewN | apply Kd.N_drew)); exact HO381.out) hb); have n4_ := Aside0.mk (below_step (by repeat (first | (with_reducible first | exact HB.out | apply below_alloc | apply pw_below_drewN | apply below_drew1) | exact HB.out)) hb); clear HO_8; clear HO_10; clear HO_12; clear HO381; clear HB; have HO_8 := n0_; have HO_10 := n1_; have HO_12 := n2_; have HO381 := n3_; have HB := n4_; clear n0_ n1_ n2_ n3_ n4_; (try clear hb); (try clear hb2); (try clear hk); (try clear hi)))
                            go_ret
                            exact ⟨by first | rfl | (simp [errW_none, errW_some] <;> rfl) | (simp [*, errW_none, errW_some] <;> rfl), by repeat (first | (with_reducible first | exact HB.out | apply below_alloc | apply pw_below_drewN | apply below_drew1) | exact HB.out)⟩
                          · replace c85 := Bool.eq_false_iff.mpr c85
                            subst c85
                            have H1 : (some false) = some r := by rw [if_neg (show ¬ (false = true) by decide)] at H; exact H
                            clear H
                            have H := H1
                            clear H1
                            obtain rfl := Option.some.inj H
                            go_wp2_with (first | ((with_reducible refine gate_dst (N := 66) rfl ?_); (try (refine gate_guard (by rfl) ?_; dsimp only)); refine Kd.N_lit k36 _ 36 ?hg (N' := 66) ?hd (xs := ([] : List (S36))) (inner := []) (ok := (fun k_ => some k_ ≠ (v351 : Value).ownBlock ∧ some k_ ≠ (v355 : Value).ownBlock ∧ some k_ ≠ (v371 : Value).ownBlock)) (okp := (fun k_ => some k_ ≠ (v351 : Value).ownBlock ∧ some k_ ≠ (v355 : Value).ownBlock ∧ some k_ ≠ (v371 : Value).ownBlock)) ?hr ?hp (fun _ hk => hk) ((show ∀ k_, wc.heap.size ≤ k_ → (fun k_ => some k_ ≠ (v351 : Value).ownBlock ∧ some k_ ≠ (v355 : Value).ownBlock ∧ some k_ ≠ (v371 : Value).ownBlock) k_ from fun k_ hk => ⟨Kd.fresh' (Kd.N_lt (by (with_reducible repeat (first | apply Kd.N_alloc | apply Kd.N_drewN | apply Kd.N_drew)); exact HO_8.out)) k_ hk, Kd.fresh' (Kd.N_lt (by (with_reducible repeat (first | apply Kd.N_alloc | apply Kd.N_drewN | apply Kd.N_drew)); exact HO_10.out)) k_ hk, Kd.fresh' (Kd.N_lt (by (with_reducible repeat (first | apply Kd.N_alloc | apply Kd.N_drewN | apply Kd.N_drew)); exact HO_12.out)) k_ hk⟩) _ (Nat.le_refl _)) (Below.refl _ _) (Nat.le_refl _) (by simp) ?_; (case hd => rfl); (case hg => rfl); (case hr => first | (go_simp; done) | (go_simp; rfl)); (case hp => exact (Reps.none _ _)); intro v374 w95 ho96 hb hg_ hnew_; clear hg_ hnew_; (first | rw [← Ny373.out] at ho96 | (simp only [Int.reduceToNat] at ho96; rw [← Ny373.out] at ho96)); have n0_ := Aside0.mk (Kd.N_elder' (by (with_reducible repeat (first | apply Kd.N_alloc | apply Kd.N_drewN | apply Kd.N_drew)); exact HO_8.out) (Kd.N_base ho96) hb); have n1_ := Aside0.mk (Kd.N_elder' (by (with_reducible repeat (first | apply Kd.N_alloc | apply Kd.N_drewN | apply Kd.N_drew)); exact HO_10.out) (Kd.N_base ho96) hb); have n2_ := Aside0.mk (Kd.N_elder' (by (with_reducible repeat (first | apply Kd.N_alloc | apply Kd.N_drewN | apply Kd.N_drew)); exact HO_12.out) (Kd.N_base ho96) hb); have n3_ := Aside0.mk (Kd.N_lower ho96 (below_size (by repeat (first | (with_reducible first | exact HB.out | apply below_alloc | apply pw_below_drewN | apply below_drew1) | exact HB.out)))); have n4_ := Aside0.mk (below_step (by repeat (first | (with_reducible first | exact HB.out | apply below_alloc | apply pw_below_drewN | apply below_drew1) | exact HB.out)) hb); clear HO_8; clear HO_10; clear HO_12; clear HB; have HO_8 := n0_; have HO_10 := n1_; have HO_12 := n2_; have HO375 := n3_; have HB := n4_; clear n0_ n1_ n2_ n3_ n4_; clear hb ho96; obtain ⟨Ao98, co98, eo98⟩ := Kd.N_slice HO_8.out; subst eo98) | ((with_reducible refine gate_builtin (b := .append) (xs := #[.tmp 66, .tmp 67]) rfl ?_); (try (refine gate_guard (by rfl) ?_; dsimp only)); at_builtin; refine Kd.N_append_rows k36 (w0 := w) w.heap.size rfl (.tmp 66) (.tmp 67) 24 36 (.agg #[(.slice none 0 0), (.slice none 0 0)]) 48 rfl Try.underlying24 info36 rfl (by decide) (by omega) v374 y373 t349 _ _ _ (fun k_ => some k_ ≠ (v355 : Value).ownBlock ∧ some k_ ≠ (v371 : Value).ownBlock) (fun k_ => ((fun k_ => some k_ ≠ (v355 : Value).ownBlock ∧ some k_ ≠ (v371 : Value).ownBlock)) k_ ∧ some k_ ≠ (v374 : Value).ownBlock) rfl rfl ?aO ?aR (fun _ hk => hk) ?aF ?aB ?aS ?aL ?_; (case aR => exact (by skip; exact Kd.N_F (Kd.N_mono (ok' := (fun k_ => ((fun k_ => some k_ ≠ (v355 : Value).ownBlock ∧ some k_ ≠ (v371 : Value).ownBlock)) k_ ∧ some k_ ≠ (v374 : Value).ownBlock)) (HO_8.out) (fun k_ hk => ⟨⟨hk.1.1, hk.1.2⟩, hk.2⟩)))); (case aB => exact (by repeat (first | (with_reducible first | exact HB.out | apply below_alloc | apply pw_below_drewN | apply below_drew1) | exact HB.out))); (case aF => exact (fun k_ hk => ⟨Kd.fresh' (Kd.N_lt (by (with_reducible repeat (first | apply Kd.N_alloc | apply Kd.N_drewN | apply Kd.N_drew)); exact HO_10.out)) k_ hk, Kd.fresh' (Kd.N_lt (by (with_reducible repeat (first | apply Kd.N_alloc | apply Kd.N_drewN | apply Kd.N_drew)); exact HO_12.out)) k_ hk⟩)); (case aO => exact (by (with_reducible repeat (first | apply Kd.N_alloc | apply Kd.N_drewN | apply Kd.N_drew)); exact Kd.N_mono HO375.out (fun _ hk => ⟨hk.2.1, hk.2.2⟩))); (case aS => exact (below_size (by repeat (first | (with_reducible first | exact HB.out | apply below_alloc | apply pw_below_drewN | apply below_drew1) | exact HB.out)))); (case aL => have := LMc30.out; omega); intro v377 w97 ho hb hg hat; rw [← Ny376.out] at ho; have n0_ := Aside0.mk (Kd.N_afterv (ok := (fun k_ => some k_ ≠ (v355 : Value).ownBlock ∧ some k_ ≠ (v371 : Value).ownBlock)) (by (with_reducible repeat (first | apply Kd.N_alloc | apply Kd.N_drewN | apply Kd.N_drew)); exact HO_8.out) hg hat); have n1_ := Aside0.mk (Kd.N_afterv (ok := (fun k_ => some k_ ≠ (.slice Ao98 t349.length co98 : Value).ownBlock ∧ some k_ ≠ (v371 : Value).ownBlock)) (by (with_reducible repeat (first | apply Kd.N_alloc | apply Kd.N_drewN | apply Kd.N_drew)); exact HO_10.out) hg hat); have n2_ := Aside0.mk (Kd.N_afterv (ok := (fun k_ => some k_ ≠ (.slice Ao98 t349.length co98 : Value).ownBlock ∧ some k_ ≠ (v355 : Value).ownBlock)) (by (with_reducible repeat (first | apply Kd.N_alloc | apply Kd.N_drewN | apply Kd.N_drew)); exact HO_12.out) hg hat); have n3_ := Aside0.mk (hb); have n4_ := Aside0.mk (ho); clear HO_8; clear HO_10; clear HO_12; clear HB; clear HO375; have HO_8 := n0_; have HO_10 := n1_; have HO_12 := n2_; have HB := n3_; have HO378 := n4_; clear n0_ n1_ n2_ n3_ n4_; clear ho hb hg hat; obtain ⟨Ao100, co100, eo100⟩ := Kd.N_slice HO_10.out; subst eo100) | ((with_reducible refine gate_builtin (b := .append) (xs := #[.tmp 68, .tmp 69]) rfl ?_); (try (refine gate_guard (by rfl) ?_; dsimp only)); at_builtin; refine Kd.N_append_rows k36 (w0 := w) w.heap.size rfl (.tmp 68) (.tmp 69) 24 36 (.agg #[(.slice none 0 0), (.slice none 0 0)]) 48 rfl Try.underlying24 info36 rfl (by decide) (by omega) v377 y376 t353 _ _ _ (fun k_ => some k_ ≠ (v371 : Value).ownBlock) (fun k_ => ((fun k_ => some k_ ≠ (v371 : Value).ownBlock)) k_ ∧ some k_ ≠ (v377 : Value).ownBlock) rfl rfl ?aO ?aR (fun _ hk => hk) ?aF ?aB ?aS ?aL ?_; (case aR => exact (by skip; exact Kd.N_F (Kd.N_mono (ok' := (fun k_ => ((fun k_ => some k_ ≠ (v371 : Value).ownBlock)) k_ ∧ some k_ ≠ (v377 : Value).ownBlock)) (HO_10.out) (fun k_ hk => ⟨hk.1.2, hk.2⟩)))); (case aB => exact (by repeat (first | (with_reducible first | exact HB.out | apply below_alloc | apply pw_below_drewN | apply below_drew1) | exact HB.out))); (case aF => exact (fun k_ hk => Kd.fresh' (Kd.N_lt (by (with_reducible repeat (first | apply Kd.N_alloc | apply Kd.N_drewN | apply Kd.N_drew)); exact HO_12.out)) k_ hk)); (case aO => exact (by (with_reducible repeat (first | apply Kd.N_alloc | apply Kd.N_drewN | apply Kd.N_drew)); exact Kd.N_mono HO378.out (fun _ hk => hk.2))); (case aS => exact (below_size (by repeat (first | (with_reducible first | exact HB.out | apply below_alloc | apply pw_below_drewN | apply below_drew1) | exact HB.out)))); (case aL => have := LMc31.out; omega); intro v380 w99 ho hb hg hat; rw [← Ny379.out] at ho; have n0_ := Aside0.mk (Kd.N_afterv (ok := (fun k_ => some k_ ≠ (.slice Ao100 t353.length co100 : Value).ownBlock ∧ some k_ ≠ (v371 : Value).ownBlock)) (by (with_reducible repeat (first | apply Kd.N_alloc | apply Kd.N_drewN | apply Kd.N_drew)); exact HO_8.out) hg hat); have n1_ := Aside0.mk (Kd.N_afterv (ok := (fun k_ => some k_ ≠ (.slice Ao98 t349.length co98 : Value).ownBlock ∧ some k_ ≠ (v371 : Value).ownBlock)) (by (with_reducible repeat (first | apply Kd.N_alloc | apply Kd.N_drewN | apply Kd.N_drew)); exact HO_10.out) hg hat); have n2_ := Aside0.mk (Kd.N_afterv (ok := (fun k_ => some k_ ≠ (.slice Ao98 t349.length co98 : Value).ownBlock ∧ some k_ ≠ (.slice Ao100 t353.length co100 : Value).ownBlock)) (by (with_reducible repeat (first | apply Kd.N_alloc | apply Kd.N_drewN | apply Kd.N_drew)); exact HO_12.out) hg hat); have n3_ := Aside0.mk (hb); have n4_ := Aside0.mk (ho); clear HO_8; clear HO_10; clear HO_12; clear HB; clear HO378; have HO_8 := n0_; have HO_10 := n1_; have HO_12 := n2_; have HB := n3_; have HO381 := n4_; clear n0_ n1_ n2_ n3_ n4_; clear ho hb hg hat))
                            go_ret
                            exact ⟨by first | rfl | (simp [errW_none, errW_some] <;> rfl) | (simp [*, errW_none, errW_some] <;> rfl), by repeat (first | (with_reducible first | exact HB.out | apply below_alloc | apply pw_below_drewN | apply below_drew1) | exact HB.out)⟩
                      · rw [if_neg c31] at H
                        exact absurd H (by simp)
                    · rw [if_neg c30] at H
                      exact absurd H (by simp)
            · rw [if_neg c13] at H
              exact absurd H (by simp)
          · rw [if_neg c12] at H
            exact absurd H (by simp)
        · rw [if_neg c11] at H
          exact absurd H (by simp)

/-- THE ONE PURE STATEMENT of compositorlaw13_TextJoins: yours. -/
def compositorlaw13_TextJoins.Pure : Prop := ∀ (l0 : List Int) (l1 : List Int) (a2 : Int), l0.length ≤ maxLen → l0.length * 1 ≤ 140737488351232 → (∀ x ∈ l0, (Lit.int .u8 x).wf = true) → l1.length ≤ maxLen → l1.length * 1 ≤ 140737488351232 → (∀ x ∈ l1, (Lit.int .u8 x).wf = true) → (Lit.int .u8 a2).wf = true → ∃ k, compositorlaw13_TextJoins.f k l0 l1 a2 = some true
theorem compositorlaw13_TextJoins.walk (P : compositorlaw13_TextJoins.Pure) (a0 : Option Addr) (len0 cap0 : Nat) (z0 : List Int) (a1 : Option Addr) (len1 cap1 : Nat) (z1 : List Int) (a2 : Int) (w : World) (w0 : (a0 = none ∧ len0 = 0 ∧ cap0 = 0 ∧ z0 = []) ∨ ∃ x, a0 = some x ∧ len0 ≤ cap0 ∧ cap0 ≤ maxLen ∧ z0.length = cap0 ∧ (∀ i, i < z0.length → w.cell? (x.add i) = some (.int .u8 (z0.getD i 0))) ∧ ∀ n ∈ z0, (Lit.int .u8 n).wf = true) (y0 : len0 * 1 ≤ 140737488351232) (w1 : (a1 = none ∧ len1 = 0 ∧ cap1 = 0 ∧ z1 = []) ∨ ∃ x, a1 = some x ∧ len1 ≤ cap1 ∧ cap1 ≤ maxLen ∧ z1.length = cap1 ∧ (∀ i, i < z1.length → w.cell? (x.add i) = some (.int .u8 (z1.getD i 0))) ∧ ∀ n ∈ z1, (Lit.int .u8 n).wf = true) (y1 : len1 * 1 ≤ 140737488351232) (w2 : (Lit.int .u8 a2).wf = true) :
    Calls Try.prog 8 #[.slice a0 len0 cap0, .slice a1 len1 cap1, .int .u8 a2] w fun e w' => e = .returned (.bool true) ∧ Below w.heap.size w w' := by
  obtain ⟨l0, rfl, hr0, hm0, hw0, hc0⟩ := ReadsInt.ofRowC w0
  obtain ⟨l1, rfl, hr1, hm1, hw1, hc1⟩ := ReadsInt.ofRowC w1
  obtain ⟨k, h⟩ := P l0 l1 a2 hm0 y0 hw0 hm1 y1 hw1 w2
  refine (compositorlaw13_TextJoins.calls k _ _ l0 _ _ l1 a2 true w (Kd.C_of_reads (d := (0 : Int)) (h1 := fun _ => rfl) hr0) hc0 (Kd.C_of_reads (d := (0 : Int)) (h1 := fun _ => rfl) hr1) hc1 h).mono ?_
  rintro e w' ⟨rfl, hd⟩
  exact ⟨rfl, hd⟩

end Go.Proofs.Ytnhalfkkamepgaa.Q
