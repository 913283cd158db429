-- WRITTEN BY A PROGRAM OF THIS SESSION (wip/gprint.py) OVER THE KIT'S PRINT, some functions given by hand
import Derived.Test.YtnhalfkkamepgaaQx0
import Derived.Test.YtnhalfkkamepgaaQx1
import Derived.Test.YtnhalfkkamepgaaQx4
import Derived.Test.YtnhalfkkamepgaaQx5
import Derived.Test.YtnhalfkkamepgaaQCheck
import Derived.Test.YtnhalfkkamepgaaQRead
import Derived.Test.YtnhalfkkamepgaaQWrite
namespace Go.Proofs.Ytnhalfkkamepgaa.Q
open Go.RowKit Go.Proofs.YtnhalfkkamepgaaW.PrintWords Go.Proofs.YtnhalfkkamepgaaW.PrintLast Go.Proofs.YtnhalfkkamepgaaW.PrintMore
attribute [local go_sem] max2_int min2_int max_two min_two max_three min_three max_four min_four   -- for this text's walks alone
set_option linter.unusedVariables false
set_option linter.unusedSimpArgs false

/-! ### compositorlaw13_TextGaps: function 6 -/
mutual
def compositorlaw13_TextGaps.j0 : Nat → List (S36) → List Int → Bool → Bool → Option (Bool)
  | 0, _, _, _, _ => none
  | k + 1, x0, x1, x5, x29 => if x29 = true then (some x5) else (compositorlaw13_TextGaps.l0 k x0 x1 x5 ([] : List Int) 0)
def compositorlaw13_TextGaps.l0 : Nat → List (S36) → List Int → Bool → List Int → Int → Option (Bool)
  | 0, _, _, _, _, _ => none
  | k + 1, x0, x1, x5, x6, x7 => if x7 < (x0.length : Int) then (if 0 ≤ x7 then (if x7 ≤ (wrap64 (x7 + 1)) then (if (wrap64 (x7 + 1)) ≤ (x0.length : Int) then ((text_Write.f ((x0.take ((wrap64 (x7 + 1)) : Int).toNat).drop (x7 : Int).toNat)).bind fun bt308 => (if bt308.2 = 0 then (if x6.length + bt308.1.length < 140737488355328 then ((some (x6 ++ bt308.1 : List Int)).bind fun y312 => (if x7 < (x1.length : Int) then (compositorlaw13_TextGaps.j2 k x0 x1 x5 y312 x7 (wrap64 (1 + (wrap64 (Int.tmod (rd x1 x7) 3))))) else (compositorlaw13_TextGaps.j2 k x0 x1 x5 y312 x7 1))) else (none)) else (if x5 = true then (some (bt308.2 == 130)) else (some false)))) else (none)) else (none)) else (none)) else ((some (([32, 10] : List Int) : List Int)).bind fun y292 => (if y292.length + x6.length < 140737488355328 then ((text_Read.f (y292 ++ x6)).bind fun bt298 => ((compositorref13_Same.f k x0 bt298.1).bind fun t302 => (if x5 = true then ((text_Check.f x0).bind fun t303 => (if ((bt298.2 == 0) == t303) = true then (if bt298.2 = 0 then (some t302) else (some true)) else (some false))) else (some false)))) else (none)))
def compositorlaw13_TextGaps.j2 : Nat → List (S36) → List Int → Bool → List Int → Int → Int → Option (Bool)
  | 0, _, _, _, _, _, _ => none
  | k + 1, x0, x1, x5, x6, x7, x10 => compositorlaw13_TextGaps.l1 k x0 x1 x5 x6 x7 x10 0
def compositorlaw13_TextGaps.l1 : Nat → List (S36) → List Int → Bool → List Int → Int → Int → Int → Option (Bool)
  | 0, _, _, _, _, _, _, _ => none
  | k + 1, x0, x1, x5, x6, x7, x10, x11 => if x11 < x10 then (if (Int.tmod (wrap64 (x7 + x11)) 4) = 0 then (if x6.length < 140737488355328 then (compositorlaw13_TextGaps.l1 k x0 x1 x5 (x6 ++ [32]) x7 x10 (wrap64 (x11 + 1))) else (none)) else (if (Int.tmod (wrap64 (x7 + x11)) 4) = 1 then (if x6.length < 140737488355328 then (compositorlaw13_TextGaps.l1 k x0 x1 x5 (x6 ++ [10]) x7 x10 (wrap64 (x11 + 1))) else (none)) else (if (Int.tmod (wrap64 (x7 + x11)) 4) = 2 then (if x6.length < 140737488355328 then (compositorlaw13_TextGaps.l1 k x0 x1 x5 (x6 ++ [9]) x7 x10 (wrap64 (x11 + 1))) else (none)) else (if x6.length < 140737488355328 then (compositorlaw13_TextGaps.l1 k x0 x1 x5 (x6 ++ [13]) x7 x10 (wrap64 (x11 + 1))) else (none))))) else (compositorlaw13_TextGaps.l0 k x0 x1 x5 x6 (wrap64 (x7 + 1)))
end
def compositorlaw13_TextGaps.f (k : Nat) (l0 : List (S36)) (l1 : List Int) : Option (Bool) := (compositorlaw13_awake.f k).bind fun t290 => ((compositorref13_Few.f k l0).bind fun t291 => (if t291 = true then (if (l0.length : Int) > 50 then (compositorlaw13_TextGaps.j0 k l0 l1 t290 true) else (compositorlaw13_TextGaps.j0 k l0 l1 t290 (decide ((l1.length : Int) > 60)))) else (compositorlaw13_TextGaps.j0 k l0 l1 t290 true)))
theorem compositorlaw13_TextGaps.mono_l : ∀ k, (∀ y0 y1 y2 y3, LeO (compositorlaw13_TextGaps.j0 k y0 y1 y2 y3) (compositorlaw13_TextGaps.j0 (k + 1) y0 y1 y2 y3)) ∧ (∀ y0 y1 y2 y3 y4, LeO (compositorlaw13_TextGaps.l0 k y0 y1 y2 y3 y4) (compositorlaw13_TextGaps.l0 (k + 1) y0 y1 y2 y3 y4)) ∧ (∀ y0 y1 y2 y3 y4 y5, LeO (compositorlaw13_TextGaps.j2 k y0 y1 y2 y3 y4 y5) (compositorlaw13_TextGaps.j2 (k + 1) y0 y1 y2 y3 y4 y5)) ∧ (∀ y0 y1 y2 y3 y4 y5 y6, LeO (compositorlaw13_TextGaps.l1 k y0 y1 y2 y3 y4 y5 y6) (compositorlaw13_TextGaps.l1 (k + 1) y0 y1 y2 y3 y4 y5 y6))
  | 0 => ⟨fun _ _ _ _ r h => by simp [compositorlaw13_TextGaps.j0] at h, fun _ _ _ _ _ r h => by simp [compositorlaw13_TextGaps.l0] at h, fun _ _ _ _ _ _ r h => by simp [compositorlaw13_TextGaps.j2] at h, fun _ _ _ _ _ _ _ r h => by simp [compositorlaw13_TextGaps.l1] at h⟩
  | k + 1 => by
    obtain ⟨ih0, ih1, ih2, ih3⟩ := compositorlaw13_TextGaps.mono_l k
    refine ⟨?_, ?_, ?_, ?_⟩
    · intro y0 y1 y2 y3
      unfold compositorlaw13_TextGaps.j0
      repeat' first
      | (with_reducible exact ih0 _ _ _ _)
      | (with_reducible exact ih1 _ _ _ _ _)
      | (with_reducible exact ih2 _ _ _ _ _ _)
      | (with_reducible exact ih3 _ _ _ _ _ _ _)
      | (with_reducible exact compositorlaw13_awake.mono _)
      | (with_reducible exact compositorref13_Few.mono _ _)
      | (with_reducible exact compositorref13_Same.mono _ _ _)
      | (with_reducible exact LeO.refl _)
      | (with_reducible exact LeO.none _)
      | (with_reducible refine LeO.ite ?_ ?_)
      | (with_reducible refine LeO.bind ?_ (fun _ => ?_))
      | exact ih0 _ _ _ _
      | exact ih1 _ _ _ _ _
      | exact ih2 _ _ _ _ _ _
      | exact ih3 _ _ _ _ _ _ _
      | exact compositorlaw13_awake.mono _
      | exact compositorref13_Few.mono _ _
      | exact compositorref13_Same.mono _ _ _
      | exact LeO.none _
      | refine LeO.ite ?_ ?_
      | refine LeO.bind ?_ (fun _ => ?_)
    · intro y0 y1 y2 y3 y4
      unfold compositorlaw13_TextGaps.l0
      repeat' first
      | (with_reducible exact ih0 _ _ _ _)
      | (with_reducible exact ih1 _ _ _ _ _)
      | (with_reducible exact ih2 _ _ _ _ _ _)
      | (with_reducible exact ih3 _ _ _ _ _ _ _)
      | (with_reducible exact compositorlaw13_awake.mono _)
      | (with_reducible exact compositorref13_Few.mono _ _)
      | (with_reducible exact compositorref13_Same.mono _ _ _)
      | (with_reducible exact LeO.refl _)
      | (with_reducible exact LeO.none _)
      | (with_reducible refine LeO.ite ?_ ?_)
      | (with_reducible refine LeO.bind ?_ (fun _ => ?_))
      | exact ih0 _ _ _ _
      | exact ih1 _ _ _ _ _
      | exact ih2 _ _ _ _ _ _
      | exact ih3 _ _ _ _ _ _ _
      | exact compositorlaw13_awake.mono _
      | exact compositorref13_Few.mono _ _
      | exact compositorref13_Same.mono _ _ _
      | exact LeO.none _
      | refine LeO.ite ?_ ?_
      | refine LeO.bind ?_ (fun _ => ?_)
    · intro y0 y1 y2 y3 y4 y5
      unfold compositorlaw13_TextGaps.j2
      repeat' first
      | (with_reducible exact ih0 _ _ _ _)
      | (with_reducible exact ih1 _ _ _ _ _)
      | (with_reducible exact ih2 _ _ _ _ _ _)
      | (with_reducible exact ih3 _ _ _ _ _ _ _)
      | (with_reducible exact compositorlaw13_awake.mono _)
      | (with_reducible exact compositorref13_Few.mono _ _)
      | (with_reducible exact compositorref13_Same.mono _ _ _)
      | (with_reducible exact LeO.refl _)
      | (with_reducible exact LeO.none _)
      | (with_reducible refine LeO.ite ?_ ?_)
      | (with_reducible refine LeO.bind ?_ (fun _ => ?_))
      | exact ih0 _ _ _ _
      | exact ih1 _ _ _ _ _
      | exact ih2 _ _ _ _ _ _
      | exact ih3 _ _ _ _ _ _ _
      | exact compositorlaw13_awake.mono _
      | exact compositorref13_Few.mono _ _
      | exact compositorref13_Same.mono _ _ _
      | exact LeO.none _
      | refine LeO.ite ?_ ?_
      | refine LeO.bind ?_ (fun _ => ?_)
    · intro y0 y1 y2 y3 y4 y5 y6
      unfold compositorlaw13_TextGaps.l1
      repeat' first
      | (with_reducible exact ih0 _ _ _ _)
      | (with_reducible exact ih1 _ _ _ _ _)
      | (with_reducible exact ih2 _ _ _ _ _ _)
      | (with_reducible exact ih3 _ _ _ _ _ _ _)
      | (with_reducible exact compositorlaw13_awake.mono _)
      | (with_reducible exact compositorref13_Few.mono _ _)
      | (with_reducible exact compositorref13_Same.mono _ _ _)
      | (with_reducible exact LeO.refl _)
      | (with_reducible exact LeO.none _)
      | (with_reducible refine LeO.ite ?_ ?_)
      | (with_reducible refine LeO.bind ?_ (fun _ => ?_))
      | exact ih0 _ _ _ _
      | exact ih1 _ _ _ _ _
      | exact ih2 _ _ _ _ _ _
      | exact ih3 _ _ _ _ _ _ _
      | exact compositorlaw13_awake.mono _
      | exact compositorref13_Few.mono _ _
      | exact compositorref13_Same.mono _ _ _
      | exact LeO.none _
      | refine LeO.ite ?_ ?_
      | refine LeO.bind ?_ (fun _ => ?_)
theorem compositorlaw13_TextGaps.mono : ∀ a0 a1 k, LeO (compositorlaw13_TextGaps.f k a0 a1) (compositorlaw13_TextGaps.f (k + 1) a0 a1) := by
  intro a0 a1 k
  obtain ⟨ih0, ih1, ih2, ih3⟩ := compositorlaw13_TextGaps.mono_l k
  unfold compositorlaw13_TextGaps.f
  repeat' first
      | (with_reducible exact ih0 _ _ _ _)
      | (with_reducible exact ih1 _ _ _ _ _)
      | (with_reducible exact ih2 _ _ _ _ _ _)
      | (with_reducible exact ih3 _ _ _ _ _ _ _)
      | (with_reducible exact compositorlaw13_awake.mono _)
      | (with_reducible exact compositorref13_Few.mono _ _)
      | (with_reducible exact compositorref13_Same.mono _ _ _)
      | (with_reducible exact LeO.refl _)
      | (with_reducible exact LeO.none _)
      | (with_reducible refine LeO.ite ?_ ?_)
      | (with_reducible refine LeO.bind ?_ (fun _ => ?_))
      | exact ih0 _ _ _ _
      | exact ih1 _ _ _ _ _
      | exact ih2 _ _ _ _ _ _
      | exact ih3 _ _ _ _ _ _ _
      | exact compositorlaw13_awake.mono _
      | exact compositorref13_Few.mono _ _
      | exact compositorref13_Same.mono _ _ _
      | exact LeO.none _
      | refine LeO.ite ?_ ?_
      | refine LeO.bind ?_ (fun _ => ?_)
set_option maxHeartbeats 8000000 in
set_option maxRecDepth 100000 in
theorem compositorlaw13_TextGaps.calls (k : Nat) (A0 : Option Addr) (c0 : Nat) (l0 : List (S36)) (A1 : Option Addr) (c1 : Nat) (l1 : List Int) (r : Bool) (w : World) (hr0 : Kd.C k36 w A0 l0.length l0) (hc0 : l0.length ≤ c0) (hr1 : Kd.C (Kd.int .u8) w A1 l1.length l1) (hc1 : l1.length ≤ c1) (h : compositorlaw13_TextGaps.f k l0 l1 = some r) :
    Calls Try.prog 6 #[.slice A0 l0.length c0, .slice A1 l1.length c1] w fun e w' => e = .returned (.bool r) ∧ Below w.heap.size w w' := by
  have HR0 := Aside0.mk hr0
  have HC0 := Aside0.mk hc0
  clear hr0 hc0
  have HR1 := Aside0.mk hr1
  have HC1 := Aside0.mk hc1
  clear hr1 hc1
  have HB := Aside0.mk (Below.refl w.heap.size w)
  have H : ((compositorlaw13_awake.f k).bind fun t290 => ((compositorref13_Few.f k l0).bind fun t291 => (if t291 = true then (if (l0.length : Int) > 50 then (compositorlaw13_TextGaps.j0 k l0 l1 t290 true) else (compositorlaw13_TextGaps.j0 k l0 l1 t290 (decide ((l1.length : Int) > 60)))) else (compositorlaw13_TextGaps.j0 k l0 l1 t290 true)))) = some r := h
  clear h
  replace H := Option.bind_eq_some_iff.mp H
  obtain ⟨t290, A30, H⟩ := H
  replace H : ((compositorref13_Few.f k l0).bind fun t291 => (if t291 = true then (if (l0.length : Int) > 50 then (compositorlaw13_TextGaps.j0 k l0 l1 t290 true) else (compositorlaw13_TextGaps.j0 k l0 l1 t290 (decide ((l1.length : Int) > 60)))) else (compositorlaw13_TextGaps.j0 k l0 l1 t290 true))) = some r := H
  have A3 := Aside0.mk A30
  clear A30
  have HC4 := Aside0.mk H
  clear H
  go_enter Try.func6, Try.ntmps6
  go_upto_region 2 with (first | ((with_reducible refine gate_callee (f := 10) rfl ?_); refine goesL_ (some 16) rfl rfl Try.func10 (by kernel_rfl) rfl #[] rfl (by (try simp only [List.map_toArray, List.map_cons, List.map_nil]); first | done | rfl | (simp only [List.length_drop, List.length_take]; rfl)) ?_; (with_reducible refine (compositorlaw13_awake.calls k  t290 _ A3.out).mono ?_); rintro e w5 ⟨rfl, hb⟩; refine ⟨_, rfl, ?_⟩; have n0_ := Aside0.mk (below_step (by repeat (first | (with_reducible first | exact HB.out | apply below_alloc | apply pw_below_drewN | apply below_drew1) | exact HB.out)) hb); clear HB; have HB := n0_; clear n0_; (try clear hb); (try clear hb2); (try clear hk); (try clear hi)))
  (try simp only [Act.put, List.setIfInBounds_toArray, List.set_cons_zero, List.set_cons_succ])
  go_cut [29] (fun v29 wc => ∃ (kq : Nat) (x29_3 : Bool), v29 = .bool x29_3 ∧ Aside0 (compositorlaw13_TextGaps.j0 kq l0 l1 t290 x29_3 = some r) ∧ Aside0 (kq ≤ k) ∧ Aside0 (Below w.heap.size w wc))
  case first =>
    have H := HC4.out
    clear HC4
    replace H := Option.bind_eq_some_iff.mp H
    obtain ⟨t291, A60, H⟩ := H
    replace H : (if t291 = true then (if (l0.length : Int) > 50 then (compositorlaw13_TextGaps.j0 k l0 l1 t290 true) else (compositorlaw13_TextGaps.j0 k l0 l1 t290 (decide ((l1.length : Int) > 60)))) else (compositorlaw13_TextGaps.j0 k l0 l1 t290 true)) = some r := H
    have A6 := Aside0.mk A60
    clear A60
    by_cases c7 : t291 = true
    · subst c7
      have H1 : (if (l0.length : Int) > 50 then (compositorlaw13_TextGaps.j0 k l0 l1 t290 true) else (compositorlaw13_TextGaps.j0 k l0 l1 t290 (decide ((l1.length : Int) > 60)))) = some r := by rw [if_pos rfl] at H; exact H
      clear H
      have H := H1
      clear H1
      by_cases c8 : (l0.length : Int) > 50
      · rw [if_pos c8] at H
        have c8b0 : decide (50 < (l0.length : Int)) = true := decide_eq_true c8
        have c8b1 : decide (50 < l0.length) = true := decide_eq_true (by omega)
        clear c8
        (first | rw [c8b0] | (simp only [i64_w, i32_w]; rw [c8b0]) | skip)
        have H' := Aside0.mk H
        clear H
        go_wp2_with (first | ((with_reducible refine gate_callee (f := 14) rfl ?_); refine goesL_ (some 18) rfl rfl Try.func14 (by kernel_rfl) rfl #[.slice A0 l0.length c0] rfl (by (try simp only [List.map_toArray, List.map_cons, List.map_nil]); first | done | rfl | (simp only [List.length_drop, List.length_take]; rfl)) ?_; (with_reducible refine (compositorref13_Few.calls k _ _ l0 true _ ?side1 ?side2 A6.out).mono ?_); (case side1 => repeat (first | exact (Kd.C_below HR0.out HB.out) | (with_reducible refine Kd.C_alloc ?_ _) | (with_reducible refine Kd.C_drewN ?_ _) | (with_reducible refine Kd.C_drew ?_))); (case side2 => exact HC0.out); rintro e w' ⟨rfl, ⟨nd, rfl⟩⟩; refine ⟨_, rfl, ?_⟩))
        go_meet
        case rel => exact ⟨_, (true), (by first | rfl | (simp; done) | (simp [*]; done)), H', ⟨by first | omega | exact Nat.le_refl _⟩, ⟨by repeat (first | (with_reducible first | exact HB.out | apply below_alloc | apply pw_below_drewN | apply below_drew1) | exact HB.out)⟩⟩
      · rw [if_neg c8] at H
        have c8b0 : decide (50 < (l0.length : Int)) = false := decide_eq_false c8
        have c8b1 : decide (50 < l0.length) = false := decide_eq_false (by omega)
        clear c8
        (first | rw [c8b0] | (simp only [i64_w, i32_w]; rw [c8b0]) | skip)
        have H' := Aside0.mk H
        clear H
        go_wp2_with (first | ((with_reducible refine gate_callee (f := 14) rfl ?_); refine goesL_ (some 18) rfl rfl Try.func14 (by kernel_rfl) rfl #[.slice A0 l0.length c0] rfl (by (try simp only [List.map_toArray, List.map_cons, List.map_nil]); first | done | rfl | (simp only [List.length_drop, List.length_take]; rfl)) ?_; (with_reducible refine (compositorref13_Few.calls k _ _ l0 true _ ?side1 ?side2 A6.out).mono ?_); (case side1 => repeat (first | exact (Kd.C_below HR0.out HB.out) | (with_reducible refine Kd.C_alloc ?_ _) | (with_reducible refine Kd.C_drewN ?_ _) | (with_reducible refine Kd.C_drew ?_))); (case side2 => exact HC0.out); rintro e w' ⟨rfl, ⟨nd, rfl⟩⟩; refine ⟨_, rfl, ?_⟩))
        go_meet
        case rel => exact ⟨_, (decide ((l1.length : Int) > 60)), (by first | rfl | (simp; done) | (simp [*]; done)), H', ⟨by first | omega | exact Nat.le_refl _⟩, ⟨by repeat (first | (with_reducible first | exact HB.out | apply below_alloc | apply pw_below_drewN | apply below_drew1) | exact HB.out)⟩⟩
    · replace c7 := Bool.eq_false_iff.mpr c7
      subst c7
      have H1 : (compositorlaw13_TextGaps.j0 k l0 l1 t290 true) = some r := by rw [if_neg (show ¬ (false = true) by decide)] at H; exact H
      clear H
      have H := H1
      clear H1
      have H' := Aside0.mk H
      clear H
      go_wp2_with (first | ((with_reducible refine gate_callee (f := 14) rfl ?_); refine goesL_ (some 18) rfl rfl Try.func14 (by kernel_rfl) rfl #[.slice A0 l0.length c0] rfl (by (try simp only [List.map_toArray, List.map_cons, List.map_nil]); first | done | rfl | (simp only [List.length_drop, List.length_take]; rfl)) ?_; (with_reducible refine (compositorref13_Few.calls k _ _ l0 false _ ?side1 ?side2 A6.out).mono ?_); (case side1 => repeat (first | exact (Kd.C_below HR0.out HB.out) | (with_reducible refine Kd.C_alloc ?_ _) | (with_reducible refine Kd.C_drewN ?_ _) | (with_reducible refine Kd.C_drew ?_))); (case side2 => exact HC0.out); rintro e w' ⟨rfl, ⟨nd, rfl⟩⟩; refine ⟨_, rfl, ?_⟩))
      go_meet
      case rel => exact ⟨_, (true), (by first | rfl | (simp; done) | (simp [*]; done)), H', ⟨by first | omega | exact Nat.le_refl _⟩, ⟨by repeat (first | (with_reducible first | exact HB.out | apply below_alloc | apply pw_below_drewN | apply below_drew1) | exact HB.out)⟩⟩
  case rest =>
    clear HC4
    try clear c1
    try clear p2
    try clear c6
    try clear c7
    try clear c8
    try clear c8b0
    try clear c8b1
    obtain ⟨kq, x29_3, rfl, HA, HJ3, HB⟩ := hcut
    cases kq with
    | zero => exact absurd HA.out (by simp [compositorlaw13_TextGaps.j0])
    | succ kj3 =>
      have H := HA.out
      clear HA
      simp only [compositorlaw13_TextGaps.j0] at H
      by_cases c9 : x29_3 = true
      · subst c9
        have H1 : (some t290) = some r := by rw [if_pos rfl] at H; exact H
        clear H
        have H := H1
        clear H1
        obtain rfl := Option.some.inj H
        go_wp2
        go_ret
        exact ⟨by first | rfl | (simp [errW_none, errW_some] <;> rfl) | (simp [*, errW_none, errW_some] <;> rfl), by repeat (first | (with_reducible first | exact HB.out | apply below_alloc | apply pw_below_drewN | apply below_drew1) | exact HB.out)⟩
      · replace c9 := Bool.eq_false_iff.mpr c9
        subst c9
        have H1 : (compositorlaw13_TextGaps.l0 kj3 l0 l1 t290 ([] : List Int) 0) = some r := by rw [if_neg (show ¬ (false = true) by decide)] at H; exact H
        clear H
        have H := H1
        clear H1
        have H' := Aside0.mk H
        clear H
        go_wp2
        go_loopg [6, 7] kj3 (fun kq v6 v7 w' => ∃ (x6_2 : List Int) (x7_2 : Int), v7 = .int .i64 x7_2 ∧ Aside0 (compositorlaw13_TextGaps.l0 kq l0 l1 t290 x6_2 x7_2 = some r) ∧ Aside0 (kq ≤ kj3) ∧ Aside0 (Kd.R (Kd.int .u8) 5 w' w.heap.size (fun _ => True) v6 x6_2) ∧ Aside0 (Below w.heap.size w w'))
        case atStart => exact ⟨(([] : List Int)), (0), (by first | rfl | (simp; done) | (simp [*]; done)), H', ⟨Nat.le_refl _⟩, ⟨by first | exact Kd.R_nil _ _ _ _ _ | exact Kd.N_nil _ _ _ _ _ | exact Kd.V_nil _ _ _ _ _ | exact Kd.Q_nil _ _ _ _ _ | exact Kd.S_nil _ _ _ _ _⟩, ⟨by repeat (first | (with_reducible first | exact HB.out | apply below_alloc | apply pw_below_drewN | apply below_drew1) | exact HB.out)⟩⟩
        case round =>
          clear H'
          try clear c1
          try clear p2
          try clear c6
          try clear c7
          try clear c8
          try clear c8b0
          try clear c8b1
          try clear c9
          try clear p2
          obtain ⟨x6_2, x7_2, rfl, HA, HK2, HO_6, HB⟩ := hrel
          cases gk with
          | zero => exact absurd HA.out (by simp [compositorlaw13_TextGaps.l0])
          | succ k2 =>
            have H := HA.out
            clear HA
            simp only [compositorlaw13_TextGaps.l0] at H
            by_cases c10 : x7_2 < (l0.length : Int)
            · rw [if_pos c10] at H
              have c10b0 : decide (x7_2 < (l0.length : Int)) = true := decide_eq_true c10
              clear c10
              by_cases c11 : 0 ≤ x7_2
              · rw [if_pos c11] at H
                have c11b0 := eq_true c11
                have c11b1 : decide (0 ≤ x7_2) = true := decide_eq_true c11
                clear c11
                by_cases c12 : x7_2 ≤ (wrap64 (x7_2 + 1))
                · rw [if_pos c12] at H
                  have c12b0 := eq_true c12
                  have c12b1 : decide (x7_2 ≤ (wrap64 (x7_2 + 1))) = true := decide_eq_true c12
                  by_cases c13 : (wrap64 (x7_2 + 1)) ≤ (l0.length : Int)
                  · rw [if_pos c13] at H
                    have c13b0 := eq_true c13
                    have c13b1 : decide ((wrap64 (x7_2 + 1)) ≤ (l0.length : Int)) = true := decide_eq_true c13
                    obtain ⟨y304, hy304⟩ : ∃ y_ : List (S36), y_ = ((l0.take ((wrap64 (x7_2 + 1)) : Int).toNat).drop (x7_2 : Int).toNat) := ⟨_, rfl⟩
                    replace H : ((text_Write.f y304).bind fun bt308 => (if bt308.2 = 0 then (if x6_2.length + bt308.1.length < 140737488355328 then ((some (x6_2 ++ bt308.1 : List Int)).bind fun y312 => (if x7_2 < (l1.length : Int) then (compositorlaw13_TextGaps.j2 k2 l0 l1 t290 y312 x7_2 (wrap64 (1 + (wrap64 (Int.tmod (rd l1 x7_2) 3))))) else (compositorlaw13_TextGaps.j2 k2 l0 l1 t290 y312 x7_2 1))) else (none)) else (if t290 = true then (some (bt308.2 == 130)) else (some false)))) = some r := by first | (rw [hy304]; with_reducible exact H) | (have H2_ := (Option.bind_some _ _).symm.trans H; rw [hy304]; with_reducible exact H2_) | (have H2_ := (Option.bind_some _ _).symm.trans H; with_reducible exact H2_) | with_reducible exact H | (rw [hy304]; exact H) | exact H
                    have Ny304 := Aside0.mk hy304
                    clear hy304
                    replace H := Option.bind_eq_some_iff.mp H
                    obtain ⟨⟨t308, t309⟩, A140, H⟩ := H
                    replace H : (if t309 = 0 then (if x6_2.length + t308.length < 140737488355328 then ((some (x6_2 ++ t308 : List Int)).bind fun y312 => (if x7_2 < (l1.length : Int) then (compositorlaw13_TextGaps.j2 k2 l0 l1 t290 y312 x7_2 (wrap64 (1 + (wrap64 (Int.tmod (rd l1 x7_2) 3))))) else (compositorlaw13_TextGaps.j2 k2 l0 l1 t290 y312 x7_2 1))) else (none)) else (if t290 = true then (some (t309 == 130)) else (some false))) = some r := H
                    have A14 := Aside0.mk A140
                    clear A140
                    by_cases c15 : t309 = 0
                    · rw [if_pos c15] at H
                      have c15b0 : (t309 == 0) = true := beq_iff_eq.mpr c15
                      have c15b1 : (t309 != 0) = false := bne_eq_false_iff_eq.mpr c15
                      clear c15
                      by_cases c16 : x6_2.length + t308.length < 140737488355328
                      · rw [if_pos c16] at H
                        have LMc16 := Aside0.mk c16
                        clear c16
                        obtain ⟨y312, hy312⟩ : ∃ y_ : List Int, y_ = (x6_2 ++ t308) := ⟨_, rfl⟩
                        replace H : (if x7_2 < (l1.length : Int) then (compositorlaw13_TextGaps.j2 k2 l0 l1 t290 y312 x7_2 (wrap64 (1 + (wrap64 (Int.tmod (rd l1 x7_2) 3))))) else (compositorlaw13_TextGaps.j2 k2 l0 l1 t290 y312 x7_2 1)) = some r := by first | (rw [hy312]; with_reducible exact H) | (have H2_ := (Option.bind_some _ _).symm.trans H; rw [hy312]; with_reducible exact H2_) | (have H2_ := (Option.bind_some _ _).symm.trans H; with_reducible exact H2_) | with_reducible exact H | (rw [hy312]; exact H) | exact H
                        have Ny312 := Aside0.mk hy312
                        clear hy312
                        have HC17 := Aside0.mk H
                        clear H
                        have q18 : ((wrap64 (x7_2 + 1)) : Int) ≤ ((l0.length : Int) : Int) := of_decide_eq_true (by first | (with_reducible assumption) | assumption)
                        obtain ⟨i018, hi018, _, hsz18, _⟩ := info_parts info36
                        have hroom18 : l0.length ≤ c0 := HC0.out
                        have hC18 : Kd.C k36 _ A0 l0.length l0 := HR0.out
                        have ql18 : (x7_2 : Int) ≤ ((wrap64 (x7_2 + 1)) : Int) := of_decide_eq_true (by first | (with_reducible assumption) | assumption)
                        have q018 : (0 : Int) ≤ (x7_2 : Int) := of_decide_eq_true (by first | (with_reducible assumption) | assumption)
                        have hcut18 := cut_mid (P := Try.prog) 24 36 .i64 .i64 Try.underlying24 hi018 2 hsz18 A0 l0.length c0 x7_2 (wrap64 (x7_2 + 1)) q018 ql18 q18 hroom18
                        have hr18 := Kd.C_mid (lo := (x7_2 : Int).toNat) (hi := ((wrap64 (x7_2 + 1)) : Int).toNat) (c := c0) hC18 (by omega) (by omega) hroom18
                        obtain ⟨A18, hA18⟩ : ∃ A1, A1 = (if c0 = (x7_2 : Int).toNat then A0 else (A0 : Option Addr).map (·.add ((x7_2 : Int).toNat * 2))) := ⟨_, rfl⟩
                        obtain ⟨c18, hc18⟩ : ∃ c1, c1 = c0 - (x7_2 : Int).toNat := ⟨_, rfl⟩
                        have hy18 : y304.length = ((wrap64 (x7_2 + 1)) : Int).toNat - (x7_2 : Int).toNat := (by rw [Ny304.out, List.length_drop, List.length_take] <;> omega)
                        rw [show ((l0).take ((wrap64 (x7_2 + 1)) : Int).toNat).drop (x7_2 : Int).toNat = y304 from Ny304.out.symm] at hr18
                        replace hr18 : Kd.C k36 _ A18 y304.length y304 := (by rw [hA18]; exact hr18)
                        rw [← hy18, ← hA18, ← hc18] at hcut18
                        have HR307 := Aside0.mk hr18
                        have HC307 := Aside0.mk (show y304.length ≤ c18 from by rw [hy18, hc18]; exact Nat.sub_le_sub_right (Nat.le_trans (by omega) hroom18) _)
                        clear hr18 hC18 hroom18 hi018 hsz18 hc18
                        have KY18 := Aside0.mk hy18
                        have KA18 := Aside0.mk hA18
                        clear hy18 hA18
                        replace q18 := eq_true q18
                        go_upto_if 59 with (first | ((with_reducible refine gate_callee (f := 15) rfl ?_); refine goesL_ (some 43) rfl rfl Try.func15 (by kernel_rfl) rfl #[.slice A18 y304.length c18] rfl (by (try simp only [List.map_toArray, List.map_cons, List.map_nil]); first | done | rfl | (simp only [List.length_drop, List.length_take]; rfl)) ?_; (with_reducible refine (text_Write.calls _ _ y304 t308 t309 _ ?side1 ?side2 A14.out).mono ?_); (case side1 => repeat (first | exact (Kd.C_below HR307.out HB.out) | (with_reducible refine Kd.C_alloc ?_ _) | (with_reducible refine Kd.C_drewN ?_ _) | (with_reducible refine Kd.C_drew ?_))); (case side2 => exact HC307.out); rintro e w19 ⟨v310, rfl, ho0, hb⟩; refine ⟨_, rfl, ?_⟩; have n0_ := Aside0.mk (Kd.R_elder' (by (with_reducible repeat (first | apply Kd.R_alloc | apply Kd.R_drewN | apply Kd.R_drew)); exact HO_6.out) (Kd.R_base ho0) hb); have n1_ := Aside0.mk (Kd.R_lower (Kd.R_new' ho0 (Kd.R_lt (by (with_reducible repeat (first | apply Kd.R_alloc | apply Kd.R_drewN | apply Kd.R_drew)); exact HO_6.out))) (below_size (by repeat (first | (with_reducible first | exact HB.out | apply below_alloc | apply pw_below_drewN | apply below_drew1) | exact HB.out)))); have n2_ := Aside0.mk (below_step (by repeat (first | (with_reducible first | exact HB.out | apply below_alloc | apply pw_below_drewN | apply below_drew1) | exact HB.out)) hb); clear HO_6; clear HB; have HO_6 := n0_; have HO311 := n1_; have HB := n2_; clear n0_ n1_ n2_; (try clear hb); (try clear hb2); (try clear hk); (try clear hi); (try clear ho0); obtain ⟨Ao21, co21, eo21⟩ := Kd.R_slice HO311.out; subst eo21) | ((with_reducible refine gate_builtin (b := .append) (xs := #[.tmp 53, .tmp 54]) rfl ?_); (try (refine gate_guard (by rfl) ?_; dsimp only)); at_builtin; refine Kd.R_append_rows (Kd.int .u8) (w0 := w) w.heap.size rfl (.tmp 53) (.tmp 54) 22 5 (.int .u8 0) 1 rfl Try.underlying22 info5 rfl (by decide) (by omega) u6 x6_2 t308 _ _ _ (fun k_ => some k_ ≠ (.slice Ao21 t308.length co21 : Value).ownBlock) (fun _ => False) rfl rfl ?aO ?aR (fun _ _ h => h) (fun _ h => h.elim) ?aF ?aB ?aS ?aL ?_; (case aR => repeat (first | exact (Kd.R_reads' HO311.out).2.2 | (with_reducible refine Kd.C_alloc ?_ _) | (with_reducible refine Kd.C_drewN ?_ _) | (with_reducible refine Kd.C_drew ?_))); (case aB => exact (by repeat (first | (with_reducible first | exact HB.out | apply below_alloc | apply pw_below_drewN | apply below_drew1) | exact HB.out))); (case aF => exact (fun k_ hk => Kd.fresh' (Kd.R_lt (by (with_reducible repeat (first | apply Kd.R_alloc | apply Kd.R_drewN | apply Kd.R_drew)); exact HO311.out)) k_ hk)); (case aO => exact (by (with_reducible repeat (first | apply Kd.R_alloc | apply Kd.R_drewN | apply Kd.R_drew)); exact Kd.R_mono HO_6.out (fun _ hk => hk.2))); (case aS => exact (below_size (by repeat (first | (with_reducible first | exact HB.out | apply below_alloc | apply pw_below_drewN | apply below_drew1) | exact HB.out)))); (case aL => have := LMc16.out; omega); intro v313 w20 ho hb hg hat; rw [← Ny312.out] at ho; have n0_ := Aside0.mk (Kd.R_after (ok := (fun _ => True)) (by (with_reducible repeat (first | apply Kd.R_alloc | apply Kd.R_drewN | apply Kd.R_drew)); exact HO311.out) hg hat); have n1_ := Aside0.mk (hb); have n2_ := Aside0.mk (ho); clear HO311; clear HB; clear HO_6; have HO311 := n0_; have HB := n1_; have HO314 := n2_; clear n0_ n1_ n2_; clear ho hb hg hat))
                        (try simp only [Act.put, List.setIfInBounds_toArray, List.set_cons_zero, List.set_cons_succ])
                        go_cut [10] (fun v10 wc => ∃ (kq : Nat) (x10_16 : Int), v10 = .int .i64 x10_16 ∧ Aside0 (compositorlaw13_TextGaps.j2 kq l0 l1 t290 y312 x7_2 x10_16 = some r) ∧ Aside0 (kq ≤ k2) ∧ Aside0 (Kd.R (Kd.int .u8) 5 wc w.heap.size (fun _ => True) v313 y312) ∧ Aside0 (Below w.heap.size w wc))
                        case first =>
                          have H := HC17.out
                          clear HC17
                          by_cases c22 : x7_2 < (l1.length : Int)
                          · rw [if_pos c22] at H
                            have c22b0 : decide (x7_2 < (l1.length : Int)) = true := decide_eq_true c22
                            clear c22
                            (first | rw [c22b0] | (simp only [i64_w, i32_w]; rw [c22b0]) | skip)
                            have H' := Aside0.mk H
                            clear H
                            have p315 : 0 ≤ (x7_2 : Int) := of_decide_eq_true (by first | (with_reducible assumption) | assumption)
                            have q315 : x7_2 < (l1.length : Int) := of_decide_eq_true (by first | (with_reducible assumption) | assumption)
                            obtain ⟨ad315, e315, hx315_0⟩ := Kd.at_int HR1.out x7_2 p315 q315
                            cases e315
                            replace hx315_0 := (HB.out.cell (World.block_lt_of_cell? w _ hx315_0)).trans hx315_0
                            replace p315 := eq_true p315
                            replace q315 := eq_true q315
                            go_wp2
                            go_meet
                            case rel => exact ⟨_, (wrap64 (1 + (wrap64 (Int.tmod (rd l1 x7_2) 3)))), (by first | rfl | (simp; done) | (simp [*]; done)), H', ⟨by have := HJ3.out; have := HK2.out; first | omega | exact Nat.le_refl _⟩, ⟨by (with_reducible repeat (first | apply Kd.R_alloc | apply Kd.R_drewN | apply Kd.R_drew)); exact Kd.R_mono HO314.out (fun _ hk => trivial)⟩, ⟨by repeat (first | (with_reducible first | exact HB.out | apply below_alloc | apply pw_below_drewN | apply below_drew1) | exact HB.out)⟩⟩
                          · rw [if_neg c22] at H
                            have c22b0 : decide (x7_2 < (l1.length : Int)) = false := decide_eq_false c22
                            clear c22
                            (first | rw [c22b0] | (simp only [i64_w, i32_w]; rw [c22b0]) | skip)
                            have H' := Aside0.mk H
                            clear H
                            go_wp2
                            go_meet
                            case rel => exact ⟨_, (1), (by first | rfl | (simp; done) | (simp [*]; done)), H', ⟨by have := HJ3.out; have := HK2.out; first | omega | exact Nat.le_refl _⟩, ⟨by (with_reducible repeat (first | apply Kd.R_alloc | apply Kd.R_drewN | apply Kd.R_drew)); exact Kd.R_mono HO314.out (fun _ hk => trivial)⟩, ⟨by repeat (first | (with_reducible first | exact HB.out | apply below_alloc | apply pw_below_drewN | apply below_drew1) | exact HB.out)⟩⟩
                        case rest =>
                          clear HC17
                          try clear c1
                          try clear q1
                          try clear c2
                          try clear p2
                          try clear p3
                          try clear q3
                          try clear hx3
                          try clear c6
                          try clear p6
                          try clear c7
                          try clear c8
                          try clear c8b0
                          try clear c8b1
                          try clear c9
                          try clear c10
                          try clear c10b0
                          try clear c11
                          try clear c11b0
                          try clear c11b1
                          try clear c12
                          try clear c12b0
                          try clear c12b1
                          try clear c13
                          try clear c13b0
                          try clear c13b1
                          try clear c14
                          try clear c15
                          try clear c15b0
                          try clear c15b1
                          try clear c16
                          try clear c18
                          try clear q18
                          try clear c22
                          try clear c22b0
                          try clear hx315_0
                          try clear p2
                          try clear p315
                          try clear q018
                          try clear q18
                          try clear q315
                          obtain ⟨kq, x10_16, rfl, HA, HJ16, HO_6, HB⟩ := hcut
                          cases kq with
                          | zero => exact absurd HA.out (by simp [compositorlaw13_TextGaps.j2])
                          | succ kj16 =>
                            have H := HA.out
                            clear HA
                            simp only [compositorlaw13_TextGaps.j2] at H
                            have H' := Aside0.mk H
                            clear H
                            go_wp2
                            go_loopg [6, 11] kj16 (fun kq v6 v11 w' => ∃ (x6_4 : List Int) (x11_4 : Int), v11 = .int .i64 x11_4 ∧ Aside0 (compositorlaw13_TextGaps.l1 kq l0 l1 t290 x6_4 x7_2 x10_16 x11_4 = some r) ∧ Aside0 (kq ≤ kj16) ∧ Aside0 (Kd.R (Kd.int .u8) 5 w' w.heap.size (fun _ => True) v6 x6_4) ∧ Aside0 (Below w.heap.size w w'))
                            case atStart => exact ⟨(y312), (0), (by first | rfl | (simp; done) | (simp [*]; done)), H', ⟨Nat.le_refl _⟩, ⟨by (with_reducible repeat (first | apply Kd.R_alloc | apply Kd.R_drewN | apply Kd.R_drew)); exact HO_6.out⟩, ⟨by repeat (first | (with_reducible first | exact HB.out | apply below_alloc | apply pw_below_drewN | apply below_drew1) | exact HB.out)⟩⟩
                            case round =>
                              clear H'
                              try clear c1
                              try clear q1
                              try clear c2
                              try clear p2
                              try clear p3
                              try clear q3
                              try clear hx3
                              try clear c6
                              try clear p6
                              try clear c7
                              try clear c8
                              try clear c8b0
                              try clear c8b1
                              try clear c9
                              try clear c10
                              try clear c10b0
                              try clear c11
                              try clear c11b0
                              try clear c11b1
                              try clear c12
                              try clear c12b0
                              try clear c12b1
                              try clear c13
                              try clear c13b0
                              try clear c13b1
                              try clear c14
                              try clear c15
                              try clear c15b0
                              try clear c15b1
                              try clear c16
                              try clear c18
                              try clear q18
                              try clear c22
                              try clear c22b0
                              try clear hx315_0
                              try clear p2
                              try clear p3
                              try clear p315
                              try clear p6
                              try clear q018
                              try clear q1
                              try clear q18
                              try clear q3
                              try clear q315
                              obtain ⟨x6_4, x11_4, rfl, HA, HK4, HO_6, HB⟩ := hrel
                              cases gk with
                              | zero => exact absurd HA.out (by simp [compositorlaw13_TextGaps.l1])
                              | succ k4 =>
                                have H := HA.out
                                clear HA
                                simp only [compositorlaw13_TextGaps.l1] at H
                                by_cases c23 : x11_4 < x10_16
                                · rw [if_pos c23] at H
                                  have c23b0 : decide (x11_4 < x10_16) = true := decide_eq_true c23
                                  clear c23
                                  by_cases c24 : (Int.tmod (wrap64 (x7_2 + x11_4)) 4) = 0
                                  · rw [if_pos c24] at H
                                    have c24b0 : ((Int.tmod (wrap64 (x7_2 + x11_4)) 4) == 0) = true := beq_iff_eq.mpr c24
                                    have c24b1 : ((Int.tmod (wrap64 (x7_2 + x11_4)) 4) != 0) = false := bne_eq_false_iff_eq.mpr c24
                                    clear c24
                                    by_cases c25 : x6_4.length < 140737488355328
                                    · rw [if_pos c25] at H
                                      have LMc25 := Aside0.mk c25
                                      clear c25
                                      obtain ⟨y316, hy316⟩ : ∃ y_ : List Int, y_ = (x6_4 ++ [32]) := ⟨_, rfl⟩
                                      replace H : (compositorlaw13_TextGaps.l1 k4 l0 l1 t290 y316 x7_2 x10_16 (wrap64 (x11_4 + 1))) = some r := by first | (rw [hy316]; with_reducible exact H) | (have H2_ := (Option.bind_some _ _).symm.trans H; rw [hy316]; with_reducible exact H2_) | (have H2_ := (Option.bind_some _ _).symm.trans H; with_reducible exact H2_) | with_reducible exact H | (rw [hy316]; exact H) | exact H
                                      have Ny316 := Aside0.mk hy316
                                      clear hy316
                                      have H' := Aside0.mk H
                                      clear H
                                      go_wp2_with (first | ((with_reducible refine gate_builtin (b := .append) (xs := #[.tmp 78, .tmp 79]) rfl ?_); (try (refine gate_guard (by rfl) ?_; dsimp only)); at_builtin; refine Kd.R_append (Kd.int .u8) (w0 := w) w.heap.size rfl (.tmp 78) (.tmp 79) 22 5 (.int .u8 0) 1 rfl Try.underlying22 info5 rfl (by decide) (by omega) u6 x6_4 32 [.int .u8 32] (fun _ => True) (fun _ => False) rfl rfl ?aP (fun _ hk => hk.elim) ?aF ?aO ?aB ?aS ?aL ?_; (case aP => exact rfl); (case aB => exact (by repeat (first | (with_reducible first | exact HB.out | apply below_alloc | apply pw_below_drewN | apply below_drew1) | exact HB.out))); (case aF => exact (fun _ _ => trivial)); (case aO => exact (by (with_reducible repeat (first | apply Kd.R_alloc | apply Kd.R_drewN | apply Kd.R_drew)); exact HO_6.out)); (case aS => exact (below_size (by repeat (first | (with_reducible first | exact HB.out | apply below_alloc | apply pw_below_drewN | apply below_drew1) | exact HB.out)))); (case aL => have := LMc25.out; omega); intro v317 w26 ho hb hg hat; rw [← Ny316.out] at ho; have n0_ := Aside0.mk (hb); have n1_ := Aside0.mk (ho); clear HB; clear HO_6; have HB := n0_; have HO318 := n1_; clear n0_ n1_; clear ho hb hg hat))
                                      go_roundg k4
                                      case measure => have := HJ3.out; have := HK2.out; have := HJ16.out; have := HK4.out; omega
                                      case rel => exact ⟨(y316), (wrap64 (x11_4 + 1)), (by first | rfl | (simp; done) | (simp [*]; done)), H', ⟨by have := HJ3.out; have := HK2.out; have := HJ16.out; have := HK4.out; omega⟩, ⟨by (with_reducible repeat (first | apply Kd.R_alloc | apply Kd.R_drewN | apply Kd.R_drew)); exact HO318.out⟩, ⟨by repeat (first | (with_reducible first | exact HB.out | apply below_alloc | apply pw_below_drewN | apply below_drew1) | exact HB.out)⟩⟩
                                    · rw [if_neg c25] at H
                                      exact absurd H (by simp)
                                  · rw [if_neg c24] at H
                                    have c24b0 : ((Int.tmod (wrap64 (x7_2 + x11_4)) 4) == 0) = false := beq_eq_false_iff_ne.mpr c24
                                    have c24b1 : ((Int.tmod (wrap64 (x7_2 + x11_4)) 4) != 0) = true := bne_iff_ne.mpr c24
                                    by_cases c27 : (Int.tmod (wrap64 (x7_2 + x11_4)) 4) = 1
                                    · rw [if_pos c27] at H
                                      have c27b0 : ((Int.tmod (wrap64 (x7_2 + x11_4)) 4) == 1) = true := beq_iff_eq.mpr c27
                                      have c27b1 : ((Int.tmod (wrap64 (x7_2 + x11_4)) 4) != 1) = false := bne_eq_false_iff_eq.mpr c27
                                      clear c27
                                      by_cases c28 : x6_4.length < 140737488355328
                                      · rw [if_pos c28] at H
                                        have LMc28 := Aside0.mk c28
                                        clear c28
                                        obtain ⟨y319, hy319⟩ : ∃ y_ : List Int, y_ = (x6_4 ++ [10]) := ⟨_, rfl⟩
                                        replace H : (compositorlaw13_TextGaps.l1 k4 l0 l1 t290 y319 x7_2 x10_16 (wrap64 (x11_4 + 1))) = some r := by first | (rw [hy319]; with_reducible exact H) | (have H2_ := (Option.bind_some _ _).symm.trans H; rw [hy319]; with_reducible exact H2_) | (have H2_ := (Option.bind_some _ _).symm.trans H; with_reducible exact H2_) | with_reducible exact H | (rw [hy319]; exact H) | exact H
                                        have Ny319 := Aside0.mk hy319
                                        clear hy319
                                        have H' := Aside0.mk H
                                        clear H
                                        go_wp2_with (first | ((with_reducible refine gate_builtin (b := .append) (xs := #[.tmp 83, .tmp 84]) rfl ?_); (try (refine gate_guard (by rfl) ?_; dsimp only)); at_builtin; refine Kd.R_append (Kd.int .u8) (w0 := w) w.heap.size rfl (.tmp 83) (.tmp 84) 22 5 (.int .u8 0) 1 rfl Try.underlying22 info5 rfl (by decide) (by omega) u6 x6_4 10 [.int .u8 10] (fun _ => True) (fun _ => False) rfl rfl ?aP (fun _ hk => hk.elim) ?aF ?aO ?aB ?aS ?aL ?_; (case aP => exact rfl); (case aB => exact (by repeat (first | (with_reducible first | exact HB.out | apply below_alloc | apply pw_below_drewN | apply below_drew1) | exact HB.out))); (case aF => exact (fun _ _ => trivial)); (case aO => exact (by (with_reducible repeat (first | apply Kd.R_alloc | apply Kd.R_drewN | apply Kd.R_drew)); exact HO_6.out)); (case aS => exact (below_size (by repeat (first | (with_reducible first | exact HB.out | apply below_alloc | apply pw_below_drewN | apply below_drew1) | exact HB.out)))); (case aL => have := LMc28.out; omega); intro v320 w29 ho hb hg hat; rw [← Ny319.out] at ho; have n0_ := Aside0.mk (hb); have n1_ := Aside0.mk (ho); clear HB; clear HO_6; have HB := n0_; have HO321 := n1_; clear n0_ n1_; clear ho hb hg hat))
                                        go_roundg k4
                                        case measure => have := HJ3.out; have := HK2.out; have := HJ16.out; have := HK4.out; omega
                                        case rel => exact ⟨(y319), (wrap64 (x11_4 + 1)), (by first | rfl | (simp; done) | (simp [*]; done)), H', ⟨by have := HJ3.out; have := HK2.out; have := HJ16.out; have := HK4.out; omega⟩, ⟨by (with_reducible repeat (first | apply Kd.R_alloc | apply Kd.R_drewN | apply Kd.R_drew)); exact HO321.out⟩, ⟨by repeat (first | (with_reducible first | exact HB.out | apply below_alloc | apply pw_below_drewN | apply below_drew1) | exact HB.out)⟩⟩
                                      · rw [if_neg c28] at H
                                        exact absurd H (by simp)
                                    · rw [if_neg c27] at H
                                      have c27b0 : ((Int.tmod (wrap64 (x7_2 + x11_4)) 4) == 1) = false := beq_eq_false_iff_ne.mpr c27
                                      have c27b1 : ((Int.tmod (wrap64 (x7_2 + x11_4)) 4) != 1) = true := bne_iff_ne.mpr c27
                                      by_cases c30 : (Int.tmod (wrap64 (x7_2 + x11_4)) 4) = 2
                                      · rw [if_pos c30] at H
                                        have c30b0 : ((Int.tmod (wrap64 (x7_2 + x11_4)) 4) == 2) = true := beq_iff_eq.mpr c30
                                        have c30b1 : ((Int.tmod (wrap64 (x7_2 + x11_4)) 4) != 2) = false := bne_eq_false_iff_eq.mpr c30
                                        clear c30
                                        by_cases c31 : x6_4.length < 140737488355328
                                        · rw [if_pos c31] at H
                                          have LMc31 := Aside0.mk c31
                                          clear c31
                                          obtain ⟨y322, hy322⟩ : ∃ y_ : List Int, y_ = (x6_4 ++ [9]) := ⟨_, rfl⟩
                                          replace H : (compositorlaw13_TextGaps.l1 k4 l0 l1 t290 y322 x7_2 x10_16 (wrap64 (x11_4 + 1))) = some r := by first | (rw [hy322]; with_reducible exact H) | (have H2_ := (Option.bind_some _ _).symm.trans H; rw [hy322]; with_reducible exact H2_) | (have H2_ := (Option.bind_some _ _).symm.trans H; with_reducible exact H2_) | with_reducible exact H | (rw [hy322]; exact H) | exact H
                                          have Ny322 := Aside0.mk hy322
                                          clear hy322
                                          have H' := Aside0.mk H
                                          clear H
                                          go_wp2_with (first | ((with_reducible refine gate_builtin (b := .append) (xs := #[.tmp 88, .tmp 89]) rfl ?_); (try (refine gate_guard (by rfl) ?_; dsimp only)); at_builtin; refine Kd.R_append (Kd.int .u8) (w0 := w) w.heap.size rfl (.tmp 88) (.tmp 89) 22 5 (.int .u8 0) 1 rfl Try.underlying22 info5 rfl (by decide) (by omega) u6 x6_4 9 [.int .u8 9] (fun _ => True) (fun _ => False) rfl rfl ?aP (fun _ hk => hk.elim) ?aF ?aO ?aB ?aS ?aL ?_; (case aP => exact rfl); (case aB => exact (by repeat (first | (with_reducible first | exact HB.out | apply below_alloc | apply pw_below_drewN | apply below_drew1) | exact HB.out))); (case aF => exact (fun _ _ => trivial)); (case aO => exact (by (with_reducible repeat (first | apply Kd.R_alloc | apply Kd.R_drewN | apply Kd.R_drew)); exact HO_6.out)); (case aS => exact (below_size (by repeat (first | (with_reducible first | exact HB.out | apply below_alloc | apply pw_below_drewN | apply below_drew1) | exact HB.out)))); (case aL => have := LMc31.out; omega); intro v323 w32 ho hb hg hat; rw [← Ny322.out] at ho; have n0_ := Aside0.mk (hb); have n1_ := Aside0.mk (ho); clear HB; clear HO_6; have HB := n0_; have HO324 := n1_; clear n0_ n1_; clear ho hb hg hat))
                                          go_roundg k4
                                          case measure => have := HJ3.out; have := HK2.out; have := HJ16.out; have := HK4.out; omega
                                          case rel => exact ⟨(y322), (wrap64 (x11_4 + 1)), (by first | rfl | (simp; done) | (simp [*]; done)), H', ⟨by have := HJ3.out; have := HK2.out; have := HJ16.out; have := HK4.out; omega⟩, ⟨by (with_reducible repeat (first | apply Kd.R_alloc | apply Kd.R_drewN | apply Kd.R_drew)); exact HO324.out⟩, ⟨by repeat (first | (with_reducible first | exact HB.out | apply below_alloc | apply pw_below_drewN | apply below_drew1) | exact HB.out)⟩⟩
                                        · rw [if_neg c31] at H
                                          exact absurd H (by simp)
                                      · rw [if_neg c30] at H
                                        have c30b0 : ((Int.tmod (wrap64 (x7_2 + x11_4)) 4) == 2) = false := beq_eq_false_iff_ne.mpr c30
                                        have c30b1 : ((Int.tmod (wrap64 (x7_2 + x11_4)) 4) != 2) = true := bne_iff_ne.mpr c30
                                        by_cases c33 : x6_4.length < 140737488355328
                                        · rw [if_pos c33] at H
                                          have LMc33 := Aside0.mk c33
                                          clear c33
                                          obtain ⟨y325, hy325⟩ : ∃ y_ : List Int, y_ = (x6_4 ++ [13]) := ⟨_, rfl⟩
                                          replace H : (compositorlaw13_TextGaps.l1 k4 l0 l1 t290 y325 x7_2 x10_16 (wrap64 (x11_4 + 1))) = some r := by first | (rw [hy325]; with_reducible exact H) | (have H2_ := (Option.bind_some _ _).symm.trans H; rw [hy325]; with_reducible exact H2_) | (have H2_ := (Option.bind_some _ _).symm.trans H; with_reducible exact H2_) | with_reducible exact H | (rw [hy325]; exact H) | exact H
                                          have Ny325 := Aside0.mk hy325
                                          clear hy325
                                          have H' := Aside0.mk H
                                          clear H
                                          go_wp2_with (first | ((with_reducible refine gate_builtin (b := .append) (xs := #[.tmp 91, .tmp 92]) rfl ?_); (try (refine gate_guard (by rfl) ?_; dsimp only)); at_builtin; refine Kd.R_append (Kd.int .u8) (w0 := w) w.heap.size rfl (.tmp 91) (.tmp 92) 22 5 (.int .u8 0) 1 rfl Try.underlying22 info5 rfl (by decide) (by omega) u6 x6_4 13 [.int .u8 13] (fun _ => True) (fun _ => False) rfl rfl ?aP (fun _ hk => hk.elim) ?aF ?aO ?aB ?aS ?aL ?_; (case aP => exact rfl); (case aB => exact (by repeat (first | (with_reducible first | exact HB.out | apply below_alloc | apply pw_below_drewN | apply below_drew1) | exact HB.out))); (case aF => exact (fun _ _ => trivial)); (case aO => exact (by (with_reducible repeat (first | apply Kd.R_alloc | apply Kd.R_drewN | apply Kd.R_drew)); exact HO_6.out)); (case aS => exact (below_size (by repeat (first | (with_reducible first | exact HB.out | apply below_alloc | apply pw_below_drewN | apply below_drew1) | exact HB.out)))); (case aL => have := LMc33.out; omega); intro v326 w34 ho hb hg hat; rw [← Ny325.out] at ho; have n0_ := Aside0.mk (hb); have n1_ := Aside0.mk (ho); clear HB; clear HO_6; have HB := n0_; have HO327 := n1_; clear n0_ n1_; clear ho hb hg hat))
                                          go_roundg k4
                                          case measure => have := HJ3.out; have := HK2.out; have := HJ16.out; have := HK4.out; omega
                                          case rel => exact ⟨(y325), (wrap64 (x11_4 + 1)), (by first | rfl | (simp; done) | (simp [*]; done)), H', ⟨by have := HJ3.out; have := HK2.out; have := HJ16.out; have := HK4.out; omega⟩, ⟨by (with_reducible repeat (first | apply Kd.R_alloc | apply Kd.R_drewN | apply Kd.R_drew)); exact HO327.out⟩, ⟨by repeat (first | (with_reducible first | exact HB.out | apply below_alloc | apply pw_below_drewN | apply below_drew1) | exact HB.out)⟩⟩
                                        · rw [if_neg c33] at H
                                          exact absurd H (by simp)
                                · rw [if_neg c23] at H
                                  have c23b0 : decide (x11_4 < x10_16) = false := decide_eq_false c23
                                  clear c23
                                  have H' := Aside0.mk H
                                  clear H
                                  go_wp2
                                  go_roundg k4
                                  case measure => have := HJ3.out; have := HK2.out; have := HJ16.out; have := HK4.out; omega
                                  case rel => exact ⟨(x6_4), (wrap64 (x7_2 + 1)), (by first | rfl | (simp; done) | (simp [*]; done)), H', ⟨by have := HJ3.out; have := HK2.out; have := HJ16.out; have := HK4.out; omega⟩, ⟨by (with_reducible repeat (first | apply Kd.R_alloc | apply Kd.R_drewN | apply Kd.R_drew)); exact HO_6.out⟩, ⟨by repeat (first | (with_reducible first | exact HB.out | apply below_alloc | apply pw_below_drewN | apply below_drew1) | exact HB.out)⟩⟩
                      · rw [if_neg c16] at H
                        exact absurd H (by simp)
                    · rw [if_neg c15] at H
                      have c15b0 : (t309 == 0) = false := beq_eq_false_iff_ne.mpr c15
                      have c15b1 : (t309 != 0) = true := bne_iff_ne.mpr c15
                      by_cases c35 : t290 = true
                      · subst c35
                        have H1 : (some (t309 == 130)) = some r := by rw [if_pos rfl] at H; exact H
                        clear H
                        have H := H1
                        clear H1
                        obtain rfl := Option.some.inj H
                        have q36 : ((wrap64 (x7_2 + 1)) : Int) ≤ ((l0.length : Int) : Int) := of_decide_eq_true (by first | (with_reducible assumption) | assumption)
                        obtain ⟨i036, hi036, _, hsz36, _⟩ := info_parts info36
                        have hroom36 : l0.length ≤ c0 := HC0.out
                        have hC36 : Kd.C k36 _ A0 l0.length l0 := HR0.out
                        have ql36 : (x7_2 : Int) ≤ ((wrap64 (x7_2 + 1)) : Int) := of_decide_eq_true (by first | (with_reducible assumption) | assumption)
                        have q036 : (0 : Int) ≤ (x7_2 : Int) := of_decide_eq_true (by first | (with_reducible assumption) | assumption)
                        have hcut36 := cut_mid (P := Try.prog) 24 36 .i64 .i64 Try.underlying24 hi036 2 hsz36 A0 l0.length c0 x7_2 (wrap64 (x7_2 + 1)) q036 ql36 q36 hroom36
                        have hr36 := Kd.C_mid (lo := (x7_2 : Int).toNat) (hi := ((wrap64 (x7_2 + 1)) : Int).toNat) (c := c0) hC36 (by omega) (by omega) hroom36
                        obtain ⟨A36, hA36⟩ : ∃ A1, A1 = (if c0 = (x7_2 : Int).toNat then A0 else (A0 : Option Addr).map (·.add ((x7_2 : Int).toNat * 2))) := ⟨_, rfl⟩
                        obtain ⟨c36, hc36⟩ : ∃ c1, c1 = c0 - (x7_2 : Int).toNat := ⟨_, rfl⟩
                        have hy36 : y304.length = ((wrap64 (x7_2 + 1)) : Int).toNat - (x7_2 : Int).toNat := (by rw [Ny304.out, List.length_drop, List.length_take] <;> omega)
                        rw [show ((l0).take ((wrap64 (x7_2 + 1)) : Int).toNat).drop (x7_2 : Int).toNat = y304 from Ny304.out.symm] at hr36
                        replace hr36 : Kd.C k36 _ A36 y304.length y304 := (by rw [hA36]; exact hr36)
                        rw [← hy36, ← hA36, ← hc36] at hcut36
                        have HR307 := Aside0.mk hr36
                        have HC307 := Aside0.mk (show y304.length ≤ c36 from by rw [hy36, hc36]; exact Nat.sub_le_sub_right (Nat.le_trans (by omega) hroom36) _)
                        clear hr36 hC36 hroom36 hi036 hsz36 hc36
                        have KY36 := Aside0.mk hy36
                        have KA36 := Aside0.mk hA36
                        clear hy36 hA36
                        replace q36 := eq_true q36
                        go_wp2_with (first | ((with_reducible refine gate_callee (f := 15) rfl ?_); refine goesL_ (some 43) rfl rfl Try.func15 (by kernel_rfl) rfl #[.slice A36 y304.length c36] rfl (by (try simp only [List.map_toArray, List.map_cons, List.map_nil]); first | done | rfl | (simp only [List.length_drop, List.length_take]; rfl)) ?_; (with_reducible refine (text_Write.calls _ _ y304 t308 t309 _ ?side1 ?side2 A14.out).mono ?_); (case side1 => repeat (first | exact (Kd.C_below HR307.out HB.out) | (with_reducible refine Kd.C_alloc ?_ _) | (with_reducible refine Kd.C_drewN ?_ _) | (with_reducible refine Kd.C_drew ?_))); (case side2 => exact HC307.out); rintro e w37 ⟨v310, rfl, ho0, hb⟩; refine ⟨_, rfl, ?_⟩; have n0_ := Aside0.mk (Kd.R_elder' (by (with_reducible repeat (first | apply Kd.R_alloc | apply Kd.R_drewN | apply Kd.R_drew)); exact HO_6.out) (Kd.R_base ho0) hb); have n1_ := Aside0.mk (Kd.R_lower (Kd.R_new' ho0 (Kd.R_lt (by (with_reducible repeat (first | apply Kd.R_alloc | apply Kd.R_drewN | apply Kd.R_drew)); exact HO_6.out))) (below_size (by repeat (first | (with_reducible first | exact HB.out | apply below_alloc | apply pw_below_drewN | apply below_drew1) | exact HB.out)))); have n2_ := Aside0.mk (below_step (by repeat (first | (with_reducible first | exact HB.out | apply below_alloc | apply pw_below_drewN | apply below_drew1) | exact HB.out)) hb); clear HO_6; clear HB; have HO_6 := n0_; have HO311 := n1_; have HB := n2_; clear n0_ n1_ n2_; (try clear hb); (try clear hb2); (try clear hk); (try clear hi); (try clear ho0)))
                        go_ret
                        exact ⟨by first | rfl | (simp [errW_none, errW_some] <;> rfl) | (simp [*, errW_none, errW_some] <;> rfl), by repeat (first | (with_reducible first | exact HB.out | apply below_alloc | apply pw_below_drewN | apply below_drew1) | exact HB.out)⟩
                      · replace c35 := Bool.eq_false_iff.mpr c35
                        subst c35
                        have H1 : (some false) = some r := by rw [if_neg (show ¬ (false = true) by decide)] at H; exact H
                        clear H
                        have H := H1
                        clear H1
                        obtain rfl := Option.some.inj H
                        have q38 : ((wrap64 (x7_2 + 1)) : Int) ≤ ((l0.length : Int) : Int) := of_decide_eq_true (by first | (with_reducible assumption) | assumption)
                        obtain ⟨i038, hi038, _, hsz38, _⟩ := info_parts info36
                        have hroom38 : l0.length ≤ c0 := HC0.out
                        have hC38 : Kd.C k36 _ A0 l0.length l0 := HR0.out
                        have ql38 : (x7_2 : Int) ≤ ((wrap64 (x7_2 + 1)) : Int) := of_decide_eq_true (by first | (with_reducible assumption) | assumption)
                        have q038 : (0 : Int) ≤ (x7_2 : Int) := of_decide_eq_true (by first | (with_reducible assumption) | assumption)
                        have hcut38 := cut_mid (P := Try.prog) 24 36 .i64 .i64 Try.underlying24 hi038 2 hsz38 A0 l0.length c0 x7_2 (wrap64 (x7_2 + 1)) q038 ql38 q38 hroom38
                        have hr38 := Kd.C_mid (lo := (x7_2 : Int).toNat) (hi := ((wrap64 (x7_2 + 1)) : Int).toNat) (c := c0) hC38 (by omega) (by omega) hroom38
                        obtain ⟨A38, hA38⟩ : ∃ A1, A1 = (if c0 = (x7_2 : Int).toNat then A0 else (A0 : Option Addr).map (·.add ((x7_2 : Int).toNat * 2))) := ⟨_, rfl⟩
                        obtain ⟨c38, hc38⟩ : ∃ c1, c1 = c0 - (x7_2 : Int).toNat := ⟨_, rfl⟩
                        have hy38 : y304.length = ((wrap64 (x7_2 + 1)) : Int).toNat - (x7_2 : Int).toNat := (by rw [Ny304.out, List.length_drop, List.length_take] <;> omega)
                        rw [show ((l0).take ((wrap64 (x7_2 + 1)) : Int).toNat).drop (x7_2 : Int).toNat = y304 from Ny304.out.symm] at hr38
                        replace hr38 : Kd.C k36 _ A38 y304.length y304 := (by rw [hA38]; exact hr38)
                        rw [← hy38, ← hA38, ← hc38] at hcut38
                        have HR307 := Aside0.mk hr38
                        have HC307 := Aside0.mk (show y304.length ≤ c38 from by rw [hy38, hc38]; exact Nat.sub_le_sub_right (Nat.le_trans (by omega) hroom38) _)
                        clear hr38 hC38 hroom38 hi038 hsz38 hc38
                        have KY38 := Aside0.mk hy38
                        have KA38 := Aside0.mk hA38
                        clear hy38 hA38
                        replace q38 := eq_true q38
                        go_wp2_with (first | ((with_reducible refine gate_callee (f := 15) rfl ?_); refine goesL_ (some 43) rfl rfl Try.func15 (by kernel_rfl) rfl #[.slice A38 y304.length c38] rfl (by (try simp only [List.map_toArray, List.map_cons, List.map_nil]); first | done | rfl | (simp only [List.length_drop, List.length_take]; rfl)) ?_; (with_reducible refine (text_Write.calls _ _ y304 t308 t309 _ ?side1 ?side2 A14.out).mono ?_); (case side1 => repeat (first | exact (Kd.C_below HR307.out HB.out) | (with_reducible refine Kd.C_alloc ?_ _) | (with_reducible refine Kd.C_drewN ?_ _) | (with_reducible refine Kd.C_drew ?_))); (case side2 => exact HC307.out); rintro e w39 ⟨v310, rfl, ho0, hb⟩; refine ⟨_, rfl, ?_⟩; have n0_ := Aside0.mk (Kd.R_elder' (by (with_reducible repeat (first | apply Kd.R_alloc | apply Kd.R_drewN | apply Kd.R_drew)); exact HO_6.out) (Kd.R_base ho0) hb); have n1_ := Aside0.mk (Kd.R_lower (Kd.R_new' ho0 (Kd.R_lt (by (with_reducible repeat (first | apply Kd.R_alloc | apply Kd.R_drewN | apply Kd.R_drew)); exact HO_6.out))) (below_size (by repeat (first | (with_reducible first | exact HB.out | apply below_alloc | apply pw_below_drewN | apply below_drew1) | exact HB.out)))); have n2_ := Aside0.mk (below_step (by repeat (first | (with_reducible first | exact HB.out | apply below_alloc | apply pw_below_drewN | apply below_drew1) | exact HB.out)) hb); clear HO_6; clear HB; have HO_6 := n0_; have HO311 := n1_; have HB := n2_; clear n0_ n1_ n2_; (try clear hb); (try clear hb2); (try clear hk); (try clear hi); (try clear ho0)))
                        go_ret
                        exact ⟨by first | rfl | (simp [errW_none, errW_some] <;> rfl) | (simp [*, errW_none, errW_some] <;> rfl), by repeat (first | (with_reducible first | exact HB.out | apply below_alloc | apply pw_below_drewN | apply below_drew1) | exact HB.out)⟩
                  · rw [if_neg c13] at H
                    exact absurd H (by simp)
                · rw [if_neg c12] at H
                  exact absurd H (by simp)
              · rw [if_neg c11] at H
                exact absurd H (by simp)
            · rw [if_neg c10] at H
              have c10b0 : decide (x7_2 < (l0.length : Int)) = false := decide_eq_false c10
              clear c10
              obtain ⟨y292, hy292⟩ : ∃ y_ : List Int, y_ = (([32, 10] : List Int)) := ⟨_, rfl⟩
              replace H : (if y292.length + x6_2.length < 140737488355328 then ((text_Read.f (y292 ++ x6_2)).bind fun bt298 => ((compositorref13_Same.f k2 l0 bt298.1).bind fun t302 => (if t290 = true then ((text_Check.f l0).bind fun t303 => (if ((bt298.2 == 0) == t303) = true then (if bt298.2 = 0 then (some t302) else (some true)) else (some false))) else (some false)))) else (none)) = some r := by first | (rw [hy292]; with_reducible exact H) | (have H2_ := (Option.bind_some _ _).symm.trans H; rw [hy292]; with_reducible exact H2_) | (have H2_ := (Option.bind_some _ _).symm.trans H; with_reducible exact H2_) | with_reducible exact H | (rw [hy292]; exact H) | exact H
              have Ny292 := Aside0.mk hy292
              clear hy292
              by_cases c40 : y292.length + x6_2.length < 140737488355328
              · rw [if_pos c40] at H
                have LMc40 := Aside0.mk c40
                clear c40
                obtain ⟨y295, hy295⟩ : ∃ y_ : List Int, y_ = (y292 ++ x6_2) := ⟨_, rfl⟩
                replace H : ((text_Read.f y295).bind fun bt298 => ((compositorref13_Same.f k2 l0 bt298.1).bind fun t302 => (if t290 = true then ((text_Check.f l0).bind fun t303 => (if ((bt298.2 == 0) == t303) = true then (if bt298.2 = 0 then (some t302) else (some true)) else (some false))) else (some false)))) = some r := by first | (rw [hy295]; with_reducible exact H) | (have H2_ := (Option.bind_some _ _).symm.trans H; rw [hy295]; with_reducible exact H2_) | (have H2_ := (Option.bind_some _ _).symm.trans H; with_reducible exact H2_) | with_reducible exact H | (rw [hy295]; exact H) | exact H
                have Ny295 := Aside0.mk hy295
                clear hy295
                replace H := Option.bind_eq_some_iff.mp H
                obtain ⟨⟨t298, t299⟩, A410, H⟩ := H
                replace H : ((compositorref13_Same.f k2 l0 t298).bind fun t302 => (if t290 = true then ((text_Check.f l0).bind fun t303 => (if ((t299 == 0) == t303) = true then (if t299 = 0 then (some t302) else (some true)) else (some false))) else (some false))) = some r := H
                have A41 := Aside0.mk A410
                clear A410
                replace H := Option.bind_eq_some_iff.mp H
                obtain ⟨t302, A420, H⟩ := H
                replace H : (if t290 = true then ((text_Check.f l0).bind fun t303 => (if ((t299 == 0) == t303) = true then (if t299 = 0 then (some t302) else (some true)) else (some false))) else (some false)) = some r := H
                have A42 := Aside0.mk A420
                clear A420
                by_cases c43 : t290 = true
                · subst c43
                  have H1 : ((text_Check.f l0).bind fun t303 => (if ((t299 == 0) == t303) = true then (if t299 = 0 then (some t302) else (some true)) else (some false))) = some r := by rw [if_pos rfl] at H; exact H
                  clear H
                  have H := H1
                  clear H1
                  replace H := Option.bind_eq_some_iff.mp H
                  obtain ⟨t303, A440, H⟩ := H
                  replace H : (if ((t299 == 0) == t303) = true then (if t299 = 0 then (some t302) else (some true)) else (some false)) = some r := H
                  have A44 := Aside0.mk A440
                  clear A440
                  by_cases c45 : ((t299 == 0) == t303) = true
                  · rw [if_pos c45] at H
                    have c45b0 : ((t299 == 0) == t303) = true := c45
                    (try (have c45b1 : decide ((t299 == 0) = t303) = true := by simpa using c45))
                    (try (have c45b2 : ((t299 == 0) == t303) = true := by simpa using c45))
                    clear c45
                    by_cases c46 : t299 = 0
                    · rw [if_pos c46] at H
                      have c46b0 : (t299 == 0) = true := beq_iff_eq.mpr c46
                      have c46b1 : (t299 != 0) = false := bne_eq_false_iff_eq.mpr c46
                      clear c46
                      obtain rfl : t303 = true := by (rw [c46b0] at c45b0; simpa using c45b0)
                      obtain rfl := Option.some.inj H
                      go_wp2_with (first | ((with_reducible refine gate_dst (N := 95) rfl ?_); (try (refine gate_guard (by rfl) ?_; dsimp only)); refine Kd.R_lit (Kd.int .u8) _ 5 ?hg (N := 95) ?hd (xs := ([32, 10] : List Int)) (inner := [.int .u8 32, .int .u8 10]) (ok := fun _ => True) (okp := fun _ => True) ?hr ?hp (fun _ hk => hk) trivial (Below.refl _ _) (Nat.le_refl _) (by simp) ?_; (case hd => rfl); (case hg => rfl); (case hr => first | (go_simp; done) | (go_simp; rfl)); (case hp => exact (Reps.one (show Kd.M (Kd.int .u8) _ _ _ 32 [.int .u8 32] from rfl) (Reps.one (show Kd.M (Kd.int .u8) _ _ _ 10 [.int .u8 10] from rfl) (Reps.none _ _)))); intro v293 w47 ho48 hb hg_ hnew_; clear hg_ hnew_; (first | rw [← Ny292.out] at ho48 | (simp only [Int.reduceToNat] at ho48; rw [← Ny292.out] at ho48)); have n0_ := Aside0.mk (Kd.R_elder' (by (with_reducible repeat (first | apply Kd.R_alloc | apply Kd.R_drewN | apply Kd.R_drew)); exact HO_6.out) (Kd.R_base ho48) hb); have n1_ := Aside0.mk (Kd.R_lower (Kd.R_new' ho48 (Kd.R_lt (by (with_reducible repeat (first | apply Kd.R_alloc | apply Kd.R_drewN | apply Kd.R_drew)); exact HO_6.out))) (below_size (by repeat (first | (with_reducible first | exact HB.out | apply below_alloc | apply pw_below_drewN | apply below_drew1) | exact HB.out)))); have n2_ := Aside0.mk (below_step (by repeat (first | (with_reducible first | exact HB.out | apply below_alloc | apply pw_below_drewN | apply below_drew1) | exact HB.out)) hb); clear HO_6; clear HB; have HO_6 := n0_; have HO294 := n1_; have HB := n2_; clear n0_ n1_ n2_; clear hb ho48; obtain ⟨Ao50, co50, eo50⟩ := Kd.R_slice HO_6.out; subst eo50) | ((with_reducible refine gate_builtin (b := .append) (xs := #[.tmp 95, .tmp 96]) rfl ?_); (try (refine gate_guard (by rfl) ?_; dsimp only)); at_builtin; refine Kd.R_append_rows (Kd.int .u8) (w0 := w) w.heap.size rfl (.tmp 95) (.tmp 96) 22 5 (.int .u8 0) 1 rfl Try.underlying22 info5 rfl (by decide) (by omega) v293 y292 x6_2 _ _ _ (fun k_ => some k_ ≠ (.slice Ao50 x6_2.length co50 : Value).ownBlock) (fun _ => False) rfl rfl ?aO ?aR (fun _ _ h => h) (fun _ h => h.elim) ?aF ?aB ?aS ?aL ?_; (case aR => repeat (first | exact (Kd.R_reads' HO_6.out).2.2 | (with_reducible refine Kd.C_alloc ?_ _) | (with_reducible refine Kd.C_drewN ?_ _) | (with_reducible refine Kd.C_drew ?_))); (case aB => exact (by repeat (first | (with_reducible first | exact HB.out | apply below_alloc | apply pw_below_drewN | apply below_drew1) | exact HB.out))); (case aF => exact (fun k_ hk => Kd.fresh' (Kd.R_lt (by (with_reducible repeat (first | apply Kd.R_alloc | apply Kd.R_drewN | apply Kd.R_drew)); exact HO_6.out)) k_ hk)); (case aO => exact (by (with_reducible repeat (first | apply Kd.R_alloc | apply Kd.R_drewN | apply Kd.R_drew)); exact Kd.R_mono HO294.out (fun _ hk => hk.2))); (case aS => exact (below_size (by repeat (first | (with_reducible first | exact HB.out | apply below_alloc | apply pw_below_drewN | apply below_drew1) | exact HB.out)))); (case aL => have := LMc40.out; omega); intro v296 w49 ho hb hg hat; rw [← Ny295.out] at ho; have n0_ := Aside0.mk (Kd.R_after (ok := (fun _ => True)) (by (with_reducible repeat (first | apply Kd.R_alloc | apply Kd.R_drewN | apply Kd.R_drew)); exact HO_6.out) hg hat); have n1_ := Aside0.mk (hb); have n2_ := Aside0.mk (ho); clear HO_6; clear HB; clear HO294; have HO_6 := n0_; have HB := n1_; have HO297 := n2_; clear n0_ n1_ n2_; clear ho hb hg hat; obtain ⟨Ao51, co51, eo51⟩ := Kd.R_slice HO297.out; subst eo51) | ((with_reducible refine gate_callee (f := 11) rfl ?_); refine goesL_ (some 98) rfl rfl Try.func11 (by kernel_rfl) rfl #[.slice Ao51 y295.length co51] rfl (by (try simp only [List.map_toArray, List.map_cons, List.map_nil]); first | done | rfl | (simp only [List.length_drop, List.length_take]; rfl)) ?_; (with_reducible refine (text_Read.calls _ _ y295 t298 t299 _ ?side1 ?side2 A41.out).mono ?_); (case side1 => repeat (first | exact (Kd.R_reads' HO297.out).2.2 | (with_reducible refine Kd.C_alloc ?_ _) | (with_reducible refine Kd.C_drewN ?_ _) | (with_reducible refine Kd.C_drew ?_))); (case side2 => exact (Kd.R_reads' HO297.out).2.1); rintro e w52 ⟨v300, rfl, ho0, hb⟩; refine ⟨_, rfl, ?_⟩; have n0_ := Aside0.mk (Kd.R_below (by (with_reducible repeat (first | apply Kd.R_alloc | apply Kd.R_drewN | apply Kd.R_drew)); exact HO_6.out) hb); have n1_ := Aside0.mk (Kd.R_below (by (with_reducible repeat (first | apply Kd.R_alloc | apply Kd.R_drewN | apply Kd.R_drew)); exact HO297.out) hb); have n2_ := Aside0.mk (Kd.S_lower ho0 (below_size (by repeat (first | (with_reducible first | exact HB.out | apply below_alloc | apply pw_below_drewN | apply below_drew1) | exact HB.out)))); have n3_ := Aside0.mk (below_step (by repeat (first | (with_reducible first | exact HB.out | apply below_alloc | apply pw_below_drewN | apply below_drew1) | exact HB.out)) hb); clear HO_6; clear HO297; clear HB; have HO_6 := n0_; have HO297 := n1_; have HO301 := n2_; have HB := n3_; clear n0_ n1_ n2_ n3_; (try clear hb); (try clear hb2); (try clear hk); (try clear hi); (try clear ho0); obtain ⟨Ao53, co53, eo53⟩ := Kd.S_slice HO301.out; subst eo53) | ((with_reducible refine gate_callee (f := 13) rfl ?_); refine goesL_ (some 103) rfl rfl Try.func13 (by kernel_rfl) rfl #[.slice A0 l0.length c0, .slice Ao53 t298.length co53] rfl (by (try simp only [List.map_toArray, List.map_cons, List.map_nil]); first | done | rfl | (simp only [List.length_drop, List.length_take]; rfl)) ?_; (with_reducible refine (compositorref13_Same.calls k2 _ _ l0 _ _ t298 t302 _ ?side1 ?side2 ?side3 ?side4 A42.out).mono ?_); (case side1 => repeat (first | exact (Kd.C_below HR0.out HB.out) | (with_reducible refine Kd.C_alloc ?_ _) | (with_reducible refine Kd.C_drewN ?_ _) | (with_reducible refine Kd.C_drew ?_))); (case side2 => exact HC0.out); (case side3 => repeat (first | exact (Kd.S_reads' HO301.out).2.2 | (with_reducible refine Kd.C_alloc ?_ _) | (with_reducible refine Kd.C_drewN ?_ _) | (with_reducible refine Kd.C_drew ?_))); (case side4 => exact (Kd.S_reads' HO301.out).2.1); rintro e w' ⟨rfl, ⟨nd, rfl⟩⟩; refine ⟨_, rfl, ?_⟩) | (go_at_call 17; (with_reducible refine (text_Check.calls _ _ l0 true _ ?side1 ?side2 A44.out).mono ?_); (case side1 => repeat (first | exact (Kd.C_below HR0.out (by repeat (first | (with_reducible first | exact HB.out | apply below_alloc | apply pw_below_drewN | apply below_drew1) | exact HB.out))) | (with_reducible refine Kd.C_alloc ?_ _) | (with_reducible refine Kd.C_drewN ?_ _) | (with_reducible refine Kd.C_drew ?_))); (case side2 => exact HC0.out); rintro e w54 ⟨rfl, hb⟩; have n0_ := Aside0.mk (Kd.R_below (by (with_reducible repeat (first | apply Kd.R_alloc | apply Kd.R_drewN | apply Kd.R_drew)); exact HO_6.out) hb); have n1_ := Aside0.mk (Kd.R_below (by (with_reducible repeat (first | apply Kd.R_alloc | apply Kd.R_drewN | apply Kd.R_drew)); exact HO297.out) hb); have n2_ := Aside0.mk (Kd.S_below (by (with_reducible repeat (first | apply Kd.S_alloc | apply Kd.S_drewN | apply Kd.S_drew)); exact HO301.out) hb); have n3_ := Aside0.mk (below_step (by repeat (first | (with_reducible first | exact HB.out | apply below_alloc | apply pw_below_drewN | apply below_drew1) | exact HB.out)) hb); clear HO_6; clear HO297; clear HO301; clear HB; have HO_6 := n0_; have HO297 := n1_; have HO301 := n2_; have HB := n3_; clear n0_ n1_ n2_ n3_; (try clear hb); (try clear hb2); (try clear hk); (try clear hi)))
                      go_ret
                      exact ⟨by first | rfl | (simp [errW_none, errW_some] <;> rfl) | (simp [*, errW_none, errW_some] <;> rfl), by repeat (first | (with_reducible first | exact HB.out | apply below_alloc | apply pw_below_drewN | apply below_drew1) | exact HB.out)⟩
                    · rw [if_neg c46] at H
                      have c46b0 : (t299 == 0) = false := beq_eq_false_iff_ne.mpr c46
                      have c46b1 : (t299 != 0) = true := bne_iff_ne.mpr c46
                      obtain rfl : t303 = false := by (rw [c46b0] at c45b0; simpa using c45b0)
                      obtain rfl := Option.some.inj H
                      go_wp2_with (first | ((with_reducible refine gate_dst (N := 95) rfl ?_); (try (refine gate_guard (by rfl) ?_; dsimp only)); refine Kd.R_lit (Kd.int .u8) _ 5 ?hg (N := 95) ?hd (xs := ([32, 10] : List Int)) (inner := [.int .u8 32, .int .u8 10]) (ok := fun _ => True) (okp := fun _ => True) ?hr ?hp (fun _ hk => hk) trivial (Below.refl _ _) (Nat.le_refl _) (by simp) ?_; (case hd => rfl); (case hg => rfl); (case hr => first | (go_simp; done) | (go_simp; rfl)); (case hp => exact (Reps.one (show Kd.M (Kd.int .u8) _ _ _ 32 [.int .u8 32] from rfl) (Reps.one (show Kd.M (Kd.int .u8) _ _ _ 10 [.int .u8 10] from rfl) (Reps.none _ _)))); intro v293 w55 ho56 hb hg_ hnew_; clear hg_ hnew_; (first | rw [← Ny292.out] at ho56 | (simp only [Int.reduceToNat] at ho56; rw [← Ny292.out] at ho56)); have n0_ := Aside0.mk (Kd.R_elder' (by (with_reducible repeat (first | apply Kd.R_alloc | apply Kd.R_drewN | apply Kd.R_drew)); exact HO_6.out) (Kd.R_base ho56) hb); have n1_ := Aside0.mk (Kd.R_lower (Kd.R_new' ho56 (Kd.R_lt (by (with_reducible repeat (first | apply Kd.R_alloc | apply Kd.R_drewN | apply Kd.R_drew)); exact HO_6.out))) (below_size (by repeat (first | (with_reducible first | exact HB.out | apply below_alloc | apply pw_below_drewN | apply below_drew1) | exact HB.out)))); have n2_ := Aside0.mk (below_step (by repeat (first | (with_reducible first | exact HB.out | apply below_alloc | apply pw_below_drewN | apply below_drew1) | exact HB.out)) hb); clear HO_6; clear HB; have HO_6 := n0_; have HO294 := n1_; have HB := n2_; clear n0_ n1_ n2_; clear hb ho56; obtain ⟨Ao58, co58, eo58⟩ := Kd.R_slice HO_6.out; subst eo58) | ((with_reducible refine gate_builtin (b := .append) (xs := #[.tmp 95, .tmp 96]) rfl ?_); (try (refine gate_guard (by rfl) ?_; dsimp only)); at_builtin; refine Kd.R_append_rows (Kd.int .u8) (w0 := w) w.heap.size rfl (.tmp 95) (.tmp 96) 22 5 (.int .u8 0) 1 rfl Try.underlying22 info5 rfl (by decide) (by omega) v293 y292 x6_2 _ _ _ (fun k_ => some k_ ≠ (.slice Ao58 x6_2.length co58 : Value).ownBlock) (fun _ => False) rfl rfl ?aO ?aR (fun _ _ h => h) (fun _ h => h.elim) ?aF ?aB ?aS ?aL ?_; (case aR => repeat (first | exact (Kd.R_reads' HO_6.out).2.2 | (with_reducible refine Kd.C_alloc ?_ _) | (with_reducible refine Kd.C_drewN ?_ _) | (with_reducible refine Kd.C_drew ?_))); (case aB => exact (by repeat (first | (with_reducible first | exact HB.out | apply below_alloc | apply pw_below_drewN | apply below_drew1) | exact HB.out))); (case aF => exact (fun k_ hk => Kd.fresh' (Kd.R_lt (by (with_reducible repeat (first | apply Kd.R_alloc | apply Kd.R_drewN | apply Kd.R_drew)); exact HO_6.out)) k_ hk)); (case aO => exact (by (with_reducible repeat (first | apply Kd.R_alloc | apply Kd.R_drewN | apply Kd.R_drew)); exact Kd.R_mono HO294.out (fun _ hk => hk.2))); (case aS => exact (below_size (by repeat (first | (with_reducible first | exact HB.out | apply below_alloc | apply pw_below_drewN | apply below_drew1) | exact HB.out)))); (case aL => have := LMc40.out; omega); intro v296 w57 ho hb hg hat; rw [← Ny295.out] at ho; have n0_ := Aside0.mk (Kd.R_after (ok := (fun _ => True)) (by (with_reducible repeat (first | apply Kd.R_alloc | apply Kd.R_drewN | apply Kd.R_drew)); exact HO_6.out) hg hat); have n1_ := Aside0.mk (hb); have n2_ := Aside0.mk (ho); clear HO_6; clear HB; clear HO294; have HO_6 := n0_; have HB := n1_; have HO297 := n2_; clear n0_ n1_ n2_; clear ho hb hg hat; obtain ⟨Ao59, co59, eo59⟩ := Kd.R_slice HO297.out; subst eo59) | ((with_reducible refine gate_callee (f := 11) rfl ?_); refine goesL_ (some 98) rfl rfl Try.func11 (by kernel_rfl) rfl #[.slice Ao59 y295.length co59] rfl (by (try simp only [List.map_toArray, List.map_cons, List.map_nil]); first | done | rfl | (simp only [List.length_drop, List.length_take]; rfl)) ?_; (with_reducible refine (text_Read.calls _ _ y295 t298 t299 _ ?side1 ?side2 A41.out).mono ?_); (case side1 => repeat (first | exact (Kd.R_reads' HO297.out).2.2 | (with_reducible refine Kd.C_alloc ?_ _) | (with_reducible refine Kd.C_drewN ?_ _) | (with_reducible refine Kd.C_drew ?_))); (case side2 => exact (Kd.R_reads' HO297.out).2.1); rintro e w60 ⟨v300, rfl, ho0, hb⟩; refine ⟨_, rfl, ?_⟩; have n0_ := Aside0.mk (Kd.R_below (by (with_reducible repeat (first | apply Kd.R_alloc | apply Kd.R_drewN | apply Kd.R_drew)); exact HO_6.out) hb); have n1_ := Aside0.mk (Kd.R_below (by (with_reducible repeat (first | apply Kd.R_alloc | apply Kd.R_drewN | apply Kd.R_drew)); exact HO297.out) hb); have n2_ := Aside0.mk (Kd.S_lower ho0 (below_size (by repeat (first | (with_reducible first | exact HB.out | apply below_alloc | apply pw_below_drewN | apply below_drew1) | exact HB.out)))); have n3_ := Aside0.mk (below_step (by repeat (first | (with_reducible first | exact HB.out | apply below_alloc | apply pw_below_drewN | apply below_drew1) | exact HB.out)) hb); clear HO_6; clear HO297; clear HB; have HO_6 := n0_; have HO297 := n1_; have HO301 := n2_; have HB := n3_; clear n0_ n1_ n2_ n3_; (try clear hb); (try clear hb2); (try clear hk); (try clear hi); (try clear ho0); obtain ⟨Ao61, co61, eo61⟩ := Kd.S_slice HO301.out; subst eo61) | ((with_reducible refine gate_callee (f := 13) rfl ?_); refine goesL_ (some 103) rfl rfl Try.func13 (by kernel_rfl) rfl #[.slice A0 l0.length c0, .slice Ao61 t298.length co61] rfl (by (try simp only [List.map_toArray, List.map_cons, List.map_nil]); first | done | rfl | (simp only [List.length_drop, List.length_take]; rfl)) ?_; (with_reducible refine (compositorref13_Same.calls k2 _ _ l0 _ _ t298 t302 _ ?side1 ?side2 ?side3 ?side4 A42.out).mono ?_); (case side1 => repeat (first | exact (Kd.C_below HR0.out HB.out) | (with_reducible refine Kd.C_alloc ?_ _) | (with_reducible refine Kd.C_drewN ?_ _) | (with_reducible refine Kd.C_drew ?_))); (case side2 => exact HC0.out); (case side3 => repeat (first | exact (Kd.S_reads' HO301.out).2.2 | (with_reducible refine Kd.C_alloc ?_ _) | (with_reducible refine Kd.C_drewN ?_ _) | (with_reducible refine Kd.C_drew ?_))); (case side4 => exact (Kd.S_reads' HO301.out).2.1); rintro e w' ⟨rfl, ⟨nd, rfl⟩⟩; refine ⟨_, rfl, ?_⟩) | (go_at_call 17; (with_reducible refine (text_Check.calls _ _ l0 false _ ?side1 ?side2 A44.out).mono ?_); (case side1 => repeat (first | exact (Kd.C_below HR0.out (by repeat (first | (with_reducible first | exact HB.out | apply below_alloc | apply pw_below_drewN | apply below_drew1) | exact HB.out))) | (with_reducible refine Kd.C_alloc ?_ _) | (with_reducible refine Kd.C_drewN ?_ _) | (with_reducible refine Kd.C_drew ?_))); (case side2 => exact HC0.out); rintro e w62 ⟨rfl, hb⟩; have n0_ := Aside0.mk (Kd.R_below (by (with_reducible repeat (first | apply Kd.R_alloc | apply Kd.R_drewN | apply Kd.R_drew)); exact HO_6.out) hb); have n1_ := Aside0.mk (Kd.R_below (by (with_reducible repeat (first | apply Kd.R_alloc | apply Kd.R_drewN | apply Kd.R_drew)); exact HO297.out) hb); have n2_ := Aside0.mk (Kd.S_below (by (with_reducible repeat (first | apply Kd.S_alloc | apply Kd.S_drewN | apply Kd.S_drew)); exact HO301.out) hb); have n3_ := Aside0.mk (below_step (by repeat (first | (with_reducible first | exact HB.out | apply below_alloc | apply pw_below_drewN | apply below_drew1) | exact HB.out)) hb); clear HO_6; clear HO297; clear HO301; clear HB; have HO_6 := n0_; have HO297 := n1_; have HO301 := n2_; have HB := n3_; clear n0_ n1_ n2_ n3_; (try clear hb); (try clear hb2); (try clear hk); (try clear hi)))
                      go_ret
                      exact ⟨by first | rfl | (simp [errW_none, errW_some] <;> rfl) | (simp [*, errW_none, errW_some] <;> rfl), by repeat (first | (with_reducible first | exact HB.out | apply below_alloc | apply pw_below_drewN | apply below_drew1) | exact HB.out)⟩
                  · rw [if_neg c45] at H
                    have c45b0 : ((t299 == 0) == t303) = false := by simpa using c45
                    (try (have c45b1 : decide ((t299 == 0) = t303) = false := by simpa using c45))
                    (try (have c45b2 : ((t299 == 0) == t303) = false := by simpa using c45))
                    (try (have c45b3 : ¬ ((t299 == 0) = t303) := by simpa using c45))
                    clear c45
                    obtain rfl := Option.some.inj H
                    go_wp2_with (first | ((with_reducible refine gate_dst (N := 95) rfl ?_); (try (refine gate_guard (by rfl) ?_; dsimp only)); refine Kd.R_lit (Kd.int .u8) _ 5 ?hg (N := 95) ?hd (xs := ([32, 10] : List Int)) (inner := [.int .u8 32, .int .u8 10]) (ok := fun _ => True) (okp := fun _ => True) ?hr ?hp (fun _ hk => hk) trivial (Below.refl _ _) (Nat.le_refl _) (by simp) ?_; (case hd => rfl); (case hg => rfl); (case hr => first | (go_simp; done) | (go_simp; rfl)); (case hp => exact (Reps.one (show Kd.M (Kd.int .u8) _ _ _ 32 [.int .u8 32] from rfl) (Reps.one (show Kd.M (Kd.int .u8) _ _ _ 10 [.int .u8 10] from rfl) (Reps.none _ _)))); intro v293 w63 ho64 hb hg_ hnew_; clear hg_ hnew_; (first | rw [← Ny292.out] at ho64 | (simp only [Int.reduceToNat] at ho64; rw [← Ny292.out] at ho64)); have n0_ := Aside0.mk (Kd.R_elder' (by (with_reducible repeat (first | apply Kd.R_alloc | apply Kd.R_drewN | apply Kd.R_drew)); exact HO_6.out) (Kd.R_base ho64) hb); have n1_ := Aside0.mk (Kd.R_lower (Kd.R_new' ho64 (Kd.R_lt (by (with_reducible repeat (first | apply Kd.R_alloc | apply Kd.R_drewN | apply Kd.R_drew)); exact HO_6.out))) (below_size (by repeat (first | (with_reducible first | exact HB.out | apply below_alloc | apply pw_below_drewN | apply below_drew1) | exact HB.out)))); have n2_ := Aside0.mk (below_step (by repeat (first | (with_reducible first | exact HB.out | apply below_alloc | apply pw_below_drewN | apply below_drew1) | exact HB.out)) hb); clear HO_6; clear HB; have HO_6 := n0_; have HO294 := n1_; have HB := n2_; clear n0_ n1_ n2_; clear hb ho64; obtain ⟨Ao66, co66, eo66⟩ := Kd.R_slice HO_6.out; subst eo66) | ((with_reducible refine gate_builtin (b := .append) (xs := #[.tmp 95, .tmp 96]) rfl ?_); (try (refine gate_guard (by rfl) ?_; dsimp only)); at_builtin; refine Kd.R_append_rows (Kd.int .u8) (w0 := w) w.heap.size rfl (.tmp 95) (.tmp 96) 22 5 (.int .u8 0) 1 rfl Try.underlying22 info5 rfl (by decide) (by omega) v293 y292 x6_2 _ _ _ (fun k_ => some k_ ≠ (.slice Ao66 x6_2.length co66 : Value).ownBlock) (fun _ => False) rfl rfl ?aO ?aR (fun _ _ h => h) (fun _ h => h.elim) ?aF ?aB ?aS ?aL ?_; (case aR => repeat (first | exact (Kd.R_reads' HO_6.out).2.2 | (with_reducible refine Kd.C_alloc ?_ _) | (with_reducible refine Kd.C_drewN ?_ _) | (with_reducible refine Kd.C_drew ?_))); (case aB => exact (by repeat (first | (with_reducible first | exact HB.out | apply below_alloc | apply pw_below_drewN | apply below_drew1) | exact HB.out))); (case aF => exact (fun k_ hk => Kd.fresh' (Kd.R_lt (by (with_reducible repeat (first | apply Kd.R_alloc | apply Kd.R_drewN | apply Kd.R_drew)); exact HO_6.out)) k_ hk)); (case aO => exact (by (with_reducible repeat (first | apply Kd.R_alloc | apply Kd.R_drewN | apply Kd.R_drew)); exact Kd.R_mono HO294.out (fun _ hk => hk.2))); (case aS => exact (below_size (by repeat (first | (with_reducible first | exact HB.out | apply below_alloc | apply pw_below_drewN | apply below_drew1) | exact HB.out)))); (case aL => have := LMc40.out; omega); intro v296 w65 ho hb hg hat; rw [← Ny295.out] at ho; have n0_ := Aside0.mk (Kd.R_after (ok := (fun _ => True)) (by (with_reducible repeat (first | apply Kd.R_alloc | apply Kd.R_drewN | apply Kd.R_drew)); exact HO_6.out) hg hat); have n1_ := Aside0.mk (hb); have n2_ := Aside0.mk (ho); clear HO_6; clear HB; clear HO294; have HO_6 := n0_; have HB := n1_; have HO297 := n2_; clear n0_ n1_ n2_; clear ho hb hg hat; obtain ⟨Ao67, co67, eo67⟩ := Kd.R_slice HO297.out; subst eo67) | ((with_reducible refine gate_callee (f := 11) rfl ?_); refine goesL_ (some 98) rfl rfl Try.func11 (by kernel_rfl) rfl #[.slice Ao67 y295.length co67] rfl (by (try simp only [List.map_toArray, List.map_cons, List.map_nil]); first | done | rfl | (simp only [List.length_drop, List.length_take]; rfl)) ?_; (with_reducible refine (text_Read.calls _ _ y295 t298 t299 _ ?side1 ?side2 A41.out).mono ?_); (case side1 => repeat (first | exact (Kd.R_reads' HO297.out).2.2 | (with_reducible refine Kd.C_alloc ?_ _) | (with_reducible refine Kd.C_drewN ?_ _) | (with_reducible refine Kd.C_drew ?_))); (case side2 => exact (Kd.R_reads' HO297.out).2.1); rintro e w68 ⟨v300, rfl, ho0, hb⟩; refine ⟨_, rfl, ?_⟩; have n0_ := Aside0.mk (Kd.R_below (by (with_reducible repeat (first | apply Kd.R_alloc | apply Kd.R_drewN | apply Kd.R_drew)); exact HO_6.out) hb); have n1_ := Aside0.mk (Kd.R_below (by (with_reducible repeat (first | apply Kd.R_alloc | apply Kd.R_drewN | apply Kd.R_drew)); exact HO297.out) hb); have n2_ := Aside0.mk (Kd.S_lower ho0 (below_size (by repeat (first | (with_reducible first | exact HB.out | apply below_alloc | apply pw_below_drewN | apply below_drew1) | exact HB.out)))); have n3_ := Aside0.mk (below_step (by repeat (first | (with_reducible first | exact HB.out | apply below_alloc | apply pw_below_drewN | apply below_drew1) | exact HB.out)) hb); clear HO_6; clear HO297; clear HB; have HO_6 := n0_; have HO297 := n1_; have HO301 := n2_; have HB := n3_; clear n0_ n1_ n2_ n3_; (try clear hb); (try clear hb2); (try clear hk); (try clear hi); (try clear ho0); obtain ⟨Ao69, co69, eo69⟩ := Kd.S_slice HO301.out; subst eo69) | ((with_reducible refine gate_callee (f := 13) rfl ?_); refine goesL_ (some 103) rfl rfl Try.func13 (by kernel_rfl) rfl #[.slice A0 l0.length c0, .slice Ao69 t298.length co69] rfl (by (try simp only [List.map_toArray, List.map_cons, List.map_nil]); first | done | rfl | (simp only [List.length_drop, List.length_take]; rfl)) ?_; (with_reducible refine (compositorref13_Same.calls k2 _ _ l0 _ _ t298 t302 _ ?side1 ?side2 ?side3 ?side4 A42.out).mono ?_); (case side1 => repeat (first | exact (Kd.C_below HR0.out HB.out) | (with_reducible refine Kd.C_alloc ?_ _) | (with_reducible refine Kd.C_drewN ?_ _) | (with_reducible refine Kd.C_drew ?_))); (case side2 => exact HC0.out); (case side3 => repeat (first | exact (Kd.S_reads' HO301.out).2.2 | (with_reducible refine Kd.C_alloc ?_ _) | (with_reducible refine Kd.C_drewN ?_ _) | (with_reducible refine Kd.C_drew ?_))); (case side4 => exact (Kd.S_reads' HO301.out).2.1); rintro e w' ⟨rfl, ⟨nd, rfl⟩⟩; refine ⟨_, rfl, ?_⟩) | (go_at_call 17; (with_reducible refine (text_Check.calls _ _ l0 t303 _ ?side1 ?side2 A44.out).mono ?_); (case side1 => repeat (first | exact (Kd.C_below HR0.out (by repeat (first | (with_reducible first | exact HB.out | apply below_alloc | apply pw_below_drewN | apply below_drew1) | exact HB.out))) | (with_reducible refine Kd.C_alloc ?_ _) | (with_reducible refine Kd.C_drewN ?_ _) | (with_reducible refine Kd.C_drew ?_))); (case side2 => exact HC0.out); rintro e w70 ⟨rfl, hb⟩; have n0_ := Aside0.mk (Kd.R_below (by (with_reducible repeat (first | apply Kd.R_alloc | apply Kd.R_drewN | apply Kd.R_drew)); exact HO_6.out) hb); have n1_ := Aside0.mk (Kd.R_below (by (with_reducible repeat (first | apply Kd.R_alloc | apply Kd.R_drewN | apply Kd.R_drew)); exact HO297.out) hb); have n2_ := Aside0.mk (Kd.S_below (by (with_reducible repeat (first | apply Kd.S_alloc | apply Kd.S_drewN | apply Kd.S_drew)); exact HO301.out) hb); have n3_ := Aside0.mk (below_step (by repeat (first | (with_reducible first | exact HB.out | apply below_alloc | apply pw_below_drewN | apply below_drew1) | exact HB.out)) hb); clear HO_6; clear HO297; clear HO301; clear HB; have HO_6 := n0_; have HO297 := n1_; have HO301 := n2_; have HB := n3_; clear n0_ n1_ n2_ n3_; (try clear hb); (try clear hb2); (try clear hk); (try clear hi)))
                    go_ret
                    exact ⟨by first | rfl | (simp [errW_none, errW_some] <;> rfl) | (simp [*, errW_none, errW_some] <;> rfl), by repeat (first | (with_reducible first | exact HB.out | apply below_alloc | apply pw_below_drewN | apply below_drew1) | exact HB.out)⟩
                · replace c43 := Bool.eq_false_iff.mpr c43
                  subst c43
                  have H1 : (some false) = some r := by rw [if_neg (show ¬ (false = true) by decide)] at H; exact H
                  clear H
                  have H := H1
                  clear H1
                  obtain rfl := Option.some.inj H
                  go_wp2_with (first | ((with_reducible refine gate_dst (N := 95) rfl ?_); (try (refine gate_guard (by rfl) ?_; dsimp only)); refine Kd.R_lit (Kd.int .u8) _ 5 ?hg (N := 95) ?hd (xs := ([32, 10] : List Int)) (inner := [.int .u8 32, .int .u8 10]) (ok := fun _ => True) (okp := fun _ => True) ?hr ?hp (fun _ hk => hk) trivial (Below.refl _ _) (Nat.le_refl _) (by simp) ?_; (case hd => rfl); (case hg => rfl); (case hr => first | (go_simp; done) | (go_simp; rfl)); (case hp => exact (Reps.one (show Kd.M (Kd.int .u8) _ _ _ 32 [.int .u8 32] from rfl) (Reps.one (show Kd.M (Kd.int .u8) _ _ _ 10 [.int .u8 10] from rfl) (Reps.none _ _)))); intro v293 w71 ho72 hb hg_ hnew_; clear hg_ hnew_; (first | rw [← Ny292.out] at ho72 | (simp only [Int.reduceToNat] at ho72; rw [← Ny292.out] at ho72)); have n0_ := Aside0.mk (Kd.R_elder' (by (with_reducible repeat (first | apply Kd.R_alloc | apply Kd.R_drewN | apply Kd.R_drew)); exact HO_6.out) (Kd.R_base ho72) hb); have n1_ := Aside0.mk (Kd.R_lower (Kd.R_new' ho72 (Kd.R_lt (by (with_reducible repeat (first | apply Kd.R_alloc | apply Kd.R_drewN | apply Kd.R_drew)); exact HO_6.out))) (below_size (by repeat (first | (with_reducible first | exact HB.out | apply below_alloc | apply pw_below_drewN | apply below_drew1) | exact HB.out)))); have n2_ := Aside0.mk (below_step (by repeat (first | (with_reducible first | exact HB.out | apply below_alloc | apply pw_below_drewN | apply below_drew1) | exact HB.out)) hb); clear HO_6; clear HB; have HO_6 := n0_; have HO294 := n1_; have HB := n2_; clear n0_ n1_ n2_; clear hb ho72; obtain ⟨Ao74, co74, eo74⟩ := Kd.R_slice HO_6.out; subst eo74) | ((with_reducible refine gate_builtin (b := .append) (xs := #[.tmp 95, .tmp 96]) rfl ?_); (try (refine gate_guard (by rfl) ?_; dsimp only)); at_builtin; refine Kd.R_append_rows (Kd.int .u8) (w0 := w) w.heap.size rfl (.tmp 95) (.tmp 96) 22 5 (.int .u8 0) 1 rfl Try.underlying22 info5 rfl (by decide) (by omega) v293 y292 x6_2 _ _ _ (fun k_ => some k_ ≠ (.slice Ao74 x6_2.length co74 : Value).ownBlock) (fun _ => False) rfl rfl ?aO ?aR (fun _ _ h => h) (fun _ h => h.elim) ?aF ?aB ?aS ?aL ?_; (case aR => repeat (first | exact (Kd.R_reads' HO_6.out).2.2 | (with_reducible refine Kd.C_alloc ?_ _) | (with_reducible refine Kd.C_drewN ?_ _) | (with_reducible refine Kd.C_drew ?_))); (case aB => exact (by repeat (first | (with_reducible first | exact HB.out | apply below_alloc | apply pw_below_drewN | apply below_drew1) | exact HB.out))); (case aF => exact (fun k_ hk => Kd.fresh' (Kd.R_lt (by (with_reducible repeat (first | apply Kd.R_alloc | apply Kd.R_drewN | apply Kd.R_drew)); exact HO_6.out)) k_ hk)); (case aO => exact (by (with_reducible repeat (first | apply Kd.R_alloc | apply Kd.R_drewN | apply Kd.R_drew)); exact Kd.R_mono HO294.out (fun _ hk => hk.2))); (case aS => exact (below_size (by repeat (first | (with_reducible first | exact HB.out | apply below_alloc | apply pw_below_drewN | apply below_drew1) | exact HB.out)))); (case aL => have := LMc40.out; omega); intro v296 w73 ho hb hg hat; rw [← Ny295.out] at ho; have n0_ := Aside0.mk (Kd.R_after (ok := (fun _ => True)) (by (with_reducible repeat (first | apply Kd.R_alloc | apply Kd.R_drewN | apply Kd.R_drew)); exact HO_6.out) hg hat); have n1_ := Aside0.mk (hb); have n2_ := Aside0.mk (ho); clear HO_6; clear HB; clear HO294; have HO_6 := n0_; have HB := n1_; have HO297 := n2_; clear n0_ n1_ n2_; clear ho hb hg hat; obtain ⟨Ao75, co75, eo75⟩ := Kd.R_slice HO297.out; subst eo75) | ((with_reducible refine gate_callee (f := 11) rfl ?_); refine goesL_ (some 98) rfl rfl Try.func11 (by kernel_rfl) rfl #[.slice Ao75 y295.length co75] rfl (by (try simp only [List.map_toArray, List.map_cons, List.map_nil]); first | done | rfl | (simp only [List.length_drop, List.length_take]; rfl)) ?_; (with_reducible refine (text_Read.calls _ _ y295 t298 t299 _ ?side1 ?side2 A41.out).mono ?_); (case side1 => repeat (first | exact (Kd.R_reads' HO297.out).2.2 | (with_reducible refine Kd.C_alloc ?_ _) | (with_reducible refine Kd.C_drewN ?_ _) | (with_reducible refine Kd.C_drew ?_))); (case side2 => exact (Kd.R_reads' HO297.out).2.1); rintro e w76 ⟨v300, rfl, ho0, hb⟩; refine ⟨_, rfl, ?_⟩; have n0_ := Aside0.mk (Kd.R_below (by (with_reducible repeat (first | apply Kd.R_alloc | apply Kd.R_drewN | apply Kd.R_drew)); exact HO_6.out) hb); have n1_ := Aside0.mk (Kd.R_below (by (with_reducible repeat (first | apply Kd.R_alloc | apply Kd.R_drewN | apply Kd.R_drew)); exact HO297.out) hb); have n2_ := Aside0.mk (Kd.S_lower ho0 (below_size (by repeat (first | (with_reducible first | exact HB.out | apply below_alloc | apply pw_below_drewN | apply below_drew1) | exact HB.out)))); have n3_ := Aside0.mk (below_step (by repeat (first | (with_reducible first | exact HB.out | apply below_alloc | apply pw_below_drewN | apply below_drew1) | exact HB.out)) hb); clear HO_6; clear HO297; clear HB; have HO_6 := n0_; have HO297 := n1_; have HO301 := n2_; have HB := n3_; clear n0_ n1_ n2_ n3_; (try clear hb); (try clear hb2); (try clear hk); (try clear hi); (try clear ho0); obtain ⟨Ao77, co77, eo77⟩ := Kd.S_slice HO301.out; subst eo77) | ((with_reducible refine gate_callee (f := 13) rfl ?_); refine goesL_ (some 103) rfl rfl Try.func13 (by kernel_rfl) rfl #[.slice A0 l0.length c0, .slice Ao77 t298.length co77] rfl (by (try simp only [List.map_toArray, List.map_cons, List.map_nil]); first | done | rfl | (simp only [List.length_drop, List.length_take]; rfl)) ?_; (with_reducible refine (compositorref13_Same.calls k2 _ _ l0 _ _ t298 t302 _ ?side1 ?side2 ?side3 ?side4 A42.out).mono ?_); (case side1 => repeat (first | exact (Kd.C_below HR0.out HB.out) | (with_reducible refine Kd.C_alloc ?_ _) | (with_reducible refine Kd.C_drewN ?_ _) | (with_reducible refine Kd.C_drew ?_))); (case side2 => exact HC0.out); (case side3 => repeat (first | exact (Kd.S_reads' HO301.out).2.2 | (with_reducible refine Kd.C_alloc ?_ _) | (with_reducible refine Kd.C_drewN ?_ _) | (with_reducible refine Kd.C_drew ?_))); (case side4 => exact (Kd.S_reads' HO301.out).2.1); rintro e w' ⟨rfl, ⟨nd, rfl⟩⟩; refine ⟨_, rfl, ?_⟩))
                  go_ret
                  exact ⟨by first | rfl | (simp [errW_none, errW_some] <;> rfl) | (simp [*, errW_none, errW_some] <;> rfl), by repeat (first | (with_reducible first | exact HB.out | apply below_alloc | apply pw_below_drewN | apply below_drew1) | exact HB.out)⟩
              · rw [if_neg c40] at H
                exact absurd H (by simp)

end Go.Proofs.Ytnhalfkkamepgaa.Q
