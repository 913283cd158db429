-- WRITTEN BY A PROGRAM OF THIS SESSION (wip/gprint.py) OVER THE KIT'S PRINT, some functions given by hand
import Derived.Test.YthlhfnbaihdjkaaQx0
import Derived.Test.YthlhfnbaihdjkaaQx4
import Derived.Test.YthlhfnbaihdjkaaQCheck
import Derived.Test.YthlhfnbaihdjkaaQRead
import Derived.Test.YthlhfnbaihdjkaaQWrite
namespace Go.Proofs.Ythlhfnbaihdjkaa.Q
open Go.RowKit Go.Proofs.YthlhfnbaihdjkaaW.PrintWords Go.Proofs.YthlhfnbaihdjkaaW.PrintLast Go.Proofs.YthlhfnbaihdjkaaW.PrintMore
attribute [local go_sem] max2_int min2_int max_two min_two max_three min_three max_four min_four   -- for this text's walks alone
set_option linter.unusedVariables false
set_option linter.unusedSimpArgs false

/-! ### compositorlaw23_ShipBack: function 5 -/
mutual
def compositorlaw23_ShipBack.j0 : Nat → List (S41) → List Int → Int → Bool → Bool → Option (Bool)
  | 0, _, _, _, _, _ => none
  | k + 1, x0, x1, x2, x7, x29 => if x29 = true then (some x7) else ((ship_Write.f x0).bind fun bt337 => ((ship_Read.f bt337.1).bind fun bt341 => ((compositorref19_All.f k x0 bt341.1).bind fun t345 => (if bt337.2 = 0 then (if bt341.2 = 0 then (if t345 = true then (if (bt337.1.length : Int) < 3 then (compositorlaw23_ShipBack.j1 k x1 x2 x7 bt337.1 bt337.2 true) else ((ship_Check.f x0).bind fun t346 => (compositorlaw23_ShipBack.j1 k x1 x2 x7 bt337.1 bt337.2 ((bt337.2 == 0) != t346)))) else (compositorlaw23_ShipBack.j1 k x1 x2 x7 bt337.1 bt337.2 true)) else (compositorlaw23_ShipBack.j1 k x1 x2 x7 bt337.1 bt337.2 true)) else ((ship_Check.f x0).bind fun t347 => (compositorlaw23_ShipBack.j1 k x1 x2 x7 bt337.1 bt337.2 ((bt337.2 == 0) != t347)))))))
def compositorlaw23_ShipBack.j1 : Nat → List Int → Int → Bool → List Int → Int → Bool → Option (Bool)
  | 0, _, _, _, _, _, _ => none
  | k + 1, x1, x2, x7, x8, x9, x65 => if x65 = true then (some false) else (if x9 = 0 then (if (x8.length : Int) = 0 then (none) else (if 0 ≤ (Int.tmod (wrap64 (x2)) (x8.length : Int)) then (if (Int.tmod (wrap64 (x2)) (x8.length : Int)) ≤ (x8.length : Int) then ((ship_Read.f (x8.take ((Int.tmod (wrap64 (x2)) (x8.length : Int)) : Int).toNat)).bind fun bt352 => ((some (([] : List Int) : List Int)).bind fun y356 => (if y356.length + x8.length < 140737488355328 then ((some (y356 ++ x8 : List Int)).bind fun y359 => (if y359.length < 140737488355328 then ((ship_Read.f (y359 ++ [0])).bind fun bt365 => (if bt352.2 = 230 then (compositorlaw23_ShipBack.j2 k x1 x7 (bt365.2 != 230)) else (compositorlaw23_ShipBack.j2 k x1 x7 true))) else (none))) else (none)))) else (none)) else (none))) else ((ship_Read.f x1).bind fun bt377 => ((ship_Write.f bt377.1).bind fun bt381 => (if x7 = true then (if bt377.2 = 0 then (if bt381.2 = 0 then (some ((strOfNums bt381.1).toList == (strOfNums x1).toList)) else (some false)) else (some true)) else (some false)))))
def compositorlaw23_ShipBack.j2 : Nat → List Int → Bool → Bool → Option (Bool)
  | 0, _, _, _ => none
  | k + 1, x1, x7, x93 => if x93 = true then (some false) else ((ship_Read.f x1).bind fun bt369 => ((ship_Write.f bt369.1).bind fun bt373 => (if x7 = true then (if bt369.2 = 0 then (if bt373.2 = 0 then (some ((strOfNums bt373.1).toList == (strOfNums x1).toList)) else (some false)) else (some true)) else (some false))))
end
def compositorlaw23_ShipBack.f (k : Nat) (l0 : List (S41)) (l1 : List Int) (a2 : Int) : Option (Bool) := (compositorlaw23_awake.f k).bind fun t335 => ((compositorref23_Few.f k l0).bind fun t336 => (if t336 = true then (compositorlaw23_ShipBack.j0 k l0 l1 a2 t335 (decide ((l1.length : Int) > 5000))) else (compositorlaw23_ShipBack.j0 k l0 l1 a2 t335 true)))
theorem compositorlaw23_ShipBack.mono_l : ∀ k, (∀ y0 y1 y2 y3 y4, LeO (compositorlaw23_ShipBack.j0 k y0 y1 y2 y3 y4) (compositorlaw23_ShipBack.j0 (k + 1) y0 y1 y2 y3 y4)) ∧ (∀ y0 y1 y2 y3 y4 y5, LeO (compositorlaw23_ShipBack.j1 k y0 y1 y2 y3 y4 y5) (compositorlaw23_ShipBack.j1 (k + 1) y0 y1 y2 y3 y4 y5)) ∧ (∀ y0 y1 y2, LeO (compositorlaw23_ShipBack.j2 k y0 y1 y2) (compositorlaw23_ShipBack.j2 (k + 1) y0 y1 y2))
  | 0 => ⟨fun _ _ _ _ _ r h => by simp [compositorlaw23_ShipBack.j0] at h, fun _ _ _ _ _ _ r h => by simp [compositorlaw23_ShipBack.j1] at h, fun _ _ _ r h => by simp [compositorlaw23_ShipBack.j2] at h⟩
  | k + 1 => by
    obtain ⟨ih0, ih1, ih2⟩ := compositorlaw23_ShipBack.mono_l k
    refine ⟨?_, ?_, ?_⟩
    · intro y0 y1 y2 y3 y4
      unfold compositorlaw23_ShipBack.j0
      repeat' first
      | (with_reducible exact ih0 _ _ _ _ _)
      | (with_reducible exact ih1 _ _ _ _ _ _)
      | (with_reducible exact ih2 _ _ _)
      | (with_reducible exact compositorlaw23_awake.mono _)
      | (with_reducible exact compositorref19_All.mono _ _ _)
      | (with_reducible exact compositorref23_Few.mono _ _)
      | (with_reducible exact LeO.refl _)
      | (with_reducible exact LeO.none _)
      | (with_reducible refine LeO.ite ?_ ?_)
      | (with_reducible refine LeO.bind ?_ (fun _ => ?_))
      | exact ih0 _ _ _ _ _
      | exact ih1 _ _ _ _ _ _
      | exact ih2 _ _ _
      | exact compositorlaw23_awake.mono _
      | exact compositorref19_All.mono _ _ _
      | exact compositorref23_Few.mono _ _
      | exact LeO.none _
      | refine LeO.ite ?_ ?_
      | refine LeO.bind ?_ (fun _ => ?_)
    · intro y0 y1 y2 y3 y4 y5
      unfold compositorlaw23_ShipBack.j1
      repeat' first
      | (with_reducible exact ih0 _ _ _ _ _)
      | (with_reducible exact ih1 _ _ _ _ _ _)
      | (with_reducible exact ih2 _ _ _)
      | (with_reducible exact compositorlaw23_awake.mono _)
      | (with_reducible exact compositorref19_All.mono _ _ _)
      | (with_reducible exact compositorref23_Few.mono _ _)
      | (with_reducible exact LeO.refl _)
      | (with_reducible exact LeO.none _)
      | (with_reducible refine LeO.ite ?_ ?_)
      | (with_reducible refine LeO.bind ?_ (fun _ => ?_))
      | exact ih0 _ _ _ _ _
      | exact ih1 _ _ _ _ _ _
      | exact ih2 _ _ _
      | exact compositorlaw23_awake.mono _
      | exact compositorref19_All.mono _ _ _
      | exact compositorref23_Few.mono _ _
      | exact LeO.none _
      | refine LeO.ite ?_ ?_
      | refine LeO.bind ?_ (fun _ => ?_)
    · intro y0 y1 y2
      unfold compositorlaw23_ShipBack.j2
      repeat' first
      | (with_reducible exact ih0 _ _ _ _ _)
      | (with_reducible exact ih1 _ _ _ _ _ _)
      | (with_reducible exact ih2 _ _ _)
      | (with_reducible exact compositorlaw23_awake.mono _)
      | (with_reducible exact compositorref19_All.mono _ _ _)
      | (with_reducible exact compositorref23_Few.mono _ _)
      | (with_reducible exact LeO.refl _)
      | (with_reducible exact LeO.none _)
      | (with_reducible refine LeO.ite ?_ ?_)
      | (with_reducible refine LeO.bind ?_ (fun _ => ?_))
      | exact ih0 _ _ _ _ _
      | exact ih1 _ _ _ _ _ _
      | exact ih2 _ _ _
      | exact compositorlaw23_awake.mono _
      | exact compositorref19_All.mono _ _ _
      | exact compositorref23_Few.mono _ _
      | exact LeO.none _
      | refine LeO.ite ?_ ?_
      | refine LeO.bind ?_ (fun _ => ?_)
theorem compositorlaw23_ShipBack.mono : ∀ a0 a1 a2 k, LeO (compositorlaw23_ShipBack.f k a0 a1 a2) (compositorlaw23_ShipBack.f (k + 1) a0 a1 a2) := by
  intro a0 a1 a2 k
  obtain ⟨ih0, ih1, ih2⟩ := compositorlaw23_ShipBack.mono_l k
  unfold compositorlaw23_ShipBack.f
  repeat' first
      | (with_reducible exact ih0 _ _ _ _ _)
      | (with_reducible exact ih1 _ _ _ _ _ _)
      | (with_reducible exact ih2 _ _ _)
      | (with_reducible exact compositorlaw23_awake.mono _)
      | (with_reducible exact compositorref19_All.mono _ _ _)
      | (with_reducible exact compositorref23_Few.mono _ _)
      | (with_reducible exact LeO.refl _)
      | (with_reducible exact LeO.none _)
      | (with_reducible refine LeO.ite ?_ ?_)
      | (with_reducible refine LeO.bind ?_ (fun _ => ?_))
      | exact ih0 _ _ _ _ _
      | exact ih1 _ _ _ _ _ _
      | exact ih2 _ _ _
      | exact compositorlaw23_awake.mono _
      | exact compositorref19_All.mono _ _ _
      | exact compositorref23_Few.mono _ _
      | exact LeO.none _
      | refine LeO.ite ?_ ?_
      | refine LeO.bind ?_ (fun _ => ?_)
set_option maxHeartbeats 8000000 in
set_option maxRecDepth 100000 in
theorem compositorlaw23_ShipBack.calls (k : Nat) (A0 : Option Addr) (c0 : Nat) (l0 : List (S41)) (A1 : Option Addr) (c1 : Nat) (l1 : List Int) (a2 : Int) (r : Bool) (w : World) (hr0 : Kd.C k41 w A0 l0.length l0) (hc0 : l0.length ≤ c0) (hr1 : Kd.C (Kd.int .u8) w A1 l1.length l1) (hc1 : l1.length ≤ c1) (h : compositorlaw23_ShipBack.f k l0 l1 a2 = some r) :
    Calls Try.prog 5 #[.slice A0 l0.length c0, .slice A1 l1.length c1, .int .u16 a2] w fun e w' => e = .returned (.bool r) ∧ Below w.heap.size w w' := by
  have HR0 := Aside0.mk hr0
  have HC0 := Aside0.mk hc0
  clear hr0 hc0
  have HR1 := Aside0.mk hr1
  have HC1 := Aside0.mk hc1
  clear hr1 hc1
  have HB := Aside0.mk (Below.refl w.heap.size w)
  have H : ((compositorlaw23_awake.f k).bind fun t335 => ((compositorref23_Few.f k l0).bind fun t336 => (if t336 = true then (compositorlaw23_ShipBack.j0 k l0 l1 a2 t335 (decide ((l1.length : Int) > 5000))) else (compositorlaw23_ShipBack.j0 k l0 l1 a2 t335 true)))) = some r := h
  clear h
  replace H := Option.bind_eq_some_iff.mp H
  obtain ⟨t335, A40, H⟩ := H
  replace H : ((compositorref23_Few.f k l0).bind fun t336 => (if t336 = true then (compositorlaw23_ShipBack.j0 k l0 l1 a2 t335 (decide ((l1.length : Int) > 5000))) else (compositorlaw23_ShipBack.j0 k l0 l1 a2 t335 true))) = some r := H
  have A4 := Aside0.mk A40
  clear A40
  have HC5 := Aside0.mk H
  clear H
  go_enter Try.func5, Try.ntmps5
  go_upto_region 2 with (first | ((with_reducible refine gate_callee (f := 7) rfl ?_); refine goesL_ (some 21) rfl rfl Try.func7 (by kernel_rfl) rfl #[] rfl (by (try simp only [List.map_toArray, List.map_cons, List.map_nil]); first | done | rfl | (simp only [List.length_drop, List.length_take]; rfl)) ?_; (with_reducible refine (compositorlaw23_awake.calls k  t335 _ A4.out).mono ?_); rintro e w6 ⟨rfl, hb⟩; refine ⟨_, rfl, ?_⟩; have n0_ := Aside0.mk (below_step (by repeat (first | (with_reducible first | exact HB.out | apply below_alloc | apply pw_below_drewN | apply below_drew1) | exact HB.out)) hb); clear HB; have HB := n0_; clear n0_; (try clear hb); (try clear hb2); (try clear hk); (try clear hi)))
  (try simp only [Act.put, List.setIfInBounds_toArray, List.set_cons_zero, List.set_cons_succ])
  go_cut [29] (fun v29 wc => ∃ (kq : Nat) (x29_4 : Bool), v29 = .bool x29_4 ∧ Aside0 (compositorlaw23_ShipBack.j0 kq l0 l1 a2 t335 x29_4 = some r) ∧ Aside0 (kq ≤ k) ∧ Aside0 (Below w.heap.size w wc))
  case first =>
    have H := HC5.out
    clear HC5
    replace H := Option.bind_eq_some_iff.mp H
    obtain ⟨t336, A70, H⟩ := H
    replace H : (if t336 = true then (compositorlaw23_ShipBack.j0 k l0 l1 a2 t335 (decide ((l1.length : Int) > 5000))) else (compositorlaw23_ShipBack.j0 k l0 l1 a2 t335 true)) = some r := H
    have A7 := Aside0.mk A70
    clear A70
    by_cases c8 : t336 = true
    · subst c8
      have H1 : (compositorlaw23_ShipBack.j0 k l0 l1 a2 t335 (decide ((l1.length : Int) > 5000))) = some r := by rw [if_pos rfl] at H; exact H
      clear H
      have H := H1
      clear H1
      have H' := Aside0.mk H
      clear H
      go_wp2_with (first | ((with_reducible refine gate_callee (f := 8) rfl ?_); refine goesL_ (some 23) rfl rfl Try.func8 (by kernel_rfl) rfl #[.slice A0 l0.length c0] rfl (by (try simp only [List.map_toArray, List.map_cons, List.map_nil]); first | done | rfl | (simp only [List.length_drop, List.length_take]; rfl)) ?_; (with_reducible refine (compositorref23_Few.calls k _ _ l0 true _ ?side1 ?side2 A7.out).mono ?_); (case side1 => repeat (first | exact (Kd.C_below HR0.out HB.out) | (with_reducible refine Kd.C_alloc ?_ _) | (with_reducible refine Kd.C_drewN ?_ _) | (with_reducible refine Kd.C_drew ?_))); (case side2 => exact HC0.out); rintro e w' ⟨rfl, ⟨nd, rfl⟩⟩; refine ⟨_, rfl, ?_⟩))
      go_meet
      case rel => exact ⟨_, (decide ((l1.length : Int) > 5000)), (by first | rfl | (simp; done) | (simp [*]; done)), H', ⟨by first | omega | exact Nat.le_refl _⟩, ⟨by repeat (first | (with_reducible first | exact HB.out | apply below_alloc | apply pw_below_drewN | apply below_drew1) | exact HB.out)⟩⟩
    · replace c8 := Bool.eq_false_iff.mpr c8
      subst c8
      have H1 : (compositorlaw23_ShipBack.j0 k l0 l1 a2 t335 true) = some r := by rw [if_neg (show ¬ (false = true) by decide)] at H; exact H
      clear H
      have H := H1
      clear H1
      have H' := Aside0.mk H
      clear H
      go_wp2_with (first | ((with_reducible refine gate_callee (f := 8) rfl ?_); refine goesL_ (some 23) rfl rfl Try.func8 (by kernel_rfl) rfl #[.slice A0 l0.length c0] rfl (by (try simp only [List.map_toArray, List.map_cons, List.map_nil]); first | done | rfl | (simp only [List.length_drop, List.length_take]; rfl)) ?_; (with_reducible refine (compositorref23_Few.calls k _ _ l0 false _ ?side1 ?side2 A7.out).mono ?_); (case side1 => repeat (first | exact (Kd.C_below HR0.out HB.out) | (with_reducible refine Kd.C_alloc ?_ _) | (with_reducible refine Kd.C_drewN ?_ _) | (with_reducible refine Kd.C_drew ?_))); (case side2 => exact HC0.out); rintro e w' ⟨rfl, ⟨nd, rfl⟩⟩; refine ⟨_, rfl, ?_⟩))
      go_meet
      case rel => exact ⟨_, (true), (by first | rfl | (simp; done) | (simp [*]; done)), H', ⟨by first | omega | exact Nat.le_refl _⟩, ⟨by repeat (first | (with_reducible first | exact HB.out | apply below_alloc | apply pw_below_drewN | apply below_drew1) | exact HB.out)⟩⟩
  case rest =>
    clear HC5
    try clear c1
    try clear p2
    try clear c5
    try clear c7
    try clear c8
    obtain ⟨kq, x29_4, rfl, HA, HJ4, HB⟩ := hcut
    cases kq with
    | zero => exact absurd HA.out (by simp [compositorlaw23_ShipBack.j0])
    | succ kj4 =>
      have H := HA.out
      clear HA
      simp only [compositorlaw23_ShipBack.j0] at H
      by_cases c9 : x29_4 = true
      · subst c9
        have H1 : (some t335) = some r := by rw [if_pos rfl] at H; exact H
        clear H
        have H := H1
        clear H1
        obtain rfl := Option.some.inj H
        go_wp2
        go_ret
        exact ⟨by first | rfl | (simp [errW_none, errW_some] <;> rfl) | (simp [*, errW_none, errW_some] <;> rfl), by repeat (first | (with_reducible first | exact HB.out | apply below_alloc | apply pw_below_drewN | apply below_drew1) | exact HB.out)⟩
      · replace c9 := Bool.eq_false_iff.mpr c9
        subst c9
        have H1 : ((ship_Write.f l0).bind fun bt337 => ((ship_Read.f bt337.1).bind fun bt341 => ((compositorref19_All.f kj4 l0 bt341.1).bind fun t345 => (if bt337.2 = 0 then (if bt341.2 = 0 then (if t345 = true then (if (bt337.1.length : Int) < 3 then (compositorlaw23_ShipBack.j1 kj4 l1 a2 t335 bt337.1 bt337.2 true) else ((ship_Check.f l0).bind fun t346 => (compositorlaw23_ShipBack.j1 kj4 l1 a2 t335 bt337.1 bt337.2 ((bt337.2 == 0) != t346)))) else (compositorlaw23_ShipBack.j1 kj4 l1 a2 t335 bt337.1 bt337.2 true)) else (compositorlaw23_ShipBack.j1 kj4 l1 a2 t335 bt337.1 bt337.2 true)) else ((ship_Check.f l0).bind fun t347 => (compositorlaw23_ShipBack.j1 kj4 l1 a2 t335 bt337.1 bt337.2 ((bt337.2 == 0) != t347))))))) = some r := by rw [if_neg (show ¬ (false = true) by decide)] at H; exact H
        clear H
        have H := H1
        clear H1
        replace H := Option.bind_eq_some_iff.mp H
        obtain ⟨⟨t337, t338⟩, A100, H⟩ := H
        replace H : ((ship_Read.f t337).bind fun bt341 => ((compositorref19_All.f kj4 l0 bt341.1).bind fun t345 => (if t338 = 0 then (if bt341.2 = 0 then (if t345 = true then (if (t337.length : Int) < 3 then (compositorlaw23_ShipBack.j1 kj4 l1 a2 t335 t337 t338 true) else ((ship_Check.f l0).bind fun t346 => (compositorlaw23_ShipBack.j1 kj4 l1 a2 t335 t337 t338 ((t338 == 0) != t346)))) else (compositorlaw23_ShipBack.j1 kj4 l1 a2 t335 t337 t338 true)) else (compositorlaw23_ShipBack.j1 kj4 l1 a2 t335 t337 t338 true)) else ((ship_Check.f l0).bind fun t347 => (compositorlaw23_ShipBack.j1 kj4 l1 a2 t335 t337 t338 ((t338 == 0) != t347)))))) = some r := H
        have A10 := Aside0.mk A100
        clear A100
        replace H := Option.bind_eq_some_iff.mp H
        obtain ⟨⟨t341, t342⟩, A110, H⟩ := H
        replace H : ((compositorref19_All.f kj4 l0 t341).bind fun t345 => (if t338 = 0 then (if t342 = 0 then (if t345 = true then (if (t337.length : Int) < 3 then (compositorlaw23_ShipBack.j1 kj4 l1 a2 t335 t337 t338 true) else ((ship_Check.f l0).bind fun t346 => (compositorlaw23_ShipBack.j1 kj4 l1 a2 t335 t337 t338 ((t338 == 0) != t346)))) else (compositorlaw23_ShipBack.j1 kj4 l1 a2 t335 t337 t338 true)) else (compositorlaw23_ShipBack.j1 kj4 l1 a2 t335 t337 t338 true)) else ((ship_Check.f l0).bind fun t347 => (compositorlaw23_ShipBack.j1 kj4 l1 a2 t335 t337 t338 ((t338 == 0) != t347))))) = some r := H
        have A11 := Aside0.mk A110
        clear A110
        replace H := Option.bind_eq_some_iff.mp H
        obtain ⟨t345, A120, H⟩ := H
        replace H : (if t338 = 0 then (if t342 = 0 then (if t345 = true then (if (t337.length : Int) < 3 then (compositorlaw23_ShipBack.j1 kj4 l1 a2 t335 t337 t338 true) else ((ship_Check.f l0).bind fun t346 => (compositorlaw23_ShipBack.j1 kj4 l1 a2 t335 t337 t338 ((t338 == 0) != t346)))) else (compositorlaw23_ShipBack.j1 kj4 l1 a2 t335 t337 t338 true)) else (compositorlaw23_ShipBack.j1 kj4 l1 a2 t335 t337 t338 true)) else ((ship_Check.f l0).bind fun t347 => (compositorlaw23_ShipBack.j1 kj4 l1 a2 t335 t337 t338 ((t338 == 0) != t347)))) = some r := H
        have A12 := Aside0.mk A120
        clear A120
        have HC13 := Aside0.mk H
        clear H
        go_upto_region 7 with (first | ((with_reducible refine gate_callee (f := 9) rfl ?_); refine goesL_ (some 33) rfl rfl Try.func9 (by kernel_rfl) rfl #[.slice A0 l0.length c0] rfl (by (try simp only [List.map_toArray, List.map_cons, List.map_nil]); first | done | rfl | (simp only [List.length_drop, List.length_take]; rfl)) ?_; (with_reducible refine (ship_Write.calls _ _ l0 t337 t338 _ ?side1 ?side2 A10.out).mono ?_); (case side1 => repeat (first | exact (Kd.C_below HR0.out HB.out) | (with_reducible refine Kd.C_alloc ?_ _) | (with_reducible refine Kd.C_drewN ?_ _) | (with_reducible refine Kd.C_drew ?_))); (case side2 => exact HC0.out); rintro e w14 ⟨v339, rfl, ho0, hb⟩; refine ⟨_, rfl, ?_⟩; have n0_ := Aside0.mk (Kd.R_lower ho0 (below_size (by repeat (first | (with_reducible first | exact HB.out | apply below_alloc | apply pw_below_drewN | apply below_drew1) | exact HB.out)))); have n1_ := Aside0.mk (below_step (by repeat (first | (with_reducible first | exact HB.out | apply below_alloc | apply pw_below_drewN | apply below_drew1) | exact HB.out)) hb); clear HB; have HO340 := n0_; have HB := n1_; clear n0_ n1_; (try clear hb); (try clear hb2); (try clear hk); (try clear hi); (try clear ho0); obtain ⟨Ao15, co15, eo15⟩ := Kd.R_slice HO340.out; subst eo15) | ((with_reducible refine gate_callee (f := 16) rfl ?_); refine goesL_ (some 38) rfl rfl Try.func16 (by kernel_rfl) rfl #[.slice Ao15 t337.length co15] rfl (by (try simp only [List.map_toArray, List.map_cons, List.map_nil]); first | done | rfl | (simp only [List.length_drop, List.length_take]; rfl)) ?_; (with_reducible refine (ship_Read.calls _ _ t337 t341 t342 _ ?side1 ?side2 A11.out).mono ?_); (case side1 => repeat (first | exact (Kd.R_reads' HO340.out).2.2 | (with_reducible refine Kd.C_alloc ?_ _) | (with_reducible refine Kd.C_drewN ?_ _) | (with_reducible refine Kd.C_drew ?_))); (case side2 => exact (Kd.R_reads' HO340.out).2.1); rintro e w16 ⟨v343, rfl, ho0, hb⟩; refine ⟨_, rfl, ?_⟩; have n0_ := Aside0.mk (Kd.R_below (by (with_reducible repeat (first | apply Kd.R_alloc | apply Kd.R_drewN | apply Kd.R_drew)); exact HO340.out) hb); have n1_ := Aside0.mk (Kd.S_lower ho0 (below_size (by repeat (first | (with_reducible first | exact HB.out | apply below_alloc | apply pw_below_drewN | apply below_drew1) | exact HB.out)))); have n2_ := Aside0.mk (below_step (by repeat (first | (with_reducible first | exact HB.out | apply below_alloc | apply pw_below_drewN | apply below_drew1) | exact HB.out)) hb); clear HO340; clear HB; have HO340 := n0_; have HO344 := n1_; have HB := n2_; clear n0_ n1_ n2_; (try clear hb); (try clear hb2); (try clear hk); (try clear hi); (try clear ho0); obtain ⟨Ao17, co17, eo17⟩ := Kd.S_slice HO344.out; subst eo17) | ((with_reducible refine gate_callee (f := 18) rfl ?_); refine goesL_ (some 43) rfl rfl Try.func18 (by kernel_rfl) rfl #[.slice A0 l0.length c0, .slice Ao17 t341.length co17] rfl (by (try simp only [List.map_toArray, List.map_cons, List.map_nil]); first | done | rfl | (simp only [List.length_drop, List.length_take]; rfl)) ?_; (with_reducible refine (compositorref19_All.calls kj4 _ _ l0 _ _ t341 t345 _ ?side1 ?side2 ?side3 ?side4 A12.out).mono ?_); (case side1 => repeat (first | exact (Kd.C_below HR0.out HB.out) | (with_reducible refine Kd.C_alloc ?_ _) | (with_reducible refine Kd.C_drewN ?_ _) | (with_reducible refine Kd.C_drew ?_))); (case side2 => exact HC0.out); (case side3 => repeat (first | exact (Kd.S_reads' HO344.out).2.2 | (with_reducible refine Kd.C_alloc ?_ _) | (with_reducible refine Kd.C_drewN ?_ _) | (with_reducible refine Kd.C_drew ?_))); (case side4 => exact (Kd.S_reads' HO344.out).2.1); rintro e w18 ⟨rfl, hb⟩; refine ⟨_, rfl, ?_⟩; have n0_ := Aside0.mk (Kd.R_below (by (with_reducible repeat (first | apply Kd.R_alloc | apply Kd.R_drewN | apply Kd.R_drew)); exact HO340.out) hb); have n1_ := Aside0.mk (Kd.S_below (by (with_reducible repeat (first | apply Kd.S_alloc | apply Kd.S_drewN | apply Kd.S_drew)); exact HO344.out) hb); have n2_ := Aside0.mk (below_step (by repeat (first | (with_reducible first | exact HB.out | apply below_alloc | apply pw_below_drewN | apply below_drew1) | exact HB.out)) hb); clear HO340; clear HO344; clear HB; have HO340 := n0_; have HO344 := n1_; have HB := n2_; clear n0_ n1_ n2_; (try clear hb); (try clear hb2); (try clear hk); (try clear hi)))
        (try simp only [Act.put, List.setIfInBounds_toArray, List.set_cons_zero, List.set_cons_succ])
        go_cut [65] (fun v65 wc => ∃ (kq : Nat) (x65_12 : Bool), v65 = .bool x65_12 ∧ Aside0 (compositorlaw23_ShipBack.j1 kq l1 a2 t335 t337 t338 x65_12 = some r) ∧ Aside0 (kq ≤ kj4) ∧ Aside0 (Kd.R (Kd.int .u8) 5 wc w.heap.size (fun _ => True) (.slice Ao15 t337.length co15) t337) ∧ Aside0 (Below w.heap.size w wc))
        case first =>
          have H := HC13.out
          clear HC13
          by_cases c19 : t338 = 0
          · rw [if_pos c19] at H
            have c19b0 : (t338 == 0) = true := beq_iff_eq.mpr c19
            have c19b1 : (t338 != 0) = false := bne_eq_false_iff_eq.mpr c19
            clear c19
            (first | rw [c19b0] | (simp only [i64_w, i32_w]; rw [c19b0]) | skip)
            by_cases c20 : t342 = 0
            · rw [if_pos c20] at H
              have c20b0 : (t342 == 0) = true := beq_iff_eq.mpr c20
              have c20b1 : (t342 != 0) = false := bne_eq_false_iff_eq.mpr c20
              clear c20
              by_cases c21 : t345 = true
              · subst c21
                have H1 : (if (t337.length : Int) < 3 then (compositorlaw23_ShipBack.j1 kj4 l1 a2 t335 t337 t338 true) else ((ship_Check.f l0).bind fun t346 => (compositorlaw23_ShipBack.j1 kj4 l1 a2 t335 t337 t338 ((t338 == 0) != t346)))) = some r := by rw [if_pos rfl] at H; exact H
                clear H
                have H := H1
                clear H1
                by_cases c22 : (t337.length : Int) < 3
                · rw [if_pos c22] at H
                  have c22b0 : decide ((t337.length : Int) < 3) = true := decide_eq_true c22
                  have c22b1 : decide (t337.length < 3) = true := decide_eq_true (by omega)
                  clear c22
                  have H' := Aside0.mk H
                  clear H
                  go_wp2
                  go_meet
                  case rel => exact ⟨_, (true), (by first | rfl | (simp; done) | (simp [*]; done)), H', ⟨by have := HJ4.out; first | omega | exact Nat.le_refl _⟩, ⟨by (with_reducible repeat (first | apply Kd.R_alloc | apply Kd.R_drewN | apply Kd.R_drew)); exact HO340.out⟩, ⟨by repeat (first | (with_reducible first | exact HB.out | apply below_alloc | apply pw_below_drewN | apply below_drew1) | exact HB.out)⟩⟩
                · rw [if_neg c22] at H
                  have c22b0 : decide ((t337.length : Int) < 3) = false := decide_eq_false c22
                  have c22b1 : decide (t337.length < 3) = false := decide_eq_false (by omega)
                  clear c22
                  replace H := Option.bind_eq_some_iff.mp H
                  obtain ⟨t346, A230, H⟩ := H
                  replace H : (compositorlaw23_ShipBack.j1 kj4 l1 a2 t335 t337 t338 ((t338 == 0) != t346)) = some r := H
                  have A23 := Aside0.mk A230
                  clear A230
                  have H' := Aside0.mk H
                  clear H
                  go_wp2_with (first | (go_at_call 13; (with_reducible refine (ship_Check.calls _ _ l0 t346 _ ?side1 ?side2 A23.out).mono ?_); (case side1 => repeat (first | exact (Kd.C_below HR0.out HB.out) | (with_reducible refine Kd.C_alloc ?_ _) | (with_reducible refine Kd.C_drewN ?_ _) | (with_reducible refine Kd.C_drew ?_))); (case side2 => exact HC0.out); rintro e w24 ⟨rfl, hb⟩; have n0_ := Aside0.mk (Kd.R_below (by (with_reducible repeat (first | apply Kd.R_alloc | apply Kd.R_drewN | apply Kd.R_drew)); exact HO340.out) hb); have n1_ := Aside0.mk (Kd.S_below (by (with_reducible repeat (first | apply Kd.S_alloc | apply Kd.S_drewN | apply Kd.S_drew)); exact HO344.out) hb); have n2_ := Aside0.mk (below_step (by repeat (first | (with_reducible first | exact HB.out | apply below_alloc | apply pw_below_drewN | apply below_drew1) | exact HB.out)) hb); clear HO340; clear HO344; clear HB; have HO340 := n0_; have HO344 := n1_; have HB := n2_; clear n0_ n1_ n2_; (try clear hb); (try clear hb2); (try clear hk); (try clear hi)))
                  go_meet
                  case rel => exact ⟨_, (((t338 == 0) != t346)), (by first | rfl | (simp; done) | (simp [*]; done)), H', ⟨by have := HJ4.out; first | omega | exact Nat.le_refl _⟩, ⟨by (with_reducible repeat (first | apply Kd.R_alloc | apply Kd.R_drewN | apply Kd.R_drew)); exact HO340.out⟩, ⟨by repeat (first | (with_reducible first | exact HB.out | apply below_alloc | apply pw_below_drewN | apply below_drew1) | exact HB.out)⟩⟩
              · replace c21 := Bool.eq_false_iff.mpr c21
                subst c21
                have H1 : (compositorlaw23_ShipBack.j1 kj4 l1 a2 t335 t337 t338 true) = some r := by rw [if_neg (show ¬ (false = true) by decide)] at H; exact H
                clear H
                have H := H1
                clear H1
                have H' := Aside0.mk H
                clear H
                go_wp2
                go_meet
                case rel => exact ⟨_, (true), (by first | rfl | (simp; done) | (simp [*]; done)), H', ⟨by have := HJ4.out; first | omega | exact Nat.le_refl _⟩, ⟨by (with_reducible repeat (first | apply Kd.R_alloc | apply Kd.R_drewN | apply Kd.R_drew)); exact HO340.out⟩, ⟨by repeat (first | (with_reducible first | exact HB.out | apply below_alloc | apply pw_below_drewN | apply below_drew1) | exact HB.out)⟩⟩
            · rw [if_neg c20] at H
              have c20b0 : (t342 == 0) = false := beq_eq_false_iff_ne.mpr c20
              have c20b1 : (t342 != 0) = true := bne_iff_ne.mpr c20
              have H' := Aside0.mk H
              clear H
              go_wp2
              go_meet
              case rel => exact ⟨_, (true), (by first | rfl | (simp; done) | (simp [*]; done)), H', ⟨by have := HJ4.out; first | omega | exact Nat.le_refl _⟩, ⟨by (with_reducible repeat (first | apply Kd.R_alloc | apply Kd.R_drewN | apply Kd.R_drew)); exact HO340.out⟩, ⟨by repeat (first | (with_reducible first | exact HB.out | apply below_alloc | apply pw_below_drewN | apply below_drew1) | exact HB.out)⟩⟩
          · rw [if_neg c19] at H
            have c19b0 : (t338 == 0) = false := beq_eq_false_iff_ne.mpr c19
            have c19b1 : (t338 != 0) = true := bne_iff_ne.mpr c19
            (first | rw [c19b0] | (simp only [i64_w, i32_w]; rw [c19b0]) | skip)
            replace H := Option.bind_eq_some_iff.mp H
            obtain ⟨t347, A250, H⟩ := H
            replace H : (compositorlaw23_ShipBack.j1 kj4 l1 a2 t335 t337 t338 ((t338 == 0) != t347)) = some r := H
            have A25 := Aside0.mk A250
            clear A250
            have H' := Aside0.mk H
            clear H
            go_wp2_with (first | (go_at_call 13; (with_reducible refine (ship_Check.calls _ _ l0 t347 _ ?side1 ?side2 A25.out).mono ?_); (case side1 => repeat (first | exact (Kd.C_below HR0.out HB.out) | (with_reducible refine Kd.C_alloc ?_ _) | (with_reducible refine Kd.C_drewN ?_ _) | (with_reducible refine Kd.C_drew ?_))); (case side2 => exact HC0.out); rintro e w26 ⟨rfl, hb⟩; have n0_ := Aside0.mk (Kd.R_below (by (with_reducible repeat (first | apply Kd.R_alloc | apply Kd.R_drewN | apply Kd.R_drew)); exact HO340.out) hb); have n1_ := Aside0.mk (Kd.S_below (by (with_reducible repeat (first | apply Kd.S_alloc | apply Kd.S_drewN | apply Kd.S_drew)); exact HO344.out) hb); have n2_ := Aside0.mk (below_step (by repeat (first | (with_reducible first | exact HB.out | apply below_alloc | apply pw_below_drewN | apply below_drew1) | exact HB.out)) hb); clear HO340; clear HO344; clear HB; have HO340 := n0_; have HO344 := n1_; have HB := n2_; clear n0_ n1_ n2_; (try clear hb); (try clear hb2); (try clear hk); (try clear hi)))
            go_meet
            case rel => exact ⟨_, (((t338 == 0) != t347)), (by first | rfl | (simp; done) | (simp [*]; done)), H', ⟨by have := HJ4.out; first | omega | exact Nat.le_refl _⟩, ⟨by (with_reducible repeat (first | apply Kd.R_alloc | apply Kd.R_drewN | apply Kd.R_drew)); exact HO340.out⟩, ⟨by repeat (first | (with_reducible first | exact HB.out | apply below_alloc | apply pw_below_drewN | apply below_drew1) | exact HB.out)⟩⟩
        case rest =>
          clear HC13
          try clear c1
          try clear c2
          try clear p2
          try clear c5
          try clear c7
          try clear c8
          try clear c9
          try clear c16
          try clear c18
          try clear c19
          try clear c19b0
          try clear c19b1
          try clear c20
          try clear c20b0
          try clear c20b1
          try clear c21
          try clear c22
          try clear c22b0
          try clear c22b1
          try clear p2
          obtain ⟨kq, x65_12, rfl, HA, HJ12, HO_8, HB⟩ := hcut
          cases kq with
          | zero => exact absurd HA.out (by simp [compositorlaw23_ShipBack.j1])
          | succ kj12 =>
            have H := HA.out
            clear HA
            simp only [compositorlaw23_ShipBack.j1] at H
            by_cases c27 : x65_12 = true
            · subst c27
              have H1 : (some false) = some r := by rw [if_pos rfl] at H; exact H
              clear H
              have H := H1
              clear H1
              obtain rfl := Option.some.inj H
              go_wp2
              go_ret
              exact ⟨by first | rfl | (simp [errW_none, errW_some] <;> rfl) | (simp [*, errW_none, errW_some] <;> rfl), by repeat (first | (with_reducible first | exact HB.out | apply below_alloc | apply pw_below_drewN | apply below_drew1) | exact HB.out)⟩
            · replace c27 := Bool.eq_false_iff.mpr c27
              subst c27
              have H1 : (if t338 = 0 then (if (t337.length : Int) = 0 then (none) else (if 0 ≤ (Int.tmod (wrap64 (a2)) (t337.length : Int)) then (if (Int.tmod (wrap64 (a2)) (t337.length : Int)) ≤ (t337.length : Int) then ((ship_Read.f (t337.take ((Int.tmod (wrap64 (a2)) (t337.length : Int)) : Int).toNat)).bind fun bt352 => ((some (([] : List Int) : List Int)).bind fun y356 => (if y356.length + t337.length < 140737488355328 then ((some (y356 ++ t337 : List Int)).bind fun y359 => (if y359.length < 140737488355328 then ((ship_Read.f (y359 ++ [0])).bind fun bt365 => (if bt352.2 = 230 then (compositorlaw23_ShipBack.j2 kj12 l1 t335 (bt365.2 != 230)) else (compositorlaw23_ShipBack.j2 kj12 l1 t335 true))) else (none))) else (none)))) else (none)) else (none))) else ((ship_Read.f l1).bind fun bt377 => ((ship_Write.f bt377.1).bind fun bt381 => (if t335 = true then (if bt377.2 = 0 then (if bt381.2 = 0 then (some ((strOfNums bt381.1).toList == (strOfNums l1).toList)) else (some false)) else (some true)) else (some false))))) = some r := by rw [if_neg (show ¬ (false = true) by decide)] at H; exact H
              clear H
              have H := H1
              clear H1
              by_cases c28 : t338 = 0
              · rw [if_pos c28] at H
                have c28b0 : (t338 == 0) = true := beq_iff_eq.mpr c28
                have c28b1 : (t338 != 0) = false := bne_eq_false_iff_eq.mpr c28
                clear c28
                by_cases c29 : (t337.length : Int) = 0
                · rw [if_pos c29] at H
                  exact absurd H (by simp)
                · rw [if_neg c29] at H
                  have c29b0 : ((t337.length : Int) == 0) = false := beq_eq_false_iff_ne.mpr c29
                  have c29b1 : ((t337.length : Int) != 0) = true := bne_iff_ne.mpr c29
                  have c29b2 : ¬ (t337 = []) := fun h_ => c29 (by rw [h_]; rfl)
                  obtain ⟨ji30, hji30⟩ : ∃ j_ : Int, (Int.tmod (wrap64 (a2)) (t337.length : Int)) = j_ := ⟨_, rfl⟩
                  replace H : (if 0 ≤ (ji30) then (if (ji30) ≤ (t337.length : Int) then ((ship_Read.f (t337.take ((ji30) : Int).toNat)).bind fun bt352 => ((some (([] : List Int) : List Int)).bind fun y356 => (if y356.length + t337.length < 140737488355328 then ((some (y356 ++ t337 : List Int)).bind fun y359 => (if y359.length < 140737488355328 then ((ship_Read.f (y359 ++ [0])).bind fun bt365 => (if bt352.2 = 230 then (compositorlaw23_ShipBack.j2 kj12 l1 t335 (bt365.2 != 230)) else (compositorlaw23_ShipBack.j2 kj12 l1 t335 true))) else (none))) else (none)))) else (none)) else (none)) = some r := by first | (rw [hji30] at H; exact H) | (simp only [hji30] at H ⊢; exact H)
                  by_cases c31 : 0 ≤ (ji30)
                  · rw [if_pos c31] at H
                    have c31b0 := eq_true c31
                    have c31b1 : decide (0 ≤ (ji30)) = true := decide_eq_true c31
                    clear c31
                    by_cases c32 : (ji30) ≤ (t337.length : Int)
                    · rw [if_pos c32] at H
                      have c32b0 := eq_true c32
                      have c32b1 : decide ((ji30) ≤ (t337.length : Int)) = true := decide_eq_true c32
                      clear c32
                      obtain ⟨y348, hy348⟩ : ∃ y_ : List Int, y_ = (t337.take ((ji30) : Int).toNat) := ⟨_, rfl⟩
                      replace H : ((ship_Read.f y348).bind fun bt352 => ((some (([] : List Int) : List Int)).bind fun y356 => (if y356.length + t337.length < 140737488355328 then ((some (y356 ++ t337 : List Int)).bind fun y359 => (if y359.length < 140737488355328 then ((ship_Read.f (y359 ++ [0])).bind fun bt365 => (if bt352.2 = 230 then (compositorlaw23_ShipBack.j2 kj12 l1 t335 (bt365.2 != 230)) else (compositorlaw23_ShipBack.j2 kj12 l1 t335 true))) else (none))) else (none)))) = some r := by first | (rw [hy348]; with_reducible exact H) | (have H2_ := (Option.bind_some _ _).symm.trans H; rw [hy348]; with_reducible exact H2_) | (have H2_ := (Option.bind_some _ _).symm.trans H; with_reducible exact H2_) | with_reducible exact H | (rw [hy348]; exact H) | exact H
                      have Ny348 := Aside0.mk hy348
                      clear hy348
                      replace H := Option.bind_eq_some_iff.mp H
                      obtain ⟨⟨t352, t353⟩, A330, H⟩ := H
                      replace H : ((some (([] : List Int) : List Int)).bind fun y356 => (if y356.length + t337.length < 140737488355328 then ((some (y356 ++ t337 : List Int)).bind fun y359 => (if y359.length < 140737488355328 then ((ship_Read.f (y359 ++ [0])).bind fun bt365 => (if t353 = 230 then (compositorlaw23_ShipBack.j2 kj12 l1 t335 (bt365.2 != 230)) else (compositorlaw23_ShipBack.j2 kj12 l1 t335 true))) else (none))) else (none))) = some r := H
                      have A33 := Aside0.mk A330
                      clear A330
                      obtain ⟨y356, hy356⟩ : ∃ y_ : List Int, y_ = (([] : List Int)) := ⟨_, rfl⟩
                      replace H : (if y356.length + t337.length < 140737488355328 then ((some (y356 ++ t337 : List Int)).bind fun y359 => (if y359.length < 140737488355328 then ((ship_Read.f (y359 ++ [0])).bind fun bt365 => (if t353 = 230 then (compositorlaw23_ShipBack.j2 kj12 l1 t335 (bt365.2 != 230)) else (compositorlaw23_ShipBack.j2 kj12 l1 t335 true))) else (none))) else (none)) = some r := by first | (rw [hy356]; with_reducible exact H) | (have H2_ := (Option.bind_some _ _).symm.trans H; rw [hy356]; with_reducible exact H2_) | (have H2_ := (Option.bind_some _ _).symm.trans H; with_reducible exact H2_) | with_reducible exact H | (rw [hy356]; exact H) | exact H
                      have Ny356 := Aside0.mk hy356
                      clear hy356
                      by_cases c34 : y356.length + t337.length < 140737488355328
                      · rw [if_pos c34] at H
                        have LMc34 := Aside0.mk c34
                        clear c34
                        obtain ⟨y359, hy359⟩ : ∃ y_ : List Int, y_ = (y356 ++ t337) := ⟨_, rfl⟩
                        replace H : (if y359.length < 140737488355328 then ((ship_Read.f (y359 ++ [0])).bind fun bt365 => (if t353 = 230 then (compositorlaw23_ShipBack.j2 kj12 l1 t335 (bt365.2 != 230)) else (compositorlaw23_ShipBack.j2 kj12 l1 t335 true))) else (none)) = some r := by first | (rw [hy359]; with_reducible exact H) | (have H2_ := (Option.bind_some _ _).symm.trans H; rw [hy359]; with_reducible exact H2_) | (have H2_ := (Option.bind_some _ _).symm.trans H; with_reducible exact H2_) | with_reducible exact H | (rw [hy359]; exact H) | exact H
                        have Ny359 := Aside0.mk hy359
                        clear hy359
                        by_cases c35 : y359.length < 140737488355328
                        · rw [if_pos c35] at H
                          have LMc35 := Aside0.mk c35
                          clear c35
                          obtain ⟨y362, hy362⟩ : ∃ y_ : List Int, y_ = (y359 ++ [0]) := ⟨_, rfl⟩
                          replace H : ((ship_Read.f y362).bind fun bt365 => (if t353 = 230 then (compositorlaw23_ShipBack.j2 kj12 l1 t335 (bt365.2 != 230)) else (compositorlaw23_ShipBack.j2 kj12 l1 t335 true))) = some r := by first | (rw [hy362]; with_reducible exact H) | (have H2_ := (Option.bind_some _ _).symm.trans H; rw [hy362]; with_reducible exact H2_) | (have H2_ := (Option.bind_some _ _).symm.trans H; with_reducible exact H2_) | with_reducible exact H | (rw [hy362]; exact H) | exact H
                          have Ny362 := Aside0.mk hy362
                          clear hy362
                          replace H := Option.bind_eq_some_iff.mp H
                          obtain ⟨⟨t365, t366⟩, A360, H⟩ := H
                          replace H : (if t353 = 230 then (compositorlaw23_ShipBack.j2 kj12 l1 t335 (t366 != 230)) else (compositorlaw23_ShipBack.j2 kj12 l1 t335 true)) = some r := H
                          have A36 := Aside0.mk A360
                          clear A360
                          have HC37 := Aside0.mk H
                          clear H
                          have q38 : ((ji30) : Int) ≤ ((t337.length : Int) : Int) := of_decide_eq_true (by first | (with_reducible assumption) | assumption)
                          obtain ⟨i038, hi038, _, hsz38, _⟩ := info_parts info5
                          have hroom38 : t337.length ≤ co15 := (Kd.R_reads' HO_8.out).2.1
                          have hC38 : Kd.C (Kd.int .u8) _ Ao15 t337.length t337 := (Kd.R_reads' HO_8.out).2.2
                          have hcut38 := cut_to (P := Try.prog) 25 5 .i64 Try.underlying25 hi038 Ao15 t337.length co15 (ji30) (of_decide_eq_true (by first | (with_reducible assumption) | assumption)) q38 hroom38
                          have hr38 := Kd.C_take (m := ((ji30) : Int).toNat) hC38 (by omega)
                          have hy38 : y348.length = ((ji30) : Int).toNat := (by rw [Ny348.out, List.length_take]; omega)
                          rw [← Ny348.out] at hr38
                          rw [← hy38] at hcut38
                          have HR351 := Aside0.mk hr38
                          have HC351 := Aside0.mk (show y348.length ≤ co15 from by omega)
                          clear hr38 hC38 hroom38 hi038 hsz38
                          have KY38 := Aside0.mk hy38
                          clear hy38
                          have KL38 := Aside0.mk (show ((ji30) : Int).toNat ≤ t337.length from by omega)
                          replace q38 := eq_true q38
                          go_upto_region 12 with (first | ((with_reducible refine gate_callee (f := 16) rfl ?_); refine goesL_ (some 76) rfl rfl Try.func16 (by kernel_rfl) rfl #[.slice Ao15 y348.length co15] rfl (by (try simp only [List.map_toArray, List.map_cons, List.map_nil]); first | done | rfl | (simp only [List.length_drop, List.length_take]; rfl)) ?_; (with_reducible refine (ship_Read.calls _ _ y348 t352 t353 _ ?side1 ?side2 A33.out).mono ?_); (case side1 => repeat (first | exact (by repeat (first | (with_reducible exact HR351.out) | (with_reducible refine Kd.C_alloc ?_ _) | (with_reducible refine Kd.C_drewN ?_ _) | (with_reducible refine Kd.C_drew ?_) | exact HR351.out)) | (with_reducible refine Kd.C_alloc ?_ _) | (with_reducible refine Kd.C_drewN ?_ _) | (with_reducible refine Kd.C_drew ?_))); (case side2 => exact HC351.out); rintro e w39 ⟨v354, rfl, ho0, hb⟩; refine ⟨_, rfl, ?_⟩; have n0_ := Aside0.mk (Kd.R_below (by (with_reducible repeat (first | apply Kd.R_alloc | apply Kd.R_drewN | apply Kd.R_drew)); exact HO_8.out) hb); have n1_ := Aside0.mk (Kd.S_lower ho0 (below_size (by repeat (first | (with_reducible first | exact HB.out | apply below_alloc | apply pw_below_drewN | apply below_drew1) | exact HB.out)))); have n2_ := Aside0.mk (Kd.C_below (by repeat (first | (with_reducible exact HR351.out) | (with_reducible refine Kd.C_alloc ?_ _) | (with_reducible refine Kd.C_drewN ?_ _) | (with_reducible refine Kd.C_drew ?_) | exact HR351.out)) hb); have n3_ := Aside0.mk (below_step (by repeat (first | (with_reducible first | exact HB.out | apply below_alloc | apply pw_below_drewN | apply below_drew1) | exact HB.out)) hb); clear HO_8; clear HR351; clear HB; have HO_8 := n0_; have HO355 := n1_; have HR351 := n2_; have HB := n3_; clear n0_ n1_ n2_ n3_; (try clear hb); (try clear hb2); (try clear hk); (try clear hi); (try clear ho0)) | ((with_reducible refine gate_dst (N := 80) rfl ?_); (try (refine gate_guard (by rfl) ?_; dsimp only)); refine Kd.R_lit (Kd.int .u8) _ 5 ?hg (N := 80) ?hd (xs := ([] : List Int)) (inner := []) (ok := fun _ => True) (okp := fun _ => True) ?hr ?hp (fun _ hk => hk) trivial (Below.refl _ _) (Nat.le_refl _) (by simp) ?_; (case hd => rfl); (case hg => rfl); (case hr => first | (go_simp; done) | (go_simp; rfl)); (case hp => exact (Reps.none _ _)); intro v357 w40 ho41 hb hg_ hnew_; clear hg_ hnew_; (first | rw [← Ny356.out] at ho41 | (simp only [Int.reduceToNat] at ho41; rw [← Ny356.out] at ho41)); have n0_ := Aside0.mk (Kd.R_elder' (by (with_reducible repeat (first | apply Kd.R_alloc | apply Kd.R_drewN | apply Kd.R_drew)); exact HO_8.out) (Kd.R_base ho41) hb); have n1_ := Aside0.mk (Kd.S_below (by (with_reducible repeat (first | apply Kd.S_alloc | apply Kd.S_drewN | apply Kd.S_drew)); exact HO355.out) hb); have n2_ := Aside0.mk (Kd.R_lower (Kd.R_new' ho41 (Kd.R_lt (by (with_reducible repeat (first | apply Kd.R_alloc | apply Kd.R_drewN | apply Kd.R_drew)); exact HO_8.out))) (below_size (by repeat (first | (with_reducible first | exact HB.out | apply below_alloc | apply pw_below_drewN | apply below_drew1) | exact HB.out)))); have n3_ := Aside0.mk (Kd.C_below (by repeat (first | (with_reducible exact HR351.out) | (with_reducible refine Kd.C_alloc ?_ _) | (with_reducible refine Kd.C_drewN ?_ _) | (with_reducible refine Kd.C_drew ?_) | exact HR351.out)) hb); have n4_ := Aside0.mk (below_step (by repeat (first | (with_reducible first | exact HB.out | apply below_alloc | apply pw_below_drewN | apply below_drew1) | exact HB.out)) hb); clear HO_8; clear HO355; clear HR351; clear HB; have HO_8 := n0_; have HO355 := n1_; have HO358 := n2_; have HR351 := n3_; have HB := n4_; clear n0_ n1_ n2_ n3_ n4_; clear hb ho41) | ((with_reducible refine gate_builtin (b := .append) (xs := #[.tmp 80, .tmp 81]) rfl ?_); (try (refine gate_guard (by rfl) ?_; dsimp only)); at_builtin; refine Kd.R_append_rows (Kd.int .u8) (w0 := w) w.heap.size rfl (.tmp 80) (.tmp 81) 25 5 (.int .u8 0) 1 rfl Try.underlying25 info5 rfl (by decide) (by omega) v357 y356 t337 _ _ _ (fun k_ => some k_ ≠ (.slice Ao15 t337.length co15 : Value).ownBlock) (fun _ => False) rfl rfl ?aO ?aR (fun _ _ h => h) (fun _ h => h.elim) ?aF ?aB ?aS ?aL ?_; (case aR => repeat (first | exact (Kd.R_reads' HO_8.out).2.2 | (with_reducible refine Kd.C_alloc ?_ _) | (with_reducible refine Kd.C_drewN ?_ _) | (with_reducible refine Kd.C_drew ?_))); (case aB => exact (by repeat (first | (with_reducible first | exact HB.out | apply below_alloc | apply pw_below_drewN | apply below_drew1) | exact HB.out))); (case aF => exact (fun k_ hk => Kd.fresh' (Kd.R_lt (by (with_reducible repeat (first | apply Kd.R_alloc | apply Kd.R_drewN | apply Kd.R_drew)); exact HO_8.out)) k_ hk)); (case aO => exact (by (with_reducible repeat (first | apply Kd.R_alloc | apply Kd.R_drewN | apply Kd.R_drew)); exact Kd.R_mono HO358.out (fun _ hk => hk.2))); (case aS => exact (below_size (by repeat (first | (with_reducible first | exact HB.out | apply below_alloc | apply pw_below_drewN | apply below_drew1) | exact HB.out)))); (case aL => have := LMc34.out; omega); intro v360 w42 ho hb hg hat; rw [← Ny359.out] at ho; have n0_ := Aside0.mk (Kd.R_after (ok := (fun _ => True)) (by (with_reducible repeat (first | apply Kd.R_alloc | apply Kd.R_drewN | apply Kd.R_drew)); exact HO_8.out) hg hat); have n1_ := Aside0.mk (Kd.S_over' (by (with_reducible repeat (first | apply Kd.S_alloc | apply Kd.S_drewN | apply Kd.S_drew)); exact HO355.out) (Kd.R_typed (by (with_reducible repeat (first | apply Kd.R_alloc | apply Kd.R_drewN | apply Kd.R_drew)); exact HO358.out)) (by decide) hg); have n2_ := Aside0.mk (hb); have n3_ := Aside0.mk ((show Kd.C (Kd.int .u8) w42 Ao15 y348.length y348 from by rw [Ny348.out]; exact Kd.C_take (m := ((ji30) : Int).toNat) ((Kd.R_reads' (Kd.R_after (ok := (fun _ => True)) (by (with_reducible repeat (first | apply Kd.R_alloc | apply Kd.R_drewN | apply Kd.R_drew)); exact HO_8.out) hg hat)).2.2) KL38.out)); have n4_ := Aside0.mk (ho); clear HO_8; clear HO355; clear HB; clear HR351; clear HO358; have HO_8 := n0_; have HO355 := n1_; have HB := n2_; have HR351 := n3_; have HO361 := n4_; clear n0_ n1_ n2_ n3_ n4_; clear ho hb hg hat) | ((with_reducible refine gate_builtin (b := .append) (xs := #[.tmp 82, .tmp 83]) rfl ?_); (try (refine gate_guard (by rfl) ?_; dsimp only)); at_builtin; refine Kd.R_append (Kd.int .u8) (w0 := w) w.heap.size rfl (.tmp 82) (.tmp 83) 25 5 (.int .u8 0) 1 rfl Try.underlying25 info5 rfl (by decide) (by omega) v360 y359 0 [.int .u8 0] (fun k_ => some k_ ≠ (.slice Ao15 t337.length co15 : Value).ownBlock) (fun _ => False) rfl rfl ?aP (fun _ hk => hk.elim) ?aF ?aO ?aB ?aS ?aL ?_; (case aP => exact rfl); (case aB => exact (by repeat (first | (with_reducible first | exact HB.out | apply below_alloc | apply pw_below_drewN | apply below_drew1) | exact HB.out))); (case aF => exact (fun k_ hk => Kd.fresh' (Kd.R_lt (by (with_reducible repeat (first | apply Kd.R_alloc | apply Kd.R_drewN | apply Kd.R_drew)); exact HO_8.out)) k_ hk)); (case aO => exact (by (with_reducible repeat (first | apply Kd.R_alloc | apply Kd.R_drewN | apply Kd.R_drew)); exact HO361.out)); (case aS => exact (below_size (by repeat (first | (with_reducible first | exact HB.out | apply below_alloc | apply pw_below_drewN | apply below_drew1) | exact HB.out)))); (case aL => have := LMc35.out; omega); intro v363 w43 ho hb hg hat; rw [← Ny362.out] at ho; have n0_ := Aside0.mk (Kd.R_after (ok := (fun _ => True)) (by (with_reducible repeat (first | apply Kd.R_alloc | apply Kd.R_drewN | apply Kd.R_drew)); exact HO_8.out) hg hat); have n1_ := Aside0.mk (Kd.S_over' (by (with_reducible repeat (first | apply Kd.S_alloc | apply Kd.S_drewN | apply Kd.S_drew)); exact HO355.out) (Kd.R_typed (by (with_reducible repeat (first | apply Kd.R_alloc | apply Kd.R_drewN | apply Kd.R_drew)); exact HO361.out)) (by decide) hg); have n2_ := Aside0.mk (hb); have n3_ := Aside0.mk ((show Kd.C (Kd.int .u8) w43 Ao15 y348.length y348 from by rw [Ny348.out]; exact Kd.C_take (m := ((ji30) : Int).toNat) ((Kd.R_reads' (Kd.R_after (ok := (fun _ => True)) (by (with_reducible repeat (first | apply Kd.R_alloc | apply Kd.R_drewN | apply Kd.R_drew)); exact HO_8.out) hg hat)).2.2) KL38.out)); have n4_ := Aside0.mk (ho); clear HO_8; clear HO355; clear HB; clear HR351; clear HO361; have HO_8 := n0_; have HO355 := n1_; have HB := n2_; have HR351 := n3_; have HO364 := n4_; clear n0_ n1_ n2_ n3_ n4_; clear ho hb hg hat; obtain ⟨Ao44, co44, eo44⟩ := Kd.R_slice HO364.out; subst eo44) | ((with_reducible refine gate_callee (f := 16) rfl ?_); refine goesL_ (some 85) rfl rfl Try.func16 (by kernel_rfl) rfl #[.slice Ao44 y362.length co44] rfl (by (try simp only [List.map_toArray, List.map_cons, List.map_nil]); first | done | rfl | (simp only [List.length_drop, List.length_take]; rfl)) ?_; (with_reducible refine (ship_Read.calls _ _ y362 t365 t366 _ ?side1 ?side2 A36.out).mono ?_); (case side1 => repeat (first | exact (Kd.R_reads' HO364.out).2.2 | (with_reducible refine Kd.C_alloc ?_ _) | (with_reducible refine Kd.C_drewN ?_ _) | (with_reducible refine Kd.C_drew ?_))); (case side2 => exact (Kd.R_reads' HO364.out).2.1); rintro e w45 ⟨v367, rfl, ho0, hb⟩; refine ⟨_, rfl, ?_⟩; have n0_ := Aside0.mk (Kd.R_below (by (with_reducible repeat (first | apply Kd.R_alloc | apply Kd.R_drewN | apply Kd.R_drew)); exact HO_8.out) hb); have n1_ := Aside0.mk (Kd.S_elder' (by (with_reducible repeat (first | apply Kd.S_alloc | apply Kd.S_drewN | apply Kd.S_drew)); exact HO355.out) (Kd.S_base ho0) hb); have n2_ := Aside0.mk (Kd.R_below (by (with_reducible repeat (first | apply Kd.R_alloc | apply Kd.R_drewN | apply Kd.R_drew)); exact HO364.out) hb); have n3_ := Aside0.mk (Kd.S_lower (Kd.S_new' ho0 (Kd.S_lt (by (with_reducible repeat (first | apply Kd.S_alloc | apply Kd.S_drewN | apply Kd.S_drew)); exact HO355.out))) (below_size (by repeat (first | (with_reducible first | exact HB.out | apply below_alloc | apply pw_below_drewN | apply below_drew1) | exact HB.out)))); have n4_ := Aside0.mk (Kd.C_below (by repeat (first | (with_reducible exact HR351.out) | (with_reducible refine Kd.C_alloc ?_ _) | (with_reducible refine Kd.C_drewN ?_ _) | (with_reducible refine Kd.C_drew ?_) | exact HR351.out)) hb); have n5_ := Aside0.mk (below_step (by repeat (first | (with_reducible first | exact HB.out | apply below_alloc | apply pw_below_drewN | apply below_drew1) | exact HB.out)) hb); clear HO_8; clear HO355; clear HO364; clear HR351; clear HB; have HO_8 := n0_; have HO355 := n1_; have HO364 := n2_; have HO368 := n3_; have HR351 := n4_; have HB := n5_; clear n0_ n1_ n2_ n3_ n4_ n5_; (try clear hb); (try clear hb2); (try clear hk); (try clear hi); (try clear ho0)))
                          (try simp only [Act.put, List.setIfInBounds_toArray, List.set_cons_zero, List.set_cons_succ])
                          go_cut [93] (fun v93 wc => ∃ (kq : Nat) (x93_36 : Bool), v93 = .bool x93_36 ∧ Aside0 (compositorlaw23_ShipBack.j2 kq l1 t335 x93_36 = some r) ∧ Aside0 (kq ≤ kj12) ∧ Aside0 (Kd.C (Kd.int .u8) wc Ao15 y348.length y348) ∧ Aside0 (Below w.heap.size w wc))
                          case first =>
                            have H := HC37.out
                            clear HC37
                            by_cases c46 : t353 = 230
                            · rw [if_pos c46] at H
                              have c46b0 : (t353 == 230) = true := beq_iff_eq.mpr c46
                              have c46b1 : (t353 != 230) = false := bne_eq_false_iff_eq.mpr c46
                              clear c46
                              (first | rw [c46b0] | (simp only [i64_w, i32_w]; rw [c46b0]) | skip)
                              have H' := Aside0.mk H
                              clear H
                              go_wp2
                              go_meet
                              case rel => exact ⟨_, ((t366 != 230)), (by first | rfl | (simp; done) | (simp [*]; done)), H', ⟨by have := HJ4.out; have := HJ12.out; first | omega | exact Nat.le_refl _⟩, ⟨by repeat (first | (with_reducible exact HR351.out) | (with_reducible refine Kd.C_alloc ?_ _) | (with_reducible refine Kd.C_drewN ?_ _) | (with_reducible refine Kd.C_drew ?_) | exact HR351.out)⟩, ⟨by repeat (first | (with_reducible first | exact HB.out | apply below_alloc | apply pw_below_drewN | apply below_drew1) | exact HB.out)⟩⟩
                            · rw [if_neg c46] at H
                              have c46b0 : (t353 == 230) = false := beq_eq_false_iff_ne.mpr c46
                              have c46b1 : (t353 != 230) = true := bne_iff_ne.mpr c46
                              (first | rw [c46b0] | (simp only [i64_w, i32_w]; rw [c46b0]) | skip)
                              have H' := Aside0.mk H
                              clear H
                              go_wp2
                              go_meet
                              case rel => exact ⟨_, (true), (by first | rfl | (simp; done) | (simp [*]; done)), H', ⟨by have := HJ4.out; have := HJ12.out; first | omega | exact Nat.le_refl _⟩, ⟨by repeat (first | (with_reducible exact HR351.out) | (with_reducible refine Kd.C_alloc ?_ _) | (with_reducible refine Kd.C_drewN ?_ _) | (with_reducible refine Kd.C_drew ?_) | exact HR351.out)⟩, ⟨by repeat (first | (with_reducible first | exact HB.out | apply below_alloc | apply pw_below_drewN | apply below_drew1) | exact HB.out)⟩⟩
                          case rest =>
                            clear HC37
                            try clear c1
                            try clear c2
                            try clear p2
                            try clear c3
                            try clear q3
                            try clear c4
                            try clear c5
                            try clear p6
                            try clear c7
                            try clear c8
                            try clear c9
                            try clear c16
                            try clear c18
                            try clear c19
                            try clear c19b0
                            try clear c19b1
                            try clear c20
                            try clear c20b0
                            try clear c20b1
                            try clear c21
                            try clear c22
                            try clear c22b0
                            try clear c22b1
                            try clear c27
                            try clear c28
                            try clear c28b0
                            try clear c28b1
                            try clear c29
                            try clear c29b0
                            try clear c29b1
                            try clear c29b2
                            try clear c31
                            try clear c31b0
                            try clear c31b1
                            try clear c32
                            try clear c32b0
                            try clear c32b1
                            try clear c34
                            try clear c35
                            try clear q38
                            try clear c46
                            try clear c46b0
                            try clear c46b1
                            try clear p2
                            try clear q38
                            obtain ⟨kq, x93_36, rfl, HA, HJ36, HR351, HB⟩ := hcut
                            cases kq with
                            | zero => exact absurd HA.out (by simp [compositorlaw23_ShipBack.j2])
                            | succ kj36 =>
                              have H := HA.out
                              clear HA
                              simp only [compositorlaw23_ShipBack.j2] at H
                              by_cases c47 : x93_36 = true
                              · subst c47
                                have H1 : (some false) = some r := by rw [if_pos rfl] at H; exact H
                                clear H
                                have H := H1
                                clear H1
                                obtain rfl := Option.some.inj H
                                go_wp2
                                go_ret
                                exact ⟨by first | rfl | (simp [errW_none, errW_some] <;> rfl) | (simp only [← hji30]; first | rfl | (simp [errW_none, errW_some] <;> rfl)) | (simp [*, errW_none, errW_some] <;> rfl), by repeat (first | (with_reducible first | exact HB.out | apply below_alloc | apply pw_below_drewN | apply below_drew1) | exact HB.out)⟩
                              · replace c47 := Bool.eq_false_iff.mpr c47
                                subst c47
                                have H1 : ((ship_Read.f l1).bind fun bt369 => ((ship_Write.f bt369.1).bind fun bt373 => (if t335 = true then (if bt369.2 = 0 then (if bt373.2 = 0 then (some ((strOfNums bt373.1).toList == (strOfNums l1).toList)) else (some false)) else (some true)) else (some false)))) = some r := by rw [if_neg (show ¬ (false = true) by decide)] at H; exact H
                                clear H
                                have H := H1
                                clear H1
                                replace H := Option.bind_eq_some_iff.mp H
                                obtain ⟨⟨t369, t370⟩, A480, H⟩ := H
                                replace H : ((ship_Write.f t369).bind fun bt373 => (if t335 = true then (if t370 = 0 then (if bt373.2 = 0 then (some ((strOfNums bt373.1).toList == (strOfNums l1).toList)) else (some false)) else (some true)) else (some false))) = some r := H
                                have A48 := Aside0.mk A480
                                clear A480
                                replace H := Option.bind_eq_some_iff.mp H
                                obtain ⟨⟨t373, t374⟩, A490, H⟩ := H
                                replace H : (if t335 = true then (if t370 = 0 then (if t374 = 0 then (some ((strOfNums t373).toList == (strOfNums l1).toList)) else (some false)) else (some true)) else (some false)) = some r := H
                                have A49 := Aside0.mk A490
                                clear A490
                                by_cases c50 : t335 = true
                                · subst c50
                                  have H1 : (if t370 = 0 then (if t374 = 0 then (some ((strOfNums t373).toList == (strOfNums l1).toList)) else (some false)) else (some true)) = some r := by rw [if_pos rfl] at H; exact H
                                  clear H
                                  have H := H1
                                  clear H1
                                  by_cases c51 : t370 = 0
                                  · rw [if_pos c51] at H
                                    have c51b0 : (t370 == 0) = true := beq_iff_eq.mpr c51
                                    have c51b1 : (t370 != 0) = false := bne_eq_false_iff_eq.mpr c51
                                    clear c51
                                    by_cases c52 : t374 = 0
                                    · rw [if_pos c52] at H
                                      have c52b0 : (t374 == 0) = true := beq_iff_eq.mpr c52
                                      have c52b1 : (t374 != 0) = false := bne_eq_false_iff_eq.mpr c52
                                      clear c52
                                      obtain rfl := Option.some.inj H
                                      go_wp2_with (first | ((with_reducible refine gate_callee (f := 16) rfl ?_); refine goesL_ (some 96) rfl rfl Try.func16 (by kernel_rfl) rfl #[.slice A1 l1.length c1] rfl (by (try simp only [List.map_toArray, List.map_cons, List.map_nil]); first | done | rfl | (simp only [List.length_drop, List.length_take]; rfl)) ?_; (with_reducible refine (ship_Read.calls _ _ l1 t369 t370 _ ?side1 ?side2 A48.out).mono ?_); (case side1 => repeat (first | exact (Kd.C_below HR1.out HB.out) | (with_reducible refine Kd.C_alloc ?_ _) | (with_reducible refine Kd.C_drewN ?_ _) | (with_reducible refine Kd.C_drew ?_))); (case side2 => exact HC1.out); rintro e w53 ⟨v371, rfl, ho0, hb⟩; refine ⟨_, rfl, ?_⟩; have n0_ := Aside0.mk (Kd.S_lower ho0 (below_size (by repeat (first | (with_reducible first | exact HB.out | apply below_alloc | apply pw_below_drewN | apply below_drew1) | exact HB.out)))); have n1_ := Aside0.mk (Kd.C_below (by repeat (first | (with_reducible exact HR351.out) | (with_reducible refine Kd.C_alloc ?_ _) | (with_reducible refine Kd.C_drewN ?_ _) | (with_reducible refine Kd.C_drew ?_) | exact HR351.out)) hb); have n2_ := Aside0.mk (below_step (by repeat (first | (with_reducible first | exact HB.out | apply below_alloc | apply pw_below_drewN | apply below_drew1) | exact HB.out)) hb); clear HR351; clear HB; have HO372 := n0_; have HR351 := n1_; have HB := n2_; clear n0_ n1_ n2_; (try clear hb); (try clear hb2); (try clear hk); (try clear hi); (try clear ho0); obtain ⟨Ao54, co54, eo54⟩ := Kd.S_slice HO372.out; subst eo54) | ((with_reducible refine gate_callee (f := 9) rfl ?_); refine goesL_ (some 101) rfl rfl Try.func9 (by kernel_rfl) rfl #[.slice Ao54 t369.length co54] rfl (by (try simp only [List.map_toArray, List.map_cons, List.map_nil]); first | done | rfl | (simp only [List.length_drop, List.length_take]; rfl)) ?_; (with_reducible refine (ship_Write.calls _ _ t369 t373 t374 _ ?side1 ?side2 A49.out).mono ?_); (case side1 => repeat (first | exact (Kd.S_reads' HO372.out).2.2 | (with_reducible refine Kd.C_alloc ?_ _) | (with_reducible refine Kd.C_drewN ?_ _) | (with_reducible refine Kd.C_drew ?_))); (case side2 => exact (Kd.S_reads' HO372.out).2.1); rintro e w55 ⟨v375, rfl, ho0, hb⟩; refine ⟨_, rfl, ?_⟩; have n0_ := Aside0.mk (Kd.S_below (by (with_reducible repeat (first | apply Kd.S_alloc | apply Kd.S_drewN | apply Kd.S_drew)); exact HO372.out) hb); have n1_ := Aside0.mk (Kd.R_lower ho0 (below_size (by repeat (first | (with_reducible first | exact HB.out | apply below_alloc | apply pw_below_drewN | apply below_drew1) | exact HB.out)))); have n2_ := Aside0.mk (Kd.C_below (by repeat (first | (with_reducible exact HR351.out) | (with_reducible refine Kd.C_alloc ?_ _) | (with_reducible refine Kd.C_drewN ?_ _) | (with_reducible refine Kd.C_drew ?_) | exact HR351.out)) hb); have n3_ := Aside0.mk (below_step (by repeat (first | (with_reducible first | exact HB.out | apply below_alloc | apply pw_below_drewN | apply below_drew1) | exact HB.out)) hb); clear HO372; clear HR351; clear HB; have HO372 := n0_; have HO376 := n1_; have HR351 := n2_; have HB := n3_; clear n0_ n1_ n2_ n3_; (try clear hb); (try clear hb2); (try clear hk); (try clear hi); (try clear ho0); have hcv56 := own_string (P := Try.prog) Try.underlying25 Try.underlying5 Try.underlying9 (Kd.own_of_R HO376.out); have hcv57 := Kd.C_string (P := Try.prog) (A := A1) (c := c1) Try.underlying25 Try.underlying5 Try.underlying9 (Kd.C_below HR1.out HB.out)))
                                      go_ret
                                      exact ⟨by first | rfl | (simp [errW_none, errW_some] <;> rfl) | (simp only [← hji30]; first | rfl | (simp [errW_none, errW_some] <;> rfl)) | (simp [*, errW_none, errW_some] <;> rfl), by repeat (first | (with_reducible first | exact HB.out | apply below_alloc | apply pw_below_drewN | apply below_drew1) | exact HB.out)⟩
                                    · rw [if_neg c52] at H
                                      have c52b0 : (t374 == 0) = false := beq_eq_false_iff_ne.mpr c52
                                      have c52b1 : (t374 != 0) = true := bne_iff_ne.mpr c52
                                      obtain rfl := Option.some.inj H
                                      go_wp2_with (first | ((with_reducible refine gate_callee (f := 16) rfl ?_); refine goesL_ (some 96) rfl rfl Try.func16 (by kernel_rfl) rfl #[.slice A1 l1.length c1] rfl (by (try simp only [List.map_toArray, List.map_cons, List.map_nil]); first | done | rfl | (simp only [List.length_drop, List.length_take]; rfl)) ?_; (with_reducible refine (ship_Read.calls _ _ l1 t369 t370 _ ?side1 ?side2 A48.out).mono ?_); (case side1 => repeat (first | exact (Kd.C_below HR1.out HB.out) | (with_reducible refine Kd.C_alloc ?_ _) | (with_reducible refine Kd.C_drewN ?_ _) | (with_reducible refine Kd.C_drew ?_))); (case side2 => exact HC1.out); rintro e w58 ⟨v371, rfl, ho0, hb⟩; refine ⟨_, rfl, ?_⟩; have n0_ := Aside0.mk (Kd.S_lower ho0 (below_size (by repeat (first | (with_reducible first | exact HB.out | apply below_alloc | apply pw_below_drewN | apply below_drew1) | exact HB.out)))); have n1_ := Aside0.mk (Kd.C_below (by repeat (first | (with_reducible exact HR351.out) | (with_reducible refine Kd.C_alloc ?_ _) | (with_reducible refine Kd.C_drewN ?_ _) | (with_reducible refine Kd.C_drew ?_) | exact HR351.out)) hb); have n2_ := Aside0.mk (below_step (by repeat (first | (with_reducible first | exact HB.out | apply below_alloc | apply pw_below_drewN | apply below_drew1) | exact HB.out)) hb); clear HR351; clear HB; have HO372 := n0_; have HR351 := n1_; have HB := n2_; clear n0_ n1_ n2_; (try clear hb); (try clear hb2); (try clear hk); (try clear hi); (try clear ho0); obtain ⟨Ao59, co59, eo59⟩ := Kd.S_slice HO372.out; subst eo59) | ((with_reducible refine gate_callee (f := 9) rfl ?_); refine goesL_ (some 101) rfl rfl Try.func9 (by kernel_rfl) rfl #[.slice Ao59 t369.length co59] rfl (by (try simp only [List.map_toArray, List.map_cons, List.map_nil]); first | done | rfl | (simp only [List.length_drop, List.length_take]; rfl)) ?_; (with_reducible refine (ship_Write.calls _ _ t369 t373 t374 _ ?side1 ?side2 A49.out).mono ?_); (case side1 => repeat (first | exact (Kd.S_reads' HO372.out).2.2 | (with_reducible refine Kd.C_alloc ?_ _) | (with_reducible refine Kd.C_drewN ?_ _) | (with_reducible refine Kd.C_drew ?_))); (case side2 => exact (Kd.S_reads' HO372.out).2.1); rintro e w60 ⟨v375, rfl, ho0, hb⟩; refine ⟨_, rfl, ?_⟩; have n0_ := Aside0.mk (Kd.S_below (by (with_reducible repeat (first | apply Kd.S_alloc | apply Kd.S_drewN | apply Kd.S_drew)); exact HO372.out) hb); have n1_ := Aside0.mk (Kd.R_lower ho0 (below_size (by repeat (first | (with_reducible first | exact HB.out | apply below_alloc | apply pw_below_drewN | apply below_drew1) | exact HB.out)))); have n2_ := Aside0.mk (Kd.C_below (by repeat (first | (with_reducible exact HR351.out) | (with_reducible refine Kd.C_alloc ?_ _) | (with_reducible refine Kd.C_drewN ?_ _) | (with_reducible refine Kd.C_drew ?_) | exact HR351.out)) hb); have n3_ := Aside0.mk (below_step (by repeat (first | (with_reducible first | exact HB.out | apply below_alloc | apply pw_below_drewN | apply below_drew1) | exact HB.out)) hb); clear HO372; clear HR351; clear HB; have HO372 := n0_; have HO376 := n1_; have HR351 := n2_; have HB := n3_; clear n0_ n1_ n2_ n3_; (try clear hb); (try clear hb2); (try clear hk); (try clear hi); (try clear ho0)))
                                      go_ret
                                      exact ⟨by first | rfl | (simp [errW_none, errW_some] <;> rfl) | (simp only [← hji30]; first | rfl | (simp [errW_none, errW_some] <;> rfl)) | (simp [*, errW_none, errW_some] <;> rfl), by repeat (first | (with_reducible first | exact HB.out | apply below_alloc | apply pw_below_drewN | apply below_drew1) | exact HB.out)⟩
                                  · rw [if_neg c51] at H
                                    have c51b0 : (t370 == 0) = false := beq_eq_false_iff_ne.mpr c51
                                    have c51b1 : (t370 != 0) = true := bne_iff_ne.mpr c51
                                    obtain rfl := Option.some.inj H
                                    go_wp2_with (first | ((with_reducible refine gate_callee (f := 16) rfl ?_); refine goesL_ (some 96) rfl rfl Try.func16 (by kernel_rfl) rfl #[.slice A1 l1.length c1] rfl (by (try simp only [List.map_toArray, List.map_cons, List.map_nil]); first | done | rfl | (simp only [List.length_drop, List.length_take]; rfl)) ?_; (with_reducible refine (ship_Read.calls _ _ l1 t369 t370 _ ?side1 ?side2 A48.out).mono ?_); (case side1 => repeat (first | exact (Kd.C_below HR1.out HB.out) | (with_reducible refine Kd.C_alloc ?_ _) | (with_reducible refine Kd.C_drewN ?_ _) | (with_reducible refine Kd.C_drew ?_))); (case side2 => exact HC1.out); rintro e w61 ⟨v371, rfl, ho0, hb⟩; refine ⟨_, rfl, ?_⟩; have n0_ := Aside0.mk (Kd.S_lower ho0 (below_size (by repeat (first | (with_reducible first | exact HB.out | apply below_alloc | apply pw_below_drewN | apply below_drew1) | exact HB.out)))); have n1_ := Aside0.mk (Kd.C_below (by repeat (first | (with_reducible exact HR351.out) | (with_reducible refine Kd.C_alloc ?_ _) | (with_reducible refine Kd.C_drewN ?_ _) | (with_reducible refine Kd.C_drew ?_) | exact HR351.out)) hb); have n2_ := Aside0.mk (below_step (by repeat (first | (with_reducible first | exact HB.out | apply below_alloc | apply pw_below_drewN | apply below_drew1) | exact HB.out)) hb); clear HR351; clear HB; have HO372 := n0_; have HR351 := n1_; have HB := n2_; clear n0_ n1_ n2_; (try clear hb); (try clear hb2); (try clear hk); (try clear hi); (try clear ho0); obtain ⟨Ao62, co62, eo62⟩ := Kd.S_slice HO372.out; subst eo62) | ((with_reducible refine gate_callee (f := 9) rfl ?_); refine goesL_ (some 101) rfl rfl Try.func9 (by kernel_rfl) rfl #[.slice Ao62 t369.length co62] rfl (by (try simp only [List.map_toArray, List.map_cons, List.map_nil]); first | done | rfl | (simp only [List.length_drop, List.length_take]; rfl)) ?_; (with_reducible refine (ship_Write.calls _ _ t369 t373 t374 _ ?side1 ?side2 A49.out).mono ?_); (case side1 => repeat (first | exact (Kd.S_reads' HO372.out).2.2 | (with_reducible refine Kd.C_alloc ?_ _) | (with_reducible refine Kd.C_drewN ?_ _) | (with_reducible refine Kd.C_drew ?_))); (case side2 => exact (Kd.S_reads' HO372.out).2.1); rintro e w63 ⟨v375, rfl, ho0, hb⟩; refine ⟨_, rfl, ?_⟩; have n0_ := Aside0.mk (Kd.S_below (by (with_reducible repeat (first | apply Kd.S_alloc | apply Kd.S_drewN | apply Kd.S_drew)); exact HO372.out) hb); have n1_ := Aside0.mk (Kd.R_lower ho0 (below_size (by repeat (first | (with_reducible first | exact HB.out | apply below_alloc | apply pw_below_drewN | apply below_drew1) | exact HB.out)))); have n2_ := Aside0.mk (Kd.C_below (by repeat (first | (with_reducible exact HR351.out) | (with_reducible refine Kd.C_alloc ?_ _) | (with_reducible refine Kd.C_drewN ?_ _) | (with_reducible refine Kd.C_drew ?_) | exact HR351.out)) hb); have n3_ := Aside0.mk (below_step (by repeat (first | (with_reducible first | exact HB.out | apply below_alloc | apply pw_below_drewN | apply below_drew1) | exact HB.out)) hb); clear HO372; clear HR351; clear HB; have HO372 := n0_; have HO376 := n1_; have HR351 := n2_; have HB := n3_; clear n0_ n1_ n2_ n3_; (try clear hb); (try clear hb2); (try clear hk); (try clear hi); (try clear ho0)))
                                    go_ret
                                    exact ⟨by first | rfl | (simp [errW_none, errW_some] <;> rfl) | (simp only [← hji30]; first | rfl | (simp [errW_none, errW_some] <;> rfl)) | (simp [*, errW_none, errW_some] <;> rfl), by repeat (first | (with_reducible first | exact HB.out | apply below_alloc | apply pw_below_drewN | apply below_drew1) | exact HB.out)⟩
                                · replace c50 := Bool.eq_false_iff.mpr c50
                                  subst c50
                                  have H1 : (some false) = some r := by rw [if_neg (show ¬ (false = true) by decide)] at H; exact H
                                  clear H
                                  have H := H1
                                  clear H1
                                  obtain rfl := Option.some.inj H
                                  go_wp2_with (first | ((with_reducible refine gate_callee (f := 16) rfl ?_); refine goesL_ (some 96) rfl rfl Try.func16 (by kernel_rfl) rfl #[.slice A1 l1.length c1] rfl (by (try simp only [List.map_toArray, List.map_cons, List.map_nil]); first | done | rfl | (simp only [List.length_drop, List.length_take]; rfl)) ?_; (with_reducible refine (ship_Read.calls _ _ l1 t369 t370 _ ?side1 ?side2 A48.out).mono ?_); (case side1 => repeat (first | exact (Kd.C_below HR1.out HB.out) | (with_reducible refine Kd.C_alloc ?_ _) | (with_reducible refine Kd.C_drewN ?_ _) | (with_reducible refine Kd.C_drew ?_))); (case side2 => exact HC1.out); rintro e w64 ⟨v371, rfl, ho0, hb⟩; refine ⟨_, rfl, ?_⟩; have n0_ := Aside0.mk (Kd.S_lower ho0 (below_size (by repeat (first | (with_reducible first | exact HB.out | apply below_alloc | apply pw_below_drewN | apply below_drew1) | exact HB.out)))); have n1_ := Aside0.mk (Kd.C_below (by repeat (first | (with_reducible exact HR351.out) | (with_reducible refine Kd.C_alloc ?_ _) | (with_reducible refine Kd.C_drewN ?_ _) | (with_reducible refine Kd.C_drew ?_) | exact HR351.out)) hb); have n2_ := Aside0.mk (below_step (by repeat (first | (with_reducible first | exact HB.out | apply below_alloc | apply pw_below_drewN | apply below_drew1) | exact HB.out)) hb); clear HR351; clear HB; have HO372 := n0_; have HR351 := n1_; have HB := n2_; clear n0_ n1_ n2_; (try clear hb); (try clear hb2); (try clear hk); (try clear hi); (try clear ho0); obtain ⟨Ao65, co65, eo65⟩ := Kd.S_slice HO372.out; subst eo65) | ((with_reducible refine gate_callee (f := 9) rfl ?_); refine goesL_ (some 101) rfl rfl Try.func9 (by kernel_rfl) rfl #[.slice Ao65 t369.length co65] rfl (by (try simp only [List.map_toArray, List.map_cons, List.map_nil]); first | done | rfl | (simp only [List.length_drop, List.length_take]; rfl)) ?_; (with_reducible refine (ship_Write.calls _ _ t369 t373 t374 _ ?side1 ?side2 A49.out).mono ?_); (case side1 => repeat (first | exact (Kd.S_reads' HO372.out).2.2 | (with_reducible refine Kd.C_alloc ?_ _) | (with_reducible refine Kd.C_drewN ?_ _) | (with_reducible refine Kd.C_drew ?_))); (case side2 => exact (Kd.S_reads' HO372.out).2.1); rintro e w66 ⟨v375, rfl, ho0, hb⟩; refine ⟨_, rfl, ?_⟩; have n0_ := Aside0.mk (Kd.S_below (by (with_reducible repeat (first | apply Kd.S_alloc | apply Kd.S_drewN | apply Kd.S_drew)); exact HO372.out) hb); have n1_ := Aside0.mk (Kd.R_lower ho0 (below_size (by repeat (first | (with_reducible first | exact HB.out | apply below_alloc | apply pw_below_drewN | apply below_drew1) | exact HB.out)))); have n2_ := Aside0.mk (Kd.C_below (by repeat (first | (with_reducible exact HR351.out) | (with_reducible refine Kd.C_alloc ?_ _) | (with_reducible refine Kd.C_drewN ?_ _) | (with_reducible refine Kd.C_drew ?_) | exact HR351.out)) hb); have n3_ := Aside0.mk (below_step (by repeat (first | (with_reducible first | exact HB.out | apply below_alloc | apply pw_below_drewN | apply below_drew1) | exact HB.out)) hb); clear HO372; clear HR351; clear HB; have HO372 := n0_; have HO376 := n1_; have HR351 := n2_; have HB := n3_; clear n0_ n1_ n2_ n3_; (try clear hb); (try clear hb2); (try clear hk); (try clear hi); (try clear ho0)))
                                  go_ret
                                  exact ⟨by first | rfl | (simp [errW_none, errW_some] <;> rfl) | (simp only [← hji30]; first | rfl | (simp [errW_none, errW_some] <;> rfl)) | (simp [*, errW_none, errW_some] <;> rfl), by repeat (first | (with_reducible first | exact HB.out | apply below_alloc | apply pw_below_drewN | apply below_drew1) | exact HB.out)⟩
                        · rw [if_neg c35] at H
                          exact absurd H (by simp)
                      · rw [if_neg c34] at H
                        exact absurd H (by simp)
                    · rw [if_neg c32] at H
                      exact absurd H (by simp)
                  · rw [if_neg c31] at H
                    exact absurd H (by simp)
              · rw [if_neg c28] at H
                have c28b0 : (t338 == 0) = false := beq_eq_false_iff_ne.mpr c28
                have c28b1 : (t338 != 0) = true := bne_iff_ne.mpr c28
                replace H := Option.bind_eq_some_iff.mp H
                obtain ⟨⟨t377, t378⟩, A670, H⟩ := H
                replace H : ((ship_Write.f t377).bind fun bt381 => (if t335 = true then (if t378 = 0 then (if bt381.2 = 0 then (some ((strOfNums bt381.1).toList == (strOfNums l1).toList)) else (some false)) else (some true)) else (some false))) = some r := H
                have A67 := Aside0.mk A670
                clear A670
                replace H := Option.bind_eq_some_iff.mp H
                obtain ⟨⟨t381, t382⟩, A680, H⟩ := H
                replace H : (if t335 = true then (if t378 = 0 then (if t382 = 0 then (some ((strOfNums t381).toList == (strOfNums l1).toList)) else (some false)) else (some true)) else (some false)) = some r := H
                have A68 := Aside0.mk A680
                clear A680
                by_cases c69 : t335 = true
                · subst c69
                  have H1 : (if t378 = 0 then (if t382 = 0 then (some ((strOfNums t381).toList == (strOfNums l1).toList)) else (some false)) else (some true)) = some r := by rw [if_pos rfl] at H; exact H
                  clear H
                  have H := H1
                  clear H1
                  by_cases c70 : t378 = 0
                  · rw [if_pos c70] at H
                    have c70b0 : (t378 == 0) = true := beq_iff_eq.mpr c70
                    have c70b1 : (t378 != 0) = false := bne_eq_false_iff_eq.mpr c70
                    clear c70
                    by_cases c71 : t382 = 0
                    · rw [if_pos c71] at H
                      have c71b0 : (t382 == 0) = true := beq_iff_eq.mpr c71
                      have c71b1 : (t382 != 0) = false := bne_eq_false_iff_eq.mpr c71
                      clear c71
                      obtain rfl := Option.some.inj H
                      go_wp2_with (first | ((with_reducible refine gate_callee (f := 16) rfl ?_); refine goesL_ (some 96) rfl rfl Try.func16 (by kernel_rfl) rfl #[.slice A1 l1.length c1] rfl (by (try simp only [List.map_toArray, List.map_cons, List.map_nil]); first | done | rfl | (simp only [List.length_drop, List.length_take]; rfl)) ?_; (with_reducible refine (ship_Read.calls _ _ l1 t377 t378 _ ?side1 ?side2 A67.out).mono ?_); (case side1 => repeat (first | exact (Kd.C_below HR1.out HB.out) | (with_reducible refine Kd.C_alloc ?_ _) | (with_reducible refine Kd.C_drewN ?_ _) | (with_reducible refine Kd.C_drew ?_))); (case side2 => exact HC1.out); rintro e w72 ⟨v379, rfl, ho0, hb⟩; refine ⟨_, rfl, ?_⟩; have n0_ := Aside0.mk (Kd.R_below (by (with_reducible repeat (first | apply Kd.R_alloc | apply Kd.R_drewN | apply Kd.R_drew)); exact HO_8.out) hb); have n1_ := Aside0.mk (Kd.S_lower ho0 (below_size (by repeat (first | (with_reducible first | exact HB.out | apply below_alloc | apply pw_below_drewN | apply below_drew1) | exact HB.out)))); have n2_ := Aside0.mk (below_step (by repeat (first | (with_reducible first | exact HB.out | apply below_alloc | apply pw_below_drewN | apply below_drew1) | exact HB.out)) hb); clear HO_8; clear HB; have HO_8 := n0_; have HO380 := n1_; have HB := n2_; clear n0_ n1_ n2_; (try clear hb); (try clear hb2); (try clear hk); (try clear hi); (try clear ho0); obtain ⟨Ao73, co73, eo73⟩ := Kd.S_slice HO380.out; subst eo73) | ((with_reducible refine gate_callee (f := 9) rfl ?_); refine goesL_ (some 101) rfl rfl Try.func9 (by kernel_rfl) rfl #[.slice Ao73 t377.length co73] rfl (by (try simp only [List.map_toArray, List.map_cons, List.map_nil]); first | done | rfl | (simp only [List.length_drop, List.length_take]; rfl)) ?_; (with_reducible refine (ship_Write.calls _ _ t377 t381 t382 _ ?side1 ?side2 A68.out).mono ?_); (case side1 => repeat (first | exact (Kd.S_reads' HO380.out).2.2 | (with_reducible refine Kd.C_alloc ?_ _) | (with_reducible refine Kd.C_drewN ?_ _) | (with_reducible refine Kd.C_drew ?_))); (case side2 => exact (Kd.S_reads' HO380.out).2.1); rintro e w74 ⟨v383, rfl, ho0, hb⟩; refine ⟨_, rfl, ?_⟩; have n0_ := Aside0.mk (Kd.R_elder' (by (with_reducible repeat (first | apply Kd.R_alloc | apply Kd.R_drewN | apply Kd.R_drew)); exact HO_8.out) (Kd.R_base ho0) hb); have n1_ := Aside0.mk (Kd.S_below (by (with_reducible repeat (first | apply Kd.S_alloc | apply Kd.S_drewN | apply Kd.S_drew)); exact HO380.out) hb); have n2_ := Aside0.mk (Kd.R_lower (Kd.R_new' ho0 (Kd.R_lt (by (with_reducible repeat (first | apply Kd.R_alloc | apply Kd.R_drewN | apply Kd.R_drew)); exact HO_8.out))) (below_size (by repeat (first | (with_reducible first | exact HB.out | apply below_alloc | apply pw_below_drewN | apply below_drew1) | exact HB.out)))); have n3_ := Aside0.mk (below_step (by repeat (first | (with_reducible first | exact HB.out | apply below_alloc | apply pw_below_drewN | apply below_drew1) | exact HB.out)) hb); clear HO_8; clear HO380; clear HB; have HO_8 := n0_; have HO380 := n1_; have HO384 := n2_; have HB := n3_; clear n0_ n1_ n2_ n3_; (try clear hb); (try clear hb2); (try clear hk); (try clear hi); (try clear ho0); have hcv75 := own_string (P := Try.prog) Try.underlying25 Try.underlying5 Try.underlying9 (Kd.own_of_R HO384.out); have hcv76 := Kd.C_string (P := Try.prog) (A := A1) (c := c1) Try.underlying25 Try.underlying5 Try.underlying9 (Kd.C_below HR1.out HB.out)))
                      go_ret
                      exact ⟨by first | rfl | (simp [errW_none, errW_some] <;> rfl) | (simp [*, errW_none, errW_some] <;> rfl), by repeat (first | (with_reducible first | exact HB.out | apply below_alloc | apply pw_below_drewN | apply below_drew1) | exact HB.out)⟩
                    · rw [if_neg c71] at H
                      have c71b0 : (t382 == 0) = false := beq_eq_false_iff_ne.mpr c71
                      have c71b1 : (t382 != 0) = true := bne_iff_ne.mpr c71
                      obtain rfl := Option.some.inj H
                      go_wp2_with (first | ((with_reducible refine gate_callee (f := 16) rfl ?_); refine goesL_ (some 96) rfl rfl Try.func16 (by kernel_rfl) rfl #[.slice A1 l1.length c1] rfl (by (try simp only [List.map_toArray, List.map_cons, List.map_nil]); first | done | rfl | (simp only [List.length_drop, List.length_take]; rfl)) ?_; (with_reducible refine (ship_Read.calls _ _ l1 t377 t378 _ ?side1 ?side2 A67.out).mono ?_); (case side1 => repeat (first | exact (Kd.C_below HR1.out HB.out) | (with_reducible refine Kd.C_alloc ?_ _) | (with_reducible refine Kd.C_drewN ?_ _) | (with_reducible refine Kd.C_drew ?_))); (case side2 => exact HC1.out); rintro e w77 ⟨v379, rfl, ho0, hb⟩; refine ⟨_, rfl, ?_⟩; have n0_ := Aside0.mk (Kd.R_below (by (with_reducible repeat (first | apply Kd.R_alloc | apply Kd.R_drewN | apply Kd.R_drew)); exact HO_8.out) hb); have n1_ := Aside0.mk (Kd.S_lower ho0 (below_size (by repeat (first | (with_reducible first | exact HB.out | apply below_alloc | apply pw_below_drewN | apply below_drew1) | exact HB.out)))); have n2_ := Aside0.mk (below_step (by repeat (first | (with_reducible first | exact HB.out | apply below_alloc | apply pw_below_drewN | apply below_drew1) | exact HB.out)) hb); clear HO_8; clear HB; have HO_8 := n0_; have HO380 := n1_; have HB := n2_; clear n0_ n1_ n2_; (try clear hb); (try clear hb2); (try clear hk); (try clear hi); (try clear ho0); obtain ⟨Ao78, co78, eo78⟩ := Kd.S_slice HO380.out; subst eo78) | ((with_reducible refine gate_callee (f := 9) rfl ?_); refine goesL_ (some 101) rfl rfl Try.func9 (by kernel_rfl) rfl #[.slice Ao78 t377.length co78] rfl (by (try simp only [List.map_toArray, List.map_cons, List.map_nil]); first | done | rfl | (simp only [List.length_drop, List.length_take]; rfl)) ?_; (with_reducible refine (ship_Write.calls _ _ t377 t381 t382 _ ?side1 ?side2 A68.out).mono ?_); (case side1 => repeat (first | exact (Kd.S_reads' HO380.out).2.2 | (with_reducible refine Kd.C_alloc ?_ _) | (with_reducible refine Kd.C_drewN ?_ _) | (with_reducible refine Kd.C_drew ?_))); (case side2 => exact (Kd.S_reads' HO380.out).2.1); rintro e w79 ⟨v383, rfl, ho0, hb⟩; refine ⟨_, rfl, ?_⟩; have n0_ := Aside0.mk (Kd.R_elder' (by (with_reducible repeat (first | apply Kd.R_alloc | apply Kd.R_drewN | apply Kd.R_drew)); exact HO_8.out) (Kd.R_base ho0) hb); have n1_ := Aside0.mk (Kd.S_below (by (with_reducible repeat (first | apply Kd.S_alloc | apply Kd.S_drewN | apply Kd.S_drew)); exact HO380.out) hb); have n2_ := Aside0.mk (Kd.R_lower (Kd.R_new' ho0 (Kd.R_lt (by (with_reducible repeat (first | apply Kd.R_alloc | apply Kd.R_drewN | apply Kd.R_drew)); exact HO_8.out))) (below_size (by repeat (first | (with_reducible first | exact HB.out | apply below_alloc | apply pw_below_drewN | apply below_drew1) | exact HB.out)))); have n3_ := Aside0.mk (below_step (by repeat (first | (with_reducible first | exact HB.out | apply below_alloc | apply pw_below_drewN | apply below_drew1) | exact HB.out)) hb); clear HO_8; clear HO380; clear HB; have HO_8 := n0_; have HO380 := n1_; have HO384 := n2_; have HB := n3_; clear n0_ n1_ n2_ n3_; (try clear hb); (try clear hb2); (try clear hk); (try clear hi); (try clear ho0)))
                      go_ret
                      exact ⟨by first | rfl | (simp [errW_none, errW_some] <;> rfl) | (simp [*, errW_none, errW_some] <;> rfl), by repeat (first | (with_reducible first | exact HB.out | apply below_alloc | apply pw_below_drewN | apply below_drew1) | exact HB.out)⟩
                  · rw [if_neg c70] at H
                    have c70b0 : (t378 == 0) = false := beq_eq_false_iff_ne.mpr c70
                    have c70b1 : (t378 != 0) = true := bne_iff_ne.mpr c70
                    obtain rfl := Option.some.inj H
                    go_wp2_with (first | ((with_reducible refine gate_callee (f := 16) rfl ?_); refine goesL_ (some 96) rfl rfl Try.func16 (by kernel_rfl) rfl #[.slice A1 l1.length c1] rfl (by (try simp only [List.map_toArray, List.map_cons, List.map_nil]); first | done | rfl | (simp only [List.length_drop, List.length_take]; rfl)) ?_; (with_reducible refine (ship_Read.calls _ _ l1 t377 t378 _ ?side1 ?side2 A67.out).mono ?_); (case side1 => repeat (first | exact (Kd.C_below HR1.out HB.out) | (with_reducible refine Kd.C_alloc ?_ _) | (with_reducible refine Kd.C_drewN ?_ _) | (with_reducible refine Kd.C_drew ?_))); (case side2 => exact HC1.out); rintro e w80 ⟨v379, rfl, ho0, hb⟩; refine ⟨_, rfl, ?_⟩; have n0_ := Aside0.mk (Kd.R_below (by (with_reducible repeat (first | apply Kd.R_alloc | apply Kd.R_drewN | apply Kd.R_drew)); exact HO_8.out) hb); have n1_ := Aside0.mk (Kd.S_lower ho0 (below_size (by repeat (first | (with_reducible first | exact HB.out | apply below_alloc | apply pw_below_drewN | apply below_drew1) | exact HB.out)))); have n2_ := Aside0.mk (below_step (by repeat (first | (with_reducible first | exact HB.out | apply below_alloc | apply pw_below_drewN | apply below_drew1) | exact HB.out)) hb); clear HO_8; clear HB; have HO_8 := n0_; have HO380 := n1_; have HB := n2_; clear n0_ n1_ n2_; (try clear hb); (try clear hb2); (try clear hk); (try clear hi); (try clear ho0); obtain ⟨Ao81, co81, eo81⟩ := Kd.S_slice HO380.out; subst eo81) | ((with_reducible refine gate_callee (f := 9) rfl ?_); refine goesL_ (some 101) rfl rfl Try.func9 (by kernel_rfl) rfl #[.slice Ao81 t377.length co81] rfl (by (try simp only [List.map_toArray, List.map_cons, List.map_nil]); first | done | rfl | (simp only [List.length_drop, List.length_take]; rfl)) ?_; (with_reducible refine (ship_Write.calls _ _ t377 t381 t382 _ ?side1 ?side2 A68.out).mono ?_); (case side1 => repeat (first | exact (Kd.S_reads' HO380.out).2.2 | (with_reducible refine Kd.C_alloc ?_ _) | (with_reducible refine Kd.C_drewN ?_ _) | (with_reducible refine Kd.C_drew ?_))); (case side2 => exact (Kd.S_reads' HO380.out).2.1); rintro e w82 ⟨v383, rfl, ho0, hb⟩; refine ⟨_, rfl, ?_⟩; have n0_ := Aside0.mk (Kd.R_elder' (by (with_reducible repeat (first | apply Kd.R_alloc | apply Kd.R_drewN | apply Kd.R_drew)); exact HO_8.out) (Kd.R_base ho0) hb); have n1_ := Aside0.mk (Kd.S_below (by (with_reducible repeat (first | apply Kd.S_alloc | apply Kd.S_drewN | apply Kd.S_drew)); exact HO380.out) hb); have n2_ := Aside0.mk (Kd.R_lower (Kd.R_new' ho0 (Kd.R_lt (by (with_reducible repeat (first | apply Kd.R_alloc | apply Kd.R_drewN | apply Kd.R_drew)); exact HO_8.out))) (below_size (by repeat (first | (with_reducible first | exact HB.out | apply below_alloc | apply pw_below_drewN | apply below_drew1) | exact HB.out)))); have n3_ := Aside0.mk (below_step (by repeat (first | (with_reducible first | exact HB.out | apply below_alloc | apply pw_below_drewN | apply below_drew1) | exact HB.out)) hb); clear HO_8; clear HO380; clear HB; have HO_8 := n0_; have HO380 := n1_; have HO384 := n2_; have HB := n3_; clear n0_ n1_ n2_ n3_; (try clear hb); (try clear hb2); (try clear hk); (try clear hi); (try clear ho0)))
                    go_ret
                    exact ⟨by first | rfl | (simp [errW_none, errW_some] <;> rfl) | (simp [*, errW_none, errW_some] <;> rfl), by repeat (first | (with_reducible first | exact HB.out | apply below_alloc | apply pw_below_drewN | apply below_drew1) | exact HB.out)⟩
                · replace c69 := Bool.eq_false_iff.mpr c69
                  subst c69
                  have H1 : (some false) = some r := by rw [if_neg (show ¬ (false = true) by decide)] at H; exact H
                  clear H
                  have H := H1
                  clear H1
                  obtain rfl := Option.some.inj H
                  go_wp2_with (first | ((with_reducible refine gate_callee (f := 16) rfl ?_); refine goesL_ (some 96) rfl rfl Try.func16 (by kernel_rfl) rfl #[.slice A1 l1.length c1] rfl (by (try simp only [List.map_toArray, List.map_cons, List.map_nil]); first | done | rfl | (simp only [List.length_drop, List.length_take]; rfl)) ?_; (with_reducible refine (ship_Read.calls _ _ l1 t377 t378 _ ?side1 ?side2 A67.out).mono ?_); (case side1 => repeat (first | exact (Kd.C_below HR1.out HB.out) | (with_reducible refine Kd.C_alloc ?_ _) | (with_reducible refine Kd.C_drewN ?_ _) | (with_reducible refine Kd.C_drew ?_))); (case side2 => exact HC1.out); rintro e w83 ⟨v379, rfl, ho0, hb⟩; refine ⟨_, rfl, ?_⟩; have n0_ := Aside0.mk (Kd.R_below (by (with_reducible repeat (first | apply Kd.R_alloc | apply Kd.R_drewN | apply Kd.R_drew)); exact HO_8.out) hb); have n1_ := Aside0.mk (Kd.S_lower ho0 (below_size (by repeat (first | (with_reducible first | exact HB.out | apply below_alloc | apply pw_below_drewN | apply below_drew1) | exact HB.out)))); have n2_ := Aside0.mk (below_step (by repeat (first | (with_reducible first | exact HB.out | apply below_alloc | apply pw_below_drewN | apply below_drew1) | exact HB.out)) hb); clear HO_8; clear HB; have HO_8 := n0_; have HO380 := n1_; have HB := n2_; clear n0_ n1_ n2_; (try clear hb); (try clear hb2); (try clear hk); (try clear hi); (try clear ho0); obtain ⟨Ao84, co84, eo84⟩ := Kd.S_slice HO380.out; subst eo84) | ((with_reducible refine gate_callee (f := 9) rfl ?_); refine goesL_ (some 101) rfl rfl Try.func9 (by kernel_rfl) rfl #[.slice Ao84 t377.length co84] rfl (by (try simp only [List.map_toArray, List.map_cons, List.map_nil]); first | done | rfl | (simp only [List.length_drop, List.length_take]; rfl)) ?_; (with_reducible refine (ship_Write.calls _ _ t377 t381 t382 _ ?side1 ?side2 A68.out).mono ?_); (case side1 => repeat (first | exact (Kd.S_reads' HO380.out).2.2 | (with_reducible refine Kd.C_alloc ?_ _) | (with_reducible refine Kd.C_drewN ?_ _) | (with_reducible refine Kd.C_drew ?_))); (case side2 => exact (Kd.S_reads' HO380.out).2.1); rintro e w85 ⟨v383, rfl, ho0, hb⟩; refine ⟨_, rfl, ?_⟩; have n0_ := Aside0.mk (Kd.R_elder' (by (with_reducible repeat (first | apply Kd.R_alloc | apply Kd.R_drewN | apply Kd.R_drew)); exact HO_8.out) (Kd.R_base ho0) hb); have n1_ := Aside0.mk (Kd.S_below (by (with_reducible repeat (first | apply Kd.S_alloc | apply Kd.S_drewN | apply Kd.S_drew)); exact HO380.out) hb); have n2_ := Aside0.mk (Kd.R_lower (Kd.R_new' ho0 (Kd.R_lt (by (with_reducible repeat (first | apply Kd.R_alloc | apply Kd.R_drewN | apply Kd.R_drew)); exact HO_8.out))) (below_size (by repeat (first | (with_reducible first | exact HB.out | apply below_alloc | apply pw_below_drewN | apply below_drew1) | exact HB.out)))); have n3_ := Aside0.mk (below_step (by repeat (first | (with_reducible first | exact HB.out | apply below_alloc | apply pw_below_drewN | apply below_drew1) | exact HB.out)) hb); clear HO_8; clear HO380; clear HB; have HO_8 := n0_; have HO380 := n1_; have HO384 := n2_; have HB := n3_; clear n0_ n1_ n2_ n3_; (try clear hb); (try clear hb2); (try clear hk); (try clear hi); (try clear ho0)))
                  go_ret
                  exact ⟨by first | rfl | (simp [errW_none, errW_some] <;> rfl) | (simp [*, errW_none, errW_some] <;> rfl), by repeat (first | (with_reducible first | exact HB.out | apply below_alloc | apply pw_below_drewN | apply below_drew1) | exact HB.out)⟩

end Go.Proofs.Ythlhfnbaihdjkaa.Q
