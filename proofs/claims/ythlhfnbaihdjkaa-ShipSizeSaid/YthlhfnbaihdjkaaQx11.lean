-- WRITTEN BY A PROGRAM OF THIS SESSION (wip/gprint.py) OVER THE KIT'S PRINT, some functions given by hand
import Derived.Test.YthlhfnbaihdjkaaQx0
import Derived.Test.YthlhfnbaihdjkaaQx2
import Derived.Test.YthlhfnbaihdjkaaQx4
import Derived.Test.YthlhfnbaihdjkaaQWrite
namespace Go.Proofs.Ythlhfnbaihdjkaa.Q
open Go.RowKit Go.Proofs.YthlhfnbaihdjkaaW.PrintWords Go.Proofs.YthlhfnbaihdjkaaW.PrintLast Go.Proofs.YthlhfnbaihdjkaaW.PrintMore
attribute [local go_sem] max2_int min2_int max_two min_two max_three min_three max_four min_four   -- for this text's walks alone
set_option linter.unusedVariables false
set_option linter.unusedSimpArgs false

/-! ### compositorlaw23_ShipSize: function 6 -/
mutual
def compositorlaw23_ShipSize.l0 : Nat → List (S41) → Bool → Int → Int → Option (Bool)
  | 0, _, _, _, _ => none
  | k + 1, x0, x3, x4, x5 => if x5 < (x0.length : Int) then (if 0 ≤ x5 then (compositorlaw23_ShipSize.l0 k x0 x3 (wrap64 ((wrap64 (x4 + 12)) + (wrap64 (5 * (((rd_T41 x0 x5).f4).length : Int))))) (wrap64 (x5 + 1))) else (none)) else ((ship_Write.f x0).bind fun bt388 => ((ship_Report.f k x0).bind fun bt392 => (compositorlaw23_ShipSize.l1 k x0 x3 x4 bt388.1 bt388.2 bt392.1 bt392.2 0 0)))
def compositorlaw23_ShipSize.l1 : Nat → List (S41) → Bool → Int → List Int → Int → List Int → List Int → Int → Int → Option (Bool)
  | 0, _, _, _, _, _, _, _, _, _ => none
  | k + 1, x0, x3, x4, x6, x7, x8, x9, x10, x11 => if x11 < (x0.length : Int) then (if 0 ≤ x11 then (if ((rd_T41 x0 x11).f3) < 0 then (if (wrap64 (x11 - x10)) < 0 then (some false) else (if x10 ≥ (x8.length : Int) then (some false) else (if 0 ≤ x10 then (if x10 < (x8.length : Int) then (if (rd x8 x10) = (wrap64 (x11 + 1)) then (compositorlaw23_ShipSize.l1 k x0 x3 x4 x6 x7 x8 x9 (wrap64 (x10 + 1)) (wrap64 (x11 + 1))) else (some false)) else (none)) else (none)))) else (compositorlaw23_ShipSize.l1 k x0 x3 x4 x6 x7 x8 x9 x10 (wrap64 (x11 + 1)))) else (none)) else (if x3 = true then (if x7 = 0 then (if (x6.length : Int) = x4 then (if x10 = (x8.length : Int) then (some (decide ((wrap64 ((x8.length : Int) + (x9.length : Int))) ≤ (x0.length : Int)))) else (some false)) else (some false)) else (if (x6.length : Int) = 0 then (if x10 = (x8.length : Int) then (some (decide ((wrap64 ((x8.length : Int) + (x9.length : Int))) ≤ (x0.length : Int)))) else (some false)) else (some false))) else (some false))
end
def compositorlaw23_ShipSize.f (k : Nat) (l0 : List (S41)) : Option (Bool) := (compositorlaw23_awake.f k).bind fun t385 => ((compositorref23_Few.f k l0).bind fun t386 => (if t386 = true then (compositorlaw23_ShipSize.l0 k l0 t385 3 0) else (some t385)))
theorem compositorlaw23_ShipSize.mono_l : ∀ k, (∀ y0 y1 y2 y3, LeO (compositorlaw23_ShipSize.l0 k y0 y1 y2 y3) (compositorlaw23_ShipSize.l0 (k + 1) y0 y1 y2 y3)) ∧ (∀ y0 y1 y2 y3 y4 y5 y6 y7 y8, LeO (compositorlaw23_ShipSize.l1 k y0 y1 y2 y3 y4 y5 y6 y7 y8) (compositorlaw23_ShipSize.l1 (k + 1) y0 y1 y2 y3 y4 y5 y6 y7 y8))
  | 0 => ⟨fun _ _ _ _ r h => by simp [compositorlaw23_ShipSize.l0] at h, fun _ _ _ _ _ _ _ _ _ r h => by simp [compositorlaw23_ShipSize.l1] at h⟩
  | k + 1 => by
    obtain ⟨ih0, ih1⟩ := compositorlaw23_ShipSize.mono_l k
    refine ⟨?_, ?_⟩
    · intro y0 y1 y2 y3
      unfold compositorlaw23_ShipSize.l0
      repeat' first
      | (with_reducible exact ih0 _ _ _ _)
      | (with_reducible exact ih1 _ _ _ _ _ _ _ _ _)
      | (with_reducible exact compositorlaw23_awake.mono _)
      | (with_reducible exact compositorref23_Few.mono _ _)
      | (with_reducible exact ship_Report.mono _ _)
      | (with_reducible exact LeO.refl _)
      | (with_reducible exact LeO.none _)
      | (with_reducible refine LeO.ite ?_ ?_)
      | (with_reducible refine LeO.bind ?_ (fun _ => ?_))
      | exact ih0 _ _ _ _
      | exact ih1 _ _ _ _ _ _ _ _ _
      | exact compositorlaw23_awake.mono _
      | exact compositorref23_Few.mono _ _
      | exact ship_Report.mono _ _
      | exact LeO.none _
      | refine LeO.ite ?_ ?_
      | refine LeO.bind ?_ (fun _ => ?_)
    · intro y0 y1 y2 y3 y4 y5 y6 y7 y8
      unfold compositorlaw23_ShipSize.l1
      repeat' first
      | (with_reducible exact ih0 _ _ _ _)
      | (with_reducible exact ih1 _ _ _ _ _ _ _ _ _)
      | (with_reducible exact compositorlaw23_awake.mono _)
      | (with_reducible exact compositorref23_Few.mono _ _)
      | (with_reducible exact ship_Report.mono _ _)
      | (with_reducible exact LeO.refl _)
      | (with_reducible exact LeO.none _)
      | (with_reducible refine LeO.ite ?_ ?_)
      | (with_reducible refine LeO.bind ?_ (fun _ => ?_))
      | exact ih0 _ _ _ _
      | exact ih1 _ _ _ _ _ _ _ _ _
      | exact compositorlaw23_awake.mono _
      | exact compositorref23_Few.mono _ _
      | exact ship_Report.mono _ _
      | exact LeO.none _
      | refine LeO.ite ?_ ?_
      | refine LeO.bind ?_ (fun _ => ?_)
theorem compositorlaw23_ShipSize.mono : ∀ a0 k, LeO (compositorlaw23_ShipSize.f k a0) (compositorlaw23_ShipSize.f (k + 1) a0) := by
  intro a0 k
  obtain ⟨ih0, ih1⟩ := compositorlaw23_ShipSize.mono_l k
  unfold compositorlaw23_ShipSize.f
  repeat' first
      | (with_reducible exact ih0 _ _ _ _)
      | (with_reducible exact ih1 _ _ _ _ _ _ _ _ _)
      | (with_reducible exact compositorlaw23_awake.mono _)
      | (with_reducible exact compositorref23_Few.mono _ _)
      | (with_reducible exact ship_Report.mono _ _)
      | (with_reducible exact LeO.refl _)
      | (with_reducible exact LeO.none _)
      | (with_reducible refine LeO.ite ?_ ?_)
      | (with_reducible refine LeO.bind ?_ (fun _ => ?_))
      | exact ih0 _ _ _ _
      | exact ih1 _ _ _ _ _ _ _ _ _
      | exact compositorlaw23_awake.mono _
      | exact compositorref23_Few.mono _ _
      | exact ship_Report.mono _ _
      | exact LeO.none _
      | refine LeO.ite ?_ ?_
      | refine LeO.bind ?_ (fun _ => ?_)
set_option maxHeartbeats 8000000 in
set_option maxRecDepth 100000 in
theorem compositorlaw23_ShipSize.calls (k : Nat) (A0 : Option Addr) (c0 : Nat) (l0 : List (S41)) (r : Bool) (w : World) (hr0 : Kd.C k41 w A0 l0.length l0) (hc0 : l0.length ≤ c0) (h : compositorlaw23_ShipSize.f k l0 = some r) :
    Calls Try.prog 6 #[.slice A0 l0.length c0] w fun e w' => e = .returned (.bool r) ∧ Below w.heap.size w w' := by
  have HR0 := Aside0.mk hr0
  have HC0 := Aside0.mk hc0
  clear hr0 hc0
  have HB := Aside0.mk (Below.refl w.heap.size w)
  have H : ((compositorlaw23_awake.f k).bind fun t385 => ((compositorref23_Few.f k l0).bind fun t386 => (if t386 = true then (compositorlaw23_ShipSize.l0 k l0 t385 3 0) else (some t385)))) = some r := h
  clear h
  replace H := Option.bind_eq_some_iff.mp H
  obtain ⟨t385, A20, H⟩ := H
  replace H : ((compositorref23_Few.f k l0).bind fun t386 => (if t386 = true then (compositorlaw23_ShipSize.l0 k l0 t385 3 0) else (some t385))) = some r := H
  have A2 := Aside0.mk A20
  clear A20
  replace H := Option.bind_eq_some_iff.mp H
  obtain ⟨t386, A30, H⟩ := H
  replace H : (if t386 = true then (compositorlaw23_ShipSize.l0 k l0 t385 3 0) else (some t385)) = some r := H
  have A3 := Aside0.mk A30
  clear A30
  by_cases c4 : t386 = true
  · subst c4
    have H1 : (compositorlaw23_ShipSize.l0 k l0 t385 3 0) = some r := by rw [if_pos rfl] at H; exact H
    clear H
    have H := H1
    clear H1
    have H' := Aside0.mk H
    clear H
    go_enter Try.func6, Try.ntmps6
    go_wp2_with (first | ((with_reducible refine gate_callee (f := 7) rfl ?_); refine goesL_ (some 12) rfl rfl Try.func7 (by kernel_rfl) rfl #[] rfl (by (try simp only [List.map_toArray, List.map_cons, List.map_nil]); first | done | rfl | (simp only [List.length_drop, List.length_take]; rfl)) ?_; (with_reducible refine (compositorlaw23_awake.calls k  t385 _ A2.out).mono ?_); rintro e w5 ⟨rfl, hb⟩; refine ⟨_, rfl, ?_⟩; have n0_ := Aside0.mk (below_step (by repeat (first | (with_reducible first | exact HB.out | apply below_alloc | apply pw_below_drewN | apply below_drew1) | exact HB.out)) hb); clear HB; have HB := n0_; clear n0_; (try clear hb); (try clear hb2); (try clear hk); (try clear hi)) | ((with_reducible refine gate_callee (f := 8) rfl ?_); refine goesL_ (some 14) rfl rfl Try.func8 (by kernel_rfl) rfl #[.slice A0 l0.length c0] rfl (by (try simp only [List.map_toArray, List.map_cons, List.map_nil]); first | done | rfl | (simp only [List.length_drop, List.length_take]; rfl)) ?_; (with_reducible refine (compositorref23_Few.calls k _ _ l0 true _ ?side1 ?side2 A3.out).mono ?_); (case side1 => repeat (first | exact (Kd.C_below HR0.out HB.out) | (with_reducible refine Kd.C_alloc ?_ _) | (with_reducible refine Kd.C_drewN ?_ _) | (with_reducible refine Kd.C_drew ?_))); (case side2 => exact HC0.out); rintro e w' ⟨rfl, ⟨nd, rfl⟩⟩; refine ⟨_, rfl, ?_⟩))
    go_loopg [4, 5] k (fun kq v4 v5 w' => ∃ (x4_1 : Int) (x5_1 : Int), v4 = .int .i64 x4_1 ∧ v5 = .int .i64 x5_1 ∧ Aside0 (compositorlaw23_ShipSize.l0 kq l0 t385 x4_1 x5_1 = some r) ∧ Aside0 (kq ≤ k) ∧ Aside0 (Below w.heap.size w w'))
    case atStart => exact ⟨(3), (0), (by first | rfl | (simp; done) | (simp [*]; done)), (by first | rfl | (simp; done) | (simp [*]; done)), H', ⟨Nat.le_refl _⟩, ⟨by repeat (first | (with_reducible first | exact HB.out | apply below_alloc | apply pw_below_drewN | apply below_drew1) | exact HB.out)⟩⟩
    case round =>
      clear H'
      try clear p2
      try clear c4
      obtain ⟨x4_1, x5_1, rfl, rfl, HA, HK1, HB⟩ := hrel
      cases gk with
      | zero => exact absurd HA.out (by simp [compositorlaw23_ShipSize.l0])
      | succ k1 =>
        have H := HA.out
        clear HA
        simp only [compositorlaw23_ShipSize.l0] at H
        by_cases c6 : x5_1 < (l0.length : Int)
        · rw [if_pos c6] at H
          have c6b0 : decide (x5_1 < (l0.length : Int)) = true := decide_eq_true c6
          clear c6
          by_cases c7 : 0 ≤ x5_1
          · rw [if_pos c7] at H
            have c7b0 : decide (0 ≤ x5_1) = true := decide_eq_true c7
            clear c7
            have H' := Aside0.mk H
            clear H
            have p387 : 0 ≤ (x5_1 : Int) := of_decide_eq_true (by first | (with_reducible assumption) | assumption)
            have q387 : x5_1 < (l0.length : Int) := of_decide_eq_true (by first | (with_reducible assumption) | assumption)
            obtain ⟨ad387, A387_4, c387_4, e387, hx387_0, hx387_1, hx387_2, hx387_3, hx387_4, hl387_4, hi387_4⟩ := at_T41 HR0.out x5_1 p387 q387
            cases e387
            replace hx387_0 := (HB.out.cell (World.block_lt_of_cell? w _ hx387_0)).trans hx387_0
            replace hx387_1 := (HB.out.cell (World.block_lt_of_cell? w _ hx387_1)).trans hx387_1
            replace hx387_2 := (HB.out.cell (World.block_lt_of_cell? w _ hx387_2)).trans hx387_2
            replace hx387_3 := (HB.out.cell (World.block_lt_of_cell? w _ hx387_3)).trans hx387_3
            replace hx387_4 := (HB.out.cell (World.block_lt_of_cell? w _ hx387_4)).trans hx387_4
            have HR387_4 := Aside0.mk hi387_4
            have HC387_4 := Aside0.mk hl387_4
            clear hi387_4 hl387_4
            replace p387 := eq_true p387
            replace q387 := eq_true q387
            go_wp2
            go_roundg k1
            case measure => have := HK1.out; omega
            case rel => exact ⟨(wrap64 ((wrap64 (x4_1 + 12)) + (wrap64 (5 * (((rd_T41 l0 x5_1).f4).length : Int))))), (wrap64 (x5_1 + 1)), (by first | rfl | (simp; done) | (simp [*]; done)), (by first | rfl | (simp; done) | (simp [*]; done)), H', ⟨by have := HK1.out; omega⟩, ⟨by repeat (first | (with_reducible first | exact HB.out | apply below_alloc | apply pw_below_drewN | apply below_drew1) | exact HB.out)⟩⟩
          · rw [if_neg c7] at H
            exact absurd H (by simp)
        · rw [if_neg c6] at H
          have c6b0 : decide (x5_1 < (l0.length : Int)) = false := decide_eq_false c6
          clear c6
          replace H := Option.bind_eq_some_iff.mp H
          obtain ⟨⟨t388, t389⟩, A80, H⟩ := H
          replace H : ((ship_Report.f k1 l0).bind fun bt392 => (compositorlaw23_ShipSize.l1 k1 l0 t385 x4_1 t388 t389 bt392.1 bt392.2 0 0)) = some r := H
          have A8 := Aside0.mk A80
          clear A80
          replace H := Option.bind_eq_some_iff.mp H
          obtain ⟨⟨t392, t393⟩, A90, H⟩ := H
          replace H : (compositorlaw23_ShipSize.l1 k1 l0 t385 x4_1 t388 t389 t392 t393 0 0) = some r := H
          have A9 := Aside0.mk A90
          clear A90
          have H' := Aside0.mk H
          clear H
          go_wp2_with (first | ((with_reducible refine gate_callee (f := 9) rfl ?_); refine goesL_ (some 35) rfl rfl Try.func9 (by kernel_rfl) rfl #[.slice A0 l0.length c0] rfl (by (try simp only [List.map_toArray, List.map_cons, List.map_nil]); first | done | rfl | (simp only [List.length_drop, List.length_take]; rfl)) ?_; (with_reducible refine (ship_Write.calls _ _ l0 t388 t389 _ ?side1 ?side2 A8.out).mono ?_); (case side1 => repeat (first | exact (Kd.C_below HR0.out HB.out) | (with_reducible refine Kd.C_alloc ?_ _) | (with_reducible refine Kd.C_drewN ?_ _) | (with_reducible refine Kd.C_drew ?_))); (case side2 => exact HC0.out); rintro e w10 ⟨v390, rfl, ho0, hb⟩; refine ⟨_, rfl, ?_⟩; have n0_ := Aside0.mk (Kd.R_lower ho0 (below_size (by repeat (first | (with_reducible first | exact HB.out | apply below_alloc | apply pw_below_drewN | apply below_drew1) | exact HB.out)))); have n1_ := Aside0.mk (below_step (by repeat (first | (with_reducible first | exact HB.out | apply below_alloc | apply pw_below_drewN | apply below_drew1) | exact HB.out)) hb); clear HB; have HO391 := n0_; have HB := n1_; clear n0_ n1_; (try clear hb); (try clear hb2); (try clear hk); (try clear hi); (try clear ho0)) | ((with_reducible refine gate_callee (f := 11) rfl ?_); refine goesL_ (some 40) rfl rfl Try.func11 (by kernel_rfl) rfl #[.slice A0 l0.length c0] rfl (by (try simp only [List.map_toArray, List.map_cons, List.map_nil]); first | done | rfl | (simp only [List.length_drop, List.length_take]; rfl)) ?_; (with_reducible refine (ship_Report.calls k1 _ _ l0 t392 t393 _ ?side1 ?side2 A9.out).mono ?_); (case side1 => repeat (first | exact (Kd.C_below HR0.out HB.out) | (with_reducible refine Kd.C_alloc ?_ _) | (with_reducible refine Kd.C_drewN ?_ _) | (with_reducible refine Kd.C_drew ?_))); (case side2 => exact HC0.out); rintro e w11 ⟨v394, v396, rfl, ho0, ho1, hb⟩; refine ⟨_, rfl, ?_⟩; have n0_ := Aside0.mk (Kd.R_below (by (with_reducible repeat (first | apply Kd.R_alloc | apply Kd.R_drewN | apply Kd.R_drew)); exact HO391.out) hb); have n1_ := Aside0.mk (Kd.R_lower ho0 (below_size (by repeat (first | (with_reducible first | exact HB.out | apply below_alloc | apply pw_below_drewN | apply below_drew1) | exact HB.out)))); have n2_ := Aside0.mk (Kd.R_lower ho1 (below_size (by repeat (first | (with_reducible first | exact HB.out | apply below_alloc | apply pw_below_drewN | apply below_drew1) | exact HB.out)))); have n3_ := Aside0.mk (below_step (by repeat (first | (with_reducible first | exact HB.out | apply below_alloc | apply pw_below_drewN | apply below_drew1) | exact HB.out)) hb); clear HO391; clear HB; have HO391 := n0_; have HO395 := n1_; have HO397 := n2_; have HB := n3_; clear n0_ n1_ n2_ n3_; (try clear hb); (try clear hb2); (try clear hk); (try clear hi); (try clear ho0); (try clear ho1)))
          go_loopg [10, 11] k1 (fun kq v10 v11 w' => ∃ (x10_2 : Int) (x11_2 : Int), v10 = .int .i64 x10_2 ∧ v11 = .int .i64 x11_2 ∧ Aside0 (compositorlaw23_ShipSize.l1 kq l0 t385 x4_1 t388 t389 t392 t393 x10_2 x11_2 = some r) ∧ Aside0 (kq ≤ k1) ∧ Aside0 (Kd.R (Kd.int .u8) 5 w' w.heap.size (fun _ => True) v390 t388) ∧ Aside0 (Kd.R (Kd.int .i64) 3 w' w.heap.size (fun k_ => some k_ ≠ (v396 : Value).ownBlock) v394 t392) ∧ Aside0 (Kd.R (Kd.int .i64) 3 w' w.heap.size (fun k_ => some k_ ≠ (v394 : Value).ownBlock) v396 t393) ∧ Aside0 (Below w.heap.size w w'))
          case atStart => exact ⟨(0), (0), (by first | rfl | (simp; done) | (simp [*]; done)), (by first | rfl | (simp; done) | (simp [*]; done)), H', ⟨Nat.le_refl _⟩, ⟨by (with_reducible repeat (first | apply Kd.R_alloc | apply Kd.R_drewN | apply Kd.R_drew)); exact HO391.out⟩, ⟨by (with_reducible repeat (first | apply Kd.R_alloc | apply Kd.R_drewN | apply Kd.R_drew)); exact HO395.out⟩, ⟨by (with_reducible repeat (first | apply Kd.R_alloc | apply Kd.R_drewN | apply Kd.R_drew)); exact HO397.out⟩, ⟨by repeat (first | (with_reducible first | exact HB.out | apply below_alloc | apply pw_below_drewN | apply below_drew1) | exact HB.out)⟩⟩
          case round =>
            clear H'
            try clear c1
            try clear p2
            try clear c3
            try clear p3
            try clear q3
            try clear hx3
            try clear c4
            try clear c6
            try clear c6b0
            try clear p6
            try clear c7
            try clear c7b0
            try clear c8
            try clear c9
            try clear c11
            try clear hx387_0
            try clear hx387_1
            try clear hx387_2
            try clear hx387_3
            try clear hx387_4
            try clear p2
            try clear p387
            try clear q387
            obtain ⟨x10_2, x11_2, rfl, rfl, HA, HK2, HO_6, HO_8, HO_9, HB⟩ := hrel
            cases gk with
            | zero => exact absurd HA.out (by simp [compositorlaw23_ShipSize.l1])
            | succ k2 =>
              have H := HA.out
              clear HA
              simp only [compositorlaw23_ShipSize.l1] at H
              by_cases c12 : x11_2 < (l0.length : Int)
              · rw [if_pos c12] at H
                have c12b0 : decide (x11_2 < (l0.length : Int)) = true := decide_eq_true c12
                clear c12
                by_cases c13 : 0 ≤ x11_2
                · rw [if_pos c13] at H
                  have c13b0 : decide (0 ≤ x11_2) = true := decide_eq_true c13
                  clear c13
                  by_cases c14 : ((rd_T41 l0 x11_2).f3) < 0
                  · rw [if_pos c14] at H
                    have c14b0 : decide (((rd_T41 l0 x11_2).f3) < 0) = true := decide_eq_true c14
                    clear c14
                    by_cases c15 : (wrap64 (x11_2 - x10_2)) < 0
                    · rw [if_pos c15] at H
                      have c15b0 : decide ((wrap64 (x11_2 - x10_2)) < 0) = true := decide_eq_true c15
                      clear c15
                      obtain rfl := Option.some.inj H
                      have p398 : 0 ≤ (x11_2 : Int) := of_decide_eq_true (by first | (with_reducible assumption) | assumption)
                      have q398 : x11_2 < (l0.length : Int) := of_decide_eq_true (by first | (with_reducible assumption) | assumption)
                      obtain ⟨ad398, A398_4, c398_4, e398, hx398_0, hx398_1, hx398_2, hx398_3, hx398_4, hl398_4, hi398_4⟩ := at_T41 HR0.out x11_2 p398 q398
                      cases e398
                      replace hx398_0 := (HB.out.cell (World.block_lt_of_cell? w _ hx398_0)).trans hx398_0
                      replace hx398_1 := (HB.out.cell (World.block_lt_of_cell? w _ hx398_1)).trans hx398_1
                      replace hx398_2 := (HB.out.cell (World.block_lt_of_cell? w _ hx398_2)).trans hx398_2
                      replace hx398_3 := (HB.out.cell (World.block_lt_of_cell? w _ hx398_3)).trans hx398_3
                      replace hx398_4 := (HB.out.cell (World.block_lt_of_cell? w _ hx398_4)).trans hx398_4
                      have HR398_4 := Aside0.mk hi398_4
                      have HC398_4 := Aside0.mk hl398_4
                      clear hi398_4 hl398_4
                      replace p398 := eq_true p398
                      replace q398 := eq_true q398
                      go_wp2
                      go_ret
                      exact ⟨by first | rfl | (simp [errW_none, errW_some] <;> rfl) | (simp [*, errW_none, errW_some] <;> rfl), by repeat (first | (with_reducible first | exact HB.out | apply below_alloc | apply pw_below_drewN | apply below_drew1) | exact HB.out)⟩
                    · rw [if_neg c15] at H
                      have c15b0 : decide ((wrap64 (x11_2 - x10_2)) < 0) = false := decide_eq_false c15
                      clear c15
                      by_cases c16 : x10_2 ≥ (t392.length : Int)
                      · rw [if_pos c16] at H
                        have c16b0 : decide ((t392.length : Int) ≤ x10_2) = true := decide_eq_true c16
                        clear c16
                        obtain rfl := Option.some.inj H
                        have p398 : 0 ≤ (x11_2 : Int) := of_decide_eq_true (by first | (with_reducible assumption) | assumption)
                        have q398 : x11_2 < (l0.length : Int) := of_decide_eq_true (by first | (with_reducible assumption) | assumption)
                        obtain ⟨ad398, A398_4, c398_4, e398, hx398_0, hx398_1, hx398_2, hx398_3, hx398_4, hl398_4, hi398_4⟩ := at_T41 HR0.out x11_2 p398 q398
                        cases e398
                        replace hx398_0 := (HB.out.cell (World.block_lt_of_cell? w _ hx398_0)).trans hx398_0
                        replace hx398_1 := (HB.out.cell (World.block_lt_of_cell? w _ hx398_1)).trans hx398_1
                        replace hx398_2 := (HB.out.cell (World.block_lt_of_cell? w _ hx398_2)).trans hx398_2
                        replace hx398_3 := (HB.out.cell (World.block_lt_of_cell? w _ hx398_3)).trans hx398_3
                        replace hx398_4 := (HB.out.cell (World.block_lt_of_cell? w _ hx398_4)).trans hx398_4
                        have HR398_4 := Aside0.mk hi398_4
                        have HC398_4 := Aside0.mk hl398_4
                        clear hi398_4 hl398_4
                        replace p398 := eq_true p398
                        replace q398 := eq_true q398
                        obtain ⟨Ao17, co17, eo17⟩ := Kd.R_slice HO_8.out
                        subst eo17
                        go_wp2
                        go_ret
                        exact ⟨by first | rfl | (simp [errW_none, errW_some] <;> rfl) | (simp [*, errW_none, errW_some] <;> rfl), by repeat (first | (with_reducible first | exact HB.out | apply below_alloc | apply pw_below_drewN | apply below_drew1) | exact HB.out)⟩
                      · rw [if_neg c16] at H
                        have c16b0 : decide ((t392.length : Int) ≤ x10_2) = false := decide_eq_false c16
                        clear c16
                        by_cases c18 : 0 ≤ x10_2
                        · rw [if_pos c18] at H
                          have c18b0 : decide (0 ≤ x10_2) = true := decide_eq_true c18
                          clear c18
                          by_cases c19 : x10_2 < (t392.length : Int)
                          · rw [if_pos c19] at H
                            have c19b0 : decide (x10_2 < (t392.length : Int)) = true := decide_eq_true c19
                            clear c19
                            by_cases c20 : (rd t392 x10_2) = (wrap64 (x11_2 + 1))
                            · rw [if_pos c20] at H
                              have c20b0 : ((rd t392 x10_2) == (wrap64 (x11_2 + 1))) = true := beq_iff_eq.mpr c20
                              have c20b1 : ((rd t392 x10_2) != (wrap64 (x11_2 + 1))) = false := bne_eq_false_iff_eq.mpr c20
                              clear c20
                              have H' := Aside0.mk H
                              clear H
                              have p398 : 0 ≤ (x11_2 : Int) := of_decide_eq_true (by first | (with_reducible assumption) | assumption)
                              have q398 : x11_2 < (l0.length : Int) := of_decide_eq_true (by first | (with_reducible assumption) | assumption)
                              obtain ⟨ad398, A398_4, c398_4, e398, hx398_0, hx398_1, hx398_2, hx398_3, hx398_4, hl398_4, hi398_4⟩ := at_T41 HR0.out x11_2 p398 q398
                              cases e398
                              replace hx398_0 := (HB.out.cell (World.block_lt_of_cell? w _ hx398_0)).trans hx398_0
                              replace hx398_1 := (HB.out.cell (World.block_lt_of_cell? w _ hx398_1)).trans hx398_1
                              replace hx398_2 := (HB.out.cell (World.block_lt_of_cell? w _ hx398_2)).trans hx398_2
                              replace hx398_3 := (HB.out.cell (World.block_lt_of_cell? w _ hx398_3)).trans hx398_3
                              replace hx398_4 := (HB.out.cell (World.block_lt_of_cell? w _ hx398_4)).trans hx398_4
                              have HR398_4 := Aside0.mk hi398_4
                              have HC398_4 := Aside0.mk hl398_4
                              clear hi398_4 hl398_4
                              replace p398 := eq_true p398
                              replace q398 := eq_true q398
                              obtain ⟨Ao21, co21, eo21⟩ := Kd.R_slice HO_8.out
                              subst eo21
                              have p399 : 0 ≤ (x10_2 : Int) := of_decide_eq_true (by first | (with_reducible assumption) | assumption)
                              have q399 : x10_2 < (t392.length : Int) := of_decide_eq_true (by first | (with_reducible assumption) | assumption)
                              obtain ⟨ad399, e399, hx399_0⟩ := Kd.at_int (Kd.R_reads' HO_8.out).2.2 x10_2 p399 q399
                              cases e399
                              replace p399 := eq_true p399
                              replace q399 := eq_true q399
                              go_wp2
                              go_roundg k2
                              case measure => have := HK1.out; have := HK2.out; omega
                              case rel => exact ⟨(wrap64 (x10_2 + 1)), (wrap64 (x11_2 + 1)), (by first | rfl | (simp; done) | (simp [*]; done)), (by first | rfl | (simp; done) | (simp [*]; done)), H', ⟨by have := HK1.out; have := HK2.out; omega⟩, ⟨by (with_reducible repeat (first | apply Kd.R_alloc | apply Kd.R_drewN | apply Kd.R_drew)); exact HO_6.out⟩, ⟨by (with_reducible repeat (first | apply Kd.R_alloc | apply Kd.R_drewN | apply Kd.R_drew)); exact HO_8.out⟩, ⟨by (with_reducible repeat (first | apply Kd.R_alloc | apply Kd.R_drewN | apply Kd.R_drew)); exact HO_9.out⟩, ⟨by repeat (first | (with_reducible first | exact HB.out | apply below_alloc | apply pw_below_drewN | apply below_drew1) | exact HB.out)⟩⟩
                            · rw [if_neg c20] at H
                              have c20b0 : ((rd t392 x10_2) == (wrap64 (x11_2 + 1))) = false := beq_eq_false_iff_ne.mpr c20
                              have c20b1 : ((rd t392 x10_2) != (wrap64 (x11_2 + 1))) = true := bne_iff_ne.mpr c20
                              obtain rfl := Option.some.inj H
                              have p398 : 0 ≤ (x11_2 : Int) := of_decide_eq_true (by first | (with_reducible assumption) | assumption)
                              have q398 : x11_2 < (l0.length : Int) := of_decide_eq_true (by first | (with_reducible assumption) | assumption)
                              obtain ⟨ad398, A398_4, c398_4, e398, hx398_0, hx398_1, hx398_2, hx398_3, hx398_4, hl398_4, hi398_4⟩ := at_T41 HR0.out x11_2 p398 q398
                              cases e398
                              replace hx398_0 := (HB.out.cell (World.block_lt_of_cell? w _ hx398_0)).trans hx398_0
                              replace hx398_1 := (HB.out.cell (World.block_lt_of_cell? w _ hx398_1)).trans hx398_1
                              replace hx398_2 := (HB.out.cell (World.block_lt_of_cell? w _ hx398_2)).trans hx398_2
                              replace hx398_3 := (HB.out.cell (World.block_lt_of_cell? w _ hx398_3)).trans hx398_3
                              replace hx398_4 := (HB.out.cell (World.block_lt_of_cell? w _ hx398_4)).trans hx398_4
                              have HR398_4 := Aside0.mk hi398_4
                              have HC398_4 := Aside0.mk hl398_4
                              clear hi398_4 hl398_4
                              replace p398 := eq_true p398
                              replace q398 := eq_true q398
                              obtain ⟨Ao22, co22, eo22⟩ := Kd.R_slice HO_8.out
                              subst eo22
                              have p399 : 0 ≤ (x10_2 : Int) := of_decide_eq_true (by first | (with_reducible assumption) | assumption)
                              have q399 : x10_2 < (t392.length : Int) := of_decide_eq_true (by first | (with_reducible assumption) | assumption)
                              obtain ⟨ad399, e399, hx399_0⟩ := Kd.at_int (Kd.R_reads' HO_8.out).2.2 x10_2 p399 q399
                              cases e399
                              replace p399 := eq_true p399
                              replace q399 := eq_true q399
                              go_wp2
                              go_ret
                              exact ⟨by first | rfl | (simp [errW_none, errW_some] <;> rfl) | (simp [*, errW_none, errW_some] <;> rfl), by repeat (first | (with_reducible first | exact HB.out | apply below_alloc | apply pw_below_drewN | apply below_drew1) | exact HB.out)⟩
                          · rw [if_neg c19] at H
                            exact absurd H (by simp)
                        · rw [if_neg c18] at H
                          exact absurd H (by simp)
                  · rw [if_neg c14] at H
                    have c14b0 : decide (((rd_T41 l0 x11_2).f3) < 0) = false := decide_eq_false c14
                    clear c14
                    have H' := Aside0.mk H
                    clear H
                    have p398 : 0 ≤ (x11_2 : Int) := of_decide_eq_true (by first | (with_reducible assumption) | assumption)
                    have q398 : x11_2 < (l0.length : Int) := of_decide_eq_true (by first | (with_reducible assumption) | assumption)
                    obtain ⟨ad398, A398_4, c398_4, e398, hx398_0, hx398_1, hx398_2, hx398_3, hx398_4, hl398_4, hi398_4⟩ := at_T41 HR0.out x11_2 p398 q398
                    cases e398
                    replace hx398_0 := (HB.out.cell (World.block_lt_of_cell? w _ hx398_0)).trans hx398_0
                    replace hx398_1 := (HB.out.cell (World.block_lt_of_cell? w _ hx398_1)).trans hx398_1
                    replace hx398_2 := (HB.out.cell (World.block_lt_of_cell? w _ hx398_2)).trans hx398_2
                    replace hx398_3 := (HB.out.cell (World.block_lt_of_cell? w _ hx398_3)).trans hx398_3
                    replace hx398_4 := (HB.out.cell (World.block_lt_of_cell? w _ hx398_4)).trans hx398_4
                    have HR398_4 := Aside0.mk hi398_4
                    have HC398_4 := Aside0.mk hl398_4
                    clear hi398_4 hl398_4
                    replace p398 := eq_true p398
                    replace q398 := eq_true q398
                    go_wp2
                    go_roundg k2
                    case measure => have := HK1.out; have := HK2.out; omega
                    case rel => exact ⟨(x10_2), (wrap64 (x11_2 + 1)), (by first | rfl | (simp; done) | (simp [*]; done)), (by first | rfl | (simp; done) | (simp [*]; done)), H', ⟨by have := HK1.out; have := HK2.out; omega⟩, ⟨by (with_reducible repeat (first | apply Kd.R_alloc | apply Kd.R_drewN | apply Kd.R_drew)); exact HO_6.out⟩, ⟨by (with_reducible repeat (first | apply Kd.R_alloc | apply Kd.R_drewN | apply Kd.R_drew)); exact HO_8.out⟩, ⟨by (with_reducible repeat (first | apply Kd.R_alloc | apply Kd.R_drewN | apply Kd.R_drew)); exact HO_9.out⟩, ⟨by repeat (first | (with_reducible first | exact HB.out | apply below_alloc | apply pw_below_drewN | apply below_drew1) | exact HB.out)⟩⟩
                · rw [if_neg c13] at H
                  exact absurd H (by simp)
              · rw [if_neg c12] at H
                have c12b0 : decide (x11_2 < (l0.length : Int)) = false := decide_eq_false c12
                clear c12
                by_cases c23 : t385 = true
                · subst c23
                  have H1 : (if t389 = 0 then (if (t388.length : Int) = x4_1 then (if x10_2 = (t392.length : Int) then (some (decide ((wrap64 ((t392.length : Int) + (t393.length : Int))) ≤ (l0.length : Int)))) else (some false)) else (some false)) else (if (t388.length : Int) = 0 then (if x10_2 = (t392.length : Int) then (some (decide ((wrap64 ((t392.length : Int) + (t393.length : Int))) ≤ (l0.length : Int)))) else (some false)) else (some false))) = some r := by rw [if_pos rfl] at H; exact H
                  clear H
                  have H := H1
                  clear H1
                  by_cases c24 : t389 = 0
                  · rw [if_pos c24] at H
                    have c24b0 : (t389 == 0) = true := beq_iff_eq.mpr c24
                    have c24b1 : (t389 != 0) = false := bne_eq_false_iff_eq.mpr c24
                    clear c24
                    by_cases c25 : (t388.length : Int) = x4_1
                    · rw [if_pos c25] at H
                      have c25b0 : ((t388.length : Int) == x4_1) = true := beq_iff_eq.mpr c25
                      have c25b1 : ((t388.length : Int) != x4_1) = false := bne_eq_false_iff_eq.mpr c25
                      clear c25
                      by_cases c26 : x10_2 = (t392.length : Int)
                      · rw [if_pos c26] at H
                        have c26b0 : (x10_2 == (t392.length : Int)) = true := beq_iff_eq.mpr c26
                        have c26b1 : (x10_2 != (t392.length : Int)) = false := bne_eq_false_iff_eq.mpr c26
                        clear c26
                        obtain rfl := Option.some.inj H
                        obtain ⟨Ao27, co27, eo27⟩ := Kd.R_slice HO_6.out
                        subst eo27
                        obtain ⟨Ao28, co28, eo28⟩ := Kd.R_slice HO_8.out
                        subst eo28
                        obtain ⟨Ao29, co29, eo29⟩ := Kd.R_slice HO_9.out
                        subst eo29
                        go_wp2
                        go_ret
                        exact ⟨by first | rfl | (simp [errW_none, errW_some] <;> rfl) | (simp [*, errW_none, errW_some] <;> rfl), by repeat (first | (with_reducible first | exact HB.out | apply below_alloc | apply pw_below_drewN | apply below_drew1) | exact HB.out)⟩
                      · rw [if_neg c26] at H
                        have c26b0 : (x10_2 == (t392.length : Int)) = false := beq_eq_false_iff_ne.mpr c26
                        have c26b1 : (x10_2 != (t392.length : Int)) = true := bne_iff_ne.mpr c26
                        obtain rfl := Option.some.inj H
                        obtain ⟨Ao30, co30, eo30⟩ := Kd.R_slice HO_6.out
                        subst eo30
                        obtain ⟨Ao31, co31, eo31⟩ := Kd.R_slice HO_8.out
                        subst eo31
                        go_wp2
                        go_ret
                        exact ⟨by first | rfl | (simp [errW_none, errW_some] <;> rfl) | (simp [*, errW_none, errW_some] <;> rfl), by repeat (first | (with_reducible first | exact HB.out | apply below_alloc | apply pw_below_drewN | apply below_drew1) | exact HB.out)⟩
                    · rw [if_neg c25] at H
                      have c25b0 : ((t388.length : Int) == x4_1) = false := beq_eq_false_iff_ne.mpr c25
                      have c25b1 : ((t388.length : Int) != x4_1) = true := bne_iff_ne.mpr c25
                      obtain rfl := Option.some.inj H
                      obtain ⟨Ao32, co32, eo32⟩ := Kd.R_slice HO_6.out
                      subst eo32
                      go_wp2
                      go_ret
                      exact ⟨by first | rfl | (simp [errW_none, errW_some] <;> rfl) | (simp [*, errW_none, errW_some] <;> rfl), by repeat (first | (with_reducible first | exact HB.out | apply below_alloc | apply pw_below_drewN | apply below_drew1) | exact HB.out)⟩
                  · rw [if_neg c24] at H
                    have c24b0 : (t389 == 0) = false := beq_eq_false_iff_ne.mpr c24
                    have c24b1 : (t389 != 0) = true := bne_iff_ne.mpr c24
                    by_cases c33 : (t388.length : Int) = 0
                    · rw [if_pos c33] at H
                      have c33b0 : ((t388.length : Int) == 0) = true := beq_iff_eq.mpr c33
                      have c33b1 : ((t388.length : Int) != 0) = false := bne_eq_false_iff_eq.mpr c33
                      clear c33
                      by_cases c34 : x10_2 = (t392.length : Int)
                      · rw [if_pos c34] at H
                        have c34b0 : (x10_2 == (t392.length : Int)) = true := beq_iff_eq.mpr c34
                        have c34b1 : (x10_2 != (t392.length : Int)) = false := bne_eq_false_iff_eq.mpr c34
                        clear c34
                        obtain rfl := Option.some.inj H
                        obtain ⟨Ao35, co35, eo35⟩ := Kd.R_slice HO_6.out
                        subst eo35
                        obtain ⟨Ao36, co36, eo36⟩ := Kd.R_slice HO_8.out
                        subst eo36
                        obtain ⟨Ao37, co37, eo37⟩ := Kd.R_slice HO_9.out
                        subst eo37
                        go_wp2
                        go_ret
                        exact ⟨by first | rfl | (simp [errW_none, errW_some] <;> rfl) | (simp [*, errW_none, errW_some] <;> rfl), by repeat (first | (with_reducible first | exact HB.out | apply below_alloc | apply pw_below_drewN | apply below_drew1) | exact HB.out)⟩
                      · rw [if_neg c34] at H
                        have c34b0 : (x10_2 == (t392.length : Int)) = false := beq_eq_false_iff_ne.mpr c34
                        have c34b1 : (x10_2 != (t392.length : Int)) = true := bne_iff_ne.mpr c34
                        obtain rfl := Option.some.inj H
                        obtain ⟨Ao38, co38, eo38⟩ := Kd.R_slice HO_6.out
                        subst eo38
                        obtain ⟨Ao39, co39, eo39⟩ := Kd.R_slice HO_8.out
                        subst eo39
                        go_wp2
                        go_ret
                        exact ⟨by first | rfl | (simp [errW_none, errW_some] <;> rfl) | (simp [*, errW_none, errW_some] <;> rfl), by repeat (first | (with_reducible first | exact HB.out | apply below_alloc | apply pw_below_drewN | apply below_drew1) | exact HB.out)⟩
                    · rw [if_neg c33] at H
                      have c33b0 : ((t388.length : Int) == 0) = false := beq_eq_false_iff_ne.mpr c33
                      have c33b1 : ((t388.length : Int) != 0) = true := bne_iff_ne.mpr c33
                      have c33b2 : ¬ (t388 = []) := fun h_ => c33 (by rw [h_]; rfl)
                      obtain rfl := Option.some.inj H
                      obtain ⟨Ao40, co40, eo40⟩ := Kd.R_slice HO_6.out
                      subst eo40
                      go_wp2
                      go_ret
                      exact ⟨by first | rfl | (simp [errW_none, errW_some] <;> rfl) | (simp [*, errW_none, errW_some] <;> rfl), by repeat (first | (with_reducible first | exact HB.out | apply below_alloc | apply pw_below_drewN | apply below_drew1) | exact HB.out)⟩
                · replace c23 := Bool.eq_false_iff.mpr c23
                  subst c23
                  have H1 : (some false) = some r := by rw [if_neg (show ¬ (false = true) by decide)] at H; exact H
                  clear H
                  have H := H1
                  clear H1
                  obtain rfl := Option.some.inj H
                  go_wp2
                  go_ret
                  exact ⟨by first | rfl | (simp [errW_none, errW_some] <;> rfl) | (simp [*, errW_none, errW_some] <;> rfl), by repeat (first | (with_reducible first | exact HB.out | apply below_alloc | apply pw_below_drewN | apply below_drew1) | exact HB.out)⟩
  · replace c4 := Bool.eq_false_iff.mpr c4
    subst c4
    have H1 : (some t385) = some r := by rw [if_neg (show ¬ (false = true) by decide)] at H; exact H
    clear H
    have H := H1
    clear H1
    obtain rfl := Option.some.inj H
    go_enter Try.func6, Try.ntmps6
    go_wp2_with (first | ((with_reducible refine gate_callee (f := 7) rfl ?_); refine goesL_ (some 12) rfl rfl Try.func7 (by kernel_rfl) rfl #[] rfl (by (try simp only [List.map_toArray, List.map_cons, List.map_nil]); first | done | rfl | (simp only [List.length_drop, List.length_take]; rfl)) ?_; (with_reducible refine (compositorlaw23_awake.calls k  t385 _ A2.out).mono ?_); rintro e w41 ⟨rfl, hb⟩; refine ⟨_, rfl, ?_⟩; have n0_ := Aside0.mk (below_step (by repeat (first | (with_reducible first | exact HB.out | apply below_alloc | apply pw_below_drewN | apply below_drew1) | exact HB.out)) hb); clear HB; have HB := n0_; clear n0_; (try clear hb); (try clear hb2); (try clear hk); (try clear hi)) | ((with_reducible refine gate_callee (f := 8) rfl ?_); refine goesL_ (some 14) rfl rfl Try.func8 (by kernel_rfl) rfl #[.slice A0 l0.length c0] rfl (by (try simp only [List.map_toArray, List.map_cons, List.map_nil]); first | done | rfl | (simp only [List.length_drop, List.length_take]; rfl)) ?_; (with_reducible refine (compositorref23_Few.calls k _ _ l0 false _ ?side1 ?side2 A3.out).mono ?_); (case side1 => repeat (first | exact (Kd.C_below HR0.out HB.out) | (with_reducible refine Kd.C_alloc ?_ _) | (with_reducible refine Kd.C_drewN ?_ _) | (with_reducible refine Kd.C_drew ?_))); (case side2 => exact HC0.out); rintro e w' ⟨rfl, ⟨nd, rfl⟩⟩; refine ⟨_, rfl, ?_⟩))
    go_ret
    exact ⟨by first | rfl | (simp [errW_none, errW_some] <;> rfl) | (simp [*, errW_none, errW_some] <;> rfl), by repeat (first | (with_reducible first | exact HB.out | apply below_alloc | apply pw_below_drewN | apply below_drew1) | exact HB.out)⟩

end Go.Proofs.Ythlhfnbaihdjkaa.Q
