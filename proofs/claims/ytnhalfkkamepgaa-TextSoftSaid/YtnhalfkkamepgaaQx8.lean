-- WRITTEN BY A PROGRAM OF THIS SESSION (wip/gprint.py) OVER THE KIT'S PRINT, some functions given by hand
import Derived.Test.YtnhalfkkamepgaaQx0
import Derived.Test.YtnhalfkkamepgaaQx1
import Derived.Test.YtnhalfkkamepgaaQx5
import Derived.Test.YtnhalfkkamepgaaQRead
import Derived.Test.YtnhalfkkamepgaaQWrite
namespace Go.Proofs.Ytnhalfkkamepgaa.Q
open Go.RowKit Go.Proofs.YtnhalfkkamepgaaW.PrintWords Go.Proofs.YtnhalfkkamepgaaW.PrintLast Go.Proofs.YtnhalfkkamepgaaW.PrintMore
attribute [local go_sem] max2_int min2_int max_two min_two max_three min_three max_four min_four   -- for this text's walks alone
set_option linter.unusedVariables false
set_option linter.unusedSimpArgs false

/-! ### compositorlaw13_TextSoft: function 7 -/
mutual
def compositorlaw13_TextSoft.l0 : Nat → List (S36) → Bool → List Int → List Int → Int → Option (Bool)
  | 0, _, _, _, _, _ => none
  | k + 1, x0, x3, x4, x6, x7 => if x7 < (x4.length : Int) then (if 0 ≤ x7 then (if (rd x4 x7) = 194 then (compositorlaw13_TextSoft.l0 k x0 x3 x4 x6 (wrap64 (x7 + 1))) else (if (rd x4 x7) = 173 then (compositorlaw13_TextSoft.l0 k x0 x3 x4 x6 (wrap64 (x7 + 1))) else (if x6.length < 140737488355328 then (compositorlaw13_TextSoft.l0 k x0 x3 x4 (x6 ++ [rd x4 x7]) (wrap64 (x7 + 1))) else (none)))) else (none)) else ((text_Read.f x6).bind fun bt340 => (if bt340.2 = 0 then (compositorlaw13_TextSoft.j1 k x0 x3 bt340.1 ((bt340.1.length : Int) != (x0.length : Int))) else (compositorlaw13_TextSoft.j1 k x0 x3 bt340.1 true)))
def compositorlaw13_TextSoft.j1 : Nat → List (S36) → Bool → List (S36) → Bool → Option (Bool)
  | 0, _, _, _, _ => none
  | k + 1, x0, x3, x8, x66 => if x66 = true then (some false) else (compositorlaw13_TextSoft.l1 k x0 x3 x8 0)
def compositorlaw13_TextSoft.l1 : Nat → List (S36) → Bool → List (S36) → Int → Option (Bool)
  | 0, _, _, _, _ => none
  | k + 1, x0, x3, x8, x10 => if x10 < (x8.length : Int) then (if 0 ≤ x10 then (if (((rd_T36 x8 x10).f1).length : Int) > 0 then (some false) else (if x10 < (x0.length : Int) then ((compositorref04_Same.f k ((rd_T36 x8 x10).f0) ((rd_T36 x0 x10).f0)).bind fun t347 => (if t347 = true then (compositorlaw13_TextSoft.l1 k x0 x3 x8 (wrap64 (x10 + 1))) else (some false))) else (none))) else (none)) else (some x3)
end
def compositorlaw13_TextSoft.f (k : Nat) (l0 : List (S36)) : Option (Bool) := (compositorlaw13_awake.f k).bind fun t328 => ((compositorref13_Few.f k l0).bind fun t329 => (if t329 = true then ((text_Write.f l0).bind fun bt330 => (if bt330.2 = 0 then (compositorlaw13_TextSoft.l0 k l0 t328 bt330.1 ([] : List Int) 0) else (if t328 = true then (some (bt330.2 == 130)) else (some false)))) else (some t328)))
theorem compositorlaw13_TextSoft.mono_l : ∀ k, (∀ y0 y1 y2 y3 y4, LeO (compositorlaw13_TextSoft.l0 k y0 y1 y2 y3 y4) (compositorlaw13_TextSoft.l0 (k + 1) y0 y1 y2 y3 y4)) ∧ (∀ y0 y1 y2 y3, LeO (compositorlaw13_TextSoft.j1 k y0 y1 y2 y3) (compositorlaw13_TextSoft.j1 (k + 1) y0 y1 y2 y3)) ∧ (∀ y0 y1 y2 y3, LeO (compositorlaw13_TextSoft.l1 k y0 y1 y2 y3) (compositorlaw13_TextSoft.l1 (k + 1) y0 y1 y2 y3))
  | 0 => ⟨fun _ _ _ _ _ r h => by simp [compositorlaw13_TextSoft.l0] at h, fun _ _ _ _ r h => by simp [compositorlaw13_TextSoft.j1] at h, fun _ _ _ _ r h => by simp [compositorlaw13_TextSoft.l1] at h⟩
  | k + 1 => by
    obtain ⟨ih0, ih1, ih2⟩ := compositorlaw13_TextSoft.mono_l k
    refine ⟨?_, ?_, ?_⟩
    · intro y0 y1 y2 y3 y4
      unfold compositorlaw13_TextSoft.l0
      repeat' first
      | (with_reducible exact ih0 _ _ _ _ _)
      | (with_reducible exact ih1 _ _ _ _)
      | (with_reducible exact ih2 _ _ _ _)
      | (with_reducible exact compositorlaw13_awake.mono _)
      | (with_reducible exact compositorref04_Same.mono _ _ _)
      | (with_reducible exact compositorref13_Few.mono _ _)
      | (with_reducible exact LeO.refl _)
      | (with_reducible exact LeO.none _)
      | (with_reducible refine LeO.ite ?_ ?_)
      | (with_reducible refine LeO.bind ?_ (fun _ => ?_))
      | exact ih0 _ _ _ _ _
      | exact ih1 _ _ _ _
      | exact ih2 _ _ _ _
      | exact compositorlaw13_awake.mono _
      | exact compositorref04_Same.mono _ _ _
      | exact compositorref13_Few.mono _ _
      | exact LeO.none _
      | refine LeO.ite ?_ ?_
      | refine LeO.bind ?_ (fun _ => ?_)
    · intro y0 y1 y2 y3
      unfold compositorlaw13_TextSoft.j1
      repeat' first
      | (with_reducible exact ih0 _ _ _ _ _)
      | (with_reducible exact ih1 _ _ _ _)
      | (with_reducible exact ih2 _ _ _ _)
      | (with_reducible exact compositorlaw13_awake.mono _)
      | (with_reducible exact compositorref04_Same.mono _ _ _)
      | (with_reducible exact compositorref13_Few.mono _ _)
      | (with_reducible exact LeO.refl _)
      | (with_reducible exact LeO.none _)
      | (with_reducible refine LeO.ite ?_ ?_)
      | (with_reducible refine LeO.bind ?_ (fun _ => ?_))
      | exact ih0 _ _ _ _ _
      | exact ih1 _ _ _ _
      | exact ih2 _ _ _ _
      | exact compositorlaw13_awake.mono _
      | exact compositorref04_Same.mono _ _ _
      | exact compositorref13_Few.mono _ _
      | exact LeO.none _
      | refine LeO.ite ?_ ?_
      | refine LeO.bind ?_ (fun _ => ?_)
    · intro y0 y1 y2 y3
      unfold compositorlaw13_TextSoft.l1
      repeat' first
      | (with_reducible exact ih0 _ _ _ _ _)
      | (with_reducible exact ih1 _ _ _ _)
      | (with_reducible exact ih2 _ _ _ _)
      | (with_reducible exact compositorlaw13_awake.mono _)
      | (with_reducible exact compositorref04_Same.mono _ _ _)
      | (with_reducible exact compositorref13_Few.mono _ _)
      | (with_reducible exact LeO.refl _)
      | (with_reducible exact LeO.none _)
      | (with_reducible refine LeO.ite ?_ ?_)
      | (with_reducible refine LeO.bind ?_ (fun _ => ?_))
      | exact ih0 _ _ _ _ _
      | exact ih1 _ _ _ _
      | exact ih2 _ _ _ _
      | exact compositorlaw13_awake.mono _
      | exact compositorref04_Same.mono _ _ _
      | exact compositorref13_Few.mono _ _
      | exact LeO.none _
      | refine LeO.ite ?_ ?_
      | refine LeO.bind ?_ (fun _ => ?_)
theorem compositorlaw13_TextSoft.mono : ∀ a0 k, LeO (compositorlaw13_TextSoft.f k a0) (compositorlaw13_TextSoft.f (k + 1) a0) := by
  intro a0 k
  obtain ⟨ih0, ih1, ih2⟩ := compositorlaw13_TextSoft.mono_l k
  unfold compositorlaw13_TextSoft.f
  repeat' first
      | (with_reducible exact ih0 _ _ _ _ _)
      | (with_reducible exact ih1 _ _ _ _)
      | (with_reducible exact ih2 _ _ _ _)
      | (with_reducible exact compositorlaw13_awake.mono _)
      | (with_reducible exact compositorref04_Same.mono _ _ _)
      | (with_reducible exact compositorref13_Few.mono _ _)
      | (with_reducible exact LeO.refl _)
      | (with_reducible exact LeO.none _)
      | (with_reducible refine LeO.ite ?_ ?_)
      | (with_reducible refine LeO.bind ?_ (fun _ => ?_))
      | exact ih0 _ _ _ _ _
      | exact ih1 _ _ _ _
      | exact ih2 _ _ _ _
      | exact compositorlaw13_awake.mono _
      | exact compositorref04_Same.mono _ _ _
      | exact compositorref13_Few.mono _ _
      | exact LeO.none _
      | refine LeO.ite ?_ ?_
      | refine LeO.bind ?_ (fun _ => ?_)
set_option maxHeartbeats 8000000 in
set_option maxRecDepth 100000 in
theorem compositorlaw13_TextSoft.calls (k : Nat) (A0 : Option Addr) (c0 : Nat) (l0 : List (S36)) (r : Bool) (w : World) (hr0 : Kd.C k36 w A0 l0.length l0) (hc0 : l0.length ≤ c0) (h : compositorlaw13_TextSoft.f k l0 = some r) :
    Calls Try.prog 7 #[.slice A0 l0.length c0] w fun e w' => e = .returned (.bool r) ∧ Below w.heap.size w w' := by
  have HR0 := Aside0.mk hr0
  have HC0 := Aside0.mk hc0
  clear hr0 hc0
  have HB := Aside0.mk (Below.refl w.heap.size w)
  have H : ((compositorlaw13_awake.f k).bind fun t328 => ((compositorref13_Few.f k l0).bind fun t329 => (if t329 = true then ((text_Write.f l0).bind fun bt330 => (if bt330.2 = 0 then (compositorlaw13_TextSoft.l0 k l0 t328 bt330.1 ([] : List Int) 0) else (if t328 = true then (some (bt330.2 == 130)) else (some false)))) else (some t328)))) = some r := h
  clear h
  replace H := Option.bind_eq_some_iff.mp H
  obtain ⟨t328, A20, H⟩ := H
  replace H : ((compositorref13_Few.f k l0).bind fun t329 => (if t329 = true then ((text_Write.f l0).bind fun bt330 => (if bt330.2 = 0 then (compositorlaw13_TextSoft.l0 k l0 t328 bt330.1 ([] : List Int) 0) else (if t328 = true then (some (bt330.2 == 130)) else (some false)))) else (some t328))) = some r := H
  have A2 := Aside0.mk A20
  clear A20
  replace H := Option.bind_eq_some_iff.mp H
  obtain ⟨t329, A30, H⟩ := H
  replace H : (if t329 = true then ((text_Write.f l0).bind fun bt330 => (if bt330.2 = 0 then (compositorlaw13_TextSoft.l0 k l0 t328 bt330.1 ([] : List Int) 0) else (if t328 = true then (some (bt330.2 == 130)) else (some false)))) else (some t328)) = some r := H
  have A3 := Aside0.mk A30
  clear A30
  by_cases c4 : t329 = true
  · subst c4
    have H1 : ((text_Write.f l0).bind fun bt330 => (if bt330.2 = 0 then (compositorlaw13_TextSoft.l0 k l0 t328 bt330.1 ([] : List Int) 0) else (if t328 = true then (some (bt330.2 == 130)) else (some false)))) = some r := by rw [if_pos rfl] at H; exact H
    clear H
    have H := H1
    clear H1
    replace H := Option.bind_eq_some_iff.mp H
    obtain ⟨⟨t330, t331⟩, A50, H⟩ := H
    replace H : (if t331 = 0 then (compositorlaw13_TextSoft.l0 k l0 t328 t330 ([] : List Int) 0) else (if t328 = true then (some (t331 == 130)) else (some false))) = some r := H
    have A5 := Aside0.mk A50
    clear A50
    by_cases c6 : t331 = 0
    · rw [if_pos c6] at H
      have c6b0 : (t331 == 0) = true := beq_iff_eq.mpr c6
      have c6b1 : (t331 != 0) = false := bne_eq_false_iff_eq.mpr c6
      clear c6
      have H' := Aside0.mk H
      clear H
      go_enter Try.func7, Try.ntmps7
      go_wp2_with (first | (go_at_call 10; (with_reducible refine (compositorlaw13_awake.calls k  t328 _ A2.out).mono ?_); rintro e w7 ⟨rfl, hb⟩; have n0_ := Aside0.mk (below_step (by repeat (first | (with_reducible first | exact HB.out | apply below_alloc | apply pw_below_drewN | apply below_drew1) | exact HB.out)) hb); clear HB; have HB := n0_; clear n0_; (try clear hb); (try clear hb2); (try clear hk); (try clear hi)) | (go_at_call 14; (with_reducible refine (compositorref13_Few.calls k _ _ l0 true _ ?side1 ?side2 A3.out).mono ?_); (case side1 => repeat (first | exact (Kd.C_below HR0.out HB.out) | (with_reducible refine Kd.C_alloc ?_ _) | (with_reducible refine Kd.C_drewN ?_ _) | (with_reducible refine Kd.C_drew ?_))); (case side2 => exact HC0.out); rintro e w' ⟨rfl, ⟨nd, rfl⟩⟩; (try first | exact ⟨rfl, _, World.drewN_drewN _ _ _⟩ | exact ⟨rfl, _, Eq.trans (World.drewN_drewN _ _ _) (congrArg (World.drewN _) (Nat.add_assoc _ _ _))⟩)) | (go_at_call 15; (with_reducible refine (text_Write.calls _ _ l0 t330 t331 _ ?side1 ?side2 A5.out).mono ?_); (case side1 => repeat (first | exact (Kd.C_below HR0.out (by repeat (first | (with_reducible first | exact HB.out | apply below_alloc | apply pw_below_drewN | apply below_drew1) | exact HB.out))) | (with_reducible refine Kd.C_alloc ?_ _) | (with_reducible refine Kd.C_drewN ?_ _) | (with_reducible refine Kd.C_drew ?_))); (case side2 => exact HC0.out); rintro e w8 ⟨v332, rfl, ho0, hb⟩; have n0_ := Aside0.mk (Kd.R_lower ho0 (below_size (by repeat (first | (with_reducible first | exact HB.out | apply below_alloc | apply pw_below_drewN | apply below_drew1) | exact HB.out)))); have n1_ := Aside0.mk (below_step (by repeat (first | (with_reducible first | exact HB.out | apply below_alloc | apply pw_below_drewN | apply below_drew1) | exact HB.out)) hb); clear HB; have HO333 := n0_; have HB := n1_; clear n0_ n1_; (try clear hb); (try clear hb2); (try clear hk); (try clear hi); (try clear ho0)))
      repeat (go_quiet (first | (go_at_call 10; (with_reducible refine (compositorlaw13_awake.calls k  t328 _ A2.out).mono ?_); rintro e w7 ⟨rfl, hb⟩; have n0_ := Aside0.mk (below_step (by repeat (first | (with_reducible first | exact HB.out | apply below_alloc | apply pw_below_drewN | apply below_drew1) | exact HB.out)) hb); clear HB; have HB := n0_; clear n0_; (try clear hb); (try clear hb2); (try clear hk); (try clear hi)) | (go_at_call 14; (with_reducible refine (compositorref13_Few.calls k _ _ l0 true _ ?side1 ?side2 A3.out).mono ?_); (case side1 => repeat (first | exact (Kd.C_below HR0.out HB.out) | (with_reducible refine Kd.C_alloc ?_ _) | (with_reducible refine Kd.C_drewN ?_ _) | (with_reducible refine Kd.C_drew ?_))); (case side2 => exact HC0.out); rintro e w' ⟨rfl, ⟨nd, rfl⟩⟩; (try first | exact ⟨rfl, _, World.drewN_drewN _ _ _⟩ | exact ⟨rfl, _, Eq.trans (World.drewN_drewN _ _ _) (congrArg (World.drewN _) (Nat.add_assoc _ _ _))⟩)) | (go_at_call 15; (with_reducible refine (text_Write.calls _ _ l0 t330 t331 _ ?side1 ?side2 A5.out).mono ?_); (case side1 => repeat (first | exact (Kd.C_below HR0.out (by repeat (first | (with_reducible first | exact HB.out | apply below_alloc | apply pw_below_drewN | apply below_drew1) | exact HB.out))) | (with_reducible refine Kd.C_alloc ?_ _) | (with_reducible refine Kd.C_drewN ?_ _) | (with_reducible refine Kd.C_drew ?_))); (case side2 => exact HC0.out); rintro e w8 ⟨v332, rfl, ho0, hb⟩; have n0_ := Aside0.mk (Kd.R_lower ho0 (below_size (by repeat (first | (with_reducible first | exact HB.out | apply below_alloc | apply pw_below_drewN | apply below_drew1) | exact HB.out)))); have n1_ := Aside0.mk (below_step (by repeat (first | (with_reducible first | exact HB.out | apply below_alloc | apply pw_below_drewN | apply below_drew1) | exact HB.out)) hb); clear HB; have HO333 := n0_; have HB := n1_; clear n0_ n1_; (try clear hb); (try clear hb2); (try clear hk); (try clear hi); (try clear ho0))); try go_wp2_with (first | (go_at_call 10; (with_reducible refine (compositorlaw13_awake.calls k  t328 _ A2.out).mono ?_); rintro e w7 ⟨rfl, hb⟩; have n0_ := Aside0.mk (below_step (by repeat (first | (with_reducible first | exact HB.out | apply below_alloc | apply pw_below_drewN | apply below_drew1) | exact HB.out)) hb); clear HB; have HB := n0_; clear n0_; (try clear hb); (try clear hb2); (try clear hk); (try clear hi)) | (go_at_call 14; (with_reducible refine (compositorref13_Few.calls k _ _ l0 true _ ?side1 ?side2 A3.out).mono ?_); (case side1 => repeat (first | exact (Kd.C_below HR0.out HB.out) | (with_reducible refine Kd.C_alloc ?_ _) | (with_reducible refine Kd.C_drewN ?_ _) | (with_reducible refine Kd.C_drew ?_))); (case side2 => exact HC0.out); rintro e w' ⟨rfl, ⟨nd, rfl⟩⟩; (try first | exact ⟨rfl, _, World.drewN_drewN _ _ _⟩ | exact ⟨rfl, _, Eq.trans (World.drewN_drewN _ _ _) (congrArg (World.drewN _) (Nat.add_assoc _ _ _))⟩)) | (go_at_call 15; (with_reducible refine (text_Write.calls _ _ l0 t330 t331 _ ?side1 ?side2 A5.out).mono ?_); (case side1 => repeat (first | exact (Kd.C_below HR0.out (by repeat (first | (with_reducible first | exact HB.out | apply below_alloc | apply pw_below_drewN | apply below_drew1) | exact HB.out))) | (with_reducible refine Kd.C_alloc ?_ _) | (with_reducible refine Kd.C_drewN ?_ _) | (with_reducible refine Kd.C_drew ?_))); (case side2 => exact HC0.out); rintro e w8 ⟨v332, rfl, ho0, hb⟩; have n0_ := Aside0.mk (Kd.R_lower ho0 (below_size (by repeat (first | (with_reducible first | exact HB.out | apply below_alloc | apply pw_below_drewN | apply below_drew1) | exact HB.out)))); have n1_ := Aside0.mk (below_step (by repeat (first | (with_reducible first | exact HB.out | apply below_alloc | apply pw_below_drewN | apply below_drew1) | exact HB.out)) hb); clear HB; have HO333 := n0_; have HB := n1_; clear n0_ n1_; (try clear hb); (try clear hb2); (try clear hk); (try clear hi); (try clear ho0))))
      go_loopg [6, 7] k (fun kq v6 v7 w' => ∃ (x6_1 : List Int) (x7_1 : Int), v7 = .int .i64 x7_1 ∧ Aside0 (compositorlaw13_TextSoft.l0 kq l0 t328 t330 x6_1 x7_1 = some r) ∧ Aside0 (kq ≤ k) ∧ Aside0 (Kd.R (Kd.int .u8) 5 w' w.heap.size (fun k_ => some k_ ≠ (v6 : Value).ownBlock) v332 t330) ∧ Aside0 (Kd.R (Kd.int .u8) 5 w' w.heap.size (fun k_ => some k_ ≠ (v332 : Value).ownBlock) v6 x6_1) ∧ Aside0 (Below w.heap.size w w'))
      case atStart => exact ⟨(([] : List Int)), (0), (by first | rfl | (simp; done) | (simp [*]; done)), H', ⟨Nat.le_refl _⟩, ⟨by (with_reducible repeat (first | apply Kd.R_alloc | apply Kd.R_drewN | apply Kd.R_drew)); exact Kd.R_mono HO333.out (fun _ hk => (by simp [Value.ownBlock]))⟩, ⟨by first | exact Kd.R_nil _ _ _ _ _ | exact Kd.N_nil _ _ _ _ _ | exact Kd.V_nil _ _ _ _ _ | exact Kd.Q_nil _ _ _ _ _ | exact Kd.S_nil _ _ _ _ _⟩, ⟨by repeat (first | (with_reducible first | exact HB.out | apply below_alloc | apply pw_below_drewN | apply below_drew1) | exact HB.out)⟩⟩
      case round =>
        clear H'
        try clear p2
        try clear c4
        try clear c6
        try clear c6b0
        try clear c6b1
        try clear c7
        obtain ⟨x6_1, x7_1, rfl, HA, HK1, HO_4, HO_6, HB⟩ := hrel
        cases gk with
        | zero => exact absurd HA.out (by simp [compositorlaw13_TextSoft.l0])
        | succ k1 =>
          have H := HA.out
          clear HA
          simp only [compositorlaw13_TextSoft.l0] at H
          by_cases c9 : x7_1 < (t330.length : Int)
          · rw [if_pos c9] at H
            have c9b0 : decide (x7_1 < (t330.length : Int)) = true := decide_eq_true c9
            clear c9
            by_cases c10 : 0 ≤ x7_1
            · rw [if_pos c10] at H
              have c10b0 : decide (0 ≤ x7_1) = true := decide_eq_true c10
              clear c10
              by_cases c11 : (rd t330 x7_1) = 194
              · rw [if_pos c11] at H
                have c11b0 : ((rd t330 x7_1) == 194) = true := beq_iff_eq.mpr c11
                have c11b1 : ((rd t330 x7_1) != 194) = false := bne_eq_false_iff_eq.mpr c11
                clear c11
                have H' := Aside0.mk H
                clear H
                obtain ⟨Ao12, co12, eo12⟩ := Kd.R_slice HO_4.out
                subst eo12
                have p334 : 0 ≤ (x7_1 : Int) := of_decide_eq_true (by first | (with_reducible assumption) | assumption)
                have q334 : x7_1 < (t330.length : Int) := of_decide_eq_true (by first | (with_reducible assumption) | assumption)
                obtain ⟨ad334, e334, hx334_0⟩ := Kd.at_int (Kd.R_reads' HO_4.out).2.2 x7_1 p334 q334
                cases e334
                replace p334 := eq_true p334
                replace q334 := eq_true q334
                go_wp2
                repeat (go_quiet (fail); try go_wp2)
                go_roundg k1
                case measure => have := HK1.out; omega
                case rel => exact ⟨(x6_1), (wrap64 (x7_1 + 1)), (by first | rfl | (simp; done) | (simp [*]; done)), H', ⟨by have := HK1.out; omega⟩, ⟨by (with_reducible repeat (first | apply Kd.R_alloc | apply Kd.R_drewN | apply Kd.R_drew)); exact HO_4.out⟩, ⟨by (with_reducible repeat (first | apply Kd.R_alloc | apply Kd.R_drewN | apply Kd.R_drew)); exact HO_6.out⟩, ⟨by repeat (first | (with_reducible first | exact HB.out | apply below_alloc | apply pw_below_drewN | apply below_drew1) | exact HB.out)⟩⟩
              · rw [if_neg c11] at H
                have c11b0 : ((rd t330 x7_1) == 194) = false := beq_eq_false_iff_ne.mpr c11
                have c11b1 : ((rd t330 x7_1) != 194) = true := bne_iff_ne.mpr c11
                by_cases c13 : (rd t330 x7_1) = 173
                · rw [if_pos c13] at H
                  have c13b0 : ((rd t330 x7_1) == 173) = true := beq_iff_eq.mpr c13
                  have c13b1 : ((rd t330 x7_1) != 173) = false := bne_eq_false_iff_eq.mpr c13
                  clear c13
                  have H' := Aside0.mk H
                  clear H
                  obtain ⟨Ao14, co14, eo14⟩ := Kd.R_slice HO_4.out
                  subst eo14
                  have p334 : 0 ≤ (x7_1 : Int) := of_decide_eq_true (by first | (with_reducible assumption) | assumption)
                  have q334 : x7_1 < (t330.length : Int) := of_decide_eq_true (by first | (with_reducible assumption) | assumption)
                  obtain ⟨ad334, e334, hx334_0⟩ := Kd.at_int (Kd.R_reads' HO_4.out).2.2 x7_1 p334 q334
                  cases e334
                  replace p334 := eq_true p334
                  replace q334 := eq_true q334
                  have p335 : 0 ≤ (x7_1 : Int) := of_decide_eq_true (by first | (with_reducible assumption) | assumption)
                  have q335 : x7_1 < (t330.length : Int) := of_decide_eq_true (by first | (with_reducible assumption) | assumption)
                  obtain ⟨ad335, e335, hx335_0⟩ := Kd.at_int (Kd.R_reads' HO_4.out).2.2 x7_1 p335 q335
                  obtain rfl : ad334 = ad335 := (by injection e335)
                  replace p335 := eq_true p335
                  replace q335 := eq_true q335
                  go_wp2
                  repeat (go_quiet (fail); try go_wp2)
                  go_roundg k1
                  case measure => have := HK1.out; omega
                  case rel => exact ⟨(x6_1), (wrap64 (x7_1 + 1)), (by first | rfl | (simp; done) | (simp [*]; done)), H', ⟨by have := HK1.out; omega⟩, ⟨by (with_reducible repeat (first | apply Kd.R_alloc | apply Kd.R_drewN | apply Kd.R_drew)); exact HO_4.out⟩, ⟨by (with_reducible repeat (first | apply Kd.R_alloc | apply Kd.R_drewN | apply Kd.R_drew)); exact HO_6.out⟩, ⟨by repeat (first | (with_reducible first | exact HB.out | apply below_alloc | apply pw_below_drewN | apply below_drew1) | exact HB.out)⟩⟩
                · rw [if_neg c13] at H
                  have c13b0 : ((rd t330 x7_1) == 173) = false := beq_eq_false_iff_ne.mpr c13
                  have c13b1 : ((rd t330 x7_1) != 173) = true := bne_iff_ne.mpr c13
                  by_cases c15 : x6_1.length < 140737488355328
                  · rw [if_pos c15] at H
                    have LMc15 := Aside0.mk c15
                    clear c15
                    obtain ⟨y337, hy337⟩ : ∃ y_ : List Int, y_ = (x6_1 ++ [rd t330 x7_1]) := ⟨_, rfl⟩
                    replace H : (compositorlaw13_TextSoft.l0 k1 l0 t328 t330 y337 (wrap64 (x7_1 + 1))) = some r := by first | (rw [hy337]; with_reducible exact H) | (have H2_ := (Option.bind_some _ _).symm.trans H; rw [hy337]; with_reducible exact H2_) | (have H2_ := (Option.bind_some _ _).symm.trans H; with_reducible exact H2_) | with_reducible exact H | (rw [hy337]; exact H) | exact H
                    have Ny337 := Aside0.mk hy337
                    clear hy337
                    have H' := Aside0.mk H
                    clear H
                    obtain ⟨Ao16, co16, eo16⟩ := Kd.R_slice HO_4.out
                    subst eo16
                    have p334 : 0 ≤ (x7_1 : Int) := of_decide_eq_true (by first | (with_reducible assumption) | assumption)
                    have q334 : x7_1 < (t330.length : Int) := of_decide_eq_true (by first | (with_reducible assumption) | assumption)
                    obtain ⟨ad334, e334, hx334_0⟩ := Kd.at_int (Kd.R_reads' HO_4.out).2.2 x7_1 p334 q334
                    cases e334
                    replace p334 := eq_true p334
                    replace q334 := eq_true q334
                    have p335 : 0 ≤ (x7_1 : Int) := of_decide_eq_true (by first | (with_reducible assumption) | assumption)
                    have q335 : x7_1 < (t330.length : Int) := of_decide_eq_true (by first | (with_reducible assumption) | assumption)
                    obtain ⟨ad335, e335, hx335_0⟩ := Kd.at_int (Kd.R_reads' HO_4.out).2.2 x7_1 p335 q335
                    obtain rfl : ad334 = ad335 := (by injection e335)
                    replace p335 := eq_true p335
                    replace q335 := eq_true q335
                    have p336 : 0 ≤ (x7_1 : Int) := of_decide_eq_true (by first | (with_reducible assumption) | assumption)
                    have q336 : x7_1 < (t330.length : Int) := of_decide_eq_true (by first | (with_reducible assumption) | assumption)
                    obtain ⟨ad336, e336, hx336_0⟩ := Kd.at_int (Kd.R_reads' HO_4.out).2.2 x7_1 p336 q336
                    obtain rfl : ad334 = ad336 := (by injection e336)
                    replace p336 := eq_true p336
                    replace q336 := eq_true q336
                    go_wp2_with (first | ((with_reducible refine gate_builtin (b := .append) (xs := #[.tmp 46, .tmp 51]) rfl ?_); (try (refine gate_guard (by rfl) ?_; dsimp only)); at_builtin; refine Kd.R_append (Kd.int .u8) (w0 := w) w.heap.size rfl (.tmp 46) (.tmp 51) 22 5 (.int .u8 0) 1 rfl Try.underlying22 info5 rfl (by decide) (by omega) u6 x6_1 (rd t330 x7_1) [.int .u8 (rd t330 x7_1)] (fun k_ => some k_ ≠ (.slice (some ad334) t330.length co16 : Value).ownBlock) (fun _ => False) rfl rfl ?aP (fun _ hk => hk.elim) ?aF ?aO ?aB ?aS ?aL ?_; (case aP => exact rfl); (case aB => exact (by repeat (first | (with_reducible first | exact HB.out | apply below_alloc | apply pw_below_drewN | apply below_drew1) | exact HB.out))); (case aF => exact (fun k_ hk => Kd.fresh' (Kd.R_lt (by (with_reducible repeat (first | apply Kd.R_alloc | apply Kd.R_drewN | apply Kd.R_drew)); exact HO_4.out)) k_ hk)); (case aO => exact (by (with_reducible repeat (first | apply Kd.R_alloc | apply Kd.R_drewN | apply Kd.R_drew)); exact HO_6.out)); (case aS => exact (below_size (by repeat (first | (with_reducible first | exact HB.out | apply below_alloc | apply pw_below_drewN | apply below_drew1) | exact HB.out)))); (case aL => have := LMc15.out; omega); intro v338 w17 ho hb hg hat; rw [← Ny337.out] at ho; have n0_ := Aside0.mk (Kd.R_after (ok := (fun _ => True)) (by (with_reducible repeat (first | apply Kd.R_alloc | apply Kd.R_drewN | apply Kd.R_drew)); exact Kd.R_mono HO_4.out (fun _ hk => ⟨trivial, hk⟩)) hg hat); have n1_ := Aside0.mk (hb); have n2_ := Aside0.mk (ho); clear HO_4; clear HB; clear HO_6; have HO_4 := n0_; have HB := n1_; have HO339 := n2_; clear n0_ n1_ n2_; clear ho hb hg hat))
                    repeat (go_quiet (first | ((with_reducible refine gate_builtin (b := .append) (xs := #[.tmp 46, .tmp 51]) rfl ?_); (try (refine gate_guard (by rfl) ?_; dsimp only)); at_builtin; refine Kd.R_append (Kd.int .u8) (w0 := w) w.heap.size rfl (.tmp 46) (.tmp 51) 22 5 (.int .u8 0) 1 rfl Try.underlying22 info5 rfl (by decide) (by omega) u6 x6_1 (rd t330 x7_1) [.int .u8 (rd t330 x7_1)] (fun k_ => some k_ ≠ (.slice (some ad334) t330.length co16 : Value).ownBlock) (fun _ => False) rfl rfl ?aP (fun _ hk => hk.elim) ?aF ?aO ?aB ?aS ?aL ?_; (case aP => exact rfl); (case aB => exact (by repeat (first | (with_reducible first | exact HB.out | apply below_alloc | apply pw_below_drewN | apply below_drew1) | exact HB.out))); (case aF => exact (fun k_ hk => Kd.fresh' (Kd.R_lt (by (with_reducible repeat (first | apply Kd.R_alloc | apply Kd.R_drewN | apply Kd.R_drew)); exact HO_4.out)) k_ hk)); (case aO => exact (by (with_reducible repeat (first | apply Kd.R_alloc | apply Kd.R_drewN | apply Kd.R_drew)); exact HO_6.out)); (case aS => exact (below_size (by repeat (first | (with_reducible first | exact HB.out | apply below_alloc | apply pw_below_drewN | apply below_drew1) | exact HB.out)))); (case aL => have := LMc15.out; omega); intro v338 w17 ho hb hg hat; rw [← Ny337.out] at ho; have n0_ := Aside0.mk (Kd.R_after (ok := (fun _ => True)) (by (with_reducible repeat (first | apply Kd.R_alloc | apply Kd.R_drewN | apply Kd.R_drew)); exact Kd.R_mono HO_4.out (fun _ hk => ⟨trivial, hk⟩)) hg hat); have n1_ := Aside0.mk (hb); have n2_ := Aside0.mk (ho); clear HO_4; clear HB; clear HO_6; have HO_4 := n0_; have HB := n1_; have HO339 := n2_; clear n0_ n1_ n2_; clear ho hb hg hat)); try go_wp2_with (first | ((with_reducible refine gate_builtin (b := .append) (xs := #[.tmp 46, .tmp 51]) rfl ?_); (try (refine gate_guard (by rfl) ?_; dsimp only)); at_builtin; refine Kd.R_append (Kd.int .u8) (w0 := w) w.heap.size rfl (.tmp 46) (.tmp 51) 22 5 (.int .u8 0) 1 rfl Try.underlying22 info5 rfl (by decide) (by omega) u6 x6_1 (rd t330 x7_1) [.int .u8 (rd t330 x7_1)] (fun k_ => some k_ ≠ (.slice (some ad334) t330.length co16 : Value).ownBlock) (fun _ => False) rfl rfl ?aP (fun _ hk => hk.elim) ?aF ?aO ?aB ?aS ?aL ?_; (case aP => exact rfl); (case aB => exact (by repeat (first | (with_reducible first | exact HB.out | apply below_alloc | apply pw_below_drewN | apply below_drew1) | exact HB.out))); (case aF => exact (fun k_ hk => Kd.fresh' (Kd.R_lt (by (with_reducible repeat (first | apply Kd.R_alloc | apply Kd.R_drewN | apply Kd.R_drew)); exact HO_4.out)) k_ hk)); (case aO => exact (by (with_reducible repeat (first | apply Kd.R_alloc | apply Kd.R_drewN | apply Kd.R_drew)); exact HO_6.out)); (case aS => exact (below_size (by repeat (first | (with_reducible first | exact HB.out | apply below_alloc | apply pw_below_drewN | apply below_drew1) | exact HB.out)))); (case aL => have := LMc15.out; omega); intro v338 w17 ho hb hg hat; rw [← Ny337.out] at ho; have n0_ := Aside0.mk (Kd.R_after (ok := (fun _ => True)) (by (with_reducible repeat (first | apply Kd.R_alloc | apply Kd.R_drewN | apply Kd.R_drew)); exact Kd.R_mono HO_4.out (fun _ hk => ⟨trivial, hk⟩)) hg hat); have n1_ := Aside0.mk (hb); have n2_ := Aside0.mk (ho); clear HO_4; clear HB; clear HO_6; have HO_4 := n0_; have HB := n1_; have HO339 := n2_; clear n0_ n1_ n2_; clear ho hb hg hat)))
                    go_roundg k1
                    case measure => have := HK1.out; omega
                    case rel => exact ⟨(y337), (wrap64 (x7_1 + 1)), (by first | rfl | (simp; done) | (simp [*]; done)), H', ⟨by have := HK1.out; omega⟩, ⟨by (with_reducible repeat (first | apply Kd.R_alloc | apply Kd.R_drewN | apply Kd.R_drew)); exact Kd.R_mono HO_4.out (fun _ hk => hk.2)⟩, ⟨by (with_reducible repeat (first | apply Kd.R_alloc | apply Kd.R_drewN | apply Kd.R_drew)); exact HO339.out⟩, ⟨by repeat (first | (with_reducible first | exact HB.out | apply below_alloc | apply pw_below_drewN | apply below_drew1) | exact HB.out)⟩⟩
                  · rw [if_neg c15] at H
                    exact absurd H (by simp)
            · rw [if_neg c10] at H
              exact absurd H (by simp)
          · rw [if_neg c9] at H
            have c9b0 : decide (x7_1 < (t330.length : Int)) = false := decide_eq_false c9
            clear c9
            replace H := Option.bind_eq_some_iff.mp H
            obtain ⟨⟨t340, t341⟩, A180, H⟩ := H
            replace H : (if t341 = 0 then (compositorlaw13_TextSoft.j1 k1 l0 t328 t340 ((t340.length : Int) != (l0.length : Int))) else (compositorlaw13_TextSoft.j1 k1 l0 t328 t340 true)) = some r := H
            have A18 := Aside0.mk A180
            clear A180
            have HC19 := Aside0.mk H
            clear H
            obtain ⟨Ao20, co20, eo20⟩ := Kd.R_slice HO_4.out
            subst eo20
            obtain ⟨Ao21, co21, eo21⟩ := Kd.R_slice HO_6.out
            subst eo21
            go_upto_region 14 with (first | (go_at_call 11; (with_reducible refine (text_Read.calls _ _ x6_1 t340 t341 _ ?side1 ?side2 A18.out).mono ?_); (case side1 => repeat (first | exact (Kd.R_reads' HO_6.out).2.2 | (with_reducible refine Kd.C_alloc ?_ _) | (with_reducible refine Kd.C_drewN ?_ _) | (with_reducible refine Kd.C_drew ?_))); (case side2 => exact (Kd.R_reads' HO_6.out).2.1); rintro e w22 ⟨v342, rfl, ho0, hb⟩; have n0_ := Aside0.mk (Kd.R_below (by (with_reducible repeat (first | apply Kd.R_alloc | apply Kd.R_drewN | apply Kd.R_drew)); exact HO_4.out) hb); have n1_ := Aside0.mk (Kd.R_below (by (with_reducible repeat (first | apply Kd.R_alloc | apply Kd.R_drewN | apply Kd.R_drew)); exact HO_6.out) hb); have n2_ := Aside0.mk (Kd.S_lower ho0 (below_size (by repeat (first | (with_reducible first | exact HB.out | apply below_alloc | apply pw_below_drewN | apply below_drew1) | exact HB.out)))); have n3_ := Aside0.mk (below_step (by repeat (first | (with_reducible first | exact HB.out | apply below_alloc | apply pw_below_drewN | apply below_drew1) | exact HB.out)) hb); clear HO_4; clear HO_6; clear HB; have HO_4 := n0_; have HO_6 := n1_; have HO343 := n2_; have HB := n3_; clear n0_ n1_ n2_ n3_; (try clear hb); (try clear hb2); (try clear hk); (try clear hi); (try clear ho0)))
            repeat (go_quiet (first | (go_at_call 11; (with_reducible refine (text_Read.calls _ _ x6_1 t340 t341 _ ?side1 ?side2 A18.out).mono ?_); (case side1 => repeat (first | exact (Kd.R_reads' HO_6.out).2.2 | (with_reducible refine Kd.C_alloc ?_ _) | (with_reducible refine Kd.C_drewN ?_ _) | (with_reducible refine Kd.C_drew ?_))); (case side2 => exact (Kd.R_reads' HO_6.out).2.1); rintro e w22 ⟨v342, rfl, ho0, hb⟩; have n0_ := Aside0.mk (Kd.R_below (by (with_reducible repeat (first | apply Kd.R_alloc | apply Kd.R_drewN | apply Kd.R_drew)); exact HO_4.out) hb); have n1_ := Aside0.mk (Kd.R_below (by (with_reducible repeat (first | apply Kd.R_alloc | apply Kd.R_drewN | apply Kd.R_drew)); exact HO_6.out) hb); have n2_ := Aside0.mk (Kd.S_lower ho0 (below_size (by repeat (first | (with_reducible first | exact HB.out | apply below_alloc | apply pw_below_drewN | apply below_drew1) | exact HB.out)))); have n3_ := Aside0.mk (below_step (by repeat (first | (with_reducible first | exact HB.out | apply below_alloc | apply pw_below_drewN | apply below_drew1) | exact HB.out)) hb); clear HO_4; clear HO_6; clear HB; have HO_4 := n0_; have HO_6 := n1_; have HO343 := n2_; have HB := n3_; clear n0_ n1_ n2_ n3_; (try clear hb); (try clear hb2); (try clear hk); (try clear hi); (try clear ho0))); go_upto_region 14 with (first | (go_at_call 11; (with_reducible refine (text_Read.calls _ _ x6_1 t340 t341 _ ?side1 ?side2 A18.out).mono ?_); (case side1 => repeat (first | exact (Kd.R_reads' HO_6.out).2.2 | (with_reducible refine Kd.C_alloc ?_ _) | (with_reducible refine Kd.C_drewN ?_ _) | (with_reducible refine Kd.C_drew ?_))); (case side2 => exact (Kd.R_reads' HO_6.out).2.1); rintro e w22 ⟨v342, rfl, ho0, hb⟩; have n0_ := Aside0.mk (Kd.R_below (by (with_reducible repeat (first | apply Kd.R_alloc | apply Kd.R_drewN | apply Kd.R_drew)); exact HO_4.out) hb); have n1_ := Aside0.mk (Kd.R_below (by (with_reducible repeat (first | apply Kd.R_alloc | apply Kd.R_drewN | apply Kd.R_drew)); exact HO_6.out) hb); have n2_ := Aside0.mk (Kd.S_lower ho0 (below_size (by repeat (first | (with_reducible first | exact HB.out | apply below_alloc | apply pw_below_drewN | apply below_drew1) | exact HB.out)))); have n3_ := Aside0.mk (below_step (by repeat (first | (with_reducible first | exact HB.out | apply below_alloc | apply pw_below_drewN | apply below_drew1) | exact HB.out)) hb); clear HO_4; clear HO_6; clear HB; have HO_4 := n0_; have HO_6 := n1_; have HO343 := n2_; have HB := n3_; clear n0_ n1_ n2_ n3_; (try clear hb); (try clear hb2); (try clear hk); (try clear hi); (try clear ho0))))
            (try simp only [Act.put, List.setIfInBounds_toArray, List.set_cons_zero, List.set_cons_succ])
            go_cut [66] (fun v66 wc => ∃ (kq : Nat) (x66_18 : Bool), v66 = .bool x66_18 ∧ Aside0 (compositorlaw13_TextSoft.j1 kq l0 t328 t340 x66_18 = some r) ∧ Aside0 (kq ≤ k1) ∧ Aside0 (Kd.S k36 36 wc w.heap.size (fun _ => True) v342 t340) ∧ Aside0 (Below w.heap.size w wc))
            case first =>
              have H := HC19.out
              clear HC19
              by_cases c23 : t341 = 0
              · rw [if_pos c23] at H
                have c23b0 : (t341 == 0) = true := beq_iff_eq.mpr c23
                have c23b1 : (t341 != 0) = false := bne_eq_false_iff_eq.mpr c23
                clear c23
                (first | rw [c23b0] | (simp only [i64_w, i32_w]; rw [c23b0]) | skip)
                have H' := Aside0.mk H
                clear H
                obtain ⟨Ao24, co24, eo24⟩ := Kd.S_slice HO343.out
                subst eo24
                go_wp2
                repeat (go_quiet (fail); try go_wp2)
                go_meet
                case rel => exact ⟨_, (((t340.length : Int) != (l0.length : Int))), (by first | rfl | (simp; done) | (simp [*]; done)), H', ⟨by have := HK1.out; first | omega | exact Nat.le_refl _⟩, ⟨by (with_reducible repeat (first | apply Kd.S_alloc | apply Kd.S_drewN | apply Kd.S_drew)); exact HO343.out⟩, ⟨by repeat (first | (with_reducible first | exact HB.out | apply below_alloc | apply pw_below_drewN | apply below_drew1) | exact HB.out)⟩⟩
              · rw [if_neg c23] at H
                have c23b0 : (t341 == 0) = false := beq_eq_false_iff_ne.mpr c23
                have c23b1 : (t341 != 0) = true := bne_iff_ne.mpr c23
                (first | rw [c23b0] | (simp only [i64_w, i32_w]; rw [c23b0]) | skip)
                have H' := Aside0.mk H
                clear H
                go_wp2
                repeat (go_quiet (fail); try go_wp2)
                go_meet
                case rel => exact ⟨_, (true), (by first | rfl | (simp; done) | (simp [*]; done)), H', ⟨by have := HK1.out; first | omega | exact Nat.le_refl _⟩, ⟨by (with_reducible repeat (first | apply Kd.S_alloc | apply Kd.S_drewN | apply Kd.S_drew)); exact HO343.out⟩, ⟨by repeat (first | (with_reducible first | exact HB.out | apply below_alloc | apply pw_below_drewN | apply below_drew1) | exact HB.out)⟩⟩
            case rest =>
              clear HC19
              try clear c1
              try clear c2
              try clear p2
              try clear p3
              try clear q3
              try clear hx3
              try clear c4
              try clear c6
              try clear c6b0
              try clear c6b1
              try clear p6
              try clear c7
              try clear c9
              try clear c9b0
              try clear c10
              try clear c10b0
              try clear c11
              try clear c11b0
              try clear c11b1
              try clear c13
              try clear c13b0
              try clear c13b1
              try clear c15
              try clear c23
              try clear c23b0
              try clear c23b1
              try clear hx334_0
              try clear hx335_0
              try clear hx336_0
              try clear p2
              try clear p334
              try clear p335
              try clear p336
              try clear q334
              try clear q335
              try clear q336
              obtain ⟨kq, x66_18, rfl, HA, HJ18, HO_8, HB⟩ := hcut
              cases kq with
              | zero => exact absurd HA.out (by simp [compositorlaw13_TextSoft.j1])
              | succ kj18 =>
                have H := HA.out
                clear HA
                simp only [compositorlaw13_TextSoft.j1] at H
                by_cases c25 : x66_18 = true
                · subst c25
                  have H1 : (some false) = some r := by rw [if_pos rfl] at H; exact H
                  clear H
                  have H := H1
                  clear H1
                  obtain rfl := Option.some.inj H
                  go_wp2
                  repeat (go_quiet (fail); try go_wp2)
                  go_ret
                  exact ⟨by first | rfl | (simp [errW_none, errW_some] <;> rfl) | (simp [*, errW_none, errW_some] <;> rfl), by repeat (first | (with_reducible first | exact HB.out | apply below_alloc | apply pw_below_drewN | apply below_drew1) | exact HB.out)⟩
                · replace c25 := Bool.eq_false_iff.mpr c25
                  subst c25
                  have H1 : (compositorlaw13_TextSoft.l1 kj18 l0 t328 t340 0) = some r := by rw [if_neg (show ¬ (false = true) by decide)] at H; exact H
                  clear H
                  have H := H1
                  clear H1
                  have H' := Aside0.mk H
                  clear H
                  go_wp2
                  repeat (go_quiet (fail); try go_wp2)
                  go_loopg [10] kj18 (fun kq v10 w' => ∃ (x10_3 : Int), v10 = .int .i64 x10_3 ∧ Aside0 (compositorlaw13_TextSoft.l1 kq l0 t328 t340 x10_3 = some r) ∧ Aside0 (kq ≤ kj18) ∧ Aside0 (Kd.S k36 36 w' w.heap.size (fun _ => True) v342 t340) ∧ Aside0 (Below w.heap.size w w'))
                  case atStart => exact ⟨(0), (by first | rfl | (simp; done) | (simp [*]; done)), H', ⟨Nat.le_refl _⟩, ⟨by (with_reducible repeat (first | apply Kd.S_alloc | apply Kd.S_drewN | apply Kd.S_drew)); exact HO_8.out⟩, ⟨by repeat (first | (with_reducible first | exact HB.out | apply below_alloc | apply pw_below_drewN | apply below_drew1) | exact HB.out)⟩⟩
                  case round =>
                    clear H'
                    try clear c1
                    try clear c2
                    try clear p2
                    try clear p3
                    try clear q3
                    try clear hx3
                    try clear c4
                    try clear c6
                    try clear c6b0
                    try clear c6b1
                    try clear p6
                    try clear c7
                    try clear c9
                    try clear c9b0
                    try clear c10
                    try clear c10b0
                    try clear c11
                    try clear c11b0
                    try clear c11b1
                    try clear c13
                    try clear c13b0
                    try clear c13b1
                    try clear c15
                    try clear c23
                    try clear c23b0
                    try clear c23b1
                    try clear c25
                    try clear hx334_0
                    try clear hx335_0
                    try clear hx336_0
                    try clear p2
                    try clear p3
                    try clear p334
                    try clear p335
                    try clear p336
                    try clear p6
                    try clear q3
                    try clear q334
                    try clear q335
                    try clear q336
                    obtain ⟨x10_3, rfl, HA, HK3, HO_8, HB⟩ := hrel
                    cases gk with
                    | zero => exact absurd HA.out (by simp [compositorlaw13_TextSoft.l1])
                    | succ k3 =>
                      have H := HA.out
                      clear HA
                      simp only [compositorlaw13_TextSoft.l1] at H
                      by_cases c26 : x10_3 < (t340.length : Int)
                      · rw [if_pos c26] at H
                        have c26b0 : decide (x10_3 < (t340.length : Int)) = true := decide_eq_true c26
                        clear c26
                        by_cases c27 : 0 ≤ x10_3
                        · rw [if_pos c27] at H
                          have c27b0 : decide (0 ≤ x10_3) = true := decide_eq_true c27
                          clear c27
                          by_cases c28 : (((rd_T36 t340 x10_3).f1).length : Int) > 0
                          · rw [if_pos c28] at H
                            have c28b0 : decide (0 < (((rd_T36 t340 x10_3).f1).length : Int)) = true := decide_eq_true c28
                            have c28b1 : decide (0 < ((rd_T36 t340 x10_3).f1).length) = true := decide_eq_true (by omega)
                            clear c28
                            obtain rfl := Option.some.inj H
                            obtain ⟨Ao29, co29, eo29⟩ := Kd.S_slice HO_8.out
                            subst eo29
                            have p344 : 0 ≤ (x10_3 : Int) := of_decide_eq_true (by first | (with_reducible assumption) | assumption)
                            have q344 : x10_3 < (t340.length : Int) := of_decide_eq_true (by first | (with_reducible assumption) | assumption)
                            obtain ⟨ad344, A344_0, c344_0, A344_1, c344_1, e344, hx344_0, hx344_1, hl344_0, hi344_0, hl344_1, hi344_1⟩ := at_T36 (Kd.S_reads' HO_8.out).2.2 x10_3 p344 q344
                            cases e344
                            obtain ⟨ce344, hce344, hMe344, hcc344⟩ := Kd.S_get HO_8.out z36 x10_3 p344 (by first | exact q344 | exact of_decide_eq_true (by first | (with_reducible assumption) | assumption) | (have e_ := (Kd.S_reads' HO_8.out).1; omega))
                            obtain ⟨ve344_0, ve344_1, rfl, ge344_0, ge344_1⟩ := k36_openM hMe344
                            have hv344_0 := hcc344 0 _ rfl
                            rw [Nat.add_zero] at hv344_0
                            replace hv344_0 := Option.some.inj (hv344_0.symm.trans hx344_0)
                            rw [hv344_0] at ge344_0
                            have HL344_0 := Aside0.mk (show Kd.R (Kd.int .i64) 3 _ _ _ _ ((rd_T36 t340 x10_3).f0) from ge344_0)
                            clear hv344_0 ge344_0
                            have hv344_1 := hcc344 1 _ rfl
                            rw [add_field _ _ 1 (by omega)] at hv344_1
                            replace hv344_1 := Option.some.inj (hv344_1.symm.trans hx344_1)
                            rw [hv344_1] at ge344_1
                            have HL344_1 := Aside0.mk (show Kd.R (Kd.int .i64) 3 _ _ _ _ ((rd_T36 t340 x10_3).f1) from ge344_1)
                            clear hv344_1 ge344_1
                            clear hcc344 hce344
                            have HR344_0 := Aside0.mk hi344_0
                            have HC344_0 := Aside0.mk hl344_0
                            clear hi344_0 hl344_0
                            have HR344_1 := Aside0.mk hi344_1
                            have HC344_1 := Aside0.mk hl344_1
                            clear hi344_1 hl344_1
                            replace p344 := eq_true p344
                            replace q344 := eq_true q344
                            go_wp2
                            repeat (go_quiet (fail); try go_wp2)
                            go_ret
                            exact ⟨by first | rfl | (simp [errW_none, errW_some] <;> rfl) | (simp [*, errW_none, errW_some] <;> rfl), by repeat (first | (with_reducible first | exact HB.out | apply below_alloc | apply pw_below_drewN | apply below_drew1) | exact HB.out)⟩
                          · rw [if_neg c28] at H
                            have c28b0 : decide (0 < (((rd_T36 t340 x10_3).f1).length : Int)) = false := decide_eq_false c28
                            have c28b1 : decide (0 < ((rd_T36 t340 x10_3).f1).length) = false := decide_eq_false (by omega)
                            clear c28
                            by_cases c30 : x10_3 < (l0.length : Int)
                            · rw [if_pos c30] at H
                              have c30b0 : decide (x10_3 < (l0.length : Int)) = true := decide_eq_true c30
                              clear c30
                              replace H := Option.bind_eq_some_iff.mp H
                              obtain ⟨t347, A310, H⟩ := H
                              replace H : (if t347 = true then (compositorlaw13_TextSoft.l1 k3 l0 t328 t340 (wrap64 (x10_3 + 1))) else (some false)) = some r := H
                              have A31 := Aside0.mk A310
                              clear A310
                              by_cases c32 : t347 = true
                              · subst c32
                                have H1 : (compositorlaw13_TextSoft.l1 k3 l0 t328 t340 (wrap64 (x10_3 + 1))) = some r := by rw [if_pos rfl] at H; exact H
                                clear H
                                have H := H1
                                clear H1
                                have H' := Aside0.mk H
                                clear H
                                obtain ⟨Ao33, co33, eo33⟩ := Kd.S_slice HO_8.out
                                subst eo33
                                have p344 : 0 ≤ (x10_3 : Int) := of_decide_eq_true (by first | (with_reducible assumption) | assumption)
                                have q344 : x10_3 < (t340.length : Int) := of_decide_eq_true (by first | (with_reducible assumption) | assumption)
                                obtain ⟨ad344, A344_0, c344_0, A344_1, c344_1, e344, hx344_0, hx344_1, hl344_0, hi344_0, hl344_1, hi344_1⟩ := at_T36 (Kd.S_reads' HO_8.out).2.2 x10_3 p344 q344
                                cases e344
                                obtain ⟨ce344, hce344, hMe344, hcc344⟩ := Kd.S_get HO_8.out z36 x10_3 p344 (by first | exact q344 | exact of_decide_eq_true (by first | (with_reducible assumption) | assumption) | (have e_ := (Kd.S_reads' HO_8.out).1; omega))
                                obtain ⟨ve344_0, ve344_1, rfl, ge344_0, ge344_1⟩ := k36_openM hMe344
                                have hv344_0 := hcc344 0 _ rfl
                                rw [Nat.add_zero] at hv344_0
                                replace hv344_0 := Option.some.inj (hv344_0.symm.trans hx344_0)
                                rw [hv344_0] at ge344_0
                                have HL344_0 := Aside0.mk (show Kd.R (Kd.int .i64) 3 _ _ _ _ ((rd_T36 t340 x10_3).f0) from ge344_0)
                                clear hv344_0 ge344_0
                                have hv344_1 := hcc344 1 _ rfl
                                rw [add_field _ _ 1 (by omega)] at hv344_1
                                replace hv344_1 := Option.some.inj (hv344_1.symm.trans hx344_1)
                                rw [hv344_1] at ge344_1
                                have HL344_1 := Aside0.mk (show Kd.R (Kd.int .i64) 3 _ _ _ _ ((rd_T36 t340 x10_3).f1) from ge344_1)
                                clear hv344_1 ge344_1
                                clear hcc344 hce344
                                have HR344_0 := Aside0.mk hi344_0
                                have HC344_0 := Aside0.mk hl344_0
                                clear hi344_0 hl344_0
                                have HR344_1 := Aside0.mk hi344_1
                                have HC344_1 := Aside0.mk hl344_1
                                clear hi344_1 hl344_1
                                replace p344 := eq_true p344
                                replace q344 := eq_true q344
                                have p345 : 0 ≤ (x10_3 : Int) := of_decide_eq_true (by first | (with_reducible assumption) | assumption)
                                have q345 : x10_3 < (t340.length : Int) := of_decide_eq_true (by first | (with_reducible assumption) | assumption)
                                obtain ⟨ad345, A345_0, c345_0, A345_1, c345_1, e345, hx345_0, hx345_1, hl345_0, hi345_0, hl345_1, hi345_1⟩ := at_T36 (Kd.S_reads' HO_8.out).2.2 x10_3 p345 q345
                                obtain rfl : ad344 = ad345 := (by injection e345)
                                obtain ⟨ce345, hce345, hMe345, hcc345⟩ := Kd.S_get HO_8.out z36 x10_3 p345 (by first | exact q345 | exact of_decide_eq_true (by first | (with_reducible assumption) | assumption) | (have e_ := (Kd.S_reads' HO_8.out).1; omega))
                                obtain ⟨ve345_0, ve345_1, rfl, ge345_0, ge345_1⟩ := k36_openM hMe345
                                have hv345_0 := hcc345 0 _ rfl
                                rw [Nat.add_zero] at hv345_0
                                replace hv345_0 := Option.some.inj (hv345_0.symm.trans hx345_0)
                                rw [hv345_0] at ge345_0
                                have HL345_0 := Aside0.mk (show Kd.R (Kd.int .i64) 3 _ _ _ _ ((rd_T36 t340 x10_3).f0) from ge345_0)
                                clear hv345_0 ge345_0
                                have hv345_1 := hcc345 1 _ rfl
                                rw [add_field _ _ 1 (by omega)] at hv345_1
                                replace hv345_1 := Option.some.inj (hv345_1.symm.trans hx345_1)
                                rw [hv345_1] at ge345_1
                                have HL345_1 := Aside0.mk (show Kd.R (Kd.int .i64) 3 _ _ _ _ ((rd_T36 t340 x10_3).f1) from ge345_1)
                                clear hv345_1 ge345_1
                                clear hcc345 hce345
                                have HR345_0 := Aside0.mk hi345_0
                                have HC345_0 := Aside0.mk hl345_0
                                clear hi345_0 hl345_0
                                have HR345_1 := Aside0.mk hi345_1
                                have HC345_1 := Aside0.mk hl345_1
                                clear hi345_1 hl345_1
                                replace p345 := eq_true p345
                                replace q345 := eq_true q345
                                have ea_ := Option.some.inj (hx344_0.symm.trans hx345_0)
                                injection ea_ with ea_ en_ ec_
                                subst ea_
                                subst ec_
                                clear en_
                                have ea_ := Option.some.inj (hx344_1.symm.trans hx345_1)
                                injection ea_ with ea_ en_ ec_
                                subst ea_
                                subst ec_
                                clear en_
                                have p346 : 0 ≤ (x10_3 : Int) := of_decide_eq_true (by first | (with_reducible assumption) | assumption)
                                have q346 : x10_3 < (l0.length : Int) := of_decide_eq_true (by first | (with_reducible assumption) | assumption)
                                obtain ⟨ad346, A346_0, c346_0, A346_1, c346_1, e346, hx346_0, hx346_1, hl346_0, hi346_0, hl346_1, hi346_1⟩ := at_T36 HR0.out x10_3 p346 q346
                                cases e346
                                replace hx346_0 := (HB.out.cell (World.block_lt_of_cell? w _ hx346_0)).trans hx346_0
                                replace hx346_1 := (HB.out.cell (World.block_lt_of_cell? w _ hx346_1)).trans hx346_1
                                have HR346_0 := Aside0.mk hi346_0
                                have HC346_0 := Aside0.mk hl346_0
                                clear hi346_0 hl346_0
                                have HR346_1 := Aside0.mk hi346_1
                                have HC346_1 := Aside0.mk hl346_1
                                clear hi346_1 hl346_1
                                replace p346 := eq_true p346
                                replace q346 := eq_true q346
                                go_wp2_with (first | (go_at_call 19; (with_reducible refine (compositorref04_Same.calls k3 _ _ ((rd_T36 t340 x10_3).f0) _ _ ((rd_T36 l0 x10_3).f0) true _ ?side1 ?side2 ?side3 ?side4 A31.out).mono ?_); (case side1 => repeat (first | exact (by repeat (first | (with_reducible exact HR345_0.out) | (with_reducible refine Kd.C_alloc ?_ _) | (with_reducible refine Kd.C_drewN ?_ _) | (with_reducible refine Kd.C_drew ?_) | exact HR345_0.out)) | (with_reducible refine Kd.C_alloc ?_ _) | (with_reducible refine Kd.C_drewN ?_ _) | (with_reducible refine Kd.C_drew ?_))); (case side2 => exact HC345_0.out); (case side3 => repeat (first | exact (Kd.C_below HR346_0.out HB.out) | (with_reducible refine Kd.C_alloc ?_ _) | (with_reducible refine Kd.C_drewN ?_ _) | (with_reducible refine Kd.C_drew ?_))); (case side4 => exact HC346_0.out); rintro e w' ⟨rfl, ⟨nd, rfl⟩⟩; (try first | exact ⟨rfl, _, World.drewN_drewN _ _ _⟩ | exact ⟨rfl, _, Eq.trans (World.drewN_drewN _ _ _) (congrArg (World.drewN _) (Nat.add_assoc _ _ _))⟩)))
                                repeat (go_quiet (first | (go_at_call 19; (with_reducible refine (compositorref04_Same.calls k3 _ _ ((rd_T36 t340 x10_3).f0) _ _ ((rd_T36 l0 x10_3).f0) true _ ?side1 ?side2 ?side3 ?side4 A31.out).mono ?_); (case side1 => repeat (first | exact (by repeat (first | (with_reducible exact HR345_0.out) | (with_reducible refine Kd.C_alloc ?_ _) | (with_reducible refine Kd.C_drewN ?_ _) | (with_reducible refine Kd.C_drew ?_) | exact HR345_0.out)) | (with_reducible refine Kd.C_alloc ?_ _) | (with_reducible refine Kd.C_drewN ?_ _) | (with_reducible refine Kd.C_drew ?_))); (case side2 => exact HC345_0.out); (case side3 => repeat (first | exact (Kd.C_below HR346_0.out HB.out) | (with_reducible refine Kd.C_alloc ?_ _) | (with_reducible refine Kd.C_drewN ?_ _) | (with_reducible refine Kd.C_drew ?_))); (case side4 => exact HC346_0.out); rintro e w' ⟨rfl, ⟨nd, rfl⟩⟩; (try first | exact ⟨rfl, _, World.drewN_drewN _ _ _⟩ | exact ⟨rfl, _, Eq.trans (World.drewN_drewN _ _ _) (congrArg (World.drewN _) (Nat.add_assoc _ _ _))⟩))); try go_wp2_with (first | (go_at_call 19; (with_reducible refine (compositorref04_Same.calls k3 _ _ ((rd_T36 t340 x10_3).f0) _ _ ((rd_T36 l0 x10_3).f0) true _ ?side1 ?side2 ?side3 ?side4 A31.out).mono ?_); (case side1 => repeat (first | exact (by repeat (first | (with_reducible exact HR345_0.out) | (with_reducible refine Kd.C_alloc ?_ _) | (with_reducible refine Kd.C_drewN ?_ _) | (with_reducible refine Kd.C_drew ?_) | exact HR345_0.out)) | (with_reducible refine Kd.C_alloc ?_ _) | (with_reducible refine Kd.C_drewN ?_ _) | (with_reducible refine Kd.C_drew ?_))); (case side2 => exact HC345_0.out); (case side3 => repeat (first | exact (Kd.C_below HR346_0.out HB.out) | (with_reducible refine Kd.C_alloc ?_ _) | (with_reducible refine Kd.C_drewN ?_ _) | (with_reducible refine Kd.C_drew ?_))); (case side4 => exact HC346_0.out); rintro e w' ⟨rfl, ⟨nd, rfl⟩⟩; (try first | exact ⟨rfl, _, World.drewN_drewN _ _ _⟩ | exact ⟨rfl, _, Eq.trans (World.drewN_drewN _ _ _) (congrArg (World.drewN _) (Nat.add_assoc _ _ _))⟩))))
                                go_roundg k3
                                case measure => have := HK1.out; have := HJ18.out; have := HK3.out; omega
                                case rel => exact ⟨(wrap64 (x10_3 + 1)), (by first | rfl | (simp; done) | (simp [*]; done)), H', ⟨by have := HK1.out; have := HJ18.out; have := HK3.out; omega⟩, ⟨by (with_reducible repeat (first | apply Kd.S_alloc | apply Kd.S_drewN | apply Kd.S_drew)); exact HO_8.out⟩, ⟨by repeat (first | (with_reducible first | exact HB.out | apply below_alloc | apply pw_below_drewN | apply below_drew1) | exact HB.out)⟩⟩
                              · replace c32 := Bool.eq_false_iff.mpr c32
                                subst c32
                                have H1 : (some false) = some r := by rw [if_neg (show ¬ (false = true) by decide)] at H; exact H
                                clear H
                                have H := H1
                                clear H1
                                obtain rfl := Option.some.inj H
                                obtain ⟨Ao34, co34, eo34⟩ := Kd.S_slice HO_8.out
                                subst eo34
                                have p344 : 0 ≤ (x10_3 : Int) := of_decide_eq_true (by first | (with_reducible assumption) | assumption)
                                have q344 : x10_3 < (t340.length : Int) := of_decide_eq_true (by first | (with_reducible assumption) | assumption)
                                obtain ⟨ad344, A344_0, c344_0, A344_1, c344_1, e344, hx344_0, hx344_1, hl344_0, hi344_0, hl344_1, hi344_1⟩ := at_T36 (Kd.S_reads' HO_8.out).2.2 x10_3 p344 q344
                                cases e344
                                obtain ⟨ce344, hce344, hMe344, hcc344⟩ := Kd.S_get HO_8.out z36 x10_3 p344 (by first | exact q344 | exact of_decide_eq_true (by first | (with_reducible assumption) | assumption) | (have e_ := (Kd.S_reads' HO_8.out).1; omega))
                                obtain ⟨ve344_0, ve344_1, rfl, ge344_0, ge344_1⟩ := k36_openM hMe344
                                have hv344_0 := hcc344 0 _ rfl
                                rw [Nat.add_zero] at hv344_0
                                replace hv344_0 := Option.some.inj (hv344_0.symm.trans hx344_0)
                                rw [hv344_0] at ge344_0
                                have HL344_0 := Aside0.mk (show Kd.R (Kd.int .i64) 3 _ _ _ _ ((rd_T36 t340 x10_3).f0) from ge344_0)
                                clear hv344_0 ge344_0
                                have hv344_1 := hcc344 1 _ rfl
                                rw [add_field _ _ 1 (by omega)] at hv344_1
                                replace hv344_1 := Option.some.inj (hv344_1.symm.trans hx344_1)
                                rw [hv344_1] at ge344_1
                                have HL344_1 := Aside0.mk (show Kd.R (Kd.int .i64) 3 _ _ _ _ ((rd_T36 t340 x10_3).f1) from ge344_1)
                                clear hv344_1 ge344_1
                                clear hcc344 hce344
                                have HR344_0 := Aside0.mk hi344_0
                                have HC344_0 := Aside0.mk hl344_0
                                clear hi344_0 hl344_0
                                have HR344_1 := Aside0.mk hi344_1
                                have HC344_1 := Aside0.mk hl344_1
                                clear hi344_1 hl344_1
                                replace p344 := eq_true p344
                                replace q344 := eq_true q344
                                have p345 : 0 ≤ (x10_3 : Int) := of_decide_eq_true (by first | (with_reducible assumption) | assumption)
                                have q345 : x10_3 < (t340.length : Int) := of_decide_eq_true (by first | (with_reducible assumption) | assumption)
                                obtain ⟨ad345, A345_0, c345_0, A345_1, c345_1, e345, hx345_0, hx345_1, hl345_0, hi345_0, hl345_1, hi345_1⟩ := at_T36 (Kd.S_reads' HO_8.out).2.2 x10_3 p345 q345
                                obtain rfl : ad344 = ad345 := (by injection e345)
                                obtain ⟨ce345, hce345, hMe345, hcc345⟩ := Kd.S_get HO_8.out z36 x10_3 p345 (by first | exact q345 | exact of_decide_eq_true (by first | (with_reducible assumption) | assumption) | (have e_ := (Kd.S_reads' HO_8.out).1; omega))
                                obtain ⟨ve345_0, ve345_1, rfl, ge345_0, ge345_1⟩ := k36_openM hMe345
                                have hv345_0 := hcc345 0 _ rfl
                                rw [Nat.add_zero] at hv345_0
                                replace hv345_0 := Option.some.inj (hv345_0.symm.trans hx345_0)
                                rw [hv345_0] at ge345_0
                                have HL345_0 := Aside0.mk (show Kd.R (Kd.int .i64) 3 _ _ _ _ ((rd_T36 t340 x10_3).f0) from ge345_0)
                                clear hv345_0 ge345_0
                                have hv345_1 := hcc345 1 _ rfl
                                rw [add_field _ _ 1 (by omega)] at hv345_1
                                replace hv345_1 := Option.some.inj (hv345_1.symm.trans hx345_1)
                                rw [hv345_1] at ge345_1
                                have HL345_1 := Aside0.mk (show Kd.R (Kd.int .i64) 3 _ _ _ _ ((rd_T36 t340 x10_3).f1) from ge345_1)
                                clear hv345_1 ge345_1
                                clear hcc345 hce345
                                have HR345_0 := Aside0.mk hi345_0
                                have HC345_0 := Aside0.mk hl345_0
                                clear hi345_0 hl345_0
                                have HR345_1 := Aside0.mk hi345_1
                                have HC345_1 := Aside0.mk hl345_1
                                clear hi345_1 hl345_1
                                replace p345 := eq_true p345
                                replace q345 := eq_true q345
                                have ea_ := Option.some.inj (hx344_0.symm.trans hx345_0)
                                injection ea_ with ea_ en_ ec_
                                subst ea_
                                subst ec_
                                clear en_
                                have ea_ := Option.some.inj (hx344_1.symm.trans hx345_1)
                                injection ea_ with ea_ en_ ec_
                                subst ea_
                                subst ec_
                                clear en_
                                have p346 : 0 ≤ (x10_3 : Int) := of_decide_eq_true (by first | (with_reducible assumption) | assumption)
                                have q346 : x10_3 < (l0.length : Int) := of_decide_eq_true (by first | (with_reducible assumption) | assumption)
                                obtain ⟨ad346, A346_0, c346_0, A346_1, c346_1, e346, hx346_0, hx346_1, hl346_0, hi346_0, hl346_1, hi346_1⟩ := at_T36 HR0.out x10_3 p346 q346
                                cases e346
                                replace hx346_0 := (HB.out.cell (World.block_lt_of_cell? w _ hx346_0)).trans hx346_0
                                replace hx346_1 := (HB.out.cell (World.block_lt_of_cell? w _ hx346_1)).trans hx346_1
                                have HR346_0 := Aside0.mk hi346_0
                                have HC346_0 := Aside0.mk hl346_0
                                clear hi346_0 hl346_0
                                have HR346_1 := Aside0.mk hi346_1
                                have HC346_1 := Aside0.mk hl346_1
                                clear hi346_1 hl346_1
                                replace p346 := eq_true p346
                                replace q346 := eq_true q346
                                go_wp2_with (first | (go_at_call 19; (with_reducible refine (compositorref04_Same.calls k3 _ _ ((rd_T36 t340 x10_3).f0) _ _ ((rd_T36 l0 x10_3).f0) false _ ?side1 ?side2 ?side3 ?side4 A31.out).mono ?_); (case side1 => repeat (first | exact (by repeat (first | (with_reducible exact HR345_0.out) | (with_reducible refine Kd.C_alloc ?_ _) | (with_reducible refine Kd.C_drewN ?_ _) | (with_reducible refine Kd.C_drew ?_) | exact HR345_0.out)) | (with_reducible refine Kd.C_alloc ?_ _) | (with_reducible refine Kd.C_drewN ?_ _) | (with_reducible refine Kd.C_drew ?_))); (case side2 => exact HC345_0.out); (case side3 => repeat (first | exact (Kd.C_below HR346_0.out HB.out) | (with_reducible refine Kd.C_alloc ?_ _) | (with_reducible refine Kd.C_drewN ?_ _) | (with_reducible refine Kd.C_drew ?_))); (case side4 => exact HC346_0.out); rintro e w' ⟨rfl, ⟨nd, rfl⟩⟩; (try first | exact ⟨rfl, _, World.drewN_drewN _ _ _⟩ | exact ⟨rfl, _, Eq.trans (World.drewN_drewN _ _ _) (congrArg (World.drewN _) (Nat.add_assoc _ _ _))⟩)))
                                repeat (go_quiet (first | (go_at_call 19; (with_reducible refine (compositorref04_Same.calls k3 _ _ ((rd_T36 t340 x10_3).f0) _ _ ((rd_T36 l0 x10_3).f0) false _ ?side1 ?side2 ?side3 ?side4 A31.out).mono ?_); (case side1 => repeat (first | exact (by repeat (first | (with_reducible exact HR345_0.out) | (with_reducible refine Kd.C_alloc ?_ _) | (with_reducible refine Kd.C_drewN ?_ _) | (with_reducible refine Kd.C_drew ?_) | exact HR345_0.out)) | (with_reducible refine Kd.C_alloc ?_ _) | (with_reducible refine Kd.C_drewN ?_ _) | (with_reducible refine Kd.C_drew ?_))); (case side2 => exact HC345_0.out); (case side3 => repeat (first | exact (Kd.C_below HR346_0.out HB.out) | (with_reducible refine Kd.C_alloc ?_ _) | (with_reducible refine Kd.C_drewN ?_ _) | (with_reducible refine Kd.C_drew ?_))); (case side4 => exact HC346_0.out); rintro e w' ⟨rfl, ⟨nd, rfl⟩⟩; (try first | exact ⟨rfl, _, World.drewN_drewN _ _ _⟩ | exact ⟨rfl, _, Eq.trans (World.drewN_drewN _ _ _) (congrArg (World.drewN _) (Nat.add_assoc _ _ _))⟩))); try go_wp2_with (first | (go_at_call 19; (with_reducible refine (compositorref04_Same.calls k3 _ _ ((rd_T36 t340 x10_3).f0) _ _ ((rd_T36 l0 x10_3).f0) false _ ?side1 ?side2 ?side3 ?side4 A31.out).mono ?_); (case side1 => repeat (first | exact (by repeat (first | (with_reducible exact HR345_0.out) | (with_reducible refine Kd.C_alloc ?_ _) | (with_reducible refine Kd.C_drewN ?_ _) | (with_reducible refine Kd.C_drew ?_) | exact HR345_0.out)) | (with_reducible refine Kd.C_alloc ?_ _) | (with_reducible refine Kd.C_drewN ?_ _) | (with_reducible refine Kd.C_drew ?_))); (case side2 => exact HC345_0.out); (case side3 => repeat (first | exact (Kd.C_below HR346_0.out HB.out) | (with_reducible refine Kd.C_alloc ?_ _) | (with_reducible refine Kd.C_drewN ?_ _) | (with_reducible refine Kd.C_drew ?_))); (case side4 => exact HC346_0.out); rintro e w' ⟨rfl, ⟨nd, rfl⟩⟩; (try first | exact ⟨rfl, _, World.drewN_drewN _ _ _⟩ | exact ⟨rfl, _, Eq.trans (World.drewN_drewN _ _ _) (congrArg (World.drewN _) (Nat.add_assoc _ _ _))⟩))))
                                go_ret
                                exact ⟨by first | rfl | (simp [errW_none, errW_some] <;> rfl) | (simp [*, errW_none, errW_some] <;> rfl), by repeat (first | (with_reducible first | exact HB.out | apply below_alloc | apply pw_below_drewN | apply below_drew1) | exact HB.out)⟩
                            · rw [if_neg c30] at H
                              exact absurd H (by simp)
                        · rw [if_neg c27] at H
                          exact absurd H (by simp)
                      · rw [if_neg c26] at H
                        have c26b0 : decide (x10_3 < (t340.length : Int)) = false := decide_eq_false c26
                        clear c26
                        obtain rfl := Option.some.inj H
                        obtain ⟨Ao35, co35, eo35⟩ := Kd.S_slice HO_8.out
                        subst eo35
                        go_wp2
                        repeat (go_quiet (fail); try go_wp2)
                        go_ret
                        exact ⟨by first | rfl | (simp [errW_none, errW_some] <;> rfl) | (simp [*, errW_none, errW_some] <;> rfl), by repeat (first | (with_reducible first | exact HB.out | apply below_alloc | apply pw_below_drewN | apply below_drew1) | exact HB.out)⟩
    · rw [if_neg c6] at H
      have c6b0 : (t331 == 0) = false := beq_eq_false_iff_ne.mpr c6
      have c6b1 : (t331 != 0) = true := bne_iff_ne.mpr c6
      by_cases c36 : t328 = true
      · subst c36
        have H1 : (some (t331 == 130)) = some r := by rw [if_pos rfl] at H; exact H
        clear H
        have H := H1
        clear H1
        obtain rfl := Option.some.inj H
        go_enter Try.func7, Try.ntmps7
        go_wp2_with (first | (go_at_call 10; (with_reducible refine (compositorlaw13_awake.calls k  true _ A2.out).mono ?_); rintro e w37 ⟨rfl, hb⟩; have n0_ := Aside0.mk (below_step (by repeat (first | (with_reducible first | exact HB.out | apply below_alloc | apply pw_below_drewN | apply below_drew1) | exact HB.out)) hb); clear HB; have HB := n0_; clear n0_; (try clear hb); (try clear hb2); (try clear hk); (try clear hi)) | (go_at_call 14; (with_reducible refine (compositorref13_Few.calls k _ _ l0 true _ ?side1 ?side2 A3.out).mono ?_); (case side1 => repeat (first | exact (Kd.C_below HR0.out HB.out) | (with_reducible refine Kd.C_alloc ?_ _) | (with_reducible refine Kd.C_drewN ?_ _) | (with_reducible refine Kd.C_drew ?_))); (case side2 => exact HC0.out); rintro e w' ⟨rfl, ⟨nd, rfl⟩⟩; (try first | exact ⟨rfl, _, World.drewN_drewN _ _ _⟩ | exact ⟨rfl, _, Eq.trans (World.drewN_drewN _ _ _) (congrArg (World.drewN _) (Nat.add_assoc _ _ _))⟩)) | (go_at_call 15; (with_reducible refine (text_Write.calls _ _ l0 t330 t331 _ ?side1 ?side2 A5.out).mono ?_); (case side1 => repeat (first | exact (Kd.C_below HR0.out (by repeat (first | (with_reducible first | exact HB.out | apply below_alloc | apply pw_below_drewN | apply below_drew1) | exact HB.out))) | (with_reducible refine Kd.C_alloc ?_ _) | (with_reducible refine Kd.C_drewN ?_ _) | (with_reducible refine Kd.C_drew ?_))); (case side2 => exact HC0.out); rintro e w38 ⟨v332, rfl, ho0, hb⟩; have n0_ := Aside0.mk (Kd.R_lower ho0 (below_size (by repeat (first | (with_reducible first | exact HB.out | apply below_alloc | apply pw_below_drewN | apply below_drew1) | exact HB.out)))); have n1_ := Aside0.mk (below_step (by repeat (first | (with_reducible first | exact HB.out | apply below_alloc | apply pw_below_drewN | apply below_drew1) | exact HB.out)) hb); clear HB; have HO333 := n0_; have HB := n1_; clear n0_ n1_; (try clear hb); (try clear hb2); (try clear hk); (try clear hi); (try clear ho0)))
        repeat (go_quiet (first | (go_at_call 10; (with_reducible refine (compositorlaw13_awake.calls k  true _ A2.out).mono ?_); rintro e w37 ⟨rfl, hb⟩; have n0_ := Aside0.mk (below_step (by repeat (first | (with_reducible first | exact HB.out | apply below_alloc | apply pw_below_drewN | apply below_drew1) | exact HB.out)) hb); clear HB; have HB := n0_; clear n0_; (try clear hb); (try clear hb2); (try clear hk); (try clear hi)) | (go_at_call 14; (with_reducible refine (compositorref13_Few.calls k _ _ l0 true _ ?side1 ?side2 A3.out).mono ?_); (case side1 => repeat (first | exact (Kd.C_below HR0.out HB.out) | (with_reducible refine Kd.C_alloc ?_ _) | (with_reducible refine Kd.C_drewN ?_ _) | (with_reducible refine Kd.C_drew ?_))); (case side2 => exact HC0.out); rintro e w' ⟨rfl, ⟨nd, rfl⟩⟩; (try first | exact ⟨rfl, _, World.drewN_drewN _ _ _⟩ | exact ⟨rfl, _, Eq.trans (World.drewN_drewN _ _ _) (congrArg (World.drewN _) (Nat.add_assoc _ _ _))⟩)) | (go_at_call 15; (with_reducible refine (text_Write.calls _ _ l0 t330 t331 _ ?side1 ?side2 A5.out).mono ?_); (case side1 => repeat (first | exact (Kd.C_below HR0.out (by repeat (first | (with_reducible first | exact HB.out | apply below_alloc | apply pw_below_drewN | apply below_drew1) | exact HB.out))) | (with_reducible refine Kd.C_alloc ?_ _) | (with_reducible refine Kd.C_drewN ?_ _) | (with_reducible refine Kd.C_drew ?_))); (case side2 => exact HC0.out); rintro e w38 ⟨v332, rfl, ho0, hb⟩; have n0_ := Aside0.mk (Kd.R_lower ho0 (below_size (by repeat (first | (with_reducible first | exact HB.out | apply below_alloc | apply pw_below_drewN | apply below_drew1) | exact HB.out)))); have n1_ := Aside0.mk (below_step (by repeat (first | (with_reducible first | exact HB.out | apply below_alloc | apply pw_below_drewN | apply below_drew1) | exact HB.out)) hb); clear HB; have HO333 := n0_; have HB := n1_; clear n0_ n1_; (try clear hb); (try clear hb2); (try clear hk); (try clear hi); (try clear ho0))); try go_wp2_with (first | (go_at_call 10; (with_reducible refine (compositorlaw13_awake.calls k  true _ A2.out).mono ?_); rintro e w37 ⟨rfl, hb⟩; have n0_ := Aside0.mk (below_step (by repeat (first | (with_reducible first | exact HB.out | apply below_alloc | apply pw_below_drewN | apply below_drew1) | exact HB.out)) hb); clear HB; have HB := n0_; clear n0_; (try clear hb); (try clear hb2); (try clear hk); (try clear hi)) | (go_at_call 14; (with_reducible refine (compositorref13_Few.calls k _ _ l0 true _ ?side1 ?side2 A3.out).mono ?_); (case side1 => repeat (first | exact (Kd.C_below HR0.out HB.out) | (with_reducible refine Kd.C_alloc ?_ _) | (with_reducible refine Kd.C_drewN ?_ _) | (with_reducible refine Kd.C_drew ?_))); (case side2 => exact HC0.out); rintro e w' ⟨rfl, ⟨nd, rfl⟩⟩; (try first | exact ⟨rfl, _, World.drewN_drewN _ _ _⟩ | exact ⟨rfl, _, Eq.trans (World.drewN_drewN _ _ _) (congrArg (World.drewN _) (Nat.add_assoc _ _ _))⟩)) | (go_at_call 15; (with_reducible refine (text_Write.calls _ _ l0 t330 t331 _ ?side1 ?side2 A5.out).mono ?_); (case side1 => repeat (first | exact (Kd.C_below HR0.out (by repeat (first | (with_reducible first | exact HB.out | apply below_alloc | apply pw_below_drewN | apply below_drew1) | exact HB.out))) | (with_reducible refine Kd.C_alloc ?_ _) | (with_reducible refine Kd.C_drewN ?_ _) | (with_reducible refine Kd.C_drew ?_))); (case side2 => exact HC0.out); rintro e w38 ⟨v332, rfl, ho0, hb⟩; have n0_ := Aside0.mk (Kd.R_lower ho0 (below_size (by repeat (first | (with_reducible first | exact HB.out | apply below_alloc | apply pw_below_drewN | apply below_drew1) | exact HB.out)))); have n1_ := Aside0.mk (below_step (by repeat (first | (with_reducible first | exact HB.out | apply below_alloc | apply pw_below_drewN | apply below_drew1) | exact HB.out)) hb); clear HB; have HO333 := n0_; have HB := n1_; clear n0_ n1_; (try clear hb); (try clear hb2); (try clear hk); (try clear hi); (try clear ho0))))
        go_ret
        exact ⟨by first | rfl | (simp [errW_none, errW_some] <;> rfl) | (simp [*, errW_none, errW_some] <;> rfl), by repeat (first | (with_reducible first | exact HB.out | apply below_alloc | apply pw_below_drewN | apply below_drew1) | exact HB.out)⟩
      · replace c36 := Bool.eq_false_iff.mpr c36
        subst c36
        have H1 : (some false) = some r := by rw [if_neg (show ¬ (false = true) by decide)] at H; exact H
        clear H
        have H := H1
        clear H1
        obtain rfl := Option.some.inj H
        go_enter Try.func7, Try.ntmps7
        go_wp2_with (first | (go_at_call 10; (with_reducible refine (compositorlaw13_awake.calls k  false _ A2.out).mono ?_); rintro e w39 ⟨rfl, hb⟩; have n0_ := Aside0.mk (below_step (by repeat (first | (with_reducible first | exact HB.out | apply below_alloc | apply pw_below_drewN | apply below_drew1) | exact HB.out)) hb); clear HB; have HB := n0_; clear n0_; (try clear hb); (try clear hb2); (try clear hk); (try clear hi)) | (go_at_call 14; (with_reducible refine (compositorref13_Few.calls k _ _ l0 true _ ?side1 ?side2 A3.out).mono ?_); (case side1 => repeat (first | exact (Kd.C_below HR0.out HB.out) | (with_reducible refine Kd.C_alloc ?_ _) | (with_reducible refine Kd.C_drewN ?_ _) | (with_reducible refine Kd.C_drew ?_))); (case side2 => exact HC0.out); rintro e w' ⟨rfl, ⟨nd, rfl⟩⟩; (try first | exact ⟨rfl, _, World.drewN_drewN _ _ _⟩ | exact ⟨rfl, _, Eq.trans (World.drewN_drewN _ _ _) (congrArg (World.drewN _) (Nat.add_assoc _ _ _))⟩)) | (go_at_call 15; (with_reducible refine (text_Write.calls _ _ l0 t330 t331 _ ?side1 ?side2 A5.out).mono ?_); (case side1 => repeat (first | exact (Kd.C_below HR0.out (by repeat (first | (with_reducible first | exact HB.out | apply below_alloc | apply pw_below_drewN | apply below_drew1) | exact HB.out))) | (with_reducible refine Kd.C_alloc ?_ _) | (with_reducible refine Kd.C_drewN ?_ _) | (with_reducible refine Kd.C_drew ?_))); (case side2 => exact HC0.out); rintro e w40 ⟨v332, rfl, ho0, hb⟩; have n0_ := Aside0.mk (Kd.R_lower ho0 (below_size (by repeat (first | (with_reducible first | exact HB.out | apply below_alloc | apply pw_below_drewN | apply below_drew1) | exact HB.out)))); have n1_ := Aside0.mk (below_step (by repeat (first | (with_reducible first | exact HB.out | apply below_alloc | apply pw_below_drewN | apply below_drew1) | exact HB.out)) hb); clear HB; have HO333 := n0_; have HB := n1_; clear n0_ n1_; (try clear hb); (try clear hb2); (try clear hk); (try clear hi); (try clear ho0)))
        repeat (go_quiet (first | (go_at_call 10; (with_reducible refine (compositorlaw13_awake.calls k  false _ A2.out).mono ?_); rintro e w39 ⟨rfl, hb⟩; have n0_ := Aside0.mk (below_step (by repeat (first | (with_reducible first | exact HB.out | apply below_alloc | apply pw_below_drewN | apply below_drew1) | exact HB.out)) hb); clear HB; have HB := n0_; clear n0_; (try clear hb); (try clear hb2); (try clear hk); (try clear hi)) | (go_at_call 14; (with_reducible refine (compositorref13_Few.calls k _ _ l0 true _ ?side1 ?side2 A3.out).mono ?_); (case side1 => repeat (first | exact (Kd.C_below HR0.out HB.out) | (with_reducible refine Kd.C_alloc ?_ _) | (with_reducible refine Kd.C_drewN ?_ _) | (with_reducible refine Kd.C_drew ?_))); (case side2 => exact HC0.out); rintro e w' ⟨rfl, ⟨nd, rfl⟩⟩; (try first | exact ⟨rfl, _, World.drewN_drewN _ _ _⟩ | exact ⟨rfl, _, Eq.trans (World.drewN_drewN _ _ _) (congrArg (World.drewN _) (Nat.add_assoc _ _ _))⟩)) | (go_at_call 15; (with_reducible refine (text_Write.calls _ _ l0 t330 t331 _ ?side1 ?side2 A5.out).mono ?_); (case side1 => repeat (first | exact (Kd.C_below HR0.out (by repeat (first | (with_reducible first | exact HB.out | apply below_alloc | apply pw_below_drewN | apply below_drew1) | exact HB.out))) | (with_reducible refine Kd.C_alloc ?_ _) | (with_reducible refine Kd.C_drewN ?_ _) | (with_reducible refine Kd.C_drew ?_))); (case side2 => exact HC0.out); rintro e w40 ⟨v332, rfl, ho0, hb⟩; have n0_ := Aside0.mk (Kd.R_lower ho0 (below_size (by repeat (first | (with_reducible first | exact HB.out | apply below_alloc | apply pw_below_drewN | apply below_drew1) | exact HB.out)))); have n1_ := Aside0.mk (below_step (by repeat (first | (with_reducible first | exact HB.out | apply below_alloc | apply pw_below_drewN | apply below_drew1) | exact HB.out)) hb); clear HB; have HO333 := n0_; have HB := n1_; clear n0_ n1_; (try clear hb); (try clear hb2); (try clear hk); (try clear hi); (try clear ho0))); try go_wp2_with (first | (go_at_call 10; (with_reducible refine (compositorlaw13_awake.calls k  false _ A2.out).mono ?_); rintro e w39 ⟨rfl, hb⟩; have n0_ := Aside0.mk (below_step (by repeat (first | (with_reducible first | exact HB.out | apply below_alloc | apply pw_below_drewN | apply below_drew1) | exact HB.out)) hb); clear HB; have HB := n0_; clear n0_; (try clear hb); (try clear hb2); (try clear hk); (try clear hi)) | (go_at_call 14; (with_reducible refine (compositorref13_Few.calls k _ _ l0 true _ ?side1 ?side2 A3.out).mono ?_); (case side1 => repeat (first | exact (Kd.C_below HR0.out HB.out) | (with_reducible refine Kd.C_alloc ?_ _) | (with_reducible refine Kd.C_drewN ?_ _) | (with_reducible refine Kd.C_drew ?_))); (case side2 => exact HC0.out); rintro e w' ⟨rfl, ⟨nd, rfl⟩⟩; (try first | exact ⟨rfl, _, World.drewN_drewN _ _ _⟩ | exact ⟨rfl, _, Eq.trans (World.drewN_drewN _ _ _) (congrArg (World.drewN _) (Nat.add_assoc _ _ _))⟩)) | (go_at_call 15; (with_reducible refine (text_Write.calls _ _ l0 t330 t331 _ ?side1 ?side2 A5.out).mono ?_); (case side1 => repeat (first | exact (Kd.C_below HR0.out (by repeat (first | (with_reducible first | exact HB.out | apply below_alloc | apply pw_below_drewN | apply below_drew1) | exact HB.out))) | (with_reducible refine Kd.C_alloc ?_ _) | (with_reducible refine Kd.C_drewN ?_ _) | (with_reducible refine Kd.C_drew ?_))); (case side2 => exact HC0.out); rintro e w40 ⟨v332, rfl, ho0, hb⟩; have n0_ := Aside0.mk (Kd.R_lower ho0 (below_size (by repeat (first | (with_reducible first | exact HB.out | apply below_alloc | apply pw_below_drewN | apply below_drew1) | exact HB.out)))); have n1_ := Aside0.mk (below_step (by repeat (first | (with_reducible first | exact HB.out | apply below_alloc | apply pw_below_drewN | apply below_drew1) | exact HB.out)) hb); clear HB; have HO333 := n0_; have HB := n1_; clear n0_ n1_; (try clear hb); (try clear hb2); (try clear hk); (try clear hi); (try clear ho0))))
        go_ret
        exact ⟨by first | rfl | (simp [errW_none, errW_some] <;> rfl) | (simp [*, errW_none, errW_some] <;> rfl), by repeat (first | (with_reducible first | exact HB.out | apply below_alloc | apply pw_below_drewN | apply below_drew1) | exact HB.out)⟩
  · replace c4 := Bool.eq_false_iff.mpr c4
    subst c4
    have H1 : (some t328) = some r := by rw [if_neg (show ¬ (false = true) by decide)] at H; exact H
    clear H
    have H := H1
    clear H1
    obtain rfl := Option.some.inj H
    go_enter Try.func7, Try.ntmps7
    go_wp2_with (first | (go_at_call 10; (with_reducible refine (compositorlaw13_awake.calls k  t328 _ A2.out).mono ?_); rintro e w41 ⟨rfl, hb⟩; have n0_ := Aside0.mk (below_step (by repeat (first | (with_reducible first | exact HB.out | apply below_alloc | apply pw_below_drewN | apply below_drew1) | exact HB.out)) hb); clear HB; have HB := n0_; clear n0_; (try clear hb); (try clear hb2); (try clear hk); (try clear hi)) | (go_at_call 14; (with_reducible refine (compositorref13_Few.calls k _ _ l0 false _ ?side1 ?side2 A3.out).mono ?_); (case side1 => repeat (first | exact (Kd.C_below HR0.out HB.out) | (with_reducible refine Kd.C_alloc ?_ _) | (with_reducible refine Kd.C_drewN ?_ _) | (with_reducible refine Kd.C_drew ?_))); (case side2 => exact HC0.out); rintro e w' ⟨rfl, ⟨nd, rfl⟩⟩; (try first | exact ⟨rfl, _, World.drewN_drewN _ _ _⟩ | exact ⟨rfl, _, Eq.trans (World.drewN_drewN _ _ _) (congrArg (World.drewN _) (Nat.add_assoc _ _ _))⟩)))
    repeat (go_quiet (first | (go_at_call 10; (with_reducible refine (compositorlaw13_awake.calls k  t328 _ A2.out).mono ?_); rintro e w41 ⟨rfl, hb⟩; have n0_ := Aside0.mk (below_step (by repeat (first | (with_reducible first | exact HB.out | apply below_alloc | apply pw_below_drewN | apply below_drew1) | exact HB.out)) hb); clear HB; have HB := n0_; clear n0_; (try clear hb); (try clear hb2); (try clear hk); (try clear hi)) | (go_at_call 14; (with_reducible refine (compositorref13_Few.calls k _ _ l0 false _ ?side1 ?side2 A3.out).mono ?_); (case side1 => repeat (first | exact (Kd.C_below HR0.out HB.out) | (with_reducible refine Kd.C_alloc ?_ _) | (with_reducible refine Kd.C_drewN ?_ _) | (with_reducible refine Kd.C_drew ?_))); (case side2 => exact HC0.out); rintro e w' ⟨rfl, ⟨nd, rfl⟩⟩; (try first | exact ⟨rfl, _, World.drewN_drewN _ _ _⟩ | exact ⟨rfl, _, Eq.trans (World.drewN_drewN _ _ _) (congrArg (World.drewN _) (Nat.add_assoc _ _ _))⟩))); try go_wp2_with (first | (go_at_call 10; (with_reducible refine (compositorlaw13_awake.calls k  t328 _ A2.out).mono ?_); rintro e w41 ⟨rfl, hb⟩; have n0_ := Aside0.mk (below_step (by repeat (first | (with_reducible first | exact HB.out | apply below_alloc | apply pw_below_drewN | apply below_drew1) | exact HB.out)) hb); clear HB; have HB := n0_; clear n0_; (try clear hb); (try clear hb2); (try clear hk); (try clear hi)) | (go_at_call 14; (with_reducible refine (compositorref13_Few.calls k _ _ l0 false _ ?side1 ?side2 A3.out).mono ?_); (case side1 => repeat (first | exact (Kd.C_below HR0.out HB.out) | (with_reducible refine Kd.C_alloc ?_ _) | (with_reducible refine Kd.C_drewN ?_ _) | (with_reducible refine Kd.C_drew ?_))); (case side2 => exact HC0.out); rintro e w' ⟨rfl, ⟨nd, rfl⟩⟩; (try first | exact ⟨rfl, _, World.drewN_drewN _ _ _⟩ | exact ⟨rfl, _, Eq.trans (World.drewN_drewN _ _ _) (congrArg (World.drewN _) (Nat.add_assoc _ _ _))⟩))))
    go_ret
    exact ⟨by first | rfl | (simp [errW_none, errW_some] <;> rfl) | (simp [*, errW_none, errW_some] <;> rfl), by repeat (first | (with_reducible first | exact HB.out | apply below_alloc | apply pw_below_drewN | apply below_drew1) | exact HB.out)⟩

end Go.Proofs.Ytnhalfkkamepgaa.Q
