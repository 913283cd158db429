-- WRITTEN BY A PROGRAM OF THIS SESSION (wip/gprint.py) OVER THE KIT'S PRINT, some functions given by hand
import Derived.Test.YtnhalfkkamepgaaQx0
namespace Go.Proofs.Ytnhalfkkamepgaa.Q
open Go.RowKit Go.Proofs.YtnhalfkkamepgaaW.PrintWords Go.Proofs.YtnhalfkkamepgaaW.PrintLast Go.Proofs.YtnhalfkkamepgaaW.PrintMore
attribute [local go_sem] max2_int min2_int max_two min_two max_three min_three max_four min_four   -- for this text's walks alone
set_option linter.unusedVariables false
set_option linter.unusedSimpArgs false

/-! ### compositorref13_word: function 26 -/
mutual
def compositorref13_word.j0 : Nat → Bool → List Int → List Int → Option (Bool)
  | 0, _, _, _ => none
  | k + 1, x14, x146000, x146001 => if x14 = true then (some false) else (compositorref13_word.l0 k 0 x146000 x146001)
def compositorref13_word.l0 : Nat → Int → List Int → List Int → Option (Bool)
  | 0, _, _, _ => none
  | k + 1, x3, x146000, x146001 => if x3 < (x146000.length : Int) then (if 0 ≤ x3 then (if (rd x146000 x3) < 33 then (some false) else (if (rd x146000 x3) > 126 then (some false) else (compositorref13_word.l0 k (wrap64 (x3 + 1)) x146000 x146001))) else (none)) else (compositorref13_word.l1 k 0 x146000 x146001)
def compositorref13_word.l1 : Nat → Int → List Int → List Int → Option (Bool)
  | 0, _, _, _ => none
  | k + 1, x4, x146000, x146001 => if x4 < (x146001.length : Int) then (if 0 ≤ x4 then (if (rd x146001 x4) < 1 then (some false) else (if (rd x146001 x4) ≥ (x146000.length : Int) then (some false) else (if x4 > 0 then (if 0 ≤ (wrap64 (x4 - 1)) then (if (wrap64 (x4 - 1)) < (x146001.length : Int) then (if (rd x146001 (wrap64 (x4 - 1))) ≥ (rd x146001 x4) then (some false) else (compositorref13_word.l1 k (wrap64 (x4 + 1)) x146000 x146001)) else (none)) else (none)) else (compositorref13_word.l1 k (wrap64 (x4 + 1)) x146000 x146001)))) else (none)) else (some true)
end
def compositorref13_word.f (k : Nat) (l0_0 : List Int) (l0_1 : List Int) : Option (Bool) := if (l0_0.length : Int) < 1 then (compositorref13_word.j0 k true l0_0 l0_1) else (compositorref13_word.j0 k (decide ((l0_0.length : Int) > 60)) l0_0 l0_1)
theorem compositorref13_word.mono_l : ∀ k, (∀ y0 y1 y2, LeO (compositorref13_word.j0 k y0 y1 y2) (compositorref13_word.j0 (k + 1) y0 y1 y2)) ∧ (∀ y0 y1 y2, LeO (compositorref13_word.l0 k y0 y1 y2) (compositorref13_word.l0 (k + 1) y0 y1 y2)) ∧ (∀ y0 y1 y2, LeO (compositorref13_word.l1 k y0 y1 y2) (compositorref13_word.l1 (k + 1) y0 y1 y2))
  | 0 => ⟨fun _ _ _ r h => by simp [compositorref13_word.j0] at h, fun _ _ _ r h => by simp [compositorref13_word.l0] at h, fun _ _ _ r h => by simp [compositorref13_word.l1] at h⟩
  | k + 1 => by
    obtain ⟨ih0, ih1, ih2⟩ := compositorref13_word.mono_l k
    refine ⟨?_, ?_, ?_⟩
    · intro y0 y1 y2
      unfold compositorref13_word.j0
      repeat' first
      | (with_reducible exact ih0 _ _ _)
      | (with_reducible exact ih1 _ _ _)
      | (with_reducible exact ih2 _ _ _)
      | (with_reducible exact LeO.refl _)
      | (with_reducible exact LeO.none _)
      | (with_reducible refine LeO.ite ?_ ?_)
      | (with_reducible refine LeO.bind ?_ (fun _ => ?_))
      | exact ih0 _ _ _
      | exact ih1 _ _ _
      | exact ih2 _ _ _
      | exact LeO.none _
      | refine LeO.ite ?_ ?_
      | refine LeO.bind ?_ (fun _ => ?_)
    · intro y0 y1 y2
      unfold compositorref13_word.l0
      repeat' first
      | (with_reducible exact ih0 _ _ _)
      | (with_reducible exact ih1 _ _ _)
      | (with_reducible exact ih2 _ _ _)
      | (with_reducible exact LeO.refl _)
      | (with_reducible exact LeO.none _)
      | (with_reducible refine LeO.ite ?_ ?_)
      | (with_reducible refine LeO.bind ?_ (fun _ => ?_))
      | exact ih0 _ _ _
      | exact ih1 _ _ _
      | exact ih2 _ _ _
      | exact LeO.none _
      | refine LeO.ite ?_ ?_
      | refine LeO.bind ?_ (fun _ => ?_)
    · intro y0 y1 y2
      unfold compositorref13_word.l1
      repeat' first
      | (with_reducible exact ih0 _ _ _)
      | (with_reducible exact ih1 _ _ _)
      | (with_reducible exact ih2 _ _ _)
      | (with_reducible exact LeO.refl _)
      | (with_reducible exact LeO.none _)
      | (with_reducible refine LeO.ite ?_ ?_)
      | (with_reducible refine LeO.bind ?_ (fun _ => ?_))
      | exact ih0 _ _ _
      | exact ih1 _ _ _
      | exact ih2 _ _ _
      | exact LeO.none _
      | refine LeO.ite ?_ ?_
      | refine LeO.bind ?_ (fun _ => ?_)
theorem compositorref13_word.mono : ∀ a0 a1 k, LeO (compositorref13_word.f k a0 a1) (compositorref13_word.f (k + 1) a0 a1) := by
  intro a0 a1 k
  obtain ⟨ih0, ih1, ih2⟩ := compositorref13_word.mono_l k
  unfold compositorref13_word.f
  repeat' first
      | (with_reducible exact ih0 _ _ _)
      | (with_reducible exact ih1 _ _ _)
      | (with_reducible exact ih2 _ _ _)
      | (with_reducible exact LeO.refl _)
      | (with_reducible exact LeO.none _)
      | (with_reducible refine LeO.ite ?_ ?_)
      | (with_reducible refine LeO.bind ?_ (fun _ => ?_))
      | exact ih0 _ _ _
      | exact ih1 _ _ _
      | exact ih2 _ _ _
      | exact LeO.none _
      | refine LeO.ite ?_ ?_
      | refine LeO.bind ?_ (fun _ => ?_)
set_option maxHeartbeats 8000000 in
set_option maxRecDepth 100000 in
theorem compositorref13_word.calls (k : Nat) (A0_0 : Option Addr) (c0_0 : Nat) (l0_0 : List Int) (A0_1 : Option Addr) (c0_1 : Nat) (l0_1 : List Int) (r : Bool) (w : World) (hr0_0 : Kd.C (Kd.int .i64) w A0_0 l0_0.length l0_0) (hc0_0 : l0_0.length ≤ c0_0) (hr0_1 : Kd.C (Kd.int .i64) w A0_1 l0_1.length l0_1) (hc0_1 : l0_1.length ≤ c0_1) (h : compositorref13_word.f k l0_0 l0_1 = some r) :
    Calls Try.prog 26 #[.agg #[.slice A0_0 l0_0.length c0_0, .slice A0_1 l0_1.length c0_1]] w fun e w' => e = .returned (.bool r) ∧ Below w.heap.size w w' := by
  have hu36 := Try.underlying36
  have HR0_0 := Aside0.mk hr0_0
  have HC0_0 := Aside0.mk hc0_0
  clear hr0_0 hc0_0
  have HR0_1 := Aside0.mk hr0_1
  have HC0_1 := Aside0.mk hc0_1
  clear hr0_1 hc0_1
  have HB := Aside0.mk (Below.refl w.heap.size w)
  have H : (if (l0_0.length : Int) < 1 then (compositorref13_word.j0 k true l0_0 l0_1) else (compositorref13_word.j0 k (decide ((l0_0.length : Int) > 60)) l0_0 l0_1)) = some r := h
  clear h
  have HC2 := Aside0.mk H
  clear H
  go_enter Try.func26, Try.ntmps26
  go_upto_region 1 with (first | ((with_reducible refine gate_dst (N := 1) rfl ?_); (try (refine gate_guard (by rfl) ?_; dsimp only)); refine box_event ?hg (N := 1) ?hd (cs := #[.slice A0_0 l0_0.length c0_0, .slice A0_1 l0_1.length c0_1]) (t := 36) ?hr ?_; (case hd => rfl); (case hg => rfl); (case hr => first | (go_simp; done) | (go_simp; rfl)); intro gb145 hg w3 hbox hb; have n0_ := Aside0.mk (below_step (by repeat (first | (with_reducible first | exact HB.out | apply below_alloc | apply pw_below_drewN | apply below_drew1) | exact HB.out)) hb); have n1_ := Aside0.mk (hbox); have n2_ := Aside0.mk ((by rw [hg]; exact (below_size (by repeat (first | (with_reducible first | exact HB.out | apply below_alloc | apply pw_below_drewN | apply below_drew1) | exact HB.out))) : w.heap.size ≤ gb145)); have n3_ := Aside0.mk ((by rw [hg]; exact (below_size (by repeat (first | (with_reducible first | exact HB.out | apply below_alloc | apply pw_below_drewN | apply below_drew1) | exact HB.out))) : w.heap.size ≤ gb145)); clear HB; have HB := n0_; have BK145 := n1_; have GW145 := n2_; have GE145 := n3_; clear n0_ n1_ n2_ n3_; clear hb hbox hg))
  repeat (go_quiet (first | ((with_reducible refine gate_dst (N := 1) rfl ?_); (try (refine gate_guard (by rfl) ?_; dsimp only)); refine box_event ?hg (N := 1) ?hd (cs := #[.slice A0_0 l0_0.length c0_0, .slice A0_1 l0_1.length c0_1]) (t := 36) ?hr ?_; (case hd => rfl); (case hg => rfl); (case hr => first | (go_simp; done) | (go_simp; rfl)); intro gb145 hg w3 hbox hb; have n0_ := Aside0.mk (below_step (by repeat (first | (with_reducible first | exact HB.out | apply below_alloc | apply pw_below_drewN | apply below_drew1) | exact HB.out)) hb); have n1_ := Aside0.mk (hbox); have n2_ := Aside0.mk ((by rw [hg]; exact (below_size (by repeat (first | (with_reducible first | exact HB.out | apply below_alloc | apply pw_below_drewN | apply below_drew1) | exact HB.out))) : w.heap.size ≤ gb145)); have n3_ := Aside0.mk ((by rw [hg]; exact (below_size (by repeat (first | (with_reducible first | exact HB.out | apply below_alloc | apply pw_below_drewN | apply below_drew1) | exact HB.out))) : w.heap.size ≤ gb145)); clear HB; have HB := n0_; have BK145 := n1_; have GW145 := n2_; have GE145 := n3_; clear n0_ n1_ n2_ n3_; clear hb hbox hg)); go_upto_region 1 with (first | ((with_reducible refine gate_dst (N := 1) rfl ?_); (try (refine gate_guard (by rfl) ?_; dsimp only)); refine box_event ?hg (N := 1) ?hd (cs := #[.slice A0_0 l0_0.length c0_0, .slice A0_1 l0_1.length c0_1]) (t := 36) ?hr ?_; (case hd => rfl); (case hg => rfl); (case hr => first | (go_simp; done) | (go_simp; rfl)); intro gb145 hg w3 hbox hb; have n0_ := Aside0.mk (below_step (by repeat (first | (with_reducible first | exact HB.out | apply below_alloc | apply pw_below_drewN | apply below_drew1) | exact HB.out)) hb); have n1_ := Aside0.mk (hbox); have n2_ := Aside0.mk ((by rw [hg]; exact (below_size (by repeat (first | (with_reducible first | exact HB.out | apply below_alloc | apply pw_below_drewN | apply below_drew1) | exact HB.out))) : w.heap.size ≤ gb145)); have n3_ := Aside0.mk ((by rw [hg]; exact (below_size (by repeat (first | (with_reducible first | exact HB.out | apply below_alloc | apply pw_below_drewN | apply below_drew1) | exact HB.out))) : w.heap.size ≤ gb145)); clear HB; have HB := n0_; have BK145 := n1_; have GW145 := n2_; have GE145 := n3_; clear n0_ n1_ n2_ n3_; clear hb hbox hg)))
  (try simp only [Act.put, List.setIfInBounds_toArray, List.set_cons_zero, List.set_cons_succ])
  go_cut [14] (fun v14 wc => ∃ (kq : Nat) (x14_1 : Bool), v14 = .bool x14_1 ∧ Aside0 (compositorref13_word.j0 kq x14_1 l0_0 l0_1 = some r) ∧ Aside0 (kq ≤ k) ∧ Aside0 (wc.heap[gb145]? = some (.cells #[(.slice A0_0 l0_0.length c0_0), (.slice A0_1 l0_1.length c0_1)] 36 (0, 0))) ∧ Aside0 (Below w.heap.size w wc))
  case first =>
    have H := HC2.out
    clear HC2
    by_cases c4 : (l0_0.length : Int) < 1
    · rw [if_pos c4] at H
      have c4b0 : decide ((l0_0.length : Int) < 1) = true := decide_eq_true c4
      have c4b1 : decide (l0_0.length < 1) = true := decide_eq_true (by omega)
      clear c4
      (first | rw [c4b0] | (simp only [i64_w, i32_w]; rw [c4b0]) | skip)
      have H' := Aside0.mk H
      clear H
      have hcz5_0 : w3.cell? ⟨gb145, 0, none⟩ = some (.slice A0_0 l0_0.length c0_0) := (blk_cell BK145.out 0).trans rfl
      have hcz5_1 : w3.cell? ⟨gb145, 1, none⟩ = some (.slice A0_1 l0_1.length c0_1) := (blk_cell BK145.out 1).trans rfl
      have hfz5_0 := blk_frozen BK145.out 0
      have hfz5_1 := blk_frozen BK145.out 1
      go_wp2
      repeat (go_quiet (fail); try go_wp2)
      go_meet
      case rel => exact ⟨_, (true), (by first | rfl | (simp; done) | (simp [*]; done)), H', ⟨by first | omega | exact Nat.le_refl _⟩, ⟨by (with_reducible repeat (first | refine blk_drewN ?_ _ | refine blk_drew ?_ | refine blk_alloc ?_ _)); exact BK145.out⟩, ⟨by repeat (first | (with_reducible first | exact HB.out | apply below_alloc | apply pw_below_drewN | apply below_drew1 | refine below_set ?_ GE145.out) | exact HB.out)⟩⟩
    · rw [if_neg c4] at H
      have c4b0 : decide ((l0_0.length : Int) < 1) = false := decide_eq_false c4
      have c4b1 : decide (l0_0.length < 1) = false := decide_eq_false (by omega)
      clear c4
      (first | rw [c4b0] | (simp only [i64_w, i32_w]; rw [c4b0]) | skip)
      have H' := Aside0.mk H
      clear H
      have hcz6_0 : w3.cell? ⟨gb145, 0, none⟩ = some (.slice A0_0 l0_0.length c0_0) := (blk_cell BK145.out 0).trans rfl
      have hcz6_1 : w3.cell? ⟨gb145, 1, none⟩ = some (.slice A0_1 l0_1.length c0_1) := (blk_cell BK145.out 1).trans rfl
      have hfz6_0 := blk_frozen BK145.out 0
      have hfz6_1 := blk_frozen BK145.out 1
      go_wp2
      repeat (go_quiet (fail); try go_wp2)
      go_meet
      case rel => exact ⟨_, (decide ((l0_0.length : Int) > 60)), (by first | rfl | (simp; done) | (simp [*]; done)), H', ⟨by first | omega | exact Nat.le_refl _⟩, ⟨by (with_reducible repeat (first | refine blk_drewN ?_ _ | refine blk_drew ?_ | refine blk_alloc ?_ _)); exact BK145.out⟩, ⟨by repeat (first | (with_reducible first | exact HB.out | apply below_alloc | apply pw_below_drewN | apply below_drew1 | refine below_set ?_ GE145.out) | exact HB.out)⟩⟩
  case rest =>
    clear HC2
    try clear c2
    try clear p2
    try clear c4
    try clear c4b0
    try clear c4b1
    try clear hcz5_0
    try clear hcz5_1
    try clear hcz6_0
    try clear hcz6_1
    try clear hfz5_0
    try clear hfz5_1
    try clear hfz6_0
    try clear hfz6_1
    obtain ⟨kq, x14_1, rfl, HA, HJ1, BK145, HB⟩ := hcut
    cases kq with
    | zero => exact absurd HA.out (by simp [compositorref13_word.j0])
    | succ kj1 =>
      have H := HA.out
      clear HA
      simp only [compositorref13_word.j0] at H
      by_cases c7 : x14_1 = true
      · subst c7
        have H1 : (some false) = some r := by rw [if_pos rfl] at H; exact H
        clear H
        have H := H1
        clear H1
        obtain rfl := Option.some.inj H
        go_wp2
        repeat (go_quiet (fail); try go_wp2)
        go_ret
        exact ⟨by first | rfl | (simp [errW_none, errW_some] <;> rfl) | (simp [*, errW_none, errW_some] <;> rfl), by repeat (first | (with_reducible first | exact HB.out | apply below_alloc | apply pw_below_drewN | apply below_drew1 | refine below_set ?_ GE145.out) | exact HB.out)⟩
      · replace c7 := Bool.eq_false_iff.mpr c7
        subst c7
        have H1 : (compositorref13_word.l0 kj1 0 l0_0 l0_1) = some r := by rw [if_neg (show ¬ (false = true) by decide)] at H; exact H
        clear H
        have H := H1
        clear H1
        have H' := Aside0.mk H
        clear H
        go_wp2
        repeat (go_quiet (fail); try go_wp2)
        go_loopg [3] kj1 (fun kq v3 w' => ∃ (x3_2 : Int), v3 = .int .i64 x3_2 ∧ Aside0 (compositorref13_word.l0 kq x3_2 l0_0 l0_1 = some r) ∧ Aside0 (kq ≤ kj1) ∧ Aside0 (w'.heap[gb145]? = some (.cells #[(.slice A0_0 l0_0.length c0_0), (.slice A0_1 l0_1.length c0_1)] 36 (0, 0))) ∧ Aside0 (Below w.heap.size w w'))
        case atStart => exact ⟨(0), (by first | rfl | (simp; done) | (simp [*]; done)), H', ⟨Nat.le_refl _⟩, ⟨by (with_reducible repeat (first | refine blk_drewN ?_ _ | refine blk_drew ?_ | refine blk_alloc ?_ _)); exact BK145.out⟩, ⟨by repeat (first | (with_reducible first | exact HB.out | apply below_alloc | apply pw_below_drewN | apply below_drew1 | refine below_set ?_ GE145.out) | exact HB.out)⟩⟩
        case round =>
          clear H'
          try clear c2
          try clear p2
          try clear c4
          try clear c4b0
          try clear c4b1
          try clear c7
          try clear hcz5_0
          try clear hcz5_1
          try clear hcz6_0
          try clear hcz6_1
          try clear hfz5_0
          try clear hfz5_1
          try clear hfz6_0
          try clear hfz6_1
          try clear p2
          obtain ⟨x3_2, rfl, HA, HK2, BK145, HB⟩ := hrel
          cases gk with
          | zero => exact absurd HA.out (by simp [compositorref13_word.l0])
          | succ k2 =>
            have H := HA.out
            clear HA
            simp only [compositorref13_word.l0] at H
            by_cases c8 : x3_2 < (l0_0.length : Int)
            · rw [if_pos c8] at H
              have c8b0 : decide (x3_2 < (l0_0.length : Int)) = true := decide_eq_true c8
              clear c8
              by_cases c9 : 0 ≤ x3_2
              · rw [if_pos c9] at H
                have c9b0 : decide (0 ≤ x3_2) = true := decide_eq_true c9
                clear c9
                by_cases c10 : (rd l0_0 x3_2) < 33
                · rw [if_pos c10] at H
                  have c10b0 : decide ((rd l0_0 x3_2) < 33) = true := decide_eq_true c10
                  clear c10
                  obtain rfl := Option.some.inj H
                  have hcz11_0 : wr.cell? ⟨gb145, 0, none⟩ = some (.slice A0_0 l0_0.length c0_0) := (blk_cell BK145.out 0).trans rfl
                  have hcz11_1 : wr.cell? ⟨gb145, 1, none⟩ = some (.slice A0_1 l0_1.length c0_1) := (blk_cell BK145.out 1).trans rfl
                  have hfz11_0 := blk_frozen BK145.out 0
                  have hfz11_1 := blk_frozen BK145.out 1
                  have p146 : 0 ≤ (x3_2 : Int) := of_decide_eq_true (by first | (with_reducible assumption) | assumption)
                  have q146 : x3_2 < (l0_0.length : Int) := of_decide_eq_true (by first | (with_reducible assumption) | assumption)
                  obtain ⟨ad146, e146, hx146_0⟩ := Kd.at_int HR0_0.out x3_2 p146 q146
                  cases e146
                  replace hx146_0 := (HB.out.cell (World.block_lt_of_cell? w _ hx146_0)).trans hx146_0
                  replace p146 := eq_true p146
                  replace q146 := eq_true q146
                  go_wp2
                  repeat (go_quiet (fail); try go_wp2)
                  go_ret
                  exact ⟨by first | rfl | (simp [errW_none, errW_some] <;> rfl) | (simp [*, errW_none, errW_some] <;> rfl), by repeat (first | (with_reducible first | exact HB.out | apply below_alloc | apply pw_below_drewN | apply below_drew1 | refine below_set ?_ GE145.out) | exact HB.out)⟩
                · rw [if_neg c10] at H
                  have c10b0 : decide ((rd l0_0 x3_2) < 33) = false := decide_eq_false c10
                  clear c10
                  by_cases c12 : (rd l0_0 x3_2) > 126
                  · rw [if_pos c12] at H
                    have c12b0 : decide (126 < (rd l0_0 x3_2)) = true := decide_eq_true c12
                    clear c12
                    obtain rfl := Option.some.inj H
                    have hcz13_0 : wr.cell? ⟨gb145, 0, none⟩ = some (.slice A0_0 l0_0.length c0_0) := (blk_cell BK145.out 0).trans rfl
                    have hcz13_1 : wr.cell? ⟨gb145, 1, none⟩ = some (.slice A0_1 l0_1.length c0_1) := (blk_cell BK145.out 1).trans rfl
                    have hfz13_0 := blk_frozen BK145.out 0
                    have hfz13_1 := blk_frozen BK145.out 1
                    have p146 : 0 ≤ (x3_2 : Int) := of_decide_eq_true (by first | (with_reducible assumption) | assumption)
                    have q146 : x3_2 < (l0_0.length : Int) := of_decide_eq_true (by first | (with_reducible assumption) | assumption)
                    obtain ⟨ad146, e146, hx146_0⟩ := Kd.at_int HR0_0.out x3_2 p146 q146
                    cases e146
                    replace hx146_0 := (HB.out.cell (World.block_lt_of_cell? w _ hx146_0)).trans hx146_0
                    replace p146 := eq_true p146
                    replace q146 := eq_true q146
                    have p147 : 0 ≤ (x3_2 : Int) := of_decide_eq_true (by first | (with_reducible assumption) | assumption)
                    have q147 : x3_2 < (l0_0.length : Int) := of_decide_eq_true (by first | (with_reducible assumption) | assumption)
                    obtain ⟨ad147, e147, hx147_0⟩ := Kd.at_int HR0_0.out x3_2 p147 q147
                    obtain rfl : ad146 = ad147 := (by injection e147)
                    replace hx147_0 := (HB.out.cell (World.block_lt_of_cell? w _ hx147_0)).trans hx147_0
                    replace p147 := eq_true p147
                    replace q147 := eq_true q147
                    go_wp2
                    repeat (go_quiet (fail); try go_wp2)
                    go_ret
                    exact ⟨by first | rfl | (simp [errW_none, errW_some] <;> rfl) | (simp [*, errW_none, errW_some] <;> rfl), by repeat (first | (with_reducible first | exact HB.out | apply below_alloc | apply pw_below_drewN | apply below_drew1 | refine below_set ?_ GE145.out) | exact HB.out)⟩
                  · rw [if_neg c12] at H
                    have c12b0 : decide (126 < (rd l0_0 x3_2)) = false := decide_eq_false c12
                    clear c12
                    have H' := Aside0.mk H
                    clear H
                    have hcz14_0 : wr.cell? ⟨gb145, 0, none⟩ = some (.slice A0_0 l0_0.length c0_0) := (blk_cell BK145.out 0).trans rfl
                    have hcz14_1 : wr.cell? ⟨gb145, 1, none⟩ = some (.slice A0_1 l0_1.length c0_1) := (blk_cell BK145.out 1).trans rfl
                    have hfz14_0 := blk_frozen BK145.out 0
                    have hfz14_1 := blk_frozen BK145.out 1
                    have p146 : 0 ≤ (x3_2 : Int) := of_decide_eq_true (by first | (with_reducible assumption) | assumption)
                    have q146 : x3_2 < (l0_0.length : Int) := of_decide_eq_true (by first | (with_reducible assumption) | assumption)
                    obtain ⟨ad146, e146, hx146_0⟩ := Kd.at_int HR0_0.out x3_2 p146 q146
                    cases e146
                    replace hx146_0 := (HB.out.cell (World.block_lt_of_cell? w _ hx146_0)).trans hx146_0
                    replace p146 := eq_true p146
                    replace q146 := eq_true q146
                    have p147 : 0 ≤ (x3_2 : Int) := of_decide_eq_true (by first | (with_reducible assumption) | assumption)
                    have q147 : x3_2 < (l0_0.length : Int) := of_decide_eq_true (by first | (with_reducible assumption) | assumption)
                    obtain ⟨ad147, e147, hx147_0⟩ := Kd.at_int HR0_0.out x3_2 p147 q147
                    obtain rfl : ad146 = ad147 := (by injection e147)
                    replace hx147_0 := (HB.out.cell (World.block_lt_of_cell? w _ hx147_0)).trans hx147_0
                    replace p147 := eq_true p147
                    replace q147 := eq_true q147
                    go_wp2
                    repeat (go_quiet (fail); try go_wp2)
                    go_roundg k2
                    case measure => have := HJ1.out; have := HK2.out; omega
                    case rel => exact ⟨(wrap64 (x3_2 + 1)), (by first | rfl | (simp; done) | (simp [*]; done)), H', ⟨by have := HJ1.out; have := HK2.out; omega⟩, ⟨by (with_reducible repeat (first | refine blk_drewN ?_ _ | refine blk_drew ?_ | refine blk_alloc ?_ _)); exact BK145.out⟩, ⟨by repeat (first | (with_reducible first | exact HB.out | apply below_alloc | apply pw_below_drewN | apply below_drew1 | refine below_set ?_ GE145.out) | exact HB.out)⟩⟩
              · rw [if_neg c9] at H
                exact absurd H (by simp)
            · rw [if_neg c8] at H
              have c8b0 : decide (x3_2 < (l0_0.length : Int)) = false := decide_eq_false c8
              clear c8
              have H' := Aside0.mk H
              clear H
              have hcz15_0 : wr.cell? ⟨gb145, 0, none⟩ = some (.slice A0_0 l0_0.length c0_0) := (blk_cell BK145.out 0).trans rfl
              have hcz15_1 : wr.cell? ⟨gb145, 1, none⟩ = some (.slice A0_1 l0_1.length c0_1) := (blk_cell BK145.out 1).trans rfl
              have hfz15_0 := blk_frozen BK145.out 0
              have hfz15_1 := blk_frozen BK145.out 1
              go_wp2
              repeat (go_quiet (fail); try go_wp2)
              go_loopg [4] k2 (fun kq v4 w' => ∃ (x4_3 : Int), v4 = .int .i64 x4_3 ∧ Aside0 (compositorref13_word.l1 kq x4_3 l0_0 l0_1 = some r) ∧ Aside0 (kq ≤ k2) ∧ Aside0 (w'.heap[gb145]? = some (.cells #[(.slice A0_0 l0_0.length c0_0), (.slice A0_1 l0_1.length c0_1)] 36 (0, 0))) ∧ Aside0 (Below w.heap.size w w'))
              case atStart => exact ⟨(0), (by first | rfl | (simp; done) | (simp [*]; done)), H', ⟨Nat.le_refl _⟩, ⟨by (with_reducible repeat (first | refine blk_drewN ?_ _ | refine blk_drew ?_ | refine blk_alloc ?_ _)); exact BK145.out⟩, ⟨by repeat (first | (with_reducible first | exact HB.out | apply below_alloc | apply pw_below_drewN | apply below_drew1 | refine below_set ?_ GE145.out) | exact HB.out)⟩⟩
              case round =>
                clear H'
                try clear c1
                try clear p1
                try clear q1
                try clear hx1
                try clear c2
                try clear p2
                try clear c4
                try clear c4b0
                try clear c4b1
                try clear p6
                try clear c7
                try clear c8
                try clear c8b0
                try clear c9
                try clear c9b0
                try clear c10
                try clear c10b0
                try clear c12
                try clear c12b0
                try clear p14
                try clear q14
                try clear hx14
                try clear hcz11_0
                try clear hcz11_1
                try clear hcz13_0
                try clear hcz13_1
                try clear hcz14_0
                try clear hcz14_1
                try clear hcz15_0
                try clear hcz15_1
                try clear hcz5_0
                try clear hcz5_1
                try clear hcz6_0
                try clear hcz6_1
                try clear hfz11_0
                try clear hfz11_1
                try clear hfz13_0
                try clear hfz13_1
                try clear hfz14_0
                try clear hfz14_1
                try clear hfz15_0
                try clear hfz15_1
                try clear hfz5_0
                try clear hfz5_1
                try clear hfz6_0
                try clear hfz6_1
                try clear hx146_0
                try clear hx147_0
                try clear p146
                try clear p147
                try clear p2
                try clear q146
                try clear q147
                obtain ⟨x4_3, rfl, HA, HK3, BK145, HB⟩ := hrel
                cases gk with
                | zero => exact absurd HA.out (by simp [compositorref13_word.l1])
                | succ k3 =>
                  have H := HA.out
                  clear HA
                  simp only [compositorref13_word.l1] at H
                  by_cases c16 : x4_3 < (l0_1.length : Int)
                  · rw [if_pos c16] at H
                    have c16b0 : decide (x4_3 < (l0_1.length : Int)) = true := decide_eq_true c16
                    clear c16
                    by_cases c17 : 0 ≤ x4_3
                    · rw [if_pos c17] at H
                      have c17b0 : decide (0 ≤ x4_3) = true := decide_eq_true c17
                      clear c17
                      by_cases c18 : (rd l0_1 x4_3) < 1
                      · rw [if_pos c18] at H
                        have c18b0 : decide ((rd l0_1 x4_3) < 1) = true := decide_eq_true c18
                        clear c18
                        obtain rfl := Option.some.inj H
                        have hcz19_0 : wr.cell? ⟨gb145, 0, none⟩ = some (.slice A0_0 l0_0.length c0_0) := (blk_cell BK145.out 0).trans rfl
                        have hcz19_1 : wr.cell? ⟨gb145, 1, none⟩ = some (.slice A0_1 l0_1.length c0_1) := (blk_cell BK145.out 1).trans rfl
                        have hfz19_0 := blk_frozen BK145.out 0
                        have hfz19_1 := blk_frozen BK145.out 1
                        have p148 : 0 ≤ (x4_3 : Int) := of_decide_eq_true (by first | (with_reducible assumption) | assumption)
                        have q148 : x4_3 < (l0_1.length : Int) := of_decide_eq_true (by first | (with_reducible assumption) | assumption)
                        obtain ⟨ad148, e148, hx148_0⟩ := Kd.at_int HR0_1.out x4_3 p148 q148
                        cases e148
                        replace hx148_0 := (HB.out.cell (World.block_lt_of_cell? w _ hx148_0)).trans hx148_0
                        replace p148 := eq_true p148
                        replace q148 := eq_true q148
                        go_wp2
                        repeat (go_quiet (fail); try go_wp2)
                        go_ret
                        exact ⟨by first | rfl | (simp [errW_none, errW_some] <;> rfl) | (simp [*, errW_none, errW_some] <;> rfl), by repeat (first | (with_reducible first | exact HB.out | apply below_alloc | apply pw_below_drewN | apply below_drew1 | refine below_set ?_ GE145.out) | exact HB.out)⟩
                      · rw [if_neg c18] at H
                        have c18b0 : decide ((rd l0_1 x4_3) < 1) = false := decide_eq_false c18
                        clear c18
                        by_cases c20 : (rd l0_1 x4_3) ≥ (l0_0.length : Int)
                        · rw [if_pos c20] at H
                          have c20b0 : decide ((l0_0.length : Int) ≤ (rd l0_1 x4_3)) = true := decide_eq_true c20
                          clear c20
                          obtain rfl := Option.some.inj H
                          have hcz21_0 : wr.cell? ⟨gb145, 0, none⟩ = some (.slice A0_0 l0_0.length c0_0) := (blk_cell BK145.out 0).trans rfl
                          have hcz21_1 : wr.cell? ⟨gb145, 1, none⟩ = some (.slice A0_1 l0_1.length c0_1) := (blk_cell BK145.out 1).trans rfl
                          have hfz21_0 := blk_frozen BK145.out 0
                          have hfz21_1 := blk_frozen BK145.out 1
                          have p148 : 0 ≤ (x4_3 : Int) := of_decide_eq_true (by first | (with_reducible assumption) | assumption)
                          have q148 : x4_3 < (l0_1.length : Int) := of_decide_eq_true (by first | (with_reducible assumption) | assumption)
                          obtain ⟨ad148, e148, hx148_0⟩ := Kd.at_int HR0_1.out x4_3 p148 q148
                          cases e148
                          replace hx148_0 := (HB.out.cell (World.block_lt_of_cell? w _ hx148_0)).trans hx148_0
                          replace p148 := eq_true p148
                          replace q148 := eq_true q148
                          have p149 : 0 ≤ (x4_3 : Int) := of_decide_eq_true (by first | (with_reducible assumption) | assumption)
                          have q149 : x4_3 < (l0_1.length : Int) := of_decide_eq_true (by first | (with_reducible assumption) | assumption)
                          obtain ⟨ad149, e149, hx149_0⟩ := Kd.at_int HR0_1.out x4_3 p149 q149
                          obtain rfl : ad148 = ad149 := (by injection e149)
                          replace hx149_0 := (HB.out.cell (World.block_lt_of_cell? w _ hx149_0)).trans hx149_0
                          replace p149 := eq_true p149
                          replace q149 := eq_true q149
                          go_wp2
                          repeat (go_quiet (fail); try go_wp2)
                          go_ret
                          exact ⟨by first | rfl | (simp [errW_none, errW_some] <;> rfl) | (simp [*, errW_none, errW_some] <;> rfl), by repeat (first | (with_reducible first | exact HB.out | apply below_alloc | apply pw_below_drewN | apply below_drew1 | refine below_set ?_ GE145.out) | exact HB.out)⟩
                        · rw [if_neg c20] at H
                          have c20b0 : decide ((l0_0.length : Int) ≤ (rd l0_1 x4_3)) = false := decide_eq_false c20
                          clear c20
                          by_cases c22 : x4_3 > 0
                          · rw [if_pos c22] at H
                            have c22b0 : decide (0 < x4_3) = true := decide_eq_true c22
                            clear c22
                            obtain ⟨ji23, hji23⟩ : ∃ j_ : Int, (wrap64 (x4_3 - 1)) = j_ := ⟨_, rfl⟩
                            replace H : (if 0 ≤ (ji23) then (if (ji23) < (l0_1.length : Int) then (if (rd l0_1 (ji23)) ≥ (rd l0_1 x4_3) then (some false) else (compositorref13_word.l1 k3 (wrap64 (x4_3 + 1)) l0_0 l0_1)) else (none)) else (none)) = some r := by first | (rw [hji23] at H; exact H) | (simp only [hji23] at H ⊢; exact H)
                            have hji23w : (IntKind.i64.wrap (x4_3 - 1)) = ji23 := (i64_w _).trans hji23
                            by_cases c24 : 0 ≤ (ji23)
                            · rw [if_pos c24] at H
                              have c24b0 : decide (0 ≤ (ji23)) = true := decide_eq_true c24
                              clear c24
                              by_cases c25 : (ji23) < (l0_1.length : Int)
                              · rw [if_pos c25] at H
                                have c25b0 : decide ((ji23) < (l0_1.length : Int)) = true := decide_eq_true c25
                                clear c25
                                by_cases c26 : (rd l0_1 (ji23)) ≥ (rd l0_1 x4_3)
                                · rw [if_pos c26] at H
                                  have c26b0 : decide ((rd l0_1 x4_3) ≤ (rd l0_1 (ji23))) = true := decide_eq_true c26
                                  clear c26
                                  obtain rfl := Option.some.inj H
                                  have hcz27_0 : wr.cell? ⟨gb145, 0, none⟩ = some (.slice A0_0 l0_0.length c0_0) := (blk_cell BK145.out 0).trans rfl
                                  have hcz27_1 : wr.cell? ⟨gb145, 1, none⟩ = some (.slice A0_1 l0_1.length c0_1) := (blk_cell BK145.out 1).trans rfl
                                  have hfz27_0 := blk_frozen BK145.out 0
                                  have hfz27_1 := blk_frozen BK145.out 1
                                  have p148 : 0 ≤ (x4_3 : Int) := of_decide_eq_true (by first | (with_reducible assumption) | assumption)
                                  have q148 : x4_3 < (l0_1.length : Int) := of_decide_eq_true (by first | (with_reducible assumption) | assumption)
                                  obtain ⟨ad148, e148, hx148_0⟩ := Kd.at_int HR0_1.out x4_3 p148 q148
                                  cases e148
                                  replace hx148_0 := (HB.out.cell (World.block_lt_of_cell? w _ hx148_0)).trans hx148_0
                                  replace p148 := eq_true p148
                                  replace q148 := eq_true q148
                                  have p149 : 0 ≤ (x4_3 : Int) := of_decide_eq_true (by first | (with_reducible assumption) | assumption)
                                  have q149 : x4_3 < (l0_1.length : Int) := of_decide_eq_true (by first | (with_reducible assumption) | assumption)
                                  obtain ⟨ad149, e149, hx149_0⟩ := Kd.at_int HR0_1.out x4_3 p149 q149
                                  obtain rfl : ad148 = ad149 := (by injection e149)
                                  replace hx149_0 := (HB.out.cell (World.block_lt_of_cell? w _ hx149_0)).trans hx149_0
                                  replace p149 := eq_true p149
                                  replace q149 := eq_true q149
                                  have p150 : 0 ≤ ((ji23) : Int) := of_decide_eq_true (by first | (with_reducible assumption) | assumption)
                                  have q150 : (ji23) < (l0_1.length : Int) := of_decide_eq_true (by first | (with_reducible assumption) | assumption)
                                  obtain ⟨ad150, e150, hx150_0⟩ := Kd.at_int HR0_1.out (ji23) p150 q150
                                  obtain rfl : ad148 = ad150 := (by injection e150)
                                  replace hx150_0 := (HB.out.cell (World.block_lt_of_cell? w _ hx150_0)).trans hx150_0
                                  replace p150 := eq_true p150
                                  replace q150 := eq_true q150
                                  have p151 : 0 ≤ (x4_3 : Int) := of_decide_eq_true (by first | (with_reducible assumption) | assumption)
                                  have q151 : x4_3 < (l0_1.length : Int) := of_decide_eq_true (by first | (with_reducible assumption) | assumption)
                                  obtain ⟨ad151, e151, hx151_0⟩ := Kd.at_int HR0_1.out x4_3 p151 q151
                                  obtain rfl : ad148 = ad151 := (by injection e151)
                                  replace hx151_0 := (HB.out.cell (World.block_lt_of_cell? w _ hx151_0)).trans hx151_0
                                  replace p151 := eq_true p151
                                  replace q151 := eq_true q151
                                  go_wp2
                                  repeat (go_quiet (fail); try go_wp2)
                                  go_ret
                                  exact ⟨by first | rfl | (simp [errW_none, errW_some] <;> rfl) | (simp only [← hji23]; first | rfl | (simp [errW_none, errW_some] <;> rfl)) | (simp [*, errW_none, errW_some] <;> rfl), by repeat (first | (with_reducible first | exact HB.out | apply below_alloc | apply pw_below_drewN | apply below_drew1 | refine below_set ?_ GE145.out) | exact HB.out)⟩
                                · rw [if_neg c26] at H
                                  have c26b0 : decide ((rd l0_1 x4_3) ≤ (rd l0_1 (ji23))) = false := decide_eq_false c26
                                  clear c26
                                  have H' := Aside0.mk H
                                  clear H
                                  have hcz28_0 : wr.cell? ⟨gb145, 0, none⟩ = some (.slice A0_0 l0_0.length c0_0) := (blk_cell BK145.out 0).trans rfl
                                  have hcz28_1 : wr.cell? ⟨gb145, 1, none⟩ = some (.slice A0_1 l0_1.length c0_1) := (blk_cell BK145.out 1).trans rfl
                                  have hfz28_0 := blk_frozen BK145.out 0
                                  have hfz28_1 := blk_frozen BK145.out 1
                                  have p148 : 0 ≤ (x4_3 : Int) := of_decide_eq_true (by first | (with_reducible assumption) | assumption)
                                  have q148 : x4_3 < (l0_1.length : Int) := of_decide_eq_true (by first | (with_reducible assumption) | assumption)
                                  obtain ⟨ad148, e148, hx148_0⟩ := Kd.at_int HR0_1.out x4_3 p148 q148
                                  cases e148
                                  replace hx148_0 := (HB.out.cell (World.block_lt_of_cell? w _ hx148_0)).trans hx148_0
                                  replace p148 := eq_true p148
                                  replace q148 := eq_true q148
                                  have p149 : 0 ≤ (x4_3 : Int) := of_decide_eq_true (by first | (with_reducible assumption) | assumption)
                                  have q149 : x4_3 < (l0_1.length : Int) := of_decide_eq_true (by first | (with_reducible assumption) | assumption)
                                  obtain ⟨ad149, e149, hx149_0⟩ := Kd.at_int HR0_1.out x4_3 p149 q149
                                  obtain rfl : ad148 = ad149 := (by injection e149)
                                  replace hx149_0 := (HB.out.cell (World.block_lt_of_cell? w _ hx149_0)).trans hx149_0
                                  replace p149 := eq_true p149
                                  replace q149 := eq_true q149
                                  have p150 : 0 ≤ ((ji23) : Int) := of_decide_eq_true (by first | (with_reducible assumption) | assumption)
                                  have q150 : (ji23) < (l0_1.length : Int) := of_decide_eq_true (by first | (with_reducible assumption) | assumption)
                                  obtain ⟨ad150, e150, hx150_0⟩ := Kd.at_int HR0_1.out (ji23) p150 q150
                                  obtain rfl : ad148 = ad150 := (by injection e150)
                                  replace hx150_0 := (HB.out.cell (World.block_lt_of_cell? w _ hx150_0)).trans hx150_0
                                  replace p150 := eq_true p150
                                  replace q150 := eq_true q150
                                  have p151 : 0 ≤ (x4_3 : Int) := of_decide_eq_true (by first | (with_reducible assumption) | assumption)
                                  have q151 : x4_3 < (l0_1.length : Int) := of_decide_eq_true (by first | (with_reducible assumption) | assumption)
                                  obtain ⟨ad151, e151, hx151_0⟩ := Kd.at_int HR0_1.out x4_3 p151 q151
                                  obtain rfl : ad148 = ad151 := (by injection e151)
                                  replace hx151_0 := (HB.out.cell (World.block_lt_of_cell? w _ hx151_0)).trans hx151_0
                                  replace p151 := eq_true p151
                                  replace q151 := eq_true q151
                                  go_wp2
                                  repeat (go_quiet (fail); try go_wp2)
                                  go_roundg k3
                                  case measure => have := HJ1.out; have := HK2.out; have := HK3.out; omega
                                  case rel => exact ⟨(wrap64 (x4_3 + 1)), (by first | rfl | (simp; done) | (simp [*]; done)), H', ⟨by have := HJ1.out; have := HK2.out; have := HK3.out; omega⟩, ⟨by (with_reducible repeat (first | refine blk_drewN ?_ _ | refine blk_drew ?_ | refine blk_alloc ?_ _)); exact BK145.out⟩, ⟨by repeat (first | (with_reducible first | exact HB.out | apply below_alloc | apply pw_below_drewN | apply below_drew1 | refine below_set ?_ GE145.out) | exact HB.out)⟩⟩
                              · rw [if_neg c25] at H
                                exact absurd H (by simp)
                            · rw [if_neg c24] at H
                              exact absurd H (by simp)
                          · rw [if_neg c22] at H
                            have c22b0 : decide (0 < x4_3) = false := decide_eq_false c22
                            clear c22
                            have H' := Aside0.mk H
                            clear H
                            have hcz29_0 : wr.cell? ⟨gb145, 0, none⟩ = some (.slice A0_0 l0_0.length c0_0) := (blk_cell BK145.out 0).trans rfl
                            have hcz29_1 : wr.cell? ⟨gb145, 1, none⟩ = some (.slice A0_1 l0_1.length c0_1) := (blk_cell BK145.out 1).trans rfl
                            have hfz29_0 := blk_frozen BK145.out 0
                            have hfz29_1 := blk_frozen BK145.out 1
                            have p148 : 0 ≤ (x4_3 : Int) := of_decide_eq_true (by first | (with_reducible assumption) | assumption)
                            have q148 : x4_3 < (l0_1.length : Int) := of_decide_eq_true (by first | (with_reducible assumption) | assumption)
                            obtain ⟨ad148, e148, hx148_0⟩ := Kd.at_int HR0_1.out x4_3 p148 q148
                            cases e148
                            replace hx148_0 := (HB.out.cell (World.block_lt_of_cell? w _ hx148_0)).trans hx148_0
                            replace p148 := eq_true p148
                            replace q148 := eq_true q148
                            have p149 : 0 ≤ (x4_3 : Int) := of_decide_eq_true (by first | (with_reducible assumption) | assumption)
                            have q149 : x4_3 < (l0_1.length : Int) := of_decide_eq_true (by first | (with_reducible assumption) | assumption)
                            obtain ⟨ad149, e149, hx149_0⟩ := Kd.at_int HR0_1.out x4_3 p149 q149
                            obtain rfl : ad148 = ad149 := (by injection e149)
                            replace hx149_0 := (HB.out.cell (World.block_lt_of_cell? w _ hx149_0)).trans hx149_0
                            replace p149 := eq_true p149
                            replace q149 := eq_true q149
                            go_wp2
                            repeat (go_quiet (fail); try go_wp2)
                            go_roundg k3
                            case measure => have := HJ1.out; have := HK2.out; have := HK3.out; omega
                            case rel => exact ⟨(wrap64 (x4_3 + 1)), (by first | rfl | (simp; done) | (simp [*]; done)), H', ⟨by have := HJ1.out; have := HK2.out; have := HK3.out; omega⟩, ⟨by (with_reducible repeat (first | refine blk_drewN ?_ _ | refine blk_drew ?_ | refine blk_alloc ?_ _)); exact BK145.out⟩, ⟨by repeat (first | (with_reducible first | exact HB.out | apply below_alloc | apply pw_below_drewN | apply below_drew1 | refine below_set ?_ GE145.out) | exact HB.out)⟩⟩
                    · rw [if_neg c17] at H
                      exact absurd H (by simp)
                  · rw [if_neg c16] at H
                    have c16b0 : decide (x4_3 < (l0_1.length : Int)) = false := decide_eq_false c16
                    clear c16
                    obtain rfl := Option.some.inj H
                    have hcz30_0 : wr.cell? ⟨gb145, 0, none⟩ = some (.slice A0_0 l0_0.length c0_0) := (blk_cell BK145.out 0).trans rfl
                    have hcz30_1 : wr.cell? ⟨gb145, 1, none⟩ = some (.slice A0_1 l0_1.length c0_1) := (blk_cell BK145.out 1).trans rfl
                    have hfz30_0 := blk_frozen BK145.out 0
                    have hfz30_1 := blk_frozen BK145.out 1
                    go_wp2
                    repeat (go_quiet (fail); try go_wp2)
                    go_ret
                    exact ⟨by first | rfl | (simp [errW_none, errW_some] <;> rfl) | (simp [*, errW_none, errW_some] <;> rfl), by repeat (first | (with_reducible first | exact HB.out | apply below_alloc | apply pw_below_drewN | apply below_drew1 | refine below_set ?_ GE145.out) | exact HB.out)⟩

/-! ### compositorref13_Check: function 18 -/
mutual
def compositorref13_Check.j0 : Nat → List (S36) → Bool → Option (Bool)
  | 0, _, _ => none
  | k + 1, x0, x13 => if x13 = true then (some false) else (compositorref13_Check.l0 k x0 0 0)
def compositorref13_Check.l0 : Nat → List (S36) → Int → Int → Option (Bool)
  | 0, _, _, _ => none
  | k + 1, x0, x3, x4 => if x4 < (x0.length : Int) then (if 0 ≤ x4 then ((compositorref13_word.f k ((rd_T36 x0 x4).f0) ((rd_T36 x0 x4).f1)).bind fun t153 => (if t153 = true then (compositorref13_Check.l0 k x0 (wrap64 (x3 + (((rd_T36 x0 x4).f0).length : Int))) (wrap64 (x4 + 1))) else (some false))) else (none)) else (some (decide (x3 ≤ 400)))
end
def compositorref13_Check.f (k : Nat) (l0 : List (S36)) : Option (Bool) := if (l0.length : Int) < 1 then (compositorref13_Check.j0 k l0 true) else (compositorref13_Check.j0 k l0 (decide ((l0.length : Int) > 100)))
theorem compositorref13_Check.mono_l : ∀ k, (∀ y0 y1, LeO (compositorref13_Check.j0 k y0 y1) (compositorref13_Check.j0 (k + 1) y0 y1)) ∧ (∀ y0 y1 y2, LeO (compositorref13_Check.l0 k y0 y1 y2) (compositorref13_Check.l0 (k + 1) y0 y1 y2))
  | 0 => ⟨fun _ _ r h => by simp [compositorref13_Check.j0] at h, fun _ _ _ r h => by simp [compositorref13_Check.l0] at h⟩
  | k + 1 => by
    obtain ⟨ih0, ih1⟩ := compositorref13_Check.mono_l k
    refine ⟨?_, ?_⟩
    · intro y0 y1
      unfold compositorref13_Check.j0
      repeat' first
      | (with_reducible exact ih0 _ _)
      | (with_reducible exact ih1 _ _ _)
      | (with_reducible exact compositorref13_word.mono _ _ _)
      | (with_reducible exact LeO.refl _)
      | (with_reducible exact LeO.none _)
      | (with_reducible refine LeO.ite ?_ ?_)
      | (with_reducible refine LeO.bind ?_ (fun _ => ?_))
      | exact ih0 _ _
      | exact ih1 _ _ _
      | exact compositorref13_word.mono _ _ _
      | exact LeO.none _
      | refine LeO.ite ?_ ?_
      | refine LeO.bind ?_ (fun _ => ?_)
    · intro y0 y1 y2
      unfold compositorref13_Check.l0
      repeat' first
      | (with_reducible exact ih0 _ _)
      | (with_reducible exact ih1 _ _ _)
      | (with_reducible exact compositorref13_word.mono _ _ _)
      | (with_reducible exact LeO.refl _)
      | (with_reducible exact LeO.none _)
      | (with_reducible refine LeO.ite ?_ ?_)
      | (with_reducible refine LeO.bind ?_ (fun _ => ?_))
      | exact ih0 _ _
      | exact ih1 _ _ _
      | exact compositorref13_word.mono _ _ _
      | exact LeO.none _
      | refine LeO.ite ?_ ?_
      | refine LeO.bind ?_ (fun _ => ?_)
theorem compositorref13_Check.mono : ∀ a0 k, LeO (compositorref13_Check.f k a0) (compositorref13_Check.f (k + 1) a0) := by
  intro a0 k
  obtain ⟨ih0, ih1⟩ := compositorref13_Check.mono_l k
  unfold compositorref13_Check.f
  repeat' first
      | (with_reducible exact ih0 _ _)
      | (with_reducible exact ih1 _ _ _)
      | (with_reducible exact compositorref13_word.mono _ _ _)
      | (with_reducible exact LeO.refl _)
      | (with_reducible exact LeO.none _)
      | (with_reducible refine LeO.ite ?_ ?_)
      | (with_reducible refine LeO.bind ?_ (fun _ => ?_))
      | exact ih0 _ _
      | exact ih1 _ _ _
      | exact compositorref13_word.mono _ _ _
      | exact LeO.none _
      | refine LeO.ite ?_ ?_
      | refine LeO.bind ?_ (fun _ => ?_)
set_option maxHeartbeats 8000000 in
set_option maxRecDepth 100000 in
theorem compositorref13_Check.calls (k : Nat) (A0 : Option Addr) (c0 : Nat) (l0 : List (S36)) (r : Bool) (w : World) (hr0 : Kd.C k36 w A0 l0.length l0) (hc0 : l0.length ≤ c0) (h : compositorref13_Check.f k l0 = some r) :
    Calls Try.prog 18 #[.slice A0 l0.length c0] w fun e w' => e = .returned (.bool r) ∧ Below w.heap.size w w' := by
  have hu36 := Try.underlying36
  have HR0 := Aside0.mk hr0
  have HC0 := Aside0.mk hc0
  clear hr0 hc0
  have HB := Aside0.mk (Below.refl w.heap.size w)
  have H : (if (l0.length : Int) < 1 then (compositorref13_Check.j0 k l0 true) else (compositorref13_Check.j0 k l0 (decide ((l0.length : Int) > 100)))) = some r := h
  clear h
  have HC2 := Aside0.mk H
  clear H
  go_enter Try.func18, Try.ntmps18
  go_upto_region 1 with (fail)
  go_cut [13] (fun v13 wc => ∃ (kq : Nat) (x13_1 : Bool), v13 = .bool x13_1 ∧ Aside0 (compositorref13_Check.j0 kq l0 x13_1 = some r) ∧ Aside0 (kq ≤ k) ∧ Aside0 (Below w.heap.size w wc))
  case first =>
    have H := HC2.out
    clear HC2
    by_cases c3 : (l0.length : Int) < 1
    · rw [if_pos c3] at H
      have c3b0 : decide ((l0.length : Int) < 1) = true := decide_eq_true c3
      have c3b1 : decide (l0.length < 1) = true := decide_eq_true (by omega)
      clear c3
      (first | rw [c3b0] | (simp only [i64_w, i32_w]; rw [c3b0]) | skip)
      have H' := Aside0.mk H
      clear H
      go_wp2
      go_meet
      case rel => exact ⟨_, (true), (by first | rfl | (simp; done) | (simp [*]; done)), H', ⟨by first | omega | exact Nat.le_refl _⟩, ⟨by repeat (first | (with_reducible first | exact HB.out | apply below_alloc | apply pw_below_drewN | apply below_drew1) | exact HB.out)⟩⟩
    · rw [if_neg c3] at H
      have c3b0 : decide ((l0.length : Int) < 1) = false := decide_eq_false c3
      have c3b1 : decide (l0.length < 1) = false := decide_eq_false (by omega)
      clear c3
      (first | rw [c3b0] | (simp only [i64_w, i32_w]; rw [c3b0]) | skip)
      have H' := Aside0.mk H
      clear H
      go_wp2
      go_meet
      case rel => exact ⟨_, (decide ((l0.length : Int) > 100)), (by first | rfl | (simp; done) | (simp [*]; done)), H', ⟨by first | omega | exact Nat.le_refl _⟩, ⟨by repeat (first | (with_reducible first | exact HB.out | apply below_alloc | apply pw_below_drewN | apply below_drew1) | exact HB.out)⟩⟩
  case rest =>
    clear HC2
    try clear c1
    try clear p2
    try clear c3
    try clear c3b0
    try clear c3b1
    obtain ⟨kq, x13_1, rfl, HA, HJ1, HB⟩ := hcut
    cases kq with
    | zero => exact absurd HA.out (by simp [compositorref13_Check.j0])
    | succ kj1 =>
      have H := HA.out
      clear HA
      simp only [compositorref13_Check.j0] at H
      by_cases c4 : x13_1 = true
      · subst c4
        have H1 : (some false) = some r := by rw [if_pos rfl] at H; exact H
        clear H
        have H := H1
        clear H1
        obtain rfl := Option.some.inj H
        go_wp2
        go_ret
        exact ⟨by first | rfl | (simp [errW_none, errW_some] <;> rfl) | (simp [*, errW_none, errW_some] <;> rfl), by repeat (first | (with_reducible first | exact HB.out | apply below_alloc | apply pw_below_drewN | apply below_drew1) | exact HB.out)⟩
      · replace c4 := Bool.eq_false_iff.mpr c4
        subst c4
        have H1 : (compositorref13_Check.l0 kj1 l0 0 0) = some r := by rw [if_neg (show ¬ (false = true) by decide)] at H; exact H
        clear H
        have H := H1
        clear H1
        have H' := Aside0.mk H
        clear H
        go_wp2
        go_loopg [3, 4] kj1 (fun kq v3 v4 w' => ∃ (x3_2 : Int) (x4_2 : Int), v3 = .int .i64 x3_2 ∧ v4 = .int .i64 x4_2 ∧ Aside0 (compositorref13_Check.l0 kq l0 x3_2 x4_2 = some r) ∧ Aside0 (kq ≤ kj1) ∧ Aside0 (Below w.heap.size w w'))
        case atStart => exact ⟨(0), (0), (by first | rfl | (simp; done) | (simp [*]; done)), (by first | rfl | (simp; done) | (simp [*]; done)), H', ⟨Nat.le_refl _⟩, ⟨by repeat (first | (with_reducible first | exact HB.out | apply below_alloc | apply pw_below_drewN | apply below_drew1) | exact HB.out)⟩⟩
        case round =>
          clear H'
          try clear c1
          try clear p2
          try clear c3
          try clear c3b0
          try clear c3b1
          try clear c4
          try clear p2
          obtain ⟨x3_2, x4_2, rfl, rfl, HA, HK2, HB⟩ := hrel
          cases gk with
          | zero => exact absurd HA.out (by simp [compositorref13_Check.l0])
          | succ k2 =>
            have H := HA.out
            clear HA
            simp only [compositorref13_Check.l0] at H
            by_cases c5 : x4_2 < (l0.length : Int)
            · rw [if_pos c5] at H
              have c5b0 : decide (x4_2 < (l0.length : Int)) = true := decide_eq_true c5
              clear c5
              by_cases c6 : 0 ≤ x4_2
              · rw [if_pos c6] at H
                have c6b0 : decide (0 ≤ x4_2) = true := decide_eq_true c6
                clear c6
                replace H := Option.bind_eq_some_iff.mp H
                obtain ⟨t153, A70, H⟩ := H
                replace H : (if t153 = true then (compositorref13_Check.l0 k2 l0 (wrap64 (x3_2 + (((rd_T36 l0 x4_2).f0).length : Int))) (wrap64 (x4_2 + 1))) else (some false)) = some r := H
                have A7 := Aside0.mk A70
                clear A70
                by_cases c8 : t153 = true
                · subst c8
                  have H1 : (compositorref13_Check.l0 k2 l0 (wrap64 (x3_2 + (((rd_T36 l0 x4_2).f0).length : Int))) (wrap64 (x4_2 + 1))) = some r := by rw [if_pos rfl] at H; exact H
                  clear H
                  have H := H1
                  clear H1
                  have H' := Aside0.mk H
                  clear H
                  have p152 : 0 ≤ (x4_2 : Int) := of_decide_eq_true (by first | (with_reducible assumption) | assumption)
                  have q152 : x4_2 < (l0.length : Int) := of_decide_eq_true (by first | (with_reducible assumption) | assumption)
                  obtain ⟨ad152, A152_0, c152_0, A152_1, c152_1, e152, hx152_0, hx152_1, hl152_0, hi152_0, hl152_1, hi152_1⟩ := at_T36 HR0.out x4_2 p152 q152
                  cases e152
                  replace hx152_0 := (HB.out.cell (World.block_lt_of_cell? w _ hx152_0)).trans hx152_0
                  replace hx152_1 := (HB.out.cell (World.block_lt_of_cell? w _ hx152_1)).trans hx152_1
                  have HR152_0 := Aside0.mk hi152_0
                  have HC152_0 := Aside0.mk hl152_0
                  clear hi152_0 hl152_0
                  have HR152_1 := Aside0.mk hi152_1
                  have HC152_1 := Aside0.mk hl152_1
                  clear hi152_1 hl152_1
                  replace p152 := eq_true p152
                  replace q152 := eq_true q152
                  go_wp2_with (first | ((with_reducible refine gate_callee (f := 26) rfl ?_); refine goesL_ (some 24) rfl rfl Try.func26 (by kernel_rfl) rfl #[.agg #[.slice A152_0 ((rd_T36 l0 x4_2).f0).length c152_0, .slice A152_1 ((rd_T36 l0 x4_2).f1).length c152_1]] rfl (by (try simp only [List.map_toArray, List.map_cons, List.map_nil]); first | done | rfl | (simp only [List.length_drop, List.length_take]; rfl)) ?_; (with_reducible refine (compositorref13_word.calls k2 _ _ ((rd_T36 l0 x4_2).f0) _ _ ((rd_T36 l0 x4_2).f1) true _ ?side1 ?side2 ?side3 ?side4 A7.out).mono ?_); (case side1 => repeat (first | exact (Kd.C_below HR152_0.out HB.out) | (with_reducible refine Kd.C_alloc ?_ _) | (with_reducible refine Kd.C_drewN ?_ _) | (with_reducible refine Kd.C_drew ?_))); (case side2 => exact HC152_0.out); (case side3 => repeat (first | exact (Kd.C_below HR152_1.out HB.out) | (with_reducible refine Kd.C_alloc ?_ _) | (with_reducible refine Kd.C_drewN ?_ _) | (with_reducible refine Kd.C_drew ?_))); (case side4 => exact HC152_1.out); rintro e w9 ⟨rfl, hb⟩; refine ⟨_, rfl, ?_⟩; have n0_ := Aside0.mk (below_step (by repeat (first | (with_reducible first | exact HB.out | apply below_alloc | apply pw_below_drewN | apply below_drew1) | exact HB.out)) hb); clear HB; have HB := n0_; clear n0_; (try clear hb); (try clear hb2); (try clear hk); (try clear hi); have p154 : 0 ≤ (x4_2 : Int) := of_decide_eq_true (by first | (with_reducible assumption) | assumption); have q154 : x4_2 < (l0.length : Int) := of_decide_eq_true (by first | (with_reducible assumption) | assumption); obtain ⟨ad154, A154_0, c154_0, A154_1, c154_1, e154, hx154_0, hx154_1, hl154_0, hi154_0, hl154_1, hi154_1⟩ := at_T36 HR0.out x4_2 p154 q154; obtain rfl : ad152 = ad154 := (by injection e154); replace hx154_0 := (HB.out.cell (World.block_lt_of_cell? w _ hx154_0)).trans hx154_0; replace hx154_1 := (HB.out.cell (World.block_lt_of_cell? w _ hx154_1)).trans hx154_1; have HR154_0 := Aside0.mk hi154_0; have HC154_0 := Aside0.mk hl154_0; clear hi154_0 hl154_0; have HR154_1 := Aside0.mk hi154_1; have HC154_1 := Aside0.mk hl154_1; clear hi154_1 hl154_1; replace p154 := eq_true p154; replace q154 := eq_true q154))
                  go_roundg k2
                  case measure => have := HJ1.out; have := HK2.out; omega
                  case rel => exact ⟨(wrap64 (x3_2 + (((rd_T36 l0 x4_2).f0).length : Int))), (wrap64 (x4_2 + 1)), (by first | rfl | (simp; done) | (simp [*]; done)), (by first | rfl | (simp; done) | (simp [*]; done)), H', ⟨by have := HJ1.out; have := HK2.out; omega⟩, ⟨by repeat (first | (with_reducible first | exact HB.out | apply below_alloc | apply pw_below_drewN | apply below_drew1) | exact HB.out)⟩⟩
                · replace c8 := Bool.eq_false_iff.mpr c8
                  subst c8
                  have H1 : (some false) = some r := by rw [if_neg (show ¬ (false = true) by decide)] at H; exact H
                  clear H
                  have H := H1
                  clear H1
                  obtain rfl := Option.some.inj H
                  have p152 : 0 ≤ (x4_2 : Int) := of_decide_eq_true (by first | (with_reducible assumption) | assumption)
                  have q152 : x4_2 < (l0.length : Int) := of_decide_eq_true (by first | (with_reducible assumption) | assumption)
                  obtain ⟨ad152, A152_0, c152_0, A152_1, c152_1, e152, hx152_0, hx152_1, hl152_0, hi152_0, hl152_1, hi152_1⟩ := at_T36 HR0.out x4_2 p152 q152
                  cases e152
                  replace hx152_0 := (HB.out.cell (World.block_lt_of_cell? w _ hx152_0)).trans hx152_0
                  replace hx152_1 := (HB.out.cell (World.block_lt_of_cell? w _ hx152_1)).trans hx152_1
                  have HR152_0 := Aside0.mk hi152_0
                  have HC152_0 := Aside0.mk hl152_0
                  clear hi152_0 hl152_0
                  have HR152_1 := Aside0.mk hi152_1
                  have HC152_1 := Aside0.mk hl152_1
                  clear hi152_1 hl152_1
                  replace p152 := eq_true p152
                  replace q152 := eq_true q152
                  go_wp2_with (first | ((with_reducible refine gate_callee (f := 26) rfl ?_); refine goesL_ (some 24) rfl rfl Try.func26 (by kernel_rfl) rfl #[.agg #[.slice A152_0 ((rd_T36 l0 x4_2).f0).length c152_0, .slice A152_1 ((rd_T36 l0 x4_2).f1).length c152_1]] rfl (by (try simp only [List.map_toArray, List.map_cons, List.map_nil]); first | done | rfl | (simp only [List.length_drop, List.length_take]; rfl)) ?_; (with_reducible refine (compositorref13_word.calls k2 _ _ ((rd_T36 l0 x4_2).f0) _ _ ((rd_T36 l0 x4_2).f1) false _ ?side1 ?side2 ?side3 ?side4 A7.out).mono ?_); (case side1 => repeat (first | exact (Kd.C_below HR152_0.out HB.out) | (with_reducible refine Kd.C_alloc ?_ _) | (with_reducible refine Kd.C_drewN ?_ _) | (with_reducible refine Kd.C_drew ?_))); (case side2 => exact HC152_0.out); (case side3 => repeat (first | exact (Kd.C_below HR152_1.out HB.out) | (with_reducible refine Kd.C_alloc ?_ _) | (with_reducible refine Kd.C_drewN ?_ _) | (with_reducible refine Kd.C_drew ?_))); (case side4 => exact HC152_1.out); rintro e w10 ⟨rfl, hb⟩; refine ⟨_, rfl, ?_⟩; have n0_ := Aside0.mk (below_step (by repeat (first | (with_reducible first | exact HB.out | apply below_alloc | apply pw_below_drewN | apply below_drew1) | exact HB.out)) hb); clear HB; have HB := n0_; clear n0_; (try clear hb); (try clear hb2); (try clear hk); (try clear hi)))
                  go_ret
                  exact ⟨by first | rfl | (simp [errW_none, errW_some] <;> rfl) | (simp [*, errW_none, errW_some] <;> rfl), by repeat (first | (with_reducible first | exact HB.out | apply below_alloc | apply pw_below_drewN | apply below_drew1) | exact HB.out)⟩
              · rw [if_neg c6] at H
                exact absurd H (by simp)
            · rw [if_neg c5] at H
              have c5b0 : decide (x4_2 < (l0.length : Int)) = false := decide_eq_false c5
              clear c5
              obtain rfl := Option.some.inj H
              go_wp2
              go_ret
              exact ⟨by first | rfl | (simp [errW_none, errW_some] <;> rfl) | (simp [*, errW_none, errW_some] <;> rfl), by repeat (first | (with_reducible first | exact HB.out | apply below_alloc | apply pw_below_drewN | apply below_drew1) | exact HB.out)⟩

/-! ### compositorref13_gap: function 22 -/
def compositorref13_gap.f (a0 : Int) : Option (Bool) := if a0 = 9 then (some true) else (if a0 = 10 then (some true) else (if a0 = 13 then (some true) else (some (a0 == 32))))
set_option maxHeartbeats 8000000 in
set_option maxRecDepth 100000 in
theorem compositorref13_gap.calls (a0 : Int) (r : Bool) (w : World) (h : compositorref13_gap.f a0 = some r) :
    Calls Try.prog 22 #[.int .u8 a0] w fun e w' => e = .returned (.bool r) ∧ Drawn0 w w' := by
  have H : (if a0 = 9 then (some true) else (if a0 = 10 then (some true) else (if a0 = 13 then (some true) else (some (a0 == 32))))) = some r := h
  clear h
  by_cases c2 : a0 = 9
  · rw [if_pos c2] at H
    have c2b0 : (a0 == 9) = true := beq_iff_eq.mpr c2
    have c2b1 : (a0 != 9) = false := bne_eq_false_iff_eq.mpr c2
    clear c2
    obtain rfl := Option.some.inj H
    go_enter Try.func22, Try.ntmps22
    go_wp2
    go_ret
    exact ⟨by first | rfl | (simp; done) | (simp [*]; done), by repeat (first | exact Drawn0.refl _ | apply Drawn0.step)⟩
  · rw [if_neg c2] at H
    have c2b0 : (a0 == 9) = false := beq_eq_false_iff_ne.mpr c2
    have c2b1 : (a0 != 9) = true := bne_iff_ne.mpr c2
    by_cases c3 : a0 = 10
    · rw [if_pos c3] at H
      have c3b0 : (a0 == 10) = true := beq_iff_eq.mpr c3
      have c3b1 : (a0 != 10) = false := bne_eq_false_iff_eq.mpr c3
      clear c3
      obtain rfl := Option.some.inj H
      go_enter Try.func22, Try.ntmps22
      go_wp2
      go_ret
      exact ⟨by first | rfl | (simp; done) | (simp [*]; done), by repeat (first | exact Drawn0.refl _ | apply Drawn0.step)⟩
    · rw [if_neg c3] at H
      have c3b0 : (a0 == 10) = false := beq_eq_false_iff_ne.mpr c3
      have c3b1 : (a0 != 10) = true := bne_iff_ne.mpr c3
      by_cases c4 : a0 = 13
      · rw [if_pos c4] at H
        have c4b0 : (a0 == 13) = true := beq_iff_eq.mpr c4
        have c4b1 : (a0 != 13) = false := bne_eq_false_iff_eq.mpr c4
        clear c4
        obtain rfl := Option.some.inj H
        go_enter Try.func22, Try.ntmps22
        go_wp2
        go_ret
        exact ⟨by first | rfl | (simp; done) | (simp [*]; done), by repeat (first | exact Drawn0.refl _ | apply Drawn0.step)⟩
      · rw [if_neg c4] at H
        have c4b0 : (a0 == 13) = false := beq_eq_false_iff_ne.mpr c4
        have c4b1 : (a0 != 13) = true := bne_iff_ne.mpr c4
        obtain rfl := Option.some.inj H
        go_enter Try.func22, Try.ntmps22
        go_wp2
        go_ret
        exact ⟨by first | rfl | (simp; done) | (simp [*]; done), by repeat (first | exact Drawn0.refl _ | apply Drawn0.step)⟩

end Go.Proofs.Ytnhalfkkamepgaa.Q
