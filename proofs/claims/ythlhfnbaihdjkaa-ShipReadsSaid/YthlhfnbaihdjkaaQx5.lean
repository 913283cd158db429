-- WRITTEN BY A PROGRAM OF THIS SESSION (wip/gprint.py) OVER THE KIT'S PRINT, some functions given by hand
import Derived.Test.YthlhfnbaihdjkaaQx0
import Derived.Test.YthlhfnbaihdjkaaQx4
namespace Go.Proofs.Ythlhfnbaihdjkaa.Q
open Go.RowKit Go.Proofs.YthlhfnbaihdjkaaW.PrintWords Go.Proofs.YthlhfnbaihdjkaaW.PrintLast Go.Proofs.YthlhfnbaihdjkaaW.PrintMore
attribute [local go_sem] max2_int min2_int max_two min_two max_three min_three max_four min_four   -- for this text's walks alone
set_option linter.unusedVariables false
set_option linter.unusedSimpArgs false

/-! ### compositorref23_Check: function 14 -/
mutual
def compositorref23_Check.l0 : Nat → List (S41) → Int → Option (Bool)
  | 0, _, _ => none
  | k + 1, x0, x3 => if x3 < (x0.length : Int) then (if 0 ≤ x3 then ((compositorref23_word.f ((rd_T41 x0 x3).f2)).bind fun t179 => ((compositorref23_word.f ((rd_T41 x0 x3).f3)).bind fun t180 => (if ((rd_T41 x0 x3).f0) < (-8) then (compositorref23_Check.j1 k x0 x3 true ((rd_T41 x0 x3).f0) ((rd_T41 x0 x3).f1) ((rd_T41 x0 x3).f2) ((rd_T41 x0 x3).f3) ((rd_T41 x0 x3).f4)) else (if ((rd_T41 x0 x3).f0) > 8 then (compositorref23_Check.j1 k x0 x3 true ((rd_T41 x0 x3).f0) ((rd_T41 x0 x3).f1) ((rd_T41 x0 x3).f2) ((rd_T41 x0 x3).f3) ((rd_T41 x0 x3).f4)) else (if ((rd_T41 x0 x3).f1) < 1 then (compositorref23_Check.j1 k x0 x3 true ((rd_T41 x0 x3).f0) ((rd_T41 x0 x3).f1) ((rd_T41 x0 x3).f2) ((rd_T41 x0 x3).f3) ((rd_T41 x0 x3).f4)) else (if ((rd_T41 x0 x3).f1) > 5 then (compositorref23_Check.j1 k x0 x3 true ((rd_T41 x0 x3).f0) ((rd_T41 x0 x3).f1) ((rd_T41 x0 x3).f2) ((rd_T41 x0 x3).f3) ((rd_T41 x0 x3).f4)) else (if t179 = true then (if t180 = true then (compositorref23_Check.j1 k x0 x3 (decide ((((rd_T41 x0 x3).f4).length : Int) > 600)) ((rd_T41 x0 x3).f0) ((rd_T41 x0 x3).f1) ((rd_T41 x0 x3).f2) ((rd_T41 x0 x3).f3) ((rd_T41 x0 x3).f4)) else (compositorref23_Check.j1 k x0 x3 true ((rd_T41 x0 x3).f0) ((rd_T41 x0 x3).f1) ((rd_T41 x0 x3).f2) ((rd_T41 x0 x3).f3) ((rd_T41 x0 x3).f4))) else (compositorref23_Check.j1 k x0 x3 true ((rd_T41 x0 x3).f0) ((rd_T41 x0 x3).f1) ((rd_T41 x0 x3).f2) ((rd_T41 x0 x3).f3) ((rd_T41 x0 x3).f4))))))))) else (none)) else (some true)
def compositorref23_Check.j1 : Nat → List (S41) → Int → Bool → Int → Int → Int → Int → List (S43) → Option (Bool)
  | 0, _, _, _, _, _, _, _, _ => none
  | k + 1, x0, x3, x59, x179000, x179001, x179002, x179003, x179004 => if x59 = true then (some false) else (compositorref23_Check.l1 k x0 x3 0 x179000 x179001 x179002 x179003 x179004)
def compositorref23_Check.l1 : Nat → List (S41) → Int → Int → Int → Int → Int → Int → List (S43) → Option (Bool)
  | 0, _, _, _, _, _, _, _, _ => none
  | k + 1, x0, x3, x7, x179000, x179001, x179002, x179003, x179004 => if x7 < (x179004.length : Int) then (if 0 ≤ x7 then ((compositorref23_word.f ((rd_T43 x179004 x7).f1)).bind fun t182 => (if ((rd_T43 x179004 x7).f0) < 0 then (some false) else (if ((rd_T43 x179004 x7).f0) > 255 then (some false) else (if t182 = true then (compositorref23_Check.l1 k x0 x3 (wrap64 (x7 + 1)) x179000 x179001 x179002 x179003 x179004) else (some false))))) else (none)) else (compositorref23_Check.l0 k x0 (wrap64 (x3 + 1)))
end
def compositorref23_Check.f (k : Nat) (l0 : List (S41)) : Option (Bool) := if (l0.length : Int) > 200 then (some false) else (compositorref23_Check.l0 k l0 0)
theorem compositorref23_Check.mono_l : ∀ k, (∀ y0 y1, LeO (compositorref23_Check.l0 k y0 y1) (compositorref23_Check.l0 (k + 1) y0 y1)) ∧ (∀ y0 y1 y2 y3 y4 y5 y6 y7, LeO (compositorref23_Check.j1 k y0 y1 y2 y3 y4 y5 y6 y7) (compositorref23_Check.j1 (k + 1) y0 y1 y2 y3 y4 y5 y6 y7)) ∧ (∀ y0 y1 y2 y3 y4 y5 y6 y7, LeO (compositorref23_Check.l1 k y0 y1 y2 y3 y4 y5 y6 y7) (compositorref23_Check.l1 (k + 1) y0 y1 y2 y3 y4 y5 y6 y7))
  | 0 => ⟨fun _ _ r h => by simp [compositorref23_Check.l0] at h, fun _ _ _ _ _ _ _ _ r h => by simp [compositorref23_Check.j1] at h, fun _ _ _ _ _ _ _ _ r h => by simp [compositorref23_Check.l1] at h⟩
  | k + 1 => by
    obtain ⟨ih0, ih1, ih2⟩ := compositorref23_Check.mono_l k
    refine ⟨?_, ?_, ?_⟩
    · intro y0 y1
      unfold compositorref23_Check.l0
      repeat' first
      | (with_reducible exact ih0 _ _)
      | (with_reducible exact ih1 _ _ _ _ _ _ _ _)
      | (with_reducible exact ih2 _ _ _ _ _ _ _ _)
      | (with_reducible exact LeO.refl _)
      | (with_reducible exact LeO.none _)
      | (with_reducible refine LeO.ite ?_ ?_)
      | (with_reducible refine LeO.bind ?_ (fun _ => ?_))
      | exact ih0 _ _
      | exact ih1 _ _ _ _ _ _ _ _
      | exact ih2 _ _ _ _ _ _ _ _
      | exact LeO.none _
      | refine LeO.ite ?_ ?_
      | refine LeO.bind ?_ (fun _ => ?_)
    · intro y0 y1 y2 y3 y4 y5 y6 y7
      unfold compositorref23_Check.j1
      repeat' first
      | (with_reducible exact ih0 _ _)
      | (with_reducible exact ih1 _ _ _ _ _ _ _ _)
      | (with_reducible exact ih2 _ _ _ _ _ _ _ _)
      | (with_reducible exact LeO.refl _)
      | (with_reducible exact LeO.none _)
      | (with_reducible refine LeO.ite ?_ ?_)
      | (with_reducible refine LeO.bind ?_ (fun _ => ?_))
      | exact ih0 _ _
      | exact ih1 _ _ _ _ _ _ _ _
      | exact ih2 _ _ _ _ _ _ _ _
      | exact LeO.none _
      | refine LeO.ite ?_ ?_
      | refine LeO.bind ?_ (fun _ => ?_)
    · intro y0 y1 y2 y3 y4 y5 y6 y7
      unfold compositorref23_Check.l1
      repeat' first
      | (with_reducible exact ih0 _ _)
      | (with_reducible exact ih1 _ _ _ _ _ _ _ _)
      | (with_reducible exact ih2 _ _ _ _ _ _ _ _)
      | (with_reducible exact LeO.refl _)
      | (with_reducible exact LeO.none _)
      | (with_reducible refine LeO.ite ?_ ?_)
      | (with_reducible refine LeO.bind ?_ (fun _ => ?_))
      | exact ih0 _ _
      | exact ih1 _ _ _ _ _ _ _ _
      | exact ih2 _ _ _ _ _ _ _ _
      | exact LeO.none _
      | refine LeO.ite ?_ ?_
      | refine LeO.bind ?_ (fun _ => ?_)
theorem compositorref23_Check.mono : ∀ a0 k, LeO (compositorref23_Check.f k a0) (compositorref23_Check.f (k + 1) a0) := by
  intro a0 k
  obtain ⟨ih0, ih1, ih2⟩ := compositorref23_Check.mono_l k
  unfold compositorref23_Check.f
  repeat' first
      | (with_reducible exact ih0 _ _)
      | (with_reducible exact ih1 _ _ _ _ _ _ _ _)
      | (with_reducible exact ih2 _ _ _ _ _ _ _ _)
      | (with_reducible exact LeO.refl _)
      | (with_reducible exact LeO.none _)
      | (with_reducible refine LeO.ite ?_ ?_)
      | (with_reducible refine LeO.bind ?_ (fun _ => ?_))
      | exact ih0 _ _
      | exact ih1 _ _ _ _ _ _ _ _
      | exact ih2 _ _ _ _ _ _ _ _
      | exact LeO.none _
      | refine LeO.ite ?_ ?_
      | refine LeO.bind ?_ (fun _ => ?_)
set_option maxHeartbeats 8000000 in
set_option maxRecDepth 100000 in
theorem compositorref23_Check.calls (k : Nat) (A0 : Option Addr) (c0 : Nat) (l0 : List (S41)) (r : Bool) (w : World) (hr0 : Kd.C k41 w A0 l0.length l0) (hc0 : l0.length ≤ c0) (h : compositorref23_Check.f k l0 = some r) :
    Calls Try.prog 14 #[.slice A0 l0.length c0] w fun e w' => e = .returned (.bool r) ∧ Below w.heap.size w w' := by
  have hu41 := Try.underlying41
  have HR0 := Aside0.mk hr0
  have HC0 := Aside0.mk hc0
  clear hr0 hc0
  have HB := Aside0.mk (Below.refl w.heap.size w)
  have H : (if (l0.length : Int) > 200 then (some false) else (compositorref23_Check.l0 k l0 0)) = some r := h
  clear h
  by_cases c2 : (l0.length : Int) > 200
  · rw [if_pos c2] at H
    have c2b0 : decide (200 < (l0.length : Int)) = true := decide_eq_true c2
    have c2b1 : decide (200 < l0.length) = true := decide_eq_true (by omega)
    clear c2
    obtain rfl := Option.some.inj H
    go_enter Try.func14, Try.ntmps14
    go_wp2
    go_ret
    exact ⟨by first | rfl | (simp [errW_none, errW_some] <;> rfl) | (simp [*, errW_none, errW_some] <;> rfl), by repeat (first | (with_reducible first | exact HB.out | apply below_alloc | apply pw_below_drewN | apply below_drew1) | exact HB.out)⟩
  · rw [if_neg c2] at H
    have c2b0 : decide (200 < (l0.length : Int)) = false := decide_eq_false c2
    have c2b1 : decide (200 < l0.length) = false := decide_eq_false (by omega)
    clear c2
    have H' := Aside0.mk H
    clear H
    go_enter Try.func14, Try.ntmps14
    go_wp2
    go_loopg [3] k (fun kq v3 w' => ∃ (x3_1 : Int), v3 = .int .i64 x3_1 ∧ Aside0 (compositorref23_Check.l0 kq l0 x3_1 = some r) ∧ Aside0 (kq ≤ k) ∧ Aside0 (Below w.heap.size w w'))
    case atStart => exact ⟨(0), (by first | rfl | (simp; done) | (simp [*]; done)), H', ⟨Nat.le_refl _⟩, ⟨by repeat (first | (with_reducible first | exact HB.out | apply below_alloc | apply pw_below_drewN | apply below_drew1) | exact HB.out)⟩⟩
    case round =>
      clear H'
      try clear c1
      try clear c2
      try clear c2b0
      try clear c2b1
      try clear p2
      obtain ⟨x3_1, rfl, HA, HK1, HB⟩ := hrel
      cases gk with
      | zero => exact absurd HA.out (by simp [compositorref23_Check.l0])
      | succ k1 =>
        have H := HA.out
        clear HA
        simp only [compositorref23_Check.l0] at H
        by_cases c3 : x3_1 < (l0.length : Int)
        · rw [if_pos c3] at H
          have c3b0 : decide (x3_1 < (l0.length : Int)) = true := decide_eq_true c3
          clear c3
          by_cases c4 : 0 ≤ x3_1
          · rw [if_pos c4] at H
            have c4b0 : decide (0 ≤ x3_1) = true := decide_eq_true c4
            clear c4
            replace H := Option.bind_eq_some_iff.mp H
            obtain ⟨t179, A50, H⟩ := H
            replace H : ((compositorref23_word.f ((rd_T41 l0 x3_1).f3)).bind fun t180 => (if ((rd_T41 l0 x3_1).f0) < (-8) then (compositorref23_Check.j1 k1 l0 x3_1 true ((rd_T41 l0 x3_1).f0) ((rd_T41 l0 x3_1).f1) ((rd_T41 l0 x3_1).f2) ((rd_T41 l0 x3_1).f3) ((rd_T41 l0 x3_1).f4)) else (if ((rd_T41 l0 x3_1).f0) > 8 then (compositorref23_Check.j1 k1 l0 x3_1 true ((rd_T41 l0 x3_1).f0) ((rd_T41 l0 x3_1).f1) ((rd_T41 l0 x3_1).f2) ((rd_T41 l0 x3_1).f3) ((rd_T41 l0 x3_1).f4)) else (if ((rd_T41 l0 x3_1).f1) < 1 then (compositorref23_Check.j1 k1 l0 x3_1 true ((rd_T41 l0 x3_1).f0) ((rd_T41 l0 x3_1).f1) ((rd_T41 l0 x3_1).f2) ((rd_T41 l0 x3_1).f3) ((rd_T41 l0 x3_1).f4)) else (if ((rd_T41 l0 x3_1).f1) > 5 then (compositorref23_Check.j1 k1 l0 x3_1 true ((rd_T41 l0 x3_1).f0) ((rd_T41 l0 x3_1).f1) ((rd_T41 l0 x3_1).f2) ((rd_T41 l0 x3_1).f3) ((rd_T41 l0 x3_1).f4)) else (if t179 = true then (if t180 = true then (compositorref23_Check.j1 k1 l0 x3_1 (decide ((((rd_T41 l0 x3_1).f4).length : Int) > 600)) ((rd_T41 l0 x3_1).f0) ((rd_T41 l0 x3_1).f1) ((rd_T41 l0 x3_1).f2) ((rd_T41 l0 x3_1).f3) ((rd_T41 l0 x3_1).f4)) else (compositorref23_Check.j1 k1 l0 x3_1 true ((rd_T41 l0 x3_1).f0) ((rd_T41 l0 x3_1).f1) ((rd_T41 l0 x3_1).f2) ((rd_T41 l0 x3_1).f3) ((rd_T41 l0 x3_1).f4))) else (compositorref23_Check.j1 k1 l0 x3_1 true ((rd_T41 l0 x3_1).f0) ((rd_T41 l0 x3_1).f1) ((rd_T41 l0 x3_1).f2) ((rd_T41 l0 x3_1).f3) ((rd_T41 l0 x3_1).f4)))))))) = some r := H
            have A5 := Aside0.mk A50
            clear A50
            replace H := Option.bind_eq_some_iff.mp H
            obtain ⟨t180, A60, H⟩ := H
            replace H : (if ((rd_T41 l0 x3_1).f0) < (-8) then (compositorref23_Check.j1 k1 l0 x3_1 true ((rd_T41 l0 x3_1).f0) ((rd_T41 l0 x3_1).f1) ((rd_T41 l0 x3_1).f2) ((rd_T41 l0 x3_1).f3) ((rd_T41 l0 x3_1).f4)) else (if ((rd_T41 l0 x3_1).f0) > 8 then (compositorref23_Check.j1 k1 l0 x3_1 true ((rd_T41 l0 x3_1).f0) ((rd_T41 l0 x3_1).f1) ((rd_T41 l0 x3_1).f2) ((rd_T41 l0 x3_1).f3) ((rd_T41 l0 x3_1).f4)) else (if ((rd_T41 l0 x3_1).f1) < 1 then (compositorref23_Check.j1 k1 l0 x3_1 true ((rd_T41 l0 x3_1).f0) ((rd_T41 l0 x3_1).f1) ((rd_T41 l0 x3_1).f2) ((rd_T41 l0 x3_1).f3) ((rd_T41 l0 x3_1).f4)) else (if ((rd_T41 l0 x3_1).f1) > 5 then (compositorref23_Check.j1 k1 l0 x3_1 true ((rd_T41 l0 x3_1).f0) ((rd_T41 l0 x3_1).f1) ((rd_T41 l0 x3_1).f2) ((rd_T41 l0 x3_1).f3) ((rd_T41 l0 x3_1).f4)) else (if t179 = true then (if t180 = true then (compositorref23_Check.j1 k1 l0 x3_1 (decide ((((rd_T41 l0 x3_1).f4).length : Int) > 600)) ((rd_T41 l0 x3_1).f0) ((rd_T41 l0 x3_1).f1) ((rd_T41 l0 x3_1).f2) ((rd_T41 l0 x3_1).f3) ((rd_T41 l0 x3_1).f4)) else (compositorref23_Check.j1 k1 l0 x3_1 true ((rd_T41 l0 x3_1).f0) ((rd_T41 l0 x3_1).f1) ((rd_T41 l0 x3_1).f2) ((rd_T41 l0 x3_1).f3) ((rd_T41 l0 x3_1).f4))) else (compositorref23_Check.j1 k1 l0 x3_1 true ((rd_T41 l0 x3_1).f0) ((rd_T41 l0 x3_1).f1) ((rd_T41 l0 x3_1).f2) ((rd_T41 l0 x3_1).f3) ((rd_T41 l0 x3_1).f4))))))) = some r := H
            have A6 := Aside0.mk A60
            clear A60
            have HC7 := Aside0.mk H
            clear H
            have p177 : 0 ≤ (x3_1 : Int) := of_decide_eq_true (by first | (with_reducible assumption) | assumption)
            have q177 : x3_1 < (l0.length : Int) := of_decide_eq_true (by first | (with_reducible assumption) | assumption)
            obtain ⟨ad177, A177_4, c177_4, e177, hx177_0, hx177_1, hx177_2, hx177_3, hx177_4, hl177_4, hi177_4⟩ := at_T41 HR0.out x3_1 p177 q177
            cases e177
            replace hx177_0 := (HB.out.cell (World.block_lt_of_cell? w _ hx177_0)).trans hx177_0
            replace hx177_1 := (HB.out.cell (World.block_lt_of_cell? w _ hx177_1)).trans hx177_1
            replace hx177_2 := (HB.out.cell (World.block_lt_of_cell? w _ hx177_2)).trans hx177_2
            replace hx177_3 := (HB.out.cell (World.block_lt_of_cell? w _ hx177_3)).trans hx177_3
            replace hx177_4 := (HB.out.cell (World.block_lt_of_cell? w _ hx177_4)).trans hx177_4
            have HR177_4 := Aside0.mk hi177_4
            have HC177_4 := Aside0.mk hl177_4
            clear hi177_4 hl177_4
            replace p177 := eq_true p177
            replace q177 := eq_true q177
            go_upto_region 9 with (first | ((with_reducible refine gate_dst (N := 4) rfl ?_); (try (refine gate_guard (by rfl) ?_; dsimp only)); refine box_event ?hg (N := 4) ?hd (cs := #[.int .i64 0, .int .i64 0, .int .i64 0, .int .i64 0, .slice none 0 0]) (t := 41) ?hr ?_; (case hd => rfl); (case hg => rfl); (case hr => first | (go_simp; done) | (go_simp; rfl)); intro gb178 hg w8 hbox hb; have n0_ := Aside0.mk (below_step (by repeat (first | (with_reducible first | exact HB.out | apply below_alloc | apply pw_below_drewN | apply below_drew1) | exact HB.out)) hb); have n1_ := Aside0.mk (hbox); have n2_ := Aside0.mk ((by rw [hg]; exact (below_size (by repeat (first | (with_reducible first | exact HB.out | apply below_alloc | apply pw_below_drewN | apply below_drew1) | exact HB.out))) : w.heap.size ≤ gb178)); have n3_ := Aside0.mk ((by rw [hg]; exact (below_size (by repeat (first | (with_reducible first | exact HB.out | apply below_alloc | apply pw_below_drewN | apply below_drew1) | exact HB.out))) : w.heap.size ≤ gb178)); clear HB; have HB := n0_; have BK178 := n1_; have GW178 := n2_; have GE178 := n3_; clear n0_ n1_ n2_ n3_; clear hb hbox hg; have hcz9_0 : w8.cell? ⟨gb178, 0, none⟩ = some (.int .i64 0) := (blk_cell BK178.out 0).trans rfl; have hcz9_1 : w8.cell? ⟨gb178, 1, none⟩ = some (.int .i64 0) := (blk_cell BK178.out 1).trans rfl; have hcz9_2 : w8.cell? ⟨gb178, 2, none⟩ = some (.int .i64 0) := (blk_cell BK178.out 2).trans rfl; have hcz9_3 : w8.cell? ⟨gb178, 3, none⟩ = some (.int .i64 0) := (blk_cell BK178.out 3).trans rfl; have hcz9_4 : w8.cell? ⟨gb178, 4, none⟩ = some (.slice none 0 0) := (blk_cell BK178.out 4).trans rfl; have hfz9_0 := blk_frozen BK178.out 0; have hfz9_1 := blk_frozen BK178.out 1; have hfz9_2 := blk_frozen BK178.out 2; have hfz9_3 := blk_frozen BK178.out 3; have hfz9_4 := blk_frozen BK178.out 4) | ((with_reducible refine gate_callee (f := 29) rfl ?_); refine goesL_ (some 24) rfl rfl Try.func29 (by kernel_rfl) rfl #[.int .i64 ((rd_T41 l0 x3_1).f2)] rfl (by (try simp only [List.map_toArray, List.map_cons, List.map_nil]); first | done | rfl | (simp only [List.length_drop, List.length_take]; rfl)) ?_; (with_reducible refine (compositorref23_word.calls ((rd_T41 l0 x3_1).f2) t179 _ A5.out).mono ?_); rintro e w' ⟨rfl, ⟨nd, rfl⟩⟩; refine ⟨_, rfl, ?_⟩) | ((with_reducible refine gate_callee (f := 29) rfl ?_); refine goesL_ (some 27) rfl rfl Try.func29 (by kernel_rfl) rfl #[.int .i64 ((rd_T41 l0 x3_1).f3)] rfl (by (try simp only [List.map_toArray, List.map_cons, List.map_nil]); first | done | rfl | (simp only [List.length_drop, List.length_take]; rfl)) ?_; (with_reducible refine (compositorref23_word.calls ((rd_T41 l0 x3_1).f3) t180 _ A6.out).mono ?_); rintro e w' ⟨rfl, ⟨nd, rfl⟩⟩; refine ⟨_, rfl, ?_⟩))
            (try simp only [Act.put, List.setIfInBounds_toArray, List.set_cons_zero, List.set_cons_succ])
            go_cut [59] (fun v59 wc => ∃ (kq : Nat) (x59_6 : Bool), v59 = .bool x59_6 ∧ Aside0 (compositorref23_Check.j1 kq l0 x3_1 x59_6 ((rd_T41 l0 x3_1).f0) ((rd_T41 l0 x3_1).f1) ((rd_T41 l0 x3_1).f2) ((rd_T41 l0 x3_1).f3) ((rd_T41 l0 x3_1).f4) = some r) ∧ Aside0 (kq ≤ k1) ∧ Aside0 (wc.heap[gb178]? = some (.cells #[.int .i64 ((rd_T41 l0 x3_1).f0), .int .i64 ((rd_T41 l0 x3_1).f1), .int .i64 ((rd_T41 l0 x3_1).f2), .int .i64 ((rd_T41 l0 x3_1).f3), (.slice A177_4 ((rd_T41 l0 x3_1).f4).length c177_4)] 41 (0, 0))) ∧ Aside0 (Below w.heap.size w wc))
            case first =>
              have H := HC7.out
              clear HC7
              by_cases c10 : ((rd_T41 l0 x3_1).f0) < (-8)
              · rw [if_pos c10] at H
                have c10b0 : decide (((rd_T41 l0 x3_1).f0) < (-8)) = true := decide_eq_true c10
                clear c10
                (first | rw [c10b0] | (simp only [i64_w, i32_w]; rw [c10b0]) | skip)
                have H' := Aside0.mk H
                clear H
                have hcz11_0 : w8.cell? ⟨gb178, 0, none⟩ = some (.int .i64 0) := (blk_cell BK178.out 0).trans rfl
                have hcz11_1 : w8.cell? ⟨gb178, 1, none⟩ = some (.int .i64 0) := (blk_cell BK178.out 1).trans rfl
                have hcz11_2 : w8.cell? ⟨gb178, 2, none⟩ = some (.int .i64 0) := (blk_cell BK178.out 2).trans rfl
                have hcz11_3 : w8.cell? ⟨gb178, 3, none⟩ = some (.int .i64 0) := (blk_cell BK178.out 3).trans rfl
                have hcz11_4 : w8.cell? ⟨gb178, 4, none⟩ = some (.slice none 0 0) := (blk_cell BK178.out 4).trans rfl
                have hfz11_0 := blk_frozen BK178.out 0
                have hfz11_1 := blk_frozen BK178.out 1
                have hfz11_2 := blk_frozen BK178.out 2
                have hfz11_3 := blk_frozen BK178.out 3
                have hfz11_4 := blk_frozen BK178.out 4
                go_wp2
                go_meet
                case rel => exact ⟨_, (true), (by first | rfl | (simp; done) | (simp [*]; done)), H', ⟨by have := HK1.out; first | omega | exact Nat.le_refl _⟩, ⟨by (with_reducible repeat (first | refine blk_drewN ?_ _ | refine blk_drew ?_ | refine blk_alloc ?_ _)); refine blk_put (cs := #[.int .i64 ((rd_T41 l0 x3_1).f0), .int .i64 ((rd_T41 l0 x3_1).f1), .int .i64 ((rd_T41 l0 x3_1).f2), .int .i64 ((rd_T41 l0 x3_1).f3), .slice none 0 0]) ?_ 4 _ rfl; (with_reducible repeat (first | refine blk_drewN ?_ _ | refine blk_drew ?_ | refine blk_alloc ?_ _)); refine blk_put (cs := #[.int .i64 ((rd_T41 l0 x3_1).f0), .int .i64 ((rd_T41 l0 x3_1).f1), .int .i64 ((rd_T41 l0 x3_1).f2), .int .i64 0, .slice none 0 0]) ?_ 3 _ rfl; (with_reducible repeat (first | refine blk_drewN ?_ _ | refine blk_drew ?_ | refine blk_alloc ?_ _)); refine blk_put (cs := #[.int .i64 ((rd_T41 l0 x3_1).f0), .int .i64 ((rd_T41 l0 x3_1).f1), .int .i64 0, .int .i64 0, .slice none 0 0]) ?_ 2 _ rfl; (with_reducible repeat (first | refine blk_drewN ?_ _ | refine blk_drew ?_ | refine blk_alloc ?_ _)); refine blk_put (cs := #[.int .i64 ((rd_T41 l0 x3_1).f0), .int .i64 0, .int .i64 0, .int .i64 0, .slice none 0 0]) ?_ 1 _ rfl; (with_reducible repeat (first | refine blk_drewN ?_ _ | refine blk_drew ?_ | refine blk_alloc ?_ _)); refine blk_put (cs := #[.int .i64 0, .int .i64 0, .int .i64 0, .int .i64 0, .slice none 0 0]) ?_ 0 _ rfl; (with_reducible repeat (first | refine blk_drewN ?_ _ | refine blk_drew ?_ | refine blk_alloc ?_ _)); exact BK178.out⟩, ⟨by repeat (first | (with_reducible first | exact HB.out | apply below_alloc | apply pw_below_drewN | apply below_drew1 | refine below_set ?_ GE178.out) | exact HB.out)⟩⟩
              · rw [if_neg c10] at H
                have c10b0 : decide (((rd_T41 l0 x3_1).f0) < (-8)) = false := decide_eq_false c10
                clear c10
                (first | rw [c10b0] | (simp only [i64_w, i32_w]; rw [c10b0]) | skip)
                by_cases c12 : ((rd_T41 l0 x3_1).f0) > 8
                · rw [if_pos c12] at H
                  have c12b0 : decide (8 < ((rd_T41 l0 x3_1).f0)) = true := decide_eq_true c12
                  clear c12
                  have H' := Aside0.mk H
                  clear H
                  have hcz13_0 : w8.cell? ⟨gb178, 0, none⟩ = some (.int .i64 0) := (blk_cell BK178.out 0).trans rfl
                  have hcz13_1 : w8.cell? ⟨gb178, 1, none⟩ = some (.int .i64 0) := (blk_cell BK178.out 1).trans rfl
                  have hcz13_2 : w8.cell? ⟨gb178, 2, none⟩ = some (.int .i64 0) := (blk_cell BK178.out 2).trans rfl
                  have hcz13_3 : w8.cell? ⟨gb178, 3, none⟩ = some (.int .i64 0) := (blk_cell BK178.out 3).trans rfl
                  have hcz13_4 : w8.cell? ⟨gb178, 4, none⟩ = some (.slice none 0 0) := (blk_cell BK178.out 4).trans rfl
                  have hfz13_0 := blk_frozen BK178.out 0
                  have hfz13_1 := blk_frozen BK178.out 1
                  have hfz13_2 := blk_frozen BK178.out 2
                  have hfz13_3 := blk_frozen BK178.out 3
                  have hfz13_4 := blk_frozen BK178.out 4
                  go_wp2
                  go_meet
                  case rel => exact ⟨_, (true), (by first | rfl | (simp; done) | (simp [*]; done)), H', ⟨by have := HK1.out; first | omega | exact Nat.le_refl _⟩, ⟨by (with_reducible repeat (first | refine blk_drewN ?_ _ | refine blk_drew ?_ | refine blk_alloc ?_ _)); refine blk_put (cs := #[.int .i64 ((rd_T41 l0 x3_1).f0), .int .i64 ((rd_T41 l0 x3_1).f1), .int .i64 ((rd_T41 l0 x3_1).f2), .int .i64 ((rd_T41 l0 x3_1).f3), .slice none 0 0]) ?_ 4 _ rfl; (with_reducible repeat (first | refine blk_drewN ?_ _ | refine blk_drew ?_ | refine blk_alloc ?_ _)); refine blk_put (cs := #[.int .i64 ((rd_T41 l0 x3_1).f0), .int .i64 ((rd_T41 l0 x3_1).f1), .int .i64 ((rd_T41 l0 x3_1).f2), .int .i64 0, .slice none 0 0]) ?_ 3 _ rfl; (with_reducible repeat (first | refine blk_drewN ?_ _ | refine blk_drew ?_ | refine blk_alloc ?_ _)); refine blk_put (cs := #[.int .i64 ((rd_T41 l0 x3_1).f0), .int .i64 ((rd_T41 l0 x3_1).f1), .int .i64 0, .int .i64 0, .slice none 0 0]) ?_ 2 _ rfl; (with_reducible repeat (first | refine blk_drewN ?_ _ | refine blk_drew ?_ | refine blk_alloc ?_ _)); refine blk_put (cs := #[.int .i64 ((rd_T41 l0 x3_1).f0), .int .i64 0, .int .i64 0, .int .i64 0, .slice none 0 0]) ?_ 1 _ rfl; (with_reducible repeat (first | refine blk_drewN ?_ _ | refine blk_drew ?_ | refine blk_alloc ?_ _)); refine blk_put (cs := #[.int .i64 0, .int .i64 0, .int .i64 0, .int .i64 0, .slice none 0 0]) ?_ 0 _ rfl; (with_reducible repeat (first | refine blk_drewN ?_ _ | refine blk_drew ?_ | refine blk_alloc ?_ _)); exact BK178.out⟩, ⟨by repeat (first | (with_reducible first | exact HB.out | apply below_alloc | apply pw_below_drewN | apply below_drew1 | refine below_set ?_ GE178.out) | exact HB.out)⟩⟩
                · rw [if_neg c12] at H
                  have c12b0 : decide (8 < ((rd_T41 l0 x3_1).f0)) = false := decide_eq_false c12
                  clear c12
                  by_cases c14 : ((rd_T41 l0 x3_1).f1) < 1
                  · rw [if_pos c14] at H
                    have c14b0 : decide (((rd_T41 l0 x3_1).f1) < 1) = true := decide_eq_true c14
                    clear c14
                    have H' := Aside0.mk H
                    clear H
                    have hcz15_0 : w8.cell? ⟨gb178, 0, none⟩ = some (.int .i64 0) := (blk_cell BK178.out 0).trans rfl
                    have hcz15_1 : w8.cell? ⟨gb178, 1, none⟩ = some (.int .i64 0) := (blk_cell BK178.out 1).trans rfl
                    have hcz15_2 : w8.cell? ⟨gb178, 2, none⟩ = some (.int .i64 0) := (blk_cell BK178.out 2).trans rfl
                    have hcz15_3 : w8.cell? ⟨gb178, 3, none⟩ = some (.int .i64 0) := (blk_cell BK178.out 3).trans rfl
                    have hcz15_4 : w8.cell? ⟨gb178, 4, none⟩ = some (.slice none 0 0) := (blk_cell BK178.out 4).trans rfl
                    have hfz15_0 := blk_frozen BK178.out 0
                    have hfz15_1 := blk_frozen BK178.out 1
                    have hfz15_2 := blk_frozen BK178.out 2
                    have hfz15_3 := blk_frozen BK178.out 3
                    have hfz15_4 := blk_frozen BK178.out 4
                    go_wp2
                    go_meet
                    case rel => exact ⟨_, (true), (by first | rfl | (simp; done) | (simp [*]; done)), H', ⟨by have := HK1.out; first | omega | exact Nat.le_refl _⟩, ⟨by (with_reducible repeat (first | refine blk_drewN ?_ _ | refine blk_drew ?_ | refine blk_alloc ?_ _)); refine blk_put (cs := #[.int .i64 ((rd_T41 l0 x3_1).f0), .int .i64 ((rd_T41 l0 x3_1).f1), .int .i64 ((rd_T41 l0 x3_1).f2), .int .i64 ((rd_T41 l0 x3_1).f3), .slice none 0 0]) ?_ 4 _ rfl; (with_reducible repeat (first | refine blk_drewN ?_ _ | refine blk_drew ?_ | refine blk_alloc ?_ _)); refine blk_put (cs := #[.int .i64 ((rd_T41 l0 x3_1).f0), .int .i64 ((rd_T41 l0 x3_1).f1), .int .i64 ((rd_T41 l0 x3_1).f2), .int .i64 0, .slice none 0 0]) ?_ 3 _ rfl; (with_reducible repeat (first | refine blk_drewN ?_ _ | refine blk_drew ?_ | refine blk_alloc ?_ _)); refine blk_put (cs := #[.int .i64 ((rd_T41 l0 x3_1).f0), .int .i64 ((rd_T41 l0 x3_1).f1), .int .i64 0, .int .i64 0, .slice none 0 0]) ?_ 2 _ rfl; (with_reducible repeat (first | refine blk_drewN ?_ _ | refine blk_drew ?_ | refine blk_alloc ?_ _)); refine blk_put (cs := #[.int .i64 ((rd_T41 l0 x3_1).f0), .int .i64 0, .int .i64 0, .int .i64 0, .slice none 0 0]) ?_ 1 _ rfl; (with_reducible repeat (first | refine blk_drewN ?_ _ | refine blk_drew ?_ | refine blk_alloc ?_ _)); refine blk_put (cs := #[.int .i64 0, .int .i64 0, .int .i64 0, .int .i64 0, .slice none 0 0]) ?_ 0 _ rfl; (with_reducible repeat (first | refine blk_drewN ?_ _ | refine blk_drew ?_ | refine blk_alloc ?_ _)); exact BK178.out⟩, ⟨by repeat (first | (with_reducible first | exact HB.out | apply below_alloc | apply pw_below_drewN | apply below_drew1 | refine below_set ?_ GE178.out) | exact HB.out)⟩⟩
                  · rw [if_neg c14] at H
                    have c14b0 : decide (((rd_T41 l0 x3_1).f1) < 1) = false := decide_eq_false c14
                    clear c14
                    by_cases c16 : ((rd_T41 l0 x3_1).f1) > 5
                    · rw [if_pos c16] at H
                      have c16b0 : decide (5 < ((rd_T41 l0 x3_1).f1)) = true := decide_eq_true c16
                      clear c16
                      have H' := Aside0.mk H
                      clear H
                      have hcz17_0 : w8.cell? ⟨gb178, 0, none⟩ = some (.int .i64 0) := (blk_cell BK178.out 0).trans rfl
                      have hcz17_1 : w8.cell? ⟨gb178, 1, none⟩ = some (.int .i64 0) := (blk_cell BK178.out 1).trans rfl
                      have hcz17_2 : w8.cell? ⟨gb178, 2, none⟩ = some (.int .i64 0) := (blk_cell BK178.out 2).trans rfl
                      have hcz17_3 : w8.cell? ⟨gb178, 3, none⟩ = some (.int .i64 0) := (blk_cell BK178.out 3).trans rfl
                      have hcz17_4 : w8.cell? ⟨gb178, 4, none⟩ = some (.slice none 0 0) := (blk_cell BK178.out 4).trans rfl
                      have hfz17_0 := blk_frozen BK178.out 0
                      have hfz17_1 := blk_frozen BK178.out 1
                      have hfz17_2 := blk_frozen BK178.out 2
                      have hfz17_3 := blk_frozen BK178.out 3
                      have hfz17_4 := blk_frozen BK178.out 4
                      go_wp2
                      go_meet
                      case rel => exact ⟨_, (true), (by first | rfl | (simp; done) | (simp [*]; done)), H', ⟨by have := HK1.out; first | omega | exact Nat.le_refl _⟩, ⟨by (with_reducible repeat (first | refine blk_drewN ?_ _ | refine blk_drew ?_ | refine blk_alloc ?_ _)); refine blk_put (cs := #[.int .i64 ((rd_T41 l0 x3_1).f0), .int .i64 ((rd_T41 l0 x3_1).f1), .int .i64 ((rd_T41 l0 x3_1).f2), .int .i64 ((rd_T41 l0 x3_1).f3), .slice none 0 0]) ?_ 4 _ rfl; (with_reducible repeat (first | refine blk_drewN ?_ _ | refine blk_drew ?_ | refine blk_alloc ?_ _)); refine blk_put (cs := #[.int .i64 ((rd_T41 l0 x3_1).f0), .int .i64 ((rd_T41 l0 x3_1).f1), .int .i64 ((rd_T41 l0 x3_1).f2), .int .i64 0, .slice none 0 0]) ?_ 3 _ rfl; (with_reducible repeat (first | refine blk_drewN ?_ _ | refine blk_drew ?_ | refine blk_alloc ?_ _)); refine blk_put (cs := #[.int .i64 ((rd_T41 l0 x3_1).f0), .int .i64 ((rd_T41 l0 x3_1).f1), .int .i64 0, .int .i64 0, .slice none 0 0]) ?_ 2 _ rfl; (with_reducible repeat (first | refine blk_drewN ?_ _ | refine blk_drew ?_ | refine blk_alloc ?_ _)); refine blk_put (cs := #[.int .i64 ((rd_T41 l0 x3_1).f0), .int .i64 0, .int .i64 0, .int .i64 0, .slice none 0 0]) ?_ 1 _ rfl; (with_reducible repeat (first | refine blk_drewN ?_ _ | refine blk_drew ?_ | refine blk_alloc ?_ _)); refine blk_put (cs := #[.int .i64 0, .int .i64 0, .int .i64 0, .int .i64 0, .slice none 0 0]) ?_ 0 _ rfl; (with_reducible repeat (first | refine blk_drewN ?_ _ | refine blk_drew ?_ | refine blk_alloc ?_ _)); exact BK178.out⟩, ⟨by repeat (first | (with_reducible first | exact HB.out | apply below_alloc | apply pw_below_drewN | apply below_drew1 | refine below_set ?_ GE178.out) | exact HB.out)⟩⟩
                    · rw [if_neg c16] at H
                      have c16b0 : decide (5 < ((rd_T41 l0 x3_1).f1)) = false := decide_eq_false c16
                      clear c16
                      by_cases c18 : t179 = true
                      · subst c18
                        have H1 : (if t180 = true then (compositorref23_Check.j1 k1 l0 x3_1 (decide ((((rd_T41 l0 x3_1).f4).length : Int) > 600)) ((rd_T41 l0 x3_1).f0) ((rd_T41 l0 x3_1).f1) ((rd_T41 l0 x3_1).f2) ((rd_T41 l0 x3_1).f3) ((rd_T41 l0 x3_1).f4)) else (compositorref23_Check.j1 k1 l0 x3_1 true ((rd_T41 l0 x3_1).f0) ((rd_T41 l0 x3_1).f1) ((rd_T41 l0 x3_1).f2) ((rd_T41 l0 x3_1).f3) ((rd_T41 l0 x3_1).f4))) = some r := by rw [if_pos rfl] at H; exact H
                        clear H
                        have H := H1
                        clear H1
                        by_cases c19 : t180 = true
                        · subst c19
                          have H1 : (compositorref23_Check.j1 k1 l0 x3_1 (decide ((((rd_T41 l0 x3_1).f4).length : Int) > 600)) ((rd_T41 l0 x3_1).f0) ((rd_T41 l0 x3_1).f1) ((rd_T41 l0 x3_1).f2) ((rd_T41 l0 x3_1).f3) ((rd_T41 l0 x3_1).f4)) = some r := by rw [if_pos rfl] at H; exact H
                          clear H
                          have H := H1
                          clear H1
                          have H' := Aside0.mk H
                          clear H
                          have hcz20_0 : w8.cell? ⟨gb178, 0, none⟩ = some (.int .i64 0) := (blk_cell BK178.out 0).trans rfl
                          have hcz20_1 : w8.cell? ⟨gb178, 1, none⟩ = some (.int .i64 0) := (blk_cell BK178.out 1).trans rfl
                          have hcz20_2 : w8.cell? ⟨gb178, 2, none⟩ = some (.int .i64 0) := (blk_cell BK178.out 2).trans rfl
                          have hcz20_3 : w8.cell? ⟨gb178, 3, none⟩ = some (.int .i64 0) := (blk_cell BK178.out 3).trans rfl
                          have hcz20_4 : w8.cell? ⟨gb178, 4, none⟩ = some (.slice none 0 0) := (blk_cell BK178.out 4).trans rfl
                          have hfz20_0 := blk_frozen BK178.out 0
                          have hfz20_1 := blk_frozen BK178.out 1
                          have hfz20_2 := blk_frozen BK178.out 2
                          have hfz20_3 := blk_frozen BK178.out 3
                          have hfz20_4 := blk_frozen BK178.out 4
                          go_wp2
                          go_meet
                          case rel => exact ⟨_, (decide ((((rd_T41 l0 x3_1).f4).length : Int) > 600)), (by first | rfl | (simp; done) | (simp [*]; done)), H', ⟨by have := HK1.out; first | omega | exact Nat.le_refl _⟩, ⟨by (with_reducible repeat (first | refine blk_drewN ?_ _ | refine blk_drew ?_ | refine blk_alloc ?_ _)); refine blk_put (cs := #[.int .i64 ((rd_T41 l0 x3_1).f0), .int .i64 ((rd_T41 l0 x3_1).f1), .int .i64 ((rd_T41 l0 x3_1).f2), .int .i64 ((rd_T41 l0 x3_1).f3), .slice none 0 0]) ?_ 4 _ rfl; (with_reducible repeat (first | refine blk_drewN ?_ _ | refine blk_drew ?_ | refine blk_alloc ?_ _)); refine blk_put (cs := #[.int .i64 ((rd_T41 l0 x3_1).f0), .int .i64 ((rd_T41 l0 x3_1).f1), .int .i64 ((rd_T41 l0 x3_1).f2), .int .i64 0, .slice none 0 0]) ?_ 3 _ rfl; (with_reducible repeat (first | refine blk_drewN ?_ _ | refine blk_drew ?_ | refine blk_alloc ?_ _)); refine blk_put (cs := #[.int .i64 ((rd_T41 l0 x3_1).f0), .int .i64 ((rd_T41 l0 x3_1).f1), .int .i64 0, .int .i64 0, .slice none 0 0]) ?_ 2 _ rfl; (with_reducible repeat (first | refine blk_drewN ?_ _ | refine blk_drew ?_ | refine blk_alloc ?_ _)); refine blk_put (cs := #[.int .i64 ((rd_T41 l0 x3_1).f0), .int .i64 0, .int .i64 0, .int .i64 0, .slice none 0 0]) ?_ 1 _ rfl; (with_reducible repeat (first | refine blk_drewN ?_ _ | refine blk_drew ?_ | refine blk_alloc ?_ _)); refine blk_put (cs := #[.int .i64 0, .int .i64 0, .int .i64 0, .int .i64 0, .slice none 0 0]) ?_ 0 _ rfl; (with_reducible repeat (first | refine blk_drewN ?_ _ | refine blk_drew ?_ | refine blk_alloc ?_ _)); exact BK178.out⟩, ⟨by repeat (first | (with_reducible first | exact HB.out | apply below_alloc | apply pw_below_drewN | apply below_drew1 | refine below_set ?_ GE178.out) | exact HB.out)⟩⟩
                        · replace c19 := Bool.eq_false_iff.mpr c19
                          subst c19
                          have H1 : (compositorref23_Check.j1 k1 l0 x3_1 true ((rd_T41 l0 x3_1).f0) ((rd_T41 l0 x3_1).f1) ((rd_T41 l0 x3_1).f2) ((rd_T41 l0 x3_1).f3) ((rd_T41 l0 x3_1).f4)) = some r := by rw [if_neg (show ¬ (false = true) by decide)] at H; exact H
                          clear H
                          have H := H1
                          clear H1
                          have H' := Aside0.mk H
                          clear H
                          have hcz21_0 : w8.cell? ⟨gb178, 0, none⟩ = some (.int .i64 0) := (blk_cell BK178.out 0).trans rfl
                          have hcz21_1 : w8.cell? ⟨gb178, 1, none⟩ = some (.int .i64 0) := (blk_cell BK178.out 1).trans rfl
                          have hcz21_2 : w8.cell? ⟨gb178, 2, none⟩ = some (.int .i64 0) := (blk_cell BK178.out 2).trans rfl
                          have hcz21_3 : w8.cell? ⟨gb178, 3, none⟩ = some (.int .i64 0) := (blk_cell BK178.out 3).trans rfl
                          have hcz21_4 : w8.cell? ⟨gb178, 4, none⟩ = some (.slice none 0 0) := (blk_cell BK178.out 4).trans rfl
                          have hfz21_0 := blk_frozen BK178.out 0
                          have hfz21_1 := blk_frozen BK178.out 1
                          have hfz21_2 := blk_frozen BK178.out 2
                          have hfz21_3 := blk_frozen BK178.out 3
                          have hfz21_4 := blk_frozen BK178.out 4
                          go_wp2
                          go_meet
                          case rel => exact ⟨_, (true), (by first | rfl | (simp; done) | (simp [*]; done)), H', ⟨by have := HK1.out; first | omega | exact Nat.le_refl _⟩, ⟨by (with_reducible repeat (first | refine blk_drewN ?_ _ | refine blk_drew ?_ | refine blk_alloc ?_ _)); refine blk_put (cs := #[.int .i64 ((rd_T41 l0 x3_1).f0), .int .i64 ((rd_T41 l0 x3_1).f1), .int .i64 ((rd_T41 l0 x3_1).f2), .int .i64 ((rd_T41 l0 x3_1).f3), .slice none 0 0]) ?_ 4 _ rfl; (with_reducible repeat (first | refine blk_drewN ?_ _ | refine blk_drew ?_ | refine blk_alloc ?_ _)); refine blk_put (cs := #[.int .i64 ((rd_T41 l0 x3_1).f0), .int .i64 ((rd_T41 l0 x3_1).f1), .int .i64 ((rd_T41 l0 x3_1).f2), .int .i64 0, .slice none 0 0]) ?_ 3 _ rfl; (with_reducible repeat (first | refine blk_drewN ?_ _ | refine blk_drew ?_ | refine blk_alloc ?_ _)); refine blk_put (cs := #[.int .i64 ((rd_T41 l0 x3_1).f0), .int .i64 ((rd_T41 l0 x3_1).f1), .int .i64 0, .int .i64 0, .slice none 0 0]) ?_ 2 _ rfl; (with_reducible repeat (first | refine blk_drewN ?_ _ | refine blk_drew ?_ | refine blk_alloc ?_ _)); refine blk_put (cs := #[.int .i64 ((rd_T41 l0 x3_1).f0), .int .i64 0, .int .i64 0, .int .i64 0, .slice none 0 0]) ?_ 1 _ rfl; (with_reducible repeat (first | refine blk_drewN ?_ _ | refine blk_drew ?_ | refine blk_alloc ?_ _)); refine blk_put (cs := #[.int .i64 0, .int .i64 0, .int .i64 0, .int .i64 0, .slice none 0 0]) ?_ 0 _ rfl; (with_reducible repeat (first | refine blk_drewN ?_ _ | refine blk_drew ?_ | refine blk_alloc ?_ _)); exact BK178.out⟩, ⟨by repeat (first | (with_reducible first | exact HB.out | apply below_alloc | apply pw_below_drewN | apply below_drew1 | refine below_set ?_ GE178.out) | exact HB.out)⟩⟩
                      · replace c18 := Bool.eq_false_iff.mpr c18
                        subst c18
                        have H1 : (compositorref23_Check.j1 k1 l0 x3_1 true ((rd_T41 l0 x3_1).f0) ((rd_T41 l0 x3_1).f1) ((rd_T41 l0 x3_1).f2) ((rd_T41 l0 x3_1).f3) ((rd_T41 l0 x3_1).f4)) = some r := by rw [if_neg (show ¬ (false = true) by decide)] at H; exact H
                        clear H
                        have H := H1
                        clear H1
                        have H' := Aside0.mk H
                        clear H
                        have hcz22_0 : w8.cell? ⟨gb178, 0, none⟩ = some (.int .i64 0) := (blk_cell BK178.out 0).trans rfl
                        have hcz22_1 : w8.cell? ⟨gb178, 1, none⟩ = some (.int .i64 0) := (blk_cell BK178.out 1).trans rfl
                        have hcz22_2 : w8.cell? ⟨gb178, 2, none⟩ = some (.int .i64 0) := (blk_cell BK178.out 2).trans rfl
                        have hcz22_3 : w8.cell? ⟨gb178, 3, none⟩ = some (.int .i64 0) := (blk_cell BK178.out 3).trans rfl
                        have hcz22_4 : w8.cell? ⟨gb178, 4, none⟩ = some (.slice none 0 0) := (blk_cell BK178.out 4).trans rfl
                        have hfz22_0 := blk_frozen BK178.out 0
                        have hfz22_1 := blk_frozen BK178.out 1
                        have hfz22_2 := blk_frozen BK178.out 2
                        have hfz22_3 := blk_frozen BK178.out 3
                        have hfz22_4 := blk_frozen BK178.out 4
                        go_wp2
                        go_meet
                        case rel => exact ⟨_, (true), (by first | rfl | (simp; done) | (simp [*]; done)), H', ⟨by have := HK1.out; first | omega | exact Nat.le_refl _⟩, ⟨by (with_reducible repeat (first | refine blk_drewN ?_ _ | refine blk_drew ?_ | refine blk_alloc ?_ _)); refine blk_put (cs := #[.int .i64 ((rd_T41 l0 x3_1).f0), .int .i64 ((rd_T41 l0 x3_1).f1), .int .i64 ((rd_T41 l0 x3_1).f2), .int .i64 ((rd_T41 l0 x3_1).f3), .slice none 0 0]) ?_ 4 _ rfl; (with_reducible repeat (first | refine blk_drewN ?_ _ | refine blk_drew ?_ | refine blk_alloc ?_ _)); refine blk_put (cs := #[.int .i64 ((rd_T41 l0 x3_1).f0), .int .i64 ((rd_T41 l0 x3_1).f1), .int .i64 ((rd_T41 l0 x3_1).f2), .int .i64 0, .slice none 0 0]) ?_ 3 _ rfl; (with_reducible repeat (first | refine blk_drewN ?_ _ | refine blk_drew ?_ | refine blk_alloc ?_ _)); refine blk_put (cs := #[.int .i64 ((rd_T41 l0 x3_1).f0), .int .i64 ((rd_T41 l0 x3_1).f1), .int .i64 0, .int .i64 0, .slice none 0 0]) ?_ 2 _ rfl; (with_reducible repeat (first | refine blk_drewN ?_ _ | refine blk_drew ?_ | refine blk_alloc ?_ _)); refine blk_put (cs := #[.int .i64 ((rd_T41 l0 x3_1).f0), .int .i64 0, .int .i64 0, .int .i64 0, .slice none 0 0]) ?_ 1 _ rfl; (with_reducible repeat (first | refine blk_drewN ?_ _ | refine blk_drew ?_ | refine blk_alloc ?_ _)); refine blk_put (cs := #[.int .i64 0, .int .i64 0, .int .i64 0, .int .i64 0, .slice none 0 0]) ?_ 0 _ rfl; (with_reducible repeat (first | refine blk_drewN ?_ _ | refine blk_drew ?_ | refine blk_alloc ?_ _)); exact BK178.out⟩, ⟨by repeat (first | (with_reducible first | exact HB.out | apply below_alloc | apply pw_below_drewN | apply below_drew1 | refine below_set ?_ GE178.out) | exact HB.out)⟩⟩
            case rest =>
              clear HC7
              try clear c1
              try clear p1
              try clear q1
              try clear hx1
              try clear c2
              try clear c2b0
              try clear c2b1
              try clear p2
              try clear c3
              try clear c3b0
              try clear c4
              try clear c4b0
              try clear c10
              try clear c10b0
              try clear c12
              try clear c12b0
              try clear c14
              try clear c14b0
              try clear c16
              try clear c16b0
              try clear c17
              try clear p17
              try clear q17
              try clear hx17
              try clear c18
              try clear c19
              try clear hcz11_0
              try clear hcz11_1
              try clear hcz11_2
              try clear hcz11_3
              try clear hcz11_4
              try clear hcz13_0
              try clear hcz13_1
              try clear hcz13_2
              try clear hcz13_3
              try clear hcz13_4
              try clear hcz15_0
              try clear hcz15_1
              try clear hcz15_2
              try clear hcz15_3
              try clear hcz15_4
              try clear hcz17_0
              try clear hcz17_1
              try clear hcz17_2
              try clear hcz17_3
              try clear hcz17_4
              try clear hcz20_0
              try clear hcz20_1
              try clear hcz20_2
              try clear hcz20_3
              try clear hcz20_4
              try clear hcz21_0
              try clear hcz21_1
              try clear hcz21_2
              try clear hcz21_3
              try clear hcz21_4
              try clear hcz22_0
              try clear hcz22_1
              try clear hcz22_2
              try clear hcz22_3
              try clear hcz22_4
              try clear hcz9_0
              try clear hcz9_1
              try clear hcz9_2
              try clear hcz9_3
              try clear hcz9_4
              try clear hfz11_0
              try clear hfz11_1
              try clear hfz11_2
              try clear hfz11_3
              try clear hfz11_4
              try clear hfz13_0
              try clear hfz13_1
              try clear hfz13_2
              try clear hfz13_3
              try clear hfz13_4
              try clear hfz15_0
              try clear hfz15_1
              try clear hfz15_2
              try clear hfz15_3
              try clear hfz15_4
              try clear hfz17_0
              try clear hfz17_1
              try clear hfz17_2
              try clear hfz17_3
              try clear hfz17_4
              try clear hfz20_0
              try clear hfz20_1
              try clear hfz20_2
              try clear hfz20_3
              try clear hfz20_4
              try clear hfz21_0
              try clear hfz21_1
              try clear hfz21_2
              try clear hfz21_3
              try clear hfz21_4
              try clear hfz22_0
              try clear hfz22_1
              try clear hfz22_2
              try clear hfz22_3
              try clear hfz22_4
              try clear hfz9_0
              try clear hfz9_1
              try clear hfz9_2
              try clear hfz9_3
              try clear hfz9_4
              try clear hx177_0
              try clear hx177_1
              try clear hx177_2
              try clear hx177_3
              try clear hx177_4
              try clear p177
              try clear p2
              try clear q177
              obtain ⟨kq, x59_6, rfl, HA, HJ6, BK178, HB⟩ := hcut
              cases kq with
              | zero => exact absurd HA.out (by simp [compositorref23_Check.j1])
              | succ kj6 =>
                have H := HA.out
                clear HA
                simp only [compositorref23_Check.j1] at H
                by_cases c23 : x59_6 = true
                · subst c23
                  have H1 : (some false) = some r := by rw [if_pos rfl] at H; exact H
                  clear H
                  have H := H1
                  clear H1
                  obtain rfl := Option.some.inj H
                  go_wp2
                  go_ret
                  exact ⟨by first | rfl | (simp [errW_none, errW_some] <;> rfl) | (simp [*, errW_none, errW_some] <;> rfl), by repeat (first | (with_reducible first | exact HB.out | apply below_alloc | apply pw_below_drewN | apply below_drew1 | refine below_set ?_ GE178.out) | exact HB.out)⟩
                · replace c23 := Bool.eq_false_iff.mpr c23
                  subst c23
                  have H1 : (compositorref23_Check.l1 kj6 l0 x3_1 0 ((rd_T41 l0 x3_1).f0) ((rd_T41 l0 x3_1).f1) ((rd_T41 l0 x3_1).f2) ((rd_T41 l0 x3_1).f3) ((rd_T41 l0 x3_1).f4)) = some r := by rw [if_neg (show ¬ (false = true) by decide)] at H; exact H
                  clear H
                  have H := H1
                  clear H1
                  have H' := Aside0.mk H
                  clear H
                  go_wp2
                  go_loopg [7] kj6 (fun kq v7 w' => ∃ (x7_3 : Int), v7 = .int .i64 x7_3 ∧ Aside0 (compositorref23_Check.l1 kq l0 x3_1 x7_3 ((rd_T41 l0 x3_1).f0) ((rd_T41 l0 x3_1).f1) ((rd_T41 l0 x3_1).f2) ((rd_T41 l0 x3_1).f3) ((rd_T41 l0 x3_1).f4) = some r) ∧ Aside0 (kq ≤ kj6) ∧ Aside0 (w'.heap[gb178]? = some (.cells #[.int .i64 ((rd_T41 l0 x3_1).f0), .int .i64 ((rd_T41 l0 x3_1).f1), .int .i64 ((rd_T41 l0 x3_1).f2), .int .i64 ((rd_T41 l0 x3_1).f3), (.slice A177_4 ((rd_T41 l0 x3_1).f4).length c177_4)] 41 (0, 0))) ∧ Aside0 (Below w.heap.size w w'))
                  case atStart => exact ⟨(0), (by first | rfl | (simp; done) | (simp [*]; done)), H', ⟨Nat.le_refl _⟩, ⟨by (with_reducible repeat (first | refine blk_drewN ?_ _ | refine blk_drew ?_ | refine blk_alloc ?_ _)); exact BK178.out⟩, ⟨by repeat (first | (with_reducible first | exact HB.out | apply below_alloc | apply pw_below_drewN | apply below_drew1 | refine below_set ?_ GE178.out) | exact HB.out)⟩⟩
                  case round =>
                    clear H'
                    try clear c1
                    try clear p1
                    try clear q1
                    try clear hx1
                    try clear c2
                    try clear c2b0
                    try clear c2b1
                    try clear p2
                    try clear c3
                    try clear c3b0
                    try clear c4
                    try clear c4b0
                    try clear c10
                    try clear c10b0
                    try clear c12
                    try clear c12b0
                    try clear c14
                    try clear c14b0
                    try clear c16
                    try clear c16b0
                    try clear c17
                    try clear p17
                    try clear q17
                    try clear hx17
                    try clear c18
                    try clear c19
                    try clear c23
                    try clear hcz11_0
                    try clear hcz11_1
                    try clear hcz11_2
                    try clear hcz11_3
                    try clear hcz11_4
                    try clear hcz13_0
                    try clear hcz13_1
                    try clear hcz13_2
                    try clear hcz13_3
                    try clear hcz13_4
                    try clear hcz15_0
                    try clear hcz15_1
                    try clear hcz15_2
                    try clear hcz15_3
                    try clear hcz15_4
                    try clear hcz17_0
                    try clear hcz17_1
                    try clear hcz17_2
                    try clear hcz17_3
                    try clear hcz17_4
                    try clear hcz20_0
                    try clear hcz20_1
                    try clear hcz20_2
                    try clear hcz20_3
                    try clear hcz20_4
                    try clear hcz21_0
                    try clear hcz21_1
                    try clear hcz21_2
                    try clear hcz21_3
                    try clear hcz21_4
                    try clear hcz22_0
                    try clear hcz22_1
                    try clear hcz22_2
                    try clear hcz22_3
                    try clear hcz22_4
                    try clear hcz9_0
                    try clear hcz9_1
                    try clear hcz9_2
                    try clear hcz9_3
                    try clear hcz9_4
                    try clear hfz11_0
                    try clear hfz11_1
                    try clear hfz11_2
                    try clear hfz11_3
                    try clear hfz11_4
                    try clear hfz13_0
                    try clear hfz13_1
                    try clear hfz13_2
                    try clear hfz13_3
                    try clear hfz13_4
                    try clear hfz15_0
                    try clear hfz15_1
                    try clear hfz15_2
                    try clear hfz15_3
                    try clear hfz15_4
                    try clear hfz17_0
                    try clear hfz17_1
                    try clear hfz17_2
                    try clear hfz17_3
                    try clear hfz17_4
                    try clear hfz20_0
                    try clear hfz20_1
                    try clear hfz20_2
                    try clear hfz20_3
                    try clear hfz20_4
                    try clear hfz21_0
                    try clear hfz21_1
                    try clear hfz21_2
                    try clear hfz21_3
                    try clear hfz21_4
                    try clear hfz22_0
                    try clear hfz22_1
                    try clear hfz22_2
                    try clear hfz22_3
                    try clear hfz22_4
                    try clear hfz9_0
                    try clear hfz9_1
                    try clear hfz9_2
                    try clear hfz9_3
                    try clear hfz9_4
                    try clear hx177_0
                    try clear hx177_1
                    try clear hx177_2
                    try clear hx177_3
                    try clear hx177_4
                    try clear p1
                    try clear p17
                    try clear p177
                    try clear p2
                    try clear q1
                    try clear q17
                    try clear q177
                    obtain ⟨x7_3, rfl, HA, HK3, BK178, HB⟩ := hrel
                    cases gk with
                    | zero => exact absurd HA.out (by simp [compositorref23_Check.l1])
                    | succ k3 =>
                      have H := HA.out
                      clear HA
                      simp only [compositorref23_Check.l1] at H
                      by_cases c24 : x7_3 < (((rd_T41 l0 x3_1).f4).length : Int)
                      · rw [if_pos c24] at H
                        have c24b0 : decide (x7_3 < (((rd_T41 l0 x3_1).f4).length : Int)) = true := decide_eq_true c24
                        clear c24
                        by_cases c25 : 0 ≤ x7_3
                        · rw [if_pos c25] at H
                          have c25b0 : decide (0 ≤ x7_3) = true := decide_eq_true c25
                          clear c25
                          replace H := Option.bind_eq_some_iff.mp H
                          obtain ⟨t182, A260, H⟩ := H
                          replace H : (if ((rd_T43 ((rd_T41 l0 x3_1).f4) x7_3).f0) < 0 then (some false) else (if ((rd_T43 ((rd_T41 l0 x3_1).f4) x7_3).f0) > 255 then (some false) else (if t182 = true then (compositorref23_Check.l1 k3 l0 x3_1 (wrap64 (x7_3 + 1)) ((rd_T41 l0 x3_1).f0) ((rd_T41 l0 x3_1).f1) ((rd_T41 l0 x3_1).f2) ((rd_T41 l0 x3_1).f3) ((rd_T41 l0 x3_1).f4)) else (some false)))) = some r := H
                          have A26 := Aside0.mk A260
                          clear A260
                          by_cases c27 : ((rd_T43 ((rd_T41 l0 x3_1).f4) x7_3).f0) < 0
                          · rw [if_pos c27] at H
                            have c27b0 : decide (((rd_T43 ((rd_T41 l0 x3_1).f4) x7_3).f0) < 0) = true := decide_eq_true c27
                            clear c27
                            obtain rfl := Option.some.inj H
                            have hcz28_0 : wr.cell? ⟨gb178, 0, none⟩ = some (.int .i64 ((rd_T41 l0 x3_1).f0)) := (blk_cell BK178.out 0).trans rfl
                            have hcz28_1 : wr.cell? ⟨gb178, 1, none⟩ = some (.int .i64 ((rd_T41 l0 x3_1).f1)) := (blk_cell BK178.out 1).trans rfl
                            have hcz28_2 : wr.cell? ⟨gb178, 2, none⟩ = some (.int .i64 ((rd_T41 l0 x3_1).f2)) := (blk_cell BK178.out 2).trans rfl
                            have hcz28_3 : wr.cell? ⟨gb178, 3, none⟩ = some (.int .i64 ((rd_T41 l0 x3_1).f3)) := (blk_cell BK178.out 3).trans rfl
                            have hcz28_4 : wr.cell? ⟨gb178, 4, none⟩ = some (.slice A177_4 ((rd_T41 l0 x3_1).f4).length c177_4) := (blk_cell BK178.out 4).trans rfl
                            have hfz28_0 := blk_frozen BK178.out 0
                            have hfz28_1 := blk_frozen BK178.out 1
                            have hfz28_2 := blk_frozen BK178.out 2
                            have hfz28_3 := blk_frozen BK178.out 3
                            have hfz28_4 := blk_frozen BK178.out 4
                            have p181 : 0 ≤ (x7_3 : Int) := of_decide_eq_true (by first | (with_reducible assumption) | assumption)
                            have q181 : x7_3 < (((rd_T41 l0 x3_1).f4).length : Int) := of_decide_eq_true (by first | (with_reducible assumption) | assumption)
                            obtain ⟨ad181, e181, hx181_0, hx181_1⟩ := at_T43 HR177_4.out x7_3 p181 q181
                            cases e181
                            replace hx181_0 := (HB.out.cell (World.block_lt_of_cell? w _ hx181_0)).trans hx181_0
                            replace hx181_1 := (HB.out.cell (World.block_lt_of_cell? w _ hx181_1)).trans hx181_1
                            replace p181 := eq_true p181
                            replace q181 := eq_true q181
                            go_wp2_with (first | ((with_reducible refine gate_callee (f := 29) rfl ?_); refine goesL_ (some 73) rfl rfl Try.func29 (by kernel_rfl) rfl #[.int .i64 ((rd_T43 ((rd_T41 l0 x3_1).f4) x7_3).f1)] rfl (by (try simp only [List.map_toArray, List.map_cons, List.map_nil]); first | done | rfl | (simp only [List.length_drop, List.length_take]; rfl)) ?_; (with_reducible refine (compositorref23_word.calls ((rd_T43 ((rd_T41 l0 x3_1).f4) x7_3).f1) t182 _ A26.out).mono ?_); rintro e w' ⟨rfl, ⟨nd, rfl⟩⟩; refine ⟨_, rfl, ?_⟩; have p183 : 0 ≤ (x7_3 : Int) := of_decide_eq_true (by first | (with_reducible assumption) | assumption); have q183 : x7_3 < (((rd_T41 l0 x3_1).f4).length : Int) := of_decide_eq_true (by first | (with_reducible assumption) | assumption); obtain ⟨ad183, e183, hx183_0, hx183_1⟩ := at_T43 HR177_4.out x7_3 p183 q183; obtain rfl : ad181 = ad183 := (by injection e183); replace hx183_0 := (HB.out.cell (World.block_lt_of_cell? w _ hx183_0)).trans hx183_0; replace hx183_1 := (HB.out.cell (World.block_lt_of_cell? w _ hx183_1)).trans hx183_1; replace p183 := eq_true p183; replace q183 := eq_true q183))
                            go_ret
                            exact ⟨by first | rfl | (simp [errW_none, errW_some] <;> rfl) | (simp [*, errW_none, errW_some] <;> rfl), by repeat (first | (with_reducible first | exact HB.out | apply below_alloc | apply pw_below_drewN | apply below_drew1 | refine below_set ?_ GE178.out) | exact HB.out)⟩
                          · rw [if_neg c27] at H
                            have c27b0 : decide (((rd_T43 ((rd_T41 l0 x3_1).f4) x7_3).f0) < 0) = false := decide_eq_false c27
                            clear c27
                            by_cases c29 : ((rd_T43 ((rd_T41 l0 x3_1).f4) x7_3).f0) > 255
                            · rw [if_pos c29] at H
                              have c29b0 : decide (255 < ((rd_T43 ((rd_T41 l0 x3_1).f4) x7_3).f0)) = true := decide_eq_true c29
                              clear c29
                              obtain rfl := Option.some.inj H
                              have hcz30_0 : wr.cell? ⟨gb178, 0, none⟩ = some (.int .i64 ((rd_T41 l0 x3_1).f0)) := (blk_cell BK178.out 0).trans rfl
                              have hcz30_1 : wr.cell? ⟨gb178, 1, none⟩ = some (.int .i64 ((rd_T41 l0 x3_1).f1)) := (blk_cell BK178.out 1).trans rfl
                              have hcz30_2 : wr.cell? ⟨gb178, 2, none⟩ = some (.int .i64 ((rd_T41 l0 x3_1).f2)) := (blk_cell BK178.out 2).trans rfl
                              have hcz30_3 : wr.cell? ⟨gb178, 3, none⟩ = some (.int .i64 ((rd_T41 l0 x3_1).f3)) := (blk_cell BK178.out 3).trans rfl
                              have hcz30_4 : wr.cell? ⟨gb178, 4, none⟩ = some (.slice A177_4 ((rd_T41 l0 x3_1).f4).length c177_4) := (blk_cell BK178.out 4).trans rfl
                              have hfz30_0 := blk_frozen BK178.out 0
                              have hfz30_1 := blk_frozen BK178.out 1
                              have hfz30_2 := blk_frozen BK178.out 2
                              have hfz30_3 := blk_frozen BK178.out 3
                              have hfz30_4 := blk_frozen BK178.out 4
                              have p181 : 0 ≤ (x7_3 : Int) := of_decide_eq_true (by first | (with_reducible assumption) | assumption)
                              have q181 : x7_3 < (((rd_T41 l0 x3_1).f4).length : Int) := of_decide_eq_true (by first | (with_reducible assumption) | assumption)
                              obtain ⟨ad181, e181, hx181_0, hx181_1⟩ := at_T43 HR177_4.out x7_3 p181 q181
                              cases e181
                              replace hx181_0 := (HB.out.cell (World.block_lt_of_cell? w _ hx181_0)).trans hx181_0
                              replace hx181_1 := (HB.out.cell (World.block_lt_of_cell? w _ hx181_1)).trans hx181_1
                              replace p181 := eq_true p181
                              replace q181 := eq_true q181
                              go_wp2_with (first | ((with_reducible refine gate_callee (f := 29) rfl ?_); refine goesL_ (some 73) rfl rfl Try.func29 (by kernel_rfl) rfl #[.int .i64 ((rd_T43 ((rd_T41 l0 x3_1).f4) x7_3).f1)] rfl (by (try simp only [List.map_toArray, List.map_cons, List.map_nil]); first | done | rfl | (simp only [List.length_drop, List.length_take]; rfl)) ?_; (with_reducible refine (compositorref23_word.calls ((rd_T43 ((rd_T41 l0 x3_1).f4) x7_3).f1) t182 _ A26.out).mono ?_); rintro e w' ⟨rfl, ⟨nd, rfl⟩⟩; refine ⟨_, rfl, ?_⟩; have p183 : 0 ≤ (x7_3 : Int) := of_decide_eq_true (by first | (with_reducible assumption) | assumption); have q183 : x7_3 < (((rd_T41 l0 x3_1).f4).length : Int) := of_decide_eq_true (by first | (with_reducible assumption) | assumption); obtain ⟨ad183, e183, hx183_0, hx183_1⟩ := at_T43 HR177_4.out x7_3 p183 q183; obtain rfl : ad181 = ad183 := (by injection e183); replace hx183_0 := (HB.out.cell (World.block_lt_of_cell? w _ hx183_0)).trans hx183_0; replace hx183_1 := (HB.out.cell (World.block_lt_of_cell? w _ hx183_1)).trans hx183_1; replace p183 := eq_true p183; replace q183 := eq_true q183; have p184 : 0 ≤ (x7_3 : Int) := of_decide_eq_true (by first | (with_reducible assumption) | assumption); have q184 : x7_3 < (((rd_T41 l0 x3_1).f4).length : Int) := of_decide_eq_true (by first | (with_reducible assumption) | assumption); obtain ⟨ad184, e184, hx184_0, hx184_1⟩ := at_T43 HR177_4.out x7_3 p184 q184; obtain rfl : ad181 = ad184 := (by injection e184); replace hx184_0 := (HB.out.cell (World.block_lt_of_cell? w _ hx184_0)).trans hx184_0; replace hx184_1 := (HB.out.cell (World.block_lt_of_cell? w _ hx184_1)).trans hx184_1; replace p184 := eq_true p184; replace q184 := eq_true q184))
                              go_ret
                              exact ⟨by first | rfl | (simp [errW_none, errW_some] <;> rfl) | (simp [*, errW_none, errW_some] <;> rfl), by repeat (first | (with_reducible first | exact HB.out | apply below_alloc | apply pw_below_drewN | apply below_drew1 | refine below_set ?_ GE178.out) | exact HB.out)⟩
                            · rw [if_neg c29] at H
                              have c29b0 : decide (255 < ((rd_T43 ((rd_T41 l0 x3_1).f4) x7_3).f0)) = false := decide_eq_false c29
                              clear c29
                              by_cases c31 : t182 = true
                              · subst c31
                                have H1 : (compositorref23_Check.l1 k3 l0 x3_1 (wrap64 (x7_3 + 1)) ((rd_T41 l0 x3_1).f0) ((rd_T41 l0 x3_1).f1) ((rd_T41 l0 x3_1).f2) ((rd_T41 l0 x3_1).f3) ((rd_T41 l0 x3_1).f4)) = some r := by rw [if_pos rfl] at H; exact H
                                clear H
                                have H := H1
                                clear H1
                                have H' := Aside0.mk H
                                clear H
                                have hcz32_0 : wr.cell? ⟨gb178, 0, none⟩ = some (.int .i64 ((rd_T41 l0 x3_1).f0)) := (blk_cell BK178.out 0).trans rfl
                                have hcz32_1 : wr.cell? ⟨gb178, 1, none⟩ = some (.int .i64 ((rd_T41 l0 x3_1).f1)) := (blk_cell BK178.out 1).trans rfl
                                have hcz32_2 : wr.cell? ⟨gb178, 2, none⟩ = some (.int .i64 ((rd_T41 l0 x3_1).f2)) := (blk_cell BK178.out 2).trans rfl
                                have hcz32_3 : wr.cell? ⟨gb178, 3, none⟩ = some (.int .i64 ((rd_T41 l0 x3_1).f3)) := (blk_cell BK178.out 3).trans rfl
                                have hcz32_4 : wr.cell? ⟨gb178, 4, none⟩ = some (.slice A177_4 ((rd_T41 l0 x3_1).f4).length c177_4) := (blk_cell BK178.out 4).trans rfl
                                have hfz32_0 := blk_frozen BK178.out 0
                                have hfz32_1 := blk_frozen BK178.out 1
                                have hfz32_2 := blk_frozen BK178.out 2
                                have hfz32_3 := blk_frozen BK178.out 3
                                have hfz32_4 := blk_frozen BK178.out 4
                                have p181 : 0 ≤ (x7_3 : Int) := of_decide_eq_true (by first | (with_reducible assumption) | assumption)
                                have q181 : x7_3 < (((rd_T41 l0 x3_1).f4).length : Int) := of_decide_eq_true (by first | (with_reducible assumption) | assumption)
                                obtain ⟨ad181, e181, hx181_0, hx181_1⟩ := at_T43 HR177_4.out x7_3 p181 q181
                                cases e181
                                replace hx181_0 := (HB.out.cell (World.block_lt_of_cell? w _ hx181_0)).trans hx181_0
                                replace hx181_1 := (HB.out.cell (World.block_lt_of_cell? w _ hx181_1)).trans hx181_1
                                replace p181 := eq_true p181
                                replace q181 := eq_true q181
                                go_wp2_with (first | ((with_reducible refine gate_callee (f := 29) rfl ?_); refine goesL_ (some 73) rfl rfl Try.func29 (by kernel_rfl) rfl #[.int .i64 ((rd_T43 ((rd_T41 l0 x3_1).f4) x7_3).f1)] rfl (by (try simp only [List.map_toArray, List.map_cons, List.map_nil]); first | done | rfl | (simp only [List.length_drop, List.length_take]; rfl)) ?_; (with_reducible refine (compositorref23_word.calls ((rd_T43 ((rd_T41 l0 x3_1).f4) x7_3).f1) true _ A26.out).mono ?_); rintro e w' ⟨rfl, ⟨nd, rfl⟩⟩; refine ⟨_, rfl, ?_⟩; have p183 : 0 ≤ (x7_3 : Int) := of_decide_eq_true (by first | (with_reducible assumption) | assumption); have q183 : x7_3 < (((rd_T41 l0 x3_1).f4).length : Int) := of_decide_eq_true (by first | (with_reducible assumption) | assumption); obtain ⟨ad183, e183, hx183_0, hx183_1⟩ := at_T43 HR177_4.out x7_3 p183 q183; obtain rfl : ad181 = ad183 := (by injection e183); replace hx183_0 := (HB.out.cell (World.block_lt_of_cell? w _ hx183_0)).trans hx183_0; replace hx183_1 := (HB.out.cell (World.block_lt_of_cell? w _ hx183_1)).trans hx183_1; replace p183 := eq_true p183; replace q183 := eq_true q183; have p184 : 0 ≤ (x7_3 : Int) := of_decide_eq_true (by first | (with_reducible assumption) | assumption); have q184 : x7_3 < (((rd_T41 l0 x3_1).f4).length : Int) := of_decide_eq_true (by first | (with_reducible assumption) | assumption); obtain ⟨ad184, e184, hx184_0, hx184_1⟩ := at_T43 HR177_4.out x7_3 p184 q184; obtain rfl : ad181 = ad184 := (by injection e184); replace hx184_0 := (HB.out.cell (World.block_lt_of_cell? w _ hx184_0)).trans hx184_0; replace hx184_1 := (HB.out.cell (World.block_lt_of_cell? w _ hx184_1)).trans hx184_1; replace p184 := eq_true p184; replace q184 := eq_true q184))
                                go_roundg k3
                                case measure => have := HK1.out; have := HJ6.out; have := HK3.out; omega
                                case rel => exact ⟨(wrap64 (x7_3 + 1)), (by first | rfl | (simp; done) | (simp [*]; done)), H', ⟨by have := HK1.out; have := HJ6.out; have := HK3.out; omega⟩, ⟨by (with_reducible repeat (first | refine blk_drewN ?_ _ | refine blk_drew ?_ | refine blk_alloc ?_ _)); exact BK178.out⟩, ⟨by repeat (first | (with_reducible first | exact HB.out | apply below_alloc | apply pw_below_drewN | apply below_drew1 | refine below_set ?_ GE178.out) | exact HB.out)⟩⟩
                              · replace c31 := Bool.eq_false_iff.mpr c31
                                subst c31
                                have H1 : (some false) = some r := by rw [if_neg (show ¬ (false = true) by decide)] at H; exact H
                                clear H
                                have H := H1
                                clear H1
                                obtain rfl := Option.some.inj H
                                have hcz33_0 : wr.cell? ⟨gb178, 0, none⟩ = some (.int .i64 ((rd_T41 l0 x3_1).f0)) := (blk_cell BK178.out 0).trans rfl
                                have hcz33_1 : wr.cell? ⟨gb178, 1, none⟩ = some (.int .i64 ((rd_T41 l0 x3_1).f1)) := (blk_cell BK178.out 1).trans rfl
                                have hcz33_2 : wr.cell? ⟨gb178, 2, none⟩ = some (.int .i64 ((rd_T41 l0 x3_1).f2)) := (blk_cell BK178.out 2).trans rfl
                                have hcz33_3 : wr.cell? ⟨gb178, 3, none⟩ = some (.int .i64 ((rd_T41 l0 x3_1).f3)) := (blk_cell BK178.out 3).trans rfl
                                have hcz33_4 : wr.cell? ⟨gb178, 4, none⟩ = some (.slice A177_4 ((rd_T41 l0 x3_1).f4).length c177_4) := (blk_cell BK178.out 4).trans rfl
                                have hfz33_0 := blk_frozen BK178.out 0
                                have hfz33_1 := blk_frozen BK178.out 1
                                have hfz33_2 := blk_frozen BK178.out 2
                                have hfz33_3 := blk_frozen BK178.out 3
                                have hfz33_4 := blk_frozen BK178.out 4
                                have p181 : 0 ≤ (x7_3 : Int) := of_decide_eq_true (by first | (with_reducible assumption) | assumption)
                                have q181 : x7_3 < (((rd_T41 l0 x3_1).f4).length : Int) := of_decide_eq_true (by first | (with_reducible assumption) | assumption)
                                obtain ⟨ad181, e181, hx181_0, hx181_1⟩ := at_T43 HR177_4.out x7_3 p181 q181
                                cases e181
                                replace hx181_0 := (HB.out.cell (World.block_lt_of_cell? w _ hx181_0)).trans hx181_0
                                replace hx181_1 := (HB.out.cell (World.block_lt_of_cell? w _ hx181_1)).trans hx181_1
                                replace p181 := eq_true p181
                                replace q181 := eq_true q181
                                go_wp2_with (first | ((with_reducible refine gate_callee (f := 29) rfl ?_); refine goesL_ (some 73) rfl rfl Try.func29 (by kernel_rfl) rfl #[.int .i64 ((rd_T43 ((rd_T41 l0 x3_1).f4) x7_3).f1)] rfl (by (try simp only [List.map_toArray, List.map_cons, List.map_nil]); first | done | rfl | (simp only [List.length_drop, List.length_take]; rfl)) ?_; (with_reducible refine (compositorref23_word.calls ((rd_T43 ((rd_T41 l0 x3_1).f4) x7_3).f1) false _ A26.out).mono ?_); rintro e w' ⟨rfl, ⟨nd, rfl⟩⟩; refine ⟨_, rfl, ?_⟩; have p183 : 0 ≤ (x7_3 : Int) := of_decide_eq_true (by first | (with_reducible assumption) | assumption); have q183 : x7_3 < (((rd_T41 l0 x3_1).f4).length : Int) := of_decide_eq_true (by first | (with_reducible assumption) | assumption); obtain ⟨ad183, e183, hx183_0, hx183_1⟩ := at_T43 HR177_4.out x7_3 p183 q183; obtain rfl : ad181 = ad183 := (by injection e183); replace hx183_0 := (HB.out.cell (World.block_lt_of_cell? w _ hx183_0)).trans hx183_0; replace hx183_1 := (HB.out.cell (World.block_lt_of_cell? w _ hx183_1)).trans hx183_1; replace p183 := eq_true p183; replace q183 := eq_true q183; have p184 : 0 ≤ (x7_3 : Int) := of_decide_eq_true (by first | (with_reducible assumption) | assumption); have q184 : x7_3 < (((rd_T41 l0 x3_1).f4).length : Int) := of_decide_eq_true (by first | (with_reducible assumption) | assumption); obtain ⟨ad184, e184, hx184_0, hx184_1⟩ := at_T43 HR177_4.out x7_3 p184 q184; obtain rfl : ad181 = ad184 := (by injection e184); replace hx184_0 := (HB.out.cell (World.block_lt_of_cell? w _ hx184_0)).trans hx184_0; replace hx184_1 := (HB.out.cell (World.block_lt_of_cell? w _ hx184_1)).trans hx184_1; replace p184 := eq_true p184; replace q184 := eq_true q184))
                                go_ret
                                exact ⟨by first | rfl | (simp [errW_none, errW_some] <;> rfl) | (simp [*, errW_none, errW_some] <;> rfl), by repeat (first | (with_reducible first | exact HB.out | apply below_alloc | apply pw_below_drewN | apply below_drew1 | refine below_set ?_ GE178.out) | exact HB.out)⟩
                        · rw [if_neg c25] at H
                          exact absurd H (by simp)
                      · rw [if_neg c24] at H
                        have c24b0 : decide (x7_3 < (((rd_T41 l0 x3_1).f4).length : Int)) = false := decide_eq_false c24
                        clear c24
                        have H' := Aside0.mk H
                        clear H
                        have hcz34_0 : wr.cell? ⟨gb178, 0, none⟩ = some (.int .i64 ((rd_T41 l0 x3_1).f0)) := (blk_cell BK178.out 0).trans rfl
                        have hcz34_1 : wr.cell? ⟨gb178, 1, none⟩ = some (.int .i64 ((rd_T41 l0 x3_1).f1)) := (blk_cell BK178.out 1).trans rfl
                        have hcz34_2 : wr.cell? ⟨gb178, 2, none⟩ = some (.int .i64 ((rd_T41 l0 x3_1).f2)) := (blk_cell BK178.out 2).trans rfl
                        have hcz34_3 : wr.cell? ⟨gb178, 3, none⟩ = some (.int .i64 ((rd_T41 l0 x3_1).f3)) := (blk_cell BK178.out 3).trans rfl
                        have hcz34_4 : wr.cell? ⟨gb178, 4, none⟩ = some (.slice A177_4 ((rd_T41 l0 x3_1).f4).length c177_4) := (blk_cell BK178.out 4).trans rfl
                        have hfz34_0 := blk_frozen BK178.out 0
                        have hfz34_1 := blk_frozen BK178.out 1
                        have hfz34_2 := blk_frozen BK178.out 2
                        have hfz34_3 := blk_frozen BK178.out 3
                        have hfz34_4 := blk_frozen BK178.out 4
                        go_wp2
                        go_roundg k3
                        case measure => have := HK1.out; have := HJ6.out; have := HK3.out; omega
                        case rel => exact ⟨(wrap64 (x3_1 + 1)), (by first | rfl | (simp; done) | (simp [*]; done)), H', ⟨by have := HK1.out; have := HJ6.out; have := HK3.out; omega⟩, ⟨by repeat (first | (with_reducible first | exact HB.out | apply below_alloc | apply pw_below_drewN | apply below_drew1 | refine below_set ?_ GE178.out) | exact HB.out)⟩⟩
          · rw [if_neg c4] at H
            exact absurd H (by simp)
        · rw [if_neg c3] at H
          have c3b0 : decide (x3_1 < (l0.length : Int)) = false := decide_eq_false c3
          clear c3
          obtain rfl := Option.some.inj H
          go_wp2
          go_ret
          exact ⟨by first | rfl | (simp [errW_none, errW_some] <;> rfl) | (simp [*, errW_none, errW_some] <;> rfl), by repeat (first | (with_reducible first | exact HB.out | apply below_alloc | apply pw_below_drewN | apply below_drew1) | exact HB.out)⟩

/-! ### compositorref06_power: function 38 -/
def compositorref06_power.l0 : Nat → Int → Int → Int → Option (Int)
  | 0, _, _, _ => none
  | k + 1, x0, x3, x4 => if x4 < x0 then (compositorref06_power.l0 k x0 (wrap64 (256 * x3)) (wrap64 (x4 + 1))) else (some x3)
def compositorref06_power.f (k : Nat) (a0 : Int) : Option (Int) := compositorref06_power.l0 k a0 1 0
theorem compositorref06_power.mono_l : ∀ k, (∀ y0 y1 y2, LeO (compositorref06_power.l0 k y0 y1 y2) (compositorref06_power.l0 (k + 1) y0 y1 y2))
  | 0 => fun _ _ _ r h => by simp [compositorref06_power.l0] at h
  | k + 1 => by
    have ih0 := compositorref06_power.mono_l k
    · intro y0 y1 y2
      unfold compositorref06_power.l0
      repeat' first
      | (with_reducible exact ih0 _ _ _)
      | (with_reducible exact LeO.refl _)
      | (with_reducible exact LeO.none _)
      | (with_reducible refine LeO.ite ?_ ?_)
      | (with_reducible refine LeO.bind ?_ (fun _ => ?_))
      | exact ih0 _ _ _
      | exact LeO.none _
      | refine LeO.ite ?_ ?_
      | refine LeO.bind ?_ (fun _ => ?_)
theorem compositorref06_power.mono : ∀ a0 k, LeO (compositorref06_power.f k a0) (compositorref06_power.f (k + 1) a0) := by
  intro a0 k
  have ih0 := compositorref06_power.mono_l k
  unfold compositorref06_power.f
  repeat' first
      | (with_reducible exact ih0 _ _ _)
      | (with_reducible exact LeO.refl _)
      | (with_reducible exact LeO.none _)
      | (with_reducible refine LeO.ite ?_ ?_)
      | (with_reducible refine LeO.bind ?_ (fun _ => ?_))
      | exact ih0 _ _ _
      | exact LeO.none _
      | refine LeO.ite ?_ ?_
      | refine LeO.bind ?_ (fun _ => ?_)
set_option maxHeartbeats 8000000 in
set_option maxRecDepth 100000 in
theorem compositorref06_power.calls (k : Nat) (a0 : Int) (r : Int) (w : World) (h : compositorref06_power.f k a0 = some r) :
    Calls Try.prog 38 #[.int .i64 a0] w fun e w' => e = .returned (.int .i64 r) ∧ Drawn0 w w' := by
  have H : (compositorref06_power.l0 k a0 1 0) = some r := h
  clear h
  have H' := Aside0.mk H
  clear H
  go_enter Try.func38, Try.ntmps38
  go_wp2
  go_loopg [3, 4] k (fun kq v3 v4 w' => ∃ (x3_1 : Int) (x4_1 : Int), v3 = .int .i64 x3_1 ∧ v4 = .int .i64 x4_1 ∧ Aside0 (compositorref06_power.l0 kq a0 x3_1 x4_1 = some r) ∧ Aside0 (kq ≤ k) ∧ Drawn0 w w')
  case atStart => exact ⟨(1), (0), (by first | rfl | (simp; done) | (simp [*]; done)), (by first | rfl | (simp; done) | (simp [*]; done)), H', ⟨Nat.le_refl _⟩, by repeat (first | exact Drawn0.refl _ | apply Drawn0.step)⟩
  case round =>
    clear H'
    obtain ⟨x3_1, x4_1, rfl, rfl, HA, HK1, ⟨m1, rfl⟩⟩ := hrel
    cases gk with
    | zero => exact absurd HA.out (by simp [compositorref06_power.l0])
    | succ k1 =>
      have H := HA.out
      clear HA
      simp only [compositorref06_power.l0] at H
      by_cases c2 : x4_1 < a0
      · rw [if_pos c2] at H
        have c2b0 : decide (x4_1 < a0) = true := decide_eq_true c2
        clear c2
        have H' := Aside0.mk H
        clear H
        go_wp2
        go_roundg k1
        case measure => have := HK1.out; omega
        case rel => exact ⟨(wrap64 (256 * x3_1)), (wrap64 (x4_1 + 1)), (by first | rfl | (simp; done) | (simp [*]; done)), (by first | rfl | (simp; done) | (simp [*]; done)), H', ⟨by have := HK1.out; omega⟩, by repeat (first | exact Drawn0.refl _ | apply Drawn0.step)⟩
      · rw [if_neg c2] at H
        have c2b0 : decide (x4_1 < a0) = false := decide_eq_false c2
        clear c2
        obtain rfl := Option.some.inj H
        go_wp2
        go_ret
        exact ⟨by first | rfl | (simp; done) | (simp [*]; done), by repeat (first | exact Drawn0.refl _ | apply Drawn0.step)⟩

end Go.Proofs.Ythlhfnbaihdjkaa.Q
