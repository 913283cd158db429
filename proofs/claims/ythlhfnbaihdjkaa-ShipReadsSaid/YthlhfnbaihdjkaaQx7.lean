-- WRITTEN BY A PROGRAM OF THIS SESSION (wip/gprint.py) OVER THE KIT'S PRINT, some functions given by hand
import Derived.Test.YthlhfnbaihdjkaaQx0
import Derived.Test.YthlhfnbaihdjkaaQx5
import Derived.Test.YthlhfnbaihdjkaaQx6
namespace Go.Proofs.Ythlhfnbaihdjkaa.Q
open Go.RowKit Go.Proofs.YthlhfnbaihdjkaaW.PrintWords Go.Proofs.YthlhfnbaihdjkaaW.PrintLast Go.Proofs.YthlhfnbaihdjkaaW.PrintMore
attribute [local go_sem] max2_int min2_int max_two min_two max_three min_three max_four min_four   -- for this text's walks alone
set_option linter.unusedVariables false
set_option linter.unusedSimpArgs false

/-! ### compositorref23_Write: function 10 -/
mutual
def compositorref23_Write.l0 : Nat → List (S41) → List Int → Int → Option (List Int × Int)
  | 0, _, _, _ => none
  | k + 1, x0, x5, x6 => if x6 < (x0.length : Int) then (if 0 ≤ x6 then ((some (([(wrap64 (((rd_T41 x0 x6).f0) + 8)) % 256, ((rd_T41 x0 x6).f1) % 256] : List Int) : List Int)).bind fun y210 => (if x5.length + y210.length < 140737488355328 then ((compositorref06_PutFix.f k (x5 ++ y210) ((rd_T41 x0 x6).f2)).bind fun bt217 => ((compositorref06_PutFix.f k bt217.1 ((rd_T41 x0 x6).f3)).bind fun bt222 => ((compositorref06_Put.f k bt222.1 (((rd_T41 x0 x6).f4).length : Int) 2).bind fun bt227 => (compositorref23_Write.l1 k x0 bt227.1 x6 0)))) else (none))) else (none)) else (some (x5, 0))
def compositorref23_Write.l1 : Nat → List (S41) → List Int → Int → Int → Option (List Int × Int)
  | 0, _, _, _, _ => none
  | k + 1, x0, x5, x6, x7 => if 0 ≤ x6 then (if x6 < (x0.length : Int) then (if x7 < (((rd_T41 x0 x6).f4).length : Int) then (if 0 ≤ x7 then ((compositorref06_PutFix.f k ([] : List Int) ((rd_T43 ((rd_T41 x0 x6).f4) x7).f1)).bind fun bt234 => (if x5.length < 140737488355328 then ((some (x5 ++ [((rd_T43 ((rd_T41 x0 x6).f4) x7).f0) % 256] : List Int)).bind fun y240 => (if y240.length + bt234.1.length < 140737488355328 then (compositorref23_Write.l1 k x0 (y240 ++ bt234.1) x6 (wrap64 (x7 + 1))) else (none))) else (none))) else (none)) else (compositorref23_Write.l0 k x0 x5 (wrap64 (x6 + 1)))) else (none)) else (none)
end
def compositorref23_Write.f (k : Nat) (l0 : List (S41)) : Option (List Int × Int) := (compositorref23_Check.f k l0).bind fun t204 => (if t204 = true then (compositorref23_Write.l0 k l0 (([67, 79, ((l0.length : Int)) % 256] : List Int)) 0) else (some (([] : List Int), 230)))
theorem compositorref23_Write.mono_l : ∀ k, (∀ y0 y1 y2, LeO (compositorref23_Write.l0 k y0 y1 y2) (compositorref23_Write.l0 (k + 1) y0 y1 y2)) ∧ (∀ y0 y1 y2 y3, LeO (compositorref23_Write.l1 k y0 y1 y2 y3) (compositorref23_Write.l1 (k + 1) y0 y1 y2 y3))
  | 0 => ⟨fun _ _ _ r h => by simp [compositorref23_Write.l0] at h, fun _ _ _ _ r h => by simp [compositorref23_Write.l1] at h⟩
  | k + 1 => by
    obtain ⟨ih0, ih1⟩ := compositorref23_Write.mono_l k
    refine ⟨?_, ?_⟩
    · intro y0 y1 y2
      unfold compositorref23_Write.l0
      repeat' first
      | (with_reducible exact ih0 _ _ _)
      | (with_reducible exact ih1 _ _ _ _)
      | (with_reducible exact compositorref06_Put.mono _ _ _ _)
      | (with_reducible exact compositorref06_PutFix.mono _ _ _)
      | (with_reducible exact compositorref23_Check.mono _ _)
      | (with_reducible exact LeO.refl _)
      | (with_reducible exact LeO.none _)
      | (with_reducible refine LeO.ite ?_ ?_)
      | (with_reducible refine LeO.bind ?_ (fun _ => ?_))
      | exact ih0 _ _ _
      | exact ih1 _ _ _ _
      | exact compositorref06_Put.mono _ _ _ _
      | exact compositorref06_PutFix.mono _ _ _
      | exact compositorref23_Check.mono _ _
      | exact LeO.none _
      | refine LeO.ite ?_ ?_
      | refine LeO.bind ?_ (fun _ => ?_)
    · intro y0 y1 y2 y3
      unfold compositorref23_Write.l1
      repeat' first
      | (with_reducible exact ih0 _ _ _)
      | (with_reducible exact ih1 _ _ _ _)
      | (with_reducible exact compositorref06_Put.mono _ _ _ _)
      | (with_reducible exact compositorref06_PutFix.mono _ _ _)
      | (with_reducible exact compositorref23_Check.mono _ _)
      | (with_reducible exact LeO.refl _)
      | (with_reducible exact LeO.none _)
      | (with_reducible refine LeO.ite ?_ ?_)
      | (with_reducible refine LeO.bind ?_ (fun _ => ?_))
      | exact ih0 _ _ _
      | exact ih1 _ _ _ _
      | exact compositorref06_Put.mono _ _ _ _
      | exact compositorref06_PutFix.mono _ _ _
      | exact compositorref23_Check.mono _ _
      | exact LeO.none _
      | refine LeO.ite ?_ ?_
      | refine LeO.bind ?_ (fun _ => ?_)
theorem compositorref23_Write.mono : ∀ a0 k, LeO (compositorref23_Write.f k a0) (compositorref23_Write.f (k + 1) a0) := by
  intro a0 k
  obtain ⟨ih0, ih1⟩ := compositorref23_Write.mono_l k
  unfold compositorref23_Write.f
  repeat' first
      | (with_reducible exact ih0 _ _ _)
      | (with_reducible exact ih1 _ _ _ _)
      | (with_reducible exact compositorref06_Put.mono _ _ _ _)
      | (with_reducible exact compositorref06_PutFix.mono _ _ _)
      | (with_reducible exact compositorref23_Check.mono _ _)
      | (with_reducible exact LeO.refl _)
      | (with_reducible exact LeO.none _)
      | (with_reducible refine LeO.ite ?_ ?_)
      | (with_reducible refine LeO.bind ?_ (fun _ => ?_))
      | exact ih0 _ _ _
      | exact ih1 _ _ _ _
      | exact compositorref06_Put.mono _ _ _ _
      | exact compositorref06_PutFix.mono _ _ _
      | exact compositorref23_Check.mono _ _
      | exact LeO.none _
      | refine LeO.ite ?_ ?_
      | refine LeO.bind ?_ (fun _ => ?_)
def compositorref23_Write.T8 : Bool × List (List Nat × List Nat) := (true, [([], []), ([], []), ([], []), ([1, 2], [1, 2]), ([3], [3]), ([4], [4]), ([5], [5]), ([6], [6]), ([], []), ([], []), ([8, 9], [8, 9]), ([10], [10]), ([11], [11]), ([12], [12]), ([7, 13], [7, 13]), ([0, 14], [0, 14]), ([15, 15, 0, 1, 2, 3, 4, 5, 6, 7, 8, 9, 10, 11, 12, 13, 14, 15], [0, 15])])
def compositorref23_Write.B8 : List Nat := [0, 0, 0, 6, 14, 30, 62, 126, 0, 0, 768, 1792, 3840, 7936, 16382, 32767, 65535]
theorem compositorref23_Write.tab8 : rtab .any (opsOf Try.f10 8) = compositorref23_Write.T8 := by kernel_rfl
theorem compositorref23_Write.bits8 : waitsOk compositorref23_Write.T8.2 compositorref23_Write.B8 = true := by kernel_rfl
set_option maxHeartbeats 8000000 in
set_option maxRecDepth 100000 in
theorem compositorref23_Write.calls (k : Nat) (A0 : Option Addr) (c0 : Nat) (l0 : List (S41)) (r1 : List Int) (r2 : Int) (w : World) (hr0 : Kd.C k41 w A0 l0.length l0) (hc0 : l0.length ≤ c0) (h : compositorref23_Write.f k l0 = some (r1, r2)) :
    Calls Try.prog 10 #[.slice A0 l0.length c0] w fun e w' => ∃ v0_ : Value, e = .returned (.tuple #[v0_, .int .i64 r2]) ∧ Kd.R (Kd.int .u8) 5 w' w.heap.size (fun _ => True) v0_ r1 ∧ Below w.heap.size w w' := by
  have HR0 := Aside0.mk hr0
  have HC0 := Aside0.mk hc0
  clear hr0 hc0
  have HB := Aside0.mk (Below.refl w.heap.size w)
  have H : ((compositorref23_Check.f k l0).bind fun t204 => (if t204 = true then (compositorref23_Write.l0 k l0 (([67, 79, ((l0.length : Int)) % 256] : List Int)) 0) else (some (([] : List Int), 230)))) = some (r1, r2) := h
  clear h
  replace H := Option.bind_eq_some_iff.mp H
  obtain ⟨t204, A20, H⟩ := H
  replace H : (if t204 = true then (compositorref23_Write.l0 k l0 (([67, 79, ((l0.length : Int)) % 256] : List Int)) 0) else (some (([] : List Int), 230))) = some (r1, r2) := H
  have A2 := Aside0.mk A20
  clear A20
  by_cases c3 : t204 = true
  · subst c3
    have H1 : (compositorref23_Write.l0 k l0 (([67, 79, ((l0.length : Int)) % 256] : List Int)) 0) = some (r1, r2) := by rw [if_pos rfl] at H; exact H
    clear H
    have H := H1
    clear H1
    obtain ⟨y205, hy205⟩ : ∃ y_ : List Int, y_ = (([67, 79, ((l0.length : Int)) % 256] : List Int)) := ⟨_, rfl⟩
    replace H : (compositorref23_Write.l0 k l0 y205 0) = some (r1, r2) := by first | (rw [hy205]; with_reducible exact H) | (have H2_ := (Option.bind_some _ _).symm.trans H; rw [hy205]; with_reducible exact H2_) | (have H2_ := (Option.bind_some _ _).symm.trans H; with_reducible exact H2_) | with_reducible exact H | (rw [hy205]; exact H) | exact H
    have Ny205 := Aside0.mk hy205
    clear hy205
    have H' := Aside0.mk H
    clear H
    go_enter Try.func10, Try.ntmps10
    go_wp2_with (first | ((with_reducible refine gate_callee (f := 14) rfl ?_); refine goesL_ (some 11) rfl rfl Try.func14 (by kernel_rfl) rfl #[.slice A0 l0.length c0] rfl (by (try simp only [List.map_toArray, List.map_cons, List.map_nil]); first | done | rfl | (simp only [List.length_drop, List.length_take]; rfl)) ?_; (with_reducible refine (compositorref23_Check.calls k _ _ l0 true _ ?side1 ?side2 A2.out).mono ?_); (case side1 => repeat (first | exact HR0.out | (with_reducible refine Kd.C_alloc ?_ _) | (with_reducible refine Kd.C_drewN ?_ _) | (with_reducible refine Kd.C_drew ?_))); (case side2 => exact HC0.out); rintro e w4 ⟨rfl, hb⟩; refine ⟨_, rfl, ?_⟩; have n0_ := Aside0.mk (below_step (by repeat (first | (with_reducible first | exact HB.out | apply below_alloc | apply pw_below_drewN | apply below_drew1) | exact HB.out)) hb); clear HB; have HB := n0_; clear n0_; (try clear hb); (try clear hb2); (try clear hk); (try clear hi)) | ((with_reducible refine gate_dst (N := 17) rfl ?_); refine Kd.R_lit (Kd.int .u8) _ 5 ?hg (N := 17) ?hd (xs := ([67, 79, ((l0.length : Int)) % 256] : List Int)) (inner := [.int .u8 67, .int .u8 79, .int .u8 (((l0.length : Int)) % 256)]) (ok := fun _ => True) (okp := fun _ => True) ?hr ?hp (fun _ hk => hk) trivial (Below.refl _ _) (Nat.le_refl _) (by simp) ?_; (case hd => rfl); (case hg => rfl); (case hr => first | (go_simp; done) | (go_simp; rfl)); (case hp => exact (Reps.one (show Kd.M (Kd.int .u8) _ _ _ 67 [.int .u8 67] from rfl) (Reps.one (show Kd.M (Kd.int .u8) _ _ _ 79 [.int .u8 79] from rfl) (Reps.one (show Kd.M (Kd.int .u8) _ _ _ (((l0.length : Int)) % 256) [.int .u8 (((l0.length : Int)) % 256)] from rfl) (Reps.none _ _))))); intro v206 w5 ho6 hb hg_ hnew_; clear hg_ hnew_; (first | rw [← Ny205.out] at ho6 | (simp only [Int.reduceToNat] at ho6; rw [← Ny205.out] at ho6)); have n0_ := Aside0.mk (Kd.R_lower ho6 (below_size (by repeat (first | (with_reducible first | exact HB.out | apply below_alloc | apply pw_below_drewN | apply below_drew1) | exact HB.out)))); have n1_ := Aside0.mk (below_step (by repeat (first | (with_reducible first | exact HB.out | apply below_alloc | apply pw_below_drewN | apply below_drew1) | exact HB.out)) hb); clear HB; have HO207 := n0_; have HB := n1_; clear n0_ n1_; clear hb ho6))
    go_loopg [5, 6] k (fun kq v5 v6 w' => ∃ (x5_1 : List Int) (x6_1 : Int), v6 = .int .i64 x6_1 ∧ Aside0 (compositorref23_Write.l0 kq l0 x5_1 x6_1 = some (r1, r2)) ∧ Aside0 (kq ≤ k) ∧ Aside0 (Kd.R (Kd.int .u8) 5 w' w.heap.size (fun _ => True) v5 x5_1) ∧ Aside0 (Below w.heap.size w w'))
    case atStart => exact ⟨(y205), (0), (by first | rfl | (simp; done) | (simp [*]; done)), H', ⟨Nat.le_refl _⟩, ⟨by (with_reducible repeat (first | apply Kd.R_alloc | apply Kd.R_drewN | apply Kd.R_drew)); exact HO207.out⟩, ⟨by repeat (first | (with_reducible first | exact HB.out | apply below_alloc | apply pw_below_drewN | apply below_drew1) | exact HB.out)⟩⟩
    case round =>
      clear H'
      try clear c1
      try clear p2
      try clear c3
      obtain ⟨x5_1, x6_1, rfl, HA, HK1, HO_5, HB⟩ := hrel
      cases gk with
      | zero => exact absurd HA.out (by simp [compositorref23_Write.l0])
      | succ k1 =>
        have H := HA.out
        clear HA
        simp only [compositorref23_Write.l0] at H
        by_cases c7 : x6_1 < (l0.length : Int)
        · rw [if_pos c7] at H
          have c7b0 : decide (x6_1 < (l0.length : Int)) = true := decide_eq_true c7
          clear c7
          by_cases c8 : 0 ≤ x6_1
          · rw [if_pos c8] at H
            have c8b0 : decide (0 ≤ x6_1) = true := decide_eq_true c8
            clear c8
            obtain ⟨y210, hy210⟩ : ∃ y_ : List Int, y_ = (([(wrap64 (((rd_T41 l0 x6_1).f0) + 8)) % 256, ((rd_T41 l0 x6_1).f1) % 256] : List Int)) := ⟨_, rfl⟩
            replace H : (if x5_1.length + y210.length < 140737488355328 then ((compositorref06_PutFix.f k1 (x5_1 ++ y210) ((rd_T41 l0 x6_1).f2)).bind fun bt217 => ((compositorref06_PutFix.f k1 bt217.1 ((rd_T41 l0 x6_1).f3)).bind fun bt222 => ((compositorref06_Put.f k1 bt222.1 (((rd_T41 l0 x6_1).f4).length : Int) 2).bind fun bt227 => (compositorref23_Write.l1 k1 l0 bt227.1 x6_1 0)))) else (none)) = some (r1, r2) := by first | (rw [hy210]; with_reducible exact H) | (have H2_ := (Option.bind_some _ _).symm.trans H; rw [hy210]; with_reducible exact H2_) | (have H2_ := (Option.bind_some _ _).symm.trans H; with_reducible exact H2_) | with_reducible exact H | (rw [hy210]; exact H) | exact H
            have Ny210 := Aside0.mk hy210
            clear hy210
            by_cases c9 : x5_1.length + y210.length < 140737488355328
            · rw [if_pos c9] at H
              have LMc9 := Aside0.mk c9
              clear c9
              obtain ⟨y213, hy213⟩ : ∃ y_ : List Int, y_ = (x5_1 ++ y210) := ⟨_, rfl⟩
              replace H : ((compositorref06_PutFix.f k1 y213 ((rd_T41 l0 x6_1).f2)).bind fun bt217 => ((compositorref06_PutFix.f k1 bt217.1 ((rd_T41 l0 x6_1).f3)).bind fun bt222 => ((compositorref06_Put.f k1 bt222.1 (((rd_T41 l0 x6_1).f4).length : Int) 2).bind fun bt227 => (compositorref23_Write.l1 k1 l0 bt227.1 x6_1 0)))) = some (r1, r2) := by first | (rw [hy213]; with_reducible exact H) | (have H2_ := (Option.bind_some _ _).symm.trans H; rw [hy213]; with_reducible exact H2_) | (have H2_ := (Option.bind_some _ _).symm.trans H; with_reducible exact H2_) | with_reducible exact H | (rw [hy213]; exact H) | exact H
              have Ny213 := Aside0.mk hy213
              clear hy213
              replace H := Option.bind_eq_some_iff.mp H
              obtain ⟨⟨t217, t218⟩, A100, H⟩ := H
              replace H : ((compositorref06_PutFix.f k1 t217 ((rd_T41 l0 x6_1).f3)).bind fun bt222 => ((compositorref06_Put.f k1 bt222.1 (((rd_T41 l0 x6_1).f4).length : Int) 2).bind fun bt227 => (compositorref23_Write.l1 k1 l0 bt227.1 x6_1 0))) = some (r1, r2) := H
              have A10 := Aside0.mk A100
              clear A100
              replace H := Option.bind_eq_some_iff.mp H
              obtain ⟨⟨t222, t223⟩, A110, H⟩ := H
              replace H : ((compositorref06_Put.f k1 t222 (((rd_T41 l0 x6_1).f4).length : Int) 2).bind fun bt227 => (compositorref23_Write.l1 k1 l0 bt227.1 x6_1 0)) = some (r1, r2) := H
              have A11 := Aside0.mk A110
              clear A110
              replace H := Option.bind_eq_some_iff.mp H
              obtain ⟨⟨t227, t228⟩, A120, H⟩ := H
              replace H : (compositorref23_Write.l1 k1 l0 t227 x6_1 0) = some (r1, r2) := H
              have A12 := Aside0.mk A120
              clear A120
              have H' := Aside0.mk H
              clear H
              try go_wp2
              have n0_ := Aside0.mk (Kd.R_drew HO_5.out)
              have n1_ := Aside0.mk (below_drew1 HB.out)
              clear HO_5
              clear HB
              have HO_5 := n0_
              have HB := n1_
              clear n0_ n1_
              have p208 : 0 ≤ (x6_1 : Int) := of_decide_eq_true (by first | (with_reducible assumption) | assumption)
              have q208 : x6_1 < (l0.length : Int) := of_decide_eq_true (by first | (with_reducible assumption) | assumption)
              obtain ⟨ad208, A208_4, c208_4, e208, hx208_0, hx208_1, hx208_2, hx208_3, hx208_4, hl208_4, hi208_4⟩ := at_T41 HR0.out x6_1 p208 q208
              have hw208_4 := hx208_4
              have hw208_3 := hx208_3
              have hw208_2 := hx208_2
              have hw208_1 := hx208_1
              have hw208_0 := hx208_0
              cases e208
              replace hx208_0 := (HB.out.cell (World.block_lt_of_cell? w _ hx208_0)).trans hx208_0
              replace hx208_1 := (HB.out.cell (World.block_lt_of_cell? w _ hx208_1)).trans hx208_1
              replace hx208_2 := (HB.out.cell (World.block_lt_of_cell? w _ hx208_2)).trans hx208_2
              replace hx208_3 := (HB.out.cell (World.block_lt_of_cell? w _ hx208_3)).trans hx208_3
              replace hx208_4 := (HB.out.cell (World.block_lt_of_cell? w _ hx208_4)).trans hx208_4
              have HR208_4 := Aside0.mk hi208_4
              have HC208_4 := Aside0.mk hl208_4
              clear hi208_4 hl208_4
              replace p208 := eq_true p208
              replace q208 := eq_true q208
              have p209 : 0 ≤ (x6_1 : Int) := of_decide_eq_true (by first | (with_reducible assumption) | assumption)
              have q209 : x6_1 < (l0.length : Int) := of_decide_eq_true (by first | (with_reducible assumption) | assumption)
              obtain ⟨ad209, A209_4, c209_4, e209, hx209_0, hx209_1, hx209_2, hx209_3, hx209_4, hl209_4, hi209_4⟩ := at_T41 HR0.out x6_1 p209 q209
              have hw209_4 := hx209_4
              have hw209_3 := hx209_3
              have hw209_2 := hx209_2
              have hw209_1 := hx209_1
              have hw209_0 := hx209_0
              obtain rfl : ad208 = ad209 := (by injection e209)
              replace hx209_0 := (HB.out.cell (World.block_lt_of_cell? w _ hx209_0)).trans hx209_0
              replace hx209_1 := (HB.out.cell (World.block_lt_of_cell? w _ hx209_1)).trans hx209_1
              replace hx209_2 := (HB.out.cell (World.block_lt_of_cell? w _ hx209_2)).trans hx209_2
              replace hx209_3 := (HB.out.cell (World.block_lt_of_cell? w _ hx209_3)).trans hx209_3
              replace hx209_4 := (HB.out.cell (World.block_lt_of_cell? w _ hx209_4)).trans hx209_4
              have HR209_4 := Aside0.mk hi209_4
              have HC209_4 := Aside0.mk hl209_4
              clear hi209_4 hl209_4
              replace p209 := eq_true p209
              replace q209 := eq_true q209
              have ea_ := Option.some.inj (hx208_4.symm.trans hx209_4)
              injection ea_ with ea_ en_ ec_
              subst ea_
              subst ec_
              clear en_
              refine start_ (n := 17) (S := fun w' => w'.cell? (ad208.add ((x6_1).toNat * 5)) = some (.int .i64 ((rd_T41 l0 x6_1).f0)) ∧ w'.cell? ⟨(ad208.add ((x6_1).toNat * 5)).block, (ad208.add ((x6_1).toNat * 5)).off + 1, none⟩ = some (.int .i64 ((rd_T41 l0 x6_1).f1)) ∧ w'.cell? ⟨(ad208.add ((x6_1).toNat * 5)).block, (ad208.add ((x6_1).toNat * 5)).off + 2, none⟩ = some (.int .i64 ((rd_T41 l0 x6_1).f2)) ∧ w'.cell? ⟨(ad208.add ((x6_1).toNat * 5)).block, (ad208.add ((x6_1).toNat * 5)).off + 3, none⟩ = some (.int .i64 ((rd_T41 l0 x6_1).f3)) ∧ w'.cell? ⟨(ad208.add ((x6_1).toNat * 5)).block, (ad208.add ((x6_1).toNat * 5)).off + 4, none⟩ = some (.slice A208_4 ((rd_T41 l0 x6_1).f4).length c208_4) ∧ w'.cell? (ad208.add ((x6_1).toNat * 5)) = some (.int .i64 ((rd_T41 l0 x6_1).f0)) ∧ w'.cell? ⟨(ad208.add ((x6_1).toNat * 5)).block, (ad208.add ((x6_1).toNat * 5)).off + 1, none⟩ = some (.int .i64 ((rd_T41 l0 x6_1).f1)) ∧ w'.cell? ⟨(ad208.add ((x6_1).toNat * 5)).block, (ad208.add ((x6_1).toNat * 5)).off + 2, none⟩ = some (.int .i64 ((rd_T41 l0 x6_1).f2)) ∧ w'.cell? ⟨(ad208.add ((x6_1).toNat * 5)).block, (ad208.add ((x6_1).toNat * 5)).off + 3, none⟩ = some (.int .i64 ((rd_T41 l0 x6_1).f3)) ∧ w'.cell? ⟨(ad208.add ((x6_1).toNat * 5)).block, (ad208.add ((x6_1).toNat * 5)).off + 4, none⟩ = some (.slice A208_4 ((rd_T41 l0 x6_1).f4).length c208_4)) (ds := []) #[false, false, false, false, false, false, false, false, false, false, false, false, false, false, false, false, false] (by kernel_rfl) rfl rfl ⟨((HB.out.cell (World.block_lt_of_cell? w _ hw208_0)).trans hw208_0), ((HB.out.cell (World.block_lt_of_cell? w _ hw208_1)).trans hw208_1), ((HB.out.cell (World.block_lt_of_cell? w _ hw208_2)).trans hw208_2), ((HB.out.cell (World.block_lt_of_cell? w _ hw208_3)).trans hw208_3), ((HB.out.cell (World.block_lt_of_cell? w _ hw208_4)).trans hw208_4), ((HB.out.cell (World.block_lt_of_cell? w _ hw209_0)).trans hw209_0), ((HB.out.cell (World.block_lt_of_cell? w _ hw209_1)).trans hw209_1), ((HB.out.cell (World.block_lt_of_cell? w _ hw209_2)).trans hw209_2), ((HB.out.cell (World.block_lt_of_cell? w _ hw209_3)).trans hw209_3), ((HB.out.cell (World.block_lt_of_cell? w _ hw209_4)).trans hw209_4)⟩ (fun hHeld => ?_); refine with_tabW compositorref23_Write.tab8 compositorref23_Write.bits8 (fun HT_ HW_ => ?_)
              generalize wr.drew = w13 at HO_5 HB HR208_4 HR209_4 hx208_0 hx208_1 hx208_2 hx208_3 hx208_4 hx209_0 hx209_1 hx209_2 hx209_3 hx209_4 hHeld ⊢
              refine pure_ (i := 0) (N := some 24) (v := ?_) (a' := ?_) #[true, false, false, false, false, false, false, false, false, false, false, false, false, false, false, false, false] rfl rfl (any_of HT_.out (by kernel_rfl)) (fun _ _ _ h => h) (Or.inl ⟨by rfl, ?_⟩) ?_ ?_
              rotate_left
              · intro w'
                go_simp
                with_reducible rfl
              rotate_left
              · simp only [Act.put, List.setIfInBounds_toArray, List.set_cons_zero, List.set_cons_succ, i64_w, i32_w]
                rfl
              refine pure_ (i := 1) (N := some 25) (v := ?_) (a' := ?_) #[true, true, false, false, false, false, false, false, false, false, false, false, false, false, false, false, false] rfl rfl (any_of HT_.out (by kernel_rfl)) (fun _ _ _ h => h) (Or.inl ⟨by rfl, ?_⟩) ?_ ?_
              rotate_left
              · intro w'
                go_simp
                with_reducible rfl
              rotate_left
              · simp only [Act.put, List.setIfInBounds_toArray, List.set_cons_zero, List.set_cons_succ, i64_w, i32_w]
                rfl
              refine pure_ (i := 2) (N := some 26) (v := ?_) (a' := ?_) #[true, true, true, false, false, false, false, false, false, false, false, false, false, false, false, false, false] rfl rfl (any_of HT_.out (by kernel_rfl)) (fun _ _ _ h => h) (Or.inl ⟨by rfl, ?_⟩) ?_ ?_
              rotate_left
              · intro w'
                go_simp
                with_reducible rfl
              rotate_left
              · simp only [Act.put, List.setIfInBounds_toArray, List.set_cons_zero, List.set_cons_succ, i64_w, i32_w]
                rfl
              refine pure_ (i := 3) (N := some 27) (v := ?_) (a' := ?_) #[true, true, true, true, false, false, false, false, false, false, false, false, false, false, false, false, false] rfl rfl (any_of HT_.out (by kernel_rfl)) (fun _ _ _ h => h) (Or.inl ⟨by rfl, ?_⟩) ?_ ?_
              rotate_left
              · intro w'
                go_simp
                with_reducible rfl
              rotate_left
              · simp only [Act.put, List.setIfInBounds_toArray, List.set_cons_zero, List.set_cons_succ, i64_w, i32_w]
                rfl
              refine pure_ (i := 4) (N := some 28) (v := ?_) (a' := ?_) #[true, true, true, true, true, false, false, false, false, false, false, false, false, false, false, false, false] rfl rfl (any_of HT_.out (by kernel_rfl)) (fun _ _ _ h => h) (Or.inl ⟨by rfl, ?_⟩) ?_ ?_
              rotate_left
              · intro w'
                go_simp
                with_reducible rfl
              rotate_left
              · simp only [Act.put, List.setIfInBounds_toArray, List.set_cons_zero, List.set_cons_succ, i64_w, i32_w]
                rfl
              refine pure_ (i := 8) (N := some 32) (v := ?_) (a' := ?_) #[true, true, true, true, true, false, false, false, true, false, false, false, false, false, false, false, false] rfl rfl (any_of HT_.out (by kernel_rfl)) (fun _ _ _ h => h) (Or.inl ⟨by rfl, ?_⟩) ?_ ?_
              rotate_left
              · intro w'
                go_simp
                with_reducible rfl
              rotate_left
              · simp only [Act.put, List.setIfInBounds_toArray, List.set_cons_zero, List.set_cons_succ, i64_w, i32_w]
                rfl
              refine pure_ (i := 9) (N := some 33) (v := ?_) (a' := ?_) #[true, true, true, true, true, false, false, false, true, true, false, false, false, false, false, false, false] rfl rfl (any_of HT_.out (by kernel_rfl)) (fun _ _ _ h => h) (Or.inl ⟨by rfl, ?_⟩) ?_ ?_
              rotate_left
              · intro w'
                go_simp
                with_reducible rfl
              rotate_left
              · simp only [Act.put, List.setIfInBounds_toArray, List.set_cons_zero, List.set_cons_succ, i64_w, i32_w]
                rfl
              refine pure_ (i := 10) (N := some 34) (v := ?_) (a' := ?_) #[true, true, true, true, true, false, false, false, true, true, true, false, false, false, false, false, false] rfl rfl (any_of HT_.out (by kernel_rfl)) (fun _ _ _ h => h) (Or.inl ⟨by rfl, ?_⟩) ?_ ?_
              rotate_left
              · intro w'
                go_simp
                with_reducible rfl
              rotate_left
              · simp only [Act.put, List.setIfInBounds_toArray, List.set_cons_zero, List.set_cons_succ, i64_w, i32_w]
                rfl
              refine pure_ (i := 11) (N := some 35) (v := ?_) (a' := ?_) #[true, true, true, true, true, false, false, false, true, true, true, true, false, false, false, false, false] rfl rfl (any_of HT_.out (by kernel_rfl)) (fun _ _ _ h => h) (Or.inl ⟨by rfl, ?_⟩) ?_ ?_
              rotate_left
              · intro w'
                go_simp
                with_reducible rfl
              rotate_left
              · simp only [Act.put, List.setIfInBounds_toArray, List.set_cons_zero, List.set_cons_succ, i64_w, i32_w]
                rfl
              refine take_ (i := 5) (N := some 29) (v := ?_) (a' := ?_) #[true, true, true, true, true, true, false, false, true, true, true, true, false, false, false, false, false] rfl rfl (take_ofW HT_.out HW_.out (by kernel_rfl)) (fun _ _ _ h => h) (Or.inl ⟨by rfl, ?_⟩) hHeld ?_ ?_
              rotate_left
              · rintro w' ⟨s0, s1, s2, s3, s4, s5, s6, s7, s8, s9⟩
                go_simp
                with_reducible rfl
              rotate_left
              · simp only [Act.put, List.setIfInBounds_toArray, List.set_cons_zero, List.set_cons_succ, i64_w, i32_w]
                rfl
              refine pure_ (i := 6) (N := some 30) (v := ?_) (a' := ?_) #[true, true, true, true, true, true, true, false, true, true, true, true, false, false, false, false, false] rfl rfl (any_of HT_.out (by kernel_rfl)) (fun _ _ _ h => h) (Or.inl ⟨by rfl, ?_⟩) ?_ ?_
              rotate_left
              · intro w'
                go_simp
                with_reducible rfl
              rotate_left
              · simp only [Act.put, List.setIfInBounds_toArray, List.set_cons_zero, List.set_cons_succ, i64_w, i32_w]
                rfl
              refine pure_ (i := 7) (N := some 31) (v := ?_) (a' := ?_) #[true, true, true, true, true, true, true, true, true, true, true, true, false, false, false, false, false] rfl rfl (any_of HT_.out (by kernel_rfl)) (fun _ _ _ h => h) (Or.inl ⟨by rfl, ?_⟩) ?_ ?_
              rotate_left
              · intro w'
                go_simp
                with_reducible rfl
              rotate_left
              · simp only [Act.put, List.setIfInBounds_toArray, List.set_cons_zero, List.set_cons_succ, i64_w, i32_w]
                rfl
              refine take_ (i := 12) (N := some 36) (v := ?_) (a' := ?_) #[true, true, true, true, true, true, true, true, true, true, true, true, true, false, false, false, false] rfl rfl (take_ofW HT_.out HW_.out (by kernel_rfl)) (fun _ _ _ h => h) (Or.inl ⟨by rfl, ?_⟩) hHeld ?_ ?_
              rotate_left
              · rintro w' ⟨s0, s1, s2, s3, s4, s5, s6, s7, s8, s9⟩
                go_simp
                with_reducible rfl
              rotate_left
              · simp only [Act.put, List.setIfInBounds_toArray, List.set_cons_zero, List.set_cons_succ, i64_w, i32_w]
                rfl
              refine pure_ (i := 13) (N := some 37) (v := ?_) (a' := ?_) #[true, true, true, true, true, true, true, true, true, true, true, true, true, true, false, false, false] rfl rfl (any_of HT_.out (by kernel_rfl)) (fun _ _ _ h => h) (Or.inl ⟨by rfl, ?_⟩) ?_ ?_
              rotate_left
              · intro w'
                go_simp
                with_reducible rfl
              rotate_left
              · simp only [Act.put, List.setIfInBounds_toArray, List.set_cons_zero, List.set_cons_succ, i64_w, i32_w]
                rfl
              refine one_ (i := 14) (N := some 38) #[true, true, true, true, true, true, true, true, true, true, true, true, true, true, true, false, false] rfl rfl (one_of HT_.out (by kernel_rfl)) (by decide) (fun K hK => ?_)
              refine Kd.R_lit_step (Kd.int .u8) _ 5 ?hg (N := 38) ?hd (xs := ([(wrap64 (((rd_T41 l0 x6_1).f0) + 8)) % 256, ((rd_T41 l0 x6_1).f1) % 256] : List Int)) (inner := [.int .u8 ((wrap64 (((rd_T41 l0 x6_1).f0) + 8)) % 256), .int .u8 (((rd_T41 l0 x6_1).f1) % 256)]) (ok := fun _ => True) (okp := fun _ => True) ?hr ?hp (fun _ hk => hk) trivial (Below.refl _ _) (Nat.le_refl _) (by simp) ?_; (case hd => rfl); (case hg => rfl); (case hr => first | (go_simp; done) | (go_simp; rfl)); (case hp => exact (Reps.one (show Kd.M (Kd.int .u8) _ _ _ ((wrap64 (((rd_T41 l0 x6_1).f0) + 8)) % 256) [.int .u8 ((wrap64 (((rd_T41 l0 x6_1).f0) + 8)) % 256)] from rfl) (Reps.one (show Kd.M (Kd.int .u8) _ _ _ (((rd_T41 l0 x6_1).f1) % 256) [.int .u8 (((rd_T41 l0 x6_1).f1) % 256)] from rfl) (Reps.none _ _))))
              intro v211 w14 ho15 hb hg_ hnew_
              clear hg_ hnew_
              (first | rw [← Ny210.out] at ho15 | (simp only [Int.reduceToNat] at ho15; rw [← Ny210.out] at ho15))
              have n0_ := Aside0.mk (Kd.R_elder' (by (with_reducible repeat (first | apply Kd.R_alloc | apply Kd.R_drewN | apply Kd.R_drew)); exact HO_5.out) (Kd.R_base ho15) hb)
              have n1_ := Aside0.mk (Kd.R_lower (Kd.R_new' ho15 (Kd.R_lt (by (with_reducible repeat (first | apply Kd.R_alloc | apply Kd.R_drewN | apply Kd.R_drew)); exact HO_5.out))) (below_size (by repeat (first | (with_reducible first | exact HB.out | apply below_alloc | apply pw_below_drewN | apply below_drew1) | exact HB.out))))
              have n2_ := Aside0.mk (below_step (by repeat (first | (with_reducible first | exact HB.out | apply below_alloc | apply pw_below_drewN | apply below_drew1) | exact HB.out)) hb)
              clear HO_5
              clear HB
              have HO_5 := n0_
              have HO212 := n1_
              have HB := n2_
              clear n0_ n1_ n2_
              clear hb ho15
              obtain ⟨Ao17, co17, eo17⟩ := Kd.R_slice HO212.out
              (first | subst eo17 | (injection eo17 with f1_ f2_ f3_; have f4_ := f1_.symm; have f5_ := f3_.symm; clear f1_ f2_ f3_; subst f4_; subst f5_))
              refine hK.out _ _ ⟨((HB.out.cell (World.block_lt_of_cell? w _ hw208_0)).trans hw208_0), ((HB.out.cell (World.block_lt_of_cell? w _ hw208_1)).trans hw208_1), ((HB.out.cell (World.block_lt_of_cell? w _ hw208_2)).trans hw208_2), ((HB.out.cell (World.block_lt_of_cell? w _ hw208_3)).trans hw208_3), ((HB.out.cell (World.block_lt_of_cell? w _ hw208_4)).trans hw208_4), ((HB.out.cell (World.block_lt_of_cell? w _ hw209_0)).trans hw209_0), ((HB.out.cell (World.block_lt_of_cell? w _ hw209_1)).trans hw209_1), ((HB.out.cell (World.block_lt_of_cell? w _ hw209_2)).trans hw209_2), ((HB.out.cell (World.block_lt_of_cell? w _ hw209_3)).trans hw209_3), ((HB.out.cell (World.block_lt_of_cell? w _ hw209_4)).trans hw209_4)⟩ (fun hHeld => ?_)
              clear hK K
              refine norm_ (a' := ?_) ?_ ?_
              rotate_left
              · show Act.put _ (some 38) _ = _
                simp only [Act.put, List.setIfInBounds_toArray, List.set_cons_zero, List.set_cons_succ, i64_w, i32_w]
                rfl
              refine one_ (i := 15) (N := some 39) #[true, true, true, true, true, true, true, true, true, true, true, true, true, true, true, true, false] rfl rfl (one_of HT_.out (by kernel_rfl)) (by decide) (fun K hK => ?_)
              refine Kd.R_append_rows_step (Kd.int .u8) (w0 := w) w.heap.size (by rfl) (.tmp 24) (.tmp 38) 25 5 (.int .u8 0) 1 rfl Try.underlying25 info5 rfl (by decide) (by omega) u5 x5_1 y210 _ _ _ (fun k_ => some k_ ≠ (.slice Ao17 y210.length co17 : Value).ownBlock) (fun _ => False) rfl rfl ?aO ?aR (fun _ _ h => h) (fun _ h => h.elim) ?aF ?aB ?aS ?aL ?_
              (case aR => repeat (first | exact (Kd.R_reads' HO212.out).2.2 | (with_reducible refine Kd.C_alloc ?_ _) | (with_reducible refine Kd.C_drewN ?_ _) | (with_reducible refine Kd.C_drew ?_)))
              (case aB => exact (by repeat (first | (with_reducible first | exact HB.out | apply below_alloc | apply pw_below_drewN | apply below_drew1) | exact HB.out)))
              (case aF => exact (fun k_ hk => Kd.fresh' (Kd.R_lt (by (with_reducible repeat (first | apply Kd.R_alloc | apply Kd.R_drewN | apply Kd.R_drew)); exact HO212.out)) k_ hk))
              (case aO => exact (by (with_reducible repeat (first | apply Kd.R_alloc | apply Kd.R_drewN | apply Kd.R_drew)); exact Kd.R_mono HO_5.out (fun _ hk => hk.2)))
              (case aS => exact (below_size (by repeat (first | (with_reducible first | exact HB.out | apply below_alloc | apply pw_below_drewN | apply below_drew1) | exact HB.out))))
              (case aL => have := LMc9.out; omega)
              intro v214 w16 ho hb hg hat
              rw [← Ny213.out] at ho
              have n0_ := Aside0.mk (Kd.R_after (ok := (fun _ => True)) (by (with_reducible repeat (first | apply Kd.R_alloc | apply Kd.R_drewN | apply Kd.R_drew)); exact HO212.out) hg hat)
              have n1_ := Aside0.mk (hb)
              have n2_ := Aside0.mk (ho)
              clear HO212
              clear HB
              clear HO_5
              have HO212 := n0_
              have HB := n1_
              have HO215 := n2_
              clear n0_ n1_ n2_
              clear ho hb hg hat
              refine hK.out _ _ ⟨((HB.out.cell (World.block_lt_of_cell? w _ hw208_0)).trans hw208_0), ((HB.out.cell (World.block_lt_of_cell? w _ hw208_1)).trans hw208_1), ((HB.out.cell (World.block_lt_of_cell? w _ hw208_2)).trans hw208_2), ((HB.out.cell (World.block_lt_of_cell? w _ hw208_3)).trans hw208_3), ((HB.out.cell (World.block_lt_of_cell? w _ hw208_4)).trans hw208_4), ((HB.out.cell (World.block_lt_of_cell? w _ hw209_0)).trans hw209_0), ((HB.out.cell (World.block_lt_of_cell? w _ hw209_1)).trans hw209_1), ((HB.out.cell (World.block_lt_of_cell? w _ hw209_2)).trans hw209_2), ((HB.out.cell (World.block_lt_of_cell? w _ hw209_3)).trans hw209_3), ((HB.out.cell (World.block_lt_of_cell? w _ hw209_4)).trans hw209_4)⟩ (fun hHeld => ?_)
              clear hK K
              refine norm_ (a' := ?_) ?_ ?_
              rotate_left
              · show Act.put _ (some 39) _ = _
                simp only [Act.put, List.setIfInBounds_toArray, List.set_cons_zero, List.set_cons_succ, i64_w, i32_w]
                rfl
              refine pure_ (i := 16) (N := some 5) (v := ?_) (a' := ?_) #[true, true, true, true, true, true, true, true, true, true, true, true, true, true, true, true, true] rfl rfl (any_of HT_.out (by kernel_rfl)) (fun _ _ _ h => h) (Or.inl ⟨by rfl, ?_⟩) ?_ ?_
              rotate_left
              · intro w'
                go_simp
                with_reducible rfl
              rotate_left
              · simp only [Act.put, List.setIfInBounds_toArray, List.set_cons_zero, List.set_cons_succ, i64_w, i32_w]
                rfl
              refine done_ (done_of HT_.out (by kernel_rfl)) ?_
              have p216 : 0 ≤ (x6_1 : Int) := of_decide_eq_true (by first | (with_reducible assumption) | assumption)
              have q216 : x6_1 < (l0.length : Int) := of_decide_eq_true (by first | (with_reducible assumption) | assumption)
              obtain ⟨ad216, A216_4, c216_4, e216, hx216_0, hx216_1, hx216_2, hx216_3, hx216_4, hl216_4, hi216_4⟩ := at_T41 HR0.out x6_1 p216 q216
              obtain rfl : ad208 = ad216 := (by injection e216)
              replace hx216_0 := (HB.out.cell (World.block_lt_of_cell? w _ hx216_0)).trans hx216_0
              replace hx216_1 := (HB.out.cell (World.block_lt_of_cell? w _ hx216_1)).trans hx216_1
              replace hx216_2 := (HB.out.cell (World.block_lt_of_cell? w _ hx216_2)).trans hx216_2
              replace hx216_3 := (HB.out.cell (World.block_lt_of_cell? w _ hx216_3)).trans hx216_3
              replace hx216_4 := (HB.out.cell (World.block_lt_of_cell? w _ hx216_4)).trans hx216_4
              have HR216_4 := Aside0.mk hi216_4
              have HC216_4 := Aside0.mk hl216_4
              clear hi216_4 hl216_4
              replace p216 := eq_true p216
              replace q216 := eq_true q216
              obtain ⟨Ao18, co18, eo18⟩ := Kd.R_slice HO215.out
              subst eo18
              try go_wp2_with (first | ((with_reducible refine gate_callee (f := 24) rfl ?_); refine goesL_ (some 47) rfl rfl Try.func24 (by kernel_rfl) rfl #[.slice Ao18 y213.length co18, .int .i64 ((rd_T41 l0 x6_1).f2)] rfl (by (try simp only [List.map_toArray, List.map_cons, List.map_nil]); first | done | rfl | (simp only [List.length_drop, List.length_take]; rfl)) ?_; (with_reducible refine (compositorref06_PutFix.calls k1 _ _ y213 ((rd_T41 l0 x6_1).f2) t217 t218 _ ?side1 ?side2 A10.out).mono ?_); (case side1 => repeat (first | exact (Kd.R_reads' HO215.out).2.2 | (with_reducible refine Kd.C_alloc ?_ _) | (with_reducible refine Kd.C_drewN ?_ _) | (with_reducible refine Kd.C_drew ?_))); (case side2 => exact (Kd.R_reads' HO215.out).2.1); rintro e w19 ⟨v219, rfl, ho0, hb⟩; refine ⟨_, rfl, ?_⟩; have n0_ := Aside0.mk (Kd.R_elder' (by (with_reducible repeat (first | apply Kd.R_alloc | apply Kd.R_drewN | apply Kd.R_drew)); exact HO212.out) (Kd.R_base ho0) hb); have n1_ := Aside0.mk (Kd.R_elder' (by (with_reducible repeat (first | apply Kd.R_alloc | apply Kd.R_drewN | apply Kd.R_drew)); exact HO215.out) (Kd.R_base ho0) hb); have n2_ := Aside0.mk (Kd.R_lower (Kd.R_new' (Kd.R_new' ho0 (Kd.R_lt (by (with_reducible repeat (first | apply Kd.R_alloc | apply Kd.R_drewN | apply Kd.R_drew)); exact HO212.out))) (Kd.R_lt (by (with_reducible repeat (first | apply Kd.R_alloc | apply Kd.R_drewN | apply Kd.R_drew)); exact HO215.out))) (below_size (by repeat (first | (with_reducible first | exact HB.out | apply below_alloc | apply pw_below_drewN | apply below_drew1) | exact HB.out)))); have n3_ := Aside0.mk (below_step (by repeat (first | (with_reducible first | exact HB.out | apply below_alloc | apply pw_below_drewN | apply below_drew1) | exact HB.out)) hb); clear HO212; clear HO215; clear HB; have HO212 := n0_; have HO215 := n1_; have HO220 := n2_; have HB := n3_; clear n0_ n1_ n2_ n3_; (try clear hb); (try clear hb2); (try clear hk); (try clear hi); (try clear ho0); have p221 : 0 ≤ (x6_1 : Int) := of_decide_eq_true (by first | (with_reducible assumption) | assumption); have q221 : x6_1 < (l0.length : Int) := of_decide_eq_true (by first | (with_reducible assumption) | assumption); obtain ⟨ad221, A221_4, c221_4, e221, hx221_0, hx221_1, hx221_2, hx221_3, hx221_4, hl221_4, hi221_4⟩ := at_T41 HR0.out x6_1 p221 q221; obtain rfl : ad208 = ad221 := (by injection e221); replace hx221_0 := (HB.out.cell (World.block_lt_of_cell? w _ hx221_0)).trans hx221_0; replace hx221_1 := (HB.out.cell (World.block_lt_of_cell? w _ hx221_1)).trans hx221_1; replace hx221_2 := (HB.out.cell (World.block_lt_of_cell? w _ hx221_2)).trans hx221_2; replace hx221_3 := (HB.out.cell (World.block_lt_of_cell? w _ hx221_3)).trans hx221_3; replace hx221_4 := (HB.out.cell (World.block_lt_of_cell? w _ hx221_4)).trans hx221_4; have HR221_4 := Aside0.mk hi221_4; have HC221_4 := Aside0.mk hl221_4; clear hi221_4 hl221_4; replace p221 := eq_true p221; replace q221 := eq_true q221; obtain ⟨Ao20, co20, eo20⟩ := Kd.R_slice HO220.out; subst eo20) | ((with_reducible refine gate_callee (f := 24) rfl ?_); refine goesL_ (some 57) rfl rfl Try.func24 (by kernel_rfl) rfl #[.slice Ao20 t217.length co20, .int .i64 ((rd_T41 l0 x6_1).f3)] rfl (by (try simp only [List.map_toArray, List.map_cons, List.map_nil]); first | done | rfl | (simp only [List.length_drop, List.length_take]; rfl)) ?_; (with_reducible refine (compositorref06_PutFix.calls k1 _ _ t217 ((rd_T41 l0 x6_1).f3) t222 t223 _ ?side1 ?side2 A11.out).mono ?_); (case side1 => repeat (first | exact (Kd.R_reads' HO220.out).2.2 | (with_reducible refine Kd.C_alloc ?_ _) | (with_reducible refine Kd.C_drewN ?_ _) | (with_reducible refine Kd.C_drew ?_))); (case side2 => exact (Kd.R_reads' HO220.out).2.1); rintro e w21 ⟨v224, rfl, ho0, hb⟩; refine ⟨_, rfl, ?_⟩; have n0_ := Aside0.mk (Kd.R_elder' (by (with_reducible repeat (first | apply Kd.R_alloc | apply Kd.R_drewN | apply Kd.R_drew)); exact HO212.out) (Kd.R_base ho0) hb); have n1_ := Aside0.mk (Kd.R_elder' (by (with_reducible repeat (first | apply Kd.R_alloc | apply Kd.R_drewN | apply Kd.R_drew)); exact HO215.out) (Kd.R_base ho0) hb); have n2_ := Aside0.mk (Kd.R_elder' (by (with_reducible repeat (first | apply Kd.R_alloc | apply Kd.R_drewN | apply Kd.R_drew)); exact HO220.out) (Kd.R_base ho0) hb); have n3_ := Aside0.mk (Kd.R_lower (Kd.R_new' (Kd.R_new' (Kd.R_new' ho0 (Kd.R_lt (by (with_reducible repeat (first | apply Kd.R_alloc | apply Kd.R_drewN | apply Kd.R_drew)); exact HO212.out))) (Kd.R_lt (by (with_reducible repeat (first | apply Kd.R_alloc | apply Kd.R_drewN | apply Kd.R_drew)); exact HO215.out))) (Kd.R_lt (by (with_reducible repeat (first | apply Kd.R_alloc | apply Kd.R_drewN | apply Kd.R_drew)); exact HO220.out))) (below_size (by repeat (first | (with_reducible first | exact HB.out | apply below_alloc | apply pw_below_drewN | apply below_drew1) | exact HB.out)))); have n4_ := Aside0.mk (below_step (by repeat (first | (with_reducible first | exact HB.out | apply below_alloc | apply pw_below_drewN | apply below_drew1) | exact HB.out)) hb); clear HO212; clear HO215; clear HO220; clear HB; have HO212 := n0_; have HO215 := n1_; have HO220 := n2_; have HO225 := n3_; have HB := n4_; clear n0_ n1_ n2_ n3_ n4_; (try clear hb); (try clear hb2); (try clear hk); (try clear hi); (try clear ho0); have p226 : 0 ≤ (x6_1 : Int) := of_decide_eq_true (by first | (with_reducible assumption) | assumption); have q226 : x6_1 < (l0.length : Int) := of_decide_eq_true (by first | (with_reducible assumption) | assumption); obtain ⟨ad226, A226_4, c226_4, e226, hx226_0, hx226_1, hx226_2, hx226_3, hx226_4, hl226_4, hi226_4⟩ := at_T41 HR0.out x6_1 p226 q226; obtain rfl : ad208 = ad226 := (by injection e226); replace hx226_0 := (HB.out.cell (World.block_lt_of_cell? w _ hx226_0)).trans hx226_0; replace hx226_1 := (HB.out.cell (World.block_lt_of_cell? w _ hx226_1)).trans hx226_1; replace hx226_2 := (HB.out.cell (World.block_lt_of_cell? w _ hx226_2)).trans hx226_2; replace hx226_3 := (HB.out.cell (World.block_lt_of_cell? w _ hx226_3)).trans hx226_3; replace hx226_4 := (HB.out.cell (World.block_lt_of_cell? w _ hx226_4)).trans hx226_4; have HR226_4 := Aside0.mk hi226_4; have HC226_4 := Aside0.mk hl226_4; clear hi226_4 hl226_4; replace p226 := eq_true p226; replace q226 := eq_true q226; obtain ⟨Ao22, co22, eo22⟩ := Kd.R_slice HO225.out; subst eo22) | ((with_reducible refine gate_callee (f := 25) rfl ?_); refine goesL_ (some 68) rfl rfl Try.func25 (by kernel_rfl) rfl #[.slice Ao22 t222.length co22, .int .i64 (((rd_T41 l0 x6_1).f4).length : Int), .int .i64 2] rfl (by (try simp only [List.map_toArray, List.map_cons, List.map_nil]); first | done | rfl | (simp only [List.length_drop, List.length_take]; rfl)) ?_; (with_reducible refine (compositorref06_Put.calls k1 _ _ t222 (((rd_T41 l0 x6_1).f4).length : Int) 2 t227 t228 _ ?side1 ?side2 A12.out).mono ?_); (case side1 => repeat (first | exact (Kd.R_reads' HO225.out).2.2 | (with_reducible refine Kd.C_alloc ?_ _) | (with_reducible refine Kd.C_drewN ?_ _) | (with_reducible refine Kd.C_drew ?_))); (case side2 => exact (Kd.R_reads' HO225.out).2.1); rintro e w23 ⟨v229, rfl, ho0, hb⟩; refine ⟨_, rfl, ?_⟩; have n0_ := Aside0.mk (Kd.R_elder' (by (with_reducible repeat (first | apply Kd.R_alloc | apply Kd.R_drewN | apply Kd.R_drew)); exact HO212.out) (Kd.R_base ho0) hb); have n1_ := Aside0.mk (Kd.R_elder' (by (with_reducible repeat (first | apply Kd.R_alloc | apply Kd.R_drewN | apply Kd.R_drew)); exact HO215.out) (Kd.R_base ho0) hb); have n2_ := Aside0.mk (Kd.R_elder' (by (with_reducible repeat (first | apply Kd.R_alloc | apply Kd.R_drewN | apply Kd.R_drew)); exact HO220.out) (Kd.R_base ho0) hb); have n3_ := Aside0.mk (Kd.R_elder' (by (with_reducible repeat (first | apply Kd.R_alloc | apply Kd.R_drewN | apply Kd.R_drew)); exact HO225.out) (Kd.R_base ho0) hb); have n4_ := Aside0.mk (Kd.R_lower (Kd.R_new' (Kd.R_new' (Kd.R_new' (Kd.R_new' ho0 (Kd.R_lt (by (with_reducible repeat (first | apply Kd.R_alloc | apply Kd.R_drewN | apply Kd.R_drew)); exact HO212.out))) (Kd.R_lt (by (with_reducible repeat (first | apply Kd.R_alloc | apply Kd.R_drewN | apply Kd.R_drew)); exact HO215.out))) (Kd.R_lt (by (with_reducible repeat (first | apply Kd.R_alloc | apply Kd.R_drewN | apply Kd.R_drew)); exact HO220.out))) (Kd.R_lt (by (with_reducible repeat (first | apply Kd.R_alloc | apply Kd.R_drewN | apply Kd.R_drew)); exact HO225.out))) (below_size (by repeat (first | (with_reducible first | exact HB.out | apply below_alloc | apply pw_below_drewN | apply below_drew1) | exact HB.out)))); have n5_ := Aside0.mk (below_step (by repeat (first | (with_reducible first | exact HB.out | apply below_alloc | apply pw_below_drewN | apply below_drew1) | exact HB.out)) hb); clear HO212; clear HO215; clear HO220; clear HO225; clear HB; have HO212 := n0_; have HO215 := n1_; have HO220 := n2_; have HO225 := n3_; have HO230 := n4_; have HB := n5_; clear n0_ n1_ n2_ n3_ n4_ n5_; (try clear hb); (try clear hb2); (try clear hk); (try clear hi); (try clear ho0)))
              go_loopg [5, 7] k1 (fun kq v5 v7 w' => ∃ (x5_2 : List Int) (x7_2 : Int), v7 = .int .i64 x7_2 ∧ Aside0 (compositorref23_Write.l1 kq l0 x5_2 x6_1 x7_2 = some (r1, r2)) ∧ Aside0 (kq ≤ k1) ∧ Aside0 (Kd.R (Kd.int .u8) 5 w' w.heap.size (fun _ => True) v5 x5_2) ∧ Aside0 (Below w.heap.size w w'))
              case atStart => exact ⟨(t227), (0), (by first | rfl | (simp; done) | (simp [*]; done)), H', ⟨Nat.le_refl _⟩, ⟨by (with_reducible repeat (first | apply Kd.R_alloc | apply Kd.R_drewN | apply Kd.R_drew)); exact Kd.R_mono HO230.out (fun _ hk => trivial)⟩, ⟨by repeat (first | (with_reducible first | exact HB.out | apply below_alloc | apply pw_below_drewN | apply below_drew1) | exact HB.out)⟩⟩
              case round =>
                clear H'
                try clear c1
                try clear c2
                try clear p2
                try clear q2
                try clear hx2
                try clear c3
                try clear p6
                try clear c7
                try clear c7b0
                try clear c8
                try clear c8b0
                try clear c9
                try clear c10
                try clear c14
                try clear c20
                try clear p20
                try clear q20
                try clear hx20
                try clear c21
                try clear p21
                try clear q21
                try clear hx21
                try clear c22
                try clear p22
                try clear q22
                try clear hx22
                try clear hx208_0
                try clear hx208_1
                try clear hx208_2
                try clear hx208_3
                try clear hx208_4
                try clear hx209_0
                try clear hx209_1
                try clear hx209_2
                try clear hx209_3
                try clear hx209_4
                try clear hx216_0
                try clear hx216_1
                try clear hx216_2
                try clear hx216_3
                try clear hx216_4
                try clear hx221_0
                try clear hx221_1
                try clear hx221_2
                try clear hx221_3
                try clear hx221_4
                try clear hx226_0
                try clear hx226_1
                try clear hx226_2
                try clear hx226_3
                try clear hx226_4
                try clear p2
                try clear p208
                try clear p209
                try clear p216
                try clear p221
                try clear p226
                try clear q208
                try clear q209
                try clear q216
                try clear q221
                try clear q226
                obtain ⟨x5_2, x7_2, rfl, HA, HK2, HO_5, HB⟩ := hrel
                cases gk with
                | zero => exact absurd HA.out (by simp [compositorref23_Write.l1])
                | succ k2 =>
                  have H := HA.out
                  clear HA
                  simp only [compositorref23_Write.l1] at H
                  by_cases c24 : 0 ≤ x6_1
                  · rw [if_pos c24] at H
                    have c24b0 : decide (0 ≤ x6_1) = true := decide_eq_true c24
                    clear c24
                    by_cases c25 : x6_1 < (l0.length : Int)
                    · rw [if_pos c25] at H
                      have c25b0 : decide (x6_1 < (l0.length : Int)) = true := decide_eq_true c25
                      clear c25
                      by_cases c26 : x7_2 < (((rd_T41 l0 x6_1).f4).length : Int)
                      · rw [if_pos c26] at H
                        have c26b0 : decide (x7_2 < (((rd_T41 l0 x6_1).f4).length : Int)) = true := decide_eq_true c26
                        clear c26
                        by_cases c27 : 0 ≤ x7_2
                        · rw [if_pos c27] at H
                          have c27b0 : decide (0 ≤ x7_2) = true := decide_eq_true c27
                          clear c27
                          replace H := Option.bind_eq_some_iff.mp H
                          obtain ⟨⟨t234, t235⟩, A280, H⟩ := H
                          replace H : (if x5_2.length < 140737488355328 then ((some (x5_2 ++ [((rd_T43 ((rd_T41 l0 x6_1).f4) x7_2).f0) % 256] : List Int)).bind fun y240 => (if y240.length + t234.length < 140737488355328 then (compositorref23_Write.l1 k2 l0 (y240 ++ t234) x6_1 (wrap64 (x7_2 + 1))) else (none))) else (none)) = some (r1, r2) := H
                          have A28 := Aside0.mk A280
                          clear A280
                          by_cases c29 : x5_2.length < 140737488355328
                          · rw [if_pos c29] at H
                            have LMc29 := Aside0.mk c29
                            clear c29
                            obtain ⟨y240, hy240⟩ : ∃ y_ : List Int, y_ = (x5_2 ++ [((rd_T43 ((rd_T41 l0 x6_1).f4) x7_2).f0) % 256]) := ⟨_, rfl⟩
                            replace H : (if y240.length + t234.length < 140737488355328 then (compositorref23_Write.l1 k2 l0 (y240 ++ t234) x6_1 (wrap64 (x7_2 + 1))) else (none)) = some (r1, r2) := by first | (rw [hy240]; with_reducible exact H) | (have H2_ := (Option.bind_some _ _).symm.trans H; rw [hy240]; with_reducible exact H2_) | (have H2_ := (Option.bind_some _ _).symm.trans H; with_reducible exact H2_) | with_reducible exact H | (rw [hy240]; exact H) | exact H
                            have Ny240 := Aside0.mk hy240
                            clear hy240
                            by_cases c30 : y240.length + t234.length < 140737488355328
                            · rw [if_pos c30] at H
                              have LMc30 := Aside0.mk c30
                              clear c30
                              obtain ⟨y243, hy243⟩ : ∃ y_ : List Int, y_ = (y240 ++ t234) := ⟨_, rfl⟩
                              replace H : (compositorref23_Write.l1 k2 l0 y243 x6_1 (wrap64 (x7_2 + 1))) = some (r1, r2) := by first | (rw [hy243]; with_reducible exact H) | (have H2_ := (Option.bind_some _ _).symm.trans H; rw [hy243]; with_reducible exact H2_) | (have H2_ := (Option.bind_some _ _).symm.trans H; with_reducible exact H2_) | with_reducible exact H | (rw [hy243]; exact H) | exact H
                              have Ny243 := Aside0.mk hy243
                              clear hy243
                              have H' := Aside0.mk H
                              clear H
                              have p231 : 0 ≤ (x6_1 : Int) := of_decide_eq_true (by first | (with_reducible assumption) | assumption)
                              have q231 : x6_1 < (l0.length : Int) := of_decide_eq_true (by first | (with_reducible assumption) | assumption)
                              obtain ⟨ad231, A231_4, c231_4, e231, hx231_0, hx231_1, hx231_2, hx231_3, hx231_4, hl231_4, hi231_4⟩ := at_T41 HR0.out x6_1 p231 q231
                              obtain rfl : ad208 = ad231 := (by injection e231)
                              replace hx231_0 := (HB.out.cell (World.block_lt_of_cell? w _ hx231_0)).trans hx231_0
                              replace hx231_1 := (HB.out.cell (World.block_lt_of_cell? w _ hx231_1)).trans hx231_1
                              replace hx231_2 := (HB.out.cell (World.block_lt_of_cell? w _ hx231_2)).trans hx231_2
                              replace hx231_3 := (HB.out.cell (World.block_lt_of_cell? w _ hx231_3)).trans hx231_3
                              replace hx231_4 := (HB.out.cell (World.block_lt_of_cell? w _ hx231_4)).trans hx231_4
                              have HR231_4 := Aside0.mk hi231_4
                              have HC231_4 := Aside0.mk hl231_4
                              clear hi231_4 hl231_4
                              replace p231 := eq_true p231
                              replace q231 := eq_true q231
                              have p232 : 0 ≤ (x6_1 : Int) := of_decide_eq_true (by first | (with_reducible assumption) | assumption)
                              have q232 : x6_1 < (l0.length : Int) := of_decide_eq_true (by first | (with_reducible assumption) | assumption)
                              obtain ⟨ad232, A232_4, c232_4, e232, hx232_0, hx232_1, hx232_2, hx232_3, hx232_4, hl232_4, hi232_4⟩ := at_T41 HR0.out x6_1 p232 q232
                              obtain rfl : ad208 = ad232 := (by injection e232)
                              replace hx232_0 := (HB.out.cell (World.block_lt_of_cell? w _ hx232_0)).trans hx232_0
                              replace hx232_1 := (HB.out.cell (World.block_lt_of_cell? w _ hx232_1)).trans hx232_1
                              replace hx232_2 := (HB.out.cell (World.block_lt_of_cell? w _ hx232_2)).trans hx232_2
                              replace hx232_3 := (HB.out.cell (World.block_lt_of_cell? w _ hx232_3)).trans hx232_3
                              replace hx232_4 := (HB.out.cell (World.block_lt_of_cell? w _ hx232_4)).trans hx232_4
                              have HR232_4 := Aside0.mk hi232_4
                              have HC232_4 := Aside0.mk hl232_4
                              clear hi232_4 hl232_4
                              replace p232 := eq_true p232
                              replace q232 := eq_true q232
                              have ea_ := Option.some.inj (hx231_4.symm.trans hx232_4)
                              injection ea_ with ea_ en_ ec_
                              subst ea_
                              subst ec_
                              clear en_
                              have p233 : 0 ≤ (x7_2 : Int) := of_decide_eq_true (by first | (with_reducible assumption) | assumption)
                              have q233 : x7_2 < (((rd_T41 l0 x6_1).f4).length : Int) := of_decide_eq_true (by first | (with_reducible assumption) | assumption)
                              obtain ⟨ad233, e233, hx233_0, hx233_1⟩ := at_T43 HR232_4.out x7_2 p233 q233
                              cases e233
                              replace hx233_0 := (HB.out.cell (World.block_lt_of_cell? w _ hx233_0)).trans hx233_0
                              replace hx233_1 := (HB.out.cell (World.block_lt_of_cell? w _ hx233_1)).trans hx233_1
                              replace p233 := eq_true p233
                              replace q233 := eq_true q233
                              go_wp2_with (first | ((with_reducible refine gate_callee (f := 24) rfl ?_); refine goesL_ (some 91) rfl rfl Try.func24 (by kernel_rfl) rfl #[.slice none 0 0, .int .i64 ((rd_T43 ((rd_T41 l0 x6_1).f4) x7_2).f1)] rfl (by (try simp only [List.map_toArray, List.map_cons, List.map_nil]); first | done | rfl | (simp only [List.length_drop, List.length_take]; rfl)) ?_; (refine (compositorref06_PutFix.calls k2 _ _ ([] : List Int) ((rd_T43 ((rd_T41 l0 x6_1).f4) x7_2).f1) t234 t235 _ ?side1 ?side2 A28.out).mono ?_); (case side1 => exact Kd.C_nil _ _); (case side2 => exact Nat.le_refl _); rintro e w31 ⟨v236, rfl, ho0, hb⟩; refine ⟨_, rfl, ?_⟩; have n0_ := Aside0.mk (Kd.R_elder' (by (with_reducible repeat (first | apply Kd.R_alloc | apply Kd.R_drewN | apply Kd.R_drew)); exact HO_5.out) (Kd.R_base ho0) hb); have n1_ := Aside0.mk (Kd.R_lower (Kd.R_new' ho0 (Kd.R_lt (by (with_reducible repeat (first | apply Kd.R_alloc | apply Kd.R_drewN | apply Kd.R_drew)); exact HO_5.out))) (below_size (by repeat (first | (with_reducible first | exact HB.out | apply below_alloc | apply pw_below_drewN | apply below_drew1) | exact HB.out)))); have n2_ := Aside0.mk (below_step (by repeat (first | (with_reducible first | exact HB.out | apply below_alloc | apply pw_below_drewN | apply below_drew1) | exact HB.out)) hb); clear HO_5; clear HB; have HO_5 := n0_; have HO237 := n1_; have HB := n2_; clear n0_ n1_ n2_; (try clear hb); (try clear hb2); (try clear hk); (try clear hi); (try clear ho0); have p238 : 0 ≤ (x6_1 : Int) := of_decide_eq_true (by first | (with_reducible assumption) | assumption); have q238 : x6_1 < (l0.length : Int) := of_decide_eq_true (by first | (with_reducible assumption) | assumption); obtain ⟨ad238, A238_4, c238_4, e238, hx238_0, hx238_1, hx238_2, hx238_3, hx238_4, hl238_4, hi238_4⟩ := at_T41 HR0.out x6_1 p238 q238; obtain rfl : ad208 = ad238 := (by injection e238); replace hx238_0 := (HB.out.cell (World.block_lt_of_cell? w _ hx238_0)).trans hx238_0; replace hx238_1 := (HB.out.cell (World.block_lt_of_cell? w _ hx238_1)).trans hx238_1; replace hx238_2 := (HB.out.cell (World.block_lt_of_cell? w _ hx238_2)).trans hx238_2; replace hx238_3 := (HB.out.cell (World.block_lt_of_cell? w _ hx238_3)).trans hx238_3; replace hx238_4 := (HB.out.cell (World.block_lt_of_cell? w _ hx238_4)).trans hx238_4; have HR238_4 := Aside0.mk hi238_4; have HC238_4 := Aside0.mk hl238_4; clear hi238_4 hl238_4; replace p238 := eq_true p238; replace q238 := eq_true q238; have p239 : 0 ≤ (x7_2 : Int) := of_decide_eq_true (by first | (with_reducible assumption) | assumption); have q239 : x7_2 < (((rd_T41 l0 x6_1).f4).length : Int) := of_decide_eq_true (by first | (with_reducible assumption) | assumption); obtain ⟨ad239, e239, hx239_0, hx239_1⟩ := at_T43 HR238_4.out x7_2 p239 q239; cases e239; replace hx239_0 := (HB.out.cell (World.block_lt_of_cell? w _ hx239_0)).trans hx239_0; replace hx239_1 := (HB.out.cell (World.block_lt_of_cell? w _ hx239_1)).trans hx239_1; replace p239 := eq_true p239; replace q239 := eq_true q239) | ((with_reducible refine gate_builtin (b := .append) (xs := #[.tmp 94, .tmp 105]) rfl ?_); at_builtin; refine Kd.R_append (Kd.int .u8) (w0 := w) w.heap.size rfl (.tmp 94) (.tmp 105) 25 5 (.int .u8 0) 1 rfl Try.underlying25 info5 rfl (by decide) (by omega) u5 x5_2 (((rd_T43 ((rd_T41 l0 x6_1).f4) x7_2).f0) % 256) [.int .u8 (((rd_T43 ((rd_T41 l0 x6_1).f4) x7_2).f0) % 256)] (fun k_ => some k_ ≠ (v236 : Value).ownBlock) (fun _ => False) rfl rfl ?aP (fun _ hk => hk.elim) ?aF ?aO ?aB ?aS ?aL ?_; (case aP => exact rfl); (case aB => exact (by repeat (first | (with_reducible first | exact HB.out | apply below_alloc | apply pw_below_drewN | apply below_drew1) | exact HB.out))); (case aF => exact (fun k_ hk => Kd.fresh' (Kd.R_lt (by (with_reducible repeat (first | apply Kd.R_alloc | apply Kd.R_drewN | apply Kd.R_drew)); exact HO237.out)) k_ hk)); (case aO => exact (by (with_reducible repeat (first | apply Kd.R_alloc | apply Kd.R_drewN | apply Kd.R_drew)); exact Kd.R_mono HO_5.out (fun _ hk => hk.2))); (case aS => exact (below_size (by repeat (first | (with_reducible first | exact HB.out | apply below_alloc | apply pw_below_drewN | apply below_drew1) | exact HB.out)))); (case aL => have := LMc29.out; omega); intro v241 w32 ho hb hg hat; rw [← Ny240.out] at ho; have n0_ := Aside0.mk (Kd.R_after (ok := (fun _ => True)) (by (with_reducible repeat (first | apply Kd.R_alloc | apply Kd.R_drewN | apply Kd.R_drew)); exact HO237.out) hg hat); have n1_ := Aside0.mk (hb); have n2_ := Aside0.mk (ho); clear HO237; clear HB; clear HO_5; have HO237 := n0_; have HB := n1_; have HO242 := n2_; clear n0_ n1_ n2_; clear ho hb hg hat; obtain ⟨Ao34, co34, eo34⟩ := Kd.R_slice HO237.out; subst eo34) | ((with_reducible refine gate_builtin (b := .append) (xs := #[.tmp 106, .tmp 107]) rfl ?_); at_builtin; refine Kd.R_append_rows (Kd.int .u8) (w0 := w) w.heap.size rfl (.tmp 106) (.tmp 107) 25 5 (.int .u8 0) 1 rfl Try.underlying25 info5 rfl (by decide) (by omega) v241 y240 t234 _ _ _ (fun k_ => some k_ ≠ (.slice Ao34 t234.length co34 : Value).ownBlock) (fun _ => False) rfl rfl ?aO ?aR (fun _ _ h => h) (fun _ h => h.elim) ?aF ?aB ?aS ?aL ?_; (case aR => repeat (first | exact (Kd.R_reads' HO237.out).2.2 | (with_reducible refine Kd.C_alloc ?_ _) | (with_reducible refine Kd.C_drewN ?_ _) | (with_reducible refine Kd.C_drew ?_))); (case aB => exact (by repeat (first | (with_reducible first | exact HB.out | apply below_alloc | apply pw_below_drewN | apply below_drew1) | exact HB.out))); (case aF => exact (fun k_ hk => Kd.fresh' (Kd.R_lt (by (with_reducible repeat (first | apply Kd.R_alloc | apply Kd.R_drewN | apply Kd.R_drew)); exact HO237.out)) k_ hk)); (case aO => exact (by (with_reducible repeat (first | apply Kd.R_alloc | apply Kd.R_drewN | apply Kd.R_drew)); exact HO242.out)); (case aS => exact (below_size (by repeat (first | (with_reducible first | exact HB.out | apply below_alloc | apply pw_below_drewN | apply below_drew1) | exact HB.out)))); (case aL => have := LMc30.out; omega); intro v244 w33 ho hb hg hat; rw [← Ny243.out] at ho; have n0_ := Aside0.mk (Kd.R_after (ok := (fun _ => True)) (by (with_reducible repeat (first | apply Kd.R_alloc | apply Kd.R_drewN | apply Kd.R_drew)); exact HO237.out) hg hat); have n1_ := Aside0.mk (hb); have n2_ := Aside0.mk (ho); clear HO237; clear HB; clear HO242; have HO237 := n0_; have HB := n1_; have HO245 := n2_; clear n0_ n1_ n2_; clear ho hb hg hat))
                              go_roundg k2
                              case measure => have := HK1.out; have := HK2.out; omega
                              case rel => exact ⟨(y243), (wrap64 (x7_2 + 1)), (by first | rfl | (simp; done) | (simp [*]; done)), H', ⟨by have := HK1.out; have := HK2.out; omega⟩, ⟨by (with_reducible repeat (first | apply Kd.R_alloc | apply Kd.R_drewN | apply Kd.R_drew)); exact Kd.R_mono HO245.out (fun _ hk => trivial)⟩, ⟨by repeat (first | (with_reducible first | exact HB.out | apply below_alloc | apply pw_below_drewN | apply below_drew1) | exact HB.out)⟩⟩
                            · rw [if_neg c30] at H
                              exact absurd H (by simp)
                          · rw [if_neg c29] at H
                            exact absurd H (by simp)
                        · rw [if_neg c27] at H
                          exact absurd H (by simp)
                      · rw [if_neg c26] at H
                        have c26b0 : decide (x7_2 < (((rd_T41 l0 x6_1).f4).length : Int)) = false := decide_eq_false c26
                        clear c26
                        have H' := Aside0.mk H
                        clear H
                        have p231 : 0 ≤ (x6_1 : Int) := of_decide_eq_true (by first | (with_reducible assumption) | assumption)
                        have q231 : x6_1 < (l0.length : Int) := of_decide_eq_true (by first | (with_reducible assumption) | assumption)
                        obtain ⟨ad231, A231_4, c231_4, e231, hx231_0, hx231_1, hx231_2, hx231_3, hx231_4, hl231_4, hi231_4⟩ := at_T41 HR0.out x6_1 p231 q231
                        obtain rfl : ad208 = ad231 := (by injection e231)
                        replace hx231_0 := (HB.out.cell (World.block_lt_of_cell? w _ hx231_0)).trans hx231_0
                        replace hx231_1 := (HB.out.cell (World.block_lt_of_cell? w _ hx231_1)).trans hx231_1
                        replace hx231_2 := (HB.out.cell (World.block_lt_of_cell? w _ hx231_2)).trans hx231_2
                        replace hx231_3 := (HB.out.cell (World.block_lt_of_cell? w _ hx231_3)).trans hx231_3
                        replace hx231_4 := (HB.out.cell (World.block_lt_of_cell? w _ hx231_4)).trans hx231_4
                        have HR231_4 := Aside0.mk hi231_4
                        have HC231_4 := Aside0.mk hl231_4
                        clear hi231_4 hl231_4
                        replace p231 := eq_true p231
                        replace q231 := eq_true q231
                        go_wp2
                        go_roundg k2
                        case measure => have := HK1.out; have := HK2.out; omega
                        case rel => exact ⟨(x5_2), (wrap64 (x6_1 + 1)), (by first | rfl | (simp; done) | (simp [*]; done)), H', ⟨by have := HK1.out; have := HK2.out; omega⟩, ⟨by (with_reducible repeat (first | apply Kd.R_alloc | apply Kd.R_drewN | apply Kd.R_drew)); exact HO_5.out⟩, ⟨by repeat (first | (with_reducible first | exact HB.out | apply below_alloc | apply pw_below_drewN | apply below_drew1) | exact HB.out)⟩⟩
                    · rw [if_neg c25] at H
                      exact absurd H (by simp)
                  · rw [if_neg c24] at H
                    exact absurd H (by simp)
            · rw [if_neg c9] at H
              exact absurd H (by simp)
          · rw [if_neg c8] at H
            exact absurd H (by simp)
        · rw [if_neg c7] at H
          have c7b0 : decide (x6_1 < (l0.length : Int)) = false := decide_eq_false c7
          clear c7
          simp only [Option.some.injEq, Prod.mk.injEq] at H
          obtain ⟨rfl, rfl⟩ := H
          go_wp2
          go_ret2
          exact ⟨_, by first | rfl | (simp [errW_none, errW_some] <;> rfl) | (simp [*, errW_none, errW_some] <;> rfl), by (with_reducible repeat (first | apply Kd.R_alloc | apply Kd.R_drewN | apply Kd.R_drew)); exact HO_5.out, by repeat (first | (with_reducible first | exact HB.out | apply below_alloc | apply pw_below_drewN | apply below_drew1) | exact HB.out)⟩
  · replace c3 := Bool.eq_false_iff.mpr c3
    subst c3
    have H1 : (some (([] : List Int), 230)) = some (r1, r2) := by rw [if_neg (show ¬ (false = true) by decide)] at H; exact H
    clear H
    have H := H1
    clear H1
    simp only [Option.some.injEq, Prod.mk.injEq] at H
    obtain ⟨rfl, rfl⟩ := H
    go_enter Try.func10, Try.ntmps10
    go_wp2_with (first | ((with_reducible refine gate_callee (f := 14) rfl ?_); refine goesL_ (some 11) rfl rfl Try.func14 (by kernel_rfl) rfl #[.slice A0 l0.length c0] rfl (by (try simp only [List.map_toArray, List.map_cons, List.map_nil]); first | done | rfl | (simp only [List.length_drop, List.length_take]; rfl)) ?_; (with_reducible refine (compositorref23_Check.calls k _ _ l0 false _ ?side1 ?side2 A2.out).mono ?_); (case side1 => repeat (first | exact HR0.out | (with_reducible refine Kd.C_alloc ?_ _) | (with_reducible refine Kd.C_drewN ?_ _) | (with_reducible refine Kd.C_drew ?_))); (case side2 => exact HC0.out); rintro e w35 ⟨rfl, hb⟩; refine ⟨_, rfl, ?_⟩; have n0_ := Aside0.mk (below_step (by repeat (first | (with_reducible first | exact HB.out | apply below_alloc | apply pw_below_drewN | apply below_drew1) | exact HB.out)) hb); clear HB; have HB := n0_; clear n0_; (try clear hb); (try clear hb2); (try clear hk); (try clear hi)))
    go_ret2
    exact ⟨_, by first | rfl | (simp [errW_none, errW_some] <;> rfl) | (simp [*, errW_none, errW_some] <;> rfl), by first | exact Kd.R_nil _ _ _ _ _ | exact Kd.N_nil _ _ _ _ _ | exact Kd.V_nil _ _ _ _ _ | exact Kd.Q_nil _ _ _ _ _ | exact Kd.S_nil _ _ _ _ _, by repeat (first | (with_reducible first | exact HB.out | apply below_alloc | apply pw_below_drewN | apply below_drew1) | exact HB.out)⟩

end Go.Proofs.Ythlhfnbaihdjkaa.Q
