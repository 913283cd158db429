-- WRITTEN BY A PROGRAM OF THIS SESSION (wip/gprint.py) OVER THE KIT'S PRINT, some functions given by hand
import Derived.Test.YthlhfnbaihdjkaaQx0
import Derived.Test.YthlhfnbaihdjkaaQx7
import Derived.Test.YthlhfnbaihdjkaaQx8
namespace Go.Proofs.Ythlhfnbaihdjkaa.Q
open Go.RowKit Go.Proofs.YthlhfnbaihdjkaaW.PrintWords Go.Proofs.YthlhfnbaihdjkaaW.PrintLast Go.Proofs.YthlhfnbaihdjkaaW.PrintMore
attribute [local go_sem] max2_int min2_int max_two min_two max_three min_three max_four min_four   -- for this text's walks alone
set_option linter.unusedVariables false
set_option linter.unusedSimpArgs false

/-! ### compositorref23_Read: function 17 -/
mutual
def compositorref23_Read.l0 : Nat → List Int → List (S41) → Int → Int → Option ((List (S41)) × Int)
  | 0, _, _, _, _ => none
  | k + 1, x0, x4, x5, x6 => if 2 < (x0.length : Int) then (if x6 < (wrap64 (rd x0 2)) then (if (wrap64 (x5 + 12)) > (x0.length : Int) then (some (([] : List (S41)), 230)) else (if 0 ≤ x5 then (if x5 < (x0.length : Int) then (if 0 ≤ (wrap64 (x5 + 1)) then (if (wrap64 (x5 + 1)) < (x0.length : Int) then ((compositorref23_fix.f k x0 (wrap64 (x5 + 2))).bind fun t312 => ((compositorref23_fix.f k x0 (wrap64 (x5 + 6))).bind fun t313 => (if 0 ≤ (wrap64 (x5 + 10)) then (if (wrap64 (x5 + 10)) < (x0.length : Int) then (if 0 ≤ (wrap64 (x5 + 11)) then (if (wrap64 (x5 + 11)) < (x0.length : Int) then (if (wrap64 ((wrap64 (x5 + 12)) + (wrap64 (5 * (wrap64 ((wrap64 (256 * (wrap64 (rd x0 (wrap64 (x5 + 10)))))) + (wrap64 (rd x0 (wrap64 (x5 + 11)))))))))) > (x0.length : Int) then (some (([] : List (S41)), 230)) else (compositorref23_Read.l1 k x0 x4 (wrap64 (x5 + 12)) x6 (wrap64 ((wrap64 (256 * (wrap64 (rd x0 (wrap64 (x5 + 10)))))) + (wrap64 (rd x0 (wrap64 (x5 + 11)))))) 0 (wrap64 ((wrap64 (rd x0 x5)) - 8)) (wrap64 (rd x0 (wrap64 (x5 + 1)))) t312 t313 ([] : List (S43)))) else (none)) else (none)) else (none)) else (none)))) else (none)) else (none)) else (none)) else (none))) else ((compositorref23_Write.f k x4).bind fun bt306 => (if bt306.2 = 0 then (if (strOfNums bt306.1).toList = (strOfNums x0).toList then (some (x4, 0)) else (some (([] : List (S41)), 230))) else (some (([] : List (S41)), 230))))) else (none)
def compositorref23_Read.l1 : Nat → List Int → List (S41) → Int → Int → Int → Int → Int → Int → Int → Int → List (S43) → Option ((List (S41)) × Int)
  | 0, _, _, _, _, _, _, _, _, _, _, _ => none
  | k + 1, x0, x4, x5, x6, x8, x9, x315000, x315001, x315002, x315003, x315004 => if x9 < x8 then (if 0 ≤ x5 then (if x5 < (x0.length : Int) then ((compositorref23_fix.f k x0 (wrap64 (x5 + 1))).bind fun t318 => (if x315004.length < 8796093022208 then (compositorref23_Read.l1 k x0 x4 (wrap64 (x5 + 5)) x6 x8 (wrap64 (x9 + 1)) x315000 x315001 x315002 x315003 (x315004 ++ [(⟨wrap64 (rd x0 x5), t318⟩ : S43)])) else (none))) else (none)) else (none)) else (if x4.length < 2513169434916 then (compositorref23_Read.l0 k x0 (x4 ++ [(⟨x315000, x315001, x315002, x315003, x315004⟩ : S41)]) x5 (wrap64 (x6 + 1))) else (none))
end
def compositorref23_Read.f (k : Nat) (l0 : List Int) : Option ((List (S41)) × Int) := if (l0.length : Int) < 3 then (some (([] : List (S41)), 230)) else (compositorref23_Read.l0 k l0 ([] : List (S41)) 3 0)
theorem compositorref23_Read.mono_l : ∀ k, (∀ y0 y1 y2 y3, LeO (compositorref23_Read.l0 k y0 y1 y2 y3) (compositorref23_Read.l0 (k + 1) y0 y1 y2 y3)) ∧ (∀ y0 y1 y2 y3 y4 y5 y6 y7 y8 y9 y10, LeO (compositorref23_Read.l1 k y0 y1 y2 y3 y4 y5 y6 y7 y8 y9 y10) (compositorref23_Read.l1 (k + 1) y0 y1 y2 y3 y4 y5 y6 y7 y8 y9 y10))
  | 0 => ⟨fun _ _ _ _ r h => by simp [compositorref23_Read.l0] at h, fun _ _ _ _ _ _ _ _ _ _ _ r h => by simp [compositorref23_Read.l1] at h⟩
  | k + 1 => by
    obtain ⟨ih0, ih1⟩ := compositorref23_Read.mono_l k
    refine ⟨?_, ?_⟩
    · intro y0 y1 y2 y3
      unfold compositorref23_Read.l0
      repeat' first
      | (with_reducible exact ih0 _ _ _ _)
      | (with_reducible exact ih1 _ _ _ _ _ _ _ _ _ _ _)
      | (with_reducible exact compositorref23_Write.mono _ _)
      | (with_reducible exact compositorref23_fix.mono _ _ _)
      | (with_reducible exact LeO.refl _)
      | (with_reducible exact LeO.none _)
      | (with_reducible refine LeO.ite ?_ ?_)
      | (with_reducible refine LeO.bind ?_ (fun _ => ?_))
      | exact ih0 _ _ _ _
      | exact ih1 _ _ _ _ _ _ _ _ _ _ _
      | exact compositorref23_Write.mono _ _
      | exact compositorref23_fix.mono _ _ _
      | exact LeO.none _
      | refine LeO.ite ?_ ?_
      | refine LeO.bind ?_ (fun _ => ?_)
    · intro y0 y1 y2 y3 y4 y5 y6 y7 y8 y9 y10
      unfold compositorref23_Read.l1
      repeat' first
      | (with_reducible exact ih0 _ _ _ _)
      | (with_reducible exact ih1 _ _ _ _ _ _ _ _ _ _ _)
      | (with_reducible exact compositorref23_Write.mono _ _)
      | (with_reducible exact compositorref23_fix.mono _ _ _)
      | (with_reducible exact LeO.refl _)
      | (with_reducible exact LeO.none _)
      | (with_reducible refine LeO.ite ?_ ?_)
      | (with_reducible refine LeO.bind ?_ (fun _ => ?_))
      | exact ih0 _ _ _ _
      | exact ih1 _ _ _ _ _ _ _ _ _ _ _
      | exact compositorref23_Write.mono _ _
      | exact compositorref23_fix.mono _ _ _
      | exact LeO.none _
      | refine LeO.ite ?_ ?_
      | refine LeO.bind ?_ (fun _ => ?_)
theorem compositorref23_Read.mono : ∀ a0 k, LeO (compositorref23_Read.f k a0) (compositorref23_Read.f (k + 1) a0) := by
  intro a0 k
  obtain ⟨ih0, ih1⟩ := compositorref23_Read.mono_l k
  unfold compositorref23_Read.f
  repeat' first
      | (with_reducible exact ih0 _ _ _ _)
      | (with_reducible exact ih1 _ _ _ _ _ _ _ _ _ _ _)
      | (with_reducible exact compositorref23_Write.mono _ _)
      | (with_reducible exact compositorref23_fix.mono _ _ _)
      | (with_reducible exact LeO.refl _)
      | (with_reducible exact LeO.none _)
      | (with_reducible refine LeO.ite ?_ ?_)
      | (with_reducible refine LeO.bind ?_ (fun _ => ?_))
      | exact ih0 _ _ _ _
      | exact ih1 _ _ _ _ _ _ _ _ _ _ _
      | exact compositorref23_Write.mono _ _
      | exact compositorref23_fix.mono _ _ _
      | exact LeO.none _
      | refine LeO.ite ?_ ?_
      | refine LeO.bind ?_ (fun _ => ?_)
def compositorref23_Read.T10 : Bool × List (List Nat × List Nat) := (true, [([], []), ([], []), ([0, 1], [0, 1]), ([2], [2]), ([3], [3]), ([4], [4]), ([], []), ([], []), ([7], [7]), ([6, 8], [6, 8]), ([9], [9]), ([10], [10]), ([], []), ([], []), ([13], [13]), ([12, 14], [12, 14]), ([], []), ([], []), ([17], [17]), ([16, 18, 15], [16, 18]), ([5, 11, 15, 19], [5, 11, 15, 19]), ([], []), ([21, 20, 19, 0, 1, 2, 3, 4, 5, 6, 7, 8, 9, 10, 11, 12, 13, 14, 15, 16, 17, 18, 19, 20, 21], [20, 21])])
def compositorref23_Read.B10 : List Nat := [0, 0, 3, 7, 15, 31, 0, 0, 128, 448, 960, 1984, 0, 0, 8192, 28672, 0, 0, 131072, 520192, 1048575, 0, 4194303]
theorem compositorref23_Read.tab10 : rtab .any (opsOf Try.f17 10) = compositorref23_Read.T10 := by kernel_rfl
theorem compositorref23_Read.bits10 : waitsOk compositorref23_Read.T10.2 compositorref23_Read.B10 = true := by kernel_rfl
def compositorref23_Read.T11 : Bool × List (List Nat × List Nat) := (true, [([], []), ([], []), ([1], [1]), ([0, 2], [0, 2]), ([3], [3]), ([4], [4]), ([5], [5]), ([], []), ([], []), ([8], [8]), ([7, 9], [7, 9]), ([10], [10]), ([11], [11]), ([6, 12], [6, 12]), ([13, 0, 1, 2, 3, 4, 5, 6, 7, 8, 9, 10, 11, 12, 13], [13])])
def compositorref23_Read.B11 : List Nat := [0, 0, 2, 7, 15, 31, 63, 0, 0, 256, 896, 1920, 3968, 8191, 16383]
theorem compositorref23_Read.tab11 : rtab .any (opsOf Try.f17 11) = compositorref23_Read.T11 := by kernel_rfl
theorem compositorref23_Read.bits11 : waitsOk compositorref23_Read.T11.2 compositorref23_Read.B11 = true := by kernel_rfl
def compositorref23_Read.T18 : Bool × List (List Nat × List Nat) := (true, [([], []), ([0], [0]), ([], []), ([], []), ([2, 3], [2, 3]), ([4], [4]), ([5], [5]), ([], []), ([], []), ([8], [8]), ([7, 9], [7, 9]), ([6, 10], [6, 10]), ([11], [11]), ([1, 12, 10], [1, 12]), ([0, 1, 2, 3, 4, 5, 6, 7, 8, 9, 10, 11, 12, 13], []), ([14, 13, 13, 0, 1, 2, 3, 4, 5, 6, 7, 8, 9, 10, 11, 12, 13], [13, 14])])
def compositorref23_Read.B18 : List Nat := [0, 1, 0, 0, 12, 28, 60, 0, 0, 256, 896, 2044, 4092, 8191, 16383, 32767]
theorem compositorref23_Read.tab18 : rtab .any (opsOf Try.f17 18) = compositorref23_Read.T18 := by kernel_rfl
theorem compositorref23_Read.bits18 : waitsOk compositorref23_Read.T18.2 compositorref23_Read.B18 = true := by kernel_rfl
set_option maxHeartbeats 8000000 in
set_option maxRecDepth 100000 in
theorem compositorref23_Read.calls (k : Nat) (A0 : Option Addr) (c0 : Nat) (l0 : List Int) (r1 : List (S41)) (r2 : Int) (w : World) (hr0 : Kd.C (Kd.int .u8) w A0 l0.length l0) (hc0 : l0.length ≤ c0) (h : compositorref23_Read.f k l0 = some (r1, r2)) :
    Calls Try.prog 17 #[.slice A0 l0.length c0] w fun e w' => ∃ v0_ : Value, e = .returned (.tuple #[v0_, .int .i64 r2]) ∧ Kd.S k41 41 w' w.heap.size (fun _ => True) v0_ r1 ∧ Below w.heap.size w w' := by
  have hu41 := Try.underlying41
  have hu43 := Try.underlying43
  have HR0 := Aside0.mk hr0
  have HC0 := Aside0.mk hc0
  clear hr0 hc0
  have HB := Aside0.mk (Below.refl w.heap.size w)
  have H : (if (l0.length : Int) < 3 then (some (([] : List (S41)), 230)) else (compositorref23_Read.l0 k l0 ([] : List (S41)) 3 0)) = some (r1, r2) := h
  clear h
  by_cases c2 : (l0.length : Int) < 3
  · rw [if_pos c2] at H
    have c2b0 : decide ((l0.length : Int) < 3) = true := decide_eq_true c2
    have c2b1 : decide (l0.length < 3) = true := decide_eq_true (by omega)
    clear c2
    simp only [Option.some.injEq, Prod.mk.injEq] at H
    obtain ⟨rfl, rfl⟩ := H
    go_enter Try.func17, Try.ntmps17
    go_wp2
    go_ret2
    exact ⟨_, by first | rfl | (simp [errW_none, errW_some] <;> rfl) | (simp [*, errW_none, errW_some] <;> rfl), by first | exact Kd.S_nil _ _ _ _ _ | exact Kd.N_nil _ _ _ _ _ | exact Kd.V_nil _ _ _ _ _ | exact Kd.Q_nil _ _ _ _ _ | exact Kd.R_nil _ _ _ _ _, by repeat (first | (with_reducible first | exact HB.out | apply below_alloc | apply pw_below_drewN | apply below_drew1) | exact HB.out)⟩
  · rw [if_neg c2] at H
    have c2b0 : decide ((l0.length : Int) < 3) = false := decide_eq_false c2
    have c2b1 : decide (l0.length < 3) = false := decide_eq_false (by omega)
    clear c2
    have H' := Aside0.mk H
    clear H
    go_enter Try.func17, Try.ntmps17
    go_wp2
    go_loopg [4, 5, 6] k (fun kq v4 v5 v6 w' => ∃ (x4_1 : List (S41)) (x5_1 : Int) (x6_1 : Int), v5 = .int .i64 x5_1 ∧ v6 = .int .i64 x6_1 ∧ Aside0 (compositorref23_Read.l0 kq l0 x4_1 x5_1 x6_1 = some (r1, r2)) ∧ Aside0 (kq ≤ k) ∧ Aside0 (Kd.S k41 41 w' w.heap.size (fun _ => True) v4 x4_1) ∧ Aside0 (Below w.heap.size w w'))
    case atStart => exact ⟨(([] : List (S41))), (3), (0), (by first | rfl | (simp; done) | (simp [*]; done)), (by first | rfl | (simp; done) | (simp [*]; done)), H', ⟨Nat.le_refl _⟩, ⟨by first | exact Kd.S_nil _ _ _ _ _ | exact Kd.N_nil _ _ _ _ _ | exact Kd.V_nil _ _ _ _ _ | exact Kd.Q_nil _ _ _ _ _ | exact Kd.R_nil _ _ _ _ _⟩, ⟨by repeat (first | (with_reducible first | exact HB.out | apply below_alloc | apply pw_below_drewN | apply below_drew1) | exact HB.out)⟩⟩
    case round =>
      clear H'
      try clear c1
      try clear c2
      try clear c2b0
      try clear c2b1
      try clear p2
      obtain ⟨x4_1, x5_1, x6_1, rfl, rfl, HA, HK1, HO_4, HB⟩ := hrel
      cases gk with
      | zero => exact absurd HA.out (by simp [compositorref23_Read.l0])
      | succ k1 =>
        have H := HA.out
        clear HA
        simp only [compositorref23_Read.l0] at H
        by_cases c3 : 2 < (l0.length : Int)
        · rw [if_pos c3] at H
          have c3b0 : decide (2 < (l0.length : Int)) = true := decide_eq_true c3
          have c3b1 : decide (2 < l0.length) = true := decide_eq_true (by omega)
          clear c3
          by_cases c4 : x6_1 < (wrap64 (rd l0 2))
          · rw [if_pos c4] at H
            have c4b0 : decide (x6_1 < (wrap64 (rd l0 2))) = true := decide_eq_true c4
            clear c4
            by_cases c5 : (wrap64 (x5_1 + 12)) > (l0.length : Int)
            · rw [if_pos c5] at H
              have c5b0 : decide ((l0.length : Int) < (wrap64 (x5_1 + 12))) = true := decide_eq_true c5
              clear c5
              simp only [Option.some.injEq, Prod.mk.injEq] at H
              obtain ⟨rfl, rfl⟩ := H
              have p305 : 0 ≤ (2 : Int) := (by omega)
              have q305 : 2 < (l0.length : Int) := of_decide_eq_true (by first | (with_reducible assumption) | assumption)
              obtain ⟨ad305, e305, hx305_0⟩ := Kd.at_int HR0.out 2 p305 q305
              cases e305
              (try simp only [show (2 : Int).toNat = 2 from rfl, Nat.reduceMul, Nat.reduceEqDiff, Go.Addr.add, ↓reduceIte] at hx305_0)
              have qi305 : (2 < l0.length) = True := eq_true (by omega)
              (try rw [show ((2 : Int)).toNat = 2 from rfl] at hx305_0)
              replace hx305_0 := (HB.out.cell (World.block_lt_of_cell? w _ hx305_0)).trans hx305_0
              replace p305 := eq_true p305
              replace q305 := eq_true q305
              go_wp2
              go_ret2
              exact ⟨_, by first | rfl | (simp [errW_none, errW_some] <;> rfl) | (simp [*, errW_none, errW_some] <;> rfl), by first | exact Kd.S_nil _ _ _ _ _ | exact Kd.N_nil _ _ _ _ _ | exact Kd.V_nil _ _ _ _ _ | exact Kd.Q_nil _ _ _ _ _ | exact Kd.R_nil _ _ _ _ _, by repeat (first | (with_reducible first | exact HB.out | apply below_alloc | apply pw_below_drewN | apply below_drew1) | exact HB.out)⟩
            · rw [if_neg c5] at H
              have c5b0 : decide ((l0.length : Int) < (wrap64 (x5_1 + 12))) = false := decide_eq_false c5
              clear c5
              by_cases c6 : 0 ≤ x5_1
              · rw [if_pos c6] at H
                have c6b0 : decide (0 ≤ x5_1) = true := decide_eq_true c6
                clear c6
                by_cases c7 : x5_1 < (l0.length : Int)
                · rw [if_pos c7] at H
                  have c7b0 : decide (x5_1 < (l0.length : Int)) = true := decide_eq_true c7
                  clear c7
                  obtain ⟨ji8, hji8⟩ : ∃ j_ : Int, (wrap64 (x5_1 + 1)) = j_ := ⟨_, rfl⟩
                  replace H : (if 0 ≤ (ji8) then (if (ji8) < (l0.length : Int) then ((compositorref23_fix.f k1 l0 (wrap64 (x5_1 + 2))).bind fun t312 => ((compositorref23_fix.f k1 l0 (wrap64 (x5_1 + 6))).bind fun t313 => (if 0 ≤ (wrap64 (x5_1 + 10)) then (if (wrap64 (x5_1 + 10)) < (l0.length : Int) then (if 0 ≤ (wrap64 (x5_1 + 11)) then (if (wrap64 (x5_1 + 11)) < (l0.length : Int) then (if (wrap64 ((wrap64 (x5_1 + 12)) + (wrap64 (5 * (wrap64 ((wrap64 (256 * (wrap64 (rd l0 (wrap64 (x5_1 + 10)))))) + (wrap64 (rd l0 (wrap64 (x5_1 + 11)))))))))) > (l0.length : Int) then (some (([] : List (S41)), 230)) else (compositorref23_Read.l1 k1 l0 x4_1 (wrap64 (x5_1 + 12)) x6_1 (wrap64 ((wrap64 (256 * (wrap64 (rd l0 (wrap64 (x5_1 + 10)))))) + (wrap64 (rd l0 (wrap64 (x5_1 + 11)))))) 0 (wrap64 ((wrap64 (rd l0 x5_1)) - 8)) (wrap64 (rd l0 (ji8))) t312 t313 ([] : List (S43)))) else (none)) else (none)) else (none)) else (none)))) else (none)) else (none)) = some (r1, r2) := by first | (rw [hji8] at H; exact H) | (simp only [hji8] at H ⊢; exact H)
                  have hji8w : (IntKind.i64.wrap (x5_1 + 1)) = ji8 := (i64_w _).trans hji8
                  by_cases c9 : 0 ≤ (ji8)
                  · rw [if_pos c9] at H
                    have c9b0 : decide (0 ≤ (ji8)) = true := decide_eq_true c9
                    clear c9
                    by_cases c10 : (ji8) < (l0.length : Int)
                    · rw [if_pos c10] at H
                      have c10b0 : decide ((ji8) < (l0.length : Int)) = true := decide_eq_true c10
                      clear c10
                      replace H := Option.bind_eq_some_iff.mp H
                      obtain ⟨t312, A110, H⟩ := H
                      replace H : ((compositorref23_fix.f k1 l0 (wrap64 (x5_1 + 6))).bind fun t313 => (if 0 ≤ (wrap64 (x5_1 + 10)) then (if (wrap64 (x5_1 + 10)) < (l0.length : Int) then (if 0 ≤ (wrap64 (x5_1 + 11)) then (if (wrap64 (x5_1 + 11)) < (l0.length : Int) then (if (wrap64 ((wrap64 (x5_1 + 12)) + (wrap64 (5 * (wrap64 ((wrap64 (256 * (wrap64 (rd l0 (wrap64 (x5_1 + 10)))))) + (wrap64 (rd l0 (wrap64 (x5_1 + 11)))))))))) > (l0.length : Int) then (some (([] : List (S41)), 230)) else (compositorref23_Read.l1 k1 l0 x4_1 (wrap64 (x5_1 + 12)) x6_1 (wrap64 ((wrap64 (256 * (wrap64 (rd l0 (wrap64 (x5_1 + 10)))))) + (wrap64 (rd l0 (wrap64 (x5_1 + 11)))))) 0 (wrap64 ((wrap64 (rd l0 x5_1)) - 8)) (wrap64 (rd l0 (ji8))) t312 t313 ([] : List (S43)))) else (none)) else (none)) else (none)) else (none))) = some (r1, r2) := H
                      have A11 := Aside0.mk A110
                      clear A110
                      replace H := Option.bind_eq_some_iff.mp H
                      obtain ⟨t313, A120, H⟩ := H
                      replace H : (if 0 ≤ (wrap64 (x5_1 + 10)) then (if (wrap64 (x5_1 + 10)) < (l0.length : Int) then (if 0 ≤ (wrap64 (x5_1 + 11)) then (if (wrap64 (x5_1 + 11)) < (l0.length : Int) then (if (wrap64 ((wrap64 (x5_1 + 12)) + (wrap64 (5 * (wrap64 ((wrap64 (256 * (wrap64 (rd l0 (wrap64 (x5_1 + 10)))))) + (wrap64 (rd l0 (wrap64 (x5_1 + 11)))))))))) > (l0.length : Int) then (some (([] : List (S41)), 230)) else (compositorref23_Read.l1 k1 l0 x4_1 (wrap64 (x5_1 + 12)) x6_1 (wrap64 ((wrap64 (256 * (wrap64 (rd l0 (wrap64 (x5_1 + 10)))))) + (wrap64 (rd l0 (wrap64 (x5_1 + 11)))))) 0 (wrap64 ((wrap64 (rd l0 x5_1)) - 8)) (wrap64 (rd l0 (ji8))) t312 t313 ([] : List (S43)))) else (none)) else (none)) else (none)) else (none)) = some (r1, r2) := H
                      have A12 := Aside0.mk A120
                      clear A120
                      obtain ⟨ji13, hji13⟩ : ∃ j_ : Int, (wrap64 (x5_1 + 10)) = j_ := ⟨_, rfl⟩
                      replace H : (if 0 ≤ (ji13) then (if (ji13) < (l0.length : Int) then (if 0 ≤ (wrap64 (x5_1 + 11)) then (if (wrap64 (x5_1 + 11)) < (l0.length : Int) then (if (wrap64 ((wrap64 (x5_1 + 12)) + (wrap64 (5 * (wrap64 ((wrap64 (256 * (wrap64 (rd l0 (ji13))))) + (wrap64 (rd l0 (wrap64 (x5_1 + 11)))))))))) > (l0.length : Int) then (some (([] : List (S41)), 230)) else (compositorref23_Read.l1 k1 l0 x4_1 (wrap64 (x5_1 + 12)) x6_1 (wrap64 ((wrap64 (256 * (wrap64 (rd l0 (ji13))))) + (wrap64 (rd l0 (wrap64 (x5_1 + 11)))))) 0 (wrap64 ((wrap64 (rd l0 x5_1)) - 8)) (wrap64 (rd l0 (ji8))) t312 t313 ([] : List (S43)))) else (none)) else (none)) else (none)) else (none)) = some (r1, r2) := by first | (rw [hji13] at H; exact H) | (simp only [hji13] at H ⊢; exact H)
                      (try rw [hji13] at A11)
                      (try rw [hji13] at A12)
                      have hji13w : (IntKind.i64.wrap (x5_1 + 10)) = ji13 := (i64_w _).trans hji13
                      by_cases c14 : 0 ≤ (ji13)
                      · rw [if_pos c14] at H
                        have c14b0 : decide (0 ≤ (ji13)) = true := decide_eq_true c14
                        clear c14
                        by_cases c15 : (ji13) < (l0.length : Int)
                        · rw [if_pos c15] at H
                          have c15b0 : decide ((ji13) < (l0.length : Int)) = true := decide_eq_true c15
                          clear c15
                          obtain ⟨ji16, hji16⟩ : ∃ j_ : Int, (wrap64 (x5_1 + 11)) = j_ := ⟨_, rfl⟩
                          replace H : (if 0 ≤ (ji16) then (if (ji16) < (l0.length : Int) then (if (wrap64 ((wrap64 (x5_1 + 12)) + (wrap64 (5 * (wrap64 ((wrap64 (256 * (wrap64 (rd l0 (ji13))))) + (wrap64 (rd l0 (ji16))))))))) > (l0.length : Int) then (some (([] : List (S41)), 230)) else (compositorref23_Read.l1 k1 l0 x4_1 (wrap64 (x5_1 + 12)) x6_1 (wrap64 ((wrap64 (256 * (wrap64 (rd l0 (ji13))))) + (wrap64 (rd l0 (ji16))))) 0 (wrap64 ((wrap64 (rd l0 x5_1)) - 8)) (wrap64 (rd l0 (ji8))) t312 t313 ([] : List (S43)))) else (none)) else (none)) = some (r1, r2) := by first | (rw [hji16] at H; exact H) | (simp only [hji16] at H ⊢; exact H)
                          (try rw [hji16] at A11)
                          (try rw [hji16] at A12)
                          have hji16w : (IntKind.i64.wrap (x5_1 + 11)) = ji16 := (i64_w _).trans hji16
                          by_cases c17 : 0 ≤ (ji16)
                          · rw [if_pos c17] at H
                            have c17b0 : decide (0 ≤ (ji16)) = true := decide_eq_true c17
                            clear c17
                            by_cases c18 : (ji16) < (l0.length : Int)
                            · rw [if_pos c18] at H
                              have c18b0 : decide ((ji16) < (l0.length : Int)) = true := decide_eq_true c18
                              clear c18
                              by_cases c19 : (wrap64 ((wrap64 (x5_1 + 12)) + (wrap64 (5 * (wrap64 ((wrap64 (256 * (wrap64 (rd l0 (ji13))))) + (wrap64 (rd l0 (ji16))))))))) > (l0.length : Int)
                              · rw [if_pos c19] at H
                                have c19b0 : decide ((l0.length : Int) < (wrap64 ((wrap64 (x5_1 + 12)) + (wrap64 (5 * (wrap64 ((wrap64 (256 * (wrap64 (rd l0 (ji13))))) + (wrap64 (rd l0 (ji16)))))))))) = true := decide_eq_true c19
                                clear c19
                                simp only [Option.some.injEq, Prod.mk.injEq] at H
                                obtain ⟨rfl, rfl⟩ := H
                                have p305 : 0 ≤ (2 : Int) := (by omega)
                                have q305 : 2 < (l0.length : Int) := of_decide_eq_true (by first | (with_reducible assumption) | assumption)
                                obtain ⟨ad305, e305, hx305_0⟩ := Kd.at_int HR0.out 2 p305 q305
                                cases e305
                                (try simp only [show (2 : Int).toNat = 2 from rfl, Nat.reduceMul, Nat.reduceEqDiff, Go.Addr.add, ↓reduceIte] at hx305_0)
                                have qi305 : (2 < l0.length) = True := eq_true (by omega)
                                (try rw [show ((2 : Int)).toNat = 2 from rfl] at hx305_0)
                                replace hx305_0 := (HB.out.cell (World.block_lt_of_cell? w _ hx305_0)).trans hx305_0
                                replace p305 := eq_true p305
                                replace q305 := eq_true q305
                                try go_wp2
                                have n0_ := Aside0.mk (Kd.S_drew HO_4.out)
                                have n1_ := Aside0.mk (below_drew1 HB.out)
                                clear HO_4
                                clear HB
                                have HO_4 := n0_
                                have HB := n1_
                                clear n0_ n1_
                                have p310 : 0 ≤ (x5_1 : Int) := of_decide_eq_true (by first | (with_reducible assumption) | assumption)
                                have q310 : x5_1 < (l0.length : Int) := of_decide_eq_true (by first | (with_reducible assumption) | assumption)
                                obtain ⟨ad310, e310, hx310_0⟩ := Kd.at_int HR0.out x5_1 p310 q310
                                have hw310_0 := hx310_0
                                obtain rfl : ad305 = ad310 := (by injection e310)
                                replace hx310_0 := (HB.out.cell (World.block_lt_of_cell? w _ hx310_0)).trans hx310_0
                                replace p310 := eq_true p310
                                replace q310 := eq_true q310
                                have p311 : 0 ≤ ((ji8) : Int) := of_decide_eq_true (by first | (with_reducible assumption) | assumption)
                                have q311 : (ji8) < (l0.length : Int) := of_decide_eq_true (by first | (with_reducible assumption) | assumption)
                                obtain ⟨ad311, e311, hx311_0⟩ := Kd.at_int HR0.out (ji8) p311 q311
                                have hw311_0 := hx311_0
                                obtain rfl : ad305 = ad311 := (by injection e311)
                                replace hx311_0 := (HB.out.cell (World.block_lt_of_cell? w _ hx311_0)).trans hx311_0
                                replace p311 := eq_true p311
                                replace q311 := eq_true q311
                                refine start_ (n := 23) (S := fun w' => w'.cell? (ad305.add (x5_1).toNat) = some (.int .u8 (rd l0 x5_1)) ∧ w'.cell? (ad305.add ((ji8)).toNat) = some (.int .u8 (rd l0 (ji8)))) (ds := []) #[false, false, false, false, false, false, false, false, false, false, false, false, false, false, false, false, false, false, false, false, false, false, false] (by kernel_rfl) rfl rfl ⟨((HB.out.cell (World.block_lt_of_cell? w _ hw310_0)).trans hw310_0), ((HB.out.cell (World.block_lt_of_cell? w _ hw311_0)).trans hw311_0)⟩ (fun hHeld => ?_); refine with_tabW compositorref23_Read.tab10 compositorref23_Read.bits10 (fun HT_ HW_ => ?_)
                                generalize wr.drew = w20 at HO_4 HB hx310_0 hx311_0 hHeld ⊢
                                refine pure_ (i := 0) (N := some 28) (v := ?_) (a' := ?_) #[true, false, false, false, false, false, false, false, false, false, false, false, false, false, false, false, false, false, false, false, false, false, false] rfl rfl (any_of HT_.out (by kernel_rfl)) (fun _ _ _ h => h) (Or.inl ⟨by rfl, ?_⟩) ?_ ?_
                                rotate_left
                                · intro w'
                                  go_simp
                                  with_reducible rfl
                                rotate_left
                                · simp only [Act.put, List.setIfInBounds_toArray, List.set_cons_zero, List.set_cons_succ, i64_w, i32_w]
                                  rfl
                                refine pure_ (i := 1) (N := some 29) (v := ?_) (a' := ?_) #[true, true, false, false, false, false, false, false, false, false, false, false, false, false, false, false, false, false, false, false, false, false, false] rfl rfl (any_of HT_.out (by kernel_rfl)) (fun _ _ _ h => h) (Or.inl ⟨by rfl, ?_⟩) ?_ ?_
                                rotate_left
                                · intro w'
                                  go_simp
                                  with_reducible rfl
                                rotate_left
                                · simp only [Act.put, List.setIfInBounds_toArray, List.set_cons_zero, List.set_cons_succ, i64_w, i32_w]
                                  rfl
                                refine pure_ (i := 2) (N := some 30) (v := ?_) (a' := ?_) #[true, true, true, false, false, false, false, false, false, false, false, false, false, false, false, false, false, false, false, false, false, false, false] rfl rfl (any_of HT_.out (by kernel_rfl)) (fun _ _ _ h => h) (Or.inl ⟨by rfl, ?_⟩) ?_ ?_
                                rotate_left
                                · intro w'
                                  go_simp
                                  with_reducible rfl
                                rotate_left
                                · simp only [Act.put, List.setIfInBounds_toArray, List.set_cons_zero, List.set_cons_succ, i64_w, i32_w]
                                  rfl
                                refine pure_ (i := 6) (N := some 34) (v := ?_) (a' := ?_) #[true, true, true, false, false, false, true, false, false, false, false, false, false, false, false, false, false, false, false, false, false, false, false] rfl rfl (any_of HT_.out (by kernel_rfl)) (fun _ _ _ h => h) (Or.inl ⟨by rfl, ?_⟩) ?_ ?_
                                rotate_left
                                · intro w'
                                  go_simp
                                  with_reducible rfl
                                rotate_left
                                · simp only [Act.put, List.setIfInBounds_toArray, List.set_cons_zero, List.set_cons_succ, i64_w, i32_w]
                                  rfl
                                refine pure_ (i := 7) (N := some 35) (v := ?_) (a' := ?_) #[true, true, true, false, false, false, true, true, false, false, false, false, false, false, false, false, false, false, false, false, false, false, false] rfl rfl (any_of HT_.out (by kernel_rfl)) (fun _ _ _ h => h) (Or.inl ⟨by rfl, ?_⟩) ?_ ?_
                                rotate_left
                                · intro w'
                                  go_simp
                                  with_reducible rfl
                                rotate_left
                                · simp only [Act.put, List.setIfInBounds_toArray, List.set_cons_zero, List.set_cons_succ, i64_w, i32_w]
                                  rfl
                                refine pure_ (i := 8) (N := some 36) (v := ?_) (a' := ?_) #[true, true, true, false, false, false, true, true, true, false, false, false, false, false, false, false, false, false, false, false, false, false, false] rfl rfl (any_of HT_.out (by kernel_rfl)) (fun _ _ _ h => h) (Or.inl ⟨by rfl, ?_⟩) ?_ ?_
                                rotate_left
                                · intro w'
                                  go_simp
                                  with_reducible rfl
                                rotate_left
                                · simp only [Act.put, List.setIfInBounds_toArray, List.set_cons_zero, List.set_cons_succ, i64_w, i32_w]
                                  rfl
                                refine pure_ (i := 9) (N := some 37) (v := ?_) (a' := ?_) #[true, true, true, false, false, false, true, true, true, true, false, false, false, false, false, false, false, false, false, false, false, false, false] rfl rfl (any_of HT_.out (by kernel_rfl)) (fun _ _ _ h => h) (Or.inl ⟨by rfl, ?_⟩) ?_ ?_
                                rotate_left
                                · intro w'
                                  go_simp
                                  with_reducible rfl
                                rotate_left
                                · simp only [Act.put, List.setIfInBounds_toArray, List.set_cons_zero, List.set_cons_succ, i64_w, i32_w]
                                  rfl
                                refine pure_ (i := 12) (N := some 40) (v := ?_) (a' := ?_) #[true, true, true, false, false, false, true, true, true, true, false, false, true, false, false, false, false, false, false, false, false, false, false] rfl rfl (any_of HT_.out (by kernel_rfl)) (fun _ _ _ h => h) (Or.inl ⟨by rfl, ?_⟩) ?_ ?_
                                rotate_left
                                · intro w'
                                  go_simp
                                  with_reducible rfl
                                rotate_left
                                · simp only [Act.put, List.setIfInBounds_toArray, List.set_cons_zero, List.set_cons_succ, i64_w, i32_w]
                                  rfl
                                refine pure_ (i := 13) (N := some 41) (v := ?_) (a' := ?_) #[true, true, true, false, false, false, true, true, true, true, false, false, true, true, false, false, false, false, false, false, false, false, false] rfl rfl (any_of HT_.out (by kernel_rfl)) (fun _ _ _ h => h) (Or.inl ⟨by rfl, ?_⟩) ?_ ?_
                                rotate_left
                                · intro w'
                                  go_simp
                                  with_reducible rfl
                                rotate_left
                                · simp only [Act.put, List.setIfInBounds_toArray, List.set_cons_zero, List.set_cons_succ, i64_w, i32_w]
                                  rfl
                                refine pure_ (i := 14) (N := some 42) (v := ?_) (a' := ?_) #[true, true, true, false, false, false, true, true, true, true, false, false, true, true, true, false, false, false, false, false, false, false, false] rfl rfl (any_of HT_.out (by kernel_rfl)) (fun _ _ _ h => h) (Or.inl ⟨by rfl, ?_⟩) ?_ ?_
                                rotate_left
                                · intro w'
                                  go_simp
                                  with_reducible rfl
                                rotate_left
                                · simp only [Act.put, List.setIfInBounds_toArray, List.set_cons_zero, List.set_cons_succ, i64_w, i32_w]
                                  rfl
                                refine pure_ (i := 16) (N := some 44) (v := ?_) (a' := ?_) #[true, true, true, false, false, false, true, true, true, true, false, false, true, true, true, false, true, false, false, false, false, false, false] rfl rfl (any_of HT_.out (by kernel_rfl)) (fun _ _ _ h => h) (Or.inl ⟨by rfl, ?_⟩) ?_ ?_
                                rotate_left
                                · intro w'
                                  go_simp
                                  with_reducible rfl
                                rotate_left
                                · simp only [Act.put, List.setIfInBounds_toArray, List.set_cons_zero, List.set_cons_succ, i64_w, i32_w]
                                  rfl
                                refine pure_ (i := 17) (N := some 45) (v := ?_) (a' := ?_) #[true, true, true, false, false, false, true, true, true, true, false, false, true, true, true, false, true, true, false, false, false, false, false] rfl rfl (any_of HT_.out (by kernel_rfl)) (fun _ _ _ h => h) (Or.inl ⟨by rfl, ?_⟩) ?_ ?_
                                rotate_left
                                · intro w'
                                  go_simp
                                  with_reducible rfl
                                rotate_left
                                · simp only [Act.put, List.setIfInBounds_toArray, List.set_cons_zero, List.set_cons_succ, i64_w, i32_w]
                                  rfl
                                refine pure_ (i := 18) (N := some 46) (v := ?_) (a' := ?_) #[true, true, true, false, false, false, true, true, true, true, false, false, true, true, true, false, true, true, true, false, false, false, false] rfl rfl (any_of HT_.out (by kernel_rfl)) (fun _ _ _ h => h) (Or.inl ⟨by rfl, ?_⟩) ?_ ?_
                                rotate_left
                                · intro w'
                                  go_simp
                                  with_reducible rfl
                                rotate_left
                                · simp only [Act.put, List.setIfInBounds_toArray, List.set_cons_zero, List.set_cons_succ, i64_w, i32_w]
                                  rfl
                                refine take_ (i := 3) (N := some 31) (v := ?_) (a' := ?_) #[true, true, true, true, false, false, true, true, true, true, false, false, true, true, true, false, true, true, true, false, false, false, false] rfl rfl (take_ofW HT_.out HW_.out (by kernel_rfl)) (fun _ _ _ h => h) (Or.inl ⟨by rfl, ?_⟩) hHeld ?_ ?_
                                rotate_left
                                · rintro w' ⟨s0, s1⟩
                                  go_simp
                                  with_reducible rfl
                                rotate_left
                                · simp only [Act.put, List.setIfInBounds_toArray, List.set_cons_zero, List.set_cons_succ, i64_w, i32_w]
                                  rfl
                                refine pure_ (i := 4) (N := some 32) (v := ?_) (a' := ?_) #[true, true, true, true, true, false, true, true, true, true, false, false, true, true, true, false, true, true, true, false, false, false, false] rfl rfl (any_of HT_.out (by kernel_rfl)) (fun _ _ _ h => h) (Or.inl ⟨by rfl, ?_⟩) ?_ ?_
                                rotate_left
                                · intro w'
                                  go_simp
                                  with_reducible rfl
                                rotate_left
                                · simp only [Act.put, List.setIfInBounds_toArray, List.set_cons_zero, List.set_cons_succ, i64_w, i32_w]
                                  rfl
                                refine pure_ (i := 5) (N := some 33) (v := ?_) (a' := ?_) #[true, true, true, true, true, true, true, true, true, true, false, false, true, true, true, false, true, true, true, false, false, false, false] rfl rfl (any_of HT_.out (by kernel_rfl)) (fun _ _ _ h => h) (Or.inl ⟨by rfl, ?_⟩) ?_ ?_
                                rotate_left
                                · intro w'
                                  go_simp
                                  with_reducible rfl
                                rotate_left
                                · simp only [Act.put, List.setIfInBounds_toArray, List.set_cons_zero, List.set_cons_succ, i64_w, i32_w]
                                  rfl
                                refine take_ (i := 10) (N := some 38) (v := ?_) (a' := ?_) #[true, true, true, true, true, true, true, true, true, true, true, false, true, true, true, false, true, true, true, false, false, false, false] rfl rfl (take_ofW HT_.out HW_.out (by kernel_rfl)) (fun _ _ _ h => h) (Or.inl ⟨by rfl, ?_⟩) hHeld ?_ ?_
                                rotate_left
                                · rintro w' ⟨s0, s1⟩
                                  go_simp
                                  with_reducible rfl
                                rotate_left
                                · simp only [Act.put, List.setIfInBounds_toArray, List.set_cons_zero, List.set_cons_succ, i64_w, i32_w]
                                  rfl
                                refine pure_ (i := 11) (N := some 39) (v := ?_) (a' := ?_) #[true, true, true, true, true, true, true, true, true, true, true, true, true, true, true, false, true, true, true, false, false, false, false] rfl rfl (any_of HT_.out (by kernel_rfl)) (fun _ _ _ h => h) (Or.inl ⟨by rfl, ?_⟩) ?_ ?_
                                rotate_left
                                · intro w'
                                  go_simp
                                  with_reducible rfl
                                rotate_left
                                · simp only [Act.put, List.setIfInBounds_toArray, List.set_cons_zero, List.set_cons_succ, i64_w, i32_w]
                                  rfl
                                refine join_ (σ := Nat) 1 #[true, true, true, true, true, true, true, true, true, true, true, true, true, true, true, true, true, true, true, true, true, true, false] (fun s_ => [(43, .int .i64 t312), (47, .int .i64 t313), (7, .pointer (some ⟨s_, 0, none⟩)), (48, .agg #[.int .i64 (wrap64 ((wrap64 (rd l0 x5_1)) - 8)), .int .i64 (wrap64 (rd l0 (ji8))), .int .i64 t312, .int .i64 t313, .slice none 0 0])]) (fun s_ w' => (w'.cell? (ad305.add (x5_1).toNat) = some (.int .u8 (rd l0 x5_1)) ∧ w'.cell? (ad305.add ((ji8)).toNat) = some (.int .u8 (rd l0 (ji8)))) ∧ (Kd.S k41 41 w' w.heap.size (fun k_ => k_ ≠ s_) u4 x4_1) ∧ (w'.heap[s_]? = some (.cells #[.int .i64 0, .int .i64 0, .int .i64 0, .int .i64 0, .slice none 0 0] 41 (0, 0))) ∧ (w.heap.size ≤ s_) ∧ (w.heap.size ≤ s_) ∧ (Below w.heap.size w w')) ?_ ?_
                                rotate_left
                                · intro hCont
                                  refine two_ (i := 15) (j := 21) (Ni := some 43) (Nj := some 7) #[true, true, true, true, true, true, true, true, true, true, true, true, true, true, true, true, true, true, true, false, false, false, false] #[true, true, true, true, true, true, true, true, true, true, true, true, true, true, true, false, true, true, true, false, false, true, false] rfl rfl rfl rfl (two_of HT_.out (by kernel_rfl)) (by decide) (by decide) (fun K hK => ?_) (fun K hK => ?_)
                                  · skip
                                    refine goes_ Try.func34 (by kernel_rfl) rfl #[.slice (some ad305) l0.length c0, .int .i64 (wrap64 (x5_1 + 2))] (by rfl) rfl rfl (by (try simp only [List.map_toArray, List.map_cons, List.map_nil]); first | done | rfl | (simp only [List.length_drop, List.length_take]; rfl)) ?_
                                    with_reducible refine (compositorref23_fix.calls k1 _ _ l0 (wrap64 (x5_1 + 2)) t312 _ ?side1 ?side2 A11.out).mono ?_
                                    (case side1 => repeat (first | exact (Kd.C_below HR0.out HB.out) | (with_reducible refine Kd.C_alloc ?_ _) | (with_reducible refine Kd.C_drewN ?_ _) | (with_reducible refine Kd.C_drew ?_)))
                                    (case side2 => exact HC0.out)
                                    rintro e w21 ⟨rfl, hb⟩
                                    refine ⟨_, rfl, ?_⟩
                                    have n0_ := Aside0.mk (Kd.S_below (by (with_reducible repeat (first | apply Kd.S_alloc | apply Kd.S_drewN | apply Kd.S_drew)); exact HO_4.out) hb)
                                    have n1_ := Aside0.mk (below_step (by repeat (first | (with_reducible first | exact HB.out | apply below_alloc | apply pw_below_drewN | apply below_drew1) | exact HB.out)) hb)
                                    clear HO_4
                                    clear HB
                                    have HO_4 := n0_
                                    have HB := n1_
                                    clear n0_ n1_
                                    (try clear hb)
                                    (try clear hb2)
                                    (try clear hk)
                                    (try clear hi)
                                    refine hK.out _ _ ⟨((HB.out.cell (World.block_lt_of_cell? w _ hw310_0)).trans hw310_0), ((HB.out.cell (World.block_lt_of_cell? w _ hw311_0)).trans hw311_0)⟩ (fun hHeld => ?_)
                                    clear hK K
                                    refine norm_ (a' := ?_) ?_ ?_
                                    rotate_left
                                    · show Act.put _ (some 43) _ = _
                                      simp only [Act.put, List.setIfInBounds_toArray, List.set_cons_zero, List.set_cons_succ, i64_w, i32_w]
                                      rfl
                                    refine two_ (i := 19) (j := 21) (Ni := some 47) (Nj := some 7) #[true, true, true, true, true, true, true, true, true, true, true, true, true, true, true, true, true, true, true, true, false, false, false] #[true, true, true, true, true, true, true, true, true, true, true, true, true, true, true, true, true, true, true, false, false, true, false] rfl rfl rfl rfl (two_of HT_.out (by kernel_rfl)) (by decide) (by decide) (fun K hK => ?_) (fun K hK => ?_)
                                    · skip
                                      refine goes_ Try.func34 (by kernel_rfl) rfl #[.slice (some ad305) l0.length c0, .int .i64 (wrap64 (x5_1 + 6))] (by rfl) rfl rfl (by (try simp only [List.map_toArray, List.map_cons, List.map_nil]); first | done | rfl | (simp only [List.length_drop, List.length_take]; rfl)) ?_
                                      with_reducible refine (compositorref23_fix.calls k1 _ _ l0 (wrap64 (x5_1 + 6)) t313 _ ?side1 ?side2 A12.out).mono ?_
                                      (case side1 => repeat (first | exact (Kd.C_below HR0.out HB.out) | (with_reducible refine Kd.C_alloc ?_ _) | (with_reducible refine Kd.C_drewN ?_ _) | (with_reducible refine Kd.C_drew ?_)))
                                      (case side2 => exact HC0.out)
                                      rintro e w22 ⟨rfl, hb⟩
                                      refine ⟨_, rfl, ?_⟩
                                      have n0_ := Aside0.mk (Kd.S_below (by (with_reducible repeat (first | apply Kd.S_alloc | apply Kd.S_drewN | apply Kd.S_drew)); exact HO_4.out) hb)
                                      have n1_ := Aside0.mk (below_step (by repeat (first | (with_reducible first | exact HB.out | apply below_alloc | apply pw_below_drewN | apply below_drew1) | exact HB.out)) hb)
                                      clear HO_4
                                      clear HB
                                      have HO_4 := n0_
                                      have HB := n1_
                                      clear n0_ n1_
                                      (try clear hb)
                                      (try clear hb2)
                                      (try clear hk)
                                      (try clear hi)
                                      refine hK.out _ _ ⟨((HB.out.cell (World.block_lt_of_cell? w _ hw310_0)).trans hw310_0), ((HB.out.cell (World.block_lt_of_cell? w _ hw311_0)).trans hw311_0)⟩ (fun hHeld => ?_)
                                      clear hK K
                                      refine norm_ (a' := ?_) ?_ ?_
                                      rotate_left
                                      · show Act.put _ (some 47) _ = _
                                        simp only [Act.put, List.setIfInBounds_toArray, List.set_cons_zero, List.set_cons_succ, i64_w, i32_w]
                                        rfl
                                      refine pure_ (i := 20) (N := some 48) (v := ?_) (a' := ?_) #[true, true, true, true, true, true, true, true, true, true, true, true, true, true, true, true, true, true, true, true, true, false, false] rfl rfl (any_of HT_.out (by kernel_rfl)) (fun _ _ _ h => h) (Or.inl ⟨by rfl, ?_⟩) ?_ ?_
                                      rotate_left
                                      · intro w'
                                        go_simp
                                        with_reducible rfl
                                      rotate_left
                                      · simp only [Act.put, List.setIfInBounds_toArray, List.set_cons_zero, List.set_cons_succ, i64_w, i32_w]
                                        rfl
                                      refine one_ (i := 21) (N := some 7) #[true, true, true, true, true, true, true, true, true, true, true, true, true, true, true, true, true, true, true, true, true, true, false] rfl rfl (one_of HT_.out (by kernel_rfl)) (by decide) (fun K hK => ?_)
                                      refine box_step ?hg (N := 7) ?hd (cs := #[.int .i64 0, .int .i64 0, .int .i64 0, .int .i64 0, .slice none 0 0]) (t := 41) ?hr ?_; (case hd => rfl); (case hg => rfl); (case hr => first | (go_simp; done) | (go_simp; rfl))
                                      intro gb314 hg w23 hbox hb
                                      have n0_ := Aside0.mk (Kd.S_below (Kd.S_elderB (by (with_reducible repeat (first | apply Kd.S_alloc | apply Kd.S_drewN | apply Kd.S_drew)); exact HO_4.out) gb314 (Nat.le_of_eq hg.symm)) hb)
                                      have n1_ := Aside0.mk (below_step (by repeat (first | (with_reducible first | exact HB.out | apply below_alloc | apply pw_below_drewN | apply below_drew1) | exact HB.out)) hb)
                                      have n2_ := Aside0.mk (hbox)
                                      have n3_ := Aside0.mk ((by rw [hg]; exact (below_size (by repeat (first | (with_reducible first | exact HB.out | apply below_alloc | apply pw_below_drewN | apply below_drew1) | exact HB.out))) : w.heap.size ≤ gb314))
                                      have n4_ := Aside0.mk ((by rw [hg]; exact (below_size (by repeat (first | (with_reducible first | exact HB.out | apply below_alloc | apply pw_below_drewN | apply below_drew1) | exact HB.out))) : w.heap.size ≤ gb314))
                                      clear HO_4
                                      clear HB
                                      have HO_4 := n0_
                                      have HB := n1_
                                      have BK314 := n2_
                                      have GW314 := n3_
                                      have GE314 := n4_
                                      clear n0_ n1_ n2_ n3_ n4_
                                      clear hb hbox hg
                                      refine hK.out _ _ ⟨((HB.out.cell (World.block_lt_of_cell? w _ hw310_0)).trans hw310_0), ((HB.out.cell (World.block_lt_of_cell? w _ hw311_0)).trans hw311_0)⟩ (fun hHeld => ?_)
                                      clear hK K
                                      refine norm_ (a' := ?_) ?_ ?_
                                      rotate_left
                                      · show Act.put _ (some 7) _ = _
                                        simp only [Act.put, List.setIfInBounds_toArray, List.set_cons_zero, List.set_cons_succ, i64_w, i32_w]
                                        rfl
                                      exact norm_ (by simp only [putAll, Act.put, List.setIfInBounds_toArray, List.set_cons_zero, List.set_cons_succ]) (hCont (gb314) _ ⟨hHeld, (by (with_reducible repeat (first | apply Kd.S_alloc | apply Kd.S_drewN | apply Kd.S_drew)); exact Kd.S_mono HO_4.out (fun _ hk => hk.2)), (by (with_reducible repeat (first | refine blk_drewN ?_ _ | refine blk_drew ?_ | refine blk_alloc ?_ _)); exact BK314.out), GW314.out, GE314.out, (by repeat (first | (with_reducible first | exact HB.out | apply below_alloc | apply pw_below_drewN | apply below_drew1 | refine below_set ?_ GE314.out) | exact HB.out))⟩)
                                    · skip
                                      refine box_step ?hg (N := 7) ?hd (cs := #[.int .i64 0, .int .i64 0, .int .i64 0, .int .i64 0, .slice none 0 0]) (t := 41) ?hr ?_; (case hd => rfl); (case hg => rfl); (case hr => first | (go_simp; done) | (go_simp; rfl))
                                      intro gb314 hg w22 hbox hb
                                      have n0_ := Aside0.mk (Kd.S_below (Kd.S_elderB (by (with_reducible repeat (first | apply Kd.S_alloc | apply Kd.S_drewN | apply Kd.S_drew)); exact HO_4.out) gb314 (Nat.le_of_eq hg.symm)) hb)
                                      have n1_ := Aside0.mk (below_step (by repeat (first | (with_reducible first | exact HB.out | apply below_alloc | apply pw_below_drewN | apply below_drew1) | exact HB.out)) hb)
                                      have n2_ := Aside0.mk (hbox)
                                      have n3_ := Aside0.mk ((by rw [hg]; exact (below_size (by repeat (first | (with_reducible first | exact HB.out | apply below_alloc | apply pw_below_drewN | apply below_drew1) | exact HB.out))) : w.heap.size ≤ gb314))
                                      have n4_ := Aside0.mk ((by rw [hg]; exact (below_size (by repeat (first | (with_reducible first | exact HB.out | apply below_alloc | apply pw_below_drewN | apply below_drew1) | exact HB.out))) : w.heap.size ≤ gb314))
                                      clear HO_4
                                      clear HB
                                      have HO_4 := n0_
                                      have HB := n1_
                                      have BK314 := n2_
                                      have GW314 := n3_
                                      have GE314 := n4_
                                      clear n0_ n1_ n2_ n3_ n4_
                                      clear hb hbox hg
                                      refine hK.out _ _ ⟨((HB.out.cell (World.block_lt_of_cell? w _ hw310_0)).trans hw310_0), ((HB.out.cell (World.block_lt_of_cell? w _ hw311_0)).trans hw311_0)⟩ (fun hHeld => ?_)
                                      clear hK K
                                      refine norm_ (a' := ?_) ?_ ?_
                                      rotate_left
                                      · show Act.put _ (some 7) _ = _
                                        simp only [Act.put, List.setIfInBounds_toArray, List.set_cons_zero, List.set_cons_succ, i64_w, i32_w]
                                        rfl
                                      refine one_ (i := 19) (N := some 47) #[true, true, true, true, true, true, true, true, true, true, true, true, true, true, true, true, true, true, true, true, false, true, false] rfl rfl (one_of HT_.out (by kernel_rfl)) (by decide) (fun K hK => ?_)
                                      refine goes_ Try.func34 (by kernel_rfl) rfl #[.slice (some ad305) l0.length c0, .int .i64 (wrap64 (x5_1 + 6))] (by rfl) rfl rfl (by (try simp only [List.map_toArray, List.map_cons, List.map_nil]); first | done | rfl | (simp only [List.length_drop, List.length_take]; rfl)) ?_
                                      with_reducible refine (compositorref23_fix.calls k1 _ _ l0 (wrap64 (x5_1 + 6)) t313 _ ?side1 ?side2 A12.out).mono ?_
                                      (case side1 => repeat (first | exact (Kd.C_below HR0.out HB.out) | (with_reducible refine Kd.C_alloc ?_ _) | (with_reducible refine Kd.C_drewN ?_ _) | (with_reducible refine Kd.C_drew ?_)))
                                      (case side2 => exact HC0.out)
                                      rintro e w23 ⟨rfl, hb⟩
                                      refine ⟨_, rfl, ?_⟩
                                      have n0_ := Aside0.mk (Kd.S_below (by (with_reducible repeat (first | apply Kd.S_alloc | apply Kd.S_drewN | apply Kd.S_drew)); exact HO_4.out) hb)
                                      have n1_ := Aside0.mk (blk_below (g := gb314) (o := .cells #[.int .i64 0, .int .i64 0, .int .i64 0, .int .i64 0, .slice none 0 0] 41 (0, 0)) (by (with_reducible repeat (first | refine blk_drewN ?_ _ | refine blk_drew ?_ | refine blk_alloc ?_ _)); exact BK314.out) hb)
                                      have n2_ := Aside0.mk (below_step (by repeat (first | (with_reducible first | exact HB.out | apply below_alloc | apply pw_below_drewN | apply below_drew1 | refine below_set ?_ GE314.out) | exact HB.out)) hb)
                                      clear HO_4
                                      clear BK314
                                      clear HB
                                      have HO_4 := n0_
                                      have BK314 := n1_
                                      have HB := n2_
                                      clear n0_ n1_ n2_
                                      (try clear hb)
                                      (try clear hb2)
                                      (try clear hk)
                                      (try clear hi)
                                      refine hK.out _ _ ⟨((HB.out.cell (World.block_lt_of_cell? w _ hw310_0)).trans hw310_0), ((HB.out.cell (World.block_lt_of_cell? w _ hw311_0)).trans hw311_0)⟩ (fun hHeld => ?_)
                                      clear hK K
                                      refine norm_ (a' := ?_) ?_ ?_
                                      rotate_left
                                      · show Act.put _ (some 47) _ = _
                                        simp only [Act.put, List.setIfInBounds_toArray, List.set_cons_zero, List.set_cons_succ, i64_w, i32_w]
                                        rfl
                                      refine pure_ (i := 20) (N := some 48) (v := ?_) (a' := ?_) #[true, true, true, true, true, true, true, true, true, true, true, true, true, true, true, true, true, true, true, true, true, true, false] rfl rfl (any_of HT_.out (by kernel_rfl)) (fun _ _ _ h => h) (Or.inl ⟨by rfl, ?_⟩) ?_ ?_
                                      rotate_left
                                      · intro w'
                                        go_simp
                                        with_reducible rfl
                                      rotate_left
                                      · simp only [Act.put, List.setIfInBounds_toArray, List.set_cons_zero, List.set_cons_succ, i64_w, i32_w]
                                        rfl
                                      exact norm_ (by simp only [putAll, Act.put, List.setIfInBounds_toArray, List.set_cons_zero, List.set_cons_succ]) (hCont (gb314) _ ⟨hHeld, (by (with_reducible repeat (first | apply Kd.S_alloc | apply Kd.S_drewN | apply Kd.S_drew)); exact Kd.S_mono HO_4.out (fun _ hk => hk.2)), (by (with_reducible repeat (first | refine blk_drewN ?_ _ | refine blk_drew ?_ | refine blk_alloc ?_ _)); exact BK314.out), GW314.out, GE314.out, (by repeat (first | (with_reducible first | exact HB.out | apply below_alloc | apply pw_below_drewN | apply below_drew1 | refine below_set ?_ GE314.out) | exact HB.out))⟩)
                                  · skip
                                    refine box_step ?hg (N := 7) ?hd (cs := #[.int .i64 0, .int .i64 0, .int .i64 0, .int .i64 0, .slice none 0 0]) (t := 41) ?hr ?_; (case hd => rfl); (case hg => rfl); (case hr => first | (go_simp; done) | (go_simp; rfl))
                                    intro gb314 hg w21 hbox hb
                                    have n0_ := Aside0.mk (Kd.S_below (Kd.S_elderB (by (with_reducible repeat (first | apply Kd.S_alloc | apply Kd.S_drewN | apply Kd.S_drew)); exact HO_4.out) gb314 (Nat.le_of_eq hg.symm)) hb)
                                    have n1_ := Aside0.mk (below_step (by repeat (first | (with_reducible first | exact HB.out | apply below_alloc | apply pw_below_drewN | apply below_drew1) | exact HB.out)) hb)
                                    have n2_ := Aside0.mk (hbox)
                                    have n3_ := Aside0.mk ((by rw [hg]; exact (below_size (by repeat (first | (with_reducible first | exact HB.out | apply below_alloc | apply pw_below_drewN | apply below_drew1) | exact HB.out))) : w.heap.size ≤ gb314))
                                    have n4_ := Aside0.mk ((by rw [hg]; exact (below_size (by repeat (first | (with_reducible first | exact HB.out | apply below_alloc | apply pw_below_drewN | apply below_drew1) | exact HB.out))) : w.heap.size ≤ gb314))
                                    clear HO_4
                                    clear HB
                                    have HO_4 := n0_
                                    have HB := n1_
                                    have BK314 := n2_
                                    have GW314 := n3_
                                    have GE314 := n4_
                                    clear n0_ n1_ n2_ n3_ n4_
                                    clear hb hbox hg
                                    refine hK.out _ _ ⟨((HB.out.cell (World.block_lt_of_cell? w _ hw310_0)).trans hw310_0), ((HB.out.cell (World.block_lt_of_cell? w _ hw311_0)).trans hw311_0)⟩ (fun hHeld => ?_)
                                    clear hK K
                                    refine norm_ (a' := ?_) ?_ ?_
                                    rotate_left
                                    · show Act.put _ (some 7) _ = _
                                      simp only [Act.put, List.setIfInBounds_toArray, List.set_cons_zero, List.set_cons_succ, i64_w, i32_w]
                                      rfl
                                    refine one_ (i := 15) (N := some 43) #[true, true, true, true, true, true, true, true, true, true, true, true, true, true, true, true, true, true, true, false, false, true, false] rfl rfl (one_of HT_.out (by kernel_rfl)) (by decide) (fun K hK => ?_)
                                    refine goes_ Try.func34 (by kernel_rfl) rfl #[.slice (some ad305) l0.length c0, .int .i64 (wrap64 (x5_1 + 2))] (by rfl) rfl rfl (by (try simp only [List.map_toArray, List.map_cons, List.map_nil]); first | done | rfl | (simp only [List.length_drop, List.length_take]; rfl)) ?_
                                    with_reducible refine (compositorref23_fix.calls k1 _ _ l0 (wrap64 (x5_1 + 2)) t312 _ ?side1 ?side2 A11.out).mono ?_
                                    (case side1 => repeat (first | exact (Kd.C_below HR0.out HB.out) | (with_reducible refine Kd.C_alloc ?_ _) | (with_reducible refine Kd.C_drewN ?_ _) | (with_reducible refine Kd.C_drew ?_)))
                                    (case side2 => exact HC0.out)
                                    rintro e w22 ⟨rfl, hb⟩
                                    refine ⟨_, rfl, ?_⟩
                                    have n0_ := Aside0.mk (Kd.S_below (by (with_reducible repeat (first | apply Kd.S_alloc | apply Kd.S_drewN | apply Kd.S_drew)); exact HO_4.out) hb)
                                    have n1_ := Aside0.mk (blk_below (g := gb314) (o := .cells #[.int .i64 0, .int .i64 0, .int .i64 0, .int .i64 0, .slice none 0 0] 41 (0, 0)) (by (with_reducible repeat (first | refine blk_drewN ?_ _ | refine blk_drew ?_ | refine blk_alloc ?_ _)); exact BK314.out) hb)
                                    have n2_ := Aside0.mk (below_step (by repeat (first | (with_reducible first | exact HB.out | apply below_alloc | apply pw_below_drewN | apply below_drew1 | refine below_set ?_ GE314.out) | exact HB.out)) hb)
                                    clear HO_4
                                    clear BK314
                                    clear HB
                                    have HO_4 := n0_
                                    have BK314 := n1_
                                    have HB := n2_
                                    clear n0_ n1_ n2_
                                    (try clear hb)
                                    (try clear hb2)
                                    (try clear hk)
                                    (try clear hi)
                                    refine hK.out _ _ ⟨((HB.out.cell (World.block_lt_of_cell? w _ hw310_0)).trans hw310_0), ((HB.out.cell (World.block_lt_of_cell? w _ hw311_0)).trans hw311_0)⟩ (fun hHeld => ?_)
                                    clear hK K
                                    refine norm_ (a' := ?_) ?_ ?_
                                    rotate_left
                                    · show Act.put _ (some 43) _ = _
                                      simp only [Act.put, List.setIfInBounds_toArray, List.set_cons_zero, List.set_cons_succ, i64_w, i32_w]
                                      rfl
                                    refine one_ (i := 19) (N := some 47) #[true, true, true, true, true, true, true, true, true, true, true, true, true, true, true, true, true, true, true, true, false, true, false] rfl rfl (one_of HT_.out (by kernel_rfl)) (by decide) (fun K hK => ?_)
                                    refine goes_ Try.func34 (by kernel_rfl) rfl #[.slice (some ad305) l0.length c0, .int .i64 (wrap64 (x5_1 + 6))] (by rfl) rfl rfl (by (try simp only [List.map_toArray, List.map_cons, List.map_nil]); first | done | rfl | (simp only [List.length_drop, List.length_take]; rfl)) ?_
                                    with_reducible refine (compositorref23_fix.calls k1 _ _ l0 (wrap64 (x5_1 + 6)) t313 _ ?side1 ?side2 A12.out).mono ?_
                                    (case side1 => repeat (first | exact (Kd.C_below HR0.out HB.out) | (with_reducible refine Kd.C_alloc ?_ _) | (with_reducible refine Kd.C_drewN ?_ _) | (with_reducible refine Kd.C_drew ?_)))
                                    (case side2 => exact HC0.out)
                                    rintro e w23 ⟨rfl, hb⟩
                                    refine ⟨_, rfl, ?_⟩
                                    have n0_ := Aside0.mk (Kd.S_below (by (with_reducible repeat (first | apply Kd.S_alloc | apply Kd.S_drewN | apply Kd.S_drew)); exact HO_4.out) hb)
                                    have n1_ := Aside0.mk (blk_below (g := gb314) (o := .cells #[.int .i64 0, .int .i64 0, .int .i64 0, .int .i64 0, .slice none 0 0] 41 (0, 0)) (by (with_reducible repeat (first | refine blk_drewN ?_ _ | refine blk_drew ?_ | refine blk_alloc ?_ _)); exact BK314.out) hb)
                                    have n2_ := Aside0.mk (below_step (by repeat (first | (with_reducible first | exact HB.out | apply below_alloc | apply pw_below_drewN | apply below_drew1 | refine below_set ?_ GE314.out) | exact HB.out)) hb)
                                    clear HO_4
                                    clear BK314
                                    clear HB
                                    have HO_4 := n0_
                                    have BK314 := n1_
                                    have HB := n2_
                                    clear n0_ n1_ n2_
                                    (try clear hb)
                                    (try clear hb2)
                                    (try clear hk)
                                    (try clear hi)
                                    refine hK.out _ _ ⟨((HB.out.cell (World.block_lt_of_cell? w _ hw310_0)).trans hw310_0), ((HB.out.cell (World.block_lt_of_cell? w _ hw311_0)).trans hw311_0)⟩ (fun hHeld => ?_)
                                    clear hK K
                                    refine norm_ (a' := ?_) ?_ ?_
                                    rotate_left
                                    · show Act.put _ (some 47) _ = _
                                      simp only [Act.put, List.setIfInBounds_toArray, List.set_cons_zero, List.set_cons_succ, i64_w, i32_w]
                                      rfl
                                    refine pure_ (i := 20) (N := some 48) (v := ?_) (a' := ?_) #[true, true, true, true, true, true, true, true, true, true, true, true, true, true, true, true, true, true, true, true, true, true, false] rfl rfl (any_of HT_.out (by kernel_rfl)) (fun _ _ _ h => h) (Or.inl ⟨by rfl, ?_⟩) ?_ ?_
                                    rotate_left
                                    · intro w'
                                      go_simp
                                      with_reducible rfl
                                    rotate_left
                                    · simp only [Act.put, List.setIfInBounds_toArray, List.set_cons_zero, List.set_cons_succ, i64_w, i32_w]
                                      rfl
                                    exact norm_ (by simp only [putAll, Act.put, List.setIfInBounds_toArray, List.set_cons_zero, List.set_cons_succ]) (hCont (gb314) _ ⟨hHeld, (by (with_reducible repeat (first | apply Kd.S_alloc | apply Kd.S_drewN | apply Kd.S_drew)); exact Kd.S_mono HO_4.out (fun _ hk => hk.2)), (by (with_reducible repeat (first | refine blk_drewN ?_ _ | refine blk_drew ?_ | refine blk_alloc ?_ _)); exact BK314.out), GW314.out, GE314.out, (by repeat (first | (with_reducible first | exact HB.out | apply below_alloc | apply pw_below_drewN | apply below_drew1 | refine below_set ?_ GE314.out) | exact HB.out))⟩)
                                rintro gb314 w24 ⟨hS_, h0_, h1_, h2_, h3_, h4_⟩
                                have n0_ : Aside0 (Kd.S k41 41 w24 w.heap.size (fun k_ => k_ ≠ gb314) u4 x4_1) := ⟨h0_⟩
                                have n1_ : Aside0 (w24.heap[gb314]? = some (.cells #[.int .i64 0, .int .i64 0, .int .i64 0, .int .i64 0, .slice none 0 0] 41 (0, 0))) := ⟨h1_⟩
                                have n2_ : Aside0 (w.heap.size ≤ gb314) := ⟨h2_⟩
                                have n3_ : Aside0 (w.heap.size ≤ gb314) := ⟨h3_⟩
                                have n4_ : Aside0 (Below w.heap.size w w24) := ⟨h4_⟩
                                clear HO_4
                                clear HB
                                clear h0_ h1_ h2_ h3_ h4_
                                have HO_4 := n0_
                                have BK314 := n1_
                                have GW314 := n2_
                                have GE314 := n3_
                                have HB := n4_
                                clear n0_ n1_ n2_ n3_ n4_
                                have hHeld : w24.cell? (ad305.add (x5_1).toNat) = some (.int .u8 (rd l0 x5_1)) ∧ w24.cell? (ad305.add ((ji8)).toNat) = some (.int .u8 (rd l0 (ji8))) := hS_
                                refine norm_ (a' := ?_) ?_ ?_
                                rotate_left
                                · simp only [putAll, Act.put, List.setIfInBounds_toArray, List.set_cons_zero, List.set_cons_succ]
                                  rfl
                                refine one_ (i := 22) (N := none) #[true, true, true, true, true, true, true, true, true, true, true, true, true, true, true, true, true, true, true, true, true, true, true] rfl rfl (one_of HT_.out (by kernel_rfl)) (by decide) (fun K hK => ?_)
                                have hs25 : w24.cell? ⟨gb314, 0, none⟩ = some (.int .i64 0) := (blk_cell BK314.out 0).trans rfl
                                have hfs25 := blk_frozen BK314.out 0
                                have hs26 : w24.cell? ⟨gb314, 1, none⟩ = some (.int .i64 0) := (blk_cell BK314.out 1).trans rfl
                                have hfs26 := blk_frozen BK314.out 1
                                have hs27 : w24.cell? ⟨gb314, 2, none⟩ = some (.int .i64 0) := (blk_cell BK314.out 2).trans rfl
                                have hfs27 := blk_frozen BK314.out 2
                                have hs28 : w24.cell? ⟨gb314, 3, none⟩ = some (.int .i64 0) := (blk_cell BK314.out 3).trans rfl
                                have hfs28 := blk_frozen BK314.out 3
                                have hs29 : w24.cell? ⟨gb314, 4, none⟩ = some (.slice none 0 0) := (blk_cell BK314.out 4).trans rfl
                                have hfs29 := blk_frozen BK314.out 4
                                refine skip_ (w1 := ?_) (by rfl) rfl ?_ ?_
                                rotate_left
                                · go_simp
                                  rfl
                                refine hK.out _ _ ⟨((cell_far (p := ⟨gb314, _, none⟩) (by first | exact Nat.ne_of_lt (Nat.lt_of_lt_of_le (by have := World.block_lt_of_cell? _ _ hw310_0; first | rwa [add_block] at this | exact this) GW314.out) | (rw [add_block]; exact Nat.ne_of_lt (Nat.lt_of_lt_of_le (by have := World.block_lt_of_cell? _ _ hw310_0; first | rwa [add_block] at this | exact this) GW314.out)) | (show (Addr.add _ _).block ≠ _; rw [add_block]; exact Nat.ne_of_lt (Nat.lt_of_lt_of_le (by have := World.block_lt_of_cell? _ _ hw310_0; first | rwa [add_block] at this | exact this) GW314.out)) | (dsimp only; exact Nat.ne_of_lt (Nat.lt_of_lt_of_le (by have := World.block_lt_of_cell? _ _ hw310_0; first | rwa [add_block] at this | exact this) GW314.out))) _).trans (((cell_far (p := ⟨gb314, _, none⟩) (by first | exact Nat.ne_of_lt (Nat.lt_of_lt_of_le (by have := World.block_lt_of_cell? _ _ hw310_0; first | rwa [add_block] at this | exact this) GW314.out) | (rw [add_block]; exact Nat.ne_of_lt (Nat.lt_of_lt_of_le (by have := World.block_lt_of_cell? _ _ hw310_0; first | rwa [add_block] at this | exact this) GW314.out)) | (show (Addr.add _ _).block ≠ _; rw [add_block]; exact Nat.ne_of_lt (Nat.lt_of_lt_of_le (by have := World.block_lt_of_cell? _ _ hw310_0; first | rwa [add_block] at this | exact this) GW314.out)) | (dsimp only; exact Nat.ne_of_lt (Nat.lt_of_lt_of_le (by have := World.block_lt_of_cell? _ _ hw310_0; first | rwa [add_block] at this | exact this) GW314.out))) _).trans (((cell_far (p := ⟨gb314, _, none⟩) (by first | exact Nat.ne_of_lt (Nat.lt_of_lt_of_le (by have := World.block_lt_of_cell? _ _ hw310_0; first | rwa [add_block] at this | exact this) GW314.out) | (rw [add_block]; exact Nat.ne_of_lt (Nat.lt_of_lt_of_le (by have := World.block_lt_of_cell? _ _ hw310_0; first | rwa [add_block] at this | exact this) GW314.out)) | (show (Addr.add _ _).block ≠ _; rw [add_block]; exact Nat.ne_of_lt (Nat.lt_of_lt_of_le (by have := World.block_lt_of_cell? _ _ hw310_0; first | rwa [add_block] at this | exact this) GW314.out)) | (dsimp only; exact Nat.ne_of_lt (Nat.lt_of_lt_of_le (by have := World.block_lt_of_cell? _ _ hw310_0; first | rwa [add_block] at this | exact this) GW314.out))) _).trans (((cell_far (p := ⟨gb314, _, none⟩) (by first | exact Nat.ne_of_lt (Nat.lt_of_lt_of_le (by have := World.block_lt_of_cell? _ _ hw310_0; first | rwa [add_block] at this | exact this) GW314.out) | (rw [add_block]; exact Nat.ne_of_lt (Nat.lt_of_lt_of_le (by have := World.block_lt_of_cell? _ _ hw310_0; first | rwa [add_block] at this | exact this) GW314.out)) | (show (Addr.add _ _).block ≠ _; rw [add_block]; exact Nat.ne_of_lt (Nat.lt_of_lt_of_le (by have := World.block_lt_of_cell? _ _ hw310_0; first | rwa [add_block] at this | exact this) GW314.out)) | (dsimp only; exact Nat.ne_of_lt (Nat.lt_of_lt_of_le (by have := World.block_lt_of_cell? _ _ hw310_0; first | rwa [add_block] at this | exact this) GW314.out))) _).trans (((cell_far (p := ⟨gb314, _, none⟩) (by first | exact Nat.ne_of_lt (Nat.lt_of_lt_of_le (by have := World.block_lt_of_cell? _ _ hw310_0; first | rwa [add_block] at this | exact this) GW314.out) | (rw [add_block]; exact Nat.ne_of_lt (Nat.lt_of_lt_of_le (by have := World.block_lt_of_cell? _ _ hw310_0; first | rwa [add_block] at this | exact this) GW314.out)) | (show (Addr.add _ _).block ≠ _; rw [add_block]; exact Nat.ne_of_lt (Nat.lt_of_lt_of_le (by have := World.block_lt_of_cell? _ _ hw310_0; first | rwa [add_block] at this | exact this) GW314.out)) | (dsimp only; exact Nat.ne_of_lt (Nat.lt_of_lt_of_le (by have := World.block_lt_of_cell? _ _ hw310_0; first | rwa [add_block] at this | exact this) GW314.out))) _).trans (hHeld.1)))))))))), ((cell_far (p := ⟨gb314, _, none⟩) (by first | exact Nat.ne_of_lt (Nat.lt_of_lt_of_le (by have := World.block_lt_of_cell? _ _ hw311_0; first | rwa [add_block] at this | exact this) GW314.out) | (rw [add_block]; exact Nat.ne_of_lt (Nat.lt_of_lt_of_le (by have := World.block_lt_of_cell? _ _ hw311_0; first | rwa [add_block] at this | exact this) GW314.out)) | (show (Addr.add _ _).block ≠ _; rw [add_block]; exact Nat.ne_of_lt (Nat.lt_of_lt_of_le (by have := World.block_lt_of_cell? _ _ hw311_0; first | rwa [add_block] at this | exact this) GW314.out)) | (dsimp only; exact Nat.ne_of_lt (Nat.lt_of_lt_of_le (by have := World.block_lt_of_cell? _ _ hw311_0; first | rwa [add_block] at this | exact this) GW314.out))) _).trans (((cell_far (p := ⟨gb314, _, none⟩) (by first | exact Nat.ne_of_lt (Nat.lt_of_lt_of_le (by have := World.block_lt_of_cell? _ _ hw311_0; first | rwa [add_block] at this | exact this) GW314.out) | (rw [add_block]; exact Nat.ne_of_lt (Nat.lt_of_lt_of_le (by have := World.block_lt_of_cell? _ _ hw311_0; first | rwa [add_block] at this | exact this) GW314.out)) | (show (Addr.add _ _).block ≠ _; rw [add_block]; exact Nat.ne_of_lt (Nat.lt_of_lt_of_le (by have := World.block_lt_of_cell? _ _ hw311_0; first | rwa [add_block] at this | exact this) GW314.out)) | (dsimp only; exact Nat.ne_of_lt (Nat.lt_of_lt_of_le (by have := World.block_lt_of_cell? _ _ hw311_0; first | rwa [add_block] at this | exact this) GW314.out))) _).trans (((cell_far (p := ⟨gb314, _, none⟩) (by first | exact Nat.ne_of_lt (Nat.lt_of_lt_of_le (by have := World.block_lt_of_cell? _ _ hw311_0; first | rwa [add_block] at this | exact this) GW314.out) | (rw [add_block]; exact Nat.ne_of_lt (Nat.lt_of_lt_of_le (by have := World.block_lt_of_cell? _ _ hw311_0; first | rwa [add_block] at this | exact this) GW314.out)) | (show (Addr.add _ _).block ≠ _; rw [add_block]; exact Nat.ne_of_lt (Nat.lt_of_lt_of_le (by have := World.block_lt_of_cell? _ _ hw311_0; first | rwa [add_block] at this | exact this) GW314.out)) | (dsimp only; exact Nat.ne_of_lt (Nat.lt_of_lt_of_le (by have := World.block_lt_of_cell? _ _ hw311_0; first | rwa [add_block] at this | exact this) GW314.out))) _).trans (((cell_far (p := ⟨gb314, _, none⟩) (by first | exact Nat.ne_of_lt (Nat.lt_of_lt_of_le (by have := World.block_lt_of_cell? _ _ hw311_0; first | rwa [add_block] at this | exact this) GW314.out) | (rw [add_block]; exact Nat.ne_of_lt (Nat.lt_of_lt_of_le (by have := World.block_lt_of_cell? _ _ hw311_0; first | rwa [add_block] at this | exact this) GW314.out)) | (show (Addr.add _ _).block ≠ _; rw [add_block]; exact Nat.ne_of_lt (Nat.lt_of_lt_of_le (by have := World.block_lt_of_cell? _ _ hw311_0; first | rwa [add_block] at this | exact this) GW314.out)) | (dsimp only; exact Nat.ne_of_lt (Nat.lt_of_lt_of_le (by have := World.block_lt_of_cell? _ _ hw311_0; first | rwa [add_block] at this | exact this) GW314.out))) _).trans (((cell_far (p := ⟨gb314, _, none⟩) (by first | exact Nat.ne_of_lt (Nat.lt_of_lt_of_le (by have := World.block_lt_of_cell? _ _ hw311_0; first | rwa [add_block] at this | exact this) GW314.out) | (rw [add_block]; exact Nat.ne_of_lt (Nat.lt_of_lt_of_le (by have := World.block_lt_of_cell? _ _ hw311_0; first | rwa [add_block] at this | exact this) GW314.out)) | (show (Addr.add _ _).block ≠ _; rw [add_block]; exact Nat.ne_of_lt (Nat.lt_of_lt_of_le (by have := World.block_lt_of_cell? _ _ hw311_0; first | rwa [add_block] at this | exact this) GW314.out)) | (dsimp only; exact Nat.ne_of_lt (Nat.lt_of_lt_of_le (by have := World.block_lt_of_cell? _ _ hw311_0; first | rwa [add_block] at this | exact this) GW314.out))) _).trans (hHeld.2))))))))))⟩ (fun hHeld => ?_)
                                clear hK K
                                refine done_ (done_of HT_.out (by kernel_rfl)) ?_
                                try go_wp2
                                have n0_ : Aside0 (Kd.S k41 41 (((((w24.setCell ⟨gb314, 0, none⟩ (.int .i64 (wrap64 ((wrap64 (rd l0 x5_1)) - 8)))).setCell ⟨gb314, 1, none⟩ (.int .i64 (wrap64 (rd l0 (ji8))))).setCell ⟨gb314, 2, none⟩ (.int .i64 t312)).setCell ⟨gb314, 3, none⟩ (.int .i64 t313)).setCell ⟨gb314, 4, none⟩ (.slice none 0 0)) w.heap.size (fun k_ => k_ ≠ gb314) u4 x4_1) := ⟨by (with_reducible repeat (first | apply Kd.S_alloc | apply Kd.S_drewN | apply Kd.S_drew)); exact Kd.S_mono (Kd.S_far (p := ⟨gb314, 4, none⟩) (Kd.S_far (p := ⟨gb314, 3, none⟩) (Kd.S_far (p := ⟨gb314, 2, none⟩) (Kd.S_far (p := ⟨gb314, 1, none⟩) (Kd.S_far (p := ⟨gb314, 0, none⟩) (Kd.S_mono HO_4.out (fun k_ hk => (⟨hk, hk⟩ : _ ∧ k_ ≠ gb314))) (fun _ hk => hk.2) (.int .i64 (wrap64 ((wrap64 (rd l0 x5_1)) - 8)))) (fun _ hk => hk.2) (.int .i64 (wrap64 (rd l0 (ji8))))) (fun _ hk => hk.2) (.int .i64 t312)) (fun _ hk => hk.2) (.int .i64 t313)) (fun _ hk => hk.2) (.slice none 0 0)) (fun _ hk => hk.1)⟩
                                have n1_ : Aside0 ((((((w24.setCell ⟨gb314, 0, none⟩ (.int .i64 (wrap64 ((wrap64 (rd l0 x5_1)) - 8)))).setCell ⟨gb314, 1, none⟩ (.int .i64 (wrap64 (rd l0 (ji8))))).setCell ⟨gb314, 2, none⟩ (.int .i64 t312)).setCell ⟨gb314, 3, none⟩ (.int .i64 t313)).setCell ⟨gb314, 4, none⟩ (.slice none 0 0)).heap[gb314]? = some (.cells #[.int .i64 (wrap64 ((wrap64 (rd l0 x5_1)) - 8)), .int .i64 (wrap64 (rd l0 (ji8))), .int .i64 t312, .int .i64 t313, .slice none 0 0] 41 (0, 0))) := ⟨by (with_reducible repeat (first | refine blk_drewN ?_ _ | refine blk_drew ?_ | refine blk_alloc ?_ _)); refine blk_put (cs := #[.int .i64 (wrap64 ((wrap64 (rd l0 x5_1)) - 8)), .int .i64 (wrap64 (rd l0 (ji8))), .int .i64 t312, .int .i64 t313, .slice none 0 0]) ?_ 4 _ rfl; (with_reducible repeat (first | refine blk_drewN ?_ _ | refine blk_drew ?_ | refine blk_alloc ?_ _)); refine blk_put (cs := #[.int .i64 (wrap64 ((wrap64 (rd l0 x5_1)) - 8)), .int .i64 (wrap64 (rd l0 (ji8))), .int .i64 t312, .int .i64 0, .slice none 0 0]) ?_ 3 _ rfl; (with_reducible repeat (first | refine blk_drewN ?_ _ | refine blk_drew ?_ | refine blk_alloc ?_ _)); refine blk_put (cs := #[.int .i64 (wrap64 ((wrap64 (rd l0 x5_1)) - 8)), .int .i64 (wrap64 (rd l0 (ji8))), .int .i64 0, .int .i64 0, .slice none 0 0]) ?_ 2 _ rfl; (with_reducible repeat (first | refine blk_drewN ?_ _ | refine blk_drew ?_ | refine blk_alloc ?_ _)); refine blk_put (cs := #[.int .i64 (wrap64 ((wrap64 (rd l0 x5_1)) - 8)), .int .i64 0, .int .i64 0, .int .i64 0, .slice none 0 0]) ?_ 1 _ rfl; (with_reducible repeat (first | refine blk_drewN ?_ _ | refine blk_drew ?_ | refine blk_alloc ?_ _)); refine blk_put (cs := #[.int .i64 0, .int .i64 0, .int .i64 0, .int .i64 0, .slice none 0 0]) ?_ 0 _ rfl; (with_reducible repeat (first | refine blk_drewN ?_ _ | refine blk_drew ?_ | refine blk_alloc ?_ _)); exact BK314.out⟩
                                have n2_ : Aside0 (Below w.heap.size w (((((w24.setCell ⟨gb314, 0, none⟩ (.int .i64 (wrap64 ((wrap64 (rd l0 x5_1)) - 8)))).setCell ⟨gb314, 1, none⟩ (.int .i64 (wrap64 (rd l0 (ji8))))).setCell ⟨gb314, 2, none⟩ (.int .i64 t312)).setCell ⟨gb314, 3, none⟩ (.int .i64 t313)).setCell ⟨gb314, 4, none⟩ (.slice none 0 0))) := ⟨by repeat (first | (with_reducible first | exact HB.out | apply below_alloc | apply pw_below_drewN | apply below_drew1 | refine below_set ?_ GE314.out) | exact HB.out)⟩
                                (try clear HO_4)
                                (try clear BK314)
                                (try clear HB)
                                generalize (((((w24.setCell ⟨gb314, 0, none⟩ (.int .i64 (wrap64 ((wrap64 (rd l0 x5_1)) - 8)))).setCell ⟨gb314, 1, none⟩ (.int .i64 (wrap64 (rd l0 (ji8))))).setCell ⟨gb314, 2, none⟩ (.int .i64 t312)).setCell ⟨gb314, 3, none⟩ (.int .i64 t313)).setCell ⟨gb314, 4, none⟩ (.slice none 0 0)) = w30 at n0_ n1_ n2_ ⊢
                                have HO_4 := n0_
                                have BK314 := n1_
                                have HB := n2_
                                clear n0_ n1_ n2_
                                have n0_ := Aside0.mk (Kd.S_drew HO_4.out)
                                have n1_ := Aside0.mk (blk_drew BK314.out)
                                have n2_ := Aside0.mk (below_drew1 HB.out)
                                clear HO_4
                                clear BK314
                                clear HB
                                have HO_4 := n0_
                                have BK314 := n1_
                                have HB := n2_
                                clear n0_ n1_ n2_
                                have p315 : 0 ≤ ((ji13) : Int) := of_decide_eq_true (by first | (with_reducible assumption) | assumption)
                                have q315 : (ji13) < (l0.length : Int) := of_decide_eq_true (by first | (with_reducible assumption) | assumption)
                                obtain ⟨ad315, e315, hx315_0⟩ := Kd.at_int HR0.out (ji13) p315 q315
                                have hw315_0 := hx315_0
                                obtain rfl : ad305 = ad315 := (by injection e315)
                                replace hx315_0 := (HB.out.cell (World.block_lt_of_cell? w _ hx315_0)).trans hx315_0
                                replace p315 := eq_true p315
                                replace q315 := eq_true q315
                                have p316 : 0 ≤ ((ji16) : Int) := of_decide_eq_true (by first | (with_reducible assumption) | assumption)
                                have q316 : (ji16) < (l0.length : Int) := of_decide_eq_true (by first | (with_reducible assumption) | assumption)
                                obtain ⟨ad316, e316, hx316_0⟩ := Kd.at_int HR0.out (ji16) p316 q316
                                have hw316_0 := hx316_0
                                obtain rfl : ad305 = ad316 := (by injection e316)
                                replace hx316_0 := (HB.out.cell (World.block_lt_of_cell? w _ hx316_0)).trans hx316_0
                                replace p316 := eq_true p316
                                replace q316 := eq_true q316
                                refine start_ (n := 15) (S := fun w' => w'.cell? (ad305.add ((ji13)).toNat) = some (.int .u8 (rd l0 (ji13))) ∧ w'.cell? (ad305.add ((ji16)).toNat) = some (.int .u8 (rd l0 (ji16)))) (ds := []) #[false, false, false, false, false, false, false, false, false, false, false, false, false, false, false] (by kernel_rfl) rfl rfl ⟨((HB.out.cell (World.block_lt_of_cell? w _ hw315_0)).trans hw315_0), ((HB.out.cell (World.block_lt_of_cell? w _ hw316_0)).trans hw316_0)⟩ (fun hHeld => ?_); refine with_tabW compositorref23_Read.tab11 compositorref23_Read.bits11 (fun HT_ HW_ => ?_)
                                generalize w30.drew = w31 at HO_4 BK314 HB hx315_0 hx316_0 hHeld ⊢
                                refine pure_ (i := 0) (N := some 49) (v := ?_) (a' := ?_) #[true, false, false, false, false, false, false, false, false, false, false, false, false, false, false] rfl rfl (any_of HT_.out (by kernel_rfl)) (fun _ _ _ h => h) (Or.inl ⟨by rfl, ?_⟩) ?_ ?_
                                rotate_left
                                · intro w'
                                  go_simp
                                  with_reducible rfl
                                rotate_left
                                · simp only [Act.put, List.setIfInBounds_toArray, List.set_cons_zero, List.set_cons_succ, i64_w, i32_w]
                                  rfl
                                refine pure_ (i := 1) (N := some 50) (v := ?_) (a' := ?_) #[true, true, false, false, false, false, false, false, false, false, false, false, false, false, false] rfl rfl (any_of HT_.out (by kernel_rfl)) (fun _ _ _ h => h) (Or.inl ⟨by rfl, ?_⟩) ?_ ?_
                                rotate_left
                                · intro w'
                                  go_simp
                                  with_reducible rfl
                                rotate_left
                                · simp only [Act.put, List.setIfInBounds_toArray, List.set_cons_zero, List.set_cons_succ, i64_w, i32_w]
                                  rfl
                                refine pure_ (i := 2) (N := some 51) (v := ?_) (a' := ?_) #[true, true, true, false, false, false, false, false, false, false, false, false, false, false, false] rfl rfl (any_of HT_.out (by kernel_rfl)) (fun _ _ _ h => h) (Or.inl ⟨by rfl, ?_⟩) ?_ ?_
                                rotate_left
                                · intro w'
                                  go_simp
                                  with_reducible rfl
                                rotate_left
                                · simp only [Act.put, List.setIfInBounds_toArray, List.set_cons_zero, List.set_cons_succ, i64_w, i32_w]
                                  rfl
                                refine pure_ (i := 3) (N := some 52) (v := ?_) (a' := ?_) #[true, true, true, true, false, false, false, false, false, false, false, false, false, false, false] rfl rfl (any_of HT_.out (by kernel_rfl)) (fun _ _ _ h => h) (Or.inl ⟨by rfl, ?_⟩) ?_ ?_
                                rotate_left
                                · intro w'
                                  go_simp
                                  with_reducible rfl
                                rotate_left
                                · simp only [Act.put, List.setIfInBounds_toArray, List.set_cons_zero, List.set_cons_succ, i64_w, i32_w]
                                  rfl
                                refine pure_ (i := 7) (N := some 56) (v := ?_) (a' := ?_) #[true, true, true, true, false, false, false, true, false, false, false, false, false, false, false] rfl rfl (any_of HT_.out (by kernel_rfl)) (fun _ _ _ h => h) (Or.inl ⟨by rfl, ?_⟩) ?_ ?_
                                rotate_left
                                · intro w'
                                  go_simp
                                  with_reducible rfl
                                rotate_left
                                · simp only [Act.put, List.setIfInBounds_toArray, List.set_cons_zero, List.set_cons_succ, i64_w, i32_w]
                                  rfl
                                refine pure_ (i := 8) (N := some 57) (v := ?_) (a' := ?_) #[true, true, true, true, false, false, false, true, true, false, false, false, false, false, false] rfl rfl (any_of HT_.out (by kernel_rfl)) (fun _ _ _ h => h) (Or.inl ⟨by rfl, ?_⟩) ?_ ?_
                                rotate_left
                                · intro w'
                                  go_simp
                                  with_reducible rfl
                                rotate_left
                                · simp only [Act.put, List.setIfInBounds_toArray, List.set_cons_zero, List.set_cons_succ, i64_w, i32_w]
                                  rfl
                                refine pure_ (i := 9) (N := some 58) (v := ?_) (a' := ?_) #[true, true, true, true, false, false, false, true, true, true, false, false, false, false, false] rfl rfl (any_of HT_.out (by kernel_rfl)) (fun _ _ _ h => h) (Or.inl ⟨by rfl, ?_⟩) ?_ ?_
                                rotate_left
                                · intro w'
                                  go_simp
                                  with_reducible rfl
                                rotate_left
                                · simp only [Act.put, List.setIfInBounds_toArray, List.set_cons_zero, List.set_cons_succ, i64_w, i32_w]
                                  rfl
                                refine pure_ (i := 10) (N := some 59) (v := ?_) (a' := ?_) #[true, true, true, true, false, false, false, true, true, true, true, false, false, false, false] rfl rfl (any_of HT_.out (by kernel_rfl)) (fun _ _ _ h => h) (Or.inl ⟨by rfl, ?_⟩) ?_ ?_
                                rotate_left
                                · intro w'
                                  go_simp
                                  with_reducible rfl
                                rotate_left
                                · simp only [Act.put, List.setIfInBounds_toArray, List.set_cons_zero, List.set_cons_succ, i64_w, i32_w]
                                  rfl
                                refine take_ (i := 4) (N := some 53) (v := ?_) (a' := ?_) #[true, true, true, true, true, false, false, true, true, true, true, false, false, false, false] rfl rfl (take_ofW HT_.out HW_.out (by kernel_rfl)) (fun _ _ _ h => h) (Or.inl ⟨by rfl, ?_⟩) hHeld ?_ ?_
                                rotate_left
                                · rintro w' ⟨s0, s1⟩
                                  go_simp
                                  with_reducible rfl
                                rotate_left
                                · simp only [Act.put, List.setIfInBounds_toArray, List.set_cons_zero, List.set_cons_succ, i64_w, i32_w]
                                  rfl
                                refine pure_ (i := 5) (N := some 54) (v := ?_) (a' := ?_) #[true, true, true, true, true, true, false, true, true, true, true, false, false, false, false] rfl rfl (any_of HT_.out (by kernel_rfl)) (fun _ _ _ h => h) (Or.inl ⟨by rfl, ?_⟩) ?_ ?_
                                rotate_left
                                · intro w'
                                  go_simp
                                  with_reducible rfl
                                rotate_left
                                · simp only [Act.put, List.setIfInBounds_toArray, List.set_cons_zero, List.set_cons_succ, i64_w, i32_w]
                                  rfl
                                refine pure_ (i := 6) (N := some 55) (v := ?_) (a' := ?_) #[true, true, true, true, true, true, true, true, true, true, true, false, false, false, false] rfl rfl (any_of HT_.out (by kernel_rfl)) (fun _ _ _ h => h) (Or.inl ⟨by rfl, ?_⟩) ?_ ?_
                                rotate_left
                                · intro w'
                                  go_simp
                                  with_reducible rfl
                                rotate_left
                                · simp only [Act.put, List.setIfInBounds_toArray, List.set_cons_zero, List.set_cons_succ, i64_w, i32_w]
                                  rfl
                                refine take_ (i := 11) (N := some 60) (v := ?_) (a' := ?_) #[true, true, true, true, true, true, true, true, true, true, true, true, false, false, false] rfl rfl (take_ofW HT_.out HW_.out (by kernel_rfl)) (fun _ _ _ h => h) (Or.inl ⟨by rfl, ?_⟩) hHeld ?_ ?_
                                rotate_left
                                · rintro w' ⟨s0, s1⟩
                                  go_simp
                                  with_reducible rfl
                                rotate_left
                                · simp only [Act.put, List.setIfInBounds_toArray, List.set_cons_zero, List.set_cons_succ, i64_w, i32_w]
                                  rfl
                                refine pure_ (i := 12) (N := some 61) (v := ?_) (a' := ?_) #[true, true, true, true, true, true, true, true, true, true, true, true, true, false, false] rfl rfl (any_of HT_.out (by kernel_rfl)) (fun _ _ _ h => h) (Or.inl ⟨by rfl, ?_⟩) ?_ ?_
                                rotate_left
                                · intro w'
                                  go_simp
                                  with_reducible rfl
                                rotate_left
                                · simp only [Act.put, List.setIfInBounds_toArray, List.set_cons_zero, List.set_cons_succ, i64_w, i32_w]
                                  rfl
                                refine pure_ (i := 13) (N := some 62) (v := ?_) (a' := ?_) #[true, true, true, true, true, true, true, true, true, true, true, true, true, true, false] rfl rfl (any_of HT_.out (by kernel_rfl)) (fun _ _ _ h => h) (Or.inl ⟨by rfl, ?_⟩) ?_ ?_
                                rotate_left
                                · intro w'
                                  go_simp
                                  with_reducible rfl
                                rotate_left
                                · simp only [Act.put, List.setIfInBounds_toArray, List.set_cons_zero, List.set_cons_succ, i64_w, i32_w]
                                  rfl
                                refine pure_ (i := 14) (N := some 8) (v := ?_) (a' := ?_) #[true, true, true, true, true, true, true, true, true, true, true, true, true, true, true] rfl rfl (any_of HT_.out (by kernel_rfl)) (fun _ _ _ h => h) (Or.inl ⟨by rfl, ?_⟩) ?_ ?_
                                rotate_left
                                · intro w'
                                  go_simp
                                  with_reducible rfl
                                rotate_left
                                · simp only [Act.put, List.setIfInBounds_toArray, List.set_cons_zero, List.set_cons_succ, i64_w, i32_w]
                                  rfl
                                refine done_ (done_of HT_.out (by kernel_rfl)) ?_
                                try go_wp2
                                go_ret2
                                exact ⟨_, by first | rfl | (simp [errW_none, errW_some] <;> rfl) | (simp only [← hji8, ← hji13, ← hji16]; first | rfl | (simp [errW_none, errW_some] <;> rfl)) | (simp [*, errW_none, errW_some] <;> rfl), by first | exact Kd.S_nil _ _ _ _ _ | exact Kd.N_nil _ _ _ _ _ | exact Kd.V_nil _ _ _ _ _ | exact Kd.Q_nil _ _ _ _ _ | exact Kd.R_nil _ _ _ _ _, by repeat (first | (with_reducible first | exact HB.out | apply below_alloc | apply pw_below_drewN | apply below_drew1 | refine below_set ?_ GE314.out) | exact HB.out)⟩
                              · rw [if_neg c19] at H
                                have c19b0 : decide ((l0.length : Int) < (wrap64 ((wrap64 (x5_1 + 12)) + (wrap64 (5 * (wrap64 ((wrap64 (256 * (wrap64 (rd l0 (ji13))))) + (wrap64 (rd l0 (ji16)))))))))) = false := decide_eq_false c19
                                clear c19
                                have H' := Aside0.mk H
                                clear H
                                have p305 : 0 ≤ (2 : Int) := (by omega)
                                have q305 : 2 < (l0.length : Int) := of_decide_eq_true (by first | (with_reducible assumption) | assumption)
                                obtain ⟨ad305, e305, hx305_0⟩ := Kd.at_int HR0.out 2 p305 q305
                                cases e305
                                (try simp only [show (2 : Int).toNat = 2 from rfl, Nat.reduceMul, Nat.reduceEqDiff, Go.Addr.add, ↓reduceIte] at hx305_0)
                                have qi305 : (2 < l0.length) = True := eq_true (by omega)
                                (try rw [show ((2 : Int)).toNat = 2 from rfl] at hx305_0)
                                replace hx305_0 := (HB.out.cell (World.block_lt_of_cell? w _ hx305_0)).trans hx305_0
                                replace p305 := eq_true p305
                                replace q305 := eq_true q305
                                try go_wp2
                                have n0_ := Aside0.mk (Kd.S_drew HO_4.out)
                                have n1_ := Aside0.mk (below_drew1 HB.out)
                                clear HO_4
                                clear HB
                                have HO_4 := n0_
                                have HB := n1_
                                clear n0_ n1_
                                have p310 : 0 ≤ (x5_1 : Int) := of_decide_eq_true (by first | (with_reducible assumption) | assumption)
                                have q310 : x5_1 < (l0.length : Int) := of_decide_eq_true (by first | (with_reducible assumption) | assumption)
                                obtain ⟨ad310, e310, hx310_0⟩ := Kd.at_int HR0.out x5_1 p310 q310
                                have hw310_0 := hx310_0
                                obtain rfl : ad305 = ad310 := (by injection e310)
                                replace hx310_0 := (HB.out.cell (World.block_lt_of_cell? w _ hx310_0)).trans hx310_0
                                replace p310 := eq_true p310
                                replace q310 := eq_true q310
                                have p311 : 0 ≤ ((ji8) : Int) := of_decide_eq_true (by first | (with_reducible assumption) | assumption)
                                have q311 : (ji8) < (l0.length : Int) := of_decide_eq_true (by first | (with_reducible assumption) | assumption)
                                obtain ⟨ad311, e311, hx311_0⟩ := Kd.at_int HR0.out (ji8) p311 q311
                                have hw311_0 := hx311_0
                                obtain rfl : ad305 = ad311 := (by injection e311)
                                replace hx311_0 := (HB.out.cell (World.block_lt_of_cell? w _ hx311_0)).trans hx311_0
                                replace p311 := eq_true p311
                                replace q311 := eq_true q311
                                refine start_ (n := 23) (S := fun w' => w'.cell? (ad305.add (x5_1).toNat) = some (.int .u8 (rd l0 x5_1)) ∧ w'.cell? (ad305.add ((ji8)).toNat) = some (.int .u8 (rd l0 (ji8)))) (ds := []) #[false, false, false, false, false, false, false, false, false, false, false, false, false, false, false, false, false, false, false, false, false, false, false] (by kernel_rfl) rfl rfl ⟨((HB.out.cell (World.block_lt_of_cell? w _ hw310_0)).trans hw310_0), ((HB.out.cell (World.block_lt_of_cell? w _ hw311_0)).trans hw311_0)⟩ (fun hHeld => ?_); refine with_tabW compositorref23_Read.tab10 compositorref23_Read.bits10 (fun HT_ HW_ => ?_)
                                generalize wr.drew = w32 at HO_4 HB hx310_0 hx311_0 hHeld ⊢
                                refine pure_ (i := 0) (N := some 28) (v := ?_) (a' := ?_) #[true, false, false, false, false, false, false, false, false, false, false, false, false, false, false, false, false, false, false, false, false, false, false] rfl rfl (any_of HT_.out (by kernel_rfl)) (fun _ _ _ h => h) (Or.inl ⟨by rfl, ?_⟩) ?_ ?_
                                rotate_left
                                · intro w'
                                  go_simp
                                  with_reducible rfl
                                rotate_left
                                · simp only [Act.put, List.setIfInBounds_toArray, List.set_cons_zero, List.set_cons_succ, i64_w, i32_w]
                                  rfl
                                refine pure_ (i := 1) (N := some 29) (v := ?_) (a' := ?_) #[true, true, false, false, false, false, false, false, false, false, false, false, false, false, false, false, false, false, false, false, false, false, false] rfl rfl (any_of HT_.out (by kernel_rfl)) (fun _ _ _ h => h) (Or.inl ⟨by rfl, ?_⟩) ?_ ?_
                                rotate_left
                                · intro w'
                                  go_simp
                                  with_reducible rfl
                                rotate_left
                                · simp only [Act.put, List.setIfInBounds_toArray, List.set_cons_zero, List.set_cons_succ, i64_w, i32_w]
                                  rfl
                                refine pure_ (i := 2) (N := some 30) (v := ?_) (a' := ?_) #[true, true, true, false, false, false, false, false, false, false, false, false, false, false, false, false, false, false, false, false, false, false, false] rfl rfl (any_of HT_.out (by kernel_rfl)) (fun _ _ _ h => h) (Or.inl ⟨by rfl, ?_⟩) ?_ ?_
                                rotate_left
                                · intro w'
                                  go_simp
                                  with_reducible rfl
                                rotate_left
                                · simp only [Act.put, List.setIfInBounds_toArray, List.set_cons_zero, List.set_cons_succ, i64_w, i32_w]
                                  rfl
                                refine pure_ (i := 6) (N := some 34) (v := ?_) (a' := ?_) #[true, true, true, false, false, false, true, false, false, false, false, false, false, false, false, false, false, false, false, false, false, false, false] rfl rfl (any_of HT_.out (by kernel_rfl)) (fun _ _ _ h => h) (Or.inl ⟨by rfl, ?_⟩) ?_ ?_
                                rotate_left
                                · intro w'
                                  go_simp
                                  with_reducible rfl
                                rotate_left
                                · simp only [Act.put, List.setIfInBounds_toArray, List.set_cons_zero, List.set_cons_succ, i64_w, i32_w]
                                  rfl
                                refine pure_ (i := 7) (N := some 35) (v := ?_) (a' := ?_) #[true, true, true, false, false, false, true, true, false, false, false, false, false, false, false, false, false, false, false, false, false, false, false] rfl rfl (any_of HT_.out (by kernel_rfl)) (fun _ _ _ h => h) (Or.inl ⟨by rfl, ?_⟩) ?_ ?_
                                rotate_left
                                · intro w'
                                  go_simp
                                  with_reducible rfl
                                rotate_left
                                · simp only [Act.put, List.setIfInBounds_toArray, List.set_cons_zero, List.set_cons_succ, i64_w, i32_w]
                                  rfl
                                refine pure_ (i := 8) (N := some 36) (v := ?_) (a' := ?_) #[true, true, true, false, false, false, true, true, true, false, false, false, false, false, false, false, false, false, false, false, false, false, false] rfl rfl (any_of HT_.out (by kernel_rfl)) (fun _ _ _ h => h) (Or.inl ⟨by rfl, ?_⟩) ?_ ?_
                                rotate_left
                                · intro w'
                                  go_simp
                                  with_reducible rfl
                                rotate_left
                                · simp only [Act.put, List.setIfInBounds_toArray, List.set_cons_zero, List.set_cons_succ, i64_w, i32_w]
                                  rfl
                                refine pure_ (i := 9) (N := some 37) (v := ?_) (a' := ?_) #[true, true, true, false, false, false, true, true, true, true, false, false, false, false, false, false, false, false, false, false, false, false, false] rfl rfl (any_of HT_.out (by kernel_rfl)) (fun _ _ _ h => h) (Or.inl ⟨by rfl, ?_⟩) ?_ ?_
                                rotate_left
                                · intro w'
                                  go_simp
                                  with_reducible rfl
                                rotate_left
                                · simp only [Act.put, List.setIfInBounds_toArray, List.set_cons_zero, List.set_cons_succ, i64_w, i32_w]
                                  rfl
                                refine pure_ (i := 12) (N := some 40) (v := ?_) (a' := ?_) #[true, true, true, false, false, false, true, true, true, true, false, false, true, false, false, false, false, false, false, false, false, false, false] rfl rfl (any_of HT_.out (by kernel_rfl)) (fun _ _ _ h => h) (Or.inl ⟨by rfl, ?_⟩) ?_ ?_
                                rotate_left
                                · intro w'
                                  go_simp
                                  with_reducible rfl
                                rotate_left
                                · simp only [Act.put, List.setIfInBounds_toArray, List.set_cons_zero, List.set_cons_succ, i64_w, i32_w]
                                  rfl
                                refine pure_ (i := 13) (N := some 41) (v := ?_) (a' := ?_) #[true, true, true, false, false, false, true, true, true, true, false, false, true, true, false, false, false, false, false, false, false, false, false] rfl rfl (any_of HT_.out (by kernel_rfl)) (fun _ _ _ h => h) (Or.inl ⟨by rfl, ?_⟩) ?_ ?_
                                rotate_left
                                · intro w'
                                  go_simp
                                  with_reducible rfl
                                rotate_left
                                · simp only [Act.put, List.setIfInBounds_toArray, List.set_cons_zero, List.set_cons_succ, i64_w, i32_w]
                                  rfl
                                refine pure_ (i := 14) (N := some 42) (v := ?_) (a' := ?_) #[true, true, true, false, false, false, true, true, true, true, false, false, true, true, true, false, false, false, false, false, false, false, false] rfl rfl (any_of HT_.out (by kernel_rfl)) (fun _ _ _ h => h) (Or.inl ⟨by rfl, ?_⟩) ?_ ?_
                                rotate_left
                                · intro w'
                                  go_simp
                                  with_reducible rfl
                                rotate_left
                                · simp only [Act.put, List.setIfInBounds_toArray, List.set_cons_zero, List.set_cons_succ, i64_w, i32_w]
                                  rfl
                                refine pure_ (i := 16) (N := some 44) (v := ?_) (a' := ?_) #[true, true, true, false, false, false, true, true, true, true, false, false, true, true, true, false, true, false, false, false, false, false, false] rfl rfl (any_of HT_.out (by kernel_rfl)) (fun _ _ _ h => h) (Or.inl ⟨by rfl, ?_⟩) ?_ ?_
                                rotate_left
                                · intro w'
                                  go_simp
                                  with_reducible rfl
                                rotate_left
                                · simp only [Act.put, List.setIfInBounds_toArray, List.set_cons_zero, List.set_cons_succ, i64_w, i32_w]
                                  rfl
                                refine pure_ (i := 17) (N := some 45) (v := ?_) (a' := ?_) #[true, true, true, false, false, false, true, true, true, true, false, false, true, true, true, false, true, true, false, false, false, false, false] rfl rfl (any_of HT_.out (by kernel_rfl)) (fun _ _ _ h => h) (Or.inl ⟨by rfl, ?_⟩) ?_ ?_
                                rotate_left
                                · intro w'
                                  go_simp
                                  with_reducible rfl
                                rotate_left
                                · simp only [Act.put, List.setIfInBounds_toArray, List.set_cons_zero, List.set_cons_succ, i64_w, i32_w]
                                  rfl
                                refine pure_ (i := 18) (N := some 46) (v := ?_) (a' := ?_) #[true, true, true, false, false, false, true, true, true, true, false, false, true, true, true, false, true, true, true, false, false, false, false] rfl rfl (any_of HT_.out (by kernel_rfl)) (fun _ _ _ h => h) (Or.inl ⟨by rfl, ?_⟩) ?_ ?_
                                rotate_left
                                · intro w'
                                  go_simp
                                  with_reducible rfl
                                rotate_left
                                · simp only [Act.put, List.setIfInBounds_toArray, List.set_cons_zero, List.set_cons_succ, i64_w, i32_w]
                                  rfl
                                refine take_ (i := 3) (N := some 31) (v := ?_) (a' := ?_) #[true, true, true, true, false, false, true, true, true, true, false, false, true, true, true, false, true, true, true, false, false, false, false] rfl rfl (take_ofW HT_.out HW_.out (by kernel_rfl)) (fun _ _ _ h => h) (Or.inl ⟨by rfl, ?_⟩) hHeld ?_ ?_
                                rotate_left
                                · rintro w' ⟨s0, s1⟩
                                  go_simp
                                  with_reducible rfl
                                rotate_left
                                · simp only [Act.put, List.setIfInBounds_toArray, List.set_cons_zero, List.set_cons_succ, i64_w, i32_w]
                                  rfl
                                refine pure_ (i := 4) (N := some 32) (v := ?_) (a' := ?_) #[true, true, true, true, true, false, true, true, true, true, false, false, true, true, true, false, true, true, true, false, false, false, false] rfl rfl (any_of HT_.out (by kernel_rfl)) (fun _ _ _ h => h) (Or.inl ⟨by rfl, ?_⟩) ?_ ?_
                                rotate_left
                                · intro w'
                                  go_simp
                                  with_reducible rfl
                                rotate_left
                                · simp only [Act.put, List.setIfInBounds_toArray, List.set_cons_zero, List.set_cons_succ, i64_w, i32_w]
                                  rfl
                                refine pure_ (i := 5) (N := some 33) (v := ?_) (a' := ?_) #[true, true, true, true, true, true, true, true, true, true, false, false, true, true, true, false, true, true, true, false, false, false, false] rfl rfl (any_of HT_.out (by kernel_rfl)) (fun _ _ _ h => h) (Or.inl ⟨by rfl, ?_⟩) ?_ ?_
                                rotate_left
                                · intro w'
                                  go_simp
                                  with_reducible rfl
                                rotate_left
                                · simp only [Act.put, List.setIfInBounds_toArray, List.set_cons_zero, List.set_cons_succ, i64_w, i32_w]
                                  rfl
                                refine take_ (i := 10) (N := some 38) (v := ?_) (a' := ?_) #[true, true, true, true, true, true, true, true, true, true, true, false, true, true, true, false, true, true, true, false, false, false, false] rfl rfl (take_ofW HT_.out HW_.out (by kernel_rfl)) (fun _ _ _ h => h) (Or.inl ⟨by rfl, ?_⟩) hHeld ?_ ?_
                                rotate_left
                                · rintro w' ⟨s0, s1⟩
                                  go_simp
                                  with_reducible rfl
                                rotate_left
                                · simp only [Act.put, List.setIfInBounds_toArray, List.set_cons_zero, List.set_cons_succ, i64_w, i32_w]
                                  rfl
                                refine pure_ (i := 11) (N := some 39) (v := ?_) (a' := ?_) #[true, true, true, true, true, true, true, true, true, true, true, true, true, true, true, false, true, true, true, false, false, false, false] rfl rfl (any_of HT_.out (by kernel_rfl)) (fun _ _ _ h => h) (Or.inl ⟨by rfl, ?_⟩) ?_ ?_
                                rotate_left
                                · intro w'
                                  go_simp
                                  with_reducible rfl
                                rotate_left
                                · simp only [Act.put, List.setIfInBounds_toArray, List.set_cons_zero, List.set_cons_succ, i64_w, i32_w]
                                  rfl
                                refine join_ (σ := Nat) 1 #[true, true, true, true, true, true, true, true, true, true, true, true, true, true, true, true, true, true, true, true, true, true, false] (fun s_ => [(43, .int .i64 t312), (47, .int .i64 t313), (7, .pointer (some ⟨s_, 0, none⟩)), (48, .agg #[.int .i64 (wrap64 ((wrap64 (rd l0 x5_1)) - 8)), .int .i64 (wrap64 (rd l0 (ji8))), .int .i64 t312, .int .i64 t313, .slice none 0 0])]) (fun s_ w' => (w'.cell? (ad305.add (x5_1).toNat) = some (.int .u8 (rd l0 x5_1)) ∧ w'.cell? (ad305.add ((ji8)).toNat) = some (.int .u8 (rd l0 (ji8)))) ∧ (Kd.S k41 41 w' w.heap.size (fun k_ => k_ ≠ s_) u4 x4_1) ∧ (w'.heap[s_]? = some (.cells #[.int .i64 0, .int .i64 0, .int .i64 0, .int .i64 0, .slice none 0 0] 41 (0, 0))) ∧ (w.heap.size ≤ s_) ∧ (w.heap.size ≤ s_) ∧ (Below w.heap.size w w')) ?_ ?_
                                rotate_left
                                · intro hCont
                                  refine two_ (i := 15) (j := 21) (Ni := some 43) (Nj := some 7) #[true, true, true, true, true, true, true, true, true, true, true, true, true, true, true, true, true, true, true, false, false, false, false] #[true, true, true, true, true, true, true, true, true, true, true, true, true, true, true, false, true, true, true, false, false, true, false] rfl rfl rfl rfl (two_of HT_.out (by kernel_rfl)) (by decide) (by decide) (fun K hK => ?_) (fun K hK => ?_)
                                  · skip
                                    refine goes_ Try.func34 (by kernel_rfl) rfl #[.slice (some ad305) l0.length c0, .int .i64 (wrap64 (x5_1 + 2))] (by rfl) rfl rfl (by (try simp only [List.map_toArray, List.map_cons, List.map_nil]); first | done | rfl | (simp only [List.length_drop, List.length_take]; rfl)) ?_
                                    with_reducible refine (compositorref23_fix.calls k1 _ _ l0 (wrap64 (x5_1 + 2)) t312 _ ?side1 ?side2 A11.out).mono ?_
                                    (case side1 => repeat (first | exact (Kd.C_below HR0.out HB.out) | (with_reducible refine Kd.C_alloc ?_ _) | (with_reducible refine Kd.C_drewN ?_ _) | (with_reducible refine Kd.C_drew ?_)))
                                    (case side2 => exact HC0.out)
                                    rintro e w33 ⟨rfl, hb⟩
                                    refine ⟨_, rfl, ?_⟩
                                    have n0_ := Aside0.mk (Kd.S_below (by (with_reducible repeat (first | apply Kd.S_alloc | apply Kd.S_drewN | apply Kd.S_drew)); exact HO_4.out) hb)
                                    have n1_ := Aside0.mk (below_step (by repeat (first | (with_reducible first | exact HB.out | apply below_alloc | apply pw_below_drewN | apply below_drew1) | exact HB.out)) hb)
                                    clear HO_4
                                    clear HB
                                    have HO_4 := n0_
                                    have HB := n1_
                                    clear n0_ n1_
                                    (try clear hb)
                                    (try clear hb2)
                                    (try clear hk)
                                    (try clear hi)
                                    refine hK.out _ _ ⟨((HB.out.cell (World.block_lt_of_cell? w _ hw310_0)).trans hw310_0), ((HB.out.cell (World.block_lt_of_cell? w _ hw311_0)).trans hw311_0)⟩ (fun hHeld => ?_)
                                    clear hK K
                                    refine norm_ (a' := ?_) ?_ ?_
                                    rotate_left
                                    · show Act.put _ (some 43) _ = _
                                      simp only [Act.put, List.setIfInBounds_toArray, List.set_cons_zero, List.set_cons_succ, i64_w, i32_w]
                                      rfl
                                    refine two_ (i := 19) (j := 21) (Ni := some 47) (Nj := some 7) #[true, true, true, true, true, true, true, true, true, true, true, true, true, true, true, true, true, true, true, true, false, false, false] #[true, true, true, true, true, true, true, true, true, true, true, true, true, true, true, true, true, true, true, false, false, true, false] rfl rfl rfl rfl (two_of HT_.out (by kernel_rfl)) (by decide) (by decide) (fun K hK => ?_) (fun K hK => ?_)
                                    · skip
                                      refine goes_ Try.func34 (by kernel_rfl) rfl #[.slice (some ad305) l0.length c0, .int .i64 (wrap64 (x5_1 + 6))] (by rfl) rfl rfl (by (try simp only [List.map_toArray, List.map_cons, List.map_nil]); first | done | rfl | (simp only [List.length_drop, List.length_take]; rfl)) ?_
                                      with_reducible refine (compositorref23_fix.calls k1 _ _ l0 (wrap64 (x5_1 + 6)) t313 _ ?side1 ?side2 A12.out).mono ?_
                                      (case side1 => repeat (first | exact (Kd.C_below HR0.out HB.out) | (with_reducible refine Kd.C_alloc ?_ _) | (with_reducible refine Kd.C_drewN ?_ _) | (with_reducible refine Kd.C_drew ?_)))
                                      (case side2 => exact HC0.out)
                                      rintro e w34 ⟨rfl, hb⟩
                                      refine ⟨_, rfl, ?_⟩
                                      have n0_ := Aside0.mk (Kd.S_below (by (with_reducible repeat (first | apply Kd.S_alloc | apply Kd.S_drewN | apply Kd.S_drew)); exact HO_4.out) hb)
                                      have n1_ := Aside0.mk (below_step (by repeat (first | (with_reducible first | exact HB.out | apply below_alloc | apply pw_below_drewN | apply below_drew1) | exact HB.out)) hb)
                                      clear HO_4
                                      clear HB
                                      have HO_4 := n0_
                                      have HB := n1_
                                      clear n0_ n1_
                                      (try clear hb)
                                      (try clear hb2)
                                      (try clear hk)
                                      (try clear hi)
                                      refine hK.out _ _ ⟨((HB.out.cell (World.block_lt_of_cell? w _ hw310_0)).trans hw310_0), ((HB.out.cell (World.block_lt_of_cell? w _ hw311_0)).trans hw311_0)⟩ (fun hHeld => ?_)
                                      clear hK K
                                      refine norm_ (a' := ?_) ?_ ?_
                                      rotate_left
                                      · show Act.put _ (some 47) _ = _
                                        simp only [Act.put, List.setIfInBounds_toArray, List.set_cons_zero, List.set_cons_succ, i64_w, i32_w]
                                        rfl
                                      refine pure_ (i := 20) (N := some 48) (v := ?_) (a' := ?_) #[true, true, true, true, true, true, true, true, true, true, true, true, true, true, true, true, true, true, true, true, true, false, false] rfl rfl (any_of HT_.out (by kernel_rfl)) (fun _ _ _ h => h) (Or.inl ⟨by rfl, ?_⟩) ?_ ?_
                                      rotate_left
                                      · intro w'
                                        go_simp
                                        with_reducible rfl
                                      rotate_left
                                      · simp only [Act.put, List.setIfInBounds_toArray, List.set_cons_zero, List.set_cons_succ, i64_w, i32_w]
                                        rfl
                                      refine one_ (i := 21) (N := some 7) #[true, true, true, true, true, true, true, true, true, true, true, true, true, true, true, true, true, true, true, true, true, true, false] rfl rfl (one_of HT_.out (by kernel_rfl)) (by decide) (fun K hK => ?_)
                                      refine box_step ?hg (N := 7) ?hd (cs := #[.int .i64 0, .int .i64 0, .int .i64 0, .int .i64 0, .slice none 0 0]) (t := 41) ?hr ?_; (case hd => rfl); (case hg => rfl); (case hr => first | (go_simp; done) | (go_simp; rfl))
                                      intro gb314 hg w35 hbox hb
                                      have n0_ := Aside0.mk (Kd.S_below (Kd.S_elderB (by (with_reducible repeat (first | apply Kd.S_alloc | apply Kd.S_drewN | apply Kd.S_drew)); exact HO_4.out) gb314 (Nat.le_of_eq hg.symm)) hb)
                                      have n1_ := Aside0.mk (below_step (by repeat (first | (with_reducible first | exact HB.out | apply below_alloc | apply pw_below_drewN | apply below_drew1) | exact HB.out)) hb)
                                      have n2_ := Aside0.mk (hbox)
                                      have n3_ := Aside0.mk ((by rw [hg]; exact (below_size (by repeat (first | (with_reducible first | exact HB.out | apply below_alloc | apply pw_below_drewN | apply below_drew1) | exact HB.out))) : w.heap.size ≤ gb314))
                                      have n4_ := Aside0.mk ((by rw [hg]; exact (below_size (by repeat (first | (with_reducible first | exact HB.out | apply below_alloc | apply pw_below_drewN | apply below_drew1) | exact HB.out))) : w.heap.size ≤ gb314))
                                      clear HO_4
                                      clear HB
                                      have HO_4 := n0_
                                      have HB := n1_
                                      have BK314 := n2_
                                      have GW314 := n3_
                                      have GE314 := n4_
                                      clear n0_ n1_ n2_ n3_ n4_
                                      clear hb hbox hg
                                      refine hK.out _ _ ⟨((HB.out.cell (World.block_lt_of_cell? w _ hw310_0)).trans hw310_0), ((HB.out.cell (World.block_lt_of_cell? w _ hw311_0)).trans hw311_0)⟩ (fun hHeld => ?_)
                                      clear hK K
                                      refine norm_ (a' := ?_) ?_ ?_
                                      rotate_left
                                      · show Act.put _ (some 7) _ = _
                                        simp only [Act.put, List.setIfInBounds_toArray, List.set_cons_zero, List.set_cons_succ, i64_w, i32_w]
                                        rfl
                                      exact norm_ (by simp only [putAll, Act.put, List.setIfInBounds_toArray, List.set_cons_zero, List.set_cons_succ]) (hCont (gb314) _ ⟨hHeld, (by (with_reducible repeat (first | apply Kd.S_alloc | apply Kd.S_drewN | apply Kd.S_drew)); exact Kd.S_mono HO_4.out (fun _ hk => hk.2)), (by (with_reducible repeat (first | refine blk_drewN ?_ _ | refine blk_drew ?_ | refine blk_alloc ?_ _)); exact BK314.out), GW314.out, GE314.out, (by repeat (first | (with_reducible first | exact HB.out | apply below_alloc | apply pw_below_drewN | apply below_drew1 | refine below_set ?_ GE314.out) | exact HB.out))⟩)
                                    · skip
                                      refine box_step ?hg (N := 7) ?hd (cs := #[.int .i64 0, .int .i64 0, .int .i64 0, .int .i64 0, .slice none 0 0]) (t := 41) ?hr ?_; (case hd => rfl); (case hg => rfl); (case hr => first | (go_simp; done) | (go_simp; rfl))
                                      intro gb314 hg w34 hbox hb
                                      have n0_ := Aside0.mk (Kd.S_below (Kd.S_elderB (by (with_reducible repeat (first | apply Kd.S_alloc | apply Kd.S_drewN | apply Kd.S_drew)); exact HO_4.out) gb314 (Nat.le_of_eq hg.symm)) hb)
                                      have n1_ := Aside0.mk (below_step (by repeat (first | (with_reducible first | exact HB.out | apply below_alloc | apply pw_below_drewN | apply below_drew1) | exact HB.out)) hb)
                                      have n2_ := Aside0.mk (hbox)
                                      have n3_ := Aside0.mk ((by rw [hg]; exact (below_size (by repeat (first | (with_reducible first | exact HB.out | apply below_alloc | apply pw_below_drewN | apply below_drew1) | exact HB.out))) : w.heap.size ≤ gb314))
                                      have n4_ := Aside0.mk ((by rw [hg]; exact (below_size (by repeat (first | (with_reducible first | exact HB.out | apply below_alloc | apply pw_below_drewN | apply below_drew1) | exact HB.out))) : w.heap.size ≤ gb314))
                                      clear HO_4
                                      clear HB
                                      have HO_4 := n0_
                                      have HB := n1_
                                      have BK314 := n2_
                                      have GW314 := n3_
                                      have GE314 := n4_
                                      clear n0_ n1_ n2_ n3_ n4_
                                      clear hb hbox hg
                                      refine hK.out _ _ ⟨((HB.out.cell (World.block_lt_of_cell? w _ hw310_0)).trans hw310_0), ((HB.out.cell (World.block_lt_of_cell? w _ hw311_0)).trans hw311_0)⟩ (fun hHeld => ?_)
                                      clear hK K
                                      refine norm_ (a' := ?_) ?_ ?_
                                      rotate_left
                                      · show Act.put _ (some 7) _ = _
                                        simp only [Act.put, List.setIfInBounds_toArray, List.set_cons_zero, List.set_cons_succ, i64_w, i32_w]
                                        rfl
                                      refine one_ (i := 19) (N := some 47) #[true, true, true, true, true, true, true, true, true, true, true, true, true, true, true, true, true, true, true, true, false, true, false] rfl rfl (one_of HT_.out (by kernel_rfl)) (by decide) (fun K hK => ?_)
                                      refine goes_ Try.func34 (by kernel_rfl) rfl #[.slice (some ad305) l0.length c0, .int .i64 (wrap64 (x5_1 + 6))] (by rfl) rfl rfl (by (try simp only [List.map_toArray, List.map_cons, List.map_nil]); first | done | rfl | (simp only [List.length_drop, List.length_take]; rfl)) ?_
                                      with_reducible refine (compositorref23_fix.calls k1 _ _ l0 (wrap64 (x5_1 + 6)) t313 _ ?side1 ?side2 A12.out).mono ?_
                                      (case side1 => repeat (first | exact (Kd.C_below HR0.out HB.out) | (with_reducible refine Kd.C_alloc ?_ _) | (with_reducible refine Kd.C_drewN ?_ _) | (with_reducible refine Kd.C_drew ?_)))
                                      (case side2 => exact HC0.out)
                                      rintro e w35 ⟨rfl, hb⟩
                                      refine ⟨_, rfl, ?_⟩
                                      have n0_ := Aside0.mk (Kd.S_below (by (with_reducible repeat (first | apply Kd.S_alloc | apply Kd.S_drewN | apply Kd.S_drew)); exact HO_4.out) hb)
                                      have n1_ := Aside0.mk (blk_below (g := gb314) (o := .cells #[.int .i64 0, .int .i64 0, .int .i64 0, .int .i64 0, .slice none 0 0] 41 (0, 0)) (by (with_reducible repeat (first | refine blk_drewN ?_ _ | refine blk_drew ?_ | refine blk_alloc ?_ _)); exact BK314.out) hb)
                                      have n2_ := Aside0.mk (below_step (by repeat (first | (with_reducible first | exact HB.out | apply below_alloc | apply pw_below_drewN | apply below_drew1 | refine below_set ?_ GE314.out) | exact HB.out)) hb)
                                      clear HO_4
                                      clear BK314
                                      clear HB
                                      have HO_4 := n0_
                                      have BK314 := n1_
                                      have HB := n2_
                                      clear n0_ n1_ n2_
                                      (try clear hb)
                                      (try clear hb2)
                                      (try clear hk)
                                      (try clear hi)
                                      refine hK.out _ _ ⟨((HB.out.cell (World.block_lt_of_cell? w _ hw310_0)).trans hw310_0), ((HB.out.cell (World.block_lt_of_cell? w _ hw311_0)).trans hw311_0)⟩ (fun hHeld => ?_)
                                      clear hK K
                                      refine norm_ (a' := ?_) ?_ ?_
                                      rotate_left
                                      · show Act.put _ (some 47) _ = _
                                        simp only [Act.put, List.setIfInBounds_toArray, List.set_cons_zero, List.set_cons_succ, i64_w, i32_w]
                                        rfl
                                      refine pure_ (i := 20) (N := some 48) (v := ?_) (a' := ?_) #[true, true, true, true, true, true, true, true, true, true, true, true, true, true, true, true, true, true, true, true, true, true, false] rfl rfl (any_of HT_.out (by kernel_rfl)) (fun _ _ _ h => h) (Or.inl ⟨by rfl, ?_⟩) ?_ ?_
                                      rotate_left
                                      · intro w'
                                        go_simp
                                        with_reducible rfl
                                      rotate_left
                                      · simp only [Act.put, List.setIfInBounds_toArray, List.set_cons_zero, List.set_cons_succ, i64_w, i32_w]
                                        rfl
                                      exact norm_ (by simp only [putAll, Act.put, List.setIfInBounds_toArray, List.set_cons_zero, List.set_cons_succ]) (hCont (gb314) _ ⟨hHeld, (by (with_reducible repeat (first | apply Kd.S_alloc | apply Kd.S_drewN | apply Kd.S_drew)); exact Kd.S_mono HO_4.out (fun _ hk => hk.2)), (by (with_reducible repeat (first | refine blk_drewN ?_ _ | refine blk_drew ?_ | refine blk_alloc ?_ _)); exact BK314.out), GW314.out, GE314.out, (by repeat (first | (with_reducible first | exact HB.out | apply below_alloc | apply pw_below_drewN | apply below_drew1 | refine below_set ?_ GE314.out) | exact HB.out))⟩)
                                  · skip
                                    refine box_step ?hg (N := 7) ?hd (cs := #[.int .i64 0, .int .i64 0, .int .i64 0, .int .i64 0, .slice none 0 0]) (t := 41) ?hr ?_; (case hd => rfl); (case hg => rfl); (case hr => first | (go_simp; done) | (go_simp; rfl))
                                    intro gb314 hg w33 hbox hb
                                    have n0_ := Aside0.mk (Kd.S_below (Kd.S_elderB (by (with_reducible repeat (first | apply Kd.S_alloc | apply Kd.S_drewN | apply Kd.S_drew)); exact HO_4.out) gb314 (Nat.le_of_eq hg.symm)) hb)
                                    have n1_ := Aside0.mk (below_step (by repeat (first | (with_reducible first | exact HB.out | apply below_alloc | apply pw_below_drewN | apply below_drew1) | exact HB.out)) hb)
                                    have n2_ := Aside0.mk (hbox)
                                    have n3_ := Aside0.mk ((by rw [hg]; exact (below_size (by repeat (first | (with_reducible first | exact HB.out | apply below_alloc | apply pw_below_drewN | apply below_drew1) | exact HB.out))) : w.heap.size ≤ gb314))
                                    have n4_ := Aside0.mk ((by rw [hg]; exact (below_size (by repeat (first | (with_reducible first | exact HB.out | apply below_alloc | apply pw_below_drewN | apply below_drew1) | exact HB.out))) : w.heap.size ≤ gb314))
                                    clear HO_4
                                    clear HB
                                    have HO_4 := n0_
                                    have HB := n1_
                                    have BK314 := n2_
                                    have GW314 := n3_
                                    have GE314 := n4_
                                    clear n0_ n1_ n2_ n3_ n4_
                                    clear hb hbox hg
                                    refine hK.out _ _ ⟨((HB.out.cell (World.block_lt_of_cell? w _ hw310_0)).trans hw310_0), ((HB.out.cell (World.block_lt_of_cell? w _ hw311_0)).trans hw311_0)⟩ (fun hHeld => ?_)
                                    clear hK K
                                    refine norm_ (a' := ?_) ?_ ?_
                                    rotate_left
                                    · show Act.put _ (some 7) _ = _
                                      simp only [Act.put, List.setIfInBounds_toArray, List.set_cons_zero, List.set_cons_succ, i64_w, i32_w]
                                      rfl
                                    refine one_ (i := 15) (N := some 43) #[true, true, true, true, true, true, true, true, true, true, true, true, true, true, true, true, true, true, true, false, false, true, false] rfl rfl (one_of HT_.out (by kernel_rfl)) (by decide) (fun K hK => ?_)
                                    refine goes_ Try.func34 (by kernel_rfl) rfl #[.slice (some ad305) l0.length c0, .int .i64 (wrap64 (x5_1 + 2))] (by rfl) rfl rfl (by (try simp only [List.map_toArray, List.map_cons, List.map_nil]); first | done | rfl | (simp only [List.length_drop, List.length_take]; rfl)) ?_
                                    with_reducible refine (compositorref23_fix.calls k1 _ _ l0 (wrap64 (x5_1 + 2)) t312 _ ?side1 ?side2 A11.out).mono ?_
                                    (case side1 => repeat (first | exact (Kd.C_below HR0.out HB.out) | (with_reducible refine Kd.C_alloc ?_ _) | (with_reducible refine Kd.C_drewN ?_ _) | (with_reducible refine Kd.C_drew ?_)))
                                    (case side2 => exact HC0.out)
                                    rintro e w34 ⟨rfl, hb⟩
                                    refine ⟨_, rfl, ?_⟩
                                    have n0_ := Aside0.mk (Kd.S_below (by (with_reducible repeat (first | apply Kd.S_alloc | apply Kd.S_drewN | apply Kd.S_drew)); exact HO_4.out) hb)
                                    have n1_ := Aside0.mk (blk_below (g := gb314) (o := .cells #[.int .i64 0, .int .i64 0, .int .i64 0, .int .i64 0, .slice none 0 0] 41 (0, 0)) (by (with_reducible repeat (first | refine blk_drewN ?_ _ | refine blk_drew ?_ | refine blk_alloc ?_ _)); exact BK314.out) hb)
                                    have n2_ := Aside0.mk (below_step (by repeat (first | (with_reducible first | exact HB.out | apply below_alloc | apply pw_below_drewN | apply below_drew1 | refine below_set ?_ GE314.out) | exact HB.out)) hb)
                                    clear HO_4
                                    clear BK314
                                    clear HB
                                    have HO_4 := n0_
                                    have BK314 := n1_
                                    have HB := n2_
                                    clear n0_ n1_ n2_
                                    (try clear hb)
                                    (try clear hb2)
                                    (try clear hk)
                                    (try clear hi)
                                    refine hK.out _ _ ⟨((HB.out.cell (World.block_lt_of_cell? w _ hw310_0)).trans hw310_0), ((HB.out.cell (World.block_lt_of_cell? w _ hw311_0)).trans hw311_0)⟩ (fun hHeld => ?_)
                                    clear hK K
                                    refine norm_ (a' := ?_) ?_ ?_
                                    rotate_left
                                    · show Act.put _ (some 43) _ = _
                                      simp only [Act.put, List.setIfInBounds_toArray, List.set_cons_zero, List.set_cons_succ, i64_w, i32_w]
                                      rfl
                                    refine one_ (i := 19) (N := some 47) #[true, true, true, true, true, true, true, true, true, true, true, true, true, true, true, true, true, true, true, true, false, true, false] rfl rfl (one_of HT_.out (by kernel_rfl)) (by decide) (fun K hK => ?_)
                                    refine goes_ Try.func34 (by kernel_rfl) rfl #[.slice (some ad305) l0.length c0, .int .i64 (wrap64 (x5_1 + 6))] (by rfl) rfl rfl (by (try simp only [List.map_toArray, List.map_cons, List.map_nil]); first | done | rfl | (simp only [List.length_drop, List.length_take]; rfl)) ?_
                                    with_reducible refine (compositorref23_fix.calls k1 _ _ l0 (wrap64 (x5_1 + 6)) t313 _ ?side1 ?side2 A12.out).mono ?_
                                    (case side1 => repeat (first | exact (Kd.C_below HR0.out HB.out) | (with_reducible refine Kd.C_alloc ?_ _) | (with_reducible refine Kd.C_drewN ?_ _) | (with_reducible refine Kd.C_drew ?_)))
                                    (case side2 => exact HC0.out)
                                    rintro e w35 ⟨rfl, hb⟩
                                    refine ⟨_, rfl, ?_⟩
                                    have n0_ := Aside0.mk (Kd.S_below (by (with_reducible repeat (first | apply Kd.S_alloc | apply Kd.S_drewN | apply Kd.S_drew)); exact HO_4.out) hb)
                                    have n1_ := Aside0.mk (blk_below (g := gb314) (o := .cells #[.int .i64 0, .int .i64 0, .int .i64 0, .int .i64 0, .slice none 0 0] 41 (0, 0)) (by (with_reducible repeat (first | refine blk_drewN ?_ _ | refine blk_drew ?_ | refine blk_alloc ?_ _)); exact BK314.out) hb)
                                    have n2_ := Aside0.mk (below_step (by repeat (first | (with_reducible first | exact HB.out | apply below_alloc | apply pw_below_drewN | apply below_drew1 | refine below_set ?_ GE314.out) | exact HB.out)) hb)
                                    clear HO_4
                                    clear BK314
                                    clear HB
                                    have HO_4 := n0_
                                    have BK314 := n1_
                                    have HB := n2_
                                    clear n0_ n1_ n2_
                                    (try clear hb)
                                    (try clear hb2)
                                    (try clear hk)
                                    (try clear hi)
                                    refine hK.out _ _ ⟨((HB.out.cell (World.block_lt_of_cell? w _ hw310_0)).trans hw310_0), ((HB.out.cell (World.block_lt_of_cell? w _ hw311_0)).trans hw311_0)⟩ (fun hHeld => ?_)
                                    clear hK K
                                    refine norm_ (a' := ?_) ?_ ?_
                                    rotate_left
                                    · show Act.put _ (some 47) _ = _
                                      simp only [Act.put, List.setIfInBounds_toArray, List.set_cons_zero, List.set_cons_succ, i64_w, i32_w]
                                      rfl
                                    refine pure_ (i := 20) (N := some 48) (v := ?_) (a' := ?_) #[true, true, true, true, true, true, true, true, true, true, true, true, true, true, true, true, true, true, true, true, true, true, false] rfl rfl (any_of HT_.out (by kernel_rfl)) (fun _ _ _ h => h) (Or.inl ⟨by rfl, ?_⟩) ?_ ?_
                                    rotate_left
                                    · intro w'
                                      go_simp
                                      with_reducible rfl
                                    rotate_left
                                    · simp only [Act.put, List.setIfInBounds_toArray, List.set_cons_zero, List.set_cons_succ, i64_w, i32_w]
                                      rfl
                                    exact norm_ (by simp only [putAll, Act.put, List.setIfInBounds_toArray, List.set_cons_zero, List.set_cons_succ]) (hCont (gb314) _ ⟨hHeld, (by (with_reducible repeat (first | apply Kd.S_alloc | apply Kd.S_drewN | apply Kd.S_drew)); exact Kd.S_mono HO_4.out (fun _ hk => hk.2)), (by (with_reducible repeat (first | refine blk_drewN ?_ _ | refine blk_drew ?_ | refine blk_alloc ?_ _)); exact BK314.out), GW314.out, GE314.out, (by repeat (first | (with_reducible first | exact HB.out | apply below_alloc | apply pw_below_drewN | apply below_drew1 | refine below_set ?_ GE314.out) | exact HB.out))⟩)
                                rintro gb314 w36 ⟨hS_, h0_, h1_, h2_, h3_, h4_⟩
                                have n0_ : Aside0 (Kd.S k41 41 w36 w.heap.size (fun k_ => k_ ≠ gb314) u4 x4_1) := ⟨h0_⟩
                                have n1_ : Aside0 (w36.heap[gb314]? = some (.cells #[.int .i64 0, .int .i64 0, .int .i64 0, .int .i64 0, .slice none 0 0] 41 (0, 0))) := ⟨h1_⟩
                                have n2_ : Aside0 (w.heap.size ≤ gb314) := ⟨h2_⟩
                                have n3_ : Aside0 (w.heap.size ≤ gb314) := ⟨h3_⟩
                                have n4_ : Aside0 (Below w.heap.size w w36) := ⟨h4_⟩
                                clear HO_4
                                clear HB
                                clear h0_ h1_ h2_ h3_ h4_
                                have HO_4 := n0_
                                have BK314 := n1_
                                have GW314 := n2_
                                have GE314 := n3_
                                have HB := n4_
                                clear n0_ n1_ n2_ n3_ n4_
                                have hHeld : w36.cell? (ad305.add (x5_1).toNat) = some (.int .u8 (rd l0 x5_1)) ∧ w36.cell? (ad305.add ((ji8)).toNat) = some (.int .u8 (rd l0 (ji8))) := hS_
                                refine norm_ (a' := ?_) ?_ ?_
                                rotate_left
                                · simp only [putAll, Act.put, List.setIfInBounds_toArray, List.set_cons_zero, List.set_cons_succ]
                                  rfl
                                refine one_ (i := 22) (N := none) #[true, true, true, true, true, true, true, true, true, true, true, true, true, true, true, true, true, true, true, true, true, true, true] rfl rfl (one_of HT_.out (by kernel_rfl)) (by decide) (fun K hK => ?_)
                                have hs37 : w36.cell? ⟨gb314, 0, none⟩ = some (.int .i64 0) := (blk_cell BK314.out 0).trans rfl
                                have hfs37 := blk_frozen BK314.out 0
                                have hs38 : w36.cell? ⟨gb314, 1, none⟩ = some (.int .i64 0) := (blk_cell BK314.out 1).trans rfl
                                have hfs38 := blk_frozen BK314.out 1
                                have hs39 : w36.cell? ⟨gb314, 2, none⟩ = some (.int .i64 0) := (blk_cell BK314.out 2).trans rfl
                                have hfs39 := blk_frozen BK314.out 2
                                have hs40 : w36.cell? ⟨gb314, 3, none⟩ = some (.int .i64 0) := (blk_cell BK314.out 3).trans rfl
                                have hfs40 := blk_frozen BK314.out 3
                                have hs41 : w36.cell? ⟨gb314, 4, none⟩ = some (.slice none 0 0) := (blk_cell BK314.out 4).trans rfl
                                have hfs41 := blk_frozen BK314.out 4
                                refine skip_ (w1 := ?_) (by rfl) rfl ?_ ?_
                                rotate_left
                                · go_simp
                                  rfl
                                refine hK.out _ _ ⟨((cell_far (p := ⟨gb314, _, none⟩) (by first | exact Nat.ne_of_lt (Nat.lt_of_lt_of_le (by have := World.block_lt_of_cell? _ _ hw310_0; first | rwa [add_block] at this | exact this) GW314.out) | (rw [add_block]; exact Nat.ne_of_lt (Nat.lt_of_lt_of_le (by have := World.block_lt_of_cell? _ _ hw310_0; first | rwa [add_block] at this | exact this) GW314.out)) | (show (Addr.add _ _).block ≠ _; rw [add_block]; exact Nat.ne_of_lt (Nat.lt_of_lt_of_le (by have := World.block_lt_of_cell? _ _ hw310_0; first | rwa [add_block] at this | exact this) GW314.out)) | (dsimp only; exact Nat.ne_of_lt (Nat.lt_of_lt_of_le (by have := World.block_lt_of_cell? _ _ hw310_0; first | rwa [add_block] at this | exact this) GW314.out))) _).trans (((cell_far (p := ⟨gb314, _, none⟩) (by first | exact Nat.ne_of_lt (Nat.lt_of_lt_of_le (by have := World.block_lt_of_cell? _ _ hw310_0; first | rwa [add_block] at this | exact this) GW314.out) | (rw [add_block]; exact Nat.ne_of_lt (Nat.lt_of_lt_of_le (by have := World.block_lt_of_cell? _ _ hw310_0; first | rwa [add_block] at this | exact this) GW314.out)) | (show (Addr.add _ _).block ≠ _; rw [add_block]; exact Nat.ne_of_lt (Nat.lt_of_lt_of_le (by have := World.block_lt_of_cell? _ _ hw310_0; first | rwa [add_block] at this | exact this) GW314.out)) | (dsimp only; exact Nat.ne_of_lt (Nat.lt_of_lt_of_le (by have := World.block_lt_of_cell? _ _ hw310_0; first | rwa [add_block] at this | exact this) GW314.out))) _).trans (((cell_far (p := ⟨gb314, _, none⟩) (by first | exact Nat.ne_of_lt (Nat.lt_of_lt_of_le (by have := World.block_lt_of_cell? _ _ hw310_0; first | rwa [add_block] at this | exact this) GW314.out) | (rw [add_block]; exact Nat.ne_of_lt (Nat.lt_of_lt_of_le (by have := World.block_lt_of_cell? _ _ hw310_0; first | rwa [add_block] at this | exact this) GW314.out)) | (show (Addr.add _ _).block ≠ _; rw [add_block]; exact Nat.ne_of_lt (Nat.lt_of_lt_of_le (by have := World.block_lt_of_cell? _ _ hw310_0; first | rwa [add_block] at this | exact this) GW314.out)) | (dsimp only; exact Nat.ne_of_lt (Nat.lt_of_lt_of_le (by have := World.block_lt_of_cell? _ _ hw310_0; first | rwa [add_block] at this | exact this) GW314.out))) _).trans (((cell_far (p := ⟨gb314, _, none⟩) (by first | exact Nat.ne_of_lt (Nat.lt_of_lt_of_le (by have := World.block_lt_of_cell? _ _ hw310_0; first | rwa [add_block] at this | exact this) GW314.out) | (rw [add_block]; exact Nat.ne_of_lt (Nat.lt_of_lt_of_le (by have := World.block_lt_of_cell? _ _ hw310_0; first | rwa [add_block] at this | exact this) GW314.out)) | (show (Addr.add _ _).block ≠ _; rw [add_block]; exact Nat.ne_of_lt (Nat.lt_of_lt_of_le (by have := World.block_lt_of_cell? _ _ hw310_0; first | rwa [add_block] at this | exact this) GW314.out)) | (dsimp only; exact Nat.ne_of_lt (Nat.lt_of_lt_of_le (by have := World.block_lt_of_cell? _ _ hw310_0; first | rwa [add_block] at this | exact this) GW314.out))) _).trans (((cell_far (p := ⟨gb314, _, none⟩) (by first | exact Nat.ne_of_lt (Nat.lt_of_lt_of_le (by have := World.block_lt_of_cell? _ _ hw310_0; first | rwa [add_block] at this | exact this) GW314.out) | (rw [add_block]; exact Nat.ne_of_lt (Nat.lt_of_lt_of_le (by have := World.block_lt_of_cell? _ _ hw310_0; first | rwa [add_block] at this | exact this) GW314.out)) | (show (Addr.add _ _).block ≠ _; rw [add_block]; exact Nat.ne_of_lt (Nat.lt_of_lt_of_le (by have := World.block_lt_of_cell? _ _ hw310_0; first | rwa [add_block] at this | exact this) GW314.out)) | (dsimp only; exact Nat.ne_of_lt (Nat.lt_of_lt_of_le (by have := World.block_lt_of_cell? _ _ hw310_0; first | rwa [add_block] at this | exact this) GW314.out))) _).trans (hHeld.1)))))))))), ((cell_far (p := ⟨gb314, _, none⟩) (by first | exact Nat.ne_of_lt (Nat.lt_of_lt_of_le (by have := World.block_lt_of_cell? _ _ hw311_0; first | rwa [add_block] at this | exact this) GW314.out) | (rw [add_block]; exact Nat.ne_of_lt (Nat.lt_of_lt_of_le (by have := World.block_lt_of_cell? _ _ hw311_0; first | rwa [add_block] at this | exact this) GW314.out)) | (show (Addr.add _ _).block ≠ _; rw [add_block]; exact Nat.ne_of_lt (Nat.lt_of_lt_of_le (by have := World.block_lt_of_cell? _ _ hw311_0; first | rwa [add_block] at this | exact this) GW314.out)) | (dsimp only; exact Nat.ne_of_lt (Nat.lt_of_lt_of_le (by have := World.block_lt_of_cell? _ _ hw311_0; first | rwa [add_block] at this | exact this) GW314.out))) _).trans (((cell_far (p := ⟨gb314, _, none⟩) (by first | exact Nat.ne_of_lt (Nat.lt_of_lt_of_le (by have := World.block_lt_of_cell? _ _ hw311_0; first | rwa [add_block] at this | exact this) GW314.out) | (rw [add_block]; exact Nat.ne_of_lt (Nat.lt_of_lt_of_le (by have := World.block_lt_of_cell? _ _ hw311_0; first | rwa [add_block] at this | exact this) GW314.out)) | (show (Addr.add _ _).block ≠ _; rw [add_block]; exact Nat.ne_of_lt (Nat.lt_of_lt_of_le (by have := World.block_lt_of_cell? _ _ hw311_0; first | rwa [add_block] at this | exact this) GW314.out)) | (dsimp only; exact Nat.ne_of_lt (Nat.lt_of_lt_of_le (by have := World.block_lt_of_cell? _ _ hw311_0; first | rwa [add_block] at this | exact this) GW314.out))) _).trans (((cell_far (p := ⟨gb314, _, none⟩) (by first | exact Nat.ne_of_lt (Nat.lt_of_lt_of_le (by have := World.block_lt_of_cell? _ _ hw311_0; first | rwa [add_block] at this | exact this) GW314.out) | (rw [add_block]; exact Nat.ne_of_lt (Nat.lt_of_lt_of_le (by have := World.block_lt_of_cell? _ _ hw311_0; first | rwa [add_block] at this | exact this) GW314.out)) | (show (Addr.add _ _).block ≠ _; rw [add_block]; exact Nat.ne_of_lt (Nat.lt_of_lt_of_le (by have := World.block_lt_of_cell? _ _ hw311_0; first | rwa [add_block] at this | exact this) GW314.out)) | (dsimp only; exact Nat.ne_of_lt (Nat.lt_of_lt_of_le (by have := World.block_lt_of_cell? _ _ hw311_0; first | rwa [add_block] at this | exact this) GW314.out))) _).trans (((cell_far (p := ⟨gb314, _, none⟩) (by first | exact Nat.ne_of_lt (Nat.lt_of_lt_of_le (by have := World.block_lt_of_cell? _ _ hw311_0; first | rwa [add_block] at this | exact this) GW314.out) | (rw [add_block]; exact Nat.ne_of_lt (Nat.lt_of_lt_of_le (by have := World.block_lt_of_cell? _ _ hw311_0; first | rwa [add_block] at this | exact this) GW314.out)) | (show (Addr.add _ _).block ≠ _; rw [add_block]; exact Nat.ne_of_lt (Nat.lt_of_lt_of_le (by have := World.block_lt_of_cell? _ _ hw311_0; first | rwa [add_block] at this | exact this) GW314.out)) | (dsimp only; exact Nat.ne_of_lt (Nat.lt_of_lt_of_le (by have := World.block_lt_of_cell? _ _ hw311_0; first | rwa [add_block] at this | exact this) GW314.out))) _).trans (((cell_far (p := ⟨gb314, _, none⟩) (by first | exact Nat.ne_of_lt (Nat.lt_of_lt_of_le (by have := World.block_lt_of_cell? _ _ hw311_0; first | rwa [add_block] at this | exact this) GW314.out) | (rw [add_block]; exact Nat.ne_of_lt (Nat.lt_of_lt_of_le (by have := World.block_lt_of_cell? _ _ hw311_0; first | rwa [add_block] at this | exact this) GW314.out)) | (show (Addr.add _ _).block ≠ _; rw [add_block]; exact Nat.ne_of_lt (Nat.lt_of_lt_of_le (by have := World.block_lt_of_cell? _ _ hw311_0; first | rwa [add_block] at this | exact this) GW314.out)) | (dsimp only; exact Nat.ne_of_lt (Nat.lt_of_lt_of_le (by have := World.block_lt_of_cell? _ _ hw311_0; first | rwa [add_block] at this | exact this) GW314.out))) _).trans (hHeld.2))))))))))⟩ (fun hHeld => ?_)
                                clear hK K
                                refine done_ (done_of HT_.out (by kernel_rfl)) ?_
                                try go_wp2
                                have n0_ : Aside0 (Kd.S k41 41 (((((w36.setCell ⟨gb314, 0, none⟩ (.int .i64 (wrap64 ((wrap64 (rd l0 x5_1)) - 8)))).setCell ⟨gb314, 1, none⟩ (.int .i64 (wrap64 (rd l0 (ji8))))).setCell ⟨gb314, 2, none⟩ (.int .i64 t312)).setCell ⟨gb314, 3, none⟩ (.int .i64 t313)).setCell ⟨gb314, 4, none⟩ (.slice none 0 0)) w.heap.size (fun k_ => k_ ≠ gb314) u4 x4_1) := ⟨by (with_reducible repeat (first | apply Kd.S_alloc | apply Kd.S_drewN | apply Kd.S_drew)); exact Kd.S_mono (Kd.S_far (p := ⟨gb314, 4, none⟩) (Kd.S_far (p := ⟨gb314, 3, none⟩) (Kd.S_far (p := ⟨gb314, 2, none⟩) (Kd.S_far (p := ⟨gb314, 1, none⟩) (Kd.S_far (p := ⟨gb314, 0, none⟩) (Kd.S_mono HO_4.out (fun k_ hk => (⟨hk, hk⟩ : _ ∧ k_ ≠ gb314))) (fun _ hk => hk.2) (.int .i64 (wrap64 ((wrap64 (rd l0 x5_1)) - 8)))) (fun _ hk => hk.2) (.int .i64 (wrap64 (rd l0 (ji8))))) (fun _ hk => hk.2) (.int .i64 t312)) (fun _ hk => hk.2) (.int .i64 t313)) (fun _ hk => hk.2) (.slice none 0 0)) (fun _ hk => hk.1)⟩
                                have n1_ : Aside0 ((((((w36.setCell ⟨gb314, 0, none⟩ (.int .i64 (wrap64 ((wrap64 (rd l0 x5_1)) - 8)))).setCell ⟨gb314, 1, none⟩ (.int .i64 (wrap64 (rd l0 (ji8))))).setCell ⟨gb314, 2, none⟩ (.int .i64 t312)).setCell ⟨gb314, 3, none⟩ (.int .i64 t313)).setCell ⟨gb314, 4, none⟩ (.slice none 0 0)).heap[gb314]? = some (.cells #[.int .i64 (wrap64 ((wrap64 (rd l0 x5_1)) - 8)), .int .i64 (wrap64 (rd l0 (ji8))), .int .i64 t312, .int .i64 t313, .slice none 0 0] 41 (0, 0))) := ⟨by (with_reducible repeat (first | refine blk_drewN ?_ _ | refine blk_drew ?_ | refine blk_alloc ?_ _)); refine blk_put (cs := #[.int .i64 (wrap64 ((wrap64 (rd l0 x5_1)) - 8)), .int .i64 (wrap64 (rd l0 (ji8))), .int .i64 t312, .int .i64 t313, .slice none 0 0]) ?_ 4 _ rfl; (with_reducible repeat (first | refine blk_drewN ?_ _ | refine blk_drew ?_ | refine blk_alloc ?_ _)); refine blk_put (cs := #[.int .i64 (wrap64 ((wrap64 (rd l0 x5_1)) - 8)), .int .i64 (wrap64 (rd l0 (ji8))), .int .i64 t312, .int .i64 0, .slice none 0 0]) ?_ 3 _ rfl; (with_reducible repeat (first | refine blk_drewN ?_ _ | refine blk_drew ?_ | refine blk_alloc ?_ _)); refine blk_put (cs := #[.int .i64 (wrap64 ((wrap64 (rd l0 x5_1)) - 8)), .int .i64 (wrap64 (rd l0 (ji8))), .int .i64 0, .int .i64 0, .slice none 0 0]) ?_ 2 _ rfl; (with_reducible repeat (first | refine blk_drewN ?_ _ | refine blk_drew ?_ | refine blk_alloc ?_ _)); refine blk_put (cs := #[.int .i64 (wrap64 ((wrap64 (rd l0 x5_1)) - 8)), .int .i64 0, .int .i64 0, .int .i64 0, .slice none 0 0]) ?_ 1 _ rfl; (with_reducible repeat (first | refine blk_drewN ?_ _ | refine blk_drew ?_ | refine blk_alloc ?_ _)); refine blk_put (cs := #[.int .i64 0, .int .i64 0, .int .i64 0, .int .i64 0, .slice none 0 0]) ?_ 0 _ rfl; (with_reducible repeat (first | refine blk_drewN ?_ _ | refine blk_drew ?_ | refine blk_alloc ?_ _)); exact BK314.out⟩
                                have n2_ : Aside0 (Below w.heap.size w (((((w36.setCell ⟨gb314, 0, none⟩ (.int .i64 (wrap64 ((wrap64 (rd l0 x5_1)) - 8)))).setCell ⟨gb314, 1, none⟩ (.int .i64 (wrap64 (rd l0 (ji8))))).setCell ⟨gb314, 2, none⟩ (.int .i64 t312)).setCell ⟨gb314, 3, none⟩ (.int .i64 t313)).setCell ⟨gb314, 4, none⟩ (.slice none 0 0))) := ⟨by repeat (first | (with_reducible first | exact HB.out | apply below_alloc | apply pw_below_drewN | apply below_drew1 | refine below_set ?_ GE314.out) | exact HB.out)⟩
                                (try clear HO_4)
                                (try clear BK314)
                                (try clear HB)
                                generalize (((((w36.setCell ⟨gb314, 0, none⟩ (.int .i64 (wrap64 ((wrap64 (rd l0 x5_1)) - 8)))).setCell ⟨gb314, 1, none⟩ (.int .i64 (wrap64 (rd l0 (ji8))))).setCell ⟨gb314, 2, none⟩ (.int .i64 t312)).setCell ⟨gb314, 3, none⟩ (.int .i64 t313)).setCell ⟨gb314, 4, none⟩ (.slice none 0 0)) = w42 at n0_ n1_ n2_ ⊢
                                have HO_4 := n0_
                                have BK314 := n1_
                                have HB := n2_
                                clear n0_ n1_ n2_
                                have n0_ := Aside0.mk (Kd.S_drew HO_4.out)
                                have n1_ := Aside0.mk (blk_drew BK314.out)
                                have n2_ := Aside0.mk (below_drew1 HB.out)
                                clear HO_4
                                clear BK314
                                clear HB
                                have HO_4 := n0_
                                have BK314 := n1_
                                have HB := n2_
                                clear n0_ n1_ n2_
                                have p315 : 0 ≤ ((ji13) : Int) := of_decide_eq_true (by first | (with_reducible assumption) | assumption)
                                have q315 : (ji13) < (l0.length : Int) := of_decide_eq_true (by first | (with_reducible assumption) | assumption)
                                obtain ⟨ad315, e315, hx315_0⟩ := Kd.at_int HR0.out (ji13) p315 q315
                                have hw315_0 := hx315_0
                                obtain rfl : ad305 = ad315 := (by injection e315)
                                replace hx315_0 := (HB.out.cell (World.block_lt_of_cell? w _ hx315_0)).trans hx315_0
                                replace p315 := eq_true p315
                                replace q315 := eq_true q315
                                have p316 : 0 ≤ ((ji16) : Int) := of_decide_eq_true (by first | (with_reducible assumption) | assumption)
                                have q316 : (ji16) < (l0.length : Int) := of_decide_eq_true (by first | (with_reducible assumption) | assumption)
                                obtain ⟨ad316, e316, hx316_0⟩ := Kd.at_int HR0.out (ji16) p316 q316
                                have hw316_0 := hx316_0
                                obtain rfl : ad305 = ad316 := (by injection e316)
                                replace hx316_0 := (HB.out.cell (World.block_lt_of_cell? w _ hx316_0)).trans hx316_0
                                replace p316 := eq_true p316
                                replace q316 := eq_true q316
                                refine start_ (n := 15) (S := fun w' => w'.cell? (ad305.add ((ji13)).toNat) = some (.int .u8 (rd l0 (ji13))) ∧ w'.cell? (ad305.add ((ji16)).toNat) = some (.int .u8 (rd l0 (ji16)))) (ds := []) #[false, false, false, false, false, false, false, false, false, false, false, false, false, false, false] (by kernel_rfl) rfl rfl ⟨((HB.out.cell (World.block_lt_of_cell? w _ hw315_0)).trans hw315_0), ((HB.out.cell (World.block_lt_of_cell? w _ hw316_0)).trans hw316_0)⟩ (fun hHeld => ?_); refine with_tabW compositorref23_Read.tab11 compositorref23_Read.bits11 (fun HT_ HW_ => ?_)
                                generalize w42.drew = w43 at HO_4 BK314 HB hx315_0 hx316_0 hHeld ⊢
                                refine pure_ (i := 0) (N := some 49) (v := ?_) (a' := ?_) #[true, false, false, false, false, false, false, false, false, false, false, false, false, false, false] rfl rfl (any_of HT_.out (by kernel_rfl)) (fun _ _ _ h => h) (Or.inl ⟨by rfl, ?_⟩) ?_ ?_
                                rotate_left
                                · intro w'
                                  go_simp
                                  with_reducible rfl
                                rotate_left
                                · simp only [Act.put, List.setIfInBounds_toArray, List.set_cons_zero, List.set_cons_succ, i64_w, i32_w]
                                  rfl
                                refine pure_ (i := 1) (N := some 50) (v := ?_) (a' := ?_) #[true, true, false, false, false, false, false, false, false, false, false, false, false, false, false] rfl rfl (any_of HT_.out (by kernel_rfl)) (fun _ _ _ h => h) (Or.inl ⟨by rfl, ?_⟩) ?_ ?_
                                rotate_left
                                · intro w'
                                  go_simp
                                  with_reducible rfl
                                rotate_left
                                · simp only [Act.put, List.setIfInBounds_toArray, List.set_cons_zero, List.set_cons_succ, i64_w, i32_w]
                                  rfl
                                refine pure_ (i := 2) (N := some 51) (v := ?_) (a' := ?_) #[true, true, true, false, false, false, false, false, false, false, false, false, false, false, false] rfl rfl (any_of HT_.out (by kernel_rfl)) (fun _ _ _ h => h) (Or.inl ⟨by rfl, ?_⟩) ?_ ?_
                                rotate_left
                                · intro w'
                                  go_simp
                                  with_reducible rfl
                                rotate_left
                                · simp only [Act.put, List.setIfInBounds_toArray, List.set_cons_zero, List.set_cons_succ, i64_w, i32_w]
                                  rfl
                                refine pure_ (i := 3) (N := some 52) (v := ?_) (a' := ?_) #[true, true, true, true, false, false, false, false, false, false, false, false, false, false, false] rfl rfl (any_of HT_.out (by kernel_rfl)) (fun _ _ _ h => h) (Or.inl ⟨by rfl, ?_⟩) ?_ ?_
                                rotate_left
                                · intro w'
                                  go_simp
                                  with_reducible rfl
                                rotate_left
                                · simp only [Act.put, List.setIfInBounds_toArray, List.set_cons_zero, List.set_cons_succ, i64_w, i32_w]
                                  rfl
                                refine pure_ (i := 7) (N := some 56) (v := ?_) (a' := ?_) #[true, true, true, true, false, false, false, true, false, false, false, false, false, false, false] rfl rfl (any_of HT_.out (by kernel_rfl)) (fun _ _ _ h => h) (Or.inl ⟨by rfl, ?_⟩) ?_ ?_
                                rotate_left
                                · intro w'
                                  go_simp
                                  with_reducible rfl
                                rotate_left
                                · simp only [Act.put, List.setIfInBounds_toArray, List.set_cons_zero, List.set_cons_succ, i64_w, i32_w]
                                  rfl
                                refine pure_ (i := 8) (N := some 57) (v := ?_) (a' := ?_) #[true, true, true, true, false, false, false, true, true, false, false, false, false, false, false] rfl rfl (any_of HT_.out (by kernel_rfl)) (fun _ _ _ h => h) (Or.inl ⟨by rfl, ?_⟩) ?_ ?_
                                rotate_left
                                · intro w'
                                  go_simp
                                  with_reducible rfl
                                rotate_left
                                · simp only [Act.put, List.setIfInBounds_toArray, List.set_cons_zero, List.set_cons_succ, i64_w, i32_w]
                                  rfl
                                refine pure_ (i := 9) (N := some 58) (v := ?_) (a' := ?_) #[true, true, true, true, false, false, false, true, true, true, false, false, false, false, false] rfl rfl (any_of HT_.out (by kernel_rfl)) (fun _ _ _ h => h) (Or.inl ⟨by rfl, ?_⟩) ?_ ?_
                                rotate_left
                                · intro w'
                                  go_simp
                                  with_reducible rfl
                                rotate_left
                                · simp only [Act.put, List.setIfInBounds_toArray, List.set_cons_zero, List.set_cons_succ, i64_w, i32_w]
                                  rfl
                                refine pure_ (i := 10) (N := some 59) (v := ?_) (a' := ?_) #[true, true, true, true, false, false, false, true, true, true, true, false, false, false, false] rfl rfl (any_of HT_.out (by kernel_rfl)) (fun _ _ _ h => h) (Or.inl ⟨by rfl, ?_⟩) ?_ ?_
                                rotate_left
                                · intro w'
                                  go_simp
                                  with_reducible rfl
                                rotate_left
                                · simp only [Act.put, List.setIfInBounds_toArray, List.set_cons_zero, List.set_cons_succ, i64_w, i32_w]
                                  rfl
                                refine take_ (i := 4) (N := some 53) (v := ?_) (a' := ?_) #[true, true, true, true, true, false, false, true, true, true, true, false, false, false, false] rfl rfl (take_ofW HT_.out HW_.out (by kernel_rfl)) (fun _ _ _ h => h) (Or.inl ⟨by rfl, ?_⟩) hHeld ?_ ?_
                                rotate_left
                                · rintro w' ⟨s0, s1⟩
                                  go_simp
                                  with_reducible rfl
                                rotate_left
                                · simp only [Act.put, List.setIfInBounds_toArray, List.set_cons_zero, List.set_cons_succ, i64_w, i32_w]
                                  rfl
                                refine pure_ (i := 5) (N := some 54) (v := ?_) (a' := ?_) #[true, true, true, true, true, true, false, true, true, true, true, false, false, false, false] rfl rfl (any_of HT_.out (by kernel_rfl)) (fun _ _ _ h => h) (Or.inl ⟨by rfl, ?_⟩) ?_ ?_
                                rotate_left
                                · intro w'
                                  go_simp
                                  with_reducible rfl
                                rotate_left
                                · simp only [Act.put, List.setIfInBounds_toArray, List.set_cons_zero, List.set_cons_succ, i64_w, i32_w]
                                  rfl
                                refine pure_ (i := 6) (N := some 55) (v := ?_) (a' := ?_) #[true, true, true, true, true, true, true, true, true, true, true, false, false, false, false] rfl rfl (any_of HT_.out (by kernel_rfl)) (fun _ _ _ h => h) (Or.inl ⟨by rfl, ?_⟩) ?_ ?_
                                rotate_left
                                · intro w'
                                  go_simp
                                  with_reducible rfl
                                rotate_left
                                · simp only [Act.put, List.setIfInBounds_toArray, List.set_cons_zero, List.set_cons_succ, i64_w, i32_w]
                                  rfl
                                refine take_ (i := 11) (N := some 60) (v := ?_) (a' := ?_) #[true, true, true, true, true, true, true, true, true, true, true, true, false, false, false] rfl rfl (take_ofW HT_.out HW_.out (by kernel_rfl)) (fun _ _ _ h => h) (Or.inl ⟨by rfl, ?_⟩) hHeld ?_ ?_
                                rotate_left
                                · rintro w' ⟨s0, s1⟩
                                  go_simp
                                  with_reducible rfl
                                rotate_left
                                · simp only [Act.put, List.setIfInBounds_toArray, List.set_cons_zero, List.set_cons_succ, i64_w, i32_w]
                                  rfl
                                refine pure_ (i := 12) (N := some 61) (v := ?_) (a' := ?_) #[true, true, true, true, true, true, true, true, true, true, true, true, true, false, false] rfl rfl (any_of HT_.out (by kernel_rfl)) (fun _ _ _ h => h) (Or.inl ⟨by rfl, ?_⟩) ?_ ?_
                                rotate_left
                                · intro w'
                                  go_simp
                                  with_reducible rfl
                                rotate_left
                                · simp only [Act.put, List.setIfInBounds_toArray, List.set_cons_zero, List.set_cons_succ, i64_w, i32_w]
                                  rfl
                                refine pure_ (i := 13) (N := some 62) (v := ?_) (a' := ?_) #[true, true, true, true, true, true, true, true, true, true, true, true, true, true, false] rfl rfl (any_of HT_.out (by kernel_rfl)) (fun _ _ _ h => h) (Or.inl ⟨by rfl, ?_⟩) ?_ ?_
                                rotate_left
                                · intro w'
                                  go_simp
                                  with_reducible rfl
                                rotate_left
                                · simp only [Act.put, List.setIfInBounds_toArray, List.set_cons_zero, List.set_cons_succ, i64_w, i32_w]
                                  rfl
                                refine pure_ (i := 14) (N := some 8) (v := ?_) (a' := ?_) #[true, true, true, true, true, true, true, true, true, true, true, true, true, true, true] rfl rfl (any_of HT_.out (by kernel_rfl)) (fun _ _ _ h => h) (Or.inl ⟨by rfl, ?_⟩) ?_ ?_
                                rotate_left
                                · intro w'
                                  go_simp
                                  with_reducible rfl
                                rotate_left
                                · simp only [Act.put, List.setIfInBounds_toArray, List.set_cons_zero, List.set_cons_succ, i64_w, i32_w]
                                  rfl
                                refine done_ (done_of HT_.out (by kernel_rfl)) ?_
                                try go_wp2
                                go_loopg [5, 9] k1 (fun kq v5 v9 w' => ∃ (x5_2 : Int) (x9_2 : Int) (x315004_2 : List (S43)) (u315004 : Value), v5 = .int .i64 x5_2 ∧ v9 = .int .i64 x9_2 ∧ Aside0 (compositorref23_Read.l1 kq l0 x4_1 x5_2 x6_1 (wrap64 ((wrap64 (256 * (wrap64 (rd l0 (ji13))))) + (wrap64 (rd l0 (ji16))))) x9_2 (wrap64 ((wrap64 (rd l0 x5_1)) - 8)) (wrap64 (rd l0 (ji8))) t312 t313 x315004_2 = some (r1, r2)) ∧ Aside0 (kq ≤ k1) ∧ Aside0 (Kd.S k41 41 w' w.heap.size (fun k_ => some k_ ≠ (u315004 : Value).ownBlock ∧ k_ ≠ gb314) u4 x4_1) ∧ Aside0 (Kd.R k43 43 w' w.heap.size (fun _ => True) u315004 x315004_2) ∧ Aside0 (w'.heap[gb314]? = some (.cells #[.int .i64 (wrap64 ((wrap64 (rd l0 x5_1)) - 8)), .int .i64 (wrap64 (rd l0 (ji8))), .int .i64 t312, .int .i64 t313, u315004] 41 (0, 0))) ∧ Aside0 (Below w.heap.size w w'))
                                case atStart => exact ⟨(wrap64 (x5_1 + 12)), (0), (([] : List (S43))), (.slice none 0 0), (by first | rfl | (simp; done) | (simp [*]; done)), (by first | rfl | (simp; done) | (simp [*]; done)), H', ⟨Nat.le_refl _⟩, ⟨by (with_reducible repeat (first | apply Kd.S_alloc | apply Kd.S_drewN | apply Kd.S_drew)); exact Kd.S_mono HO_4.out (fun _ hk => ⟨(by simp [Value.ownBlock]), hk⟩)⟩, ⟨by first | exact Kd.R_nil _ _ _ _ _ | exact Kd.N_nil _ _ _ _ _ | exact Kd.V_nil _ _ _ _ _ | exact Kd.Q_nil _ _ _ _ _ | exact Kd.S_nil _ _ _ _ _⟩, ⟨by (with_reducible repeat (first | refine blk_drewN ?_ _ | refine blk_drew ?_ | refine blk_alloc ?_ _)); exact BK314.out⟩, ⟨by repeat (first | (with_reducible first | exact HB.out | apply below_alloc | apply pw_below_drewN | apply below_drew1 | refine below_set ?_ GE314.out) | exact HB.out)⟩⟩
                                case round =>
                                  clear H'
                                  try clear p2
                                  try clear c3
                                  try clear p3
                                  try clear q3
                                  try clear hx3
                                  try clear p6
                                  try clear p31
                                  try clear q31
                                  try clear hx31
                                  try clear c34
                                  try clear hx310_0
                                  try clear hx311_0
                                  try clear hx315_0
                                  try clear hx316_0
                                  try clear p310
                                  try clear p311
                                  try clear p315
                                  try clear p316
                                  try clear q310
                                  try clear q311
                                  try clear q315
                                  try clear q316
                                  obtain ⟨x5_2, x9_2, x315004_2, u315004, rfl, rfl, HA, HK2, HO_4, HO_315004, BK314, HB⟩ := hrel
                                  cases gk with
                                  | zero => exact absurd HA.out (by simp [compositorref23_Read.l1])
                                  | succ k2 =>
                                    have H := HA.out
                                    clear HA
                                    simp only [compositorref23_Read.l1] at H
                                    by_cases c44 : x9_2 < (wrap64 ((wrap64 (256 * (wrap64 (rd l0 (ji13))))) + (wrap64 (rd l0 (ji16)))))
                                    · rw [if_pos c44] at H
                                      have c44b0 : decide (x9_2 < (wrap64 ((wrap64 (256 * (wrap64 (rd l0 (ji13))))) + (wrap64 (rd l0 (ji16)))))) = true := decide_eq_true c44
                                      clear c44
                                      by_cases c45 : 0 ≤ x5_2
                                      · rw [if_pos c45] at H
                                        have c45b0 : decide (0 ≤ x5_2) = true := decide_eq_true c45
                                        clear c45
                                        by_cases c46 : x5_2 < (l0.length : Int)
                                        · rw [if_pos c46] at H
                                          have c46b0 : decide (x5_2 < (l0.length : Int)) = true := decide_eq_true c46
                                          clear c46
                                          replace H := Option.bind_eq_some_iff.mp H
                                          obtain ⟨t318, A470, H⟩ := H
                                          replace H : (if x315004_2.length < 8796093022208 then (compositorref23_Read.l1 k2 l0 x4_1 (wrap64 (x5_2 + 5)) x6_1 (wrap64 ((wrap64 (256 * (wrap64 (rd l0 (ji13))))) + (wrap64 (rd l0 (ji16))))) (wrap64 (x9_2 + 1)) (wrap64 ((wrap64 (rd l0 x5_1)) - 8)) (wrap64 (rd l0 (ji8))) t312 t313 (x315004_2 ++ [(⟨wrap64 (rd l0 x5_2), t318⟩ : S43)])) else (none)) = some (r1, r2) := H
                                          have A47 := Aside0.mk A470
                                          clear A470
                                          by_cases c48 : x315004_2.length < 8796093022208
                                          · rw [if_pos c48] at H
                                            have LMc48 := Aside0.mk c48
                                            clear c48
                                            obtain ⟨y319, hy319⟩ : ∃ y_ : List (S43), y_ = (x315004_2 ++ [(⟨wrap64 (rd l0 x5_2), t318⟩ : S43)]) := ⟨_, rfl⟩
                                            replace H : (compositorref23_Read.l1 k2 l0 x4_1 (wrap64 (x5_2 + 5)) x6_1 (wrap64 ((wrap64 (256 * (wrap64 (rd l0 (ji13))))) + (wrap64 (rd l0 (ji16))))) (wrap64 (x9_2 + 1)) (wrap64 ((wrap64 (rd l0 x5_1)) - 8)) (wrap64 (rd l0 (ji8))) t312 t313 y319) = some (r1, r2) := by first | (rw [hy319]; with_reducible exact H) | (have H2_ := (Option.bind_some _ _).symm.trans H; rw [hy319]; with_reducible exact H2_) | (have H2_ := (Option.bind_some _ _).symm.trans H; with_reducible exact H2_) | with_reducible exact H | (rw [hy319]; exact H) | exact H
                                            have Ny319 := Aside0.mk hy319
                                            clear hy319
                                            have H' := Aside0.mk H
                                            clear H
                                            try go_wp2
                                            have n0_ := Aside0.mk (Kd.S_drew HO_4.out)
                                            have n1_ := Aside0.mk (Kd.R_drew HO_315004.out)
                                            have n2_ := Aside0.mk (blk_drew BK314.out)
                                            have n3_ := Aside0.mk (below_drew1 HB.out)
                                            clear HO_4
                                            clear HO_315004
                                            clear BK314
                                            clear HB
                                            have HO_4 := n0_
                                            have HO_315004 := n1_
                                            have BK314 := n2_
                                            have HB := n3_
                                            clear n0_ n1_ n2_ n3_
                                            have p317 : 0 ≤ (x5_2 : Int) := of_decide_eq_true (by first | (with_reducible assumption) | assumption)
                                            have q317 : x5_2 < (l0.length : Int) := of_decide_eq_true (by first | (with_reducible assumption) | assumption)
                                            obtain ⟨ad317, e317, hx317_0⟩ := Kd.at_int HR0.out x5_2 p317 q317
                                            have hw317_0 := hx317_0
                                            obtain rfl : ad305 = ad317 := (by injection e317)
                                            replace hx317_0 := (HB.out.cell (World.block_lt_of_cell? w _ hx317_0)).trans hx317_0
                                            replace p317 := eq_true p317
                                            replace q317 := eq_true q317
                                            refine start_ (n := 16) (S := fun w' => w'.cell? ⟨gb314, 0, none⟩ = some (.int .i64 (wrap64 ((wrap64 (rd l0 x5_1)) - 8))) ∧ w'.cell? ⟨gb314, 1, none⟩ = some (.int .i64 (wrap64 (rd l0 (ji8)))) ∧ w'.cell? ⟨gb314, 2, none⟩ = some (.int .i64 t312) ∧ w'.cell? ⟨gb314, 3, none⟩ = some (.int .i64 t313) ∧ w'.cell? ⟨gb314, 4, none⟩ = some (u315004) ∧ w'.cell? (ad305.add (x5_2).toNat) = some (.int .u8 (rd l0 x5_2))) (ds := [15]) #[false, false, false, false, false, false, false, false, false, false, false, false, false, false, false, false] (by kernel_rfl) rfl rfl ⟨(blk_cell BK314.out 0).trans rfl, (blk_cell BK314.out 1).trans rfl, (blk_cell BK314.out 2).trans rfl, (blk_cell BK314.out 3).trans rfl, (blk_cell BK314.out 4).trans rfl, ((HB.out.cell (World.block_lt_of_cell? w _ hw317_0)).trans hw317_0)⟩ (fun hHeld => ?_); refine with_tabW compositorref23_Read.tab18 compositorref23_Read.bits18 (fun HT_ HW_ => ?_)
                                            generalize wr.drew = w49 at HO_4 HO_315004 BK314 HB hx317_0 hHeld ⊢
                                            refine pure_ (i := 0) (N := some 77) (v := ?_) (a' := ?_) #[true, false, false, false, false, false, false, false, false, false, false, false, false, false, false, false] rfl rfl (any_of HT_.out (by kernel_rfl)) (fun _ _ _ h => h) (Or.inl ⟨by rfl, ?_⟩) ?_ ?_
                                            rotate_left
                                            · intro w'
                                              go_simp
                                              with_reducible rfl
                                            rotate_left
                                            · simp only [Act.put, List.setIfInBounds_toArray, List.set_cons_zero, List.set_cons_succ, i64_w, i32_w]
                                              rfl
                                            refine pure_ (i := 2) (N := some 79) (v := ?_) (a' := ?_) #[true, false, true, false, false, false, false, false, false, false, false, false, false, false, false, false] rfl rfl (any_of HT_.out (by kernel_rfl)) (fun _ _ _ h => h) (Or.inl ⟨by rfl, ?_⟩) ?_ ?_
                                            rotate_left
                                            · intro w'
                                              go_simp
                                              with_reducible rfl
                                            rotate_left
                                            · simp only [Act.put, List.setIfInBounds_toArray, List.set_cons_zero, List.set_cons_succ, i64_w, i32_w]
                                              rfl
                                            refine pure_ (i := 3) (N := some 80) (v := ?_) (a' := ?_) #[true, false, true, true, false, false, false, false, false, false, false, false, false, false, false, false] rfl rfl (any_of HT_.out (by kernel_rfl)) (fun _ _ _ h => h) (Or.inl ⟨by rfl, ?_⟩) ?_ ?_
                                            rotate_left
                                            · intro w'
                                              go_simp
                                              with_reducible rfl
                                            rotate_left
                                            · simp only [Act.put, List.setIfInBounds_toArray, List.set_cons_zero, List.set_cons_succ, i64_w, i32_w]
                                              rfl
                                            refine pure_ (i := 4) (N := some 81) (v := ?_) (a' := ?_) #[true, false, true, true, true, false, false, false, false, false, false, false, false, false, false, false] rfl rfl (any_of HT_.out (by kernel_rfl)) (fun _ _ _ h => h) (Or.inl ⟨by rfl, ?_⟩) ?_ ?_
                                            rotate_left
                                            · intro w'
                                              go_simp
                                              with_reducible rfl
                                            rotate_left
                                            · simp only [Act.put, List.setIfInBounds_toArray, List.set_cons_zero, List.set_cons_succ, i64_w, i32_w]
                                              rfl
                                            refine pure_ (i := 7) (N := some 84) (v := ?_) (a' := ?_) #[true, false, true, true, true, false, false, true, false, false, false, false, false, false, false, false] rfl rfl (any_of HT_.out (by kernel_rfl)) (fun _ _ _ h => h) (Or.inl ⟨by rfl, ?_⟩) ?_ ?_
                                            rotate_left
                                            · intro w'
                                              go_simp
                                              with_reducible rfl
                                            rotate_left
                                            · simp only [Act.put, List.setIfInBounds_toArray, List.set_cons_zero, List.set_cons_succ, i64_w, i32_w]
                                              rfl
                                            refine pure_ (i := 8) (N := some 85) (v := ?_) (a' := ?_) #[true, false, true, true, true, false, false, true, true, false, false, false, false, false, false, false] rfl rfl (any_of HT_.out (by kernel_rfl)) (fun _ _ _ h => h) (Or.inl ⟨by rfl, ?_⟩) ?_ ?_
                                            rotate_left
                                            · intro w'
                                              go_simp
                                              with_reducible rfl
                                            rotate_left
                                            · simp only [Act.put, List.setIfInBounds_toArray, List.set_cons_zero, List.set_cons_succ, i64_w, i32_w]
                                              rfl
                                            refine pure_ (i := 9) (N := some 86) (v := ?_) (a' := ?_) #[true, false, true, true, true, false, false, true, true, true, false, false, false, false, false, false] rfl rfl (any_of HT_.out (by kernel_rfl)) (fun _ _ _ h => h) (Or.inl ⟨by rfl, ?_⟩) ?_ ?_
                                            rotate_left
                                            · intro w'
                                              go_simp
                                              with_reducible rfl
                                            rotate_left
                                            · simp only [Act.put, List.setIfInBounds_toArray, List.set_cons_zero, List.set_cons_succ, i64_w, i32_w]
                                              rfl
                                            refine take_ (i := 1) (N := some 78) (v := ?_) (a' := ?_) #[true, true, true, true, true, false, false, true, true, true, false, false, false, false, false, false] rfl rfl (take_ofW HT_.out HW_.out (by kernel_rfl)) (fun _ _ _ h => h) (Or.inl ⟨by rfl, ?_⟩) hHeld ?_ ?_
                                            rotate_left
                                            · rintro w' ⟨s0, s1, s2, s3, s4, s5⟩
                                              go_simp
                                              with_reducible rfl
                                            rotate_left
                                            · simp only [Act.put, List.setIfInBounds_toArray, List.set_cons_zero, List.set_cons_succ, i64_w, i32_w]
                                              rfl
                                            refine take_ (i := 5) (N := some 82) (v := ?_) (a' := ?_) #[true, true, true, true, true, true, false, true, true, true, false, false, false, false, false, false] rfl rfl (take_ofW HT_.out HW_.out (by kernel_rfl)) (fun _ _ _ h => h) (Or.inl ⟨by rfl, ?_⟩) hHeld ?_ ?_
                                            rotate_left
                                            · rintro w' ⟨s0, s1, s2, s3, s4, s5⟩
                                              go_simp
                                              with_reducible rfl
                                            rotate_left
                                            · simp only [Act.put, List.setIfInBounds_toArray, List.set_cons_zero, List.set_cons_succ, i64_w, i32_w]
                                              rfl
                                            refine pure_ (i := 6) (N := some 83) (v := ?_) (a' := ?_) #[true, true, true, true, true, true, true, true, true, true, false, false, false, false, false, false] rfl rfl (any_of HT_.out (by kernel_rfl)) (fun _ _ _ h => h) (Or.inl ⟨by rfl, ?_⟩) ?_ ?_
                                            rotate_left
                                            · intro w'
                                              go_simp
                                              with_reducible rfl
                                            rotate_left
                                            · simp only [Act.put, List.setIfInBounds_toArray, List.set_cons_zero, List.set_cons_succ, i64_w, i32_w]
                                              rfl
                                            refine one_ (i := 10) (N := some 87) #[true, true, true, true, true, true, true, true, true, true, true, false, false, false, false, false] rfl rfl (one_of HT_.out (by kernel_rfl)) (by decide) (fun K hK => ?_)
                                            refine goes_ Try.func34 (by kernel_rfl) rfl #[.slice (some ad305) l0.length c0, .int .i64 (wrap64 (x5_2 + 1))] (by rfl) rfl rfl (by (try simp only [List.map_toArray, List.map_cons, List.map_nil]); first | done | rfl | (simp only [List.length_drop, List.length_take]; rfl)) ?_
                                            with_reducible refine (compositorref23_fix.calls k2 _ _ l0 (wrap64 (x5_2 + 1)) t318 _ ?side1 ?side2 A47.out).mono ?_
                                            (case side1 => repeat (first | exact (Kd.C_below HR0.out HB.out) | (with_reducible refine Kd.C_alloc ?_ _) | (with_reducible refine Kd.C_drewN ?_ _) | (with_reducible refine Kd.C_drew ?_)))
                                            (case side2 => exact HC0.out)
                                            rintro e w50 ⟨rfl, hb⟩
                                            refine ⟨_, rfl, ?_⟩
                                            have n0_ := Aside0.mk (Kd.S_below (by (with_reducible repeat (first | apply Kd.S_alloc | apply Kd.S_drewN | apply Kd.S_drew)); exact HO_4.out) hb)
                                            have n1_ := Aside0.mk (Kd.R_below (by (with_reducible repeat (first | apply Kd.R_alloc | apply Kd.R_drewN | apply Kd.R_drew)); exact HO_315004.out) hb)
                                            have n2_ := Aside0.mk (blk_below (g := gb314) (o := .cells #[.int .i64 (wrap64 ((wrap64 (rd l0 x5_1)) - 8)), .int .i64 (wrap64 (rd l0 (ji8))), .int .i64 t312, .int .i64 t313, u315004] 41 (0, 0)) (by (with_reducible repeat (first | refine blk_drewN ?_ _ | refine blk_drew ?_ | refine blk_alloc ?_ _)); exact BK314.out) hb)
                                            have n3_ := Aside0.mk (below_step (by repeat (first | (with_reducible first | exact HB.out | apply below_alloc | apply pw_below_drewN | apply below_drew1 | refine below_set ?_ GE314.out) | exact HB.out)) hb)
                                            clear HO_4
                                            clear HO_315004
                                            clear BK314
                                            clear HB
                                            have HO_4 := n0_
                                            have HO_315004 := n1_
                                            have BK314 := n2_
                                            have HB := n3_
                                            clear n0_ n1_ n2_ n3_
                                            (try clear hb)
                                            (try clear hb2)
                                            (try clear hk)
                                            (try clear hi)
                                            refine hK.out _ _ ⟨(blk_cell BK314.out 0).trans rfl, (blk_cell BK314.out 1).trans rfl, (blk_cell BK314.out 2).trans rfl, (blk_cell BK314.out 3).trans rfl, (blk_cell BK314.out 4).trans rfl, ((HB.out.cell (World.block_lt_of_cell? w _ hw317_0)).trans hw317_0)⟩ (fun hHeld => ?_)
                                            clear hK K
                                            refine norm_ (a' := ?_) ?_ ?_
                                            rotate_left
                                            · show Act.put _ (some 87) _ = _
                                              simp only [Act.put, List.setIfInBounds_toArray, List.set_cons_zero, List.set_cons_succ, i64_w, i32_w]
                                              rfl
                                            refine pure_ (i := 11) (N := some 88) (v := ?_) (a' := ?_) #[true, true, true, true, true, true, true, true, true, true, true, true, false, false, false, false] rfl rfl (any_of HT_.out (by kernel_rfl)) (fun _ _ _ h => h) (Or.inl ⟨by rfl, ?_⟩) ?_ ?_
                                            rotate_left
                                            · intro w'
                                              go_simp
                                              with_reducible rfl
                                            rotate_left
                                            · simp only [Act.put, List.setIfInBounds_toArray, List.set_cons_zero, List.set_cons_succ, i64_w, i32_w]
                                              rfl
                                            refine one_ (i := 12) (N := some 89) #[true, true, true, true, true, true, true, true, true, true, true, true, true, false, false, false] rfl rfl (one_of HT_.out (by kernel_rfl)) (by decide) (fun K hK => ?_)
                                            refine value_ (w1 := ?_) (v := ?_) (by rfl) rfl ?_ ?_
                                            rotate_left 2
                                            · go_simp
                                              constructor
                                              · rfl
                                              · rfl
                                            refine hK.out _ _ ⟨(blk_cell (blk_alloc BK314.out _) 0).trans rfl, (blk_cell (blk_alloc BK314.out _) 1).trans rfl, (blk_cell (blk_alloc BK314.out _) 2).trans rfl, (blk_cell (blk_alloc BK314.out _) 3).trans rfl, (blk_cell (blk_alloc BK314.out _) 4).trans rfl, (World.cell?_alloc_lt _ _ _ (World.block_lt_of_cell? _ _ (((HB.out.cell (World.block_lt_of_cell? w _ hw317_0)).trans hw317_0)))).trans (((HB.out.cell (World.block_lt_of_cell? w _ hw317_0)).trans hw317_0))⟩ (fun hHeld => ?_)
                                            clear hK K
                                            refine norm_ (a' := ?_) ?_ ?_
                                            rotate_left
                                            · show Act.put _ (some 89) _ = _
                                              simp only [Act.put, List.setIfInBounds_toArray, List.set_cons_zero, List.set_cons_succ, i64_w, i32_w]
                                              rfl
                                            refine one_ (i := 13) (N := some 90) #[true, true, true, true, true, true, true, true, true, true, true, true, true, true, false, false] rfl rfl (one_of HT_.out (by kernel_rfl)) (by decide) (fun K hK => ?_)
                                            refine Kd.R_append_step k43 (w0 := w) w.heap.size (by rfl) (.tmp 78) (.tmp 89) 39 43 (.agg #[(.int .i64 0), (.int .i64 0)]) 16 rfl Try.underlying39 info43 rfl (by decide) (by omega) u315004 x315004_2 (⟨wrap64 (rd l0 x5_2), t318⟩ : S43) [.int .i64 (wrap64 (rd l0 x5_2)), .int .i64 t318] (fun _ => True) (fun _ => False) rfl rfl ?aP (fun _ hk => hk.elim) ?aF ?aO ?aB ?aS ?aL ?_
                                            (case aP => exact k43_mkM _ _ _ (⟨wrap64 (rd l0 x5_2), t318⟩ : S43))
                                            (case aB => exact (by repeat (first | (with_reducible first | exact HB.out | apply below_alloc | apply pw_below_drewN | apply below_drew1 | refine below_set ?_ GE314.out) | exact HB.out)))
                                            (case aF => exact (fun _ _ => trivial))
                                            (case aO => exact (by (with_reducible repeat (first | apply Kd.R_alloc | apply Kd.R_drewN | apply Kd.R_drew)); exact HO_315004.out))
                                            (case aS => exact (below_size (by repeat (first | (with_reducible first | exact HB.out | apply below_alloc | apply pw_below_drewN | apply below_drew1 | refine below_set ?_ GE314.out) | exact HB.out))))
                                            (case aL => have := LMc48.out; omega)
                                            intro v320 w51 ho hb hg hat
                                            rw [← Ny319.out] at ho
                                            have n0_ := Aside0.mk (Kd.S_after (ok := (fun k_ => k_ ≠ gb314)) (by (with_reducible repeat (first | apply Kd.S_alloc | apply Kd.S_drewN | apply Kd.S_drew)); exact Kd.S_mono HO_4.out (fun _ hk => ⟨hk.2, hk.1⟩)) hg hat)
                                            have n1_ := Aside0.mk (blk_grown (g := gb314) (o := .cells #[.int .i64 (wrap64 ((wrap64 (rd l0 x5_1)) - 8)), .int .i64 (wrap64 (rd l0 (ji8))), .int .i64 t312, .int .i64 t313, u315004] 41 (0, 0)) (by (with_reducible repeat (first | refine blk_drewN ?_ _ | refine blk_drew ?_ | refine blk_alloc ?_ _)); exact BK314.out) hg (Kd.R_ne HO_315004.out BK314.out (by decide)))
                                            have n2_ := Aside0.mk (hb)
                                            have n3_ := Aside0.mk (ho)
                                            clear HO_4
                                            clear BK314
                                            clear HB
                                            clear HO_315004
                                            have HO_4 := n0_
                                            have BK314 := n1_
                                            have HB := n2_
                                            have HO321 := n3_
                                            clear n0_ n1_ n2_ n3_
                                            clear ho hb hg hat
                                            obtain ⟨Ao52, co52, eo52⟩ := Kd.R_slice HO321.out
                                            (first | subst eo52 | (injection eo52 with f1_ f2_ f3_; have f4_ := f1_.symm; have f5_ := f3_.symm; clear f1_ f2_ f3_; subst f4_; subst f5_))
                                            refine hK.out _ _ ⟨(blk_cell BK314.out 0).trans rfl, (blk_cell BK314.out 1).trans rfl, (blk_cell BK314.out 2).trans rfl, (blk_cell BK314.out 3).trans rfl, (blk_cell BK314.out 4).trans rfl, ((HB.out.cell (World.block_lt_of_cell? w _ hw317_0)).trans hw317_0)⟩ (fun hHeld => ?_)
                                            clear hK K
                                            refine norm_ (a' := ?_) ?_ ?_
                                            rotate_left
                                            · show Act.put _ (some 90) _ = _
                                              simp only [Act.put, List.setIfInBounds_toArray, List.set_cons_zero, List.set_cons_succ, i64_w, i32_w]
                                              rfl
                                            refine pure_ (i := 14) (N := some 91) (v := ?_) (a' := ?_) #[true, true, true, true, true, true, true, true, true, true, true, true, true, true, true, false] rfl rfl (any_of HT_.out (by kernel_rfl)) (fun _ _ _ h => h) (Or.inl ⟨by rfl, ?_⟩) ?_ ?_
                                            rotate_left
                                            · intro w'
                                              go_simp
                                              with_reducible rfl
                                            rotate_left
                                            · simp only [Act.put, List.setIfInBounds_toArray, List.set_cons_zero, List.set_cons_succ, i64_w, i32_w]
                                              rfl
                                            refine last_ (i := 15) (N := none) #[true, true, true, true, true, true, true, true, true, true, true, true, true, true, true, true] rfl rfl (one_of HT_.out (by kernel_rfl)) (by decide) (fun K hK => ?_)
                                            have hs53 : w51.cell? ⟨gb314, 4, none⟩ = some (u315004) := (blk_cell BK314.out 4).trans rfl
                                            have hfs53 := blk_frozen BK314.out 4
                                            refine skip_ (w1 := ?_) (by rfl) rfl ?_ ?_
                                            rotate_left
                                            · go_simp
                                              rfl
                                            refine hK.out _ _ ?_
                                            clear hK K
                                            refine done_ (done_of HT_.out (by kernel_rfl)) ?_
                                            try go_wp2
                                            go_roundg k2
                                            case measure => have := HK1.out; have := HK2.out; omega
                                            case rel => exact ⟨(wrap64 (x5_2 + 5)), (wrap64 (x9_2 + 1)), (y319), (.slice Ao52 y319.length co52), (by first | rfl | (simp; done) | (simp [*]; done)), (by first | rfl | (simp; done) | (simp [*]; done)), H', ⟨by have := HK1.out; have := HK2.out; omega⟩, ⟨by (with_reducible repeat (first | apply Kd.S_alloc | apply Kd.S_drewN | apply Kd.S_drew)); exact Kd.S_mono (Kd.S_far (p := ⟨gb314, 4, none⟩) (Kd.S_mono HO_4.out (fun k_ hk => (⟨hk, hk.1⟩ : _ ∧ k_ ≠ gb314))) (fun _ hk => hk.2) (.slice Ao52 y319.length co52)) (fun _ hk => ⟨hk.1.2, hk.1.1⟩)⟩, ⟨by (with_reducible repeat (first | apply Kd.R_alloc | apply Kd.R_drewN | apply Kd.R_drew)); exact Kd.R_mono (Kd.R_far (p := ⟨gb314, 4, none⟩) (Kd.R_types HO321.out BK314.out (by decide)) (fun _ hk => hk.2) (.slice Ao52 y319.length co52)) (fun _ hk => trivial)⟩, ⟨by (with_reducible repeat (first | refine blk_drewN ?_ _ | refine blk_drew ?_ | refine blk_alloc ?_ _)); refine blk_put (cs := #[.int .i64 (wrap64 ((wrap64 (rd l0 x5_1)) - 8)), .int .i64 (wrap64 (rd l0 (ji8))), .int .i64 t312, .int .i64 t313, u315004]) ?_ 4 _ rfl; (with_reducible repeat (first | refine blk_drewN ?_ _ | refine blk_drew ?_ | refine blk_alloc ?_ _)); exact BK314.out⟩, ⟨by repeat (first | (with_reducible first | exact HB.out | apply below_alloc | apply pw_below_drewN | apply below_drew1 | refine below_set ?_ GE314.out) | exact HB.out)⟩⟩
                                          · rw [if_neg c48] at H
                                            exact absurd H (by simp)
                                        · rw [if_neg c46] at H
                                          exact absurd H (by simp)
                                      · rw [if_neg c45] at H
                                        exact absurd H (by simp)
                                    · rw [if_neg c44] at H
                                      have c44b0 : decide (x9_2 < (wrap64 ((wrap64 (256 * (wrap64 (rd l0 (ji13))))) + (wrap64 (rd l0 (ji16)))))) = false := decide_eq_false c44
                                      clear c44
                                      by_cases c54 : x4_1.length < 2513169434916
                                      · rw [if_pos c54] at H
                                        have LMc54 := Aside0.mk c54
                                        clear c54
                                        obtain ⟨y322, hy322⟩ : ∃ y_ : List (S41), y_ = (x4_1 ++ [(⟨(wrap64 ((wrap64 (rd l0 x5_1)) - 8)), (wrap64 (rd l0 (ji8))), t312, t313, x315004_2⟩ : S41)]) := ⟨_, rfl⟩
                                        replace H : (compositorref23_Read.l0 k2 l0 y322 x5_2 (wrap64 (x6_1 + 1))) = some (r1, r2) := by first | (rw [hy322]; with_reducible exact H) | (have H2_ := (Option.bind_some _ _).symm.trans H; rw [hy322]; with_reducible exact H2_) | (have H2_ := (Option.bind_some _ _).symm.trans H; with_reducible exact H2_) | with_reducible exact H | (rw [hy322]; exact H) | exact H
                                        have Ny322 := Aside0.mk hy322
                                        clear hy322
                                        have H' := Aside0.mk H
                                        clear H
                                        have hcz55_0 : wr.cell? ⟨gb314, 0, none⟩ = some (.int .i64 (wrap64 ((wrap64 (rd l0 x5_1)) - 8))) := (blk_cell BK314.out 0).trans rfl
                                        have hcz55_1 : wr.cell? ⟨gb314, 1, none⟩ = some (.int .i64 (wrap64 (rd l0 (ji8)))) := (blk_cell BK314.out 1).trans rfl
                                        have hcz55_2 : wr.cell? ⟨gb314, 2, none⟩ = some (.int .i64 t312) := (blk_cell BK314.out 2).trans rfl
                                        have hcz55_3 : wr.cell? ⟨gb314, 3, none⟩ = some (.int .i64 t313) := (blk_cell BK314.out 3).trans rfl
                                        have hcz55_4 : wr.cell? ⟨gb314, 4, none⟩ = some (u315004) := (blk_cell BK314.out 4).trans rfl
                                        have hfz55_0 := blk_frozen BK314.out 0
                                        have hfz55_1 := blk_frozen BK314.out 1
                                        have hfz55_2 := blk_frozen BK314.out 2
                                        have hfz55_3 := blk_frozen BK314.out 3
                                        have hfz55_4 := blk_frozen BK314.out 4
                                        obtain ⟨Ao57, co57, eo57⟩ := Kd.R_slice HO_315004.out
                                        subst eo57
                                        go_wp2_with (first | ((with_reducible refine gate_builtin (b := .append) (xs := #[.tmp 94, .tmp 96]) rfl ?_); at_builtin; refine Kd.S_append k41 (w0 := w) w.heap.size rfl (.tmp 94) (.tmp 96) 22 41 (.agg #[(.int .i64 0), (.int .i64 0), (.int .i64 0), (.int .i64 0), (.slice none 0 0)]) 56 rfl Try.underlying22 info41 rfl (by decide) (by omega) u4 x4_1 (⟨(wrap64 ((wrap64 (rd l0 x5_1)) - 8)), (wrap64 (rd l0 (ji8))), t312, t313, x315004_2⟩ : S41) [.int .i64 (wrap64 ((wrap64 (rd l0 x5_1)) - 8)), .int .i64 (wrap64 (rd l0 (ji8))), .int .i64 t312, .int .i64 t313, .slice Ao57 x315004_2.length co57] (fun k_ => k_ ≠ gb314) (fun k_ => some k_ = (.slice Ao57 x315004_2.length co57 : Value).ownBlock) rfl rfl ?aP (fun k_ hk_ => ((Kd.R_mono (ok' := fun k_ => ((fun k_ => k_ ≠ gb314)) k_ ∧ some k_ ≠ (u4 : Value).ownBlock) (Kd.R_types (Kd.R_apart' (HO_315004.out) (Kd.S_typed HO_4.out) (by decide)) BK314.out (by decide)) (fun k_ hk => ⟨hk.2, hk.1.2⟩))).1 k_ hk_.symm) ?aF ?aO ?aB ?aS ?aL ?_; (case aP => exact k41_mkM _ _ _ (⟨(wrap64 ((wrap64 (rd l0 x5_1)) - 8)), (wrap64 (rd l0 (ji8))), t312, t313, x315004_2⟩ : S41) (Kd.R_mono (Kd.R_tight rfl (Kd.R_mono (ok' := fun k_ => ((fun k_ => k_ ≠ gb314)) k_ ∧ some k_ ≠ (u4 : Value).ownBlock) (Kd.R_types (Kd.R_apart' (HO_315004.out) (Kd.S_typed HO_4.out) (by decide)) BK314.out (by decide)) (fun k_ hk => ⟨hk.2, hk.1.2⟩))) (fun _ h_ => h_))); (case aB => exact (by repeat (first | (with_reducible first | exact HB.out | apply below_alloc | apply pw_below_drewN | apply below_drew1 | refine below_set ?_ GE314.out) | exact HB.out))); (case aF => exact (fun k_ hk => Kd.freshB (g := gb314) (o := .cells #[.int .i64 (wrap64 ((wrap64 (rd l0 x5_1)) - 8)), .int .i64 (wrap64 (rd l0 (ji8))), .int .i64 t312, .int .i64 t313, .slice Ao57 x315004_2.length co57] 41 (0, 0)) (by (with_reducible repeat (first | refine blk_drewN ?_ _ | refine blk_drew ?_ | refine blk_alloc ?_ _)); exact BK314.out) k_ hk)); (case aO => exact (by (with_reducible repeat (first | apply Kd.S_alloc | apply Kd.S_drewN | apply Kd.S_drew)); exact Kd.S_mono HO_4.out (fun k_ hk => ⟨hk.2, fun e_ => hk.1 e_⟩))); (case aS => exact (below_size (by repeat (first | (with_reducible first | exact HB.out | apply below_alloc | apply pw_below_drewN | apply below_drew1 | refine below_set ?_ GE314.out) | exact HB.out)))); (case aL => have := LMc54.out; omega); intro v323 w56 ho hb hg hat; rw [← Ny322.out] at ho; have n0_ := Aside0.mk (blk_grown (g := gb314) (o := .cells #[.int .i64 (wrap64 ((wrap64 (rd l0 x5_1)) - 8)), .int .i64 (wrap64 (rd l0 (ji8))), .int .i64 t312, .int .i64 t313, .slice Ao57 x315004_2.length co57] 41 (0, 0)) (by (with_reducible repeat (first | refine blk_drewN ?_ _ | refine blk_drew ?_ | refine blk_alloc ?_ _)); exact BK314.out) hg (Kd.S_away HO_4.out (fun _ hk => hk.2))); have n1_ := Aside0.mk (hb); have n2_ := Aside0.mk (ho); clear BK314; clear HB; clear HO_4; clear HO_315004; have BK314 := n0_; have HB := n1_; have HO324 := n2_; clear n0_ n1_ n2_; clear ho hb hg hat))
                                        go_roundg k2
                                        case measure => have := HK1.out; have := HK2.out; omega
                                        case rel => exact ⟨(y322), (x5_2), (wrap64 (x6_1 + 1)), (by first | rfl | (simp; done) | (simp [*]; done)), (by first | rfl | (simp; done) | (simp [*]; done)), H', ⟨by have := HK1.out; have := HK2.out; omega⟩, ⟨by (with_reducible repeat (first | apply Kd.S_alloc | apply Kd.S_drewN | apply Kd.S_drew)); exact Kd.S_mono HO324.out (fun _ hk => trivial)⟩, ⟨by repeat (first | (with_reducible first | exact HB.out | apply below_alloc | apply pw_below_drewN | apply below_drew1 | refine below_set ?_ GE314.out) | exact HB.out)⟩⟩
                                      · rw [if_neg c54] at H
                                        exact absurd H (by simp)
                            · rw [if_neg c18] at H
                              exact absurd H (by simp)
                          · rw [if_neg c17] at H
                            exact absurd H (by simp)
                        · rw [if_neg c15] at H
                          exact absurd H (by simp)
                      · rw [if_neg c14] at H
                        exact absurd H (by simp)
                    · rw [if_neg c10] at H
                      exact absurd H (by simp)
                  · rw [if_neg c9] at H
                    exact absurd H (by simp)
                · rw [if_neg c7] at H
                  exact absurd H (by simp)
              · rw [if_neg c6] at H
                exact absurd H (by simp)
          · rw [if_neg c4] at H
            have c4b0 : decide (x6_1 < (wrap64 (rd l0 2))) = false := decide_eq_false c4
            clear c4
            replace H := Option.bind_eq_some_iff.mp H
            obtain ⟨⟨t306, t307⟩, A580, H⟩ := H
            replace H : (if t307 = 0 then (if (strOfNums t306).toList = (strOfNums l0).toList then (some (x4_1, 0)) else (some (([] : List (S41)), 230))) else (some (([] : List (S41)), 230))) = some (r1, r2) := H
            have A58 := Aside0.mk A580
            clear A580
            by_cases c59 : t307 = 0
            · rw [if_pos c59] at H
              have c59b0 : (t307 == 0) = true := beq_iff_eq.mpr c59
              have c59b1 : (t307 != 0) = false := bne_eq_false_iff_eq.mpr c59
              clear c59
              by_cases c60 : (strOfNums t306).toList = (strOfNums l0).toList
              · rw [if_pos c60] at H
                have c60b0 : ((strOfNums t306).toList == (strOfNums l0).toList) = true := beq_iff_eq.mpr c60
                have c60b1 : ((strOfNums t306).toList != (strOfNums l0).toList) = false := bne_eq_false_iff_eq.mpr c60
                clear c60
                simp only [Option.some.injEq, Prod.mk.injEq] at H
                obtain ⟨rfl, rfl⟩ := H
                have p305 : 0 ≤ (2 : Int) := (by omega)
                have q305 : 2 < (l0.length : Int) := of_decide_eq_true (by first | (with_reducible assumption) | assumption)
                obtain ⟨ad305, e305, hx305_0⟩ := Kd.at_int HR0.out 2 p305 q305
                cases e305
                (try simp only [show (2 : Int).toNat = 2 from rfl, Nat.reduceMul, Nat.reduceEqDiff, Go.Addr.add, ↓reduceIte] at hx305_0)
                have qi305 : (2 < l0.length) = True := eq_true (by omega)
                (try rw [show ((2 : Int)).toNat = 2 from rfl] at hx305_0)
                replace hx305_0 := (HB.out.cell (World.block_lt_of_cell? w _ hx305_0)).trans hx305_0
                replace p305 := eq_true p305
                replace q305 := eq_true q305
                obtain ⟨Ao61, co61, eo61⟩ := Kd.S_slice HO_4.out
                subst eo61
                go_wp2_with (first | ((with_reducible refine gate_callee (f := 10) rfl ?_); refine goesL_ (some 100) rfl rfl Try.func10 (by kernel_rfl) rfl #[.slice Ao61 x4_1.length co61] rfl (by (try simp only [List.map_toArray, List.map_cons, List.map_nil]); first | done | rfl | (simp only [List.length_drop, List.length_take]; rfl)) ?_; (with_reducible refine (compositorref23_Write.calls k1 _ _ x4_1 t306 t307 _ ?side1 ?side2 A58.out).mono ?_); (case side1 => repeat (first | exact (Kd.S_reads' HO_4.out).2.2 | (with_reducible refine Kd.C_alloc ?_ _) | (with_reducible refine Kd.C_drewN ?_ _) | (with_reducible refine Kd.C_drew ?_))); (case side2 => exact (Kd.S_reads' HO_4.out).2.1); rintro e w62 ⟨v308, rfl, ho0, hb⟩; refine ⟨_, rfl, ?_⟩; have n0_ := Aside0.mk (Kd.S_below (by (with_reducible repeat (first | apply Kd.S_alloc | apply Kd.S_drewN | apply Kd.S_drew)); exact HO_4.out) hb); have n1_ := Aside0.mk (Kd.R_lower ho0 (below_size (by repeat (first | (with_reducible first | exact HB.out | apply below_alloc | apply pw_below_drewN | apply below_drew1) | exact HB.out)))); have n2_ := Aside0.mk (below_step (by repeat (first | (with_reducible first | exact HB.out | apply below_alloc | apply pw_below_drewN | apply below_drew1) | exact HB.out)) hb); clear HO_4; clear HB; have HO_4 := n0_; have HO309 := n1_; have HB := n2_; clear n0_ n1_ n2_; (try clear hb); (try clear hb2); (try clear hk); (try clear hi); (try clear ho0); have hcv63 := own_string (P := Try.prog) Try.underlying25 Try.underlying5 Try.underlying9 (Kd.own_of_R HO309.out); have hcv64 := Kd.C_string (P := Try.prog) (A := (some ad305)) (c := c0) Try.underlying25 Try.underlying5 Try.underlying9 (Kd.C_below HR0.out HB.out)))
                go_ret2
                exact ⟨_, by first | rfl | (simp [errW_none, errW_some] <;> rfl) | (simp [*, errW_none, errW_some] <;> rfl), by (with_reducible repeat (first | apply Kd.S_alloc | apply Kd.S_drewN | apply Kd.S_drew)); exact HO_4.out, by repeat (first | (with_reducible first | exact HB.out | apply below_alloc | apply pw_below_drewN | apply below_drew1) | exact HB.out)⟩
              · rw [if_neg c60] at H
                have c60b0 : ((strOfNums t306).toList == (strOfNums l0).toList) = false := beq_eq_false_iff_ne.mpr c60
                have c60b1 : ((strOfNums t306).toList != (strOfNums l0).toList) = true := bne_iff_ne.mpr c60
                simp only [Option.some.injEq, Prod.mk.injEq] at H
                obtain ⟨rfl, rfl⟩ := H
                have p305 : 0 ≤ (2 : Int) := (by omega)
                have q305 : 2 < (l0.length : Int) := of_decide_eq_true (by first | (with_reducible assumption) | assumption)
                obtain ⟨ad305, e305, hx305_0⟩ := Kd.at_int HR0.out 2 p305 q305
                cases e305
                (try simp only [show (2 : Int).toNat = 2 from rfl, Nat.reduceMul, Nat.reduceEqDiff, Go.Addr.add, ↓reduceIte] at hx305_0)
                have qi305 : (2 < l0.length) = True := eq_true (by omega)
                (try rw [show ((2 : Int)).toNat = 2 from rfl] at hx305_0)
                replace hx305_0 := (HB.out.cell (World.block_lt_of_cell? w _ hx305_0)).trans hx305_0
                replace p305 := eq_true p305
                replace q305 := eq_true q305
                obtain ⟨Ao65, co65, eo65⟩ := Kd.S_slice HO_4.out
                subst eo65
                go_wp2_with (first | ((with_reducible refine gate_callee (f := 10) rfl ?_); refine goesL_ (some 100) rfl rfl Try.func10 (by kernel_rfl) rfl #[.slice Ao65 x4_1.length co65] rfl (by (try simp only [List.map_toArray, List.map_cons, List.map_nil]); first | done | rfl | (simp only [List.length_drop, List.length_take]; rfl)) ?_; (with_reducible refine (compositorref23_Write.calls k1 _ _ x4_1 t306 t307 _ ?side1 ?side2 A58.out).mono ?_); (case side1 => repeat (first | exact (Kd.S_reads' HO_4.out).2.2 | (with_reducible refine Kd.C_alloc ?_ _) | (with_reducible refine Kd.C_drewN ?_ _) | (with_reducible refine Kd.C_drew ?_))); (case side2 => exact (Kd.S_reads' HO_4.out).2.1); rintro e w66 ⟨v308, rfl, ho0, hb⟩; refine ⟨_, rfl, ?_⟩; have n0_ := Aside0.mk (Kd.S_below (by (with_reducible repeat (first | apply Kd.S_alloc | apply Kd.S_drewN | apply Kd.S_drew)); exact HO_4.out) hb); have n1_ := Aside0.mk (Kd.R_lower ho0 (below_size (by repeat (first | (with_reducible first | exact HB.out | apply below_alloc | apply pw_below_drewN | apply below_drew1) | exact HB.out)))); have n2_ := Aside0.mk (below_step (by repeat (first | (with_reducible first | exact HB.out | apply below_alloc | apply pw_below_drewN | apply below_drew1) | exact HB.out)) hb); clear HO_4; clear HB; have HO_4 := n0_; have HO309 := n1_; have HB := n2_; clear n0_ n1_ n2_; (try clear hb); (try clear hb2); (try clear hk); (try clear hi); (try clear ho0); have hcv67 := own_string (P := Try.prog) Try.underlying25 Try.underlying5 Try.underlying9 (Kd.own_of_R HO309.out); have hcv68 := Kd.C_string (P := Try.prog) (A := (some ad305)) (c := c0) Try.underlying25 Try.underlying5 Try.underlying9 (Kd.C_below HR0.out HB.out)))
                go_ret2
                exact ⟨_, by first | rfl | (simp [errW_none, errW_some] <;> rfl) | (simp [*, errW_none, errW_some] <;> rfl), by first | exact Kd.S_nil _ _ _ _ _ | exact Kd.N_nil _ _ _ _ _ | exact Kd.V_nil _ _ _ _ _ | exact Kd.Q_nil _ _ _ _ _ | exact Kd.R_nil _ _ _ _ _, by repeat (first | (with_reducible first | exact HB.out | apply below_alloc | apply pw_below_drewN | apply below_drew1) | exact HB.out)⟩
            · rw [if_neg c59] at H
              have c59b0 : (t307 == 0) = false := beq_eq_false_iff_ne.mpr c59
              have c59b1 : (t307 != 0) = true := bne_iff_ne.mpr c59
              simp only [Option.some.injEq, Prod.mk.injEq] at H
              obtain ⟨rfl, rfl⟩ := H
              have p305 : 0 ≤ (2 : Int) := (by omega)
              have q305 : 2 < (l0.length : Int) := of_decide_eq_true (by first | (with_reducible assumption) | assumption)
              obtain ⟨ad305, e305, hx305_0⟩ := Kd.at_int HR0.out 2 p305 q305
              cases e305
              (try simp only [show (2 : Int).toNat = 2 from rfl, Nat.reduceMul, Nat.reduceEqDiff, Go.Addr.add, ↓reduceIte] at hx305_0)
              have qi305 : (2 < l0.length) = True := eq_true (by omega)
              (try rw [show ((2 : Int)).toNat = 2 from rfl] at hx305_0)
              replace hx305_0 := (HB.out.cell (World.block_lt_of_cell? w _ hx305_0)).trans hx305_0
              replace p305 := eq_true p305
              replace q305 := eq_true q305
              obtain ⟨Ao69, co69, eo69⟩ := Kd.S_slice HO_4.out
              subst eo69
              go_wp2_with (first | ((with_reducible refine gate_callee (f := 10) rfl ?_); refine goesL_ (some 100) rfl rfl Try.func10 (by kernel_rfl) rfl #[.slice Ao69 x4_1.length co69] rfl (by (try simp only [List.map_toArray, List.map_cons, List.map_nil]); first | done | rfl | (simp only [List.length_drop, List.length_take]; rfl)) ?_; (with_reducible refine (compositorref23_Write.calls k1 _ _ x4_1 t306 t307 _ ?side1 ?side2 A58.out).mono ?_); (case side1 => repeat (first | exact (Kd.S_reads' HO_4.out).2.2 | (with_reducible refine Kd.C_alloc ?_ _) | (with_reducible refine Kd.C_drewN ?_ _) | (with_reducible refine Kd.C_drew ?_))); (case side2 => exact (Kd.S_reads' HO_4.out).2.1); rintro e w70 ⟨v308, rfl, ho0, hb⟩; refine ⟨_, rfl, ?_⟩; have n0_ := Aside0.mk (Kd.S_below (by (with_reducible repeat (first | apply Kd.S_alloc | apply Kd.S_drewN | apply Kd.S_drew)); exact HO_4.out) hb); have n1_ := Aside0.mk (Kd.R_lower ho0 (below_size (by repeat (first | (with_reducible first | exact HB.out | apply below_alloc | apply pw_below_drewN | apply below_drew1) | exact HB.out)))); have n2_ := Aside0.mk (below_step (by repeat (first | (with_reducible first | exact HB.out | apply below_alloc | apply pw_below_drewN | apply below_drew1) | exact HB.out)) hb); clear HO_4; clear HB; have HO_4 := n0_; have HO309 := n1_; have HB := n2_; clear n0_ n1_ n2_; (try clear hb); (try clear hb2); (try clear hk); (try clear hi); (try clear ho0)))
              go_ret2
              exact ⟨_, by first | rfl | (simp [errW_none, errW_some] <;> rfl) | (simp [*, errW_none, errW_some] <;> rfl), by first | exact Kd.S_nil _ _ _ _ _ | exact Kd.N_nil _ _ _ _ _ | exact Kd.V_nil _ _ _ _ _ | exact Kd.Q_nil _ _ _ _ _ | exact Kd.R_nil _ _ _ _ _, by repeat (first | (with_reducible first | exact HB.out | apply below_alloc | apply pw_below_drewN | apply below_drew1) | exact HB.out)⟩
        · rw [if_neg c3] at H
          exact absurd H (by simp)

end Go.Proofs.Ythlhfnbaihdjkaa.Q
