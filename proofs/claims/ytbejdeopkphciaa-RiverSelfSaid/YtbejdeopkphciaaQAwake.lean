/- awake: its contract. -/
import Derived.Test.YtbejdeopkphciaaQRefC
import Derived.Test.YtbejdeopkphciaaQPl
namespace Go.Proofs.Ytbejdeopkphciaa.Q
open Go.RowKit Go.Shelf Go.Proofs.YtbejdeopkphciaaW.PrintWords Go.Proofs.YtbejdeopkphciaaW.PrintLast Go.Proofs.YtbejdeopkphciaaW.PrintMore
set_option linter.unusedVariables false
set_option linter.unusedSimpArgs false

/-- A row that lies in one block is read. -/
theorem C_lit {w : World} {g t : Nat} {cells : Array Value} {xs : List S33} (h : w.heap[g]? = some (.cells cells t (0, 0))) (hn : xs.length ≤ 9223372036854775807) (hc : ∀ j p, xs[j]? = some p → cells[j * 2]? = some (.int .i64 p.f0) ∧ cells[j * 2 + 1]? = some (.int .i64 p.f1)) : Kd.C k33 w (some ⟨g, 0, none⟩) xs.length xs := by
  refine ⟨rfl, hn, fun _ => ⟨_, rfl, fun j p hj => ⟨enc2 p, rfl, k33_mk _ p, fun i u hu => ?_⟩⟩⟩
  obtain ⟨h1, h2⟩ := hc j p hj
  have hi : i < 2 := (List.getElem?_eq_some_iff.1 hu).1
  rw [Addr.add_lit, show 0 + (j * k33.sz + i) = j * 2 + i from by show 0 + (j * 2 + i) = _; omega, blk_cell h]
  rcases (show i = 0 ∨ i = 1 by omega) with rfl | rfl
  · cases hu; exact h1
  · cases hu; exact h2

def aw1 : List S33 := [⟨97, 0⟩, ⟨32, 3⟩, ⟨97, 5⟩, ⟨32, 8⟩]
def aw2 : List S33 := [⟨32, 4⟩, ⟨97, 9⟩]

theorem aw_g1 : gapsF aw1 9 = [⟨3, 5⟩, ⟨8, 9⟩] := by rw [gapsF_eq]; rfl
theorem aw_g0 : gapsF [] 0 = [] := by rw [gapsF_eq]; rfl
theorem aw_c1 : countF aw1 9 aw2 12 = 2 := by rw [(count_eq aw1 aw2 9 12 (by decide) (by decide)).1]; rfl
theorem aw_c0 : countF aw1 9 [] 0 = 0 := by rw [(count_eq aw1 [] 9 0 (by decide) (by decide)).1]; rfl
def AwBoxes (M : Nat) (W : World) : Prop := W.heap[M]? = some (.cells #[.int .i64 97, .int .i64 0, .int .i64 32, .int .i64 3, .int .i64 97, .int .i64 5, .int .i64 32, .int .i64 8] 33 (0, 0)) ∧
  W.heap[M + 1]? = some (.cells #[.int .i64 0, .int .i64 0, .int .i64 9, .int .i64 0, .slice (some ⟨M, 0, none⟩) 4 4] 24 (0, 0)) ∧
  W.heap[M + 2]? = some (.cells #[.int .i64 32, .int .i64 4, .int .i64 97, .int .i64 9] 33 (0, 0)) ∧
  W.heap[M + 3]? = some (.cells #[.int .i64 0, .int .i64 0, .int .i64 12, .int .i64 0, .slice (some ⟨M + 2, 0, none⟩) 2 2] 24 (0, 0))
theorem AwBoxes.below {M : Nat} {W W' : World} (h : AwBoxes M W) (hb : Below W.heap.size W W') : AwBoxes M W' := ⟨blk_below h.1 hb, blk_below h.2.1 hb, blk_below h.2.2.1 hb, blk_below h.2.2.2 hb⟩
theorem AwBoxes.a {M : Nat} {W : World} (h : AwBoxes M W) : Kd.C k33 W (some ⟨M, 0, none⟩) aw1.length aw1 := C_lit h.1 (by decide) (fun j p hj => by
  match j, hj with
  | 0, hj => cases hj; exact ⟨rfl, rfl⟩
  | 1, hj => cases hj; exact ⟨rfl, rfl⟩
  | 2, hj => cases hj; exact ⟨rfl, rfl⟩
  | 3, hj => cases hj; exact ⟨rfl, rfl⟩
  | n + 4, hj => cases hj)
theorem AwBoxes.b {M : Nat} {W : World} (h : AwBoxes M W) : Kd.C k33 W (some ⟨M + 2, 0, none⟩) aw2.length aw2 := C_lit h.2.2.1 (by decide) (fun j p hj => by
  match j, hj with
  | 0, hj => cases hj; exact ⟨rfl, rfl⟩
  | 1, hj => cases hj; exact ⟨rfl, rfl⟩
  | n + 2, hj => cases hj)
theorem C_g1 {w : World} {g t : Nat} (h : w.heap[g]? = some (.cells #[.int .i64 3, .int .i64 5, .int .i64 8, .int .i64 9] t (0, 0))) : Kd.C k33 w (some ⟨g, 0, none⟩) ([⟨3, 5⟩, ⟨8, 9⟩] : List S33).length [⟨3, 5⟩, ⟨8, 9⟩] := C_lit h (by decide) (fun j p hj => by
  match j, hj with
  | 0, hj => cases hj; exact ⟨rfl, rfl⟩
  | 1, hj => cases hj; exact ⟨rfl, rfl⟩
  | n + 2, hj => cases hj)

set_option maxHeartbeats 4000000 in
theorem awake_any (w : World) : Calls Try.prog 7 #[] w fun e w' => e = .returned (.bool true) ∧ Below w.heap.size w w' := by
  go_enter Try.func7, Try.ntmps7
  go_upto_region 3 with (fail)
  obtain ⟨M, hM⟩ : ∃ M, w.heap.size = M := ⟨_, rfl⟩
  simp only [hM]
  obtain ⟨W1, hW1⟩ : ∃ W1, (((w.alloc (.cells #[.int .i64 97, .int .i64 0, .int .i64 32, .int .i64 3, .int .i64 97, .int .i64 5, .int .i64 32, .int .i64 8] 33)).alloc (.cells #[.int .i64 0, .int .i64 0, .int .i64 9, .int .i64 0, .slice (some ⟨M, 0, none⟩) 4 4] 24)).alloc (.cells #[.int .i64 32, .int .i64 4, .int .i64 97, .int .i64 9] 33)).alloc (.cells #[.int .i64 0, .int .i64 0, .int .i64 12, .int .i64 0, .slice (some ⟨M + 1 + 1, 0, none⟩) 2 2] 24) = W1 := ⟨_, rfl⟩
  have HW : Aside0 (AwBoxes M W1) := ⟨by
    rw [← hW1, ← hM]
    refine ⟨blk_alloc (blk_alloc (blk_alloc (blk_new w _) _) _) _, ?_, ?_, ?_⟩
    · have := blk_new (w.alloc (.cells #[.int .i64 97, .int .i64 0, .int .i64 32, .int .i64 3, .int .i64 97, .int .i64 5, .int .i64 32, .int .i64 8] 33)) (.cells #[.int .i64 0, .int .i64 0, .int .i64 9, .int .i64 0, .slice (some ⟨w.heap.size, 0, none⟩) 4 4] 24)
      simp only [World.size_alloc] at this
      exact blk_alloc (blk_alloc this _) _
    · have := blk_new ((w.alloc (.cells #[.int .i64 97, .int .i64 0, .int .i64 32, .int .i64 3, .int .i64 97, .int .i64 5, .int .i64 32, .int .i64 8] 33)).alloc (.cells #[.int .i64 0, .int .i64 0, .int .i64 9, .int .i64 0, .slice (some ⟨w.heap.size, 0, none⟩) 4 4] 24)) (.cells #[.int .i64 32, .int .i64 4, .int .i64 97, .int .i64 9] 33)
      simp only [World.size_alloc] at this
      exact blk_alloc this _
    · have := blk_new (((w.alloc (.cells #[.int .i64 97, .int .i64 0, .int .i64 32, .int .i64 3, .int .i64 97, .int .i64 5, .int .i64 32, .int .i64 8] 33)).alloc (.cells #[.int .i64 0, .int .i64 0, .int .i64 9, .int .i64 0, .slice (some ⟨w.heap.size, 0, none⟩) 4 4] 24)).alloc (.cells #[.int .i64 32, .int .i64 4, .int .i64 97, .int .i64 9] 33)) (.cells #[.int .i64 0, .int .i64 0, .int .i64 12, .int .i64 0, .slice (some ⟨w.heap.size + 2, 0, none⟩) 2 2] 24)
      simp only [World.size_alloc] at this
      exact this⟩
  have HB : Aside0 (Below M w W1) := ⟨by rw [← hW1, ← hM]; exact ((((Below.refl _ w).alloc (Nat.le_refl _) _).alloc (by simp) _).alloc (by simp; omega) _).alloc (by simp; omega) _⟩
  rw [hW1]
  have hM2 : M ≤ W1.heap.size := by rw [← hM]; exact HB.out.size
  have e2 : M + 1 + 1 = M + 2 := rfl
  have e3 : M + 1 + 1 + 1 = M + 3 := rfl
  simp only [e2, e3]
  clear hW1 e2 e3
  have c0 : W1.cell? ⟨M + 1, 0, none⟩ = some (.int .i64 0) := (blk_cell HW.out.2.1 0).trans rfl
  have c1 : W1.cell? ⟨M + 1, 1, none⟩ = some (.int .i64 0) := (blk_cell HW.out.2.1 1).trans rfl
  have c2 : W1.cell? ⟨M + 1, 2, none⟩ = some (.int .i64 9) := (blk_cell HW.out.2.1 2).trans rfl
  have c3 : W1.cell? ⟨M + 1, 3, none⟩ = some (.int .i64 0) := (blk_cell HW.out.2.1 3).trans rfl
  have c4 : W1.cell? ⟨M + 1, 4, none⟩ = some (.slice (some ⟨M, 0, none⟩) 4 4) := (blk_cell HW.out.2.1 4).trans rfl
  go_wp2_with (first
    | (go_at_call 10; have h3 := HB4.out; clear h3; refine (river_Gaps.any 0 0 0 0 none 0 [] w4 (Kd.C_nil _ _) (by decide) (by decide)).mono ?_; rintro e w5 ⟨A5, c5, rfl, hc5, hC5, hB5⟩; rw [aw_g0]; have HB5 := Aside0.mk hB5; clear hC5 hB5)
    | (go_at_call 10; refine (river_Gaps.any 0 0 9 0 _ 4 aw1 W1 HW.out.a (by decide) (by decide)).mono ?_; rintro e w1 ⟨A1, c1, rfl, hc1, hC1, hB1⟩; rw [aw_g1] at hc1 hC1; rw [aw_g1]; have HC1 := Aside0.mk hC1; have HB1 := Aside0.mk hB1; have HW1 := Aside0.mk (HW.out.below hB1); clear hC1 hB1)
    | (go_at_call 9; refine (ref_Same.any _ _ c1 2 [⟨3, 5⟩, ⟨8, 9⟩] [⟨3, 5⟩, ⟨8, 9⟩] _ (Kd.C_below HC1.out (below_alloc (Below.refl _ _) _)) (C_g1 (blk_new _ _)) hc1 (by decide) (by decide) (by decide)).mono ?_; rintro e w2 ⟨⟨r, rfl, hr, _⟩, hB2⟩; obtain rfl : r = true := hr rfl; have HB2 := Aside0.mk hB2; have HW2 := Aside0.mk ((HW1.out.below (below_alloc (Below.refl _ _) (.cells #[.int .i64 3, .int .i64 5, .int .i64 8, .int .i64 9] 36))).below hB2); clear hB2 hr; have p0 : w2.cell? ⟨M + 1, 0, none⟩ = some (.int .i64 0) := (blk_cell HW2.out.2.1 0).trans rfl; have p1 : w2.cell? ⟨M + 1, 1, none⟩ = some (.int .i64 0) := (blk_cell HW2.out.2.1 1).trans rfl; have p2 : w2.cell? ⟨M + 1, 2, none⟩ = some (.int .i64 9) := (blk_cell HW2.out.2.1 2).trans rfl; have p3 : w2.cell? ⟨M + 1, 3, none⟩ = some (.int .i64 0) := (blk_cell HW2.out.2.1 3).trans rfl; have p4 : w2.cell? ⟨M + 1, 4, none⟩ = some (.slice (some ⟨M, 0, none⟩) 4 4) := (blk_cell HW2.out.2.1 4).trans rfl; have q0 : w2.cell? ⟨M + 3, 0, none⟩ = some (.int .i64 0) := (blk_cell HW2.out.2.2.2 0).trans rfl; have q1 : w2.cell? ⟨M + 3, 1, none⟩ = some (.int .i64 0) := (blk_cell HW2.out.2.2.2 1).trans rfl; have q2 : w2.cell? ⟨M + 3, 2, none⟩ = some (.int .i64 12) := (blk_cell HW2.out.2.2.2 2).trans rfl; have q3 : w2.cell? ⟨M + 3, 3, none⟩ = some (.int .i64 0) := (blk_cell HW2.out.2.2.2 3).trans rfl; have q4 : w2.cell? ⟨M + 3, 4, none⟩ = some (.slice (some ⟨M + 2, 0, none⟩) 2 2) := (blk_cell HW2.out.2.2.2 4).trans rfl)
    | (go_at_call 12; have h3 := HW3.out; clear h3; refine (river_Count.any 0 0 9 0 _ 4 aw1 0 0 0 0 none 0 [] w3 HW3.out.a (by decide) (Kd.C_nil _ _) (by decide)).mono ?_; rintro e w4 ⟨rfl, hB4⟩; rw [aw_c0]; have HB4 := Aside0.mk hB4; clear hB4)
    | (go_at_call 12; refine (river_Count.any 0 0 9 0 _ 4 aw1 0 0 12 0 _ 2 aw2 w2 HW2.out.a (by decide) HW2.out.b (by decide)).mono ?_; rintro e w3 ⟨rfl, hB3⟩; rw [aw_c1]; have HB3 := Aside0.mk hB3; have HW3 := Aside0.mk (HW2.out.below hB3); clear hB3; have r0 : w3.cell? ⟨M + 1, 0, none⟩ = some (.int .i64 0) := (blk_cell HW3.out.2.1 0).trans rfl; have r1 : w3.cell? ⟨M + 1, 1, none⟩ = some (.int .i64 0) := (blk_cell HW3.out.2.1 1).trans rfl; have r2 : w3.cell? ⟨M + 1, 2, none⟩ = some (.int .i64 9) := (blk_cell HW3.out.2.1 2).trans rfl; have r3 : w3.cell? ⟨M + 1, 3, none⟩ = some (.int .i64 0) := (blk_cell HW3.out.2.1 3).trans rfl; have r4 : w3.cell? ⟨M + 1, 4, none⟩ = some (.slice (some ⟨M, 0, none⟩) 4 4) := (blk_cell HW3.out.2.1 4).trans rfl))
  go_ret
  refine ⟨rfl, ?_⟩
  rw [hM]
  have g1 := HB1.out.size
  have g2 := HB2.out.size
  have g3 := HB3.out.size
  have g4 := HB4.out.size
  simp only [World.size_alloc] at g2
  have b1 : Below M w w1 := HB.out.trans (HB1.out.mono hM2)
  have b2 : Below M w w2 := (b1.alloc (by omega) _).trans (HB2.out.mono (by simp; omega))
  exact ((b2.trans (HB3.out.mono (by omega))).trans (HB4.out.mono (by omega))).trans (HB5.out.mono (by omega))
end Go.Proofs.Ytbejdeopkphciaa.Q
