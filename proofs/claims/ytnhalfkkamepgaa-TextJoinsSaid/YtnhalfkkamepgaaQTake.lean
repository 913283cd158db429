/- The contract of the reader's take, by hand: it takes one byte of a word. -/
import Derived.Test.YtnhalfkkamepgaaQCheck
namespace Go.Proofs.Ytnhalfkkamepgaa.Q
open Go.RowKit Go.Proofs.YtnhalfkkamepgaaW.PrintWords Go.Proofs.YtnhalfkkamepgaaW.PrintLast Go.Proofs.YtnhalfkkamepgaaW.PrintMore
set_option linter.unusedVariables false
set_option linter.unusedSimpArgs false

/-- A reader's state. -/
structure TS where
  codes : List Int
  soft : List Int
  half : Bool
  bad : Bool
def takeS (s : TS) (b : Int) : TS :=
  if s.half = true then { s with bad := s.bad || b != 173, soft := s.soft ++ [(s.codes.length : Int)], half := false }
  else if b = 194 then { s with half := true }
  else { s with codes := s.codes ++ [b] }

/-- A reader lies in block g; its rows lie behind it. -/
def RdAt (W : World) (g : Nat) (s : TS) : Prop := ∃ vc vs, W.heap[g]? = some (.cells #[vc, vs, .bool s.half, .bool s.bad] 44 (0, 0)) ∧
  (Kd.int .i64).R 3 W (g + 1) (fun k => some k ≠ vs.ownBlock) vc s.codes ∧ (Kd.int .i64).R 3 W (g + 1) (fun k => some k ≠ vc.ownBlock) vs s.soft

theorem R_set_below {α : Type} {d : Kd α} {e base g : Nat} {w : World} {ok : Nat → Prop} {v : Value} {xs : List α} (h : d.R e w base ok v xs) (hg : g < base) (j : Nat) (u : Value) : d.R e (w.setCell ⟨g, j, none⟩ u) base ok v xs :=
  Kd.R_mono (Kd.R_far (p := ⟨g, j, none⟩) (Kd.R_bound h) (fun k hk => by have := hk.2.1; show k ≠ g; omega) u) (fun _ hk => hk.1)
theorem below_then0 {B C : Nat} {w w1 w2 : World} (h : Below B w w1) (hB : B ≤ C) (k : Below C w1 w2) : Below B w w2 := h.trans (k.mono hB)
theorem below_set_at {B : Nat} {a w : World} (h : Below B a w) (j : Nat) (u : Value) {g : Nat} (hg : B ≤ g) : Below B a (w.setCell ⟨g, j, none⟩ u) := h.setCell (p := ⟨g, j, none⟩) hg u

set_option maxHeartbeats 8000000 in
set_option maxRecDepth 100000 in
theorem take_half (W : World) (g : Nat) (st : TS) (b : Int) (hb0 : 0 ≤ b) (hb1 : b ≤ 255) (hc : st.codes.length ≤ 1000000) (hs : st.soft.length ≤ 1000000) (h : RdAt W g st) (hh : st.half = true) :
    Calls Try.prog 21 #[.pointer (some ⟨g, 0, none⟩), .int .u8 b] W fun e W' => e = .returned (.tuple #[]) ∧ RdAt W' g (takeS st b) ∧ Below g W W' := by
  obtain ⟨vc, vs, hBK, hC, hS⟩ := h
  obtain ⟨Ac, cc, rfl, _, _⟩ := Kd.R_reads hC
  obtain ⟨As, cs, rfl, _, _⟩ := Kd.R_reads hS
  have BK0 := Aside0.mk hBK
  have HC := Aside0.mk hC
  have HS := Aside0.mk hS
  rw [hh] at hBK
  have hx0 := (blk_cell hBK 0).trans rfl
  have hx1 := (blk_cell hBK 1).trans rfl
  have hx2 := (blk_cell hBK 2).trans rfl
  have hx3 := (blk_cell hBK 3).trans rfl
  have hf := blk_frozen hBK 2
  have hf3 := blk_frozen hBK 3
  clear hBK hC hS
  go_enter Try.func21, Try.ntmps21
  go_upto_region 2 with (fail)
  go_cut [30] (fun _ wx => Aside0 (wx.heap[g]? = some (.cells #[.slice Ac st.codes.length cc, .slice As st.soft.length cs, .bool true, .bool (st.bad || b != 173)] 44 (0, 0))) ∧ Aside0 (Below g W wx) ∧ Aside0 ((Kd.int .i64).R 3 wx (g + 1) (fun k => some k ≠ (Value.slice As st.soft.length cs).ownBlock) (.slice Ac st.codes.length cc) st.codes) ∧ Aside0 ((Kd.int .i64).R 3 wx (g + 1) (fun k => some k ≠ (Value.slice Ac st.codes.length cc).ownBlock) (.slice As st.soft.length cs) st.soft))
  case first =>
    have fin : ∀ nb : Bool, nb = (st.bad || b != 173) → Aside0 ((W.setCell ⟨g, 3, none⟩ (.bool nb)).heap[g]? = some (.cells #[.slice Ac st.codes.length cc, .slice As st.soft.length cs, .bool true, .bool (st.bad || b != 173)] 44 (0, 0))) ∧ Aside0 (Below g W (W.setCell ⟨g, 3, none⟩ (.bool nb))) ∧ Aside0 ((Kd.int .i64).R 3 (W.setCell ⟨g, 3, none⟩ (.bool nb)) (g + 1) (fun k => some k ≠ (Value.slice As st.soft.length cs).ownBlock) (.slice Ac st.codes.length cc) st.codes) ∧ Aside0 ((Kd.int .i64).R 3 (W.setCell ⟨g, 3, none⟩ (.bool nb)) (g + 1) (fun k => some k ≠ (Value.slice Ac st.codes.length cc).ownBlock) (.slice As st.soft.length cs) st.soft) := by
      rintro nb rfl
      exact ⟨⟨blk_put BK0.out 3 _ (by rw [hh]; rfl)⟩, ⟨below_set_at (Below.refl g W) 3 _ (Nat.le_refl _)⟩, ⟨R_set_below HC.out (by omega) 3 _⟩, ⟨R_set_below HS.out (by omega) 3 _⟩⟩
    have FIN := Aside0.mk fin
    clear fin
    cases hbad : st.bad with
    | true =>
      rw [hbad] at hx3
      go_wp2
      go_meet
      exact hbad ▸ FIN.out true (by rw [hbad]; rfl)
    | false =>
      rw [hbad] at hx3
      by_cases h173 : b = 173
      · have heq : (b != 173) = false := by simpa using h173
        go_wp2
        go_meet
        exact hbad ▸ FIN.out false (by rw [hbad, heq]; rfl)
      · have hne : (b != 173) = true := by simpa using h173
        go_wp2
        go_meet
        exact hbad ▸ FIN.out true (by rw [hbad, hne]; rfl)
  case rest =>
    clear hx0 hx1 hx2 hx3 hf hf3 BK0 HC HS
    obtain ⟨BK, HB, HC, HS⟩ := hcut
    go_upto_region 3 with (fail)
    refine start_ (n := 22) (S := fun w' => w'.cell? ⟨g, 0, none⟩ = some (.slice Ac st.codes.length cc) ∧ w'.cell? ⟨g, 1, none⟩ = some (.slice As st.soft.length cs)) (ds := [18, 21]) #[false, false, false, false, false, false, false, false, false, false, false, false, false, false, false, false, false, false, false, false, false, false] (by kernel_rfl) rfl rfl ⟨(blk_cell BK.out 0).trans rfl, (blk_cell BK.out 1).trans rfl⟩ (fun hHeld => ?_)
    have HB1 := Aside0.mk (below_drew HB.out)
    have HC1 := Aside0.mk (Kd.R_drew HC.out)
    have HS1 := Aside0.mk (Kd.R_drew HS.out)
    have BK1 := Aside0.mk (blk_drew BK.out)
    clear HB HC HS BK
    generalize wc.drew = wd at HB1 HC1 HS1 BK1 hHeld ⊢
    refine pure_ (i := 0) (N := some 33) (v := ?_) (a' := ?_) #[true, false, false, false, false, false, false, false, false, false, false, false, false, false, false, false, false, false, false, false, false, false] rfl rfl (by kernel_rfl) (fun _ _ _ h => h) (Or.inl ⟨by rfl, ?_⟩) ?_ ?_
    rotate_left
    · intro w'
      go_simp
      with_reducible rfl
    rotate_left
    · simp only [Act.put, List.setIfInBounds_toArray, List.set_cons_zero, List.set_cons_succ, i64_w, i32_w]
      rfl
    refine pure_ (i := 1) (N := some 34) (v := ?_) (a' := ?_) #[true, true, false, false, false, false, false, false, false, false, false, false, false, false, false, false, false, false, false, false, false, false] rfl rfl (by kernel_rfl) (fun _ _ _ h => h) (Or.inl ⟨by rfl, ?_⟩) ?_ ?_
    rotate_left
    · intro w'
      go_simp
      with_reducible rfl
    rotate_left
    · simp only [Act.put, List.setIfInBounds_toArray, List.set_cons_zero, List.set_cons_succ, i64_w, i32_w]
      rfl
    refine pure_ (i := 2) (N := some 35) (v := ?_) (a' := ?_) #[true, true, true, false, false, false, false, false, false, false, false, false, false, false, false, false, false, false, false, false, false, false] rfl rfl (by kernel_rfl) (fun _ _ _ h => h) (Or.inl ⟨by rfl, ?_⟩) ?_ ?_
    rotate_left
    · intro w'
      go_simp
      with_reducible rfl
    rotate_left
    · simp only [Act.put, List.setIfInBounds_toArray, List.set_cons_zero, List.set_cons_succ, i64_w, i32_w]
      rfl
    refine pure_ (i := 3) (N := some 36) (v := ?_) (a' := ?_) #[true, true, true, true, false, false, false, false, false, false, false, false, false, false, false, false, false, false, false, false, false, false] rfl rfl (by kernel_rfl) (fun _ _ _ h => h) (Or.inl ⟨by rfl, ?_⟩) ?_ ?_
    rotate_left
    · intro w'
      go_simp
      with_reducible rfl
    rotate_left
    · simp only [Act.put, List.setIfInBounds_toArray, List.set_cons_zero, List.set_cons_succ, i64_w, i32_w]
      rfl
    refine pure_ (i := 4) (N := some 37) (v := ?_) (a' := ?_) #[true, true, true, true, true, false, false, false, false, false, false, false, false, false, false, false, false, false, false, false, false, false] rfl rfl (by kernel_rfl) (fun _ _ _ h => h) (Or.inl ⟨by rfl, ?_⟩) ?_ ?_
    rotate_left
    · intro w'
      go_simp
      with_reducible rfl
    rotate_left
    · simp only [Act.put, List.setIfInBounds_toArray, List.set_cons_zero, List.set_cons_succ, i64_w, i32_w]
      rfl
    refine pure_ (i := 5) (N := some 38) (v := ?_) (a' := ?_) #[true, true, true, true, true, true, false, false, false, false, false, false, false, false, false, false, false, false, false, false, false, false] rfl rfl (by kernel_rfl) (fun _ _ _ h => h) (Or.inl ⟨by rfl, ?_⟩) ?_ ?_
    rotate_left
    · intro w'
      go_simp
      with_reducible rfl
    rotate_left
    · simp only [Act.put, List.setIfInBounds_toArray, List.set_cons_zero, List.set_cons_succ, i64_w, i32_w]
      rfl
    refine pure_ (i := 7) (N := some 40) (v := ?_) (a' := ?_) #[true, true, true, true, true, true, false, true, false, false, false, false, false, false, false, false, false, false, false, false, false, false] rfl rfl (by kernel_rfl) (fun _ _ _ h => h) (Or.inl ⟨by rfl, ?_⟩) ?_ ?_
    rotate_left
    · intro w'
      go_simp
      with_reducible rfl
    rotate_left
    · simp only [Act.put, List.setIfInBounds_toArray, List.set_cons_zero, List.set_cons_succ, i64_w, i32_w]
      rfl
    refine pure_ (i := 8) (N := some 41) (v := ?_) (a' := ?_) #[true, true, true, true, true, true, false, true, true, false, false, false, false, false, false, false, false, false, false, false, false, false] rfl rfl (by kernel_rfl) (fun _ _ _ h => h) (Or.inl ⟨by rfl, ?_⟩) ?_ ?_
    rotate_left
    · intro w'
      go_simp
      with_reducible rfl
    rotate_left
    · simp only [Act.put, List.setIfInBounds_toArray, List.set_cons_zero, List.set_cons_succ, i64_w, i32_w]
      rfl
    refine pure_ (i := 9) (N := some 42) (v := ?_) (a' := ?_) #[true, true, true, true, true, true, false, true, true, true, false, false, false, false, false, false, false, false, false, false, false, false] rfl rfl (by kernel_rfl) (fun _ _ _ h => h) (Or.inl ⟨by rfl, ?_⟩) ?_ ?_
    rotate_left
    · intro w'
      go_simp
      with_reducible rfl
    rotate_left
    · simp only [Act.put, List.setIfInBounds_toArray, List.set_cons_zero, List.set_cons_succ, i64_w, i32_w]
      rfl
    refine pure_ (i := 10) (N := some 43) (v := ?_) (a' := ?_) #[true, true, true, true, true, true, false, true, true, true, true, false, false, false, false, false, false, false, false, false, false, false] rfl rfl (by kernel_rfl) (fun _ _ _ h => h) (Or.inl ⟨by rfl, ?_⟩) ?_ ?_
    rotate_left
    · intro w'
      go_simp
      with_reducible rfl
    rotate_left
    · simp only [Act.put, List.setIfInBounds_toArray, List.set_cons_zero, List.set_cons_succ, i64_w, i32_w]
      rfl
    refine take_ (i := 6) (N := some 39) (v := ?_) (a' := ?_) #[true, true, true, true, true, true, true, true, true, true, true, false, false, false, false, false, false, false, false, false, false, false] rfl rfl (by kernel_rfl) (fun _ _ _ h => h) (Or.inl ⟨by rfl, ?_⟩) hHeld ?_ ?_
    rotate_left
    · rintro w' ⟨s0, s1⟩
      go_simp
      with_reducible rfl
    rotate_left
    · simp only [Act.put, List.setIfInBounds_toArray, List.set_cons_zero, List.set_cons_succ, i64_w, i32_w]
      rfl
    refine take_ (i := 11) (N := some 44) (v := ?_) (a' := ?_) #[true, true, true, true, true, true, true, true, true, true, true, true, false, false, false, false, false, false, false, false, false, false] rfl rfl (by kernel_rfl) (fun _ _ _ h => h) (Or.inl ⟨by rfl, ?_⟩) hHeld ?_ ?_
    rotate_left
    · rintro w' ⟨s0, s1⟩
      go_simp
      with_reducible rfl
    rotate_left
    · simp only [Act.put, List.setIfInBounds_toArray, List.set_cons_zero, List.set_cons_succ, i64_w, i32_w]
      rfl
    refine pure_ (i := 12) (N := some 45) (v := ?_) (a' := ?_) #[true, true, true, true, true, true, true, true, true, true, true, true, true, false, false, false, false, false, false, false, false, false] rfl rfl (by kernel_rfl) (fun _ _ _ h => h) (Or.inl ⟨by rfl, ?_⟩) ?_ ?_
    rotate_left
    · intro w'
      go_simp
      with_reducible rfl
    rotate_left
    · simp only [Act.put, List.setIfInBounds_toArray, List.set_cons_zero, List.set_cons_succ, i64_w, i32_w]
      rfl
    refine one_ (i := 13) (N := some 46) #[true, true, true, true, true, true, true, true, true, true, true, true, true, true, false, false, false, false, false, false, false, false] rfl rfl (by kernel_rfl) (by decide) (fun K hK => ?_)
    refine value_ (w1 := ?_) (v := ?_) (by rfl) rfl ?_ ?_
    rotate_left
    rotate_left
    · go_simp
      constructor
      · rfl
      · rfl
    refine hK.out _ _ ⟨(blk_cell (blk_alloc BK1.out _) 0).trans rfl, (blk_cell (blk_alloc BK1.out _) 1).trans rfl⟩ (fun hHeld => ?_)
    clear hK K
    refine norm_ (a' := ?_) ?_ ?_
    rotate_left
    · show Act.put _ (some 46) _ = _
      simp only [Act.put, List.setIfInBounds_toArray, List.set_cons_zero, List.set_cons_succ, i64_w, i32_w]
      rfl
    refine one_ (i := 14) (N := some 47) #[true, true, true, true, true, true, true, true, true, true, true, true, true, true, true, false, false, false, false, false, false, false] rfl rfl (by kernel_rfl) (by decide) (fun K hK => ?_)
    refine Kd.R_append_step (Kd.int .i64) (w0 := wd) (g + 1) (by rfl) (.tmp 39) (.tmp 46) 34 3 (.int .i64 0) 8 rfl Try.underlying34 info3 rfl (by decide) (by omega) (.slice As st.soft.length cs) st.soft (st.codes.length : Int) [.int .i64 (st.codes.length : Int)] (fun k => some k ≠ (Value.slice Ac st.codes.length cc).ownBlock) (fun _ => False) rfl rfl rfl (fun _ hk => hk.elim) (fun k hk => Kd.fresh' (Kd.R_lt HC1.out) k hk) HS1.out (Below.refl _ _) (by have := blk_lt BK1.out; omega) (by omega) ?_
    intro v1 w1 ho hb hg hat
    have HC2 := Aside0.mk (Kd.R_after (ok := (fun _ => True)) (Kd.R_mono HC1.out (fun _ hk => ⟨trivial, hk⟩)) hg hat)
    have BK2 := Aside0.mk (blk_grown BK1.out hg (Kd.R_ne HS1.out BK1.out (by decide)))
    have HB2 := Aside0.mk (below_then0 HB1.out (by have := blk_lt BK1.out; omega) hb)
    have HS2 := Aside0.mk ho
    clear ho hb hg hat
    obtain ⟨An, cn, en⟩ := Kd.R_slice HS2.out
    rw [List.length_append, List.length_singleton] at en
    subst en
    refine hK.out _ _ ⟨(blk_cell BK2.out 0).trans rfl, (blk_cell BK2.out 1).trans rfl⟩ (fun hHeld => ?_)
    clear hK K
    refine norm_ (a' := ?_) ?_ ?_
    rotate_left
    · show Act.put _ (some 47) _ = _
      simp only [Act.put, List.setIfInBounds_toArray, List.set_cons_zero, List.set_cons_succ, i64_w, i32_w]
      rfl
    refine pure_ (i := 15) (N := some 48) (v := ?_) (a' := ?_) #[true, true, true, true, true, true, true, true, true, true, true, true, true, true, true, true, false, false, false, false, false, false] rfl rfl (by kernel_rfl) (fun _ _ _ h => h) (Or.inl ⟨by rfl, ?_⟩) ?_ ?_
    rotate_left
    · intro w'
      go_simp
      with_reducible rfl
    rotate_left
    · simp only [Act.put, List.setIfInBounds_toArray, List.set_cons_zero, List.set_cons_succ, i64_w, i32_w]
      rfl
    refine pure_ (i := 16) (N := some 49) (v := ?_) (a' := ?_) #[true, true, true, true, true, true, true, true, true, true, true, true, true, true, true, true, true, false, false, false, false, false] rfl rfl (by kernel_rfl) (fun _ _ _ h => h) (Or.inl ⟨by rfl, ?_⟩) ?_ ?_
    rotate_left
    · intro w'
      go_simp
      with_reducible rfl
    rotate_left
    · simp only [Act.put, List.setIfInBounds_toArray, List.set_cons_zero, List.set_cons_succ, i64_w, i32_w]
      rfl
    refine pure_ (i := 17) (N := some 50) (v := ?_) (a' := ?_) #[true, true, true, true, true, true, true, true, true, true, true, true, true, true, true, true, true, true, false, false, false, false] rfl rfl (by kernel_rfl) (fun _ _ _ h => h) (Or.inl ⟨by rfl, ?_⟩) ?_ ?_
    rotate_left
    · intro w'
      go_simp
      with_reducible rfl
    rotate_left
    · simp only [Act.put, List.setIfInBounds_toArray, List.set_cons_zero, List.set_cons_succ, i64_w, i32_w]
      rfl
    have hf := blk_frozen BK2.out 1
    have hv := (blk_cell BK2.out 1).trans rfl
    refine last_ (i := 18) (N := none) #[true, true, true, true, true, true, true, true, true, true, true, true, true, true, true, true, true, true, true, false, false, false] rfl rfl (by kernel_rfl) (by decide) (fun K hK => ?_)
    refine skip_ (w1 := ?_) (by rfl) rfl ?_ ?_
    rotate_left
    · go_simp
      rfl
    refine hK.out _ _ ?_
    clear hK K
    have hv2 := (blk_cell BK2.out 2).trans rfl
    have hf2 := blk_frozen BK2.out 2
    refine pure_ (i := 19) (N := some 51) (v := ?_) (a' := ?_) #[true, true, true, true, true, true, true, true, true, true, true, true, true, true, true, true, true, true, true, true, false, false] rfl rfl (by kernel_rfl) (fun _ _ _ h => h) (Or.inl ⟨by rfl, ?_⟩) ?_ ?_
    rotate_left
    · intro w'
      go_simp
      with_reducible rfl
    rotate_left
    · simp only [Act.put, List.setIfInBounds_toArray, List.set_cons_zero, List.set_cons_succ, i64_w, i32_w]
      rfl
    refine pure_ (i := 20) (N := some 52) (v := ?_) (a' := ?_) #[true, true, true, true, true, true, true, true, true, true, true, true, true, true, true, true, true, true, true, true, true, false] rfl rfl (by kernel_rfl) (fun _ _ _ h => h) (Or.inl ⟨by rfl, ?_⟩) ?_ ?_
    rotate_left
    · intro w'
      go_simp
      with_reducible rfl
    rotate_left
    · simp only [Act.put, List.setIfInBounds_toArray, List.set_cons_zero, List.set_cons_succ, i64_w, i32_w]
      rfl
    refine last_ (i := 21) (N := none) #[true, true, true, true, true, true, true, true, true, true, true, true, true, true, true, true, true, true, true, true, true, true] rfl rfl (by kernel_rfl) (by decide) (fun K hK => ?_)
    refine skip_ (w1 := ?_) (by rfl) rfl ?_ ?_
    rotate_left
    · go_simp
      rfl
    refine hK.out _ _ ?_
    clear hK K
    refine done_ (by kernel_rfl) ?_
    try go_wp2
    go_end0
    have HB3 := below_set_at HB2.out 1 (.slice An (st.soft.length + 1) cn) (Nat.le_refl _)
    have BK3 := blk_put BK2.out 1 (.slice An (st.soft.length + 1) cn) rfl
    have HC3 := R_set_below (g := g) HC2.out (by omega) 1 (.slice An (st.soft.length + 1) cn)
    have HS3 := R_set_below (g := g) HS2.out (by omega) 1 (.slice An (st.soft.length + 1) cn)
    refine ⟨rfl, ?_, below_set_at HB3 2 _ (Nat.le_refl _)⟩
    rw [takeS, if_pos hh]
    exact ⟨_, _, blk_put BK3 2 _ rfl, Kd.R_mono (R_set_below (g := g) HC3 (by omega) 2 _) (fun k hk => hk.2), R_set_below (g := g) HS3 (by omega) 2 _⟩

set_option maxHeartbeats 4000000 in
theorem take_mark (W : World) (g : Nat) (st : TS) (h : RdAt W g st) (hh : st.half = false) :
    Calls Try.prog 21 #[.pointer (some ⟨g, 0, none⟩), .int .u8 194] W fun e W' => e = .returned (.tuple #[]) ∧ RdAt W' g (takeS st 194) ∧ Below g W W' := by
  obtain ⟨vc, vs, hBK, hC, hS⟩ := h
  have BK0 := Aside0.mk hBK
  have HC := Aside0.mk hC
  have HS := Aside0.mk hS
  rw [hh] at hBK
  have hx2 := (blk_cell hBK 2).trans rfl
  have hf := blk_frozen hBK 2
  clear hBK hC hS
  go_enter Try.func21, Try.ntmps21
  go_wp2
  go_end0
  refine ⟨rfl, ?_, below_set_at (Below.refl g W) 2 _ (Nat.le_refl _)⟩
  rw [takeS, if_neg (by rw [hh]; decide), if_pos rfl]
  exact ⟨_, _, blk_put BK0.out 2 _ rfl, R_set_below (g := g) HC.out (by omega) 2 _, R_set_below (g := g) HS.out (by omega) 2 _⟩

set_option maxHeartbeats 4000000 in
theorem take_code (W : World) (g : Nat) (st : TS) (b : Int) (hb0 : 0 ≤ b) (hb1 : b ≤ 255) (hc : st.codes.length ≤ 1000000) (h : RdAt W g st) (hh : st.half = false) (hne : b ≠ 194) :
    Calls Try.prog 21 #[.pointer (some ⟨g, 0, none⟩), .int .u8 b] W fun e W' => e = .returned (.tuple #[]) ∧ RdAt W' g (takeS st b) ∧ Below g W W' := by
  obtain ⟨vc, vs, hBK, hC, hS⟩ := h
  have BK0 := Aside0.mk hBK
  have HC := Aside0.mk hC
  have HS := Aside0.mk hS
  rw [hh] at hBK
  have hx0 := (blk_cell hBK 0).trans rfl
  have hx2 := (blk_cell hBK 2).trans rfl
  have hf := blk_frozen hBK 0
  have hne' : (b == 194) = false := by simpa using hne
  clear hBK hC hS hne
  have HN := Aside0.mk hne'
  have hrest : Aside0 (∀ v1 w1, (Kd.int .i64).R 3 w1 (g + 1) (fun k => some k ≠ vs.ownBlock) v1 (st.codes ++ [b]) → W.grownBy w1 vc.ownBlock → (v1.ownBlock = vc.ownBlock ∨ ∃ b, v1.ownBlock = some b ∧ W.heap.size ≤ b) → Below (g + 1) W w1 →
      RdAt (w1.setCell ⟨g, 0, none⟩ v1) g (takeS st b) ∧ Below g W (w1.setCell ⟨g, 0, none⟩ v1)) := ⟨by
    intro v1 w1 ho hg hat hb
    have hS2 := Kd.R_after (ok := (fun _ => True)) (Kd.R_mono HS.out (fun _ hk => ⟨trivial, hk⟩)) hg hat
    have hBK2 := blk_grown BK0.out hg (Kd.R_ne HC.out BK0.out (by decide))
    refine ⟨?_, below_set_at (hb.mono (by omega)) 0 _ (Nat.le_refl _)⟩
    rw [takeS, if_neg (by rw [hh]; decide), if_neg (by simpa using HN.out)]
    exact ⟨_, _, blk_put hBK2 0 _ rfl, R_set_below (g := g) ho (by omega) 0 _, Kd.R_mono (R_set_below (g := g) hS2 (by omega) 0 _) (fun k hk => hk.2)⟩⟩
  go_enter Try.func21, Try.ntmps21
  go_wp2_with (at_builtin; refine Kd.R_append (Kd.int .i64) (w0 := W) (g + 1) rfl (.tmp 9) (.tmp 12) 34 3 (.int .i64 0) 8 rfl Try.underlying34 info3 rfl (by decide) (by omega) vc st.codes b [.int .i64 b] (fun k => some k ≠ vs.ownBlock) (fun _ => False) rfl rfl rfl (fun _ hk => hk.elim) ?aF HC.out (Below.refl _ _) ?aS ?aL ?_; (case aF => exact fun k hk => Kd.fresh' (Kd.R_lt HS.out) k hk); (case aS => have := blk_lt BK0.out; omega); (case aL => omega); intro v1 w1 ho hb hg hat; obtain ⟨Av, cv, ev⟩ := Kd.R_slice ho; rw [List.length_append, List.length_singleton] at ev; subst ev; have hf1 := blk_frozen (blk_grown BK0.out hg (Kd.R_ne HC.out BK0.out (by decide))) 0; have hc1 := (blk_cell (blk_grown BK0.out hg (Kd.R_ne HC.out BK0.out (by decide))) 0).trans rfl; have HF := Aside0.mk (hrest.out _ w1 ho hg hat hb); clear ho hb hg hat)
  go_end0
  exact ⟨rfl, HF.out⟩

theorem take_any (W : World) (g : Nat) (st : TS) (b : Int) (hb0 : 0 ≤ b) (hb1 : b ≤ 255) (hc : st.codes.length ≤ 1000000) (hs : st.soft.length ≤ 1000000) (h : RdAt W g st) :
    Calls Try.prog 21 #[.pointer (some ⟨g, 0, none⟩), .int .u8 b] W fun e W' => e = .returned (.tuple #[]) ∧ RdAt W' g (takeS st b) ∧ Below g W W' := by
  cases hh : st.half with
  | true => exact take_half W g st b hb0 hb1 hc hs h hh
  | false =>
    by_cases h194 : b = 194
    · subst h194; exact take_mark W g st h hh
    · exact take_code W g st b hb0 hb1 hc h hh h194

end Go.Proofs.Ytnhalfkkamepgaa.Q
