/- The document's count: its contract. -/
import Derived.Test.YtbejdeopkphciaaQSame
namespace Go.Proofs.Ytbejdeopkphciaa.Q
open Go.RowKit Go.Shelf Go.Proofs.YtbejdeopkphciaaW.PrintWords Go.Proofs.YtbejdeopkphciaaW.PrintLast Go.Proofs.YtbejdeopkphciaaW.PrintMore
attribute [local go_sem] max2_int min2_int max_two min_two
set_option linter.unusedVariables false
set_option linter.unusedSimpArgs false

theorem cntY_take (s : Int) (x : S33) (ys : List S33) (k : Nat) (h : k < ys.length) : cntY s x (ys.take (k + 1)) = if overB x (rd_T33 ys k) = true then wrap64 (cntY s x (ys.take k) + 1) else cntY s x (ys.take k) := by
  rw [List.take_add, drop_at ys k h, show (rd_T33 ys k :: ys.drop (k + 1)).take 1 = [rd_T33 ys k] from rfl, cntY_snoc]
theorem cntX_take (ys : List S33) (s : Int) (xs : List S33) (k : Nat) (h : k < xs.length) : cntX ys s (xs.take (k + 1)) = cntY (cntX ys s (xs.take k)) (rd_T33 xs k) ys := by
  rw [List.take_add, drop_at xs k h, show (rd_T33 xs k :: xs.drop (k + 1)).take 1 = [rd_T33 xs k] from rfl, cntX_snoc]

set_option maxHeartbeats 4000000 in
theorem ref_Count.any (lva kda ea dfa : Int) (Aa : Option Addr) (capa : Nat) (xa : List S33) (lvb kdb eb dfb : Int) (Ab : Option Addr) (capb : Nat) (xb : List S33) (w : World) (hxa : Kd.C k33 w Aa xa.length xa) (hca : xa.length ≤ capa) (hxb : Kd.C k33 w Ab xb.length xb) (hcb : xb.length ≤ capb) (hal : xa.length ≤ 1000000) (hbl : xb.length ≤ 1000000) :
    Calls Try.prog 13 #[.agg (rowC lva kda ea dfa Aa xa.length capa), .agg (rowC lvb kdb eb dfb Ab xb.length capb)] w fun e W' => e = .returned (.int .i64 (cntX (refG xb eb) 0 (refG xa ea))) ∧ Below w.heap.size w W' := by
  obtain ⟨W0, hW0⟩ : ∃ W0, (w.alloc (.cells (rowC lva kda ea dfa Aa xa.length capa) 24)).alloc (.cells (rowC lvb kdb eb dfb Ab xb.length capb) 24) = W0 := ⟨_, rfl⟩
  have hb0 : Below w.heap.size w W0 := by rw [← hW0]; exact ((Below.refl _ w).alloc (Nat.le_refl _) _).alloc (by simp) _
  have bB : W0.heap[w.heap.size + 1]? = some (.cells (rowC lvb kdb eb dfb Ab xb.length capb) 24 (0, 0)) := by rw [← hW0]; have := blk_new (w.alloc (.cells (rowC lva kda ea dfa Aa xa.length capa) 24)) (.cells (rowC lvb kdb eb dfb Ab xb.length capb) 24); rwa [World.size_alloc] at this
  have HGA := Aside0.mk (ref_Gaps.any lva kda ea dfa Aa capa xa W0 (Kd.C_below hxa hb0) hca hal)
  have HXB := Aside0.mk hxb
  have HB0 := Aside0.mk hb0
  have HBB := Aside0.mk bB
  have HW0 := Aside0.mk hW0
  clear hxa hxb hb0 bB hW0
  unfold rowC at *
  go_enter Try.func13, Try.ntmps13
  go_wp2_with (first | (go_at_call 11; rw [HW0.out]; refine HGA.out.mono ?_; rintro e w1 ⟨v, rfl, hR, hB⟩; have HRA := Aside0.mk hR; have HB1 := Aside0.mk hB; clear hR hB; obtain ⟨A1, c1, e1⟩ := Kd.R_slice HRA.out; subst e1; have HBB1 := blk_below HBB.out HB1.out; have d0 : w1.cell? ⟨w.heap.size + 1, 0, none⟩ = some (.int .i64 lvb) := (blk_cell HBB1 0).trans rfl; have d1 : w1.cell? ⟨w.heap.size + 1, 1, none⟩ = some (.int .i64 kdb) := (blk_cell HBB1 1).trans rfl; have d2 : w1.cell? ⟨w.heap.size + 1, 2, none⟩ = some (.int .i64 eb) := (blk_cell HBB1 2).trans rfl; have d3 : w1.cell? ⟨w.heap.size + 1, 3, none⟩ = some (.int .i64 dfb) := (blk_cell HBB1 3).trans rfl; have d4 : w1.cell? ⟨w.heap.size + 1, 4, none⟩ = some (.slice Ab xb.length capb) := (blk_cell HBB1 4).trans rfl) | (go_at_call 11; refine (ref_Gaps.any lvb kdb eb dfb Ab capb xb _ (Kd.C_below HXB.out (HB0.out.trans (HB1.out.mono HB0.out.size))) hcb hbl).mono ?_; rintro e w2 ⟨v, rfl, hR, hB⟩; have HRB := Aside0.mk hR; have HB2 := Aside0.mk hB; clear hR hB; obtain ⟨A2, c2, e2⟩ := Kd.R_slice HRB.out; subst e2))
  obtain ⟨ga, hga⟩ : ∃ l, refG xa ea = l := ⟨_, rfl⟩
  obtain ⟨gb, hgb⟩ : ∃ l, refG xb eb = l := ⟨_, rfl⟩
  have hla : ga.length ≤ 1000000 := by rw [← hga]; exact Nat.le_trans (refG_len _ _) hal
  have hlb : gb.length ≤ 1000000 := by rw [← hgb]; exact Nat.le_trans (refG_len _ _) hbl
  rw [hga] at HRA
  rw [hgb] at HRB
  simp only [hga, hgb]
  have HCA : Aside0 (Kd.C k33 w2 A1 ga.length ga) := ⟨Kd.C_below (Kd.R_reads' HRA.out).2.2 HB2.out⟩
  have HCB : Aside0 (Kd.C k33 w2 A2 gb.length gb) := ⟨(Kd.R_reads' HRB.out).2.2⟩
  have hca1 : ga.length ≤ c1 := (Kd.R_reads' HRA.out).2.1
  have hcb1 : gb.length ≤ c2 := (Kd.R_reads' HRB.out).2.1
  have HBW : Aside0 (Below w.heap.size w w2) := ⟨HB0.out.trans ((HB1.out.mono HB0.out.size).trans (HB2.out.mono (Nat.le_trans HB0.out.size HB1.out.size)))⟩
  have HEA := Aside0.mk hga
  have HEB := Aside0.mk hgb
  clear hga hgb HRA HRB HB1 HB2 HB0 HBB HBB1 d0 d1 d2 d3 d4 HW0 HGA HXB
  go_loopw [7, 8] (fun s7 s8 wr => ∃ i : Nat, i ≤ ga.length ∧ s8 = .int .i64 i ∧ s7 = .int .i64 (cntX gb 0 (ga.take i)) ∧ Aside0 (Below w2.heap.size w2 wr))
    (fun _ s8 _ => ga.length - (intOf s8).toNat)
  case atStart => exact ⟨0, Nat.zero_le _, rfl, rfl, ⟨Below.refl _ _⟩⟩
  case round =>
    obtain ⟨i, hi, rfl, rfl, HBR⟩ := hrel
    by_cases hlt : i < ga.length
    · obtain ⟨c, hc⟩ : ∃ c, cntX gb 0 (ga.take i) = c := ⟨_, rfl⟩
      have HC := Aside0.mk hc
      rw [hc]
      clear hc
      go_wp2
      go_loopw [7, 9] (fun s7 s9 wr => ∃ j : Nat, j ≤ gb.length ∧ s9 = .int .i64 j ∧ s7 = .int .i64 (cntY c (rd_T33 ga i) (gb.take j)) ∧ Aside0 (Below w2.heap.size w2 wr))
        (fun _ s9 _ => gb.length - (intOf s9).toNat)
      case atStart => exact ⟨0, Nat.zero_le _, rfl, rfl, HBR⟩
      case round =>
        clear HBR
        obtain ⟨j, hj, rfl, rfl, HBR⟩ := hrel
        by_cases hlt2 : j < gb.length
        · obtain ⟨ad, hA, a0, a1⟩ := k33_get (Kd.C_below HCA.out HBR.out) i hlt
          obtain ⟨bd, hB, b0, b1⟩ := k33_get (Kd.C_below HCB.out HBR.out) j hlt2
          subst hA hB
          go_upto_region 10 with (fail)
          obtain ⟨wd, hwd⟩ : ∃ wd, wr.drew = wd := ⟨_, rfl⟩
          replace a0 : wd.cell? (ad.add (i * 2)) = some (.int .i64 (rd_T33 ga i).f0) := by rw [← hwd]; exact a0
          replace a1 : wd.cell? ⟨(ad.add (i * 2)).block, (ad.add (i * 2)).off + 1, none⟩ = some (.int .i64 (rd_T33 ga i).f1) := by rw [← hwd]; exact a1
          replace b0 : wd.cell? (bd.add (j * 2)) = some (.int .i64 (rd_T33 gb j).f0) := by rw [← hwd]; exact b0
          replace b1 : wd.cell? ⟨(bd.add (j * 2)).block, (bd.add (j * 2)).off + 1, none⟩ = some (.int .i64 (rd_T33 gb j).f1) := by rw [← hwd]; exact b1
          refine start_ (n := 23) (S := fun w' => w' = wd) (ds := []) #[false, false, false, false, false, false, false, false, false, false, false, false, false, false, false, false, false, false, false, false, false, false, false] (by kernel_rfl) rfl rfl hwd (fun hHeld => ?_)
          refine take_ (i := 0) (N := some 26) (v := ?_) (a' := ?_) #[true, false, false, false, false, false, false, false, false, false, false, false, false, false, false, false, false, false, false, false, false, false, false] rfl rfl (by kernel_rfl) (fun _ _ _ h => h) (Or.inl ⟨by rfl, ?_⟩) hHeld ?_ ?_
          rotate_left
          · rintro w' rfl
            go_simp
            with_reducible rfl
          rotate_left
          · simp only [Act.put, List.setIfInBounds_toArray, List.set_cons_zero, List.set_cons_succ, i64_w, i32_w]
            rfl
          refine take_ (i := 1) (N := some 27) (v := ?_) (a' := ?_) #[true, true, false, false, false, false, false, false, false, false, false, false, false, false, false, false, false, false, false, false, false, false, false] rfl rfl (by kernel_rfl) (fun _ _ _ h => h) (Or.inl ⟨by rfl, ?_⟩) hHeld ?_ ?_
          rotate_left
          · rintro w' rfl
            go_simp
            with_reducible rfl
          rotate_left
          · simp only [Act.put, List.setIfInBounds_toArray, List.set_cons_zero, List.set_cons_succ, i64_w, i32_w]
            rfl
          refine take_ (i := 2) (N := some 28) (v := ?_) (a' := ?_) #[true, true, true, false, false, false, false, false, false, false, false, false, false, false, false, false, false, false, false, false, false, false, false] rfl rfl (by kernel_rfl) (fun _ _ _ h => h) (Or.inl ⟨by rfl, ?_⟩) hHeld ?_ ?_
          rotate_left
          · rintro w' rfl
            go_simp
            with_reducible rfl
          rotate_left
          · simp only [Act.put, List.setIfInBounds_toArray, List.set_cons_zero, List.set_cons_succ, i64_w, i32_w]
            rfl
          refine take_ (i := 3) (N := some 29) (v := ?_) (a' := ?_) #[true, true, true, true, false, false, false, false, false, false, false, false, false, false, false, false, false, false, false, false, false, false, false] rfl rfl (by kernel_rfl) (fun _ _ _ h => h) (Or.inl ⟨by rfl, ?_⟩) hHeld ?_ ?_
          rotate_left
          · rintro w' rfl
            go_simp
            with_reducible rfl
          rotate_left
          · simp only [Act.put, List.setIfInBounds_toArray, List.set_cons_zero, List.set_cons_succ, i64_w, i32_w]
            rfl
          refine take_ (i := 4) (N := some 30) (v := ?_) (a' := ?_) #[true, true, true, true, true, false, false, false, false, false, false, false, false, false, false, false, false, false, false, false, false, false, false] rfl rfl (by kernel_rfl) (fun _ _ _ h => h) (Or.inl ⟨by rfl, ?_⟩) hHeld ?_ ?_
          rotate_left
          · rintro w' rfl
            go_simp
            with_reducible rfl
          rotate_left
          · simp only [Act.put, List.setIfInBounds_toArray, List.set_cons_zero, List.set_cons_succ, i64_w, i32_w]
            rfl
          refine take_ (i := 5) (N := some 31) (v := ?_) (a' := ?_) #[true, true, true, true, true, true, false, false, false, false, false, false, false, false, false, false, false, false, false, false, false, false, false] rfl rfl (by kernel_rfl) (fun _ _ _ h => h) (Or.inl ⟨by rfl, ?_⟩) hHeld ?_ ?_
          rotate_left
          · rintro w' rfl
            go_simp
            with_reducible rfl
          rotate_left
          · simp only [Act.put, List.setIfInBounds_toArray, List.set_cons_zero, List.set_cons_succ, i64_w, i32_w]
            rfl
          refine take_ (i := 6) (N := some 32) (v := ?_) (a' := ?_) #[true, true, true, true, true, true, true, false, false, false, false, false, false, false, false, false, false, false, false, false, false, false, false] rfl rfl (by kernel_rfl) (fun _ _ _ h => h) (Or.inl ⟨by rfl, ?_⟩) hHeld ?_ ?_
          rotate_left
          · rintro w' rfl
            go_simp
            with_reducible rfl
          rotate_left
          · simp only [Act.put, List.setIfInBounds_toArray, List.set_cons_zero, List.set_cons_succ, i64_w, i32_w]
            rfl
          refine take_ (i := 7) (N := some 33) (v := ?_) (a' := ?_) #[true, true, true, true, true, true, true, true, false, false, false, false, false, false, false, false, false, false, false, false, false, false, false] rfl rfl (by kernel_rfl) (fun _ _ _ h => h) (Or.inl ⟨by rfl, ?_⟩) hHeld ?_ ?_
          rotate_left
          · rintro w' rfl
            go_simp
            with_reducible rfl
          rotate_left
          · simp only [Act.put, List.setIfInBounds_toArray, List.set_cons_zero, List.set_cons_succ, i64_w, i32_w]
            rfl
          refine take_ (i := 8) (N := some 34) (v := ?_) (a' := ?_) #[true, true, true, true, true, true, true, true, true, false, false, false, false, false, false, false, false, false, false, false, false, false, false] rfl rfl (by kernel_rfl) (fun _ _ _ h => h) (Or.inl ⟨by rfl, ?_⟩) hHeld ?_ ?_
          rotate_left
          · rintro w' rfl
            go_simp
            with_reducible rfl
          rotate_left
          · simp only [Act.put, List.setIfInBounds_toArray, List.set_cons_zero, List.set_cons_succ, i64_w, i32_w]
            rfl
          refine take_ (i := 9) (N := some 35) (v := ?_) (a' := ?_) #[true, true, true, true, true, true, true, true, true, true, false, false, false, false, false, false, false, false, false, false, false, false, false] rfl rfl (by kernel_rfl) (fun _ _ _ h => h) (Or.inl ⟨by rfl, ?_⟩) hHeld ?_ ?_
          rotate_left
          · rintro w' rfl
            go_simp
            with_reducible rfl
          rotate_left
          · simp only [Act.put, List.setIfInBounds_toArray, List.set_cons_zero, List.set_cons_succ, i64_w, i32_w]
            rfl
          refine take_ (i := 10) (N := some 36) (v := ?_) (a' := ?_) #[true, true, true, true, true, true, true, true, true, true, true, false, false, false, false, false, false, false, false, false, false, false, false] rfl rfl (by kernel_rfl) (fun _ _ _ h => h) (Or.inl ⟨by rfl, ?_⟩) hHeld ?_ ?_
          rotate_left
          · rintro w' rfl
            go_simp
            with_reducible rfl
          rotate_left
          · simp only [Act.put, List.setIfInBounds_toArray, List.set_cons_zero, List.set_cons_succ, i64_w, i32_w]
            rfl
          refine take_ (i := 11) (N := some 37) (v := ?_) (a' := ?_) #[true, true, true, true, true, true, true, true, true, true, true, true, false, false, false, false, false, false, false, false, false, false, false] rfl rfl (by kernel_rfl) (fun _ _ _ h => h) (Or.inl ⟨by rfl, ?_⟩) hHeld ?_ ?_
          rotate_left
          · rintro w' rfl
            go_simp
            with_reducible rfl
          rotate_left
          · simp only [Act.put, List.setIfInBounds_toArray, List.set_cons_zero, List.set_cons_succ, i64_w, i32_w]
            rfl
          refine take_ (i := 12) (N := some 38) (v := ?_) (a' := ?_) #[true, true, true, true, true, true, true, true, true, true, true, true, true, false, false, false, false, false, false, false, false, false, false] rfl rfl (by kernel_rfl) (fun _ _ _ h => h) (Or.inl ⟨by rfl, ?_⟩) hHeld ?_ ?_
          rotate_left
          · rintro w' rfl
            go_simp
            with_reducible rfl
          rotate_left
          · simp only [Act.put, List.setIfInBounds_toArray, List.set_cons_zero, List.set_cons_succ, i64_w, i32_w]
            rfl
          refine take_ (i := 13) (N := some 39) (v := ?_) (a' := ?_) #[true, true, true, true, true, true, true, true, true, true, true, true, true, true, false, false, false, false, false, false, false, false, false] rfl rfl (by kernel_rfl) (fun _ _ _ h => h) (Or.inl ⟨by rfl, ?_⟩) hHeld ?_ ?_
          rotate_left
          · rintro w' rfl
            go_simp
            with_reducible rfl
          rotate_left
          · simp only [Act.put, List.setIfInBounds_toArray, List.set_cons_zero, List.set_cons_succ, i64_w, i32_w]
            rfl
          refine take_ (i := 14) (N := some 40) (v := ?_) (a' := ?_) #[true, true, true, true, true, true, true, true, true, true, true, true, true, true, true, false, false, false, false, false, false, false, false] rfl rfl (by kernel_rfl) (fun _ _ _ h => h) (Or.inl ⟨by rfl, ?_⟩) hHeld ?_ ?_
          rotate_left
          · rintro w' rfl
            go_simp
            with_reducible rfl
          rotate_left
          · simp only [Act.put, List.setIfInBounds_toArray, List.set_cons_zero, List.set_cons_succ, i64_w, i32_w]
            rfl
          refine take_ (i := 15) (N := some 41) (v := ?_) (a' := ?_) #[true, true, true, true, true, true, true, true, true, true, true, true, true, true, true, true, false, false, false, false, false, false, false] rfl rfl (by kernel_rfl) (fun _ _ _ h => h) (Or.inl ⟨by rfl, ?_⟩) hHeld ?_ ?_
          rotate_left
          · rintro w' rfl
            go_simp
            with_reducible rfl
          rotate_left
          · simp only [Act.put, List.setIfInBounds_toArray, List.set_cons_zero, List.set_cons_succ, i64_w, i32_w]
            rfl
          refine take_ (i := 16) (N := some 42) (v := ?_) (a' := ?_) #[true, true, true, true, true, true, true, true, true, true, true, true, true, true, true, true, true, false, false, false, false, false, false] rfl rfl (by kernel_rfl) (fun _ _ _ h => h) (Or.inl ⟨by rfl, ?_⟩) hHeld ?_ ?_
          rotate_left
          · rintro w' rfl
            go_simp
            with_reducible rfl
          rotate_left
          · simp only [Act.put, List.setIfInBounds_toArray, List.set_cons_zero, List.set_cons_succ, i64_w, i32_w]
            rfl
          refine take_ (i := 17) (N := some 43) (v := ?_) (a' := ?_) #[true, true, true, true, true, true, true, true, true, true, true, true, true, true, true, true, true, true, false, false, false, false, false] rfl rfl (by kernel_rfl) (fun _ _ _ h => h) (Or.inl ⟨by rfl, ?_⟩) hHeld ?_ ?_
          rotate_left
          · rintro w' rfl
            go_simp
            with_reducible rfl
          rotate_left
          · simp only [Act.put, List.setIfInBounds_toArray, List.set_cons_zero, List.set_cons_succ, i64_w, i32_w]
            rfl
          refine take_ (i := 18) (N := some 44) (v := ?_) (a' := ?_) #[true, true, true, true, true, true, true, true, true, true, true, true, true, true, true, true, true, true, true, false, false, false, false] rfl rfl (by kernel_rfl) (fun _ _ _ h => h) (Or.inl ⟨by rfl, ?_⟩) hHeld ?_ ?_
          rotate_left
          · rintro w' rfl
            go_simp
            with_reducible rfl
          rotate_left
          · simp only [Act.put, List.setIfInBounds_toArray, List.set_cons_zero, List.set_cons_succ, i64_w, i32_w]
            rfl
          refine take_ (i := 19) (N := some 45) (v := ?_) (a' := ?_) #[true, true, true, true, true, true, true, true, true, true, true, true, true, true, true, true, true, true, true, true, false, false, false] rfl rfl (by kernel_rfl) (fun _ _ _ h => h) (Or.inl ⟨by rfl, ?_⟩) hHeld ?_ ?_
          rotate_left
          · rintro w' rfl
            go_simp
            with_reducible rfl
          rotate_left
          · simp only [Act.put, List.setIfInBounds_toArray, List.set_cons_zero, List.set_cons_succ, i64_w, i32_w]
            rfl
          refine take_ (i := 20) (N := some 46) (v := ?_) (a' := ?_) #[true, true, true, true, true, true, true, true, true, true, true, true, true, true, true, true, true, true, true, true, true, false, false] rfl rfl (by kernel_rfl) (fun _ _ _ h => h) (Or.inl ⟨by rfl, ?_⟩) hHeld ?_ ?_
          rotate_left
          · rintro w' rfl
            go_simp
            with_reducible rfl
          rotate_left
          · simp only [Act.put, List.setIfInBounds_toArray, List.set_cons_zero, List.set_cons_succ, i64_w, i32_w]
            rfl
          refine take_ (i := 21) (N := some 47) (v := ?_) (a' := ?_) #[true, true, true, true, true, true, true, true, true, true, true, true, true, true, true, true, true, true, true, true, true, true, false] rfl rfl (by kernel_rfl) (fun _ _ _ h => h) (Or.inl ⟨by rfl, ?_⟩) hHeld ?_ ?_
          rotate_left
          · rintro w' rfl
            go_simp
            with_reducible rfl
          rotate_left
          · simp only [Act.put, List.setIfInBounds_toArray, List.set_cons_zero, List.set_cons_succ, i64_w, i32_w]
            rfl
          refine take_ (i := 22) (N := some 48) (v := ?_) (a' := ?_) #[true, true, true, true, true, true, true, true, true, true, true, true, true, true, true, true, true, true, true, true, true, true, true] rfl rfl (by kernel_rfl) (fun _ _ _ h => h) (Or.inl ⟨by rfl, ?_⟩) hHeld ?_ ?_
          rotate_left
          · rintro w' rfl
            go_simp
            with_reducible rfl
          rotate_left
          · simp only [Act.put, List.setIfInBounds_toArray, List.set_cons_zero, List.set_cons_succ, i64_w, i32_w]
            rfl
          refine done_ (by kernel_rfl) ?_
          have HBw : Aside0 (Below w2.heap.size w2 wd) := ⟨by rw [← hwd]; exact HBR.out.drew⟩
          rw [hwd]
          clear hwd a0 a1 b0 b1 hHeld HBR
          have ho : decide ((if (rd_T33 ga i).f0 < (rd_T33 gb j).f0 then (rd_T33 gb j).f0 else (rd_T33 ga i).f0) < (if (rd_T33 gb j).f1 < (rd_T33 ga i).f1 then (rd_T33 gb j).f1 else (rd_T33 ga i).f1)) = overB (rd_T33 ga i) (rd_T33 gb j) := by
            unfold overB
            refine decide_eq_decide.2 ?_
            by_cases h1 : (rd_T33 ga i).f0 < (rd_T33 gb j).f0 <;> by_cases h2 : (rd_T33 gb j).f1 < (rd_T33 ga i).f1 <;> simp only [h1, h2, if_true, if_false] <;> omega
          rw [ho]
          clear ho
          have HTK := Aside0.mk (cntY_take c (rd_T33 ga i) gb j hlt2)
          cases hr : overB (rd_T33 ga i) (rd_T33 gb j) with
          | true =>
            have HTK2 : Aside0 (cntY c (rd_T33 ga i) (gb.take (j + 1)) = wrap64 (cntY c (rd_T33 ga i) (gb.take j) + 1)) := ⟨by rw [HTK.out, if_pos hr]⟩
            clear hr HTK
            go_wp2
            go_roundw
            case rel => exact ⟨j + 1, by omega, by go_num, by rw [HTK2.out], HBw⟩
            case measure => simp [intOf]; omega
          | false =>
            have HTK2 : Aside0 (cntY c (rd_T33 ga i) (gb.take (j + 1)) = cntY c (rd_T33 ga i) (gb.take j)) := ⟨by rw [HTK.out, if_neg (by rw [hr]; decide)]⟩
            clear hr HTK
            go_wp2
            go_roundw
            case rel => exact ⟨j + 1, by omega, by go_num, by rw [HTK2.out], HBw⟩
            case measure => simp [intOf]; omega
        · obtain rfl : j = gb.length := by omega
          have HTK := Aside0.mk (cntX_take gb 0 ga i hlt)
          go_wp2
          go_roundw
          case rel => exact ⟨i + 1, by omega, by go_num, by rw [HTK.out, HC.out, List.take_length], HBR⟩
          case measure => simp [intOf]; omega
    · obtain rfl : i = ga.length := by omega
      go_wp2
      go_ret
      refine ⟨by rw [HEA.out, HEB.out, List.take_length]; rfl, HBW.out.trans (HBR.out.mono HBW.out.size)⟩
end Go.Proofs.Ytbejdeopkphciaa.Q
