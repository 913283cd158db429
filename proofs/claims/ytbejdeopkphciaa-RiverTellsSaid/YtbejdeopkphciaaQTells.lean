/- RiverTells: the walk. -/
import Derived.Test.YtbejdeopkphciaaQAwake
import Derived.Test.YtbejdeopkphciaaQx1
namespace Go.Proofs.Ytbejdeopkphciaa.Q
open Go.RowKit Go.Shelf Go.Proofs.YtbejdeopkphciaaW.PrintWords Go.Proofs.YtbejdeopkphciaaW.PrintLast Go.Proofs.YtbejdeopkphciaaW.PrintMore
set_option linter.unusedVariables false
set_option linter.unusedSimpArgs false

/-- The two rows lie in their boxes, and can be read. -/
def TwoAt (w : World) (M : Nat) (lva kda ea dfa : Int) (Aa : Option Addr) (capa : Nat) (xa : List S33) (lvb kdb eb dfb : Int) (Ab : Option Addr) (capb : Nat) (xb : List S33) (W : World) : Prop :=
  W.heap[M]? = some (.cells #[.int .i64 lva, .int .i64 kda, .int .i64 ea, .int .i64 dfa, .slice Aa xa.length capa] 24 (0, 0)) ∧ W.heap[M + 1]? = some (.cells #[.int .i64 lvb, .int .i64 kdb, .int .i64 eb, .int .i64 dfb, .slice Ab xb.length capb] 24 (0, 0)) ∧ Below M w W
theorem two_below {w W W' : World} {M : Nat} {lva kda ea dfa : Int} {Aa : Option Addr} {capa : Nat} {xa : List S33} {lvb kdb eb dfb : Int} {Ab : Option Addr} {capb : Nat} {xb : List S33} (h : TwoAt w M lva kda ea dfa Aa capa xa lvb kdb eb dfb Ab capb xb W) (hb : Below W.heap.size W W') : TwoAt w M lva kda ea dfa Aa capa xa lvb kdb eb dfb Ab capb xb W' :=
  ⟨blk_below h.1 hb, blk_below h.2.1 hb, h.2.2.trans (hb.mono (by have := blk_lt h.1; omega))⟩
theorem few_calls (lv kd en df : Int) (A : Option Addr) (cap : Nat) (xs : List S33) (w : World) (hx : Kd.C k33 w A xs.length xs) (hc : xs.length ≤ cap) :
    Calls Try.prog 8 #[.agg #[.int .i64 lv, .int .i64 kd, .int .i64 en, .int .i64 df, .slice A xs.length cap]] w fun e w' => e = .returned (.bool (decide ((xs.length : Int) ≤ 300))) ∧ Below w.heap.size w w' :=
  compositorlaw20_few.calls lv kd en df A cap xs _ w hx hc rfl

set_option maxHeartbeats 8000000 in
theorem tells_any (lva kda ea dfa : Int) (Aa : Option Addr) (capa : Nat) (xa : List S33) (lvb kdb eb dfb : Int) (Ab : Option Addr) (capb : Nat) (xb : List S33) (w : World) (hxa : Kd.C k33 w Aa xa.length xa) (hca : xa.length ≤ capa) (hxb : Kd.C k33 w Ab xb.length xb) (hcb : xb.length ≤ capb) :
    Calls Try.prog 3 #[.agg #[.int .i64 lva, .int .i64 kda, .int .i64 ea, .int .i64 dfa, .slice Aa xa.length capa], .agg #[.int .i64 lvb, .int .i64 kdb, .int .i64 eb, .int .i64 dfb, .slice Ab xb.length capb]] w fun e W' => e = .returned (.bool true) ∧ Below w.heap.size w W' := by
  have HXA := Aside0.mk hxa
  have HXB := Aside0.mk hxb
  clear hxa hxb
  go_enter Try.func3, Try.ntmps3
  go_upto_region 1 with (fail)
  obtain ⟨M, hM⟩ : ∃ M, w.heap.size = M := ⟨_, rfl⟩
  obtain ⟨W1, hW1⟩ : ∃ W1, (w.alloc (.cells #[.int .i64 lva, .int .i64 kda, .int .i64 ea, .int .i64 dfa, .slice Aa xa.length capa] 24)).alloc (.cells #[.int .i64 lvb, .int .i64 kdb, .int .i64 eb, .int .i64 dfb, .slice Ab xb.length capb] 24) = W1 := ⟨_, rfl⟩
  have H1 : Aside0 (TwoAt w M lva kda ea dfa Aa capa xa lvb kdb eb dfb Ab capb xb W1) := ⟨by
    rw [← hW1, ← hM]
    refine ⟨blk_alloc (blk_new w _) _, ?_, ((Below.refl _ w).alloc (Nat.le_refl _) _).alloc (by simp) _⟩
    have := blk_new (w.alloc (.cells #[.int .i64 lva, .int .i64 kda, .int .i64 ea, .int .i64 dfa, .slice Aa xa.length capa] 24)) (.cells #[.int .i64 lvb, .int .i64 kdb, .int .i64 eb, .int .i64 dfb, .slice Ab xb.length capb] 24)
    rwa [World.size_alloc] at this⟩
  rw [hW1]
  simp only [hM]
  clear hW1
  go_upto_region 2 with (go_at_call 7; refine (awake_any W1).mono ?_; rintro e w1 ⟨rfl, hb⟩; have H2 := Aside0.mk (two_below H1.out hb); clear hb)
  have h0 := hM ▸ H2.out.2.2
  have c0 : w1.cell? ⟨M, 0, none⟩ = some (.int .i64 lva) := (blk_cell H2.out.1 0).trans rfl
  have c1 : w1.cell? ⟨M, 1, none⟩ = some (.int .i64 kda) := (blk_cell H2.out.1 1).trans rfl
  have c2 : w1.cell? ⟨M, 2, none⟩ = some (.int .i64 ea) := (blk_cell H2.out.1 2).trans rfl
  have c3 : w1.cell? ⟨M, 3, none⟩ = some (.int .i64 dfa) := (blk_cell H2.out.1 3).trans rfl
  have c4 : w1.cell? ⟨M, 4, none⟩ = some (.slice Aa xa.length capa) := (blk_cell H2.out.1 4).trans rfl
  by_cases ha : xa.length ≤ 300
  · have hda : decide ((xa.length : Int) ≤ 300) = true := decide_eq_true (by omega)
    by_cases hb : xb.length ≤ 300
    · have hdb : decide ((xb.length : Int) ≤ 300) = true := decide_eq_true (by omega)
      clear h0
      go_upto_region 4 with (first | (go_at_call 8; have h3 := H3.out; clear h3; refine (few_calls lvb kdb eb dfb Ab capb xb w2 (Kd.C_below HXB.out (hM ▸ H3.out.2.2)) hcb).mono ?_; rintro e w3 ⟨rfl, hb⟩; rw [hdb]; have H4 := Aside0.mk (two_below H3.out hb); clear hb; have q0 : w3.cell? ⟨M, 0, none⟩ = some (.int .i64 lva) := (blk_cell H4.out.1 0).trans rfl; have q1 : w3.cell? ⟨M, 1, none⟩ = some (.int .i64 kda) := (blk_cell H4.out.1 1).trans rfl; have q2 : w3.cell? ⟨M, 2, none⟩ = some (.int .i64 ea) := (blk_cell H4.out.1 2).trans rfl; have q3 : w3.cell? ⟨M, 3, none⟩ = some (.int .i64 dfa) := (blk_cell H4.out.1 3).trans rfl; have q4 : w3.cell? ⟨M, 4, none⟩ = some (.slice Aa xa.length capa) := (blk_cell H4.out.1 4).trans rfl) | (go_at_call 8; refine (few_calls lva kda ea dfa Aa capa xa w1 (Kd.C_below HXA.out (hM ▸ H2.out.2.2)) hca).mono ?_; rintro e w2 ⟨rfl, hb⟩; rw [hda]; have H3 := Aside0.mk (two_below H2.out hb); clear hb; have p0 : w2.cell? ⟨M + 1, 0, none⟩ = some (.int .i64 lvb) := (blk_cell H3.out.2.1 0).trans rfl; have p1 : w2.cell? ⟨M + 1, 1, none⟩ = some (.int .i64 kdb) := (blk_cell H3.out.2.1 1).trans rfl; have p2 : w2.cell? ⟨M + 1, 2, none⟩ = some (.int .i64 eb) := (blk_cell H3.out.2.1 2).trans rfl; have p3 : w2.cell? ⟨M + 1, 3, none⟩ = some (.int .i64 dfb) := (blk_cell H3.out.2.1 3).trans rfl; have p4 : w2.cell? ⟨M + 1, 4, none⟩ = some (.slice Ab xb.length capb) := (blk_cell H3.out.2.1 4).trans rfl))
      refine start_ (n := 18) (S := TwoAt w M lva kda ea dfa Aa capa xa lvb kdb eb dfb Ab capb xb) (ds := []) #[false, false, false, false, false, false, false, false, false, false, false, false, false, false, false, false, false, false] (by kernel_rfl) rfl rfl (⟨H4.out.1, H4.out.2.1, H4.out.2.2.drew⟩) (fun hHeld => ?_)
      have HD := Aside0.mk hHeld
      generalize w3.drew = wd at HD hHeld ⊢
      refine pure_ (i := 0) (N := some 16) (v := ?_) (a' := ?_) #[true, false, false, false, false, false, false, false, false, false, false, false, false, false, false, false, false, false] rfl rfl (by kernel_rfl) (fun _ _ _ h => h) (Or.inl ⟨by rfl, ?_⟩) ?_ ?_
      rotate_left
      · intro w'
        go_simp
        with_reducible rfl
      rotate_left
      · simp only [Act.put, List.setIfInBounds_toArray, List.set_cons_zero, List.set_cons_succ, i64_w, i32_w]
        rfl
      refine pure_ (i := 1) (N := some 17) (v := ?_) (a' := ?_) #[true, true, false, false, false, false, false, false, false, false, false, false, false, false, false, false, false, false] rfl rfl (by kernel_rfl) (fun _ _ _ h => h) (Or.inl ⟨by rfl, ?_⟩) ?_ ?_
      rotate_left
      · intro w'
        go_simp
        with_reducible rfl
      rotate_left
      · simp only [Act.put, List.setIfInBounds_toArray, List.set_cons_zero, List.set_cons_succ, i64_w, i32_w]
        rfl
      refine take_ (i := 2) (N := some 18) (v := ?_) (a' := ?_) #[true, true, true, false, false, false, false, false, false, false, false, false, false, false, false, false, false, false] rfl rfl (by kernel_rfl) (fun _ _ _ h => h) (Or.inl ⟨by rfl, ?_⟩) hHeld ?_ ?_
      rotate_left
      · rintro w' s0; have e0 : w'.cell? ⟨M, 0, none⟩ = some (.int .i64 lva) := (blk_cell s0.1 0).trans rfl; have e1 : w'.cell? ⟨M, 1, none⟩ = some (.int .i64 kda) := (blk_cell s0.1 1).trans rfl; have e2 : w'.cell? ⟨M, 2, none⟩ = some (.int .i64 ea) := (blk_cell s0.1 2).trans rfl; have e3 : w'.cell? ⟨M, 3, none⟩ = some (.int .i64 dfa) := (blk_cell s0.1 3).trans rfl; have e4 : w'.cell? ⟨M, 4, none⟩ = some (.slice Aa xa.length capa) := (blk_cell s0.1 4).trans rfl; have g0 : w'.cell? ⟨M + 1, 0, none⟩ = some (.int .i64 lvb) := (blk_cell s0.2.1 0).trans rfl; have g1 : w'.cell? ⟨M + 1, 1, none⟩ = some (.int .i64 kdb) := (blk_cell s0.2.1 1).trans rfl; have g2 : w'.cell? ⟨M + 1, 2, none⟩ = some (.int .i64 eb) := (blk_cell s0.2.1 2).trans rfl; have g3 : w'.cell? ⟨M + 1, 3, none⟩ = some (.int .i64 dfb) := (blk_cell s0.2.1 3).trans rfl; have g4 : w'.cell? ⟨M + 1, 4, none⟩ = some (.slice Ab xb.length capb) := (blk_cell s0.2.1 4).trans rfl
        go_simp
        with_reducible rfl
      rotate_left
      · simp only [Act.put, List.setIfInBounds_toArray, List.set_cons_zero, List.set_cons_succ, i64_w, i32_w]
        rfl
      refine take_ (i := 4) (N := some 20) (v := ?_) (a' := ?_) #[true, true, true, false, true, false, false, false, false, false, false, false, false, false, false, false, false, false] rfl rfl (by kernel_rfl) (fun _ _ _ h => h) (Or.inl ⟨by rfl, ?_⟩) hHeld ?_ ?_
      rotate_left
      · rintro w' s0; have e0 : w'.cell? ⟨M, 0, none⟩ = some (.int .i64 lva) := (blk_cell s0.1 0).trans rfl; have e1 : w'.cell? ⟨M, 1, none⟩ = some (.int .i64 kda) := (blk_cell s0.1 1).trans rfl; have e2 : w'.cell? ⟨M, 2, none⟩ = some (.int .i64 ea) := (blk_cell s0.1 2).trans rfl; have e3 : w'.cell? ⟨M, 3, none⟩ = some (.int .i64 dfa) := (blk_cell s0.1 3).trans rfl; have e4 : w'.cell? ⟨M, 4, none⟩ = some (.slice Aa xa.length capa) := (blk_cell s0.1 4).trans rfl; have g0 : w'.cell? ⟨M + 1, 0, none⟩ = some (.int .i64 lvb) := (blk_cell s0.2.1 0).trans rfl; have g1 : w'.cell? ⟨M + 1, 1, none⟩ = some (.int .i64 kdb) := (blk_cell s0.2.1 1).trans rfl; have g2 : w'.cell? ⟨M + 1, 2, none⟩ = some (.int .i64 eb) := (blk_cell s0.2.1 2).trans rfl; have g3 : w'.cell? ⟨M + 1, 3, none⟩ = some (.int .i64 dfb) := (blk_cell s0.2.1 3).trans rfl; have g4 : w'.cell? ⟨M + 1, 4, none⟩ = some (.slice Ab xb.length capb) := (blk_cell s0.2.1 4).trans rfl
        go_simp
        with_reducible rfl
      rotate_left
      · simp only [Act.put, List.setIfInBounds_toArray, List.set_cons_zero, List.set_cons_succ, i64_w, i32_w]
        rfl
      refine one_ (i := 3) (N := some 19) #[true, true, true, true, true, false, false, false, false, false, false, false, false, false, false, false, false, false] rfl rfl (by kernel_rfl) (by decide) (fun K hK => ?_)
      refine goes_ Try.func10 (by kernel_rfl) rfl #[.agg #[.int .i64 lva, .int .i64 kda, .int .i64 ea, .int .i64 dfa, .slice Aa xa.length capa]] (by rfl) rfl rfl (by simp only [List.map_toArray, List.map_cons, List.map_nil]; rfl) ?_
      refine (river_Gaps.any lva kda ea dfa Aa capa xa wd (Kd.C_below HXA.out (hM ▸ HD.out.2.2)) hca (by omega)).mono ?_
      rintro e w5 ⟨A1, c1, rfl, hc1, hC1, hb⟩
      rw [gapsF_eq] at hc1 hC1; rw [gapsF_eq]; have HC1 := Aside0.mk hC1; clear hC1
      have H5 := Aside0.mk (two_below HD.out hb); clear hb
      refine ⟨_, rfl, hK.out _ _ H5.out (fun hHeld => ?_)⟩
      clear hK K
      refine norm_ (a' := ?_) ?_ ?_
      rotate_left
      · show Act.put _ (some 19) _ = _
        simp only [Act.put, List.setIfInBounds_toArray, List.set_cons_zero, List.set_cons_succ, i64_w, i32_w]
        rfl
      refine one_ (i := 5) (N := some 21) #[true, true, true, true, true, true, false, false, false, false, false, false, false, false, false, false, false, false] rfl rfl (by kernel_rfl) (by decide) (fun K hK => ?_)
      refine goes_ Try.func11 (by kernel_rfl) rfl #[.agg #[.int .i64 lva, .int .i64 kda, .int .i64 ea, .int .i64 dfa, .slice Aa xa.length capa]] (by rfl) rfl rfl (by simp only [List.map_toArray, List.map_cons, List.map_nil]; rfl) ?_
      refine (ref_Gaps.any lva kda ea dfa Aa capa xa w5 (Kd.C_below HXA.out (hM ▸ H5.out.2.2)) hca (by omega)).mono ?_
      rintro e w6 ⟨v, rfl, hR, hb⟩
      have HC2 := Aside0.mk (Kd.C_below HC1.out hb); obtain ⟨A2, c2, e2, hc2, hC2⟩ := Kd.R_reads hR; subst e2; have HC3 := Aside0.mk hC2; clear hC2 hR
      have H6 := Aside0.mk (two_below H5.out hb); clear hb
      refine ⟨_, rfl, hK.out _ _ H6.out (fun hHeld => ?_)⟩
      clear hK K
      refine norm_ (a' := ?_) ?_ ?_
      rotate_left
      · show Act.put _ (some 21) _ = _
        simp only [Act.put, List.setIfInBounds_toArray, List.set_cons_zero, List.set_cons_succ, i64_w, i32_w]
        rfl
      refine one_ (i := 6) (N := some 22) #[true, true, true, true, true, true, true, false, false, false, false, false, false, false, false, false, false, false] rfl rfl (by kernel_rfl) (by decide) (fun K hK => ?_)
      refine goes_ Try.func9 (by kernel_rfl) rfl #[.slice A1 (refG xa ea).length c1, .slice A2 (refG xa ea).length c2] (by rfl) rfl rfl (by simp only [List.map_toArray, List.map_cons, List.map_nil]; rfl) ?_
      refine (ref_Same.any A1 A2 c1 c2 (refG xa ea) (refG xa ea) w6 HC2.out HC3.out hc1 hc2 (Nat.le_trans (refG_len _ _) (by omega)) (Nat.le_trans (refG_len _ _) (by omega))).mono ?_
      rintro e w7 ⟨⟨r, rfl, hr, _⟩, hb⟩
      obtain rfl : r = true := hr rfl
      have H7 := Aside0.mk (two_below H6.out hb); clear hb
      refine ⟨_, rfl, hK.out _ _ H7.out (fun hHeld => ?_)⟩
      clear hK K
      refine norm_ (a' := ?_) ?_ ?_
      rotate_left
      · show Act.put _ (some 22) _ = _
        simp only [Act.put, List.setIfInBounds_toArray, List.set_cons_zero, List.set_cons_succ, i64_w, i32_w]
        rfl
      refine pure_ (i := 7) (N := some 23) (v := ?_) (a' := ?_) #[true, true, true, true, true, true, true, true, false, false, false, false, false, false, false, false, false, false] rfl rfl (by kernel_rfl) (fun _ _ _ h => h) (Or.inl ⟨by rfl, ?_⟩) ?_ ?_
      rotate_left
      · intro w'
        go_simp
        with_reducible rfl
      rotate_left
      · simp only [Act.put, List.setIfInBounds_toArray, List.set_cons_zero, List.set_cons_succ, i64_w, i32_w]
        rfl
      refine pure_ (i := 8) (N := some 24) (v := ?_) (a' := ?_) #[true, true, true, true, true, true, true, true, true, false, false, false, false, false, false, false, false, false] rfl rfl (by kernel_rfl) (fun _ _ _ h => h) (Or.inl ⟨by rfl, ?_⟩) ?_ ?_
      rotate_left
      · intro w'
        go_simp
        with_reducible rfl
      rotate_left
      · simp only [Act.put, List.setIfInBounds_toArray, List.set_cons_zero, List.set_cons_succ, i64_w, i32_w]
        rfl
      refine take_ (i := 9) (N := some 25) (v := ?_) (a' := ?_) #[true, true, true, true, true, true, true, true, true, true, false, false, false, false, false, false, false, false] rfl rfl (by kernel_rfl) (fun _ _ _ h => h) (Or.inl ⟨by rfl, ?_⟩) hHeld ?_ ?_
      rotate_left
      · rintro w' s0; have e0 : w'.cell? ⟨M, 0, none⟩ = some (.int .i64 lva) := (blk_cell s0.1 0).trans rfl; have e1 : w'.cell? ⟨M, 1, none⟩ = some (.int .i64 kda) := (blk_cell s0.1 1).trans rfl; have e2 : w'.cell? ⟨M, 2, none⟩ = some (.int .i64 ea) := (blk_cell s0.1 2).trans rfl; have e3 : w'.cell? ⟨M, 3, none⟩ = some (.int .i64 dfa) := (blk_cell s0.1 3).trans rfl; have e4 : w'.cell? ⟨M, 4, none⟩ = some (.slice Aa xa.length capa) := (blk_cell s0.1 4).trans rfl; have g0 : w'.cell? ⟨M + 1, 0, none⟩ = some (.int .i64 lvb) := (blk_cell s0.2.1 0).trans rfl; have g1 : w'.cell? ⟨M + 1, 1, none⟩ = some (.int .i64 kdb) := (blk_cell s0.2.1 1).trans rfl; have g2 : w'.cell? ⟨M + 1, 2, none⟩ = some (.int .i64 eb) := (blk_cell s0.2.1 2).trans rfl; have g3 : w'.cell? ⟨M + 1, 3, none⟩ = some (.int .i64 dfb) := (blk_cell s0.2.1 3).trans rfl; have g4 : w'.cell? ⟨M + 1, 4, none⟩ = some (.slice Ab xb.length capb) := (blk_cell s0.2.1 4).trans rfl
        go_simp
        with_reducible rfl
      rotate_left
      · simp only [Act.put, List.setIfInBounds_toArray, List.set_cons_zero, List.set_cons_succ, i64_w, i32_w]
        rfl
      refine take_ (i := 10) (N := some 26) (v := ?_) (a' := ?_) #[true, true, true, true, true, true, true, true, true, true, true, false, false, false, false, false, false, false] rfl rfl (by kernel_rfl) (fun _ _ _ h => h) (Or.inl ⟨by rfl, ?_⟩) hHeld ?_ ?_
      rotate_left
      · rintro w' s0; have e0 : w'.cell? ⟨M, 0, none⟩ = some (.int .i64 lva) := (blk_cell s0.1 0).trans rfl; have e1 : w'.cell? ⟨M, 1, none⟩ = some (.int .i64 kda) := (blk_cell s0.1 1).trans rfl; have e2 : w'.cell? ⟨M, 2, none⟩ = some (.int .i64 ea) := (blk_cell s0.1 2).trans rfl; have e3 : w'.cell? ⟨M, 3, none⟩ = some (.int .i64 dfa) := (blk_cell s0.1 3).trans rfl; have e4 : w'.cell? ⟨M, 4, none⟩ = some (.slice Aa xa.length capa) := (blk_cell s0.1 4).trans rfl; have g0 : w'.cell? ⟨M + 1, 0, none⟩ = some (.int .i64 lvb) := (blk_cell s0.2.1 0).trans rfl; have g1 : w'.cell? ⟨M + 1, 1, none⟩ = some (.int .i64 kdb) := (blk_cell s0.2.1 1).trans rfl; have g2 : w'.cell? ⟨M + 1, 2, none⟩ = some (.int .i64 eb) := (blk_cell s0.2.1 2).trans rfl; have g3 : w'.cell? ⟨M + 1, 3, none⟩ = some (.int .i64 dfb) := (blk_cell s0.2.1 3).trans rfl; have g4 : w'.cell? ⟨M + 1, 4, none⟩ = some (.slice Ab xb.length capb) := (blk_cell s0.2.1 4).trans rfl
        go_simp
        with_reducible rfl
      rotate_left
      · simp only [Act.put, List.setIfInBounds_toArray, List.set_cons_zero, List.set_cons_succ, i64_w, i32_w]
        rfl
      refine take_ (i := 12) (N := some 28) (v := ?_) (a' := ?_) #[true, true, true, true, true, true, true, true, true, true, true, false, true, false, false, false, false, false] rfl rfl (by kernel_rfl) (fun _ _ _ h => h) (Or.inl ⟨by rfl, ?_⟩) hHeld ?_ ?_
      rotate_left
      · rintro w' s0; have e0 : w'.cell? ⟨M, 0, none⟩ = some (.int .i64 lva) := (blk_cell s0.1 0).trans rfl; have e1 : w'.cell? ⟨M, 1, none⟩ = some (.int .i64 kda) := (blk_cell s0.1 1).trans rfl; have e2 : w'.cell? ⟨M, 2, none⟩ = some (.int .i64 ea) := (blk_cell s0.1 2).trans rfl; have e3 : w'.cell? ⟨M, 3, none⟩ = some (.int .i64 dfa) := (blk_cell s0.1 3).trans rfl; have e4 : w'.cell? ⟨M, 4, none⟩ = some (.slice Aa xa.length capa) := (blk_cell s0.1 4).trans rfl; have g0 : w'.cell? ⟨M + 1, 0, none⟩ = some (.int .i64 lvb) := (blk_cell s0.2.1 0).trans rfl; have g1 : w'.cell? ⟨M + 1, 1, none⟩ = some (.int .i64 kdb) := (blk_cell s0.2.1 1).trans rfl; have g2 : w'.cell? ⟨M + 1, 2, none⟩ = some (.int .i64 eb) := (blk_cell s0.2.1 2).trans rfl; have g3 : w'.cell? ⟨M + 1, 3, none⟩ = some (.int .i64 dfb) := (blk_cell s0.2.1 3).trans rfl; have g4 : w'.cell? ⟨M + 1, 4, none⟩ = some (.slice Ab xb.length capb) := (blk_cell s0.2.1 4).trans rfl
        go_simp
        with_reducible rfl
      rotate_left
      · simp only [Act.put, List.setIfInBounds_toArray, List.set_cons_zero, List.set_cons_succ, i64_w, i32_w]
        rfl
      refine take_ (i := 13) (N := some 29) (v := ?_) (a' := ?_) #[true, true, true, true, true, true, true, true, true, true, true, false, true, true, false, false, false, false] rfl rfl (by kernel_rfl) (fun _ _ _ h => h) (Or.inl ⟨by rfl, ?_⟩) hHeld ?_ ?_
      rotate_left
      · rintro w' s0; have e0 : w'.cell? ⟨M, 0, none⟩ = some (.int .i64 lva) := (blk_cell s0.1 0).trans rfl; have e1 : w'.cell? ⟨M, 1, none⟩ = some (.int .i64 kda) := (blk_cell s0.1 1).trans rfl; have e2 : w'.cell? ⟨M, 2, none⟩ = some (.int .i64 ea) := (blk_cell s0.1 2).trans rfl; have e3 : w'.cell? ⟨M, 3, none⟩ = some (.int .i64 dfa) := (blk_cell s0.1 3).trans rfl; have e4 : w'.cell? ⟨M, 4, none⟩ = some (.slice Aa xa.length capa) := (blk_cell s0.1 4).trans rfl; have g0 : w'.cell? ⟨M + 1, 0, none⟩ = some (.int .i64 lvb) := (blk_cell s0.2.1 0).trans rfl; have g1 : w'.cell? ⟨M + 1, 1, none⟩ = some (.int .i64 kdb) := (blk_cell s0.2.1 1).trans rfl; have g2 : w'.cell? ⟨M + 1, 2, none⟩ = some (.int .i64 eb) := (blk_cell s0.2.1 2).trans rfl; have g3 : w'.cell? ⟨M + 1, 3, none⟩ = some (.int .i64 dfb) := (blk_cell s0.2.1 3).trans rfl; have g4 : w'.cell? ⟨M + 1, 4, none⟩ = some (.slice Ab xb.length capb) := (blk_cell s0.2.1 4).trans rfl
        go_simp
        with_reducible rfl
      rotate_left
      · simp only [Act.put, List.setIfInBounds_toArray, List.set_cons_zero, List.set_cons_succ, i64_w, i32_w]
        rfl
      refine one_ (i := 11) (N := some 27) #[true, true, true, true, true, true, true, true, true, true, true, true, true, true, false, false, false, false] rfl rfl (by kernel_rfl) (by decide) (fun K hK => ?_)
      refine goes_ Try.func12 (by kernel_rfl) rfl #[.agg #[.int .i64 lva, .int .i64 kda, .int .i64 ea, .int .i64 dfa, .slice Aa xa.length capa], .agg #[.int .i64 lvb, .int .i64 kdb, .int .i64 eb, .int .i64 dfb, .slice Ab xb.length capb]] (by rfl) rfl rfl (by simp only [List.map_toArray, List.map_cons, List.map_nil]; rfl) ?_
      refine (river_Count.any lva kda ea dfa Aa capa xa lvb kdb eb dfb Ab capb xb w7 (Kd.C_below HXA.out (hM ▸ H7.out.2.2)) hca (Kd.C_below HXB.out (hM ▸ H7.out.2.2)) hcb).mono ?_
      rintro e w8 ⟨rfl, hb⟩
      rw [(count_eq xa xb ea eb (by omega) (by omega)).1]
      have H8 := Aside0.mk (two_below H7.out hb); clear hb
      refine ⟨_, rfl, hK.out _ _ H8.out (fun hHeld => ?_)⟩
      clear hK K
      refine norm_ (a' := ?_) ?_ ?_
      rotate_left
      · show Act.put _ (some 27) _ = _
        simp only [Act.put, List.setIfInBounds_toArray, List.set_cons_zero, List.set_cons_succ, i64_w, i32_w]
        rfl
      refine one_ (i := 14) (N := some 30) #[true, true, true, true, true, true, true, true, true, true, true, true, true, true, true, false, false, false] rfl rfl (by kernel_rfl) (by decide) (fun K hK => ?_)
      refine goes_ Try.func13 (by kernel_rfl) rfl #[.agg #[.int .i64 lva, .int .i64 kda, .int .i64 ea, .int .i64 dfa, .slice Aa xa.length capa], .agg #[.int .i64 lvb, .int .i64 kdb, .int .i64 eb, .int .i64 dfb, .slice Ab xb.length capb]] (by rfl) rfl rfl (by simp only [List.map_toArray, List.map_cons, List.map_nil]; rfl) ?_
      refine (ref_Count.any lva kda ea dfa Aa capa xa lvb kdb eb dfb Ab capb xb w8 (Kd.C_below HXA.out (hM ▸ H8.out.2.2)) hca (Kd.C_below HXB.out (hM ▸ H8.out.2.2)) hcb (by omega) (by omega)).mono ?_
      rintro e w9 ⟨rfl, hb⟩
      rw [(count_eq xa xb ea eb (by omega) (by omega)).2]
      have H9 := Aside0.mk (two_below H8.out hb); clear hb
      refine ⟨_, rfl, hK.out _ _ H9.out (fun hHeld => ?_)⟩
      clear hK K
      refine norm_ (a' := ?_) ?_ ?_
      rotate_left
      · show Act.put _ (some 30) _ = _
        simp only [Act.put, List.setIfInBounds_toArray, List.set_cons_zero, List.set_cons_succ, i64_w, i32_w]
        rfl
      refine pure_ (i := 15) (N := some 31) (v := ?_) (a' := ?_) #[true, true, true, true, true, true, true, true, true, true, true, true, true, true, true, true, false, false] rfl rfl (by kernel_rfl) (fun _ _ _ h => h) (Or.inl ⟨by rfl, ?_⟩) ?_ ?_
      rotate_left
      · intro w'
        go_simp
        with_reducible rfl
      rotate_left
      · simp only [Act.put, List.setIfInBounds_toArray, List.set_cons_zero, List.set_cons_succ, i64_w, i32_w]
        rfl
      refine pure_ (i := 16) (N := some 32) (v := ?_) (a' := ?_) #[true, true, true, true, true, true, true, true, true, true, true, true, true, true, true, true, true, false] rfl rfl (by kernel_rfl) (fun _ _ _ h => h) (Or.inl ⟨by rfl, ?_⟩) ?_ ?_
      rotate_left
      · intro w'
        go_simp
        with_reducible rfl
      rotate_left
      · simp only [Act.put, List.setIfInBounds_toArray, List.set_cons_zero, List.set_cons_succ, i64_w, i32_w]
        rfl
      refine pure_ (i := 17) (N := some 4) (v := ?_) (a' := ?_) #[true, true, true, true, true, true, true, true, true, true, true, true, true, true, true, true, true, true] rfl rfl (by kernel_rfl) (fun _ _ _ h => h) (Or.inl ⟨by rfl, ?_⟩) ?_ ?_
      rotate_left
      · intro w'
        go_simp
        with_reducible rfl
      rotate_left
      · simp only [Act.put, List.setIfInBounds_toArray, List.set_cons_zero, List.set_cons_succ, i64_w, i32_w]
        rfl
      refine done_ (by kernel_rfl) ?_
      go_wp2
      go_ret
      exact ⟨rfl, by first | exact H9.out.2.2 | (rw [hM]; exact H9.out.2.2)⟩
    · have hdb : decide ((xb.length : Int) ≤ 300) = false := decide_eq_false (by omega)
      clear h0
      go_wp2_with (first | (go_at_call 8; have h3 := H3.out; clear h3; refine (few_calls lvb kdb eb dfb Ab capb xb w2 (Kd.C_below HXB.out (hM ▸ H3.out.2.2)) hcb).mono ?_; rintro e w3 ⟨rfl, hb⟩; rw [hdb]; have H4 := Aside0.mk (two_below H3.out hb); clear hb; have q0 : w3.cell? ⟨M, 0, none⟩ = some (.int .i64 lva) := (blk_cell H4.out.1 0).trans rfl; have q1 : w3.cell? ⟨M, 1, none⟩ = some (.int .i64 kda) := (blk_cell H4.out.1 1).trans rfl; have q2 : w3.cell? ⟨M, 2, none⟩ = some (.int .i64 ea) := (blk_cell H4.out.1 2).trans rfl; have q3 : w3.cell? ⟨M, 3, none⟩ = some (.int .i64 dfa) := (blk_cell H4.out.1 3).trans rfl; have q4 : w3.cell? ⟨M, 4, none⟩ = some (.slice Aa xa.length capa) := (blk_cell H4.out.1 4).trans rfl) | (go_at_call 8; refine (few_calls lva kda ea dfa Aa capa xa w1 (Kd.C_below HXA.out (hM ▸ H2.out.2.2)) hca).mono ?_; rintro e w2 ⟨rfl, hb⟩; rw [hda]; have H3 := Aside0.mk (two_below H2.out hb); clear hb; have p0 : w2.cell? ⟨M + 1, 0, none⟩ = some (.int .i64 lvb) := (blk_cell H3.out.2.1 0).trans rfl; have p1 : w2.cell? ⟨M + 1, 1, none⟩ = some (.int .i64 kdb) := (blk_cell H3.out.2.1 1).trans rfl; have p2 : w2.cell? ⟨M + 1, 2, none⟩ = some (.int .i64 eb) := (blk_cell H3.out.2.1 2).trans rfl; have p3 : w2.cell? ⟨M + 1, 3, none⟩ = some (.int .i64 dfb) := (blk_cell H3.out.2.1 3).trans rfl; have p4 : w2.cell? ⟨M + 1, 4, none⟩ = some (.slice Ab xb.length capb) := (blk_cell H3.out.2.1 4).trans rfl))
      go_ret
      exact ⟨rfl, by first | exact H4.out.2.2 | (rw [hM]; exact H4.out.2.2)⟩
  · have hda : decide ((xa.length : Int) ≤ 300) = false := decide_eq_false (by omega)
    clear h0
    go_wp2_with (go_at_call 8; refine (few_calls lva kda ea dfa Aa capa xa w1 (Kd.C_below HXA.out (hM ▸ H2.out.2.2)) hca).mono ?_; rintro e w2 ⟨rfl, hb⟩; rw [hda]; have H3 := Aside0.mk (two_below H2.out hb); clear hb; have p0 : w2.cell? ⟨M + 1, 0, none⟩ = some (.int .i64 lvb) := (blk_cell H3.out.2.1 0).trans rfl; have p1 : w2.cell? ⟨M + 1, 1, none⟩ = some (.int .i64 kdb) := (blk_cell H3.out.2.1 1).trans rfl; have p2 : w2.cell? ⟨M + 1, 2, none⟩ = some (.int .i64 eb) := (blk_cell H3.out.2.1 2).trans rfl; have p3 : w2.cell? ⟨M + 1, 3, none⟩ = some (.int .i64 dfb) := (blk_cell H3.out.2.1 3).trans rfl; have p4 : w2.cell? ⟨M + 1, 4, none⟩ = some (.slice Ab xb.length capb) := (blk_cell H3.out.2.1 4).trans rfl)
    go_ret
    exact ⟨rfl, by first | exact H3.out.2.2 | (rw [hM]; exact H3.out.2.2)⟩
end Go.Proofs.Ytbejdeopkphciaa.Q
