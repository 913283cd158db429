/- Whether two rows of gaps are the same; the document's count. -/
import Derived.Test.YtbejdeopkphciaaQRef
import Derived.ChangeKeysEq
namespace Go.Proofs.Ytbejdeopkphciaa.Q
open Go.RowKit Go.Shelf Go.Proofs.YtbejdeopkphciaaW.PrintWords Go.Proofs.YtbejdeopkphciaaW.PrintLast Go.Proofs.YtbejdeopkphciaaW.PrintMore
attribute [local go_sem] max2_int min2_int max_two min_two
set_option linter.unusedVariables false
set_option linter.unusedSimpArgs false

theorem k33_get {w : World} {A : Option Addr} {xs : List S33} (h : Kd.C k33 w A xs.length xs) (k : Nat) (hk : k < xs.length) : ∃ ad, A = some ad ∧ w.cell? (ad.add (k * 2)) = some (.int .i64 (rd_T33 xs k).f0) ∧ w.cell? ⟨(ad.add (k * 2)).block, (ad.add (k * 2)).off + 1, none⟩ = some (.int .i64 (rd_T33 xs k).f1) := by
  obtain ⟨ad, h1, h2, h3⟩ := at_T33 h (k : Int) (by omega) (by omega)
  rw [Int.toNat_natCast] at h2 h3
  exact ⟨ad, h1, h2, h3⟩

theorem eq36 (a b c d : Int) (w : World) : (Op.equalIn 10000 36 (.agg #[.int .i64 a, .int .i64 b]) (.agg #[.int .i64 c, .int .i64 d])).run Try.prog w = .ok (a == c && b == d) w := by
  obtain ⟨i, hi⟩ : ∃ i, Try.prog.info? 3 = some i := ⟨_, rfl⟩
  rw [run_equalIn_array w 9999 _ _ Try.underlying36 hi]
  have hc : Try.prog.cellsOf 3 = 1 := by kernel_rfl
  rw [hc]
  have he : ∀ (x y : Int), (Op.equalIn 9999 3 (.int .i64 x) (.int .i64 y)).run Try.prog w = .ok (x == y) w := fun x y => run_equalIn_int w 9998 3 .i64 .i64 x y Try.underlying3
  have hp0 : ∀ (x y : Int), (part 3 #[.int .i64 x, .int .i64 y] (0 * 1)).run Try.prog w = .ok (.int .i64 x) w := fun x y => by go_simp
  have hp1 : ∀ (x y : Int), (part 3 #[.int .i64 x, .int .i64 y] (1 * 1)).run Try.prog w = .ok (.int .i64 y) w := fun x y => by go_simp
  show (Op.eqItems 9999 3 1 _ _ [0, 1]).run Try.prog w = _
  simp only [Op.eqItems, Sem.run_bind, hp0, hp1, he, Result.andThen_ok]
  cases a == c
  · simp
  · by_cases hbd : b = d <;> simp [he, hp1, Sem.run_bind, hbd]

set_option maxHeartbeats 4000000 in
theorem ref_Same.any (A B : Option Addr) (ca cb : Nat) (xs ys : List S33) (w : World) (hx : Kd.C k33 w A xs.length xs) (hy : Kd.C k33 w B ys.length ys) (hca : xs.length ≤ ca) (hcb : ys.length ≤ cb) (hxl : xs.length ≤ 1000000) (hyl : ys.length ≤ 1000000) :
    Calls Try.prog 9 #[.slice A xs.length ca, .slice B ys.length cb] w fun e w' => (∃ r : Bool, e = .returned (.bool r) ∧ (xs = ys → r = true) ∧ (r = true → xs = ys)) ∧ Below w.heap.size w w' := by
  have HX := Aside0.mk hx
  have HY := Aside0.mk hy
  clear hx hy
  go_enter Try.func9, Try.ntmps9
  by_cases hl : xs.length = ys.length
  · rw [← hl]
    go_wp2
    go_loopw [5] (fun s5 wr => ∃ k : Nat, k ≤ xs.length ∧ s5 = .int .i64 k ∧ Aside0 (xs.take k = ys.take k) ∧ Aside0 (Below w.heap.size w wr))
      (fun s5 _ => xs.length - (intOf s5).toNat)
    case atStart => exact ⟨0, Nat.zero_le _, rfl, ⟨rfl⟩, ⟨Below.refl _ _⟩⟩
    case round =>
      obtain ⟨k, hk, rfl, HE, HB⟩ := hrel
      by_cases hlt : k < xs.length
      · obtain ⟨ad, hA, a0, a1⟩ := k33_get (Kd.C_below HX.out HB.out) k hlt
        obtain ⟨bd, hB, b0, b1⟩ := k33_get (Kd.C_below HY.out HB.out) k (by omega)
        subst hA hB
        have hlt2 : k < ys.length := by omega
        go_upto_region 6 with (fail)
        obtain ⟨wd, hwd⟩ : ∃ wd, wr.drew = wd := ⟨_, rfl⟩
        replace a0 : wd.cell? (ad.add (k * 2)) = some (.int .i64 (rd_T33 xs k).f0) := by rw [← hwd]; exact a0
        replace a1 : wd.cell? ⟨(ad.add (k * 2)).block, (ad.add (k * 2)).off + 1, none⟩ = some (.int .i64 (rd_T33 xs k).f1) := by rw [← hwd]; exact a1
        replace b0 : wd.cell? (bd.add (k * 2)) = some (.int .i64 (rd_T33 ys k).f0) := by rw [← hwd]; exact b0
        replace b1 : wd.cell? ⟨(bd.add (k * 2)).block, (bd.add (k * 2)).off + 1, none⟩ = some (.int .i64 (rd_T33 ys k).f1) := by rw [← hwd]; exact b1
        refine start_ (n := 9) (S := fun w' => w' = wd) (ds := []) #[false, false, false, false, false, false, false, false, false] (by kernel_rfl) rfl rfl hwd (fun hHeld => ?_)
        refine take_ (i := 0) (N := some 17) (v := ?_) (a' := ?_) #[true, false, false, false, false, false, false, false, false] rfl rfl (by kernel_rfl) (fun _ _ _ h => h) (Or.inl ⟨by rfl, ?_⟩) hHeld ?_ ?_
        rotate_left
        · rintro w' rfl
          go_simp
          with_reducible rfl
        rotate_left
        · simp only [Act.put, List.setIfInBounds_toArray, List.set_cons_zero, List.set_cons_succ, i64_w, i32_w]
          rfl
        refine take_ (i := 1) (N := some 18) (v := ?_) (a' := ?_) #[true, true, false, false, false, false, false, false, false] rfl rfl (by kernel_rfl) (fun _ _ _ h => h) (Or.inl ⟨by rfl, ?_⟩) hHeld ?_ ?_
        rotate_left
        · rintro w' rfl
          go_simp
          with_reducible rfl
        rotate_left
        · simp only [Act.put, List.setIfInBounds_toArray, List.set_cons_zero, List.set_cons_succ, i64_w, i32_w]
          rfl
        refine take_ (i := 2) (N := some 19) (v := ?_) (a' := ?_) #[true, true, true, false, false, false, false, false, false] rfl rfl (by kernel_rfl) (fun _ _ _ h => h) (Or.inl ⟨by rfl, ?_⟩) hHeld ?_ ?_
        rotate_left
        · rintro w' rfl
          go_simp
          with_reducible rfl
        rotate_left
        · simp only [Act.put, List.setIfInBounds_toArray, List.set_cons_zero, List.set_cons_succ, i64_w, i32_w]
          rfl
        refine take_ (i := 3) (N := some 20) (v := ?_) (a' := ?_) #[true, true, true, true, false, false, false, false, false] rfl rfl (by kernel_rfl) (fun _ _ _ h => h) (Or.inl ⟨by rfl, ?_⟩) hHeld ?_ ?_
        rotate_left
        · rintro w' rfl
          go_simp
          with_reducible rfl
        rotate_left
        · simp only [Act.put, List.setIfInBounds_toArray, List.set_cons_zero, List.set_cons_succ, i64_w, i32_w]
          rfl
        refine take_ (i := 4) (N := some 21) (v := ?_) (a' := ?_) #[true, true, true, true, true, false, false, false, false] rfl rfl (by kernel_rfl) (fun _ _ _ h => h) (Or.inl ⟨by rfl, ?_⟩) hHeld ?_ ?_
        rotate_left
        · rintro w' rfl
          go_simp
          with_reducible rfl
        rotate_left
        · simp only [Act.put, List.setIfInBounds_toArray, List.set_cons_zero, List.set_cons_succ, i64_w, i32_w]
          rfl
        refine take_ (i := 5) (N := some 22) (v := ?_) (a' := ?_) #[true, true, true, true, true, true, false, false, false] rfl rfl (by kernel_rfl) (fun _ _ _ h => h) (Or.inl ⟨by rfl, ?_⟩) hHeld ?_ ?_
        rotate_left
        · rintro w' rfl
          go_simp
          with_reducible rfl
        rotate_left
        · simp only [Act.put, List.setIfInBounds_toArray, List.set_cons_zero, List.set_cons_succ, i64_w, i32_w]
          rfl
        refine take_ (i := 6) (N := some 23) (v := ?_) (a' := ?_) #[true, true, true, true, true, true, true, false, false] rfl rfl (by kernel_rfl) (fun _ _ _ h => h) (Or.inl ⟨by rfl, ?_⟩) hHeld ?_ ?_
        rotate_left
        · rintro w' rfl
          go_simp
          with_reducible rfl
        rotate_left
        · simp only [Act.put, List.setIfInBounds_toArray, List.set_cons_zero, List.set_cons_succ, i64_w, i32_w]
          rfl
        refine take_ (i := 7) (N := some 24) (v := ?_) (a' := ?_) #[true, true, true, true, true, true, true, true, false] rfl rfl (by kernel_rfl) (fun _ _ _ h => h) (Or.inl ⟨by rfl, ?_⟩) hHeld ?_ ?_
        rotate_left
        · rintro w' rfl
          go_simp
          with_reducible rfl
        rotate_left
        · simp only [Act.put, List.setIfInBounds_toArray, List.set_cons_zero, List.set_cons_succ, i64_w, i32_w]
          rfl
        refine take_ (i := 8) (N := some 25) (v := ?_) (a' := ?_) #[true, true, true, true, true, true, true, true, true] rfl rfl (by kernel_rfl) (fun _ _ _ h => h) (Or.inl ⟨by rfl, ?_⟩) hHeld ?_ ?_
        rotate_left
        · rintro w' rfl
          go_simp
          simp only [eq36, Result.andThen_ok]
          with_reducible rfl
        rotate_left
        · simp only [Act.put, List.setIfInBounds_toArray, List.set_cons_zero, List.set_cons_succ, i64_w, i32_w]
          rfl
        refine done_ (by kernel_rfl) ?_
        have HBw : Aside0 (Below w.heap.size w wd) := ⟨by rw [← hwd]; exact HB.out.drew⟩
        rw [hwd]
        clear hwd a0 a1 b0 b1 hHeld HB
        obtain ⟨r, hr⟩ : ∃ r, (!((rd_T33 xs k).f0 == (rd_T33 ys k).f0 && (rd_T33 xs k).f1 == (rd_T33 ys k).f1)) = r := ⟨_, rfl⟩
        rw [hr]
        cases r with
        | true =>
          have HR := Aside0.mk hr
          clear hr
          go_wp2
          go_ret
          refine ⟨⟨false, rfl, fun h => ?_, fun h => by cases h⟩, HBw.out⟩
          have := HR.out
          rw [h] at this
          simp at this
        | false =>
          have HE1 : Aside0 (xs.take (k + 1) = ys.take (k + 1)) := ⟨by
            have h1 := drop_at xs k hlt
            have h2 := drop_at ys k hlt2
            have e : rd_T33 xs k = rd_T33 ys k := by
              simp at hr
              cases hx : rd_T33 xs k
              cases hy : rd_T33 ys k
              rw [hx, hy] at hr
              obtain ⟨rfl, rfl⟩ := hr
              rfl
            rw [List.take_add, List.take_add, HE.out, h1, h2, e]
            rfl⟩
          clear hr HE
          go_wp2
          go_roundw
          case rel => exact ⟨k + 1, by omega, by go_num, HE1, HBw⟩
          case measure => simp [intOf]; omega
      · go_wp2
        go_ret
        refine ⟨⟨true, rfl, fun _ => rfl, fun _ => ?_⟩, HB.out⟩
        have := HE.out
        rwa [List.take_of_length_le (by omega), List.take_of_length_le (by omega)] at this
  · have hb := bne_iff_ne.2 (show (xs.length : Int) ≠ (ys.length : Int) from by omega)
    go_wp2
    go_ret
    exact ⟨⟨false, rfl, fun h => absurd (congrArg List.length h) hl, fun h => by cases h⟩, Below.refl _ _⟩
end Go.Proofs.Ytbejdeopkphciaa.Q
