/- The contract of text.Check, by hand: it tells whether words may be. -/
import Derived.Test.YtnhalfkkamepgaaQWord
namespace Go.Proofs.Ytnhalfkkamepgaa.Q
open Go.RowKit Go.Proofs.YtnhalfkkamepgaaW.PrintWords Go.Proofs.YtnhalfkkamepgaaW.PrintLast Go.Proofs.YtnhalfkkamepgaaW.PrintMore
set_option linter.unusedVariables false
set_option linter.unusedSimpArgs false

def okB (w : S36) : Bool := wordB w.f0 w.f1
def sumL (l : List S36) : Nat := (l.map fun w => w.f0.length).sum
def checkB (l : List S36) : Bool := l.all okB && (decide (1 ≤ l.length) && (decide (l.length ≤ 100) && decide ((sumL l : Int) ≤ 400)))
def text_Check.f (l0 : List S36) : Option Bool := some (checkB l0)

theorem okB_len {w : S36} (h : okB w = true) : 1 ≤ w.f0.length ∧ w.f0.length ≤ 60 := by
  simp [okB, wordB] at h; omega
theorem rd_T36_eq (l : List S36) (k : Nat) (h : k < l.length) : rd_T36 l k = l[k] := by
  simp [rd_T36, List.getD_eq_getElem?_getD, List.getElem?_eq_getElem h]
theorem take_succ_rd (l : List S36) (k : Nat) (h : k < l.length) : l.take (k + 1) = l.take k ++ [rd_T36 l k] := by
  rw [rd_T36_eq l k h, List.take_succ_eq_append_getElem h]
theorem sumL_le (l : List S36) (h : l.all okB = true) : sumL l ≤ 60 * l.length := by
  induction l with
  | nil => simp [sumL]
  | cons x xs ih =>
    simp only [List.all_cons, Bool.and_eq_true] at h
    have := ih h.2
    have := okB_len h.1
    simp only [sumL, List.map_cons, List.sum_cons, List.length_cons] at *
    omega
theorem sumL_snoc (l : List S36) (x : S36) : sumL (l ++ [x]) = sumL l + x.f0.length := by simp [sumL]

theorem all_false (l : List S36) (k : Nat) (h : k < l.length) (hf : ¬ okB (rd_T36 l k) = true) : l.all okB = false := by
  rw [Bool.eq_false_iff]
  intro ha
  rw [List.all_eq_true] at ha
  exact hf (ha _ (by rw [rd_T36_eq l k h]; exact List.getElem_mem h))
theorem cell_box (W : World) (cs : Array Value) (t : TypeId) (j : Nat) (v : Value) (h : cs[j]? = some v) : (W.alloc (.cells cs t)).cell? ⟨W.heap.size, j, none⟩ = some v := by
  have hb := blk_new W (.cells cs t)
  unfold World.cell?
  rw [hb]
  exact h
theorem cell_kept_box {W W' : World} {cs : Array Value} {t : TypeId} (hb : Below (W.alloc (.cells cs t)).heap.size (W.alloc (.cells cs t)) W') (j : Nat) (v : Value) (h : cs[j]? = some v) : W'.cell? ⟨W.heap.size, j, none⟩ = some v :=
  (hb.cell (p := ⟨W.heap.size, j, none⟩) (by simp)).trans (cell_box W cs t j v h)

set_option maxHeartbeats 4000000 in
theorem check_any (A : Option Addr) (c : Nat) (l : List S36) (w : World) (hr : Kd.C k36 w A l.length l) :
    Calls Try.prog 17 #[.slice A l.length c] w fun e w' => e = .returned (.bool (checkB l)) ∧ Below w.heap.size w w' := by
  have hu36 := Try.underlying36
  have HR := Aside0.mk hr
  have hm : l.length ≤ 9223372036854775807 := hr.2.1
  have HB := Aside0.mk (Below.refl w.heap.size w)
  clear hr
  go_enter Try.func17, Try.ntmps17
  go_wp2
  go_loopw [3, 8] (fun t i wr => ∃ (k : Nat) (n : Int), k ≤ l.length ∧ i = .int .i64 k ∧ t = .int .i64 n ∧ Aside0 ((l.take k).all okB = true) ∧ Aside0 (l.length ≤ 100 → n = sumL (l.take k)) ∧ Aside0 (Below w.heap.size w wr)) (fun _ i _ => l.length - (intOf i).toNat)
  case atStart => exact ⟨0, 0, Nat.zero_le _, rfl, rfl, ⟨rfl⟩, ⟨fun _ => rfl⟩, HB⟩
  case round =>
    obtain ⟨k, n, hk, rfl, rfl, hall, hn, HB⟩ := hrel
    by_cases hlt : k < l.length
    · obtain ⟨ad, A0, c0, A1, c1, rfl, hc0, hc1, _, hi0, _, hi1⟩ := at_T36 HR.out (k : Int) (by omega) (by omega)
      replace hc0 := (HB.out.cell (World.block_lt_of_cell? w _ hc0)).trans hc0
      replace hc1 := (HB.out.cell (World.block_lt_of_cell? w _ hc1)).trans hc1
      rw [Int.toNat_natCast] at hc0 hc1
      have HI0 := Aside0.mk hi0
      have HI1 := Aside0.mk hi1
      clear hi0 hi1
      have hts := Aside0.mk (take_succ_rd l k hlt)
      by_cases hok : okB (rd_T36 l k) = true
      · have HOK := Aside0.mk hok
        have hok' : wordB (rd_T36 l k).f0 (rd_T36 l k).f1 = true := hok
        clear hok
        go_wp2_with (go_at_call 25; refine (word_any _ _ _ _ _ _ _ (by exact Kd.C_alloc (Kd.C_below HI0.out HB.out) _) (by exact Kd.C_alloc (Kd.C_below HI1.out HB.out) _)).mono ?_; rintro e w' ⟨rfl, hb⟩; have HB2 := Aside0.mk hb; have hx0 := cell_kept_box hb 0 _ rfl; clear hb)
        go_roundw
        case rel => exact ⟨k + 1, _, by omega, by go_num, rfl, ⟨by rw [hts.out, List.all_append, hall.out]; simp [HOK.out]⟩, ⟨fun h => by
            rw [hts.out, sumL_snoc, hn.out h]
            have h1 := sumL_le _ hall.out
            have h2 := okB_len HOK.out
            rw [List.length_take] at h1
            unfold wrap64
            omega⟩, ⟨below_then (below_alloc HB.out _) (by have := HB.out.size; simp; omega) HB2.out⟩⟩
        case measure => simp [intOf]; omega
      · have HOK := Aside0.mk hok
        have hok' : wordB (rd_T36 l k).f0 (rd_T36 l k).f1 = false := Bool.eq_false_iff.2 hok
        clear hok
        go_wp2_with (go_at_call 25; refine (word_any _ _ _ _ _ _ _ (by exact Kd.C_alloc (Kd.C_below HI0.out HB.out) _) (by exact Kd.C_alloc (Kd.C_below HI1.out HB.out) _)).mono ?_; rintro e w' ⟨rfl, hb⟩; have HB2 := Aside0.mk hb; have hx0 := cell_kept_box hb 0 _ rfl; clear hb)
        go_ret
        exact ⟨by rw [checkB, all_false l k hlt HOK.out]; rfl, below_then (below_alloc HB.out _) (by have := HB.out.size; simp; omega) HB2.out⟩
    · have hl : l.take k = l := List.take_of_length_le (by omega)
      have hall' := Aside0.mk (hl ▸ hall.out)
      have hn' := Aside0.mk (hl ▸ hn.out)
      clear hall hn hl
      by_cases h1 : 1 ≤ l.length
      · by_cases h2 : l.length ≤ 100
        · obtain rfl := hn'.out h2
          go_wp2
          go_ret
          exact ⟨by rw [checkB, hall'.out, decide_eq_true h1, decide_eq_true h2]; rfl, HB.out⟩
        · go_wp2
          go_ret
          exact ⟨by rw [checkB, hall'.out, decide_eq_true h1, decide_eq_false h2]; rfl, HB.out⟩
      · go_wp2
        go_ret
        exact ⟨by rw [checkB, hall'.out, decide_eq_false h1]; rfl, HB.out⟩

theorem text_Check.calls (A0 : Option Addr) (c0 : Nat) (l0 : List S36) (r : Bool) (w : World) (hr0 : Kd.C k36 w A0 l0.length l0) (hc0 : l0.length ≤ c0) (h : text_Check.f l0 = some r) :
    Calls Try.prog 17 #[.slice A0 l0.length c0] w fun e w' => e = .returned (.bool r) ∧ Below w.heap.size w w' := by
  obtain rfl := Option.some.inj h
  exact check_any _ _ _ _ hr0

end Go.Proofs.Ytnhalfkkamepgaa.Q
