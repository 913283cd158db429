/- The contract of ship.Check, by hand: it tells whether rows may be. -/
import Derived.Test.YthlhfnbaihdjkaaQx0
namespace Go.Proofs.Ythlhfnbaihdjkaa.Q
open Go.RowKit Go.Proofs.YthlhfnbaihdjkaaW.PrintWords Go.Proofs.YthlhfnbaihdjkaaW.PrintLast Go.Proofs.YthlhfnbaihdjkaaW.PrintMore
set_option linter.unusedVariables false
set_option linter.unusedSimpArgs false

def wordI (n : Int) : Bool := decide (-2147483648 ≤ n) && decide (n < 2147483648)
def badItem (p : S43) : Bool := decide (p.f0 < 0) || (decide (255 < p.f0) || !wordI p.f1)
def rowB (r : S41) : Bool := decide (-8 ≤ r.f0) && (decide (r.f0 ≤ 8) && (decide (1 ≤ r.f1) && (decide (r.f1 ≤ 5) && (wordI r.f2 && (wordI r.f3 && (decide (r.f4.length ≤ 600) && !r.f4.any badItem))))))
def badRow (r : S41) : Bool := !rowB r
def checkB (l : List S41) : Bool := decide (l.length ≤ 200) && !l.any badRow
def ship_Check.f (l0 : List S41) : Option Bool := some (checkB l0)

/-- The first index of what is so, or -1. -/
def idxOf {α : Type} (p : α → Bool) : List α → Nat → Int
  | [], _ => -1
  | x :: xs, k => if p x = true then (k : Int) else idxOf p xs (k + 1)
theorem idxOf_any {α : Type} (p : α → Bool) (l : List α) : ∀ k, (decide (0 ≤ idxOf p l k)) = l.any p := by
  induction l with
  | nil => intro k; rfl
  | cons x xs ih =>
    intro k
    unfold idxOf
    by_cases h : p x = true
    · rw [if_pos h]; simp [h]
    · rw [if_neg h, ih]; simp [h]
theorem idxOf_cons {α : Type} (p : α → Bool) (x : α) (xs : List α) (k : Nat) : idxOf p (x :: xs) k = if p x = true then (k : Int) else idxOf p xs (k + 1) := rfl
theorem idxOf_drop {α : Type} (p : α → Bool) (l : List α) (k : Nat) (h : k < l.length) : idxOf p (l.drop k) k = if p l[k] = true then (k : Int) else idxOf p (l.drop (k + 1)) (k + 1) := by
  rw [List.drop_eq_getElem_cons h, idxOf_cons]
theorem rd_T43_eq (l : List S43) (k : Nat) (h : k < l.length) : rd_T43 l k = l[k] := by
  simp [rd_T43, List.getD_eq_getElem?_getD, List.getElem?_eq_getElem h]
theorem rd_T41_eq (l : List S41) (k : Nat) (h : k < l.length) : rd_T41 l k = l[k] := by
  simp [rd_T41, List.getD_eq_getElem?_getD, List.getElem?_eq_getElem h]

theorem word_calls (n : Int) (w : World) : Calls Try.prog 41 #[.int .i64 n] w fun e w' => e = .returned (.bool (wordI n)) ∧ w = w' := by
  by_cases h : -2147483648 ≤ n
  · go_enter Try.func41, Try.ntmps41
    go_wp2
    go_ret
    exact ⟨by rw [wordI, decide_eq_true h]; rfl, rfl⟩
  · go_enter Try.func41, Try.ntmps41
    go_wp2
    go_ret
    exact ⟨by rw [wordI, decide_eq_false (show ¬ -2147483648 ≤ n by omega)]; rfl, rfl⟩

theorem item_calls (c x : Int) (w : World) : Calls Try.prog 40 #[.agg #[.int .i64 c, .int .i64 x]] w fun e w' => e = .returned (.bool (badItem ⟨c, x⟩)) ∧ Below w.heap.size w w' := by
  have hu := Try.underlying43
  have hB : Aside0 (Below w.heap.size w (w.alloc (.cells #[.int .i64 c, .int .i64 x] 43))) := ⟨(Below.refl _ _).alloc (Nat.le_refl _) _⟩
  by_cases h : c < 0
  · go_enter Try.func40, Try.ntmps40
    go_wp2
    go_ret
    exact ⟨by rw [badItem, decide_eq_true h]; rfl, hB.out⟩
  · by_cases h2 : 255 < c
    · go_enter Try.func40, Try.ntmps40
      go_wp2
      go_ret
      exact ⟨by rw [badItem, decide_eq_false (show ¬ c < 0 by omega), decide_eq_true h2]; rfl, hB.out⟩
    · go_enter Try.func40, Try.ntmps40
      go_wp2_with (go_at_call 41; refine (word_calls _ _).mono ?_; rintro e w' ⟨rfl, rfl⟩)
      go_ret
      exact ⟨by rw [badItem, decide_eq_false (show ¬ c < 0 by omega), decide_eq_false (show ¬ 255 < c by omega)]; rfl, hB.out⟩

set_option maxHeartbeats 4000000 in
theorem iindex_calls (A : Option Addr) (c : Nat) (l : List S43) (w : World) (hr : Kd.C k43 w A l.length l) :
    Calls Try.prog 51 #[.slice A l.length c, .func (.func 40) #[] #[]] w fun e w' => e = .returned (.int .i64 (idxOf badItem l 0)) ∧ Below w.heap.size w w' := by
  have HR := Aside0.mk hr
  have hm : l.length ≤ 9223372036854775807 := hr.2.1
  have HB := Aside0.mk (Below.refl w.heap.size w)
  clear hr
  go_enter Try.func51, Try.ntmps51
  go_wp2
  go_loopw [8] (fun i wr => ∃ k : Nat, k ≤ l.length ∧ i = .int .i64 k ∧ Aside0 (idxOf badItem l 0 = idxOf badItem (l.drop k) k) ∧ Aside0 (Below w.heap.size w wr)) (fun i _ => l.length - (intOf i).toNat)
  case atStart => exact ⟨0, Nat.zero_le _, rfl, ⟨by simp⟩, HB⟩
  case round =>
    clear HB
    obtain ⟨k, hk, rfl, hd, HB⟩ := hrel
    by_cases hlt : k < l.length
    · obtain ⟨ad, rfl, hc0, hc1⟩ := at_T43 HR.out (k : Int) (by omega) (by omega)
      replace hc0 := (HB.out.cell (World.block_lt_of_cell? w _ hc0)).trans hc0
      replace hc1 := (HB.out.cell (World.block_lt_of_cell? w _ hc1)).trans hc1
      rw [Int.toNat_natCast] at hc0 hc1
      have HI := Aside0.mk (hd.out.trans (idxOf_drop badItem l k hlt))
      have HE := Aside0.mk (rd_T43_eq l k hlt)
      clear hd
      by_cases hb : badItem (rd_T43 l k) = true
      · have HBI := Aside0.mk hb
        have hb' : badItem ⟨(rd_T43 l k).f0, (rd_T43 l k).f1⟩ = true := hb
        clear hb
        go_wp2_with (go_at_call 40; refine (item_calls _ _ _).mono ?_; rintro e w' ⟨rfl, hb⟩; have HB2 := Aside0.mk hb; clear hb)
        go_ret
        exact ⟨by rw [HI.out, if_pos (by rw [← HE.out]; exact HBI.out)]; rfl, below_then HB.out HB.out.size HB2.out⟩
      · have HBI := Aside0.mk hb
        have hb' : badItem ⟨(rd_T43 l k).f0, (rd_T43 l k).f1⟩ = false := Bool.eq_false_iff.2 hb
        clear hb
        go_wp2_with (go_at_call 40; refine (item_calls _ _ _).mono ?_; rintro e w' ⟨rfl, hb⟩; have HB2 := Aside0.mk hb; clear hb)
        go_roundw
        case rel => exact ⟨k + 1, by omega, by go_num, ⟨by rw [HI.out, if_neg (by rw [← HE.out]; exact HBI.out)]⟩, ⟨below_then HB.out HB.out.size HB2.out⟩⟩
        case measure => simp [intOf]; omega
    · go_wp2
      go_ret
      exact ⟨by rw [hd.out, List.drop_eq_nil_of_le (by omega)]; rfl, HB.out⟩

theorem icontains_calls (A : Option Addr) (c : Nat) (l : List S43) (w : World) (hr : Kd.C k43 w A l.length l) :
    Calls Try.prog 42 #[.slice A l.length c, .func (.func 40) #[] #[]] w fun e w' => e = .returned (.bool (l.any badItem)) ∧ Below w.heap.size w w' := by
  have HR := Aside0.mk hr
  clear hr
  go_enter Try.func42, Try.ntmps42
  go_wp2_with (go_at_call 51; refine (iindex_calls _ _ _ _ HR.out).mono ?_; rintro e w' ⟨rfl, hb⟩; have HB := Aside0.mk hb; clear hb)
  go_ret
  exact ⟨by rw [← idxOf_any badItem l 0]; rfl, HB.out⟩

set_option maxHeartbeats 8000000 in
theorem row_any (x0 x1 x2 x3 : Int) (A : Option Addr) (c : Nat) (l : List S43) (w : World) (hr : Kd.C k43 w A l.length l) :
    Calls Try.prog 28 #[.agg #[.int .i64 x0, .int .i64 x1, .int .i64 x2, .int .i64 x3, .slice A l.length c]] w fun e w' => e = .returned (.bool (rowB ⟨x0, x1, x2, x3, l⟩)) ∧ Below w.heap.size w w' := by
  have hu := Try.underlying41
  have hm : l.length ≤ 9223372036854775807 := hr.2.1
  have HR := Aside0.mk (Kd.C_alloc hr (.cells #[.int .i64 x0, .int .i64 x1, .int .i64 x2, .int .i64 x3, .slice A l.length c] 41))
  have hB : Aside0 (Below w.heap.size w (w.alloc (.cells #[.int .i64 x0, .int .i64 x1, .int .i64 x2, .int .i64 x3, .slice A l.length c] 41))) := ⟨(Below.refl _ _).alloc (Nat.le_refl _) _⟩
  clear hr
  by_cases h0 : -8 ≤ x0
  case neg =>
    go_enter Try.func28, Try.ntmps28
    go_wp2
    go_ret
    exact ⟨by rw [rowB, decide_eq_false (show ¬ -8 ≤ x0 by omega)]; rfl, hB.out⟩
  by_cases h1 : x0 ≤ 8
  case neg =>
    go_enter Try.func28, Try.ntmps28
    go_wp2
    go_ret
    exact ⟨by rw [rowB, decide_eq_true h0, decide_eq_false (show ¬ x0 ≤ 8 by omega)]; rfl, hB.out⟩
  by_cases h2 : 1 ≤ x1
  case neg =>
    go_enter Try.func28, Try.ntmps28
    go_wp2
    go_ret
    exact ⟨by rw [rowB, decide_eq_true h0, decide_eq_true h1, decide_eq_false (show ¬ 1 ≤ x1 by omega)]; rfl, hB.out⟩
  by_cases h3 : x1 ≤ 5
  case neg =>
    go_enter Try.func28, Try.ntmps28
    go_wp2
    go_ret
    exact ⟨by rw [rowB, decide_eq_true h0, decide_eq_true h1, decide_eq_true h2, decide_eq_false (show ¬ x1 ≤ 5 by omega)]; rfl, hB.out⟩
  cases h4 : wordI x2 with
  | false =>
    go_enter Try.func28, Try.ntmps28
    go_wp2_with (go_at_call 41; refine (word_calls _ _).mono ?_; rintro e w' ⟨rfl, rfl⟩)
    go_ret
    exact ⟨by rw [rowB, decide_eq_true h0, decide_eq_true h1, decide_eq_true h2, decide_eq_true h3, h4]; rfl, hB.out⟩
  | true =>
    cases h5 : wordI x3 with
    | false =>
      go_enter Try.func28, Try.ntmps28
      go_wp2_with (go_at_call 41; refine (word_calls _ _).mono ?_; rintro e w' ⟨rfl, rfl⟩)
      go_ret
      exact ⟨by rw [rowB, decide_eq_true h0, decide_eq_true h1, decide_eq_true h2, decide_eq_true h3, h4, h5]; rfl, hB.out⟩
    | true =>
      by_cases h6 : l.length ≤ 600
      · go_enter Try.func28, Try.ntmps28
        go_wp2_with (first | (go_at_call 41; refine (word_calls _ _).mono ?_; rintro e w' ⟨rfl, rfl⟩) | (go_at_call 42; refine (icontains_calls _ _ _ _ HR.out).mono ?_; rintro e w' ⟨rfl, hb⟩; have HB2 := Aside0.mk hb; clear hb))
        go_ret
        exact ⟨by rw [rowB, decide_eq_true h0, decide_eq_true h1, decide_eq_true h2, decide_eq_true h3, h4, h5, decide_eq_true h6]; rfl, below_then hB.out hB.out.size HB2.out⟩
      · go_enter Try.func28, Try.ntmps28
        go_wp2_with (go_at_call 41; refine (word_calls _ _).mono ?_; rintro e w' ⟨rfl, rfl⟩)
        go_ret
        exact ⟨by rw [rowB, decide_eq_true h0, decide_eq_true h1, decide_eq_true h2, decide_eq_true h3, h4, h5, decide_eq_false (show ¬ l.length ≤ 600 by omega)]; rfl, hB.out⟩

theorem notrow_calls (x0 x1 x2 x3 : Int) (A : Option Addr) (c : Nat) (l : List S43) (w : World) (hr : Kd.C k43 w A l.length l) :
    Calls Try.prog 27 #[.agg #[.int .i64 x0, .int .i64 x1, .int .i64 x2, .int .i64 x3, .slice A l.length c]] w fun e w' => e = .returned (.bool (badRow ⟨x0, x1, x2, x3, l⟩)) ∧ Below w.heap.size w w' := by
  have hu := Try.underlying41
  have HR := Aside0.mk (Kd.C_alloc hr (.cells #[.int .i64 x0, .int .i64 x1, .int .i64 x2, .int .i64 x3, .slice A l.length c] 41))
  have hB : Aside0 (Below w.heap.size w (w.alloc (.cells #[.int .i64 x0, .int .i64 x1, .int .i64 x2, .int .i64 x3, .slice A l.length c] 41))) := ⟨(Below.refl _ _).alloc (Nat.le_refl _) _⟩
  clear hr
  go_enter Try.func27, Try.ntmps27
  go_wp2_with (go_at_call 28; refine (row_any _ _ _ _ _ _ _ _ HR.out).mono ?_; rintro e w' ⟨rfl, hb⟩; have HB2 := Aside0.mk hb; clear hb)
  go_ret
  exact ⟨rfl, below_then hB.out hB.out.size HB2.out⟩

set_option maxHeartbeats 4000000 in
theorem rindex_calls (A : Option Addr) (c : Nat) (l : List S41) (w : World) (hr : Kd.C k41 w A l.length l) :
    Calls Try.prog 39 #[.slice A l.length c, .func (.func 27) #[] #[]] w fun e w' => e = .returned (.int .i64 (idxOf badRow l 0)) ∧ Below w.heap.size w w' := by
  have HR := Aside0.mk hr
  have hm : l.length ≤ 9223372036854775807 := hr.2.1
  have HB := Aside0.mk (Below.refl w.heap.size w)
  clear hr
  go_enter Try.func39, Try.ntmps39
  go_wp2
  go_loopw [8] (fun i wr => ∃ k : Nat, k ≤ l.length ∧ i = .int .i64 k ∧ Aside0 (idxOf badRow l 0 = idxOf badRow (l.drop k) k) ∧ Aside0 (Below w.heap.size w wr)) (fun i _ => l.length - (intOf i).toNat)
  case atStart => exact ⟨0, Nat.zero_le _, rfl, ⟨by simp⟩, HB⟩
  case round =>
    clear HB
    obtain ⟨k, hk, rfl, hd, HB⟩ := hrel
    by_cases hlt : k < l.length
    · obtain ⟨ad, A4, c4, rfl, hc0, hc1, hc2, hc3, hc4, hl4, hi4⟩ := at_T41 HR.out (k : Int) (by omega) (by omega)
      replace hc0 := (HB.out.cell (World.block_lt_of_cell? w _ hc0)).trans hc0
      replace hc1 := (HB.out.cell (World.block_lt_of_cell? w _ hc1)).trans hc1
      replace hc2 := (HB.out.cell (World.block_lt_of_cell? w _ hc2)).trans hc2
      replace hc3 := (HB.out.cell (World.block_lt_of_cell? w _ hc3)).trans hc3
      replace hc4 := (HB.out.cell (World.block_lt_of_cell? w _ hc4)).trans hc4
      rw [Int.toNat_natCast] at hc0 hc1 hc2 hc3 hc4
      have HI := Aside0.mk (hd.out.trans (idxOf_drop badRow l k hlt))
      have HE := Aside0.mk (rd_T41_eq l k hlt)
      have HI4 := Aside0.mk hi4
      clear hd hi4 hl4
      by_cases hb : badRow (rd_T41 l k) = true
      · have HBI := Aside0.mk hb
        have hb' : badRow ⟨(rd_T41 l k).f0, (rd_T41 l k).f1, (rd_T41 l k).f2, (rd_T41 l k).f3, (rd_T41 l k).f4⟩ = true := hb
        clear hb
        go_wp2_with (go_at_call 27; refine (notrow_calls _ _ _ _ _ _ _ _ (Kd.C_below HI4.out HB.out)).mono ?_; rintro e w' ⟨rfl, hb⟩; have HB2 := Aside0.mk hb; clear hb)
        go_ret
        exact ⟨by rw [HI.out, if_pos (by rw [← HE.out]; exact HBI.out)]; rfl, below_then HB.out HB.out.size HB2.out⟩
      · have HBI := Aside0.mk hb
        have hb' : badRow ⟨(rd_T41 l k).f0, (rd_T41 l k).f1, (rd_T41 l k).f2, (rd_T41 l k).f3, (rd_T41 l k).f4⟩ = false := Bool.eq_false_iff.2 hb
        clear hb
        go_wp2_with (go_at_call 27; refine (notrow_calls _ _ _ _ _ _ _ _ (Kd.C_below HI4.out HB.out)).mono ?_; rintro e w' ⟨rfl, hb⟩; have HB2 := Aside0.mk hb; clear hb)
        go_roundw
        case rel => exact ⟨k + 1, by omega, by go_num, ⟨by rw [HI.out, if_neg (by rw [← HE.out]; exact HBI.out)]⟩, ⟨below_then HB.out HB.out.size HB2.out⟩⟩
        case measure => simp [intOf]; omega
    · go_wp2
      go_ret
      exact ⟨by rw [hd.out, List.drop_eq_nil_of_le (by omega)]; rfl, HB.out⟩

theorem rcontains_calls (A : Option Addr) (c : Nat) (l : List S41) (w : World) (hr : Kd.C k41 w A l.length l) :
    Calls Try.prog 26 #[.slice A l.length c, .func (.func 27) #[] #[]] w fun e w' => e = .returned (.bool (l.any badRow)) ∧ Below w.heap.size w w' := by
  have HR := Aside0.mk hr
  clear hr
  go_enter Try.func26, Try.ntmps26
  go_wp2_with (go_at_call 39; refine (rindex_calls _ _ _ _ HR.out).mono ?_; rintro e w' ⟨rfl, hb⟩; have HB := Aside0.mk hb; clear hb)
  go_ret
  exact ⟨by rw [← idxOf_any badRow l 0]; rfl, HB.out⟩

theorem check_any (A : Option Addr) (c : Nat) (l : List S41) (w : World) (hr : Kd.C k41 w A l.length l) :
    Calls Try.prog 13 #[.slice A l.length c] w fun e w' => e = .returned (.bool (checkB l)) ∧ Below w.heap.size w w' := by
  have HR := Aside0.mk hr
  have hm : l.length ≤ 9223372036854775807 := hr.2.1
  clear hr
  by_cases h : l.length ≤ 200
  · go_enter Try.func13, Try.ntmps13
    go_wp2_with (go_at_call 26; refine (rcontains_calls _ _ _ _ HR.out).mono ?_; rintro e w' ⟨rfl, hb⟩; have HB := Aside0.mk hb; clear hb)
    go_ret
    exact ⟨by rw [checkB, decide_eq_true h]; rfl, HB.out⟩
  · go_enter Try.func13, Try.ntmps13
    go_wp2
    go_ret
    exact ⟨by rw [checkB, decide_eq_false (show ¬ l.length ≤ 200 by omega)]; rfl, Below.refl _ _⟩

theorem ship_Check.calls (A0 : Option Addr) (c0 : Nat) (l0 : List S41) (r : Bool) (w : World) (hr0 : Kd.C k41 w A0 l0.length l0) (hc0 : l0.length ≤ c0) (h : ship_Check.f l0 = some r) :
    Calls Try.prog 13 #[.slice A0 l0.length c0] w fun e w' => e = .returned (.bool r) ∧ Below w.heap.size w w' := by
  obtain rfl := Option.some.inj h
  exact check_any _ _ _ _ hr0

end Go.Proofs.Ythlhfnbaihdjkaa.Q
