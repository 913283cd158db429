/- The contract of text.word, by hand: it tells whether a word may be. -/
import Derived.Test.YtnhalfkkamepgaaQx0
namespace Go.Proofs.Ytnhalfkkamepgaa.Q
open Go.RowKit Go.Proofs.YtnhalfkkamepgaaW.PrintWords Go.Proofs.YtnhalfkkamepgaaW.PrintLast Go.Proofs.YtnhalfkkamepgaaW.PrintMore
set_option linter.unusedVariables false
set_option linter.unusedSimpArgs false

/-- A code that may not be. -/
def badB (c : Int) : Bool := if c < 33 then true else decide (126 < c)

theorem bad_calls (c : Int) (w : World) : Calls Try.prog 30 #[.int .i64 c] w fun e w' => e = .returned (.bool (badB c)) ∧ w = w' := by
  by_cases h : c < 33
  · go_enter Try.func30, Try.ntmps30
    go_wp2
    go_ret
    exact ⟨by simp [badB, h], rfl⟩
  · go_enter Try.func30, Try.ntmps30
    go_wp2
    go_ret
    exact ⟨by rw [show badB c = decide (126 < c) from by unfold badB; rw [if_neg (by omega)]]; rfl, rfl⟩

/-- The first index of what is bad, or -1. -/
def idxOf (p : Int → Bool) : List Int → Nat → Int
  | [], _ => -1
  | x :: xs, k => if p x = true then (k : Int) else idxOf p xs (k + 1)

theorem idxOf_any (p : Int → Bool) (l : List Int) : ∀ k, (decide (0 ≤ idxOf p l k)) = l.any p := by
  induction l with
  | nil => intro k; rfl
  | cons x xs ih =>
    intro k
    unfold idxOf
    by_cases h : p x = true
    · rw [if_pos h]; simp [h]
    · rw [if_neg h, ih]; simp [h]

theorem idxOf_cons (p : Int → Bool) (x : Int) (xs : List Int) (k : Nat) : idxOf p (x :: xs) k = if p x = true then (k : Int) else idxOf p xs (k + 1) := rfl

theorem idxOf_drop (p : Int → Bool) (l : List Int) (k : Nat) (h : k < l.length) : idxOf p (l.drop k) k = if p (rd l k) = true then (k : Int) else idxOf p (l.drop (k + 1)) (k + 1) := by
  rw [List.drop_eq_getElem_cons h, idxOf_cons]
  have : rd l k = l[k] := by simp [rd, List.getD_eq_getElem?_getD, List.getElem?_eq_getElem h]
  rw [this]

set_option maxHeartbeats 4000000 in
theorem index_calls (A : Option Addr) (c : Nat) (l : List Int) (w : World) (hr : Kd.C (Kd.int .i64) w A l.length l) :
    Calls Try.prog 32 #[.slice A l.length c, .func (.func 30) #[] #[]] w fun e w' => e = .returned (.int .i64 (idxOf badB l 0)) ∧ w = w' := by
  have HR := Aside0.mk hr
  have hm : l.length ≤ 9223372036854775807 := hr.2.1
  clear hr
  go_enter Try.func32, Try.ntmps32
  go_wp2
  go_loop [8] (fun i => ∃ k : Nat, k ≤ l.length ∧ i = .int .i64 k ∧ Aside0 (idxOf badB l 0 = idxOf badB (l.drop k) k)) (fun i => l.length - (intOf i).toNat)
  case atStart => exact ⟨0, Nat.zero_le _, rfl, ⟨by simp⟩⟩
  case round =>
    obtain ⟨k, hk, rfl, hd⟩ := hrel
    by_cases hlt : k < l.length
    · obtain ⟨ad, rfl, hcell⟩ := Kd.at_int HR.out (k : Int) (by omega) (by omega)
      rw [Int.toNat_natCast] at hcell
      have HI := Aside0.mk (hd.out.trans (idxOf_drop badB l k hlt))
      clear hd
      by_cases hb : badB (rd l k) = true
      · have HB := Aside0.mk hb
        go_wp2_with (go_at_call 30; refine (bad_calls _ _).mono ?_; rintro e w' ⟨rfl, rfl⟩)
        go_ret
        exact ⟨by rw [HI.out, if_pos HB.out]; rfl, rfl⟩
      · have hb' : badB (rd l k) = false := by simpa using hb
        have HB := Aside0.mk hb
        clear hb
        go_wp2_with (go_at_call 30; refine (bad_calls _ _).mono ?_; rintro e w' ⟨rfl, rfl⟩)
        go_round
        case rel => exact ⟨k + 1, by omega, by go_num, ⟨by rw [HI.out, if_neg HB.out]⟩⟩
        case measure => simp [intOf]; omega
    · go_wp2
      go_ret
      exact ⟨by rw [hd.out, List.drop_eq_nil_of_le (by omega)]; rfl, rfl⟩

theorem contains_calls (A : Option Addr) (c : Nat) (l : List Int) (w : World) (hr : Kd.C (Kd.int .i64) w A l.length l) :
    Calls Try.prog 31 #[.slice A l.length c, .func (.func 30) #[] #[]] w fun e w' => e = .returned (.bool (l.any badB)) ∧ w = w' := by
  have HR := Aside0.mk hr
  clear hr
  go_enter Try.func31, Try.ntmps31
  go_wp2_with (go_at_call 32; refine (index_calls _ _ _ _ HR.out).mono ?_; rintro e w' ⟨rfl, rfl⟩)
  go_ret
  exact ⟨by rw [← idxOf_any badB l 0]; rfl, rfl⟩

/-- Soft hyphens rise, from 1 to below the number of codes. -/
def softB (n : Int) : Int → List Int → Bool
  | _, [] => true
  | last, x :: xs => if x ≤ last then false else if x ≥ n then false else softB n x xs
theorem softB_cons (n last x : Int) (xs : List Int) : softB n last (x :: xs) = if x ≤ last then false else if x ≥ n then false else softB n x xs := rfl
theorem softB_drop (n last : Int) (l : List Int) (k : Nat) (h : k < l.length) : softB n last (l.drop k) = if rd l k ≤ last then false else if rd l k ≥ n then false else softB n (rd l k) (l.drop (k + 1)) := by
  rw [List.drop_eq_getElem_cons h, softB_cons]
  have : rd l k = l[k] := by simp [rd, List.getD_eq_getElem?_getD, List.getElem?_eq_getElem h]
  rw [this]

def wordB (codes soft : List Int) : Bool := softB codes.length 0 soft && (decide (1 ≤ codes.length) && (decide (codes.length ≤ 60) && !codes.any badB))
def text_word.f (l0_0 : List Int) (l0_1 : List Int) : Option Bool := some (wordB l0_0 l0_1)

set_option maxHeartbeats 4000000 in
theorem word_any (A0 : Option Addr) (c0 : Nat) (l0 : List Int) (A1 : Option Addr) (c1 : Nat) (l1 : List Int) (w : World) (hr0 : Kd.C (Kd.int .i64) w A0 l0.length l0) (hr1 : Kd.C (Kd.int .i64) w A1 l1.length l1) :
    Calls Try.prog 25 #[.agg #[.slice A0 l0.length c0, .slice A1 l1.length c1]] w fun e w' => e = .returned (.bool (wordB l0 l1)) ∧ Below w.heap.size w w' := by
  have hu36 := Try.underlying36
  have hm0 : l0.length ≤ 9223372036854775807 := hr0.2.1
  have hm1 : l1.length ≤ 9223372036854775807 := hr1.2.1
  have HR0 := Aside0.mk (Kd.C_alloc hr0 (.cells #[.slice A0 l0.length c0, .slice A1 l1.length c1] 36))
  have HR1 := Aside0.mk (Kd.C_alloc hr1 (.cells #[.slice A0 l0.length c0, .slice A1 l1.length c1] 36))
  have hB : Aside0 (Below w.heap.size w (w.alloc (.cells #[.slice A0 l0.length c0, .slice A1 l1.length c1] 36))) := ⟨(Below.refl _ _).alloc (Nat.le_refl _) _⟩
  clear hr0 hr1
  go_enter Try.func25, Try.ntmps25
  go_wp2
  go_loop [3, 10] (fun last i => ∃ (k : Nat) (x : Int), k ≤ l1.length ∧ i = .int .i64 k ∧ last = .int .i64 x ∧ Aside0 (softB l0.length 0 l1 = softB l0.length x (l1.drop k))) (fun _ i => l1.length - (intOf i).toNat)
  case atStart => exact ⟨0, 0, Nat.zero_le _, rfl, rfl, ⟨by simp⟩⟩
  case round =>
    obtain ⟨k, x, hk, rfl, rfl, hd⟩ := hrel
    by_cases hlt : k < l1.length
    · obtain ⟨ad, rfl, hcell⟩ := Kd.at_int HR1.out (k : Int) (by omega) (by omega)
      rw [Int.toNat_natCast] at hcell
      have HI := Aside0.mk (hd.out.trans (softB_drop l0.length x l1 k hlt))
      clear hd
      by_cases h1 : rd l1 k ≤ x
      · go_wp2
        go_ret
        exact ⟨by rw [wordB, HI.out, if_pos h1]; rfl, hB.out⟩
      · by_cases h2 : rd l1 k ≥ (l0.length : Int)
        · go_wp2
          go_ret
          exact ⟨by rw [wordB, HI.out, if_neg (by omega), if_pos h2]; rfl, hB.out⟩
        · go_wp2
          go_round
          case rel => exact ⟨k + 1, _, by omega, by go_num, rfl, ⟨by rw [HI.out, if_neg (by omega), if_neg (by omega)]⟩⟩
          case measure => simp [intOf]; omega
    · have HI := Aside0.mk (hd.out.trans (show softB l0.length x (l1.drop k) = true by rw [List.drop_eq_nil_of_le (by omega)]; rfl))
      clear hd
      by_cases h1 : 1 ≤ l0.length
      · by_cases h2 : l0.length ≤ 60
        · go_wp2_with (go_at_call 31; refine (contains_calls _ _ _ _ HR0.out).mono ?_; rintro e w' ⟨rfl, rfl⟩)
          go_ret
          exact ⟨by rw [wordB, HI.out, decide_eq_true h1, decide_eq_true h2]; rfl, hB.out⟩
        · go_wp2
          go_ret
          exact ⟨by rw [wordB, HI.out, decide_eq_true h1, decide_eq_false h2]; rfl, hB.out⟩
      · go_wp2
        go_ret
        exact ⟨by rw [wordB, HI.out, decide_eq_false h1]; rfl, hB.out⟩

theorem text_word.calls (A0_0 : Option Addr) (c0_0 : Nat) (l0_0 : List Int) (A0_1 : Option Addr) (c0_1 : Nat) (l0_1 : List Int) (r : Bool) (w : World) (hr0_0 : Kd.C (Kd.int .i64) w A0_0 l0_0.length l0_0) (hc0_0 : l0_0.length ≤ c0_0) (hr0_1 : Kd.C (Kd.int .i64) w A0_1 l0_1.length l0_1) (hc0_1 : l0_1.length ≤ c0_1) (h : text_word.f l0_0 l0_1 = some r) :
    Calls Try.prog 25 #[.agg #[.slice A0_0 l0_0.length c0_0, .slice A0_1 l0_1.length c0_1]] w fun e w' => e = .returned (.bool r) ∧ Below w.heap.size w w' := by
  obtain rfl := Option.some.inj h
  exact word_any _ _ _ _ _ _ _ hr0_0 hr0_1

end Go.Proofs.Ytnhalfkkamepgaa.Q
