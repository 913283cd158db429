/- What all laws of the texts need: the head of a law is true; how long a text of words is. -/
import Derived.Test.YtnhalfkkamepgaaQx1
import Derived.Test.YtnhalfkkamepgaaQWrite
namespace Go.Proofs.Ytnhalfkkamepgaa.Q
open Go.RowKit Go.Proofs.YtnhalfkkamepgaaW.PrintWords Go.Proofs.YtnhalfkkamepgaaW.PrintLast
set_option linter.unusedVariables false
set_option linter.unusedSimpArgs false

theorem awake_true : compositorlaw13_awake.f 8 = some true := by decide +kernel
theorem awake_up (k : Nat) : compositorlaw13_awake.f (k + 8) = some true := at_rounds (g := fun k => compositorlaw13_awake.f k) compositorlaw13_awake.mono (Nat.le_add_left 8 k) awake_true

theorem w64 (n : Int) (h0 : -9223372036854775808 ≤ n) (h1 : n ≤ 9223372036854775807) : wrap64 n = n := by unfold wrap64; omega

theorem softB_head {n last x : Int} {xs : List Int} (h : softB n last (x :: xs) = true) : last < x ∧ x < n ∧ softB n x xs = true := by
  rw [softB_cons] at h
  by_cases h1 : x ≤ last
  · simp [h1] at h
  · by_cases h2 : x ≥ n
    · simp [h1, h2] at h
    · simp [h1, h2] at h
      exact ⟨by omega, by omega, h⟩

theorem wbytes_len : ∀ (cs : List Int) (k : Nat) (soft : List Int) (last : Int), softB ((k + cs.length : Nat) : Int) last soft = true → (∀ x, soft.head? = some x → (k : Int) ≤ x) → (wbytes cs k soft).length = cs.length + 2 * soft.length
  | [], k, [], _, _, _ => rfl
  | [], k, x :: xs, last, h, h0 => by
    have := softB_head h
    have := h0 x rfl
    simp at *
    omega
  | c :: cs, k, [], last, h, h0 => by
    have := wbytes_len cs (k + 1) [] last rfl (by simp)
    simp only [wbytes]
    simp at this ⊢
    exact this
  | c :: cs, k, x :: xs, last, h, h0 => by
    have hh := softB_head h
    have hx := h0 x rfl
    have e : ((k + (c :: cs).length : Nat) : Int) = ((k + 1 + cs.length : Nat) : Int) := by simp; omega
    by_cases hk : x = (k : Int)
    · have ih := wbytes_len cs (k + 1) xs x (by rw [← e]; exact hh.2.2) (by
        intro y hy
        cases xs with
        | nil => simp at hy
        | cons z zs =>
          have := softB_head hh.2.2
          simp at hy
          omega)
      simp only [wbytes, List.head?_cons, hk, List.tail_cons, if_true, List.length_cons]
      rw [ih]; omega
    · have ih := wbytes_len cs (k + 1) (x :: xs) last (by rw [← e]; exact h) (by
        intro y hy
        simp at hy
        omega)
      have hne : ¬ (some x = some (k : Int)) := by simpa using hk
      simp only [wbytes, List.head?_cons, hne, if_false, List.length_cons]
      simp only [List.length_cons] at ih
      rw [ih]; omega

/-- Codes, and two for each soft hyphen. -/
def wide (l : List S36) : Nat := (l.map fun w => w.f0.length + 2 * w.f1.length).sum

theorem word_len {w : S36} (h : okB w = true) : (wbytes w.f0 0 w.f1).length = w.f0.length + 2 * w.f1.length := by
  unfold okB wordB at h
  simp only [Bool.and_eq_true] at h
  have h1 := h.1
  refine wbytes_len w.f0 0 w.f1 0 (by simpa using h1) ?_
  intro x hx
  cases hw : w.f1 with
  | nil => rw [hw] at hx; simp at hx
  | cons y ys =>
    rw [hw] at hx h1
    have := softB_head h1
    simp at hx
    omega

theorem writeL_len : ∀ (l : List S36) (i : Nat), l.all okB = true → (writeL l (i + 1)).length = l.length + wide l
  | [], _, _ => rfl
  | x :: xs, i, h => by
    simp only [List.all_cons, Bool.and_eq_true] at h
    have ih := writeL_len xs (i + 1) h.2
    have hw := word_len h.1
    simp only [writeL, Nat.zero_lt_succ, if_true, List.length_append, ih, hw, List.length_cons, wide, List.map_cons, List.sum_cons, List.length_nil]
    omega

theorem writeL_len0 (l : List S36) (h : l.all okB = true) (h1 : 1 ≤ l.length) : (writeL l 0).length + 1 = l.length + wide l := by
  cases l with
  | nil => simp at h1
  | cons x xs =>
    simp only [List.all_cons, Bool.and_eq_true] at h
    have ih := writeL_len xs 0 h.2
    have hw := word_len h.1
    simp only [writeL, Nat.lt_irrefl, if_false, List.length_append, ih, hw, List.length_cons, wide, List.map_cons, List.sum_cons, List.length_nil]
    omega

end Go.Proofs.Ytnhalfkkamepgaa.Q
