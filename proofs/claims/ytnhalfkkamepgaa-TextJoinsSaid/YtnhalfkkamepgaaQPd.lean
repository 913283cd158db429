/- The document's check of words is the program's. -/
import Derived.Test.YtnhalfkkamepgaaQPc
import Derived.Test.YtnhalfkkamepgaaQx2
namespace Go.Proofs.Ytnhalfkkamepgaa.Q
open Go.RowKit Go.Proofs.YtnhalfkkamepgaaW.PrintWords Go.Proofs.YtnhalfkkamepgaaW.PrintLast
set_option linter.unusedVariables false
set_option linter.unusedSimpArgs false

theorem word_l1 (c s : List Int) (hl : s.length ≤ 1000000) : ∀ (n i : Nat) (last : Int), s.length - i = n → i ≤ s.length → (i = 0 → last = 0) → (0 < i → last = rd s ((i - 1 : Nat) : Int) ∧ 1 ≤ last) → compositorref13_word.l1 (n + 1) (i : Int) c s = some (softB (c.length : Int) last (s.drop i))
  | 0, i, last, hn, hi, h0, h1 => by
    have : i = s.length := by omega
    subst this
    rw [compositorref13_word.l1, if_neg (by omega), List.drop_length]
    rfl
  | n + 1, i, last, hn, hi, h0, h1 => by
    have hlt : i < s.length := by omega
    have e : ((i : Int) + 1) = ((i + 1 : Nat) : Int) := by omega
    rw [compositorref13_word.l1, if_pos (by omega), if_pos (by omega), softB_drop _ _ s i hlt]
    by_cases c1 : rd s i < 1
    · rw [if_pos c1]
      have : rd s i ≤ last := by
        rcases Nat.eq_zero_or_pos i with hz | hz
        · have := h0 hz; omega
        · have := h1 hz; omega
      rw [if_pos this]
    · rw [if_neg c1]
      have ih := word_l1 c s hl n (i + 1) (rd s i) (by omega) hlt (by omega) (fun _ => ⟨by rw [Nat.add_sub_cancel], by omega⟩)
      by_cases c2 : rd s i ≥ (c.length : Int)
      · rw [if_pos c2]
        by_cases c3 : rd s i ≤ last
        · rw [if_pos c3]
        · rw [if_neg c3, if_pos c2]
      · rw [if_neg c2]
        rcases Nat.eq_zero_or_pos i with hz | hz
        · have hl0 := h0 hz
          rw [if_neg (by omega), if_neg (by omega), if_neg c2, w64 ((i : Int) + 1) (by omega) (by omega), e, ih]
        · have hl1 := h1 hz
          have e1 : ((i : Int) - 1) = ((i - 1 : Nat) : Int) := by omega
          rw [if_pos (by omega), w64 ((i : Int) - 1) (by omega) (by omega), if_pos (by omega), if_pos (by omega), e1, ← hl1.1]
          by_cases c3 : last ≥ rd s i
          · rw [if_pos c3, if_pos (by omega)]
          · rw [if_neg c3, if_neg (by omega), if_neg c2, w64 ((i : Int) + 1) (by omega) (by omega), e, ih]

theorem word_l0 (c s : List Int) (hl : c.length ≤ 1000000) (R : Nat) : ∀ (n i : Nat), c.length - i = n → i ≤ c.length → compositorref13_word.l0 (n + R + 1) (i : Int) c s = if (c.drop i).any badB = true then some false else compositorref13_word.l1 R 0 c s
  | 0, i, hn, hi => by
    have : i = c.length := by omega
    subst this
    rw [compositorref13_word.l0, if_neg (by omega), List.drop_length, Nat.zero_add]
    rfl
  | n + 1, i, hn, hi => by
    have hlt : i < c.length := by omega
    have e : ((i : Int) + 1) = ((i + 1 : Nat) : Int) := by omega
    have ih := word_l0 c s hl R n (i + 1) (by omega) hlt
    rw [show n + 1 + R + 1 = (n + R + 1) + 1 by omega, compositorref13_word.l0, if_pos (by omega), if_pos (by omega), drop_rd c i hlt, List.any_cons]
    by_cases c1 : rd c i < 33
    · have : badB (rd c i) = true := by simp [badB, c1]
      rw [if_pos c1, this, Bool.true_or, if_pos rfl]
    · rw [if_neg c1]
      by_cases c2 : rd c i > 126
      · have : badB (rd c i) = true := by unfold badB; rw [if_neg c1]; simp; omega
        rw [if_pos c2, this, Bool.true_or, if_pos rfl]
      · have : badB (rd c i) = false := by unfold badB; rw [if_neg c1]; simp; omega
        rw [if_neg c2, this, Bool.false_or, w64 ((i : Int) + 1) (by omega) (by omega), e, ih]

theorem word_total (c s : List Int) (hc : c.length ≤ 1000000) (hs : s.length ≤ 1000000) (k : Nat) (hk : c.length + s.length + 3 ≤ k) : compositorref13_word.f k c s = some (wordB c s) := by
  have key : compositorref13_word.f (c.length + s.length + 3) c s = some (wordB c s) := by
    unfold compositorref13_word.f wordB
    by_cases h1 : (c.length : Int) < 1
    · rw [if_pos h1, show c.length + s.length + 3 = (c.length + s.length + 2) + 1 by omega, compositorref13_word.j0, if_pos rfl]
      have : ¬ 1 ≤ c.length := by omega
      simp [this]
    · rw [if_neg h1, show c.length + s.length + 3 = (c.length + s.length + 2) + 1 by omega, compositorref13_word.j0]
      by_cases h2 : (c.length : Int) > 60
      · rw [if_pos (by simpa using h2)]
        have : ¬ c.length ≤ 60 := by omega
        simp [this]
      · rw [if_neg (by simpa using h2)]
        have hw := word_l0 c s hc (s.length + 1) c.length 0 (by omega) (by omega)
        rw [show c.length + (s.length + 1) + 1 = c.length + s.length + 2 by omega, show ((0 : Nat) : Int) = 0 from rfl, List.drop_zero] at hw
        rw [hw]
        have hv := word_l1 c s hs s.length 0 0 (by omega) (by omega) (fun _ => rfl) (fun h => by omega)
        rw [show ((0 : Nat) : Int) = 0 from rfl, List.drop_zero] at hv
        have t1 : 1 ≤ c.length := by omega
        have t2 : c.length ≤ 60 := by omega
        by_cases h3 : c.any badB = true
        · rw [if_pos h3]; simp [h3]
        · rw [if_neg h3, hv]; simp [t1, t2, h3]
  exact at_rounds (g := fun k => compositorref13_word.f k c s) (compositorref13_word.mono c s) hk key

theorem sumL_drop (l : List S36) (i : Nat) (h : i < l.length) : sumL (l.take (i + 1)) = sumL (l.take i) + (rd_T36 l i).f0.length := by
  rw [take_succ_rd l i h, sumL_snoc]

theorem check_l0 (l : List S36) (M : Nat) (hM : M ≤ 1000000) (hl : l.length ≤ 1000000) (ha : ∀ w ∈ l, w.f0.length ≤ M ∧ w.f1.length ≤ M) : ∀ (n i : Nat), l.length - i = n → i ≤ l.length → sumL (l.take i) ≤ M * i → compositorref13_Check.l0 (n + (2 * M + 3) + 1) l (sumL (l.take i) : Int) (i : Int) = if (l.drop i).all okB = true then some (decide ((sumL l : Int) ≤ 400)) else some false
  | 0, i, hn, hi, hs => by
    have : i = l.length := by omega
    subst this
    rw [compositorref13_Check.l0, if_neg (by omega), List.drop_length, List.take_length]
    rfl
  | n + 1, i, hn, hi, hs => by
    have hlt : i < l.length := by omega
    have e : ((i : Int) + 1) = ((i + 1 : Nat) : Int) := by omega
    have hw := ha (rd_T36 l i) (by rw [rd_T36_eq l i hlt]; exact List.getElem_mem hlt)
    have hsum := sumL_drop l i hlt
    have hsb : sumL (l.take (i + 1)) ≤ M * (i + 1) := by rw [hsum, Nat.mul_succ]; omega
    have ih := check_l0 l M hM hl ha n (i + 1) (by omega) hlt hsb
    have hbig : M * i ≤ 1000000 * 1000000 := Nat.mul_le_mul hM (by omega)
    rw [show n + 1 + (2 * M + 3) + 1 = (n + (2 * M + 3) + 1) + 1 by omega, compositorref13_Check.l0, if_pos (by omega), if_pos (by omega), word_total _ _ (by omega) (by omega) _ (by omega), drop_rd36 l i hlt, List.all_cons]
    simp only [Option.bind_some]
    have eo : okB (rd_T36 l i) = wordB (rd_T36 l i).f0 (rd_T36 l i).f1 := rfl
    rw [eo]
    by_cases c1 : wordB (rd_T36 l i).f0 (rd_T36 l i).f1 = true
    · rw [if_pos c1, c1, Bool.true_and, w64 _ (by omega) (by omega), w64 ((i : Int) + 1) (by omega) (by omega), e]
      have e2 : (sumL (l.take i) : Int) + ((rd_T36 l i).f0.length : Int) = (sumL (l.take (i + 1)) : Int) := by rw [hsum]; omega
      rw [e2, ih]
    · have : wordB (rd_T36 l i).f0 (rd_T36 l i).f1 = false := by simpa using c1
      rw [if_neg c1, this, Bool.false_and, if_neg (by decide)]

theorem check_total (l : List S36) (M : Nat) (hM : M ≤ 1000000) (hl : l.length ≤ 1000000) (ha : ∀ w ∈ l, w.f0.length ≤ M ∧ w.f1.length ≤ M) (k : Nat) (hk : l.length + 2 * M + 5 ≤ k) : compositorref13_Check.f k l = some (checkB l) := by
  have key : compositorref13_Check.f (l.length + 2 * M + 5) l = some (checkB l) := by
    unfold compositorref13_Check.f checkB
    by_cases h1 : (l.length : Int) < 1
    · rw [if_pos h1, show l.length + 2 * M + 5 = (l.length + 2 * M + 4) + 1 by omega, compositorref13_Check.j0, if_pos rfl]
      have : ¬ 1 ≤ l.length := by omega
      simp [this]
    · rw [if_neg h1, show l.length + 2 * M + 5 = (l.length + 2 * M + 4) + 1 by omega, compositorref13_Check.j0]
      by_cases h2 : (l.length : Int) > 100
      · rw [if_pos (by simpa using h2)]
        have : ¬ l.length ≤ 100 := by omega
        simp [this]
      · rw [if_neg (by simpa using h2)]
        have h := check_l0 l M hM hl ha l.length 0 (by omega) (by omega) (by simp [sumL])
        rw [show l.length + (2 * M + 3) + 1 = l.length + 2 * M + 4 by omega] at h
        have h' : compositorref13_Check.l0 (l.length + 2 * M + 4) l 0 0 = if l.all okB = true then some (decide ((sumL l : Int) ≤ 400)) else some false := by simpa [sumL] using h
        rw [h']
        have t1 : 1 ≤ l.length := by omega
        have t2 : l.length ≤ 100 := by omega
        by_cases h3 : l.all okB = true
        · rw [if_pos h3]; simp [t1, t2, h3]
        · have h3' : l.all okB = false := by simpa using h3
          rw [if_neg h3, h3']; simp
  exact at_rounds (g := fun k => compositorref13_Check.f k l) (compositorref13_Check.mono l) hk key

end Go.Proofs.Ytnhalfkkamepgaa.Q
