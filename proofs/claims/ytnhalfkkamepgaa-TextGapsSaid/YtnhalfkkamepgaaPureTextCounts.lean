import Derived.Test.YtnhalfkkamepgaaQx10
import Derived.Test.YtnhalfkkamepgaaQPa
namespace Go.Proofs.Ytnhalfkkamepgaa.Q
open Go.RowKit Go.Proofs.YtnhalfkkamepgaaW.PrintWords Go.Proofs.YtnhalfkkamepgaaW.PrintLast
set_option linter.unusedVariables false
set_option linter.unusedSimpArgs false

def fewW (w : S36) : Bool := decide (w.f0.length ≤ 100) && decide (w.f1.length ≤ 100)
def fewB (l : List S36) : Bool := decide (l.length ≤ 110) && l.all fewW

theorem few_l (l : List S36) (hl : l.length ≤ 110) : ∀ (n i : Nat), l.length - i = n → i ≤ l.length → compositorref13_Few.l0 (n + 1) l (i : Int) = some ((l.drop i).all fewW)
  | 0, i, hn, hi => by
    have : i = l.length := by omega
    subst this
    simp [compositorref13_Few.l0]
  | n + 1, i, hn, hi => by
    have hlt : i < l.length := by omega
    have ih := few_l l hl n (i + 1) (by omega) hlt
    rw [compositorref13_Few.l0, if_pos (by omega), if_pos (by omega), drop_rd36 l i hlt, List.all_cons]
    rw [w64 ((i : Int) + 1) (by omega) (by omega)]
    have e : ((i : Int) + 1) = ((i + 1 : Nat) : Int) := by omega
    rw [e, ih]
    unfold fewW
    by_cases h0 : (((rd_T36 l i).f0).length : Int) > 100
    · rw [if_pos h0]
      have : ¬ ((rd_T36 l i).f0).length ≤ 100 := by omega
      simp [this]
    · rw [if_neg h0]
      have t0 : ((rd_T36 l i).f0).length ≤ 100 := by omega
      by_cases h1 : (((rd_T36 l i).f1).length : Int) > 100
      · rw [if_pos h1]
        have : ¬ ((rd_T36 l i).f1).length ≤ 100 := by omega
        simp [this]
      · rw [if_neg h1]
        have t1 : ((rd_T36 l i).f1).length ≤ 100 := by omega
        simp [t0, t1]

theorem few_total (l : List S36) (k : Nat) : compositorref13_Few.f (k + 111) l = some (fewB l) := by
  unfold compositorref13_Few.f fewB
  by_cases h : (l.length : Int) > 110
  · rw [if_pos h]
    have : ¬ l.length ≤ 110 := by omega
    simp [this]
  · have hl : l.length ≤ 110 := by omega
    rw [if_neg h]
    have := few_l l hl l.length 0 (by omega) (by omega)
    have h2 := at_rounds (g := fun k => compositorref13_Few.l0 k l 0) (fun k => compositorref13_Few.mono_l k l 0) (k := l.length + 1) (k' := k + 111) (by omega) (by simpa using this)
    simpa [hl] using h2

theorem wide_le (l : List S36) (h : l.all fewW = true) : wide l ≤ 300 * l.length := by
  induction l with
  | nil => simp [wide]
  | cons x xs ih =>
    simp only [List.all_cons, Bool.and_eq_true] at h
    have := ih h.2
    have h1 := h.1
    simp only [fewW, Bool.and_eq_true, decide_eq_true_eq] at h1
    simp only [wide, List.map_cons, List.sum_cons, List.length_cons] at this ⊢
    omega

theorem counts_l (l : List S36) (hl : l.length ≤ 110) (hf : l.all fewW = true) (b : List Int) (hb : ((b.length : Nat) : Int) + 1 = (l.length : Int) + (wide l : Int)) (hok : checkB l = true) :
    ∀ (n i : Nat), l.length - i = n → i ≤ l.length → compositorlaw13_TextCounts.l0 (n + 1) l true b ((l.length : Int) - 1 + (wide (l.take i) : Int)) (i : Int) = some true
  | 0, i, hn, hi => by
    have : i = l.length := by omega
    subst this
    have e : (b.length : Int) = (l.length : Int) - 1 + (wide (l.take l.length) : Int) := by rw [List.take_length]; omega
    rw [compositorlaw13_TextCounts.l0, if_neg (by omega), if_pos rfl, if_pos e]
    simp [text_Check.f, hok]
  | n + 1, i, hn, hi => by
    have hlt : i < l.length := by omega
    have ih := counts_l l hl hf b hb hok n (i + 1) (by omega) hlt
    have hw : fewW (rd_T36 l i) = true := by
      rw [rd_T36_eq l i hlt]
      exact (List.all_eq_true.1 hf) _ (List.getElem_mem hlt)
    simp only [fewW, Bool.and_eq_true, decide_eq_true_eq] at hw
    have ht : wide (l.take i) ≤ 300 * l.length := by
      have h1 := wide_le (l.take i) (by
        rw [List.all_eq_true] at hf ⊢
        exact fun x hx => hf x (List.mem_of_mem_take hx))
      have : (l.take i).length ≤ l.length := by simp; omega
      omega
    have hs : wide (l.take (i + 1)) = wide (l.take i) + ((rd_T36 l i).f0.length + 2 * (rd_T36 l i).f1.length) := by
      rw [take_succ_rd l i hlt]; simp [wide]
    rw [compositorlaw13_TextCounts.l0, if_pos (by omega), if_pos (by omega)]
    rw [w64 (2 * (((rd_T36 l i).f1).length : Int)) (by omega) (by omega), w64 (((l.length : Int) - 1 + (wide (l.take i) : Int)) + (((rd_T36 l i).f0).length : Int)) (by omega) (by omega)]
    rw [w64 _ (by omega) (by omega), w64 ((i : Int) + 1) (by omega) (by omega)]
    have e : ((i : Int) + 1) = ((i + 1 : Nat) : Int) := by omega
    have e2 : (l.length : Int) - 1 + (wide (l.take i) : Int) + (((rd_T36 l i).f0).length : Int) + 2 * (((rd_T36 l i).f1).length : Int) = (l.length : Int) - 1 + (wide (l.take (i + 1)) : Int) := by rw [hs]; omega
    rw [e, e2, ih]

theorem checkB_len {l : List S36} (h : checkB l = true) : l.all okB = true ∧ 1 ≤ l.length ∧ l.length ≤ 100 := by
  simp only [checkB, Bool.and_eq_true, decide_eq_true_eq] at h
  exact ⟨h.1, h.2.1, h.2.2.1⟩

theorem counts_pure (l : List S36) : ∃ k, compositorlaw13_TextCounts.f k l = some true := by
  refine ⟨120, ?_⟩
  unfold compositorlaw13_TextCounts.f
  rw [awake_up 112, few_total l 9]
  simp only [Option.bind_some]
  by_cases hf : fewB l = true
  · rw [if_pos hf]
    unfold text_Write.f
    simp only [fewB, Bool.and_eq_true, decide_eq_true_eq] at hf
    by_cases hc : checkB l = true
    · have hh := checkB_len hc
      rw [if_pos hc]
      simp only [Option.bind_some, if_true]
      have hb := writeL_len0 l hh.1 hh.2.1
      have := counts_l l hf.1 hf.2 (writeL l 0) (by omega) hc l.length 0 (by omega) (by omega)
      rw [w64 _ (by omega) (by omega)]
      exact at_rounds (g := fun k => compositorlaw13_TextCounts.l0 k l true (writeL l 0) ((l.length : Int) - 1) 0) (fun k => compositorlaw13_TextCounts.mono_l k l true (writeL l 0) ((l.length : Int) - 1) 0) (k := l.length + 1) (k' := 120) (by omega) (by simpa [wide] using this)
    · rw [if_neg hc]
      simp [text_Check.f, hc]
  · rw [if_neg hf]

end Go.Proofs.Ytnhalfkkamepgaa.Q
