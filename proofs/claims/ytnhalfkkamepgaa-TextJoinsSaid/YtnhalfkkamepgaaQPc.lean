/- The document's comparisons end, and tell what is alike; what is read is no longer than the text. -/
import Derived.Test.YtnhalfkkamepgaaQPb
import Derived.Test.YtnhalfkkamepgaaQx4
namespace Go.Proofs.Ytnhalfkkamepgaa.Q
open Go.RowKit Go.Proofs.YtnhalfkkamepgaaW.PrintWords Go.Proofs.YtnhalfkkamepgaaW.PrintLast
set_option linter.unusedVariables false
set_option linter.unusedSimpArgs false

theorem same04_l (a b : List Int) (h : a.length = b.length) (hl : a.length ≤ 1000000) : ∀ (n i : Nat), a.length - i = n → i ≤ a.length → ∃ r, compositorref04_Same.l0 (n + 1) a b (i : Int) = some r ∧ (r = true ↔ a.drop i = b.drop i)
  | 0, i, hn, hi => by
    have : i = a.length := by omega
    subst this
    refine ⟨true, by rw [compositorref04_Same.l0, if_neg (by omega)], ?_⟩
    rw [List.drop_length, h, List.drop_length]; simp
  | n + 1, i, hn, hi => by
    have hlt : i < a.length := by omega
    obtain ⟨r, hr, hrr⟩ := same04_l a b h hl n (i + 1) (by omega) hlt
    rw [compositorref04_Same.l0, if_pos (by omega), if_pos (by omega), if_pos (by omega), drop_rd a i hlt, drop_rd b i (by omega)]
    by_cases hc : rd a i = rd b i
    · refine ⟨r, ?_, ?_⟩
      · rw [if_pos hc, w64 ((i : Int) + 1) (by omega) (by omega)]
        have e : ((i : Int) + 1) = ((i + 1 : Nat) : Int) := by omega
        rw [e, hr]
      · rw [hrr, hc]; simp
    · exact ⟨false, by rw [if_neg hc], by simp [hc]⟩
theorem same04 (a b : List Int) (hl : a.length ≤ 1000000) (k : Nat) (hk : a.length < k) : ∃ r, compositorref04_Same.f k a b = some r ∧ (r = true ↔ a = b) := by
  unfold compositorref04_Same.f
  by_cases h : a.length = b.length
  · obtain ⟨r, hr, hrr⟩ := same04_l a b h hl a.length 0 (by omega) (by omega)
    refine ⟨r, ?_, by simpa using hrr⟩
    rw [if_pos (by omega)]
    exact at_rounds (g := fun k => compositorref04_Same.l0 k a b 0) (fun k => compositorref04_Same.mono_l k a b 0) hk (by simpa using hr)
  · exact ⟨false, by rw [if_neg (by omega)], by simp; intro e; exact h (by rw [e])⟩

theorem same13_l (M : Nat) (hM : M ≤ 1000000) (a b : List S36) (h : a.length = b.length) (hl : a.length ≤ 1000000) (ha : ∀ w ∈ a, w.f0.length ≤ M ∧ w.f1.length ≤ M) : ∀ (n i : Nat), a.length - i = n → i ≤ a.length → ∃ r, compositorref13_Same.l0 (n + M + 2) a b (i : Int) = some r ∧ (r = true ↔ a.drop i = b.drop i)
  | 0, i, hn, hi => by
    have : i = a.length := by omega
    subst this
    refine ⟨true, by rw [compositorref13_Same.l0, if_neg (by omega)], ?_⟩
    rw [List.drop_length, h, List.drop_length]; simp
  | n + 1, i, hn, hi => by
    have hlt : i < a.length := by omega
    obtain ⟨r, hr, hrr⟩ := same13_l M hM a b h hl ha n (i + 1) (by omega) hlt
    have hw := ha (rd_T36 a i) (by rw [rd_T36_eq a i hlt]; exact List.getElem_mem hlt)
    rw [show n + 1 + M + 2 = (n + M + 2) + 1 by omega, compositorref13_Same.l0, if_pos (by omega), if_pos (by omega), if_pos (by omega), drop_rd36 a i hlt, drop_rd36 b i (by omega)]
    obtain ⟨r0, h0, h0r⟩ := same04 (rd_T36 a i).f0 (rd_T36 b i).f0 (by omega) (n + M + 2) (by omega)
    obtain ⟨r1, h1, h1r⟩ := same04 (rd_T36 a i).f1 (rd_T36 b i).f1 (by omega) (n + M + 2) (by omega)
    have hS : (rd_T36 a i = rd_T36 b i) ↔ (r0 = true ∧ r1 = true) := by
      rw [h0r, h1r]
      constructor
      · intro e; rw [e]; exact ⟨rfl, rfl⟩
      · intro e
        cases ea : rd_T36 a i; cases eb : rd_T36 b i
        rw [ea, eb] at e
        simp only at e
        rw [e.1, e.2]
    rw [h0]
    simp only [Option.bind_some]
    by_cases c0 : r0 = true
    · rw [if_pos c0, h1]
      simp only [Option.bind_some]
      by_cases c1 : r1 = true
      · refine ⟨r, ?_, ?_⟩
        · rw [if_pos c1, w64 ((i : Int) + 1) (by omega) (by omega)]
          have e : ((i : Int) + 1) = ((i + 1 : Nat) : Int) := by omega
          rw [e, hr]
        · rw [hrr, List.cons.injEq, hS]; simp [c0, c1]
      · exact ⟨false, by rw [if_neg c1], by rw [List.cons.injEq, hS]; simp [c1]⟩
    · exact ⟨false, by rw [if_neg c0], by rw [List.cons.injEq, hS]; simp [c0]⟩
theorem same13 (M : Nat) (hM : M ≤ 1000000) (a b : List S36) (hl : a.length ≤ 1000000) (ha : ∀ w ∈ a, w.f0.length ≤ M ∧ w.f1.length ≤ M) (k : Nat) (hk : a.length + M + 2 ≤ k) : ∃ r, compositorref13_Same.f k a b = some r ∧ (r = true ↔ a = b) := by
  unfold compositorref13_Same.f
  by_cases h : a.length = b.length
  · obtain ⟨r, hr, hrr⟩ := same13_l M hM a b h hl ha a.length 0 (by omega) (by omega)
    refine ⟨r, ?_, by simpa using hrr⟩
    rw [if_pos (by omega)]
    exact at_rounds (g := fun k => compositorref13_Same.l0 k a b 0) (fun k => compositorref13_Same.mono_l k a b 0) hk (by simpa using hr)
  · exact ⟨false, by rw [if_neg (by omega)], by simp; intro e; exact h (by rw [e])⟩

theorem ok_small {l : List S36} (h : checkB l = true) : l.length ≤ 100 ∧ ∀ w ∈ l, w.f0.length ≤ 100 ∧ w.f1.length ≤ 100 := by
  have hp := checkB_parts h
  refine ⟨hp.2.2, fun w hw => ?_⟩
  have ho := (List.all_eq_true.1 hp.1) w hw
  have h1 := okB_parts ho
  have h2 := ok_soft ho
  omega
/-! ### lengths -/
def tot (xs : List (List Int)) : Nat := (xs.map fun x => x.length + 1).sum
theorem tot_toksA : ∀ (s acc : List Int), tot (toksA s acc) ≤ s.length + acc.length + 1
  | [], acc => by
    rw [toksA]
    by_cases h : acc = []
    · simp [h, tot]
    · simp [h, tot]
  | c :: cs, acc => by
    rw [toksA]
    by_cases hg : gapB c = true
    · rw [if_pos hg]
      have ih := tot_toksA cs []
      simp only [List.length_nil, List.length_cons] at ih ⊢
      by_cases h : acc = []
      · rw [if_pos h]; omega
      · rw [if_neg h]
        simp only [tot, List.map_cons, List.sum_cons] at ih ⊢
        omega
    · rw [if_neg hg]
      have ih := tot_toksA cs (acc ++ [c])
      simp only [List.length_append, List.length_cons, List.length_nil] at ih ⊢
      omega
def stn (s : TS) : Nat := s.codes.length + 2 * s.soft.length + if s.half = true then 1 else 0
theorem stn_take (s : TS) (b : Int) : stn (takeS s b) = stn s + 1 := by
  unfold takeS
  by_cases h : s.half = true
  · rw [if_pos h]; simp [stn, h]; omega
  · rw [if_neg h]
    by_cases h2 : b = 194
    · rw [if_pos h2]; simp [stn, h]
    · rw [if_neg h2]; simp [stn, h]; omega
theorem stn_fold : ∀ (x : List Int) (s : TS), stn (x.foldl takeS s) = stn s + x.length
  | [], s => rfl
  | b :: x, s => by rw [List.foldl_cons, stn_fold x (takeS s b), stn_take, List.length_cons]; omega
theorem rdWord_len {x : List Int} {w : S36} (h : rdWord x = some w) : w.f0.length + 2 * w.f1.length = x.length := by
  have hf := stn_fold x ts0
  unfold rdWord at h
  simp only at h
  split at h
  · cases h
  · rename_i hh
    split at h
    · cases h
    · injection h with h
      subst h
      have e0 : stn ts0 = 0 := rfl
      rw [e0] at hf
      unfold stn at hf
      rw [if_neg hh] at hf
      show (x.foldl takeS ts0).codes.length + 2 * (x.foldl takeS ts0).soft.length = x.length
      omega
theorem readL_some : ∀ (xs : List (List Int)) (out m : List S36), readL xs out = some m → ∃ ws, m = out ++ ws ∧ xs.map rdWord = ws.map some
  | [], out, m, h => ⟨[], by simp [readL] at h; simp [h], rfl⟩
  | x :: xs, out, m, h => by
    rw [readL] at h
    cases hw : rdWord x with
    | none => rw [hw] at h; simp at h
    | some w =>
      rw [hw] at h
      simp only at h
      by_cases ho : 100 < out.length
      · rw [if_pos ho] at h; simp at h
      · rw [if_neg ho] at h
        obtain ⟨ws, e1, e2⟩ := readL_some xs _ m h
        exact ⟨w :: ws, by rw [e1]; simp, by simp [hw, e2]⟩
theorem tot_words : ∀ (xs : List (List Int)) (ws : List S36), xs.map rdWord = ws.map some → tot xs = ws.length + wide ws
  | [], [], _ => rfl
  | [], _ :: _, h => by simp at h
  | _ :: _, [], h => by simp at h
  | x :: xs, w :: ws, h => by
    simp only [List.map_cons, List.cons.injEq] at h
    have ih := tot_words xs ws h.2
    have := rdWord_len h.1
    simp only [tot, wide, List.map_cons, List.sum_cons, List.length_cons] at ih ⊢
    omega
theorem read_len {s : List Int} {n : List S36} (hr : readL (toks s) [] = some n) (hc : checkB n = true) : (writeL n 0).length ≤ s.length := by
  obtain ⟨ws, e1, e2⟩ := readL_some _ _ _ hr
  rw [List.nil_append] at e1
  subst e1
  have h1 := tot_words _ _ e2
  have h2 := tot_toksA s []
  have hp := checkB_parts hc
  have h3 := writeL_len0 _ hp.1 hp.2.1
  have : toks s = toksA s [] := rfl
  rw [this] at h1
  simp only [List.length_nil] at h2
  omega
theorem read_nil : text_Read.f [] = some ([], 130) := rfl
theorem write_yes_f {l : List S36} (h : checkB l = true) : text_Write.f l = some (writeL l 0, 0) := by unfold text_Write.f; rw [if_pos h]
theorem write_no_f {l : List S36} (h : ¬ checkB l = true) : text_Write.f l = some ([], 130) := by unfold text_Write.f; rw [if_neg h]

end Go.Proofs.Ytnhalfkkamepgaa.Q
