import Derived.Test.YtnhalfkkamepgaaQPe
import Derived.Test.YtnhalfkkamepgaaPureTextReads
namespace Go.Proofs.Ytnhalfkkamepgaa.Q
open Go.RowKit Go.Proofs.YtnhalfkkamepgaaW.PrintWords Go.Proofs.YtnhalfkkamepgaaW.PrintLast
set_option linter.unusedVariables false
set_option linter.unusedSimpArgs false

theorem toksA_join : ∀ (a acc b : List Int), toksA (a ++ 32 :: b) acc = toksA a acc ++ toks b
  | [], acc, b => by
    rw [List.nil_append, show toksA (32 :: b) acc = (if gapB 32 = true then (if acc = [] then toksA b [] else acc :: toksA b []) else toksA b (acc ++ [32])) from rfl, if_pos (show gapB 32 = true by decide), show toksA [] acc = if acc = [] then [] else [acc] from rfl]
    by_cases h : acc = []
    · rw [if_pos h, if_pos h]; rfl
    · rw [if_neg h, if_neg h]; rfl
  | c :: a, acc, b => by
    rw [List.cons_append, toksA, toksA]
    by_cases hg : gapB c = true
    · rw [if_pos hg, if_pos hg]
      by_cases h : acc = []
      · rw [if_pos h, if_pos h]; exact toksA_join a [] b
      · rw [if_neg h, if_neg h, toksA_join a [] b]; rfl
    · rw [if_neg hg, if_neg hg]; exact toksA_join a _ b

theorem readL_app : ∀ (xs ys : List (List Int)) (out : List S36), readL (xs ++ ys) out = (readL xs out).bind (readL ys)
  | [], ys, out => rfl
  | x :: xs, ys, out => by
    rw [List.cons_append]
    cases hw : rdWord x with
    | none => rw [readL_no x _ out (.inl hw), readL_no x _ out (.inl hw)]; rfl
    | some w =>
      by_cases ho : out.length ≤ 100
      · rw [readL_yes x _ out w hw ho, readL_yes x _ out w hw ho]; exact readL_app xs ys _
      · rw [readL_no x _ out (.inr (by omega)), readL_no x _ out (.inr (by omega))]; rfl
theorem readL_from : ∀ (ys : List (List Int)) (o1 o2 m : List S36), readL ys o1 = some (o1 ++ m) → readL ys o2 = some (o2 ++ m) ∨ (100 < (o2 ++ m).length ∧ readL ys o2 = none)
  | [], o1, o2, m, h => by
    have : m = [] := by simpa [readL] using h
    subst this
    exact .inl (by simp [readL])
  | y :: ys, o1, o2, m, h => by
    cases hw : rdWord y with
    | none => rw [readL_no y _ o1 (.inl hw)] at h; cases h
    | some w =>
      by_cases ho : o1.length ≤ 100
      · rw [readL_yes y _ o1 w hw ho] at h
        obtain ⟨ws, e1, _⟩ := readL_some _ _ _ h
        have em : m = w :: ws := by
          have : o1 ++ m = o1 ++ (w :: ws) := by rw [e1]; simp
          exact List.append_cancel_left this
        subst em
        by_cases ho2 : o2.length ≤ 100
        · rw [readL_yes y _ o2 w hw ho2]
          rcases readL_from ys (o1 ++ [w]) (o2 ++ [w]) ws (by rw [h]; simp) with h2 | ⟨h2, h3⟩
          · exact .inl (by rw [h2]; simp)
          · exact .inr ⟨by simp at h2 ⊢; omega, h3⟩
        · exact .inr ⟨by simp; omega, readL_no y _ o2 (.inr (by omega))⟩
      · rw [readL_no y _ o1 (.inr (by omega))] at h; cases h

theorem join_read {a b : List Int} {l m : List S36} (hl : readL (toks a) [] = some l) (hm : readL (toks b) [] = some m) :
    readF (a ++ 32 :: b) = if checkB (l ++ m) = true then (l ++ m, 0) else ([], 130) := by
  unfold readF
  rw [show toks (a ++ 32 :: b) = toks a ++ toks b from toksA_join a [] b, readL_app, hl, Option.bind_some]
  rcases readL_from (toks b) [] l m (by rw [hm]; simp) with h | ⟨h1, h2⟩
  · rw [h]
  · rw [h2]
    have : checkB (l ++ m) = false := by
      have : ¬ (l ++ m).length ≤ 100 := by omega
      unfold checkB
      simp [this]
      intro _ _ h3
      simp at h1
      omega
    rw [this]; rfl

theorem writeL_app : ∀ (l m : List S36) (i : Nat), writeL (l ++ m) i = writeL l i ++ writeL m (i + l.length)
  | [], m, i => by simp [writeL]
  | x :: l, m, i => by
    have ih := writeL_app l m (i + 1)
    simp only [List.cons_append, writeL, ih, List.length_cons, List.append_assoc]
    rw [show i + 1 + l.length = i + (l.length + 1) by omega]

theorem check_take {l : List S36} (h : checkB l = true) (k : Nat) (hk : 1 ≤ k) : checkB (l.take k) = true := by
  have hp := checkB_parts h
  unfold checkB at h ⊢
  simp only [Bool.and_eq_true, decide_eq_true_eq] at h ⊢
  have hs : sumL (l.take k) ≤ sumL l := by
    have : sumL l = sumL (l.take k) + sumL (l.drop k) := by
      unfold sumL
      rw [← List.sum_append_nat, ← List.map_append, List.take_append_drop]
    omega
  refine ⟨?_, by rw [List.length_take]; omega, by rw [List.length_take]; omega, by omega⟩
  rw [List.all_eq_true] at *
  exact fun x hx => h.1 x (List.mem_of_mem_take hx)

end Go.Proofs.Ytnhalfkkamepgaa.Q
