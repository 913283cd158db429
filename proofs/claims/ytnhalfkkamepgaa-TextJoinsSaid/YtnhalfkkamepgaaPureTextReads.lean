import Derived.Test.YtnhalfkkamepgaaQPe
namespace Go.Proofs.Ytnhalfkkamepgaa.Q
open Go.RowKit Go.Proofs.YtnhalfkkamepgaaW.PrintWords Go.Proofs.YtnhalfkkamepgaaW.PrintLast
set_option linter.unusedVariables false
set_option linter.unusedSimpArgs false
theorem inB_parts {s : List Int} (h : inB s = true) : ∀ b ∈ s, 0 ≤ b ∧ b ≤ 255 := by
  simp only [inB, Bool.and_eq_true, decide_eq_true_eq, List.all_eq_true] at h
  exact h.2
theorem reads_pure (s : List Int) (hb : ∀ x ∈ s, (Lit.int .u8 x).wf = true) : ∃ k, compositorlaw13_TextReads.f k s = some true := by
  obtain ⟨k, hk⟩ : ∃ k, k = 14000 := ⟨_, rfl⟩
  have ha : compositorlaw13_awake.f k = some true := by rw [hk]; exact awake_up 13992
  refine ⟨k, ?_⟩
  unfold compositorlaw13_TextReads.f
  rw [ha, Option.bind_some]
  by_cases hl : (s.length : Int) > 2000
  · rw [if_pos hl]
  · rw [if_neg hl]
    have hin := inB_of (s := s) (by omega) hb
    unfold text_Read.f
    rw [if_pos hin, Option.bind_some, refread_total s (by omega) (inB_parts hin) k (by omega), Option.bind_some]
    obtain ⟨n, e, h⟩ : ∃ n e, readF s = (n, e) := ⟨_, _, rfl⟩
    rw [h]
    have hs : n.length ≤ 100 ∧ ∀ w ∈ n, w.f0.length ≤ 100 ∧ w.f1.length ≤ 100 := by
      rcases readF_ok h with ⟨_, hc, _⟩ | ⟨_, rfl⟩
      · exact ok_small hc
      · simp
    obtain ⟨r, h1, h2⟩ := same13 100 (by omega) n n (by omega) hs.2 k (by omega)
    have : r = true := h2.2 rfl
    subst this
    simp only
    rw [h1, Option.bind_some]
    simp
end Go.Proofs.Ytnhalfkkamepgaa.Q
namespace Go.Proofs.Ytnhalfkkamepgaa.Pure
open Go.RowKit Go.Proofs.Ytnhalfkkamepgaa.Q
theorem TextReads : compositorlaw13_TextReads.Pure := fun l0 _ _ hw => reads_pure l0 hw
end Go.Proofs.Ytnhalfkkamepgaa.Pure
