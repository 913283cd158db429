import Derived.Test.YtnhalfkkamepgaaQx6
import Derived.Test.YtnhalfkkamepgaaQPc
namespace Go.Proofs.Ytnhalfkkamepgaa.Q
open Go.RowKit Go.Proofs.YtnhalfkkamepgaaW.PrintWords Go.Proofs.YtnhalfkkamepgaaW.PrintLast
set_option linter.unusedVariables false
set_option linter.unusedSimpArgs false

theorem back_j1 (k : Nat) (b : List Int) (hl : b.length ≤ 2000) (hb : ∀ x ∈ b, (Lit.int .u8 x).wf = true) : compositorlaw13_TextBack.j1 (k + 301) b true false = some true := by
  rw [compositorlaw13_TextBack.j1, if_neg (by decide)]
  unfold text_Read.f
  rw [if_pos (inB_of (by omega) hb)]
  simp only [Option.bind_some]
  obtain ⟨n, e, h⟩ : ∃ n e, readF b = (n, e) := ⟨_, _, rfl⟩
  rw [h]
  rcases readF_ok h with ⟨rfl, hc, hr⟩ | ⟨rfl, rfl⟩
  · have hs := ok_small hc
    obtain ⟨r, hs1, hs2⟩ := same13 100 (by omega) n n (by omega) hs.2 (k + 300) (by omega)
    simp only
    rw [write_yes_f hc]
    simp only [Option.bind_some]
    rw [if_pos (inB_write n hc), readF_write n hc]
    simp only [Option.bind_some]
    rw [hs1]
    have : r = true := hs2.2 rfl
    subst this
    have hlen := read_len hr hc
    simp only [Option.bind_some, if_true]
    have : ((writeL n 0).length : Int) ≤ (b.length : Int) := by omega
    simp [this]
  · obtain ⟨r, hs1, hs2⟩ := same13 100 (by omega) [] [] (by simp) (by simp) (k + 300) (by simp)
    simp only
    rw [write_no_f (l := []) (by decide)]
    simp only [Option.bind_some]
    have : (if inB [] = true then some (readF []) else none) = some ([], 130) := read_nil
    rw [this]
    simp only [Option.bind_some]
    rw [hs1]
    simp

theorem back_pure (l : List S36) (b : List Int) (hb : ∀ x ∈ b, (Lit.int .u8 x).wf = true) : ∃ k, compositorlaw13_TextBack.f k l b = some true := by
  refine ⟨302, ?_⟩
  unfold compositorlaw13_TextBack.f
  rw [awake_up 294, few_total l 191]
  simp only [Option.bind_some]
  by_cases hf : fewB l = true
  · rw [if_pos hf, compositorlaw13_TextBack.j0]
    have hs := few_small hf
    by_cases hlb : (b.length : Int) > 2000
    · rw [if_pos (by simpa using hlb)]
    · rw [if_neg (by simpa using hlb)]
      have hlb' : b.length ≤ 2000 := by omega
      by_cases hc : checkB l = true
      · obtain ⟨r, hs1, hs2⟩ := same13 100 (by omega) l l (by omega) hs.2 301 (by omega)
        have : r = true := hs2.2 rfl
        subst this
        rw [write_yes_f hc]
        simp only [Option.bind_some]
        rw [read_write l hc]
        simp only [Option.bind_some]
        rw [hs1]
        simp only [Option.bind_some, if_true, text_Check.f, hc]
        exact back_j1 0 b hlb' hb
      · obtain ⟨r, hs1, hs2⟩ := same13 100 (by omega) l [] (by omega) hs.2 301 (by omega)
        rw [write_no_f hc]
        simp only [Option.bind_some]
        rw [read_nil]
        simp only [Option.bind_some]
        rw [hs1]
        have hc' : checkB l = false := by simpa using hc
        simp only [Option.bind_some, text_Check.f, hc']
        exact back_j1 0 b hlb' hb
  · rw [if_neg hf, compositorlaw13_TextBack.j0, if_pos rfl]

end Go.Proofs.Ytnhalfkkamepgaa.Q
