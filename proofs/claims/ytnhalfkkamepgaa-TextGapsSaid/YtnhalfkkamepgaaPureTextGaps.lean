import Derived.Test.YtnhalfkkamepgaaQx7
import Derived.Test.YtnhalfkkamepgaaQPc
namespace Go.Proofs.Ytnhalfkkamepgaa.Q
open Go.RowKit Go.Proofs.YtnhalfkkamepgaaW.PrintWords Go.Proofs.YtnhalfkkamepgaaW.PrintLast
set_option linter.unusedVariables false
set_option linter.unusedSimpArgs false

theorem gaps_l1 (l : List S36) (g : List Int) (i : Nat) (hi : i ≤ 100) (N : Nat) (hN : N ≤ 3) : ∀ (m j : Nat) (x6 : List Int) (k : Nat), N - j = m → j ≤ N → x6.length + m ≤ 1000000 → m + 1 ≤ k →
    ∃ gs, gs.length = m ∧ (∀ b ∈ gs, gapB b = true ∧ 0 ≤ b ∧ b ≤ 255) ∧ compositorlaw13_TextGaps.l1 k l g true x6 (i : Int) (N : Int) (j : Int) = compositorlaw13_TextGaps.l0 (k - m - 1) l g true (x6 ++ gs) ((i + 1 : Nat) : Int) := by
  intro m
  induction m with
  | zero =>
    intro j x6 k hm hj hx hk
    obtain ⟨k', rfl⟩ : ∃ k', k = k' + 1 := ⟨k - 1, by omega⟩
    refine ⟨[], rfl, by simp, ?_⟩
    have e : ((i : Int) + 1) = ((i + 1 : Nat) : Int) := by omega
    rw [compositorlaw13_TextGaps.l1, if_neg (by omega), w64 ((i : Int) + 1) (by omega) (by omega), e, List.append_nil]
    rfl
  | succ m ih =>
    intro j x6 k hm hj hx hk
    obtain ⟨k', rfl⟩ : ∃ k', k = k' + 1 := ⟨k - 1, by omega⟩
    have e : ((j : Int) + 1) = ((j + 1 : Nat) : Int) := by omega
    have step : ∀ b : Int, gapB b = true → 0 ≤ b → b ≤ 255 → ∃ gs, gs.length = m + 1 ∧ (∀ b ∈ gs, gapB b = true ∧ 0 ≤ b ∧ b ≤ 255) ∧ compositorlaw13_TextGaps.l1 k' l g true (x6 ++ [b]) (i : Int) (N : Int) ((j + 1 : Nat) : Int) = compositorlaw13_TextGaps.l0 (k' + 1 - (m + 1) - 1) l g true (x6 ++ gs) ((i + 1 : Nat) : Int) := by
      intro b hb h0 h1
      · obtain ⟨gs, h2, h3, h4⟩ := ih (j + 1) (x6 ++ [b]) k' (by omega) (by omega) (by simp; omega) (by omega)
        refine ⟨b :: gs, by simp [h2], ?_, ?_⟩
        · intro c hc
          rcases List.mem_cons.1 hc with rfl | hc
          · exact ⟨hb, h0, h1⟩
          · exact h3 c hc
        · rw [h4, show k' - m - 1 = k' + 1 - (m + 1) - 1 by omega]
          simp
    rw [compositorlaw13_TextGaps.l1, if_pos (by omega), w64 ((j : Int) + 1) (by omega) (by omega), e]
    split
    · rw [if_pos (by omega)]; exact step 32 (by decide) (by decide) (by decide)
    · split
      · rw [if_pos (by omega)]; exact step 10 (by decide) (by decide) (by decide)
      · split
        · rw [if_pos (by omega)]; exact step 9 (by decide) (by decide) (by decide)
        · rw [if_pos (by omega)]; exact step 13 (by decide) (by decide) (by decide)

theorem toks_gaps : ∀ (gs r : List Int), (∀ b ∈ gs, gapB b = true) → toks (gs ++ r) = toks r
  | [], r, _ => rfl
  | b :: gs, r, h => by
    have hb := h b (by simp)
    rw [List.cons_append]
    unfold toks
    rw [toksA, if_pos hb, if_pos rfl]
    exact toks_gaps gs r (fun c hc => h c (by simp [hc]))
theorem toks_piece (w : S36) (hw : okB w = true) (gs r : List Int) (h : ∀ b ∈ gs, gapB b = true) (hn : 1 ≤ gs.length) : toks (wb w ++ gs ++ r) = wb w :: toks r := by
  cases gs with
  | nil => simp at hn
  | cons b gs =>
    rw [List.append_assoc, toks_word (fun c hc => (wb_plain hw c hc).1), List.cons_append, toks_gap b (h b (by simp)) _ _ (wb_ne hw), toks_gaps gs r (fun c hc => h c (by simp [hc]))]

theorem one_check (w : S36) : checkB [w] = okB w := by
  by_cases h : okB w = true
  · have hp := okB_parts h
    have : (w.f0.length : Int) ≤ 400 := by omega
    simp [checkB, h, sumL, this]
  · have h' : okB w = false := by simpa using h
    simp [checkB, h']

theorem gaps_end (l : List S36) (g x6 : List Int) (hl : l.length ≤ 50) (hs : ∀ w ∈ l, w.f0.length ≤ 100 ∧ w.f1.length ≤ 100) (hok : l.all okB = true) (hx : x6.length ≤ 900000) (hb : ∀ b ∈ x6, 0 ≤ b ∧ b ≤ 255) (ht : ∀ r, toks (x6 ++ r) = l.map wb ++ toks r) (k : Nat) (hk : 200 ≤ k) :
    compositorlaw13_TextGaps.l0 k l g true x6 (l.length : Int) = some true := by
  obtain ⟨k', rfl⟩ : ∃ k', k = k' + 1 := ⟨k - 1, by omega⟩
  have hin : inB ([32, 10] ++ x6) = true := by
    simp only [inB, Bool.and_eq_true, decide_eq_true_eq, List.all_eq_true]
    refine ⟨by simp; omega, fun b h => ?_⟩
    rcases List.mem_append.1 h with h | h
    · simp at h; omega
    · exact hb b h
  have htk : toks ([32, 10] ++ x6) = l.map wb := by
    have h1 := toks_gaps [32, 10] x6 (by decide)
    have h2 := ht []
    rw [List.append_nil] at h2
    rw [h1, h2]
    simp [toks, toksA]
  have hrd : readF ([32, 10] ++ x6) = if checkB l = true then (l, 0) else ([], 130) := by
    unfold readF
    rw [htk, readL_wb l [] hok (by simp; omega)]
    rfl
  rw [compositorlaw13_TextGaps.l0, if_neg (by omega), Option.bind_some, if_pos (by simp; omega)]
  unfold text_Read.f
  rw [if_pos hin, Option.bind_some, hrd]
  by_cases hc : checkB l = true
  · obtain ⟨r, h1, h2⟩ := same13 100 (by omega) l l (by omega) hs k' (by omega)
    have : r = true := h2.2 rfl
    subst this
    rw [if_pos hc]
    simp only
    rw [h1, Option.bind_some]
    simp [text_Check.f, hc]
  · obtain ⟨r, h1, h2⟩ := same13 100 (by omega) l [] (by omega) hs k' (by omega)
    have hc' : checkB l = false := by simpa using hc
    rw [if_neg hc]
    simp only
    rw [h1, Option.bind_some]
    simp [text_Check.f, hc']

theorem gaps_l0 (l : List S36) (g : List Int) (hg : ∀ b ∈ g, 0 ≤ b ∧ b ≤ 255) (hl : l.length ≤ 50) (hs : ∀ w ∈ l, w.f0.length ≤ 100 ∧ w.f1.length ≤ 100) : ∀ (m i : Nat) (x6 : List Int) (k : Nat), l.length - i = m → i ≤ l.length → (l.take i).all okB = true → x6.length ≤ 400 * i → (∀ b ∈ x6, 0 ≤ b ∧ b ≤ 255) → (∀ r, toks (x6 ++ r) = (l.take i).map wb ++ toks r) → 6 * m + 200 ≤ k →
    compositorlaw13_TextGaps.l0 k l g true x6 (i : Int) = some true := by
  intro m
  induction m with
  | zero =>
    intro i x6 k hm hi hok hx hb ht hk
    have e : i = l.length := by omega
    rw [e, List.take_length] at hok ht
    rw [e]
    exact gaps_end l g x6 hl hs hok (by omega) hb ht k (by omega)
  | succ m ih =>
    intro i x6 k hm hi hok hx hb ht hk
    have hlt : i < l.length := by omega
    have e : ((i : Int) + 1) = ((i + 1 : Nat) : Int) := by omega
    obtain ⟨k', rfl⟩ : ∃ k', k = (k' + 1) + 1 := ⟨k - 2, by omega⟩
    have hmem : rd_T36 l i ∈ l := by rw [rd_T36_eq l i hlt]; exact List.getElem_mem hlt
    have hone : (l.take (i + 1)).drop i = [rd_T36 l i] := by
      rw [take_succ_rd l i hlt, List.drop_append_of_le_length (by rw [List.length_take]; omega)]
      rw [List.drop_eq_nil_of_le (by rw [List.length_take]; omega)]
      rfl
    rw [compositorlaw13_TextGaps.l0, if_pos (by omega), if_pos (by omega), w64 ((i : Int) + 1) (by omega) (by omega), e, if_pos (by omega), if_pos (by omega), Int.toNat_natCast, Int.toNat_natCast, hone]
    by_cases hw : okB (rd_T36 l i) = true
    · have hsw := hs _ hmem
      have hwl : (wb (rd_T36 l i)).length = (rd_T36 l i).f0.length + 2 * (rd_T36 l i).f1.length := word_len hw
      have hwr : writeL [rd_T36 l i] 0 = wb (rd_T36 l i) := by simp [writeL, wb]
      have hwp := wb_plain hw
      rw [write_yes_f (by rw [one_check]; exact hw), Option.bind_some, hwr]
      rw [if_pos (show ((wb (rd_T36 l i), (0 : Int)).2 = 0) from rfl), if_pos (by simp; omega), Option.bind_some]
      have fin : ∀ N : Nat, 1 ≤ N → N ≤ 3 → compositorlaw13_TextGaps.j2 (k' + 1) l g true (x6 ++ wb (rd_T36 l i)) (i : Int) (N : Int) = some true := by
        intro N hN1 hN3
        obtain ⟨gs, h1, h2, h3⟩ := gaps_l1 l g i (by omega) N hN3 N 0 (x6 ++ wb (rd_T36 l i)) k' (by omega) (by omega) (by simp; omega) (by omega)
        rw [compositorlaw13_TextGaps.j2]
        rw [show ((0 : Nat) : Int) = 0 from rfl] at h3
        rw [h3]
        refine ih (i + 1) _ _ (by omega) hlt ?_ (by simp; omega) ?_ ?_ (by omega)
        · rw [take_succ_rd l i hlt]; rw [List.all_append, hok, List.all_cons, hw]; rfl
        · intro b hbm
          rcases List.mem_append.1 hbm with hbm | hbm
          · rcases List.mem_append.1 hbm with hbm | hbm
            · exact hb b hbm
            · exact (hwp b hbm).2
          · exact (h2 b hbm).2
        · intro r
          rw [List.append_assoc, List.append_assoc, ht, ← List.append_assoc, toks_piece _ hw gs r (fun b hb => (h2 b hb).1) (by omega), take_succ_rd l i hlt]
          simp
      by_cases hgi : (i : Int) < (g.length : Int)
      · have hgm : rd g i ∈ g := by
          have := drop_rd g i (by omega)
          exact List.mem_of_mem_drop (i := i) (by rw [this]; exact List.mem_cons_self)
        have hgb := hg _ hgm
        have htm : Int.tmod (rd g i) 3 = rd g i % 3 := Int.tmod_eq_emod_of_nonneg hgb.1
        rw [if_pos hgi, htm, w64 (rd g i % 3) (by omega) (by omega), w64 (1 + rd g i % 3) (by omega) (by omega)]
        have := fin (1 + rd g i % 3).toNat (by omega) (by omega)
        rw [show (((1 + rd g i % 3).toNat : Nat) : Int) = 1 + rd g i % 3 by omega] at this
        exact this
      · rw [if_neg hgi]
        exact fin 1 (by omega) (by omega)
    · rw [write_no_f (by rw [one_check]; exact hw), Option.bind_some]
      simp

theorem gaps_pure (l : List S36) (g : List Int) (hg : ∀ x ∈ g, (Lit.int .u8 x).wf = true) : ∃ k, compositorlaw13_TextGaps.f k l g = some true := by
  obtain ⟨k, hk⟩ : ∃ k, k = 1000 := ⟨_, rfl⟩
  have ha : compositorlaw13_awake.f (k + 1) = some true := by rw [hk]; exact awake_up 993
  have hf0 : compositorref13_Few.f (k + 1) l = some (fewB l) := by rw [hk]; exact few_total l 890
  refine ⟨k + 1, ?_⟩
  unfold compositorlaw13_TextGaps.f
  rw [ha, Option.bind_some, hf0, Option.bind_some]
  by_cases hf : fewB l = true
  · have hs := few_small hf
    rw [if_pos hf]
    by_cases h50 : (l.length : Int) > 50
    · rw [if_pos h50, compositorlaw13_TextGaps.j0, if_pos rfl]
    · rw [if_neg h50, compositorlaw13_TextGaps.j0]
      by_cases h60 : (g.length : Int) > 60
      · rw [if_pos (by simpa using h60)]
      · rw [if_neg (by simpa using h60)]
        have hin := inB_of (s := g) (by omega) hg
        simp only [inB, Bool.and_eq_true, decide_eq_true_eq, List.all_eq_true] at hin
        exact gaps_l0 l g hin.2 (by omega) hs.2 l.length 0 [] k (by omega) (by omega) (by simp) (by simp) (by simp) (by simp) (by omega)
  · rw [if_neg hf, compositorlaw13_TextGaps.j0, if_pos rfl]

end Go.Proofs.Ytnhalfkkamepgaa.Q
