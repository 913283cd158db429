/- What the document reads is what the program reads. -/
import Derived.Test.YtnhalfkkamepgaaQx4
import Derived.Test.YtnhalfkkamepgaaQPd
namespace Go.Proofs.Ytnhalfkkamepgaa.Q
open Go.RowKit Go.Proofs.YtnhalfkkamepgaaW.PrintWords Go.Proofs.YtnhalfkkamepgaaW.PrintLast
set_option linter.unusedVariables false
set_option linter.unusedSimpArgs false

theorem gap_total (b : Int) : compositorref13_gap.f b = some (gapB b) := by
  unfold compositorref13_gap.f gapB
  split
  · rfl
  · split
    · rfl
    · split <;> rfl

theorem bad_stays : ∀ (x : List Int) (s : TS), s.bad = true → (x.foldl takeS s).bad = true
  | [], _, h => h
  | b :: x, s, h => by
    rw [List.foldl_cons]
    refine bad_stays x _ ?_
    unfold takeS
    split
    · simp [h]
    · split <;> exact h

theorem wordB_bad {c s : List Int} (h : ∃ b ∈ c, badB b = true) : wordB c s = false := by
  have : c.any badB = true := List.any_eq_true.2 h
  simp [wordB, this]

theorem of_l0 (x : List Int) (hx : x.length ≤ 2000) (hb : ∀ b ∈ x, 0 ≤ b ∧ b ≤ 255) : ∀ (n i : Nat) (c s : List Int), x.length - i ≤ n → i ≤ x.length → c.length ≤ i → s.length ≤ i →
    ∃ c' s', compositorref13_of.l0 (n + 4010) x (i : Int) c s = some (c', s', wordB c' s') ∧ ((∃ b ∈ c, badB b = true) → ∃ b ∈ c', badB b = true) ∧
      (((x.drop i).foldl takeS ⟨c, s, false, false⟩).half = false → ((x.drop i).foldl takeS ⟨c, s, false, false⟩).bad = false → c' = ((x.drop i).foldl takeS ⟨c, s, false, false⟩).codes ∧ s' = ((x.drop i).foldl takeS ⟨c, s, false, false⟩).soft) ∧
      ((((x.drop i).foldl takeS ⟨c, s, false, false⟩).half = true ∨ ((x.drop i).foldl takeS ⟨c, s, false, false⟩).bad = true) → ∃ b ∈ c', badB b = true) := by
  intro n
  induction n with
  | zero =>
    intro i c s hn hi hc hs
    have e : i = x.length := by omega
    refine ⟨c, s, ?_, fun h => h, ?_, ?_⟩
    · rw [show 0 + 4010 = 4009 + 1 by omega, compositorref13_of.l0, if_neg (by omega), word_total c s (by omega) (by omega) 4009 (by omega)]
      rfl
    · rw [e, List.drop_length]; intro _ _; exact ⟨rfl, rfl⟩
    · rw [e, List.drop_length]; rintro (h | h) <;> cases h
  | succ n ih =>
    intro i c s hn hi hc hs
    by_cases hlt : i < x.length
    · have ei : ((i : Int) + 1) = ((i + 1 : Nat) : Int) := by omega
      have ei2 : (((i + 1 : Nat) : Int) + 1) = ((i + 2 : Nat) : Int) := by omega
      have hmem : rd x i ∈ x := by
        have := drop_rd x i hlt
        exact List.mem_of_mem_drop (i := i) (by rw [this]; exact List.mem_cons_self)
      have hbi := hb _ hmem
      have hwr : wrap64 (rd x i) = rd x i := w64 _ (by omega) (by omega)
      rw [show n + 1 + 4010 = (n + 4010) + 1 by omega, compositorref13_of.l0, if_pos (by omega), if_pos (by omega), w64 ((i : Int) + 1) (by omega) (by omega), ei, hwr, drop_rd x i hlt, List.foldl_cons]
      by_cases h1 : rd x i = 194
      · rw [if_pos h1]
        obtain ⟨c', s', e1, e2, e3, e4⟩ := ih (i + 1) (c ++ [rd x i]) s (by omega) hlt (by simp; omega) (by omega)
        have hbad : ∃ b ∈ c', badB b = true := e2 ⟨rd x i, by simp, by rw [h1]; decide⟩
        have et : takeS ⟨c, s, false, false⟩ (rd x i) = ⟨c, s, true, false⟩ := by rw [h1]; rfl
        rw [et]
        by_cases h2 : ((i + 1 : Nat) : Int) < (x.length : Int)
        · rw [if_pos h2, if_pos (by omega), drop_rd x (i + 1) (by omega), List.foldl_cons]
          by_cases h3 : rd x ((i + 1 : Nat) : Int) = 173
          · rw [if_pos h3, if_pos (by omega), w64 (((i + 1 : Nat) : Int) + 1) (by omega) (by omega), ei2]
            have et2 : takeS ⟨c, s, true, false⟩ (rd x ((i + 1 : Nat) : Int)) = ⟨c, s ++ [(c.length : Int)], false, false⟩ := by rw [h3]; rfl
            rw [et2]
            exact ih (i + 2) c (s ++ [(c.length : Int)]) (by omega) (by omega) (by omega) (by simp; omega)
          · rw [if_neg h3, if_pos (by omega)]
            have hbs : ((x.drop (i + 1 + 1)).foldl takeS (takeS ⟨c, s, true, false⟩ (rd x ((i + 1 : Nat) : Int)))).bad = true := bad_stays _ _ (by
              unfold takeS; rw [if_pos rfl]; simpa using h3)
            refine ⟨c', s', e1, fun _ => hbad, ?_, fun _ => hbad⟩
            intro _ hf
            rw [hbs] at hf; cases hf
        · rw [if_neg h2, if_pos (by omega)]
          refine ⟨c', s', e1, fun _ => hbad, ?_, fun _ => hbad⟩
          have : i + 1 = x.length := by omega
          rw [this, List.drop_length]
          intro hf _
          cases hf
      · rw [if_neg h1, if_pos (by omega), takeS_code _ _ rfl h1]
        obtain ⟨c', s', e1, e2, e3, e4⟩ := ih (i + 1) (c ++ [rd x i]) s (by omega) hlt (by simp; omega) (by omega)
        exact ⟨c', s', e1, fun ⟨b, hb1, hb2⟩ => e2 ⟨b, List.mem_append_left _ hb1, hb2⟩, e3, e4⟩
    · have e : i = x.length := by omega
      refine ⟨c, s, ?_, fun h => h, ?_, ?_⟩
      · rw [show n + 1 + 4010 = (n + 4010) + 1 by omega, compositorref13_of.l0, if_neg (by omega), word_total c s (by omega) (by omega) (n + 4010) (by omega)]
        rfl
      · rw [e, List.drop_length]; intro _ _; exact ⟨rfl, rfl⟩
      · rw [e, List.drop_length]; rintro (h | h) <;> cases h

theorem of_total (x : List Int) (hx : x.length ≤ 2000) (hb : ∀ b ∈ x, 0 ≤ b ∧ b ≤ 255) (k : Nat) (hk : 6010 ≤ k) : ∃ c' s', compositorref13_of.f k x = some (c', s', wordB c' s') ∧ (∀ w, rdWord x = some w → (⟨c', s'⟩ : S36) = w) ∧ (rdWord x = none → wordB c' s' = false) := by
  obtain ⟨c', s', e1, _, e3, e4⟩ := of_l0 x hx hb x.length 0 [] [] (by omega) (by omega) (by simp) (by simp)
  rw [show ((0 : Nat) : Int) = 0 from rfl] at e1
  rw [List.drop_zero] at e3 e4
  have e5 := at_rounds (g := fun k => compositorref13_of.f k x) (compositorref13_of.mono x) (k := x.length + 4010) (k' := k) (by omega) e1
  refine ⟨c', s', e5, ?_, ?_⟩
  · intro w hw
    unfold rdWord at hw
    simp only at hw
    split at hw
    · cases hw
    · rename_i hh
      split at hw
      · cases hw
      · rename_i hbd
        have := e3 (Bool.eq_false_iff.mpr hh) (Bool.eq_false_iff.mpr hbd)
        injection hw with hw
        rw [← hw, this.1, this.2]
        rfl
  · intro hw
    unfold rdWord at hw
    simp only at hw
    split at hw
    · rename_i hh
      exact wordB_bad (e4 (.inl hh))
    · split at hw
      · rename_i hbd
        exact wordB_bad (e4 (.inr hbd))
      · cases hw

/-- What the document reads. -/
def refL : List (List Int) → List S36 → List S36 × Int
  | [], out => if checkB out = true then (out, 0) else ([], 130)
  | x :: xs, out => match rdWord x with
    | none => ([], 130)
    | some w => if okB w = true then refL xs (out ++ [w]) else ([], 130)
def finL (o : Option (List S36)) : List S36 × Int := match o with
  | none => ([], 130)
  | some l => if checkB l = true then (l, 0) else ([], 130)

theorem fin_bad : ∀ (ts : List (List Int)) (out : List S36), (∃ w ∈ out, okB w = false) → finL (readL ts out) = ([], 130)
  | [], out, h => by
    have : checkB out = false := by
      have : out.all okB = false := by
        obtain ⟨w, h1, h2⟩ := h
        rw [List.all_eq_false]
        exact ⟨w, h1, by simp [h2]⟩
      simp [checkB, this]
    simp [readL, finL, this]
  | x :: xs, out, h => by
    cases hw : rdWord x with
    | none => rw [readL_no x xs out (.inl hw)]; rfl
    | some w =>
      by_cases ho : out.length ≤ 100
      · rw [readL_yes x xs out w hw ho]
        obtain ⟨v, h1, h2⟩ := h
        exact fin_bad xs _ ⟨v, List.mem_append_left _ h1, h2⟩
      · rw [readL_no x xs out (.inr (by omega))]; rfl
theorem ref_long : ∀ (ts : List (List Int)) (out : List S36), 100 < out.length → refL ts out = ([], 130)
  | [], out, h => by
    have : checkB out = false := by
      have : ¬ out.length ≤ 100 := by omega
      simp [checkB, this]
    simp [refL, this]
  | x :: xs, out, h => by
    rw [refL]
    cases hw : rdWord x with
    | none => rfl
    | some w =>
      simp only
      split
      · exact ref_long xs _ (by simp; omega)
      · rfl
theorem ref_fin : ∀ (ts : List (List Int)) (out : List S36), refL ts out = finL (readL ts out)
  | [], out => rfl
  | x :: xs, out => by
    rw [refL]
    cases hw : rdWord x with
    | none => rw [readL_no x xs out (.inl hw)]; rfl
    | some w =>
      simp only
      by_cases ho : out.length ≤ 100
      · rw [readL_yes x xs out w hw ho]
        by_cases hk : okB w = true
        · rw [if_pos hk, ref_fin xs (out ++ [w])]
        · rw [if_neg hk, fin_bad xs _ ⟨w, by simp, by simpa using hk⟩]
      · rw [readL_no x xs out (.inr (by omega))]
        split
        · rw [ref_long xs _ (by simp; omega)]; rfl
        · rfl

theorem small_of {l : List S36} (h : l.all okB = true) : ∀ w ∈ l, w.f0.length ≤ 100 ∧ w.f1.length ≤ 100 := by
  intro w hw
  have ho := (List.all_eq_true.1 h) w hw
  have h1 := okB_parts ho
  have h2 := ok_soft ho
  omega

def readAns (a : List S36 × Int) : Option (List S36 × Int) := some a

theorem check_end (x : List Int) (l : List S36) (hl : l.length ≤ 2000) (ho : l.all okB = true) (i : Nat) (hi : x.length ≤ i) (hi2 : i ≤ 2000) (k : Nat) (hk : 7001 ≤ k) : compositorref13_Read.l0 k x l (i : Int) = some (refL [] l) := by
  obtain ⟨k', rfl⟩ : ∃ k', k = k' + 1 := ⟨k - 1, by omega⟩
  rw [compositorref13_Read.l0, if_neg (by omega), check_total l 100 (by omega) (by omega) (small_of ho) k' (by omega), Option.bind_some, refL]
  by_cases hc : checkB l = true
  · rw [if_pos hc, if_pos hc]
  · rw [if_neg hc, if_neg hc]

theorem take_drop_snoc (x : List Int) (i e : Nat) (hie : i ≤ e) (he : e < x.length) : (x.take (e + 1)).drop i = (x.take e).drop i ++ [rd x e] := by
  rw [List.take_succ_eq_append_getElem he, List.drop_append_of_le_length (by rw [List.length_take]; omega)]
  congr 1
  simp [rd, List.getD_eq_getElem?_getD, List.getElem?_eq_getElem he]

theorem ref_loops (x : List Int) (hx : x.length ≤ 2000) (hb : ∀ b ∈ x, 0 ≤ b ∧ b ≤ 255) : ∀ m : Nat,
    (∀ (i : Nat) (l : List S36) (k : Nat), x.length - i = m → i ≤ x.length → l.length ≤ i → l.all okB = true → 3 * m + 7001 ≤ k → compositorref13_Read.l0 k x l (i : Int) = some (refL (toks (x.drop i)) l)) ∧
    (∀ (i e : Nat) (l : List S36) (k : Nat), x.length - e = m → i < e → e ≤ x.length → l.length ≤ i → l.all okB = true → 3 * m + 7002 ≤ k → compositorref13_Read.l1 k x l (i : Int) (e : Int) = some (refL (toksA (x.drop e) ((x.take e).drop i)) l)) := by
  intro m
  induction m with
  | zero =>
    have h0 : ∀ (i : Nat) (l : List S36) (k : Nat), x.length - i = 0 → i ≤ x.length → l.length ≤ i → l.all okB = true → 3 * 0 + 7001 ≤ k → compositorref13_Read.l0 k x l (i : Int) = some (refL (toks (x.drop i)) l) := by
      intro i l k hm hi hl ho hk
      have e : i = x.length := by omega
      rw [check_end x l (by omega) ho i (by omega) (by omega) k (by omega), e, List.drop_length]
      rfl
    refine ⟨h0, ?_⟩
    intro i e l k hm hie he hl ho hk
    obtain ⟨k', rfl⟩ : ∃ k', k = k' + 1 := ⟨k - 1, by omega⟩
    have ee : e = x.length := by omega
    have hacc : (x.take e).drop i ≠ [] := by
      intro h; have := congrArg List.length h; simp at this; omega
    obtain ⟨c', s', e1, e2, e3⟩ := of_total ((x.take e).drop i) (by simp; omega) (fun b h => hb b (List.mem_of_mem_take (List.mem_of_mem_drop h))) k' (by omega)
    rw [compositorref13_Read.l1, if_neg (by omega), if_pos (by omega), if_pos (by omega), if_pos (by omega), Int.toNat_natCast, Int.toNat_natCast, e1, Option.bind_some]
    have hd : x.drop e = [] := by rw [ee]; exact List.drop_length
    rw [hd, toksA, if_neg hacc, refL]
    cases hw : rdWord ((x.take e).drop i) with
    | none =>
      have := e3 hw
      simp only [this]
      rfl
    | some w =>
      have h2 := e2 w hw
      have hk2 : wordB c' s' = okB w := by rw [← h2]; rfl
      simp only [hk2, h2]
      by_cases hok : okB w = true
      · rw [if_pos hok, if_pos hok, if_pos (by omega)]
        have := h0 e (l ++ [w]) k' (by omega) (by omega) (by simp; omega) (by simp [ho, hok]) (by omega)
        rw [this, hd]
        rfl
      · rw [if_neg hok, if_neg hok]
  | succ m ih =>
    have h0 : ∀ (i : Nat) (l : List S36) (k : Nat), x.length - i = m + 1 → i ≤ x.length → l.length ≤ i → l.all okB = true → 3 * (m + 1) + 7001 ≤ k → compositorref13_Read.l0 k x l (i : Int) = some (refL (toks (x.drop i)) l) := by
      intro i l k hm hi hl ho hk
      obtain ⟨k', rfl⟩ : ∃ k', k = (k' + 1) + 1 := ⟨k - 2, by omega⟩
      have hlt : i < x.length := by omega
      have ei : ((i : Int) + 1) = ((i + 1 : Nat) : Int) := by omega
      rw [compositorref13_Read.l0, if_pos (by omega), if_pos (by omega), gap_total, Option.bind_some, drop_rd x i hlt]
      by_cases hg : gapB (rd x i) = true
      · rw [if_pos hg, w64 ((i : Int) + 1) (by omega) (by omega), ei, (ih.1 (i + 1) l (k' + 1) (by omega) hlt (by omega) ho (by omega))]
        rw [show toks (rd x i :: x.drop (i + 1)) = toks (x.drop (i + 1)) by unfold toks; rw [toksA, if_pos hg, if_pos rfl]]
      · rw [if_neg hg, compositorref13_Read.l1, if_pos (by omega), if_pos (by omega), gap_total, Option.bind_some, if_neg hg, w64 ((i : Int) + 1) (by omega) (by omega), ei]
        rw [ih.2 i (i + 1) l k' (by omega) (by omega) hlt hl ho (by omega), take_drop_snoc x i i (Nat.le_refl _) hlt]
        have : (x.take i).drop i = [] := List.drop_eq_nil_of_le (by rw [List.length_take]; omega)
        rw [this]
        rw [show toks (rd x i :: x.drop (i + 1)) = toksA (x.drop (i + 1)) ([] ++ [rd x i]) by unfold toks; rw [toksA, if_neg hg]]
    refine ⟨h0, ?_⟩
    intro i e l k hm hie he hl ho hk
    obtain ⟨k', rfl⟩ : ∃ k', k = k' + 1 := ⟨k - 1, by omega⟩
    have hlt : e < x.length := by omega
    have ee : ((e : Int) + 1) = ((e + 1 : Nat) : Int) := by omega
    have hacc : (x.take e).drop i ≠ [] := by
      intro h; have := congrArg List.length h; simp at this; omega
    rw [compositorref13_Read.l1, if_pos (by omega), if_pos (by omega), gap_total, Option.bind_some, drop_rd x e hlt]
    by_cases hg : gapB (rd x e) = true
    · obtain ⟨c', s', e1, e2, e3⟩ := of_total ((x.take e).drop i) (by simp; omega) (fun b h => hb b (List.mem_of_mem_take (List.mem_of_mem_drop h))) k' (by omega)
      rw [if_pos hg, if_pos (by omega), if_pos (by omega), if_pos (by omega), Int.toNat_natCast, Int.toNat_natCast, e1, Option.bind_some]
      rw [toksA, if_pos hg, if_neg hacc, refL]
      cases hw : rdWord ((x.take e).drop i) with
      | none =>
        have := e3 hw
        simp only [this]
        rfl
      | some w =>
        have h2 := e2 w hw
        have hk2 : wordB c' s' = okB w := by rw [← h2]; rfl
        simp only [hk2, h2]
        by_cases hok : okB w = true
        · rw [if_pos hok, if_pos hok, if_pos (by omega)]
          have := h0 e (l ++ [w]) k' (by omega) (by omega) (by simp; omega) (by simp [ho, hok]) (by omega)
          rw [this, drop_rd x e hlt]
          rw [show toks (rd x e :: x.drop (e + 1)) = toksA (x.drop (e + 1)) [] by unfold toks; rw [toksA, if_pos hg, if_pos rfl]]
        · rw [if_neg hok, if_neg hok]
    · rw [if_neg hg, w64 ((e : Int) + 1) (by omega) (by omega), ee, ih.2 i (e + 1) l k' (by omega) (by omega) hlt hl ho (by omega), take_drop_snoc x i e (by omega) hlt]
      rw [toksA, if_neg hg]

theorem refread_total (x : List Int) (hx : x.length ≤ 2000) (hb : ∀ b ∈ x, 0 ≤ b ∧ b ≤ 255) (k : Nat) (hk : 13100 ≤ k) : compositorref13_Read.f k x = some (readF x) := by
  have h := (ref_loops x hx hb x.length).1 0 [] k (by omega) (by omega) (by simp) rfl (by omega)
  rw [show ((0 : Nat) : Int) = 0 from rfl, List.drop_zero, ref_fin] at h
  exact h

end Go.Proofs.Ytnhalfkkamepgaa.Q
