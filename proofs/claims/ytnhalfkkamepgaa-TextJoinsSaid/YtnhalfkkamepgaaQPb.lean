/- Words are read as they were written. -/
import Derived.Test.YtnhalfkkamepgaaQPa
import Derived.Test.YtnhalfkkamepgaaQRead
namespace Go.Proofs.Ytnhalfkkamepgaa.Q
open Go.RowKit Go.Proofs.YtnhalfkkamepgaaW.PrintWords Go.Proofs.YtnhalfkkamepgaaW.PrintLast
set_option linter.unusedVariables false
set_option linter.unusedSimpArgs false

theorem takeS_code (st : TS) (c : Int) (h : st.half = false) (hc : c ≠ 194) : takeS st c = { st with codes := st.codes ++ [c] } := by
  unfold takeS; rw [if_neg (by simp [h]), if_neg hc]
theorem takeS_soft (st : TS) (h : st.half = false) (hb : st.bad = false) : takeS (takeS st 194) 173 = ⟨st.codes, st.soft ++ [(st.codes.length : Int)], false, false⟩ := by
  simp [takeS, h, hb]

theorem fold_wbytes : ∀ (cs : List Int) (k : Nat) (soft : List Int) (last : Int) (st : TS), (∀ c ∈ cs, 33 ≤ c ∧ c ≤ 126) → st.half = false → st.bad = false → st.codes.length = k → softB ((k + cs.length : Nat) : Int) last soft = true → (∀ x, soft.head? = some x → (k : Int) ≤ x) →
    (wbytes cs k soft).foldl takeS st = ⟨st.codes ++ cs, st.soft ++ soft, false, false⟩
  | [], k, [], _, st, _, h, hb, _, _, _ => by obtain ⟨a, b, c, d⟩ := st; simp only at h hb; subst h hb; simp [wbytes]
  | [], k, x :: xs, last, st, _, _, _, _, h, h0 => by
    have := softB_head h
    have := h0 x rfl
    simp at *
    omega
  | c :: cs, k, [], last, st, hc, hh, hb, hk, h, h0 => by
    have hc1 := hc c (by simp)
    have e : c % 256 = c := by omega
    have ih := fold_wbytes cs (k + 1) [] last { st with codes := st.codes ++ [c] } (fun c h => hc c (by simp [h])) hh hb (by simp [hk]) rfl (by simp)
    simp only [wbytes, List.head?_nil, reduceCtorEq, if_false, List.foldl_cons, e]
    rw [takeS_code st c hh (by omega), ih]
    simp
  | c :: cs, k, x :: xs, last, st, hc, hh, hb, hk, h, h0 => by
    have hs := softB_head h
    have hx := h0 x rfl
    have hc1 := hc c (by simp)
    have ec : c % 256 = c := by omega
    have e : ((k + (c :: cs).length : Nat) : Int) = ((k + 1 + cs.length : Nat) : Int) := by simp; omega
    by_cases hxk : x = (k : Int)
    · have ih := fold_wbytes cs (k + 1) xs x ⟨st.codes ++ [c], st.soft ++ [x], false, false⟩ (fun c h => hc c (by simp [h])) rfl rfl (by simp [hk]) (by rw [← e]; exact hs.2.2) (by
        intro y hy
        cases xs with
        | nil => simp at hy
        | cons z zs =>
          have := softB_head hs.2.2
          simp at hy
          omega)
      simp only [wbytes, List.head?_cons, hxk, List.tail_cons, if_true, List.foldl_cons, ec]
      rw [takeS_soft st hh hb, takeS_code _ c rfl (by omega), hk, ← hxk]
      simp only
      rw [ih]
      simp
    · have ih := fold_wbytes cs (k + 1) (x :: xs) last { st with codes := st.codes ++ [c] } (fun c h => hc c (by simp [h])) hh hb (by simp [hk]) (by rw [← e]; exact h) (by
        intro y hy
        simp at hy
        omega)
      have hne : ¬ (some x = some (k : Int)) := by simpa using hxk
      simp only [wbytes, List.head?_cons, hne, if_false, List.foldl_cons, ec]
      rw [takeS_code st c hh (by omega), ih]
      simp

theorem wbytes_plain : ∀ (cs : List Int) (k : Nat) (soft : List Int), (∀ c ∈ cs, 33 ≤ c ∧ c ≤ 126) → ∀ b ∈ wbytes cs k soft, gapB b = false ∧ 0 ≤ b ∧ b ≤ 255
  | [], _, _, _, b, h => by simp [wbytes] at h
  | c :: cs, k, soft, hc, b, h => by
    have hc1 := hc c (by simp)
    have ec : c % 256 = c := by omega
    have key : ∀ s, b ∈ wbytes cs (k + 1) s → gapB b = false ∧ 0 ≤ b ∧ b ≤ 255 := fun s hs => wbytes_plain cs (k + 1) s (fun c h => hc c (by simp [h])) b hs
    have hcc : b = c → gapB b = false ∧ 0 ≤ b ∧ b ≤ 255 := by
      rintro rfl
      refine ⟨?_, by omega, by omega⟩
      unfold gapB
      rw [if_neg (by omega), if_neg (by omega), if_neg (by omega)]
      simp; omega
    simp only [wbytes, ec] at h
    split at h
    · rcases List.mem_cons.1 h with rfl | h
      · decide
      · rcases List.mem_cons.1 h with rfl | h
        · decide
        · rcases List.mem_cons.1 h with h | h
          · exact hcc h
          · exact key _ h
    · rcases List.mem_cons.1 h with h | h
      · exact hcc h
      · exact key _ h

/-- A word's bytes. -/
def wb (w : S36) : List Int := wbytes w.f0 0 w.f1

theorem okB_parts {w : S36} (h : okB w = true) : softB (w.f0.length : Int) 0 w.f1 = true ∧ 1 ≤ w.f0.length ∧ w.f0.length ≤ 60 ∧ ∀ c ∈ w.f0, 33 ≤ c ∧ c ≤ 126 := by
  unfold okB wordB at h
  simp only [Bool.and_eq_true, decide_eq_true_eq, Bool.not_eq_true', List.any_eq_false] at h
  refine ⟨h.1, h.2.1, h.2.2.1, fun c hc => ?_⟩
  have := h.2.2.2 c hc
  unfold badB at this
  by_cases h1 : c < 33
  · simp [h1] at this
  · simp [h1] at this; omega
theorem ok_head {w : S36} (h : okB w = true) : ∀ x, w.f1.head? = some x → ((0 : Nat) : Int) ≤ x := by
  intro x hx
  have h1 := (okB_parts h).1
  cases hw : w.f1 with
  | nil => rw [hw] at hx; simp at hx
  | cons y ys =>
    rw [hw] at hx h1
    have := softB_head h1
    simp at hx
    omega
theorem rdWord_wb {w : S36} (h : okB w = true) : rdWord (wb w) = some w := by
  have hp := okB_parts h
  have := fold_wbytes w.f0 0 w.f1 0 ts0 hp.2.2.2 rfl rfl rfl (by simpa using hp.1) (ok_head h)
  unfold rdWord wb
  rw [this]
  simp [ts0]
theorem wb_ne {w : S36} (h : okB w = true) : wb w ≠ [] := by
  have hl := word_len h
  have hp := okB_parts h
  intro e
  have e' : wbytes w.f0 0 w.f1 = [] := e
  rw [e'] at hl
  simp only [List.length_nil] at hl
  omega
theorem wb_plain {w : S36} (h : okB w = true) : ∀ b ∈ wb w, gapB b = false ∧ 0 ≤ b ∧ b ≤ 255 := wbytes_plain w.f0 0 w.f1 (okB_parts h).2.2.2

theorem toks_gap (b : Int) (hb : gapB b = true) (r acc : List Int) (ha : acc ≠ []) : toksA (b :: r) acc = acc :: toks r := by
  rw [toksA, if_pos hb, if_neg ha]; rfl
theorem toks_word {t : List Int} (ht : ∀ c ∈ t, gapB c = false) (r : List Int) : toks (t ++ r) = toksA r t := by
  rw [toks, toksA_plain t r [] ht]; rfl
theorem toksA_write : ∀ (xs : List S36) (i : Nat) (acc : List Int), acc ≠ [] → xs.all okB = true → toksA (writeL xs (i + 1)) acc = acc :: xs.map wb
  | [], i, acc, h, _ => by simp [writeL, toksA, h]
  | x :: xs, i, acc, h, hx => by
    simp only [List.all_cons, Bool.and_eq_true] at hx
    have ih := toksA_write xs (i + 1) (wb x) (wb_ne hx.1) hx.2
    simp only [writeL, Nat.zero_lt_succ, if_true, List.cons_append, List.nil_append]
    rw [toks_gap 32 (by decide) _ _ h]
    have := toks_word (fun c hc => (wb_plain hx.1 c hc).1) (writeL xs (i + 1 + 1))
    unfold wb at this ih
    rw [this, ih]
    rfl
theorem toks_write (l : List S36) (h : l.all okB = true) : toks (writeL l 0) = l.map wb := by
  cases l with
  | nil => rfl
  | cons x xs =>
    simp only [List.all_cons, Bool.and_eq_true] at h
    have ih := toksA_write xs 0 (wb x) (wb_ne h.1) h.2
    simp only [writeL, Nat.lt_irrefl, if_false, List.nil_append]
    have := toks_word (fun c hc => (wb_plain h.1 c hc).1) (writeL xs (0 + 1))
    unfold wb at this ih
    rw [this, ih]
    rfl
theorem readL_wb : ∀ (l out : List S36), l.all okB = true → out.length + l.length ≤ 101 → readL (l.map wb) out = some (out ++ l)
  | [], out, _, _ => by simp [readL]
  | x :: xs, out, h, hl => by
    simp only [List.all_cons, Bool.and_eq_true] at h
    simp only [List.length_cons] at hl
    rw [List.map_cons, readL_yes _ _ _ x (rdWord_wb h.1) (by omega), readL_wb xs (out ++ [x]) h.2 (by simp; omega)]
    simp
theorem checkB_parts {l : List S36} (h : checkB l = true) : l.all okB = true ∧ 1 ≤ l.length ∧ l.length ≤ 100 := by
  simp only [checkB, Bool.and_eq_true, decide_eq_true_eq] at h
  exact ⟨h.1, h.2.1, h.2.2.1⟩
theorem readF_write (l : List S36) (h : checkB l = true) : readF (writeL l 0) = (l, 0) := by
  have hp := checkB_parts h
  unfold readF
  rw [toks_write l hp.1, readL_wb l [] hp.1 (by simp; omega)]
  simp [h]

theorem softB_len (n : Int) : ∀ (soft : List Int) (last : Int), last < n → softB n last soft = true → (soft.length : Int) ≤ n - last - 1
  | [], last, h, _ => by simp; omega
  | x :: xs, last, h, hs => by
    have hh := softB_head hs
    have := softB_len n xs x hh.2.1 hh.2.2
    simp only [List.length_cons]
    omega
theorem ok_soft {w : S36} (h : okB w = true) : w.f1.length ≤ 60 := by
  have hp := okB_parts h
  have := softB_len (w.f0.length : Int) w.f1 0 (by omega) hp.1
  omega
theorem ok_wide : ∀ (l : List S36), l.all okB = true → wide l ≤ 180 * l.length
  | [], _ => by simp [wide]
  | x :: xs, h => by
    simp only [List.all_cons, Bool.and_eq_true] at h
    have := ok_wide xs h.2
    have h1 := ok_soft h.1
    have h2 := okB_parts h.1
    simp only [wide, List.map_cons, List.sum_cons, List.length_cons] at this ⊢
    omega
theorem write_in : ∀ (l : List S36) (i : Nat), l.all okB = true → ∀ b ∈ writeL l i, 0 ≤ b ∧ b ≤ 255
  | [], _, _, b, h => by simp [writeL] at h
  | x :: xs, i, ha, b, h => by
    simp only [List.all_cons, Bool.and_eq_true] at ha
    simp only [writeL, List.mem_append] at h
    rcases h with h | h | h
    · split at h
      · simp at h; subst h; decide
      · simp at h
    · exact (wb_plain ha.1 b h).2
    · exact write_in xs (i + 1) ha.2 b h
theorem inB_write (l : List S36) (h : checkB l = true) : inB (writeL l 0) = true := by
  have hp := checkB_parts h
  have h1 := writeL_len0 l hp.1 hp.2.1
  have h2 := ok_wide l hp.1
  simp only [inB, Bool.and_eq_true, decide_eq_true_eq, List.all_eq_true]
  exact ⟨by omega, fun b hb => write_in l 0 hp.1 b hb⟩
theorem read_write (l : List S36) (h : checkB l = true) : text_Read.f (writeL l 0) = some (l, 0) := by
  unfold text_Read.f
  rw [if_pos (inB_write l h), readF_write l h]

theorem readF_ok {s : List Int} {n : List S36} {e : Int} (h : readF s = (n, e)) : (e = 0 ∧ checkB n = true ∧ readL (toks s) [] = some n) ∨ (e = 130 ∧ n = []) := by
  unfold readF at h
  cases hr : readL (toks s) [] with
  | none => rw [hr] at h; simp at h; exact .inr ⟨h.2.symm, h.1⟩
  | some l =>
    rw [hr] at h
    simp only at h
    by_cases hc : checkB l = true
    · rw [if_pos hc] at h; simp at h; obtain ⟨rfl, rfl⟩ := h; exact .inl ⟨rfl, hc, rfl⟩
    · rw [if_neg hc] at h; simp at h; exact .inr ⟨h.2.symm, h.1⟩

theorem inB_of {s : List Int} (hl : s.length ≤ 1000000) (hw : ∀ x ∈ s, (Lit.int .u8 x).wf = true) : inB s = true := by
  simp only [inB, Bool.and_eq_true, decide_eq_true_eq, List.all_eq_true]
  refine ⟨hl, fun b hb => ?_⟩
  have := hw b hb
  simp [Lit.wf, IntKind.min, IntKind.max, IntKind.signed, IntKind.bits] at this
  omega

end Go.Proofs.Ytnhalfkkamepgaa.Q
