import Derived.Test.YtnhalfkkamepgaaQx5
import Derived.Test.YtnhalfkkamepgaaQPd
namespace Go.Proofs.Ytnhalfkkamepgaa.Q
open Go.RowKit Go.Proofs.YtnhalfkkamepgaaW.PrintWords Go.Proofs.YtnhalfkkamepgaaW.PrintLast
set_option linter.unusedVariables false
set_option linter.unusedSimpArgs false

/-- A word's bytes, each code asked whether a soft hyphen is ahead of it. -/
def wb2 : List Int → Nat → List Int → List Int
  | [], _, _ => []
  | c :: cs, k, s => (if (k : Int) ∈ s then [194, 173] else []) ++ (c % 256) :: wb2 cs (k + 1) s

theorem wb2_congr : ∀ (cs : List Int) (k : Nat) (s s' : List Int), (∀ j : Nat, k ≤ j → ((j : Int) ∈ s ↔ (j : Int) ∈ s')) → wb2 cs k s = wb2 cs k s'
  | [], _, _, _, _ => rfl
  | c :: cs, k, s, s', h => by
    have ih := wb2_congr cs (k + 1) s s' (fun j hj => h j (by omega))
    have h0 := h k (Nat.le_refl _)
    simp only [wb2, ih]
    by_cases hm : (k : Int) ∈ s
    · rw [if_pos hm, if_pos (h0.1 hm)]
    · rw [if_neg hm, if_neg (fun x => hm (h0.2 x))]

theorem softB_gt (n : Int) : ∀ (s : List Int) (last : Int), softB n last s = true → ∀ y ∈ s, last < y
  | [], _, _, y, h => by simp at h
  | x :: xs, last, hs, y, h => by
    have hh := softB_head hs
    rcases List.mem_cons.1 h with rfl | h
    · exact hh.1
    · have := softB_gt n xs x hh.2.2 y h; omega

theorem wb2_eq : ∀ (cs : List Int) (k : Nat) (s : List Int) (n last : Int), softB n last s = true → (∀ x, s.head? = some x → (k : Int) ≤ x) → wbytes cs k s = wb2 cs k s
  | [], _, _, _, _, _, _ => rfl
  | c :: cs, k, [], n, last, h, h0 => by
    have ih := wb2_eq cs (k + 1) [] n last rfl (by simp)
    simp [wbytes, wb2, ih]
  | c :: cs, k, x :: xs, n, last, h, h0 => by
    have hh := softB_head h
    have hx := h0 x rfl
    have hgt := softB_gt n xs x hh.2.2
    by_cases hk : x = (k : Int)
    · have ih := wb2_eq cs (k + 1) xs n x hh.2.2 (by
        intro y hy
        have : y ∈ xs := List.mem_of_mem_head? (by simpa using hy)
        have := hgt y this
        omega)
      have hm : (k : Int) ∈ x :: xs := by rw [hk]; exact List.mem_cons_self
      have hcg := wb2_congr cs (k + 1) (x :: xs) xs (by
        intro j hj
        rw [List.mem_cons]
        exact ⟨fun h => h.resolve_left (by omega), fun h => .inr h⟩)
      simp only [wbytes, wb2]
      rw [if_pos (by simp [hk]), if_pos hm, List.tail_cons, ih, hcg]
      rfl
    · have ih := wb2_eq cs (k + 1) (x :: xs) n last h (by
        intro y hy
        simp at hy
        omega)
      have hm : ¬ (k : Int) ∈ x :: xs := by
        rw [List.mem_cons]
        rintro (h1 | h1)
        · exact hk h1.symm
        · have := hgt _ h1; omega
      simp only [wbytes, wb2]
      rw [if_neg (by simpa using hk), if_neg hm, ih]
      rfl

theorem bytes_l1 (c s : List Int) (hl : s.length ≤ 1000000) (R i : Nat) (hi : i < c.length) (hc : c.length ≤ 1000000) : ∀ (n j : Nat) (out : List Int) (last : Int), s.length - j = n → j ≤ s.length → out.length ≤ 100000000000 → softB (c.length : Int) last (s.drop j) = true →
    compositorref13_bytes.l1 (n + R + 1) out (i : Int) (j : Int) c s = compositorref13_bytes.l0 R ((out ++ (if (i : Int) ∈ s.drop j then [194, 173] else [])) ++ [rd c i % 256]) ((i + 1 : Nat) : Int) c s := by
  intro n
  induction n with
  | zero =>
    intro j out last hn hj ho hs
    have e : j = s.length := by omega
    have ei : ((i : Int) + 1) = ((i + 1 : Nat) : Int) := by omega
    rw [compositorref13_bytes.l1, if_neg (by omega), if_pos (by omega), if_pos (by omega), if_pos (by omega), w64 ((i : Int) + 1) (by omega) (by omega), ei, e, List.drop_length, Nat.zero_add]
    simp
  | succ n ih =>
    intro j out last hn hj ho hs
    have hlt : j < s.length := by omega
    have ej : ((j : Int) + 1) = ((j + 1 : Nat) : Int) := by omega
    rw [drop_rd s j hlt] at hs ⊢
    have hh := softB_head hs
    have hgt := softB_gt _ _ _ hh.2.2
    rw [show n + 1 + R + 1 = (n + R + 1) + 1 by omega, compositorref13_bytes.l1, if_pos (by omega), if_pos (by omega)]
    by_cases h1 : rd s j = (i : Int)
    · rw [if_pos h1, Option.bind_some, if_pos (by simp; omega), w64 ((j : Int) + 1) (by omega) (by omega), ej]
      have hno : ∀ (m : Nat) (j' : Nat) (o : List Int), s.length - j' = m → j' ≤ s.length → o.length ≤ 100000000100 → (∀ y ∈ s.drop j', (i : Int) < y) → compositorref13_bytes.l1 (m + R + 1) o (i : Int) (j' : Int) c s = compositorref13_bytes.l0 R (o ++ [rd c i % 256]) ((i + 1 : Nat) : Int) c s := by
        intro m
        induction m with
        | zero =>
          intro j' o hm hj' ho' _
          have ei : ((i : Int) + 1) = ((i + 1 : Nat) : Int) := by omega
          rw [compositorref13_bytes.l1, if_neg (by omega), if_pos (by omega), if_pos (by omega), if_pos (by omega), w64 ((i : Int) + 1) (by omega) (by omega), ei, Nat.zero_add]
        | succ m ih2 =>
          intro j' o hm hj' ho' hy
          have hlt' : j' < s.length := by omega
          have ej' : ((j' : Int) + 1) = ((j' + 1 : Nat) : Int) := by omega
          rw [drop_rd s j' hlt'] at hy
          have hy0 := hy (rd s j') List.mem_cons_self
          rw [show m + 1 + R + 1 = (m + R + 1) + 1 by omega, compositorref13_bytes.l1, if_pos (by omega), if_pos (by omega), if_neg (by omega), w64 ((j' : Int) + 1) (by omega) (by omega), ej']
          exact ih2 (j' + 1) o (by omega) hlt' ho' (fun y h => hy y (List.mem_cons_of_mem _ h))
      rw [hno n (j + 1) (out ++ [194, 173]) (by omega) hlt (by simp; omega) (fun y hy => by have := hgt y hy; omega)]
      rw [if_pos (by rw [h1]; exact List.mem_cons_self)]
    · rw [if_neg h1, w64 ((j : Int) + 1) (by omega) (by omega), ej, ih (j + 1) out (rd s j) (by omega) hlt ho hh.2.2]
      have : ((i : Int) ∈ rd s j :: s.drop (j + 1)) ↔ ((i : Int) ∈ s.drop (j + 1)) := by
        rw [List.mem_cons]
        exact ⟨fun h => h.resolve_left (fun h => h1 h.symm), fun h => .inr h⟩
      by_cases hm : (i : Int) ∈ s.drop (j + 1)
      · rw [if_pos hm, if_pos (this.2 hm)]
      · rw [if_neg hm, if_neg (fun h => hm (this.1 h))]

theorem bytes_l0 (c s : List Int) (hs1 : s.length ≤ 1000000) (hc1 : c.length ≤ 1000000) (hs : softB (c.length : Int) 0 s = true) : ∀ (n i : Nat) (out : List Int), c.length - i = n → i ≤ c.length → out.length ≤ 3 * i →
    compositorref13_bytes.l0 (n * (s.length + 2) + 1) out (i : Int) c s = some (out ++ wb2 (c.drop i) i s) := by
  intro n
  induction n with
  | zero =>
    intro i out hn hi ho
    have e : i = c.length := by omega
    rw [Nat.zero_mul, Nat.zero_add, compositorref13_bytes.l0, if_neg (by omega), e, List.drop_length]
    simp [wb2]
  | succ n ih =>
    intro i out hn hi ho
    have hlt : i < c.length := by omega
    have ek : (n + 1) * (s.length + 2) + 1 = (s.length + (n * (s.length + 2) + 1) + 1) + 1 := by rw [Nat.succ_mul]; omega
    have hb := bytes_l1 c s hs1 (n * (s.length + 2) + 1) i hlt hc1 s.length 0 out 0 (by omega) (by omega) (by omega) (by simpa using hs)
    rw [show ((0 : Nat) : Int) = 0 from rfl, List.drop_zero] at hb
    rw [ek, compositorref13_bytes.l0, if_pos (by omega), hb, ih (i + 1) _ (by omega) hlt (by
      by_cases hm : (i : Int) ∈ s
      · rw [if_pos hm]; simp; omega
      · rw [if_neg hm]; simp; omega), drop_rd c i hlt]
    simp [wb2]

theorem bytes_total (w : S36) (h : okB w = true) (h0 : w.f0.length ≤ 100) (h1 : w.f1.length ≤ 100) (k : Nat) (hk : 10201 ≤ k) : compositorref13_bytes.f k w.f0 w.f1 = some (wb w) := by
  have hp := okB_parts h
  have hb := bytes_l0 w.f0 w.f1 (by omega) (by omega) hp.1 w.f0.length 0 [] (by omega) (by omega) (by simp)
  rw [show ((0 : Nat) : Int) = 0 from rfl, List.drop_zero, List.nil_append, ← wb2_eq w.f0 0 w.f1 _ 0 hp.1 (ok_head h)] at hb
  have hm : w.f0.length * (w.f1.length + 2) ≤ 100 * 102 := Nat.mul_le_mul h0 (by omega)
  exact at_rounds (g := fun k => compositorref13_bytes.f k w.f0 w.f1) (compositorref13_bytes.mono w.f0 w.f1) (k := w.f0.length * (w.f1.length + 2) + 1) (by omega) hb

theorem write_l0 (l : List S36) (hl : l.length ≤ 110) (hok : l.all okB = true) (ha : ∀ w ∈ l, w.f0.length ≤ 100 ∧ w.f1.length ≤ 100) (R : Nat) (hR : 10201 ≤ R) : ∀ (n i : Nat) (out : List Int), l.length - i = n → i ≤ l.length → out.length ≤ 400 * i →
    compositorref13_Write.l0 (n + R + 1) l out (i : Int) = some (out ++ writeL (l.drop i) i, 0) := by
  intro n
  induction n with
  | zero =>
    intro i out hn hi ho
    have e : i = l.length := by omega
    rw [compositorref13_Write.l0, if_neg (by omega), e, List.drop_length]
    simp [writeL]
  | succ n ih =>
    intro i out hn hi ho
    have hlt : i < l.length := by omega
    have ei : ((i : Int) + 1) = ((i + 1 : Nat) : Int) := by omega
    have hmem : rd_T36 l i ∈ l := by rw [rd_T36_eq l i hlt]; exact List.getElem_mem hlt
    have hw := ha _ hmem
    have hwo := (List.all_eq_true.1 hok) _ hmem
    have hlen := word_len hwo
    have hlen' : (wb (rd_T36 l i)).length = (rd_T36 l i).f0.length + 2 * (rd_T36 l i).f1.length := hlen
    have hbt := bytes_total _ hwo hw.1 hw.2 (n + R + 1) (by omega)
    rw [show n + 1 + R + 1 = (n + R + 1) + 1 by omega, compositorref13_Write.l0, if_pos (by omega), drop_rd36 l i hlt]
    by_cases hz : (i : Int) > 0
    · rw [if_pos hz, if_pos (by omega), Option.bind_some, if_pos (by omega), hbt, Option.bind_some, if_pos (by simp; omega), w64 ((i : Int) + 1) (by omega) (by omega), ei]
      rw [ih (i + 1) _ (by omega) hlt (by simp; omega)]
      have : 0 < i := by omega
      simp [writeL, this, wb]
    · rw [if_neg hz, if_pos (by omega), hbt, Option.bind_some, if_pos (by omega), w64 ((i : Int) + 1) (by omega) (by omega), ei]
      rw [ih (i + 1) _ (by omega) hlt (by simp; omega)]
      have : ¬ 0 < i := by omega
      simp [writeL, this, wb]

theorem refwrite_total (l : List S36) (hf : fewB l = true) (k : Nat) (hk : 10400 ≤ k) : compositorref13_Write.f k l = text_Write.f l := by
  have hs := few_small hf
  unfold compositorref13_Write.f
  rw [check_total l 100 (by omega) (by omega) hs.2 k (by omega), Option.bind_some]
  by_cases hc : checkB l = true
  · rw [if_pos hc, write_yes_f hc]
    have hp := checkB_parts hc
    have hw := write_l0 l hs.1 hp.1 hs.2 10201 (by omega) l.length 0 [] (by omega) (by omega) (by simp)
    rw [show ((0 : Nat) : Int) = 0 from rfl, List.drop_zero, List.nil_append] at hw
    exact at_rounds (g := fun k => compositorref13_Write.l0 k l [] 0) (fun k => compositorref13_Write.mono_l k l [] 0) (k := l.length + 10201 + 1) (by omega) hw
  · rw [if_neg hc, write_no_f hc]

theorem writes_pure (l : List S36) : ∃ k, compositorlaw13_TextWrites.f k l = some true := by
  obtain ⟨k, hk⟩ : ∃ k, k = 10500 := ⟨_, rfl⟩
  have ha : compositorlaw13_awake.f k = some true := by rw [hk]; exact awake_up 10492
  have hf0 : compositorref13_Few.f k l = some (fewB l) := by rw [hk]; exact few_total l 10389
  refine ⟨k, ?_⟩
  unfold compositorlaw13_TextWrites.f
  rw [ha, hf0]
  simp only [Option.bind_some]
  by_cases hf : fewB l = true
  · have hs := few_small hf
    rw [if_pos hf, refwrite_total l hf k (by omega)]
    have hct := check_total l 100 (by omega) (by omega) hs.2 k (by omega)
    by_cases hc : checkB l = true
    · rw [write_yes_f hc]
      simp [text_Check.f, hct, hc]
    · rw [write_no_f hc]
      simp [text_Check.f, hct, hc]
  · rw [if_neg hf]

end Go.Proofs.Ytnhalfkkamepgaa.Q
