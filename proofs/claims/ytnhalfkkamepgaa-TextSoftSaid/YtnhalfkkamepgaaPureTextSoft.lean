import Derived.Test.YtnhalfkkamepgaaQx8
import Derived.Test.YtnhalfkkamepgaaQPc
namespace Go.Proofs.Ytnhalfkkamepgaa.Q
open Go.RowKit Go.Proofs.YtnhalfkkamepgaaW.PrintWords Go.Proofs.YtnhalfkkamepgaaW.PrintLast
set_option linter.unusedVariables false
set_option linter.unusedSimpArgs false

def plainB (b : Int) : Bool := !(b == 194) && !(b == 173)
def strip (w : S36) : S36 := ⟨w.f0, []⟩

theorem wbytes_filter : ∀ (cs : List Int) (k : Nat) (soft : List Int), (∀ c ∈ cs, 33 ≤ c ∧ c ≤ 126) → (wbytes cs k soft).filter plainB = wbytes cs k []
  | [], _, _, _ => rfl
  | c :: cs, k, soft, hc => by
    have hc1 := hc c (by simp)
    have ec : c % 256 = c := by omega
    have ih := fun s => wbytes_filter cs (k + 1) s (fun c h => hc c (by simp [h]))
    have hp : plainB c = true := by unfold plainB; simp; omega
    have e : wbytes (c :: cs) k [] = c :: wbytes cs (k + 1) [] := by simp [wbytes, ec]
    rw [e]
    simp only [wbytes, ec]
    split
    · rw [List.filter_cons_of_neg (by decide), List.filter_cons_of_neg (by decide), List.filter_cons_of_pos hp, ih]
    · rw [List.filter_cons_of_pos hp, ih]
theorem write_filter : ∀ (l : List S36) (i : Nat), l.all okB = true → (writeL l i).filter plainB = writeL (l.map strip) i
  | [], _, _ => rfl
  | x :: xs, i, h => by
    simp only [List.all_cons, Bool.and_eq_true] at h
    have ih := write_filter xs (i + 1) h.2
    simp only [writeL, List.map_cons, List.filter_append, ih]
    rw [wbytes_filter _ _ _ (okB_parts h.1).2.2.2]
    congr 1
    split <;> rfl
theorem strip_ok {w : S36} (h : okB w = true) : okB (strip w) = true := by
  unfold okB wordB at h ⊢
  simp only [Bool.and_eq_true] at h ⊢
  exact ⟨rfl, h.2⟩
theorem strip_check {l : List S36} (h : checkB l = true) : checkB (l.map strip) = true := by
  unfold checkB at h ⊢
  simp only [Bool.and_eq_true, decide_eq_true_eq] at h ⊢
  have e : sumL (l.map strip) = sumL l := by unfold sumL; rw [List.map_map]; rfl
  rw [e, List.length_map]
  refine ⟨?_, h.2⟩
  rw [List.all_eq_true] at *
  intro w hw
  obtain ⟨v, hv, rfl⟩ := List.mem_map.1 hw
  exact strip_ok (h.1 v hv)

theorem soft_l0 (l : List S36) (b : List Int) (R : Nat) (hl : b.length ≤ 1000000) : ∀ (n i : Nat) (acc : List Int), b.length - i = n → i ≤ b.length → acc.length ≤ i →
    compositorlaw13_TextSoft.l0 (n + R + 1) l true b acc (i : Int) = (text_Read.f (acc ++ (b.drop i).filter plainB)).bind fun bt340 => (if bt340.2 = 0 then (compositorlaw13_TextSoft.j1 R l true bt340.1 ((bt340.1.length : Int) != (l.length : Int))) else (compositorlaw13_TextSoft.j1 R l true bt340.1 true))
  | 0, i, acc, hn, hi, ha => by
    have : i = b.length := by omega
    subst this
    rw [compositorlaw13_TextSoft.l0, if_neg (by omega), List.drop_length, List.filter_nil, List.append_nil, Nat.zero_add]
  | n + 1, i, acc, hn, hi, ha => by
    have hlt : i < b.length := by omega
    have e : ((i : Int) + 1) = ((i + 1 : Nat) : Int) := by omega
    rw [show n + 1 + R + 1 = (n + R + 1) + 1 by omega, compositorlaw13_TextSoft.l0, if_pos (by omega), if_pos (by omega), drop_rd b i hlt, w64 ((i : Int) + 1) (by omega) (by omega), e]
    by_cases h1 : rd b i = 194
    · rw [if_pos h1, soft_l0 l b R hl n (i + 1) acc (by omega) hlt (by omega), List.filter_cons_of_neg (by simp [plainB, h1])]
    · rw [if_neg h1]
      by_cases h2 : rd b i = 173
      · rw [if_pos h2, soft_l0 l b R hl n (i + 1) acc (by omega) hlt (by omega), List.filter_cons_of_neg (by simp [plainB, h2])]
      · rw [if_neg h2, if_pos (by omega), soft_l0 l b R hl n (i + 1) (acc ++ [rd b i]) (by omega) hlt (by simp; omega), List.filter_cons_of_pos (by simp [plainB, h1, h2])]
        simp

theorem rd_strip (l : List S36) (i : Nat) (hlt : i < l.length) : rd_T36 (l.map strip) i = strip (rd_T36 l i) := by
  rw [rd_T36_eq _ i (by rw [List.length_map]; exact hlt), rd_T36_eq l i hlt, List.getElem_map]
theorem soft_step (k : Nat) (l m : List S36) (i : Nat) (h1 : i < m.length) (h2 : i < l.length) (hl : l.length ≤ 1000000) (hs : (rd_T36 m i).f1 = []) (hc : (rd_T36 m i).f0 = (rd_T36 l i).f0) (hb : (rd_T36 l i).f0.length ≤ 100) (hk : 101 ≤ k) :
    compositorlaw13_TextSoft.l1 (k + 1) l true m (i : Int) = compositorlaw13_TextSoft.l1 k l true m ((i + 1 : Nat) : Int) := by
  have e : ((i : Int) + 1) = ((i + 1 : Nat) : Int) := by omega
  obtain ⟨r, h3, h4⟩ := same04 (rd_T36 l i).f0 (rd_T36 l i).f0 (by omega) k (by omega)
  have : r = true := h4.2 rfl
  subst this
  rw [compositorlaw13_TextSoft.l1, if_pos (by omega), if_pos (by omega), hs, hc, if_neg (by simp), if_pos (by omega), h3, Option.bind_some, if_pos rfl, w64 ((i : Int) + 1) (by omega) (by omega), e]
theorem soft_l1 (l : List S36) (hl : l.length ≤ 1000000) (hM : ∀ w ∈ l, w.f0.length ≤ 100) (R : Nat) (hR : 101 ≤ R) : ∀ (n i : Nat), l.length - i = n → i ≤ l.length → compositorlaw13_TextSoft.l1 (n + R + 1) l true (l.map strip) (i : Int) = some true := by
  intro n
  induction n with
  | zero =>
    intro i hn hi
    have : i = l.length := by omega
    rw [compositorlaw13_TextSoft.l1, if_neg (by rw [List.length_map]; omega)]
  | succ n ih =>
    intro i hn hi
    have hlt : i < l.length := by omega
    have hw := hM (rd_T36 l i) (by rw [rd_T36_eq l i hlt]; exact List.getElem_mem hlt)
    have hst := rd_strip l i hlt
    rw [show n + 1 + R + 1 = (n + R + 1) + 1 by omega]
    rw [soft_step (n + R + 1) l (l.map strip) i (by rw [List.length_map]; exact hlt) hlt hl (by rw [hst]; rfl) (by rw [hst]; rfl) hw (by omega)]
    exact ih (i + 1) (by omega) hlt

theorem soft_pure (l : List S36) : ∃ k, compositorlaw13_TextSoft.f k l = some true := by
  refine ⟨(writeL l 0).length + 300 + 1, ?_⟩
  unfold compositorlaw13_TextSoft.f
  rw [show (writeL l 0).length + 300 + 1 = ((writeL l 0).length + 293) + 8 by omega, awake_up, show (writeL l 0).length + 293 + 8 = ((writeL l 0).length + 190) + 111 by omega, few_total l]
  simp only [Option.bind_some]
  by_cases hf : fewB l = true
  · rw [if_pos hf]
    have hs := few_small hf
    by_cases hc : checkB l = true
    · rw [write_yes_f hc]
      have hp := checkB_parts hc
      have h1 := writeL_len0 l hp.1 hp.2.1
      have h2 := ok_wide l hp.1
      have hst := strip_check hc
      simp only [Option.bind_some, if_true]
      rw [show (writeL l 0).length + 190 + 111 = (writeL l 0).length + 300 + 1 by omega]
      have := soft_l0 l (writeL l 0) 300 (by omega) (writeL l 0).length 0 [] (by omega) (by omega) (by simp)
      rw [show ((0 : Nat) : Int) = 0 from rfl] at this
      rw [this, List.drop_zero, List.nil_append, write_filter l 0 hp.1, read_write _ hst]
      simp only [Option.bind_some, if_true]
      rw [compositorlaw13_TextSoft.j1, if_neg (by simp)]
      have h3 := soft_l1 l (by omega) (fun w hw => (hs.2 w hw).1) 101 (by omega) l.length 0 (by omega) (by omega)
      exact at_rounds (g := fun k => compositorlaw13_TextSoft.l1 k l true (l.map strip) 0) (fun k => (compositorlaw13_TextSoft.mono_l k).2.2 l true (l.map strip) 0) (k := l.length + 101 + 1) (k' := 299) (by omega) (by simpa using h3)
    · rw [write_no_f hc]
      simp
  · rw [if_neg hf]

end Go.Proofs.Ytnhalfkkamepgaa.Q
