/- ShipSize over plain lists. -/
import Derived.Test.YthlhfnbaihdjkaaQPb
import Derived.Test.YthlhfnbaihdjkaaQx11
namespace Go.Proofs.Ythlhfnbaihdjkaa.Q
open Go.RowKit Go.Proofs.YthlhfnbaihdjkaaW.PrintWords Go.Proofs.YthlhfnbaihdjkaaW.PrintLast
set_option linter.unusedVariables false
set_option linter.unusedSimpArgs false
theorem sizeW_drop (l : List S41) (j : Nat) (h : j < l.length) : sizeW (l.drop j) = 12 + 5 * l[j].f4.length + sizeW (l.drop (j + 1)) := by
  rw [List.drop_eq_getElem_cons h, sizeW]
theorem size_l0 (l : List S41) (h : l.length ≤ 210) (hi : ∀ r ∈ l, r.f4.length ≤ 700) (r : Bool) : ∀ (d j n : Nat), j + d = l.length → n ≤ 3 + 4000 * j →
    Ev (fun k => ((ship_Write.f l).bind fun bt388 => ((ship_Report.f k l).bind fun bt392 => (compositorlaw23_ShipSize.l1 k l true ((n + sizeW (l.drop j) : Nat) : Int) bt388.1 bt388.2 bt392.1 bt392.2 0 0)))) r → Ev (fun k => compositorlaw23_ShipSize.l0 k l true (n : Int) (j : Int)) r := by
  intro d
  induction d with
  | zero =>
    intro j n hj hn hr
    rw [List.drop_eq_nil_of_le (by omega), sizeW, Nat.add_zero] at hr
    refine Ev.step (fun k => ?_) hr
    show compositorlaw23_ShipSize.l0 (k + 1) _ _ _ _ = _
    rw [compositorlaw23_ShipSize.l0, if_neg (by omega)]
  | succ d ih =>
    intro j n hj hn hr
    have hlt : j < l.length := by omega
    have hl := hi _ (List.getElem_mem hlt)
    rw [sizeW_drop l j hlt, show n + (12 + 5 * l[j].f4.length + sizeW (l.drop (j + 1))) = (n + 12 + 5 * l[j].f4.length) + sizeW (l.drop (j + 1)) from by omega] at hr
    refine Ev.step (fun k => ?_) (ih (j + 1) (n + 12 + 5 * l[j].f4.length) (by omega) (by omega) hr)
    show compositorlaw23_ShipSize.l0 (k + 1) _ _ _ _ = _
    rw [compositorlaw23_ShipSize.l0, if_pos (by omega), if_pos (by omega), rd_T41_eq l j hlt, wsucc j (by omega), w64 (x := (n : Int) + 12) (by omega) (by omega), w64 (x := 5 * (l[j].f4.length : Int)) (by omega) (by omega), w64 (by omega) (by omega)]
    congr 1
/-- How many of the first rows are too long. -/
def cnt : List S41 → Nat
  | [] => 0
  | r :: l => (if r.f3 < 0 then 1 else 0) + cnt l
theorem overL_cnt : ∀ (l : List S41) (i : Nat), (overL l i).length = cnt l
  | [], _ => rfl
  | r :: l, i => by
    have := overL_cnt l (i + 1)
    unfold overL cnt
    split <;> simp [this] <;> omega
theorem both_len : ∀ (l : List S41) (i : Nat), (overL l i).length + (underL l i).length ≤ l.length
  | [], _ => Nat.le_refl _
  | r :: l, i => by
    have := both_len l (i + 1)
    unfold overL underL
    split
    · rename_i h; rw [if_neg (by omega)]; simp; omega
    · split <;> simp <;> omega
theorem size_l1 (l : List S41) (h : l.length ≤ 210) (b : List Int) (e : Int) (o u : List Int) (n : Int) (hn : e = 0 → (b.length : Int) = n) (hn0 : e ≠ 0 → b.length = 0) (ho : o = overL l 0) (hu : u = underL l 0) : ∀ (d j c : Nat), j + d = l.length → c ≤ j → c ≤ o.length → o.drop c = overL (l.drop j) j →
    Ev (fun k => compositorlaw23_ShipSize.l1 k l true n b e o u (c : Int) (j : Int)) true := by
  have hb := both_len l 0
  rw [← ho, ← hu] at hb
  intro d
  induction d with
  | zero =>
    intro j c hj hc hco0 hd
    rw [List.drop_eq_nil_of_le (by omega : l.length ≤ j), overL] at hd
    have hcl : o.length ≤ c := by
      have := congrArg List.length hd
      simp at this
      omega
    have hco : (c : Int) = (o.length : Int) := by omega
    refine Ev.step (f := fun _ => some true) (fun k => ?_) (Ev.now _)
    show compositorlaw23_ShipSize.l1 (k + 1) _ _ _ _ _ _ _ _ _ = _
    rw [compositorlaw23_ShipSize.l1, if_neg (by omega), if_pos rfl]
    have hw : wrap64 ((o.length : Int) + (u.length : Int)) = (o.length : Int) + (u.length : Int) := w64 (by omega) (by omega)
    by_cases he : e = 0
    · rw [if_pos he, if_pos (hn he), if_pos hco, hw, decide_eq_true (by omega)]
    · rw [if_neg he, if_pos (by have := hn0 he; omega), if_pos hco, hw, decide_eq_true (by omega)]
  | succ d ih =>
    intro j c hj hc hco0 hd
    have hlt : j < l.length := by omega
    rw [List.drop_eq_getElem_cons hlt, overL] at hd
    by_cases h1 : l[j].f3 < 0
    · rw [if_pos h1] at hd
      have hcl : c < o.length := by
        rcases Nat.lt_or_ge c o.length with h | h
        · exact h
        · rw [List.drop_eq_nil_of_le h] at hd; cases hd
      rw [List.drop_eq_getElem_cons hcl] at hd
      injection hd with hd1 hd2
      refine Ev.step (fun k => ?_) (ih (j + 1) (c + 1) (by omega) (by omega) hcl hd2)
      show compositorlaw23_ShipSize.l1 (k + 1) _ _ _ _ _ _ _ _ _ = _
      have hrd : rd o (c : Int) = ((j + 1 : Nat) : Int) := by
        rw [← hd1]
        simp [rd, List.getD_eq_getElem?_getD, List.getElem?_eq_getElem hcl]
      rw [compositorlaw23_ShipSize.l1, if_pos (by omega), if_pos (by omega), rd_T41_eq l j hlt, if_pos h1, w64 (x := (j : Int) - (c : Int)) (by omega) (by omega), if_neg (by omega), if_neg (by omega), if_pos (by omega), if_pos (by omega), hrd, wsucc j (by omega), if_pos rfl, wsucc c (by omega)]
    · rw [if_neg h1] at hd
      refine Ev.step (fun k => ?_) (ih (j + 1) c (by omega) (by omega) hco0 hd)
      show compositorlaw23_ShipSize.l1 (k + 1) _ _ _ _ _ _ _ _ _ = _
      rw [compositorlaw23_ShipSize.l1, if_pos (by omega), if_pos (by omega), rd_T41_eq l j hlt, if_neg h1, wsucc j (by omega)]
theorem shipsize_pure (l : List S41) : ∃ k, compositorlaw23_ShipSize.f k l = some true := by
  refine Ev.rounds (g := fun k => compositorlaw23_ShipSize.f k l) ?_
  unfold compositorlaw23_ShipSize.f
  refine Ev.bind awake_ev ?_
  refine Ev.bind (few_ev l) ?_
  cases hf : fewB l with
  | false => exact Ev.congr (f := fun _ => some true) (fun k => by rw [if_neg (by decide)]) (Ev.now _)
  | true =>
    obtain ⟨h1, h2⟩ := few_len hf
    refine Ev.congr (fun k => if_pos rfl) ?_
    refine size_l0 l h1 h2 true l.length 0 3 (by omega) (by omega) ?_
    rw [List.drop_zero, write_f]
    simp only [Option.bind_some]
    refine Ev.bind (report_ev l h1) ?_
    refine size_l1 l h1 _ _ _ _ _ ?_ ?_ rfl rfl l.length 0 0 (by omega) (Nat.le_refl _) (Nat.zero_le _) (by rw [List.drop_zero, List.drop_zero])
    · intro he
      unfold writeF at he ⊢
      split
      · rw [bytesW_len]
      · rename_i hc; rw [if_neg hc] at he; cases he
    · intro he
      unfold writeF at he ⊢
      split
      · rename_i hc; rw [if_pos hc] at he; exact absurd rfl he
      · rfl
end Go.Proofs.Ythlhfnbaihdjkaa.Q
