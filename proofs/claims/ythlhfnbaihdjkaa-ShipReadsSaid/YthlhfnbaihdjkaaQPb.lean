/- What the document's functions tell: Check, Put, PutFix, Write: plain lists. -/
import Derived.Test.YthlhfnbaihdjkaaQPs
import Derived.Test.YthlhfnbaihdjkaaQx7
namespace Go.Proofs.Ythlhfnbaihdjkaa.Q
open Go.RowKit Go.Proofs.YthlhfnbaihdjkaaW.PrintWords Go.Proofs.YthlhfnbaihdjkaaW.PrintLast
set_option linter.unusedVariables false
set_option linter.unusedSimpArgs false

theorem word_tells (n : Int) : compositorref23_word.f n = some (wordI n) := by
  unfold compositorref23_word.f wordI
  by_cases h : -2147483648 ≤ n
  · rw [if_pos (by omega), decide_eq_true h, Bool.true_and]
    congr 1
    rw [decide_eq_decide]
    omega
  · rw [if_neg (by omega), decide_eq_false h, Bool.false_and]

theorem check_l1 (x0 : List S41) (i : Int) (a b c d : Int) (items : List S43) (hm : items.length ≤ 600) (r : Bool) (hr : Ev (fun k => compositorref23_Check.l0 k x0 (wrap64 (i + 1))) r) : ∀ (e j : Nat), j + e = items.length →
    Ev (fun k => compositorref23_Check.l1 k x0 i (j : Int) a b c d items) (if (items.drop j).any badItem = true then false else r) := by
  intro e
  induction e with
  | zero =>
    intro j hj
    rw [List.drop_eq_nil_of_le (by omega)]
    refine Ev.step (fun k => ?_) hr
    show compositorref23_Check.l1 (k + 1) _ _ _ _ _ _ _ _ = _
    rw [compositorref23_Check.l1, if_neg (by omega)]
  | succ e ih =>
    intro j hj
    have hlt : j < items.length := by omega
    rw [List.drop_eq_getElem_cons hlt, List.any_cons]
    by_cases h0 : items[j].f0 < 0
    · have hb : badItem items[j] = true := by simp [badItem, h0]
      rw [hb, Bool.true_or, if_pos rfl]
      refine Ev.step (f := fun _ => some false) (fun k => ?_) (Ev.now _)
      show compositorref23_Check.l1 (k + 1) _ _ _ _ _ _ _ _ = _
      rw [compositorref23_Check.l1, if_pos (by omega), if_pos (by omega), rd_T43_eq items j hlt, word_tells, Option.bind_some, if_pos h0]
    · by_cases h1 : items[j].f0 > 255
      · have hb : badItem items[j] = true := by simp [badItem, h1]
        rw [hb, Bool.true_or, if_pos rfl]
        refine Ev.step (f := fun _ => some false) (fun k => ?_) (Ev.now _)
        show compositorref23_Check.l1 (k + 1) _ _ _ _ _ _ _ _ = _
        rw [compositorref23_Check.l1, if_pos (by omega), if_pos (by omega), rd_T43_eq items j hlt, word_tells, Option.bind_some, if_neg h0, if_pos h1]
      · cases h2 : wordI items[j].f1 with
        | false =>
          have hb : badItem items[j] = true := by simp [badItem, h2]
          rw [hb, Bool.true_or, if_pos rfl]
          refine Ev.step (f := fun _ => some false) (fun k => ?_) (Ev.now _)
          show compositorref23_Check.l1 (k + 1) _ _ _ _ _ _ _ _ = _
          rw [compositorref23_Check.l1, if_pos (by omega), if_pos (by omega), rd_T43_eq items j hlt, word_tells, Option.bind_some, if_neg h0, if_neg h1, h2, if_neg (by decide)]
        | true =>
          have hb : badItem items[j] = false := by simp [badItem, h2]; omega
          rw [hb, Bool.false_or]
          refine Ev.step (fun k => ?_) (ih (j + 1) (by omega))
          show compositorref23_Check.l1 (k + 1) _ _ _ _ _ _ _ _ = _
          rw [compositorref23_Check.l1, if_pos (by omega), if_pos (by omega), rd_T43_eq items j hlt, word_tells, Option.bind_some, if_neg h0, if_neg h1, h2, if_pos rfl, wsucc j (by omega)]

def headB (r : S41) : Bool := decide (-8 ≤ r.f0) && (decide (r.f0 ≤ 8) && (decide (1 ≤ r.f1) && (decide (r.f1 ≤ 5) && (wordI r.f2 && (wordI r.f3 && decide (r.f4.length ≤ 600))))))
theorem rowB_eq (r : S41) : rowB r = (headB r && !r.f4.any badItem) := by simp [rowB, headB, Bool.and_assoc]
theorem check_head (x0 : List S41) (j : Nat) (h : j < x0.length) (k : Nat) : compositorref23_Check.l0 (k + 1) x0 (j : Int) = compositorref23_Check.j1 k x0 (j : Int) (!headB x0[j]) x0[j].f0 x0[j].f1 x0[j].f2 x0[j].f3 x0[j].f4 := by
  rw [compositorref23_Check.l0, if_pos (by omega), if_pos (by omega), rd_T41_eq x0 j h]
  generalize x0[j] = r
  rw [word_tells, word_tells]
  simp only [Option.bind_some]
  by_cases h1 : r.f0 < -8
  · rw [if_pos h1, show headB r = false from by simp [headB]; omega]; rfl
  rw [if_neg h1]
  by_cases h2 : r.f0 > 8
  · rw [if_pos h2, show headB r = false from by simp [headB]; omega]; rfl
  rw [if_neg h2]
  by_cases h3 : r.f1 < 1
  · rw [if_pos h3, show headB r = false from by simp [headB]; omega]; rfl
  rw [if_neg h3]
  by_cases h4 : r.f1 > 5
  · rw [if_pos h4, show headB r = false from by simp [headB]; omega]; rfl
  rw [if_neg h4]
  cases h5 : wordI r.f2 with
  | false => rw [if_neg (by decide), show headB r = false from by simp [headB, h5]]; rfl
  | true =>
    cases h6 : wordI r.f3 with
    | false => rw [if_pos rfl, if_neg (by decide), show headB r = false from by simp [headB, h6]]; rfl
    | true =>
      rw [if_pos rfl, if_pos rfl]
      congr 1
      have a1 : decide (-8 ≤ r.f0) = true := by simp; omega
      have a2 : decide (r.f0 ≤ 8) = true := by simp; omega
      have a3 : decide (1 ≤ r.f1) = true := by simp; omega
      have a4 : decide (r.f1 ≤ 5) = true := by simp; omega
      rw [headB, h5, h6, a1, a2, a3, a4]
      simp only [Bool.true_and]
      by_cases h7 : r.f4.length ≤ 600
      · rw [decide_eq_true h7, decide_eq_false (by omega)]; rfl
      · rw [decide_eq_false h7, decide_eq_true (by omega)]; rfl
theorem check_l0 (x0 : List S41) (hl : x0.length ≤ 200) : ∀ (d j : Nat), j + d = x0.length → Ev (fun k => compositorref23_Check.l0 k x0 (j : Int)) (!(x0.drop j).any badRow) := by
  intro d
  induction d with
  | zero =>
    intro j hj
    rw [List.drop_eq_nil_of_le (by omega)]
    exact Ev.step (f := fun _ => some true) (fun k => by show compositorref23_Check.l0 (k + 1) _ _ = _; rw [compositorref23_Check.l0, if_neg (by omega)]) (Ev.now _)
  | succ d ih =>
    intro j hj
    have hlt : j < x0.length := by omega
    rw [List.drop_eq_getElem_cons hlt, List.any_cons]
    refine Ev.step (fun k => check_head x0 j hlt k) ?_
    cases hh : headB x0[j] with
    | false =>
      rw [show badRow x0[j] = true from by simp [badRow, rowB_eq, hh], Bool.true_or]
      refine Ev.step (f := fun _ => some false) (fun k => ?_) (Ev.now _)
      show compositorref23_Check.j1 (k + 1) _ _ _ _ _ _ _ _ = _
      rw [compositorref23_Check.j1, if_pos (by rfl)]
    | true =>
      have hlen : x0[j].f4.length ≤ 600 := by simp [headB] at hh; omega
      have := check_l1 x0 (j : Int) x0[j].f0 x0[j].f1 x0[j].f2 x0[j].f3 x0[j].f4 hlen (!(x0.drop (j + 1)).any badRow) (by rw [wsucc j (by omega)]; exact ih (j + 1) (by omega)) x0[j].f4.length 0 (by omega)
      rw [List.drop_zero] at this
      have e : (!(badRow x0[j] || (x0.drop (j + 1)).any badRow)) = (if x0[j].f4.any badItem = true then false else !(x0.drop (j + 1)).any badRow) := by
        rw [badRow, rowB_eq, hh, Bool.true_and]
        cases x0[j].f4.any badItem <;> simp
      rw [e]
      refine Ev.step (fun k => ?_) this
      show compositorref23_Check.j1 (k + 1) _ _ _ _ _ _ _ _ = _
      rw [compositorref23_Check.j1, if_neg (by decide)]
      rfl
theorem check_ev (l : List S41) : Ev (fun k => compositorref23_Check.f k l) (checkB l) := by
  unfold compositorref23_Check.f checkB
  by_cases h : l.length ≤ 200
  · rw [decide_eq_true h, Bool.true_and]
    have := check_l0 l h l.length 0 (by omega)
    rw [List.drop_zero] at this
    refine Ev.congr (fun k => ?_) this
    rw [if_neg (by omega)]
    rfl
  · rw [decide_eq_false h, Bool.false_and]
    refine Ev.congr (f := fun _ => some false) (fun k => ?_) (Ev.now _)
    rw [if_pos (by omega)]

theorem tdivn {n : Int} (h : 0 ≤ n) (m : Int) (hm : 0 < m) (h1 : n < 9223372036854775808) : Int.tmod (wrap64 (Int.tdiv n m)) 256 % 256 = n / m % 256 := by
  have h2 : 0 ≤ n / m := Int.ediv_nonneg h (by omega)
  have h3 : n / m ≤ n := Int.ediv_le_self _ h
  rw [Int.tdiv_eq_ediv_of_nonneg h, w64 (by omega) (by omega), Int.tmod_eq_emod_of_nonneg h2]
  omega
theorem rput2 (xs : List Int) (n : Int) (h0 : 0 ≤ n) (h1 : n < 65536) (hl : xs.length + 4 ≤ 140737488355328) : Ev (fun k => compositorref06_Put.f k xs n 2) (xs ++ be2 n, 0) := by
  refine Ev.of (fun k => compositorref06_Put.mono _ _ _ k) (k := 9) ?_
  have p2 : compositorref06_power.f 9 2 = some 65536 := by decide +kernel
  have p1 : compositorref06_power.f 7 1 = some 256 := by decide +kernel
  have p0 : compositorref06_power.f 6 0 = some 1 := by decide +kernel
  have e1 : wrap64 (wrap64 (2 - 1) - 0) = 1 := by unfold wrap64; omega
  have e2 : wrap64 (0 + 1) = 1 := by unfold wrap64; omega
  have e3 : wrap64 (wrap64 (2 - 1) - 1) = 0 := by unfold wrap64; omega
  have e4 : wrap64 (1 + 1) = 2 := by unfold wrap64; omega
  unfold compositorref06_Put.f
  rw [if_neg (by decide), if_neg (by decide), if_neg (by omega), p2, Option.bind_some, show decide (n ≥ 65536) = false from by simp; omega, compositorref06_Put.j0, if_neg (by decide), Option.bind_some, if_pos (by simp; omega), List.nil_append]
  rw [compositorref06_Put.l0, if_pos (by decide), e1, p1, Option.bind_some, if_neg (by decide), if_pos (by omega), tdivn h0 256 (by decide) (by omega), e2]
  rw [compositorref06_Put.l0, if_pos (by decide), e3, p0, Option.bind_some, if_neg (by decide), if_pos (by simp; omega), tdivn h0 1 (by decide) (by omega), e4, Int.ediv_one]
  rw [compositorref06_Put.l0, if_neg (by decide)]
  simp [be2]
theorem rput4 (xs : List Int) (n : Int) (h0 : 0 ≤ n) (h1 : n < 4294967296) (hl : xs.length + 4 ≤ 140737488355328) : Ev (fun k => compositorref06_Put.f k xs n 4) (xs ++ be4 n, 0) := by
  refine Ev.of (fun k => compositorref06_Put.mono _ _ _ k) (k := 11) ?_
  have p4 : compositorref06_power.f 11 4 = some 4294967296 := by decide +kernel
  have p3 : compositorref06_power.f 9 3 = some 16777216 := by decide +kernel
  have p2 : compositorref06_power.f 8 2 = some 65536 := by decide +kernel
  have p1 : compositorref06_power.f 7 1 = some 256 := by decide +kernel
  have p0 : compositorref06_power.f 6 0 = some 1 := by decide +kernel
  have e1 : wrap64 (wrap64 (4 - 1) - 0) = 3 := by unfold wrap64; omega
  have e2 : wrap64 (0 + 1) = 1 := by unfold wrap64; omega
  have e3 : wrap64 (wrap64 (4 - 1) - 1) = 2 := by unfold wrap64; omega
  have e4 : wrap64 (1 + 1) = 2 := by unfold wrap64; omega
  have e5 : wrap64 (wrap64 (4 - 1) - 2) = 1 := by unfold wrap64; omega
  have e6 : wrap64 (2 + 1) = 3 := by unfold wrap64; omega
  have e7 : wrap64 (wrap64 (4 - 1) - 3) = 0 := by unfold wrap64; omega
  have e8 : wrap64 (3 + 1) = 4 := by unfold wrap64; omega
  unfold compositorref06_Put.f
  rw [if_neg (by decide), if_neg (by decide), if_neg (by omega), p4, Option.bind_some, show decide (n ≥ 4294967296) = false from by simp; omega, compositorref06_Put.j0, if_neg (by decide), Option.bind_some, if_pos (by simp; omega), List.nil_append]
  rw [compositorref06_Put.l0, if_pos (by decide), e1, p3, Option.bind_some, if_neg (by decide), if_pos (by omega), tdivn h0 16777216 (by decide) (by omega), e2]
  rw [compositorref06_Put.l0, if_pos (by decide), e3, p2, Option.bind_some, if_neg (by decide), if_pos (by simp; omega), tdivn h0 65536 (by decide) (by omega), e4]
  rw [compositorref06_Put.l0, if_pos (by decide), e5, p1, Option.bind_some, if_neg (by decide), if_pos (by simp; omega), tdivn h0 256 (by decide) (by omega), e6]
  rw [compositorref06_Put.l0, if_pos (by decide), e7, p0, Option.bind_some, if_neg (by decide), if_pos (by simp; omega), tdivn h0 1 (by decide) (by omega), e8, Int.ediv_one]
  rw [compositorref06_Put.l0, if_neg (by decide)]
  simp [be4]
theorem rputfix (xs : List Int) (n : Int) (h : wordI n = true) (hl : xs.length + 4 ≤ 140737488355328) : Ev (fun k => compositorref06_PutFix.f k xs n) (xs ++ be4 n, 0) := by
  simp only [wordI, Bool.and_eq_true, decide_eq_true_eq] at h
  obtain ⟨h0, h1⟩ := h
  unfold compositorref06_PutFix.f
  refine Ev.congr (f := fun k => compositorref06_PutFix.j0 k xs n false) (fun k => ?_) ?_
  · rw [if_neg (by omega), show decide (n > 2147483647) = false from by simp; omega]
  · by_cases hn : n < 0
    · have e : be4 (n + 4294967296) = be4 n := by rw [← be4_mod (n + 4294967296), ← be4_mod n]; congr 1; omega
      have := rput4 xs (n + 4294967296) (by omega) (by omega) hl
      rw [e] at this
      refine Ev.step (fun k => ?_) (Ev.bind this (f := fun _ (b : List Int × Int) => some (b.1, b.2)) (Ev.now _))
      show compositorref06_PutFix.j0 (k + 1) _ _ _ = _
      rw [compositorref06_PutFix.j0, if_neg (by decide), if_pos hn, w64 (by omega) (by omega)]
    · refine Ev.step (fun k => ?_) (Ev.bind (rput4 xs n (by omega) (by omega) hl) (f := fun _ (b : List Int × Int) => some (b.1, b.2)) (Ev.now _))
      show compositorref06_PutFix.j0 (k + 1) _ _ _ = _
      rw [compositorref06_PutFix.j0, if_neg (by decide), if_neg hn]

theorem rd_T43_n (l : List S43) (j : Nat) (h : j < l.length) : rd_T43 l (j : Int) = l[j] := rd_T43_eq l j h
theorem write_l1 (x0 : List S41) (i : Nat) (hi : i < x0.length) (hx : x0.length ≤ 200) (hw : x0[i].f4.any badItem = false) (hm : x0[i].f4.length ≤ 600) (r : List Int × Int) : ∀ (e j : Nat) (acc : List Int), j + e = x0[i].f4.length → acc.length + 5 * e ≤ 1000000000 →
    Ev (fun k => compositorref23_Write.l0 k x0 (acc ++ itemsW (x0[i].f4.drop j)) (wrap64 ((i : Int) + 1))) r → Ev (fun k => compositorref23_Write.l1 k x0 acc (i : Int) (j : Int)) r := by
  intro e
  induction e with
  | zero =>
    intro j acc hj ha hr
    rw [List.drop_eq_nil_of_le (by omega), itemsW, List.append_nil] at hr
    refine Ev.step (fun k => ?_) hr
    show compositorref23_Write.l1 (k + 1) _ _ _ _ = _
    rw [compositorref23_Write.l1, if_pos (by omega), if_pos (by omega), rd_T41_eq x0 i hi, if_neg (by omega)]
  | succ e ih =>
    intro j acc hj ha hr
    have hlt : j < x0[i].f4.length := by omega
    have hwd : wordI x0[i].f4[j].f1 = true := by
      rw [List.any_eq_false] at hw
      have := hw _ (List.getElem_mem hlt)
      simp [badItem] at this
      exact this.2.2
    have hp := rputfix [] x0[i].f4[j].f1 hwd (by decide)
    rw [List.nil_append] at hp
    have hn := ih (j + 1) (acc ++ itemW x0[i].f4[j]) (by omega) (by simp [itemW, be4]; omega) (by
      rw [List.drop_eq_getElem_cons hlt] at hr
      rw [List.append_assoc]
      exact hr)
    refine Ev.step (fun k => ?_) (Ev.congr (f := fun k => ((compositorref06_PutFix.f k [] x0[i].f4[j].f1).bind fun bt => (if acc.length < 140737488355328 then (if (acc ++ [x0[i].f4[j].f0 % 256]).length + bt.1.length < 140737488355328 then compositorref23_Write.l1 k x0 ((acc ++ [x0[i].f4[j].f0 % 256]) ++ bt.1) (i : Int) ((j + 1 : Nat) : Int) else none) else none))) (fun k => rfl) ?_)
    · show compositorref23_Write.l1 (k + 1) _ _ _ _ = _
      rw [compositorref23_Write.l1, if_pos (by omega), if_pos (by omega), rd_T41_eq x0 i hi, if_pos (by omega), if_pos (by omega), rd_T43_eq x0[i].f4 j hlt, wsucc j (by omega)]
      rfl
    · refine Ev.bind hp (f := fun k (bt : List Int × Int) => (if acc.length < 140737488355328 then (if (acc ++ [x0[i].f4[j].f0 % 256]).length + bt.1.length < 140737488355328 then compositorref23_Write.l1 k x0 ((acc ++ [x0[i].f4[j].f0 % 256]) ++ bt.1) (i : Int) ((j + 1 : Nat) : Int) else none) else none)) ?_
      refine Ev.congr (fun k => ?_) hn
      show (if acc.length < 140737488355328 then (if (acc ++ [x0[i].f4[j].f0 % 256]).length + (be4 x0[i].f4[j].f1).length < 140737488355328 then compositorref23_Write.l1 k x0 ((acc ++ [x0[i].f4[j].f0 % 256]) ++ be4 x0[i].f4[j].f1) (i : Int) ((j + 1 : Nat) : Int) else none) else none) = _
      rw [if_pos (by omega), if_pos (by simp [be4]; omega), List.append_assoc]
      rfl

theorem write_l0 (x0 : List S41) (hx : x0.length ≤ 200) (hw : x0.any badRow = false) : ∀ (d i : Nat) (acc : List Int), i + d = x0.length → acc.length + 4000 * d ≤ 100000000 → Ev (fun k => compositorref23_Write.l0 k x0 acc (i : Int)) (acc ++ rowsW (x0.drop i), 0) := by
  intro d
  induction d with
  | zero =>
    intro i acc hi ha
    rw [List.drop_eq_nil_of_le (by omega), rowsW, List.append_nil]
    exact Ev.step (f := fun _ => some (acc, 0)) (fun k => by show compositorref23_Write.l0 (k + 1) _ _ _ = _; rw [compositorref23_Write.l0, if_neg (by omega)]) (Ev.now _)
  | succ d ih =>
    intro i acc hi ha
    have hlt : i < x0.length := by omega
    have hrow : rowB x0[i] = true := by
      rw [List.any_eq_false] at hw
      have := hw _ (List.getElem_mem hlt)
      simpa [badRow] using this
    obtain ⟨⟨f0, f1⟩, f2, f3, f4, f5⟩ := rowB_facts hrow
    have hln : (headW x0[i]).length = 12 := by simp [headW, be4, be2]
    have hA : (acc ++ [(x0[i].f0 + 8) % 256, x0[i].f1 % 256]).length = acc.length + 2 := by simp
    have hB : ((acc ++ [(x0[i].f0 + 8) % 256, x0[i].f1 % 256]) ++ be4 x0[i].f2).length = acc.length + 6 := by simp [be4]
    have hC : (((acc ++ [(x0[i].f0 + 8) % 256, x0[i].f1 % 256]) ++ be4 x0[i].f2) ++ be4 x0[i].f3).length = acc.length + 10 := by simp [be4]
    have hD : ((((acc ++ [(x0[i].f0 + 8) % 256, x0[i].f1 % 256]) ++ be4 x0[i].f2) ++ be4 x0[i].f3) ++ be2 x0[i].f4.length) = acc ++ headW x0[i] := by simp [headW]
    have n0 := ih (i + 1) (acc ++ rowW x0[i]) (by omega) (by rw [List.length_append, rowW_len]; omega)
    have n1 := write_l1 x0 i hlt hx f5 f4 (acc ++ rowsW (x0.drop i), 0) x0[i].f4.length 0 (acc ++ headW x0[i]) (by omega) (by rw [List.length_append, hln]; omega) (by
      rw [List.drop_zero, wsucc i (by omega), List.append_assoc]
      have e : acc ++ rowsW (x0.drop i) = acc ++ rowW x0[i] ++ rowsW (x0.drop (i + 1)) := by
        rw [List.drop_eq_getElem_cons hlt, rowsW, List.append_assoc]
      rw [e]
      exact n0)
    have p1 := rputfix (acc ++ [(x0[i].f0 + 8) % 256, x0[i].f1 % 256]) x0[i].f2 f2 (by omega)
    have p2 := rputfix ((acc ++ [(x0[i].f0 + 8) % 256, x0[i].f1 % 256]) ++ be4 x0[i].f2) x0[i].f3 f3 (by omega)
    have p3 := rput2 (((acc ++ [(x0[i].f0 + 8) % 256, x0[i].f1 % 256]) ++ be4 x0[i].f2) ++ be4 x0[i].f3) (x0[i].f4.length : Int) (by omega) (by omega) (by omega)
    rw [hD] at p3
    refine Ev.step (fun k => ?_) (Ev.bind p1 (f := fun k (b1 : List Int × Int) => (compositorref06_PutFix.f k b1.1 x0[i].f3).bind fun b2 => (compositorref06_Put.f k b2.1 (x0[i].f4.length : Int) 2).bind fun b3 => compositorref23_Write.l1 k x0 b3.1 (i : Int) 0) (Ev.bind p2 (f := fun k (b2 : List Int × Int) => (compositorref06_Put.f k b2.1 (x0[i].f4.length : Int) 2).bind fun b3 => compositorref23_Write.l1 k x0 b3.1 (i : Int) 0) (Ev.bind p3 (f := fun k (b3 : List Int × Int) => compositorref23_Write.l1 k x0 b3.1 (i : Int) 0) n1)))
    show compositorref23_Write.l0 (k + 1) _ _ _ = _
    rw [compositorref23_Write.l0, if_pos (by omega), if_pos (by omega), rd_T41_eq x0 i hlt, Option.bind_some, if_pos (by simp; omega), w64 (by omega) (by omega)]

theorem write_ev (l : List S41) : Ev (fun k => compositorref23_Write.f k l) (writeF l) := by
  unfold compositorref23_Write.f writeF
  refine Ev.bind (check_ev l) (f := fun k t => if t = true then compositorref23_Write.l0 k l [67, 79, (l.length : Int) % 256] 0 else some ([], 230)) ?_
  cases hc : checkB l with
  | false => exact Ev.congr (f := fun _ => some ([], 230)) (fun k => by show (if false = true then _ else _) = _; rw [if_neg (by decide)]) (by rw [if_neg (by decide)]; exact Ev.now _)
  | true =>
    obtain ⟨h1, h2⟩ := checkB_parts hc
    have := write_l0 l h1 h2 l.length 0 [67, 79, (l.length : Int) % 256] (by omega) (by simp; omega)
    rw [List.drop_zero] at this
    rw [if_pos rfl]
    exact Ev.congr (fun k => by show (if true = true then _ else _) = _; rw [if_pos rfl]; rfl) this

end Go.Proofs.Ythlhfnbaihdjkaa.Q
