/- What the laws of rows share: Few, All, the head of a law: plain lists. -/
import Derived.Test.YthlhfnbaihdjkaaQPa
import Derived.Test.YthlhfnbaihdjkaaQx4
namespace Go.Proofs.Ythlhfnbaihdjkaa.Q
open Go.RowKit Go.Proofs.YthlhfnbaihdjkaaW.PrintWords Go.Proofs.YthlhfnbaihdjkaaW.PrintLast
set_option linter.unusedVariables false
set_option linter.unusedSimpArgs false

theorem wsucc (j : Nat) (h : j < 1000000000000) : wrap64 ((j : Int) + 1) = ((j + 1 : Nat) : Int) := by unfold wrap64; omega
theorem ev_some {α : Type} {a r : α} (h : Ev (fun _ => some a) r) : a = r := by
  obtain ⟨K, h⟩ := h
  exact Option.some.inj (h K (Nat.le_refl _))

def fewB (l : List S41) : Bool := decide (l.length ≤ 210) && l.all (fun r => decide (r.f4.length ≤ 700))
theorem few_l0 (l : List S41) (hl : l.length ≤ 210) : ∀ (d j : Nat), j + d = l.length → Ev (fun k => compositorref23_Few.l0 k l (j : Int)) ((l.drop j).all (fun r => decide (r.f4.length ≤ 700))) := by
  intro d
  induction d with
  | zero =>
    intro j hj
    rw [List.drop_eq_nil_of_le (by omega)]
    exact Ev.step (f := fun _ => some true) (fun k => by show compositorref23_Few.l0 (k + 1) _ _ = _; rw [compositorref23_Few.l0, if_neg (by omega)]) (Ev.now _)
  | succ d ih =>
    intro j hj
    have hlt : j < l.length := by omega
    rw [List.drop_eq_getElem_cons hlt, List.all_cons]
    by_cases h : l[j].f4.length ≤ 700
    · rw [decide_eq_true h, Bool.true_and]
      refine Ev.step (fun k => ?_) (ih (j + 1) (by omega))
      show compositorref23_Few.l0 (k + 1) _ _ = _
      rw [compositorref23_Few.l0, if_pos (by omega), if_pos (by omega), rd_T41_eq l j hlt, if_neg (by omega), wsucc j (by omega)]
    · rw [decide_eq_false h, Bool.false_and]
      refine Ev.step (f := fun _ => some false) (fun k => ?_) (Ev.now _)
      show compositorref23_Few.l0 (k + 1) _ _ = _
      rw [compositorref23_Few.l0, if_pos (by omega), if_pos (by omega), rd_T41_eq l j hlt, if_pos (by omega)]
theorem few_ev (l : List S41) : Ev (fun k => compositorref23_Few.f k l) (fewB l) := by
  unfold compositorref23_Few.f fewB
  by_cases h : l.length ≤ 210
  · rw [decide_eq_true h, Bool.true_and]
    refine Ev.congr (fun k => ?_) (few_l0 l h l.length 0 (by omega))
    rw [if_neg (by omega)]
    rfl
  · rw [decide_eq_false h, Bool.false_and]
    refine Ev.congr (f := fun _ => some false) (fun k => ?_) (Ev.now _)
    rw [if_pos (by omega)]
theorem few_len {l : List S41} (h : fewB l = true) : l.length ≤ 210 ∧ ∀ r ∈ l, r.f4.length ≤ 700 := by
  simp only [fewB, Bool.and_eq_true, decide_eq_true_eq, List.all_eq_true] at h
  exact h

def writeF (l : List S41) : List Int × Int := if checkB l = true then (bytesW l, 0) else ([], 230)
theorem write_f (l : List S41) : ship_Write.f l = some (writeF l) := by
  unfold ship_Write.f writeF
  split <;> rfl
theorem same19_l0 (a b c d : Int) (x : List S43) (hx : x.length ≤ 100000000) : ∀ (e j : Nat), j + e = x.length → Ev (fun k => compositorref19_Same.l0 k (j : Int) a b c d x a b c d x) true := by
  intro e
  induction e with
  | zero =>
    intro j hj
    exact Ev.step (f := fun _ => some true) (fun k => by show compositorref19_Same.l0 (k + 1) _ _ _ _ _ _ _ _ _ _ _ = _; rw [compositorref19_Same.l0, if_neg (by omega)]) (Ev.now _)
  | succ e ih =>
    intro j hj
    refine Ev.step (fun k => ?_) (ih (j + 1) (by omega))
    show compositorref19_Same.l0 (k + 1) _ _ _ _ _ _ _ _ _ _ _ = _
    rw [compositorref19_Same.l0, if_pos (by omega), if_pos (by omega), if_pos (by omega), if_neg (by simp), wsucc j (by omega)]
theorem same19_ev (a b c d : Int) (x : List S43) (hx : x.length ≤ 100000000) : Ev (fun k => compositorref19_Same.f k a b c d x a b c d x) true := by
  refine Ev.congr (f := fun k => compositorref19_Same.j0 k false a b c d x a b c d x) (fun k => ?_) ?_
  · unfold compositorref19_Same.f
    rw [if_pos rfl, if_pos rfl, if_pos rfl, if_pos rfl]
    simp
  · refine Ev.step (fun k => ?_) (same19_l0 a b c d x hx x.length 0 (by omega))
    show compositorref19_Same.j0 (k + 1) _ _ _ _ _ _ _ _ _ _ _ = _
    rw [compositorref19_Same.j0, if_neg (by decide)]
    rfl
theorem all_l0 (x : List S41) (hx : x.length ≤ 100000) (hi : ∀ r ∈ x, r.f4.length ≤ 100000000) : ∀ (e j : Nat), j + e = x.length → Ev (fun k => compositorref19_All.l0 k x x (j : Int)) true := by
  intro e
  induction e with
  | zero =>
    intro j hj
    exact Ev.step (f := fun _ => some true) (fun k => by show compositorref19_All.l0 (k + 1) _ _ _ = _; rw [compositorref19_All.l0, if_neg (by omega)]) (Ev.now _)
  | succ e ih =>
    intro j hj
    have hlt : j < x.length := by omega
    refine Ev.step (fun k => ?_) (Ev.bind (same19_ev x[j].f0 x[j].f1 x[j].f2 x[j].f3 x[j].f4 (hi _ (List.getElem_mem hlt))) (f := fun k t => if t = true then compositorref19_All.l0 k x x ((j + 1 : Nat) : Int) else some false) (Ev.congr (fun k => by show (if true = true then _ else _) = _; rw [if_pos rfl]) (ih (j + 1) (by omega))))
    show compositorref19_All.l0 (k + 1) _ _ _ = _
    rw [compositorref19_All.l0, if_pos (by omega), if_pos (by omega), if_pos (by omega), rd_T41_eq x j hlt, wsucc j (by omega)]
theorem all_ev (x : List S41) (hx : x.length ≤ 100000) (hi : ∀ r ∈ x, r.f4.length ≤ 100000000) : Ev (fun k => compositorref19_All.f k x x) true := by
  refine Ev.congr (fun k => ?_) (all_l0 x hx hi x.length 0 (by omega))
  unfold compositorref19_All.f
  rw [if_pos rfl]
  rfl
theorem all_ne (x y : List S41) (h : x.length ≠ y.length) : Ev (fun k => compositorref19_All.f k x y) false := by
  refine Ev.congr (f := fun _ => some false) (fun k => ?_) (Ev.now _)
  unfold compositorref19_All.f
  rw [if_neg (by omega)]

theorem awake_true : compositorlaw23_awake.f 14 = some true := by decide +kernel
theorem awake_ev : Ev (fun k => compositorlaw23_awake.f k) true := Ev.of (fun k => compositorlaw23_awake.mono k) awake_true
theorem str_inj {l m : List Int} (hl : Byts l) (hm : Byts m) : ((strOfNums l).toList = (strOfNums m).toList) ↔ l = m := by
  have := str_same hl hm
  constructor
  · intro h
    rw [h] at this
    simpa using this
  · rintro rfl; rfl

end Go.Proofs.Ythlhfnbaihdjkaa.Q
