/- ShipWrites over plain lists. -/
import Derived.Test.YthlhfnbaihdjkaaQPb
import Derived.Test.YthlhfnbaihdjkaaQx8
namespace Go.Proofs.Ythlhfnbaihdjkaa.Q
open Go.RowKit Go.Proofs.YthlhfnbaihdjkaaW.PrintWords Go.Proofs.YthlhfnbaihdjkaaW.PrintLast
set_option linter.unusedVariables false
set_option linter.unusedSimpArgs false
theorem same04_l0 (x : List Int) (hx : x.length ≤ 100000000) : ∀ (e j : Nat), j + e = x.length → Ev (fun k => compositorref04_Same.l0 k x x (j : Int)) true := by
  intro e
  induction e with
  | zero =>
    intro j hj
    exact Ev.step (f := fun _ => some true) (fun k => by show compositorref04_Same.l0 (k + 1) _ _ _ = _; rw [compositorref04_Same.l0, if_neg (by omega)]) (Ev.now _)
  | succ e ih =>
    intro j hj
    refine Ev.step (fun k => ?_) (ih (j + 1) (by omega))
    show compositorref04_Same.l0 (k + 1) _ _ _ = _
    rw [compositorref04_Same.l0, if_pos (by omega), if_pos (by omega), if_pos (by omega), if_pos rfl, wsucc j (by omega)]
theorem same04_ev (x : List Int) (hx : x.length ≤ 100000000) : Ev (fun k => compositorref04_Same.f k x x) true := by
  refine Ev.congr (fun k => ?_) (same04_l0 x hx x.length 0 (by omega))
  unfold compositorref04_Same.f
  rw [if_pos rfl]
  rfl
theorem overL_len : ∀ (l : List S41) (i : Nat), (overL l i).length ≤ l.length
  | [], _ => Nat.le_refl _
  | r :: l, i => by
    have := overL_len l (i + 1)
    unfold overL
    split <;> simp <;> omega
theorem underL_len : ∀ (l : List S41) (i : Nat), (underL l i).length ≤ l.length
  | [], _ => Nat.le_refl _
  | r :: l, i => by
    have := underL_len l (i + 1)
    unfold underL
    split <;> simp <;> omega
theorem shipwrites_pure (l : List S41) : ∃ k, compositorlaw23_ShipWrites.f k l = some true := by
  refine Ev.rounds (g := fun k => compositorlaw23_ShipWrites.f k l) ?_
  unfold compositorlaw23_ShipWrites.f
  refine Ev.bind awake_ev ?_
  refine Ev.bind (few_ev l) ?_
  cases hf : fewB l with
  | false => exact Ev.congr (f := fun _ => some true) (fun k => by rw [if_neg (by decide)]) (Ev.now _)
  | true =>
    obtain ⟨h1, h2⟩ := few_len hf
    have ho := overL_len l 0
    have hu := underL_len l 0
    refine Ev.congr (fun k => if_pos rfl) ?_
    rw [write_f]
    simp only [Option.bind_some]
    refine Ev.bind (write_ev l) ?_
    refine Ev.bind (report_ev l h1) ?_
    refine Ev.bind (rreport_ev l h1) ?_
    refine Ev.congr (fun k => if_pos trivial) ?_
    unfold ship_Check.f
    simp only [Option.bind_some]
    refine Ev.bind (check_ev l) ?_
    refine Ev.congr (fun k => if_pos (by simp)) ?_
    refine Ev.congr (fun k => if_pos trivial) ?_
    refine Ev.congr (fun k => if_pos trivial) ?_
    refine Ev.bind (same04_ev _ (by omega)) ?_
    refine Ev.congr (fun k => if_pos rfl) ?_
    exact Ev.bind (f := fun _ t => some t) (same04_ev _ (by omega)) (Ev.now _)
end Go.Proofs.Ythlhfnbaihdjkaa.Q
