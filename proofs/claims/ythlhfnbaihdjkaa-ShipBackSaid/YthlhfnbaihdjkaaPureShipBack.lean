/- ShipBack over plain lists. -/
import Derived.Test.YthlhfnbaihdjkaaQPs
import Derived.Test.YthlhfnbaihdjkaaQx10b
namespace Go.Proofs.Ythlhfnbaihdjkaa.Q
open Go.RowKit Go.Proofs.YthlhfnbaihdjkaaW.PrintWords Go.Proofs.YthlhfnbaihdjkaaW.PrintLast
set_option linter.unusedVariables false
set_option linter.unusedSimpArgs false
theorem read_f {b : List Int} (h : Byts b) : ship_Read.f b = some (readF b) := by
  unfold ship_Read.f
  rw [if_pos]
  simp only [inB, List.all_eq_true, Bool.and_eq_true, decide_eq_true_eq]
  exact h
theorem back_tail (b : List Int) (hb : Byts b) (k : Nat) : ((ship_Read.f b).bind fun bt369 => ((ship_Write.f bt369.1).bind fun bt373 => (if true = true then (if bt369.2 = 0 then (if bt373.2 = 0 then (some ((strOfNums bt373.1).toList == (strOfNums b).toList)) else (some false)) else (some true)) else (some false)))) = some true := by
  rw [read_f hb, Option.bind_some, write_f, Option.bind_some, if_pos rfl]
  by_cases h : (readF b).2 = 0
  · rw [if_pos h]
    obtain ⟨m, hm⟩ : ∃ m, readF b = (m, 0) := ⟨_, Prod.ext rfl h⟩
    obtain ⟨hc, he⟩ := read_back hb hm
    rw [hm]
    simp only []
    rw [writeF, if_pos hc]
    simp only []
    rw [if_pos trivial, ← he]
    simp
  · rw [if_neg h]
theorem shipback_pure (l : List S41) (b : List Int) (cut : Int) (hb : ∀ x ∈ b, (Lit.int .u8 x).wf = true) (hcut : (Lit.int .u16 cut).wf = true) : ∃ k, compositorlaw23_ShipBack.f k l b cut = some true := by
  have hbb : Byts b := fun x hx => by have := hb x hx; simp [Lit.wf, IntKind.min, IntKind.max, IntKind.signed, IntKind.bits] at this; omega
  have hc : 0 ≤ cut ∧ cut ≤ 65535 := by simp [Lit.wf, IntKind.min, IntKind.max, IntKind.signed, IntKind.bits] at hcut; omega
  refine Ev.rounds (g := fun k => compositorlaw23_ShipBack.f k l b cut) ?_
  unfold compositorlaw23_ShipBack.f
  refine Ev.bind awake_ev ?_
  refine Ev.bind (few_ev l) ?_
  have j0t : Ev (fun k => compositorlaw23_ShipBack.j0 k l b cut true true) true := Ev.step (f := fun _ => some true) (fun k => by show compositorlaw23_ShipBack.j0 (k + 1) _ _ _ _ _ = _; rw [compositorlaw23_ShipBack.j0, if_pos rfl]) (Ev.now _)
  cases hf : fewB l with
  | false => exact Ev.congr (fun k => by rw [if_neg (by decide)]) j0t
  | true =>
    obtain ⟨h1, h2⟩ := few_len hf
    refine Ev.congr (fun k => if_pos rfl) ?_
    by_cases h5 : (b.length : Int) > 5000
    · rw [decide_eq_true h5]; exact j0t
    rw [decide_eq_false h5]
    cases hck : checkB l with
    | false =>
      have hw : writeF l = ([], 230) := by rw [writeF, if_neg (by rw [hck]; decide)]
      have hne : l ≠ [] := by rintro rfl; exact absurd hck (by decide)
      have hr : readF [] = ([], 230) := rfl
      refine Ev.step (f := fun k => (compositorref19_All.f k l []).bind fun _ => compositorlaw23_ShipBack.j1 k b cut true [] 230 false) (fun k => ?_) ?_
      · show compositorlaw23_ShipBack.j0 (k + 1) _ _ _ _ _ = _
        rw [compositorlaw23_ShipBack.j0, if_neg (by decide), write_f, Option.bind_some, hw]
        simp only []
        rw [read_f (by intro x hx; cases hx), Option.bind_some, hr]
        simp only []
        congr 1
        funext t
        rw [if_neg (by decide)]
        unfold ship_Check.f
        rw [Option.bind_some, hck]
        rfl
      · refine Ev.bind (all_ne l [] (by have := List.length_pos_iff.2 hne; simp; omega)) (f := fun k _ => compositorlaw23_ShipBack.j1 k b cut true [] 230 false) ?_
        refine Ev.step (f := fun _ => some true) (fun k => ?_) (Ev.now _)
        show compositorlaw23_ShipBack.j1 (k + 1) _ _ _ _ _ _ = _
        rw [compositorlaw23_ShipBack.j1, if_neg (by decide), if_neg (by decide)]
        exact back_tail b hbb k
    | true =>
      have hw : writeF l = (bytesW l, 0) := by rw [writeF, if_pos hck]
      have hlen := bytesW_len l
      obtain ⟨hl1, hl2⟩ := checkB_parts hck
      have hsz := sizeW_le l hl2
      have hrd := read_write l hck
      refine Ev.step (f := fun k => (compositorref19_All.f k l l).bind fun t => if t = true then compositorlaw23_ShipBack.j1 k b cut true (bytesW l) 0 false else compositorlaw23_ShipBack.j1 k b cut true (bytesW l) 0 true) (fun k => ?_) ?_
      · show compositorlaw23_ShipBack.j0 (k + 1) _ _ _ _ _ = _
        rw [compositorlaw23_ShipBack.j0, if_neg (by decide), write_f, Option.bind_some, hw]
        simp only []
        rw [read_f (bytesW_byts l), Option.bind_some, hrd]
        simp only []
        congr 1
        funext t
        rw [if_pos trivial, if_pos trivial]
        by_cases ht : t = true
        · rw [if_pos ht, if_pos ht, if_neg (by omega)]
          unfold ship_Check.f
          rw [Option.bind_some, hck]
          rfl
        · rw [if_neg ht, if_neg ht]
      · refine Ev.bind (all_ev l (by omega) (fun r hr => by have := h2 r hr; omega)) (f := fun k t => if t = true then compositorlaw23_ShipBack.j1 k b cut true (bytesW l) 0 false else compositorlaw23_ShipBack.j1 k b cut true (bytesW l) 0 true) ?_
        refine Ev.congr (fun k => if_pos rfl) ?_
        have hm0 : Int.tmod (wrap64 cut) ((bytesW l).length : Int) = cut % ((bytesW l).length : Int) := by rw [w64 (by omega) (by omega), Int.tmod_eq_emod_of_nonneg hc.1]
        have hm1 : 0 ≤ cut % ((bytesW l).length : Int) := Int.emod_nonneg _ (by omega)
        have hm2 : cut % ((bytesW l).length : Int) < ((bytesW l).length : Int) := Int.emod_lt_of_pos _ (by omega)
        refine Ev.step (f := fun k => compositorlaw23_ShipBack.j2 k b true false) (fun k => ?_) ?_
        · show compositorlaw23_ShipBack.j1 (k + 1) _ _ _ _ _ _ = _
          rw [compositorlaw23_ShipBack.j1, if_neg (by decide), if_pos rfl, if_neg (by omega), hm0, if_pos hm1, if_pos (by omega), read_f (fun x hx => bytesW_byts l x (List.mem_of_mem_take hx)), Option.bind_some, Option.bind_some, if_pos (by simp; omega), List.nil_append, Option.bind_some, if_pos (by omega), read_f (Byts.app (bytesW_byts l) (by intro x hx; simp at hx; omega)), Option.bind_some,
            read_cut l hck _ (by omega), if_pos rfl, read_more l hck]
          rfl
        · refine Ev.step (f := fun _ => some true) (fun k => ?_) (Ev.now _)
          show compositorlaw23_ShipBack.j2 (k + 1) _ _ _ = _
          rw [compositorlaw23_ShipBack.j2, if_neg (by decide)]
          exact back_tail b hbb k
end Go.Proofs.Ythlhfnbaihdjkaa.Q
