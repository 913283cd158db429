/- The contract of bytes.Clone, by hand: the same bytes, in a row of the call's own. -/
import Derived.Test.YthlhfnbaihdjkaaQx0
import Derived.WalkSpells
namespace Go.Proofs.Ythlhfnbaihdjkaa.Q
open Go.RowKit Go.Proofs.YthlhfnbaihdjkaaW.PrintWords Go.Proofs.YthlhfnbaihdjkaaW.PrintLast Go.Proofs.YthlhfnbaihdjkaaW.PrintMore
set_option linter.unusedVariables false
set_option linter.unusedSimpArgs false

def bytes_Clone.f (l0 : List Int) : Option (List Int) := if l0.length ≤ 140737488355328 then some l0 else none

theorem C_none {α : Type} {d : Kd α} {w : World} {n : Nat} {l : List α} (h : Kd.C d w none n l) : n = 0 := by
  by_cases hn : 0 < n
  · obtain ⟨ad, e, _⟩ := h.2.2 hn
    cases e
  · omega

set_option maxHeartbeats 4000000 in
theorem bytes_Clone.calls (A0 : Option Addr) (c0 : Nat) (l0 : List Int) (r : List Int) (w : World) (hr0 : Kd.C (Kd.int .u8) w A0 l0.length l0) (hc0 : l0.length ≤ c0) (h : bytes_Clone.f l0 = some r) :
    Calls Try.prog 50 #[.slice A0 l0.length c0] w fun e w' => ∃ v0_ : Value, e = .returned v0_ ∧ Kd.R (Kd.int .u8) 5 w' w.heap.size (fun _ => True) v0_ r ∧ Below w.heap.size w w' := by
  unfold bytes_Clone.f at h
  by_cases hl : l0.length ≤ 140737488355328
  · rw [if_pos hl] at h
    obtain rfl := Option.some.inj h
    have HR0 := Aside0.mk hr0
    have HL := Aside0.mk hl
    have heq := fun (w : World) => Lib.run_eql_slice_nil (P := Try.prog) w 25 5 A0 l0.length c0 0 0 Try.underlying25
    clear hr0 hc0 h hl
    cases A0 with
    | none =>
      have hz := C_none HR0.out
      have hnil : l0 = [] := List.eq_nil_of_length_eq_zero hz
      have HN := Aside0.mk hnil
      clear hz hnil
      go_enter Try.func50, Try.ntmps50
      go_wp2
      go_ret
      exact ⟨_, rfl, by rw [HN.out]; exact Kd.R_nil _ _ _ _ _, Below.refl _ _⟩
    | some ad =>
      go_enter Try.func50, Try.ntmps50
      go_wp2_with (first | (refine Kd.R_lit (Kd.int .u8) (w0 := w) w.heap.size 5 ?hg (N := 5) ?hd (xs := ([] : List Int)) (inner := []) (ok := fun _ => True) (okp := fun _ => True) ?hr ?hp (fun _ hk => hk) trivial (Below.refl _ _) (Nat.le_refl _) (by simp) ?_; (case hd => rfl); (case hg => rfl); (case hr => first | (go_simp; done) | (go_simp; rfl)); (case hp => exact (Reps.none _ _)); intro v1 w1 ho hb hg hn; have HO := Aside0.mk ho; have HB := Aside0.mk hb; clear ho hb hg hn) | (at_builtin; refine Kd.R_append_rows (Kd.int .u8) (w0 := w) w.heap.size rfl (.tmp 5) (.tmp 6) 25 5 (.int .u8 0) 1 rfl Try.underlying25 info5 rfl (by decide) (by omega) v1 [] l0 _ _ _ (fun _ => True) (fun _ => False) rfl rfl HO.out (Kd.C_below HR0.out HB.out) (fun _ _ h => h) (fun _ h => h.elim) (fun _ _ => trivial) HB.out HB.out.size (by have := HL.out; simp; omega) ?_; intro v2 w2 ho hb hg hat; have HO2 := Aside0.mk ho; have HB2 := Aside0.mk hb; clear ho hb hg hat))
      go_ret
      exact ⟨_, rfl, HO2.out, HB2.out⟩
  · rw [if_neg hl] at h
    cases h

end Go.Proofs.Ythlhfnbaihdjkaa.Q
