/- THE ROW of RiverTells, after the rows that the kit's print writes. -/
import Derived.Test.YtbejdeopkphciaaRows
import Derived.Test.YtbejdeopkphciaaQTells
import Derived.Test.YtbejdeopkphciaaQOpen
import Derived.WalkKit
import Derived.ProofKit
import Derived.OpenShut
import Derived.ShutString
import Derived.ChangeOld
import Derived.Below
import Derived.SizedLaws
import Derived.Test.YtbejdeopkphciaaWSized
namespace Go.Proofs.Ytbejdeopkphciaa.riverTells
open Go.ChangeShapes Go.WideShapes Go.ChangeAt Go.RowKit
open Go.ChangeMaps (open_string shut_string)
open Go.Proofs.YtbejdeopkphciaaW.PrintWords
set_option linter.unusedVariables false
theorem own : ownKnob Try.prog.godebug = none := by kernel_rfl
theorem laidOut : laidOutB Try.prog = true := by kernel_rfl
set_option maxRecDepth 100000 in
theorem lifted (os : Os) (started : os.Started) (H : Type) (enc : TypeId × Value → H) :
    ReturnsInHanded {} Try.checked os 3 .any (Rows.riverTellsSpec.pre6 enc Try.prog Try.f3 Rows.riverTellsRow.domain false) (Rows.riverTellsSpec.post enc Try.prog Try.f3 false true false false) := by
  refine returnsInHanded_of_change_sized (C := Try.checked) own started (by kernel_rfl) Try.func3
    (ChangeSpec.witness6 (enc := enc) (C := Try.checked) false ⟨#[], #[.agg #[.int .i64 0, .int .i64 0, .int .i64 0, .int .i64 0, .slice none 0 0], .agg #[.int .i64 0, .int .i64 0, .int .i64 0, .int .i64 0, .slice none 0 0]], []⟩ 8 (by kernel_rfl) (by kernel_rfl) (by kernel_rfl) (by kernel_rfl)) ?_
  intro W base args ds gs before hval0 hW hcnd hsz0 _
  have hval : ∀ (j : Nat) t v, Try.f3.params[j]? = some t → args[j]? = some v → Value.okWide Try.prog W .any base t v := hval0
  have hW' := hW
  obtain ⟨p, q, hA0, hV, rfl, hfz, hnd⟩ := hW
  have hA : DataW.TrodAll enc Try.prog W 0 (fun _ => true) true Try.f3.params.toList args.toList ds p := hA0
  rw [Try.params3] at hA hval
  obtain ⟨v0, vs0, d0, ds0, p0, q0, hargs, rfl, rfl, h0, r0⟩ := trodAll_cons hA
  obtain ⟨v1, vs1, d1, ds1, p1, q1, rfl, rfl, rfl, h1, r1⟩ := trodAll_cons r0
  obtain ⟨rfl, rfl, rfl⟩ := trodAll_nil r1
  obtain ⟨rfl, rfl⟩ := trodVars_none hV
  obtain rfl : args = #[v0, v1] := by cases args; simp_all
  obtain ⟨cs0, rfl, _⟩ := okWide_struct Try.underlying24 (hval 0 24 v0 rfl rfl)
  have k0 := h0
  have lt0 : ∀ x ∈ p0, x.block < W.heap.size := by obtain ⟨m, hm⟩ := k0; exact DataW.trod_lt m _ _ _ hm
  obtain ⟨fuel0, hf0⟩ := h0
  obtain ⟨lv0, kd0, en0, df0, A0, c0, l0, e0, hc0, hr0, _⟩ := Q.opens24 H enc W _ _ _ fuel0 _ _ hf0
  have e0' : cs0 = #[.int .i64 lv0, .int .i64 kd0, .int .i64 en0, .int .i64 df0, .slice A0 l0.length c0] := by apply Array.toList_inj.1; simpa [Value.cells] using e0
  subst e0'
  obtain ⟨cs1, rfl, _⟩ := okWide_struct Try.underlying24 (hval 1 24 v1 rfl rfl)
  have k1 := h1
  have lt1 : ∀ x ∈ p1, x.block < W.heap.size := by obtain ⟨m, hm⟩ := k1; exact DataW.trod_lt m _ _ _ hm
  obtain ⟨fuel1, hf1⟩ := h1
  obtain ⟨lv1, kd1, en1, df1, A1, c1, l1, e1, hc1, hr1, _⟩ := Q.opens24 H enc W _ _ _ fuel1 _ _ hf1
  have e1' : cs1 = #[.int .i64 lv1, .int .i64 kd1, .int .i64 en1, .int .i64 df1, .slice A1 l1.length c1] := by apply Array.toList_inj.1; simpa [Value.cells] using e1
  subst e1'
  clear hA0 hval0 hsz0
  refine (Q.tells_any lv0 kd0 en0 df0 A0 c0 l0 lv1 kd1 en1 df1 A1 c1 l1 W hr0 hc0 hr1 hc1).mono fun e W' ⟨he, bel⟩ => ?_
  subst he
  exact ⟨_, rfl, _, _, _, [], _, [], hW', trodAll_mk1 (shut_bool Try.underlying4 _), (trodAll_cons_mk (Below.trod laidOut (by kernel_rfl) (of_decide_eq_true (by kernel_rfl)) k0 bel lt0) (trodAll_cons_mk (Below.trod laidOut (by kernel_rfl) (of_decide_eq_true (by kernel_rfl)) k1 bel lt1) trodAll_mk0)), rfl, bel.frame _, fun h => by cases h⟩
theorem over : Rows.riverTellsRow.holds Try.pinned (OpenSpec.ofChange Rows.riverTellsSpec) :=
  OpenClaim.holds_of_wide 3 Try.f3 rfl rfl rfl rfl rfl rfl rfl ⟨rfl, rfl, rfl, rfl, rfl⟩ rfl rfl rfl rfl rfl (by kernel_rfl) Try.func3 (by kernel_rfl)
    (of_decide_eq_true (by kernel_rfl)) (by unfold Func.isWrapper; first | (rw [if_pos (by decide +kernel)]; kernel_rfl) | (rw [if_neg (by decide +kernel)]; exact ⟨rfl, rfl⟩))
    (fun os started H enc _ => lifted os started H enc)
theorem proved : Rows.RiverTellsSaid := over
#print axioms proved
end Go.Proofs.Ytbejdeopkphciaa.riverTells
namespace Go.Proofs.Ytbejdeopkphciaa
/-- The row, under a short name, for the claim. -/
theorem riverTells_holds : Rows.RiverTellsSaid := riverTells.proved
end Go.Proofs.Ytbejdeopkphciaa
