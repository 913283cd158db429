/- An argument that can be read as data is read by its kind. -/
import Derived.Test.YtbejdeopkphciaaQx0
import Derived.Deep.Slices
import Derived.ProofKit
namespace Go.Proofs.Ytbejdeopkphciaa.Q
open Go.RowKit Go.Deep Go.Proofs.YtbejdeopkphciaaW.PrintWords Go.Proofs.YtbejdeopkphciaaW.PrintLast Go.Proofs.YtbejdeopkphciaaW.PrintMore
set_option linter.unusedVariables false
set_option linter.unusedSimpArgs false

/-- Whatever reads as data of type t is a value of kind d, of which Z holds. -/
def Opens {α : Type} (P : Program) (t : TypeId) (d : Kd α) (Z : α → Prop) : Prop := ∀ (H : Type) (enc : TypeId × Value → H) (w : World) (base : Nat) (spare : Nat → Bool) (held : Bool) (fuel : Nat) (cs : List Value) (x : DataW H × List MemPlace),
  DataW.trod enc P w base spare held fuel t cs = some x → ∃ a, d.K w a cs ∧ Z a

theorem opens_int {P : Program} {t : TypeId} {k : IntKind} (ht : P.underlying t = some (.int k)) : Opens P t (Kd.int k) (fun x => (Lit.int k x).wf = true) := by
  intro H enc w base spare held fuel cs x h
  obtain ⟨n, rfl, _, hw⟩ := DataW.trod_int ht h
  exact ⟨n, rfl, hw⟩

theorem opens_slice {α : Type} {P : Program} {t e : TypeId} {d : Kd α} {Z : α → Prop} (ht : P.underlying t = some (.slice e)) (hd : Opens P e d Z) (hsz : P.cellsOf e = d.sz) : Opens P t (Kd.slice e d) (fun l => ∀ x ∈ l, Z x) := by
  intro H enc w base spare held fuel cs x h
  rcases open_slice ht h with ⟨rfl, _⟩ | ⟨a, len, cap, m, n, D, Pl, rfl, hb, hl, hm, hmm, _, hx⟩
  · exact ⟨[], ⟨none, 0, rfl, Nat.le_refl _, Kd.C_nil _ _⟩, by simp⟩
  · have hle : len ≤ m := by subst hmm; split <;> omega
    have key : ∀ k, k ≤ len → ∃ xs : List α, xs.length = k ∧ (∀ x ∈ xs, Z x) ∧ ∀ j p, xs[j]? = some p → ∃ c, c.length = d.sz ∧ d.K w p c ∧ ∀ i u, c[i]? = some u → w.cell? (a.add (j * d.sz + i)) = some u := by
      intro k
      induction k with
      | zero => intro _; exact ⟨[], rfl, by simp, fun j p h => by simp at h⟩
      | succ k ih =>
        intro hk
        obtain ⟨xs, h1, h2, h3⟩ := ih (by omega)
        obtain ⟨cs', hcs, htr⟩ := hx k (by omega)
        obtain ⟨p, hK, hZ⟩ := hd H enc w base spare held n cs' _ htr
        obtain ⟨_, hlen, hcell⟩ := World.cells?_some hcs
        refine ⟨xs ++ [p], by simp [h1], ?_, ?_⟩
        · intro y hy
          rcases List.mem_append.1 hy with hy | hy
          · exact h2 y hy
          · rw [List.mem_singleton.1 hy]; exact hZ
        · intro j q hq
          by_cases hj : j < xs.length
          · rw [List.getElem?_append_left hj] at hq
            exact h3 j q hq
          · have hj' : j = xs.length := by
              have := (List.getElem?_eq_some_iff.1 hq).1
              simp at this; omega
            subst hj'
            have hq' : p = q := by simpa using hq
            subst hq'
            refine ⟨cs', d.K_len hK, hK, fun i u hu => ?_⟩
            have hi := (List.getElem?_eq_some_iff.1 hu).1
            have := hcell i (by omega)
            rw [hu] at this
            rw [h1, ← hsz]
            have e : (a.add (k * P.cellsOf e)).add i = a.add (k * P.cellsOf e + i) := by
              unfold Addr.add
              by_cases h1 : k * P.cellsOf e = 0 <;> by_cases h2 : i = 0 <;> simp [h1, h2, Nat.add_assoc]
            rw [← e]; exact this
    obtain ⟨xs, h1, h2, h3⟩ := key len (Nat.le_refl _)
    refine ⟨xs, ⟨some a, cap, by rw [h1], by omega, rfl, by simp only [maxLen] at hm; omega, fun _ => ⟨a, rfl, h3⟩⟩, h2⟩

/-- Of a struct's field. -/
theorem field_of {H : Type} {enc : TypeId × Value → H} {P : Program} {w : World} {base : Nat} {spare : Nat → Bool} {held : Bool} {fuel : Nat} {t : TypeId} {cs : List Value} {x : DataW H × List MemPlace} {fs : Array Field} (ht : P.underlying t = some (.struct fs))
    (h : DataW.trod enc P w base spare held fuel t cs = some x) : cs.length = P.cellsOf t ∧ ∃ n, ∀ (i : Nat) (f : Field), fs[i]? = some f → ∃ y, DataW.trod enc P w base spare held n f.type ((cs.drop f.offset).take (P.cellsOf f.type)) = some y := by
  obtain ⟨xs, n, _, _, hl, hxs, hf⟩ := DataW.trod_struct ht h
  refine ⟨hl, n, fun i f hi => ?_⟩
  have hlt : i < xs.length := by rw [hxs]; exact (Array.getElem?_eq_some_iff.1 hi).1
  exact ⟨xs[i], by rw [hf i f hi]; simp [hlt]⟩


theorem opens33 : Opens Try.prog 33 k33 (fun _ => True) := by
  intro H enc w base spare held fuel cs x h
  obtain ⟨hl, n, hf⟩ := field_of Try.underlying33 h
  have hl2 : cs.length = 2 := by rw [hl]; kernel_rfl
  match cs, hl2 with
  | [c0, c1], _ =>
    obtain ⟨y0, h0⟩ := hf 0 _ rfl
    obtain ⟨y1, h1⟩ := hf 1 _ rfl
    have hc : Try.prog.cellsOf 3 = 1 := by kernel_rfl
    change DataW.trod enc Try.prog w base spare held n 3 (([c0, c1].drop 0).take (Try.prog.cellsOf 3)) = some y0 at h0
    change DataW.trod enc Try.prog w base spare held n 3 (([c0, c1].drop 1).take (Try.prog.cellsOf 3)) = some y1 at h1
    rw [hc] at h0 h1
    change DataW.trod enc Try.prog w base spare held n 3 [c0] = some y0 at h0
    change DataW.trod enc Try.prog w base spare held n 3 [c1] = some y1 at h1
    obtain ⟨a0, e0, z0⟩ := opens_int Try.underlying3 H enc w base spare held n _ _ h0
    obtain ⟨a1, e1, z1⟩ := opens_int Try.underlying3 H enc w base spare held n _ _ h1
    have e0' : [c0] = [Value.int .i64 a0] := e0
    have e1' : [c1] = [Value.int .i64 a1] := e1
    simp only [List.cons.injEq, and_true] at e0' e1'
    subst e0' e1'
    exact ⟨⟨a0, a1⟩, k33_mk w ⟨a0, a1⟩, trivial⟩

theorem opens22 : Opens Try.prog 22 (Kd.slice 33 k33) (fun l => ∀ x ∈ l, True) :=
  opens_slice Try.underlying22 opens33 (by kernel_rfl)

theorem opens24 (H : Type) (enc : TypeId × Value → H) (w : World) (base : Nat) (spare : Nat → Bool) (held : Bool) (fuel : Nat) (cs : List Value) (x : DataW H × List MemPlace) (h : DataW.trod enc Try.prog w base spare held fuel 24 cs = some x) :
    ∃ (lv kd en df : Int) (A : Option Addr) (cap : Nat) (xs : List S33), cs = [.int .i64 lv, .int .i64 kd, .int .i64 en, .int .i64 df, .slice A xs.length cap] ∧ xs.length ≤ cap ∧ Kd.C k33 w A xs.length xs ∧ (Lit.int .i64 en).wf = true := by
  obtain ⟨hl, n, hf⟩ := field_of Try.underlying24 h
  have hl2 : cs.length = 5 := by rw [hl]; kernel_rfl
  match cs, hl2 with
  | [c0, c1, c2, c3, c4], _ =>
    obtain ⟨y0, h0⟩ := hf 0 _ rfl
    obtain ⟨y1, h1⟩ := hf 1 _ rfl
    obtain ⟨y2, h2⟩ := hf 2 _ rfl
    obtain ⟨y3, h3⟩ := hf 3 _ rfl
    obtain ⟨y4, h4⟩ := hf 4 _ rfl
    have hc : Try.prog.cellsOf 3 = 1 := by kernel_rfl
    have hc9 : Try.prog.cellsOf 22 = 1 := by kernel_rfl
    change DataW.trod enc Try.prog w base spare held n 3 (([c0, c1, c2, c3, c4].drop 0).take (Try.prog.cellsOf 3)) = some y0 at h0
    change DataW.trod enc Try.prog w base spare held n 3 (([c0, c1, c2, c3, c4].drop 1).take (Try.prog.cellsOf 3)) = some y1 at h1
    change DataW.trod enc Try.prog w base spare held n 3 (([c0, c1, c2, c3, c4].drop 2).take (Try.prog.cellsOf 3)) = some y2 at h2
    change DataW.trod enc Try.prog w base spare held n 3 (([c0, c1, c2, c3, c4].drop 3).take (Try.prog.cellsOf 3)) = some y3 at h3
    change DataW.trod enc Try.prog w base spare held n 22 (([c0, c1, c2, c3, c4].drop 4).take (Try.prog.cellsOf 22)) = some y4 at h4
    rw [hc] at h0 h1 h2 h3
    rw [hc9] at h4
    change DataW.trod enc Try.prog w base spare held n 3 [c0] = some y0 at h0
    change DataW.trod enc Try.prog w base spare held n 3 [c1] = some y1 at h1
    change DataW.trod enc Try.prog w base spare held n 3 [c2] = some y2 at h2
    change DataW.trod enc Try.prog w base spare held n 3 [c3] = some y3 at h3
    change DataW.trod enc Try.prog w base spare held n 22 [c4] = some y4 at h4
    obtain ⟨a0, e0, _⟩ := opens_int Try.underlying3 H enc w base spare held n _ _ h0
    obtain ⟨a1, e1, _⟩ := opens_int Try.underlying3 H enc w base spare held n _ _ h1
    obtain ⟨a2, e2, z2⟩ := opens_int Try.underlying3 H enc w base spare held n _ _ h2
    obtain ⟨a3, e3, _⟩ := opens_int Try.underlying3 H enc w base spare held n _ _ h3
    obtain ⟨a4, ⟨A4, q4, e4, l4, k4⟩, _⟩ := opens22 H enc w base spare held n _ _ h4
    have e0' : [c0] = [Value.int .i64 a0] := e0
    have e1' : [c1] = [Value.int .i64 a1] := e1
    have e2' : [c2] = [Value.int .i64 a2] := e2
    have e3' : [c3] = [Value.int .i64 a3] := e3
    simp only [List.cons.injEq, and_true] at e0' e1' e2' e3' e4
    subst e0' e1' e2' e3' e4
    exact ⟨a0, a1, a2, a3, A4, q4, a4, rfl, l4, k4, z2⟩
theorem opens34 : Opens Try.prog 34 (Kd.slice 5 (Kd.int .u8)) (fun l => ∀ x ∈ l, (Lit.int .u8 x).wf = true) :=
  opens_slice Try.underlying34 (opens_int Try.underlying5) (by kernel_rfl)
theorem u8s {l : List Int} (h : ∀ x ∈ l, (Lit.int .u8 x).wf = true) : ∀ x ∈ l, 0 ≤ x ∧ x ≤ 255 := fun x hx => by
  have := h x hx
  simp [Lit.wf, IntKind.min, IntKind.max, IntKind.signed, IntKind.bits] at this
  omega
end Go.Proofs.Ytbejdeopkphciaa.Q
