/- An argument that can be read as data is read by its kind. -/
import Derived.Test.YtnhalfkkamepgaaQx0
import Derived.Deep.Slices
import Derived.ProofKit
namespace Go.Proofs.Ytnhalfkkamepgaa.Q
open Go.RowKit Go.Deep Go.Proofs.YtnhalfkkamepgaaW.PrintWords Go.Proofs.YtnhalfkkamepgaaW.PrintLast Go.Proofs.YtnhalfkkamepgaaW.PrintMore
set_option linter.unusedVariables false
set_option linter.unusedSimpArgs false

/-- Whatever reads as data of type t is a value of kind d, of which Z holds. -/
def Opens {α : Type} (P : Program) (t : TypeId) (d : Kd α) (Z : α → Prop) : Prop := ∀ (H : Type) (enc : TypeId × Value → H) (w : World) (base : Nat) (spare : Nat → Bool) (held : Bool) (fuel : Nat) (cs : List Value) (x : DataW H × List MemPlace),
  DataW.trod enc P w base spare held fuel t cs = some x → ∃ a, d.K w a cs ∧ Z a

theorem opens_int {P : Program} {t : TypeId} {k : IntKind} (ht : P.underlying t = some (.int k)) : Opens P t (Kd.int k) (fun x => (Lit.int k x).wf = true) := by
  intro H enc w base spare held fuel cs x h
  obtain ⟨n, rfl, _, hw⟩ := DataW.trod_int ht h
  exact ⟨n, rfl, hw⟩

theorem opens_slice {α : Type} {P : Program} {t e : TypeId} {d : Kd α} {Z : α → Prop} (ht : P.underlying t = some (.slice e)) (hd : Opens P e d Z) (hsz : P.cellsOf e = d.sz) : Opens P t (Kd.slice e d) (fun l => ∀ x ∈ l, Z x) := by
  intro H enc w base spare held fuel cs x h
  rcases open_slice ht h with ⟨rfl, _⟩ | ⟨a, len, cap, m, n, D, Pl, rfl, hb, hl, hm, hmm, _, hx⟩
  · exact ⟨[], ⟨none, 0, rfl, Nat.le_refl _, Kd.C_nil _ _⟩, by simp⟩
  · have hle : len ≤ m := by subst hmm; split <;> omega
    have key : ∀ k, k ≤ len → ∃ xs : List α, xs.length = k ∧ (∀ x ∈ xs, Z x) ∧ ∀ j p, xs[j]? = some p → ∃ c, c.length = d.sz ∧ d.K w p c ∧ ∀ i u, c[i]? = some u → w.cell? (a.add (j * d.sz + i)) = some u := by
      intro k
      induction k with
      | zero => intro _; exact ⟨[], rfl, by simp, fun j p h => by simp at h⟩
      | succ k ih =>
        intro hk
        obtain ⟨xs, h1, h2, h3⟩ := ih (by omega)
        obtain ⟨cs', hcs, htr⟩ := hx k (by omega)
        obtain ⟨p, hK, hZ⟩ := hd H enc w base spare held n cs' _ htr
        obtain ⟨_, hlen, hcell⟩ := World.cells?_some hcs
        refine ⟨xs ++ [p], by simp [h1], ?_, ?_⟩
        · intro y hy
          rcases List.mem_append.1 hy with hy | hy
          · exact h2 y hy
          · rw [List.mem_singleton.1 hy]; exact hZ
        · intro j q hq
          by_cases hj : j < xs.length
          · rw [List.getElem?_append_left hj] at hq
            exact h3 j q hq
          · have hj' : j = xs.length := by
              have := (List.getElem?_eq_some_iff.1 hq).1
              simp at this; omega
            subst hj'
            have hq' : p = q := by simpa using hq
            subst hq'
            refine ⟨cs', d.K_len hK, hK, fun i u hu => ?_⟩
            have hi := (List.getElem?_eq_some_iff.1 hu).1
            have := hcell i (by omega)
            rw [hu] at this
            rw [h1, ← hsz]
            have e : (a.add (k * P.cellsOf e)).add i = a.add (k * P.cellsOf e + i) := by
              unfold Addr.add
              by_cases h1 : k * P.cellsOf e = 0 <;> by_cases h2 : i = 0 <;> simp [h1, h2, Nat.add_assoc]
            rw [← e]; exact this
    obtain ⟨xs, h1, h2, h3⟩ := key len (Nat.le_refl _)
    refine ⟨xs, ⟨some a, cap, by rw [h1], by omega, rfl, by simp only [maxLen] at hm; omega, fun _ => ⟨a, rfl, h3⟩⟩, h2⟩

/-- Of a struct's field. -/
theorem field_of {H : Type} {enc : TypeId × Value → H} {P : Program} {w : World} {base : Nat} {spare : Nat → Bool} {held : Bool} {fuel : Nat} {t : TypeId} {cs : List Value} {x : DataW H × List MemPlace} {fs : Array Field} (ht : P.underlying t = some (.struct fs))
    (h : DataW.trod enc P w base spare held fuel t cs = some x) : cs.length = P.cellsOf t ∧ ∃ n, ∀ (i : Nat) (f : Field), fs[i]? = some f → ∃ y, DataW.trod enc P w base spare held n f.type ((cs.drop f.offset).take (P.cellsOf f.type)) = some y := by
  obtain ⟨xs, n, _, _, hl, hxs, hf⟩ := DataW.trod_struct ht h
  refine ⟨hl, n, fun i f hi => ?_⟩
  have hlt : i < xs.length := by rw [hxs]; exact (Array.getElem?_eq_some_iff.1 hi).1
  exact ⟨xs[i], by rw [hf i f hi]; simp [hlt]⟩

theorem opens36 : Opens Try.prog 36 k36 (fun x => (∀ c ∈ x.f0, (Lit.int .i64 c).wf = true) ∧ ∀ c ∈ x.f1, (Lit.int .i64 c).wf = true) := by
  intro H enc w base spare held fuel cs x h
  obtain ⟨hl, n, hf⟩ := field_of Try.underlying36 h
  have hl2 : cs.length = 2 := by rw [hl]; kernel_rfl
  match cs, hl2 with
  | [c0, c1], _ =>
    obtain ⟨y0, h0⟩ := hf 0 _ rfl
    obtain ⟨y1, h1⟩ := hf 1 _ rfl
    have hc : Try.prog.cellsOf 34 = 1 := by kernel_rfl
    change DataW.trod enc Try.prog w base spare held n 34 (([c0, c1].drop 0).take (Try.prog.cellsOf 34)) = some y0 at h0
    change DataW.trod enc Try.prog w base spare held n 34 (([c0, c1].drop 1).take (Try.prog.cellsOf 34)) = some y1 at h1
    rw [hc] at h0 h1
    change DataW.trod enc Try.prog w base spare held n 34 [c0] = some y0 at h0
    change DataW.trod enc Try.prog w base spare held n 34 [c1] = some y1 at h1
    have ho := opens_slice (P := Try.prog) (t := 34) Try.underlying34 (opens_int Try.underlying3) (by kernel_rfl)
    obtain ⟨a0, ⟨A0, q0, e0, l0, k0⟩, z0⟩ := ho H enc w base spare held n _ _ h0
    obtain ⟨a1, ⟨A1, q1, e1, l1, k1⟩, z1⟩ := ho H enc w base spare held n _ _ h1
    simp only [List.cons.injEq, and_true] at e0 e1
    subst e0 e1
    exact ⟨⟨a0, a1⟩, k36_mk w ⟨a0, a1⟩ l0 k0 l1 k1, z0, z1⟩

theorem opens24 : Opens Try.prog 24 (Kd.slice 36 k36) (fun l => ∀ x ∈ l, (∀ c ∈ x.f0, (Lit.int .i64 c).wf = true) ∧ ∀ c ∈ x.f1, (Lit.int .i64 c).wf = true) :=
  opens_slice Try.underlying24 opens36 (by kernel_rfl)
theorem opens22 : Opens Try.prog 22 (Kd.slice 5 (Kd.int .u8)) (fun l => ∀ x ∈ l, (Lit.int .u8 x).wf = true) :=
  opens_slice Try.underlying22 (opens_int Try.underlying5) (by kernel_rfl)

end Go.Proofs.Ytnhalfkkamepgaa.Q
