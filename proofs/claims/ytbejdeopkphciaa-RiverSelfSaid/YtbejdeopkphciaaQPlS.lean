/- A row whose items rise: each gap that is not empty lies over itself alone. -/
import Derived.Test.YtbejdeopkphciaaQPl
namespace Go.Proofs.Ytbejdeopkphciaa.Q
open Go.RowKit Go.Proofs.YtbejdeopkphciaaW.PrintWords
set_option linter.unusedVariables false
set_option linter.unusedSimpArgs false

def selfCode (l : Int) : Int := if l % 2 = 0 then 32 else 97
/-- The row that is made: its items, its end, how many of its gaps are not empty. -/
def selfRow (ps : List (Int × Int)) : List S33 × Int × Int :=
  ps.foldl (fun s p => (s.1 ++ [⟨selfCode p.1, s.2.1⟩], s.2.1 + p.2, if p.1 % 2 = 0 ∧ 0 < p.2 then s.2.2 + 1 else s.2.2)) ([], 0, 0)
theorem selfRow_snoc (ps : List (Int × Int)) (p : Int × Int) : selfRow (ps ++ [p]) = ((selfRow ps).1 ++ [⟨selfCode p.1, (selfRow ps).2.1⟩], (selfRow ps).2.1 + p.2, if p.1 % 2 = 0 ∧ 0 < p.2 then (selfRow ps).2.2 + 1 else (selfRow ps).2.2) := by simp [selfRow]
def mkR : List (Int × Int) → Int → List S33
  | [], _ => []
  | p :: ps, e => ⟨selfCode p.1, e⟩ :: mkR ps (e + p.2)
def endR : List (Int × Int) → Int → Int
  | [], e => e
  | p :: ps, e => endR ps (e + p.2)
def cntR : List (Int × Int) → Int
  | [] => 0
  | p :: ps => (if p.1 % 2 = 0 ∧ 0 < p.2 then 1 else 0) + cntR ps
def glR : List (Int × Int) → Int → List S33
  | [], _ => []
  | p :: ps, e => (if p.1 % 2 = 0 then [⟨e, e + p.2⟩] else []) ++ glR ps (e + p.2)
theorem selfRow_eq (ps : List (Int × Int)) : selfRow ps = (mkR ps 0, endR ps 0, cntR ps) := by
  suffices h : ∀ (ps : List (Int × Int)) (l : List S33) (e n : Int), ps.foldl (fun (s : List S33 × Int × Int) p => (s.1 ++ [⟨selfCode p.1, s.2.1⟩], s.2.1 + p.2, if p.1 % 2 = 0 ∧ 0 < p.2 then s.2.2 + 1 else s.2.2)) (l, e, n) = (l ++ mkR ps e, endR ps e, n + cntR ps) by
    have := h ps [] 0 0
    unfold selfRow
    rw [this, List.nil_append, Int.zero_add]
  intro ps
  induction ps with
  | nil => intro l e n; simp [mkR, endR, cntR]
  | cons p ps ih =>
    intro l e n
    rw [List.foldl_cons, ih]
    show ((l ++ [⟨selfCode p.1, e⟩]) ++ mkR ps (e + p.2), endR ps (e + p.2), (if p.1 % 2 = 0 ∧ 0 < p.2 then n + 1 else n) + cntR ps) = (l ++ (⟨selfCode p.1, e⟩ :: mkR ps (e + p.2)), endR ps (e + p.2), n + ((if p.1 % 2 = 0 ∧ 0 < p.2 then 1 else 0) + cntR ps))
    rw [List.append_assoc, List.singleton_append]
    by_cases h : p.1 % 2 = 0 ∧ 0 < p.2
    · rw [if_pos h, if_pos h, show n + 1 + cntR ps = n + (1 + cntR ps) from by omega]
    · rw [if_neg h, if_neg h, Int.zero_add]
theorem head_mkR (ps : List (Int × Int)) (e : Int) : headX (mkR ps e) (endR ps e) = e := by cases ps <;> rfl
theorem refG_mkR : ∀ (ps : List (Int × Int)) (e : Int), refG (mkR ps e) (endR ps e) = glR ps e := by
  intro ps
  induction ps with
  | nil => intro e; rfl
  | cons p ps ih =>
    intro e
    show refG (⟨selfCode p.1, e⟩ :: mkR ps (e + p.2)) (endR ps (e + p.2)) = _
    rw [refG_cons, head_mkR, ih]
    show (if selfCode p.1 = 32 then _ else _) ++ _ = (if p.1 % 2 = 0 then [(⟨e, e + p.2⟩ : S33)] else []) ++ glR ps (e + p.2)
    unfold selfCode
    by_cases h : p.1 % 2 = 0
    · rw [if_pos h, if_pos rfl, if_pos h]
    · rw [if_neg h, if_neg (by decide), if_neg h]
theorem glR_from : ∀ (ps : List (Int × Int)) (e : Int), (∀ p ∈ ps, 0 ≤ p.2) → ∀ g ∈ glR ps e, e ≤ g.f0 := by
  intro ps
  induction ps with
  | nil => intro e _ g hg; cases hg
  | cons p ps ih =>
    intro e hw g hg
    have h0 := hw p (by simp)
    rw [glR] at hg
    rcases List.mem_append.1 hg with hg | hg
    · by_cases h : p.1 % 2 = 0
      · rw [if_pos h] at hg
        rw [List.mem_singleton.1 hg]
        exact Int.le_refl _
      · rw [if_neg h] at hg
        cases hg
    · have := ih (e + p.2) (fun q hq => hw q (by simp [hq])) g hg
      omega
theorem over_comm (x y : S33) : overB x y = overB y x := by
  unfold overB
  rw [Int.max_comm, Int.min_comm]
theorem pairs_cons {x : S33} {gs : List S33} (h : ∀ g ∈ gs, overB x g = false) : pairsN (x :: gs) (x :: gs) = (if overB x x = true then 1 else 0) + pairsN gs gs := by
  have h1 : gs.countP (overB x) = 0 := by
    rw [List.countP_eq_zero]
    intro g hg
    rw [h g hg]
    decide
  have h2 : (gs.map (fun g => (x :: gs).countP (overB g))) = gs.map (fun g => gs.countP (overB g)) := by
    apply List.map_congr_left
    intro g hg
    rw [List.countP_cons, over_comm g x, h g hg]
    rfl
  show (x :: gs).countP (overB x) + (gs.map (fun g => (x :: gs).countP (overB g))).sum = _
  rw [h2, List.countP_cons, h1]
  unfold pairsN
  omega
theorem pairs_self : ∀ (ps : List (Int × Int)) (e : Int), (∀ p ∈ ps, 0 ≤ p.2) → ((pairsN (glR ps e) (glR ps e) : Nat) : Int) = cntR ps := by
  intro ps
  induction ps with
  | nil => intro e _; rfl
  | cons p ps ih =>
    intro e hw
    have h0 := hw p (by simp)
    have hw' : ∀ q ∈ ps, 0 ≤ q.2 := fun q hq => hw q (by simp [hq])
    rw [glR, cntR, ← ih (e + p.2) hw']
    by_cases h : p.1 % 2 = 0
    · rw [if_pos h, List.singleton_append, pairs_cons (fun g hg => ?_)]
      · have : (overB ⟨e, e + p.2⟩ ⟨e, e + p.2⟩ = true) ↔ (p.1 % 2 = 0 ∧ 0 < p.2) := by
          simp only [overB, decide_eq_true_eq]
          omega
        by_cases hp : p.1 % 2 = 0 ∧ 0 < p.2
        · rw [if_pos (this.2 hp), if_pos hp]; omega
        · rw [if_neg (fun h => hp (this.1 h)), if_neg hp]; omega
      · have := glR_from ps (e + p.2) hw' g hg
        simp only [overB, decide_eq_false_iff_not]
        omega
    · rw [if_neg h, if_neg (fun hp => h hp.1), List.nil_append]
      omega
theorem self_bounds : ∀ (ps : List (Int × Int)) (e : Int), (∀ p ∈ ps, 0 ≤ p.2 ∧ p.2 ≤ 255) → e ≤ endR ps e ∧ endR ps e ≤ e + 255 * ps.length ∧ 0 ≤ cntR ps ∧ cntR ps ≤ ps.length := by
  intro ps
  induction ps with
  | nil => intro e _; simp [endR, cntR]
  | cons p ps ih =>
    intro e hw
    have h0 := hw p (by simp)
    obtain ⟨h1, h2, h3, h4⟩ := ih (e + p.2) (fun q hq => hw q (by simp [hq]))
    rw [endR, cntR, List.length_cons]
    refine ⟨by omega, by omega, ?_, ?_⟩
    · split <;> omega
    · split <;> omega
theorem mkR_length : ∀ (ps : List (Int × Int)) (e : Int), (mkR ps e).length = ps.length := by
  intro ps
  induction ps with
  | nil => intro e; rfl
  | cons p ps ih => intro e; rw [mkR, List.length_cons, ih, List.length_cons]
/-- What the statement asks of the row that is made. -/
theorem self_count (ps : List (Int × Int)) (hn : ps.length ≤ 1000) (hw : ∀ p ∈ ps, 0 ≤ p.2) : countF (selfRow ps).1 (selfRow ps).2.1 (selfRow ps).1 (selfRow ps).2.1 = (selfRow ps).2.2 := by
  rw [selfRow_eq]
  show countF (mkR ps 0) (endR ps 0) (mkR ps 0) (endR ps 0) = cntR ps
  rw [(count_eq _ _ _ _ (by rw [mkR_length]; omega) (by rw [mkR_length]; omega)).1, refG_mkR, pairs_self ps 0 hw]
end Go.Proofs.Ytbejdeopkphciaa.Q
