/- Gaps and counts over plain lists. -/
import Derived.Test.YtbejdeopkphciaaQRef
namespace Go.Proofs.Ytbejdeopkphciaa.Q
open Go.RowKit Go.Proofs.YtbejdeopkphciaaW.PrintWords
set_option linter.unusedVariables false
set_option linter.unusedSimpArgs false

theorem w64 {x : Int} (h1 : -9223372036854775808 ≤ x) (h2 : x ≤ 9223372036854775807) : wrap64 x = x := by unfold wrap64; omega

def headX (l : List S33) (en : Int) : Int := (l.head?.map (·.f1)).getD en
theorem refG_cons (p : S33) (ps : List S33) (en : Int) : refG (p :: ps) en = (if p.f0 = 32 then [⟨p.f1, headX ps en⟩] else []) ++ refG ps en := rfl
theorem gS_down (xs : List S33) (en : Int) : ∀ (d k : Nat), k + d = xs.length → gS xs en (down xs.length k) = ((refG (xs.drop k) en).reverse, headX (xs.drop k) en) := by
  intro d
  induction d with
  | zero =>
    intro k hk
    obtain rfl : k = xs.length := by omega
    rw [down_all, List.drop_length]
    rfl
  | succ d ih =>
    intro k hk
    have hlt : k < xs.length := by omega
    rw [down_step hlt, gS_snoc, ih (k + 1) (by omega), List.drop_eq_getElem_cons hlt, refG_cons]
    unfold gStep
    show (if xs[k].f0 = 32 then _ else _, xs[k].f1) = _
    by_cases h : xs[k].f0 = 32
    · rw [if_pos h, if_pos h, List.reverse_append]
      rfl
    · rw [if_neg h, if_neg h]
      rfl
theorem gapsB_eq (xs : List S33) (en : Int) : gapsB xs en = (refG xs en).reverse := by
  unfold gapsB
  rw [gS_down xs en xs.length 0 (by omega)]
  rfl
theorem gapsF_eq (xs : List S33) (en : Int) : gapsF xs en = refG xs en := by
  unfold gapsF
  rw [gapsB_eq, List.reverse_reverse]

def pairsN (xs ys : List S33) : Nat := (xs.map (fun x => ys.countP (overB x))).sum
theorem cntY_eq (x : S33) : ∀ (ys : List S33) (s : Int), 0 ≤ s → s + ys.length ≤ 4611686018427387904 → cntY s x ys = s + (ys.countP (overB x) : Nat) := by
  intro ys
  induction ys with
  | nil => intro s _ _; simp [cntY]
  | cons y ys ih =>
    intro s h0 h1
    rw [List.length_cons] at h1
    have e : cntY s x (y :: ys) = cntY (if overB x y = true then wrap64 (s + 1) else s) x ys := rfl
    rw [e, List.countP_cons]
    by_cases h : overB x y = true
    · rw [if_pos h, if_pos h, w64 (by omega) (by omega), ih (s + 1) (by omega) (by omega)]
      omega
    · rw [if_neg h, if_neg h, ih s h0 (by omega)]
      omega
theorem pairs_le (xs ys : List S33) : pairsN xs ys ≤ xs.length * ys.length := by
  induction xs with
  | nil => simp [pairsN]
  | cons x xs ih =>
    have h := List.countP_le_length (p := overB x) (l := ys)
    rw [List.length_cons, Nat.add_mul, Nat.one_mul]
    show List.countP (overB x) ys + pairsN xs ys ≤ _
    omega
theorem cntX_eq (ys : List S33) : ∀ (xs : List S33) (s : Int), 0 ≤ s → s + xs.length * ys.length ≤ 4611686018427387904 → cntX ys s xs = s + (pairsN xs ys : Nat) := by
  intro xs
  induction xs with
  | nil => intro s _ _; simp [cntX, pairsN]
  | cons x xs ih =>
    intro s h0 h1
    have h := List.countP_le_length (p := overB x) (l := ys)
    have e : cntX ys s (x :: xs) = cntX ys (cntY s x ys) xs := rfl
    have h2 : ((xs.length + 1 : Nat) : Int) * (ys.length : Int) = xs.length * ys.length + ys.length := by rw [Int.natCast_add, Int.add_mul]; simp
    have h3 : (0 : Int) ≤ xs.length * ys.length := by rw [← Int.natCast_mul]; omega
    rw [List.length_cons, h2] at h1
    rw [e, cntY_eq x ys s h0 (by omega), ih _ (by omega) (by omega)]
    show _ = s + ((List.countP (overB x) ys + pairsN xs ys : Nat) : Int)
    omega
theorem pairs_rev (xs ys : List S33) : pairsN xs.reverse ys.reverse = pairsN xs ys := by
  unfold pairsN
  rw [List.map_reverse, List.sum_reverse]
  simp only [List.countP_reverse]
theorem count_eq (xa xb : List S33) (ea eb : Int) (ha : xa.length ≤ 1000000) (hb : xb.length ≤ 1000000) : countF xa ea xb eb = (pairsN (refG xa ea) (refG xb eb) : Nat) ∧ cntX (refG xb eb) 0 (refG xa ea) = (pairsN (refG xa ea) (refG xb eb) : Nat) := by
  have h1 := Nat.le_trans (refG_len xa ea) ha
  have h2 := Nat.le_trans (refG_len xb eb) hb
  have h3 := Nat.mul_le_mul h1 h2
  have h4 : ((refG xa ea).length : Int) * ((refG xb eb).length : Int) ≤ 1000000000000 := by rw [← Int.natCast_mul]; omega
  constructor
  · unfold countF
    rw [gapsB_eq, gapsB_eq, cntX_eq _ _ 0 (by omega) (by rw [List.length_reverse, List.length_reverse]; omega), pairs_rev]
    omega
  · rw [cntX_eq _ _ 0 (by omega) (by omega)]
    omega
end Go.Proofs.Ytbejdeopkphciaa.Q
