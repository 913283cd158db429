/- Rows are taken from bytes, by hand: ship's in: fix, two, row. -/
import Derived.Test.YthlhfnbaihdjkaaQRead0
namespace Go.Proofs.Ythlhfnbaihdjkaa.Q
open Go.RowKit Go.Proofs.YthlhfnbaihdjkaaW.PrintWords Go.Proofs.YthlhfnbaihdjkaaW.PrintLast Go.Proofs.YthlhfnbaihdjkaaW.PrintMore
set_option linter.unusedVariables false
set_option linter.unusedSimpArgs false

def rd1 : List Int → Option (Int × List Int)
  | a :: s => some (a, s)
  | _ => none
def rd2 : List Int → Option (Int × List Int)
  | a :: b :: s => some (a * 256 + b, s)
  | _ => none
def rd4 : List Int → Option (Int × List Int)
  | a :: b :: c :: d :: s => some (un4 a b c d, s)
  | _ => none
def rdItem (s : List Int) : Option (S43 × List Int) := match rd1 s with
  | none => none
  | some (c, s) => match rd4 s with
    | none => none
    | some (x, s) => some (⟨c, x⟩, s)
def rdItems : Nat → List Int → List S43 → Option (List S43 × List Int)
  | 0, s, acc => some (acc, s)
  | n + 1, s, acc => match rdItem s with
    | none => none
    | some (p, s) => rdItems n s (acc ++ [p])
def rdRow (s : List Int) : Option (S41 × List Int) := match rd1 s with
  | none => none
  | some (a, s) => match rd1 s with
    | none => none
    | some (k, s) => match rd4 s with
      | none => none
      | some (e, s) => match rd4 s with
        | none => none
        | some (d, s) => match rd2 s with
          | none => none
          | some (m, s) => match rdItems m.toNat s [] with
            | none => none
            | some (l, s) => some (⟨a - 8, k, e, d, l⟩, s)

theorem InAt.byts {w : World} {g : Nat} {s : List Int} {W : World} (h : InAt w g s W) : Byts s := by obtain ⟨A, c, h1, h2, h3, h4, h5, h6⟩ := h; exact h6
theorem InAt.bel {w : World} {g : Nat} {s : List Int} {W : World} (h : InAt w g s W) : Below w.heap.size w W := by obtain ⟨A, c, h1, h2, h3, h4, h5, h6⟩ := h; exact h4
theorem InAt.lt {w : World} {g : Nat} {s : List Int} {W : World} (h : InAt w g s W) : g < W.heap.size := by obtain ⟨A, c, h1, h2, h3, h4, h5, h6⟩ := h; exact blk_lt h1
theorem InAt.ge {w : World} {g : Nat} {s : List Int} {W : World} (h : InAt w g s W) : w.heap.size ≤ g := by obtain ⟨A, c, h1, h2, h3, h4, h5, h6⟩ := h; exact h5
theorem InAt.drew {w : World} {g : Nat} {s : List Int} {W : World} (h : InAt w g s W) : InAt w g s W.drew := by obtain ⟨A, c, h1, h2, h3, h4, h5, h6⟩ := h; exact ⟨A, c, h1, h2, h3, below_drew h4, h5, h6⟩

theorem ib_yes (w : World) (g : Nat) (s : List Int) (W : World) (h : InAt w g s W) {n : Int} {t : List Int} (hr : rd1 s = some (n, t)) :
    Calls Try.prog 32 #[.pointer (some ⟨g, 0, none⟩)] W fun e W' => e = .returned (.int .i64 n) ∧ InAt w g t W' ∧ W.grownBy W' (some g) := by
  match s, hr with
  | a :: s, hr => cases hr; exact ibyte_yes w g _ _ W h
theorem ib_no (w : World) (g : Nat) (s : List Int) (W : World) (h : InAt w g s W) (hr : rd1 s = none) :
    Calls Try.prog 32 #[.pointer (some ⟨g, 0, none⟩)] W fun e W' => e = .panicked lostP ∧ W.grownBy W' (some g) := by
  match s, hr with
  | [], _ => exact ibyte_no w g W h

theorem takes_yes (w : World) (g : Nat) (s : List Int) (W : World) (n : Nat) (hn : n ≤ s.length) (h : InAt w g s W) :
    Calls Try.prog 44 #[.pointer (some ⟨g, 0, none⟩), .int .i64 (n : Int)] W fun e W' => (∃ A c, e = .returned (.slice A n c) ∧ n ≤ c ∧ Kd.C (Kd.int .u8) W' A n (s.take n)) ∧ InAt w g (s.drop n) W' ∧ W.grownBy W' (some g) := by
  refine (take_yes w g s W n hn h).mono ?_
  rintro e W1 ⟨⟨A, c, rfl, hc, hC⟩, hI, hG⟩
  exact ⟨⟨A, c, rfl, hc, Kd.C_below hC hI.bel⟩, hI, hG⟩

set_option maxHeartbeats 4000000 in
theorem ifix_yes (w : World) (g : Nat) (s : List Int) (W : World) (h : InAt w g s W) {n : Int} {t : List Int} (hr : rd4 s = some (n, t)) :
    Calls Try.prog 45 #[.pointer (some ⟨g, 0, none⟩)] W fun e W' => e = .returned (.int .i64 n) ∧ InAt w g t W' ∧ W.grownBy W' (some g) := by
  match s, hr with
  | a :: b :: c :: d :: s, hr =>
    cases hr
    obtain ⟨ha, hb1⟩ := h.byts.cons
    obtain ⟨hb, hb2⟩ := hb1.cons
    obtain ⟨hc, hb3⟩ := hb2.cons
    obtain ⟨hd, _⟩ := hb3.cons
    have HT := Aside0.mk (takes_yes w g (a :: b :: c :: d :: t) W 4 (by simp) h)
    have HX := Aside0.mk (fun (A : Option Addr) (q : Nat) (W : World) (hC : Kd.C (Kd.int .u8) W A 4 [a, b, c, d]) (hq : 4 ≤ q) => takefix_any A q a b c d W hC hq ha hb hc hd)
    generalize un4 a b c d = m at HX ⊢
    clear h ha hb hc hd hb1 hb2 hb3
    go_enter Try.func45, Try.ntmps45
    go_wp2_with (first | (go_at_call 44; refine HT.out.mono ?_; rintro e W1 ⟨⟨A, q, rfl, hq, hC⟩, hI, hG⟩; have HI := Aside0.mk hI; have HG := Aside0.mk hG; have HC := Aside0.mk hC; clear hI hG hC) | (go_at_call 53; refine (HX.out _ _ _ HC.out hq).mono ?_; rintro e W2 ⟨⟨v, rfl⟩, hb⟩; have HB := Aside0.mk hb; clear hb))
    go_ret
    exact ⟨rfl, HI.out.grown0 (grown_of_below HB.out _), World.grownBy.trans HG.out (grown_of_below HB.out _)⟩
theorem rd4_none {s : List Int} (h : rd4 s = none) : s.length < 4 := by
  match s, h with
  | [], _ => decide
  | [_], _ => simp
  | [_, _], _ => simp
  | [_, _, _], _ => simp
theorem rd2_none {s : List Int} (h : rd2 s = none) : s.length < 2 := by
  match s, h with
  | [], _ => decide
  | [_], _ => simp
set_option maxHeartbeats 4000000 in
theorem ifix_no (w : World) (g : Nat) (s : List Int) (W : World) (h : InAt w g s W) (hr : rd4 s = none) :
    Calls Try.prog 45 #[.pointer (some ⟨g, 0, none⟩)] W fun e W' => e = .panicked lostP ∧ W.grownBy W' (some g) := by
  have HT := Aside0.mk (take_no w g s W 4 (rd4_none hr) h)
  clear h hr
  go_enter Try.func45, Try.ntmps45
  go_wp2_with (go_at_call 44; refine HT.out.mono ?_; rintro e W1 ⟨rfl, hG⟩; have HG := Aside0.mk hG; clear hG)
  exact ⟨rfl, rfl, HG.out⟩
set_option maxHeartbeats 4000000 in
theorem itwo_yes (w : World) (g : Nat) (s : List Int) (W : World) (h : InAt w g s W) {n : Int} {t : List Int} (hr : rd2 s = some (n, t)) :
    Calls Try.prog 46 #[.pointer (some ⟨g, 0, none⟩)] W fun e W' => e = .returned (.int .i64 n) ∧ InAt w g t W' ∧ W.grownBy W' (some g) := by
  match s, hr with
  | a :: b :: s, hr =>
    cases hr
    obtain ⟨ha, hb1⟩ := h.byts.cons
    obtain ⟨hb, hb2⟩ := hb1.cons
    have HT := Aside0.mk (takes_yes w g (a :: b :: t) W 2 (by simp) h)
    have HX := Aside0.mk (fun (A : Option Addr) (q : Nat) (W : World) (hC : Kd.C (Kd.int .u8) W A 2 [a, b]) (hq : 2 ≤ q) => pack_Take.calls 4 A q [a, b] 2 _ _ _ W hC hq (take2 0 a b ha hb))
    generalize a * 256 + b = m at HX ⊢
    clear h ha hb hb1 hb2
    go_enter Try.func46, Try.ntmps46
    go_wp2_with (first | (go_at_call 44; refine HT.out.mono ?_; rintro e W1 ⟨⟨A, q, rfl, hq, hC⟩, hI, hG⟩; have HI := Aside0.mk hI; have HG := Aside0.mk hG; have HC := Aside0.mk hC; clear hI hG hC) | (go_at_call 54; refine (HX.out _ _ _ HC.out hq).mono ?_; rintro e W2 ⟨v, rfl, ho, hb⟩; have HB := Aside0.mk hb; clear hb ho))
    go_ret
    exact ⟨rfl, HI.out.grown0 (grown_of_below HB.out _), World.grownBy.trans HG.out (grown_of_below HB.out _)⟩
set_option maxHeartbeats 4000000 in
theorem itwo_no (w : World) (g : Nat) (s : List Int) (W : World) (h : InAt w g s W) (hr : rd2 s = none) :
    Calls Try.prog 46 #[.pointer (some ⟨g, 0, none⟩)] W fun e W' => e = .panicked lostP ∧ W.grownBy W' (some g) := by
  have HT := Aside0.mk (take_no w g s W 2 (rd2_none hr) h)
  clear h hr
  go_enter Try.func46, Try.ntmps46
  go_wp2_with (go_at_call 44; refine HT.out.mono ?_; rintro e W1 ⟨rfl, hG⟩; have HG := Aside0.mk hG; clear hG)
  exact ⟨rfl, rfl, HG.out⟩

end Go.Proofs.Ythlhfnbaihdjkaa.Q
