/- The contract of ship.Read, by hand: the rows that bytes are. -/
import Derived.Test.YthlhfnbaihdjkaaQRead3
namespace Go.Proofs.Ythlhfnbaihdjkaa.Q
open Go.RowKit Go.Proofs.YthlhfnbaihdjkaaW.PrintWords Go.Proofs.YthlhfnbaihdjkaaW.PrintLast Go.Proofs.YthlhfnbaihdjkaaW.PrintMore
set_option linter.unusedVariables false
set_option linter.unusedSimpArgs false

def rdRows : Nat → List Int → List S41 → Option (List S41 × List Int)
  | 0, s, acc => some (acc, s)
  | n + 1, s, acc => match rdRow s with
    | none => none
    | some (r, s) => rdRows n s (acc ++ [r])
def rdAll (s : List Int) : Option (List S41 × List Int) := match rd1 s with
  | none => none
  | some (n, s) => rdRows n.toNat s []
def readF (b : List Int) : List S41 × Int := match rdAll (cutL b) with
  | none => ([], 230)
  | some (l, s) => if cutB b = true ∧ s = [] ∧ checkB l = true then (l, 0) else ([], 230)
def inB (s : List Int) : Bool := s.all fun b => decide (0 ≤ b) && decide (b ≤ 255)
def ship_Read.f (l0 : List Int) : Option (List S41 × Int) := if inB l0 = true then some (readF l0) else none
theorem readF_none {b : List Int} (h : rdAll (cutL b) = none) : readF b = ([], 230) := by rw [readF, h]

theorem irow_yes (w : World) (g : Nat) (s : List Int) (W : World) (h : InAt w g s W) {r : S41} {t : List Int} (hr : rdRow s = some (r, t)) :
    Calls Try.prog 33 #[.pointer (some ⟨g, 0, none⟩)] W fun e W' => (∃ v, e = .returned (.agg #[.int .i64 r.f0, .int .i64 r.f1, .int .i64 r.f2, .int .i64 r.f3, v]) ∧ k43.R 43 W' W.heap.size (fun _ => True) v r.f4) ∧ InAt w g t W' ∧ W.grownBy W' (some g) := by
  refine (irow_any w g s W h).mono ?_
  rintro e W' ⟨hG, (⟨r', t', v, h1, rfl, h2, h3⟩ | ⟨h1, _⟩)⟩
  · rw [hr] at h1
    cases h1
    exact ⟨⟨v, rfl, h2⟩, h3, hG⟩
  · rw [hr] at h1; cases h1
theorem irow_no (w : World) (g : Nat) (s : List Int) (W : World) (h : InAt w g s W) (hr : rdRow s = none) :
    Calls Try.prog 33 #[.pointer (some ⟨g, 0, none⟩)] W fun e W' => e = .panicked lostP ∧ W.grownBy W' (some g) := by
  refine (irow_any w g s W h).mono ?_
  rintro e W' ⟨hG, (⟨r', t', v, h1, _⟩ | ⟨_, rfl⟩)⟩
  · rw [hr] at h1; cases h1
  · exact ⟨rfl, hG⟩

/-- Between two rows: the bytes that are left; the results' cells. -/
def RAt (w : World) (B g : Nat) (s : List Int) (v : Value) (acc : List S41) (Wk : World) : Prop :=
  InAt w g s Wk ∧ Wk.heap[B]? = some (.cells #[v] 22 (0, 0)) ∧ Kd.S k41 41 Wk B (fun _ => True) v acc ∧ Wk.heap[B + 1]? = some (.cells #[.int .i64 0] 26 (0, 0))
theorem RAt.drew {w Wk : World} {B g : Nat} {s : List Int} {v : Value} {acc : List S41} (h : RAt w B g s v acc Wk) : RAt w B g s v acc Wk.drew :=
  ⟨h.1.drew, blk_drew h.2.1, Kd.S_drew h.2.2.1, blk_drew h.2.2.2⟩
theorem RAt.call {w Wk W1 : World} {B g : Nat} {s t : List Int} {v : Value} {acc : List S41} (h : RAt w B g s v acc Wk) (hi : InAt w g t W1) (hg : Wk.grownBy W1 (some g)) : RAt w B g t v acc W1 := by
  obtain ⟨⟨A, c, k1, _⟩, h2, h3, h4⟩ := h
  refine ⟨hi, blk_grown h2 hg ?_, Kd.S_mono (Kd.S_grown (Kd.S_types h3 k1 (by decide)) hg (fun k hk e => hk.2 (by injection e))) (fun _ _ => trivial), blk_grown h4 hg ?_⟩
  · intro e; injection e with e; rw [e, k1] at h2; cases h2
  · intro e; injection e with e; rw [e, k1] at h4; cases h4
theorem RAt.append {w Wk W1 : World} {B g : Nat} {s : List Int} {v v1 : Value} {acc acc1 : List S41} (h : RAt w B g s v acc Wk) (h1 : Kd.S k41 41 W1 B (fun _ => True) v1 acc1) (hg : Wk.grownBy W1 v.ownBlock) (hw : w.heap.size ≤ B) : InAt w g s W1 ∧ W1.heap[B]? = some (.cells #[v] 22 (0, 0)) ∧ Kd.S k41 41 W1 B (fun _ => True) v1 acc1 ∧ W1.heap[B + 1]? = some (.cells #[.int .i64 0] 26 (0, 0)) := by
  obtain ⟨⟨A, c, k1, k2, k3, k4, k5, k6⟩, h2, h3, h4⟩ := h
  have hb := Kd.S_base h3
  have ht := Kd.S_typed h3
  have ne : ∀ {k : Nat} {cs : Array Value} {t : TypeId}, Wk.heap[k]? = some (.cells cs t (0, 0)) → t ≠ 41 → some k ≠ v.ownBlock := by
    intro k cs t hk hne e
    obtain ⟨cells, hc⟩ := ht k e.symm
    rw [hk] at hc
    injection hc with hc
    injection hc with _ hc
    exact hne hc
  exact ⟨⟨A, c, blk_grown k1 hg (ne k1 (by decide)), k2, k3, k4.grown hg k4.size (fun k e => by have := hb k e; omega), k5, k6⟩, blk_grown h2 hg (ne h2 (by decide)), h1, blk_grown h4 hg (ne h4 (by decide))⟩
/-- A row that was just taken leads to nothing that lay. -/
theorem apart_call {w Wk W1 : World} {B g : Nat} {s : List Int} {v u : Value} {acc : List S41} {r : S41} (h : Kd.S k41 41 Wk B (fun _ => True) v acc) (hi : InAt w g s Wk) (hu : k43.R 43 W1 Wk.heap.size (fun _ => True) u r.f4) (hg : Wk.grownBy W1 (some g)) (hB : B ≤ Wk.heap.size) :
    k41.M W1 B (fun k => Wk.heap.size ≤ k) r [.int .i64 r.f0, .int .i64 r.f1, .int .i64 r.f2, .int .i64 r.f3, u] ∧ (∀ k, Wk.heap.size ≤ k → some k ≠ v.ownBlock) ∧ Kd.S k41 41 W1 B (fun k => True ∧ ¬ Wk.heap.size ≤ k) v acc := by
  obtain ⟨A, c, k1, _⟩ := hi
  refine ⟨k41_mkM W1 B _ r (Kd.R_lower (Kd.R_mono (Kd.R_bound hu) (fun k hk => hk.2.1)) hB), fun k hk e => ?_, ?_⟩
  · have := Kd.S_lt h k e.symm; omega
  · refine Kd.S_mono (Kd.S_grown (Kd.S_bound (Kd.S_types h k1 (by decide))) hg (fun k hk e => hk.1.2 (by injection e))) (fun k hk => ⟨trivial, ?_⟩)
    have := hk.2.2.1
    omega

def ReadPost (w : World) (s : List Int) (e : Ending) (W' : World) : Prop :=
  ∃ v0_ : Value, e = .returned (.tuple #[v0_, .int .i64 (readF s).2]) ∧ Kd.S k41 41 W' w.heap.size (fun _ => True) v0_ (readF s).1 ∧ Below w.heap.size w W'

/-- What was thrown is caught. -/
theorem lost_end (w : World) (B : Nat) (hB : w.heap.size = B) (s : List Int) (hs : readF s = ([], 230)) (a : Act) (W : World) (x : Value) (h2 : a.tmps.getD 2 undef = .pointer (some ⟨B, 0, none⟩)) (h3 : a.tmps.getD 3 undef = .pointer (some ⟨B + 1, 0, none⟩))
    (hd : a.defers = [{ target := .fn (.func 30) #[.pointer (some ⟨B, 0, none⟩), .pointer (some ⟨B + 1, 0, none⟩)], args := #[] }]) (hx : W.heap[B]? = some (.cells #[x] 22 (0, 0))) (hy : W.heap[B + 1]? = some (.cells #[.int .i64 0] 26 (0, 0))) (hb : Below w.heap.size w W) :
    bodyPostD Try.prog Try.f16 (ReadPost w s) (.panic lostP) a W := by
  show Leaves Try.prog Try.f16 a.tmps (ReadPost w s) a.defers (.panicking lostP) W
  rw [hd]
  refine leaves_cons (f := 30) (args := #[.pointer (some ⟨B, 0, none⟩), .pointer (some ⟨B + 1, 0, none⟩)]) (by simp [lostP]) (by simp [go_sem]) ?_
  refine (catch_lost B _ _ [] W hx hy).mono ?_
  rintro e u' w'' ⟨rfl, rfl, rfl⟩
  have b1 := blk_put (blk_alloc hx (.cells #[] 58)) 0 (.slice none 0 0) rfl
  have b2 := (Below.heap_setCell (W.alloc (.cells #[] 58)) ⟨B, 0, none⟩ (.slice none 0 0) (B + 1) (by show B + 1 ≠ B; omega)).trans (blk_alloc hy (.cells #[] 58))
  have b3 := blk_put b2 0 (.int .i64 230) rfl
  have b4 := (Below.heap_setCell ((W.alloc (.cells #[] 58)).setCell ⟨B, 0, none⟩ (.slice none 0 0)) ⟨B + 1, 0, none⟩ (.int .i64 230) B (by show B ≠ B + 1; omega)).trans b1
  have hbel : Below w.heap.size w (((W.alloc (.cells #[] 58)).setCell ⟨B, 0, none⟩ (.slice none 0 0)).setCell ⟨B + 1, 0, none⟩ (.int .i64 230)) := ((below_alloc hb _).setCell (p := ⟨B, 0, none⟩) (by show _ ≤ B; omega) _).setCell (p := ⟨B + 1, 0, none⟩) (by show _ ≤ B + 1; omega) _
  generalize ((W.alloc (.cells #[] 58)).setCell ⟨B, 0, none⟩ (.slice none 0 0)).setCell ⟨B + 1, 0, none⟩ (.int .i64 230) = WF at b3 b4 hbel
  have c0 := (blk_cell b4 0).trans rfl
  have c1 := (blk_cell b3 0).trans rfl
  refine ⟨.tuple #[.slice none 0 0, .int .i64 230], ?_, .slice none 0 0, by rw [hs], by rw [hs]; exact Kd.S_nil _ _ _ _ _, hbel⟩
  rw [Array.getD_eq_getD_getElem?] at h2 h3
  simp [results, Try.results16, go_sem, h2, h3, c0, c1]

theorem done_end (w : World) (B : Nat) (hB : w.heap.size = B) (s : List Int) (a : Act) (W : World) (x : Value) (n : Int) (h2 : a.tmps.getD 2 undef = .pointer (some ⟨B, 0, none⟩)) (h3 : a.tmps.getD 3 undef = .pointer (some ⟨B + 1, 0, none⟩))
    (hd : a.defers = [{ target := .fn (.func 30) #[.pointer (some ⟨B, 0, none⟩), .pointer (some ⟨B + 1, 0, none⟩)], args := #[] }]) (hv : x.oneCell' = true) (hx : W.heap[B]? = some (.cells #[x] 22 (0, 0))) (hy : W.heap[B + 1]? = some (.cells #[.int .i64 n] 26 (0, 0))) (hn : n = (readF s).2) (hS : Kd.S k41 41 W B (fun _ => True) x (readF s).1) (hb : Below w.heap.size w W) :
    bodyPostD Try.prog Try.f16 (ReadPost w s) .ret a W := by
  show Leaves Try.prog Try.f16 a.tmps (ReadPost w s) a.defers .returning W
  rw [hd]
  refine leaves_cons (f := 30) (args := #[.pointer (some ⟨B, 0, none⟩), .pointer (some ⟨B + 1, 0, none⟩)]) (by simp) (by simp [go_sem]) ?_
  refine (catch_idle _ _ W).mono ?_
  rintro e u' w'' ⟨rfl, rfl, rfl⟩
  have c0 := (blk_cell hx 0).trans rfl
  have c1 := (blk_cell hy 0).trans rfl
  refine ⟨.tuple #[x, .int .i64 n], ?_, x, by rw [hn], by rw [hB]; exact hS, hb⟩
  rw [Array.getD_eq_getD_getElem?] at h2 h3
  simp [results, Try.results16, go_sem, h2, h3, c0, c1]

theorem mark_C (W : World) : Kd.C (Kd.int .u8) (W.alloc (.cells #[.int .u8 67, .int .u8 79] 5 (2, 3))) (some ⟨W.heap.size, 0, none⟩) 2 [67, 79] := by
  have hb := blk_new W (.cells #[.int .u8 67, .int .u8 79] 5 (2, 3))
  refine ⟨rfl, by decide, fun _ => ⟨_, rfl, fun j p hj => ?_⟩⟩
  match j, hj with
  | 0, hj => cases hj; exact ⟨[.int .u8 67], rfl, rfl, fun i u hu => by match i, hu with | 0, hu => cases hu; exact cell_of_row _ _ 0 _ 5 (2, 3) hb⟩
  | 1, hj => cases hj; exact ⟨[.int .u8 79], rfl, rfl, fun i u hu => by match i, hu with | 0, hu => cases hu; exact cell_of_row _ _ 1 _ 5 (2, 3) hb⟩

theorem cut_start (A : Option Addr) (c : Nat) (s : List Int) (w : World) (hr : Kd.C (Kd.int .u8) w A s.length s) (hc : s.length ≤ c) (hin : Byts s) :
    Calls Try.prog 31 #[.slice A s.length c, .slice (some ⟨w.heap.size + 2, 0, none⟩) 2 2] (((w.alloc (.cells #[.slice none 0 0] 22)).alloc (.cells #[.int .i64 0] 26)).alloc (.cells #[.int .u8 67, .int .u8 79] 5 (2, 3))) fun e W' =>
      ∃ A' c', e = .returned (.tuple #[.slice A' (cutL s).length c', .bool (cutB s)]) ∧ RAt w w.heap.size W'.heap.size (cutL s) (.slice none 0 0) [] (W'.alloc (.cells #[.slice A' (cutL s).length c'] 63)) := by
  have b0 := blk_alloc (blk_alloc (blk_new w (.cells #[.slice none 0 0] 22)) (.cells #[.int .i64 0] 26)) (.cells #[.int .u8 67, .int .u8 79] 5 (2, 3))
  have b1 := blk_alloc (blk_new (w.alloc (.cells #[.slice none 0 0] 22)) (.cells #[.int .i64 0] 26)) (.cells #[.int .u8 67, .int .u8 79] 5 (2, 3))
  rw [World.size_alloc] at b1
  have hC := Kd.C_alloc (Kd.C_alloc (Kd.C_alloc hr (.cells #[.slice none 0 0] 22)) (.cells #[.int .i64 0] 26)) (.cells #[.int .u8 67, .int .u8 79] 5 (2, 3))
  have hM := mark_C ((w.alloc (.cells #[.slice none 0 0] 22)).alloc (.cells #[.int .i64 0] 26))
  rw [World.size_alloc, World.size_alloc] at hM
  have hBl : Below w.heap.size w (((w.alloc (.cells #[.slice none 0 0] 22)).alloc (.cells #[.int .i64 0] 26)).alloc (.cells #[.int .u8 67, .int .u8 79] 5 (2, 3))) := below_alloc (below_alloc (below_alloc (Below.refl _ _) _) _) _
  refine (cutp_any w A c s (w.heap.size + 2) _ hr hC hc hin hM).mono ?_
  rintro e W' ⟨⟨A', c', rfl, h1, h2⟩, hb⟩
  have hcb : Byts (cutL s) := by unfold cutL; split; exact hin.drop 2; exact hin
  refine ⟨A', c', rfl, ⟨A', c', blk_new W' _, h1, h2, below_alloc (hBl.trans (hb.mono hBl.size)) _, (hBl.trans (hb.mono hBl.size)).size, hcb⟩, blk_alloc (blk_below b0 hb) _, Kd.S_nil _ _ _ _ _, blk_alloc (blk_below b1 hb) _⟩

theorem leaves_tmps {P : Program} {fn : Func} {t t' : Array Value} {R : Ending → World → Prop} (h : results fn t = results fn t') : ∀ (ds : List Deferred) (u : FrameMode) (w : World), Leaves P fn t R ds u w → Leaves P fn t' R ds u w := by
  intro ds
  induction ds with
  | nil =>
    intro u w hl
    cases u with
    | returning => obtain ⟨v, h1, h2⟩ := hl; exact ⟨v, by rw [← h]; exact h1, h2⟩
    | panicking c => exact hl
    | run => exact hl
  | cons d ds ih =>
    intro u w hl
    obtain ⟨h1, fv, cap, f, args, h2, h3, h4⟩ := hl
    refine ⟨h1, fv, cap, f, args, h2, h3, h4.mono ?_⟩
    intro e u' w' he
    cases e with
    | returned v => exact ih _ _ he
    | panicked c => exact ih _ _ he
    | outgrown => exact he
theorem put16 {w : World} {s : List Int} (N : Nat) (h2 : N ≠ 2) (h3 : N ≠ 3) (v : Value) (c : List PanicEntry) (a : Act) (w' : World) (h : bodyPostD Try.prog Try.f16 (ReadPost w s) (.panic c) (a.put (some N) v) w') : bodyPostD Try.prog Try.f16 (ReadPost w s) (.panic c) a w' := by
  refine leaves_tmps ?_ _ _ _ h
  have e2 : (a.tmps.setIfInBounds N v)[2]? = a.tmps[2]? := Array.getElem?_setIfInBounds_ne h2
  have e3 : (a.tmps.setIfInBounds N v)[3]? = a.tmps[3]? := Array.getElem?_setIfInBounds_ne h3
  simp [results, Try.results16, Act.put, e2, e3]

theorem keep_call {w Wk W1 : World} {B g : Nat} {s : List Int} {v : Value} {acc : List S41} (h : RAt w B g s v acc Wk) (hg : Wk.grownBy W1 (some g)) (hw : w.heap.size ≤ B) : W1.heap[B]? = some (.cells #[v] 22 (0, 0)) ∧ W1.heap[B + 1]? = some (.cells #[.int .i64 0] 26 (0, 0)) ∧ Below w.heap.size w W1 := by
  obtain ⟨⟨A, c, k1, k2, k3, k4, k5, k6⟩, h2, h3, h4⟩ := h
  refine ⟨blk_grown h2 hg ?_, blk_grown h4 hg ?_, k4.grown hg k4.size (fun k e => by cases e; exact k5)⟩
  · intro e; injection e with e; rw [e, k1] at h2; cases h2
  · intro e; injection e with e; rw [e, k1] at h4; cases h4
theorem set_at {w W1 : World} {B g : Nat} {s : List Int} {v v1 : Value} {acc : List S41} (h : InAt w g s W1 ∧ W1.heap[B]? = some (.cells #[v] 22 (0, 0)) ∧ Kd.S k41 41 W1 B (fun _ => True) v1 acc ∧ W1.heap[B + 1]? = some (.cells #[.int .i64 0] 26 (0, 0))) (hw : w.heap.size ≤ B) : RAt w B g s v1 acc (W1.setCell ⟨B, 0, none⟩ v1) := by
  obtain ⟨h1, h2, h3, h4⟩ := h
  have hne : g ≠ B := by rintro rfl; obtain ⟨A, c, k1, _⟩ := h1; rw [k1] at h2; cases h2
  exact ⟨h1.grown (grown_set _ B 0 _) hne hw, blk_put h2 0 _ rfl, Kd.S_set h3 h2 (by decide) 0 _, (Below.heap_setCell _ _ _ _ (by show B + 1 ≠ B; omega)).trans h4⟩
def RefB (w : World) (B : Nat) (W : World) : Prop := W.heap[B]? = some (.cells #[.slice none 0 0] 22 (0, 0)) ∧ W.heap[B + 1]? = some (.cells #[.int .i64 230] 26 (0, 0)) ∧ Below w.heap.size w W
theorem ref_at {w Wk W9 : World} {B g : Nat} {s : List Int} {v : Value} {acc : List S41} (h : RAt w B g s v acc Wk) (hb : Below Wk.heap.size Wk W9) (hw : w.heap.size ≤ B) : RefB w B ((W9.setCell ⟨B, 0, none⟩ (.slice none 0 0)).setCell ⟨B + 1, 0, none⟩ (.int .i64 230)) := by
  obtain ⟨⟨A, c, k1, k2, k3, k4, k5, k6⟩, h2, h3, h4⟩ := h
  refine ⟨(Below.heap_setCell _ _ _ _ (by show B ≠ B + 1; omega)).trans (blk_put (blk_below h2 hb) 0 _ rfl), blk_put ((Below.heap_setCell _ _ _ _ (by show B + 1 ≠ B; omega)).trans (blk_below h4 hb)) 0 _ rfl, ?_⟩
  exact ((k4.trans (hb.mono k4.size)).setCell (p := ⟨B, 0, none⟩) hw _).setCell (p := ⟨B + 1, 0, none⟩) (by show _ ≤ B + 1; omega) _
theorem acc_at {w Wk W9 : World} {B g : Nat} {s : List Int} {v : Value} {acc : List S41} (h : RAt w B g s v acc Wk) (hb : Below Wk.heap.size Wk W9) (hw : w.heap.size ≤ B) :
    ((W9.setCell ⟨B, 0, none⟩ v).setCell ⟨B + 1, 0, none⟩ (.int .i64 0)).heap[B]? = some (.cells #[v] 22 (0, 0)) ∧ ((W9.setCell ⟨B, 0, none⟩ v).setCell ⟨B + 1, 0, none⟩ (.int .i64 0)).heap[B + 1]? = some (.cells #[.int .i64 0] 26 (0, 0)) ∧ Kd.S k41 41 ((W9.setCell ⟨B, 0, none⟩ v).setCell ⟨B + 1, 0, none⟩ (.int .i64 0)) B (fun _ => True) v acc ∧ Below w.heap.size w ((W9.setCell ⟨B, 0, none⟩ v).setCell ⟨B + 1, 0, none⟩ (.int .i64 0)) := by
  obtain ⟨⟨A, c, k1, k2, k3, k4, k5, k6⟩, h2, h3, h4⟩ := h
  have q2 := blk_below h2 hb
  have q4 := (Below.heap_setCell W9 ⟨B, 0, none⟩ v (B + 1) (by show B + 1 ≠ B; omega)).trans (blk_below h4 hb)
  refine ⟨(Below.heap_setCell _ _ _ _ (by show B ≠ B + 1; omega)).trans (blk_put q2 0 _ rfl), blk_put q4 0 _ rfl, Kd.S_set (Kd.S_set (Kd.S_below h3 hb) q2 (by decide) 0 _) q4 (by decide) 0 _, ?_⟩
  exact ((k4.trans (hb.mono k4.size)).setCell (p := ⟨B, 0, none⟩) hw _).setCell (p := ⟨B + 1, 0, none⟩) (by show _ ≤ B + 1; omega) _

set_option maxHeartbeats 16000000 in
set_option maxRecDepth 100000 in
theorem read_any (A : Option Addr) (c : Nat) (s : List Int) (w : World) (hr : Kd.C (Kd.int .u8) w A s.length s) (hc : s.length ≤ c) (hin : Byts s) :
    Calls Try.prog 16 #[.slice A s.length c] w (ReadPost w s) := by
  have HCS := Aside0.mk (cut_start A c s w hr hc hin)
  have hmf : ∀ (fn : Fn) (first cap : Array Value) (w : World), (Instr.makeFunc fn first cap).run Try.prog w = .ok (.func fn first cap) w := fun _ _ _ _ => rfl
  clear hr hc hin
  go_enter_defers Try.func16, Try.ntmps16
  go_upto_region 4 with (first | (go_at_call 22; refine (mark_calls _).mono ?_; rintro e w' ⟨rfl, rfl⟩) | (go_at_call 31; refine HCS.out.mono ?_; rintro e W1 ⟨A1, c1, rfl, hR⟩; have R0 := Aside0.mk hR; clear hR))
  obtain ⟨B, hB⟩ : ∃ B, w.heap.size = B := ⟨_, rfl⟩
  obtain ⟨g, hg⟩ : ∃ g, W1.heap.size = g := ⟨_, rfl⟩
  have HB := Aside0.mk hB
  have hwB : w.heap.size ≤ B := by omega
  rw [hB, hg] at R0
  simp only [hB, hg]
  clear hB hg
  generalize W1.alloc (.cells #[.slice A1 (cutL s).length c1] 63) = W0 at R0 ⊢
  cases h1 : rd1 (cutL s) with
  | none =>
    have E1 := Aside0.mk h1
    clear h1
    go_wp2_with (go_at_call 32; refine (ib_no w g _ _ R0.out.1 E1.out).mono ?_; rintro e W9 ⟨rfl, hG⟩; have RN := Aside0.mk (keep_call R0.out hG hwB); clear hG)
    exact lost_end w B HB.out s (readF_none (by simp only [rdAll, E1.out])) _ _ _ rfl rfl rfl RN.out.1 RN.out.2.1 RN.out.2.2
  | some p1 =>
  obtain ⟨n, s5⟩ := p1
  obtain ⟨ra0, ra1⟩ := rd1_range R0.out.1.byts h1
  obtain ⟨q, rfl⟩ : ∃ q : Nat, n = (q : Int) := ⟨n.toNat, by omega⟩
  have hq : q ≤ 255 := by omega
  clear ra0 ra1
  have E1 := Aside0.mk h1
  clear h1
  go_wp2_with (go_at_call 32; refine (ib_yes w g _ _ R0.out.1 E1.out).mono ?_; rintro e W9 ⟨rfl, hI, hG⟩; have R9 := Aside0.mk (R0.out.call hI hG); clear hI hG)
  clear R0
  go_loopw [19] (fun i wr => ∃ (k : Nat) (s6 : List Int) (v : Value) (acc : List S41), k ≤ q ∧ i = .int .i64 k ∧ Aside0 (rdRows (q - k) s6 acc = rdRows q s5 []) ∧ Aside0 (acc.length = k) ∧ Aside0 (RAt w B g s6 v acc wr)) (fun i _ => q - (intOf i).toNat)
  case atStart => exact ⟨0, s5, .slice none 0 0, [], Nat.zero_le _, rfl, ⟨rfl⟩, ⟨rfl⟩, R9⟩
  case round =>
    clear R9
    obtain ⟨k, s6, v, acc, hk, rfl, HS, HL, R1⟩ := hrel
    by_cases hlt : k < q
    · have HQ : Aside0 (q - k = (q - (k + 1)) + 1) := ⟨by omega⟩
      have HS1 : Aside0 ((match rdRow s6 with | none => none | some (p, s) => rdRows (q - (k + 1)) s (acc ++ [p])) = rdRows q s5 []) := ⟨by have := HS.out; rwa [HQ.out, rdRows] at this⟩
      clear HS HQ
      go_upto_region 6 with (fail)
      cases h6 : rdRow s6 with
      | none =>
        have E6 := Aside0.mk h6
        clear h6
        refine start_ (n := 6) (S := fun w' => w'.cell? ⟨B, 0, none⟩ = some v) (ds := [5]) #[false, false, false, false, false, false] (by kernel_rfl) rfl rfl ((blk_cell R1.out.2.1 0).trans rfl) (fun hHeld => ?_)
        have R2 := Aside0.mk (R1.out.drew)
        clear R1
        generalize wr.drew = wd at R2 hHeld ⊢
        refine pure_ (i := 1) (N := some 22) (v := ?_) (a' := ?_) #[false, true, false, false, false, false] rfl rfl (by kernel_rfl) (fun c a w2 h => put16 22 (by decide) (by decide) _ c a w2 h) (Or.inl ⟨by rfl, ?_⟩) ?_ ?_
        rotate_left
        · intro w'
          go_simp
          with_reducible rfl
        rotate_left
        · simp only [Act.put, List.setIfInBounds_toArray, List.set_cons_zero, List.set_cons_succ, i64_w, i32_w]
          rfl
        refine take_ (i := 0) (N := some 21) (v := ?_) (a' := ?_) #[true, true, false, false, false, false] rfl rfl (by kernel_rfl) (fun c a w2 h => put16 21 (by decide) (by decide) _ c a w2 h) (Or.inl ⟨by rfl, ?_⟩) hHeld ?_ ?_
        rotate_left
        · rintro w' s0
          go_simp
          with_reducible rfl
        rotate_left
        · simp only [Act.put, List.setIfInBounds_toArray, List.set_cons_zero, List.set_cons_succ, i64_w, i32_w]
          rfl
        refine one_ (i := 2) (N := some 23) #[true, true, true, false, false, false] rfl rfl (by kernel_rfl) (by decide) (fun K hK => ?_)
        refine callP_ Try.func33 (by kernel_rfl) rfl #[.pointer (some ⟨g, 0, none⟩)] (by rfl) rfl (by simp only [List.map_toArray, List.map_cons, List.map_nil]; rfl) ?_
        refine (irow_no w g s6 wd R2.out.1 E6.out).mono ?_
        rintro e W3 ⟨rfl, hG⟩
        refine ⟨_, rfl, ?_⟩
        have HN : rdRows q s5 [] = none := by rw [← HS1.out]; simp only [E6.out]
        have RN := keep_call R2.out hG hwB
        exact lost_end w B HB.out s (readF_none (by simp only [rdAll, E1.out, Int.toNat_natCast, HN])) _ _ _ rfl rfl rfl RN.1 RN.2.1 RN.2.2
      | some p6 =>
        obtain ⟨r, s8⟩ := p6
        have E6 := Aside0.mk h6
        clear h6
        refine start_ (n := 6) (S := fun w' => w'.cell? ⟨B, 0, none⟩ = some v) (ds := [5]) #[false, false, false, false, false, false] (by kernel_rfl) rfl rfl ((blk_cell R1.out.2.1 0).trans rfl) (fun hHeld => ?_)
        have R2 := Aside0.mk (R1.out.drew)
        clear R1
        generalize wr.drew = wd at R2 hHeld ⊢
        refine pure_ (i := 1) (N := some 22) (v := ?_) (a' := ?_) #[false, true, false, false, false, false] rfl rfl (by kernel_rfl) (fun c a w2 h => put16 22 (by decide) (by decide) _ c a w2 h) (Or.inl ⟨by rfl, ?_⟩) ?_ ?_
        rotate_left
        · intro w'
          go_simp
          with_reducible rfl
        rotate_left
        · simp only [Act.put, List.setIfInBounds_toArray, List.set_cons_zero, List.set_cons_succ, i64_w, i32_w]
          rfl
        refine take_ (i := 0) (N := some 21) (v := ?_) (a' := ?_) #[true, true, false, false, false, false] rfl rfl (by kernel_rfl) (fun c a w2 h => put16 21 (by decide) (by decide) _ c a w2 h) (Or.inl ⟨by rfl, ?_⟩) hHeld ?_ ?_
        rotate_left
        · rintro w' s0
          go_simp
          with_reducible rfl
        rotate_left
        · simp only [Act.put, List.setIfInBounds_toArray, List.set_cons_zero, List.set_cons_succ, i64_w, i32_w]
          rfl
        refine one_ (i := 2) (N := some 23) #[true, true, true, false, false, false] rfl rfl (by kernel_rfl) (by decide) (fun K hK => ?_)
        refine goes_ Try.func33 (by kernel_rfl) rfl #[.pointer (some ⟨g, 0, none⟩)] (by rfl) rfl rfl (by simp only [List.map_toArray, List.map_cons, List.map_nil]; rfl) ?_
        refine (irow_yes w g s6 wd R2.out.1 E6.out).mono ?_
        rintro e W3 ⟨⟨u, rfl, hu⟩, hI, hG⟩
        have R3 := Aside0.mk (R2.out.call hI hG)
        have HA := Aside0.mk (apart_call R2.out.2.2.1 R2.out.1 hu hG (by have := blk_lt R2.out.2.1; omega))
        clear hI hG R2 hu
        refine ⟨_, rfl, hK.out _ _ ((blk_cell R3.out.2.1 0).trans rfl) (fun hHeld => ?_)⟩
        clear hK K
        refine norm_ (a' := ?_) ?_ ?_
        rotate_left
        · show Act.put _ (some 23) _ = _
          simp only [Act.put, List.setIfInBounds_toArray, List.set_cons_zero, List.set_cons_succ, i64_w, i32_w]
          rfl
        refine one_ (i := 3) (N := some 24) #[true, true, true, true, false, false] rfl rfl (by kernel_rfl) (by decide) (fun K hK => ?_)
        refine value_ (w1 := ?_) (v := ?_) (by rfl) rfl ?_ ?_
        rotate_left
        rotate_left
        · go_simp
          constructor
          · rfl
          · rfl
        refine hK.out _ _ ((blk_cell (blk_alloc R3.out.2.1 _) 0).trans rfl) (fun hHeld => ?_)
        clear hK K
        refine norm_ (a' := ?_) ?_ ?_
        rotate_left
        · show Act.put _ (some 24) _ = _
          simp only [Act.put, List.setIfInBounds_toArray, List.set_cons_zero, List.set_cons_succ, i64_w, i32_w]
          rfl
        refine one_ (i := 4) (N := some 25) #[true, true, true, true, true, false] rfl rfl (by kernel_rfl) (by decide) (fun K hK => ?_)
        refine Kd.S_append_step k41 (w0 := W3) B (by rfl) (.tmp 21) (.tmp 24) 22 41 (.agg #[.int .i64 0, .int .i64 0, .int .i64 0, .int .i64 0, .slice none 0 0]) 56 rfl Try.underlying22 info41 rfl (by decide) (by omega) v acc r [.int .i64 r.f0, .int .i64 r.f1, .int .i64 r.f2, .int .i64 r.f3, u] (fun _ => True) (fun k => wd.heap.size ≤ k) rfl rfl HA.out.1 (fun k hk => ⟨trivial, HA.out.2.1 k hk⟩) (fun _ _ => trivial) HA.out.2.2 (Below.refl _ _) (by have := blk_lt R3.out.2.1; omega) (by have := HL.out; omega) ?_
        intro v1 w4 ho hb hg hat
        have R4 := Aside0.mk (R3.out.append ho hg hwB)
        clear ho hb hg hat R3 HA
        obtain ⟨An, cn, en⟩ := Kd.S_slice R4.out.2.2.1
        rw [List.length_append, List.length_singleton] at en
        subst en
        refine hK.out _ _ ((blk_cell R4.out.2.1 0).trans rfl) (fun hHeld => ?_)
        clear hK K
        refine norm_ (a' := ?_) ?_ ?_
        rotate_left
        · show Act.put _ (some 25) _ = _
          simp only [Act.put, List.setIfInBounds_toArray, List.set_cons_zero, List.set_cons_succ, i64_w, i32_w]
          rfl
        have hv := (blk_cell R4.out.2.1 0).trans rfl
        have hf := blk_frozen R4.out.2.1 0
        refine last_ (i := 5) (N := none) #[true, true, true, true, true, true] rfl rfl (by kernel_rfl) (by decide) (fun K hK => ?_)
        refine skip_ (w1 := ?_) (by rfl) rfl ?_ ?_
        rotate_left
        · go_simp
          rfl
        refine hK.out _ _ ?_
        clear hK K
        refine done_ (by kernel_rfl) ?_
        go_wp2
        go_roundw
        case rel => exact ⟨k + 1, s8, _, acc ++ [r], by omega, by go_num, ⟨by rw [← HS1.out]; simp only [E6.out]⟩, ⟨by have := HL.out; simp; omega⟩, ⟨set_at R4.out hwB⟩⟩
        case measure => simp [intOf]; omega
    · have HN : Aside0 (rdRows q s5 [] = some (acc, s6)) := ⟨by have := HS.out; rw [show q - k = 0 from by omega, rdRows] at this; exact this.symm⟩
      have HRF : Aside0 (readF s = if cutB s = true ∧ s6 = [] ∧ checkB acc = true then (acc, 0) else ([], 230)) := ⟨by rw [readF]; simp only [rdAll, E1.out, Int.toNat_natCast, HN.out]⟩
      clear HS HN
      obtain ⟨Av, cv, rfl, hcv, hCv⟩ := Kd.S_reads R1.out.2.2.1
      have HCK := Aside0.mk (check_any Av cv acc wr hCv)
      have HCV := Aside0.mk hCv
      clear hCv hcv
      obtain ⟨Ai, ci, hgi, _⟩ := R1.out.1
      have hli : s6.length ≤ 9223372036854775807 := by obtain ⟨A0, c0, _, _, h3, _⟩ := R1.out.1; exact h3.2.1
      have xi := (blk_cell hgi 0).trans rfl
      have xb := (blk_cell R1.out.2.1 0).trans rfl
      have xe := (blk_cell R1.out.2.2.2 0).trans rfl
      have fb := blk_frozen R1.out.2.1 0
      have fe := blk_frozen R1.out.2.2.2 0
      clear hgi
      -- what the refusal leaves
      have REF : Aside0 (∀ W9 : World, Below wr.heap.size wr W9 → RefB w B ((W9.setCell ⟨B, 0, none⟩ (.slice none 0 0)).setCell ⟨B + 1, 0, none⟩ (.int .i64 230))) := ⟨fun W9 hb => ref_at R1.out hb hwB⟩
      cases hcb : cutB s with
      | false =>
        have HR2 : Aside0 (readF s = ([], 230)) := ⟨by rw [HRF.out, if_neg (by simp [hcb])]⟩
        clear HRF hcb
        go_wp2
        exact done_end w B HB.out s _ _ _ 230 rfl rfl rfl rfl (REF.out wr (Below.refl _ _)).1 (REF.out wr (Below.refl _ _)).2.1 (by rw [HR2.out]) (by rw [HR2.out]; exact Kd.S_nil _ _ _ _ _) (REF.out wr (Below.refl _ _)).2.2
      | true =>
        by_cases h6 : 0 < s6.length
        · have HR2 : Aside0 (readF s = ([], 230)) := ⟨by rw [HRF.out, if_neg (by rintro ⟨_, h, _⟩; rw [h] at h6; exact absurd h6 (by decide))]⟩
          clear HRF hcb
          go_wp2
          exact done_end w B HB.out s _ _ _ 230 rfl rfl rfl rfl (REF.out wr (Below.refl _ _)).1 (REF.out wr (Below.refl _ _)).2.1 (by rw [HR2.out]) (by rw [HR2.out]; exact Kd.S_nil _ _ _ _ _) (REF.out wr (Below.refl _ _)).2.2
        · have h6' : s6 = [] := List.eq_nil_of_length_eq_zero (by omega)
          cases hck : checkB acc with
          | false =>
            have HR2 : Aside0 (readF s = ([], 230)) := ⟨by rw [HRF.out, if_neg (by simp [hck])]⟩
            rw [hck] at HCK
            clear HRF hcb h6' hck
            go_wp2_with (go_at_call 13; refine HCK.out.mono ?_; rintro e W9 ⟨rfl, hb⟩; have RX := Aside0.mk (REF.out _ hb); have yb := (blk_cell (blk_below R1.out.2.1 hb) 0).trans rfl; have ye := (blk_cell (blk_below R1.out.2.2.2 hb) 0).trans rfl; have gb := blk_frozen (blk_below R1.out.2.1 hb) 0; have ge := blk_frozen (blk_below R1.out.2.2.2 hb) 0; clear hb)
            exact done_end w B HB.out s _ _ _ 230 rfl rfl rfl rfl RX.out.1 RX.out.2.1 (by rw [HR2.out]) (by rw [HR2.out]; exact Kd.S_nil _ _ _ _ _) RX.out.2.2
          | true =>
            have HR2 : Aside0 (readF s = (acc, 0)) := ⟨by rw [HRF.out, if_pos ⟨hcb, h6', hck⟩]⟩
            rw [hck] at HCK
            clear HRF hcb h6' hck
            go_wp2_with (go_at_call 13; refine HCK.out.mono ?_; rintro e W9 ⟨rfl, hb⟩; have RX := Aside0.mk (acc_at R1.out hb hwB); have yb := (blk_cell (blk_below R1.out.2.1 hb) 0).trans rfl; have ye := (blk_cell (blk_below R1.out.2.2.2 hb) 0).trans rfl; have gb := blk_frozen (blk_below R1.out.2.1 hb) 0; have ge := blk_frozen (blk_below R1.out.2.2.2 hb) 0; clear hb)
            exact done_end w B HB.out s _ _ _ 0 rfl rfl rfl rfl RX.out.1 RX.out.2.1 (by rw [HR2.out]) (by rw [HR2.out]; exact RX.out.2.2.1) RX.out.2.2.2

theorem ship_Read.calls (A0 : Option Addr) (c0 : Nat) (l0 : List Int) (r1 : List S41) (r2 : Int) (w : World) (hr0 : Kd.C (Kd.int .u8) w A0 l0.length l0) (hc0 : l0.length ≤ c0) (h : ship_Read.f l0 = some (r1, r2)) :
    Calls Try.prog 16 #[.slice A0 l0.length c0] w fun e w' => ∃ v0_ : Value, e = .returned (.tuple #[v0_, .int .i64 r2]) ∧ Kd.S k41 41 w' w.heap.size (fun _ => True) v0_ r1 ∧ Below w.heap.size w w' := by
  unfold ship_Read.f at h
  by_cases hin : inB l0 = true
  · rw [if_pos hin] at h
    have h2 := Option.some.inj h
    simp only [inB, List.all_eq_true, Bool.and_eq_true, decide_eq_true_eq] at hin
    have := read_any A0 c0 l0 w hr0 hc0 hin
    unfold ReadPost at this
    rw [h2] at this
    exact this
  · rw [if_neg hin] at h
    cases h

end Go.Proofs.Ythlhfnbaihdjkaa.Q
