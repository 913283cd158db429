/- A loop over a row's gaps: outside of rounds, and within a round. -/
import Derived.Test.YtbejdeopkphciaaQGap
namespace Go.Proofs.Ytbejdeopkphciaa.Q
open Go.RowKit Go.Shelf Go.Proofs.YtbejdeopkphciaaW.PrintWords Go.Proofs.YtbejdeopkphciaaW.PrintLast Go.Proofs.YtbejdeopkphciaaW.PrintMore
set_option linter.unusedVariables false
set_option linter.unusedSimpArgs false

/-- How a loop's body ends that always goes on. -/
def gPost (n₀ Br M : Nat) (I : List S33 → World → Prop) (xs : List S33) (W : World) : Exit → Act → World → Prop
  | .normal, _, W' => KG n₀ Br M W W' ∧ I xs W'
  | _, _, _ => False

theorem KG.refl (n₀ Br M : Nat) (W : World) : KG n₀ Br M W W := ⟨Below.refl _ _, fun _ _ h _ => h⟩
theorem KG.mono {n₀ Br M M' : Nat} {A B : World} (h : KG n₀ Br M A B) (hM : M ≤ M') : KG n₀ Br M' A B := ⟨h.1, fun k o hk ho => h.2 k o hk (ho.imp id (fun h => ⟨Nat.le_trans hM h.1, h.2⟩))⟩
theorem KG.putObj {n₀ Br M l : Nat} (W : World) (o : Obj) (hn : n₀ ≤ l) (hb : l ≠ Br) (hl : l < M) (hlt : l < W.heap.size) : KG n₀ Br M W (W.putObj l o) :=
  ⟨(Below.refl n₀ W).grown (grownBy_putObj' W l o) (by omega) (fun k e => by cases e; omega), fun k o' hk ho => (World.putObj_heap_other (by rcases ho with rfl | ⟨h, _⟩ <;> omega)).trans hk⟩
theorem AbidesG.putObj {β : Type} {B : Nat} {J : β → World → Prop} (h : AbidesG B J) {s : β} {W : World} {l : Nat} {o : Obj} (o' : Obj) (hs : J s W) (hB : B ≤ l) (hl : W.heap[l]? = some o) (ho : o.isCells = false) : J s (W.putObj l o') :=
  h s W _ (some l) hs (grownBy_putObj' W l o') (fun r e => by cases e; exact ⟨hB, o, hl, not36_of_noncells ho⟩)
theorem keep36 {W W' : World} {row : Option Nat} {B k : Nat} {o : Obj} (hg : W.grownBy W' row) (hr : ∀ r, row = some r → B ≤ r ∧ ∃ o : Obj, W.heap[r]? = some o ∧ not36 o) (hk : k < B) (h : W.heap[k]? = some o) : W'.heap[k]? = some o :=
  (hg.block k (blk_lt h) (fun e => by have := (hr k e.symm).1; omega)).trans h

theorem gap_outer {g : Operand} {p : Tmp} {assign body : Code} {Q : Exit → Act → World → Prop} {a : Act} {w : World} (n : Nat) (hn : 6 ≤ n)
    (Br n₀ : Nat) (lv kd en df : Int) (A : Option Addr) (cap : Nat) (xs : List S33) (w0 : World) (hx : Kd.C k33 w0 A xs.length xs) (hcap : xs.length ≤ cap) (hn0 : w0.heap.size = n₀) (hBn : n₀ ≤ Br)
    (hBr : w.heap[Br]? = some (.cells (rowC lv kd en df A xs.length cap) 24 (0, 0))) (hb : Below n₀ w0 w) (hg : a.eval g = .func (.func 18) #[] #[.pointer (some ⟨Br, 0, none⟩)])
    (I : List S33 → World → Prop) (hI : AbidesG w.heap.size I) (h0 : I [] w) (Ax : S33 → Act → World → Prop) (hAx : ∀ x a', AbidesG w.heap.size (fun (_ : Unit) W => Ax x a' W))
    (hassign : ∀ (l : Nat) (pre : List S33) (x : S33) (W : World) (K : Act → World → Prop), I pre W → (∀ a' W', KG n₀ Br w.heap.size W W' → I pre W' → Ax x a' W' → K a' W') →
      assign.wpIn (Fence.wide.inRound l) (n - 1 - 1 - 1 - 1) Try.prog (Exit.then K (fun _ _ _ => False)) { tmps := a.tmps.setIfInBounds p (gv x), defers := [] } W)
    (hbody : ∀ (l : Nat) (pre : List S33) (x : S33) (a' : Act) (W : World), w.heap.size ≤ l → (∃ r, W.heap[l]? = some (.loop r)) → I pre W → Ax x a' W → pre.length < xs.length → body.wpIn (Fence.wide.inRound l) (n - 1 - 1 - 1 - 1) Try.prog (gPost n₀ Br w.heap.size I (pre ++ [x]) W) a' W)
    (hdone : ∀ (D : Nat) (W : World), w.heap.size ≤ D → I (gapsB xs en) W → W.heap[D]? = some (.deferred (some [])) → Q .normal { a with defers := { target := .collected D, args := #[] } :: a.defers } W) :
    (Code.rangeFunc g #[p] assign body).wpIn Fence.wide n Try.prog Q a w := by
  refine wpIn_rangeFunc ?_
  intro fn hfn
  obtain ⟨rec, hrec⟩ : ∃ rec : LoopState → Option Code → Loop, rec = fun st pe => { state := st, pending := pe, fn, tmps := a.tmps, params := #[p], assign, body, defers := w.heap.size } := ⟨_, rfl⟩
  obtain ⟨W1, hW1⟩ : ∃ W1, (w.alloc (.deferred (some []))).alloc (.loop (rec .ready none)) = W1 := ⟨_, rfl⟩
  have hs1 : W1.heap.size = w.heap.size + 1 + 1 := by rw [← hW1]; simp
  have hBw : Br < w.heap.size := blk_lt hBr
  have hL1 : W1.heap[w.heap.size + 1]? = some (.loop (rec .ready none)) := by
    rw [← hW1]; have := World.alloc_heap_new (w.alloc (.deferred (some []))) (.loop (rec .ready none)); rwa [World.size_alloc] at this
  have hK1 : W1.heap[w.heap.size]? = some (.deferred (some [])) := by
    rw [← hW1]; exact (Below.heap_alloc _ _ _ (by simp)).trans (World.alloc_heap_new w _)
  have hI1 : I [] W1 := by rw [← hW1]; exact hI.alloc _ (hI.alloc _ h0)
  have hb1 : Below n₀ w0 W1 := by
    rw [← hW1]; exact (hb.alloc (by omega) _).alloc (by simp; omega) _
  have hBr1 : W1.heap[Br]? = some (.cells (rowC lv kd en df A xs.length cap) 24 (0, 0)) := by rw [← hW1]; exact blk_alloc (blk_alloc hBr _) _
  refine ⟨w.heap.size + 1, [{ target := .collected w.heap.size, args := #[] }], W1, { target := .fn (.func 18) #[.pointer (some ⟨Br, 0, none⟩)], args := #[.func (.yield (w.heap.size + 1)) #[] #[]] }, W1, 18,
    #[.func (.yield (w.heap.size + 1)) #[] #[]] ++ #[.pointer (some ⟨Br, 0, none⟩)], W1, ?_, ?_, ?_, ?_, fun _ => by omega, ?_⟩
  · rw [← hW1, hrec]; exact run_enterLoop_outer _ _ _ _ _
  · simp only [resolve, hg]
    simp [go_sem]
  · intro f' hf'; trivial
  · simp [invoke, go_sem, enters_of Try.func18 (by kernel_rfl) rfl]
  · refine (gaps_in (n - 1) (by omega) (w.heap.size + 1) Br n₀ lv kd en df A cap xs w0 hx hcap hn0 W1 hBn hBr1 hb1
      (fun pre W => I pre W ∧ W.heap[w.heap.size + 1]? = some (.loop (rec .ready none)) ∧ W.heap[w.heap.size]? = some (.deferred (some [])))
      (fun s X Y row hs hg' hr => ⟨hI s X Y row hs.1 hg' (fun r e => ⟨by have := (hr r e).1; omega, (hr r e).2⟩), keep36 hg' hr (by omega) hs.2.1, keep36 hg' hr (by omega) hs.2.2⟩)
      ?_ ⟨hI1, hL1, hK1⟩).mono ?_
    · rintro pre x W ⟨hi, hl, hk⟩ hlen
      have hlt : w.heap.size + 1 < W.heap.size := blk_lt hl
      have hy := run_yield (P := Try.prog) (args := #[gv x]) hl (by rw [hrec]; rfl)
      rw [hrec] at hy
      have hy' : (Instr.yield (w.heap.size + 1) #[gv x]).run Try.prog W = .ok (.round (w.heap.size + 1) fn (a.tmps.setIfInBounds p (gv x)) assign body) W := by simpa using hy
      refine ⟨fn, _, assign, body, hy', roundIn_of_wpIn hfn ?_⟩
      clear hy hy'
      refine hassign _ pre x W _ hi ?_
      intro a' Wa hka hia hax
      replace hl := hka.2 _ _ hl (.inr ⟨by omega, not36_of_noncells rfl⟩)
      replace hk := hka.2 _ _ hk (.inr ⟨by omega, not36_of_noncells rfl⟩)
      replace hlt : w.heap.size + 1 < Wa.heap.size := blk_lt hl
      refine ⟨_, run_beginRound hl (by rw [hrec]), ?_⟩
      have hl2 : (Wa.putObj (w.heap.size + 1) (.loop { rec .ready none with state := .busy })).heap[w.heap.size + 1]? = some (.loop { rec .ready none with state := .busy }) := World.putObj_heap_same hlt
      have hk2 : (Wa.putObj (w.heap.size + 1) (.loop { rec .ready none with state := .busy })).heap[w.heap.size]? = some (.deferred (some [])) := (World.putObj_heap_other (by omega)).trans hk
      have hw2 : KG n₀ Br W1.heap.size Wa (Wa.putObj (w.heap.size + 1) (.loop { rec .ready none with state := .busy })) := KG.putObj _ _ (by omega) (by omega) (by omega) hlt
      refine wpIn_mono (hbody _ pre x a' _ (by omega) ⟨_, hl2⟩ (hI.putObj _ hia (by omega) hl rfl) ((hAx x a').putObj (s := ()) _ hax (by omega) hl rfl) hlen) ?_
      rintro e a3 W3 hp
      cases e with
      | normal =>
        obtain ⟨hk3, hi3⟩ := hp
        have hl3 := hk3.2 _ _ hl2 (.inr ⟨by omega, not36_of_noncells rfl⟩)
        have hd3 := hk3.2 _ _ hk2 (.inr ⟨by omega, not36_of_noncells rfl⟩)
        have hr := run_endRound (P := Try.prog) none hl3
        refine ⟨_, _, hr, rfl, ⟨hI.putObj _ hi3 (by omega) hl3 rfl, ?_, (World.putObj_heap_other (by omega)).trans hd3⟩, ?_⟩
        · rw [hrec]; exact World.putObj_heap_same (blk_lt hl3)
        · exact ((hka.mono (by omega)).trans hw2).trans ((hk3.mono (by omega)).trans (KG.putObj _ _ (by omega) (by omega) (by omega) (blk_lt hl3)))
      | ret => exact hp.elim
      | exit id => exact hp.elim
      | goto t => exact hp.elim
      | panic ch => exact hp.elim
      | outgrown => exact hp.elim
    · rintro e W2 ⟨⟨v, rfl⟩, hi, hl, hk⟩
      exact ⟨none, _, by have := run_endLoop (P := Try.prog) hl (by rw [hrec]; simp); rw [hrec] at this; exact this, hdone _ _ (Nat.le_refl _) (hI.putObj _ hi (by omega) hl rfl) ((World.putObj_heap_other (by omega)).trans hk)⟩

theorem gap_inner {g : Operand} {p : Tmp} {assign body : Code} {Q : Exit → Act → World → Prop} {a : Act} {w : World} (n l₀ : Nat) (r₀ : Loop) (hl₀ : w.heap[l₀]? = some (.loop r₀)) (hn : 6 ≤ n)
    (Br n₀ : Nat) (lv kd en df : Int) (A : Option Addr) (cap : Nat) (xs : List S33) (w0 : World) (hx : Kd.C k33 w0 A xs.length xs) (hcap : xs.length ≤ cap) (hn0 : w0.heap.size = n₀) (hBn : n₀ ≤ Br)
    (hBr : w.heap[Br]? = some (.cells (rowC lv kd en df A xs.length cap) 24 (0, 0))) (hb : Below n₀ w0 w) (hg : a.eval g = .func (.func 18) #[] #[.pointer (some ⟨Br, 0, none⟩)])
    (I : List S33 → World → Prop) (hI : AbidesG w.heap.size I) (h0 : I [] w) (Ax : S33 → Act → World → Prop) (hAx : ∀ x a', AbidesG w.heap.size (fun (_ : Unit) W => Ax x a' W))
    (hassign : ∀ (l : Nat) (pre : List S33) (x : S33) (W : World) (K : Act → World → Prop), I pre W → (∀ a' W', KG n₀ Br w.heap.size W W' → I pre W' → Ax x a' W' → K a' W') →
      assign.wpIn (Fence.wide.inRound l) (n - 1 - 1 - 1 - 1) Try.prog (Exit.then K (fun _ _ _ => False)) { tmps := a.tmps.setIfInBounds p (gv x), defers := [] } W)
    (hbody : ∀ (l : Nat) (pre : List S33) (x : S33) (a' : Act) (W : World), w.heap.size ≤ l → (∃ r, W.heap[l]? = some (.loop r)) → I pre W → Ax x a' W → pre.length < xs.length → body.wpIn (Fence.wide.inRound l) (n - 1 - 1 - 1 - 1) Try.prog (gPost n₀ Br w.heap.size I (pre ++ [x]) W) a' W)
    (hdone : ∀ (W : World), I (gapsB xs en) W → Q .normal a W) :
    (Code.rangeFunc g #[p] assign body).wpIn (Fence.wide.inRound l₀) n Try.prog Q a w := by
  refine wpIn_rangeFunc ?_
  intro fn hfn
  obtain ⟨rec, hrec⟩ : ∃ rec : LoopState → Option Code → Loop, rec = fun st pe => { state := st, pending := pe, fn, tmps := a.tmps, params := #[p], assign, body, defers := r₀.defers } := ⟨_, rfl⟩
  obtain ⟨W1, hW1⟩ : ∃ W1, w.alloc (.loop (rec .ready none)) = W1 := ⟨_, rfl⟩
  have hs1 : W1.heap.size = w.heap.size + 1 := by rw [← hW1]; simp
  have hBw : Br < w.heap.size := blk_lt hBr
  have hL1 : W1.heap[w.heap.size]? = some (.loop (rec .ready none)) := by
    rw [← hW1]; exact World.alloc_heap_new w _
  have hI1 : I [] W1 := by rw [← hW1]; exact hI.alloc _ h0
  have hb1 : Below n₀ w0 W1 := by
    rw [← hW1]; exact hb.alloc (by omega) _
  have hBr1 : W1.heap[Br]? = some (.cells (rowC lv kd en df A xs.length cap) 24 (0, 0)) := by rw [← hW1]; exact blk_alloc hBr _
  refine ⟨w.heap.size, [], W1, { target := .fn (.func 18) #[.pointer (some ⟨Br, 0, none⟩)], args := #[.func (.yield w.heap.size) #[] #[]] }, W1, 18,
    #[.func (.yield w.heap.size) #[] #[]] ++ #[.pointer (some ⟨Br, 0, none⟩)], W1, ?_, ?_, ?_, ?_, fun _ => by omega, ?_⟩
  · rw [← hW1, hrec]; exact run_enterLoop_inner hl₀ _ _ _ _ _
  · simp only [resolve, hg]
    simp [go_sem]
  · intro f' hf'; trivial
  · simp [invoke, go_sem, enters_of Try.func18 (by kernel_rfl) rfl]
  · refine (gaps_in (n - 1) (by omega) w.heap.size Br n₀ lv kd en df A cap xs w0 hx hcap hn0 W1 hBn hBr1 hb1
      (fun pre W => I pre W ∧ W.heap[w.heap.size]? = some (.loop (rec .ready none)))
      (fun s X Y row hs hg' hr => ⟨hI s X Y row hs.1 hg' (fun r e => ⟨by have := (hr r e).1; omega, (hr r e).2⟩), keep36 hg' hr (by omega) hs.2⟩)
      ?_ ⟨hI1, hL1⟩).mono ?_
    · rintro pre x W ⟨hi, hl⟩ hlen
      have hlt : w.heap.size < W.heap.size := blk_lt hl
      have hy := run_yield (P := Try.prog) (args := #[gv x]) hl (by rw [hrec]; rfl)
      rw [hrec] at hy
      have hy' : (Instr.yield w.heap.size #[gv x]).run Try.prog W = .ok (.round w.heap.size fn (a.tmps.setIfInBounds p (gv x)) assign body) W := by simpa using hy
      refine ⟨fn, _, assign, body, hy', roundIn_of_wpIn hfn ?_⟩
      clear hy hy'
      refine hassign _ pre x W _ hi ?_
      intro a' Wa hka hia hax
      replace hl := hka.2 _ _ hl (.inr ⟨by omega, not36_of_noncells rfl⟩)
      replace hlt : w.heap.size < Wa.heap.size := blk_lt hl
      refine ⟨_, run_beginRound hl (by rw [hrec]), ?_⟩
      have hl2 : (Wa.putObj (w.heap.size) (.loop { rec .ready none with state := .busy })).heap[w.heap.size]? = some (.loop { rec .ready none with state := .busy }) := World.putObj_heap_same hlt
      have hw2 : KG n₀ Br W1.heap.size Wa (Wa.putObj (w.heap.size) (.loop { rec .ready none with state := .busy })) := KG.putObj _ _ (by omega) (by omega) (by omega) hlt
      refine wpIn_mono (hbody _ pre x a' _ (by omega) ⟨_, hl2⟩ (hI.putObj _ hia (by omega) hl rfl) ((hAx x a').putObj (s := ()) _ hax (by omega) hl rfl) hlen) ?_
      rintro e a3 W3 hp
      cases e with
      | normal =>
        obtain ⟨hk3, hi3⟩ := hp
        have hl3 := hk3.2 _ _ hl2 (.inr ⟨by omega, not36_of_noncells rfl⟩)
        have hr := run_endRound (P := Try.prog) none hl3
        refine ⟨_, _, hr, rfl, ⟨hI.putObj _ hi3 (by omega) hl3 rfl, ?_⟩, ?_⟩
        · rw [hrec]; exact World.putObj_heap_same (blk_lt hl3)
        · exact ((hka.mono (by omega)).trans hw2).trans ((hk3.mono (by omega)).trans (KG.putObj _ _ (by omega) (by omega) (by omega) (blk_lt hl3)))
      | ret => exact hp.elim
      | exit id => exact hp.elim
      | goto t => exact hp.elim
      | panic ch => exact hp.elim
      | outgrown => exact hp.elim
    · rintro e W2 ⟨⟨v, rfl⟩, hi, hl⟩
      exact ⟨none, _, by have := run_endLoop (P := Try.prog) hl (by rw [hrec]; simp); rw [hrec] at this; exact this, hdone _ (hI.putObj _ hi (by omega) hl rfl)⟩
end Go.Proofs.Ytbejdeopkphciaa.Q
