/- The contract of text.Read, by hand: the words of a text. -/
import Derived.Test.YtnhalfkkamepgaaQIter
import Derived.Laws.EntriesVeiled
namespace Go.Proofs.Ytnhalfkkamepgaa.Q
open Go.RowKit Go.Shelf Go.Proofs.YtnhalfkkamepgaaW.PrintWords Go.Proofs.YtnhalfkkamepgaaW.PrintLast Go.Proofs.YtnhalfkkamepgaaW.PrintMore
attribute [local go_sem] Oper.semAt_some
set_option linter.unusedVariables false
set_option linter.unusedSimpArgs false

theorem freeze_grown (W : World) (g k : Nat) : W.grownBy (W.freeze ⟨g, k, none⟩ 1) (some g) := by
  unfold World.freeze
  rw [if_neg (by decide)]
  refine ⟨rfl, rfl, rfl, by simp [Array.size_modify], fun i hi hne => ?_⟩
  show (W.heap.modify g _)[i]? = W.heap[i]?
  rw [Array.getElem?_modify, if_neg (fun e => hne (by rw [e]))]
theorem freeze_cell (W : World) (g k : Nat) (a : Addr) : (W.freeze ⟨g, k, none⟩ 1).cell? a = W.cell? a := by
  unfold World.freeze World.cell?
  rw [if_neg (by decide)]
  show (match (W.heap.modify g _)[a.block]? with | some (.cells c _ _) => _ | _ => _) = _
  rw [Array.getElem?_modify]
  by_cases h : g = a.block
  · rw [if_pos h]
    cases ho : W.heap[a.block]? with
    | none => rfl
    | some o => cases o <;> rfl
  · rw [if_neg h]; rfl

/-- A constant's bytes: a literal that is converted to its own type: its row gets a mark. -/
theorem conv_event {ops : Array Oper} {rest : List Oper} {o : Oper} {a : Act} {Q : Exit → Act → World → Prop} {w0 W : World} {B base : Nat} {ok : Nat → Prop} (hgd : o.guard = none) (x : Operand) (ho : o.op = .convert 22 22 x)
    (A : Option Addr) (c : Nat) (xs : List Int) (hx : a.eval x = .slice A xs.length c) (hn : 0 < xs.length) (HO : (Kd.int .u8).R 5 W base ok (.slice A xs.length c) xs) (HB : Below B w0 W) (hbase : B ≤ base) (hB : B ≤ W.heap.size)
    (h : ∀ w1, (Kd.int .u8).C w1 A xs.length xs → xs.length ≤ c → W.grownBy w1 (Value.slice A xs.length c).ownBlock → Below B w0 w1 → wpList Try.prog ops Q rest (a.put o.dst (.slice A xs.length c)) w1) :
    wpList Try.prog ops Q (o :: rest) a W := by
  obtain ⟨g, cap, e, hg, hlt, cells, hc⟩ := Kd.R_form HO hn
  obtain ⟨A', c', e', hl, hC⟩ := Kd.R_reads HO
  injection e with e1 e2 e3
  subst e1 e3
  injection e' with f1 _ f3
  subst f1 f3
  have hsh : W.shape? g = some (5, cells.size) := by unfold World.shape?; rw [hc]
  have hrun : (convert 22 22 (.slice (some ⟨g, 0, none⟩) xs.length c)).run Try.prog W = .ok (.slice (some ⟨g, 0, none⟩) xs.length c) (W.freeze ⟨g, cells.size, none⟩ 1) := by
    simp [convert, run_underlying Try.underlying22, run_underlying Try.underlying5, markStringish, hsh]
  refine wpList_plain hgd fun K hK => ?_
  unfold Oper.wp execOp
  simp only [ho, hx, Sem.run_bind, hrun, Result.andThen_ok, Sem.run_pure]
  refine hK _ _ (h _ ?_ hl (freeze_grown W g cells.size) ?_)
  · refine ⟨hC.1, hC.2.1, fun hp => ?_⟩
    obtain ⟨ad, e, hcs⟩ := hC.2.2 hp
    refine ⟨ad, e, fun j p hj => ?_⟩
    obtain ⟨c0, h1, h2, h3⟩ := hcs j p hj
    exact ⟨c0, h1, h2, fun i u hu => (freeze_cell W g _ _).trans (h3 i u hu)⟩
  · exact HB.grown (freeze_grown W g cells.size) hB (fun k e => by cases e; omega)

/-- What Read answers. -/
def readF (s : List Int) : List S36 × Int := match readL (toks s) [] with
  | none => ([], 130)
  | some l => if checkB l = true then (l, 0) else ([], 130)
def inB (s : List Int) : Bool := decide (s.length ≤ 1000000) && s.all fun b => decide (0 ≤ b) && decide (b ≤ 255)
def text_Read.f (l0 : List Int) : Option (List S36 × Int) := if inB l0 = true then some (readF l0) else none

theorem words_any (A : Option Addr) (n c : Nat) (w : World) : Calls Try.prog 20 #[.slice A n c] w fun e w' =>
    e = .returned (.func (.func 28) #[] #[.pointer (some ⟨w.heap.size, 0, none⟩), .pointer (some ⟨w.heap.size + 1, 0, none⟩)]) ∧ (w.alloc (.cells #[.slice A n c] 22)).alloc (.cells #[.func (.func 27) #[] #[]] 46) = w' := by
  go_enter Try.func20, Try.ntmps20
  go_wp2
  go_ret
  exact ⟨rfl, rfl⟩

set_option maxHeartbeats 4000000 in
theorem range_read {g : Operand} {assign body : Code} {Q : Exit → Act → World → Prop} {a : Act} (w W0 : World) (B : Nat) (s0 fv : Value) (s : List Int) (A : Option Addr) (c : Nat)
    (hs : Kd.C (Kd.int .u8) w A s.length s) (hc : s.length ≤ c) (hB0 : w.heap.size = B) (hsl : s.length ≤ 1000000) (hsr : ∀ b ∈ s, 0 ≤ b ∧ b ≤ 255)
    (hg : a.eval g = .func (.func 28) #[] #[.pointer (some ⟨B + 3, 0, none⟩), .pointer (some ⟨B + 4, 0, none⟩)]) (ha : a.tmps = rtmps s0 B fv) (hcode : Try.f11.body.map rangesIn = some [(assign, body)])
    (hacc : Acc w B W0 []) (hb3 : W0.heap[B + 3]? = some (.cells #[.slice A s.length c] 22 (0, 0))) (hb4 : W0.heap[B + 4]? = some (.cells #[.func (.func 27) #[] #[]] 46 (0, 0))) (hsz : W0.heap.size = B + 5)
    (hdone : ∀ out W, readL (toks s) [] = some out → Acc w B W out → W.heap[B + 5]? = some (.deferred (some [])) → Q .normal { a with defers := { target := .collected (B + 5), args := #[] } :: a.defers } W)
    (hleft : ∀ W, readL (toks s) [] = none → W.heap[B]? = some (.cells #[.slice none 0 0] 24 (0, 0)) → W.heap[B + 1]? = some (.cells #[.int .i64 130] 25 (0, 0)) → Below B w W → W.heap[B + 5]? = some (.deferred (some [])) →
      Code.ret.wpIn Fence.wide 8 Try.prog Q { a with defers := { target := .collected (B + 5), args := #[] } :: a.defers } W) :
    (Code.rangeFunc g #[12] assign body).wpIn Fence.wide 8 Try.prog Q a W0 := by
  refine wpIn_rangeFunc ?_
  intro fn _
  obtain ⟨rec, hrec⟩ : ∃ rec : LoopState → Option Code → Loop, rec = fun st pe => { state := st, pending := pe, fn, tmps := a.tmps, params := #[12], assign, body, defers := W0.heap.size } := ⟨_, rfl⟩
  obtain ⟨W1, hW1⟩ : ∃ W1, (W0.alloc (.deferred (some []))).alloc (.loop (rec .ready none)) = W1 := ⟨_, rfl⟩
  have hL1 : W1.heap[B + 6]? = some (.loop (rec .ready none)) := by
    rw [← hW1]; have := World.alloc_heap_new (W0.alloc (.deferred (some []))) (.loop (rec .ready none)); rw [World.size_alloc, hsz] at this; exact this
  have hK1 : W1.heap[B + 5]? = some (.deferred (some [])) := by
    rw [← hW1, ← hsz]; exact blk_alloc (World.alloc_heap_new W0 _) _
  have hmid : Mid w B rec W1 [] := by
    refine ⟨?_, hL1, ?_, hK1⟩
    · rw [← hW1]; exact hacc.below (below_alloc (below_alloc (Below.refl _ _) _) _)
    · rw [← hW1]; exact blk_alloc (blk_alloc hb4 _) _
  have hbt : W1.heap[B + 3]? = some (.cells #[.slice A s.length c] 22 (0, 0)) := by rw [← hW1]; exact blk_alloc (blk_alloc hb3 _) _
  refine ⟨B + 6, [{ target := .collected (B + 5), args := #[] }], W1, { target := .fn (.func 28) #[.pointer (some ⟨B + 3, 0, none⟩), .pointer (some ⟨B + 4, 0, none⟩)], args := #[.func (.yield (B + 6)) #[] #[]] }, W1, 28,
    #[.func (.yield (B + 6)) #[] #[], .pointer (some ⟨B + 3, 0, none⟩), .pointer (some ⟨B + 4, 0, none⟩)], W1, ?_, ?_, ?_, ?_, fun _ => by omega, ?_⟩
  · have := run_enterLoop_outer (P := Try.prog) (w := W0) fn a.tmps #[12] assign body
    rw [hsz] at this
    rw [show (Fence.wide.round) = none from rfl, this, ← hW1, hrec, hsz]
  · simp only [resolve, hg]
    simp [go_sem]
  · intro f' _; trivial
  · simp [invoke, go_sem, enters_of Try.func28 (by kernel_rfl) rfl]
  · refine (iter_in fn 7 (by omega) w W1 B s0 fv s A c hs hc hB0 hsl hsr assign body hcode rec (fun st pe => by rw [hrec]; exact ⟨rfl, fun _ _ => rfl⟩) (fun st pe => by rw [hrec]; exact ⟨rfl, ha, rfl, rfl, rfl⟩) hmid hbt).mono ?_
    rintro e W2 ⟨⟨v, rfl⟩, (⟨out, hrd, h1, h2, h3, h4⟩ | ⟨hrd, h1, h2, h3, h4, h5⟩)⟩
    · refine ⟨none, _, by have := run_endLoop (P := Try.prog) h2 (by rw [hrec]; simp); rw [show (rec .ready none).pending = none from by rw [hrec]] at this; exact this, ?_⟩
      exact hdone out _ hrd (h1.put (by omega) h2 rfl _) ((World.putObj_heap_other (by omega)).trans h4)
    · refine ⟨some .ret, _, by have := run_endLoop (P := Try.prog) h4 (by rw [hrec]; simp); rw [show (rec .done (some .ret)).pending = some .ret from by rw [hrec]] at this; exact this, ?_⟩
      exact hleft _ hrd ((World.putObj_heap_other (by omega)).trans h1) ((World.putObj_heap_other (by omega)).trans h2) (below_put h3 (by omega) (by have := blk_lt h1; omega) _) ((World.putObj_heap_other (by omega)).trans h5)

set_option maxHeartbeats 8000000 in
set_option maxRecDepth 100000 in
theorem read_any (A : Option Addr) (c : Nat) (s : List Int) (w : World) (hr : Kd.C (Kd.int .u8) w A s.length s) (hc : s.length ≤ c) (hin : inB s = true) :
    Calls Try.prog 11 #[.slice A s.length c] w fun e w' => ∃ v0_ : Value, e = .returned (.tuple #[v0_, .int .i64 (readF s).2]) ∧ Kd.S k36 36 w' w.heap.size (fun _ => True) v0_ (readF s).1 ∧ Below w.heap.size w w' := by
  simp only [inB, Bool.and_eq_true, decide_eq_true_eq, List.all_eq_true] at hin
  have HX := Aside0.mk hr
  have HIN := Aside0.mk hin
  have HC := Aside0.mk hc
  clear hr hin hc
  refine (callsIn_wide (n := 8)).1 ?_
  refine callsIn_of_wp_marks Try.func11 rfl trivial ?_ rfl
  simp only [Try.ntmps11, List.size_toArray, List.length_cons, List.length_nil, Nat.reduceAdd, Nat.reduceSub, Array.replicate_succ, Array.replicate_zero, List.push_toArray, List.append_toArray, List.nil_append, List.cons_append]
  gi_wp2_with (refine ⟨trivial, ?_⟩; gi_at_call 20; refine (callsIn_wide.2 (words_any _ _ _ _)).mono ?_; rintro e w' ⟨rfl, rfl⟩)
  obtain ⟨B, hB⟩ : ∃ B, w.heap.size = B := ⟨_, rfl⟩
  obtain ⟨W0, hW0⟩ : ∃ W0, ((((w.alloc (.cells #[.slice none 0 0] 24)).alloc (.cells #[.int .i64 0] 25)).alloc (.cells #[.slice none 0 0] 24)).alloc (.cells #[.slice A s.length c] 22)).alloc (.cells #[.func (.func 27) #[] #[]] 46) = W0 := ⟨_, rfl⟩
  have hb0 : W0.heap[B]? = some (.cells #[.slice none 0 0] 24 (0, 0)) := by rw [← hW0, ← hB]; exact blk_alloc (blk_alloc (blk_alloc (blk_alloc (blk_new w _) _) _) _) _
  have hb1 : W0.heap[B + 1]? = some (.cells #[.int .i64 0] 25 (0, 0)) := by
    rw [← hW0, ← hB]; have := blk_new (w.alloc (.cells #[.slice none 0 0] 24)) (.cells #[.int .i64 0] 25); rw [World.size_alloc] at this; exact blk_alloc (blk_alloc (blk_alloc this _) _) _
  have hb2 : W0.heap[B + 2]? = some (.cells #[.slice none 0 0] 24 (0, 0)) := by
    rw [← hW0, ← hB]; have := blk_new ((w.alloc (.cells #[.slice none 0 0] 24)).alloc (.cells #[.int .i64 0] 25)) (.cells #[.slice none 0 0] 24); simp only [World.size_alloc] at this; exact blk_alloc (blk_alloc this _) _
  have hb3 : W0.heap[B + 3]? = some (.cells #[.slice A s.length c] 22 (0, 0)) := by
    rw [← hW0, ← hB]; have := blk_new (((w.alloc (.cells #[.slice none 0 0] 24)).alloc (.cells #[.int .i64 0] 25)).alloc (.cells #[.slice none 0 0] 24)) (.cells #[.slice A s.length c] 22); simp only [World.size_alloc] at this; exact blk_alloc this _
  have hb4 : W0.heap[B + 4]? = some (.cells #[.func (.func 27) #[] #[]] 46 (0, 0)) := by
    rw [← hW0, ← hB]; have := blk_new ((((w.alloc (.cells #[.slice none 0 0] 24)).alloc (.cells #[.int .i64 0] 25)).alloc (.cells #[.slice none 0 0] 24)).alloc (.cells #[.slice A s.length c] 22)) (.cells #[.func (.func 27) #[] #[]] 46); simp only [World.size_alloc] at this; exact this
  have hbw : Below B w W0 := by
    rw [← hW0, ← hB]; exact below_alloc (below_alloc (below_alloc (below_alloc (below_alloc (Below.refl _ _) _) _) _) _) _
  have hsz : W0.heap.size = B + 5 := by rw [← hW0, ← hB]; simp
  have e1 : w.heap.size + 1 + 1 = B + 2 := by omega
  have e2 : w.heap.size + 1 + 1 + 1 = B + 3 := by omega
  have e3 : w.heap.size + 1 + 1 + 1 + 1 = B + 4 := by omega
  rw [hW0]
  simp only [e1, e2, e3, hB]
  clear e1 e2 e3 hW0
  refine range_read w W0 B _ _ s A c HX.out HC.out hB HIN.out.1 HIN.out.2 rfl rfl rfl ⟨_, hb2, Kd.S_nil _ _ _ _ _, hb0, hb1, hbw⟩ hb3 hb4 hsz ?done ?left
  case done =>
    clear hb0 hb1 hb2 hb3 hb4 hbw hsz
    rintro out W hrd ⟨vo, ho1, ho2, ho3, ho4, ho5⟩ hD
    obtain ⟨Ao, co, rfl, hco, hCo⟩ := Kd.S_reads ho2
    have hxo := (blk_cell ho1 0).trans rfl
    have HRD := Aside0.mk hrd
    have HO2 := Aside0.mk ho2
    have HO3 := Aside0.mk ho3
    have HO4 := Aside0.mk ho4
    have HO5 := Aside0.mk ho5
    have HD := Aside0.mk hD
    have HO1 := Aside0.mk ho1
    have HCK := Aside0.mk (check_any Ao co out W hCo)
    clear hrd ho1 ho2 ho3 ho4 ho5 hD hco hCo
    -- what the function leaves: its results' cells
    have FIN : Aside0 (∀ (a : Act) (W3 : World) (v : Value) (k : Int), a.tmps.getD 2 undef = .pointer (some ⟨B, 0, none⟩) → a.tmps.getD 3 undef = .pointer (some ⟨B + 1, 0, none⟩) → a.defers = [{ target := .collected (B + 5), args := #[] }] → v.oneCell' = true →
        W3.heap[B]? = some (.cells #[v] 24 (0, 0)) → W3.heap[B + 1]? = some (.cells #[.int .i64 k] 25 (0, 0)) → W3.heap[B + 5]? = some (.deferred (some [])) → k = (readF s).2 → Kd.S k36 36 W3 B (fun _ => True) v (readF s).1 → Below B w W3 →
        bodyPostM Fence.wide 8 Try.prog Try.f11 (fun e w' => ∃ v0_, e = .returned (.tuple #[v0_, .int .i64 (readF s).2]) ∧ Kd.S k36 36 w' w.heap.size (fun _ => True) v0_ (readF s).1 ∧ Below w.heap.size w w') .ret a W3) := ⟨by
      intro a W3 v k ha2 ha3 hd hv h0 h1 h5 hk hS hb
      have g0 : (W3.putObj (B + 5) (.deferred none)).cell? ⟨B, 0, none⟩ = some v := (blk_cell ((World.putObj_heap_other (by omega)).trans h0) 0).trans rfl
      have g1 : (W3.putObj (B + 5) (.deferred none)).cell? ⟨B + 1, 0, none⟩ = some (.int .i64 k) := (blk_cell ((World.putObj_heap_other (by omega)).trans h1) 0).trans rfl
      show LeavesInM _ _ _ _ _ _ a.defers _ _
      rw [hd]
      refine ⟨by simp, .inl ⟨_, _, rfl, run_takeDeferred h5, ?_⟩⟩
      refine ⟨.tuple #[v, .int .i64 k], ?_, v, by rw [hk], by rw [hB]; exact S_put hS h5 rfl _, by rw [hB]; exact below_put hb (by omega) (by have := blk_lt h0; omega) _⟩
      rw [Array.getD_eq_getD_getElem?] at ha2 ha3
      simp [results, Try.results11, go_sem, ha2, ha3, g0, g1]⟩
    have hBs : B < W.heap.size := blk_lt HO3.out
    have hB5 := blk_lt HD.out
    by_cases hok : checkB out = true
    · have hRF : readF s = (out, 0) := by rw [readF, HRD.out]; simp only [hok, if_true]
      have HRF := Aside0.mk hRF
      clear hRF
      gi_wp2_with (refine ⟨trivial, ?_⟩; gi_at_call 17; refine (callsIn_wide.2 HCK.out).mono ?_; rintro e w' ⟨rfl, hb⟩; have HB2 := Aside0.mk hb; have hxo' := (blk_cell (blk_below HO1.out hb) 0).trans rfl; have hc0 := (blk_cell (blk_below HO3.out hb) 0).trans rfl; have hc1 := (blk_cell (blk_below HO4.out hb) 0).trans rfl; have hf0 := blk_frozen (blk_below HO3.out hb) 0; have hf1 := blk_frozen (blk_below HO4.out hb) 0; clear hb)
      refine FIN.out _ _ (.slice Ao out.length co) 0 rfl rfl rfl rfl ?_ ?_ ?_ (by rw [HRF.out]) ?_ ?_
      · rw [Below.heap_setCell _ _ _ _ (by show B ≠ B + 1; omega)]
        exact blk_put (blk_below HO3.out HB2.out) 0 _ rfl
      · exact blk_put ((Below.heap_setCell _ _ _ _ (by show B + 1 ≠ B; omega)).trans (blk_below HO4.out HB2.out)) 0 _ rfl
      · rw [Below.heap_setCell _ _ _ _ (by show B + 5 ≠ B + 1; omega), Below.heap_setCell _ _ _ _ (by show B + 5 ≠ B; omega)]
        exact blk_below HD.out HB2.out
      · rw [HRF.out]
        have q0 := blk_below HO3.out HB2.out
        have q1 := blk_below HO4.out HB2.out
        refine Kd.S_set (Kd.S_set (Kd.S_below HO2.out HB2.out) q0 (by decide) 0 _) ((Below.heap_setCell _ _ _ _ (by show B + 1 ≠ B; omega)).trans q1) (by decide) 0 _
      · exact ((HO5.out.trans (HB2.out.mono (by omega))).setCell (p := ⟨B, 0, none⟩) (Nat.le_refl _) _).setCell (p := ⟨B + 1, 0, none⟩) (by show B ≤ B + 1; omega) _
    · have hok' : checkB out = false := Bool.eq_false_iff.2 hok
      have hRF : readF s = ([], 130) := by rw [readF, HRD.out]; simp [hok']
      have HRF := Aside0.mk hRF
      clear hRF hok
      gi_wp2_with (refine ⟨trivial, ?_⟩; gi_at_call 17; refine (callsIn_wide.2 HCK.out).mono ?_; rintro e w' ⟨rfl, hb⟩; have HB2 := Aside0.mk hb; have hxo' := (blk_cell (blk_below HO1.out hb) 0).trans rfl; have hc0 := (blk_cell (blk_below HO3.out hb) 0).trans rfl; have hc1 := (blk_cell (blk_below HO4.out hb) 0).trans rfl; have hf0 := blk_frozen (blk_below HO3.out hb) 0; have hf1 := blk_frozen (blk_below HO4.out hb) 0; clear hb)
      refine FIN.out _ _ (.slice none 0 0) 130 rfl rfl rfl rfl ?_ ?_ ?_ (by rw [HRF.out]) (by rw [HRF.out]; exact Kd.S_nil _ _ _ _ _) ?_
      · rw [Below.heap_setCell _ _ _ _ (by show B ≠ B + 1; omega)]
        exact blk_put (blk_below HO3.out HB2.out) 0 _ rfl
      · exact blk_put ((Below.heap_setCell _ _ _ _ (by show B + 1 ≠ B; omega)).trans (blk_below HO4.out HB2.out)) 0 _ rfl
      · rw [Below.heap_setCell _ _ _ _ (by show B + 5 ≠ B + 1; omega), Below.heap_setCell _ _ _ _ (by show B + 5 ≠ B; omega)]
        exact blk_below HD.out HB2.out
      · exact ((HO5.out.trans (HB2.out.mono (by omega))).setCell (p := ⟨B, 0, none⟩) (Nat.le_refl _) _).setCell (p := ⟨B + 1, 0, none⟩) (by show B ≤ B + 1; omega) _
  case left =>
    clear hb0 hb1 hb2 hb3 hb4 hbw hsz
    rintro W hrd h1 h2 h3 hD
    have hRF : readF s = ([], 130) := by rw [readF, hrd]
    have H1 := Aside0.mk h1
    have H2 := Aside0.mk h2
    have H3 := Aside0.mk h3
    have HD := Aside0.mk hD
    have HRF := Aside0.mk hRF
    clear hrd h1 h2 h3 hD hRF
    gi_wp2
    refine ⟨by simp, .inl ⟨_, _, rfl, run_takeDeferred HD.out, ?_⟩⟩
    have g0 : (W.putObj (B + 5) (.deferred none)).cell? ⟨B, 0, none⟩ = some (.slice none 0 0) := (blk_cell ((World.putObj_heap_other (by omega)).trans H1.out) 0).trans rfl
    have g1 : (W.putObj (B + 5) (.deferred none)).cell? ⟨B + 1, 0, none⟩ = some (.int .i64 130) := (blk_cell ((World.putObj_heap_other (by omega)).trans H2.out) 0).trans rfl
    refine ⟨.tuple #[.slice none 0 0, .int .i64 130], ?_, .slice none 0 0, by rw [HRF.out], by rw [HRF.out]; exact Kd.S_nil _ _ _ _ _, by rw [hB]; exact below_put H3.out (by omega) (by have := blk_lt H1.out; omega) _⟩
    simp [results, Try.results11, go_sem, g0, g1]

theorem text_Read.calls (A0 : Option Addr) (c0 : Nat) (l0 : List Int) (r1 : List S36) (r2 : Int) (w : World) (hr0 : Kd.C (Kd.int .u8) w A0 l0.length l0) (hc0 : l0.length ≤ c0) (h : text_Read.f l0 = some (r1, r2)) :
    Calls Try.prog 11 #[.slice A0 l0.length c0] w fun e w' => ∃ v0_ : Value, e = .returned (.tuple #[v0_, .int .i64 r2]) ∧ Kd.S k36 36 w' w.heap.size (fun _ => True) v0_ r1 ∧ Below w.heap.size w w' := by
  unfold text_Read.f at h
  by_cases hin : inB l0 = true
  · rw [if_pos hin] at h
    have h2 := Option.some.inj h
    have := read_any A0 c0 l0 w hr0 hc0 hin
    rw [h2] at this
    exact this
  · rw [if_neg hin] at h
    cases h

end Go.Proofs.Ytnhalfkkamepgaa.Q
