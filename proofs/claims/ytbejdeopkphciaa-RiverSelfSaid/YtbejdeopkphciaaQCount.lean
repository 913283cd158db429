/- river.Count: its contract. -/
import Derived.Test.YtbejdeopkphciaaQRev
namespace Go.Proofs.Ytbejdeopkphciaa.Q
open Go.RowKit Go.Shelf Go.Proofs.YtbejdeopkphciaaW.PrintWords Go.Proofs.YtbejdeopkphciaaW.PrintLast Go.Proofs.YtbejdeopkphciaaW.PrintMore
attribute [local go_sem] Oper.semAt_some max2_int min2_int max_two min_two
set_option linter.unusedVariables false
set_option linter.unusedSimpArgs false

/-- Whether two gaps lie over one another. -/
def overB (x y : S33) : Bool := decide (max x.f0 y.f0 < min x.f1 y.f1)
def cntY (s : Int) (x : S33) (ys : List S33) : Int := ys.foldl (fun s y => if overB x y = true then wrap64 (s + 1) else s) s
def cntX (ys : List S33) (s : Int) (xs : List S33) : Int := xs.foldl (fun s x => cntY s x ys) s
theorem cntY_snoc (s : Int) (x : S33) (ys : List S33) (y : S33) : cntY s x (ys ++ [y]) = if overB x y = true then wrap64 (cntY s x ys + 1) else cntY s x ys := by simp [cntY]
theorem cntX_snoc (ys : List S33) (s : Int) (xs : List S33) (x : S33) : cntX ys s (xs ++ [x]) = cntY (cntX ys s xs) x ys := by simp [cntX]
/-- How many gaps of two rows lie over one another. -/
def countF (xa : List S33) (ea : Int) (xb : List S33) (eb : Int) : Int := cntX (gapsB xb eb) 0 (gapsB xa ea)

/-- Nothing has turned but one block. -/
def But (b : Nat) (W W' : World) : Prop := ∀ k o, W.heap[k]? = some o → k ≠ b → W'.heap[k]? = some o

set_option maxRecDepth 100000 in
set_option maxHeartbeats 4000000 in
theorem count_in (lva kda ea dfa : Int) (Aa : Option Addr) (capa : Nat) (xa : List S33) (lvb kdb eb dfb : Int) (Ab : Option Addr) (capb : Nat) (xb : List S33) (w : World) (hxa : Kd.C k33 w Aa xa.length xa) (hca : xa.length ≤ capa) (hxb : Kd.C k33 w Ab xb.length xb) (hcb : xb.length ≤ capb) :
    CallsIn Fence.wide 20 Try.prog 12 #[.agg (rowC lva kda ea dfa Aa xa.length capa), .agg (rowC lvb kdb eb dfb Ab xb.length capb)] w fun e W' => e = .returned (.int .i64 (countF xa ea xb eb)) ∧ Below w.heap.size w W' := by
  have HA := Aside0.mk hxa
  have HB := Aside0.mk hxb
  clear hxa hxb
  have h1 : 1 ≤ 20 := by omega
  unfold rowC
  refine callsIn_of_wp_marks Try.func12 rfl trivial ?_ rfl
  simp only [Try.ntmps12, List.size_toArray, List.length_cons, List.length_nil, Nat.reduceAdd, Nat.reduceSub, Array.replicate_succ, Array.replicate_zero, List.push_toArray, List.append_toArray, List.nil_append, List.cons_append]
  gi_wp2_with (refine ⟨trivial, ?_⟩; gi_at_call 15; refine (gaps_calls Fence.wide _ trivial rfl _ rfl _).mono ?_; rintro e w' ⟨rfl, rfl⟩)
  obtain ⟨M, hM⟩ : ∃ M, w.heap.size = M := ⟨_, rfl⟩
  obtain ⟨W0, hW0⟩ : ∃ W0, (((w.alloc (.cells #[.int .i64 lva, .int .i64 kda, .int .i64 ea, .int .i64 dfa, .slice Aa xa.length capa] 24)).alloc (.cells #[.int .i64 lvb, .int .i64 kdb, .int .i64 eb, .int .i64 dfb, .slice Ab xb.length capb] 24)).alloc (.cells #[.int .i64 0] 3)).alloc (.cells #[.int .i64 lva, .int .i64 kda, .int .i64 ea, .int .i64 dfa, .slice Aa xa.length capa] 24) = W0 := ⟨_, rfl⟩
  have bA : W0.heap[M + 1 + 1 + 1]? = some (.cells #[.int .i64 lva, .int .i64 kda, .int .i64 ea, .int .i64 dfa, .slice Aa xa.length capa] 24 (0, 0)) := by rw [← hW0, ← hM]; have := blk_new (((w.alloc (.cells #[.int .i64 lva, .int .i64 kda, .int .i64 ea, .int .i64 dfa, .slice Aa xa.length capa] 24)).alloc (.cells #[.int .i64 lvb, .int .i64 kdb, .int .i64 eb, .int .i64 dfb, .slice Ab xb.length capb] 24)).alloc (.cells #[.int .i64 0] 3)) (.cells #[.int .i64 lva, .int .i64 kda, .int .i64 ea, .int .i64 dfa, .slice Aa xa.length capa] 24); simp only [World.size_alloc] at this; exact this
  have bN : Boxed W0 (M + 1 + 1) 3 (.int .i64 0) := by rw [← hW0, ← hM]; have := (Boxed.new ((w.alloc (.cells #[.int .i64 lva, .int .i64 kda, .int .i64 ea, .int .i64 dfa, .slice Aa xa.length capa] 24)).alloc (.cells #[.int .i64 lvb, .int .i64 kdb, .int .i64 eb, .int .i64 dfb, .slice Ab xb.length capb] 24)) 3 (.int .i64 0)).alloc (.cells #[.int .i64 lva, .int .i64 kda, .int .i64 ea, .int .i64 dfa, .slice Aa xa.length capa] 24); simp only [World.size_alloc] at this; exact this
  have bB : W0.heap[M + 1]? = some (.cells #[.int .i64 lvb, .int .i64 kdb, .int .i64 eb, .int .i64 dfb, .slice Ab xb.length capb] 24 (0, 0)) := by rw [← hW0, ← hM]; have := blk_new (w.alloc (.cells #[.int .i64 lva, .int .i64 kda, .int .i64 ea, .int .i64 dfa, .slice Aa xa.length capa] 24)) (.cells #[.int .i64 lvb, .int .i64 kdb, .int .i64 eb, .int .i64 dfb, .slice Ab xb.length capb] 24); simp only [World.size_alloc] at this; exact blk_alloc (blk_alloc this _) _
  have hsz : W0.heap.size = M + 4 := by rw [← hW0, ← hM]; simp
  have hb0 : Below M w W0 := by rw [← hW0, ← hM]; exact ((((Below.refl _ w).alloc (Nat.le_refl _) _).alloc (by simp) _).alloc (by simp; omega) _).alloc (by simp; omega) _
  rw [hW0]
  simp only [hM]
  clear hW0
  refine gap_outer 20 (by omega) (M + 1 + 1 + 1) M lva kda ea dfa Aa capa xa w HA.out hca hM (by omega) bA hb0 rfl
    (fun pre W => Boxed W (M + 1 + 1) 3 (.int .i64 (cntX (gapsB xb eb) 0 pre)) ∧ W.heap[M + 1]? = some (.cells #[.int .i64 lvb, .int .i64 kdb, .int .i64 eb, .int .i64 dfb, .slice Ab xb.length capb] 24 (0, 0)) ∧ W.heap[M + 1 + 1 + 1]? = some (.cells #[.int .i64 lva, .int .i64 kda, .int .i64 ea, .int .i64 dfa, .slice Aa xa.length capa] 24 (0, 0)) ∧ Below M w W)
    (fun pre X Y row ⟨h1, h2, h4, h3⟩ hg hr => ⟨keep36 hg hr (by omega) h1, keep36 hg hr (by omega) h2, keep36 hg hr (by omega) h4, h3.grown hg (by have := blk_lt h2; omega) (fun k e => by have := (hr k e).1; omega)⟩)
    ⟨bN, bB, bA, hb0⟩
    (fun x a' W => ∃ Bx, M + 1 + 1 + 1 < Bx ∧ W.heap[Bx]? = some (.cells #[.int .i64 x.f0, .int .i64 x.f1] 36 (0, 0)) ∧ a' = { tmps := #[.agg #[.int .i64 lva, .int .i64 kda, .int .i64 ea, .int .i64 dfa, .slice Aa xa.length capa], .agg #[.int .i64 lvb, .int .i64 kdb, .int .i64 eb, .int .i64 dfb, .slice Ab xb.length capb], .pointer (some ⟨M, 0, none⟩), .pointer (some ⟨M + 1, 0, none⟩), .int .i64 0, .pointer (some ⟨M + 1 + 1, 0, none⟩), .pointer (some ⟨Bx, 0, none⟩), undef, .agg #[.int .i64 lva, .int .i64 kda, .int .i64 ea, .int .i64 dfa, .slice Aa xa.length capa], .func (.func 18) #[] #[.pointer (some ⟨M + 1 + 1 + 1, 0, none⟩)], gv x, undef, undef, undef, undef, undef, undef, undef, undef, undef, undef, undef, undef, undef, undef, undef, undef, undef], defers := [] })
    (fun x a' s W W' row ⟨Bx, q1, q2, q3⟩ hg hr => ⟨Bx, q1, (hg.block Bx (blk_lt q2) (fun e => by obtain ⟨_, o, h1, h2⟩ := hr Bx e.symm; rw [q2] at h1; cases h1; exact h2 _ _ rfl)).trans q2, q3⟩)
    ?assign ?body ?done
  case assign =>
    rintro l pre x W K ⟨h1, h2, h4, h3⟩ hK
    have h4l := blk_lt h4
    have h2l := blk_lt h2
    have h1l := h1.lt
    unfold gv
    gi_wp2
    exact hK _ _ ⟨(Below.refl _ _).alloc (by omega) _, fun k o hk _ => blk_alloc hk _⟩ ⟨h1.alloc _, blk_alloc h2 _, blk_alloc h4 _, h3.alloc (by omega) _⟩ ⟨W.heap.size, by omega, blk_new _ _, rfl⟩
  case body =>
    rintro l pre x a' W hl ⟨r, hr⟩ ⟨h1, h2, h4, h3⟩ ⟨Bx, hBx, hbx, rfl⟩ hlen
    have c0 : W.cell? ⟨M + 1, 0, none⟩ = some (.int .i64 lvb) := (blk_cell h2 0).trans rfl
    have c1 : W.cell? ⟨M + 1, 1, none⟩ = some (.int .i64 kdb) := (blk_cell h2 1).trans rfl
    have c2 : W.cell? ⟨M + 1, 2, none⟩ = some (.int .i64 eb) := (blk_cell h2 2).trans rfl
    have c3 : W.cell? ⟨M + 1, 3, none⟩ = some (.int .i64 dfb) := (blk_cell h2 3).trans rfl
    have c4 : W.cell? ⟨M + 1, 4, none⟩ = some (.slice Ab xb.length capb) := (blk_cell h2 4).trans rfl
    unfold gv
    gi_wp2_with (refine ⟨trivial, ?_⟩; refine (CallsIn.inRound l (gaps_calls Fence.wide _ trivial rfl _ rfl _)).mono ?_; rintro e w' ⟨rfl, rfl⟩)
    have hs4 := blk_lt h4
    refine gap_inner _ l r (blk_alloc hr _) (by omega) W.heap.size M lvb kdb eb dfb Ab capb xb w HB.out hcb hM (by omega) (blk_new W _) (h3.alloc (by omega) _) rfl
      (fun pre' W' => Boxed W' (M + 1 + 1) 3 (.int .i64 (cntY (cntX (gapsB xb eb) 0 pre) x pre')) ∧ But (M + 1 + 1) W W' ∧ W'.heap[W.heap.size]? = some (.cells #[.int .i64 lvb, .int .i64 kdb, .int .i64 eb, .int .i64 dfb, .slice Ab xb.length capb] 24 (0, 0)) ∧ Below M w W')
      (fun pre' X Y row ⟨q1, q2, q3, q4⟩ hg hr => by
        rw [World.size_alloc] at hr
        have q3l := blk_lt q3
        exact ⟨keep36 hg hr (by omega) q1, fun k o hk hne => keep36 hg hr (by have := blk_lt hk; omega) (q2 k o hk hne), keep36 hg hr (by omega) q3, q4.grown hg (by omega) (fun k e => by have := (hr k e).1; omega)⟩)
      ⟨h1.alloc _, fun k o hk _ => blk_alloc hk _, blk_new W _, h3.alloc (by omega) _⟩
      (fun y a' W' => ∃ By, W.heap.size < By ∧ W'.heap[By]? = some (.cells #[.int .i64 y.f0, .int .i64 y.f1] 36 (0, 0)) ∧ a' = { tmps := #[.agg #[.int .i64 lva, .int .i64 kda, .int .i64 ea, .int .i64 dfa, .slice Aa xa.length capa], .agg #[.int .i64 lvb, .int .i64 kdb, .int .i64 eb, .int .i64 dfb, .slice Ab xb.length capb], .pointer (some ⟨M, 0, none⟩), .pointer (some ⟨M + 1, 0, none⟩), .int .i64 0, .pointer (some ⟨M + 1 + 1, 0, none⟩), .pointer (some ⟨Bx, 0, none⟩), .pointer (some ⟨By, 0, none⟩), .agg #[.int .i64 lva, .int .i64 kda, .int .i64 ea, .int .i64 dfa, .slice Aa xa.length capa], .func (.func 18) #[] #[.pointer (some ⟨M + 1 + 1 + 1, 0, none⟩)], gv x, .agg #[.int .i64 lvb, .int .i64 kdb, .int .i64 eb, .int .i64 dfb, .slice Ab xb.length capb], .func (.func 18) #[] #[.pointer (some ⟨W.heap.size, 0, none⟩)], gv y, undef, undef, undef, undef, undef, undef, undef, undef, undef, undef, undef, undef, undef, undef], defers := [] })
      (fun y a' s X Y row ⟨By, q1, q2, q3⟩ hg hr => ⟨By, q1, (hg.block By (blk_lt q2) (fun e => by obtain ⟨_, o, h1, h2⟩ := hr By e.symm; rw [q2] at h1; cases h1; exact h2 _ _ rfl)).trans q2, q3⟩)
      ?assign2 ?body2 ?done2
    case assign2 =>
      rintro l2 pre' y W' K ⟨q1, q2, q3, q4⟩ hK
      have q3l := blk_lt q3
      unfold gv
      gi_wp2
      exact hK _ _ ⟨(Below.refl _ _).alloc (by omega) _, fun k o hk _ => blk_alloc hk _⟩ ⟨q1.alloc _, fun k o hk hne => blk_alloc (q2 k o hk hne) _, blk_alloc q3 _, q4.alloc (by omega) _⟩ ⟨W'.heap.size, by omega, blk_new _ _, rfl⟩
    case body2 =>
      rintro l2 pre' y a'' W' hl2 _ ⟨q1, q2, q3, q4⟩ ⟨By, hBy, hby, rfl⟩ _
      have hbx' := q2 _ _ hbx (by omega)
      have x0 : W'.cell? ⟨Bx, 0, none⟩ = some (.int .i64 x.f0) := (blk_cell hbx' 0).trans rfl
      have x1 : W'.cell? ⟨Bx, 1, none⟩ = some (.int .i64 x.f1) := (blk_cell hbx' 1).trans rfl
      have y0 : W'.cell? ⟨By, 0, none⟩ = some (.int .i64 y.f0) := (blk_cell hby 0).trans rfl
      have y1 : W'.cell? ⟨By, 1, none⟩ = some (.int .i64 y.f1) := (blk_cell hby 1).trans rfl
      have n0 := q1.cell
      have fN := q1.frozen
      have FY : Aside0 (overB x y = true → gPost M W.heap.size (W.heap.size + 1) (fun pre' W' => Boxed W' (M + 1 + 1) 3 (.int .i64 (cntY (cntX (gapsB xb eb) 0 pre) x pre')) ∧ But (M + 1 + 1) W W' ∧ W'.heap[W.heap.size]? = some (.cells #[.int .i64 lvb, .int .i64 kdb, .int .i64 eb, .int .i64 dfb, .slice Ab xb.length capb] 24 (0, 0)) ∧ Below M w W') (pre' ++ [y]) W' .normal { tmps := #[], defers := [] } (W'.setCell ⟨M + 1 + 1, 0, none⟩ (.int .i64 (wrap64 (cntY (cntX (gapsB xb eb) 0 pre) x pre' + 1))))) := ⟨fun ho => by
        refine ⟨⟨(Below.refl _ _).setCell (p := ⟨M + 1 + 1, 0, none⟩) (by show M ≤ M + 1 + 1; omega) _, fun k o hk hne => (Below.heap_setCell _ _ _ _ (by show k ≠ M + 1 + 1; omega)).trans hk⟩, ?_, fun k o hk hne => (Below.heap_setCell _ _ _ _ hne).trans (q2 k o hk hne), (Below.heap_setCell _ _ _ _ (by show W.heap.size ≠ M + 1 + 1; omega)).trans q3, q4.setCell (p := ⟨M + 1 + 1, 0, none⟩) (by show M ≤ M + 1 + 1; omega) _⟩
        rw [cntY_snoc, if_pos ho]
        exact q1.set _⟩
      have FN : Aside0 (overB x y = false → gPost M W.heap.size (W.heap.size + 1) (fun pre' W' => Boxed W' (M + 1 + 1) 3 (.int .i64 (cntY (cntX (gapsB xb eb) 0 pre) x pre')) ∧ But (M + 1 + 1) W W' ∧ W'.heap[W.heap.size]? = some (.cells #[.int .i64 lvb, .int .i64 kdb, .int .i64 eb, .int .i64 dfb, .slice Ab xb.length capb] 24 (0, 0)) ∧ Below M w W') (pre' ++ [y]) W' .normal { tmps := #[], defers := [] } W') := ⟨fun ho => by
        refine ⟨KG.refl _ _ _ _, ?_, q2, q3, q4⟩
        rw [cntY_snoc, if_neg (by rw [ho]; decide)]
        exact q1⟩
      unfold gv
      gi_wp2
      all_goals first
        | (refine FY.out ?_; simp only [overB, decide_eq_true_eq]; omega)
        | (refine FN.out ?_; simp only [overB, decide_eq_false_iff_not]; omega)
    case done2 =>
      rintro W' ⟨q1, q2, q3, q4⟩
      have q3l := blk_lt q3
      have FIN : Aside0 (KG M (M + 1 + 1 + 1) W0.heap.size W W' ∧ Boxed W' (M + 1 + 1) 3 (.int .i64 (cntX (gapsB xb eb) 0 (pre ++ [x]))) ∧ W'.heap[M + 1]? = some (.cells #[.int .i64 lvb, .int .i64 kdb, .int .i64 eb, .int .i64 dfb, .slice Ab xb.length capb] 24 (0, 0)) ∧ W'.heap[M + 1 + 1 + 1]? = some (.cells #[.int .i64 lva, .int .i64 kda, .int .i64 ea, .int .i64 dfa, .slice Aa xa.length capa] 24 (0, 0)) ∧ Below M w W') := ⟨by
        refine ⟨⟨⟨q4.os.trans h3.os.symm, q4.tape.trans h3.tape.symm, q4.output.trans h3.output.symm, by omega, fun k hk => (q4.block k hk).trans (h3.block k hk).symm⟩, fun k o hk ho => q2 k o hk (by rcases ho with rfl | ho <;> omega)⟩, ?_, q2 _ _ h2 (by omega), q2 _ _ h4 (by omega), q4⟩
        rw [cntX_snoc]
        exact q1⟩
      gi_wp2
      exact FIN.out
  case done =>
    rintro D W hD ⟨h1, h2, h4, h3⟩ hK
    have c1 := h1.cell
    gi_wp2
    refine ⟨by simp, .inl ⟨_, _, rfl, run_takeDeferred hK, ?_⟩⟩
    refine ⟨_, results_tmp rfl _ _ _, rfl, ?_⟩
    rw [hM]
    exact h3.grown (grownBy_putObj' W D _) (by have := blk_lt h2; omega) (fun k e => by cases e; omega)

theorem river_Count.any (lva kda ea dfa : Int) (Aa : Option Addr) (capa : Nat) (xa : List S33) (lvb kdb eb dfb : Int) (Ab : Option Addr) (capb : Nat) (xb : List S33) (w : World) (hxa : Kd.C k33 w Aa xa.length xa) (hca : xa.length ≤ capa) (hxb : Kd.C k33 w Ab xb.length xb) (hcb : xb.length ≤ capb) :
    Calls Try.prog 12 #[.agg (rowC lva kda ea dfa Aa xa.length capa), .agg (rowC lvb kdb eb dfb Ab xb.length capb)] w fun e W' => e = .returned (.int .i64 (countF xa ea xb eb)) ∧ Below w.heap.size w W' :=
  (callsIn_wide (n := 20)).1 (count_in lva kda ea dfa Aa capa xa lvb kdb eb dfb Ab capb xb w hxa hca hxb hcb)
end Go.Proofs.Ytbejdeopkphciaa.Q
