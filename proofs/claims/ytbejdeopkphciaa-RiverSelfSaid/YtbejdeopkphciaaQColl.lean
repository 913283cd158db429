/- slices.AppendSeq, slices.Collect over a row's gaps. -/
import Derived.Test.YtbejdeopkphciaaQLaw
namespace Go.Proofs.Ytbejdeopkphciaa.Q
open Go.RowKit Go.Shelf Go.Proofs.YtbejdeopkphciaaW.PrintWords Go.Proofs.YtbejdeopkphciaaW.PrintLast Go.Proofs.YtbejdeopkphciaaW.PrintMore
attribute [local go_sem] Oper.semAt_some
set_option linter.unusedVariables false
set_option linter.unusedSimpArgs false

theorem R_append_run {P : Program} {α : Type} (d : Kd α) {w0 W : World} (base : Nat) (t ty e : TypeId) (z : Value) (bytes : Nat)
    (ht : P.underlying t = some (.slice e)) (hinfo : (P.info? e).map (fun i => (i.zero, i.size, i.bytes)) = some (some z, d.sz, bytes)) (hz : z.cells.size = d.sz) (hs0 : 0 < d.sz) (hb0 : 0 < bytes)
    (v : Value) (xs : List α) (p : α) (cs : List Value) (ok okp : Nat → Prop) (hp : d.M W base okp p cs) (hokp : ∀ k, okp k → ok k ∧ some k ≠ v.ownBlock) (hfresh : ∀ k, W.heap.size ≤ k → ok k)
    (HO : d.R e W base ok v xs) (HB : Below base w0 W) (hbase : base ≤ W.heap.size) (hl : (xs.length + 1) * bytes ≤ 140737488355328) :
    ∃ v1 w1, (Builtin.append_ #[t, t] ty #[v, .slice (some ⟨W.heap.size, 0, none⟩) 1 1]).run P (W.alloc (.cells cs.toArray e)) = .ok v1 w1 ∧ d.R e w1 base ok v1 (xs ++ [p]) ∧ Below base w0 w1 ∧ W.grownBy w1 v.ownBlock ∧ (v1.ownBlock = v.ownBlock ∨ ∃ b, v1.ownBlock = some b ∧ W.heap.size ≤ b) := by
  obtain ⟨h0, inner, hown, hr⟩ := HO
  obtain ⟨i0, hi, hzz⟩ := Option.map_eq_some_iff.1 hinfo
  simp only [Prod.mk.injEq] at hzz
  obtain ⟨hz0, hz1, hz2⟩ := hzz
  have hlen : xs.length + 1 ≤ 140737488355328 := Nat.le_trans (Nat.le_mul_of_pos_right _ hb0) hl
  have hys : cs.length = d.sz := d.K_len (d.K_of_M hp)
  obtain ⟨v1, w1, hrun, hown1, hg, _, hat⟩ := run_append_own_at (P := P) (W.alloc (.cells cs.toArray e)) base t ty e i0 z d.sz bytes ht hi hz0 hz1 hz2 hz hs0 v xs.length inner (hown.alloc _) ⟨W.heap.size, 0, none⟩ 1 1 cs (by rw [hys]; simp)
    (by simpa using World.news_of_block (cs := cs.toArray) (t := e) (fr := (0, 0)) (heap_alloc_new W (.cells cs.toArray e))) (d.K_one (d.K_of_M hp)) (by simp only [maxLen]; omega) hl (by simp; omega)
  have hg1 : W.grownBy w1 v.ownBlock := World.grownBy.trans (World.grownBy_alloc W _ _) hg
  have hat1 : v1.ownBlock = v.ownBlock ∨ ∃ b, v1.ownBlock = some b ∧ W.heap.size ≤ b := by
    rcases hat with hat | hat
    · exact .inl hat
    · exact .inr ⟨_, hat, by simp⟩
  exact ⟨v1, w1, hrun, Kd.R_appended h0 hr hp hokp hfresh hown1 hg1 hat1, (HB.alloc hbase _).grown hg (by simp; omega) (own_base hown), hg1, hat1⟩


theorem info36 : (Try.prog.info? 36).map (fun i => (i.zero, i.size, i.bytes)) = some (some (.agg #[.int .i64 0, .int .i64 0]), 2, 16) := by kernel_rfl

theorem wpListIn_append_run {F : Fence} {n : Nat} {P : Program} {w w1 : World} {ops : Array Oper} {rest : List Oper} {o : Oper} {a : Act} {Q : Exit → Act → World → Prop} {v1 vs vx : Value} {t : TypeId}
    (hg : o.guard = none) (s x : Operand) (hop : o.op = Op.call { callee := Callee.builtin Builtin.append, args := #[s, x], argTypes := #[t, t] }) (hs : a.eval s = vs) (hx : a.eval x = vx) (hrun : (Builtin.append_ #[t, t] o.type #[vs, vx]).run P w = .ok v1 w1)
    (hK : wpListIn F n P ops Q rest (a.put o.dst v1) w1) : wpListIn F n P ops Q (o :: rest) a w := by
  refine wpListIn_plain hg fun K hK' => ?_
  unfold Oper.wpIn
  refine ⟨?_, ?_⟩
  · simp [Oper.about, hop, resolve, Target.leads, Sem.run_pure]
  · rw [Oper.semAt_plain F _ _ (by rw [hop]; intro c hc'; cases hc')]
    simp [execOp, hop, resolve, invoke, builtin, hs, hx, hrun, Result.andThen]
    exact hK' _ _ hK

/-- What has come: a row of the call's own. -/
def Got (M : Nat) (w : World) (pre : List S33) (W : World) : Prop := ∃ v, Boxed W M 28 v ∧ k33.R 36 W M (fun _ => True) v pre ∧ Below M w W
theorem got_abides (M : Nat) (w : World) (B : Nat) (hB : M < B) : AbidesG B (Got M w) := fun s W W' row ⟨v, h1, h2, h3⟩ hg hr => by
  refine ⟨v, keep36 hg hr hB h1, Kd.R_grown2 h2 rfl hg (fun k e h => ?_), h3.grown hg (by have := h1.lt; omega) (fun k e => by have := (hr k e).1; omega)⟩
  obtain ⟨_, o, ho, hn⟩ := hr k e
  obtain ⟨cs, hc⟩ := Kd.R_typed h2 k h.symm
  rw [ho] at hc
  cases hc
  exact hn _ _ rfl

set_option maxRecDepth 100000 in
set_option maxHeartbeats 4000000 in
theorem appendSeq_in (n : Nat) (hn : 6 ≤ n) (Br n₀ : Nat) (lv kd en df : Int) (A : Option Addr) (cap : Nat) (xs : List S33) (w0 w : World) (hx : Kd.C k33 w0 A xs.length xs) (hcap : xs.length ≤ cap) (hn0 : w0.heap.size = n₀) (hBn : n₀ ≤ Br) (hxl : xs.length ≤ 1000000)
    (hBr : w.heap[Br]? = some (.cells (rowC lv kd en df A xs.length cap) 24 (0, 0))) (hb : Below n₀ w0 w) :
    CallsIn Fence.wide n Try.prog 17 #[.slice none 0 0, .func (.func 18) #[] #[.pointer (some ⟨Br, 0, none⟩)]] w fun e W' => ∃ v, e = .returned v ∧ k33.R 36 W' w.heap.size (fun _ => True) v (gapsB xs en) ∧ Below w.heap.size w W' := by
  have HX := Aside0.mk hx
  have h1n : 1 ≤ n := by omega
  have hBW := blk_lt hBr
  clear hx
  refine callsIn_of_wp_marks Try.func17 rfl trivial ?_ rfl
  simp only [Try.ntmps17, List.size_toArray, List.length_cons, List.length_nil, Nat.reduceAdd, Nat.reduceSub, Array.replicate_succ, Array.replicate_zero, List.push_toArray, List.append_toArray, List.nil_append, List.cons_append]
  gi_wp2
  obtain ⟨M, hM⟩ : ∃ M, w.heap.size = M := ⟨_, rfl⟩
  refine gap_outer n hn Br n₀ lv kd en df A cap xs w0 HX.out hcap hn0 hBn (blk_alloc hBr _) (hb.alloc (by omega) _) rfl
    (Got M w) (got_abides M w _ (by simp; omega)) ⟨_, by rw [← hM]; exact Boxed.new w 28 _, Kd.R_nil _ _ _ _ _, (Below.refl _ _).alloc (by omega) _⟩
    (fun x a' W' => ∃ Bx, M < Bx ∧ W'.heap[Bx]? = some (.cells #[.int .i64 x.f0, .int .i64 x.f1] 36 (0, 0)) ∧ a' = { tmps := #[.slice none 0 0, .func (.func 18) #[] #[.pointer (some ⟨Br, 0, none⟩)], .pointer (some ⟨M, 0, none⟩), undef, .slice none 0 0, .pointer (some ⟨Bx, 0, none⟩), .func (.func 18) #[] #[.pointer (some ⟨Br, 0, none⟩)], gv x, undef, undef, undef, undef, undef], defers := [] })
    (fun x a' s W W' row ⟨Bx, q1, q2, q3⟩ hg hr => ⟨Bx, q1, (hg.block Bx (blk_lt q2) (fun e => by obtain ⟨_, o, h1, h2⟩ := hr Bx e.symm; rw [q2] at h1; cases h1; exact h2 _ _ rfl)).trans q2, q3⟩)
    ?assign ?body ?done
  case assign =>
    rintro l pre x W K ⟨v, h1, h2, h3⟩ hK
    have h1l := h1.lt
    unfold gv
    gi_wp2
    exact hK _ _ ⟨(Below.refl _ _).alloc (by omega) _, fun k o hk _ => blk_alloc hk _⟩ ⟨v, h1.alloc _, Kd.R_below h2 (below_alloc (Below.refl _ _) _), h3.alloc (by omega) _⟩ ⟨W.heap.size, by omega, blk_new _ _, rfl⟩
  case body =>
    rintro l pre x a' W hl _ ⟨v, h1, h2, h3⟩ ⟨Bx, hBx, hbx, rfl⟩ hlen
    unfold gv
    obtain ⟨A0, c0, rfl⟩ := Kd.R_slice h2
    have hx0 := h1.cell
    have hx1 : W.cell? ⟨Bx, 0, none⟩ = some (.int .i64 x.f0) := (blk_cell hbx 0).trans rfl
    have hx2 : W.cell? ⟨Bx, 1, none⟩ = some (.int .i64 x.f1) := (blk_cell hbx 1).trans rfl
    have hx0' : (W.alloc (.cells #[.int .i64 x.f0, .int .i64 x.f1] 36)).cell? ⟨M, 0, none⟩ = some (.slice A0 pre.length c0) := (World.cell?_alloc_lt _ _ _ (World.block_lt_of_cell? _ _ hx0)).trans hx0
    obtain ⟨v1, w1, hrun, hS1, hB1, hg1, hat1⟩ := R_append_run (P := Try.prog) k33 (w0 := W) (W := W) M 28 28 36 (.agg #[.int .i64 0, .int .i64 0]) 16 Try.underlying28 info36 rfl (by decide) (by omega) (.slice A0 pre.length c0) pre x [.int .i64 x.f0, .int .i64 x.f1] (fun _ => True) (fun _ => False)
      (k33_mkM _ _ _ x) (fun k hk => hk.elim) (fun _ _ => trivial) h2 (Below.refl _ _) (by have := h1.lt; omega) (by omega)
    change Sem.run Try.prog (Builtin.append_ #[28, 28] 28 #[.slice A0 pre.length c0, .slice (some ⟨W.heap.size, 0, none⟩) 1 1]) (W.alloc (.cells #[.int .i64 x.f0, .int .i64 x.f1] 36)) = .ok v1 w1 at hrun
    have hro : Boxed w1 M 28 (.slice A0 pre.length c0) := h1.kept hg1 (fun e => by
      obtain ⟨cs, hc⟩ := Kd.R_typed h2 M e.symm
      rw [show W.heap[M]? = _ from h1] at hc
      cases hc)
    obtain ⟨A1, c1, e1⟩ := Kd.R_slice hS1
    rw [List.length_append, List.length_singleton] at e1
    subst e1
    have hco1 := hro.cell
    have hfo1 := hro.frozen
    have hty : ∀ k, (Value.slice A0 pre.length c0).ownBlock = some k → ∃ cells, W.heap[k]? = some (.cells cells 36 (0, 0)) := Kd.R_typed h2
    have hbs : ∀ k, (Value.slice A0 pre.length c0).ownBlock = some k → M ≤ k := Kd.R_base h2
    have FIN : Aside0 (KG n₀ Br (M + 1) W (w1.setCell ⟨M, 0, none⟩ (.slice A1 (pre.length + 1) c1)) ∧ Got M w (pre ++ [x]) (w1.setCell ⟨M, 0, none⟩ (.slice A1 (pre.length + 1) c1))) := ⟨⟨⟨(hB1.mono (by omega)).setCell (p := ⟨M, 0, none⟩) (by show n₀ ≤ M; omega) _, fun k o hk ho => by
        refine (Below.heap_setCell _ _ _ _ (by show k ≠ M; rcases ho with rfl | ho <;> omega)).trans ((hg1.block k (blk_lt hk) (fun e => ?_)).trans hk)
        have q1 := hbs k e.symm
        obtain ⟨cs, q2⟩ := hty k e.symm
        rw [hk] at q2
        cases q2
        rcases ho with rfl | ho
        · omega
        · exact ho.2 _ _ rfl⟩, ⟨_, hro.set _, Kd.R_grown2 hS1 rfl (grownBy_setCell' w1 M _) (fun k e h => by
        cases e
        obtain ⟨cs, hc⟩ := Kd.R_typed hS1 _ h.symm
        rw [show w1.heap[M]? = _ from hro] at hc
        cases hc), (h3.trans hB1).setCell (p := ⟨M, 0, none⟩) (Nat.le_refl _) _⟩⟩⟩
    clear hS1 hB1 hg1 hat1 hty hbs hro
    have HRUN := Aside0.mk hrun
    clear hrun
    gi_wp2_with (gi_at_builtin; refine wpListIn_append_run rfl (.tmp 8) (.tmp 10) rfl rfl rfl HRUN.out ?_; simp only [Act.put, List.setIfInBounds_toArray, List.set_cons_zero, List.set_cons_succ])
    have := FIN.out
    rw [World.size_alloc, hM]
    exact this
  case done =>
    rintro D W hD ⟨v, h1, h2, h3⟩ hK
    have c1 := h1.cell
    gi_wp2
    refine ⟨by simp, .inl ⟨_, _, rfl, run_takeDeferred hK, ?_⟩⟩
    rw [World.size_alloc] at hD
    refine ⟨v, ?_, v, rfl, ?_, ?_⟩
    · simp [results, Try.results17, go_sem]
    · rw [hM]
      refine Kd.R_grown2 h2 rfl (grownBy_putObj' W D _) (fun k e h => ?_)
      cases e
      obtain ⟨cs, hc⟩ := Kd.R_typed h2 _ h.symm
      rw [hK] at hc
      cases hc
    · rw [hM]
      exact h3.grown (grownBy_putObj' W D _) (by have := h1.lt; omega) (fun k e => by cases e; omega)
end Go.Proofs.Ytbejdeopkphciaa.Q
