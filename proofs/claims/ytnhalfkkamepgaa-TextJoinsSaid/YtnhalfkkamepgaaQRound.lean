/- One round of the loop of text.Read, by hand. -/
import Derived.RangeFuncNested
import Derived.RangeFuncBound
import Derived.RangeFuncCalls
import Derived.RangeFuncLeaves
import Derived.Shelf.Abstract
import Derived.Shelf.RegionOpen
import Derived.OwnWalkIn
import Derived.TacticsInMore
import Derived.LoopNIn
import Derived.LoopIn
import Derived.Test.YtnhalfkkamepgaaQRun
namespace Go.Proofs.Ytnhalfkkamepgaa.Q
open Go.RowKit Go.Shelf Go.Proofs.YtnhalfkkamepgaaW.PrintWords Go.Proofs.YtnhalfkkamepgaaW.PrintLast Go.Proofs.YtnhalfkkamepgaaW.PrintMore
attribute [local go_sem] Oper.semAt_some
set_option linter.unusedVariables false
set_option linter.unusedSimpArgs false

theorem append_stepIn {F : Fence} {n : Nat} {P : Program} {ops : Array Oper} {o : Oper} {a : Act} {w w1 : World} {K : Act → World → Prop} {Q : Exit → Act → World → Prop} {v1 vs vx : Value} {s x : Operand} {t ty : TypeId}
    (hw : Region.wanted o (yielded ops a.tmps) = true) (ho : o.op = .call { callee := .builtin .append, args := #[s, x], argTypes := #[t, t] }) (hty : o.type = ty) (hs : a.eval s = vs) (hx : a.eval x = vx)
    (hrun : (Builtin.append_ #[t, t] ty #[vs, vx]).run P w = .ok v1 w1) (h : K (a.put o.dst v1) w1) :
    if Region.wanted o (yielded ops a.tmps) = true then Oper.wpIn F n P o a w K Q else (∀ f, o.about P w a.eval = some f → F.fn f) ∧ K (a.put o.dst undef) w := by
  rw [if_pos hw]
  subst hty
  unfold Oper.wpIn
  refine ⟨by simp [Oper.about, ho, resolve, Target.leads, Sem.run_pure], ?_⟩
  rw [Oper.semAt_plain F _ _ (by rw [ho]; intro c hc'; cases hc')]
  simp [execOp, ho, resolve, invoke, builtin, hs, hx, hrun, Result.andThen]
  exact h

/-- The ranges over a function in a code: what each assigns, and its body. -/
def rangesIn : Code → List (Code × Code)
  | .rangeFunc _ _ a b => [(a, b)]
  | .seq a b => rangesIn a ++ rangesIn b
  | .block _ c => rangesIn c
  | .loop c => rangesIn c
  | .cond _ a b => rangesIn a ++ rangesIn b
  | _ => []

theorem takeS_len (s : TS) (b : Int) : (takeS s b).codes.length ≤ s.codes.length + 1 ∧ (takeS s b).soft.length ≤ s.soft.length + 1 := by
  unfold takeS
  split
  · simp
  · split <;> simp
theorem foldl_len (x : List Int) : ∀ s : TS, (x.foldl takeS s).codes.length ≤ s.codes.length + x.length ∧ (x.foldl takeS s).soft.length ≤ s.soft.length + x.length := by
  induction x with
  | nil => intro s; simp
  | cons b x ih =>
    intro s
    have h1 := ih (takeS s b)
    have h2 := takeS_len s b
    simp only [List.foldl_cons, List.length_cons]
    omega
theorem foldl_len0 (x : List Int) : (x.foldl takeS ⟨[], [], false, false⟩).codes.length ≤ x.length ∧ (x.foldl takeS ⟨[], [], false, false⟩).soft.length ≤ x.length := by
  have := foldl_len x ⟨[], [], false, false⟩
  simpa using this
theorem foldl_take (x : List Int) (k : Nat) (h : k < x.length) (s : TS) : (x.take (k + 1)).foldl takeS s = takeS ((x.take k).foldl takeS s) (rd x k) := by
  rw [List.take_succ_eq_append_getElem h, List.foldl_append]
  simp [rd, List.getD_eq_getElem?_getD, List.getElem?_eq_getElem h]

def ts0 : TS := ⟨[], [], false, false⟩
/-- The word that bytes are; none: they are no word. -/
def rdWord (x : List Int) : Option S36 := let r := x.foldl takeS ts0; if r.half = true then none else if r.bad = true then none else some ⟨r.codes, r.soft⟩

/-- What lies between two rounds: the words so far in the variable; the results' cells; the gaps' function. B: the heap's size at the call. -/
def Acc (w : World) (B : Nat) (W : World) (out : List S36) : Prop := ∃ v, W.heap[B + 2]? = some (.cells #[v] 24 (0, 0)) ∧ Kd.S k36 36 W B (fun _ => True) v out ∧
  W.heap[B]? = some (.cells #[.slice none 0 0] 24 (0, 0)) ∧ W.heap[B + 1]? = some (.cells #[.int .i64 0] 25 (0, 0)) ∧ Below B w W
theorem Acc.below {w W W' : World} {B : Nat} {out : List S36} (h : Acc w B W out) (hb : Below W.heap.size W W') : Acc w B W' out := by
  obtain ⟨v, h1, h2, h3, h4, h5⟩ := h
  exact ⟨v, blk_below h1 hb, Kd.S_below h2 hb, blk_below h3 hb, blk_below h4 hb, h5.trans (hb.mono (by have := blk_lt h3; omega))⟩

theorem below_put {B L : Nat} {w W : World} (h : Below B w W) (hB : B ≤ L) (hs : B ≤ W.heap.size) (o : Obj) : Below B w (W.putObj L o) :=
  h.grown (grownBy_putObj' W L o) hs (fun k e => by cases e; exact hB)
theorem S_put {α : Type} {d : Kd α} {e base L : Nat} {W : World} {ok : Nat → Prop} {v : Value} {xs : List α} (h : Kd.S d e W base ok v xs) {o : Obj} (hl : W.heap[L]? = some o) (ho : o.isCells = false) (o' : Obj) : Kd.S d e (W.putObj L o') base ok v xs :=
  Kd.S_mono (Kd.S_move (Kd.S_bound h) (fun k hk => by
    obtain ⟨_, _, _, q, _, cells, hc⟩ := hk
    refine World.putObj_heap_other (fun e => ?_)
    rw [e, hl] at hc
    cases hc
    cases ho)) (fun _ hk => hk.1)
theorem Acc.put {w W : World} {B L : Nat} {out : List S36} (h : Acc w B W out) (hL : B + 2 < L) {o : Obj} (hl : W.heap[L]? = some o) (ho : o.isCells = false) (o' : Obj) : Acc w B (W.putObj L o') out := by
  obtain ⟨v, h1, h2, h3, h4, h5⟩ := h
  exact ⟨v, (World.putObj_heap_other (by omega)).trans h1, S_put h2 hl ho o', (World.putObj_heap_other (by omega)).trans h3, (World.putObj_heap_other (by omega)).trans h4, below_put h5 (by omega) (by have := blk_lt h3; omega) o'⟩
theorem rdAt_new (W : World) : RdAt (W.alloc (.cells #[.slice none 0 0, .slice none 0 0, .bool false, .bool false] 44)) W.heap.size ts0 := ⟨_, _, blk_new W _, Kd.R_nil _ _ _ _ _, Kd.R_nil _ _ _ _ _⟩

/-- The temporaries of Read at its loop. -/
def rtmps (s0 : Value) (B : Nat) (fv : Value) : Array Value := #[s0, undef, .pointer (some ⟨B, 0, none⟩), .pointer (some ⟨B + 1, 0, none⟩), .pointer (some ⟨B + 2, 0, none⟩), undef, undef, undef, undef, undef, s0, fv,
  undef, undef, undef, undef, undef, undef, undef, undef, undef, undef, undef, undef, undef, undef, undef, undef, undef, undef, undef, undef, undef, undef, undef, undef, undef, undef, undef, undef, undef, undef, undef, undef, undef, undef, undef, undef, undef, undef, undef, undef, undef]

set_option maxHeartbeats 8000000 in
set_option maxRecDepth 100000 in
theorem round_in (fn : FuncId) (n : Nat) (hn : 3 ≤ n) (w W : World) (B L : Nat) (hL : B + 6 = L) (s0 fv : Value) (x : List Int) (Ax : Option Addr) (cx : Nat) (hx : Kd.C (Kd.int .u8) w Ax x.length x) (hB0 : w.heap.size = B) (hxl : x.length ≤ 1000000) (hxr : ∀ b ∈ x, 0 ≤ b ∧ b ≤ 255)
    (out : List S36) (hout : out.length ≤ 101) (hacc : Acc w B W out) (assign body : Code) (hcode : Try.f11.body.map rangesIn = some [(assign, body)]) (rec : LoopState → Option Code → Loop)
    (hoth : ∀ k, k < L → B + 2 < k → ∀ cells, W.heap[k]? ≠ some (.cells cells 36 (0, 0))) (hL0 : W.heap[L]? = some (.loop (rec .ready none))) (hrec : ∀ st pe, (rec st pe).state = st ∧ (∀ st' pe', { rec st pe with state := st', pending := pe' } = rec st' pe')) (R : Ending → World → Prop)
    (hyes : ∀ W' wd, rdWord x = some wd → out.length ≤ 100 → Acc w B W' (out ++ [wd]) → W'.heap[L]? = some (.loop (rec .ready none)) → (∀ k, k < L → B + 2 < k → W'.heap[k]? = W.heap[k]?) → R (.returned (.bool true)) W')
    (hno : ∀ W', (rdWord x = none ∨ 100 < out.length) → W'.heap[B]? = some (.cells #[.slice none 0 0] 24 (0, 0)) → W'.heap[B + 1]? = some (.cells #[.int .i64 130] 25 (0, 0)) → Below B w W' → W'.heap[L]? = some (.loop (rec .done (some .ret))) → (∀ k, k < L → B + 2 < k → W'.heap[k]? = W.heap[k]?) → R (.returned (.bool false)) W') :
    RoundIn Fence.wide n Try.prog L fn ((rtmps s0 B fv).setIfInBounds 12 (.slice Ax x.length cx)) assign body W R := by
  simp only [Try.f11, Option.map_some, rangesIn, List.append_nil, List.nil_append, Option.some.injEq, List.cons.injEq, and_true, Prod.mk.injEq] at hcode
  obtain ⟨rfl, rfl⟩ := hcode
  refine roundIn_of_wpIn trivial ?_
  simp only [rtmps, List.setIfInBounds_toArray, List.set_cons_zero, List.set_cons_succ]
  gi_wp2
  obtain ⟨hr1, hr2⟩ := hrec .ready none
  refine ⟨W.putObj L (.loop (rec .busy none)), by rw [← hr2 .busy none]; have := run_beginRound (P := Try.prog) hL0 hr1; rw [show (rec .ready none).pending = none from by rw [← hr2 .ready none]] at this; exact this, ?_⟩
  have hLlt : L < W.heap.size := blk_lt hL0
  have hL2 : (W.putObj L (.loop (rec .busy none))).heap[L]? = some (.loop (rec .busy none)) := World.putObj_heap_same hLlt
  have hacc2 := hacc.put (by omega) hL0 rfl (.loop (rec .busy none))
  have hsame2 : ∀ k, k ≠ L → (W.putObj L (.loop (rec .busy none))).heap[k]? = W.heap[k]? := fun k hk => World.putObj_heap_other hk
  generalize W.putObj L (.loop (rec .busy none)) = W2 at hL2 hacc2 hsame2 ⊢
  have HL2 := Aside0.mk hL2
  have HACC := Aside0.mk hacc2
  have HSAME := Aside0.mk hsame2
  have HX := Aside0.mk hx
  have HXR := Aside0.mk hxr
  have HY := Aside0.mk hyes
  have HN := Aside0.mk hno
  have HREC := Aside0.mk hrec
  have HOTH := Aside0.mk hoth
  have HBB : Aside0 (Below B w W2) := by obtain ⟨_, _, _, _, _, h5⟩ := hacc2; exact ⟨h5⟩
  clear hL0 hacc hr1 hr2 hL2 hacc2 hsame2 hx hxr hyes hno hrec hLlt hoth
  have h1 : 1 ≤ n := by omega
  gi_wp2
  gi_loopw [19] (fun i wr => ∃ k : Nat, k ≤ x.length ∧ i = .int .i64 k ∧ Aside0 (RdAt wr W2.heap.size ((x.take k).foldl takeS ts0)) ∧ Aside0 (Below W2.heap.size W2 wr)) (fun i _ => x.length - (intOf i).toNat)
  case atStart => exact ⟨0, Nat.zero_le _, rfl, ⟨rdAt_new W2⟩, ⟨below_alloc (Below.refl _ _) _⟩⟩
  case round =>
    obtain ⟨k, hk, rfl, HR, HB⟩ := hrel
    by_cases hlt : k < x.length
    · obtain ⟨ad, rfl, hcell⟩ := Kd.at_int HX.out (k : Int) (by omega) (by omega)
      rw [Int.toNat_natCast] at hcell
      replace hcell := ((HB.out.cell (p := ad.add k) (by have := World.block_lt_of_cell? w _ hcell; have := HBB.out.size; omega)).trans (HBB.out.cell (by rw [← hB0]; exact World.block_lt_of_cell? w _ hcell))).trans hcell
      have hrg : 0 ≤ rd x k ∧ rd x k ≤ 255 := HXR.out _ (by simp [rd, List.getD_eq_getElem?_getD, List.getElem?_eq_getElem hlt])
      have hln : ((x.take k).foldl takeS ts0).codes.length ≤ 1000000 ∧ ((x.take k).foldl takeS ts0).soft.length ≤ 1000000 := by
        have h2 := foldl_len0 (x.take k)
        have h3 : (x.take k).length ≤ k := List.length_take_le _ _
        exact ⟨Nat.le_trans h2.1 (by omega), Nat.le_trans h2.2 (by omega)⟩
      have HT := Aside0.mk (take_any wr W2.heap.size ((x.take k).foldl takeS ts0) (rd x k) hrg.1 hrg.2 hln.1 hln.2 HR.out)
      have HF := Aside0.mk (foldl_take x k hlt ts0)
      clear hrg hln
      gi_wp2_with (refine ⟨trivial, ?_⟩; gi_at_call 21; refine (CallsIn.inRound L (callsIn_wide.2 HT.out)).mono ?_; rintro e w' ⟨rfl, hr, hb⟩; have HR2 := Aside0.mk hr; have HB2 := Aside0.mk hb; clear hr hb)
      go_roundw
      case rel => exact ⟨k + 1, by omega, by go_num, ⟨by rw [HF.out]; exact HR2.out⟩, ⟨HB.out.trans HB2.out⟩⟩
      case measure => simp [intOf]; omega
    · obtain rfl : k = x.length := by omega
      have HR1 : Aside0 (RdAt wr W2.heap.size (x.foldl takeS ts0)) := ⟨by have := HR.out; rwa [List.take_length] at this⟩
      clear HR
      obtain ⟨st, hst⟩ : ∃ st, x.foldl takeS ts0 = st := ⟨_, rfl⟩
      rw [hst] at HR1
      have HST := Aside0.mk hst
      clear hst
      obtain ⟨vc, vs, hBK, hC, hS⟩ := HR1.out
      obtain ⟨vo, ho1, ho2, ho3, ho4, ho5⟩ := HACC.out
      have HBK := Aside0.mk hBK
      have HC := Aside0.mk hC
      have HS := Aside0.mk hS
      obtain ⟨Ao, co, rfl⟩ := Kd.S_slice ho2
      have hx0 := (blk_cell hBK 0).trans rfl
      have hx1 := (blk_cell hBK 1).trans rfl
      have hx2 := (blk_cell hBK 2).trans rfl
      have hx3 := (blk_cell hBK 3).trans rfl
      have hxo := (blk_cell (blk_below ho1 HB.out) 0).trans rfl
      have hr0 := (blk_cell (blk_below ho3 HB.out) 0).trans rfl
      have hr1 := (blk_cell (blk_below ho4 HB.out) 0).trans rfl
      have hf0 := blk_frozen (blk_below ho3 HB.out) 0
      have hf1 := blk_frozen (blk_below ho4 HB.out) 0
      have hfo := blk_frozen (blk_below ho1 HB.out) 0
      have HO1 := Aside0.mk ho1
      have HO2 := Aside0.mk ho2
      have HO3 := Aside0.mk ho3
      have HO4 := Aside0.mk ho4
      clear ho1 ho2 ho3 ho4 ho5 hBK hC hS
      have HW2 : Aside0 (wr.heap[L]? = some (.loop (rec .busy none))) := ⟨blk_below HL2.out HB.out⟩
      have NO : Aside0 (∀ (a : Act) (W' : World), (rdWord x = none ∨ 100 < out.length) → W' = (wr.setCell ⟨B, 0, none⟩ (.slice none 0 0)).setCell ⟨B + 1, 0, none⟩ (.int .i64 130) → roundPost Try.prog L R .ret a W') := ⟨by
        rintro a W' hc rfl
        have hl : ((wr.setCell ⟨B, 0, none⟩ (.slice none 0 0)).setCell ⟨B + 1, 0, none⟩ (.int .i64 130)).heap[L]? = some (.loop (rec .busy none)) := by
          rw [Below.heap_setCell _ _ _ _ (by show L ≠ B + 1; omega), Below.heap_setCell _ _ _ _ (by show L ≠ B; omega)]
          exact HW2.out
        have he := run_endRound (P := Try.prog) (some .ret) hl
        have hrr := (HREC.out .busy none).2 .done (some .ret)
        simp only [Option.isNone_some, Bool.false_eq_true, if_false] at he
        rw [hrr] at he
        refine ⟨_, _, he, HN.out _ hc ?_ ?_ ?_ ?_ ?_⟩
        · rw [World.putObj_heap_other (by omega), Below.heap_setCell _ _ _ _ (by show B ≠ B + 1; omega)]
          exact blk_put (blk_below HO3.out HB.out) 0 _ rfl
        · rw [World.putObj_heap_other (by omega)]
          exact blk_put ((Below.heap_setCell _ _ _ _ (by show B + 1 ≠ B; omega)).trans (blk_below HO4.out HB.out)) 0 _ rfl
        · refine below_put ?_ (by omega) ?_ _
          · refine (((HBB.out.trans (HB.out.mono (by have := blk_lt HO3.out; omega))).setCell (p := ⟨B, 0, none⟩) (Nat.le_refl _) _).setCell (p := ⟨B + 1, 0, none⟩) (by show B ≤ B + 1; omega) _)
          · have := blk_lt hl; omega
        · exact World.putObj_heap_same (blk_lt hl)
        · intro k hk1 hk2
          rw [World.putObj_heap_other (by omega), Below.heap_setCell _ _ _ _ (by show k ≠ B + 1; omega), Below.heap_setCell _ _ _ _ (by show k ≠ B; omega), HB.out.block k (by have := blk_lt HL2.out; omega)]
          exact HSAME.out k (by omega)⟩
      by_cases hh : st.half = true
      · rw [hh] at hx2
        gi_wp2
        exact NO.out _ _ (.inl (by rw [rdWord, HST.out]; simp [hh])) rfl
      · have hh' : st.half = false := by simpa using hh
        rw [hh'] at hx2
        by_cases hb : st.bad = true
        · rw [hb] at hx3
          have HH := Aside0.mk hh'
          clear hh hh'
          gi_wp2
          exact NO.out _ _ (.inl (by rw [rdWord, HST.out]; simp [HH.out, hb])) rfl
        · have hb' : st.bad = false := by simpa using hb
          rw [hb'] at hx3
          have HH := Aside0.mk hh'
          have HBD := Aside0.mk hb'
          clear hh hh' hb hb'
          by_cases ho : 100 < out.length
          · gi_wp2
            exact NO.out _ _ (.inr ho) rfl
          · gi_wp2
            have hmix : Try.prog.follows .mixedOrders = true := by kernel_rfl
            have hgB : B ≤ W2.heap.size := by have := blk_lt HO3.out; omega
            have hgw : W2.heap.size < wr.heap.size := by have := blk_lt HBK.out; omega
            have HP : k36.M wr B (fun k => W2.heap.size < k) ⟨st.codes, st.soft⟩ [vc, vs] := k36_mkM wr B _ ⟨st.codes, st.soft⟩
              (Kd.R_mono (Kd.R_lower (Kd.R_bound HC.out) (by omega)) (fun k hk => by have := hk.2.1; omega)) (Kd.R_mono (Kd.R_lower (Kd.R_bound HS.out) (by omega)) (fun k hk => by have := hk.2.1; omega))
            have HSO : Kd.S k36 36 wr B (fun k => True ∧ ¬ W2.heap.size < k) (.slice Ao out.length co) out := Kd.S_mono (Kd.S_old HO2.out HB.out) (fun k hk => ⟨trivial, by have := hk.2; omega⟩)
            obtain ⟨v1, w1, hrun, hS1, hB1, hg1, hat1⟩ := S_append_run (P := Try.prog) k36 (w0 := wr.drew) (W := wr.drew) B 24 24 36 (.agg #[.slice none 0 0, .slice none 0 0]) 48 Try.underlying24 info36 rfl (by decide) (by omega) (.slice Ao out.length co) out ⟨st.codes, st.soft⟩ [vc, vs] (fun _ => True) (fun k => W2.heap.size < k)
              (Kd.M_drewN HP 1) (fun k hk => ⟨trivial, fun e => by have := Kd.S_lt HO2.out k e.symm; omega⟩) (fun _ _ => trivial) (Kd.S_drew HSO) (Below.refl _ _) (by show B ≤ wr.heap.size; omega) (by omega)
            change Sem.run Try.prog (Builtin.append_ #[24, 24] 24 #[.slice Ao out.length co, .slice (some ⟨wr.heap.size, 0, none⟩) 1 1]) ((wr.alloc (.cells #[vc, vs] 36)).drew) = .ok v1 w1 at hrun
            have hro := blk_grown (g := B + 2) (blk_drew (blk_below HO1.out HB.out)) hg1 (Kd.S_ne (Kd.S_below HO2.out HB.out) (blk_below HO1.out HB.out) (by decide))
            obtain ⟨A1, c1, e1⟩ := Kd.S_slice hS1
            rw [List.length_append, List.length_singleton] at e1
            subst e1
            have hco1 := (blk_cell hro 0).trans rfl
            have hfo1 := blk_frozen hro 0
            have HRO := Aside0.mk hro
            have HS1 := Aside0.mk hS1
            have HB1 := Aside0.mk hB1
            have HG1 := Aside0.mk hg1
            clear hS1 hB1 hg1 hat1 HP HSO hro
            have hxo2 : (wr.alloc (.cells #[vc, vs] 36)).cell? ⟨B + 2, 0, none⟩ = some (.slice Ao out.length co) := (World.cell?_alloc_lt _ _ _ (World.block_lt_of_cell? _ _ hxo)).trans hxo
            have HWD : Aside0 (rdWord x = some ⟨st.codes, st.soft⟩) := ⟨by rw [rdWord, HST.out]; simp [HH.out, HBD.out]⟩
            have FIN : ∀ (W' : World), W' = w1.setCell ⟨B + 2, 0, none⟩ (.slice A1 (out.length + 1) c1) → ∃ v w', (Instr.endRound L none).run Try.prog W' = .ok v w' ∧ R (.returned v) w' := by
              rintro W' rfl
              have hown : ∀ k, (Value.slice Ao out.length co).ownBlock = some k → ∃ cells, W2.heap[k]? = some (.cells cells 36 (0, 0)) := Kd.S_typed HO2.out
              have hneL : some L ≠ (Value.slice Ao out.length co).ownBlock := fun e => by
                obtain ⟨cells, hc⟩ := hown L e.symm
                rw [HL2.out] at hc
                cases hc
              have hl1 : w1.heap[L]? = some (.loop (rec .busy none)) := blk_grown (blk_drew HW2.out) HG1.out hneL
              have hl : (w1.setCell ⟨B + 2, 0, none⟩ (.slice A1 (out.length + 1) c1)).heap[L]? = some (.loop (rec .busy none)) := (Below.heap_setCell _ _ _ _ (by show L ≠ B + 2; omega)).trans hl1
              have he := run_endRound (P := Try.prog) none hl
              have hrr := (HREC.out .busy none).2 .ready none
              simp only [Option.isNone_none, if_true] at he
              rw [hrr] at he
              have hacc1 : Acc w B (w1.setCell ⟨B + 2, 0, none⟩ (.slice A1 (out.length + 1) c1)) (out ++ [⟨st.codes, st.soft⟩]) := by
                refine ⟨_, blk_put HRO.out 0 _ rfl, Kd.S_set HS1.out HRO.out (by decide) 0 _, ?_, ?_, ?_⟩
                · refine (Below.heap_setCell _ _ _ _ (by show B ≠ B + 2; omega)).trans (blk_grown (blk_drew (blk_below HO3.out HB.out)) HG1.out (Kd.S_ne HO2.out HO3.out (by decide)))
                · refine (Below.heap_setCell _ _ _ _ (by show B + 1 ≠ B + 2; omega)).trans (blk_grown (blk_drew (blk_below HO4.out HB.out)) HG1.out (Kd.S_ne HO2.out HO4.out (by decide)))
                · exact (((HBB.out.trans (HB.out.mono hgB)).drew).trans HB1.out).setCell (p := ⟨B + 2, 0, none⟩) (by show B ≤ B + 2; omega) _
              refine ⟨_, _, he, HY.out _ _ HWD.out (by omega) (hacc1.put (by omega) hl rfl _) (World.putObj_heap_same (blk_lt hl)) ?_⟩
              intro k hk1 hk2
              have hne : some k ≠ (Value.slice Ao out.length co).ownBlock := fun e => by
                obtain ⟨cells, hc⟩ := hown k e.symm
                rw [HSAME.out k (by omega)] at hc
                exact HOTH.out k hk1 hk2 cells hc
              rw [World.putObj_heap_other (by omega), Below.heap_setCell _ _ _ _ (by show k ≠ B + 2; omega), HG1.out.block k (by have := blk_lt HW2.out; show k < wr.heap.size; omega) hne]
              exact (HB.out.block k (by have := blk_lt HL2.out; omega)).trans (HSAME.out k (by omega))
            refine wpIn_region_any hmix ?_
            change wpAnyIn _ _ _ _ _ _ _ _ _ (World.drew _)
            refine wpAnyIn_ready (rs := [0, 1]) (by kernel_rfl) (by simp) (AllReadyIn.cons rfl (fun K hK => ?_) (AllReadyIn.cons rfl (fun K hK => ?_) AllReadyIn.nil))
            · go_simp
              refine hK _ _ ?_
              clear hK K
              refine wpAnyIn_ready (rs := [1]) (by kernel_rfl) (by simp) (AllReadyIn.cons rfl (fun K hK => ?_) AllReadyIn.nil)
              go_simp
              refine hK _ _ ?_
              clear hK K
              refine wpAnyIn_ready (rs := [2]) (by kernel_rfl) (by simp) (AllReadyIn.cons rfl (fun K hK => ?_) AllReadyIn.nil)
              go_simp
              refine hK _ _ ?_
              clear hK K
              refine wpAnyIn_ready (rs := [3]) (by kernel_rfl) (by simp) (AllReadyIn.cons rfl (fun K hK => ?_) AllReadyIn.nil)
              go_simp
              refine hK _ _ ?_
              clear hK K
              refine wpAnyIn_ready (rs := [4]) (by kernel_rfl) (by simp) (AllReadyIn.cons rfl (fun K hK => ?_) AllReadyIn.nil)
              go_simp
              refine hK _ _ ?_
              clear hK K
              refine wpAnyIn_ready (rs := [5]) (by kernel_rfl) (by simp) (AllReadyIn.cons rfl (fun K hK => ?_) AllReadyIn.nil)
              go_simp
              refine hK _ _ ?_
              clear hK K
              refine wpAnyIn_ready (rs := [6]) (by kernel_rfl) (by simp) (AllReadyIn.cons rfl (fun K hK => ?_) AllReadyIn.nil)
              refine append_stepIn rfl (s := .tmp 42) (x := .tmp 47) rfl rfl rfl rfl hrun ?_
              refine hK _ _ ?_
              clear hK K
              simp only [Act.put, List.setIfInBounds_toArray, List.set_cons_zero, List.set_cons_succ]
              refine wpAnyIn_ready (rs := [7]) (by kernel_rfl) (by simp) (AllReadyIn.cons rfl (fun K hK => ?_) AllReadyIn.nil)
              go_simp
              refine hK _ _ ?_
              clear hK K
              refine wpAnyIn_done (by kernel_rfl) ?_ _
              exact FIN _ rfl
            · go_simp
              refine hK _ _ ?_
              clear hK K
              refine wpAnyIn_ready (rs := [0, 2]) (by kernel_rfl) (by simp) (AllReadyIn.cons rfl (fun K hK => ?_) (AllReadyIn.cons rfl (fun K hK => ?_) AllReadyIn.nil))
              · go_simp
                refine hK _ _ ?_
                clear hK K
                refine wpAnyIn_ready (rs := [2]) (by kernel_rfl) (by simp) (AllReadyIn.cons rfl (fun K hK => ?_) AllReadyIn.nil)
                go_simp
                refine hK _ _ ?_
                clear hK K
                refine wpAnyIn_ready (rs := [3]) (by kernel_rfl) (by simp) (AllReadyIn.cons rfl (fun K hK => ?_) AllReadyIn.nil)
                go_simp
                refine hK _ _ ?_
                clear hK K
                refine wpAnyIn_ready (rs := [4]) (by kernel_rfl) (by simp) (AllReadyIn.cons rfl (fun K hK => ?_) AllReadyIn.nil)
                go_simp
                refine hK _ _ ?_
                clear hK K
                refine wpAnyIn_ready (rs := [5]) (by kernel_rfl) (by simp) (AllReadyIn.cons rfl (fun K hK => ?_) AllReadyIn.nil)
                go_simp
                refine hK _ _ ?_
                clear hK K
                refine wpAnyIn_ready (rs := [6]) (by kernel_rfl) (by simp) (AllReadyIn.cons rfl (fun K hK => ?_) AllReadyIn.nil)
                refine append_stepIn rfl (s := .tmp 42) (x := .tmp 47) rfl rfl rfl rfl hrun ?_
                refine hK _ _ ?_
                clear hK K
                simp only [Act.put, List.setIfInBounds_toArray, List.set_cons_zero, List.set_cons_succ]
                refine wpAnyIn_ready (rs := [7]) (by kernel_rfl) (by simp) (AllReadyIn.cons rfl (fun K hK => ?_) AllReadyIn.nil)
                go_simp
                refine hK _ _ ?_
                clear hK K
                refine wpAnyIn_done (by kernel_rfl) ?_ _
                exact FIN _ rfl
              · go_simp
                refine hK _ _ ?_
                clear hK K
                refine wpAnyIn_ready (rs := [0, 3]) (by kernel_rfl) (by simp) (AllReadyIn.cons rfl (fun K hK => ?_) (AllReadyIn.cons rfl (fun K hK => ?_) AllReadyIn.nil))
                · go_simp
                  refine hK _ _ ?_
                  clear hK K
                  refine wpAnyIn_ready (rs := [3]) (by kernel_rfl) (by simp) (AllReadyIn.cons rfl (fun K hK => ?_) AllReadyIn.nil)
                  go_simp
                  refine hK _ _ ?_
                  clear hK K
                  refine wpAnyIn_ready (rs := [4]) (by kernel_rfl) (by simp) (AllReadyIn.cons rfl (fun K hK => ?_) AllReadyIn.nil)
                  go_simp
                  refine hK _ _ ?_
                  clear hK K
                  refine wpAnyIn_ready (rs := [5]) (by kernel_rfl) (by simp) (AllReadyIn.cons rfl (fun K hK => ?_) AllReadyIn.nil)
                  go_simp
                  refine hK _ _ ?_
                  clear hK K
                  refine wpAnyIn_ready (rs := [6]) (by kernel_rfl) (by simp) (AllReadyIn.cons rfl (fun K hK => ?_) AllReadyIn.nil)
                  refine append_stepIn rfl (s := .tmp 42) (x := .tmp 47) rfl rfl rfl rfl hrun ?_
                  refine hK _ _ ?_
                  clear hK K
                  simp only [Act.put, List.setIfInBounds_toArray, List.set_cons_zero, List.set_cons_succ]
                  refine wpAnyIn_ready (rs := [7]) (by kernel_rfl) (by simp) (AllReadyIn.cons rfl (fun K hK => ?_) AllReadyIn.nil)
                  go_simp
                  refine hK _ _ ?_
                  clear hK K
                  refine wpAnyIn_done (by kernel_rfl) ?_ _
                  exact FIN _ rfl
                · go_simp
                  refine hK _ _ ?_
                  clear hK K
                  refine wpAnyIn_ready (rs := [0, 4]) (by kernel_rfl) (by simp) (AllReadyIn.cons rfl (fun K hK => ?_) (AllReadyIn.cons rfl (fun K hK => ?_) AllReadyIn.nil))
                  · go_simp
                    refine hK _ _ ?_
                    clear hK K
                    refine wpAnyIn_ready (rs := [4]) (by kernel_rfl) (by simp) (AllReadyIn.cons rfl (fun K hK => ?_) AllReadyIn.nil)
                    go_simp
                    refine hK _ _ ?_
                    clear hK K
                    refine wpAnyIn_ready (rs := [5]) (by kernel_rfl) (by simp) (AllReadyIn.cons rfl (fun K hK => ?_) AllReadyIn.nil)
                    go_simp
                    refine hK _ _ ?_
                    clear hK K
                    refine wpAnyIn_ready (rs := [6]) (by kernel_rfl) (by simp) (AllReadyIn.cons rfl (fun K hK => ?_) AllReadyIn.nil)
                    refine append_stepIn rfl (s := .tmp 42) (x := .tmp 47) rfl rfl rfl rfl hrun ?_
                    refine hK _ _ ?_
                    clear hK K
                    simp only [Act.put, List.setIfInBounds_toArray, List.set_cons_zero, List.set_cons_succ]
                    refine wpAnyIn_ready (rs := [7]) (by kernel_rfl) (by simp) (AllReadyIn.cons rfl (fun K hK => ?_) AllReadyIn.nil)
                    go_simp
                    refine hK _ _ ?_
                    clear hK K
                    refine wpAnyIn_done (by kernel_rfl) ?_ _
                    exact FIN _ rfl
                  · go_simp
                    refine hK _ _ ?_
                    clear hK K
                    refine wpAnyIn_ready (rs := [0, 5]) (by kernel_rfl) (by simp) (AllReadyIn.cons rfl (fun K hK => ?_) (AllReadyIn.cons rfl (fun K hK => ?_) AllReadyIn.nil))
                    · go_simp
                      refine hK _ _ ?_
                      clear hK K
                      refine wpAnyIn_ready (rs := [5]) (by kernel_rfl) (by simp) (AllReadyIn.cons rfl (fun K hK => ?_) AllReadyIn.nil)
                      go_simp
                      refine hK _ _ ?_
                      clear hK K
                      refine wpAnyIn_ready (rs := [6]) (by kernel_rfl) (by simp) (AllReadyIn.cons rfl (fun K hK => ?_) AllReadyIn.nil)
                      refine append_stepIn rfl (s := .tmp 42) (x := .tmp 47) rfl rfl rfl rfl hrun ?_
                      refine hK _ _ ?_
                      clear hK K
                      simp only [Act.put, List.setIfInBounds_toArray, List.set_cons_zero, List.set_cons_succ]
                      refine wpAnyIn_ready (rs := [7]) (by kernel_rfl) (by simp) (AllReadyIn.cons rfl (fun K hK => ?_) AllReadyIn.nil)
                      go_simp
                      refine hK _ _ ?_
                      clear hK K
                      refine wpAnyIn_done (by kernel_rfl) ?_ _
                      exact FIN _ rfl
                    · go_simp
                      refine hK _ _ ?_
                      clear hK K
                      refine wpAnyIn_ready (rs := [0]) (by kernel_rfl) (by simp) (AllReadyIn.cons rfl (fun K hK => ?_) AllReadyIn.nil)
                      go_simp
                      refine hK _ _ ?_
                      clear hK K
                      refine wpAnyIn_ready (rs := [6]) (by kernel_rfl) (by simp) (AllReadyIn.cons rfl (fun K hK => ?_) AllReadyIn.nil)
                      refine append_stepIn rfl (s := .tmp 42) (x := .tmp 47) rfl rfl rfl rfl hrun ?_
                      refine hK _ _ ?_
                      clear hK K
                      simp only [Act.put, List.setIfInBounds_toArray, List.set_cons_zero, List.set_cons_succ]
                      refine wpAnyIn_ready (rs := [7]) (by kernel_rfl) (by simp) (AllReadyIn.cons rfl (fun K hK => ?_) AllReadyIn.nil)
                      go_simp
                      refine hK _ _ ?_
                      clear hK K
                      refine wpAnyIn_done (by kernel_rfl) ?_ _
                      exact FIN _ rfl

end Go.Proofs.Ytnhalfkkamepgaa.Q
