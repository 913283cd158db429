/- One row is taken from bytes, by hand: ship's (*in).row. -/
import Derived.Test.YthlhfnbaihdjkaaQRead1
namespace Go.Proofs.Ythlhfnbaihdjkaa.Q
open Go.RowKit Go.Proofs.YthlhfnbaihdjkaaW.PrintWords Go.Proofs.YthlhfnbaihdjkaaW.PrintLast Go.Proofs.YthlhfnbaihdjkaaW.PrintMore
set_option linter.unusedVariables false
set_option linter.unusedSimpArgs false

section
variable {P : Program} {ops : Array Oper} {Q : Exit → Act → World → Prop}
/-- A call that panics. -/
theorem callP_ {oi : Oper} {N : Option Tmp} {a : Act} {w : World} {K : Act → World → Prop} {f : FuncId} {fn : Func} {ars : Array Operand} {ts : Array TypeId} (hf : P.funcs[f]? = some fn) (hname : (fn.name == "runtime.NumGoroutine") = false) (hb : fn.body.isSome = true) (args : Array Value)
    (hw : Region.wanted oi (yielded ops a.tmps) = true) (hop : oi.op = .call { callee := .value (.func f), args := ars, argTypes := ts }) (hargs : ars.map a.eval = args)
    (h : Calls P f args w fun e w' => ∃ c, e = .panicked c ∧ Q (.panic c) a w') : if Region.wanted oi (yielded ops a.tmps) = true then Oper.wp P oi a w K Q else K (a.put N undef) w := by
  rw [if_pos hw]
  have he := enters_ hf hname hb args w
  have hrun : (execOp a.eval oi).run P w = .ok (.enter f args) w := by
    unfold execOp
    simp [hop, resolve, Deferred.ofValue, invoke, Act.eval, hargs, he]
  unfold Oper.wp
  rw [hrun, Oper.upon_enter]
  refine h.mono fun e w'' hh => ?_
  obtain ⟨c, rfl, hk⟩ := hh
  exact hk
end

/-- Between two takings: the bytes that are left; the row's block. -/
def RowAt (w : World) (g : Nat) (W : World) (m : Nat) (s : List Int) (cs : Array Value) (Wk : World) : Prop :=
  InAt w g s Wk ∧ Wk.heap[m]? = some (.cells cs 41 (0, 0)) ∧ W.grownBy Wk (some g)
theorem RowAt.call {w W Wk W1 : World} {g m : Nat} {s t : List Int} {cs : Array Value} (h : RowAt w g W m s cs Wk) (hi : InAt w g t W1) (hg : Wk.grownBy W1 (some g)) : RowAt w g W m t cs W1 := by
  obtain ⟨h1, h2, h3⟩ := h
  refine ⟨hi, blk_grown h2 hg ?_, World.grownBy.trans h3 hg⟩
  obtain ⟨A, c, k1, _⟩ := h1
  intro e
  injection e with e
  rw [e, k1] at h2
  cases h2
theorem RowAt.ne {w W Wk : World} {g m : Nat} {s : List Int} {cs : Array Value} (h : RowAt w g W m s cs Wk) : g ≠ m := by
  obtain ⟨⟨A, c, k1, _⟩, h2, h3⟩ := h
  rintro rfl
  rw [k1] at h2
  cases h2
theorem RowAt.drew {w W Wk : World} {g m : Nat} {s : List Int} {cs : Array Value} (h : RowAt w g W m s cs Wk) : RowAt w g W m s cs Wk.drew :=
  ⟨h.1.drew, blk_drew h.2.1, ⟨h.2.2.os, h.2.2.tape, h.2.2.output, h.2.2.size, h.2.2.block⟩⟩
theorem RowAt.set {w W Wk : World} {g : Nat} {s : List Int} {cs : Array Value} {m : Nat} (h : RowAt w g W m s cs Wk) (hm : W.heap.size = m) (hw : w.heap.size ≤ m) (j : Nat) (u : Value) : RowAt w g W m s (cs.setIfInBounds j u) (Wk.setCell ⟨m, j, none⟩ u) := by
  have hne := h.ne
  obtain ⟨h1, h2, h3⟩ := h
  refine ⟨h1.grown (grown_set _ m j u) hne hw, blk_set h2 j u, ?_⟩
  refine ⟨h3.os, h3.tape, h3.output, by rw [World.size_setCell]; exact h3.size, fun k hk hn => ?_⟩
  exact (Below.heap_setCell Wk ⟨m, j, none⟩ u k (by show k ≠ m; omega)).trans (h3.block k hk hn)
theorem RowAt.append {w W Wk W1 : World} {g m : Nat} {s : List Int} {cs : Array Value} {v : Value} {acc : List S43} (h : RowAt w g W m s cs Wk) (HO : k43.R 43 Wk W.heap.size (fun _ => True) v acc) (hg : Wk.grownBy W1 v.ownBlock) (hwm : w.heap.size ≤ W.heap.size) : RowAt w g W m s cs W1 := by
  obtain ⟨h1, h2, h3⟩ := h
  have hb := Kd.R_base HO
  obtain ⟨A, c, k1, k2, k3, k4, k5, k6⟩ := h1
  have hg2 : W.heap.size ≤ Wk.heap.size := h3.size
  refine ⟨⟨A, c, blk_grown k1 hg (Kd.R_ne HO k1 (by decide)), k2, k3, ?_, k5, k6⟩, blk_grown h2 hg (Kd.R_ne HO h2 (by decide)), ?_⟩
  · exact k4.grown hg k4.size (fun k e => by have := hb k e; omega)
  · refine ⟨hg.os.trans h3.os, hg.tape.trans h3.tape, hg.output.trans h3.output, Nat.le_trans h3.size hg.size, fun k hk hn => ?_⟩
    exact (hg.block k (by omega) (fun e => by have := hb k e.symm; omega)).trans (h3.block k hk hn)
theorem R_call {w Wk W1 : World} {g base : Nat} {s : List Int} {v : Value} {acc : List S43} (HO : k43.R 43 Wk base (fun _ => True) v acc) (h : InAt w g s Wk) (hg : Wk.grownBy W1 (some g)) : k43.R 43 W1 base (fun _ => True) v acc := by
  obtain ⟨A, c, k1, _⟩ := h
  exact Kd.R_mono (Kd.R_grown (Kd.R_types HO k1 (by decide)) hg (fun k hk e => hk.2 (by injection e))) (fun _ _ => trivial)

def RowPost (w : World) (g : Nat) (W : World) (s : List Int) (e : Ending) (W' : World) : Prop :=
  W.grownBy W' (some g) ∧ ((∃ r t v, rdRow s = some (r, t) ∧ e = .returned (.agg #[.int .i64 r.f0, .int .i64 r.f1, .int .i64 r.f2, .int .i64 r.f3, v]) ∧ k43.R 43 W' W.heap.size (fun _ => True) v r.f4 ∧ InAt w g t W') ∨ (rdRow s = none ∧ e = .panicked lostP))

theorem rd2_range {s : List Int} (hs : Byts s) {m : Int} {t : List Int} (h : rd2 s = some (m, t)) : ∃ q : Nat, m = (q : Int) ∧ q ≤ 65535 := by
  match s, h with
  | a :: b :: s, h =>
    cases h
    obtain ⟨ha, hs⟩ := hs.cons
    obtain ⟨hb, hs⟩ := hs.cons
    exact ⟨(a * 256 + b).toNat, by omega, by omega⟩
theorem rd1_range {s : List Int} (hs : Byts s) {m : Int} {t : List Int} (h : rd1 s = some (m, t)) : 0 ≤ m ∧ m ≤ 255 := by
  match s, h with
  | a :: s, h => cases h; exact hs.cons.1

set_option maxHeartbeats 16000000 in
set_option maxRecDepth 100000 in
theorem irow_any (w : World) (g : Nat) (s : List Int) (W : World) (h : InAt w g s W) :
    Calls Try.prog 33 #[.pointer (some ⟨g, 0, none⟩)] W (RowPost w g W s) := by
  have hgm := h.lt
  have hwm := h.bel.size
  obtain ⟨m, hm⟩ : ∃ m, W.heap.size = m := ⟨_, rfl⟩
  have H0 : Aside0 (RowAt w g W m s #[.int .i64 0, .int .i64 0, .int .i64 0, .int .i64 0, .slice none 0 0] (W.alloc (.cells #[.int .i64 0, .int .i64 0, .int .i64 0, .int .i64 0, .slice none 0 0] 41))) := ⟨⟨h.grown0 (World.grownBy_alloc W _ none), by rw [← hm]; exact blk_new W _, World.grownBy_alloc W _ _⟩⟩
  have HM := Aside0.mk hm
  have hwm' : w.heap.size ≤ m := by omega
  clear h hm
  cases h1 : rd1 s with
  | none =>
    have E1 := Aside0.mk h1
    clear h1
    go_enter Try.func33, Try.ntmps33
    go_wp2_with (go_at_call 32; refine (ib_no w g s _ H0.out.1 E1.out).mono ?_; rintro e W1 ⟨rfl, hG⟩; have HG := Aside0.mk (World.grownBy.trans H0.out.2.2 hG); clear hG)
    exact ⟨rfl, HG.out, .inr ⟨by simp only [rdRow, E1.out], rfl⟩⟩
  | some p1 =>
  obtain ⟨a, s1⟩ := p1
  have ra := rd1_range H0.out.1.byts h1
  obtain ⟨ra0, ra1⟩ := ra
  have E1 := Aside0.mk h1
  clear h1
  go_enter Try.func33, Try.ntmps33
  go_upto_region 2 with (go_at_call 32; refine (ib_yes w g s _ H0.out.1 E1.out).mono ?_; rintro e W1 ⟨rfl, hI, hG⟩; have R1 := Aside0.mk (H0.out.call hI hG); rw [← HM.out] at R1; have hx := (blk_cell R1.out.2.1 0).trans rfl; have hf := blk_frozen R1.out.2.1 0; clear hI hG)
  clear hx hf
  rw [HM.out] at R1
  simp only [HM.out]
  have R2 := Aside0.mk (R1.out.set HM.out hwm' 0 (.int .i64 (a - 8)))
  simp only [List.setIfInBounds_toArray, List.set_cons_zero, List.set_cons_succ] at R2
  clear R1
  generalize W1.setCell ⟨m, 0, none⟩ (.int .i64 (a - 8)) = W2 at R2 ⊢
  cases h2 : rd1 s1 with
  | none =>
    have E2 := Aside0.mk h2
    clear h2
    go_wp2_with (go_at_call 32; refine (ib_no w g s1 _ R2.out.1 E2.out).mono ?_; rintro e W9 ⟨rfl, hG⟩; have HG := Aside0.mk (World.grownBy.trans R2.out.2.2 hG); clear hG)
    exact ⟨rfl, HG.out, .inr ⟨by simp only [rdRow, E1.out, E2.out], rfl⟩⟩
  | some p2 =>
  obtain ⟨k1, s2⟩ := p2
  have E2 := Aside0.mk h2
  clear h2
  go_upto_region 3 with (go_at_call 32; refine (ib_yes w g s1 _ R2.out.1 E2.out).mono ?_; rintro e W3 ⟨rfl, hI, hG⟩; have R3 := Aside0.mk (R2.out.call hI hG); have hx := (blk_cell R3.out.2.1 1).trans rfl; have hf := blk_frozen R3.out.2.1 1; clear hI hG)
  clear hx hf R2
  have R4 := Aside0.mk (R3.out.set HM.out hwm' 1 (.int .i64 k1))
  simp only [List.setIfInBounds_toArray, List.set_cons_zero, List.set_cons_succ] at R4
  clear R3
  generalize W3.setCell ⟨m, 1, none⟩ (.int .i64 k1) = W4 at R4 ⊢
  cases h3 : rd4 s2 with
  | none =>
    have E3 := Aside0.mk h3
    clear h3
    go_wp2_with (go_at_call 45; refine (ifix_no w g s2 _ R4.out.1 E3.out).mono ?_; rintro e W9 ⟨rfl, hG⟩; have HG := Aside0.mk (World.grownBy.trans R4.out.2.2 hG); clear hG)
    exact ⟨rfl, HG.out, .inr ⟨by simp only [rdRow, E1.out, E2.out, E3.out], rfl⟩⟩
  | some p3 =>
  obtain ⟨e1, s3⟩ := p3
  have E3 := Aside0.mk h3
  clear h3
  go_upto_region 4 with (go_at_call 45; refine (ifix_yes w g s2 _ R4.out.1 E3.out).mono ?_; rintro e W5 ⟨rfl, hI, hG⟩; have R5 := Aside0.mk (R4.out.call hI hG); have hx := (blk_cell R5.out.2.1 2).trans rfl; have hf := blk_frozen R5.out.2.1 2; clear hI hG)
  clear hx hf R4
  have R6 := Aside0.mk (R5.out.set HM.out hwm' 2 (.int .i64 e1))
  simp only [List.setIfInBounds_toArray, List.set_cons_zero, List.set_cons_succ] at R6
  clear R5
  generalize W5.setCell ⟨m, 2, none⟩ (.int .i64 e1) = W6 at R6 ⊢
  cases h4 : rd4 s3 with
  | none =>
    have E4 := Aside0.mk h4
    clear h4
    go_wp2_with (go_at_call 45; refine (ifix_no w g s3 _ R6.out.1 E4.out).mono ?_; rintro e W9 ⟨rfl, hG⟩; have HG := Aside0.mk (World.grownBy.trans R6.out.2.2 hG); clear hG)
    exact ⟨rfl, HG.out, .inr ⟨by simp only [rdRow, E1.out, E2.out, E3.out, E4.out], rfl⟩⟩
  | some p4 =>
  obtain ⟨d1, s4⟩ := p4
  have E4 := Aside0.mk h4
  clear h4
  go_upto_region 5 with (go_at_call 45; refine (ifix_yes w g s3 _ R6.out.1 E4.out).mono ?_; rintro e W7 ⟨rfl, hI, hG⟩; have R7 := Aside0.mk (R6.out.call hI hG); have hx := (blk_cell R7.out.2.1 3).trans rfl; have hf := blk_frozen R7.out.2.1 3; clear hI hG)
  clear hx hf R6
  have R8 := Aside0.mk (R7.out.set HM.out hwm' 3 (.int .i64 d1))
  simp only [List.setIfInBounds_toArray, List.set_cons_zero, List.set_cons_succ] at R8
  clear R7
  generalize W7.setCell ⟨m, 3, none⟩ (.int .i64 d1) = W8 at R8 ⊢
  cases h5 : rd2 s4 with
  | none =>
    have E5 := Aside0.mk h5
    clear h5
    go_wp2_with (go_at_call 46; refine (itwo_no w g s4 _ R8.out.1 E5.out).mono ?_; rintro e W9 ⟨rfl, hG⟩; have HG := Aside0.mk (World.grownBy.trans R8.out.2.2 hG); clear hG)
    exact ⟨rfl, HG.out, .inr ⟨by simp only [rdRow, E1.out, E2.out, E3.out, E4.out, E5.out], rfl⟩⟩
  | some p5 =>
  obtain ⟨q0, s5⟩ := p5
  obtain ⟨q, rfl, hq⟩ := rd2_range R8.out.1.byts h5
  have E5 := Aside0.mk h5
  clear h5
  go_wp2_with (go_at_call 46; refine (itwo_yes w g s4 _ R8.out.1 E5.out).mono ?_; rintro e W9 ⟨rfl, hI, hG⟩; have R9 := Aside0.mk (R8.out.call hI hG); clear hI hG)
  clear R8
  go_loopw [19] (fun i wr => ∃ (k : Nat) (s6 : List Int) (v : Value) (acc : List S43), k ≤ q ∧ i = .int .i64 k ∧ Aside0 (rdItems (q - k) s6 acc = rdItems q s5 []) ∧ Aside0 (acc.length = k) ∧ Aside0 (RowAt w g W m s6 #[.int .i64 (a - 8), .int .i64 k1, .int .i64 e1, .int .i64 d1, v] wr) ∧ Aside0 (k43.R 43 wr W.heap.size (fun _ => True) v acc)) (fun i _ => q - (intOf i).toNat)
  case atStart => exact ⟨0, s5, .slice none 0 0, [], Nat.zero_le _, rfl, ⟨rfl⟩, ⟨rfl⟩, R9, ⟨Kd.R_nil _ _ _ _ _⟩⟩
  case round =>
    clear R9
    obtain ⟨k, s6, v, acc, hk, rfl, HS, HL, R0, HO0⟩ := hrel
    obtain ⟨Av, cv, rfl⟩ := Kd.R_slice HO0.out
    by_cases hlt : k < q
    · have HQ : Aside0 (q - k = (q - (k + 1)) + 1) := ⟨by omega⟩
      have HS1 : Aside0 ((match rdItem s6 with | none => none | some (p, s) => rdItems (q - (k + 1)) s (acc ++ [p])) = rdItems q s5 []) := ⟨by have := HS.out; rwa [HQ.out, rdItems] at this⟩
      clear HS HQ
      cases h6 : rd1 s6 with
      | none =>
        have E6 := Aside0.mk h6
        clear h6
        go_wp2_with (go_at_call 32; refine (ib_no w g s6 _ R0.out.1 E6.out).mono ?_; rintro e W8 ⟨rfl, hG⟩; have HG := Aside0.mk (World.grownBy.trans R0.out.2.2 hG); clear hG)
        have HN : rdItems q s5 [] = none := by rw [← HS1.out]; simp only [rdItem, E6.out]
        exact ⟨rfl, HG.out, .inr ⟨by simp only [rdRow, E1.out, E2.out, E3.out, E4.out, E5.out, Int.toNat_natCast, HN], rfl⟩⟩
      | some p6 =>
        obtain ⟨c, s7⟩ := p6
        have E6 := Aside0.mk h6
        clear h6
        go_upto_region 8 with (go_at_call 32; refine (ib_yes w g s6 _ R0.out.1 E6.out).mono ?_; rintro e W1 ⟨rfl, hI, hG⟩; have R1 := Aside0.mk (R0.out.call hI hG); have HO1 := Aside0.mk (R_call HO0.out R0.out.1 hG); clear hI hG)
        clear R0 HO0
        generalize hv : (Value.slice Av acc.length cv) = v at R1 HO1
        have HV := Aside0.mk hv
        clear hv
        cases h7 : rd4 s7 with
        | none =>
          have E7 := Aside0.mk h7
          clear h7
          refine start_ (n := 10) (S := fun w' => w'.cell? ⟨m, 4, none⟩ = some v) (ds := [9]) #[false, false, false, false, false, false, false, false, false, false] (by kernel_rfl) rfl rfl ((blk_cell R1.out.2.1 4).trans rfl) (fun hHeld => ?_)
          have R2 := Aside0.mk (R1.out.drew)
          have HO2 := Aside0.mk (Kd.R_drew HO1.out)
          clear R1 HO1
          generalize W1.drew = wd at R2 HO2 hHeld ⊢
          refine pure_ (i := 0) (N := some 23) (v := ?_) (a' := ?_) #[true, false, false, false, false, false, false, false, false, false] rfl rfl (by kernel_rfl) (fun _ _ _ h => h) (Or.inl ⟨by rfl, ?_⟩) ?_ ?_
          rotate_left
          · intro w'
            go_simp
            with_reducible rfl
          rotate_left
          · simp only [Act.put, List.setIfInBounds_toArray, List.set_cons_zero, List.set_cons_succ, i64_w, i32_w]
            rfl
          refine pure_ (i := 2) (N := some 25) (v := ?_) (a' := ?_) #[true, false, true, false, false, false, false, false, false, false] rfl rfl (by kernel_rfl) (fun _ _ _ h => h) (Or.inl ⟨by rfl, ?_⟩) ?_ ?_
          rotate_left
          · intro w'
            go_simp
            with_reducible rfl
          rotate_left
          · simp only [Act.put, List.setIfInBounds_toArray, List.set_cons_zero, List.set_cons_succ, i64_w, i32_w]
            rfl
          refine pure_ (i := 3) (N := some 26) (v := ?_) (a' := ?_) #[true, false, true, true, false, false, false, false, false, false] rfl rfl (by kernel_rfl) (fun _ _ _ h => h) (Or.inl ⟨by rfl, ?_⟩) ?_ ?_
          rotate_left
          · intro w'
            go_simp
            with_reducible rfl
          rotate_left
          · simp only [Act.put, List.setIfInBounds_toArray, List.set_cons_zero, List.set_cons_succ, i64_w, i32_w]
            rfl
          refine take_ (i := 1) (N := some 24) (v := ?_) (a' := ?_) #[true, true, true, true, false, false, false, false, false, false] rfl rfl (by kernel_rfl) (fun _ _ _ h => h) (Or.inl ⟨by rfl, ?_⟩) hHeld ?_ ?_
          rotate_left
          · rintro w' s0
            go_simp
            with_reducible rfl
          rotate_left
          · simp only [Act.put, List.setIfInBounds_toArray, List.set_cons_zero, List.set_cons_succ, i64_w, i32_w]
            rfl
          refine one_ (i := 4) (N := some 27) #[true, true, true, true, true, false, false, false, false, false] rfl rfl (by kernel_rfl) (by decide) (fun K hK => ?_)
          refine callP_ Try.func45 (by kernel_rfl) rfl #[.pointer (some ⟨g, 0, none⟩)] (by rfl) rfl (by simp only [List.map_toArray, List.map_cons, List.map_nil]; rfl) ?_
          refine (ifix_no w g s7 wd R2.out.1 E7.out).mono ?_
          rintro e W3 ⟨rfl, hG⟩
          refine ⟨_, rfl, ?_⟩
          have HN : rdItems q s5 [] = none := by rw [← HS1.out]; simp only [rdItem, E6.out, E7.out]
          exact ⟨rfl, World.grownBy.trans R2.out.2.2 hG, .inr ⟨by simp only [rdRow, E1.out, E2.out, E3.out, E4.out, E5.out, Int.toNat_natCast, HN], rfl⟩⟩
        | some p7 =>
          obtain ⟨x, s8⟩ := p7
          have E7 := Aside0.mk h7
          clear h7
          refine start_ (n := 10) (S := fun w' => w'.cell? ⟨m, 4, none⟩ = some v) (ds := [9]) #[false, false, false, false, false, false, false, false, false, false] (by kernel_rfl) rfl rfl ((blk_cell R1.out.2.1 4).trans rfl) (fun hHeld => ?_)
          have R2 := Aside0.mk (R1.out.drew)
          have HO2 := Aside0.mk (Kd.R_drew HO1.out)
          clear R1 HO1
          generalize W1.drew = wd at R2 HO2 hHeld ⊢
          refine pure_ (i := 0) (N := some 23) (v := ?_) (a' := ?_) #[true, false, false, false, false, false, false, false, false, false] rfl rfl (by kernel_rfl) (fun _ _ _ h => h) (Or.inl ⟨by rfl, ?_⟩) ?_ ?_
          rotate_left
          · intro w'
            go_simp
            with_reducible rfl
          rotate_left
          · simp only [Act.put, List.setIfInBounds_toArray, List.set_cons_zero, List.set_cons_succ, i64_w, i32_w]
            rfl
          refine pure_ (i := 2) (N := some 25) (v := ?_) (a' := ?_) #[true, false, true, false, false, false, false, false, false, false] rfl rfl (by kernel_rfl) (fun _ _ _ h => h) (Or.inl ⟨by rfl, ?_⟩) ?_ ?_
          rotate_left
          · intro w'
            go_simp
            with_reducible rfl
          rotate_left
          · simp only [Act.put, List.setIfInBounds_toArray, List.set_cons_zero, List.set_cons_succ, i64_w, i32_w]
            rfl
          refine pure_ (i := 3) (N := some 26) (v := ?_) (a' := ?_) #[true, false, true, true, false, false, false, false, false, false] rfl rfl (by kernel_rfl) (fun _ _ _ h => h) (Or.inl ⟨by rfl, ?_⟩) ?_ ?_
          rotate_left
          · intro w'
            go_simp
            with_reducible rfl
          rotate_left
          · simp only [Act.put, List.setIfInBounds_toArray, List.set_cons_zero, List.set_cons_succ, i64_w, i32_w]
            rfl
          refine take_ (i := 1) (N := some 24) (v := ?_) (a' := ?_) #[true, true, true, true, false, false, false, false, false, false] rfl rfl (by kernel_rfl) (fun _ _ _ h => h) (Or.inl ⟨by rfl, ?_⟩) hHeld ?_ ?_
          rotate_left
          · rintro w' s0
            go_simp
            with_reducible rfl
          rotate_left
          · simp only [Act.put, List.setIfInBounds_toArray, List.set_cons_zero, List.set_cons_succ, i64_w, i32_w]
            rfl
          refine one_ (i := 4) (N := some 27) #[true, true, true, true, true, false, false, false, false, false] rfl rfl (by kernel_rfl) (by decide) (fun K hK => ?_)
          refine goes_ Try.func45 (by kernel_rfl) rfl #[.pointer (some ⟨g, 0, none⟩)] (by rfl) rfl rfl (by simp only [List.map_toArray, List.map_cons, List.map_nil]; rfl) ?_
          refine (ifix_yes w g s7 wd R2.out.1 E7.out).mono ?_
          rintro e W3 ⟨rfl, hI, hG⟩
          have R3 := Aside0.mk (R2.out.call hI hG)
          have HO3 := Aside0.mk (R_call HO2.out R2.out.1 hG)
          clear hI hG R2 HO2
          refine ⟨_, rfl, hK.out _ _ ((blk_cell R3.out.2.1 4).trans rfl) (fun hHeld => ?_)⟩
          clear hK K
          refine norm_ (a' := ?_) ?_ ?_
          rotate_left
          · show Act.put _ (some 27) _ = _
            simp only [Act.put, List.setIfInBounds_toArray, List.set_cons_zero, List.set_cons_succ, i64_w, i32_w]
            rfl
          refine pure_ (i := 5) (N := some 28) (v := ?_) (a' := ?_) #[true, true, true, true, true, true, false, false, false, false] rfl rfl (by kernel_rfl) (fun _ _ _ h => h) (Or.inl ⟨by rfl, ?_⟩) ?_ ?_
          rotate_left
          · intro w'
            go_simp
            with_reducible rfl
          rotate_left
          · simp only [Act.put, List.setIfInBounds_toArray, List.set_cons_zero, List.set_cons_succ, i64_w, i32_w]
            rfl
          refine one_ (i := 6) (N := some 29) #[true, true, true, true, true, true, true, false, false, false] rfl rfl (by kernel_rfl) (by decide) (fun K hK => ?_)
          refine value_ (w1 := ?_) (v := ?_) (by rfl) rfl ?_ ?_
          rotate_left
          rotate_left
          · go_simp
            constructor
            · rfl
            · rfl
          refine hK.out _ _ ((blk_cell (blk_alloc R3.out.2.1 _) 4).trans rfl) (fun hHeld => ?_)
          clear hK K
          refine norm_ (a' := ?_) ?_ ?_
          rotate_left
          · show Act.put _ (some 29) _ = _
            simp only [Act.put, List.setIfInBounds_toArray, List.set_cons_zero, List.set_cons_succ, i64_w, i32_w]
            rfl
          refine one_ (i := 7) (N := some 30) #[true, true, true, true, true, true, true, true, false, false] rfl rfl (by kernel_rfl) (by decide) (fun K hK => ?_)
          refine Kd.R_append_step k43 (w0 := W3) W.heap.size (by rfl) (.tmp 24) (.tmp 29) 39 43 (.agg #[.int .i64 0, .int .i64 0]) 16 rfl Try.underlying39 info43 rfl (by decide) (by omega) v acc ⟨c, x⟩ [.int .i64 c, .int .i64 x] (fun _ => True) (fun _ => False) rfl rfl (k43_mkM _ _ _ ⟨c, x⟩) (fun _ hk => hk.elim) (fun _ _ => trivial) HO3.out (Below.refl _ _) (R3.out.2.2.size) (by have := HL.out; omega) ?_
          intro v1 w4 ho hb hg hat
          have R4 := Aside0.mk (R3.out.append HO3.out hg hwm)
          obtain ⟨An, cn, en⟩ := Kd.R_slice ho
          rw [List.length_append, List.length_singleton] at en
          subst en
          have HO4 := Aside0.mk ho
          clear ho hb hg hat R3 HO3
          refine hK.out _ _ ((blk_cell R4.out.2.1 4).trans rfl) (fun hHeld => ?_)
          clear hK K
          refine norm_ (a' := ?_) ?_ ?_
          rotate_left
          · show Act.put _ (some 30) _ = _
            simp only [Act.put, List.setIfInBounds_toArray, List.set_cons_zero, List.set_cons_succ, i64_w, i32_w]
            rfl
          refine pure_ (i := 8) (N := some 31) (v := ?_) (a' := ?_) #[true, true, true, true, true, true, true, true, true, false] rfl rfl (by kernel_rfl) (fun _ _ _ h => h) (Or.inl ⟨by rfl, ?_⟩) ?_ ?_
          rotate_left
          · intro w'
            go_simp
            with_reducible rfl
          rotate_left
          · simp only [Act.put, List.setIfInBounds_toArray, List.set_cons_zero, List.set_cons_succ, i64_w, i32_w]
            rfl
          have hv := (blk_cell R4.out.2.1 4).trans rfl
          have hf := blk_frozen R4.out.2.1 4
          refine last_ (i := 9) (N := none) #[true, true, true, true, true, true, true, true, true, true] rfl rfl (by kernel_rfl) (by decide) (fun K hK => ?_)
          refine skip_ (w1 := ?_) (by rfl) rfl ?_ ?_
          rotate_left
          · go_simp
            rfl
          refine hK.out _ _ ?_
          clear hK K
          refine done_ (by kernel_rfl) ?_
          go_wp2
          go_roundw
          case rel => exact ⟨k + 1, s8, _, acc ++ [⟨c, x⟩], by omega, by go_num, ⟨by rw [← HS1.out]; simp only [rdItem, E6.out, E7.out]⟩, ⟨by have := HL.out; simp; omega⟩, ⟨R4.out.set HM.out hwm' 4 _⟩, ⟨Kd.R_set HO4.out R4.out.2.1 (by decide) 4 _⟩⟩
          case measure => simp [intOf]; omega
    · have HN : Aside0 (rdItems q s5 [] = some (acc, s6)) := ⟨by have := HS.out; rw [show q - k = 0 from by omega, rdItems] at this; exact this.symm⟩
      have hx0 := (blk_cell R0.out.2.1 0).trans rfl
      have hx1 := (blk_cell R0.out.2.1 1).trans rfl
      have hx2 := (blk_cell R0.out.2.1 2).trans rfl
      have hx3 := (blk_cell R0.out.2.1 3).trans rfl
      have hx4 := (blk_cell R0.out.2.1 4).trans rfl
      have hf0 := blk_frozen R0.out.2.1 0
      have hf1 := blk_frozen R0.out.2.1 1
      have hf2 := blk_frozen R0.out.2.1 2
      have hf3 := blk_frozen R0.out.2.1 3
      have hf4 := blk_frozen R0.out.2.1 4
      have S1 := Aside0.mk (R0.out.set HM.out hwm' 0 (.int .i64 (a - 8)))
      have S2 := Aside0.mk (S1.out.set HM.out hwm' 1 (.int .i64 k1))
      have S3 := Aside0.mk (S2.out.set HM.out hwm' 2 (.int .i64 e1))
      have S4 := Aside0.mk (S3.out.set HM.out hwm' 3 (.int .i64 d1))
      have S5 := Aside0.mk (S4.out.set HM.out hwm' 4 (.slice Av acc.length cv))
      have HF := Aside0.mk (Kd.R_set (Kd.R_set (Kd.R_set (Kd.R_set (Kd.R_set HO0.out R0.out.2.1 (by decide) 0 (.int .i64 (a - 8))) S1.out.2.1 (by decide) 1 (.int .i64 k1)) S2.out.2.1 (by decide) 2 (.int .i64 e1)) S3.out.2.1 (by decide) 3 (.int .i64 d1)) S4.out.2.1 (by decide) 4 (.slice Av acc.length cv))
      clear S1 S2 S3 S4
      have RF := S5
      clear S5
      simp only [List.setIfInBounds_toArray, List.set_cons_zero, List.set_cons_succ] at RF
      go_wp2
      clear hx0 hx1 hx2 hx3 hx4 hf0 hf1 hf2 hf3 hf4
      generalize (((((wr.setCell ⟨m, 0, none⟩ (.int .i64 (a - 8))).setCell ⟨m, 1, none⟩ (.int .i64 k1)).setCell ⟨m, 2, none⟩ (.int .i64 e1)).setCell ⟨m, 3, none⟩ (.int .i64 d1)).setCell ⟨m, 4, none⟩ (.slice Av acc.length cv)) = WF at RF HF ⊢
      have gx0 := (blk_cell RF.out.2.1 0).trans rfl
      have gx1 := (blk_cell RF.out.2.1 1).trans rfl
      have gx2 := (blk_cell RF.out.2.1 2).trans rfl
      have gx3 := (blk_cell RF.out.2.1 3).trans rfl
      have gx4 := (blk_cell RF.out.2.1 4).trans rfl
      refine bodyPost_ret (v := .agg #[.int .i64 (a - 8), .int .i64 k1, .int .i64 e1, .int .i64 d1, .slice Av acc.length cv]) ?_ rfl ?_
      · simp [results, Try.results33, go_sem, gx0, gx1, gx2, gx3, gx4]
      · exact ⟨RF.out.2.2, .inl ⟨⟨a - 8, k1, e1, d1, acc⟩, s6, _, by simp only [rdRow, E1.out, E2.out, E3.out, E4.out, E5.out, Int.toNat_natCast, HN.out], rfl, HF.out, RF.out.1⟩⟩

end Go.Proofs.Ythlhfnbaihdjkaa.Q
