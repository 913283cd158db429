/- The contract of ship.Write, by hand: the bytes of rows. -/
import Derived.Test.YthlhfnbaihdjkaaQPut
import Derived.Lib.SlBytesConst
import Derived.ArgAppend
import Derived.Outline
namespace Go.Proofs.Ythlhfnbaihdjkaa.Q
open Go.RowKit Go.Proofs.YthlhfnbaihdjkaaW.PrintWords Go.Proofs.YthlhfnbaihdjkaaW.PrintLast Go.Proofs.YthlhfnbaihdjkaaW.PrintMore
set_option linter.unusedVariables false
set_option linter.unusedSimpArgs false

/-- Whatever is no row of bytes, and not block g, lies as it lay. -/
def Keep5 (g : Nat) (W W' : World) : Prop := ∀ (k : Nat) (cells : Array Value) (t : TypeId), k ≠ g → t ≠ 5 → W.heap[k]? = some (.cells cells t (0, 0)) → W'.heap[k]? = some (.cells cells t (0, 0))
theorem Keep5.refl (g : Nat) (W : World) : Keep5 g W W := fun _ _ _ _ _ h => h
theorem Keep5.trans {g : Nat} {W W1 W2 : World} (h : Keep5 g W W1) (k : Keep5 g W1 W2) : Keep5 g W W2 := fun i c t h1 h2 h3 => k i c t h1 h2 (h i c t h1 h2 h3)
theorem Keep5.below {g : Nat} {W W1 : World} (h : Below W.heap.size W W1) : Keep5 g W W1 := fun i c t _ _ h3 => blk_below h3 h
theorem Keep5.set {g : Nat} (W : World) (j : Nat) (v : Value) : Keep5 g W (W.setCell ⟨g, j, none⟩ v) := fun i c t h1 _ h3 => (Below.heap_setCell _ _ _ _ h1).trans h3

/-- What a writer leaves: bytes in a row of the call's own, in out's block g. -/
def OutAt (B g : Nat) (W : World) (zs : List Int) (W' : World) : Prop :=
  ∃ v, W'.heap[g]? = some (.cells #[v] 50 (0, 0)) ∧ (Kd.int .u8).R 5 W' B (fun _ => True) v zs ∧ Below B W W' ∧ Keep5 g W W'

section
variable {ops : Array Oper} {rest : List Oper} {o : Oper} {a : Act} {Q : Exit → Act → World → Prop}
theorem app1 {B : Nat} {W : World} (hgd : o.guard = none) (s x : Operand) (ho : o.op = .call { callee := .builtin .append, args := #[s, x], argTypes := #[25, 25] })
    (v : Value) (xs : List Int) (y : Int) (hs : a.eval s = v) (hx : a.eval x = .slice (some ⟨W.heap.size, 0, none⟩) 1 1)
    (HO : (Kd.int .u8).R 5 W B (fun _ => True) v xs) (hB : B ≤ W.heap.size) (hl : xs.length + 1 ≤ 140737488355328)
    (h : ∀ v1 w1, (Kd.int .u8).R 5 w1 B (fun _ => True) v1 (xs ++ [y]) → Below B W w1 →
      (∀ (g : Nat) (cells : Array Value) (t : TypeId), t ≠ 5 → W.heap[g]? = some (.cells cells t (0, 0)) → w1.heap[g]? = some (.cells cells t (0, 0))) → wpList Try.prog ops Q rest (a.put o.dst v1) w1) :
    wpList Try.prog ops Q (o :: rest) a (W.alloc (.cells #[.int .u8 y] 5)) := by
  refine Kd.R_append (Kd.int .u8) (w0 := W) B hgd s x 25 5 (.int .u8 0) 1 ho Try.underlying25 info5 rfl (by decide) (by omega) v xs y [.int .u8 y] (fun _ => True) (fun _ => False) hs hx rfl (fun _ hk => hk.elim) (fun _ _ => trivial) HO (Below.refl _ _) hB (by omega) ?_
  intro v1 w1 ho hb hg hat
  refine h v1 w1 ho hb (fun g cells t ht hc => ?_)
  exact blk_grown hc hg (Kd.R_ne HO hc (fun e => ht e.symm))
end

set_option maxHeartbeats 4000000 in
theorem byte_any (B g : Nat) (W : World) (v : Value) (xs : List Int) (n : Int) (hb : W.heap[g]? = some (.cells #[v] 50 (0, 0))) (HO : (Kd.int .u8).R 5 W B (fun _ => True) v xs) (hB : B ≤ g) (hl : xs.length + 1 ≤ 140737488355328) :
    Calls Try.prog 19 #[.pointer (some ⟨g, 0, none⟩), .int .i64 n] W fun e W' => e = .returned (.tuple #[]) ∧ OutAt B g W (xs ++ [n % 256]) W' := by
  have hx0 := (blk_cell hb 0).trans rfl
  have hf0 := blk_frozen hb 0
  have hlt := blk_lt hb
  have HBK := Aside0.mk hb
  have HR := Aside0.mk HO
  clear hb HO
  go_enter Try.func19, Try.ntmps19
  go_wp2_with (at_builtin; refine app1 (B := B) (W := W) rfl (.tmp 8) (.tmp 11) rfl v xs (n % 256) rfl ?hx HR.out (by omega) hl ?_; (case hx => simp [Act.eval]); intro v1 w1 h1 h2 h3; obtain ⟨A1, c1, e1⟩ := Kd.R_slice h1; rw [List.length_append, List.length_singleton] at e1; subst e1; have HO1 := Aside0.mk h1; have HB1 := Aside0.mk h2; have BK1 := Aside0.mk (h3 _ _ _ (by decide) HBK.out); have HK := Aside0.mk h3; have hx1 := (blk_cell BK1.out 0).trans rfl; have hf1 := blk_frozen BK1.out 0; clear h1 h2 h3)
  go_end0
  refine ⟨rfl, _, blk_put BK1.out 0 _ rfl, Kd.R_set HO1.out BK1.out (by decide) 0 _, HB1.out.setCell (p := ⟨g, 0, none⟩) hB _, ?_⟩
  exact Keep5.trans (fun k c t h1 h2 h3 => HK.out k c t h2 h3) (Keep5.set w1 0 _)

theorem cell_kept_alloc {W : World} {a : Addr} {v : Value} (o : Obj) (h : W.cell? a = some v) : (W.alloc o).cell? a = some v := ((Below.refl W.heap.size W).alloc (Nat.le_refl _) o).cell (World.block_lt_of_cell? W _ h) |>.trans h
theorem cellOld {W : World} {m : Nat} {o : Obj} (h67 : W.cell? ⟨m, 0, none⟩ = some (.int .u8 67)) (h79 : W.cell? ⟨m, 1, none⟩ = some (.int .u8 79)) (j : Nat) (u : Value) (hj : ([.int .u8 67, .int .u8 79] : List Value)[j]? = some u) : (W.alloc o).cell? ((⟨m, 0, none⟩ : Addr).add j) = some u := by
  match j, hj with
  | 0, hj => cases hj; exact (cell_kept_alloc o h67)
  | 1, hj => cases hj; exact (cell_kept_alloc o h79)
theorem cellNew (W : World) (y : Int) (j : Nat) (u : Value) (hj : ([.int .u8 y] : List Value)[j]? = some u) : (W.alloc (.cells #[.int .u8 y] 5)).cell? ((⟨W.heap.size, 0, none⟩ : Addr).add j) = some u := by
  match j, hj with
  | 0, hj => cases hj; exact blk_cell (blk_new W (.cells #[.int .u8 y] 5)) 0
theorem rowOf {W : World} {B : Nat} {v : Value} {y : Int} (h : W.ownsRow B 5 1 v 3 ([.int .u8 67, .int .u8 79] ++ [.int .u8 y])) : (Kd.int .u8).R 5 W B (fun _ => True) v [67, 79, y] :=
  ⟨fun _ _ => trivial, _, h, Reps.one (show Kd.M (Kd.int .u8) _ _ _ 67 [.int .u8 67] from rfl) (Reps.one (show Kd.M (Kd.int .u8) _ _ _ 79 [.int .u8 79] from rfl) (Reps.one (show Kd.M (Kd.int .u8) _ _ _ y [.int .u8 y] from rfl) (Reps.none _ _)))⟩

set_option maxHeartbeats 4000000 in
/-- The first byte behind the mark: the mark's row is full: a new one is made. -/
theorem byte_first (B g m : Nat) (W : World) (n : Int) (hb : W.heap[g]? = some (.cells #[.slice (some ⟨m, 0, none⟩) 2 2] 50 (0, 0))) (h67 : W.cell? ⟨m, 0, none⟩ = some (.int .u8 67)) (h79 : W.cell? ⟨m, 1, none⟩ = some (.int .u8 79)) (hB : B ≤ g) :
    Calls Try.prog 19 #[.pointer (some ⟨g, 0, none⟩), .int .i64 n] W fun e W' => e = .returned (.tuple #[]) ∧ OutAt B g W [67, 79, n % 256] W' := by
  have hx0 := (blk_cell hb 0).trans rfl
  have hf0 := blk_frozen hb 0
  have hlt := blk_lt hb
  have HBK := Aside0.mk hb
  have H67 := Aside0.mk h67
  have H79 := Aside0.mk h79
  obtain ⟨i0, hi, hz⟩ := Option.map_eq_some_iff.1 info5
  simp only [Prod.mk.injEq] at hz
  have HI := Aside0.mk hi
  have HZ := Aside0.mk hz
  clear hb h67 h79 hi hz
  go_enter Try.func19, Try.ntmps19
  go_wp2_with (at_builtin; refine wpList_append_grows (W.alloc (.cells #[.int .u8 (n % 256)] 5)) rfl (.tmp 8) (.tmp 11) 25 rfl 5 i0 (.int .u8 0) 1 1 Try.underlying25 HI.out HZ.out.1 HZ.out.2.1 HZ.out.2.2 rfl (by decide) (some ⟨m, 0, none⟩) 2 2 [.int .u8 67, .int .u8 79] rfl (by simp) rfl ?ho ⟨W.heap.size, 0, none⟩ 1 1 [.int .u8 (n % 256)] rfl rfl ?hn (by simp [Value.oneCell']) (by decide) (by decide) (by decide) ?_; (case ho => (intro b e j u hj; cases e; exact cellOld H67.out H79.out j u hj)); (case hn => exact cellNew W _); intro v1 w1 h1 h2; obtain ⟨A1, c1, e1⟩ := Kd.R_slice (rowOf h1); simp only [List.length_cons, List.length_nil, Nat.reduceAdd] at e1; subst e1; have HO1 := Aside0.mk (rowOf h1); have HG := Aside0.mk h2; have BK1 := Aside0.mk (blk_grown (blk_alloc HBK.out _) h2 (by simp)); have hx1 := (blk_cell BK1.out 0).trans rfl; have hf1 := blk_frozen BK1.out 0; clear h1 h2)
  go_end0
  refine ⟨rfl, _, blk_put BK1.out 0 _ rfl, Kd.R_set (Kd.R_lower HO1.out (by simp; omega)) BK1.out (by decide) 0 _, ?_, ?_⟩
  · exact (((Below.refl B W).alloc (by omega) _).grown HG.out (by simp; omega) (fun k e => by cases e)).setCell (p := ⟨g, 0, none⟩) hB _
  · exact Keep5.trans (fun k c t h1 h2 h3 => blk_grown (blk_alloc h3 _) HG.out (by simp)) (Keep5.set w1 0 _)

set_option maxHeartbeats 4000000 in
theorem two_any (B g : Nat) (W : World) (v : Value) (xs : List Int) (n : Int) (hb : W.heap[g]? = some (.cells #[v] 50 (0, 0))) (HO : (Kd.int .u8).R 5 W B (fun _ => True) v xs) (hB : B ≤ g) (hl : xs.length + 4 ≤ 140737488355328) (h0 : 0 ≤ n) (h1 : n < 65536) :
    Calls Try.prog 21 #[.pointer (some ⟨g, 0, none⟩), .int .i64 n] W fun e W' => e = .returned (.tuple #[]) ∧ OutAt B g W (xs ++ be2 n) W' := by
  have hlt := blk_lt hb
  obtain ⟨A, c, rfl, hcl, hC⟩ := Kd.R_reads HO
  have hx0 := (blk_cell hb 0).trans rfl
  have hf0 := blk_frozen hb 0
  have HP := Aside0.mk (pack_Put.calls 5 A c xs n 2 _ _ W hC hcl (put2 0 xs n h0 h1 hl))
  obtain ⟨r, hr⟩ : ∃ r, xs ++ be2 n = r := ⟨_, rfl⟩
  rw [hr] at HP ⊢
  have HBK := Aside0.mk hb
  have HR := Aside0.mk HO
  clear hb HO hr hC
  go_enter Try.func21, Try.ntmps21
  go_wp2_with (go_at_call 37; refine HP.out.mono ?_; rintro e w1 ⟨v0, rfl, ho, hb⟩; obtain ⟨A1, c1, rfl⟩ := Kd.R_slice ho; have HO1 := Aside0.mk ho; have HB1 := Aside0.mk hb; have BK1 := Aside0.mk (blk_below HBK.out hb); have hx1 := (blk_cell BK1.out 0).trans rfl; have hf1 := blk_frozen BK1.out 0; clear ho hb)
  go_end0
  exact ⟨rfl, _, blk_put BK1.out 0 _ rfl, Kd.R_set (Kd.R_lower HO1.out (by omega)) BK1.out (by decide) 0 _, (HB1.out.mono (by omega)).setCell (p := ⟨g, 0, none⟩) hB _, (Keep5.below HB1.out).trans (Keep5.set w1 0 _)⟩

theorem wayout_calls (n : Int) (W : World) (h : wordI n = true) : Calls Try.prog 56 #[.int .i64 n] W fun e W' => e = .returned (.int .i64 (n % 4294967296)) ∧ W = W' := by
  simp only [wordI, Bool.and_eq_true, decide_eq_true_eq] at h
  obtain ⟨h0, h1⟩ := h
  go_enter Try.func56, Try.ntmps56
  go_wp2
  go_ret
  exact ⟨rfl, rfl⟩

theorem ways_calls (W : World) : Calls Try.prog 48 #[] W fun e W' => e = .returned (.tuple #[.func (.func 56) #[] #[], .func (.func 57) #[] #[]]) ∧ W = W' := by
  go_enter Try.func48, Try.ntmps48
  go_wp2
  go_ret2
  exact ⟨rfl, rfl⟩

theorem be4_mod (n : Int) : be4 (n % 4294967296) = be4 n := by
  unfold be4
  congr 1
  · omega
  congr 1
  · omega
  congr 1
  · omega
  congr 1
  omega

set_option maxHeartbeats 4000000 in
theorem putfix_any (n : Int) (W : World) (h : wordI n = true) : Calls Try.prog 36 #[.slice none 0 0, .int .i64 n] W fun e W' => ∃ v0, e = .returned (.tuple #[v0, .int .i64 0]) ∧ (Kd.int .u8).R 5 W' W.heap.size (fun _ => True) v0 (be4 n) ∧ Below W.heap.size W W' := by
  have HW := Aside0.mk h
  have HP := Aside0.mk (pack_Put.calls 7 none 0 [] (n % 4294967296) 4 _ _ W (Kd.C_nil _ _) (Nat.le_refl _) (put4 0 [] (n % 4294967296) (by omega) (by omega) (by decide)))
  rw [List.nil_append, be4_mod] at HP
  simp only [wordI, Bool.and_eq_true, decide_eq_true_eq] at h
  obtain ⟨h0, h1⟩ := h
  go_enter Try.func36, Try.ntmps36
  go_wp2_with (first | (go_at_call 48; refine (ways_calls _).mono ?_; rintro e w' ⟨rfl, rfl⟩) | (go_at_call 56; refine (wayout_calls n _ HW.out).mono ?_; rintro e w' ⟨rfl, rfl⟩) | (go_at_call 37; refine HP.out.mono ?_; rintro e w1 ⟨v0, rfl, ho, hb⟩; have HO1 := Aside0.mk ho; have HB1 := Aside0.mk hb; clear ho hb))
  go_ret2
  exact ⟨_, rfl, HO1.out, HB1.out⟩

set_option maxHeartbeats 4000000 in
theorem fix_any (B g : Nat) (W : World) (v : Value) (xs : List Int) (n : Int) (hb : W.heap[g]? = some (.cells #[v] 50 (0, 0))) (HO : (Kd.int .u8).R 5 W B (fun _ => True) v xs) (hB : B ≤ g) (hl : xs.length + 4 ≤ 140737488355328) (h : wordI n = true) :
    Calls Try.prog 20 #[.pointer (some ⟨g, 0, none⟩), .int .i64 n] W fun e W' => e = .returned (.tuple #[]) ∧ OutAt B g W (xs ++ be4 n) W' := by
  have hlt := blk_lt hb
  have HBK := Aside0.mk hb
  have HR := Aside0.mk HO
  have HP := Aside0.mk (putfix_any n W h)
  obtain ⟨r, hr⟩ : ∃ r, xs ++ be4 n = r := ⟨_, rfl⟩
  have HRR := Aside0.mk hr
  rw [hr]
  clear hb HO hr
  go_enter Try.func20, Try.ntmps20
  go_wp2_with (first | (go_at_call 36; refine HP.out.mono ?_; rintro e w1 ⟨v0, rfl, ho, hb⟩; obtain ⟨A1, c1, e1, hl1, hC1⟩ := Kd.R_reads ho; subst e1; have HC1 := Aside0.mk hC1; have HB1 := Aside0.mk hb; have hs1 := hb.size; have HR1 := Aside0.mk (Kd.R_below HR.out hb); have BK1 := Aside0.mk (blk_below HBK.out hb); have hx1 := (blk_cell BK1.out 0).trans rfl; have hf1 := blk_frozen BK1.out 0; clear ho hb hC1) | (at_builtin; refine Kd.R_append_rows (Kd.int .u8) (w0 := w1) B rfl (.tmp 15) (.tmp 16) 25 5 (.int .u8 0) 1 rfl Try.underlying25 info5 rfl (by decide) (by omega) v xs (be4 n) A1 4 c1 (fun _ => True) (fun _ => False) rfl rfl HR1.out HC1.out (fun _ _ h => h) (fun _ h => h.elim) (fun _ _ => trivial) (Below.refl _ _) (by omega) (by omega) ?_; intro v2 w2 ho hb hg hat; rw [HRR.out] at ho; obtain ⟨A2, c2, e2⟩ := Kd.R_slice ho; subst e2; have HO2 := Aside0.mk ho; have HB2 := Aside0.mk hb; have BK2 := Aside0.mk (blk_grown BK1.out hg (Kd.R_ne HR1.out BK1.out (by decide))); have HK2 := Aside0.mk (fun (k : Nat) (cells : Array Value) (t : TypeId) (h1 : k ≠ g) (h2 : t ≠ 5) (h3 : w1.heap[k]? = some (.cells cells t (0, 0))) => blk_grown h3 hg (Kd.R_ne HR1.out h3 (fun e => h2 e.symm))); have hx2 := (blk_cell BK2.out 0).trans rfl; have hf2 := blk_frozen BK2.out 0; clear ho hb hg hat))
  go_end0
  exact ⟨rfl, _, blk_put BK2.out 0 _ rfl, Kd.R_set HO2.out BK2.out (by decide) 0 _, ((HB1.out.mono (by omega)).trans HB2.out).setCell (p := ⟨g, 0, none⟩) hB _, ((Keep5.below HB1.out).trans HK2.out).trans (Keep5.set w2 0 _)⟩


end Go.Proofs.Ythlhfnbaihdjkaa.Q
