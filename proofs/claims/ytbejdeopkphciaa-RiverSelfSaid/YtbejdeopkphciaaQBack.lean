/- slices.Backward over a slice of api.Placed: its iterator's contract. -/
import Derived.Test.YtbejdeopkphciaaQx0
import Derived.Test.YtbejdeopkphciaaQLast
import Derived.RangeFuncBox
import Derived.RangeFuncLeaves
import Derived.Shelf.Abstract
import Derived.WalkKit
import Derived.OwnWalkIn
import Derived.TacticsInMore
import Derived.LoopNIn
import Derived.LoopIn
namespace Go.Proofs.Ytbejdeopkphciaa.Q
open Go.RowKit Go.Shelf Go.Proofs.YtbejdeopkphciaaW.PrintWords Go.Proofs.YtbejdeopkphciaaW.PrintLast Go.Proofs.YtbejdeopkphciaaW.PrintMore
attribute [local go_sem] Oper.semAt_some
set_option linter.unusedVariables false
set_option linter.unusedSimpArgs false

/-- A Placed, a gap: two numbers. -/
def gv (x : S33) : Value := .agg #[.int .i64 x.f0, .int .i64 x.f1]

/-- What the loop's body keeps for Backward: what lay below n₀, and the slice's own box. -/
def KpB (n₀ Bs : Nat) (A B : World) : Prop := Below n₀ A B ∧ ∀ o, A.heap[Bs]? = some o → B.heap[Bs]? = some o
theorem KpB.trans {n₀ Bs : Nat} {A B C : World} (h : KpB n₀ Bs A B) (k : KpB n₀ Bs B C) : KpB n₀ Bs A C := ⟨h.1.trans k.1, fun o ho => k.2 o (h.2 o ho)⟩

/-- From the last place down to the k-th. -/
def down (n k : Nat) : List (Fin n) := ((List.finRange n).drop k).reverse
theorem down_all (n : Nat) : down n n = [] := by simp [down]
theorem down_step {n k : Nat} (h : k < n) : down n k = down n (k + 1) ++ [⟨k, h⟩] := by
  unfold down
  rw [List.drop_eq_getElem_cons (by simpa using h), List.reverse_cons]
  simp
theorem down_length (n k : Nat) : (down n k).length = n - k := by simp [down]

set_option maxRecDepth 100000 in
set_option maxHeartbeats 2000000 in
theorem back_in (F : Fence) (n : Nat) (hF : F.fn 20) (hro : F.round = none) (hn : 1 ≤ n) (l Bs n₀ : Nat) (A : Option Addr) (cap : Nat) (xs : List S33) (w0 : World) (hx : Kd.C k33 w0 A xs.length xs) (hcap : xs.length ≤ cap) (hn0 : w0.heap.size = n₀) (J Jx : List (Fin xs.length) → World → Prop)
    (hY : ∀ pre x W, J pre W → pre.length < xs.length → YieldAt F (n - 1) Try.prog l #[.int .i64 (x.1 : Int), gv xs[x]] W fun e W' =>
      (e = .returned (.bool true) ∧ J (pre ++ [x]) W' ∧ KpB n₀ Bs W W') ∨ (e = .returned (.bool false) ∧ Jx (pre ++ [x]) W'))
    (W : World) (hBs : W.heap[Bs]? = some (.cells #[.slice A xs.length cap] 22 (0, 0))) (hb : Below n₀ w0 W) (h0 : J [] W) :
    CallsIn F n Try.prog 20 #[.func (.yield l) #[] #[], .pointer (some ⟨Bs, 0, none⟩)] W fun e W' => (∃ v, e = .returned v) ∧
      ((∃ ys, ys = down xs.length 0 ∧ J ys W') ∨ (∃ pre, True ∧ Jx pre W')) := by
  have HX := Aside0.mk hx
  have HY := Aside0.mk hY
  have hlen : xs.length ≤ 9223372036854775807 := hx.2.1
  have hb0 := (blk_cell hBs 0).trans rfl
  clear hx hY
  refine callsIn_of_wp Try.func20 rfl hF ?_ hro
  simp only [Try.ntmps20, List.size_toArray, List.length_cons, List.length_nil, Nat.reduceAdd, Nat.reduceSub, Array.replicate_succ, Array.replicate_zero, List.push_toArray, List.append_toArray, List.nil_append, List.cons_append]
  gi_wp2
  gi_loopw [3] (fun i wr => ∃ k : Nat, k ≤ xs.length ∧ i = .int .i64 ((k : Int) - 1) ∧ Aside0 (J (down xs.length k) wr) ∧ Aside0 (KpB n₀ Bs W wr))
    (fun i _ => (intOf i + 1).toNat)
  case atStart => exact ⟨xs.length, Nat.le_refl _, by go_num, ⟨by rw [down_all]; exact h0⟩, ⟨⟨Below.refl _ _, fun _ h => h⟩⟩⟩
  case round =>
    obtain ⟨k, hk, rfl, hJs, hnx⟩ := hrel
    have hbx := hnx.out.2 _ hBs
    have hb1 := (blk_cell hbx 0).trans rfl
    by_cases hlt : 0 < k
    · obtain ⟨j, rfl⟩ : ∃ j, k = j + 1 := ⟨k - 1, by omega⟩
      obtain ⟨fn, tmps, assign, body, hy, hR⟩ := HY.out _ ⟨j, by omega⟩ wr hJs.out (by rw [down_length]; omega)
      have hy' : (Instr.yield l #[.int .i64 (j : Int), gv (xs[j]'(by omega))]).run Try.prog wr = .ok (.round l fn tmps assign body) wr := hy
      unfold gv at hy'
      obtain ⟨ad, rfl, c0, c1⟩ := at_T33 (Kd.C_below HX.out (by rw [hn0]; exact hb.trans hnx.out.1)) (j : Int) (by omega) (by omega)
      rw [Int.toNat_natCast, show rd_T33 xs (j : Int) = xs[j]'(by omega) from by simp [rd_T33, List.getD_eq_getElem?_getD, show j < xs.length from by omega]] at c0 c1
      have HR := Aside0.mk hR
      clear hR hy
      have e1 : ((j + 1 : Nat) : Int) - 1 = (j : Int) := by omega
      rw [e1]
      gi_wp2
      refine HR.out.mono ?_
      rintro e W3 (⟨rfl, hJ3, hk3⟩ | ⟨rfl, hJx3⟩)
      · have HJ3 := Aside0.mk hJ3
        have HK3 := Aside0.mk hk3
        clear hJ3 hk3
        gi_wp2
        go_roundw
        case rel => exact ⟨j, by omega, rfl, ⟨by rw [down_step (by omega)]; exact HJ3.out⟩, ⟨hnx.out.trans HK3.out⟩⟩
        case measure => simp [intOf]
      · have HJ3 := Aside0.mk hJx3
        clear hJx3
        gi_wp2
        refine bodyPost_ret (results_none rfl _ _ _) rfl ?_
        exact ⟨⟨_, rfl⟩, .inr ⟨_, trivial, HJ3.out⟩⟩
    · gi_wp2
      go_end0
      obtain rfl : k = 0 := by omega
      exact ⟨⟨_, rfl⟩, .inl ⟨_, rfl, hJs.out⟩⟩

theorem back_stops (F : Fence) (n : Nat) (hF : F.fn 20) (hro : F.round = none) (hn : 1 ≤ n) (Bs n₀ : Nat) (A : Option Addr) (cap : Nat) (xs : List S33) (w0 w : World) (hx : Kd.C k33 w0 A xs.length xs) (hcap : xs.length ≤ cap) (hn0 : w0.heap.size = n₀) (hle : n₀ ≤ w.heap.size)
    (hBs : w.heap[Bs]? = some (.cells #[.slice A xs.length cap] 22 (0, 0))) (hb : Below n₀ w0 w) :
    SeqStopsK F n Try.prog 20 #[.pointer (some ⟨Bs, 0, none⟩)] (fun j : Fin xs.length => #[.int .i64 (j.1 : Int), gv xs[j]]) (KpB n₀ Bs) (fun ys => ys = down xs.length 0) (fun _ => True) xs.length w :=
  fun l J Jx W hW _ _ hY h0 => back_in F n hF hro hn l Bs n₀ A cap xs w0 hx hcap hn0 J Jx hY W (blk_below hBs hW) (hb.trans (hW.mono hle)) h0

theorem back_calls (F : Fence) (n : Nat) (hF : F.fn 19) (hro : F.round = none) (a : Option Addr) (len cap : Nat) (w : World) :
    CallsIn F n Try.prog 19 #[.slice a len cap] w fun e w' => e = .returned (.func (.func 20) #[] #[.pointer (some ⟨w.heap.size, 0, none⟩)]) ∧ w' = w.alloc (.cells #[.slice a len cap] 22) := by
  refine callsIn_of_wp Try.func19 rfl hF ?_ hro
  simp only [Try.ntmps19, List.size_toArray, List.length_cons, List.length_nil, Nat.reduceAdd, Nat.reduceSub, Array.replicate_succ, Array.replicate_zero, List.push_toArray, List.append_toArray, List.nil_append, List.cons_append]
  gi_wp2
  go_ret
  exact ⟨rfl, rfl⟩

/-- gaps hands back its iterator: the row lies in a box. -/
theorem gaps_calls (F : Fence) (n : Nat) (hF : F.fn 15) (hro : F.round = none) (cs : Array Value) (hcs : cs.size = 5) (w : World) :
    CallsIn F n Try.prog 15 #[.agg cs] w fun e w' => e = .returned (.func (.func 18) #[] #[.pointer (some ⟨w.heap.size, 0, none⟩)]) ∧ w' = w.alloc (.cells cs 24) := by
  refine callsIn_of_wp Try.func15 rfl hF ?_ hro
  simp only [Try.ntmps15, List.size_toArray, List.length_cons, List.length_nil, Nat.reduceAdd, Nat.reduceSub, Array.replicate_succ, Array.replicate_zero, List.push_toArray, List.append_toArray, List.nil_append, List.cons_append]
  gi_wp2
  go_ret
  exact ⟨rfl, rfl⟩
end Go.Proofs.Ytbejdeopkphciaa.Q
