/- Numbers are taken from bytes, by hand: ship's in: take, byte, two, fix. -/
import Derived.Test.YthlhfnbaihdjkaaQWrite
import Derived.WalkLawsBesides
namespace Go.Proofs.Ythlhfnbaihdjkaa.Q
open Go.RowKit Go.Proofs.YthlhfnbaihdjkaaW.PrintWords Go.Proofs.YthlhfnbaihdjkaaW.PrintLast Go.Proofs.YthlhfnbaihdjkaaW.PrintMore
set_option linter.unusedVariables false
set_option linter.unusedSimpArgs false

def Byts (s : List Int) : Prop := ∀ b ∈ s, 0 ≤ b ∧ b ≤ 255
theorem Byts.cons {a : Int} {s : List Int} (h : Byts (a :: s)) : (0 ≤ a ∧ a ≤ 255) ∧ Byts s := ⟨h a (by simp), fun b hb => h b (by simp [hb])⟩
theorem Byts.drop {s : List Int} (h : Byts s) (n : Nat) : Byts (s.drop n) := fun b hb => h b (List.mem_of_mem_drop hb)

/-- The bytes that are left stand in block g. -/
def InAt (w : World) (g : Nat) (s : List Int) (W : World) : Prop :=
  ∃ A c, W.heap[g]? = some (.cells #[.slice A s.length c] 63 (0, 0)) ∧ s.length ≤ c ∧ Kd.C (Kd.int .u8) w A s.length s ∧ Below w.heap.size w W ∧ w.heap.size ≤ g ∧ Byts s

theorem InAt.grown {w W W' : World} {g g' : Nat} {s : List Int} (h : InAt w g s W) (hg : W.grownBy W' (some g')) (hne : g ≠ g') (hle : w.heap.size ≤ g') : InAt w g s W' := by
  obtain ⟨A, c, h1, h2, h3, h4, h5, h6⟩ := h
  exact ⟨A, c, blk_grown h1 hg (by simpa using hne), h2, h3, h4.grown hg h4.size (fun k e => by cases e; exact hle), h5, h6⟩
theorem InAt.grown0 {w W W' : World} {g : Nat} {s : List Int} (h : InAt w g s W) (hg : W.grownBy W' none) : InAt w g s W' := by
  obtain ⟨A, c, h1, h2, h3, h4, h5, h6⟩ := h
  exact ⟨A, c, blk_grown h1 hg (by simp), h2, h3, h4.grown hg h4.size (fun k e => by cases e), h5, h6⟩
theorem grown_of_below {W W' : World} (h : Below W.heap.size W W') (row : Option Nat) : W.grownBy W' row := ⟨h.os, h.tape, h.output, h.size, fun k hk _ => h.block k hk⟩
theorem grown_set (W : World) (g j : Nat) (v : Value) : W.grownBy (W.setCell ⟨g, j, none⟩ v) (some g) := ⟨rfl, rfl, rfl, by simp, fun k hk hne => Below.heap_setCell W ⟨g, j, none⟩ v k (fun e => hne (by rw [e]))⟩

/-- What ends the taking. -/
def lostP : List PanicEntry := [{ v := .iface 58 (.agg #[]), recovered := false }]

theorem cutTo (A : Option Addr) (n c m : Nat) (hm : m ≤ n) (hc : n ≤ c) : ∀ W : World, (Instr.slice 25 (.slice A n c) none (some (.int .i64 (m : Int))) none).run Try.prog W = .ok (.slice A m c) W := by
  obtain ⟨i, hi, _⟩ := Option.map_eq_some_iff.1 info5
  have := cut_to (P := Try.prog) 25 5 .i64 Try.underlying25 hi A n c (m : Int) (by omega) (by omega) hc
  simpa using this
theorem cutAt (A : Option Addr) (n c m : Nat) (hm : m ≤ n) : ∃ A' : Option Addr, (∀ W : World, (Instr.slice 25 (.slice A n c) (some (.int .i64 (m : Int))) none none).run Try.prog W = .ok (.slice A' (n - m) (c - m)) W) ∧
    ∀ (w : World) (xs : List Int), n ≤ c → (Kd.int .u8).C w A n xs → (Kd.int .u8).C w A' (n - m) (xs.drop m) := by
  have hi : ∃ i, Try.prog.info? 5 = some i ∧ i.size = 1 := by
    obtain ⟨i, h, h2⟩ := Option.map_eq_some_iff.1 info5
    exact ⟨i, h, by injection h2 with _ h3; injection h3⟩
  obtain ⟨i, hi, hs⟩ := hi
  obtain ⟨A', h1, h2⟩ := print_cut (P := Try.prog) 25 5 .i64 Try.underlying25 hi hs A n c m hm
  refine ⟨A', h1, fun w xs hc h => ?_⟩
  exact Kd.C_of_reads (d := (0 : Int)) (h1 := fun _ => rfl) (h2 w .u8 xs hc (Kd.reads_of_C (d := (0 : Int)) h))

set_option maxHeartbeats 4000000 in
theorem take_yes (w : World) (g : Nat) (s : List Int) (W : World) (n : Nat) (hn : n ≤ s.length) (h : InAt w g s W) :
    Calls Try.prog 44 #[.pointer (some ⟨g, 0, none⟩), .int .i64 (n : Int)] W fun e W' => (∃ A c, e = .returned (.slice A n c) ∧ n ≤ c ∧ Kd.C (Kd.int .u8) w A n (s.take n)) ∧ InAt w g (s.drop n) W' ∧ W.grownBy W' (some g) := by
  obtain ⟨A, c, h1, h2, h3, h4, h5, h6⟩ := h
  have hx0 := (blk_cell h1 0).trans rfl
  have hf0 := blk_frozen h1 0
  have k1 := cutTo A s.length c n hn h2
  obtain ⟨A', k2, k3⟩ := cutAt A s.length c n hn
  have hm : s.length ≤ 9223372036854775807 := h3.2.1
  have hd : decide (s.length < n) = false := by simp; omega
  have H1 := Aside0.mk h1
  have H2 := Aside0.mk h2
  have H3 := Aside0.mk h3
  have H4 := Aside0.mk h4
  have H6 := Aside0.mk h6
  have K3 := Aside0.mk (k3 w s h2 h3)
  have KT := Aside0.mk (Kd.C_take h3 hn)
  clear h1 h2 h3 h4 h6 k3
  go_enter Try.func44, Try.ntmps44
  go_wp2
  go_ret
  have e1 : (s.drop n).length = s.length - n := List.length_drop
  have e2 : (s.take n).length = n := by rw [List.length_take]; omega
  refine ⟨⟨A, c, rfl, by have := H2.out; omega, by have := KT.out; rwa [e2] at this⟩, ⟨A', c - n, ?_, ?_, by rw [e1]; exact K3.out, H4.out.setCell (p := ⟨g, 0, none⟩) h5 _, h5, H6.out.drop n⟩, grown_set W g 0 _⟩
  · rw [e1]; exact blk_put H1.out 0 _ rfl
  · rw [e1]; have := H2.out; omega

set_option maxHeartbeats 4000000 in
theorem take_no (w : World) (g : Nat) (s : List Int) (W : World) (n : Nat) (hn : s.length < n) (h : InAt w g s W) :
    Calls Try.prog 44 #[.pointer (some ⟨g, 0, none⟩), .int .i64 (n : Int)] W fun e W' => e = .panicked lostP ∧ W.grownBy W' (some g) := by
  obtain ⟨A, c, h1, h2, h3, h4, h5, h6⟩ := h
  have hx0 := (blk_cell h1 0).trans rfl
  have hm : s.length ≤ 9223372036854775807 := h3.2.1
  clear h1 h2 h3 h4 h6
  go_enter Try.func44, Try.ntmps44
  go_wp2
  exact ⟨rfl, rfl, World.grownBy.refl _ _⟩

theorem take_one (w : World) (g : Nat) (a : Int) (s : List Int) (W : World) (h : InAt w g (a :: s) W) :
    Calls Try.prog 44 #[.pointer (some ⟨g, 0, none⟩), .int .i64 1] W fun e W' => (∃ ad c, e = .returned (.slice (some ad) 1 c) ∧ W'.cell? ad = some (.int .u8 a)) ∧ InAt w g s W' ∧ W.grownBy W' (some g) := by
  refine (take_yes w g (a :: s) W 1 (by simp) h).mono ?_
  rintro e W1 ⟨⟨A, c, rfl, hc, hC⟩, hI, hG⟩
  refine ⟨?_, hI, hG⟩
  obtain ⟨ad, rfl, hcell⟩ := Kd.at_int hC 0 (by omega) (by decide)
  refine ⟨ad, c, rfl, ?_⟩
  obtain ⟨A', c', h1, h2, h3, h4, h5, h6⟩ := hI
  replace hcell := (h4.cell (World.block_lt_of_cell? w _ hcell)).trans hcell
  simpa [rd, Addr.add] using hcell

set_option maxHeartbeats 4000000 in
theorem ibyte_yes (w : World) (g : Nat) (a : Int) (s : List Int) (W : World) (h : InAt w g (a :: s) W) :
    Calls Try.prog 32 #[.pointer (some ⟨g, 0, none⟩)] W fun e W' => e = .returned (.int .i64 a) ∧ InAt w g s W' ∧ W.grownBy W' (some g) := by
  have HT := Aside0.mk (take_one w g a s W h)
  have hby : Byts (a :: s) := by obtain ⟨A, c, h1, h2, h3, h4, h5, h6⟩ := h; exact h6
  obtain ⟨⟨ha0, ha1⟩, _⟩ := hby.cons
  clear h hby
  go_enter Try.func32, Try.ntmps32
  go_wp2_with (go_at_call 44; refine HT.out.mono ?_; rintro e W1 ⟨⟨ad, c, rfl, hcell⟩, hI, hG⟩; have HI := Aside0.mk hI; have HG := Aside0.mk hG; clear hI hG)
  go_ret
  exact ⟨rfl, HI.out, HG.out⟩

set_option maxHeartbeats 4000000 in
theorem ibyte_no (w : World) (g : Nat) (W : World) (h : InAt w g [] W) :
    Calls Try.prog 32 #[.pointer (some ⟨g, 0, none⟩)] W fun e W' => e = .panicked lostP ∧ W.grownBy W' (some g) := by
  have HT := Aside0.mk (take_no w g [] W 1 (by simp) h)
  clear h
  go_enter Try.func32, Try.ntmps32
  go_wp2_with (go_at_call 44; refine HT.out.mono ?_; rintro e W1 ⟨rfl, hG⟩; have HG := Aside0.mk hG; clear hG)
  exact ⟨rfl, rfl, HG.out⟩

theorem wayin_calls (n : Int) (W : World) (h0 : 0 ≤ n) (h1 : n < 4294967296) : Calls Try.prog 57 #[.int .i64 n] W fun e W' => e = .returned (.int .i64 (if n < 2147483648 then n else n - 4294967296)) ∧ W = W' := by
  by_cases h : n < 2147483648
  · go_enter Try.func57, Try.ntmps57
    go_wp2
    go_ret
    exact ⟨rfl, rfl⟩
  · have e : IntKind.i32.wrap n = n - 4294967296 := by rw [IntKind.wrap_i32]; omega
    go_enter Try.func57, Try.ntmps57
    go_wp2
    go_ret
    exact ⟨rfl, rfl⟩

set_option maxHeartbeats 4000000 in
theorem takefix_any (A : Option Addr) (c : Nat) (a b x d : Int) (W : World) (hC : Kd.C (Kd.int .u8) W A 4 [a, b, x, d]) (hc : 4 ≤ c) (ha : 0 ≤ a ∧ a ≤ 255) (hb : 0 ≤ b ∧ b ≤ 255) (hx : 0 ≤ x ∧ x ≤ 255) (hd : 0 ≤ d ∧ d ≤ 255) :
    Calls Try.prog 53 #[.slice A 4 c] W fun e W' => (∃ v, e = .returned (.tuple #[.int .i64 (un4 a b x d), v, .int .i64 0])) ∧ Below W.heap.size W W' := by
  have HP := Aside0.mk (pack_Take.calls 6 A c [a, b, x, d] 4 _ _ _ W hC hc (take4 0 a b x d ha hb hx hd))
  have HQ := Aside0.mk (fun (W : World) => wayin_calls (a * 16777216 + b * 65536 + x * 256 + d) W (by omega) (by omega))
  have HE : Aside0 ((if a * 16777216 + b * 65536 + x * 256 + d < 2147483648 then a * 16777216 + b * 65536 + x * 256 + d else a * 16777216 + b * 65536 + x * 256 + d - 4294967296) = un4 a b x d) := ⟨rfl⟩
  rw [HE.out] at HQ
  generalize a * 16777216 + b * 65536 + x * 256 + d = m at HP HQ
  clear ha hb hx hd hC HE
  go_enter Try.func53, Try.ntmps53
  go_wp2_with (first | (go_at_call 48; refine (ways_calls _).mono ?_; rintro e w' ⟨rfl, rfl⟩) | (go_at_call 57; refine (HQ.out _).mono ?_; rintro e w' ⟨rfl, rfl⟩) | (go_at_call 54; refine HP.out.mono ?_; rintro e w1 ⟨v0, rfl, ho, hb⟩; have HB1 := Aside0.mk hb; clear ho hb))
  go_ret3
  exact ⟨⟨_, rfl⟩, HB1.out⟩

end Go.Proofs.Ythlhfnbaihdjkaa.Q
