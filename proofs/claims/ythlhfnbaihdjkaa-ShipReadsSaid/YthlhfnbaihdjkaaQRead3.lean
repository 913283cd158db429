/- The mark is cut off, and what is thrown is caught, by hand: bytes.HasPrefix, bytes.CutPrefix, ship.Read's closure. -/
import Derived.Test.YthlhfnbaihdjkaaQRead2
import Derived.Lib.Bytes
import Derived.Recover
namespace Go.Proofs.Ythlhfnbaihdjkaa.Q
open Go.RowKit Go.Proofs.YthlhfnbaihdjkaaW.PrintWords Go.Proofs.YthlhfnbaihdjkaaW.PrintLast Go.Proofs.YthlhfnbaihdjkaaW.PrintMore
set_option linter.unusedVariables false
set_option linter.unusedSimpArgs false

def cutB : List Int → Bool
  | a :: b :: _ => decide (a = 67) && decide (b = 79)
  | _ => false
def cutL (s : List Int) : List Int := if cutB s = true then s.drop 2 else s

theorem cutB_len {s : List Int} (h : cutB s = true) : 2 ≤ s.length := by
  match s, h with
  | a :: b :: s, _ => simp
theorem cutB_take {s : List Int} (h : 2 ≤ s.length) : decide (s.take 2 = [67, 79]) = cutB s := by
  match s, h with
  | a :: b :: s, _ => simp [cutB]
theorem cutB_short {s : List Int} (h : ¬ 2 ≤ s.length) : cutB s = false := by
  match s, h with
  | [], _ => rfl
  | [_], _ => rfl
  | a :: b :: s, h2 => exact absurd (by simp) h2
theorem str_same {l m : List Int} (hl : Byts l) (hm : Byts m) : ((strOfNums l).toList == (strOfNums m).toList) = decide (l = m) := by
  have key : ∀ (l m : List Int), Byts l → Byts m → l.map (fun n => UInt8.ofNat n.toNat) = m.map (fun n => UInt8.ofNat n.toNat) → l = m := by
    intro l
    induction l with
    | nil => intro m _ _ h; cases m with
      | nil => rfl
      | cons b m => cases h
    | cons a l ih =>
      intro m hl hm h
      cases m with
      | nil => cases h
      | cons b m =>
        obtain ⟨ha, hl⟩ := hl.cons
        obtain ⟨hb, hm⟩ := hm.cons
        simp only [List.map_cons, List.cons.injEq] at h
        rw [ih m hl hm h.2]
        have := congrArg UInt8.toNat h.1
        simp at this
        congr 1
        omega
  have e : ∀ x : List Int, (strOfNums x).toList = x.map (fun n => UInt8.ofNat n.toNat) := by
    intro x
    have := Lib.strOfNums_toList x
    exact this
  rw [e, e]
  by_cases h : l = m
  · subst h; simp
  · rw [decide_eq_false h]
    simp only [beq_eq_false_iff_ne, ne_eq]
    exact fun h2 => h (key l m hl hm h2)

set_option maxHeartbeats 4000000 in
theorem hasp_any (A : Option Addr) (c : Nat) (s : List Int) (m : Nat) (W : World) (hs : Kd.C (Kd.int .u8) W A s.length s) (hc : s.length ≤ c) (hb : Byts s) (hm : Kd.C (Kd.int .u8) W (some ⟨m, 0, none⟩) 2 [67, 79]) :
    Calls Try.prog 43 #[.slice A s.length c, .slice (some ⟨m, 0, none⟩) 2 2] W fun e W' => e = .returned (.bool (cutB s)) ∧ Below W.heap.size W W' := by
  have hls : s.length ≤ 9223372036854775807 := hs.2.1
  by_cases h2 : 2 ≤ s.length
  · have k1 := cutTo A s.length c 2 h2 hc
    have HE := Aside0.mk (bytes_Equal.calls A c (s.take 2) (some ⟨m, 0, none⟩) 2 [67, 79] _ W (Kd.C_take hs h2) (by rw [List.length_take]; omega) hm (Nat.le_refl _) rfl)
    rw [str_same (fun b hb' => hb b (List.mem_of_mem_take hb')) (by intro b hb'; simp at hb'; omega), show (s.take 2).length = 2 from by rw [List.length_take]; omega] at HE
    have HB : Aside0 (decide (s.take 2 = [67, 79]) = cutB s) := ⟨cutB_take h2⟩
    rw [HB.out] at HE
    clear hs hb hm HB
    go_enter Try.func43, Try.ntmps43
    go_wp2_with (go_at_call 52; refine HE.out.mono ?_; rintro e w' ⟨rfl, ⟨nd, rfl⟩⟩)
    go_ret
    exact ⟨rfl, pw_below_drewN (Below.refl _ _) _⟩
  · have HB : Aside0 (cutB s = false) := ⟨cutB_short h2⟩
    clear hs hb hm
    go_enter Try.func43, Try.ntmps43
    go_wp2
    go_ret
    exact ⟨by rw [HB.out]; rfl, Below.refl _ _⟩

set_option maxHeartbeats 4000000 in
theorem cutp_any (w0 : World) (A : Option Addr) (c : Nat) (s : List Int) (m : Nat) (W : World) (h0 : Kd.C (Kd.int .u8) w0 A s.length s) (hs : Kd.C (Kd.int .u8) W A s.length s) (hc : s.length ≤ c) (hb : Byts s) (hm : Kd.C (Kd.int .u8) W (some ⟨m, 0, none⟩) 2 [67, 79]) :
    Calls Try.prog 31 #[.slice A s.length c, .slice (some ⟨m, 0, none⟩) 2 2] W fun e W' => (∃ A' c', e = .returned (.tuple #[.slice A' (cutL s).length c', .bool (cutB s)]) ∧ (cutL s).length ≤ c' ∧ Kd.C (Kd.int .u8) w0 A' (cutL s).length (cutL s)) ∧ Below W.heap.size W W' := by
  have HP := Aside0.mk (hasp_any A c s m W hs hc hb hm)
  have hls : s.length ≤ 9223372036854775807 := hs.2.1
  have H0 := Aside0.mk h0
  have HC := Aside0.mk hc
  cases hcb : cutB s with
  | true =>
    rw [hcb] at HP
    have h2 := cutB_len hcb
    obtain ⟨A', k2, k3⟩ := cutAt A s.length c 2 h2
    have K3 := Aside0.mk (k3 w0 s hc h0)
    have k2' : ∀ W : World, (Instr.slice 25 (.slice A s.length c) (some (.int .i64 2)) none none).run Try.prog W = .ok (.slice A' (s.length - 2) (c - 2)) W := k2
    have HL : Aside0 (cutL s = s.drop 2) := ⟨by rw [cutL, if_pos hcb]⟩
    clear hs hb hm h0 hc hcb k3 k2
    go_enter Try.func31, Try.ntmps31
    go_wp2_with (go_at_call 43; refine HP.out.mono ?_; rintro e w' ⟨rfl, hb⟩; have HB := Aside0.mk hb; clear hb)
    go_ret2
    refine ⟨⟨A', c - 2, by rw [HL.out, List.length_drop]; rfl, by rw [HL.out, List.length_drop]; have := HC.out; omega, by rw [HL.out, List.length_drop]; exact K3.out⟩, HB.out⟩
  | false =>
    rw [hcb] at HP
    have HL : Aside0 (cutL s = s) := ⟨by rw [cutL, if_neg (by rw [hcb]; decide)]⟩
    clear hs hb hm h0 hc hcb
    go_enter Try.func31, Try.ntmps31
    go_wp2_with (go_at_call 43; refine HP.out.mono ?_; rintro e w' ⟨rfl, hb⟩; have HB := Aside0.mk hb; clear hb)
    go_ret2
    refine ⟨⟨A, c, by rw [HL.out]; rfl, by rw [HL.out]; exact HC.out, by rw [HL.out]; exact H0.out⟩, HB.out⟩

theorem catch_idle (p q : Addr) (w : World) :
    CallsD Try.prog 30 #[.pointer (some p), .pointer (some q)] .returning w fun e u' w' => e = .returned (.tuple #[]) ∧ u' = .returning ∧ w' = w := by
  refine callsD_of_wpS Try.func30 rfl fun c₀ cs hu => ?_
  apply wpS_seq
  apply wpS_region
  simp [wpOpsS, go_sem, recoverD, hu, Try.ntmps30, Exit.thenS]
  apply wpS_seq
  apply wpS_region
  simp [wpOpsS, go_sem, recoverD, hu, Try.ntmps30, Exit.thenS]
  refine wpS_cond (t := false) (by simp [Act.eval, Array.replicate]) ?_
  simp only [Bool.false_eq_true, if_false]
  refine wpS_of_wp (wp_skip ?_)
  cases c₀
  simp_all [bodyPostS, results, Try.results30]

theorem catch_lost (B : Nat) (x y : Value) (older : List PanicEntry) (w : World) (hx : w.heap[B]? = some (.cells #[x] 22 (0, 0))) (hy : w.heap[B + 1]? = some (.cells #[y] 26 (0, 0))) :
    CallsD Try.prog 30 #[.pointer (some ⟨B, 0, none⟩), .pointer (some ⟨B + 1, 0, none⟩)] (.panicking ({ v := .iface 58 (.agg #[]), recovered := false } :: older)) w fun e u' w' =>
      e = .returned (.tuple #[]) ∧ u' = .panicking ({ v := .iface 58 (.agg #[]), recovered := true } :: older) ∧ w' = ((w.alloc (.cells #[] 58)).setCell ⟨B, 0, none⟩ (.slice none 0 0)).setCell ⟨B + 1, 0, none⟩ (.int .i64 230) := by
  refine callsD_of_wpS Try.func30 rfl fun c₀ cs hu => ?_
  apply wpS_seq
  apply wpS_region
  simp [wpOpsS, go_sem, recoverD, hu, Try.ntmps30, Exit.thenS]
  refine wpS_of_wp ?_
  simp only [Array.replicate_succ, Array.replicate_zero, List.push_toArray, List.append_toArray, List.nil_append, List.cons_append, List.setIfInBounds_toArray, List.set_cons_zero, List.set_cons_succ]
  have hta : ∀ w : World, (Instr.typeAssert (.iface 58 (.agg #[])) 20 58 true).run Try.prog w = .ok (.tuple #[.agg #[], .bool true]) w := fun w => by simp [Instr.typeAssert, run_underlying Try.underlying58]
  have ax := blk_alloc hx (.cells #[] 58)
  have ay := blk_alloc hy (.cells #[] 58)
  have cx := (blk_cell ax 0).trans rfl
  have cy := (blk_cell ay 0).trans rfl
  have fx := blk_frozen ax 0
  have fy := blk_frozen ay 0
  clear hx hy ax ay
  go_wp2
  simp [bodyPostS, results, Try.results30]

end Go.Proofs.Ythlhfnbaihdjkaa.Q
