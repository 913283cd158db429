/- The iterator over a text's words, and what its words are, by hand. -/
import Derived.Test.YtnhalfkkamepgaaQRound
import Derived.Test.YtnhalfkkamepgaaQWrite
namespace Go.Proofs.Ytnhalfkkamepgaa.Q
open Go.RowKit Go.Shelf Go.Proofs.YtnhalfkkamepgaaW.PrintWords Go.Proofs.YtnhalfkkamepgaaW.PrintLast Go.Proofs.YtnhalfkkamepgaaW.PrintMore
attribute [local go_sem] Oper.semAt_some max2_int min2_int max_two min_two
set_option linter.unusedVariables false
set_option linter.unusedSimpArgs false

def gapB (b : Int) : Bool := if b = 9 then true else if b = 10 then true else if b = 13 then true else b == 32
def toksA : List Int → List Int → List (List Int)
  | [], acc => if acc = [] then [] else [acc]
  | c :: cs, acc => if gapB c = true then (if acc = [] then toksA cs [] else acc :: toksA cs []) else toksA cs (acc ++ [c])
/-- The bytes between gaps. -/
def toks (s : List Int) : List (List Int) := toksA s []
/-- Words, one behind the other; none: one is no word, or there are too many. -/
def readL : List (List Int) → List S36 → Option (List S36)
  | [], out => some out
  | x :: xs, out => match rdWord x with
    | none => none
    | some w => if 100 < out.length then none else readL xs (out ++ [w])

theorem readL_yes (x : List Int) (xs : List (List Int)) (out : List S36) (wd : S36) (h : rdWord x = some wd) (ho : out.length ≤ 100) : readL (x :: xs) out = readL xs (out ++ [wd]) := by
  rw [readL, h]
  simp only []
  rw [if_neg (by omega)]
theorem readL_no (x : List Int) (xs : List (List Int)) (out : List S36) (h : rdWord x = none ∨ 100 < out.length) : readL (x :: xs) out = none := by
  rw [readL]
  rcases h with h | h
  · rw [h]
  · cases rdWord x with
    | none => rfl
    | some w => simp only []; rw [if_pos h]
theorem toksA_plain (t : List Int) (r acc : List Int) (h : ∀ c ∈ t, gapB c = false) : toksA (t ++ r) acc = toksA r (acc ++ t) := by
  induction t generalizing acc with
  | nil => simp
  | cons c t ih =>
    rw [List.cons_append, toksA, if_neg (by rw [h c (by simp)]; decide), ih _ (fun c hc => h c (by simp [hc]))]
    simp
theorem idx_none (p : Int → Bool) (l : List Int) : ∀ k, idxOf p l k = -1 → ∀ c ∈ l, p c = false := by
  induction l with
  | nil => intro k _ c hc; simp at hc
  | cons x xs ih =>
    intro k h c hc
    rw [idxOf_cons] at h
    by_cases hx : p x = true
    · rw [if_pos hx] at h; omega
    · rw [if_neg hx] at h
      rcases List.mem_cons.1 hc with rfl | hc
      · simpa using hx
      · exact ih _ h c hc
theorem idx_some (p : Int → Bool) (l : List Int) : ∀ k, idxOf p l k ≠ -1 → ∃ j, idxOf p l k = ((k + j : Nat) : Int) ∧ j < l.length ∧ (∀ c ∈ l.take j, p c = false) ∧ p (rd l j) = true := by
  induction l with
  | nil => intro k h; exact absurd rfl h
  | cons x xs ih =>
    intro k h
    rw [idxOf_cons] at h ⊢
    by_cases hx : p x = true
    · rw [if_pos hx]
      exact ⟨0, by simp, by simp, by simp, by simpa [rd] using hx⟩
    · rw [if_neg hx] at h ⊢
      obtain ⟨j, h1, h2, h3, h4⟩ := ih _ h
      refine ⟨j + 1, by rw [h1]; omega, by simpa using h2, ?_, ?_⟩
      · intro c hc
        rw [List.take_succ_cons] at hc
        rcases List.mem_cons.1 hc with rfl | hc
        · simpa using hx
        · exact h3 c hc
      · have : rd (x :: xs) ((j + 1 : Nat) : Int) = rd xs j := by simp [rd]
        rw [this]; exact h4
theorem toks_none (l : List Int) (hl : l ≠ []) (h : idxOf gapB l 0 = -1) : toks l = [l] := by
  have := toksA_plain l [] [] (idx_none gapB l 0 h)
  rw [List.append_nil, List.nil_append] at this
  rw [toks, this, toksA, if_neg hl]
theorem toks_some (l : List Int) (j : Nat) (hj : j < l.length) (h1 : ∀ c ∈ l.take j, gapB c = false) (h2 : gapB (rd l j) = true) : toks l = (if j = 0 then [] else [l.take j]) ++ toks (l.drop (j + 1)) := by
  have e : l = l.take j ++ (rd l j :: l.drop (j + 1)) := by rw [← drop_rd l j hj, List.take_append_drop]
  have := toksA_plain (l.take j) (rd l j :: l.drop (j + 1)) [] h1
  rw [← e, List.nil_append] at this
  rw [toks, this, toksA, if_pos h2]
  by_cases h0 : j = 0
  · subst h0; simp [toks]
  · rw [if_neg h0, if_neg (by intro h; have := congrArg List.length h; rw [List.length_take, List.length_nil] at this; omega)]
    rfl

theorem gap_calls (c : Int) (w : World) : Calls Try.prog 27 #[.int .u8 c] w fun e w' => e = .returned (.bool (gapB c)) ∧ w = w' := by
  by_cases h1 : c = 9
  · have := beq_iff_eq.2 h1
    go_enter Try.func27, Try.ntmps27
    go_wp2
    go_ret
    exact ⟨by simp [gapB, h1], rfl⟩
  · have b1 := beq_eq_false_iff_ne.2 h1
    by_cases h2 : c = 10
    · have := beq_iff_eq.2 h2
      go_enter Try.func27, Try.ntmps27
      go_wp2
      go_ret
      exact ⟨by simp [gapB, h2], rfl⟩
    · have b2 := beq_eq_false_iff_ne.2 h2
      by_cases h3 : c = 13
      · have := beq_iff_eq.2 h3
        go_enter Try.func27, Try.ntmps27
        go_wp2
        go_ret
        exact ⟨by simp [gapB, h3], rfl⟩
      · have b3 := beq_eq_false_iff_ne.2 h3
        have H : gapB c = (c == 32) := by unfold gapB; rw [if_neg h1, if_neg h2, if_neg h3]
        have HH := Aside0.mk H
        clear H h1 h2 h3
        go_enter Try.func27, Try.ntmps27
        go_wp2
        go_ret
        exact ⟨by rw [HH.out]; rfl, rfl⟩

set_option maxHeartbeats 4000000 in
theorem gindex_calls (A : Option Addr) (c : Nat) (l : List Int) (w : World) (hr : Kd.C (Kd.int .u8) w A l.length l) :
    Calls Try.prog 29 #[.slice A l.length c, .func (.func 27) #[] #[]] w fun e w' => e = .returned (.int .i64 (idxOf gapB l 0)) ∧ w = w' := by
  have HR := Aside0.mk hr
  have hm : l.length ≤ 9223372036854775807 := hr.2.1
  clear hr
  go_enter Try.func29, Try.ntmps29
  go_wp2
  go_loop [8] (fun i => ∃ k : Nat, k ≤ l.length ∧ i = .int .i64 k ∧ Aside0 (idxOf gapB l 0 = idxOf gapB (l.drop k) k)) (fun i => l.length - (intOf i).toNat)
  case atStart => exact ⟨0, Nat.zero_le _, rfl, ⟨by simp⟩⟩
  case round =>
    obtain ⟨k, hk, rfl, hd⟩ := hrel
    by_cases hlt : k < l.length
    · obtain ⟨ad, rfl, hcell⟩ := Kd.at_int HR.out (k : Int) (by omega) (by omega)
      rw [Int.toNat_natCast] at hcell
      have HI := Aside0.mk (hd.out.trans (idxOf_drop gapB l k hlt))
      clear hd
      by_cases hb : gapB (rd l k) = true
      · have HB := Aside0.mk hb
        go_wp2_with (go_at_call 27; refine (gap_calls _ _).mono ?_; rintro e w' ⟨rfl, rfl⟩)
        go_ret
        exact ⟨by rw [HI.out, if_pos HB.out]; rfl, rfl⟩
      · have hb' : gapB (rd l k) = false := by simpa using hb
        have HB := Aside0.mk hb
        clear hb
        go_wp2_with (go_at_call 27; refine (gap_calls _ _).mono ?_; rintro e w' ⟨rfl, rfl⟩)
        go_round
        case rel => exact ⟨k + 1, by omega, by go_num, ⟨by rw [HI.out, if_neg HB.out]⟩⟩
        case measure => simp [intOf]; omega
    · go_wp2
      go_ret
      exact ⟨by rw [hd.out, List.drop_eq_nil_of_le (by omega)]; rfl, rfl⟩

/-- What lies between two rounds, the text's own variable aside. -/
def Mid (w : World) (B : Nat) (rec : LoopState → Option Code → Loop) (W : World) (out : List S36) : Prop :=
  Acc w B W out ∧ W.heap[B + 6]? = some (.loop (rec .ready none)) ∧ W.heap[B + 4]? = some (.cells #[.func (.func 27) #[] #[]] 46 (0, 0)) ∧ W.heap[B + 5]? = some (.deferred (some []))
/-- A round has left the function. -/
def Left (w : World) (B : Nat) (rec : LoopState → Option Code → Loop) (W : World) : Prop :=
  W.heap[B]? = some (.cells #[.slice none 0 0] 24 (0, 0)) ∧ W.heap[B + 1]? = some (.cells #[.int .i64 130] 25 (0, 0)) ∧ Below B w W ∧ W.heap[B + 6]? = some (.loop (rec .done (some .ret))) ∧ W.heap[B + 5]? = some (.deferred (some []))

/-- How long the text's variable is. -/
def textLen (B : Nat) (W : World) : Nat := match W.cell? ⟨B + 3, 0, none⟩ with
  | some (.slice _ n _) => n
  | _ => 0

/-- A store into the text's variable. -/
theorem mid_text {w W : World} {B : Nat} {rec : LoopState → Option Code → Loop} {out : List S36} {v : Value} (h : Mid w B rec W out) (hb : W.heap[B + 3]? = some (.cells #[v] 22 (0, 0))) (u : Value) :
    Mid w B rec (W.setCell ⟨B + 3, 0, none⟩ u) out ∧ (W.setCell ⟨B + 3, 0, none⟩ u).heap[B + 3]? = some (.cells #[u] 22 (0, 0)) := by
  obtain ⟨⟨v0, h1, h2, h3, h4, h5⟩, h6, h7, h8⟩ := h
  have ne : ∀ k, k ≠ B + 3 → (W.setCell ⟨B + 3, 0, none⟩ u).heap[k]? = W.heap[k]? := fun k hk => Below.heap_setCell _ _ _ _ hk
  exact ⟨⟨⟨v0, (ne _ (by omega)).trans h1, Kd.S_set h2 hb (by decide) 0 u, (ne _ (by omega)).trans h3, (ne _ (by omega)).trans h4, h5.setCell (p := ⟨B + 3, 0, none⟩) (by show B ≤ B + 3; omega) u⟩, (ne _ (by omega)).trans h6, (ne _ (by omega)).trans h7, (ne _ (by omega)).trans h8⟩, blk_put hb 0 u rfl⟩

theorem cutAt (A : Option Addr) (n c m : Nat) (hm : m ≤ n) : ∃ A' : Option Addr, (∀ W : World, (Instr.slice 22 (.slice A n c) (some (.int .i64 (m : Int))) none none).run Try.prog W = .ok (.slice A' (n - m) (c - m)) W) ∧
    ∀ (w : World) (xs : List Int), n ≤ c → (Kd.int .u8).C w A n xs → (Kd.int .u8).C w A' (n - m) (xs.drop m) := by
  have hi : ∃ i, Try.prog.info? 5 = some i ∧ i.size = 1 := by
    obtain ⟨i, h, h2⟩ := Option.map_eq_some_iff.1 info5
    exact ⟨i, h, by injection h2 with _ h3; injection h3⟩
  obtain ⟨i, hi, hs⟩ := hi
  obtain ⟨A', h1, h2⟩ := print_cut (P := Try.prog) 22 5 .i64 Try.underlying22 hi hs A n c m hm
  refine ⟨A', h1, fun w xs hc h => ?_⟩
  exact Kd.C_of_reads (d := (0 : Int)) (h1 := fun _ => rfl) (h2 w .u8 xs hc (Kd.reads_of_C (d := (0 : Int)) h))

set_option maxHeartbeats 8000000 in
set_option maxRecDepth 100000 in
theorem iter_in (fn : FuncId) (n : Nat) (hn : 5 ≤ n) (w W : World) (B : Nat) (s0 fv : Value) (s : List Int) (A : Option Addr) (c : Nat) (hs : Kd.C (Kd.int .u8) w A s.length s) (hc : s.length ≤ c) (hB0 : w.heap.size = B) (hsl : s.length ≤ 1000000) (hsr : ∀ b ∈ s, 0 ≤ b ∧ b ≤ 255)
    (assign body : Code) (hcode : Try.f11.body.map rangesIn = some [(assign, body)]) (rec : LoopState → Option Code → Loop)
    (hrec : ∀ st pe, (rec st pe).state = st ∧ (∀ st' pe', { rec st pe with state := st', pending := pe' } = rec st' pe')) (hrec2 : ∀ st pe, (rec st pe).fn = fn ∧ (rec st pe).tmps = rtmps s0 B fv ∧ (rec st pe).params = #[12] ∧ (rec st pe).assign = assign ∧ (rec st pe).body = body)
    (hmid : Mid w B rec W []) (hbt : W.heap[B + 3]? = some (.cells #[.slice A s.length c] 22 (0, 0))) :
    CallsIn Fence.wide n Try.prog 28 #[.func (.yield (B + 6)) #[] #[], .pointer (some ⟨B + 3, 0, none⟩), .pointer (some ⟨B + 4, 0, none⟩)] W fun e W' => (∃ v, e = .returned v) ∧
      ((∃ out, readL (toks s) [] = some out ∧ Mid w B rec W' out) ∨ (readL (toks s) [] = none ∧ Left w B rec W')) := by
  have HX := Aside0.mk hs
  have HCODE := Aside0.mk hcode
  have HREC := Aside0.mk hrec
  have HREC2 := Aside0.mk hrec2
  have HM := Aside0.mk hmid
  have HBT := Aside0.mk hbt
  have HSR := Aside0.mk hsr
  clear hs hcode hrec hrec2 hmid hbt hsr
  refine callsIn_of_wp Try.func28 rfl trivial ?_ rfl
  simp only [Try.ntmps28, List.size_toArray, List.length_cons, List.length_nil, Nat.reduceAdd, Nat.reduceSub, Array.replicate_succ, Array.replicate_zero, List.push_toArray, List.append_toArray, List.nil_append, List.cons_append]
  gi_wp2
  gi_loopw [4] (fun _ wr => ∃ (rest : List Int) (A1 : Option Addr) (c1 : Nat) (out : List S36), Aside0 (readL (toks rest) out = readL (toks s) []) ∧ Aside0 (out.length ≤ 101) ∧ Aside0 (rest.length ≤ 1000000 ∧ rest.length ≤ c1 ∧ ∀ b ∈ rest, 0 ≤ b ∧ b ≤ 255) ∧ Aside0 (Kd.C (Kd.int .u8) w A1 rest.length rest) ∧ Aside0 (Mid w B rec wr out) ∧ Aside0 (wr.heap[B + 3]? = some (.cells #[.slice A1 rest.length c1] 22 (0, 0)))) (fun _ wr => textLen B wr)
  case atStart => exact ⟨s, A, c, [], ⟨rfl⟩, ⟨by simp⟩, ⟨hsl, hc, HSR.out⟩, HX, HM, HBT⟩
  case round =>
    obtain ⟨rest, A1, c1, out, HRD, HOL, HRL, HRC, HM, HBT⟩ := hrel
    have hx3 := (blk_cell HBT.out 0).trans rfl
    have hx4 := (blk_cell HM.out.2.2.1 0).trans rfl
    have hf3 := blk_frozen HBT.out 0
    have rnd : Aside0 (∀ m : Nat, m ≤ rest.length → (Instr.yield (B + 6) #[.slice A1 m c1]).run Try.prog wr = .ok (.round (B + 6) fn ((rtmps s0 B fv).setIfInBounds 12 (.slice A1 m c1)) assign body) wr ∧
        RoundIn Fence.wide (n - 1) Try.prog (B + 6) fn ((rtmps s0 B fv).setIfInBounds 12 (.slice A1 m c1)) assign body wr fun e W' =>
          (e = .returned (.bool true) ∧ ∃ wd, rdWord (rest.take m) = some wd ∧ out.length ≤ 100 ∧ Mid w B rec W' (out ++ [wd]) ∧ W'.heap[B + 3]? = wr.heap[B + 3]?) ∨
          (e = .returned (.bool false) ∧ (rdWord (rest.take m) = none ∨ 100 < out.length) ∧ Left w B rec W')) := ⟨by
      intro m hm
      obtain ⟨hacc, hl, hg, hd⟩ := HM.out
      obtain ⟨q1, q2, q3, q4, q5⟩ := HREC2.out .ready none
      constructor
      · have hy := run_yield (P := Try.prog) (args := #[.slice A1 m c1]) hl (by rw [q3]; rfl)
        rw [q1, q2, q3, q4, q5] at hy
        simpa using hy
      · have htl : (rest.take m).length = m := by rw [List.length_take]; omega
        have hxr := Kd.C_take HRC.out hm
        have := round_in fn (n - 1) (by omega) w wr B (B + 6) rfl s0 fv (rest.take m) A1 c1 hxr hB0 (by have := HRL.out.1; omega) (fun b hb => HRL.out.2.2 b (List.mem_of_mem_take hb)) out HOL.out hacc assign body HCODE.out rec
          (fun k hk1 hk2 cells hc => by
            rcases (show k = B + 3 ∨ k = B + 4 ∨ k = B + 5 by omega) with rfl | rfl | rfl
            · rw [HBT.out] at hc; cases hc
            · rw [hg] at hc; cases hc
            · rw [hd] at hc; cases hc) hl HREC.out
          (fun e W' => (e = .returned (.bool true) ∧ ∃ wd, rdWord (rest.take m) = some wd ∧ out.length ≤ 100 ∧ Mid w B rec W' (out ++ [wd]) ∧ W'.heap[B + 3]? = wr.heap[B + 3]?) ∨
          (e = .returned (.bool false) ∧ (rdWord (rest.take m) = none ∨ 100 < out.length) ∧ Left w B rec W'))
          (fun W' wd h1 h2 h3 h4 h5 => .inl ⟨rfl, wd, h1, h2, ⟨h3, h4, (h5 _ (by omega) (by omega)).trans hg, (h5 _ (by omega) (by omega)).trans hd⟩, h5 _ (by omega) (by omega)⟩)
          (fun W' h1 h2 h3 h4 h5 h6 => .inr ⟨rfl, h1, h2, h3, h4, h5, (h6 _ (by omega) (by omega)).trans hd⟩)
        rw [htl] at this
        exact this⟩
    have h1n : 1 ≤ n := by omega
    have hml : rest.length ≤ 1000000 := HRL.out.1
    have hlc : rest.length ≤ c1 := HRL.out.2.1
    by_cases hp : 0 < rest.length
    · have hne : rest ≠ [] := fun h => by rw [h] at hp; exact absurd hp (by decide)
      have HNE := Aside0.mk hne
      have HTL : Aside0 (wr.heap[B + 3]? = some (.cells #[.slice A1 rest.length c1] 22 (0, 0))) := HBT
      have hmeas : textLen B wr = rest.length := by simp [textLen, hx3]
      have HMEAS := Aside0.mk hmeas
      clear hne hmeas
      have HG := Aside0.mk (gindex_calls A1 c1 rest wr (Kd.C_below HRC.out (by rw [hB0]; obtain ⟨⟨_, _, _, _, _, h5⟩, _⟩ := HM.out; exact h5)))
      -- what a round that goes on leaves
      have NEXT : Aside0 (∀ (m : Nat) (W' : World) (out' : List S36), 1 ≤ m → m ≤ rest.length → readL (toks (rest.drop m)) out' = readL (toks s) [] → out'.length ≤ 101 → Mid w B rec W' out' → ∀ (A2 : Option Addr), Kd.C (Kd.int .u8) w A2 (rest.length - m) (rest.drop m) → W'.heap[B + 3]? = some (.cells #[.slice A2 (rest.length - m) (c1 - m)] 22 (0, 0)) →
          (∃ (rest' : List Int) (A1' : Option Addr) (c1' : Nat) (out : List S36), Aside0 (readL (toks rest') out = readL (toks s) []) ∧ Aside0 (out.length ≤ 101) ∧ Aside0 (rest'.length ≤ 1000000 ∧ rest'.length ≤ c1' ∧ ∀ b ∈ rest', 0 ≤ b ∧ b ≤ 255) ∧ Aside0 (Kd.C (Kd.int .u8) w A1' rest'.length rest') ∧ Aside0 (Mid w B rec W' out) ∧ Aside0 (W'.heap[B + 3]? = some (.cells #[.slice A1' rest'.length c1'] 22 (0, 0)))) ∧ textLen B W' < textLen B wr) := ⟨by
        intro m W' out' hm1 hm2 hr ho hmid A2 hC hcell
        have hl : (rest.drop m).length = rest.length - m := List.length_drop
        refine ⟨⟨rest.drop m, A2, c1 - m, out', ⟨hr⟩, ⟨ho⟩, ⟨by omega, by have := HRL.out.2.1; omega, fun b hb => HRL.out.2.2 b (List.mem_of_mem_drop hb)⟩, ⟨by rw [hl]; exact hC⟩, ⟨hmid⟩, ⟨by rw [hl]; exact hcell⟩⟩, ?_⟩
        rw [HMEAS.out]
        have : textLen B W' = rest.length - m := by
          have h := (blk_cell hcell 0).trans rfl
          simp [textLen, h]
        omega⟩
      by_cases hidx : idxOf gapB rest 0 = -1
      · obtain ⟨hy, hR⟩ := rnd.out rest.length (Nat.le_refl _)
        have HTK := Aside0.mk (toks_none rest HNE.out hidx)
        have HR := Aside0.mk hR
        clear hR
        obtain ⟨A2, hcut, hcr⟩ := cutAt A1 rest.length c1 rest.length (Nat.le_refl _)
        have HC2 := Aside0.mk (hcr w rest HRL.out.2.1 HRC.out)
        clear hcr
        gi_wp2_with (refine ⟨trivial, ?_⟩; gi_at_call 29; refine (callsIn_wide.2 HG.out).mono ?_; rintro e w' ⟨rfl, rfl⟩)
        refine HR.out.mono ?_
        rintro e W' (⟨rfl, wd, h1, h2, h3, h4⟩ | ⟨rfl, h1, h2⟩)
        · have HQ1 := Aside0.mk h1
          have HQ3 := Aside0.mk h3
          have HQ4 := Aside0.mk (h4.trans HBT.out)
          have hx3' := (blk_cell HQ4.out 0).trans rfl
          have hf3' := blk_frozen HQ4.out 0
          clear h1 h3 h4
          gi_wp2
          have HMT := mid_text HQ3.out HQ4.out (.slice A2 (rest.length - rest.length) (c1 - rest.length))
          have := NEXT.out rest.length _ (out ++ [wd]) hp (Nat.le_refl _) (by
            have h := HRD.out
            rw [HTK.out] at h
            rw [readL_yes rest [] out wd (by have := HQ1.out; rwa [List.take_length] at this) h2] at h
            rw [← h, List.drop_length]
            rfl) (by simp; omega) HMT.1 A2 HC2.out HMT.2
          simp only [Nat.sub_self] at this
          exact this
        · have HQ1 := Aside0.mk h1
          have HQ2 := Aside0.mk h2
          clear h1 h2
          gi_wp2
          refine bodyPost_ret (results_none rfl _ _ _) rfl ?_
          exact ⟨⟨_, rfl⟩, .inr ⟨by
            have h := HRD.out
            rw [HTK.out, readL_no rest [] out (by have := HQ1.out; rwa [List.take_length] at this)] at h
            exact h.symm, HQ2.out⟩⟩
      · obtain ⟨j, hj1, hj2, hj3, hj4⟩ := idx_some gapB rest 0 hidx
        rw [Nat.zero_add] at hj1
        have HTK := Aside0.mk (toks_some rest j hj2 hj3 hj4)
        obtain ⟨A2, hcut, hcr⟩ := cutAt A1 rest.length c1 (j + 1) hj2
        have HC2 := Aside0.mk (hcr w rest HRL.out.2.1 HRC.out)
        have hcut' : ∀ W : World, (Instr.slice 22 (.slice A1 rest.length c1) (some (.int .i64 ((j : Int) + 1))) none none).run Try.prog W = .ok (.slice A2 (rest.length - (j + 1)) (c1 - (j + 1))) W := hcut
        clear hcr hcut hj3 hj4 hidx
        by_cases hj0 : 0 < j
        · obtain ⟨hy, hR⟩ := rnd.out j (by omega)
          have HR := Aside0.mk hR
          clear hR
          gi_wp2_with (refine ⟨trivial, ?_⟩; gi_at_call 29; refine (callsIn_wide.2 HG.out).mono ?_; rintro e w' ⟨rfl, rfl⟩)
          refine HR.out.mono ?_
          rintro e W' (⟨rfl, wd, h1, h2, h3, h4⟩ | ⟨rfl, h1, h2⟩)
          · have HQ1 := Aside0.mk h1
            have HQ3 := Aside0.mk h3
            have HQ4 := Aside0.mk (h4.trans HBT.out)
            have hx3' := (blk_cell HQ4.out 0).trans rfl
            have hf3' := blk_frozen HQ4.out 0
            clear h1 h3 h4
            gi_wp2
            have HMT := mid_text HQ3.out HQ4.out (.slice A2 (rest.length - (j + 1)) (c1 - (j + 1)))
            exact NEXT.out (j + 1) _ (out ++ [wd]) (by omega) hj2 (by
              have h := HRD.out
              rw [HTK.out, if_neg (by omega), List.singleton_append, readL_yes _ _ out wd HQ1.out h2] at h
              exact h) (by simp; omega) HMT.1 A2 HC2.out HMT.2
          · have HQ1 := Aside0.mk h1
            have HQ2 := Aside0.mk h2
            clear h1 h2
            gi_wp2
            refine bodyPost_ret (results_none rfl _ _ _) rfl ?_
            exact ⟨⟨_, rfl⟩, .inr ⟨by
              have h := HRD.out
              rw [HTK.out, if_neg (by omega), List.singleton_append, readL_no _ _ out HQ1.out] at h
              exact h.symm, HQ2.out⟩⟩
        · obtain rfl : j = 0 := by omega
          have hcut0 : ∀ W : World, (Instr.slice 22 (.slice A1 rest.length c1) (some (.int .i64 1)) none none).run Try.prog W = .ok (.slice A2 (rest.length - 1) (c1 - 1)) W := hcut'
          clear hcut'
          gi_wp2_with (refine ⟨trivial, ?_⟩; gi_at_call 29; refine (callsIn_wide.2 HG.out).mono ?_; rintro e w' ⟨rfl, rfl⟩)
          refine ⟨fun _ h => (by cases h), ?_⟩
          gi_wp2
          have HMT := mid_text HM.out HBT.out (.slice A2 (rest.length - 1) (c1 - 1))
          exact NEXT.out 1 _ out (by omega) hj2 (by
            have h := HRD.out
            rw [HTK.out, if_pos trivial, List.nil_append] at h
            exact h) HOL.out HMT.1 A2 HC2.out HMT.2
    · gi_wp2
      go_end0
      have hr0 : rest = [] := List.eq_nil_of_length_eq_zero (by omega)
      exact ⟨⟨_, rfl⟩, .inl ⟨out, by have := HRD.out; rw [hr0] at this; exact this.symm, HM.out⟩⟩

end Go.Proofs.Ytnhalfkkamepgaa.Q
