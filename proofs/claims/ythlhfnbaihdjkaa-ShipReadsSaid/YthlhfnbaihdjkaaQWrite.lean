/- The contract of ship.Write, by hand: the bytes of rows. -/
import Derived.Test.YthlhfnbaihdjkaaQWrite0
namespace Go.Proofs.Ythlhfnbaihdjkaa.Q
open Go.RowKit Go.Proofs.YthlhfnbaihdjkaaW.PrintWords Go.Proofs.YthlhfnbaihdjkaaW.PrintLast Go.Proofs.YthlhfnbaihdjkaaW.PrintMore
set_option linter.unusedVariables false
set_option linter.unusedSimpArgs false

def itemW (p : S43) : List Int := p.f0 % 256 :: be4 p.f1
def itemsW : List S43 → List Int
  | [] => []
  | p :: l => itemW p ++ itemsW l
def headW (r : S41) : List Int := [(r.f0 + 8) % 256, r.f1 % 256] ++ (be4 r.f2 ++ (be4 r.f3 ++ be2 r.f4.length))
def rowW (r : S41) : List Int := headW r ++ itemsW r.f4
def rowsW : List S41 → List Int
  | [] => []
  | r :: l => rowW r ++ rowsW l
def bytesW (l : List S41) : List Int := 67 :: 79 :: ((l.length : Int) % 256) :: rowsW l
def ship_Write.f (l0 : List S41) : Option (List Int × Int) := if checkB l0 = true then some (bytesW l0, 0) else some ([], 230)

inductive Way where
  | byte
  | fix
  | two
def wayF : Way → Nat
  | .byte => 19
  | .fix => 20
  | .two => 21
def wayV (p : Way × Int) : Value := .func (.func (wayF p.1)) #[] #[]
def wayI (p : Way × Int) : Value := .int .i64 p.2
def wayB : Way → Int → List Int
  | .byte, n => [n % 256]
  | .fix, n => be4 n
  | .two, n => be2 n
def wayOk : Way → Int → Prop
  | .byte, _ => True
  | .fix, n => wordI n = true
  | .two, n => 0 ≤ n ∧ n < 65536
def putL : List (Way × Int) → List Int
  | [] => []
  | p :: l => wayB p.1 p.2 ++ putL l
theorem wayB_len (x : Way) (n : Int) : (wayB x n).length ≤ 4 := by cases x <;> simp [wayB, be4, be2]
theorem putL_drop (ps : List (Way × Int)) (k : Nat) (h : k < ps.length) : putL (ps.drop k) = wayB ps[k].1 ps[k].2 ++ putL (ps.drop (k + 1)) := by
  rw [List.drop_eq_getElem_cons h]; rfl

theorem way_any (x : Way) (B g : Nat) (W : World) (v : Value) (xs : List Int) (n : Int) (hb : W.heap[g]? = some (.cells #[v] 50 (0, 0))) (HO : (Kd.int .u8).R 5 W B (fun _ => True) v xs) (hB : B ≤ g) (hl : xs.length + 4 ≤ 140737488355328) (h : wayOk x n) :
    Calls Try.prog (wayF x) #[.pointer (some ⟨g, 0, none⟩), .int .i64 n] W fun e W' => e = .returned (.tuple #[]) ∧ OutAt B g W (xs ++ wayB x n) W' := by
  cases x with
  | byte => exact byte_any B g W v xs n hb HO hB (by omega)
  | fix => exact fix_any B g W v xs n hb HO hB hl h
  | two => exact two_any B g W v xs n hb HO hB hl h.1 h.2

theorem OutAt.trans {B g : Nat} {W W1 W2 : World} {xs ys : List Int} (h : OutAt B g W xs W1) (k : OutAt B g W1 ys W2) : OutAt B g W ys W2 := by
  obtain ⟨v, h1, h2, h3, h4⟩ := h
  obtain ⟨u, k1, k2, k3, k4⟩ := k
  exact ⟨u, k1, k2, h3.trans k3, h4.trans k4⟩

set_option maxHeartbeats 4000000 in
theorem put_any (B g bw bl : Nat) (W : World) (v : Value) (xs : List Int) (ps : List (Way × Int)) (hb : W.heap[g]? = some (.cells #[v] 50 (0, 0))) (HO : (Kd.int .u8).R 5 W B (fun _ => True) v xs) (hB : B ≤ g)
    (hbw : W.heap[bw]? = some (.cells (ps.map wayV).toArray 44 (0, 0))) (hbl : W.heap[bl]? = some (.cells (ps.map wayI).toArray 3 (0, 0))) (hok : ∀ p ∈ ps, wayOk p.1 p.2) (hl : xs.length + 4 * ps.length + 4 ≤ 140737488355328) :
    Calls Try.prog 23 #[.pointer (some ⟨g, 0, none⟩), .slice (some ⟨bw, 0, none⟩) ps.length ps.length, .slice (some ⟨bl, 0, none⟩) ps.length ps.length] W fun e W' => e = .returned (.tuple #[]) ∧ OutAt B g W (xs ++ putL ps) W' := by
  have HN1 := Aside0.mk (blk_ne hbw hb (by decide))
  have HN2 := Aside0.mk (blk_ne hbl hb (by decide))
  have HBW := Aside0.mk hbw
  have HBL := Aside0.mk hbl
  have HOK := Aside0.mk hok
  have H0 : Aside0 (OutAt B g W xs W) := ⟨⟨v, hb, HO, Below.refl _ _, Keep5.refl _ _⟩⟩
  have hm : ps.length ≤ 9223372036854775807 := by omega
  clear hb HO hbw hbl hok
  go_enter Try.func23, Try.ntmps23
  go_wp2
  go_loopw [10] (fun i wr => ∃ (k : Nat) (zs : List Int), k ≤ ps.length ∧ i = .int .i64 k ∧ Aside0 (zs ++ putL (ps.drop k) = xs ++ putL ps) ∧ Aside0 (zs.length ≤ xs.length + 4 * k) ∧ Aside0 (OutAt B g W zs wr)) (fun i _ => ps.length - (intOf i).toNat)
  case atStart => exact ⟨0, xs, Nat.zero_le _, rfl, ⟨rfl⟩, ⟨by omega⟩, H0⟩
  case round =>
    clear H0
    obtain ⟨k, zs, hk, rfl, hsum, hlen, HOA⟩ := hrel
    by_cases hlt : k < ps.length
    · have hs := Aside0.mk (putL_drop ps k hlt ▸ hsum.out)
      have hp := HOK.out _ (List.getElem_mem hlt)
      have h1 := (blk_cell HBW.out k).trans (show (ps.map wayV).toArray[k]? = some (wayV ps[k]) by simp [hlt])
      have h2 := (blk_cell HBL.out k).trans (show (ps.map wayI).toArray[k]? = some (wayI ps[k]) by simp [hlt])
      clear hsum
      generalize ps[k] = p at hs hp h1 h2
      obtain ⟨x, n⟩ := p
      obtain ⟨u, o1, o2, o3, o4⟩ := HOA.out
      have g1 : wr.cell? ⟨bw, k, none⟩ = some (wayV (x, n)) := (blk_cell (o4 _ _ _ HN1.out (by decide) HBW.out) k).trans ((blk_cell HBW.out k).symm.trans h1)
      have g2 : wr.cell? ⟨bl, k, none⟩ = some (.int .i64 n) := (blk_cell (o4 _ _ _ HN2.out (by decide) HBL.out) k).trans ((blk_cell HBL.out k).symm.trans h2)
      have HC := Aside0.mk (way_any x B g wr u zs n o1 o2 hB (by have := hlen.out; omega) hp)
      have HWL := Aside0.mk (wayB_len x n)
      clear h1 h2 o1 o2 o3 o4 hp
      cases x
      all_goals
        simp only [wayV, wayF] at g1
        go_wp2_with (first | (go_at_call 19; refine HC.out.mono ?_; rintro e w1 ⟨rfl, hO⟩; have HO1 := Aside0.mk (HOA.out.trans hO); clear hO) | (go_at_call 20; refine HC.out.mono ?_; rintro e w1 ⟨rfl, hO⟩; have HO1 := Aside0.mk (HOA.out.trans hO); clear hO) | (go_at_call 21; refine HC.out.mono ?_; rintro e w1 ⟨rfl, hO⟩; have HO1 := Aside0.mk (HOA.out.trans hO); clear hO))
        go_roundw
        case rel => exact ⟨k + 1, _, by omega, by go_num, ⟨by have := hs.out; rw [List.append_assoc]; exact this⟩, ⟨by rw [List.length_append]; have := hlen.out; have := HWL.out; omega⟩, HO1⟩
        case measure => simp [intOf]; omega
    · have hs : Aside0 (zs = xs ++ putL ps) := ⟨by have := hsum.out; rwa [List.drop_eq_nil_of_le (by omega), putL, List.append_nil] at this⟩
      go_wp2
      go_end0
      exact ⟨rfl, hs.out ▸ HOA.out⟩

theorem mark_calls (W : World) : Calls Try.prog 22 #[] W fun e W' => e = .returned (.slice (some ⟨W.heap.size, 0, none⟩) 2 2) ∧ W.alloc (.cells #[.int .u8 67, .int .u8 79] 5 (2, 3)) = W' := by
  have kc := fun (w : World) (C : Array Value) (n c : Nat) => Lib.run_convert_bytes_const (P := Try.prog) w 25 5 C n c Try.underlying25 Try.underlying5
  go_enter Try.func22, Try.ntmps22
  go_wp2
  go_ret
  exact ⟨rfl, rfl⟩

def waysF5 : Array Value := #[.func (.func 19) #[] #[], .func (.func 19) #[] #[], .func (.func 20) #[] #[], .func (.func 20) #[] #[], .func (.func 21) #[] #[]]
def waysF2 : Array Value := #[.func (.func 19) #[] #[], .func (.func 20) #[] #[]]
/-- Between two writings: out's block, and the two rows of ways. -/
def Inv (w : World) (B : Nat) (zs : List Int) (W : World) : Prop :=
  ∃ v, W.heap[B + 3]? = some (.cells #[v] 50 (0, 0)) ∧ (Kd.int .u8).R 5 W w.heap.size (fun _ => True) v zs ∧ Below w.heap.size w W ∧ W.heap[B]? = some (.cells waysF5 44 (0, 0)) ∧ W.heap[B + 1]? = some (.cells waysF2 44 (0, 0))

theorem start_any (w w1 : World) (n : Int) (hb : Below w.heap.size w w1) :
    Calls Try.prog 19 #[.pointer (some ⟨w1.heap.size + 3, 0, none⟩), .int .i64 n] ((((w1.alloc (.cells waysF5 44)).alloc (.cells waysF2 44)).alloc (.cells #[.int .u8 67, .int .u8 79] 5 (2, 3))).alloc (.cells #[.slice (some ⟨w1.heap.size + 2, 0, none⟩) 2 2] 50)) fun e W' => e = .returned (.tuple #[]) ∧ Inv w w1.heap.size [67, 79, n % 256] W' := by
  have b0 := blk_new w1 (.cells waysF5 44)
  have b1 := blk_new (w1.alloc (.cells waysF5 44)) (.cells waysF2 44)
  have b2 := blk_new ((w1.alloc (.cells waysF5 44)).alloc (.cells waysF2 44)) (.cells #[.int .u8 67, .int .u8 79] 5 (2, 3))
  have b3 := blk_new (((w1.alloc (.cells waysF5 44)).alloc (.cells waysF2 44)).alloc (.cells #[.int .u8 67, .int .u8 79] 5 (2, 3))) (.cells #[.slice (some ⟨w1.heap.size + 2, 0, none⟩) 2 2] 50)
  simp only [World.size_alloc] at b1 b2 b3
  have b0' := blk_alloc (blk_alloc (blk_alloc b0 (.cells waysF2 44)) (.cells #[.int .u8 67, .int .u8 79] 5 (2, 3))) (.cells #[.slice (some ⟨w1.heap.size + 2, 0, none⟩) 2 2] 50)
  have b1' := blk_alloc (blk_alloc b1 (.cells #[.int .u8 67, .int .u8 79] 5 (2, 3))) (.cells #[.slice (some ⟨w1.heap.size + 2, 0, none⟩) 2 2] 50)
  have b2' := blk_alloc b2 (.cells #[.slice (some ⟨w1.heap.size + 2, 0, none⟩) 2 2] 50)
  have hB : Below w.heap.size w ((((w1.alloc (.cells waysF5 44)).alloc (.cells waysF2 44)).alloc (.cells #[.int .u8 67, .int .u8 79] 5 (2, 3))).alloc (.cells #[.slice (some ⟨w1.heap.size + 2, 0, none⟩) 2 2] 50)) := below_alloc (below_alloc (below_alloc (below_alloc hb _) _) _) _
  generalize (((w1.alloc (.cells waysF5 44)).alloc (.cells waysF2 44)).alloc (.cells #[.int .u8 67, .int .u8 79] 5 (2, 3))).alloc (.cells #[.slice (some ⟨w1.heap.size + 2, 0, none⟩) 2 2] 50) = W at b0' b1' b2' b3 hB ⊢
  have c67 : W.cell? ⟨w1.heap.size + 2, 0, none⟩ = some (.int .u8 67) := cell_of_row W _ 0 _ 5 (2, 3) b2'
  have c79 : W.cell? ⟨w1.heap.size + 2, 1, none⟩ = some (.int .u8 79) := cell_of_row W _ 1 _ 5 (2, 3) b2'
  have hs := hb.size
  refine (byte_first w.heap.size (w1.heap.size + 3) (w1.heap.size + 2) W n b3 c67 c79 (by omega)).mono ?_
  rintro e W' ⟨rfl, v, h1, h2, h3, h4⟩
  exact ⟨rfl, v, h1, h2, hB.trans h3, h4 _ _ _ (by omega) (by decide) b0', h4 _ _ _ (by omega) (by decide) b1'⟩

theorem rowW_drop (l : List S43) (k : Nat) (h : k < l.length) : itemsW (l.drop k) = itemW (rd_T43 l k) ++ itemsW (l.drop (k + 1)) := by
  rw [List.drop_eq_getElem_cons h, rd_T43_eq l k h]; rfl
theorem rowsW_drop (l : List S41) (k : Nat) (h : k < l.length) : rowsW (l.drop k) = rowW (rd_T41 l k) ++ rowsW (l.drop (k + 1)) := by
  rw [List.drop_eq_getElem_cons h, rd_T41_eq l k h]; rfl
theorem rowB_facts {r : S41} (h : rowB r = true) : (-8 ≤ r.f0 ∧ r.f0 ≤ 8) ∧ wordI r.f2 = true ∧ wordI r.f3 = true ∧ r.f4.length ≤ 600 ∧ r.f4.any badItem = false := by
  simp only [rowB, Bool.and_eq_true, decide_eq_true_eq, Bool.not_eq_true'] at h
  exact ⟨⟨h.1, h.2.1⟩, h.2.2.2.2.1, h.2.2.2.2.2.1, h.2.2.2.2.2.2.1, h.2.2.2.2.2.2.2⟩
theorem checkB_row {l : List S41} (h : checkB l = true) (k : Nat) (hk : k < l.length) : rowB (rd_T41 l k) = true := by
  simp only [checkB, Bool.and_eq_true, Bool.not_eq_true', decide_eq_true_eq, List.any_eq_false] at h
  have := h.2 _ (List.getElem_mem hk)
  rw [rd_T41_eq l k hk]
  simpa [badRow] using this
theorem items_word {l : List S43} (h : l.any badItem = false) (k : Nat) (hk : k < l.length) : wordI (rd_T43 l k).f1 = true := by
  rw [List.any_eq_false] at h
  have := h _ (List.getElem_mem hk)
  rw [rd_T43_eq l k hk]
  simp [badItem] at this
  exact this.2.2

set_option maxHeartbeats 4000000 in
theorem write_no (A : Option Addr) (c : Nat) (l : List S41) (w : World) (hr : Kd.C k41 w A l.length l) (hok : checkB l = false) :
    Calls Try.prog 9 #[.slice A l.length c] w fun e w' => e = .returned (.tuple #[.slice none 0 0, .int .i64 230]) ∧ Below w.heap.size w w' := by
  have HR := Aside0.mk hr
  clear hr
  go_enter Try.func9, Try.ntmps9
  go_wp2_with (go_at_call 13; refine (check_any _ _ _ _ HR.out).mono ?_; rintro e w' ⟨rfl, hb⟩; have HB := Aside0.mk hb; clear hb)
  go_ret2
  exact ⟨rfl, HB.out⟩

/-- A head's, or an item's, numbers are put. -/
theorem puts_any (w W W1 : World) (B : Nat) (zs : List Int) (h : Inv w B zs W) (hB : w.heap.size ≤ B) (hb : Below W.heap.size W W1) (bl bw : Nat) (ps : List (Way × Int)) (hbw : bw = B ∧ ps.map wayV = waysF5.toList ∨ bw = B + 1 ∧ ps.map wayV = waysF2.toList)
    (hbl : W1.heap[bl]? = some (.cells (ps.map wayI).toArray 3 (0, 0))) (hok : ∀ p ∈ ps, wayOk p.1 p.2) (hl : zs.length + 4 * ps.length + 4 ≤ 140737488355328) :
    Calls Try.prog 23 #[.pointer (some ⟨B + 3, 0, none⟩), .slice (some ⟨bw, 0, none⟩) ps.length ps.length, .slice (some ⟨bl, 0, none⟩) ps.length ps.length] W1 fun e W' => e = .returned (.tuple #[]) ∧ Inv w B (zs ++ putL ps) W' ∧ Keep5 (B + 3) W1 W' := by
  obtain ⟨v, h1, h2, h3, h4, h5⟩ := h
  have g4 := blk_below h4 hb
  have g5 := blk_below h5 hb
  have gw : W1.heap[bw]? = some (.cells (ps.map wayV).toArray 44 (0, 0)) := by
    rcases hbw with ⟨rfl, e⟩ | ⟨rfl, e⟩
    · rw [e]; exact g4
    · rw [e]; exact g5
  refine (put_any w.heap.size (B + 3) bw bl W1 v zs ps (blk_below h1 hb) (Kd.R_below h2 hb) (by omega) gw hbl hok hl).mono ?_
  rintro e W' ⟨rfl, u, k1, k2, k3, k4⟩
  exact ⟨rfl, ⟨u, k1, k2, (h3.trans (hb.mono h3.size)).trans k3, k4 _ _ _ (by omega) (by decide) g4, k4 _ _ _ (by omega) (by decide) g5⟩, k4⟩

theorem blk_new2 (w : World) (o o' : Obj) : ((w.alloc o).alloc o').heap[w.heap.size + 1]? = some o' := by
  have := blk_new (w.alloc o) o'
  rwa [World.size_alloc] at this
theorem headOk {r : S41} (h2 : wordI r.f2 = true) (h3 : wordI r.f3 = true) (h4 : r.f4.length ≤ 600) : ∀ p ∈ ([(.byte, r.f0 + 8), (.byte, r.f1), (.fix, r.f2), (.fix, r.f3), (.two, (r.f4.length : Int))] : List (Way × Int)), wayOk p.1 p.2 := by
  intro p hp
  simp at hp
  rcases hp with rfl | rfl | rfl | rfl | rfl
  · trivial
  · trivial
  · exact h2
  · exact h3
  · show (0 : Int) ≤ _ ∧ _; omega
theorem itemOk {p : S43} (h : wordI p.f1 = true) : ∀ q ∈ ([(.byte, p.f0), (.fix, p.f1)] : List (Way × Int)), wayOk q.1 q.2 := by
  intro q hq
  simp at hq
  rcases hq with rfl | rfl
  · trivial
  · exact h

set_option maxHeartbeats 16000000 in
set_option maxRecDepth 100000 in
theorem write_yes (A : Option Addr) (c : Nat) (l : List S41) (w : World) (hr : Kd.C k41 w A l.length l) (hok : checkB l = true) :
    Calls Try.prog 9 #[.slice A l.length c] w fun e w' => ∃ v0_ : Value, e = .returned (.tuple #[v0_, .int .i64 0]) ∧ (Kd.int .u8).R 5 w' w.heap.size (fun _ => True) v0_ (bytesW l) ∧ Below w.heap.size w w' := by
  have HR := Aside0.mk hr
  have HOK := Aside0.mk (checkB_row hok)
  have hl : l.length ≤ 200 := by simp only [checkB, Bool.and_eq_true, decide_eq_true_eq] at hok; exact hok.1
  have hok' := hok
  clear hr hok
  go_enter Try.func9, Try.ntmps9
  go_wp2_with (first | (go_at_call 13; refine (check_any _ _ _ _ HR.out).mono ?_; rintro e w1 ⟨rfl, hb⟩; have HB := Aside0.mk hb; clear hb) | (go_at_call 22; refine (mark_calls _).mono ?_; rintro e w' ⟨rfl, rfl⟩) | (go_at_call 19; refine (start_any w w1 (l.length : Int) HB.out).mono ?_; rintro e w2 ⟨rfl, hI⟩; have HI := Aside0.mk hI; clear hI))
  have hs1 := HB.out.size
  obtain ⟨B, hB⟩ : ∃ B, w1.heap.size = B := ⟨_, rfl⟩
  have e3 : w1.heap.size + 1 + 1 + 1 = B + 3 := by omega
  have e2 : w1.heap.size + 1 + 1 = B + 2 := by omega
  rw [hB] at HI hs1
  simp only [e3, e2, hB]
  clear e3 e2 hB HB
  go_loopw [25] (fun i wr => ∃ (k : Nat) (zs : List Int), k ≤ l.length ∧ i = .int .i64 k ∧ Aside0 (zs ++ rowsW (l.drop k) = bytesW l) ∧ Aside0 (zs.length ≤ 3 + 4000 * k) ∧ Aside0 (Inv w B zs wr)) (fun i _ => l.length - (intOf i).toNat)
  case atStart => exact ⟨0, _, Nat.zero_le _, rfl, ⟨rfl⟩, ⟨by simp⟩, HI⟩
  case round =>
    clear HI
    obtain ⟨k, zs, hk, rfl, hsum, hlen, HI⟩ := hrel
    by_cases hlt : k < l.length
    · have hs := Aside0.mk (rowsW_drop l k hlt ▸ hsum.out)
      obtain ⟨ad, A4, c4, rfl, hc0, hc1, hc2, hc3, hc4, hl4, hi4⟩ := at_T41 HR.out (k : Int) (by omega) (by omega)
      obtain ⟨v0, i1, i2, hBw, i4, i5⟩ := HI.out
      have hltB := blk_lt i1
      replace hc0 := (hBw.cell (World.block_lt_of_cell? w _ hc0)).trans hc0
      replace hc1 := (hBw.cell (World.block_lt_of_cell? w _ hc1)).trans hc1
      replace hc2 := (hBw.cell (World.block_lt_of_cell? w _ hc2)).trans hc2
      replace hc3 := (hBw.cell (World.block_lt_of_cell? w _ hc3)).trans hc3
      replace hc4 := (hBw.cell (World.block_lt_of_cell? w _ hc4)).trans hc4
      rw [Int.toNat_natCast] at hc0 hc1 hc2 hc3 hc4
      have HI4 := Aside0.mk hi4
      obtain ⟨⟨b0, b8⟩, w2_, w3_, hn6, hany⟩ := rowB_facts (HOK.out k hlt)
      have HW2 := Aside0.mk w2_
      have HW3 := Aside0.mk w3_
      have HAN := Aside0.mk hany
      clear i1 i2 hBw i4 i5 hi4 hl4 hsum w2_ w3_ hany
      go_upto_region 11 with (go_at_call 23; refine (puts_any w wr _ B zs HI.out hs1 (below_alloc (below_alloc (Below.refl _ _) _) _) (wr.heap.size + 1) B [(.byte, (rd_T41 l k).f0 + 8), (.byte, (rd_T41 l k).f1), (.fix, (rd_T41 l k).f2), (.fix, (rd_T41 l k).f3), (.two, ((rd_T41 l k).f4.length : Int))] (.inl ⟨rfl, rfl⟩) (blk_new2 wr _ _) ?hok ?hl).mono ?_; (case hok => exact headOk HW2.out HW3.out hn6); (case hl => have := hlen.out; simp; omega); rintro e w3 ⟨rfl, hI, hK⟩; have HI3 := Aside0.mk hI; have BR := Aside0.mk (hK _ _ _ (by omega) (by decide) (blk_alloc (blk_new wr _) _)); clear hI hK)
      have hx4 := (blk_cell BR.out 4).trans rfl
      clear hc0 hc1 hc2 hc3 hc4
      go_wp2
      clear hx4 BR
      have HZ : Aside0 (zs ++ putL [(.byte, (rd_T41 l k).f0 + 8), (.byte, (rd_T41 l k).f1), (.fix, (rd_T41 l k).f2), (.fix, (rd_T41 l k).f3), (.two, ((rd_T41 l k).f4.length : Int))] = zs ++ headW (rd_T41 l k)) := ⟨by simp [putL, wayB, headW]⟩
      rw [HZ.out] at HI3
      have hm4 : (rd_T41 l k).f4.length ≤ 9223372036854775807 := by omega
      go_loopw [48] (fun i wi => ∃ (j : Nat) (ys : List Int), j ≤ (rd_T41 l k).f4.length ∧ i = .int .i64 j ∧ Aside0 (ys ++ (itemsW ((rd_T41 l k).f4.drop j) ++ rowsW (l.drop (k + 1))) = bytesW l) ∧ Aside0 (ys.length ≤ 3 + 4000 * k + 12 + 5 * j) ∧ Aside0 (Inv w B ys wi)) (fun i _ => (rd_T41 l k).f4.length - (intOf i).toNat)
      case atStart => exact ⟨0, _, Nat.zero_le _, rfl, ⟨by have := hs.out; simpa [rowW] using this⟩, ⟨by have := hlen.out; simp [headW, be4, be2]; omega⟩, HI3⟩
      case round =>
        clear HI HI3 hs hlen HZ
        obtain ⟨j, ys, hj, rfl, hsum, hlen, HI⟩ := hrel
        by_cases hjl : j < (rd_T41 l k).f4.length
        · have hs := Aside0.mk (rowW_drop (rd_T41 l k).f4 j hjl ▸ hsum.out)
          obtain ⟨ad4, rfl, hd0, hd1⟩ := at_T43 HI4.out (j : Int) (by omega) (by omega)
          obtain ⟨v0', i1, i2, hBw, i4, i5⟩ := HI.out
          have hltB' := blk_lt i1
          replace hd0 := (hBw.cell (World.block_lt_of_cell? w _ hd0)).trans hd0
          replace hd1 := (hBw.cell (World.block_lt_of_cell? w _ hd1)).trans hd1
          rw [Int.toNat_natCast] at hd0 hd1
          have HWI := Aside0.mk (items_word HAN.out j hjl)
          clear i1 i2 hBw i4 i5 hsum
          go_wp2_with (go_at_call 23; refine (puts_any w wr _ B ys HI.out hs1 (below_alloc (below_alloc (Below.refl _ _) _) _) (wr.heap.size + 1) (B + 1) [(.byte, (rd_T43 (rd_T41 l k).f4 j).f0), (.fix, (rd_T43 (rd_T41 l k).f4 j).f1)] (.inr ⟨rfl, rfl⟩) (blk_new2 wr _ _) (itemOk HWI.out) ?hl).mono ?_; (case hl => have := hlen.out; simp; omega); rintro e w4 ⟨rfl, hI, hK⟩; have HI5 := Aside0.mk hI; clear hI hK)
          go_roundw
          case rel => exact ⟨j + 1, _, by omega, by go_num, ⟨by have := hs.out; simpa [putL, wayB, itemW] using this⟩, ⟨by have := hlen.out; simp [putL, wayB, be4]; omega⟩, HI5⟩
          case measure => simp [intOf]; omega
        · have hs : Aside0 (ys ++ rowsW (l.drop (k + 1)) = bytesW l) := ⟨by have := hsum.out; rw [List.drop_eq_nil_of_le (by omega)] at this; simpa [itemsW] using this⟩
          go_wp2
          go_roundw
          case rel => exact ⟨k + 1, ys, by omega, by go_num, hs, ⟨by have := hlen.out; omega⟩, HI⟩
          case measure => simp [intOf]; omega
    · have hs : Aside0 (zs = bytesW l) := ⟨by have := hsum.out; rwa [List.drop_eq_nil_of_le (by omega), rowsW, List.append_nil] at this⟩
      obtain ⟨v0, i1, i2, hBw, i4, i5⟩ := HI.out
      have hx0 := (blk_cell i1 0).trans rfl
      have HO := Aside0.mk i2
      have HBW := Aside0.mk hBw
      clear i1 i2 hBw i4 i5
      go_wp2
      go_ret2
      exact ⟨_, rfl, hs.out ▸ HO.out, HBW.out⟩

theorem ship_Write.calls (A0 : Option Addr) (c0 : Nat) (l0 : List S41) (r1 : List Int) (r2 : Int) (w : World) (hr0 : Kd.C k41 w A0 l0.length l0) (hc0 : l0.length ≤ c0) (h : ship_Write.f l0 = some (r1, r2)) :
    Calls Try.prog 9 #[.slice A0 l0.length c0] w fun e w' => ∃ v0_ : Value, e = .returned (.tuple #[v0_, .int .i64 r2]) ∧ Kd.R (Kd.int .u8) 5 w' w.heap.size (fun _ => True) v0_ r1 ∧ Below w.heap.size w w' := by
  unfold ship_Write.f at h
  by_cases hok : checkB l0 = true
  · rw [if_pos hok] at h
    obtain ⟨rfl, rfl⟩ := Prod.mk.inj (Option.some.inj h)
    exact write_yes _ _ _ _ hr0 hok
  · rw [if_neg hok] at h
    obtain ⟨rfl, rfl⟩ := Prod.mk.inj (Option.some.inj h)
    exact (write_no _ _ _ _ hr0 (Bool.eq_false_iff.2 hok)).mono fun e w' ⟨he, hb⟩ => ⟨_, he, Kd.R_nil _ _ _ _ _, hb⟩

end Go.Proofs.Ythlhfnbaihdjkaa.Q
