/- The contract of text.Write, by hand: the text of words. -/
import Derived.Test.YtnhalfkkamepgaaQCheck
namespace Go.Proofs.Ytnhalfkkamepgaa.Q
open Go.RowKit Go.Proofs.YtnhalfkkamepgaaW.PrintWords Go.Proofs.YtnhalfkkamepgaaW.PrintLast Go.Proofs.YtnhalfkkamepgaaW.PrintMore
set_option linter.unusedVariables false
set_option linter.unusedSimpArgs false

/-- A word's bytes. -/
def wbytes : List Int → Nat → List Int → List Int
  | [], _, _ => []
  | c :: cs, k, soft => if soft.head? = some (k : Int) then 194 :: 173 :: (c % 256) :: wbytes cs (k + 1) soft.tail else (c % 256) :: wbytes cs (k + 1) soft
/-- All words' bytes. -/
def writeL : List S36 → Nat → List Int
  | [], _ => []
  | x :: xs, i => (if 0 < i then [32] else []) ++ (wbytes x.f0 0 x.f1 ++ writeL xs (i + 1))
def text_Write.f (l0 : List S36) : Option (List Int × Int) := if checkB l0 = true then some (writeL l0 0, 0) else some ([], 130)

theorem drop_rd (l : List Int) (k : Nat) (h : k < l.length) : l.drop k = rd l k :: l.drop (k + 1) := by
  rw [List.drop_eq_getElem_cons h]
  congr 1
  simp [rd, List.getD_eq_getElem?_getD, List.getElem?_eq_getElem h]
theorem drop_rd36 (l : List S36) (k : Nat) (h : k < l.length) : l.drop k = rd_T36 l k :: l.drop (k + 1) := by
  rw [List.drop_eq_getElem_cons h, rd_T36_eq l k h]

theorem cut1 (A : Option Addr) (n c : Nat) (hn : 1 ≤ n) : ∃ A' : Option Addr, (∀ W : World, (Instr.slice 34 (.slice A n c) (some (.int .i64 1)) none none).run Try.prog W = .ok (.slice A' (n - 1) (c - 1)) W) ∧
    ∀ (w : World) (xs : List Int), n ≤ c → (Kd.int .i64).C w A n xs → (Kd.int .i64).C w A' (n - 1) (xs.drop 1) := by
  have hi : ∃ i, Try.prog.info? 3 = some i ∧ i.size = 1 := by
    obtain ⟨i, h, h2⟩ := Option.map_eq_some_iff.1 info3
    exact ⟨i, h, by injection h2 with _ h3; injection h3⟩
  obtain ⟨i, hi, hs⟩ := hi
  obtain ⟨A', h1, h2⟩ := print_cut (P := Try.prog) 34 3 .i64 Try.underlying34 hi hs A n c 1 hn
  refine ⟨A', h1, fun w xs hc h => ?_⟩
  exact Kd.C_of_reads (d := (0 : Int)) (h1 := fun _ => rfl) (h2 w .i64 xs hc (Kd.reads_of_C (d := (0 : Int)) h))

section
variable {ops : Array Oper} {rest : List Oper} {o : Oper} {a : Act} {Q : Exit → Act → World → Prop}
/-- append(out, y) on bytes of the call's own: what is no row of bytes lies as it lay. -/
theorem app1 {w W : World} (hgd : o.guard = none) (s x : Operand) (ho : o.op = .call { callee := .builtin .append, args := #[s, x], argTypes := #[22, 22] })
    (v : Value) (xs : List Int) (y : Int) (hs : a.eval s = v) (hx : a.eval x = .slice (some ⟨W.heap.size, 0, none⟩) 1 1)
    (HO : (Kd.int .u8).R 5 W w.heap.size (fun _ => True) v xs) (HB : Below w.heap.size w W) (hl : xs.length + 1 ≤ 140737488355328)
    (h : ∀ v1 w1, (Kd.int .u8).R 5 w1 w.heap.size (fun _ => True) v1 (xs ++ [y]) → Below w.heap.size w w1 →
      (∀ (g : Nat) (cells : Array Value) (t : TypeId), t ≠ 5 → W.heap[g]? = some (.cells cells t (0, 0)) → w1.heap[g]? = some (.cells cells t (0, 0))) → wpList Try.prog ops Q rest (a.put o.dst v1) w1) :
    wpList Try.prog ops Q (o :: rest) a (W.alloc (.cells #[.int .u8 y] 5)) := by
  refine Kd.R_append (Kd.int .u8) (w0 := w) w.heap.size hgd s x 22 5 (.int .u8 0) 1 ho Try.underlying22 info5 rfl (by decide) (by omega) v xs y [.int .u8 y] (fun _ => True) (fun _ => False) hs hx rfl (fun _ hk => hk.elim) (fun _ _ => trivial) HO HB HB.size (by omega) ?_
  intro v1 w1 ho hb hg hat
  refine h v1 w1 ho hb (fun g cells t ht hc => ?_)
  exact blk_grown hc hg (Kd.R_ne HO hc (fun e => ht e.symm))
end

set_option maxHeartbeats 4000000 in
theorem write_no (A : Option Addr) (c : Nat) (l : List S36) (w : World) (hr : Kd.C k36 w A l.length l) (hok : checkB l = false) :
    Calls Try.prog 15 #[.slice A l.length c] w fun e w' => e = .returned (.tuple #[.slice none 0 0, .int .i64 130]) ∧ Below w.heap.size w w' := by
  have HR := Aside0.mk hr
  clear hr
  go_enter Try.func15, Try.ntmps15
  go_wp2_with (go_at_call 17; refine (check_any _ _ _ _ HR.out).mono ?_; rintro e w' ⟨rfl, hb⟩; have HB := Aside0.mk hb; clear hb)
  go_ret2
  exact ⟨rfl, HB.out⟩

set_option maxHeartbeats 8000000 in
set_option maxRecDepth 100000 in
theorem write_yes (A : Option Addr) (c : Nat) (l : List S36) (w : World) (hr : Kd.C k36 w A l.length l) (hok : checkB l = true) :
    Calls Try.prog 15 #[.slice A l.length c] w fun e w' => ∃ v0_ : Value, e = .returned (.tuple #[v0_, .int .i64 0]) ∧ Kd.R (Kd.int .u8) 5 w' w.heap.size (fun _ => True) v0_ (writeL l 0) ∧ Below w.heap.size w w' := by
  have hu36 := Try.underlying36
  have HR := Aside0.mk hr
  have hm : l.length ≤ 100 := by simp [checkB] at hok; omega
  have HOK : Aside0 (∀ k : Nat, k < l.length → okB (rd_T36 l k) = true) := ⟨fun k hk => by
    simp only [checkB, Bool.and_eq_true, List.all_eq_true] at hok
    exact hok.1 _ (by rw [rd_T36_eq l k hk]; exact List.getElem_mem hk)⟩
  clear hr
  go_enter Try.func15, Try.ntmps15
  go_wp2_with (go_at_call 17; refine (check_any _ _ _ _ HR.out).mono ?_; rintro e w0 ⟨rfl, hb⟩; have HB := Aside0.mk hb; clear hb)
  go_loopw [4, 15] (fun v i wr => ∃ (k : Nat) (xs : List Int), k ≤ l.length ∧ i = .int .i64 k ∧ Aside0 (xs ++ writeL (l.drop k) k = writeL l 0) ∧ Aside0 (xs.length ≤ 181 * k) ∧ Aside0 (Kd.R (Kd.int .u8) 5 wr w.heap.size (fun _ => True) v xs) ∧ Aside0 (Below w.heap.size w wr)) (fun _ i _ => l.length - (intOf i).toNat)
  case atStart => exact ⟨0, [], Nat.zero_le _, rfl, ⟨rfl⟩, ⟨by simp⟩, ⟨Kd.R_nil _ _ _ _ _⟩, HB⟩
  case round =>
    clear HB
    obtain ⟨k, xs, hk, rfl, hsum, hlen, HO, HB⟩ := hrel
    by_cases hlt : k < l.length
    · obtain ⟨ad, A0, c0, A1, c1, rfl, hc0, hc1, hl0, hi0, hl1, hi1⟩ := at_T36 HR.out (k : Int) (by omega) (by omega)
      replace hc0 := (HB.out.cell (World.block_lt_of_cell? w _ hc0)).trans hc0
      replace hc1 := (HB.out.cell (World.block_lt_of_cell? w _ hc1)).trans hc1
      rw [Int.toNat_natCast] at hc0 hc1
      have HI0 := Aside0.mk hi0
      have HI1 := Aside0.mk hi1
      have HL1 := Aside0.mk hl1
      clear hi0 hi1 hl0 hl1
      have hsplit : Aside0 (xs ++ ((if 0 < k then [32] else []) ++ (wbytes (rd_T36 l k).f0 0 (rd_T36 l k).f1 ++ writeL (l.drop (k + 1)) (k + 1))) = writeL l 0) := ⟨by
        have := hsum.out; rwa [drop_rd36 l k hlt] at this⟩
      have hwl : Aside0 ((rd_T36 l k).f0.length ≤ 60) := ⟨(okB_len (HOK.out k hlt)).2⟩
      clear hsum
      go_upto_if 21 with (fail)
      go_cut [4] (fun v wc => ∃ ys : List Int, Aside0 (ys ++ (wbytes (rd_T36 l k).f0 0 (rd_T36 l k).f1 ++ writeL (l.drop (k + 1)) (k + 1)) = writeL l 0) ∧ Aside0 (ys.length ≤ 181 * k + 1) ∧ Aside0 (Kd.R (Kd.int .u8) 5 wc w.heap.size (fun _ => True) v ys) ∧ Aside0 (Below w.heap.size w wc) ∧ Aside0 (wc.heap[wr.heap.size]? = some (.cells #[.slice A0 (rd_T36 l k).f0.length c0, .slice A1 (rd_T36 l k).f1.length c1] 36 (0, 0))))
      case first =>
        by_cases hk0 : 0 < k
        · go_wp2_with (at_builtin; refine app1 (w := w) rfl (.tmp 22) (.tmp 23) rfl _ xs 32 rfl ?hx (by exact Kd.R_alloc HO.out _) (by exact below_alloc HB.out _) ?hl ?_; (case hx => simp [Act.eval]); (case hl => have := hlen.out; omega); intro v1 w1 h1 h2 h3; have HO1 := Aside0.mk h1; have HB1 := Aside0.mk h2; have BK1 := Aside0.mk (h3 _ _ _ (by decide) (blk_new wr _)); clear h1 h2 h3)
          go_meet
          exact ⟨xs ++ [32], ⟨by have := hsplit.out; rw [if_pos hk0] at this; simpa using this⟩, ⟨by have := hlen.out; simp; omega⟩, HO1, HB1, BK1⟩
        · go_wp2
          go_meet
          exact ⟨xs, ⟨by have := hsplit.out; rw [if_neg hk0] at this; simpa using this⟩, ⟨by have := hlen.out; omega⟩, ⟨Kd.R_alloc HO.out _⟩, ⟨below_alloc HB.out _⟩, ⟨blk_new wr _⟩⟩
      case rest =>
        clear hsplit HO HB hlen
        obtain ⟨ys, hsum, hlen, HO, HB, BK⟩ := hcut
        have hx0 := (blk_cell BK.out 0).trans rfl
        have hx1 := (blk_cell BK.out 1).trans rfl
        go_wp2
        clear hx0 hx1 BK
        go_loopw [4, 7, 30] (fun v s i wi => ∃ (j : Nat) (zs sf : List Int) (As : Option Addr) (cs : Nat), j ≤ (rd_T36 l k).f0.length ∧ i = .int .i64 j ∧ s = .slice As sf.length cs ∧ Aside0 (zs ++ (wbytes ((rd_T36 l k).f0.drop j) j sf ++ writeL (l.drop (k + 1)) (k + 1)) = writeL l 0) ∧ Aside0 (zs.length ≤ 181 * k + 1 + 3 * j) ∧ Aside0 (sf.length ≤ cs) ∧ Aside0 ((Kd.int .i64).C w As sf.length sf) ∧ Aside0 ((Kd.int .u8).R 5 wi w.heap.size (fun _ => True) v zs) ∧ Aside0 (Below w.heap.size w wi)) (fun _ _ i _ => (rd_T36 l k).f0.length - (intOf i).toNat)
        case atStart => exact ⟨0, ys, (rd_T36 l k).f1, A1, c1, Nat.zero_le _, rfl, rfl, hsum, ⟨by have := hlen.out; omega⟩, HL1, HI1, HO, HB⟩
        case round =>
          clear hsum HO HB hlen HL1 HI1
          obtain ⟨j, zs, sf, As, cs, hj, rfl, rfl, hsum, hlen, HLs, HIs, HO, HB⟩ := hrel
          by_cases hjl : j < (rd_T36 l k).f0.length
          · obtain ⟨adc, rfl, hcc⟩ := Kd.at_int HI0.out (j : Int) (by omega) (by omega)
            replace hcc := (HB.out.cell (World.block_lt_of_cell? w _ hcc)).trans hcc
            rw [Int.toNat_natCast] at hcc
            have hs := Aside0.mk (drop_rd (rd_T36 l k).f0 j hjl ▸ hsum.out)
            clear hsum
            have hw60 := hwl.out
            go_upto_region 13 with (fail)
            go_cut [44] (fun v wx => v = .bool (sf.head? == some (j : Int)) ∧ wr = wx)
            case first =>
              cases sf with
              | nil =>
                go_wp2
                go_meet
                exact ⟨rfl, rfl⟩
              | cons s0 sr =>
                obtain ⟨ads, rfl, hcs⟩ := Kd.at_int HIs.out 0 (by omega) (by simp)
                replace hcs := (HB.out.cell (World.block_lt_of_cell? w _ hcs)).trans hcs
                have hcs' : wr.cell? ads = some (.int .i64 s0) := by simpa [rd, Addr.add] using hcs
                clear hcs
                have hp : (0 : Int) < ((s0 :: sr).length : Int) := by simp
                go_wp2
                go_meet
                exact ⟨by simp, rfl⟩
            case rest =>
              obtain ⟨rfl, rfl⟩ := hcut
              go_upto_if 44 with (fail)
              go_cut [4, 7] (fun v s wx => ∃ (zs1 sf1 : List Int) (As1 : Option Addr) (cs1 : Nat), s = .slice As1 sf1.length cs1 ∧ Aside0 (zs1 ++ ((rd (rd_T36 l k).f0 j % 256) :: wbytes ((rd_T36 l k).f0.drop (j + 1)) (j + 1) sf1 ++ writeL (l.drop (k + 1)) (k + 1)) = writeL l 0) ∧ Aside0 (zs1.length ≤ 181 * k + 1 + 3 * j + 2) ∧ Aside0 (sf1.length ≤ cs1) ∧ Aside0 ((Kd.int .i64).C w As1 sf1.length sf1) ∧ Aside0 ((Kd.int .u8).R 5 wx w.heap.size (fun _ => True) v zs1) ∧ Aside0 (Below w.heap.size w wx))
              case first =>
                by_cases hh : sf.head? = some (j : Int)
                · have hh1 : (sf.head? == some (j : Int)) = true := by simpa using hh
                  rw [hh1]
                  clear hh1
                  have hn1 : 1 ≤ sf.length := by
                    cases sf with
                    | nil => simp at hh
                    | cons a b => simp
                  have HH := Aside0.mk hh
                  obtain ⟨A', hcut, hcr⟩ := cut1 As sf.length cs hn1
                  have HC1 := Aside0.mk (hcr w _ HLs.out HIs.out)
                  clear hcr hh
                  go_upto_region 14 with (fail)
                  have HO1 := Aside0.mk (Kd.R_drew HO.out)
                  have HB1 := Aside0.mk (HB.out.drew)
                  refine start_ (n := 7) (S := fun _ => True) (ds := []) #[false, false, false, false, false, false, false] (by kernel_rfl) rfl rfl trivial (fun _ => ?_)
                  generalize wr.drew = wd at HO1 HB1 ⊢
                  refine pure_ (i := 0) (N := some 45) (v := ?_) (a' := ?_) #[true, false, false, false, false, false, false] rfl rfl (by kernel_rfl) (fun _ _ _ h => h) (Or.inl ⟨by rfl, ?_⟩) ?_ ?_
                  rotate_left
                  · intro w'
                    go_simp
                    with_reducible rfl
                  rotate_left
                  · simp only [Act.put, List.setIfInBounds_toArray, List.set_cons_zero, List.set_cons_succ, i64_w, i32_w]
                    rfl
                  refine pure_ (i := 3) (N := some 48) (v := ?_) (a' := ?_) #[true, false, false, true, false, false, false] rfl rfl (by kernel_rfl) (fun _ _ _ h => h) (Or.inl ⟨by rfl, ?_⟩) ?_ ?_
                  rotate_left
                  · intro w'
                    go_simp
                    with_reducible rfl
                  rotate_left
                  · simp only [Act.put, List.setIfInBounds_toArray, List.set_cons_zero, List.set_cons_succ, i64_w, i32_w]
                    rfl
                  refine pure_ (i := 4) (N := some 49) (v := ?_) (a' := ?_) #[true, false, false, true, true, false, false] rfl rfl (by kernel_rfl) (fun _ _ _ h => h) (Or.inl ⟨by rfl, ?_⟩) ?_ ?_
                  rotate_left
                  · intro w'
                    go_simp
                    with_reducible rfl
                  rotate_left
                  · simp only [Act.put, List.setIfInBounds_toArray, List.set_cons_zero, List.set_cons_succ, i64_w, i32_w]
                    rfl
                  refine one_ (i := 1) (N := some 46) #[true, true, false, true, true, false, false] rfl rfl (by kernel_rfl) (by decide) (fun K hK => ?_)
                  refine Kd.R_lit_step (Kd.int .u8) (w0 := wd) wd.heap.size 5 (by rfl) (N := 46) rfl (xs := ([194, 173] : List Int)) (inner := [.int .u8 194, .int .u8 173]) (ok := fun _ => True) (okp := fun _ => True) ?hr ?hp (fun _ hk => hk) trivial (Below.refl _ _) (Nat.le_refl _) (by simp) ?_
                  case hr => first | (go_simp; done) | (go_simp; rfl)
                  case hp => exact (Reps.one (show Kd.M (Kd.int .u8) _ _ _ 194 [.int .u8 194] from rfl) (Reps.one (show Kd.M (Kd.int .u8) _ _ _ 173 [.int .u8 173] from rfl) (Reps.none _ _)))
                  intro v46 w10 ho46 hb46 _ _
                  obtain ⟨A46, c46, rfl, hl46, hr46⟩ := Kd.R_reads ho46
                  have HO2 := Aside0.mk (Kd.R_below HO1.out hb46)
                  have HB2 := Aside0.mk (below_then HB1.out HB1.out.size hb46)
                  have HR46 := Aside0.mk hr46
                  refine hK.out _ _ trivial (fun _ => ?_)
                  clear hK K
                  refine norm_ (a' := ?_) ?_ ?_
                  rotate_left
                  · show Act.put _ (some 46) _ = _
                    simp only [Act.put, List.setIfInBounds_toArray, List.set_cons_zero, List.set_cons_succ, i64_w, i32_w]
                    rfl
                  refine one_ (i := 2) (N := some 47) #[true, true, true, true, true, false, false] rfl rfl (by kernel_rfl) (by decide) (fun K hK => ?_)
                  refine Kd.R_append_rows_step (Kd.int .u8) (w0 := w) w.heap.size (by rfl) (.tmp 45) (.tmp 46) 22 5 (.int .u8 0) 1 rfl Try.underlying22 info5 rfl (by decide) (by omega) _ zs [194, 173] A46 2 c46 (fun _ => True) (fun _ => False) rfl rfl HO2.out HR46.out (fun _ _ h => h) (fun _ hk => hk.elim) (fun _ _ => trivial) HB2.out HB2.out.size (by have := hlen.out; omega) ?_
                  intro v47 w11 ho47 hb47 _ _
                  have HO3 := Aside0.mk ho47
                  have HB3 := Aside0.mk hb47
                  refine hK.out _ _ trivial (fun _ => ?_)
                  clear hK K
                  refine norm_ (a' := ?_) ?_ ?_
                  rotate_left
                  · show Act.put _ (some 47) _ = _
                    simp only [Act.put, List.setIfInBounds_toArray, List.set_cons_zero, List.set_cons_succ, i64_w, i32_w]
                    rfl
                  refine pure_ (i := 5) (N := some 4) (v := ?_) (a' := ?_) #[true, true, true, true, true, true, false] rfl rfl (by kernel_rfl) (fun _ _ _ h => h) (Or.inl ⟨by rfl, ?_⟩) ?_ ?_
                  rotate_left
                  · intro w'
                    go_simp
                    with_reducible rfl
                  rotate_left
                  · simp only [Act.put, List.setIfInBounds_toArray, List.set_cons_zero, List.set_cons_succ, i64_w, i32_w]
                    rfl
                  refine pure_ (i := 6) (N := some 7) (v := ?_) (a' := ?_) #[true, true, true, true, true, true, true] rfl rfl (by kernel_rfl) (fun _ _ _ h => h) (Or.inl ⟨by rfl, ?_⟩) ?_ ?_
                  rotate_left
                  · intro w'
                    go_simp
                    with_reducible rfl
                  rotate_left
                  · simp only [Act.put, List.setIfInBounds_toArray, List.set_cons_zero, List.set_cons_succ, i64_w, i32_w]
                    rfl
                  refine done_ (by kernel_rfl) ?_
                  go_wp2
                  go_meet
                  have hln : (sf.drop 1).length = sf.length - 1 := by simp
                  exact ⟨zs ++ [194, 173], sf.drop 1, A', cs - 1, by rw [hln], ⟨by
                    have := hs.out
                    rw [wbytes, if_pos HH.out] at this
                    simpa using this⟩, ⟨by have := hlen.out; simp; omega⟩, ⟨by have := HLs.out; omega⟩, ⟨hln ▸ HC1.out⟩, HO3, HB3⟩
                · have hh1 : (sf.head? == some (j : Int)) = false := by simpa using hh
                  rw [hh1]
                  clear hh1
                  have HH := Aside0.mk hh
                  clear hh
                  go_wp2
                  go_meet
                  exact ⟨zs, sf, As, cs, rfl, ⟨by
                    have := hs.out
                    rw [wbytes, if_neg HH.out] at this
                    simpa using this⟩, ⟨by have := hlen.out; omega⟩, HLs, HIs, HO, HB⟩
              case rest =>
                clear hs hlen HO HB HLs HIs
                obtain ⟨zs1, sf1, As1, cs1, rfl, hs, hlen, HLs, HIs, HO, HB⟩ := hcut
                go_wp2_with (at_builtin; refine app1 (w := w) rfl (.tmp 50) (.tmp 53) rfl _ zs1 (rd (rd_T36 l k).f0 j % 256) rfl ?hx HO.out HB.out ?hl ?_; (case hx => simp [Act.eval]); (case hl => have := hlen.out; have := hwl.out; omega); intro v1 w1 h1 h2 h3; have HO1 := Aside0.mk h1; have HB1 := Aside0.mk h2; clear h1 h2 h3)
                go_roundw
                case rel => exact ⟨j + 1, zs1 ++ [rd (rd_T36 l k).f0 j % 256], sf1, As1, cs1, by omega, by go_num, rfl, ⟨by have := hs.out; simpa using this⟩, ⟨by have := hlen.out; simp; omega⟩, HLs, HIs, HO1, HB1⟩
                case measure => simp [intOf]; omega
          · have hd : (rd_T36 l k).f0.drop j = [] := List.drop_eq_nil_of_le (by omega)
            have hs := Aside0.mk (show zs ++ writeL (l.drop (k + 1)) (k + 1) = writeL l 0 by have := hsum.out; rw [hd] at this; simpa [wbytes] using this)
            clear hd hsum
            go_wp2
            go_roundw
            case rel => exact ⟨k + 1, zs, by omega, by go_num, hs, ⟨by have := hlen.out; have := hwl.out; omega⟩, HO, HB⟩
            case measure => simp [intOf]; omega
    · have hsum' : Aside0 (xs = writeL l 0) := ⟨by have := hsum.out; rwa [List.drop_eq_nil_of_le (by omega), writeL, List.append_nil] at this⟩
      obtain ⟨Ao, co, eo⟩ := Kd.R_slice HO.out
      subst eo
      go_wp2
      go_ret2
      exact ⟨_, rfl, hsum'.out ▸ HO.out, HB.out⟩

theorem text_Write.calls (A0 : Option Addr) (c0 : Nat) (l0 : List S36) (r1 : List Int) (r2 : Int) (w : World) (hr0 : Kd.C k36 w A0 l0.length l0) (hc0 : l0.length ≤ c0) (h : text_Write.f l0 = some (r1, r2)) :
    Calls Try.prog 15 #[.slice A0 l0.length c0] w fun e w' => ∃ v0_ : Value, e = .returned (.tuple #[v0_, .int .i64 r2]) ∧ Kd.R (Kd.int .u8) 5 w' w.heap.size (fun _ => True) v0_ r1 ∧ Below w.heap.size w w' := by
  unfold text_Write.f at h
  by_cases hok : checkB l0 = true
  · rw [if_pos hok] at h
    obtain ⟨rfl, rfl⟩ := Prod.mk.inj (Option.some.inj h)
    exact write_yes _ _ _ _ hr0 hok
  · rw [if_neg hok] at h
    obtain ⟨rfl, rfl⟩ := Prod.mk.inj (Option.some.inj h)
    exact (write_no _ _ _ _ hr0 (Bool.eq_false_iff.2 hok)).mono fun e w' ⟨he, hb⟩ => ⟨_, he, Kd.R_nil _ _ _ _ _, hb⟩

end Go.Proofs.Ytnhalfkkamepgaa.Q
