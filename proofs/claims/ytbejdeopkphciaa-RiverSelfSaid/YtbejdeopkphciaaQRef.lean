/- The document's own gaps and count: contracts. -/
import Derived.Test.YtbejdeopkphciaaQCount
namespace Go.Proofs.Ytbejdeopkphciaa.Q
open Go.RowKit Go.Shelf Go.Proofs.YtbejdeopkphciaaW.PrintWords Go.Proofs.YtbejdeopkphciaaW.PrintLast Go.Proofs.YtbejdeopkphciaaW.PrintMore
attribute [local go_sem] max2_int min2_int max_two min_two
set_option linter.unusedVariables false
set_option linter.unusedSimpArgs false

theorem wpList_append_run {P : Program} {w w1 : World} {ops : Array Oper} {rest : List Oper} {o : Oper} {a : Act} {Q : Exit → Act → World → Prop} {v1 vs vx : Value} {t : TypeId}
    (hg : o.guard = none) (s x : Operand) (hop : o.op = Op.call { callee := Callee.builtin Builtin.append, args := #[s, x], argTypes := #[t, t] }) (hs : a.eval s = vs) (hx : a.eval x = vx) (hrun : (Builtin.append_ #[t, t] o.type #[vs, vx]).run P w = .ok v1 w1)
    (hK : wpList P ops Q rest (a.put o.dst v1) w1) : wpList P ops Q (o :: rest) a w := by
  refine wpList_plain hg fun K hK' => ?_
  unfold Oper.wp execOp
  simp [hop, resolve, invoke, builtin, hs, hx, hrun, Result.andThen]
  exact hK' _ _ hK

/-- A row's gaps, the first one first. -/
def refG : List S33 → Int → List S33
  | [], _ => []
  | p :: ps, en => (if p.f0 = 32 then [⟨p.f1, (ps.head?.map (·.f1)).getD en⟩] else []) ++ refG ps en
theorem refG_len (xs : List S33) (en : Int) : (refG xs en).length ≤ xs.length := by
  induction xs with
  | nil => exact Nat.le_refl _
  | cons p ps ih => rw [refG]; split <;> simp <;> omega
theorem drop_at (xs : List S33) (k : Nat) (h : k < xs.length) : xs.drop k = rd_T33 xs k :: xs.drop (k + 1) := by
  rw [List.drop_eq_getElem_cons h]
  simp [rd_T33, List.getD_eq_getElem?_getD, h]

set_option maxHeartbeats 4000000 in
theorem ref_Gaps.any (lv kd en df : Int) (A : Option Addr) (cap : Nat) (xs : List S33) (w : World) (hx : Kd.C k33 w A xs.length xs) (hcap : xs.length ≤ cap) (hxl : xs.length ≤ 1000000) :
    Calls Try.prog 11 #[.agg (rowC lv kd en df A xs.length cap)] w fun e w' => ∃ v, e = .returned v ∧ k33.R 36 w' w.heap.size (fun _ => True) v (refG xs en) ∧ Below w.heap.size w w' := by
  have HX := Aside0.mk hx
  clear hx
  unfold rowC
  go_enter Try.func11, Try.ntmps11
  go_wp2
  obtain ⟨M, hM⟩ : ∃ M, w.heap.size = M := ⟨_, rfl⟩
  obtain ⟨W0, hW0⟩ : ∃ W0, w.alloc (.cells #[.int .i64 lv, .int .i64 kd, .int .i64 en, .int .i64 df, .slice A xs.length cap] 24) = W0 := ⟨_, rfl⟩
  have hbx : Aside0 (W0.heap[M]? = some (.cells #[.int .i64 lv, .int .i64 kd, .int .i64 en, .int .i64 df, .slice A xs.length cap] 24 (0, 0))) := ⟨by rw [← hW0, ← hM]; exact blk_new _ _⟩
  have hb0 : Aside0 (Below M w W0) := ⟨by rw [← hW0, ← hM]; exact (Below.refl _ _).alloc (Nat.le_refl _) _⟩
  rw [hW0]
  simp only [hM]
  clear hW0
  go_loopw [3, 4] (fun s3 s4 wr => ∃ (k : Nat) (out : List S33), k ≤ xs.length ∧ s4 = .int .i64 k ∧ Aside0 (out ++ refG (xs.drop k) en = refG xs en) ∧ Aside0 (out.length ≤ k) ∧ Aside0 (wr.heap[M]? = some (.cells #[.int .i64 lv, .int .i64 kd, .int .i64 en, .int .i64 df, .slice A xs.length cap] 24 (0, 0))) ∧ Aside0 (k33.R 36 wr M (fun _ => True) s3 out) ∧ Aside0 (Below M w wr))
    (fun _ s4 _ => xs.length - (intOf s4).toNat)
  case atStart => exact ⟨0, [], Nat.zero_le _, rfl, ⟨rfl⟩, ⟨Nat.le_refl _⟩, hbx, ⟨Kd.R_nil _ _ _ _ _⟩, hb0⟩
  case round =>
    obtain ⟨k, out, hk, rfl, HE, HL, HBX, HR, HB⟩ := hrel
    have cM2 : wr.cell? ⟨M, 2, none⟩ = some (.int .i64 en) := (blk_cell HBX.out 2).trans rfl
    have cM4 : wr.cell? ⟨M, 4, none⟩ = some (.slice A xs.length cap) := (blk_cell HBX.out 4).trans rfl
    by_cases hlt : k < xs.length
    · obtain ⟨ad, hA, q0, q1⟩ := at_T33 (Kd.C_below HX.out (by rw [hM]; exact HB.out)) (k : Int) (by omega) (by omega)
      subst hA
      rw [Int.toNat_natCast] at q0 q1
      by_cases hc : (rd_T33 xs k).f0 = 32
      · have HC := Aside0.mk hc
        rw [hc] at q0
        clear hc
        by_cases hlt2 : k + 1 < xs.length
        · obtain ⟨ad', hA', q2, q3⟩ := at_T33 (Kd.C_below HX.out (by rw [hM]; exact HB.out)) ((k : Int) + 1) (by omega) (by omega)
          injection hA' with hA'
          subst hA'
          rw [show ((k : Int) + 1).toNat = k + 1 from by omega] at q2 q3
          have HHD : Aside0 (((xs.drop (k + 1)).head?.map (·.f1)).getD en = (rd_T33 xs ((k : Int) + 1)).f1) := ⟨by
            rw [drop_at xs (k + 1) hlt2, show ((k + 1 : Nat) : Int) = (k : Int) + 1 from by omega]; rfl⟩
          obtain ⟨A0, c0, e0⟩ := Kd.R_slice HR.out
          subst e0
          obtain ⟨v1, w1, hrun, hR1, hB1, hg1, hat1⟩ := R_append_run (P := Try.prog) k33 (w0 := wr) (W := wr) M 28 28 36 (.agg #[.int .i64 0, .int .i64 0]) 16 Try.underlying28 info36 rfl (by decide) (by omega) (.slice A0 out.length c0) out ⟨(rd_T33 xs k).f1, (rd_T33 xs ((k : Int) + 1)).f1⟩ [.int .i64 (rd_T33 xs k).f1, .int .i64 (rd_T33 xs ((k : Int) + 1)).f1] (fun _ => True) (fun _ => False)
            (k33_mkM _ _ _ ⟨_, _⟩) (fun k hk => hk.elim) (fun _ _ => trivial) HR.out (Below.refl _ _) (by have := blk_lt HBX.out; omega) (by have := HL.out; omega)
          change Sem.run Try.prog (Builtin.append_ #[28, 28] 28 #[.slice A0 out.length c0, .slice (some ⟨wr.heap.size, 0, none⟩) 1 1]) (wr.alloc (.cells #[.int .i64 (rd_T33 xs k).f1, .int .i64 (rd_T33 xs ((k : Int) + 1)).f1] 36)) = .ok v1 w1 at hrun
          have HRUN := Aside0.mk hrun
          have HR1 := Aside0.mk hR1
          have HBX1 : Aside0 (w1.heap[M]? = some (.cells #[.int .i64 lv, .int .i64 kd, .int .i64 en, .int .i64 df, .slice (some ad) xs.length cap] 24 (0, 0))) := ⟨(hg1.block M (blk_lt HBX.out) (fun e => by
            obtain ⟨cs, hc⟩ := Kd.R_typed HR.out M e.symm
            rw [HBX.out] at hc
            cases hc)).trans HBX.out⟩
          have HB1 := Aside0.mk (HB.out.trans hB1)
          have HE1 : Aside0 ((out ++ [⟨(rd_T33 xs k).f1, (rd_T33 xs ((k : Int) + 1)).f1⟩]) ++ refG (xs.drop (k + 1)) en = refG xs en) := ⟨by
            have := HE.out
            rw [drop_at xs k hlt, refG, if_pos HC.out, HHD.out] at this
            rw [List.append_assoc]
            exact this⟩
          clear hrun hR1 hB1 hg1 hat1 HR HBX HB HE
          go_wp2_with (at_builtin; refine wpList_append_run rfl (.tmp 35) (.tmp 44) rfl rfl rfl HRUN.out ?_; simp only [Act.put, List.setIfInBounds_toArray, List.set_cons_zero, List.set_cons_succ])
          go_roundw
          case rel => exact ⟨k + 1, _, by omega, by go_num, HE1, ⟨by have := HL.out; simp; omega⟩, HBX1, HR1, HB1⟩
          case measure => simp [intOf]; omega
        · have HHD : Aside0 (((xs.drop (k + 1)).head?.map (·.f1)).getD en = en) := ⟨by rw [List.drop_eq_nil_of_le (by omega)]; rfl⟩
          obtain ⟨A0, c0, e0⟩ := Kd.R_slice HR.out
          subst e0
          obtain ⟨v1, w1, hrun, hR1, hB1, hg1, hat1⟩ := R_append_run (P := Try.prog) k33 (w0 := wr) (W := wr) M 28 28 36 (.agg #[.int .i64 0, .int .i64 0]) 16 Try.underlying28 info36 rfl (by decide) (by omega) (.slice A0 out.length c0) out ⟨(rd_T33 xs k).f1, en⟩ [.int .i64 (rd_T33 xs k).f1, .int .i64 en] (fun _ => True) (fun _ => False)
            (k33_mkM _ _ _ ⟨_, _⟩) (fun k hk => hk.elim) (fun _ _ => trivial) HR.out (Below.refl _ _) (by have := blk_lt HBX.out; omega) (by have := HL.out; omega)
          change Sem.run Try.prog (Builtin.append_ #[28, 28] 28 #[.slice A0 out.length c0, .slice (some ⟨wr.heap.size, 0, none⟩) 1 1]) (wr.alloc (.cells #[.int .i64 (rd_T33 xs k).f1, .int .i64 en] 36)) = .ok v1 w1 at hrun
          have HRUN := Aside0.mk hrun
          have HR1 := Aside0.mk hR1
          have HBX1 : Aside0 (w1.heap[M]? = some (.cells #[.int .i64 lv, .int .i64 kd, .int .i64 en, .int .i64 df, .slice (some ad) xs.length cap] 24 (0, 0))) := ⟨(hg1.block M (blk_lt HBX.out) (fun e => by
            obtain ⟨cs, hc⟩ := Kd.R_typed HR.out M e.symm
            rw [HBX.out] at hc
            cases hc)).trans HBX.out⟩
          have HB1 := Aside0.mk (HB.out.trans hB1)
          have HE1 : Aside0 ((out ++ [⟨(rd_T33 xs k).f1, en⟩]) ++ refG (xs.drop (k + 1)) en = refG xs en) := ⟨by
            have := HE.out
            rw [drop_at xs k hlt, refG, if_pos HC.out, HHD.out] at this
            rw [List.append_assoc]
            exact this⟩
          clear hrun hR1 hB1 hg1 hat1 HR HBX HB HE
          go_wp2_with (at_builtin; refine wpList_append_run rfl (.tmp 35) (.tmp 44) rfl rfl rfl HRUN.out ?_; simp only [Act.put, List.setIfInBounds_toArray, List.set_cons_zero, List.set_cons_succ])
          go_roundw
          case rel => exact ⟨k + 1, _, by omega, by go_num, HE1, ⟨by have := HL.out; simp; omega⟩, HBX1, HR1, HB1⟩
          case measure => simp [intOf]; omega
      · have hb := bne_iff_ne.2 hc
        have HC := Aside0.mk hc
        clear hc
        have HE1 : Aside0 (out ++ refG (xs.drop (k + 1)) en = refG xs en) := ⟨by
          have := HE.out
          rw [drop_at xs k hlt, refG, if_neg HC.out] at this
          exact this⟩
        clear HE
        go_wp2
        exact ⟨⟨k + 1, out, by omega, by go_num, HE1, ⟨by have := HL.out; omega⟩, HBX, HR, HB⟩, by simp [intOf]; omega⟩
    · go_wp2
      go_ret
      obtain ⟨A0, c0, e0⟩ := Kd.R_slice HR.out
      refine ⟨_, rfl, ?_, by rw [hM]; exact HB.out⟩
      have := HE.out
      rw [List.drop_eq_nil_of_le (by omega), refG, List.append_nil] at this
      rw [hM, ← this]
      exact HR.out
end Go.Proofs.Ytbejdeopkphciaa.Q
