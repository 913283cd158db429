/- RiverSelf: the walk. -/
import Derived.Test.YtbejdeopkphciaaQAwake
import Derived.Test.YtbejdeopkphciaaQPlS
namespace Go.Proofs.Ytbejdeopkphciaa.Q
open Go.RowKit Go.Shelf Go.Proofs.YtbejdeopkphciaaW.PrintWords Go.Proofs.YtbejdeopkphciaaW.PrintLast Go.Proofs.YtbejdeopkphciaaW.PrintMore
set_option linter.unusedVariables false
set_option linter.unusedSimpArgs false

theorem info33 : (Try.prog.info? 33).map (fun i => (i.zero, i.size, i.bytes)) = some (some (.agg #[.int .i64 0, .int .i64 0]), 2, 16) := by kernel_rfl

theorem pairs_nil (xs : List S33) : pairsN xs [] = 0 := by
  unfold pairsN
  induction xs with
  | nil => rfl
  | cons x xs ih => simpa using ih

/-- Behind the loop: the row's box, and the row without gaps. -/
def SelfEnd (Rb g : Nat) (en : Int) (A0 : Option Addr) (n c0 : Nat) (W : World) : Prop := W.heap[Rb]? = some (.cells #[.int .i64 0, .int .i64 0, .int .i64 en, .int .i64 0, .slice A0 n c0] 24 (0, 0)) ∧ W.heap[g]? = some (.cells #[.int .i64 97, .int .i64 0] 33 (0, 0)) ∧ W.heap[g + 1]? = some (.cells #[.int .i64 0, .int .i64 0, .int .i64 en, .int .i64 0, .slice (some ⟨g, 0, none⟩) 1 1] 24 (0, 0))
theorem end_below {w W W' : World} {M Rb g : Nat} {en : Int} {A0 : Option Addr} {n c0 : Nat} (h : SelfEnd Rb g en A0 n c0 W ∧ Below M w W) (hb : Below W.heap.size W W') (hM : M ≤ Rb) : SelfEnd Rb g en A0 n c0 W' ∧ Below M w W' :=
  ⟨⟨blk_below h.1.1 hb, blk_below h.1.2.1 hb, blk_below h.1.2.2 hb⟩, h.2.trans (hb.mono (by have := blk_lt h.1.1; omega))⟩
theorem one_lit {W : World} {g : Nat} (h : W.heap[g]? = some (.cells #[.int .i64 97, .int .i64 0] 33 (0, 0))) : Kd.C k33 W (some ⟨g, 0, none⟩) ([⟨97, 0⟩] : List S33).length [⟨97, 0⟩] := C_lit h (by decide) (fun j p hj => by
  match j, hj with
  | 0, hj => cases hj; exact ⟨rfl, rfl⟩
  | n + 1, hj => cases hj)

/-- The row's box. -/
def SelfAt (w : World) (M Rb : Nat) (e : Int) (its : List S33) (v : Value) (W : World) : Prop := W.heap[Rb]? = some (.cells #[.int .i64 0, .int .i64 0, .int .i64 e, .int .i64 0, v] 24 (0, 0)) ∧ k33.R 33 W M (fun _ => True) v its ∧ Below M w W
theorem SelfAt.app {w W w1 : World} {M Rb : Nat} {e : Int} {its its1 : List S33} {v v1 : Value} (h : SelfAt w M Rb e its v W) (hM : M ≤ Rb) (hR : k33.R 33 w1 M (fun _ => True) v1 its1) (hB : Below M W w1) (hg : W.grownBy w1 v.ownBlock) : SelfAt w M Rb e its1 v1 (w1.setCell ⟨Rb, 4, none⟩ v1) ∧ w1.heap[Rb]? = some (.cells #[.int .i64 0, .int .i64 0, .int .i64 e, .int .i64 0, v] 24 (0, 0)) := by
  obtain ⟨h1, h2, h3⟩ := h
  have h4 : w1.heap[Rb]? = some (.cells #[.int .i64 0, .int .i64 0, .int .i64 e, .int .i64 0, v] 24 (0, 0)) := (hg.block Rb (blk_lt h1) (fun e0 => by
    obtain ⟨cs, hc⟩ := Kd.R_typed h2 Rb e0.symm
    rw [h1] at hc
    cases hc)).trans h1
  refine ⟨⟨blk_put h4 4 v1 rfl, ?_, (h3.trans hB).setCell (p := ⟨Rb, 4, none⟩) hM _⟩, h4⟩
  exact Kd.R_set hR h4 (by decide) 4 v1
theorem SelfAt.fin {w W : World} {M Rb : Nat} {e : Int} {its : List S33} {v : Value} (h : SelfAt w M Rb e its v W) (hM : M ≤ Rb) (e1 : Int) : SelfAt w M Rb e1 its v (W.setCell ⟨Rb, 2, none⟩ (.int .i64 e1)) := by
  obtain ⟨h1, h2, h3⟩ := h
  exact ⟨blk_put h1 2 _ rfl, Kd.R_set h2 h1 (by decide) 2 _, h3.setCell (p := ⟨Rb, 2, none⟩) hM _⟩

set_option maxHeartbeats 8000000 in
theorem self_any (A B : Option Addr) (ca cb : Nat) (l ws : List Int) (w : World) (hx : Kd.C (Kd.int .u8) w A l.length l) (hy : Kd.C (Kd.int .u8) w B ws.length ws) (hca : l.length ≤ ca) (hcb : ws.length ≤ cb) (hl : ∀ x ∈ l, 0 ≤ x ∧ x ≤ 255) (hws : ∀ x ∈ ws, 0 ≤ x ∧ x ≤ 255) :
    Calls Try.prog 5 #[.slice A l.length ca, .slice B ws.length cb] w fun e w' => e = .returned (.bool true) ∧ Below w.heap.size w w' := by
  have HX := Aside0.mk hx
  have HY := Aside0.mk hy
  have HL := Aside0.mk hl
  have HW := Aside0.mk hws
  have hxl : l.length ≤ 9223372036854775807 := hx.2.1
  have hyl : ws.length ≤ 9223372036854775807 := hy.2.1
  clear hx hy hl hws
  go_enter Try.func5, Try.ntmps5
  go_upto_region 2 with (go_at_call 7; refine (awake_any w).mono ?_; rintro e w1 ⟨rfl, hb⟩; have HB1 := Aside0.mk hb; clear hb)
  by_cases h1 : 200 < l.length
  · go_wp2
    go_ret
    exact ⟨rfl, HB1.out⟩
  · have h1' : ¬ (200 : Int) < (l.length : Int) := by omega
    by_cases h2 : ws.length < l.length
    · go_wp2
      go_ret
      exact ⟨rfl, HB1.out⟩
    · have h2' : ¬ (ws.length : Int) < (l.length : Int) := by omega
      go_wp2
      obtain ⟨M, hM⟩ : ∃ M, w.heap.size = M := ⟨_, rfl⟩
      obtain ⟨Rb, hRb⟩ : ∃ Rb, w1.heap.size = Rb := ⟨_, rfl⟩
      obtain ⟨W0, hW0⟩ : ∃ W0, w1.alloc (.cells #[.int .i64 0, .int .i64 0, .int .i64 0, .int .i64 0, .slice none 0 0] 24) = W0 := ⟨_, rfl⟩
      have hMR : M ≤ Rb := by rw [← hM, ← hRb]; exact HB1.out.size
      obtain ⟨ps, hps⟩ : ∃ ps, l.zip ws = ps := ⟨_, rfl⟩
      have hpl : ps.length = l.length := by rw [← hps, List.length_zip]; omega
      have HPS := Aside0.mk hps
      have HPW : Aside0 (∀ p ∈ ps, 0 ≤ p.2 ∧ p.2 ≤ 255) := ⟨fun p hp => by
        rw [← hps] at hp
        exact HW.out _ (List.of_mem_zip (a := p.1) (b := p.2) hp).2⟩
      have HS0 : Aside0 (SelfAt w M Rb 0 [] (.slice none 0 0) W0) := ⟨by
        rw [← hW0, ← hRb]
        exact ⟨blk_new _ _, Kd.R_nil _ _ _ _ _, by rw [← hM]; exact HB1.out.alloc HB1.out.size _⟩⟩
      rw [hW0]
      simp only [hRb]
      clear hW0 hps
      go_loopw [7, 8] (fun s7 s8 wr => ∃ (k : Nat) (its : List S33) (en nn : Int) (v : Value), k ≤ l.length ∧ s8 = .int .i64 k ∧ s7 = .int .i64 nn ∧ Aside0 (selfRow (ps.take k) = (its, en, nn)) ∧ Aside0 (SelfAt w M Rb en its v wr))
        (fun _ s8 _ => l.length - (intOf s8).toNat)
      case atStart => exact ⟨0, [], 0, 0, _, Nat.zero_le _, rfl, rfl, ⟨rfl⟩, HS0⟩
      case round =>
        clear HS0
        obtain ⟨k, its, en, nn, v, hk, rfl, rfl, HR, HS⟩ := hrel
        by_cases hlt : k < l.length
        · obtain ⟨ad, hA, ql⟩ := Kd.at_int (Kd.C_below HX.out (by rw [hM]; exact HS.out.2.2)) (k : Int) (by omega) (by omega)
          subst hA
          rw [Int.toNat_natCast] at ql
          have HIL : Aside0 (its.length = k ∧ 0 ≤ en ∧ en ≤ 255 * k ∧ 0 ≤ nn ∧ nn ≤ k) := ⟨by
            have e := selfRow_eq (ps.take k)
            rw [HR.out] at e
            injection e with e1 e
            injection e with e2 e3
            have hlen : (ps.take k).length = k := by rw [List.length_take]; omega
            obtain ⟨b1, b2, b3, b4⟩ := self_bounds (ps.take k) 0 (fun p hp => HPW.out p (List.mem_of_mem_take hp))
            rw [hlen] at b2 b4
            refine ⟨by rw [e1, mkR_length, hlen], by rw [e2]; exact b1, by rw [e2]; omega, by rw [e3]; exact b3, by rw [e3]; exact b4⟩⟩
          have hl0 : 0 ≤ rd l k ∧ rd l k ≤ 255 := by
            rw [show rd l (k : Int) = l[k] from by simp [rd, List.getD_eq_getElem?_getD, hlt]]
            exact HL.out _ (List.getElem_mem _)
          have HTK : Aside0 (selfRow (ps.take (k + 1)) = (its ++ [⟨selfCode (rd l k), en⟩], en + rd ws k, if rd l k % 2 = 0 ∧ 0 < rd ws k then nn + 1 else nn)) := ⟨by
            have hkw : k < ws.length := by omega
            have e : ps.take (k + 1) = ps.take k ++ [(rd l k, rd ws k)] := by
              have hkp : k < ps.length := by omega
              rw [List.take_add, List.drop_eq_getElem_cons hkp]
              show ps.take k ++ [ps[k]] = _
              have : ps[k] = (l[k], ws[k]) := by
                have h := HPS.out
                subst h
                exact List.getElem_zip
              rw [this]
              simp [rd, List.getD_eq_getElem?_getD, hlt, hkw]
            rw [e, selfRow_snoc, HR.out]⟩
          have hlW : k < ws.length := by omega
          obtain ⟨bd, hB, qw⟩ := Kd.at_int (Kd.C_below HY.out (by rw [hM]; exact HS.out.2.2)) (k : Int) (by omega) (by omega)
          subst hB
          rw [Int.toNat_natCast] at qw
          have hw0 : 0 ≤ rd ws k ∧ rd ws k ≤ 255 := by
            rw [show rd ws (k : Int) = ws[k] from by simp [rd, List.getD_eq_getElem?_getD, hlW]]
            exact HW.out _ (List.getElem_mem _)
          by_cases hc : rd l k % 2 = 0
          · have hb := beq_iff_eq.2 hc
            have hcode : selfCode (rd l k) = 32 := if_pos hc
            by_cases hp : 0 < rd ws k
            · rw [if_pos ⟨hc, hp⟩, hcode] at HTK
              clear hc hcode
              go_upto_region 14 with (fail)
              obtain ⟨A0, c0, e0⟩ := Kd.R_slice HS.out.2.1
              subst e0
              have r2 : wr.cell? ⟨Rb, 2, none⟩ = some (.int .i64 en) := (blk_cell HS.out.1 2).trans rfl
              have r4 : wr.cell? ⟨Rb, 4, none⟩ = some (.slice A0 its.length c0) := (blk_cell HS.out.1 4).trans rfl
              obtain ⟨v1, w2, hrun, hR1, hB1, hg1, hat1⟩ := R_append_run (P := Try.prog) k33 (w0 := wr) (W := wr) M 22 22 33 (.agg #[.int .i64 0, .int .i64 0]) 16 Try.underlying22 info33 rfl (by decide) (by omega) (.slice A0 its.length c0) its ⟨32, en⟩ [.int .i64 32, .int .i64 en] (fun _ => True) (fun _ => False)
                (k33_mkM _ _ _ ⟨32, en⟩) (fun k hk => hk.elim) (fun _ _ => trivial) HS.out.2.1 (Below.refl _ _) (by have := blk_lt HS.out.1; omega) (by have := HIL.out; omega)
              change Sem.run Try.prog (Builtin.append_ #[22, 22] 22 #[.slice A0 its.length c0, .slice (some ⟨wr.heap.size, 0, none⟩) 1 1]) (wr.alloc (.cells #[.int .i64 32, .int .i64 en] 33)) = .ok v1 w2 at hrun
              obtain ⟨hs2, hbx2⟩ := SelfAt.app HS.out hMR hR1 hB1 hg1
              obtain ⟨A1, c1, e1⟩ := Kd.R_slice hR1
              rw [List.length_append, List.length_singleton] at e1
              subst e1
              have hb4 := (blk_cell hbx2 4).trans rfl
              have hf4 := blk_frozen hbx2 4
              have HS2 := Aside0.mk hs2
              have HRUN := Aside0.mk hrun
              clear hrun hR1 hB1 hg1 hat1 hs2 hbx2 HS
              go_upto_region 15 with (at_builtin; refine wpList_append_run rfl (.tmp 44) (.tmp 49) rfl rfl rfl HRUN.out ?_; simp only [Act.put, List.setIfInBounds_toArray, List.set_cons_zero, List.set_cons_succ])
              obtain ⟨W3, hW3⟩ : ∃ W3, w2.setCell ⟨Rb, 4, none⟩ (.slice A1 (its.length + 1) c1) = W3 := ⟨_, rfl⟩
              rw [hW3] at HS2
              rw [hW3]
              clear hW3 HRUN hb4 hf4 r2 r4
              obtain ⟨wd, hwd⟩ : ∃ wd, W3.drew = wd := ⟨_, rfl⟩
              have HS3 : Aside0 (SelfAt w M Rb en (its ++ [⟨32, en⟩]) (.slice A1 (its.length + 1) c1) wd) := ⟨by rw [← hwd]; exact ⟨HS2.out.1, Kd.R_drew HS2.out.2.1, HS2.out.2.2.drew⟩⟩
              have q2 : wd.cell? ⟨Rb, 2, none⟩ = some (.int .i64 en) := (blk_cell HS3.out.1 2).trans rfl
              have f2 := blk_frozen HS3.out.1 2
              have HRW := Kd.C_below HY.out (show Below w.heap.size w wd by rw [hM]; exact HS3.out.2.2)
              obtain ⟨bd1, hB0, qw1⟩ := Kd.at_int HRW (k : Int) (by omega) (by omega)
              rw [Int.toNat_natCast] at qw1
              injection hB0 with hB0
              subst hB0
              refine start_ (n := 10) (S := fun w' => w' = wd) (ds := [9]) #[false, false, false, false, false, false, false, false, false, false] (by kernel_rfl) rfl rfl hwd (fun hHeld => ?_)
              refine take_ (i := 0) (N := some 52) (v := ?_) (a' := ?_) #[true, false, false, false, false, false, false, false, false, false] rfl rfl (by kernel_rfl) (fun _ _ _ h => h) (Or.inl ⟨by rfl, ?_⟩) hHeld ?_ ?_
              rotate_left
              · rintro w' rfl
                go_simp
                with_reducible rfl
              rotate_left
              · simp only [Act.put, List.setIfInBounds_toArray, List.set_cons_zero, List.set_cons_succ, i64_w, i32_w]
                rfl
              refine take_ (i := 1) (N := some 53) (v := ?_) (a' := ?_) #[true, true, false, false, false, false, false, false, false, false] rfl rfl (by kernel_rfl) (fun _ _ _ h => h) (Or.inl ⟨by rfl, ?_⟩) hHeld ?_ ?_
              rotate_left
              · rintro w' rfl
                go_simp
                with_reducible rfl
              rotate_left
              · simp only [Act.put, List.setIfInBounds_toArray, List.set_cons_zero, List.set_cons_succ, i64_w, i32_w]
                rfl
              refine take_ (i := 2) (N := some 54) (v := ?_) (a' := ?_) #[true, true, true, false, false, false, false, false, false, false] rfl rfl (by kernel_rfl) (fun _ _ _ h => h) (Or.inl ⟨by rfl, ?_⟩) hHeld ?_ ?_
              rotate_left
              · rintro w' rfl
                go_simp
                with_reducible rfl
              rotate_left
              · simp only [Act.put, List.setIfInBounds_toArray, List.set_cons_zero, List.set_cons_succ, i64_w, i32_w]
                rfl
              refine take_ (i := 3) (N := some 55) (v := ?_) (a' := ?_) #[true, true, true, true, false, false, false, false, false, false] rfl rfl (by kernel_rfl) (fun _ _ _ h => h) (Or.inl ⟨by rfl, ?_⟩) hHeld ?_ ?_
              rotate_left
              · rintro w' rfl
                go_simp
                with_reducible rfl
              rotate_left
              · simp only [Act.put, List.setIfInBounds_toArray, List.set_cons_zero, List.set_cons_succ, i64_w, i32_w]
                rfl
              refine take_ (i := 4) (N := some 56) (v := ?_) (a' := ?_) #[true, true, true, true, true, false, false, false, false, false] rfl rfl (by kernel_rfl) (fun _ _ _ h => h) (Or.inl ⟨by rfl, ?_⟩) hHeld ?_ ?_
              rotate_left
              · rintro w' rfl
                go_simp
                with_reducible rfl
              rotate_left
              · simp only [Act.put, List.setIfInBounds_toArray, List.set_cons_zero, List.set_cons_succ, i64_w, i32_w]
                rfl
              refine take_ (i := 5) (N := some 57) (v := ?_) (a' := ?_) #[true, true, true, true, true, true, false, false, false, false] rfl rfl (by kernel_rfl) (fun _ _ _ h => h) (Or.inl ⟨by rfl, ?_⟩) hHeld ?_ ?_
              rotate_left
              · rintro w' rfl
                go_simp
                with_reducible rfl
              rotate_left
              · simp only [Act.put, List.setIfInBounds_toArray, List.set_cons_zero, List.set_cons_succ, i64_w, i32_w]
                rfl
              refine take_ (i := 6) (N := some 58) (v := ?_) (a' := ?_) #[true, true, true, true, true, true, true, false, false, false] rfl rfl (by kernel_rfl) (fun _ _ _ h => h) (Or.inl ⟨by rfl, ?_⟩) hHeld ?_ ?_
              rotate_left
              · rintro w' rfl
                go_simp
                with_reducible rfl
              rotate_left
              · simp only [Act.put, List.setIfInBounds_toArray, List.set_cons_zero, List.set_cons_succ, i64_w, i32_w]
                rfl
              refine take_ (i := 7) (N := some 59) (v := ?_) (a' := ?_) #[true, true, true, true, true, true, true, true, false, false] rfl rfl (by kernel_rfl) (fun _ _ _ h => h) (Or.inl ⟨by rfl, ?_⟩) hHeld ?_ ?_
              rotate_left
              · rintro w' rfl
                go_simp
                with_reducible rfl
              rotate_left
              · simp only [Act.put, List.setIfInBounds_toArray, List.set_cons_zero, List.set_cons_succ, i64_w, i32_w]
                rfl
              refine take_ (i := 8) (N := some 60) (v := ?_) (a' := ?_) #[true, true, true, true, true, true, true, true, true, false] rfl rfl (by kernel_rfl) (fun _ _ _ h => h) (Or.inl ⟨by rfl, ?_⟩) hHeld ?_ ?_
              rotate_left
              · rintro w' rfl
                go_simp
                with_reducible rfl
              rotate_left
              · simp only [Act.put, List.setIfInBounds_toArray, List.set_cons_zero, List.set_cons_succ, i64_w, i32_w]
                rfl
              refine last_ (i := 9) (N := none) #[true, true, true, true, true, true, true, true, true, true] rfl rfl (by kernel_rfl) (by decide) (fun K hK => ?_)
              refine skip_ (w1 := ?_) (by rfl) rfl ?_ ?_
              rotate_left
              · go_simp
                rfl
              refine hK.out _ _ ?_
              clear hK K
              refine done_ (by kernel_rfl) ?_
              have hwv : wrap64 (en + wrap64 (rd ws k)) = en + rd ws k := by have := HIL.out; rw [w64 (x := rd ws k) (by omega) (by omega), w64 (by omega) (by omega)]
              rw [hwv]
              have HF := Aside0.mk (SelfAt.fin HS3.out hMR (en + rd ws k))
              have HN : Aside0 (wrap64 (nn + 1) = nn + 1) := ⟨by have := HIL.out; rw [w64 (by omega) (by omega)]⟩
              clear hwv HS3 HS2 q2 f2 qw1 hHeld hwd
              go_wp2
              go_roundw
              case rel => exact ⟨k + 1, _, _, nn + 1, _, by omega, by go_num, by first | rfl | rw [HN.out], HTK, HF⟩
              case measure => simp [intOf]; omega
            · rw [if_neg (fun h => hp h.2), hcode] at HTK
              clear hc hcode
              go_upto_region 14 with (fail)
              obtain ⟨A0, c0, e0⟩ := Kd.R_slice HS.out.2.1
              subst e0
              have r2 : wr.cell? ⟨Rb, 2, none⟩ = some (.int .i64 en) := (blk_cell HS.out.1 2).trans rfl
              have r4 : wr.cell? ⟨Rb, 4, none⟩ = some (.slice A0 its.length c0) := (blk_cell HS.out.1 4).trans rfl
              obtain ⟨v1, w2, hrun, hR1, hB1, hg1, hat1⟩ := R_append_run (P := Try.prog) k33 (w0 := wr) (W := wr) M 22 22 33 (.agg #[.int .i64 0, .int .i64 0]) 16 Try.underlying22 info33 rfl (by decide) (by omega) (.slice A0 its.length c0) its ⟨32, en⟩ [.int .i64 32, .int .i64 en] (fun _ => True) (fun _ => False)
                (k33_mkM _ _ _ ⟨32, en⟩) (fun k hk => hk.elim) (fun _ _ => trivial) HS.out.2.1 (Below.refl _ _) (by have := blk_lt HS.out.1; omega) (by have := HIL.out; omega)
              change Sem.run Try.prog (Builtin.append_ #[22, 22] 22 #[.slice A0 its.length c0, .slice (some ⟨wr.heap.size, 0, none⟩) 1 1]) (wr.alloc (.cells #[.int .i64 32, .int .i64 en] 33)) = .ok v1 w2 at hrun
              obtain ⟨hs2, hbx2⟩ := SelfAt.app HS.out hMR hR1 hB1 hg1
              obtain ⟨A1, c1, e1⟩ := Kd.R_slice hR1
              rw [List.length_append, List.length_singleton] at e1
              subst e1
              have hb4 := (blk_cell hbx2 4).trans rfl
              have hf4 := blk_frozen hbx2 4
              have HS2 := Aside0.mk hs2
              have HRUN := Aside0.mk hrun
              clear hrun hR1 hB1 hg1 hat1 hs2 hbx2 HS
              go_upto_region 15 with (at_builtin; refine wpList_append_run rfl (.tmp 44) (.tmp 49) rfl rfl rfl HRUN.out ?_; simp only [Act.put, List.setIfInBounds_toArray, List.set_cons_zero, List.set_cons_succ])
              obtain ⟨W3, hW3⟩ : ∃ W3, w2.setCell ⟨Rb, 4, none⟩ (.slice A1 (its.length + 1) c1) = W3 := ⟨_, rfl⟩
              rw [hW3] at HS2
              rw [hW3]
              clear hW3 HRUN hb4 hf4 r2 r4
              obtain ⟨wd, hwd⟩ : ∃ wd, W3.drew = wd := ⟨_, rfl⟩
              have HS3 : Aside0 (SelfAt w M Rb en (its ++ [⟨32, en⟩]) (.slice A1 (its.length + 1) c1) wd) := ⟨by rw [← hwd]; exact ⟨HS2.out.1, Kd.R_drew HS2.out.2.1, HS2.out.2.2.drew⟩⟩
              have q2 : wd.cell? ⟨Rb, 2, none⟩ = some (.int .i64 en) := (blk_cell HS3.out.1 2).trans rfl
              have f2 := blk_frozen HS3.out.1 2
              have HRW := Kd.C_below HY.out (show Below w.heap.size w wd by rw [hM]; exact HS3.out.2.2)
              obtain ⟨bd1, hB0, qw1⟩ := Kd.at_int HRW (k : Int) (by omega) (by omega)
              rw [Int.toNat_natCast] at qw1
              injection hB0 with hB0
              subst hB0
              refine start_ (n := 10) (S := fun w' => w' = wd) (ds := [9]) #[false, false, false, false, false, false, false, false, false, false] (by kernel_rfl) rfl rfl hwd (fun hHeld => ?_)
              refine take_ (i := 0) (N := some 52) (v := ?_) (a' := ?_) #[true, false, false, false, false, false, false, false, false, false] rfl rfl (by kernel_rfl) (fun _ _ _ h => h) (Or.inl ⟨by rfl, ?_⟩) hHeld ?_ ?_
              rotate_left
              · rintro w' rfl
                go_simp
                with_reducible rfl
              rotate_left
              · simp only [Act.put, List.setIfInBounds_toArray, List.set_cons_zero, List.set_cons_succ, i64_w, i32_w]
                rfl
              refine take_ (i := 1) (N := some 53) (v := ?_) (a' := ?_) #[true, true, false, false, false, false, false, false, false, false] rfl rfl (by kernel_rfl) (fun _ _ _ h => h) (Or.inl ⟨by rfl, ?_⟩) hHeld ?_ ?_
              rotate_left
              · rintro w' rfl
                go_simp
                with_reducible rfl
              rotate_left
              · simp only [Act.put, List.setIfInBounds_toArray, List.set_cons_zero, List.set_cons_succ, i64_w, i32_w]
                rfl
              refine take_ (i := 2) (N := some 54) (v := ?_) (a' := ?_) #[true, true, true, false, false, false, false, false, false, false] rfl rfl (by kernel_rfl) (fun _ _ _ h => h) (Or.inl ⟨by rfl, ?_⟩) hHeld ?_ ?_
              rotate_left
              · rintro w' rfl
                go_simp
                with_reducible rfl
              rotate_left
              · simp only [Act.put, List.setIfInBounds_toArray, List.set_cons_zero, List.set_cons_succ, i64_w, i32_w]
                rfl
              refine take_ (i := 3) (N := some 55) (v := ?_) (a' := ?_) #[true, true, true, true, false, false, false, false, false, false] rfl rfl (by kernel_rfl) (fun _ _ _ h => h) (Or.inl ⟨by rfl, ?_⟩) hHeld ?_ ?_
              rotate_left
              · rintro w' rfl
                go_simp
                with_reducible rfl
              rotate_left
              · simp only [Act.put, List.setIfInBounds_toArray, List.set_cons_zero, List.set_cons_succ, i64_w, i32_w]
                rfl
              refine take_ (i := 4) (N := some 56) (v := ?_) (a' := ?_) #[true, true, true, true, true, false, false, false, false, false] rfl rfl (by kernel_rfl) (fun _ _ _ h => h) (Or.inl ⟨by rfl, ?_⟩) hHeld ?_ ?_
              rotate_left
              · rintro w' rfl
                go_simp
                with_reducible rfl
              rotate_left
              · simp only [Act.put, List.setIfInBounds_toArray, List.set_cons_zero, List.set_cons_succ, i64_w, i32_w]
                rfl
              refine take_ (i := 5) (N := some 57) (v := ?_) (a' := ?_) #[true, true, true, true, true, true, false, false, false, false] rfl rfl (by kernel_rfl) (fun _ _ _ h => h) (Or.inl ⟨by rfl, ?_⟩) hHeld ?_ ?_
              rotate_left
              · rintro w' rfl
                go_simp
                with_reducible rfl
              rotate_left
              · simp only [Act.put, List.setIfInBounds_toArray, List.set_cons_zero, List.set_cons_succ, i64_w, i32_w]
                rfl
              refine take_ (i := 6) (N := some 58) (v := ?_) (a' := ?_) #[true, true, true, true, true, true, true, false, false, false] rfl rfl (by kernel_rfl) (fun _ _ _ h => h) (Or.inl ⟨by rfl, ?_⟩) hHeld ?_ ?_
              rotate_left
              · rintro w' rfl
                go_simp
                with_reducible rfl
              rotate_left
              · simp only [Act.put, List.setIfInBounds_toArray, List.set_cons_zero, List.set_cons_succ, i64_w, i32_w]
                rfl
              refine take_ (i := 7) (N := some 59) (v := ?_) (a' := ?_) #[true, true, true, true, true, true, true, true, false, false] rfl rfl (by kernel_rfl) (fun _ _ _ h => h) (Or.inl ⟨by rfl, ?_⟩) hHeld ?_ ?_
              rotate_left
              · rintro w' rfl
                go_simp
                with_reducible rfl
              rotate_left
              · simp only [Act.put, List.setIfInBounds_toArray, List.set_cons_zero, List.set_cons_succ, i64_w, i32_w]
                rfl
              refine take_ (i := 8) (N := some 60) (v := ?_) (a' := ?_) #[true, true, true, true, true, true, true, true, true, false] rfl rfl (by kernel_rfl) (fun _ _ _ h => h) (Or.inl ⟨by rfl, ?_⟩) hHeld ?_ ?_
              rotate_left
              · rintro w' rfl
                go_simp
                with_reducible rfl
              rotate_left
              · simp only [Act.put, List.setIfInBounds_toArray, List.set_cons_zero, List.set_cons_succ, i64_w, i32_w]
                rfl
              refine last_ (i := 9) (N := none) #[true, true, true, true, true, true, true, true, true, true] rfl rfl (by kernel_rfl) (by decide) (fun K hK => ?_)
              refine skip_ (w1 := ?_) (by rfl) rfl ?_ ?_
              rotate_left
              · go_simp
                rfl
              refine hK.out _ _ ?_
              clear hK K
              refine done_ (by kernel_rfl) ?_
              have hwv : wrap64 (en + wrap64 (rd ws k)) = en + rd ws k := by have := HIL.out; rw [w64 (x := rd ws k) (by omega) (by omega), w64 (by omega) (by omega)]
              rw [hwv]
              have HF := Aside0.mk (SelfAt.fin HS3.out hMR (en + rd ws k))
              have HN : Aside0 (wrap64 (nn + 1) = nn + 1) := ⟨by have := HIL.out; rw [w64 (by omega) (by omega)]⟩
              clear hwv HS3 HS2 q2 f2 qw1 hHeld hwd
              go_wp2
              go_roundw
              case rel => exact ⟨k + 1, _, _, nn, _, by omega, by go_num, by first | rfl | rw [HN.out], HTK, HF⟩
              case measure => simp [intOf]; omega
          · have hb := beq_eq_false_iff_ne.2 hc
            have hcode : selfCode (rd l k) = 97 := if_neg hc
            rw [if_neg (fun h => hc h.1), hcode] at HTK
            clear hc hcode
            go_upto_region 14 with (fail)
            obtain ⟨A0, c0, e0⟩ := Kd.R_slice HS.out.2.1
            subst e0
            have r2 : wr.cell? ⟨Rb, 2, none⟩ = some (.int .i64 en) := (blk_cell HS.out.1 2).trans rfl
            have r4 : wr.cell? ⟨Rb, 4, none⟩ = some (.slice A0 its.length c0) := (blk_cell HS.out.1 4).trans rfl
            obtain ⟨v1, w2, hrun, hR1, hB1, hg1, hat1⟩ := R_append_run (P := Try.prog) k33 (w0 := wr) (W := wr) M 22 22 33 (.agg #[.int .i64 0, .int .i64 0]) 16 Try.underlying22 info33 rfl (by decide) (by omega) (.slice A0 its.length c0) its ⟨97, en⟩ [.int .i64 97, .int .i64 en] (fun _ => True) (fun _ => False)
              (k33_mkM _ _ _ ⟨97, en⟩) (fun k hk => hk.elim) (fun _ _ => trivial) HS.out.2.1 (Below.refl _ _) (by have := blk_lt HS.out.1; omega) (by have := HIL.out; omega)
            change Sem.run Try.prog (Builtin.append_ #[22, 22] 22 #[.slice A0 its.length c0, .slice (some ⟨wr.heap.size, 0, none⟩) 1 1]) (wr.alloc (.cells #[.int .i64 97, .int .i64 en] 33)) = .ok v1 w2 at hrun
            obtain ⟨hs2, hbx2⟩ := SelfAt.app HS.out hMR hR1 hB1 hg1
            obtain ⟨A1, c1, e1⟩ := Kd.R_slice hR1
            rw [List.length_append, List.length_singleton] at e1
            subst e1
            have hb4 := (blk_cell hbx2 4).trans rfl
            have hf4 := blk_frozen hbx2 4
            have HS2 := Aside0.mk hs2
            have HRUN := Aside0.mk hrun
            clear hrun hR1 hB1 hg1 hat1 hs2 hbx2 HS
            go_upto_region 15 with (at_builtin; refine wpList_append_run rfl (.tmp 44) (.tmp 49) rfl rfl rfl HRUN.out ?_; simp only [Act.put, List.setIfInBounds_toArray, List.set_cons_zero, List.set_cons_succ])
            obtain ⟨W3, hW3⟩ : ∃ W3, w2.setCell ⟨Rb, 4, none⟩ (.slice A1 (its.length + 1) c1) = W3 := ⟨_, rfl⟩
            rw [hW3] at HS2
            rw [hW3]
            clear hW3 HRUN hb4 hf4 r2 r4
            obtain ⟨wd, hwd⟩ : ∃ wd, W3.drew = wd := ⟨_, rfl⟩
            have HS3 : Aside0 (SelfAt w M Rb en (its ++ [⟨97, en⟩]) (.slice A1 (its.length + 1) c1) wd) := ⟨by rw [← hwd]; exact ⟨HS2.out.1, Kd.R_drew HS2.out.2.1, HS2.out.2.2.drew⟩⟩
            have q2 : wd.cell? ⟨Rb, 2, none⟩ = some (.int .i64 en) := (blk_cell HS3.out.1 2).trans rfl
            have f2 := blk_frozen HS3.out.1 2
            have HRW := Kd.C_below HY.out (show Below w.heap.size w wd by rw [hM]; exact HS3.out.2.2)
            obtain ⟨bd1, hB0, qw1⟩ := Kd.at_int HRW (k : Int) (by omega) (by omega)
            rw [Int.toNat_natCast] at qw1
            injection hB0 with hB0
            subst hB0
            refine start_ (n := 10) (S := fun w' => w' = wd) (ds := [9]) #[false, false, false, false, false, false, false, false, false, false] (by kernel_rfl) rfl rfl hwd (fun hHeld => ?_)
            refine take_ (i := 0) (N := some 52) (v := ?_) (a' := ?_) #[true, false, false, false, false, false, false, false, false, false] rfl rfl (by kernel_rfl) (fun _ _ _ h => h) (Or.inl ⟨by rfl, ?_⟩) hHeld ?_ ?_
            rotate_left
            · rintro w' rfl
              go_simp
              with_reducible rfl
            rotate_left
            · simp only [Act.put, List.setIfInBounds_toArray, List.set_cons_zero, List.set_cons_succ, i64_w, i32_w]
              rfl
            refine take_ (i := 1) (N := some 53) (v := ?_) (a' := ?_) #[true, true, false, false, false, false, false, false, false, false] rfl rfl (by kernel_rfl) (fun _ _ _ h => h) (Or.inl ⟨by rfl, ?_⟩) hHeld ?_ ?_
            rotate_left
            · rintro w' rfl
              go_simp
              with_reducible rfl
            rotate_left
            · simp only [Act.put, List.setIfInBounds_toArray, List.set_cons_zero, List.set_cons_succ, i64_w, i32_w]
              rfl
            refine take_ (i := 2) (N := some 54) (v := ?_) (a' := ?_) #[true, true, true, false, false, false, false, false, false, false] rfl rfl (by kernel_rfl) (fun _ _ _ h => h) (Or.inl ⟨by rfl, ?_⟩) hHeld ?_ ?_
            rotate_left
            · rintro w' rfl
              go_simp
              with_reducible rfl
            rotate_left
            · simp only [Act.put, List.setIfInBounds_toArray, List.set_cons_zero, List.set_cons_succ, i64_w, i32_w]
              rfl
            refine take_ (i := 3) (N := some 55) (v := ?_) (a' := ?_) #[true, true, true, true, false, false, false, false, false, false] rfl rfl (by kernel_rfl) (fun _ _ _ h => h) (Or.inl ⟨by rfl, ?_⟩) hHeld ?_ ?_
            rotate_left
            · rintro w' rfl
              go_simp
              with_reducible rfl
            rotate_left
            · simp only [Act.put, List.setIfInBounds_toArray, List.set_cons_zero, List.set_cons_succ, i64_w, i32_w]
              rfl
            refine take_ (i := 4) (N := some 56) (v := ?_) (a' := ?_) #[true, true, true, true, true, false, false, false, false, false] rfl rfl (by kernel_rfl) (fun _ _ _ h => h) (Or.inl ⟨by rfl, ?_⟩) hHeld ?_ ?_
            rotate_left
            · rintro w' rfl
              go_simp
              with_reducible rfl
            rotate_left
            · simp only [Act.put, List.setIfInBounds_toArray, List.set_cons_zero, List.set_cons_succ, i64_w, i32_w]
              rfl
            refine take_ (i := 5) (N := some 57) (v := ?_) (a' := ?_) #[true, true, true, true, true, true, false, false, false, false] rfl rfl (by kernel_rfl) (fun _ _ _ h => h) (Or.inl ⟨by rfl, ?_⟩) hHeld ?_ ?_
            rotate_left
            · rintro w' rfl
              go_simp
              with_reducible rfl
            rotate_left
            · simp only [Act.put, List.setIfInBounds_toArray, List.set_cons_zero, List.set_cons_succ, i64_w, i32_w]
              rfl
            refine take_ (i := 6) (N := some 58) (v := ?_) (a' := ?_) #[true, true, true, true, true, true, true, false, false, false] rfl rfl (by kernel_rfl) (fun _ _ _ h => h) (Or.inl ⟨by rfl, ?_⟩) hHeld ?_ ?_
            rotate_left
            · rintro w' rfl
              go_simp
              with_reducible rfl
            rotate_left
            · simp only [Act.put, List.setIfInBounds_toArray, List.set_cons_zero, List.set_cons_succ, i64_w, i32_w]
              rfl
            refine take_ (i := 7) (N := some 59) (v := ?_) (a' := ?_) #[true, true, true, true, true, true, true, true, false, false] rfl rfl (by kernel_rfl) (fun _ _ _ h => h) (Or.inl ⟨by rfl, ?_⟩) hHeld ?_ ?_
            rotate_left
            · rintro w' rfl
              go_simp
              with_reducible rfl
            rotate_left
            · simp only [Act.put, List.setIfInBounds_toArray, List.set_cons_zero, List.set_cons_succ, i64_w, i32_w]
              rfl
            refine take_ (i := 8) (N := some 60) (v := ?_) (a' := ?_) #[true, true, true, true, true, true, true, true, true, false] rfl rfl (by kernel_rfl) (fun _ _ _ h => h) (Or.inl ⟨by rfl, ?_⟩) hHeld ?_ ?_
            rotate_left
            · rintro w' rfl
              go_simp
              with_reducible rfl
            rotate_left
            · simp only [Act.put, List.setIfInBounds_toArray, List.set_cons_zero, List.set_cons_succ, i64_w, i32_w]
              rfl
            refine last_ (i := 9) (N := none) #[true, true, true, true, true, true, true, true, true, true] rfl rfl (by kernel_rfl) (by decide) (fun K hK => ?_)
            refine skip_ (w1 := ?_) (by rfl) rfl ?_ ?_
            rotate_left
            · go_simp
              rfl
            refine hK.out _ _ ?_
            clear hK K
            refine done_ (by kernel_rfl) ?_
            have hwv : wrap64 (en + wrap64 (rd ws k)) = en + rd ws k := by have := HIL.out; rw [w64 (x := rd ws k) (by omega) (by omega), w64 (by omega) (by omega)]
            rw [hwv]
            have HF := Aside0.mk (SelfAt.fin HS3.out hMR (en + rd ws k))
            have HN : Aside0 (wrap64 (nn + 1) = nn + 1) := ⟨by have := HIL.out; rw [w64 (by omega) (by omega)]⟩
            clear hwv HS3 HS2 q2 f2 qw1 hHeld hwd
            go_wp2
            go_roundw
            case rel => exact ⟨k + 1, _, _, nn, _, by omega, by go_num, by first | rfl | rw [HN.out], HTK, HF⟩
            case measure => simp [intOf]; omega
        · obtain rfl : k = l.length := by omega
          rw [← hpl, List.take_length] at HR
          have HIL : Aside0 (its.length = ps.length) := ⟨by
            have e := selfRow_eq ps
            rw [HR.out] at e
            injection e with e1 e
            rw [e1, mkR_length]⟩
          have hCC : countF its en its en = nn := by
            have := self_count ps (by omega) (fun p hp => (HPW.out p hp).1)
            rw [HR.out] at this
            exact this
          have hC0 : countF its en [⟨97, 0⟩] en = 0 := by
            rw [(count_eq its [⟨97, 0⟩] en en (by have := HIL.out; omega) (by decide)).1]
            have : refG [⟨97, 0⟩] en = [] := rfl
            rw [this, pairs_nil]
            rfl
          have hG0 : gapsF [⟨97, 0⟩] en = [] := by rw [gapsF_eq]; rfl
          obtain ⟨A0, c0, e0⟩ := Kd.R_slice HS.out.2.1
          subst e0
          obtain ⟨hic, hIC⟩ := (Kd.R_reads' HS.out.2.1).2
          have HIC := Aside0.mk hIC
          clear hIC
          have r0 : wr.cell? ⟨Rb, 0, none⟩ = some (.int .i64 0) := (blk_cell HS.out.1 0).trans rfl
          have r1 : wr.cell? ⟨Rb, 1, none⟩ = some (.int .i64 0) := (blk_cell HS.out.1 1).trans rfl
          have r2 : wr.cell? ⟨Rb, 2, none⟩ = some (.int .i64 en) := (blk_cell HS.out.1 2).trans rfl
          have r3 : wr.cell? ⟨Rb, 3, none⟩ = some (.int .i64 0) := (blk_cell HS.out.1 3).trans rfl
          have r4 : wr.cell? ⟨Rb, 4, none⟩ = some (.slice A0 its.length c0) := (blk_cell HS.out.1 4).trans rfl
          go_upto_region 17 with (fail)
          obtain ⟨g, hg⟩ : ∃ g, wr.heap.size = g := ⟨_, rfl⟩
          obtain ⟨WF, hWF⟩ : ∃ WF, (wr.alloc (.cells #[.int .i64 97, .int .i64 0] 33)).alloc (.cells #[.int .i64 0, .int .i64 0, .int .i64 en, .int .i64 0, .slice (some ⟨wr.heap.size, 0, none⟩) 1 1] 24) = WF := ⟨_, rfl⟩
          have HE : Aside0 (SelfEnd Rb g en A0 its.length c0 WF ∧ Below M w WF) := ⟨by
            rw [← hWF, ← hg]
            refine ⟨⟨blk_alloc (blk_alloc HS.out.1 _) _, blk_alloc (blk_new _ _) _, ?_⟩, (HS.out.2.2.alloc (by have := blk_lt HS.out.1; omega) _).alloc (by have := blk_lt HS.out.1; simp; omega) _⟩
            have := blk_new (wr.alloc (.cells #[.int .i64 97, .int .i64 0] 33)) (.cells #[.int .i64 0, .int .i64 0, .int .i64 en, .int .i64 0, .slice (some ⟨wr.heap.size, 0, none⟩) 1 1] 24)
            rwa [World.size_alloc] at this⟩
          have HICF : Aside0 (Kd.C k33 WF A0 its.length its) := ⟨Kd.C_below HIC.out (by rw [← hWF]; exact ((Below.refl _ wr).alloc (Nat.le_refl _) _).alloc (by simp) _)⟩
          simp only [hg] at hWF ⊢
          rw [hWF]
          clear hWF HS HIC r0 r1 r2 r3 r4
          have r0 : WF.cell? ⟨Rb, 0, none⟩ = some (.int .i64 0) := (blk_cell HE.out.1.1 0).trans rfl
          have r1 : WF.cell? ⟨Rb, 1, none⟩ = some (.int .i64 0) := (blk_cell HE.out.1.1 1).trans rfl
          have r2 : WF.cell? ⟨Rb, 2, none⟩ = some (.int .i64 en) := (blk_cell HE.out.1.1 2).trans rfl
          have r3 : WF.cell? ⟨Rb, 3, none⟩ = some (.int .i64 0) := (blk_cell HE.out.1.1 3).trans rfl
          have r4 : WF.cell? ⟨Rb, 4, none⟩ = some (.slice A0 its.length c0) := (blk_cell HE.out.1.1 4).trans rfl
          go_wp2_with (first
            | (go_at_call 10; have h3 := HE2.out; clear h3; refine (river_Gaps.any 0 0 en 0 (some ⟨g, 0, none⟩) 1 [⟨97, 0⟩] u2 (one_lit HE2.out.1.2.1) (by decide) (by decide)).mono ?_; rintro e u3 ⟨A5, c5, rfl, hc5, hC5, hb⟩; rw [hG0]; have HE3 := Aside0.mk (hb); clear hC5 hb)
            | (go_at_call 12; have h3 := HE1.out; clear h3; refine (river_Count.any 0 0 en 0 A0 c0 its 0 0 en 0 (some ⟨g, 0, none⟩) 1 [⟨97, 0⟩] u1 HIC1.out hic (one_lit HE1.out.1.2.1) (by decide)).mono ?_; rintro e u2 ⟨rfl, hb⟩; rw [hC0]; have HE2 := Aside0.mk (end_below HE1.out hb hMR); clear hb; have n0 : u2.cell? ⟨g + 1, 0, none⟩ = some (.int .i64 0) := (blk_cell HE2.out.1.2.2 0).trans rfl; have n1 : u2.cell? ⟨g + 1, 1, none⟩ = some (.int .i64 0) := (blk_cell HE2.out.1.2.2 1).trans rfl; have n2 : u2.cell? ⟨g + 1, 2, none⟩ = some (.int .i64 en) := (blk_cell HE2.out.1.2.2 2).trans rfl; have n3 : u2.cell? ⟨g + 1, 3, none⟩ = some (.int .i64 0) := (blk_cell HE2.out.1.2.2 3).trans rfl; have n4 : u2.cell? ⟨g + 1, 4, none⟩ = some (.slice (some ⟨g, 0, none⟩) 1 1) := (blk_cell HE2.out.1.2.2 4).trans rfl)
            | (go_at_call 12; refine (river_Count.any 0 0 en 0 A0 c0 its 0 0 en 0 A0 c0 its WF HICF.out hic HICF.out hic).mono ?_; rintro e u1 ⟨rfl, hb⟩; rw [hCC]; have HE1 := Aside0.mk (end_below HE.out hb hMR); have HIC1 := Aside0.mk (Kd.C_below HICF.out hb); clear hb; have p0 : u1.cell? ⟨Rb, 0, none⟩ = some (.int .i64 0) := (blk_cell HE1.out.1.1 0).trans rfl; have p1 : u1.cell? ⟨Rb, 1, none⟩ = some (.int .i64 0) := (blk_cell HE1.out.1.1 1).trans rfl; have p2 : u1.cell? ⟨Rb, 2, none⟩ = some (.int .i64 en) := (blk_cell HE1.out.1.1 2).trans rfl; have p3 : u1.cell? ⟨Rb, 3, none⟩ = some (.int .i64 0) := (blk_cell HE1.out.1.1 3).trans rfl; have p4 : u1.cell? ⟨Rb, 4, none⟩ = some (.slice A0 its.length c0) := (blk_cell HE1.out.1.1 4).trans rfl; have q0 : u1.cell? ⟨g + 1, 0, none⟩ = some (.int .i64 0) := (blk_cell HE1.out.1.2.2 0).trans rfl; have q1 : u1.cell? ⟨g + 1, 1, none⟩ = some (.int .i64 0) := (blk_cell HE1.out.1.2.2 1).trans rfl; have q2 : u1.cell? ⟨g + 1, 2, none⟩ = some (.int .i64 en) := (blk_cell HE1.out.1.2.2 2).trans rfl; have q3 : u1.cell? ⟨g + 1, 3, none⟩ = some (.int .i64 0) := (blk_cell HE1.out.1.2.2 3).trans rfl; have q4 : u1.cell? ⟨g + 1, 4, none⟩ = some (.slice (some ⟨g, 0, none⟩) 1 1) := (blk_cell HE1.out.1.2.2 4).trans rfl))
          go_ret
          refine ⟨rfl, ?_⟩
          rw [hM]
          have q := blk_lt HE2.out.1.1
          exact HE2.out.2.trans (HE3.out.mono (by omega))
end Go.Proofs.Ytbejdeopkphciaa.Q
