/- slices.Reverse over a row of gaps: the kit's contract. -/
import Derived.Shelf.SlicesQ.Reverse
import Derived.Test.YtbejdeopkphciaaQColl
namespace Go.Proofs
open Go.Shelf Go.Lib
/-- The shelf's layout of slices.Reverse at this program. -/
def Ytbejdeopkphciaa.Q.revL_ren : Go.Shelf.Ren := ⟨fun | 35 => 16 | n => n, fun | 22 => 28 | 23 => 36 | 3 => 3 | 4 => 4 | 0 => 0 | n => n, fun | n => n⟩
theorem Ytbejdeopkphciaa.Q.revL : Go.Proofs.SlLaysE0.n35 Try.prog Ytbejdeopkphciaa.Q.revL_ren where
  mixed := by kernel_rfl
  f35 := ⟨Try.f16.name, by decide, Try.func16.trans (congrArg some (by kernel_rfl))⟩
  t0 := Try.underlying0
  a0 := Try.isAgg0
  z0 := Try.sizeOf0
  v0 := Try.zeroValue0
  t3 := Try.underlying3
  a3 := Try.isAgg3
  z3 := Try.sizeOf3
  v3 := Try.zeroValue3
  t4 := Try.underlying4
  a4 := Try.isAgg4
  z4 := Try.sizeOf4
  v4 := Try.zeroValue4
  t22 := Try.underlying28
  a22 := Try.isAgg28
  z22 := Try.sizeOf28
  v22 := Try.zeroValue28
end Go.Proofs
namespace Go.Proofs.Ytbejdeopkphciaa.Q
open Go.RowKit Go.Shelf Go.Sort Go.Proofs.YtbejdeopkphciaaW.PrintWords Go.Proofs.YtbejdeopkphciaaW.PrintLast Go.Proofs.YtbejdeopkphciaaW.PrintMore
set_option linter.unusedVariables false
set_option linter.unusedSimpArgs false

instance : Inhabited S33 := ⟨z33⟩
def enc2 (x : S33) : List Value := [.int .i64 x.f0, .int .i64 x.f1]
theorem reads_holds {w : World} {g n : Nat} {xs : List S33} (hf : ∀ i, w.frozen? ⟨g, i, none⟩ = false) (h : Kd.C k33 w (some ⟨g, 0, none⟩) n xs) : HoldsK enc2 2 w g 0 xs.toArray := by
  intro t ht
  rw [size_flatK] at ht
  rw [get_flatK _ _ _ _ ht]
  refine ⟨?_, by simpa using hf (0 + t)⟩
  have hn : xs.length = n := h.1
  have hs : t / 2 < xs.length := by simp at ht; omega
  obtain ⟨ad, e, hc⟩ := h.2.2 (by omega)
  cases e
  obtain ⟨c, h1, h2, h3⟩ := hc (t / 2) _ (List.getElem?_eq_getElem hs)
  obtain rfl := k33_open h2
  have hr : t % 2 = 0 ∨ t % 2 = 1 := by omega
  have e1 : (xs.toArray)[t / 2]! = xs[t / 2] := by simp [hs]
  rw [e1]
  rcases hr with hr | hr
  · have := h3 0 _ rfl
    rw [Addr.add_lit, show 0 + (t / 2 * k33.sz + 0) = 0 + t from by show 0 + (t / 2 * 2 + 0) = _; omega] at this
    rw [this, hr]; rfl
  · have := h3 1 _ rfl
    rw [Addr.add_lit, show 0 + (t / 2 * k33.sz + 1) = 0 + t from by show 0 + (t / 2 * 2 + 1) = _; omega] at this
    rw [this, hr]; rfl
theorem holds_reads {w : World} {g : Nat} {xs : List S33} (hn : xs.length ≤ 9223372036854775807) (h : HoldsK enc2 2 w g 0 xs.toArray) : Kd.C k33 w (some ⟨g, 0, none⟩) xs.length xs := by
  refine ⟨rfl, hn, fun _ => ⟨_, rfl, fun j p hj => ⟨enc2 p, rfl, k33_mk _ p, fun i u hu => ?_⟩⟩⟩
  obtain ⟨hlt, rfl⟩ := List.getElem?_eq_some_iff.1 hj
  have hi : i < 2 := (List.getElem?_eq_some_iff.1 hu).1
  have := (HoldsK.cell h (i := j) (c := i) (by simpa using hlt) hi).1
  rw [Addr.add_lit, show 0 + (j * k33.sz + i) = 0 + j * 2 + i from by show 0 + (j * 2 + i) = _; omega, this]
  have e1 : (xs.toArray)[j]! = xs[j] := by simp [hlt]
  rw [e1, ← hu, getElem!_pos (enc2 xs[j]) i hi, List.getElem?_eq_getElem hi]

theorem reverse_any (w : World) (base : Nat) (ok : Nat → Prop) (v : Value) (xs : List S33) (h : k33.R 36 w base ok v xs) :
    Calls Try.prog 16 #[v] w fun e w' => e = .returned (.tuple #[]) ∧ (∃ A c, v = .slice A xs.length c ∧ xs.length ≤ c ∧ Kd.C k33 w' A xs.length xs.reverse) ∧ Below base w w' := by
  obtain ⟨A, c, rfl, hc, hC⟩ := Kd.R_reads h
  by_cases h0 : 0 < xs.length
  · obtain ⟨g, cap, e, hg, hlt, cells, hcells⟩ := Kd.R_form h h0
    injection e with e1 e2 e3
    subst e1 e3
    have H := reads_holds (fun i => blk_frozen hcells i) hC
    refine Calls.mono (AnyQ.slices_Reverse revL 2 Try.isAgg36 Try.sizeOf36 enc2 (fun _ => rfl) (fun x v hv => by simp [enc2] at hv; rcases hv with rfl | rfl <;> rfl) g 0 c xs.toArray w H (by simpa using hC.2.1)) ?_
    rintro e w' ⟨rfl, n, rfl⟩
    refine ⟨rfl, ⟨_, _, rfl, hc, ?_⟩, ?_⟩
    · have := holdsK_putRowK enc2 2 (Sort.ahead w n) g 0 xs.toArray xs.toArray.reverse (holdsK_ahead enc2 2 w n g 0 _ H) (by simp)
      rw [show xs.toArray.reverse = xs.reverse.toArray from by simp] at this ⊢
      have := holds_reads (by rw [List.length_reverse]; exact hC.2.1) this
      rwa [List.length_reverse] at this
    · refine ⟨rfl, rfl, rfl, by simp [putRowK, Sort.ahead], fun k hk => ?_⟩
      show (w.heap.modify g _)[k]? = _
      rw [Array.getElem?_modify, if_neg (by omega)]
  · obtain rfl : xs = [] := List.eq_nil_of_length_eq_zero (by omega)
    refine Calls.mono (AnyQ.slices_Reverse_empty revL A c w) ?_
    rintro e w' ⟨rfl, rfl⟩
    exact ⟨rfl, ⟨_, _, rfl, hc, hC⟩, Below.refl _ _⟩

theorem gaps_len (xs : List S33) (en : Int) : (gapsB xs en).length ≤ xs.length := Nat.le_trans (gS_length xs en _) (by rw [down_length]; omega)

theorem collect_any (Br n₀ : Nat) (lv kd en df : Int) (A : Option Addr) (cap : Nat) (xs : List S33) (w0 w : World) (hx : Kd.C k33 w0 A xs.length xs) (hcap : xs.length ≤ cap) (hn0 : w0.heap.size = n₀) (hBn : n₀ ≤ Br) (hxl : xs.length ≤ 1000000)
    (hBr : w.heap[Br]? = some (.cells (rowC lv kd en df A xs.length cap) 24 (0, 0))) (hb : Below n₀ w0 w) :
    Calls Try.prog 14 #[.func (.func 18) #[] #[.pointer (some ⟨Br, 0, none⟩)]] w fun e W' => ∃ v, e = .returned v ∧ k33.R 36 W' w.heap.size (fun _ => True) v (gapsB xs en) ∧ Below w.heap.size w W' := by
  have H := Aside0.mk ((callsIn_wide (n := 8)).1 (appendSeq_in 8 (by omega) Br n₀ lv kd en df A cap xs w0 w hx hcap hn0 hBn hxl hBr hb))
  clear hx hBr hb
  go_enter Try.func14, Try.ntmps14
  go_wp2_with (go_at_call 17; refine H.out.mono ?_; rintro e w' ⟨v, rfl, hR, hB⟩; have HR := Aside0.mk hR; have HB := Aside0.mk hB; clear hR hB; obtain ⟨A1, c1, e1⟩ := Kd.R_slice HR.out; subst e1)
  go_ret
  exact ⟨_, rfl, HR.out, HB.out⟩

theorem gaps_any (cs : Array Value) (hcs : cs.size = 5) (w : World) : Calls Try.prog 15 #[.agg cs] w fun e w' => e = .returned (.func (.func 18) #[] #[.pointer (some ⟨w.heap.size, 0, none⟩)]) ∧ w' = w.alloc (.cells cs 24) :=
  (callsIn_wide (n := 8)).1 (gaps_calls Fence.wide 8 trivial rfl cs hcs w)

/-- Where a row's spaces begin and end. -/
def gapsF (xs : List S33) (en : Int) : List S33 := (gapsB xs en).reverse

theorem river_Gaps.any (lv kd en df : Int) (A : Option Addr) (cap : Nat) (xs : List S33) (w : World) (hx : Kd.C k33 w A xs.length xs) (hcap : xs.length ≤ cap) (hxl : xs.length ≤ 1000000) :
    Calls Try.prog 10 #[.agg (rowC lv kd en df A xs.length cap)] w fun e w' => ∃ A1 c1, e = .returned (.slice A1 (gapsF xs en).length c1) ∧ (gapsF xs en).length ≤ c1 ∧ Kd.C k33 w' A1 (gapsF xs en).length (gapsF xs en) ∧ Below w.heap.size w w' := by
  have HX := Aside0.mk hx
  clear hx
  unfold rowC
  go_enter Try.func10, Try.ntmps10
  have hb0 : Below w.heap.size w ((w.alloc (.cells (rowC lv kd en df A xs.length cap) 24)).alloc (.cells (rowC lv kd en df A xs.length cap) 24)) := ((Below.refl _ w).alloc (Nat.le_refl _) _).alloc (by simp) _
  have HC := Aside0.mk (collect_any (w.heap.size + 1) w.heap.size lv kd en df A cap xs w ((w.alloc (.cells (rowC lv kd en df A xs.length cap) 24)).alloc (.cells (rowC lv kd en df A xs.length cap) 24)) HX.out hcap rfl (by omega) hxl
    (by have := blk_new (w.alloc (.cells (rowC lv kd en df A xs.length cap) 24)) (.cells (rowC lv kd en df A xs.length cap) 24); rwa [World.size_alloc] at this) hb0)
  have HB0 := Aside0.mk hb0
  clear hb0
  unfold rowC at HC HB0
  go_wp2_with (first | (go_at_call 15; refine (gaps_any _ rfl _).mono ?_; rintro e w' ⟨rfl, rfl⟩) | (go_at_call 14; refine HC.out.mono ?_; rintro e w1 ⟨v, rfl, hR, hB⟩; have HR := Aside0.mk hR; have HB := Aside0.mk hB; clear hR hB; obtain ⟨A1, c1, e1⟩ := Kd.R_slice HR.out; subst e1) | (go_at_call 16; refine (reverse_any _ _ _ _ _ HR.out).mono ?_; rintro e w2 ⟨rfl, hA, hB2⟩; have HA := Aside0.mk hA; have HB2 := Aside0.mk hB2; clear hA hB2))
  go_ret
  obtain ⟨A2, c2, e2, hc2, hC2⟩ := HA.out
  injection e2 with q1 q2 q3
  subst q1 q3
  have hl : (gapsF xs en).length = (gapsB xs en).length := List.length_reverse
  refine ⟨_, _, by rw [hl]; rfl, by rw [hl]; exact hc2, by rw [hl]; exact hC2, HB0.out.trans ((HB.out.mono (by simp; omega)).trans (HB2.out.mono (by simp; omega)))⟩
end Go.Proofs.Ytbejdeopkphciaa.Q
