/- The iterator over a row's gaps: its contract. -/
import Derived.Test.YtbejdeopkphciaaQBack
namespace Go.Proofs.Ytbejdeopkphciaa.Q
open Go.RowKit Go.Shelf Go.Proofs.YtbejdeopkphciaaW.PrintWords Go.Proofs.YtbejdeopkphciaaW.PrintLast Go.Proofs.YtbejdeopkphciaaW.PrintMore Go.Proofs.YtbejdeopkphciaaW.LastIn
attribute [local go_sem] Oper.semAt_some
set_option linter.unusedVariables false
set_option linter.unusedSimpArgs false

def not36 (o : Obj) : Prop := ∀ cs f, o ≠ .cells cs 36 f
/-- What abides a change of any block from B on that is no cells of gaps. -/
def AbidesG {β : Type} (B : Nat) (J : β → World → Prop) : Prop :=
  ∀ s W W' row, J s W → W.grownBy W' row → (∀ r, row = some r → B ≤ r ∧ ∃ o : Obj, W.heap[r]? = some o ∧ not36 o) → J s W'
theorem AbidesG.alloc {β : Type} {B : Nat} {J : β → World → Prop} (h : AbidesG B J) {s : β} {W : World} (o : Obj) (hs : J s W) : J s (W.alloc o) := h s W _ none hs (World.grownBy_alloc W o none) (fun r e => by cases e)
theorem AbidesG.mono {β : Type} {B B' : Nat} {J : β → World → Prop} (h : AbidesG B J) (hB : B ≤ B') : AbidesG B' J := fun s W W' row hs hg hr => h s W W' row hs hg (fun r e => ⟨Nat.le_trans hB (hr r e).1, (hr r e).2⟩)
theorem not36_of_noncells {o : Obj} (h : o.isCells = false) : not36 o := fun cs f e => by subst e; cases h
theorem AbidesG.from {β : Type} {B : Nat} {J : β → World → Prop} (h : AbidesG B J) : OwnFrom B J := fun s W W' row hs hg hr => h s W W' row hs hg (fun r e => by obtain ⟨h1, o, h2, h3⟩ := hr r e; exact ⟨h1, o, h2, not36_of_noncells h3⟩)
theorem AbidesG.setCell {β : Type} {B : Nat} {J : β → World → Prop} (h : AbidesG B J) {s : β} {W : World} {b : Nat} {t : TypeId} {cs : Array Value} {f : Nat × Nat} (hs : J s W) (hB : B ≤ b) (ht : t ≠ 36) (hb : W.heap[b]? = some (.cells cs t f)) (v : Value) : J s (W.setCell ⟨b, 0, none⟩ v) :=
  h s W _ (some b) hs (grownBy_setCell' W b v) (fun r e => by cases e; exact ⟨hB, _, hb, fun _ _ e => by injection e with _ h; exact ht h⟩)
/-- A drawn number of the tape's is nothing that a heap's word speaks of. -/
theorem AbidesG.drew {β : Type} {B : Nat} {J : β → World → Prop} (h : AbidesG B J) {s : β} {W : World} (hs : J s W) : J s W.drew := h s W _ none hs ⟨rfl, rfl, rfl, Nat.le_refl _, fun _ _ _ => rfl⟩ (fun r e => by cases e)

/-- What a loop over gaps keeps for the iterator. -/
def KG (n₀ Br M : Nat) (W W' : World) : Prop := Below n₀ W W' ∧ ∀ k o, W.heap[k]? = some o → (k = Br ∨ (M ≤ k ∧ not36 o)) → W'.heap[k]? = some o
theorem uponIn_round {F : Fence} {n : Nat} {P : Program} {o : Oper} {a : Act} {K : Act → World → Prop} {Q : Exit → Act → World → Prop} {r : Result Next} {l : Nat} {fn : FuncId} {tmps : Array Value} {assign body : Code} {w : World}
    (hr : r = .ok (.round l fn tmps assign body) w) (hd : F.depth.isSome = true → 1 ≤ n)
    (h : RoundIn F (n - 1) P l fn tmps assign body w fun e w'' => match e with | .returned u => K (a.put o.dst u) w'' | .panicked c => Q (.panic c) a w'' | .outgrown => LetsOut Q) : o.uponIn F n P a K Q r := by
  subst hr
  exact ⟨hd, h.mono fun e w' he => by cases e <;> exact he⟩
theorem uponIn_val {F : Fence} {n : Nat} {P : Program} {o : Oper} {a : Act} {K : Act → World → Prop} {Q : Exit → Act → World → Prop} {r : Result Next} {v : Value} {w1 : World} (hr : r = .ok (.value v) w1) (h : K (a.put o.dst v) w1) : o.uponIn F n P a K Q r := by
  subst hr
  exact h
theorem normIn {F : Fence} {n : Nat} {P : Program} {ops : Array Oper} {Q : Exit → Act → World → Prop} {md : Region.Mode} {S : World → Prop} {ds : List Nat} {fuel : Nat} {l : Array Bool} {a a' : Act} {w : World} (ha : a = a') (h : anyLast F n P md ops Q S ds fuel l a' w) : anyLast F n P md ops Q S ds fuel l a w := ha ▸ h
theorem not36_cells {cs : Array Value} {t : TypeId} {f : Nat × Nat} (h : t ≠ 36) : not36 (.cells cs t f) := fun _ _ e => by injection e with _ e2; exact h e2
theorem cells_own {W W' : World} {row : Option Nat} {b : Nat} {cs : Array Value} {t : TypeId} {f : Nat × Nat} (h : W.heap[b]? = some (.cells cs t f)) (hg : W.grownBy W' row) (hr : ∀ r, row = some r → ∃ o : Obj, W.heap[r]? = some o ∧ o.isCells = false) : W'.heap[b]? = some (.cells cs t f) :=
  (hg.block b (blk_lt h) (fun e => by obtain ⟨o, h1, h2⟩ := hr b e.symm; rw [h] at h1; cases h1; cases h2)).trans h
theorem KG.trans {n₀ Br M : Nat} {A B C : World} (h : KG n₀ Br M A B) (k : KG n₀ Br M B C) : KG n₀ Br M A C := ⟨h.1.trans k.1, fun i o hi ho => k.2 i o (h.2 i o hi ho) ho⟩

/-- The gaps that come, and where the one before ends, when the places pre are gone through. -/
def gStep (xs : List S33) (s : List S33 × Int) (j : Fin xs.length) : List S33 × Int := (if xs[j].f0 = 32 then s.1 ++ [⟨xs[j].f1, s.2⟩] else s.1, xs[j].f1)
def gS (xs : List S33) (en : Int) (pre : List (Fin xs.length)) : List S33 × Int := pre.foldl (gStep xs) ([], en)
theorem gS_snoc (xs : List S33) (en : Int) (pre : List (Fin xs.length)) (j : Fin xs.length) : gS xs en (pre ++ [j]) = gStep xs (gS xs en pre) j := by simp [gS]
theorem gS_length (xs : List S33) (en : Int) (pre : List (Fin xs.length)) : (gS xs en pre).1.length ≤ pre.length := by
  suffices h : ∀ (pre : List (Fin xs.length)) (s : List S33 × Int), (pre.foldl (gStep xs) s).1.length ≤ s.1.length + pre.length by simpa [gS] using h pre ([], en)
  intro pre
  induction pre with
  | nil => intro s; simp
  | cons j pre ih =>
    intro s
    rw [List.foldl_cons]
    refine Nat.le_trans (ih _) ?_
    unfold gStep
    split <;> simp <;> omega
/-- A row's gaps as they come: the last one first. -/
def gapsB (xs : List S33) (en : Int) : List S33 := (gS xs en (down xs.length 0)).1

def rowC (lv kd en df : Int) (A : Option Addr) (len cap : Nat) : Array Value := #[.int .i64 lv, .int .i64 kd, .int .i64 en, .int .i64 df, .slice A len cap]

def gT (l Br M : Nat) (lv kd en df : Int) (A : Option Addr) (len cap : Nat) (j Bx v11 v12 : Value) : Array Value :=
  #[.func (.yield l) #[] #[], .pointer (some ⟨Br, 0, none⟩), .pointer (some ⟨M, 0, none⟩), .pointer (some ⟨M + 1, 0, none⟩), j, Bx, .pointer (some ⟨Br, 2, none⟩), .int .i64 en, .pointer (some ⟨Br, 4, none⟩), .slice A len cap, .func (.func 20) #[] #[.pointer (some ⟨M + 1 + 1, 0, none⟩)], v11, v12,
    undef, undef, undef, undef, undef, undef, undef, undef, undef, undef, undef, undef, undef, undef, undef, undef, undef, undef]

set_option maxRecDepth 100000 in
set_option maxHeartbeats 4000000 in
theorem gaps_in (n : Nat) (hn : 5 ≤ n) (l Br n₀ : Nat) (lv kd en df : Int) (A : Option Addr) (cap : Nat) (xs : List S33) (w0 : World) (hx : Kd.C k33 w0 A xs.length xs) (hcap : xs.length ≤ cap) (hn0 : w0.heap.size = n₀) (W : World) (hBn : n₀ ≤ Br)
    (hBr : W.heap[Br]? = some (.cells (rowC lv kd en df A xs.length cap) 24 (0, 0))) (hb : Below n₀ w0 W) (J : List S33 → World → Prop) (hJ : AbidesG W.heap.size J)
    (hY : ∀ pre x W1, J pre W1 → pre.length < xs.length → YieldAt Fence.wide (n - 1 - 1 - 1) Try.prog l #[gv x] W1 fun e W' => e = .returned (.bool true) ∧ J (pre ++ [x]) W' ∧ KG n₀ Br W.heap.size W1 W') (h0 : J [] W) :
    CallsIn Fence.wide n Try.prog 18 #[.func (.yield l) #[] #[], .pointer (some ⟨Br, 0, none⟩)] W fun e W' => (∃ v, e = .returned v) ∧ J (gapsB xs en) W' := by
  have HX := Aside0.mk hx
  have HY := Aside0.mk hY
  have hBW := blk_lt hBr
  have hr2 : W.cell? ⟨Br, 2, none⟩ = some (.int .i64 en) := (blk_cell hBr 2).trans rfl
  have hr4 : W.cell? ⟨Br, 4, none⟩ = some (.slice A xs.length cap) := (blk_cell hBr 4).trans rfl
  have h1n : 1 ≤ n := by omega
  clear hx hY
  refine callsIn_of_wp_marks Try.func18 rfl trivial ?_ rfl
  simp only [Try.ntmps18, List.size_toArray, List.length_cons, List.length_nil, Nat.reduceAdd, Nat.reduceSub, Array.replicate_succ, Array.replicate_zero, List.push_toArray, List.append_toArray, List.nil_append, List.cons_append]
  gi_wp2_with (refine ⟨trivial, ?_⟩; gi_at_call 19; refine (back_calls Fence.wide _ trivial rfl _ _ _ _).mono ?_; rintro e w' ⟨rfl, rfl⟩)
  obtain ⟨M, hM⟩ : ∃ M, W.heap.size = M := ⟨_, rfl⟩
  obtain ⟨W0, hW0⟩ : ∃ W0, ((W.alloc (.cells #[.func (.yield l) #[] #[]] 44)).alloc (.cells #[.int .i64 en] 3)).alloc (.cells #[.slice A xs.length cap] 22) = W0 := ⟨_, rfl⟩
  have bY : Boxed W0 M 44 (.func (.yield l) #[] #[]) := by rw [← hW0, ← hM]; exact ((Boxed.new W 44 _).alloc _).alloc _
  have bE : Boxed W0 (M + 1) 3 (.int .i64 en) := by rw [← hW0, ← hM]; have := (Boxed.new (W.alloc (.cells #[.func (.yield l) #[] #[]] 44)) 3 (.int .i64 en)).alloc (.cells #[.slice A xs.length cap] 22); rwa [World.size_alloc] at this
  have bI : Boxed W0 (M + 1 + 1) 22 (.slice A xs.length cap) := by rw [← hW0, ← hM]; have := Boxed.new ((W.alloc (.cells #[.func (.yield l) #[] #[]] 44)).alloc (.cells #[.int .i64 en] 3)) 22 (.slice A xs.length cap); rwa [World.size_alloc, World.size_alloc] at this
  have hsz : W0.heap.size = M + 3 := by rw [← hW0, ← hM]; simp
  have hbW : Below n₀ w0 W0 := by
    have h3 : n₀ ≤ W.heap.size := by omega
    rw [← hW0]; exact ((hb.alloc h3 _).alloc (by simp; omega) _).alloc (by simp; omega) _
  have hBr0 : W0.heap[Br]? = some (.cells (rowC lv kd en df A xs.length cap) 24 (0, 0)) := by rw [← hW0]; exact blk_alloc (blk_alloc (blk_alloc hBr _) _) _
  have hJ0 : J [] W0 := by rw [← hW0]; exact hJ.alloc _ (hJ.alloc _ (hJ.alloc _ h0))
  rw [hW0]
  simp only [World.size_alloc, hM] at *
  clear hW0 hr2 hr4 h0 hBr hb
  refine wpIn_rangeFunc_ownH rfl h1n (gf := 20) (lb := #[.pointer (some ⟨M + 1 + 1, 0, none⟩)]) rfl trivial (enters_of Try.func20 (by kernel_rfl) rfl)
    (back_stops Fence.wide (n - 1) trivial rfl (by omega) (M + 1 + 1) n₀ A cap xs w0 W0 HX.out hcap hn0 (by omega) bI hbW) KpB.trans
    (fun W1 i o o' hi ho hc _ => ⟨belowK_b (w := W0) (by omega) W1 i o o' hi ho hc ‹_›, fun o2 h2 => (World.putObj_heap_other (by omega)).trans h2⟩) (Below.refl _ _) (fun _ => rfl)
    (fun pre W' => J (gS xs en pre).1 W' ∧ Boxed W' M 44 (.func (.yield l) #[] #[]) ∧ Boxed W' (M + 1) 3 (.int .i64 (gS xs en pre).2) ∧ Boxed W' (M + 1 + 1) 22 (.slice A xs.length cap) ∧ W'.heap[Br]? = some (.cells (rowC lv kd en df A xs.length cap) 24 (0, 0)) ∧ Below n₀ w0 W')
    (fun _ _ _ => False)
    ?own (fun _ _ _ _ _ hs _ _ => hs) ⟨hJ0, bY, bE, bI, hBr0, hbW⟩
    (fun x a' W' => ∃ Bx, M + 1 + 1 < Bx ∧ W'.heap[Bx]? = some (.cells #[.int .i64 xs[x].f0, .int .i64 xs[x].f1] 33 (0, 0)) ∧ a' = { tmps := gT l Br M lv kd en df A xs.length cap (.int .i64 (x.1 : Int)) (.pointer (some ⟨Bx, 0, none⟩)) (.int .i64 (x.1 : Int)) (gv xs[x]), defers := [] })
    ?ownx ?assign ?body ?done ?stop
  case own =>
    rintro pre X Y row ⟨h1, h2, h3, h4, h5, h6⟩ hg hr
    have hnc : ∀ r, row = some r → ∃ o : Obj, X.heap[r]? = some o ∧ o.isCells = false := fun r e => (hr r e).2
    refine ⟨hJ _ X Y row h1 hg (fun r e => by obtain ⟨q1, o, q2, q3⟩ := hr r e; exact ⟨by omega, o, q2, not36_of_noncells q3⟩), boxed_own M 44 (fun (_ : Unit) => _) () X Y row h2 hg hnc, boxed_own (M + 1) 3 (fun (_ : Unit) => _) () X Y row h3 hg hnc, boxed_own (M + 1 + 1) 22 (fun (_ : Unit) => _) () X Y row h4 hg hnc, cells_own h5 hg hnc, ?_⟩
    exact h6.grown hg (by have := blk_lt h5; omega) (fun k e => by have := (hr k e).1; omega)
  case ownx =>
    rintro x a' _ X Y row ⟨Bx, q1, q2, q3⟩ hg hr
    exact ⟨Bx, q1, cells_own q2 hg (fun r e => (hr r e).2), q3⟩
  case assign =>
    rintro l2 pre x W' K ⟨h1, h2, h3, h4, h5, h6⟩ hK
    have h2l := h2.lt
    have h3l := h3.lt
    have h4l := h4.lt
    have h5l := blk_lt h5
    unfold gv
    gi_wp2
    refine hK _ _ ((KeepsOthers.alloc _ _).from _) ⟨(Below.refl _ _).alloc (by omega) _, fun o ho => blk_alloc ho _⟩ ⟨hJ.alloc _ h1, h2.alloc _, h3.alloc _, h4.alloc _, blk_alloc h5 _, h6.alloc (by omega) _⟩ ⟨W'.heap.size, h4l, blk_new _ _, rfl⟩
  case body =>
    rintro l2 pre x a' W' hl2 _ ⟨h1, h2, h3, h4, h5, h6⟩ ⟨Bx, hBx, hbx, rfl⟩ hlen
    unfold gT gv
    refine wpIn_block (wpIn_seq (wpIn_seq ?_))
    have cY := h2.cell
    have cE := h3.cell
    have cx0 : W'.cell? ⟨Bx, 0, none⟩ = some (.int .i64 xs[x].f0) := (blk_cell hbx 0).trans rfl
    have cx1 : W'.cell? ⟨Bx, 1, none⟩ = some (.int .i64 xs[x].f1) := (blk_cell hbx 1).trans rfl
    have cr4 : W'.cell? ⟨Br, 4, none⟩ = some (.slice A xs.length cap) := (blk_cell h5 4).trans rfl
    by_cases hc : xs[x].f0 = 32
    · rw [hc] at cx0
      obtain ⟨ad, hA, c0, c1⟩ := at_T33 (Kd.C_below HX.out (by rw [hn0]; exact h6)) (x.1 : Int) (by omega) (by have := x.2; omega)
      subst hA
      rw [Int.toNat_natCast, show rd_T33 xs (x.1 : Int) = xs[x] from by simp [rd_T33, List.getD_eq_getElem?_getD]] at c0 c1
      obtain ⟨wd, hwd⟩ : ∃ wd, W'.drew = wd := ⟨_, rfl⟩
      refine start_in (n := n - 1 - 1) (m := 16) (S := fun w' => w' = wd) (ds := [13, 14, 15]) #[false, false, false, false, false, false, false, false, false, false, false, false, false, false, false, false] (by kernel_rfl) rfl rfl hwd (fun hHeld => ?_)
      have hk0 : KeepsFrom (M + 3) W' wd := by rw [← hwd]; exact ⟨Nat.le_refl _, fun _ _ _ h _ => h⟩
      have hp0 : KpB n₀ (M + 1 + 1) W' wd := by rw [← hwd]; exact ⟨(Below.refl _ _).drew, fun _ h => h⟩
      replace h1 : J (gS xs en pre).1 wd := by rw [← hwd]; exact hJ.drew h1
      replace h2 : Boxed wd M 44 (.func (.yield l) #[] #[]) := by rw [← hwd]; exact h2
      replace h3 : Boxed wd (M + 1) 3 (.int .i64 (gS xs en pre).2) := by rw [← hwd]; exact h3
      replace h4 : Boxed wd (M + 1 + 1) 22 (.slice (some ad) xs.length cap) := by rw [← hwd]; exact h4
      replace h5 : wd.heap[Br]? = some (.cells (rowC lv kd en df (some ad) xs.length cap) 24 (0, 0)) := by rw [← hwd]; exact h5
      replace h6 : Below n₀ w0 wd := by rw [← hwd]; exact h6.drew
      replace cY : wd.cell? ⟨M, 0, none⟩ = some (.func (.yield l) #[] #[]) := by rw [← hwd]; exact cY
      replace cE : wd.cell? ⟨M + 1, 0, none⟩ = some (.int .i64 (gS xs en pre).2) := by rw [← hwd]; exact cE
      replace cx0 : wd.cell? ⟨Bx, 0, none⟩ = some (.int .i64 32) := by rw [← hwd]; exact cx0
      replace cx1 : wd.cell? ⟨Bx, 1, none⟩ = some (.int .i64 xs[x].f1) := by rw [← hwd]; exact cx1
      replace cr4 : wd.cell? ⟨Br, 4, none⟩ = some (.slice (some ad) xs.length cap) := by rw [← hwd]; exact cr4
      replace c1 : wd.cell? ⟨(ad.add (x.1 * 2)).block, (ad.add (x.1 * 2)).off + 1, none⟩ = some (.int .i64 xs[x].f1) := by rw [← hwd]; exact c1
      replace hbx : wd.heap[Bx]? = some (.cells #[.int .i64 xs[x].f0, .int .i64 xs[x].f1] 33 (0, 0)) := by rw [← hwd]; exact hbx
      clear hwd
      refine take_in (i := 0) (N := some 13) (v := ?_) (a' := ?_) #[true, false, false, false, false, false, false, false, false, false, false, false, false, false, false, false] (by kernel_rfl) rfl rfl (by kernel_rfl) (fun _ _ _ h => h) (Or.inl ⟨by rfl, ?_⟩) (fun _ => rfl) hHeld ?_ ?_
      rotate_left
      · rintro w' rfl
        go_simp
        with_reducible rfl
      rotate_left
      · simp only [Act.put, List.setIfInBounds_toArray, List.set_cons_zero, List.set_cons_succ, i64_w, i32_w]
        rfl
      refine take_in (i := 1) (N := some 14) (v := ?_) (a' := ?_) #[true, true, false, false, false, false, false, false, false, false, false, false, false, false, false, false] (by kernel_rfl) rfl rfl (by kernel_rfl) (fun _ _ _ h => h) (Or.inl ⟨by rfl, ?_⟩) (fun _ => rfl) hHeld ?_ ?_
      rotate_left
      · rintro w' rfl
        go_simp
        with_reducible rfl
      rotate_left
      · simp only [Act.put, List.setIfInBounds_toArray, List.set_cons_zero, List.set_cons_succ, i64_w, i32_w]
        rfl
      refine take_in (i := 2) (N := some 15) (v := ?_) (a' := ?_) #[true, true, true, false, false, false, false, false, false, false, false, false, false, false, false, false] (by kernel_rfl) rfl rfl (by kernel_rfl) (fun _ _ _ h => h) (Or.inl ⟨by rfl, ?_⟩) (fun _ => rfl) hHeld ?_ ?_
      rotate_left
      · rintro w' rfl
        go_simp
        with_reducible rfl
      rotate_left
      · simp only [Act.put, List.setIfInBounds_toArray, List.set_cons_zero, List.set_cons_succ, i64_w, i32_w]
        rfl
      refine take_in (i := 3) (N := some 16) (v := ?_) (a' := ?_) #[true, true, true, true, false, false, false, false, false, false, false, false, false, false, false, false] (by kernel_rfl) rfl rfl (by kernel_rfl) (fun _ _ _ h => h) (Or.inl ⟨by rfl, ?_⟩) (fun _ => rfl) hHeld ?_ ?_
      rotate_left
      · rintro w' rfl
        go_simp
        with_reducible rfl
      rotate_left
      · simp only [Act.put, List.setIfInBounds_toArray, List.set_cons_zero, List.set_cons_succ, i64_w, i32_w]
        rfl
      refine take_in (i := 4) (N := some 17) (v := ?_) (a' := ?_) #[true, true, true, true, true, false, false, false, false, false, false, false, false, false, false, false] (by kernel_rfl) rfl rfl (by kernel_rfl) (fun _ _ _ h => h) (Or.inl ⟨by rfl, ?_⟩) (fun _ => rfl) hHeld ?_ ?_
      rotate_left
      · rintro w' rfl
        go_simp
        with_reducible rfl
      rotate_left
      · simp only [Act.put, List.setIfInBounds_toArray, List.set_cons_zero, List.set_cons_succ, i64_w, i32_w]
        rfl
      refine take_in (i := 5) (N := some 18) (v := ?_) (a' := ?_) #[true, true, true, true, true, true, false, false, false, false, false, false, false, false, false, false] (by kernel_rfl) rfl rfl (by kernel_rfl) (fun _ _ _ h => h) (Or.inl ⟨by rfl, ?_⟩) (fun _ => rfl) hHeld ?_ ?_
      rotate_left
      · rintro w' rfl
        go_simp
        with_reducible rfl
      rotate_left
      · simp only [Act.put, List.setIfInBounds_toArray, List.set_cons_zero, List.set_cons_succ, i64_w, i32_w]
        rfl
      refine take_in (i := 6) (N := some 19) (v := ?_) (a' := ?_) #[true, true, true, true, true, true, true, false, false, false, false, false, false, false, false, false] (by kernel_rfl) rfl rfl (by kernel_rfl) (fun _ _ _ h => h) (Or.inl ⟨by rfl, ?_⟩) (fun _ => rfl) hHeld ?_ ?_
      rotate_left
      · rintro w' rfl
        go_simp
        with_reducible rfl
      rotate_left
      · simp only [Act.put, List.setIfInBounds_toArray, List.set_cons_zero, List.set_cons_succ, i64_w, i32_w]
        rfl
      refine take_in (i := 7) (N := some 20) (v := ?_) (a' := ?_) #[true, true, true, true, true, true, true, true, false, false, false, false, false, false, false, false] (by kernel_rfl) rfl rfl (by kernel_rfl) (fun _ _ _ h => h) (Or.inl ⟨by rfl, ?_⟩) (fun _ => rfl) hHeld ?_ ?_
      rotate_left
      · rintro w' rfl
        go_simp
        with_reducible rfl
      rotate_left
      · simp only [Act.put, List.setIfInBounds_toArray, List.set_cons_zero, List.set_cons_succ, i64_w, i32_w]
        rfl
      refine take_in (i := 8) (N := some 21) (v := ?_) (a' := ?_) #[true, true, true, true, true, true, true, true, true, false, false, false, false, false, false, false] (by kernel_rfl) rfl rfl (by kernel_rfl) (fun _ _ _ h => h) (Or.inl ⟨by rfl, ?_⟩) (fun _ => rfl) hHeld ?_ ?_
      rotate_left
      · rintro w' rfl
        go_simp
        with_reducible rfl
      rotate_left
      · simp only [Act.put, List.setIfInBounds_toArray, List.set_cons_zero, List.set_cons_succ, i64_w, i32_w]
        rfl
      refine take_in (i := 9) (N := some 22) (v := ?_) (a' := ?_) #[true, true, true, true, true, true, true, true, true, true, false, false, false, false, false, false] (by kernel_rfl) rfl rfl (by kernel_rfl) (fun _ _ _ h => h) (Or.inl ⟨by rfl, ?_⟩) (fun _ => rfl) hHeld ?_ ?_
      rotate_left
      · rintro w' rfl
        go_simp
        with_reducible rfl
      rotate_left
      · simp only [Act.put, List.setIfInBounds_toArray, List.set_cons_zero, List.set_cons_succ, i64_w, i32_w]
        rfl
      refine take_in (i := 10) (N := some 23) (v := ?_) (a' := ?_) #[true, true, true, true, true, true, true, true, true, true, true, false, false, false, false, false] (by kernel_rfl) rfl rfl (by kernel_rfl) (fun _ _ _ h => h) (Or.inl ⟨by rfl, ?_⟩) (fun _ => rfl) hHeld ?_ ?_
      rotate_left
      · rintro w' rfl
        go_simp
        with_reducible rfl
      rotate_left
      · simp only [Act.put, List.setIfInBounds_toArray, List.set_cons_zero, List.set_cons_succ, i64_w, i32_w]
        rfl
      refine take_in (i := 11) (N := some 24) (v := ?_) (a' := ?_) #[true, true, true, true, true, true, true, true, true, true, true, true, false, false, false, false] (by kernel_rfl) rfl rfl (by kernel_rfl) (fun _ _ _ h => h) (Or.inl ⟨by rfl, ?_⟩) (fun _ => rfl) hHeld ?_ ?_
      rotate_left
      · rintro w' rfl
        go_simp
        with_reducible rfl
      rotate_left
      · simp only [Act.put, List.setIfInBounds_toArray, List.set_cons_zero, List.set_cons_succ, i64_w, i32_w]
        rfl
      refine take_in (i := 12) (N := some 25) (v := ?_) (a' := ?_) #[true, true, true, true, true, true, true, true, true, true, true, true, true, false, false, false] (by kernel_rfl) rfl rfl (by kernel_rfl) (fun _ _ _ h => h) (Or.inl ⟨by rfl, ?_⟩) (fun _ => rfl) hHeld ?_ ?_
      rotate_left
      · rintro w' rfl
        go_simp
        with_reducible rfl
      rotate_left
      · simp only [Act.put, List.setIfInBounds_toArray, List.set_cons_zero, List.set_cons_succ, i64_w, i32_w]
        rfl
      obtain ⟨fn, tmps, assign, body, hy, hR⟩ := HY.out (gS xs en pre).1 ⟨xs[x].f1, (gS xs en pre).2⟩ wd h1 (Nat.lt_of_le_of_lt (gS_length xs en pre) hlen)
      have hy' : (Instr.yield l #[.agg #[.int .i64 xs[x].f1, .int .i64 (gS xs en pre).2]]).run Try.prog wd = .ok (.round l fn tmps assign body) wd := hy
      refine one_in (i := 13) (N := some 26) #[true, true, true, true, true, true, true, true, true, true, true, true, true, true, false, false] (by kernel_rfl) rfl rfl (by kernel_rfl) (by decide) (by rfl) (fun _ _ => trivial) ?_
      refine uponIn_round (l := l) (fn := fn) (tmps := tmps) (assign := assign) (body := body) (w := wd) ?_ (fun _ => by omega) ?_
      · go_simp
        exact hy'
      refine (show RoundIn (Fence.wide.inRound l2) (n - 1 - 1 - 1) Try.prog l fn tmps assign body wd _ from hR).mono ?_
      rintro e W3 ⟨rfl, hJ3, hK3⟩
      refine normIn (a' := ?_) ?_ ?_
      rotate_left
      · show Act.put _ (some 26) _ = _
        simp only [Act.put, List.setIfInBounds_toArray, List.set_cons_zero, List.set_cons_succ, i64_w, i32_w]
        rfl
      replace hk0 : KeepsFrom (M + 3) W' W3 := hk0.trans ⟨hK3.1.size, fun k o hk ho hoc => hK3.2 k o ho (.inr ⟨by omega, not36_of_noncells hoc⟩)⟩
      replace hp0 : KpB n₀ (M + 1 + 1) W' W3 := hp0.trans ⟨hK3.1, fun o ho => hK3.2 _ o ho (.inr ⟨by omega, by rw [show wd.heap[M + 1 + 1]? = _ from h4] at ho; cases ho; exact not36_cells (by decide)⟩)⟩
      replace h2 : Boxed W3 M 44 (.func (.yield l) #[] #[]) := hK3.2 _ _ h2 (.inr ⟨by omega, not36_cells (by decide)⟩)
      replace h3 : Boxed W3 (M + 1) 3 (.int .i64 (gS xs en pre).2) := hK3.2 _ _ h3 (.inr ⟨by omega, not36_cells (by decide)⟩)
      replace h4 : Boxed W3 (M + 1 + 1) 22 (.slice (some ad) xs.length cap) := hK3.2 _ _ h4 (.inr ⟨by omega, not36_cells (by decide)⟩)
      replace h5 := hK3.2 _ _ h5 (.inl rfl)
      replace h6 := h6.trans hK3.1
      replace hbx := hK3.2 _ _ hbx (.inr ⟨by omega, not36_cells (by decide)⟩)
      replace cx1 : W3.cell? ⟨Bx, 1, none⟩ = some (.int .i64 xs[x].f1) := (blk_cell hbx 1).trans rfl
      replace cE := h3.cell
      clear cY cx0 cr4 c0 c1 h1 hHeld hy hy' hR
      refine one_in (i := 14) (N := some 27) #[true, true, true, true, true, true, true, true, true, true, true, true, true, true, true, false] (by kernel_rfl) rfl rfl (by kernel_rfl) (by decide) (by rfl) (fun _ _ => trivial) ?_
      refine uponIn_val (w1 := ?_) (v := ?_) ?_ ?_
      rotate_left
      rotate_left
      · go_simp
        constructor
        · rfl
        · rfl
      refine normIn (a' := ?_) ?_ ?_
      rotate_left
      · show Act.put _ (some 27) _ = _
        simp only [Act.put, List.setIfInBounds_toArray, List.set_cons_zero, List.set_cons_succ, i64_w, i32_w]
        rfl
      refine one_in (i := 15) (N := some 28) #[true, true, true, true, true, true, true, true, true, true, true, true, true, true, true, true] (by kernel_rfl) rfl rfl (by kernel_rfl) (by decide) (by rfl) (fun _ _ => trivial) ?_
      refine uponIn_val (w1 := ?_) (v := ?_) ?_ ?_
      rotate_left
      rotate_left
      · go_simp
        constructor
        · rfl
        · rfl
      refine normIn (a' := ?_) ?_ ?_
      rotate_left
      · show Act.put _ (some 28) _ = _
        simp only [Act.put, List.setIfInBounds_toArray, List.set_cons_zero, List.set_cons_succ, i64_w, i32_w]
        rfl
      refine done_in (by kernel_rfl) ?_ _
      show Code.wpIn _ _ _ (Code.cond _ _ _) _ _ _
      have fE := h3.frozen
      gi_wp2
      refine ⟨hk0.trans ((KeepsOthers.setCell _ _ _).from _), hp0.trans ⟨(Below.refl _ _).setCell (p := ⟨M + 1, 0, none⟩) (by show n₀ ≤ M + 1; omega) _, fun o ho => (Below.heap_setCell _ _ _ _ (by show M + 1 + 1 ≠ M + 1; omega)).trans ho⟩, ?_⟩
      show J (gS xs en (pre ++ [x])).1 _ ∧ Boxed _ M 44 _ ∧ Boxed _ (M + 1) 3 (.int .i64 (gS xs en (pre ++ [x])).2) ∧ Boxed _ (M + 1 + 1) 22 _ ∧ _ ∧ Below n₀ w0 _
      rw [gS_snoc]
      unfold gStep
      rw [if_pos hc]
      exact ⟨hJ.setCell hJ3 (by omega) (by decide) h3 _, h2.other (by omega) _, h3.set _, h4.other (by omega) _, (Below.heap_setCell _ _ _ _ (by show Br ≠ M + 1; omega)).trans h5, h6.setCell (p := ⟨M + 1, 0, none⟩) (by show n₀ ≤ M + 1; omega) _⟩
    · have b1 := beq_eq_false_iff_ne.2 hc
      obtain ⟨wd, hwd⟩ : ∃ wd, W'.drew = wd := ⟨_, rfl⟩
      refine start_in (n := n - 1 - 1) (m := 16) (S := fun w' => w' = wd) (ds := [13, 14, 15]) #[false, false, false, false, false, false, false, false, false, false, false, false, false, false, false, false] (by kernel_rfl) rfl rfl hwd (fun hHeld => ?_)
      have hk0 : KeepsFrom (M + 3) W' wd := by rw [← hwd]; exact ⟨Nat.le_refl _, fun _ _ _ h _ => h⟩
      have hp0 : KpB n₀ (M + 1 + 1) W' wd := by rw [← hwd]; exact ⟨(Below.refl _ _).drew, fun _ h => h⟩
      replace h1 : J (gS xs en pre).1 wd := by rw [← hwd]; exact hJ.drew h1
      replace h2 : Boxed wd M 44 (.func (.yield l) #[] #[]) := by rw [← hwd]; exact h2
      replace h3 : Boxed wd (M + 1) 3 (.int .i64 (gS xs en pre).2) := by rw [← hwd]; exact h3
      replace h4 : Boxed wd (M + 1 + 1) 22 (.slice A xs.length cap) := by rw [← hwd]; exact h4
      replace h5 : wd.heap[Br]? = some (.cells (rowC lv kd en df A xs.length cap) 24 (0, 0)) := by rw [← hwd]; exact h5
      replace h6 : Below n₀ w0 wd := by rw [← hwd]; exact h6.drew
      replace cY : wd.cell? ⟨M, 0, none⟩ = some (.func (.yield l) #[] #[]) := by rw [← hwd]; exact cY
      replace cE : wd.cell? ⟨M + 1, 0, none⟩ = some (.int .i64 (gS xs en pre).2) := by rw [← hwd]; exact cE
      replace cx0 : wd.cell? ⟨Bx, 0, none⟩ = some (.int .i64 xs[x].f0) := by rw [← hwd]; exact cx0
      replace cx1 : wd.cell? ⟨Bx, 1, none⟩ = some (.int .i64 xs[x].f1) := by rw [← hwd]; exact cx1
      replace cr4 : wd.cell? ⟨Br, 4, none⟩ = some (.slice A xs.length cap) := by rw [← hwd]; exact cr4
      replace hbx : wd.heap[Bx]? = some (.cells #[.int .i64 xs[x].f0, .int .i64 xs[x].f1] 33 (0, 0)) := by rw [← hwd]; exact hbx
      clear hwd
      refine take_in (i := 0) (N := some 13) (v := ?_) (a' := ?_) #[true, false, false, false, false, false, false, false, false, false, false, false, false, false, false, false] (by kernel_rfl) rfl rfl (by kernel_rfl) (fun _ _ _ h => h) (Or.inl ⟨by rfl, ?_⟩) (fun _ => rfl) hHeld ?_ ?_
      rotate_left
      · rintro w' rfl
        go_simp
        with_reducible rfl
      rotate_left
      · simp only [Act.put, List.setIfInBounds_toArray, List.set_cons_zero, List.set_cons_succ, i64_w, i32_w]
        rfl
      refine take_in (i := 1) (N := some 14) (v := ?_) (a' := ?_) #[true, true, false, false, false, false, false, false, false, false, false, false, false, false, false, false] (by kernel_rfl) rfl rfl (by kernel_rfl) (fun _ _ _ h => h) (Or.inl ⟨by rfl, ?_⟩) (fun _ => rfl) hHeld ?_ ?_
      rotate_left
      · rintro w' rfl
        go_simp
        with_reducible rfl
      rotate_left
      · simp only [Act.put, List.setIfInBounds_toArray, List.set_cons_zero, List.set_cons_succ, i64_w, i32_w]
        rfl
      refine take_in (i := 2) (N := some 15) (v := ?_) (a' := ?_) #[true, true, true, false, false, false, false, false, false, false, false, false, false, false, false, false] (by kernel_rfl) rfl rfl (by kernel_rfl) (fun _ _ _ h => h) (Or.inl ⟨by rfl, ?_⟩) (fun _ => rfl) hHeld ?_ ?_
      rotate_left
      · rintro w' rfl
        go_simp
        exact congrArg Value.bool b1
      rotate_left
      · simp only [Act.put, List.setIfInBounds_toArray, List.set_cons_zero, List.set_cons_succ, i64_w, i32_w]
        rfl
      refine take_in (i := 3) (N := some 16) (v := ?_) (a' := ?_) #[true, true, true, true, false, false, false, false, false, false, false, false, false, false, false, false] (by kernel_rfl) rfl rfl (by kernel_rfl) (fun _ _ _ h => h) (Or.inl ⟨by rfl, ?_⟩) (fun _ => rfl) hHeld ?_ ?_
      rotate_left
      · rintro w' rfl
        go_simp
        with_reducible rfl
      rotate_left
      · simp only [Act.put, List.setIfInBounds_toArray, List.set_cons_zero, List.set_cons_succ, i64_w, i32_w]
        rfl
      refine take_in (i := 4) (N := some 17) (v := undef) (a' := ?_) #[true, true, true, true, true, false, false, false, false, false, false, false, false, false, false, false] (by kernel_rfl) rfl rfl (by kernel_rfl) (fun _ _ _ h => h) (Or.inr ⟨by rfl, rfl⟩) (fun _ => rfl) hHeld ?_ ?_
      rotate_left
      · simp only [Act.put, List.setIfInBounds_toArray, List.set_cons_zero, List.set_cons_succ, i64_w, i32_w]
        rfl
      refine take_in (i := 5) (N := some 18) (v := undef) (a' := ?_) #[true, true, true, true, true, true, false, false, false, false, false, false, false, false, false, false] (by kernel_rfl) rfl rfl (by kernel_rfl) (fun _ _ _ h => h) (Or.inr ⟨by rfl, rfl⟩) (fun _ => rfl) hHeld ?_ ?_
      rotate_left
      · simp only [Act.put, List.setIfInBounds_toArray, List.set_cons_zero, List.set_cons_succ, i64_w, i32_w]
        rfl
      refine take_in (i := 6) (N := some 19) (v := undef) (a' := ?_) #[true, true, true, true, true, true, true, false, false, false, false, false, false, false, false, false] (by kernel_rfl) rfl rfl (by kernel_rfl) (fun _ _ _ h => h) (Or.inr ⟨by rfl, rfl⟩) (fun _ => rfl) hHeld ?_ ?_
      rotate_left
      · simp only [Act.put, List.setIfInBounds_toArray, List.set_cons_zero, List.set_cons_succ, i64_w, i32_w]
        rfl
      refine take_in (i := 7) (N := some 20) (v := undef) (a' := ?_) #[true, true, true, true, true, true, true, true, false, false, false, false, false, false, false, false] (by kernel_rfl) rfl rfl (by kernel_rfl) (fun _ _ _ h => h) (Or.inr ⟨by rfl, rfl⟩) (fun _ => rfl) hHeld ?_ ?_
      rotate_left
      · simp only [Act.put, List.setIfInBounds_toArray, List.set_cons_zero, List.set_cons_succ, i64_w, i32_w]
        rfl
      refine take_in (i := 8) (N := some 21) (v := undef) (a' := ?_) #[true, true, true, true, true, true, true, true, true, false, false, false, false, false, false, false] (by kernel_rfl) rfl rfl (by kernel_rfl) (fun _ _ _ h => h) (Or.inr ⟨by rfl, rfl⟩) (fun _ => rfl) hHeld ?_ ?_
      rotate_left
      · simp only [Act.put, List.setIfInBounds_toArray, List.set_cons_zero, List.set_cons_succ, i64_w, i32_w]
        rfl
      refine take_in (i := 9) (N := some 22) (v := undef) (a' := ?_) #[true, true, true, true, true, true, true, true, true, true, false, false, false, false, false, false] (by kernel_rfl) rfl rfl (by kernel_rfl) (fun _ _ _ h => h) (Or.inr ⟨by rfl, rfl⟩) (fun _ => rfl) hHeld ?_ ?_
      rotate_left
      · simp only [Act.put, List.setIfInBounds_toArray, List.set_cons_zero, List.set_cons_succ, i64_w, i32_w]
        rfl
      refine take_in (i := 10) (N := some 23) (v := undef) (a' := ?_) #[true, true, true, true, true, true, true, true, true, true, true, false, false, false, false, false] (by kernel_rfl) rfl rfl (by kernel_rfl) (fun _ _ _ h => h) (Or.inr ⟨by rfl, rfl⟩) (fun _ => rfl) hHeld ?_ ?_
      rotate_left
      · simp only [Act.put, List.setIfInBounds_toArray, List.set_cons_zero, List.set_cons_succ, i64_w, i32_w]
        rfl
      refine take_in (i := 11) (N := some 24) (v := undef) (a' := ?_) #[true, true, true, true, true, true, true, true, true, true, true, true, false, false, false, false] (by kernel_rfl) rfl rfl (by kernel_rfl) (fun _ _ _ h => h) (Or.inr ⟨by rfl, rfl⟩) (fun _ => rfl) hHeld ?_ ?_
      rotate_left
      · simp only [Act.put, List.setIfInBounds_toArray, List.set_cons_zero, List.set_cons_succ, i64_w, i32_w]
        rfl
      refine take_in (i := 12) (N := some 25) (v := undef) (a' := ?_) #[true, true, true, true, true, true, true, true, true, true, true, true, true, false, false, false] (by kernel_rfl) rfl rfl (by kernel_rfl) (fun _ _ _ h => h) (Or.inr ⟨by rfl, rfl⟩) (fun _ => rfl) hHeld ?_ ?_
      rotate_left
      · simp only [Act.put, List.setIfInBounds_toArray, List.set_cons_zero, List.set_cons_succ, i64_w, i32_w]
        rfl
      refine off_in (i := 13) (N := some 26) (a' := ?_) #[true, true, true, true, true, true, true, true, true, true, true, true, true, true, false, false] rfl rfl (by kernel_rfl) (by rfl) (fun _ _ => trivial) ?_ ?_
      rotate_left
      · simp only [Act.put, List.setIfInBounds_toArray, List.set_cons_zero, List.set_cons_succ, i64_w, i32_w]
        rfl
      refine off_in (i := 14) (N := some 27) (a' := ?_) #[true, true, true, true, true, true, true, true, true, true, true, true, true, true, true, false] rfl rfl (by kernel_rfl) (by rfl) (fun _ _ => trivial) ?_ ?_
      rotate_left
      · simp only [Act.put, List.setIfInBounds_toArray, List.set_cons_zero, List.set_cons_succ, i64_w, i32_w]
        rfl
      refine one_in (i := 15) (N := some 28) #[true, true, true, true, true, true, true, true, true, true, true, true, true, true, true, true] (by kernel_rfl) rfl rfl (by kernel_rfl) (by decide) (by rfl) (fun _ _ => trivial) ?_
      refine uponIn_val (w1 := ?_) (v := ?_) ?_ ?_
      rotate_left
      rotate_left
      · go_simp
        constructor
        · rfl
        · rfl
      refine normIn (a' := ?_) ?_ ?_
      rotate_left
      · show Act.put _ (some 28) _ = _
        simp only [Act.put, List.setIfInBounds_toArray, List.set_cons_zero, List.set_cons_succ, i64_w, i32_w]
        rfl
      refine done_in (by kernel_rfl) ?_ _
      show Code.wpIn _ _ _ (Code.cond _ _ _) _ _ _
      have fE := h3.frozen
      gi_wp2
      refine ⟨hk0.trans ((KeepsOthers.setCell _ _ _).from _), hp0.trans ⟨(Below.refl _ _).setCell (p := ⟨M + 1, 0, none⟩) (by show n₀ ≤ M + 1; omega) _, fun o ho => (Below.heap_setCell _ _ _ _ (by show M + 1 + 1 ≠ M + 1; omega)).trans ho⟩, ?_⟩
      show J (gS xs en (pre ++ [x])).1 _ ∧ Boxed _ M 44 _ ∧ Boxed _ (M + 1) 3 (.int .i64 (gS xs en (pre ++ [x])).2) ∧ Boxed _ (M + 1 + 1) 22 _ ∧ _ ∧ Below n₀ w0 _
      rw [gS_snoc]
      unfold gStep
      rw [if_neg hc]
      exact ⟨hJ.setCell h1 (by omega) (by decide) h3 _, h2.other (by omega) _, h3.set _, h4.other (by omega) _, (Below.heap_setCell _ _ _ _ (by show Br ≠ M + 1; omega)).trans h5, h6.setCell (p := ⟨M + 1, 0, none⟩) (by show n₀ ≤ M + 1; omega) _⟩
  case done =>
    rintro D ys W' hD rfl ⟨h1, h2, h3, h4, h5, h6⟩ hK
    refine ⟨by simp, .inl ⟨_, _, rfl, run_takeDeferred hK, ?_⟩⟩
    exact ⟨_, results_none rfl _ _ _, ⟨_, rfl⟩, hJ _ W' _ (some D) h1 (grownBy_putObj' W' D _) (fun r e => by cases e; exact ⟨by omega, _, hK, not36_of_noncells rfl⟩)⟩
  case stop =>
    rintro D c pre W _ _ h _
    exact h.elim
end Go.Proofs.Ytbejdeopkphciaa.Q
