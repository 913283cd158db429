/- ShipReads over plain lists. -/
import Derived.Test.YthlhfnbaihdjkaaQPb
import Derived.Test.YthlhfnbaihdjkaaQx8
import Derived.Test.YthlhfnbaihdjkaaQx9
import Derived.Test.YthlhfnbaihdjkaaQx10
namespace Go.Proofs.Ythlhfnbaihdjkaa.Q
open Go.RowKit Go.Proofs.YthlhfnbaihdjkaaW.PrintWords Go.Proofs.YthlhfnbaihdjkaaW.PrintLast
set_option linter.unusedVariables false
set_option linter.unusedSimpArgs false

theorem rtake4 (a b c d : Int) (ha : 0 ≤ a ∧ a ≤ 255) (hb : 0 ≤ b ∧ b ≤ 255) (hc : 0 ≤ c ∧ c ≤ 255) (hd : 0 ≤ d ∧ d ≤ 255) : compositorref06_Take.f 7 [a, b, c, d] 4 = some (a * 16777216 + b * 65536 + c * 256 + d, [], 0) := by
  have e1 : wrap64 (0 + 1) = 1 := by unfold wrap64; omega
  have e2 : wrap64 (1 + 1) = 2 := by unfold wrap64; omega
  have e3 : wrap64 (2 + 1) = 3 := by unfold wrap64; omega
  have e4 : wrap64 (3 + 1) = 4 := by unfold wrap64; omega
  unfold compositorref06_Take.f
  rw [if_neg (by decide), if_neg (by decide), show (decide ((([a, b, c, d] : List Int).length : Int) < 4)) = false from rfl, compositorref06_Take.j0, if_neg (by decide)]
  rw [compositorref06_Take.l0, if_pos (by decide), if_pos (by decide), if_pos (by simp), e1, show rd [a, b, c, d] 0 = a from rfl, w64 (x := a) (by omega) (by omega), show wrap64 (256 * 0) = 0 from by unfold wrap64; omega, w64 (x := 0 + a) (by omega) (by omega)]
  rw [compositorref06_Take.l0, if_pos (by decide), if_pos (by decide), if_pos (by simp), e2, show rd [a, b, c, d] 1 = b from rfl, w64 (x := b) (by omega) (by omega), w64 (x := 256 * (0 + a)) (by omega) (by omega), w64 (x := 256 * (0 + a) + b) (by omega) (by omega)]
  rw [compositorref06_Take.l0, if_pos (by decide), if_pos (by decide), if_pos (by simp), e3, show rd [a, b, c, d] 2 = c from rfl, w64 (x := c) (by omega) (by omega), w64 (x := 256 * (256 * (0 + a) + b)) (by omega) (by omega), w64 (x := 256 * (256 * (0 + a) + b) + c) (by omega) (by omega)]
  rw [compositorref06_Take.l0, if_pos (by decide), if_pos (by decide), if_pos (by simp), e4, show rd [a, b, c, d] 3 = d from rfl, w64 (x := d) (by omega) (by omega), w64 (x := 256 * (256 * (256 * (0 + a) + b) + c)) (by omega) (by omega), w64 (x := 256 * (256 * (256 * (0 + a) + b) + c) + d) (by omega) (by omega)]
  rw [compositorref06_Take.l0, if_neg (by decide), Option.bind_some, if_pos (by decide), if_pos (by simp), if_pos (by simp), show ([a, b, c, d] : List Int).drop (4 : Int).toNat = [] from rfl, List.nil_append]
  rw [show 256 * (256 * (256 * (0 + a) + b) + c) + d = a * 16777216 + b * 65536 + c * 256 + d from by omega]
theorem rtakefix (a b c d : Int) (ha : 0 ≤ a ∧ a ≤ 255) (hb : 0 ≤ b ∧ b ≤ 255) (hc : 0 ≤ c ∧ c ≤ 255) (hd : 0 ≤ d ∧ d ≤ 255) : Ev (fun k => compositorref06_TakeFix.f k [a, b, c, d]) (un4 a b c d, [], 0) := by
  unfold compositorref06_TakeFix.f
  refine Ev.bind (Ev.of (fun k => compositorref06_Take.mono _ _ k) (rtake4 a b c d ha hb hc hd)) ?_
  unfold un4
  by_cases h : a * 16777216 + b * 65536 + c * 256 + d < 2147483648
  · rw [if_pos h]
    refine Ev.congr (f := fun _ => some (a * 16777216 + b * 65536 + c * 256 + d, [], 0)) (fun k => ?_) (Ev.now _)
    exact if_neg (by show ¬ (_ ≥ (2147483648 : Int)); omega)
  · rw [if_neg h]
    refine Ev.congr (f := fun _ => some (a * 16777216 + b * 65536 + c * 256 + d - 4294967296, [], 0)) (fun k => ?_) (Ev.now _)
    refine (if_pos (by show (_ ≥ (2147483648 : Int)); omega)).trans ?_
    show some (wrap64 (a * 16777216 + b * 65536 + c * 256 + d - 4294967296), ([] : List Int), (0 : Int)) = _
    rw [w64 (by omega) (by omega)]
theorem rfix (b : List Int) (hl : b.length ≤ 5000) (hb : Byts b) (n : Nat) (x0 x1 x2 x3 : Int) (t : List Int) (h : b.drop n = x0 :: x1 :: x2 :: x3 :: t) : Ev (fun k => compositorref23_fix.f k b (n : Int)) (un4 x0 x1 x2 x3) := by
  have hbs := hb.drop n
  rw [h] at hbs
  obtain ⟨h0, hbs⟩ := hbs.cons
  obtain ⟨h1, hbs⟩ := hbs.cons
  obtain ⟨h2, hbs⟩ := hbs.cons
  obtain ⟨h3, hbs⟩ := hbs.cons
  have hn : n + 4 ≤ b.length := by
    have := congrArg List.length h
    simp at this
    omega
  have e : (b.take (((n : Int) + 4).toNat)).drop ((n : Int).toNat) = [x0, x1, x2, x3] := by
    rw [show ((n : Int) + 4).toNat = n + 4 from by omega, Int.toNat_natCast, List.drop_take, h, show n + 4 - n = 4 from by omega]
    rfl
  refine Ev.congr (fun k => ?_) (Ev.bind (rtakefix x0 x1 x2 x3 h0 h1 h2 h3) (f := fun _ (bt : Int × List Int × Int) => some bt.1) (Ev.now _))
  unfold compositorref23_fix.f
  rw [w64 (x := (n : Int) + 4) (by omega) (by omega), if_neg (by omega), if_pos (by omega), if_pos (by omega), if_pos (by omega), e]
theorem rd_at {b : List Int} {n j : Nat} {x : Int} (h : (b.drop n)[j]? = some x) : rd b ((n : Int) + (j : Int)) = x ∧ n + j < b.length := by
  rw [List.getElem?_drop] at h
  refine ⟨?_, (List.getElem?_eq_some_iff.1 h).1⟩
  rw [show (n : Int) + (j : Int) = ((n + j : Nat) : Int) from by omega]
  rw [rd, Int.toNat_natCast, List.getD_eq_getElem?_getD, h]
  rfl

theorem wnat (n c : Nat) {C : Int} (hC : C = (c : Int)) (h : n + c < 1000000) : wrap64 ((n : Int) + C) = ((n + c : Nat) : Int) := (w64 (by omega) (by omega)).trans (by omega)
theorem wm2 {a b : Int} {m : Nat} (ha : 0 ≤ a ∧ a ≤ 255) (hb : 0 ≤ b ∧ b ≤ 255) (hm : a * 256 + b = (m : Int)) : wrap64 (wrap64 (256 * wrap64 a) + wrap64 b) = (m : Int) := by
  rw [w64 (x := a) (by omega) (by omega), w64 (x := b) (by omega) (by omega), w64 (x := 256 * a) (by omega) (by omega), w64 (by omega) (by omega)]
  omega
theorem wm5 {n m : Nat} (hn : n ≤ 5000) (hm : m ≤ 65535) : wrap64 (((n + 12 : Nat) : Int) + wrap64 (5 * (m : Int))) = ((n + 12 + 5 * m : Nat) : Int) := by
  rw [w64 (x := 5 * (m : Int)) (by omega) (by omega), w64 (by omega) (by omega)]
  omega
theorem m_nat {a b : Int} (ha : 0 ≤ a ∧ a ≤ 255) (hb : 0 ≤ b ∧ b ≤ 255) : ∃ m : Nat, a * 256 + b = (m : Int) ∧ m ≤ 65535 := ⟨(a * 256 + b).toNat, by omega, by omega⟩

def finL (b : List Int) (l : List S41) : List S41 × Int := if checkB l = true ∧ bytesW l = b then (l, 0) else ([], 230)
theorem fin_ev (b : List Int) (hb : Byts b) (l : List S41) : Ev (fun k => (compositorref23_Write.f k l).bind fun bt306 => (if bt306.2 = 0 then (if (strOfNums bt306.1).toList = (strOfNums b).toList then (some (l, 0)) else (some (([] : List (S41)), 230))) else (some (([] : List (S41)), 230)))) (finL b l) := by
  refine Ev.bind (write_ev l) ?_
  by_cases hc : checkB l = true
  · have hw : writeF l = (bytesW l, 0) := by unfold writeF; rw [if_pos hc]
    rw [hw]
    by_cases he : bytesW l = b
    · rw [show finL b l = (l, 0) from if_pos ⟨hc, he⟩]
      refine Ev.congr (f := fun _ => some (l, 0)) (fun k => ?_) (Ev.now _)
      exact (if_pos rfl).trans (if_pos ((str_inj (bytesW_byts l) hb).2 he))
    · rw [show finL b l = ([], 230) from if_neg (fun h => he h.2)]
      refine Ev.congr (f := fun _ => some ([], 230)) (fun k => ?_) (Ev.now _)
      exact (if_pos rfl).trans (if_neg (fun h => he ((str_inj (bytesW_byts l) hb).1 h)))
  · have hw : (writeF l).2 ≠ 0 := by unfold writeF; rw [if_neg hc]; decide
    rw [show finL b l = ([], 230) from if_neg (fun h => hc h.1)]
    exact Ev.congr (f := fun _ => some ([], 230)) (fun k => if_neg hw) (Ev.now _)

theorem rdItem_short {s : List Int} (h : s.length < 5) : rdItem s = none := by
  match s, h with
  | [], _ => rfl
  | [_], _ => rfl
  | [_, _], _ => rfl
  | [_, _, _], _ => rfl
  | [_, _, _, _], _ => rfl
theorem rdItem_step {s : List Int} (h : 5 ≤ s.length) : ∃ a b c d e t, s = a :: b :: c :: d :: e :: t ∧ rdItem s = some (⟨a, un4 b c d e⟩, t) := by
  match s, h with
  | a :: b :: c :: d :: e :: t, _ => exact ⟨a, b, c, d, e, t, rfl, rfl⟩
theorem rdItems_short : ∀ (n : Nat) (s : List Int) (acc : List S43), s.length < 5 * n → rdItems n s acc = none := by
  intro n
  induction n with
  | zero => intro s acc h; omega
  | succ n ih =>
    intro s acc h
    rw [rdItems]
    by_cases h5 : 5 ≤ s.length
    · obtain ⟨a, b, c, d, e, t, rfl, hi⟩ := rdItem_step h5
      rw [hi]
      simp only []
      exact ih _ _ (by simp at h; omega)
    · rw [rdItem_short (by omega)]
theorem rdItems_long : ∀ (n : Nat) (s : List Int) (acc : List S43), 5 * n ≤ s.length → ∃ l, rdItems n s acc = some (l, s.drop (5 * n)) ∧ l.length = acc.length + n := by
  intro n
  induction n with
  | zero => intro s acc _; exact ⟨acc, rfl, rfl⟩
  | succ n ih =>
    intro s acc h
    obtain ⟨a, b, c, d, e, t, rfl, hi⟩ := rdItem_step (s := s) (by omega)
    obtain ⟨l, h1, h2⟩ := ih t (acc ++ [⟨a, un4 b c d e⟩]) (by simp at h; omega)
    refine ⟨l, ?_, by rw [h2]; simp; omega⟩
    rw [rdItems, hi]
    simp only []
    rw [h1, show 5 * (n + 1) = 5 * n + 5 from by omega]
    rfl



theorem read_l1 (b : List Int) (hl : b.length ≤ 5000) (hb : Byts b) (x4 : List S41) (hx4 : x4.length ≤ 300) (i : Nat) (m : Nat) (f0 f1 f2 f3 : Int) (r : List S41 × Int) (t : List Int) (l : List S43) (n2 : Nat)
    (hr : Ev (fun k => compositorref23_Read.l0 k b (x4 ++ [⟨f0, f1, f2, f3, l⟩]) (n2 : Int) (wrap64 ((i : Int) + 1))) r) : ∀ (d j n : Nat) (acc : List S43), j + d = m → n + 5 * d = n2 → n2 ≤ b.length → acc.length ≤ 5000 + j → m ≤ 65535 → rdItems d (b.drop n) acc = some (l, t) →
    Ev (fun k => compositorref23_Read.l1 k b x4 (n : Int) (i : Int) (m : Int) (j : Int) f0 f1 f2 f3 acc) r := by
  intro d
  induction d with
  | zero =>
    intro j n acc hj hn hn2 ha hm hrd
    cases hrd
    obtain rfl : n = n2 := by omega
    refine Ev.step (fun k => ?_) hr
    show compositorref23_Read.l1 (k + 1) _ _ _ _ _ _ _ _ _ _ _ = _
    rw [compositorref23_Read.l1, if_neg (by omega), if_pos (by omega)]
  | succ d ih =>
    intro j n acc hj hn hn2 ha hm hrd
    obtain ⟨a, x0, x1, x2, x3, t', hs, hi⟩ := rdItem_step (s := b.drop n) (by simp; omega)
    rw [rdItems, hi] at hrd
    simp only [] at hrd
    have hd1 : b.drop (n + 1) = x0 :: x1 :: x2 :: x3 :: t' := by rw [← List.drop_drop, hs]; rfl
    have hd5 : b.drop (n + 5) = t' := by rw [← List.drop_drop, hs]; rfl
    obtain ⟨r0, _⟩ := rd_at (b := b) (n := n) (j := 0) (x := a) (by rw [hs]; rfl)
    have r0' : rd b (n : Int) = a := by simpa using r0
    have ha0 : 0 ≤ a ∧ a ≤ 255 := by have := hb.drop n; rw [hs] at this; exact this.cons.1
    have := ih (j + 1) (n + 5) (acc ++ [⟨a, un4 x0 x1 x2 x3⟩]) (by omega) (by omega) hn2 (by simp; omega) hm (by rw [hd5]; exact hrd)
    refine Ev.step (fun k => ?_) (Ev.bind (rfix b hl hb (n + 1) x0 x1 x2 x3 t' hd1) (f := fun k (t318 : Int) => compositorref23_Read.l1 k b x4 ((n + 5 : Nat) : Int) (i : Int) (m : Int) ((j + 1 : Nat) : Int) f0 f1 f2 f3 (acc ++ [⟨a, t318⟩])) this)
    show compositorref23_Read.l1 (k + 1) _ _ _ _ _ _ _ _ _ _ _ = _
    rw [compositorref23_Read.l1, if_pos (by omega), if_pos (by omega), if_pos (by omega), wsucc n (by omega), wsucc j (by omega), w64 (x := (n : Int) + 5) (by omega) (by omega), r0', w64 (x := a) (by omega) (by omega)]
    congr 1
    funext t318
    rw [if_pos (by omega)]
    rfl



theorem rdRow_short {s : List Int} (h : s.length < 12) : rdRow s = none := by
  unfold rdRow
  match s, h with
  | [], _ => rfl
  | [_], _ => rfl
  | a :: k :: s, h =>
    simp only [rd1]
    cases h4 : rd4 s with
    | none => rfl
    | some p =>
      obtain ⟨e, s1⟩ := p
      have l1 : s.length = s1.length + 4 := by
        match s, h4 with
        | a :: b :: c :: d :: s, h4 => cases h4; rfl
      simp only []
      cases h5 : rd4 s1 with
      | none => rfl
      | some p =>
        obtain ⟨d, s2⟩ := p
        have l2 : s1.length = s2.length + 4 := by
          match s1, h5 with
          | a :: b :: c :: d :: s, h5 => cases h5; rfl
        simp only []
        cases h6 : rd2 s2 with
        | none => rfl
        | some p =>
          obtain ⟨m, s3⟩ := p
          have l3 : s2.length = s3.length + 2 := by
            match s2, h6 with
            | a :: b :: s, h6 => cases h6; rfl
          simp at h
          omega
theorem rdRow_step {s : List Int} (h : 12 ≤ s.length) : ∃ a k e0 e1 e2 e3 d0 d1 d2 d3 m0 m1 t, s = a :: k :: e0 :: e1 :: e2 :: e3 :: d0 :: d1 :: d2 :: d3 :: m0 :: m1 :: t ∧
    rdRow s = (match rdItems (m0 * 256 + m1).toNat t [] with | none => none | some (l, u) => some (⟨a - 8, k, un4 e0 e1 e2 e3, un4 d0 d1 d2 d3, l⟩, u)) := by
  match s, h with
  | a :: k :: e0 :: e1 :: e2 :: e3 :: d0 :: d1 :: d2 :: d3 :: m0 :: m1 :: t, _ => exact ⟨a, k, e0, e1, e2, e3, d0, d1, d2, d3, m0, m1, t, rfl, rfl⟩



def endL (b : List Int) (o : Option (List S41 × List Int)) : List S41 × Int := match o with
  | none => ([], 230)
  | some (l, _) => finL b l

theorem read_l0 (b : List Int) (hl : b.length ≤ 5000) (hl3 : 3 ≤ b.length) (hb : Byts b) (q : Nat) (hq : rd b 2 = (q : Int)) (hq2 : q ≤ 255) : ∀ (d i n : Nat) (x4 : List S41), i + d = q → x4.length ≤ i → n ≤ b.length →
    Ev (fun k => compositorref23_Read.l0 k b x4 (n : Int) (i : Int)) (endL b (rdRows d (b.drop n) x4)) := by
  intro d
  induction d with
  | zero =>
    intro i n x4 hi hx hn
    refine Ev.step (fun k => ?_) (fin_ev b hb x4)
    show compositorref23_Read.l0 (k + 1) _ _ _ _ = _
    rw [compositorref23_Read.l0, if_pos (by omega), hq, w64 (x := (q : Int)) (by omega) (by omega), if_neg (by omega)]
  | succ d ih =>
    intro i n x4 hi hx hn
    rw [rdRows]
    by_cases h12 : n + 12 ≤ b.length
    · obtain ⟨a, kk, e0, e1, e2, e3, d0, d1, d2, d3, m0, m1, t, hs, hrow⟩ := rdRow_step (s := b.drop n) (by simp; omega)
      have hbs := hb.drop n
      rw [hs] at hbs
      obtain ⟨ba, hbs⟩ := hbs.cons
      obtain ⟨bk, hbs⟩ := hbs.cons
      obtain ⟨_, hbs⟩ := hbs.cons
      obtain ⟨_, hbs⟩ := hbs.cons
      obtain ⟨_, hbs⟩ := hbs.cons
      obtain ⟨_, hbs⟩ := hbs.cons
      obtain ⟨_, hbs⟩ := hbs.cons
      obtain ⟨_, hbs⟩ := hbs.cons
      obtain ⟨_, hbs⟩ := hbs.cons
      obtain ⟨_, hbs⟩ := hbs.cons
      obtain ⟨bm0, hbs⟩ := hbs.cons
      obtain ⟨bm1, hbs⟩ := hbs.cons
      have g0 : ∀ _ : Unit, rd b (n : Int) = a := fun _ => by have := (rd_at (b := b) (n := n) (j := 0) (x := a) (by rw [hs]; rfl)).1; simpa using this
      have g1 : ∀ _ : Unit, rd b ((n + 1 : Nat) : Int) = kk := fun _ => by have := (rd_at (b := b) (n := n) (j := 1) (x := kk) (by rw [hs]; rfl)).1; simpa using this
      have g10 : ∀ _ : Unit, rd b ((n + 10 : Nat) : Int) = m0 := fun _ => by have := (rd_at (b := b) (n := n) (j := 10) (x := m0) (by rw [hs]; rfl)).1; simpa using this
      have g11 : ∀ _ : Unit, rd b ((n + 11 : Nat) : Int) = m1 := fun _ => by have := (rd_at (b := b) (n := n) (j := 11) (x := m1) (by rw [hs]; rfl)).1; simpa using this
      have q2 : b.drop (n + 2) = e0 :: e1 :: e2 :: e3 :: d0 :: d1 :: d2 :: d3 :: m0 :: m1 :: t := by rw [← List.drop_drop, hs]; rfl
      have q6 : b.drop (n + 6) = d0 :: d1 :: d2 :: d3 :: m0 :: m1 :: t := by rw [← List.drop_drop, hs]; rfl
      have q12 : b.drop (n + 12) = t := by rw [← List.drop_drop, hs]; rfl
      have htl : t.length = b.length - (n + 12) := by rw [← q12]; simp
      obtain ⟨m, hm, hm6⟩ := m_nat bm0 bm1
      have hn5 : n ≤ 5000 := Nat.le_trans hn hl
      have v1 : ∀ _ : Unit, wrap64 ((n : Int) + 1) = ((n + 1 : Nat) : Int) := fun _ => wsucc n (by omega)
      have v2 : ∀ _ : Unit, wrap64 ((n : Int) + 2) = ((n + 2 : Nat) : Int) := fun _ => wnat n 2 (C := 2) rfl (by omega)
      have v6 : ∀ _ : Unit, wrap64 ((n : Int) + 6) = ((n + 6 : Nat) : Int) := fun _ => wnat n 6 (C := 6) rfl (by omega)
      have v10 : ∀ _ : Unit, wrap64 ((n : Int) + 10) = ((n + 10 : Nat) : Int) := fun _ => wnat n 10 (C := 10) rfl (by omega)
      have v11 : ∀ _ : Unit, wrap64 ((n : Int) + 11) = ((n + 11 : Nat) : Int) := fun _ => wnat n 11 (C := 11) rfl (by omega)
      have v12 : ∀ _ : Unit, wrap64 ((n : Int) + 12) = ((n + 12 : Nat) : Int) := fun _ => wnat n 12 (C := 12) rfl (by omega)
      have vm : ∀ _ : Unit, wrap64 (wrap64 (256 * wrap64 m0) + wrap64 m1) = (m : Int) := fun _ => wm2 bm0 bm1 hm
      have vs : ∀ _ : Unit, wrap64 (((n + 12 : Nat) : Int) + wrap64 (5 * (m : Int))) = ((n + 12 + 5 * m : Nat) : Int) := fun _ => wm5 hn5 hm6
      have body : ∀ k, compositorref23_Read.l0 (k + 1) b x4 (n : Int) (i : Int) = (compositorref23_fix.f k b ((n + 2 : Nat) : Int)).bind fun t312 => (compositorref23_fix.f k b ((n + 6 : Nat) : Int)).bind fun t313 => if ((n + 12 + 5 * m : Nat) : Int) > (b.length : Int) then some ([], 230) else compositorref23_Read.l1 k b x4 ((n + 12 : Nat) : Int) (i : Int) (m : Int) 0 (a - 8) kk t312 t313 [] := by
        intro k
        rw [compositorref23_Read.l0, if_pos (by omega), hq, w64 (x := (q : Int)) (by omega) (by omega), if_pos (by omega), v12 (), if_neg (by omega), if_pos (by omega), if_pos (by omega), v1 (), if_pos (by omega), if_pos (by omega), v2 (), v6 (), v10 (), v11 (), g0 (), g1 (), g10 (), g11 (), vm (), vs (),
          w64 (x := a) (by omega) (by omega), w64 (x := kk) (by omega) (by omega), w64 (x := a - 8) (by omega) (by omega)]
        refine congrArg _ (funext fun t312 => congrArg _ (funext fun t313 => ?_))
        rw [if_pos (by omega), if_pos (by omega), if_pos (by omega), if_pos (by omega)]
      rw [hrow, hm, Int.toNat_natCast]
      refine Ev.step body (Ev.bind (rfix b hl hb (n + 2) e0 e1 e2 e3 _ q2) (f := fun k (t312 : Int) => (compositorref23_fix.f k b ((n + 6 : Nat) : Int)).bind fun t313 => if ((n + 12 + 5 * m : Nat) : Int) > (b.length : Int) then some ([], 230) else compositorref23_Read.l1 k b x4 ((n + 12 : Nat) : Int) (i : Int) (m : Int) 0 (a - 8) kk t312 t313 [])
        (Ev.bind (rfix b hl hb (n + 6) d0 d1 d2 d3 _ q6) (f := fun k (t313 : Int) => if ((n + 12 + 5 * m : Nat) : Int) > (b.length : Int) then some ([], 230) else compositorref23_Read.l1 k b x4 ((n + 12 : Nat) : Int) (i : Int) (m : Int) 0 (a - 8) kk (un4 e0 e1 e2 e3) t313 []) ?_))
      by_cases hlong : n + 12 + 5 * m ≤ b.length
      · obtain ⟨l, hit, hll⟩ := rdItems_long m t [] (by rw [htl]; omega)
        have n0 := ih (i + 1) (n + 12 + 5 * m) (x4 ++ [⟨a - 8, kk, un4 e0 e1 e2 e3, un4 d0 d1 d2 d3, l⟩]) (by omega) (by simp; omega) hlong
        have e : b.drop (n + 12 + 5 * m) = t.drop (5 * m) := by rw [← List.drop_drop, q12]
        rw [e] at n0
        rw [hit]
        simp only []
        refine Ev.congr (fun k => if_neg (by omega)) ?_
        refine read_l1 b hl hb x4 (by omega) i m _ _ _ _ _ (t.drop (5 * m)) l (n + 12 + 5 * m) (by rw [wsucc i (by omega)]; exact n0) m 0 (n + 12) [] (by omega) rfl hlong (by simp) (by omega) (by rw [q12]; exact hit)
      · rw [rdItems_short m t [] (by rw [htl]; omega)]
        exact Ev.congr (f := fun _ => some ([], 230)) (fun k => if_pos (by omega)) (Ev.now _)
    · rw [rdRow_short (by simp; omega)]
      refine Ev.step (f := fun _ => some ([], 230)) (fun k => ?_) (Ev.now _)
      show compositorref23_Read.l0 (k + 1) _ _ _ _ = _
      rw [compositorref23_Read.l0, if_pos (by omega), hq, w64 (x := (q : Int)) (by omega) (by omega), if_pos (by omega), show wrap64 ((n : Int) + 12) = ((n + 12 : Nat) : Int) from wnat n 12 (C := 12) rfl (by omega), if_pos (by omega)]



theorem rread_ev (b : List Int) (hl : b.length ≤ 5000) (hb : Byts b) : Ev (fun k => compositorref23_Read.f k b) (readF b) := by
  by_cases h3 : 3 ≤ b.length
  · obtain ⟨x0, x1, x2, s, rfl⟩ : ∃ x0 x1 x2 s, b = x0 :: x1 :: x2 :: s := by
      match b, h3 with
      | x0 :: x1 :: x2 :: s, _ => exact ⟨x0, x1, x2, s, rfl⟩
    have h2 := hb.cons.2.cons.2.cons.1
    obtain ⟨q, rfl⟩ : ∃ q : Nat, x2 = (q : Int) := ⟨x2.toNat, by omega⟩
    have key := read_l0 (x0 :: x1 :: (q : Int) :: s) hl h3 hb q rfl (by omega) q 0 3 [] (by omega) (Nat.zero_le _) (by simp)
    rw [show (x0 :: x1 :: (q : Int) :: s).drop 3 = s from rfl] at key
    have e : endL (x0 :: x1 :: (q : Int) :: s) (rdRows q s []) = readF (x0 :: x1 :: (q : Int) :: s) := by
      cases hc : cutB (x0 :: x1 :: (q : Int) :: s) with
      | true =>
        have hcl : cutL (x0 :: x1 :: (q : Int) :: s) = (q : Int) :: s := by rw [cutL, if_pos hc]; rfl
        unfold readF endL
        rw [hcl, hc]
        simp only [rdAll, rd1, Int.toNat_natCast]
        cases hr : rdRows q s [] with
        | none => rfl
        | some p =>
          obtain ⟨l, t⟩ := p
          simp only []
          have hbk := rdAll_back hb hc (l := l) (t := t) (by rw [hcl]; simp only [rdAll, rd1, Int.toNat_natCast]; exact hr)
          unfold finL
          by_cases hck : checkB l = true
          · by_cases ht : t = []
            · rw [if_pos ⟨hck, by rw [hbk, ht, List.append_nil]⟩, if_pos ⟨trivial, ht, hck⟩]
            · rw [if_neg (fun h => ht ?_), if_neg (fun h => ht h.2.1)]
              have h2 := h.2
              rw [hbk] at h2
              exact List.append_right_eq_self.1 h2.symm
          · rw [if_neg (fun h => hck h.1), if_neg (fun h => hck h.2.2)]
      | false =>
        have hR : readF (x0 :: x1 :: (q : Int) :: s) = ([], 230) := by
          unfold readF
          rw [hc]
          split
          · rfl
          · rw [if_neg (by simp)]
        rw [hR]
        unfold endL
        split
        · rfl
        · rename_i l t _
          unfold finL
          rw [if_neg]
          rintro ⟨_, h⟩
          rw [← h] at hc
          exact absurd hc (by show ¬ ((true && true) = false); decide)
    rw [e] at key
    refine Ev.congr (fun k => ?_) key
    unfold compositorref23_Read.f
    rw [if_neg (by omega)]
    rfl
  · have hR : readF b = ([], 230) := by
      match b, h3 with
      | [], _ => rfl
      | [a], _ =>
        unfold readF
        have : cutB [a] = false := rfl
        rw [this]
        split
        · rfl
        · rw [if_neg (by simp)]
      | [a, c], _ =>
        cases hc : cutB [a, c] with
        | false =>
          unfold readF
          rw [hc]
          split
          · rfl
          · rw [if_neg (by simp)]
        | true =>
          unfold readF
          rw [show cutL [a, c] = [] from by rw [cutL, if_pos hc]; rfl]
          rfl
      | x0 :: x1 :: x2 :: s, h => exact absurd (by simp) h
    rw [hR]
    refine Ev.congr (f := fun _ => some ([], 230)) (fun k => ?_) (Ev.now _)
    unfold compositorref23_Read.f
    rw [if_pos (by omega)]



theorem read_f' {b : List Int} (h : Byts b) : ship_Read.f b = some (readF b) := by
  unfold ship_Read.f
  rw [if_pos]
  simp only [inB, List.all_eq_true, Bool.and_eq_true, decide_eq_true_eq]
  exact h
theorem reads_pure (b : List Int) (hb : ∀ x ∈ b, (Lit.int .u8 x).wf = true) : ∃ k, compositorlaw23_ShipReads.f k b = some true := by
  have hbb : Byts b := fun x hx => by have := hb x hx; simp [Lit.wf, IntKind.min, IntKind.max, IntKind.signed, IntKind.bits] at this; omega
  refine Ev.rounds (g := fun k => compositorlaw23_ShipReads.f k b) ?_
  unfold compositorlaw23_ShipReads.f
  refine Ev.bind awake_ev ?_
  by_cases hl : (b.length : Int) > 5000
  · exact Ev.congr (f := fun _ => some true) (fun k => if_pos hl) (Ev.now _)
  refine Ev.congr (fun k => if_neg hl) ?_
  rw [read_f' hbb]
  simp only [Option.bind_some]
  refine Ev.bind (rread_ev b (by omega) hbb) ?_
  have hs : (readF b).1.length ≤ 200 ∧ ∀ r ∈ (readF b).1, r.f4.length ≤ 600 := by
    rcases read_code b with h | h
    · obtain ⟨m, hm⟩ : ∃ m, readF b = (m, 0) := ⟨_, Prod.ext rfl h⟩
      rw [hm]
      obtain ⟨hc, _⟩ := read_back hbb hm
      obtain ⟨h1, h2⟩ := checkB_parts hc
      refine ⟨h1, fun r hr => ?_⟩
      rw [List.any_eq_false] at h2
      have := h2 r hr
      exact (rowB_facts (r := r) (by simpa [badRow] using this)).2.2.2.1
    · rw [h]; simp
  refine Ev.bind (all_ev _ (by omega) (fun r hr => by have := hs.2 r hr; omega)) ?_
  exact Ev.congr (f := fun _ => some true) (fun k => by simp) (Ev.now _)
end Go.Proofs.Ythlhfnbaihdjkaa.Q
namespace Go.Proofs.Ythlhfnbaihdjkaa.Pure
open Go.RowKit Go.Proofs.Ythlhfnbaihdjkaa.Q
theorem ShipReads : compositorlaw23_ShipReads.Pure := fun l0 _ _ hw => reads_pure l0 hw
end Go.Proofs.Ythlhfnbaihdjkaa.Pure
