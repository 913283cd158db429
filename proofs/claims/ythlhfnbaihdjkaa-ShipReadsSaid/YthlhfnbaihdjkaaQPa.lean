/- Bytes of rows are read as they were written, and what is read was written so: plain lists. -/
import Derived.Test.YthlhfnbaihdjkaaQRead
namespace Go.Proofs.Ythlhfnbaihdjkaa.Q
open Go.RowKit Go.Proofs.YthlhfnbaihdjkaaW.PrintWords Go.Proofs.YthlhfnbaihdjkaaW.PrintLast
set_option linter.unusedVariables false
set_option linter.unusedSimpArgs false

theorem un4_be4 (n : Int) (h : wordI n = true) : un4 (n / 16777216 % 256) (n / 65536 % 256) (n / 256 % 256) (n % 256) = n := by
  simp [wordI] at h
  unfold un4
  split <;> omega
theorem be4_un4 (a b c d : Int) (ha : 0 ≤ a ∧ a ≤ 255) (hb : 0 ≤ b ∧ b ≤ 255) (hc : 0 ≤ c ∧ c ≤ 255) (hd : 0 ≤ d ∧ d ≤ 255) : be4 (un4 a b c d) = [a, b, c, d] := by
  unfold un4 be4
  split
  all_goals
    congr 1
    · omega
    congr 1
    · omega
    congr 1
    · omega
    congr 1
    omega
theorem rd4_write (n : Int) (s : List Int) (h : wordI n = true) : rd4 (be4 n ++ s) = some (n, s) := by
  show some (un4 (n / 16777216 % 256) (n / 65536 % 256) (n / 256 % 256) (n % 256), s) = _
  rw [un4_be4 _ h]
theorem rd4_back {s : List Int} {n : Int} {t : List Int} (hs : Byts s) (h : rd4 s = some (n, t)) : s = be4 n ++ t ∧ Byts t := by
  match s, h with
  | a :: b :: c :: d :: s, h =>
    cases h
    obtain ⟨ha, hs⟩ := hs.cons
    obtain ⟨hb, hs⟩ := hs.cons
    obtain ⟨hc, hs⟩ := hs.cons
    obtain ⟨hd, hs⟩ := hs.cons
    exact ⟨by rw [be4_un4 _ _ _ _ ha hb hc hd]; rfl, hs⟩
theorem rd1_back {s : List Int} {n : Int} {t : List Int} (hs : Byts s) (h : rd1 s = some (n, t)) : s = n :: t ∧ (0 ≤ n ∧ n ≤ 255) ∧ Byts t := by
  match s, h with
  | a :: s, h => cases h; exact ⟨rfl, hs.cons.1, hs.cons.2⟩
theorem rd2_back {s : List Int} {n : Int} {t : List Int} (hs : Byts s) (h : rd2 s = some (n, t)) : s = be2 n ++ t ∧ (0 ≤ n ∧ n ≤ 65535) ∧ Byts t := by
  match s, h with
  | a :: b :: s, h =>
    cases h
    obtain ⟨ha, hs⟩ := hs.cons
    obtain ⟨hb, hs⟩ := hs.cons
    refine ⟨?_, by omega, hs⟩
    show _ = [(a * 256 + b) / 256 % 256, (a * 256 + b) % 256] ++ _
    rw [show (a * 256 + b) / 256 % 256 = a from by omega, show (a * 256 + b) % 256 = b from by omega]
    rfl
theorem rdItem_write (p : S43) (s : List Int) (h : badItem p = false) : rdItem (itemW p ++ s) = some (p, s) := by
  simp [badItem] at h
  obtain ⟨h0, h1, h2⟩ := h
  unfold rdItem
  show (match (some (p.f0 % 256, be4 p.f1 ++ s) : Option (Int × List Int)) with | none => none | some (c, s) => match rd4 s with | none => none | some (x, s) => some ((⟨c, x⟩ : S43), s)) = _
  simp only []
  rw [rd4_write _ _ h2]
  simp only []
  rw [show p.f0 % 256 = p.f0 from by omega]
theorem rdItems_write (l : List S43) : ∀ (s : List Int) (acc : List S43), l.any badItem = false → rdItems l.length (itemsW l ++ s) acc = some (acc ++ l, s) := by
  induction l with
  | nil => intro s acc _; simp [rdItems, itemsW]
  | cons p l ih =>
    intro s acc h
    simp only [List.any_cons, Bool.or_eq_false_iff] at h
    show rdItems (l.length + 1) (itemW p ++ itemsW l ++ s) acc = _
    rw [List.append_assoc, rdItems, rdItem_write _ _ h.1]
    simp only []
    rw [ih _ _ h.2]
    simp
theorem rdItem_back {s : List Int} {p : S43} {t : List Int} (hs : Byts s) (h : rdItem s = some (p, t)) : s = itemW p ++ t ∧ Byts t := by
  unfold rdItem at h
  split at h
  · cases h
  · rename_i c s1 h1
    split at h
    · cases h
    · rename_i x s2 h2
      cases h
      obtain ⟨e1, r1, b1⟩ := rd1_back hs h1
      obtain ⟨e2, b2⟩ := rd4_back b1 h2
      refine ⟨?_, b2⟩
      show _ = ((c % 256) :: be4 x) ++ _
      rw [e1, e2, show c % 256 = c from by omega]
      rfl
theorem rdItems_back : ∀ (n : Nat) (s : List Int) (acc l : List S43) (t : List Int), Byts s → rdItems n s acc = some (l, t) → ∃ m, l = acc ++ m ∧ s = itemsW m ++ t ∧ m.length = n ∧ Byts t := by
  intro n
  induction n with
  | zero => intro s acc l t hs h; cases h; exact ⟨[], by simp, rfl, rfl, hs⟩
  | succ n ih =>
    intro s acc l t hs h
    rw [rdItems] at h
    split at h
    · cases h
    · rename_i p s1 h1
      obtain ⟨e1, b1⟩ := rdItem_back hs h1
      obtain ⟨m, rfl, e2, hl, b2⟩ := ih _ _ _ _ b1 h
      refine ⟨p :: m, by simp, ?_, by simp [hl], b2⟩
      rw [e1, e2]
      show _ = (itemW p ++ itemsW m) ++ t
      rw [List.append_assoc]
theorem rdRow_write (r : S41) (s : List Int) (h : rowB r = true) : rdRow (rowW r ++ s) = some (r, s) := by
  obtain ⟨⟨h0, h1⟩, h2, h3, h4, h5⟩ := rowB_facts h
  have hk : 1 ≤ r.f1 ∧ r.f1 ≤ 5 := by simp [rowB] at h; omega
  have e : rowW r ++ s = (r.f0 + 8) % 256 :: (r.f1 % 256 :: (be4 r.f2 ++ (be4 r.f3 ++ (be2 r.f4.length ++ (itemsW r.f4 ++ s))))) := by simp [rowW, headW]
  rw [e]
  unfold rdRow
  simp only [rd1]
  rw [rd4_write _ _ h2]
  simp only []
  rw [rd4_write _ _ h3]
  simp only []
  rw [show rd2 (be2 r.f4.length ++ (itemsW r.f4 ++ s)) = some ((r.f4.length : Int) / 256 % 256 * 256 + (r.f4.length : Int) % 256, itemsW r.f4 ++ s) from rfl]
  simp only []
  rw [show ((r.f4.length : Int) / 256 % 256 * 256 + (r.f4.length : Int) % 256).toNat = r.f4.length from by omega, rdItems_write _ _ _ h5]
  simp only [List.nil_append]
  rw [show (r.f0 + 8) % 256 - 8 = r.f0 from by omega, show r.f1 % 256 = r.f1 from by omega]
theorem rdRow_back {s : List Int} {r : S41} {t : List Int} (hs : Byts s) (h : rdRow s = some (r, t)) : s = rowW r ++ t ∧ Byts t := by
  unfold rdRow at h
  split at h
  · cases h
  rename_i a s1 h1
  split at h
  · cases h
  rename_i k s2 h2
  split at h
  · cases h
  rename_i e s3 h3
  split at h
  · cases h
  rename_i d s4 h4
  split at h
  · cases h
  rename_i m s5 h5
  split at h
  · cases h
  rename_i l s6 h6
  cases h
  obtain ⟨e1, r1, b1⟩ := rd1_back hs h1
  obtain ⟨e2, r2, b2⟩ := rd1_back b1 h2
  obtain ⟨e3, b3⟩ := rd4_back b2 h3
  obtain ⟨e4, b4⟩ := rd4_back b3 h4
  obtain ⟨e5, r5, b5⟩ := rd2_back b4 h5
  obtain ⟨l', e6, e7, hl, b6⟩ := rdItems_back _ _ _ _ _ b5 h6
  rw [List.nil_append] at e6
  subst e6
  refine ⟨?_, b6⟩
  have : rowW (⟨a - 8, k, e, d, l⟩ : S41) ++ t = (a - 8 + 8) % 256 :: (k % 256 :: (be4 e ++ (be4 d ++ (be2 l.length ++ (itemsW l ++ t))))) := by simp [rowW, headW]
  rw [this, e1, e2, e3, e4, e5, e7, hl, show ((m.toNat : Nat) : Int) = m from by omega, show (a - 8 + 8) % 256 = a from by omega, show k % 256 = k from by omega]
theorem rdRows_write (l : List S41) : ∀ (s : List Int) (acc : List S41), l.any badRow = false → rdRows l.length (rowsW l ++ s) acc = some (acc ++ l, s) := by
  induction l with
  | nil => intro s acc _; simp [rdRows, rowsW]
  | cons p l ih =>
    intro s acc h
    simp only [List.any_cons, Bool.or_eq_false_iff, badRow, Bool.not_eq_false'] at h
    show rdRows (l.length + 1) (rowW p ++ rowsW l ++ s) acc = _
    rw [List.append_assoc, rdRows, rdRow_write _ _ h.1]
    simp only []
    rw [ih _ _ h.2]
    simp
theorem rdRows_back : ∀ (n : Nat) (s : List Int) (acc l : List S41) (t : List Int), Byts s → rdRows n s acc = some (l, t) → ∃ m, l = acc ++ m ∧ s = rowsW m ++ t ∧ m.length = n ∧ Byts t := by
  intro n
  induction n with
  | zero => intro s acc l t hs h; cases h; exact ⟨[], by simp, rfl, rfl, hs⟩
  | succ n ih =>
    intro s acc l t hs h
    rw [rdRows] at h
    split at h
    · cases h
    · rename_i p s1 h1
      obtain ⟨e1, b1⟩ := rdRow_back hs h1
      obtain ⟨m, rfl, e2, hl, b2⟩ := ih _ _ _ _ b1 h
      refine ⟨p :: m, by simp, ?_, by simp [hl], b2⟩
      rw [e1, e2]
      show _ = (rowW p ++ rowsW m) ++ t
      rw [List.append_assoc]
theorem checkB_parts {l : List S41} (h : checkB l = true) : l.length ≤ 200 ∧ l.any badRow = false := by
  simpa only [checkB, Bool.and_eq_true, Bool.not_eq_true', decide_eq_true_eq] using h
theorem rdAll_write (l : List S41) (s : List Int) (h : checkB l = true) : rdAll (cutL (bytesW l ++ s)) = some (l, s) := by
  obtain ⟨h1, h2⟩ := checkB_parts h
  have e : cutL (bytesW l ++ s) = ((l.length : Int) % 256) :: (rowsW l ++ s) := rfl
  rw [e]
  unfold rdAll
  simp only [rd1]
  rw [show (((l.length : Int) % 256).toNat) = l.length from by omega, rdRows_write _ _ _ h2, List.nil_append]
theorem read_write (l : List S41) (h : checkB l = true) : readF (bytesW l) = (l, 0) := by
  have := rdAll_write l [] h
  rw [List.append_nil] at this
  rw [readF, this]
  exact if_pos ⟨rfl, rfl, h⟩
theorem cut_form {b : List Int} (h : cutB b = true) : b = 67 :: 79 :: cutL b := by
  have e : cutL b = b.drop 2 := by rw [cutL, if_pos h]
  rw [e]
  match b, h with
  | a :: c :: s, h =>
    simp [cutB] at h
    rw [h.1, h.2]
    rfl
theorem cutL_byts {b : List Int} (h : Byts b) : Byts (cutL b) := by unfold cutL; split; exact h.drop 2; exact h
theorem rdAll_back {b : List Int} {l : List S41} {t : List Int} (hs : Byts b) (hc : cutB b = true) (h : rdAll (cutL b) = some (l, t)) : b = bytesW l ++ t := by
  have e := cut_form hc
  have hb := cutL_byts hs
  unfold rdAll at h
  split at h
  · cases h
  · rename_i n s h1
    obtain ⟨e1, r1, b1⟩ := rd1_back hb h1
    obtain ⟨m, e2, e3, hl, _⟩ := rdRows_back _ _ _ _ _ b1 h
    rw [List.nil_append] at e2
    subst e2
    rw [e, e1, e3]
    show _ = (67 :: 79 :: ((l.length : Int) % 256) :: rowsW l) ++ t
    rw [hl, show (((n.toNat : Nat) : Int) % 256) = n from by omega]
    rfl
theorem read_back {b : List Int} {l : List S41} (hs : Byts b) (h : readF b = (l, 0)) : checkB l = true ∧ b = bytesW l := by
  unfold readF at h
  split at h
  · cases h
  · rename_i m t h1
    split at h
    · rename_i hc
      obtain ⟨hc, rfl, hk⟩ := hc
      cases h
      exact ⟨hk, by have := rdAll_back hs hc h1; rwa [List.append_nil] at this⟩
    · cases h
theorem read_code (b : List Int) : (readF b).2 = 0 ∨ readF b = ([], 230) := by
  unfold readF
  split
  · exact .inr rfl
  · split
    · exact .inl rfl
    · exact .inr rfl
theorem be4_byts (n : Int) : Byts (be4 n) := by
  intro b hb
  simp [be4] at hb
  omega
theorem Byts.app {a b : List Int} (ha : Byts a) (hb : Byts b) : Byts (a ++ b) := fun x hx => (List.mem_append.1 hx).elim (ha x) (hb x)
theorem itemsW_byts (l : List S43) : Byts (itemsW l) := by
  induction l with
  | nil => intro b hb; cases hb
  | cons p l ih =>
    refine Byts.app ?_ ih
    intro b hb
    simp [itemW] at hb
    rcases hb with rfl | hb
    · omega
    · exact be4_byts _ b hb
theorem headW_byts (r : S41) : Byts (headW r) := by
  refine Byts.app ?_ (Byts.app (be4_byts _) (Byts.app (be4_byts _) ?_))
  · intro b hb; simp at hb; omega
  · intro b hb; simp [be2] at hb; omega
theorem rowsW_byts (l : List S41) : Byts (rowsW l) := by
  induction l with
  | nil => intro b hb; cases hb
  | cons p l ih => exact Byts.app (Byts.app (headW_byts p) (itemsW_byts _)) ih
theorem bytesW_byts (l : List S41) : Byts (bytesW l) := by
  intro b hb
  simp [bytesW] at hb
  rcases hb with rfl | rfl | rfl | hb
  · omega
  · omega
  · omega
  · exact rowsW_byts l b hb
/-- No beginning of rows' bytes is, nor one with more behind. -/
theorem read_cut (l : List S41) (h : checkB l = true) (k : Nat) (hk : k < (bytesW l).length) : (readF ((bytesW l).take k)).2 = 230 := by
  rcases read_code ((bytesW l).take k) with h0 | h0
  · obtain ⟨m, hm⟩ : ∃ m, readF ((bytesW l).take k) = (m, 0) := ⟨_, Prod.ext rfl h0⟩
    obtain ⟨hc, e⟩ := read_back (fun b hb' => bytesW_byts l b (List.mem_of_mem_take hb')) hm
    have h1 := rdAll_write m ((bytesW l).drop k) hc
    rw [← e, List.take_append_drop] at h1
    have h2 := rdAll_write l [] h
    rw [List.append_nil, h1] at h2
    have h3 : (bytesW l).drop k = [] := by injection h2 with h2; injection h2
    have := congrArg List.length h3
    simp at this
    omega
  · rw [h0]
theorem read_more (l : List S41) (h : checkB l = true) (x : Int) : (readF (bytesW l ++ [x])).2 = 230 := by
  have h1 := rdAll_write l [x] h
  rw [readF, h1]
  simp
theorem itemsW_len (l : List S43) : (itemsW l).length = 5 * l.length := by
  induction l with
  | nil => rfl
  | cons p l ih => simp [itemsW, itemW, be4, ih]; omega
theorem rowW_len (r : S41) : (rowW r).length = 12 + 5 * r.f4.length := by
  simp [rowW, headW, be4, be2, itemsW_len]
  omega
def sizeW : List S41 → Nat
  | [] => 0
  | r :: l => 12 + 5 * r.f4.length + sizeW l
theorem rowsW_len (l : List S41) : (rowsW l).length = sizeW l := by
  induction l with
  | nil => rfl
  | cons p l ih => simp [rowsW, rowW_len, sizeW, ih]
theorem bytesW_len (l : List S41) : (bytesW l).length = 3 + sizeW l := by
  simp [bytesW, rowsW_len]; omega
theorem sizeW_le (l : List S41) (h : l.any badRow = false) : sizeW l ≤ 3012 * l.length := by
  induction l with
  | nil => simp [sizeW]
  | cons p l ih =>
    simp only [List.any_cons, Bool.or_eq_false_iff, badRow, Bool.not_eq_false'] at h
    have := (rowB_facts h.1).2.2.2.1
    have := ih h.2
    simp only [sizeW, List.length_cons]
    omega

end Go.Proofs.Ythlhfnbaihdjkaa.Q
