import Derived.Test.YtnhalfkkamepgaaQx9
import Derived.Test.YtnhalfkkamepgaaQPf
namespace Go.Proofs.Ytnhalfkkamepgaa.Q
open Go.RowKit Go.Proofs.YtnhalfkkamepgaaW.PrintWords Go.Proofs.YtnhalfkkamepgaaW.PrintLast Go.Proofs.YtnhalfkkamepgaaW.PrintMore
set_option linter.unusedVariables false
set_option linter.unusedSimpArgs false

theorem joins_j2 (k : Nat) (hk : 300 ≤ k) (l : List S36) (hc : checkB l = true) (n : Nat) : compositorlaw13_TextJoins.j2 (k + 1) true l l (writeL (l.take n) 0) (writeL l 0) false = some true := by
  have hs := ok_small hc
  obtain ⟨r, h1, h2⟩ := same13 100 (by omega) l l (by omega) hs.2 k (by omega)
  have : r = true := h2.2 rfl
  subst this
  have hp : writeL l 0 = writeL (l.take n) 0 ++ writeL (l.drop n) (0 + (l.take n).length) := by
    rw [← writeL_app, List.take_append_drop]
  have hlen : (writeL (l.take n) 0).length ≤ (writeL l 0).length := by rw [hp, List.length_append]; omega
  have htk : (writeL l 0).take (writeL (l.take n) 0).length = writeL (l.take n) 0 := by
    conv => lhs; rw [hp]
    exact List.take_left
  rw [compositorlaw13_TextJoins.j2, if_neg (by decide), if_pos rfl]
  unfold text_Check.f
  rw [Option.bind_some, if_pos hc, h1, Option.bind_some, if_pos rfl, if_pos (by omega), if_pos (by omega), Int.toNat_natCast, htk]
  simp

theorem joins_j1 (k : Nat) (hk : 301 ≤ k) (l m : List S36) (hl : l.length ≤ 100) (hm : m.length ≤ 100) (n : Int) (h0 : 0 ≤ n) (h1 : n ≤ 255) (all : List S36) (g : Int) (hg : (all, g) = if checkB (l ++ m) = true then (l ++ m, 0) else ([], 130)) :
    compositorlaw13_TextJoins.j1 (k + 1) n true l m all g false = some true := by
  rw [compositorlaw13_TextJoins.j1, if_neg (by decide), Option.bind_some, if_pos (by simp; omega), Option.bind_some, List.nil_append, if_pos (by omega), Option.bind_some]
  by_cases hc : checkB (l ++ m) = true
  · rw [if_pos hc] at hg
    injection hg with e1 e2
    subst e1 e2
    have hp := checkB_parts hc
    obtain ⟨L, hL⟩ : ∃ L, L = (l ++ m).length := ⟨_, rfl⟩
    have hmx : mx ((l ++ m).length : Int) 1 = (L : Int) := by unfold mx; rw [if_neg (by omega), hL]
    have hT : Int.tmod (wrap64 n) (L : Int) = n % (L : Int) := by rw [w64 n (by omega) (by omega)]; exact Int.tmod_eq_emod_of_nonneg h0
    have hr1 := Int.emod_nonneg n (show (L : Int) ≠ 0 by omega)
    have hr2 := Int.emod_lt_of_pos n (show (0 : Int) < (L : Int) by omega)
    rw [if_pos rfl, hmx, hT, if_neg (by omega), w64 (1 + n % (L : Int)) (by omega) (by omega), if_neg (by omega), if_pos (by omega), if_pos (by omega)]
    obtain ⟨q, hq⟩ : ∃ q : Nat, (1 + n % (L : Int)).toNat = q := ⟨_, rfl⟩
    rw [hq, write_yes_f (check_take hc q (by omega)), Option.bind_some, write_yes_f hc, Option.bind_some, if_pos rfl, if_pos rfl]
    have hlen : (writeL ((l ++ m).take q) 0).length ≤ (writeL (l ++ m) 0).length := by
      have : writeL (l ++ m) 0 = writeL ((l ++ m).take q) 0 ++ writeL ((l ++ m).drop q) (0 + ((l ++ m).take q).length) := by rw [← writeL_app, List.take_append_drop]
      rw [this, List.length_append]; omega
    have hd : decide (((writeL ((l ++ m).take q) 0).length : Int) > ((writeL (l ++ m) 0).length : Int)) = false := decide_eq_false (by omega)
    show compositorlaw13_TextJoins.j2 k true (l ++ m) (l ++ m) (writeL ((l ++ m).take q) 0) (writeL (l ++ m) 0) (decide (((writeL ((l ++ m).take q) 0).length : Int) > ((writeL (l ++ m) 0).length : Int))) = some true
    rw [hd]
    obtain ⟨k', rfl⟩ : ∃ k', k = k' + 1 := ⟨k - 1, by omega⟩
    exact joins_j2 k' (by omega) (l ++ m) hc q
  · rw [if_neg hc] at hg
    injection hg with e1 e2
    subst e1 e2
    have hc' : checkB (l ++ m) = false := by simpa using hc
    rw [if_neg (by decide), if_pos rfl]
    simp [text_Check.f, hc']

theorem joins_no (k : Nat) (l m all : List S36) (n g : Int) (h : l = [] ∨ m = []) : compositorlaw13_TextJoins.j1 (k + 1) n true l m all g true = some true := by
  rw [compositorlaw13_TextJoins.j1, if_pos rfl, if_pos rfl]
  rcases h with rfl | rfl <;> simp [wrap64]

theorem joins_pure (a b : List Int) (n : Int) (ha : ∀ x ∈ a, (Lit.int .u8 x).wf = true) (hb : ∀ x ∈ b, (Lit.int .u8 x).wf = true) (h0 : 0 ≤ n) (h1 : n ≤ 255) : ∃ k, compositorlaw13_TextJoins.f k a b n = some true := by
  obtain ⟨k, hk⟩ : ∃ k, k = 1000 := ⟨_, rfl⟩
  have haw : compositorlaw13_awake.f (k + 1 + 1) = some true := by rw [hk]; exact awake_up 994
  refine ⟨k + 1 + 1, ?_⟩
  unfold compositorlaw13_TextJoins.f
  rw [haw, Option.bind_some]
  by_cases hla : (a.length : Int) > 2000
  · rw [if_pos hla, compositorlaw13_TextJoins.j0, if_pos rfl]
  · rw [if_neg hla, compositorlaw13_TextJoins.j0]
    by_cases hlb : (b.length : Int) > 2000
    · rw [if_pos (by simpa using hlb)]
    · have hia := inB_of (s := a) (by omega) ha
      have hib := inB_of (s := b) (by omega) hb
      have hpa := inB_parts hia
      have hpb := inB_parts hib
      have hij : inB ([] ++ a ++ [32] ++ b) = true := by
        simp only [inB, Bool.and_eq_true, decide_eq_true_eq, List.all_eq_true]
        refine ⟨by simp; omega, fun x hx => ?_⟩
        simp only [List.nil_append, List.mem_append, List.mem_singleton] at hx
        rcases hx with (hx | hx) | hx
        · exact hpa x hx
        · omega
        · exact hpb x hx
      have e : [] ++ a ++ [32] ++ b = a ++ 32 :: b := by simp
      rw [if_neg (by simpa using hlb)]
      unfold text_Read.f
      rw [if_pos hia, Option.bind_some, if_pos hib, Option.bind_some, Option.bind_some, if_pos (by simp; omega), Option.bind_some, if_pos (by simp; omega), Option.bind_some, if_pos (by simp; omega), if_pos hij, Option.bind_some, e]
      obtain ⟨l, e1, hl⟩ : ∃ l e1, readF a = (l, e1) := ⟨_, _, rfl⟩
      obtain ⟨m, e2, hm⟩ : ∃ m e2, readF b = (m, e2) := ⟨_, _, rfl⟩
      rw [hl, hm]
      rcases readF_ok hl with ⟨rfl, c1, r1⟩ | ⟨rfl, rfl⟩
      · rcases readF_ok hm with ⟨rfl, c2, r2⟩ | ⟨rfl, rfl⟩
        · rw [if_pos rfl]
          have hj := join_read r1 r2
          exact joins_j1 k (by omega) l m (ok_small c1).1 (ok_small c2).1 n h0 h1 _ _ hj
        · rw [if_pos rfl]
          exact joins_no k l [] _ n _ (.inr rfl)
      · rw [if_neg (by decide)]
        exact joins_no k [] m _ n _ (.inl rfl)
end Go.Proofs.Ytnhalfkkamepgaa.Q
namespace Go.Proofs.Ytnhalfkkamepgaa.Pure
open Go.RowKit Go.Proofs.Ytnhalfkkamepgaa.Q
theorem TextJoins : compositorlaw13_TextJoins.Pure := fun l0 l1 a2 _ _ h0 _ _ h1 h2 => by
  have := h2
  simp [Lit.wf, IntKind.min, IntKind.max, IntKind.signed, IntKind.bits] at this
  exact joins_pure l0 l1 a2 h0 h1 (by omega) (by omega)
end Go.Proofs.Ytnhalfkkamepgaa.Pure
