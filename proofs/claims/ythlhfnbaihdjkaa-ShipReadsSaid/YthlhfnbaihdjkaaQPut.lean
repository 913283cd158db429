/- What pack.Put and pack.Take tell at two and four bytes; the bytes of rows. -/
import Derived.Test.YthlhfnbaihdjkaaQx2
import Derived.Test.YthlhfnbaihdjkaaQCheck
namespace Go.Proofs.Ythlhfnbaihdjkaa.Q
open Go.RowKit Go.Proofs.YthlhfnbaihdjkaaW.PrintWords Go.Proofs.YthlhfnbaihdjkaaW.PrintLast Go.Proofs.YthlhfnbaihdjkaaW.PrintMore
set_option linter.unusedVariables false
set_option linter.unusedSimpArgs false

def be4 (n : Int) : List Int := [n / 16777216 % 256, n / 65536 % 256, n / 256 % 256, n % 256]
def be2 (n : Int) : List Int := [n / 256 % 256, n % 256]
def un4 (a b c d : Int) : Int := if a * 16777216 + b * 65536 + c * 256 + d < 2147483648 then a * 16777216 + b * 65536 + c * 256 + d else a * 16777216 + b * 65536 + c * 256 + d - 4294967296

theorem w64 {x : Int} (h0 : -9223372036854775808 ≤ x) (h1 : x < 9223372036854775808) : wrap64 x = x := by unfold wrap64; omega
theorem shr_0 (x : Int) : shr .i64 x 0 = x := by show x / 2 ^ 0 = x; simp
theorem shr_8 (x : Int) : shr .i64 x 8 = x / 256 := rfl
theorem shr_16 (x : Int) : shr .i64 x 16 = x / 65536 := rfl
theorem shr_24 (x : Int) : shr .i64 x 24 = x / 16777216 := rfl
theorem shr_32 (x : Int) : shr .i64 x 32 = x / 4294967296 := rfl

theorem put2 (k : Nat) (xs : List Int) (n : Int) (h0 : 0 ≤ n) (h1 : n < 65536) (hl : xs.length + 4 ≤ 140737488355328) : pack_Put.f (k + 5) xs n 2 = some (xs ++ be2 n, 0) := by
  have e1 : wrap64 (8 * 2) = 16 := by unfold wrap64; omega
  have e2 : wrap64 (8 * wrap64 (wrap64 (2 - 1) - 0)) = 8 := by unfold wrap64; omega
  have e3 : wrap64 (0 + 1) = 1 := by unfold wrap64; omega
  have e4 : wrap64 (8 * wrap64 (wrap64 (2 - 1) - 1)) = 0 := by unfold wrap64; omega
  have e5 : wrap64 (1 + 1) = 2 := by unfold wrap64; omega
  unfold pack_Put.f pack_sized.f
  rw [if_pos (by decide)]
  simp only [Option.bind_some]
  rw [show (decide ((2 : Int) ≤ 4)) = true from rfl, if_pos rfl, if_neg (by omega), e1, if_pos (by decide), shr_16, show decide (n / 65536 > 0) = false from by simp; omega]
  rw [pack_Put.j0, if_neg (by decide)]
  unfold bytes_Clone.f
  rw [if_pos (by omega)]
  simp only [Option.bind_some]
  rw [pack_Put.l0, if_pos (by decide), e2, if_pos (by decide), if_pos (by omega), e3, shr_8]
  rw [pack_Put.l0, if_pos (by decide), e4, if_pos (by decide), if_pos (by simp; omega), e5, shr_0]
  rw [pack_Put.l0, if_neg (by decide)]
  simp [be2]

theorem put4 (k : Nat) (xs : List Int) (n : Int) (h0 : 0 ≤ n) (h1 : n < 4294967296) (hl : xs.length + 4 ≤ 140737488355328) : pack_Put.f (k + 7) xs n 4 = some (xs ++ be4 n, 0) := by
  have e1 : wrap64 (8 * 4) = 32 := by unfold wrap64; omega
  have e2 : wrap64 (8 * wrap64 (wrap64 (4 - 1) - 0)) = 24 := by unfold wrap64; omega
  have e3 : wrap64 (0 + 1) = 1 := by unfold wrap64; omega
  have e4 : wrap64 (8 * wrap64 (wrap64 (4 - 1) - 1)) = 16 := by unfold wrap64; omega
  have e5 : wrap64 (1 + 1) = 2 := by unfold wrap64; omega
  have e6 : wrap64 (8 * wrap64 (wrap64 (4 - 1) - 2)) = 8 := by unfold wrap64; omega
  have e7 : wrap64 (2 + 1) = 3 := by unfold wrap64; omega
  have e8 : wrap64 (8 * wrap64 (wrap64 (4 - 1) - 3)) = 0 := by unfold wrap64; omega
  have e9 : wrap64 (3 + 1) = 4 := by unfold wrap64; omega
  unfold pack_Put.f pack_sized.f
  rw [if_pos (by decide)]
  simp only [Option.bind_some]
  rw [show (decide ((4 : Int) ≤ 4)) = true from rfl, if_pos rfl, if_neg (by omega), e1, if_pos (by decide), shr_32, show decide (n / 4294967296 > 0) = false from by simp; omega]
  rw [pack_Put.j0, if_neg (by decide)]
  unfold bytes_Clone.f
  rw [if_pos (by omega)]
  simp only [Option.bind_some]
  rw [pack_Put.l0, if_pos (by decide), e2, if_pos (by decide), if_pos (by omega), e3, shr_24]
  rw [pack_Put.l0, if_pos (by decide), e4, if_pos (by decide), if_pos (by simp; omega), e5, shr_16]
  rw [pack_Put.l0, if_pos (by decide), e6, if_pos (by decide), if_pos (by simp; omega), e7, shr_8]
  rw [pack_Put.l0, if_pos (by decide), e8, if_pos (by decide), if_pos (by simp; omega), e9, shr_0]
  rw [pack_Put.l0, if_neg (by decide)]
  simp [be4]

theorem or8 {x y : Int} (h0 : 0 ≤ x) (h1 : x < 16777216) (hy0 : 0 ≤ y) (hy1 : y ≤ 255) : Go.bits .or .i64 (x * 256) y = x * 256 + y := by
  have := bits_join .i64 32 (by decide) (fun n h0 h1 => by rw [IntKind.wrap_i64]; omega) 8 (x * 256) y (by omega) (by omega) (by omega) (by omega) (by omega) (by omega)
  exact this

theorem take2 (k : Nat) (a b : Int) (ha : 0 ≤ a ∧ a ≤ 255) (hb : 0 ≤ b ∧ b ≤ 255) : pack_Take.f (k + 4) [a, b] 2 = some (a * 256 + b, [], 0) := by
  have e1 : wrap64 (0 + 1) = 1 := by unfold wrap64; omega
  have e2 : wrap64 (1 + 1) = 2 := by unfold wrap64; omega
  unfold pack_Take.f pack_sized.f
  rw [if_pos (by decide)]
  simp only [Option.bind_some]
  rw [show (decide ((2 : Int) ≤ 4)) = true from rfl, if_pos rfl, show (decide ((([a, b] : List Int).length : Int) < 2)) = false from rfl]
  rw [pack_Take.j0, if_neg (by decide)]
  rw [pack_Take.l0, if_pos (by decide), if_pos (by decide), if_pos (by simp), e1, show rd [a, b] 0 = a from rfl, w64 (x := a) (by omega) (by omega), show wrap64 (0 * 256) = 0 * 256 from by unfold wrap64; omega, or8 (by decide) (by decide) ha.1 ha.2]
  rw [pack_Take.l0, if_pos (by decide), if_pos (by decide), if_pos (by simp), e2, show rd [a, b] 1 = b from rfl, w64 (x := b) (by omega) (by omega), w64 (x := (0 * 256 + a) * 256) (by omega) (by omega), or8 (by omega) (by omega) hb.1 hb.2]
  rw [pack_Take.l0, if_neg (by decide), if_pos (by decide), if_pos (by simp), show ([a, b] : List Int).drop (2 : Int).toNat = [] from rfl]
  unfold bytes_Clone.f
  rw [if_pos (by decide)]
  simp only [Option.bind_some]
  rw [show (0 * 256 + a) * 256 + b = a * 256 + b from by omega]

theorem take4 (k : Nat) (a b c d : Int) (ha : 0 ≤ a ∧ a ≤ 255) (hb : 0 ≤ b ∧ b ≤ 255) (hc : 0 ≤ c ∧ c ≤ 255) (hd : 0 ≤ d ∧ d ≤ 255) : pack_Take.f (k + 6) [a, b, c, d] 4 = some (a * 16777216 + b * 65536 + c * 256 + d, [], 0) := by
  have e1 : wrap64 (0 + 1) = 1 := by unfold wrap64; omega
  have e2 : wrap64 (1 + 1) = 2 := by unfold wrap64; omega
  have e3 : wrap64 (2 + 1) = 3 := by unfold wrap64; omega
  have e4 : wrap64 (3 + 1) = 4 := by unfold wrap64; omega
  unfold pack_Take.f pack_sized.f
  rw [if_pos (by decide)]
  simp only [Option.bind_some]
  rw [show (decide ((4 : Int) ≤ 4)) = true from rfl, if_pos rfl, show (decide ((([a, b, c, d] : List Int).length : Int) < 4)) = false from rfl]
  rw [pack_Take.j0, if_neg (by decide)]
  rw [pack_Take.l0, if_pos (by decide), if_pos (by decide), if_pos (by simp), e1, show rd [a, b, c, d] 0 = a from rfl, w64 (x := a) (by omega) (by omega), show wrap64 (0 * 256) = 0 * 256 from by unfold wrap64; omega, or8 (by decide) (by decide) ha.1 ha.2]
  rw [pack_Take.l0, if_pos (by decide), if_pos (by decide), if_pos (by simp), e2, show rd [a, b, c, d] 1 = b from rfl, w64 (x := b) (by omega) (by omega), w64 (x := (0 * 256 + a) * 256) (by omega) (by omega), or8 (by omega) (by omega) hb.1 hb.2]
  rw [pack_Take.l0, if_pos (by decide), if_pos (by decide), if_pos (by simp), e3, show rd [a, b, c, d] 2 = c from rfl, w64 (x := c) (by omega) (by omega), w64 (x := ((0 * 256 + a) * 256 + b) * 256) (by omega) (by omega), or8 (by omega) (by omega) hc.1 hc.2]
  rw [pack_Take.l0, if_pos (by decide), if_pos (by decide), if_pos (by simp), e4, show rd [a, b, c, d] 3 = d from rfl, w64 (x := d) (by omega) (by omega), w64 (x := (((0 * 256 + a) * 256 + b) * 256 + c) * 256) (by omega) (by omega), or8 (by omega) (by omega) hd.1 hd.2]
  rw [pack_Take.l0, if_neg (by decide), if_pos (by decide), if_pos (by simp), show ([a, b, c, d] : List Int).drop (4 : Int).toNat = [] from rfl]
  unfold bytes_Clone.f
  rw [if_pos (by decide)]
  simp only [Option.bind_some]
  rw [show (((0 * 256 + a) * 256 + b) * 256 + c) * 256 + d = a * 16777216 + b * 65536 + c * 256 + d from by omega]

end Go.Proofs.Ythlhfnbaihdjkaa.Q
