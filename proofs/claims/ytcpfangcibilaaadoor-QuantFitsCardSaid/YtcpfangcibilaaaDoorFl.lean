/- Numbers of 64 bits: the nearest one to any whole number by a power of two. Plain laws. No condition. -/
import Derived.Test.YtcpfangcibilaaaDoorFk
namespace Go.Proofs.YtcpfangcibilaaaDoor
set_option linter.unusedVariables false
set_option linter.unusedSimpArgs false
open Ieee

/-- The rung of the number nearest to 'u * 2 ^ p'. -/
def mkR (u : Nat) (p : Int) : Nat := min ((max (p + (u.log2 : Int) - 52) (-1074) - -1074).toNat * 4503599627370496 + rne (u * 2 ^ (p - max (p + (u.log2 : Int) - 52) (-1074)).toNat) (max (p + (u.log2 : Int) - 52) (-1074) - p).toNat) INF
theorem nearest_mk (s : Bool) {u : Nat} (h : u ≠ 0) (p : Int) : double.nearest s u p = double.word s (mkR u p) := by
  unfold Format.nearest mkR
  rw [if_neg h]
  simp only [cut_even, Nat.shiftLeft_eq, dbl_least, dbl_binade, dbl_inf, show (double.fractionBits : Int) = 52 from rfl]
theorem mkR_le (u : Nat) (p : Int) : mkR u p ≤ INF := Nat.min_le_right _ _
theorem mkR_scale {u : Nat} (h : 0 < u) (k : Nat) (p : Int) : mkR (u * 2 ^ k) p = mkR u (p + k) := by
  unfold mkR
  rw [log2_scale h k, show p + ((u.log2 + k : Nat) : Int) - 52 = p + k + u.log2 - 52 by omega]
  obtain ⟨q, hq⟩ : ∃ q, q = max (p + k + u.log2 - 52) (-1074) := ⟨_, rfl⟩
  rw [← hq]
  have e : rne (u * 2 ^ k * 2 ^ (p - q).toNat) (q - p).toNat = rne (u * 2 ^ (p + k - q).toNat) (q - (p + k)).toNat := by
    clear hq
    obtain ⟨a, ha⟩ : ∃ a, a = (p - q).toNat := ⟨_, rfl⟩
    obtain ⟨b, hb⟩ : ∃ b, b = (q - p).toNat := ⟨_, rfl⟩
    obtain ⟨c, hc⟩ : ∃ c, c = (p + k - q).toNat := ⟨_, rfl⟩
    obtain ⟨d, hd⟩ : ∃ d, d = (q - (p + k)).toNat := ⟨_, rfl⟩
    rw [← ha, ← hb, ← hc, ← hd]
    by_cases h1 : q ≤ p
    · obtain rfl : b = 0 := by omega
      obtain rfl : d = 0 := by omega
      obtain rfl : c = k + a := by omega
      rw [rne_zero, rne_zero, Nat.pow_add, Nat.mul_assoc]
    · obtain rfl : a = 0 := by omega
      rw [Nat.pow_zero, Nat.mul_one]
      by_cases h2 : p + k ≤ q
      · obtain rfl : c = 0 := by omega
        obtain rfl : b = d + k := by omega
        rw [Nat.pow_zero, Nat.mul_one, rne_scale]
      · obtain rfl : d = 0 := by omega
        obtain rfl : k = c + b := by omega
        rw [rne_zero, Nat.pow_add, ← Nat.mul_assoc, rne_exact]
  rw [e]
theorem mkR_mag {m : Nat} (h : m ≠ 0) {p : Int} (hp : -1074 ≤ p) : mkR m p = rungOf (m * 2 ^ (p + 1074).toNat) := by
  have h1 := nearest_eq false m p hp
  rw [nearest_mk false h, word_eq, word_eq] at h1
  simp only [Bool.false_eq_true, if_false] at h1
  exact h1
theorem read_one (t : Bool) : double.read (double.word t 4607182418800017408) = .number t 4503599627370496 (-52) := by
  rw [read_eq, rung_word _ (by decide), sgn_word _ (by decide), if_neg (by decide), if_pos (by decide)]
  have e1 : 4503599627370496 + 4607182418800017408 % 4503599627370496 = 4503599627370496 := by decide
  have e2 : (-1074 : Int) + ((4607182418800017408 / 4503599627370496 - 1 : Nat) : Int) = -52 := by decide
  rw [e1, e2]
/-- One, or one below nothing, times a number. -/
theorem mul_sign (t : Bool) {z : Nat} (h2 : rung z ≤ INF) : double.mul (double.word t 4607182418800017408) z = some (double.word (t ^^ sgn z) (rung z)) := by
  unfold Format.mul
  rw [read_one]
  by_cases hf : rung z < INF
  · obtain ⟨m, p, e1, e2, e3⟩ := read_fin hf
    rw [e1]
    simp only [Datum.product, Option.map_some, Format.write]
    by_cases h0 : m = 0
    · subst h0
      rw [Nat.zero_mul] at e3
      have : rung z = 0 := by
        rcases Nat.eq_zero_or_pos (rung z) with h | h
        · exact h
        · have := mag_pos h; omega
      rw [this]
      unfold Format.nearest
      rw [if_pos (by omega)]
    · rw [nearest_mk _ (by omega), Nat.mul_comm, show 4503599627370496 = 2 ^ 52 by decide, mkR_scale (by omega), show (-52 : Int) + p + (52 : Nat) = p by omega, mkR_mag h0 e2, e3, rungOf_mag h2]
  · have hi : rung z = INF := by omega
    rw [read_inf hi, hi]
    simp only [Datum.product]
    rw [if_neg (by decide)]
    simp only [Option.map_some, Format.write, dbl_inf]
    rw [Bool.xor_comm]
/-- A small number by way of a usual one. -/
theorem mul_small {n L : Nat} (h0 : 0 < n) (hL : n.log2 = L) (hL2 : L ≤ 51) : double.mul 4368491638549381120 ((L + 1) * 4503599627370496 + n * 2 ^ (52 - L)) = some n := by
  have hp : INF = 9218868437227405312 := rfl
  have b1 := Nat.log2_self_le (show n ≠ 0 by omega)
  have b2 := lt_log2 n
  rw [hL] at b1 b2
  have c1 : 4503599627370496 ≤ n * 2 ^ (52 - L) := by
    have := Nat.mul_le_mul_right (2 ^ (52 - L)) b1
    rw [← Nat.pow_add, show L + (52 - L) = 52 by omega, show 2 ^ 52 = 4503599627370496 by decide] at this
    exact this
  have c2 : n * 2 ^ (52 - L) < 9007199254740992 := by
    have := Nat.mul_lt_mul_of_pos_right b2 (Nat.two_pow_pos (52 - L))
    rw [← Nat.pow_add, show L + 1 + (52 - L) = 53 by omega, show 2 ^ 53 = 9007199254740992 by decide] at this
    exact this
  have hn : n < 4503599627370496 := by
    have : 2 ^ (L + 1) ≤ 2 ^ 52 := Nat.pow_le_pow_right (by decide) (by omega)
    rw [show 2 ^ 52 = 4503599627370496 by decide] at this
    omega
  obtain ⟨T, hT⟩ : ∃ T, T = n * 2 ^ (52 - L) := ⟨_, rfl⟩
  rw [← hT] at c1 c2 ⊢
  obtain ⟨y, hy⟩ : ∃ y, y = (L + 1) * 4503599627370496 + T := ⟨_, rfl⟩
  have hr : rung y = y := Nat.mod_eq_of_lt (by omega)
  have hs : sgn y = false := by
    unfold sgn
    have : y / 9223372036854775808 % 2 = 0 := by omega
    rw [this]; rfl
  have e1 : double.read 4368491638549381120 = .number false 4503599627370496 (-105) := by rw [read_eq]; decide
  have e2 : double.read y = .number false T (-1073 + (L : Int)) := by
    rw [read_eq, hr, hs, if_neg (by omega), if_pos (by omega)]
    have a1 : 4503599627370496 + y % 4503599627370496 = T := by omega
    have a2 : (-1074 : Int) + ((y / 4503599627370496 - 1 : Nat) : Int) = -1073 + (L : Int) := by omega
    rw [a1, a2]
  rw [← hy]
  unfold Format.mul
  rw [e1, e2]
  simp only [Datum.product, Option.map_some, Format.write]
  rw [nearest_mk _ (by omega), Nat.mul_comm, show 4503599627370496 = 2 ^ 52 by decide, mkR_scale (by omega), hT, mkR_scale h0, show (-105 : Int) + (-1073 + (L : Int)) + (52 : Nat) + ((52 - L : Nat) : Int) = -1074 by omega, mkR_mag (by omega) (by omega), show ((-1074 : Int) + 1074).toNat = 0 by decide, Nat.pow_zero, Nat.mul_one, word_eq]
  unfold rungOf
  rw [if_pos hn]
  simp only [Bool.xor_false, Bool.false_eq_true, if_false]
  rw [Nat.min_eq_left (by omega)]
/-- A small number by 2 ^ 52. -/
theorem mul_up {x : Nat} {L : Nat} (hx : x < 18446744073709551616) (h0 : 0 < rung x) (h1 : rung x < 4503599627370496) (hL : (rung x).log2 = L) : double.mul x 4841369599423283200 = some (double.word (sgn x) (L * 4503599627370496 + rung x * 2 ^ (52 - L))) ∧ L ≤ 51 ∧ 4503599627370496 ≤ rung x * 2 ^ (52 - L) ∧ rung x * 2 ^ (52 - L) < 9007199254740992 := by
  have hp : INF = 9218868437227405312 := rfl
  have b1 := Nat.log2_self_le (show rung x ≠ 0 by omega)
  have b2 := lt_log2 (rung x)
  have hL2 : L ≤ 51 := by
    have := (Nat.log2_lt (show rung x ≠ 0 by omega)).2 (show rung x < 2 ^ 52 from h1)
    omega
  rw [hL] at b1 b2
  have c1 : 4503599627370496 ≤ rung x * 2 ^ (52 - L) := by
    have := Nat.mul_le_mul_right (2 ^ (52 - L)) b1
    rw [← Nat.pow_add, show L + (52 - L) = 52 by omega, show 2 ^ 52 = 4503599627370496 by decide] at this
    exact this
  have c2 : rung x * 2 ^ (52 - L) < 9007199254740992 := by
    have := Nat.mul_lt_mul_of_pos_right b2 (Nat.two_pow_pos (52 - L))
    rw [← Nat.pow_add, show L + 1 + (52 - L) = 53 by omega, show 2 ^ 53 = 9007199254740992 by decide] at this
    exact this
  refine ⟨?_, hL2, c1, c2⟩
  have e1 : double.read 4841369599423283200 = .number false 4503599627370496 0 := by rw [read_eq]; decide
  have e2 : double.read x = .number (sgn x) (rung x) (-1074) := by rw [read_eq, if_pos h1]
  unfold Format.mul
  rw [e1, e2]
  simp only [Datum.product, Option.map_some, Format.write]
  rw [nearest_mk _ (by omega), mkR_mag (by omega) (by omega), show ((-1074 : Int) + 0 + 1074).toNat = 0 by decide, Nat.pow_zero, Nat.mul_one, Bool.xor_false]
  have e3 : rungOf (rung x * 4503599627370496) = L * 4503599627370496 + rung x * 2 ^ (52 - L) := by
    unfold rungOf
    have l2 := log2_scale h0 52
    rw [hL, show 2 ^ 52 = 4503599627370496 by decide] at l2
    rw [if_neg (by omega), l2, show L + 52 - 52 = L by omega]
    have e4 := rne_exact (rung x * 2 ^ (52 - L)) L
    rw [Nat.mul_assoc, ← Nat.pow_add, show 52 - L + L = 52 by omega, show 2 ^ 52 = 4503599627370496 by decide] at e4
    rw [e4]
    omega
  rw [e3]
/-- The digits that are kept. -/
theorem mkR_cut {u L : Nat} {e q : Int} (h0 : 0 < u) (hL : u.log2 = L) (hq : q = max (e + (L : Int) - 52) (-1074)) :
    mkR u e = min ((q + 1074).toNat * 4503599627370496 + (if q ≤ e then u * 2 ^ (e - q).toNat else rne u (q - e).toNat)) INF ∧
    (if q ≤ e then u * 2 ^ (e - q).toNat else rne u (q - e).toNat) ≤ 9007199254740992 ∧ (q = -1074 ∨ 4503599627370496 ≤ (if q ≤ e then u * 2 ^ (e - q).toNat else rne u (q - e).toNat)) := by
  have b1 := Nat.log2_self_le (show u ≠ 0 by omega)
  have b2 := lt_log2 u
  rw [hL] at b1 b2
  unfold mkR
  rw [hL, ← hq, show q - -1074 = q + 1074 by omega]
  by_cases c : q ≤ e
  · rw [if_pos c, show (q - e).toNat = 0 by omega, rne_zero]
    obtain ⟨a, ha⟩ : ∃ a, a = (e - q).toNat := ⟨_, rfl⟩
    rw [← ha]
    have d1 := Nat.mul_le_mul_right (2 ^ a) b1
    have d2 := Nat.mul_lt_mul_of_pos_right b2 (Nat.two_pow_pos a)
    rw [← Nat.pow_add] at d1 d2
    have d3 : 2 ^ (L + 1 + a) ≤ 2 ^ 53 := Nat.pow_le_pow_right (by decide) (by omega)
    rw [show 2 ^ 53 = 9007199254740992 by decide] at d3
    refine ⟨rfl, by omega, ?_⟩
    by_cases cq : q = -1074
    · left; exact cq
    · right
      rw [show L + a = 52 by omega, show 2 ^ 52 = 4503599627370496 by decide] at d1
      exact d1
  · rw [if_neg c, show (e - q).toNat = 0 by omega, Nat.pow_zero, Nat.mul_one]
    obtain ⟨b, hb⟩ : ∃ b, b = (q - e).toNat := ⟨_, rfl⟩
    rw [← hb]
    have hu : u < 9007199254740992 * 2 ^ b := by
      have d3 : 2 ^ (L + 1) ≤ 2 ^ (53 + b) := Nat.pow_le_pow_right (by decide) (by omega)
      rw [Nat.pow_add 2 53 b, show 2 ^ 53 = 9007199254740992 by decide] at d3
      omega
    have r1 : rne u b ≤ 9007199254740992 := by
      have := rne_mono b (Nat.le_of_lt hu)
      rw [rne_exact] at this
      exact this
    refine ⟨rfl, r1, ?_⟩
    by_cases cq : q = -1074
    · left; exact cq
    · right
      have hl : 4503599627370496 * 2 ^ b ≤ u := by
        rw [show 4503599627370496 = 2 ^ 52 by decide, ← Nat.pow_add, show 52 + b = L by omega]
        exact b1
      have := rne_mono b hl
      rw [rne_exact] at this
      exact this
end Go.Proofs.YtcpfangcibilaaaDoor
