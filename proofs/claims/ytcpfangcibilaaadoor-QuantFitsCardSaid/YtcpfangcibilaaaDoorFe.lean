/- The nearest whole number by bits of the word; nearest whole numbers as ints. Plain laws. No condition. -/
import Derived.Test.YtcpfangcibilaaaDoorFd
namespace Go.Proofs.YtcpfangcibilaaaDoor
set_option linter.unusedVariables false
set_option linter.unusedSimpArgs false
open Ieee

/-- The nearest whole number's word. -/
def roundW (x : Nat) : Nat := if INF ≤ rung x then x else double.word (sgn x) (rwR (rung x))
theorem rwR_le (r : Nat) : rwR r ≤ INF := rungOf_le _
theorem expo_eq (x : Nat) : x / 4503599627370496 % 2048 = rung x / 4503599627370496 := by unfold rung; omega
theorem sign_eq {x : Nat} (hx : x < 18446744073709551616) : x / 9223372036854775808 * 9223372036854775808 = if sgn x then 9223372036854775808 else 0 := by
  cases h : sgn x
  · have := sgn_false hx h
    have := rung_lt x
    simp; omega
  · have := sgn_true hx h
    have := rung_lt x
    simp; omega
theorem roundW_great {x : Nat} (hx : x < 18446744073709551616) (h : 1075 ≤ rung x / 4503599627370496) : roundW x = x := by
  unfold roundW
  split
  · rfl
  · rw [rwR_great h (by omega), word_self hx]
theorem roundW_small {x : Nat} (h : rung x / 4503599627370496 < 1022) : roundW x = if sgn x then 9223372036854775808 else 0 := by
  unfold roundW
  have hp : INF = 9218868437227405312 := rfl
  rw [if_neg (by omega), rwR_small h, word_eq]
theorem roundW_half {x : Nat} (h : rung x / 4503599627370496 = 1022) : roundW x = (if sgn x then 9223372036854775808 else 0) + (if rung x % 4503599627370496 = 0 then 0 else 4607182418800017408) := by
  unfold roundW
  have hp : INF = 9218868437227405312 := rfl
  rw [if_neg (by omega), rwR_half h, word_eq]
  split <;> simp
theorem roundW_mid {x : Nat} (hx : x < 18446744073709551616) (n : Nat) (h1 : 1023 ≤ rung x / 4503599627370496) (h2 : rung x / 4503599627370496 ≤ 1074) (hn : n = 1075 - rung x / 4503599627370496) :
    roundW x = x - x % 2 ^ n + (if 2 ^ (n - 1) < x % 2 ^ n ∨ x % 2 ^ n = 2 ^ (n - 1) ∧ x / 2 ^ n % 2 = 1 then 2 ^ n else 0) := by
  have hp : INF = 9218868437227405312 := rfl
  unfold roundW
  rw [if_neg (by omega), rwR_mid n h1 h2 hn, word_eq]
  have e2 : 2 ^ n = 2 * 2 ^ (n - 1) := by rw [show n = (n - 1) + 1 by omega, Nat.pow_succ]; simp; omega
  have e63 : 9223372036854775808 = 2 ^ n * (2 * 2 ^ (62 - n)) := by
    rw [Nat.mul_comm 2, ← Nat.pow_succ, ← Nat.pow_add, show n + (62 - n + 1) = 63 by omega]
  have hg := Nat.two_pow_pos (n - 1)
  generalize 2 ^ (62 - n) = c at *
  generalize 2 ^ (n - 1) = g1 at *
  generalize hg2 : 2 ^ n = g at *
  have hg0 : 0 < g := by omega
  have hr := rung_lt x
  have main : ∀ S, x = S * 9223372036854775808 + rung x → x % g = rung x % g ∧ x / g % 2 = rung x / g % 2 := by
    intro S hS
    have h3 : x = rung x + g * (S * (2 * c)) := by
      have : g * (S * (2 * c)) = S * 9223372036854775808 := by rw [e63, Nat.mul_left_comm]
      omega
    constructor
    · conv => lhs; rw [h3]
      rw [Nat.add_mul_mod_self_left]
    · conv => lhs; rw [h3]
      rw [Nat.add_mul_div_left _ _ hg0, Nat.mul_left_comm]
      omega
  have hmod : rung x % g ≤ rung x := Nat.mod_le _ _
  cases hs : sgn x
  · have h3 := sgn_false hx hs
    obtain ⟨m1, m2⟩ := main 0 (by omega)
    rw [m1, m2, ← h3]
    simp only [Bool.false_eq_true, if_false]
    congr 1
    have q : (g < 2 * (x % g) ∨ g = 2 * (x % g) ∧ x / g % 2 = 1) ↔ (g1 < x % g ∨ x % g = g1 ∧ x / g % 2 = 1) := by omega
    simp only [q]
  · have h3 := sgn_true hx hs
    obtain ⟨m1, m2⟩ := main 1 (by omega)
    rw [m1, m2]
    simp only [if_true]
    have q : (g < 2 * (rung x % g) ∨ g = 2 * (rung x % g) ∧ rung x / g % 2 = 1) ↔ (g1 < rung x % g ∨ rung x % g = g1 ∧ rung x / g % 2 = 1) := by omega
    simp only [q]
    omega
/-- The nearest whole number of a finite word. -/
def rI (x : Nat) : Int := sg (sgn x) (rne (mag (rung x)) 1074)
theorem rne_le53 {n d : Nat} : rne n d ≤ n / 2 ^ d + 1 := by unfold rne; split <;> omega
theorem sg_lt_iff (a b : Bool) (m n k : Nat) (hk : 0 < k) : sg a (m * k) < sg b (n * k) ↔ sg a m < sg b n := by
  rw [sg_mul, sg_mul]
  exact ⟨fun h => Int.lt_of_mul_lt_mul_right h (by omega), fun h => Int.mul_lt_mul_of_pos_right h (by omega)⟩
/-- A finite word's nearest whole number is a word that stands for it. -/
theorem rwR_mag {r : Nat} (h : r < INF) : mag (rwR r) = rne (mag r) 1074 * 2 ^ 1074 ∧ rwR r < INF := by
  have hp : INF = 9218868437227405312 := rfl
  by_cases hg : 1075 ≤ r / 4503599627370496
  · have e1 := mag_big (r := r) (by omega)
    obtain ⟨K, hK⟩ : ∃ K, K = 1074 := ⟨_, rfl⟩
    rw [rwR_great hg h, ← hK]
    refine ⟨?_, h⟩
    rw [e1, show r / 4503599627370496 - 1 = (r / 4503599627370496 - 1 - K) + K by omega, Nat.pow_add, ← Nat.mul_assoc, rne_exact]
  · obtain ⟨K, hK⟩ : ∃ K, K = 1074 := ⟨_, rfl⟩
    unfold rwR
    rw [← hK]
    have hb : mag r < 9007199254740992 * 2 ^ K := by
      by_cases h0 : r < 4503599627370496
      · have : mag r = r := by unfold mag; rw [if_pos h0]
        have := Nat.two_pow_pos K
        have := Nat.le_mul_of_pos_right 9007199254740992 this
        omega
      · rw [mag_big (by omega)]
        have h3 : 2 ^ (r / 4503599627370496 - 1) ≤ 2 ^ K := Nat.pow_le_pow_right (by decide) (by omega)
        have h4 := Nat.two_pow_pos K
        generalize 2 ^ (r / 4503599627370496 - 1) = a at *
        generalize 2 ^ K = b at *
        calc (4503599627370496 + r % 4503599627370496) * a ≤ (4503599627370496 + r % 4503599627370496) * b := Nat.mul_le_mul_left _ h3
          _ < 9007199254740992 * b := Nat.mul_lt_mul_of_pos_right (by omega) h4
    have h5 : rne (mag r) K ≤ 9007199254740992 := by
      have := rne_le53 (n := mag r) (d := K)
      have : mag r / 2 ^ K < 9007199254740992 := Nat.div_lt_of_lt_mul (by rw [Nat.mul_comm]; exact hb)
      omega
    exact mag_rungOf h5 (small_lt_inf _ K h5 (by omega))
theorem roundW_fin {x : Nat} (h : rung x < INF) : roundW x < 18446744073709551616 ∧ rung (roundW x) < INF ∧ sgn (roundW x) = sgn x ∧ sv (roundW x) = rI x * ((2 ^ 1074 : Nat) : Int) := by
  have hp : INF = 9218868437227405312 := rfl
  obtain ⟨m1, m2⟩ := rwR_mag h
  have hr : rwR (rung x) < 9223372036854775808 := by omega
  unfold roundW
  rw [if_neg (by omega)]
  refine ⟨word_lt _ hr, by rw [rung_word _ hr]; exact m2, sgn_word _ hr, ?_⟩
  rw [sv_word _ hr, m1, sg_mul]; rfl
end Go.Proofs.YtcpfangcibilaaaDoor
