/- Bits of a word of 64: the sign, the parts, put together. Plain laws. No condition. -/
import Derived.Test.YtcpfangcibilaaaDoorFg
import Derived.Laws.BitsAllLaws
namespace Go.Proofs.YtcpfangcibilaaaDoor
set_option linter.unusedVariables false
set_option linter.unusedSimpArgs false
open Ieee

theorem and_low (x i : Nat) : x &&& (2 ^ i - 1) = x % 2 ^ i := Nat.and_two_pow_sub_one_eq_mod x i
theorem bits_abs (x : Nat) (hx : x < 18446744073709551616) : bits .andNot .u64 (x : Int) 9223372036854775808 = (rung x : Int) := by
  rw [show (9223372036854775808 : Int) = ((9223372036854775808 : Nat) : Int) from rfl, u64_andNot_nat x _ hx (by decide)]
  congr 1
  exact and_low x 63
theorem and_sign (x : Nat) (hx : x < 18446744073709551616) : x &&& 9223372036854775808 = if sgn x then 9223372036854775808 else 0 := by
  have ht : x.testBit 63 = sgn x := by
    rw [Nat.testBit_eq_decide_div_mod_eq]
    unfold sgn
    rw [show 2 ^ 63 = 9223372036854775808 by decide]
    by_cases h1 : x / 9223372036854775808 % 2 = 1 <;> simp [h1]
  have e : 9223372036854775808 = 2 ^ 63 := by decide
  rw [← ht]
  apply Nat.eq_of_testBit_eq
  intro i
  rw [Nat.testBit_and, e, Nat.testBit_two_pow]
  by_cases hi : 63 = i
  · subst hi
    cases h2 : x.testBit 63
    · simp
    · simp; decide
  · cases h2 : x.testBit 63
    · simp [hi]
    · simp [hi]; rw [e, Nat.testBit_two_pow]; simp [hi]
theorem bits_sign (x : Nat) (hx : x < 18446744073709551616) : bits .and .u64 (x : Int) 9223372036854775808 = if sgn x then 9223372036854775808 else 0 := by
  rw [show (9223372036854775808 : Int) = ((9223372036854775808 : Nat) : Int) from rfl, u64_and_nat x _ hx (by decide), and_sign x hx]
  split <;> rfl
/-- The exponent's bits cleared. -/
theorem bits_clear (x : Nat) (hx : x < 18446744073709551616) : bits .andNot .u64 (x : Int) 9218868437227405312 = (((if sgn x then 9223372036854775808 else 0) + rung x % 4503599627370496 : Nat) : Int) := by
  rw [show (9218868437227405312 : Int) = ((9218868437227405312 : Nat) : Int) from rfl, u64_andNot_nat x _ hx (by decide)]
  congr 1
  rw [show 18446744073709551615 - 9218868437227405312 = 9223372036854775808 ||| 4503599627370495 by decide, Nat.and_or_distrib_left, and_sign x hx]
  have h2 : x &&& 4503599627370495 = x % 4503599627370496 := and_low x 52
  rw [h2, show x % 4503599627370496 = rung x % 4503599627370496 by unfold rung; omega]
  refine nat_join 52 _ _ ?_ (by omega)
  split <;> decide
/-- A sign, an exponent, a fraction put together. -/
theorem or_parts (s : Bool) (e f : Nat) (he : e < 2048) (hf : f < 4503599627370496) : ((if s then 9223372036854775808 else 0) + f) ||| (e * 4503599627370496) = (if s then 9223372036854775808 else 0) + (e * 4503599627370496 + f) := by
  have h1 : (if s then 9223372036854775808 else 0) + f = (if s then 9223372036854775808 else 0) ||| f := (nat_join 52 _ _ (by split <;> decide) (by omega)).symm
  have h2 : f ||| e * 4503599627370496 = e * 4503599627370496 + f := by rw [Nat.or_comm]; exact nat_join 52 _ _ (by omega) (by omega)
  rw [h1, Nat.or_assoc, h2]
  exact nat_join 63 _ _ (by split <;> decide) (by omega)
theorem bits_parts (s : Bool) (e f : Nat) (he : e < 2048) (hf : f < 4503599627370496) : bits .or .u64 (((if s then 9223372036854775808 else 0) + f : Nat) : Int) ((e * 4503599627370496 : Nat) : Int) = (((if s then 9223372036854775808 else 0) + (e * 4503599627370496 + f) : Nat) : Int) := by
  rw [u64_or_nat _ _ (by split <;> omega) (by omega), or_parts s e f he hf]
theorem word_parts (s : Bool) (r : Nat) : double.word s r = (if s then 9223372036854775808 else 0) + r := by rw [word_eq]; split <;> omega
theorem bits_expo (x : Nat) (hx : x < 18446744073709551616) : bits .and .u64 ((x / 4503599627370496 : Nat) : Int) 2047 = ((rung x / 4503599627370496 : Nat) : Int) := by
  rw [show (2047 : Int) = ((2047 : Nat) : Int) from rfl, u64_and_nat _ _ (by omega) (by decide)]
  congr 1
  have := and_low (x / 4503599627370496) 11
  rw [show 2 ^ 11 - 1 = 2047 by decide, show 2 ^ 11 = 2048 by decide] at this
  rw [this, expo_eq]
end Go.Proofs.YtcpfangcibilaaaDoor
