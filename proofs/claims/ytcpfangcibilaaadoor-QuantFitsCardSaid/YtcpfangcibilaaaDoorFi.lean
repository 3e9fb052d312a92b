/- Nearest words rise with the numbers; halves; what lies between two whole numbers. Plain laws. No condition. -/
import Derived.Test.YtcpfangcibilaaaDoorFh
namespace Go.Proofs.YtcpfangcibilaaaDoor
set_option linter.unusedVariables false
set_option linter.unusedSimpArgs false
open Ieee

theorem rne_mono {n m : Nat} (d : Nat) (h : n ≤ m) : rne n d ≤ rne m d := by
  have hp := Nat.two_pow_pos d
  unfold rne
  generalize 2 ^ d = g at *
  have h1 : n / g ≤ m / g := Nat.div_le_div_right h
  have e1 := Nat.div_add_mod n g
  have e2 := Nat.div_add_mod m g
  by_cases h2 : n / g = m / g
  · have h3 : n % g ≤ m % g := by
      rw [h2] at e1
      omega
    rw [h2]
    generalize m / g = a at *
    generalize m % g = r at *
    generalize n % g = s at *
    split <;> split <;> omega
  · generalize m / g = a at *
    generalize n / g = b at *
    split <;> split <;> omega
theorem rne_range {X j : Nat} (h1 : 4503599627370496 * 2 ^ j ≤ X) (h2 : X < 9007199254740992 * 2 ^ j) : 4503599627370496 ≤ rne X j ∧ rne X j ≤ 9007199254740992 := by
  have a := rne_mono j h1
  have b := rne_mono j (Nat.le_of_lt h2)
  rw [rne_exact] at a b
  exact ⟨a, b⟩
theorem log2_range {X : Nat} (h : 4503599627370496 ≤ X) : 4503599627370496 * 2 ^ (X.log2 - 52) ≤ X ∧ X < 9007199254740992 * 2 ^ (X.log2 - 52) := by
  have hX : X ≠ 0 := by omega
  have hl : 52 ≤ X.log2 := (Nat.le_log2 hX).2 (by simpa using h)
  have e1 : 4503599627370496 * 2 ^ (X.log2 - 52) = 2 ^ X.log2 := by rw [show 4503599627370496 = 2 ^ 52 by decide, ← Nat.pow_add]; congr 1; omega
  have e2 : 9007199254740992 * 2 ^ (X.log2 - 52) = 2 ^ (X.log2 + 1) := by rw [show 9007199254740992 = 2 ^ 53 by decide, ← Nat.pow_add]; congr 1; omega
  rw [e1, e2]
  exact ⟨Nat.log2_self_le hX, lt_log2 X⟩
theorem rungOf_mono {X Y : Nat} (h : X ≤ Y) : rungOf X ≤ rungOf Y := by
  unfold rungOf
  suffices hs : (if X < 4503599627370496 then X else (X.log2 - 52) * 4503599627370496 + rne X (X.log2 - 52)) ≤ (if Y < 4503599627370496 then Y else (Y.log2 - 52) * 4503599627370496 + rne Y (Y.log2 - 52)) by omega
  by_cases hx : X < 4503599627370496
  · by_cases hy : Y < 4503599627370496
    · rw [if_pos hx, if_pos hy]; exact h
    · rw [if_pos hx, if_neg hy]
      obtain ⟨a, b⟩ := log2_range (X := Y) (by omega)
      have := (rne_range a b).1
      omega
  · have hy : ¬ Y < 4503599627370496 := by omega
    rw [if_neg hx, if_neg hy]
    obtain ⟨a, b⟩ := log2_range (X := X) (by omega)
    obtain ⟨c, d⟩ := log2_range (X := Y) (by omega)
    have r1 := rne_range a b
    have r2 := rne_range c d
    have hlx : 52 ≤ X.log2 := (Nat.le_log2 (by omega)).2 (by simpa using hx)
    have hll : X.log2 ≤ Y.log2 := by
      rcases Nat.lt_or_ge Y.log2 X.log2 with h3 | h3
      · have h4 : 2 ^ (Y.log2 + 1) ≤ 2 ^ X.log2 := Nat.pow_le_pow_right (by decide) h3
        have h5 := lt_log2 Y
        have h6 := Nat.log2_self_le (n := X) (by omega)
        omega
      · exact h3
    by_cases he : X.log2 = Y.log2
    · rw [he]
      exact Nat.add_le_add_left (rne_mono _ h) _
    · have : X.log2 - 52 + 1 ≤ Y.log2 - 52 := by omega
      omega
theorem mag_mono {a b : Nat} (h : a ≤ b) : mag a ≤ mag b := by
  rcases Nat.lt_or_eq_of_le h with h | h
  · exact Nat.le_of_lt (mag_lt h)
  · rw [h]; exact Nat.le_refl _
/-- To the nearest: what is less than a half off a whole number is that number. -/
theorem rne_near {m k d : Nat} (h1 : k * 2 ^ (d + 1) ≤ m) (h2 : m < k * 2 ^ (d + 1) + 2 ^ d) : rne m (d + 1) = k := by
  have hp := Nat.two_pow_pos d
  unfold rne
  rw [Nat.pow_succ] at *
  generalize 2 ^ d = g at *
  have e : m = (g * 2) * k + (m - k * (g * 2)) := by rw [Nat.mul_comm (g * 2) k]; omega
  have d1 : m / (g * 2) = k := by
    rw [e, Nat.mul_add_div (by omega), Nat.div_eq_of_lt (by omega), Nat.add_zero]
  have m1 : m % (g * 2) = m - k * (g * 2) := by
    conv => lhs; rw [e]
    rw [Nat.mul_add_mod, Nat.mod_eq_of_lt (by omega)]
  rw [d1, m1, if_neg (by omega)]; rfl
theorem rne_near' {m k d : Nat} (h1 : m ≤ k * 2 ^ (d + 1)) (h2 : k * 2 ^ (d + 1) < m + 2 ^ d) : rne m (d + 1) = k := by
  have hp := Nat.two_pow_pos d
  by_cases he : m = k * 2 ^ (d + 1)
  · rw [he, rne_exact]
  obtain ⟨j, rfl⟩ : ∃ j, k = j + 1 := ⟨k - 1, by
    rcases Nat.eq_zero_or_pos k with h | h
    · subst h; omega
    · omega⟩
  unfold rne
  rw [Nat.pow_succ] at *
  generalize 2 ^ d = g at *
  rw [Nat.add_mul] at *
  have e : m = (g * 2) * j + (m - j * (g * 2)) := by rw [Nat.mul_comm (g * 2) j]; omega
  have d1 : m / (g * 2) = j := by
    rw [e, Nat.mul_add_div (by omega), Nat.div_eq_of_lt (by omega), Nat.add_zero]
  have m1 : m % (g * 2) = m - j * (g * 2) := by
    conv => lhs; rw [e]
    rw [Nat.mul_add_mod, Nat.mod_eq_of_lt (by omega)]
  rw [d1, m1, if_pos (.inl (by omega))]
/-- A half, rounded to the even one. -/
theorem rne_half (k d : Nat) : rne ((2 * k + 1) * 2 ^ d) (d + 1) = k + k % 2 := by
  have := rne_scale (2 * k + 1) 1 d
  rw [Nat.add_comm 1 d] at this
  rw [this]
  unfold rne
  simp only [Nat.pow_one]
  have e1 : (2 * k + 1) / 2 = k := by omega
  have e2 : (2 * k + 1) % 2 = 1 := by omega
  rw [e1, e2]
  by_cases h : k % 2 = 1
  · rw [if_pos (.inr ⟨rfl, h⟩), h]
  · rw [if_neg (by omega)]; omega
end Go.Proofs.YtcpfangcibilaaaDoor
