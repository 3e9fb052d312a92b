/- The nearest whole number by bits; whole numbers as words; sums that are exact. Plain laws. No condition. -/
import Derived.Test.YtcpfangcibilaaaDoorFa
namespace Go.Proofs.YtcpfangcibilaaaDoor
set_option linter.unusedVariables false
set_option linter.unusedSimpArgs false
open Ieee

/-- The nearest whole number of a finite word, its word without the sign. -/
def rwR (r : Nat) : Nat := rungOf (rne (mag r) 1074 * 2 ^ 1074)
theorem mag_big {r : Nat} (h : 4503599627370496 ≤ r) : mag r = (4503599627370496 + r % 4503599627370496) * 2 ^ (r / 4503599627370496 - 1) := by
  unfold mag; rw [if_neg (by omega)]
theorem rwR_great {r : Nat} (h : 1075 ≤ r / 4503599627370496) (hi : r < INF) : rwR r = r := by
  have e1 := mag_big (r := r) (by omega)
  obtain ⟨K, hK⟩ : ∃ K, K = 1074 := ⟨_, rfl⟩
  have hx : rne (mag r) K * 2 ^ K = mag r := by
    rw [e1, show r / 4503599627370496 - 1 = (r / 4503599627370496 - 1 - K) + K by omega, Nat.pow_add, ← Nat.mul_assoc, rne_exact]
  unfold rwR
  rw [← hK, hx, rungOf_mag (by omega)]
theorem pow_le_of (a b : Nat) (h : a ≤ b) : 2 ^ a ≤ 2 ^ b := Nat.pow_le_pow_right (by decide) h
theorem rne_low {n d : Nat} (h : 2 * n < 2 ^ d) : rne n d = 0 := by
  unfold rne
  rw [Nat.div_eq_of_lt (by omega), Nat.mod_eq_of_lt (by omega), if_neg (by omega)]
theorem rungOf_zero : rungOf 0 = 0 := by decide
theorem rwR_small {r : Nat} (h : r / 4503599627370496 < 1022) : rwR r = 0 := by
  obtain ⟨K, hK⟩ : ∃ K, K = 1074 := ⟨_, rfl⟩
  have hm : 2 * mag r < 2 ^ K := by
    have h1 : mag r < 2 ^ (K - 1) := by
      by_cases h0 : r < 4503599627370496
      · have : mag r = r := by unfold mag; rw [if_pos h0]
        have := pow_le_of 52 (K - 1) (by omega)
        omega
      · rw [mag_big (by omega)]
        have := pow_le_of (53 + (r / 4503599627370496 - 1)) (K - 1) (by omega)
        rw [Nat.pow_add] at this
        refine Nat.lt_of_lt_of_le ?_ this
        exact Nat.mul_lt_mul_of_pos_right (by omega) (Nat.two_pow_pos _)
    have : 2 ^ K = 2 * 2 ^ (K - 1) := by rw [show K = (K - 1) + 1 by omega, Nat.pow_succ]; simp; omega
    omega
  unfold rwR
  rw [← hK, rne_low hm, Nat.zero_mul, rungOf_zero]
theorem pow_one (k : Nat) (hk : 52 ≤ k) (hk2 : k - 51 < 2047) : rungOf (1 * 2 ^ k) = (k - 51) * 4503599627370496 := by
  have : mag ((k - 51) * 4503599627370496) = 1 * 2 ^ k := by
    rw [mag_big (by omega), show (k - 51) * 4503599627370496 / 4503599627370496 - 1 = k - 52 by omega, show (k - 51) * 4503599627370496 % 4503599627370496 = 0 by omega, Nat.add_zero, show 4503599627370496 = 2 ^ 52 by decide, ← Nat.pow_add, Nat.one_mul]
    congr 1; omega
  rw [← this, rungOf_mag (by unfold INF; omega)]
theorem rwR_half {r : Nat} (h : r / 4503599627370496 = 1022) : rwR r = if r % 4503599627370496 = 0 then 0 else 4607182418800017408 := by
  obtain ⟨K, hK⟩ : ∃ K, K = 1074 := ⟨_, rfl⟩
  have e1 := mag_big (r := r) (by omega)
  have hp : 2 ^ K = 9007199254740992 * 2 ^ (r / 4503599627370496 - 1) := by
    rw [show 9007199254740992 = 2 ^ 53 by decide, ← Nat.pow_add]; congr 1; omega
  have hc := Nat.two_pow_pos (r / 4503599627370496 - 1)
  have hr : rne (mag r) K = if r % 4503599627370496 = 0 then 0 else 1 := by
    rw [e1, show K = 53 + (r / 4503599627370496 - 1) by omega, rne_scale]
    unfold rne
    have hf : r % 4503599627370496 < 4503599627370496 := by omega
    generalize r % 4503599627370496 = f at *
    rw [Nat.div_eq_of_lt (by omega), Nat.mod_eq_of_lt (by omega)]
    by_cases h0 : f = 0
    · subst h0; decide
    · rw [if_pos (.inl (by omega)), if_neg h0]
  unfold rwR
  rw [← hK, hr]
  split
  · rw [Nat.zero_mul, rungOf_zero]
  · rw [pow_one K (by omega) (by omega)]; omega
theorem rwR_mid {r : Nat} (n : Nat) (h1 : 1023 ≤ r / 4503599627370496) (h2 : r / 4503599627370496 ≤ 1074) (hn : n = 1075 - r / 4503599627370496) :
    rwR r = r - r % 2 ^ n + (if 2 ^ n < 2 * (r % 2 ^ n) ∨ 2 ^ n = 2 * (r % 2 ^ n) ∧ r / 2 ^ n % 2 = 1 then 2 ^ n else 0) := by
  obtain ⟨K, hK⟩ : ∃ K, K = 1074 := ⟨_, rfl⟩
  obtain ⟨e, he⟩ : ∃ e, e = r / 4503599627370496 := ⟨_, rfl⟩
  have e1 := mag_big (r := r) (by omega)
  rw [← he] at e1 h1 h2 hn
  have hB : 4503599627370496 = 2 ^ n * 2 ^ (52 - n) := by rw [← Nat.pow_add, show n + (52 - n) = 52 by omega]
  obtain ⟨f, hf⟩ : ∃ f, f = r % 4503599627370496 := ⟨_, rfl⟩
  have hr : r = e * 4503599627370496 + f := by omega
  have hfB : f < 4503599627370496 := by omega
  rw [← hf] at e1
  have hpar : n = 52 ∨ 2 ^ (52 - n) % 2 = 0 := by
    by_cases hn2 : n = 52
    · exact .inl hn2
    · right; rw [show 52 - n = (51 - n) + 1 by omega, Nat.pow_succ]; omega
  have he52 : n = 52 → e = 1023 ∧ 2 ^ (52 - n) = 1 := fun h => ⟨by omega, by rw [h]⟩
  obtain ⟨g, hg⟩ : ∃ g, g = 2 ^ n := ⟨_, rfl⟩
  obtain ⟨c, hc⟩ : ∃ c, c = 2 ^ (52 - n) := ⟨_, rfl⟩
  have hg0 : 0 < g := by rw [hg]; exact Nat.two_pow_pos n
  have hc0 : 0 < c := by rw [hc]; exact Nat.two_pow_pos _
  rw [← hg, ← hc] at hB
  rw [← hc] at hpar he52
  obtain ⟨a, ha⟩ : ∃ a, a = f / g := ⟨_, rfl⟩
  obtain ⟨l, hl⟩ : ∃ l, l = f % g := ⟨_, rfl⟩
  have hfa : f = g * a + l := by rw [ha, hl]; exact (Nat.div_add_mod f g).symm
  have hlg : l < g := by rw [hl]; exact Nat.mod_lt _ hg0
  have hac : a < c := by rw [ha]; exact Nat.div_lt_of_lt_mul (by rw [← hB]; exact hfB)
  have hr2 : r = g * (e * c + a) + l := by rw [hr, hfa, hB, Nat.mul_add, Nat.mul_left_comm g e c]; omega
  have m1 : r % g = l := by rw [hr2, Nat.mul_add_mod, Nat.mod_eq_of_lt hlg]
  have d1 : r / g = e * c + a := by rw [hr2, Nat.mul_add_div hg0, Nat.div_eq_of_lt hlg, Nat.add_zero]
  have hb2 : 4503599627370496 + f = g * (c + a) + l := by rw [hfa, hB, Nat.mul_add]; omega
  have m2 : (4503599627370496 + f) % g = l := by rw [hb2, Nat.mul_add_mod, Nat.mod_eq_of_lt hlg]
  have d2 : (4503599627370496 + f) / g = c + a := by rw [hb2, Nat.mul_add_div hg0, Nat.div_eq_of_lt hlg, Nat.add_zero]
  have hpp : (e * c + a) % 2 = (c + a) % 2 := by
    rcases hpar with h | h
    · obtain ⟨h3, h4⟩ := he52 h
      rw [h3, h4]; omega
    · rw [Nat.add_mod, Nat.mul_mod, h, Nat.mul_zero, Nat.add_mod c, h]
  have hrne : rne (mag r) K = c + a + (if g < 2 * l ∨ g = 2 * l ∧ (e * c + a) % 2 = 1 then 1 else 0) := by
    rw [e1, show K = n + (e - 1) by omega, rne_scale]
    unfold rne
    rw [← hg, m2, d2, hpp]
  obtain ⟨up, hup⟩ : ∃ u, u = (if g < 2 * l ∨ g = 2 * l ∧ (e * c + a) % 2 = 1 then 1 else 0) := ⟨_, rfl⟩
  have hup1 : up ≤ 1 := by rw [hup]; split <;> omega
  have hgoal : (if g < 2 * l ∨ g = 2 * l ∧ (e * c + a) % 2 = 1 then g else 0) = g * up := by rw [hup]; split <;> simp
  unfold rwR
  rw [← hK, ← hg, hrne, m1, d1, hgoal, ← hup]
  have ht : r - l = e * 4503599627370496 + g * a := by omega
  rw [ht]
  obtain ⟨t, htt⟩ : ∃ t, t = e * 4503599627370496 + g * a + g * up := ⟨_, rfl⟩
  rw [← htt]
  have hgc : g * (a + up) = g * a + g * up := Nat.mul_add ..
  have hpow : (c + a + up) * 2 ^ K = (g * (c + a + up)) * 2 ^ (e - 1) := by
    rw [show K = n + (e - 1) by omega, Nat.pow_add, ← hg, ← Nat.mul_assoc, Nat.mul_comm _ g]
  have hmt : mag t = (c + a + up) * 2 ^ K := by
    rw [hpow]
    by_cases hlt : a + up < c
    · have hl2 : g * (a + up) < 4503599627370496 := by rw [hB]; exact Nat.mul_lt_mul_of_pos_left hlt hg0
      rw [mag_big (by omega), show t / 4503599627370496 = e by omega, show t % 4503599627370496 = g * (a + up) by omega]
      rw [hB, Nat.add_assoc c, Nat.mul_add g c]
    · have hl2 : a + up = c := by omega
      have hl3 : g * (a + up) = 4503599627370496 := by rw [hB, hl2]
      rw [mag_big (by omega), show t / 4503599627370496 = e + 1 by omega, show t % 4503599627370496 = 0 by omega]
      rw [Nat.add_assoc c, hl2, Nat.mul_add, ← hB, show e + 1 - 1 = (e - 1) + 1 by omega, Nat.pow_succ]
      omega
  rw [← hmt]
  refine rungOf_mag ?_
  have : g * (a + up) ≤ 4503599627370496 := by rw [hB]; exact Nat.mul_le_mul_left g (by omega)
  unfold INF; omega
end Go.Proofs.YtcpfangcibilaaaDoor
