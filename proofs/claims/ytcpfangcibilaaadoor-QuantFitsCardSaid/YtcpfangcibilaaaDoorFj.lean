/- A whole number and a half; a whole number and less than a half. Plain laws. No condition. -/
import Derived.Test.YtcpfangcibilaaaDoorFi
namespace Go.Proofs.YtcpfangcibilaaaDoor
set_option linter.unusedVariables false
set_option linter.unusedSimpArgs false
open Ieee

/-- Of n and a half: the even one. -/
def evenOf (n : Int) : Int := if n % 2 = 0 then n else n + 1
theorem half_sv (K : Nat) (hK : K = 1073) : sv 4602678819172646912 = 1 * ((2 ^ K : Nat) : Int) := by
  unfold sv
  rw [show sgn 4602678819172646912 = false by decide, show rung 4602678819172646912 = 1022 * 4503599627370496 + 0 by decide]
  obtain ⟨J, hJ⟩ : ∃ J, J = 1021 := ⟨_, rfl⟩
  have e : 4503599627370496 * 2 ^ J = 2 ^ K := by
    have e1 : 52 + J = K := by omega
    rw [show 4503599627370496 = 2 ^ 52 by decide, ← Nat.pow_add, e1]
  have e2 : 1022 - 1 = 0 + J := by omega
  clear hJ hK
  have h := mag_of_parts 1022 0 J (by decide) (by decide) 0 e2
  rw [h, Nat.pow_zero, Nat.mul_one, Nat.add_zero, e]; unfold sg; simp
theorem up_one (n : Int) (K : Nat) (hK : K = 1073) : n * ((2 ^ 1074 : Nat) : Int) = (2 * n) * ((2 ^ K : Nat) : Int) := by
  obtain ⟨J, hJ⟩ : ∃ J, J = 1074 := ⟨_, rfl⟩
  rw [← hJ, show J = K + 1 by omega, Nat.pow_succ, Int.natCast_mul]
  generalize ((2 ^ K : Nat) : Int) = p
  rw [Int.mul_comm 2 n, Int.mul_assoc, Int.mul_comm p]; rfl
theorem add_half {x : Nat} {n : Int} (hx : Whl x n) (hn : n.natAbs ≤ 1073741824) (K : Nat) (hK : K = 1073) :
    ∃ z, double.add x 4602678819172646912 = some z ∧ z < 18446744073709551616 ∧ rung z < INF ∧ sv z = (2 * n + 1) * ((2 ^ K : Nat) : Int) := by
  obtain ⟨z, h1, h2, h3, h4, _⟩ := add_dy (x := x) (y := 4602678819172646912) (a := 2 * n) (b := 1) K hx.1 (by decide) (by rw [hx.2]; exact up_one n K hK) (half_sv K hK) (by omega) (small_lt_inf _ _ (by omega) (by omega))
  exact ⟨z, h1, h2, h3, h4⟩
theorem sv_abs (z : Nat) : (sv z).natAbs = mag (rung z) := by unfold sv sg; split <;> simp
theorem sv_sgn {z : Nat} (h : sv z ≠ 0) : sgn z = decide (sv z < 0) := by
  unfold sv sg at *
  cases hs : sgn z
  · rw [hs] at h; simp only [Bool.false_eq_true, if_false] at h ⊢; rw [decide_eq_false (by omega)]
  · rw [hs] at h; simp only [if_true] at h ⊢; rw [decide_eq_true (by omega)]
theorem rI_half {z : Nat} {n : Int} (K : Nat) (hK : K = 1073) (h : sv z = (2 * n + 1) * ((2 ^ K : Nat) : Int)) : rI z = evenOf n := by
  have hp := Nat.two_pow_pos K
  have ha := sv_abs z
  rw [h, Int.natAbs_mul, Int.natAbs_natCast] at ha
  have h0 : sv z ≠ 0 := by
    rw [h]; intro e
    rcases Int.mul_eq_zero.1 e with e | e <;> omega
  have hs := sv_sgn h0
  have hlt : (sv z < 0) ↔ n < 0 := by
    rw [h]
    constructor
    · intro e; rcases Int.lt_or_le n 0 with h1 | h1
      · exact h1
      · have := Int.mul_nonneg (show 0 ≤ 2 * n + 1 by omega) (show (0 : Int) ≤ ((2 ^ K : Nat) : Int) by omega); omega
    · intro e; exact Int.mul_neg_of_neg_of_pos (by omega) (by omega)
  unfold rI
  rw [hs, ← ha, show 1074 = K + 1 by omega]
  by_cases hn : n < 0
  · rw [decide_eq_true (hlt.2 hn)]
    obtain ⟨k, hk⟩ : ∃ k : Nat, (2 * n + 1).natAbs = 2 * k + 1 ∧ n = -(k : Int) - 1 := ⟨(-n - 1).toNat, by omega, by omega⟩
    rw [hk.1, rne_half]
    unfold sg evenOf
    simp only [if_true]
    split <;> omega
  · rw [decide_eq_false (fun e => hn (hlt.1 e))]
    obtain ⟨k, hk⟩ : ∃ k : Nat, (2 * n + 1).natAbs = 2 * k + 1 ∧ n = (k : Int) := ⟨n.toNat, by omega, by omega⟩
    rw [hk.1, rne_half]
    unfold sg evenOf
    simp only [Bool.false_eq_true, if_false]
    split <;> omega
theorem add_near {x p : Nat} {n : Int} (hx : Whl x n) (hn : n.natAbs ≤ 1073741824) (hp : rung p < INF) (hs : sgn p = false) (h0 : 0 < rung p) (K : Nat) (hK : K = 1073) (hlt : mag (rung p) < 2 ^ K) :
    ∃ y, double.add x p = some y ∧ y < 18446744073709551616 ∧ rung y < INF ∧ (sv y < (2 * n + 1) * ((2 ^ K : Nat) : Int) → rI y = n) := by
  have hP := mag_pos h0
  have hsp : sv p = (mag (rung p) : Int) := by unfold sv sg; rw [hs]; rfl
  have hadd := add_fin hx.1 hp
  have hsx : sv x = n * ((2 ^ (K + 1) : Nat) : Int) := by rw [hx.2]; obtain ⟨J, hJ⟩ : ∃ J, J = 1074 := ⟨_, rfl⟩; rw [← hJ, show J = K + 1 by omega]
  obtain ⟨P, hPe⟩ : ∃ P, P = mag (rung p) := ⟨_, rfl⟩
  rw [← hPe] at hP hsp hlt
  have hS : sv x + sv p = n * ((2 ^ (K + 1) : Nat) : Int) + (P : Int) := by rw [hsx, hsp]
  have hk1 := Nat.two_pow_pos K
  have hk2 : 2 ^ (K + 1) = 2 * 2 ^ K := by rw [Nat.pow_succ]; omega
  have hINF : INF = 9218868437227405312 := rfl
  by_cases h1 : 0 ≤ n
  · obtain ⟨k, rfl⟩ : ∃ k : Nat, n = (k : Int) := ⟨n.toNat, by omega⟩
    have hab : (sv x + sv p).natAbs = k * 2 ^ (K + 1) + P := by rw [hS, ← Int.natCast_mul]; omega
    obtain ⟨m1, m2⟩ := mag_rungOf (k := k) (e := K + 1) (by omega) (small_lt_inf _ _ (by omega) (by omega))
    obtain ⟨m3, m4⟩ := mag_rungOf (k := k + 1) (e := K + 1) (by omega) (small_lt_inf _ _ (by omega) (by omega))
    have q1 := rungOf_mono (show k * 2 ^ (K + 1) ≤ k * 2 ^ (K + 1) + P by omega)
    have q2 := rungOf_mono (show k * 2 ^ (K + 1) + P ≤ (k + 1) * 2 ^ (K + 1) by rw [Nat.add_mul]; omega)
    have hss : sumS x p = false := by
      unfold sumS; rw [hS, ← Int.natCast_mul]; rw [if_neg (by omega), decide_eq_false (by omega)]
    rw [hss, hab] at hadd
    have hr : rungOf (k * 2 ^ (K + 1) + P) < 9223372036854775808 := by omega
    refine ⟨_, hadd, word_lt _ hr, by rw [rung_word _ hr]; omega, fun hlt2 => ?_⟩
    have hm := mag_mono q1
    rw [m1] at hm
    rw [sv_word _ hr] at hlt2
    unfold rI
    rw [sgn_word _ hr, rung_word _ hr, show 1074 = K + 1 by omega]
    have : rne (mag (rungOf (k * 2 ^ (K + 1) + P))) (K + 1) = k := by
      refine rne_near hm ?_
      have e : sg false (mag (rungOf (k * 2 ^ (K + 1) + P))) = (mag (rungOf (k * 2 ^ (K + 1) + P)) : Int) := rfl
      rw [e] at hlt2
      have e2 : (2 * (k : Int) + 1) * ((2 ^ K : Nat) : Int) = ((k * 2 ^ (K + 1) + 2 ^ K : Nat) : Int) := by
        rw [hk2]; generalize 2 ^ K = g; rw [Int.natCast_add, Int.natCast_mul, Int.natCast_mul, Int.add_mul, Int.one_mul, ← Int.mul_assoc, Int.mul_comm (k : Int)]; rfl
      rw [e2] at hlt2
      omega
    rw [this]; rfl
  · obtain ⟨k, rfl, hk0⟩ : ∃ k : Nat, n = -(k : Int) ∧ 0 < k := ⟨(-n).toNat, by omega, by omega⟩
    have hge : 2 ^ (K + 1) ≤ k * 2 ^ (K + 1) := Nat.le_mul_of_pos_left _ hk0
    have hS2 : sv x + sv p = -((k * 2 ^ (K + 1) - P : Nat) : Int) := by
      rw [hS, Int.neg_mul, ← Int.natCast_mul]; omega
    have hab : (sv x + sv p).natAbs = k * 2 ^ (K + 1) - P := by rw [hS2]; omega
    obtain ⟨m1, m2⟩ := mag_rungOf (k := k) (e := K + 1) (by omega) (small_lt_inf _ _ (by omega) (by omega))
    have q1 := rungOf_mono (show k * 2 ^ (K + 1) - P ≤ k * 2 ^ (K + 1) by omega)
    have hss : sumS x p = true := by
      unfold sumS; rw [hS2]; rw [if_neg (by omega), decide_eq_true (by omega)]
    rw [hss, hab] at hadd
    have hr : rungOf (k * 2 ^ (K + 1) - P) < 9223372036854775808 := by omega
    refine ⟨_, hadd, word_lt _ hr, by rw [rung_word _ hr]; omega, fun hlt2 => ?_⟩
    have hm := mag_mono q1
    rw [m1] at hm
    rw [sv_word _ hr] at hlt2
    unfold rI
    rw [sgn_word _ hr, rung_word _ hr, show 1074 = K + 1 by omega]
    have : rne (mag (rungOf (k * 2 ^ (K + 1) - P))) (K + 1) = k := by
      refine rne_near' hm ?_
      have e : sg true (mag (rungOf (k * 2 ^ (K + 1) - P))) = -(mag (rungOf (k * 2 ^ (K + 1) - P)) : Int) := rfl
      rw [e] at hlt2
      have e2 : (2 * (-(k : Int)) + 1) * ((2 ^ K : Nat) : Int) = -((k * 2 ^ (K + 1) : Nat) : Int) + ((2 ^ K : Nat) : Int) := by
        rw [hk2]; generalize 2 ^ K = g; rw [Int.natCast_mul, Int.natCast_mul, Int.add_mul, Int.one_mul, Int.mul_neg, Int.neg_mul, ← Int.mul_assoc, Int.mul_comm (k : Int)]; rfl
      rw [e2] at hlt2
      omega
    rw [this]; rfl
end Go.Proofs.YtcpfangcibilaaaDoor
