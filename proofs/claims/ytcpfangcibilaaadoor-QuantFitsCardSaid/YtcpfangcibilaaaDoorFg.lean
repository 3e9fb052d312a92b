/- Numbers of 64 bits and ints: comparisons with whole numbers, conversions. Plain laws. No condition. -/
import Derived.Test.YtcpfangcibilaaaDoorFe
namespace Go.Proofs.YtcpfangcibilaaaDoor
set_option linter.unusedVariables false
set_option linter.unusedSimpArgs false
open Ieee

theorem mag_of_parts (q f K : Nat) (hf : f < 4503599627370496) (hq : 1 ≤ q) (k : Nat) (hk : q - 1 = k + K) : mag (q * 4503599627370496 + f) = ((4503599627370496 + f) * 2 ^ k) * 2 ^ K := by
  rw [mag_big (by omega), show (q * 4503599627370496 + f) / 4503599627370496 - 1 = k + K by omega, show (q * 4503599627370496 + f) % 4503599627370496 = f by omega, Nat.pow_add, Nat.mul_assoc]
/-- A word that stands for a whole number. -/
def Whl (x : Nat) (n : Int) : Prop := rung x < INF ∧ sv x = n * ((2 ^ 1074 : Nat) : Int)
theorem whl_const (x : Nat) (s : Bool) (q f k : Nat) (hs : sgn x = s) (hr : rung x = q * 4503599627370496 + f) (hf : f < 4503599627370496) (hq : q = k + 1075) (hq2 : q < 2047) (n : Int) (hn : n = sg s ((4503599627370496 + f) * 2 ^ k)) : Whl x n := by
  obtain ⟨K, hK⟩ : ∃ K, K = 1074 := ⟨_, rfl⟩
  refine ⟨?_, ?_⟩
  · rw [hr]; unfold INF; omega
  · unfold sv
    rw [hs, hr, mag_of_parts q f K hf (by omega) k (by omega), hn, hK, sg_mul]
theorem whl_round {x : Nat} (h : rung x < INF) : Whl (roundW x) (rI x) := ⟨(roundW_fin h).2.1, (roundW_fin h).2.2.2⟩
theorem order_whl {x y : Nat} {a b : Int} (hx : Whl x a) (hy : Whl y b) : double.order x y = some (compare a b) := cmp_dy 1074 (Nat.le_of_lt hx.1) (Nat.le_of_lt hy.1) hx.2 hy.2
theorem lt_whl {x y : Nat} {a b : Int} (hx : Whl x a) (hy : Whl y b) : (double.order x y == some .lt) = decide (a < b) := by
  rw [order_whl hx hy]
  rcases Int.lt_trichotomy a b with h | h | h
  · rw [cmp_lt h]; simp [h]
  · subst h; rw [cmp_eq]; simp
  · rw [cmp_gt h]; simp [Int.not_lt.2 (Int.le_of_lt h)]
theorem gt_whl {x y : Nat} {a b : Int} (hx : Whl x a) (hy : Whl y b) : (double.order x y == some .gt) = decide (b < a) := by
  rw [order_whl hx hy]
  rcases Int.lt_trichotomy a b with h | h | h
  · rw [cmp_lt h]; simp [Int.not_lt.2 (Int.le_of_lt h)]
  · subst h; rw [cmp_eq]; simp
  · rw [cmp_gt h]; simp [h]
theorem ge_whl {x y : Nat} {a b : Int} (hx : Whl x a) (hy : Whl y b) : (double.order x y == some .gt || double.order x y == some .eq) = decide (b ≤ a) := by
  rw [order_whl hx hy]
  rcases Int.lt_trichotomy a b with h | h | h
  · rw [cmp_lt h]; simp [Int.not_le.2 h]
  · subst h; rw [cmp_eq]; simp
  · rw [cmp_gt h]; simp [Int.le_of_lt h]
theorem eq_whl {x y : Nat} {a b : Int} (hx : Whl x a) (hy : Whl y b) : (double.order x y == some .eq) = decide (a = b) := by
  rw [order_whl hx hy]
  rcases Int.lt_trichotomy a b with h | h | h
  · rw [cmp_lt h]; simp [Int.ne_of_lt h]
  · subst h; rw [cmp_eq]; simp
  · rw [cmp_gt h]; simp [(Int.ne_of_lt h).symm]
theorem whl_mag {x : Nat} {n : Int} (h : Whl x n) : mag (rung x) = n.natAbs * 2 ^ 1074 := by
  have h2 := h.2
  obtain ⟨K, hK⟩ : ∃ K, K = 1074 := ⟨_, rfl⟩
  rw [← hK] at h2 ⊢
  have e : (sv x).natAbs = mag (rung x) := by unfold sv sg; split <;> simp
  rw [← e, h2, Int.natAbs_mul, Int.natAbs_natCast]
theorem whl_sgn {x : Nat} {n : Int} (h : Whl x n) (h0 : n ≠ 0) : sgn x = decide (n < 0) := by
  have h2 := h.2
  obtain ⟨K, hK⟩ : ∃ K, K = 1074 := ⟨_, rfl⟩
  rw [← hK] at h2
  have hk := Nat.two_pow_pos K
  have hm := whl_mag h
  rw [← hK] at hm
  generalize 2 ^ K = k at *
  have hp : 0 < mag (rung x) := by rw [hm]; exact Nat.mul_pos (by omega) hk
  unfold sv sg at h2
  cases hs : sgn x
  · rw [hs] at h2
    simp only [Bool.false_eq_true, if_false] at h2
    rcases Int.lt_trichotomy n 0 with h3 | h3 | h3
    · have := Int.mul_neg_of_neg_of_pos h3 (show (0 : Int) < (k : Int) by omega); omega
    · omega
    · rw [decide_eq_false (by omega)]
  · rw [hs] at h2
    simp only [if_true] at h2
    rcases Int.lt_trichotomy n 0 with h3 | h3 | h3
    · rw [decide_eq_true h3]
    · omega
    · have := Int.mul_pos h3 (show (0 : Int) < (k : Int) by omega); omega
theorem toInt_whl {x : Nat} {n : Int} (h : Whl x n) : (double.read x).toInt .zero = some n := by
  rw [toInt_zero h.1, whl_mag h]
  obtain ⟨K, hK⟩ : ∃ K, K = 1074 := ⟨_, rfl⟩
  rw [← hK, Nat.mul_div_cancel _ (Nat.two_pow_pos K)]
  by_cases h0 : n = 0
  · subst h0; simp [sg]
  · rw [whl_sgn h h0, sg_natAbs n _ (fun _ => rfl)]
theorem toInt_i64 {x : Nat} {n : Int} (h : Whl x n) (h1 : -9223372036854775808 ≤ n) (h2 : n ≤ 9223372036854775807) : floatToIntVal .f64 x .i64 = some n := by
  unfold floatToIntVal
  rw [show FloatKind.f64.decode x = double.read x from rfl, toInt_whl h]
  exact if_pos (⟨h1, h2⟩ : _ ∧ _)
theorem ofInt_whl (n : Int) (h : n.natAbs ≤ 9007199254740992) : ∃ z, FloatKind.f64.nearest n = z ∧ z < 18446744073709551616 ∧ Whl z n ∧ sgn z = decide (n < 0) := by
  obtain ⟨z, h1, h2, h3, h4, h5⟩ := ofInt_dy n h
  exact ⟨z, h1, h2, ⟨h3, h4⟩, h5⟩
/-- What Whole hands back ahead of the cut. -/
def whV (x : Nat) : Int := if isn x then 0 else if rung x = INF then (if sgn x then -9223372036854775808 else 9223372036854775807) else if rI x < -9223372036854775808 then -9223372036854775808 else if 9223372036854775808 ≤ rI x then 9223372036854775807 else rI x
theorem whl_min : Whl 14114281232179134464 (-9223372036854775808) := whl_const _ true 1086 0 11 (by decide) (by decide) (by decide) (by decide) (by decide) _ (by decide)
theorem whl_max : Whl 4890909195324358656 9223372036854775808 := whl_const _ false 1086 0 11 (by decide) (by decide) (by decide) (by decide) (by decide) _ (by decide)
end Go.Proofs.YtcpfangcibilaaaDoor
