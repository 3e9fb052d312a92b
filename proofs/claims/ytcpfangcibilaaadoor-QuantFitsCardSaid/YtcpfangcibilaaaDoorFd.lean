/- Numbers of 64 bits: sums that are exact, whole numbers as words. Plain laws. No condition. -/
import Derived.Test.YtcpfangcibilaaaDoorFc
namespace Go.Proofs.YtcpfangcibilaaaDoor
set_option linter.unusedVariables false
set_option linter.unusedSimpArgs false
open Ieee

theorem word_lt (s : Bool) {r : Nat} (h : r < 9223372036854775808) : double.word s r < 18446744073709551616 := by
  rw [word_eq]; split <;> omega
theorem sv_word (s : Bool) {r : Nat} (h : r < 9223372036854775808) : sv (double.word s r) = sg s (mag r) := by
  unfold sv; rw [rung_word s h, sgn_word s h]
theorem sg_natAbs (t : Int) (s : Bool) (h : t ≠ 0 → s = decide (t < 0)) : sg s t.natAbs = t := by
  by_cases h0 : t = 0
  · subst h0; cases s <;> rfl
  · rw [h h0]; unfold sg
    by_cases h1 : t < 0
    · rw [decide_eq_true h1, if_pos rfl]; omega
    · rw [decide_eq_false h1]; simp; omega
/-- The sign of a sum. -/
def sumS (x y : Nat) : Bool := if sv x + sv y = 0 then sgn x && sgn y else decide (sv x + sv y < 0)
theorem add_fin {x y : Nat} (hx : rung x < INF) (hy : rung y < INF) : double.add x y = some (double.word (sumS x y) (rungOf (sv x + sv y).natAbs)) := by
  obtain ⟨m, i, e1, i0, e2⟩ := read_fin hx
  obtain ⟨n, j, e3, j0, e4⟩ := read_fin hy
  unfold Format.add
  rw [e1, e3]
  simp only [Datum.sum, Option.map_some, signed_eq, Format.write]
  generalize hb : min i j = b
  have hbi : b ≤ i := by omega
  have hbj : b ≤ j := by omega
  have hb0 : -1074 ≤ b := by omega
  have hk := Nat.two_pow_pos (b + 1074).toNat
  have hsx : sv x = sg (sgn x) (m * 2 ^ (i - b).toNat) * ((2 ^ (b + 1074).toNat : Nat) : Int) := by
    unfold sv
    rw [← e2, ← sg_mul, Nat.mul_assoc, ← Nat.pow_add, show (i - b).toNat + (b + 1074).toNat = (i + 1074).toNat by omega]
  have hsy : sv y = sg (sgn y) (n * 2 ^ (j - b).toNat) * ((2 ^ (b + 1074).toNat : Nat) : Int) := by
    unfold sv
    rw [← e4, ← sg_mul, Nat.mul_assoc, ← Nat.pow_add, show (j - b).toNat + (b + 1074).toNat = (j + 1074).toNat by omega]
  generalize sg (sgn x) (m * 2 ^ (i - b).toNat) = p at *
  generalize sg (sgn y) (n * 2 ^ (j - b).toNat) = q at *
  have hsum : sv x + sv y = (p + q) * ((2 ^ (b + 1074).toNat : Nat) : Int) := by rw [hsx, hsy, Int.add_mul]
  rw [nearest_eq _ _ _ hb0]
  have habs : (sv x + sv y).natAbs = (p + q).natAbs * 2 ^ (b + 1074).toNat := by rw [hsum, Int.natAbs_mul, Int.natAbs_natCast]
  rw [habs]
  unfold sumS
  rw [hsum]
  generalize 2 ^ (b + 1074).toNat = k at *
  have hk' : (0 : Int) < (k : Int) := by omega
  have z1 : ((p + q) * (k : Int) = 0) ↔ p + q = 0 := by
    rw [Int.mul_eq_zero]; omega
  have z2 : ((p + q) * (k : Int) < 0) ↔ p + q < 0 := by
    constructor
    · intro h; exact Int.not_le.1 fun h2 => absurd h (Int.not_lt.2 (Int.mul_nonneg h2 (by omega)))
    · intro h; exact Int.mul_neg_of_neg_of_pos h hk'
  simp only [z1, z2]
/-- A sum of what has few digits is exact. -/
theorem add_dy {x y : Nat} {a b : Int} (e : Nat) (hx : rung x < INF) (hy : rung y < INF) (ha : sv x = a * ((2 ^ e : Nat) : Int)) (hb : sv y = b * ((2 ^ e : Nat) : Int)) (h1 : (a + b).natAbs ≤ 9007199254740992) (h2 : (a + b).natAbs * 2 ^ e < mag INF) :
    ∃ z, double.add x y = some z ∧ z < 18446744073709551616 ∧ rung z < INF ∧ sv z = (a + b) * ((2 ^ e : Nat) : Int) ∧ sgn z = sumS x y := by
  have hs : sv x + sv y = (a + b) * ((2 ^ e : Nat) : Int) := by rw [ha, hb, Int.add_mul]
  have habs : (sv x + sv y).natAbs = (a + b).natAbs * 2 ^ e := by rw [hs, Int.natAbs_mul, Int.natAbs_natCast]
  obtain ⟨m1, m2⟩ := mag_rungOf h1 h2
  have hr : rungOf ((a + b).natAbs * 2 ^ e) < 9223372036854775808 := by have : INF = 9218868437227405312 := rfl; omega
  refine ⟨_, add_fin hx hy, ?_, ?_, ?_, ?_⟩
  · rw [habs]; exact word_lt _ hr
  · rw [habs, rung_word _ hr]; exact m2
  · rw [habs, sv_word _ hr, m1, ← habs, ← hs]
    refine sg_natAbs _ _ (fun h => ?_)
    unfold sumS; rw [if_neg h]
  · rw [habs, sgn_word _ hr]
theorem ofInt_eq (n : Int) : double.nearest (decide (n < 0)) n.natAbs 0 = double.word (decide (n < 0)) (rungOf (n.natAbs * 2 ^ (0 + 1074 : Int).toNat)) := nearest_eq _ _ _ (by omega)
theorem small_lt_inf (k e : Nat) (hk : k ≤ 9007199254740992) (he : e ≤ 2044) : k * 2 ^ e < mag INF := by
  obtain ⟨K, hK⟩ : ∃ K, K = 2044 := ⟨_, rfl⟩
  have h1 : mag INF = 4503599627370496 * (2 ^ K * 4) := by
    rw [mag_big (by decide), show INF / 4503599627370496 - 1 = K + 2 by rw [hK]; decide, show INF % 4503599627370496 = 0 by decide, Nat.pow_add]
  have h3 : 2 ^ e ≤ 2 ^ K := Nat.pow_le_pow_right (by decide) (by omega)
  have h4 := Nat.two_pow_pos K
  rw [h1]
  generalize 2 ^ K = K2 at *
  generalize 2 ^ e = g at *
  calc k * g ≤ 9007199254740992 * K2 := Nat.mul_le_mul hk h3
    _ < 4503599627370496 * (K2 * 4) := by omega
/-- A whole number's word. -/
theorem ofInt_dy (n : Int) (h : n.natAbs ≤ 9007199254740992) :
    ∃ z, FloatKind.f64.nearest n = z ∧ z < 18446744073709551616 ∧ rung z < INF ∧ sv z = n * ((2 ^ 1074 : Nat) : Int) ∧ sgn z = decide (n < 0) := by
  obtain ⟨K, hK⟩ : ∃ K, K = 1074 := ⟨_, rfl⟩
  obtain ⟨m1, m2⟩ := mag_rungOf h (small_lt_inf n.natAbs K h (by omega))
  have hr : rungOf (n.natAbs * 2 ^ K) < 9223372036854775808 := by have : INF = 9218868437227405312 := rfl; omega
  have h0 : FloatKind.f64.nearest n = double.word (decide (n < 0)) (rungOf (n.natAbs * 2 ^ K)) := by
    have := ofInt_eq n
    rw [show (0 + 1074 : Int).toNat = K by omega] at this
    exact this
  refine ⟨_, h0, word_lt _ hr, ?_, ?_, sgn_word _ hr⟩
  · rw [rung_word _ hr]; exact m2
  · rw [sv_word _ hr, m1, sg_mul, sg_natAbs _ _ (fun _ => rfl), hK]
theorem cmp_dy {x y : Nat} {a b : Int} (e : Nat) (hx : rung x ≤ INF) (hy : rung y ≤ INF) (ha : sv x = a * ((2 ^ e : Nat) : Int)) (hb : sv y = b * ((2 ^ e : Nat) : Int)) : double.order x y = some (compare a b) := by
  rw [order_num hx hy, ha, hb, ← cmp_scale _ _ _ (by have := Nat.two_pow_pos e; omega)]
theorem dy_up {x : Nat} {a : Int} (e k : Nat) (h : sv x = a * ((2 ^ (e + k) : Nat) : Int)) : sv x = (a * ((2 ^ k : Nat) : Int)) * ((2 ^ e : Nat) : Int) := by
  rw [h, Nat.pow_add, Int.mul_assoc]; congr 1; rw [Nat.mul_comm]; exact Int.natCast_mul _ _
/-- Two words that stand for one number are the same, but for zeros. -/
theorem sv_inj {x y : Nat} (hx : x < 18446744073709551616) (hy : y < 18446744073709551616) (h : sv x = sv y) (hs : sgn x = sgn y) : x = y := by
  have h1 := sr_eq_rung ((sv_eq_iff x y).1 h)
  rw [← word_self hx, ← word_self hy, h1, hs]
end Go.Proofs.YtcpfangcibilaaaDoor
