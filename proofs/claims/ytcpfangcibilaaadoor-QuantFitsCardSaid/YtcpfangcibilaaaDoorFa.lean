/- Numbers of 64 bits: what their words stand for, how they are ordered, how a number is rounded. Plain laws. No condition. -/
import Derived.Laws.FloatArith
namespace Go.Proofs.YtcpfangcibilaaaDoor
set_option linter.unusedVariables false
set_option linter.unusedSimpArgs false
open Ieee

/-- A word without its sign. -/
def rung (x : Nat) : Nat := x % 9223372036854775808
/-- A word's sign. -/
def sgn (x : Nat) : Bool := x / 9223372036854775808 % 2 == 1
/-- What a word stands for, without its sign, in units of 2 ^ -1074. -/
def mag (r : Nat) : Nat := if r < 4503599627370496 then r else (4503599627370496 + r % 4503599627370496) * 2 ^ (r / 4503599627370496 - 1)
/-- The word of infinity. -/
abbrev INF : Nat := 9218868437227405312
/-- With its sign. -/
def sg (s : Bool) (m : Nat) : Int := if s then -(m : Int) else (m : Int)
def sv (x : Nat) : Int := sg (sgn x) (mag (rung x))
def sr (x : Nat) : Int := sg (sgn x) (rung x)

theorem mag_zero : mag 0 = 0 := by unfold mag; simp
theorem mag_succ (r : Nat) : mag r < mag (r + 1) := by
  unfold mag
  by_cases h : r % 4503599627370496 + 1 < 4503599627370496
  · have e1 : (r + 1) / 4503599627370496 = r / 4503599627370496 := by omega
    have e2 : (r + 1) % 4503599627370496 = r % 4503599627370496 + 1 := by omega
    by_cases h0 : r < 4503599627370496
    · have h1 : r + 1 < 4503599627370496 := by omega
      rw [if_pos h0, if_pos h1]; omega
    · rw [if_neg h0, if_neg (by omega), e1, e2]
      exact Nat.mul_lt_mul_of_pos_right (by omega) (Nat.two_pow_pos _)
  · have e1 : (r + 1) / 4503599627370496 = r / 4503599627370496 + 1 := by omega
    have e2 : (r + 1) % 4503599627370496 = 0 := by omega
    by_cases h0 : r < 4503599627370496
    · have h1 : r = 4503599627370495 := by omega
      subst h1
      decide
    · rw [if_neg h0, if_neg (by omega), e1, e2]
      obtain ⟨q, hq⟩ : ∃ q, r / 4503599627370496 = q + 1 := ⟨r / 4503599627370496 - 1, by omega⟩
      rw [hq]
      simp only [Nat.add_sub_cancel, Nat.pow_succ]
      have := Nat.two_pow_pos q
      generalize 2 ^ q = p at *
      have hf : r % 4503599627370496 = 4503599627370495 := by omega
      rw [hf]
      omega
theorem mag_lt {r s : Nat} (h : r < s) : mag r < mag s := by
  induction s with
  | zero => omega
  | succ s ih =>
    by_cases e : r = s
    · subst e; exact mag_succ r
    · exact Nat.lt_trans (ih (by omega)) (mag_succ s)
theorem mag_lt_iff {r s : Nat} : mag r < mag s ↔ r < s := by
  refine ⟨fun h => ?_, mag_lt⟩
  rcases Nat.lt_trichotomy r s with h1 | h1 | h1
  · exact h1
  · subst h1; omega
  · have := mag_lt h1; omega
theorem mag_inj {r s : Nat} (h : mag r = mag s) : r = s := by
  rcases Nat.lt_trichotomy r s with h1 | h1 | h1
  · have := mag_lt h1; omega
  · exact h1
  · have := mag_lt h1; omega
theorem mag_pos {r : Nat} (h : 0 < r) : 0 < mag r := by have := mag_lt h; rw [mag_zero] at this; exact this
theorem sv_lt_iff (x y : Nat) : sv x < sv y ↔ sr x < sr y := by
  have a := @mag_lt_iff (rung x) (rung y)
  have b := @mag_lt_iff (rung y) (rung x)
  have c : rung x = 0 → mag (rung x) = 0 := fun h => by rw [h, mag_zero]
  have d : rung y = 0 → mag (rung y) = 0 := fun h => by rw [h, mag_zero]
  have c' : 0 < rung x → 0 < mag (rung x) := mag_pos
  have d' : 0 < rung y → 0 < mag (rung y) := mag_pos
  unfold sv sr sg
  split <;> split <;> omega
theorem sv_eq_iff (x y : Nat) : sv x = sv y ↔ sr x = sr y := by
  have a := sv_lt_iff x y
  have b := sv_lt_iff y x
  omega

theorem dbl_sw : double.signWeight = 9223372036854775808 := by decide
theorem dbl_binade : double.binade = 4503599627370496 := by decide
theorem dbl_inf : double.infRung = INF := by decide
theorem dbl_least : double.leastPlace = -1074 := by decide
theorem read_eq (x : Nat) : double.read x = if rung x < 4503599627370496 then .number (sgn x) (rung x) (-1074) else if rung x < INF then .number (sgn x) (4503599627370496 + rung x % 4503599627370496) (-1074 + (rung x / 4503599627370496 - 1 : Nat)) else if rung x = INF then .infinity (sgn x) else .nan (sgn x) (rung x - INF) := by
  simp only [Format.read, dbl_sw, dbl_binade, dbl_inf, dbl_least, rung, sgn]
  rfl
/-- A finite word is a number. -/
theorem read_fin {x : Nat} (h : rung x < INF) : ∃ (m : Nat) (p : Int), double.read x = .number (sgn x) m p ∧ -1074 ≤ p ∧ m * 2 ^ (p + 1074).toNat = mag (rung x) := by
  rw [read_eq]
  by_cases h0 : rung x < 4503599627370496
  · rw [if_pos h0]
    refine ⟨_, _, rfl, by omega, ?_⟩
    unfold mag
    rw [if_pos h0]
    simp
  · rw [if_neg h0, if_pos h]
    refine ⟨_, _, rfl, by omega, ?_⟩
    unfold mag
    rw [if_neg h0]
    congr 2
    omega
theorem read_inf {x : Nat} (h : rung x = INF) : double.read x = .infinity (sgn x) := by
  rw [read_eq, if_neg (by rw [h]; decide), if_neg (by omega), if_pos h]
theorem read_nan {x : Nat} (h : INF < rung x) : double.read x = .nan (sgn x) (rung x - INF) := by
  rw [read_eq, if_neg (by unfold INF at h; omega), if_neg (by omega), if_neg (by omega)]

theorem cmp_lt {a b : Int} (h : a < b) : compare a b = .lt := by
  show compareOfLessAndEq a b = .lt
  unfold compareOfLessAndEq; rw [if_pos h]
theorem cmp_eq (a : Int) : compare a a = .eq := by
  show compareOfLessAndEq a a = .eq
  unfold compareOfLessAndEq; rw [if_neg (by omega), if_pos rfl]
theorem cmp_gt {a b : Int} (h : b < a) : compare a b = .gt := by
  show compareOfLessAndEq a b = .gt
  unfold compareOfLessAndEq; rw [if_neg (by omega), if_neg (by omega)]
theorem cmp_iff {a b c d : Int} (h1 : a < b ↔ c < d) (h2 : b < a ↔ d < c) : compare a b = compare c d := by
  rcases Int.lt_trichotomy a b with h | h | h
  · rw [cmp_lt h, cmp_lt (h1.1 h)]
  · have : c = d := by omega
    subst h; subst this; rw [cmp_eq, cmp_eq]
  · rw [cmp_gt h, cmp_gt (h2.1 h)]
theorem cmp_scale (a b k : Int) (hk : 0 < k) : compare a b = compare (a * k) (b * k) :=
  cmp_iff ⟨fun h => Int.mul_lt_mul_of_pos_right h hk, fun h => Int.lt_of_mul_lt_mul_right h (by omega)⟩ ⟨fun h => Int.mul_lt_mul_of_pos_right h hk, fun h => Int.lt_of_mul_lt_mul_right h (by omega)⟩
theorem sg_mul (s : Bool) (m k : Nat) : sg s (m * k) = sg s m * (k : Int) := by
  unfold sg; split <;> simp [Int.neg_mul]
theorem signed_eq (s : Bool) (m up : Nat) : signed s m up = sg s (m * 2 ^ up) := by
  unfold signed sg; rw [Nat.shiftLeft_eq]
theorem order_num {x y : Nat} (hx : rung x ≤ INF) (hy : rung y ≤ INF) : double.order x y = some (compare (sv x) (sv y)) := by
  have mx : rung x < INF → mag (rung x) < mag INF := fun h => mag_lt h
  have my : rung y < INF → mag (rung y) < mag INF := fun h => mag_lt h
  have mi : 0 < mag INF := mag_pos (by decide)
  unfold Format.order
  by_cases h1 : rung x = INF
  · rw [read_inf h1]
    by_cases h2 : rung y = INF
    · rw [read_inf h2]
      unfold sv; rw [h1, h2]
      simp only [Datum.order]
      generalize mag INF = M at *
      cases sgn x <;> cases sgn y <;> simp only [sg, Bool.toNat, cond, if_true, Bool.false_eq_true, if_false]
      · rw [cmp_eq]; rfl
      · rw [cmp_gt (by omega)]; rfl
      · rw [cmp_lt (by omega)]; rfl
      · rw [cmp_eq]; rfl
    · obtain ⟨n, j, e, _, _⟩ := read_fin (x := y) (by omega)
      have := my (by omega)
      rw [e]; simp only [Datum.order]
      unfold sv; rw [h1]
      generalize mag INF = M at *
      cases sgn x <;> cases sgn y <;> simp only [sg, if_true, Bool.false_eq_true, if_false]
      · rw [cmp_gt (by omega)]
      · rw [cmp_gt (by omega)]
      · rw [cmp_lt (by omega)]
      · rw [cmp_lt (by omega)]
  · obtain ⟨m, i, e1, i0, e2⟩ := read_fin (x := x) (by omega)
    rw [e1]
    by_cases h2 : rung y = INF
    · have := mx (by omega)
      rw [read_inf h2]; simp only [Datum.order]
      unfold sv; rw [h2]
      generalize mag INF = M at *
      cases sgn x <;> cases sgn y <;> simp only [sg, if_true, Bool.false_eq_true, if_false]
      · rw [cmp_lt (by omega)]
      · rw [cmp_gt (by omega)]
      · rw [cmp_lt (by omega)]
      · rw [cmp_gt (by omega)]
    · obtain ⟨n, j, e3, j0, e4⟩ := read_fin (x := y) (by omega)
      rw [e3]
      simp only [Datum.order, signed_eq]
      congr 1
      unfold sv
      rw [← e2, ← e4]
      generalize hb : min i j = b
      have hbi : b ≤ i := by omega
      have hbj : b ≤ j := by omega
      have hb0 : -1074 ≤ b := by omega
      rw [cmp_scale _ _ ((2 ^ (b + 1074).toNat : Nat) : Int) (by have := Nat.two_pow_pos (b + 1074).toNat; omega), ← sg_mul, ← sg_mul, Nat.mul_assoc, Nat.mul_assoc, ← Nat.pow_add, ← Nat.pow_add]
      rw [show (i - b).toNat + (b + 1074).toNat = (i + 1074).toNat by omega, show (j - b).toNat + (b + 1074).toNat = (j + 1074).toNat by omega]
theorem order_nanL {x : Nat} (y : Nat) (hx : INF < rung x) : double.order x y = none := by
  unfold Format.order; rw [read_nan hx]; cases double.read y <;> rfl
theorem order_nanR (x : Nat) {y : Nat} (hy : INF < rung y) : double.order x y = none := by
  unfold Format.order; rw [read_nan hy]; cases double.read x <;> rfl
/-- Is a word a number, or infinite? -/
def isn (x : Nat) : Bool := decide (INF < rung x)
theorem lt_eq (x y : Nat) : (double.order x y == some .lt) = (!isn x && !isn y && decide (sr x < sr y)) := by
  unfold isn
  by_cases hx : INF < rung x
  · rw [order_nanL y hx]; simp [hx]
  · by_cases hy : INF < rung y
    · rw [order_nanR x hy]; simp [hy]
    · rw [order_num (by omega) (by omega)]
      rcases Int.lt_trichotomy (sv x) (sv y) with h | h | h
      · rw [cmp_lt h]; have := (sv_lt_iff x y).1 h; simp [hx, hy, this]
      · rw [h, cmp_eq]; have := (sv_eq_iff x y).1 h; simp [this]
      · rw [cmp_gt h]; have := (sv_lt_iff y x).1 h; simp [Int.not_lt.2 (Int.le_of_lt this)]
theorem gt_eq (x y : Nat) : (double.order x y == some .gt) = (!isn x && !isn y && decide (sr y < sr x)) := by
  unfold isn
  by_cases hx : INF < rung x
  · rw [order_nanL y hx]; simp [hx]
  · by_cases hy : INF < rung y
    · rw [order_nanR x hy]; simp [hy]
    · rw [order_num (by omega) (by omega)]
      rcases Int.lt_trichotomy (sv x) (sv y) with h | h | h
      · rw [cmp_lt h]; have := (sv_lt_iff x y).1 h; simp [Int.not_lt.2 (Int.le_of_lt this)]
      · rw [h, cmp_eq]; have := (sv_eq_iff x y).1 h; simp [this]
      · rw [cmp_gt h]; have := (sv_lt_iff y x).1 h; simp [hx, hy, this]
theorem eq_eq (x y : Nat) : (double.order x y == some .eq) = (!isn x && !isn y && decide (sr x = sr y)) := by
  unfold isn
  by_cases hx : INF < rung x
  · rw [order_nanL y hx]; simp [hx]
  · by_cases hy : INF < rung y
    · rw [order_nanR x hy]; simp [hy]
    · rw [order_num (by omega) (by omega)]
      rcases Int.lt_trichotomy (sv x) (sv y) with h | h | h
      · rw [cmp_lt h]; have := (sv_lt_iff x y).1 h; simp [Int.ne_of_lt this]
      · rw [h, cmp_eq]; have := (sv_eq_iff x y).1 h; simp [this, hx, hy]
      · rw [cmp_gt h]; have := (sv_lt_iff y x).1 h; simp [(Int.ne_of_lt this).symm]

/-! ### rounding -/
/-- 'n / 2 ^ d', to the nearest whole number, of two to the even one. -/
def rne (n d : Nat) : Nat := n / 2 ^ d + (if 2 ^ d < 2 * (n % 2 ^ d) ∨ 2 ^ d = 2 * (n % 2 ^ d) ∧ n / 2 ^ d % 2 = 1 then 1 else 0)
theorem rne_zero (n : Nat) : rne n 0 = n := by unfold rne; simp [Nat.mod_one]
theorem rne_scale (n d c : Nat) : rne (n * 2 ^ c) (d + c) = rne n d := by
  unfold rne
  have hc := Nat.two_pow_pos c
  rw [Nat.pow_add, Nat.mul_div_mul_right _ _ hc, Nat.mul_mod_mul_right]
  generalize 2 ^ c = k at *
  have e1 : (2 ^ d * k < 2 * (n % 2 ^ d * k)) ↔ 2 ^ d < 2 * (n % 2 ^ d) := by
    rw [← Nat.mul_assoc]; exact Nat.mul_lt_mul_right hc
  have e2 : (2 ^ d * k = 2 * (n % 2 ^ d * k)) ↔ 2 ^ d = 2 * (n % 2 ^ d) := by
    rw [← Nat.mul_assoc]; exact Nat.mul_left_inj (Nat.pos_iff_ne_zero.1 hc)
  simp only [e1, e2]
theorem rne_exact (n c : Nat) : rne (n * 2 ^ c) c = n := by have := rne_scale n 0 c; rw [Nat.zero_add, rne_zero] at this; exact this
theorem lt_log2 (n : Nat) : n < 2 ^ (n.log2 + 1) := by
  by_cases h : n = 0
  · subst h; decide
  · exact (Nat.log2_lt h).1 (by omega)
theorem cut_even (s : Bool) (n d : Nat) : Toward.even.cut s n d = rne n d := by
  unfold Toward.cut rne
  simp only [Nat.shiftLeft_eq, Nat.one_mul]
  by_cases h : d ≤ n.log2 + 2
  · rw [Nat.min_eq_left h]
    congr 1
    generalize n / 2 ^ d = q
    generalize n % 2 ^ d = r
    generalize 2 ^ d = g
    by_cases a : g < 2 * r
    · simp [a]
    · by_cases b : g = 2 * r
      · by_cases c : q % 2 = 1 <;> simp [b, c]
      · simp [a, b]
  · have h1 := lt_log2 n
    have h2 : 2 ^ (n.log2 + 2) ≤ 2 ^ d := Nat.pow_le_pow_right (by decide) (by omega)
    have h3 : 2 ^ (n.log2 + 2) = 2 * 2 ^ (n.log2 + 1) := by rw [Nat.pow_succ]; omega
    rw [Nat.min_eq_right (by omega)]
    rw [Nat.div_eq_of_lt (by omega), Nat.mod_eq_of_lt (show n < 2 ^ (n.log2 + 2) by omega), Nat.div_eq_of_lt (show n < 2 ^ d by omega), Nat.mod_eq_of_lt (show n < 2 ^ d by omega)]
    generalize 2 ^ (n.log2 + 2) = g at *
    generalize 2 ^ d = g2 at *
    rw [if_neg (by omega)]
    have c1 : ¬ g < 2 * n := by omega
    simp [c1]
theorem cut_zero (s : Bool) (n d : Nat) : Toward.zero.cut s n d = n / 2 ^ d := by
  unfold Toward.cut
  simp only [Nat.shiftLeft_eq, Nat.one_mul, Bool.toNat_false, Nat.add_zero]
  by_cases h : d ≤ n.log2 + 2
  · rw [Nat.min_eq_left h]
  · have h1 := lt_log2 n
    have h2 : 2 ^ (n.log2 + 2) ≤ 2 ^ d := Nat.pow_le_pow_right (by decide) (by omega)
    have h3 : 2 ^ (n.log2 + 2) = 2 * 2 ^ (n.log2 + 1) := by rw [Nat.pow_succ]; omega
    rw [Nat.min_eq_right (by omega), Nat.div_eq_of_lt (by omega), Nat.div_eq_of_lt (by omega)]
theorem integral_even {x : Nat} (h : rung x < INF) : (double.read x).integral .even = .number (sgn x) (rne (mag (rung x)) 1074) 0 := by
  obtain ⟨m, p, e1, p0, e2⟩ := read_fin h
  rw [e1]
  simp only [Datum.integral, cut_even, Nat.shiftLeft_eq]
  suffices h : rne (m * 2 ^ p.toNat) (-p).toNat = rne (mag (rung x)) 1074 by rw [h]
  rw [← e2]
  obtain ⟨K, hK⟩ : ∃ K, K = 1074 := ⟨_, rfl⟩
  rw [← hK]
  by_cases hp : 0 ≤ p
  · rw [show (-p).toNat = 0 by omega, rne_zero, show (p + 1074).toNat = p.toNat + K by omega, Nat.pow_add, ← Nat.mul_assoc, rne_exact]
  · rw [show p.toNat = 0 by omega, Nat.pow_zero, Nat.mul_one]
    have := rne_scale m (-p).toNat (p + 1074).toNat
    rw [show (-p).toNat + (p + 1074).toNat = K by omega] at this
    exact this.symm
theorem toInt_zero {x : Nat} (h : rung x < INF) : (double.read x).toInt .zero = some (sg (sgn x) (mag (rung x) / 2 ^ 1074)) := by
  obtain ⟨m, p, e1, p0, e2⟩ := read_fin h
  rw [e1]
  simp only [Datum.toInt, Datum.integral, cut_zero, Nat.shiftLeft_eq, signed_eq, Nat.pow_zero, Nat.mul_one]
  congr 2
  rw [← e2]
  obtain ⟨K, hK⟩ : ∃ K, K = 1074 := ⟨_, rfl⟩
  rw [← hK]
  by_cases hp : 0 ≤ p
  · rw [show (-p).toNat = 0 by omega, Nat.pow_zero, Nat.div_one, show (p + 1074).toNat = p.toNat + K by omega, Nat.pow_add, ← Nat.mul_assoc, Nat.mul_div_cancel _ (Nat.two_pow_pos _)]
  · rw [show p.toNat = 0 by omega, Nat.pow_zero, Nat.mul_one]
    have hd : 2 ^ K = 2 ^ (-p).toNat * 2 ^ (p + 1074).toNat := by rw [← Nat.pow_add]; congr 1; omega
    rw [hd, Nat.mul_div_mul_right _ _ (Nat.two_pow_pos _)]
/-- The word, without its sign, of what is nearest to a number of units of 2 ^ -1074. -/
def rungOf (X : Nat) : Nat := min (if X < 4503599627370496 then X else (X.log2 - 52) * 4503599627370496 + rne X (X.log2 - 52)) INF
theorem log2_eq {n k : Nat} (h1 : 2 ^ k ≤ n) (h2 : n < 2 ^ (k + 1)) : n.log2 = k := by
  have hn : n ≠ 0 := by have := Nat.two_pow_pos k; omega
  have a := (Nat.le_log2 hn).2 h1
  have b := (Nat.log2_lt hn).2 h2
  omega
theorem log2_scale {n : Nat} (h : 0 < n) (k : Nat) : (n * 2 ^ k).log2 = n.log2 + k := by
  apply log2_eq
  · rw [Nat.pow_add]; exact Nat.mul_le_mul_right _ (Nat.log2_self_le (by omega))
  · rw [show n.log2 + k + 1 = (n.log2 + 1) + k by omega, Nat.pow_add]
    exact Nat.mul_lt_mul_of_pos_right (lt_log2 n) (Nat.two_pow_pos k)
theorem nearest_eq (s : Bool) (m : Nat) (p : Int) (hp : -1074 ≤ p) : double.nearest s m p = double.word s (rungOf (m * 2 ^ (p + 1074).toNat)) := by
  unfold Format.nearest
  by_cases h0 : m = 0
  · subst h0; simp [rungOf]
  · rw [if_neg h0]
    simp only [cut_even, Nat.shiftLeft_eq, dbl_least, dbl_binade, dbl_inf, show (double.fractionBits : Int) = 52 from rfl]
    have hl := log2_scale (show 0 < m by omega) (p + 1074).toNat
    unfold rungOf
    congr 2
    obtain ⟨X, hX⟩ : ∃ X, X = m * 2 ^ (p + 1074).toNat := ⟨_, rfl⟩
    rw [← hX] at hl ⊢
    have hX0 : X ≠ 0 := by rw [hX]; have := Nat.mul_pos (show 0 < m by omega) (Nat.two_pow_pos (p + 1074).toNat); omega
    by_cases hs : X < 4503599627370496
    · have h1 : X.log2 < 52 := (Nat.log2_lt hX0).2 hs
      rw [if_pos hs, show max (p + m.log2 - 52) (-1074 : Int) = -1074 by omega]
      rw [show (-1074 - -1074 : Int).toNat = 0 by omega, show (-1074 - p).toNat = 0 by omega, rne_zero, show (p - -1074).toNat = (p + 1074).toNat by omega, ← hX]
      omega
    · have h1 : 52 ≤ X.log2 := (Nat.le_log2 hX0).2 (by simpa using hs)
      rw [if_neg hs, show max (p + m.log2 - 52) (-1074 : Int) = p + m.log2 - 52 by omega]
      rw [show (p + m.log2 - 52 - -1074).toNat = X.log2 - 52 by omega]
      congr 1
      by_cases ha : 52 ≤ m.log2
      · rw [show (p - (p + m.log2 - 52)).toNat = 0 by omega, Nat.pow_zero, Nat.mul_one, hX]
        have := rne_scale m (m.log2 - 52) (p + 1074).toNat
        rw [← hX, show m.log2 - 52 + (p + 1074).toNat = X.log2 - 52 by omega] at this
        rw [← hX, this]; congr 1; omega
      · rw [show (p + m.log2 - 52 - p).toNat = 0 by omega, rne_zero]
        have := rne_exact (m * 2 ^ (52 - m.log2)) (X.log2 - 52)
        rw [Nat.mul_assoc, ← Nat.pow_add, show 52 - m.log2 + (X.log2 - 52) = (p + 1074).toNat by omega, ← hX] at this
        rw [this]; congr 2; omega
theorem rungOf_mag {r : Nat} (h : r ≤ INF) : rungOf (mag r) = r := by
  unfold rungOf mag
  by_cases h0 : r < 4503599627370496
  · rw [if_pos h0, if_pos h0]; omega
  · rw [if_neg h0]
    have hl := log2_scale (show 0 < 4503599627370496 + r % 4503599627370496 by omega) (r / 4503599627370496 - 1)
    have h2 : (4503599627370496 + r % 4503599627370496).log2 = 52 := log2_eq (by omega) (by omega)
    have h3 : ¬ (4503599627370496 + r % 4503599627370496) * 2 ^ (r / 4503599627370496 - 1) < 4503599627370496 := by
      have := Nat.two_pow_pos (r / 4503599627370496 - 1)
      generalize 2 ^ (r / 4503599627370496 - 1) = g at *
      have := Nat.le_mul_of_pos_right (4503599627370496 + r % 4503599627370496) this
      omega
    rw [if_neg h3, hl, h2, show 52 + (r / 4503599627370496 - 1) - 52 = r / 4503599627370496 - 1 by omega, rne_exact]
    omega
/-- What has no more than 53 binary digits, and is not too great, is a word's. -/
theorem mag_rungOf {k e : Nat} (hk : k ≤ 9007199254740992) (hb : k * 2 ^ e < mag INF) : mag (rungOf (k * 2 ^ e)) = k * 2 ^ e ∧ rungOf (k * 2 ^ e) < INF := by
  suffices h : ∃ r, mag r = k * 2 ^ e by
    obtain ⟨r, hr⟩ := h
    rw [← hr] at hb ⊢
    have := mag_lt_iff.1 hb
    rw [rungOf_mag (by omega)]
    exact ⟨rfl, this⟩
  have main : ∀ k, k < 9007199254740992 → ∀ e, ∃ r, mag r = k * 2 ^ e := by
    clear hb hk k e
    intro k hk e
    induction e generalizing k with
    | zero =>
      by_cases h : k < 4503599627370496
      · exact ⟨k, by unfold mag; rw [if_pos h]; simp⟩
      · refine ⟨k, ?_⟩
        unfold mag
        rw [if_neg h, show k / 4503599627370496 - 1 = 0 by omega]
        have : 4503599627370496 + k % 4503599627370496 = k := by omega
        rw [this]
    | succ e ih =>
      by_cases h : k < 4503599627370496
      · obtain ⟨r, hr⟩ := ih (2 * k) (by omega)
        exact ⟨r, by rw [hr, Nat.pow_succ, Nat.mul_comm 2 k, Nat.mul_assoc, Nat.mul_comm 2]⟩
      · refine ⟨(e + 2) * 4503599627370496 + (k - 4503599627370496), ?_⟩
        unfold mag
        rw [if_neg (by omega), show ((e + 2) * 4503599627370496 + (k - 4503599627370496)) / 4503599627370496 - 1 = e + 1 by omega, show 4503599627370496 + ((e + 2) * 4503599627370496 + (k - 4503599627370496)) % 4503599627370496 = k by omega]
  by_cases h : k < 9007199254740992
  · exact main k h e
  · have : k = 9007199254740992 := by omega
    subst this
    obtain ⟨r, hr⟩ := main 4503599627370496 (by omega) (e + 1)
    exact ⟨r, by rw [hr, Nat.pow_succ]; omega⟩
theorem word_eq (s : Bool) (r : Nat) : double.word s r = if s then 9223372036854775808 + r else r := by unfold Format.word; rw [dbl_sw]
theorem rung_word (s : Bool) {r : Nat} (h : r < 9223372036854775808) : rung (double.word s r) = r := by
  rw [word_eq]; unfold rung; split <;> omega
theorem sgn_word (s : Bool) {r : Nat} (h : r < 9223372036854775808) : sgn (double.word s r) = s := by
  rw [word_eq]; unfold sgn
  cases s
  · have : r / 9223372036854775808 % 2 = 0 := by omega
    simp [this]
  · have : (9223372036854775808 + r) / 9223372036854775808 % 2 = 1 := by omega
    rw [if_pos rfl, this]; rfl
theorem word_self {x : Nat} (h : x < 18446744073709551616) : double.word (sgn x) (rung x) = x := by
  rw [word_eq]; unfold sgn rung
  by_cases h1 : x / 9223372036854775808 % 2 = 1
  · simp [h1]; omega
  · simp [h1]; omega
theorem rungOf_le (X : Nat) : rungOf X ≤ INF := Nat.min_le_right _ _
end Go.Proofs.YtcpfangcibilaaaDoor
