/- Numbers of 64 bits: products and quotients by powers of two are exact. Plain laws. No condition. -/
import Derived.Test.YtcpfangcibilaaaDoorFl
namespace Go.Proofs.YtcpfangcibilaaaDoor
set_option linter.unusedVariables false
set_option linter.unusedSimpArgs false
open Ieee

/-- A power of two as a word. -/
def pw2 (t : Int) : Nat := (1023 + t).toNat * 4503599627370496
theorem pw2_facts {t : Int} (h1 : -1000 ≤ t) (h2 : t ≤ 1000) : rung (pw2 t) = pw2 t ∧ sgn (pw2 t) = false ∧ pw2 t < INF ∧ 4503599627370496 ≤ pw2 t ∧ pw2 t / 4503599627370496 = (1023 + t).toNat ∧ pw2 t % 4503599627370496 = 0 := by
  have hp : INF = 9218868437227405312 := rfl
  obtain ⟨E, hE⟩ : ∃ E, E = (1023 + t).toNat := ⟨_, rfl⟩
  unfold pw2
  rw [← hE]
  have hb : 23 ≤ E ∧ E ≤ 2023 := by omega
  refine ⟨Nat.mod_eq_of_lt (by omega), ?_, by omega, by omega, by omega, by omega⟩
  unfold sgn
  have : E * 4503599627370496 / 9223372036854775808 % 2 = 0 := by omega
  rw [this]; rfl
theorem read_pw2 {t : Int} (h1 : -1000 ≤ t) (h2 : t ≤ 1000) : double.read (pw2 t) = .number false 4503599627370496 (t - 52) := by
  obtain ⟨a, b, c, d, e, f⟩ := pw2_facts h1 h2
  rw [read_eq, a, b, if_neg (by omega), if_pos c, e, f, show (-1074 : Int) + (((1023 + t).toNat - 1 : Nat) : Int) = t - 52 by omega]
/-- A number that is nothing, or far from the small ones. -/
def Far (x : Nat) : Prop := rung x < INF ∧ (rung x = 0 ∨ 900719925474099200 ≤ rung x)
theorem read_far {x : Nat} (h : Far x) (h0 : rung x ≠ 0) : ∃ (m : Nat) (i : Int), double.read x = .number (sgn x) m i ∧ -875 ≤ i ∧ m * 2 ^ (i + 1074).toNat = mag (rung x) ∧ 4503599627370496 ≤ m ∧ m < 9007199254740992 := by
  obtain ⟨h1, h2⟩ := h
  have h3 : 900719925474099200 ≤ rung x := by omega
  refine ⟨4503599627370496 + rung x % 4503599627370496, -1074 + ((rung x / 4503599627370496 - 1 : Nat) : Int), ?_, by omega, ?_, by omega, by omega⟩
  · rw [read_eq, if_neg (by omega), if_pos h1]
  · rw [mag_big (by omega)]
    congr 2
    omega
theorem shift_pow {m c e : Nat} {i t : Int} (h : m * 2 ^ (i + 1074).toNat = c * 2 ^ e) (hi : 0 ≤ i + 1074) (h2 : 0 ≤ i + t + 1074) (h3 : 0 ≤ (e : Int) + t) : m * 2 ^ (i + t + 1074).toNat = c * 2 ^ ((e : Int) + t).toNat := by
  by_cases ht : 0 ≤ t
  · rw [show (i + t + 1074).toNat = (i + 1074).toNat + t.toNat by omega, Nat.pow_add, ← Nat.mul_assoc, h, Nat.mul_assoc, ← Nat.pow_add, show e + t.toNat = ((e : Int) + t).toNat by omega]
  · obtain ⟨a, ha⟩ : ∃ a, a = (i + t + 1074).toNat := ⟨_, rfl⟩
    obtain ⟨b, hb⟩ : ∃ b, b = ((e : Int) + t).toNat := ⟨_, rfl⟩
    obtain ⟨s, hs⟩ : ∃ s, s = (-t).toNat := ⟨_, rfl⟩
    rw [← ha, ← hb]
    rw [show (i + 1074).toNat = a + s by omega, show e = b + s by omega, Nat.pow_add, Nat.pow_add, ← Nat.mul_assoc, ← Nat.mul_assoc] at h
    exact Nat.eq_of_mul_eq_mul_right (Nat.two_pow_pos s) h
theorem fin_word (s : Bool) (c : Int) (e : Nat) (hs : c ≠ 0 → s = decide (c < 0)) (h : c.natAbs ≤ 9007199254740992) (he : e ≤ 2044) :
    double.word s (rungOf (c.natAbs * 2 ^ e)) < 18446744073709551616 ∧ rung (double.word s (rungOf (c.natAbs * 2 ^ e))) < INF ∧ sv (double.word s (rungOf (c.natAbs * 2 ^ e))) = c * ((2 ^ e : Nat) : Int) ∧ sgn (double.word s (rungOf (c.natAbs * 2 ^ e))) = s := by
  obtain ⟨m1, m2⟩ := mag_rungOf h (small_lt_inf c.natAbs e h he)
  have hr : rungOf (c.natAbs * 2 ^ e) < 9223372036854775808 := by have : INF = 9218868437227405312 := rfl; omega
  refine ⟨word_lt _ hr, by rw [rung_word _ hr]; exact m2, ?_, sgn_word _ hr⟩
  rw [sv_word _ hr, m1, sg_mul, sg_natAbs _ _ hs]
theorem sv_side {x : Nat} {c : Int} {e : Nat} (h : sv x = c * ((2 ^ e : Nat) : Int)) : mag (rung x) = c.natAbs * 2 ^ e ∧ (c ≠ 0 → sgn x = decide (c < 0)) := by
  have hp := Nat.two_pow_pos e
  have ha := sv_abs x
  rw [h, Int.natAbs_mul, Int.natAbs_natCast] at ha
  refine ⟨ha.symm, fun hc => ?_⟩
  have h0 : sv x ≠ 0 := by
    rw [h]; intro e
    rcases Int.mul_eq_zero.1 e with e | e <;> omega
  rw [sv_sgn h0, h]
  by_cases hn : c < 0
  · rw [decide_eq_true hn, decide_eq_true (Int.mul_neg_of_neg_of_pos hn (by omega))]
  · rw [decide_eq_false hn, decide_eq_false (Int.not_lt.2 (Int.mul_nonneg (by omega) (by omega)))]
theorem mag_nil {x : Nat} (h : rung x = 0) {c : Nat} {e : Nat} (hm : mag (rung x) = c * 2 ^ e) : c = 0 := by
  rw [h, mag_zero] at hm
  rcases Nat.mul_eq_zero.1 hm.symm with h | h
  · exact h
  · have := Nat.two_pow_pos e; omega
/-- A number by a power of two. -/
theorem mul_pw2 {x : Nat} {c : Int} {e : Nat} (t : Int) (ht1 : -100 ≤ t) (ht2 : t ≤ 100) (hx : Far x) (hs : sv x = c * ((2 ^ e : Nat) : Int)) (he : 300 ≤ e) (he2 : e ≤ 1900) (hc : c.natAbs ≤ 9007199254740992) :
    ∃ z, double.mul (pw2 t) x = some z ∧ z < 18446744073709551616 ∧ rung z < INF ∧ sv z = c * ((2 ^ ((e : Int) + t).toNat : Nat) : Int) ∧ sgn z = sgn x := by
  obtain ⟨hm, hg⟩ := sv_side hs
  obtain ⟨f1, f2, f3, f4⟩ := fin_word (sgn x) c ((e : Int) + t).toNat hg hc (by omega)
  refine ⟨_, ?_, f1, f2, f3, f4⟩
  unfold Format.mul
  rw [read_pw2 (by omega) (by omega)]
  by_cases h0 : rung x = 0
  · have hc0 := mag_nil h0 hm
    rw [read_eq, h0, if_pos (by decide)]
    simp only [Datum.product, Option.map_some, Format.write]
    rw [hc0]
    unfold Format.nearest
    rw [if_pos (by decide), Nat.zero_mul, rungOf_zero, Bool.false_xor]
  · obtain ⟨m, i, r1, r2, r3, r4, r5⟩ := read_far hx h0
    rw [r1]
    simp only [Datum.product, Option.map_some, Format.write]
    rw [nearest_mk _ (by omega), Nat.mul_comm, show 4503599627370496 = 2 ^ 52 by decide, mkR_scale (by omega), show t - 52 + i + (52 : Nat) = i + t by omega, mkR_mag (by omega) (by omega), shift_pow (r3.trans hm) (by omega) (by omega) (by omega), Bool.false_xor]
/-- A number through a power of two. -/
theorem div_pw2 {x : Nat} {c : Int} {e : Nat} (t : Int) (ht1 : -100 ≤ t) (ht2 : t ≤ 100) (hx : Far x) (hs : sv x = c * ((2 ^ e : Nat) : Int)) (he : 300 ≤ e) (he2 : e ≤ 1900) (hc : c.natAbs ≤ 9007199254740992) :
    ∃ z, double.div x (pw2 t) = some z ∧ z < 18446744073709551616 ∧ rung z < INF ∧ sv z = c * ((2 ^ ((e : Int) - t).toNat : Nat) : Int) ∧ sgn z = sgn x := by
  obtain ⟨hm, hg⟩ := sv_side hs
  obtain ⟨f1, f2, f3, f4⟩ := fin_word (sgn x) c ((e : Int) - t).toNat hg hc (by omega)
  refine ⟨_, ?_, f1, f2, f3, f4⟩
  unfold Format.div
  rw [read_pw2 (by omega) (by omega)]
  by_cases h0 : rung x = 0
  · have hc0 := mag_nil h0 hm
    rw [read_eq, h0, if_pos (by decide)]
    simp only [Datum.quotient, Option.map_some, Format.write]
    rw [if_neg (by decide)]
    simp only [Option.map_some, Format.write]
    rw [hc0]
    unfold Format.nearest
    rw [if_pos (by simp), Nat.zero_mul, rungOf_zero, Bool.xor_false]
  · obtain ⟨m, i, r1, r2, r3, r4, r5⟩ := read_far hx h0
    have hl : m.log2 = 52 := log2_eq (show 2 ^ 52 ≤ m from r4) (show m < 2 ^ (52 + 1) from r5)
    have hl2 : (4503599627370496 : Nat).log2 = 52 := log2_eq (by decide) (by decide)
    rw [r1]
    simp only [Datum.quotient, Option.map_some, Format.write]
    rw [if_neg (by decide)]
    simp only [Option.map_some, Format.write, hl, hl2, show double.fractionBits = 52 from rfl, Nat.shiftLeft_eq]
    have e1 : m * 2 ^ (52 + 2 + 52 - 52) / 4503599627370496 = m * 4 := by
      rw [show m * 2 ^ (52 + 2 + 52 - 52) = m * 4 * 4503599627370496 by rw [show 2 ^ (52 + 2 + 52 - 52) = 4 * 4503599627370496 by decide, Nat.mul_assoc]]
      exact Nat.mul_div_cancel _ (by decide)
    have e2 : m * 2 ^ (52 + 2 + 52 - 52) % 4503599627370496 = 0 := by
      rw [show m * 2 ^ (52 + 2 + 52 - 52) = m * 4 * 4503599627370496 by rw [show 2 ^ (52 + 2 + 52 - 52) = 4 * 4503599627370496 by decide, Nat.mul_assoc]]
      exact Nat.mul_mod_left _ _
    rw [e1, e2]
    have e3 : 2 * (m * 4) + ((0 : Nat) != 0).toNat = m * 2 ^ 3 := by
      rw [show ((0 : Nat) != 0).toNat = 0 by decide, show 2 ^ 3 = 8 by decide]; omega
    rw [e3, nearest_mk _ (by omega), mkR_scale (by omega), show i - (t - 52) - ((52 + 2 + 52 - 52 : Nat) : Int) - 1 + ((3 : Nat) : Int) = i + -t by omega, mkR_mag (by omega) (by omega), shift_pow (r3.trans hm) (by omega) (by omega) (by omega), Bool.xor_false, show (e : Int) + -t = (e : Int) - t by omega]
theorem far_of {z : Nat} {c : Int} {e : Nat} (h : rung z < INF) (hs : sv z = c * ((2 ^ e : Nat) : Int)) (he : 300 ≤ e) : Far z := by
  obtain ⟨hm, _⟩ := sv_side hs
  refine ⟨h, ?_⟩
  by_cases hc : c.natAbs = 0
  · left
    rw [hc, Nat.zero_mul] at hm
    rcases Nat.eq_zero_or_pos (rung z) with h | h
    · exact h
    · have := mag_pos h; omega
  · right
    refine Nat.le_of_not_lt fun hlt => ?_
    have h1 := mag_lt hlt
    obtain ⟨K, hK⟩ : ∃ K, K = 199 := ⟨_, rfl⟩
    have h2 := mag_of_parts 200 0 K (by decide) (by decide) 0 (by omega)
    rw [Nat.pow_zero, Nat.mul_one, Nat.add_zero, Nat.add_zero, show 200 * 4503599627370496 = 900719925474099200 by decide] at h2
    rw [h2, hm] at h1
    have h3 : 4503599627370496 * 2 ^ K ≤ 2 ^ e := by
      rw [show 4503599627370496 = 2 ^ 52 by decide, ← Nat.pow_add]
      exact Nat.pow_le_pow_right (by decide) (by omega)
    have h4 := Nat.le_mul_of_pos_left (2 ^ e) (show 0 < c.natAbs by omega)
    omega
/-- A whole number and a quarter goes to the whole one. -/
theorem rI_quarter {z : Nat} {c d : Int} (K : Nat) (hK : K = 1072) (h : sv z = c * ((2 ^ K : Nat) : Int)) (hc : c = 4 * d + 1 ∨ c = 4 * d - 1) : rI z = d := by
  obtain ⟨hm, hg⟩ := sv_side h
  unfold rI
  rw [hm, show 1074 = 2 + K by omega, rne_scale, hg (by omega)]
  unfold rne
  rw [show 2 ^ 2 = 4 by decide]
  by_cases hn : c < 0
  · rw [decide_eq_true hn]
    unfold sg
    rw [if_pos rfl]
    split <;> omega
  · rw [decide_eq_false hn]
    unfold sg
    rw [if_neg (by decide)]
    split <;> omega
theorem rI_whole {z : Nat} {d : Int} (K : Nat) (hK : K = 1074) (h : sv z = d * ((2 ^ K : Nat) : Int)) : rI z = d := by
  obtain ⟨hm, hg⟩ := sv_side h
  unfold rI
  rw [hm, ← hK, rne_exact]
  exact sg_natAbs _ _ hg
theorem whV_of {y : Nat} {n : Int} (hf : rung y < INF) (h : rI y = n) (h1 : -1000000 ≤ n) (h2 : n ≤ 1000000) : whV y = n := by
  have hn : isn y = false := decide_eq_false (by omega)
  unfold whV
  rw [hn, if_neg (by decide), if_neg (by omega), h, if_neg (by omega), if_neg (by omega)]
/-- A power of two's own value. -/
theorem sv_pw2 {t : Int} (h1 : -100 ≤ t) (h2 : t ≤ 100) (e : Nat) (he : (e : Int) = 1074 + t) : sv (pw2 t) = 1 * ((2 ^ e : Nat) : Int) := by
  obtain ⟨a, b, c, d, f, g⟩ := pw2_facts (t := t) (by omega) (by omega)
  unfold sv sg
  rw [a, b, mag_big d, f, g, Nat.add_zero, show 4503599627370496 = 2 ^ 52 by decide, ← Nat.pow_add, show 52 + ((1023 + t).toNat - 1) = e by omega]
  simp
theorem far_pw2 {t : Int} (h1 : -100 ≤ t) (h2 : t ≤ 100) : Far (pw2 t) := by
  obtain ⟨a, b, c, d, f, g⟩ := pw2_facts (t := t) (by omega) (by omega)
  exact ⟨by rw [a]; exact c, .inr (by rw [a]; unfold pw2; omega)⟩
end Go.Proofs.YtcpfangcibilaaaDoor
