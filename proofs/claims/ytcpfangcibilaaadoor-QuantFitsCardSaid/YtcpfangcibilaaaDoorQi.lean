/- Ldexp of usual numbers, the first examples of the chapter, walked. No condition but the table's cells. -/
import Derived.Test.YtcpfangcibilaaaDoorQh
namespace Go.Proofs.YtcpfangcibilaaaDoor
set_option linter.unusedVariables false
set_option linter.unusedSimpArgs false
open Go.RowKit

theorem frexp_any (x : Nat) (hx : x < 18446744073709551616) (h1 : 4503599627370496 ≤ rung x) (h2 : rung x < INF) (w : World) : Calls Tryd.prog 77 #[.float .f64 x] w fun e w' => e = .returned (.tuple #[.float .f64 ((if sgn x then 9223372036854775808 else 0) + (4602678819172646912 + rung x % 4503599627370496)), .int .i64 (((rung x / 4503599627370496 : Nat) : Int) - 1022)]) ∧ w' = w := by
  have hf := frexp0_any x hx h1 h2
  generalize (if sgn x then 9223372036854775808 else 0) + (4602678819172646912 + rung x % 4503599627370496) = y at *
  generalize (((rung x / 4503599627370496 : Nat) : Int) - 1022) = k at *
  go_enter Tryd.func77, Tryd.ntmps77
  go_wp2_with (first | (go_at_call 104; refine (hf _).mono ?_; rintro e_ w_ ⟨rfl, rfl⟩; ))
  go_ret2
  exact ⟨rfl, rfl⟩
/-- One times a number that is not too small. -/
theorem mul_one {z : Nat} (hz : z < 18446744073709551616) (h1 : 53 * 4503599627370496 ≤ rung z) (h2 : rung z < INF) : Ieee.double.mul 4607182418800017408 z = some z := by
  have e1 : Ieee.double.read 4607182418800017408 = .number false 4503599627370496 (-52) := by rw [read_eq]; decide
  obtain ⟨m, p, e2, p0, e3⟩ := read_fin h2
  have hp : -1022 ≤ p := by
    have e4 := read_eq z
    rw [if_neg (by omega), if_pos h2, e2] at e4
    injection e4 with _ _ e5
    omega
  unfold Ieee.Format.mul
  rw [e1, e2]
  simp only [Ieee.Datum.product, Option.map_some, Ieee.Format.write, Bool.false_bne]
  congr 1
  rw [nearest_eq _ _ _ (by omega)]
  have e7 : 4503599627370496 * m * 2 ^ (-52 + p + 1074).toNat = mag (rung z) := by
    rw [← e3, show (p + 1074).toNat = 52 + (-52 + p + 1074).toNat by omega, Nat.pow_add, show 2 ^ 52 = 4503599627370496 by decide, Nat.mul_comm 4503599627370496 m, Nat.mul_assoc]
  rw [e7, rungOf_mag (by omega), word_self hz]
theorem and_i64 (y : Nat) (hy : y < 18446744073709551616) : bits .and .i64 ((y : Int) / 4503599627370496) 2047 = ((rung y / 4503599627370496 : Nat) : Int) := by
  have := bits_mask .i64 63 (by decide) (fun n h0 h1 => by rw [IntKind.wrap_i64]; omega) 11 (by decide) ((y : Int) / 4503599627370496) (by omega) (by omega)
  rw [show ((2 : Int) ^ 11 - 1) = 2047 by decide, show ((2 : Int) ^ 11) = 2048 by decide] at this
  rw [this]
  unfold rung; omega
set_option maxRecDepth 100000 in
set_option maxHeartbeats 800000 in
theorem ldexp0_any (x : Nat) (hx : x < 18446744073709551616) (h1 : 4503599627370496 ≤ rung x) (h2 : rung x < INF) (k : Int) (hk : -900 ≤ k + ((rung x / 4503599627370496 : Nat) : Int) - 1023) (hk2 : k + ((rung x / 4503599627370496 : Nat) : Int) - 1023 ≤ 1023) (w : World) : Calls Tryd.prog 84 #[.float .f64 x, .int .i64 k] w fun e w' => e = .returned (.float .f64 ((if sgn x then 9223372036854775808 else 0) + ((k + ((rung x / 4503599627370496 : Nat) : Int)).toNat * 4503599627370496 + rung x % 4503599627370496))) ∧ w' = w := by
  have hp : INF = 9218868437227405312 := rfl
  have hb := fbits_run x
  have hn : isn x = false := decide_eq_false (by omega)
  have z1 : (FloatKind.f64.format.order x 0 == some .eq) = false := (zero_test x).trans (decide_eq_false (by omega))
  have z2 : decide (rung x = INF) = false := decide_eq_false (by omega)
  have ze := and_i64 x hx
  have zc := bits_clear x hx
  obtain ⟨e, he⟩ : ∃ e : Nat, (e : Int) = k + ((rung x / 4503599627370496 : Nat) : Int) := ⟨(k + ((rung x / 4503599627370496 : Nat) : Int)).toNat, by omega⟩
  have zo := bits_parts (sgn x) e (rung x % 4503599627370496) (by omega) (by omega)
  have hzl : (if sgn x then 9223372036854775808 else 0) + (e * 4503599627370496 + rung x % 4503599627370496) = Ieee.double.word (sgn x) (e * 4503599627370496 + rung x % 4503599627370496) := by rw [word_eq]; split <;> omega
  have hr9 : e * 4503599627370496 + rung x % 4503599627370496 < 9223372036854775808 := by omega
  have hmul := mul_one (z := Ieee.double.word (sgn x) (e * 4503599627370496 + rung x % 4503599627370496)) (word_lt _ hr9) (by rw [rung_word _ hr9]; omega) (by rw [rung_word _ hr9]; omega)
  rw [← hzl] at hmul
  rw [← he, Int.toNat_natCast]
  have hm2 := run_float_arith (P := Tryd.prog) w .mul 22 .f64 4607182418800017408 _ _ hmul
  obtain ⟨S, hS⟩ : ∃ S : Nat, S = (if sgn x then 9223372036854775808 else 0) := ⟨_, rfl⟩
  obtain ⟨f, hf⟩ : ∃ f : Nat, f = rung x % 4503599627370496 := ⟨_, rfl⟩
  obtain ⟨E, hE⟩ : ∃ E : Nat, E = rung x / 4503599627370496 := ⟨_, rfl⟩
  have hE1 : 1 ≤ E := by omega
  have hE2 : E ≤ 2046 := by omega
  rw [← hS, ← hf] at zc zo
  rw [← hE] at ze he hk hk2
  rw [← hS, ← hf] at hm2 ⊢
  have hx0 : k + ((E : Int) - 1023) = (e : Int) - 1023 := by omega
  have hx1 : (e : Int) - 1023 + 1023 = (e : Int) := by omega
  have hel : 123 ≤ e ∧ e ≤ 2046 := by omega
  have zc : bits .andNot .u64 (x : Int) 9218868437227405312 = (S : Int) + (f : Int) := zc
  have zo : bits .or .u64 ((S : Int) + (f : Int)) ((e : Int) * 4503599627370496) = (S : Int) + ((e : Int) * 4503599627370496 + (f : Int)) := zo
  have hfr := (show ∀ w : World, (callFunc 66 #[.int .u64 ((S : Int) + ((e : Int) * 4503599627370496 + (f : Int)))]).run Tryd.prog w = .ok (.value (.float .f64 (S + (e * 4503599627370496 + f)))) w from ffrom_run (S + (e * 4503599627370496 + f)))
  have zw : IntKind.u64.wrap ((e : Int) * 4503599627370496) = (e : Int) * 4503599627370496 := by rw [IntKind.wrap_u64]; omega
  have hk0 : k = (e : Int) - (E : Int) := by omega
  subst hk0
  have zt : (e : Int) - (E : Int) + ((E : Int) - 1023) = (e : Int) - 1023 := by omega
  clear hS hf hE hx0 hmul hzl hr9 hp he hk hk2
  go_enter Tryd.func84, Tryd.ntmps84
  go_wp2_with (first | (go_at_call 47; refine (isInf_any x hx _).mono ?_; rintro e_ w_ ⟨rfl, rfl⟩; ) | (go_at_call 87; refine (isNaN_any x _).mono ?_; rintro e_ w_ ⟨rfl, rfl⟩; ) | (go_at_call 107; refine (norm_any x hx h1 h2 _).mono ?_; rintro e_ w_ ⟨rfl, rfl⟩; ))
  go_ret
  exact ⟨by first | rfl | (congr 3; omega), rfl⟩
end Go.Proofs.YtcpfangcibilaaaDoor
