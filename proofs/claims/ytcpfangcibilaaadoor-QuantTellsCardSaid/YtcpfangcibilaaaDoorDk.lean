/- Package quant's Fixed of a number in its range, walked. No condition. -/
import Derived.Test.YtcpfangcibilaaaDoorDi
namespace Go.Proofs.YtcpfangcibilaaaDoor
set_option linter.unusedVariables false
set_option linter.unusedSimpArgs false
open Go.RowKit

/-- A number's 53 digits, rounded to 31. -/
def fxD (x : Nat) : Nat := rne (4503599627370496 + rung x % 4503599627370496) 22
def fxM (x : Nat) : Int := if fxD x = 2147483648 then 1073741824 else (fxD x : Int)
def fxS (x : Nat) : Int := if fxD x = 2147483648 then 1052 - ((rung x / 4503599627370496 : Nat) : Int) else 1053 - ((rung x / 4503599627370496 : Nat) : Int)
theorem fxD_range (x : Nat) : 1073741824 ≤ fxD x ∧ fxD x ≤ 2147483648 := by
  unfold fxD rne
  rw [show 2 ^ 22 = 4194304 by decide]
  split <;> omega
theorem rI_fix {f : Nat} (hf : f < 4503599627370496) : rI (4742290407621132288 + f) = (rne (4503599627370496 + f) 22 : Int) := by
  have h1 : sgn (4742290407621132288 + f) = false := by
    unfold sgn
    have : (4742290407621132288 + f) / 9223372036854775808 % 2 = 0 := by omega
    rw [this]; rfl
  have h2 : rung (4742290407621132288 + f) = 1053 * 4503599627370496 + f := by unfold rung; omega
  obtain ⟨K, hK⟩ : ∃ K, K = 1052 := ⟨_, rfl⟩
  have h3 := mag_of_parts 1053 f K hf (by decide) 0 (by omega)
  have h4 := rne_scale (4503599627370496 + f) 22 K
  have h5 : 22 + K = 1074 := by omega
  rw [h5] at h4
  unfold rI
  rw [h1, h2, h3, Nat.pow_zero, Nat.mul_one, h4]; rfl
set_option maxHeartbeats 800000 in
theorem fixed_any (w0 w : World) (L : List Ent) (x : Nat) (h1 : 4472074429978902528 ≤ x) (h2 : x ≤ 4742290407621132288) (H : St w0 w L) : Calls Tryd.prog 23 #[.float .f64 x] w fun e w' => e = .returned (.tuple #[.int .i64 (fxM x), .int .i64 (fxS x), .nilIface]) ∧ St w0 w' L := by
  have hp : INF = 9218868437227405312 := rfl
  have hr : rung x = x := Nat.mod_eq_of_lt (by omega)
  have hs : sgn x = false := by
    unfold sgn
    have : x / 9223372036854775808 % 2 = 0 := by omega
    rw [this]; rfl
  have hn : isn x = false := decide_eq_false (by omega)
  have hx : x < 18446744073709551616 := by omega
  have hsr : sr x = (x : Int) := by unfold sr sg; rw [hs, hr]; rfl
  have z1 : (FloatKind.f64.format.order x 4472074429978902528 == some .gt || FloatKind.f64.format.order x 4472074429978902528 == some .eq) = true := by
    have a : (FloatKind.f64.format.order x 4472074429978902528 == some .gt) = (!isn x && !isn 4472074429978902528 && decide (sr 4472074429978902528 < sr x)) := gt_eq x 4472074429978902528
    have b : (FloatKind.f64.format.order x 4472074429978902528 == some .eq) = (!isn x && !isn 4472074429978902528 && decide (sr x = sr 4472074429978902528)) := eq_eq x 4472074429978902528
    rw [a, b, hn, hsr, show isn 4472074429978902528 = false by decide, show sr 4472074429978902528 = 4472074429978902528 by decide]
    simp; omega
  have z2 : (FloatKind.f64.format.order x 4742290407621132288 == some .lt || FloatKind.f64.format.order x 4742290407621132288 == some .eq) = true := by
    have a : (FloatKind.f64.format.order x 4742290407621132288 == some .lt) = (!isn x && !isn 4742290407621132288 && decide (sr x < sr 4742290407621132288)) := lt_eq x 4742290407621132288
    have b : (FloatKind.f64.format.order x 4742290407621132288 == some .eq) = (!isn x && !isn 4742290407621132288 && decide (sr x = sr 4742290407621132288)) := eq_eq x 4742290407621132288
    rw [a, b, hn, hsr, show isn 4742290407621132288 = false by decide, show sr 4742290407621132288 = 4742290407621132288 by decide]
    simp; omega
  obtain ⟨f, hf⟩ : ∃ f : Nat, f = rung x % 4503599627370496 := ⟨_, rfl⟩
  obtain ⟨E, hE⟩ : ∃ E : Nat, E = rung x / 4503599627370496 := ⟨_, rfl⟩
  have hfl : f < 4503599627370496 := by omega
  have hEl : 900 ≤ E ∧ E ≤ 1053 := by omega
  have hfr : ∀ w : World, Calls Tryd.prog 77 #[.float .f64 x] w fun e w' => e = .returned (.tuple #[.float .f64 (4602678819172646912 + f), .int .i64 ((E : Int) - 1022)]) ∧ w' = w := fun w => by
    have h := frexp_any x hx (by omega) (by omega) w
    rw [hs, ← hf, ← hE] at h
    rw [show (if false = true then 9223372036854775808 else 0) + (4602678819172646912 + f) = 4602678819172646912 + f by simp] at h
    exact h
  have hY : rung (4602678819172646912 + f) = 4602678819172646912 + f := Nat.mod_eq_of_lt (by omega)
  have hld : ∀ w : World, Calls Tryd.prog 84 #[.float .f64 (4602678819172646912 + f), .int .i64 31] w fun e w' => e = .returned (.float .f64 (4742290407621132288 + f)) ∧ w' = w := fun w => by
    have e1 : (4602678819172646912 + f) / 4503599627370496 = 1022 := by omega
    have e2 : (4602678819172646912 + f) % 4503599627370496 = f := by omega
    have e3 : sgn (4602678819172646912 + f) = false := by
      unfold sgn
      have : (4602678819172646912 + f) / 9223372036854775808 % 2 = 0 := by omega
      rw [this]; rfl
    have h := ldexp0_any (4602678819172646912 + f) (by omega) (by rw [hY]; omega) (by rw [hY]; omega) 31 (by rw [hY, e1]; decide) (by rw [hY, e1]; decide) w
    rw [hY, e1, e2, e3] at h
    rw [show (if false = true then 9223372036854775808 else 0) + ((31 + ((1022 : Nat) : Int)).toNat * 4503599627370496 + f) = 4742290407621132288 + f by
      rw [show (31 + ((1022 : Nat) : Int)).toNat = 1053 by decide]; simp] at h
    exact h
  have hD := fxD_range x
  have hz1 : 4742290407621132288 + f < 18446744073709551616 := by omega
  have hz2 : isn (4742290407621132288 + f) = false := decide_eq_false (by unfold rung; omega)
  have hz3 : rung (4742290407621132288 + f) < INF := by unfold rung; omega
  have hri : rI (4742290407621132288 + f) = (fxD x : Int) := by rw [rI_fix hfl]; unfold fxD; rw [← hf]
  have hcv := conv_run (roundW (4742290407621132288 + f)) _ (whl_round hz3) (by rw [hri]; omega) (by rw [hri]; omega)
  rw [hri] at hcv
  have e1 : fxM x = if fxD x = 2147483648 then 1073741824 else (fxD x : Int) := rfl
  have e2 : fxS x = if fxD x = 2147483648 then 1052 - (E : Int) else 1053 - (E : Int) := by unfold fxS; rw [← hE]
  rw [e1, e2]
  generalize fxD x = M at *
  generalize 4742290407621132288 + f = Z at *
  generalize 4602678819172646912 + f = Y at *
  clear hf hE e1 e2 hri hz3 hY hsr hr
  have ze1 : (31 : Int) - ((E : Int) - 1022) = 1053 - (E : Int) := by omega
  have ze2 : (1053 : Int) - (E : Int) - 1 = 1052 - (E : Int) := by omega
  by_cases hM : M = 2147483648
  · rw [if_pos hM, if_pos hM]
    have z3 : decide ((2147483647 : Int) < (M : Int)) = true := decide_eq_true (by omega)
    clear hM
    go_enter Tryd.func23, Tryd.ntmps23
    go_wp2_with (first | (go_at_call 77; refine (hfr _).mono ?_; rintro e_ w_ ⟨rfl, rfl⟩; ) | (go_at_call 29; refine (ldexp_any _ _ _ hld _).mono ?_; rintro e_ w_ ⟨rfl, rfl⟩; ) | (go_at_call 32; refine (round_any _ _ _ Z hz1 H).mono ?_; rintro e_ w_ ⟨y, rfl, hy, HN⟩; clear H; have H := HN; clear HN; obtain rfl : y = roundW Z := hy.2.2 hz2; clear hy))
    (go_ret3; exact ⟨by first | rfl | (simp; done) | (simp; omega), H⟩)
  · rw [if_neg hM, if_neg hM]
    have z3 : decide ((2147483647 : Int) < (M : Int)) = false := decide_eq_false (by omega)
    clear hM
    go_enter Tryd.func23, Tryd.ntmps23
    go_wp2_with (first | (go_at_call 77; refine (hfr _).mono ?_; rintro e_ w_ ⟨rfl, rfl⟩; ) | (go_at_call 29; refine (ldexp_any _ _ _ hld _).mono ?_; rintro e_ w_ ⟨rfl, rfl⟩; ) | (go_at_call 32; refine (round_any _ _ _ Z hz1 H).mono ?_; rintro e_ w_ ⟨y, rfl, hy, HN⟩; clear H; have H := HN; clear HN; obtain rfl : y = roundW Z := hy.2.2 hz2; clear hy))
    (go_ret3; exact ⟨by first | rfl | (simp; done) | (simp; omega), H⟩)
end Go.Proofs.YtcpfangcibilaaaDoor
