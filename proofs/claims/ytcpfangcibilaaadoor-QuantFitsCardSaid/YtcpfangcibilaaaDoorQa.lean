/- Go's library of numbers, and package flt: kinds, order, walked. No condition. -/
import Derived.Test.YtcpfangcibilaaaDoorFh
import Derived.Test.YtcpfangcibilaaaDoorGx
namespace Go.Proofs.YtcpfangcibilaaaDoor
set_option linter.unusedVariables false
set_option linter.unusedSimpArgs false
open Go.RowKit

theorem fbits_run (x : Nat) (w : World) : (callFunc 85 #[.float .f64 x]).run Tryd.prog w = .ok (.value (.int .u64 (x : Int))) w := by kernel_rfl
theorem ffrom_run (x : Nat) (w : World) : (callFunc 66 #[.int .u64 (x : Int)]).run Tryd.prog w = .ok (.value (.float .f64 x)) w := by kernel_rfl
theorem isNaN_any (x : Nat) (w : World) : Calls Tryd.prog 87 #[.float .f64 x] w fun e w' => e = .returned (.bool (isn x)) ∧ w' = w := by
  have z : (FloatKind.f64.format.order x x != some .eq) = isn x := nan_test' x
  go_enter Tryd.func87, Tryd.ntmps87
  go_wp2
  go_ret
  exact ⟨by rw [← z]; rfl, rfl⟩
theorem wrap_neg (x : Nat) (hx : x < 18446744073709551616) : decide (wrap64 (x : Int) < 0) = sgn x := by
  unfold sgn wrap64
  by_cases h : x / 9223372036854775808 % 2 = 1
  · rw [decide_eq_true (by omega)]; simp [h]
  · rw [decide_eq_false (by omega)]; simp [h]
theorem signbit_any (x : Nat) (hx : x < 18446744073709551616) (w : World) : Calls Tryd.prog 34 #[.float .f64 x] w fun e w' => e = .returned (.bool (sgn x)) ∧ w' = w := by
  have h1 := fbits_run x
  have z := wrap_neg x hx
  go_enter Tryd.func34, Tryd.ntmps34
  go_wp2
  go_ret
  exact ⟨by rw [← z]; rfl, rfl⟩
theorem abs_any (x : Nat) (hx : x < 18446744073709551616) (w : World) : Calls Tryd.prog 30 #[.float .f64 x] w fun e w' => e = .returned (.float .f64 (rung x)) ∧ w' = w := by
  have h1 := fbits_run x
  have h2 := ffrom_run (rung x)
  have z := bits_abs x hx
  go_enter Tryd.func30, Tryd.ntmps30
  go_wp2
  go_ret
  exact ⟨rfl, rfl⟩
theorem infB (x : Nat) : (FloatKind.f64.format.order (rung x) 9218868437227405311 == some .gt) = decide (rung x = INF) := by
  have h := inf_hi (rung x)
  have hr := rung_lt x
  have e1 : sgn (rung x) = false := by unfold sgn; have : rung x / 9223372036854775808 % 2 = 0 := by omega
                                       simp [this]
  have e2 : rung (rung x) = rung x := Nat.mod_eq_of_lt hr
  rw [e1, e2] at h
  simp only [Bool.not_false, Bool.true_and] at h
  exact h
theorem isInf_any (x : Nat) (hx : x < 18446744073709551616) (w : World) : Calls Tryd.prog 47 #[.float .f64 x, .int .i64 0] w fun e w' => e = .returned (.bool (decide (rung x = INF))) ∧ w' = w := by
  have z := infB x
  go_enter Tryd.func47, Tryd.ntmps47
  go_wp2_with (first | (go_at_call 30; refine (abs_any x hx _).mono ?_; rintro e_ w_ ⟨rfl, rfl⟩; ))
  go_ret
  exact ⟨by rw [← z]; rfl, rfl⟩
end Go.Proofs.YtcpfangcibilaaaDoor
