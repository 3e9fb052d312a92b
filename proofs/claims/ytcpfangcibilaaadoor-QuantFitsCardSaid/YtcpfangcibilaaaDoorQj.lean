/- The chapter's first examples; FltKinds, FltRounds, walked. No condition but the table's cells. -/
import Derived.Test.YtcpfangcibilaaaDoorQi
namespace Go.Proofs.YtcpfangcibilaaaDoor
set_option linter.unusedVariables false
set_option linter.unusedSimpArgs false
open Go.RowKit

theorem ldexp_any (x : Nat) (k : Int) (r : Nat) (h : ∀ w : World, Calls Tryd.prog 84 #[.float .f64 x, .int .i64 k] w fun e w' => e = .returned (.float .f64 r) ∧ w' = w) (w : World) : Calls Tryd.prog 29 #[.float .f64 x, .int .i64 k] w fun e w' => e = .returned (.float .f64 r) ∧ w' = w := by
  go_enter Tryd.func29, Tryd.ntmps29
  go_wp2_with (first | (go_at_call 84; refine (h _).mono ?_; rintro e_ w_ ⟨rfl, rfl⟩; ))
  go_ret
  exact ⟨rfl, rfl⟩
theorem finite_any (x : Nat) (hx : x < 18446744073709551616) (w : World) : Calls Tryd.prog 92 #[.float .f64 x] w fun e w' => e = .returned (.bool (decide (rung x < INF))) ∧ w' = w := by
  by_cases h1 : INF < rung x
  · have hn : isn x = true := decide_eq_true h1
    rw [decide_eq_false (show ¬ rung x < INF by omega)]
    clear h1
    go_enter Tryd.func92, Tryd.ntmps92
    go_wp2_with (first | (go_at_call 47; refine (isInf_any x hx _).mono ?_; rintro e_ w_ ⟨rfl, rfl⟩; ) | (go_at_call 87; refine (isNaN_any x _).mono ?_; rintro e_ w_ ⟨rfl, rfl⟩; ))
    go_ret
    exact ⟨rfl, rfl⟩
  · have hn : isn x = false := decide_eq_false h1
    by_cases h2 : rung x = INF
    · have z : decide (rung x = INF) = true := decide_eq_true h2
      rw [decide_eq_false (show ¬ rung x < INF by omega)]
      clear h1 h2
      go_enter Tryd.func92, Tryd.ntmps92
      go_wp2_with (first | (go_at_call 47; refine (isInf_any x hx _).mono ?_; rintro e_ w_ ⟨rfl, rfl⟩; ) | (go_at_call 87; refine (isNaN_any x _).mono ?_; rintro e_ w_ ⟨rfl, rfl⟩; ))
      go_ret
      exact ⟨rfl, rfl⟩
    · have z : decide (rung x = INF) = false := decide_eq_false h2
      rw [decide_eq_true (show rung x < INF by omega)]
      clear h1 h2
      go_enter Tryd.func92, Tryd.ntmps92
      go_wp2_with (first | (go_at_call 47; refine (isInf_any x hx _).mono ?_; rintro e_ w_ ⟨rfl, rfl⟩; ) | (go_at_call 87; refine (isNaN_any x _).mono ?_; rintro e_ w_ ⟨rfl, rfl⟩; ))
      go_ret
      exact ⟨rfl, rfl⟩
theorem copysign_any (x s : Nat) (hx : x < 18446744073709551616) (hs : s < 18446744073709551616) (w : World) : Calls Tryd.prog 46 #[.float .f64 x, .float .f64 s] w fun e w' => e = .returned (.float .f64 (rung x + (if sgn s then 9223372036854775808 else 0))) ∧ w' = w := by
  have h1 := fbits_run x
  have h2 := fbits_run s
  have z1 := bits_abs x hx
  have z2 := bits_sign s hs
  have hr := rung_lt x
  have z3 : bits .or .u64 ((rung x : Nat) : Int) (((if sgn s then 9223372036854775808 else 0 : Nat)) : Int) = ((rung x + (if sgn s then 9223372036854775808 else 0) : Nat) : Int) := by
    rw [u64_or_nat _ _ (by omega) (by split <;> decide)]
    congr 1
    rw [Nat.or_comm, nat_join 63 _ _ (by split <;> decide) (by omega), Nat.add_comm]
  obtain ⟨S, hS⟩ : ∃ S : Nat, S = (if sgn s then 9223372036854775808 else 0) := ⟨_, rfl⟩
  replace z2 : bits .and .u64 (s : Int) 9223372036854775808 = (S : Int) := by rw [z2, hS]; split <;> rfl
  rw [← hS] at z3 ⊢
  generalize rung x = r at *
  replace z3 : bits .or .u64 (r : Int) (S : Int) = (r : Int) + (S : Int) := z3
  have hf : ∀ w : World, (callFunc 66 #[.int .u64 ((r : Int) + (S : Int))]).run Tryd.prog w = .ok (.value (.float .f64 (r + S))) w := ffrom_run (r + S)
  clear hS
  go_enter Tryd.func46, Tryd.ntmps46
  go_wp2
  go_ret
  exact ⟨rfl, rfl⟩
theorem frexp6 (w : World) : Calls Tryd.prog 77 #[.float .f64 4618441417868443648] w fun e w' => e = .returned (.tuple #[.float .f64 4604930618986332160, .int .i64 3]) ∧ w' = w := by
  have h := frexp_any 4618441417868443648 (by decide) (by decide) (by decide) w
  rw [show (if sgn 4618441417868443648 then 9223372036854775808 else 0) + (4602678819172646912 + rung 4618441417868443648 % 4503599627370496) = 4604930618986332160 by decide, show (((rung 4618441417868443648 / 4503599627370496 : Nat) : Int) - 1022) = 3 by decide] at h
  exact h
set_option maxRecDepth 20000 in
theorem ldexp6 (w : World) : Calls Tryd.prog 84 #[.float .f64 4604930618986332160, .int .i64 53] w fun e w' => e = .returned (.float .f64 4843621399236968448) ∧ w' = w := by
  have h := ldexp0_any 4604930618986332160 (by decide) (by decide) (by decide) 53 (by decide) (by decide) w
  rw [show (if sgn 4604930618986332160 then 9223372036854775808 else 0) + ((53 + ((rung 4604930618986332160 / 4503599627370496 : Nat) : Int)).toNat * 4503599627370496 + rung 4604930618986332160 % 4503599627370496) = 4843621399236968448 by decide] at h
  exact h
theorem whl6 : Whl 4843621399236968448 6755399441055744 := whl_const _ false 1075 2251799813685248 0 (by decide) (by decide) (by decide) (by decide) (by decide) _ (by decide)
theorem tz6 (w : World) (hT : TabC w) : Calls Tryd.prog 93 #[.int .u64 6755399441055744] w fun e w' => e = .returned (.int .i64 51) ∧ w' = w := by
  have h := tz64_any 6755399441055744 (by decide) (by decide) w hT
  rw [show Lib.ctz 64 6755399441055744 = 51 by decide +kernel] at h
  exact h
set_option maxHeartbeats 400000 in
theorem parts6 (w : World) (hT : TabC w) : Calls Tryd.prog 62 #[.float .f64 4618441417868443648] w fun e w' => e = .returned (.tuple #[.int .i64 3, .int .i64 1, .bool true]) ∧ w' = w := by
  have z0 : decide (rung 4618441417868443648 < INF) = true := by decide
  have z1 : (FloatKind.f64.format.order 4618441417868443648 0 == some .eq) = false := (zero_test 4618441417868443648).trans (by decide)
  have hc : ∀ w : World, (convert 22 2 (.float .f64 4843621399236968448)).run Tryd.prog w = .ok (.int .i64 6755399441055744) w := fun w => run_convert_float_int w _ _ .f64 .i64 _ _ (by kernel_rfl) Tryd.underlying2 (toInt_i64 whl6 (by decide) (by decide))
  go_enter Tryd.func62, Tryd.ntmps62
  go_wp2_with (first | (go_at_call 92; refine (finite_any 4618441417868443648 (by decide) _).mono ?_; rintro e_ w_ ⟨rfl, rfl⟩; ) | (go_at_call 77; refine (frexp6 _).mono ?_; rintro e_ w_ ⟨rfl, rfl⟩; ) | (go_at_call 29; refine (ldexp_any _ _ _ ldexp6 _).mono ?_; rintro e_ w_ ⟨rfl, rfl⟩; ) | (go_at_call 93; refine (tz6 _ hT).mono ?_; rintro e_ w_ ⟨rfl, rfl⟩; ))
  go_ret3
  exact ⟨rfl, rfl⟩
end Go.Proofs.YtcpfangcibilaaaDoor
