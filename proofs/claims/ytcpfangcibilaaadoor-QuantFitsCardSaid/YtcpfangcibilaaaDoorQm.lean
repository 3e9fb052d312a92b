/- QuantShifts, walked. No condition. -/
import Derived.Test.YtcpfangcibilaaaDoorQl
namespace Go.Proofs.YtcpfangcibilaaaDoor
set_option linter.unusedVariables false
set_option linter.unusedSimpArgs false
open Go.RowKit

theorem frexp1 (w : World) : Calls Tryd.prog 77 #[.float .f64 4607182418800017408] w fun e w' => e = .returned (.tuple #[.float .f64 4602678819172646912, .int .i64 1]) ∧ w' = w := by
  have h := frexp_any 4607182418800017408 (by decide) (by decide) (by decide) w
  rw [show (if sgn 4607182418800017408 then 9223372036854775808 else 0) + (4602678819172646912 + rung 4607182418800017408 % 4503599627370496) = 4602678819172646912 by decide, show (((rung 4607182418800017408 / 4503599627370496 : Nat) : Int) - 1022) = 1 by decide] at h
  exact h
theorem ldexp1 (w : World) : Calls Tryd.prog 84 #[.float .f64 4602678819172646912, .int .i64 31] w fun e w' => e = .returned (.float .f64 4742290407621132288) ∧ w' = w := by
  have h := ldexp0_any 4602678819172646912 (by decide) (by decide) (by decide) 31 (by decide) (by decide) w
  rw [show (if sgn 4602678819172646912 then 9223372036854775808 else 0) + ((31 + ((rung 4602678819172646912 / 4503599627370496 : Nat) : Int)).toNat * 4503599627370496 + rung 4602678819172646912 % 4503599627370496) = 4742290407621132288 by decide] at h
  exact h
theorem round30 : roundW 4742290407621132288 = 4742290407621132288 := by
  rw [roundW_mid (by decide) 22 (by decide) (by decide) (by decide)]
  decide
theorem whl30 : Whl 4742290407621132288 1073741824 := by
  have h : rI 4742290407621132288 = 1073741824 := by decide +kernel
  have := whl_round (x := 4742290407621132288) (by decide)
  rw [round30, h] at this
  exact this
set_option maxHeartbeats 400000 in
theorem fixed1 (w0 w : World) (L : List Ent) (H : St w0 w L) : Calls Tryd.prog 23 #[.float .f64 4607182418800017408] w fun e w' => e = .returned (.tuple #[.int .i64 1073741824, .int .i64 30, .nilIface]) ∧ St w0 w' L := by
  have z1 : (FloatKind.f64.format.order 4607182418800017408 4472074429978902528 == some .gt || FloatKind.f64.format.order 4607182418800017408 4472074429978902528 == some .eq) = true := by
    have h : (FloatKind.f64.format.order 4607182418800017408 4472074429978902528 == some .gt) = true := (gt_eq 4607182418800017408 4472074429978902528).trans (by decide)
    rw [h]; rfl
  have z2 : (FloatKind.f64.format.order 4607182418800017408 4742290407621132288 == some .lt || FloatKind.f64.format.order 4607182418800017408 4742290407621132288 == some .eq) = true := by
    have h : (FloatKind.f64.format.order 4607182418800017408 4742290407621132288 == some .lt) = true := (lt_eq 4607182418800017408 4742290407621132288).trans (by decide)
    rw [h]; rfl
  have hc := conv_run 4742290407621132288 1073741824 whl30 (by decide) (by decide)
  go_enter Tryd.func23, Tryd.ntmps23
  go_wp2_with (first | (go_at_call 77; refine (frexp1 _).mono ?_; rintro e_ w_ ⟨rfl, rfl⟩; ) | (go_at_call 29; refine (ldexp_any _ _ _ ldexp1 _).mono ?_; rintro e_ w_ ⟨rfl, rfl⟩; ) | (go_at_call 32; refine (round_any _ _ _ 4742290407621132288 (by decide) H).mono ?_; rintro e_ w_ ⟨y, rfl, hy, HN⟩; clear H; have H := HN; clear HN; obtain rfl : y = 4742290407621132288 := (hy.2.2 (by decide)).trans round30; clear hy))
  (go_ret3; exact ⟨rfl, H⟩)
set_option maxHeartbeats 400000 in
theorem first4_any (w0 w : World) (L : List Ent) (H : St w0 w L) : Calls Tryd.prog 22 #[] w fun e w' => e = .returned (.bool true) ∧ St w0 w' L := by
  have n2 : ∀ (w : World), (binOp .eql 25 .nilIface .nilIface).run Tryd.prog w = .ok (.bool true) w := fun w => by kernel_rfl
  have hr : ∀ w : World, Calls Tryd.prog 26 #[.int .i64 3, .int .i64 1073741824, .int .i64 31, .int .i64 0] w fun e w' => e = .returned (.int .i64 2) ∧ w' = w := fun w => by
    have h := requant_any 3 1073741824 31 0 w
    rw [show rq 3 1073741824 31 0 = 2 by decide +kernel] at h
    exact h
  go_enter Tryd.func22, Tryd.ntmps22
  go_wp2_with (first | (go_at_call 23; refine (fixed1 _ _ _ H).mono ?_; rintro e_ w_ ⟨rfl, HN⟩; clear H; have H := HN; clear HN) | (go_at_call 26; refine (hr _).mono ?_; rintro e_ w_ ⟨rfl, rfl⟩; ))
  (go_ret; exact ⟨rfl, H⟩)
end Go.Proofs.YtcpfangcibilaaaDoor
