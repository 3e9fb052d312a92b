/- Package flt and the document: kinds, sameness, order of numbers, walked. No condition. -/
import Derived.Test.YtcpfangcibilaaaDoorQa
namespace Go.Proofs.YtcpfangcibilaaaDoor
set_option linter.unusedVariables false
set_option linter.unusedSimpArgs false
open Go.RowKit

theorem rung_idem (x : Nat) : rung (rung x) = rung x := Nat.mod_eq_of_lt (rung_lt x)
theorem isn_rung (x : Nat) : isn (rung x) = isn x := by unfold isn; rw [rung_idem]
theorem kind_any (x : Nat) (hx : x < 18446744073709551616) (w : World) : Calls Tryd.prog 40 #[.float .f64 x] w fun e w' => e = .returned (.tuple #[.int .i64 (kindN x), .bool (kindS x)]) ∧ w' = w := by
  have hp : INF = 9218868437227405312 := rfl
  have z3 : (FloatKind.f64.format.order x 0 == some .eq) = decide (rung x = 0) := zero_test x
  unfold kindN kindS
  by_cases h1 : INF < rung x
  · have hn : isn x = true := decide_eq_true h1
    rw [if_pos h1, hn]
    go_enter Tryd.func40, Tryd.ntmps40
    go_wp2_with (first | (go_at_call 87; refine (isNaN_any x _).mono ?_; rintro e_ w_ ⟨rfl, rfl⟩; ) | (go_at_call 34; refine (signbit_any x hx _).mono ?_; rintro e_ w_ ⟨rfl, rfl⟩; ) | (go_at_call 47; refine (isInf_any x hx _).mono ?_; rintro e_ w_ ⟨rfl, rfl⟩; ) | (go_at_call 30; refine (abs_any x hx _).mono ?_; rintro e_ w_ ⟨rfl, rfl⟩; ))
    go_ret2
    exact ⟨rfl, rfl⟩
  · have hn : isn x = false := decide_eq_false h1
    have z4 : (FloatKind.f64.format.order (rung x) 4503599627370496 == some .lt) = decide (rung x < 4503599627370496) := small_test (rung x) (rung_lt x) (by rw [isn_rung]; exact hn)
    rw [if_neg h1, hn]
    by_cases h2 : rung x = INF
    · rw [if_pos h2]
      have z2 : decide (rung x = INF) = true := decide_eq_true h2
      clear z3 z4 h1
      have h2 := Lib.hid h2
      go_enter Tryd.func40, Tryd.ntmps40
      go_wp2_with (first | (go_at_call 87; refine (isNaN_any x _).mono ?_; rintro e_ w_ ⟨rfl, rfl⟩; ) | (go_at_call 34; refine (signbit_any x hx _).mono ?_; rintro e_ w_ ⟨rfl, rfl⟩; ) | (go_at_call 47; refine (isInf_any x hx _).mono ?_; rintro e_ w_ ⟨rfl, rfl⟩; ) | (go_at_call 30; refine (abs_any x hx _).mono ?_; rintro e_ w_ ⟨rfl, rfl⟩; ))
      go_ret2
      exact ⟨rfl, rfl⟩
    · rw [if_neg h2]
      have z2 : decide (rung x = INF) = false := decide_eq_false h2
      by_cases h3 : rung x = 0
      · rw [if_pos h3]
        rw [decide_eq_true h3] at z3
        clear h1 h2 z4
        have h3 := Lib.hid h3
        go_enter Tryd.func40, Tryd.ntmps40
        go_wp2_with (first | (go_at_call 87; refine (isNaN_any x _).mono ?_; rintro e_ w_ ⟨rfl, rfl⟩; ) | (go_at_call 34; refine (signbit_any x hx _).mono ?_; rintro e_ w_ ⟨rfl, rfl⟩; ) | (go_at_call 47; refine (isInf_any x hx _).mono ?_; rintro e_ w_ ⟨rfl, rfl⟩; ) | (go_at_call 30; refine (abs_any x hx _).mono ?_; rintro e_ w_ ⟨rfl, rfl⟩; ))
        go_ret2
        exact ⟨rfl, rfl⟩
      · rw [if_neg h3]
        rw [decide_eq_false h3] at z3
        by_cases h4 : rung x < 4503599627370496
        · rw [if_pos h4]
          rw [decide_eq_true h4] at z4
          clear h1 h2 h3 h4
          go_enter Tryd.func40, Tryd.ntmps40
          go_wp2_with (first | (go_at_call 87; refine (isNaN_any x _).mono ?_; rintro e_ w_ ⟨rfl, rfl⟩; ) | (go_at_call 34; refine (signbit_any x hx _).mono ?_; rintro e_ w_ ⟨rfl, rfl⟩; ) | (go_at_call 47; refine (isInf_any x hx _).mono ?_; rintro e_ w_ ⟨rfl, rfl⟩; ) | (go_at_call 30; refine (abs_any x hx _).mono ?_; rintro e_ w_ ⟨rfl, rfl⟩; ))
          go_ret2
          exact ⟨rfl, rfl⟩
        · rw [if_neg h4]
          rw [decide_eq_false h4] at z4
          clear h1 h2 h3 h4
          go_enter Tryd.func40, Tryd.ntmps40
          go_wp2_with (first | (go_at_call 87; refine (isNaN_any x _).mono ?_; rintro e_ w_ ⟨rfl, rfl⟩; ) | (go_at_call 34; refine (signbit_any x hx _).mono ?_; rintro e_ w_ ⟨rfl, rfl⟩; ) | (go_at_call 47; refine (isInf_any x hx _).mono ?_; rintro e_ w_ ⟨rfl, rfl⟩; ) | (go_at_call 30; refine (abs_any x hx _).mono ?_; rintro e_ w_ ⟨rfl, rfl⟩; ))
          go_ret2
          exact ⟨rfl, rfl⟩
theorem same_any (x y : Nat) (w : World) : Calls Tryd.prog 37 #[.float .f64 x, .float .f64 y] w fun e w' => e = .returned (.bool (sameW x y)) ∧ w' = w := by
  have h1 := fbits_run x
  have h2 := fbits_run y
  have z : ((x : Int) == (y : Int)) = decide (x = y) := by
    by_cases h : x = y
    · subst h; simp
    · rw [decide_eq_false h, beq_eq_false_iff_ne]; omega
  unfold sameW
  cases hx : isn x
  · go_enter Tryd.func37, Tryd.ntmps37
    go_wp2_with (first | (go_at_call 87; refine (isNaN_any x _).mono ?_; rintro e_ w_ ⟨rfl, rfl⟩; ) | (go_at_call 87; refine (isNaN_any y _).mono ?_; rintro e_ w_ ⟨rfl, rfl⟩; ))
    go_ret
    exact ⟨by first | rfl | (rw [← z]; rfl), rfl⟩
  · cases hy : isn y
    · go_enter Tryd.func37, Tryd.ntmps37
      go_wp2_with (first | (go_at_call 87; (with_reducible refine (isNaN_any x _).mono ?_); rintro e_ w_ ⟨rfl, rfl⟩; ) | (go_at_call 87; (with_reducible refine (isNaN_any y _).mono ?_); rintro e_ w_ ⟨rfl, rfl⟩; ))
      go_ret
      exact ⟨by first | rfl | (rw [← z]; rfl), rfl⟩
    · go_enter Tryd.func37, Tryd.ntmps37
      go_wp2_with (first | (go_at_call 87; (with_reducible refine (isNaN_any x _).mono ?_); rintro e_ w_ ⟨rfl, rfl⟩; ) | (go_at_call 87; (with_reducible refine (isNaN_any y _).mono ?_); rintro e_ w_ ⟨rfl, rfl⟩; ))
      go_ret
      exact ⟨rfl, rfl⟩
end Go.Proofs.YtcpfangcibilaaaDoor
