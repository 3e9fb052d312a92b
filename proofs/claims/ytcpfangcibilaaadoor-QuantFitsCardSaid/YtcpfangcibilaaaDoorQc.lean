/- The document's kinds and order of numbers, package flt's order, walked. No condition. -/
import Derived.Test.YtcpfangcibilaaaDoorQb
namespace Go.Proofs.YtcpfangcibilaaaDoor
set_option linter.unusedVariables false
set_option linter.unusedSimpArgs false
open Go.RowKit

theorem ref_expo (x : Nat) (hx : x < 18446744073709551616) : bits .and .u64 ((x : Int) / 4503599627370496) 2047 = ((rung x / 4503599627370496 : Nat) : Int) := by
  rw [← bits_expo x hx]; congr 1
theorem ref_sgn (x : Nat) (hx : x < 18446744073709551616) : ((x : Int) / 9223372036854775808 == 1) = sgn x := by
  cases hs : sgn x
  · have := sgn_false hx hs
    have hr := rung_lt x
    rw [beq_eq_false_iff_ne]; omega
  · have := sgn_true hx hs
    have hr := rung_lt x
    rw [beq_iff_eq]; omega
theorem ref_mant (x : Nat) : IntKind.u64.wrap ((x : Int) * 4096) = ((rung x % 4503599627370496 : Nat) : Int) * 4096 := by
  rw [IntKind.wrap_u64]; unfold rung; omega
set_option maxHeartbeats 800000 in
theorem refKind_any (x : Nat) (hx : x < 18446744073709551616) (w : World) : Calls Tryd.prog 41 #[.float .f64 x] w fun e w' => e = .returned (.tuple #[.int .i64 (kindN x), .bool (kindS x)]) ∧ w' = w := by
  have hp : INF = 9218868437227405312 := rfl
  have h1 := fbits_run x
  have hr := rung_lt x
  have ze := ref_expo x hx
  have zs := ref_sgn x hx
  have zm := ref_mant x
  obtain ⟨E, hE⟩ : ∃ E : Int, E = ((rung x / 4503599627370496 : Nat) : Int) := ⟨_, rfl⟩
  obtain ⟨M, hM⟩ : ∃ M : Int, M = ((rung x % 4503599627370496 : Nat) : Int) * 4096 := ⟨_, rfl⟩
  rw [← hE] at ze
  rw [← hM] at zm
  unfold kindN kindS isn
  by_cases c1 : INF < rung x
  · have e1 : E = 2047 := by omega
    have e2 : (M != 0) = true := by rw [bne_iff_ne]; omega
    have e3 : (M == 0) = false := by rw [beq_eq_false_iff_ne]; omega
    rw [if_pos c1, decide_eq_true c1]
    subst e1
    clear hE hM c1 hr hp
    go_enter Tryd.func41, Tryd.ntmps41
    go_wp2
    go_ret2
    exact ⟨rfl, rfl⟩
  rw [if_neg c1, decide_eq_false c1]
  by_cases c2 : rung x = INF
  · have e1 : E = 2047 := by omega
    have e2 : M = 0 := by omega
    rw [if_pos c2]
    subst e1; subst e2
    clear hE hM c1 c2 hr hp
    go_enter Tryd.func41, Tryd.ntmps41
    go_wp2
    go_ret2
    exact ⟨by rw [← zs]; rfl, rfl⟩
  rw [if_neg c2]
  by_cases c3 : rung x = 0
  · have e1 : E = 0 := by omega
    have e2 : M = 0 := by omega
    rw [if_pos c3]
    subst e1; subst e2
    clear hE hM c1 c2 c3 hr hp
    go_enter Tryd.func41, Tryd.ntmps41
    go_wp2
    go_ret2
    exact ⟨by rw [← zs]; rfl, rfl⟩
  rw [if_neg c3]
  by_cases c4 : rung x < 4503599627370496
  · have e1 : E = 0 := by omega
    have e2 : (M != 0) = true := by rw [bne_iff_ne]; omega
    have e3 : (M == 0) = false := by rw [beq_eq_false_iff_ne]; omega
    rw [if_pos c4]
    subst e1
    clear hE hM c1 c2 c3 c4 hr hp
    go_enter Tryd.func41, Tryd.ntmps41
    go_wp2
    go_ret2
    exact ⟨by rw [← zs]; rfl, rfl⟩
  · have e1 : (E == 2047) = false := by rw [beq_eq_false_iff_ne]; omega
    have e2 : (E == 0) = false := by rw [beq_eq_false_iff_ne]; omega
    rw [if_neg c4]
    clear hE hM c1 c2 c3 c4 hr hp
    go_enter Tryd.func41, Tryd.ntmps41
    go_wp2
    go_ret2
    exact ⟨by rw [← zs]; rfl, rfl⟩
theorem kind_isn (x : Nat) : (kindN x == 1) = isn x := by
  unfold kindN isn
  by_cases h : INF < rung x
  · simp [h]
  · rw [if_neg h, decide_eq_false h]
    split
    · rfl
    split
    · rfl
    split <;> rfl
theorem refNan_any (x : Nat) (hx : x < 18446744073709551616) (w : World) : Calls Tryd.prog 88 #[.float .f64 x] w fun e w' => e = .returned (.bool (isn x)) ∧ w' = w := by
  have z := kind_isn x
  go_enter Tryd.func88, Tryd.ntmps88
  go_wp2_with (first | (go_at_call 41; refine (refKind_any x hx _).mono ?_; rintro e_ w_ ⟨rfl, rfl⟩; ))
  go_ret
  exact ⟨by rw [← z]; rfl, rfl⟩
theorem eq_bits (x y : Nat) : ((x : Int) == (y : Int)) = decide (x = y) := by
  by_cases h : x = y
  · subst h; simp
  · rw [decide_eq_false h, beq_eq_false_iff_ne]; omega
theorem refSame_any (x y : Nat) (hx : x < 18446744073709551616) (hy : y < 18446744073709551616) (w : World) : Calls Tryd.prog 42 #[.float .f64 x, .float .f64 y] w fun e w' => e = .returned (.bool (sameW x y)) ∧ w' = w := by
  have h1 := fbits_run x
  have h2 := fbits_run y
  have z := eq_bits x y
  unfold sameW
  cases nx : isn x
  · go_enter Tryd.func42, Tryd.ntmps42
    go_wp2_with (first | (go_at_call 88; (with_reducible refine (refNan_any x hx _).mono ?_); rintro e_ w_ ⟨rfl, rfl⟩; ) | (go_at_call 88; (with_reducible refine (refNan_any y hy _).mono ?_); rintro e_ w_ ⟨rfl, rfl⟩; ))
    go_ret
    exact ⟨by first | rfl | (rw [← z]; rfl), rfl⟩
  · cases ny : isn y
    · go_enter Tryd.func42, Tryd.ntmps42
      go_wp2_with (first | (go_at_call 88; (with_reducible refine (refNan_any x hx _).mono ?_); rintro e_ w_ ⟨rfl, rfl⟩; ) | (go_at_call 88; (with_reducible refine (refNan_any y hy _).mono ?_); rintro e_ w_ ⟨rfl, rfl⟩; ))
      go_ret
      exact ⟨by first | rfl | (rw [← z]; rfl), rfl⟩
    · go_enter Tryd.func42, Tryd.ntmps42
      go_wp2_with (first | (go_at_call 88; (with_reducible refine (refNan_any x hx _).mono ?_); rintro e_ w_ ⟨rfl, rfl⟩; ) | (go_at_call 88; (with_reducible refine (refNan_any y hy _).mono ?_); rintro e_ w_ ⟨rfl, rfl⟩; ))
      go_ret
      exact ⟨rfl, rfl⟩
theorem rank_any (x : Nat) (hx : x < 18446744073709551616) (w : World) : Calls Tryd.prog 90 #[.float .f64 x] w fun e w' => e = .returned (.int .i64 (rk x)) ∧ w' = w := by
  have h1 := fbits_run x
  have z := wrap_neg x hx
  have hr := rung_lt x
  cases hs : sgn x
  · rw [hs] at z
    have hk : rk x = wrap64 (x : Int) := by unfold rk; rw [hs]; have := sgn_false hx hs; unfold wrap64; simp; omega
    go_enter Tryd.func90, Tryd.ntmps90
    go_wp2
    go_ret
    exact ⟨by rw [hk]; rfl, rfl⟩
  · rw [hs] at z
    have hk : rk x = wrap64 (wrap64 (-9223372036854775808 - wrap64 (x : Int)) - 1) := by unfold rk; rw [hs]; have := sgn_true hx hs; unfold wrap64; simp; omega
    go_enter Tryd.func90, Tryd.ntmps90
    go_wp2
    go_ret
    exact ⟨by rw [hk]; first | rfl | (congr 2; unfold wrap64; omega), rfl⟩
theorem refLess_any (x y : Nat) (hx : x < 18446744073709551616) (hy : y < 18446744073709551616) (w : World) : Calls Tryd.prog 44 #[.float .f64 x, .float .f64 y] w fun e w' => e = .returned (.bool (lessW x y)) ∧ w' = w := by
  unfold lessW
  cases nx : isn x
  · cases ny : isn y
    · go_enter Tryd.func44, Tryd.ntmps44
      go_wp2_with (first | (go_at_call 88; (with_reducible refine (refNan_any x hx _).mono ?_); rintro e_ w_ ⟨rfl, rfl⟩; ) | (go_at_call 88; (with_reducible refine (refNan_any y hy _).mono ?_); rintro e_ w_ ⟨rfl, rfl⟩; ) | (go_at_call 90; (with_reducible refine (rank_any x hx _).mono ?_); rintro e_ w_ ⟨rfl, rfl⟩; ) | (go_at_call 90; (with_reducible refine (rank_any y hy _).mono ?_); rintro e_ w_ ⟨rfl, rfl⟩; ))
      go_ret
      exact ⟨rfl, rfl⟩
    · go_enter Tryd.func44, Tryd.ntmps44
      go_wp2_with (first | (go_at_call 88; (with_reducible refine (refNan_any x hx _).mono ?_); rintro e_ w_ ⟨rfl, rfl⟩; ) | (go_at_call 88; (with_reducible refine (refNan_any y hy _).mono ?_); rintro e_ w_ ⟨rfl, rfl⟩; ) | (go_at_call 90; (with_reducible refine (rank_any x hx _).mono ?_); rintro e_ w_ ⟨rfl, rfl⟩; ) | (go_at_call 90; (with_reducible refine (rank_any y hy _).mono ?_); rintro e_ w_ ⟨rfl, rfl⟩; ))
      go_ret
      exact ⟨rfl, rfl⟩
  · go_enter Tryd.func44, Tryd.ntmps44
    go_wp2_with (first | (go_at_call 88; (with_reducible refine (refNan_any x hx _).mono ?_); rintro e_ w_ ⟨rfl, rfl⟩; ) | (go_at_call 88; (with_reducible refine (refNan_any y hy _).mono ?_); rintro e_ w_ ⟨rfl, rfl⟩; ) | (go_at_call 90; (with_reducible refine (rank_any x hx _).mono ?_); rintro e_ w_ ⟨rfl, rfl⟩; ) | (go_at_call 90; (with_reducible refine (rank_any y hy _).mono ?_); rintro e_ w_ ⟨rfl, rfl⟩; ))
    go_ret
    exact ⟨rfl, rfl⟩
theorem less_any (x y : Nat) (hx : x < 18446744073709551616) (hy : y < 18446744073709551616) (w : World) : Calls Tryd.prog 43 #[.float .f64 x, .float .f64 y] w fun e w' => e = .returned (.bool (lessW x y)) ∧ w' = w := by
  cases nx : isn x
  · cases ny : isn y
    · have z1 : (FloatKind.f64.format.order x y == some .eq) = (!isn x && !isn y && decide (sr x = sr y)) := eq_eq x y
      have z2 : (FloatKind.f64.format.order x y == some .lt) = (!isn x && !isn y && decide (sr x < sr y)) := lt_eq x y
      have hl := less_eq nx ny
      rw [nx, ny] at z1 z2
      by_cases h : sr x = sr y
      · rw [if_pos h] at hl
        rw [decide_eq_true h] at z1
        rw [hl]
        clear h z2
        cases sx : sgn x
        · go_enter Tryd.func43, Tryd.ntmps43
          go_wp2_with (first | (go_at_call 87; (with_reducible refine (isNaN_any x _).mono ?_); rintro e_ w_ ⟨rfl, rfl⟩; ) | (go_at_call 87; (with_reducible refine (isNaN_any y _).mono ?_); rintro e_ w_ ⟨rfl, rfl⟩; ) | (go_at_call 34; (with_reducible refine (signbit_any x hx _).mono ?_); rintro e_ w_ ⟨rfl, rfl⟩; ) | (go_at_call 34; (with_reducible refine (signbit_any y hy _).mono ?_); rintro e_ w_ ⟨rfl, rfl⟩; ))
          go_ret
          exact ⟨rfl, rfl⟩
        · cases sy : sgn y
          · go_enter Tryd.func43, Tryd.ntmps43
            go_wp2_with (first | (go_at_call 87; (with_reducible refine (isNaN_any x _).mono ?_); rintro e_ w_ ⟨rfl, rfl⟩; ) | (go_at_call 87; (with_reducible refine (isNaN_any y _).mono ?_); rintro e_ w_ ⟨rfl, rfl⟩; ) | (go_at_call 34; (with_reducible refine (signbit_any x hx _).mono ?_); rintro e_ w_ ⟨rfl, rfl⟩; ) | (go_at_call 34; (with_reducible refine (signbit_any y hy _).mono ?_); rintro e_ w_ ⟨rfl, rfl⟩; ))
            go_ret
            exact ⟨rfl, rfl⟩
          · go_enter Tryd.func43, Tryd.ntmps43
            go_wp2_with (first | (go_at_call 87; (with_reducible refine (isNaN_any x _).mono ?_); rintro e_ w_ ⟨rfl, rfl⟩; ) | (go_at_call 87; (with_reducible refine (isNaN_any y _).mono ?_); rintro e_ w_ ⟨rfl, rfl⟩; ) | (go_at_call 34; (with_reducible refine (signbit_any x hx _).mono ?_); rintro e_ w_ ⟨rfl, rfl⟩; ) | (go_at_call 34; (with_reducible refine (signbit_any y hy _).mono ?_); rintro e_ w_ ⟨rfl, rfl⟩; ))
            go_ret
            exact ⟨rfl, rfl⟩
      · rw [if_neg h] at hl
        rw [decide_eq_false h] at z1
        rw [hl]
        clear h
        go_enter Tryd.func43, Tryd.ntmps43
        go_wp2_with (first | (go_at_call 87; (with_reducible refine (isNaN_any x _).mono ?_); rintro e_ w_ ⟨rfl, rfl⟩; ) | (go_at_call 87; (with_reducible refine (isNaN_any y _).mono ?_); rintro e_ w_ ⟨rfl, rfl⟩; ))
        go_ret
        exact ⟨by first | rfl | (rw [show decide (sr x < sr y) = _ from z2.symm]; rfl), rfl⟩
    · have hl : lessW x y = true := by unfold lessW; rw [nx, ny]; rfl
      rw [hl]
      go_enter Tryd.func43, Tryd.ntmps43
      go_wp2_with (first | (go_at_call 87; (with_reducible refine (isNaN_any x _).mono ?_); rintro e_ w_ ⟨rfl, rfl⟩; ) | (go_at_call 87; (with_reducible refine (isNaN_any y _).mono ?_); rintro e_ w_ ⟨rfl, rfl⟩; ))
      go_ret
      exact ⟨rfl, rfl⟩
  · have hl : lessW x y = false := by unfold lessW; rw [nx]; rfl
    rw [hl]
    go_enter Tryd.func43, Tryd.ntmps43
    go_wp2_with (first | (go_at_call 87; (with_reducible refine (isNaN_any x _).mono ?_); rintro e_ w_ ⟨rfl, rfl⟩; ) | (go_at_call 87; (with_reducible refine (isNaN_any y _).mono ?_); rintro e_ w_ ⟨rfl, rfl⟩; ))
    go_ret
    exact ⟨rfl, rfl⟩
end Go.Proofs.YtcpfangcibilaaaDoor
