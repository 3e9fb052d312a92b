/- The document's Whole, walked; FltRounds but for its first examples. No condition. -/
import Derived.Test.YtcpfangcibilaaaDoorQf
namespace Go.Proofs.YtcpfangcibilaaaDoor
set_option linter.unusedVariables false
set_option linter.unusedSimpArgs false
open Go.RowKit

theorem cut_any (n fr to : Int) (h : fr ≤ to) (w : World) : Calls Tryd.prog 82 #[.int .i64 n, .int .i64 fr, .int .i64 to] w fun e w' => e = .returned (.int .i64 (max fr (min n to))) ∧ w' = w := by
  by_cases h1 : n < fr
  · rw [show max fr (min n to) = fr by omega]
    have z1 : decide (n < fr) = true := decide_eq_true h1
    go_enter Tryd.func82, Tryd.ntmps82
    go_wp2
    go_ret
    exact ⟨rfl, rfl⟩
  have z1 : decide (n < fr) = false := decide_eq_false h1
  by_cases h2 : to < n
  · rw [show max fr (min n to) = to by omega]
    have z2 : decide (to < n) = true := decide_eq_true h2
    go_enter Tryd.func82, Tryd.ntmps82
    go_wp2
    go_ret
    exact ⟨rfl, rfl⟩
  · rw [show max fr (min n to) = n by omega]
    have z2 : decide (to < n) = false := decide_eq_false h2
    go_enter Tryd.func82, Tryd.ntmps82
    go_wp2
    go_ret
    exact ⟨rfl, rfl⟩
theorem inf_gt {x : Nat} (h : rung x = INF) (c : Nat) (n : Int) (hc : Whl c n) : (Ieee.double.order x c == some .gt) = !sgn x := by
  have hm : mag (rung c) < mag INF := mag_lt hc.1
  rw [order_num (x := x) (y := c) (by omega) (Nat.le_of_lt hc.1)]
  unfold sv
  rw [h]
  generalize mag INF = M at *
  generalize mag (rung c) = m at *
  cases sgn x
  · have : sg (sgn c) m < sg false M := by unfold sg; simp; split <;> omega
    rw [cmp_gt this]; decide
  · have : sg true M < sg (sgn c) m := by unfold sg; simp; split <;> omega
    rw [cmp_lt this]; decide
theorem whl_lo : Whl 14114063095424393472 (-9000000000000000000) := whl_const _ true 1085 4285462872629504 10 (by decide) (by decide) (by decide) (by decide) (by decide) _ (by decide)
theorem whl_hi : Whl 4890691058569617664 9000000000000000000 := whl_const _ false 1085 4285462872629504 10 (by decide) (by decide) (by decide) (by decide) (by decide) _ (by decide)

theorem wlow_end (r : Nat) (n fr T : Int) (h : fr ≤ T) (z : (FloatKind.f64.format.order r 14114281232179134464 == some .lt) = true) (w : World) : Calls Tryd.prog 89 #[.float .f64 r, .bool true, .int .i64 fr, .int .i64 T] w fun e w' => e = .returned (.int .i64 (fr)) ∧ w' = w := by
  go_enter Tryd.func89, Tryd.ntmps89
  go_wp2
  go_ret
  exact ⟨rfl, rfl⟩
theorem wlow_in (r : Nat) (n fr T : Int) (h : fr ≤ T) (z : (FloatKind.f64.format.order r 14114281232179134464 == some .lt) = false) (hc : ∀ w : World, (convert 22 3 (.float .f64 r)).run Tryd.prog w = .ok (.int .i64 n) w) (w : World) : Calls Tryd.prog 89 #[.float .f64 r, .bool true, .int .i64 fr, .int .i64 T] w fun e w' => e = .returned (.int .i64 (max fr (min n T))) ∧ w' = w := by
  go_enter Tryd.func89, Tryd.ntmps89
  go_wp2_with (first | (go_at_call 82; refine (cut_any n fr T h _).mono ?_; rintro e_ w_ ⟨rfl, rfl⟩; ))
  go_ret
  exact ⟨rfl, rfl⟩
theorem whi_end (r : Nat) (n fr T : Int) (h : fr ≤ T) (z : (FloatKind.f64.format.order r 4890909195324358656 == some .gt || FloatKind.f64.format.order r 4890909195324358656 == some .eq) = true) (w : World) : Calls Tryd.prog 89 #[.float .f64 r, .bool false, .int .i64 fr, .int .i64 T] w fun e w' => e = .returned (.int .i64 (T)) ∧ w' = w := by
  go_enter Tryd.func89, Tryd.ntmps89
  go_wp2
  go_ret
  exact ⟨rfl, rfl⟩
theorem whi_in (r : Nat) (n fr T : Int) (h : fr ≤ T) (z : (FloatKind.f64.format.order r 4890909195324358656 == some .gt || FloatKind.f64.format.order r 4890909195324358656 == some .eq) = false) (hc : ∀ w : World, (convert 22 3 (.float .f64 r)).run Tryd.prog w = .ok (.int .i64 n) w) (w : World) : Calls Tryd.prog 89 #[.float .f64 r, .bool false, .int .i64 fr, .int .i64 T] w fun e w' => e = .returned (.int .i64 (max fr (min n T))) ∧ w' = w := by
  go_enter Tryd.func89, Tryd.ntmps89
  go_wp2_with (first | (go_at_call 82; refine (cut_any n fr T h _).mono ?_; rintro e_ w_ ⟨rfl, rfl⟩; ))
  go_ret
  exact ⟨rfl, rfl⟩

set_option maxRecDepth 100000 in
set_option maxHeartbeats 2000000 in
theorem refWhole_any (x : Nat) (hx : x < 18446744073709551616) (fr to : Int) (hf1 : -9223372036854775808 ≤ fr) (hf2 : fr ≤ 9223372036854775807) (ht1 : -9223372036854775808 ≤ to) (ht2 : to ≤ 9223372036854775807) (w : World) : Calls Tryd.prog 39 #[.float .f64 x, .int .i64 fr, .int .i64 to] w fun e w' => e = .returned (.int .i64 (max fr (min (whV x) to))) ∧ w' = w := by
  cases hn : isn x
  · have hn0 := isn_false hn
    by_cases hi : rung x = INF
    · have hr : roundW x = x := by unfold roundW; rw [if_pos (by omega)]
      have z1 : (FloatKind.f64.format.order (roundW x) 14114063095424393472 == some .lt) = sgn x := by rw [hr]; exact (sgn_inf hi _ _ whl_lo).1
      have z2 : (FloatKind.f64.format.order (roundW x) 4890691058569617664 == some .gt) = !sgn x := by rw [hr]; exact inf_gt hi _ _ whl_hi
      have z3 : (FloatKind.f64.format.order (roundW x) 14114281232179134464 == some .lt) = sgn x := by rw [hr]; exact (sgn_inf hi _ _ whl_min).1
      have z4 : (FloatKind.f64.format.order (roundW x) 4890909195324358656 == some .gt || FloatKind.f64.format.order (roundW x) 4890909195324358656 == some .eq) = !sgn x := by rw [hr]; exact (sgn_inf hi _ _ whl_max).2
      cases hs : sgn x
      · rw [hs] at z1 z2 z3 z4
        simp only [Bool.not_false] at z2 z4
        have hv : whV x = 9223372036854775807 := by unfold whV; rw [hn, if_pos hi, hs]; rfl
        rw [hv]
        clear hn0 hi hr
        by_cases h0 : to < fr
        · have z0 : decide (to < fr) = true := decide_eq_true h0
          rw [show max fr (min 9223372036854775807 to) = fr by omega]
          go_enter Tryd.func39, Tryd.ntmps39
          go_wp2_with (first | (go_at_call 88; refine (refNan_any x hx _).mono ?_; rintro e_ w_ ⟨rfl, rfl⟩; ) | (go_at_call 38; refine (refRound_any x hx _).mono ?_; rintro e_ w_ ⟨rfl, rfl⟩; ) | (go_at_call 89; (with_reducible refine (whi_end (roundW x) 0 fr fr (by omega) z4 _).mono ?_); rintro e_ w_ ⟨rfl, rfl⟩; ))
          go_ret
          exact ⟨by first | rfl | (show Ending.returned (.int .i64 _) = Ending.returned (.int .i64 _); congr 2; omega), rfl⟩
        · have z0 : decide (to < fr) = false := decide_eq_false h0
          go_enter Tryd.func39, Tryd.ntmps39
          go_wp2_with (first | (go_at_call 88; refine (refNan_any x hx _).mono ?_; rintro e_ w_ ⟨rfl, rfl⟩; ) | (go_at_call 38; refine (refRound_any x hx _).mono ?_; rintro e_ w_ ⟨rfl, rfl⟩; ) | (go_at_call 89; (with_reducible refine (whi_end (roundW x) 0 fr to (by omega) z4 _).mono ?_); rintro e_ w_ ⟨rfl, rfl⟩; ))
          go_ret
          exact ⟨by first | rfl | (show Ending.returned (.int .i64 _) = Ending.returned (.int .i64 _); congr 2; omega), rfl⟩
      · rw [hs] at z1 z2 z3 z4
        simp only [Bool.not_true] at z2 z4
        have hv : whV x = -9223372036854775808 := by unfold whV; rw [hn, if_pos hi, hs]; rfl
        rw [hv]
        clear hn0 hi hr
        by_cases h0 : to < fr
        · have z0 : decide (to < fr) = true := decide_eq_true h0
          rw [show max fr (min (-9223372036854775808) to) = fr by omega]
          go_enter Tryd.func39, Tryd.ntmps39
          go_wp2_with (first | (go_at_call 88; refine (refNan_any x hx _).mono ?_; rintro e_ w_ ⟨rfl, rfl⟩; ) | (go_at_call 38; refine (refRound_any x hx _).mono ?_; rintro e_ w_ ⟨rfl, rfl⟩; ) | (go_at_call 89; (with_reducible refine (wlow_end (roundW x) 0 fr fr (by omega) z3 _).mono ?_); rintro e_ w_ ⟨rfl, rfl⟩; ))
          go_ret
          exact ⟨by first | rfl | (show Ending.returned (.int .i64 _) = Ending.returned (.int .i64 _); congr 2; omega), rfl⟩
        · have z0 : decide (to < fr) = false := decide_eq_false h0
          go_enter Tryd.func39, Tryd.ntmps39
          go_wp2_with (first | (go_at_call 88; refine (refNan_any x hx _).mono ?_; rintro e_ w_ ⟨rfl, rfl⟩; ) | (go_at_call 38; refine (refRound_any x hx _).mono ?_; rintro e_ w_ ⟨rfl, rfl⟩; ) | (go_at_call 89; (with_reducible refine (wlow_end (roundW x) 0 fr to (by omega) z3 _).mono ?_); rintro e_ w_ ⟨rfl, rfl⟩; ))
          go_ret
          exact ⟨by first | rfl | (show Ending.returned (.int .i64 _) = Ending.returned (.int .i64 _); congr 2; omega), rfl⟩
    · have hfin : rung x < INF := by omega
      have hwl := whl_round hfin
      have z1 : (FloatKind.f64.format.order (roundW x) 14114063095424393472 == some .lt) = decide (rI x < -9000000000000000000) := lt_whl hwl whl_lo
      have z2 : (FloatKind.f64.format.order (roundW x) 4890691058569617664 == some .gt) = decide (9000000000000000000 < rI x) := gt_whl hwl whl_hi
      have z3 : (FloatKind.f64.format.order (roundW x) 14114281232179134464 == some .lt) = decide (rI x < -9223372036854775808) := lt_whl hwl whl_min
      have z4 : (FloatKind.f64.format.order (roundW x) 4890909195324358656 == some .gt || FloatKind.f64.format.order (roundW x) 4890909195324358656 == some .eq) = decide (9223372036854775808 ≤ rI x) := ge_whl hwl whl_max
      have hv : whV x = if rI x < -9223372036854775808 then -9223372036854775808 else if 9223372036854775808 ≤ rI x then 9223372036854775807 else rI x := by unfold whV; rw [hn, if_neg hi]; rfl
      by_cases c1 : rI x < -9000000000000000000
      · rw [decide_eq_true c1] at z1
        by_cases c3 : rI x < -9223372036854775808
        · rw [decide_eq_true c3] at z3
          rw [if_pos c3] at hv
          rw [hv]
          clear hn0 hi hwl hv z2 z4 c1 c3
          by_cases h0 : to < fr
          · have z0 : decide (to < fr) = true := decide_eq_true h0
            rw [show max fr (min (-9223372036854775808) to) = fr by omega]
            go_enter Tryd.func39, Tryd.ntmps39
            go_wp2_with (first | (go_at_call 88; refine (refNan_any x hx _).mono ?_; rintro e_ w_ ⟨rfl, rfl⟩; ) | (go_at_call 38; refine (refRound_any x hx _).mono ?_; rintro e_ w_ ⟨rfl, rfl⟩; ) | (go_at_call 89; (with_reducible refine (wlow_end (roundW x) 0 fr fr (by omega) z3 _).mono ?_); rintro e_ w_ ⟨rfl, rfl⟩; ))
            go_ret
            exact ⟨by first | rfl | (show Ending.returned (.int .i64 _) = Ending.returned (.int .i64 _); congr 2; omega), rfl⟩
          · have z0 : decide (to < fr) = false := decide_eq_false h0
            go_enter Tryd.func39, Tryd.ntmps39
            go_wp2_with (first | (go_at_call 88; refine (refNan_any x hx _).mono ?_; rintro e_ w_ ⟨rfl, rfl⟩; ) | (go_at_call 38; refine (refRound_any x hx _).mono ?_; rintro e_ w_ ⟨rfl, rfl⟩; ) | (go_at_call 89; (with_reducible refine (wlow_end (roundW x) 0 fr to (by omega) z3 _).mono ?_); rintro e_ w_ ⟨rfl, rfl⟩; ))
            go_ret
            exact ⟨by first | rfl | (show Ending.returned (.int .i64 _) = Ending.returned (.int .i64 _); congr 2; omega), rfl⟩
        · rw [decide_eq_false c3] at z3
          rw [if_neg c3, if_neg (by omega)] at hv
          have hcv := conv_run (roundW x) (rI x) hwl (by omega) (by omega)
          rw [hv]
          generalize rI x = n at *
          clear hn0 hi hwl hv z2 z4 c1 c3
          by_cases h0 : to < fr
          · have z0 : decide (to < fr) = true := decide_eq_true h0
            rw [show max fr (min n to) = fr by omega]
            go_enter Tryd.func39, Tryd.ntmps39
            go_wp2_with (first | (go_at_call 88; refine (refNan_any x hx _).mono ?_; rintro e_ w_ ⟨rfl, rfl⟩; ) | (go_at_call 38; refine (refRound_any x hx _).mono ?_; rintro e_ w_ ⟨rfl, rfl⟩; ) | (go_at_call 89; (with_reducible refine (wlow_in (roundW x) n fr fr (by omega) z3 hcv _).mono ?_); rintro e_ w_ ⟨rfl, rfl⟩; ))
            go_ret
            exact ⟨by first | rfl | (show Ending.returned (.int .i64 _) = Ending.returned (.int .i64 _); congr 2; omega), rfl⟩
          · have z0 : decide (to < fr) = false := decide_eq_false h0
            go_enter Tryd.func39, Tryd.ntmps39
            go_wp2_with (first | (go_at_call 88; refine (refNan_any x hx _).mono ?_; rintro e_ w_ ⟨rfl, rfl⟩; ) | (go_at_call 38; refine (refRound_any x hx _).mono ?_; rintro e_ w_ ⟨rfl, rfl⟩; ) | (go_at_call 89; (with_reducible refine (wlow_in (roundW x) n fr to (by omega) z3 hcv _).mono ?_); rintro e_ w_ ⟨rfl, rfl⟩; ))
            go_ret
            exact ⟨by first | rfl | (show Ending.returned (.int .i64 _) = Ending.returned (.int .i64 _); congr 2; omega), rfl⟩
      rw [decide_eq_false c1] at z1
      by_cases c2 : 9000000000000000000 < rI x
      · rw [decide_eq_true c2] at z2
        by_cases c4 : 9223372036854775808 ≤ rI x
        · rw [decide_eq_true c4] at z4
          rw [if_neg (by omega), if_pos c4] at hv
          rw [hv]
          clear hn0 hi hwl hv z3 c1 c2 c4
          by_cases h0 : to < fr
          · have z0 : decide (to < fr) = true := decide_eq_true h0
            rw [show max fr (min 9223372036854775807 to) = fr by omega]
            go_enter Tryd.func39, Tryd.ntmps39
            go_wp2_with (first | (go_at_call 88; refine (refNan_any x hx _).mono ?_; rintro e_ w_ ⟨rfl, rfl⟩; ) | (go_at_call 38; refine (refRound_any x hx _).mono ?_; rintro e_ w_ ⟨rfl, rfl⟩; ) | (go_at_call 89; (with_reducible refine (whi_end (roundW x) 0 fr fr (by omega) z4 _).mono ?_); rintro e_ w_ ⟨rfl, rfl⟩; ))
            go_ret
            exact ⟨by first | rfl | (show Ending.returned (.int .i64 _) = Ending.returned (.int .i64 _); congr 2; omega), rfl⟩
          · have z0 : decide (to < fr) = false := decide_eq_false h0
            go_enter Tryd.func39, Tryd.ntmps39
            go_wp2_with (first | (go_at_call 88; refine (refNan_any x hx _).mono ?_; rintro e_ w_ ⟨rfl, rfl⟩; ) | (go_at_call 38; refine (refRound_any x hx _).mono ?_; rintro e_ w_ ⟨rfl, rfl⟩; ) | (go_at_call 89; (with_reducible refine (whi_end (roundW x) 0 fr to (by omega) z4 _).mono ?_); rintro e_ w_ ⟨rfl, rfl⟩; ))
            go_ret
            exact ⟨by first | rfl | (show Ending.returned (.int .i64 _) = Ending.returned (.int .i64 _); congr 2; omega), rfl⟩
        · rw [decide_eq_false c4] at z4
          rw [if_neg (by omega), if_neg c4] at hv
          have hcv := conv_run (roundW x) (rI x) hwl (by omega) (by omega)
          rw [hv]
          generalize rI x = n at *
          clear hn0 hi hwl hv z3 c1 c2 c4
          by_cases h0 : to < fr
          · have z0 : decide (to < fr) = true := decide_eq_true h0
            rw [show max fr (min n to) = fr by omega]
            go_enter Tryd.func39, Tryd.ntmps39
            go_wp2_with (first | (go_at_call 88; refine (refNan_any x hx _).mono ?_; rintro e_ w_ ⟨rfl, rfl⟩; ) | (go_at_call 38; refine (refRound_any x hx _).mono ?_; rintro e_ w_ ⟨rfl, rfl⟩; ) | (go_at_call 89; (with_reducible refine (whi_in (roundW x) n fr fr (by omega) z4 hcv _).mono ?_); rintro e_ w_ ⟨rfl, rfl⟩; ))
            go_ret
            exact ⟨by first | rfl | (show Ending.returned (.int .i64 _) = Ending.returned (.int .i64 _); congr 2; omega), rfl⟩
          · have z0 : decide (to < fr) = false := decide_eq_false h0
            go_enter Tryd.func39, Tryd.ntmps39
            go_wp2_with (first | (go_at_call 88; refine (refNan_any x hx _).mono ?_; rintro e_ w_ ⟨rfl, rfl⟩; ) | (go_at_call 38; refine (refRound_any x hx _).mono ?_; rintro e_ w_ ⟨rfl, rfl⟩; ) | (go_at_call 89; (with_reducible refine (whi_in (roundW x) n fr to (by omega) z4 hcv _).mono ?_); rintro e_ w_ ⟨rfl, rfl⟩; ))
            go_ret
            exact ⟨by first | rfl | (show Ending.returned (.int .i64 _) = Ending.returned (.int .i64 _); congr 2; omega), rfl⟩
      · rw [decide_eq_false c2] at z2
        rw [if_neg (by omega), if_neg (by omega)] at hv
        have hcv := conv_run (roundW x) (rI x) hwl (by omega) (by omega)
        rw [hv]
        generalize rI x = n at *
        clear hn0 hi hwl hv z3 z4 c1 c2
        by_cases h0 : to < fr
        · have z0 : decide (to < fr) = true := decide_eq_true h0
          rw [show max fr (min n to) = fr by omega]
          go_enter Tryd.func39, Tryd.ntmps39
          go_wp2_with (first | (go_at_call 88; refine (refNan_any x hx _).mono ?_; rintro e_ w_ ⟨rfl, rfl⟩; ) | (go_at_call 38; refine (refRound_any x hx _).mono ?_; rintro e_ w_ ⟨rfl, rfl⟩; ) | (go_at_call 82; refine (cut_any n fr fr (by omega) _).mono ?_; rintro e_ w_ ⟨rfl, rfl⟩; ))
          go_ret
          exact ⟨by first | rfl | (show Ending.returned (.int .i64 _) = Ending.returned (.int .i64 _); congr 2; omega), rfl⟩
        · have z0 : decide (to < fr) = false := decide_eq_false h0
          go_enter Tryd.func39, Tryd.ntmps39
          go_wp2_with (first | (go_at_call 88; refine (refNan_any x hx _).mono ?_; rintro e_ w_ ⟨rfl, rfl⟩; ) | (go_at_call 38; refine (refRound_any x hx _).mono ?_; rintro e_ w_ ⟨rfl, rfl⟩; ) | (go_at_call 82; refine (cut_any n fr to (by omega) _).mono ?_; rintro e_ w_ ⟨rfl, rfl⟩; ))
          go_ret
          exact ⟨by first | rfl | (show Ending.returned (.int .i64 _) = Ending.returned (.int .i64 _); congr 2; omega), rfl⟩
  · have hv : whV x = 0 := by unfold whV; rw [hn]; rfl
    rw [hv]
    by_cases h0 : to < fr
    · have z0 : decide (to < fr) = true := decide_eq_true h0
      rw [show max fr (min 0 to) = fr by omega]
      go_enter Tryd.func39, Tryd.ntmps39
      go_wp2_with (first | (go_at_call 88; refine (refNan_any x hx _).mono ?_; rintro e_ w_ ⟨rfl, rfl⟩; ) | (go_at_call 38; refine (refRound_any x hx _).mono ?_; rintro e_ w_ ⟨rfl, rfl⟩; ) | (go_at_call 82; refine (cut_any 0 fr fr (by omega) _).mono ?_; rintro e_ w_ ⟨rfl, rfl⟩; ))
      go_ret
      exact ⟨by first | rfl | (show Ending.returned (.int .i64 _) = Ending.returned (.int .i64 _); congr 2; omega), rfl⟩
    · have z0 : decide (to < fr) = false := decide_eq_false h0
      go_enter Tryd.func39, Tryd.ntmps39
      go_wp2_with (first | (go_at_call 88; refine (refNan_any x hx _).mono ?_; rintro e_ w_ ⟨rfl, rfl⟩; ) | (go_at_call 38; refine (refRound_any x hx _).mono ?_; rintro e_ w_ ⟨rfl, rfl⟩; ) | (go_at_call 82; refine (cut_any 0 fr to (by omega) _).mono ?_; rintro e_ w_ ⟨rfl, rfl⟩; ))
      go_ret
      exact ⟨by first | rfl | (show Ending.returned (.int .i64 _) = Ending.returned (.int .i64 _); congr 2; omega), rfl⟩
end Go.Proofs.YtcpfangcibilaaaDoor
