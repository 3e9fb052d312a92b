/- FltHalves, walked. No condition but the table's cells. -/
import Derived.Test.YtcpfangcibilaaaDoorQn
import Derived.Test.YtcpfangcibilaaaDoorFj
namespace Go.Proofs.YtcpfangcibilaaaDoor
set_option linter.unusedVariables false
set_option linter.unusedSimpArgs false
open Go.RowKit

theorem nan_run (w : World) : Calls Tryd.prog 35 #[] w fun e w' => e = .returned (.float .f64 9221120237041090561) ∧ w' = w := by
  have h : ∀ w : World, (callFunc 66 #[.int .u64 9221120237041090561]).run Tryd.prog w = .ok (.value (.float .f64 9221120237041090561)) w := fun w => by kernel_rfl
  go_enter Tryd.func35, Tryd.ntmps35
  go_wp2
  go_ret
  exact ⟨rfl, rfl⟩
theorem inf_run (w : World) : Calls Tryd.prog 36 #[.int .i64 1] w fun e w' => e = .returned (.float .f64 9218868437227405312) ∧ w' = w := by
  have h : ∀ w : World, (callFunc 66 #[.int .u64 9218868437227405312]).run Tryd.prog w = .ok (.value (.float .f64 9218868437227405312)) w := fun w => by kernel_rfl
  go_enter Tryd.func36, Tryd.ntmps36
  go_wp2
  go_ret
  exact ⟨rfl, rfl⟩
theorem ninf_run (w : World) : Calls Tryd.prog 36 #[.int .i64 (-1)] w fun e w' => e = .returned (.float .f64 18442240474082181120) ∧ w' = w := by
  have h : ∀ w : World, (callFunc 66 #[.int .u64 18442240474082181120]).run Tryd.prog w = .ok (.value (.float .f64 18442240474082181120)) w := fun w => by kernel_rfl
  go_enter Tryd.func36, Tryd.ntmps36
  go_wp2
  go_ret
  exact ⟨rfl, rfl⟩
theorem conv_if (n : Int) (z : Nat) (h : FloatKind.f64.nearest n = z) (w : World) : (convert 3 22 (.int .i64 n)).run Tryd.prog w = .ok (.float .f64 z) w := by
  have h2 := run_convert_int_float (P := Tryd.prog) w 3 22 .i64 .f64 n (by kernel_rfl) Tryd.underlying22
  rw [show floatOfInt .f64 n = z from h] at h2
  exact h2
theorem neg_word (p : Nat) (h : p < 9223372036854775808) : Op.negFloat .f64 p = p + 9223372036854775808 := by
  have e : Op.negFloat .f64 p = p ^^^ 9223372036854775808 := rfl
  have e2 : p + 9223372036854775808 = 9223372036854775808 ||| p := by rw [nat_join 63 _ _ (by decide) h, Nat.add_comm]
  rw [e, e2]
  have e3 : 9223372036854775808 = 2 ^ 63 := by decide
  apply Nat.eq_of_testBit_eq
  intro i
  rw [Nat.testBit_xor, Nat.testBit_or, e3, Nat.testBit_two_pow]
  by_cases hi : 63 = i
  · subst hi
    rw [Nat.testBit_lt_two_pow (show p < 2 ^ 63 by omega)]; simp
  · simp [hi]
set_option maxRecDepth 100000 in
set_option maxHeartbeats 2000000 in
theorem fltHalves_any (w : World) (hT : TabC w) (n : Int) (p : Nat) (hp : p < 18446744073709551616) : Calls Tryd.prog 6 #[.int .i64 n, .float .f64 p] w fun e w' => e = .returned (.bool true) ∧ St w w' [] := by
  have H := St.start w
  obtain ⟨N, hn1, hN⟩ : ∃ N : Int, n % 1073741824 = N + 536870912 ∧ -536870912 ≤ N ∧ N ≤ 536870911 := ⟨n % 1073741824 - 536870912, by omega, by omega, by omega⟩
  have a1 : N + 536870912 - 536870912 = N := by omega
  obtain ⟨K, hK⟩ : ∃ K, K = 1073 := ⟨_, rfl⟩
  obtain ⟨z, hz1, hz2, hz3, _⟩ := ofInt_whl N (by omega)
  have hc1 := conv_if N z hz1
  obtain ⟨xh, ha, hx2, hx3, hx4⟩ := add_half hz3 (by omega) K hK
  have hadd : ∀ w : World, (binOp .add 22 (.float .f64 z) (.float .f64 4602678819172646912)).run Tryd.prog w = .ok (.float .f64 xh) w := fun w => run_float_arith w .add 22 .f64 z 4602678819172646912 xh ha
  have hnx : isn xh = false := decide_eq_false (by omega)
  have hri := rI_half K hK hx4
  obtain ⟨V, hV⟩ : ∃ V, V = evenOf N := ⟨_, rfl⟩
  have hVb : -536870912 ≤ V ∧ V ≤ 536870912 := by rw [hV]; unfold evenOf; split <;> omega
  rw [← hV] at hri
  have hwr := whl_round hx3
  rw [hri] at hwr
  obtain ⟨ze, he1, he2, he3, _⟩ := ofInt_whl V (by omega)
  have hc2 := conv_if V ze he1
  have zq : (FloatKind.f64.format.order (roundW xh) ze != some .eq) = false := by
    have h : (FloatKind.f64.format.order (roundW xh) ze == some .eq) = true := (eq_whl hwr he3).trans (decide_eq_true rfl)
    unfold bne; rw [h]; rfl
  have hwv : max (-1099511627776) (min (whV xh) 1099511627776) = V := by
    have : whV xh = V := by
      unfold whV
      rw [hnx, if_neg (by decide), if_neg (by omega), hri, if_neg (by omega), if_neg (by omega)]
    omega
  have a2 : (V == V) = true := by simp
  have a3 : (V != V) = false := by simp
  have hev : (N % 2 = 0 ∧ V = N ∧ (N.tmod 2 != 0) = false) ∨ (V = N + 1 ∧ (N.tmod 2 != 0) = true) := by
    by_cases h : N % 2 = 0
    · left
      refine ⟨h, by rw [hV]; exact if_pos h, ?_⟩
      have : N.tmod 2 = 0 := Int.tmod_eq_zero_of_dvd (Int.dvd_of_emod_eq_zero h)
      rw [this]; rfl
    · right
      refine ⟨by rw [hV]; exact if_neg h, ?_⟩
      rw [bne_iff_ne]
      intro e
      exact h (Int.emod_eq_zero_of_dvd (Int.dvd_of_tmod_eq_zero e))
  clear hV hri hwr ha he3
  by_cases p1 : 0 < rung p ∧ sgn p = false ∧ rung p < 4602678819172646912
  · obtain ⟨p1, p2, p3⟩ := p1
    have hpr := sgn_false hp p2
    have hmp : mag (rung p) < 2 ^ K := by
      have h1 := mag_lt (show rung p < rung 4602678819172646912 by rw [show rung 4602678819172646912 = 4602678819172646912 by decide]; exact p3)
      have h2 := sv_abs 4602678819172646912
      rw [half_sv K hK, Int.one_mul, Int.natAbs_natCast] at h2
      rw [h2]; exact h1
    obtain ⟨y2, hy1, hy2, hy3, hy4⟩ := add_near hz3 (by omega) (show rung p < INF from Nat.lt_trans p3 (by decide)) p2 p1 K hK hmp
    have hadd2 : ∀ w : World, (binOp .add 22 (.float .f64 z) (.float .f64 p)).run Tryd.prog w = .ok (.float .f64 y2) w := fun w => run_float_arith w .add 22 .f64 z p y2 hy1
    have hny : isn y2 = false := decide_eq_false (by omega)
    have zp : (FloatKind.f64.format.order p 0 == some .gt) = true := by
      have g1 : (FloatKind.f64.format.order p 0 == some .gt) = (!isn p && !isn 0 && decide (sr 0 < sr p)) := gt_eq p 0
      rw [g1, show isn 0 = false by decide, show isn p = false from decide_eq_false (by have : INF = 9218868437227405312 := rfl; omega), show sr 0 = 0 by decide]
      unfold sr sg; rw [p2]; simp; omega
    have zp2 : (FloatKind.f64.format.order p 4602678819172646912 == some .lt) = true := by
      have g2 : (FloatKind.f64.format.order p 4602678819172646912 == some .lt) = (!isn p && !isn 4602678819172646912 && decide (sr p < sr 4602678819172646912)) := lt_eq p 4602678819172646912
      rw [g2, show isn 4602678819172646912 = false by decide, show isn p = false from decide_eq_false (by have : INF = 9218868437227405312 := rfl; omega), show sr 4602678819172646912 = 4602678819172646912 by decide]
      unfold sr sg; rw [p2]; simp; omega
    have hcmp : (FloatKind.f64.format.order y2 xh == some .lt) = false ∨ ((FloatKind.f64.format.order y2 xh == some .lt) = true ∧ (FloatKind.f64.format.order (roundW y2) z != some .eq) = false) := by
      have g : (FloatKind.f64.format.order y2 xh == some .lt) = (!isn y2 && !isn xh && decide (sr y2 < sr xh)) := lt_eq y2 xh
      rw [g, hny, hnx]
      by_cases q : sr y2 < sr xh
      · right
        have h1 := (sv_lt_iff y2 xh).2 q
        rw [hx4] at h1
        have h2 := whl_round hy3
        rw [hy4 h1] at h2
        have h3 : (FloatKind.f64.format.order (roundW y2) z == some .eq) = true := (eq_whl h2 hz3).trans (decide_eq_true rfl)
        refine ⟨by rw [decide_eq_true q]; rfl, ?_⟩
        unfold bne; rw [h3]; rfl
      · left; rw [decide_eq_false q]; rfl
    have hng := neg_word p (by omega)
    have hneg : ∀ w : World, (Op.unary UnOp.neg (.float .f64 p)).run Tryd.prog w = .ok (.float .f64 (p + 9223372036854775808)) w := fun w => by rw [← hng]; rfl
    clear hng
    have hr1 : rung (p + 9223372036854775808) = p := by unfold rung; omega
    have hs1 : sgn (p + 9223372036854775808) = true := by
      unfold sgn
      have h : (p + 9223372036854775808) / 9223372036854775808 % 2 = 1 := by omega
      rw [h]; rfl
    have hq1 : roundW (p + 9223372036854775808) = 9223372036854775808 := by rw [roundW_small (by rw [hr1]; omega), hs1]; rfl
    have hq2 : roundW p = 0 := by rw [roundW_small (by omega), p2]; rfl
    have hi1 : isn (p + 9223372036854775808) = false := decide_eq_false (by rw [hr1]; have : INF = 9218868437227405312 := rfl; omega)
    have hi2 : isn p = false := decide_eq_false (by have : INF = 9218868437227405312 := rfl; omega)
    have hpl : p + 9223372036854775808 < 18446744073709551616 := by omega
    have zz : (FloatKind.f64.format.order 9223372036854775808 0 == some .eq) = true := (zero_test 9223372036854775808).trans (by decide)
    have sg1 : ∀ w : World, Calls Tryd.prog 34 #[.float .f64 9223372036854775808] w fun e w' => e = .returned (.bool true) ∧ w' = w := fun w => by
      have h := signbit_any 9223372036854775808 (by decide) w
      rw [show sgn 9223372036854775808 = true by decide] at h
      exact h
    have sg2 : ∀ w : World, Calls Tryd.prog 34 #[.float .f64 0] w fun e w' => e = .returned (.bool false) ∧ w' = w := fun w => by
      have h := signbit_any 0 (by decide) w
      rw [show sgn 0 = false by decide] at h
      exact h
    generalize hpn : p + 9223372036854775808 = pn at *
    clear hx4 hy4 hmp p1 p2 p3 hpr hr1 hs1 hK hpn hy1
    rcases hev with ⟨hm, hVN, ht⟩ | ⟨hVN, ht⟩
    · subst hVN
      obtain rfl : ze = z := he1.symm.trans hz1
      clear he1 hz1 he2
      rcases hcmp with zc | ⟨zc, zc2⟩
      · go_enter Tryd.func6, Tryd.ntmps6
        go_wp2_with (first | (go_at_call 31; refine (first3_any _ _ _ hT H).mono ?_; rintro e_ w_ ⟨rfl, HN⟩; clear H; have H := HN; clear HN) | (go_at_call 28; refine (numberq_any n 1073741824 _ (by decide) (by decide)).mono ?_; rintro e_ w_ ⟨rfl, rfl⟩; rw [hn1]) | (go_at_call 32; (with_reducible refine (round_any _ _ _ xh hx2 H).mono ?_); rintro e_ w_ ⟨y, rfl, hy, HN⟩; clear H; have H := HN; clear HN; obtain rfl : y = roundW xh := ((show _ ∧ _ ∧ _ from hy).2.2 hnx); clear hy) | (go_at_call 32; (with_reducible refine (round_any _ _ _ y2 hy2 H).mono ?_); rintro e_ w_ ⟨y, rfl, hy, HN⟩; clear H; have H := HN; clear HN; obtain rfl : y = roundW y2 := ((show _ ∧ _ ∧ _ from hy).2.2 hny); clear hy) | (go_at_call 32; (with_reducible refine (round_any _ _ _ pn hpl H).mono ?_); rintro e_ w_ ⟨y, rfl, hy, HN⟩; clear H; have H := HN; clear HN; obtain rfl : y = 9223372036854775808 := ((show _ ∧ _ ∧ _ from hy).2.2 hi1).trans hq1; clear hy) | (go_at_call 32; (with_reducible refine (round_any _ _ _ p hp H).mono ?_); rintro e_ w_ ⟨y, rfl, hy, HN⟩; clear H; have H := HN; clear HN; obtain rfl : y = 0 := ((show _ ∧ _ ∧ _ from hy).2.2 hi2).trans hq2; clear hy) | (go_at_call 33; (with_reducible refine (whole_any _ _ _ xh hx2 (-1099511627776) 1099511627776 (by decide) (by decide) (by decide) (by decide) H).mono ?_); rintro e_ w_ ⟨rfl, HN⟩; clear H; have H := HN; clear HN; rw [hwv]) | (go_at_call 34; (with_reducible refine (sg1 _).mono ?_); rintro e_ w_ ⟨rfl, rfl⟩; ) | (go_at_call 34; (with_reducible refine (sg2 _).mono ?_); rintro e_ w_ ⟨rfl, rfl⟩; ))
        (go_ret; exact ⟨by first | rfl | (simp; done), H⟩)
      · go_enter Tryd.func6, Tryd.ntmps6
        go_wp2_with (first | (go_at_call 31; refine (first3_any _ _ _ hT H).mono ?_; rintro e_ w_ ⟨rfl, HN⟩; clear H; have H := HN; clear HN) | (go_at_call 28; refine (numberq_any n 1073741824 _ (by decide) (by decide)).mono ?_; rintro e_ w_ ⟨rfl, rfl⟩; rw [hn1]) | (go_at_call 32; (with_reducible refine (round_any _ _ _ xh hx2 H).mono ?_); rintro e_ w_ ⟨y, rfl, hy, HN⟩; clear H; have H := HN; clear HN; obtain rfl : y = roundW xh := ((show _ ∧ _ ∧ _ from hy).2.2 hnx); clear hy) | (go_at_call 32; (with_reducible refine (round_any _ _ _ y2 hy2 H).mono ?_); rintro e_ w_ ⟨y, rfl, hy, HN⟩; clear H; have H := HN; clear HN; obtain rfl : y = roundW y2 := ((show _ ∧ _ ∧ _ from hy).2.2 hny); clear hy) | (go_at_call 32; (with_reducible refine (round_any _ _ _ pn hpl H).mono ?_); rintro e_ w_ ⟨y, rfl, hy, HN⟩; clear H; have H := HN; clear HN; obtain rfl : y = 9223372036854775808 := ((show _ ∧ _ ∧ _ from hy).2.2 hi1).trans hq1; clear hy) | (go_at_call 32; (with_reducible refine (round_any _ _ _ p hp H).mono ?_); rintro e_ w_ ⟨y, rfl, hy, HN⟩; clear H; have H := HN; clear HN; obtain rfl : y = 0 := ((show _ ∧ _ ∧ _ from hy).2.2 hi2).trans hq2; clear hy) | (go_at_call 33; (with_reducible refine (whole_any _ _ _ xh hx2 (-1099511627776) 1099511627776 (by decide) (by decide) (by decide) (by decide) H).mono ?_); rintro e_ w_ ⟨rfl, HN⟩; clear H; have H := HN; clear HN; rw [hwv]) | (go_at_call 34; (with_reducible refine (sg1 _).mono ?_); rintro e_ w_ ⟨rfl, rfl⟩; ) | (go_at_call 34; (with_reducible refine (sg2 _).mono ?_); rintro e_ w_ ⟨rfl, rfl⟩; ))
        (go_ret; exact ⟨by first | rfl | (simp; done), H⟩)
    · subst hVN
      clear he1 hz1
      rcases hcmp with zc | ⟨zc, zc2⟩
      · go_enter Tryd.func6, Tryd.ntmps6
        go_wp2_with (first | (go_at_call 31; refine (first3_any _ _ _ hT H).mono ?_; rintro e_ w_ ⟨rfl, HN⟩; clear H; have H := HN; clear HN) | (go_at_call 28; refine (numberq_any n 1073741824 _ (by decide) (by decide)).mono ?_; rintro e_ w_ ⟨rfl, rfl⟩; rw [hn1]) | (go_at_call 32; (with_reducible refine (round_any _ _ _ xh hx2 H).mono ?_); rintro e_ w_ ⟨y, rfl, hy, HN⟩; clear H; have H := HN; clear HN; obtain rfl : y = roundW xh := ((show _ ∧ _ ∧ _ from hy).2.2 hnx); clear hy) | (go_at_call 32; (with_reducible refine (round_any _ _ _ y2 hy2 H).mono ?_); rintro e_ w_ ⟨y, rfl, hy, HN⟩; clear H; have H := HN; clear HN; obtain rfl : y = roundW y2 := ((show _ ∧ _ ∧ _ from hy).2.2 hny); clear hy) | (go_at_call 32; (with_reducible refine (round_any _ _ _ pn hpl H).mono ?_); rintro e_ w_ ⟨y, rfl, hy, HN⟩; clear H; have H := HN; clear HN; obtain rfl : y = 9223372036854775808 := ((show _ ∧ _ ∧ _ from hy).2.2 hi1).trans hq1; clear hy) | (go_at_call 32; (with_reducible refine (round_any _ _ _ p hp H).mono ?_); rintro e_ w_ ⟨y, rfl, hy, HN⟩; clear H; have H := HN; clear HN; obtain rfl : y = 0 := ((show _ ∧ _ ∧ _ from hy).2.2 hi2).trans hq2; clear hy) | (go_at_call 33; (with_reducible refine (whole_any _ _ _ xh hx2 (-1099511627776) 1099511627776 (by decide) (by decide) (by decide) (by decide) H).mono ?_); rintro e_ w_ ⟨rfl, HN⟩; clear H; have H := HN; clear HN; rw [hwv]) | (go_at_call 34; (with_reducible refine (sg1 _).mono ?_); rintro e_ w_ ⟨rfl, rfl⟩; ) | (go_at_call 34; (with_reducible refine (sg2 _).mono ?_); rintro e_ w_ ⟨rfl, rfl⟩; ))
        (go_ret; exact ⟨by first | rfl | (simp; done), H⟩)
      · go_enter Tryd.func6, Tryd.ntmps6
        go_wp2_with (first | (go_at_call 31; refine (first3_any _ _ _ hT H).mono ?_; rintro e_ w_ ⟨rfl, HN⟩; clear H; have H := HN; clear HN) | (go_at_call 28; refine (numberq_any n 1073741824 _ (by decide) (by decide)).mono ?_; rintro e_ w_ ⟨rfl, rfl⟩; rw [hn1]) | (go_at_call 32; (with_reducible refine (round_any _ _ _ xh hx2 H).mono ?_); rintro e_ w_ ⟨y, rfl, hy, HN⟩; clear H; have H := HN; clear HN; obtain rfl : y = roundW xh := ((show _ ∧ _ ∧ _ from hy).2.2 hnx); clear hy) | (go_at_call 32; (with_reducible refine (round_any _ _ _ y2 hy2 H).mono ?_); rintro e_ w_ ⟨y, rfl, hy, HN⟩; clear H; have H := HN; clear HN; obtain rfl : y = roundW y2 := ((show _ ∧ _ ∧ _ from hy).2.2 hny); clear hy) | (go_at_call 32; (with_reducible refine (round_any _ _ _ pn hpl H).mono ?_); rintro e_ w_ ⟨y, rfl, hy, HN⟩; clear H; have H := HN; clear HN; obtain rfl : y = 9223372036854775808 := ((show _ ∧ _ ∧ _ from hy).2.2 hi1).trans hq1; clear hy) | (go_at_call 32; (with_reducible refine (round_any _ _ _ p hp H).mono ?_); rintro e_ w_ ⟨y, rfl, hy, HN⟩; clear H; have H := HN; clear HN; obtain rfl : y = 0 := ((show _ ∧ _ ∧ _ from hy).2.2 hi2).trans hq2; clear hy) | (go_at_call 33; (with_reducible refine (whole_any _ _ _ xh hx2 (-1099511627776) 1099511627776 (by decide) (by decide) (by decide) (by decide) H).mono ?_); rintro e_ w_ ⟨rfl, HN⟩; clear H; have H := HN; clear HN; rw [hwv]) | (go_at_call 34; (with_reducible refine (sg1 _).mono ?_); rintro e_ w_ ⟨rfl, rfl⟩; ) | (go_at_call 34; (with_reducible refine (sg2 _).mono ?_); rintro e_ w_ ⟨rfl, rfl⟩; ))
        (go_ret; exact ⟨by first | rfl | (simp; done), H⟩)
  · have zpp : (FloatKind.f64.format.order p 0 == some .gt) = false ∨ ((FloatKind.f64.format.order p 0 == some .gt) = true ∧ (FloatKind.f64.format.order p 4602678819172646912 == some .lt) = false) := by
      have g1 : (FloatKind.f64.format.order p 0 == some .gt) = (!isn p && !isn 0 && decide (sr 0 < sr p)) := gt_eq p 0
      have g2 : (FloatKind.f64.format.order p 4602678819172646912 == some .lt) = (!isn p && !isn 4602678819172646912 && decide (sr p < sr 4602678819172646912)) := lt_eq p 4602678819172646912
      rw [show isn 0 = false by decide, show sr 0 = 0 by decide] at g1
      rw [show isn 4602678819172646912 = false by decide, show sr 4602678819172646912 = 4602678819172646912 by decide] at g2
      rw [g1, g2]
      cases hnp : isn p
      · by_cases q1 : 0 < sr p
        · right
          have : ¬ sr p < 4602678819172646912 := by
            intro q2
            unfold sr sg at q1 q2
            cases hs : sgn p
            · rw [hs] at q1 q2
              simp only [Bool.false_eq_true, if_false] at q1 q2
              exact p1 ⟨by omega, hs, by omega⟩
            · rw [hs] at q1
              simp only [if_true] at q1
              omega
          rw [decide_eq_true q1, decide_eq_false this]; exact ⟨rfl, rfl⟩
        · left; rw [decide_eq_false q1]; rfl
      · left; rfl
    have w1 := whole_any
    have v1 : whV 9221120237041090561 = 0 := by unfold whV; rw [show isn 9221120237041090561 = true by decide]; rfl
    have v2 : whV 9218868437227405312 = 9223372036854775807 := by unfold whV; rw [show isn 9218868437227405312 = false by decide, if_neg (by decide), if_pos (by decide), show sgn 9218868437227405312 = false by decide]; rfl
    have v3 : whV 18442240474082181120 = -9223372036854775808 := by unfold whV; rw [show isn 18442240474082181120 = false by decide, if_neg (by decide), if_pos (by decide), show sgn 18442240474082181120 = true by decide]; rfl
    have r1 : max 5 (min (whV 9221120237041090561) 9) = 5 := by rw [v1]; decide
    have r2 : max (-3) (min (whV 9218868437227405312) 9) = 9 := by rw [v2]; decide
    have r3 : max (-3) (min (whV 18442240474082181120) 9) = -3 := by rw [v3]; decide
    clear v1 v2 v3 w1 p1 hx4
    rcases hev with ⟨hm, hVN, ht⟩ | ⟨hVN, ht⟩
    · subst hVN
      obtain rfl : ze = z := he1.symm.trans hz1
      clear he1 hz1 he2
      rcases zpp with zp | ⟨zp, zp2⟩
      · go_enter Tryd.func6, Tryd.ntmps6
        go_wp2_with (first | (go_at_call 31; refine (first3_any _ _ _ hT H).mono ?_; rintro e_ w_ ⟨rfl, HN⟩; clear H; have H := HN; clear HN) | (go_at_call 28; refine (numberq_any n 1073741824 _ (by decide) (by decide)).mono ?_; rintro e_ w_ ⟨rfl, rfl⟩; rw [hn1]) | (go_at_call 32; refine (round_any _ _ _ xh hx2 H).mono ?_; rintro e_ w_ ⟨y, rfl, hy, HN⟩; clear H; have H := HN; clear HN; obtain rfl : y = roundW xh := (show _ ∧ _ ∧ _ from hy).2.2 hnx; clear hy) | (go_at_call 33; (with_reducible refine (whole_any _ _ _ xh hx2 (-1099511627776) 1099511627776 (by decide) (by decide) (by decide) (by decide) H).mono ?_); rintro e_ w_ ⟨rfl, HN⟩; clear H; have H := HN; clear HN; rw [hwv]) | (go_at_call 35; refine (nan_run _).mono ?_; rintro e_ w_ ⟨rfl, rfl⟩; ) | (go_at_call 36; (with_reducible refine (inf_run _).mono ?_); rintro e_ w_ ⟨rfl, rfl⟩; ) | (go_at_call 36; (with_reducible refine (ninf_run _).mono ?_); rintro e_ w_ ⟨rfl, rfl⟩; ) | (go_at_call 33; (with_reducible refine (whole_any _ _ _ 9221120237041090561 (by decide) 5 9 (by decide) (by decide) (by decide) (by decide) H).mono ?_); rintro e_ w_ ⟨rfl, HN⟩; clear H; have H := HN; clear HN; rw [r1]) | (go_at_call 33; (with_reducible refine (whole_any _ _ _ 9218868437227405312 (by decide) (-3) 9 (by decide) (by decide) (by decide) (by decide) H).mono ?_); rintro e_ w_ ⟨rfl, HN⟩; clear H; have H := HN; clear HN; rw [r2]) | (go_at_call 33; (with_reducible refine (whole_any _ _ _ 18442240474082181120 (by decide) (-3) 9 (by decide) (by decide) (by decide) (by decide) H).mono ?_); rintro e_ w_ ⟨rfl, HN⟩; clear H; have H := HN; clear HN; rw [r3]))
        (go_ret; exact ⟨by first | rfl | (simp; done), H⟩)
      · go_enter Tryd.func6, Tryd.ntmps6
        go_wp2_with (first | (go_at_call 31; refine (first3_any _ _ _ hT H).mono ?_; rintro e_ w_ ⟨rfl, HN⟩; clear H; have H := HN; clear HN) | (go_at_call 28; refine (numberq_any n 1073741824 _ (by decide) (by decide)).mono ?_; rintro e_ w_ ⟨rfl, rfl⟩; rw [hn1]) | (go_at_call 32; refine (round_any _ _ _ xh hx2 H).mono ?_; rintro e_ w_ ⟨y, rfl, hy, HN⟩; clear H; have H := HN; clear HN; obtain rfl : y = roundW xh := (show _ ∧ _ ∧ _ from hy).2.2 hnx; clear hy) | (go_at_call 33; (with_reducible refine (whole_any _ _ _ xh hx2 (-1099511627776) 1099511627776 (by decide) (by decide) (by decide) (by decide) H).mono ?_); rintro e_ w_ ⟨rfl, HN⟩; clear H; have H := HN; clear HN; rw [hwv]) | (go_at_call 35; refine (nan_run _).mono ?_; rintro e_ w_ ⟨rfl, rfl⟩; ) | (go_at_call 36; (with_reducible refine (inf_run _).mono ?_); rintro e_ w_ ⟨rfl, rfl⟩; ) | (go_at_call 36; (with_reducible refine (ninf_run _).mono ?_); rintro e_ w_ ⟨rfl, rfl⟩; ) | (go_at_call 33; (with_reducible refine (whole_any _ _ _ 9221120237041090561 (by decide) 5 9 (by decide) (by decide) (by decide) (by decide) H).mono ?_); rintro e_ w_ ⟨rfl, HN⟩; clear H; have H := HN; clear HN; rw [r1]) | (go_at_call 33; (with_reducible refine (whole_any _ _ _ 9218868437227405312 (by decide) (-3) 9 (by decide) (by decide) (by decide) (by decide) H).mono ?_); rintro e_ w_ ⟨rfl, HN⟩; clear H; have H := HN; clear HN; rw [r2]) | (go_at_call 33; (with_reducible refine (whole_any _ _ _ 18442240474082181120 (by decide) (-3) 9 (by decide) (by decide) (by decide) (by decide) H).mono ?_); rintro e_ w_ ⟨rfl, HN⟩; clear H; have H := HN; clear HN; rw [r3]))
        (go_ret; exact ⟨by first | rfl | (simp; done), H⟩)
    · subst hVN
      clear he1 hz1
      rcases zpp with zp | ⟨zp, zp2⟩
      · go_enter Tryd.func6, Tryd.ntmps6
        go_wp2_with (first | (go_at_call 31; refine (first3_any _ _ _ hT H).mono ?_; rintro e_ w_ ⟨rfl, HN⟩; clear H; have H := HN; clear HN) | (go_at_call 28; refine (numberq_any n 1073741824 _ (by decide) (by decide)).mono ?_; rintro e_ w_ ⟨rfl, rfl⟩; rw [hn1]) | (go_at_call 32; refine (round_any _ _ _ xh hx2 H).mono ?_; rintro e_ w_ ⟨y, rfl, hy, HN⟩; clear H; have H := HN; clear HN; obtain rfl : y = roundW xh := (show _ ∧ _ ∧ _ from hy).2.2 hnx; clear hy) | (go_at_call 33; (with_reducible refine (whole_any _ _ _ xh hx2 (-1099511627776) 1099511627776 (by decide) (by decide) (by decide) (by decide) H).mono ?_); rintro e_ w_ ⟨rfl, HN⟩; clear H; have H := HN; clear HN; rw [hwv]) | (go_at_call 35; refine (nan_run _).mono ?_; rintro e_ w_ ⟨rfl, rfl⟩; ) | (go_at_call 36; (with_reducible refine (inf_run _).mono ?_); rintro e_ w_ ⟨rfl, rfl⟩; ) | (go_at_call 36; (with_reducible refine (ninf_run _).mono ?_); rintro e_ w_ ⟨rfl, rfl⟩; ) | (go_at_call 33; (with_reducible refine (whole_any _ _ _ 9221120237041090561 (by decide) 5 9 (by decide) (by decide) (by decide) (by decide) H).mono ?_); rintro e_ w_ ⟨rfl, HN⟩; clear H; have H := HN; clear HN; rw [r1]) | (go_at_call 33; (with_reducible refine (whole_any _ _ _ 9218868437227405312 (by decide) (-3) 9 (by decide) (by decide) (by decide) (by decide) H).mono ?_); rintro e_ w_ ⟨rfl, HN⟩; clear H; have H := HN; clear HN; rw [r2]) | (go_at_call 33; (with_reducible refine (whole_any _ _ _ 18442240474082181120 (by decide) (-3) 9 (by decide) (by decide) (by decide) (by decide) H).mono ?_); rintro e_ w_ ⟨rfl, HN⟩; clear H; have H := HN; clear HN; rw [r3]))
        (go_ret; exact ⟨by first | rfl | (simp; done), H⟩)
      · go_enter Tryd.func6, Tryd.ntmps6
        go_wp2_with (first | (go_at_call 31; refine (first3_any _ _ _ hT H).mono ?_; rintro e_ w_ ⟨rfl, HN⟩; clear H; have H := HN; clear HN) | (go_at_call 28; refine (numberq_any n 1073741824 _ (by decide) (by decide)).mono ?_; rintro e_ w_ ⟨rfl, rfl⟩; rw [hn1]) | (go_at_call 32; refine (round_any _ _ _ xh hx2 H).mono ?_; rintro e_ w_ ⟨y, rfl, hy, HN⟩; clear H; have H := HN; clear HN; obtain rfl : y = roundW xh := (show _ ∧ _ ∧ _ from hy).2.2 hnx; clear hy) | (go_at_call 33; (with_reducible refine (whole_any _ _ _ xh hx2 (-1099511627776) 1099511627776 (by decide) (by decide) (by decide) (by decide) H).mono ?_); rintro e_ w_ ⟨rfl, HN⟩; clear H; have H := HN; clear HN; rw [hwv]) | (go_at_call 35; refine (nan_run _).mono ?_; rintro e_ w_ ⟨rfl, rfl⟩; ) | (go_at_call 36; (with_reducible refine (inf_run _).mono ?_); rintro e_ w_ ⟨rfl, rfl⟩; ) | (go_at_call 36; (with_reducible refine (ninf_run _).mono ?_); rintro e_ w_ ⟨rfl, rfl⟩; ) | (go_at_call 33; (with_reducible refine (whole_any _ _ _ 9221120237041090561 (by decide) 5 9 (by decide) (by decide) (by decide) (by decide) H).mono ?_); rintro e_ w_ ⟨rfl, HN⟩; clear H; have H := HN; clear HN; rw [r1]) | (go_at_call 33; (with_reducible refine (whole_any _ _ _ 9218868437227405312 (by decide) (-3) 9 (by decide) (by decide) (by decide) (by decide) H).mono ?_); rintro e_ w_ ⟨rfl, HN⟩; clear H; have H := HN; clear HN; rw [r2]) | (go_at_call 33; (with_reducible refine (whole_any _ _ _ 18442240474082181120 (by decide) (-3) 9 (by decide) (by decide) (by decide) (by decide) H).mono ?_); rintro e_ w_ ⟨rfl, HN⟩; clear H; have H := HN; clear HN; rw [r3]))
        (go_ret; exact ⟨by first | rfl | (simp; done), H⟩)
end Go.Proofs.YtcpfangcibilaaaDoor
