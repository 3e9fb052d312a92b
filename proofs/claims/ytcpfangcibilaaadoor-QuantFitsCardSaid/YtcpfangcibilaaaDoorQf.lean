/- Package flt's Whole and the document's Whole, walked. No condition. -/
import Derived.Test.YtcpfangcibilaaaDoorQe
namespace Go.Proofs.YtcpfangcibilaaaDoor
set_option linter.unusedVariables false
set_option linter.unusedSimpArgs false
open Go.RowKit

theorem conv_run (y : Nat) (n : Int) (h : Whl y n) (h1 : -9223372036854775808 ≤ n) (h2 : n ≤ 9223372036854775807) (w : World) : (convert 22 3 (.float .f64 y)).run Tryd.prog w = .ok (.int .i64 n) w :=
  run_convert_float_int w _ _ .f64 .i64 y n (by kernel_rfl) Tryd.underlying3 (toInt_i64 h h1 h2)

theorem sgn_inf {x : Nat} (h : rung x = INF) (c : Nat) (n : Int) (hc : Whl c n) : (Ieee.double.order x c == some .lt) = sgn x ∧ (Ieee.double.order x c == some .gt || Ieee.double.order x c == some .eq) = !sgn x := by
  have hm : mag (rung c) < mag INF := mag_lt hc.1
  rw [order_num (x := x) (y := c) (by omega) (Nat.le_of_lt hc.1)]
  unfold sv
  rw [h]
  generalize mag INF = M at *
  generalize mag (rung c) = m at *
  cases sgn x
  · have : sg (sgn c) m < sg false M := by unfold sg; simp; split <;> omega
    rw [cmp_gt this]; decide
  · have : sg true M < sg (sgn c) m := by unfold sg; simp; split <;> omega
    rw [cmp_lt this]; decide
set_option maxRecDepth 100000 in
set_option maxHeartbeats 2000000 in
theorem whole_any (w0 w : World) (L : List Ent) (x : Nat) (hx : x < 18446744073709551616) (fr to : Int) (hf1 : -9223372036854775808 ≤ fr) (hf2 : fr ≤ 9223372036854775807) (ht1 : -9223372036854775808 ≤ to) (ht2 : to ≤ 9223372036854775807) (H : St w0 w L) : Calls Tryd.prog 33 #[.float .f64 x, .int .i64 fr, .int .i64 to] w fun e w' => e = .returned (.int .i64 (max fr (min (whV x) to))) ∧ St w0 w' L := by
  cases hn : isn x
  · have hn0 := isn_false hn
    by_cases hi : rung x = INF
    · have hr : roundW x = x := by unfold roundW; rw [if_pos (by omega)]
      have z1 := (sgn_inf hi _ _ whl_min).1
      have z2 := (sgn_inf hi _ _ whl_max).2
      cases hs : sgn x
      · rw [hs] at z1 z2
        have hv : whV x = 9223372036854775807 := by unfold whV; rw [hn, if_pos hi, hs]; rfl
        have z1' : (FloatKind.f64.format.order x 14114281232179134464 == some .lt) = false := z1
        have z2' : (FloatKind.f64.format.order x 4890909195324358656 == some .gt || FloatKind.f64.format.order x 4890909195324358656 == some .eq) = true := z2
        rw [hv]
        clear hn0 hi z1 z2
        by_cases t1 : to < 9223372036854775807
        · by_cases t2 : fr < to
          · rw [show max fr (min 9223372036854775807 to) = to by omega]
            go_enter Tryd.func33, Tryd.ntmps33
            go_wp2_with (first | (go_at_call 32; refine (round_any _ _ _ x hx H).mono ?_; rintro e_ w_ ⟨y, rfl, hy, HN⟩; clear H; have H := HN; clear HN))
            obtain rfl : y = x := (hy.2.2 hn).trans hr
            clear hy
            go_wp2_with (first | (go_at_call 87; refine (isNaN_any _ _).mono ?_; rintro e_ w_ ⟨rfl, rfl⟩; ))
            go_ret
            exact ⟨by first | rfl | (show Ending.returned (.int .i64 _) = Ending.returned (.int .i64 _); congr 2; omega), H⟩
          · rw [show max fr (min 9223372036854775807 to) = fr by omega]
            go_enter Tryd.func33, Tryd.ntmps33
            go_wp2_with (first | (go_at_call 32; refine (round_any _ _ _ x hx H).mono ?_; rintro e_ w_ ⟨y, rfl, hy, HN⟩; clear H; have H := HN; clear HN))
            obtain rfl : y = x := (hy.2.2 hn).trans hr
            clear hy
            go_wp2_with (first | (go_at_call 87; refine (isNaN_any _ _).mono ?_; rintro e_ w_ ⟨rfl, rfl⟩; ))
            go_ret
            exact ⟨by first | rfl | (show Ending.returned (.int .i64 _) = Ending.returned (.int .i64 _); congr 2; omega), H⟩
        · by_cases t2 : fr < 9223372036854775807
          · rw [show max fr (min 9223372036854775807 to) = 9223372036854775807 by omega]
            go_enter Tryd.func33, Tryd.ntmps33
            go_wp2_with (first | (go_at_call 32; refine (round_any _ _ _ x hx H).mono ?_; rintro e_ w_ ⟨y, rfl, hy, HN⟩; clear H; have H := HN; clear HN))
            obtain rfl : y = x := (hy.2.2 hn).trans hr
            clear hy
            go_wp2_with (first | (go_at_call 87; refine (isNaN_any _ _).mono ?_; rintro e_ w_ ⟨rfl, rfl⟩; ))
            go_ret
            exact ⟨by first | rfl | (show Ending.returned (.int .i64 _) = Ending.returned (.int .i64 _); congr 2; omega), H⟩
          · rw [show max fr (min 9223372036854775807 to) = fr by omega]
            go_enter Tryd.func33, Tryd.ntmps33
            go_wp2_with (first | (go_at_call 32; refine (round_any _ _ _ x hx H).mono ?_; rintro e_ w_ ⟨y, rfl, hy, HN⟩; clear H; have H := HN; clear HN))
            obtain rfl : y = x := (hy.2.2 hn).trans hr
            clear hy
            go_wp2_with (first | (go_at_call 87; refine (isNaN_any _ _).mono ?_; rintro e_ w_ ⟨rfl, rfl⟩; ))
            go_ret
            exact ⟨by first | rfl | (show Ending.returned (.int .i64 _) = Ending.returned (.int .i64 _); congr 2; omega), H⟩
      · rw [hs] at z1
        have hv : whV x = -9223372036854775808 := by unfold whV; rw [hn, if_pos hi, hs]; rfl
        have z1' : (FloatKind.f64.format.order x 14114281232179134464 == some .lt) = true := z1
        rw [hv]
        clear hn0 hi z1 z2
        by_cases t1 : to < (-9223372036854775808)
        · by_cases t2 : fr < to
          · rw [show max fr (min (-9223372036854775808) to) = to by omega]
            go_enter Tryd.func33, Tryd.ntmps33
            go_wp2_with (first | (go_at_call 32; refine (round_any _ _ _ x hx H).mono ?_; rintro e_ w_ ⟨y, rfl, hy, HN⟩; clear H; have H := HN; clear HN))
            obtain rfl : y = x := (hy.2.2 hn).trans hr
            clear hy
            go_wp2_with (first | (go_at_call 87; refine (isNaN_any _ _).mono ?_; rintro e_ w_ ⟨rfl, rfl⟩; ))
            go_ret
            exact ⟨by first | rfl | (show Ending.returned (.int .i64 _) = Ending.returned (.int .i64 _); congr 2; omega), H⟩
          · rw [show max fr (min (-9223372036854775808) to) = fr by omega]
            go_enter Tryd.func33, Tryd.ntmps33
            go_wp2_with (first | (go_at_call 32; refine (round_any _ _ _ x hx H).mono ?_; rintro e_ w_ ⟨y, rfl, hy, HN⟩; clear H; have H := HN; clear HN))
            obtain rfl : y = x := (hy.2.2 hn).trans hr
            clear hy
            go_wp2_with (first | (go_at_call 87; refine (isNaN_any _ _).mono ?_; rintro e_ w_ ⟨rfl, rfl⟩; ))
            go_ret
            exact ⟨by first | rfl | (show Ending.returned (.int .i64 _) = Ending.returned (.int .i64 _); congr 2; omega), H⟩
        · by_cases t2 : fr < (-9223372036854775808)
          · rw [show max fr (min (-9223372036854775808) to) = (-9223372036854775808) by omega]
            go_enter Tryd.func33, Tryd.ntmps33
            go_wp2_with (first | (go_at_call 32; refine (round_any _ _ _ x hx H).mono ?_; rintro e_ w_ ⟨y, rfl, hy, HN⟩; clear H; have H := HN; clear HN))
            obtain rfl : y = x := (hy.2.2 hn).trans hr
            clear hy
            go_wp2_with (first | (go_at_call 87; refine (isNaN_any _ _).mono ?_; rintro e_ w_ ⟨rfl, rfl⟩; ))
            go_ret
            exact ⟨by first | rfl | (show Ending.returned (.int .i64 _) = Ending.returned (.int .i64 _); congr 2; omega), H⟩
          · rw [show max fr (min (-9223372036854775808) to) = fr by omega]
            go_enter Tryd.func33, Tryd.ntmps33
            go_wp2_with (first | (go_at_call 32; refine (round_any _ _ _ x hx H).mono ?_; rintro e_ w_ ⟨y, rfl, hy, HN⟩; clear H; have H := HN; clear HN))
            obtain rfl : y = x := (hy.2.2 hn).trans hr
            clear hy
            go_wp2_with (first | (go_at_call 87; refine (isNaN_any _ _).mono ?_; rintro e_ w_ ⟨rfl, rfl⟩; ))
            go_ret
            exact ⟨by first | rfl | (show Ending.returned (.int .i64 _) = Ending.returned (.int .i64 _); congr 2; omega), H⟩
    · have hfin : rung x < INF := by omega
      have hwl := whl_round hfin
      have hrn := (roundW_fin hfin).2.1
      have hny : isn (roundW x) = false := decide_eq_false (by omega)
      have z1 := lt_whl hwl whl_min
      have z2 := ge_whl hwl whl_max
      have hv : whV x = if rI x < -9223372036854775808 then -9223372036854775808 else if 9223372036854775808 ≤ rI x then 9223372036854775807 else rI x := by unfold whV; rw [hn, if_neg hi]; rfl
      by_cases c1 : rI x < -9223372036854775808
      · rw [decide_eq_true c1] at z1
        rw [if_pos c1] at hv
        have z1' : (FloatKind.f64.format.order (roundW x) 14114281232179134464 == some .lt) = true := z1
        rw [hv]
        clear hn0 hi z1 z2 c1
        by_cases t1 : to < (-9223372036854775808)
        · by_cases t2 : fr < to
          · rw [show max fr (min (-9223372036854775808) to) = to by omega]
            go_enter Tryd.func33, Tryd.ntmps33
            go_wp2_with (first | (go_at_call 32; refine (round_any _ _ _ x hx H).mono ?_; rintro e_ w_ ⟨y, rfl, hy, HN⟩; clear H; have H := HN; clear HN))
            obtain rfl : y = roundW x := hy.2.2 hn
            clear hy
            go_wp2_with (first | (go_at_call 87; refine (isNaN_any _ _).mono ?_; rintro e_ w_ ⟨rfl, rfl⟩; ))
            go_ret
            exact ⟨by first | rfl | (show Ending.returned (.int .i64 _) = Ending.returned (.int .i64 _); congr 2; omega), H⟩
          · rw [show max fr (min (-9223372036854775808) to) = fr by omega]
            go_enter Tryd.func33, Tryd.ntmps33
            go_wp2_with (first | (go_at_call 32; refine (round_any _ _ _ x hx H).mono ?_; rintro e_ w_ ⟨y, rfl, hy, HN⟩; clear H; have H := HN; clear HN))
            obtain rfl : y = roundW x := hy.2.2 hn
            clear hy
            go_wp2_with (first | (go_at_call 87; refine (isNaN_any _ _).mono ?_; rintro e_ w_ ⟨rfl, rfl⟩; ))
            go_ret
            exact ⟨by first | rfl | (show Ending.returned (.int .i64 _) = Ending.returned (.int .i64 _); congr 2; omega), H⟩
        · by_cases t2 : fr < (-9223372036854775808)
          · rw [show max fr (min (-9223372036854775808) to) = (-9223372036854775808) by omega]
            go_enter Tryd.func33, Tryd.ntmps33
            go_wp2_with (first | (go_at_call 32; refine (round_any _ _ _ x hx H).mono ?_; rintro e_ w_ ⟨y, rfl, hy, HN⟩; clear H; have H := HN; clear HN))
            obtain rfl : y = roundW x := hy.2.2 hn
            clear hy
            go_wp2_with (first | (go_at_call 87; refine (isNaN_any _ _).mono ?_; rintro e_ w_ ⟨rfl, rfl⟩; ))
            go_ret
            exact ⟨by first | rfl | (show Ending.returned (.int .i64 _) = Ending.returned (.int .i64 _); congr 2; omega), H⟩
          · rw [show max fr (min (-9223372036854775808) to) = fr by omega]
            go_enter Tryd.func33, Tryd.ntmps33
            go_wp2_with (first | (go_at_call 32; refine (round_any _ _ _ x hx H).mono ?_; rintro e_ w_ ⟨y, rfl, hy, HN⟩; clear H; have H := HN; clear HN))
            obtain rfl : y = roundW x := hy.2.2 hn
            clear hy
            go_wp2_with (first | (go_at_call 87; refine (isNaN_any _ _).mono ?_; rintro e_ w_ ⟨rfl, rfl⟩; ))
            go_ret
            exact ⟨by first | rfl | (show Ending.returned (.int .i64 _) = Ending.returned (.int .i64 _); congr 2; omega), H⟩
      rw [decide_eq_false c1] at z1
      rw [if_neg c1] at hv
      have z1' : (FloatKind.f64.format.order (roundW x) 14114281232179134464 == some .lt) = false := z1
      by_cases c2 : 9223372036854775808 ≤ rI x
      · rw [decide_eq_true c2] at z2
        rw [if_pos c2] at hv
        have z2' : (FloatKind.f64.format.order (roundW x) 4890909195324358656 == some .gt || FloatKind.f64.format.order (roundW x) 4890909195324358656 == some .eq) = true := z2
        rw [hv]
        clear hn0 hi z1 z2 c1 c2
        by_cases t1 : to < 9223372036854775807
        · by_cases t2 : fr < to
          · rw [show max fr (min 9223372036854775807 to) = to by omega]
            go_enter Tryd.func33, Tryd.ntmps33
            go_wp2_with (first | (go_at_call 32; refine (round_any _ _ _ x hx H).mono ?_; rintro e_ w_ ⟨y, rfl, hy, HN⟩; clear H; have H := HN; clear HN))
            obtain rfl : y = roundW x := hy.2.2 hn
            clear hy
            go_wp2_with (first | (go_at_call 87; refine (isNaN_any _ _).mono ?_; rintro e_ w_ ⟨rfl, rfl⟩; ))
            go_ret
            exact ⟨by first | rfl | (show Ending.returned (.int .i64 _) = Ending.returned (.int .i64 _); congr 2; omega), H⟩
          · rw [show max fr (min 9223372036854775807 to) = fr by omega]
            go_enter Tryd.func33, Tryd.ntmps33
            go_wp2_with (first | (go_at_call 32; refine (round_any _ _ _ x hx H).mono ?_; rintro e_ w_ ⟨y, rfl, hy, HN⟩; clear H; have H := HN; clear HN))
            obtain rfl : y = roundW x := hy.2.2 hn
            clear hy
            go_wp2_with (first | (go_at_call 87; refine (isNaN_any _ _).mono ?_; rintro e_ w_ ⟨rfl, rfl⟩; ))
            go_ret
            exact ⟨by first | rfl | (show Ending.returned (.int .i64 _) = Ending.returned (.int .i64 _); congr 2; omega), H⟩
        · by_cases t2 : fr < 9223372036854775807
          · rw [show max fr (min 9223372036854775807 to) = 9223372036854775807 by omega]
            go_enter Tryd.func33, Tryd.ntmps33
            go_wp2_with (first | (go_at_call 32; refine (round_any _ _ _ x hx H).mono ?_; rintro e_ w_ ⟨y, rfl, hy, HN⟩; clear H; have H := HN; clear HN))
            obtain rfl : y = roundW x := hy.2.2 hn
            clear hy
            go_wp2_with (first | (go_at_call 87; refine (isNaN_any _ _).mono ?_; rintro e_ w_ ⟨rfl, rfl⟩; ))
            go_ret
            exact ⟨by first | rfl | (show Ending.returned (.int .i64 _) = Ending.returned (.int .i64 _); congr 2; omega), H⟩
          · rw [show max fr (min 9223372036854775807 to) = fr by omega]
            go_enter Tryd.func33, Tryd.ntmps33
            go_wp2_with (first | (go_at_call 32; refine (round_any _ _ _ x hx H).mono ?_; rintro e_ w_ ⟨y, rfl, hy, HN⟩; clear H; have H := HN; clear HN))
            obtain rfl : y = roundW x := hy.2.2 hn
            clear hy
            go_wp2_with (first | (go_at_call 87; refine (isNaN_any _ _).mono ?_; rintro e_ w_ ⟨rfl, rfl⟩; ))
            go_ret
            exact ⟨by first | rfl | (show Ending.returned (.int .i64 _) = Ending.returned (.int .i64 _); congr 2; omega), H⟩
      rw [decide_eq_false c2] at z2
      rw [if_neg c2] at hv
      have z2' : (FloatKind.f64.format.order (roundW x) 4890909195324358656 == some .gt || FloatKind.f64.format.order (roundW x) 4890909195324358656 == some .eq) = false := z2
      have hcv := conv_run (roundW x) (rI x) hwl (by omega) (by omega)
      rw [hv]
      generalize rI x = n at *
      clear hn0 hi z1 z2 hwl
      by_cases t1 : to < n
      · by_cases t2 : fr < to
        · rw [show max fr (min n to) = to by omega]
          go_enter Tryd.func33, Tryd.ntmps33
          go_wp2_with (first | (go_at_call 32; refine (round_any _ _ _ x hx H).mono ?_; rintro e_ w_ ⟨y, rfl, hy, HN⟩; clear H; have H := HN; clear HN))
          obtain rfl : y = roundW x := hy.2.2 hn
          clear hy
          go_wp2_with (first | (go_at_call 87; refine (isNaN_any _ _).mono ?_; rintro e_ w_ ⟨rfl, rfl⟩; ))
          go_ret
          exact ⟨by first | rfl | (show Ending.returned (.int .i64 _) = Ending.returned (.int .i64 _); congr 2; omega), H⟩
        · rw [show max fr (min n to) = fr by omega]
          go_enter Tryd.func33, Tryd.ntmps33
          go_wp2_with (first | (go_at_call 32; refine (round_any _ _ _ x hx H).mono ?_; rintro e_ w_ ⟨y, rfl, hy, HN⟩; clear H; have H := HN; clear HN))
          obtain rfl : y = roundW x := hy.2.2 hn
          clear hy
          go_wp2_with (first | (go_at_call 87; refine (isNaN_any _ _).mono ?_; rintro e_ w_ ⟨rfl, rfl⟩; ))
          go_ret
          exact ⟨by first | rfl | (show Ending.returned (.int .i64 _) = Ending.returned (.int .i64 _); congr 2; omega), H⟩
      · by_cases t2 : fr < n
        · rw [show max fr (min n to) = n by omega]
          go_enter Tryd.func33, Tryd.ntmps33
          go_wp2_with (first | (go_at_call 32; refine (round_any _ _ _ x hx H).mono ?_; rintro e_ w_ ⟨y, rfl, hy, HN⟩; clear H; have H := HN; clear HN))
          obtain rfl : y = roundW x := hy.2.2 hn
          clear hy
          go_wp2_with (first | (go_at_call 87; refine (isNaN_any _ _).mono ?_; rintro e_ w_ ⟨rfl, rfl⟩; ))
          go_ret
          exact ⟨by first | rfl | (show Ending.returned (.int .i64 _) = Ending.returned (.int .i64 _); congr 2; omega), H⟩
        · rw [show max fr (min n to) = fr by omega]
          go_enter Tryd.func33, Tryd.ntmps33
          go_wp2_with (first | (go_at_call 32; refine (round_any _ _ _ x hx H).mono ?_; rintro e_ w_ ⟨y, rfl, hy, HN⟩; clear H; have H := HN; clear HN))
          obtain rfl : y = roundW x := hy.2.2 hn
          clear hy
          go_wp2_with (first | (go_at_call 87; refine (isNaN_any _ _).mono ?_; rintro e_ w_ ⟨rfl, rfl⟩; ))
          go_ret
          exact ⟨by first | rfl | (show Ending.returned (.int .i64 _) = Ending.returned (.int .i64 _); congr 2; omega), H⟩
  · have hv : whV x = 0 := by unfold whV; rw [hn]; rfl
    rw [hv]
    by_cases t1 : to < 0
    · by_cases t2 : fr < to
      · rw [show max fr (min 0 to) = to by omega]
        go_enter Tryd.func33, Tryd.ntmps33
        go_wp2_with (first | (go_at_call 32; refine (round_any _ _ _ x hx H).mono ?_; rintro e_ w_ ⟨y, rfl, hy, HN⟩; clear H; have H := HN; clear HN))
        have hyn := hy.2.1 hn
        go_wp2_with (first | (go_at_call 87; refine (isNaN_any _ _).mono ?_; rintro e_ w_ ⟨rfl, rfl⟩; ))
        go_ret
        exact ⟨by first | rfl | (show Ending.returned (.int .i64 _) = Ending.returned (.int .i64 _); congr 2; omega), H⟩
      · rw [show max fr (min 0 to) = fr by omega]
        go_enter Tryd.func33, Tryd.ntmps33
        go_wp2_with (first | (go_at_call 32; refine (round_any _ _ _ x hx H).mono ?_; rintro e_ w_ ⟨y, rfl, hy, HN⟩; clear H; have H := HN; clear HN))
        have hyn := hy.2.1 hn
        go_wp2_with (first | (go_at_call 87; refine (isNaN_any _ _).mono ?_; rintro e_ w_ ⟨rfl, rfl⟩; ))
        go_ret
        exact ⟨by first | rfl | (show Ending.returned (.int .i64 _) = Ending.returned (.int .i64 _); congr 2; omega), H⟩
    · by_cases t2 : fr < 0
      · rw [show max fr (min 0 to) = 0 by omega]
        go_enter Tryd.func33, Tryd.ntmps33
        go_wp2_with (first | (go_at_call 32; refine (round_any _ _ _ x hx H).mono ?_; rintro e_ w_ ⟨y, rfl, hy, HN⟩; clear H; have H := HN; clear HN))
        have hyn := hy.2.1 hn
        go_wp2_with (first | (go_at_call 87; refine (isNaN_any _ _).mono ?_; rintro e_ w_ ⟨rfl, rfl⟩; ))
        go_ret
        exact ⟨by first | rfl | (show Ending.returned (.int .i64 _) = Ending.returned (.int .i64 _); congr 2; omega), H⟩
      · rw [show max fr (min 0 to) = fr by omega]
        go_enter Tryd.func33, Tryd.ntmps33
        go_wp2_with (first | (go_at_call 32; refine (round_any _ _ _ x hx H).mono ?_; rintro e_ w_ ⟨y, rfl, hy, HN⟩; clear H; have H := HN; clear HN))
        have hyn := hy.2.1 hn
        go_wp2_with (first | (go_at_call 87; refine (isNaN_any _ _).mono ?_; rintro e_ w_ ⟨rfl, rfl⟩; ))
        go_ret
        exact ⟨by first | rfl | (show Ending.returned (.int .i64 _) = Ending.returned (.int .i64 _); congr 2; omega), H⟩
end Go.Proofs.YtcpfangcibilaaaDoor
