/- Parts of any number, and FltParts, walked. No condition but the table's cells. -/
import Derived.Test.YtcpfangcibilaaaDoorDs
import Derived.Test.YtcpfangcibilaaaDoorDi
namespace Go.Proofs.YtcpfangcibilaaaDoor
set_option linter.unusedVariables false
set_option linter.unusedSimpArgs false
open Go.RowKit

theorem mant_top (x : Nat) : mant x < 9007199254740992 := by unfold mant; split <;> omega
theorem odd_split {q z p c : Nat} (hq : q % 2 = 1) (hp : p % 2 = 1) (h : q * 2 ^ z = p * 2 ^ c) : z = c ∧ q = p := by
  have main : ∀ {q z p c : Nat}, q % 2 = 1 → z ≤ c → q * 2 ^ z = p * 2 ^ c → z = c := fun {q z p c} hq hzc h => by
    obtain ⟨k, rfl⟩ : ∃ k, c = z + k := ⟨c - z, by omega⟩
    rw [Nat.pow_add, Nat.mul_comm (2 ^ z), ← Nat.mul_assoc] at h
    have h2 := Nat.eq_of_mul_eq_mul_right (Nat.two_pow_pos z) h
    cases k with
    | zero => rfl
    | succ k => rw [h2, Nat.pow_succ, ← Nat.mul_assoc] at hq; omega
  have hz : z = c := by
    rcases Nat.le_total z c with hle | hle
    · exact main hq hle h
    · exact (main hp hle h.symm).symm
  subst hz
  exact ⟨rfl, Nat.eq_of_mul_eq_mul_right (Nat.two_pow_pos z) h⟩
theorem odd_of (n : Nat) (h0 : 0 < n) (hn : n < 18446744073709551616) : ∃ q z, q % 2 = 1 ∧ n = q * 2 ^ z := by
  obtain ⟨m, hm, _⟩ := Lib.ctzFrom_spec 64 n h0 (by rw [show 2 ^ 64 = 18446744073709551616 by decide]; exact hn)
  exact ⟨2 * m + 1, Lib.ctzFrom 64 n, by omega, by rw [Nat.mul_comm]; exact hm⟩
theorem ctz_of {x q z : Nat} (h : x = q * 2 ^ z) (hq : q % 2 = 1) (hx : x < 18446744073709551616) : Lib.ctz 64 x = z ∧ z < 64 := by
  have h0 : 0 < x := by rw [h]; exact Nat.mul_pos (by omega) (Nat.two_pow_pos z)
  obtain ⟨m, hm, hk⟩ := Lib.ctzFrom_spec 64 x h0 (by rw [show 2 ^ 64 = 18446744073709551616 by decide]; exact hx)
  have e : Lib.ctz 64 x = Lib.ctzFrom 64 x := by unfold Lib.ctz; rw [if_neg (by omega)]
  rw [e]
  generalize Lib.ctzFrom 64 x = c at *
  rw [Nat.mul_comm] at hm
  obtain ⟨h1, _⟩ := odd_split hq (show (2 * m + 1) % 2 = 1 by omega) (h.symm.trans hm)
  omega
/-- A number and its turned one have as many zeros at their ends. -/
theorem ctz_neg {M q z : Nat} (h : M = q * 2 ^ z) (hq : q % 2 = 1) (hM : M < 9007199254740992) : Lib.ctz 64 (18446744073709551616 - M) = z := by
  obtain ⟨_, hz⟩ := ctz_of h hq (by omega)
  have hz2 : z ≤ 53 := by
    refine Nat.le_of_not_lt fun h3 => ?_
    have h4 : 2 ^ 54 ≤ 2 ^ z := Nat.pow_le_pow_right (by decide) h3
    have h5 := Nat.le_mul_of_pos_left (2 ^ z) (show 0 < q by omega)
    rw [show 2 ^ 54 = 18014398509481984 by decide] at h4
    omega
  have e : 18446744073709551616 = 2 ^ (64 - z) * 2 ^ z := by
    rw [← Nat.pow_add, show 64 - z + z = 64 by omega]
  have hev : 2 ^ (64 - z) % 2 = 0 := by rw [show 64 - z = 63 - z + 1 by omega, Nat.pow_succ]; omega
  have hgt : q < 2 ^ (64 - z) := by
    have : q * 2 ^ z < 2 ^ (64 - z) * 2 ^ z := by rw [← e, ← h]; omega
    exact Nat.lt_of_mul_lt_mul_right this
  have h0 : 0 < M := by rw [h]; exact Nat.mul_pos (by omega) (Nat.two_pow_pos z)
  have h9 : 18446744073709551616 - M = (2 ^ (64 - z) - q) * 2 ^ z := by rw [Nat.mul_sub_right_distrib, ← e, ← h]
  exact (ctz_of h9 (by omega) (by omega)).1
set_option maxHeartbeats 800000 in
theorem norm_small (x : Nat) (hx : x < 18446744073709551616) (h1 : 0 < rung x) (h2 : rung x < 4503599627370496) (L : Nat) (hL : (rung x).log2 = L) (w : World) : Calls Tryd.prog 107 #[.float .f64 x] w fun e w' => e = .returned (.tuple #[.float .f64 (Ieee.double.word (sgn x) (L * 4503599627370496 + rung x * 2 ^ (52 - L))), .int .i64 (-52)]) ∧ w' = w := by
  have hn : isn x = false := decide_eq_false (by have hp : INF = 9218868437227405312 := rfl; omega)
  have z : (FloatKind.f64.format.order (rung x) 4503599627370496 == some .lt) = true := by
    have := small_test (rung x) (rung_lt x) (by rw [isn_rung]; exact hn)
    rw [decide_eq_true (by omega)] at this
    exact this
  obtain ⟨hm, _, _, _⟩ := mul_up hx h1 h2 hL
  have hmm : ∀ w : World, (binOp .mul 22 (.float .f64 x) (.float .f64 4841369599423283200)).run Tryd.prog w = .ok (.float .f64 (Ieee.double.word (sgn x) (L * 4503599627370496 + rung x * 2 ^ (52 - L)))) w := fun w => run_float_arith w .mul 22 .f64 x 4841369599423283200 _ hm
  generalize Ieee.double.word (sgn x) (L * 4503599627370496 + rung x * 2 ^ (52 - L)) = V at *
  clear hm
  go_enter Tryd.func107, Tryd.ntmps107
  go_wp2_with (first | (go_at_call 30; refine (abs_any x hx _).mono ?_; rintro e_ w_ ⟨rfl, rfl⟩; ))
  go_ret2
  exact ⟨rfl, rfl⟩
set_option maxRecDepth 100000 in
set_option maxHeartbeats 800000 in
theorem frexpS_any (x : Nat) (hx : x < 18446744073709551616) (h1 : 0 < rung x) (h2 : rung x < 4503599627370496) (L : Nat) (hL : (rung x).log2 = L) (f : Nat) (hf : rung x * 2 ^ (52 - L) = 4503599627370496 + f) (w : World) : Calls Tryd.prog 104 #[.float .f64 x] w fun e w' => e = .returned (.tuple #[.float .f64 ((if sgn x then 9223372036854775808 else 0) + (4602678819172646912 + f)), .int .i64 ((L : Int) - 1073)]) ∧ w' = w := by
  have hp : INF = 9218868437227405312 := rfl
  obtain ⟨_, hL2, c1, c2⟩ := mul_up hx h1 h2 hL
  have hnm := norm_small x hx h1 h2 L hL
  rw [hf] at c1 c2 hnm
  have hn : isn x = false := decide_eq_false (by omega)
  have z1 : (FloatKind.f64.format.order x 0 == some .eq) = false := (zero_test x).trans (decide_eq_false (by omega))
  have z2 : decide (rung x = INF) = false := decide_eq_false (by omega)
  obtain ⟨y, hy⟩ : ∃ y, y = Ieee.double.word (sgn x) (L * 4503599627370496 + (4503599627370496 + f)) := ⟨_, rfl⟩
  have hyl : y < 18446744073709551616 := by rw [hy]; exact word_lt _ (by omega)
  have hyr : rung y = (L + 1) * 4503599627370496 + f := by rw [hy, rung_word _ (by omega)]; omega
  have hys : sgn y = sgn x := by rw [hy, sgn_word _ (by omega)]
  have hb := fbits_run y
  have ze := ref_expo y hyl
  have zc := bits_clear y hyl
  rw [hyr, show ((L + 1) * 4503599627370496 + f) / 4503599627370496 = L + 1 by omega] at ze
  rw [hyr, hys, show ((L + 1) * 4503599627370496 + f) % 4503599627370496 = f by omega] at zc
  have zo := bits_parts (sgn x) 1022 f (by decide) (by omega)
  obtain ⟨S, hS⟩ : ∃ S : Nat, S = (if sgn x then 9223372036854775808 else 0) := ⟨_, rfl⟩
  rw [← hy] at hnm
  rw [← hS] at zc zo ⊢
  replace zc : bits .andNot .u64 (y : Int) 9218868437227405312 = (S : Int) + (f : Int) := zc
  replace zo : bits .or .u64 ((S : Int) + (f : Int)) 4602678819172646912 = (S : Int) + (4602678819172646912 + (f : Int)) := zo
  replace ze : bits .and .u64 ((y : Int) / 4503599627370496) 2047 = (L : Int) + 1 := ze
  have hfr := (show ∀ w : World, (callFunc 66 #[.int .u64 ((S : Int) + (4602678819172646912 + (f : Int)))]).run Tryd.prog w = .ok (.value (.float .f64 (S + (4602678819172646912 + f)))) w from ffrom_run (S + (4602678819172646912 + f)))
  clear hS hy hyr hys c1 c2 hf hL h1 h2 hp
  go_enter Tryd.func104, Tryd.ntmps104
  go_wp2_with (first | (go_at_call 47; refine (isInf_any x hx _).mono ?_; rintro e_ w_ ⟨rfl, rfl⟩; ) | (go_at_call 87; refine (isNaN_any x _).mono ?_; rintro e_ w_ ⟨rfl, rfl⟩; ) | (go_at_call 107; refine (hnm _).mono ?_; rintro e_ w_ ⟨rfl, rfl⟩; ))
  go_ret2
  refine ⟨?_, rfl⟩
  show Ending.returned (.tuple #[.float .f64 (S + (4602678819172646912 + f)), .int .i64 (-52 + ((L : Int) + 1 - 1023 + 1))]) = _
  rw [show (-52 : Int) + ((L : Int) + 1 - 1023 + 1) = (L : Int) - 1073 by omega]
theorem frexp_of (x y : Nat) (k : Int) (hf : ∀ w : World, Calls Tryd.prog 104 #[.float .f64 x] w fun e w' => e = .returned (.tuple #[.float .f64 y, .int .i64 k]) ∧ w' = w) (w : World) : Calls Tryd.prog 77 #[.float .f64 x] w fun e w' => e = .returned (.tuple #[.float .f64 y, .int .i64 k]) ∧ w' = w := by
  go_enter Tryd.func77, Tryd.ntmps77
  go_wp2_with (first | (go_at_call 104; refine (hf _).mono ?_; rintro e_ w_ ⟨rfl, rfl⟩; ))
  go_ret2
  exact ⟨rfl, rfl⟩
theorem conv_i64 (y : Nat) (n : Int) (h : Whl y n) (h1 : -9223372036854775808 ≤ n) (h2 : n ≤ 9223372036854775807) (w : World) : (convert 22 2 (.float .f64 y)).run Tryd.prog w = .ok (.int .i64 n) w :=
  run_convert_float_int w _ _ .f64 .i64 _ _ (by kernel_rfl) Tryd.underlying2 (toInt_i64 h h1 h2)
theorem sg_div (s : Bool) (M q z : Nat) (hM : M = q * 2 ^ z) : ∀ k : Nat, k = z → sg s M / 2 ^ k = sg s q := fun k hk => by
  obtain ⟨g, hg⟩ : ∃ g : Nat, g = 2 ^ z := ⟨_, rfl⟩
  have e1 : (2 : Int) ^ z = (g : Int) := by rw [hg]; simp
  have hg0 : 0 < g := by rw [hg]; exact Nat.two_pow_pos z
  rw [hk, e1, hM, ← hg, sg_mul]
  exact Int.mul_ediv_cancel _ (by omega)
theorem sg_u64 (s : Bool) (M q z : Nat) (hM : M = q * 2 ^ z) (hq : q % 2 = 1) (hMl : M < 9007199254740992) : ∃ X : Nat, IntKind.u64.wrap (sg s M) = (X : Int) ∧ Lib.ctz 64 X = z ∧ X ≠ 0 ∧ X < 18446744073709551616 := by
  have h0 : 0 < M := by rw [hM]; exact Nat.mul_pos (by omega) (Nat.two_pow_pos z)
  cases s
  · exact ⟨M, by unfold sg; rw [IntKind.wrap_u64]; simp; omega, (ctz_of hM hq (by omega)).1, by omega, by omega⟩
  · exact ⟨18446744073709551616 - M, by unfold sg; rw [IntKind.wrap_u64]; simp; omega, ctz_neg hM hq hMl, by omega, by omega⟩
set_option maxHeartbeats 800000 in
theorem parts_core (x y v : Nat) (e : Int) (s : Bool) (M q z : Nat) (w : World) (hT : TabC w) (hx : x < 18446744073709551616) (h1 : rung x < INF) (h0 : 0 < rung x)
    (hfr : ∀ w : World, Calls Tryd.prog 77 #[.float .f64 x] w fun r w' => r = .returned (.tuple #[.float .f64 y, .int .i64 e]) ∧ w' = w)
    (hld : ∀ w : World, Calls Tryd.prog 84 #[.float .f64 y, .int .i64 53] w fun r w' => r = .returned (.float .f64 v) ∧ w' = w)
    (hv : Whl v (sg s M)) (hM : M = q * 2 ^ z) (hq : q % 2 = 1) (hMl : M < 9007199254740992) (he1 : -2000 ≤ e) (he2 : e ≤ 2000) :
    Calls Tryd.prog 62 #[.float .f64 x] w fun r w' => r = .returned (.tuple #[.int .i64 (sg s q), .int .i64 (e - 53 + z), .bool true]) ∧ w' = w := by
  have z0 : decide (rung x < INF) = true := decide_eq_true h1
  have z1 : (FloatKind.f64.format.order x 0 == some .eq) = false := (zero_test x).trans (decide_eq_false (by omega))
  have hsb : -9007199254740992 ≤ sg s M ∧ sg s M ≤ 9007199254740992 := by unfold sg; split <;> omega
  have hc := conv_i64 v _ hv (by omega) (by omega)
  obtain ⟨X, hX, hcz, hX0, hXl⟩ := sg_u64 s M q z hM hq hMl
  have hz : z < 64 := (ctz_of hM hq (by omega)).2
  have htz := tz64_any X hX0 hXl w hT
  rw [hcz] at htz
  have hdv := sg_div s M q z hM
  generalize sg s M = N at *
  generalize sg s q = Q at *
  clear hM hq hv h1 h0 hcz
  go_enter Tryd.func62, Tryd.ntmps62
  go_wp2_with (first | (go_at_call 92; refine (finite_any x hx _).mono ?_; rintro e_ w_ ⟨rfl, rfl⟩; ) | (go_at_call 77; refine (hfr _).mono ?_; rintro e_ w_ ⟨rfl, rfl⟩; ) | (go_at_call 29; refine (ldexp_any _ _ _ hld _).mono ?_; rintro e_ w_ ⟨rfl, rfl⟩; ) | (go_at_call 93; refine (htz).mono ?_; rintro e_ w_ ⟨rfl, rfl⟩; ))
  go_ret3
  exact ⟨by first | rfl | trace_state, rfl⟩
theorem whl_int (s : Bool) (f : Nat) (hf : f < 4503599627370496) : Whl ((if s then 9223372036854775808 else 0) + (1075 * 4503599627370496 + f)) (sg s (4503599627370496 + f)) := by
  have e : (if s then 9223372036854775808 else 0) + (1075 * 4503599627370496 + f) = Ieee.double.word s (1075 * 4503599627370496 + f) := by rw [word_eq]; split <;> omega
  rw [e]
  exact whl_const _ s 1075 f 0 (sgn_word s (by omega)) (rung_word s (by omega)) hf (by decide) (by decide) _ (by rw [Nat.pow_zero, Nat.mul_one])
theorem ldexp53 (s : Bool) (f : Nat) (hf : f < 4503599627370496) (w : World) : Calls Tryd.prog 84 #[.float .f64 ((if s then 9223372036854775808 else 0) + (4602678819172646912 + f)), .int .i64 53] w fun r w' => r = .returned (.float .f64 ((if s then 9223372036854775808 else 0) + (1075 * 4503599627370496 + f))) ∧ w' = w := by
  have hp : INF = 9218868437227405312 := rfl
  have e : (if s then 9223372036854775808 else 0) + (4602678819172646912 + f) = Ieee.double.word s (4602678819172646912 + f) := by rw [word_eq]; split <;> omega
  have hr : rung (Ieee.double.word s (4602678819172646912 + f)) = 4602678819172646912 + f := rung_word s (by omega)
  have hs : sgn (Ieee.double.word s (4602678819172646912 + f)) = s := sgn_word s (by omega)
  have h := ldexpU_any (Ieee.double.word s (4602678819172646912 + f)) (word_lt s (by omega)) (by omega) (by omega) 53 (by rw [hr]; omega) (by rw [hr]; omega) w
  rw [hs, hr, show (53 + (((4602678819172646912 + f) / 4503599627370496 : Nat) : Int)).toNat = 1075 by omega, show (4602678819172646912 + f) % 4503599627370496 = f by omega, ← e] at h
  exact h
theorem parts_any (x : Nat) (hx : x < 18446744073709551616) (h1 : rung x < INF) (h0 : 0 < rung x) (q z : Nat) (hq : q % 2 = 1) (hm : mant x = q * 2 ^ z) (w : World) (hT : TabC w) : Calls Tryd.prog 62 #[.float .f64 x] w fun r w' => r = .returned (.tuple #[.int .i64 (sg (sgn x) q), .int .i64 (expE x + z), .bool true]) ∧ w' = w := by
  have hp : INF = 9218868437227405312 := rfl
  by_cases hu : 4503599627370496 ≤ rung x
  · have hM : 4503599627370496 + rung x % 4503599627370496 = q * 2 ^ z := by rw [← hm]; unfold mant; rw [if_neg (by omega)]
    have h := parts_core x _ _ _ (sgn x) (4503599627370496 + rung x % 4503599627370496) q z w hT hx h1 h0 (frexp_any x hx hu h1) (ldexp53 (sgn x) (rung x % 4503599627370496) (by omega)) (whl_int (sgn x) _ (by omega)) hM hq (by omega) (by omega) (by omega)
    rw [show ((rung x / 4503599627370496 : Nat) : Int) - 1022 - 53 + (z : Int) = expE x + z by unfold expE; rw [if_neg (by omega)]; omega] at h
    exact h
  · obtain ⟨L, hL⟩ : ∃ L, (rung x).log2 = L := ⟨_, rfl⟩
    obtain ⟨_, hL2, c1, c2⟩ := mul_up hx h0 (by omega) hL
    obtain ⟨f, hf⟩ : ∃ f, rung x * 2 ^ (52 - L) = 4503599627370496 + f := ⟨_, by rw [Nat.add_sub_cancel' c1]⟩
    have hM : 4503599627370496 + f = q * 2 ^ (z + (52 - L)) := by
      have : mant x = rung x := by unfold mant; rw [if_pos (by omega)]
      rw [← hf, ← this, hm, Nat.pow_add, Nat.mul_assoc]
    have h := parts_core x _ _ _ (sgn x) (4503599627370496 + f) q (z + (52 - L)) w hT hx h1 h0 (frexp_of x _ _ (frexpS_any x hx h0 (by omega) L hL f hf)) (ldexp53 (sgn x) f (by omega)) (whl_int (sgn x) _ (by omega)) hM hq (by omega) (by omega) (by omega)
    rw [show (L : Int) - 1073 - 53 + ((z + (52 - L) : Nat) : Int) = expE x + z by unfold expE; rw [if_pos (by omega)]; omega] at h
    exact h
theorem parts_zero (x : Nat) (hx : x < 18446744073709551616) (h0 : rung x = 0) (w : World) : Calls Tryd.prog 62 #[.float .f64 x] w fun r w' => r = .returned (.tuple #[.int .i64 0, .int .i64 0, .bool true]) ∧ w' = w := by
  have z0 : decide (rung x < INF) = true := decide_eq_true (by rw [h0]; decide)
  have z1 : (FloatKind.f64.format.order x 0 == some .eq) = true := (zero_test x).trans (decide_eq_true h0)
  clear h0
  go_enter Tryd.func62, Tryd.ntmps62
  go_wp2_with (first | (go_at_call 92; refine (finite_any x hx _).mono ?_; rintro e_ w_ ⟨rfl, rfl⟩; ))
  go_ret3
  exact ⟨rfl, rfl⟩
theorem parts_none (x : Nat) (hx : x < 18446744073709551616) (h0 : ¬ rung x < INF) (w : World) : Calls Tryd.prog 62 #[.float .f64 x] w fun r w' => r = .returned (.tuple #[.int .i64 0, .int .i64 0, .bool false]) ∧ w' = w := by
  have z0 : decide (rung x < INF) = false := decide_eq_false h0
  clear h0
  go_enter Tryd.func62, Tryd.ntmps62
  go_wp2_with (first | (go_at_call 92; refine (finite_any x hx _).mono ?_; rintro e_ w_ ⟨rfl, rfl⟩; ))
  go_ret3
  exact ⟨rfl, rfl⟩

theorem refParts_zero (x : Nat) (hx : x < 18446744073709551616) (h0 : rung x = 0) (w : World) : Calls Tryd.prog 63 #[.float .f64 x] w fun r w' => r = .returned (.tuple #[.int .i64 0, .int .i64 0, .bool true]) ∧ w' = w := by
  have hb := fbits_run x
  have ze := ref_expo x hx
  have zf := frac_bits x hx
  rw [h0] at ze zf
  replace ze : bits .and .u64 ((x : Int) / 4503599627370496) 2047 = 0 := ze
  replace zf : bits .and .u64 (x : Int) 4503599627370495 = 0 := zf
  clear h0
  go_enter Tryd.func63, Tryd.ntmps63
  go_wp2
  go_ret3
  exact ⟨rfl, rfl⟩
theorem refParts_none (x : Nat) (hx : x < 18446744073709551616) (h0 : ¬ rung x < INF) (w : World) : Calls Tryd.prog 63 #[.float .f64 x] w fun r w' => r = .returned (.tuple #[.int .i64 0, .int .i64 0, .bool false]) ∧ w' = w := by
  have hp : INF = 9218868437227405312 := rfl
  have hb := fbits_run x
  have ze := ref_expo x hx
  have zf := frac_bits x hx
  rw [show rung x / 4503599627370496 = 2047 by have := rung_lt x; omega] at ze
  replace ze : bits .and .u64 ((x : Int) / 4503599627370496) 2047 = 2047 := ze
  generalize rung x % 4503599627370496 = f at *
  clear h0
  go_enter Tryd.func63, Tryd.ntmps63
  go_wp2
  go_ret3
  exact ⟨rfl, rfl⟩
theorem refParts_is (x : Nat) (hx : x < 18446744073709551616) (h1 : rung x < INF) (h0 : 0 < rung x) (q z : Nat) (hq : q % 2 = 1) (hm : mant x = q * 2 ^ z) (w : World) : Calls Tryd.prog 63 #[.float .f64 x] w fun r w' => r = .returned (.tuple #[.int .i64 (sg (sgn x) q), .int .i64 (expE x + z), .bool true]) ∧ w' = w :=
  (refParts_any x hx h1 h0 w).mono fun r w' ⟨q2, z2, hq2, hm2, hr, hw⟩ => by
    obtain ⟨e1, e2⟩ := odd_split hq2 hq (hm2.symm.trans hm)
    subst e1 e2
    exact ⟨hr, hw⟩
/-- The parts of a number make it again. -/
theorem mkW_parts (x : Nat) (hx : x < 18446744073709551616) (h1 : rung x < INF) (h0 : 0 < rung x) (q z : Nat) (hq : q % 2 = 1) (hm : mant x = q * 2 ^ z) : mkW (sg (sgn x) q) (expE x + z) = x := by
  have hq0 : sg (sgn x) q ≠ 0 := by unfold sg; split <;> omega
  have ha : (sg (sgn x) q).natAbs = q := by unfold sg; split <;> omega
  have hd : decide (sg (sgn x) q < 0) = sgn x := by
    unfold sg
    cases sgn x
    · exact decide_eq_false (by simp)
    · exact decide_eq_true (by simp; omega)
  have hE : -1074 ≤ expE x := by unfold expE; split <;> omega
  have hmag : q * 2 ^ (expE x + z + 1074).toNat = mag (rung x) := by
    unfold mag
    by_cases c : rung x < 4503599627370496
    · have e1 : mant x = rung x := if_pos c
      have e2 : expE x = -1074 := if_pos c
      rw [if_pos c, e2, show ((-1074 : Int) + z + 1074).toNat = z by omega, ← hm, e1]
    · have e1 : mant x = 4503599627370496 + rung x % 4503599627370496 := if_neg c
      have e2 : expE x = ((rung x / 4503599627370496 : Nat) : Int) - 1075 := if_neg c
      rw [if_neg c, e2, show (((rung x / 4503599627370496 : Nat) : Int) - 1075 + z + 1074).toNat = z + (rung x / 4503599627370496 - 1) by omega, Nat.pow_add, ← Nat.mul_assoc, ← hm, e1]
  unfold mkW
  rw [if_neg hq0, ha, hd, mkR_mag (by omega) (by omega), hmag, rungOf_mag (Nat.le_of_lt h1), word_self hx]

set_option maxRecDepth 100000 in
set_option maxHeartbeats 1000000 in
theorem fltParts_any (w : World) (hT : TabC w) (x : Nat) (hx : x < 18446744073709551616) (m e : Int) (hm1 : -9223372036854775808 ≤ m) (hm2 : m ≤ 9223372036854775807) : Calls Tryd.prog 14 #[.float .f64 x, .int .i64 m, .int .i64 e] w fun r w' => r = .returned (.bool true) ∧ St w w' [] := by
  have H := St.start w
  have hT2 : ∀ {w' : World} {L : List Ent}, St w w' L → TabC w' := fun h i hi => cell_mono (hT i hi) h.below
  obtain ⟨V, hV⟩ : ∃ V, mkW m e = V := ⟨_, rfl⟩
  have y1 := sameW_self V
  have hA : ∀ (w0 w : World) (L : List Ent) (H : St w0 w L), Calls Tryd.prog 64 #[.int .i64 m, .int .i64 e] w fun r w' => r = .returned (.float .f64 V) ∧ St w0 w' L := fun w0 w L H => hV ▸ make_any w0 w L H m e hm1 hm2
  have hB : ∀ w : World, Calls Tryd.prog 65 #[.int .i64 m, .int .i64 e] w fun r w' => r = .returned (.float .f64 V) ∧ w' = w := fun w => hV ▸ refMake_any m e hm1 hm2 w
  clear hV
  by_cases h1 : rung x < INF
  · by_cases h0 : rung x = 0
    · have z9 : (FloatKind.f64.format.order 0 x == some .eq) = true := by
        have a : (FloatKind.f64.format.order 0 x == some .eq) = (!isn 0 && !isn x && decide (sr 0 = sr x)) := eq_eq 0 x
        have b : sr x = 0 := by unfold sr sg; rw [h0]; split <;> rfl
        have c : isn x = false := decide_eq_false (by omega)
        rw [a, b, c]; decide
      have hmk : ∀ (w0 w : World) (L : List Ent) (H : St w0 w L), Calls Tryd.prog 64 #[.int .i64 0, .int .i64 0] w fun r w' => r = .returned (.float .f64 0) ∧ St w0 w' L := fun w0 w L H => make_any w0 w L H 0 0 (by decide) (by decide)
      go_enter Tryd.func14, Tryd.ntmps14
      go_wp2_with (first | (go_at_call 31; refine (first3_any _ _ _ hT H).mono ?_; rintro e_ w_ ⟨rfl, HN⟩; clear H; have H := HN; clear HN) | (go_at_call 62; refine (parts_zero x hx h0 _).mono ?_; rintro e_ w_ ⟨rfl, rfl⟩; ) | (go_at_call 63; refine (refParts_zero x hx h0 _).mono ?_; rintro e_ w_ ⟨rfl, rfl⟩; ) | (go_at_call 64; (with_reducible refine (hA _ _ _ H).mono ?_); rintro e_ w_ ⟨rfl, HN⟩; clear H; have H := HN; clear HN) | (go_at_call 65; (with_reducible refine (hB _).mono ?_); rintro e_ w_ ⟨rfl, rfl⟩; ) | (go_at_call 37; (with_reducible refine (same_any V V _).mono ?_); rintro e_ w_ ⟨rfl, rfl⟩; ) | (go_at_call 64; (with_reducible refine (hmk _ _ _ H).mono ?_); rintro e_ w_ ⟨rfl, HN⟩; clear H; have H := HN; clear HN))
      (go_ret; exact ⟨by first | rfl | (simp [y1]; done), H⟩)
    · obtain ⟨q, z, hq, hm⟩ := odd_of (mant x) (by unfold mant; split <;> omega) (by unfold mant; split <;> omega)
      have hmk := mkW_parts x hx h1 (by omega) q z hq hm
      have hqb : q < 9007199254740992 := by
        have := Nat.le_mul_of_pos_right q (Nat.two_pow_pos z)
        have := mant_top x
        omega
      have hbk : ∀ (w0 w : World) (L : List Ent) (H : St w0 w L), Calls Tryd.prog 64 #[.int .i64 (sg (sgn x) q), .int .i64 (expE x + z)] w fun r w' => r = .returned (.float .f64 x) ∧ St w0 w' L := fun w0 w L H => by
        have := make_any w0 w L H (sg (sgn x) q) (expE x + z) (by unfold sg; split <;> omega) (by unfold sg; split <;> omega)
        rw [hmk] at this
        exact this
      have z9 : (FloatKind.f64.format.order x x == some .eq) = true := by
        have a : (FloatKind.f64.format.order x x == some .eq) = (!isn x && !isn x && decide (sr x = sr x)) := eq_eq x x
        have c : isn x = false := decide_eq_false (by omega)
        rw [a, c]; simp
      have hp := fun w hT => parts_any x hx h1 (by omega) q z hq hm w hT
      have hrp := refParts_is x hx h1 (by omega) q z hq hm
      have x1 : (sg (sgn x) q == 0) = false := by rw [beq_eq_false_iff_ne]; unfold sg; split <;> omega
      have x2 : ((sg (sgn x) q).tmod 2 != 0) = true := by
        rw [bne_iff_ne]
        intro e
        have := Int.emod_eq_zero_of_dvd (Int.dvd_of_tmod_eq_zero e)
        revert this
        unfold sg; split <;> omega
      generalize sg (sgn x) q = N at *
      generalize expE x + (z : Int) = D at *
      clear hm hmk hq h0 h1
      go_enter Tryd.func14, Tryd.ntmps14
      go_wp2_with (first | (go_at_call 31; refine (first3_any _ _ _ hT H).mono ?_; rintro e_ w_ ⟨rfl, HN⟩; clear H; have H := HN; clear HN) | (go_at_call 62; refine (hp _ (hT2 H)).mono ?_; rintro e_ w_ ⟨rfl, rfl⟩; ) | (go_at_call 63; refine (hrp _).mono ?_; rintro e_ w_ ⟨rfl, rfl⟩; ) | (go_at_call 64; (with_reducible refine (hA _ _ _ H).mono ?_); rintro e_ w_ ⟨rfl, HN⟩; clear H; have H := HN; clear HN) | (go_at_call 65; (with_reducible refine (hB _).mono ?_); rintro e_ w_ ⟨rfl, rfl⟩; ) | (go_at_call 37; (with_reducible refine (same_any V V _).mono ?_); rintro e_ w_ ⟨rfl, rfl⟩; ) | (go_at_call 64; (with_reducible refine (hbk _ _ _ H).mono ?_); rintro e_ w_ ⟨rfl, HN⟩; clear H; have H := HN; clear HN))
      (go_ret; exact ⟨by first | rfl | (simp [y1]; done), H⟩)
  · go_enter Tryd.func14, Tryd.ntmps14
    go_wp2_with (first | (go_at_call 31; refine (first3_any _ _ _ hT H).mono ?_; rintro e_ w_ ⟨rfl, HN⟩; clear H; have H := HN; clear HN) | (go_at_call 62; refine (parts_none x hx h1 _).mono ?_; rintro e_ w_ ⟨rfl, rfl⟩; ) | (go_at_call 63; refine (refParts_none x hx h1 _).mono ?_; rintro e_ w_ ⟨rfl, rfl⟩; ) | (go_at_call 64; (with_reducible refine (hA _ _ _ H).mono ?_); rintro e_ w_ ⟨rfl, HN⟩; clear H; have H := HN; clear HN) | (go_at_call 65; (with_reducible refine (hB _).mono ?_); rintro e_ w_ ⟨rfl, rfl⟩; ) | (go_at_call 37; (with_reducible refine (same_any V V _).mono ?_); rintro e_ w_ ⟨rfl, rfl⟩; ))
    (go_ret; exact ⟨by first | rfl | (simp [y1]; done), H⟩)
end Go.Proofs.YtcpfangcibilaaaDoor
