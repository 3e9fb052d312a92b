/- Ldexp of any usual number, and what comes of it beyond the usual ones, walked. No condition. -/
import Derived.Test.YtcpfangcibilaaaDoorDh
import Derived.Test.YtcpfangcibilaaaDoorFl
namespace Go.Proofs.YtcpfangcibilaaaDoor
set_option linter.unusedVariables false
set_option linter.unusedSimpArgs false
open Go.RowKit

set_option maxRecDepth 100000 in
set_option maxHeartbeats 800000 in
theorem ldexpU_any (x : Nat) (hx : x < 18446744073709551616) (h1 : 4503599627370496 ≤ rung x) (h2 : rung x < INF) (k : Int) (hk : -1022 ≤ k + ((rung x / 4503599627370496 : Nat) : Int) - 1023) (hk2 : k + ((rung x / 4503599627370496 : Nat) : Int) - 1023 ≤ 1023) (w : World) : Calls Tryd.prog 84 #[.float .f64 x, .int .i64 k] w fun e w' => e = .returned (.float .f64 ((if sgn x then 9223372036854775808 else 0) + ((k + ((rung x / 4503599627370496 : Nat) : Int)).toNat * 4503599627370496 + rung x % 4503599627370496))) ∧ w' = w := by
  have hp : INF = 9218868437227405312 := rfl
  have hb := fbits_run x
  have hn : isn x = false := decide_eq_false (by omega)
  have z1 : (FloatKind.f64.format.order x 0 == some .eq) = false := (zero_test x).trans (decide_eq_false (by omega))
  have z2 : decide (rung x = INF) = false := decide_eq_false (by omega)
  have ze := and_i64 x hx
  have zc := bits_clear x hx
  obtain ⟨e, he⟩ : ∃ e : Nat, (e : Int) = k + ((rung x / 4503599627370496 : Nat) : Int) := ⟨(k + ((rung x / 4503599627370496 : Nat) : Int)).toNat, by omega⟩
  have zo := bits_parts (sgn x) e (rung x % 4503599627370496) (by omega) (by omega)
  have hzl : (if sgn x then 9223372036854775808 else 0) + (e * 4503599627370496 + rung x % 4503599627370496) = Ieee.double.word (sgn x) (e * 4503599627370496 + rung x % 4503599627370496) := by rw [word_eq]; split <;> omega
  have hr9 : e * 4503599627370496 + rung x % 4503599627370496 < 9223372036854775808 := by omega
  have hmul := mul_sign false (z := Ieee.double.word (sgn x) (e * 4503599627370496 + rung x % 4503599627370496)) (by rw [rung_word _ hr9]; omega)
  rw [rung_word _ hr9, sgn_word _ hr9, Bool.false_xor, show Ieee.double.word false 4607182418800017408 = 4607182418800017408 by rw [word_eq]; rfl] at hmul
  rw [← hzl] at hmul
  rw [← he, Int.toNat_natCast]
  have hm2 := run_float_arith (P := Tryd.prog) w .mul 22 .f64 4607182418800017408 _ _ hmul
  obtain ⟨S, hS⟩ : ∃ S : Nat, S = (if sgn x then 9223372036854775808 else 0) := ⟨_, rfl⟩
  obtain ⟨f, hf⟩ : ∃ f : Nat, f = rung x % 4503599627370496 := ⟨_, rfl⟩
  obtain ⟨E, hE⟩ : ∃ E : Nat, E = rung x / 4503599627370496 := ⟨_, rfl⟩
  have hE1 : 1 ≤ E := by omega
  have hE2 : E ≤ 2046 := by omega
  rw [← hS, ← hf] at zc zo
  rw [← hE] at ze he hk hk2
  rw [← hS, ← hf] at hm2 ⊢
  have hx0 : k + ((E : Int) - 1023) = (e : Int) - 1023 := by omega
  have hx1 : (e : Int) - 1023 + 1023 = (e : Int) := by omega
  have hel : 1 ≤ e ∧ e ≤ 2046 := by omega
  have zc : bits .andNot .u64 (x : Int) 9218868437227405312 = (S : Int) + (f : Int) := zc
  have zo : bits .or .u64 ((S : Int) + (f : Int)) ((e : Int) * 4503599627370496) = (S : Int) + ((e : Int) * 4503599627370496 + (f : Int)) := zo
  have hfr := (show ∀ w : World, (callFunc 66 #[.int .u64 ((S : Int) + ((e : Int) * 4503599627370496 + (f : Int)))]).run Tryd.prog w = .ok (.value (.float .f64 (S + (e * 4503599627370496 + f)))) w from ffrom_run (S + (e * 4503599627370496 + f)))
  have zw : IntKind.u64.wrap ((e : Int) * 4503599627370496) = (e : Int) * 4503599627370496 := by rw [IntKind.wrap_u64]; omega
  have hk0 : k = (e : Int) - (E : Int) := by omega
  subst hk0
  have zt : (e : Int) - (E : Int) + ((E : Int) - 1023) = (e : Int) - 1023 := by omega
  clear hS hf hE hx0 hmul hzl hr9 hp he hk hk2
  go_enter Tryd.func84, Tryd.ntmps84
  go_wp2_with (first | (go_at_call 47; refine (isInf_any x hx _).mono ?_; rintro e_ w_ ⟨rfl, rfl⟩; ) | (go_at_call 87; refine (isNaN_any x _).mono ?_; rintro e_ w_ ⟨rfl, rfl⟩; ) | (go_at_call 107; refine (norm_any x hx h1 h2 _).mono ?_; rintro e_ w_ ⟨rfl, rfl⟩; ))
  go_ret
  exact ⟨by first | rfl | (congr 3; omega), rfl⟩
set_option maxRecDepth 100000 in
set_option maxHeartbeats 800000 in
/-- Of a number above nothing, beyond the greatest. -/
theorem ldexpO_any (x : Nat) (h1 : 4503599627370496 ≤ x) (h2 : x < INF) (k : Int) (hk : 1024 ≤ k + ((x / 4503599627370496 : Nat) : Int) - 1023) (hk2 : k ≤ 100000) (w : World) : Calls Tryd.prog 84 #[.float .f64 x, .int .i64 k] w fun e w' => e = .returned (.float .f64 9218868437227405312) ∧ w' = w := by
  have hp : INF = 9218868437227405312 := rfl
  have hx : x < 18446744073709551616 := by omega
  have hr : rung x = x := Nat.mod_eq_of_lt (by omega)
  have hs : sgn x = false := by
    unfold sgn
    have : x / 9223372036854775808 % 2 = 0 := by omega
    rw [this]; rfl
  have hb := fbits_run x
  have hn : isn x = false := decide_eq_false (by omega)
  have z1 : (FloatKind.f64.format.order x 0 == some .eq) = false := (zero_test x).trans (decide_eq_false (by omega))
  have z2 : decide (rung x = INF) = false := decide_eq_false (by omega)
  have z3 : (FloatKind.f64.format.order x 0 == some .lt) = false := by
    have a : (FloatKind.f64.format.order x 0 == some .lt) = (!isn x && !isn 0 && decide (sr x < sr 0)) := lt_eq x 0
    have e : sr x = (x : Int) := by unfold sr sg; rw [hs, hr]; rfl
    rw [a, hn, e, show sr 0 = 0 by decide, decide_eq_false (by omega)]
    simp
  have ze := and_i64 x hx
  rw [hr] at ze
  obtain ⟨E, hE⟩ : ∃ E : Nat, E = x / 4503599627370496 := ⟨_, rfl⟩
  rw [← hE] at ze hk
  have hE2 : E ≤ 2046 := by omega
  have h1' : 4503599627370496 ≤ rung x := by omega
  have h2' : rung x < INF := by omega
  clear hp hE hr hs h1 h2
  go_enter Tryd.func84, Tryd.ntmps84
  go_wp2_with (first | (go_at_call 47; refine (isInf_any x hx _).mono ?_; rintro e_ w_ ⟨rfl, rfl⟩; ) | (go_at_call 87; refine (isNaN_any x _).mono ?_; rintro e_ w_ ⟨rfl, rfl⟩; ) | (go_at_call 107; refine (norm_any x hx h1' h2' _).mono ?_; rintro e_ w_ ⟨rfl, rfl⟩; ) | (go_at_call 36; refine (inf_run _).mono ?_; rintro e_ w_ ⟨rfl, rfl⟩; ))
  go_ret
  exact ⟨rfl, rfl⟩
set_option maxRecDepth 100000 in
set_option maxHeartbeats 800000 in
/-- Nothing stays nothing. -/
theorem ldexpZ_any (k : Int) (w : World) : Calls Tryd.prog 84 #[.float .f64 0, .int .i64 k] w fun e w' => e = .returned (.float .f64 0) ∧ w' = w := by
  have z1 : (FloatKind.f64.format.order 0 0 == some .eq) = true := (zero_test 0).trans (decide_eq_true (by decide))
  go_enter Tryd.func84, Tryd.ntmps84
  go_wp2
  go_ret
  exact ⟨rfl, rfl⟩
set_option maxRecDepth 100000 in
set_option maxHeartbeats 800000 in
/-- To a small number. -/
theorem ldexpD_any (n L x : Nat) (h0 : 0 < n) (hL : n.log2 = L) (hL2 : L ≤ 51) (hx0 : x = (L + 1022) * 4503599627370496 + n * 2 ^ (52 - L)) (w : World) : Calls Tryd.prog 84 #[.float .f64 x, .int .i64 (-1074)] w fun e w' => e = .returned (.float .f64 n) ∧ w' = w := by
  have hp : INF = 9218868437227405312 := rfl
  have hmul := mul_small h0 hL hL2
  have b1 := Nat.log2_self_le (show n ≠ 0 by omega)
  have b2 := lt_log2 n
  rw [hL] at b1 b2
  have c1 : 4503599627370496 ≤ n * 2 ^ (52 - L) := by
    have := Nat.mul_le_mul_right (2 ^ (52 - L)) b1
    rw [← Nat.pow_add, show L + (52 - L) = 52 by omega, show 2 ^ 52 = 4503599627370496 by decide] at this
    exact this
  have c2 : n * 2 ^ (52 - L) < 9007199254740992 := by
    have := Nat.mul_lt_mul_of_pos_right b2 (Nat.two_pow_pos (52 - L))
    rw [← Nat.pow_add, show L + 1 + (52 - L) = 53 by omega, show 2 ^ 53 = 9007199254740992 by decide] at this
    exact this
  obtain ⟨f, hf⟩ : ∃ f : Nat, n * 2 ^ (52 - L) = 4503599627370496 + f := ⟨n * 2 ^ (52 - L) - 4503599627370496, by omega⟩
  rw [hf] at hx0 hmul c1 c2
  have hx : x < 18446744073709551616 := by omega
  have hr : rung x = x := Nat.mod_eq_of_lt (by omega)
  have hs : sgn x = false := by
    unfold sgn
    have : x / 9223372036854775808 % 2 = 0 := by omega
    rw [this]; rfl
  have hb := fbits_run x
  have hn : isn x = false := decide_eq_false (by omega)
  have z1 : (FloatKind.f64.format.order x 0 == some .eq) = false := (zero_test x).trans (decide_eq_false (by omega))
  have z2 : decide (rung x = INF) = false := decide_eq_false (by omega)
  have ze := and_i64 x hx
  have zc := bits_clear x hx
  have zo := bits_parts false (L + 2) f (by omega) (by omega)
  rw [hs, hr, show x % 4503599627370496 = f by omega] at zc
  rw [hr, show x / 4503599627370496 = L + 1023 by omega] at ze
  have h1 : 4503599627370496 ≤ rung x := by omega
  have h2 : rung x < INF := by omega
  have hm2 := run_float_arith (P := Tryd.prog) w .mul 22 .f64 4368491638549381120 _ _ hmul
  have hfr := (show ∀ w : World, (callFunc 66 #[.int .u64 (((L : Int) + 2) * 4503599627370496 + (f : Int))]).run Tryd.prog w = .ok (.value (.float .f64 ((L + 2) * 4503599627370496 + f))) w from ffrom_run ((L + 2) * 4503599627370496 + f))
  rw [show (L + 1) * 4503599627370496 + (4503599627370496 + f) = (L + 2) * 4503599627370496 + f by omega] at hm2
  replace zc : bits .andNot .u64 (x : Int) 9218868437227405312 = (f : Int) := by rw [zc]; simp
  replace zo : bits .or .u64 (f : Int) (((L : Int) + 2) * 4503599627370496) = ((L : Int) + 2) * 4503599627370496 + (f : Int) := by
    have e1 : (((if false = true then 9223372036854775808 else 0) : Nat) : Int) + (f : Int) = (f : Int) := by simp
    have e2 : ((L + 2 : Nat) : Int) = (L : Int) + 2 := by omega
    first
      | (rw [e2] at zo; simpa using zo)
      | (simp at zo; exact zo)
  have zw : IntKind.u64.wrap (((L : Int) + 2) * 4503599627370496) = ((L : Int) + 2) * 4503599627370496 := by rw [IntKind.wrap_u64]; omega
  have zt : (-1074 : Int) + (L : Int) + 53 + 1023 = (L : Int) + 2 := by omega
  clear hmul c1 c2 hf hp hr hs hL hx0 b1 b2
  go_enter Tryd.func84, Tryd.ntmps84
  go_wp2_with (first | (go_at_call 47; refine (isInf_any x hx _).mono ?_; rintro e_ w_ ⟨rfl, rfl⟩; ) | (go_at_call 87; refine (isNaN_any x _).mono ?_; rintro e_ w_ ⟨rfl, rfl⟩; ) | (go_at_call 107; refine (norm_any x hx h1 h2 _).mono ?_; rintro e_ w_ ⟨rfl, rfl⟩; ))
  go_ret
  exact ⟨by first | rfl | (congr 3; omega), rfl⟩
end Go.Proofs.YtcpfangcibilaaaDoor
