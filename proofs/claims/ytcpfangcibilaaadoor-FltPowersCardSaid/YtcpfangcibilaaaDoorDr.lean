/- Package flt's Make, walked. No condition. -/
import Derived.Test.YtcpfangcibilaaaDoorDq
namespace Go.Proofs.YtcpfangcibilaaaDoor
set_option linter.unusedVariables false
set_option linter.unusedSimpArgs false
open Go.RowKit

theorem nat_near (n : Nat) (h0 : 0 < n) : FloatKind.f64.nearest (n : Int) = mkR n 0 := by
  show Ieee.double.nearest (decide ((n : Int) < 0)) (n : Int).natAbs 0 = mkR n 0
  rw [decide_eq_false (by omega), Int.natAbs_natCast, nearest_mk false (by omega), word_eq]
  simp only [Bool.false_eq_true, if_false]
theorem conv_uf (n : Int) (z : Nat) (h : FloatKind.f64.nearest n = z) (w : World) : (convert 75 22 (.int .u64 n)).run Tryd.prog w = .ok (.float .f64 z) w := by
  have h2 := run_convert_int_float (P := Tryd.prog) w 75 22 .u64 .f64 n (by kernel_rfl) Tryd.underlying22
  rw [show floatOfInt .f64 n = z from h] at h2
  exact h2
theorem log2_lt64 {u L : Nat} (h0 : 0 < u) (hu : u < 18446744073709551616) (hL : u.log2 = L) : L ≤ 63 := by
  have := (Nat.log2_lt (show u ≠ 0 by omega)).2 (show u < 2 ^ 64 from hu)
  omega
theorem mkR_far {u : Nat} {e : Int} (h0 : 0 < u) (h : 2000 < e) : mkR u e = INF := by
  have hp : INF = 9218868437227405312 := rfl
  obtain ⟨h1, _, _⟩ := mkR_cut (u := u) (L := u.log2) (e := e) h0 rfl rfl
  rw [h1]
  generalize (if max (e + (u.log2 : Int) - 52) (-1074) ≤ e then _ else _) = n
  exact Nat.min_eq_right (by omega)
theorem mkR_none {u : Nat} {e : Int} (h0 : 0 < u) (hu : u < 18446744073709551616) (h : e < -2000) : mkR u e = 0 := by
  have hL := log2_lt64 h0 hu rfl
  obtain ⟨h1, _, _⟩ := mkR_cut (u := u) (L := u.log2) (e := e) (q := -1074) h0 rfl (by omega)
  rw [h1, if_neg (by omega)]
  have e0 : rne u (-1074 - e).toNat = 0 := by
    have h1 : 2 ^ 65 ≤ 2 ^ (-1074 - e).toNat := Nat.pow_le_pow_right (by decide) (by omega)
    rw [show 2 ^ 65 = 36893488147419103232 by decide] at h1
    unfold rne
    generalize 2 ^ (-1074 - e).toNat = g at *
    rw [Nat.div_eq_of_lt (by omega), Nat.mod_eq_of_lt (by omega), if_neg (by omega)]
  rw [e0]; rfl
/-- A whole number of 53 digits by a power of two. -/
theorem ldexpN_any (n : Nat) (q : Int) (hn : n ≤ 9007199254740992) (hq : -1074 ≤ q) (hq2 : q ≤ 4000) (h : q = -1074 ∨ 4503599627370496 ≤ n) : ∃ x, FloatKind.f64.nearest (n : Int) = x ∧
    ∀ w : World, Calls Tryd.prog 29 #[.float .f64 x, .int .i64 q] w fun e w' => e = .returned (.float .f64 (min ((q + 1074).toNat * 4503599627370496 + n) INF)) ∧ w' = w := by
  have hp : INF = 9218868437227405312 := rfl
  by_cases n0 : n = 0
  · obtain rfl : q = -1074 := by omega
    subst n0
    refine ⟨0, by rfl, fun w => ?_⟩
    rw [show min ((-1074 + 1074 : Int).toNat * 4503599627370496 + 0) INF = 0 by decide]
    exact ldexp_any 0 (-1074) 0 (ldexpZ_any (-1074)) w
  · by_cases n1 : n < 4503599627370496
    · obtain rfl : q = -1074 := by omega
      obtain ⟨L, hL⟩ : ∃ L, n.log2 = L := ⟨_, rfl⟩
      have hL2 : L ≤ 51 := by
        have := (Nat.log2_lt (show n ≠ 0 by omega)).2 (show n < 2 ^ 52 from n1)
        omega
      obtain ⟨c1, c2, _⟩ := mkR_cut (u := n) (L := L) (e := 0) (q := (L : Int) - 52) (by omega) hL (by omega)
      rw [if_pos (by omega), show (0 - ((L : Int) - 52)).toNat = 52 - L by omega, show ((L : Int) - 52 + 1074).toNat = L + 1022 by omega] at c1
      rw [if_pos (by omega), show (0 - ((L : Int) - 52)).toNat = 52 - L by omega] at c2
      rw [Nat.min_eq_left (by omega)] at c1
      refine ⟨_, (nat_near n (by omega)).trans c1, fun w => ?_⟩
      rw [show min ((-1074 + 1074 : Int).toNat * 4503599627370496 + n) INF = n by rw [show (-1074 + 1074 : Int).toNat = 0 by decide, Nat.zero_mul, Nat.zero_add]; exact Nat.min_eq_left (by omega)]
      exact ldexp_any _ (-1074) n (fun w => ldexpD_any n L _ (by omega) hL hL2 rfl w) w
    · have hx : mkR n 0 = 1074 * 4503599627370496 + n := by
        by_cases n2 : n < 9007199254740992
        · have hL : n.log2 = 52 := log2_eq (show 2 ^ 52 ≤ n by omega) (show n < 2 ^ (52 + 1) by omega)
          obtain ⟨c1, _, _⟩ := mkR_cut (u := n) (L := 52) (e := 0) (q := 0) (by omega) hL (by decide)
          rw [if_pos (by decide), show (0 - 0 : Int).toNat = 0 by decide, Nat.pow_zero, Nat.mul_one, show (0 + 1074 : Int).toNat = 1074 by decide, Nat.min_eq_left (by omega)] at c1
          exact c1
        · obtain rfl : n = 9007199254740992 := by omega
          have hL : (9007199254740992 : Nat).log2 = 53 := log2_eq (by decide) (by decide)
          obtain ⟨c1, _, _⟩ := mkR_cut (u := 9007199254740992) (L := 53) (e := 0) (q := 1) (by decide) hL (by decide)
          rw [if_neg (by decide), show (1 - 0 : Int).toNat = 1 by decide, show rne 9007199254740992 1 = 4503599627370496 by decide, show (1 + 1074 : Int).toNat = 1075 by decide] at c1
          rw [c1]; decide
      obtain ⟨x, hx0⟩ : ∃ x, x = 1074 * 4503599627370496 + n := ⟨_, rfl⟩
      rw [← hx0] at hx
      have hr : rung x = x := Nat.mod_eq_of_lt (by omega)
      have hs : sgn x = false := by
        unfold sgn
        have : x / 9223372036854775808 % 2 = 0 := by omega
        rw [this]; rfl
      refine ⟨x, (nat_near n (by omega)).trans hx, fun w => ?_⟩
      by_cases ho : q + ((x / 4503599627370496 : Nat) : Int) - 1023 ≤ 1023
      · have hl := ldexpU_any x (by omega) (by omega) (by omega) q (by omega) (by rw [hr]; exact ho)
        have e : ((if sgn x then 9223372036854775808 else 0) + ((q + ((rung x / 4503599627370496 : Nat) : Int)).toNat * 4503599627370496 + rung x % 4503599627370496)) = min ((q + 1074).toNat * 4503599627370496 + n) INF := by
          rw [hs, hr]
          have e2 : (q + ((x / 4503599627370496 : Nat) : Int)).toNat * 4503599627370496 + x % 4503599627370496 = (q + 1074).toNat * 4503599627370496 + n := by omega
          rw [e2, Nat.min_eq_left (by omega)]; simp
        rw [e] at hl
        exact ldexp_any x q _ hl w
      · have hl := ldexpO_any x (by omega) (by omega) q (by omega) (by omega)
        rw [Nat.min_eq_right (by omega)]
        exact ldexp_any x q _ hl w
theorem whl_one : Whl 4607182418800017408 1 := by
  obtain ⟨K, hK⟩ : ∃ K, K = 1022 := ⟨_, rfl⟩
  have e := mag_of_parts 1023 0 K (by decide) (by decide) 0 (by omega)
  refine ⟨by decide, ?_⟩
  unfold sv sg
  rw [show sgn 4607182418800017408 = false by decide, show rung 4607182418800017408 = 1023 * 4503599627370496 + 0 by decide, e, show 1074 = 52 + K by omega, Nat.pow_add, Nat.pow_zero, show 2 ^ 52 = 4503599627370496 by decide]
  simp
theorem whl_neg1 : Whl 13830554455654793216 (-1) := by
  obtain ⟨K, hK⟩ : ∃ K, K = 1022 := ⟨_, rfl⟩
  have e := mag_of_parts 1023 0 K (by decide) (by decide) 0 (by omega)
  refine ⟨by decide, ?_⟩
  unfold sv sg
  rw [show sgn 13830554455654793216 = true by decide, show rung 13830554455654793216 = 1023 * 4503599627370496 + 0 by decide, e, show 1074 = 52 + K by omega, Nat.pow_add, Nat.pow_zero, show 2 ^ 52 = 4503599627370496 by decide]
  simp
/-- The word of the number nearest to 'm * 2 ^ e'. -/
def mkW (m e : Int) : Nat := if m = 0 then 0 else Ieee.double.word (decide (m < 0)) (mkR m.natAbs e)
theorem mkW_zero (e : Int) : mkW 0 e = 0 := rfl
theorem make_zero (e : Int) (w : World) : Calls Tryd.prog 64 #[.int .i64 0, .int .i64 e] w fun r w' => r = .returned (.float .f64 0) ∧ w' = w := by
  go_enter Tryd.func64, Tryd.ntmps64
  go_wp2
  go_ret
  exact ⟨rfl, rfl⟩
theorem neg_u (u : Nat) (h0 : 0 < u) (hu : u ≤ 9223372036854775808) : ∃ v : Int, IntKind.u64.wrap (-(u : Int)) = v ∧ IntKind.u64.wrap (-v) = (u : Int) := ⟨18446744073709551616 - (u : Int), by rw [IntKind.wrap_u64]; omega, by rw [IntKind.wrap_u64]; omega⟩


set_option maxHeartbeats 800000 in
theorem make_far_pos (u : Nat) (h0 : 0 < u) (hu : u < 9223372036854775808) (e : Int) (he : 3000 < e) (w : World) : Calls Tryd.prog 64 #[.int .i64 ((u : Int)), .int .i64 e] w fun r w' => r = .returned (.float .f64 9218868437227405312) ∧ w' = w := by
  have zm : decide ((u : Int) < 0) = false := decide_eq_false (by omega)
  have zz : ((u : Int) == 0) = false := by rw [beq_eq_false_iff_ne]; omega
  have zv1 : IntKind.u64.wrap (u : Int) = (u : Int) := by rw [IntKind.wrap_u64]; omega
  have z2 : decide (3000 < e) = true := decide_eq_true he
  have hc : ∀ w : World, (convert 22 3 (.float .f64 4607182418800017408)).run Tryd.prog w = .ok (.int .i64 (1)) w := fun w => run_convert_float_int w _ _ .f64 .i64 _ _ (by kernel_rfl) Tryd.underlying3 (toInt_i64 whl_one (by decide) (by decide))
  clear he
  go_enter Tryd.func64, Tryd.ntmps64
  go_wp2_with (first | (go_at_call 36; (with_reducible refine (inf_run _).mono ?_); rintro e_ w_ ⟨rfl, rfl⟩; ))
  go_ret
  exact ⟨rfl, rfl⟩
set_option maxHeartbeats 800000 in
theorem make_none_pos (u : Nat) (h0 : 0 < u) (hu : u < 9223372036854775808) (e : Int) (he : e < -3000) (w : World) : Calls Tryd.prog 64 #[.int .i64 ((u : Int)), .int .i64 e] w fun r w' => r = .returned (.float .f64 0) ∧ w' = w := by
  have zm : decide ((u : Int) < 0) = false := decide_eq_false (by omega)
  have zz : ((u : Int) == 0) = false := by rw [beq_eq_false_iff_ne]; omega
  have zv1 : IntKind.u64.wrap (u : Int) = (u : Int) := by rw [IntKind.wrap_u64]; omega
  have z2 : decide (3000 < e) = false := decide_eq_false (by omega)
  have z3 : decide (e < -3000) = true := decide_eq_true he
  clear he
  go_enter Tryd.func64, Tryd.ntmps64
  go_wp2_with (first | (go_at_call 46; (with_reducible refine (copysign_any 0 4607182418800017408 (by decide) (by decide) _).mono ?_); rintro e_ w_ ⟨rfl, rfl⟩; ))
  go_ret
  exact ⟨rfl, rfl⟩
set_option maxHeartbeats 800000 in
theorem make_mid_pos1 (w0 w : World) (K : List Ent) (H : St w0 w K) (u : Nat) (h0 : 0 < u) (hu : u < 9223372036854775808) (e : Int) (he1 : -3000 ≤ e) (he2 : e ≤ 3000) (L : Nat) (hL : L ≤ 63) (hL2 : u.log2 = L) (q : Int) (hq : e + ((L : Int) + 1) - 53 = q) (hq2 : -1074 ≤ q) (n x R : Nat)
    (hs : ∀ (w0 w : World) (K : List Ent) (H : St w0 w K), Calls Tryd.prog 95 #[.int .u64 (u : Int), .int .i64 (q - e)] w fun r w' => r = .returned (.int .u64 (n : Int)) ∧ St w0 w' K) (hx : FloatKind.f64.nearest (n : Int) = x)
    (hl : ∀ w : World, Calls Tryd.prog 29 #[.float .f64 x, .int .i64 q] w fun r w' => r = .returned (.float .f64 R) ∧ w' = w) (hR : R ≤ INF) : Calls Tryd.prog 64 #[.int .i64 ((u : Int)), .int .i64 e] w fun r w' => r = .returned (.float .f64 (Ieee.double.word false R)) ∧ St w0 w' K := by
  have zm : decide ((u : Int) < 0) = false := decide_eq_false (by omega)
  have zz : ((u : Int) == 0) = false := by rw [beq_eq_false_iff_ne]; omega
  have zv1 : IntKind.u64.wrap (u : Int) = (u : Int) := by rw [IntKind.wrap_u64]; omega
  have z2 : decide (3000 < e) = false := decide_eq_false (by omega)
  have z3 : decide (e < -3000) = false := decide_eq_false (by omega)
  have hcv := conv_uf (n : Int) x hx
  have hlen := len64_log u L h0 (by omega) hL2
  have hRr : rung R = R := Nat.mod_eq_of_lt (Nat.lt_of_le_of_lt hR (by decide))
  have hRs : sgn R = false := by
    unfold sgn
    have hp : INF = 9218868437227405312 := rfl
    have : R / 9223372036854775808 % 2 = 0 := by omega
    rw [this]; rfl
  have hmul := mul_sign false (z := R) (by rw [hRr]; exact hR)
  rw [hRr, hRs, Bool.xor_false, show Ieee.double.word false 4607182418800017408 = 4607182418800017408 by decide] at hmul
  have hmm : ∀ w : World, (binOp .mul 22 (.float .f64 4607182418800017408) (.float .f64 R)).run Tryd.prog w = .ok (.float .f64 (Ieee.double.word false R)) w := fun w => run_float_arith w .mul 22 .f64 4607182418800017408 R _ hmul
  generalize Ieee.double.word false R = V at *
  clear hx hmul hRr hRs hL2 hR
  go_enter Tryd.func64, Tryd.ntmps64
  go_wp2_with (first | (go_at_call 94; (with_reducible refine (hlen _).mono ?_); rintro e_ w_ ⟨rfl, rfl⟩; ) | (go_at_call 95; refine (hs _ _ _ H).mono ?_; rintro e_ w_ ⟨rfl, HN⟩; clear H; have H := HN; clear HN) | (go_at_call 29; (with_reducible refine (hl _).mono ?_); rintro e_ w_ ⟨rfl, rfl⟩; ))
  (go_ret; exact ⟨rfl, H⟩)
set_option maxHeartbeats 800000 in
theorem make_mid_pos2 (w0 w : World) (K : List Ent) (H : St w0 w K) (u : Nat) (h0 : 0 < u) (hu : u < 9223372036854775808) (e : Int) (he1 : -3000 ≤ e) (he2 : e ≤ 3000) (L : Nat) (hL : L ≤ 63) (hL2 : u.log2 = L) (q : Int) (hq : e + ((L : Int) + 1) - 53 = q) (hq2 : q < -1074) (n x R : Nat)
    (hs : ∀ (w0 w : World) (K : List Ent) (H : St w0 w K), Calls Tryd.prog 95 #[.int .u64 (u : Int), .int .i64 ((-1074) - e)] w fun r w' => r = .returned (.int .u64 (n : Int)) ∧ St w0 w' K) (hx : FloatKind.f64.nearest (n : Int) = x)
    (hl : ∀ w : World, Calls Tryd.prog 29 #[.float .f64 x, .int .i64 (-1074)] w fun r w' => r = .returned (.float .f64 R) ∧ w' = w) (hR : R ≤ INF) : Calls Tryd.prog 64 #[.int .i64 ((u : Int)), .int .i64 e] w fun r w' => r = .returned (.float .f64 (Ieee.double.word false R)) ∧ St w0 w' K := by
  have zm : decide ((u : Int) < 0) = false := decide_eq_false (by omega)
  have zz : ((u : Int) == 0) = false := by rw [beq_eq_false_iff_ne]; omega
  have zv1 : IntKind.u64.wrap (u : Int) = (u : Int) := by rw [IntKind.wrap_u64]; omega
  have z2 : decide (3000 < e) = false := decide_eq_false (by omega)
  have z3 : decide (e < -3000) = false := decide_eq_false (by omega)
  have hcv := conv_uf (n : Int) x hx
  have hlen := len64_log u L h0 (by omega) hL2
  have hRr : rung R = R := Nat.mod_eq_of_lt (Nat.lt_of_le_of_lt hR (by decide))
  have hRs : sgn R = false := by
    unfold sgn
    have hp : INF = 9218868437227405312 := rfl
    have : R / 9223372036854775808 % 2 = 0 := by omega
    rw [this]; rfl
  have hmul := mul_sign false (z := R) (by rw [hRr]; exact hR)
  rw [hRr, hRs, Bool.xor_false, show Ieee.double.word false 4607182418800017408 = 4607182418800017408 by decide] at hmul
  have hmm : ∀ w : World, (binOp .mul 22 (.float .f64 4607182418800017408) (.float .f64 R)).run Tryd.prog w = .ok (.float .f64 (Ieee.double.word false R)) w := fun w => run_float_arith w .mul 22 .f64 4607182418800017408 R _ hmul
  generalize Ieee.double.word false R = V at *
  clear hx hmul hRr hRs hL2 hR
  go_enter Tryd.func64, Tryd.ntmps64
  go_wp2_with (first | (go_at_call 94; (with_reducible refine (hlen _).mono ?_); rintro e_ w_ ⟨rfl, rfl⟩; ) | (go_at_call 95; refine (hs _ _ _ H).mono ?_; rintro e_ w_ ⟨rfl, HN⟩; clear H; have H := HN; clear HN) | (go_at_call 29; (with_reducible refine (hl _).mono ?_); rintro e_ w_ ⟨rfl, rfl⟩; ))
  (go_ret; exact ⟨rfl, H⟩)
set_option maxHeartbeats 800000 in
theorem make_far_neg (u : Nat) (h0 : 0 < u) (hu : u ≤ 9223372036854775808) (e : Int) (he : 3000 < e) (w : World) : Calls Tryd.prog 64 #[.int .i64 (-(u : Int)), .int .i64 e] w fun r w' => r = .returned (.float .f64 18442240474082181120) ∧ w' = w := by
  have zm : decide (-(u : Int) < 0) = true := decide_eq_true (by omega)
  have zz : (-(u : Int) == 0) = false := by rw [beq_eq_false_iff_ne]; omega
  obtain ⟨v, zv1, zv2⟩ := neg_u u h0 hu
  have z2 : decide (3000 < e) = true := decide_eq_true he
  have hc : ∀ w : World, (convert 22 3 (.float .f64 13830554455654793216)).run Tryd.prog w = .ok (.int .i64 (-1)) w := fun w => run_convert_float_int w _ _ .f64 .i64 _ _ (by kernel_rfl) Tryd.underlying3 (toInt_i64 whl_neg1 (by decide) (by decide))
  clear he
  go_enter Tryd.func64, Tryd.ntmps64
  go_wp2_with (first | (go_at_call 36; (with_reducible refine (ninf_run _).mono ?_); rintro e_ w_ ⟨rfl, rfl⟩; ))
  go_ret
  exact ⟨rfl, rfl⟩
set_option maxHeartbeats 800000 in
theorem make_none_neg (u : Nat) (h0 : 0 < u) (hu : u ≤ 9223372036854775808) (e : Int) (he : e < -3000) (w : World) : Calls Tryd.prog 64 #[.int .i64 (-(u : Int)), .int .i64 e] w fun r w' => r = .returned (.float .f64 9223372036854775808) ∧ w' = w := by
  have zm : decide (-(u : Int) < 0) = true := decide_eq_true (by omega)
  have zz : (-(u : Int) == 0) = false := by rw [beq_eq_false_iff_ne]; omega
  obtain ⟨v, zv1, zv2⟩ := neg_u u h0 hu
  have z2 : decide (3000 < e) = false := decide_eq_false (by omega)
  have z3 : decide (e < -3000) = true := decide_eq_true he
  clear he
  go_enter Tryd.func64, Tryd.ntmps64
  go_wp2_with (first | (go_at_call 46; (with_reducible refine (copysign_any 0 13830554455654793216 (by decide) (by decide) _).mono ?_); rintro e_ w_ ⟨rfl, rfl⟩; ))
  go_ret
  exact ⟨rfl, rfl⟩
set_option maxHeartbeats 800000 in
theorem make_mid_neg1 (w0 w : World) (K : List Ent) (H : St w0 w K) (u : Nat) (h0 : 0 < u) (hu : u ≤ 9223372036854775808) (e : Int) (he1 : -3000 ≤ e) (he2 : e ≤ 3000) (L : Nat) (hL : L ≤ 63) (hL2 : u.log2 = L) (q : Int) (hq : e + ((L : Int) + 1) - 53 = q) (hq2 : -1074 ≤ q) (n x R : Nat)
    (hs : ∀ (w0 w : World) (K : List Ent) (H : St w0 w K), Calls Tryd.prog 95 #[.int .u64 (u : Int), .int .i64 (q - e)] w fun r w' => r = .returned (.int .u64 (n : Int)) ∧ St w0 w' K) (hx : FloatKind.f64.nearest (n : Int) = x)
    (hl : ∀ w : World, Calls Tryd.prog 29 #[.float .f64 x, .int .i64 q] w fun r w' => r = .returned (.float .f64 R) ∧ w' = w) (hR : R ≤ INF) : Calls Tryd.prog 64 #[.int .i64 (-(u : Int)), .int .i64 e] w fun r w' => r = .returned (.float .f64 (Ieee.double.word true R)) ∧ St w0 w' K := by
  have zm : decide (-(u : Int) < 0) = true := decide_eq_true (by omega)
  have zz : (-(u : Int) == 0) = false := by rw [beq_eq_false_iff_ne]; omega
  obtain ⟨v, zv1, zv2⟩ := neg_u u h0 hu
  have z2 : decide (3000 < e) = false := decide_eq_false (by omega)
  have z3 : decide (e < -3000) = false := decide_eq_false (by omega)
  have hcv := conv_uf (n : Int) x hx
  have hlen := len64_log u L h0 (by omega) hL2
  have hRr : rung R = R := Nat.mod_eq_of_lt (Nat.lt_of_le_of_lt hR (by decide))
  have hRs : sgn R = false := by
    unfold sgn
    have hp : INF = 9218868437227405312 := rfl
    have : R / 9223372036854775808 % 2 = 0 := by omega
    rw [this]; rfl
  have hmul := mul_sign true (z := R) (by rw [hRr]; exact hR)
  rw [hRr, hRs, Bool.xor_false, show Ieee.double.word true 4607182418800017408 = 13830554455654793216 by decide] at hmul
  have hmm : ∀ w : World, (binOp .mul 22 (.float .f64 13830554455654793216) (.float .f64 R)).run Tryd.prog w = .ok (.float .f64 (Ieee.double.word true R)) w := fun w => run_float_arith w .mul 22 .f64 13830554455654793216 R _ hmul
  generalize Ieee.double.word true R = V at *
  clear hx hmul hRr hRs hL2 hR
  go_enter Tryd.func64, Tryd.ntmps64
  go_wp2_with (first | (go_at_call 94; (with_reducible refine (hlen _).mono ?_); rintro e_ w_ ⟨rfl, rfl⟩; ) | (go_at_call 95; refine (hs _ _ _ H).mono ?_; rintro e_ w_ ⟨rfl, HN⟩; clear H; have H := HN; clear HN) | (go_at_call 29; (with_reducible refine (hl _).mono ?_); rintro e_ w_ ⟨rfl, rfl⟩; ))
  (go_ret; exact ⟨rfl, H⟩)
set_option maxHeartbeats 800000 in
theorem make_mid_neg2 (w0 w : World) (K : List Ent) (H : St w0 w K) (u : Nat) (h0 : 0 < u) (hu : u ≤ 9223372036854775808) (e : Int) (he1 : -3000 ≤ e) (he2 : e ≤ 3000) (L : Nat) (hL : L ≤ 63) (hL2 : u.log2 = L) (q : Int) (hq : e + ((L : Int) + 1) - 53 = q) (hq2 : q < -1074) (n x R : Nat)
    (hs : ∀ (w0 w : World) (K : List Ent) (H : St w0 w K), Calls Tryd.prog 95 #[.int .u64 (u : Int), .int .i64 ((-1074) - e)] w fun r w' => r = .returned (.int .u64 (n : Int)) ∧ St w0 w' K) (hx : FloatKind.f64.nearest (n : Int) = x)
    (hl : ∀ w : World, Calls Tryd.prog 29 #[.float .f64 x, .int .i64 (-1074)] w fun r w' => r = .returned (.float .f64 R) ∧ w' = w) (hR : R ≤ INF) : Calls Tryd.prog 64 #[.int .i64 (-(u : Int)), .int .i64 e] w fun r w' => r = .returned (.float .f64 (Ieee.double.word true R)) ∧ St w0 w' K := by
  have zm : decide (-(u : Int) < 0) = true := decide_eq_true (by omega)
  have zz : (-(u : Int) == 0) = false := by rw [beq_eq_false_iff_ne]; omega
  obtain ⟨v, zv1, zv2⟩ := neg_u u h0 hu
  have z2 : decide (3000 < e) = false := decide_eq_false (by omega)
  have z3 : decide (e < -3000) = false := decide_eq_false (by omega)
  have hcv := conv_uf (n : Int) x hx
  have hlen := len64_log u L h0 (by omega) hL2
  have hRr : rung R = R := Nat.mod_eq_of_lt (Nat.lt_of_le_of_lt hR (by decide))
  have hRs : sgn R = false := by
    unfold sgn
    have hp : INF = 9218868437227405312 := rfl
    have : R / 9223372036854775808 % 2 = 0 := by omega
    rw [this]; rfl
  have hmul := mul_sign true (z := R) (by rw [hRr]; exact hR)
  rw [hRr, hRs, Bool.xor_false, show Ieee.double.word true 4607182418800017408 = 13830554455654793216 by decide] at hmul
  have hmm : ∀ w : World, (binOp .mul 22 (.float .f64 13830554455654793216) (.float .f64 R)).run Tryd.prog w = .ok (.float .f64 (Ieee.double.word true R)) w := fun w => run_float_arith w .mul 22 .f64 13830554455654793216 R _ hmul
  generalize Ieee.double.word true R = V at *
  clear hx hmul hRr hRs hL2 hR
  go_enter Tryd.func64, Tryd.ntmps64
  go_wp2_with (first | (go_at_call 94; (with_reducible refine (hlen _).mono ?_); rintro e_ w_ ⟨rfl, rfl⟩; ) | (go_at_call 95; refine (hs _ _ _ H).mono ?_; rintro e_ w_ ⟨rfl, HN⟩; clear H; have H := HN; clear HN) | (go_at_call 29; (with_reducible refine (hl _).mono ?_); rintro e_ w_ ⟨rfl, rfl⟩; ))
  (go_ret; exact ⟨rfl, H⟩)
set_option maxRecDepth 10000 in
theorem make_any (w0 w : World) (K : List Ent) (H : St w0 w K) (m e : Int) (h1 : -9223372036854775808 ≤ m) (h2 : m ≤ 9223372036854775807) : Calls Tryd.prog 64 #[.int .i64 m, .int .i64 e] w fun r w' => r = .returned (.float .f64 (mkW m e)) ∧ St w0 w' K := by
  by_cases m0 : m = 0
  · subst m0
    exact (make_zero e w).mono fun r w' h => ⟨by rw [h.1, mkW_zero], by rw [h.2]; exact H⟩
  obtain ⟨u, hu⟩ : ∃ u : Nat, u = m.natAbs := ⟨_, rfl⟩
  have h0 : 0 < u := by omega
  have hul : u ≤ 9223372036854775808 := by omega
  have hW : mkW m e = Ieee.double.word (decide (m < 0)) (mkR u e) := by unfold mkW; rw [if_neg m0, ← hu]
  have hmv : (m < 0 ∧ m = -(u : Int)) ∨ (¬ m < 0 ∧ m = (u : Int) ∧ u < 9223372036854775808) := by omega
  by_cases hf : 3000 < e
  · rw [hW, mkR_far h0 (by omega), word_eq]
    rcases hmv with ⟨hn, rfl⟩ | ⟨hn, rfl, hul⟩
    · rw [decide_eq_true hn]
      exact (make_far_neg u h0 hul e hf w).mono fun r w' h => ⟨by rw [h.1]; rfl, by rw [h.2]; exact H⟩
    · rw [decide_eq_false hn]
      exact (make_far_pos u h0 hul e hf w).mono fun r w' h => ⟨by rw [h.1]; rfl, by rw [h.2]; exact H⟩
  by_cases hl : e < -3000
  · rw [hW, mkR_none h0 (by omega) (by omega), word_eq]
    rcases hmv with ⟨hn, rfl⟩ | ⟨hn, rfl, hul⟩
    · rw [decide_eq_true hn]
      exact (make_none_neg u h0 hul e hl w).mono fun r w' h => ⟨by rw [h.1]; rfl, by rw [h.2]; exact H⟩
    · rw [decide_eq_false hn]
      exact (make_none_pos u h0 hul e hl w).mono fun r w' h => ⟨by rw [h.1]; rfl, by rw [h.2]; exact H⟩
  obtain ⟨L, hL⟩ : ∃ L, u.log2 = L := ⟨_, rfl⟩
  have hL2 := log2_lt64 h0 (by omega) hL
  obtain ⟨q, hq⟩ : ∃ q : Int, q = max (e + (L : Int) - 52) (-1074) := ⟨_, rfl⟩
  obtain ⟨c1, c2, c3⟩ := mkR_cut h0 hL hq
  have hs : ∀ (w0 w : World) (K : List Ent) (H : St w0 w K), _ := fun w0 w K H => shifted_any w0 w K H u h0 hul e q (fun h => by rw [if_pos h] at c2; exact c2)
  generalize (if q ≤ e then u * 2 ^ (e - q).toNat else rne u (q - e).toNat) = n at *
  obtain ⟨x, hx, hld⟩ := ldexpN_any n q c2 (by omega) (by omega) c3
  rw [← c1] at hld
  rw [hW]
  have hR := mkR_le u e
  by_cases hc : -1074 ≤ e + (L : Int) - 52
  · rcases hmv with ⟨hn, rfl⟩ | ⟨hn, rfl, hul⟩
    · rw [decide_eq_true hn]
      exact make_mid_neg1 w0 w K H u h0 hul e (by omega) (by omega) L hL2 hL q (by omega) (by omega) n x _ hs hx hld hR
    · rw [decide_eq_false hn]
      exact make_mid_pos1 w0 w K H u h0 hul e (by omega) (by omega) L hL2 hL q (by omega) (by omega) n x _ hs hx hld hR
  · obtain rfl : q = -1074 := by omega
    rcases hmv with ⟨hn, rfl⟩ | ⟨hn, rfl, hul⟩
    · rw [decide_eq_true hn]
      exact make_mid_neg2 w0 w K H u h0 hul e (by omega) (by omega) L hL2 hL _ rfl (by omega) n x _ hs hx hld hR
    · rw [decide_eq_false hn]
      exact make_mid_pos2 w0 w K H u h0 hul e (by omega) (by omega) L hL2 hL _ rfl (by omega) n x _ hs hx hld hR
end Go.Proofs.YtcpfangcibilaaaDoor
