/- FltPowers, walked. No condition but the table's cells. -/
import Derived.Test.YtcpfangcibilaaaDoorDt
import Derived.Test.YtcpfangcibilaaaDoorDv
namespace Go.Proofs.YtcpfangcibilaaaDoor
set_option linter.unusedVariables false
set_option linter.unusedSimpArgs false
open Go.RowKit

theorem usual_parts {R u J : Nat} (hR : 4503599627370496 ≤ R) (hm : mag R = u * 2 ^ J) (hu : u % 2 = 1) : ∃ z, 4503599627370496 + R % 4503599627370496 = u * 2 ^ z ∧ z + (R / 4503599627370496 - 1) = J := by
  obtain ⟨q, z, hq, h⟩ := odd_of (4503599627370496 + R % 4503599627370496) (by omega) (by omega)
  rw [mag_big hR, h, Nat.mul_assoc, ← Nat.pow_add] at hm
  obtain ⟨h1, h2⟩ := odd_split hq hu hm
  subst h2
  exact ⟨z, h, h1⟩
theorem usual_expo {R u J : Nat} (hR : 4503599627370496 ≤ R) (hm : mag R = u * 2 ^ J) (h0 : 0 < u) (hu : u < 4503599627370496) : R / 4503599627370496 ≤ J ∧ J < R / 4503599627370496 + 52 := by
  rw [mag_big hR] at hm
  have a : 2 ^ (52 + (R / 4503599627370496 - 1)) < 2 ^ (52 + J) := by
    rw [Nat.pow_add 2 52 J, Nat.pow_add 2 52 (R / 4503599627370496 - 1), show 2 ^ 52 = 4503599627370496 by decide]
    have h1 := Nat.mul_le_mul_right (2 ^ (R / 4503599627370496 - 1)) (show 4503599627370496 ≤ 4503599627370496 + R % 4503599627370496 by omega)
    have h2 := Nat.mul_lt_mul_of_pos_right hu (Nat.two_pow_pos J)
    rw [hm] at h1
    exact Nat.lt_of_le_of_lt h1 h2
  have b : 2 ^ J < 2 ^ (53 + (R / 4503599627370496 - 1)) := by
    rw [Nat.pow_add 2 53, show 2 ^ 53 = 9007199254740992 by decide]
    have h1 := Nat.le_mul_of_pos_left (2 ^ J) h0
    have h2 := Nat.mul_lt_mul_of_pos_right (show 4503599627370496 + R % 4503599627370496 < 9007199254740992 by omega) (Nat.two_pow_pos (R / 4503599627370496 - 1))
    rw [hm] at h2
    exact Nat.lt_of_le_of_lt h1 h2
  have a2 := (Nat.pow_lt_pow_iff_right (by decide : 1 < 2)).1 a
  have b2 := (Nat.pow_lt_pow_iff_right (by decide : 1 < 2)).1 b
  omega
theorem mkR_dy {u : Nat} {D : Int} {J : Nat} (h0 : 0 < u) (hu : u < 4503599627370496) (hD : -1074 ≤ D) (hJ : J = (D + 1074).toNat) (h1 : 53 ≤ J) (h2 : J ≤ 2000) : mag (mkR u D) = u * 2 ^ J ∧ mkR u D < INF ∧ 4503599627370496 ≤ mkR u D := by
  obtain ⟨m1, m2⟩ := mag_rungOf (k := u) (e := J) (by omega) (small_lt_inf u J (by omega) (by omega))
  rw [hJ, ← mkR_mag (show u ≠ 0 by omega) hD, ← hJ] at m1
  rw [hJ, ← mkR_mag (show u ≠ 0 by omega) hD] at m2
  refine ⟨m1, m2, ?_⟩
  refine Nat.le_of_not_lt fun h => ?_
  have e : mag (mkR u D) = mkR u D := by unfold mag; rw [if_pos h]
  rw [e] at m1
  have h3 : 2 ^ 53 ≤ 2 ^ J := Nat.pow_le_pow_right (by decide) h1
  have h4 := Nat.le_mul_of_pos_left (2 ^ J) h0
  rw [show 2 ^ 53 = 9007199254740992 by decide] at h3
  omega
/-- Twice a usual number. -/
theorem mul_two {z : Nat} (h1 : 4503599627370496 ≤ rung z) (h2 : rung z + 4503599627370496 < INF) : Ieee.double.mul 4611686018427387904 z = some (Ieee.double.word (sgn z) (rung z + 4503599627370496)) := by
  have e1 : Ieee.double.read 4611686018427387904 = .number false 4503599627370496 (-51) := by rw [read_eq]; decide
  obtain ⟨m, p, e2, p0, e3⟩ := read_fin (show rung z < INF by omega)
  have hm0 : m ≠ 0 := by
    intro h; subst h
    rw [Nat.zero_mul] at e3
    have := mag_pos (show 0 < rung z by omega)
    omega
  unfold Ieee.Format.mul
  rw [e1, e2]
  simp only [Ieee.Datum.product, Option.map_some, Ieee.Format.write]
  rw [nearest_mk _ (by omega), Nat.mul_comm, show 4503599627370496 = 2 ^ 52 by decide, mkR_scale (by omega), show (-51 : Int) + p + (52 : Nat) = p + 1 by omega, mkR_mag hm0 (by omega), show (p + 1 + 1074).toNat = (p + 1074).toNat + 1 by omega, Nat.pow_succ, ← Nat.mul_assoc, e3, Bool.false_xor]
  have e4 : mag (rung z) * 2 = mag (rung z + 4503599627370496) := by
    rw [mag_big h1, mag_big (by omega), show (rung z + 4503599627370496) % 4503599627370496 = rung z % 4503599627370496 by omega, show (rung z + 4503599627370496) / 4503599627370496 - 1 = rung z / 4503599627370496 - 1 + 1 by omega, Nat.pow_succ, Nat.mul_assoc]
  rw [e4, rungOf_mag (by omega)]
theorem neg_any (s : Bool) (R : Nat) (h : R < 9223372036854775808) : Op.negFloat .f64 (Ieee.double.word s R) = Ieee.double.word (!s) R := by
  rw [word_eq, word_eq]
  cases s
  · rw [show (if false = true then 9223372036854775808 + R else R) = R from rfl, neg_word R h]
    show R + 9223372036854775808 = 9223372036854775808 + R
    omega
  · show Op.negFloat .f64 (9223372036854775808 + R) = R
    have e := neg_word R h
    have e2 : Op.negFloat .f64 R = R ^^^ 9223372036854775808 := rfl
    have e3 : Op.negFloat .f64 (9223372036854775808 + R) = (9223372036854775808 + R) ^^^ 9223372036854775808 := rfl
    rw [e2] at e
    rw [e3, Nat.add_comm, ← e, Nat.xor_assoc, Nat.xor_self, Nat.xor_zero]
theorem conv_if64 (n : Int) (z : Nat) (h : FloatKind.f64.nearest n = z) (w : World) : (convert 2 22 (.int .i64 n)).run Tryd.prog w = .ok (.float .f64 z) w := by
  have h2 := run_convert_int_float (P := Tryd.prog) w 2 22 .i64 .f64 n (by kernel_rfl) Tryd.underlying22
  rw [show floatOfInt .f64 n = z from h] at h2
  exact h2
theorem word_mant (s : Bool) {R : Nat} (h1 : 4503599627370496 ≤ R) (h2 : R < INF) : mant (Ieee.double.word s R) = 4503599627370496 + R % 4503599627370496 ∧ expE (Ieee.double.word s R) = ((R / 4503599627370496 : Nat) : Int) - 1075 := by
  have hr : rung (Ieee.double.word s R) = R := rung_word s (by have : INF = 9218868437227405312 := rfl; omega)
  unfold mant expE
  rw [hr, if_neg (by omega), if_neg (by omega)]
  exact ⟨rfl, rfl⟩
theorem pw_core (s : Bool) (u : Nat) (D : Int) (h0 : 0 < u) (hu : u < 4503599627370496) (ho : u % 2 = 1) (hD1 : -950 ≤ D) (hD2 : D ≤ 849) : ∃ (R z : Nat), mkR u D = R ∧ 4503599627370496 ≤ R ∧ R + 4503599627370496 < INF ∧
    4503599627370496 + R % 4503599627370496 = u * 2 ^ z ∧ ((R / 4503599627370496 : Nat) : Int) - 1075 + (z : Int) = D ∧
    (∀ w : World, Calls Tryd.prog 84 #[.float .f64 (Ieee.double.word s (mkR u 0)), .int .i64 D] w fun e w' => e = .returned (.float .f64 (Ieee.double.word s R)) ∧ w' = w) := by
  have hp : INF = 9218868437227405312 := rfl
  obtain ⟨J, hJ⟩ : ∃ J : Nat, J = (D + 1074).toNat := ⟨_, rfl⟩
  obtain ⟨m1, m2, m3⟩ := mkR_dy h0 hu (show -1074 ≤ D by omega) hJ (by omega) (by omega)
  obtain ⟨K, hK⟩ : ∃ K : Nat, K = ((0 : Int) + 1074).toNat := ⟨_, rfl⟩
  have hK2 : K = 1074 := by omega
  obtain ⟨n1, n2, n3⟩ := mkR_dy (D := 0) h0 hu (by decide) hK (by omega) (by omega)
  obtain ⟨z, z1, z2⟩ := usual_parts m3 m1 ho
  obtain ⟨y, y1, y2⟩ := usual_parts n3 n1 ho
  have b1 := usual_expo m3 m1 h0 hu
  have b2 := usual_expo n3 n1 h0 hu
  obtain ⟨R, hR⟩ : ∃ R, mkR u D = R := ⟨_, rfl⟩
  obtain ⟨A, hA⟩ : ∃ A, mkR u 0 = A := ⟨_, rfl⟩
  rw [hR] at m1 m2 m3 z1 z2 b1
  rw [hA] at n1 n2 n3 y1 y2 b2
  refine ⟨R, z, hR, m3, by omega, z1, by omega, fun w => ?_⟩
  rw [hA]
  have hr : rung (Ieee.double.word s A) = A := rung_word s (by omega)
  have hs : sgn (Ieee.double.word s A) = s := sgn_word s (by omega)
  have h := ldexpU_any (Ieee.double.word s A) (word_lt s (by omega)) (by omega) (by omega) D (by rw [hr]; omega) (by rw [hr]; omega) w
  have hB : (D + ((A / 4503599627370496 : Nat) : Int)).toNat * 4503599627370496 + A % 4503599627370496 = R := by
    obtain ⟨E, hE⟩ : ∃ E : Nat, E = (D + ((A / 4503599627370496 : Nat) : Int)).toNat := ⟨_, rfl⟩
    rw [← hE]
    apply mag_inj
    rw [mag_big (by omega), m1, show (E * 4503599627370496 + A % 4503599627370496) % 4503599627370496 = A % 4503599627370496 by omega, show (E * 4503599627370496 + A % 4503599627370496) / 4503599627370496 = E by omega, y1, Nat.mul_assoc, ← Nat.pow_add, show y + (E - 1) = J by omega]
  rw [hs, hr, hB] at h
  rw [word_eq s R]
  have e : (if s then 9223372036854775808 else 0) + R = if s then 9223372036854775808 + R else R := by split <;> omega
  rw [e] at h
  exact h

theorem ord_selfg {x : Nat} (h : isn x = false) : (FloatKind.f64.format.order x x == some .eq) = true := by
  have a : (FloatKind.f64.format.order x x == some .eq) = (!isn x && !isn x && decide (sr x = sr x)) := eq_eq x x
  rw [a, h]; simp
set_option maxRecDepth 100000 in
set_option maxHeartbeats 1000000 in
theorem fltPowers_any (w : World) (hT : TabC w) (m e : Int) (hm1 : -9223372036854775808 ≤ m) (hm2 : m ≤ 9223372036854775807) : Calls Tryd.prog 17 #[.int .i64 m, .int .i64 e] w fun r w' => r = .returned (.bool true) ∧ St w w' [] := by
  have H := St.start w
  have hT2 : ∀ {w' : World} {L : List Ent}, St w w' L → TabC w' := fun h i hi => cell_mono (hT i hi) h.below
  have hp9 : INF = 9218868437227405312 := rfl
  obtain ⟨D, hD, hD1, hD2⟩ : ∃ D : Int, e % 1800 - 950 = D ∧ -950 ≤ D ∧ D ≤ 849 := ⟨_, rfl, by omega, by omega⟩
  obtain ⟨x0, hx0⟩ : ∃ x0 : Int, m / 4096 = x0 := ⟨_, rfl⟩
  have hor := or_one x0 (by omega) (by omega)
  obtain ⟨M, hM⟩ : ∃ M : Int, 2 * (x0 / 2) + 1 = M := ⟨_, rfl⟩
  rw [hM] at hor
  have hM0 : M ≠ 0 := by omega
  have hM1 : -2251799813685249 ≤ M := by omega
  have hM2 : M ≤ 2251799813685249 := by omega
  have hMo : M % 2 = 1 := by omega
  clear hM
  by_cases hn : M < 0
  · obtain ⟨u, hu⟩ : ∃ u : Nat, M = -(u : Int) := ⟨M.natAbs, by omega⟩
    subst hu
    obtain ⟨R, z, hR, r1, r2, r3, r4, hld⟩ := pw_core true u D (by omega) (by omega) (by omega) hD1 hD2
    have hRl : R < 9223372036854775808 := by omega
    have hRl2 : R + 4503599627370496 < 9223372036854775808 := by omega
    obtain ⟨X, hX⟩ : ∃ X, X = Ieee.double.word true R := ⟨_, rfl⟩
    have hxr : rung X = R := by rw [hX]; exact rung_word _ hRl
    have hxs : sgn X = true := by rw [hX]; exact sgn_word _ hRl
    have hxl : X < 18446744073709551616 := by rw [hX]; exact word_lt _ hRl
    obtain ⟨wm, we⟩ := word_mant true r1 (show R < INF by omega)
    rw [← hX] at wm we hld
    have hng := neg_any true R hRl
    rw [show (!true) = false from rfl, ← hX] at hng
    have hmk : mkW (-(u : Int)) D = X := by unfold mkW; rw [if_neg (by omega), decide_eq_true (by omega), show (-(u : Int)).natAbs = u by omega, hR, hX]
    obtain ⟨Z, hZ⟩ : ∃ Z, Z = Ieee.double.word false R := ⟨_, rfl⟩
    rw [← hZ] at hng
    have hmn : mkW ((u : Int)) D = Z := by unfold mkW; rw [if_neg (by omega), decide_eq_false (by omega), show ((u : Int)).natAbs = u by omega, hR, hZ]
    obtain ⟨R2, hR2⟩ : ∃ R2, R2 = R + 4503599627370496 := ⟨_, rfl⟩
    rw [← hR2] at r2 hRl2
    obtain ⟨Y, hY⟩ : ∃ Y, Y = Ieee.double.word true R2 := ⟨_, rfl⟩
    have hyr : rung Y = R2 := by rw [hY]; exact rung_word _ hRl2
    have hys : sgn Y = true := by rw [hY]; exact sgn_word _ hRl2
    have hyl : Y < 18446744073709551616 := by rw [hY]; exact word_lt _ hRl2
    obtain ⟨vm, ve⟩ := word_mant true (show 4503599627370496 ≤ R2 by omega) r2
    rw [← hY] at vm ve
    have hm := mul_two (z := X) (by rw [hxr]; exact r1) (by rw [hxr, ← hR2]; exact r2)
    rw [hxr, hxs, ← hR2, ← hY] at hm
    have e1 : R2 % 4503599627370496 = R % 4503599627370496 := by omega
    have e2 : ((R2 / 4503599627370496 : Nat) : Int) - 1075 + (z : Int) = D + 1 := by omega
    have hp1 := fun w hT => parts_any X hxl (by rw [hxr]; omega) (by rw [hxr]; omega) u z (by omega) (wm.trans r3) w hT
    have hp2 := fun w hT => parts_any Y hyl (by rw [hyr]; exact r2) (by rw [hyr]; omega) u z (by omega) (vm.trans (by rw [e1]; exact r3)) w hT
    rw [hxs, we, r4, show sg true u = -(u : Int) from rfl] at hp1
    rw [hys, ve, e2, show sg true u = -(u : Int) from rfl] at hp2
    obtain ⟨A0, hA0⟩ : ∃ A0, A0 = Ieee.double.word true (mkR u 0) := ⟨_, rfl⟩
    rw [← hA0] at hld
    have hcv : FloatKind.f64.nearest (-(u : Int)) = A0 := by rw [hA0]; show Ieee.double.nearest (decide (-(u : Int) < 0)) (-(u : Int)).natAbs 0 = _; rw [decide_eq_true (by omega), show (-(u : Int)).natAbs = u by omega, nearest_mk _ (by omega)]
    have hc := conv_if64 (-(u : Int)) A0 hcv
    have hmul : ∀ w : World, (binOp .mul 22 (.float .f64 4611686018427387904) (.float .f64 X)).run Tryd.prog w = .ok (.float .f64 Y) w := fun w => run_float_arith w .mul 22 .f64 4611686018427387904 X Y hm
    have hneg : ∀ w : World, (Op.unary UnOp.neg (.float .f64 X)).run Tryd.prog w = .ok (.float .f64 Z) w := fun w => by rw [← hng]; rfl
    have hkd := kind_any X hxl
    have hni : isn X = false := decide_eq_false (by rw [hxr]; omega)
    have k1 : kindN X = 5 := by unfold kindN; rw [hxr, if_neg (by omega), if_neg (by omega), if_neg (by omega), if_neg (by omega)]
    have k2 : kindS X = true := by unfold kindS; rw [hxs, hni]; rfl
    rw [k1, k2] at hkd
    have y1 := ord_selfg hni
    have mk1 := fun (w0 w : World) (L : List Ent) (H : St w0 w L) => make_isg hmk w0 w L H (by omega) (by omega)
    have mk2 := fun (w0 w : World) (L : List Ent) (H : St w0 w L) => make_isg hmn w0 w L H (by omega) (by omega)
    have y2 : (FloatKind.f64.format.order X X != some .eq) = false := by unfold bne; rw [y1]; rfl
    have y3 := sameW_self Z
    have y4 : decide (-(u : Int) < 0) = true := decide_eq_true (by omega)
    have y5 : wrap64 ((u : Int)) = (u : Int) := hw64 _ (by omega) (by omega)
    have hl := ldexp_any A0 D X hld
    clear hX hY hZ hA0 hng hcv hmn hmk hm wm we vm ve hxr hxs hxl hyr hys hyl r1 r2 r3 r4 hR hld hRl hRl2 e1 e2 k1 k2 hni hR2
    replace hor : bits .or .i64 x0 1 = -(u : Int) := hor
    clear hM1 hM2 hM0 hMo
    go_enter Tryd.func17, Tryd.ntmps17
    go_wp2_with (first | (go_at_call 31; refine (first3_any _ _ _ hT H).mono ?_; rintro e_ w_ ⟨rfl, HN⟩; clear H; have H := HN; clear HN) | (go_at_call 28; refine (numberq_any e 1800 _ (by decide) (by decide)).mono ?_; rintro e_ w_ ⟨rfl, rfl⟩; ) | (go_at_call 64; (with_reducible refine (mk1 _ _ _ H).mono ?_); rintro e_ w_ ⟨rfl, HN⟩; clear H; have H := HN; clear HN) | (go_at_call 64; (with_reducible refine (mk2 _ _ _ H).mono ?_); rintro e_ w_ ⟨rfl, HN⟩; clear H; have H := HN; clear HN) | (go_at_call 29; (with_reducible refine (hl _).mono ?_); rintro e_ w_ ⟨rfl, rfl⟩; ) | (go_at_call 62; (with_reducible refine (hp1 _ (hT2 H)).mono ?_); rintro e_ w_ ⟨rfl, rfl⟩; ) | (go_at_call 62; (with_reducible refine (hp2 _ (hT2 H)).mono ?_); rintro e_ w_ ⟨rfl, rfl⟩; ) | (go_at_call 40; (with_reducible refine (hkd _).mono ?_); rintro e_ w_ ⟨rfl, rfl⟩; ) | (go_at_call 37; (with_reducible refine (same_any Z Z _).mono ?_); rintro e_ w_ ⟨rfl, rfl⟩; ))
    (go_ret; exact ⟨by first | rfl | (simp; done), H⟩)
  · obtain ⟨u, hu⟩ : ∃ u : Nat, M = (u : Int) := ⟨M.natAbs, by omega⟩
    subst hu
    obtain ⟨R, z, hR, r1, r2, r3, r4, hld⟩ := pw_core false u D (by omega) (by omega) (by omega) hD1 hD2
    have hRl : R < 9223372036854775808 := by omega
    have hRl2 : R + 4503599627370496 < 9223372036854775808 := by omega
    obtain ⟨X, hX⟩ : ∃ X, X = Ieee.double.word false R := ⟨_, rfl⟩
    have hxr : rung X = R := by rw [hX]; exact rung_word _ hRl
    have hxs : sgn X = false := by rw [hX]; exact sgn_word _ hRl
    have hxl : X < 18446744073709551616 := by rw [hX]; exact word_lt _ hRl
    obtain ⟨wm, we⟩ := word_mant false r1 (show R < INF by omega)
    rw [← hX] at wm we hld
    have hng := neg_any false R hRl
    rw [show (!false) = true from rfl, ← hX] at hng
    have hmk : mkW ((u : Int)) D = X := by unfold mkW; rw [if_neg (by omega), decide_eq_false (by omega), show ((u : Int)).natAbs = u by omega, hR, hX]
    obtain ⟨Z, hZ⟩ : ∃ Z, Z = Ieee.double.word true R := ⟨_, rfl⟩
    rw [← hZ] at hng
    have hmn : mkW (-(u : Int)) D = Z := by unfold mkW; rw [if_neg (by omega), decide_eq_true (by omega), show (-(u : Int)).natAbs = u by omega, hR, hZ]
    obtain ⟨R2, hR2⟩ : ∃ R2, R2 = R + 4503599627370496 := ⟨_, rfl⟩
    rw [← hR2] at r2 hRl2
    obtain ⟨Y, hY⟩ : ∃ Y, Y = Ieee.double.word false R2 := ⟨_, rfl⟩
    have hyr : rung Y = R2 := by rw [hY]; exact rung_word _ hRl2
    have hys : sgn Y = false := by rw [hY]; exact sgn_word _ hRl2
    have hyl : Y < 18446744073709551616 := by rw [hY]; exact word_lt _ hRl2
    obtain ⟨vm, ve⟩ := word_mant false (show 4503599627370496 ≤ R2 by omega) r2
    rw [← hY] at vm ve
    have hm := mul_two (z := X) (by rw [hxr]; exact r1) (by rw [hxr, ← hR2]; exact r2)
    rw [hxr, hxs, ← hR2, ← hY] at hm
    have e1 : R2 % 4503599627370496 = R % 4503599627370496 := by omega
    have e2 : ((R2 / 4503599627370496 : Nat) : Int) - 1075 + (z : Int) = D + 1 := by omega
    have hp1 := fun w hT => parts_any X hxl (by rw [hxr]; omega) (by rw [hxr]; omega) u z (by omega) (wm.trans r3) w hT
    have hp2 := fun w hT => parts_any Y hyl (by rw [hyr]; exact r2) (by rw [hyr]; omega) u z (by omega) (vm.trans (by rw [e1]; exact r3)) w hT
    rw [hxs, we, r4, show sg false u = (u : Int) from rfl] at hp1
    rw [hys, ve, e2, show sg false u = (u : Int) from rfl] at hp2
    obtain ⟨A0, hA0⟩ : ∃ A0, A0 = Ieee.double.word false (mkR u 0) := ⟨_, rfl⟩
    rw [← hA0] at hld
    have hcv : FloatKind.f64.nearest ((u : Int)) = A0 := by rw [hA0]; show Ieee.double.nearest (decide ((u : Int) < 0)) ((u : Int)).natAbs 0 = _; rw [decide_eq_false (by omega), show ((u : Int)).natAbs = u by omega, nearest_mk _ (by omega)]
    have hc := conv_if64 ((u : Int)) A0 hcv
    have hmul : ∀ w : World, (binOp .mul 22 (.float .f64 4611686018427387904) (.float .f64 X)).run Tryd.prog w = .ok (.float .f64 Y) w := fun w => run_float_arith w .mul 22 .f64 4611686018427387904 X Y hm
    have hneg : ∀ w : World, (Op.unary UnOp.neg (.float .f64 X)).run Tryd.prog w = .ok (.float .f64 Z) w := fun w => by rw [← hng]; rfl
    have hkd := kind_any X hxl
    have hni : isn X = false := decide_eq_false (by rw [hxr]; omega)
    have k1 : kindN X = 5 := by unfold kindN; rw [hxr, if_neg (by omega), if_neg (by omega), if_neg (by omega), if_neg (by omega)]
    have k2 : kindS X = false := by unfold kindS; rw [hxs, hni]; rfl
    rw [k1, k2] at hkd
    have y1 := ord_selfg hni
    have mk1 := fun (w0 w : World) (L : List Ent) (H : St w0 w L) => make_isg hmk w0 w L H (by omega) (by omega)
    have mk2 := fun (w0 w : World) (L : List Ent) (H : St w0 w L) => make_isg hmn w0 w L H (by omega) (by omega)
    have y2 : (FloatKind.f64.format.order X X != some .eq) = false := by unfold bne; rw [y1]; rfl
    have y3 := sameW_self Z
    have y4 : decide ((u : Int) < 0) = false := decide_eq_false (by omega)
    have y5 : wrap64 (-(u : Int)) = -(u : Int) := hw64 _ (by omega) (by omega)
    have hl := ldexp_any A0 D X hld
    clear hX hY hZ hA0 hng hcv hmn hmk hm wm we vm ve hxr hxs hxl hyr hys hyl r1 r2 r3 r4 hR hld hRl hRl2 e1 e2 k1 k2 hni hR2
    replace hor : bits .or .i64 x0 1 = (u : Int) := hor
    clear hM1 hM2 hM0 hMo
    go_enter Tryd.func17, Tryd.ntmps17
    go_wp2_with (first | (go_at_call 31; refine (first3_any _ _ _ hT H).mono ?_; rintro e_ w_ ⟨rfl, HN⟩; clear H; have H := HN; clear HN) | (go_at_call 28; refine (numberq_any e 1800 _ (by decide) (by decide)).mono ?_; rintro e_ w_ ⟨rfl, rfl⟩; ) | (go_at_call 64; (with_reducible refine (mk1 _ _ _ H).mono ?_); rintro e_ w_ ⟨rfl, HN⟩; clear H; have H := HN; clear HN) | (go_at_call 64; (with_reducible refine (mk2 _ _ _ H).mono ?_); rintro e_ w_ ⟨rfl, HN⟩; clear H; have H := HN; clear HN) | (go_at_call 29; (with_reducible refine (hl _).mono ?_); rintro e_ w_ ⟨rfl, rfl⟩; ) | (go_at_call 62; (with_reducible refine (hp1 _ (hT2 H)).mono ?_); rintro e_ w_ ⟨rfl, rfl⟩; ) | (go_at_call 62; (with_reducible refine (hp2 _ (hT2 H)).mono ?_); rintro e_ w_ ⟨rfl, rfl⟩; ) | (go_at_call 40; (with_reducible refine (hkd _).mono ?_); rintro e_ w_ ⟨rfl, rfl⟩; ) | (go_at_call 37; (with_reducible refine (same_any Z Z _).mono ?_); rintro e_ w_ ⟨rfl, rfl⟩; ))
    (go_ret; exact ⟨by first | rfl | (simp; done), H⟩)
end Go.Proofs.YtcpfangcibilaaaDoor
