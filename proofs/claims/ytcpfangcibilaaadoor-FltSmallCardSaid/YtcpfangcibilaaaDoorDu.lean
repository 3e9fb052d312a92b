/- FltSmall, walked. No condition but the table's cells. -/
import Derived.Test.YtcpfangcibilaaaDoorDt
namespace Go.Proofs.YtcpfangcibilaaaDoor
set_option linter.unusedVariables false
set_option linter.unusedSimpArgs false
open Go.RowKit

theorem ord_self {x : Nat} (h : isn x = false) : (FloatKind.f64.format.order x x == some .eq) = true := by
  have a : (FloatKind.f64.format.order x x == some .eq) = (!isn x && !isn x && decide (sr x = sr x)) := eq_eq x x
  rw [a, h]; simp
theorem make_is {m e : Int} {r : Nat} (h : mkW m e = r) (w0 w : World) (L : List Ent) (H : St w0 w L) (h1 : -9223372036854775808 ≤ m) (h2 : m ≤ 9223372036854775807) : Calls Tryd.prog 64 #[.int .i64 m, .int .i64 e] w fun e w' => e = .returned (.float .f64 r) ∧ St w0 w' L := by
  have := make_any w0 w L H m e h1 h2
  rw [h] at this
  exact this
theorem mkW_small (n : Nat) (h0 : 0 < n) (hn : n < 4503599627370496) : mkW (n : Int) (-1074) = n := by
  unfold mkW
  rw [if_neg (by omega), decide_eq_false (by omega), Int.natAbs_natCast, mkR_mag (by omega) (by decide), word_eq, if_neg (by decide), show ((-1074 : Int) + 1074).toNat = 0 by decide, Nat.pow_zero, Nat.mul_one]
  have hp : INF = 9218868437227405312 := rfl
  unfold rungOf
  rw [if_pos hn]
  omega
theorem half_least : mkW 1 (-1075) = 0 := by decide +kernel
theorem half_third : mkW 3 (-1075) = 2 := by decide +kernel
theorem twice_least : Ieee.double.mul 4611686018427387904 1 = some 2 := by decide +kernel
theorem small_less {N : Nat} (h0 : 0 < N) (hN : N < 4503599627370496) : lessW 0 N = true := by
  have hp : INF = 9218868437227405312 := rfl
  have hr : rung N = N := Nat.mod_eq_of_lt (by omega)
  have hs : sgn N = false := by
    unfold sgn
    have : N / 9223372036854775808 % 2 = 0 := by omega
    rw [this]; rfl
  have h1 : isn N = false := decide_eq_false (by omega)
  unfold lessW rk
  rw [h1, hs, hr, show isn 0 = false by decide, show sgn 0 = false by decide, show rung 0 = 0 by decide]
  simp; omega
theorem up_half (N c k : Nat) (h : N = c * 2 ^ k) (he : c % 2 = 0) : N = (c / 2) * 2 ^ (k + 1) := by
  rw [h, Nat.pow_succ]
  have h5 : c = 2 * (c / 2) := by omega
  conv => lhs; rw [h5]
  generalize 2 ^ k = g
  rw [Nat.mul_comm 2, Nat.mul_assoc, Nat.mul_comm 2 g]
theorem pow_le64 (N c k : Nat) (h : N = c * 2 ^ k) (hc : 0 < c) (hN : N < 4503599627370496) : k ≤ 51 := by
  refine Nat.le_of_not_lt fun h3 => ?_
  have h4 : 2 ^ 52 ≤ 2 ^ k := Nat.pow_le_pow_right (by decide) h3
  have h5 := Nat.le_mul_of_pos_left (2 ^ k) hc
  rw [show 2 ^ 52 = 4503599627370496 by decide] at h4
  omega
set_option maxRecDepth 100000 in
set_option maxHeartbeats 1000000 in
theorem fltSmall_any (w : World) (hT : TabC w) (n : Int) : Calls Tryd.prog 15 #[.int .i64 n] w fun r w' => r = .returned (.bool true) ∧ St w w' [] := by
  have H := St.start w
  have hT2 : ∀ {w' : World} {L : List Ent}, St w w' L → TabC w' := fun h i hi => cell_mono (hT i hi) h.below
  have hp9 : INF = 9218868437227405312 := rfl
  obtain ⟨N, hn1, h0, hN⟩ : ∃ N : Nat, n % 1125899906842624 + 1 = (N : Int) ∧ 0 < N ∧ N ≤ 1125899906842624 := ⟨(n % 1125899906842624 + 1).toNat, by omega, by omega, by omega⟩
  have hr : rung N = N := Nat.mod_eq_of_lt (by omega)
  have hs : sgn N = false := by
    unfold sgn
    have : N / 9223372036854775808 % 2 = 0 := by omega
    rw [this]; rfl
  have hni : isn N = false := decide_eq_false (by omega)
  have hx : N < 18446744073709551616 := by omega
  have hk1 : kindN N = 4 := by unfold kindN; rw [hr, if_neg (by omega), if_neg (by omega), if_neg (by omega), if_pos (by omega)]
  have hk2 : kindS N = false := by unfold kindS; rw [hs]; simp
  have hkd := kind_any N hx
  rw [hk1, hk2] at hkd
  have hmn : mant N = N := by unfold mant; rw [if_pos (by omega), hr]
  have hex : expE N = -1074 := by unfold expE; rw [if_pos (by omega)]
  obtain ⟨q, z, hq, hm⟩ := odd_of N h0 (by omega)
  have hpt := fun w hT => parts_any N hx (by omega) (by omega) q z hq (hmn.trans hm) w hT
  rw [hs, hex, show sg false q = (q : Int) from rfl, show (-1074 : Int) + (z : Int) = (z : Int) - 1074 by omega] at hpt
  have hm1 := mkW_small N h0 (by omega)
  have hm2 := half_least
  have hm3 := half_third
  have mk1 : ∀ (w0 w : World) (L : List Ent) (H : St w0 w L), Calls Tryd.prog 64 #[.int .i64 ((N : Int)), .int .i64 (-1074)] w fun r w' => r = .returned (.float .f64 N) ∧ St w0 w' L := fun w0 w L H => make_is hm1 w0 w L H (by omega) (by omega)
  have mk2 : ∀ (w0 w : World) (L : List Ent) (H : St w0 w L), Calls Tryd.prog 64 #[.int .i64 (1), .int .i64 (-1075)] w fun r w' => r = .returned (.float .f64 0) ∧ St w0 w' L := fun w0 w L H => make_is hm2 w0 w L H (by omega) (by omega)
  have mk3 : ∀ (w0 w : World) (L : List Ent) (H : St w0 w L), Calls Tryd.prog 64 #[.int .i64 (3), .int .i64 (-1075)] w fun r w' => r = .returned (.float .f64 2) ∧ St w0 w' L := fun w0 w L H => make_is hm3 w0 w L H (by omega) (by omega)
  have hmul : ∀ w : World, (binOp .mul 22 (.float .f64 4611686018427387904) (.float .f64 1)).run Tryd.prog w = .ok (.float .f64 2) w := fun w => run_float_arith w .mul 22 .f64 4611686018427387904 1 2 twice_least
  have hfr := (show ∀ w : World, (callFunc 66 #[.int .u64 ((N : Int))]).run Tryd.prog w = .ok (.value (.float .f64 (N))) w from ffrom_run (N))
  have hfr1 := (show ∀ w : World, (callFunc 66 #[.int .u64 (1)]).run Tryd.prog w = .ok (.value (.float .f64 (1))) w from ffrom_run (1))
  have y1 := ord_self hni
  have y2 : (FloatKind.f64.format.order 0 0 == some .eq) = true := ord_self (by decide)
  have y3 : (FloatKind.f64.format.order 2 2 == some .eq) = true := ord_self (by decide)
  have y4 := small_less h0 (show N < 4503599627370496 by omega)
  have hrd : roundW N = 0 := by rw [roundW_small (by rw [hr]; omega), hs]; rfl
  have zc : IntKind.u64.wrap (N : Int) = (N : Int) := by rw [IntKind.wrap_u64]; omega
  have hlz := less_any 0 N (by decide) hx
  rw [y4] at hlz
  have hN2 : N < 4503599627370496 := by omega
  replace hm := Aside.mk hm
  clear hk1 hk2 hmn hex hm1 hm2 hm3 hr hs y4 hp9 hN
  go_enter Tryd.func15, Tryd.ntmps15
  go_wp2_with (first | (go_at_call 31; refine (first3_any _ _ _ hT H).mono ?_; rintro e_ w_ ⟨rfl, HN⟩; clear H; have H := HN; clear HN) | (go_at_call 28; refine (numberq_any n 1125899906842624 _ (by decide) (by decide)).mono ?_; rintro e_ w_ ⟨rfl, rfl⟩; ) | (go_at_call 40; refine (hkd _).mono ?_; rintro e_ w_ ⟨rfl, rfl⟩; ) | (go_at_call 62; refine (hpt _ (hT2 H)).mono ?_; rintro e_ w_ ⟨rfl, rfl⟩; ))
  go_loopw [11, 12] (fun a b w2 => ∃ c k : Nat, a = .int .i64 c ∧ b = .int .i64 k ∧ 0 < c ∧ c < 4503599627370496 ∧ k ≤ 51 ∧ Aside (N = c * 2 ^ k) ∧ w2 = w_) (fun a _ _ => (intOf a).toNat)
  case atStart => exact ⟨N, 0, rfl, rfl, h0, hN2, by omega, ⟨by simp⟩, rfl⟩
  case round =>
    obtain ⟨c, k, rfl, rfl, hc, hcl, hk, hck, rfl⟩ := hrel
    by_cases he : c % 2 = 0
    · have z1 : ((c : Int).tmod 2 == 0) = true := by rw [beq_iff_eq, Int.tmod_eq_emod_of_nonneg (by omega)]; omega
      have z2 : (c : Int).tdiv 2 = ((c / 2 : Nat) : Int) := by rw [Int.tdiv_eq_ediv_of_nonneg (by omega)]; omega
      have hck2 := Aside.mk (up_half N c k hck.out he)
      have hk2 := pow_le64 N (c / 2) (k + 1) hck2.out (by omega) hN2
      clear hck hm
      go_wp2
      go_roundw
      case rel => exact ⟨c / 2, k + 1, by go_num, by go_num, by omega, by omega, hk2, hck2, by first | trivial | rfl⟩
      case measure => simp [intOf]; omega
    · have z1 : ((c : Int).tmod 2 == 0) = false := by rw [beq_eq_false_iff_ne, Int.tmod_eq_emod_of_nonneg (by omega)]; omega
      obtain ⟨rfl, rfl⟩ := odd_split (show c % 2 = 1 by omega) hq (hck.out.symm.trans hm.out)
      clear hck hm he
      go_wp2_with (first | (go_at_call 64; (with_reducible refine (mk1 _ _ _ H).mono ?_); rintro e_ w_ ⟨rfl, HN⟩; clear H; have H := HN; clear HN) | (go_at_call 64; (with_reducible refine (mk2 _ _ _ H).mono ?_); rintro e_ w_ ⟨rfl, HN⟩; clear H; have H := HN; clear HN) | (go_at_call 64; (with_reducible refine (mk3 _ _ _ H).mono ?_); rintro e_ w_ ⟨rfl, HN⟩; clear H; have H := HN; clear HN) | (go_at_call 43; (with_reducible refine (hlz _).mono ?_); rintro e_ w_ ⟨rfl, rfl⟩; ) | (go_at_call 32; refine (round_any _ _ _ N hx H).mono ?_; rintro e_ w_ ⟨y, rfl, hy, HN⟩; clear H; have H := HN; clear HN; obtain rfl : y = 0 := ((show _ ∧ _ ∧ _ from hy).2.2 hni).trans hrd; clear hy))
      (go_ret; exact ⟨by first | rfl | (simp; done), H⟩)
end Go.Proofs.YtcpfangcibilaaaDoor
