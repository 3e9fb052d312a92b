/- The document's Make, walked. No condition. -/
import Derived.Test.YtcpfangcibilaaaDoorDr
namespace Go.Proofs.YtcpfangcibilaaaDoor
set_option linter.unusedVariables false
set_option linter.unusedSimpArgs false
open Go.RowKit

theorem or_zero (x : Nat) (hx : x < 9223372036854775808) : bits .or .u64 0 (x : Int) = (x : Int) := by
  have h := (bits_nat .u64 64 (by decide) (fun n h0 h1 => by rw [IntKind.wrap_u64]; omega) 0 x (by decide) (by omega)).2
  rw [Nat.zero_or] at h
  exact h
theorem or_top (x : Nat) (hx : x < 9223372036854775808) : bits .or .u64 9223372036854775808 (x : Int) = 9223372036854775808 + (x : Int) := by
  have h := (bits_nat .u64 64 (by decide) (fun n h0 h1 => by rw [IntKind.wrap_u64]; omega) 9223372036854775808 x (by decide) (by omega)).2
  rw [nat_join 63 9223372036854775808 x (by decide) hx] at h
  rw [show ((9223372036854775808 : Nat) : Int) = 9223372036854775808 from rfl] at h
  rw [h]; omega
/-- The digits of a full word. -/
theorem mk_parts (U k : Nat) (h1 : 9223372036854775808 ≤ U) (h2 : U < 18446744073709551616) (hk : k ≤ 53) : ∃ Q r : Nat, (0 < k → ∀ j : Nat, j = 64 - k → (U : Int) / 2 ^ j = (Q : Int)) ∧ (∀ j : Nat, j = k → IntKind.u64.wrap ((U : Int) * 2 ^ j) = (r : Int)) ∧
    rne U (64 - k) = (if 9223372036854775808 < r ∨ r = 9223372036854775808 ∧ Q % 2 = 1 then Q + 1 else Q) ∧ Q < 9007199254740992 ∧ (k = 53 → 4503599627370496 ≤ Q) ∧ (k = 0 → Q = 0) ∧ (k ≤ 52 → Q < 4503599627370496) := by
  obtain ⟨g, hg⟩ : ∃ g : Nat, g = 2 ^ (64 - k) := ⟨_, rfl⟩
  obtain ⟨c, hc⟩ : ∃ c : Nat, c = 2 ^ k := ⟨_, rfl⟩
  have hgc : g * c = 18446744073709551616 := by
    rw [hg, hc, ← Nat.pow_add, show 64 - k + k = 64 by omega]
  have hg2 : ∃ f, g = 2 * f := ⟨2 ^ (63 - k), by rw [hg, show 64 - k = 63 - k + 1 by omega, Nat.pow_succ, Nat.mul_comm]⟩
  obtain ⟨f, hf⟩ := hg2
  have hfc : f * c = 9223372036854775808 := by
    have : 2 * (f * c) = 18446744073709551616 := by rw [← Nat.mul_assoc, ← hf]; exact hgc
    omega
  have hc0 : 0 < c := by rw [hc]; exact Nat.two_pow_pos k
  have hdm := Nat.div_add_mod U g
  have hml := Nat.mod_lt U (show 0 < g by rw [hg]; exact Nat.two_pow_pos _)
  have hr : U * c % 18446744073709551616 = (U % g) * c := by
    rw [← hgc, Nat.mul_mod_mul_right]
  have hrl : (U % g) * c < 18446744073709551616 := by rw [← hgc]; exact Nat.mul_lt_mul_of_pos_right hml hc0
  have hlt : 9223372036854775808 < (U % g) * c ↔ f < U % g := by
    rw [← hfc]; exact Nat.mul_lt_mul_right hc0
  have heq : (U % g) * c = 9223372036854775808 ↔ U % g = f := by
    rw [← hfc]; exact ⟨fun h => Nat.eq_of_mul_eq_mul_right hc0 h, fun h => by rw [h]⟩
  have e1 : (2 : Int) ^ (64 - k) = (g : Int) := by rw [hg]; simp
  have e2 : (2 : Int) ^ k = (c : Int) := by rw [hc]; simp
  have hq53 : U / g < 2 ^ k := by
    rw [← hc]
    exact Nat.div_lt_of_lt_mul (by rw [hgc]; exact h2)
  refine ⟨U / g, (U % g) * c, fun _ j hj => by rw [hj, e1]; rfl, fun j hj => ?_, ?_, ?_, ?_, ?_, ?_⟩
  · rw [hj, e2, ← Int.natCast_mul, IntKind.wrap_u64, ← hr]; omega
  · unfold rne
    rw [← hg, hf] at *
    simp only [hlt, heq]
    by_cases hcs : f < U % (2 * f) ∨ U % (2 * f) = f ∧ U / (2 * f) % 2 = 1
    · rw [if_pos hcs, if_pos (by omega)]
    · rw [if_neg hcs, if_neg (by omega), Nat.add_zero]
  · have : 2 ^ k ≤ 2 ^ 53 := Nat.pow_le_pow_right (by decide) hk
    rw [show 2 ^ 53 = 9007199254740992 by decide] at this
    omega
  · intro h
    subst h
    rw [hg]
    rw [show 2 ^ (64 - 53) = 2048 by decide]; omega
  · intro h
    subst h
    rw [hg, show 2 ^ (64 - 0) = 18446744073709551616 by decide]; omega
  · intro h
    have : 2 ^ k ≤ 2 ^ 52 := Nat.pow_le_pow_right (by decide) h
    rw [show 2 ^ 52 = 4503599627370496 by decide] at this
    omega
/-- The nearest number by the full word's digits. -/
theorem mk_end (u k U : Nat) (e t : Int) (h0 : 0 < u) (hU : U = u * 2 ^ k) (h1 : 9223372036854775808 ≤ U) (h2 : U < 18446744073709551616) (ht : e - (k : Int) + 63 = t) :
    (1023 < t → mkR u e = INF) ∧ (-1022 ≤ t → t ≤ 1023 → mkR u e = (t + 1022).toNat * 4503599627370496 + rne U 11) ∧ (t < -1075 → mkR u e = 0) ∧ (t < -1022 → -1075 ≤ t → mkR u e = rne U (64 - (1075 + t).toNat)) := by
  have hp : INF = 9218868437227405312 := rfl
  have hs := mkR_scale h0 k (e - k)
  rw [show e - (k : Int) + (k : Int) = e by omega, ← hU] at hs
  have hL : U.log2 = 63 := log2_eq (show 2 ^ 63 ≤ U from h1) (show U < 2 ^ (63 + 1) from h2)
  rw [← hs]
  obtain ⟨c1, c2, c3⟩ := mkR_cut (u := U) (L := 63) (e := e - k) (by omega) hL rfl
  have hb : ∀ b, 65 ≤ b → rne U b = 0 := fun b hb => by
    have h1 : 2 ^ 65 ≤ 2 ^ b := Nat.pow_le_pow_right (by decide) hb
    rw [show 2 ^ 65 = 36893488147419103232 by decide] at h1
    unfold rne
    generalize 2 ^ b = g at *
    rw [Nat.div_eq_of_lt (by omega), Nat.mod_eq_of_lt (by omega), if_neg (by omega)]
  refine ⟨fun h => ?_, fun h h' => ?_, fun h => ?_, fun h h' => ?_⟩
  · obtain ⟨q, hq⟩ : ∃ q, q = max (e - (k : Int) + ((63 : Nat) : Int) - 52) (-1074) := ⟨_, rfl⟩
    rw [← hq] at c1 c3
    rw [c1]
    rcases c3 with c3 | c3
    · omega
    · exact Nat.min_eq_right (by omega)
  · rw [show max (e - (k : Int) + ((63 : Nat) : Int) - 52) (-1074) = t - 52 by omega, if_neg (by omega), show (t - 52 - (e - (k : Int))).toNat = 11 by omega] at c1 c2
    rw [c1, Nat.min_eq_left (by omega)]
    congr 2; omega
  · rw [show max (e - (k : Int) + ((63 : Nat) : Int) - 52) (-1074) = -1074 by omega, if_neg (by omega), hb _ (by omega)] at c1
    rw [c1]; rfl
  · rw [show max (e - (k : Int) + ((63 : Nat) : Int) - 52) (-1074) = -1074 by omega, if_neg (by omega), show (-1074 - (e - (k : Int))).toNat = 64 - (1075 + t).toNat by omega] at c1 c2
    rw [c1, Nat.min_eq_left (by omega)]
    simp
theorem mkR_far2 {u : Nat} {e : Int} (h0 : 0 < u) (h : 5000 < e) : mkR u e = INF := mkR_far h0 (by omega)
theorem up_start (u : Nat) : u = u * 2 ^ 0 := by simp
theorem up_step (u k U : Nat) (h : U = u * 2 ^ k) : 2 * U = u * 2 ^ (k + 1) := by rw [h, Nat.pow_succ, Nat.mul_comm, Nat.mul_assoc]
theorem up_less (u k U : Nat) (h0 : 0 < u) (h : U = u * 2 ^ k) (hl : U < 9223372036854775808) : k < 63 := by
  refine Nat.lt_of_not_le fun hk => ?_
  have h1 : 2 ^ 63 ≤ 2 ^ k := Nat.pow_le_pow_right (by decide) hk
  have h2 := Nat.le_mul_of_pos_left (2 ^ k) h0
  rw [show 2 ^ 63 = 9223372036854775808 by decide] at h1
  omega
theorem up_two (U : Nat) (hl : U < 9223372036854775808) : IntKind.u64.wrap ((U : Int) * 2) = ((2 * U : Nat) : Int) := by rw [IntKind.wrap_u64]; omega
theorem sub_kept (Q : Nat) (h1 : 4503599627370496 ≤ Q) (h2 : Q ≤ 9007199254740992) : IntKind.u64.wrap ((Q : Int) - 4503599627370496) = ((Q - 4503599627370496 : Nat) : Int) := by rw [IntKind.wrap_u64]; omega
theorem mk_val {t : Int} {T TT V P R : Nat} (h0 : -1022 ≤ t) (h1 : t + 1023 = (T : Int)) (h2 : T * 4503599627370496 = TT) (h3 : V = 4503599627370496 + P) (h4 : TT + P = R) : (t + 1022).toNat * 4503599627370496 + V = R := by
  have h5 : (t + 1022).toNat + 1 = T := by omega
  rw [← h4, ← h2, h3, ← h5, Nat.add_mul, Nat.one_mul, Nat.add_assoc]
theorem refMake_zero (e : Int) (w : World) : Calls Tryd.prog 65 #[.int .i64 0, .int .i64 e] w fun r w' => r = .returned (.float .f64 0) ∧ w' = w := by
  go_enter Tryd.func65, Tryd.ntmps65
  go_wp2
  go_ret
  exact ⟨rfl, rfl⟩

set_option maxRecDepth 100000 in
set_option maxHeartbeats 4000000 in
theorem refMake_pos (u : Nat) (h0 : 0 < u) (hu : u < 9223372036854775808) (e : Int) (w : World) : Calls Tryd.prog 65 #[.int .i64 (u : Int), .int .i64 e] w fun r w' => r = .returned (.float .f64 (mkR u e)) ∧ w' = w := by
  have zm : decide ((u : Int) < 0) = false := decide_eq_false (by omega)
  have zz : ((u : Int) == 0) = false := by rw [beq_eq_false_iff_ne]; omega
  have zv1 : IntKind.u64.wrap (u : Int) = (u : Int) := by rw [IntKind.wrap_u64]; omega
  obtain ⟨M, hM⟩ : ∃ M, M = mkR u e := ⟨_, rfl⟩
  rw [← hM]
  go_enter Tryd.func65, Tryd.ntmps65
  go_wp2_with (fail)
  go_loopw [6, 7] (fun a b w2 => ∃ k U : Nat, a = .int .u64 U ∧ b = .int .i64 k ∧ k ≤ 63 ∧ Aside (U = u * 2 ^ k) ∧ U < 18446744073709551616 ∧ 0 < U ∧ w2 = w) (fun _ b _ => 64 - (intOf b).toNat)
  case atStart => exact ⟨0, u, rfl, rfl, by omega, ⟨up_start u⟩, by omega, h0, rfl⟩
  case round =>
    obtain ⟨k, U, rfl, rfl, hk, hU, hUl, hU0, rfl⟩ := hrel
    by_cases hg : U < 9223372036854775808
    · have y1 : ((U : Int) / 9223372036854775808 == 0) = true := by rw [beq_iff_eq]; omega
      have y2 := up_two U hg
      have hk2 := up_less u k U h0 hU.out hg
      have hst := Aside.mk (up_step u k U hU.out)
      clear hU
      go_wp2
      go_roundw
      case rel => exact ⟨k + 1, 2 * U, rfl, by go_num, by omega, hst, by omega, by omega, by first | trivial | rfl⟩
      case measure => simp [intOf]; omega
    · have y1 : ((U : Int) / 9223372036854775808 == 0) = false := by rw [beq_eq_false_iff_ne]; omega
      obtain ⟨t, ht⟩ : ∃ t : Int, e - (k : Int) + 63 = t := ⟨_, rfl⟩
      obtain ⟨r1, r2, r3, r4⟩ := mk_end u k U e t h0 hU.out (by omega) hUl ht
      clear hU
      by_cases e1 : 5000 < e
      · have y2 : decide (5000 < e) = true := decide_eq_true e1
        have hv := Aside.mk (show M = INF from by rw [hM]; exact r1 (by omega))
        clear r1 r2 r3 r4 hM
        clear e1
        have zo : bits .or .u64 0 9218868437227405312 = 9218868437227405312 := or_zero 9218868437227405312 (by decide)
        have hfr := (show ∀ w : World, (callFunc 66 #[.int .u64 (9218868437227405312)]).run Tryd.prog w = .ok (.value (.float .f64 (9218868437227405312))) w from ffrom_run (9218868437227405312))
        go_wp2
        go_ret
        refine ⟨?_, rfl⟩
        rw [hv.out]
        first | rfl | (simp; done) | trace_state
      have y2 : decide (5000 < e) = false := decide_eq_false e1
      by_cases e2 : e < -5000
      · have y3 : decide (e < -5000) = true := decide_eq_true e2
        have hv := Aside.mk (show M = 0 from by rw [hM]; exact r3 (by omega))
        clear r1 r2 r3 r4 hM
        clear e1 e2
        have hfr := (show ∀ w : World, (callFunc 66 #[.int .u64 (0)]).run Tryd.prog w = .ok (.value (.float .f64 (0))) w from ffrom_run (0))
        go_wp2
        go_ret
        refine ⟨?_, rfl⟩
        rw [hv.out]
        first | rfl | (simp; done) | trace_state
      have y3 : decide (e < -5000) = false := decide_eq_false e2
      have hb1 : -5000 ≤ e := by omega
      have hb2 : e ≤ 5000 := by omega
      have w1 : wrap64 (e - (k : Int)) = e - (k : Int) := hw64 _ (by omega) (by omega)
      have w2 : wrap64 (e - (k : Int) + 63) = t := by rw [hw64 _ (by omega) (by omega), ht]
      have hb3 : -5000 ≤ t := by omega
      have hb4 : t ≤ 6000 := by omega
      by_cases e3 : 1023 < t
      · have y4 : decide (1023 < t) = true := decide_eq_true e3
        have hv := Aside.mk (show M = INF from by rw [hM]; exact r1 e3)
        clear r1 r2 r3 r4 hM
        clear e1 e2 e3
        have zo : bits .or .u64 0 9218868437227405312 = 9218868437227405312 := or_zero 9218868437227405312 (by decide)
        have hfr := (show ∀ w : World, (callFunc 66 #[.int .u64 (9218868437227405312)]).run Tryd.prog w = .ok (.value (.float .f64 (9218868437227405312))) w from ffrom_run (9218868437227405312))
        go_wp2
        go_ret
        refine ⟨?_, rfl⟩
        rw [hv.out]
        first | rfl | (simp; done) | trace_state
      have y4 : decide (1023 < t) = false := decide_eq_false e3
      by_cases e4 : -1022 ≤ t
      · have y5 : decide (t < -1022) = false := decide_eq_false (by omega)
        obtain ⟨T, hT⟩ : ∃ T : Nat, t + 1023 = (T : Int) := ⟨(t + 1023).toNat, by omega⟩
        have w5 : wrap64 (t + 1023) = (T : Int) := by rw [hw64 _ (by omega) (by omega), hT]
        obtain ⟨TT, hTT⟩ : ∃ TT : Nat, T * 4503599627370496 = TT := ⟨_, rfl⟩
        have q1 : IntKind.u64.wrap ((T : Int) * 4503599627370496) = (TT : Int) := by rw [IntKind.wrap_u64]; omega
        have q2 : (T : Int) * 4503599627370496 = (TT : Int) := by omega
        obtain ⟨Q, r, hq, hr, hrn, hQl, hk53, _, _⟩ := mk_parts U 53 (by omega) hUl (by decide)
        have hk0 := hk53 rfl
        replace hq : (U : Int) / 2048 = (Q : Int) := hq (by decide) 11 rfl
        replace hr : IntKind.u64.wrap ((U : Int) * 9007199254740992) = (r : Int) := hr 53 rfl
        rw [show 64 - 53 = 11 by decide] at hrn
        clear hk53
        have hall : (9223372036854775808 < r) ∨ (r = 9223372036854775808 ∧ Q % 2 = 1) ∨ (r = 9223372036854775808 ∧ Q % 2 = 0) ∨ (r < 9223372036854775808) := by omega
        rcases hall with hlt | hlt | hlt | hlt
        · rw [if_pos (by omega)] at hrn
          have x1 : decide ((9223372036854775808 : Int) < (r : Int)) = true := decide_eq_true (by omega)
          obtain ⟨V, hV⟩ : ∃ V : Nat, Q + 1 = V := ⟨_, rfl⟩
          have x4 : IntKind.u64.wrap ((Q : Int) + 1) = (V : Int) := by rw [IntKind.wrap_u64]; omega
          have x5 : (Q : Int) + 1 = (V : Int) := by omega
          rw [hV] at hrn
          clear hlt
          obtain ⟨P, hP⟩ : ∃ P : Nat, V = 4503599627370496 + P := ⟨V - 4503599627370496, by omega⟩
          have p1 : IntKind.u64.wrap ((V : Int) - 4503599627370496) = (P : Int) := by rw [IntKind.wrap_u64]; omega
          have p2 : (V : Int) - 4503599627370496 = (P : Int) := by omega
          obtain ⟨R, hR⟩ : ∃ R : Nat, TT + P = R := ⟨_, rfl⟩
          have pT : IntKind.u64.wrap (TT : Int) = (TT : Int) := by rw [IntKind.wrap_u64]; omega
          have p3 : IntKind.u64.wrap ((TT : Int) + (P : Int)) = (R : Int) := by rw [IntKind.wrap_u64]; omega
          have p4 : (TT : Int) + (P : Int) = (R : Int) := by omega
          have p5 : IntKind.u64.wrap (R : Int) = (R : Int) := by rw [IntKind.wrap_u64]; omega
          have zo : bits .or .u64 0 (R : Int) = (R : Int) := or_zero R (by omega)
          have hfr := (show ∀ w : World, (callFunc 66 #[.int .u64 ((R : Int))]).run Tryd.prog w = .ok (.value (.float .f64 (R))) w from ffrom_run (R))
          have hv := Aside.mk (show M = R from by rw [hM]; rw [r2 (by omega) (by omega), hrn]; exact mk_val e4 hT hTT hP hR)
          clear r1 r2 r3 r4 hM
          clear hrn hP hR e1 e2 e3 e4 hTT hg hk0
          clear hV
          go_wp2
          go_ret
          refine ⟨?_, rfl⟩
          rw [hv.out]
          first | rfl | (simp; done) | trace_state
        · rw [if_pos (by omega)] at hrn
          have x1 : decide ((9223372036854775808 : Int) < (r : Int)) = false := decide_eq_false (by omega)
          have x2 : ((r : Int) == 9223372036854775808) = true := by rw [beq_iff_eq]; omega
          have x3 : (bits .and .u64 (Q : Int) 1 == 1) = true := sh_odd (by omega) (by omega)
          obtain ⟨V, hV⟩ : ∃ V : Nat, Q + 1 = V := ⟨_, rfl⟩
          have x4 : IntKind.u64.wrap ((Q : Int) + 1) = (V : Int) := by rw [IntKind.wrap_u64]; omega
          have x5 : (Q : Int) + 1 = (V : Int) := by omega
          rw [hV] at hrn
          clear hlt
          obtain ⟨P, hP⟩ : ∃ P : Nat, V = 4503599627370496 + P := ⟨V - 4503599627370496, by omega⟩
          have p1 : IntKind.u64.wrap ((V : Int) - 4503599627370496) = (P : Int) := by rw [IntKind.wrap_u64]; omega
          have p2 : (V : Int) - 4503599627370496 = (P : Int) := by omega
          obtain ⟨R, hR⟩ : ∃ R : Nat, TT + P = R := ⟨_, rfl⟩
          have pT : IntKind.u64.wrap (TT : Int) = (TT : Int) := by rw [IntKind.wrap_u64]; omega
          have p3 : IntKind.u64.wrap ((TT : Int) + (P : Int)) = (R : Int) := by rw [IntKind.wrap_u64]; omega
          have p4 : (TT : Int) + (P : Int) = (R : Int) := by omega
          have p5 : IntKind.u64.wrap (R : Int) = (R : Int) := by rw [IntKind.wrap_u64]; omega
          have zo : bits .or .u64 0 (R : Int) = (R : Int) := or_zero R (by omega)
          have hfr := (show ∀ w : World, (callFunc 66 #[.int .u64 ((R : Int))]).run Tryd.prog w = .ok (.value (.float .f64 (R))) w from ffrom_run (R))
          have hv := Aside.mk (show M = R from by rw [hM]; rw [r2 (by omega) (by omega), hrn]; exact mk_val e4 hT hTT hP hR)
          clear r1 r2 r3 r4 hM
          clear hrn hP hR e1 e2 e3 e4 hTT hg hk0
          clear hV
          go_wp2
          go_ret
          refine ⟨?_, rfl⟩
          rw [hv.out]
          first | rfl | (simp; done) | trace_state
        · rw [if_neg (by omega)] at hrn
          have x1 : decide ((9223372036854775808 : Int) < (r : Int)) = false := decide_eq_false (by omega)
          have x2 : ((r : Int) == 9223372036854775808) = true := by rw [beq_iff_eq]; omega
          have x3 : (bits .and .u64 (Q : Int) 1 == 1) = false := sh_even (by omega) (by omega)
          obtain ⟨V, hV⟩ : ∃ V : Nat, Q = V := ⟨_, rfl⟩
          subst hV
          clear hlt
          obtain ⟨P, hP⟩ : ∃ P : Nat, Q = 4503599627370496 + P := ⟨Q - 4503599627370496, by omega⟩
          have p1 : IntKind.u64.wrap ((Q : Int) - 4503599627370496) = (P : Int) := by rw [IntKind.wrap_u64]; omega
          have p2 : (Q : Int) - 4503599627370496 = (P : Int) := by omega
          obtain ⟨R, hR⟩ : ∃ R : Nat, TT + P = R := ⟨_, rfl⟩
          have pT : IntKind.u64.wrap (TT : Int) = (TT : Int) := by rw [IntKind.wrap_u64]; omega
          have p3 : IntKind.u64.wrap ((TT : Int) + (P : Int)) = (R : Int) := by rw [IntKind.wrap_u64]; omega
          have p4 : (TT : Int) + (P : Int) = (R : Int) := by omega
          have p5 : IntKind.u64.wrap (R : Int) = (R : Int) := by rw [IntKind.wrap_u64]; omega
          have zo : bits .or .u64 0 (R : Int) = (R : Int) := or_zero R (by omega)
          have hfr := (show ∀ w : World, (callFunc 66 #[.int .u64 ((R : Int))]).run Tryd.prog w = .ok (.value (.float .f64 (R))) w from ffrom_run (R))
          have hv := Aside.mk (show M = R from by rw [hM]; rw [r2 (by omega) (by omega), hrn]; exact mk_val e4 hT hTT hP hR)
          clear r1 r2 r3 r4 hM
          clear hrn hP hR e1 e2 e3 e4 hTT hg hk0
          go_wp2
          go_ret
          refine ⟨?_, rfl⟩
          rw [hv.out]
          first | rfl | (simp; done) | trace_state
        · rw [if_neg (by omega)] at hrn
          have x1 : decide ((9223372036854775808 : Int) < (r : Int)) = false := decide_eq_false (by omega)
          have x2 : ((r : Int) == 9223372036854775808) = false := by rw [beq_eq_false_iff_ne]; omega
          obtain ⟨V, hV⟩ : ∃ V : Nat, Q = V := ⟨_, rfl⟩
          subst hV
          clear hlt
          obtain ⟨P, hP⟩ : ∃ P : Nat, Q = 4503599627370496 + P := ⟨Q - 4503599627370496, by omega⟩
          have p1 : IntKind.u64.wrap ((Q : Int) - 4503599627370496) = (P : Int) := by rw [IntKind.wrap_u64]; omega
          have p2 : (Q : Int) - 4503599627370496 = (P : Int) := by omega
          obtain ⟨R, hR⟩ : ∃ R : Nat, TT + P = R := ⟨_, rfl⟩
          have pT : IntKind.u64.wrap (TT : Int) = (TT : Int) := by rw [IntKind.wrap_u64]; omega
          have p3 : IntKind.u64.wrap ((TT : Int) + (P : Int)) = (R : Int) := by rw [IntKind.wrap_u64]; omega
          have p4 : (TT : Int) + (P : Int) = (R : Int) := by omega
          have p5 : IntKind.u64.wrap (R : Int) = (R : Int) := by rw [IntKind.wrap_u64]; omega
          have zo : bits .or .u64 0 (R : Int) = (R : Int) := or_zero R (by omega)
          have hfr := (show ∀ w : World, (callFunc 66 #[.int .u64 ((R : Int))]).run Tryd.prog w = .ok (.value (.float .f64 (R))) w from ffrom_run (R))
          have hv := Aside.mk (show M = R from by rw [hM]; rw [r2 (by omega) (by omega), hrn]; exact mk_val e4 hT hTT hP hR)
          clear r1 r2 r3 r4 hM
          clear hrn hP hR e1 e2 e3 e4 hTT hg hk0
          go_wp2
          go_ret
          refine ⟨?_, rfl⟩
          rw [hv.out]
          first | rfl | (simp; done) | trace_state
      have y5 : decide (t < -1022) = true := decide_eq_true (by omega)
      have w3 : wrap64 (-1022 - t) = -1022 - t := hw64 _ (by omega) (by omega)
      have w4 : wrap64 (53 - (-1022 - t)) = 53 - (-1022 - t) := hw64 _ (by omega) (by omega)
      by_cases e5 : t < -1075
      · obtain ⟨K, hK⟩ : ∃ K : Int, 53 - (-1022 - t) = K := ⟨_, rfl⟩
        have y6 : decide (K < 0) = true := decide_eq_true (by omega)
        have hv := Aside.mk (show M = 0 from by rw [hM]; exact r3 e5)
        clear r1 r2 r3 r4 hM
        clear e1 e2 e3 e4 e5 hg
        have hfr := (show ∀ w : World, (callFunc 66 #[.int .u64 (0)]).run Tryd.prog w = .ok (.value (.float .f64 (0))) w from ffrom_run (0))
        go_wp2
        go_ret
        refine ⟨?_, rfl⟩
        rw [hv.out]
        first | rfl | (simp; done) | trace_state
      obtain ⟨K, hK⟩ : ∃ K : Nat, 53 - (-1022 - t) = (K : Int) := ⟨(t + 1075).toNat, by omega⟩
      have hKt : (1075 + t).toNat = K := by omega
      rw [hKt] at r4
      by_cases e6 : K = 0
      · obtain rfl : K = 0 := by omega
        replace hK : 53 - (-1022 - t) = 0 := hK
        obtain ⟨Q, r, _, hr, hrn, _, _, hQ0, _⟩ := mk_parts U 0 (by omega) hUl (by decide)
        obtain rfl := hQ0 rfl
        have hrU : r = U := by have := hr 0 rfl; rw [Int.pow_zero, Int.mul_one, IntKind.wrap_u64] at this; omega
        subst hrU
        clear hr
        by_cases hb : 9223372036854775808 < r
        · rw [if_pos (by omega)] at hrn
          have x1 : decide ((9223372036854775808 : Int) < (r : Int)) = true := decide_eq_true (by omega)
          have zw : IntKind.u64.wrap (r : Int) = (r : Int) := by rw [IntKind.wrap_u64]; omega
          have zo : bits .or .u64 0 1 = 1 := or_zero 1 (by decide)
          have hfr := (show ∀ w : World, (callFunc 66 #[.int .u64 (1)]).run Tryd.prog w = .ok (.value (.float .f64 (1))) w from ffrom_run (1))
          have hv := Aside.mk (show M = 1 from by rw [hM]; rw [r4 (by omega) (by omega), hrn])
          clear r1 r2 r3 r4 hM
          clear hrn e1 e2 e3 e4 e5 hg hKt
          go_wp2
          go_ret
          refine ⟨?_, rfl⟩
          rw [hv.out]
          first | rfl | (simp; done) | trace_state
        rw [if_neg (by omega)] at hrn
        have x1 : decide ((9223372036854775808 : Int) < (r : Int)) = false := decide_eq_false (by omega)
        have x2 : ((r : Int) == 9223372036854775808) = true := by rw [beq_iff_eq]; omega
        have x3 : (bits .and .u64 0 1 == 1) = false := by rw [show bits .and .u64 0 1 = 0 from and_one 0 (by decide)]; rfl
        have zw : IntKind.u64.wrap (r : Int) = (r : Int) := by rw [IntKind.wrap_u64]; omega
        have zo : bits .or .u64 0 0 = 0 := or_zero 0 (by decide)
        have hfr := (show ∀ w : World, (callFunc 66 #[.int .u64 (0)]).run Tryd.prog w = .ok (.value (.float .f64 (0))) w from ffrom_run (0))
        have hv := Aside.mk (show M = 0 from by rw [hM]; rw [r4 (by omega) (by omega), hrn])
        clear r1 r2 r3 r4 hM
        clear hrn e1 e2 e3 e4 e5 hg hKt
        go_wp2
        go_ret
        refine ⟨?_, rfl⟩
        rw [hv.out]
        first | rfl | (simp; done) | trace_state
      obtain ⟨Q, r, hq, hr, hrn, hQl, _, _, hQs⟩ := mk_parts U K (by omega) hUl (by omega)
      replace hq := hq (by omega)
      obtain ⟨d, hd⟩ : ∃ d : Nat, d = 64 - K := ⟨_, rfl⟩
      rw [← hd] at hq
      have hd2 : 64 - (K : Int) = (d : Int) := by omega
      have hdl : d ≤ 63 := by omega
      have y6 : decide ((K : Int) < 0) = false := decide_eq_false (by omega)
      have y7 : decide ((0 : Int) < (K : Int)) = true := decide_eq_true (by omega)
      have hKl : K ≤ 52 := by omega
      have hall : (9223372036854775808 < r) ∨ (r = 9223372036854775808 ∧ Q % 2 = 1) ∨ (r = 9223372036854775808 ∧ Q % 2 = 0) ∨ (r < 9223372036854775808) := by omega
      rcases hall with hlt | hlt | hlt | hlt
      · rw [if_pos (by omega)] at hrn
        have x1 : decide ((9223372036854775808 : Int) < (r : Int)) = true := decide_eq_true (by omega)
        obtain ⟨V, hV⟩ : ∃ V : Nat, Q + 1 = V := ⟨_, rfl⟩
        have x4 : IntKind.u64.wrap ((Q : Int) + 1) = (V : Int) := by rw [IntKind.wrap_u64]; omega
        have x5 : (Q : Int) + 1 = (V : Int) := by omega
        rw [hV] at hrn
        clear hlt
        have zo : bits .or .u64 0 (V : Int) = (V : Int) := or_zero V (by omega)
        have hfr := (show ∀ w : World, (callFunc 66 #[.int .u64 ((V : Int))]).run Tryd.prog w = .ok (.value (.float .f64 (V))) w from ffrom_run (V))
        have hv := Aside.mk (show M = V from by rw [hM]; rw [r4 (by omega) (by omega), hrn])
        clear r1 r2 r3 r4 hM
        clear hrn e1 e2 e3 e4 e5 e6 hg hd hKt hQs
        clear hV
        go_wp2
        go_ret
        refine ⟨?_, rfl⟩
        rw [hv.out]
        first | rfl | (simp; done) | trace_state
      · rw [if_pos (by omega)] at hrn
        have x1 : decide ((9223372036854775808 : Int) < (r : Int)) = false := decide_eq_false (by omega)
        have x2 : ((r : Int) == 9223372036854775808) = true := by rw [beq_iff_eq]; omega
        have x3 : (bits .and .u64 (Q : Int) 1 == 1) = true := sh_odd (by omega) (by omega)
        obtain ⟨V, hV⟩ : ∃ V : Nat, Q + 1 = V := ⟨_, rfl⟩
        have x4 : IntKind.u64.wrap ((Q : Int) + 1) = (V : Int) := by rw [IntKind.wrap_u64]; omega
        have x5 : (Q : Int) + 1 = (V : Int) := by omega
        rw [hV] at hrn
        clear hlt
        have zo : bits .or .u64 0 (V : Int) = (V : Int) := or_zero V (by omega)
        have hfr := (show ∀ w : World, (callFunc 66 #[.int .u64 ((V : Int))]).run Tryd.prog w = .ok (.value (.float .f64 (V))) w from ffrom_run (V))
        have hv := Aside.mk (show M = V from by rw [hM]; rw [r4 (by omega) (by omega), hrn])
        clear r1 r2 r3 r4 hM
        clear hrn e1 e2 e3 e4 e5 e6 hg hd hKt hQs
        clear hV
        go_wp2
        go_ret
        refine ⟨?_, rfl⟩
        rw [hv.out]
        first | rfl | (simp; done) | trace_state
      · rw [if_neg (by omega)] at hrn
        have x1 : decide ((9223372036854775808 : Int) < (r : Int)) = false := decide_eq_false (by omega)
        have x2 : ((r : Int) == 9223372036854775808) = true := by rw [beq_iff_eq]; omega
        have x3 : (bits .and .u64 (Q : Int) 1 == 1) = false := sh_even (by omega) (by omega)
        obtain ⟨V, hV⟩ : ∃ V : Nat, Q = V := ⟨_, rfl⟩
        subst hV
        clear hlt
        have zo : bits .or .u64 0 (Q : Int) = (Q : Int) := or_zero Q (by omega)
        have hfr := (show ∀ w : World, (callFunc 66 #[.int .u64 ((Q : Int))]).run Tryd.prog w = .ok (.value (.float .f64 (Q))) w from ffrom_run (Q))
        have hv := Aside.mk (show M = Q from by rw [hM]; rw [r4 (by omega) (by omega), hrn])
        clear r1 r2 r3 r4 hM
        clear hrn e1 e2 e3 e4 e5 e6 hg hd hKt hQs
        go_wp2
        go_ret
        refine ⟨?_, rfl⟩
        rw [hv.out]
        first | rfl | (simp; done) | trace_state
      · rw [if_neg (by omega)] at hrn
        have x1 : decide ((9223372036854775808 : Int) < (r : Int)) = false := decide_eq_false (by omega)
        have x2 : ((r : Int) == 9223372036854775808) = false := by rw [beq_eq_false_iff_ne]; omega
        obtain ⟨V, hV⟩ : ∃ V : Nat, Q = V := ⟨_, rfl⟩
        subst hV
        clear hlt
        have zo : bits .or .u64 0 (Q : Int) = (Q : Int) := or_zero Q (by omega)
        have hfr := (show ∀ w : World, (callFunc 66 #[.int .u64 ((Q : Int))]).run Tryd.prog w = .ok (.value (.float .f64 (Q))) w from ffrom_run (Q))
        have hv := Aside.mk (show M = Q from by rw [hM]; rw [r4 (by omega) (by omega), hrn])
        clear r1 r2 r3 r4 hM
        clear hrn e1 e2 e3 e4 e5 e6 hg hd hKt hQs
        go_wp2
        go_ret
        refine ⟨?_, rfl⟩
        rw [hv.out]
        first | rfl | (simp; done) | trace_state
set_option maxRecDepth 100000 in
set_option maxHeartbeats 4000000 in
theorem refMake_neg (u : Nat) (h0 : 0 < u) (hu : u ≤ 9223372036854775808) (e : Int) (w : World) : Calls Tryd.prog 65 #[.int .i64 (-(u : Int)), .int .i64 e] w fun r w' => r = .returned (.float .f64 (9223372036854775808 + mkR u e)) ∧ w' = w := by
  have zm : decide (-(u : Int) < 0) = true := decide_eq_true (by omega)
  have zz : (-(u : Int) == 0) = false := by rw [beq_eq_false_iff_ne]; omega
  obtain ⟨v, zv1, zv2⟩ := neg_u u h0 hu
  obtain ⟨M, hM⟩ : ∃ M, M = mkR u e := ⟨_, rfl⟩
  rw [← hM]
  go_enter Tryd.func65, Tryd.ntmps65
  go_wp2_with (fail)
  go_loopw [6, 7] (fun a b w2 => ∃ k U : Nat, a = .int .u64 U ∧ b = .int .i64 k ∧ k ≤ 63 ∧ Aside (U = u * 2 ^ k) ∧ U < 18446744073709551616 ∧ 0 < U ∧ w2 = w) (fun _ b _ => 64 - (intOf b).toNat)
  case atStart => exact ⟨0, u, rfl, rfl, by omega, ⟨up_start u⟩, by omega, h0, rfl⟩
  case round =>
    obtain ⟨k, U, rfl, rfl, hk, hU, hUl, hU0, rfl⟩ := hrel
    by_cases hg : U < 9223372036854775808
    · have y1 : ((U : Int) / 9223372036854775808 == 0) = true := by rw [beq_iff_eq]; omega
      have y2 := up_two U hg
      have hk2 := up_less u k U h0 hU.out hg
      have hst := Aside.mk (up_step u k U hU.out)
      clear hU
      go_wp2
      go_roundw
      case rel => exact ⟨k + 1, 2 * U, rfl, by go_num, by omega, hst, by omega, by omega, by first | trivial | rfl⟩
      case measure => simp [intOf]; omega
    · have y1 : ((U : Int) / 9223372036854775808 == 0) = false := by rw [beq_eq_false_iff_ne]; omega
      obtain ⟨t, ht⟩ : ∃ t : Int, e - (k : Int) + 63 = t := ⟨_, rfl⟩
      obtain ⟨r1, r2, r3, r4⟩ := mk_end u k U e t h0 hU.out (by omega) hUl ht
      clear hU
      by_cases e1 : 5000 < e
      · have y2 : decide (5000 < e) = true := decide_eq_true e1
        have hv := Aside.mk (show M = INF from by rw [hM]; exact r1 (by omega))
        clear r1 r2 r3 r4 hM
        clear e1
        have zo : bits .or .u64 9223372036854775808 9218868437227405312 = 18442240474082181120 := or_top 9218868437227405312 (by decide)
        have hfr := (show ∀ w : World, (callFunc 66 #[.int .u64 (18442240474082181120)]).run Tryd.prog w = .ok (.value (.float .f64 (18442240474082181120))) w from ffrom_run (18442240474082181120))
        go_wp2
        go_ret
        refine ⟨?_, rfl⟩
        rw [hv.out]
        first | rfl | (simp; done) | trace_state
      have y2 : decide (5000 < e) = false := decide_eq_false e1
      by_cases e2 : e < -5000
      · have y3 : decide (e < -5000) = true := decide_eq_true e2
        have hv := Aside.mk (show M = 0 from by rw [hM]; exact r3 (by omega))
        clear r1 r2 r3 r4 hM
        clear e1 e2
        have hfr := (show ∀ w : World, (callFunc 66 #[.int .u64 (9223372036854775808)]).run Tryd.prog w = .ok (.value (.float .f64 (9223372036854775808))) w from ffrom_run (9223372036854775808))
        go_wp2
        go_ret
        refine ⟨?_, rfl⟩
        rw [hv.out]
        first | rfl | (simp; done) | trace_state
      have y3 : decide (e < -5000) = false := decide_eq_false e2
      have hb1 : -5000 ≤ e := by omega
      have hb2 : e ≤ 5000 := by omega
      have w1 : wrap64 (e - (k : Int)) = e - (k : Int) := hw64 _ (by omega) (by omega)
      have w2 : wrap64 (e - (k : Int) + 63) = t := by rw [hw64 _ (by omega) (by omega), ht]
      have hb3 : -5000 ≤ t := by omega
      have hb4 : t ≤ 6000 := by omega
      by_cases e3 : 1023 < t
      · have y4 : decide (1023 < t) = true := decide_eq_true e3
        have hv := Aside.mk (show M = INF from by rw [hM]; exact r1 e3)
        clear r1 r2 r3 r4 hM
        clear e1 e2 e3
        have zo : bits .or .u64 9223372036854775808 9218868437227405312 = 18442240474082181120 := or_top 9218868437227405312 (by decide)
        have hfr := (show ∀ w : World, (callFunc 66 #[.int .u64 (18442240474082181120)]).run Tryd.prog w = .ok (.value (.float .f64 (18442240474082181120))) w from ffrom_run (18442240474082181120))
        go_wp2
        go_ret
        refine ⟨?_, rfl⟩
        rw [hv.out]
        first | rfl | (simp; done) | trace_state
      have y4 : decide (1023 < t) = false := decide_eq_false e3
      by_cases e4 : -1022 ≤ t
      · have y5 : decide (t < -1022) = false := decide_eq_false (by omega)
        obtain ⟨T, hT⟩ : ∃ T : Nat, t + 1023 = (T : Int) := ⟨(t + 1023).toNat, by omega⟩
        have w5 : wrap64 (t + 1023) = (T : Int) := by rw [hw64 _ (by omega) (by omega), hT]
        obtain ⟨TT, hTT⟩ : ∃ TT : Nat, T * 4503599627370496 = TT := ⟨_, rfl⟩
        have q1 : IntKind.u64.wrap ((T : Int) * 4503599627370496) = (TT : Int) := by rw [IntKind.wrap_u64]; omega
        have q2 : (T : Int) * 4503599627370496 = (TT : Int) := by omega
        obtain ⟨Q, r, hq, hr, hrn, hQl, hk53, _, _⟩ := mk_parts U 53 (by omega) hUl (by decide)
        have hk0 := hk53 rfl
        replace hq : (U : Int) / 2048 = (Q : Int) := hq (by decide) 11 rfl
        replace hr : IntKind.u64.wrap ((U : Int) * 9007199254740992) = (r : Int) := hr 53 rfl
        rw [show 64 - 53 = 11 by decide] at hrn
        clear hk53
        have hall : (9223372036854775808 < r) ∨ (r = 9223372036854775808 ∧ Q % 2 = 1) ∨ (r = 9223372036854775808 ∧ Q % 2 = 0) ∨ (r < 9223372036854775808) := by omega
        rcases hall with hlt | hlt | hlt | hlt
        · rw [if_pos (by omega)] at hrn
          have x1 : decide ((9223372036854775808 : Int) < (r : Int)) = true := decide_eq_true (by omega)
          obtain ⟨V, hV⟩ : ∃ V : Nat, Q + 1 = V := ⟨_, rfl⟩
          have x4 : IntKind.u64.wrap ((Q : Int) + 1) = (V : Int) := by rw [IntKind.wrap_u64]; omega
          have x5 : (Q : Int) + 1 = (V : Int) := by omega
          rw [hV] at hrn
          clear hlt
          obtain ⟨P, hP⟩ : ∃ P : Nat, V = 4503599627370496 + P := ⟨V - 4503599627370496, by omega⟩
          have p1 : IntKind.u64.wrap ((V : Int) - 4503599627370496) = (P : Int) := by rw [IntKind.wrap_u64]; omega
          have p2 : (V : Int) - 4503599627370496 = (P : Int) := by omega
          obtain ⟨R, hR⟩ : ∃ R : Nat, TT + P = R := ⟨_, rfl⟩
          have pT : IntKind.u64.wrap (TT : Int) = (TT : Int) := by rw [IntKind.wrap_u64]; omega
          have p3 : IntKind.u64.wrap ((TT : Int) + (P : Int)) = (R : Int) := by rw [IntKind.wrap_u64]; omega
          have p4 : (TT : Int) + (P : Int) = (R : Int) := by omega
          have p5 : IntKind.u64.wrap (R : Int) = (R : Int) := by rw [IntKind.wrap_u64]; omega
          have zo : bits .or .u64 9223372036854775808 (R : Int) = 9223372036854775808 + (R : Int) := or_top R (by omega)
          have hfr := (show ∀ w : World, (callFunc 66 #[.int .u64 (9223372036854775808 + (R : Int))]).run Tryd.prog w = .ok (.value (.float .f64 (9223372036854775808 + R))) w from ffrom_run (9223372036854775808 + R))
          have hv := Aside.mk (show M = R from by rw [hM]; rw [r2 (by omega) (by omega), hrn]; exact mk_val e4 hT hTT hP hR)
          clear r1 r2 r3 r4 hM
          clear hrn hP hR e1 e2 e3 e4 hTT hg hk0
          clear hV
          go_wp2
          go_ret
          refine ⟨?_, rfl⟩
          rw [hv.out]
          first | rfl | (simp; done) | trace_state
        · rw [if_pos (by omega)] at hrn
          have x1 : decide ((9223372036854775808 : Int) < (r : Int)) = false := decide_eq_false (by omega)
          have x2 : ((r : Int) == 9223372036854775808) = true := by rw [beq_iff_eq]; omega
          have x3 : (bits .and .u64 (Q : Int) 1 == 1) = true := sh_odd (by omega) (by omega)
          obtain ⟨V, hV⟩ : ∃ V : Nat, Q + 1 = V := ⟨_, rfl⟩
          have x4 : IntKind.u64.wrap ((Q : Int) + 1) = (V : Int) := by rw [IntKind.wrap_u64]; omega
          have x5 : (Q : Int) + 1 = (V : Int) := by omega
          rw [hV] at hrn
          clear hlt
          obtain ⟨P, hP⟩ : ∃ P : Nat, V = 4503599627370496 + P := ⟨V - 4503599627370496, by omega⟩
          have p1 : IntKind.u64.wrap ((V : Int) - 4503599627370496) = (P : Int) := by rw [IntKind.wrap_u64]; omega
          have p2 : (V : Int) - 4503599627370496 = (P : Int) := by omega
          obtain ⟨R, hR⟩ : ∃ R : Nat, TT + P = R := ⟨_, rfl⟩
          have pT : IntKind.u64.wrap (TT : Int) = (TT : Int) := by rw [IntKind.wrap_u64]; omega
          have p3 : IntKind.u64.wrap ((TT : Int) + (P : Int)) = (R : Int) := by rw [IntKind.wrap_u64]; omega
          have p4 : (TT : Int) + (P : Int) = (R : Int) := by omega
          have p5 : IntKind.u64.wrap (R : Int) = (R : Int) := by rw [IntKind.wrap_u64]; omega
          have zo : bits .or .u64 9223372036854775808 (R : Int) = 9223372036854775808 + (R : Int) := or_top R (by omega)
          have hfr := (show ∀ w : World, (callFunc 66 #[.int .u64 (9223372036854775808 + (R : Int))]).run Tryd.prog w = .ok (.value (.float .f64 (9223372036854775808 + R))) w from ffrom_run (9223372036854775808 + R))
          have hv := Aside.mk (show M = R from by rw [hM]; rw [r2 (by omega) (by omega), hrn]; exact mk_val e4 hT hTT hP hR)
          clear r1 r2 r3 r4 hM
          clear hrn hP hR e1 e2 e3 e4 hTT hg hk0
          clear hV
          go_wp2
          go_ret
          refine ⟨?_, rfl⟩
          rw [hv.out]
          first | rfl | (simp; done) | trace_state
        · rw [if_neg (by omega)] at hrn
          have x1 : decide ((9223372036854775808 : Int) < (r : Int)) = false := decide_eq_false (by omega)
          have x2 : ((r : Int) == 9223372036854775808) = true := by rw [beq_iff_eq]; omega
          have x3 : (bits .and .u64 (Q : Int) 1 == 1) = false := sh_even (by omega) (by omega)
          obtain ⟨V, hV⟩ : ∃ V : Nat, Q = V := ⟨_, rfl⟩
          subst hV
          clear hlt
          obtain ⟨P, hP⟩ : ∃ P : Nat, Q = 4503599627370496 + P := ⟨Q - 4503599627370496, by omega⟩
          have p1 : IntKind.u64.wrap ((Q : Int) - 4503599627370496) = (P : Int) := by rw [IntKind.wrap_u64]; omega
          have p2 : (Q : Int) - 4503599627370496 = (P : Int) := by omega
          obtain ⟨R, hR⟩ : ∃ R : Nat, TT + P = R := ⟨_, rfl⟩
          have pT : IntKind.u64.wrap (TT : Int) = (TT : Int) := by rw [IntKind.wrap_u64]; omega
          have p3 : IntKind.u64.wrap ((TT : Int) + (P : Int)) = (R : Int) := by rw [IntKind.wrap_u64]; omega
          have p4 : (TT : Int) + (P : Int) = (R : Int) := by omega
          have p5 : IntKind.u64.wrap (R : Int) = (R : Int) := by rw [IntKind.wrap_u64]; omega
          have zo : bits .or .u64 9223372036854775808 (R : Int) = 9223372036854775808 + (R : Int) := or_top R (by omega)
          have hfr := (show ∀ w : World, (callFunc 66 #[.int .u64 (9223372036854775808 + (R : Int))]).run Tryd.prog w = .ok (.value (.float .f64 (9223372036854775808 + R))) w from ffrom_run (9223372036854775808 + R))
          have hv := Aside.mk (show M = R from by rw [hM]; rw [r2 (by omega) (by omega), hrn]; exact mk_val e4 hT hTT hP hR)
          clear r1 r2 r3 r4 hM
          clear hrn hP hR e1 e2 e3 e4 hTT hg hk0
          go_wp2
          go_ret
          refine ⟨?_, rfl⟩
          rw [hv.out]
          first | rfl | (simp; done) | trace_state
        · rw [if_neg (by omega)] at hrn
          have x1 : decide ((9223372036854775808 : Int) < (r : Int)) = false := decide_eq_false (by omega)
          have x2 : ((r : Int) == 9223372036854775808) = false := by rw [beq_eq_false_iff_ne]; omega
          obtain ⟨V, hV⟩ : ∃ V : Nat, Q = V := ⟨_, rfl⟩
          subst hV
          clear hlt
          obtain ⟨P, hP⟩ : ∃ P : Nat, Q = 4503599627370496 + P := ⟨Q - 4503599627370496, by omega⟩
          have p1 : IntKind.u64.wrap ((Q : Int) - 4503599627370496) = (P : Int) := by rw [IntKind.wrap_u64]; omega
          have p2 : (Q : Int) - 4503599627370496 = (P : Int) := by omega
          obtain ⟨R, hR⟩ : ∃ R : Nat, TT + P = R := ⟨_, rfl⟩
          have pT : IntKind.u64.wrap (TT : Int) = (TT : Int) := by rw [IntKind.wrap_u64]; omega
          have p3 : IntKind.u64.wrap ((TT : Int) + (P : Int)) = (R : Int) := by rw [IntKind.wrap_u64]; omega
          have p4 : (TT : Int) + (P : Int) = (R : Int) := by omega
          have p5 : IntKind.u64.wrap (R : Int) = (R : Int) := by rw [IntKind.wrap_u64]; omega
          have zo : bits .or .u64 9223372036854775808 (R : Int) = 9223372036854775808 + (R : Int) := or_top R (by omega)
          have hfr := (show ∀ w : World, (callFunc 66 #[.int .u64 (9223372036854775808 + (R : Int))]).run Tryd.prog w = .ok (.value (.float .f64 (9223372036854775808 + R))) w from ffrom_run (9223372036854775808 + R))
          have hv := Aside.mk (show M = R from by rw [hM]; rw [r2 (by omega) (by omega), hrn]; exact mk_val e4 hT hTT hP hR)
          clear r1 r2 r3 r4 hM
          clear hrn hP hR e1 e2 e3 e4 hTT hg hk0
          go_wp2
          go_ret
          refine ⟨?_, rfl⟩
          rw [hv.out]
          first | rfl | (simp; done) | trace_state
      have y5 : decide (t < -1022) = true := decide_eq_true (by omega)
      have w3 : wrap64 (-1022 - t) = -1022 - t := hw64 _ (by omega) (by omega)
      have w4 : wrap64 (53 - (-1022 - t)) = 53 - (-1022 - t) := hw64 _ (by omega) (by omega)
      by_cases e5 : t < -1075
      · obtain ⟨K, hK⟩ : ∃ K : Int, 53 - (-1022 - t) = K := ⟨_, rfl⟩
        have y6 : decide (K < 0) = true := decide_eq_true (by omega)
        have hv := Aside.mk (show M = 0 from by rw [hM]; exact r3 e5)
        clear r1 r2 r3 r4 hM
        clear e1 e2 e3 e4 e5 hg
        have hfr := (show ∀ w : World, (callFunc 66 #[.int .u64 (9223372036854775808)]).run Tryd.prog w = .ok (.value (.float .f64 (9223372036854775808))) w from ffrom_run (9223372036854775808))
        go_wp2
        go_ret
        refine ⟨?_, rfl⟩
        rw [hv.out]
        first | rfl | (simp; done) | trace_state
      obtain ⟨K, hK⟩ : ∃ K : Nat, 53 - (-1022 - t) = (K : Int) := ⟨(t + 1075).toNat, by omega⟩
      have hKt : (1075 + t).toNat = K := by omega
      rw [hKt] at r4
      by_cases e6 : K = 0
      · obtain rfl : K = 0 := by omega
        replace hK : 53 - (-1022 - t) = 0 := hK
        obtain ⟨Q, r, _, hr, hrn, _, _, hQ0, _⟩ := mk_parts U 0 (by omega) hUl (by decide)
        obtain rfl := hQ0 rfl
        have hrU : r = U := by have := hr 0 rfl; rw [Int.pow_zero, Int.mul_one, IntKind.wrap_u64] at this; omega
        subst hrU
        clear hr
        by_cases hb : 9223372036854775808 < r
        · rw [if_pos (by omega)] at hrn
          have x1 : decide ((9223372036854775808 : Int) < (r : Int)) = true := decide_eq_true (by omega)
          have zw : IntKind.u64.wrap (r : Int) = (r : Int) := by rw [IntKind.wrap_u64]; omega
          have zo : bits .or .u64 9223372036854775808 1 = 9223372036854775809 := or_top 1 (by decide)
          have hfr := (show ∀ w : World, (callFunc 66 #[.int .u64 (9223372036854775809)]).run Tryd.prog w = .ok (.value (.float .f64 (9223372036854775809))) w from ffrom_run (9223372036854775809))
          have hv := Aside.mk (show M = 1 from by rw [hM]; rw [r4 (by omega) (by omega), hrn])
          clear r1 r2 r3 r4 hM
          clear hrn e1 e2 e3 e4 e5 hg hKt
          go_wp2
          go_ret
          refine ⟨?_, rfl⟩
          rw [hv.out]
          first | rfl | (simp; done) | trace_state
        rw [if_neg (by omega)] at hrn
        have x1 : decide ((9223372036854775808 : Int) < (r : Int)) = false := decide_eq_false (by omega)
        have x2 : ((r : Int) == 9223372036854775808) = true := by rw [beq_iff_eq]; omega
        have x3 : (bits .and .u64 0 1 == 1) = false := by rw [show bits .and .u64 0 1 = 0 from and_one 0 (by decide)]; rfl
        have zw : IntKind.u64.wrap (r : Int) = (r : Int) := by rw [IntKind.wrap_u64]; omega
        have zo : bits .or .u64 9223372036854775808 0 = 9223372036854775808 := or_top 0 (by decide)
        have hfr := (show ∀ w : World, (callFunc 66 #[.int .u64 (9223372036854775808)]).run Tryd.prog w = .ok (.value (.float .f64 (9223372036854775808))) w from ffrom_run (9223372036854775808))
        have hv := Aside.mk (show M = 0 from by rw [hM]; rw [r4 (by omega) (by omega), hrn])
        clear r1 r2 r3 r4 hM
        clear hrn e1 e2 e3 e4 e5 hg hKt
        go_wp2
        go_ret
        refine ⟨?_, rfl⟩
        rw [hv.out]
        first | rfl | (simp; done) | trace_state
      obtain ⟨Q, r, hq, hr, hrn, hQl, _, _, hQs⟩ := mk_parts U K (by omega) hUl (by omega)
      replace hq := hq (by omega)
      obtain ⟨d, hd⟩ : ∃ d : Nat, d = 64 - K := ⟨_, rfl⟩
      rw [← hd] at hq
      have hd2 : 64 - (K : Int) = (d : Int) := by omega
      have hdl : d ≤ 63 := by omega
      have y6 : decide ((K : Int) < 0) = false := decide_eq_false (by omega)
      have y7 : decide ((0 : Int) < (K : Int)) = true := decide_eq_true (by omega)
      have hKl : K ≤ 52 := by omega
      have hall : (9223372036854775808 < r) ∨ (r = 9223372036854775808 ∧ Q % 2 = 1) ∨ (r = 9223372036854775808 ∧ Q % 2 = 0) ∨ (r < 9223372036854775808) := by omega
      rcases hall with hlt | hlt | hlt | hlt
      · rw [if_pos (by omega)] at hrn
        have x1 : decide ((9223372036854775808 : Int) < (r : Int)) = true := decide_eq_true (by omega)
        obtain ⟨V, hV⟩ : ∃ V : Nat, Q + 1 = V := ⟨_, rfl⟩
        have x4 : IntKind.u64.wrap ((Q : Int) + 1) = (V : Int) := by rw [IntKind.wrap_u64]; omega
        have x5 : (Q : Int) + 1 = (V : Int) := by omega
        rw [hV] at hrn
        clear hlt
        have zo : bits .or .u64 9223372036854775808 (V : Int) = 9223372036854775808 + (V : Int) := or_top V (by omega)
        have hfr := (show ∀ w : World, (callFunc 66 #[.int .u64 (9223372036854775808 + (V : Int))]).run Tryd.prog w = .ok (.value (.float .f64 (9223372036854775808 + V))) w from ffrom_run (9223372036854775808 + V))
        have hv := Aside.mk (show M = V from by rw [hM]; rw [r4 (by omega) (by omega), hrn])
        clear r1 r2 r3 r4 hM
        clear hrn e1 e2 e3 e4 e5 e6 hg hd hKt hQs
        clear hV
        go_wp2
        go_ret
        refine ⟨?_, rfl⟩
        rw [hv.out]
        first | rfl | (simp; done) | trace_state
      · rw [if_pos (by omega)] at hrn
        have x1 : decide ((9223372036854775808 : Int) < (r : Int)) = false := decide_eq_false (by omega)
        have x2 : ((r : Int) == 9223372036854775808) = true := by rw [beq_iff_eq]; omega
        have x3 : (bits .and .u64 (Q : Int) 1 == 1) = true := sh_odd (by omega) (by omega)
        obtain ⟨V, hV⟩ : ∃ V : Nat, Q + 1 = V := ⟨_, rfl⟩
        have x4 : IntKind.u64.wrap ((Q : Int) + 1) = (V : Int) := by rw [IntKind.wrap_u64]; omega
        have x5 : (Q : Int) + 1 = (V : Int) := by omega
        rw [hV] at hrn
        clear hlt
        have zo : bits .or .u64 9223372036854775808 (V : Int) = 9223372036854775808 + (V : Int) := or_top V (by omega)
        have hfr := (show ∀ w : World, (callFunc 66 #[.int .u64 (9223372036854775808 + (V : Int))]).run Tryd.prog w = .ok (.value (.float .f64 (9223372036854775808 + V))) w from ffrom_run (9223372036854775808 + V))
        have hv := Aside.mk (show M = V from by rw [hM]; rw [r4 (by omega) (by omega), hrn])
        clear r1 r2 r3 r4 hM
        clear hrn e1 e2 e3 e4 e5 e6 hg hd hKt hQs
        clear hV
        go_wp2
        go_ret
        refine ⟨?_, rfl⟩
        rw [hv.out]
        first | rfl | (simp; done) | trace_state
      · rw [if_neg (by omega)] at hrn
        have x1 : decide ((9223372036854775808 : Int) < (r : Int)) = false := decide_eq_false (by omega)
        have x2 : ((r : Int) == 9223372036854775808) = true := by rw [beq_iff_eq]; omega
        have x3 : (bits .and .u64 (Q : Int) 1 == 1) = false := sh_even (by omega) (by omega)
        obtain ⟨V, hV⟩ : ∃ V : Nat, Q = V := ⟨_, rfl⟩
        subst hV
        clear hlt
        have zo : bits .or .u64 9223372036854775808 (Q : Int) = 9223372036854775808 + (Q : Int) := or_top Q (by omega)
        have hfr := (show ∀ w : World, (callFunc 66 #[.int .u64 (9223372036854775808 + (Q : Int))]).run Tryd.prog w = .ok (.value (.float .f64 (9223372036854775808 + Q))) w from ffrom_run (9223372036854775808 + Q))
        have hv := Aside.mk (show M = Q from by rw [hM]; rw [r4 (by omega) (by omega), hrn])
        clear r1 r2 r3 r4 hM
        clear hrn e1 e2 e3 e4 e5 e6 hg hd hKt hQs
        go_wp2
        go_ret
        refine ⟨?_, rfl⟩
        rw [hv.out]
        first | rfl | (simp; done) | trace_state
      · rw [if_neg (by omega)] at hrn
        have x1 : decide ((9223372036854775808 : Int) < (r : Int)) = false := decide_eq_false (by omega)
        have x2 : ((r : Int) == 9223372036854775808) = false := by rw [beq_eq_false_iff_ne]; omega
        obtain ⟨V, hV⟩ : ∃ V : Nat, Q = V := ⟨_, rfl⟩
        subst hV
        clear hlt
        have zo : bits .or .u64 9223372036854775808 (Q : Int) = 9223372036854775808 + (Q : Int) := or_top Q (by omega)
        have hfr := (show ∀ w : World, (callFunc 66 #[.int .u64 (9223372036854775808 + (Q : Int))]).run Tryd.prog w = .ok (.value (.float .f64 (9223372036854775808 + Q))) w from ffrom_run (9223372036854775808 + Q))
        have hv := Aside.mk (show M = Q from by rw [hM]; rw [r4 (by omega) (by omega), hrn])
        clear r1 r2 r3 r4 hM
        clear hrn e1 e2 e3 e4 e5 e6 hg hd hKt hQs
        go_wp2
        go_ret
        refine ⟨?_, rfl⟩
        rw [hv.out]
        first | rfl | (simp; done) | trace_state
theorem refMake_any (m e : Int) (h1 : -9223372036854775808 ≤ m) (h2 : m ≤ 9223372036854775807) (w : World) : Calls Tryd.prog 65 #[.int .i64 m, .int .i64 e] w fun r w' => r = .returned (.float .f64 (mkW m e)) ∧ w' = w := by
  by_cases m0 : m = 0
  · subst m0
    rw [mkW_zero]
    exact refMake_zero e w
  obtain ⟨u, hu⟩ : ∃ u : Nat, u = m.natAbs := ⟨_, rfl⟩
  have h0 : 0 < u := by omega
  have hW : mkW m e = Ieee.double.word (decide (m < 0)) (mkR u e) := by unfold mkW; rw [if_neg m0, ← hu]
  rw [hW, word_eq]
  by_cases hn : m < 0
  · rw [decide_eq_true hn, if_pos rfl]
    obtain rfl : m = -(u : Int) := by omega
    exact refMake_neg u h0 (by omega) e w
  · rw [decide_eq_false hn, if_neg (by decide)]
    obtain rfl : m = (u : Int) := by omega
    exact refMake_pos u h0 (by omega) e w
end Go.Proofs.YtcpfangcibilaaaDoor
