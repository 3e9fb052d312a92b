/- The document's Parts, walked. No condition. -/
import Derived.Test.YtcpfangcibilaaaDoorDh
namespace Go.Proofs.YtcpfangcibilaaaDoor
set_option linter.unusedVariables false
set_option linter.unusedSimpArgs false
open Go.RowKit

/-- A number's digits as a whole number, and the power of its last digit. -/
def mant (x : Nat) : Nat := if rung x < 4503599627370496 then rung x else 4503599627370496 + rung x % 4503599627370496
def expE (x : Nat) : Int := if rung x < 4503599627370496 then -1074 else ((rung x / 4503599627370496 : Nat) : Int) - 1075
theorem frac_bits (x : Nat) (hx : x < 18446744073709551616) : bits .and .u64 (x : Int) 4503599627370495 = ((rung x % 4503599627370496 : Nat) : Int) := by
  rw [show (4503599627370495 : Int) = ((4503599627370495 : Nat) : Int) from rfl, u64_and_nat x _ hx (by decide)]
  congr 1
  have := and_low x 52
  rw [show 2 ^ 52 - 1 = 4503599627370495 by decide, show 2 ^ 52 = 4503599627370496 by decide] at this
  rw [this]; unfold rung; omega
theorem or_i64 (f : Nat) (hf : f < 4503599627370496) : bits .or .i64 (f : Int) 4503599627370496 = (f : Int) + 4503599627370496 := by
  have h := (bits_nat .i64 63 (by decide) (fun n h0 h1 => by rw [IntKind.wrap_i64]; omega) f 4503599627370496 (by omega) (by decide)).2
  have h2 : f ||| 4503599627370496 = f + 4503599627370496 := by rw [Nat.or_comm, nat_join 52 _ _ (by decide) (by omega), Nat.add_comm]
  rw [h2] at h
  exact h
set_option maxRecDepth 100000 in
set_option maxHeartbeats 1000000 in
theorem refParts_any (x : Nat) (hx : x < 18446744073709551616) (h1 : rung x < INF) (h0 : 0 < rung x) (w : World) : Calls Tryd.prog 63 #[.float .f64 x] w fun e w' => ∃ (q z : Nat), q % 2 = 1 ∧ mant x = q * 2 ^ z ∧ e = .returned (.tuple #[.int .i64 (sg (sgn x) q), .int .i64 (expE x + z), .bool true]) ∧ w' = w := by
  have hp : INF = 9218868437227405312 := rfl
  have hb := fbits_run x
  have ze := ref_expo x hx
  have zf := frac_bits x hx
  have zs := ref_sgn x hx
  obtain ⟨E, hE⟩ : ∃ E : Nat, E = rung x / 4503599627370496 := ⟨_, rfl⟩
  obtain ⟨f, hf⟩ : ∃ f : Nat, f = rung x % 4503599627370496 := ⟨_, rfl⟩
  rw [← hE] at ze
  rw [← hf] at zf
  have hfl : f < 4503599627370496 := by omega
  have hEl : E ≤ 2046 := by omega
  have zo := or_i64 f hfl
  have y1 : ((E : Int) == 2047) = false := by rw [beq_eq_false_iff_ne]; omega
  by_cases c0 : E = 0
  · have hm : mant x = f := by unfold mant; rw [if_pos (by omega)]; omega
    have he : expE x = -1074 := by unfold expE; rw [if_pos (by omega)]
    have hf0 : 0 < f := by omega
    have y3 : ((f : Int) == 0) = false := by rw [beq_eq_false_iff_ne]; omega
    rw [hm, he]
    subst c0
    clear hE hf hm he
    go_enter Tryd.func63, Tryd.ntmps63
    go_wp2
    go_loopw [6, 7] (fun e m w2 => ∃ c z : Nat, 0 < c ∧ f = c * 2 ^ z ∧ e = .int .i64 ((-1074 : Int) + z) ∧ m = .int .i64 c ∧ w2 = w) (fun _ m _ => (intOf m).toNat)
    case atStart => exact ⟨f, 0, by omega, by simp, by simp, rfl, rfl⟩
    case round =>
      obtain ⟨c, z, hc, hcz, rfl, rfl, rfl⟩ := hrel
      have hcl : c < 9007199254740992 := by
        have := Nat.le_mul_of_pos_right c (Nat.two_pow_pos z)
        omega
      have hz : z ≤ 52 := by
        rcases Nat.lt_or_ge z 53 with h | h
        · omega
        · have h3 : 2 ^ 53 ≤ 2 ^ z := Nat.pow_le_pow_right (by decide) h
          have h4 := Nat.le_mul_of_pos_left (2 ^ z) hc
          rw [show 2 ^ 53 = 9007199254740992 by decide] at h3
          omega
      by_cases h : c % 2 = 0
      · have z1 : ((c : Int).tmod 2 == 0) = true := by rw [beq_iff_eq, Int.tmod_eq_emod_of_nonneg (by omega)]; omega
        have z2 : (c : Int).tdiv 2 = ((c / 2 : Nat) : Int) := by rw [Int.tdiv_eq_ediv_of_nonneg (by omega)]; omega
        have hcz2 : f = (c / 2) * 2 ^ (z + 1) := by
          rw [hcz, Nat.pow_succ]
          have h5 : c = 2 * (c / 2) := by omega
          conv => lhs; rw [h5]
          generalize 2 ^ z = g
          rw [Nat.mul_comm 2, Nat.mul_assoc, Nat.mul_comm 2 g]
        have hcz2 := Aside.mk hcz2
        clear hcz
        go_wp2
        go_roundw
        case rel => exact ⟨c / 2, z + 1, by omega, hcz2.out, by go_num, rfl, by first | trivial | rfl⟩
        case measure => simp [intOf]; omega
      · have z1 : ((c : Int).tmod 2 == 0) = false := by rw [beq_eq_false_iff_ne, Int.tmod_eq_emod_of_nonneg (by omega)]; omega
        have hcz := Aside.mk hcz
        cases hs : sgn x
        · rw [hs] at zs
          go_wp2
          go_ret3
          exact ⟨c, z, by omega, hcz.out, by rw [hs]; rfl, rfl⟩
        · rw [hs] at zs
          go_wp2
          go_ret3
          exact ⟨c, z, by omega, hcz.out, by rw [hs]; rfl, rfl⟩
  · have y2 : ((E : Int) == 0) = false := by rw [beq_eq_false_iff_ne]; omega
    have y3 : ((f : Int) + 4503599627370496 == 0) = false := by rw [beq_eq_false_iff_ne]; omega
    have hm : mant x = f + 4503599627370496 := by unfold mant; rw [if_neg (by omega)]; omega
    have he : expE x = (E : Int) - 1075 := by unfold expE; rw [if_neg (by omega), hE]
    rw [hm, he]
    clear hE hf hm he
    go_enter Tryd.func63, Tryd.ntmps63
    go_wp2
    go_loopw [6, 7] (fun e m w2 => ∃ c z : Nat, 0 < c ∧ f + 4503599627370496 = c * 2 ^ z ∧ e = .int .i64 ((E : Int) - 1075 + z) ∧ m = .int .i64 c ∧ w2 = w) (fun _ m _ => (intOf m).toNat)
    case atStart => exact ⟨f + 4503599627370496, 0, by omega, by simp, by simp, rfl, rfl⟩
    case round =>
      obtain ⟨c, z, hc, hcz, rfl, rfl, rfl⟩ := hrel
      have hcl : c < 9007199254740992 := by
        have := Nat.le_mul_of_pos_right c (Nat.two_pow_pos z)
        omega
      have hz : z ≤ 52 := by
        rcases Nat.lt_or_ge z 53 with h | h
        · omega
        · have h3 : 2 ^ 53 ≤ 2 ^ z := Nat.pow_le_pow_right (by decide) h
          have h4 := Nat.le_mul_of_pos_left (2 ^ z) hc
          rw [show 2 ^ 53 = 9007199254740992 by decide] at h3
          omega
      by_cases h : c % 2 = 0
      · have z1 : ((c : Int).tmod 2 == 0) = true := by rw [beq_iff_eq, Int.tmod_eq_emod_of_nonneg (by omega)]; omega
        have z2 : (c : Int).tdiv 2 = ((c / 2 : Nat) : Int) := by rw [Int.tdiv_eq_ediv_of_nonneg (by omega)]; omega
        have hcz2 : f + 4503599627370496 = (c / 2) * 2 ^ (z + 1) := by
          rw [hcz, Nat.pow_succ]
          have h5 : c = 2 * (c / 2) := by omega
          conv => lhs; rw [h5]
          generalize 2 ^ z = g
          rw [Nat.mul_comm 2, Nat.mul_assoc, Nat.mul_comm 2 g]
        have hcz2 := Aside.mk hcz2
        clear hcz
        go_wp2
        go_roundw
        case rel => exact ⟨c / 2, z + 1, by omega, hcz2.out, by go_num, rfl, by first | trivial | rfl⟩
        case measure => simp [intOf]; omega
      · have z1 : ((c : Int).tmod 2 == 0) = false := by rw [beq_eq_false_iff_ne, Int.tmod_eq_emod_of_nonneg (by omega)]; omega
        have hcz := Aside.mk hcz
        cases hs : sgn x
        · rw [hs] at zs
          go_wp2
          go_ret3
          exact ⟨c, z, by omega, hcz.out, by rw [hs]; rfl, rfl⟩
        · rw [hs] at zs
          go_wp2
          go_ret3
          exact ⟨c, z, by omega, hcz.out, by rw [hs]; rfl, rfl⟩
end Go.Proofs.YtcpfangcibilaaaDoor
