/- FltKinds but for its first examples; Round, Whole of package flt and of the document, walked. No condition. -/
import Derived.Test.YtcpfangcibilaaaDoorQc
namespace Go.Proofs.YtcpfangcibilaaaDoor
set_option linter.unusedVariables false
set_option linter.unusedSimpArgs false
open Go.RowKit

/-- What the library hands back for a number's nearest whole one. -/
def RoundsTo (x y : Nat) : Prop := y < 18446744073709551616 ∧ (isn x = true → isn y = true) ∧ (isn x = false → y = roundW x)
theorem ref_sign (x : Nat) (hx : x < 18446744073709551616) : (x : Int) / 9223372036854775808 * 9223372036854775808 = (((if sgn x then 9223372036854775808 else 0 : Nat)) : Int) := by
  rw [← sign_eq hx]; omega
set_option maxRecDepth 100000 in
set_option maxHeartbeats 1000000 in
theorem refRound_any (x : Nat) (hx : x < 18446744073709551616) (w : World) : Calls Tryd.prog 38 #[.float .f64 x] w fun e w' => e = .returned (.float .f64 (roundW x)) ∧ w' = w := by
  have h1 := fbits_run x
  have hr := rung_lt x
  have ze := ref_expo x hx
  have zs := ref_sign x hx
  obtain ⟨E, hE⟩ : ∃ E : Nat, E = rung x / 4503599627370496 := ⟨_, rfl⟩
  obtain ⟨S, hS⟩ : ∃ S : Nat, S = (if sgn x then 9223372036854775808 else 0) := ⟨_, rfl⟩
  rw [← hE] at ze
  rw [← hS] at zs
  have hEl : E ≤ 2047 := by omega
  have hSl : S ≤ 9223372036854775808 := by rw [hS]; split <;> omega
  by_cases c1 : 1075 ≤ E
  · have z1 : decide ((1075 : Int) ≤ (E : Int)) = true := decide_eq_true (by omega)
    have hw := roundW_great hx (by omega)
    rw [hw]
    clear hE hS
    go_enter Tryd.func38, Tryd.ntmps38
    go_wp2
    go_ret
    exact ⟨rfl, rfl⟩
  have z1 : decide ((1075 : Int) ≤ (E : Int)) = false := decide_eq_false (by omega)
  by_cases c2 : E < 1022
  · have z2 : decide ((E : Int) < 1022) = true := decide_eq_true (by omega)
    have hw : roundW x = S := by rw [roundW_small (x := x) (by omega), hS]
    have h2 := ffrom_run S
    rw [hw]
    clear hE hS hw
    go_enter Tryd.func38, Tryd.ntmps38
    go_wp2
    go_ret
    exact ⟨rfl, rfl⟩
  have z2 : decide ((E : Int) < 1022) = false := decide_eq_false (by omega)
  by_cases c3 : E = 1022
  · have hw := roundW_half (x := x) (by omega)
    rw [← hS] at hw
    have zm := ref_mant x
    by_cases c4 : rung x % 4503599627370496 = 0
    · rw [if_pos c4, Nat.add_zero] at hw
      rw [c4] at zm
      have h2 := ffrom_run S
      rw [hw]
      subst c3
      clear hE hS hw c4
      go_enter Tryd.func38, Tryd.ntmps38
      go_wp2
      go_ret
      exact ⟨rfl, rfl⟩
    · rw [if_neg c4] at hw
      obtain ⟨M, hM⟩ : ∃ M : Int, M = ((rung x % 4503599627370496 : Nat) : Int) * 4096 := ⟨_, rfl⟩
      have zM : (M == 0) = false := by rw [beq_eq_false_iff_ne]; omega
      rw [← hM] at zm
      have zo : bits .or .u64 (S : Int) 4607182418800017408 = (S : Int) + 4607182418800017408 := by
        have := bits_parts (sgn x) 1023 0 (by decide) (by decide)
        rw [← hS] at this
        exact this
      have h2 := (show ∀ w : World, (callFunc 66 #[.int .u64 ((S : Int) + 4607182418800017408)]).run Tryd.prog w = .ok (.value (.float .f64 (S + 4607182418800017408))) w from ffrom_run (S + 4607182418800017408))
      rw [hw]
      subst c3
      clear hE hS hw c4 hM
      go_enter Tryd.func38, Tryd.ntmps38
      go_wp2
      go_ret
      exact ⟨rfl, rfl⟩
  · have z3 : ((E : Int) == 1022) = false := by rw [beq_eq_false_iff_ne]; omega
    have hw := roundW_mid hx (1075 - E) (by omega) (by omega) (by omega)
    obtain ⟨g, hg⟩ : ∃ g : Nat, g = 2 ^ (1075 - E) := ⟨_, rfl⟩
    obtain ⟨g1, hg1⟩ : ∃ g : Nat, g = 2 ^ (1075 - E - 1) := ⟨_, rfl⟩
    obtain ⟨l, hl⟩ : ∃ l : Nat, l = x % g := ⟨_, rfl⟩
    obtain ⟨y, hy⟩ : ∃ y : Nat, y = x - l := ⟨_, rfl⟩
    obtain ⟨q, hq⟩ : ∃ q : Nat, q = x / g := ⟨_, rfl⟩
    have hgb : g ≤ 4503599627370496 := by rw [hg, show 4503599627370496 = 2 ^ 52 by decide]; exact Nat.pow_le_pow_right (by decide) (by omega)
    have hg0 : 0 < g := by rw [hg]; exact Nat.two_pow_pos _
    have hgg : g = 2 * g1 := by rw [hg, hg1, show 1075 - E = (1075 - E - 1) + 1 by omega, Nat.pow_succ]; simp; omega
    have hlx : l ≤ x := by rw [hl]; exact Nat.mod_le _ _
    have hlg : l < g := by rw [hl]; exact Nat.mod_lt _ hg0
    have hyq : y = g * q := by have := Nat.div_add_mod x g; rw [hy, hl, hq]; omega
    have e1 : ((2 : Int) ^ (1075 - E)) = (g : Int) := by rw [hg]; simp
    have e2 : ((2 : Int) ^ (1075 - E - 1)) = (g1 : Int) := by rw [hg1]; simp
    have z4 : IntKind.u64.wrap (2 ^ (1075 - E)) = (g : Int) := by rw [e1, IntKind.wrap_u64]; omega
    have z5 : IntKind.u64.wrap (2 ^ (1075 - E - 1)) = (g1 : Int) := by rw [e2, IntKind.wrap_u64]; omega
    have z6 : IntKind.u64.wrap ((g : Int) - 1) = ((g - 1 : Nat) : Int) := by rw [IntKind.wrap_u64]; omega
    have z7 : bits .and .u64 (x : Int) ((g - 1 : Nat) : Int) = (l : Int) := by
      rw [u64_and_nat x _ hx (by omega), hg, and_low x (1075 - E), ← hg, hl]
    have z8 : IntKind.u64.wrap ((x : Int) - (l : Int)) = (y : Int) := by rw [IntKind.wrap_u64]; omega
    have z9 : (y : Int) / 2 ^ (1075 - E) = (q : Int) := by
      rw [e1, hyq]
      have : ((g * q : Nat) : Int) / (g : Int) = ((g * q / g : Nat) : Int) := by simp
      rw [this, Nat.mul_div_cancel_left _ hg0]
    have hql : q < 18446744073709551616 := by rw [hq]; exact Nat.lt_of_le_of_lt (Nat.div_le_self _ _) hx
    have z10 : bits .and .u64 (q : Int) 1 = ((q % 2 : Nat) : Int) := by
      have := and_low q 1
      rw [show (1 : Int) = ((1 : Nat) : Int) from rfl, u64_and_nat q 1 hql (by decide)]
      congr 1
    have hxb : x < 14064741636278059008 := by unfold rung at hE; omega
    have z11 : IntKind.u64.wrap ((y : Int) + (g : Int)) = (y : Int) + (g : Int) := by
      rw [IntKind.wrap_u64]
      have : y ≤ x := by omega
      omega
    rw [← hg, ← hg1, ← hl, ← hq, ← hy] at hw
    clear hE hS hg hg1 hl hq hyq hgg hlx e1 e2
    by_cases t1 : g1 < l
    · have y1 : decide ((g1 : Int) < (l : Int)) = true := decide_eq_true (by omega)
      have y1' : decide (g1 < l) = true := decide_eq_true t1
      rw [if_pos (.inl t1)] at hw
      have h2 := (show ∀ w : World, (callFunc 66 #[.int .u64 ((y : Int) + (g : Int))]).run Tryd.prog w = .ok (.value (.float .f64 (y + g))) w from ffrom_run (y + g))
      rw [hw]
      clear hy hlg t1 hw
      go_enter Tryd.func38, Tryd.ntmps38
      go_wp2
      go_ret
      exact ⟨rfl, rfl⟩
    have y1 : decide ((g1 : Int) < (l : Int)) = false := decide_eq_false (by omega)
    have y1' : decide (g1 < l) = false := decide_eq_false t1
    by_cases t2 : l = g1
    · have y2 : ((l : Int) == (g1 : Int)) = true := by rw [beq_iff_eq]; omega
      have y2' : (l == g1) = true := by rw [beq_iff_eq]; exact t2
      have y2'' : decide (l = g1) = true := decide_eq_true t2
      by_cases t3 : q % 2 = 1
      · rw [if_pos (.inr ⟨t2, t3⟩)] at hw
        rw [t3] at z10
        replace z10 : bits .and .u64 (q : Int) 1 = 1 := z10
        have h2 := (show ∀ w : World, (callFunc 66 #[.int .u64 ((y : Int) + (g : Int))]).run Tryd.prog w = .ok (.value (.float .f64 (y + g))) w from ffrom_run (y + g))
        rw [hw]
        clear hy hlg t1 t3 hw
        subst t2
        go_enter Tryd.func38, Tryd.ntmps38
        go_wp2
        go_ret
        exact ⟨rfl, rfl⟩
      · rw [if_neg (fun h => h.elim t1 fun h => t3 h.2), Nat.add_zero] at hw
        have h2 := ffrom_run y
        rw [hw]
        rw [show q % 2 = 0 by omega] at z10
        replace z10 : bits .and .u64 (q : Int) 1 = 0 := z10
        clear hy hlg t1 t2 t3 hw
        go_enter Tryd.func38, Tryd.ntmps38
        go_wp2
        go_ret
        exact ⟨rfl, rfl⟩
    · have y2 : ((l : Int) == (g1 : Int)) = false := by rw [beq_eq_false_iff_ne]; omega
      have y2' : (l == g1) = false := by rw [beq_eq_false_iff_ne]; exact t2
      have y2'' : decide (l = g1) = false := decide_eq_false t2
      rw [if_neg (fun h => h.elim t1 fun h => t2 h.1), Nat.add_zero] at hw
      have h2 := ffrom_run y
      rw [hw]
      clear hy hlg t1 t2 hw
      go_enter Tryd.func38, Tryd.ntmps38
      go_wp2
      go_ret
      exact ⟨rfl, rfl⟩
end Go.Proofs.YtcpfangcibilaaaDoor
