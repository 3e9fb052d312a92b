/- Go's library: the parts of usual numbers (Frexp, Ldexp, trailing zeros), walked. No condition but the table's cells. -/
import Derived.Test.YtcpfangcibilaaaDoorQg
import Derived.Lib.TrailingZeros
namespace Go.Proofs.YtcpfangcibilaaaDoor
set_option linter.unusedVariables false
set_option linter.unusedSimpArgs false
open Go.RowKit

def TabC (w : World) : Prop := ∀ i : Nat, i < 64 → w.cell? ⟨4, i, none⟩ = some (.int .u8 ((Lib.deBruijn64tab.getD i 0 : Nat) : Int))
set_option maxHeartbeats 800000 in
theorem tz64_any (x : Nat) (h0 : x ≠ 0) (hx : x < 18446744073709551616) (w : World) (hT : TabC w) : Calls Tryd.prog 93 #[.int .u64 (x : Int)] w fun e w' => e = .returned (.int .i64 ((Lib.ctz 64 x : Nat) : Int)) ∧ w' = w := by
  obtain ⟨l1, l2⟩ := Lib.lowest_bit 64 x h0 hx
  obtain ⟨l3, l4⟩ := Lib.deBruijn64_at _ l2
  obtain ⟨k, hk⟩ : ∃ k, k = Lib.ctz 64 x := ⟨_, rfl⟩
  rw [← hk] at l1 l2 l3 l4 ⊢
  obtain ⟨p, hp⟩ : ∃ p, p = 2 ^ k := ⟨_, rfl⟩
  rw [← hp] at l1 l3 l4
  obtain ⟨q, hq⟩ : ∃ q, q = p * 285870213051353865 % 18446744073709551616 := ⟨_, rfl⟩
  rw [← hq] at l3 l4
  obtain ⟨j, hj⟩ : ∃ j, j = q / 288230376151711744 := ⟨_, rfl⟩
  rw [← hj] at l3 l4
  have hc := hT j l3
  rw [l4] at hc
  have z0 : ((x : Int) == 0) = false := by rw [beq_eq_false_iff_ne]; omega
  have z1 : IntKind.u64.wrap (-(x : Int)) = ((18446744073709551616 - x : Nat) : Int) := by rw [IntKind.wrap_u64]; omega
  have z1' : IntKind.u64.wrap (0 - (x : Int)) = ((18446744073709551616 - x : Nat) : Int) := by rw [IntKind.wrap_u64]; omega
  have z2 : bits .and .u64 (x : Int) ((18446744073709551616 - x : Nat) : Int) = (p : Int) := by
    rw [u64_and_nat x _ hx (by omega)]; congr 1
  have z3 : IntKind.u64.wrap ((p : Int) * 285870213051353865) = (q : Int) := by rw [IntKind.wrap_u64, hq]; omega
  have z4 : (q : Int) / 288230376151711744 = (j : Int) := by omega
  generalize 18446744073709551616 - x = nx at *
  clear hk hp hq hj l1 l4 hT
  go_enter Tryd.func93, Tryd.ntmps93
  go_wp2
  go_ret
  exact ⟨rfl, rfl⟩
theorem norm_any (x : Nat) (hx : x < 18446744073709551616) (h1 : 4503599627370496 ≤ rung x) (h2 : rung x < INF) (w : World) : Calls Tryd.prog 107 #[.float .f64 x] w fun e w' => e = .returned (.tuple #[.float .f64 x, .int .i64 0]) ∧ w' = w := by
  have hn : isn x = false := decide_eq_false (by omega)
  have z : (FloatKind.f64.format.order (rung x) 4503599627370496 == some .lt) = false := by
    have := small_test (rung x) (rung_lt x) (by rw [isn_rung]; exact hn)
    rw [decide_eq_false (by omega)] at this
    exact this
  go_enter Tryd.func107, Tryd.ntmps107
  go_wp2_with (first | (go_at_call 30; refine (abs_any x hx _).mono ?_; rintro e_ w_ ⟨rfl, rfl⟩; ))
  go_ret2
  exact ⟨rfl, rfl⟩
set_option maxRecDepth 100000 in
set_option maxHeartbeats 800000 in
theorem frexp0_any (x : Nat) (hx : x < 18446744073709551616) (h1 : 4503599627370496 ≤ rung x) (h2 : rung x < INF) (w : World) : Calls Tryd.prog 104 #[.float .f64 x] w fun e w' => e = .returned (.tuple #[.float .f64 ((if sgn x then 9223372036854775808 else 0) + (4602678819172646912 + rung x % 4503599627370496)), .int .i64 (((rung x / 4503599627370496 : Nat) : Int) - 1022)]) ∧ w' = w := by
  have hp : INF = 9218868437227405312 := rfl
  have hb := fbits_run x
  have hn : isn x = false := decide_eq_false (by omega)
  have z1 : (FloatKind.f64.format.order x 0 == some .eq) = false := (zero_test x).trans (decide_eq_false (by omega))
  have z2 : decide (rung x = INF) = false := decide_eq_false (by omega)
  have ze := ref_expo x hx
  have zc := bits_clear x hx
  have zo := bits_parts (sgn x) 1022 (rung x % 4503599627370496) (by decide) (by omega)
  obtain ⟨S, hS⟩ : ∃ S : Nat, S = (if sgn x then 9223372036854775808 else 0) := ⟨_, rfl⟩
  obtain ⟨f, hf⟩ : ∃ f : Nat, f = rung x % 4503599627370496 := ⟨_, rfl⟩
  obtain ⟨E, hE⟩ : ∃ E : Nat, E = rung x / 4503599627370496 := ⟨_, rfl⟩
  have hE1 : 1 ≤ E := by omega
  have hE2 : E ≤ 2046 := by omega
  rw [← hS, ← hf] at zc zo
  rw [← hE] at ze
  rw [← hS, ← hf, ← hE]
  have zc : bits .andNot .u64 (x : Int) 9218868437227405312 = (S : Int) + (f : Int) := zc
  have zo : bits .or .u64 ((S : Int) + (f : Int)) 4602678819172646912 = (S : Int) + (4602678819172646912 + (f : Int)) := zo
  have hfr := (show ∀ w : World, (callFunc 66 #[.int .u64 ((S : Int) + (4602678819172646912 + (f : Int)))]).run Tryd.prog w = .ok (.value (.float .f64 (S + (4602678819172646912 + f)))) w from ffrom_run (S + (4602678819172646912 + f)))
  have hzE : (0 : Int) + ((E : Int) - 1023 + 1) = (E : Int) - 1022 := by omega
  clear hS hf hE
  go_enter Tryd.func104, Tryd.ntmps104
  go_wp2_with (first | (go_at_call 47; refine (isInf_any x hx _).mono ?_; rintro e_ w_ ⟨rfl, rfl⟩; ) | (go_at_call 87; refine (isNaN_any x _).mono ?_; rintro e_ w_ ⟨rfl, rfl⟩; ) | (go_at_call 107; refine (norm_any x hx h1 h2 _).mono ?_; rintro e_ w_ ⟨rfl, rfl⟩; ))
  go_ret2
  exact ⟨by first | rfl | (rw [← hzE]; rfl) | (congr 3; omega), rfl⟩
end Go.Proofs.YtcpfangcibilaaaDoor
