/- Numbers of 64 bits: their kinds, their order, the tests of Go's library on them. Plain laws. No condition. -/
import Derived.Test.YtcpfangcibilaaaDoorFb
namespace Go.Proofs.YtcpfangcibilaaaDoor
set_option linter.unusedVariables false
set_option linter.unusedSimpArgs false
open Ieee

/-- A number's rank: ranks rise with the numbers, the negative zero is below the other one. -/
def rk (x : Nat) : Int := if sgn x then -(rung x : Int) - 1 else (rung x : Int)
def lessW (x y : Nat) : Bool := !isn x && (isn y || decide (rk x < rk y))
def sameW (x y : Nat) : Bool := isn x && isn y || decide (x = y)
/-- What a number is. -/
def kindN (x : Nat) : Int := if INF < rung x then 1 else if rung x = INF then 2 else if rung x = 0 then 3 else if rung x < 4503599627370496 then 4 else 5
def kindS (x : Nat) : Bool := !isn x && sgn x
theorem rung_lt (x : Nat) : rung x < 9223372036854775808 := Nat.mod_lt _ (by decide)
theorem sgn_true {x : Nat} (hx : x < 18446744073709551616) (h : sgn x = true) : x = rung x + 9223372036854775808 := by
  have h' : x / 9223372036854775808 % 2 = 1 := by unfold sgn at h; simpa using h
  unfold rung; omega
theorem sgn_false {x : Nat} (hx : x < 18446744073709551616) (h : sgn x = false) : x = rung x := by
  have h' : ¬ x / 9223372036854775808 % 2 = 1 := by unfold sgn at h; simpa using h
  unfold rung; omega
theorem isn_false {x : Nat} (h : isn x = false) : rung x ≤ INF := by unfold isn at h; simpa using h
theorem isn_true {x : Nat} (h : isn x = true) : INF < rung x := by unfold isn at h; simpa using h
theorem nan_test (x : Nat) : (double.order x x == some .eq) = !isn x := by rw [eq_eq]; simp
theorem nan_test' (x : Nat) : (double.order x x != some .eq) = isn x := by unfold bne; rw [nan_test]; simp
theorem sr_max : sr 9218868437227405311 = 9218868437227405311 := by decide
theorem sr_nmax : sr 18442240474082181119 = -9218868437227405311 := by decide
theorem inf_hi (x : Nat) : (double.order x 9218868437227405311 == some .gt) = (!sgn x && decide (rung x = INF)) := by
  rw [gt_eq, sr_max, show isn 9218868437227405311 = false by decide]
  unfold isn sr sg
  have hp : INF = 9218868437227405312 := rfl
  cases sgn x <;> by_cases h1 : INF < rung x <;> by_cases h2 : rung x = INF <;> simp [h1, h2] <;> omega
theorem inf_lo (x : Nat) : (double.order x 18442240474082181119 == some .lt) = (sgn x && decide (rung x = INF)) := by
  rw [lt_eq, sr_nmax, show isn 18442240474082181119 = false by decide]
  unfold isn sr sg
  have hp : INF = 9218868437227405312 := rfl
  cases sgn x <;> by_cases h1 : INF < rung x <;> by_cases h2 : rung x = INF <;> simp [h1, h2] <;> omega
theorem zero_test (x : Nat) : (double.order x 0 == some .eq) = decide (rung x = 0) := by
  rw [eq_eq, show isn 0 = false by decide, show sr 0 = 0 by decide]
  unfold isn sr sg
  have hp : INF = 9218868437227405312 := rfl
  cases sgn x <;> by_cases h1 : INF < rung x <;> by_cases h2 : rung x = 0 <;> simp [h1, h2] <;> omega
theorem small_test (x : Nat) (h : x < 9223372036854775808) (hn : isn x = false) : (double.order x 4503599627370496 == some .lt) = decide (x < 4503599627370496) := by
  have hs : sgn x = false := by unfold sgn; have : x / 9223372036854775808 % 2 = 0 := by omega
                                simp [this]
  have hr : rung x = x := Nat.mod_eq_of_lt h
  rw [lt_eq, hn, show isn 4503599627370496 = false by decide, show sr 4503599627370496 = 4503599627370496 by decide]
  unfold sr sg
  rw [hs, hr]
  simp only [Bool.not_false, Bool.true_and, Bool.false_eq_true, if_false]
  congr 1
  simp only [eq_iff_iff]
  omega
theorem less_eq {x y : Nat} (hx : isn x = false) (hy : isn y = false) : lessW x y = if sr x = sr y then sgn x && !sgn y else decide (sr x < sr y) := by
  unfold lessW rk sr sg
  rw [hx, hy]
  cases h1 : sgn x <;> cases h2 : sgn y <;> simp only [Bool.not_false, Bool.not_true, Bool.true_and, Bool.and_true, Bool.and_false, Bool.false_or, Bool.false_and, if_true, if_false, Bool.false_eq_true] <;> split <;> first | exact decide_eq_false (by omega) | exact decide_eq_true (by omega) | rfl | (congr 1; done) | (congr 1; simp only [eq_iff_iff]; omega)
theorem sr_eq_rung {x y : Nat} (h : sr x = sr y) : rung x = rung y := by
  unfold sr sg at h; split at h <;> split at h <;> omega
theorem lessW_irrefl (x : Nat) : lessW x x = false := by unfold lessW; cases isn x <;> simp
theorem sameW_self (x : Nat) : sameW x x = true := by unfold sameW; simp
end Go.Proofs.YtcpfangcibilaaaDoor
