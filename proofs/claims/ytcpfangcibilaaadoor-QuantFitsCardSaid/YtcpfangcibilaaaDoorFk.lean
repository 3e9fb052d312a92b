/- Numbers of 64 bits: differences that are exact; how near Fixed's number is. Plain laws. No condition. -/
import Derived.Test.YtcpfangcibilaaaDoorFj
namespace Go.Proofs.YtcpfangcibilaaaDoor
set_option linter.unusedVariables false
set_option linter.unusedSimpArgs false
open Ieee

/-- A number, turned. -/
def negW (y : Nat) : Nat := if sgn y then y - 9223372036854775808 else y + 9223372036854775808
theorem negW_facts {y : Nat} (hy : y < 18446744073709551616) : rung (negW y) = rung y ∧ sgn (negW y) = !sgn y ∧ negW y < 18446744073709551616 := by
  cases hs : sgn y
  · have h0 : ¬ y / 9223372036854775808 % 2 = 1 := fun h => by unfold sgn at hs; rw [h] at hs; cases hs
    have e : negW y = y + 9223372036854775808 := by unfold negW; rw [hs]; exact if_neg (by decide)
    rw [e]
    refine ⟨by unfold rung; omega, ?_, by omega⟩
    unfold sgn
    have : (y + 9223372036854775808) / 9223372036854775808 % 2 = 1 := by omega
    rw [this]; rfl
  · have h0 : y / 9223372036854775808 % 2 = 1 := by unfold sgn at hs; exact beq_iff_eq.1 hs
    have e : negW y = y - 9223372036854775808 := by unfold negW; rw [hs]; exact if_pos rfl
    rw [e]
    refine ⟨by unfold rung; omega, ?_, by omega⟩
    unfold sgn
    have : (y - 9223372036854775808) / 9223372036854775808 % 2 = 0 := by omega
    rw [this]; rfl
theorem sv_negW {y : Nat} (hy : y < 18446744073709551616) : sv (negW y) = -sv y := by
  obtain ⟨h1, h2, _⟩ := negW_facts hy
  unfold sv sg
  rw [h1, h2]
  cases sgn y <;> simp
theorem sub_add (x : Nat) {y : Nat} (hy : y < 18446744073709551616) (hf : rung y < INF) : double.sub x y = double.add x (negW y) := by
  obtain ⟨h1, h2, _⟩ := negW_facts hy
  unfold Format.sub Format.add
  have e : (double.read y).opposite = double.read (negW y) := by
    rw [read_eq, read_eq, h1, h2]
    by_cases h : rung y < 4503599627370496
    · rw [if_pos h, if_pos h]; rfl
    · rw [if_neg h, if_neg h, if_pos hf, if_pos hf]; rfl
  rw [e]
/-- A difference of what has few digits is exact. -/
theorem sub_dy {x y : Nat} {a b : Int} (e : Nat) (hx : rung x < INF) (hy : rung y < INF) (hl : y < 18446744073709551616) (ha : sv x = a * ((2 ^ e : Nat) : Int)) (hb : sv y = b * ((2 ^ e : Nat) : Int)) (h1 : (a - b).natAbs ≤ 9007199254740992) (h2 : (a - b).natAbs * 2 ^ e < mag INF) :
    ∃ z, double.sub x y = some z ∧ z < 18446744073709551616 ∧ rung z < INF ∧ sv z = (a - b) * ((2 ^ e : Nat) : Int) := by
  obtain ⟨f1, f2, f3⟩ := negW_facts hl
  obtain ⟨z, g1, g2, g3, g4, _⟩ := add_dy (x := x) (y := negW y) (a := a) (b := -b) e hx (by rw [f1]; exact hy) ha (by rw [sv_negW hl, hb, Int.neg_mul]) (by rw [← Int.sub_eq_add_neg]; exact h1) (by rw [← Int.sub_eq_add_neg]; exact h2)
  exact ⟨z, by rw [sub_add x hl hy]; exact g1, g2, g3, by rw [g4, Int.sub_eq_add_neg]⟩
theorem whl_31 (A M : Nat) (hA : Whl A (M : Int)) (hs : sgn A = false) (hl : A < 18446744073709551616) (h1 : 1073741824 ≤ M) (h2 : M ≤ 2147483647) : A = 1052 * 4503599627370496 + M * 4194304 := by
  obtain ⟨K, hK⟩ : ∃ K, K = 1052 := ⟨_, rfl⟩
  have hm := whl_mag hA
  rw [Int.natAbs_natCast, show 1074 = 22 + K by omega, Nat.pow_add, show 2 ^ 22 = 4194304 by decide, ← Nat.mul_assoc] at hm
  have e1 := mag_of_parts 1053 (M * 4194304 - 4503599627370496) K (by omega) (by omega) 0 (by omega)
  rw [Nat.pow_zero, Nat.mul_one, show 4503599627370496 + (M * 4194304 - 4503599627370496) = M * 4194304 by omega, ← hm] at e1
  have e2 := mag_inj e1
  have e3 : rung A = A := by
    unfold sgn at hs
    unfold rung
    have : ¬ A / 9223372036854775808 % 2 = 1 := fun h => by rw [h] at hs; cases hs
    omega
  omega
theorem rne_close (m : Nat) : rne m 22 * 4194304 ≤ m + 2097152 ∧ m ≤ rne m 22 * 4194304 + 2097152 := by
  unfold rne
  rw [show 2 ^ 22 = 4194304 by decide]
  split <;> omega
theorem tells_core (x m D M S J t : Nat) (hf : rung x < INF) (hl : x < 18446744073709551616) (hs : sv x = (m : Int) * ((2 ^ J : Nat) : Int)) (hD : D * 4194304 ≤ m + 2097152 ∧ m ≤ D * 4194304 + 2097152) (hM : M * 2 ^ t = D) (ht : t ≤ 1) (hSJ : S + J + t = 1052) (hS : S ≤ 60) (h1 : 1073741824 ≤ M) (h2 : M ≤ 2147483647) :
    ∃ Z, double.sub ((1052 - S) * 4503599627370496 + M * 4194304) x = some Z ∧ Z < 18446744073709551616 ∧ rung Z < INF ∧ (double.order (rung Z) ((1022 - S) * 4503599627370496) == some .lt || double.order (rung Z) ((1022 - S) * 4503599627370496) == some .eq) = true := by
  have hp : INF = 9218868437227405312 := rfl
  obtain ⟨Y, hY⟩ : ∃ Y, Y = (1052 - S) * 4503599627370496 + M * 4194304 := ⟨_, rfl⟩
  obtain ⟨G, hG⟩ : ∃ G, G = (1022 - S) * 4503599627370496 := ⟨_, rfl⟩
  rw [← hY, ← hG]
  have hYr : rung Y = Y := Nat.mod_eq_of_lt (by omega)
  have hGr : rung G = G := Nat.mod_eq_of_lt (by omega)
  have hYs : sgn Y = false := by
    unfold sgn
    have : Y / 9223372036854775808 % 2 = 0 := by omega
    rw [this]; rfl
  have hGs : sgn G = false := by
    unfold sgn
    have : G / 9223372036854775808 % 2 = 0 := by omega
    rw [this]; rfl
  have eY := mag_of_parts (1053 - S) (M * 4194304 - 4503599627370496) J (by omega) (by omega) t (by omega)
  rw [show (1053 - S) * 4503599627370496 + (M * 4194304 - 4503599627370496) = Y by omega, show 4503599627370496 + (M * 4194304 - 4503599627370496) = M * 4194304 by omega] at eY
  have eY : mag Y = D * 4194304 * 2 ^ J := by rw [eY, ← hM, Nat.mul_right_comm M (2 ^ t) 4194304]
  have sY : sv Y = ((D * 4194304 : Nat) : Int) * ((2 ^ J : Nat) : Int) := by unfold sv sg; rw [hYs, hYr, eY, ← Int.natCast_mul]; rfl
  have eG := mag_of_parts (1022 - S) 0 (1021 - S) (by omega) (by omega) 0 (by omega)
  rw [Nat.pow_zero, Nat.mul_one, Nat.add_zero, Nat.add_zero, ← hG] at eG
  have sG : sv G = ((4503599627370496 : Nat) : Int) * ((2 ^ (1021 - S) : Nat) : Int) := by unfold sv sg; rw [hGs, hGr, eG, ← Int.natCast_mul]; rfl
  obtain ⟨Z, z1, z2, z3, z4⟩ := sub_dy J (by omega) hf hl sY hs (by omega) (small_lt_inf _ _ (by omega) (by omega))
  refine ⟨Z, z1, z2, z3, ?_⟩
  have hab := sv_abs Z
  rw [z4, Int.natAbs_mul, Int.natAbs_natCast, show J = (31 - t) + (1021 - S) by omega, Nat.pow_add, ← Nat.mul_assoc] at hab
  obtain ⟨d, hd⟩ : ∃ d, d = (((D * 4194304 : Nat) : Int) - (m : Int)).natAbs * 2 ^ (31 - t) := ⟨_, rfl⟩
  have hdl : d ≤ 4503599627370496 := by
    have e1 : (((D * 4194304 : Nat) : Int) - (m : Int)).natAbs ≤ 2097152 := by omega
    have e2 : 2 ^ (31 - t) ≤ 2 ^ 31 := Nat.pow_le_pow_right (by decide) (by omega)
    rw [show 2 ^ 31 = 2147483648 by decide] at e2
    rw [hd]
    exact Nat.le_trans (Nat.mul_le_mul e1 e2) (by decide)
  rw [← hd] at hab
  have hR : rung (rung Z) = rung Z := Nat.mod_eq_of_lt (by omega)
  have hRs : sgn (rung Z) = false := by
    unfold sgn
    have : rung Z / 9223372036854775808 % 2 = 0 := by omega
    rw [this]; rfl
  have sZ : sv (rung Z) = ((d : Nat) : Int) * ((2 ^ (1021 - S) : Nat) : Int) := by unfold sv sg; rw [hRs, hR, ← hab, ← Int.natCast_mul]; rfl
  rw [cmp_dy (1021 - S) (by omega) (by omega) sZ sG]
  by_cases h : (d : Int) = ((4503599627370496 : Nat) : Int)
  · rw [h, cmp_eq]; rfl
  · rw [cmp_lt (by omega)]; rfl
end Go.Proofs.YtcpfangcibilaaaDoor
