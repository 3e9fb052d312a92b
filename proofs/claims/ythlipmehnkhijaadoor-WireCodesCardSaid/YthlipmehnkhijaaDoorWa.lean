/- Numbers as bytes, the lowest first: plain. No condition. -/
import Derived.Test.YthlipmehnkhijaaDoorMi
import Derived.Test.YthlipmehnkhijaaDoorGx
namespace Go.Proofs.YthlipmehnkhijaaDoor
set_option linter.unusedVariables false
set_option linter.unusedSimpArgs false
open Go.RowKit
/-- The k lowest bytes of a number. -/
def lows (u : Int) : Nat → List Int
  | 0 => []
  | k + 1 => lows u k ++ [u / 2 ^ (8 * k) % 256]
/-- The number of the first k bytes. -/
def hig (l : List Int) : Nat → Int
  | 0 => 0
  | k + 1 => hig l k + ix l k * 2 ^ (8 * k)
theorem lows_len (u : Int) (k : Nat) : (lows u k).length = k := by
  induction k with
  | zero => rfl
  | succ k ih => simp [lows, ih]
theorem lows_bytes (u : Int) (k : Nat) : Bytes8 (lows u k) := by
  induction k with
  | zero => intro i; simp [lows, ix]
  | succ k ih =>
    intro i
    have h := ih i
    unfold ix at *
    rw [lows, List.getD_eq_getElem?_getD] at *
    rw [List.getElem?_append]
    split
    · exact h
    · cases i - (lows u k).length with
      | zero => simp; omega
      | succ n => simp
theorem pow_pos8 (k : Nat) : (0 : Int) < 2 ^ (8 * k) := Int.pow_pos (by decide)
theorem pow_succ8 (k : Nat) : (2 : Int) ^ (8 * (k + 1)) = 256 * 2 ^ (8 * k) := by
  rw [show 8 * (k + 1) = 8 * k + 8 by omega, Int.pow_add, Int.mul_comm]; rfl
theorem hig_range {l : List Int} (h : Bytes8 l) (k : Nat) : 0 ≤ hig l k ∧ hig l k < 2 ^ (8 * k) := by
  induction k with
  | zero => simp [hig]
  | succ k ih =>
    have hp := pow_pos8 k
    obtain ⟨b0, b1⟩ := h k
    rw [hig, pow_succ8]
    have h1 : 0 ≤ ix l k * 2 ^ (8 * k) := Int.mul_nonneg b0 (by omega)
    have h2 : ix l k * 2 ^ (8 * k) ≤ 255 * 2 ^ (8 * k) := Int.mul_le_mul_of_nonneg_right b1 (by omega)
    omega
theorem hig_congr {l m : List Int} : ∀ k, (∀ j, j < k → ix l j = ix m j) → hig l k = hig m k
  | 0, _ => rfl
  | k + 1, h => by rw [hig, hig, hig_congr k (fun j hj => h j (by omega)), h k (by omega)]
theorem ix_append_left {l m : List Int} {i : Nat} (h : i < l.length) : ix (l ++ m) i = ix l i := by
  unfold ix; rw [List.getD_eq_getElem?_getD, List.getD_eq_getElem?_getD, List.getElem?_append_left h]
theorem ix_append_right {l m : List Int} {i : Nat} (h : l.length ≤ i) : ix (l ++ m) i = ix m (i - l.length) := by
  unfold ix; rw [List.getD_eq_getElem?_getD, List.getD_eq_getElem?_getD, List.getElem?_append_right h]
theorem hig_lows (u : Int) (k : Nat) (m : List Int) : hig (lows u k ++ m) k = u % 2 ^ (8 * k) := by
  induction k generalizing m with
  | zero => simp [hig, lows, Int.emod_one]
  | succ k ih =>
    have hl := lows_len u k
    rw [hig, show lows u (k + 1) ++ m = lows u k ++ ((u / 2 ^ (8 * k) % 256) :: m) by rw [lows, List.append_assoc]; rfl, ih, ix_append_right (by omega), hl, Nat.sub_self]
    rw [show ix (u / 2 ^ (8 * k) % 256 :: m) 0 = u / 2 ^ (8 * k) % 256 from rfl, pow_succ8]
    have hp := pow_pos8 k
    obtain ⟨p, hpe⟩ : ∃ p : Int, p = 2 ^ (8 * k) := ⟨_, rfl⟩
    rw [← hpe] at hp ⊢
    rw [Int.emod_def u (256 * p), Int.emod_def u p, Int.emod_def (u / p) 256, Int.mul_comm 256 p, ← Int.ediv_ediv_of_nonneg (by omega : 0 ≤ p)]
    rw [Int.sub_mul, Int.mul_comm (u / p) p, Int.mul_right_comm, show p * 256 * (u / p / 256) = 256 * p * (u / p / 256) by rw [Int.mul_comm p 256]]
    omega
theorem or_nat (x c k : Nat) (h : x < 2 ^ k) : x ||| (c * 2 ^ k) = x + c * 2 ^ k := by
  rw [Nat.or_comm, Nat.mul_comm, ← Nat.two_pow_add_eq_or_of_lt h]; omega
/-- A byte laid above bytes. -/
theorem or_above (x c : Int) (k : Nat) (hk : k ≤ 7) (h0 : 0 ≤ x) (h1 : x < 2 ^ (8 * k)) (c0 : 0 ≤ c) (c1 : c ≤ 255) : bits .or .u64 x (c * 2 ^ (8 * k)) = x + c * 2 ^ (8 * k) := by
  obtain ⟨n, rfl⟩ : ∃ n : Nat, x = n := ⟨x.toNat, by omega⟩
  obtain ⟨m, rfl⟩ : ∃ m : Nat, c = m := ⟨c.toNat, by omega⟩
  have hn : n < 2 ^ (8 * k) := by exact_mod_cast h1
  have hp : 2 ^ (8 * k) ≤ 2 ^ 56 := Nat.pow_le_pow_right (by decide) (by omega)
  have hm : m * 2 ^ (8 * k) ≤ 255 * 2 ^ 56 := Nat.mul_le_mul (by omega) hp
  have e1 : (m : Int) * 2 ^ (8 * k) = ((m * 2 ^ (8 * k) : Nat) : Int) := by push_cast; rfl
  rw [e1]
  unfold bits
  simp only []
  have e2 : ∀ a : Nat, a < 2 ^ 64 → (BitVec.ofInt IntKind.u64.bits (a : Int)).toNat = a := by
    intro a ha
    show (BitVec.ofInt 64 (a : Int)).toNat = a
    simp
    omega
  rw [BitVec.toNat_or, e2 n (by omega), e2 _ (by omega), or_nat n m (8 * k) hn, IntKind.wrap_u64]
  omega
theorem shl_small (c : Int) (k : Nat) (hk : k ≤ 7) (c0 : 0 ≤ c) (c1 : c ≤ 255) : IntKind.u64.wrap (c * 2 ^ (8 * k)) = c * 2 ^ (8 * k) := by
  rw [IntKind.wrap_u64]
  obtain rfl | rfl | rfl | rfl | rfl | rfl | rfl | rfl : k = 0 ∨ k = 1 ∨ k = 2 ∨ k = 3 ∨ k = 4 ∨ k = 5 ∨ k = 6 ∨ k = 7 := by omega
  all_goals (simp only [Nat.mul_zero, Nat.mul_one, Nat.reduceMul, Int.reducePow]; omega)
end Go.Proofs.YthlipmehnkhijaaDoor
