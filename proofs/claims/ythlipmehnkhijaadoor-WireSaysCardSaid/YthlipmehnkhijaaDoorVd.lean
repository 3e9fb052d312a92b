/- Bytes laid one above the other, as whole numbers with a sign. -/
import Derived.Test.YthlipmehnkhijaaDoorVb
import Derived.Test.YthlipmehnkhijaaDoorWe
import Derived.Test.YthlipmehnkhijaaDoorGw
namespace Go.Proofs.YthlipmehnkhijaaDoor
set_option linter.unusedVariables false
set_option linter.unusedSimpArgs false
open Go.RowKit

theorem or_above_i (x c : Int) (k : Nat) (hk : k ≤ 3) (h0 : 0 ≤ x) (h1 : x < 2 ^ (8 * k)) (c0 : 0 ≤ c) (c1 : c ≤ 255) : bits .or .i64 x (c * 2 ^ (8 * k)) = x + c * 2 ^ (8 * k) := by
  obtain ⟨n, rfl⟩ : ∃ n : Nat, x = n := ⟨x.toNat, by omega⟩
  obtain ⟨m, rfl⟩ : ∃ m : Nat, c = m := ⟨c.toNat, by omega⟩
  have hn : n < 2 ^ (8 * k) := by exact_mod_cast h1
  have hp : 2 ^ (8 * k) ≤ 2 ^ 24 := Nat.pow_le_pow_right (by decide) (by omega)
  have hm : m * 2 ^ (8 * k) ≤ 255 * 2 ^ 24 := Nat.mul_le_mul (by omega) hp
  have e1 : (m : Int) * 2 ^ (8 * k) = ((m * 2 ^ (8 * k) : Nat) : Int) := by push_cast; rfl
  rw [e1]
  unfold bits
  simp only []
  have e2 : ∀ a : Nat, a < 2 ^ 63 → (BitVec.ofInt IntKind.i64.bits (a : Int)).toNat = a := by
    intro a ha
    show (BitVec.ofInt 64 (a : Int)).toNat = a
    simp
    omega
  rw [BitVec.toNat_or, e2 n (by omega), e2 _ (by omega), or_nat n m (8 * k) hn]
  have e3 : ∀ z : Int, 0 ≤ z → z < 2 ^ 63 → IntKind.i64.wrap z = z := by
    intro z h0 h1
    rw [IntKind.wrap_i64]; omega
  rw [e3 _ (by omega) (by omega)]
  omega
theorem or2 {b : List Int} (hb : Bytes8 b) (d : Nat) : bits .or .i64 (ix b d) (ix b (d + 1) * 256) = hig (b.drop d) 2 := by
  have h := or_above_i (ix b d) (ix b (d + 1)) 1 (by decide) (hb d).1 (by have := (hb d).2; omega) (hb (d + 1)).1 (hb (d + 1)).2
  rw [show (2 : Int) ^ (8 * 1) = 256 from rfl] at h
  rw [h]
  simp [hig, ix_drop]
theorem or4 {b : List Int} (hb : Bytes8 b) (d : Nat) : bits .or .i64 (bits .or .i64 (bits .or .i64 (ix b d) (ix b (d + 1) * 256)) (ix b (d + 2) * 65536)) (ix b (d + 3) * 16777216) = hig (b.drop d) 4 := by
  rw [or2 hb d]
  have r2 := hig_range (bytes8_drop hb d) 2
  have h := or_above_i (hig (b.drop d) 2) (ix b (d + 2)) 2 (by decide) r2.1 r2.2 (hb (d + 2)).1 (hb (d + 2)).2
  have h3 : hig (b.drop d) 3 = hig (b.drop d) 2 + ix b (d + 2) * 2 ^ (8 * 2) := by rw [hig, ix_drop]
  rw [← h3, show (2 : Int) ^ (8 * 2) = 65536 from rfl] at h
  have r3 := hig_range (bytes8_drop hb d) 3
  have h' := or_above_i (hig (b.drop d) 3) (ix b (d + 3)) 3 (by decide) r3.1 r3.2 (hb (d + 3)).1 (hb (d + 3)).2
  have h4 : hig (b.drop d) 4 = hig (b.drop d) 3 + ix b (d + 3) * 2 ^ (8 * 3) := by rw [hig, ix_drop]
  rw [← h4, show (2 : Int) ^ (8 * 3) = 16777216 from rfl] at h'
  rw [h, h']
end Go.Proofs.YthlipmehnkhijaaDoor
