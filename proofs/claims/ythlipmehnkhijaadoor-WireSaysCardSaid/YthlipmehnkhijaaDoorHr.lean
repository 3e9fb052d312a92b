/- The document's digest is that of a Hash: plain. No condition. -/
import Derived.Test.YthlipmehnkhijaaDoorHl
namespace Go.Proofs.YthlipmehnkhijaaDoor
set_option linter.unusedVariables false
set_option linter.unusedSimpArgs false
open Go.RowKit
/-- How many nothings stand behind the 128 of so many bytes. -/
def zf (n : Nat) : Nat := zc (n % 64)
theorem lenB_len (n : Int) (k : Nat) : (lenB n k).length = k := by
  induction k with
  | zero => rfl
  | succ k ih => simp [lenB, ih]
/-- Bytes, and what stands behind them. -/
def padded (m : List Int) : List Int := m ++ 128 :: List.replicate (zf m.length) 0 ++ lenB (8 * m.length) 8
theorem take4 (k : IntKind) (l : List Int) (p : Nat) (h : p + 4 ≤ l.length) : ((l.map (Value.int k)).drop p).take 4 = [ix l p, ix l (p + 1), ix l (p + 2), ix l (p + 3)].map (Value.int k) := by
  apply List.ext_getElem
  · simp; omega
  · intro i h1 h2
    have hi : i < 4 := by simpa using h2
    rw [List.getElem_take, List.getElem_drop, List.getElem_map]
    obtain rfl | rfl | rfl | rfl : i = 0 ∨ i = 1 ∨ i = 2 ∨ i = 3 := by omega
    · simp [ix_eq l p (by omega)]
    · simp [ix_eq l (p + 1) (by omega)]
    · simp [ix_eq l (p + 2) (by omega)]
    · simp [ix_eq l (p + 3) (by omega)]
theorem digest_padded (m : List Int) : digest m = outs (absorb KS HS (padded m) ((padded m).length / 64)) 32 := by
  unfold digest
  rw [feedH]
  have e : m ++ padOf (stR m).length m.length = padded m := by
    rw [stR_len, padOf, padded, zf, List.append_assoc]
  rw [e]
  unfold stH
  with_reducible rfl
end Go.Proofs.YthlipmehnkhijaaDoor
