/- Copies and equalities of lists of whole numbers, walked. No condition but sizes that any memory has. -/
import Derived.Test.YtgifehmpgcenjaaDoorSi
import Derived.Deep.QuietTactic
import Derived.BigQuiet
namespace Go.Proofs.YtgifehmpgcenjaaDoor
set_option linter.unusedVariables false
set_option linter.unusedSimpArgs false
open Go.RowKit

theorem list_ext_ix {a b : List Int} (hl : a.length = b.length) (h : ∀ i, i < a.length → ix a i = ix b i) : a = b := by
  apply List.ext_getElem hl
  intro i h1 h2
  have := h i h1
  rwa [ix_eq a i h1, ix_eq b i h2] at this

set_option maxHeartbeats 800000 in
theorem sameInts_any (w : World) (A A' : Option Addr) (s t : List Int) (c c' : Nat) (h1 : IL .i64 w A s) (h2 : IL .i64 w A' t) (hm : s.length ≤ maxLen) (hm' : t.length ≤ maxLen) :
    Calls Tryd.prog 28 #[.slice A s.length c, .slice A' t.length c'] w fun e w' => e = .returned (.bool (decide (s = t))) ∧ Below w.heap.size w w' := by
  have HB := Below.refl w.heap.size w
  unfold maxLen at hm hm'
  by_cases hl : s.length = t.length
  · have hl1 : ((s.length : Int) != (t.length : Int)) = false := by simp [hl]
    have hl2 : (s.length != t.length) = false := by simp [hl]
    have hl3 := Lib.hid hl
    clear hl
    go_enter Tryd.func28, Tryd.ntmps28
    go_wp2
    go_loopw [5] (fun i w' => ∃ k : Nat, k ≤ s.length ∧ i = .int .i64 k ∧ Aside (∀ j, j < k → ix s j = ix t j) ∧ Below w.heap.size w w') (fun i _ => s.length - (intOf i).toNat)
    case atStart => exact ⟨0, Nat.zero_le _, rfl, ⟨fun j hj => absurd hj (by omega)⟩, HB⟩
    case round =>
      obtain ⟨k, hk, rfl, hin, HB'⟩ := hrel
      by_cases hk : k < s.length
      · have hka : k < t.length := by rw [← hl3.out]; exact hk
        obtain ⟨b, o, rfl, hc⟩ := (h1.mono HB') (by omega)
        have hck := hc k hk
        have hc := Aside.mk hc
        obtain ⟨b', o', rfl, hc'⟩ := (h2.mono HB') (by omega)
        have hck' := hc' k hka
        have hc' := Aside.mk hc'
        clear h1 h2
        have z1 : decide ((k : Int) < (s.length : Int)) = true := decide_eq_true (by omega)
        have z2 : decide ((k : Int) < (t.length : Int)) = true := decide_eq_true (by omega)
        have b1 : (k : Int) < (s.length : Int) := by omega
        have b2 : (k : Int) < (t.length : Int) := by omega
        by_cases hx : ix s k = ix t k
        · have z3 : (ix s k == ix t k) = true := by simpa using hx
          go_wp2
          go_quiet (fail)
          go_wp2
          go_roundw
          case rel => exact ⟨k + 1, by omega, by go_num, ⟨fun j hj => by
            by_cases e : j = k
            · subst e; exact hx
            · exact hin.out j (by omega)⟩, below_drewN HB' _⟩
          case measure => simp [intOf]; omega
        · have z3 : (ix s k == ix t k) = false := by simpa using hx
          have hne : s ≠ t := fun e => hx (by rw [e])
          go_wp2
          go_quiet (fail)
          go_wp2
          go_ret
          exact ⟨by simp [hne], below_drewN HB' _⟩
      · obtain rfl : k = s.length := by omega
        have he : s = t := list_ext_ix hl3.out hin.out
        clear h1 h2
        go_wp2
        go_ret
        exact ⟨by simp [he], HB'⟩
  · have hl1 : ((s.length : Int) != (t.length : Int)) = true := by simp; omega
    have hl2 : (s.length != t.length) = true := by simpa using hl
    have hne : s ≠ t := fun e => hl (by rw [e])
    go_enter Tryd.func28, Tryd.ntmps28
    go_wp2
    go_ret
    exact ⟨by simp [hne], HB⟩

end Go.Proofs.YtgifehmpgcenjaaDoor
