/- Equalities and copies of rows, walked. No condition but sizes that any memory has. -/
import Derived.Test.YtgifehmpgcenjaaDoorTa
import Derived.Deep.QuietTactic
import Derived.BigQuiet
namespace Go.Proofs.YtgifehmpgcenjaaDoor
set_option linter.unusedVariables false
set_option linter.unusedSimpArgs false
open Go.RowKit



set_option maxHeartbeats 800000 in
theorem equal_any (w : World) (A A' : Option Addr) (s t : List Int) (c c' m m' : Nat) (em : m = s.length) (em' : m' = t.length) (h1 : IL .i64 w A s) (h2 : IL .i64 w A' t) (hm : s.length ≤ maxLen) (hm' : t.length ≤ maxLen) :
    Calls Tryd.prog 82 #[.slice A m c, .slice A' m' c'] w fun e w' => e = .returned (.bool (decide (s = t))) ∧ Below w.heap.size w w' := by
  subst em; subst em'
  have HB := Below.refl w.heap.size w
  unfold maxLen at hm hm'
  by_cases hl : s.length = t.length
  · have hl1 : ((s.length : Int) != (t.length : Int)) = false := by simp [hl]
    have hl2 : (s.length != t.length) = false := by simp [hl]
    have hl3 := Lib.hid hl
    clear hl
    go_enter Tryd.func82, Tryd.ntmps82
    go_wp2
    go_loopw [13, 5] (fun i _ w' => ∃ k : Nat, k ≤ s.length ∧ i = .int .i64 k ∧ Aside (∀ j, j < k → ix s j = ix t j) ∧ Below w.heap.size w w') (fun i _ _ => s.length - (intOf i).toNat)
    case atStart => exact ⟨0, Nat.zero_le _, rfl, ⟨fun j hj => absurd hj (by omega)⟩, HB⟩
    case round =>
      obtain ⟨k, hk, rfl, hin, HB'⟩ := hrel
      by_cases hk : k < s.length
      · have hka : k < t.length := by rw [← hl3.out]; exact hk
        obtain ⟨b, o, rfl, hc⟩ := (h1.mono HB') (by omega)
        have hck := hc k hk
        have hc := Aside.mk hc
        obtain ⟨b', o', rfl, hc'⟩ := (h2.mono HB') (by omega)
        have hck' := hc' k hka
        have hc' := Aside.mk hc'
        clear h1 h2
        have z1 : decide ((k : Int) < (s.length : Int)) = true := decide_eq_true (by omega)
        have z2 : decide ((k : Int) < (t.length : Int)) = true := decide_eq_true (by omega)
        have b1 : (k : Int) < (s.length : Int) := by omega
        have b2 : (k : Int) < (t.length : Int) := by omega
        by_cases hx : ix s k = ix t k
        · have z3 : (ix s k == ix t k) = true := by simpa using hx
          have z4 : (ix s k != ix t k) = false := by simpa using hx
          have hx := Lib.hid hx
          go_wp2
          go_quiet (fail)
          go_wp2
          go_roundw
          case rel => exact ⟨k + 1, by omega, by go_num, ⟨fun j hj => by
            by_cases e : j = k
            · subst e; exact hx.out
            · exact hin.out j (by omega)⟩, below_drewN HB' _⟩
          case measure => simp [intOf]; omega
        · have z3 : (ix s k == ix t k) = false := by simpa using hx
          have z4 : (ix s k != ix t k) = true := by simpa using hx
          have hne : s ≠ t := fun e => hx (by rw [e])
          go_wp2
          go_quiet (fail)
          go_wp2
          go_ret
          exact ⟨by simp [hne], below_drewN HB' _⟩
      · obtain rfl : k = s.length := by omega
        have he : s = t := list_ext_ix hl3.out hin.out
        clear h1 h2
        go_wp2
        go_ret
        exact ⟨by simp [he], HB'⟩
  · have hl1 : ((s.length : Int) != (t.length : Int)) = true := by simp; omega
    have hl2 : (s.length != t.length) = true := by simpa using hl
    have hne : s ≠ t := fun e => hl (by rw [e])
    go_enter Tryd.func82, Tryd.ntmps82
    go_wp2
    go_ret
    exact ⟨by simp [hne], HB⟩


set_option maxHeartbeats 800000 in
theorem sameBytes_any (w : World) (A A' : Option Addr) (s t : List Int) (c c' m m' : Nat) (em : m = s.length) (em' : m' = t.length) (h1 : IL .u8 w A s) (h2 : IL .u8 w A' t) (hm : s.length ≤ maxLen) (hm' : t.length ≤ maxLen) :
    Calls Tryd.prog 67 #[.slice A m c, .slice A' m' c'] w fun e w' => e = .returned (.bool (decide (s = t))) ∧ Below w.heap.size w w' := by
  subst em; subst em'
  have HB := Below.refl w.heap.size w
  unfold maxLen at hm hm'
  by_cases hl : s.length = t.length
  · have hl1 : ((s.length : Int) != (t.length : Int)) = false := by simp [hl]
    have hl2 : (s.length != t.length) = false := by simp [hl]
    have hl3 := Lib.hid hl
    clear hl
    go_enter Tryd.func67, Tryd.ntmps67
    go_wp2
    go_loopw [5] (fun i w' => ∃ k : Nat, k ≤ s.length ∧ i = .int .i64 k ∧ Aside (∀ j, j < k → ix s j = ix t j) ∧ Below w.heap.size w w') (fun i _ => s.length - (intOf i).toNat)
    case atStart => exact ⟨0, Nat.zero_le _, rfl, ⟨fun j hj => absurd hj (by omega)⟩, HB⟩
    case round =>
      obtain ⟨k, hk, rfl, hin, HB'⟩ := hrel
      by_cases hk : k < s.length
      · have hka : k < t.length := by rw [← hl3.out]; exact hk
        obtain ⟨b, o, rfl, hc⟩ := (h1.mono HB') (by omega)
        have hck := hc k hk
        have hc := Aside.mk hc
        obtain ⟨b', o', rfl, hc'⟩ := (h2.mono HB') (by omega)
        have hck' := hc' k hka
        have hc' := Aside.mk hc'
        clear h1 h2
        have z1 : decide ((k : Int) < (s.length : Int)) = true := decide_eq_true (by omega)
        have z2 : decide ((k : Int) < (t.length : Int)) = true := decide_eq_true (by omega)
        have b1 : (k : Int) < (s.length : Int) := by omega
        have b2 : (k : Int) < (t.length : Int) := by omega
        by_cases hx : ix s k = ix t k
        · have z3 : (ix s k == ix t k) = true := by simpa using hx
          have z4 : (ix s k != ix t k) = false := by simpa using hx
          have hx := Lib.hid hx
          go_wp2
          go_quiet (fail)
          go_wp2
          go_roundw
          case rel => exact ⟨k + 1, by omega, by go_num, ⟨fun j hj => by
            by_cases e : j = k
            · subst e; exact hx.out
            · exact hin.out j (by omega)⟩, below_drewN HB' _⟩
          case measure => simp [intOf]; omega
        · have z3 : (ix s k == ix t k) = false := by simpa using hx
          have z4 : (ix s k != ix t k) = true := by simpa using hx
          have hne : s ≠ t := fun e => hx (by rw [e])
          go_wp2
          go_quiet (fail)
          go_wp2
          go_ret
          exact ⟨by simp [hne], below_drewN HB' _⟩
      · obtain rfl : k = s.length := by omega
        have he : s = t := list_ext_ix hl3.out hin.out
        clear h1 h2
        go_wp2
        go_ret
        exact ⟨by simp [he], HB'⟩
  · have hl1 : ((s.length : Int) != (t.length : Int)) = true := by simp; omega
    have hl2 : (s.length != t.length) = true := by simpa using hl
    have hne : s ≠ t := fun e => hl (by rw [e])
    go_enter Tryd.func67, Tryd.ntmps67
    go_wp2
    go_ret
    exact ⟨by simp [hne], HB⟩

end Go.Proofs.YtgifehmpgcenjaaDoor
