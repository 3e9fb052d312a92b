/- Package shape's small functions, walked. No condition but sizes that any memory has. -/
import Derived.Test.YtgifehmpgcenjaaDoorSh
namespace Go.Proofs.YtgifehmpgcenjaaDoor
set_option linter.unusedVariables false
set_option linter.unusedSimpArgs false
open Go.RowKit

theorem errV_nil (E : Int → Addr) : errV E 0 = .nilIface := rfl
theorem errV_ne (E : Int → Addr) {c : Int} (h : c ≠ 0) : errV E c = .iface 168 (.pointer (some (E c))) := by simp [errV, h]
theorem iface_nil_no (w : World) (a : Addr) : (binOp .eql 27 (.iface 168 (.pointer (some a))) .nilIface).run Tryd.prog w = .ok (.bool false) w := by kernel_rfl
theorem iface_nil_neq (w : World) (a : Addr) : (binOp .neq 27 (.iface 168 (.pointer (some a))) .nilIface).run Tryd.prog w = .ok (.bool true) w := by kernel_rfl
theorem nil_nil_eq (w : World) : (binOp .eql 27 .nilIface .nilIface).run Tryd.prog w = .ok (.bool true) w := by kernel_rfl
theorem nil_nil_neq (w : World) : (binOp .neq 27 .nilIface .nilIface).run Tryd.prog w = .ok (.bool false) w := by kernel_rfl


set_option maxHeartbeats 400000 in
theorem fair_any (E : Int → Addr) (w : World) (A : Option Addr) (l : List Int) (c : Nat) (h : IL .i64 w A l) (hm : l.length ≤ maxLen) (hE : Errs E w) :
    Calls Tryd.prog 77 #[.slice A l.length c] w fun e w' => e = .returned (.bool (decide (validL l = 0))) ∧ Below w.heap.size w w' := by
  have HB := Below.refl w.heap.size w
  have n1 := iface_nil_no
  have n2 := nil_nil_eq
  by_cases hv : validL l = 0
  · go_enter Tryd.func77, Tryd.ntmps77
    go_wp2_with ((with_reducible refine callee_gate (f := 20) (N := 5) rfl rfl ?_); refine call_ev 5 rfl rfl ?hg Tryd.func20 (by kernel_rfl) rfl #[.agg #[.slice A l.length c, .bool false]] ?hargs (valid_any E _ A l c false h hm hE) ?_; (case hg => first | rfl | (go_simp; done)); (case hargs => first | rfl | (simp; done) | (simp [Act.put, Act.eval]; done) | (go_simp; done)); rintro e_ w_ ⟨rfl, hb⟩; have HB := below_step HB hb; refine ⟨_, rfl, ?_⟩; rw [hv, errV_nil])
    go_ret
    exact ⟨by simp [hv], HB⟩
  · go_enter Tryd.func77, Tryd.ntmps77
    go_wp2_with ((with_reducible refine callee_gate (f := 20) (N := 5) rfl rfl ?_); refine call_ev 5 rfl rfl ?hg Tryd.func20 (by kernel_rfl) rfl #[.agg #[.slice A l.length c, .bool false]] ?hargs (valid_any E _ A l c false h hm hE) ?_; (case hg => first | rfl | (go_simp; done)); (case hargs => first | rfl | (simp; done) | (simp [Act.put, Act.eval]; done) | (go_simp; done)); rintro e_ w_ ⟨rfl, hb⟩; have HB := below_step HB hb; refine ⟨_, rfl, ?_⟩; rw [errV_ne E hv])
    go_ret
    exact ⟨by simp [hv], HB⟩

theorem validL_ok {l : List Int} (h : validL l = 0) : okD l = true ∧ l.length ≤ 4 ∧ prodL l ≤ 16384 := by
  unfold validL at h
  split at h
  · omega
  · split at h
    · omega
    · split at h
      · omega
      · rename_i h1 h2 h3
        exact ⟨by simpa using h2, by omega, by omega⟩

set_option maxHeartbeats 400000 in
theorem elems_any (E : Int → Addr) (w : World) (A : Option Addr) (l : List Int) (c : Nat) (h : IL .i64 w A l) (hm : l.length ≤ maxLen) (hE : Errs E w) :
    Calls Tryd.prog 21 #[.slice A l.length c] w fun e w' => e = .returned (.int .i64 (elemsL l)) ∧ Below w.heap.size w w' := by
  have HB := Below.refl w.heap.size w
  by_cases hv : validL l = 0
  · have hd : decide (validL l = 0) = true := by simpa using hv
    obtain ⟨ho, h4, hp⟩ := validL_ok hv
    have hr : elemsL l = prodL (l.take l.length) := by simp [elemsL, hv]
    have hr := Lib.hid hr
    have ho := Aside.mk ho
    
    go_enter Tryd.func21, Tryd.ntmps21
    go_wp2_with ((with_reducible refine callee_gate (f := 77) (N := 7) rfl rfl ?_); refine call_ev 7 rfl rfl ?hg Tryd.func77 (by kernel_rfl) rfl #[.slice A l.length c] ?hargs (fair_any E _ A l c h hm hE) ?_; (case hg => first | rfl | (go_simp; done)); (case hargs => first | rfl | (simp; done) | (simp [Act.put, Act.eval]; done) | (go_simp; done)); rintro e_ w_ ⟨rfl, hb⟩; have HB := below_step HB hb; replace h := h.mono hb; refine ⟨_, rfl, ?_⟩)
    clear hv hd
    go_loop [3, 11] (fun n i => ∃ k : Nat, k ≤ l.length ∧ i = .int .i64 k ∧ n = .int .i64 (prodL (l.take k))) (fun _ i => l.length - (intOf i).toNat)
    case atStart => exact ⟨0, Nat.zero_le _, rfl, rfl⟩
    case round =>
      obtain ⟨k, hk, rfl, rfl⟩ := hrel
      by_cases hk : k < l.length
      · obtain ⟨b, o, rfl, hc⟩ := h (by omega)
        have hck := hc k hk
        have hc := Aside.mk hc
        have p1 := prodL_pos ho.out k (by omega)
        have p2 := prodL_all ho.out k (by omega)
        obtain ⟨x1, x2⟩ := okD_ix ho.out k hk
        obtain ⟨m1, m2⟩ := mul_small (a := prodL (l.take k)) (b := ix l k) (by omega) (by omega) (by omega) (by omega)
        have hs := Lib.hid (prodL_take l k hk)
        go_wp2
        go_round
        case rel => exact ⟨k + 1, by omega, by go_num, by rw [hs.out]⟩
        case measure => simp [intOf]; omega
      · obtain rfl : k = l.length := by omega
        go_wp2
        go_ret
        exact ⟨by first | rfl | (rw [hr.out]; rfl), HB⟩
  · have hd : decide (validL l = 0) = false := by simpa using hv
    
    go_enter Tryd.func21, Tryd.ntmps21
    go_wp2_with ((with_reducible refine callee_gate (f := 77) (N := 7) rfl rfl ?_); refine call_ev 7 rfl rfl ?hg Tryd.func77 (by kernel_rfl) rfl #[.slice A l.length c] ?hargs (fair_any E _ A l c h hm hE) ?_; (case hg => first | rfl | (go_simp; done)); (case hargs => first | rfl | (simp; done) | (simp [Act.put, Act.eval]; done) | (go_simp; done)); rintro e_ w_ ⟨rfl, hb⟩; have HB := below_step HB hb; refine ⟨_, rfl, ?_⟩)
    go_ret
    exact ⟨by simp [elemsL, hv], HB⟩

/-! ### Index -/
def hornerL : List Int → List Int → Nat → Int
  | _, _, 0 => 0
  | s, at_, k + 1 => hornerL s at_ k * ix s k + ix at_ k
def insideL (s at_ : List Int) : Bool := (List.range s.length).all fun k => decide (0 ≤ ix at_ k) && decide (ix at_ k < ix s k)
def indexL (s at_ : List Int) : Int × Bool := if validL s = 0 ∧ at_.length = s.length ∧ insideL s at_ = true then (hornerL s at_ s.length, true) else (0, false)
theorem insideL_iff (s at_ : List Int) : insideL s at_ = true ↔ ∀ k, k < s.length → 0 ≤ ix at_ k ∧ ix at_ k < ix s k := by
  simp [insideL]
theorem horner_bound {s at_ : List Int} (ho : okD s = true) (k : Nat) (hk : k ≤ s.length) (hin : ∀ j, j < k → 0 ≤ ix at_ j ∧ ix at_ j < ix s j) : 0 ≤ hornerL s at_ k ∧ hornerL s at_ k < prodL (s.take k) := by
  induction k with
  | zero => simp [hornerL, prodL]
  | succ k ih =>
    obtain ⟨h1, h2⟩ := ih (by omega) (fun j hj => hin j (by omega))
    obtain ⟨h3, h4⟩ := hin k (by omega)
    obtain ⟨h5, h6⟩ := okD_ix ho k (by omega)
    rw [prodL_take s k (by omega)]
    have h7 := Int.mul_nonneg h1 (show 0 ≤ ix s k by omega)
    have h8 : (hornerL s at_ k + 1) * ix s k ≤ prodL (s.take k) * ix s k := Int.mul_le_mul_of_nonneg_right (by omega) (by omega)
    rw [Int.add_mul, Int.one_mul] at h8
    simp only [hornerL]
    omega

set_option maxHeartbeats 800000 in
theorem index_any (E : Int → Addr) (w : World) (A A' : Option Addr) (s at_ : List Int) (c c' : Nat) (h1 : IL .i64 w A s) (h2 : IL .i64 w A' at_) (hm : s.length ≤ maxLen) (hm' : at_.length ≤ maxLen) (hE : Errs E w) :
    Calls Tryd.prog 22 #[.slice A s.length c, .slice A' at_.length c'] w fun e w' => e = .returned (.tuple #[.int .i64 (indexL s at_).1, .bool (indexL s at_).2]) ∧ Below w.heap.size w w' := by
  have HB := Below.refl w.heap.size w
  unfold maxLen at hm'
  by_cases hv : validL s = 0
  · have hd : decide (validL s = 0) = true := by simpa using hv
    obtain ⟨ho, h4, hp⟩ := validL_ok hv
    have ho := Aside.mk ho
    by_cases hl : at_.length = s.length
    · have hrF := Aside.mk (show insideL s at_ = false → indexL s at_ = (0, false) from fun hb => by simp [indexL, hv, hl, hb])
      have hrT := Aside.mk (show insideL s at_ = true → indexL s at_ = (hornerL s at_ s.length, true) from fun hb => by simp [indexL, hv, hl, hb])
      have hl1 : ((at_.length : Int) != (s.length : Int)) = false := by simp [hl]
      have hl2 : (at_.length != s.length) = false := by simp [hl]
      have hl3 := Lib.hid hl
      clear hl
      go_enter Tryd.func22, Tryd.ntmps22
      go_wp2_with ((with_reducible refine callee_gate (f := 77) (N := 10) rfl rfl ?_); refine call_ev 10 rfl rfl ?hg Tryd.func77 (by kernel_rfl) rfl #[.slice A s.length c] ?hargs (fair_any E _ A s c h1 hm hE) ?_; (case hg => first | rfl | (go_simp; done)); (case hargs => first | rfl | (simp; done) | (simp [Act.put, Act.eval]; done) | (go_simp; done)); rintro e_ w_ ⟨rfl, hb⟩; have HB := below_step HB hb; replace h1 := h1.mono hb; replace h2 := h2.mono hb; refine ⟨_, rfl, ?_⟩)
      clear hd
      go_loop [6, 21] (fun n i => ∃ k : Nat, k ≤ s.length ∧ i = .int .i64 k ∧ n = .int .i64 (hornerL s at_ k) ∧ Aside (∀ j, j < k → 0 ≤ ix at_ j ∧ ix at_ j < ix s j)) (fun _ i => s.length - (intOf i).toNat)
      case atStart => exact ⟨0, Nat.zero_le _, rfl, rfl, ⟨fun j hj => absurd hj (by omega)⟩⟩
      case round =>
        obtain ⟨k, hk, rfl, rfl, hin⟩ := hrel
        by_cases hk : k < s.length
        · have hka : k < at_.length := by rw [hl3.out]; exact hk
          obtain ⟨b, o, rfl, hc⟩ := h1 (by omega)
          have hck := hc k hk
          have hc := Aside.mk hc
          obtain ⟨b', o', rfl, hc'⟩ := h2 (by omega)
          have hck' := hc' k hka
          have hc' := Aside.mk hc'
          obtain ⟨q1, q2⟩ := horner_bound (at_ := at_) ho.out k (by omega) hin.out
          have p2 := prodL_all ho.out k (by omega)
          obtain ⟨x1, x2⟩ := okD_ix ho.out k hk
          obtain ⟨m1, m2⟩ := mul_small (a := hornerL s at_ k) (b := ix s k) (by omega) (by omega) (by omega) (by omega)
          by_cases hx : 0 ≤ ix at_ k ∧ ix at_ k < ix s k
          · obtain ⟨y1, y2⟩ := hx
            have z1 : decide (ix at_ k < 0) = false := decide_eq_false (by omega)
            have z2 : decide (ix s k ≤ ix at_ k) = false := decide_eq_false (by omega)
            go_wp2
            go_round
            case rel => exact ⟨k + 1, by omega, by go_num, rfl, ⟨fun j hj => by
              by_cases e : j = k
              · subst e; exact ⟨y1, y2⟩
              · exact hin.out j (by omega)⟩⟩
            case measure => simp [intOf]; omega
          · have hr0 := hrF.out (by
              cases h7 : insideL s at_ with
              | false => rfl
              | true => exact absurd ((insideL_iff _ _).1 h7 k hk) hx)
            by_cases y1 : ix at_ k < 0
            · have z1 : decide (ix at_ k < 0) = true := decide_eq_true y1
              go_wp2
              go_ret2
              exact ⟨by first | rfl | (rw [hr0]; rfl), HB⟩
            · have z1 : decide (ix at_ k < 0) = false := decide_eq_false y1
              have z2 : decide (ix s k ≤ ix at_ k) = true := decide_eq_true (by omega)
              go_wp2
              go_ret2
              exact ⟨by first | rfl | (rw [hr0]; rfl), HB⟩
        · obtain rfl : k = s.length := by omega
          have hr1 := hrT.out ((insideL_iff _ _).2 hin.out)
          go_wp2
          go_ret2
          exact ⟨by first | rfl | (rw [hr1]; rfl), HB⟩
    · have hl1 : ((at_.length : Int) != (s.length : Int)) = true := by simp; omega
      have hl2 : (at_.length != s.length) = true := by simpa using hl
      go_enter Tryd.func22, Tryd.ntmps22
      go_wp2_with ((with_reducible refine callee_gate (f := 77) (N := 10) rfl rfl ?_); refine call_ev 10 rfl rfl ?hg Tryd.func77 (by kernel_rfl) rfl #[.slice A s.length c] ?hargs (fair_any E _ A s c h1 hm hE) ?_; (case hg => first | rfl | (go_simp; done)); (case hargs => first | rfl | (simp; done) | (simp [Act.put, Act.eval]; done) | (go_simp; done)); rintro e_ w_ ⟨rfl, hb⟩; have HB := below_step HB hb; replace h1 := h1.mono hb; replace h2 := h2.mono hb; refine ⟨_, rfl, ?_⟩)
      go_ret2
      exact ⟨by simp [indexL, hl], HB⟩
  · have hd : decide (validL s = 0) = false := by simpa using hv
    
    go_enter Tryd.func22, Tryd.ntmps22
    go_wp2_with ((with_reducible refine callee_gate (f := 77) (N := 10) rfl rfl ?_); refine call_ev 10 rfl rfl ?hg Tryd.func77 (by kernel_rfl) rfl #[.slice A s.length c] ?hargs (fair_any E _ A s c h1 hm hE) ?_; (case hg => first | rfl | (go_simp; done)); (case hargs => first | rfl | (simp; done) | (simp [Act.put, Act.eval]; done) | (go_simp; done)); rintro e_ w_ ⟨rfl, hb⟩; have HB := below_step HB hb; refine ⟨_, rfl, ?_⟩)
    go_ret2
    exact ⟨by simp [indexL, hv], HB⟩
end Go.Proofs.YtgifehmpgcenjaaDoor
