/- What package shape's functions and the document's come to, as Lean functions, and that the Go functions come to it. No condition but sizes that any memory has. -/
import Derived.Test.YtgifehmpgcenjaaDoorBa
namespace Go.Proofs.YtgifehmpgcenjaaDoor
set_option linter.unusedVariables false
set_option linter.unusedSimpArgs false
open Go.RowKit

/-! ### plain -/
def prodL (l : List Int) : Int := l.foldl (· * ·) 1
def okD (l : List Int) : Bool := l.all fun k => decide (1 ≤ k) && decide (k ≤ 256)
def validL (l : List Int) : Int := if 4 < l.length then 104 else if okD l = false then 102 else if 16384 < prodL l then 104 else 0
def elemsL (l : List Int) : Int := if validL l = 0 then prodL l else 0

theorem take_succ_ix (l : List Int) (k : Nat) (h : k < l.length) : l.take (k + 1) = l.take k ++ [ix l k] := by
  rw [List.take_succ_eq_append_getElem h, ix_eq l k h]
theorem prodL_take (l : List Int) (k : Nat) (h : k < l.length) : prodL (l.take (k + 1)) = prodL (l.take k) * ix l k := by
  rw [take_succ_ix l k h]; simp [prodL]
theorem prodL_take_zero (l : List Int) : prodL (l.take 0) = 1 := rfl
theorem okD_iff (l : List Int) : okD l = true ↔ ∀ i, i < l.length → 1 ≤ ix l i ∧ ix l i ≤ 256 := by
  unfold okD
  rw [List.all_eq_true]
  constructor
  · intro h i hi
    have := h l[i] (List.getElem_mem hi)
    rw [ix_eq l i hi]; simpa using this
  · intro h x hx
    obtain ⟨i, hi, rfl⟩ := List.getElem_of_mem hx
    have := h i hi
    rw [ix_eq l i hi] at this; simpa using this
theorem okD_ix {l : List Int} (h : okD l = true) (i : Nat) (hi : i < l.length) : 1 ≤ ix l i ∧ ix l i ≤ 256 := (okD_iff l).1 h i hi
theorem prodL_pos {l : List Int} (h : okD l = true) (k : Nat) (hk : k ≤ l.length) : 1 ≤ prodL (l.take k) := by
  induction k with
  | zero => simp [prodL]
  | succ k ih =>
    have h1 := ih (by omega)
    have h2 := okD_ix h k (by omega)
    rw [prodL_take l k (by omega)]
    have := Int.mul_le_mul h1 h2.1 (by omega) (by omega)
    omega
theorem prodL_mono {l : List Int} (h : okD l = true) (k : Nat) (d : Nat) (hk : k + d ≤ l.length) : prodL (l.take k) ≤ prodL (l.take (k + d)) := by
  induction d with
  | zero => exact Int.le_refl _
  | succ d ih =>
    have h1 := ih (by omega)
    have h2 := okD_ix h (k + d) (by omega)
    have h3 := prodL_pos h (k + d) (by omega)
    rw [← Nat.add_assoc, prodL_take l (k + d) (by omega)]
    have := Int.mul_le_mul_of_nonneg_left h2.1 (show 0 ≤ prodL (l.take (k + d)) by omega)
    omega
theorem prodL_all {l : List Int} (h : okD l = true) (k : Nat) (hk : k ≤ l.length) : prodL (l.take k) ≤ prodL l := by
  have := prodL_mono h k (l.length - k) (by omega)
  rwa [show k + (l.length - k) = l.length by omega, List.take_length] at this
/-- partial products of a short shape are small -/
theorem prodL_bound {l : List Int} (h : okD l = true) (h4 : l.length ≤ 4) (k : Nat) (hk : k ≤ l.length) : prodL (l.take k) ≤ 4294967296 := by
  have step : ∀ k, k ≤ l.length → prodL (l.take k) ≤ 256 ^ k := by
    intro k hk
    induction k with
    | zero => simp [prodL]
    | succ k ih =>
      have h1 := ih (by omega)
      have h2 := okD_ix h k (by omega)
      have h3 := prodL_pos h k (by omega)
      rw [prodL_take l k (by omega), Int.pow_succ]
      exact Int.mul_le_mul h1 h2.2 (by omega) (Int.pow_nonneg (by omega))
  have h1 := step k hk
  have h2 : (256 : Int) ^ k ≤ 256 ^ 4 := by
    have : k = 0 ∨ k = 1 ∨ k = 2 ∨ k = 3 ∨ k = 4 := by omega
    rcases this with rfl | rfl | rfl | rfl | rfl <;> decide
  have h3 : (256 : Int) ^ 4 = 4294967296 := by decide
  omega

theorem mul_small {a b : Int} (h1 : 0 ≤ a) (h2 : a ≤ 4294967296) (h3 : 0 ≤ b) (h4 : b ≤ 256) : 0 ≤ a * b ∧ a * b ≤ 1099511627776 := by
  have h5 := Int.mul_nonneg h1 h3
  have h6 := Int.mul_le_mul h2 h4 h3 (by omega)
  omega

/-! ### errors -/
def errT : TypeId := 168
def errV (E : Int → Addr) (c : Int) : Value := if c = 0 then .nilIface else .iface 168 (.pointer (some (E c)))
/-- the errors that are read here -/
structure Errs (E : Int → Addr) (w : World) : Prop where
  many : w.cell? ⟨0, 0, none⟩ = some (.iface 168 (.pointer (some (E 104))))
  range : w.cell? ⟨1, 0, none⟩ = some (.iface 168 (.pointer (some (E 102))))
theorem Errs.mono {E : Int → Addr} {w w' : World} (h : Errs E w) (hb : Below w.heap.size w w') : Errs E w' := ⟨cell_mono h.many hb, cell_mono h.range hb⟩

/-! ### walks -/
set_option maxHeartbeats 400000 in
theorem number_any (n b : Int) (w : World) (hb : 0 < b) (hb2 : b ≤ 4611686018427387904) :
    Calls Tryd.prog 18 #[.int .i64 n, .int .i64 b] w fun e w' => e = .returned (.int .i64 (n % b)) ∧ w = w' := by
  go_enter Tryd.func18, Tryd.ntmps18
  go_wp2
  go_ret
  refine ⟨?_, rfl⟩
  have h1 := Int.tmod_lt_of_pos n hb
  have h2 : -b < n.tmod b := by have := Int.lt_tmod_of_pos n hb; omega
  congr 2
  rw [show wrap64 (n.tmod b + b) = n.tmod b + b by unfold wrap64; omega]
  rw [Int.tmod_eq_emod_of_nonneg (by omega), Int.add_emod_right, Int.tmod_eq_emod]
  split
  · simp
  · rw [Int.sub_emod, Int.natAbs_of_nonneg (by omega)]; simp


set_option maxHeartbeats 400000 in
theorem valid_any (E : Int → Addr) (w : World) (A : Option Addr) (l : List Int) (c : Nat) (wide : Bool) (h : IL .i64 w A l) (hm : l.length ≤ maxLen) (hE : Errs E w) :
    Calls Tryd.prog 20 #[.agg #[.slice A l.length c, .bool wide]] w fun e w' => e = .returned (errV E (validL l)) ∧ Below w.heap.size w w' := by
  unfold maxLen at hm
  have HB := Below.refl w.heap.size w
  by_cases h4 : 4 < l.length
  · have d1 : decide ((4:Int) < (l.length : Int)) = true := decide_eq_true (by omega)
    have d2 : decide (4 < l.length) = true := by simpa using h4
    have hv : validL l = 104 := by simp [validL, h4]
    rw [hv]
    go_enter Tryd.func20, Tryd.ntmps20
    go_wp2_with ((with_reducible refine dst_gate (N := 1) rfl ?_); (refine box_ev 1 rfl ?hg #[.slice A l.length c, .bool wide] 30 ?hr ?_); (case hg => first | rfl | (go_simp; done)); (case hr => (first | (go_simp; done) | (go_simp; rfl))); intro gK wK K hgK hb; have HB := below_step HB hb; replace hE := hE.mono hb; have k0 := K.cell 0 _ rfl; have k1 := K.cell 1 _ rfl; have e1 := hE.many)
    go_ret
    exact ⟨rfl, HB⟩
  · have d1 : decide ((4:Int) < (l.length : Int)) = false := decide_eq_false (by omega)
    have d2 : decide (4 < l.length) = false := by simpa using h4
    
    go_enter Tryd.func20, Tryd.ntmps20
    go_wp2_with ((with_reducible refine dst_gate (N := 1) rfl ?_); (refine box_ev 1 rfl ?hg #[.slice A l.length c, .bool wide] 30 ?hr ?_); (case hg => first | rfl | (go_simp; done)); (case hr => (first | (go_simp; done) | (go_simp; rfl))); intro gK wK K hgK hb; have HB := below_step HB hb; replace hE := hE.mono hb; replace h := h.mono hb; have k0 := K.cell 0 _ rfl; have k1 := K.cell 1 _ rfl; have e1 := hE.many; have e2 := hE.range)
    go_loop [16] (fun i => ∃ k : Nat, k ≤ l.length ∧ i = .int .i64 k ∧ Aside (∀ j, j < k → 1 ≤ ix l j ∧ ix l j ≤ 256)) (fun i => l.length - (intOf i).toNat)
    case atStart => exact ⟨0, Nat.zero_le _, rfl, ⟨fun j hj => absurd hj (by omega)⟩⟩
    case round =>
      obtain ⟨k, hk, rfl, hd⟩ := hrel
      by_cases hk : k < l.length
      · obtain ⟨b, o, rfl, hc⟩ := h (by omega)
        have hck := hc k hk
        have hc := Aside.mk hc
        by_cases hx : 1 ≤ ix l k ∧ ix l k ≤ 256
        · obtain ⟨x1, x2⟩ := hx
          have y1 : decide (ix l k < 1) = false := decide_eq_false (by omega)
          have y2 : decide (256 < ix l k) = false := decide_eq_false (by omega)
          go_wp2
          go_round
          case rel => exact ⟨k + 1, by omega, by go_num, ⟨fun j hj => by
            by_cases e : j = k
            · subst e; exact ⟨x1, x2⟩
            · exact hd.out j (by omega)⟩⟩
          case measure => simp [intOf]; omega
        · have hv : validL l = 102 := by
            have : okD l = false := by
              cases h7 : okD l with
              | false => rfl
              | true => exact absurd (okD_ix h7 k hk) hx
            simp [validL, h4, this]
          by_cases y : ix l k < 1
          · have y1 : decide (ix l k < 1) = true := decide_eq_true y
            go_wp2
            go_ret
            exact ⟨rfl, HB⟩
          · have y1 : decide (ix l k < 1) = false := decide_eq_false y
            have y2 : decide (256 < ix l k) = true := decide_eq_true (by omega)
            go_wp2
            go_ret
            exact ⟨rfl, HB⟩
      · have hkk : k = l.length := by omega
        have ho : okD l = true := (okD_iff l).2 fun i hi => hd.out i (by omega)
        have ho := Aside.mk ho
        subst hkk
        go_wp2
        go_loop [3, 31] (fun n i => ∃ k : Nat, k ≤ l.length ∧ i = .int .i64 k ∧ n = .int .i64 (prodL (l.take k)) ∧ prodL (l.take k) ≤ 16384) (fun _ i => l.length - (intOf i).toNat)
        case atStart => exact ⟨0, Nat.zero_le _, rfl, rfl, by simp [prodL]⟩
        case round =>
          obtain ⟨k, hk, rfl, rfl, hp⟩ := hrel
          by_cases hk : k < l.length
          · obtain ⟨b, o, rfl, hc⟩ := h (by omega)
            have hck := hc k hk
            have hc := Aside.mk hc
            have p1 := prodL_pos ho.out k (by omega)
            obtain ⟨x1, x2⟩ := okD_ix ho.out k hk
            obtain ⟨m1, m2⟩ := mul_small (a := prodL (l.take k)) (b := ix l k) (by omega) (by omega) (by omega) (by omega)
            have hs := Lib.hid (prodL_take l k hk)
            by_cases hx : 16384 < prodL (l.take k) * ix l k
            · have hv : validL l = 104 := by
                have := prodL_all ho.out (k + 1) (by omega)
                rw [prodL_take l k hk] at this
                simp [validL, h4, ho.out, show 16384 < prodL l by omega]
              have y1 : decide (16384 < prodL (l.take k) * ix l k) = true := decide_eq_true hx
              go_wp2
              go_ret
              exact ⟨rfl, HB⟩
            · have y1 : decide (16384 < prodL (l.take k) * ix l k) = false := decide_eq_false hx
              go_wp2
              go_round
              case rel => exact ⟨k + 1, by omega, by go_num, by rw [hs.out], by rw [hs.out]; omega⟩
              case measure => simp [intOf]; omega
          · have hkk : k = l.length := by omega
            have hv : validL l = 0 := by
              rw [hkk, List.take_length] at hp
              simp [validL, h4, ho.out, show ¬ 16384 < prodL l by omega]
            subst hkk
            go_wp2
            go_ret
            exact ⟨rfl, HB⟩
end Go.Proofs.YtgifehmpgcenjaaDoor
