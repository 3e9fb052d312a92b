/- Steps and At of shapes, of the program and of the document, walked. No condition but sizes that any memory has. -/
import Derived.Test.YtgifehmpgcenjaaDoorSk
namespace Go.Proofs.YtgifehmpgcenjaaDoor
set_option linter.unusedVariables false
set_option linter.unusedSimpArgs false
open Go.RowKit

/-! ### the document's -/
set_option maxHeartbeats 800000 in
theorem refValid_any (w : World) (A : Option Addr) (l : List Int) (c : Nat) (wide : Bool) (h : IL .i64 w A l) (hm : l.length ≤ maxLen) :
    Calls Tryd.prog 56 #[.agg #[.slice A l.length c, .bool wide]] w fun e w' => e = .returned (.int .i64 (validL l)) ∧ Below w.heap.size w w' := by
  unfold maxLen at hm
  have HB := Below.refl w.heap.size w
  by_cases h4 : 4 < l.length
  · have d1 : decide ((4:Int) < (l.length : Int)) = true := decide_eq_true (by omega)
    have d2 : decide (4 < l.length) = true := by simpa using h4
    have hv : validL l = 104 := by simp [validL, h4]
    
    go_enter Tryd.func56, Tryd.ntmps56
    go_wp2_with ((with_reducible refine dst_gate (N := 1) rfl ?_); (refine box_ev 1 rfl ?hg #[.slice A l.length c, .bool wide] 30 ?hr ?_); (case hg => first | rfl | (go_simp; done)); (case hr => (first | (go_simp; done) | (go_simp; rfl))); intro gK wK K hgK hb; have HB := below_step HB hb; have k0 := K.cell 0 _ rfl; have k1 := K.cell 1 _ rfl)
    go_ret
    exact ⟨by first | rfl | (rw [hv]; rfl), HB⟩
  · have d1 : decide ((4:Int) < (l.length : Int)) = false := decide_eq_false (by omega)
    have d2 : decide (4 < l.length) = false := by simpa using h4
    
    go_enter Tryd.func56, Tryd.ntmps56
    go_wp2_with ((with_reducible refine dst_gate (N := 1) rfl ?_); (refine box_ev 1 rfl ?hg #[.slice A l.length c, .bool wide] 30 ?hr ?_); (case hg => first | rfl | (go_simp; done)); (case hr => (first | (go_simp; done) | (go_simp; rfl))); intro gK wK K hgK hb; have HB := below_step HB hb; replace h := h.mono hb; have k0 := K.cell 0 _ rfl; have k1 := K.cell 1 _ rfl)
    go_loop [3, 4] (fun n i => ∃ k : Nat, k ≤ l.length ∧ i = .int .i64 k ∧ n = .int .i64 (prodL (l.take k)) ∧ Aside (okD (l.take k) = true)) (fun _ i => l.length - (intOf i).toNat)
    case atStart => exact ⟨0, Nat.zero_le _, rfl, rfl, ⟨rfl⟩⟩
    case round =>
      obtain ⟨k, hk, rfl, rfl, ho⟩ := hrel
      have hik := fun j (hj : j < k) => show 1 ≤ ix l j ∧ ix l j ≤ 256 from by
        have := okD_ix ho.out j (by simp; omega)
        simpa [ix, List.getElem?_take, hj] using this
      have hik := Aside.mk hik
      by_cases hk : k < l.length
      · obtain ⟨b, o, rfl, hc⟩ := h (by omega)
        have hck := hc k hk
        have hc := Aside.mk hc
        have p1 := prodL_pos ho.out k (by simp; omega)
        have p2 := prodL_bound ho.out (by simp; omega) k (by simp; omega)
        rw [List.take_take, Nat.min_self] at p1 p2
        by_cases hx : 1 ≤ ix l k ∧ ix l k ≤ 256
        · obtain ⟨x1, x2⟩ := hx
          have y1 : decide (ix l k < 1) = false := decide_eq_false (by omega)
          have y2 : decide (256 < ix l k) = false := decide_eq_false (by omega)
          obtain ⟨m1, m2⟩ := mul_small (a := prodL (l.take k)) (b := ix l k) (by omega) (by omega) (by omega) (by omega)
          have hs := Lib.hid (prodL_take l k hk)
          have ho2 : okD (l.take (k + 1)) = true := by
            rw [take_succ_ix l k hk]
            have := ho.out
            unfold okD at this ⊢
            simp only [List.all_append, this, Bool.true_and, List.all_cons, List.all_nil, Bool.and_true]
            simp; omega
          have ho2 := Aside.mk ho2
          go_wp2
          go_round
          case rel => exact ⟨k + 1, by omega, by go_num, by rw [hs.out], ho2⟩
          case measure => simp [intOf]; omega
        · have hv : validL l = 102 := by
            have : okD l = false := by
              cases h7 : okD l with
              | false => rfl
              | true => exact absurd (okD_ix h7 k hk) hx
            simp [validL, h4, this]
          by_cases y : ix l k < 1
          · have y1 : decide (ix l k < 1) = true := decide_eq_true y
            go_wp2
            go_ret
            exact ⟨by first | rfl | (rw [hv]; rfl), HB⟩
          · have y1 : decide (ix l k < 1) = false := decide_eq_false y
            have y2 : decide (256 < ix l k) = true := decide_eq_true (by omega)
            go_wp2
            go_ret
            exact ⟨by first | rfl | (rw [hv]; rfl), HB⟩
      · obtain rfl : k = l.length := by omega
        have ho1 := ho.out
        rw [List.take_length] at ho1
        have hv1 : 16384 < prodL l → validL l = 104 := fun h5 => by simp [validL, h4, ho1, h5]
        have hv2 : ¬ 16384 < prodL l → validL l = 0 := fun h5 => by simp [validL, h4, ho1, h5]
        have ho1 := Aside.mk ho1
        have hv1 := Aside.mk hv1
        have hv2 := Aside.mk hv2
        have et := List.take_length (l := l)
        by_cases hx : 16384 < prodL l
        · have y1 : decide (16384 < prodL l) = true := decide_eq_true hx
          have hv := hv1.out hx
          go_wp2
          go_ret
          exact ⟨by first | rfl | (rw [hv]; rfl), HB⟩
        · have y1 : decide (16384 < prodL l) = false := decide_eq_false hx
          have hv := hv2.out hx
          go_wp2
          go_ret
          exact ⟨by first | rfl | (rw [hv]; rfl), HB⟩

set_option maxHeartbeats 400000 in
theorem refElems_any (w : World) (A : Option Addr) (l : List Int) (c : Nat) (h : IL .i64 w A l) (hm : l.length ≤ maxLen) :
    Calls Tryd.prog 70 #[.slice A l.length c] w fun e w' => e = .returned (.int .i64 (elemsL l)) ∧ Below w.heap.size w w' := by
  have HB := Below.refl w.heap.size w
  by_cases hv : validL l = 0
  · have hd : (validL l != 0) = false := by simpa using hv
    obtain ⟨ho, h4, hp⟩ := validL_ok hv
    have hr : elemsL l = prodL (l.take l.length) := by simp [elemsL, hv]
    have ho := Aside.mk ho
    have hvv := Aside.mk hv
    clear hv
    
    go_enter Tryd.func70, Tryd.ntmps70
    go_wp2_with ((with_reducible refine callee_gate (f := 56) (N := 7) rfl rfl ?_); refine call_ev 7 rfl rfl ?hg Tryd.func56 (by kernel_rfl) rfl #[.agg #[.slice A l.length c, .bool false]] ?hargs (refValid_any _ A l c false h hm) ?_; (case hg => first | rfl | (go_simp; done)); (case hargs => first | rfl | (simp; done) | (simp [Act.put, Act.eval]; done) | (go_simp; done)); rintro e_ w_ ⟨rfl, hb⟩; have HB := below_step HB hb; replace h := h.mono hb; refine ⟨_, rfl, ?_⟩)
    clear hd
    go_loop [3, 4] (fun n i => ∃ k : Nat, k ≤ l.length ∧ i = .int .i64 k ∧ n = .int .i64 (prodL (l.take k))) (fun _ i => l.length - (intOf i).toNat)
    case atStart => exact ⟨0, Nat.zero_le _, rfl, rfl⟩
    case round =>
      obtain ⟨k, hk, rfl, rfl⟩ := hrel
      by_cases hk : k < l.length
      · obtain ⟨b, o, rfl, hc⟩ := h (by omega)
        have hck := hc k hk
        have hc := Aside.mk hc
        have p1 := prodL_pos ho.out k (by omega)
        have p2 := prodL_all ho.out k (by omega)
        obtain ⟨x1, x2⟩ := okD_ix ho.out k hk
        obtain ⟨m1, m2⟩ := mul_small (a := prodL (l.take k)) (b := ix l k) (by omega) (by omega) (by omega) (by omega)
        have hs := Lib.hid (prodL_take l k hk)
        go_wp2
        go_round
        case rel => exact ⟨k + 1, by omega, by go_num, by rw [hs.out]⟩
        case measure => simp [intOf]; omega
      · obtain rfl : k = l.length := by omega
        go_wp2
        go_ret
        exact ⟨by first | rfl | (rw [hr]; rfl), HB⟩
  · have hd : (validL l != 0) = true := by simpa using hv
    
    go_enter Tryd.func70, Tryd.ntmps70
    go_wp2_with ((with_reducible refine callee_gate (f := 56) (N := 7) rfl rfl ?_); refine call_ev 7 rfl rfl ?hg Tryd.func56 (by kernel_rfl) rfl #[.agg #[.slice A l.length c, .bool false]] ?hargs (refValid_any _ A l c false h hm) ?_; (case hg => first | rfl | (go_simp; done)); (case hargs => first | rfl | (simp; done) | (simp [Act.put, Act.eval]; done) | (go_simp; done)); rintro e_ w_ ⟨rfl, hb⟩; have HB := below_step HB hb; refine ⟨_, rfl, ?_⟩)
    go_ret
    exact ⟨by simp [elemsL, hv], HB⟩

theorem elemsL_zero (l : List Int) : elemsL l = 0 ↔ validL l ≠ 0 := by
  unfold elemsL
  split
  · rename_i h
    have h1 := prodL_pos (validL_ok h).1 l.length (Nat.le_refl _)
    rw [List.take_length] at h1
    constructor
    · intro h2; omega
    · intro h2; exact absurd h h2
  · rename_i h; simp [h]


set_option maxHeartbeats 1600000 in
theorem refIndex_any (w : World) (A A' : Option Addr) (s at_ : List Int) (c c' : Nat) (h1 : IL .i64 w A s) (h2 : IL .i64 w A' at_) (hm : s.length ≤ maxLen) (hm' : at_.length ≤ maxLen) :
    Calls Tryd.prog 25 #[.slice A s.length c, .slice A' at_.length c'] w fun e w' => e = .returned (.tuple #[.int .i64 (indexL s at_).1, .bool (indexL s at_).2]) ∧ Below w.heap.size w w' := by
  have HB := Below.refl w.heap.size w
  unfold maxLen at hm'
  by_cases hv : validL s = 0
  · have hd : (elemsL s == 0) = false := by
      have : ¬ elemsL s = 0 := fun e => (elemsL_zero s).1 e hv
      simpa using this
    obtain ⟨ho, h4, hp⟩ := validL_ok hv
    have ho := Aside.mk ho
    by_cases hl : at_.length = s.length
    · have hrF := Aside.mk (show insideL s at_ = false → indexL s at_ = (0, false) from fun hb => by simp [indexL, hv, hl, hb])
      have hrT := Aside.mk (show insideL s at_ = true → indexL s at_ = (hornerL s at_ s.length, true) from fun hb => by simp [indexL, hv, hl, hb])
      have hl1 : ((at_.length : Int) != (s.length : Int)) = false := by simp [hl]
      have hl2 : (at_.length != s.length) = false := by simp [hl]
      have hl3 := Lib.hid hl
      clear hl
      go_enter Tryd.func25, Tryd.ntmps25
      go_wp2_with ((with_reducible refine callee_gate (f := 70) (N := 9) rfl rfl ?_); refine call_ev 9 rfl rfl ?hg Tryd.func70 (by kernel_rfl) rfl #[.slice A s.length c] ?hargs (refElems_any _ A s c h1 hm) ?_; (case hg => first | rfl | (go_simp; done)); (case hargs => first | rfl | (simp; done) | (simp [Act.put, Act.eval]; done) | (go_simp; done)); rintro e_ w_ ⟨rfl, hb⟩; have HB := below_step HB hb; replace h1 := h1.mono hb; replace h2 := h2.mono hb; refine ⟨_, rfl, ?_⟩)
      clear hd
      go_loopw [6, 7] (fun n i w' => ∃ k : Nat, k ≤ s.length ∧ i = .int .i64 k ∧ n = .int .i64 (hornerL s at_ k) ∧ Aside (∀ j, j < k → 0 ≤ ix at_ j ∧ ix at_ j < ix s j) ∧ Below w_.heap.size w_ w') (fun _ i _ => s.length - (intOf i).toNat)
      case atStart => exact ⟨0, Nat.zero_le _, rfl, rfl, ⟨fun j hj => absurd hj (by omega)⟩, Below.refl _ _⟩
      case round =>
        obtain ⟨k, hk, rfl, rfl, hin, HB'⟩ := hrel
        by_cases hk : k < s.length
        · have hka : k < at_.length := by rw [hl3.out]; exact hk
          obtain ⟨b, o, rfl, hc⟩ := (h1.mono HB') (by omega)
          have hck := hc k hk
          have hc := Aside.mk hc
          obtain ⟨b', o', rfl, hc'⟩ := (h2.mono HB') (by omega)
          have hck' := hc' k hka
          have hc' := Aside.mk hc'
          clear h1 h2
          obtain ⟨q1, q2⟩ := horner_bound (at_ := at_) ho.out k (by omega) hin.out
          have p2 := prodL_all ho.out k (by omega)
          obtain ⟨x1, x2⟩ := okD_ix ho.out k hk
          obtain ⟨m1, m2⟩ := mul_small (a := hornerL s at_ k) (b := ix s k) (by omega) (by omega) (by omega) (by omega)
          have b1 : (k : Int) < (s.length : Int) := by omega
          have b2 : (k : Int) < (at_.length : Int) := by omega
          by_cases hx : 0 ≤ ix at_ k ∧ ix at_ k < ix s k
          · obtain ⟨y1, y2⟩ := hx
            have z1 : decide (ix at_ k < 0) = false := decide_eq_false (by omega)
            have z2 : decide (ix s k ≤ ix at_ k) = false := decide_eq_false (by omega)
            go_wp2
            go_quiet (fail)
            go_wp2
            go_quiet (fail)
            go_wp2
            go_roundw
            case rel => exact ⟨k + 1, by omega, by go_num, by first | rfl | (rw [show IntKind.i64.wrap (hornerL s at_ k * ix s k + ix at_ k) = hornerL s at_ k * ix s k + ix at_ k by simp [IntKind.wrap]; omega]; rfl), ⟨fun j hj => by
              by_cases e : j = k
              · subst e; exact ⟨y1, y2⟩
              · exact hin.out j (by omega)⟩, below_drewN HB' _⟩
            case measure => simp [intOf]; omega
          · have hr0 := hrF.out (by
              cases h7 : insideL s at_ with
              | false => rfl
              | true => exact absurd ((insideL_iff _ _).1 h7 k hk) hx)
            by_cases y1 : ix at_ k < 0
            · have z1 : decide (ix at_ k < 0) = true := decide_eq_true y1
              go_wp2
              go_quiet (fail)
              go_wp2
              go_ret2
              exact ⟨by first | rfl | (rw [hr0]; rfl), below_drewN (below_step HB HB') _⟩
            · have z1 : decide (ix at_ k < 0) = false := decide_eq_false y1
              have z2 : decide (ix s k ≤ ix at_ k) = true := decide_eq_true (by omega)
              go_wp2
              go_quiet (fail)
              go_wp2
              go_ret2
              exact ⟨by first | rfl | (rw [hr0]; rfl), below_drewN (below_step HB HB') _⟩
        · obtain rfl : k = s.length := by omega
          have hr1 := hrT.out ((insideL_iff _ _).2 hin.out)
          clear h1 h2
          go_wp2
          go_ret2
          exact ⟨by first | rfl | (rw [hr1]; rfl), below_step HB HB'⟩
    · have hl1 : ((at_.length : Int) != (s.length : Int)) = true := by simp; omega
      have hl2 : (at_.length != s.length) = true := by simpa using hl
      go_enter Tryd.func25, Tryd.ntmps25
      go_wp2_with ((with_reducible refine callee_gate (f := 70) (N := 9) rfl rfl ?_); refine call_ev 9 rfl rfl ?hg Tryd.func70 (by kernel_rfl) rfl #[.slice A s.length c] ?hargs (refElems_any _ A s c h1 hm) ?_; (case hg => first | rfl | (go_simp; done)); (case hargs => first | rfl | (simp; done) | (simp [Act.put, Act.eval]; done) | (go_simp; done)); rintro e_ w_ ⟨rfl, hb⟩; have HB := below_step HB hb; replace h1 := h1.mono hb; replace h2 := h2.mono hb; refine ⟨_, rfl, ?_⟩)
      go_ret2
      exact ⟨by simp [indexL, hl], HB⟩
  · have hd : (elemsL s == 0) = true := by
      have := (elemsL_zero s).2 hv
      simpa using this
    
    go_enter Tryd.func25, Tryd.ntmps25
    go_wp2_with ((with_reducible refine callee_gate (f := 70) (N := 9) rfl rfl ?_); refine call_ev 9 rfl rfl ?hg Tryd.func70 (by kernel_rfl) rfl #[.slice A s.length c] ?hargs (refElems_any _ A s c h1 hm) ?_; (case hg => first | rfl | (go_simp; done)); (case hargs => first | rfl | (simp; done) | (simp [Act.put, Act.eval]; done) | (go_simp; done)); rintro e_ w_ ⟨rfl, hb⟩; have HB := below_step HB hb; refine ⟨_, rfl, ?_⟩)
    go_ret2
    exact ⟨by simp [indexL, hv], HB⟩
end Go.Proofs.YtgifehmpgcenjaaDoor
