/- Package tens' functions, walked: fits, Put, Wide, Narrow, shape's Bytes and Clone, Clone, Valid. No condition but sizes that any memory has. -/
import Derived.Test.YtgifehmpgcenjaaDoorTb
import Derived.Test.YtgifehmpgcenjaaDoorSf
namespace Go.Proofs.YtgifehmpgcenjaaDoor
set_option linter.unusedVariables false
set_option linter.unusedSimpArgs false
open Go.RowKit

def fitsL (n : Int) (wide : Bool) : Bool := if wide then decide (-2147483648 ≤ n) && decide (n ≤ 2147483647) else decide (-128 ≤ n) && decide (n ≤ 127)
set_option maxHeartbeats 400000 in
theorem fits_any (w : World) (n : Int) (wide : Bool) :
    Calls Tryd.prog 96 #[.int .i64 n, .bool wide] w fun e w' => e = .returned (.bool (fitsL n wide)) ∧ w = w' := by
  cases wide with
  | true =>
    by_cases h1 : -2147483648 ≤ n
    · have d1 : decide (-2147483648 ≤ n) = true := decide_eq_true h1
      go_enter Tryd.func96, Tryd.ntmps96
      go_wp2
      go_ret
      exact ⟨by simp [fitsL, d1], rfl⟩
    · have d1 : decide (-2147483648 ≤ n) = false := decide_eq_false h1
      go_enter Tryd.func96, Tryd.ntmps96
      go_wp2
      go_ret
      exact ⟨by simp [fitsL, d1], rfl⟩
  | false =>
    by_cases h1 : -128 ≤ n
    · have d1 : decide (-128 ≤ n) = true := decide_eq_true h1
      go_enter Tryd.func96, Tryd.ntmps96
      go_wp2
      go_ret
      exact ⟨by simp [fitsL, d1], rfl⟩
    · have d1 : decide (-128 ≤ n) = false := decide_eq_false h1
      go_enter Tryd.func96, Tryd.ntmps96
      go_wp2
      go_ret
      exact ⟨by simp [fitsL, d1], rfl⟩

/-! ### shape -/
theorem Own.set {w : World} {base g j : Nat} {e : TypeId} {v u : Value} {xs : List Value} (h : Own w base e v xs) (hg : g < base) : Own (w.setCell ⟨g, j, none⟩ u) base e v xs := by
  refine World.ownsRow.kept h (row := some g) ⟨rfl, rfl, rfl, by simp [World.setCell], fun k _ hne => Below.heap_setCell _ _ _ _ (fun e => hne (by rw [e]))⟩ ?_
  cases hv : v.ownBlock with
  | none => exact .inl rfl
  | some k => exact .inr fun e => by injection e with e; have := h.base_le k hv; omega


set_option maxHeartbeats 400000 in
theorem shClone_any (w : World) (A : Option Addr) (l : List Int) (c : Nat) (wide : Bool) (h : SL .i64 w A l c) (hm : l.length ≤ 1000000) :
    Calls Tryd.prog 69 #[.agg #[.slice A l.length c, .bool wide]] w fun e w' => ∃ v, e = .returned (.agg #[v, .bool wide]) ∧ Own w' w.heap.size 3 v (l.map (.int .i64)) ∧ Below w.heap.size w w' := by
  have HB := Below.refl w.heap.size w
  go_enter Tryd.func69, Tryd.ntmps69
  go_wp2_with (first | ((with_reducible refine dst_gate (N := 1) rfl ?_); (refine box_ev 1 rfl ?hg #[.slice A l.length c, .bool wide] 30 ?hr ?_); (case hg => first | rfl | (go_simp; done)); (case hr => (first | (go_simp; done) | (go_simp; rfl))); intro gK wK K hgK hb; have HB := below_step HB hb; replace h := h.mono hb; have k0 := K.cell 0 _ rfl; have k1 := K.cell 1 _ rfl; have ltK := K.lt) | ((with_reducible refine dst_gate (N := 2) rfl ?_); (refine box_ev 2 rfl ?hg #[.slice none 0 0, .bool false] 30 ?hr ?_); (case hg => first | rfl | (go_simp; done)); (case hr => (first | (go_simp; done) | (go_simp; rfl))); intro gR wR R hgR hb; have HB := below_step HB hb; replace h := h.mono hb; have r0 := hgR; replace k0 := cell_mono k0 hb; replace k1 := cell_mono k1 hb))
  have R' : Blk wR.drew gR #[.slice none 0 0, .bool false] 30 := R
  have K' : Blk wR.drew gK #[.slice A l.length c, .bool wide] 30 := K.mono (below_step (Below.refl _ _) hb) |>.mono (Below.refl _ _).drew
  have h' := h.mono (Below.refl _ _).drew
  go_region_with (first | (go_at_call 78; refine (clone_any _ A l c h' hm).mono ?_; rintro e_ w2 ⟨v, rfl, O, hb2⟩; obtain ⟨A9, c9, rfl, S9⟩ := O.sl; have R2 := R'.mono hb2; have K2 := K'.mono hb2; have q0 := K2.cell 0 _ rfl; have q1 := K2.cell 1 _ rfl; have z0 := R2.cell 0 _ rfl; have z1 := R2.cell 1 _ rfl; have y0 := R2.frozen 0; have y1 := R2.frozen 1))
  all_goals
    have hg0 : w.heap.size ≤ gR := by omega
    have lt := R'.lt
    have HB4 := ((below_step HB.drew hb2).setCell (p := ⟨gR, 0, none⟩) hg0 (.slice A9 l.length c9)).setCell (p := ⟨gR, 1, none⟩) hg0 (.bool wide)
    have K4 := (R2.setCell 0 (.slice A9 l.length c9)).setCell 1 (.bool wide)
    have O4 := ((O.set (g := gR) (j := 0) (u := .slice A9 l.length c9) lt).set (g := gR) (j := 1) (u := .bool wide) lt).lower HB.drew.size
    go_wp2
    refine bodyPost_ret (v := .agg #[.slice A9 l.length c9, .bool wide]) ?_ rfl ⟨_, rfl, O4, HB4⟩
    exact results_cell_row rfl _ _ gR 30 _ (0, 0) _ rfl K4 Tryd.underlying30 rfl (by kernel_rfl)

def sizeL (l : List Int) (wide : Bool) : Int := if wide then 4 * elemsL l else elemsL l
theorem elemsL_bounds (l : List Int) : 0 ≤ elemsL l ∧ elemsL l ≤ 16384 := by
  unfold elemsL
  split
  · rename_i h
    obtain ⟨ho, h4, hp⟩ := validL_ok h
    have := prodL_pos ho l.length (Nat.le_refl _)
    rw [List.take_length] at this
    omega
  · omega
set_option maxHeartbeats 400000 in
theorem shBytes_any (E : Int → Addr) (w : World) (A : Option Addr) (l : List Int) (c : Nat) (wide : Bool) (h : IL .i64 w A l) (hm : l.length ≤ maxLen) (hE : Errs E w) :
    Calls Tryd.prog 71 #[.agg #[.slice A l.length c, .bool wide]] w fun e w' => e = .returned (.int .i64 (sizeL l wide)) ∧ Below w.heap.size w w' := by
  have HB := Below.refl w.heap.size w
  obtain ⟨b1, b2⟩ := elemsL_bounds l
  cases wide with
  | true =>
    
    go_enter Tryd.func71, Tryd.ntmps71
    go_wp2_with (first | ((with_reducible refine dst_gate (N := 1) rfl ?_); (refine box_ev 1 rfl ?hg #[.slice A l.length c, .bool true] 30 ?hr ?_); (case hg => first | rfl | (go_simp; done)); (case hr => (first | (go_simp; done) | (go_simp; rfl))); intro gK wK K hgK hb; have HB := below_step HB hb; replace h := h.mono hb; replace hE := hE.mono hb; have k0 := K.cell 0 _ rfl; have k1 := K.cell 1 _ rfl) | ((with_reducible refine callee_gate (f := 21) (N := 7) rfl rfl ?_); refine call_ev 7 rfl rfl ?hg Tryd.func21 (by kernel_rfl) rfl #[.slice A l.length c] ?hargs (elems_any E _ A l c h hm hE) ?_; (case hg => first | rfl | (go_simp; done)); (case hargs => first | rfl | (simp; done) | (simp [Act.put, Act.eval]; done) | (go_simp; done)); rintro e_ w_ ⟨rfl, hb⟩; have HB := below_step HB hb; replace h := h.mono hb; replace hE := hE.mono hb; refine ⟨_, rfl, ?_⟩))
    go_ret
    exact ⟨by simp [sizeL], HB⟩
  | false =>
    go_enter Tryd.func71, Tryd.ntmps71
    go_wp2_with (first | ((with_reducible refine dst_gate (N := 1) rfl ?_); (refine box_ev 1 rfl ?hg #[.slice A l.length c, .bool false] 30 ?hr ?_); (case hg => first | rfl | (go_simp; done)); (case hr => (first | (go_simp; done) | (go_simp; rfl))); intro gK wK K hgK hb; have HB := below_step HB hb; replace h := h.mono hb; replace hE := hE.mono hb; have k0 := K.cell 0 _ rfl; have k1 := K.cell 1 _ rfl) | ((with_reducible refine callee_gate (f := 21) (N := 11) rfl rfl ?_); refine call_ev 11 rfl rfl ?hg Tryd.func21 (by kernel_rfl) rfl #[.slice A l.length c] ?hargs (elems_any E _ A l c h hm hE) ?_; (case hg => first | rfl | (go_simp; done)); (case hargs => first | rfl | (simp; done) | (simp [Act.put, Act.eval]; done) | (go_simp; done)); rintro e_ w_ ⟨rfl, hb⟩; have HB := below_step HB hb; replace h := h.mono hb; replace hE := hE.mono hb; refine ⟨_, rfl, ?_⟩))
    go_ret
    exact ⟨by simp [sizeL], HB⟩
end Go.Proofs.YtgifehmpgcenjaaDoor
