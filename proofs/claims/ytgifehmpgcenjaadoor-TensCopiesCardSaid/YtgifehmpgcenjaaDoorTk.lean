/- Equalities of tensors, of the program and of the document; tens.Get, walked. No condition but sizes that any memory has. -/
import Derived.Test.YtgifehmpgcenjaaDoorTi
namespace Go.Proofs.YtgifehmpgcenjaaDoor
set_option linter.unusedVariables false
set_option linter.unusedSimpArgs false
open Go.RowKit


theorem wDesc_any (w : World) (A : Option Addr) (s : List Int) (c : Nat) (b : Bool) :
    Calls Tryd.prog 60 #[.agg #[.slice A s.length c, .bool b]] w fun e w' => e = .returned (.bool (decide ((s.length : Int) ≤ 8))) ∧ Below w.heap.size w w' := by
  have HB := Below.refl w.heap.size w
  
  go_enter Tryd.func60, Tryd.ntmps60
  go_wp2_with ((with_reducible refine dst_gate (N := 1) rfl ?_); (refine box_ev 1 rfl ?hg #[.slice A s.length c, .bool b] 30 ?hr ?_); (case hg => first | rfl | (go_simp; done)); (case hr => (first | (go_simp; done) | (go_simp; rfl))); intro gK wK K hgK hb; have HB := below_step HB hb; have k0 := K.cell 0 _ rfl; have k1 := K.cell 1 _ rfl)
  go_ret
  exact ⟨by first | rfl | simp, HB⟩
theorem wTensor_any (w : World) (A B : Option Addr) (s d : List Int) (c k : Nat) (b : Bool) (m : Int) :
    Calls Tryd.prog 34 #[.agg #[.slice A s.length c, .bool b, .slice B d.length k], .int .i64 m] w fun e w' => e = .returned (.bool (decide ((s.length : Int) ≤ 8) && decide ((d.length : Int) ≤ m))) ∧ Below w.heap.size w w' := by
  have HB := Below.refl w.heap.size w
  by_cases h8 : (s.length : Int) ≤ 8
  · have hd : decide ((s.length : Int) ≤ 8) = true := decide_eq_true h8
    go_enter Tryd.func34, Tryd.ntmps34
    go_wp2_with (first | ((with_reducible refine dst_gate (N := 2) rfl ?_); (refine box_ev 2 rfl ?hg #[.slice A s.length c, .bool b, .slice B d.length k] 49 ?hr ?_); (case hg => first | rfl | (go_simp; done)); (case hr => (first | (go_simp; done) | (go_simp; rfl))); intro gK wK K hgK hb; have HB := below_step HB hb; have k0 := K.cell 0 _ rfl; have k1 := K.cell 1 _ rfl; have k2 := K.cell 2 _ rfl) | ((with_reducible refine callee_gate (f := 60) (N := 7) rfl rfl ?_); refine call_ev 7 rfl rfl ?hg Tryd.func60 (by kernel_rfl) rfl #[.agg #[.slice A s.length c, .bool b]] ?hargs (wDesc_any _ A s c b) ?_; (case hg => first | rfl | (go_simp; done)); (case hargs => first | rfl | (simp; done) | (simp [Act.put, Act.eval]; done) | (go_simp; done)); rintro e_ w_ ⟨rfl, hb⟩; have HB := below_step HB hb; refine ⟨_, rfl, ?_⟩; rw [hd]; replace K := K.mono hb; have k0 := K.cell 0 _ rfl; have k1 := K.cell 1 _ rfl; have k2 := K.cell 2 _ rfl))
    go_ret
    exact ⟨by first | rfl | simp [hd], HB⟩
  · have hd : decide ((s.length : Int) ≤ 8) = false := decide_eq_false h8
    go_enter Tryd.func34, Tryd.ntmps34
    go_wp2_with (first | ((with_reducible refine dst_gate (N := 2) rfl ?_); (refine box_ev 2 rfl ?hg #[.slice A s.length c, .bool b, .slice B d.length k] 49 ?hr ?_); (case hg => first | rfl | (go_simp; done)); (case hr => (first | (go_simp; done) | (go_simp; rfl))); intro gK wK K hgK hb; have HB := below_step HB hb; have k0 := K.cell 0 _ rfl; have k1 := K.cell 1 _ rfl; have k2 := K.cell 2 _ rfl) | ((with_reducible refine callee_gate (f := 60) (N := 7) rfl rfl ?_); refine call_ev 7 rfl rfl ?hg Tryd.func60 (by kernel_rfl) rfl #[.agg #[.slice A s.length c, .bool b]] ?hargs (wDesc_any _ A s c b) ?_; (case hg => first | rfl | (go_simp; done)); (case hargs => first | rfl | (simp; done) | (simp [Act.put, Act.eval]; done) | (go_simp; done)); rintro e_ w_ ⟨rfl, hb⟩; have HB := below_step HB hb; refine ⟨_, rfl, ?_⟩; rw [hd]; replace K := K.mono hb; have k0 := K.cell 0 _ rfl; have k1 := K.cell 1 _ rfl; have k2 := K.cell 2 _ rfl))
    go_ret
    exact ⟨by first | rfl | simp [hd], HB⟩


set_option maxHeartbeats 800000 in
theorem sameDesc_any (w : World) (A A' : Option Addr) (s s' : List Int) (c c' : Nat) (b b' : Bool) (h1 : SL .i64 w A s c) (h2 : SL .i64 w A' s' c') :
    Calls Tryd.prog 46 #[.agg #[.slice A s.length c, .bool b], .agg #[.slice A' s'.length c', .bool b']] w fun e w' => e = .returned (.bool (decide (s = s') && (b == b'))) ∧ Below w.heap.size w w' := by
  have HB := Below.refl w.heap.size w
  by_cases h8 : s = s'
  · have hd : decide (s = s') = true := decide_eq_true h8
    have h8 := Lib.hid h8
    go_enter Tryd.func46, Tryd.ntmps46
    go_wp2_with (first | ((with_reducible refine dst_gate (N := 2) rfl ?_); (refine box_ev 2 rfl ?hg #[.slice A s.length c, .bool b] 30 ?hr ?_); (case hg => first | rfl | (go_simp; done)); (case hr => (first | (go_simp; done) | (go_simp; rfl))); intro gK wK K hgK hb; have HB := below_step HB hb; replace h1 := h1.mono hb; replace h2 := h2.mono hb; have k0 := K.cell 0 _ rfl; have k1 := K.cell 1 _ rfl) | ((with_reducible refine dst_gate (N := 3) rfl ?_); (refine box_ev 3 rfl ?hg #[.slice A' s'.length c', .bool b'] 30 ?hr ?_); (case hg => first | rfl | (go_simp; done)); (case hr => (first | (go_simp; done) | (go_simp; rfl))); intro gL wL L hgL hb; have HB := below_step HB hb; replace h1 := h1.mono hb; replace h2 := h2.mono hb; replace K := K.mono hb; have k0 := K.cell 0 _ rfl; have k1 := K.cell 1 _ rfl; have l0 := L.cell 0 _ rfl; have l1 := L.cell 1 _ rfl) | ((with_reducible refine callee_gate (f := 28) (N := 10) rfl rfl ?_); refine call_ev 10 rfl rfl ?hg Tryd.func28 (by kernel_rfl) rfl #[.slice A s.length c, .slice A' s'.length c'] ?hargs (sameInts_any _ A A' s s' c c' h1.il h2.il h1.len h2.len) ?_; (case hg => first | rfl | (go_simp; done)); (case hargs => first | rfl | (simp; done) | (simp [Act.put, Act.eval]; done) | (go_simp; done)); rintro e_ w_ ⟨rfl, hb⟩; have HB := below_step HB hb; replace h1 := h1.mono hb; replace h2 := h2.mono hb; refine ⟨_, rfl, ?_⟩; rw [hd]; replace K := K.mono hb; have k0 := K.cell 0 _ rfl; have k1 := K.cell 1 _ rfl; replace L := L.mono hb; have l0 := L.cell 0 _ rfl; have l1 := L.cell 1 _ rfl))
    go_ret
    exact ⟨by first | rfl | simp [hd], HB⟩
  · have hd : decide (s = s') = false := decide_eq_false h8
    go_enter Tryd.func46, Tryd.ntmps46
    go_wp2_with (first | ((with_reducible refine dst_gate (N := 2) rfl ?_); (refine box_ev 2 rfl ?hg #[.slice A s.length c, .bool b] 30 ?hr ?_); (case hg => first | rfl | (go_simp; done)); (case hr => (first | (go_simp; done) | (go_simp; rfl))); intro gK wK K hgK hb; have HB := below_step HB hb; replace h1 := h1.mono hb; replace h2 := h2.mono hb; have k0 := K.cell 0 _ rfl; have k1 := K.cell 1 _ rfl) | ((with_reducible refine dst_gate (N := 3) rfl ?_); (refine box_ev 3 rfl ?hg #[.slice A' s'.length c', .bool b'] 30 ?hr ?_); (case hg => first | rfl | (go_simp; done)); (case hr => (first | (go_simp; done) | (go_simp; rfl))); intro gL wL L hgL hb; have HB := below_step HB hb; replace h1 := h1.mono hb; replace h2 := h2.mono hb; replace K := K.mono hb; have k0 := K.cell 0 _ rfl; have k1 := K.cell 1 _ rfl; have l0 := L.cell 0 _ rfl; have l1 := L.cell 1 _ rfl) | ((with_reducible refine callee_gate (f := 28) (N := 10) rfl rfl ?_); refine call_ev 10 rfl rfl ?hg Tryd.func28 (by kernel_rfl) rfl #[.slice A s.length c, .slice A' s'.length c'] ?hargs (sameInts_any _ A A' s s' c c' h1.il h2.il h1.len h2.len) ?_; (case hg => first | rfl | (go_simp; done)); (case hargs => first | rfl | (simp; done) | (simp [Act.put, Act.eval]; done) | (go_simp; done)); rintro e_ w_ ⟨rfl, hb⟩; have HB := below_step HB hb; replace h1 := h1.mono hb; replace h2 := h2.mono hb; refine ⟨_, rfl, ?_⟩; rw [hd]; replace K := K.mono hb; have k0 := K.cell 0 _ rfl; have k1 := K.cell 1 _ rfl; replace L := L.mono hb; have l0 := L.cell 0 _ rfl; have l1 := L.cell 1 _ rfl))
    go_ret
    exact ⟨by first | rfl | simp [hd], HB⟩
set_option maxHeartbeats 800000 in
theorem shSame_any (w : World) (A A' : Option Addr) (s s' : List Int) (c c' : Nat) (b b' : Bool) (h1 : SL .i64 w A s c) (h2 : SL .i64 w A' s' c') :
    Calls Tryd.prog 74 #[.agg #[.slice A s.length c, .bool b], .agg #[.slice A' s'.length c', .bool b']] w fun e w' => e = .returned (.bool (decide (s = s') && (b == b'))) ∧ Below w.heap.size w w' := by
  have HB := Below.refl w.heap.size w
  by_cases h8 : b = b'
  · have hd : (b == b') = true := by simpa using h8
    have h8 := Lib.hid h8
    go_enter Tryd.func74, Tryd.ntmps74
    go_wp2_with (first | ((with_reducible refine dst_gate (N := 2) rfl ?_); (refine box_ev 2 rfl ?hg #[.slice A s.length c, .bool b] 30 ?hr ?_); (case hg => first | rfl | (go_simp; done)); (case hr => (first | (go_simp; done) | (go_simp; rfl))); intro gK wK K hgK hb; have HB := below_step HB hb; replace h1 := h1.mono hb; replace h2 := h2.mono hb; have k0 := K.cell 0 _ rfl; have k1 := K.cell 1 _ rfl) | ((with_reducible refine dst_gate (N := 3) rfl ?_); (refine box_ev 3 rfl ?hg #[.slice A' s'.length c', .bool b'] 30 ?hr ?_); (case hg => first | rfl | (go_simp; done)); (case hr => (first | (go_simp; done) | (go_simp; rfl))); intro gL wL L hgL hb; have HB := below_step HB hb; replace h1 := h1.mono hb; replace h2 := h2.mono hb; replace K := K.mono hb; have k0 := K.cell 0 _ rfl; have k1 := K.cell 1 _ rfl; have l0 := L.cell 0 _ rfl; have l1 := L.cell 1 _ rfl) | ((with_reducible refine callee_gate (f := 82) (N := 15) rfl rfl ?_); refine call_ev 15 rfl rfl ?hg Tryd.func82 (by kernel_rfl) rfl #[.slice A s.length c, .slice A' s'.length c'] ?hargs (equal_any _ A A' s s' c c' _ _ rfl rfl h1.il h2.il h1.len h2.len) ?_; (case hg => first | rfl | (go_simp; done)); (case hargs => first | rfl | (simp; done) | (simp [Act.put, Act.eval]; done) | (go_simp; done)); rintro e_ w_ ⟨rfl, hb⟩; have HB := below_step HB hb; replace h1 := h1.mono hb; replace h2 := h2.mono hb; refine ⟨_, rfl, ?_⟩))
    go_ret
    exact ⟨by first | rfl | simp [hd], HB⟩
  · have hd : (b == b') = false := by simpa using h8
    go_enter Tryd.func74, Tryd.ntmps74
    go_wp2_with (first | ((with_reducible refine dst_gate (N := 2) rfl ?_); (refine box_ev 2 rfl ?hg #[.slice A s.length c, .bool b] 30 ?hr ?_); (case hg => first | rfl | (go_simp; done)); (case hr => (first | (go_simp; done) | (go_simp; rfl))); intro gK wK K hgK hb; have HB := below_step HB hb; replace h1 := h1.mono hb; replace h2 := h2.mono hb; have k0 := K.cell 0 _ rfl; have k1 := K.cell 1 _ rfl) | ((with_reducible refine dst_gate (N := 3) rfl ?_); (refine box_ev 3 rfl ?hg #[.slice A' s'.length c', .bool b'] 30 ?hr ?_); (case hg => first | rfl | (go_simp; done)); (case hr => (first | (go_simp; done) | (go_simp; rfl))); intro gL wL L hgL hb; have HB := below_step HB hb; replace h1 := h1.mono hb; replace h2 := h2.mono hb; replace K := K.mono hb; have k0 := K.cell 0 _ rfl; have k1 := K.cell 1 _ rfl; have l0 := L.cell 0 _ rfl; have l1 := L.cell 1 _ rfl))
    go_ret
    exact ⟨by first | rfl | simp [hd], HB⟩


def sameT (s d : List Int) (b : Bool) (s' d' : List Int) (b' : Bool) : Bool := decide (s = s' ∧ b = b' ∧ d = d')


set_option maxHeartbeats 1600000 in
theorem sameTensor_any (w : World) (A A' B B' : Option Addr) (s s' d d' : List Int) (c c' k k' : Nat) (b b' : Bool) (h1 : SL .i64 w A s c) (h2 : SL .i64 w A' s' c') (h3 : SL .i64 w B d k) (h4 : SL .i64 w B' d' k') :
    Calls Tryd.prog 38 #[.agg #[.slice A s.length c, .bool b, .slice B d.length k], .agg #[.slice A' s'.length c', .bool b', .slice B' d'.length k']] w fun e w' => e = .returned (.bool (sameT s d b s' d' b')) ∧ Below w.heap.size w w' := by
  have HB := Below.refl w.heap.size w
  by_cases h8 : s = s' ∧ b = b'
  · have hd : (decide (s = s') && (b == b')) = true := by simpa using h8
    have hr : sameT s d b s' d' b' = decide (d = d') := by simp [sameT, h8.1, h8.2]
    have hr := Lib.hid hr
    have h8 := Lib.hid h8
    go_enter Tryd.func38, Tryd.ntmps38
    go_wp2_with (first | ((with_reducible refine dst_gate (N := 2) rfl ?_); (refine box_ev 2 rfl ?hg #[.slice A s.length c, .bool b, .slice B d.length k] 49 ?hr ?_); (case hg => first | rfl | (go_simp; done)); (case hr => (first | (go_simp; done) | (go_simp; rfl))); intro gK wK K hgK hb; have HB := below_step HB hb; replace h1 := h1.mono hb; replace h2 := h2.mono hb; replace h3 := h3.mono hb; replace h4 := h4.mono hb; have k0 := K.cell 0 _ rfl; have k1 := K.cell 1 _ rfl; have k2 := K.cell 2 _ rfl) | ((with_reducible refine dst_gate (N := 3) rfl ?_); (refine box_ev 3 rfl ?hg #[.slice A' s'.length c', .bool b', .slice B' d'.length k'] 49 ?hr ?_); (case hg => first | rfl | (go_simp; done)); (case hr => (first | (go_simp; done) | (go_simp; rfl))); intro gL wL L hgL hb; have HB := below_step HB hb; replace h1 := h1.mono hb; replace h2 := h2.mono hb; replace h3 := h3.mono hb; replace h4 := h4.mono hb; replace K := K.mono hb; have k0 := K.cell 0 _ rfl; have k1 := K.cell 1 _ rfl; have k2 := K.cell 2 _ rfl; have l0 := L.cell 0 _ rfl; have l1 := L.cell 1 _ rfl; have l2 := L.cell 2 _ rfl) | ((with_reducible refine callee_gate (f := 46) (N := 11) rfl rfl ?_); refine call_ev 11 rfl rfl ?hg Tryd.func46 (by kernel_rfl) rfl #[.agg #[.slice A s.length c, .bool b], .agg #[.slice A' s'.length c', .bool b']] ?hargs (sameDesc_any _ A A' s s' c c' b b' h1 h2) ?_; (case hg => first | rfl | (go_simp; done)); (case hargs => first | rfl | (simp; done) | (simp [Act.put, Act.eval]; done) | (go_simp; done)); rintro e_ w_ ⟨rfl, hb⟩; have HB := below_step HB hb; replace h1 := h1.mono hb; replace h2 := h2.mono hb; replace h3 := h3.mono hb; replace h4 := h4.mono hb; refine ⟨_, rfl, ?_⟩; rw [hd]; replace K := K.mono hb; have k0 := K.cell 0 _ rfl; have k1 := K.cell 1 _ rfl; have k2 := K.cell 2 _ rfl; replace L := L.mono hb; have l0 := L.cell 0 _ rfl; have l1 := L.cell 1 _ rfl; have l2 := L.cell 2 _ rfl) | ((with_reducible refine callee_gate (f := 28) (N := 16) rfl rfl ?_); refine call_ev 16 rfl rfl ?hg Tryd.func28 (by kernel_rfl) rfl #[.slice B d.length k, .slice B' d'.length k'] ?hargs (sameInts_any _ B B' d d' k k' h3.il h4.il h3.len h4.len) ?_; (case hg => first | rfl | (go_simp; done)); (case hargs => first | rfl | (simp; done) | (simp [Act.put, Act.eval]; done) | (go_simp; done)); rintro e_ w_ ⟨rfl, hb⟩; have HB := below_step HB hb; replace h1 := h1.mono hb; replace h2 := h2.mono hb; replace h3 := h3.mono hb; replace h4 := h4.mono hb; refine ⟨_, rfl, ?_⟩; replace K := K.mono hb; have k0 := K.cell 0 _ rfl; have k1 := K.cell 1 _ rfl; have k2 := K.cell 2 _ rfl; replace L := L.mono hb; have l0 := L.cell 0 _ rfl; have l1 := L.cell 1 _ rfl; have l2 := L.cell 2 _ rfl))
    go_ret
    exact ⟨by first | rfl | (rw [hr.out]; rfl) | (rw [hr.out]; simp), HB⟩
  · have hd : (decide (s = s') && (b == b')) = false := by
      cases h : (decide (s = s') && (b == b')) with
      | false => rfl
      | true => exact absurd (by simpa using h) h8
    have hr : sameT s d b s' d' b' = false := decide_eq_false (fun h => h8 ⟨h.1, h.2.1⟩)
    have hr := Lib.hid hr
    have h8 := Aside.mk h8
    go_enter Tryd.func38, Tryd.ntmps38
    go_wp2_with (first | ((with_reducible refine dst_gate (N := 2) rfl ?_); (refine box_ev 2 rfl ?hg #[.slice A s.length c, .bool b, .slice B d.length k] 49 ?hr ?_); (case hg => first | rfl | (go_simp; done)); (case hr => (first | (go_simp; done) | (go_simp; rfl))); intro gK wK K hgK hb; have HB := below_step HB hb; replace h1 := h1.mono hb; replace h2 := h2.mono hb; replace h3 := h3.mono hb; replace h4 := h4.mono hb; have k0 := K.cell 0 _ rfl; have k1 := K.cell 1 _ rfl; have k2 := K.cell 2 _ rfl) | ((with_reducible refine dst_gate (N := 3) rfl ?_); (refine box_ev 3 rfl ?hg #[.slice A' s'.length c', .bool b', .slice B' d'.length k'] 49 ?hr ?_); (case hg => first | rfl | (go_simp; done)); (case hr => (first | (go_simp; done) | (go_simp; rfl))); intro gL wL L hgL hb; have HB := below_step HB hb; replace h1 := h1.mono hb; replace h2 := h2.mono hb; replace h3 := h3.mono hb; replace h4 := h4.mono hb; replace K := K.mono hb; have k0 := K.cell 0 _ rfl; have k1 := K.cell 1 _ rfl; have k2 := K.cell 2 _ rfl; have l0 := L.cell 0 _ rfl; have l1 := L.cell 1 _ rfl; have l2 := L.cell 2 _ rfl) | ((with_reducible refine callee_gate (f := 46) (N := 11) rfl rfl ?_); refine call_ev 11 rfl rfl ?hg Tryd.func46 (by kernel_rfl) rfl #[.agg #[.slice A s.length c, .bool b], .agg #[.slice A' s'.length c', .bool b']] ?hargs (sameDesc_any _ A A' s s' c c' b b' h1 h2) ?_; (case hg => first | rfl | (go_simp; done)); (case hargs => first | rfl | (simp; done) | (simp [Act.put, Act.eval]; done) | (go_simp; done)); rintro e_ w_ ⟨rfl, hb⟩; have HB := below_step HB hb; replace h1 := h1.mono hb; replace h2 := h2.mono hb; replace h3 := h3.mono hb; replace h4 := h4.mono hb; refine ⟨_, rfl, ?_⟩; rw [hd]; replace K := K.mono hb; have k0 := K.cell 0 _ rfl; have k1 := K.cell 1 _ rfl; have k2 := K.cell 2 _ rfl; replace L := L.mono hb; have l0 := L.cell 0 _ rfl; have l1 := L.cell 1 _ rfl; have l2 := L.cell 2 _ rfl) | ((with_reducible refine callee_gate (f := 28) (N := 16) rfl rfl ?_); refine call_ev 16 rfl rfl ?hg Tryd.func28 (by kernel_rfl) rfl #[.slice B d.length k, .slice B' d'.length k'] ?hargs (sameInts_any _ B B' d d' k k' h3.il h4.il h3.len h4.len) ?_; (case hg => first | rfl | (go_simp; done)); (case hargs => first | rfl | (simp; done) | (simp [Act.put, Act.eval]; done) | (go_simp; done)); rintro e_ w_ ⟨rfl, hb⟩; have HB := below_step HB hb; replace h1 := h1.mono hb; replace h2 := h2.mono hb; replace h3 := h3.mono hb; replace h4 := h4.mono hb; refine ⟨_, rfl, ?_⟩; replace K := K.mono hb; have k0 := K.cell 0 _ rfl; have k1 := K.cell 1 _ rfl; have k2 := K.cell 2 _ rfl; replace L := L.mono hb; have l0 := L.cell 0 _ rfl; have l1 := L.cell 1 _ rfl; have l2 := L.cell 2 _ rfl))
    go_ret
    exact ⟨by first | rfl | (rw [hr.out]; rfl) | (rw [hr.out]; simp), HB⟩


set_option maxHeartbeats 1600000 in
theorem tSame_any (w : World) (A A' B B' : Option Addr) (s s' d d' : List Int) (c c' k k' : Nat) (b b' : Bool) (h1 : SL .i64 w A s c) (h2 : SL .i64 w A' s' c') (h3 : SL .i64 w B d k) (h4 : SL .i64 w B' d' k') :
    Calls Tryd.prog 41 #[.agg #[.slice A s.length c, .bool b, .slice B d.length k], .agg #[.slice A' s'.length c', .bool b', .slice B' d'.length k']] w fun e w' => e = .returned (.bool (sameT s d b s' d' b')) ∧ Below w.heap.size w w' := by
  have HB := Below.refl w.heap.size w
  by_cases h8 : s = s' ∧ b = b'
  · have hd : (decide (s = s') && (b == b')) = true := by simpa using h8
    have hr : sameT s d b s' d' b' = decide (d = d') := by simp [sameT, h8.1, h8.2]
    have hr := Lib.hid hr
    have h8 := Lib.hid h8
    go_enter Tryd.func41, Tryd.ntmps41
    go_wp2_with (first | ((with_reducible refine dst_gate (N := 2) rfl ?_); (refine box_ev 2 rfl ?hg #[.slice A s.length c, .bool b, .slice B d.length k] 49 ?hr ?_); (case hg => first | rfl | (go_simp; done)); (case hr => (first | (go_simp; done) | (go_simp; rfl))); intro gK wK K hgK hb; have HB := below_step HB hb; replace h1 := h1.mono hb; replace h2 := h2.mono hb; replace h3 := h3.mono hb; replace h4 := h4.mono hb; have k0 := K.cell 0 _ rfl; have k1 := K.cell 1 _ rfl; have k2 := K.cell 2 _ rfl) | ((with_reducible refine dst_gate (N := 3) rfl ?_); (refine box_ev 3 rfl ?hg #[.slice A' s'.length c', .bool b', .slice B' d'.length k'] 49 ?hr ?_); (case hg => first | rfl | (go_simp; done)); (case hr => (first | (go_simp; done) | (go_simp; rfl))); intro gL wL L hgL hb; have HB := below_step HB hb; replace h1 := h1.mono hb; replace h2 := h2.mono hb; replace h3 := h3.mono hb; replace h4 := h4.mono hb; replace K := K.mono hb; have k0 := K.cell 0 _ rfl; have k1 := K.cell 1 _ rfl; have k2 := K.cell 2 _ rfl; have l0 := L.cell 0 _ rfl; have l1 := L.cell 1 _ rfl; have l2 := L.cell 2 _ rfl) | ((with_reducible refine callee_gate (f := 74) (N := 9) rfl rfl ?_); refine call_ev 9 rfl rfl ?hg Tryd.func74 (by kernel_rfl) rfl #[.agg #[.slice A s.length c, .bool b], .agg #[.slice A' s'.length c', .bool b']] ?hargs (shSame_any _ A A' s s' c c' b b' h1 h2) ?_; (case hg => first | rfl | (go_simp; done)); (case hargs => first | rfl | (simp; done) | (simp [Act.put, Act.eval]; done) | (go_simp; done)); rintro e_ w_ ⟨rfl, hb⟩; have HB := below_step HB hb; replace h1 := h1.mono hb; replace h2 := h2.mono hb; replace h3 := h3.mono hb; replace h4 := h4.mono hb; refine ⟨_, rfl, ?_⟩; rw [hd]; replace K := K.mono hb; have k0 := K.cell 0 _ rfl; have k1 := K.cell 1 _ rfl; have k2 := K.cell 2 _ rfl; replace L := L.mono hb; have l0 := L.cell 0 _ rfl; have l1 := L.cell 1 _ rfl; have l2 := L.cell 2 _ rfl) | ((with_reducible refine callee_gate (f := 82) (N := 15) rfl rfl ?_); refine call_ev 15 rfl rfl ?hg Tryd.func82 (by kernel_rfl) rfl #[.slice B d.length k, .slice B' d'.length k'] ?hargs (equal_any _ B B' d d' k k' _ _ rfl rfl h3.il h4.il h3.len h4.len) ?_; (case hg => first | rfl | (go_simp; done)); (case hargs => first | rfl | (simp; done) | (simp [Act.put, Act.eval]; done) | (go_simp; done)); rintro e_ w_ ⟨rfl, hb⟩; have HB := below_step HB hb; replace h1 := h1.mono hb; replace h2 := h2.mono hb; replace h3 := h3.mono hb; replace h4 := h4.mono hb; refine ⟨_, rfl, ?_⟩; replace K := K.mono hb; have k0 := K.cell 0 _ rfl; have k1 := K.cell 1 _ rfl; have k2 := K.cell 2 _ rfl; replace L := L.mono hb; have l0 := L.cell 0 _ rfl; have l1 := L.cell 1 _ rfl; have l2 := L.cell 2 _ rfl))
    go_ret
    exact ⟨by first | rfl | (rw [hr.out]; rfl) | (rw [hr.out]; simp), HB⟩
  · have hd : (decide (s = s') && (b == b')) = false := by
      cases h : (decide (s = s') && (b == b')) with
      | false => rfl
      | true => exact absurd (by simpa using h) h8
    have hr : sameT s d b s' d' b' = false := decide_eq_false (fun h => h8 ⟨h.1, h.2.1⟩)
    have hr := Lib.hid hr
    have h8 := Aside.mk h8
    go_enter Tryd.func41, Tryd.ntmps41
    go_wp2_with (first | ((with_reducible refine dst_gate (N := 2) rfl ?_); (refine box_ev 2 rfl ?hg #[.slice A s.length c, .bool b, .slice B d.length k] 49 ?hr ?_); (case hg => first | rfl | (go_simp; done)); (case hr => (first | (go_simp; done) | (go_simp; rfl))); intro gK wK K hgK hb; have HB := below_step HB hb; replace h1 := h1.mono hb; replace h2 := h2.mono hb; replace h3 := h3.mono hb; replace h4 := h4.mono hb; have k0 := K.cell 0 _ rfl; have k1 := K.cell 1 _ rfl; have k2 := K.cell 2 _ rfl) | ((with_reducible refine dst_gate (N := 3) rfl ?_); (refine box_ev 3 rfl ?hg #[.slice A' s'.length c', .bool b', .slice B' d'.length k'] 49 ?hr ?_); (case hg => first | rfl | (go_simp; done)); (case hr => (first | (go_simp; done) | (go_simp; rfl))); intro gL wL L hgL hb; have HB := below_step HB hb; replace h1 := h1.mono hb; replace h2 := h2.mono hb; replace h3 := h3.mono hb; replace h4 := h4.mono hb; replace K := K.mono hb; have k0 := K.cell 0 _ rfl; have k1 := K.cell 1 _ rfl; have k2 := K.cell 2 _ rfl; have l0 := L.cell 0 _ rfl; have l1 := L.cell 1 _ rfl; have l2 := L.cell 2 _ rfl) | ((with_reducible refine callee_gate (f := 74) (N := 9) rfl rfl ?_); refine call_ev 9 rfl rfl ?hg Tryd.func74 (by kernel_rfl) rfl #[.agg #[.slice A s.length c, .bool b], .agg #[.slice A' s'.length c', .bool b']] ?hargs (shSame_any _ A A' s s' c c' b b' h1 h2) ?_; (case hg => first | rfl | (go_simp; done)); (case hargs => first | rfl | (simp; done) | (simp [Act.put, Act.eval]; done) | (go_simp; done)); rintro e_ w_ ⟨rfl, hb⟩; have HB := below_step HB hb; replace h1 := h1.mono hb; replace h2 := h2.mono hb; replace h3 := h3.mono hb; replace h4 := h4.mono hb; refine ⟨_, rfl, ?_⟩; rw [hd]; replace K := K.mono hb; have k0 := K.cell 0 _ rfl; have k1 := K.cell 1 _ rfl; have k2 := K.cell 2 _ rfl; replace L := L.mono hb; have l0 := L.cell 0 _ rfl; have l1 := L.cell 1 _ rfl; have l2 := L.cell 2 _ rfl))
    go_ret
    exact ⟨by first | rfl | (rw [hr.out]; rfl) | (rw [hr.out]; simp), HB⟩

end Go.Proofs.YtgifehmpgcenjaaDoor
