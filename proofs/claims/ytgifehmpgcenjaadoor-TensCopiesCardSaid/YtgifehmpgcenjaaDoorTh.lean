/- Package tens: Bytes, walked; Wide, Narrow; the law's first. No condition but sizes that any memory has. -/
import Derived.Test.YtgifehmpgcenjaaDoorTg
namespace Go.Proofs.YtgifehmpgcenjaaDoor
set_option linter.unusedVariables false
set_option linter.unusedSimpArgs false
open Go.RowKit

def headL (s : List Int) (wide : Bool) : Int := if wide then ((s.length : Int) % 256 + 8) % 256 else (s.length : Int) % 256
def dimL (n : Int) : List Int := [n % 256, n / 256 % 256]
def dimsL (s : List Int) : List Int := s.flatMap dimL
def bytesL (s d : List Int) (wide : Bool) : List Int := headL s wide :: (dimsL s ++ rawL d wide)
theorem dimsL_take (s : List Int) (k : Nat) (h : k < s.length) : dimsL (s.take (k + 1)) = dimsL (s.take k) ++ [ix s k % 256, ix s k / 256 % 256] := by
  rw [take_succ_ix s k h]; simp [dimsL, dimL]
theorem dimsL_len (s : List Int) : (dimsL s).length = 2 * s.length := by
  induction s with
  | nil => rfl
  | cons x s ih => show (dimL x ++ dimsL s).length = _; rw [List.length_append, ih]; simp [dimL]; omega



set_option maxHeartbeats 1600000 in
theorem bytes_ok_true (E : Int → Addr) (w : World) (A A' : Option Addr) (s d : List Int) (c c' : Nat) (h1 : SL .i64 w A s c) (h2 : SL .i64 w A' d c') (hm : s.length ≤ 1000000) (hm' : d.length ≤ 1000000) (hE : Errs3 E w) (hv : tvalid s d true = .none) :
    Calls Tryd.prog 54 #[.agg #[.slice A s.length c, .bool true, .slice A' d.length c']] w fun e w' => ∃ v, e = .returned v ∧ Own w' w.heap.size 5 v ((bytesL s d true).map (.int .u8)) ∧ Below w.heap.size w w' := by
  have HB := Below.refl w.heap.size w
  have n2 := nil_nil_neq
  have hv := Aside.mk hv
  have h1_ := h1
  have h2_ := h2
  have hE_ := hE
  go_enter Tryd.func54, Tryd.ntmps54
  go_wp2_with (first | ((with_reducible refine dst_gate (N := 1) rfl ?_); (refine box_ev 1 rfl ?hg #[.slice A s.length c, .bool true, .slice A' d.length c'] 49 ?hr ?_); (case hg => first | rfl | (go_simp; done)); (case hr => (first | (go_simp; done) | (go_simp; rfl))); intro gK wK K hgK hb; have HB := below_step HB hb; replace h1 := h1.mono hb; replace h2 := h2.mono hb; replace hE := hE.mono hb; have k0 := K.cell 0 _ rfl; have k1 := K.cell 1 _ rfl; have k2 := K.cell 2 _ rfl) | ((with_reducible refine callee_gate (f := 55) (N := 8) rfl rfl ?_); refine call_ev 8 rfl rfl ?hg Tryd.func55 (by kernel_rfl) rfl #[.agg #[.slice A s.length c, .bool true, .slice A' d.length c']] ?hargs (tvalid_any E _ A A' s d c c' true h1.il h2.il h1.len h2.len hE) ?_; (case hg => first | rfl | (go_simp; done)); (case hargs => first | rfl | (simp; done) | (simp [Act.put, Act.eval]; done) | (go_simp; done)); rintro e_ w_ ⟨v_, rfl, hv_, hb⟩; rw [hv.out] at hv_; obtain rfl := hv_; have HB := below_step HB hb; replace h1 := h1.mono hb; replace h2 := h2.mono hb; replace hE := hE.mono hb; refine ⟨_, rfl, ?_⟩; replace K := K.mono hb; have k0 := K.cell 0 _ rfl; have k1 := K.cell 1 _ rfl; have k2 := K.cell 2 _ rfl; have ltK := K.lt; have hszW := HB.size) | ((with_reducible refine dst_gate (N := 21) rfl ?_); (refine lit_ev 21 rfl ?hg #[.int .u8 (((s.length : Int) % 256 + 8) % 256)] 5 1 ?hr ?_); (case hg => first | rfl | (go_simp; done)); (case hr => (first | (go_simp; done) | (go_simp; rfl))); intro gL wL L hgL hb; have HB := below_step HB hb; replace h1 := h1.mono hb; replace h2 := h2.mono hb; replace hE := hE.mono hb; replace K := K.mono hb; have k0 := K.cell 0 _ rfl; have k1 := K.cell 1 _ rfl; have k2 := K.cell 2 _ rfl; have hb0 := hb.size))
  have hbw : w.heap.size ≤ w_.heap.size := hszW
  have V : Own wL w_.heap.size 5 (.slice (some ⟨gL, 0, none⟩) 1 1) ((headL s true :: dimsL (s.take 0)).map (.int .u8)) := Own.lit L hgL (by simp [maxLen, dimsL])
  clear h1 h2 hE
  go_loopw [4, 6, 26] (fun v _ i w' => ∃ k : Nat, k ≤ s.length ∧ i = .int .i64 k ∧ Own w' w_.heap.size 5 v ((headL s true :: dimsL (s.take k)).map (.int .u8)) ∧ Below w.heap.size w w' ∧ Below w_.heap.size wL w') (fun _ _ i _ => s.length - (intOf i).toNat)
  case atStart => exact ⟨0, Nat.zero_le _, rfl, V, HB, Below.refl _ _⟩
  case round =>
    obtain ⟨k, hk, rfl, V, HB, HM⟩ := hrel
    replace K := K.monoB HM ltK
    have k0 := K.cell 0 _ rfl
    have k1 := K.cell 1 _ rfl
    have k2 := K.cell 2 _ rfl
    have hbase : w_.heap.size ≤ wr.heap.size := Nat.le_trans hb0 HM.size
    by_cases hk : k < s.length
    · obtain ⟨b, o, rfl, hc⟩ := (h1_.mono HB).il (by omega)
      have hck := hc k hk
      have hc := Aside.mk hc
      clear h1_ h2_ hE_
      have b1 : (k : Int) < (s.length : Int) := by omega
      have hlen := dimsL_len (s.take k)
      rw [List.length_take] at hlen
      have hs := Lib.hid (dimsL_take s k hk)
      go_wp2_with (first | ((with_reducible refine dst_gate (N := 36) rfl ?_); (refine lit_ev 36 rfl ?hg #[.int .u8 (ix s k % 256), .int .u8 (ix s k / 256 % 256)] 5 2 ?hr ?_); (case hg => first | rfl | (go_simp; done)); (case hr => (first | (go_simp; done) | (go_simp; rfl))); intro gD wD D hgD hb; have HB := below_step HB hb; have S := Blk.sl (k := .u8) [ix s k % 256, ix s k / 256 % 256] D (by simp [maxLen]); replace V := V.mono hb; have HM := HM.trans (hb.mono hbase); have hbD := Nat.le_trans hbase hb.size; have HW := Below.refl w_.heap.size wD; have HBx := HB) | ((with_reducible refine dst_gate (N := 37) rfl ?_); refine appN_ev 37 rfl rfl 76 5 _ _ rfl (.int .u8 0) 1 Tryd.underlying76 (by kernel_rfl) rfl (rfl) rfl rfl S V ?hn1 ?hn2 HW ?hB1 ?hW1 ?_; (case hn1 => simp; omega); (case hn2 => simp; omega); (case hB1 => first | exact Nat.le_refl _ | omega); (case hW1 => first | exact HB.size | assumption | omega); intro v1 w1 n0_ n1_ n2_; clear V; have V := n0_; have HB := n1_; have HG := Lib.hid n2_; clear n0_ n1_ n2_; have HM := HM.trans HB; have HB := HBx.trans (HB.mono hbw)))
      go_roundw
      case rel => exact ⟨k + 1, by omega, by go_num, by rw [hs.out]; simpa using V, HB, HM⟩
      case measure => simp [intOf]; omega
    · obtain rfl : k = s.length := by omega
      rw [List.take_length] at V
      have hlen := dimsL_len s
      have hlen2 := rawL_len d true
      have h1 := h1_.mono HB
      have h2 := h2_.mono HB
      have hE := hE_.mono HB
      clear h1_ h2_ hE_
      go_wp2_with (first | ((with_reducible refine callee_gate (f := 53) (N := 41) rfl rfl ?_); refine call_ev 41 rfl rfl ?hg Tryd.func53 (by kernel_rfl) rfl #[.agg #[.slice A s.length c, .bool true, .slice A' d.length c']] ?hargs (raw_ok E _ A A' s d c c' true h1 h2 hm hm' hE hv.out) ?_; (case hg => first | rfl | (go_simp; done)); (case hargs => first | rfl | (simp; done) | (simp [Act.put, Act.eval]; done) | (go_simp; done)); rintro e_ w5_ ⟨v5_, rfl, O, hb⟩; have HB := below_step HB hb; replace h1 := h1.mono hb; replace h2 := h2.mono hb; replace hE := hE.mono hb; refine ⟨_, rfl, ?_⟩; replace V := V.mono hb; have HBx := HB; obtain ⟨A9, c9, rfl, S9⟩ := O.sl; have HW := Below.refl w_.heap.size w5_; have hbase := Nat.le_trans hbase hb.size) | ((with_reducible refine dst_gate (N := 42) rfl ?_); refine appN_ev 42 rfl rfl 76 5 _ _ rfl (.int .u8 0) 1 Tryd.underlying76 (by kernel_rfl) rfl (rfl) rfl rfl S9 V ?hn1 ?hn2 HW ?hB1 ?hW1 ?_; (case hn1 => simp; omega); (case hn2 => simp; omega); (case hB1 => first | exact Nat.le_refl _ | omega); (case hW1 => first | exact HB.size | assumption | omega); intro v1 w1 n0_ n1_ n2_; clear V; have V := n0_; have HB := n1_; have HG := Lib.hid n2_; clear n0_ n1_ n2_; have HB := HBx.trans (HB.mono hbw)))
      go_ret
      exact ⟨_, rfl, by have := V.lower hbw; simpa [bytesL] using this, HB⟩


set_option maxHeartbeats 1600000 in
theorem bytes_ok_false (E : Int → Addr) (w : World) (A A' : Option Addr) (s d : List Int) (c c' : Nat) (h1 : SL .i64 w A s c) (h2 : SL .i64 w A' d c') (hm : s.length ≤ 1000000) (hm' : d.length ≤ 1000000) (hE : Errs3 E w) (hv : tvalid s d false = .none) :
    Calls Tryd.prog 54 #[.agg #[.slice A s.length c, .bool false, .slice A' d.length c']] w fun e w' => ∃ v, e = .returned v ∧ Own w' w.heap.size 5 v ((bytesL s d false).map (.int .u8)) ∧ Below w.heap.size w w' := by
  have HB := Below.refl w.heap.size w
  have n2 := nil_nil_neq
  have hv := Aside.mk hv
  have h1_ := h1
  have h2_ := h2
  have hE_ := hE
  go_enter Tryd.func54, Tryd.ntmps54
  go_wp2_with (first | ((with_reducible refine dst_gate (N := 1) rfl ?_); (refine box_ev 1 rfl ?hg #[.slice A s.length c, .bool false, .slice A' d.length c'] 49 ?hr ?_); (case hg => first | rfl | (go_simp; done)); (case hr => (first | (go_simp; done) | (go_simp; rfl))); intro gK wK K hgK hb; have HB := below_step HB hb; replace h1 := h1.mono hb; replace h2 := h2.mono hb; replace hE := hE.mono hb; have k0 := K.cell 0 _ rfl; have k1 := K.cell 1 _ rfl; have k2 := K.cell 2 _ rfl) | ((with_reducible refine callee_gate (f := 55) (N := 8) rfl rfl ?_); refine call_ev 8 rfl rfl ?hg Tryd.func55 (by kernel_rfl) rfl #[.agg #[.slice A s.length c, .bool false, .slice A' d.length c']] ?hargs (tvalid_any E _ A A' s d c c' false h1.il h2.il h1.len h2.len hE) ?_; (case hg => first | rfl | (go_simp; done)); (case hargs => first | rfl | (simp; done) | (simp [Act.put, Act.eval]; done) | (go_simp; done)); rintro e_ w_ ⟨v_, rfl, hv_, hb⟩; rw [hv.out] at hv_; obtain rfl := hv_; have HB := below_step HB hb; replace h1 := h1.mono hb; replace h2 := h2.mono hb; replace hE := hE.mono hb; refine ⟨_, rfl, ?_⟩; replace K := K.mono hb; have k0 := K.cell 0 _ rfl; have k1 := K.cell 1 _ rfl; have k2 := K.cell 2 _ rfl; have ltK := K.lt; have hszW := HB.size) | ((with_reducible refine dst_gate (N := 21) rfl ?_); (refine lit_ev 21 rfl ?hg #[.int .u8 ((s.length : Int) % 256)] 5 1 ?hr ?_); (case hg => first | rfl | (go_simp; done)); (case hr => (first | (go_simp; done) | (go_simp; rfl))); intro gL wL L hgL hb; have HB := below_step HB hb; replace h1 := h1.mono hb; replace h2 := h2.mono hb; replace hE := hE.mono hb; replace K := K.mono hb; have k0 := K.cell 0 _ rfl; have k1 := K.cell 1 _ rfl; have k2 := K.cell 2 _ rfl; have hb0 := hb.size))
  have hbw : w.heap.size ≤ w_.heap.size := hszW
  have V : Own wL w_.heap.size 5 (.slice (some ⟨gL, 0, none⟩) 1 1) ((headL s false :: dimsL (s.take 0)).map (.int .u8)) := Own.lit L hgL (by simp [maxLen, dimsL])
  clear h1 h2 hE
  go_loopw [4, 6, 26] (fun v _ i w' => ∃ k : Nat, k ≤ s.length ∧ i = .int .i64 k ∧ Own w' w_.heap.size 5 v ((headL s false :: dimsL (s.take k)).map (.int .u8)) ∧ Below w.heap.size w w' ∧ Below w_.heap.size wL w') (fun _ _ i _ => s.length - (intOf i).toNat)
  case atStart => exact ⟨0, Nat.zero_le _, rfl, V, HB, Below.refl _ _⟩
  case round =>
    obtain ⟨k, hk, rfl, V, HB, HM⟩ := hrel
    replace K := K.monoB HM ltK
    have k0 := K.cell 0 _ rfl
    have k1 := K.cell 1 _ rfl
    have k2 := K.cell 2 _ rfl
    have hbase : w_.heap.size ≤ wr.heap.size := Nat.le_trans hb0 HM.size
    by_cases hk : k < s.length
    · obtain ⟨b, o, rfl, hc⟩ := (h1_.mono HB).il (by omega)
      have hck := hc k hk
      have hc := Aside.mk hc
      clear h1_ h2_ hE_
      have b1 : (k : Int) < (s.length : Int) := by omega
      have hlen := dimsL_len (s.take k)
      rw [List.length_take] at hlen
      have hs := Lib.hid (dimsL_take s k hk)
      go_wp2_with (first | ((with_reducible refine dst_gate (N := 36) rfl ?_); (refine lit_ev 36 rfl ?hg #[.int .u8 (ix s k % 256), .int .u8 (ix s k / 256 % 256)] 5 2 ?hr ?_); (case hg => first | rfl | (go_simp; done)); (case hr => (first | (go_simp; done) | (go_simp; rfl))); intro gD wD D hgD hb; have HB := below_step HB hb; have S := Blk.sl (k := .u8) [ix s k % 256, ix s k / 256 % 256] D (by simp [maxLen]); replace V := V.mono hb; have HM := HM.trans (hb.mono hbase); have hbD := Nat.le_trans hbase hb.size; have HW := Below.refl w_.heap.size wD; have HBx := HB) | ((with_reducible refine dst_gate (N := 37) rfl ?_); refine appN_ev 37 rfl rfl 76 5 _ _ rfl (.int .u8 0) 1 Tryd.underlying76 (by kernel_rfl) rfl (rfl) rfl rfl S V ?hn1 ?hn2 HW ?hB1 ?hW1 ?_; (case hn1 => simp; omega); (case hn2 => simp; omega); (case hB1 => first | exact Nat.le_refl _ | omega); (case hW1 => first | exact HB.size | assumption | omega); intro v1 w1 n0_ n1_ n2_; clear V; have V := n0_; have HB := n1_; have HG := Lib.hid n2_; clear n0_ n1_ n2_; have HM := HM.trans HB; have HB := HBx.trans (HB.mono hbw)))
      go_roundw
      case rel => exact ⟨k + 1, by omega, by go_num, by rw [hs.out]; simpa using V, HB, HM⟩
      case measure => simp [intOf]; omega
    · obtain rfl : k = s.length := by omega
      rw [List.take_length] at V
      have hlen := dimsL_len s
      have hlen2 := rawL_len d false
      have h1 := h1_.mono HB
      have h2 := h2_.mono HB
      have hE := hE_.mono HB
      clear h1_ h2_ hE_
      go_wp2_with (first | ((with_reducible refine callee_gate (f := 53) (N := 41) rfl rfl ?_); refine call_ev 41 rfl rfl ?hg Tryd.func53 (by kernel_rfl) rfl #[.agg #[.slice A s.length c, .bool false, .slice A' d.length c']] ?hargs (raw_ok E _ A A' s d c c' false h1 h2 hm hm' hE hv.out) ?_; (case hg => first | rfl | (go_simp; done)); (case hargs => first | rfl | (simp; done) | (simp [Act.put, Act.eval]; done) | (go_simp; done)); rintro e_ w5_ ⟨v5_, rfl, O, hb⟩; have HB := below_step HB hb; replace h1 := h1.mono hb; replace h2 := h2.mono hb; replace hE := hE.mono hb; refine ⟨_, rfl, ?_⟩; replace V := V.mono hb; have HBx := HB; obtain ⟨A9, c9, rfl, S9⟩ := O.sl; have HW := Below.refl w_.heap.size w5_; have hbase := Nat.le_trans hbase hb.size) | ((with_reducible refine dst_gate (N := 42) rfl ?_); refine appN_ev 42 rfl rfl 76 5 _ _ rfl (.int .u8 0) 1 Tryd.underlying76 (by kernel_rfl) rfl (rfl) rfl rfl S9 V ?hn1 ?hn2 HW ?hB1 ?hW1 ?_; (case hn1 => simp; omega); (case hn2 => simp; omega); (case hB1 => first | exact Nat.le_refl _ | omega); (case hW1 => first | exact HB.size | assumption | omega); intro v1 w1 n0_ n1_ n2_; clear V; have V := n0_; have HB := n1_; have HG := Lib.hid n2_; clear n0_ n1_ n2_; have HB := HBx.trans (HB.mono hbw)))
      go_ret
      exact ⟨_, rfl, by have := V.lower hbw; simpa [bytesL] using this, HB⟩

theorem bytes_ok (E : Int → Addr) (w : World) (A A' : Option Addr) (s d : List Int) (c c' : Nat) (wide : Bool) (h1 : SL .i64 w A s c) (h2 : SL .i64 w A' d c') (hm : s.length ≤ 1000000) (hm' : d.length ≤ 1000000) (hE : Errs3 E w) (hv : tvalid s d wide = .none) :
    Calls Tryd.prog 54 #[.agg #[.slice A s.length c, .bool wide, .slice A' d.length c']] w fun e w' => ∃ v, e = .returned v ∧ Own w' w.heap.size 5 v ((bytesL s d wide).map (.int .u8)) ∧ Below w.heap.size w w' := by
  cases wide with
  | true => exact bytes_ok_true E w A A' s d c c' h1 h2 hm hm' hE hv
  | false => exact bytes_ok_false E w A A' s d c c' h1 h2 hm hm' hE hv
end Go.Proofs.YtgifehmpgcenjaaDoor
