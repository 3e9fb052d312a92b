/- tens.Get of a tensor that may be, walked. No condition but sizes that any memory has. -/
import Derived.Test.YtgifehmpgcenjaaDoorTk
import Derived.Test.YtgifehmpgcenjaaDoorSo
namespace Go.Proofs.YtgifehmpgcenjaaDoor
set_option linter.unusedVariables false
set_option linter.unusedSimpArgs false
open Go.RowKit

theorem tvalid_none {s d : List Int} {b : Bool} (h : tvalid s d b = .none) : validL s = 0 ∧ (d.length : Int) = elemsL s ∧ (d.length : Int) = prodL s := by
  unfold tvalid at h
  split at h
  · cases h
  · rename_i h1
    have h1 : validL s = 0 := by simpa using h1
    split at h
    · cases h
    · rename_i h2
      have h2 : (d.length : Int) = elemsL s := by simpa using h2
      exact ⟨h1, h2, by rw [h2, elemsL, if_pos h1]⟩
def getL (s d at_ : List Int) : Int × Bool := if (indexL s at_).2 = true then (ix d (indexL s at_).1.toNat, true) else (0, false)


set_option maxHeartbeats 800000 in
theorem get_ok (E : Int → Addr) (w : World) (A A' B : Option Addr) (s d at_ : List Int) (c c' k : Nat) (b : Bool) (h1 : SL .i64 w A s c) (h2 : SL .i64 w A' at_ c') (h3 : SL .i64 w B d k) (hE : Errs3 E w) (hv : tvalid s d b = .none) :
    Calls Tryd.prog 52 #[.agg #[.slice A s.length c, .bool b, .slice B d.length k], .slice A' at_.length c'] w fun e w' => e = .returned (.tuple #[.int .i64 (getL s d at_).1, .bool (getL s d at_).2]) ∧ Below w.heap.size w w' := by
  have HB := Below.refl w.heap.size w
  have n2 := nil_nil_neq
  
  by_cases his : (indexL s at_).2 = true
  · obtain ⟨hi, hvs, hl, hin⟩ := indexL_true his
    obtain ⟨ho, h4, hp⟩ := validL_ok hvs
    obtain ⟨_, _, hdl⟩ := tvalid_none hv
    obtain ⟨q1, q2⟩ := horner_bound (at_ := at_) ho s.length (Nat.le_refl _) hin
    rw [List.take_length] at q2
    obtain ⟨j, hj⟩ : ∃ j : Nat, hornerL s at_ s.length = (j : Int) := ⟨(hornerL s at_ s.length).toNat, by omega⟩
    have hjd : j < d.length := by omega
    have hr : getL s d at_ = (ix d j, true) := by simp [getL, hi, hj]
    have hi2 : indexL s at_ = ((j : Int), true) := by rw [hi, hj]
    have hr := Lib.hid hr
    have hi2 := Lib.hid hi2
    have hv := Aside.mk hv
    have b1 : (j : Int) < (d.length : Int) := by omega
    clear hi his hj hin hdl q1 q2 hvs hl ho h4 hp
    go_enter Tryd.func52, Tryd.ntmps52
    go_wp2_with (first | ((with_reducible refine dst_gate (N := 2) rfl ?_); (refine box_ev 2 rfl ?hg #[.slice A s.length c, .bool b, .slice B d.length k] 49 ?hr ?_); (case hg => first | rfl | (go_simp; done)); (case hr => (first | (go_simp; done) | (go_simp; rfl))); intro gK wK K hgK hb; have HB := below_step HB hb; replace h1 := h1.mono hb; replace h2 := h2.mono hb; replace h3 := h3.mono hb; replace hE := hE.mono hb; have k0 := K.cell 0 _ rfl; have k1 := K.cell 1 _ rfl; have k2 := K.cell 2 _ rfl) | ((with_reducible refine callee_gate (f := 22) (N := 13) rfl rfl ?_); refine call_ev 13 rfl rfl ?hg Tryd.func22 (by kernel_rfl) rfl #[.slice A s.length c, .slice A' at_.length c'] ?hargs (index_any E _ A A' s at_ c c' h1.il h2.il h1.len h2.len hE.e) ?_; (case hg => first | rfl | (go_simp; done)); (case hargs => first | rfl | (simp; done) | (simp [Act.put, Act.eval]; done) | (go_simp; done)); rintro e_ w_ ⟨rfl, hb⟩; have HB := below_step HB hb; replace h1 := h1.mono hb; replace h2 := h2.mono hb; replace h3 := h3.mono hb; replace hE := hE.mono hb; refine ⟨_, rfl, ?_⟩; rw [hi2.out]; replace K := K.mono hb; have k0 := K.cell 0 _ rfl; have k1 := K.cell 1 _ rfl; have k2 := K.cell 2 _ rfl) | ((with_reducible refine callee_gate (f := 55) (N := 20) rfl rfl ?_); refine call_ev 20 rfl rfl ?hg Tryd.func55 (by kernel_rfl) rfl #[.agg #[.slice A s.length c, .bool b, .slice B d.length k]] ?hargs (tvalid_any E _ A B s d c k b h1.il h3.il h1.len h3.len hE) ?_; (case hg => first | rfl | (go_simp; done)); (case hargs => first | rfl | (simp; done) | (simp [Act.put, Act.eval]; done) | (go_simp; done)); rintro e_ w_ ⟨v_, rfl, hv_, hb⟩; rw [hv.out] at hv_; obtain rfl := hv_; have HB := below_step HB hb; replace h1 := h1.mono hb; replace h2 := h2.mono hb; replace h3 := h3.mono hb; replace hE := hE.mono hb; refine ⟨_, rfl, ?_⟩; replace K := K.mono hb; have k0 := K.cell 0 _ rfl; have k1 := K.cell 1 _ rfl; have k2 := K.cell 2 _ rfl; obtain ⟨bb, oo, rfl, hcc⟩ := h3.il (Nat.lt_of_le_of_lt (Nat.zero_le _) hjd); have hck := hcc j hjd; have hcc := Aside.mk hcc))
    go_ret2
    exact ⟨by first | rfl | (rw [hr.out]; rfl), HB⟩
  · have hif := indexL_false (by simpa using his)
    have hr : getL s d at_ = (0, false) := by simp [getL, his]
    have hr := Lib.hid hr
    have hi2 := Lib.hid hif
    clear hif his
    go_enter Tryd.func52, Tryd.ntmps52
    go_wp2_with (first | ((with_reducible refine dst_gate (N := 2) rfl ?_); (refine box_ev 2 rfl ?hg #[.slice A s.length c, .bool b, .slice B d.length k] 49 ?hr ?_); (case hg => first | rfl | (go_simp; done)); (case hr => (first | (go_simp; done) | (go_simp; rfl))); intro gK wK K hgK hb; have HB := below_step HB hb; replace h1 := h1.mono hb; replace h2 := h2.mono hb; replace h3 := h3.mono hb; replace hE := hE.mono hb; have k0 := K.cell 0 _ rfl; have k1 := K.cell 1 _ rfl; have k2 := K.cell 2 _ rfl) | ((with_reducible refine callee_gate (f := 22) (N := 13) rfl rfl ?_); refine call_ev 13 rfl rfl ?hg Tryd.func22 (by kernel_rfl) rfl #[.slice A s.length c, .slice A' at_.length c'] ?hargs (index_any E _ A A' s at_ c c' h1.il h2.il h1.len h2.len hE.e) ?_; (case hg => first | rfl | (go_simp; done)); (case hargs => first | rfl | (simp; done) | (simp [Act.put, Act.eval]; done) | (go_simp; done)); rintro e_ w_ ⟨rfl, hb⟩; have HB := below_step HB hb; replace h1 := h1.mono hb; replace h2 := h2.mono hb; replace h3 := h3.mono hb; replace hE := hE.mono hb; refine ⟨_, rfl, ?_⟩; rw [hi2.out]; replace K := K.mono hb; have k0 := K.cell 0 _ rfl; have k1 := K.cell 1 _ rfl; have k2 := K.cell 2 _ rfl))
    go_ret2
    exact ⟨by first | rfl | (rw [hr.out]; rfl), HB⟩
end Go.Proofs.YtgifehmpgcenjaaDoor
