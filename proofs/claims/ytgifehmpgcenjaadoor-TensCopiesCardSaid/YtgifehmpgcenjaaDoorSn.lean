/- The statement ShapePlaces, walked. No condition but sizes that any memory has. -/
import Derived.Test.YtgifehmpgcenjaaDoorSm
namespace Go.Proofs.YtgifehmpgcenjaaDoor
set_option linter.unusedVariables false
set_option linter.unusedSimpArgs false
open Go.RowKit


set_option maxHeartbeats 800000 in
theorem first5_any (E : Int → Addr) (w : World) (hE : Errs E w) :
    Calls Tryd.prog 17 #[] w fun e w' => e = .returned (.bool true) ∧ Below w.heap.size w w' := by
  have HB := Below.refl w.heap.size w
  have hr : indexL [2, 3] [1, 2] = (5, true) := by decide +kernel
  go_enter Tryd.func17, Tryd.ntmps17
  go_wp2_with (first | ((with_reducible refine dst_gate (N := 4) rfl ?_); (refine lit_ev 4 rfl ?hg #[.int .i64 2, .int .i64 3] 3 2 ?hr ?_); (case hg => first | rfl | (go_simp; done)); (case hr => (first | (go_simp; done) | (go_simp; rfl))); intro gK wK K hgK hb; have HB := below_step HB hb; replace hE := hE.mono hb) | ((with_reducible refine dst_gate (N := 5) rfl ?_); (refine lit_ev 5 rfl ?hg #[.int .i64 1, .int .i64 2] 3 2 ?hr ?_); (case hg => first | rfl | (go_simp; done)); (case hr => (first | (go_simp; done) | (go_simp; rfl))); intro gL wL L hgL hb; have HB := below_step HB hb; replace hE := hE.mono hb; replace K := K.mono hb) | ((with_reducible refine callee_gate (f := 22) (N := 6) rfl rfl ?_); refine call_ev 6 rfl rfl ?hg Tryd.func22 (by kernel_rfl) rfl #[.slice (some ⟨gK, 0, none⟩) 2 2, .slice (some ⟨gL, 0, none⟩) 2 2] ?hargs (index_any E _ _ _ [2, 3] [1, 2] 2 2 (K.il .i64 [2, 3]) (L.il .i64 [1, 2]) (by decide) (by decide) hE) ?_; (case hg => first | rfl | (go_simp; done)); (case hargs => first | rfl | (simp; done) | (simp [Act.put, Act.eval]; done) | (go_simp; done)); rintro e_ w_ ⟨rfl, hb⟩; have HB := below_step HB hb; replace hE := hE.mono hb; refine ⟨_, rfl, ?_⟩; rw [hr]))
  go_ret
  exact ⟨rfl, HB⟩


set_option maxHeartbeats 1600000 in
theorem shapePlaces_any (E : Int → Addr) (w : World) (A A' : Option Addr) (s at_ : List Int) (c c' : Nat) (i : Int) (h1 : IL .i64 w A s) (h2 : IL .i64 w A' at_) (hm : s.length ≤ maxLen) (hm' : at_.length ≤ maxLen) (hE : Errs E w) :
    Calls Tryd.prog 5 #[.slice A s.length c, .slice A' at_.length c', .int .i64 i] w fun e w' => e = .returned (.bool true) ∧ Below w.heap.size w w' := by
  have HB := Below.refl w.heap.size w
  by_cases c1 : 8 < s.length
  · have d1 : decide ((8 : Int) < (s.length : Int)) = true := decide_eq_true (by omega)
    have d1' : decide (8 < s.length) = true := decide_eq_true c1
    go_enter Tryd.func5, Tryd.ntmps5
    go_wp2_with ((with_reducible refine callee_gate (f := 17) (N := 16) rfl rfl ?_); refine call_ev 16 rfl rfl ?hg Tryd.func17 (by kernel_rfl) rfl #[] ?hargs (first5_any E _ hE) ?_; (case hg => first | rfl | (go_simp; done)); (case hargs => first | rfl | (simp; done) | (simp [Act.put, Act.eval]; done) | (go_simp; done)); rintro e_ w_ ⟨rfl, hb⟩; have HB := below_step HB hb; replace hE := hE.mono hb; replace h1 := h1.mono hb; replace h2 := h2.mono hb; refine ⟨_, rfl, ?_⟩)
    go_ret
    exact ⟨rfl, HB⟩
  · have d1 : decide ((8 : Int) < (s.length : Int)) = false := decide_eq_false (by omega)
    have d1' : decide (8 < s.length) = false := decide_eq_false c1
    by_cases c2 : 8 < at_.length
    · have d2 : decide ((8 : Int) < (at_.length : Int)) = true := decide_eq_true (by omega)
      have d2' : decide (8 < at_.length) = true := decide_eq_true c2
      go_enter Tryd.func5, Tryd.ntmps5
      go_wp2_with ((with_reducible refine callee_gate (f := 17) (N := 16) rfl rfl ?_); refine call_ev 16 rfl rfl ?hg Tryd.func17 (by kernel_rfl) rfl #[] ?hargs (first5_any E _ hE) ?_; (case hg => first | rfl | (go_simp; done)); (case hargs => first | rfl | (simp; done) | (simp [Act.put, Act.eval]; done) | (go_simp; done)); rintro e_ w_ ⟨rfl, hb⟩; have HB := below_step HB hb; replace hE := hE.mono hb; replace h1 := h1.mono hb; replace h2 := h2.mono hb; refine ⟨_, rfl, ?_⟩)
      go_ret
      exact ⟨rfl, HB⟩
    · have d2 : decide ((8 : Int) < (at_.length : Int)) = false := decide_eq_false (by omega)
      have d2' : decide (8 < at_.length) = false := decide_eq_false c2
      have hl1 : (atL s i).1.length ≤ maxLen := by
        simp only [atL]; split
        · simp [rowFrom]; exact hm
        · simp
      go_enter Tryd.func5, Tryd.ntmps5
      go_wp2_with (first | ((with_reducible refine callee_gate (f := 17) (N := 16) rfl rfl ?_); refine call_ev 16 rfl rfl ?hg Tryd.func17 (by kernel_rfl) rfl #[] ?hargs (first5_any E _ hE) ?_; (case hg => first | rfl | (go_simp; done)); (case hargs => first | rfl | (simp; done) | (simp [Act.put, Act.eval]; done) | (go_simp; done)); rintro e_ w_ ⟨rfl, hb⟩; have HB := below_step HB hb; replace hE := hE.mono hb; replace h1 := h1.mono hb; replace h2 := h2.mono hb; refine ⟨_, rfl, ?_⟩) | ((with_reducible refine callee_gate (f := 22) (N := 35) rfl rfl ?_); refine call_ev 35 rfl rfl ?hg Tryd.func22 (by kernel_rfl) rfl #[.slice A s.length c, .slice A' at_.length c'] ?hargs (index_any E _ _ _ s at_ c c' h1 h2 hm hm' hE) ?_; (case hg => first | rfl | (go_simp; done)); (case hargs => first | rfl | (simp; done) | (simp [Act.put, Act.eval]; done) | (go_simp; done)); rintro e_ w_ ⟨rfl, hb⟩; have HB := below_step HB hb; replace hE := hE.mono hb; replace h1 := h1.mono hb; replace h2 := h2.mono hb; refine ⟨_, rfl, ?_⟩) | ((with_reducible refine callee_gate (f := 25) (N := 41) rfl rfl ?_); refine call_ev 41 rfl rfl ?hg Tryd.func25 (by kernel_rfl) rfl #[.slice A s.length c, .slice A' at_.length c'] ?hargs (refIndex_any _ _ _ s at_ c c' h1 h2 hm hm') ?_; (case hg => first | rfl | (go_simp; done)); (case hargs => first | rfl | (simp; done) | (simp [Act.put, Act.eval]; done) | (go_simp; done)); rintro e_ w_ ⟨rfl, hb⟩; have HB := below_step HB hb; replace hE := hE.mono hb; replace h1 := h1.mono hb; replace h2 := h2.mono hb; refine ⟨_, rfl, ?_⟩) | ((with_reducible refine callee_gate (f := 26) (N := 47) rfl rfl ?_); refine call_ev 47 rfl rfl ?hg Tryd.func26 (by kernel_rfl) rfl #[.slice A s.length c, .int .i64 i] ?hargs (at_any E _ _ s c i h1 hm hE) ?_; (case hg => first | rfl | (go_simp; done)); (case hargs => first | rfl | (simp; done) | (simp [Act.put, Act.eval]; done) | (go_simp; done)); rintro e_ w_ ⟨v1, rfl, O1, hb⟩; have HB := below_step HB hb; replace hE := hE.mono hb; replace h1 := h1.mono hb; replace h2 := h2.mono hb; refine ⟨_, rfl, ?_⟩; obtain ⟨A1, k1, rfl, _, _, I1⟩ := O1.il; clear O1) | ((with_reducible refine callee_gate (f := 27) (N := 53) rfl rfl ?_); refine call_ev 53 rfl rfl ?hg Tryd.func27 (by kernel_rfl) rfl #[.slice A s.length c, .int .i64 i] ?hargs (refAt_any _ _ s c i h1 hm) ?_; (case hg => first | rfl | (go_simp; done)); (case hargs => first | rfl | (simp; done) | (simp [Act.put, Act.eval]; done) | (go_simp; done)); rintro e_ w_ ⟨v2, rfl, O2, hb⟩; have HB := below_step HB hb; replace hE := hE.mono hb; replace h1 := h1.mono hb; replace h2 := h2.mono hb; refine ⟨_, rfl, ?_⟩; replace I1 := I1.mono hb; obtain ⟨A2, k2, rfl, _, _, I2⟩ := O2.il; clear O2) | ((with_reducible refine callee_gate (f := 28) (N := 67) rfl rfl ?_); refine call_ev 67 rfl rfl ?hg Tryd.func28 (by kernel_rfl) rfl #[.slice A1 (atL s i).1.length k1, .slice A2 (atL s i).1.length k2] ?hargs (sameInts_any _ _ _ (atL s i).1 (atL s i).1 k1 k2 I1 I2 hl1 hl1) ?_; (case hg => first | rfl | (go_simp; done)); (case hargs => first | rfl | (simp; done) | (simp [Act.put, Act.eval]; done) | (go_simp; done)); rintro e_ w_ ⟨rfl, hb⟩; have HB := below_step HB hb; replace hE := hE.mono hb; replace h1 := h1.mono hb; replace h2 := h2.mono hb; refine ⟨_, rfl, ?_⟩))
      go_ret
      exact ⟨by simp, HB⟩
end Go.Proofs.YtgifehmpgcenjaaDoor
