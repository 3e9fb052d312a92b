/- Package tens: New, walked. No condition but sizes that any memory has. -/
import Derived.Test.YtgifehmpgcenjaaDoorTe
namespace Go.Proofs.YtgifehmpgcenjaaDoor
set_option linter.unusedVariables false
set_option linter.unusedSimpArgs false
open Go.RowKit

theorem Own.grown {w w' : World} {base g : Nat} {e : TypeId} {v : Value} {xs : List Value} (h : Own w base e v xs) (hg : w.grownBy w' (some g)) (hlt : g < base) : Own w' base e v xs := by
  refine World.ownsRow.kept h hg ?_
  cases hv : v.ownBlock with
  | none => exact .inl rfl
  | some k => exact .inr fun e => by injection e with e; have := h.base_le k hv; omega
theorem cell_grown {w w' : World} {g : Nat} {a : Addr} {v : Value} (h : w.cell? a = some v) (hg : w.grownBy w' (some g)) (hne : a.block ≠ g) : w'.cell? a = some v := by
  have := hg.block a.block (World.block_lt_of_cell? w _ h) (fun e => hne (by injection e))
  simpa [World.cell?, this] using h
theorem EV.grown {E : Int → Addr} {w w' : World} {e : Er} {v u : Value} {g : Nat} (h : EV E w e v) (hg : w.grownBy w' (some g)) (hc : w.cell? ⟨g, 0, none⟩ = some u) (hu : ∀ p, u ≠ .int .i64 p) : EV E w' e v := by
  cases e with
  | none => exact h
  | s c => exact h
  | at_ c p =>
    obtain ⟨hq, b, hv, h1, h2⟩ := h
    have hne : b ≠ g := by
      intro e
      subst e
      rw [hc] at h1
      injection h1 with h1
      exact hu p h1
    exact ⟨hq, b, hv, cell_grown h1 hg hne, cell_grown h2 hg hne⟩
theorem at_nil_neq (w : World) (a : Addr) : (binOp .neq 27 (.iface 116 (.pointer (some a))) .nilIface).run Tryd.prog w = .ok (.bool true) w := by kernel_rfl
theorem at_nil_no (w : World) (a : Addr) : (binOp .eql 27 (.iface 116 (.pointer (some a))) .nilIface).run Tryd.prog w = .ok (.bool false) w := by kernel_rfl


set_option maxHeartbeats 1600000 in
theorem tnew_ok (E : Int → Addr) (w : World) (A A' : Option Addr) (s d : List Int) (c c' : Nat) (wide : Bool) (h1 : SL .i64 w A s c) (h2 : SL .i64 w A' d c') (hm : s.length ≤ 1000000) (hm' : d.length ≤ 1000000) (hE : Errs3 E w) (hv : tvalid s d wide = .none) :
    Calls Tryd.prog 51 #[.agg #[.slice A s.length c, .bool wide], .slice A' d.length c'] w fun e w' => ∃ v1 v2, e = .returned (.tuple #[.agg #[v1, .bool wide, v2], .nilIface]) ∧ Own w' w.heap.size 3 v1 (s.map (.int .i64)) ∧ Own w' w.heap.size 3 v2 (d.map (.int .i64)) ∧ Apart v1 v2 ∧ Below w.heap.size w w' := by
  have HB := Below.refl w.heap.size w
  have n2 := nil_nil_neq
  have hv := Aside.mk hv
  have h1_ := h1
  have h2_ := h2
  have hE_ := hE
  
  go_enter Tryd.func51, Tryd.ntmps51
  go_wp2_with (first | ((with_reducible refine dst_gate (N := 2) rfl ?_); (refine box_ev 2 rfl ?hg #[.slice A s.length c, .bool wide] 30 ?hr ?_); (case hg => first | rfl | (go_simp; done)); (case hr => (first | (go_simp; done) | (go_simp; rfl))); intro gD wD D hgD hb; have HB := below_step HB hb; replace h1 := h1.mono hb; replace h2 := h2.mono hb; replace hE := hE.mono hb; have d0 := D.cell 0 _ rfl; have d1 := D.cell 1 _ rfl; have ltD := D.lt) | ((with_reducible refine dst_gate (N := 4) rfl ?_); (refine box_ev 4 rfl ?hg #[.slice none 0 0, .bool false, .slice none 0 0] 49 ?hr ?_); (case hg => first | rfl | (go_simp; done)); (case hr => (first | (go_simp; done) | (go_simp; rfl))); intro gR wR R hgR hb; have HB := below_step HB hb; replace h1 := h1.mono hb; replace h2 := h2.mono hb; replace hE := hE.mono hb; replace d0 := cell_mono d0 hb; replace d1 := cell_mono d1 hb; have hg0 := Nat.le_trans hgD (Nat.le_trans (Nat.le_of_lt ltD) hgR); have ltR := R.lt) | ((with_reducible refine dst_gate (N := 6) rfl ?_); (refine box_ev 6 rfl ?hg #[.slice none 0 0, .bool false, .slice none 0 0] 49 ?hr ?_); (case hg => first | rfl | (go_simp; done)); (case hr => (first | (go_simp; done) | (go_simp; rfl))); intro gK wK K hgK hb; have HB := below_step HB hb; replace h1 := h1.mono hb; replace h2 := h2.mono hb; replace hE := hE.mono hb; replace d0 := cell_mono d0 hb; replace d1 := cell_mono d1 hb; replace R := R.mono hb; have hg1 := Nat.le_trans hg0 (Nat.le_trans (Nat.le_of_lt ltR) hgK); have hne := Nat.ne_of_lt (Nat.lt_of_lt_of_le ltR hgK)) | ((with_reducible refine store_gate (p := 6) (t := 49) rfl ?_); refine storeRow_ev ?hg rfl 49 _ _ rfl gK (#[.slice A s.length c, .bool wide, .slice A' d.length c']) ?hx ?hy _ _ K (by kernel_rfl) rfl ?h1 HB ?hB ?_; (case h1 => first | (simp; done) | (simp [Value.oneCell']; done)); (case hg => first | rfl | (go_simp; done)); (case hx => first | rfl | (go_simp; done)); (case hy => first | rfl | (go_simp; done) | (simp [Act.put, Act.eval]; done)); (case hB => omega); intro w1 n0_ n1_ n2_; clear K HB; have K := n0_; have HB := n1_; have HG := Lib.hid n2_; clear n0_ n1_ n2_; have k0 := K.cell 0 _ rfl; have k1 := K.cell 1 _ rfl; have k2 := K.cell 2 _ rfl; replace R := R.grown HG.out (fun e => hne (Option.some.inj e).symm); have h1 := h1_.mono HB; have h2 := h2_.mono HB; have hE := hE_.mono HB) | ((with_reducible refine callee_gate (f := 55) (N := 12) rfl rfl ?_); refine call_ev 12 rfl rfl ?hg Tryd.func55 (by kernel_rfl) rfl #[.agg #[.slice A s.length c, .bool wide, .slice A' d.length c']] ?hargs (tvalid_any E _ A A' s d c c' wide h1.il h2.il h1.len h2.len hE) ?_; (case hg => first | rfl | (go_simp; done)); (case hargs => first | rfl | (simp; done) | (simp [Act.put, Act.eval]; done) | (go_simp; done)); rintro e_ w_ ⟨v_, rfl, hv_, hb⟩; rw [hv.out] at hv_; obtain rfl := hv_; have HB := below_step HB hb; replace h1 := h1.mono hb; replace h2 := h2.mono hb; replace hE := hE.mono hb; refine ⟨_, rfl, ?_⟩; replace K := K.mono hb; replace R := R.mono hb; have ltB := R.lt; have szB := HB.size; have k0 := K.cell 0 _ rfl; have k1 := K.cell 1 _ rfl; have k2 := K.cell 2 _ rfl) | ((with_reducible refine callee_gate (f := 40) (N := 18) rfl rfl ?_); refine call_ev 18 rfl rfl ?hg Tryd.func40 (by kernel_rfl) rfl #[.agg #[.slice A s.length c, .bool wide, .slice A' d.length c']] ?hargs (tclone_any _ A A' s d c c' wide h1 h2 hm hm') ?_; (case hg => first | rfl | (go_simp; done)); (case hargs => first | rfl | (simp; done) | (simp [Act.put, Act.eval]; done) | (go_simp; done)); rintro e_ w_ ⟨v1_, v2_, rfl, O1, O2, AP, hb⟩; obtain ⟨A8, c8, rfl, S8⟩ := O1.sl; obtain ⟨A9, c9, rfl, S9⟩ := O2.sl; have HB := below_step HB hb; replace h1 := h1.mono hb; replace h2 := h2.mono hb; replace hE := hE.mono hb; refine ⟨_, rfl, ?_⟩; replace R := R.mono hb; have y0 := hb) | ((with_reducible refine store_gate (p := 4) (t := 49) rfl ?_); refine storeRow_ev ?hg rfl 49 _ _ rfl gR (#[.slice A8 s.length c8, .bool wide, .slice A9 d.length c9]) ?hx ?hy _ _ R (by kernel_rfl) rfl ?h1 HB ?hB ?_; (case h1 => first | (simp; done) | (simp [Value.oneCell']; done)); (case hg => first | rfl | (go_simp; done)); (case hx => first | rfl | (go_simp; done)); (case hy => first | rfl | (go_simp; done) | (simp [Act.put, Act.eval]; done)); (case hB => omega); intro w1 n0_ n1_ n2_; clear R HB; have R := n0_; have HB := n1_; have HG := Lib.hid n2_; clear n0_ n1_ n2_))
  have O14 := (O1.grown HG.out ltB).lower szB
  have O24 := (O2.grown HG.out ltB).lower szB
  refine bodyPost_ret (v := .tuple #[.agg #[.slice A8 s.length c8, .bool wide, .slice A9 d.length c9], .nilIface]) ?_ rfl ⟨_, _, rfl, O14, O24, AP, HB⟩
  exact res_ct rfl _ _ gR 49 _ (0, 0) _ rfl rfl R Tryd.underlying49 rfl (by kernel_rfl)



set_option maxHeartbeats 1600000 in
theorem tnew_bad (E : Int → Addr) (w : World) (A A' : Option Addr) (s d : List Int) (c c' : Nat) (wide : Bool) (h1 : SL .i64 w A s c) (h2 : SL .i64 w A' d c') (hm : s.length ≤ 1000000) (hm' : d.length ≤ 1000000) (hE : Errs3 E w) (q : Int) (hv : tvalid s d wide = .s q) :
    Calls Tryd.prog 51 #[.agg #[.slice A s.length c, .bool wide], .slice A' d.length c'] w fun e w' => ∃ v, e = .returned (.tuple #[.agg #[.slice none 0 0, .bool false, .slice none 0 0], v]) ∧ EV E w' (.s q) v ∧ Below w.heap.size w w' := by
  have HB := Below.refl w.heap.size w
  have n2 := iface_nil_neq
  have n3 := at_nil_neq
  have hv := Aside.mk hv
  have h1_ := h1
  have h2_ := h2
  have hE_ := hE
  go_enter Tryd.func51, Tryd.ntmps51
  go_wp2_with (first | ((with_reducible refine dst_gate (N := 2) rfl ?_); (refine box_ev 2 rfl ?hg #[.slice A s.length c, .bool wide] 30 ?hr ?_); (case hg => first | rfl | (go_simp; done)); (case hr => (first | (go_simp; done) | (go_simp; rfl))); intro gD wD D hgD hb; have HB := below_step HB hb; replace h1 := h1.mono hb; replace h2 := h2.mono hb; replace hE := hE.mono hb; have d0 := D.cell 0 _ rfl; have d1 := D.cell 1 _ rfl; have ltD := D.lt) | ((with_reducible refine dst_gate (N := 4) rfl ?_); (refine box_ev 4 rfl ?hg #[.slice none 0 0, .bool false, .slice none 0 0] 49 ?hr ?_); (case hg => first | rfl | (go_simp; done)); (case hr => (first | (go_simp; done) | (go_simp; rfl))); intro gR wR R hgR hb; have HB := below_step HB hb; replace h1 := h1.mono hb; replace h2 := h2.mono hb; replace hE := hE.mono hb; replace d0 := cell_mono d0 hb; replace d1 := cell_mono d1 hb; have hg0 := Nat.le_trans hgD (Nat.le_trans (Nat.le_of_lt ltD) hgR); have ltR := R.lt) | ((with_reducible refine dst_gate (N := 6) rfl ?_); (refine box_ev 6 rfl ?hg #[.slice none 0 0, .bool false, .slice none 0 0] 49 ?hr ?_); (case hg => first | rfl | (go_simp; done)); (case hr => (first | (go_simp; done) | (go_simp; rfl))); intro gK wK K hgK hb; have HB := below_step HB hb; replace h1 := h1.mono hb; replace h2 := h2.mono hb; replace hE := hE.mono hb; replace d0 := cell_mono d0 hb; replace d1 := cell_mono d1 hb; replace R := R.mono hb; have hg1 := Nat.le_trans hg0 (Nat.le_trans (Nat.le_of_lt ltR) hgK); have hne := Nat.ne_of_lt (Nat.lt_of_lt_of_le ltR hgK)) | ((with_reducible refine store_gate (p := 6) (t := 49) rfl ?_); refine storeRow_ev ?hg rfl 49 _ _ rfl gK (#[.slice A s.length c, .bool wide, .slice A' d.length c']) ?hx ?hy _ _ K (by kernel_rfl) rfl ?h1 HB ?hB ?_; (case h1 => first | (simp; done) | (simp [Value.oneCell']; done)); (case hg => first | rfl | (go_simp; done)); (case hx => first | rfl | (go_simp; done)); (case hy => first | rfl | (go_simp; done) | (simp [Act.put, Act.eval]; done)); (case hB => omega); intro w1 n0_ n1_ n2_; clear K HB; have K := n0_; have HB := n1_; have HG := Lib.hid n2_; clear n0_ n1_ n2_; have k0 := K.cell 0 _ rfl; have k1 := K.cell 1 _ rfl; have k2 := K.cell 2 _ rfl; replace R := R.grown HG.out (fun e => hne (Option.some.inj e).symm); have h1 := h1_.mono HB; have h2 := h2_.mono HB; have hE := hE_.mono HB) | ((with_reducible refine callee_gate (f := 55) (N := 12) rfl rfl ?_); refine call_ev 12 rfl rfl ?hg Tryd.func55 (by kernel_rfl) rfl #[.agg #[.slice A s.length c, .bool wide, .slice A' d.length c']] ?hargs (tvalid_any E _ A A' s d c c' wide h1.il h2.il h1.len h2.len hE) ?_; (case hg => first | rfl | (go_simp; done)); (case hargs => first | rfl | (simp; done) | (simp [Act.put, Act.eval]; done) | (go_simp; done)); rintro e_ w_ ⟨v_, rfl, hv_, hb⟩; rw [hv.out] at hv_; have EW := hv_; obtain ⟨hq, e8⟩ := hv_; rw [e8] at EW; subst e8; have HB := below_step HB hb; replace h1 := h1.mono hb; replace h2 := h2.mono hb; replace hE := hE.mono hb; refine ⟨_, rfl, ?_⟩; replace R := R.mono hb; have f0 := R.cell 0 _ rfl) | ((with_reducible refine store_gate (p := 4) (t := 49) rfl ?_); refine storeRow_ev ?hg rfl 49 _ _ rfl gR (#[.slice none 0 0, .bool false, .slice none 0 0]) ?hx ?hy _ _ R (by kernel_rfl) rfl ?h1 HB ?hB ?_; (case h1 => first | (simp; done) | (simp [Value.oneCell']; done)); (case hg => first | rfl | (go_simp; done)); (case hx => first | rfl | (go_simp; done)); (case hy => first | rfl | (go_simp; done) | (simp [Act.put, Act.eval]; done)); (case hB => omega); intro w1 n0_ n1_ n2_; clear R HB; have R := n0_; have HB := n1_; have HG := Lib.hid n2_; clear n0_ n1_ n2_; replace EW := EV.grown EW HG.out f0 (fun p e => by cases e)))
  refine bodyPost_ret (v := .tuple #[.agg #[.slice none 0 0, .bool false, .slice none 0 0], _]) ?_ rfl ⟨_, rfl, EW, HB⟩
  exact res_ct rfl _ _ gR 49 _ (0, 0) _ rfl rfl R Tryd.underlying49 rfl (by kernel_rfl)


set_option maxHeartbeats 1600000 in
theorem tnew_badAt (E : Int → Addr) (w : World) (A A' : Option Addr) (s d : List Int) (c c' : Nat) (wide : Bool) (h1 : SL .i64 w A s c) (h2 : SL .i64 w A' d c') (hm : s.length ≤ 1000000) (hm' : d.length ≤ 1000000) (hE : Errs3 E w) (q p : Int) (hv : tvalid s d wide = .at_ q p) :
    Calls Tryd.prog 51 #[.agg #[.slice A s.length c, .bool wide], .slice A' d.length c'] w fun e w' => ∃ v, e = .returned (.tuple #[.agg #[.slice none 0 0, .bool false, .slice none 0 0], v]) ∧ EV E w' (.at_ q p) v ∧ Below w.heap.size w w' := by
  have HB := Below.refl w.heap.size w
  have n2 := iface_nil_neq
  have n3 := at_nil_neq
  have hv := Aside.mk hv
  have h1_ := h1
  have h2_ := h2
  have hE_ := hE
  go_enter Tryd.func51, Tryd.ntmps51
  go_wp2_with (first | ((with_reducible refine dst_gate (N := 2) rfl ?_); (refine box_ev 2 rfl ?hg #[.slice A s.length c, .bool wide] 30 ?hr ?_); (case hg => first | rfl | (go_simp; done)); (case hr => (first | (go_simp; done) | (go_simp; rfl))); intro gD wD D hgD hb; have HB := below_step HB hb; replace h1 := h1.mono hb; replace h2 := h2.mono hb; replace hE := hE.mono hb; have d0 := D.cell 0 _ rfl; have d1 := D.cell 1 _ rfl; have ltD := D.lt) | ((with_reducible refine dst_gate (N := 4) rfl ?_); (refine box_ev 4 rfl ?hg #[.slice none 0 0, .bool false, .slice none 0 0] 49 ?hr ?_); (case hg => first | rfl | (go_simp; done)); (case hr => (first | (go_simp; done) | (go_simp; rfl))); intro gR wR R hgR hb; have HB := below_step HB hb; replace h1 := h1.mono hb; replace h2 := h2.mono hb; replace hE := hE.mono hb; replace d0 := cell_mono d0 hb; replace d1 := cell_mono d1 hb; have hg0 := Nat.le_trans hgD (Nat.le_trans (Nat.le_of_lt ltD) hgR); have ltR := R.lt) | ((with_reducible refine dst_gate (N := 6) rfl ?_); (refine box_ev 6 rfl ?hg #[.slice none 0 0, .bool false, .slice none 0 0] 49 ?hr ?_); (case hg => first | rfl | (go_simp; done)); (case hr => (first | (go_simp; done) | (go_simp; rfl))); intro gK wK K hgK hb; have HB := below_step HB hb; replace h1 := h1.mono hb; replace h2 := h2.mono hb; replace hE := hE.mono hb; replace d0 := cell_mono d0 hb; replace d1 := cell_mono d1 hb; replace R := R.mono hb; have hg1 := Nat.le_trans hg0 (Nat.le_trans (Nat.le_of_lt ltR) hgK); have hne := Nat.ne_of_lt (Nat.lt_of_lt_of_le ltR hgK)) | ((with_reducible refine store_gate (p := 6) (t := 49) rfl ?_); refine storeRow_ev ?hg rfl 49 _ _ rfl gK (#[.slice A s.length c, .bool wide, .slice A' d.length c']) ?hx ?hy _ _ K (by kernel_rfl) rfl ?h1 HB ?hB ?_; (case h1 => first | (simp; done) | (simp [Value.oneCell']; done)); (case hg => first | rfl | (go_simp; done)); (case hx => first | rfl | (go_simp; done)); (case hy => first | rfl | (go_simp; done) | (simp [Act.put, Act.eval]; done)); (case hB => omega); intro w1 n0_ n1_ n2_; clear K HB; have K := n0_; have HB := n1_; have HG := Lib.hid n2_; clear n0_ n1_ n2_; have k0 := K.cell 0 _ rfl; have k1 := K.cell 1 _ rfl; have k2 := K.cell 2 _ rfl; replace R := R.grown HG.out (fun e => hne (Option.some.inj e).symm); have h1 := h1_.mono HB; have h2 := h2_.mono HB; have hE := hE_.mono HB) | ((with_reducible refine callee_gate (f := 55) (N := 12) rfl rfl ?_); refine call_ev 12 rfl rfl ?hg Tryd.func55 (by kernel_rfl) rfl #[.agg #[.slice A s.length c, .bool wide, .slice A' d.length c']] ?hargs (tvalid_any E _ A A' s d c c' wide h1.il h2.il h1.len h2.len hE) ?_; (case hg => first | rfl | (go_simp; done)); (case hargs => first | rfl | (simp; done) | (simp [Act.put, Act.eval]; done) | (go_simp; done)); rintro e_ w_ ⟨v_, rfl, hv_, hb⟩; rw [hv.out] at hv_; have EW := hv_; obtain ⟨hq, b8, e8, u8, u9⟩ := hv_; rw [e8] at EW; subst e8; have HB := below_step HB hb; replace h1 := h1.mono hb; replace h2 := h2.mono hb; replace hE := hE.mono hb; refine ⟨_, rfl, ?_⟩; replace R := R.mono hb; have f0 := R.cell 0 _ rfl) | ((with_reducible refine store_gate (p := 4) (t := 49) rfl ?_); refine storeRow_ev ?hg rfl 49 _ _ rfl gR (#[.slice none 0 0, .bool false, .slice none 0 0]) ?hx ?hy _ _ R (by kernel_rfl) rfl ?h1 HB ?hB ?_; (case h1 => first | (simp; done) | (simp [Value.oneCell']; done)); (case hg => first | rfl | (go_simp; done)); (case hx => first | rfl | (go_simp; done)); (case hy => first | rfl | (go_simp; done) | (simp [Act.put, Act.eval]; done)); (case hB => omega); intro w1 n0_ n1_ n2_; clear R HB; have R := n0_; have HB := n1_; have HG := Lib.hid n2_; clear n0_ n1_ n2_; replace EW := EV.grown EW HG.out f0 (fun p e => by cases e)))
  refine bodyPost_ret (v := .tuple #[.agg #[.slice none 0 0, .bool false, .slice none 0 0], _]) ?_ rfl ⟨_, rfl, EW, HB⟩
  exact res_ct rfl _ _ gR 49 _ (0, 0) _ rfl rfl R Tryd.underlying49 rfl (by kernel_rfl)

end Go.Proofs.YtgifehmpgcenjaaDoor
