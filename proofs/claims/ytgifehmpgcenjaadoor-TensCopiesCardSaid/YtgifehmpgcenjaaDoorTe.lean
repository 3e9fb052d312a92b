/- Package tens: Clone, New, walked. No condition but sizes that any memory has. -/
import Derived.Test.YtgifehmpgcenjaaDoorTd
namespace Go.Proofs.YtgifehmpgcenjaaDoor
set_option linter.unusedVariables false
set_option linter.unusedSimpArgs false
open Go.RowKit

theorem res_ct {P : Program} {fn : Func} {p u : Tmp} {ty : TypeId} (h : fn.results = #[.cell p ty, .tmp u]) (tmps : Array Value) (w : World) (g : Nat) (t : TypeId) (cs : Array Value) (fr : Nat × Nat) (d : TypeDesc)
    {v : Value} (hp : tmps.getD p undef = .pointer (some ⟨g, 0, none⟩)) (hv : tmps.getD u undef = v) (hg : w.heap[g]? = some (.cells cs t fr))
    (hu : P.underlying ty = some d) (hd : (match d with | .struct _ | .array _ _ => true | _ => false) = true) (hi : (P.info? ty).map (·.size) = some cs.size) :
    (results fn tmps).run P w = .ok (.tuple #[.agg cs, v]) w := by
  subst hv
  rw [results_cell_tmp h, hp]
  simp [asAddr, Result.andThen, run_loadVar_row w g t ty cs fr d hg hu hd hi]

/-- no block of both -/
def Apart (v1 v2 : Value) : Prop := ∀ k, v1.ownBlock = some k → v2.ownBlock ≠ some k
theorem Apart.of {w w' : World} {b b' : Nat} {e e' : TypeId} {v1 v2 : Value} {xs ys : List Value} (h1 : Own w b e v1 xs) (h2 : Own w' b' e' v2 ys) (hb : w.heap.size ≤ b') : Apart v1 v2 := by
  intro k hk hk'
  have := h1.lt k hk
  have := h2.base_le k hk'
  omega


set_option maxHeartbeats 1600000 in
theorem tclone_any (w : World) (A A' : Option Addr) (s d : List Int) (c c' : Nat) (wide : Bool) (h1 : SL .i64 w A s c) (h2 : SL .i64 w A' d c') (hm : s.length ≤ 1000000) (hm' : d.length ≤ 1000000) :
    Calls Tryd.prog 40 #[.agg #[.slice A s.length c, .bool wide, .slice A' d.length c']] w fun e w' => ∃ v1 v2, e = .returned (.agg #[v1, .bool wide, v2]) ∧ Own w' w.heap.size 3 v1 (s.map (.int .i64)) ∧ Own w' w.heap.size 3 v2 (d.map (.int .i64)) ∧ Apart v1 v2 ∧ Below w.heap.size w w' := by
  have HB := Below.refl w.heap.size w
  go_enter Tryd.func40, Tryd.ntmps40
  go_wp2_with (first | ((with_reducible refine dst_gate (N := 1) rfl ?_); (refine box_ev 1 rfl ?hg #[.slice A s.length c, .bool wide, .slice A' d.length c'] 49 ?hr ?_); (case hg => first | rfl | (go_simp; done)); (case hr => (first | (go_simp; done) | (go_simp; rfl))); intro gK wK K hgK hb; have HB := below_step HB hb; replace h1 := h1.mono hb; replace h2 := h2.mono hb; have k0 := K.cell 0 _ rfl; have k1 := K.cell 1 _ rfl; have k2 := K.cell 2 _ rfl; have ltK := K.lt) | ((with_reducible refine dst_gate (N := 2) rfl ?_); (refine box_ev 2 rfl ?hg #[.slice none 0 0, .bool false, .slice none 0 0] 49 ?hr ?_); (case hg => first | rfl | (go_simp; done)); (case hr => (first | (go_simp; done) | (go_simp; rfl))); intro gR wR R hgR hb; have HB := below_step HB hb; replace h1 := h1.mono hb; replace h2 := h2.mono hb; have r0 := hgR; replace k0 := cell_mono k0 hb; replace k1 := cell_mono k1 hb; replace k2 := cell_mono k2 hb))
  have R' : Blk wR.drew gR #[.slice none 0 0, .bool false, .slice none 0 0] 49 := R
  have K' : Blk wR.drew gK #[.slice A s.length c, .bool wide, .slice A' d.length c'] 49 := K.mono (below_step (Below.refl _ _) hb) |>.mono (Below.refl _ _).drew
  have h1' := h1.mono (Below.refl _ _).drew
  have h2' := h2.mono (Below.refl _ _).drew
  go_region_with (first
    | (go_at_call 69; refine (shClone_any _ A s c wide h1' hm).mono ?_; rintro e_ w2 ⟨v, rfl, O1, hb2⟩; obtain ⟨A8, c8, rfl, S8⟩ := O1.sl; have R2 := R'.mono hb2; have K2 := K'.mono hb2; have h2'' := h2'.mono hb2; have q0 := K2.cell 0 _ rfl; have q1 := K2.cell 1 _ rfl; have q2 := K2.cell 2 _ rfl)
    | (go_at_call 78; refine (clone_any _ A' d c' h2'' hm').mono ?_; rintro e_ w3 ⟨v, rfl, O2, hb3⟩; obtain ⟨A9, c9, rfl, S9⟩ := O2.sl; have R3 := R2.mono hb3; have z0 := R3.cell 0 _ rfl; have z1 := R3.cell 1 _ rfl; have z2 := R3.cell 2 _ rfl; have y0 := R3.frozen 0; have y1 := R3.frozen 1; have y2 := R3.frozen 2))
  all_goals
    have hg0 : w.heap.size ≤ gR := by omega
    have lt := R'.lt
    have lt2 : gR < w2.heap.size := Nat.lt_of_lt_of_le lt hb2.size
    have HB4 := (((below_step (below_step HB.drew hb2) hb3).setCell (p := ⟨gR, 0, none⟩) hg0 (.slice A8 s.length c8)).setCell (p := ⟨gR, 1, none⟩) hg0 (.bool wide)).setCell (p := ⟨gR, 2, none⟩) hg0 (.slice A9 d.length c9)
    have K4 := ((R3.setCell 0 (.slice A8 s.length c8)).setCell 1 (.bool wide)).setCell 2 (.slice A9 d.length c9)
    have O14 := ((((O1.mono hb3).set (g := gR) (j := 0) (u := .slice A8 s.length c8) lt).set (g := gR) (j := 1) (u := .bool wide) lt).set (g := gR) (j := 2) (u := .slice A9 d.length c9) lt).lower HB.drew.size
    have O24 := (((O2.set (g := gR) (j := 0) (u := .slice A8 s.length c8) lt2).set (g := gR) (j := 1) (u := .bool wide) lt2).set (g := gR) (j := 2) (u := .slice A9 d.length c9) lt2).lower (Nat.le_trans HB.drew.size hb2.size)
    have AP := Apart.of O1 O2 (Nat.le_refl _)
    go_wp2
    refine bodyPost_ret (v := .agg #[.slice A8 s.length c8, .bool wide, .slice A9 d.length c9]) ?_ rfl ⟨_, _, rfl, O14, O24, AP, HB4⟩
    exact results_cell_row rfl _ _ gR 49 _ (0, 0) _ rfl K4 Tryd.underlying49 rfl (by kernel_rfl)
end Go.Proofs.YtgifehmpgcenjaaDoor
