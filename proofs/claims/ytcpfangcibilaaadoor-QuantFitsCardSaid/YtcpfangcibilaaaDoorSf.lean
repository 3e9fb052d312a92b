/- Errors as plain data (package lodgesee): Fault, Same, Is, walked. No condition. -/
import Derived.Test.YtcpfangcibilaaaDoorSe
namespace Go.Proofs.YtcpfangcibilaaaDoor
set_option linter.unusedVariables false
set_option linter.unusedSimpArgs false
open Go.RowKit


set_option maxHeartbeats 1600000 in
theorem fault_any (E : Int → Addr) (w : World) (e : Er) (v : Value) (hv : EV E w e v) (hE : ErrsAll E w) :
    Calls Tryd.prog 106 #[v] w fun e_ w' => e_ = .returned (.agg #[.int .i64 e.code, .bool e.placed, .int .i64 e.pos]) ∧ Below w.heap.size w w' := by
  have HB := Below.refl w.heap.size w
  have n1 : ∀ (a : Addr) (w : World), (binOp .eql 25 (.iface 119 (.pointer (some a))) .nilIface).run Tryd.prog w = .ok (.bool false) w := fun a w => by kernel_rfl
  have n2 : ∀ (w : World), (binOp .eql 25 .nilIface .nilIface).run Tryd.prog w = .ok (.bool true) w := fun w => by kernel_rfl
  have n3 : ∀ (a : Addr) (w : World), (binOp .eql 25 (.iface 108 (.pointer (some a))) .nilIface).run Tryd.prog w = .ok (.bool false) w := fun a w => by kernel_rfl
  cases e with
  | none =>
    obtain rfl : v = .nilIface := hv
    go_enter Tryd.func106, Tryd.ntmps106
    
    go_wp2_with (first | ((with_reducible refine dst_gate (N := 2) rfl ?_); (refine box_ev 2 rfl ?hg #[.int .i64 0, .bool false, .int .i64 0] 93 ?hr ?_); (case hg => first | rfl | (go_simp; done)); (case hr => (first | (go_simp; done) | (go_simp; rfl))); intro gK wK K hgK hb; have HB := below_step HB hb) | ((with_reducible refine callee_gate (f := 109) (N := 7) rfl rfl ?_); refine call_ev 7 rfl rfl ?hg Tryd.func109 (by kernel_rfl) rfl #[] ?hargs (none_any _) ?_; (case hg => first | rfl | (go_simp; done)); (case hargs => first | rfl | (simp; done) | (simp [Act.put, Act.eval]; done) | (go_simp; done)); rintro e_ w_ ⟨rfl, hb⟩; have HB := below_step HB hb; refine ⟨_, rfl, ?_⟩; replace K := K.mono hb) | ((with_reducible refine store_gate (p := 2) (t := 93) rfl ?_); refine storeRow_ev ?hg rfl 93 _ _ rfl gK (#[.int .i64 0, .bool false, .int .i64 0]) ?hx ?hy _ _ K (by kernel_rfl) rfl ?h1 HB ?hB ?_; (case h1 => first | (simp; done) | (simp [Value.oneCell']; done)); (case hg => first | rfl | (go_simp; done)); (case hx => first | rfl | (go_simp; done)); (case hy => first | rfl | (go_simp; done) | (simp [Act.put, Act.eval]; done)); (case hB => first | assumption | omega); intro w1 n0_ n1_ n2_; clear K HB; have K := n0_; have HB := n1_; have HG := Lib.hid n2_; clear n0_ n1_ n2_))
    refine bodyPost_ret (v := .agg #[.int .i64 0, .bool false, .int .i64 0]) ?_ rfl ⟨rfl, HB⟩
    exact results_cell_row rfl _ _ gK 93 _ (0, 0) _ rfl K Tryd.underlying93 rfl (by kernel_rfl)
  | s c =>
    obtain ⟨hc, rfl⟩ := hv
    have ta : ∀ (a : Addr) (w : World), (Instr.typeAssert (.iface 119 (.pointer (some a))) 25 108 true).run Tryd.prog w = .ok (.tuple #[.pointer none, .bool false]) w := fun a w => by kernel_rfl
    go_enter Tryd.func106, Tryd.ntmps106
    
    go_wp2_with (first | ((with_reducible refine dst_gate (N := 2) rfl ?_); (refine box_ev 2 rfl ?hg #[.int .i64 0, .bool false, .int .i64 0] 93 ?hr ?_); (case hg => first | rfl | (go_simp; done)); (case hr => (first | (go_simp; done) | (go_simp; rfl))); intro gK wK K hgK hb; have HB := below_step HB hb; replace hE := hE.mono hb) | ((with_reducible refine callee_gate (f := 110) (N := 16) rfl rfl ?_); refine call_ev 16 rfl rfl ?hg Tryd.func110 (by kernel_rfl) rfl #[.iface 119 (.pointer (some (E c)))] ?hargs (sentinel_any E _ c hc hE) ?_; (case hg => first | rfl | (go_simp; done)); (case hargs => first | rfl | (simp; done) | (simp [Act.put, Act.eval]; done) | (go_simp; done)); rintro e_ w_ ⟨rfl, hb⟩; have HB := below_step HB hb; replace hE := hE.mono hb; refine ⟨_, rfl, ?_⟩; replace K := K.mono hb) | ((with_reducible refine callee_gate (f := 80) (N := 17) rfl rfl ?_); refine call_ev 17 rfl rfl ?hg Tryd.func80 (by kernel_rfl) rfl #[.int .i64 c] ?hargs (bare_any _ c) ?_; (case hg => first | rfl | (go_simp; done)); (case hargs => first | rfl | (simp; done) | (simp [Act.put, Act.eval]; done) | (go_simp; done)); rintro e_ w_ ⟨rfl, hb⟩; have HB := below_step HB hb; replace hE := hE.mono hb; refine ⟨_, rfl, ?_⟩; replace K := K.mono hb) | ((with_reducible refine store_gate (p := 2) (t := 93) rfl ?_); refine storeRow_ev ?hg rfl 93 _ _ rfl gK (#[.int .i64 c, .bool false, .int .i64 0]) ?hx ?hy _ _ K (by kernel_rfl) rfl ?h1 HB ?hB ?_; (case h1 => first | (simp; done) | (simp [Value.oneCell']; done)); (case hg => first | rfl | (go_simp; done)); (case hx => first | rfl | (go_simp; done)); (case hy => first | rfl | (go_simp; done) | (simp [Act.put, Act.eval]; done)); (case hB => first | assumption | omega); intro w1 n0_ n1_ n2_; clear K HB; have K := n0_; have HB := n1_; have HG := Lib.hid n2_; clear n0_ n1_ n2_))
    refine bodyPost_ret (v := .agg #[.int .i64 c, .bool false, .int .i64 0]) ?_ rfl ⟨rfl, HB⟩
    exact results_cell_row rfl _ _ gK 93 _ (0, 0) _ rfl K Tryd.underlying93 rfl (by kernel_rfl)
  | at_ c p =>
    obtain ⟨hc, b, rfl, p1, p2⟩ := hv
    have hc0 : c ≠ 0 := by have := (codes_mem c).1 hc; omega
    have ta : ∀ (a : Addr) (w : World), (Instr.typeAssert (.iface 108 (.pointer (some a))) 25 108 true).run Tryd.prog w = .ok (.tuple #[.pointer (some a), .bool true]) w := fun a w => by kernel_rfl
    go_enter Tryd.func106, Tryd.ntmps106
    
    go_wp2_with ((with_reducible refine dst_gate (N := 2) rfl ?_); (refine box_ev 2 rfl ?hg #[.int .i64 0, .bool false, .int .i64 0] 93 ?hr ?_); (case hg => first | rfl | (go_simp; done)); (case hr => (first | (go_simp; done) | (go_simp; rfl))); intro gK wK K hgK hb; have HB := below_step HB hb; replace hE := hE.mono hb; replace p1 := cell_mono p1 hb; replace p2 := cell_mono p2 hb; have f0 := K.frozen 0; have f1 := K.frozen 1; have f2 := K.frozen 2; have k0 := K.cell 0 _ rfl; have k1 := K.cell 1 _ rfl; have k2 := K.cell 2 _ rfl)
    have hE' : ErrsAll E wK.drew := hE.mono (Below.refl _ _).drew
    have p1' : wK.drew.cell? ⟨b, 0, none⟩ = some (.int .i64 p) := p1
    have p2' : wK.drew.cell? ⟨b, 1, none⟩ = some (.iface 119 (.pointer (some (E c)))) := p2
    have K' : Blk wK.drew gK #[.int .i64 0, .bool false, .int .i64 0] 93 := K
    have hg0 := hgK
    go_region_with (first
      | (go_at_call 110; refine (sentinel_any E _ c hc hE').mono ?_; rintro e w2 ⟨rfl, hb2⟩; have q1 := cell_mono p1' hb2; have q2 := cell_mono p2' hb2; have K2 := K'.mono hb2)
      | (go_at_call 111; refine (placed_any _ c p hc0).mono ?_; rintro e w3 ⟨rfl, hb3⟩; have K3 := K2.mono hb3; have z0 := K3.cell 0 _ rfl; have z1 := K3.cell 1 _ rfl; have z2 := K3.cell 2 _ rfl; have y0 := K3.frozen 0; have y1 := K3.frozen 1; have y2 := K3.frozen 2))
    all_goals
      have HB3 := (below_step (below_step HB.drew hb2) hb3).setCell (p := ⟨gK, 0, none⟩) hg0 (.int .i64 c)
      have HB4 := (HB3.setCell (p := ⟨gK, 1, none⟩) hg0 (.bool true)).setCell (p := ⟨gK, 2, none⟩) hg0 (.int .i64 p)
      have K4 := ((K3.setCell 0 (.int .i64 c)).setCell 1 (.bool true)).setCell 2 (.int .i64 p)
      go_wp2
      refine bodyPost_ret (v := .agg #[.int .i64 c, .bool true, .int .i64 p]) ?_ rfl ⟨rfl, HB4⟩
      exact results_cell_row rfl _ _ gK 93 _ (0, 0) _ rfl K4 Tryd.underlying93 rfl (by kernel_rfl)

set_option maxHeartbeats 1600000 in
theorem see_same_any (E : Int → Addr) (w : World) (e : Er) (v : Value) (c q : Int) (pl : Bool) (hv : EV E w e v) (hE : ErrsAll E w) :
    Calls Tryd.prog 79 #[v, .agg #[.int .i64 c, .bool pl, .int .i64 q]] w fun e_ w' => e_ = .returned (.bool (sameF e.code e.placed e.pos c pl q)) ∧ Below w.heap.size w w' := by
  have HB := Below.refl w.heap.size w
  go_enter Tryd.func79, Tryd.ntmps79
  
  go_wp2_with ((with_reducible refine dst_gate (N := 3) rfl ?_); (refine box_ev 3 rfl ?hg #[.int .i64 c, .bool pl, .int .i64 q] 93 ?hr ?_); (case hg => first | rfl | (go_simp; done)); (case hr => (first | (go_simp; done) | (go_simp; rfl))); intro gK wK K hgK hb; have HB := below_step HB hb; replace hE := hE.mono hb; replace hv := hv.mono hb)
  have hE' : ErrsAll E wK.drew := hE.mono (Below.refl _ _).drew
  have hv' : EV E wK.drew e v := hv.mono (Below.refl _ _).drew
  have K' : Blk wK.drew gK #[.int .i64 c, .bool pl, .int .i64 q] 93 := K
  have k0 := K.cell 0 _ rfl
  have k1 := K.cell 1 _ rfl
  have k2 := K.cell 2 _ rfl
  go_region_with (first
    | (go_at_call 106; refine (fault_any E _ e v hv' hE').mono ?_; rintro e_ w2 ⟨rfl, hb2⟩; have K2 := K'.mono hb2; have k0 := K2.cell 0 _ rfl; have k1 := K2.cell 1 _ rfl; have k2 := K2.cell 2 _ rfl)
    | (go_at_call 105; refine (sameFault_any _ e.code e.pos c q e.placed pl).mono ?_; rintro e_ w3 ⟨rfl, hb3⟩))
  all_goals
    have HB3 := below_step (below_step HB.drew hb2) hb3
    go_wp2
    go_ret
    exact ⟨rfl, HB3⟩

theorem is_any (E : Int → Addr) (w : World) (e : Er) (v : Value) (c : Int) (hv : EV E w e v) (hE : ErrsAll E w) :
    Calls Tryd.prog 25 #[v, .int .i64 c] w fun e_ w' => e_ = .returned (.bool (sameF e.code e.placed e.pos c false 0)) ∧ Below w.heap.size w w' := by
  have HB := Below.refl w.heap.size w
  go_enter Tryd.func25, Tryd.ntmps25
  go_wp2_with (first | ((with_reducible refine callee_gate (f := 80) (N := 7) rfl rfl ?_); refine call_ev 7 rfl rfl ?hg Tryd.func80 (by kernel_rfl) rfl #[.int .i64 c] ?hargs (bare_any _ c) ?_; (case hg => first | rfl | (go_simp; done)); (case hargs => first | rfl | (simp; done) | (simp [Act.put, Act.eval]; done) | (go_simp; done)); rintro e_ w_ ⟨rfl, hb⟩; have HB := below_step HB hb; replace hE := hE.mono hb; replace hv := hv.mono hb; refine ⟨_, rfl, ?_⟩) | ((with_reducible refine callee_gate (f := 79) (N := 8) rfl rfl ?_); refine call_ev 8 rfl rfl ?hg Tryd.func79 (by kernel_rfl) rfl #[v, .agg #[.int .i64 c, .bool false, .int .i64 0]] ?hargs (see_same_any E _ e v c 0 false hv hE) ?_; (case hg => first | rfl | (go_simp; done)); (case hargs => first | rfl | (simp; done) | (simp [Act.put, Act.eval]; done) | (go_simp; done)); rintro e_ w_ ⟨rfl, hb⟩; have HB := below_step HB hb; replace hE := hE.mono hb; replace hv := hv.mono hb; refine ⟨_, rfl, ?_⟩))
  go_ret
  exact ⟨rfl, HB⟩
end Go.Proofs.YtcpfangcibilaaaDoor
