/- Errors as plain data (package lodgesee): which fault an error is, walked. No condition. -/
import Derived.Test.YtcpfangcibilaaaDoorBa
import Derived.LaidEql
import Derived.RegionCalls
import Derived.Deep.RegionWith
import Derived.Deep.QuietTactic
import Derived.BigQuiet
namespace Go.Proofs.YtcpfangcibilaaaDoor
set_option linter.unusedVariables false
set_option linter.unusedSimpArgs false
open Go.RowKit

/-- a store of a whole struct into a block of the call's own -/
theorem storeRow_ev {P : Program} {ops : Array Oper} {rest : List Oper} {o : Oper} {a : Act} {Q : Exit → Act → World → Prop} {W : World} (hg : Region.wanted o (yielded ops a.tmps) = true) (hd : o.dst = none) (ty : TypeId) (x y : Operand) (ho : o.op = .store ty x y)
    (g : Nat) (cells : Array Value) (hx : a.eval x = .pointer (some ⟨g, 0, none⟩)) (hy : a.eval y = .agg cells)
    (t : TypeId) (old : Array Value) (K : Blk W g old t) (hi : (P.info? ty).map (·.size) = some cells.size)
    (hold : old.size = cells.size) (h1 : cells.all (·.oneCell') = true) {B : Nat} {w0 : World} (HB : Below B w0 W) (hB : B ≤ g)
    (h : ∀ w1, Blk w1 g cells t → Below B w0 w1 → W.grownBy w1 (some g) → wpList P ops Q rest a w1) : wpList P ops Q (o :: rest) a W := by
  refine wpList_step fun K' hK => ?_
  rw [if_pos hg]
  refine wp_store_row ty x y ho g cells hx hy t old K hi hold h1 ?_
  rw [hd]
  have hgr : W.grownBy (W.setRow g cells) (some g) := ⟨rfl, rfl, rfl, by simp [World.setRow], fun k hk hne => by
    simp only [World.setRow, Array.getElem?_modify]
    rw [if_neg (fun e => hne (by rw [e]))]⟩
  refine hK _ _ (h _ ?_ (HB.trans ⟨hgr.os, hgr.tape, hgr.output, hgr.size, fun k hk => ?_⟩) hgr)
  · unfold Blk at K ⊢
    simp only [World.setRow, Array.getElem?_modify, if_true, K, Option.map_some]
  · simp only [World.setRow, Array.getElem?_modify]
    rw [if_neg (by omega)]

/-! ### faults -/
theorem none_any (w : World) : Calls Tryd.prog 109 #[] w fun e w' => e = .returned (.agg #[.int .i64 0, .bool false, .int .i64 0]) ∧ Below w.heap.size w w' := by
  have HB := Below.refl w.heap.size w
  go_enter Tryd.func109, Tryd.ntmps109
  
  go_wp2_with (first | ((with_reducible refine dst_gate (N := 0) rfl ?_); (refine box_ev 0 rfl ?hg #[.int .i64 0, .bool false, .int .i64 0] 93 ?hr ?_); (case hg => first | rfl | (go_simp; done)); (case hr => (first | (go_simp; done) | (go_simp; rfl))); intro gK wK K hgK hb; have HB := below_step HB hb) | ((with_reducible refine store_gate (p := 0) (t := 93) rfl ?_); refine storeRow_ev ?hg rfl 93 _ _ rfl gK (#[.int .i64 0, .bool false, .int .i64 0]) ?hx ?hy _ _ K (by kernel_rfl) rfl ?h1 HB ?hB ?_; (case h1 => first | (simp; done) | (simp [Value.oneCell']; done)); (case hg => first | rfl | (go_simp; done)); (case hx => first | rfl | (go_simp; done)); (case hy => first | rfl | (go_simp; done) | (simp [Act.put, Act.eval]; done)); (case hB => first | assumption | omega); intro w1 n0_ n1_ n2_; clear K HB; have K := n0_; have HB := n1_; have HG := Lib.hid n2_; clear n0_ n1_ n2_))
  refine bodyPost_ret (v := .agg #[.int .i64 0, .bool false, .int .i64 0]) ?_ rfl ⟨rfl, HB⟩
  exact results_cell_row rfl _ _ gK 93 _ (0, 0) _ rfl K Tryd.underlying93 rfl (by kernel_rfl)
theorem bare_any (w : World) (c : Int) : Calls Tryd.prog 80 #[.int .i64 c] w fun e w' => e = .returned (.agg #[.int .i64 c, .bool false, .int .i64 0]) ∧ Below w.heap.size w w' := by
  have HB := Below.refl w.heap.size w
  go_enter Tryd.func80, Tryd.ntmps80
  
  go_wp2_with (first | ((with_reducible refine dst_gate (N := 2) rfl ?_); (refine box_ev 2 rfl ?hg #[.int .i64 0, .bool false, .int .i64 0] 93 ?hr ?_); (case hg => first | rfl | (go_simp; done)); (case hr => (first | (go_simp; done) | (go_simp; rfl))); intro gK wK K hgK hb; have HB := below_step HB hb) | ((with_reducible refine store_gate (p := 2) (t := 93) rfl ?_); refine storeRow_ev ?hg rfl 93 _ _ rfl gK (#[.int .i64 c, .bool false, .int .i64 0]) ?hx ?hy _ _ K (by kernel_rfl) rfl ?h1 HB ?hB ?_; (case h1 => first | (simp; done) | (simp [Value.oneCell']; done)); (case hg => first | rfl | (go_simp; done)); (case hx => first | rfl | (go_simp; done)); (case hy => first | rfl | (go_simp; done) | (simp [Act.put, Act.eval]; done)); (case hB => first | assumption | omega); intro w1 n0_ n1_ n2_; clear K HB; have K := n0_; have HB := n1_; have HG := Lib.hid n2_; clear n0_ n1_ n2_))
  refine bodyPost_ret (v := .agg #[.int .i64 c, .bool false, .int .i64 0]) ?_ rfl ⟨rfl, HB⟩
  exact results_cell_row rfl _ _ gK 93 _ (0, 0) _ rfl K Tryd.underlying93 rfl (by kernel_rfl)

/-- Placed, of an error -/
theorem placed_any (w : World) (c p : Int) (hc : c ≠ 0) : Calls Tryd.prog 111 #[.int .i64 c, .int .i64 p] w fun e w' => e = .returned (.agg #[.int .i64 c, .bool true, .int .i64 p]) ∧ Below w.heap.size w w' := by
  have HB := Below.refl w.heap.size w
  have d : (c == 0) = false := by simpa using hc
  go_enter Tryd.func111, Tryd.ntmps111
  go_wp2_with (first | ((with_reducible refine dst_gate (N := 4) rfl ?_); (refine box_ev 4 rfl ?hg #[.int .i64 0, .bool false, .int .i64 0] 93 ?hr ?_); (case hg => first | rfl | (go_simp; done)); (case hr => (first | (go_simp; done) | (go_simp; rfl))); intro gK wK K hgK hb; have HB := below_step HB hb) | ((with_reducible refine store_gate (p := 4) (t := 93) rfl ?_); refine storeRow_ev ?hg rfl 93 _ _ rfl gK (#[.int .i64 c, .bool true, .int .i64 p]) ?hx ?hy _ _ K (by kernel_rfl) rfl ?h1 HB ?hB ?_; (case h1 => first | (simp; done) | (simp [Value.oneCell']; done)); (case hg => first | rfl | (go_simp; done)); (case hx => first | rfl | (go_simp; done)); (case hy => first | rfl | (go_simp; done) | (simp [Act.put, Act.eval]; done)); (case hB => first | assumption | omega); intro w1 n0_ n1_ n2_; clear K HB; have K := n0_; have HB := n1_; have HG := Lib.hid n2_; clear n0_ n1_ n2_))
  refine bodyPost_ret (v := .agg #[.int .i64 c, .bool true, .int .i64 p]) ?_ rfl ⟨rfl, HB⟩
  exact results_cell_row rfl _ _ gK 93 _ (0, 0) _ rfl K Tryd.underlying93 rfl (by kernel_rfl)

def sameF (c : Int) (p : Bool) (q : Int) (c' : Int) (p' : Bool) (q' : Int) : Bool := decide (c = c' ∧ p = p' ∧ q = q')
theorem sameFault_any (w : World) (c q c' q' : Int) (p p' : Bool) :
    Calls Tryd.prog 105 #[.agg #[.int .i64 c, .bool p, .int .i64 q], .agg #[.int .i64 c', .bool p', .int .i64 q']] w fun e w' => e = .returned (.bool (sameF c p q c' p' q')) ∧ Below w.heap.size w w' := by
  have HB := Below.refl w.heap.size w
  
  by_cases h1 : c = c'
  · have d1 : (c == c') = true := by simpa using h1
    have h1 := Lib.hid h1
    by_cases h2 : p = p'
    · have d2 : (p == p') = true := by simpa using h2
      have h2 := Lib.hid h2
      by_cases h3 : q = q'
      · have d3 : (q == q') = true := by simpa using h3
        have hr : sameF c p q c' p' q' = true := by simp [sameF, h1.out, h2.out, h3]
        have hr := Lib.hid hr
        have h3 := Lib.hid h3
        go_enter Tryd.func105, Tryd.ntmps105
        go_wp2_with (first | ((with_reducible refine dst_gate (N := 2) rfl ?_); (refine box_ev 2 rfl ?hg #[.int .i64 c, .bool p, .int .i64 q] 93 ?hr ?_); (case hg => first | rfl | (go_simp; done)); (case hr => (first | (go_simp; done) | (go_simp; rfl))); intro gK wK K hgK hb; have HB := below_step HB hb; have k0 := K.cell 0 _ rfl; have k1 := K.cell 1 _ rfl; have k2 := K.cell 2 _ rfl) | ((with_reducible refine dst_gate (N := 3) rfl ?_); (refine box_ev 3 rfl ?hg #[.int .i64 c', .bool p', .int .i64 q'] 93 ?hr ?_); (case hg => first | rfl | (go_simp; done)); (case hr => (first | (go_simp; done) | (go_simp; rfl))); intro gL wL L hgL hb; have HB := below_step HB hb; replace k0 := cell_mono k0 hb; replace k1 := cell_mono k1 hb; replace k2 := cell_mono k2 hb; have l0 := L.cell 0 _ rfl; have l1 := L.cell 1 _ rfl; have l2 := L.cell 2 _ rfl))
        go_ret
        exact ⟨by first | rfl | (rw [hr.out]; rfl) | (rw [hr.out]; simp [*]), HB⟩
      · have d3 : (q == q') = false := by simpa using h3
        have hr : sameF c p q c' p' q' = false := by simp [sameF, h3]
        have hr := Lib.hid hr
        go_enter Tryd.func105, Tryd.ntmps105
        go_wp2_with (first | ((with_reducible refine dst_gate (N := 2) rfl ?_); (refine box_ev 2 rfl ?hg #[.int .i64 c, .bool p, .int .i64 q] 93 ?hr ?_); (case hg => first | rfl | (go_simp; done)); (case hr => (first | (go_simp; done) | (go_simp; rfl))); intro gK wK K hgK hb; have HB := below_step HB hb; have k0 := K.cell 0 _ rfl; have k1 := K.cell 1 _ rfl; have k2 := K.cell 2 _ rfl) | ((with_reducible refine dst_gate (N := 3) rfl ?_); (refine box_ev 3 rfl ?hg #[.int .i64 c', .bool p', .int .i64 q'] 93 ?hr ?_); (case hg => first | rfl | (go_simp; done)); (case hr => (first | (go_simp; done) | (go_simp; rfl))); intro gL wL L hgL hb; have HB := below_step HB hb; replace k0 := cell_mono k0 hb; replace k1 := cell_mono k1 hb; replace k2 := cell_mono k2 hb; have l0 := L.cell 0 _ rfl; have l1 := L.cell 1 _ rfl; have l2 := L.cell 2 _ rfl))
        go_ret
        exact ⟨by first | rfl | (rw [hr.out]; rfl) | (rw [hr.out]; simp [*]), HB⟩
    · have d2 : (p == p') = false := by simpa using h2
      have hr : sameF c p q c' p' q' = false := by simp [sameF, h2]
      have hr := Lib.hid hr
      go_enter Tryd.func105, Tryd.ntmps105
      go_wp2_with (first | ((with_reducible refine dst_gate (N := 2) rfl ?_); (refine box_ev 2 rfl ?hg #[.int .i64 c, .bool p, .int .i64 q] 93 ?hr ?_); (case hg => first | rfl | (go_simp; done)); (case hr => (first | (go_simp; done) | (go_simp; rfl))); intro gK wK K hgK hb; have HB := below_step HB hb; have k0 := K.cell 0 _ rfl; have k1 := K.cell 1 _ rfl; have k2 := K.cell 2 _ rfl) | ((with_reducible refine dst_gate (N := 3) rfl ?_); (refine box_ev 3 rfl ?hg #[.int .i64 c', .bool p', .int .i64 q'] 93 ?hr ?_); (case hg => first | rfl | (go_simp; done)); (case hr => (first | (go_simp; done) | (go_simp; rfl))); intro gL wL L hgL hb; have HB := below_step HB hb; replace k0 := cell_mono k0 hb; replace k1 := cell_mono k1 hb; replace k2 := cell_mono k2 hb; have l0 := L.cell 0 _ rfl; have l1 := L.cell 1 _ rfl; have l2 := L.cell 2 _ rfl))
      go_ret
      exact ⟨by first | rfl | (rw [hr.out]; rfl) | (rw [hr.out]; simp [*]), HB⟩
  · have d1 : (c == c') = false := by simpa using h1
    have hr : sameF c p q c' p' q' = false := by simp [sameF, h1]
    have hr := Lib.hid hr
    go_enter Tryd.func105, Tryd.ntmps105
    go_wp2_with (first | ((with_reducible refine dst_gate (N := 2) rfl ?_); (refine box_ev 2 rfl ?hg #[.int .i64 c, .bool p, .int .i64 q] 93 ?hr ?_); (case hg => first | rfl | (go_simp; done)); (case hr => (first | (go_simp; done) | (go_simp; rfl))); intro gK wK K hgK hb; have HB := below_step HB hb; have k0 := K.cell 0 _ rfl; have k1 := K.cell 1 _ rfl; have k2 := K.cell 2 _ rfl) | ((with_reducible refine dst_gate (N := 3) rfl ?_); (refine box_ev 3 rfl ?hg #[.int .i64 c', .bool p', .int .i64 q'] 93 ?hr ?_); (case hg => first | rfl | (go_simp; done)); (case hr => (first | (go_simp; done) | (go_simp; rfl))); intro gL wL L hgL hb; have HB := below_step HB hb; replace k0 := cell_mono k0 hb; replace k1 := cell_mono k1 hb; replace k2 := cell_mono k2 hb; have l0 := L.cell 0 _ rfl; have l1 := L.cell 1 _ rfl; have l2 := L.cell 2 _ rfl))
    go_ret
    exact ⟨by first | rfl | (rw [hr.out]; rfl) | (rw [hr.out]; simp [*]), HB⟩

/-! ### all errors -/
def codeG (c : Int) : Nat := match c with | 101 => 5 | 102 => 0 | 103 => 6 | 104 => 3 | 105 => 2 | 106 => 7 | 107 => 8 | 108 => 9 | 109 => 10 | 110 => 11 | 111 => 12 | 112 => 13 | 113 => 14 | 114 => 15 | 115 => 16 | 116 => 17 | 117 => 18 | 118 => 19 | 119 => 20 | 120 => 21 | 121 => 22 | _ => 0
def codes : List Int := [101, 102, 103, 104, 105, 106, 107, 108, 109, 110, 111, 112, 113, 114, 115, 116, 117, 118, 119, 120, 121]
/-- All of api's errors, each another one. -/
structure ErrsAll (E : Int → Addr) (w : World) : Prop where
  cell : ∀ c, c ∈ codes → w.cell? ⟨codeG c, 0, none⟩ = some (.iface 119 (.pointer (some (E c))))
  inj : ∀ c c', c ∈ codes → c' ∈ codes → E c = E c' → c = c'
  blk : ∀ c, c ∈ codes → ∃ cs t, w.heap[(E c).block]? = some (.cells cs t (0, 0))
theorem ErrsAll.mono {E : Int → Addr} {w w' : World} (h : ErrsAll E w) (hb : Below w.heap.size w w') : ErrsAll E w' :=
  ⟨fun c hc => cell_mono (h.cell c hc) hb, h.inj, fun c hc => by
    obtain ⟨cs, t, hh⟩ := h.blk c hc
    exact ⟨cs, t, (hb.block _ (Array.getElem?_eq_some_iff.1 hh).1).trans hh⟩⟩
theorem codes_mem (c : Int) : c ∈ codes ↔ 101 ≤ c ∧ c ≤ 121 := by
  simp only [codes, List.mem_cons, List.mem_nil_iff, or_false]; omega

/-- An error as plain data. -/
inductive Er where
  | none
  | s (c : Int)
  | at_ (c p : Int)
def Er.code : Er → Int | .none => 0 | .s c => c | .at_ c _ => c
def Er.placed : Er → Bool | .at_ _ _ => true | _ => false
def Er.pos : Er → Int | .at_ _ p => p | _ => 0
/-- What an error is in memory. -/
def EV (E : Int → Addr) (w : World) : Er → Value → Prop
  | .none, v => v = .nilIface
  | .s c, v => c ∈ codes ∧ v = .iface 119 (.pointer (some (E c)))
  | .at_ c p, v => c ∈ codes ∧ ∃ b, v = .iface 108 (.pointer (some ⟨b, 0, none⟩)) ∧ w.cell? ⟨b, 0, none⟩ = some (.int .i64 p) ∧ w.cell? ⟨b, 1, none⟩ = some (.iface 119 (.pointer (some (E c))))
theorem EV.mono {E : Int → Addr} {w w' : World} {e : Er} {v : Value} (h : EV E w e v) (hb : Below w.heap.size w w') : EV E w' e v := by
  cases e with
  | none => exact h
  | s c => exact h
  | at_ c p =>
    obtain ⟨hc, b, hv, h1, h2⟩ := h
    exact ⟨hc, b, hv, cell_mono h1 hb, cell_mono h2 hb⟩

theorem infoErr : ∃ i, Tryd.prog.info? 119 = some i ∧ i.comparable = true := by
  have h : (Tryd.prog.info? 119).map (·.comparable) = some true := by kernel_rfl
  obtain ⟨i, h1, h2⟩ := Option.map_eq_some_iff.1 h
  exact ⟨i, h1, h2⟩
theorem infoErrS : ∃ i, Tryd.prog.info? 137 = some i ∧ i.size ≠ 0 := by
  have h : (Tryd.prog.info? 137).map (·.size) = some 1 := by kernel_rfl
  obtain ⟨i, h1, h2⟩ := Option.map_eq_some_iff.1 h
  exact ⟨i, h1, by omega⟩
theorem alike_any (E : Int → Addr) (w : World) (c c' : Int) (hc : c ∈ codes) (hc' : c' ∈ codes) (hE : ErrsAll E w) :
    Calls Tryd.prog 115 #[.iface 119 (.pointer (some (E c))), .iface 119 (.pointer (some (E c')))] w fun e w' => e = .returned (.bool (decide (c = c'))) ∧ w = w' := by
  have n1 : ∀ (a : Addr) (w : World), (binOp .eql 25 (.iface 119 (.pointer (some a))) .nilIface).run Tryd.prog w = .ok (.bool false) w := fun a w => by kernel_rfl
  have n2 : (binOp .eql 25 (.iface 119 (.pointer (some (E c)))) (.iface 119 (.pointer (some (E c'))))).run Tryd.prog w = .ok (.bool (decide (c = c'))) w := by
    by_cases h : c = c'
    · subst h
      rw [decide_eq_true rfl]
      obtain ⟨i, i1, i2⟩ := infoErr
      obtain ⟨j, j1, j2⟩ := infoErrS
      exact run_eql_iface_ptr_same w (E c) Tryd.underlying25 Tryd.underlying119 i1 i2 j1
    · rw [decide_eq_false h]
      obtain ⟨cs, t, hb⟩ := hE.blk c hc
      obtain ⟨cs', t', hb'⟩ := hE.blk c' hc'
      obtain ⟨i, i1, i2⟩ := infoErr
      obtain ⟨j, j1, j2⟩ := infoErrS
      exact run_eql_iface_ptr_other w Tryd.underlying25 Tryd.underlying119 i1 i2 j1 j2 (fun e => h (hE.inj c c' hc hc' e)) hb hb'
  go_enter Tryd.func115, Tryd.ntmps115
  go_wp2
  go_ret
  exact ⟨rfl, rfl⟩
def errVs (E : Int → Addr) : List Value := codes.map fun c => .iface 119 (.pointer (some (E c)))
set_option maxHeartbeats 800000 in
set_option maxRecDepth 100000 in
theorem sentinels_any (E : Int → Addr) (w : World) (hE : ErrsAll E w) :
    Calls Tryd.prog 114 #[] w fun e w' => ∃ g, e = .returned (.slice (some ⟨g, 0, none⟩) 21 21) ∧ Blk w' g (errVs E).toArray 25 ∧ Below w.heap.size w w' := by
  have HB := Below.refl w.heap.size w
  have cell := fun c hc => hE.cell c hc
  have c101 : w.cell? ⟨5, 0, none⟩ = some (.iface 119 (.pointer (some (E 101)))) := cell 101 (by decide)
  have c102 : w.cell? ⟨0, 0, none⟩ = some (.iface 119 (.pointer (some (E 102)))) := cell 102 (by decide)
  have c103 : w.cell? ⟨6, 0, none⟩ = some (.iface 119 (.pointer (some (E 103)))) := cell 103 (by decide)
  have c104 : w.cell? ⟨3, 0, none⟩ = some (.iface 119 (.pointer (some (E 104)))) := cell 104 (by decide)
  have c105 : w.cell? ⟨2, 0, none⟩ = some (.iface 119 (.pointer (some (E 105)))) := cell 105 (by decide)
  have c106 : w.cell? ⟨7, 0, none⟩ = some (.iface 119 (.pointer (some (E 106)))) := cell 106 (by decide)
  have c107 : w.cell? ⟨8, 0, none⟩ = some (.iface 119 (.pointer (some (E 107)))) := cell 107 (by decide)
  have c108 : w.cell? ⟨9, 0, none⟩ = some (.iface 119 (.pointer (some (E 108)))) := cell 108 (by decide)
  have c109 : w.cell? ⟨10, 0, none⟩ = some (.iface 119 (.pointer (some (E 109)))) := cell 109 (by decide)
  have c110 : w.cell? ⟨11, 0, none⟩ = some (.iface 119 (.pointer (some (E 110)))) := cell 110 (by decide)
  have c111 : w.cell? ⟨12, 0, none⟩ = some (.iface 119 (.pointer (some (E 111)))) := cell 111 (by decide)
  have c112 : w.cell? ⟨13, 0, none⟩ = some (.iface 119 (.pointer (some (E 112)))) := cell 112 (by decide)
  have c113 : w.cell? ⟨14, 0, none⟩ = some (.iface 119 (.pointer (some (E 113)))) := cell 113 (by decide)
  have c114 : w.cell? ⟨15, 0, none⟩ = some (.iface 119 (.pointer (some (E 114)))) := cell 114 (by decide)
  have c115 : w.cell? ⟨16, 0, none⟩ = some (.iface 119 (.pointer (some (E 115)))) := cell 115 (by decide)
  have c116 : w.cell? ⟨17, 0, none⟩ = some (.iface 119 (.pointer (some (E 116)))) := cell 116 (by decide)
  have c117 : w.cell? ⟨18, 0, none⟩ = some (.iface 119 (.pointer (some (E 117)))) := cell 117 (by decide)
  have c118 : w.cell? ⟨19, 0, none⟩ = some (.iface 119 (.pointer (some (E 118)))) := cell 118 (by decide)
  have c119 : w.cell? ⟨20, 0, none⟩ = some (.iface 119 (.pointer (some (E 119)))) := cell 119 (by decide)
  have c120 : w.cell? ⟨21, 0, none⟩ = some (.iface 119 (.pointer (some (E 120)))) := cell 120 (by decide)
  have c121 : w.cell? ⟨22, 0, none⟩ = some (.iface 119 (.pointer (some (E 121)))) := cell 121 (by decide)
  clear cell
  go_enter Tryd.func114, Tryd.ntmps114
  
  go_wp2_with ((with_reducible refine dst_gate (N := 22) rfl ?_); (refine lit_ev 22 rfl ?hg (errVs E).toArray 25 21 ?hr ?_); (case hg => first | rfl | (go_simp; done)); (case hr => (first | (go_simp; done) | (go_simp; rfl))); intro gK wK K hgK hb; have HB := below_step HB hb)
  go_ret
  exact ⟨gK, rfl, K, HB⟩

set_option maxHeartbeats 800000 in
theorem sentinel_any (E : Int → Addr) (w : World) (c : Int) (hc : c ∈ codes) (hE : ErrsAll E w) :
    Calls Tryd.prog 110 #[.iface 119 (.pointer (some (E c)))] w fun e w' => e = .returned (.int .i64 c) ∧ Below w.heap.size w w' := by
  have HB := Below.refl w.heap.size w
  have hcc := (codes_mem c).1 hc
  have cellK : ∀ (w1 : World) (g : Nat), Blk w1 g (errVs E).toArray 25 → ∀ k : Nat, k < 21 → w1.cell? ⟨g, k, none⟩ = some (.iface 119 (.pointer (some (E (101 + k))))) := by
    intro w1 g K k hk
    refine K.cell k _ ?_
    have : k = 0 ∨ k = 1 ∨ k = 2 ∨ k = 3 ∨ k = 4 ∨ k = 5 ∨ k = 6 ∨ k = 7 ∨ k = 8 ∨ k = 9 ∨ k = 10 ∨ k = 11 ∨ k = 12 ∨ k = 13 ∨ k = 14 ∨ k = 15 ∨ k = 16 ∨ k = 17 ∨ k = 18 ∨ k = 19 ∨ k = 20 := by omega
    rcases this with rfl | rfl | rfl | rfl | rfl | rfl | rfl | rfl | rfl | rfl | rfl | rfl | rfl | rfl | rfl | rfl | rfl | rfl | rfl | rfl | rfl <;> rfl
  have cellK := Aside.mk cellK
  
  go_enter Tryd.func110, Tryd.ntmps110
  go_wp2_with ((with_reducible refine callee_gate (f := 114) (N := 5) rfl rfl ?_); refine call_ev 5 rfl rfl ?hg Tryd.func114 (by kernel_rfl) rfl #[] ?hargs (sentinels_any E _ hE) ?_; (case hg => first | rfl | (go_simp; done)); (case hargs => first | rfl | (simp; done) | (simp [Act.put, Act.eval]; done) | (go_simp; done)); rintro e_ w_ ⟨g, rfl, K, hb⟩; have HB := below_step HB hb; replace hE := hE.mono hb; refine ⟨_, rfl, ?_⟩)
  go_loop [4] (fun i => ∃ k : Nat, i = .int .i64 k ∧ 101 + (k : Int) ≤ c) (fun i => 21 - (intOf i).toNat)
  case atStart => exact ⟨0, rfl, by omega⟩
  case round =>
    obtain ⟨k, rfl, hk⟩ := hrel
    have hk21 : k < 21 := by omega
    have ck := cellK.out _ _ K k hk21
    have hm : (101 + (k : Int)) ∈ codes := (codes_mem _).2 (by omega)
    by_cases h : c = 101 + (k : Int)
    · have hd : decide (c = 101 + (k : Int)) = true := by simpa using h
      have h := Lib.hid h
      go_wp2_with ((with_reducible refine callee_gate (f := 115) (N := 17) rfl rfl ?_); refine call_ev 17 rfl rfl ?hg Tryd.func115 (by kernel_rfl) rfl #[.iface 119 (.pointer (some (E c))), .iface 119 (.pointer (some (E (101 + (k : Int)))))] ?hargs (alike_any E _ c (101 + (k : Int)) hc hm hE) ?_; (case hg => first | rfl | (go_simp; done)); (case hargs => first | rfl | (simp; done) | (simp [Act.put, Act.eval]; done) | (go_simp; done)); rintro e_ w_ ⟨rfl, rfl⟩; refine ⟨_, rfl, ?_⟩; rw [hd])
      go_ret
      exact ⟨by first | rfl | (rw [h.out]; rfl), HB⟩
    · have hd : decide (c = 101 + (k : Int)) = false := by simpa using h
      have h := Lib.hid h
      go_wp2_with ((with_reducible refine callee_gate (f := 115) (N := 17) rfl rfl ?_); refine call_ev 17 rfl rfl ?hg Tryd.func115 (by kernel_rfl) rfl #[.iface 119 (.pointer (some (E c))), .iface 119 (.pointer (some (E (101 + (k : Int)))))] ?hargs (alike_any E _ c (101 + (k : Int)) hc hm hE) ?_; (case hg => first | rfl | (go_simp; done)); (case hargs => first | rfl | (simp; done) | (simp [Act.put, Act.eval]; done) | (go_simp; done)); rintro e_ w_ ⟨rfl, rfl⟩; refine ⟨_, rfl, ?_⟩; rw [hd])
      go_round
      case rel => exact ⟨k + 1, by go_num, by have := h.out; omega⟩
      case measure => simp [intOf]; omega
end Go.Proofs.YtcpfangcibilaaaDoor
