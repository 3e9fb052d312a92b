/- Package tens: Put, Raw, walked. No condition but sizes that any memory has. -/
import Derived.Test.YtgifehmpgcenjaaDoorTf
namespace Go.Proofs.YtgifehmpgcenjaaDoor
set_option linter.unusedVariables false
set_option linter.unusedSimpArgs false
open Go.RowKit

theorem Blk.sl {w : World} {g : Nat} {t : TypeId} {k : IntKind} (l : List Int) (h : Blk w g (l.map (Value.int k)).toArray t) (hm : l.length ≤ maxLen) : SL k w (some ⟨g, 0, none⟩) l l.length := ⟨h.il, hm, fun e => by cases e⟩
theorem Blk.monoB {w w' : World} {B g : Nat} {cs : Array Value} {t : TypeId} (h : Blk w g cs t) (hb : Below B w w') (hg : g < B) : Blk w' g cs t := (hb.block g hg).trans h

def putL (n : Int) (wide : Bool) : List Int := if wide then [n % 256, n / 256 % 256, n / 65536 % 256, n / 16777216 % 256] else [n % 256]
def rawL (d : List Int) (wide : Bool) : List Int := d.flatMap (putL · wide)
theorem rawL_take (d : List Int) (wide : Bool) (k : Nat) (h : k < d.length) : rawL (d.take (k + 1)) wide = rawL (d.take k) wide ++ putL (ix d k) wide := by
  rw [take_succ_ix d k h]; simp [rawL]
theorem putL_len (n : Int) (wide : Bool) : (putL n wide).length ≤ 4 := by unfold putL; split <;> simp
theorem rawL_len (d : List Int) (wide : Bool) : (rawL d wide).length ≤ 4 * d.length := by
  induction d with
  | nil => simp [rawL]
  | cons x d ih =>
    have := putL_len x wide
    simp only [rawL, List.flatMap_cons, List.length_append, List.length_cons] at ih ⊢
    omega

set_option maxHeartbeats 400000 in
theorem put_any (w : World) (n : Int) (wide : Bool) (v : Value) (xs : List Int) (base : Nat) (hbase : base ≤ w.heap.size) (h : Own w base 5 v (xs.map (.int .u8))) (hm : xs.length ≤ 5000000) :
    Calls Tryd.prog 95 #[v, .int .i64 n, .bool wide] w fun e w' => ∃ v', e = .returned v' ∧ Own w' base 5 v' ((xs ++ putL n wide).map (.int .u8)) ∧ Below base w w' := by
  have HB := Below.refl w.heap.size w
  
  cases wide with
  | true =>
    go_enter Tryd.func95, Tryd.ntmps95
    go_wp2_with (first | ((with_reducible refine dst_gate (N := 20) rfl ?_); (refine lit_ev 20 rfl ?hg #[.int .u8 (n % 256), .int .u8 (n / 256 % 256), .int .u8 (n / 65536 % 256), .int .u8 (n / 16777216 % 256)] 5 4 ?hr ?_); (case hg => first | rfl | (go_simp; done)); (case hr => (first | (go_simp; done) | (go_simp; rfl))); intro gK wK K hgK hb; have HB := below_step HB hb; replace h := h.mono hb; have S := Blk.sl (k := .u8) [n % 256, n / 256 % 256, n / 65536 % 256, n / 16777216 % 256] K (by simp [maxLen]); have HB := HB.mono hbase; have hsz := Nat.le_trans hbase HB.size) | ((with_reducible refine dst_gate (N := 21) rfl ?_); refine appN_ev 21 rfl rfl 76 5 _ _ rfl (.int .u8 0) 1 Tryd.underlying76 (by kernel_rfl) rfl (rfl) rfl rfl S h ?hn1 ?hn2 HB ?hB1 ?hW1 ?_; (case hn1 => simp; omega); (case hn2 => simp; omega); (case hB1 => first | exact Nat.le_refl _ | omega); (case hW1 => first | exact HB.size | assumption | omega); intro v1 w1 n0_ n1_ n2_; clear h HB; have h := n0_; have HB := n1_; have HG := Lib.hid n2_; clear n0_ n1_ n2_))
    go_ret
    exact ⟨_, rfl, by simpa [putL] using h, HB⟩
  | false =>
    go_enter Tryd.func95, Tryd.ntmps95
    go_wp2_with (first | ((with_reducible refine dst_gate (N := 25) rfl ?_); (refine lit_ev 25 rfl ?hg #[.int .u8 (n % 256)] 5 1 ?hr ?_); (case hg => first | rfl | (go_simp; done)); (case hr => (first | (go_simp; done) | (go_simp; rfl))); intro gK wK K hgK hb; have HB := below_step HB hb; replace h := h.mono hb; have S := Blk.sl (k := .u8) [n % 256] K (by simp [maxLen]); have HB := HB.mono hbase; have hsz := Nat.le_trans hbase HB.size) | ((with_reducible refine dst_gate (N := 26) rfl ?_); refine appN_ev 26 rfl rfl 76 5 _ _ rfl (.int .u8 0) 1 Tryd.underlying76 (by kernel_rfl) rfl (rfl) rfl rfl S h ?hn1 ?hn2 HB ?hB1 ?hW1 ?_; (case hn1 => simp; omega); (case hn2 => simp; omega); (case hB1 => first | exact Nat.le_refl _ | omega); (case hW1 => first | exact HB.size | assumption | omega); intro v1 w1 n0_ n1_ n2_; clear h HB; have h := n0_; have HB := n1_; have HG := Lib.hid n2_; clear n0_ n1_ n2_))
    go_ret
    exact ⟨_, rfl, by simpa [putL] using h, HB⟩

set_option maxHeartbeats 1600000 in
theorem raw_ok (E : Int → Addr) (w : World) (A A' : Option Addr) (s d : List Int) (c c' : Nat) (wide : Bool) (h1 : SL .i64 w A s c) (h2 : SL .i64 w A' d c') (hm : s.length ≤ 1000000) (hm' : d.length ≤ 1000000) (hE : Errs3 E w) (hv : tvalid s d wide = .none) :
    Calls Tryd.prog 53 #[.agg #[.slice A s.length c, .bool wide, .slice A' d.length c']] w fun e w' => ∃ v, e = .returned v ∧ Own w' w.heap.size 5 v ((rawL d wide).map (.int .u8)) ∧ Below w.heap.size w w' := by
  have HB := Below.refl w.heap.size w
  have n2 := nil_nil_neq
  have hv := Aside.mk hv
  have h2_ := h2
  obtain ⟨b1, b2⟩ := elemsL_bounds s
  obtain ⟨N, hN⟩ : ∃ N : Nat, sizeL s wide = (N : Int) := ⟨(sizeL s wide).toNat, by unfold sizeL; split <;> omega⟩
  have hN2 : N ≤ 65536 := by unfold sizeL at hN; split at hN <;> omega
  have hN := Aside.mk hN
  
  go_enter Tryd.func53, Tryd.ntmps53
  go_wp2_with (first | ((with_reducible refine dst_gate (N := 1) rfl ?_); (refine box_ev 1 rfl ?hg #[.slice A s.length c, .bool wide, .slice A' d.length c'] 49 ?hr ?_); (case hg => first | rfl | (go_simp; done)); (case hr => (first | (go_simp; done) | (go_simp; rfl))); intro gK wK K hgK hb; have HB := below_step HB hb; replace h1 := h1.mono hb; replace h2 := h2.mono hb; replace hE := hE.mono hb; have k0 := K.cell 0 _ rfl; have k1 := K.cell 1 _ rfl; have k2 := K.cell 2 _ rfl) | ((with_reducible refine callee_gate (f := 55) (N := 7) rfl rfl ?_); refine call_ev 7 rfl rfl ?hg Tryd.func55 (by kernel_rfl) rfl #[.agg #[.slice A s.length c, .bool wide, .slice A' d.length c']] ?hargs (tvalid_any E _ A A' s d c c' wide h1.il h2.il h1.len h2.len hE) ?_; (case hg => first | rfl | (go_simp; done)); (case hargs => first | rfl | (simp; done) | (simp [Act.put, Act.eval]; done) | (go_simp; done)); rintro e_ w_ ⟨v_, rfl, hv_, hb⟩; rw [hv.out] at hv_; obtain rfl := hv_; have HB := below_step HB hb; replace h1 := h1.mono hb; replace h2 := h2.mono hb; replace hE := hE.mono hb; refine ⟨_, rfl, ?_⟩; replace K := K.mono hb; have k0 := K.cell 0 _ rfl; have k1 := K.cell 1 _ rfl; have k2 := K.cell 2 _ rfl) | ((with_reducible refine callee_gate (f := 71) (N := 11) rfl rfl ?_); refine call_ev 11 rfl rfl ?hg Tryd.func71 (by kernel_rfl) rfl #[.agg #[.slice A s.length c, .bool wide]] ?hargs (shBytes_any E _ A s c wide h1.il h1.len hE.e) ?_; (case hg => first | rfl | (go_simp; done)); (case hargs => first | rfl | (simp; done) | (simp [Act.put, Act.eval]; done) | (go_simp; done)); rintro e_ w_ ⟨rfl, hb⟩; have HB := below_step HB hb; replace h1 := h1.mono hb; replace h2 := h2.mono hb; replace hE := hE.mono hb; refine ⟨_, rfl, ?_⟩; rw [hN.out]; replace K := K.mono hb; have ltK := K.lt; have hszW := HB.size) | ((with_reducible refine dst_gate (N := 12) rfl ?_); refine make0_ev 12 rfl rfl 76 5 _ _ rfl (.int .u8 0) 1 Tryd.underlying76 (by kernel_rfl) (N : Int) N rfl rfl ?hC ?hbb ?hnn w_.heap.size ?hBB ?_; (case hC => first | rfl | omega); (case hbb => omega); (case hnn => omega); (case hBB => first | omega | exact HB.size); intro gV wV V hV hb; have HB := below_step HB hb; replace h1 := h1.mono hb; replace h2 := h2.mono hb; replace hE := hE.mono hb; replace K := K.mono hb; have k0 := K.cell 0 _ rfl; have k1 := K.cell 1 _ rfl; have k2 := K.cell 2 _ rfl; have szB := Nat.le_trans HB.size (Nat.le_refl _); have hb0 := hb.size))
  have hbw : w.heap.size ≤ w_.heap.size := by
    exact hszW
  clear hN hv
  go_loopw [3, 5, 16] (fun v _ i w' => ∃ k : Nat, k ≤ d.length ∧ i = .int .i64 k ∧ Own w' w_.heap.size 5 v ((rawL (d.take k) wide).map (.int .u8)) ∧ Below w.heap.size w w' ∧ Below w_.heap.size wV w') (fun _ _ i _ => d.length - (intOf i).toNat)
  case atStart => exact ⟨0, Nat.zero_le _, rfl, V, HB, Below.refl _ _⟩
  case round =>
    obtain ⟨k, hk, rfl, V, HB, HM⟩ := hrel
    replace K := K.monoB HM ltK
    clear h1 h2 hE
    have k0 := K.cell 0 _ rfl
    have k1 := K.cell 1 _ rfl
    have k2 := K.cell 2 _ rfl
    by_cases hk : k < d.length
    · obtain ⟨b, o, rfl, hc⟩ := (h2_.mono HB).il (by omega)
      have hck := hc k hk
      have hc := Aside.mk hc
      clear h2_
      have b1 : (k : Int) < (d.length : Int) := by omega
      have hlen : (rawL (d.take k) wide).length ≤ 5000000 := by
        have := rawL_len (d.take k) wide
        rw [List.length_take] at this
        omega
      have hs := Lib.hid (rawL_take d wide k hk)
      have hbase : w_.heap.size ≤ wr.heap.size := Nat.le_trans hb0 HM.size
      
      go_wp2_with ((with_reducible refine callee_gate (f := 95) (N := 25) rfl rfl ?_); refine call_ev 25 rfl rfl ?hg Tryd.func95 (by kernel_rfl) rfl #[_, .int .i64 (ix d k), .bool wide] ?hargs (put_any _ (ix d k) wide _ _ w_.heap.size hbase V hlen) ?_; (case hg => first | rfl | (go_simp; done)); (case hargs => first | rfl | (simp; done) | (simp [Act.put, Act.eval]; done) | (go_simp; done)); rintro e_ w_ ⟨v_, rfl, V, hb⟩; refine ⟨_, rfl, ?_⟩; have HB := HB.trans (hb.mono hbw); have HM := HM.trans hb)
      go_roundw
      case rel => exact ⟨k + 1, by omega, by go_num, by rw [hs.out]; exact V, HB, HM⟩
      case measure => simp [intOf]; omega
    · obtain rfl : k = d.length := by omega
      rw [List.take_length] at V
      clear h2_
      go_wp2
      go_ret
      exact ⟨_, rfl, V.lower hbw, HB⟩
end Go.Proofs.YtgifehmpgcenjaaDoor
