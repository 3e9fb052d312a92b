/- Chapter 6's laws: what is common: Wide, Narrow, first. No condition. -/
import Derived.Test.YtgifehmpgcenjaaDoorTh
namespace Go.Proofs.YtgifehmpgcenjaaDoor
set_option linter.unusedVariables false
set_option linter.unusedSimpArgs false
open Go.RowKit

def wideF (n : Int) : Int := (n + 2147483648) % 4294967296 - 2147483648
def narrowF (n : Int) : Int := if -128 < n then (if 127 < n then 127 else n) else -128
theorem wide_any (w : World) (n : Int) :
    Calls Tryd.prog 31 #[.int .i64 n] w fun e w' => e = .returned (.int .i64 (wideF n)) ∧ w = w' := by
  go_enter Tryd.func31, Tryd.ntmps31
  go_wp2
  go_ret
  refine ⟨?_, rfl⟩
  show Ending.returned (Value.int .i64 (wrap64 (wrap32 (IntKind.u64.wrap n % 4294967296)))) = _
  congr 2
  unfold wideF wrap64 wrap32
  rw [show IntKind.u64.wrap n = n % 18446744073709551616 by simp [IntKind.wrap, IntKind.bits, IntKind.signed]]
  omega
theorem narrow_any (w : World) (n : Int) :
    Calls Tryd.prog 32 #[.int .i64 n] w fun e w' => e = .returned (.int .i64 (narrowF n)) ∧ w = w' := by
  by_cases h1 : 127 < n
  · have hr : narrowF n = 127 := by unfold narrowF; rw [if_pos (by omega), if_pos h1]
    have hr := Lib.hid hr
    go_enter Tryd.func32, Tryd.ntmps32
    go_wp2
    go_ret
    exact ⟨by first | rfl | (rw [hr.out]; rfl), rfl⟩
  · by_cases h2 : -128 < n
    · have hr : narrowF n = n := by unfold narrowF; rw [if_pos h2, if_neg h1]
      have hr := Lib.hid hr
      go_enter Tryd.func32, Tryd.ntmps32
      go_wp2
      go_ret
      exact ⟨by first | rfl | (rw [hr.out]; rfl), rfl⟩
    · have hr : narrowF n = -128 := by unfold narrowF; rw [if_neg h2]
      have hr := Lib.hid hr
      go_enter Tryd.func32, Tryd.ntmps32
      go_wp2
      go_ret
      exact ⟨by first | rfl | (rw [hr.out]; rfl), rfl⟩

theorem SL.none {k : IntKind} {w : World} : SL k w none [] 0 := ⟨IL.nil, by simp [maxLen], fun _ => rfl⟩
set_option maxHeartbeats 800000 in
theorem first6_any (E : Int → Addr) (w : World) (hE : Errs3 E w) :
    Calls Tryd.prog 30 #[] w fun e w' => e = .returned (.bool true) ∧ Below w.heap.size w w' := by
  have HB := Below.refl w.heap.size w
  have n1 := nil_nil_eq
  have tv : tvalid [] [5] false = .none := by unfold tvalid; rw [if_neg (by decide), if_neg (by decide), if_neg (by decide)]
  have by5 : bytesL [] [5] false = [0, 5] := by decide
  have ds : decide (bytesL [] [5] false = [0, 5]) = true := by decide
  
  go_enter Tryd.func30, Tryd.ntmps30
  go_wp2_with (first | ((with_reducible refine dst_gate (N := 5) rfl ?_); (refine lit_ev 5 rfl ?hg #[.int .i64 5] 3 1 ?hr ?_); (case hg => first | rfl | (go_simp; done)); (case hr => (first | (go_simp; done) | (go_simp; rfl))); intro gL wL L hgL hb; have HB := below_step HB hb; replace hE := hE.mono hb; have S := Blk.sl (k := .i64) [5] L (by simp [maxLen])) | ((with_reducible refine callee_gate (f := 51) (N := 6) rfl rfl ?_); refine call_ev 6 rfl rfl ?hg Tryd.func51 (by kernel_rfl) rfl #[.agg #[.slice none 0 0, .bool false], .slice (some ⟨gL, 0, none⟩) 1 1] ?hargs (tnew_ok E _ none (some ⟨gL, 0, none⟩) [] [5] 0 1 false SL.none S (by simp) (by simp) hE tv) ?_; (case hg => first | rfl | (go_simp; done)); (case hargs => first | rfl | (simp; done) | (simp [Act.put, Act.eval]; done) | (go_simp; done)); rintro e_ w_ ⟨v1_, v2_, rfl, O1, O2, AP, hb⟩; obtain ⟨A8, c8, rfl, S8⟩ := O1.sl; obtain ⟨A9, c9, rfl, S9⟩ := O2.sl; clear O1 O2; have HB := below_step HB hb; replace hE := hE.mono hb; refine ⟨_, rfl, ?_⟩; have hsz := HB.size; have hE0 := hE) | ((with_reducible refine dst_gate (N := 1) rfl ?_); (refine box_ev 1 rfl ?hg #[.slice none 0 0, .bool false, .slice none 0 0] 49 ?hr ?_); (case hg => first | rfl | (go_simp; done)); (case hr => (first | (go_simp; done) | (go_simp; rfl))); intro gR wR R hgR hb; have HB := below_step HB hb; replace hE := hE.mono hb; have HX := hb; have hg0 := Nat.le_trans hsz hgR) | ((with_reducible refine store_gate (p := 1) (t := 49) rfl ?_); refine storeRow_ev ?hg rfl 49 _ _ rfl gR (#[.slice A8 0 c8, .bool false, .slice A9 1 c9]) ?hx ?hy _ _ R (by kernel_rfl) rfl ?h1 HB ?hB ?_; (case h1 => first | (simp; done) | (simp [Value.oneCell']; done)); (case hg => first | rfl | (go_simp; done)); (case hx => first | rfl | (go_simp; done)); (case hy => first | rfl | (go_simp; done) | (simp [Act.put, Act.eval]; done)); (case hB => first | assumption | omega); intro w1 n0_ n1_ n2_; clear R HB; have R := n0_; have HB := n1_; have HG := Lib.hid n2_; clear n0_ n1_ n2_; have k0 := R.cell 0 _ rfl; have k1 := R.cell 1 _ rfl; have k2 := R.cell 2 _ rfl; have HX := HX.grown HG.out HX.size (fun k hk => Option.some.inj hk ▸ hgR); replace S8 := S8.mono HX; replace S9 := S9.mono HX; replace hE := hE0.mono HX) | ((with_reducible refine callee_gate (f := 54) (N := 13) rfl rfl ?_); refine call_ev 13 rfl rfl ?hg Tryd.func54 (by kernel_rfl) rfl #[.agg #[.slice A8 0 c8, .bool false, .slice A9 1 c9]] ?hargs (bytes_ok E _ A8 A9 [] [5] c8 c9 false S8 S9 (by simp) (by simp) hE tv) ?_; (case hg => first | rfl | (go_simp; done)); (case hargs => first | rfl | (simp; done) | (simp [Act.put, Act.eval]; done) | (go_simp; done)); rintro e_ w_ ⟨v3_, rfl, O3, hb⟩; obtain ⟨A7, c7, rfl, S7⟩ := O3.sl; rw [by5] at S7; clear O3; have HB := below_step HB hb; replace hE := hE.mono hb; refine ⟨_, rfl, ?_⟩) | ((with_reducible refine dst_gate (N := 14) rfl ?_); (refine lit_ev 14 rfl ?hg #[.int .u8 0, .int .u8 5] 5 2 ?hr ?_); (case hg => first | rfl | (go_simp; done)); (case hr => (first | (go_simp; done) | (go_simp; rfl))); intro gZ wZ Z hgZ hb; have HB := below_step HB hb; replace hE := hE.mono hb; replace S7 := S7.mono hb; have SZ := Blk.sl (k := .u8) [0, 5] Z (by simp [maxLen])) | ((with_reducible refine callee_gate (f := 67) (N := 15) rfl rfl ?_); refine call_ev 15 rfl rfl ?hg Tryd.func67 (by kernel_rfl) rfl #[.slice A7 2 c7, .slice (some ⟨gZ, 0, none⟩) 2 2] ?hargs (sameBytes_any _ A7 _ [0, 5] [0, 5] c7 2 2 2 rfl rfl S7.il SZ.il (by simp [maxLen]) (by simp [maxLen])) ?_; (case hg => first | rfl | (go_simp; done)); (case hargs => first | rfl | (simp; done) | (simp [Act.put, Act.eval]; done) | (go_simp; done)); rintro e_ w_ ⟨rfl, hb⟩; have HB := below_step HB hb; replace hE := hE.mono hb; refine ⟨_, rfl, ?_⟩))
  go_ret
  exact ⟨rfl, HB⟩
end Go.Proofs.YtgifehmpgcenjaaDoor
