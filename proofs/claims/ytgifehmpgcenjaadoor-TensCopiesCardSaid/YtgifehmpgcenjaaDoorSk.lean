/- Copies of lists of whole numbers, walked. No condition but sizes that any memory has. -/
import Derived.Test.YtgifehmpgcenjaaDoorSj
namespace Go.Proofs.YtgifehmpgcenjaaDoor
set_option linter.unusedVariables false
set_option linter.unusedSimpArgs false
open Go.RowKit

theorem map_take_succ (k : IntKind) (l : List Int) (i : Nat) (h : i < l.length) : (l.take (i + 1)).map (Value.int k) = (l.take i).map (Value.int k) ++ [Value.int k (ix l i)] := by
  rw [take_succ_ix l i h]; simp

set_option maxHeartbeats 800000 in
set_option maxRecDepth 100000 in
theorem ints_any (w : World) (A : Option Addr) (l : List Int) (c : Nat) (h : IL .i64 w A l) (hm : l.length ≤ 1000000000) :
    Calls Tryd.prog 24 #[.slice A l.length c] w fun e w' => ∃ v, e = .returned v ∧ Own w' w.heap.size 3 v (l.map (.int .i64)) ∧ Below w.heap.size w w' := by
  have HB := Below.refl w.heap.size w
  
  go_enter Tryd.func24, Tryd.ntmps24
  go_wp2_with ((with_reducible refine dst_gate (N := 7) rfl ?_); refine make0_ev 7 rfl rfl 24 3 _ _ rfl (.int .i64 0) 8 Tryd.underlying24 (by kernel_rfl) (l.length : Int) l.length rfl rfl ?hC ?hbb ?hnn w.heap.size ?hBB ?_; (case hC => first | rfl | omega); (case hbb => omega); (case hnn => omega); (case hBB => first | omega | exact HB.size); intro gV wV V hV hb; have HB := below_step HB hb)
  go_loopw [3, 4] (fun v i w' => ∃ k : Nat, k ≤ l.length ∧ i = .int .i64 k ∧ Own w' w.heap.size 3 v ((l.take k).map (.int .i64)) ∧ Below w.heap.size w w') (fun _ i _ => l.length - (intOf i).toNat)
  case atStart => exact ⟨0, Nat.zero_le _, rfl, V, HB⟩
  case round =>
    obtain ⟨k, hk, rfl, V, HB⟩ := hrel
    by_cases hk : k < l.length
    · obtain ⟨b, o, rfl, hc⟩ := (h.mono HB) (by omega)
      have hck := hc k hk
      have hc := Aside.mk hc
      have hs := Lib.hid (map_take_succ .i64 l k hk)
      clear h
      
      go_wp2_with (first | ((with_reducible refine dst_gate (N := 19) rfl ?_); (refine lit_ev 19 rfl ?hg #[.int .i64 (ix l k)] 3 1 ?hr ?_); (case hg => first | rfl | (go_simp; done)); (case hr => (first | (go_simp; done) | (go_simp; rfl))); intro gL wL L hgL hb; have HB := below_step HB hb; replace V := V.mono hb) | ((with_reducible refine dst_gate (N := 20) rfl ?_); refine app1_ev 20 rfl rfl 24 3 _ _ rfl (.int .i64 0) 8 Tryd.underlying24 (by kernel_rfl) rfl rfl rfl L rfl V ?hn1 ?hn2 HB ?hB1 ?hW1 ?_; (case hn1 => simp; omega); (case hn2 => simp; omega); (case hB1 => first | exact Nat.le_refl _ | omega); (case hW1 => first | exact HB.size | omega); intro v1 w1 n0_ n1_ n2_; clear V HB; have V := n0_; have HB := n1_; have HG := Lib.hid n2_; clear n0_ n1_ n2_))
      go_roundw
      case rel => exact ⟨k + 1, by omega, by go_num, by rw [hs.out]; exact V, HB⟩
      case measure => simp [intOf]; omega
    · obtain rfl : k = l.length := by omega
      rw [List.take_length] at V
      go_wp2
      go_ret
      exact ⟨_, rfl, V, HB⟩
end Go.Proofs.YtgifehmpgcenjaaDoor
