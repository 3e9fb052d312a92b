/- The document's constants; a copy of words; Rounds. No condition. -/
import Derived.Test.YthlipmehnkhijaaDoorHj
namespace Go.Proofs.YthlipmehnkhijaaDoor
set_option linter.unusedVariables false
set_option linter.unusedSimpArgs false
open Go.RowKit

set_option maxRecDepth 100000 in
theorem begin_any (w : World) : Calls Tryd.prog 54 #[] w fun e w' => ∃ A, e = .returned (.slice (some ⟨A, 0, none⟩) 8 8) ∧ St w w' [.own (some ⟨A, 0, none⟩) (HS.map (.int .u32)) 8 40] := by
  have H := St.start w
  go_enter Tryd.func54, Tryd.ntmps54
  go_wp2_with (first | ((with_reducible refine wpGate ?_); first | (refine sLitN H ?_ ?_ ?_ ?_ ?zho ?_ ?zhd ?zhg ?zht ?_ ?_ ?zhi ?_ ?zhv ?zhvs ?zhn ?zh1 ?zh0 ?zhm ?_; (case zho => rfl); (case zhd => rfl); (case zht => exact Tun.out); (case zhi => exact Tzi.out); (case zhg => (first | rfl | (go_simp; done) | fail)); (case zhv => (go_simp; rfl)); (case zhvs => rfl); (case zhn => rfl); (case zh1 => first | rfl | (simp [Value.cells, Value.oneCell']; done) | fail); (case zh0 => decide); (case zhm => decide); intro g_ w_ HN; clear H; have H := HN; clear HN; try simp only [Act.put, List.setIfInBounds_toArray, List.set_cons_zero, List.set_cons_succ]) | (refine sLit H ?_ ?_ ?_ ?_ ?zho ?_ ?zhd ?zhg ?_ ?zhlen ?zhm ?zhrun ?_; (case zho => rfl); (case zhd => rfl); (case zhg => (first | rfl | (go_simp; done) | fail)); (case zhrun => first | (go_simp; done) | (go_simp; rfl)); (case zhlen => rfl); (case zhm => first | (simp [maxLen]; done) | (unfold maxLen; omega)); intro g_ w_ HN; clear H; have H := HN; clear HN; try simp only [Act.put, List.setIfInBounds_toArray, List.set_cons_zero, List.set_cons_succ])))
  (go_ret; exact ⟨_, rfl, H⟩)
set_option maxRecDepth 100000 in
set_option maxHeartbeats 1600000 in
theorem refRounds_any (w : World) : Calls Tryd.prog 53 #[] w fun e w' => ∃ A, e = .returned (.slice (some ⟨A, 0, none⟩) 64 64) ∧ St w w' [.own (some ⟨A, 0, none⟩) (KS.map (.int .u32)) 64 40] := by
  have H := St.start w
  go_enter Tryd.func53, Tryd.ntmps53
  go_wp2_with (first | ((with_reducible refine wpGate ?_); first | (refine sLitN H ?_ ?_ ?_ ?_ ?zho ?_ ?zhd ?zhg ?zht ?_ ?_ ?zhi ?_ ?zhv ?zhvs ?zhn ?zh1 ?zh0 ?zhm ?_; (case zho => rfl); (case zhd => rfl); (case zht => exact Tun.out); (case zhi => exact Tzi.out); (case zhg => (first | rfl | (go_simp; done) | fail)); (case zhv => (go_simp; rfl)); (case zhvs => rfl); (case zhn => rfl); (case zh1 => first | rfl | (simp [Value.cells, Value.oneCell']; done) | fail); (case zh0 => decide); (case zhm => decide); intro g_ w_ HN; clear H; have H := HN; clear HN; try simp only [Act.put, List.setIfInBounds_toArray, List.set_cons_zero, List.set_cons_succ]) | (refine sLit H ?_ ?_ ?_ ?_ ?zho ?_ ?zhd ?zhg ?_ ?zhlen ?zhm ?zhrun ?_; (case zho => rfl); (case zhd => rfl); (case zhg => (first | rfl | (go_simp; done) | fail)); (case zhrun => first | (go_simp; done) | (go_simp; rfl)); (case zhlen => rfl); (case zhm => first | (simp [maxLen]; done) | (unfold maxLen; omega)); intro g_ w_ HN; clear H; have H := HN; clear HN; try simp only [Act.put, List.setIfInBounds_toArray, List.set_cons_zero, List.set_cons_succ])))
  (go_ret; exact ⟨_, rfl, H⟩)
end Go.Proofs.YthlipmehnkhijaaDoor
