/- The document's constants; a copy of words; Rounds. No condition. -/
import Derived.Test.YthlipmehnkhijaaDoorHj
namespace Go.Proofs.YthlipmehnkhijaaDoor
set_option linter.unusedVariables false
set_option linter.unusedSimpArgs false
open Go.RowKit

set_option maxRecDepth 100000 in
theorem begin_any (w : World) : Calls Tryd.prog 54 #[] w fun e w' => ∃ A, e = .returned (.slice (some ⟨A, 0, none⟩) 8 8) ∧ St w w' [.own (some ⟨A, 0, none⟩) (HS.map (.int .u32)) 8 40] := by
  have H := St.start w
  go_enter Tryd.func54, Tryd.ntmps54
  go_wp2_with (first | ((with_reducible refine wpGate ?_); first | (refine sLitN H ?_ ?_ ?_ ?_ ?Zo ?_ ?Zd ?Zg ?Zt ?_ ?_ ?Zi ?_ ?Zv ?Zvs ?Zn ?Z1 ?Z0 ?Zm ?_; (case Zo => rfl); (case Zd => rfl); (case Zt => exact Tun.out); (case Zi => exact Tzi.out); (case Zg => (first | rfl | (go_simp; done) | fail)); (case Zv => (go_simp; rfl)); (case Zvs => rfl); (case Zn => rfl); (case Z1 => first | rfl | (simp [Value.cells, Value.oneCell']; done) | fail); (case Z0 => decide); (case Zm => decide); intro g_ w_ HN; clear H; have H := HN; clear HN; try simp only [q_1, q_2, q_3, q_4]) | (refine sLit H ?_ ?_ ?_ ?_ ?Zo ?_ ?Zd ?Zg ?_ ?Zlen ?Zm ?Zrun ?_; (case Zo => rfl); (case Zd => rfl); (case Zg => (first | rfl | (go_simp; done) | fail)); (case Zrun => first | (go_simp; done) | (go_simp; rfl)); (case Zlen => rfl); (case Zm => first | (simp [maxLen]; done) | (unfold maxLen; omega)); intro g_ w_ HN; clear H; have H := HN; clear HN; try simp only [q_1, q_2, q_3, q_4])))
  (go_ret; exact ⟨_, rfl, H⟩)
set_option maxRecDepth 100000 in
set_option maxHeartbeats 1600000 in
theorem refRounds_any (w : World) : Calls Tryd.prog 53 #[] w fun e w' => ∃ A, e = .returned (.slice (some ⟨A, 0, none⟩) 64 64) ∧ St w w' [.own (some ⟨A, 0, none⟩) (KS.map (.int .u32)) 64 40] := by
  have H := St.start w
  go_enter Tryd.func53, Tryd.ntmps53
  go_wp2_with (first | ((with_reducible refine wpGate ?_); first | (refine sLitN H ?_ ?_ ?_ ?_ ?Zo ?_ ?Zd ?Zg ?Zt ?_ ?_ ?Zi ?_ ?Zv ?Zvs ?Zn ?Z1 ?Z0 ?Zm ?_; (case Zo => rfl); (case Zd => rfl); (case Zt => exact Tun.out); (case Zi => exact Tzi.out); (case Zg => (first | rfl | (go_simp; done) | fail)); (case Zv => (go_simp; rfl)); (case Zvs => rfl); (case Zn => rfl); (case Z1 => first | rfl | (simp [Value.cells, Value.oneCell']; done) | fail); (case Z0 => decide); (case Zm => decide); intro g_ w_ HN; clear H; have H := HN; clear HN; try simp only [q_1, q_2, q_3, q_4]) | (refine sLit H ?_ ?_ ?_ ?_ ?Zo ?_ ?Zd ?Zg ?_ ?Zlen ?Zm ?Zrun ?_; (case Zo => rfl); (case Zd => rfl); (case Zg => (first | rfl | (go_simp; done) | fail)); (case Zrun => first | (go_simp; done) | (go_simp; rfl)); (case Zlen => rfl); (case Zm => first | (simp [maxLen]; done) | (unfold maxLen; omega)); intro g_ w_ HN; clear H; have H := HN; clear HN; try simp only [q_1, q_2, q_3, q_4])))
  (go_ret; exact ⟨_, rfl, H⟩)
end Go.Proofs.YthlipmehnkhijaaDoor
