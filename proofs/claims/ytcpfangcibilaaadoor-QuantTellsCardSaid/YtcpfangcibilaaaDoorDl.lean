/- QuantFixed: Fixed out of its range, the document's Fixed, walked. No condition but the errors' places. -/
import Derived.Test.YtcpfangcibilaaaDoorDk
import Derived.Test.YtcpfangcibilaaaDoorDd
namespace Go.Proofs.YtcpfangcibilaaaDoor
set_option linter.unusedVariables false
set_option linter.unusedSimpArgs false
open Go.RowKit

/-- Out of Fixed's range. -/
def OutF (x : Nat) : Prop := isn x = true ∨ (isn x = false ∧ (sr x < 4472074429978902528 ∨ 4742290407621132288 < sr x))
theorem out_tests {x : Nat} (h : OutF x) : (FloatKind.f64.format.order x 4472074429978902528 == some .gt || FloatKind.f64.format.order x 4472074429978902528 == some .eq) = false ∨ ((FloatKind.f64.format.order x 4472074429978902528 == some .gt || FloatKind.f64.format.order x 4472074429978902528 == some .eq) = true ∧ (FloatKind.f64.format.order x 4742290407621132288 == some .lt || FloatKind.f64.format.order x 4742290407621132288 == some .eq) = false) := by
  have a : (FloatKind.f64.format.order x 4472074429978902528 == some .gt) = (!isn x && !isn 4472074429978902528 && decide (sr 4472074429978902528 < sr x)) := gt_eq x 4472074429978902528
  have b : (FloatKind.f64.format.order x 4472074429978902528 == some .eq) = (!isn x && !isn 4472074429978902528 && decide (sr x = sr 4472074429978902528)) := eq_eq x 4472074429978902528
  have c : (FloatKind.f64.format.order x 4742290407621132288 == some .lt) = (!isn x && !isn 4742290407621132288 && decide (sr x < sr 4742290407621132288)) := lt_eq x 4742290407621132288
  have d : (FloatKind.f64.format.order x 4742290407621132288 == some .eq) = (!isn x && !isn 4742290407621132288 && decide (sr x = sr 4742290407621132288)) := eq_eq x 4742290407621132288
  rw [show isn 4472074429978902528 = false by decide, show sr 4472074429978902528 = 4472074429978902528 by decide] at a b
  rw [show isn 4742290407621132288 = false by decide, show sr 4742290407621132288 = 4742290407621132288 by decide] at c d
  rw [a, b, c, d]
  rcases h with h | ⟨h, h2⟩
  · left; rw [h]; rfl
  · rw [h]
    by_cases h3 : sr x < 4472074429978902528
    · left; rw [decide_eq_false (by omega), decide_eq_false (by omega)]; rfl
    · right
      refine ⟨?_, ?_⟩
      · by_cases h4 : sr x = 4472074429978902528
        · rw [decide_eq_true h4]; simp
        · rw [decide_eq_true (show (4472074429978902528 : Int) < sr x by omega)]; rfl
      · rw [decide_eq_false (by omega), decide_eq_false (by omega)]; rfl
set_option maxHeartbeats 800000 in
theorem fixed_out (E : Int → Addr) (w0 w : World) (L : List Ent) (hE : ErrsAll E w0) (x : Nat) (h : OutF x) (H : St w0 w L) : Calls Tryd.prog 23 #[.float .f64 x] w fun e w' => e = .returned (.tuple #[.int .i64 0, .int .i64 0, .iface 119 (.pointer (some (E 102)))]) ∧ St w0 w' L := by
  have ct : w0.cell? ⟨0, 0, none⟩ = some (.iface 119 (.pointer (some (E 102)))) := hE.cell 102 (by decide)
  rcases out_tests h with z1 | ⟨z1, z2⟩
  · go_enter Tryd.func23, Tryd.ntmps23
    go_wp2_with (fail)
    refine region_plan0 H [(0, true), (1, true), (2, true), (3, true)] (by kernel_rfl) (by kernel_rfl) (fun _ _ d_ _ _ h => by cases d_ <;> exact h) (fun HN => ?_); clear H; have H := HN; clear HN; (iterate 4 (first | (refine planLoadBlk ?_ ?_ ?Zi ?Zg ?_ ?_ ?Zo ?Zs ?_ ?_ ?Zx ?_ ?_ ?Zm ?_ ?Zv ?_; (case Zi => rfl); (case Zo => rfl); (case Zs => exact Tsc.out); (case Zg => (first | rfl | (go_simp; done) | fail)); (case Zx => rfl); (case Zm => (repeat (first | exact mh_ | assumption | apply mt_))); (case Zv => (first | rfl | (refine map_ix _ _ _ ?_; first | (with_reducible assumption) | omega | (simp; omega)) | (refine map_ix_app _ _ _ _ ?_; first | (with_reducible assumption) | omega | (simp; omega)) | assumption | (simp; done))); try simp only [q_1, q_2, q_3, q_4]) | (refine planLoadRd ?_ ?_ ?Zi ?Zg ?_ ?_ ?Zo ?Zs ?_ ?_ ?Zx ?_ ?Zr ?_ ?Zv ?_; (case Zi => rfl); (case Zo => rfl); (case Zs => exact Tsc.out); (case Zg => (first | rfl | (go_simp; done) | fail)); (case Zx => rfl); (case Zr => (intro w_ H; first | (refine H.rdOwn (c := ?_) (e := ?_) ?Zm1; (case Zm1 => (repeat (first | exact mh_ | assumption | apply mt_)))) | (refine H.rdRo ?Zm1; (case Zm1 => (repeat (first | exact mh_ | assumption | apply mt_)))) | (refine H.rdBlk (t := ?_) ?Zm1; (case Zm1 => (repeat (first | exact mh_ | assumption | apply mt_)))) | fail)); (case Zv => (first | rfl | (refine map_ix _ _ _ ?_; first | (with_reducible assumption) | omega | (simp; omega)) | (refine map_ix_app _ _ _ _ ?_; first | (with_reducible assumption) | omega | (simp; omega)) | assumption | (simp; done))); try simp only [q_1, q_2, q_3, q_4]) | (refine planLoadOld ?_ ?_ ?Zi ?Zg ?_ ?_ ?Zo ?Zs ?_ ?Zx ?_ ?Zv ?_; (case Zi => rfl); (case Zo => rfl); (case Zs => exact Tsc.out); (case Zg => (first | rfl | (go_simp; done) | fail)); (case Zx => rfl); (case Zv => assumption); try simp only [q_1, q_2, q_3, q_4]) | (refine planPure ?_ ?_ ?Zi ?Zg ?_ ?Zv ?_; (case Zi => rfl); (case Zg => (first | rfl | (go_simp; done) | fail)); (case Zv => (intro w_; first | (go_simp; (try go_bits); rfl) | (go_simp; done) | fail)); try simp only [q_1, q_2, q_3, q_4]) | (refine planSkip ?_ ?_ ?Zi ?Zg ?_; (case Zi => rfl); (case Zg => (first | rfl | (go_simp; done) | fail)); try simp only [q_1, q_2, q_3, q_4]) | fail)); refine planDone ?_
    go_wp2
    (go_ret3; exact ⟨rfl, H⟩)
  · go_enter Tryd.func23, Tryd.ntmps23
    go_wp2_with (fail)
    refine region_plan0 H [(0, true), (1, true), (2, true), (3, true)] (by kernel_rfl) (by kernel_rfl) (fun _ _ d_ _ _ h => by cases d_ <;> exact h) (fun HN => ?_); clear H; have H := HN; clear HN; (iterate 4 (first | (refine planLoadBlk ?_ ?_ ?Zi ?Zg ?_ ?_ ?Zo ?Zs ?_ ?_ ?Zx ?_ ?_ ?Zm ?_ ?Zv ?_; (case Zi => rfl); (case Zo => rfl); (case Zs => exact Tsc.out); (case Zg => (first | rfl | (go_simp; done) | fail)); (case Zx => rfl); (case Zm => (repeat (first | exact mh_ | assumption | apply mt_))); (case Zv => (first | rfl | (refine map_ix _ _ _ ?_; first | (with_reducible assumption) | omega | (simp; omega)) | (refine map_ix_app _ _ _ _ ?_; first | (with_reducible assumption) | omega | (simp; omega)) | assumption | (simp; done))); try simp only [q_1, q_2, q_3, q_4]) | (refine planLoadRd ?_ ?_ ?Zi ?Zg ?_ ?_ ?Zo ?Zs ?_ ?_ ?Zx ?_ ?Zr ?_ ?Zv ?_; (case Zi => rfl); (case Zo => rfl); (case Zs => exact Tsc.out); (case Zg => (first | rfl | (go_simp; done) | fail)); (case Zx => rfl); (case Zr => (intro w_ H; first | (refine H.rdOwn (c := ?_) (e := ?_) ?Zm1; (case Zm1 => (repeat (first | exact mh_ | assumption | apply mt_)))) | (refine H.rdRo ?Zm1; (case Zm1 => (repeat (first | exact mh_ | assumption | apply mt_)))) | (refine H.rdBlk (t := ?_) ?Zm1; (case Zm1 => (repeat (first | exact mh_ | assumption | apply mt_)))) | fail)); (case Zv => (first | rfl | (refine map_ix _ _ _ ?_; first | (with_reducible assumption) | omega | (simp; omega)) | (refine map_ix_app _ _ _ _ ?_; first | (with_reducible assumption) | omega | (simp; omega)) | assumption | (simp; done))); try simp only [q_1, q_2, q_3, q_4]) | (refine planLoadOld ?_ ?_ ?Zi ?Zg ?_ ?_ ?Zo ?Zs ?_ ?Zx ?_ ?Zv ?_; (case Zi => rfl); (case Zo => rfl); (case Zs => exact Tsc.out); (case Zg => (first | rfl | (go_simp; done) | fail)); (case Zx => rfl); (case Zv => assumption); try simp only [q_1, q_2, q_3, q_4]) | (refine planPure ?_ ?_ ?Zi ?Zg ?_ ?Zv ?_; (case Zi => rfl); (case Zg => (first | rfl | (go_simp; done) | fail)); (case Zv => (intro w_; first | (go_simp; (try go_bits); rfl) | (go_simp; done) | fail)); try simp only [q_1, q_2, q_3, q_4]) | (refine planSkip ?_ ?_ ?Zi ?Zg ?_; (case Zi => rfl); (case Zg => (first | rfl | (go_simp; done) | fail)); try simp only [q_1, q_2, q_3, q_4]) | fail)); refine planDone ?_
    go_wp2
    (go_ret3; exact ⟨rfl, H⟩)
theorem refFin_any (x : Nat) (hx : x < 18446744073709551616) (w : World) : Calls Tryd.prog 78 #[.float .f64 x] w fun e w' => e = .returned (.bool (decide (rung x < INF))) ∧ w' = w := by
  have z : decide ((3 : Int) ≤ kindN x) = decide (rung x < INF) := by
    have hp : INF = 9218868437227405312 := rfl
    unfold kindN
    split
    · rw [decide_eq_false (by omega), decide_eq_false (by omega)]
    split
    · rw [decide_eq_false (by omega), decide_eq_false (by omega)]
    split
    · rw [decide_eq_true (by omega), decide_eq_true (by omega)]
    split <;> rw [decide_eq_true (by omega), decide_eq_true (by omega)]
  go_enter Tryd.func78, Tryd.ntmps78
  go_wp2_with (first | (go_at_call 41; refine (refKind_any x hx _).mono ?_; rintro e_ w_ ⟨rfl, rfl⟩; ))
  go_ret
  exact ⟨by rw [← z]; rfl, rfl⟩
end Go.Proofs.YtcpfangcibilaaaDoor
