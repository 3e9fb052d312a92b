import Derived.Test.YtcpfangcibilaaaDoorEa
import Derived.Test.YtcpfangcibilaaaDoorDz
import Derived.Test.YtcpfangcibilaaaDoorDd
import Derived.Test.YtcpfangcibilaaaDoorDh
/- QuantEdges, walked. No condition but the errors' places. -/
namespace Go.Proofs.YtcpfangcibilaaaDoor
set_option linter.unusedVariables false
set_option linter.unusedSimpArgs false
open Go.RowKit

/-- Out of Fixed's range. -/
def OutE (x : Nat) : Prop := isn x = true ∨ (isn x = false ∧ (sr x < 4472074429978902528 ∨ 4742290407621132288 < sr x))
theorem oute_tests {x : Nat} (h : OutE x) : (FloatKind.f64.format.order x 4472074429978902528 == some .gt || FloatKind.f64.format.order x 4472074429978902528 == some .eq) = false ∨ ((FloatKind.f64.format.order x 4472074429978902528 == some .gt || FloatKind.f64.format.order x 4472074429978902528 == some .eq) = true ∧ (FloatKind.f64.format.order x 4742290407621132288 == some .lt || FloatKind.f64.format.order x 4742290407621132288 == some .eq) = false) := by
  have a : (FloatKind.f64.format.order x 4472074429978902528 == some .gt) = (!isn x && !isn 4472074429978902528 && decide (sr 4472074429978902528 < sr x)) := gt_eq x 4472074429978902528
  have b : (FloatKind.f64.format.order x 4472074429978902528 == some .eq) = (!isn x && !isn 4472074429978902528 && decide (sr x = sr 4472074429978902528)) := eq_eq x 4472074429978902528
  have c : (FloatKind.f64.format.order x 4742290407621132288 == some .lt) = (!isn x && !isn 4742290407621132288 && decide (sr x < sr 4742290407621132288)) := lt_eq x 4742290407621132288
  have d : (FloatKind.f64.format.order x 4742290407621132288 == some .eq) = (!isn x && !isn 4742290407621132288 && decide (sr x = sr 4742290407621132288)) := eq_eq x 4742290407621132288
  rw [show isn 4472074429978902528 = false by decide, show sr 4472074429978902528 = 4472074429978902528 by decide] at a b
  rw [show isn 4742290407621132288 = false by decide, show sr 4742290407621132288 = 4742290407621132288 by decide] at c d
  rw [a, b, c, d]
  rcases h with h | ⟨h, h2⟩
  · left; rw [h]; rfl
  · rw [h]
    by_cases h3 : sr x < 4472074429978902528
    · left; rw [decide_eq_false (by omega), decide_eq_false (by omega)]; rfl
    · right
      refine ⟨?_, ?_⟩
      · by_cases h4 : sr x = 4472074429978902528
        · rw [decide_eq_true h4]; simp
        · rw [decide_eq_true (show (4472074429978902528 : Int) < sr x by omega)]; rfl
      · rw [decide_eq_false (by omega), decide_eq_false (by omega)]; rfl
set_option maxHeartbeats 800000 in
theorem fixed_oute (E : Int → Addr) (w0 w : World) (L : List Ent) (hE : ErrsAll E w0) (x : Nat) (h : OutE x) (H : St w0 w L) : Calls Tryd.prog 23 #[.float .f64 x] w fun e w' => e = .returned (.tuple #[.int .i64 0, .int .i64 0, .iface 119 (.pointer (some (E 102)))]) ∧ St w0 w' L := by
  have ct : w0.cell? ⟨0, 0, none⟩ = some (.iface 119 (.pointer (some (E 102)))) := hE.cell 102 (by decide)
  rcases oute_tests h with z1 | ⟨z1, z2⟩
  · go_enter Tryd.func23, Tryd.ntmps23
    go_wp2_with (fail)
    refine region_plan0 H [(0, true), (1, true), (2, true), (3, true)] (by kernel_rfl) (by kernel_rfl) (fun _ _ d_ _ _ h => by cases d_ <;> exact h) (fun HN => ?_); clear H; have H := HN; clear HN; (iterate 4 (first | (refine planLoadBlk ?_ ?_ ?Zi ?Zg ?_ ?_ ?Zo ?Zs ?_ ?_ ?Zx ?_ ?_ ?Zm ?_ ?Zv ?_; (case Zi => rfl); (case Zo => rfl); (case Zs => exact Tsc.out); (case Zg => (first | rfl | (go_simp; done) | fail)); (case Zx => rfl); (case Zm => (repeat (first | exact mh_ | assumption | apply mt_))); (case Zv => (first | rfl | (refine map_ix _ _ _ ?_; first | (with_reducible assumption) | omega | (simp; omega)) | (refine map_ix_app _ _ _ _ ?_; first | (with_reducible assumption) | omega | (simp; omega)) | assumption | (simp; done))); try simp only [q_1, q_2, q_3, q_4]) | (refine planLoadRd ?_ ?_ ?Zi ?Zg ?_ ?_ ?Zo ?Zs ?_ ?_ ?Zx ?_ ?Zr ?_ ?Zv ?_; (case Zi => rfl); (case Zo => rfl); (case Zs => exact Tsc.out); (case Zg => (first | rfl | (go_simp; done) | fail)); (case Zx => rfl); (case Zr => (intro w_ H; first | (refine H.rdOwn (c := ?_) (e := ?_) ?Zm1; (case Zm1 => (repeat (first | exact mh_ | assumption | apply mt_)))) | (refine H.rdRo ?Zm1; (case Zm1 => (repeat (first | exact mh_ | assumption | apply mt_)))) | (refine H.rdBlk (t := ?_) ?Zm1; (case Zm1 => (repeat (first | exact mh_ | assumption | apply mt_)))) | fail)); (case Zv => (first | rfl | (refine map_ix _ _ _ ?_; first | (with_reducible assumption) | omega | (simp; omega)) | (refine map_ix_app _ _ _ _ ?_; first | (with_reducible assumption) | omega | (simp; omega)) | assumption | (simp; done))); try simp only [q_1, q_2, q_3, q_4]) | (refine planLoadOld ?_ ?_ ?Zi ?Zg ?_ ?_ ?Zo ?Zs ?_ ?Zx ?_ ?Zv ?_; (case Zi => rfl); (case Zo => rfl); (case Zs => exact Tsc.out); (case Zg => (first | rfl | (go_simp; done) | fail)); (case Zx => rfl); (case Zv => assumption); try simp only [q_1, q_2, q_3, q_4]) | (refine planPure ?_ ?_ ?Zi ?Zg ?_ ?Zv ?_; (case Zi => rfl); (case Zg => (first | rfl | (go_simp; done) | fail)); (case Zv => (intro w_; first | (go_simp; (try go_bits); rfl) | (go_simp; done) | fail)); try simp only [q_1, q_2, q_3, q_4]) | (refine planSkip ?_ ?_ ?Zi ?Zg ?_; (case Zi => rfl); (case Zg => (first | rfl | (go_simp; done) | fail)); try simp only [q_1, q_2, q_3, q_4]) | fail)); refine planDone ?_
    go_wp2
    (go_ret3; exact ⟨rfl, H⟩)
  · go_enter Tryd.func23, Tryd.ntmps23
    go_wp2_with (fail)
    refine region_plan0 H [(0, true), (1, true), (2, true), (3, true)] (by kernel_rfl) (by kernel_rfl) (fun _ _ d_ _ _ h => by cases d_ <;> exact h) (fun HN => ?_); clear H; have H := HN; clear HN; (iterate 4 (first | (refine planLoadBlk ?_ ?_ ?Zi ?Zg ?_ ?_ ?Zo ?Zs ?_ ?_ ?Zx ?_ ?_ ?Zm ?_ ?Zv ?_; (case Zi => rfl); (case Zo => rfl); (case Zs => exact Tsc.out); (case Zg => (first | rfl | (go_simp; done) | fail)); (case Zx => rfl); (case Zm => (repeat (first | exact mh_ | assumption | apply mt_))); (case Zv => (first | rfl | (refine map_ix _ _ _ ?_; first | (with_reducible assumption) | omega | (simp; omega)) | (refine map_ix_app _ _ _ _ ?_; first | (with_reducible assumption) | omega | (simp; omega)) | assumption | (simp; done))); try simp only [q_1, q_2, q_3, q_4]) | (refine planLoadRd ?_ ?_ ?Zi ?Zg ?_ ?_ ?Zo ?Zs ?_ ?_ ?Zx ?_ ?Zr ?_ ?Zv ?_; (case Zi => rfl); (case Zo => rfl); (case Zs => exact Tsc.out); (case Zg => (first | rfl | (go_simp; done) | fail)); (case Zx => rfl); (case Zr => (intro w_ H; first | (refine H.rdOwn (c := ?_) (e := ?_) ?Zm1; (case Zm1 => (repeat (first | exact mh_ | assumption | apply mt_)))) | (refine H.rdRo ?Zm1; (case Zm1 => (repeat (first | exact mh_ | assumption | apply mt_)))) | (refine H.rdBlk (t := ?_) ?Zm1; (case Zm1 => (repeat (first | exact mh_ | assumption | apply mt_)))) | fail)); (case Zv => (first | rfl | (refine map_ix _ _ _ ?_; first | (with_reducible assumption) | omega | (simp; omega)) | (refine map_ix_app _ _ _ _ ?_; first | (with_reducible assumption) | omega | (simp; omega)) | assumption | (simp; done))); try simp only [q_1, q_2, q_3, q_4]) | (refine planLoadOld ?_ ?_ ?Zi ?Zg ?_ ?_ ?Zo ?Zs ?_ ?Zx ?_ ?Zv ?_; (case Zi => rfl); (case Zo => rfl); (case Zs => exact Tsc.out); (case Zg => (first | rfl | (go_simp; done) | fail)); (case Zx => rfl); (case Zv => assumption); try simp only [q_1, q_2, q_3, q_4]) | (refine planPure ?_ ?_ ?Zi ?Zg ?_ ?Zv ?_; (case Zi => rfl); (case Zg => (first | rfl | (go_simp; done) | fail)); (case Zv => (intro w_; first | (go_simp; (try go_bits); rfl) | (go_simp; done) | fail)); try simp only [q_1, q_2, q_3, q_4]) | (refine planSkip ?_ ?_ ?Zi ?Zg ?_; (case Zi => rfl); (case Zg => (first | rfl | (go_simp; done) | fail)); try simp only [q_1, q_2, q_3, q_4]) | fail)); refine planDone ?_
    go_wp2
    (go_ret3; exact ⟨rfl, H⟩)
theorem is_rangeE (E : Int → Addr) (w : World) (hE : ErrsAll E w) : Calls Tryd.prog 25 #[.iface 119 (.pointer (some (E 102))), .int .i64 102] w fun e w' => e = .returned (.bool true) ∧ Below w.heap.size w w' := by
  have h := is_sameW E w 102 (.inr (by simp [codes])) hE
  rw [show errW E 102 = .iface 119 (.pointer (some (E 102))) from if_neg (by decide)] at h
  exact h

theorem frexp_lo (w : World) : Calls Tryd.prog 77 #[.float .f64 4472074429978902528] w fun e w' => e = .returned (.tuple #[.float .f64 4602678819172646912, .int .i64 (-29)]) ∧ w' = w := by
  have h := frexp_any 4472074429978902528 (by decide) (by decide) (by decide) w
  rw [show (if sgn 4472074429978902528 then 9223372036854775808 else 0) + (4602678819172646912 + rung 4472074429978902528 % 4503599627370496) = 4602678819172646912 by decide, show (((rung 4472074429978902528 / 4503599627370496 : Nat) : Int) - 1022) = -29 by decide] at h
  exact h
set_option maxHeartbeats 400000 in
theorem fixed_lo (w0 w : World) (L : List Ent) (H : St w0 w L) : Calls Tryd.prog 23 #[.float .f64 4472074429978902528] w fun e w' => e = .returned (.tuple #[.int .i64 1073741824, .int .i64 60, .nilIface]) ∧ St w0 w' L := by
  have z1 : (FloatKind.f64.format.order 4472074429978902528 4472074429978902528 == some .gt || FloatKind.f64.format.order 4472074429978902528 4472074429978902528 == some .eq) = true := by
    have a : (FloatKind.f64.format.order 4472074429978902528 4472074429978902528 == some .gt) = false := (gt_eq 4472074429978902528 4472074429978902528).trans (by decide)
    have b : (FloatKind.f64.format.order 4472074429978902528 4472074429978902528 == some .eq) = true := (eq_eq 4472074429978902528 4472074429978902528).trans (by decide)
    rw [a, b]; rfl
  have z2 : (FloatKind.f64.format.order 4472074429978902528 4742290407621132288 == some .lt || FloatKind.f64.format.order 4472074429978902528 4742290407621132288 == some .eq) = true := by
    have a : (FloatKind.f64.format.order 4472074429978902528 4742290407621132288 == some .lt) = true := (lt_eq 4472074429978902528 4742290407621132288).trans (by decide)
    have b : (FloatKind.f64.format.order 4472074429978902528 4742290407621132288 == some .eq) = false := (eq_eq 4472074429978902528 4742290407621132288).trans (by decide)
    rw [a, b]; rfl
  have hc := conv_run 4742290407621132288 1073741824 whl30 (by decide) (by decide)
  go_enter Tryd.func23, Tryd.ntmps23
  go_wp2_with (first | (go_at_call 77; refine (frexp_lo _).mono ?_; rintro e_ w_ ⟨rfl, rfl⟩; ) | (go_at_call 29; refine (ldexp_any _ _ _ ldexp1 _).mono ?_; rintro e_ w_ ⟨rfl, rfl⟩; ) | (go_at_call 32; refine (round_any _ _ _ 4742290407621132288 (by decide) H).mono ?_; rintro e_ w_ ⟨y, rfl, hy, HN⟩; clear H; have H := HN; clear HN; obtain rfl : y = 4742290407621132288 := (hy.2.2 (by decide)).trans round30; clear hy))
  (go_ret3; exact ⟨rfl, H⟩)
theorem frexp_hi (w : World) : Calls Tryd.prog 77 #[.float .f64 4742290407621132288] w fun e w' => e = .returned (.tuple #[.float .f64 4602678819172646912, .int .i64 (31)]) ∧ w' = w := by
  have h := frexp_any 4742290407621132288 (by decide) (by decide) (by decide) w
  rw [show (if sgn 4742290407621132288 then 9223372036854775808 else 0) + (4602678819172646912 + rung 4742290407621132288 % 4503599627370496) = 4602678819172646912 by decide, show (((rung 4742290407621132288 / 4503599627370496 : Nat) : Int) - 1022) = 31 by decide] at h
  exact h
set_option maxHeartbeats 400000 in
theorem fixed_hi (w0 w : World) (L : List Ent) (H : St w0 w L) : Calls Tryd.prog 23 #[.float .f64 4742290407621132288] w fun e w' => e = .returned (.tuple #[.int .i64 1073741824, .int .i64 0, .nilIface]) ∧ St w0 w' L := by
  have z1 : (FloatKind.f64.format.order 4742290407621132288 4472074429978902528 == some .gt || FloatKind.f64.format.order 4742290407621132288 4472074429978902528 == some .eq) = true := by
    have a : (FloatKind.f64.format.order 4742290407621132288 4472074429978902528 == some .gt) = true := (gt_eq 4742290407621132288 4472074429978902528).trans (by decide)
    have b : (FloatKind.f64.format.order 4742290407621132288 4472074429978902528 == some .eq) = false := (eq_eq 4742290407621132288 4472074429978902528).trans (by decide)
    rw [a, b]; rfl
  have z2 : (FloatKind.f64.format.order 4742290407621132288 4742290407621132288 == some .lt || FloatKind.f64.format.order 4742290407621132288 4742290407621132288 == some .eq) = true := by
    have a : (FloatKind.f64.format.order 4742290407621132288 4742290407621132288 == some .lt) = false := (lt_eq 4742290407621132288 4742290407621132288).trans (by decide)
    have b : (FloatKind.f64.format.order 4742290407621132288 4742290407621132288 == some .eq) = true := (eq_eq 4742290407621132288 4742290407621132288).trans (by decide)
    rw [a, b]; rfl
  have hc := conv_run 4742290407621132288 1073741824 whl30 (by decide) (by decide)
  go_enter Tryd.func23, Tryd.ntmps23
  go_wp2_with (first | (go_at_call 77; refine (frexp_hi _).mono ?_; rintro e_ w_ ⟨rfl, rfl⟩; ) | (go_at_call 29; refine (ldexp_any _ _ _ ldexp1 _).mono ?_; rintro e_ w_ ⟨rfl, rfl⟩; ) | (go_at_call 32; refine (round_any _ _ _ 4742290407621132288 (by decide) H).mono ?_; rintro e_ w_ ⟨y, rfl, hy, HN⟩; clear H; have H := HN; clear HN; obtain rfl : y = 4742290407621132288 := (hy.2.2 (by decide)).trans round30; clear hy))
  (go_ret3; exact ⟨rfl, H⟩)
theorem ld_lo (w : World) : Calls Tryd.prog 29 #[.float .f64 4607182418800017408, .int .i64 (-30)] w fun e w' => e = .returned (.float .f64 4472074429978902528) ∧ w' = w := by
  refine ldexp_any _ _ _ (fun w => ?_) w
  have h := ldexpU_any 4607182418800017408 (by decide) (by decide) (by decide) (-30) (by decide) (by decide) w
  rw [show (if sgn 4607182418800017408 then 9223372036854775808 else 0) + (((-30 : Int) + ((rung 4607182418800017408 / 4503599627370496 : Nat) : Int)).toNat * 4503599627370496 + rung 4607182418800017408 % 4503599627370496) = 4472074429978902528 by decide] at h
  exact h
theorem ld_hi (w : World) : Calls Tryd.prog 29 #[.float .f64 4607182418800017408, .int .i64 (30)] w fun e w' => e = .returned (.float .f64 4742290407621132288) ∧ w' = w := by
  refine ldexp_any _ _ _ (fun w => ?_) w
  have h := ldexpU_any 4607182418800017408 (by decide) (by decide) (by decide) (30) (by decide) (by decide) w
  rw [show (if sgn 4607182418800017408 then 9223372036854775808 else 0) + (((30 : Int) + ((rung 4607182418800017408 / 4503599627370496 : Nat) : Int)).toNat * 4503599627370496 + rung 4607182418800017408 % 4503599627370496) = 4742290407621132288 by decide] at h
  exact h
theorem next_hi (w : World) : Calls Tryd.prog 61 #[.float .f64 4742290407621132288, .float .f64 9094988921128908188] w fun e w' => e = .returned (.float .f64 4742290407621132289) ∧ w' = w := by
  have z1 : (FloatKind.f64.format.order 4742290407621132288 9094988921128908188 == some .eq) = false := (eq_eq 4742290407621132288 9094988921128908188).trans (by decide)
  have z2 : (FloatKind.f64.format.order 4742290407621132288 0 == some .eq) = false := (eq_eq 4742290407621132288 0).trans (by decide)
  have z3 : (FloatKind.f64.format.order 9094988921128908188 4742290407621132288 == some .gt) = true := (gt_eq 9094988921128908188 4742290407621132288).trans (by decide)
  have z4 : (FloatKind.f64.format.order 4742290407621132288 0 == some .gt) = true := (gt_eq 4742290407621132288 0).trans (by decide)
  have n1 : isn 4742290407621132288 = false := by decide
  have n2 : isn 9094988921128908188 = false := by decide
  have hb := fbits_run 4742290407621132288
  have hfr := (show ∀ w : World, (callFunc 66 #[.int .u64 (4742290407621132289)]).run Tryd.prog w = .ok (.value (.float .f64 (4742290407621132289))) w from ffrom_run (4742290407621132289))
  go_enter Tryd.func61, Tryd.ntmps61
  go_wp2_with (first | (go_at_call 87; (with_reducible refine (isNaN_any 4742290407621132288 _).mono ?_); rintro e_ w_ ⟨rfl, rfl⟩; ) | (go_at_call 87; (with_reducible refine (isNaN_any 9094988921128908188 _).mono ?_); rintro e_ w_ ⟨rfl, rfl⟩; ))
  go_ret
  exact ⟨rfl, rfl⟩
theorem next_lo (w : World) : Calls Tryd.prog 61 #[.float .f64 4472074429978902528, .float .f64 0] w fun e w' => e = .returned (.float .f64 4472074429978902527) ∧ w' = w := by
  have z1 : (FloatKind.f64.format.order 4472074429978902528 0 == some .eq) = false := (eq_eq 4472074429978902528 0).trans (by decide)
  have z2 : (FloatKind.f64.format.order 4472074429978902528 0 == some .eq) = false := (eq_eq 4472074429978902528 0).trans (by decide)
  have z3 : (FloatKind.f64.format.order 0 4472074429978902528 == some .gt) = false := (gt_eq 0 4472074429978902528).trans (by decide)
  have z4 : (FloatKind.f64.format.order 4472074429978902528 0 == some .gt) = true := (gt_eq 4472074429978902528 0).trans (by decide)
  have n1 : isn 4472074429978902528 = false := by decide
  have n2 : isn 0 = false := by decide
  have hb := fbits_run 4472074429978902528
  have hfr := (show ∀ w : World, (callFunc 66 #[.int .u64 (4472074429978902527)]).run Tryd.prog w = .ok (.value (.float .f64 (4472074429978902527))) w from ffrom_run (4472074429978902527))
  go_enter Tryd.func61, Tryd.ntmps61
  go_wp2_with (first | (go_at_call 87; (with_reducible refine (isNaN_any 4472074429978902528 _).mono ?_); rintro e_ w_ ⟨rfl, rfl⟩; ) | (go_at_call 87; (with_reducible refine (isNaN_any 0 _).mono ?_); rintro e_ w_ ⟨rfl, rfl⟩; ))
  go_ret
  exact ⟨rfl, rfl⟩
theorem cps (w : World) : Calls Tryd.prog 46 #[.float .f64 0, .float .f64 13830554455654793216] w fun e w' => e = .returned (.float .f64 9223372036854775808) ∧ w' = w := copysign_any 0 13830554455654793216 (by decide) (by decide) w
theorem ofI_bd (b : Nat) (z : Int) (x : Nat) (h1 : -128 ≤ z) (h2 : z ≤ 127) : -128 ≤ ofI b z x ∧ ofI b z x ≤ 127 := by
  unfold ofI
  split
  · omega
  · exact cutI_bd _ (by decide)

set_option maxRecDepth 100000 in
set_option maxHeartbeats 2000000 in
theorem quantEdges_any (E : Int → Addr) (w : World) (hE : ErrsAll E w) (n : Int) (x : Nat) :
    Calls Tryd.prog 13 #[.int .i64 n, .float .f64 x] w fun e w' => e = .returned (.bool true) ∧ St w w' [] := by
  have H := St.start w
  obtain ⟨Z, hz, hz1, hz2⟩ : ∃ Z : Int, n % 256 - 128 = Z ∧ -128 ≤ Z ∧ Z ≤ 127 := ⟨_, rfl, by omega, by omega⟩
  have hout0 : OutE 9221120237041090561 := .inl (by decide)
  have hout1 : OutE 9218868437227405312 := .inr ⟨by decide, .inr (by decide)⟩
  have hout2 : OutE 18442240474082181120 := .inr ⟨by decide, .inl (by decide)⟩
  have hout3 : OutE 0 := .inr ⟨by decide, .inl (by decide)⟩
  have hout4 : OutE 9223372036854775808 := .inr ⟨by decide, .inl (by decide)⟩
  have hout5 : OutE 13830554455654793216 := .inr ⟨by decide, .inl (by decide)⟩
  have hup : OutE 4742290407621132289 := .inr ⟨by decide, .inr (by decide)⟩
  have hdn : OutE 4472074429978902527 := .inr ⟨by decide, .inl (by decide)⟩
  have n2 : ∀ (w : World), (binOp .eql 25 .nilIface .nilIface).run Tryd.prog w = .ok (.bool true) w := fun w => by kernel_rfl
  have n3 : ∀ (w : World), (binOp .neq 25 (.iface 119 (.pointer (some (E 102)))) .nilIface).run Tryd.prog w = .ok (.bool true) w := fun w => by kernel_rfl
  have hle : (FloatKind.f64.format.order 1 0 == some .lt || FloatKind.f64.format.order 1 0 == some .eq) = false := by
    have a : (FloatKind.f64.format.order 1 0 == some .lt) = false := (lt_eq 1 0).trans (by decide)
    have b : (FloatKind.f64.format.order 1 0 == some .eq) = false := (eq_eq 1 0).trans (by decide)
    rw [a, b]; rfl
  have hnw := fun (w0 w : World) (L : List Ent) (H : St w0 w L) => new_ok w0 w L H 1 Z (by decide) (by decide) hle hz1 hz2
  have hof := fun (w0 w : World) (L : List Ent) (H : St w0 w L) => of_gen w0 w L H 1 x Z (by decide) (by decide) hz1 hz2
  obtain ⟨p1, p2⟩ := ofI_bd 1 Z x hz1 hz2
  generalize ofI 1 Z x = P at *
  have y1 : decide (-128 ≤ P) = true := decide_eq_true p1
  have y2 : decide (P ≤ 127) = true := decide_eq_true p2
  clear p1 p2
  go_enter Tryd.func13, Tryd.ntmps13
  go_wp2_with (first | (go_at_call 22; refine (first4_any _ _ _ H).mono ?_; rintro e_ w_ ⟨rfl, HN⟩; clear H; have H := HN; clear HN) | (go_at_call 28; refine (numberq_any n 256 _ (by decide) (by decide)).mono ?_; rintro e_ w_ ⟨rfl, rfl⟩; ) | (go_at_call 35; refine (nan_run _).mono ?_; rintro e_ w_ ⟨rfl, rfl⟩; ) | (go_at_call 36; (with_reducible refine (inf_run _).mono ?_); rintro e_ w_ ⟨rfl, rfl⟩; ) | (go_at_call 36; (with_reducible refine (ninf_run _).mono ?_); rintro e_ w_ ⟨rfl, rfl⟩; ) | (go_at_call 46; refine (cps _).mono ?_; rintro e_ w_ ⟨rfl, rfl⟩; ) | ((with_reducible refine wpGate ?_); first | (refine sLoad ?_ ?_ ?Zo ?_ ?Zd ?Zg ?Zs ?_ ?Zx ?_ ?Zv ?_; (case Zo => rfl); (case Zd => rfl); (case Zs => exact Tsc.out); (case Zg => (first | rfl | (go_simp; done) | fail)); (case Zx => rfl); (case Zv => (first | (refine H.cellBlk (cs := ?_) (t := ?_) ?Zm1 ?Zv1; (case Zm1 => (repeat (first | exact mh_ | assumption | apply mt_))); (case Zv1 => (first | rfl | (refine map_ix _ _ _ ?_; first | (with_reducible assumption) | omega | (simp; omega)) | (refine map_ix_app _ _ _ _ ?_; first | (with_reducible assumption) | omega | (simp; omega)) | assumption | (simp; done)))) | (refine (H.rdOwn (xs := ?_) (c := ?_) (e := ?_) ?Zm1).get ?Zv1; (case Zm1 => (repeat (first | exact mh_ | assumption | apply mt_))); (case Zv1 => (first | rfl | (refine map_ix _ _ _ ?_; first | (with_reducible assumption) | omega | (simp; omega)) | (refine map_ix_app _ _ _ _ ?_; first | (with_reducible assumption) | omega | (simp; omega)) | assumption | (simp; done)))) | (refine (H.rdRo (xs := ?_) ?Zm1).get ?Zv1; (case Zm1 => (repeat (first | exact mh_ | assumption | apply mt_))); (case Zv1 => (first | rfl | (refine map_ix _ _ _ ?_; first | (with_reducible assumption) | omega | (simp; omega)) | (refine map_ix_app _ _ _ _ ?_; first | (with_reducible assumption) | omega | (simp; omega)) | assumption | (simp; done)))) | (refine H.cellOld ?Zm1; (case Zm1 => assumption)) | fail)); try simp only [q_1, q_2, q_3, q_4]) | (refine sLoadAgg H ?_ ?_ ?Zo ?_ ?Zd ?Zg ?Z1 ?Z2 ?_ ?Zn ?_ ?_ ?Zx ?_ ?_ ?Zm ?Zle ?_ ?Zvs ?_; (case Zo => rfl); (case Zd => rfl); (case Z1 => kernel_rfl); (case Z2 => kernel_rfl); (case Zn => exact Tsz.out); (case Zg => (first | rfl | (go_simp; done) | fail)); (case Zx => rfl); (case Zm => (repeat (first | exact mh_ | assumption | apply mt_))); (case Zle => (first | (with_reducible assumption) | omega | (simp; omega) | (simp; done) | fail)); (case Zvs => (first | (with_reducible refine setWhole _ _ ?_; first | (simp; omega) | (simp; done) | fail) | (with_reducible refine setRange_map _ _ _ _ ?_; first | (with_reducible assumption) | omega) | (with_reducible refine setRange_app _ _ _ _ _ ?_; first | (with_reducible assumption) | omega) | (with_reducible refine take_map_app _ _ _ _ ?_; with_reducible assumption) | (with_reducible refine take_map_w _ _ _ ?_; with_reducible assumption) | (simp only [List.take_zero, List.take_succ_cons, List.take_nil, List.drop_zero, List.drop_succ_cons, List.drop_nil, List.nil_append, List.cons_append, List.append_nil, List.length_cons, List.length_nil, Nat.zero_add, Nat.add_zero, Nat.reduceAdd, Nat.reduceSub]; rfl) | rfl | fail)); try simp only [q_1, q_2, q_3, q_4]) | (refine sIndex ?_ ?_ ?_ ?_ ?Zo ?_ ?Zd ?Zg ?Zt ?Zs ?_ ?_ ?_ ?Zx ?_ ?_ ?Zi ?_ ?Zr ?Z0 ?Z1 ?Zn ?_ ?Zj ?_; (case Zo => rfl); (case Zd => rfl); (case Zt => exact Tun.out); (case Zs => kernel_rfl); (case Zg => (first | rfl | (go_simp; done) | fail)); (case Zx => rfl); (case Zi => rfl); (case Zr => (first | (refine H.rdOwn (c := ?_) (e := ?_) ?Zm1; (case Zm1 => (repeat (first | exact mh_ | assumption | apply mt_)))) | (refine H.rdRo ?Zm1; (case Zm1 => (repeat (first | exact mh_ | assumption | apply mt_)))) | (refine H.rdBlk (t := ?_) ?Zm1; (case Zm1 => (repeat (first | exact mh_ | assumption | apply mt_)))) | exact Rd.none _ _ | fail)); (case Z0 => (first | (with_reducible assumption) | omega | (simp; omega) | (simp; done) | fail)); (case Z1 => (first | (with_reducible assumption) | omega | (simp; omega) | (simp; done) | fail)); (case Zn => (first | (with_reducible assumption) | omega | (simp; omega) | (simp; done) | fail)); (case Zj => first | (go_bits; rfl) | rfl | fail); try simp only [q_1, q_2, q_3, q_4]) | (refine sAlloc H ?_ ?Zo ?_ ?Zd ?Zg ?_ ?Zz ?_ ?Zx ?_; (case Zo => rfl); (case Zd => rfl); (case Zz => exact Tzr.out); (case Zg => (first | rfl | (go_simp; done) | fail)); (case Zx => (simp only [Value.cells]; rfl)); intro g_ w_ HN; clear H; have H := HN; clear HN; try simp only [q_1, q_2, q_3, q_4]) | (refine sStore H ?_ ?_ ?_ ?Zo ?Zd ?Zg ?_ ?_ ?Zp ?_ ?Zx ?_ ?Zs ?Zn ?Z1 ?_ ?_ ?_ ?_ ?Zt ?Zle ?Zds ?_; (case Zo => rfl); (case Zd => rfl); (case Zg => (first | rfl | (go_simp; done) | fail)); (case Zp => rfl); (case Zx => (first | (go_simp; done) | (go_simp; rfl) | rfl)); (case Zs => exact Tst.out); (case Zn => first | (with_reducible rfl) | (rw [List.length_map]; with_reducible assumption) | (simp; omega) | (simp; done) | fail); (case Z1 => (first | rfl | (simp [Value.oneCell']; done))); (case Zt => (first | exact .head | exact (.tail .head) | exact (.tail (.tail .head)) | exact (.tail (.tail (.tail .head))) | exact (.tail (.tail (.tail (.tail .head)))) | exact (.tail (.tail (.tail (.tail (.tail .head))))) | exact (.tail (.tail (.tail (.tail (.tail (.tail .head)))))) | exact (.tail (.tail (.tail (.tail (.tail (.tail (.tail .head))))))) | exact (.tail (.tail (.tail (.tail (.tail (.tail (.tail (.tail .head)))))))))); (case Zle => (first | (with_reducible assumption) | omega | (simp; omega) | (simp; done) | fail)); (case Zds => (first | (with_reducible refine setWhole _ _ ?_; first | (simp; omega) | (simp; done) | fail) | (with_reducible refine setRange_map _ _ _ _ ?_; first | (with_reducible assumption) | omega) | (with_reducible refine setRange_app _ _ _ _ _ ?_; first | (with_reducible assumption) | omega) | (with_reducible refine take_map_app _ _ _ _ ?_; with_reducible assumption) | (with_reducible refine take_map_w _ _ _ ?_; with_reducible assumption) | (simp only [List.take_zero, List.take_succ_cons, List.take_nil, List.drop_zero, List.drop_succ_cons, List.drop_nil, List.nil_append, List.cons_append, List.append_nil, List.length_cons, List.length_nil, Nat.zero_add, Nat.add_zero, Nat.reduceAdd, Nat.reduceSub]; rfl) | rfl | fail)); intro w_ HN; clear H; have H := HN; clear HN; try simp only [q_1, q_2, q_3, q_4]) | (refine sStoreRow H ?_ ?_ ?_ ?Zo ?Zd ?Zg ?_ ?_ ?Zp ?_ ?Zx ?Zu ?Zs ?Z1 ?_ ?_ ?_ ?_ ?Zt ?Zj ?_; (case Zo => rfl); (case Zd => rfl); (case Zs => kernel_rfl); (case Zg => (first | rfl | (go_simp; done) | fail)); (case Zp => rfl); (case Zx => (first | (go_simp; done) | (go_simp; rfl) | rfl)); (case Zu => rfl); (case Z1 => rfl); (case Zt => (first | exact .head | exact (.tail .head) | exact (.tail (.tail .head)) | exact (.tail (.tail (.tail .head))) | exact (.tail (.tail (.tail (.tail .head)))) | exact (.tail (.tail (.tail (.tail (.tail .head))))) | exact (.tail (.tail (.tail (.tail (.tail (.tail .head)))))) | exact (.tail (.tail (.tail (.tail (.tail (.tail (.tail .head))))))) | exact (.tail (.tail (.tail (.tail (.tail (.tail (.tail (.tail .head)))))))))); (case Zj => (first | (with_reducible assumption) | omega | (simp; omega) | (simp; done) | fail)); intro w_ HN; clear H; have H := HN; clear HN; try simp only [q_1, q_2, q_3, q_4]) | (refine sLitN H ?_ ?_ ?_ ?_ ?Zo ?_ ?Zd ?Zg ?Zt ?_ ?_ ?Zi ?_ ?Zv ?Zvs ?Zn ?Z1 ?Z0 ?Zm ?_; (case Zo => rfl); (case Zd => rfl); (case Zt => exact Tun.out); (case Zi => exact Tzi.out); (case Zg => (first | rfl | (go_simp; done) | fail)); (case Zv => (go_simp; rfl)); (case Zvs => rfl); (case Zn => rfl); (case Z1 => first | rfl | (simp [Value.cells, Value.oneCell']; done) | fail); (case Z0 => decide); (case Zm => decide); intro g_ w_ HN; clear H; have H := HN; clear HN; try simp only [q_1, q_2, q_3, q_4]) | (refine sLit H ?_ ?_ ?_ ?_ ?Zo ?_ ?Zd ?Zg ?_ ?Zlen ?Zm ?Zrun ?_; (case Zo => rfl); (case Zd => rfl); (case Zg => (first | rfl | (go_simp; done) | fail)); (case Zrun => first | (go_simp; done) | (go_simp; rfl)); (case Zlen => rfl); (case Zm => first | (simp [maxLen]; done) | (unfold maxLen; omega)); intro g_ w_ HN; clear H; have H := HN; clear HN; try simp only [q_1, q_2, q_3, q_4])))
  go_loopw [7] (fun i w2_ => (i = .int .i64 0 ∨ i = .int .i64 1 ∨ i = .int .i64 2 ∨ i = .int .i64 3 ∨ i = .int .i64 4 ∨ i = .int .i64 5 ∨ i = .int .i64 6) ∧ St w w2_ [.own (some ⟨g_, 0, none⟩) [.float .f64 9221120237041090561, .float .f64 9218868437227405312, .float .f64 18442240474082181120, .float .f64 0, .float .f64 9223372036854775808, .float .f64 13830554455654793216] 6 22]) (fun i _ => 8 - (intOf i).toNat)
  case atStart => exact ⟨.inl rfl, H⟩
  case round =>
    clear H
    obtain ⟨hi, H⟩ := hrel
    rcases hi with rfl | rfl | rfl | rfl | rfl | rfl | rfl
    · go_wp2_with (first | (go_at_call 49; refine (new_bad E _ _ _ hE H 9221120237041090561 Z (by decide) (fun h => absurd h.1 (by decide))).mono ?_; rintro e_ w_ ⟨rfl, HN⟩; clear H; have H := HN; clear HN) | (go_at_call 23; refine (fixed_oute E _ _ _ hE 9221120237041090561 hout0 H).mono ?_; rintro e_ w_ ⟨rfl, HN⟩; clear H; have H := HN; clear HN) | (go_at_call 25; refine (is_rangeE E _ (hE.mono H.below)).mono ?_; rintro e_ w_ ⟨rfl, hb_⟩; have HN := H.app hb_; clear hb_; clear H; have H := HN; clear HN) | ((with_reducible refine wpGate ?_); first | (refine sLoad ?_ ?_ ?Zo ?_ ?Zd ?Zg ?Zs ?_ ?Zx ?_ ?Zv ?_; (case Zo => rfl); (case Zd => rfl); (case Zs => exact Tsc.out); (case Zg => (first | rfl | (go_simp; done) | fail)); (case Zx => rfl); (case Zv => (first | (refine H.cellBlk (cs := ?_) (t := ?_) ?Zm1 ?Zv1; (case Zm1 => (repeat (first | exact mh_ | assumption | apply mt_))); (case Zv1 => (first | rfl | (refine map_ix _ _ _ ?_; first | (with_reducible assumption) | omega | (simp; omega)) | (refine map_ix_app _ _ _ _ ?_; first | (with_reducible assumption) | omega | (simp; omega)) | assumption | (simp; done)))) | (refine (H.rdOwn (xs := ?_) (c := ?_) (e := ?_) ?Zm1).get ?Zv1; (case Zm1 => (repeat (first | exact mh_ | assumption | apply mt_))); (case Zv1 => (first | rfl | (refine map_ix _ _ _ ?_; first | (with_reducible assumption) | omega | (simp; omega)) | (refine map_ix_app _ _ _ _ ?_; first | (with_reducible assumption) | omega | (simp; omega)) | assumption | (simp; done)))) | (refine (H.rdRo (xs := ?_) ?Zm1).get ?Zv1; (case Zm1 => (repeat (first | exact mh_ | assumption | apply mt_))); (case Zv1 => (first | rfl | (refine map_ix _ _ _ ?_; first | (with_reducible assumption) | omega | (simp; omega)) | (refine map_ix_app _ _ _ _ ?_; first | (with_reducible assumption) | omega | (simp; omega)) | assumption | (simp; done)))) | (refine H.cellOld ?Zm1; (case Zm1 => assumption)) | fail)); try simp only [q_1, q_2, q_3, q_4]) | (refine sLoadAgg H ?_ ?_ ?Zo ?_ ?Zd ?Zg ?Z1 ?Z2 ?_ ?Zn ?_ ?_ ?Zx ?_ ?_ ?Zm ?Zle ?_ ?Zvs ?_; (case Zo => rfl); (case Zd => rfl); (case Z1 => kernel_rfl); (case Z2 => kernel_rfl); (case Zn => exact Tsz.out); (case Zg => (first | rfl | (go_simp; done) | fail)); (case Zx => rfl); (case Zm => (repeat (first | exact mh_ | assumption | apply mt_))); (case Zle => (first | (with_reducible assumption) | omega | (simp; omega) | (simp; done) | fail)); (case Zvs => (first | (with_reducible refine setWhole _ _ ?_; first | (simp; omega) | (simp; done) | fail) | (with_reducible refine setRange_map _ _ _ _ ?_; first | (with_reducible assumption) | omega) | (with_reducible refine setRange_app _ _ _ _ _ ?_; first | (with_reducible assumption) | omega) | (with_reducible refine take_map_app _ _ _ _ ?_; with_reducible assumption) | (with_reducible refine take_map_w _ _ _ ?_; with_reducible assumption) | (simp only [List.take_zero, List.take_succ_cons, List.take_nil, List.drop_zero, List.drop_succ_cons, List.drop_nil, List.nil_append, List.cons_append, List.append_nil, List.length_cons, List.length_nil, Nat.zero_add, Nat.add_zero, Nat.reduceAdd, Nat.reduceSub]; rfl) | rfl | fail)); try simp only [q_1, q_2, q_3, q_4]) | (refine sIndex ?_ ?_ ?_ ?_ ?Zo ?_ ?Zd ?Zg ?Zt ?Zs ?_ ?_ ?_ ?Zx ?_ ?_ ?Zi ?_ ?Zr ?Z0 ?Z1 ?Zn ?_ ?Zj ?_; (case Zo => rfl); (case Zd => rfl); (case Zt => exact Tun.out); (case Zs => kernel_rfl); (case Zg => (first | rfl | (go_simp; done) | fail)); (case Zx => rfl); (case Zi => rfl); (case Zr => (first | (refine H.rdOwn (c := ?_) (e := ?_) ?Zm1; (case Zm1 => (repeat (first | exact mh_ | assumption | apply mt_)))) | (refine H.rdRo ?Zm1; (case Zm1 => (repeat (first | exact mh_ | assumption | apply mt_)))) | (refine H.rdBlk (t := ?_) ?Zm1; (case Zm1 => (repeat (first | exact mh_ | assumption | apply mt_)))) | exact Rd.none _ _ | fail)); (case Z0 => (first | (with_reducible assumption) | omega | (simp; omega) | (simp; done) | fail)); (case Z1 => (first | (with_reducible assumption) | omega | (simp; omega) | (simp; done) | fail)); (case Zn => (first | (with_reducible assumption) | omega | (simp; omega) | (simp; done) | fail)); (case Zj => first | (go_bits; rfl) | rfl | fail); try simp only [q_1, q_2, q_3, q_4]) | (refine sAlloc H ?_ ?Zo ?_ ?Zd ?Zg ?_ ?Zz ?_ ?Zx ?_; (case Zo => rfl); (case Zd => rfl); (case Zz => exact Tzr.out); (case Zg => (first | rfl | (go_simp; done) | fail)); (case Zx => (simp only [Value.cells]; rfl)); intro g_ w_ HN; clear H; have H := HN; clear HN; try simp only [q_1, q_2, q_3, q_4]) | (refine sStore H ?_ ?_ ?_ ?Zo ?Zd ?Zg ?_ ?_ ?Zp ?_ ?Zx ?_ ?Zs ?Zn ?Z1 ?_ ?_ ?_ ?_ ?Zt ?Zle ?Zds ?_; (case Zo => rfl); (case Zd => rfl); (case Zg => (first | rfl | (go_simp; done) | fail)); (case Zp => rfl); (case Zx => (first | (go_simp; done) | (go_simp; rfl) | rfl)); (case Zs => exact Tst.out); (case Zn => first | (with_reducible rfl) | (rw [List.length_map]; with_reducible assumption) | (simp; omega) | (simp; done) | fail); (case Z1 => (first | rfl | (simp [Value.oneCell']; done))); (case Zt => (first | exact .head | exact (.tail .head) | exact (.tail (.tail .head)) | exact (.tail (.tail (.tail .head))) | exact (.tail (.tail (.tail (.tail .head)))) | exact (.tail (.tail (.tail (.tail (.tail .head))))) | exact (.tail (.tail (.tail (.tail (.tail (.tail .head)))))) | exact (.tail (.tail (.tail (.tail (.tail (.tail (.tail .head))))))) | exact (.tail (.tail (.tail (.tail (.tail (.tail (.tail (.tail .head)))))))))); (case Zle => (first | (with_reducible assumption) | omega | (simp; omega) | (simp; done) | fail)); (case Zds => (first | (with_reducible refine setWhole _ _ ?_; first | (simp; omega) | (simp; done) | fail) | (with_reducible refine setRange_map _ _ _ _ ?_; first | (with_reducible assumption) | omega) | (with_reducible refine setRange_app _ _ _ _ _ ?_; first | (with_reducible assumption) | omega) | (with_reducible refine take_map_app _ _ _ _ ?_; with_reducible assumption) | (with_reducible refine take_map_w _ _ _ ?_; with_reducible assumption) | (simp only [List.take_zero, List.take_succ_cons, List.take_nil, List.drop_zero, List.drop_succ_cons, List.drop_nil, List.nil_append, List.cons_append, List.append_nil, List.length_cons, List.length_nil, Nat.zero_add, Nat.add_zero, Nat.reduceAdd, Nat.reduceSub]; rfl) | rfl | fail)); intro w_ HN; clear H; have H := HN; clear HN; try simp only [q_1, q_2, q_3, q_4]) | (refine sStoreRow H ?_ ?_ ?_ ?Zo ?Zd ?Zg ?_ ?_ ?Zp ?_ ?Zx ?Zu ?Zs ?Z1 ?_ ?_ ?_ ?_ ?Zt ?Zj ?_; (case Zo => rfl); (case Zd => rfl); (case Zs => kernel_rfl); (case Zg => (first | rfl | (go_simp; done) | fail)); (case Zp => rfl); (case Zx => (first | (go_simp; done) | (go_simp; rfl) | rfl)); (case Zu => rfl); (case Z1 => rfl); (case Zt => (first | exact .head | exact (.tail .head) | exact (.tail (.tail .head)) | exact (.tail (.tail (.tail .head))) | exact (.tail (.tail (.tail (.tail .head)))) | exact (.tail (.tail (.tail (.tail (.tail .head))))) | exact (.tail (.tail (.tail (.tail (.tail (.tail .head)))))) | exact (.tail (.tail (.tail (.tail (.tail (.tail (.tail .head))))))) | exact (.tail (.tail (.tail (.tail (.tail (.tail (.tail (.tail .head)))))))))); (case Zj => (first | (with_reducible assumption) | omega | (simp; omega) | (simp; done) | fail)); intro w_ HN; clear H; have H := HN; clear HN; try simp only [q_1, q_2, q_3, q_4]) | (refine sLitN H ?_ ?_ ?_ ?_ ?Zo ?_ ?Zd ?Zg ?Zt ?_ ?_ ?Zi ?_ ?Zv ?Zvs ?Zn ?Z1 ?Z0 ?Zm ?_; (case Zo => rfl); (case Zd => rfl); (case Zt => exact Tun.out); (case Zi => exact Tzi.out); (case Zg => (first | rfl | (go_simp; done) | fail)); (case Zv => (go_simp; rfl)); (case Zvs => rfl); (case Zn => rfl); (case Z1 => first | rfl | (simp [Value.cells, Value.oneCell']; done) | fail); (case Z0 => decide); (case Zm => decide); intro g_ w_ HN; clear H; have H := HN; clear HN; try simp only [q_1, q_2, q_3, q_4]) | (refine sLit H ?_ ?_ ?_ ?_ ?Zo ?_ ?Zd ?Zg ?_ ?Zlen ?Zm ?Zrun ?_; (case Zo => rfl); (case Zd => rfl); (case Zg => (first | rfl | (go_simp; done) | fail)); (case Zrun => first | (go_simp; done) | (go_simp; rfl)); (case Zlen => rfl); (case Zm => first | (simp [maxLen]; done) | (unfold maxLen; omega)); intro g_ w_ HN; clear H; have H := HN; clear HN; try simp only [q_1, q_2, q_3, q_4])))
      go_roundw
      case rel => exact ⟨.inr (.inl (by go_num)), H.sub (by repeat (first | exact List.Sublist.refl _ | exact List.nil_sublist _ | apply List.Sublist.cons_cons | apply List.Sublist.cons))⟩
      case measure => simp [intOf]
    · go_wp2_with (first | (go_at_call 49; refine (new_bad E _ _ _ hE H 9218868437227405312 Z (by decide) (fun h => absurd h.1 (by decide))).mono ?_; rintro e_ w_ ⟨rfl, HN⟩; clear H; have H := HN; clear HN) | (go_at_call 23; refine (fixed_oute E _ _ _ hE 9218868437227405312 hout1 H).mono ?_; rintro e_ w_ ⟨rfl, HN⟩; clear H; have H := HN; clear HN) | (go_at_call 25; refine (is_rangeE E _ (hE.mono H.below)).mono ?_; rintro e_ w_ ⟨rfl, hb_⟩; have HN := H.app hb_; clear hb_; clear H; have H := HN; clear HN) | ((with_reducible refine wpGate ?_); first | (refine sLoad ?_ ?_ ?Zo ?_ ?Zd ?Zg ?Zs ?_ ?Zx ?_ ?Zv ?_; (case Zo => rfl); (case Zd => rfl); (case Zs => exact Tsc.out); (case Zg => (first | rfl | (go_simp; done) | fail)); (case Zx => rfl); (case Zv => (first | (refine H.cellBlk (cs := ?_) (t := ?_) ?Zm1 ?Zv1; (case Zm1 => (repeat (first | exact mh_ | assumption | apply mt_))); (case Zv1 => (first | rfl | (refine map_ix _ _ _ ?_; first | (with_reducible assumption) | omega | (simp; omega)) | (refine map_ix_app _ _ _ _ ?_; first | (with_reducible assumption) | omega | (simp; omega)) | assumption | (simp; done)))) | (refine (H.rdOwn (xs := ?_) (c := ?_) (e := ?_) ?Zm1).get ?Zv1; (case Zm1 => (repeat (first | exact mh_ | assumption | apply mt_))); (case Zv1 => (first | rfl | (refine map_ix _ _ _ ?_; first | (with_reducible assumption) | omega | (simp; omega)) | (refine map_ix_app _ _ _ _ ?_; first | (with_reducible assumption) | omega | (simp; omega)) | assumption | (simp; done)))) | (refine (H.rdRo (xs := ?_) ?Zm1).get ?Zv1; (case Zm1 => (repeat (first | exact mh_ | assumption | apply mt_))); (case Zv1 => (first | rfl | (refine map_ix _ _ _ ?_; first | (with_reducible assumption) | omega | (simp; omega)) | (refine map_ix_app _ _ _ _ ?_; first | (with_reducible assumption) | omega | (simp; omega)) | assumption | (simp; done)))) | (refine H.cellOld ?Zm1; (case Zm1 => assumption)) | fail)); try simp only [q_1, q_2, q_3, q_4]) | (refine sLoadAgg H ?_ ?_ ?Zo ?_ ?Zd ?Zg ?Z1 ?Z2 ?_ ?Zn ?_ ?_ ?Zx ?_ ?_ ?Zm ?Zle ?_ ?Zvs ?_; (case Zo => rfl); (case Zd => rfl); (case Z1 => kernel_rfl); (case Z2 => kernel_rfl); (case Zn => exact Tsz.out); (case Zg => (first | rfl | (go_simp; done) | fail)); (case Zx => rfl); (case Zm => (repeat (first | exact mh_ | assumption | apply mt_))); (case Zle => (first | (with_reducible assumption) | omega | (simp; omega) | (simp; done) | fail)); (case Zvs => (first | (with_reducible refine setWhole _ _ ?_; first | (simp; omega) | (simp; done) | fail) | (with_reducible refine setRange_map _ _ _ _ ?_; first | (with_reducible assumption) | omega) | (with_reducible refine setRange_app _ _ _ _ _ ?_; first | (with_reducible assumption) | omega) | (with_reducible refine take_map_app _ _ _ _ ?_; with_reducible assumption) | (with_reducible refine take_map_w _ _ _ ?_; with_reducible assumption) | (simp only [List.take_zero, List.take_succ_cons, List.take_nil, List.drop_zero, List.drop_succ_cons, List.drop_nil, List.nil_append, List.cons_append, List.append_nil, List.length_cons, List.length_nil, Nat.zero_add, Nat.add_zero, Nat.reduceAdd, Nat.reduceSub]; rfl) | rfl | fail)); try simp only [q_1, q_2, q_3, q_4]) | (refine sIndex ?_ ?_ ?_ ?_ ?Zo ?_ ?Zd ?Zg ?Zt ?Zs ?_ ?_ ?_ ?Zx ?_ ?_ ?Zi ?_ ?Zr ?Z0 ?Z1 ?Zn ?_ ?Zj ?_; (case Zo => rfl); (case Zd => rfl); (case Zt => exact Tun.out); (case Zs => kernel_rfl); (case Zg => (first | rfl | (go_simp; done) | fail)); (case Zx => rfl); (case Zi => rfl); (case Zr => (first | (refine H.rdOwn (c := ?_) (e := ?_) ?Zm1; (case Zm1 => (repeat (first | exact mh_ | assumption | apply mt_)))) | (refine H.rdRo ?Zm1; (case Zm1 => (repeat (first | exact mh_ | assumption | apply mt_)))) | (refine H.rdBlk (t := ?_) ?Zm1; (case Zm1 => (repeat (first | exact mh_ | assumption | apply mt_)))) | exact Rd.none _ _ | fail)); (case Z0 => (first | (with_reducible assumption) | omega | (simp; omega) | (simp; done) | fail)); (case Z1 => (first | (with_reducible assumption) | omega | (simp; omega) | (simp; done) | fail)); (case Zn => (first | (with_reducible assumption) | omega | (simp; omega) | (simp; done) | fail)); (case Zj => first | (go_bits; rfl) | rfl | fail); try simp only [q_1, q_2, q_3, q_4]) | (refine sAlloc H ?_ ?Zo ?_ ?Zd ?Zg ?_ ?Zz ?_ ?Zx ?_; (case Zo => rfl); (case Zd => rfl); (case Zz => exact Tzr.out); (case Zg => (first | rfl | (go_simp; done) | fail)); (case Zx => (simp only [Value.cells]; rfl)); intro g_ w_ HN; clear H; have H := HN; clear HN; try simp only [q_1, q_2, q_3, q_4]) | (refine sStore H ?_ ?_ ?_ ?Zo ?Zd ?Zg ?_ ?_ ?Zp ?_ ?Zx ?_ ?Zs ?Zn ?Z1 ?_ ?_ ?_ ?_ ?Zt ?Zle ?Zds ?_; (case Zo => rfl); (case Zd => rfl); (case Zg => (first | rfl | (go_simp; done) | fail)); (case Zp => rfl); (case Zx => (first | (go_simp; done) | (go_simp; rfl) | rfl)); (case Zs => exact Tst.out); (case Zn => first | (with_reducible rfl) | (rw [List.length_map]; with_reducible assumption) | (simp; omega) | (simp; done) | fail); (case Z1 => (first | rfl | (simp [Value.oneCell']; done))); (case Zt => (first | exact .head | exact (.tail .head) | exact (.tail (.tail .head)) | exact (.tail (.tail (.tail .head))) | exact (.tail (.tail (.tail (.tail .head)))) | exact (.tail (.tail (.tail (.tail (.tail .head))))) | exact (.tail (.tail (.tail (.tail (.tail (.tail .head)))))) | exact (.tail (.tail (.tail (.tail (.tail (.tail (.tail .head))))))) | exact (.tail (.tail (.tail (.tail (.tail (.tail (.tail (.tail .head)))))))))); (case Zle => (first | (with_reducible assumption) | omega | (simp; omega) | (simp; done) | fail)); (case Zds => (first | (with_reducible refine setWhole _ _ ?_; first | (simp; omega) | (simp; done) | fail) | (with_reducible refine setRange_map _ _ _ _ ?_; first | (with_reducible assumption) | omega) | (with_reducible refine setRange_app _ _ _ _ _ ?_; first | (with_reducible assumption) | omega) | (with_reducible refine take_map_app _ _ _ _ ?_; with_reducible assumption) | (with_reducible refine take_map_w _ _ _ ?_; with_reducible assumption) | (simp only [List.take_zero, List.take_succ_cons, List.take_nil, List.drop_zero, List.drop_succ_cons, List.drop_nil, List.nil_append, List.cons_append, List.append_nil, List.length_cons, List.length_nil, Nat.zero_add, Nat.add_zero, Nat.reduceAdd, Nat.reduceSub]; rfl) | rfl | fail)); intro w_ HN; clear H; have H := HN; clear HN; try simp only [q_1, q_2, q_3, q_4]) | (refine sStoreRow H ?_ ?_ ?_ ?Zo ?Zd ?Zg ?_ ?_ ?Zp ?_ ?Zx ?Zu ?Zs ?Z1 ?_ ?_ ?_ ?_ ?Zt ?Zj ?_; (case Zo => rfl); (case Zd => rfl); (case Zs => kernel_rfl); (case Zg => (first | rfl | (go_simp; done) | fail)); (case Zp => rfl); (case Zx => (first | (go_simp; done) | (go_simp; rfl) | rfl)); (case Zu => rfl); (case Z1 => rfl); (case Zt => (first | exact .head | exact (.tail .head) | exact (.tail (.tail .head)) | exact (.tail (.tail (.tail .head))) | exact (.tail (.tail (.tail (.tail .head)))) | exact (.tail (.tail (.tail (.tail (.tail .head))))) | exact (.tail (.tail (.tail (.tail (.tail (.tail .head)))))) | exact (.tail (.tail (.tail (.tail (.tail (.tail (.tail .head))))))) | exact (.tail (.tail (.tail (.tail (.tail (.tail (.tail (.tail .head)))))))))); (case Zj => (first | (with_reducible assumption) | omega | (simp; omega) | (simp; done) | fail)); intro w_ HN; clear H; have H := HN; clear HN; try simp only [q_1, q_2, q_3, q_4]) | (refine sLitN H ?_ ?_ ?_ ?_ ?Zo ?_ ?Zd ?Zg ?Zt ?_ ?_ ?Zi ?_ ?Zv ?Zvs ?Zn ?Z1 ?Z0 ?Zm ?_; (case Zo => rfl); (case Zd => rfl); (case Zt => exact Tun.out); (case Zi => exact Tzi.out); (case Zg => (first | rfl | (go_simp; done) | fail)); (case Zv => (go_simp; rfl)); (case Zvs => rfl); (case Zn => rfl); (case Z1 => first | rfl | (simp [Value.cells, Value.oneCell']; done) | fail); (case Z0 => decide); (case Zm => decide); intro g_ w_ HN; clear H; have H := HN; clear HN; try simp only [q_1, q_2, q_3, q_4]) | (refine sLit H ?_ ?_ ?_ ?_ ?Zo ?_ ?Zd ?Zg ?_ ?Zlen ?Zm ?Zrun ?_; (case Zo => rfl); (case Zd => rfl); (case Zg => (first | rfl | (go_simp; done) | fail)); (case Zrun => first | (go_simp; done) | (go_simp; rfl)); (case Zlen => rfl); (case Zm => first | (simp [maxLen]; done) | (unfold maxLen; omega)); intro g_ w_ HN; clear H; have H := HN; clear HN; try simp only [q_1, q_2, q_3, q_4])))
      go_roundw
      case rel => exact ⟨.inr (.inr (.inl (by go_num))), H.sub (by repeat (first | exact List.Sublist.refl _ | exact List.nil_sublist _ | apply List.Sublist.cons_cons | apply List.Sublist.cons))⟩
      case measure => simp [intOf]
    · go_wp2_with (first | (go_at_call 49; refine (new_bad E _ _ _ hE H 18442240474082181120 Z (by decide) (fun h => absurd h.1 (by decide))).mono ?_; rintro e_ w_ ⟨rfl, HN⟩; clear H; have H := HN; clear HN) | (go_at_call 23; refine (fixed_oute E _ _ _ hE 18442240474082181120 hout2 H).mono ?_; rintro e_ w_ ⟨rfl, HN⟩; clear H; have H := HN; clear HN) | (go_at_call 25; refine (is_rangeE E _ (hE.mono H.below)).mono ?_; rintro e_ w_ ⟨rfl, hb_⟩; have HN := H.app hb_; clear hb_; clear H; have H := HN; clear HN) | ((with_reducible refine wpGate ?_); first | (refine sLoad ?_ ?_ ?Zo ?_ ?Zd ?Zg ?Zs ?_ ?Zx ?_ ?Zv ?_; (case Zo => rfl); (case Zd => rfl); (case Zs => exact Tsc.out); (case Zg => (first | rfl | (go_simp; done) | fail)); (case Zx => rfl); (case Zv => (first | (refine H.cellBlk (cs := ?_) (t := ?_) ?Zm1 ?Zv1; (case Zm1 => (repeat (first | exact mh_ | assumption | apply mt_))); (case Zv1 => (first | rfl | (refine map_ix _ _ _ ?_; first | (with_reducible assumption) | omega | (simp; omega)) | (refine map_ix_app _ _ _ _ ?_; first | (with_reducible assumption) | omega | (simp; omega)) | assumption | (simp; done)))) | (refine (H.rdOwn (xs := ?_) (c := ?_) (e := ?_) ?Zm1).get ?Zv1; (case Zm1 => (repeat (first | exact mh_ | assumption | apply mt_))); (case Zv1 => (first | rfl | (refine map_ix _ _ _ ?_; first | (with_reducible assumption) | omega | (simp; omega)) | (refine map_ix_app _ _ _ _ ?_; first | (with_reducible assumption) | omega | (simp; omega)) | assumption | (simp; done)))) | (refine (H.rdRo (xs := ?_) ?Zm1).get ?Zv1; (case Zm1 => (repeat (first | exact mh_ | assumption | apply mt_))); (case Zv1 => (first | rfl | (refine map_ix _ _ _ ?_; first | (with_reducible assumption) | omega | (simp; omega)) | (refine map_ix_app _ _ _ _ ?_; first | (with_reducible assumption) | omega | (simp; omega)) | assumption | (simp; done)))) | (refine H.cellOld ?Zm1; (case Zm1 => assumption)) | fail)); try simp only [q_1, q_2, q_3, q_4]) | (refine sLoadAgg H ?_ ?_ ?Zo ?_ ?Zd ?Zg ?Z1 ?Z2 ?_ ?Zn ?_ ?_ ?Zx ?_ ?_ ?Zm ?Zle ?_ ?Zvs ?_; (case Zo => rfl); (case Zd => rfl); (case Z1 => kernel_rfl); (case Z2 => kernel_rfl); (case Zn => exact Tsz.out); (case Zg => (first | rfl | (go_simp; done) | fail)); (case Zx => rfl); (case Zm => (repeat (first | exact mh_ | assumption | apply mt_))); (case Zle => (first | (with_reducible assumption) | omega | (simp; omega) | (simp; done) | fail)); (case Zvs => (first | (with_reducible refine setWhole _ _ ?_; first | (simp; omega) | (simp; done) | fail) | (with_reducible refine setRange_map _ _ _ _ ?_; first | (with_reducible assumption) | omega) | (with_reducible refine setRange_app _ _ _ _ _ ?_; first | (with_reducible assumption) | omega) | (with_reducible refine take_map_app _ _ _ _ ?_; with_reducible assumption) | (with_reducible refine take_map_w _ _ _ ?_; with_reducible assumption) | (simp only [List.take_zero, List.take_succ_cons, List.take_nil, List.drop_zero, List.drop_succ_cons, List.drop_nil, List.nil_append, List.cons_append, List.append_nil, List.length_cons, List.length_nil, Nat.zero_add, Nat.add_zero, Nat.reduceAdd, Nat.reduceSub]; rfl) | rfl | fail)); try simp only [q_1, q_2, q_3, q_4]) | (refine sIndex ?_ ?_ ?_ ?_ ?Zo ?_ ?Zd ?Zg ?Zt ?Zs ?_ ?_ ?_ ?Zx ?_ ?_ ?Zi ?_ ?Zr ?Z0 ?Z1 ?Zn ?_ ?Zj ?_; (case Zo => rfl); (case Zd => rfl); (case Zt => exact Tun.out); (case Zs => kernel_rfl); (case Zg => (first | rfl | (go_simp; done) | fail)); (case Zx => rfl); (case Zi => rfl); (case Zr => (first | (refine H.rdOwn (c := ?_) (e := ?_) ?Zm1; (case Zm1 => (repeat (first | exact mh_ | assumption | apply mt_)))) | (refine H.rdRo ?Zm1; (case Zm1 => (repeat (first | exact mh_ | assumption | apply mt_)))) | (refine H.rdBlk (t := ?_) ?Zm1; (case Zm1 => (repeat (first | exact mh_ | assumption | apply mt_)))) | exact Rd.none _ _ | fail)); (case Z0 => (first | (with_reducible assumption) | omega | (simp; omega) | (simp; done) | fail)); (case Z1 => (first | (with_reducible assumption) | omega | (simp; omega) | (simp; done) | fail)); (case Zn => (first | (with_reducible assumption) | omega | (simp; omega) | (simp; done) | fail)); (case Zj => first | (go_bits; rfl) | rfl | fail); try simp only [q_1, q_2, q_3, q_4]) | (refine sAlloc H ?_ ?Zo ?_ ?Zd ?Zg ?_ ?Zz ?_ ?Zx ?_; (case Zo => rfl); (case Zd => rfl); (case Zz => exact Tzr.out); (case Zg => (first | rfl | (go_simp; done) | fail)); (case Zx => (simp only [Value.cells]; rfl)); intro g_ w_ HN; clear H; have H := HN; clear HN; try simp only [q_1, q_2, q_3, q_4]) | (refine sStore H ?_ ?_ ?_ ?Zo ?Zd ?Zg ?_ ?_ ?Zp ?_ ?Zx ?_ ?Zs ?Zn ?Z1 ?_ ?_ ?_ ?_ ?Zt ?Zle ?Zds ?_; (case Zo => rfl); (case Zd => rfl); (case Zg => (first | rfl | (go_simp; done) | fail)); (case Zp => rfl); (case Zx => (first | (go_simp; done) | (go_simp; rfl) | rfl)); (case Zs => exact Tst.out); (case Zn => first | (with_reducible rfl) | (rw [List.length_map]; with_reducible assumption) | (simp; omega) | (simp; done) | fail); (case Z1 => (first | rfl | (simp [Value.oneCell']; done))); (case Zt => (first | exact .head | exact (.tail .head) | exact (.tail (.tail .head)) | exact (.tail (.tail (.tail .head))) | exact (.tail (.tail (.tail (.tail .head)))) | exact (.tail (.tail (.tail (.tail (.tail .head))))) | exact (.tail (.tail (.tail (.tail (.tail (.tail .head)))))) | exact (.tail (.tail (.tail (.tail (.tail (.tail (.tail .head))))))) | exact (.tail (.tail (.tail (.tail (.tail (.tail (.tail (.tail .head)))))))))); (case Zle => (first | (with_reducible assumption) | omega | (simp; omega) | (simp; done) | fail)); (case Zds => (first | (with_reducible refine setWhole _ _ ?_; first | (simp; omega) | (simp; done) | fail) | (with_reducible refine setRange_map _ _ _ _ ?_; first | (with_reducible assumption) | omega) | (with_reducible refine setRange_app _ _ _ _ _ ?_; first | (with_reducible assumption) | omega) | (with_reducible refine take_map_app _ _ _ _ ?_; with_reducible assumption) | (with_reducible refine take_map_w _ _ _ ?_; with_reducible assumption) | (simp only [List.take_zero, List.take_succ_cons, List.take_nil, List.drop_zero, List.drop_succ_cons, List.drop_nil, List.nil_append, List.cons_append, List.append_nil, List.length_cons, List.length_nil, Nat.zero_add, Nat.add_zero, Nat.reduceAdd, Nat.reduceSub]; rfl) | rfl | fail)); intro w_ HN; clear H; have H := HN; clear HN; try simp only [q_1, q_2, q_3, q_4]) | (refine sStoreRow H ?_ ?_ ?_ ?Zo ?Zd ?Zg ?_ ?_ ?Zp ?_ ?Zx ?Zu ?Zs ?Z1 ?_ ?_ ?_ ?_ ?Zt ?Zj ?_; (case Zo => rfl); (case Zd => rfl); (case Zs => kernel_rfl); (case Zg => (first | rfl | (go_simp; done) | fail)); (case Zp => rfl); (case Zx => (first | (go_simp; done) | (go_simp; rfl) | rfl)); (case Zu => rfl); (case Z1 => rfl); (case Zt => (first | exact .head | exact (.tail .head) | exact (.tail (.tail .head)) | exact (.tail (.tail (.tail .head))) | exact (.tail (.tail (.tail (.tail .head)))) | exact (.tail (.tail (.tail (.tail (.tail .head))))) | exact (.tail (.tail (.tail (.tail (.tail (.tail .head)))))) | exact (.tail (.tail (.tail (.tail (.tail (.tail (.tail .head))))))) | exact (.tail (.tail (.tail (.tail (.tail (.tail (.tail (.tail .head)))))))))); (case Zj => (first | (with_reducible assumption) | omega | (simp; omega) | (simp; done) | fail)); intro w_ HN; clear H; have H := HN; clear HN; try simp only [q_1, q_2, q_3, q_4]) | (refine sLitN H ?_ ?_ ?_ ?_ ?Zo ?_ ?Zd ?Zg ?Zt ?_ ?_ ?Zi ?_ ?Zv ?Zvs ?Zn ?Z1 ?Z0 ?Zm ?_; (case Zo => rfl); (case Zd => rfl); (case Zt => exact Tun.out); (case Zi => exact Tzi.out); (case Zg => (first | rfl | (go_simp; done) | fail)); (case Zv => (go_simp; rfl)); (case Zvs => rfl); (case Zn => rfl); (case Z1 => first | rfl | (simp [Value.cells, Value.oneCell']; done) | fail); (case Z0 => decide); (case Zm => decide); intro g_ w_ HN; clear H; have H := HN; clear HN; try simp only [q_1, q_2, q_3, q_4]) | (refine sLit H ?_ ?_ ?_ ?_ ?Zo ?_ ?Zd ?Zg ?_ ?Zlen ?Zm ?Zrun ?_; (case Zo => rfl); (case Zd => rfl); (case Zg => (first | rfl | (go_simp; done) | fail)); (case Zrun => first | (go_simp; done) | (go_simp; rfl)); (case Zlen => rfl); (case Zm => first | (simp [maxLen]; done) | (unfold maxLen; omega)); intro g_ w_ HN; clear H; have H := HN; clear HN; try simp only [q_1, q_2, q_3, q_4])))
      go_roundw
      case rel => exact ⟨.inr (.inr (.inr (.inl (by go_num)))), H.sub (by repeat (first | exact List.Sublist.refl _ | exact List.nil_sublist _ | apply List.Sublist.cons_cons | apply List.Sublist.cons))⟩
      case measure => simp [intOf]
    · go_wp2_with (first | (go_at_call 49; refine (new_bad E _ _ _ hE H 0 Z (by decide) (fun h => absurd h.2.1 (by decide))).mono ?_; rintro e_ w_ ⟨rfl, HN⟩; clear H; have H := HN; clear HN) | (go_at_call 23; refine (fixed_oute E _ _ _ hE 0 hout3 H).mono ?_; rintro e_ w_ ⟨rfl, HN⟩; clear H; have H := HN; clear HN) | (go_at_call 25; refine (is_rangeE E _ (hE.mono H.below)).mono ?_; rintro e_ w_ ⟨rfl, hb_⟩; have HN := H.app hb_; clear hb_; clear H; have H := HN; clear HN) | ((with_reducible refine wpGate ?_); first | (refine sLoad ?_ ?_ ?Zo ?_ ?Zd ?Zg ?Zs ?_ ?Zx ?_ ?Zv ?_; (case Zo => rfl); (case Zd => rfl); (case Zs => exact Tsc.out); (case Zg => (first | rfl | (go_simp; done) | fail)); (case Zx => rfl); (case Zv => (first | (refine H.cellBlk (cs := ?_) (t := ?_) ?Zm1 ?Zv1; (case Zm1 => (repeat (first | exact mh_ | assumption | apply mt_))); (case Zv1 => (first | rfl | (refine map_ix _ _ _ ?_; first | (with_reducible assumption) | omega | (simp; omega)) | (refine map_ix_app _ _ _ _ ?_; first | (with_reducible assumption) | omega | (simp; omega)) | assumption | (simp; done)))) | (refine (H.rdOwn (xs := ?_) (c := ?_) (e := ?_) ?Zm1).get ?Zv1; (case Zm1 => (repeat (first | exact mh_ | assumption | apply mt_))); (case Zv1 => (first | rfl | (refine map_ix _ _ _ ?_; first | (with_reducible assumption) | omega | (simp; omega)) | (refine map_ix_app _ _ _ _ ?_; first | (with_reducible assumption) | omega | (simp; omega)) | assumption | (simp; done)))) | (refine (H.rdRo (xs := ?_) ?Zm1).get ?Zv1; (case Zm1 => (repeat (first | exact mh_ | assumption | apply mt_))); (case Zv1 => (first | rfl | (refine map_ix _ _ _ ?_; first | (with_reducible assumption) | omega | (simp; omega)) | (refine map_ix_app _ _ _ _ ?_; first | (with_reducible assumption) | omega | (simp; omega)) | assumption | (simp; done)))) | (refine H.cellOld ?Zm1; (case Zm1 => assumption)) | fail)); try simp only [q_1, q_2, q_3, q_4]) | (refine sLoadAgg H ?_ ?_ ?Zo ?_ ?Zd ?Zg ?Z1 ?Z2 ?_ ?Zn ?_ ?_ ?Zx ?_ ?_ ?Zm ?Zle ?_ ?Zvs ?_; (case Zo => rfl); (case Zd => rfl); (case Z1 => kernel_rfl); (case Z2 => kernel_rfl); (case Zn => exact Tsz.out); (case Zg => (first | rfl | (go_simp; done) | fail)); (case Zx => rfl); (case Zm => (repeat (first | exact mh_ | assumption | apply mt_))); (case Zle => (first | (with_reducible assumption) | omega | (simp; omega) | (simp; done) | fail)); (case Zvs => (first | (with_reducible refine setWhole _ _ ?_; first | (simp; omega) | (simp; done) | fail) | (with_reducible refine setRange_map _ _ _ _ ?_; first | (with_reducible assumption) | omega) | (with_reducible refine setRange_app _ _ _ _ _ ?_; first | (with_reducible assumption) | omega) | (with_reducible refine take_map_app _ _ _ _ ?_; with_reducible assumption) | (with_reducible refine take_map_w _ _ _ ?_; with_reducible assumption) | (simp only [List.take_zero, List.take_succ_cons, List.take_nil, List.drop_zero, List.drop_succ_cons, List.drop_nil, List.nil_append, List.cons_append, List.append_nil, List.length_cons, List.length_nil, Nat.zero_add, Nat.add_zero, Nat.reduceAdd, Nat.reduceSub]; rfl) | rfl | fail)); try simp only [q_1, q_2, q_3, q_4]) | (refine sIndex ?_ ?_ ?_ ?_ ?Zo ?_ ?Zd ?Zg ?Zt ?Zs ?_ ?_ ?_ ?Zx ?_ ?_ ?Zi ?_ ?Zr ?Z0 ?Z1 ?Zn ?_ ?Zj ?_; (case Zo => rfl); (case Zd => rfl); (case Zt => exact Tun.out); (case Zs => kernel_rfl); (case Zg => (first | rfl | (go_simp; done) | fail)); (case Zx => rfl); (case Zi => rfl); (case Zr => (first | (refine H.rdOwn (c := ?_) (e := ?_) ?Zm1; (case Zm1 => (repeat (first | exact mh_ | assumption | apply mt_)))) | (refine H.rdRo ?Zm1; (case Zm1 => (repeat (first | exact mh_ | assumption | apply mt_)))) | (refine H.rdBlk (t := ?_) ?Zm1; (case Zm1 => (repeat (first | exact mh_ | assumption | apply mt_)))) | exact Rd.none _ _ | fail)); (case Z0 => (first | (with_reducible assumption) | omega | (simp; omega) | (simp; done) | fail)); (case Z1 => (first | (with_reducible assumption) | omega | (simp; omega) | (simp; done) | fail)); (case Zn => (first | (with_reducible assumption) | omega | (simp; omega) | (simp; done) | fail)); (case Zj => first | (go_bits; rfl) | rfl | fail); try simp only [q_1, q_2, q_3, q_4]) | (refine sAlloc H ?_ ?Zo ?_ ?Zd ?Zg ?_ ?Zz ?_ ?Zx ?_; (case Zo => rfl); (case Zd => rfl); (case Zz => exact Tzr.out); (case Zg => (first | rfl | (go_simp; done) | fail)); (case Zx => (simp only [Value.cells]; rfl)); intro g_ w_ HN; clear H; have H := HN; clear HN; try simp only [q_1, q_2, q_3, q_4]) | (refine sStore H ?_ ?_ ?_ ?Zo ?Zd ?Zg ?_ ?_ ?Zp ?_ ?Zx ?_ ?Zs ?Zn ?Z1 ?_ ?_ ?_ ?_ ?Zt ?Zle ?Zds ?_; (case Zo => rfl); (case Zd => rfl); (case Zg => (first | rfl | (go_simp; done) | fail)); (case Zp => rfl); (case Zx => (first | (go_simp; done) | (go_simp; rfl) | rfl)); (case Zs => exact Tst.out); (case Zn => first | (with_reducible rfl) | (rw [List.length_map]; with_reducible assumption) | (simp; omega) | (simp; done) | fail); (case Z1 => (first | rfl | (simp [Value.oneCell']; done))); (case Zt => (first | exact .head | exact (.tail .head) | exact (.tail (.tail .head)) | exact (.tail (.tail (.tail .head))) | exact (.tail (.tail (.tail (.tail .head)))) | exact (.tail (.tail (.tail (.tail (.tail .head))))) | exact (.tail (.tail (.tail (.tail (.tail (.tail .head)))))) | exact (.tail (.tail (.tail (.tail (.tail (.tail (.tail .head))))))) | exact (.tail (.tail (.tail (.tail (.tail (.tail (.tail (.tail .head)))))))))); (case Zle => (first | (with_reducible assumption) | omega | (simp; omega) | (simp; done) | fail)); (case Zds => (first | (with_reducible refine setWhole _ _ ?_; first | (simp; omega) | (simp; done) | fail) | (with_reducible refine setRange_map _ _ _ _ ?_; first | (with_reducible assumption) | omega) | (with_reducible refine setRange_app _ _ _ _ _ ?_; first | (with_reducible assumption) | omega) | (with_reducible refine take_map_app _ _ _ _ ?_; with_reducible assumption) | (with_reducible refine take_map_w _ _ _ ?_; with_reducible assumption) | (simp only [List.take_zero, List.take_succ_cons, List.take_nil, List.drop_zero, List.drop_succ_cons, List.drop_nil, List.nil_append, List.cons_append, List.append_nil, List.length_cons, List.length_nil, Nat.zero_add, Nat.add_zero, Nat.reduceAdd, Nat.reduceSub]; rfl) | rfl | fail)); intro w_ HN; clear H; have H := HN; clear HN; try simp only [q_1, q_2, q_3, q_4]) | (refine sStoreRow H ?_ ?_ ?_ ?Zo ?Zd ?Zg ?_ ?_ ?Zp ?_ ?Zx ?Zu ?Zs ?Z1 ?_ ?_ ?_ ?_ ?Zt ?Zj ?_; (case Zo => rfl); (case Zd => rfl); (case Zs => kernel_rfl); (case Zg => (first | rfl | (go_simp; done) | fail)); (case Zp => rfl); (case Zx => (first | (go_simp; done) | (go_simp; rfl) | rfl)); (case Zu => rfl); (case Z1 => rfl); (case Zt => (first | exact .head | exact (.tail .head) | exact (.tail (.tail .head)) | exact (.tail (.tail (.tail .head))) | exact (.tail (.tail (.tail (.tail .head)))) | exact (.tail (.tail (.tail (.tail (.tail .head))))) | exact (.tail (.tail (.tail (.tail (.tail (.tail .head)))))) | exact (.tail (.tail (.tail (.tail (.tail (.tail (.tail .head))))))) | exact (.tail (.tail (.tail (.tail (.tail (.tail (.tail (.tail .head)))))))))); (case Zj => (first | (with_reducible assumption) | omega | (simp; omega) | (simp; done) | fail)); intro w_ HN; clear H; have H := HN; clear HN; try simp only [q_1, q_2, q_3, q_4]) | (refine sLitN H ?_ ?_ ?_ ?_ ?Zo ?_ ?Zd ?Zg ?Zt ?_ ?_ ?Zi ?_ ?Zv ?Zvs ?Zn ?Z1 ?Z0 ?Zm ?_; (case Zo => rfl); (case Zd => rfl); (case Zt => exact Tun.out); (case Zi => exact Tzi.out); (case Zg => (first | rfl | (go_simp; done) | fail)); (case Zv => (go_simp; rfl)); (case Zvs => rfl); (case Zn => rfl); (case Z1 => first | rfl | (simp [Value.cells, Value.oneCell']; done) | fail); (case Z0 => decide); (case Zm => decide); intro g_ w_ HN; clear H; have H := HN; clear HN; try simp only [q_1, q_2, q_3, q_4]) | (refine sLit H ?_ ?_ ?_ ?_ ?Zo ?_ ?Zd ?Zg ?_ ?Zlen ?Zm ?Zrun ?_; (case Zo => rfl); (case Zd => rfl); (case Zg => (first | rfl | (go_simp; done) | fail)); (case Zrun => first | (go_simp; done) | (go_simp; rfl)); (case Zlen => rfl); (case Zm => first | (simp [maxLen]; done) | (unfold maxLen; omega)); intro g_ w_ HN; clear H; have H := HN; clear HN; try simp only [q_1, q_2, q_3, q_4])))
      go_roundw
      case rel => exact ⟨.inr (.inr (.inr (.inr (.inl (by go_num))))), H.sub (by repeat (first | exact List.Sublist.refl _ | exact List.nil_sublist _ | apply List.Sublist.cons_cons | apply List.Sublist.cons))⟩
      case measure => simp [intOf]
    · go_wp2_with (first | (go_at_call 49; refine (new_bad E _ _ _ hE H 9223372036854775808 Z (by decide) (fun h => absurd h.2.1 (by decide))).mono ?_; rintro e_ w_ ⟨rfl, HN⟩; clear H; have H := HN; clear HN) | (go_at_call 23; refine (fixed_oute E _ _ _ hE 9223372036854775808 hout4 H).mono ?_; rintro e_ w_ ⟨rfl, HN⟩; clear H; have H := HN; clear HN) | (go_at_call 25; refine (is_rangeE E _ (hE.mono H.below)).mono ?_; rintro e_ w_ ⟨rfl, hb_⟩; have HN := H.app hb_; clear hb_; clear H; have H := HN; clear HN) | ((with_reducible refine wpGate ?_); first | (refine sLoad ?_ ?_ ?Zo ?_ ?Zd ?Zg ?Zs ?_ ?Zx ?_ ?Zv ?_; (case Zo => rfl); (case Zd => rfl); (case Zs => exact Tsc.out); (case Zg => (first | rfl | (go_simp; done) | fail)); (case Zx => rfl); (case Zv => (first | (refine H.cellBlk (cs := ?_) (t := ?_) ?Zm1 ?Zv1; (case Zm1 => (repeat (first | exact mh_ | assumption | apply mt_))); (case Zv1 => (first | rfl | (refine map_ix _ _ _ ?_; first | (with_reducible assumption) | omega | (simp; omega)) | (refine map_ix_app _ _ _ _ ?_; first | (with_reducible assumption) | omega | (simp; omega)) | assumption | (simp; done)))) | (refine (H.rdOwn (xs := ?_) (c := ?_) (e := ?_) ?Zm1).get ?Zv1; (case Zm1 => (repeat (first | exact mh_ | assumption | apply mt_))); (case Zv1 => (first | rfl | (refine map_ix _ _ _ ?_; first | (with_reducible assumption) | omega | (simp; omega)) | (refine map_ix_app _ _ _ _ ?_; first | (with_reducible assumption) | omega | (simp; omega)) | assumption | (simp; done)))) | (refine (H.rdRo (xs := ?_) ?Zm1).get ?Zv1; (case Zm1 => (repeat (first | exact mh_ | assumption | apply mt_))); (case Zv1 => (first | rfl | (refine map_ix _ _ _ ?_; first | (with_reducible assumption) | omega | (simp; omega)) | (refine map_ix_app _ _ _ _ ?_; first | (with_reducible assumption) | omega | (simp; omega)) | assumption | (simp; done)))) | (refine H.cellOld ?Zm1; (case Zm1 => assumption)) | fail)); try simp only [q_1, q_2, q_3, q_4]) | (refine sLoadAgg H ?_ ?_ ?Zo ?_ ?Zd ?Zg ?Z1 ?Z2 ?_ ?Zn ?_ ?_ ?Zx ?_ ?_ ?Zm ?Zle ?_ ?Zvs ?_; (case Zo => rfl); (case Zd => rfl); (case Z1 => kernel_rfl); (case Z2 => kernel_rfl); (case Zn => exact Tsz.out); (case Zg => (first | rfl | (go_simp; done) | fail)); (case Zx => rfl); (case Zm => (repeat (first | exact mh_ | assumption | apply mt_))); (case Zle => (first | (with_reducible assumption) | omega | (simp; omega) | (simp; done) | fail)); (case Zvs => (first | (with_reducible refine setWhole _ _ ?_; first | (simp; omega) | (simp; done) | fail) | (with_reducible refine setRange_map _ _ _ _ ?_; first | (with_reducible assumption) | omega) | (with_reducible refine setRange_app _ _ _ _ _ ?_; first | (with_reducible assumption) | omega) | (with_reducible refine take_map_app _ _ _ _ ?_; with_reducible assumption) | (with_reducible refine take_map_w _ _ _ ?_; with_reducible assumption) | (simp only [List.take_zero, List.take_succ_cons, List.take_nil, List.drop_zero, List.drop_succ_cons, List.drop_nil, List.nil_append, List.cons_append, List.append_nil, List.length_cons, List.length_nil, Nat.zero_add, Nat.add_zero, Nat.reduceAdd, Nat.reduceSub]; rfl) | rfl | fail)); try simp only [q_1, q_2, q_3, q_4]) | (refine sIndex ?_ ?_ ?_ ?_ ?Zo ?_ ?Zd ?Zg ?Zt ?Zs ?_ ?_ ?_ ?Zx ?_ ?_ ?Zi ?_ ?Zr ?Z0 ?Z1 ?Zn ?_ ?Zj ?_; (case Zo => rfl); (case Zd => rfl); (case Zt => exact Tun.out); (case Zs => kernel_rfl); (case Zg => (first | rfl | (go_simp; done) | fail)); (case Zx => rfl); (case Zi => rfl); (case Zr => (first | (refine H.rdOwn (c := ?_) (e := ?_) ?Zm1; (case Zm1 => (repeat (first | exact mh_ | assumption | apply mt_)))) | (refine H.rdRo ?Zm1; (case Zm1 => (repeat (first | exact mh_ | assumption | apply mt_)))) | (refine H.rdBlk (t := ?_) ?Zm1; (case Zm1 => (repeat (first | exact mh_ | assumption | apply mt_)))) | exact Rd.none _ _ | fail)); (case Z0 => (first | (with_reducible assumption) | omega | (simp; omega) | (simp; done) | fail)); (case Z1 => (first | (with_reducible assumption) | omega | (simp; omega) | (simp; done) | fail)); (case Zn => (first | (with_reducible assumption) | omega | (simp; omega) | (simp; done) | fail)); (case Zj => first | (go_bits; rfl) | rfl | fail); try simp only [q_1, q_2, q_3, q_4]) | (refine sAlloc H ?_ ?Zo ?_ ?Zd ?Zg ?_ ?Zz ?_ ?Zx ?_; (case Zo => rfl); (case Zd => rfl); (case Zz => exact Tzr.out); (case Zg => (first | rfl | (go_simp; done) | fail)); (case Zx => (simp only [Value.cells]; rfl)); intro g_ w_ HN; clear H; have H := HN; clear HN; try simp only [q_1, q_2, q_3, q_4]) | (refine sStore H ?_ ?_ ?_ ?Zo ?Zd ?Zg ?_ ?_ ?Zp ?_ ?Zx ?_ ?Zs ?Zn ?Z1 ?_ ?_ ?_ ?_ ?Zt ?Zle ?Zds ?_; (case Zo => rfl); (case Zd => rfl); (case Zg => (first | rfl | (go_simp; done) | fail)); (case Zp => rfl); (case Zx => (first | (go_simp; done) | (go_simp; rfl) | rfl)); (case Zs => exact Tst.out); (case Zn => first | (with_reducible rfl) | (rw [List.length_map]; with_reducible assumption) | (simp; omega) | (simp; done) | fail); (case Z1 => (first | rfl | (simp [Value.oneCell']; done))); (case Zt => (first | exact .head | exact (.tail .head) | exact (.tail (.tail .head)) | exact (.tail (.tail (.tail .head))) | exact (.tail (.tail (.tail (.tail .head)))) | exact (.tail (.tail (.tail (.tail (.tail .head))))) | exact (.tail (.tail (.tail (.tail (.tail (.tail .head)))))) | exact (.tail (.tail (.tail (.tail (.tail (.tail (.tail .head))))))) | exact (.tail (.tail (.tail (.tail (.tail (.tail (.tail (.tail .head)))))))))); (case Zle => (first | (with_reducible assumption) | omega | (simp; omega) | (simp; done) | fail)); (case Zds => (first | (with_reducible refine setWhole _ _ ?_; first | (simp; omega) | (simp; done) | fail) | (with_reducible refine setRange_map _ _ _ _ ?_; first | (with_reducible assumption) | omega) | (with_reducible refine setRange_app _ _ _ _ _ ?_; first | (with_reducible assumption) | omega) | (with_reducible refine take_map_app _ _ _ _ ?_; with_reducible assumption) | (with_reducible refine take_map_w _ _ _ ?_; with_reducible assumption) | (simp only [List.take_zero, List.take_succ_cons, List.take_nil, List.drop_zero, List.drop_succ_cons, List.drop_nil, List.nil_append, List.cons_append, List.append_nil, List.length_cons, List.length_nil, Nat.zero_add, Nat.add_zero, Nat.reduceAdd, Nat.reduceSub]; rfl) | rfl | fail)); intro w_ HN; clear H; have H := HN; clear HN; try simp only [q_1, q_2, q_3, q_4]) | (refine sStoreRow H ?_ ?_ ?_ ?Zo ?Zd ?Zg ?_ ?_ ?Zp ?_ ?Zx ?Zu ?Zs ?Z1 ?_ ?_ ?_ ?_ ?Zt ?Zj ?_; (case Zo => rfl); (case Zd => rfl); (case Zs => kernel_rfl); (case Zg => (first | rfl | (go_simp; done) | fail)); (case Zp => rfl); (case Zx => (first | (go_simp; done) | (go_simp; rfl) | rfl)); (case Zu => rfl); (case Z1 => rfl); (case Zt => (first | exact .head | exact (.tail .head) | exact (.tail (.tail .head)) | exact (.tail (.tail (.tail .head))) | exact (.tail (.tail (.tail (.tail .head)))) | exact (.tail (.tail (.tail (.tail (.tail .head))))) | exact (.tail (.tail (.tail (.tail (.tail (.tail .head)))))) | exact (.tail (.tail (.tail (.tail (.tail (.tail (.tail .head))))))) | exact (.tail (.tail (.tail (.tail (.tail (.tail (.tail (.tail .head)))))))))); (case Zj => (first | (with_reducible assumption) | omega | (simp; omega) | (simp; done) | fail)); intro w_ HN; clear H; have H := HN; clear HN; try simp only [q_1, q_2, q_3, q_4]) | (refine sLitN H ?_ ?_ ?_ ?_ ?Zo ?_ ?Zd ?Zg ?Zt ?_ ?_ ?Zi ?_ ?Zv ?Zvs ?Zn ?Z1 ?Z0 ?Zm ?_; (case Zo => rfl); (case Zd => rfl); (case Zt => exact Tun.out); (case Zi => exact Tzi.out); (case Zg => (first | rfl | (go_simp; done) | fail)); (case Zv => (go_simp; rfl)); (case Zvs => rfl); (case Zn => rfl); (case Z1 => first | rfl | (simp [Value.cells, Value.oneCell']; done) | fail); (case Z0 => decide); (case Zm => decide); intro g_ w_ HN; clear H; have H := HN; clear HN; try simp only [q_1, q_2, q_3, q_4]) | (refine sLit H ?_ ?_ ?_ ?_ ?Zo ?_ ?Zd ?Zg ?_ ?Zlen ?Zm ?Zrun ?_; (case Zo => rfl); (case Zd => rfl); (case Zg => (first | rfl | (go_simp; done) | fail)); (case Zrun => first | (go_simp; done) | (go_simp; rfl)); (case Zlen => rfl); (case Zm => first | (simp [maxLen]; done) | (unfold maxLen; omega)); intro g_ w_ HN; clear H; have H := HN; clear HN; try simp only [q_1, q_2, q_3, q_4])))
      go_roundw
      case rel => exact ⟨.inr (.inr (.inr (.inr (.inr (.inl (by go_num)))))), H.sub (by repeat (first | exact List.Sublist.refl _ | exact List.nil_sublist _ | apply List.Sublist.cons_cons | apply List.Sublist.cons))⟩
      case measure => simp [intOf]
    · go_wp2_with (first | (go_at_call 49; refine (new_bad E _ _ _ hE H 13830554455654793216 Z (by decide) (fun h => absurd h.2.1 (by decide))).mono ?_; rintro e_ w_ ⟨rfl, HN⟩; clear H; have H := HN; clear HN) | (go_at_call 23; refine (fixed_oute E _ _ _ hE 13830554455654793216 hout5 H).mono ?_; rintro e_ w_ ⟨rfl, HN⟩; clear H; have H := HN; clear HN) | (go_at_call 25; refine (is_rangeE E _ (hE.mono H.below)).mono ?_; rintro e_ w_ ⟨rfl, hb_⟩; have HN := H.app hb_; clear hb_; clear H; have H := HN; clear HN) | ((with_reducible refine wpGate ?_); first | (refine sLoad ?_ ?_ ?Zo ?_ ?Zd ?Zg ?Zs ?_ ?Zx ?_ ?Zv ?_; (case Zo => rfl); (case Zd => rfl); (case Zs => exact Tsc.out); (case Zg => (first | rfl | (go_simp; done) | fail)); (case Zx => rfl); (case Zv => (first | (refine H.cellBlk (cs := ?_) (t := ?_) ?Zm1 ?Zv1; (case Zm1 => (repeat (first | exact mh_ | assumption | apply mt_))); (case Zv1 => (first | rfl | (refine map_ix _ _ _ ?_; first | (with_reducible assumption) | omega | (simp; omega)) | (refine map_ix_app _ _ _ _ ?_; first | (with_reducible assumption) | omega | (simp; omega)) | assumption | (simp; done)))) | (refine (H.rdOwn (xs := ?_) (c := ?_) (e := ?_) ?Zm1).get ?Zv1; (case Zm1 => (repeat (first | exact mh_ | assumption | apply mt_))); (case Zv1 => (first | rfl | (refine map_ix _ _ _ ?_; first | (with_reducible assumption) | omega | (simp; omega)) | (refine map_ix_app _ _ _ _ ?_; first | (with_reducible assumption) | omega | (simp; omega)) | assumption | (simp; done)))) | (refine (H.rdRo (xs := ?_) ?Zm1).get ?Zv1; (case Zm1 => (repeat (first | exact mh_ | assumption | apply mt_))); (case Zv1 => (first | rfl | (refine map_ix _ _ _ ?_; first | (with_reducible assumption) | omega | (simp; omega)) | (refine map_ix_app _ _ _ _ ?_; first | (with_reducible assumption) | omega | (simp; omega)) | assumption | (simp; done)))) | (refine H.cellOld ?Zm1; (case Zm1 => assumption)) | fail)); try simp only [q_1, q_2, q_3, q_4]) | (refine sLoadAgg H ?_ ?_ ?Zo ?_ ?Zd ?Zg ?Z1 ?Z2 ?_ ?Zn ?_ ?_ ?Zx ?_ ?_ ?Zm ?Zle ?_ ?Zvs ?_; (case Zo => rfl); (case Zd => rfl); (case Z1 => kernel_rfl); (case Z2 => kernel_rfl); (case Zn => exact Tsz.out); (case Zg => (first | rfl | (go_simp; done) | fail)); (case Zx => rfl); (case Zm => (repeat (first | exact mh_ | assumption | apply mt_))); (case Zle => (first | (with_reducible assumption) | omega | (simp; omega) | (simp; done) | fail)); (case Zvs => (first | (with_reducible refine setWhole _ _ ?_; first | (simp; omega) | (simp; done) | fail) | (with_reducible refine setRange_map _ _ _ _ ?_; first | (with_reducible assumption) | omega) | (with_reducible refine setRange_app _ _ _ _ _ ?_; first | (with_reducible assumption) | omega) | (with_reducible refine take_map_app _ _ _ _ ?_; with_reducible assumption) | (with_reducible refine take_map_w _ _ _ ?_; with_reducible assumption) | (simp only [List.take_zero, List.take_succ_cons, List.take_nil, List.drop_zero, List.drop_succ_cons, List.drop_nil, List.nil_append, List.cons_append, List.append_nil, List.length_cons, List.length_nil, Nat.zero_add, Nat.add_zero, Nat.reduceAdd, Nat.reduceSub]; rfl) | rfl | fail)); try simp only [q_1, q_2, q_3, q_4]) | (refine sIndex ?_ ?_ ?_ ?_ ?Zo ?_ ?Zd ?Zg ?Zt ?Zs ?_ ?_ ?_ ?Zx ?_ ?_ ?Zi ?_ ?Zr ?Z0 ?Z1 ?Zn ?_ ?Zj ?_; (case Zo => rfl); (case Zd => rfl); (case Zt => exact Tun.out); (case Zs => kernel_rfl); (case Zg => (first | rfl | (go_simp; done) | fail)); (case Zx => rfl); (case Zi => rfl); (case Zr => (first | (refine H.rdOwn (c := ?_) (e := ?_) ?Zm1; (case Zm1 => (repeat (first | exact mh_ | assumption | apply mt_)))) | (refine H.rdRo ?Zm1; (case Zm1 => (repeat (first | exact mh_ | assumption | apply mt_)))) | (refine H.rdBlk (t := ?_) ?Zm1; (case Zm1 => (repeat (first | exact mh_ | assumption | apply mt_)))) | exact Rd.none _ _ | fail)); (case Z0 => (first | (with_reducible assumption) | omega | (simp; omega) | (simp; done) | fail)); (case Z1 => (first | (with_reducible assumption) | omega | (simp; omega) | (simp; done) | fail)); (case Zn => (first | (with_reducible assumption) | omega | (simp; omega) | (simp; done) | fail)); (case Zj => first | (go_bits; rfl) | rfl | fail); try simp only [q_1, q_2, q_3, q_4]) | (refine sAlloc H ?_ ?Zo ?_ ?Zd ?Zg ?_ ?Zz ?_ ?Zx ?_; (case Zo => rfl); (case Zd => rfl); (case Zz => exact Tzr.out); (case Zg => (first | rfl | (go_simp; done) | fail)); (case Zx => (simp only [Value.cells]; rfl)); intro g_ w_ HN; clear H; have H := HN; clear HN; try simp only [q_1, q_2, q_3, q_4]) | (refine sStore H ?_ ?_ ?_ ?Zo ?Zd ?Zg ?_ ?_ ?Zp ?_ ?Zx ?_ ?Zs ?Zn ?Z1 ?_ ?_ ?_ ?_ ?Zt ?Zle ?Zds ?_; (case Zo => rfl); (case Zd => rfl); (case Zg => (first | rfl | (go_simp; done) | fail)); (case Zp => rfl); (case Zx => (first | (go_simp; done) | (go_simp; rfl) | rfl)); (case Zs => exact Tst.out); (case Zn => first | (with_reducible rfl) | (rw [List.length_map]; with_reducible assumption) | (simp; omega) | (simp; done) | fail); (case Z1 => (first | rfl | (simp [Value.oneCell']; done))); (case Zt => (first | exact .head | exact (.tail .head) | exact (.tail (.tail .head)) | exact (.tail (.tail (.tail .head))) | exact (.tail (.tail (.tail (.tail .head)))) | exact (.tail (.tail (.tail (.tail (.tail .head))))) | exact (.tail (.tail (.tail (.tail (.tail (.tail .head)))))) | exact (.tail (.tail (.tail (.tail (.tail (.tail (.tail .head))))))) | exact (.tail (.tail (.tail (.tail (.tail (.tail (.tail (.tail .head)))))))))); (case Zle => (first | (with_reducible assumption) | omega | (simp; omega) | (simp; done) | fail)); (case Zds => (first | (with_reducible refine setWhole _ _ ?_; first | (simp; omega) | (simp; done) | fail) | (with_reducible refine setRange_map _ _ _ _ ?_; first | (with_reducible assumption) | omega) | (with_reducible refine setRange_app _ _ _ _ _ ?_; first | (with_reducible assumption) | omega) | (with_reducible refine take_map_app _ _ _ _ ?_; with_reducible assumption) | (with_reducible refine take_map_w _ _ _ ?_; with_reducible assumption) | (simp only [List.take_zero, List.take_succ_cons, List.take_nil, List.drop_zero, List.drop_succ_cons, List.drop_nil, List.nil_append, List.cons_append, List.append_nil, List.length_cons, List.length_nil, Nat.zero_add, Nat.add_zero, Nat.reduceAdd, Nat.reduceSub]; rfl) | rfl | fail)); intro w_ HN; clear H; have H := HN; clear HN; try simp only [q_1, q_2, q_3, q_4]) | (refine sStoreRow H ?_ ?_ ?_ ?Zo ?Zd ?Zg ?_ ?_ ?Zp ?_ ?Zx ?Zu ?Zs ?Z1 ?_ ?_ ?_ ?_ ?Zt ?Zj ?_; (case Zo => rfl); (case Zd => rfl); (case Zs => kernel_rfl); (case Zg => (first | rfl | (go_simp; done) | fail)); (case Zp => rfl); (case Zx => (first | (go_simp; done) | (go_simp; rfl) | rfl)); (case Zu => rfl); (case Z1 => rfl); (case Zt => (first | exact .head | exact (.tail .head) | exact (.tail (.tail .head)) | exact (.tail (.tail (.tail .head))) | exact (.tail (.tail (.tail (.tail .head)))) | exact (.tail (.tail (.tail (.tail (.tail .head))))) | exact (.tail (.tail (.tail (.tail (.tail (.tail .head)))))) | exact (.tail (.tail (.tail (.tail (.tail (.tail (.tail .head))))))) | exact (.tail (.tail (.tail (.tail (.tail (.tail (.tail (.tail .head)))))))))); (case Zj => (first | (with_reducible assumption) | omega | (simp; omega) | (simp; done) | fail)); intro w_ HN; clear H; have H := HN; clear HN; try simp only [q_1, q_2, q_3, q_4]) | (refine sLitN H ?_ ?_ ?_ ?_ ?Zo ?_ ?Zd ?Zg ?Zt ?_ ?_ ?Zi ?_ ?Zv ?Zvs ?Zn ?Z1 ?Z0 ?Zm ?_; (case Zo => rfl); (case Zd => rfl); (case Zt => exact Tun.out); (case Zi => exact Tzi.out); (case Zg => (first | rfl | (go_simp; done) | fail)); (case Zv => (go_simp; rfl)); (case Zvs => rfl); (case Zn => rfl); (case Z1 => first | rfl | (simp [Value.cells, Value.oneCell']; done) | fail); (case Z0 => decide); (case Zm => decide); intro g_ w_ HN; clear H; have H := HN; clear HN; try simp only [q_1, q_2, q_3, q_4]) | (refine sLit H ?_ ?_ ?_ ?_ ?Zo ?_ ?Zd ?Zg ?_ ?Zlen ?Zm ?Zrun ?_; (case Zo => rfl); (case Zd => rfl); (case Zg => (first | rfl | (go_simp; done) | fail)); (case Zrun => first | (go_simp; done) | (go_simp; rfl)); (case Zlen => rfl); (case Zm => first | (simp [maxLen]; done) | (unfold maxLen; omega)); intro g_ w_ HN; clear H; have H := HN; clear HN; try simp only [q_1, q_2, q_3, q_4])))
      go_roundw
      case rel => exact ⟨.inr (.inr (.inr (.inr (.inr (.inr (by go_num)))))), H.sub (by repeat (first | exact List.Sublist.refl _ | exact List.nil_sublist _ | apply List.Sublist.cons_cons | apply List.Sublist.cons))⟩
      case measure => simp [intOf]
    · go_wp2_with (first | (go_at_call 29; (with_reducible refine (ld_lo _).mono ?_); rintro e_ w_ ⟨rfl, rfl⟩; ) | (go_at_call 29; (with_reducible refine (ld_hi _).mono ?_); rintro e_ w_ ⟨rfl, rfl⟩; ) | (go_at_call 23; (with_reducible refine (fixed_lo _ _ _ H).mono ?_); rintro e_ w_ ⟨rfl, HN⟩; clear H; have H := HN; clear HN) | (go_at_call 23; (with_reducible refine (fixed_hi _ _ _ H).mono ?_); rintro e_ w_ ⟨rfl, HN⟩; clear H; have H := HN; clear HN) | (go_at_call 61; (with_reducible refine (next_hi _).mono ?_); rintro e_ w_ ⟨rfl, rfl⟩; ) | (go_at_call 61; (with_reducible refine (next_lo _).mono ?_); rintro e_ w_ ⟨rfl, rfl⟩; ) | (go_at_call 23; (with_reducible refine (fixed_oute E _ _ _ hE 4742290407621132289 hup H).mono ?_); rintro e_ w_ ⟨rfl, HN⟩; clear H; have H := HN; clear HN) | (go_at_call 23; (with_reducible refine (fixed_oute E _ _ _ hE 4472074429978902527 hdn H).mono ?_); rintro e_ w_ ⟨rfl, HN⟩; clear H; have H := HN; clear HN) | (go_at_call 49; (with_reducible refine (hnw _ _ _ H).mono ?_); rintro e_ w_ ⟨rfl, HN⟩; clear H; have H := HN; clear HN) | (go_at_call 51; (with_reducible refine (hof _ _ _ H).mono ?_); rintro e_ w_ ⟨rfl, HN⟩; clear H; have H := HN; clear HN) | ((with_reducible refine wpGate ?_); first | (refine sLoad ?_ ?_ ?Zo ?_ ?Zd ?Zg ?Zs ?_ ?Zx ?_ ?Zv ?_; (case Zo => rfl); (case Zd => rfl); (case Zs => exact Tsc.out); (case Zg => (first | rfl | (go_simp; done) | fail)); (case Zx => rfl); (case Zv => (first | (refine H.cellBlk (cs := ?_) (t := ?_) ?Zm1 ?Zv1; (case Zm1 => (repeat (first | exact mh_ | assumption | apply mt_))); (case Zv1 => (first | rfl | (refine map_ix _ _ _ ?_; first | (with_reducible assumption) | omega | (simp; omega)) | (refine map_ix_app _ _ _ _ ?_; first | (with_reducible assumption) | omega | (simp; omega)) | assumption | (simp; done)))) | (refine (H.rdOwn (xs := ?_) (c := ?_) (e := ?_) ?Zm1).get ?Zv1; (case Zm1 => (repeat (first | exact mh_ | assumption | apply mt_))); (case Zv1 => (first | rfl | (refine map_ix _ _ _ ?_; first | (with_reducible assumption) | omega | (simp; omega)) | (refine map_ix_app _ _ _ _ ?_; first | (with_reducible assumption) | omega | (simp; omega)) | assumption | (simp; done)))) | (refine (H.rdRo (xs := ?_) ?Zm1).get ?Zv1; (case Zm1 => (repeat (first | exact mh_ | assumption | apply mt_))); (case Zv1 => (first | rfl | (refine map_ix _ _ _ ?_; first | (with_reducible assumption) | omega | (simp; omega)) | (refine map_ix_app _ _ _ _ ?_; first | (with_reducible assumption) | omega | (simp; omega)) | assumption | (simp; done)))) | (refine H.cellOld ?Zm1; (case Zm1 => assumption)) | fail)); try simp only [q_1, q_2, q_3, q_4]) | (refine sLoadAgg H ?_ ?_ ?Zo ?_ ?Zd ?Zg ?Z1 ?Z2 ?_ ?Zn ?_ ?_ ?Zx ?_ ?_ ?Zm ?Zle ?_ ?Zvs ?_; (case Zo => rfl); (case Zd => rfl); (case Z1 => kernel_rfl); (case Z2 => kernel_rfl); (case Zn => exact Tsz.out); (case Zg => (first | rfl | (go_simp; done) | fail)); (case Zx => rfl); (case Zm => (repeat (first | exact mh_ | assumption | apply mt_))); (case Zle => (first | (with_reducible assumption) | omega | (simp; omega) | (simp; done) | fail)); (case Zvs => (first | (with_reducible refine setWhole _ _ ?_; first | (simp; omega) | (simp; done) | fail) | (with_reducible refine setRange_map _ _ _ _ ?_; first | (with_reducible assumption) | omega) | (with_reducible refine setRange_app _ _ _ _ _ ?_; first | (with_reducible assumption) | omega) | (with_reducible refine take_map_app _ _ _ _ ?_; with_reducible assumption) | (with_reducible refine take_map_w _ _ _ ?_; with_reducible assumption) | (simp only [List.take_zero, List.take_succ_cons, List.take_nil, List.drop_zero, List.drop_succ_cons, List.drop_nil, List.nil_append, List.cons_append, List.append_nil, List.length_cons, List.length_nil, Nat.zero_add, Nat.add_zero, Nat.reduceAdd, Nat.reduceSub]; rfl) | rfl | fail)); try simp only [q_1, q_2, q_3, q_4]) | (refine sIndex ?_ ?_ ?_ ?_ ?Zo ?_ ?Zd ?Zg ?Zt ?Zs ?_ ?_ ?_ ?Zx ?_ ?_ ?Zi ?_ ?Zr ?Z0 ?Z1 ?Zn ?_ ?Zj ?_; (case Zo => rfl); (case Zd => rfl); (case Zt => exact Tun.out); (case Zs => kernel_rfl); (case Zg => (first | rfl | (go_simp; done) | fail)); (case Zx => rfl); (case Zi => rfl); (case Zr => (first | (refine H.rdOwn (c := ?_) (e := ?_) ?Zm1; (case Zm1 => (repeat (first | exact mh_ | assumption | apply mt_)))) | (refine H.rdRo ?Zm1; (case Zm1 => (repeat (first | exact mh_ | assumption | apply mt_)))) | (refine H.rdBlk (t := ?_) ?Zm1; (case Zm1 => (repeat (first | exact mh_ | assumption | apply mt_)))) | exact Rd.none _ _ | fail)); (case Z0 => (first | (with_reducible assumption) | omega | (simp; omega) | (simp; done) | fail)); (case Z1 => (first | (with_reducible assumption) | omega | (simp; omega) | (simp; done) | fail)); (case Zn => (first | (with_reducible assumption) | omega | (simp; omega) | (simp; done) | fail)); (case Zj => first | (go_bits; rfl) | rfl | fail); try simp only [q_1, q_2, q_3, q_4]) | (refine sAlloc H ?_ ?Zo ?_ ?Zd ?Zg ?_ ?Zz ?_ ?Zx ?_; (case Zo => rfl); (case Zd => rfl); (case Zz => exact Tzr.out); (case Zg => (first | rfl | (go_simp; done) | fail)); (case Zx => (simp only [Value.cells]; rfl)); intro g_ w_ HN; clear H; have H := HN; clear HN; try simp only [q_1, q_2, q_3, q_4]) | (refine sStore H ?_ ?_ ?_ ?Zo ?Zd ?Zg ?_ ?_ ?Zp ?_ ?Zx ?_ ?Zs ?Zn ?Z1 ?_ ?_ ?_ ?_ ?Zt ?Zle ?Zds ?_; (case Zo => rfl); (case Zd => rfl); (case Zg => (first | rfl | (go_simp; done) | fail)); (case Zp => rfl); (case Zx => (first | (go_simp; done) | (go_simp; rfl) | rfl)); (case Zs => exact Tst.out); (case Zn => first | (with_reducible rfl) | (rw [List.length_map]; with_reducible assumption) | (simp; omega) | (simp; done) | fail); (case Z1 => (first | rfl | (simp [Value.oneCell']; done))); (case Zt => (first | exact .head | exact (.tail .head) | exact (.tail (.tail .head)) | exact (.tail (.tail (.tail .head))) | exact (.tail (.tail (.tail (.tail .head)))) | exact (.tail (.tail (.tail (.tail (.tail .head))))) | exact (.tail (.tail (.tail (.tail (.tail (.tail .head)))))) | exact (.tail (.tail (.tail (.tail (.tail (.tail (.tail .head))))))) | exact (.tail (.tail (.tail (.tail (.tail (.tail (.tail (.tail .head)))))))))); (case Zle => (first | (with_reducible assumption) | omega | (simp; omega) | (simp; done) | fail)); (case Zds => (first | (with_reducible refine setWhole _ _ ?_; first | (simp; omega) | (simp; done) | fail) | (with_reducible refine setRange_map _ _ _ _ ?_; first | (with_reducible assumption) | omega) | (with_reducible refine setRange_app _ _ _ _ _ ?_; first | (with_reducible assumption) | omega) | (with_reducible refine take_map_app _ _ _ _ ?_; with_reducible assumption) | (with_reducible refine take_map_w _ _ _ ?_; with_reducible assumption) | (simp only [List.take_zero, List.take_succ_cons, List.take_nil, List.drop_zero, List.drop_succ_cons, List.drop_nil, List.nil_append, List.cons_append, List.append_nil, List.length_cons, List.length_nil, Nat.zero_add, Nat.add_zero, Nat.reduceAdd, Nat.reduceSub]; rfl) | rfl | fail)); intro w_ HN; clear H; have H := HN; clear HN; try simp only [q_1, q_2, q_3, q_4]) | (refine sStoreRow H ?_ ?_ ?_ ?Zo ?Zd ?Zg ?_ ?_ ?Zp ?_ ?Zx ?Zu ?Zs ?Z1 ?_ ?_ ?_ ?_ ?Zt ?Zj ?_; (case Zo => rfl); (case Zd => rfl); (case Zs => kernel_rfl); (case Zg => (first | rfl | (go_simp; done) | fail)); (case Zp => rfl); (case Zx => (first | (go_simp; done) | (go_simp; rfl) | rfl)); (case Zu => rfl); (case Z1 => rfl); (case Zt => (first | exact .head | exact (.tail .head) | exact (.tail (.tail .head)) | exact (.tail (.tail (.tail .head))) | exact (.tail (.tail (.tail (.tail .head)))) | exact (.tail (.tail (.tail (.tail (.tail .head))))) | exact (.tail (.tail (.tail (.tail (.tail (.tail .head)))))) | exact (.tail (.tail (.tail (.tail (.tail (.tail (.tail .head))))))) | exact (.tail (.tail (.tail (.tail (.tail (.tail (.tail (.tail .head)))))))))); (case Zj => (first | (with_reducible assumption) | omega | (simp; omega) | (simp; done) | fail)); intro w_ HN; clear H; have H := HN; clear HN; try simp only [q_1, q_2, q_3, q_4]) | (refine sLitN H ?_ ?_ ?_ ?_ ?Zo ?_ ?Zd ?Zg ?Zt ?_ ?_ ?Zi ?_ ?Zv ?Zvs ?Zn ?Z1 ?Z0 ?Zm ?_; (case Zo => rfl); (case Zd => rfl); (case Zt => exact Tun.out); (case Zi => exact Tzi.out); (case Zg => (first | rfl | (go_simp; done) | fail)); (case Zv => (go_simp; rfl)); (case Zvs => rfl); (case Zn => rfl); (case Z1 => first | rfl | (simp [Value.cells, Value.oneCell']; done) | fail); (case Z0 => decide); (case Zm => decide); intro g_ w_ HN; clear H; have H := HN; clear HN; try simp only [q_1, q_2, q_3, q_4]) | (refine sLit H ?_ ?_ ?_ ?_ ?Zo ?_ ?Zd ?Zg ?_ ?Zlen ?Zm ?Zrun ?_; (case Zo => rfl); (case Zd => rfl); (case Zg => (first | rfl | (go_simp; done) | fail)); (case Zrun => first | (go_simp; done) | (go_simp; rfl)); (case Zlen => rfl); (case Zm => first | (simp [maxLen]; done) | (unfold maxLen; omega)); intro g_ w_ HN; clear H; have H := HN; clear HN; try simp only [q_1, q_2, q_3, q_4])))
      (go_ret; exact ⟨by first | rfl | (simp; done), H.sub (by repeat (first | exact List.Sublist.refl _ | exact List.nil_sublist _ | apply List.Sublist.cons_cons | apply List.Sublist.cons))⟩)
end Go.Proofs.YtcpfangcibilaaaDoor

/- Sum of package flt, walked. No condition. -/
namespace Go.Proofs.YtcpfangcibilaaaDoor
set_option linter.unusedVariables false
set_option linter.unusedSimpArgs false
open Go.RowKit

theorem add_nanH {w0 w : World} {L : List Ent} (H : St w0 w L) (x y : Nat) (h : Ieee.double.add x y = none) : ∃ v, v < 18446744073709551616 ∧ isn v = true ∧ (binOp .add 22 (.float .f64 x) (.float .f64 y)).run Tryd.prog w = .ok (.float .f64 v) w.drew ∧ St w0 w.drew L := by
  have hp : INF = 9218868437227405312 := rfl
  obtain ⟨t, ht⟩ : ∃ t, t = w.tape w.drawn (Question.nanBits .f64 x y) := ⟨_, rfl⟩
  refine ⟨(t % 2) * 2 ^ 63 + 0x7ff0000000000000 + 1 + (t / 2) % (2 ^ 52 - 1), ?_, ?_, ?_, H.drew⟩
  · rw [show 2 ^ 63 = 9223372036854775808 by decide, show 2 ^ 52 - 1 = 4503599627370495 by decide]
    have := Nat.mod_lt (t / 2) (show 0 < 4503599627370495 by decide)
    omega
  · rw [show 2 ^ 63 = 9223372036854775808 by decide, show 2 ^ 52 - 1 = 4503599627370495 by decide]
    have := Nat.mod_lt (t / 2) (show 0 < 4503599627370495 by decide)
    have e : rung (t % 2 * 9223372036854775808 + 9218868437227405312 + 1 + t / 2 % 4503599627370495) = 9218868437227405312 + 1 + t / 2 % 4503599627370495 := by
      unfold rung
      generalize t / 2 % 4503599627370495 = c at *
      have := Nat.mod_lt t (show 0 < 2 by decide)
      generalize t % 2 = b at *
      omega
    unfold isn
    rw [e]
    exact decide_eq_true (by omega)
  · have hf : (Question.nanBits FloatKind.f64 x y).forced = false := rfl
    have hd : FloatKind.f64.format.add x y = none := h
    rw [ht]
    simp [binOp, Op.floatArith, hd, Result.andThen, hf, Question.cut]
set_option maxRecDepth 100000 in
set_option maxHeartbeats 1000000 in
theorem sum_gen (w0 w : World) (L : List Ent) (A : Option Addr) (xs : List Nat) (n k c : Nat) (hn : n = xs.length) (hl : n ≤ 1000000) (hA : Ent.own A (xs.map (.float .f64)) k 22 ∈ L) (P : Nat → Nat → Prop) (h0 : P 0 0)
    (hstep : ∀ j s x, xs[j]? = some x → P j s → (∃ y, Ieee.double.add s x = some y ∧ P (j + 1) y) ∨ (Ieee.double.add s x = none ∧ ∀ y, y < 18446744073709551616 → isn y = true → P (j + 1) y)) (H : St w0 w L) :
    Calls Tryd.prog 45 #[.slice A n c] w fun e w' => ∃ y, e = .returned (.float .f64 y) ∧ P n y ∧ St w0 w' L := by
  replace hstep := Aside.mk hstep
  go_enter Tryd.func45, Tryd.ntmps45
  go_wp2_with (first | ((with_reducible refine wpGate ?_); first | (refine sLoad ?_ ?_ ?Zo ?_ ?Zd ?Zg ?Zs ?_ ?Zx ?_ ?Zv ?_; (case Zo => rfl); (case Zd => rfl); (case Zs => exact Tsc.out); (case Zg => (first | rfl | (go_simp; done) | fail)); (case Zx => rfl); (case Zv => (first | (refine H.cellBlk (cs := ?_) (t := ?_) ?Zm1 ?Zv1; (case Zm1 => (repeat (first | exact mh_ | assumption | apply mt_))); (case Zv1 => (first | rfl | (refine map_ix _ _ _ ?_; first | (with_reducible assumption) | omega | (simp; omega)) | (refine map_ix_app _ _ _ _ ?_; first | (with_reducible assumption) | omega | (simp; omega)) | assumption | (simp; done)))) | (refine (H.rdOwn (xs := ?_) (c := ?_) (e := ?_) ?Zm1).get ?Zv1; (case Zm1 => (repeat (first | exact mh_ | assumption | apply mt_))); (case Zv1 => (first | rfl | (refine map_ix _ _ _ ?_; first | (with_reducible assumption) | omega | (simp; omega)) | (refine map_ix_app _ _ _ _ ?_; first | (with_reducible assumption) | omega | (simp; omega)) | assumption | (simp; done)))) | (refine (H.rdRo (xs := ?_) ?Zm1).get ?Zv1; (case Zm1 => (repeat (first | exact mh_ | assumption | apply mt_))); (case Zv1 => (first | rfl | (refine map_ix _ _ _ ?_; first | (with_reducible assumption) | omega | (simp; omega)) | (refine map_ix_app _ _ _ _ ?_; first | (with_reducible assumption) | omega | (simp; omega)) | assumption | (simp; done)))) | (refine H.cellOld ?Zm1; (case Zm1 => assumption)) | fail)); try simp only [q_1, q_2, q_3, q_4]) | (refine sIndex ?_ ?_ ?_ ?_ ?Zo ?_ ?Zd ?Zg ?Zt ?Zs ?_ ?_ ?_ ?Zx ?_ ?_ ?Zi ?_ ?Zr ?Z0 ?Z1 ?Zn ?_ ?Zj ?_; (case Zo => rfl); (case Zd => rfl); (case Zt => exact Tun.out); (case Zs => kernel_rfl); (case Zg => (first | rfl | (go_simp; done) | fail)); (case Zx => rfl); (case Zi => rfl); (case Zr => (first | (refine H.rdOwn (c := ?_) (e := ?_) ?Zm1; (case Zm1 => (repeat (first | exact mh_ | assumption | apply mt_)))) | (refine H.rdRo ?Zm1; (case Zm1 => (repeat (first | exact mh_ | assumption | apply mt_)))) | (refine H.rdBlk (t := ?_) ?Zm1; (case Zm1 => (repeat (first | exact mh_ | assumption | apply mt_)))) | exact Rd.none _ _ | fail)); (case Z0 => (first | (with_reducible assumption) | omega | (simp; omega) | (simp; done) | fail)); (case Z1 => (first | (with_reducible assumption) | omega | (simp; omega) | (simp; done) | fail)); (case Zn => (first | (with_reducible assumption) | omega | (simp; omega) | (simp; done) | fail)); (case Zj => first | (go_bits; rfl) | rfl | fail); try simp only [q_1, q_2, q_3, q_4])))
  go_loopw [8, 3, 5] (fun i s _ w2_ => ∃ j v : Nat, j ≤ n ∧ i = .int .i64 j ∧ s = .float .f64 v ∧ Aside (P j v) ∧ St w0 w2_ L) (fun i _ _ _ => n - (intOf i).toNat)
  case atStart => exact ⟨0, 0, by omega, rfl, rfl, ⟨h0⟩, H⟩
  case round =>
    clear H h0
    obtain ⟨j, v, hj, rfl, rfl, hP, H⟩ := hrel
    by_cases hjn : j < n
    · have z1 : decide ((j : Int) < (n : Int)) = true := decide_eq_true (by omega)
      have z1n : decide (j < n) = true := decide_eq_true hjn
      obtain ⟨x, hx⟩ : ∃ x, xs[j]? = some x := ⟨xs[j], List.getElem?_eq_getElem (by omega)⟩
      have hv : (xs.map (Value.float .f64))[j]? = some (.float .f64 x) := by rw [List.getElem?_map, hx]; rfl
      have hlen : (xs.map (Value.float .f64)).length = n := by rw [List.length_map, hn]
      rcases hstep.out j v x hx hP.out with ⟨y, hy, hy2⟩ | ⟨hy, hy2⟩
      · have hadd : ∀ w : World, (binOp .add 22 (.float .f64 v) (.float .f64 x)).run Tryd.prog w = .ok (.float .f64 y) w := fun w => run_float_arith w .add 22 .f64 v x y hy
        replace hy2 := Aside.mk hy2
        clear hy hP hx
        go_wp2_with (first | ((with_reducible refine wpGate ?_); first | (refine sLoad ?_ ?_ ?Zo ?_ ?Zd ?Zg ?Zs ?_ ?Zx ?_ ?Zv ?_; (case Zo => rfl); (case Zd => rfl); (case Zs => exact Tsc.out); (case Zg => (first | rfl | (go_simp; done) | fail)); (case Zx => rfl); (case Zv => (first | (refine H.cellBlk (cs := ?_) (t := ?_) ?Zm1 ?Zv1; (case Zm1 => (repeat (first | exact mh_ | assumption | apply mt_))); (case Zv1 => (first | rfl | (refine map_ix _ _ _ ?_; first | (with_reducible assumption) | omega | (simp; omega)) | (refine map_ix_app _ _ _ _ ?_; first | (with_reducible assumption) | omega | (simp; omega)) | assumption | (simp; done)))) | (refine (H.rdOwn (xs := ?_) (c := ?_) (e := ?_) ?Zm1).get ?Zv1; (case Zm1 => (repeat (first | exact mh_ | assumption | apply mt_))); (case Zv1 => (first | rfl | (refine map_ix _ _ _ ?_; first | (with_reducible assumption) | omega | (simp; omega)) | (refine map_ix_app _ _ _ _ ?_; first | (with_reducible assumption) | omega | (simp; omega)) | assumption | (simp; done)))) | (refine (H.rdRo (xs := ?_) ?Zm1).get ?Zv1; (case Zm1 => (repeat (first | exact mh_ | assumption | apply mt_))); (case Zv1 => (first | rfl | (refine map_ix _ _ _ ?_; first | (with_reducible assumption) | omega | (simp; omega)) | (refine map_ix_app _ _ _ _ ?_; first | (with_reducible assumption) | omega | (simp; omega)) | assumption | (simp; done)))) | (refine H.cellOld ?Zm1; (case Zm1 => assumption)) | fail)); try simp only [q_1, q_2, q_3, q_4]) | (refine sIndex ?_ ?_ ?_ ?_ ?Zo ?_ ?Zd ?Zg ?Zt ?Zs ?_ ?_ ?_ ?Zx ?_ ?_ ?Zi ?_ ?Zr ?Z0 ?Z1 ?Zn ?_ ?Zj ?_; (case Zo => rfl); (case Zd => rfl); (case Zt => exact Tun.out); (case Zs => kernel_rfl); (case Zg => (first | rfl | (go_simp; done) | fail)); (case Zx => rfl); (case Zi => rfl); (case Zr => (first | (refine H.rdOwn (c := ?_) (e := ?_) ?Zm1; (case Zm1 => (repeat (first | exact mh_ | assumption | apply mt_)))) | (refine H.rdRo ?Zm1; (case Zm1 => (repeat (first | exact mh_ | assumption | apply mt_)))) | (refine H.rdBlk (t := ?_) ?Zm1; (case Zm1 => (repeat (first | exact mh_ | assumption | apply mt_)))) | exact Rd.none _ _ | fail)); (case Z0 => (first | (with_reducible assumption) | omega | (simp; omega) | (simp; done) | fail)); (case Z1 => (first | (with_reducible assumption) | omega | (simp; omega) | (simp; done) | fail)); (case Zn => (first | (with_reducible assumption) | omega | (simp; omega) | (simp; done) | fail)); (case Zj => first | (go_bits; rfl) | rfl | fail); try simp only [q_1, q_2, q_3, q_4])))
        go_roundw
        case rel => exact ⟨j + 1, y, by omega, by go_num, rfl, hy2, H⟩
        case measure => simp [intOf]; omega
      · obtain ⟨y, hl1, hl2, hrun, HN⟩ := add_nanH H v x hy
        have hy3 := Aside.mk (hy2 y hl1 hl2)
        clear hy hP hx hy2
        go_wp2_with (first | ((with_reducible refine wpGate ?_); first | (refine sLoad ?_ ?_ ?Zo ?_ ?Zd ?Zg ?Zs ?_ ?Zx ?_ ?Zv ?_; (case Zo => rfl); (case Zd => rfl); (case Zs => exact Tsc.out); (case Zg => (first | rfl | (go_simp; done) | fail)); (case Zx => rfl); (case Zv => (first | (refine H.cellBlk (cs := ?_) (t := ?_) ?Zm1 ?Zv1; (case Zm1 => (repeat (first | exact mh_ | assumption | apply mt_))); (case Zv1 => (first | rfl | (refine map_ix _ _ _ ?_; first | (with_reducible assumption) | omega | (simp; omega)) | (refine map_ix_app _ _ _ _ ?_; first | (with_reducible assumption) | omega | (simp; omega)) | assumption | (simp; done)))) | (refine (H.rdOwn (xs := ?_) (c := ?_) (e := ?_) ?Zm1).get ?Zv1; (case Zm1 => (repeat (first | exact mh_ | assumption | apply mt_))); (case Zv1 => (first | rfl | (refine map_ix _ _ _ ?_; first | (with_reducible assumption) | omega | (simp; omega)) | (refine map_ix_app _ _ _ _ ?_; first | (with_reducible assumption) | omega | (simp; omega)) | assumption | (simp; done)))) | (refine (H.rdRo (xs := ?_) ?Zm1).get ?Zv1; (case Zm1 => (repeat (first | exact mh_ | assumption | apply mt_))); (case Zv1 => (first | rfl | (refine map_ix _ _ _ ?_; first | (with_reducible assumption) | omega | (simp; omega)) | (refine map_ix_app _ _ _ _ ?_; first | (with_reducible assumption) | omega | (simp; omega)) | assumption | (simp; done)))) | (refine H.cellOld ?Zm1; (case Zm1 => assumption)) | fail)); try simp only [q_1, q_2, q_3, q_4]) | (refine sIndex ?_ ?_ ?_ ?_ ?Zo ?_ ?Zd ?Zg ?Zt ?Zs ?_ ?_ ?_ ?Zx ?_ ?_ ?Zi ?_ ?Zr ?Z0 ?Z1 ?Zn ?_ ?Zj ?_; (case Zo => rfl); (case Zd => rfl); (case Zt => exact Tun.out); (case Zs => kernel_rfl); (case Zg => (first | rfl | (go_simp; done) | fail)); (case Zx => rfl); (case Zi => rfl); (case Zr => (first | (refine H.rdOwn (c := ?_) (e := ?_) ?Zm1; (case Zm1 => (repeat (first | exact mh_ | assumption | apply mt_)))) | (refine H.rdRo ?Zm1; (case Zm1 => (repeat (first | exact mh_ | assumption | apply mt_)))) | (refine H.rdBlk (t := ?_) ?Zm1; (case Zm1 => (repeat (first | exact mh_ | assumption | apply mt_)))) | exact Rd.none _ _ | fail)); (case Z0 => (first | (with_reducible assumption) | omega | (simp; omega) | (simp; done) | fail)); (case Z1 => (first | (with_reducible assumption) | omega | (simp; omega) | (simp; done) | fail)); (case Zn => (first | (with_reducible assumption) | omega | (simp; omega) | (simp; done) | fail)); (case Zj => first | (go_bits; rfl) | rfl | fail); try simp only [q_1, q_2, q_3, q_4])))
        go_roundw
        case rel => exact ⟨j + 1, y, by omega, by go_num, rfl, hy3, HN⟩
        case measure => simp [intOf]; omega
    · have z1 : decide ((j : Int) < (n : Int)) = false := decide_eq_false (by omega)
      have z1n : decide (j < n) = false := decide_eq_false hjn
      obtain rfl : j = n := by omega
      go_wp2_with (first | ((with_reducible refine wpGate ?_); first | (refine sLoad ?_ ?_ ?Zo ?_ ?Zd ?Zg ?Zs ?_ ?Zx ?_ ?Zv ?_; (case Zo => rfl); (case Zd => rfl); (case Zs => exact Tsc.out); (case Zg => (first | rfl | (go_simp; done) | fail)); (case Zx => rfl); (case Zv => (first | (refine H.cellBlk (cs := ?_) (t := ?_) ?Zm1 ?Zv1; (case Zm1 => (repeat (first | exact mh_ | assumption | apply mt_))); (case Zv1 => (first | rfl | (refine map_ix _ _ _ ?_; first | (with_reducible assumption) | omega | (simp; omega)) | (refine map_ix_app _ _ _ _ ?_; first | (with_reducible assumption) | omega | (simp; omega)) | assumption | (simp; done)))) | (refine (H.rdOwn (xs := ?_) (c := ?_) (e := ?_) ?Zm1).get ?Zv1; (case Zm1 => (repeat (first | exact mh_ | assumption | apply mt_))); (case Zv1 => (first | rfl | (refine map_ix _ _ _ ?_; first | (with_reducible assumption) | omega | (simp; omega)) | (refine map_ix_app _ _ _ _ ?_; first | (with_reducible assumption) | omega | (simp; omega)) | assumption | (simp; done)))) | (refine (H.rdRo (xs := ?_) ?Zm1).get ?Zv1; (case Zm1 => (repeat (first | exact mh_ | assumption | apply mt_))); (case Zv1 => (first | rfl | (refine map_ix _ _ _ ?_; first | (with_reducible assumption) | omega | (simp; omega)) | (refine map_ix_app _ _ _ _ ?_; first | (with_reducible assumption) | omega | (simp; omega)) | assumption | (simp; done)))) | (refine H.cellOld ?Zm1; (case Zm1 => assumption)) | fail)); try simp only [q_1, q_2, q_3, q_4]) | (refine sIndex ?_ ?_ ?_ ?_ ?Zo ?_ ?Zd ?Zg ?Zt ?Zs ?_ ?_ ?_ ?Zx ?_ ?_ ?Zi ?_ ?Zr ?Z0 ?Z1 ?Zn ?_ ?Zj ?_; (case Zo => rfl); (case Zd => rfl); (case Zt => exact Tun.out); (case Zs => kernel_rfl); (case Zg => (first | rfl | (go_simp; done) | fail)); (case Zx => rfl); (case Zi => rfl); (case Zr => (first | (refine H.rdOwn (c := ?_) (e := ?_) ?Zm1; (case Zm1 => (repeat (first | exact mh_ | assumption | apply mt_)))) | (refine H.rdRo ?Zm1; (case Zm1 => (repeat (first | exact mh_ | assumption | apply mt_)))) | (refine H.rdBlk (t := ?_) ?Zm1; (case Zm1 => (repeat (first | exact mh_ | assumption | apply mt_)))) | exact Rd.none _ _ | fail)); (case Z0 => (first | (with_reducible assumption) | omega | (simp; omega) | (simp; done) | fail)); (case Z1 => (first | (with_reducible assumption) | omega | (simp; omega) | (simp; done) | fail)); (case Zn => (first | (with_reducible assumption) | omega | (simp; omega) | (simp; done) | fail)); (case Zj => first | (go_bits; rfl) | rfl | fail); try simp only [q_1, q_2, q_3, q_4])))
      (go_ret; exact ⟨_, rfl, hP.out, H⟩)

set_option maxRecDepth 100000 in
set_option maxHeartbeats 1000000 in
theorem most_gen (w0 w : World) (L : List Ent) (A : Option Addr) (xs : List Nat) (n k c x0 : Nat) (hn : n = xs.length) (hl : n ≤ 1000000) (hx0 : xs[0]? = some x0) (hA : Ent.own A (xs.map (.float .f64)) k 22 ∈ L) (hb : ∀ (j x : Nat), xs[j]? = some x → x < 18446744073709551616) (P : Nat → Nat → Prop) (h0 : P 0 x0)
    (hstep : ∀ j s x, xs[j]? = some x → P j s → P (j + 1) (if lessW s x then x else s)) (H : St w0 w L) :
    Calls Tryd.prog 48 #[.slice A n c] w fun e w' => ∃ y, e = .returned (.float .f64 y) ∧ P n y ∧ St w0 w' L := by
  have hn0 : 0 < n := by
    rcases Nat.eq_zero_or_pos n with h | h
    · rw [List.getElem?_eq_none (by omega)] at hx0; cases hx0
    · exact h
  have hv0 : (xs.map (Value.float .f64))[0]? = some (.float .f64 x0) := by rw [List.getElem?_map, hx0]; rfl
  have hb0 := hb 0 x0 hx0
  have hlen : (xs.map (Value.float .f64)).length = n := by rw [List.length_map, hn]
  have y0 : ((n : Int) == 0) = false := by rw [beq_eq_false_iff_ne]; omega
  replace hstep := Aside.mk hstep
  replace hb := Aside.mk hb
  replace hn := Aside.mk hn
  go_enter Tryd.func48, Tryd.ntmps48
  go_wp2_with (first | ((with_reducible refine wpGate ?_); first | (refine sLoad ?_ ?_ ?Zo ?_ ?Zd ?Zg ?Zs ?_ ?Zx ?_ ?Zv ?_; (case Zo => rfl); (case Zd => rfl); (case Zs => exact Tsc.out); (case Zg => (first | rfl | (go_simp; done) | fail)); (case Zx => rfl); (case Zv => (first | (refine H.cellBlk (cs := ?_) (t := ?_) ?Zm1 ?Zv1; (case Zm1 => (repeat (first | exact mh_ | assumption | apply mt_))); (case Zv1 => (first | rfl | (refine map_ix _ _ _ ?_; first | (with_reducible assumption) | omega | (simp; omega)) | (refine map_ix_app _ _ _ _ ?_; first | (with_reducible assumption) | omega | (simp; omega)) | assumption | (simp; done)))) | (refine (H.rdOwn (xs := ?_) (c := ?_) (e := ?_) ?Zm1).get ?Zv1; (case Zm1 => (repeat (first | exact mh_ | assumption | apply mt_))); (case Zv1 => (first | rfl | (refine map_ix _ _ _ ?_; first | (with_reducible assumption) | omega | (simp; omega)) | (refine map_ix_app _ _ _ _ ?_; first | (with_reducible assumption) | omega | (simp; omega)) | assumption | (simp; done)))) | (refine (H.rdRo (xs := ?_) ?Zm1).get ?Zv1; (case Zm1 => (repeat (first | exact mh_ | assumption | apply mt_))); (case Zv1 => (first | rfl | (refine map_ix _ _ _ ?_; first | (with_reducible assumption) | omega | (simp; omega)) | (refine map_ix_app _ _ _ _ ?_; first | (with_reducible assumption) | omega | (simp; omega)) | assumption | (simp; done)))) | (refine H.cellOld ?Zm1; (case Zm1 => assumption)) | fail)); try simp only [q_1, q_2, q_3, q_4]) | (refine sIndex ?_ ?_ ?_ ?_ ?Zo ?_ ?Zd ?Zg ?Zt ?Zs ?_ ?_ ?_ ?Zx ?_ ?_ ?Zi ?_ ?Zr ?Z0 ?Z1 ?Zn ?_ ?Zj ?_; (case Zo => rfl); (case Zd => rfl); (case Zt => exact Tun.out); (case Zs => kernel_rfl); (case Zg => (first | rfl | (go_simp; done) | fail)); (case Zx => rfl); (case Zi => rfl); (case Zr => (first | (refine H.rdOwn (c := ?_) (e := ?_) ?Zm1; (case Zm1 => (repeat (first | exact mh_ | assumption | apply mt_)))) | (refine H.rdRo ?Zm1; (case Zm1 => (repeat (first | exact mh_ | assumption | apply mt_)))) | (refine H.rdBlk (t := ?_) ?Zm1; (case Zm1 => (repeat (first | exact mh_ | assumption | apply mt_)))) | exact Rd.none _ _ | fail)); (case Z0 => (first | (with_reducible assumption) | omega | (simp; omega) | (simp; done) | fail)); (case Z1 => (first | (with_reducible assumption) | omega | (simp; omega) | (simp; done) | fail)); (case Zn => (first | (with_reducible assumption) | omega | (simp; omega) | (simp; done) | fail)); (case Zj => first | (go_bits; rfl) | rfl | fail); try simp only [q_1, q_2, q_3, q_4])))
  go_loopw [15, 3, 5] (fun i s _ w2_ => ∃ j v : Nat, j ≤ n ∧ i = .int .i64 j ∧ s = .float .f64 v ∧ v < 18446744073709551616 ∧ Aside (P j v) ∧ St w0 w2_ L) (fun i _ _ _ => n - (intOf i).toNat)
  case atStart => exact ⟨0, x0, by omega, rfl, rfl, hb0, ⟨h0⟩, H⟩
  case round =>
    clear H h0 hv0 hx0
    obtain ⟨j, v, hj, rfl, rfl, hvl, hP, H⟩ := hrel
    by_cases hjn : j < n
    · have z1 : decide ((j : Int) < (n : Int)) = true := decide_eq_true (by omega)
      have z1n : decide (j < n) = true := decide_eq_true hjn
      obtain ⟨x, hx⟩ : ∃ x, xs[j]? = some x := ⟨xs[j]'(by have := hn.out; omega), List.getElem?_eq_getElem _⟩
      have hv : (xs.map (Value.float .f64))[j]? = some (.float .f64 x) := by rw [List.getElem?_map, hx]; rfl
      have hxl := hb.out j x hx
      have hl := less_any v x hvl hxl
      have hst := Aside.mk (hstep.out j v x hx hP.out)
      cases he : lessW v x
      · rw [he] at hl hst
        clear hP hx he
        go_wp2_with (first | (go_at_call 43; (with_reducible refine (hl _).mono ?_); rintro e_ w_ ⟨rfl, rfl⟩; ) | ((with_reducible refine wpGate ?_); first | (refine sLoad ?_ ?_ ?Zo ?_ ?Zd ?Zg ?Zs ?_ ?Zx ?_ ?Zv ?_; (case Zo => rfl); (case Zd => rfl); (case Zs => exact Tsc.out); (case Zg => (first | rfl | (go_simp; done) | fail)); (case Zx => rfl); (case Zv => (first | (refine H.cellBlk (cs := ?_) (t := ?_) ?Zm1 ?Zv1; (case Zm1 => (repeat (first | exact mh_ | assumption | apply mt_))); (case Zv1 => (first | rfl | (refine map_ix _ _ _ ?_; first | (with_reducible assumption) | omega | (simp; omega)) | (refine map_ix_app _ _ _ _ ?_; first | (with_reducible assumption) | omega | (simp; omega)) | assumption | (simp; done)))) | (refine (H.rdOwn (xs := ?_) (c := ?_) (e := ?_) ?Zm1).get ?Zv1; (case Zm1 => (repeat (first | exact mh_ | assumption | apply mt_))); (case Zv1 => (first | rfl | (refine map_ix _ _ _ ?_; first | (with_reducible assumption) | omega | (simp; omega)) | (refine map_ix_app _ _ _ _ ?_; first | (with_reducible assumption) | omega | (simp; omega)) | assumption | (simp; done)))) | (refine (H.rdRo (xs := ?_) ?Zm1).get ?Zv1; (case Zm1 => (repeat (first | exact mh_ | assumption | apply mt_))); (case Zv1 => (first | rfl | (refine map_ix _ _ _ ?_; first | (with_reducible assumption) | omega | (simp; omega)) | (refine map_ix_app _ _ _ _ ?_; first | (with_reducible assumption) | omega | (simp; omega)) | assumption | (simp; done)))) | (refine H.cellOld ?Zm1; (case Zm1 => assumption)) | fail)); try simp only [q_1, q_2, q_3, q_4]) | (refine sIndex ?_ ?_ ?_ ?_ ?Zo ?_ ?Zd ?Zg ?Zt ?Zs ?_ ?_ ?_ ?Zx ?_ ?_ ?Zi ?_ ?Zr ?Z0 ?Z1 ?Zn ?_ ?Zj ?_; (case Zo => rfl); (case Zd => rfl); (case Zt => exact Tun.out); (case Zs => kernel_rfl); (case Zg => (first | rfl | (go_simp; done) | fail)); (case Zx => rfl); (case Zi => rfl); (case Zr => (first | (refine H.rdOwn (c := ?_) (e := ?_) ?Zm1; (case Zm1 => (repeat (first | exact mh_ | assumption | apply mt_)))) | (refine H.rdRo ?Zm1; (case Zm1 => (repeat (first | exact mh_ | assumption | apply mt_)))) | (refine H.rdBlk (t := ?_) ?Zm1; (case Zm1 => (repeat (first | exact mh_ | assumption | apply mt_)))) | exact Rd.none _ _ | fail)); (case Z0 => (first | (with_reducible assumption) | omega | (simp; omega) | (simp; done) | fail)); (case Z1 => (first | (with_reducible assumption) | omega | (simp; omega) | (simp; done) | fail)); (case Zn => (first | (with_reducible assumption) | omega | (simp; omega) | (simp; done) | fail)); (case Zj => first | (go_bits; rfl) | rfl | fail); try simp only [q_1, q_2, q_3, q_4])))
        go_roundw
        case rel => exact ⟨j + 1, v, by omega, by go_num, rfl, hvl, hst, H⟩
        case measure => simp [intOf]; omega
      · rw [he] at hl hst
        clear hP hx he
        go_wp2_with (first | (go_at_call 43; (with_reducible refine (hl _).mono ?_); rintro e_ w_ ⟨rfl, rfl⟩; ) | ((with_reducible refine wpGate ?_); first | (refine sLoad ?_ ?_ ?Zo ?_ ?Zd ?Zg ?Zs ?_ ?Zx ?_ ?Zv ?_; (case Zo => rfl); (case Zd => rfl); (case Zs => exact Tsc.out); (case Zg => (first | rfl | (go_simp; done) | fail)); (case Zx => rfl); (case Zv => (first | (refine H.cellBlk (cs := ?_) (t := ?_) ?Zm1 ?Zv1; (case Zm1 => (repeat (first | exact mh_ | assumption | apply mt_))); (case Zv1 => (first | rfl | (refine map_ix _ _ _ ?_; first | (with_reducible assumption) | omega | (simp; omega)) | (refine map_ix_app _ _ _ _ ?_; first | (with_reducible assumption) | omega | (simp; omega)) | assumption | (simp; done)))) | (refine (H.rdOwn (xs := ?_) (c := ?_) (e := ?_) ?Zm1).get ?Zv1; (case Zm1 => (repeat (first | exact mh_ | assumption | apply mt_))); (case Zv1 => (first | rfl | (refine map_ix _ _ _ ?_; first | (with_reducible assumption) | omega | (simp; omega)) | (refine map_ix_app _ _ _ _ ?_; first | (with_reducible assumption) | omega | (simp; omega)) | assumption | (simp; done)))) | (refine (H.rdRo (xs := ?_) ?Zm1).get ?Zv1; (case Zm1 => (repeat (first | exact mh_ | assumption | apply mt_))); (case Zv1 => (first | rfl | (refine map_ix _ _ _ ?_; first | (with_reducible assumption) | omega | (simp; omega)) | (refine map_ix_app _ _ _ _ ?_; first | (with_reducible assumption) | omega | (simp; omega)) | assumption | (simp; done)))) | (refine H.cellOld ?Zm1; (case Zm1 => assumption)) | fail)); try simp only [q_1, q_2, q_3, q_4]) | (refine sIndex ?_ ?_ ?_ ?_ ?Zo ?_ ?Zd ?Zg ?Zt ?Zs ?_ ?_ ?_ ?Zx ?_ ?_ ?Zi ?_ ?Zr ?Z0 ?Z1 ?Zn ?_ ?Zj ?_; (case Zo => rfl); (case Zd => rfl); (case Zt => exact Tun.out); (case Zs => kernel_rfl); (case Zg => (first | rfl | (go_simp; done) | fail)); (case Zx => rfl); (case Zi => rfl); (case Zr => (first | (refine H.rdOwn (c := ?_) (e := ?_) ?Zm1; (case Zm1 => (repeat (first | exact mh_ | assumption | apply mt_)))) | (refine H.rdRo ?Zm1; (case Zm1 => (repeat (first | exact mh_ | assumption | apply mt_)))) | (refine H.rdBlk (t := ?_) ?Zm1; (case Zm1 => (repeat (first | exact mh_ | assumption | apply mt_)))) | exact Rd.none _ _ | fail)); (case Z0 => (first | (with_reducible assumption) | omega | (simp; omega) | (simp; done) | fail)); (case Z1 => (first | (with_reducible assumption) | omega | (simp; omega) | (simp; done) | fail)); (case Zn => (first | (with_reducible assumption) | omega | (simp; omega) | (simp; done) | fail)); (case Zj => first | (go_bits; rfl) | rfl | fail); try simp only [q_1, q_2, q_3, q_4])))
        go_roundw
        case rel => exact ⟨j + 1, x, by omega, by go_num, rfl, hxl, hst, H⟩
        case measure => simp [intOf]; omega
    · have z1 : decide ((j : Int) < (n : Int)) = false := decide_eq_false (by omega)
      have z1n : decide (j < n) = false := decide_eq_false hjn
      obtain rfl : j = n := by omega
      go_wp2_with (first | ((with_reducible refine wpGate ?_); first | (refine sLoad ?_ ?_ ?Zo ?_ ?Zd ?Zg ?Zs ?_ ?Zx ?_ ?Zv ?_; (case Zo => rfl); (case Zd => rfl); (case Zs => exact Tsc.out); (case Zg => (first | rfl | (go_simp; done) | fail)); (case Zx => rfl); (case Zv => (first | (refine H.cellBlk (cs := ?_) (t := ?_) ?Zm1 ?Zv1; (case Zm1 => (repeat (first | exact mh_ | assumption | apply mt_))); (case Zv1 => (first | rfl | (refine map_ix _ _ _ ?_; first | (with_reducible assumption) | omega | (simp; omega)) | (refine map_ix_app _ _ _ _ ?_; first | (with_reducible assumption) | omega | (simp; omega)) | assumption | (simp; done)))) | (refine (H.rdOwn (xs := ?_) (c := ?_) (e := ?_) ?Zm1).get ?Zv1; (case Zm1 => (repeat (first | exact mh_ | assumption | apply mt_))); (case Zv1 => (first | rfl | (refine map_ix _ _ _ ?_; first | (with_reducible assumption) | omega | (simp; omega)) | (refine map_ix_app _ _ _ _ ?_; first | (with_reducible assumption) | omega | (simp; omega)) | assumption | (simp; done)))) | (refine (H.rdRo (xs := ?_) ?Zm1).get ?Zv1; (case Zm1 => (repeat (first | exact mh_ | assumption | apply mt_))); (case Zv1 => (first | rfl | (refine map_ix _ _ _ ?_; first | (with_reducible assumption) | omega | (simp; omega)) | (refine map_ix_app _ _ _ _ ?_; first | (with_reducible assumption) | omega | (simp; omega)) | assumption | (simp; done)))) | (refine H.cellOld ?Zm1; (case Zm1 => assumption)) | fail)); try simp only [q_1, q_2, q_3, q_4]) | (refine sIndex ?_ ?_ ?_ ?_ ?Zo ?_ ?Zd ?Zg ?Zt ?Zs ?_ ?_ ?_ ?Zx ?_ ?_ ?Zi ?_ ?Zr ?Z0 ?Z1 ?Zn ?_ ?Zj ?_; (case Zo => rfl); (case Zd => rfl); (case Zt => exact Tun.out); (case Zs => kernel_rfl); (case Zg => (first | rfl | (go_simp; done) | fail)); (case Zx => rfl); (case Zi => rfl); (case Zr => (first | (refine H.rdOwn (c := ?_) (e := ?_) ?Zm1; (case Zm1 => (repeat (first | exact mh_ | assumption | apply mt_)))) | (refine H.rdRo ?Zm1; (case Zm1 => (repeat (first | exact mh_ | assumption | apply mt_)))) | (refine H.rdBlk (t := ?_) ?Zm1; (case Zm1 => (repeat (first | exact mh_ | assumption | apply mt_)))) | exact Rd.none _ _ | fail)); (case Z0 => (first | (with_reducible assumption) | omega | (simp; omega) | (simp; done) | fail)); (case Z1 => (first | (with_reducible assumption) | omega | (simp; omega) | (simp; done) | fail)); (case Zn => (first | (with_reducible assumption) | omega | (simp; omega) | (simp; done) | fail)); (case Zj => first | (go_bits; rfl) | rfl | fail); try simp only [q_1, q_2, q_3, q_4])))
      (go_ret; exact ⟨_, rfl, hP.out, H⟩)
/-- What is added up, word by word. -/
def fw (n : Int) : Nat := FloatKind.f64.nearest n
theorem fw_whl (n : Int) (h : n.natAbs ≤ 9007199254740992) : Whl (fw n) n ∧ fw n < 18446744073709551616 := by
  obtain ⟨z, h1, h2, h3, _⟩ := ofInt_whl n h
  unfold fw
  rw [h1]
  exact ⟨h3, h2⟩
theorem whl_add {x y : Nat} {a b : Int} (hx : Whl x a) (hy : Whl y b) (h : (a + b).natAbs ≤ 9007199254740992) : ∃ z, Ieee.double.add x y = some z ∧ Whl z (a + b) := by
  obtain ⟨K, hK⟩ : ∃ K, K = 1074 := ⟨_, rfl⟩
  have x2 := hx.2
  have y2 := hy.2
  rw [← hK] at x2 y2
  obtain ⟨z, z1, _, z3, z4, _⟩ := add_dy K hx.1 hy.1 x2 y2 h (small_lt_inf _ _ h (by omega))
  rw [hK] at z4
  exact ⟨z, z1, z3, z4⟩
theorem add_nanL (x : Nat) {y : Nat} (h : isn y = true) : Ieee.double.add x y = none := by
  unfold Ieee.Format.add
  rw [read_nan (isn_true h)]
  cases Ieee.double.read x <;> rfl
theorem add_nanR {x : Nat} (y : Nat) (h : isn x = true) : Ieee.double.add x y = none := by
  unfold Ieee.Format.add
  rw [read_nan (isn_true h)]
  rfl
theorem add_infL {x : Nat} (h : rung x < INF) : Ieee.double.add x 9218868437227405312 = some 9218868437227405312 := by
  obtain ⟨m, p, e1, _, _⟩ := read_fin h
  unfold Ieee.Format.add
  rw [e1, read_inf (show rung 9218868437227405312 = INF by decide), show sgn 9218868437227405312 = false by decide]
  simp only [Ieee.Datum.sum, Option.map_some, Ieee.Format.write, dbl_inf]
  rw [word_eq]; rfl
theorem add_infR {y : Nat} (h : rung y < INF) : Ieee.double.add 9218868437227405312 y = some 9218868437227405312 := by
  obtain ⟨m, p, e1, _, _⟩ := read_fin h
  unfold Ieee.Format.add
  rw [e1, read_inf (show rung 9218868437227405312 = INF by decide), show sgn 9218868437227405312 = false by decide]
  simp only [Ieee.Datum.sum, Option.map_some, Ieee.Format.write, dbl_inf]
  rw [word_eq]; rfl
end Go.Proofs.YtcpfangcibilaaaDoor

/- Sum and Most of numbers with one among them that is none, or is infinite. No condition. -/
namespace Go.Proofs.YtcpfangcibilaaaDoor
set_option linter.unusedVariables false
set_option linter.unusedSimpArgs false
open Go.RowKit

def INW : Nat := 9218868437227405312
/-- A small whole number's word. -/
def Nm (x : Nat) : Prop := x < 18446744073709551616 ∧ ∃ a : Int, Whl x a ∧ -549755813888 ≤ a ∧ a ≤ 549755813888
theorem Nm.fin {x : Nat} (h : Nm x) : rung x < INF := by obtain ⟨_, a, h1, _⟩ := h; exact h1.1
theorem Nm.num {x : Nat} (h : Nm x) : isn x = false := by
  have := h.fin
  unfold isn
  exact decide_eq_false (by omega)
theorem mid_lt (xs ys : List Nat) (v : Nat) (j x : Nat) (h : (xs ++ v :: ys)[j]? = some x) (hj : j < xs.length) : x ∈ xs := by
  rw [List.getElem?_append_left hj] at h
  exact List.mem_of_getElem? h
theorem mid_eq (xs ys : List Nat) (v : Nat) (x : Nat) (h : (xs ++ v :: ys)[xs.length]? = some x) : x = v := by
  rw [List.getElem?_append_right (Nat.le_refl _), Nat.sub_self] at h
  simpa using h.symm
theorem mid_gt (xs ys : List Nat) (v : Nat) (j x : Nat) (h : (xs ++ v :: ys)[j]? = some x) (hj : xs.length < j) : x ∈ ys := by
  rw [List.getElem?_append_right (by omega), show j - xs.length = (j - xs.length - 1) + 1 by omega, List.getElem?_cons_succ] at h
  exact List.mem_of_getElem? h
theorem nm_add (s x : Nat) (j : Nat) (hj : j ≤ 100) (hs : ∃ a : Int, Whl s a ∧ -549755813888 * (j : Int) ≤ a ∧ a ≤ 549755813888 * (j : Int)) (hx : Nm x) :
    ∃ y, Ieee.double.add s x = some y ∧ ∃ a : Int, Whl y a ∧ -549755813888 * ((j + 1 : Nat) : Int) ≤ a ∧ a ≤ 549755813888 * ((j + 1 : Nat) : Int) := by
  obtain ⟨a, a1, a2, a3⟩ := hs
  obtain ⟨_, b, b1, b2, b3⟩ := hx
  obtain ⟨z, z1, z2⟩ := whl_add a1 b1 (by omega)
  exact ⟨z, z1, a + b, z2, by omega, by omega⟩
theorem whl_nil0 : Whl 0 0 := ⟨by decide, by rw [Int.zero_mul]; decide⟩
theorem sum_nan (w0 w : World) (L : List Ent) (A : Option Addr) (xs ys : List Nat) (v n k c : Nat) (hn : n = xs.length + 1 + ys.length) (hl : n ≤ 100) (hx : ∀ x ∈ xs, Nm x) (hy : ∀ x ∈ ys, Nm x) (hv : isn v = true) (hA : Ent.own A (xs.map (Value.float .f64) ++ Value.float .f64 v :: ys.map (Value.float .f64)) k 22 ∈ L) (H : St w0 w L) :
    Calls Tryd.prog 45 #[.slice A n c] w fun e w' => ∃ y, e = .returned (.float .f64 y) ∧ isn y = true ∧ St w0 w' L := by
  refine (sum_gen w0 w L A (xs ++ v :: ys) n k c (by simp; omega) (by omega) (by rw [List.map_append, List.map_cons]; exact hA)
    (fun j s => j ≤ n → (j ≤ xs.length → ∃ a : Int, Whl s a ∧ -549755813888 * (j : Int) ≤ a ∧ a ≤ 549755813888 * (j : Int)) ∧ (xs.length < j → isn s = true)) (fun _ => ⟨fun _ => ⟨0, whl_nil0, by omega, by omega⟩, fun h => by omega⟩) (fun j s x hj hP => ?_) H).mono
    fun e w' ⟨y, h1, h2, h3⟩ => ⟨y, h1, (h2 (Nat.le_refl _)).2 (by omega), h3⟩
  have hjn : j < n := by
    rcases Nat.lt_or_ge j n with h | h
    · exact h
    · rw [List.getElem?_eq_none (by simp; omega)] at hj; cases hj
  have hP := hP (by omega)
  rcases Nat.lt_trichotomy j xs.length with h | h | h
  · left
    obtain ⟨y, y1, y2⟩ := nm_add s x j (by omega) (hP.1 (by omega)) (hx x (mid_lt _ _ _ _ _ hj h))
    exact ⟨y, y1, fun _ => ⟨fun _ => y2, fun h' => by omega⟩⟩
  · right
    subst h
    obtain rfl := mid_eq _ _ _ _ hj
    exact ⟨add_nanL s hv, fun y _ hy' _ => ⟨fun h' => by omega, fun _ => hy'⟩⟩
  · right
    exact ⟨add_nanR x (hP.2 h), fun y _ hy' _ => ⟨fun h' => by omega, fun _ => hy'⟩⟩
theorem sum_inf (w0 w : World) (L : List Ent) (A : Option Addr) (xs ys : List Nat) (n k c : Nat) (hn : n = xs.length + 1 + ys.length) (hl : n ≤ 100) (hx : ∀ x ∈ xs, Nm x) (hy : ∀ x ∈ ys, Nm x) (hA : Ent.own A (xs.map (Value.float .f64) ++ Value.float .f64 9218868437227405312 :: ys.map (Value.float .f64)) k 22 ∈ L) (H : St w0 w L) :
    Calls Tryd.prog 45 #[.slice A n c] w fun e w' => e = .returned (.float .f64 9218868437227405312) ∧ St w0 w' L := by
  refine (sum_gen w0 w L A (xs ++ 9218868437227405312 :: ys) n k c (by simp; omega) (by omega) (by rw [List.map_append, List.map_cons]; exact hA)
    (fun j s => j ≤ n → (j ≤ xs.length → ∃ a : Int, Whl s a ∧ -549755813888 * (j : Int) ≤ a ∧ a ≤ 549755813888 * (j : Int)) ∧ (xs.length < j → s = 9218868437227405312)) (fun _ => ⟨fun _ => ⟨0, whl_nil0, by omega, by omega⟩, fun h => by omega⟩) (fun j s x hj hP => ?_) H).mono
    fun e w' ⟨y, h1, h2, h3⟩ => ⟨by rw [h1, (h2 (Nat.le_refl _)).2 (by omega)], h3⟩
  have hjn : j < n := by
    rcases Nat.lt_or_ge j n with h | h
    · exact h
    · rw [List.getElem?_eq_none (by simp; omega)] at hj; cases hj
  have hP := hP (by omega)
  left
  rcases Nat.lt_trichotomy j xs.length with h | h | h
  · obtain ⟨y, y1, y2⟩ := nm_add s x j (by omega) (hP.1 (by omega)) (hx x (mid_lt _ _ _ _ _ hj h))
    exact ⟨y, y1, fun _ => ⟨fun _ => y2, fun h' => by omega⟩⟩
  · subst h
    obtain rfl := mid_eq _ _ _ _ hj
    obtain ⟨a, a1, _⟩ := hP.1 (Nat.le_refl _)
    exact ⟨_, add_infL a1.1, fun _ => ⟨fun h' => by omega, fun _ => rfl⟩⟩
  · obtain rfl := hP.2 h
    exact ⟨_, add_infR (hy x (mid_gt _ _ _ _ _ hj h)).fin, fun _ => ⟨fun h' => by omega, fun _ => rfl⟩⟩
theorem mid_bd (xs ys : List Nat) (v : Nat) (hx : ∀ x ∈ xs, Nm x) (hy : ∀ x ∈ ys, Nm x) (hv : v < 18446744073709551616) (j x : Nat) (h : (xs ++ v :: ys)[j]? = some x) : x < 18446744073709551616 := by
  have := List.mem_of_getElem? h
  rcases List.mem_append.1 this with h | h
  · exact (hx x h).1
  · rcases List.mem_cons.1 h with rfl | h
    · exact hv
    · exact (hy x h).1
theorem mid_head (xs ys : List Nat) (v : Nat) : ∃ x0, (xs ++ v :: ys)[0]? = some x0 := ⟨_, List.getElem?_eq_getElem (by simp; omega)⟩
theorem most_nan (w0 w : World) (L : List Ent) (A : Option Addr) (xs ys : List Nat) (v n k c : Nat) (hn : n = xs.length + 1 + ys.length) (hl : n ≤ 100) (hx : ∀ x ∈ xs, Nm x) (hy : ∀ x ∈ ys, Nm x) (hv : isn v = true) (hvb : v < 18446744073709551616) (hA : Ent.own A (xs.map (Value.float .f64) ++ Value.float .f64 v :: ys.map (Value.float .f64)) k 22 ∈ L) (H : St w0 w L) :
    Calls Tryd.prog 48 #[.slice A n c] w fun e w' => ∃ y, e = .returned (.float .f64 y) ∧ isn y = true ∧ St w0 w' L := by
  obtain ⟨x0, h0⟩ := mid_head xs ys v
  refine (most_gen w0 w L A (xs ++ v :: ys) n k c x0 (by simp; omega) (by omega) h0 (by rw [List.map_append, List.map_cons]; exact hA) (fun j x h => mid_bd xs ys v hx hy hvb j x h)
    (fun j s => j ≤ n → (0 < xs.length ∧ j ≤ xs.length → isn s = false) ∧ (xs.length = 0 ∨ xs.length < j → isn s = true)) (fun _ => ⟨fun h => (hx x0 (mid_lt _ _ _ _ _ h0 h.1)).num, fun h => ?_⟩) (fun j s x hj hP => ?_) H).mono
    fun e w' ⟨y, h1, h2, h3⟩ => ⟨y, h1, (h2 (Nat.le_refl _)).2 (by omega), h3⟩
  · have h1 : xs.length = 0 := by omega
    obtain rfl := List.length_eq_zero_iff.1 h1
    obtain rfl := mid_eq _ _ _ _ h0
    exact hv
  · intro hjn
    have hP := hP (by omega)
    rcases Nat.lt_trichotomy j xs.length with h | h | h
    · have e1 := hP.1 ⟨by omega, by omega⟩
      have e2 := (hx x (mid_lt _ _ _ _ _ hj h)).num
      exact ⟨fun _ => by split <;> assumption, fun h' => by omega⟩
    · subst h
      obtain rfl := mid_eq _ _ _ _ hj
      refine ⟨fun h' => by omega, fun _ => ?_⟩
      by_cases hz : xs.length = 0
      · have e1 := hP.2 (.inl hz)
        split <;> assumption
      · have e1 := hP.1 ⟨by omega, Nat.le_refl _⟩
        have e2 : lessW s x = true := by unfold lessW; rw [e1, hv]; rfl
        rw [if_pos e2]; exact hv
    · have e1 := hP.2 (.inr h)
      have e2 : lessW s x = false := by unfold lessW; rw [e1]; rfl
      rw [if_neg (by rw [e2]; decide)]
      exact ⟨fun h' => by omega, fun _ => e1⟩
theorem less_inf {s : Nat} (h : rung s < INF) : lessW s 9218868437227405312 = true := by
  have hp : INF = 9218868437227405312 := rfl
  have e1 : isn s = false := by unfold isn; exact decide_eq_false (by omega)
  have e2 : rk 9218868437227405312 = 9218868437227405312 := by decide
  have e3 : rk s < 9218868437227405312 := by unfold rk; split <;> omega
  unfold lessW
  rw [e1, e2, decide_eq_true e3]
  simp
theorem inf_less {s : Nat} (h : rung s < INF) : lessW 9218868437227405312 s = false := by
  have hp : INF = 9218868437227405312 := rfl
  have e1 : isn s = false := by unfold isn; exact decide_eq_false (by omega)
  have e2 : rk 9218868437227405312 = 9218868437227405312 := by decide
  have e3 : ¬ 9218868437227405312 < rk s := by unfold rk; split <;> omega
  unfold lessW
  rw [e1, e2, decide_eq_false e3]
  simp
theorem most_inf (w0 w : World) (L : List Ent) (A : Option Addr) (xs ys : List Nat) (n k c : Nat) (hn : n = xs.length + 1 + ys.length) (hl : n ≤ 100) (hx : ∀ x ∈ xs, Nm x) (hy : ∀ x ∈ ys, Nm x) (hA : Ent.own A (xs.map (Value.float .f64) ++ Value.float .f64 9218868437227405312 :: ys.map (Value.float .f64)) k 22 ∈ L) (H : St w0 w L) :
    Calls Tryd.prog 48 #[.slice A n c] w fun e w' => e = .returned (.float .f64 9218868437227405312) ∧ St w0 w' L := by
  obtain ⟨x0, h0⟩ := mid_head xs ys 9218868437227405312
  refine (most_gen w0 w L A (xs ++ 9218868437227405312 :: ys) n k c x0 (by simp; omega) (by omega) h0 (by rw [List.map_append, List.map_cons]; exact hA) (fun j x h => mid_bd xs ys _ hx hy (by decide) j x h)
    (fun j s => j ≤ n → (0 < xs.length ∧ j ≤ xs.length → rung s < INF) ∧ (xs.length = 0 ∨ xs.length < j → s = 9218868437227405312)) (fun _ => ⟨fun h => (hx x0 (mid_lt _ _ _ _ _ h0 h.1)).fin, fun h => ?_⟩) (fun j s x hj hP => ?_) H).mono
    fun e w' ⟨y, h1, h2, h3⟩ => ⟨by rw [h1, (h2 (Nat.le_refl _)).2 (by omega)], h3⟩
  · have h1 : xs.length = 0 := by omega
    obtain rfl := List.length_eq_zero_iff.1 h1
    exact mid_eq _ _ _ _ h0
  · intro hjn
    have hP := hP (by omega)
    rcases Nat.lt_trichotomy j xs.length with h | h | h
    · have e1 := hP.1 ⟨by omega, by omega⟩
      have e2 := (hx x (mid_lt _ _ _ _ _ hj h)).fin
      exact ⟨fun _ => by split <;> assumption, fun h' => by omega⟩
    · subst h
      obtain rfl := mid_eq _ _ _ _ hj
      refine ⟨fun h' => by omega, fun _ => ?_⟩
      by_cases hz : xs.length = 0
      · have e1 := hP.2 (.inl hz)
        split <;> first | rfl | exact e1
      · have e1 := hP.1 ⟨by omega, Nat.le_refl _⟩
        rw [if_pos (less_inf e1)]
    · obtain rfl := hP.2 (.inr h)
      rw [inf_less (hy x (mid_gt _ _ _ _ _ hj h)).fin]
      exact ⟨fun h' => by omega, fun _ => rfl⟩
theorem isInf1 (w : World) : Calls Tryd.prog 47 #[.float .f64 9218868437227405312, .int .i64 1] w fun e w' => e = .returned (.bool true) ∧ w' = w := by
  have z : (FloatKind.f64.format.order 9218868437227405312 9218868437227405311 == some .gt) = true := (inf_hi 9218868437227405312).trans (by decide)
  go_enter Tryd.func47, Tryd.ntmps47
  go_wp2
  go_ret
  exact ⟨rfl, rfl⟩
end Go.Proofs.YtcpfangcibilaaaDoor

/- The least and the greatest of numbers, and a scale of them, in plain words. No condition. -/
namespace Go.Proofs.YtcpfangcibilaaaDoor
set_option linter.unusedVariables false
set_option linter.unusedSimpArgs false
open Go.RowKit
def C255 : Nat := 4643176031446892544
def C128 : Nat := 13862079653046386688
def NZ : Nat := 9223372036854775808
theorem isn_write (d : Ieee.Datum) (hd : ∀ s t, d ≠ .nan s t) : isn (Ieee.double.write d) = false := by
  have hp : INF = 9218868437227405312 := rfl
  have key : ∀ s r, r ≤ INF → isn (Ieee.double.word s r) = false := fun s r h => by
    unfold isn
    rw [rung_word s (by omega)]
    exact decide_eq_false (by omega)
  cases d with
  | number s m p =>
    simp only [Ieee.Format.write]
    by_cases h : m = 0
    · subst h
      unfold Ieee.Format.nearest
      rw [if_pos rfl]
      exact key s 0 (by decide)
    · rw [nearest_mk s h]
      exact key s _ (mkR_le m p)
  | infinity s => simp only [Ieee.Format.write, dbl_inf]; exact key s _ (Nat.le_refl _)
  | nan s t => exact absurd rfl (hd s t)
theorem div_num {x b : Nat} (hx : isn x = false) (hb : rung b < INF) (h0 : 0 < rung b) : ∃ y, Ieee.double.div x b = some y ∧ y < 18446744073709551616 ∧ isn y = false := by
  obtain ⟨n, j, e3, _, e4⟩ := read_fin hb
  have hn : n ≠ 0 := by
    intro h; subst h
    rw [Nat.zero_mul] at e4
    have := mag_pos h0
    omega
  unfold Ieee.Format.div
  rw [e3]
  by_cases hi : rung x = INF
  · rw [read_inf hi]
    exact ⟨_, rfl, write_lt _ (fun s t h => by cases h), isn_write _ (fun s t h => by cases h)⟩
  · obtain ⟨m, i, e1, _, _⟩ := read_fin (show rung x < INF by have := isn_false hx; omega)
    rw [e1]
    simp only [Ieee.Datum.quotient]
    rw [if_neg hn]
    exact ⟨_, rfl, write_lt _ (fun s t h => by cases h), isn_write _ (fun s t h => by cases h)⟩
theorem sub_num {x y : Nat} (hx : rung x < INF) (hy : isn y = false) : ∃ s, Ieee.double.sub x y = some s ∧ s < 18446744073709551616 ∧ isn s = false := by
  obtain ⟨m, i, e1, _, _⟩ := read_fin hx
  unfold Ieee.Format.sub
  rw [e1]
  by_cases hi : rung y = INF
  · rw [read_inf hi]
    exact ⟨_, rfl, write_lt _ (fun s t h => by cases h), isn_write _ (fun s t h => by cases h)⟩
  · obtain ⟨n, j, e3, _, _⟩ := read_fin (show rung y < INF by have := isn_false hy; omega)
    rw [e3]
    exact ⟨_, rfl, write_lt _ (fun s t h => by cases h), isn_write _ (fun s t h => by cases h)⟩
/-- The least of nothing and of the finite ones. -/
def mnF (xs : List Nat) : Int := xs.foldl (fun m x => if rung x < INF then min m (sr x) else m) 0
def mxF (xs : List Nat) : Int := xs.foldl (fun m x => if rung x < INF then max m (sr x) else m) 0
theorem mnF_more (xs : List Nat) (x : Nat) : mnF (xs ++ [x]) = if rung x < INF then min (mnF xs) (sr x) else mnF xs := by
  unfold mnF; rw [List.foldl_append]; rfl
theorem mxF_more (xs : List Nat) (x : Nat) : mxF (xs ++ [x]) = if rung x < INF then max (mxF xs) (sr x) else mxF xs := by
  unfold mxF; rw [List.foldl_append]; rfl
/-- The words of the least and of the greatest. -/
def lw (m : Int) : Nat := if m < 0 then (-m).toNat + 9223372036854775808 else 0
def hw (m : Int) : Nat := m.toNat
theorem sr_bd {x : Nat} (h : rung x < INF) : -(INF : Int) < sr x ∧ sr x < (INF : Int) := by
  unfold sr sg; split <;> omega
theorem lw_of {x : Nat} (hx : x < 18446744073709551616) (h : sr x < 0) : x = lw (sr x) := by
  have hs : sgn x = true := by
    cases hs : sgn x with
    | true => rfl
    | false => unfold sr sg at h; rw [hs] at h; simp at h; omega
  have e := sgn_true hx hs
  have e2 : sr x = -(rung x : Int) := by unfold sr sg; rw [hs]; rfl
  unfold lw
  rw [if_pos h, e2]
  omega
theorem hw_of {x : Nat} (hx : x < 18446744073709551616) (h : 0 < sr x) : x = hw (sr x) := by
  have hs : sgn x = false := by
    cases hs : sgn x with
    | false => rfl
    | true => unfold sr sg at h; rw [hs] at h; simp at h; omega
  have e := sgn_false hx hs
  have e2 : sr x = (rung x : Int) := by unfold sr sg; rw [hs]; rfl
  unfold hw
  rw [e2]
  omega
theorem lw_facts {m : Int} (h1 : -(INF : Int) < m) (h2 : m ≤ 0) : lw m < 18446744073709551616 ∧ rung (lw m) < INF ∧ sr (lw m) = m := by
  have hp : INF = 9218868437227405312 := rfl
  unfold lw
  split
  · have hr : rung ((-m).toNat + 9223372036854775808) = (-m).toNat := by unfold rung; omega
    have hs : sgn ((-m).toNat + 9223372036854775808) = true := by
      unfold sgn
      have : ((-m).toNat + 9223372036854775808) / 9223372036854775808 % 2 = 1 := by omega
      rw [this]; rfl
    refine ⟨by omega, by rw [hr]; omega, ?_⟩
    unfold sr sg
    rw [hs, hr]
    simp; omega
  · obtain rfl : m = 0 := by omega
    exact ⟨by decide, by decide, by decide⟩
theorem hw_facts {m : Int} (h1 : 0 ≤ m) (h2 : m < (INF : Int)) : hw m < 9223372036854775808 ∧ rung (hw m) < INF ∧ sr (hw m) = m ∧ sgn (hw m) = false := by
  have hp : INF = 9218868437227405312 := rfl
  unfold hw
  have hr : rung m.toNat = m.toNat := Nat.mod_eq_of_lt (by omega)
  have hs : sgn m.toNat = false := by
    unfold sgn
    have : m.toNat / 9223372036854775808 % 2 = 0 := by omega
    rw [this]; rfl
  refine ⟨by omega, by rw [hr]; omega, ?_, hs⟩
  unfold sr sg
  rw [hs, hr]
  simp; omega
theorem mnF_bd (xs : List Nat) : -(INF : Int) < mnF xs ∧ mnF xs ≤ 0 := by
  have hp : INF = 9218868437227405312 := rfl
  have key : ∀ (l : List Nat) (m : Int), -(INF : Int) < m → m ≤ 0 → -(INF : Int) < l.foldl (fun m x => if rung x < INF then min m (sr x) else m) m ∧ l.foldl (fun m x => if rung x < INF then min m (sr x) else m) m ≤ 0 := by
    intro l
    induction l with
    | nil => intro m h1 h2; exact ⟨h1, h2⟩
    | cons x l ih =>
      intro m h1 h2
      rw [List.foldl_cons]
      split
      · rename_i h
        have := sr_bd h
        exact ih _ (by omega) (by omega)
      · exact ih m h1 h2
  exact key xs 0 (by omega) (Int.le_refl _)
theorem mxF_bd (xs : List Nat) : 0 ≤ mxF xs ∧ mxF xs < (INF : Int) := by
  have hp : INF = 9218868437227405312 := rfl
  have key : ∀ (l : List Nat) (m : Int), 0 ≤ m → m < (INF : Int) → 0 ≤ l.foldl (fun m x => if rung x < INF then max m (sr x) else m) m ∧ l.foldl (fun m x => if rung x < INF then max m (sr x) else m) m < (INF : Int) := by
    intro l
    induction l with
    | nil => intro m h1 h2; exact ⟨h1, h2⟩
    | cons x l ih =>
      intro m h1 h2
      rw [List.foldl_cons]
      split
      · rename_i h
        have := sr_bd h
        exact ih _ (by omega) (by omega)
      · exact ih m h1 h2
  exact key xs 0 (by omega) (by omega)
/-- Two words for one number: the same, or the two nothings. -/
theorem same_or {x : Nat} (hx : x < 18446744073709551616) (hf : rung x < INF) {m : Int} (h : sr x = m) (hm : m ≤ 0) : x = lw m ∨ (m = 0 ∧ x = 9223372036854775808) := by
  rcases Int.lt_or_eq_of_le hm with h1 | h1
  · left; rw [← h]; exact lw_of hx (by omega)
  · have hr : rung x = 0 := by rw [h1] at h; unfold sr sg at h; split at h <;> omega
    have : x = 0 ∨ x = 9223372036854775808 := by unfold rung at hr; omega
    rcases this with h2 | h2
    · left; rw [h2, h1]; rfl
    · right; exact ⟨h1, h2⟩
theorem sub_nz {x : Nat} (hx : x < 9223372036854775808) (hf : rung x < INF) (hs : sgn x = false) : Ieee.double.sub x 9223372036854775808 = Ieee.double.sub x 0 := by
  have e1 : negW 9223372036854775808 = 0 := by decide
  have e2 : negW 0 = 9223372036854775808 := by decide
  rw [sub_add x (by decide) (by decide), sub_add x (by decide) (by decide), e1, e2, add_fin hf (by decide), add_fin hf (by decide)]
  have z1 : sv 0 = 0 := by decide
  have z2 : sv 9223372036854775808 = 0 := by decide
  unfold sumS
  rw [z1, z2, hs]
  rfl
theorem sub_nz2 : Ieee.double.sub 13862079653046386688 9223372036854775808 = Ieee.double.sub 13862079653046386688 0 := by decide +kernel
theorem div_nz {b : Nat} (hb : rung b < INF) (h0 : 0 < rung b) (hs : sgn b = false) : Ieee.double.div 9223372036854775808 b = some 9223372036854775808 ∧ Ieee.double.div 0 b = some 0 := by
  obtain ⟨n, j, e3, _, e4⟩ := read_fin hb
  have hn : n ≠ 0 := by
    intro h; subst h
    rw [Nat.zero_mul] at e4
    have := mag_pos h0
    omega
  have r1 : Ieee.double.read 9223372036854775808 = .number true 0 (-1074) := by decide +kernel
  have r0 : Ieee.double.read 0 = .number false 0 (-1074) := by decide +kernel
  rw [hs] at e3
  unfold Ieee.Format.div
  rw [e3, r1, r0]
  have key : ∀ (s : Bool), (Ieee.Datum.quotient (Ieee.double.fractionBits + 2) (.number s 0 (-1074)) (.number false n j)).map Ieee.double.write = some (Ieee.double.word s 0) := fun s => by
    simp only [Ieee.Datum.quotient]
    rw [if_neg hn]
    simp only [Nat.zero_shiftLeft, Nat.zero_div, Nat.zero_mod, Option.map_some, Ieee.Format.write, bne_self_eq_false, Bool.toNat_false, Nat.mul_zero, Nat.add_zero, Bool.xor_false]
    unfold Ieee.Format.nearest
    rw [if_pos rfl]
  exact ⟨(key true).trans (by rw [word_eq]; rfl), (key false).trans (by rw [word_eq]; rfl)⟩
end Go.Proofs.YtcpfangcibilaaaDoor

/- Fit, on both sides, walked. No condition but the sentinels. -/
namespace Go.Proofs.YtcpfangcibilaaaDoor
set_option linter.unusedVariables false
set_option linter.unusedSimpArgs false
open Go.RowKit

def minW (x y : Nat) : Nat := if sr x < sr y then x else if sr y < sr x then y else if sgn x then x else y
def maxW (x y : Nat) : Nat := if sr y < sr x then x else if sr x < sr y then y else if sgn x then y else x
theorem dec_neg {x : Nat} (h : rung x < INF) : (FloatKind.f64.decode x).neg = sgn x := by
  obtain ⟨m, p, e, _, _⟩ := read_fin h
  have : FloatKind.f64.decode x = Ieee.double.read x := rfl
  rw [this, e]
  rfl
theorem isn_fin {x : Nat} (h : rung x < INF) : isn x = false := by unfold isn; exact decide_eq_false (by omega)
theorem order_sr {x y : Nat} (hx : rung x < INF) (hy : rung y < INF) : Ieee.double.order x y = some (compare (sr x) (sr y)) := by
  have h1 := lt_eq x y
  have h2 := gt_eq x y
  have h3 := eq_eq x y
  rw [isn_fin hx, isn_fin hy] at h1 h2 h3
  simp only [Bool.not_false, Bool.true_and] at h1 h2 h3
  rcases Int.lt_trichotomy (sr x) (sr y) with h | h | h
  · rw [decide_eq_true h] at h1
    rw [cmp_lt h]; exact beq_iff_eq.1 h1
  · rw [decide_eq_true h] at h3
    rw [h, cmp_eq]; exact beq_iff_eq.1 h3
  · rw [decide_eq_true h] at h2
    rw [cmp_gt h]; exact beq_iff_eq.1 h2
theorem min_run {x y : Nat} (hx : rung x < INF) (hy : rung y < INF) (ats : Array TypeId) (ty : TypeId) (w : World) : (Builtin.min_ ats ty #[.float .f64 x, .float .f64 y]).run Tryd.prog w = .ok (.float .f64 (minW x y)) w := by
  have ho : FloatKind.f64.format.order x y = some (compare (sr x) (sr y)) := order_sr hx hy
  have hd := dec_neg hx
  unfold minW
  rcases Int.lt_trichotomy (sr x) (sr y) with h | h | h
  · rw [cmp_lt h] at ho
    rw [if_pos h]
    simp [Builtin.min_, Builtin.min2, ho]
  · rw [h, cmp_eq] at ho
    rw [if_neg (by omega), if_neg (by omega)]
    simp [Builtin.min_, Builtin.min2, ho, hd]
  · rw [cmp_gt h] at ho
    rw [if_neg (by omega), if_pos h]
    simp [Builtin.min_, Builtin.min2, ho]
theorem max_run {x y : Nat} (hx : rung x < INF) (hy : rung y < INF) (ats : Array TypeId) (ty : TypeId) (w : World) : (Builtin.max_ ats ty #[.float .f64 x, .float .f64 y]).run Tryd.prog w = .ok (.float .f64 (maxW x y)) w := by
  have ho : FloatKind.f64.format.order x y = some (compare (sr x) (sr y)) := order_sr hx hy
  have hd := dec_neg hx
  unfold maxW
  rcases Int.lt_trichotomy (sr x) (sr y) with h | h | h
  · rw [cmp_lt h] at ho
    rw [if_neg (by omega), if_pos h]
    simp [Builtin.max_, Builtin.max2, ho]
  · rw [h, cmp_eq] at ho
    rw [if_neg (by omega), if_neg (by omega)]
    simp [Builtin.max_, Builtin.max2, ho, hd]
  · rw [cmp_gt h] at ho
    rw [if_pos h]
    simp [Builtin.max_, Builtin.max2, ho]
/-- What the least and the greatest so far are, in the code. -/
structure LoHi (xs : List Nat) (lo hi : Nat) : Prop where
  l1 : lo < 18446744073709551616
  l2 : rung lo < INF
  l3 : sr lo = mnF xs
  h1 : hi = hw (mxF xs)
theorem LoHi.nil : LoHi [] 0 0 := ⟨by decide, by decide, by decide, rfl⟩
theorem LoHi.hi {xs : List Nat} {lo hi : Nat} (h : LoHi xs lo hi) : hi < 9223372036854775808 ∧ rung hi < INF ∧ sr hi = mxF xs ∧ sgn hi = false := by
  obtain ⟨b1, b2⟩ := mxF_bd xs
  rw [h.h1]; exact hw_facts b1 b2
theorem LoHi.skip {xs : List Nat} {lo hi : Nat} (h : LoHi xs lo hi) (x : Nat) (hx : ¬ rung x < INF) : LoHi (xs ++ [x]) lo hi := by
  refine ⟨h.l1, h.l2, ?_, ?_⟩
  · rw [mnF_more, if_neg hx]; exact h.l3
  · rw [mxF_more, if_neg hx]; exact h.h1
theorem LoHi.take {xs : List Nat} {lo hi : Nat} (h : LoHi xs lo hi) (x : Nat) (hl : x < 18446744073709551616) (hx : rung x < INF) : LoHi (xs ++ [x]) (minW lo x) (maxW hi x) := by
  obtain ⟨g1, g2, g3, g4⟩ := h.hi
  have hb := (mxF_bd xs).1
  refine ⟨?_, ?_, ?_, ?_⟩
  · unfold minW; have := h.l1; (repeat' split) <;> assumption
  · unfold minW; have := h.l2; (repeat' split) <;> assumption
  · rw [mnF_more, if_pos hx, ← h.l3]
    unfold minW
    (repeat' split) <;> omega
  · rw [mxF_more, if_pos hx]
    unfold maxW
    split
    · rename_i e; rw [show max (mxF xs) (sr x) = mxF xs by omega]; exact h.h1
    · split
      · rename_i e1 e; rw [show max (mxF xs) (sr x) = sr x by omega]; exact hw_of hl (by omega)
      · rw [g4]; rename_i e1 e2; rw [show max (mxF xs) (sr x) = mxF xs by omega]; exact h.h1
/-- The scale of a least and a greatest. -/
def fitD (mn mx : Int) : Nat := (Ieee.double.sub (hw mx) (lw mn)).getD 0
def fitB (mn mx : Int) : Nat := (Ieee.double.div (fitD mn mx) 4643176031446892544).getD 0
def fitZ (mn mx : Int) : Nat := (Ieee.double.sub 13862079653046386688 (quoV (lw mn) (fitB mn mx))).getD 0
def fitOk (mn mx : Int) : Bool := decide (rung (fitB mn mx) < INF) && decide (0 < sr (fitB mn mx))
def fitN (mn mx : Int) : Int := max (-128) (min (whV (fitZ mn mx)) 127)
theorem c255 : rung 4643176031446892544 < INF ∧ 0 < rung 4643176031446892544 := by decide
theorem fit_d {mn mx : Int} (m1 : -(INF : Int) < mn) (m2 : mn ≤ 0) (x1 : 0 ≤ mx) (x2 : mx < (INF : Int)) : Ieee.double.sub (hw mx) (lw mn) = some (fitD mn mx) ∧ fitD mn mx < 18446744073709551616 ∧ isn (fitD mn mx) = false ∧ ∀ lo, (lo = lw mn ∨ (mn = 0 ∧ lo = 9223372036854775808)) → Ieee.double.sub (hw mx) lo = some (fitD mn mx) := by
  obtain ⟨l1, l2, l3⟩ := lw_facts m1 m2
  obtain ⟨g1, g2, g3, g4⟩ := hw_facts x1 x2
  obtain ⟨s, h1, h2, h3⟩ := sub_num g2 (isn_fin l2)
  have e : fitD mn mx = s := by unfold fitD; rw [h1]; rfl
  rw [e]
  refine ⟨h1, h2, h3, fun lo hlo => ?_⟩
  rcases hlo with rfl | ⟨rfl, rfl⟩
  · exact h1
  · rw [sub_nz g1 g2 g4]; exact h1
theorem fit_b {mn mx : Int} (m1 : -(INF : Int) < mn) (m2 : mn ≤ 0) (x1 : 0 ≤ mx) (x2 : mx < (INF : Int)) : Ieee.double.div (fitD mn mx) 4643176031446892544 = some (fitB mn mx) ∧ fitB mn mx < 18446744073709551616 ∧ isn (fitB mn mx) = false := by
  obtain ⟨_, _, d3, _⟩ := fit_d m1 m2 x1 x2
  obtain ⟨s, h1, h2, h3⟩ := div_num d3 c255.1 c255.2
  have e : fitB mn mx = s := by unfold fitB; rw [h1]; rfl
  rw [e]
  exact ⟨h1, h2, h3⟩
theorem fit_z {mn mx : Int} (m1 : -(INF : Int) < mn) (m2 : mn ≤ 0) (hb : rung (fitB mn mx) < INF) (hp : 0 < sr (fitB mn mx)) : fitZ mn mx < 18446744073709551616 ∧ ∀ lo, (lo = lw mn ∨ (mn = 0 ∧ lo = 9223372036854775808)) → ∃ q, Ieee.double.div lo (fitB mn mx) = some q ∧ Ieee.double.sub 13862079653046386688 q = some (fitZ mn mx) := by
  obtain ⟨l1, l2, l3⟩ := lw_facts m1 m2
  have hr : 0 < rung (fitB mn mx) ∧ sgn (fitB mn mx) = false := by
    cases hs : sgn (fitB mn mx) with
    | true => unfold sr sg at hp; rw [hs] at hp; simp at hp; omega
    | false => unfold sr sg at hp; rw [hs] at hp; simp at hp; exact ⟨by omega, rfl⟩
  obtain ⟨q, q1, q2, q3⟩ := div_num (isn_fin l2) hb hr.1
  obtain ⟨s, h1, h2, h3⟩ := sub_num (x := 13862079653046386688) (by decide) q3
  have eq : quoV (lw mn) (fitB mn mx) = q := by unfold quoV; rw [q1]; rfl
  have e : fitZ mn mx = s := by unfold fitZ; rw [eq, h1]; rfl
  rw [e]
  refine ⟨h2, fun lo hlo => ?_⟩
  rcases hlo with rfl | ⟨rfl, rfl⟩
  · exact ⟨q, q1, h1⟩
  · obtain ⟨n1, n2⟩ := div_nz hb hr.1 hr.2
    have : lw 0 = 0 := by decide
    rw [this, n2] at q1
    obtain rfl := Option.some.inj q1
    exact ⟨_, n1, by rw [sub_nz2]; exact h1⟩
end Go.Proofs.YtcpfangcibilaaaDoor

/- Fit, on both sides: the walks. No condition but the sentinels. -/
namespace Go.Proofs.YtcpfangcibilaaaDoor
set_option linter.unusedVariables false
set_option linter.unusedSimpArgs false
open Go.RowKit

theorem take_more {α : Type} (xs : List α) (j : Nat) (d : α) (h : xs[j]? = some d) : xs.take (j + 1) = xs.take j ++ [d] := by
  rw [List.take_add_one, h]; rfl
/-- A scale that may not be. -/
def F00 : List Value := [.float .f64 0, .int .i64 0]
set_option maxRecDepth 100000 in
set_option maxHeartbeats 2000000 in
theorem fit_any (E : Int → Addr) (w0 w : World) (L : List Ent) (hE : ErrsAll E w0) (A : Option Addr) (xs : List Nat) (n c : Nat) (hn : n = xs.length) (hl : n ≤ 1000000) (hA : Ent.ro A (xs.map (.float .f64)) ∈ L) (hw : ∀ x, x ∈ xs → x < 18446744073709551616) (H : St w0 w L) :
    Calls Tryd.prog 67 #[.slice A n c] w fun e w' => e = .returned (if fitOk (mnF xs) (mxF xs) then .tuple #[.agg #[.float .f64 (fitB (mnF xs) (mxF xs)), .int .i64 (fitN (mnF xs) (mxF xs))], .nilIface] else .tuple #[.agg #[.float .f64 0, .int .i64 0], .iface 119 (.pointer (some (E 102)))]) ∧ St w0 w' L := by
  have ct : w0.cell? ⟨0, 0, none⟩ = some (.iface 119 (.pointer (some (E 102)))) := hE.cell 102 (by decide)
  have hlen : (xs.map (Value.float .f64)).length = n := by rw [List.length_map, hn]
  obtain ⟨R, hR⟩ : ∃ R, R = (if fitOk (mnF xs) (mxF xs) then Value.tuple #[.agg #[.float .f64 (fitB (mnF xs) (mxF xs)), .int .i64 (fitN (mnF xs) (mxF xs))], .nilIface] else .tuple #[.agg #[.float .f64 0, .int .i64 0], .iface 119 (.pointer (some (E 102)))]) := ⟨_, rfl⟩
  rw [← hR]
  replace hR := Aside.mk hR
  replace hn := Aside.mk hn
  replace hw := Aside.mk hw
  go_enter Tryd.func67, Tryd.ntmps67
  go_wp2_with (first | go_skip | ((with_reducible refine wpGate ?_); first | (refine sAlloc H ?_ ?Zo ?_ ?Zd ?Zg ?_ ?Zz ?_ ?Zx ?_; (case Zo => rfl); (case Zd => rfl); (case Zz => exact Tzr.out); (case Zg => (first | rfl | (go_simp; done) | fail)); (case Zx => (simp only [Value.cells]; rfl)); intro g_ w_ HN; clear H; have H := HN; clear HN; try simp only [q_1, q_2, q_3, q_4])))
  go_loopw [11, 4, 5, 7] (fun i lo hi _ w2_ => ∃ j l h : Nat, j ≤ n ∧ i = .int .i64 j ∧ lo = .float .f64 l ∧ hi = .float .f64 h ∧ Aside (LoHi (xs.take j) l h) ∧ St w0 w2_ (.blk g_ [.float .f64 0, .int .i64 0] 54 :: L)) (fun i _ _ _ _ => n - (intOf i).toNat)
  case atStart => exact ⟨0, 0, 0, by omega, rfl, rfl, rfl, ⟨LoHi.nil⟩, H⟩
  case round =>
    clear H
    obtain ⟨j, l, h, hj, rfl, rfl, rfl, hI, H⟩ := hrel
    by_cases hjn : j < n
    · have z1 : decide ((j : Int) < (n : Int)) = true := decide_eq_true (by omega)
      have z1n : decide (j < n) = true := decide_eq_true hjn
      obtain ⟨x, hx⟩ : ∃ x, xs[j]? = some x := ⟨xs[j]'(by have := hn.out; omega), List.getElem?_eq_getElem _⟩
      have hv : (xs.map (Value.float .f64))[j]? = some (.float .f64 x) := by rw [List.getElem?_map, hx]; rfl
      have hxl := hw.out x (List.mem_of_getElem? hx)
      have ht := Aside.mk (take_more _ _ _ hx)
      have hq := fun w => qfinite_any x hxl w
      clear hx
      by_cases hf : rung x < INF
      · have hI2 := Aside.mk (hI.out.take x hxl hf)
        have hm1 := fun ats ty w => min_run hI.out.l2 hf ats ty w
        have hm2 := fun ats ty w => max_run hI.out.hi.2.1 hf ats ty w
        rw [decide_eq_true hf] at hq
        clear hI hf
        go_wp2_with (first | go_skip | (go_at_call 91; refine (hq _).mono ?_; rintro e_ w_ ⟨rfl, rfl⟩; ) | ((with_reducible refine wpGate ?_); first | (refine sLoad ?_ ?_ ?Zo ?_ ?Zd ?Zg ?Zs ?_ ?Zx ?_ ?Zv ?_; (case Zo => rfl); (case Zd => rfl); (case Zs => exact Tsc.out); (case Zg => (first | rfl | (go_simp; done) | fail)); (case Zx => rfl); (case Zv => (first | (refine H.cellBlk (cs := ?_) (t := ?_) ?Zm1 ?Zv1; (case Zm1 => (repeat (first | exact mh_ | assumption | apply mt_))); (case Zv1 => (first | rfl | (refine map_ix _ _ _ ?_; first | (with_reducible assumption) | omega | (simp; omega)) | (refine map_ix_app _ _ _ _ ?_; first | (with_reducible assumption) | omega | (simp; omega)) | assumption | (simp; done)))) | (refine (H.rdOwn (xs := ?_) (c := ?_) (e := ?_) ?Zm1).get ?Zv1; (case Zm1 => (repeat (first | exact mh_ | assumption | apply mt_))); (case Zv1 => (first | rfl | (refine map_ix _ _ _ ?_; first | (with_reducible assumption) | omega | (simp; omega)) | (refine map_ix_app _ _ _ _ ?_; first | (with_reducible assumption) | omega | (simp; omega)) | assumption | (simp; done)))) | (refine (H.rdRo (xs := ?_) ?Zm1).get ?Zv1; (case Zm1 => (repeat (first | exact mh_ | assumption | apply mt_))); (case Zv1 => (first | rfl | (refine map_ix _ _ _ ?_; first | (with_reducible assumption) | omega | (simp; omega)) | (refine map_ix_app _ _ _ _ ?_; first | (with_reducible assumption) | omega | (simp; omega)) | assumption | (simp; done)))) | (refine H.cellOld ?Zm1; (case Zm1 => assumption)) | fail)); try simp only [q_1, q_2, q_3, q_4]) | (refine sIndex ?_ ?_ ?_ ?_ ?Zo ?_ ?Zd ?Zg ?Zt ?Zs ?_ ?_ ?_ ?Zx ?_ ?_ ?Zi ?_ ?Zr ?Z0 ?Z1 ?Zn ?_ ?Zj ?_; (case Zo => rfl); (case Zd => rfl); (case Zt => exact Tun.out); (case Zs => kernel_rfl); (case Zg => (first | rfl | (go_simp; done) | fail)); (case Zx => rfl); (case Zi => rfl); (case Zr => (first | (refine H.rdOwn (c := ?_) (e := ?_) ?Zm1; (case Zm1 => (repeat (first | exact mh_ | assumption | apply mt_)))) | (refine H.rdRo ?Zm1; (case Zm1 => (repeat (first | exact mh_ | assumption | apply mt_)))) | (refine H.rdBlk (t := ?_) ?Zm1; (case Zm1 => (repeat (first | exact mh_ | assumption | apply mt_)))) | (with_reducible assumption) | exact Rd.none _ _ | fail)); (case Z0 => (first | (with_reducible assumption) | omega | (simp; omega) | (simp; done) | fail)); (case Z1 => (first | (with_reducible assumption) | omega | (simp; omega) | (simp; done) | fail)); (case Zn => (first | (with_reducible assumption) | omega | (simp; omega) | (simp; done) | fail)); (case Zj => first | (go_bits; rfl) | rfl | fail); try simp only [q_1, q_2, q_3, q_4])))
        go_roundw
        case rel => exact ⟨j + 1, minW l x, maxW h x, by omega, by go_num, rfl, rfl, by rw [ht.out]; exact hI2, H⟩
        case measure => simp [intOf]; omega
      · have hI2 := Aside.mk (hI.out.skip x hf)
        rw [decide_eq_false hf] at hq
        clear hI hf
        go_wp2_with (first | go_skip | (go_at_call 91; refine (hq _).mono ?_; rintro e_ w_ ⟨rfl, rfl⟩; ) | ((with_reducible refine wpGate ?_); first | (refine sLoad ?_ ?_ ?Zo ?_ ?Zd ?Zg ?Zs ?_ ?Zx ?_ ?Zv ?_; (case Zo => rfl); (case Zd => rfl); (case Zs => exact Tsc.out); (case Zg => (first | rfl | (go_simp; done) | fail)); (case Zx => rfl); (case Zv => (first | (refine H.cellBlk (cs := ?_) (t := ?_) ?Zm1 ?Zv1; (case Zm1 => (repeat (first | exact mh_ | assumption | apply mt_))); (case Zv1 => (first | rfl | (refine map_ix _ _ _ ?_; first | (with_reducible assumption) | omega | (simp; omega)) | (refine map_ix_app _ _ _ _ ?_; first | (with_reducible assumption) | omega | (simp; omega)) | assumption | (simp; done)))) | (refine (H.rdOwn (xs := ?_) (c := ?_) (e := ?_) ?Zm1).get ?Zv1; (case Zm1 => (repeat (first | exact mh_ | assumption | apply mt_))); (case Zv1 => (first | rfl | (refine map_ix _ _ _ ?_; first | (with_reducible assumption) | omega | (simp; omega)) | (refine map_ix_app _ _ _ _ ?_; first | (with_reducible assumption) | omega | (simp; omega)) | assumption | (simp; done)))) | (refine (H.rdRo (xs := ?_) ?Zm1).get ?Zv1; (case Zm1 => (repeat (first | exact mh_ | assumption | apply mt_))); (case Zv1 => (first | rfl | (refine map_ix _ _ _ ?_; first | (with_reducible assumption) | omega | (simp; omega)) | (refine map_ix_app _ _ _ _ ?_; first | (with_reducible assumption) | omega | (simp; omega)) | assumption | (simp; done)))) | (refine H.cellOld ?Zm1; (case Zm1 => assumption)) | fail)); try simp only [q_1, q_2, q_3, q_4]) | (refine sIndex ?_ ?_ ?_ ?_ ?Zo ?_ ?Zd ?Zg ?Zt ?Zs ?_ ?_ ?_ ?Zx ?_ ?_ ?Zi ?_ ?Zr ?Z0 ?Z1 ?Zn ?_ ?Zj ?_; (case Zo => rfl); (case Zd => rfl); (case Zt => exact Tun.out); (case Zs => kernel_rfl); (case Zg => (first | rfl | (go_simp; done) | fail)); (case Zx => rfl); (case Zi => rfl); (case Zr => (first | (refine H.rdOwn (c := ?_) (e := ?_) ?Zm1; (case Zm1 => (repeat (first | exact mh_ | assumption | apply mt_)))) | (refine H.rdRo ?Zm1; (case Zm1 => (repeat (first | exact mh_ | assumption | apply mt_)))) | (refine H.rdBlk (t := ?_) ?Zm1; (case Zm1 => (repeat (first | exact mh_ | assumption | apply mt_)))) | (with_reducible assumption) | exact Rd.none _ _ | fail)); (case Z0 => (first | (with_reducible assumption) | omega | (simp; omega) | (simp; done) | fail)); (case Z1 => (first | (with_reducible assumption) | omega | (simp; omega) | (simp; done) | fail)); (case Zn => (first | (with_reducible assumption) | omega | (simp; omega) | (simp; done) | fail)); (case Zj => first | (go_bits; rfl) | rfl | fail); try simp only [q_1, q_2, q_3, q_4])))
        go_roundw
        case rel => exact ⟨j + 1, l, h, by omega, by go_num, rfl, rfl, by rw [ht.out]; exact hI2, H⟩
        case measure => simp [intOf]; omega
    · have z1 : decide ((j : Int) < (n : Int)) = false := decide_eq_false (by omega)
      have z1n : decide (j < n) = false := decide_eq_false hjn
      obtain rfl : j = n := by omega
      have hI := hI.out
      rw [show xs.take j = xs from List.take_of_length_le (by have := hn.out; omega)] at hI
      obtain ⟨m1, m2⟩ := mnF_bd xs
      obtain ⟨x1, x2⟩ := mxF_bd xs
      obtain ⟨i1, i2, i3, i4⟩ := hI
      have hR := hR.out
      obtain ⟨mn, hmn⟩ : ∃ mn, mn = mnF xs := ⟨_, rfl⟩
      obtain ⟨mx, hmx⟩ : ∃ mx, mx = mxF xs := ⟨_, rfl⟩
      rw [← hmn] at m1 m2 i3 hR
      rw [← hmx] at x1 x2 i4 hR
      have hlo := same_or i1 i2 i3 m2
      obtain ⟨d1, d2, d3, d4⟩ := fit_d m1 m2 x1 x2
      obtain ⟨b1, b2, b3⟩ := fit_b m1 m2 x1 x2
      have hsub : ∀ w : World, (binOp .sub 22 (.float .f64 h) (.float .f64 l)).run Tryd.prog w = .ok (.float .f64 (fitD mn mx)) w := fun w => run_float_arith w .sub 22 .f64 h l _ (by rw [i4]; exact d4 l hlo)
      have hdiv : ∀ w : World, (binOp .quo 22 (.float .f64 (fitD mn mx)) (.float .f64 4643176031446892544)).run Tryd.prog w = .ok (.float .f64 (fitB mn mx)) w := fun w => run_float_arith w .quo 22 .f64 _ _ _ b1
      obtain ⟨Dd, hDd⟩ : ∃ D, D = fitD mn mx := ⟨_, rfl⟩
      rw [← hDd] at hsub hdiv
      have hz := fun hb hp => fit_z (mx := mx) m1 m2 hb hp
      obtain ⟨B, hB⟩ : ∃ B, B = fitB mn mx := ⟨_, rfl⟩
      obtain ⟨Z, hZ⟩ : ∃ Z, Z = fitZ mn mx := ⟨_, rfl⟩
      have hok : fitOk mn mx = (decide (rung B < INF) && decide (0 < sr B)) := by unfold fitOk; rw [← hB]
      have hN : fitN mn mx = max (-128) (min (whV Z) 127) := by unfold fitN; rw [← hZ]
      rw [hok, hN, ← hB] at hR
      rw [← hB] at hdiv b2 hz
      rw [← hZ] at hz
      have hq := fun w => qfinite_any B b2 w
      clear hw hmn hmx hDd hB hZ hok hN d1 d4 b1 i3 i4 hI
      by_cases hf : rung B < INF
      · rw [decide_eq_true hf] at hq hR
        have z2 := (sr_pos hf).2
        by_cases hp : 0 < sr B
        · rw [decide_eq_true hp] at hR
          replace hR := Aside.mk hR
          rw [decide_eq_false (show ¬ sr B ≤ 0 by omega)] at z2
          obtain ⟨zl, hq2⟩ := hz hf hp
          obtain ⟨q, q1, q2⟩ := hq2 l hlo
          have hdv2 : ∀ w : World, (binOp .quo 22 (.float .f64 l) (.float .f64 B)).run Tryd.prog w = .ok (.float .f64 q) w := fun w => run_float_arith w .quo 22 .f64 _ _ _ q1
          have hsb2 : ∀ w : World, (binOp .sub 22 (.float .f64 13862079653046386688) (.float .f64 q)).run Tryd.prog w = .ok (.float .f64 Z) w := fun w => run_float_arith w .sub 22 .f64 _ _ _ q2
          have hzz := z2
          clear hq2 q1 q2 hz hlo d2 d3 b3
          go_wp2_with (first | go_skip | (go_at_call 91; refine (hq _).mono ?_; rintro e_ w_ ⟨rfl, rfl⟩; ) | (go_at_call 33; refine (whole_any _ _ _ Z zl (-128) 127 (by decide) (by decide) (by decide) (by decide) H).mono ?_; rintro e_ w_ ⟨rfl, HN⟩; clear H; have H := HN; clear HN) | (go_at_call 49; refine (new_ok _ _ _ H B _ b2 hf hzz (by omega) (by omega)).mono ?_; rintro e_ w_ ⟨rfl, HN⟩; clear H; have H := HN; clear HN) | ((with_reducible refine wpGate ?_); first | (refine sStore H ?_ ?_ ?_ ?Zo ?Zd ?Zg ?_ ?_ ?Zp ?_ ?Zx ?_ ?Zs ?Zn ?Z1 ?_ ?_ ?_ ?_ ?Zt ?Zle ?Zds ?_; (case Zo => rfl); (case Zd => rfl); (case Zg => (first | rfl | (go_simp; done) | fail)); (case Zp => rfl); (case Zx => (first | (go_simp; done) | (go_simp; rfl) | rfl)); (case Zs => exact Tst.out); (case Zn => first | (with_reducible rfl) | (rw [List.length_map]; with_reducible assumption) | (simp; omega) | (simp; done) | fail); (case Z1 => (first | rfl | (simp [Value.oneCell']; done))); (case Zt => (first | exact .head | exact (.tail .head) | exact (.tail (.tail .head)) | exact (.tail (.tail (.tail .head))) | exact (.tail (.tail (.tail (.tail .head)))) | exact (.tail (.tail (.tail (.tail (.tail .head))))) | exact (.tail (.tail (.tail (.tail (.tail (.tail .head)))))) | exact (.tail (.tail (.tail (.tail (.tail (.tail (.tail .head))))))) | exact (.tail (.tail (.tail (.tail (.tail (.tail (.tail (.tail .head)))))))))); (case Zle => (first | (with_reducible assumption) | omega | (simp; omega) | (simp; done) | fail)); (case Zds => (first | (with_reducible assumption) | (with_reducible refine setWhole _ _ ?_; first | (simp; omega) | (simp; done) | fail) | (with_reducible refine setRange_map _ _ _ _ ?_; first | (with_reducible assumption) | omega) | (with_reducible refine setRange_app _ _ _ _ _ ?_; first | (with_reducible assumption) | omega) | (with_reducible refine take_map_app _ _ _ _ ?_; with_reducible assumption) | (with_reducible refine take_map_w _ _ _ ?_; with_reducible assumption) | (simp only [List.take_zero, List.take_succ_cons, List.take_nil, List.drop_zero, List.drop_succ_cons, List.drop_nil, List.nil_append, List.cons_append, List.append_nil, List.length_cons, List.length_nil, Nat.zero_add, Nat.add_zero, Nat.reduceAdd, Nat.reduceSub]; rfl) | rfl | fail)); intro w_ HN; clear H; have H := HN; clear HN; try simp only [q_1, q_2, q_3, q_4]) | (refine sStoreRow H ?_ ?_ ?_ ?Zo ?Zd ?Zg ?_ ?_ ?Zp ?_ ?Zx ?Zu ?Zs ?Z1 ?_ ?_ ?_ ?_ ?Zt ?Zj ?_; (case Zo => rfl); (case Zd => rfl); (case Zs => kernel_rfl); (case Zg => (first | rfl | (go_simp; done) | fail)); (case Zp => rfl); (case Zx => (first | (go_simp; done) | (go_simp; rfl) | rfl)); (case Zu => rfl); (case Z1 => rfl); (case Zt => (first | exact .head | exact (.tail .head) | exact (.tail (.tail .head)) | exact (.tail (.tail (.tail .head))) | exact (.tail (.tail (.tail (.tail .head)))) | exact (.tail (.tail (.tail (.tail (.tail .head))))) | exact (.tail (.tail (.tail (.tail (.tail (.tail .head)))))) | exact (.tail (.tail (.tail (.tail (.tail (.tail (.tail .head))))))) | exact (.tail (.tail (.tail (.tail (.tail (.tail (.tail (.tail .head)))))))))); (case Zj => (first | (with_reducible assumption) | omega | (simp; omega) | (simp; done) | fail)); intro w_ HN; clear H; have H := HN; clear HN; try simp only [q_1, q_2, q_3, q_4])))
          (refine ret_ct H ?_ ?_ ?_ ?Zq ?Zd ?_ ?_ ?Zp ?Z1 ?Z2 ?_ ?Zn ?_ ?_ ?Zm ?Zle ?_ ?Zvs ?_ ?e0 ?ZR; (case Zq => rfl); (case Zd => rfl); (case Zp => rfl); (case Z1 => kernel_rfl); (case Z2 => kernel_rfl); (case Zn => exact Tsz.out); (case Zm => (repeat (first | exact mh_ | assumption | apply mt_))); (case Zle => (first | (with_reducible assumption) | omega | (simp; omega) | (simp; done) | fail)); (case Zvs => (first | (with_reducible assumption) | (with_reducible refine setWhole _ _ ?_; first | (simp; omega) | (simp; done) | fail) | (with_reducible refine setRange_map _ _ _ _ ?_; first | (with_reducible assumption) | omega) | (with_reducible refine setRange_app _ _ _ _ _ ?_; first | (with_reducible assumption) | omega) | (with_reducible refine take_map_app _ _ _ _ ?_; with_reducible assumption) | (with_reducible refine take_map_w _ _ _ ?_; with_reducible assumption) | (simp only [List.take_zero, List.take_succ_cons, List.take_nil, List.drop_zero, List.drop_succ_cons, List.drop_nil, List.nil_append, List.cons_append, List.append_nil, List.length_cons, List.length_nil, Nat.zero_add, Nat.add_zero, Nat.reduceAdd, Nat.reduceSub]; rfl) | rfl | fail)); (case e0 => rfl); (case ZR => exact ⟨by rw [hR.out]; rfl, H.sub (List.sublist_cons_self ..)⟩))
        · rw [decide_eq_false hp] at hR
          replace hR := Aside.mk hR
          rw [decide_eq_true (show sr B ≤ 0 by omega)] at z2
          clear hz hlo
          go_wp2_with (first | (go_at_call 91; refine (hq _).mono ?_; rintro e_ w_ ⟨rfl, rfl⟩; ))
          refine region_plan1 H [(0, true), (1, true), (2, false), (3, true)] (by kernel_rfl) (by kernel_rfl) (fun _ _ d_ _ _ h => by cases d_ <;> exact h) (.tmp 2) _ _ rfl _ _ _ (by (first | exact .head | exact (.tail .head) | exact (.tail (.tail .head)) | exact (.tail (.tail (.tail .head))) | exact (.tail (.tail (.tail (.tail .head)))) | exact (.tail (.tail (.tail (.tail (.tail .head))))) | exact (.tail (.tail (.tail (.tail (.tail (.tail .head)))))) | exact (.tail (.tail (.tail (.tail (.tail (.tail (.tail .head))))))) | exact (.tail (.tail (.tail (.tail (.tail (.tail (.tail (.tail .head)))))))))) (fun HN => ?_); clear H; have H := HN; clear HN; (iterate 2 (first | (refine planLoadBlk ?_ ?_ ?Zi ?Zg ?_ ?_ ?Zo ?Zs ?_ ?_ ?Zx ?_ ?_ ?Zm ?_ ?Zv ?_; (case Zi => rfl); (case Zo => rfl); (case Zs => exact Tsc.out); (case Zg => (first | rfl | (go_simp; done) | fail)); (case Zx => rfl); (case Zm => (repeat (first | exact mh_ | assumption | apply mt_))); (case Zv => (first | rfl | (refine map_ix _ _ _ ?_; first | (with_reducible assumption) | omega | (simp; omega)) | (refine map_ix_app _ _ _ _ ?_; first | (with_reducible assumption) | omega | (simp; omega)) | assumption | (simp; done))); try simp only [q_1, q_2, q_3, q_4]) | (refine planLoadRd ?_ ?_ ?Zi ?Zg ?_ ?_ ?Zo ?Zs ?_ ?_ ?Zx ?_ ?Zr ?_ ?Zv ?_; (case Zi => rfl); (case Zo => rfl); (case Zs => exact Tsc.out); (case Zg => (first | rfl | (go_simp; done) | fail)); (case Zx => rfl); (case Zr => (intro w_ H; first | (refine H.rdOwn (c := ?_) (e := ?_) ?Zm1; (case Zm1 => (repeat (first | exact mh_ | assumption | apply mt_)))) | (refine H.rdRo ?Zm1; (case Zm1 => (repeat (first | exact mh_ | assumption | apply mt_)))) | (refine H.rdBlk (t := ?_) ?Zm1; (case Zm1 => (repeat (first | exact mh_ | assumption | apply mt_)))) | fail)); (case Zv => (first | rfl | (refine map_ix _ _ _ ?_; first | (with_reducible assumption) | omega | (simp; omega)) | (refine map_ix_app _ _ _ _ ?_; first | (with_reducible assumption) | omega | (simp; omega)) | assumption | (simp; done))); try simp only [q_1, q_2, q_3, q_4]) | (refine planLoadOld ?_ ?_ ?Zi ?Zg ?_ ?_ ?Zo ?Zs ?_ ?Zx ?_ ?Zv ?_; (case Zi => rfl); (case Zo => rfl); (case Zs => exact Tsc.out); (case Zg => (first | rfl | (go_simp; done) | fail)); (case Zx => rfl); (case Zv => assumption); try simp only [q_1, q_2, q_3, q_4]) | (refine planPure ?_ ?_ ?Zi ?Zg ?_ ?Zv ?_; (case Zi => rfl); (case Zg => (first | rfl | (go_simp; done) | fail)); (case Zv => (intro w_; first | (go_simp; (try go_bits); rfl) | (go_simp; done) | fail)); try simp only [q_1, q_2, q_3, q_4]) | (refine planSkip ?_ ?_ ?Zi ?Zg ?_; (case Zi => rfl); (case Zg => (first | rfl | (go_simp; done) | fail)); try simp only [q_1, q_2, q_3, q_4]) | fail)); refine planForced ?_ ?_ ?hi ?_; (case hi => rfl); go_wp2_with (first | go_skip | ((with_reducible refine wpGate ?_); first | (refine sLoad ?_ ?_ ?Zo ?_ ?Zd ?Zg ?Zs ?_ ?Zx ?_ ?Zv ?_; (case Zo => rfl); (case Zd => rfl); (case Zs => exact Tsc.out); (case Zg => (first | rfl | (go_simp; done) | fail)); (case Zx => rfl); (case Zv => (first | (refine H.cellBlk (cs := ?_) (t := ?_) ?Zm1 ?Zv1; (case Zm1 => (repeat (first | exact mh_ | assumption | apply mt_))); (case Zv1 => (first | rfl | (refine map_ix _ _ _ ?_; first | (with_reducible assumption) | omega | (simp; omega)) | (refine map_ix_app _ _ _ _ ?_; first | (with_reducible assumption) | omega | (simp; omega)) | assumption | (simp; done)))) | (refine (H.rdOwn (xs := ?_) (c := ?_) (e := ?_) ?Zm1).get ?Zv1; (case Zm1 => (repeat (first | exact mh_ | assumption | apply mt_))); (case Zv1 => (first | rfl | (refine map_ix _ _ _ ?_; first | (with_reducible assumption) | omega | (simp; omega)) | (refine map_ix_app _ _ _ _ ?_; first | (with_reducible assumption) | omega | (simp; omega)) | assumption | (simp; done)))) | (refine (H.rdRo (xs := ?_) ?Zm1).get ?Zv1; (case Zm1 => (repeat (first | exact mh_ | assumption | apply mt_))); (case Zv1 => (first | rfl | (refine map_ix _ _ _ ?_; first | (with_reducible assumption) | omega | (simp; omega)) | (refine map_ix_app _ _ _ _ ?_; first | (with_reducible assumption) | omega | (simp; omega)) | assumption | (simp; done)))) | (refine H.cellOld ?Zm1; (case Zm1 => assumption)) | fail)); try simp only [q_1, q_2, q_3, q_4]) | (refine sIndex ?_ ?_ ?_ ?_ ?Zo ?_ ?Zd ?Zg ?Zt ?Zs ?_ ?_ ?_ ?Zx ?_ ?_ ?Zi ?_ ?Zr ?Z0 ?Z1 ?Zn ?_ ?Zj ?_; (case Zo => rfl); (case Zd => rfl); (case Zt => exact Tun.out); (case Zs => kernel_rfl); (case Zg => (first | rfl | (go_simp; done) | fail)); (case Zx => rfl); (case Zi => rfl); (case Zr => (first | (refine H.rdOwn (c := ?_) (e := ?_) ?Zm1; (case Zm1 => (repeat (first | exact mh_ | assumption | apply mt_)))) | (refine H.rdRo ?Zm1; (case Zm1 => (repeat (first | exact mh_ | assumption | apply mt_)))) | (refine H.rdBlk (t := ?_) ?Zm1; (case Zm1 => (repeat (first | exact mh_ | assumption | apply mt_)))) | (with_reducible assumption) | exact Rd.none _ _ | fail)); (case Z0 => (first | (with_reducible assumption) | omega | (simp; omega) | (simp; done) | fail)); (case Z1 => (first | (with_reducible assumption) | omega | (simp; omega) | (simp; done) | fail)); (case Zn => (first | (with_reducible assumption) | omega | (simp; omega) | (simp; done) | fail)); (case Zj => first | (go_bits; rfl) | rfl | fail); try simp only [q_1, q_2, q_3, q_4]) | (refine sBuildArr ?_ ?_ ?_ ?Zo ?_ ?Zd ?Zg ?_ ?Zt ?Zs ?_ ?Zz ?Zzn ?_ ?Zv ?Zvs ?Zn ?Z1 ?_; (case Zo => rfl); (case Zd => rfl); (case Zt => exact Tar.out); (case Zs => kernel_rfl); (case Zz => exact Tzr.out); (case Zzn => rfl); (case Zg => (first | rfl | (go_simp; done) | fail)); (case Zv => (go_simp; rfl)); (case Zvs => rfl); (case Zn => rfl); (case Z1 => first | rfl | (simp [Value.cells, Value.oneCell']; done) | fail); try simp only [q_1, q_2, q_3, q_4]) | (refine sAlloc H ?_ ?Zo ?_ ?Zd ?Zg ?_ ?Zz ?_ ?Zx ?_; (case Zo => rfl); (case Zd => rfl); (case Zz => exact Tzr.out); (case Zg => (first | rfl | (go_simp; done) | fail)); (case Zx => (simp only [Value.cells]; rfl)); intro g_ w_ HN; clear H; have H := HN; clear HN; try simp only [q_1, q_2, q_3, q_4]) | (refine sStore H ?_ ?_ ?_ ?Zo ?Zd ?Zg ?_ ?_ ?Zp ?_ ?Zx ?_ ?Zs ?Zn ?Z1 ?_ ?_ ?_ ?_ ?Zt ?Zle ?Zds ?_; (case Zo => rfl); (case Zd => rfl); (case Zg => (first | rfl | (go_simp; done) | fail)); (case Zp => rfl); (case Zx => (first | (go_simp; done) | (go_simp; rfl) | rfl)); (case Zs => exact Tst.out); (case Zn => first | (with_reducible rfl) | (rw [List.length_map]; with_reducible assumption) | (simp; omega) | (simp; done) | fail); (case Z1 => (first | rfl | (simp [Value.oneCell']; done))); (case Zt => (first | exact .head | exact (.tail .head) | exact (.tail (.tail .head)) | exact (.tail (.tail (.tail .head))) | exact (.tail (.tail (.tail (.tail .head)))) | exact (.tail (.tail (.tail (.tail (.tail .head))))) | exact (.tail (.tail (.tail (.tail (.tail (.tail .head)))))) | exact (.tail (.tail (.tail (.tail (.tail (.tail (.tail .head))))))) | exact (.tail (.tail (.tail (.tail (.tail (.tail (.tail (.tail .head)))))))))); (case Zle => (first | (with_reducible assumption) | omega | (simp; omega) | (simp; done) | fail)); (case Zds => (first | (with_reducible assumption) | (with_reducible refine setWhole _ _ ?_; first | (simp; omega) | (simp; done) | fail) | (with_reducible refine setRange_map _ _ _ _ ?_; first | (with_reducible assumption) | omega) | (with_reducible refine setRange_app _ _ _ _ _ ?_; first | (with_reducible assumption) | omega) | (with_reducible refine take_map_app _ _ _ _ ?_; with_reducible assumption) | (with_reducible refine take_map_w _ _ _ ?_; with_reducible assumption) | (simp only [List.take_zero, List.take_succ_cons, List.take_nil, List.drop_zero, List.drop_succ_cons, List.drop_nil, List.nil_append, List.cons_append, List.append_nil, List.length_cons, List.length_nil, Nat.zero_add, Nat.add_zero, Nat.reduceAdd, Nat.reduceSub]; rfl) | rfl | fail)); intro w_ HN; clear H; have H := HN; clear HN; try simp only [q_1, q_2, q_3, q_4]) | (refine sStoreRow H ?_ ?_ ?_ ?Zo ?Zd ?Zg ?_ ?_ ?Zp ?_ ?Zx ?Zu ?Zs ?Z1 ?_ ?_ ?_ ?_ ?Zt ?Zj ?_; (case Zo => rfl); (case Zd => rfl); (case Zs => kernel_rfl); (case Zg => (first | rfl | (go_simp; done) | fail)); (case Zp => rfl); (case Zx => (first | (go_simp; done) | (go_simp; rfl) | rfl)); (case Zu => rfl); (case Z1 => rfl); (case Zt => (first | exact .head | exact (.tail .head) | exact (.tail (.tail .head)) | exact (.tail (.tail (.tail .head))) | exact (.tail (.tail (.tail (.tail .head)))) | exact (.tail (.tail (.tail (.tail (.tail .head))))) | exact (.tail (.tail (.tail (.tail (.tail (.tail .head)))))) | exact (.tail (.tail (.tail (.tail (.tail (.tail (.tail .head))))))) | exact (.tail (.tail (.tail (.tail (.tail (.tail (.tail (.tail .head)))))))))); (case Zj => (first | (with_reducible assumption) | omega | (simp; omega) | (simp; done) | fail)); intro w_ HN; clear H; have H := HN; clear HN; try simp only [q_1, q_2, q_3, q_4]))); refine PQ.mk (H.sub (by repeat (first | exact List.Sublist.refl _ | exact List.nil_sublist _ | apply List.Sublist.cons_cons | apply List.Sublist.cons))) ?_; (first | (refine planLoadBlk ?_ ?_ ?Zi ?Zg ?_ ?_ ?Zo ?Zs ?_ ?_ ?Zx ?_ ?_ ?Zm ?_ ?Zv ?_; (case Zi => rfl); (case Zo => rfl); (case Zs => exact Tsc.out); (case Zg => (first | rfl | (go_simp; done) | fail)); (case Zx => rfl); (case Zm => (repeat (first | exact mh_ | assumption | apply mt_))); (case Zv => (first | rfl | (refine map_ix _ _ _ ?_; first | (with_reducible assumption) | omega | (simp; omega)) | (refine map_ix_app _ _ _ _ ?_; first | (with_reducible assumption) | omega | (simp; omega)) | assumption | (simp; done))); try simp only [q_1, q_2, q_3, q_4]) | (refine planLoadRd ?_ ?_ ?Zi ?Zg ?_ ?_ ?Zo ?Zs ?_ ?_ ?Zx ?_ ?Zr ?_ ?Zv ?_; (case Zi => rfl); (case Zo => rfl); (case Zs => exact Tsc.out); (case Zg => (first | rfl | (go_simp; done) | fail)); (case Zx => rfl); (case Zr => (intro w_ H; first | (refine H.rdOwn (c := ?_) (e := ?_) ?Zm1; (case Zm1 => (repeat (first | exact mh_ | assumption | apply mt_)))) | (refine H.rdRo ?Zm1; (case Zm1 => (repeat (first | exact mh_ | assumption | apply mt_)))) | (refine H.rdBlk (t := ?_) ?Zm1; (case Zm1 => (repeat (first | exact mh_ | assumption | apply mt_)))) | fail)); (case Zv => (first | rfl | (refine map_ix _ _ _ ?_; first | (with_reducible assumption) | omega | (simp; omega)) | (refine map_ix_app _ _ _ _ ?_; first | (with_reducible assumption) | omega | (simp; omega)) | assumption | (simp; done))); try simp only [q_1, q_2, q_3, q_4]) | (refine planLoadOld ?_ ?_ ?Zi ?Zg ?_ ?_ ?Zo ?Zs ?_ ?Zx ?_ ?Zv ?_; (case Zi => rfl); (case Zo => rfl); (case Zs => exact Tsc.out); (case Zg => (first | rfl | (go_simp; done) | fail)); (case Zx => rfl); (case Zv => assumption); try simp only [q_1, q_2, q_3, q_4]) | (refine planPure ?_ ?_ ?Zi ?Zg ?_ ?Zv ?_; (case Zi => rfl); (case Zg => (first | rfl | (go_simp; done) | fail)); (case Zv => (intro w_; first | (go_simp; (try go_bits); rfl) | (go_simp; done) | fail)); try simp only [q_1, q_2, q_3, q_4]) | (refine planSkip ?_ ?_ ?Zi ?Zg ?_; (case Zi => rfl); (case Zg => (first | rfl | (go_simp; done) | fail)); try simp only [q_1, q_2, q_3, q_4]) | fail); refine planDone ?_
          go_wp2
          (refine ret_ct H ?_ ?_ ?_ ?Zq ?Zd ?_ ?_ ?Zp ?Z1 ?Z2 ?_ ?Zn ?_ ?_ ?Zm ?Zle ?_ ?Zvs ?_ ?e0 ?ZR; (case Zq => rfl); (case Zd => rfl); (case Zp => rfl); (case Z1 => kernel_rfl); (case Z2 => kernel_rfl); (case Zn => exact Tsz.out); (case Zm => (repeat (first | exact mh_ | assumption | apply mt_))); (case Zle => (first | (with_reducible assumption) | omega | (simp; omega) | (simp; done) | fail)); (case Zvs => (first | (with_reducible assumption) | (with_reducible refine setWhole _ _ ?_; first | (simp; omega) | (simp; done) | fail) | (with_reducible refine setRange_map _ _ _ _ ?_; first | (with_reducible assumption) | omega) | (with_reducible refine setRange_app _ _ _ _ _ ?_; first | (with_reducible assumption) | omega) | (with_reducible refine take_map_app _ _ _ _ ?_; with_reducible assumption) | (with_reducible refine take_map_w _ _ _ ?_; with_reducible assumption) | (simp only [List.take_zero, List.take_succ_cons, List.take_nil, List.drop_zero, List.drop_succ_cons, List.drop_nil, List.nil_append, List.cons_append, List.append_nil, List.length_cons, List.length_nil, Nat.zero_add, Nat.add_zero, Nat.reduceAdd, Nat.reduceSub]; rfl) | rfl | fail)); (case e0 => rfl); (case ZR => exact ⟨by rw [hR.out]; rfl, H.sub (List.sublist_cons_self ..)⟩))
      · rw [decide_eq_false hf] at hq hR
        replace hR := Aside.mk hR
        clear hz hlo
        go_wp2_with (first | (go_at_call 91; refine (hq _).mono ?_; rintro e_ w_ ⟨rfl, rfl⟩; ))
        refine region_plan1 H [(0, true), (1, true), (2, false), (3, true)] (by kernel_rfl) (by kernel_rfl) (fun _ _ d_ _ _ h => by cases d_ <;> exact h) (.tmp 2) _ _ rfl _ _ _ (by (first | exact .head | exact (.tail .head) | exact (.tail (.tail .head)) | exact (.tail (.tail (.tail .head))) | exact (.tail (.tail (.tail (.tail .head)))) | exact (.tail (.tail (.tail (.tail (.tail .head))))) | exact (.tail (.tail (.tail (.tail (.tail (.tail .head)))))) | exact (.tail (.tail (.tail (.tail (.tail (.tail (.tail .head))))))) | exact (.tail (.tail (.tail (.tail (.tail (.tail (.tail (.tail .head)))))))))) (fun HN => ?_); clear H; have H := HN; clear HN; (iterate 2 (first | (refine planLoadBlk ?_ ?_ ?Zi ?Zg ?_ ?_ ?Zo ?Zs ?_ ?_ ?Zx ?_ ?_ ?Zm ?_ ?Zv ?_; (case Zi => rfl); (case Zo => rfl); (case Zs => exact Tsc.out); (case Zg => (first | rfl | (go_simp; done) | fail)); (case Zx => rfl); (case Zm => (repeat (first | exact mh_ | assumption | apply mt_))); (case Zv => (first | rfl | (refine map_ix _ _ _ ?_; first | (with_reducible assumption) | omega | (simp; omega)) | (refine map_ix_app _ _ _ _ ?_; first | (with_reducible assumption) | omega | (simp; omega)) | assumption | (simp; done))); try simp only [q_1, q_2, q_3, q_4]) | (refine planLoadRd ?_ ?_ ?Zi ?Zg ?_ ?_ ?Zo ?Zs ?_ ?_ ?Zx ?_ ?Zr ?_ ?Zv ?_; (case Zi => rfl); (case Zo => rfl); (case Zs => exact Tsc.out); (case Zg => (first | rfl | (go_simp; done) | fail)); (case Zx => rfl); (case Zr => (intro w_ H; first | (refine H.rdOwn (c := ?_) (e := ?_) ?Zm1; (case Zm1 => (repeat (first | exact mh_ | assumption | apply mt_)))) | (refine H.rdRo ?Zm1; (case Zm1 => (repeat (first | exact mh_ | assumption | apply mt_)))) | (refine H.rdBlk (t := ?_) ?Zm1; (case Zm1 => (repeat (first | exact mh_ | assumption | apply mt_)))) | fail)); (case Zv => (first | rfl | (refine map_ix _ _ _ ?_; first | (with_reducible assumption) | omega | (simp; omega)) | (refine map_ix_app _ _ _ _ ?_; first | (with_reducible assumption) | omega | (simp; omega)) | assumption | (simp; done))); try simp only [q_1, q_2, q_3, q_4]) | (refine planLoadOld ?_ ?_ ?Zi ?Zg ?_ ?_ ?Zo ?Zs ?_ ?Zx ?_ ?Zv ?_; (case Zi => rfl); (case Zo => rfl); (case Zs => exact Tsc.out); (case Zg => (first | rfl | (go_simp; done) | fail)); (case Zx => rfl); (case Zv => assumption); try simp only [q_1, q_2, q_3, q_4]) | (refine planPure ?_ ?_ ?Zi ?Zg ?_ ?Zv ?_; (case Zi => rfl); (case Zg => (first | rfl | (go_simp; done) | fail)); (case Zv => (intro w_; first | (go_simp; (try go_bits); rfl) | (go_simp; done) | fail)); try simp only [q_1, q_2, q_3, q_4]) | (refine planSkip ?_ ?_ ?Zi ?Zg ?_; (case Zi => rfl); (case Zg => (first | rfl | (go_simp; done) | fail)); try simp only [q_1, q_2, q_3, q_4]) | fail)); refine planForced ?_ ?_ ?hi ?_; (case hi => rfl); go_wp2_with (first | go_skip | ((with_reducible refine wpGate ?_); first | (refine sLoad ?_ ?_ ?Zo ?_ ?Zd ?Zg ?Zs ?_ ?Zx ?_ ?Zv ?_; (case Zo => rfl); (case Zd => rfl); (case Zs => exact Tsc.out); (case Zg => (first | rfl | (go_simp; done) | fail)); (case Zx => rfl); (case Zv => (first | (refine H.cellBlk (cs := ?_) (t := ?_) ?Zm1 ?Zv1; (case Zm1 => (repeat (first | exact mh_ | assumption | apply mt_))); (case Zv1 => (first | rfl | (refine map_ix _ _ _ ?_; first | (with_reducible assumption) | omega | (simp; omega)) | (refine map_ix_app _ _ _ _ ?_; first | (with_reducible assumption) | omega | (simp; omega)) | assumption | (simp; done)))) | (refine (H.rdOwn (xs := ?_) (c := ?_) (e := ?_) ?Zm1).get ?Zv1; (case Zm1 => (repeat (first | exact mh_ | assumption | apply mt_))); (case Zv1 => (first | rfl | (refine map_ix _ _ _ ?_; first | (with_reducible assumption) | omega | (simp; omega)) | (refine map_ix_app _ _ _ _ ?_; first | (with_reducible assumption) | omega | (simp; omega)) | assumption | (simp; done)))) | (refine (H.rdRo (xs := ?_) ?Zm1).get ?Zv1; (case Zm1 => (repeat (first | exact mh_ | assumption | apply mt_))); (case Zv1 => (first | rfl | (refine map_ix _ _ _ ?_; first | (with_reducible assumption) | omega | (simp; omega)) | (refine map_ix_app _ _ _ _ ?_; first | (with_reducible assumption) | omega | (simp; omega)) | assumption | (simp; done)))) | (refine H.cellOld ?Zm1; (case Zm1 => assumption)) | fail)); try simp only [q_1, q_2, q_3, q_4]) | (refine sIndex ?_ ?_ ?_ ?_ ?Zo ?_ ?Zd ?Zg ?Zt ?Zs ?_ ?_ ?_ ?Zx ?_ ?_ ?Zi ?_ ?Zr ?Z0 ?Z1 ?Zn ?_ ?Zj ?_; (case Zo => rfl); (case Zd => rfl); (case Zt => exact Tun.out); (case Zs => kernel_rfl); (case Zg => (first | rfl | (go_simp; done) | fail)); (case Zx => rfl); (case Zi => rfl); (case Zr => (first | (refine H.rdOwn (c := ?_) (e := ?_) ?Zm1; (case Zm1 => (repeat (first | exact mh_ | assumption | apply mt_)))) | (refine H.rdRo ?Zm1; (case Zm1 => (repeat (first | exact mh_ | assumption | apply mt_)))) | (refine H.rdBlk (t := ?_) ?Zm1; (case Zm1 => (repeat (first | exact mh_ | assumption | apply mt_)))) | (with_reducible assumption) | exact Rd.none _ _ | fail)); (case Z0 => (first | (with_reducible assumption) | omega | (simp; omega) | (simp; done) | fail)); (case Z1 => (first | (with_reducible assumption) | omega | (simp; omega) | (simp; done) | fail)); (case Zn => (first | (with_reducible assumption) | omega | (simp; omega) | (simp; done) | fail)); (case Zj => first | (go_bits; rfl) | rfl | fail); try simp only [q_1, q_2, q_3, q_4]) | (refine sBuildArr ?_ ?_ ?_ ?Zo ?_ ?Zd ?Zg ?_ ?Zt ?Zs ?_ ?Zz ?Zzn ?_ ?Zv ?Zvs ?Zn ?Z1 ?_; (case Zo => rfl); (case Zd => rfl); (case Zt => exact Tar.out); (case Zs => kernel_rfl); (case Zz => exact Tzr.out); (case Zzn => rfl); (case Zg => (first | rfl | (go_simp; done) | fail)); (case Zv => (go_simp; rfl)); (case Zvs => rfl); (case Zn => rfl); (case Z1 => first | rfl | (simp [Value.cells, Value.oneCell']; done) | fail); try simp only [q_1, q_2, q_3, q_4]) | (refine sAlloc H ?_ ?Zo ?_ ?Zd ?Zg ?_ ?Zz ?_ ?Zx ?_; (case Zo => rfl); (case Zd => rfl); (case Zz => exact Tzr.out); (case Zg => (first | rfl | (go_simp; done) | fail)); (case Zx => (simp only [Value.cells]; rfl)); intro g_ w_ HN; clear H; have H := HN; clear HN; try simp only [q_1, q_2, q_3, q_4]) | (refine sStore H ?_ ?_ ?_ ?Zo ?Zd ?Zg ?_ ?_ ?Zp ?_ ?Zx ?_ ?Zs ?Zn ?Z1 ?_ ?_ ?_ ?_ ?Zt ?Zle ?Zds ?_; (case Zo => rfl); (case Zd => rfl); (case Zg => (first | rfl | (go_simp; done) | fail)); (case Zp => rfl); (case Zx => (first | (go_simp; done) | (go_simp; rfl) | rfl)); (case Zs => exact Tst.out); (case Zn => first | (with_reducible rfl) | (rw [List.length_map]; with_reducible assumption) | (simp; omega) | (simp; done) | fail); (case Z1 => (first | rfl | (simp [Value.oneCell']; done))); (case Zt => (first | exact .head | exact (.tail .head) | exact (.tail (.tail .head)) | exact (.tail (.tail (.tail .head))) | exact (.tail (.tail (.tail (.tail .head)))) | exact (.tail (.tail (.tail (.tail (.tail .head))))) | exact (.tail (.tail (.tail (.tail (.tail (.tail .head)))))) | exact (.tail (.tail (.tail (.tail (.tail (.tail (.tail .head))))))) | exact (.tail (.tail (.tail (.tail (.tail (.tail (.tail (.tail .head)))))))))); (case Zle => (first | (with_reducible assumption) | omega | (simp; omega) | (simp; done) | fail)); (case Zds => (first | (with_reducible assumption) | (with_reducible refine setWhole _ _ ?_; first | (simp; omega) | (simp; done) | fail) | (with_reducible refine setRange_map _ _ _ _ ?_; first | (with_reducible assumption) | omega) | (with_reducible refine setRange_app _ _ _ _ _ ?_; first | (with_reducible assumption) | omega) | (with_reducible refine take_map_app _ _ _ _ ?_; with_reducible assumption) | (with_reducible refine take_map_w _ _ _ ?_; with_reducible assumption) | (simp only [List.take_zero, List.take_succ_cons, List.take_nil, List.drop_zero, List.drop_succ_cons, List.drop_nil, List.nil_append, List.cons_append, List.append_nil, List.length_cons, List.length_nil, Nat.zero_add, Nat.add_zero, Nat.reduceAdd, Nat.reduceSub]; rfl) | rfl | fail)); intro w_ HN; clear H; have H := HN; clear HN; try simp only [q_1, q_2, q_3, q_4]) | (refine sStoreRow H ?_ ?_ ?_ ?Zo ?Zd ?Zg ?_ ?_ ?Zp ?_ ?Zx ?Zu ?Zs ?Z1 ?_ ?_ ?_ ?_ ?Zt ?Zj ?_; (case Zo => rfl); (case Zd => rfl); (case Zs => kernel_rfl); (case Zg => (first | rfl | (go_simp; done) | fail)); (case Zp => rfl); (case Zx => (first | (go_simp; done) | (go_simp; rfl) | rfl)); (case Zu => rfl); (case Z1 => rfl); (case Zt => (first | exact .head | exact (.tail .head) | exact (.tail (.tail .head)) | exact (.tail (.tail (.tail .head))) | exact (.tail (.tail (.tail (.tail .head)))) | exact (.tail (.tail (.tail (.tail (.tail .head))))) | exact (.tail (.tail (.tail (.tail (.tail (.tail .head)))))) | exact (.tail (.tail (.tail (.tail (.tail (.tail (.tail .head))))))) | exact (.tail (.tail (.tail (.tail (.tail (.tail (.tail (.tail .head)))))))))); (case Zj => (first | (with_reducible assumption) | omega | (simp; omega) | (simp; done) | fail)); intro w_ HN; clear H; have H := HN; clear HN; try simp only [q_1, q_2, q_3, q_4]))); refine PQ.mk (H.sub (by repeat (first | exact List.Sublist.refl _ | exact List.nil_sublist _ | apply List.Sublist.cons_cons | apply List.Sublist.cons))) ?_; (first | (refine planLoadBlk ?_ ?_ ?Zi ?Zg ?_ ?_ ?Zo ?Zs ?_ ?_ ?Zx ?_ ?_ ?Zm ?_ ?Zv ?_; (case Zi => rfl); (case Zo => rfl); (case Zs => exact Tsc.out); (case Zg => (first | rfl | (go_simp; done) | fail)); (case Zx => rfl); (case Zm => (repeat (first | exact mh_ | assumption | apply mt_))); (case Zv => (first | rfl | (refine map_ix _ _ _ ?_; first | (with_reducible assumption) | omega | (simp; omega)) | (refine map_ix_app _ _ _ _ ?_; first | (with_reducible assumption) | omega | (simp; omega)) | assumption | (simp; done))); try simp only [q_1, q_2, q_3, q_4]) | (refine planLoadRd ?_ ?_ ?Zi ?Zg ?_ ?_ ?Zo ?Zs ?_ ?_ ?Zx ?_ ?Zr ?_ ?Zv ?_; (case Zi => rfl); (case Zo => rfl); (case Zs => exact Tsc.out); (case Zg => (first | rfl | (go_simp; done) | fail)); (case Zx => rfl); (case Zr => (intro w_ H; first | (refine H.rdOwn (c := ?_) (e := ?_) ?Zm1; (case Zm1 => (repeat (first | exact mh_ | assumption | apply mt_)))) | (refine H.rdRo ?Zm1; (case Zm1 => (repeat (first | exact mh_ | assumption | apply mt_)))) | (refine H.rdBlk (t := ?_) ?Zm1; (case Zm1 => (repeat (first | exact mh_ | assumption | apply mt_)))) | fail)); (case Zv => (first | rfl | (refine map_ix _ _ _ ?_; first | (with_reducible assumption) | omega | (simp; omega)) | (refine map_ix_app _ _ _ _ ?_; first | (with_reducible assumption) | omega | (simp; omega)) | assumption | (simp; done))); try simp only [q_1, q_2, q_3, q_4]) | (refine planLoadOld ?_ ?_ ?Zi ?Zg ?_ ?_ ?Zo ?Zs ?_ ?Zx ?_ ?Zv ?_; (case Zi => rfl); (case Zo => rfl); (case Zs => exact Tsc.out); (case Zg => (first | rfl | (go_simp; done) | fail)); (case Zx => rfl); (case Zv => assumption); try simp only [q_1, q_2, q_3, q_4]) | (refine planPure ?_ ?_ ?Zi ?Zg ?_ ?Zv ?_; (case Zi => rfl); (case Zg => (first | rfl | (go_simp; done) | fail)); (case Zv => (intro w_; first | (go_simp; (try go_bits); rfl) | (go_simp; done) | fail)); try simp only [q_1, q_2, q_3, q_4]) | (refine planSkip ?_ ?_ ?Zi ?Zg ?_; (case Zi => rfl); (case Zg => (first | rfl | (go_simp; done) | fail)); try simp only [q_1, q_2, q_3, q_4]) | fail); refine planDone ?_
        go_wp2
        (refine ret_ct H ?_ ?_ ?_ ?Zq ?Zd ?_ ?_ ?Zp ?Z1 ?Z2 ?_ ?Zn ?_ ?_ ?Zm ?Zle ?_ ?Zvs ?_ ?e0 ?ZR; (case Zq => rfl); (case Zd => rfl); (case Zp => rfl); (case Z1 => kernel_rfl); (case Z2 => kernel_rfl); (case Zn => exact Tsz.out); (case Zm => (repeat (first | exact mh_ | assumption | apply mt_))); (case Zle => (first | (with_reducible assumption) | omega | (simp; omega) | (simp; done) | fail)); (case Zvs => (first | (with_reducible assumption) | (with_reducible refine setWhole _ _ ?_; first | (simp; omega) | (simp; done) | fail) | (with_reducible refine setRange_map _ _ _ _ ?_; first | (with_reducible assumption) | omega) | (with_reducible refine setRange_app _ _ _ _ _ ?_; first | (with_reducible assumption) | omega) | (with_reducible refine take_map_app _ _ _ _ ?_; with_reducible assumption) | (with_reducible refine take_map_w _ _ _ ?_; with_reducible assumption) | (simp only [List.take_zero, List.take_succ_cons, List.take_nil, List.drop_zero, List.drop_succ_cons, List.drop_nil, List.nil_append, List.cons_append, List.append_nil, List.length_cons, List.length_nil, Nat.zero_add, Nat.add_zero, Nat.reduceAdd, Nat.reduceSub]; rfl) | rfl | fail)); (case e0 => rfl); (case ZR => exact ⟨by rw [hR.out]; rfl, H.sub (List.sublist_cons_self ..)⟩))
/-- What the least and the greatest so far are, in the document. -/
structure LoHiR (xs : List Nat) (lo hi : Nat) : Prop where
  l : lo = lw (mnF xs)
  h : hi = hw (mxF xs)
theorem LoHiR.nil : LoHiR [] 0 0 := ⟨rfl, rfl⟩
theorem lt_test {x y : Nat} (hx : rung x < INF) (hy : rung y < INF) : (FloatKind.f64.format.order x y == some .lt) = decide (sr x < sr y) := by
  have h : (FloatKind.f64.format.order x y == some .lt) = (!isn x && !isn y && decide (sr x < sr y)) := lt_eq x y
  rw [h, isn_fin hx, isn_fin hy]; rfl
theorem gt_test {x y : Nat} (hx : rung x < INF) (hy : rung y < INF) : (FloatKind.f64.format.order x y == some .gt) = decide (sr y < sr x) := by
  have h : (FloatKind.f64.format.order x y == some .gt) = (!isn x && !isn y && decide (sr y < sr x)) := gt_eq x y
  rw [h, isn_fin hx, isn_fin hy]; rfl
theorem LoHiR.fin {xs : List Nat} {lo hi : Nat} (h : LoHiR xs lo hi) : rung lo < INF ∧ rung hi < INF ∧ sr lo = mnF xs ∧ sr hi = mxF xs := by
  obtain ⟨a1, a2⟩ := mnF_bd xs
  obtain ⟨b1, b2⟩ := mxF_bd xs
  obtain ⟨_, c2, c3⟩ := lw_facts a1 a2
  obtain ⟨_, d2, d3, _⟩ := hw_facts b1 b2
  rw [h.l, h.h]
  exact ⟨c2, d2, c3, d3⟩
theorem LoHiR.skip {xs : List Nat} {lo hi : Nat} (h : LoHiR xs lo hi) (x : Nat) (hx : ¬ rung x < INF) : LoHiR (xs ++ [x]) lo hi := by
  refine ⟨?_, ?_⟩
  · rw [mnF_more, if_neg hx]; exact h.l
  · rw [mxF_more, if_neg hx]; exact h.h
theorem LoHiR.take {xs : List Nat} {lo hi : Nat} (h : LoHiR xs lo hi) (x : Nat) (hl : x < 18446744073709551616) (hx : rung x < INF) : LoHiR (xs ++ [x]) (if sr x < sr lo then x else lo) (if sr hi < sr x then x else hi) := by
  obtain ⟨_, _, e1, e2⟩ := h.fin
  have hm := (mnF_bd xs).2
  have hM := (mxF_bd xs).1
  refine ⟨?_, ?_⟩
  · rw [mnF_more, if_pos hx, e1]
    split
    · rw [show min (mnF xs) (sr x) = sr x by omega]; exact lw_of hl (by omega)
    · rw [show min (mnF xs) (sr x) = mnF xs by omega]; exact h.l
  · rw [mxF_more, if_pos hx, e2]
    split
    · rw [show max (mxF xs) (sr x) = sr x by omega]; exact hw_of hl (by omega)
    · rw [show max (mxF xs) (sr x) = mxF xs by omega]; exact h.h

set_option maxRecDepth 100000 in
set_option maxHeartbeats 2000000 in
theorem refFit_any (w0 w : World) (L : List Ent) (A : Option Addr) (xs : List Nat) (n c : Nat) (hn : n = xs.length) (hl : n ≤ 1000000) (hA : Ent.ro A (xs.map (.float .f64)) ∈ L) (hw : ∀ x, x ∈ xs → x < 18446744073709551616) (H : St w0 w L) :
    Calls Tryd.prog 68 #[.slice A n c] w fun e w' => e = .returned (if fitOk (mnF xs) (mxF xs) then .tuple #[.float .f64 (fitB (mnF xs) (mxF xs)), .int .i64 (fitN (mnF xs) (mxF xs)), .bool true] else .tuple #[.float .f64 0, .int .i64 0, .bool false]) ∧ St w0 w' L := by
  have hlen : (xs.map (Value.float .f64)).length = n := by rw [List.length_map, hn]
  obtain ⟨R, hR⟩ : ∃ R, R = (if fitOk (mnF xs) (mxF xs) then Value.tuple #[.float .f64 (fitB (mnF xs) (mxF xs)), .int .i64 (fitN (mnF xs) (mxF xs)), .bool true] else .tuple #[.float .f64 0, .int .i64 0, .bool false]) := ⟨_, rfl⟩
  rw [← hR]
  replace hR := Aside.mk hR
  replace hn := Aside.mk hn
  replace hw := Aside.mk hw
  go_enter Tryd.func68, Tryd.ntmps68
  go_wp2
  go_loopw [7, 5, 6] (fun i lo hi w2_ => ∃ j l h : Nat, j ≤ n ∧ i = .int .i64 j ∧ lo = .float .f64 l ∧ hi = .float .f64 h ∧ Aside (LoHiR (xs.take j) l h) ∧ St w0 w2_ L) (fun i _ _ _ => n - (intOf i).toNat)
  case atStart => exact ⟨0, 0, 0, by omega, rfl, rfl, rfl, ⟨LoHiR.nil⟩, H⟩
  case round =>
    clear H
    obtain ⟨j, l, h, hj, rfl, rfl, rfl, hI, H⟩ := hrel
    by_cases hjn : j < n
    · have z1 : decide ((j : Int) < (n : Int)) = true := decide_eq_true (by omega)
      have z1n : decide (j < n) = true := decide_eq_true hjn
      obtain ⟨x, hx⟩ : ∃ x, xs[j]? = some x := ⟨xs[j]'(by have := hn.out; omega), List.getElem?_eq_getElem _⟩
      have hv : (xs.map (Value.float .f64))[j]? = some (.float .f64 x) := by rw [List.getElem?_map, hx]; rfl
      have hxl := hw.out x (List.mem_of_getElem? hx)
      have ht := Aside.mk (take_more _ _ _ hx)
      have hq := fun w => refFin2_any x hxl w
      clear hx
      by_cases hf : rung x < INF
      · have hI2 := hI.out.take x hxl hf
        obtain ⟨f1, f2, _, _⟩ := hI.out.fin
        have t1 := lt_test hf f1
        have t2 := gt_test hf f2
        rw [decide_eq_true hf] at hq
        clear hI hf f1 f2
        by_cases c1 : sr x < sr l
        · rw [decide_eq_true c1] at t1
          rw [if_pos c1] at hI2
          by_cases c2 : sr h < sr x
          · rw [decide_eq_true c2] at t2
            rw [if_pos c2] at hI2
            replace hI2 := Aside.mk hI2
            go_wp2_with (first | go_skip | (go_at_call 78; refine (hq _).mono ?_; rintro e_ w_ ⟨rfl, rfl⟩; ) | ((with_reducible refine wpGate ?_); first | (refine sLoad ?_ ?_ ?Zo ?_ ?Zd ?Zg ?Zs ?_ ?Zx ?_ ?Zv ?_; (case Zo => rfl); (case Zd => rfl); (case Zs => exact Tsc.out); (case Zg => (first | rfl | (go_simp; done) | fail)); (case Zx => rfl); (case Zv => (first | (refine H.cellBlk (cs := ?_) (t := ?_) ?Zm1 ?Zv1; (case Zm1 => (repeat (first | exact mh_ | assumption | apply mt_))); (case Zv1 => (first | rfl | (refine map_ix _ _ _ ?_; first | (with_reducible assumption) | omega | (simp; omega)) | (refine map_ix_app _ _ _ _ ?_; first | (with_reducible assumption) | omega | (simp; omega)) | assumption | (simp; done)))) | (refine (H.rdOwn (xs := ?_) (c := ?_) (e := ?_) ?Zm1).get ?Zv1; (case Zm1 => (repeat (first | exact mh_ | assumption | apply mt_))); (case Zv1 => (first | rfl | (refine map_ix _ _ _ ?_; first | (with_reducible assumption) | omega | (simp; omega)) | (refine map_ix_app _ _ _ _ ?_; first | (with_reducible assumption) | omega | (simp; omega)) | assumption | (simp; done)))) | (refine (H.rdRo (xs := ?_) ?Zm1).get ?Zv1; (case Zm1 => (repeat (first | exact mh_ | assumption | apply mt_))); (case Zv1 => (first | rfl | (refine map_ix _ _ _ ?_; first | (with_reducible assumption) | omega | (simp; omega)) | (refine map_ix_app _ _ _ _ ?_; first | (with_reducible assumption) | omega | (simp; omega)) | assumption | (simp; done)))) | (refine H.cellOld ?Zm1; (case Zm1 => assumption)) | fail)); try simp only [q_1, q_2, q_3, q_4]) | (refine sIndex ?_ ?_ ?_ ?_ ?Zo ?_ ?Zd ?Zg ?Zt ?Zs ?_ ?_ ?_ ?Zx ?_ ?_ ?Zi ?_ ?Zr ?Z0 ?Z1 ?Zn ?_ ?Zj ?_; (case Zo => rfl); (case Zd => rfl); (case Zt => exact Tun.out); (case Zs => kernel_rfl); (case Zg => (first | rfl | (go_simp; done) | fail)); (case Zx => rfl); (case Zi => rfl); (case Zr => (first | (refine H.rdOwn (c := ?_) (e := ?_) ?Zm1; (case Zm1 => (repeat (first | exact mh_ | assumption | apply mt_)))) | (refine H.rdRo ?Zm1; (case Zm1 => (repeat (first | exact mh_ | assumption | apply mt_)))) | (refine H.rdBlk (t := ?_) ?Zm1; (case Zm1 => (repeat (first | exact mh_ | assumption | apply mt_)))) | (with_reducible assumption) | exact Rd.none _ _ | fail)); (case Z0 => (first | (with_reducible assumption) | omega | (simp; omega) | (simp; done) | fail)); (case Z1 => (first | (with_reducible assumption) | omega | (simp; omega) | (simp; done) | fail)); (case Zn => (first | (with_reducible assumption) | omega | (simp; omega) | (simp; done) | fail)); (case Zj => first | (go_bits; rfl) | rfl | fail); try simp only [q_1, q_2, q_3, q_4])))
            go_roundw
            case rel => exact ⟨j + 1, x, x, by omega, by go_num, rfl, rfl, by rw [ht.out]; exact hI2, H⟩
            case measure => simp [intOf]; omega
          · rw [decide_eq_false c2] at t2
            rw [if_neg c2] at hI2
            replace hI2 := Aside.mk hI2
            go_wp2_with (first | go_skip | (go_at_call 78; refine (hq _).mono ?_; rintro e_ w_ ⟨rfl, rfl⟩; ) | ((with_reducible refine wpGate ?_); first | (refine sLoad ?_ ?_ ?Zo ?_ ?Zd ?Zg ?Zs ?_ ?Zx ?_ ?Zv ?_; (case Zo => rfl); (case Zd => rfl); (case Zs => exact Tsc.out); (case Zg => (first | rfl | (go_simp; done) | fail)); (case Zx => rfl); (case Zv => (first | (refine H.cellBlk (cs := ?_) (t := ?_) ?Zm1 ?Zv1; (case Zm1 => (repeat (first | exact mh_ | assumption | apply mt_))); (case Zv1 => (first | rfl | (refine map_ix _ _ _ ?_; first | (with_reducible assumption) | omega | (simp; omega)) | (refine map_ix_app _ _ _ _ ?_; first | (with_reducible assumption) | omega | (simp; omega)) | assumption | (simp; done)))) | (refine (H.rdOwn (xs := ?_) (c := ?_) (e := ?_) ?Zm1).get ?Zv1; (case Zm1 => (repeat (first | exact mh_ | assumption | apply mt_))); (case Zv1 => (first | rfl | (refine map_ix _ _ _ ?_; first | (with_reducible assumption) | omega | (simp; omega)) | (refine map_ix_app _ _ _ _ ?_; first | (with_reducible assumption) | omega | (simp; omega)) | assumption | (simp; done)))) | (refine (H.rdRo (xs := ?_) ?Zm1).get ?Zv1; (case Zm1 => (repeat (first | exact mh_ | assumption | apply mt_))); (case Zv1 => (first | rfl | (refine map_ix _ _ _ ?_; first | (with_reducible assumption) | omega | (simp; omega)) | (refine map_ix_app _ _ _ _ ?_; first | (with_reducible assumption) | omega | (simp; omega)) | assumption | (simp; done)))) | (refine H.cellOld ?Zm1; (case Zm1 => assumption)) | fail)); try simp only [q_1, q_2, q_3, q_4]) | (refine sIndex ?_ ?_ ?_ ?_ ?Zo ?_ ?Zd ?Zg ?Zt ?Zs ?_ ?_ ?_ ?Zx ?_ ?_ ?Zi ?_ ?Zr ?Z0 ?Z1 ?Zn ?_ ?Zj ?_; (case Zo => rfl); (case Zd => rfl); (case Zt => exact Tun.out); (case Zs => kernel_rfl); (case Zg => (first | rfl | (go_simp; done) | fail)); (case Zx => rfl); (case Zi => rfl); (case Zr => (first | (refine H.rdOwn (c := ?_) (e := ?_) ?Zm1; (case Zm1 => (repeat (first | exact mh_ | assumption | apply mt_)))) | (refine H.rdRo ?Zm1; (case Zm1 => (repeat (first | exact mh_ | assumption | apply mt_)))) | (refine H.rdBlk (t := ?_) ?Zm1; (case Zm1 => (repeat (first | exact mh_ | assumption | apply mt_)))) | (with_reducible assumption) | exact Rd.none _ _ | fail)); (case Z0 => (first | (with_reducible assumption) | omega | (simp; omega) | (simp; done) | fail)); (case Z1 => (first | (with_reducible assumption) | omega | (simp; omega) | (simp; done) | fail)); (case Zn => (first | (with_reducible assumption) | omega | (simp; omega) | (simp; done) | fail)); (case Zj => first | (go_bits; rfl) | rfl | fail); try simp only [q_1, q_2, q_3, q_4])))
            go_roundw
            case rel => exact ⟨j + 1, x, h, by omega, by go_num, rfl, rfl, by rw [ht.out]; exact hI2, H⟩
            case measure => simp [intOf]; omega
        · rw [decide_eq_false c1] at t1
          rw [if_neg c1] at hI2
          by_cases c2 : sr h < sr x
          · rw [decide_eq_true c2] at t2
            rw [if_pos c2] at hI2
            replace hI2 := Aside.mk hI2
            go_wp2_with (first | go_skip | (go_at_call 78; refine (hq _).mono ?_; rintro e_ w_ ⟨rfl, rfl⟩; ) | ((with_reducible refine wpGate ?_); first | (refine sLoad ?_ ?_ ?Zo ?_ ?Zd ?Zg ?Zs ?_ ?Zx ?_ ?Zv ?_; (case Zo => rfl); (case Zd => rfl); (case Zs => exact Tsc.out); (case Zg => (first | rfl | (go_simp; done) | fail)); (case Zx => rfl); (case Zv => (first | (refine H.cellBlk (cs := ?_) (t := ?_) ?Zm1 ?Zv1; (case Zm1 => (repeat (first | exact mh_ | assumption | apply mt_))); (case Zv1 => (first | rfl | (refine map_ix _ _ _ ?_; first | (with_reducible assumption) | omega | (simp; omega)) | (refine map_ix_app _ _ _ _ ?_; first | (with_reducible assumption) | omega | (simp; omega)) | assumption | (simp; done)))) | (refine (H.rdOwn (xs := ?_) (c := ?_) (e := ?_) ?Zm1).get ?Zv1; (case Zm1 => (repeat (first | exact mh_ | assumption | apply mt_))); (case Zv1 => (first | rfl | (refine map_ix _ _ _ ?_; first | (with_reducible assumption) | omega | (simp; omega)) | (refine map_ix_app _ _ _ _ ?_; first | (with_reducible assumption) | omega | (simp; omega)) | assumption | (simp; done)))) | (refine (H.rdRo (xs := ?_) ?Zm1).get ?Zv1; (case Zm1 => (repeat (first | exact mh_ | assumption | apply mt_))); (case Zv1 => (first | rfl | (refine map_ix _ _ _ ?_; first | (with_reducible assumption) | omega | (simp; omega)) | (refine map_ix_app _ _ _ _ ?_; first | (with_reducible assumption) | omega | (simp; omega)) | assumption | (simp; done)))) | (refine H.cellOld ?Zm1; (case Zm1 => assumption)) | fail)); try simp only [q_1, q_2, q_3, q_4]) | (refine sIndex ?_ ?_ ?_ ?_ ?Zo ?_ ?Zd ?Zg ?Zt ?Zs ?_ ?_ ?_ ?Zx ?_ ?_ ?Zi ?_ ?Zr ?Z0 ?Z1 ?Zn ?_ ?Zj ?_; (case Zo => rfl); (case Zd => rfl); (case Zt => exact Tun.out); (case Zs => kernel_rfl); (case Zg => (first | rfl | (go_simp; done) | fail)); (case Zx => rfl); (case Zi => rfl); (case Zr => (first | (refine H.rdOwn (c := ?_) (e := ?_) ?Zm1; (case Zm1 => (repeat (first | exact mh_ | assumption | apply mt_)))) | (refine H.rdRo ?Zm1; (case Zm1 => (repeat (first | exact mh_ | assumption | apply mt_)))) | (refine H.rdBlk (t := ?_) ?Zm1; (case Zm1 => (repeat (first | exact mh_ | assumption | apply mt_)))) | (with_reducible assumption) | exact Rd.none _ _ | fail)); (case Z0 => (first | (with_reducible assumption) | omega | (simp; omega) | (simp; done) | fail)); (case Z1 => (first | (with_reducible assumption) | omega | (simp; omega) | (simp; done) | fail)); (case Zn => (first | (with_reducible assumption) | omega | (simp; omega) | (simp; done) | fail)); (case Zj => first | (go_bits; rfl) | rfl | fail); try simp only [q_1, q_2, q_3, q_4])))
            go_roundw
            case rel => exact ⟨j + 1, l, x, by omega, by go_num, rfl, rfl, by rw [ht.out]; exact hI2, H⟩
            case measure => simp [intOf]; omega
          · rw [decide_eq_false c2] at t2
            rw [if_neg c2] at hI2
            replace hI2 := Aside.mk hI2
            go_wp2_with (first | go_skip | (go_at_call 78; refine (hq _).mono ?_; rintro e_ w_ ⟨rfl, rfl⟩; ) | ((with_reducible refine wpGate ?_); first | (refine sLoad ?_ ?_ ?Zo ?_ ?Zd ?Zg ?Zs ?_ ?Zx ?_ ?Zv ?_; (case Zo => rfl); (case Zd => rfl); (case Zs => exact Tsc.out); (case Zg => (first | rfl | (go_simp; done) | fail)); (case Zx => rfl); (case Zv => (first | (refine H.cellBlk (cs := ?_) (t := ?_) ?Zm1 ?Zv1; (case Zm1 => (repeat (first | exact mh_ | assumption | apply mt_))); (case Zv1 => (first | rfl | (refine map_ix _ _ _ ?_; first | (with_reducible assumption) | omega | (simp; omega)) | (refine map_ix_app _ _ _ _ ?_; first | (with_reducible assumption) | omega | (simp; omega)) | assumption | (simp; done)))) | (refine (H.rdOwn (xs := ?_) (c := ?_) (e := ?_) ?Zm1).get ?Zv1; (case Zm1 => (repeat (first | exact mh_ | assumption | apply mt_))); (case Zv1 => (first | rfl | (refine map_ix _ _ _ ?_; first | (with_reducible assumption) | omega | (simp; omega)) | (refine map_ix_app _ _ _ _ ?_; first | (with_reducible assumption) | omega | (simp; omega)) | assumption | (simp; done)))) | (refine (H.rdRo (xs := ?_) ?Zm1).get ?Zv1; (case Zm1 => (repeat (first | exact mh_ | assumption | apply mt_))); (case Zv1 => (first | rfl | (refine map_ix _ _ _ ?_; first | (with_reducible assumption) | omega | (simp; omega)) | (refine map_ix_app _ _ _ _ ?_; first | (with_reducible assumption) | omega | (simp; omega)) | assumption | (simp; done)))) | (refine H.cellOld ?Zm1; (case Zm1 => assumption)) | fail)); try simp only [q_1, q_2, q_3, q_4]) | (refine sIndex ?_ ?_ ?_ ?_ ?Zo ?_ ?Zd ?Zg ?Zt ?Zs ?_ ?_ ?_ ?Zx ?_ ?_ ?Zi ?_ ?Zr ?Z0 ?Z1 ?Zn ?_ ?Zj ?_; (case Zo => rfl); (case Zd => rfl); (case Zt => exact Tun.out); (case Zs => kernel_rfl); (case Zg => (first | rfl | (go_simp; done) | fail)); (case Zx => rfl); (case Zi => rfl); (case Zr => (first | (refine H.rdOwn (c := ?_) (e := ?_) ?Zm1; (case Zm1 => (repeat (first | exact mh_ | assumption | apply mt_)))) | (refine H.rdRo ?Zm1; (case Zm1 => (repeat (first | exact mh_ | assumption | apply mt_)))) | (refine H.rdBlk (t := ?_) ?Zm1; (case Zm1 => (repeat (first | exact mh_ | assumption | apply mt_)))) | (with_reducible assumption) | exact Rd.none _ _ | fail)); (case Z0 => (first | (with_reducible assumption) | omega | (simp; omega) | (simp; done) | fail)); (case Z1 => (first | (with_reducible assumption) | omega | (simp; omega) | (simp; done) | fail)); (case Zn => (first | (with_reducible assumption) | omega | (simp; omega) | (simp; done) | fail)); (case Zj => first | (go_bits; rfl) | rfl | fail); try simp only [q_1, q_2, q_3, q_4])))
            go_roundw
            case rel => exact ⟨j + 1, l, h, by omega, by go_num, rfl, rfl, by rw [ht.out]; exact hI2, H⟩
            case measure => simp [intOf]; omega
      · have hI2 := Aside.mk (hI.out.skip x hf)
        rw [decide_eq_false hf] at hq
        clear hI hf
        go_wp2_with (first | go_skip | (go_at_call 78; refine (hq _).mono ?_; rintro e_ w_ ⟨rfl, rfl⟩; ) | ((with_reducible refine wpGate ?_); first | (refine sLoad ?_ ?_ ?Zo ?_ ?Zd ?Zg ?Zs ?_ ?Zx ?_ ?Zv ?_; (case Zo => rfl); (case Zd => rfl); (case Zs => exact Tsc.out); (case Zg => (first | rfl | (go_simp; done) | fail)); (case Zx => rfl); (case Zv => (first | (refine H.cellBlk (cs := ?_) (t := ?_) ?Zm1 ?Zv1; (case Zm1 => (repeat (first | exact mh_ | assumption | apply mt_))); (case Zv1 => (first | rfl | (refine map_ix _ _ _ ?_; first | (with_reducible assumption) | omega | (simp; omega)) | (refine map_ix_app _ _ _ _ ?_; first | (with_reducible assumption) | omega | (simp; omega)) | assumption | (simp; done)))) | (refine (H.rdOwn (xs := ?_) (c := ?_) (e := ?_) ?Zm1).get ?Zv1; (case Zm1 => (repeat (first | exact mh_ | assumption | apply mt_))); (case Zv1 => (first | rfl | (refine map_ix _ _ _ ?_; first | (with_reducible assumption) | omega | (simp; omega)) | (refine map_ix_app _ _ _ _ ?_; first | (with_reducible assumption) | omega | (simp; omega)) | assumption | (simp; done)))) | (refine (H.rdRo (xs := ?_) ?Zm1).get ?Zv1; (case Zm1 => (repeat (first | exact mh_ | assumption | apply mt_))); (case Zv1 => (first | rfl | (refine map_ix _ _ _ ?_; first | (with_reducible assumption) | omega | (simp; omega)) | (refine map_ix_app _ _ _ _ ?_; first | (with_reducible assumption) | omega | (simp; omega)) | assumption | (simp; done)))) | (refine H.cellOld ?Zm1; (case Zm1 => assumption)) | fail)); try simp only [q_1, q_2, q_3, q_4]) | (refine sIndex ?_ ?_ ?_ ?_ ?Zo ?_ ?Zd ?Zg ?Zt ?Zs ?_ ?_ ?_ ?Zx ?_ ?_ ?Zi ?_ ?Zr ?Z0 ?Z1 ?Zn ?_ ?Zj ?_; (case Zo => rfl); (case Zd => rfl); (case Zt => exact Tun.out); (case Zs => kernel_rfl); (case Zg => (first | rfl | (go_simp; done) | fail)); (case Zx => rfl); (case Zi => rfl); (case Zr => (first | (refine H.rdOwn (c := ?_) (e := ?_) ?Zm1; (case Zm1 => (repeat (first | exact mh_ | assumption | apply mt_)))) | (refine H.rdRo ?Zm1; (case Zm1 => (repeat (first | exact mh_ | assumption | apply mt_)))) | (refine H.rdBlk (t := ?_) ?Zm1; (case Zm1 => (repeat (first | exact mh_ | assumption | apply mt_)))) | (with_reducible assumption) | exact Rd.none _ _ | fail)); (case Z0 => (first | (with_reducible assumption) | omega | (simp; omega) | (simp; done) | fail)); (case Z1 => (first | (with_reducible assumption) | omega | (simp; omega) | (simp; done) | fail)); (case Zn => (first | (with_reducible assumption) | omega | (simp; omega) | (simp; done) | fail)); (case Zj => first | (go_bits; rfl) | rfl | fail); try simp only [q_1, q_2, q_3, q_4])))
        go_roundw
        case rel => exact ⟨j + 1, l, h, by omega, by go_num, rfl, rfl, by rw [ht.out]; exact hI2, H⟩
        case measure => simp [intOf]; omega
    · have z1 : decide ((j : Int) < (n : Int)) = false := decide_eq_false (by omega)
      have z1n : decide (j < n) = false := decide_eq_false hjn
      obtain rfl : j = n := by omega
      have hI := hI.out
      rw [show xs.take j = xs from List.take_of_length_le (by have := hn.out; omega)] at hI
      obtain ⟨m1, m2⟩ := mnF_bd xs
      obtain ⟨x1, x2⟩ := mxF_bd xs
      obtain ⟨i3, i4⟩ := hI
      have hR := hR.out
      obtain ⟨mn, hmn⟩ : ∃ mn, mn = mnF xs := ⟨_, rfl⟩
      obtain ⟨mx, hmx⟩ : ∃ mx, mx = mxF xs := ⟨_, rfl⟩
      rw [← hmn] at m1 m2 i3 hR
      rw [← hmx] at x1 x2 i4 hR
      obtain ⟨d1, d2, d3, d4⟩ := fit_d m1 m2 x1 x2
      obtain ⟨b1, b2, b3⟩ := fit_b m1 m2 x1 x2
      have hsub : ∀ w : World, (binOp .sub 22 (.float .f64 h) (.float .f64 l)).run Tryd.prog w = .ok (.float .f64 (fitD mn mx)) w := fun w => run_float_arith w .sub 22 .f64 h l _ (by rw [i3, i4]; exact d1)
      have hdiv : ∀ w : World, (binOp .quo 22 (.float .f64 (fitD mn mx)) (.float .f64 4643176031446892544)).run Tryd.prog w = .ok (.float .f64 (fitB mn mx)) w := fun w => run_float_arith w .quo 22 .f64 _ _ _ b1
      obtain ⟨Dd, hDd⟩ : ∃ D, D = fitD mn mx := ⟨_, rfl⟩
      rw [← hDd] at hsub hdiv
      have hz := fun hb hp => fit_z (mx := mx) m1 m2 hb hp
      obtain ⟨B, hB⟩ : ∃ B, B = fitB mn mx := ⟨_, rfl⟩
      obtain ⟨Z, hZ⟩ : ∃ Z, Z = fitZ mn mx := ⟨_, rfl⟩
      have hok : fitOk mn mx = (decide (rung B < INF) && decide (0 < sr B)) := by unfold fitOk; rw [← hB]
      have hN : fitN mn mx = max (-128) (min (whV Z) 127) := by unfold fitN; rw [← hZ]
      rw [hok, hN, ← hB] at hR
      rw [← hB] at hdiv b2 hz
      rw [← hZ] at hz
      have hq := fun w => refFin2_any B b2 w
      clear hw hmn hmx hDd hB hZ hok hN d1 d4 b1 i4
      by_cases hf : rung B < INF
      · rw [decide_eq_true hf] at hq hR
        have z2 := (sr_pos hf).1
        by_cases hp : 0 < sr B
        · rw [decide_eq_true hp] at hR z2
          replace hR := Aside.mk hR
          obtain ⟨zl, hq2⟩ := hz hf hp
          obtain ⟨q, q1, q2⟩ := hq2 l (.inl i3)
          have hdv2 : ∀ w : World, (binOp .quo 22 (.float .f64 l) (.float .f64 B)).run Tryd.prog w = .ok (.float .f64 q) w := fun w => run_float_arith w .quo 22 .f64 _ _ _ q1
          have hsb2 : ∀ w : World, (binOp .sub 22 (.float .f64 13862079653046386688) (.float .f64 q)).run Tryd.prog w = .ok (.float .f64 Z) w := fun w => run_float_arith w .sub 22 .f64 _ _ _ q2
          clear hq2 q1 q2 hz i3 d2 d3 b3
          go_wp2_with (first | (go_at_call 78; refine (hq _).mono ?_; rintro e_ w_ ⟨rfl, rfl⟩; ) | (go_at_call 39; refine (refWhole_any Z zl (-128) 127 (by decide) (by decide) (by decide) (by decide) _).mono ?_; rintro e_ w_ ⟨rfl, rfl⟩; ))
          (go_ret3; exact ⟨by rw [hR.out]; rfl, H⟩)
        · rw [decide_eq_false hp] at hR z2
          replace hR := Aside.mk hR
          clear hz i3
          go_wp2_with (first | (go_at_call 78; refine (hq _).mono ?_; rintro e_ w_ ⟨rfl, rfl⟩; ))
          (go_ret3; exact ⟨by rw [hR.out]; rfl, H⟩)
      · rw [decide_eq_false hf] at hq hR
        replace hR := Aside.mk hR
        clear hz i3
        go_wp2_with (first | (go_at_call 78; refine (hq _).mono ?_; rintro e_ w_ ⟨rfl, rfl⟩; ))
        (go_ret3; exact ⟨by rw [hR.out]; rfl, H⟩)
end Go.Proofs.YtcpfangcibilaaaDoor
