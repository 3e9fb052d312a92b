/- The chapter's first examples; FltKinds, FltRounds, walked. No condition but the table's cells. -/
import Derived.Test.YtcpfangcibilaaaDoorQj
namespace Go.Proofs.YtcpfangcibilaaaDoor
set_option linter.unusedVariables false
set_option linter.unusedSimpArgs false
open Go.RowKit

theorem TabC.st {w0 w : World} {L : List Ent} (h : TabC w0) (H : St w0 w L) : TabC w := fun i hi => H.cellOld (h i hi)
theorem round25 : roundW 4612811918334230528 = 4611686018427387904 := by
  rw [roundW_mid (by decide) 51 (by decide) (by decide) (by decide)]
  decide
set_option maxHeartbeats 800000 in
theorem first3_any (w0 w : World) (L : List Ent) (hT : TabC w0) (H : St w0 w L) : Calls Tryd.prog 31 #[] w fun e w' => e = .returned (.bool true) ∧ St w0 w' L := by
  have z1 : (FloatKind.f64.format.order 4611686018427387904 4611686018427387904 == some .eq) = true := (nan_test 4611686018427387904).trans (by decide)
  have hc : ∀ w : World, Calls Tryd.prog 46 #[.float .f64 0, .float .f64 13830554455654793216] w fun e w' => e = .returned (.float .f64 9223372036854775808) ∧ w' = w := fun w => by
    have h := copysign_any 0 13830554455654793216 (by decide) (by decide) w
    rw [show rung 0 + (if sgn 13830554455654793216 then 9223372036854775808 else 0) = 9223372036854775808 by decide] at h
    exact h
  have hl : ∀ w : World, Calls Tryd.prog 43 #[.float .f64 9223372036854775808, .float .f64 0] w fun e w' => e = .returned (.bool true) ∧ w' = w := fun w => by
    have h := less_any 9223372036854775808 0 (by decide) (by decide) w
    rw [show lessW 9223372036854775808 0 = true by decide] at h
    exact h
  go_enter Tryd.func31, Tryd.ntmps31
  go_wp2_with (first | (go_at_call 62; refine (parts6 _ (hT.st H)).mono ?_; rintro e_ w_ ⟨rfl, rfl⟩; ) | (go_at_call 32; refine (round_any _ _ _ 4612811918334230528 (by decide) H).mono ?_; rintro e_ w_ ⟨y, rfl, hy, HN⟩; clear H; have H := HN; clear HN; obtain rfl : y = 4611686018427387904 := (hy.2.2 (by decide)).trans round25; clear hy) | (go_at_call 46; refine (hc _).mono ?_; rintro e_ w_ ⟨rfl, rfl⟩; ) | (go_at_call 43; refine (hl _).mono ?_; rintro e_ w_ ⟨rfl, rfl⟩; ))
  (go_ret; exact ⟨rfl, H⟩)
set_option maxRecDepth 100000 in
set_option maxHeartbeats 1000000 in
theorem fltKinds_any (w : World) (hT : TabC w) (x y : Nat) (hx : x < 18446744073709551616) (hy : y < 18446744073709551616) : Calls Tryd.prog 8 #[.float .f64 x, .float .f64 y] w fun e w' => e = .returned (.bool true) ∧ St w w' [] := by
  have H := St.start w
  have z1 := sameW_self x
  have z2 := lessW_irrefl x
  go_enter Tryd.func8, Tryd.ntmps8
  go_wp2_with (first | (go_at_call 31; refine (first3_any _ _ _ hT H).mono ?_; rintro e_ w_ ⟨rfl, HN⟩; clear H; have H := HN; clear HN) | (go_at_call 40; refine (kind_any x hx _).mono ?_; rintro e_ w_ ⟨rfl, rfl⟩; ) | (go_at_call 41; refine (refKind_any x hx _).mono ?_; rintro e_ w_ ⟨rfl, rfl⟩; ) | (go_at_call 37; (with_reducible refine (same_any x y _).mono ?_); rintro e_ w_ ⟨rfl, rfl⟩; ) | (go_at_call 37; (with_reducible refine (same_any x x _).mono ?_); rintro e_ w_ ⟨rfl, rfl⟩; ) | (go_at_call 42; refine (refSame_any x y hx hy _).mono ?_; rintro e_ w_ ⟨rfl, rfl⟩; ) | (go_at_call 43; (with_reducible refine (less_any x y hx hy _).mono ?_); rintro e_ w_ ⟨rfl, rfl⟩; ) | (go_at_call 43; (with_reducible refine (less_any x x hx hx _).mono ?_); rintro e_ w_ ⟨rfl, rfl⟩; ) | (go_at_call 44; refine (refLess_any x y hx hy _).mono ?_; rintro e_ w_ ⟨rfl, rfl⟩; ))
  (go_ret; exact ⟨by first | rfl | (simp [z1, z2]; done), H⟩)
theorem rounds_same {x y : Nat} (h : RoundsTo x y) : sameW y (roundW x) = true := by
  cases hn : isn x
  · rw [h.2.2 hn]; exact sameW_self _
  · have h1 := h.2.1 hn
    have h2 := isn_true hn
    have h3 : roundW x = x := by unfold roundW; rw [if_pos (by omega)]
    rw [h3]; unfold sameW; rw [h1, hn]; rfl
set_option maxRecDepth 100000 in
set_option maxHeartbeats 1000000 in
theorem fltRounds_any (w : World) (hT : TabC w) (x : Nat) (hx : x < 18446744073709551616) (fr to : Int) (hf1 : -9223372036854775808 ≤ fr) (hf2 : fr ≤ 9223372036854775807) (ht1 : -9223372036854775808 ≤ to) (ht2 : to ≤ 9223372036854775807) : Calls Tryd.prog 7 #[.float .f64 x, .int .i64 fr, .int .i64 to] w fun e w' => e = .returned (.bool true) ∧ St w w' [] := by
  have H := St.start w
  go_enter Tryd.func7, Tryd.ntmps7
  go_wp2_with (first | (go_at_call 31; refine (first3_any _ _ _ hT H).mono ?_; rintro e_ w_ ⟨rfl, HN⟩; clear H; have H := HN; clear HN) | (go_at_call 32; refine (round_any _ _ _ x hx H).mono ?_; rintro e_ w_ ⟨y, rfl, hy, HN⟩; clear H; have H := HN; clear HN; have zs := rounds_same hy; clear hy) | (go_at_call 38; refine (refRound_any x hx _).mono ?_; rintro e_ w_ ⟨rfl, rfl⟩; ) | (go_at_call 37; refine (same_any y (roundW x) _).mono ?_; rintro e_ w_ ⟨rfl, rfl⟩; ) | (go_at_call 33; refine (whole_any _ _ _ x hx fr to hf1 hf2 ht1 ht2 H).mono ?_; rintro e_ w_ ⟨rfl, HN⟩; clear H; have H := HN; clear HN) | (go_at_call 39; refine (refWhole_any x hx fr to hf1 hf2 ht1 ht2 _).mono ?_; rintro e_ w_ ⟨rfl, rfl⟩; ))
  (go_ret; exact ⟨by first | rfl | (simp; done), H⟩)
theorem f64_lt {b : Nat} (h : (Lit.float .f64 b).wf = true) : b < 18446744073709551616 := by simpa [Lit.wf] using h
theorem i64_in {n : Int} (h : (Lit.int .i64 n).wf = true) : -9223372036854775808 ≤ n ∧ n ≤ 9223372036854775807 := by
  simp [Lit.wf, IntKind.min, IntKind.max, IntKind.signed, IntKind.bits] at h
  omega
end Go.Proofs.YtcpfangcibilaaaDoor
