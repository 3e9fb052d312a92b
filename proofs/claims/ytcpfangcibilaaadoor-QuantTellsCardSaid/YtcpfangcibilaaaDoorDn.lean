/- The document's Requant, walked; QuantFixed. No condition but the errors' places. -/
import Derived.Test.YtcpfangcibilaaaDoorDm
namespace Go.Proofs.YtcpfangcibilaaaDoor
set_option linter.unusedVariables false
set_option linter.unusedSimpArgs false
open Go.RowKit

theorem cutr_any (n a b : Int) (h : a ≤ b) (w : World) : Calls Tryd.prog 82 #[.int .i64 n, .int .i64 a, .int .i64 b] w fun e w' => e = .returned (.int .i64 (cutI n a b)) ∧ w' = w := cut_any n a b h w
theorem cut_more (p Z : Int) (h1 : -128 ≤ Z) (h2 : Z ≤ 127) : cutI (cutI p (-1099511627776) 1099511627776 + Z) (-128) 127 = cutI (p + Z) (-128) 127 := by unfold cutI; omega
theorem cut_bdw (p Z : Int) (h1 : -128 ≤ Z) (h2 : Z ≤ 127) : wrap64 (cutI p (-1099511627776) 1099511627776 + Z) = cutI p (-1099511627776) 1099511627776 + Z := by
  have := cutI_bd p (show (-1099511627776 : Int) ≤ 1099511627776 by decide)
  exact hw64 _ (by omega) (by omega)
set_option maxHeartbeats 1000000 in
theorem refRequant_any (x m s z : Int) (w : World) : Calls Tryd.prog 27 #[.int .i64 x, .int .i64 m, .int .i64 s, .int .i64 z] w fun e w' => e = .returned (.int .i64 (rq x m s z)) ∧ w' = w := by
  have hp := rqP_bd x m
  have hz := cutI_bd z (show (-128 : Int) ≤ 127 by decide)
  have hs := cutI_bd s (show (0 : Int) ≤ 62 by decide)
  obtain ⟨t, ht⟩ : ∃ t : Nat, cutI s 0 62 = (t : Int) := ⟨(cutI s 0 62).toNat, by omega⟩
  have ht2 : t ≤ 62 := by omega
  have hpe : cutI x (-2147483648) 2147483647 * cutI m 0 2147483647 = rqP x m := rfl
  unfold rq
  rw [ht, Int.toNat_natCast]
  clear hs
  generalize rqP x m = p at *
  generalize hZ : cutI z (-128) 127 = Z at *
  have hcm := fun p => cut_more p Z hz.1 hz.2
  have hcw := fun p => cut_bdw p Z hz.1 hz.2
  by_cases h0 : 0 < t
  · have e1 : rqS p t = (p + 2 ^ (t - 1)) / 2 ^ t := if_pos h0
    rw [e1]
    clear hcm hcw
    go_enter Tryd.func27, Tryd.ntmps27
    go_wp2_with (first | (go_at_call 82; (with_reducible refine (cutr_any x (-2147483648) 2147483647 (by decide) _).mono ?_); rintro e_ w_ ⟨rfl, rfl⟩; ) | (go_at_call 82; (with_reducible refine (cutr_any m 0 2147483647 (by decide) _).mono ?_); rintro e_ w_ ⟨rfl, rfl⟩; ) | (go_at_call 82; (with_reducible refine (cutr_any s 0 62 (by decide) _).mono ?_); rintro e_ w_ ⟨rfl, rfl⟩; ) | (go_at_call 82; (with_reducible refine (cutr_any z (-128) 127 (by decide) _).mono ?_); rintro e_ w_ ⟨rfl, rfl⟩; ) | (go_at_call 82; (with_reducible refine (cutr_any _ (-1099511627776) 1099511627776 (by decide) _).mono ?_); rintro e_ w_ ⟨rfl, rfl⟩; ) | (go_at_call 82; (with_reducible refine (cutr_any _ (-128) 127 (by decide) _).mono ?_); rintro e_ w_ ⟨rfl, rfl⟩; ))
    go_ret
    have hq0 : (0 : Int) < 2 ^ (t - 1) := Int.pow_pos (by decide)
    have hq1 : (2 : Int) ^ (t - 1) ≤ 2305843009213693952 := by
      have h1 : 2 ^ (t - 1) ≤ 2305843009213693952 := Nat.le_trans (Nat.pow_le_pow_right (by decide) (show t - 1 ≤ 61 by omega)) (by decide)
      have h2 : ((2 : Int) ^ (t - 1)) = ((2 ^ (t - 1) : Nat) : Int) := by simp
      rw [h2]; omega
    have hq2 : (0 : Int) < 2 ^ t := Int.pow_pos (by decide)
    generalize (2 : Int) ^ (t - 1) = c at *
    generalize (2 : Int) ^ t = d at *
    have e3 : wrap64 c = c := by unfold wrap64; omega
    have e4 : wrap64 (p + c) = p + c := by unfold wrap64; omega
    refine ⟨?_, rfl⟩
    show Ending.returned (.int .i64 (cutI (wrap64 (cutI (wrap64 (p + wrap64 c) / d) (-1099511627776) 1099511627776 + Z)) (-128) 127)) = _
    rw [e3, e4, cut_bdw _ Z hz.1 hz.2, cut_more _ Z hz.1 hz.2]
  · have e1 : rqS p t = p := if_neg h0
    obtain rfl : t = 0 := by omega
    rw [e1]
    clear hcm hcw
    go_enter Tryd.func27, Tryd.ntmps27
    go_wp2_with (first | (go_at_call 82; (with_reducible refine (cutr_any x (-2147483648) 2147483647 (by decide) _).mono ?_); rintro e_ w_ ⟨rfl, rfl⟩; ) | (go_at_call 82; (with_reducible refine (cutr_any m 0 2147483647 (by decide) _).mono ?_); rintro e_ w_ ⟨rfl, rfl⟩; ) | (go_at_call 82; (with_reducible refine (cutr_any s 0 62 (by decide) _).mono ?_); rintro e_ w_ ⟨rfl, rfl⟩; ) | (go_at_call 82; (with_reducible refine (cutr_any z (-128) 127 (by decide) _).mono ?_); rintro e_ w_ ⟨rfl, rfl⟩; ) | (go_at_call 82; (with_reducible refine (cutr_any _ (-1099511627776) 1099511627776 (by decide) _).mono ?_); rintro e_ w_ ⟨rfl, rfl⟩; ) | (go_at_call 82; (with_reducible refine (cutr_any _ (-128) 127 (by decide) _).mono ?_); rintro e_ w_ ⟨rfl, rfl⟩; ))
    go_ret
    refine ⟨?_, rfl⟩
    show Ending.returned (.int .i64 (cutI (wrap64 (cutI p (-1099511627776) 1099511627776 + Z)) (-128) 127)) = _
    rw [cut_bdw _ Z hz.1 hz.2, cut_more _ Z hz.1 hz.2]
theorem out_or (x : Nat) (hx : x < 18446744073709551616) : OutF x ∨ (4472074429978902528 ≤ x ∧ x ≤ 4742290407621132288) := by
  unfold OutF
  cases hn : isn x
  · by_cases h : sr x < 4472074429978902528 ∨ 4742290407621132288 < sr x
    · left; right; exact ⟨rfl, h⟩
    · right
      have h1 : (4472074429978902528 : Int) ≤ sr x := by omega
      have h2 : sr x ≤ (4742290407621132288 : Int) := by omega
      have hs : sgn x = false := by
        cases hs : sgn x
        · rfl
        · have e : sr x = -(rung x : Int) := by unfold sr sg; rw [hs]; rfl
          omega
      have e : sr x = (rung x : Int) := by unfold sr sg; rw [hs]; rfl
      have hr : rung x = x := by
        unfold sgn at hs
        unfold rung
        have : ¬ x / 9223372036854775808 % 2 = 1 := fun h => by rw [h] at hs; cases hs
        omega
      omega
  · left; left; rfl
theorem is_range (E : Int → Addr) (w : World) (hE : ErrsAll E w) : Calls Tryd.prog 25 #[.iface 119 (.pointer (some (E 102))), .int .i64 102] w fun e w' => e = .returned (.bool true) ∧ Below w.heap.size w w' := by
  have h := is_sameW E w 102 (.inr (by simp [codes])) hE
  rw [show errW E 102 = .iface 119 (.pointer (some (E 102))) from if_neg (by decide)] at h
  exact h

set_option maxRecDepth 100000 in
set_option maxHeartbeats 1000000 in
theorem quantFixed_any (E : Int → Addr) (w : World) (hE : ErrsAll E w) (x : Nat) (hx : x < 18446744073709551616) (a b c d : Int) :
    Calls Tryd.prog 3 #[.float .f64 x, .int .i64 a, .int .i64 b, .int .i64 c, .int .i64 d] w fun e w' => e = .returned (.bool true) ∧ St w w' [] := by
  have H := St.start w
  rcases out_or x hx with h | ⟨h1, h2⟩
  · go_enter Tryd.func3, Tryd.ntmps3
    go_wp2_with (first | (go_at_call 22; refine (first4_any _ _ _ H).mono ?_; rintro e_ w_ ⟨rfl, HN⟩; clear H; have H := HN; clear HN) | (go_at_call 23; refine (fixed_out E _ _ _ hE x h H).mono ?_; rintro e_ w_ ⟨rfl, HN⟩; clear H; have H := HN; clear HN) | (go_at_call 24; refine (refFixed_out x hx h _).mono ?_; rintro e_ w_ ⟨rfl, rfl⟩; ) | (go_at_call 25; refine (is_range E _ (hE.mono H.below)).mono ?_; rintro e_ w_ ⟨rfl, hb_⟩; have HN := H.app hb_; clear hb_; clear H; have H := HN; clear HN))
    (go_ret; exact ⟨by first | rfl | (simp; done), H⟩)
  · have n2 : ∀ (w : World), (binOp .eql 25 .nilIface .nilIface).run Tryd.prog w = .ok (.bool true) w := fun w => by kernel_rfl
    go_enter Tryd.func3, Tryd.ntmps3
    go_wp2_with (first | (go_at_call 22; refine (first4_any _ _ _ H).mono ?_; rintro e_ w_ ⟨rfl, HN⟩; clear H; have H := HN; clear HN) | (go_at_call 23; refine (fixed_any _ _ _ x h1 h2 H).mono ?_; rintro e_ w_ ⟨rfl, HN⟩; clear H; have H := HN; clear HN) | (go_at_call 24; refine (refFixed_any x h1 h2 _).mono ?_; rintro e_ w_ ⟨rfl, rfl⟩; ) | (go_at_call 26; (with_reducible refine (requant_any a b c d _).mono ?_); rintro e_ w_ ⟨rfl, rfl⟩; ) | (go_at_call 27; (with_reducible refine (refRequant_any a b c d _).mono ?_); rintro e_ w_ ⟨rfl, rfl⟩; ) | (go_at_call 26; (with_reducible refine (requant_any a (fxM x) (fxS x) d _).mono ?_); rintro e_ w_ ⟨rfl, rfl⟩; ) | (go_at_call 27; (with_reducible refine (refRequant_any a (fxM x) (fxS x) d _).mono ?_); rintro e_ w_ ⟨rfl, rfl⟩; ))
    (go_ret; exact ⟨by first | rfl | (simp; done), H⟩)
end Go.Proofs.YtcpfangcibilaaaDoor
