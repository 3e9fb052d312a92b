/- Package quant's Requant, walked. No condition. -/
import Derived.Test.YtcpfangcibilaaaDoorQk
namespace Go.Proofs.YtcpfangcibilaaaDoor
set_option linter.unusedVariables false
set_option linter.unusedSimpArgs false
open Go.RowKit

/-- A number, cut. -/
def cutI (n a b : Int) : Int := max a (min n b)
theorem cutI_bd (n : Int) {a b : Int} (h : a ≤ b) : a ≤ cutI n a b ∧ cutI n a b ≤ b := by unfold cutI; omega
theorem qcut_any (n a b : Int) (w : World) : Calls Tryd.prog 81 #[.int .i64 n, .int .i64 a, .int .i64 b] w fun e w' => e = .returned (.int .i64 (cutI n a b)) ∧ w' = w := by
  unfold cutI
  by_cases t1 : b < n
  · by_cases t2 : a < b
    · rw [show max a (min n b) = b by omega]
      go_enter Tryd.func81, Tryd.ntmps81
      go_wp2
      go_ret
      exact ⟨by first | rfl | (show Ending.returned (.int .i64 _) = Ending.returned (.int .i64 _); congr 2; omega), rfl⟩
    · rw [show max a (min n b) = a by omega]
      go_enter Tryd.func81, Tryd.ntmps81
      go_wp2
      go_ret
      exact ⟨by first | rfl | (show Ending.returned (.int .i64 _) = Ending.returned (.int .i64 _); congr 2; omega), rfl⟩
  · by_cases t2 : a < n
    · rw [show max a (min n b) = n by omega]
      go_enter Tryd.func81, Tryd.ntmps81
      go_wp2
      go_ret
      exact ⟨by first | rfl | (show Ending.returned (.int .i64 _) = Ending.returned (.int .i64 _); congr 2; omega), rfl⟩
    · rw [show max a (min n b) = a by omega]
      go_enter Tryd.func81, Tryd.ntmps81
      go_wp2
      go_ret
      exact ⟨by first | rfl | (show Ending.returned (.int .i64 _) = Ending.returned (.int .i64 _); congr 2; omega), rfl⟩
/-- A wide number times one as Fixed has it. -/
def rqP (x m : Int) : Int := cutI x (-2147483648) 2147483647 * cutI m 0 2147483647
def rqS (p : Int) (s : Nat) : Int := if 0 < s then (p + 2 ^ (s - 1)) / 2 ^ s else p
def rq (x m s z : Int) : Int := cutI (rqS (rqP x m) (cutI s 0 62).toNat + cutI z (-128) 127) (-128) 127
theorem rqP_bd (x m : Int) : -4611686018427387904 ≤ rqP x m ∧ rqP x m ≤ 4611686018427387904 := by
  have h1 := cutI_bd x (show (-2147483648 : Int) ≤ 2147483647 by decide)
  have h2 := cutI_bd m (show (0 : Int) ≤ 2147483647 by decide)
  unfold rqP
  generalize cutI x (-2147483648) 2147483647 = a at *
  generalize cutI m 0 2147483647 = b at *
  constructor
  · have : -2147483648 * b ≤ a * b := Int.mul_le_mul_of_nonneg_right h1.1 h2.1
    omega
  · have : a * b ≤ 2147483647 * b := Int.mul_le_mul_of_nonneg_right h1.2 h2.1
    omega
set_option maxHeartbeats 1000000 in
theorem requant_any (x m s z : Int) (w : World) : Calls Tryd.prog 26 #[.int .i64 x, .int .i64 m, .int .i64 s, .int .i64 z] w fun e w' => e = .returned (.int .i64 (rq x m s z)) ∧ w' = w := by
  have hp := rqP_bd x m
  have hz := cutI_bd z (show (-128 : Int) ≤ 127 by decide)
  have hs := cutI_bd s (show (0 : Int) ≤ 62 by decide)
  obtain ⟨t, ht⟩ : ∃ t : Nat, cutI s 0 62 = (t : Int) := ⟨(cutI s 0 62).toNat, by omega⟩
  have ht2 : t ≤ 62 := by omega
  have hpe : cutI x (-2147483648) 2147483647 * cutI m 0 2147483647 = rqP x m := rfl
  unfold rq
  rw [ht, Int.toNat_natCast]
  clear hs
  generalize rqP x m = p at *
  generalize hZ : cutI z (-128) 127 = Z at *
  by_cases h0 : 0 < t
  · have e1 : rqS p t = (p + 2 ^ (t - 1)) / 2 ^ t := if_pos h0
    rw [e1]
    go_enter Tryd.func26, Tryd.ntmps26
    go_wp2_with (first | (go_at_call 81; (with_reducible refine (qcut_any x (-2147483648) 2147483647 _).mono ?_); rintro e_ w_ ⟨rfl, rfl⟩; ) | (go_at_call 81; (with_reducible refine (qcut_any m 0 2147483647 _).mono ?_); rintro e_ w_ ⟨rfl, rfl⟩; ) | (go_at_call 81; (with_reducible refine (qcut_any s 0 62 _).mono ?_); rintro e_ w_ ⟨rfl, rfl⟩; ) | (go_at_call 81; (with_reducible refine (qcut_any z (-128) 127 _).mono ?_); rintro e_ w_ ⟨rfl, rfl⟩; ) | (go_at_call 81; (with_reducible refine (qcut_any _ (-128) 127 _).mono ?_); rintro e_ w_ ⟨rfl, rfl⟩; ))
    go_ret
    have hq0 : (0 : Int) < 2 ^ (t - 1) := Int.pow_pos (by decide)
    have hq1 : (2 : Int) ^ (t - 1) ≤ 2305843009213693952 := by
      have h1 : 2 ^ (t - 1) ≤ 2305843009213693952 := Nat.le_trans (Nat.pow_le_pow_right (by decide) (show t - 1 ≤ 61 by omega)) (by decide)
      have h2 : ((2 : Int) ^ (t - 1)) = ((2 ^ (t - 1) : Nat) : Int) := by simp
      rw [h2]; omega
    have hq2 : (0 : Int) < 2 ^ t := Int.pow_pos (by decide)
    generalize (2 : Int) ^ (t - 1) = c at *
    generalize (2 : Int) ^ t = d at *
    have e3 : wrap64 c = c := by unfold wrap64; omega
    have e4 : wrap64 (p + c) = p + c := by unfold wrap64; omega
    have e5 : -6917529027641081856 ≤ (p + c) / d := Int.le_ediv_of_mul_le hq2 (by
      have : -6917529027641081856 * d ≤ -6917529027641081856 * 1 := by omega
      omega)
    have e6 : (p + c) / d ≤ 6917529027641081856 := Int.ediv_le_of_le_mul hq2 (by
      have : 6917529027641081856 * 1 ≤ 6917529027641081856 * d := by omega
      omega)
    refine ⟨?_, rfl⟩
    show Ending.returned (.int .i64 (cutI (wrap64 (wrap64 (p + wrap64 c) / d + Z)) (-128) 127)) = _
    rw [e3, e4, show wrap64 ((p + c) / d + Z) = (p + c) / d + Z by unfold wrap64; omega]
  · have e1 : rqS p t = p := if_neg h0
    obtain rfl : t = 0 := by omega
    rw [e1]
    go_enter Tryd.func26, Tryd.ntmps26
    go_wp2_with (first | (go_at_call 81; (with_reducible refine (qcut_any x (-2147483648) 2147483647 _).mono ?_); rintro e_ w_ ⟨rfl, rfl⟩; ) | (go_at_call 81; (with_reducible refine (qcut_any m 0 2147483647 _).mono ?_); rintro e_ w_ ⟨rfl, rfl⟩; ) | (go_at_call 81; (with_reducible refine (qcut_any s 0 62 _).mono ?_); rintro e_ w_ ⟨rfl, rfl⟩; ) | (go_at_call 81; (with_reducible refine (qcut_any z (-128) 127 _).mono ?_); rintro e_ w_ ⟨rfl, rfl⟩; ) | (go_at_call 81; (with_reducible refine (qcut_any _ (-128) 127 _).mono ?_); rintro e_ w_ ⟨rfl, rfl⟩; ))
    go_ret
    exact ⟨rfl, rfl⟩
theorem rq_zero (x s z : Int) (h1 : -128 ≤ z) (h2 : z ≤ 127) : rq x 0 s z = z := by
  have e1 : rqP x 0 = 0 := by unfold rqP; rw [show cutI 0 0 2147483647 = 0 by decide, Int.mul_zero]
  have e2 : ∀ t, rqS 0 t = 0 := fun t => by
    unfold rqS
    split
    · rename_i h
      obtain ⟨k, rfl⟩ : ∃ k, t = k + 1 := ⟨t - 1, by omega⟩
      have hk : (0 : Int) < 2 ^ k := Int.pow_pos (by decide)
      rw [Nat.add_sub_cancel, Int.pow_succ, Int.zero_add]
      exact Int.ediv_eq_zero_of_lt (by omega) (by omega)
    · rfl
  unfold rq
  rw [e1, e2]; unfold cutI; omega
theorem rq_shift (x z : Int) (n : Nat) (hn : n < 12) (h1 : -524288 ≤ x) (h2 : x ≤ 524287) (h3 : -128 ≤ z) (h4 : z ≤ 127) : rq x 1073741824 (30 + (n : Int)) z = cutI (rqS x n + z) (-128) 127 := by
  have e1 : rqP x 1073741824 = x * 1073741824 := by unfold rqP; rw [show cutI 1073741824 0 2147483647 = 1073741824 by decide, show cutI x (-2147483648) 2147483647 = x by unfold cutI; omega]
  have e2 : (cutI (30 + (n : Int)) 0 62).toNat = 30 + n := by unfold cutI; omega
  have e3 : cutI z (-128) 127 = z := by unfold cutI; omega
  unfold rq
  rw [e1, e2, e3]
  have e4 : rqS (x * 1073741824) (30 + n) = rqS x n := by
    unfold rqS
    have : n = 0 ∨ n = 1 ∨ n = 2 ∨ n = 3 ∨ n = 4 ∨ n = 5 ∨ n = 6 ∨ n = 7 ∨ n = 8 ∨ n = 9 ∨ n = 10 ∨ n = 11 := by omega
    rcases this with rfl | rfl | rfl | rfl | rfl | rfl | rfl | rfl | rfl | rfl | rfl | rfl <;> simp <;> omega
  rw [e4]
theorem rqS_mono {x y : Int} (n : Nat) (h : x ≤ y) : rqS x n ≤ rqS y n := by
  unfold rqS
  split
  · exact Int.ediv_le_ediv (Int.pow_pos (by decide)) (by omega)
  · exact h
theorem numberq_any (n b : Int) (w : World) (hb : 0 < b) (hb2 : b ≤ 4611686018427387904) :
    Calls Tryd.prog 28 #[.int .i64 n, .int .i64 b] w fun e w' => e = .returned (.int .i64 (n % b)) ∧ w' = w := by
  go_enter Tryd.func28, Tryd.ntmps28
  go_wp2
  go_ret
  refine ⟨?_, rfl⟩
  have h1 := Int.tmod_lt_of_pos n hb
  have h2 : -b < n.tmod b := by have := Int.lt_tmod_of_pos n hb; omega
  congr 2
  rw [show wrap64 (n.tmod b + b) = n.tmod b + b by unfold wrap64; omega]
  rw [Int.tmod_eq_emod_of_nonneg (by omega), Int.add_emod_right, Int.tmod_eq_emod]
  split
  · simp
  · rw [Int.sub_emod, Int.natAbs_of_nonneg (by omega)]; simp
end Go.Proofs.YtcpfangcibilaaaDoor
