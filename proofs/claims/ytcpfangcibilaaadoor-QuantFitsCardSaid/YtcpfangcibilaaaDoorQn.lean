/- QuantShifts, walked. No condition. -/
import Derived.Test.YtcpfangcibilaaaDoorQm
namespace Go.Proofs.YtcpfangcibilaaaDoor
set_option linter.unusedVariables false
set_option linter.unusedSimpArgs false
open Go.RowKit

theorem hw64 (u : Int) (h1 : -9000000000000000000 ≤ u) (h2 : u ≤ 9000000000000000000) : wrap64 u = u := by unfold wrap64; omega
theorem shift_facts (X : Int) (N : Nat) (h1 : -524288 ≤ X) (h2 : X ≤ 524287) (h0 : 0 < N) (hn : N < 12) :
    ∃ c V : Int, (∀ k : Nat, k = N → wrap64 (2 ^ (k - 1)) = c) ∧ wrap64 (X + c) = X + c ∧ (∀ k : Nat, k = N → (X + c) / 2 ^ k = V) ∧ rqS X N = V ∧ -1000000 ≤ V ∧ V ≤ 1000000 := by
  have e1 : rqS X N = (X + 2 ^ (N - 1)) / 2 ^ N := if_pos h0
  have hc0 : (0 : Int) < 2 ^ (N - 1) := Int.pow_pos (by decide)
  have hd : (0 : Int) < 2 ^ N := Int.pow_pos (by decide)
  have h3 : 2 ^ (N - 1) ≤ 2048 := Nat.le_trans (Nat.pow_le_pow_right (by decide) (show N - 1 ≤ 11 by omega)) (by decide)
  have h4 : ((2 : Int) ^ (N - 1)) = ((2 ^ (N - 1) : Nat) : Int) := by simp
  obtain ⟨g, hg⟩ : ∃ g : Nat, g = 2 ^ (N - 1) := ⟨_, rfl⟩
  obtain ⟨d, hdd⟩ : ∃ d : Int, d = 2 ^ N := ⟨_, rfl⟩
  rw [← hg] at h3 h4
  rw [← hdd] at hd
  rw [h4] at e1 hc0
  rw [← hdd] at e1
  have hc1 : (g : Int) ≤ 2048 := Int.ofNat_le.2 h3
  have w1 : wrap64 (g : Int) = (g : Int) := hw64 _ (Int.le_trans (by decide) (Int.le_of_lt hc0)) (Int.le_trans hc1 (by decide))
  have w2 : wrap64 (X + (g : Int)) = X + (g : Int) := hw64 _ (Int.le_trans (show (-9000000000000000000 : Int) ≤ -524288 by decide) (Int.le_trans h1 (Int.le_add_of_nonneg_right (Int.le_of_lt hc0)))) (Int.le_trans (Int.add_le_add h2 hc1) (by decide))
  have b1 : -524288 ≤ X + (g : Int) := Int.le_trans h1 (Int.le_add_of_nonneg_right (Int.le_of_lt hc0))
  have b2 : X + (g : Int) ≤ 526335 := Int.add_le_add h2 hc1
  refine ⟨(g : Int), (X + (g : Int)) / d, fun k hk => by rw [hk, h4]; exact w1, w2, fun k hk => by rw [hk, hdd], e1, ?_, ?_⟩
  · generalize X + (g : Int) = u at b1 b2 ⊢
    clear e1 hdd hg h4 w1 w2
    exact Int.le_ediv_of_mul_le hd (by omega)
  · generalize X + (g : Int) = u at b1 b2 ⊢
    clear e1 hdd hg h4 w1 w2
    exact Int.ediv_le_of_le_mul hd (by omega)
theorem mod_ex (n b : Int) (hb : 0 < b) : ∃ r : Int, n % b = r ∧ 0 ≤ r ∧ r < b := ⟨_, rfl, Int.emod_nonneg _ (by omega), Int.emod_lt_of_pos _ hb⟩
set_option maxRecDepth 100000 in
set_option maxHeartbeats 2000000 in
theorem quantShifts_any (w : World) (x y n z : Int) : Calls Tryd.prog 4 #[.int .i64 x, .int .i64 y, .int .i64 n, .int .i64 z] w fun e w' => e = .returned (.bool true) ∧ St w w' [] := by
  have H := St.start w
  obtain ⟨X, hx1, hx⟩ : ∃ X : Int, x % 1048576 = X + 524288 ∧ -524288 ≤ X ∧ X ≤ 524287 := ⟨x % 1048576 - 524288, by omega, by omega, by omega⟩
  obtain ⟨Y, hy1, hy⟩ : ∃ Y : Int, y % 1048576 = Y + 524288 ∧ -524288 ≤ Y ∧ Y ≤ 524287 := ⟨y % 1048576 - 524288, by omega, by omega, by omega⟩
  obtain ⟨Z, hz1, hz⟩ : ∃ Z : Int, z % 256 = Z + 128 ∧ -128 ≤ Z ∧ Z ≤ 127 := ⟨z % 256 - 128, by omega, by omega, by omega⟩
  obtain ⟨N, hn1, hn⟩ : ∃ N : Nat, n % 12 = (N : Int) ∧ N < 12 := ⟨(n % 12).toNat, by omega, by omega⟩
  have q1 := rq_shift X Z N hn hx.1 hx.2 hz.1 hz.2
  have q2 := rq_shift Y Z N hn hy.1 hy.2 hz.1 hz.2
  have q3 := rq_zero X (N : Int) Z hz.1 hz.2
  have hmono : X ≤ Y → rqS X N ≤ rqS Y N := rqS_mono N
  have a1 : X + 524288 - 524288 = X := by omega
  have a2 : Y + 524288 - 524288 = Y := by omega
  have a3 : Z + 128 - 128 = Z := by omega
  by_cases h0 : 0 < N
  · obtain ⟨c, V, zs1, zt2, zs5, e1, hV1, hV2⟩ := shift_facts X N hx.1 hx.2 h0 hn
    have zt3 : IntKind.u64.wrap ((N : Int) - 1) = (N : Int) - 1 := by rw [IntKind.wrap_u64]; omega
    have zt4 : decide ((0 : Int) < (N : Int)) = true := decide_eq_true (by omega)
    rw [e1] at q1 hmono
    generalize rqS Y N = U at *
    have hab : X ≤ Y → cutI (V + Z) (-128) 127 ≤ cutI (U + Z) (-128) 127 := fun h => by have := hmono h; unfold cutI; omega
    generalize hA : cutI (V + Z) (-128) 127 = A at *
    generalize cutI (U + Z) (-128) 127 = B at *
    clear e1 hmono
    by_cases c1 : V + Z < -128
    · obtain rfl : A = -128 := by rw [← hA]; unfold cutI; omega
      clear hA
      by_cases hXY : Y < X
      · have y1 : decide (Y < X) = true := decide_eq_true hXY
        clear hab
        go_enter Tryd.func4, Tryd.ntmps4
        go_wp2_with (first | (go_at_call 22; refine (first4_any _ _ _ H).mono ?_; rintro e_ w_ ⟨rfl, HN⟩; clear H; have H := HN; clear HN) | (go_at_call 28; (with_reducible refine (numberq_any x 1048576 _ (by decide) (by decide)).mono ?_); rintro e_ w_ ⟨rfl, rfl⟩; rw [hx1]) | (go_at_call 28; (with_reducible refine (numberq_any y 1048576 _ (by decide) (by decide)).mono ?_); rintro e_ w_ ⟨rfl, rfl⟩; rw [hy1]) | (go_at_call 28; (with_reducible refine (numberq_any n 12 _ (by decide) (by decide)).mono ?_); rintro e_ w_ ⟨rfl, rfl⟩; rw [hn1]) | (go_at_call 28; (with_reducible refine (numberq_any z 256 _ (by decide) (by decide)).mono ?_); rintro e_ w_ ⟨rfl, rfl⟩; rw [hz1]) | (go_at_call 26; (with_reducible refine (requant_any X 1073741824 (30 + (N : Int)) Z _).mono ?_); rintro e_ w_ ⟨rfl, rfl⟩; rw [q1]) | (go_at_call 26; (with_reducible refine (requant_any Y 1073741824 (30 + (N : Int)) Z _).mono ?_); rintro e_ w_ ⟨rfl, rfl⟩; rw [q2]) | (go_at_call 26; (with_reducible refine (requant_any X 0 (N : Int) Z _).mono ?_); rintro e_ w_ ⟨rfl, rfl⟩; rw [q3]))
        (go_ret; exact ⟨by first | rfl | (simp; done), H⟩)
      · have y1 : decide (Y < X) = false := decide_eq_false hXY
        have y2 : decide ((-128 : Int) ≤ B) = true := decide_eq_true (hab (by omega))
        clear hab
        go_enter Tryd.func4, Tryd.ntmps4
        go_wp2_with (first | (go_at_call 22; refine (first4_any _ _ _ H).mono ?_; rintro e_ w_ ⟨rfl, HN⟩; clear H; have H := HN; clear HN) | (go_at_call 28; (with_reducible refine (numberq_any x 1048576 _ (by decide) (by decide)).mono ?_); rintro e_ w_ ⟨rfl, rfl⟩; rw [hx1]) | (go_at_call 28; (with_reducible refine (numberq_any y 1048576 _ (by decide) (by decide)).mono ?_); rintro e_ w_ ⟨rfl, rfl⟩; rw [hy1]) | (go_at_call 28; (with_reducible refine (numberq_any n 12 _ (by decide) (by decide)).mono ?_); rintro e_ w_ ⟨rfl, rfl⟩; rw [hn1]) | (go_at_call 28; (with_reducible refine (numberq_any z 256 _ (by decide) (by decide)).mono ?_); rintro e_ w_ ⟨rfl, rfl⟩; rw [hz1]) | (go_at_call 26; (with_reducible refine (requant_any X 1073741824 (30 + (N : Int)) Z _).mono ?_); rintro e_ w_ ⟨rfl, rfl⟩; rw [q1]) | (go_at_call 26; (with_reducible refine (requant_any Y 1073741824 (30 + (N : Int)) Z _).mono ?_); rintro e_ w_ ⟨rfl, rfl⟩; rw [q2]) | (go_at_call 26; (with_reducible refine (requant_any X 0 (N : Int) Z _).mono ?_); rintro e_ w_ ⟨rfl, rfl⟩; rw [q3]))
        (go_ret; exact ⟨by first | rfl | (simp; done), H⟩)
    by_cases c2 : 127 < V + Z
    · obtain rfl : A = 127 := by rw [← hA]; unfold cutI; omega
      clear hA
      by_cases hXY : Y < X
      · have y1 : decide (Y < X) = true := decide_eq_true hXY
        clear hab
        go_enter Tryd.func4, Tryd.ntmps4
        go_wp2_with (first | (go_at_call 22; refine (first4_any _ _ _ H).mono ?_; rintro e_ w_ ⟨rfl, HN⟩; clear H; have H := HN; clear HN) | (go_at_call 28; (with_reducible refine (numberq_any x 1048576 _ (by decide) (by decide)).mono ?_); rintro e_ w_ ⟨rfl, rfl⟩; rw [hx1]) | (go_at_call 28; (with_reducible refine (numberq_any y 1048576 _ (by decide) (by decide)).mono ?_); rintro e_ w_ ⟨rfl, rfl⟩; rw [hy1]) | (go_at_call 28; (with_reducible refine (numberq_any n 12 _ (by decide) (by decide)).mono ?_); rintro e_ w_ ⟨rfl, rfl⟩; rw [hn1]) | (go_at_call 28; (with_reducible refine (numberq_any z 256 _ (by decide) (by decide)).mono ?_); rintro e_ w_ ⟨rfl, rfl⟩; rw [hz1]) | (go_at_call 26; (with_reducible refine (requant_any X 1073741824 (30 + (N : Int)) Z _).mono ?_); rintro e_ w_ ⟨rfl, rfl⟩; rw [q1]) | (go_at_call 26; (with_reducible refine (requant_any Y 1073741824 (30 + (N : Int)) Z _).mono ?_); rintro e_ w_ ⟨rfl, rfl⟩; rw [q2]) | (go_at_call 26; (with_reducible refine (requant_any X 0 (N : Int) Z _).mono ?_); rintro e_ w_ ⟨rfl, rfl⟩; rw [q3]))
        (go_ret; exact ⟨by first | rfl | (simp; done), H⟩)
      · have y1 : decide (Y < X) = false := decide_eq_false hXY
        have y2 : decide ((127 : Int) ≤ B) = true := decide_eq_true (hab (by omega))
        clear hab
        go_enter Tryd.func4, Tryd.ntmps4
        go_wp2_with (first | (go_at_call 22; refine (first4_any _ _ _ H).mono ?_; rintro e_ w_ ⟨rfl, HN⟩; clear H; have H := HN; clear HN) | (go_at_call 28; (with_reducible refine (numberq_any x 1048576 _ (by decide) (by decide)).mono ?_); rintro e_ w_ ⟨rfl, rfl⟩; rw [hx1]) | (go_at_call 28; (with_reducible refine (numberq_any y 1048576 _ (by decide) (by decide)).mono ?_); rintro e_ w_ ⟨rfl, rfl⟩; rw [hy1]) | (go_at_call 28; (with_reducible refine (numberq_any n 12 _ (by decide) (by decide)).mono ?_); rintro e_ w_ ⟨rfl, rfl⟩; rw [hn1]) | (go_at_call 28; (with_reducible refine (numberq_any z 256 _ (by decide) (by decide)).mono ?_); rintro e_ w_ ⟨rfl, rfl⟩; rw [hz1]) | (go_at_call 26; (with_reducible refine (requant_any X 1073741824 (30 + (N : Int)) Z _).mono ?_); rintro e_ w_ ⟨rfl, rfl⟩; rw [q1]) | (go_at_call 26; (with_reducible refine (requant_any Y 1073741824 (30 + (N : Int)) Z _).mono ?_); rintro e_ w_ ⟨rfl, rfl⟩; rw [q2]) | (go_at_call 26; (with_reducible refine (requant_any X 0 (N : Int) Z _).mono ?_); rintro e_ w_ ⟨rfl, rfl⟩; rw [q3]))
        (go_ret; exact ⟨by first | rfl | (simp; done), H⟩)
    obtain rfl : A = V + Z := by rw [← hA]; unfold cutI; omega
    clear hA
    by_cases hXY : Y < X
    · have y1 : decide (Y < X) = true := decide_eq_true hXY
      clear hab
      go_enter Tryd.func4, Tryd.ntmps4
      go_wp2_with (first | (go_at_call 22; refine (first4_any _ _ _ H).mono ?_; rintro e_ w_ ⟨rfl, HN⟩; clear H; have H := HN; clear HN) | (go_at_call 28; (with_reducible refine (numberq_any x 1048576 _ (by decide) (by decide)).mono ?_); rintro e_ w_ ⟨rfl, rfl⟩; rw [hx1]) | (go_at_call 28; (with_reducible refine (numberq_any y 1048576 _ (by decide) (by decide)).mono ?_); rintro e_ w_ ⟨rfl, rfl⟩; rw [hy1]) | (go_at_call 28; (with_reducible refine (numberq_any n 12 _ (by decide) (by decide)).mono ?_); rintro e_ w_ ⟨rfl, rfl⟩; rw [hn1]) | (go_at_call 28; (with_reducible refine (numberq_any z 256 _ (by decide) (by decide)).mono ?_); rintro e_ w_ ⟨rfl, rfl⟩; rw [hz1]) | (go_at_call 26; (with_reducible refine (requant_any X 1073741824 (30 + (N : Int)) Z _).mono ?_); rintro e_ w_ ⟨rfl, rfl⟩; rw [q1]) | (go_at_call 26; (with_reducible refine (requant_any Y 1073741824 (30 + (N : Int)) Z _).mono ?_); rintro e_ w_ ⟨rfl, rfl⟩; rw [q2]) | (go_at_call 26; (with_reducible refine (requant_any X 0 (N : Int) Z _).mono ?_); rintro e_ w_ ⟨rfl, rfl⟩; rw [q3]))
      (go_ret; exact ⟨by first | rfl | (simp; done), H⟩)
    · have y1 : decide (Y < X) = false := decide_eq_false hXY
      have y2 : decide (V + Z ≤ B) = true := decide_eq_true (hab (by omega))
      clear hab
      go_enter Tryd.func4, Tryd.ntmps4
      go_wp2_with (first | (go_at_call 22; refine (first4_any _ _ _ H).mono ?_; rintro e_ w_ ⟨rfl, HN⟩; clear H; have H := HN; clear HN) | (go_at_call 28; (with_reducible refine (numberq_any x 1048576 _ (by decide) (by decide)).mono ?_); rintro e_ w_ ⟨rfl, rfl⟩; rw [hx1]) | (go_at_call 28; (with_reducible refine (numberq_any y 1048576 _ (by decide) (by decide)).mono ?_); rintro e_ w_ ⟨rfl, rfl⟩; rw [hy1]) | (go_at_call 28; (with_reducible refine (numberq_any n 12 _ (by decide) (by decide)).mono ?_); rintro e_ w_ ⟨rfl, rfl⟩; rw [hn1]) | (go_at_call 28; (with_reducible refine (numberq_any z 256 _ (by decide) (by decide)).mono ?_); rintro e_ w_ ⟨rfl, rfl⟩; rw [hz1]) | (go_at_call 26; (with_reducible refine (requant_any X 1073741824 (30 + (N : Int)) Z _).mono ?_); rintro e_ w_ ⟨rfl, rfl⟩; rw [q1]) | (go_at_call 26; (with_reducible refine (requant_any Y 1073741824 (30 + (N : Int)) Z _).mono ?_); rintro e_ w_ ⟨rfl, rfl⟩; rw [q2]) | (go_at_call 26; (with_reducible refine (requant_any X 0 (N : Int) Z _).mono ?_); rintro e_ w_ ⟨rfl, rfl⟩; rw [q3]))
      (go_ret; exact ⟨by first | rfl | (simp; done), H⟩)
  · obtain rfl : N = 0 := by omega
    have e1 : rqS X 0 = X := if_neg (by omega)
    have e2 : rqS Y 0 = Y := if_neg (by omega)
    rw [e1] at q1 hmono
    rw [e2] at q2 hmono
    have hab : X ≤ Y → cutI (X + Z) (-128) 127 ≤ cutI (Y + Z) (-128) 127 := fun h => by unfold cutI; omega
    generalize hA : cutI (X + Z) (-128) 127 = A at *
    generalize cutI (Y + Z) (-128) 127 = B at *
    replace q1 : rq X 1073741824 30 Z = A := q1
    replace q2 : rq Y 1073741824 30 Z = B := q2
    replace q3 : rq X 0 0 Z = Z := q3
    clear e1 e2 hmono
    by_cases c1 : X + Z < -128
    · obtain rfl : A = -128 := by rw [← hA]; unfold cutI; omega
      clear hA
      by_cases hXY : Y < X
      · have y1 : decide (Y < X) = true := decide_eq_true hXY
        clear hab
        go_enter Tryd.func4, Tryd.ntmps4
        go_wp2_with (first | (go_at_call 22; refine (first4_any _ _ _ H).mono ?_; rintro e_ w_ ⟨rfl, HN⟩; clear H; have H := HN; clear HN) | (go_at_call 28; (with_reducible refine (numberq_any x 1048576 _ (by decide) (by decide)).mono ?_); rintro e_ w_ ⟨rfl, rfl⟩; rw [hx1]) | (go_at_call 28; (with_reducible refine (numberq_any y 1048576 _ (by decide) (by decide)).mono ?_); rintro e_ w_ ⟨rfl, rfl⟩; rw [hy1]) | (go_at_call 28; (with_reducible refine (numberq_any n 12 _ (by decide) (by decide)).mono ?_); rintro e_ w_ ⟨rfl, rfl⟩; rw [hn1]) | (go_at_call 28; (with_reducible refine (numberq_any z 256 _ (by decide) (by decide)).mono ?_); rintro e_ w_ ⟨rfl, rfl⟩; rw [hz1]) | (go_at_call 26; (with_reducible refine (requant_any X 1073741824 30 Z _).mono ?_); rintro e_ w_ ⟨rfl, rfl⟩; rw [q1]) | (go_at_call 26; (with_reducible refine (requant_any Y 1073741824 30 Z _).mono ?_); rintro e_ w_ ⟨rfl, rfl⟩; rw [q2]) | (go_at_call 26; (with_reducible refine (requant_any X 0 0 Z _).mono ?_); rintro e_ w_ ⟨rfl, rfl⟩; rw [q3]))
        (go_ret; exact ⟨by first | rfl | (simp; done), H⟩)
      · have y1 : decide (Y < X) = false := decide_eq_false hXY
        have y2 : decide ((-128 : Int) ≤ B) = true := decide_eq_true (hab (by omega))
        clear hab
        go_enter Tryd.func4, Tryd.ntmps4
        go_wp2_with (first | (go_at_call 22; refine (first4_any _ _ _ H).mono ?_; rintro e_ w_ ⟨rfl, HN⟩; clear H; have H := HN; clear HN) | (go_at_call 28; (with_reducible refine (numberq_any x 1048576 _ (by decide) (by decide)).mono ?_); rintro e_ w_ ⟨rfl, rfl⟩; rw [hx1]) | (go_at_call 28; (with_reducible refine (numberq_any y 1048576 _ (by decide) (by decide)).mono ?_); rintro e_ w_ ⟨rfl, rfl⟩; rw [hy1]) | (go_at_call 28; (with_reducible refine (numberq_any n 12 _ (by decide) (by decide)).mono ?_); rintro e_ w_ ⟨rfl, rfl⟩; rw [hn1]) | (go_at_call 28; (with_reducible refine (numberq_any z 256 _ (by decide) (by decide)).mono ?_); rintro e_ w_ ⟨rfl, rfl⟩; rw [hz1]) | (go_at_call 26; (with_reducible refine (requant_any X 1073741824 30 Z _).mono ?_); rintro e_ w_ ⟨rfl, rfl⟩; rw [q1]) | (go_at_call 26; (with_reducible refine (requant_any Y 1073741824 30 Z _).mono ?_); rintro e_ w_ ⟨rfl, rfl⟩; rw [q2]) | (go_at_call 26; (with_reducible refine (requant_any X 0 0 Z _).mono ?_); rintro e_ w_ ⟨rfl, rfl⟩; rw [q3]))
        (go_ret; exact ⟨by first | rfl | (simp; done), H⟩)
    by_cases c2 : 127 < X + Z
    · obtain rfl : A = 127 := by rw [← hA]; unfold cutI; omega
      clear hA
      by_cases hXY : Y < X
      · have y1 : decide (Y < X) = true := decide_eq_true hXY
        clear hab
        go_enter Tryd.func4, Tryd.ntmps4
        go_wp2_with (first | (go_at_call 22; refine (first4_any _ _ _ H).mono ?_; rintro e_ w_ ⟨rfl, HN⟩; clear H; have H := HN; clear HN) | (go_at_call 28; (with_reducible refine (numberq_any x 1048576 _ (by decide) (by decide)).mono ?_); rintro e_ w_ ⟨rfl, rfl⟩; rw [hx1]) | (go_at_call 28; (with_reducible refine (numberq_any y 1048576 _ (by decide) (by decide)).mono ?_); rintro e_ w_ ⟨rfl, rfl⟩; rw [hy1]) | (go_at_call 28; (with_reducible refine (numberq_any n 12 _ (by decide) (by decide)).mono ?_); rintro e_ w_ ⟨rfl, rfl⟩; rw [hn1]) | (go_at_call 28; (with_reducible refine (numberq_any z 256 _ (by decide) (by decide)).mono ?_); rintro e_ w_ ⟨rfl, rfl⟩; rw [hz1]) | (go_at_call 26; (with_reducible refine (requant_any X 1073741824 30 Z _).mono ?_); rintro e_ w_ ⟨rfl, rfl⟩; rw [q1]) | (go_at_call 26; (with_reducible refine (requant_any Y 1073741824 30 Z _).mono ?_); rintro e_ w_ ⟨rfl, rfl⟩; rw [q2]) | (go_at_call 26; (with_reducible refine (requant_any X 0 0 Z _).mono ?_); rintro e_ w_ ⟨rfl, rfl⟩; rw [q3]))
        (go_ret; exact ⟨by first | rfl | (simp; done), H⟩)
      · have y1 : decide (Y < X) = false := decide_eq_false hXY
        have y2 : decide ((127 : Int) ≤ B) = true := decide_eq_true (hab (by omega))
        clear hab
        go_enter Tryd.func4, Tryd.ntmps4
        go_wp2_with (first | (go_at_call 22; refine (first4_any _ _ _ H).mono ?_; rintro e_ w_ ⟨rfl, HN⟩; clear H; have H := HN; clear HN) | (go_at_call 28; (with_reducible refine (numberq_any x 1048576 _ (by decide) (by decide)).mono ?_); rintro e_ w_ ⟨rfl, rfl⟩; rw [hx1]) | (go_at_call 28; (with_reducible refine (numberq_any y 1048576 _ (by decide) (by decide)).mono ?_); rintro e_ w_ ⟨rfl, rfl⟩; rw [hy1]) | (go_at_call 28; (with_reducible refine (numberq_any n 12 _ (by decide) (by decide)).mono ?_); rintro e_ w_ ⟨rfl, rfl⟩; rw [hn1]) | (go_at_call 28; (with_reducible refine (numberq_any z 256 _ (by decide) (by decide)).mono ?_); rintro e_ w_ ⟨rfl, rfl⟩; rw [hz1]) | (go_at_call 26; (with_reducible refine (requant_any X 1073741824 30 Z _).mono ?_); rintro e_ w_ ⟨rfl, rfl⟩; rw [q1]) | (go_at_call 26; (with_reducible refine (requant_any Y 1073741824 30 Z _).mono ?_); rintro e_ w_ ⟨rfl, rfl⟩; rw [q2]) | (go_at_call 26; (with_reducible refine (requant_any X 0 0 Z _).mono ?_); rintro e_ w_ ⟨rfl, rfl⟩; rw [q3]))
        (go_ret; exact ⟨by first | rfl | (simp; done), H⟩)
    obtain rfl : A = X + Z := by rw [← hA]; unfold cutI; omega
    clear hA
    by_cases hXY : Y < X
    · have y1 : decide (Y < X) = true := decide_eq_true hXY
      clear hab
      go_enter Tryd.func4, Tryd.ntmps4
      go_wp2_with (first | (go_at_call 22; refine (first4_any _ _ _ H).mono ?_; rintro e_ w_ ⟨rfl, HN⟩; clear H; have H := HN; clear HN) | (go_at_call 28; (with_reducible refine (numberq_any x 1048576 _ (by decide) (by decide)).mono ?_); rintro e_ w_ ⟨rfl, rfl⟩; rw [hx1]) | (go_at_call 28; (with_reducible refine (numberq_any y 1048576 _ (by decide) (by decide)).mono ?_); rintro e_ w_ ⟨rfl, rfl⟩; rw [hy1]) | (go_at_call 28; (with_reducible refine (numberq_any n 12 _ (by decide) (by decide)).mono ?_); rintro e_ w_ ⟨rfl, rfl⟩; rw [hn1]) | (go_at_call 28; (with_reducible refine (numberq_any z 256 _ (by decide) (by decide)).mono ?_); rintro e_ w_ ⟨rfl, rfl⟩; rw [hz1]) | (go_at_call 26; (with_reducible refine (requant_any X 1073741824 30 Z _).mono ?_); rintro e_ w_ ⟨rfl, rfl⟩; rw [q1]) | (go_at_call 26; (with_reducible refine (requant_any Y 1073741824 30 Z _).mono ?_); rintro e_ w_ ⟨rfl, rfl⟩; rw [q2]) | (go_at_call 26; (with_reducible refine (requant_any X 0 0 Z _).mono ?_); rintro e_ w_ ⟨rfl, rfl⟩; rw [q3]))
      (go_ret; exact ⟨by first | rfl | (simp; done), H⟩)
    · have y1 : decide (Y < X) = false := decide_eq_false hXY
      have y2 : decide (X + Z ≤ B) = true := decide_eq_true (hab (by omega))
      clear hab
      go_enter Tryd.func4, Tryd.ntmps4
      go_wp2_with (first | (go_at_call 22; refine (first4_any _ _ _ H).mono ?_; rintro e_ w_ ⟨rfl, HN⟩; clear H; have H := HN; clear HN) | (go_at_call 28; (with_reducible refine (numberq_any x 1048576 _ (by decide) (by decide)).mono ?_); rintro e_ w_ ⟨rfl, rfl⟩; rw [hx1]) | (go_at_call 28; (with_reducible refine (numberq_any y 1048576 _ (by decide) (by decide)).mono ?_); rintro e_ w_ ⟨rfl, rfl⟩; rw [hy1]) | (go_at_call 28; (with_reducible refine (numberq_any n 12 _ (by decide) (by decide)).mono ?_); rintro e_ w_ ⟨rfl, rfl⟩; rw [hn1]) | (go_at_call 28; (with_reducible refine (numberq_any z 256 _ (by decide) (by decide)).mono ?_); rintro e_ w_ ⟨rfl, rfl⟩; rw [hz1]) | (go_at_call 26; (with_reducible refine (requant_any X 1073741824 30 Z _).mono ?_); rintro e_ w_ ⟨rfl, rfl⟩; rw [q1]) | (go_at_call 26; (with_reducible refine (requant_any Y 1073741824 30 Z _).mono ?_); rintro e_ w_ ⟨rfl, rfl⟩; rw [q2]) | (go_at_call 26; (with_reducible refine (requant_any X 0 0 Z _).mono ?_); rintro e_ w_ ⟨rfl, rfl⟩; rw [q3]))
      (go_ret; exact ⟨by first | rfl | (simp; done), H⟩)
end Go.Proofs.YtcpfangcibilaaaDoor
