/- FltGreat, walked. No condition but the table's cells. -/
import Derived.Test.YtcpfangcibilaaaDoorDr
import Derived.Test.YtcpfangcibilaaaDoorDh
namespace Go.Proofs.YtcpfangcibilaaaDoor
set_option linter.unusedVariables false
set_option linter.unusedSimpArgs false
open Go.RowKit

/-- The lowest bit set. -/
theorem or_one (a : Int) (h1 : -4611686018427387904 ≤ a) (h2 : a ≤ 4611686018427387904) : bits .or .i64 a 1 = 2 * (a / 2) + 1 := by
  obtain ⟨X, hX⟩ : ∃ X : Nat, (a % 18446744073709551616) = (X : Int) := ⟨(a % 18446744073709551616).toNat, by omega⟩
  have e1 : (BitVec.ofInt 64 a).toNat = X := by
    rw [BitVec.toNat_ofInt, show ((2 ^ 64 : Nat) : Int) = 18446744073709551616 by decide, hX, Int.toNat_natCast]
  have e2 : (BitVec.ofInt 64 1).toNat = 1 := by decide
  have e3 : X ||| 1 = 2 * (X / 2) + 1 := by
    by_cases h : X % 2 = 0
    · rw [nat_join 1 X 1 (by rw [Nat.pow_one]; exact h) (by decide)]; omega
    · obtain ⟨Y, hY⟩ : ∃ Y, X = Y + 1 := ⟨X - 1, by omega⟩
      have e4 : Y + 1 = Y ||| 1 := (nat_join 1 Y 1 (by rw [Nat.pow_one]; omega) (by decide)).symm
      rw [hY]
      conv => lhs; rw [e4]
      rw [Nat.or_assoc, Nat.or_self, ← e4]; omega
  have e5 : bits .or .i64 a 1 = IntKind.i64.wrap ((BitVec.ofInt 64 a ||| BitVec.ofInt 64 1).toNat : Int) := rfl
  rw [e5, BitVec.toNat_or, e1, e2, e3, IntKind.wrap_i64]
  omega
theorem mkR_inf {u : Nat} {e : Int} (h0 : 0 < u) (h : 1024 ≤ e) : mkR u e = INF := by
  have hp : INF = 9218868437227405312 := rfl
  obtain ⟨h1, _, h3⟩ := mkR_cut (u := u) (L := u.log2) (e := e) h0 rfl rfl
  rw [h1]
  generalize (if max (e + (u.log2 : Int) - 52) (-1074) ≤ e then _ else _) = n at *
  exact Nat.min_eq_right (by omega)
theorem mkR_big {u : Nat} {e : Int} (h0 : 0 < u) (h : 100 ≤ e) : 1075 * 4503599627370496 ≤ mkR u e := by
  have hp : INF = 9218868437227405312 := rfl
  obtain ⟨h1, _, h3⟩ := mkR_cut (u := u) (L := u.log2) (e := e) h0 rfl rfl
  rw [h1]
  generalize (if max (e + (u.log2 : Int) - 52) (-1074) ≤ e then _ else _) = n at *
  omega
theorem top_is : mkW 9007199254740991 971 = 9218868437227405311 := by decide +kernel
theorem beyond_is : mkW 9007199254740992 971 = 9218868437227405312 := by decide +kernel
theorem make_isg {m e : Int} {r : Nat} (h : mkW m e = r) (w0 w : World) (L : List Ent) (H : St w0 w L) (h1 : -9223372036854775808 ≤ m) (h2 : m ≤ 9223372036854775807) : Calls Tryd.prog 64 #[.int .i64 m, .int .i64 e] w fun e w' => e = .returned (.float .f64 r) ∧ St w0 w' L := by
  have := make_any w0 w L H m e h1 h2
  rw [h] at this
  exact this
theorem isInf_up (w : World) : Calls Tryd.prog 47 #[.float .f64 9218868437227405312, .int .i64 1] w fun e w' => e = .returned (.bool true) ∧ w' = w := by
  have z : (FloatKind.f64.format.order 9218868437227405312 9218868437227405311 == some .gt) = true := (inf_hi _).trans (by decide)
  go_enter Tryd.func47, Tryd.ntmps47
  go_wp2
  go_ret
  exact ⟨rfl, rfl⟩
theorem isInf_dn (w : World) : Calls Tryd.prog 47 #[.float .f64 18442240474082181120, .int .i64 (-1)] w fun e w' => e = .returned (.bool true) ∧ w' = w := by
  have z : (FloatKind.f64.format.order 9218868437227405312 9218868437227405311 == some .gt) = true := (inf_hi _).trans (by decide)
  have hneg : ∀ w : World, (Op.unary UnOp.neg (.float .f64 18442240474082181120)).run Tryd.prog w = .ok (.float .f64 9218868437227405312) w := fun w => by
    have : Op.negFloat .f64 18442240474082181120 = 9218868437227405312 := by decide
    rw [← this]; rfl
  go_enter Tryd.func47, Tryd.ntmps47
  go_wp2
  go_ret
  exact ⟨rfl, rfl⟩
theorem gr_facts (m : Int) (D : Int) (h1 : -9223372036854775808 ≤ m) (h2 : m ≤ 9223372036854775807) (hD : 100 ≤ D) : ∃ M x : Int, ∃ X : Nat, m / 4096 = x ∧ bits .or .i64 x 1 = M ∧ M ≠ 0 ∧ -2251799813685249 ≤ M ∧ M ≤ 2251799813685249 ∧ mkW M D = X ∧ X < 18446744073709551616 ∧ isn X = false ∧ roundW X = X ∧ mkW M (D + 1100) = (if M < 0 then 18442240474082181120 else 9218868437227405312) := by
  have hp : INF = 9218868437227405312 := rfl
  have e1 := or_one (m / 4096) (by omega) (by omega)
  obtain ⟨M, hM⟩ : ∃ M : Int, M = 2 * (m / 4096 / 2) + 1 := ⟨_, rfl⟩
  rw [← hM] at e1
  have hM0 : M ≠ 0 := by omega
  have hu : 0 < M.natAbs := by omega
  have hX : mkW M D = Ieee.double.word (decide (M < 0)) (mkR M.natAbs D) := by unfold mkW; rw [if_neg hM0]
  have hB : mkW M (D + 1100) = Ieee.double.word (decide (M < 0)) INF := by unfold mkW; rw [if_neg hM0, mkR_inf hu (by omega)]
  have hRl := mkR_le M.natAbs D
  have hRb := mkR_big hu hD
  have hr : rung (Ieee.double.word (decide (M < 0)) (mkR M.natAbs D)) = mkR M.natAbs D := rung_word _ (by omega)
  have hxl : Ieee.double.word (decide (M < 0)) (mkR M.natAbs D) < 18446744073709551616 := word_lt _ (by omega)
  refine ⟨M, _, _, rfl, e1, hM0, by omega, by omega, hX, hxl, decide_eq_false (by rw [hr]; omega), roundW_great hxl (by rw [hr]; omega), ?_⟩
  rw [hB, word_eq]
  by_cases c : M < 0
  · rw [decide_eq_true c, if_pos c]; rfl
  · rw [decide_eq_false c, if_neg c]; rfl

set_option maxRecDepth 100000 in
set_option maxHeartbeats 1000000 in
theorem fltGreat_any (w : World) (hT : TabC w) (m e : Int) (hm1 : -9223372036854775808 ≤ m) (hm2 : m ≤ 9223372036854775807) : Calls Tryd.prog 16 #[.int .i64 m, .int .i64 e] w fun r w' => r = .returned (.bool true) ∧ St w w' [] := by
  have H := St.start w
  obtain ⟨D, hD, hD1, hD2⟩ : ∃ D : Int, e % 900 + 100 = D ∧ 100 ≤ D ∧ D ≤ 999 := ⟨_, rfl, by omega, by omega⟩
  obtain ⟨M, x0, X, hx0, hor, hM0, hM1, hM2, hmk, hX, hni, hrd, hbig⟩ := gr_facts m D hm1 hm2 hD1
  have mk1 := fun (w0 w : World) (L : List Ent) (H : St w0 w L) => make_isg hmk w0 w L H (by omega) (by omega)
  have mk3 := fun (w0 w : World) (L : List Ent) (H : St w0 w L) => make_isg top_is w0 w L H (by decide) (by decide)
  have mk4 := fun (w0 w : World) (L : List Ent) (H : St w0 w L) => make_isg beyond_is w0 w L H (by decide) (by decide)
  have y2 := sameW_self X
  have y3 : (FloatKind.f64.format.order 9218868437227405311 9218868437227405311 == some .eq) = true := by
    have a : (FloatKind.f64.format.order 9218868437227405311 9218868437227405311 == some .eq) = (!isn 9218868437227405311 && !isn 9218868437227405311 && decide (sr 9218868437227405311 = sr 9218868437227405311)) := eq_eq _ _
    rw [a]; decide
  clear hmk
  by_cases hn : M < 0
  · have y1 : decide (M < 0) = true := decide_eq_true (by omega)
    rw [if_pos hn] at hbig
    have mk2 := fun (w0 w : World) (L : List Ent) (H : St w0 w L) => make_isg hbig w0 w L H (by omega) (by omega)
    have v2 : max (-7) (min (whV 18442240474082181120) 7) = -7 := by rw [show whV 18442240474082181120 = -9223372036854775808 by unfold whV; rw [show isn 18442240474082181120 = false by decide, if_neg (by decide), if_pos (by decide), show sgn 18442240474082181120 = true by decide]; rfl]; decide
    clear hbig hn
    go_enter Tryd.func16, Tryd.ntmps16
    go_wp2_with (first | (go_at_call 31; refine (first3_any _ _ _ hT H).mono ?_; rintro e_ w_ ⟨rfl, HN⟩; clear H; have H := HN; clear HN) | (go_at_call 28; refine (numberq_any e 900 _ (by decide) (by decide)).mono ?_; rintro e_ w_ ⟨rfl, rfl⟩; ) | (go_at_call 64; (with_reducible refine (mk1 _ _ _ H).mono ?_); rintro e_ w_ ⟨rfl, HN⟩; clear H; have H := HN; clear HN) | (go_at_call 64; (with_reducible refine (mk2 _ _ _ H).mono ?_); rintro e_ w_ ⟨rfl, HN⟩; clear H; have H := HN; clear HN) | (go_at_call 64; (with_reducible refine (mk3 _ _ _ H).mono ?_); rintro e_ w_ ⟨rfl, HN⟩; clear H; have H := HN; clear HN) | (go_at_call 64; (with_reducible refine (mk4 _ _ _ H).mono ?_); rintro e_ w_ ⟨rfl, HN⟩; clear H; have H := HN; clear HN) | (go_at_call 32; refine (round_any _ _ _ X hX H).mono ?_; rintro e_ w_ ⟨y, rfl, hy, HN⟩; clear H; have H := HN; clear HN; obtain rfl : X = y := (((show _ ∧ _ ∧ _ from hy).2.2 hni).trans hrd).symm; clear hy) | (go_at_call 37; (with_reducible refine (same_any X X _).mono ?_); rintro e_ w_ ⟨rfl, rfl⟩; ) | (go_at_call 47; (with_reducible refine (isInf_dn _).mono ?_); rintro e_ w_ ⟨rfl, rfl⟩; ) | (go_at_call 47; (with_reducible refine (isInf_up _).mono ?_); rintro e_ w_ ⟨rfl, rfl⟩; ) | (go_at_call 33; (with_reducible refine (whole_any _ _ _ 18442240474082181120 (by decide) (-7) 7 (by decide) (by decide) (by decide) (by decide) H).mono ?_); rintro e_ w_ ⟨rfl, HN⟩; clear H; have H := HN; clear HN; rw [v2]))
    (go_ret; exact ⟨by first | rfl | (simp; done), H⟩)
  · have y1 : decide (M < 0) = false := decide_eq_false (by omega)
    rw [if_neg hn] at hbig
    have mk2 := fun (w0 w : World) (L : List Ent) (H : St w0 w L) => make_isg hbig w0 w L H (by omega) (by omega)
    have v2 : max (-7) (min (whV 9218868437227405312) 7) = 7 := by rw [show whV 9218868437227405312 = 9223372036854775807 by unfold whV; rw [show isn 9218868437227405312 = false by decide, if_neg (by decide), if_pos (by decide), show sgn 9218868437227405312 = false by decide]; rfl]; decide
    clear hbig hn
    go_enter Tryd.func16, Tryd.ntmps16
    go_wp2_with (first | (go_at_call 31; refine (first3_any _ _ _ hT H).mono ?_; rintro e_ w_ ⟨rfl, HN⟩; clear H; have H := HN; clear HN) | (go_at_call 28; refine (numberq_any e 900 _ (by decide) (by decide)).mono ?_; rintro e_ w_ ⟨rfl, rfl⟩; ) | (go_at_call 64; (with_reducible refine (mk1 _ _ _ H).mono ?_); rintro e_ w_ ⟨rfl, HN⟩; clear H; have H := HN; clear HN) | (go_at_call 64; (with_reducible refine (mk2 _ _ _ H).mono ?_); rintro e_ w_ ⟨rfl, HN⟩; clear H; have H := HN; clear HN) | (go_at_call 64; (with_reducible refine (mk3 _ _ _ H).mono ?_); rintro e_ w_ ⟨rfl, HN⟩; clear H; have H := HN; clear HN) | (go_at_call 64; (with_reducible refine (mk4 _ _ _ H).mono ?_); rintro e_ w_ ⟨rfl, HN⟩; clear H; have H := HN; clear HN) | (go_at_call 32; refine (round_any _ _ _ X hX H).mono ?_; rintro e_ w_ ⟨y, rfl, hy, HN⟩; clear H; have H := HN; clear HN; obtain rfl : X = y := (((show _ ∧ _ ∧ _ from hy).2.2 hni).trans hrd).symm; clear hy) | (go_at_call 37; (with_reducible refine (same_any X X _).mono ?_); rintro e_ w_ ⟨rfl, rfl⟩; ) | (go_at_call 47; (with_reducible refine (isInf_up _).mono ?_); rintro e_ w_ ⟨rfl, rfl⟩; ) | (go_at_call 33; (with_reducible refine (whole_any _ _ _ 9218868437227405312 (by decide) (-7) 7 (by decide) (by decide) (by decide) (by decide) H).mono ?_); rintro e_ w_ ⟨rfl, HN⟩; clear H; have H := HN; clear HN; rw [v2]))
    (go_ret; exact ⟨by first | rfl | (simp; done), H⟩)
end Go.Proofs.YtcpfangcibilaaaDoor
