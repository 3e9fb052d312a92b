/- The document's Fixed, walked. THIS TEXT DOES NOT BUILD YET. -/
import Derived.Test.YtcpfangcibilaaaDoorDl
namespace Go.Proofs.YtcpfangcibilaaaDoor
set_option linter.unusedVariables false
set_option linter.unusedSimpArgs false
open Go.RowKit

theorem ref_tests {x : Nat} (h : OutF x) : decide (rung x < INF) = false ∨ (decide (rung x < INF) = true ∧ (FloatKind.f64.format.order x 4472074429978902528 == some .lt) = true) ∨ (decide (rung x < INF) = true ∧ (FloatKind.f64.format.order x 4472074429978902528 == some .lt) = false ∧ (FloatKind.f64.format.order x 4742290407621132288 == some .gt) = true) := by
  have hp : INF = 9218868437227405312 := rfl
  have a : (FloatKind.f64.format.order x 4472074429978902528 == some .lt) = (!isn x && !isn 4472074429978902528 && decide (sr x < sr 4472074429978902528)) := lt_eq x 4472074429978902528
  have c : (FloatKind.f64.format.order x 4742290407621132288 == some .gt) = (!isn x && !isn 4742290407621132288 && decide (sr 4742290407621132288 < sr x)) := gt_eq x 4742290407621132288
  rw [show isn 4472074429978902528 = false by decide, show sr 4472074429978902528 = 4472074429978902528 by decide] at a
  rw [show isn 4742290407621132288 = false by decide, show sr 4742290407621132288 = 4742290407621132288 by decide] at c
  by_cases hf : rung x < INF
  · right
    have hn : isn x = false := decide_eq_false (by omega)
    rw [hn] at a c
    rw [a, c]
    rcases h with h | ⟨_, h⟩
    · rw [hn] at h; cases h
    · by_cases h3 : sr x < 4472074429978902528
      · left; exact ⟨decide_eq_true hf, by rw [decide_eq_true h3]; rfl⟩
      · right; exact ⟨decide_eq_true hf, by rw [decide_eq_false h3]; rfl, by rw [decide_eq_true (show (4742290407621132288 : Int) < sr x by omega)]; rfl⟩
  · left; exact decide_eq_false hf
set_option maxRecDepth 100000 in
set_option maxHeartbeats 1000000 in
theorem refFixed_out (x : Nat) (hx : x < 18446744073709551616) (h : OutF x) (w : World) : Calls Tryd.prog 24 #[.float .f64 x] w fun e w' => e = .returned (.tuple #[.int .i64 0, .int .i64 0, .bool false]) ∧ w' = w := by
  rcases ref_tests h with z1 | ⟨z1, z2⟩ | ⟨z1, z2, z3⟩
  · go_enter Tryd.func24, Tryd.ntmps24
    go_wp2_with (first | (go_at_call 78; refine (refFin_any x hx _).mono ?_; rintro e_ w_ ⟨rfl, rfl⟩; ))
    go_ret3
    exact ⟨rfl, rfl⟩
  · go_enter Tryd.func24, Tryd.ntmps24
    go_wp2_with (first | (go_at_call 78; refine (refFin_any x hx _).mono ?_; rintro e_ w_ ⟨rfl, rfl⟩; ))
    go_ret3
    exact ⟨rfl, rfl⟩
  · go_enter Tryd.func24, Tryd.ntmps24
    go_wp2_with (first | (go_at_call 78; refine (refFin_any x hx _).mono ?_; rintro e_ w_ ⟨rfl, rfl⟩; ))
    go_ret3
    exact ⟨rfl, rfl⟩
theorem mant_lt (x : Nat) : mant x < 9007199254740992 := by unfold mant; split <;> omega
theorem fx_exact (n d : Nat) : rne (n * 2 ^ d) d = n := by
  have h := rne_scale n 0 d
  rw [Nat.zero_add, rne_zero] at h
  exact h
theorem fx_bits (q z c : Nat) (h1 : 4503599627370496 ≤ q * 2 ^ z) (h2 : q * 2 ^ z < 9007199254740992) (h3 : 2 ^ (c - 1) ≤ q) (h4 : q < 2 ^ c) (hc : 0 < c) : c + z = 53 := by
  have a : 2 ^ (c - 1 + z) < 2 ^ 53 := by
    rw [Nat.pow_add]
    exact Nat.lt_of_le_of_lt (Nat.mul_le_mul_right _ h3) (by rw [show 2 ^ 53 = 9007199254740992 by decide]; exact h2)
  have b : 2 ^ 52 < 2 ^ (c + z) := by
    rw [Nat.pow_add]
    exact Nat.lt_of_le_of_lt (by rw [show 2 ^ 52 = 4503599627370496 by decide]; exact h1) (Nat.mul_lt_mul_of_pos_right h4 (Nat.two_pow_pos z))
  have a2 := (Nat.pow_lt_pow_iff_right (by decide : 1 < 2)).1 a
  have b2 := (Nat.pow_lt_pow_iff_right (by decide : 1 < 2)).1 b
  omega
theorem fx_small (q z c : Nat) (h : c + z = 53) (hc : c ≤ 31) : rne (q * 2 ^ z) 22 = q * 2 ^ (31 - c) := by
  have e : z = (31 - c) + 22 := by omega
  rw [e, Nat.pow_add, ← Nat.mul_assoc]
  exact fx_exact _ _
theorem fx_great (q z c : Nat) (h : c + z = 53) (hc : 31 < c) : rne (q * 2 ^ z) 22 = rne q (c - 31) := by
  have e : 22 = (c - 31) + z := by omega
  have := rne_scale q (c - 31) z
  rw [← e] at this
  exact this
theorem fx_step (q n c : Nat) (h : n = q / 2 ^ c) (h0 : ¬n = 0) (hq : q < 9007199254740992) : c < 64 ∧ Aside (n / 2 = q / 2 ^ (c + 1) ∧ (c + 1 = 0 ∨ 2 ^ (c + 1 - 1) ≤ q)) := by
  subst h
  have hb2 : 2 ^ c ≤ q := Nat.le_of_not_lt fun hlt => h0 (Nat.div_eq_of_lt hlt)
  refine ⟨Nat.lt_of_not_le fun hge => h0 (Nat.div_eq_of_lt (Nat.lt_of_lt_of_le (Nat.lt_trans hq (show 9007199254740992 < 2 ^ 64 by decide)) (Nat.pow_le_pow_right (by decide) hge))), ⟨?_, .inr hb2⟩⟩
  rw [Nat.pow_succ, ← Nat.div_div_eq_div_mul]
theorem fx_ends (q z c : Nat) (h : q / 2 ^ c = 0) (hb : c = 0 ∨ 2 ^ (c - 1) ≤ q) (h0 : 0 < q) (h1 : 4503599627370496 ≤ q * 2 ^ z) (h2 : q * 2 ^ z < 9007199254740992) : c + z = 53 ∧ 0 < c ∧ q < 2 ^ c := by
  have hlt : q < 2 ^ c := (Nat.div_eq_zero_iff.1 h).resolve_left (Nat.ne_of_gt (Nat.two_pow_pos c))
  rcases hb with rfl | hb
  · rw [Nat.pow_zero] at hlt; omega
  · by_cases hc : 0 < c
    · exact ⟨fx_bits q z c h1 h2 hb hlt hc, hc, hlt⟩
    · obtain rfl : c = 0 := by omega
      rw [Nat.pow_zero] at hlt; omega
theorem fx_parts (q d : Nat) (hd : 0 < d) (hq : q < 9007199254740992) : ∃ Q low hf G : Nat, (∀ k : Nat, k = d → (q : Int) / 2 ^ k = (Q : Int)) ∧ (∀ k : Nat, k = d → wrap64 ((Q : Int) * 2 ^ k) = (G : Int)) ∧ wrap64 ((q : Int) - (G : Int)) = (low : Int) ∧ (hf < 9007199254740992 → ∀ k : Nat, k = d → wrap64 (2 ^ (k - 1)) = (hf : Int)) ∧ Q = q / 2 ^ d ∧ low = q % 2 ^ d ∧ 2 ^ d = 2 * hf := by
  obtain ⟨g, hg⟩ : ∃ g : Nat, g = 2 ^ d := ⟨_, rfl⟩
  obtain ⟨f, hf⟩ : ∃ f : Nat, f = 2 ^ (d - 1) := ⟨_, rfl⟩
  have e : 2 ^ d = 2 * f := by
    rw [hf, Nat.mul_comm, ← Nat.pow_succ]; congr 1; omega
  have e1 : (2 : Int) ^ d = (g : Int) := by rw [hg]; simp
  have e2 : (2 : Int) ^ (d - 1) = (f : Int) := by rw [hf]; simp
  have hdm := Nat.div_add_mod q g
  refine ⟨q / g, q % g, f, g * (q / g), fun k hk => by rw [hk, e1]; rfl, fun k hk => ?_, ?_, fun h k hk => ?_, by rw [hg], by rw [hg], e⟩
  · rw [hk, e1, ← Int.natCast_mul, Nat.mul_comm]
    generalize g * (q / g) = t at *
    rw [hw64 (t : Int) (by omega) (by omega)]
  · generalize g * (q / g) = t at *
    generalize q % g = r at *
    rw [hw64 _ (by omega) (by omega)]; omega
  · rw [hk, e2, hw64 _ (by omega) (by omega)]
theorem fx_rne (q d Q low hf : Nat) (h1 : Q = q / 2 ^ d) (h2 : low = q % 2 ^ d) (h3 : 2 ^ d = 2 * hf) : rne q d = if hf < low ∨ low = hf ∧ Q % 2 = 1 then Q + 1 else Q := by
  unfold rne
  rw [← h1, ← h2, h3]
  by_cases c : hf < low ∨ low = hf ∧ Q % 2 = 1
  · rw [if_pos c, if_pos (by omega)]
  · rw [if_neg c, if_neg (by omega), Nat.add_zero]
theorem fx_odd {Q : Nat} (h : Q % 2 = 1) : ((Q : Int) % 2 == 1) = true := by rw [beq_iff_eq]; omega
theorem fx_even {Q : Nat} (h : Q % 2 = 0) : ((Q : Int) % 2 == 1) = false := by rw [beq_eq_false_iff_ne]; omega
theorem fx_u1 {D Q : Nat} (h : D = Q + 1) (h2 : D = 2147483648) : ((Q : Int) + 1 == 2147483648) = true := by rw [beq_iff_eq]; omega
theorem fx_u2 {D Q : Nat} (h : D = Q + 1) (h2 : ¬ D = 2147483648) : ((Q : Int) + 1 == 2147483648) = false := by rw [beq_eq_false_iff_ne]; omega
theorem fx_v1 {D Q : Nat} (h : D = Q) (h2 : D = 2147483648) : ((Q : Int) == 2147483648) = true := by rw [beq_iff_eq]; omega
theorem fx_v2 {D Q : Nat} (h : D = Q) (h2 : ¬ D = 2147483648) : ((Q : Int) == 2147483648) = false := by rw [beq_eq_false_iff_ne]; omega
theorem fx_half (q z c hf : Nat) (h : c + z = 53) (hc : 31 < c) (h3 : 2 ^ (c - 31) = 2 * hf) : hf < 9007199254740992 := by
  have : 2 ^ (c - 31) ≤ 2 ^ 22 := Nat.pow_le_pow_right (by decide) (by omega)
  rw [show 2 ^ 22 = 4194304 by decide] at this
  omega
theorem fx_smallw (q z c D : Nat) (h : c + z = 53) (hc : c ≤ 31) (hD : D = rne (q * 2 ^ z) 22) (hl : D ≤ 2147483648) (hq : q < 2 ^ c) : (∀ k : Nat, k = 31 - c → wrap64 ((q : Int) * 2 ^ k) = (D : Int)) ∧ D < 2147483648 := by
  have e := fx_small q z c h hc
  rw [← hD] at e
  have e1 : (q : Int) * 2 ^ (31 - c) = (D : Int) := by rw [e]; simp
  refine ⟨fun k hk => by rw [hk, e1, hw64 _ (by omega) (by omega)], ?_⟩
  have h1 : q * 2 ^ (31 - c) < 2 ^ c * 2 ^ (31 - c) := Nat.mul_lt_mul_of_pos_right hq (Nat.two_pow_pos _)
  rw [← Nat.pow_add, show c + (31 - c) = 31 by omega, show 2 ^ 31 = 2147483648 by decide, ← e] at h1
  exact h1
set_option maxRecDepth 100000 in
set_option maxHeartbeats 1000000 in
theorem refFixed_any (x : Nat) (h1 : 4472074429978902528 ≤ x) (h2 : x ≤ 4742290407621132288) (w : World) : Calls Tryd.prog 24 #[.float .f64 x] w fun e w' => e = .returned (.tuple #[.int .i64 (fxM x), .int .i64 (fxS x), .bool true]) ∧ w' = w := by
  have hp : INF = 9218868437227405312 := rfl
  have hr : rung x = x := Nat.mod_eq_of_lt (by omega)
  have hs : sgn x = false := by
    unfold sgn
    have : x / 9223372036854775808 % 2 = 0 := by omega
    rw [this]; rfl
  have hn : isn x = false := decide_eq_false (by omega)
  have hx : x < 18446744073709551616 := by omega
  have hsr : sr x = (x : Int) := by unfold sr sg; rw [hs, hr]; rfl
  have z1 : decide (rung x < INF) = true := decide_eq_true (by omega)
  have z2 : (FloatKind.f64.format.order x 4472074429978902528 == some .lt) = false := by
    have a : (FloatKind.f64.format.order x 4472074429978902528 == some .lt) = (!isn x && !isn 4472074429978902528 && decide (sr x < sr 4472074429978902528)) := lt_eq x 4472074429978902528
    rw [a, hn, hsr, show isn 4472074429978902528 = false by decide, show sr 4472074429978902528 = 4472074429978902528 by decide, decide_eq_false (by omega)]; rfl
  have z3 : (FloatKind.f64.format.order x 4742290407621132288 == some .gt) = false := by
    have a : (FloatKind.f64.format.order x 4742290407621132288 == some .gt) = (!isn x && !isn 4742290407621132288 && decide (sr 4742290407621132288 < sr x)) := gt_eq x 4742290407621132288
    rw [a, hn, hsr, show isn 4742290407621132288 = false by decide, show sr 4742290407621132288 = 4742290407621132288 by decide, decide_eq_false (by omega)]; rfl
  have hP := refParts_any x hx (by omega) (by omega)
  rw [hs] at hP
  have hmg : 4503599627370496 ≤ mant x := by unfold mant; rw [hr, if_neg (by omega)]; omega
  obtain ⟨E, hE⟩ : ∃ E : Nat, E = rung x / 4503599627370496 := ⟨_, rfl⟩
  have hEl : 900 ≤ E ∧ E ≤ 1053 := by omega
  have he : expE x = (E : Int) - 1075 := by unfold expE; rw [hr, if_neg (by omega), hE, hr]
  have hmD : fxD x = rne (mant x) 22 := by unfold fxD mant; rw [hr, if_neg (by omega)]
  have hDr := fxD_range x
  have e1 : fxM x = if fxD x = 2147483648 then 1073741824 else (fxD x : Int) := rfl
  have e2 : fxS x = if fxD x = 2147483648 then 1052 - (E : Int) else 1053 - (E : Int) := by unfold fxS; rw [← hE]
  rw [e1, e2]
  rw [he] at hP
  generalize fxD x = D at *
  obtain ⟨M, hM⟩ : ∃ M : Int, M = if D = 2147483648 then 1073741824 else (D : Int) := ⟨_, rfl⟩
  obtain ⟨S, hS⟩ : ∃ S : Int, S = if D = 2147483648 then 1052 - (E : Int) else 1053 - (E : Int) := ⟨_, rfl⟩
  rw [← hM, ← hS]
  clear hr hsr hn e1 e2 he hE
  go_enter Tryd.func24, Tryd.ntmps24
  go_wp2_with (first | (go_at_call 78; refine (refFin_any x hx _).mono ?_; rintro e_ w_ ⟨rfl, rfl⟩; ))
  refine (hP _).mono ?_
  rintro e_ w_ ⟨q, z, hq, hm, rfl, rfl⟩
  rw [show sg false q = (q : Int) from rfl]
  have hq0 : 0 < q := by omega
  have hqs : q < 9007199254740992 := by
    have := Nat.le_mul_of_pos_right q (Nat.two_pow_pos z)
    have := mant_lt x
    omega
  go_wp2_with (fail)
  go_loopw [8, 9] (fun k m w2 => ∃ c n : Nat, c ≤ 64 ∧ k = .int .i64 c ∧ m = .int .i64 (n : Int) ∧ n < 9007199254740992 ∧ Aside (n = q / 2 ^ c ∧ (c = 0 ∨ 2 ^ (c - 1) ≤ q)) ∧ w2 = w_) (fun _ m _ => (intOf m).toNat)
  case atStart => exact ⟨0, q, by omega, rfl, rfl, hqs, ⟨by simp, .inl rfl⟩, rfl⟩
  case round =>
    obtain ⟨c, n, hc, rfl, rfl, hnl, hb, rfl⟩ := hrel
    by_cases h : n = 0
    · subst h
      obtain ⟨hcz, hc0, hqc⟩ := fx_ends q z c hb.out.1.symm hb.out.2 hq0 (by have := hmg; omega) (by have := mant_lt x; omega)
      clear hb
      rw [hm] at hmD
      by_cases hc31 : c ≤ 31
      · have z4 : decide ((c : Int) ≤ 31) = true := decide_eq_true (by omega)
        obtain ⟨zs1, hDl⟩ := fx_smallw q z c D hcz hc31 hmD hDr.2 hqc
        rw [if_neg (by omega)] at hM hS
        have hsh : (31 : Int) - (c : Int) - ((E : Int) - 1075 + (z : Int)) = S := by omega
        clear hqc hmD hm hmg hsh
        go_wp2
        go_ret3
        refine ⟨?_, rfl⟩
        show Ending.returned (.tuple #[.int .i64 (wrap64 ((q : Int) * 2 ^ (31 - c))), .int .i64 ((31 : Int) - (c : Int) - ((E : Int) - 1075 + (z : Int))), .bool true]) = _
        rw [zs1 _ rfl, hM, show (31 : Int) - (c : Int) - ((E : Int) - 1075 + (z : Int)) = S by omega]
      · have z4 : decide ((c : Int) ≤ 31) = false := decide_eq_false (by omega)
        obtain ⟨d, hd⟩ : ∃ d : Nat, d = c - 31 := ⟨_, rfl⟩
        have hd0 : 0 < d := by omega
        have hd22 : d ≤ 22 := by omega
        obtain ⟨Q, low, hf, G, zs1, zs4, zs2, zs3, hQ, hlow, hhf⟩ := fx_parts q d hd0 hqs
        have hfl := fx_half q z c hf hcz (by omega) (by rw [← hd]; exact hhf)
        replace zs3 := zs3 hfl
        have hrn := fx_rne q d Q low hf hQ hlow hhf
        rw [fx_great q z c hcz (by omega), ← hd, hrn] at hmD
        have hcd : (c : Int) - 31 = (d : Int) := by omega
        have zt3 : IntKind.u64.wrap ((d : Int) - 1) = (d : Int) - 1 := by rw [IntKind.wrap_u64]; omega
        have hsum : 1053 - (E : Int) = -((E : Int) - 1075 + (z : Int) + (d : Int)) := by omega
        have hsum := Aside.mk hsum
        clear hqc hm hmg hQ hlow hhf hrn hd hc31
        have hall : (hf < low) ∨ (low = hf ∧ Q % 2 = 1) ∨ (low = hf ∧ Q % 2 = 0) ∨ (low < hf) := by omega
        rcases hall with hlt | hlt | hlt | hlt
        · rw [if_pos (by omega)] at hmD
          by_cases hbg : D = 2147483648
          · rw [if_pos hbg] at hM hS
            have y1 : decide ((hf : Int) < (low : Int)) = true := decide_eq_true (by omega)
            have y1n : decide (hf < low) = true := decide_eq_true (by omega)
            have y4 : wrap64 ((Q : Int) + 1) = (Q : Int) + 1 := hw64 _ (by omega) (by omega)
            have y5 : ((Q : Int) + 1 == 2147483648) = true := fx_u1 hmD hbg
            have y6 : (wrap64 ((Q : Int) + 1) == 2147483648) = true := by rw [y4]; exact y5
            clear hmD hDr hlt
            go_wp2
            go_ret3
            refine ⟨?_, rfl⟩
            show Ending.returned (.tuple #[.int .i64 1073741824, .int .i64 ((-((E : Int) - 1075 + (z : Int) + (d : Int))) - 1), .bool true]) = _
            rw [hM, hS, show (-((E : Int) - 1075 + (z : Int) + (d : Int))) - 1 = 1052 - (E : Int) by have := hsum.out; omega]
          · rw [if_neg hbg] at hM hS
            have y1 : decide ((hf : Int) < (low : Int)) = true := decide_eq_true (by omega)
            have y1n : decide (hf < low) = true := decide_eq_true (by omega)
            have y4 : wrap64 ((Q : Int) + 1) = (Q : Int) + 1 := hw64 _ (by omega) (by omega)
            have y5 : ((Q : Int) + 1 == 2147483648) = false := fx_u2 hmD hbg
            have y6 : (wrap64 ((Q : Int) + 1) == 2147483648) = false := by rw [y4]; exact y5
            have hMv := Aside.mk (show M = (Q : Int) + 1 by omega)
            clear hmD hDr hlt
            go_wp2
            go_ret3
            refine ⟨?_, rfl⟩
            rw [hMv.out, hS, hsum.out]
            first | rfl | (show Ending.returned (.tuple #[.int .i64 (wrap64 ((Q : Int) + 1)), .int .i64 (-((E : Int) - 1075 + (z : Int) + (d : Int))), .bool true]) = _; rw [y4])
        · rw [if_pos (by omega)] at hmD
          by_cases hbg : D = 2147483648
          · rw [if_pos hbg] at hM hS
            have y1 : decide ((hf : Int) < (low : Int)) = false := decide_eq_false (by omega)
            have y2 : ((low : Int) == (hf : Int)) = true := beq_iff_eq.2 (by omega)
            have y1n : decide (hf < low) = false := decide_eq_false (by omega)
            have y2n : (low == hf) = true := beq_iff_eq.2 (by omega)
            have y2d : decide (low = hf) = true := decide_eq_true (by omega)
            have y3 : ((Q : Int) % 2 == 1) = true := fx_odd (by omega)
            have y4 : wrap64 ((Q : Int) + 1) = (Q : Int) + 1 := hw64 _ (by omega) (by omega)
            have y5 : ((Q : Int) + 1 == 2147483648) = true := fx_u1 hmD hbg
            have y6 : (wrap64 ((Q : Int) + 1) == 2147483648) = true := by rw [y4]; exact y5
            clear hmD hDr hlt
            go_wp2
            go_ret3
            refine ⟨?_, rfl⟩
            show Ending.returned (.tuple #[.int .i64 1073741824, .int .i64 ((-((E : Int) - 1075 + (z : Int) + (d : Int))) - 1), .bool true]) = _
            rw [hM, hS, show (-((E : Int) - 1075 + (z : Int) + (d : Int))) - 1 = 1052 - (E : Int) by have := hsum.out; omega]
          · rw [if_neg hbg] at hM hS
            have y1 : decide ((hf : Int) < (low : Int)) = false := decide_eq_false (by omega)
            have y2 : ((low : Int) == (hf : Int)) = true := beq_iff_eq.2 (by omega)
            have y1n : decide (hf < low) = false := decide_eq_false (by omega)
            have y2n : (low == hf) = true := beq_iff_eq.2 (by omega)
            have y2d : decide (low = hf) = true := decide_eq_true (by omega)
            have y3 : ((Q : Int) % 2 == 1) = true := fx_odd (by omega)
            have y4 : wrap64 ((Q : Int) + 1) = (Q : Int) + 1 := hw64 _ (by omega) (by omega)
            have y5 : ((Q : Int) + 1 == 2147483648) = false := fx_u2 hmD hbg
            have y6 : (wrap64 ((Q : Int) + 1) == 2147483648) = false := by rw [y4]; exact y5
            have hMv := Aside.mk (show M = (Q : Int) + 1 by omega)
            clear hmD hDr hlt
            go_wp2
            go_ret3
            refine ⟨?_, rfl⟩
            rw [hMv.out, hS, hsum.out]
            first | rfl | (show Ending.returned (.tuple #[.int .i64 (wrap64 ((Q : Int) + 1)), .int .i64 (-((E : Int) - 1075 + (z : Int) + (d : Int))), .bool true]) = _; rw [y4])
        · rw [if_neg (by omega)] at hmD
          by_cases hbg : D = 2147483648
          · rw [if_pos hbg] at hM hS
            have y1 : decide ((hf : Int) < (low : Int)) = false := decide_eq_false (by omega)
            have y2 : ((low : Int) == (hf : Int)) = true := beq_iff_eq.2 (by omega)
            have y1n : decide (hf < low) = false := decide_eq_false (by omega)
            have y2n : (low == hf) = true := beq_iff_eq.2 (by omega)
            have y2d : decide (low = hf) = true := decide_eq_true (by omega)
            have y3 : ((Q : Int) % 2 == 1) = false := fx_even (by omega)
            have y5 : ((Q : Int) == 2147483648) = true := fx_v1 hmD hbg
            clear hmD hDr hlt
            go_wp2
            go_ret3
            refine ⟨?_, rfl⟩
            show Ending.returned (.tuple #[.int .i64 1073741824, .int .i64 ((-((E : Int) - 1075 + (z : Int) + (d : Int))) - 1), .bool true]) = _
            rw [hM, hS, show (-((E : Int) - 1075 + (z : Int) + (d : Int))) - 1 = 1052 - (E : Int) by have := hsum.out; omega]
          · rw [if_neg hbg] at hM hS
            have y1 : decide ((hf : Int) < (low : Int)) = false := decide_eq_false (by omega)
            have y2 : ((low : Int) == (hf : Int)) = true := beq_iff_eq.2 (by omega)
            have y1n : decide (hf < low) = false := decide_eq_false (by omega)
            have y2n : (low == hf) = true := beq_iff_eq.2 (by omega)
            have y2d : decide (low = hf) = true := decide_eq_true (by omega)
            have y3 : ((Q : Int) % 2 == 1) = false := fx_even (by omega)
            have y5 : ((Q : Int) == 2147483648) = false := fx_v2 hmD hbg
            have hMv := Aside.mk (show M = (Q : Int) by omega)
            clear hmD hDr hlt
            go_wp2
            go_ret3
            refine ⟨?_, rfl⟩
            rw [hMv.out, hS, hsum.out]
            rfl
        · rw [if_neg (by omega)] at hmD
          by_cases hbg : D = 2147483648
          · rw [if_pos hbg] at hM hS
            have y1 : decide ((hf : Int) < (low : Int)) = false := decide_eq_false (by omega)
            have y2 : ((low : Int) == (hf : Int)) = false := beq_eq_false_iff_ne.2 (by omega)
            have y1n : decide (hf < low) = false := decide_eq_false (by omega)
            have y2n : (low == hf) = false := beq_eq_false_iff_ne.2 (by omega)
            have y2d : decide (low = hf) = false := decide_eq_false (by omega)
            have y5 : ((Q : Int) == 2147483648) = true := fx_v1 hmD hbg
            clear hmD hDr hlt
            go_wp2
            go_ret3
            refine ⟨?_, rfl⟩
            show Ending.returned (.tuple #[.int .i64 1073741824, .int .i64 ((-((E : Int) - 1075 + (z : Int) + (d : Int))) - 1), .bool true]) = _
            rw [hM, hS, show (-((E : Int) - 1075 + (z : Int) + (d : Int))) - 1 = 1052 - (E : Int) by have := hsum.out; omega]
          · rw [if_neg hbg] at hM hS
            have y1 : decide ((hf : Int) < (low : Int)) = false := decide_eq_false (by omega)
            have y2 : ((low : Int) == (hf : Int)) = false := beq_eq_false_iff_ne.2 (by omega)
            have y1n : decide (hf < low) = false := decide_eq_false (by omega)
            have y2n : (low == hf) = false := beq_eq_false_iff_ne.2 (by omega)
            have y2d : decide (low = hf) = false := decide_eq_false (by omega)
            have y5 : ((Q : Int) == 2147483648) = false := fx_v2 hmD hbg
            have hMv := Aside.mk (show M = (Q : Int) by omega)
            clear hmD hDr hlt
            go_wp2
            go_ret3
            refine ⟨?_, rfl⟩
            rw [hMv.out, hS, hsum.out]
            rfl

    · have y1 : decide ((0 : Int) < (n : Int)) = true := decide_eq_true (by omega)
      have y2 : (n : Int).tdiv 2 = ((n / 2 : Nat) : Int) := by rw [Int.tdiv_eq_ediv_of_nonneg (by omega)]; omega
      obtain ⟨hc1, hb2⟩ := fx_step q n c hb.out.1 h hqs
      clear hb
      go_wp2
      go_roundw
      case rel => exact ⟨c + 1, n / 2, by omega, by go_num, rfl, by omega, hb2, by first | trivial | rfl⟩
      case measure => simp [intOf]; omega
end Go.Proofs.YtcpfangcibilaaaDoor
