/- Len64, and shifted of package flt, walked. No condition. -/
import Derived.Test.YtcpfangcibilaaaDoorDp
import Derived.Lib.BitFns
namespace Go.Proofs.YtcpfangcibilaaaDoor
set_option linter.unusedVariables false
set_option linter.unusedSimpArgs false
open Go.RowKit

set_option maxRecDepth 100000 in
theorem tab_size : (Lib.len8tab.size : Int) = 256 := by
  have : Lib.len8tab.size = 256 := by decide
  omega
theorem tab_get (y : Int) (h : y.toNat < Lib.len8tab.size) : ((Lib.len8tab[y.toNat]'h).toNat : Int) = Lib.len8 y := by
  unfold Lib.len8
  rw [getElem?_pos Lib.len8tab y.toNat h]
  rfl
theorem sh_rne (q d Q low hf : Nat) (h1 : Q = q / 2 ^ d) (h2 : low = q % 2 ^ d) (h3 : 2 ^ d = 2 * hf) : rne q d = if hf < low ∨ low = hf ∧ Q % 2 = 1 then Q + 1 else Q := by
  unfold rne
  rw [← h1, ← h2, h3]
  by_cases c : hf < low ∨ low = hf ∧ Q % 2 = 1
  · rw [if_pos c, if_pos (by omega)]
  · rw [if_neg c, if_neg (by omega), Nat.add_zero]
theorem len_add (k a b : Nat) (hk : k ≤ 56) (ha : a ≤ 8) (hb : b = k + a) : wrap64 ((k : Int) + wrap64 (a : Int)) = (b : Int) := by
  unfold wrap64; omega
theorem len_one (a : Nat) (ha : a ≤ 8) : wrap64 (wrap64 (a : Int)) = (a : Int) := by unfold wrap64; omega
set_option maxHeartbeats 4000000 in
set_option maxRecDepth 100000 in
theorem len64_any (x : Int) (w : World) (h0 : 0 ≤ x) (h1 : x ≤ 18446744073709551615) :
    Calls Tryd.prog 94 #[.int .u64 x] w fun e w' => e = .returned (.int .i64 (Lib.bitLen x.toNat)) ∧ w' = w := by
  go_enter Tryd.func94, Tryd.ntmps94
  go_wp2
  all_goals first
    | (go_ret; refine ⟨congrArg Ending.returned (congrArg (Value.int IntKind.i64) ?_), rfl⟩)
    | (exfalso; have hs := tab_size; omega)

  all_goals first
    | (rw [tab_get (x / 4294967296 / 65536 / 256) _, Lib.len8_of (x / 4294967296 / 65536 / 256) (by omega) (by omega)]
       have e : (x / 4294967296 / 65536 / 256).toNat = x.toNat / 72057594037927936 := by omega
       have l := Lib.bitLen_le8' (x / 4294967296 / 65536 / 256) (by omega) (by omega)
       have s := Lib.bitLen_shift56 x.toNat (by omega) (by omega)
       rw [e] at l ⊢
       exact len_add 56 _ _ (by decide) l s)
    | (rw [tab_get (x / 4294967296 / 65536) _, Lib.len8_of (x / 4294967296 / 65536) (by omega) (by omega)]
       have e : (x / 4294967296 / 65536).toNat = x.toNat / 281474976710656 := by omega
       have l := Lib.bitLen_le8' (x / 4294967296 / 65536) (by omega) (by omega)
       have s := Lib.bitLen_shift48 x.toNat (by omega) (by omega)
       rw [e] at l ⊢
       exact len_add 48 _ _ (by decide) l s)
    | (rw [tab_get (x / 4294967296 / 256) _, Lib.len8_of (x / 4294967296 / 256) (by omega) (by omega)]
       have e : (x / 4294967296 / 256).toNat = x.toNat / 1099511627776 := by omega
       have l := Lib.bitLen_le8' (x / 4294967296 / 256) (by omega) (by omega)
       have s := Lib.bitLen_shift40 x.toNat (by omega) (by omega)
       rw [e] at l ⊢
       exact len_add 40 _ _ (by decide) l s)
    | (rw [tab_get (x / 4294967296) _, Lib.len8_of (x / 4294967296) (by omega) (by omega)]
       have e : (x / 4294967296).toNat = x.toNat / 4294967296 := by omega
       have l := Lib.bitLen_le8' (x / 4294967296) (by omega) (by omega)
       have s := Lib.bitLen_shift32 x.toNat (by omega) (by omega)
       rw [e] at l ⊢
       exact len_add 32 _ _ (by decide) l s)
    | (rw [tab_get (x / 65536 / 256) _, Lib.len8_of (x / 65536 / 256) (by omega) (by omega)]
       have e : (x / 65536 / 256).toNat = x.toNat / 16777216 := by omega
       have l := Lib.bitLen_le8' (x / 65536 / 256) (by omega) (by omega)
       have s := Lib.bitLen_shift24 x.toNat (by omega) (by omega)
       rw [e] at l ⊢
       exact len_add 24 _ _ (by decide) l s)
    | (rw [tab_get (x / 65536) _, Lib.len8_of (x / 65536) (by omega) (by omega)]
       have e : (x / 65536).toNat = x.toNat / 65536 := by omega
       have l := Lib.bitLen_le8' (x / 65536) (by omega) (by omega)
       have s := Lib.bitLen_shift16 x.toNat (by omega) (by omega)
       rw [e] at l ⊢
       exact len_add 16 _ _ (by decide) l s)
    | (rw [tab_get (x / 256) _, Lib.len8_of (x / 256) (by omega) (by omega)]
       have e : (x / 256).toNat = x.toNat / 256 := by omega
       have l := Lib.bitLen_le8' (x / 256) (by omega) (by omega)
       have s := Lib.bitLen_shift8 x.toNat (by omega) (by omega)
       rw [e] at l ⊢
       exact len_add 8 _ _ (by decide) l s)
    | (rw [tab_get x _, Lib.len8_of x (by omega) (by omega)]
       have l := Lib.bitLen_le8' x (by omega) (by omega)
       exact len_one _ l)
theorem bitLen_log {u L : Nat} (h0 : 0 < u) (hu : u < 18446744073709551616) (hL : u.log2 = L) : Lib.bitLen u = L + 1 := by
  have b1 := Nat.log2_self_le (show u ≠ 0 by omega)
  have b2 := lt_log2 u
  rw [hL] at b1 b2
  rw [Lib.bitLen_shift L u b1 (by rw [show 2 ^ 64 = 18446744073709551616 by decide]; exact hu)]
  have : u / 2 ^ L = 1 := by
    rw [Nat.div_eq_iff (Nat.two_pow_pos L)]
    rw [Nat.pow_succ] at b2
    omega
  rw [this]; rfl
theorem len64_log (u L : Nat) (h0 : 0 < u) (hu : u < 18446744073709551616) (hL : u.log2 = L) (w : World) : Calls Tryd.prog 94 #[.int .u64 (u : Int)] w fun e w' => e = .returned (.int .i64 ((L : Int) + 1)) ∧ w' = w := by
  have h := len64_any (u : Int) w (by omega) (by omega)
  rw [Int.toNat_natCast, bitLen_log h0 hu hL] at h
  exact h
theorem shl_fact (u k : Nat) (h : u * 2 ^ k < 18446744073709551616) : ∀ j : Nat, j = k → IntKind.u64.wrap ((u : Int) * 2 ^ j) = ((u * 2 ^ k : Nat) : Int) := fun j hj => by
  have e1 : (u : Int) * 2 ^ k = ((u * 2 ^ k : Nat) : Int) := by simp
  rw [hj, e1, IntKind.wrap_u64]
  generalize u * 2 ^ k = t at *
  omega
set_option maxHeartbeats 800000 in
theorem shifted_up (u k : Nat) (b : Int) (hb : b = -(k : Int)) (hk : k ≤ 63) (h : u * 2 ^ k < 18446744073709551616) (w : World) : Calls Tryd.prog 95 #[.int .u64 (u : Int), .int .i64 b] w fun e w' => e = .returned (.int .u64 ((u * 2 ^ k : Nat) : Int)) ∧ w' = w := by
  have zs := shl_fact u k h
  generalize u * 2 ^ k = t at *
  subst hb
  have z1 : decide (-(k : Int) ≤ 0) = true := decide_eq_true (by omega)
  have z2 : wrap64 (-(-(k : Int))) = (k : Int) := by unfold wrap64; omega
  have z3 : -(-(k : Int)) = (k : Int) := by omega
  clear h
  go_enter Tryd.func95, Tryd.ntmps95
  go_wp2
  go_ret
  exact ⟨rfl, rfl⟩
theorem shifted_far (u : Nat) (b : Int) (hb : 64 < b) (w : World) : Calls Tryd.prog 95 #[.int .u64 (u : Int), .int .i64 b] w fun e w' => e = .returned (.int .u64 0) ∧ w' = w := by
  have z1 : decide (b ≤ 0) = false := decide_eq_false (by omega)
  have z2 : decide (64 < b) = true := decide_eq_true (by omega)
  go_enter Tryd.func95, Tryd.ntmps95
  go_wp2
  go_ret
  exact ⟨rfl, rfl⟩
set_option maxHeartbeats 800000 in
theorem shifted_64 (w0 w : World) (L : List Ent) (H : St w0 w L) (u : Nat) (hu : u ≤ 9223372036854775808) : Calls Tryd.prog 95 #[.int .u64 (u : Int), .int .i64 64] w fun e w' => e = .returned (.int .u64 0) ∧ St w0 w' L := by
  have z1 : decide ((9223372036854775808 : Int) < (u : Int)) = false := decide_eq_false (by omega)
  by_cases h : u = 9223372036854775808
  · subst h
    go_enter Tryd.func95, Tryd.ntmps95
    go_wp2_with (fail)
    refine region_plan0 H [(0, true), (1, true), (2, true), (3, true), (4, true)] (by kernel_rfl) (by kernel_rfl) (fun _ _ d_ _ _ h => by cases d_ <;> exact h) (fun HN => ?_); clear H; have H := HN; clear HN; (iterate 5 (first | (refine planPure ?_ ?_ ?Zi ?Zg ?_ ?Zv ?_; (case Zi => rfl); (case Zg => (first | rfl | (go_simp; done) | fail)); (case Zv => (intro w_; first | (go_simp; (try go_bits); rfl) | (go_simp; done) | fail)); try simp only [q_1, q_2, q_3, q_4]) | (refine planSkip ?_ ?_ ?Zi ?Zg ?_; (case Zi => rfl); (case Zg => (first | rfl | (go_simp; done) | fail)); try simp only [q_1, q_2, q_3, q_4]) | fail)); refine planDone ?_
    go_wp2
    (go_ret; exact ⟨rfl, H⟩)
  · have z2 : ((u : Int) == 9223372036854775808) = false := by rw [beq_eq_false_iff_ne]; omega
    clear h
    go_enter Tryd.func95, Tryd.ntmps95
    go_wp2_with (fail)
    refine region_plan0 H [(0, true), (1, true), (2, true), (3, true), (4, true)] (by kernel_rfl) (by kernel_rfl) (fun _ _ d_ _ _ h => by cases d_ <;> exact h) (fun HN => ?_); clear H; have H := HN; clear HN; (iterate 5 (first | (refine planPure ?_ ?_ ?Zi ?Zg ?_ ?Zv ?_; (case Zi => rfl); (case Zg => (first | rfl | (go_simp; done) | fail)); (case Zv => (intro w_; first | (go_simp; (try go_bits); rfl) | (go_simp; done) | fail)); try simp only [q_1, q_2, q_3, q_4]) | (refine planSkip ?_ ?_ ?Zi ?Zg ?_; (case Zi => rfl); (case Zg => (first | rfl | (go_simp; done) | fail)); try simp only [q_1, q_2, q_3, q_4]) | fail)); refine planDone ?_
    go_wp2
    (go_ret; exact ⟨rfl, H⟩)
theorem sh_parts (u d : Nat) (hd : 0 < d) (hd2 : d ≤ 63) (hu : u < 18446744073709551616) : ∃ Q low hf G : Nat, (∀ k : Nat, k = d → (u : Int) / 2 ^ k = (Q : Int)) ∧ (∀ k : Nat, k = d → IntKind.u64.wrap (2 ^ k) = (G : Int)) ∧ IntKind.u64.wrap ((G : Int) - 1) = (G : Int) - 1 ∧ bits .and .u64 (u : Int) ((G : Int) - 1) = (low : Int) ∧ (∀ k : Nat, k = d → IntKind.u64.wrap (2 ^ (k - 1)) = (hf : Int)) ∧ Q < 9223372036854775808 ∧ Q = u / 2 ^ d ∧ low = u % 2 ^ d ∧ 2 ^ d = 2 * hf := by
  obtain ⟨g, hg⟩ : ∃ g : Nat, g = 2 ^ d := ⟨_, rfl⟩
  obtain ⟨f, hf⟩ : ∃ f : Nat, f = 2 ^ (d - 1) := ⟨_, rfl⟩
  have e : 2 ^ d = 2 * f := by
    rw [hf, Nat.mul_comm, ← Nat.pow_succ]; congr 1; omega
  have e1 : (2 : Int) ^ d = (g : Int) := by rw [hg]; simp
  have e2 : (2 : Int) ^ (d - 1) = (f : Int) := by rw [hf]; simp
  have hgl : g ≤ 9223372036854775808 := by
    rw [hg, show 9223372036854775808 = 2 ^ 63 by decide]
    exact Nat.pow_le_pow_right (by decide) hd2
  have hg0 : 0 < g := by rw [hg]; exact Nat.two_pow_pos d
  have hm : bits .and .u64 (u : Int) ((g : Int) - 1) = ((u % g : Nat) : Int) := by
    rw [show (g : Int) - 1 = ((g - 1 : Nat) : Int) by omega, u64_and_nat u _ hu (by omega), hg, and_low u d]
  have hq : u / g < 9223372036854775808 := by
    have h2 : 2 ≤ g := by rw [hg, e]; have : 0 < f := by rw [hf]; exact Nat.two_pow_pos _
                          omega
    have : u / g ≤ u / 2 := Nat.div_le_div_left h2 (by decide)
    omega
  refine ⟨u / g, u % g, f, g, fun k hk => by rw [hk, e1]; rfl, fun k hk => ?_, ?_, hm, fun k hk => ?_, hq, by rw [hg], by rw [hg], e⟩
  · rw [hk, e1, IntKind.wrap_u64]; omega
  · rw [IntKind.wrap_u64]; omega
  · rw [hk, e2, IntKind.wrap_u64]; omega
theorem and_one (Q : Nat) (hQ : Q < 9223372036854775808) : bits .and .u64 (Q : Int) 1 = ((Q % 2 : Nat) : Int) := by
  have := u64_and_nat Q 1 (by omega) (by decide)
  rw [show ((1 : Nat) : Int) = 1 from rfl] at this
  rw [this]
  have := and_low Q 1
  rw [show 2 ^ 1 - 1 = 1 by decide, show 2 ^ 1 = 2 by decide] at this
  rw [this]
theorem sh_odd {Q : Nat} (hQ : Q < 9223372036854775808) (h : Q % 2 = 1) : (bits .and .u64 (Q : Int) 1 == 1) = true := by rw [and_one Q hQ, h]; rfl
theorem sh_even {Q : Nat} (hQ : Q < 9223372036854775808) (h : Q % 2 = 0) : (bits .and .u64 (Q : Int) 1 == 1) = false := by rw [and_one Q hQ, h]; rfl
theorem sh_inc {Q : Nat} (hQ : Q < 9223372036854775808) : IntKind.u64.wrap ((Q : Int) + 1) = (Q : Int) + 1 := by rw [IntKind.wrap_u64]; omega

set_option maxHeartbeats 800000 in
theorem shifted_dn (w0 w : World) (L : List Ent) (H : St w0 w L) (u d : Nat) (hd : 0 < d) (hd2 : d ≤ 63) (hu : u < 18446744073709551616) : Calls Tryd.prog 95 #[.int .u64 (u : Int), .int .i64 (d : Int)] w fun e w' => e = .returned (.int .u64 ((rne u d : Nat) : Int)) ∧ St w0 w' L := by
  obtain ⟨Q, low, hf, G, zs1, zs2, zs3, zs4, zs5, hQl, hQ, hlow, hhf⟩ := sh_parts u d hd hd2 hu
  rw [sh_rne u d Q low hf hQ hlow hhf]
  have z1 : decide ((d : Int) ≤ 0) = false := decide_eq_false (by omega)
  have z2 : decide ((64 : Int) < (d : Int)) = false := decide_eq_false (by omega)
  have z3 : decide ((d : Int) < 64) = true := decide_eq_true (by omega)
  clear hQ hlow hhf
  have hall : (hf < low) ∨ (low = hf ∧ Q % 2 = 1) ∨ (low = hf ∧ Q % 2 = 0) ∨ (low < hf) := by omega
  rcases hall with hlt | hlt | hlt | hlt
  · rw [if_pos (by omega)]
    have y1 : decide ((hf : Int) < (low : Int)) = true := decide_eq_true (by omega)
    have y1n : decide (hf < low) = true := decide_eq_true (by omega)
    have y4 := sh_inc hQl
    clear hlt
    go_enter Tryd.func95, Tryd.ntmps95
    go_wp2_with (fail)
    refine region_plan0 H [(0, true), (1, true), (2, true), (3, true), (4, true)] (by kernel_rfl) (by kernel_rfl) (fun _ _ d_ _ _ h => by cases d_ <;> exact h) (fun HN => ?_); clear H; have H := HN; clear HN; (iterate 5 (first | (refine planPure ?_ ?_ ?Zi ?Zg ?_ ?Zv ?_; (case Zi => rfl); (case Zg => (first | rfl | (go_simp; done) | fail)); (case Zv => (intro w_; first | (go_simp; (try go_bits); rfl) | (go_simp; done) | fail)); try simp only [q_1, q_2, q_3, q_4]) | (refine planSkip ?_ ?_ ?Zi ?Zg ?_; (case Zi => rfl); (case Zg => (first | rfl | (go_simp; done) | fail)); try simp only [q_1, q_2, q_3, q_4]) | fail)); refine planDone ?_
    go_wp2_with (fail)
    refine region_plan0 H [(0, true), (1, true), (2, true), (3, true), (4, true), (5, true), (6, true), (7, true), (8, true), (9, true)] (by kernel_rfl) (by kernel_rfl) (fun _ _ d_ _ _ h => by cases d_ <;> exact h) (fun HN => ?_); clear H; have H := HN; clear HN; (iterate 10 (first | (refine planPure ?_ ?_ ?Zi ?Zg ?_ ?Zv ?_; (case Zi => rfl); (case Zg => (first | rfl | (go_simp; done) | fail)); (case Zv => (intro w_; first | (go_simp; (try go_bits); rfl) | (go_simp; done) | fail)); try simp only [q_1, q_2, q_3, q_4]) | (refine planSkip ?_ ?_ ?Zi ?Zg ?_; (case Zi => rfl); (case Zg => (first | rfl | (go_simp; done) | fail)); try simp only [q_1, q_2, q_3, q_4]) | fail)); refine planDone ?_
    go_wp2
    (go_ret; exact ⟨by first | rfl | (show Ending.returned (.int .u64 (IntKind.u64.wrap ((Q : Int) + 1))) = _; rw [y4]; rfl), H⟩)
  · rw [if_pos (by omega)]
    have y1 : decide ((hf : Int) < (low : Int)) = false := decide_eq_false (by omega)
    have y1n : decide (hf < low) = false := decide_eq_false (by omega)
    have y2 : ((low : Int) == (hf : Int)) = true := by rw [beq_iff_eq]; omega
    have y2n : (low == hf) = true := by rw [beq_iff_eq]; omega
    have y3 : (bits .and .u64 (Q : Int) 1 == 1) = true := sh_odd hQl (by omega)
    have y4 := sh_inc hQl
    clear hlt
    go_enter Tryd.func95, Tryd.ntmps95
    go_wp2_with (fail)
    refine region_plan0 H [(0, true), (1, true), (2, true), (3, true), (4, true)] (by kernel_rfl) (by kernel_rfl) (fun _ _ d_ _ _ h => by cases d_ <;> exact h) (fun HN => ?_); clear H; have H := HN; clear HN; (iterate 5 (first | (refine planPure ?_ ?_ ?Zi ?Zg ?_ ?Zv ?_; (case Zi => rfl); (case Zg => (first | rfl | (go_simp; done) | fail)); (case Zv => (intro w_; first | (go_simp; (try go_bits); rfl) | (go_simp; done) | fail)); try simp only [q_1, q_2, q_3, q_4]) | (refine planSkip ?_ ?_ ?Zi ?Zg ?_; (case Zi => rfl); (case Zg => (first | rfl | (go_simp; done) | fail)); try simp only [q_1, q_2, q_3, q_4]) | fail)); refine planDone ?_
    go_wp2_with (fail)
    refine region_plan0 H [(0, true), (1, true), (2, true), (3, true), (4, true), (5, true), (6, true), (7, true), (8, true), (9, true)] (by kernel_rfl) (by kernel_rfl) (fun _ _ d_ _ _ h => by cases d_ <;> exact h) (fun HN => ?_); clear H; have H := HN; clear HN; (iterate 10 (first | (refine planPure ?_ ?_ ?Zi ?Zg ?_ ?Zv ?_; (case Zi => rfl); (case Zg => (first | rfl | (go_simp; done) | fail)); (case Zv => (intro w_; first | (go_simp; (try go_bits); rfl) | (go_simp; done) | fail)); try simp only [q_1, q_2, q_3, q_4]) | (refine planSkip ?_ ?_ ?Zi ?Zg ?_; (case Zi => rfl); (case Zg => (first | rfl | (go_simp; done) | fail)); try simp only [q_1, q_2, q_3, q_4]) | fail)); refine planDone ?_
    go_wp2
    (go_ret; exact ⟨by first | rfl | (show Ending.returned (.int .u64 (IntKind.u64.wrap ((Q : Int) + 1))) = _; rw [y4]; rfl), H⟩)
  · rw [if_neg (by omega)]
    have y1 : decide ((hf : Int) < (low : Int)) = false := decide_eq_false (by omega)
    have y1n : decide (hf < low) = false := decide_eq_false (by omega)
    have y2 : ((low : Int) == (hf : Int)) = true := by rw [beq_iff_eq]; omega
    have y2n : (low == hf) = true := by rw [beq_iff_eq]; omega
    have y3 : (bits .and .u64 (Q : Int) 1 == 1) = false := sh_even hQl (by omega)
    clear hlt
    go_enter Tryd.func95, Tryd.ntmps95
    go_wp2_with (fail)
    refine region_plan0 H [(0, true), (1, true), (2, true), (3, true), (4, true)] (by kernel_rfl) (by kernel_rfl) (fun _ _ d_ _ _ h => by cases d_ <;> exact h) (fun HN => ?_); clear H; have H := HN; clear HN; (iterate 5 (first | (refine planPure ?_ ?_ ?Zi ?Zg ?_ ?Zv ?_; (case Zi => rfl); (case Zg => (first | rfl | (go_simp; done) | fail)); (case Zv => (intro w_; first | (go_simp; (try go_bits); rfl) | (go_simp; done) | fail)); try simp only [q_1, q_2, q_3, q_4]) | (refine planSkip ?_ ?_ ?Zi ?Zg ?_; (case Zi => rfl); (case Zg => (first | rfl | (go_simp; done) | fail)); try simp only [q_1, q_2, q_3, q_4]) | fail)); refine planDone ?_
    go_wp2_with (fail)
    refine region_plan0 H [(0, true), (1, true), (2, true), (3, true), (4, true), (5, true), (6, true), (7, true), (8, true), (9, true)] (by kernel_rfl) (by kernel_rfl) (fun _ _ d_ _ _ h => by cases d_ <;> exact h) (fun HN => ?_); clear H; have H := HN; clear HN; (iterate 10 (first | (refine planPure ?_ ?_ ?Zi ?Zg ?_ ?Zv ?_; (case Zi => rfl); (case Zg => (first | rfl | (go_simp; done) | fail)); (case Zv => (intro w_; first | (go_simp; (try go_bits); rfl) | (go_simp; done) | fail)); try simp only [q_1, q_2, q_3, q_4]) | (refine planSkip ?_ ?_ ?Zi ?Zg ?_; (case Zi => rfl); (case Zg => (first | rfl | (go_simp; done) | fail)); try simp only [q_1, q_2, q_3, q_4]) | fail)); refine planDone ?_
    go_wp2
    (go_ret; exact ⟨rfl, H⟩)
  · rw [if_neg (by omega)]
    have y1 : decide ((hf : Int) < (low : Int)) = false := decide_eq_false (by omega)
    have y1n : decide (hf < low) = false := decide_eq_false (by omega)
    have y2 : ((low : Int) == (hf : Int)) = false := by rw [beq_eq_false_iff_ne]; omega
    have y2n : (low == hf) = false := by rw [beq_eq_false_iff_ne]; omega
    clear hlt
    go_enter Tryd.func95, Tryd.ntmps95
    go_wp2_with (fail)
    refine region_plan0 H [(0, true), (1, true), (2, true), (3, true), (4, true)] (by kernel_rfl) (by kernel_rfl) (fun _ _ d_ _ _ h => by cases d_ <;> exact h) (fun HN => ?_); clear H; have H := HN; clear HN; (iterate 5 (first | (refine planPure ?_ ?_ ?Zi ?Zg ?_ ?Zv ?_; (case Zi => rfl); (case Zg => (first | rfl | (go_simp; done) | fail)); (case Zv => (intro w_; first | (go_simp; (try go_bits); rfl) | (go_simp; done) | fail)); try simp only [q_1, q_2, q_3, q_4]) | (refine planSkip ?_ ?_ ?Zi ?Zg ?_; (case Zi => rfl); (case Zg => (first | rfl | (go_simp; done) | fail)); try simp only [q_1, q_2, q_3, q_4]) | fail)); refine planDone ?_
    go_wp2_with (fail)
    refine region_plan0 H [(0, true), (1, true), (2, true), (3, true), (4, true), (5, true), (6, true), (7, true), (8, true), (9, true)] (by kernel_rfl) (by kernel_rfl) (fun _ _ d_ _ _ h => by cases d_ <;> exact h) (fun HN => ?_); clear H; have H := HN; clear HN; (iterate 10 (first | (refine planPure ?_ ?_ ?Zi ?Zg ?_ ?Zv ?_; (case Zi => rfl); (case Zg => (first | rfl | (go_simp; done) | fail)); (case Zv => (intro w_; first | (go_simp; (try go_bits); rfl) | (go_simp; done) | fail)); try simp only [q_1, q_2, q_3, q_4]) | (refine planSkip ?_ ?_ ?Zi ?Zg ?_; (case Zi => rfl); (case Zg => (first | rfl | (go_simp; done) | fail)); try simp only [q_1, q_2, q_3, q_4]) | fail)); refine planDone ?_
    go_wp2
    (go_ret; exact ⟨rfl, H⟩)

/-- A number by a power of two, of two nearest the even one. -/
theorem shifted_any (w0 w : World) (L : List Ent) (H : St w0 w L) (u : Nat) (h0 : 0 < u) (hu : u ≤ 9223372036854775808) (e q : Int) (hup : q ≤ e → u * 2 ^ (e - q).toNat ≤ 9007199254740992) : Calls Tryd.prog 95 #[.int .u64 (u : Int), .int .i64 (q - e)] w fun r w' => r = .returned (.int .u64 (((if q ≤ e then u * 2 ^ (e - q).toNat else rne u (q - e).toNat : Nat)) : Int)) ∧ St w0 w' L := by
  by_cases c : q ≤ e
  · rw [if_pos c]
    have hk : (e - q).toNat ≤ 63 := by
      have h1 := hup c
      have h2 : 2 ^ (e - q).toNat ≤ 9007199254740992 := Nat.le_trans (Nat.le_mul_of_pos_left _ h0) h1
      refine Nat.le_of_not_lt fun h3 => ?_
      have h4 : 2 ^ 64 ≤ 2 ^ (e - q).toNat := Nat.pow_le_pow_right (by decide) h3
      rw [show 2 ^ 64 = 18446744073709551616 by decide] at h4
      omega
    exact (shifted_up u (e - q).toNat (q - e) (by omega) hk (Nat.lt_of_le_of_lt (hup c) (by decide)) w).mono fun r w' h => ⟨h.1, by rw [h.2]; exact H⟩
  · rw [if_neg c]
    by_cases c2 : 64 < q - e
    · have e0 : rne u (q - e).toNat = 0 := by
        have h1 : 2 ^ 65 ≤ 2 ^ (q - e).toNat := Nat.pow_le_pow_right (by decide) (by omega)
        rw [show 2 ^ 65 = 36893488147419103232 by decide] at h1
        unfold rne
        generalize 2 ^ (q - e).toNat = g at *
        rw [Nat.div_eq_of_lt (by omega), Nat.mod_eq_of_lt (by omega), if_neg (by omega)]
      rw [e0]
      exact (shifted_far u (q - e) c2 w).mono fun r w' h => ⟨h.1, by rw [h.2]; exact H⟩
    · by_cases c3 : q - e = 64
      · have e0 : rne u (q - e).toNat = 0 := by
          rw [show (q - e).toNat = 64 by omega]
          unfold rne
          rw [show 2 ^ 64 = 18446744073709551616 by decide, Nat.div_eq_of_lt (by omega), Nat.mod_eq_of_lt (by omega), if_neg (by omega)]
        rw [e0, c3]
        exact shifted_64 w0 w L H u hu
      · obtain ⟨d, hd⟩ : ∃ d : Nat, q - e = (d : Int) := ⟨(q - e).toNat, by omega⟩
        rw [hd, Int.toNat_natCast]
        exact shifted_dn w0 w L H u d (by omega) (by omega) (by omega)
end Go.Proofs.YtcpfangcibilaaaDoor
