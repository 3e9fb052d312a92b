/- QuantTells, walked. No condition but the errors' places. -/
import Derived.Test.YtcpfangcibilaaaDoorDn
import Derived.Test.YtcpfangcibilaaaDoorFk
import Derived.Test.YtcpfangcibilaaaDoorDh
namespace Go.Proofs.YtcpfangcibilaaaDoor
set_option linter.unusedVariables false
set_option linter.unusedSimpArgs false
open Go.RowKit

theorem ldexp_dn (A S : Nat) (hA : A < INF) (hE : S + 123 ≤ A / 4503599627370496) (w : World) : Calls Tryd.prog 84 #[.float .f64 A, .int .i64 (-(S : Int))] w fun e w' => e = .returned (.float .f64 (A - S * 4503599627370496)) ∧ w' = w := by
  have hp : INF = 9218868437227405312 := rfl
  have hr : rung A = A := Nat.mod_eq_of_lt (by omega)
  have hs : sgn A = false := by
    unfold sgn
    have : A / 9223372036854775808 % 2 = 0 := by omega
    rw [this]; rfl
  have h := ldexp0_any A (by omega) (by omega) (by omega) (-(S : Int)) (by omega) (by omega) w
  have e : ((if sgn A then 9223372036854775808 else 0) + ((-(S : Int) + ((rung A / 4503599627370496 : Nat) : Int)).toNat * 4503599627370496 + rung A % 4503599627370496)) = A - S * 4503599627370496 := by
    rw [hs, hr]; simp; omega
  rw [e] at h
  exact h
theorem tells_facts (x : Nat) (h1 : 4472074429978902528 ≤ x) (h2 : x ≤ 4742290407621132288) : ∃ (M S A Z Y G : Nat), fxM x = (M : Int) ∧ fxS x = (S : Int) ∧ 1073741824 ≤ M ∧ M ≤ 2147483647 ∧ S ≤ 60 ∧ FloatKind.f64.nearest (M : Int) = A ∧ A < INF ∧ S + 123 ≤ A / 4503599627370496 ∧ A - S * 4503599627370496 = Y ∧ 4602678819172646912 - S * 4503599627370496 = G ∧
    Ieee.double.sub Y x = some Z ∧ Z < 18446744073709551616 ∧ rung Z < INF ∧ (FloatKind.f64.format.order (rung Z) G == some .lt || FloatKind.f64.format.order (rung Z) G == some .eq) = true := by
  have hp : INF = 9218868437227405312 := rfl
  have hr : rung x = x := Nat.mod_eq_of_lt (by omega)
  have hs : sgn x = false := by
    unfold sgn
    have : x / 9223372036854775808 % 2 = 0 := by omega
    rw [this]; rfl
  obtain ⟨E, hE⟩ : ∃ E : Nat, E = rung x / 4503599627370496 := ⟨_, rfl⟩
  obtain ⟨m, hm⟩ : ∃ m : Nat, m = 4503599627370496 + rung x % 4503599627370496 := ⟨_, rfl⟩
  have hEl : 993 ≤ E ∧ E ≤ 1053 := by omega
  have hD1 : fxD x = rne m 22 := by unfold fxD; rw [← hm]
  have hDr := fxD_range x
  have hcl := rne_close m
  rw [← hD1] at hcl
  have hsx : sv x = (m : Int) * ((2 ^ (E - 1) : Nat) : Int) := by
    have e : mag (rung x) = m * 2 ^ (E - 1) := by unfold mag; rw [if_neg (by omega), ← hm, ← hE]
    unfold sv sg
    rw [hs, e, ← Int.natCast_mul]; rfl
  have e1 : fxM x = if fxD x = 2147483648 then 1073741824 else (fxD x : Int) := rfl
  have e2 : fxS x = if fxD x = 2147483648 then 1052 - (E : Int) else 1053 - (E : Int) := by unfold fxS; rw [← hE]
  have hlast : E = 1053 → fxD x = 1073741824 := fun h => by
    have : m = 4503599627370496 := by omega
    rw [hD1, this]; decide
  generalize fxD x = D at *
  by_cases hb : D = 2147483648
  · rw [if_pos hb] at e1 e2
    obtain ⟨A, a1, a2, a3, a4⟩ := ofInt_whl (1073741824 : Nat) (by decide)
    have a5 := whl_31 A 1073741824 a3 (a4.trans (decide_eq_false (by decide))) a2 (by decide) (by decide)
    obtain ⟨Z, z1, z2, z3, z4⟩ := tells_core x m D 1073741824 (1052 - E) (E - 1) 1 (by omega) (by omega) hsx hcl (by omega) (by decide) (by omega) (by omega) (by decide) (by decide)
    exact ⟨1073741824, 1052 - E, A, Z, _, _, e1, by omega, by decide, by decide, by omega, a1, by omega, by omega, by omega, by omega, z1, z2, z3, z4⟩
  · rw [if_neg hb] at e1 e2
    obtain ⟨A, a1, a2, a3, a4⟩ := ofInt_whl (D : Nat) (by omega)
    have a5 := whl_31 A D a3 (a4.trans (decide_eq_false (by omega))) a2 (by omega) (by omega)
    obtain ⟨Z, z1, z2, z3, z4⟩ := tells_core x m D D (1053 - E) (E - 1) 0 (by omega) (by omega) hsx hcl (by omega) (by decide) (by omega) (by omega) (by omega) (by omega)
    exact ⟨D, 1053 - E, A, Z, _, _, e1, by omega, by omega, by omega, by omega, a1, by omega, by omega, by omega, by omega, z1, z2, z3, z4⟩
/-- The place of the error that a range tells. -/
def ErrR (E : Int → Addr) (w : World) : Prop := w.cell? ⟨0, 0, none⟩ = some (.iface 119 (.pointer (some (E 102))))
set_option maxHeartbeats 800000 in
theorem fixed_outR (E : Int → Addr) (w0 w : World) (L : List Ent) (hE : ErrR E w0) (x : Nat) (h : OutF x) (H : St w0 w L) : Calls Tryd.prog 23 #[.float .f64 x] w fun e w' => e = .returned (.tuple #[.int .i64 0, .int .i64 0, .iface 119 (.pointer (some (E 102)))]) ∧ St w0 w' L := by
  have ct : w0.cell? ⟨0, 0, none⟩ = some (.iface 119 (.pointer (some (E 102)))) := hE
  rcases out_tests h with z1 | ⟨z1, z2⟩
  · go_enter Tryd.func23, Tryd.ntmps23
    go_wp2_with (fail)
    refine region_plan0 H [(0, true), (1, true), (2, true), (3, true)] (by kernel_rfl) (by kernel_rfl) (fun _ _ d_ _ _ h => by cases d_ <;> exact h) (fun HN => ?_); clear H; have H := HN; clear HN; (iterate 4 (first | (refine planLoadBlk ?_ ?_ ?Zi ?Zg ?_ ?_ ?Zo ?Zs ?_ ?_ ?Zx ?_ ?_ ?Zm ?_ ?Zv ?_; (case Zi => rfl); (case Zo => rfl); (case Zs => exact Tsc.out); (case Zg => (first | rfl | (go_simp; done) | fail)); (case Zx => rfl); (case Zm => (repeat (first | exact mh_ | assumption | apply mt_))); (case Zv => (first | rfl | (refine map_ix _ _ _ ?_; first | (with_reducible assumption) | omega | (simp; omega)) | (refine map_ix_app _ _ _ _ ?_; first | (with_reducible assumption) | omega | (simp; omega)) | assumption | (simp; done))); try simp only [q_1, q_2, q_3, q_4]) | (refine planLoadRd ?_ ?_ ?Zi ?Zg ?_ ?_ ?Zo ?Zs ?_ ?_ ?Zx ?_ ?Zr ?_ ?Zv ?_; (case Zi => rfl); (case Zo => rfl); (case Zs => exact Tsc.out); (case Zg => (first | rfl | (go_simp; done) | fail)); (case Zx => rfl); (case Zr => (intro w_ H; first | (refine H.rdOwn (c := ?_) (e := ?_) ?Zm1; (case Zm1 => (repeat (first | exact mh_ | assumption | apply mt_)))) | (refine H.rdRo ?Zm1; (case Zm1 => (repeat (first | exact mh_ | assumption | apply mt_)))) | (refine H.rdBlk (t := ?_) ?Zm1; (case Zm1 => (repeat (first | exact mh_ | assumption | apply mt_)))) | fail)); (case Zv => (first | rfl | (refine map_ix _ _ _ ?_; first | (with_reducible assumption) | omega | (simp; omega)) | (refine map_ix_app _ _ _ _ ?_; first | (with_reducible assumption) | omega | (simp; omega)) | assumption | (simp; done))); try simp only [q_1, q_2, q_3, q_4]) | (refine planLoadOld ?_ ?_ ?Zi ?Zg ?_ ?_ ?Zo ?Zs ?_ ?Zx ?_ ?Zv ?_; (case Zi => rfl); (case Zo => rfl); (case Zs => exact Tsc.out); (case Zg => (first | rfl | (go_simp; done) | fail)); (case Zx => rfl); (case Zv => assumption); try simp only [q_1, q_2, q_3, q_4]) | (refine planPure ?_ ?_ ?Zi ?Zg ?_ ?Zv ?_; (case Zi => rfl); (case Zg => (first | rfl | (go_simp; done) | fail)); (case Zv => (intro w_; first | (go_simp; (try go_bits); rfl) | (go_simp; done) | fail)); try simp only [q_1, q_2, q_3, q_4]) | (refine planSkip ?_ ?_ ?Zi ?Zg ?_; (case Zi => rfl); (case Zg => (first | rfl | (go_simp; done) | fail)); try simp only [q_1, q_2, q_3, q_4]) | fail)); refine planDone ?_
    go_wp2
    (go_ret3; exact ⟨rfl, H⟩)
  · go_enter Tryd.func23, Tryd.ntmps23
    go_wp2_with (fail)
    refine region_plan0 H [(0, true), (1, true), (2, true), (3, true)] (by kernel_rfl) (by kernel_rfl) (fun _ _ d_ _ _ h => by cases d_ <;> exact h) (fun HN => ?_); clear H; have H := HN; clear HN; (iterate 4 (first | (refine planLoadBlk ?_ ?_ ?Zi ?Zg ?_ ?_ ?Zo ?Zs ?_ ?_ ?Zx ?_ ?_ ?Zm ?_ ?Zv ?_; (case Zi => rfl); (case Zo => rfl); (case Zs => exact Tsc.out); (case Zg => (first | rfl | (go_simp; done) | fail)); (case Zx => rfl); (case Zm => (repeat (first | exact mh_ | assumption | apply mt_))); (case Zv => (first | rfl | (refine map_ix _ _ _ ?_; first | (with_reducible assumption) | omega | (simp; omega)) | (refine map_ix_app _ _ _ _ ?_; first | (with_reducible assumption) | omega | (simp; omega)) | assumption | (simp; done))); try simp only [q_1, q_2, q_3, q_4]) | (refine planLoadRd ?_ ?_ ?Zi ?Zg ?_ ?_ ?Zo ?Zs ?_ ?_ ?Zx ?_ ?Zr ?_ ?Zv ?_; (case Zi => rfl); (case Zo => rfl); (case Zs => exact Tsc.out); (case Zg => (first | rfl | (go_simp; done) | fail)); (case Zx => rfl); (case Zr => (intro w_ H; first | (refine H.rdOwn (c := ?_) (e := ?_) ?Zm1; (case Zm1 => (repeat (first | exact mh_ | assumption | apply mt_)))) | (refine H.rdRo ?Zm1; (case Zm1 => (repeat (first | exact mh_ | assumption | apply mt_)))) | (refine H.rdBlk (t := ?_) ?Zm1; (case Zm1 => (repeat (first | exact mh_ | assumption | apply mt_)))) | fail)); (case Zv => (first | rfl | (refine map_ix _ _ _ ?_; first | (with_reducible assumption) | omega | (simp; omega)) | (refine map_ix_app _ _ _ _ ?_; first | (with_reducible assumption) | omega | (simp; omega)) | assumption | (simp; done))); try simp only [q_1, q_2, q_3, q_4]) | (refine planLoadOld ?_ ?_ ?Zi ?Zg ?_ ?_ ?Zo ?Zs ?_ ?Zx ?_ ?Zv ?_; (case Zi => rfl); (case Zo => rfl); (case Zs => exact Tsc.out); (case Zg => (first | rfl | (go_simp; done) | fail)); (case Zx => rfl); (case Zv => assumption); try simp only [q_1, q_2, q_3, q_4]) | (refine planPure ?_ ?_ ?Zi ?Zg ?_ ?Zv ?_; (case Zi => rfl); (case Zg => (first | rfl | (go_simp; done) | fail)); (case Zv => (intro w_; first | (go_simp; (try go_bits); rfl) | (go_simp; done) | fail)); try simp only [q_1, q_2, q_3, q_4]) | (refine planSkip ?_ ?_ ?Zi ?Zg ?_; (case Zi => rfl); (case Zg => (first | rfl | (go_simp; done) | fail)); try simp only [q_1, q_2, q_3, q_4]) | fail)); refine planDone ?_
    go_wp2
    (go_ret3; exact ⟨rfl, H⟩)
set_option maxRecDepth 100000 in
set_option maxHeartbeats 1000000 in
theorem quantTells_any (E : Int → Addr) (w : World) (hE : ErrR E w) (x : Nat) (hx : x < 18446744073709551616) :
    Calls Tryd.prog 5 #[.float .f64 x] w fun e w' => e = .returned (.bool true) ∧ St w w' [] := by
  have H := St.start w
  rcases out_or x hx with h | ⟨h1, h2⟩
  · have n2 : ∀ (w : World), (binOp .neq 25 (.iface 119 (.pointer (some (E 102)))) .nilIface).run Tryd.prog w = .ok (.bool true) w := fun w => by kernel_rfl
    go_enter Tryd.func5, Tryd.ntmps5
    go_wp2_with (first | (go_at_call 22; refine (first4_any _ _ _ H).mono ?_; rintro e_ w_ ⟨rfl, HN⟩; clear H; have H := HN; clear HN) | (go_at_call 23; refine (fixed_outR E _ _ _ hE x h H).mono ?_; rintro e_ w_ ⟨rfl, HN⟩; clear H; have H := HN; clear HN))
    (go_ret; exact ⟨by first | rfl | (simp; done), H⟩)
  · have n2 : ∀ (w : World), (binOp .neq 25 .nilIface .nilIface).run Tryd.prog w = .ok (.bool false) w := fun w => by kernel_rfl
    obtain ⟨M, S, A, Z, Y, G, f1, f2, m1, m2, hS, hA, hA1, hA2, hY, hG, hz, hz2, hz3, z9⟩ := tells_facts x h1 h2
    have hfx : ∀ (w0 w : World) (L : List Ent) (H : St w0 w L), Calls Tryd.prog 23 #[.float .f64 x] w fun e w' => e = .returned (.tuple #[.int .i64 (M : Int), .int .i64 (S : Int), .nilIface]) ∧ St w0 w' L := fun w0 w L H => by
      have := fixed_any w0 w L x h1 h2 H
      rw [f1, f2] at this
      exact this
    have hcv := conv_if (M : Int) A hA
    have hl1 := ldexp_any A (-(S : Int)) Y (fun w => hY ▸ ldexp_dn A S hA1 hA2 w)
    have hl2 := ldexp_any 4602678819172646912 (-(S : Int)) G (fun w => hG ▸ ldexp_dn 4602678819172646912 S (by decide) (by omega) w)
    have hsub : ∀ w : World, (binOp .sub 22 (.float .f64 Y) (.float .f64 x)).run Tryd.prog w = .ok (.float .f64 Z) w := fun w => run_float_arith w .sub 22 .f64 Y x Z hz
    have w1 : wrap64 (-(S : Int)) = -(S : Int) := hw64 _ (by omega) (by omega)
    have y1 : decide ((1073741824 : Int) ≤ (M : Int)) = true := decide_eq_true (by omega)
    have y2 : decide ((M : Int) ≤ 2147483647) = true := decide_eq_true (by omega)
    have y3 : decide ((0 : Int) ≤ (S : Int)) = true := decide_eq_true (by omega)
    have y4 : decide ((S : Int) ≤ 60) = true := decide_eq_true (by omega)
    clear f1 f2 hA hz hA1 hA2 h1 h2 hY hG
    go_enter Tryd.func5, Tryd.ntmps5
    go_wp2_with (first | (go_at_call 22; refine (first4_any _ _ _ H).mono ?_; rintro e_ w_ ⟨rfl, HN⟩; clear H; have H := HN; clear HN) | (go_at_call 23; refine (hfx _ _ _ H).mono ?_; rintro e_ w_ ⟨rfl, HN⟩; clear H; have H := HN; clear HN) | (go_at_call 29; (with_reducible refine (hl1 _).mono ?_); rintro e_ w_ ⟨rfl, rfl⟩; ) | (go_at_call 29; (with_reducible refine (hl2 _).mono ?_); rintro e_ w_ ⟨rfl, rfl⟩; ) | (go_at_call 30; (with_reducible refine (abs_any Z hz2 _).mono ?_); rintro e_ w_ ⟨rfl, rfl⟩; ))
    (go_ret; exact ⟨by first | rfl | (simp; done), H⟩)
end Go.Proofs.YtcpfangcibilaaaDoor
