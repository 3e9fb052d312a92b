/- Sum of package flt, walked. No condition. -/
import Derived.Test.YtcpfangcibilaaaDoorDz
import Derived.Test.YtcpfangcibilaaaDoorDd
namespace Go.Proofs.YtcpfangcibilaaaDoor
set_option linter.unusedVariables false
set_option linter.unusedSimpArgs false
open Go.RowKit

theorem add_nanH {w0 w : World} {L : List Ent} (H : St w0 w L) (x y : Nat) (h : Ieee.double.add x y = none) : ∃ v, v < 18446744073709551616 ∧ isn v = true ∧ (binOp .add 22 (.float .f64 x) (.float .f64 y)).run Tryd.prog w = .ok (.float .f64 v) w.drew ∧ St w0 w.drew L := by
  have hp : INF = 9218868437227405312 := rfl
  obtain ⟨t, ht⟩ : ∃ t, t = w.tape w.drawn (Question.nanBits .f64 x y) := ⟨_, rfl⟩
  refine ⟨(t % 2) * 2 ^ 63 + 0x7ff0000000000000 + 1 + (t / 2) % (2 ^ 52 - 1), ?_, ?_, ?_, H.drew⟩
  · rw [show 2 ^ 63 = 9223372036854775808 by decide, show 2 ^ 52 - 1 = 4503599627370495 by decide]
    have := Nat.mod_lt (t / 2) (show 0 < 4503599627370495 by decide)
    omega
  · rw [show 2 ^ 63 = 9223372036854775808 by decide, show 2 ^ 52 - 1 = 4503599627370495 by decide]
    have := Nat.mod_lt (t / 2) (show 0 < 4503599627370495 by decide)
    have e : rung (t % 2 * 9223372036854775808 + 9218868437227405312 + 1 + t / 2 % 4503599627370495) = 9218868437227405312 + 1 + t / 2 % 4503599627370495 := by
      unfold rung
      generalize t / 2 % 4503599627370495 = c at *
      have := Nat.mod_lt t (show 0 < 2 by decide)
      generalize t % 2 = b at *
      omega
    unfold isn
    rw [e]
    exact decide_eq_true (by omega)
  · have hf : (Question.nanBits FloatKind.f64 x y).forced = false := rfl
    have hd : FloatKind.f64.format.add x y = none := h
    rw [ht]
    simp [binOp, Op.floatArith, hd, Result.andThen, hf, Question.cut]
set_option maxRecDepth 100000 in
set_option maxHeartbeats 1000000 in
theorem sum_gen (w0 w : World) (L : List Ent) (A : Option Addr) (xs : List Nat) (n k c : Nat) (hn : n = xs.length) (hl : n ≤ 1000000) (hA : Ent.own A (xs.map (.float .f64)) k 22 ∈ L) (P : Nat → Nat → Prop) (h0 : P 0 0)
    (hstep : ∀ j s x, xs[j]? = some x → P j s → (∃ y, Ieee.double.add s x = some y ∧ P (j + 1) y) ∨ (Ieee.double.add s x = none ∧ ∀ y, y < 18446744073709551616 → isn y = true → P (j + 1) y)) (H : St w0 w L) :
    Calls Tryd.prog 45 #[.slice A n c] w fun e w' => ∃ y, e = .returned (.float .f64 y) ∧ P n y ∧ St w0 w' L := by
  replace hstep := Aside.mk hstep
  go_enter Tryd.func45, Tryd.ntmps45
  go_wp2_with (first | ((with_reducible refine wpGate ?_); first | (refine sLoad ?_ ?_ ?Zo ?_ ?Zd ?Zg ?Zs ?_ ?Zx ?_ ?Zv ?_; (case Zo => rfl); (case Zd => rfl); (case Zs => exact Tsc.out); (case Zg => (first | rfl | (go_simp; done) | fail)); (case Zx => rfl); (case Zv => (first | (refine H.cellBlk (cs := ?_) (t := ?_) ?Zm1 ?Zv1; (case Zm1 => (repeat (first | exact mh_ | assumption | apply mt_))); (case Zv1 => (first | rfl | (refine map_ix _ _ _ ?_; first | (with_reducible assumption) | omega | (simp; omega)) | (refine map_ix_app _ _ _ _ ?_; first | (with_reducible assumption) | omega | (simp; omega)) | assumption | (simp; done)))) | (refine (H.rdOwn (xs := ?_) (c := ?_) (e := ?_) ?Zm1).get ?Zv1; (case Zm1 => (repeat (first | exact mh_ | assumption | apply mt_))); (case Zv1 => (first | rfl | (refine map_ix _ _ _ ?_; first | (with_reducible assumption) | omega | (simp; omega)) | (refine map_ix_app _ _ _ _ ?_; first | (with_reducible assumption) | omega | (simp; omega)) | assumption | (simp; done)))) | (refine (H.rdRo (xs := ?_) ?Zm1).get ?Zv1; (case Zm1 => (repeat (first | exact mh_ | assumption | apply mt_))); (case Zv1 => (first | rfl | (refine map_ix _ _ _ ?_; first | (with_reducible assumption) | omega | (simp; omega)) | (refine map_ix_app _ _ _ _ ?_; first | (with_reducible assumption) | omega | (simp; omega)) | assumption | (simp; done)))) | (refine H.cellOld ?Zm1; (case Zm1 => assumption)) | fail)); try simp only [q_1, q_2, q_3, q_4]) | (refine sIndex ?_ ?_ ?_ ?_ ?Zo ?_ ?Zd ?Zg ?Zt ?Zs ?_ ?_ ?_ ?Zx ?_ ?_ ?Zi ?_ ?Zr ?Z0 ?Z1 ?Zn ?_ ?Zj ?_; (case Zo => rfl); (case Zd => rfl); (case Zt => exact Tun.out); (case Zs => kernel_rfl); (case Zg => (first | rfl | (go_simp; done) | fail)); (case Zx => rfl); (case Zi => rfl); (case Zr => (first | (refine H.rdOwn (c := ?_) (e := ?_) ?Zm1; (case Zm1 => (repeat (first | exact mh_ | assumption | apply mt_)))) | (refine H.rdRo ?Zm1; (case Zm1 => (repeat (first | exact mh_ | assumption | apply mt_)))) | (refine H.rdBlk (t := ?_) ?Zm1; (case Zm1 => (repeat (first | exact mh_ | assumption | apply mt_)))) | exact Rd.none _ _ | fail)); (case Z0 => (first | (with_reducible assumption) | omega | (simp; omega) | (simp; done) | fail)); (case Z1 => (first | (with_reducible assumption) | omega | (simp; omega) | (simp; done) | fail)); (case Zn => (first | (with_reducible assumption) | omega | (simp; omega) | (simp; done) | fail)); (case Zj => first | (go_bits; rfl) | rfl | fail); try simp only [q_1, q_2, q_3, q_4])))
  go_loopw [8, 3, 5] (fun i s _ w2_ => ∃ j v : Nat, j ≤ n ∧ i = .int .i64 j ∧ s = .float .f64 v ∧ Aside (P j v) ∧ St w0 w2_ L) (fun i _ _ _ => n - (intOf i).toNat)
  case atStart => exact ⟨0, 0, by omega, rfl, rfl, ⟨h0⟩, H⟩
  case round =>
    clear H h0
    obtain ⟨j, v, hj, rfl, rfl, hP, H⟩ := hrel
    by_cases hjn : j < n
    · have z1 : decide ((j : Int) < (n : Int)) = true := decide_eq_true (by omega)
      have z1n : decide (j < n) = true := decide_eq_true hjn
      obtain ⟨x, hx⟩ : ∃ x, xs[j]? = some x := ⟨xs[j], List.getElem?_eq_getElem (by omega)⟩
      have hv : (xs.map (Value.float .f64))[j]? = some (.float .f64 x) := by rw [List.getElem?_map, hx]; rfl
      have hlen : (xs.map (Value.float .f64)).length = n := by rw [List.length_map, hn]
      rcases hstep.out j v x hx hP.out with ⟨y, hy, hy2⟩ | ⟨hy, hy2⟩
      · have hadd : ∀ w : World, (binOp .add 22 (.float .f64 v) (.float .f64 x)).run Tryd.prog w = .ok (.float .f64 y) w := fun w => run_float_arith w .add 22 .f64 v x y hy
        replace hy2 := Aside.mk hy2
        clear hy hP hx
        go_wp2_with (first | ((with_reducible refine wpGate ?_); first | (refine sLoad ?_ ?_ ?Zo ?_ ?Zd ?Zg ?Zs ?_ ?Zx ?_ ?Zv ?_; (case Zo => rfl); (case Zd => rfl); (case Zs => exact Tsc.out); (case Zg => (first | rfl | (go_simp; done) | fail)); (case Zx => rfl); (case Zv => (first | (refine H.cellBlk (cs := ?_) (t := ?_) ?Zm1 ?Zv1; (case Zm1 => (repeat (first | exact mh_ | assumption | apply mt_))); (case Zv1 => (first | rfl | (refine map_ix _ _ _ ?_; first | (with_reducible assumption) | omega | (simp; omega)) | (refine map_ix_app _ _ _ _ ?_; first | (with_reducible assumption) | omega | (simp; omega)) | assumption | (simp; done)))) | (refine (H.rdOwn (xs := ?_) (c := ?_) (e := ?_) ?Zm1).get ?Zv1; (case Zm1 => (repeat (first | exact mh_ | assumption | apply mt_))); (case Zv1 => (first | rfl | (refine map_ix _ _ _ ?_; first | (with_reducible assumption) | omega | (simp; omega)) | (refine map_ix_app _ _ _ _ ?_; first | (with_reducible assumption) | omega | (simp; omega)) | assumption | (simp; done)))) | (refine (H.rdRo (xs := ?_) ?Zm1).get ?Zv1; (case Zm1 => (repeat (first | exact mh_ | assumption | apply mt_))); (case Zv1 => (first | rfl | (refine map_ix _ _ _ ?_; first | (with_reducible assumption) | omega | (simp; omega)) | (refine map_ix_app _ _ _ _ ?_; first | (with_reducible assumption) | omega | (simp; omega)) | assumption | (simp; done)))) | (refine H.cellOld ?Zm1; (case Zm1 => assumption)) | fail)); try simp only [q_1, q_2, q_3, q_4]) | (refine sIndex ?_ ?_ ?_ ?_ ?Zo ?_ ?Zd ?Zg ?Zt ?Zs ?_ ?_ ?_ ?Zx ?_ ?_ ?Zi ?_ ?Zr ?Z0 ?Z1 ?Zn ?_ ?Zj ?_; (case Zo => rfl); (case Zd => rfl); (case Zt => exact Tun.out); (case Zs => kernel_rfl); (case Zg => (first | rfl | (go_simp; done) | fail)); (case Zx => rfl); (case Zi => rfl); (case Zr => (first | (refine H.rdOwn (c := ?_) (e := ?_) ?Zm1; (case Zm1 => (repeat (first | exact mh_ | assumption | apply mt_)))) | (refine H.rdRo ?Zm1; (case Zm1 => (repeat (first | exact mh_ | assumption | apply mt_)))) | (refine H.rdBlk (t := ?_) ?Zm1; (case Zm1 => (repeat (first | exact mh_ | assumption | apply mt_)))) | exact Rd.none _ _ | fail)); (case Z0 => (first | (with_reducible assumption) | omega | (simp; omega) | (simp; done) | fail)); (case Z1 => (first | (with_reducible assumption) | omega | (simp; omega) | (simp; done) | fail)); (case Zn => (first | (with_reducible assumption) | omega | (simp; omega) | (simp; done) | fail)); (case Zj => first | (go_bits; rfl) | rfl | fail); try simp only [q_1, q_2, q_3, q_4])))
        go_roundw
        case rel => exact ⟨j + 1, y, by omega, by go_num, rfl, hy2, H⟩
        case measure => simp [intOf]; omega
      · obtain ⟨y, hl1, hl2, hrun, HN⟩ := add_nanH H v x hy
        have hy3 := Aside.mk (hy2 y hl1 hl2)
        clear hy hP hx hy2
        go_wp2_with (first | ((with_reducible refine wpGate ?_); first | (refine sLoad ?_ ?_ ?Zo ?_ ?Zd ?Zg ?Zs ?_ ?Zx ?_ ?Zv ?_; (case Zo => rfl); (case Zd => rfl); (case Zs => exact Tsc.out); (case Zg => (first | rfl | (go_simp; done) | fail)); (case Zx => rfl); (case Zv => (first | (refine H.cellBlk (cs := ?_) (t := ?_) ?Zm1 ?Zv1; (case Zm1 => (repeat (first | exact mh_ | assumption | apply mt_))); (case Zv1 => (first | rfl | (refine map_ix _ _ _ ?_; first | (with_reducible assumption) | omega | (simp; omega)) | (refine map_ix_app _ _ _ _ ?_; first | (with_reducible assumption) | omega | (simp; omega)) | assumption | (simp; done)))) | (refine (H.rdOwn (xs := ?_) (c := ?_) (e := ?_) ?Zm1).get ?Zv1; (case Zm1 => (repeat (first | exact mh_ | assumption | apply mt_))); (case Zv1 => (first | rfl | (refine map_ix _ _ _ ?_; first | (with_reducible assumption) | omega | (simp; omega)) | (refine map_ix_app _ _ _ _ ?_; first | (with_reducible assumption) | omega | (simp; omega)) | assumption | (simp; done)))) | (refine (H.rdRo (xs := ?_) ?Zm1).get ?Zv1; (case Zm1 => (repeat (first | exact mh_ | assumption | apply mt_))); (case Zv1 => (first | rfl | (refine map_ix _ _ _ ?_; first | (with_reducible assumption) | omega | (simp; omega)) | (refine map_ix_app _ _ _ _ ?_; first | (with_reducible assumption) | omega | (simp; omega)) | assumption | (simp; done)))) | (refine H.cellOld ?Zm1; (case Zm1 => assumption)) | fail)); try simp only [q_1, q_2, q_3, q_4]) | (refine sIndex ?_ ?_ ?_ ?_ ?Zo ?_ ?Zd ?Zg ?Zt ?Zs ?_ ?_ ?_ ?Zx ?_ ?_ ?Zi ?_ ?Zr ?Z0 ?Z1 ?Zn ?_ ?Zj ?_; (case Zo => rfl); (case Zd => rfl); (case Zt => exact Tun.out); (case Zs => kernel_rfl); (case Zg => (first | rfl | (go_simp; done) | fail)); (case Zx => rfl); (case Zi => rfl); (case Zr => (first | (refine H.rdOwn (c := ?_) (e := ?_) ?Zm1; (case Zm1 => (repeat (first | exact mh_ | assumption | apply mt_)))) | (refine H.rdRo ?Zm1; (case Zm1 => (repeat (first | exact mh_ | assumption | apply mt_)))) | (refine H.rdBlk (t := ?_) ?Zm1; (case Zm1 => (repeat (first | exact mh_ | assumption | apply mt_)))) | exact Rd.none _ _ | fail)); (case Z0 => (first | (with_reducible assumption) | omega | (simp; omega) | (simp; done) | fail)); (case Z1 => (first | (with_reducible assumption) | omega | (simp; omega) | (simp; done) | fail)); (case Zn => (first | (with_reducible assumption) | omega | (simp; omega) | (simp; done) | fail)); (case Zj => first | (go_bits; rfl) | rfl | fail); try simp only [q_1, q_2, q_3, q_4])))
        go_roundw
        case rel => exact ⟨j + 1, y, by omega, by go_num, rfl, hy3, HN⟩
        case measure => simp [intOf]; omega
    · have z1 : decide ((j : Int) < (n : Int)) = false := decide_eq_false (by omega)
      have z1n : decide (j < n) = false := decide_eq_false hjn
      obtain rfl : j = n := by omega
      go_wp2_with (first | ((with_reducible refine wpGate ?_); first | (refine sLoad ?_ ?_ ?Zo ?_ ?Zd ?Zg ?Zs ?_ ?Zx ?_ ?Zv ?_; (case Zo => rfl); (case Zd => rfl); (case Zs => exact Tsc.out); (case Zg => (first | rfl | (go_simp; done) | fail)); (case Zx => rfl); (case Zv => (first | (refine H.cellBlk (cs := ?_) (t := ?_) ?Zm1 ?Zv1; (case Zm1 => (repeat (first | exact mh_ | assumption | apply mt_))); (case Zv1 => (first | rfl | (refine map_ix _ _ _ ?_; first | (with_reducible assumption) | omega | (simp; omega)) | (refine map_ix_app _ _ _ _ ?_; first | (with_reducible assumption) | omega | (simp; omega)) | assumption | (simp; done)))) | (refine (H.rdOwn (xs := ?_) (c := ?_) (e := ?_) ?Zm1).get ?Zv1; (case Zm1 => (repeat (first | exact mh_ | assumption | apply mt_))); (case Zv1 => (first | rfl | (refine map_ix _ _ _ ?_; first | (with_reducible assumption) | omega | (simp; omega)) | (refine map_ix_app _ _ _ _ ?_; first | (with_reducible assumption) | omega | (simp; omega)) | assumption | (simp; done)))) | (refine (H.rdRo (xs := ?_) ?Zm1).get ?Zv1; (case Zm1 => (repeat (first | exact mh_ | assumption | apply mt_))); (case Zv1 => (first | rfl | (refine map_ix _ _ _ ?_; first | (with_reducible assumption) | omega | (simp; omega)) | (refine map_ix_app _ _ _ _ ?_; first | (with_reducible assumption) | omega | (simp; omega)) | assumption | (simp; done)))) | (refine H.cellOld ?Zm1; (case Zm1 => assumption)) | fail)); try simp only [q_1, q_2, q_3, q_4]) | (refine sIndex ?_ ?_ ?_ ?_ ?Zo ?_ ?Zd ?Zg ?Zt ?Zs ?_ ?_ ?_ ?Zx ?_ ?_ ?Zi ?_ ?Zr ?Z0 ?Z1 ?Zn ?_ ?Zj ?_; (case Zo => rfl); (case Zd => rfl); (case Zt => exact Tun.out); (case Zs => kernel_rfl); (case Zg => (first | rfl | (go_simp; done) | fail)); (case Zx => rfl); (case Zi => rfl); (case Zr => (first | (refine H.rdOwn (c := ?_) (e := ?_) ?Zm1; (case Zm1 => (repeat (first | exact mh_ | assumption | apply mt_)))) | (refine H.rdRo ?Zm1; (case Zm1 => (repeat (first | exact mh_ | assumption | apply mt_)))) | (refine H.rdBlk (t := ?_) ?Zm1; (case Zm1 => (repeat (first | exact mh_ | assumption | apply mt_)))) | exact Rd.none _ _ | fail)); (case Z0 => (first | (with_reducible assumption) | omega | (simp; omega) | (simp; done) | fail)); (case Z1 => (first | (with_reducible assumption) | omega | (simp; omega) | (simp; done) | fail)); (case Zn => (first | (with_reducible assumption) | omega | (simp; omega) | (simp; done) | fail)); (case Zj => first | (go_bits; rfl) | rfl | fail); try simp only [q_1, q_2, q_3, q_4])))
      (go_ret; exact ⟨_, rfl, hP.out, H⟩)

set_option maxRecDepth 100000 in
set_option maxHeartbeats 1000000 in
theorem most_gen (w0 w : World) (L : List Ent) (A : Option Addr) (xs : List Nat) (n k c x0 : Nat) (hn : n = xs.length) (hl : n ≤ 1000000) (hx0 : xs[0]? = some x0) (hA : Ent.own A (xs.map (.float .f64)) k 22 ∈ L) (hb : ∀ (j x : Nat), xs[j]? = some x → x < 18446744073709551616) (P : Nat → Nat → Prop) (h0 : P 0 x0)
    (hstep : ∀ j s x, xs[j]? = some x → P j s → P (j + 1) (if lessW s x then x else s)) (H : St w0 w L) :
    Calls Tryd.prog 48 #[.slice A n c] w fun e w' => ∃ y, e = .returned (.float .f64 y) ∧ P n y ∧ St w0 w' L := by
  have hn0 : 0 < n := by
    rcases Nat.eq_zero_or_pos n with h | h
    · rw [List.getElem?_eq_none (by omega)] at hx0; cases hx0
    · exact h
  have hv0 : (xs.map (Value.float .f64))[0]? = some (.float .f64 x0) := by rw [List.getElem?_map, hx0]; rfl
  have hb0 := hb 0 x0 hx0
  have hlen : (xs.map (Value.float .f64)).length = n := by rw [List.length_map, hn]
  have y0 : ((n : Int) == 0) = false := by rw [beq_eq_false_iff_ne]; omega
  replace hstep := Aside.mk hstep
  replace hb := Aside.mk hb
  replace hn := Aside.mk hn
  go_enter Tryd.func48, Tryd.ntmps48
  go_wp2_with (first | ((with_reducible refine wpGate ?_); first | (refine sLoad ?_ ?_ ?Zo ?_ ?Zd ?Zg ?Zs ?_ ?Zx ?_ ?Zv ?_; (case Zo => rfl); (case Zd => rfl); (case Zs => exact Tsc.out); (case Zg => (first | rfl | (go_simp; done) | fail)); (case Zx => rfl); (case Zv => (first | (refine H.cellBlk (cs := ?_) (t := ?_) ?Zm1 ?Zv1; (case Zm1 => (repeat (first | exact mh_ | assumption | apply mt_))); (case Zv1 => (first | rfl | (refine map_ix _ _ _ ?_; first | (with_reducible assumption) | omega | (simp; omega)) | (refine map_ix_app _ _ _ _ ?_; first | (with_reducible assumption) | omega | (simp; omega)) | assumption | (simp; done)))) | (refine (H.rdOwn (xs := ?_) (c := ?_) (e := ?_) ?Zm1).get ?Zv1; (case Zm1 => (repeat (first | exact mh_ | assumption | apply mt_))); (case Zv1 => (first | rfl | (refine map_ix _ _ _ ?_; first | (with_reducible assumption) | omega | (simp; omega)) | (refine map_ix_app _ _ _ _ ?_; first | (with_reducible assumption) | omega | (simp; omega)) | assumption | (simp; done)))) | (refine (H.rdRo (xs := ?_) ?Zm1).get ?Zv1; (case Zm1 => (repeat (first | exact mh_ | assumption | apply mt_))); (case Zv1 => (first | rfl | (refine map_ix _ _ _ ?_; first | (with_reducible assumption) | omega | (simp; omega)) | (refine map_ix_app _ _ _ _ ?_; first | (with_reducible assumption) | omega | (simp; omega)) | assumption | (simp; done)))) | (refine H.cellOld ?Zm1; (case Zm1 => assumption)) | fail)); try simp only [q_1, q_2, q_3, q_4]) | (refine sIndex ?_ ?_ ?_ ?_ ?Zo ?_ ?Zd ?Zg ?Zt ?Zs ?_ ?_ ?_ ?Zx ?_ ?_ ?Zi ?_ ?Zr ?Z0 ?Z1 ?Zn ?_ ?Zj ?_; (case Zo => rfl); (case Zd => rfl); (case Zt => exact Tun.out); (case Zs => kernel_rfl); (case Zg => (first | rfl | (go_simp; done) | fail)); (case Zx => rfl); (case Zi => rfl); (case Zr => (first | (refine H.rdOwn (c := ?_) (e := ?_) ?Zm1; (case Zm1 => (repeat (first | exact mh_ | assumption | apply mt_)))) | (refine H.rdRo ?Zm1; (case Zm1 => (repeat (first | exact mh_ | assumption | apply mt_)))) | (refine H.rdBlk (t := ?_) ?Zm1; (case Zm1 => (repeat (first | exact mh_ | assumption | apply mt_)))) | exact Rd.none _ _ | fail)); (case Z0 => (first | (with_reducible assumption) | omega | (simp; omega) | (simp; done) | fail)); (case Z1 => (first | (with_reducible assumption) | omega | (simp; omega) | (simp; done) | fail)); (case Zn => (first | (with_reducible assumption) | omega | (simp; omega) | (simp; done) | fail)); (case Zj => first | (go_bits; rfl) | rfl | fail); try simp only [q_1, q_2, q_3, q_4])))
  go_loopw [15, 3, 5] (fun i s _ w2_ => ∃ j v : Nat, j ≤ n ∧ i = .int .i64 j ∧ s = .float .f64 v ∧ v < 18446744073709551616 ∧ Aside (P j v) ∧ St w0 w2_ L) (fun i _ _ _ => n - (intOf i).toNat)
  case atStart => exact ⟨0, x0, by omega, rfl, rfl, hb0, ⟨h0⟩, H⟩
  case round =>
    clear H h0 hv0 hx0
    obtain ⟨j, v, hj, rfl, rfl, hvl, hP, H⟩ := hrel
    by_cases hjn : j < n
    · have z1 : decide ((j : Int) < (n : Int)) = true := decide_eq_true (by omega)
      have z1n : decide (j < n) = true := decide_eq_true hjn
      obtain ⟨x, hx⟩ : ∃ x, xs[j]? = some x := ⟨xs[j]'(by have := hn.out; omega), List.getElem?_eq_getElem _⟩
      have hv : (xs.map (Value.float .f64))[j]? = some (.float .f64 x) := by rw [List.getElem?_map, hx]; rfl
      have hxl := hb.out j x hx
      have hl := less_any v x hvl hxl
      have hst := Aside.mk (hstep.out j v x hx hP.out)
      cases he : lessW v x
      · rw [he] at hl hst
        clear hP hx he
        go_wp2_with (first | (go_at_call 43; (with_reducible refine (hl _).mono ?_); rintro e_ w_ ⟨rfl, rfl⟩; ) | ((with_reducible refine wpGate ?_); first | (refine sLoad ?_ ?_ ?Zo ?_ ?Zd ?Zg ?Zs ?_ ?Zx ?_ ?Zv ?_; (case Zo => rfl); (case Zd => rfl); (case Zs => exact Tsc.out); (case Zg => (first | rfl | (go_simp; done) | fail)); (case Zx => rfl); (case Zv => (first | (refine H.cellBlk (cs := ?_) (t := ?_) ?Zm1 ?Zv1; (case Zm1 => (repeat (first | exact mh_ | assumption | apply mt_))); (case Zv1 => (first | rfl | (refine map_ix _ _ _ ?_; first | (with_reducible assumption) | omega | (simp; omega)) | (refine map_ix_app _ _ _ _ ?_; first | (with_reducible assumption) | omega | (simp; omega)) | assumption | (simp; done)))) | (refine (H.rdOwn (xs := ?_) (c := ?_) (e := ?_) ?Zm1).get ?Zv1; (case Zm1 => (repeat (first | exact mh_ | assumption | apply mt_))); (case Zv1 => (first | rfl | (refine map_ix _ _ _ ?_; first | (with_reducible assumption) | omega | (simp; omega)) | (refine map_ix_app _ _ _ _ ?_; first | (with_reducible assumption) | omega | (simp; omega)) | assumption | (simp; done)))) | (refine (H.rdRo (xs := ?_) ?Zm1).get ?Zv1; (case Zm1 => (repeat (first | exact mh_ | assumption | apply mt_))); (case Zv1 => (first | rfl | (refine map_ix _ _ _ ?_; first | (with_reducible assumption) | omega | (simp; omega)) | (refine map_ix_app _ _ _ _ ?_; first | (with_reducible assumption) | omega | (simp; omega)) | assumption | (simp; done)))) | (refine H.cellOld ?Zm1; (case Zm1 => assumption)) | fail)); try simp only [q_1, q_2, q_3, q_4]) | (refine sIndex ?_ ?_ ?_ ?_ ?Zo ?_ ?Zd ?Zg ?Zt ?Zs ?_ ?_ ?_ ?Zx ?_ ?_ ?Zi ?_ ?Zr ?Z0 ?Z1 ?Zn ?_ ?Zj ?_; (case Zo => rfl); (case Zd => rfl); (case Zt => exact Tun.out); (case Zs => kernel_rfl); (case Zg => (first | rfl | (go_simp; done) | fail)); (case Zx => rfl); (case Zi => rfl); (case Zr => (first | (refine H.rdOwn (c := ?_) (e := ?_) ?Zm1; (case Zm1 => (repeat (first | exact mh_ | assumption | apply mt_)))) | (refine H.rdRo ?Zm1; (case Zm1 => (repeat (first | exact mh_ | assumption | apply mt_)))) | (refine H.rdBlk (t := ?_) ?Zm1; (case Zm1 => (repeat (first | exact mh_ | assumption | apply mt_)))) | exact Rd.none _ _ | fail)); (case Z0 => (first | (with_reducible assumption) | omega | (simp; omega) | (simp; done) | fail)); (case Z1 => (first | (with_reducible assumption) | omega | (simp; omega) | (simp; done) | fail)); (case Zn => (first | (with_reducible assumption) | omega | (simp; omega) | (simp; done) | fail)); (case Zj => first | (go_bits; rfl) | rfl | fail); try simp only [q_1, q_2, q_3, q_4])))
        go_roundw
        case rel => exact ⟨j + 1, v, by omega, by go_num, rfl, hvl, hst, H⟩
        case measure => simp [intOf]; omega
      · rw [he] at hl hst
        clear hP hx he
        go_wp2_with (first | (go_at_call 43; (with_reducible refine (hl _).mono ?_); rintro e_ w_ ⟨rfl, rfl⟩; ) | ((with_reducible refine wpGate ?_); first | (refine sLoad ?_ ?_ ?Zo ?_ ?Zd ?Zg ?Zs ?_ ?Zx ?_ ?Zv ?_; (case Zo => rfl); (case Zd => rfl); (case Zs => exact Tsc.out); (case Zg => (first | rfl | (go_simp; done) | fail)); (case Zx => rfl); (case Zv => (first | (refine H.cellBlk (cs := ?_) (t := ?_) ?Zm1 ?Zv1; (case Zm1 => (repeat (first | exact mh_ | assumption | apply mt_))); (case Zv1 => (first | rfl | (refine map_ix _ _ _ ?_; first | (with_reducible assumption) | omega | (simp; omega)) | (refine map_ix_app _ _ _ _ ?_; first | (with_reducible assumption) | omega | (simp; omega)) | assumption | (simp; done)))) | (refine (H.rdOwn (xs := ?_) (c := ?_) (e := ?_) ?Zm1).get ?Zv1; (case Zm1 => (repeat (first | exact mh_ | assumption | apply mt_))); (case Zv1 => (first | rfl | (refine map_ix _ _ _ ?_; first | (with_reducible assumption) | omega | (simp; omega)) | (refine map_ix_app _ _ _ _ ?_; first | (with_reducible assumption) | omega | (simp; omega)) | assumption | (simp; done)))) | (refine (H.rdRo (xs := ?_) ?Zm1).get ?Zv1; (case Zm1 => (repeat (first | exact mh_ | assumption | apply mt_))); (case Zv1 => (first | rfl | (refine map_ix _ _ _ ?_; first | (with_reducible assumption) | omega | (simp; omega)) | (refine map_ix_app _ _ _ _ ?_; first | (with_reducible assumption) | omega | (simp; omega)) | assumption | (simp; done)))) | (refine H.cellOld ?Zm1; (case Zm1 => assumption)) | fail)); try simp only [q_1, q_2, q_3, q_4]) | (refine sIndex ?_ ?_ ?_ ?_ ?Zo ?_ ?Zd ?Zg ?Zt ?Zs ?_ ?_ ?_ ?Zx ?_ ?_ ?Zi ?_ ?Zr ?Z0 ?Z1 ?Zn ?_ ?Zj ?_; (case Zo => rfl); (case Zd => rfl); (case Zt => exact Tun.out); (case Zs => kernel_rfl); (case Zg => (first | rfl | (go_simp; done) | fail)); (case Zx => rfl); (case Zi => rfl); (case Zr => (first | (refine H.rdOwn (c := ?_) (e := ?_) ?Zm1; (case Zm1 => (repeat (first | exact mh_ | assumption | apply mt_)))) | (refine H.rdRo ?Zm1; (case Zm1 => (repeat (first | exact mh_ | assumption | apply mt_)))) | (refine H.rdBlk (t := ?_) ?Zm1; (case Zm1 => (repeat (first | exact mh_ | assumption | apply mt_)))) | exact Rd.none _ _ | fail)); (case Z0 => (first | (with_reducible assumption) | omega | (simp; omega) | (simp; done) | fail)); (case Z1 => (first | (with_reducible assumption) | omega | (simp; omega) | (simp; done) | fail)); (case Zn => (first | (with_reducible assumption) | omega | (simp; omega) | (simp; done) | fail)); (case Zj => first | (go_bits; rfl) | rfl | fail); try simp only [q_1, q_2, q_3, q_4])))
        go_roundw
        case rel => exact ⟨j + 1, x, by omega, by go_num, rfl, hxl, hst, H⟩
        case measure => simp [intOf]; omega
    · have z1 : decide ((j : Int) < (n : Int)) = false := decide_eq_false (by omega)
      have z1n : decide (j < n) = false := decide_eq_false hjn
      obtain rfl : j = n := by omega
      go_wp2_with (first | ((with_reducible refine wpGate ?_); first | (refine sLoad ?_ ?_ ?Zo ?_ ?Zd ?Zg ?Zs ?_ ?Zx ?_ ?Zv ?_; (case Zo => rfl); (case Zd => rfl); (case Zs => exact Tsc.out); (case Zg => (first | rfl | (go_simp; done) | fail)); (case Zx => rfl); (case Zv => (first | (refine H.cellBlk (cs := ?_) (t := ?_) ?Zm1 ?Zv1; (case Zm1 => (repeat (first | exact mh_ | assumption | apply mt_))); (case Zv1 => (first | rfl | (refine map_ix _ _ _ ?_; first | (with_reducible assumption) | omega | (simp; omega)) | (refine map_ix_app _ _ _ _ ?_; first | (with_reducible assumption) | omega | (simp; omega)) | assumption | (simp; done)))) | (refine (H.rdOwn (xs := ?_) (c := ?_) (e := ?_) ?Zm1).get ?Zv1; (case Zm1 => (repeat (first | exact mh_ | assumption | apply mt_))); (case Zv1 => (first | rfl | (refine map_ix _ _ _ ?_; first | (with_reducible assumption) | omega | (simp; omega)) | (refine map_ix_app _ _ _ _ ?_; first | (with_reducible assumption) | omega | (simp; omega)) | assumption | (simp; done)))) | (refine (H.rdRo (xs := ?_) ?Zm1).get ?Zv1; (case Zm1 => (repeat (first | exact mh_ | assumption | apply mt_))); (case Zv1 => (first | rfl | (refine map_ix _ _ _ ?_; first | (with_reducible assumption) | omega | (simp; omega)) | (refine map_ix_app _ _ _ _ ?_; first | (with_reducible assumption) | omega | (simp; omega)) | assumption | (simp; done)))) | (refine H.cellOld ?Zm1; (case Zm1 => assumption)) | fail)); try simp only [q_1, q_2, q_3, q_4]) | (refine sIndex ?_ ?_ ?_ ?_ ?Zo ?_ ?Zd ?Zg ?Zt ?Zs ?_ ?_ ?_ ?Zx ?_ ?_ ?Zi ?_ ?Zr ?Z0 ?Z1 ?Zn ?_ ?Zj ?_; (case Zo => rfl); (case Zd => rfl); (case Zt => exact Tun.out); (case Zs => kernel_rfl); (case Zg => (first | rfl | (go_simp; done) | fail)); (case Zx => rfl); (case Zi => rfl); (case Zr => (first | (refine H.rdOwn (c := ?_) (e := ?_) ?Zm1; (case Zm1 => (repeat (first | exact mh_ | assumption | apply mt_)))) | (refine H.rdRo ?Zm1; (case Zm1 => (repeat (first | exact mh_ | assumption | apply mt_)))) | (refine H.rdBlk (t := ?_) ?Zm1; (case Zm1 => (repeat (first | exact mh_ | assumption | apply mt_)))) | exact Rd.none _ _ | fail)); (case Z0 => (first | (with_reducible assumption) | omega | (simp; omega) | (simp; done) | fail)); (case Z1 => (first | (with_reducible assumption) | omega | (simp; omega) | (simp; done) | fail)); (case Zn => (first | (with_reducible assumption) | omega | (simp; omega) | (simp; done) | fail)); (case Zj => first | (go_bits; rfl) | rfl | fail); try simp only [q_1, q_2, q_3, q_4])))
      (go_ret; exact ⟨_, rfl, hP.out, H⟩)
/-- What is added up, word by word. -/
def fw (n : Int) : Nat := FloatKind.f64.nearest n
theorem fw_whl (n : Int) (h : n.natAbs ≤ 9007199254740992) : Whl (fw n) n ∧ fw n < 18446744073709551616 := by
  obtain ⟨z, h1, h2, h3, _⟩ := ofInt_whl n h
  unfold fw
  rw [h1]
  exact ⟨h3, h2⟩
theorem whl_add {x y : Nat} {a b : Int} (hx : Whl x a) (hy : Whl y b) (h : (a + b).natAbs ≤ 9007199254740992) : ∃ z, Ieee.double.add x y = some z ∧ Whl z (a + b) := by
  obtain ⟨K, hK⟩ : ∃ K, K = 1074 := ⟨_, rfl⟩
  have x2 := hx.2
  have y2 := hy.2
  rw [← hK] at x2 y2
  obtain ⟨z, z1, _, z3, z4, _⟩ := add_dy K hx.1 hy.1 x2 y2 h (small_lt_inf _ _ h (by omega))
  rw [hK] at z4
  exact ⟨z, z1, z3, z4⟩
theorem add_nanL (x : Nat) {y : Nat} (h : isn y = true) : Ieee.double.add x y = none := by
  unfold Ieee.Format.add
  rw [read_nan (isn_true h)]
  cases Ieee.double.read x <;> rfl
theorem add_nanR {x : Nat} (y : Nat) (h : isn x = true) : Ieee.double.add x y = none := by
  unfold Ieee.Format.add
  rw [read_nan (isn_true h)]
  rfl
theorem add_infL {x : Nat} (h : rung x < INF) : Ieee.double.add x 9218868437227405312 = some 9218868437227405312 := by
  obtain ⟨m, p, e1, _, _⟩ := read_fin h
  unfold Ieee.Format.add
  rw [e1, read_inf (show rung 9218868437227405312 = INF by decide), show sgn 9218868437227405312 = false by decide]
  simp only [Ieee.Datum.sum, Option.map_some, Ieee.Format.write, dbl_inf]
  rw [word_eq]; rfl
theorem add_infR {y : Nat} (h : rung y < INF) : Ieee.double.add 9218868437227405312 y = some 9218868437227405312 := by
  obtain ⟨m, p, e1, _, _⟩ := read_fin h
  unfold Ieee.Format.add
  rw [e1, read_inf (show rung 9218868437227405312 = INF by decide), show sgn 9218868437227405312 = false by decide]
  simp only [Ieee.Datum.sum, Option.map_some, Ieee.Format.write, dbl_inf]
  rw [word_eq]; rfl
end Go.Proofs.YtcpfangcibilaaaDoor
