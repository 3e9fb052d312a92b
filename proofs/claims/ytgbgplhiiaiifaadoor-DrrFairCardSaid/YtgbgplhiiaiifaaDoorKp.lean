/- DrrFair: two that have work all the while; sums. No condition. -/
import Derived.Test.YtgbgplhiiaiifaaDoorKk
namespace Go.Proofs.YtgbgplhiiaiifaaDoor
set_option linter.unusedVariables false
set_option linter.unusedSimpArgs false
open Go.RowKit

theorem take_more {α : Type} (xs : List α) (j : Nat) (d : α) (h : xs[j]? = some d) : xs.take (j + 1) = xs.take j ++ [d] := by
  rw [List.take_add_one, h]; rfl
set_option maxRecDepth 100000 in
theorem sum_any (w0 w : World) (L : List Ent) (A : Option Addr) (l : List Int) (n k c : Nat) (hn : n = l.length) (hm : Ent.own A (l.map (.int .i64)) k 3 ∈ L) (hb : ∀ c, c ∈ l → 1 ≤ c ∧ c ≤ 1024) (hl : n ≤ 1000000) (H : St w0 w L) :
    Calls Tryd.prog 15 #[.slice A n c] w fun e w' => e = .returned (.int .i64 l.sum) ∧ St w0 w' L := by
  subst hn
  go_enter Tryd.func15, Tryd.ntmps15
  go_wp2_with (first | go_skip | ((with_reducible refine wpGate ?_); first | (refine sLoad ?_ ?_ ?Zo ?_ ?Zd ?Zg ?Zs ?_ ?Zx ?_ ?Zv ?_; (case Zo => rfl); (case Zd => rfl); (case Zs => exact Tsc.out); (case Zg => (first | rfl | (go_simp; done) | fail)); (case Zx => rfl); (case Zv => (first | (refine H.cellBlk (cs := ?_) (t := ?_) ?Zm1 ?Zv1; (case Zm1 => (repeat (first | exact mh_ | assumption | apply mt_))); (case Zv1 => (first | rfl | (refine map_ix _ _ _ ?_; first | (with_reducible assumption) | omega | (simp; omega)) | (refine map_ix_app _ _ _ _ ?_; first | (with_reducible assumption) | omega | (simp; omega)) | assumption | (simp; done)))) | (refine (H.rdOwn (xs := ?_) (c := ?_) (e := ?_) ?Zm1).get ?Zv1; (case Zm1 => (repeat (first | exact mh_ | assumption | apply mt_))); (case Zv1 => (first | rfl | (refine map_ix _ _ _ ?_; first | (with_reducible assumption) | omega | (simp; omega)) | (refine map_ix_app _ _ _ _ ?_; first | (with_reducible assumption) | omega | (simp; omega)) | assumption | (simp; done)))) | (refine (H.rdRo (xs := ?_) ?Zm1).get ?Zv1; (case Zm1 => (repeat (first | exact mh_ | assumption | apply mt_))); (case Zv1 => (first | rfl | (refine map_ix _ _ _ ?_; first | (with_reducible assumption) | omega | (simp; omega)) | (refine map_ix_app _ _ _ _ ?_; first | (with_reducible assumption) | omega | (simp; omega)) | assumption | (simp; done)))) | (refine H.cellOld ?Zm1; (case Zm1 => assumption)) | fail)); try simp only [q_1, q_2, q_3, q_4]) | (refine sIndex ?_ ?_ ?_ ?_ ?Zo ?_ ?Zd ?Zg ?Zt ?Zs ?_ ?_ ?_ ?Zx ?_ ?_ ?Zi ?_ ?Zr ?Z0 ?Z1 ?Zn ?_ ?Zj ?_; (case Zo => rfl); (case Zd => rfl); (case Zt => exact Tun.out); (case Zs => kernel_rfl); (case Zg => (first | rfl | (go_simp; done) | fail)); (case Zx => rfl); (case Zi => rfl); (case Zr => (first | (refine H.rdOwn (c := ?_) (e := ?_) ?Zm1; (case Zm1 => (repeat (first | exact mh_ | assumption | apply mt_)))) | (refine H.rdRo ?Zm1; (case Zm1 => (repeat (first | exact mh_ | assumption | apply mt_)))) | (refine H.rdBlk (t := ?_) ?Zm1; (case Zm1 => (repeat (first | exact mh_ | assumption | apply mt_)))) | (with_reducible assumption) | exact Rd.none _ _ | fail)); (case Z0 => (first | (with_reducible assumption) | omega | (simp; omega) | (simp; done) | fail)); (case Z1 => (first | (with_reducible assumption) | omega | (simp; omega) | (simp; done) | fail)); (case Zn => (first | (with_reducible assumption) | omega | (simp; omega) | (simp; done) | fail)); (case Zj => first | (go_bits; rfl) | rfl | fail); try simp only [q_1, q_2, q_3, q_4])))
  go_loopw [4, 3] (fun i s w2_ => ∃ (j : Nat) (S : Int), j ≤ l.length ∧ i = .int .i64 j ∧ s = .int .i64 S ∧ Aside (S = (l.take j).sum) ∧ 0 ≤ S ∧ S ≤ 1024 * (j : Int) ∧ St w0 w2_ L) (fun i _ _ => l.length - (intOf i).toNat)
  case atStart => exact ⟨0, 0, by omega, rfl, rfl, ⟨by simp⟩, by omega, by omega, H⟩
  case round =>
    clear H
    obtain ⟨j, S, hj, rfl, rfl, hS, hS0, hS1, H⟩ := hrel
    by_cases hjn : j < l.length
    · have z1 : decide ((j : Int) < (l.length : Int)) = true := decide_eq_true (by omega)
      have z1n : decide (j < l.length) = true := decide_eq_true hjn
      have hlen : (l.map (Value.int .i64)).length = l.length := List.length_map _
      have hd : l[j]? = some (ix l j) := by simp [ix, hjn]
      have hdb := hb _ (List.mem_of_getElem? hd)
      have ht := Aside.mk (take_more _ _ _ hd)
      clear hd
      go_wp2_with (first | go_skip | ((with_reducible refine wpGate ?_); first | (refine sLoad ?_ ?_ ?Zo ?_ ?Zd ?Zg ?Zs ?_ ?Zx ?_ ?Zv ?_; (case Zo => rfl); (case Zd => rfl); (case Zs => exact Tsc.out); (case Zg => (first | rfl | (go_simp; done) | fail)); (case Zx => rfl); (case Zv => (first | (refine H.cellBlk (cs := ?_) (t := ?_) ?Zm1 ?Zv1; (case Zm1 => (repeat (first | exact mh_ | assumption | apply mt_))); (case Zv1 => (first | rfl | (refine map_ix _ _ _ ?_; first | (with_reducible assumption) | omega | (simp; omega)) | (refine map_ix_app _ _ _ _ ?_; first | (with_reducible assumption) | omega | (simp; omega)) | assumption | (simp; done)))) | (refine (H.rdOwn (xs := ?_) (c := ?_) (e := ?_) ?Zm1).get ?Zv1; (case Zm1 => (repeat (first | exact mh_ | assumption | apply mt_))); (case Zv1 => (first | rfl | (refine map_ix _ _ _ ?_; first | (with_reducible assumption) | omega | (simp; omega)) | (refine map_ix_app _ _ _ _ ?_; first | (with_reducible assumption) | omega | (simp; omega)) | assumption | (simp; done)))) | (refine (H.rdRo (xs := ?_) ?Zm1).get ?Zv1; (case Zm1 => (repeat (first | exact mh_ | assumption | apply mt_))); (case Zv1 => (first | rfl | (refine map_ix _ _ _ ?_; first | (with_reducible assumption) | omega | (simp; omega)) | (refine map_ix_app _ _ _ _ ?_; first | (with_reducible assumption) | omega | (simp; omega)) | assumption | (simp; done)))) | (refine H.cellOld ?Zm1; (case Zm1 => assumption)) | fail)); try simp only [q_1, q_2, q_3, q_4]) | (refine sIndex ?_ ?_ ?_ ?_ ?Zo ?_ ?Zd ?Zg ?Zt ?Zs ?_ ?_ ?_ ?Zx ?_ ?_ ?Zi ?_ ?Zr ?Z0 ?Z1 ?Zn ?_ ?Zj ?_; (case Zo => rfl); (case Zd => rfl); (case Zt => exact Tun.out); (case Zs => kernel_rfl); (case Zg => (first | rfl | (go_simp; done) | fail)); (case Zx => rfl); (case Zi => rfl); (case Zr => (first | (refine H.rdOwn (c := ?_) (e := ?_) ?Zm1; (case Zm1 => (repeat (first | exact mh_ | assumption | apply mt_)))) | (refine H.rdRo ?Zm1; (case Zm1 => (repeat (first | exact mh_ | assumption | apply mt_)))) | (refine H.rdBlk (t := ?_) ?Zm1; (case Zm1 => (repeat (first | exact mh_ | assumption | apply mt_)))) | (with_reducible assumption) | exact Rd.none _ _ | fail)); (case Z0 => (first | (with_reducible assumption) | omega | (simp; omega) | (simp; done) | fail)); (case Z1 => (first | (with_reducible assumption) | omega | (simp; omega) | (simp; done) | fail)); (case Zn => (first | (with_reducible assumption) | omega | (simp; omega) | (simp; done) | fail)); (case Zj => first | (go_bits; rfl) | rfl | fail); try simp only [q_1, q_2, q_3, q_4])))
      go_roundw
      case rel => exact ⟨j + 1, S + ix l j, by omega, by go_num, rfl, ⟨by rw [ht.out, List.sum_append, hS.out]; simp⟩, by omega, by omega, H⟩
      case measure => simp [intOf]; omega
    · have z1 : decide ((j : Int) < (l.length : Int)) = false := decide_eq_false (by omega)
      have z1n : decide (j < l.length) = false := decide_eq_false hjn
      obtain rfl : j = l.length := by omega
      rw [List.take_length] at hS
      have e := hS.out
      subst e
      go_wp2_with (first | go_skip | ((with_reducible refine wpGate ?_); first | (refine sLoad ?_ ?_ ?Zo ?_ ?Zd ?Zg ?Zs ?_ ?Zx ?_ ?Zv ?_; (case Zo => rfl); (case Zd => rfl); (case Zs => exact Tsc.out); (case Zg => (first | rfl | (go_simp; done) | fail)); (case Zx => rfl); (case Zv => (first | (refine H.cellBlk (cs := ?_) (t := ?_) ?Zm1 ?Zv1; (case Zm1 => (repeat (first | exact mh_ | assumption | apply mt_))); (case Zv1 => (first | rfl | (refine map_ix _ _ _ ?_; first | (with_reducible assumption) | omega | (simp; omega)) | (refine map_ix_app _ _ _ _ ?_; first | (with_reducible assumption) | omega | (simp; omega)) | assumption | (simp; done)))) | (refine (H.rdOwn (xs := ?_) (c := ?_) (e := ?_) ?Zm1).get ?Zv1; (case Zm1 => (repeat (first | exact mh_ | assumption | apply mt_))); (case Zv1 => (first | rfl | (refine map_ix _ _ _ ?_; first | (with_reducible assumption) | omega | (simp; omega)) | (refine map_ix_app _ _ _ _ ?_; first | (with_reducible assumption) | omega | (simp; omega)) | assumption | (simp; done)))) | (refine (H.rdRo (xs := ?_) ?Zm1).get ?Zv1; (case Zm1 => (repeat (first | exact mh_ | assumption | apply mt_))); (case Zv1 => (first | rfl | (refine map_ix _ _ _ ?_; first | (with_reducible assumption) | omega | (simp; omega)) | (refine map_ix_app _ _ _ _ ?_; first | (with_reducible assumption) | omega | (simp; omega)) | assumption | (simp; done)))) | (refine H.cellOld ?Zm1; (case Zm1 => assumption)) | fail)); try simp only [q_1, q_2, q_3, q_4]) | (refine sIndex ?_ ?_ ?_ ?_ ?Zo ?_ ?Zd ?Zg ?Zt ?Zs ?_ ?_ ?_ ?Zx ?_ ?_ ?Zi ?_ ?Zr ?Z0 ?Z1 ?Zn ?_ ?Zj ?_; (case Zo => rfl); (case Zd => rfl); (case Zt => exact Tun.out); (case Zs => kernel_rfl); (case Zg => (first | rfl | (go_simp; done) | fail)); (case Zx => rfl); (case Zi => rfl); (case Zr => (first | (refine H.rdOwn (c := ?_) (e := ?_) ?Zm1; (case Zm1 => (repeat (first | exact mh_ | assumption | apply mt_)))) | (refine H.rdRo ?Zm1; (case Zm1 => (repeat (first | exact mh_ | assumption | apply mt_)))) | (refine H.rdBlk (t := ?_) ?Zm1; (case Zm1 => (repeat (first | exact mh_ | assumption | apply mt_)))) | (with_reducible assumption) | exact Rd.none _ _ | fail)); (case Z0 => (first | (with_reducible assumption) | omega | (simp; omega) | (simp; done) | fail)); (case Z1 => (first | (with_reducible assumption) | omega | (simp; omega) | (simp; done) | fail)); (case Zn => (first | (with_reducible assumption) | omega | (simp; omega) | (simp; done) | fail)); (case Zj => first | (go_bits; rfl) | rfl | fail); try simp only [q_1, q_2, q_3, q_4])))
      (go_ret; exact ⟨rfl, H⟩)
theorem Cov.set' {ps : List (Option Pc)} {n : Nat} {P Q : Nat → Pc → Prop} (h : Cov ps n P) (k : Nat) (hk : k < n) (p : Pc) (hp : Q k p) (hPQ : ∀ j q, j < n → j ≠ k → P j q → Q j q) : Cov (ps.set k (some p)) n Q := by
  have hl := h.len
  have hle := h.le
  refine ⟨by rw [List.length_set, hl], h.le, fun j hj => ?_, fun j h1 h2 => ?_⟩
  · by_cases hj2 : j = k
    · subst hj2
      exact ⟨p, by rw [List.getElem?_set_self (by omega)], hp⟩
    · obtain ⟨p', h1, h2⟩ := h.used j hj
      exact ⟨p', by rw [List.getElem?_set_ne (by omega), h1], hPQ j p' hj hj2 h2⟩
  · rw [List.getElem?_set_ne (by omega)]
    exact h.free j h1 h2
theorem sv_le : ∀ (l : List Int) (d : Int), 0 ≤ d → (sv d l).1.sum ≤ d
  | [], d, h => h
  | c :: r, d, h => by
    unfold sv
    split
    · have := sv_le r (d - c) (by omega)
      simp only [List.sum_cons]
      omega
    · exact h
/-- What a place of two is. -/
def FP (P Q ta tb : Int) (j : Nat) (p : Pc) : Prop := Good p ∧ p.q = (if j = 0 then P else Q) ∧ p.s + p.d = (if j = 0 then ta * P else tb * Q) ∧ p.l.sum ≤ 21023
structure FairI (P Q ta tb : Int) (nx : Nat) (ps : List (Option Pc)) : Prop where
  cov : Cov ps 2 (FP P Q ta tb)
  near : (ta = tb ∧ (nx = 0 ∨ nx = 2)) ∨ (ta = tb + 1 ∧ nx = 1)
theorem FairI.full_ok {P Q ta tb : Int} {nx : Nat} {ps : List (Option Pc)} (h : FairI P Q ta tb nx ps) (hf : ∀ (j : Nat) (p : Pc), ps[j]? = some (some p) → 20000 ≤ p.l.sum) (j : Nat) : okK false ps j = decide (j < 2) := by
  by_cases hj : j < 2
  · obtain ⟨p, hp, hF⟩ := h.cov.used j hj
    rw [h.cov.okAt hp (.inr ?_), decide_eq_true hj]
    have := hf j p hp
    rcases Nat.eq_zero_or_pos p.l.length with h0 | h0
    · rw [List.length_eq_zero_iff.1 h0] at this
      simp at this
    · exact h0
  · rw [decide_eq_false hj]
    cases hb : okK false ps j with
    | false => rfl
    | true => exact absurd (h.cov.ok hb).1 hj
theorem FairI.turn {P Q ta tb : Int} {nx : Nat} {ps : List (Option Pc)} (h : FairI P Q ta tb nx ps) (hP : 1024 ≤ P ∧ P ≤ 4023) (hQ : 1024 ≤ Q ∧ Q ≤ 4023) (hf : ∀ (j : Nat) (p : Pc), ps[j]? = some (some p) → 20000 ≤ p.l.sum) :
    ∃ (j : Nat) (p : Pc), j < 2 ∧ ps[j]? = some (some p) ∧ NxtIs nx (okK false ps) j ∧ Good p ∧ 1 ≤ (sv (p.d + p.q) p.l).1.sum ∧ (sv (p.d + p.q) p.l).1.sum ≤ 100000 ∧ ∀ A c, ∃ ta' tb', ta' + tb' = ta + tb + 1 ∧ (tb ≤ tb') ∧ FairI P Q ta' tb' (j + 1) (ps.set j (some (tP p A c))) := by
  have hok := h.full_ok hf
  have h16 := h.cov.len
  have key : ∀ j, j < 2 → ∀ p, ps[j]? = some (some p) → Good p ∧ 1 ≤ (sv (p.d + p.q) p.l).1.sum ∧ (sv (p.d + p.q) p.l).1.sum ≤ 100000 ∧ ∀ A c, (tP p A c).s + (tP p A c).d = p.s + p.d + p.q ∧ (tP p A c).l.sum ≤ 21023 := by
    intro j hj p hp
    obtain ⟨p', hp', hG, hq, ht, hs⟩ := h.cov.used j hj
    rw [hp] at hp'
    obtain rfl := Option.some.inj (Option.some.inj hp')
    have h20 := hf j p hp
    have hqb : 1024 ≤ p.q ∧ p.q ≤ 4023 := by rw [hq]; split <;> assumption
    have hd0 := hG.d0
    have hd1 := hG.d1
    have hle := sv_le p.l (p.d + p.q) (by omega)
    have htot := sv_total p.l (p.d + p.q)
    have hne : (sv (p.d + p.q) p.l).2.1 ≠ [] := fun e => by
      rw [e] at htot
      simp at htot
      omega
    refine ⟨hG, ?_, by omega, fun A c => ⟨tP_kept A c hne, ?_⟩⟩
    · cases hl : p.l with
      | nil => rw [hl] at h20; simp at h20
      | cons x r =>
        have hx := hG.c x (by rw [hl]; exact List.mem_cons_self ..)
        have hr := served_pos (p := { p with d := p.d - x, l := r }) (fun c hc => (hG.c c (by rw [hl]; exact List.mem_cons_of_mem _ hc)).1)
        have hr : 0 ≤ (sv (p.d - x + p.q) r).1.sum := hr
        rw [sv_cons _ _ _ (by omega), List.sum_cons, show p.d + p.q - x = p.d - x + p.q by omega]
        omega
    · have := served_pos (p := p) (fun c hc => (hG.c c hc).1)
      show (sv (p.d + p.q) p.l).2.1.sum ≤ 21023
      omega
  rcases h.near with ⟨e, hn⟩ | ⟨e, rfl⟩
  · obtain ⟨p, hp, hF⟩ := h.cov.used 0 (by omega)
    obtain ⟨k1, k2, k3, k4⟩ := key 0 (by omega) p hp
    refine ⟨0, p, by omega, hp, ?_, k1, k2, k3, fun A c => ⟨ta + 1, tb, by omega, Int.le_refl _, ⟨?_, .inr ⟨by omega, rfl⟩⟩⟩⟩
    · rcases hn with rfl | rfl
      · exact ⟨0, by decide, rfl, by rw [hok]; rfl, fun t h => by omega⟩
      · exact ⟨14, by decide, rfl, by rw [hok]; rfl, fun t h => by rw [hok]; exact decide_eq_false (by omega)⟩
    · refine (h.cov.set' 0 (by omega) (tP p A c) ?_ ?_)
      · refine ⟨good_tP k1 A c, hF.2.1, ?_, (k4 A c).2⟩
        rw [(k4 A c).1, hF.2.2.1, hF.2.1]
        simp only [if_true]
        rw [Int.add_mul, Int.one_mul]
      · intro j q _ hj hq
        refine ⟨hq.1, hq.2.1, ?_, hq.2.2.2⟩
        rw [hq.2.2.1, if_neg hj, if_neg hj]
  · obtain ⟨p, hp, hF⟩ := h.cov.used 1 (by omega)
    obtain ⟨k1, k2, k3, k4⟩ := key 1 (by omega) p hp
    refine ⟨1, p, by omega, hp, ⟨0, by decide, rfl, by rw [hok]; rfl, fun t h => by omega⟩, k1, k2, k3, fun A c => ⟨ta, tb + 1, by omega, by omega, ⟨?_, .inl ⟨by omega, .inr rfl⟩⟩⟩⟩
    refine (h.cov.set' 1 (by omega) (tP p A c) ?_ ?_)
    · refine ⟨good_tP k1 A c, hF.2.1, ?_, (k4 A c).2⟩
      rw [(k4 A c).1, hF.2.2.1, hF.2.1]
      simp only [Nat.one_ne_zero, if_false]
      rw [Int.add_mul, Int.one_mul]
    · intro j q hj2 hj hq
      refine ⟨hq.1, hq.2.1, ?_, hq.2.2.2⟩
      rw [hq.2.2.1, if_pos (by omega), if_pos (by omega)]
theorem fair_bound (P Q ta tb da db sa sb : Int) (hP : 1024 ≤ P) (hQ : 1024 ≤ Q) (ha : sa + da = ta * P) (hb : sb + db = tb * Q) (hab : ta = tb ∨ ta = tb + 1) (a0 : 0 ≤ da) (a1 : da ≤ 1024) (b0 : 0 ≤ db) (b1 : db ≤ 1024) :
    -(P * Q + 1024 * Q + 1024 * P) ≤ sa * Q - sb * P ∧ sa * Q - sb * P ≤ P * Q + 1024 * Q + 1024 * P := by
  have e1 : sa * Q = ta * (P * Q) - da * Q := by
    rw [show sa = ta * P - da by omega, Int.sub_mul, Int.mul_assoc]
  have e2 : sb * P = tb * (P * Q) - db * P := by
    rw [show sb = tb * Q - db by omega, Int.sub_mul, Int.mul_assoc, Int.mul_comm Q P]
  have h1 : 0 ≤ da * Q := Int.mul_nonneg a0 (by omega)
  have h2 : da * Q ≤ 1024 * Q := Int.mul_le_mul_of_nonneg_right a1 (by omega)
  have h3 : 0 ≤ db * P := Int.mul_nonneg b0 (by omega)
  have h4 : db * P ≤ 1024 * P := Int.mul_le_mul_of_nonneg_right b1 (by omega)
  have h5 : 0 ≤ P * Q := Int.mul_nonneg (by omega) (by omega)
  rw [e1, e2]
  rcases hab with rfl | rfl
  · omega
  · rw [Int.add_mul, Int.one_mul]
    omega
theorem FP.s_le {P Q ta tb : Int} {j : Nat} {p : Pc} (h : FP P Q ta tb j p) (hP : 1024 ≤ P ∧ P ≤ 4023) (hQ : 1024 ≤ Q ∧ Q ≤ 4023) (ha : 0 ≤ ta ∧ ta ≤ 60) (hb : 0 ≤ tb ∧ tb ≤ 60) : p.s ≤ 250000 := by
  have h1 := h.2.2.1
  have h2 := h.1.d0
  have h3 : ta * P ≤ 60 * 4023 := Int.mul_le_mul ha.2 hP.2 (by omega) (by omega)
  have h4 : tb * Q ≤ 60 * 4023 := Int.mul_le_mul hb.2 hQ.2 (by omega) (by omega)
  split at h1 <;> omega
theorem FairI.push {P Q ta tb : Int} {nx : Nat} {ps : List (Option Pc)} (h : FairI P Q ta tb nx ps) (hP : 1024 ≤ P ∧ P ≤ 4023) (hQ : 1024 ≤ Q ∧ Q ≤ 4023) (ha : 0 ≤ ta ∧ ta ≤ 60) (hb : 0 ≤ tb ∧ tb ≤ 60) (u : Nat) (hu : u < 2) (p : Pc) (hp : ps[u]? = some (some p)) (x : Int) (x1 : 1 ≤ x) (x2 : x ≤ 1024) (hs : p.l.sum < 20000) (A : Option Addr) (c : Nat) :
    FairI P Q ta tb nx (ps.set u (some { p with A := A, c := c, l := p.l ++ [x] })) := by
  obtain ⟨p', hp', hF⟩ := h.cov.used u hu
  rw [hp] at hp'
  obtain rfl := Option.some.inj (Option.some.inj hp')
  have hsl := hF.s_le hP hQ ha hb
  refine ⟨h.cov.set u hu _ ⟨good_push hF.1 A c x x1 x2 (by omega), hF.2.1, hF.2.2.1, ?_⟩, h.near⟩
  show (p.l ++ [x]).sum ≤ 21023
  rw [List.sum_append]
  simp only [List.sum_cons, List.sum_nil]
  omega
theorem FairI.at {P Q ta tb : Int} {nx : Nat} {ps : List (Option Pc)} (h : FairI P Q ta tb nx ps) {u : Nat} (hu : u < 2) : ∃ p, ps[u]? = some (some p) ∧ FP P Q ta tb u p := h.cov.used u hu
end Go.Proofs.YtgbgplhiiaiifaaDoor
