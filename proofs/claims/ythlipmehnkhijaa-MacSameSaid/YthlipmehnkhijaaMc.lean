/- Package mac: Same, Differ, walked. No condition but sizes. -/
import Derived.Test.YthlipmehnkhijaaMb
namespace Go.Proofs.Ythlipmehnkhijaa
set_option linter.unusedVariables false
set_option linter.unusedSimpArgs false
open Go.RowKit

/-- How many of the first places differ. -/
def dif (xs ys : List Int) : Nat → Int
  | 0 => 0
  | k + 1 => dif xs ys k + if ix xs k = ix ys k then 0 else 1
theorem dif_range (xs ys : List Int) (k : Nat) : 0 ≤ dif xs ys k ∧ dif xs ys k ≤ k := by
  induction k with
  | zero => simp [dif]
  | succ k ih => rw [dif]; split <;> omega
theorem dif_zero (xs ys : List Int) (k : Nat) : dif xs ys k = 0 ↔ ∀ j, j < k → ix xs j = ix ys j := by
  induction k with
  | zero => simp [dif]
  | succ k ih =>
    have h := dif_range xs ys k
    rw [dif]
    constructor
    · intro h0 j hj
      by_cases e : ix xs k = ix ys k
      · rw [if_pos e, Int.add_zero] at h0
        by_cases hjk : j = k
        · subst hjk; exact e
        · exact ih.1 h0 j (by omega)
      · rw [if_neg e] at h0; omega
    · intro h1
      rw [ih.2 (fun j hj => h1 j (by omega)), if_pos (h1 k (by omega))]; rfl
theorem dif_symm (xs ys : List Int) (k : Nat) : dif xs ys k = dif ys xs k := by
  induction k with
  | zero => rfl
  | succ k ih =>
    rw [dif, dif, ih]
    congr 1
    by_cases e : ix xs k = ix ys k
    · rw [if_pos e, if_pos e.symm]
    · rw [if_neg e, if_neg (fun h => e h.symm)]
/-- How many bytes differ, and how many one has more. -/
def diffs (xs ys : List Int) : Int := if ys.length < xs.length then (xs.length : Int) - ys.length + dif ys xs ys.length else (ys.length : Int) - xs.length + dif xs ys xs.length
theorem diffs_lt {xs ys : List Int} (h : ys.length < xs.length) : diffs xs ys = (xs.length : Int) - ys.length + dif ys xs ys.length := if_pos h
theorem diffs_ge {xs ys : List Int} (h : ¬ ys.length < xs.length) : diffs xs ys = (ys.length : Int) - xs.length + dif xs ys xs.length := if_neg h
theorem diffs_zero (xs ys : List Int) : diffs xs ys = 0 ↔ xs = ys := by
  constructor
  · intro h0
    by_cases h : ys.length < xs.length
    · rw [diffs_lt h] at h0
      have := dif_range ys xs ys.length
      omega
    · rw [diffs_ge h] at h0
      have := dif_range xs ys xs.length
      have hl : xs.length = ys.length := by omega
      exact list_ext_ix hl (fun i hi => (dif_zero xs ys _).1 (by omega) i hi)
  · rintro rfl
    rw [diffs_ge (by omega), (dif_zero xs xs _).2 (fun _ _ => rfl)]; omega

set_option maxRecDepth 100000 in
theorem differ_any (w0 w : World) (L : List Ent) (A B : Option Addr) (xs ys : List Int) (n m c c' : Nat) (hn : n = xs.length) (hm : m = ys.length) (hs : xs.length ≤ 1000000) (hs2 : ys.length ≤ 1000000) (hA : Ent.ro A (xs.map (.int .u8)) ∈ L) (hB : Ent.ro B (ys.map (.int .u8)) ∈ L) (H : St w0 w L) :
    Calls Try.prog 35 #[.slice A n c, .slice B m c'] w fun e w' => e = .returned (.int .i64 (diffs xs ys)) ∧ St w0 w' L := by
  subst hn; subst hm
  by_cases hl : ys.length < xs.length
  · have z1 : decide ((ys.length : Int) < (xs.length : Int)) = true := by simp; omega
    go_enter Try.func35, Try.ntmps35
    go_wp2

    go_loopw [21, 6, 5] (fun i _ x w' => ∃ k : Nat, k ≤ ys.length ∧ i = .int .i64 k ∧ x = .int .i64 (xs.length - ys.length + dif ys xs k) ∧ St w0 w' L) (fun i _ _ _ => ys.length - (intOf i).toNat)
    case atStart => exact ⟨0, by omega, rfl, by rw [dif, Int.add_zero], H⟩
    case round =>
      clear H
      obtain ⟨k, hk, rfl, rfl, H⟩ := hrel
      obtain ⟨d0, d1⟩ := dif_range ys xs k
      obtain ⟨D, hD⟩ : ∃ x, x = dif ys xs k := ⟨_, rfl⟩
      rw [← hD] at d0 d1 ⊢
      have hD2 := Aside.mk hD
      clear hD
      by_cases hk : k < ys.length
      · have hk2 : k < xs.length := by omega
        by_cases hxy : ix ys k = ix xs k
        · have z : (ix ys k != ix xs k) = false := by simpa using hxy
          go_wp2
          refine region_plan0 H [(0, true), (1, true), (2, true), (3, true), (4, true), (5, true), (6, true), (7, true), (8, true)] (by kernel_rfl) (by kernel_rfl) (fun _ _ d_ _ _ h => by cases d_ <;> exact h) (fun HN => ?_); clear H; have H := HN; clear HN; (iterate 9 (first | (refine planLoadBlk ?_ ?_ ?zhi ?zhg ?_ ?_ ?zho ?zhs ?_ ?_ ?zhx ?_ ?_ ?zhm ?_ ?zhv ?_; (case zhi => rfl); (case zho => rfl); (case zhs => exact Tsc.out); (case zhg => (first | rfl | (go_simp; done) | fail)); (case zhx => rfl); (case zhm => (repeat (first | exact List.Mem.head _ | assumption | apply List.Mem.tail))); (case zhv => (first | rfl | (refine map_ix _ _ _ ?_; first | (with_reducible assumption) | omega | (simp; omega)) | (refine map_ix_app _ _ _ _ ?_; first | (with_reducible assumption) | omega | (simp; omega)) | assumption | (simp; done))); try simp only [Act.put, List.setIfInBounds_toArray, List.set_cons_zero, List.set_cons_succ]) | (refine planLoadRd ?_ ?_ ?zhi ?zhg ?_ ?_ ?zho ?zhs ?_ ?_ ?zhx ?_ ?zhr ?_ ?zhv ?_; (case zhi => rfl); (case zho => rfl); (case zhs => exact Tsc.out); (case zhg => (first | rfl | (go_simp; done) | fail)); (case zhx => rfl); (case zhr => (intro w_ H; first | (refine H.rdOwn (c := ?_) (e := ?_) ?zhm1; (case zhm1 => (repeat (first | exact List.Mem.head _ | assumption | apply List.Mem.tail)))) | (refine H.rdRo ?zhm1; (case zhm1 => (repeat (first | exact List.Mem.head _ | assumption | apply List.Mem.tail)))) | fail)); (case zhv => (first | rfl | (refine map_ix _ _ _ ?_; first | (with_reducible assumption) | omega | (simp; omega)) | (refine map_ix_app _ _ _ _ ?_; first | (with_reducible assumption) | omega | (simp; omega)) | assumption | (simp; done))); try simp only [Act.put, List.setIfInBounds_toArray, List.set_cons_zero, List.set_cons_succ]) | (refine planLoadOld ?_ ?_ ?zhi ?zhg ?_ ?_ ?zho ?zhs ?_ ?zhx ?_ ?zhv ?_; (case zhi => rfl); (case zho => rfl); (case zhs => exact Tsc.out); (case zhg => (first | rfl | (go_simp; done) | fail)); (case zhx => rfl); (case zhv => assumption); try simp only [Act.put, List.setIfInBounds_toArray, List.set_cons_zero, List.set_cons_succ]) | (refine planIndex ?_ ?_ ?zhi ?zhg ?_ ?_ ?_ ?_ ?zho ?zht ?zhs ?_ ?_ ?_ ?zhx ?_ ?_ ?zhii ?_ ?zhr ?zh0 ?zh1 ?zhn ?_ ?zhj ?_; (case zhi => rfl); (case zho => rfl); (case zht => exact Tun.out); (case zhs => kernel_rfl); (case zhg => (first | rfl | (go_simp; done) | fail)); (case zhx => rfl); (case zhii => rfl); (case zhr => (intro w_ H; first | (refine H.rdOwn (c := ?_) (e := ?_) ?zhm1; (case zhm1 => (repeat (first | exact List.Mem.head _ | assumption | apply List.Mem.tail)))) | (refine H.rdRo ?zhm1; (case zhm1 => (repeat (first | exact List.Mem.head _ | assumption | apply List.Mem.tail)))) | fail)); (case zh0 => (first | (with_reducible assumption) | omega | (simp; omega) | (simp; done) | fail)); (case zh1 => (first | (with_reducible assumption) | omega | (simp; omega) | (simp; done) | fail)); (case zhn => (first | (with_reducible assumption) | omega | (simp; omega) | (simp; done) | fail)); (case zhj => first | (go_bits; rfl) | rfl | fail); try simp only [Act.put, List.setIfInBounds_toArray, List.set_cons_zero, List.set_cons_succ]) | (refine planPure ?_ ?_ ?zhi ?zhg ?_ ?zhv ?_; (case zhi => rfl); (case zhg => (first | rfl | (go_simp; done) | fail)); (case zhv => (intro w_; first | (go_simp; (try go_bits); rfl) | (go_simp; done) | fail)); try simp only [Act.put, List.setIfInBounds_toArray, List.set_cons_zero, List.set_cons_succ]) | (refine planSkip ?_ ?_ ?zhi ?zhg ?_; (case zhi => rfl); (case zhg => (first | rfl | (go_simp; done) | fail)); try simp only [Act.put, List.setIfInBounds_toArray, List.set_cons_zero, List.set_cons_succ]) | fail)); refine planDone ?_
          go_wp2
          go_roundw
          case rel => exact ⟨k + 1, by omega, by go_num, by rw [dif, if_pos hxy, ← hD2.out, Int.add_zero], H⟩
          case measure => simp [intOf]; omega
        · have z : (ix ys k != ix xs k) = true := by simpa using hxy
          go_wp2
          refine region_plan0 H [(0, true), (1, true), (2, true), (3, true), (4, true), (5, true), (6, true), (7, true), (8, true)] (by kernel_rfl) (by kernel_rfl) (fun _ _ d_ _ _ h => by cases d_ <;> exact h) (fun HN => ?_); clear H; have H := HN; clear HN; (iterate 9 (first | (refine planLoadBlk ?_ ?_ ?zhi ?zhg ?_ ?_ ?zho ?zhs ?_ ?_ ?zhx ?_ ?_ ?zhm ?_ ?zhv ?_; (case zhi => rfl); (case zho => rfl); (case zhs => exact Tsc.out); (case zhg => (first | rfl | (go_simp; done) | fail)); (case zhx => rfl); (case zhm => (repeat (first | exact List.Mem.head _ | assumption | apply List.Mem.tail))); (case zhv => (first | rfl | (refine map_ix _ _ _ ?_; first | (with_reducible assumption) | omega | (simp; omega)) | (refine map_ix_app _ _ _ _ ?_; first | (with_reducible assumption) | omega | (simp; omega)) | assumption | (simp; done))); try simp only [Act.put, List.setIfInBounds_toArray, List.set_cons_zero, List.set_cons_succ]) | (refine planLoadRd ?_ ?_ ?zhi ?zhg ?_ ?_ ?zho ?zhs ?_ ?_ ?zhx ?_ ?zhr ?_ ?zhv ?_; (case zhi => rfl); (case zho => rfl); (case zhs => exact Tsc.out); (case zhg => (first | rfl | (go_simp; done) | fail)); (case zhx => rfl); (case zhr => (intro w_ H; first | (refine H.rdOwn (c := ?_) (e := ?_) ?zhm1; (case zhm1 => (repeat (first | exact List.Mem.head _ | assumption | apply List.Mem.tail)))) | (refine H.rdRo ?zhm1; (case zhm1 => (repeat (first | exact List.Mem.head _ | assumption | apply List.Mem.tail)))) | fail)); (case zhv => (first | rfl | (refine map_ix _ _ _ ?_; first | (with_reducible assumption) | omega | (simp; omega)) | (refine map_ix_app _ _ _ _ ?_; first | (with_reducible assumption) | omega | (simp; omega)) | assumption | (simp; done))); try simp only [Act.put, List.setIfInBounds_toArray, List.set_cons_zero, List.set_cons_succ]) | (refine planLoadOld ?_ ?_ ?zhi ?zhg ?_ ?_ ?zho ?zhs ?_ ?zhx ?_ ?zhv ?_; (case zhi => rfl); (case zho => rfl); (case zhs => exact Tsc.out); (case zhg => (first | rfl | (go_simp; done) | fail)); (case zhx => rfl); (case zhv => assumption); try simp only [Act.put, List.setIfInBounds_toArray, List.set_cons_zero, List.set_cons_succ]) | (refine planIndex ?_ ?_ ?zhi ?zhg ?_ ?_ ?_ ?_ ?zho ?zht ?zhs ?_ ?_ ?_ ?zhx ?_ ?_ ?zhii ?_ ?zhr ?zh0 ?zh1 ?zhn ?_ ?zhj ?_; (case zhi => rfl); (case zho => rfl); (case zht => exact Tun.out); (case zhs => kernel_rfl); (case zhg => (first | rfl | (go_simp; done) | fail)); (case zhx => rfl); (case zhii => rfl); (case zhr => (intro w_ H; first | (refine H.rdOwn (c := ?_) (e := ?_) ?zhm1; (case zhm1 => (repeat (first | exact List.Mem.head _ | assumption | apply List.Mem.tail)))) | (refine H.rdRo ?zhm1; (case zhm1 => (repeat (first | exact List.Mem.head _ | assumption | apply List.Mem.tail)))) | fail)); (case zh0 => (first | (with_reducible assumption) | omega | (simp; omega) | (simp; done) | fail)); (case zh1 => (first | (with_reducible assumption) | omega | (simp; omega) | (simp; done) | fail)); (case zhn => (first | (with_reducible assumption) | omega | (simp; omega) | (simp; done) | fail)); (case zhj => first | (go_bits; rfl) | rfl | fail); try simp only [Act.put, List.setIfInBounds_toArray, List.set_cons_zero, List.set_cons_succ]) | (refine planPure ?_ ?_ ?zhi ?zhg ?_ ?zhv ?_; (case zhi => rfl); (case zhg => (first | rfl | (go_simp; done) | fail)); (case zhv => (intro w_; first | (go_simp; (try go_bits); rfl) | (go_simp; done) | fail)); try simp only [Act.put, List.setIfInBounds_toArray, List.set_cons_zero, List.set_cons_succ]) | (refine planSkip ?_ ?_ ?zhi ?zhg ?_; (case zhi => rfl); (case zhg => (first | rfl | (go_simp; done) | fail)); try simp only [Act.put, List.setIfInBounds_toArray, List.set_cons_zero, List.set_cons_succ]) | fail)); refine planDone ?_
          go_wp2
          go_roundw
          case rel => exact ⟨k + 1, by omega, by go_num, by rw [dif, if_neg hxy, ← hD2.out]; congr 1; omega, H⟩
          case measure => simp [intOf]; omega
      · obtain rfl : k = ys.length := by omega
        go_wp2
        (go_ret; exact ⟨by rw [hD2.out, diffs_lt hl]; rfl, H⟩)

  · have z1 : decide ((ys.length : Int) < (xs.length : Int)) = false := by simp; omega
    go_enter Try.func35, Try.ntmps35
    go_wp2

    go_loopw [21, 6, 5] (fun i _ x w' => ∃ k : Nat, k ≤ xs.length ∧ i = .int .i64 k ∧ x = .int .i64 (ys.length - xs.length + dif xs ys k) ∧ St w0 w' L) (fun i _ _ _ => xs.length - (intOf i).toNat)
    case atStart => exact ⟨0, by omega, rfl, by rw [dif, Int.add_zero], H⟩
    case round =>
      clear H
      obtain ⟨k, hk, rfl, rfl, H⟩ := hrel
      obtain ⟨d0, d1⟩ := dif_range xs ys k
      obtain ⟨D, hD⟩ : ∃ x, x = dif xs ys k := ⟨_, rfl⟩
      rw [← hD] at d0 d1 ⊢
      have hD2 := Aside.mk hD
      clear hD
      by_cases hk : k < xs.length
      · have hk2 : k < ys.length := by omega
        by_cases hxy : ix xs k = ix ys k
        · have z : (ix xs k != ix ys k) = false := by simpa using hxy
          go_wp2
          refine region_plan0 H [(0, true), (1, true), (2, true), (3, true), (4, true), (5, true), (6, true), (7, true), (8, true)] (by kernel_rfl) (by kernel_rfl) (fun _ _ d_ _ _ h => by cases d_ <;> exact h) (fun HN => ?_); clear H; have H := HN; clear HN; (iterate 9 (first | (refine planLoadBlk ?_ ?_ ?zhi ?zhg ?_ ?_ ?zho ?zhs ?_ ?_ ?zhx ?_ ?_ ?zhm ?_ ?zhv ?_; (case zhi => rfl); (case zho => rfl); (case zhs => exact Tsc.out); (case zhg => (first | rfl | (go_simp; done) | fail)); (case zhx => rfl); (case zhm => (repeat (first | exact List.Mem.head _ | assumption | apply List.Mem.tail))); (case zhv => (first | rfl | (refine map_ix _ _ _ ?_; first | (with_reducible assumption) | omega | (simp; omega)) | (refine map_ix_app _ _ _ _ ?_; first | (with_reducible assumption) | omega | (simp; omega)) | assumption | (simp; done))); try simp only [Act.put, List.setIfInBounds_toArray, List.set_cons_zero, List.set_cons_succ]) | (refine planLoadRd ?_ ?_ ?zhi ?zhg ?_ ?_ ?zho ?zhs ?_ ?_ ?zhx ?_ ?zhr ?_ ?zhv ?_; (case zhi => rfl); (case zho => rfl); (case zhs => exact Tsc.out); (case zhg => (first | rfl | (go_simp; done) | fail)); (case zhx => rfl); (case zhr => (intro w_ H; first | (refine H.rdOwn (c := ?_) (e := ?_) ?zhm1; (case zhm1 => (repeat (first | exact List.Mem.head _ | assumption | apply List.Mem.tail)))) | (refine H.rdRo ?zhm1; (case zhm1 => (repeat (first | exact List.Mem.head _ | assumption | apply List.Mem.tail)))) | fail)); (case zhv => (first | rfl | (refine map_ix _ _ _ ?_; first | (with_reducible assumption) | omega | (simp; omega)) | (refine map_ix_app _ _ _ _ ?_; first | (with_reducible assumption) | omega | (simp; omega)) | assumption | (simp; done))); try simp only [Act.put, List.setIfInBounds_toArray, List.set_cons_zero, List.set_cons_succ]) | (refine planLoadOld ?_ ?_ ?zhi ?zhg ?_ ?_ ?zho ?zhs ?_ ?zhx ?_ ?zhv ?_; (case zhi => rfl); (case zho => rfl); (case zhs => exact Tsc.out); (case zhg => (first | rfl | (go_simp; done) | fail)); (case zhx => rfl); (case zhv => assumption); try simp only [Act.put, List.setIfInBounds_toArray, List.set_cons_zero, List.set_cons_succ]) | (refine planIndex ?_ ?_ ?zhi ?zhg ?_ ?_ ?_ ?_ ?zho ?zht ?zhs ?_ ?_ ?_ ?zhx ?_ ?_ ?zhii ?_ ?zhr ?zh0 ?zh1 ?zhn ?_ ?zhj ?_; (case zhi => rfl); (case zho => rfl); (case zht => exact Tun.out); (case zhs => kernel_rfl); (case zhg => (first | rfl | (go_simp; done) | fail)); (case zhx => rfl); (case zhii => rfl); (case zhr => (intro w_ H; first | (refine H.rdOwn (c := ?_) (e := ?_) ?zhm1; (case zhm1 => (repeat (first | exact List.Mem.head _ | assumption | apply List.Mem.tail)))) | (refine H.rdRo ?zhm1; (case zhm1 => (repeat (first | exact List.Mem.head _ | assumption | apply List.Mem.tail)))) | fail)); (case zh0 => (first | (with_reducible assumption) | omega | (simp; omega) | (simp; done) | fail)); (case zh1 => (first | (with_reducible assumption) | omega | (simp; omega) | (simp; done) | fail)); (case zhn => (first | (with_reducible assumption) | omega | (simp; omega) | (simp; done) | fail)); (case zhj => first | (go_bits; rfl) | rfl | fail); try simp only [Act.put, List.setIfInBounds_toArray, List.set_cons_zero, List.set_cons_succ]) | (refine planPure ?_ ?_ ?zhi ?zhg ?_ ?zhv ?_; (case zhi => rfl); (case zhg => (first | rfl | (go_simp; done) | fail)); (case zhv => (intro w_; first | (go_simp; (try go_bits); rfl) | (go_simp; done) | fail)); try simp only [Act.put, List.setIfInBounds_toArray, List.set_cons_zero, List.set_cons_succ]) | (refine planSkip ?_ ?_ ?zhi ?zhg ?_; (case zhi => rfl); (case zhg => (first | rfl | (go_simp; done) | fail)); try simp only [Act.put, List.setIfInBounds_toArray, List.set_cons_zero, List.set_cons_succ]) | fail)); refine planDone ?_
          go_wp2
          go_roundw
          case rel => exact ⟨k + 1, by omega, by go_num, by rw [dif, if_pos hxy, ← hD2.out, Int.add_zero], H⟩
          case measure => simp [intOf]; omega
        · have z : (ix xs k != ix ys k) = true := by simpa using hxy
          go_wp2
          refine region_plan0 H [(0, true), (1, true), (2, true), (3, true), (4, true), (5, true), (6, true), (7, true), (8, true)] (by kernel_rfl) (by kernel_rfl) (fun _ _ d_ _ _ h => by cases d_ <;> exact h) (fun HN => ?_); clear H; have H := HN; clear HN; (iterate 9 (first | (refine planLoadBlk ?_ ?_ ?zhi ?zhg ?_ ?_ ?zho ?zhs ?_ ?_ ?zhx ?_ ?_ ?zhm ?_ ?zhv ?_; (case zhi => rfl); (case zho => rfl); (case zhs => exact Tsc.out); (case zhg => (first | rfl | (go_simp; done) | fail)); (case zhx => rfl); (case zhm => (repeat (first | exact List.Mem.head _ | assumption | apply List.Mem.tail))); (case zhv => (first | rfl | (refine map_ix _ _ _ ?_; first | (with_reducible assumption) | omega | (simp; omega)) | (refine map_ix_app _ _ _ _ ?_; first | (with_reducible assumption) | omega | (simp; omega)) | assumption | (simp; done))); try simp only [Act.put, List.setIfInBounds_toArray, List.set_cons_zero, List.set_cons_succ]) | (refine planLoadRd ?_ ?_ ?zhi ?zhg ?_ ?_ ?zho ?zhs ?_ ?_ ?zhx ?_ ?zhr ?_ ?zhv ?_; (case zhi => rfl); (case zho => rfl); (case zhs => exact Tsc.out); (case zhg => (first | rfl | (go_simp; done) | fail)); (case zhx => rfl); (case zhr => (intro w_ H; first | (refine H.rdOwn (c := ?_) (e := ?_) ?zhm1; (case zhm1 => (repeat (first | exact List.Mem.head _ | assumption | apply List.Mem.tail)))) | (refine H.rdRo ?zhm1; (case zhm1 => (repeat (first | exact List.Mem.head _ | assumption | apply List.Mem.tail)))) | fail)); (case zhv => (first | rfl | (refine map_ix _ _ _ ?_; first | (with_reducible assumption) | omega | (simp; omega)) | (refine map_ix_app _ _ _ _ ?_; first | (with_reducible assumption) | omega | (simp; omega)) | assumption | (simp; done))); try simp only [Act.put, List.setIfInBounds_toArray, List.set_cons_zero, List.set_cons_succ]) | (refine planLoadOld ?_ ?_ ?zhi ?zhg ?_ ?_ ?zho ?zhs ?_ ?zhx ?_ ?zhv ?_; (case zhi => rfl); (case zho => rfl); (case zhs => exact Tsc.out); (case zhg => (first | rfl | (go_simp; done) | fail)); (case zhx => rfl); (case zhv => assumption); try simp only [Act.put, List.setIfInBounds_toArray, List.set_cons_zero, List.set_cons_succ]) | (refine planIndex ?_ ?_ ?zhi ?zhg ?_ ?_ ?_ ?_ ?zho ?zht ?zhs ?_ ?_ ?_ ?zhx ?_ ?_ ?zhii ?_ ?zhr ?zh0 ?zh1 ?zhn ?_ ?zhj ?_; (case zhi => rfl); (case zho => rfl); (case zht => exact Tun.out); (case zhs => kernel_rfl); (case zhg => (first | rfl | (go_simp; done) | fail)); (case zhx => rfl); (case zhii => rfl); (case zhr => (intro w_ H; first | (refine H.rdOwn (c := ?_) (e := ?_) ?zhm1; (case zhm1 => (repeat (first | exact List.Mem.head _ | assumption | apply List.Mem.tail)))) | (refine H.rdRo ?zhm1; (case zhm1 => (repeat (first | exact List.Mem.head _ | assumption | apply List.Mem.tail)))) | fail)); (case zh0 => (first | (with_reducible assumption) | omega | (simp; omega) | (simp; done) | fail)); (case zh1 => (first | (with_reducible assumption) | omega | (simp; omega) | (simp; done) | fail)); (case zhn => (first | (with_reducible assumption) | omega | (simp; omega) | (simp; done) | fail)); (case zhj => first | (go_bits; rfl) | rfl | fail); try simp only [Act.put, List.setIfInBounds_toArray, List.set_cons_zero, List.set_cons_succ]) | (refine planPure ?_ ?_ ?zhi ?zhg ?_ ?zhv ?_; (case zhi => rfl); (case zhg => (first | rfl | (go_simp; done) | fail)); (case zhv => (intro w_; first | (go_simp; (try go_bits); rfl) | (go_simp; done) | fail)); try simp only [Act.put, List.setIfInBounds_toArray, List.set_cons_zero, List.set_cons_succ]) | (refine planSkip ?_ ?_ ?zhi ?zhg ?_; (case zhi => rfl); (case zhg => (first | rfl | (go_simp; done) | fail)); try simp only [Act.put, List.setIfInBounds_toArray, List.set_cons_zero, List.set_cons_succ]) | fail)); refine planDone ?_
          go_wp2
          go_roundw
          case rel => exact ⟨k + 1, by omega, by go_num, by rw [dif, if_neg hxy, ← hD2.out]; congr 1; omega, H⟩
          case measure => simp [intOf]; omega
      · obtain rfl : k = xs.length := by omega
        go_wp2
        (go_ret; exact ⟨by rw [hD2.out, diffs_ge hl]; rfl, H⟩)

set_option maxRecDepth 100000 in
theorem same_any (w0 w : World) (L : List Ent) (A B : Option Addr) (xs ys : List Int) (n m c c' : Nat) (hn : n = xs.length) (hm : m = ys.length) (hs : xs.length ≤ 1000000) (hs2 : ys.length ≤ 1000000) (hbx : Bytes8 xs) (hby : Bytes8 ys) (hA : Ent.ro A (xs.map (.int .u8)) ∈ L) (hB : Ent.ro B (ys.map (.int .u8)) ∈ L) (H : St w0 w L) :
    Calls Try.prog 34 #[.slice A n c, .slice B m c'] w fun e w' => e = .returned (.bool (decide (xs = ys))) ∧ St w0 w' L := by
  subst hn; subst hm
  by_cases hl : xs.length = ys.length
  · have z1 : ((xs.length : Int) != (ys.length : Int)) = false := by simp [hl]
    have hl3 := Aside.mk hl
    clear hl
    go_enter Try.func34, Try.ntmps34
    go_wp2
    go_loopw [14, 6, 5] (fun i _ x w' => ∃ (k : Nat) (v : Int), k ≤ xs.length ∧ i = .int .i64 k ∧ x = .int .u8 v ∧ 0 ≤ v ∧ v ≤ 255 ∧ Aside (v = 0 ↔ ∀ j, j < k → ix xs j = ix ys j) ∧ St w0 w' L) (fun i _ _ _ => xs.length - (intOf i).toNat)
    case atStart => exact ⟨0, 0, by omega, rfl, rfl, by omega, by omega, ⟨by simp⟩, H⟩
    case round =>
      clear H
      obtain ⟨k, v, hk, rfl, rfl, v0, v1, hin, H⟩ := hrel
      by_cases hk : k < xs.length
      · have hk2 : k < ys.length := by rw [← hl3.out]; exact hk
        obtain ⟨a0, a1⟩ := hbx k
        obtain ⟨b0, b1⟩ := hby k
        have hz := Aside.mk (orx_zero v (ix xs k) (ix ys k) v0 v1 a0 a1 b0 b1)
        obtain ⟨r0, r1⟩ := bits8_range .or v (bits .xor .u8 (ix xs k) (ix ys k))
        go_wp2
        refine region_plan0 H [(0, true), (1, true), (2, true), (3, true), (4, true), (5, true), (6, true), (7, true), (8, true), (9, true), (10, true), (11, true)] (by kernel_rfl) (by kernel_rfl) (fun _ _ d_ _ _ h => by cases d_ <;> exact h) (fun HN => ?_); clear H; have H := HN; clear HN; (iterate 12 (first | (refine planLoadBlk ?_ ?_ ?zhi ?zhg ?_ ?_ ?zho ?zhs ?_ ?_ ?zhx ?_ ?_ ?zhm ?_ ?zhv ?_; (case zhi => rfl); (case zho => rfl); (case zhs => exact Tsc.out); (case zhg => (first | rfl | (go_simp; done) | fail)); (case zhx => rfl); (case zhm => (repeat (first | exact List.Mem.head _ | assumption | apply List.Mem.tail))); (case zhv => (first | rfl | (refine map_ix _ _ _ ?_; first | (with_reducible assumption) | omega | (simp; omega)) | (refine map_ix_app _ _ _ _ ?_; first | (with_reducible assumption) | omega | (simp; omega)) | assumption | (simp; done))); try simp only [Act.put, List.setIfInBounds_toArray, List.set_cons_zero, List.set_cons_succ]) | (refine planLoadRd ?_ ?_ ?zhi ?zhg ?_ ?_ ?zho ?zhs ?_ ?_ ?zhx ?_ ?zhr ?_ ?zhv ?_; (case zhi => rfl); (case zho => rfl); (case zhs => exact Tsc.out); (case zhg => (first | rfl | (go_simp; done) | fail)); (case zhx => rfl); (case zhr => (intro w_ H; first | (refine H.rdOwn (c := ?_) (e := ?_) ?zhm1; (case zhm1 => (repeat (first | exact List.Mem.head _ | assumption | apply List.Mem.tail)))) | (refine H.rdRo ?zhm1; (case zhm1 => (repeat (first | exact List.Mem.head _ | assumption | apply List.Mem.tail)))) | fail)); (case zhv => (first | rfl | (refine map_ix _ _ _ ?_; first | (with_reducible assumption) | omega | (simp; omega)) | (refine map_ix_app _ _ _ _ ?_; first | (with_reducible assumption) | omega | (simp; omega)) | assumption | (simp; done))); try simp only [Act.put, List.setIfInBounds_toArray, List.set_cons_zero, List.set_cons_succ]) | (refine planLoadOld ?_ ?_ ?zhi ?zhg ?_ ?_ ?zho ?zhs ?_ ?zhx ?_ ?zhv ?_; (case zhi => rfl); (case zho => rfl); (case zhs => exact Tsc.out); (case zhg => (first | rfl | (go_simp; done) | fail)); (case zhx => rfl); (case zhv => assumption); try simp only [Act.put, List.setIfInBounds_toArray, List.set_cons_zero, List.set_cons_succ]) | (refine planIndex ?_ ?_ ?zhi ?zhg ?_ ?_ ?_ ?_ ?zho ?zht ?zhs ?_ ?_ ?_ ?zhx ?_ ?_ ?zhii ?_ ?zhr ?zh0 ?zh1 ?zhn ?_ ?zhj ?_; (case zhi => rfl); (case zho => rfl); (case zht => exact Tun.out); (case zhs => kernel_rfl); (case zhg => (first | rfl | (go_simp; done) | fail)); (case zhx => rfl); (case zhii => rfl); (case zhr => (intro w_ H; first | (refine H.rdOwn (c := ?_) (e := ?_) ?zhm1; (case zhm1 => (repeat (first | exact List.Mem.head _ | assumption | apply List.Mem.tail)))) | (refine H.rdRo ?zhm1; (case zhm1 => (repeat (first | exact List.Mem.head _ | assumption | apply List.Mem.tail)))) | fail)); (case zh0 => (first | (with_reducible assumption) | omega | (simp; omega) | (simp; done) | fail)); (case zh1 => (first | (with_reducible assumption) | omega | (simp; omega) | (simp; done) | fail)); (case zhn => (first | (with_reducible assumption) | omega | (simp; omega) | (simp; done) | fail)); (case zhj => first | (go_bits; rfl) | rfl | fail); try simp only [Act.put, List.setIfInBounds_toArray, List.set_cons_zero, List.set_cons_succ]) | (refine planPure ?_ ?_ ?zhi ?zhg ?_ ?zhv ?_; (case zhi => rfl); (case zhg => (first | rfl | (go_simp; done) | fail)); (case zhv => (intro w_; first | (go_simp; (try go_bits); rfl) | (go_simp; done) | fail)); try simp only [Act.put, List.setIfInBounds_toArray, List.set_cons_zero, List.set_cons_succ]) | (refine planSkip ?_ ?_ ?zhi ?zhg ?_; (case zhi => rfl); (case zhg => (first | rfl | (go_simp; done) | fail)); try simp only [Act.put, List.setIfInBounds_toArray, List.set_cons_zero, List.set_cons_succ]) | fail)); refine planDone ?_
        go_wp2
        go_roundw
        case rel => exact ⟨k + 1, _, by omega, by go_num, rfl, r0, r1, ⟨by
          rw [hz.out, hin.out]
          constructor
          · rintro ⟨h1, h2⟩ j hj
            by_cases e : j = k
            · subst e; exact h2
            · exact h1 j (by omega)
          · intro h1
            exact ⟨fun j hj => h1 j (by omega), h1 k (by omega)⟩⟩, H⟩
        case measure => simp [intOf]; omega
      · obtain rfl : k = xs.length := by omega
        have he : (v == 0) = decide (xs = ys) := by
          rw [Bool.eq_iff_iff]
          simp only [beq_iff_eq, decide_eq_true_eq]
          rw [hin.out]
          exact ⟨fun h => list_ext_ix hl3.out h, fun h => by subst h; intro _ _; rfl⟩
        have he2 := Aside.mk he
        clear he
        go_wp2
        (go_ret; exact ⟨by rw [← he2.out]; rfl, H⟩)
  · have z1 : ((xs.length : Int) != (ys.length : Int)) = true := by simp; omega
    have hne : xs ≠ ys := fun e => hl (by rw [e])
    go_enter Try.func34, Try.ntmps34
    go_wp2
    (go_ret; exact ⟨by simp [hne], H⟩)
theorem same_new (w : World) (A B : Option Addr) (xs ys : List Int) (n m c c' : Nat) (hn : n = xs.length) (hm : m = ys.length) (hs : xs.length ≤ 1000000) (hs2 : ys.length ≤ 1000000) (hbx : Bytes8 xs) (hby : Bytes8 ys) (hA : Rd w A (xs.map (.int .u8))) (hB : Rd w B (ys.map (.int .u8))) :
    Calls Try.prog 34 #[.slice A n c, .slice B m c'] w fun e w' => e = .returned (.bool (decide (xs = ys))) ∧ Below w.heap.size w w' :=
  (same_any w w _ A B xs ys n m c c' hn hm hs hs2 hbx hby (List.Mem.head _) (List.Mem.tail _ (List.Mem.head _)) (St.ro2 hA hB)).mono fun e w' h => ⟨h.1, h.2.below⟩
theorem differ_new (w : World) (A B : Option Addr) (xs ys : List Int) (n m c c' : Nat) (hn : n = xs.length) (hm : m = ys.length) (hs : xs.length ≤ 1000000) (hs2 : ys.length ≤ 1000000) (hA : Rd w A (xs.map (.int .u8))) (hB : Rd w B (ys.map (.int .u8))) :
    Calls Try.prog 35 #[.slice A n c, .slice B m c'] w fun e w' => e = .returned (.int .i64 (diffs xs ys)) ∧ Below w.heap.size w w' :=
  (differ_any w w _ A B xs ys n m c c' hn hm hs hs2 (List.Mem.head _) (List.Mem.tail _ (List.Mem.head _)) (St.ro2 hA hB)).mono fun e w' h => ⟨h.1, h.2.below⟩
end Go.Proofs.Ythlipmehnkhijaa
