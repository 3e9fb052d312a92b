/- Package mac: Same, walked. No condition but sizes. -/
import Derived.Test.YthlipmehnkhijaaDoorMi
namespace Go.Proofs.YthlipmehnkhijaaDoor
set_option linter.unusedVariables false
set_option linter.unusedSimpArgs false
open Go.RowKit

set_option maxRecDepth 100000 in
theorem same_any (w0 w : World) (L : List Ent) (A B : Option Addr) (xs ys : List Int) (n m c c' : Nat) (hn : n = xs.length) (hm : m = ys.length) (hs : xs.length ≤ 1000000) (hs2 : ys.length ≤ 1000000) (hbx : Bytes8 xs) (hby : Bytes8 ys) (hA : Ent.ro A (xs.map (.int .u8)) ∈ L) (hB : Ent.ro B (ys.map (.int .u8)) ∈ L) (H : St w0 w L) :
    Calls Tryd.prog 39 #[.slice A n c, .slice B m c'] w fun e w' => e = .returned (.bool (decide (xs = ys))) ∧ St w0 w' L := by
  subst hn; subst hm
  by_cases hl : xs.length = ys.length
  · have z1 : ((xs.length : Int) != (ys.length : Int)) = false := by simp [hl]
    have hl3 := Aside.mk hl
    clear hl
    go_enter Tryd.func39, Tryd.ntmps39
    go_wp2
    go_loopw [14, 6, 5] (fun i _ x w' => ∃ (k : Nat) (v : Int), k ≤ xs.length ∧ i = .int .i64 k ∧ x = .int .u8 v ∧ 0 ≤ v ∧ v ≤ 255 ∧ Aside (v = 0 ↔ ∀ j, j < k → ix xs j = ix ys j) ∧ St w0 w' L) (fun i _ _ _ => xs.length - (intOf i).toNat)
    case atStart => exact ⟨0, 0, by omega, rfl, rfl, by omega, by omega, ⟨by simp⟩, H⟩
    case round =>
      clear H
      obtain ⟨k, v, hk, rfl, rfl, v0, v1, hin, H⟩ := hrel
      by_cases hk : k < xs.length
      · have hk2 : k < ys.length := by rw [← hl3.out]; exact hk
        obtain ⟨a0, a1⟩ := hbx k
        obtain ⟨b0, b1⟩ := hby k
        have hz := Aside.mk (orx_zero v (ix xs k) (ix ys k) v0 v1 a0 a1 b0 b1)
        obtain ⟨r0, r1⟩ := bits8_range .or v (bits .xor .u8 (ix xs k) (ix ys k))
        go_wp2
        refine region_plan0 H [(0, true), (1, true), (2, true), (3, true), (4, true), (5, true), (6, true), (7, true), (8, true), (9, true), (10, true), (11, true)] (by kernel_rfl) (by kernel_rfl) (fun _ _ d_ _ _ h => by cases d_ <;> exact h) (fun HN => ?_); clear H; have H := HN; clear HN; (iterate 12 (first | (refine planLoadBlk ?_ ?_ ?Zi ?Zg ?_ ?_ ?Zo ?Zs ?_ ?_ ?Zx ?_ ?_ ?Zm ?_ ?Zv ?_; (case Zi => rfl); (case Zo => rfl); (case Zs => exact Tsc.out); (case Zg => (first | rfl | (go_simp; done) | fail)); (case Zx => rfl); (case Zm => (repeat (first | exact mh_ | assumption | apply mt_))); (case Zv => (first | rfl | (refine map_ix _ _ _ ?_; first | (with_reducible assumption) | omega | (simp; omega)) | (refine map_ix_app _ _ _ _ ?_; first | (with_reducible assumption) | omega | (simp; omega)) | assumption | (simp; done))); try simp only [q_1, q_2, q_3, q_4]) | (refine planLoadRd ?_ ?_ ?Zi ?Zg ?_ ?_ ?Zo ?Zs ?_ ?_ ?Zx ?_ ?Zr ?_ ?Zv ?_; (case Zi => rfl); (case Zo => rfl); (case Zs => exact Tsc.out); (case Zg => (first | rfl | (go_simp; done) | fail)); (case Zx => rfl); (case Zr => (intro w_ H; first | (refine H.rdOwn (c := ?_) (e := ?_) ?Zm1; (case Zm1 => (repeat (first | exact mh_ | assumption | apply mt_)))) | (refine H.rdRo ?Zm1; (case Zm1 => (repeat (first | exact mh_ | assumption | apply mt_)))) | fail)); (case Zv => (first | rfl | (refine map_ix _ _ _ ?_; first | (with_reducible assumption) | omega | (simp; omega)) | (refine map_ix_app _ _ _ _ ?_; first | (with_reducible assumption) | omega | (simp; omega)) | assumption | (simp; done))); try simp only [q_1, q_2, q_3, q_4]) | (refine planLoadOld ?_ ?_ ?Zi ?Zg ?_ ?_ ?Zo ?Zs ?_ ?Zx ?_ ?Zv ?_; (case Zi => rfl); (case Zo => rfl); (case Zs => exact Tsc.out); (case Zg => (first | rfl | (go_simp; done) | fail)); (case Zx => rfl); (case Zv => assumption); try simp only [q_1, q_2, q_3, q_4]) | (refine planIndex ?_ ?_ ?Zi ?Zg ?_ ?_ ?_ ?_ ?Zo ?Zt ?Zs ?_ ?_ ?_ ?Zx ?_ ?_ ?Zii ?_ ?Zr ?Z0 ?Z1 ?Zn ?_ ?Zj ?_; (case Zi => rfl); (case Zo => rfl); (case Zt => exact Tun.out); (case Zs => kernel_rfl); (case Zg => (first | rfl | (go_simp; done) | fail)); (case Zx => rfl); (case Zii => rfl); (case Zr => (intro w_ H; first | (refine H.rdOwn (c := ?_) (e := ?_) ?Zm1; (case Zm1 => (repeat (first | exact mh_ | assumption | apply mt_)))) | (refine H.rdRo ?Zm1; (case Zm1 => (repeat (first | exact mh_ | assumption | apply mt_)))) | fail)); (case Z0 => (first | (with_reducible assumption) | omega | (simp; omega) | (simp; done) | fail)); (case Z1 => (first | (with_reducible assumption) | omega | (simp; omega) | (simp; done) | fail)); (case Zn => (first | (with_reducible assumption) | omega | (simp; omega) | (simp; done) | fail)); (case Zj => first | (go_bits; rfl) | rfl | fail); try simp only [q_1, q_2, q_3, q_4]) | (refine planPure ?_ ?_ ?Zi ?Zg ?_ ?Zv ?_; (case Zi => rfl); (case Zg => (first | rfl | (go_simp; done) | fail)); (case Zv => (intro w_; first | (go_simp; (try go_bits); rfl) | (go_simp; done) | fail)); try simp only [q_1, q_2, q_3, q_4]) | (refine planSkip ?_ ?_ ?Zi ?Zg ?_; (case Zi => rfl); (case Zg => (first | rfl | (go_simp; done) | fail)); try simp only [q_1, q_2, q_3, q_4]) | fail)); refine planDone ?_
        go_wp2
        go_roundw
        case rel => exact ⟨k + 1, _, by omega, by go_num, rfl, r0, r1, ⟨by
          rw [hz.out, hin.out]
          constructor
          · rintro ⟨h1, h2⟩ j hj
            by_cases e : j = k
            · subst e; exact h2
            · exact h1 j (by omega)
          · intro h1
            exact ⟨fun j hj => h1 j (by omega), h1 k (by omega)⟩⟩, H⟩
        case measure => simp [intOf]; omega
      · obtain rfl : k = xs.length := by omega
        have he : (v == 0) = decide (xs = ys) := by
          rw [Bool.eq_iff_iff]
          simp only [beq_iff_eq, decide_eq_true_eq]
          rw [hin.out]
          exact ⟨fun h => list_ext_ix hl3.out h, fun h => by subst h; intro _ _; rfl⟩
        have he2 := Aside.mk he
        clear he
        go_wp2
        (go_ret; exact ⟨by rw [← he2.out]; rfl, H⟩)
  · have z1 : ((xs.length : Int) != (ys.length : Int)) = true := by simp; omega
    have hne : xs ≠ ys := fun e => hl (by rw [e])
    go_enter Tryd.func39, Tryd.ntmps39
    go_wp2
    (go_ret; exact ⟨by simp [hne], H⟩)
theorem same_new (w : World) (A B : Option Addr) (xs ys : List Int) (n m c c' : Nat) (hn : n = xs.length) (hm : m = ys.length) (hs : xs.length ≤ 1000000) (hs2 : ys.length ≤ 1000000) (hbx : Bytes8 xs) (hby : Bytes8 ys) (hA : Rd w A (xs.map (.int .u8))) (hB : Rd w B (ys.map (.int .u8))) :
    Calls Tryd.prog 39 #[.slice A n c, .slice B m c'] w fun e w' => e = .returned (.bool (decide (xs = ys))) ∧ Below w.heap.size w w' :=
  (same_any w w _ A B xs ys n m c c' hn hm hs hs2 hbx hby (List.Mem.head _) (List.Mem.tail _ (List.Mem.head _)) (St.ro2 hA hB)).mono fun e w' h => ⟨h.1, h.2.below⟩
end Go.Proofs.YthlipmehnkhijaaDoor
