/- FltBytes, walked. No condition. -/
import Derived.Test.YtcpfangcibilaaaDoorDc
namespace Go.Proofs.YtcpfangcibilaaaDoor
set_option linter.unusedVariables false
set_option linter.unusedSimpArgs false
open Go.RowKit

set_option maxRecDepth 100000 in
theorem read_short (E : Int → Addr) (w0 w : World) (L : List Ent) (hE : ErrsAll E w0) (A : Option Addr) (n c : Nat) (hn : n < 8) (H : St w0 w L) :
    Calls Tryd.prog 52 #[.slice A n c] w fun e w' => e = .returned (.tuple #[.float .f64 0, .iface 119 (.pointer (some (E 105)))]) ∧ St w0 w' L := by
  have ct : w0.cell? ⟨2, 0, none⟩ = some (.iface 119 (.pointer (some (E 105)))) := hE.cell 105 (by decide)
  have z1 : decide ((n : Int) < 8) = true := decide_eq_true (by omega)
  go_enter Tryd.func52, Tryd.ntmps52
  go_wp2
  refine region_plan0 H [(0, true), (1, true), (2, true)] (by kernel_rfl) (by kernel_rfl) (fun _ _ d_ _ _ h => by cases d_ <;> exact h) (fun HN => ?_); clear H; have H := HN; clear HN; (iterate 3 (first | (refine planLoadBlk ?_ ?_ ?Zi ?Zg ?_ ?_ ?Zo ?Zs ?_ ?_ ?Zx ?_ ?_ ?Zm ?_ ?Zv ?_; (case Zi => rfl); (case Zo => rfl); (case Zs => exact Tsc.out); (case Zg => (first | rfl | (go_simp; done) | fail)); (case Zx => rfl); (case Zm => (repeat (first | exact mh_ | assumption | apply mt_))); (case Zv => (first | rfl | (refine map_ix _ _ _ ?_; first | (with_reducible assumption) | omega | (simp; omega)) | (refine map_ix_app _ _ _ _ ?_; first | (with_reducible assumption) | omega | (simp; omega)) | assumption | (simp; done))); try simp only [q_1, q_2, q_3, q_4]) | (refine planLoadRd ?_ ?_ ?Zi ?Zg ?_ ?_ ?Zo ?Zs ?_ ?_ ?Zx ?_ ?Zr ?_ ?Zv ?_; (case Zi => rfl); (case Zo => rfl); (case Zs => exact Tsc.out); (case Zg => (first | rfl | (go_simp; done) | fail)); (case Zx => rfl); (case Zr => (intro w_ H; first | (refine H.rdOwn (c := ?_) (e := ?_) ?Zm1; (case Zm1 => (repeat (first | exact mh_ | assumption | apply mt_)))) | (refine H.rdRo ?Zm1; (case Zm1 => (repeat (first | exact mh_ | assumption | apply mt_)))) | fail)); (case Zv => (first | rfl | (refine map_ix _ _ _ ?_; first | (with_reducible assumption) | omega | (simp; omega)) | (refine map_ix_app _ _ _ _ ?_; first | (with_reducible assumption) | omega | (simp; omega)) | assumption | (simp; done))); try simp only [q_1, q_2, q_3, q_4]) | (refine planLoadOld ?_ ?_ ?Zi ?Zg ?_ ?_ ?Zo ?Zs ?_ ?Zx ?_ ?Zv ?_; (case Zi => rfl); (case Zo => rfl); (case Zs => exact Tsc.out); (case Zg => (first | rfl | (go_simp; done) | fail)); (case Zx => rfl); (case Zv => assumption); try simp only [q_1, q_2, q_3, q_4]) | (refine planPure ?_ ?_ ?Zi ?Zg ?_ ?Zv ?_; (case Zi => rfl); (case Zg => (first | rfl | (go_simp; done) | fail)); (case Zv => (intro w_; first | (go_simp; (try go_bits); rfl) | (go_simp; done) | fail)); try simp only [q_1, q_2, q_3, q_4]) | (refine planSkip ?_ ?_ ?Zi ?Zg ?_; (case Zi => rfl); (case Zg => (first | rfl | (go_simp; done) | fail)); try simp only [q_1, q_2, q_3, q_4]) | fail)); refine planDone ?_
  go_wp2
  (go_ret2; exact ⟨rfl, H⟩)

set_option maxRecDepth 100000 in
theorem read_long (E : Int → Addr) (w0 w : World) (L : List Ent) (hE : ErrsAll E w0) (A : Option Addr) (n c : Nat) (hn : 8 < n) (H : St w0 w L) :
    Calls Tryd.prog 52 #[.slice A n c] w fun e w' => e = .returned (.tuple #[.float .f64 0, .iface 119 (.pointer (some (E 104)))]) ∧ St w0 w' L := by
  have ct : w0.cell? ⟨3, 0, none⟩ = some (.iface 119 (.pointer (some (E 104)))) := hE.cell 104 (by decide)
  have z1 : decide ((n : Int) < 8) = false := decide_eq_false (by omega)
  have z2 : decide ((8 : Int) < (n : Int)) = true := decide_eq_true (by omega)
  go_enter Tryd.func52, Tryd.ntmps52
  go_wp2
  refine region_plan0 H [(0, true), (1, true), (2, true)] (by kernel_rfl) (by kernel_rfl) (fun _ _ d_ _ _ h => by cases d_ <;> exact h) (fun HN => ?_); clear H; have H := HN; clear HN; (iterate 3 (first | (refine planLoadBlk ?_ ?_ ?Zi ?Zg ?_ ?_ ?Zo ?Zs ?_ ?_ ?Zx ?_ ?_ ?Zm ?_ ?Zv ?_; (case Zi => rfl); (case Zo => rfl); (case Zs => exact Tsc.out); (case Zg => (first | rfl | (go_simp; done) | fail)); (case Zx => rfl); (case Zm => (repeat (first | exact mh_ | assumption | apply mt_))); (case Zv => (first | rfl | (refine map_ix _ _ _ ?_; first | (with_reducible assumption) | omega | (simp; omega)) | (refine map_ix_app _ _ _ _ ?_; first | (with_reducible assumption) | omega | (simp; omega)) | assumption | (simp; done))); try simp only [q_1, q_2, q_3, q_4]) | (refine planLoadRd ?_ ?_ ?Zi ?Zg ?_ ?_ ?Zo ?Zs ?_ ?_ ?Zx ?_ ?Zr ?_ ?Zv ?_; (case Zi => rfl); (case Zo => rfl); (case Zs => exact Tsc.out); (case Zg => (first | rfl | (go_simp; done) | fail)); (case Zx => rfl); (case Zr => (intro w_ H; first | (refine H.rdOwn (c := ?_) (e := ?_) ?Zm1; (case Zm1 => (repeat (first | exact mh_ | assumption | apply mt_)))) | (refine H.rdRo ?Zm1; (case Zm1 => (repeat (first | exact mh_ | assumption | apply mt_)))) | fail)); (case Zv => (first | rfl | (refine map_ix _ _ _ ?_; first | (with_reducible assumption) | omega | (simp; omega)) | (refine map_ix_app _ _ _ _ ?_; first | (with_reducible assumption) | omega | (simp; omega)) | assumption | (simp; done))); try simp only [q_1, q_2, q_3, q_4]) | (refine planLoadOld ?_ ?_ ?Zi ?Zg ?_ ?_ ?Zo ?Zs ?_ ?Zx ?_ ?Zv ?_; (case Zi => rfl); (case Zo => rfl); (case Zs => exact Tsc.out); (case Zg => (first | rfl | (go_simp; done) | fail)); (case Zx => rfl); (case Zv => assumption); try simp only [q_1, q_2, q_3, q_4]) | (refine planPure ?_ ?_ ?Zi ?Zg ?_ ?Zv ?_; (case Zi => rfl); (case Zg => (first | rfl | (go_simp; done) | fail)); (case Zv => (intro w_; first | (go_simp; (try go_bits); rfl) | (go_simp; done) | fail)); try simp only [q_1, q_2, q_3, q_4]) | (refine planSkip ?_ ?_ ?Zi ?Zg ?_; (case Zi => rfl); (case Zg => (first | rfl | (go_simp; done) | fail)); try simp only [q_1, q_2, q_3, q_4]) | fail)); refine planDone ?_
  go_wp2
  (go_ret2; exact ⟨rfl, H⟩)

theorem refRead_short (w : World) (A : Option Addr) (n c : Nat) (hn : n < 8) :
    Calls Tryd.prog 53 #[.slice A n c] w fun e w' => e = .returned (.tuple #[.float .f64 0, .int .i64 105]) ∧ w' = w := by
  have z1 : decide ((n : Int) < 8) = true := decide_eq_true (by omega)
  go_enter Tryd.func53, Tryd.ntmps53
  go_wp2
  go_ret2
  exact ⟨rfl, rfl⟩

theorem refRead_long (w : World) (A : Option Addr) (n c : Nat) (hn : 8 < n) :
    Calls Tryd.prog 53 #[.slice A n c] w fun e w' => e = .returned (.tuple #[.float .f64 0, .int .i64 104]) ∧ w' = w := by
  have z1 : decide ((n : Int) < 8) = false := decide_eq_false (by omega)
  have z2 : decide ((8 : Int) < (n : Int)) = true := decide_eq_true (by omega)
  go_enter Tryd.func53, Tryd.ntmps53
  go_wp2
  go_ret2
  exact ⟨rfl, rfl⟩

/-- An error's value by its number. -/
def errW (E : Int → Addr) (c : Int) : Value := if c = 0 then .nilIface else .iface 119 (.pointer (some (E c)))
def rdX (l : List Int) : Nat := if l.length = 8 then (hig l 8).toNat else 0
def rdE (n : Nat) : Int := if n < 8 then 105 else if 8 < n then 104 else 0
theorem read_any (E : Int → Addr) (w0 w : World) (L : List Ent) (hE : ErrsAll E w0) (A : Option Addr) (l : List Int) (n c : Nat) (hn : n = l.length) (hb : Bytes8 l) (hA : Ent.ro A (l.map (.int .u8)) ∈ L) (H : St w0 w L) :
    Calls Tryd.prog 52 #[.slice A n c] w fun e w' => e = .returned (.tuple #[.float .f64 (rdX l), errW E (rdE n)]) ∧ St w0 w' L := by
  by_cases h1 : n < 8
  · have e1 : rdX l = 0 := if_neg (by omega)
    have e2 : rdE n = 105 := if_pos h1
    rw [e1, e2]
    exact read_short E w0 w L hE A n c h1 H
  by_cases h2 : 8 < n
  · have e1 : rdX l = 0 := if_neg (by omega)
    have e2 : rdE n = 104 := by unfold rdE; rw [if_neg h1, if_pos h2]
    rw [e1, e2]
    exact read_long E w0 w L hE A n c h2 H
  · have e1 : rdX l = (hig l 8).toNat := if_pos (by omega)
    have e2 : rdE n = 0 := by unfold rdE; rw [if_neg h1, if_neg h2]
    rw [e1, e2]
    exact read_ok w0 w L A l n c hn (by omega) hb hA H
theorem refRead_any (w0 w : World) (L : List Ent) (A : Option Addr) (l : List Int) (n c : Nat) (hn : n = l.length) (hb : Bytes8 l) (hA : Ent.ro A (l.map (.int .u8)) ∈ L) (H : St w0 w L) :
    Calls Tryd.prog 53 #[.slice A n c] w fun e w' => e = .returned (.tuple #[.float .f64 (rdX l), .int .i64 (rdE n)]) ∧ St w0 w' L := by
  by_cases h1 : n < 8
  · have e1 : rdX l = 0 := if_neg (by omega)
    have e2 : rdE n = 105 := if_pos h1
    rw [e1, e2]
    exact (refRead_short w A n c h1).mono fun e w' h => ⟨h.1, by rw [h.2]; exact H⟩
  by_cases h2 : 8 < n
  · have e1 : rdX l = 0 := if_neg (by omega)
    have e2 : rdE n = 104 := by unfold rdE; rw [if_neg h1, if_pos h2]
    rw [e1, e2]
    exact (refRead_long w A n c h2).mono fun e w' h => ⟨h.1, by rw [h.2]; exact H⟩
  · have e1 : rdX l = (hig l 8).toNat := if_pos (by omega)
    have e2 : rdE n = 0 := by unfold rdE; rw [if_neg h1, if_neg h2]
    rw [e1, e2]
    exact refRead_ok w0 w L A l n c hn (by omega) hb hA H
theorem rdE_code (n : Nat) : rdE n = 0 ∨ rdE n ∈ codes := by
  unfold rdE
  split
  · right; simp [codes]
  split
  · right; simp [codes]
  · left; rfl
theorem fb_lt {x : Nat} (hx : x < 18446744073709551616) : fb x < 18446744073709551616 := by unfold fb; split <;> omega
theorem read_back (w0 w : World) (L : List Ent) (x : Nat) (hx : x < 18446744073709551616) (A : Option Addr) (c : Nat) (hm : Ent.own A ((lows (fb x : Int) 8).map (.int .u8)) c 5 ∈ L) (H : St w0 w L) :
    Calls Tryd.prog 52 #[.slice A 8 c] w fun e w' => e = .returned (.tuple #[.float .f64 (fb x), .nilIface]) ∧ St w0 w' L := by
  have h := read_ok w w _ A (lows (fb x : Int) 8) 8 c (lows_len _ 8).symm (lows_len _ 8) (lows_bytes _ 8) (List.mem_cons_self ..) (St.ro1 (H.rdOwn hm))
  have e : (hig (lows (fb x : Int) 8) 8).toNat = fb x := by
    have h2 := hig_lows (fb x : Int) 8 []
    rw [List.append_nil] at h2
    rw [h2]
    have := fb_lt hx
    rw [show (2 : Int) ^ (8 * 8) = 18446744073709551616 by decide]
    omega
  rw [e] at h
  exact h.mono fun e w' h => ⟨h.1, H.app h.2.below⟩
theorem fb_same (x : Nat) : sameW (fb x) x = true := by
  unfold fb
  cases h : isn x
  · rw [if_neg (by decide)]; exact sameW_self x
  · rw [if_pos rfl]; unfold sameW; rw [h, show isn 9221120237041090561 = true by decide]; rfl
theorem sameBytes_row (w : World) (A B : Option Addr) (xs : List Int) (n m c c' : Nat) (hn : n = xs.length) (hm : m = xs.length) (hs : xs.length ≤ 1000000000000) (hA : Rd w A (xs.map (.int .u8))) (hB : Rd w B (xs.map (.int .u8))) :
    Calls Tryd.prog 55 #[.slice A n c, .slice B m c'] w fun e w' => e = .returned (.bool true) ∧ Below w.heap.size w w' :=
  (sameBytes_any w w _ A B xs xs n m c c' hn hm hs (List.Mem.head _) (List.Mem.tail _ (List.Mem.head _)) (St.ro2 hA hB)).mono fun e w' h => ⟨by rw [h.1]; simp, h.2.below⟩
theorem is_sameW (E : Int → Addr) (w : World) (c : Int) (hc : c = 0 ∨ c ∈ codes) (hE : ErrsAll E w) :
    Calls Tryd.prog 25 #[errW E c, .int .i64 c] w fun e w' => e = .returned (.bool true) ∧ Below w.heap.size w w' := by
  by_cases h : c = 0
  · subst h
    rw [show errW E 0 = .nilIface from if_pos rfl]
    exact (is_any E w .none _ 0 rfl hE).mono fun e w' h => ⟨by rw [h.1]; rfl, h.2⟩
  · have hc2 : c ∈ codes := by
      rcases hc with hc | hc
      · exact absurd hc h
      · exact hc
    rw [show errW E c = .iface 119 (.pointer (some (E c))) from if_neg h]
    exact (is_any E w (.s c) _ c ⟨hc2, rfl⟩ hE).mono fun e w' h => ⟨by rw [h.1]; simp [sameF, Er.code, Er.placed, Er.pos], h.2⟩

set_option maxRecDepth 100000 in
set_option maxHeartbeats 2000000 in
theorem fltBytes_any (E : Int → Addr) (w : World) (hE : ErrsAll E w) (hT : TabC w) (x : Nat) (hx : x < 18446744073709551616) (A : Option Addr) (l : List Int) (c : Nat) (hb : Bytes8 l) (hA : Rd w A (l.map (.int .u8))) :
    Calls Tryd.prog 11 #[.float .f64 x, .slice A l.length c] w fun e w' => e = .returned (.bool true) ∧ St w w' [] := by
  have H := St.ro1 hA
  by_cases hl : 40 < l.length
  · have z1 : decide ((40 : Int) < (l.length : Int)) = true := decide_eq_true (by omega)
    go_enter Tryd.func11, Tryd.ntmps11
    go_wp2_with (first | (go_at_call 31; refine (first3_any _ _ _ hT H).mono ?_; rintro e_ w_ ⟨rfl, HN⟩; clear H; have H := HN; clear HN))
    (go_ret; exact ⟨rfl, H.sub (List.nil_sublist _)⟩)
  · have z1 : decide ((40 : Int) < (l.length : Int)) = false := decide_eq_false (by omega)
    have y1 := sameW_self (rdX l)
    have y2 := fb_same x
    have y3 := rdE_code l.length
    have n2 : ∀ (w : World), (binOp .eql 25 .nilIface .nilIface).run Tryd.prog w = .ok (.bool true) w := fun w => by kernel_rfl
    obtain ⟨B, hB⟩ : ∃ B, B = l.length := ⟨_, rfl⟩
    clear hl
    go_enter Tryd.func11, Tryd.ntmps11
    go_wp2_with (first | (go_at_call 31; refine (first3_any _ _ _ hT H).mono ?_; rintro e_ w_ ⟨rfl, HN⟩; clear H; have H := HN; clear HN))
    refine (read_any E _ _ _ hE A l _ c rfl hb (by repeat (first | exact mh_ | assumption | apply mt_)) H).mono ?_
    rintro e_ w_ ⟨rfl, HN⟩
    clear H; have H := HN; clear HN
    go_wp2_with (first | (go_at_call 53; refine (refRead_any _ _ _ A l _ c rfl hb (by repeat (first | exact mh_ | assumption | apply mt_)) H).mono ?_; rintro e_ w_ ⟨rfl, HN⟩; clear H; have H := HN; clear HN))
    refine (bytes_f _ _ _ x hx H).mono ?_
    rintro e_ w_ ⟨A1, c1, rfl, HN⟩
    clear H; have H := HN; clear HN
    go_wp2_with (fail)
    refine (read_back _ _ _ x hx A1 c1 (by repeat (first | exact mh_ | assumption | apply mt_)) H).mono ?_
    rintro e_ w_ ⟨rfl, HN⟩
    clear H; have H := HN; clear HN
    generalize rdE l.length = er at *
    generalize rdX l = X at *
    go_wp2_with (first | (go_at_call 54; refine (bytes_f _ _ _ x hx H).mono ?_; rintro e_ w_ ⟨A2, c2, rfl, HN⟩; clear H; have H := HN; clear HN) | (go_at_call 56; refine (refBytes_f _ _ _ x hx H).mono ?_; rintro e_ w_ ⟨A3, c3, rfl, HN⟩; clear H; have H := HN; clear HN) | (go_at_call 55; refine (sameBytes_row _ A2 A3 (lows (fb x : Int) 8) 8 8 c2 c3 (lows_len _ 8).symm (lows_len _ 8).symm (by rw [lows_len]; decide) (H.rdOwn (by repeat (first | exact mh_ | assumption | apply mt_))) (H.rdOwn (by repeat (first | exact mh_ | assumption | apply mt_)))).mono ?_; rintro e_ w_ ⟨rfl, hb_⟩; have HN := H.app hb_; clear hb_; clear H; have H := HN; clear HN) | (go_at_call 37; (with_reducible refine (same_any X X _).mono ?_); rintro e_ w_ ⟨rfl, rfl⟩; ) | (go_at_call 37; (with_reducible refine (same_any (fb x) x _).mono ?_); rintro e_ w_ ⟨rfl, rfl⟩; ) | (go_at_call 25; refine (is_sameW E _ er y3 (hE.mono H.below)).mono ?_; rintro e_ w_ ⟨rfl, hb_⟩; have HN := H.app hb_; clear hb_; clear H; have H := HN; clear HN))
    (go_ret; exact ⟨by first | rfl | (simp [y1, y2]; done), H.sub (List.nil_sublist _)⟩)
end Go.Proofs.YtcpfangcibilaaaDoor
