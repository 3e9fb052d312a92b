/- Of and Bytes, where what they read may be read. No condition but sizes. -/
import Derived.Test.YthlipmehnkhijaaDoorHj
namespace Go.Proofs.YthlipmehnkhijaaDoor
set_option linter.unusedVariables false
set_option linter.unusedSimpArgs false
open Go.RowKit
theorem outs_bytes (hs : List Int) (m : Nat) : Bytes8 (outs hs m) := by
  induction m with
  | zero =>
    intro i
    simp only [outs, ix, List.getD_eq_getElem?_getD, List.getElem?_replicate]
    split <;> simp
  | succ m ih =>
    intro i
    have h := ih i
    simp only [outs, ix, List.getD_eq_getElem?_getD, List.getElem?_set] at h ⊢
    split
    · split
      · simp only [Option.getD_some]; omega
      · simp
    · exact h
theorem digest_bytes (m : List Int) : Bytes8 (digest m) := by unfold digest; exact outs_bytes _ _
theorem mod_lt (x : Int) (n : Nat) (h : 0 < n) : ∃ j : Nat, x % (n : Int) = (j : Int) ∧ j < n := by
  have u1 := Int.emod_nonneg x (show (n : Int) ≠ 0 by omega)
  have u2 := Int.emod_lt_of_pos x (show 0 < (n : Int) by omega)
  exact ⟨(x % (n : Int)).toNat, by omega, by omega⟩
theorem nmb {w0 w : World} {L M : List Ent} {a t : Nat} {c : List Value} (H : St w0 w L) (h : Pull (.blk a c t) L M) : ∃ x, x = a := ⟨_, rfl⟩
theorem nmo {w0 w : World} {L M : List Ent} {a o c e : Nat} {xs : List Value} (H : St w0 w L) (h : Pull (.own (some ⟨a, o, none⟩) xs c e) L M) : ∃ x, x = a := ⟨_, rfl⟩
theorem nmr {w0 w : World} {L M : List Ent} {A : Option Addr} {xs : List Value} (H : St w0 w L) (h : Pull (.ro A xs) L M) : ∃ x, x = A := ⟨_, rfl⟩
theorem nmp {w0 w : World} {L M : List Ent} {A : Option Addr} {c e : Nat} {xs : List Value} (H : St w0 w L) (h : Pull (.own A xs c e) L M) : ∃ x, x = A := ⟨_, rfl⟩
theorem St.ros (w : World) : ∀ l : List (Option Addr × List Value), (∀ x ∈ l, Rd w x.1 x.2) → St w w (l.map fun x => Ent.ro x.1 x.2)
  | [], _ => St.start w
  | x :: l, h => (St.ros w l (fun y hy => h y (List.mem_cons_of_mem _ hy))).addRo (h x (List.mem_cons_self ..)) (fun k hk e he => by
      obtain ⟨y, _, rfl⟩ := List.mem_map.1 he
      intro h; cases h)
theorem pull_of_mem {e : Ent} : ∀ {L : List Ent}, e ∈ L → ∃ M, Pull e L M ∧ ∀ x ∈ L, x ≠ e → x ∈ M
  | a :: L, h => by
    rcases List.mem_cons.1 h with rfl | h
    · exact ⟨L, .head, fun x hx hn => by
        rcases List.mem_cons.1 hx with rfl | hx
        · exact absurd rfl hn
        · exact hx⟩
    · obtain ⟨M, h1, h2⟩ := pull_of_mem h
      exact ⟨a :: M, .tail h1, fun x hx hn => by
        rcases List.mem_cons.1 hx with rfl | hx
        · exact List.mem_cons_self ..
        · exact List.mem_cons_of_mem _ (h2 x hx hn)⟩
/-- Of, where its parts may be read: it only makes memory. -/
theorem of_new (w : World) (P : Option Addr) (n c0 : Nat) (ps : List (Option Addr × List Int × Nat)) (hn : n = ps.length) (hP : Rd w P (ps.map pv)) (hp : ∀ p ∈ ps, Rd w p.1 (p.2.1.map (.int .u8))) (hm : (joined ps).length ≤ 900000) (hc : ps.length ≤ 1000) :
    Calls Tryd.prog 48 #[.slice P n c0] w fun e w' => e = .returned (.agg ((digest (joined ps)).map (.int .u8)).toArray) ∧ Below w.heap.size w w' := by
  have H := St.ros w ((P, ps.map pv) :: ps.map fun p => (p.1, p.2.1.map (.int .u8))) (fun x hx => by
    rcases List.mem_cons.1 hx with rfl | hx
    · exact hP
    · obtain ⟨p, hpm, rfl⟩ := List.mem_map.1 hx
      exact hp p hpm)
  refine (of_any w w _ P n c0 ps hn (by exact List.mem_map.2 ⟨_, List.mem_cons_self .., rfl⟩) (fun p hpm => by exact List.mem_map.2 ⟨((p.1, p.2.1.map (Value.int .u8)) : Option Addr × List Value), List.mem_cons_of_mem _ (List.mem_map.2 ⟨p, hpm, rfl⟩), rfl⟩) hm hc H).mono fun e w' h => ⟨h.1, h.2.below⟩
/-- A copy of bytes that may be read. -/
theorem bytes_new (w : World) (A : Option Addr) (bs : List Int) (n c : Nat) (hn : n = bs.length) (hA : Rd w A (bs.map (.int .u8))) (hm : bs.length ≤ 1000000) :
    Calls Tryd.prog 16 #[.slice A n c] w fun e w' => ∃ B k, e = .returned (.slice B bs.length k) ∧ St w w' [.own B (bs.map (.int .u8)) k 5] :=
  (bytes_any w w _ A bs n c hn (List.mem_singleton.2 rfl) hm (St.ro1 hA)).mono fun e w' h => by
    obtain ⟨B, k, h1, h2⟩ := h
    exact ⟨B, k, h1, h2.sub ((List.nil_sublist _).cons_cons _)⟩
end Go.Proofs.YthlipmehnkhijaaDoor
