/- DrrLeaves, walked. No condition. -/
import Derived.Test.YtgbgplhiiaiifaaDoorKm
namespace Go.Proofs.YtgbgplhiiaiifaaDoor
set_option linter.unusedVariables false
set_option linter.unusedSimpArgs false
open Go.RowKit

/-- What a turn does to a ring, whosever it is. -/
def StepR (fx : Bool) (ps ps' : List (Option Pc)) (last k last' : Int) : Prop :=
  (k = -1 ∧ ps' = ps ∧ last' = last) ∨ ∃ (j : Nat) (p : Pc) (A : Option Addr) (c : Nat), k = (j : Int) ∧ j < 16 ∧ ps[j]? = some (some p) ∧ okK fx ps j = true ∧ ps' = ps.set j (some (tP p A c)) ∧ last' = (j : Int)
theorem turn_step (w0 w : World) (L : List Ent) (f : List Ent → List Ent) (g : Nat) (fx : Bool) (last : Int) (ps : List (Option Pc)) (hP : PullA (rgE g fx last ps) L f) (h16 : ps.length = 16) (nx : Nat) (hl : last + 1 = (nx : Int)) (hnx : nx ≤ 16) (hG : ∀ (k : Nat) (p : Pc), ps[k]? = some (some p) → Good p) (H : St w0 w L) :
    Calls Tryd.prog 14 #[.pointer (some ⟨g, 0, none⟩)] w fun e w' => ∃ (k m last' : Int) (B : Option Addr) (nB cB : Nat) (ps' : List (Option Pc)), e = .returned (.tuple #[.int .i64 k, .int .i64 m, .slice B nB cB]) ∧ StepR fx ps ps' last k last' ∧ St w0 w' (f (rgE g fx last' ps')) := by
  rcases nxt_or nx (okK fx ps) with ⟨k, hx⟩ | hno
  · obtain ⟨p, hp, _⟩ := okK_some hx.ok
    refine (turn_good w0 w L f g fx last ps hP h16 nx hl hnx k p hp hx (hG k p hp) H).mono fun e w' ⟨A', c', B, cB, e1, e2⟩ => ?_
    exact ⟨k, _, k, B, _, cB, _, e1, .inr ⟨k, p, A', c', rfl, hx.lt, hp, hx.ok, rfl, rfl⟩, e2.sub (List.sublist_cons_self _ _)⟩
  · refine (turn_none w0 w L f g fx last ps hP h16 nx hl hnx hno H).mono fun e w' ⟨e1, e2⟩ => ?_
    obtain ⟨T, h1, h2⟩ := hP.perm
    exact ⟨-1, 0, last, none, 0, 0, ps, e1, .inl ⟨rfl, rfl, rfl⟩, (e2.perm h1).perm (h2 _).symm⟩
theorem Cov.good {ps : List (Option Pc)} {n : Nat} (h : Cov ps n (fun _ p => Good p)) : ∀ (k : Nat) (p : Pc), ps[k]? = some (some p) → Good p := fun k p hp => by
  rcases Nat.lt_or_ge k n with h1 | h1
  · obtain ⟨p', h2, h3⟩ := h.used k h1
    rw [hp] at h2
    obtain rfl := Option.some.inj (Option.some.inj h2)
    exact h3
  · rcases Nat.lt_or_ge k 16 with h2 | h2
    · rw [h.free k h1 h2] at hp; cases hp
    · rw [List.getElem?_eq_none (by have := h.len; omega)] at hp; cases hp
theorem StepR.cov {fx : Bool} {ps ps' : List (Option Pc)} {last k last' : Int} {n : Nat} (h : StepR fx ps ps' last k last') (hC : Cov ps n (fun _ p => Good p)) (nx : Nat) (hl : last + 1 = (nx : Int)) (hnx : nx ≤ 16) : Cov ps' n (fun _ p => Good p) ∧ ∃ nx' : Nat, last' + 1 = (nx' : Int) ∧ nx' ≤ 16 := by
  rcases h with ⟨_, rfl, rfl⟩ | ⟨j, p, A, c, _, h16, hp, hok, rfl, rfl⟩
  · exact ⟨hC, nx, hl, hnx⟩
  · exact ⟨hC.set j (hC.ok hok).1 _ (good_tP (hC.good j p hp) A c), j + 1, by omega, by omega⟩
/-- All of the first n but one are somebody's. -/
structure CovX (ps : List (Option Pc)) (n a : Nat) : Prop where
  len : ps.length = 16
  at_ : ps[a]? = some none
  used : ∀ j, j < n → j ≠ a → ∃ p, ps[j]? = some (some p)
  free : ∀ j, n ≤ j → j < 16 → ps[j]? = some none
  good : ∀ (k : Nat) (p : Pc), ps[k]? = some (some p) → Good p
theorem Cov.leave {ps : List (Option Pc)} {n a : Nat} (h : Cov ps n (fun _ p => Good p)) (ha : a < n) : CovX (ps.set a none) n a := by
  have hl := h.len
  have hle := h.le
  refine ⟨by rw [List.length_set, hl], by rw [List.getElem?_set_self (by omega)], fun j h1 h2 => ?_, fun j h1 h2 => ?_, fun k p hp => ?_⟩
  · obtain ⟨p, hp, _⟩ := h.used j h1
    exact ⟨p, by rw [List.getElem?_set_ne (by omega), hp]⟩
  · rw [List.getElem?_set_ne (by omega)]; exact h.free j h1 h2
  · by_cases e : k = a
    · subst e; rw [List.getElem?_set_self (by omega)] at hp; cases hp
    · rw [List.getElem?_set_ne (by omega)] at hp; exact h.good k p hp
theorem CovX.step {fx : Bool} {ps ps' : List (Option Pc)} {last k last' : Int} {n a : Nat} (hC : CovX ps n a) (h : StepR fx ps ps' last k last') (nx : Nat) (hl : last + 1 = (nx : Int)) (hnx : nx ≤ 16) : CovX ps' n a ∧ k ≠ (a : Int) ∧ ∃ nx' : Nat, last' + 1 = (nx' : Int) ∧ nx' ≤ 16 := by
  rcases h with ⟨rfl, rfl, rfl⟩ | ⟨j, p, A, c, rfl, h16, hp, hok, rfl, rfl⟩
  · exact ⟨hC, by omega, nx, hl, hnx⟩
  · have hja : j ≠ a := fun e => by subst e; rw [hC.at_] at hp; cases hp
    have hl16 := hC.len
    refine ⟨⟨by rw [List.length_set, hC.len], by rw [List.getElem?_set_ne (by omega)]; exact hC.at_, fun i h1 h2 => ?_, fun i h1 h2 => ?_, fun i q hq => ?_⟩, by omega, j + 1, by omega, by omega⟩
    · by_cases e : i = j
      · subst e; exact ⟨_, by rw [List.getElem?_set_self (by omega)]⟩
      · obtain ⟨q, hq⟩ := hC.used i h1 h2
        exact ⟨q, by rw [List.getElem?_set_ne (by omega), hq]⟩
    · by_cases e : i = j
      · subst e; rw [hC.free i h1 h2] at hp; cases hp
      · rw [List.getElem?_set_ne (by omega)]; exact hC.free i h1 h2
    · by_cases e : i = j
      · subst e
        rw [List.getElem?_set_self (by omega)] at hq
        obtain rfl := Option.some.inj (Option.some.inj hq)
        exact good_tP (hC.good i p hp) A c
      · rw [List.getElem?_set_ne (by omega)] at hq; exact hC.good i q hq
theorem CovX.count {ps : List (Option Pc)} {n a : Nat} (h : CovX ps n a) (ha : a < n) (hn : n ≤ 16) : (usedTo ps 16).length = n - 1 := by
  have key : ∀ j, j ≤ 16 → (usedTo ps j).length = if j ≤ a then j else if j ≤ n then j - 1 else n - 1 := by
    intro j
    induction j with
    | zero => intro _; simp [usedTo]
    | succ j ih =>
      intro hj
      have ih := ih (by omega)
      by_cases e : j = a
      · subst e
        rw [usedTo_none h.at_, ih]
        (repeat' split) <;> omega
      · by_cases e2 : j < n
        · obtain ⟨p, hp⟩ := h.used j e2 e
          rw [usedTo_some hp, List.length_append, ih]
          simp only [List.length_singleton]
          (repeat' split) <;> omega
        · rw [usedTo_none (h.free j (by omega) (by omega)), ih]
          (repeat' split) <;> omega
  rw [key 16 (Nat.le_refl _)]
  (repeat' split) <;> omega
theorem CovX.freeAt {ps : List (Option Pc)} {n a : Nat} (h : CovX ps n a) (ha : a < n) : FreeAt ps a := ⟨h.at_, fun t ht e => by
  obtain ⟨p, hp⟩ := h.used t (by omega) (by omega)
  rw [hp] at e; cases e⟩
theorem CovX.atV {ps : List (Option Pc)} {n a : Nat} (h : CovX ps n a) : atV ps (a : Int) = none := atV_nat ps a none h.len h.at_
section
variable (w0 w : World) (L : List Ent) (f : List Ent → List Ent) (g : Nat) (fx : Bool) (last : Int) (ps : List (Option Pc)) (hP : PullA (rgE g fx last ps) L f) (h16 : ps.length = 16) (k : Int) (hk : atV ps k = none) (H : St w0 w L)
include hP h16 hk H
theorem deficit_none : Calls Tryd.prog 18 #[.pointer (some ⟨g, 0, none⟩), .int .i64 k] w fun e w' => e = .returned (.int .i64 0) ∧ w' = w := by
  have h := deficit_any w0 w L f g fx last ps hP h16 k H
  rwa [hk] at h
theorem served_none : Calls Tryd.prog 17 #[.pointer (some ⟨g, 0, none⟩), .int .i64 k] w fun e w' => e = .returned (.int .i64 0) ∧ w' = w := by
  have h := served_any w0 w L f g fx last ps hP h16 k H
  rwa [hk] at h
theorem waiting_none : Calls Tryd.prog 16 #[.pointer (some ⟨g, 0, none⟩), .int .i64 k] w fun e w' => ∃ A' c', e = .returned (.slice A' 0 c') ∧ St w0 w' L := by
  have h := waiting_any w0 w L f g fx last ps hP h16 k (by rw [hk]; decide) H
  rw [hk] at h
  exact h.mono fun e w' ⟨A, c, e1, e2⟩ => ⟨A, c, e1, e2.sub (List.sublist_cons_self _ _)⟩
theorem leave_none : Calls Tryd.prog 19 #[.pointer (some ⟨g, 0, none⟩), .int .i64 k] w fun e w' => e = .returned (.bool false) ∧ St w0 w' (f (rgE g fx last ps)) := by
  have h := leave_any w0 w L f g fx last ps hP h16 k H
  rw [hk] at h
  exact h
end
theorem places_n (w0 w : World) (L : List Ent) (f : List Ent → List Ent) (g : Nat) (fx : Bool) (last : Int) (ps : List (Option Pc)) (hP : PullA (rgE g fx last ps) L f) (h16 : ps.length = 16) (n : Nat) (hn : (usedTo ps 16).length = n) (H : St w0 w L) :
    Calls Tryd.prog 20 #[.pointer (some ⟨g, 0, none⟩)] w fun e w' => ∃ A' c', e = .returned (.slice A' n c') ∧ St w0 w' L := by
  subst hn
  exact (places_any w0 w L f g fx last ps hP h16 H).mono fun e w' ⟨A, c, e1, e2⟩ => ⟨A, c, e1, e2.sub (List.sublist_cons_self _ _)⟩
end Go.Proofs.YtgbgplhiiaiifaaDoor
