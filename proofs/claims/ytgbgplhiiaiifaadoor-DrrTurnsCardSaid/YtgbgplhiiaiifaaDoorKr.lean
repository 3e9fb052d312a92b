/- DrrTurns: turns in an order; places with equal costs. Plain laws. No condition. -/
import Derived.Test.YtgbgplhiiaiifaaDoorKk
namespace Go.Proofs.YtgbgplhiiaiifaaDoor
set_option linter.unusedVariables false
set_option linter.unusedSimpArgs false
open Go.RowKit
/-- Where a search begins, behind t turns of those in sm, one behind the other. -/
def nxS (sm : List Nat) (t : Nat) : Nat := if t = 0 then 0 else sm.getD ((t - 1) % sm.length) 0 + 1
theorem mod_succ (t L : Nat) (hL : 0 < L) : (t + 1) % L = if t % L + 1 < L then t % L + 1 else 0 := by
  have h := Nat.mod_lt t hL
  rw [← Nat.mod_add_mod]
  split
  · exact Nat.mod_eq_of_lt (by omega)
  · rw [show t % L + 1 = L by omega, Nat.mod_self]
theorem nxt_sorted (sm : List Nat) (ok : Nat → Bool) (hs : sm.Pairwise (· < ·)) (hm : ∀ j, j < 16 → (ok j = true ↔ j ∈ sm)) (h16 : ∀ j, j ∈ sm → j < 16) (hne : 0 < sm.length) (t : Nat) : NxtIs (nxS sm t) ok (sm.getD (t % sm.length) 0) := by
  have hg : ∀ r (h : r < sm.length), sm.getD r 0 = sm[r] := fun r h => by rw [List.getD_eq_getElem?_getD, List.getElem?_eq_getElem h]; rfl
  have hlt : ∀ a b, a < b → b < sm.length → sm.getD a 0 < sm.getD b 0 := fun a b h1 h2 => by
    rw [hg a (by omega), hg b h2]
    exact List.pairwise_iff_getElem.1 hs a b (by omega) h2 h1
  have hin : ∀ r, r < sm.length → sm.getD r 0 < 16 ∧ ok (sm.getD r 0) = true := fun r h => by
    have h1 : sm.getD r 0 ∈ sm := by rw [hg r h]; exact List.getElem_mem _
    exact ⟨h16 _ h1, (hm _ (h16 _ h1)).2 h1⟩
  have hno : ∀ x, x < 16 → (∀ r, r < sm.length → sm.getD r 0 ≠ x) → ok x = false := fun x hx h => by
    cases hb : ok x with
    | false => rfl
    | true =>
      obtain ⟨r, hr, e⟩ := List.getElem_of_mem ((hm x hx).1 hb)
      exact absurd (by rw [hg r hr]; exact e) (h r hr)
  have hle : ∀ r, r < sm.length → sm.getD 0 0 ≤ sm.getD r 0 := fun r h => by
    rcases Nat.eq_zero_or_pos r with rfl | h0
    · exact Nat.le_refl _
    · exact Nat.le_of_lt (hlt 0 r h0 h)
  unfold nxS
  split
  · rename_i e
    subst e
    rw [Nat.zero_mod]
    obtain ⟨h1, h2⟩ := hin 0 hne
    refine ⟨sm.getD 0 0, h1, by omega, h2, fun x hx => ?_⟩
    rw [Nat.zero_add, Nat.mod_eq_of_lt (by omega)]
    exact hno x (by omega) (fun r hr e => by have := hle r hr; omega)
  · rename_i h0
    obtain ⟨t', rfl⟩ : ∃ t', t = t' + 1 := ⟨t - 1, by omega⟩
    rw [Nat.add_sub_cancel, mod_succ t' _ hne]
    have ha := Nat.mod_lt t' hne
    obtain ⟨a, hae⟩ : ∃ a, a = t' % sm.length := ⟨_, rfl⟩
    rw [← hae] at ha ⊢
    obtain ⟨u1, u2⟩ := hin a ha
    split
    · rename_i h1
      obtain ⟨v1, v2⟩ := hin (a + 1) h1
      have huv := hlt a (a + 1) (by omega) h1
      refine ⟨sm.getD (a + 1) 0 - (sm.getD a 0 + 1), by omega, by omega, v2, fun x hx => ?_⟩
      rw [Nat.mod_eq_of_lt (by omega)]
      refine hno _ (by omega) (fun r hr e => ?_)
      rcases Nat.lt_trichotomy r a with h | h | h
      · have := hlt r a h ha; omega
      · subst h; omega
      · rcases Nat.lt_or_ge (a + 1) r with h2 | h2
        · have := hlt (a + 1) r h2 hr; omega
        · rw [show r = a + 1 by omega] at e; omega
    · rename_i h1
      obtain ⟨v1, v2⟩ := hin 0 hne
      have hvu := hle a ha
      refine ⟨15 - sm.getD a 0 + sm.getD 0 0, by omega, by omega, v2, fun x hx => ?_⟩
      refine hno _ (Nat.mod_lt _ (by decide)) (fun r hr e => ?_)
      have h3 := hle r hr
      have h4 : sm.getD r 0 ≤ sm.getD a 0 := by
        rcases Nat.lt_trichotomy r a with h | h | h
        · exact Nat.le_of_lt (hlt r a h ha)
        · rw [h]; exact Nat.le_refl _
        · omega
      omega
theorem nxS_succ (sm : List Nat) (t : Nat) : nxS sm (t + 1) = sm.getD (t % sm.length) 0 + 1 := by
  unfold nxS
  rw [if_neg (by omega), Nat.add_sub_cancel]
theorem nxS_le (sm : List Nat) (h16 : ∀ j, j ∈ sm → j < 16) (t : Nat) : nxS sm t ≤ 16 := by
  unfold nxS
  split
  · omega
  · rw [List.getD_eq_getElem?_getD]
    cases h : sm[(t - 1) % sm.length]? with
    | none => simp
    | some x => have := h16 x (List.mem_of_getElem? h); simp; omega
theorem range_sorted (n : Nat) : (List.range n).Pairwise (· < ·) := List.pairwise_lt_range
/-! ### places of equal costs -/
theorem sv_two (r : Nat) : sv 2000 (List.replicate (r + 3) 1000) = ([1000, 1000], List.replicate (r + 1) 1000, 0) := by
  rw [show r + 3 = (r + 1) + 1 + 1 by omega, List.replicate_succ, List.replicate_succ]
  rw [sv_cons _ _ _ (by decide), sv_cons _ _ _ (by decide), List.replicate_succ, sv_stop _ _ _ (by decide)]
  rfl
def FT (bz : Nat → Bool) (T j : Nat) (p : Pc) : Prop :=
  p.q = 2000 ∧ p.d = 0 ∧ 0 ≤ p.s ∧ p.s ≤ 2000 * (T : Int) ∧ ∃ r, p.l = List.replicate r 1000 ∧ r ≤ 100 ∧ (bz j = true → 100 ≤ r + 2 * T) ∧ (bz j = false → r = 0)
theorem sum_rep (r : Nat) : (List.replicate r (1000 : Int)).sum = 1000 * (r : Int) := by
  induction r with
  | zero => rfl
  | succ r ih => rw [List.replicate_succ, List.sum_cons, ih]; omega
theorem FT.good {bz : Nat → Bool} {T j : Nat} {p : Pc} (h : FT bz T j p) (hT : T ≤ 100) : Good p := by
  obtain ⟨h1, h2, h3, h4, r, h5, h6, _, _⟩ := h
  refine ⟨by omega, by omega, by omega, by omega, h3, ?_, fun c hc => ?_⟩
  · rw [h5, sum_rep]; omega
  · rw [h5] at hc
    obtain ⟨_, rfl⟩ := List.mem_replicate.1 hc
    decide
theorem FT.more {bz : Nat → Bool} {T j : Nat} {p : Pc} (h : FT bz T j p) : FT bz (T + 1) j p := by
  obtain ⟨h1, h2, h3, h4, r, h5, h6, h7, h8⟩ := h
  exact ⟨h1, h2, h3, by omega, r, h5, h6, fun h => by have := h7 h; omega, h8⟩
theorem FT.turn {bz : Nat → Bool} {T j : Nat} {p : Pc} (h : FT bz T j p) (hT : T < 45) (A : Option Addr) (c : Nat) : FT bz (T + 1) j (tP p A c) := by
  obtain ⟨h1, h2, h3, h4, r, h5, h6, h7, h8⟩ := h
  cases hb : bz j with
  | false =>
    obtain rfl := h8 hb
    have e : sv (p.d + p.q) p.l = ([], [], 0) := by rw [h5]; rfl
    refine ⟨h1, (by unfold tP; rw [e]), ?_, ?_, 0, (by unfold tP; rw [e]; rfl), (by omega), (fun h => absurd (hb.symm.trans h) (by decide)), (fun _ => rfl)⟩
    · show 0 ≤ p.s + (sv (p.d + p.q) p.l).1.sum
      rw [e]; simpa using h3
    · show p.s + (sv (p.d + p.q) p.l).1.sum ≤ _
      rw [e]; simp; omega
  | true =>
    have := h7 hb
    obtain ⟨r', rfl⟩ : ∃ r', r = r' + 3 := ⟨r - 3, by omega⟩
    have e : sv (p.d + p.q) p.l = ([1000, 1000], List.replicate (r' + 1) 1000, 0) := by rw [h1, h2, h5]; exact sv_two r'
    refine ⟨h1, (by unfold tP; rw [e]), ?_, ?_, r' + 1, (by unfold tP; rw [e]), (by omega), (fun _ => by omega), (fun h => absurd (hb.symm.trans h) (by decide))⟩
    · show 0 ≤ p.s + (sv (p.d + p.q) p.l).1.sum
      rw [e]; simp; omega
    · show p.s + (sv (p.d + p.q) p.l).1.sum ≤ _
      rw [e]; simp; omega
/-- While place i is told its costs. -/
def FI (bz : Nat → Bool) (i t j : Nat) (p : Pc) : Prop := if j = i then p.q = 2000 ∧ p.d = 0 ∧ p.s = 0 ∧ p.l = List.replicate t 1000 else FT bz 0 j p
theorem FI.push {bz : Nat → Bool} {i t : Nat} {n : Nat} {ps : List (Option Pc)} (h : Cov ps n (FI bz i t)) (hi : i < n) {p : Pc} (hp : ps[i]? = some (some p)) (A : Option Addr) (c : Nat) : Cov (ps.set i (some { p with A := A, c := c, l := p.l ++ [1000] })) n (FI bz i (t + 1)) := by
  obtain ⟨p', hp', hF⟩ := h.used i hi
  rw [hp] at hp'
  obtain rfl := Option.some.inj (Option.some.inj hp')
  unfold FI at hF
  rw [if_pos rfl] at hF
  have hl := h.len
  have hle := h.le
  refine ⟨by rw [List.length_set, hl], h.le, fun j hj => ?_, fun j h1 h2 => ?_⟩
  · by_cases hj2 : j = i
    · subst hj2
      refine ⟨_, by rw [List.getElem?_set_self (by omega)], ?_⟩
      unfold FI
      rw [if_pos rfl]
      refine ⟨hF.1, hF.2.1, hF.2.2.1, ?_⟩
      show p.l ++ [1000] = _
      rw [hF.2.2.2, List.replicate_succ']
    · obtain ⟨q, h1, h2⟩ := h.used j hj
      refine ⟨q, by rw [List.getElem?_set_ne (by omega), h1], ?_⟩
      unfold FI at h2 ⊢
      rw [if_neg hj2] at h2 ⊢
      exact h2
  · rw [List.getElem?_set_ne (by omega)]
    exact h.free j h1 h2
theorem FI.done {bz : Nat → Bool} {i t : Nat} {n : Nat} {ps : List (Option Pc)} (h : Cov ps n (FI bz i t)) (hb : (bz i = true ∧ t = 100) ∨ (bz i = false ∧ t = 0)) : Cov ps n (FT bz 0) := h.mono (fun j p hF => by
  unfold FI at hF
  split at hF
  · rename_i e
    subst e
    obtain ⟨h1, h2, h3, h4⟩ := hF
    refine ⟨h1, h2, by omega, by omega, t, h4, by omega, fun h => ?_, fun h => ?_⟩
    · rcases hb with ⟨_, h5⟩ | ⟨h5, _⟩
      · omega
      · rw [h] at h5; cases h5
    · rcases hb with ⟨h5, _⟩ | ⟨_, h5⟩
      · rw [h] at h5; cases h5
      · exact h5
  · exact hF)
theorem FI.of {bz : Nat → Bool} {i : Nat} {ps : List (Option Pc)} (h : Cov ps i (FT bz 0)) (hi : i < 16) (g : Nat) : Cov (ps.set i (some ⟨g, none, 0, 2000, 0, 0, []⟩)) (i + 1) (FI bz i 0) := by
  have hl := h.len
  refine ⟨by rw [List.length_set, hl], by omega, fun j hj => ?_, fun j h1 h2 => ?_⟩
  · by_cases hj2 : j = i
    · subst hj2
      refine ⟨_, by rw [List.getElem?_set_self (by omega)], ?_⟩
      unfold FI
      rw [if_pos rfl]
      exact ⟨rfl, rfl, rfl, rfl⟩
    · obtain ⟨q, h1, h2⟩ := h.used j (by omega)
      refine ⟨q, by rw [List.getElem?_set_ne (by omega), h1], ?_⟩
      unfold FI
      rw [if_neg hj2]
      exact h2
  · rw [List.getElem?_set_ne (by omega)]
    exact h.free j (by omega) h2
theorem FT.okA {bz : Nat → Bool} {T n : Nat} {ps : List (Option Pc)} (h : Cov ps n (FT bz T)) (j : Nat) (hj : j < 16) : okK true ps j = true ↔ j ∈ List.range n := by
  rw [List.mem_range]
  refine ⟨fun h1 => (h.ok h1).1, fun h1 => ?_⟩
  obtain ⟨p, hp, _⟩ := h.used j h1
  exact h.okAt hp (.inl rfl)
theorem FT.okB {bz : Nat → Bool} {T n : Nat} {ps : List (Option Pc)} (h : Cov ps n (FT bz T)) (hT : T < 45) (j : Nat) (hj : j < 16) : okK false ps j = true ↔ j ∈ (List.range n).filter bz := by
  rw [List.mem_filter, List.mem_range]
  constructor
  · intro h1
    obtain ⟨h2, p, hp, hF, h3⟩ := h.ok h1
    refine ⟨h2, ?_⟩
    obtain ⟨_, _, _, _, r, h5, _, _, h8⟩ := hF
    cases hb : bz j with
    | true => rfl
    | false =>
      rw [h5, h8 hb] at h3
      simp at h3
  · rintro ⟨h1, h2⟩
    obtain ⟨p, hp, hF⟩ := h.used j h1
    refine h.okAt hp (.inr ?_)
    obtain ⟨_, _, _, _, r, h5, _, h7, _⟩ := hF
    have := h7 h2
    rw [h5, List.length_replicate]
    omega
theorem FT.step {bz : Nat → Bool} {T n : Nat} {ps : List (Option Pc)} (h : Cov ps n (FT bz T)) (hT : T < 45) {k : Nat} (hk : k < n) {p : Pc} (hp : ps[k]? = some (some p)) (A : Option Addr) (c : Nat) : Cov (ps.set k (some (tP p A c))) n (FT bz (T + 1)) := by
  obtain ⟨p', hp', hF⟩ := h.used k hk
  rw [hp] at hp'
  obtain rfl := Option.some.inj (Option.some.inj hp')
  exact (h.mono (fun j p hF => FT.more hF)).set k hk _ (hF.turn hT A c)
end Go.Proofs.YtgbgplhiiaiifaaDoor
