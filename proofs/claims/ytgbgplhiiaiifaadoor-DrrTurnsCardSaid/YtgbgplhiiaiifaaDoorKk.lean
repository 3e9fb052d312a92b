/- Places that are well; a turn of any ring whose places are well. No condition. -/
import Derived.Test.YtgbgplhiiaiifaaDoorKi
namespace Go.Proofs.YtgbgplhiiaiifaaDoor
set_option linter.unusedVariables false
set_option linter.unusedSimpArgs false
open Go.RowKit

theorem rd1 {w0 w : World} {L : List Ent} {A : Option Addr} {d : Int} {c : Nat} {e : TypeId} (H : St w0 w (.own A [.int .i64 d] c e :: L)) : Rd w A ([d].map (.int .i64)) := H.rdOwn (List.mem_cons_self ..)
structure Good (p : Pc) : Prop where
  d0 : 0 ≤ p.d
  d1 : p.d ≤ 1024
  q0 : 0 ≤ p.q
  q1 : p.q ≤ 16384
  s0 : 0 ≤ p.s
  t : p.s + p.l.sum ≤ 1000000
  c : ∀ c, c ∈ p.l → 1 ≤ c ∧ c ≤ 1024
/-- A place behind its turn. -/
def tP (p : Pc) (A : Option Addr) (c : Nat) : Pc := { p with A := A, c := c, d := (sv (p.d + p.q) p.l).2.2, s := p.s + (sv (p.d + p.q) p.l).1.sum, l := (sv (p.d + p.q) p.l).2.1 }
theorem Good.len {p : Pc} (h : Good p) : p.l.length ≤ 1000000 := by
  have := sum_pos p.l (fun c hc => (h.c c hc).1)
  have := h.t
  have := h.s0
  omega
theorem tP_total (p : Pc) (A : Option Addr) (c : Nat) : (tP p A c).s + (tP p A c).l.sum = p.s + p.l.sum := by
  have := sv_total p.l (p.d + p.q)
  show p.s + (sv (p.d + p.q) p.l).1.sum + (sv (p.d + p.q) p.l).2.1.sum = _
  omega
theorem served_pos {p : Pc} (h : ∀ c, c ∈ p.l → 1 ≤ c) : 0 ≤ (sv (p.d + p.q) p.l).1.sum := by
  have := sum_pos (sv (p.d + p.q) p.l).1 (fun c hc => h c (by rw [← sv_app p.l (p.d + p.q)]; exact List.mem_append_left _ hc))
  omega
theorem good_tP {p : Pc} (h : Good p) (A : Option Addr) (c : Nat) : Good (tP p A c) := by
  have hs := served_pos (fun c hc => (h.c c hc).1)
  have hm : ∀ c, c ∈ (sv (p.d + p.q) p.l).2.1 → 1 ≤ c ∧ c ≤ 1024 := fun c hc => h.c c (sv_mem _ _ _ hc)
  refine ⟨sv_pos _ _ (by have := h.d0; have := h.q0; omega), ?_, h.q0, h.q1, by have := h.s0; show 0 ≤ p.s + _; omega, by rw [tP_total]; exact h.t, hm⟩
  show (sv (p.d + p.q) p.l).2.2 ≤ 1024
  cases hl : (sv (p.d + p.q) p.l).2.1 with
  | nil => rw [sv_nil _ _ hl]; decide
  | cons x r =>
    have h1 := sv_head _ _ _ _ hl
    have h2 := hm x (by rw [hl]; exact List.mem_cons_self ..)
    omega
theorem tP_kept {p : Pc} (A : Option Addr) (c : Nat) (h : (tP p A c).l ≠ []) : (tP p A c).s + (tP p A c).d = p.s + p.d + p.q := by
  have := sv_sum p.l (p.d + p.q) h
  show p.s + (sv (p.d + p.q) p.l).1.sum + (sv (p.d + p.q) p.l).2.2 = _
  omega
theorem turn_good (w0 w : World) (L : List Ent) (f : List Ent → List Ent) (g : Nat) (fx : Bool) (last : Int) (ps : List (Option Pc)) (hP : PullA (rgE g fx last ps) L f) (h16 : ps.length = 16) (nx : Nat) (hl : last + 1 = (nx : Int)) (hnx : nx ≤ 16) (k : Nat) (p : Pc) (hk : ps[k]? = some (some p)) (hx : NxtIs nx (okK fx ps) k) (hG : Good p) (H : St w0 w L) :
    Calls Tryd.prog 14 #[.pointer (some ⟨g, 0, none⟩)] w fun e w' => ∃ A' c' B cB, e = .returned (.tuple #[.int .i64 k, .int .i64 (sv (p.d + p.q) p.l).1.sum, .slice B (sv (p.d + p.q) p.l).1.length cB]) ∧
      St w0 w' (.own B ((sv (p.d + p.q) p.l).1.map (.int .i64)) cB 3 :: f (rgE g fx k (ps.set k (some (tP p A' c'))))) :=
  turn_ok w0 w L f g fx last ps hP h16 nx hl hnx k p hk hx hG.d0 (by have := hG.d1; omega) hG.q0 (by have := hG.q1; omega) hG.s0 (by
    have := hG.t
    have := sum_pos p.l (fun c hc => (hG.c c hc).1)
    omega) hG.len hG.c H
/-- Somebody's turn, or nobody's. -/
theorem nxt_or (nx : Nat) (ok : Nat → Bool) : (∃ k, NxtIs nx ok k) ∨ NxtNo nx ok := by
  have key : ∀ n, n ≤ 16 → (∃ i, i < n ∧ ok ((nx + i) % 16) = true ∧ ∀ t, t < i → ok ((nx + t) % 16) = false) ∨ ∀ t, t < n → ok ((nx + t) % 16) = false := by
    intro n
    induction n with
    | zero => exact fun _ => .inr (fun t h => by omega)
    | succ n ih =>
      intro hn
      rcases ih (by omega) with ⟨i, h1, h2, h3⟩ | h
      · exact .inl ⟨i, by omega, h2, h3⟩
      · cases hb : ok ((nx + n) % 16) with
        | true => exact .inl ⟨n, by omega, hb, h⟩
        | false => exact .inr (fun t ht => if h2 : t < n then h t h2 else by rw [show t = n by omega]; exact hb)
  rcases key 16 (Nat.le_refl _) with ⟨i, h1, h2, h3⟩ | h
  · exact .inl ⟨_, i, h1, rfl, h2, h3⟩
  · exact .inr h
theorem okK_some {fx : Bool} {ps : List (Option Pc)} {k : Nat} (h : okK fx ps k = true) : ∃ p, ps[k]? = some (some p) ∧ (fx = true ∨ 0 < p.l.length) := by
  unfold okK at h
  cases h2 : ps[k]? with
  | none => rw [h2] at h; cases h
  | some o =>
    rw [h2] at h
    cases o with
    | none => cases h
    | some p =>
      have h : okO fx (some p) = true := h
      refine ⟨p, rfl, ?_⟩
      simpa [okO] using h
theorem NxtIs.lt {nx : Nat} {ok : Nat → Bool} {k : Nat} (h : NxtIs nx ok k) : k < 16 := by
  obtain ⟨i, _, h2, _⟩ := h
  omega
theorem NxtIs.ok {nx : Nat} {ok : Nat → Bool} {k : Nat} (h : NxtIs nx ok k) : ok k = true := by
  obtain ⟨i, _, _, h3, _⟩ := h
  exact h3
/-- The first n places are somebody's, each as P tells. -/
structure Cov (ps : List (Option Pc)) (n : Nat) (P : Nat → Pc → Prop) : Prop where
  len : ps.length = 16
  le : n ≤ 16
  used : ∀ j, j < n → ∃ p, ps[j]? = some (some p) ∧ P j p
  free : ∀ j, n ≤ j → j < 16 → ps[j]? = some none
theorem Cov.nil (P : Nat → Pc → Prop) : Cov (List.replicate 16 none) 0 P := ⟨rfl, by omega, fun j h => by omega, fun j _ h => by rw [List.getElem?_replicate, if_pos h]⟩
theorem Cov.freeAt {ps : List (Option Pc)} {n : Nat} {P : Nat → Pc → Prop} (h : Cov ps n P) (hn : n < 16) : FreeAt ps n := ⟨h.free n (Nat.le_refl _) hn, fun t ht e => by
  obtain ⟨p, hp, _⟩ := h.used t ht
  rw [hp] at e; cases e⟩
theorem Cov.all {ps : List (Option Pc)} {P : Nat → Pc → Prop} (h : Cov ps 16 P) : AllUsed ps := fun t e => by
  rcases Nat.lt_or_ge t 16 with h1 | h1
  · obtain ⟨p, hp, _⟩ := h.used t h1
    rw [hp] at e; cases e
  · rw [List.getElem?_eq_none (by have := h.len; omega)] at e; cases e
theorem Cov.join {ps : List (Option Pc)} {n : Nat} {P : Nat → Pc → Prop} (h : Cov ps n P) (hn : n < 16) (p : Pc) (hp : P n p) : Cov (ps.set n (some p)) (n + 1) P := by
  have hl := h.len
  refine ⟨by rw [List.length_set, hl], by omega, fun j hj => ?_, fun j h1 h2 => ?_⟩
  · by_cases hj2 : j = n
    · subst hj2
      exact ⟨p, by rw [List.getElem?_set_self (by omega)], hp⟩
    · obtain ⟨p', h1, h2⟩ := h.used j (by omega)
      exact ⟨p', by rw [List.getElem?_set_ne (by omega), h1], h2⟩
  · rw [List.getElem?_set_ne (by omega)]
    exact h.free j (by omega) h2
theorem Cov.set {ps : List (Option Pc)} {n : Nat} {P : Nat → Pc → Prop} (h : Cov ps n P) (k : Nat) (hk : k < n) (p : Pc) (hp : P k p) : Cov (ps.set k (some p)) n P := by
  have hl := h.len
  have hle := h.le
  refine ⟨by rw [List.length_set, hl], h.le, fun j hj => ?_, fun j h1 h2 => ?_⟩
  · by_cases hj2 : j = k
    · subst hj2
      exact ⟨p, by rw [List.getElem?_set_self (by omega)], hp⟩
    · obtain ⟨p', h1, h2⟩ := h.used j hj
      exact ⟨p', by rw [List.getElem?_set_ne (by omega), h1], h2⟩
  · rw [List.getElem?_set_ne (by omega)]
    exact h.free j h1 h2
theorem Cov.mono {ps : List (Option Pc)} {n : Nat} {P Q : Nat → Pc → Prop} (h : Cov ps n P) (hPQ : ∀ j p, P j p → Q j p) : Cov ps n Q := ⟨h.len, h.le, fun j hj => by
  obtain ⟨p, h1, h2⟩ := h.used j hj
  exact ⟨p, h1, hPQ j p h2⟩, h.free⟩
theorem Cov.ok {ps : List (Option Pc)} {n : Nat} {P : Nat → Pc → Prop} (h : Cov ps n P) {fx : Bool} {k : Nat} (hk : okK fx ps k = true) : k < n ∧ ∃ p, ps[k]? = some (some p) ∧ P k p ∧ (fx = true ∨ 0 < p.l.length) := by
  obtain ⟨p, hp, hq⟩ := okK_some hk
  rcases Nat.lt_or_ge k n with h1 | h1
  · obtain ⟨p', h2, h3⟩ := h.used k h1
    rw [hp] at h2
    obtain rfl := Option.some.inj (Option.some.inj h2)
    exact ⟨h1, p, hp, h3, hq⟩
  · rcases Nat.lt_or_ge k 16 with h2 | h2
    · rw [h.free k h1 h2] at hp; cases hp
    · rw [List.getElem?_eq_none (by have := h.len; omega)] at hp; cases hp
theorem Cov.okAt {ps : List (Option Pc)} {n : Nat} {P : Nat → Pc → Prop} (h : Cov ps n P) {fx : Bool} {k : Nat} {p : Pc} (hp : ps[k]? = some (some p)) (hq : fx = true ∨ 0 < p.l.length) : okK fx ps k = true := by
  rw [okK_at hp]
  simpa [okO] using hq
section
variable (w0 w : World) (L : List Ent) (f : List Ent → List Ent) (g : Nat) (fx : Bool) (last : Int) (ps : List (Option Pc)) (hP : PullA (rgE g fx last ps) L f) (h16 : ps.length = 16) (k : Nat) (p : Pc) (hk : ps[k]? = some (some p)) (H : St w0 w L)
include hP h16 hk H
theorem deficit_at : Calls Tryd.prog 18 #[.pointer (some ⟨g, 0, none⟩), .int .i64 k] w fun e w' => e = .returned (.int .i64 p.d) ∧ w' = w := by
  have h := deficit_any w0 w L f g fx last ps hP h16 k H
  rwa [atV_nat ps k _ h16 hk] at h
theorem served_at : Calls Tryd.prog 17 #[.pointer (some ⟨g, 0, none⟩), .int .i64 k] w fun e w' => e = .returned (.int .i64 p.s) ∧ w' = w := by
  have h := served_any w0 w L f g fx last ps hP h16 k H
  rwa [atV_nat ps k _ h16 hk] at h
theorem waiting_at (hm : p.l.length ≤ 100000000) : Calls Tryd.prog 16 #[.pointer (some ⟨g, 0, none⟩), .int .i64 k] w fun e w' => ∃ A' c', e = .returned (.slice A' p.l.length c') ∧ St w0 w' (.own A' (p.l.map (.int .i64)) c' 3 :: L) := by
  have h := waiting_any w0 w L f g fx last ps hP h16 k (by rw [atV_nat ps k _ h16 hk]; exact hm) H
  rwa [atV_nat ps k _ h16 hk] at h
end
theorem good_push {p : Pc} (h : Good p) (A : Option Addr) (c : Nat) (x : Int) (h1 : 1 ≤ x) (h2 : x ≤ 1024) (hs : p.s + p.l.sum + x ≤ 1000000) : Good { p with A := A, c := c, l := p.l ++ [x] } := by
  refine ⟨h.d0, h.d1, h.q0, h.q1, h.s0, ?_, fun c hc => ?_⟩
  · show p.s + (p.l ++ [x]).sum ≤ 1000000
    rw [List.sum_append]
    simp only [List.sum_cons, List.sum_nil]
    omega
  · rcases List.mem_append.1 hc with hc | hc
    · exact h.c c hc
    · obtain rfl := List.mem_singleton.1 hc
      exact ⟨h1, h2⟩
end Go.Proofs.YtgbgplhiiaiifaaDoor
