/- What is served, in plain words; a ring with one place; DrrKeeps, walked. No condition. -/
import Derived.Test.YtgbgplhiiaiifaaDoorKh
namespace Go.Proofs.YtgbgplhiiaiifaaDoor
set_option linter.unusedVariables false
set_option linter.unusedSimpArgs false
open Go.RowKit

theorem number_any (n b : Int) (w : World) (hb : 0 < b) (hb2 : b ≤ 4611686018427387904) :
    Calls Tryd.prog 10 #[.int .i64 n, .int .i64 b] w fun e w' => e = .returned (.int .i64 (n % b)) ∧ w' = w := by
  go_enter Tryd.func10, Tryd.ntmps10
  go_wp2
  go_ret
  refine ⟨?_, rfl⟩
  have h1 := Int.tmod_lt_of_pos n hb
  have h2 : -b < n.tmod b := by have := Int.lt_tmod_of_pos n hb; omega
  congr 2
  rw [show wrap64 (n.tmod b + b) = n.tmod b + b by unfold wrap64; omega]
  rw [Int.tmod_eq_emod_of_nonneg (by omega), Int.add_emod_right, Int.tmod_eq_emod]
  split
  · simp
  · rw [Int.sub_emod, Int.natAbs_of_nonneg (by omega)]; simp
/-! ### what is served -/
theorem sv_nil : ∀ (l : List Int) (d : Int), (sv d l).2.1 = [] → (sv d l).2.2 = 0
  | [], d, _ => rfl
  | c :: r, d, h => by
    unfold sv at h ⊢
    split
    · rename_i hc
      rw [if_pos hc] at h
      exact sv_nil r (d - c) h
    · rename_i hc
      rw [if_neg hc] at h
      cases h
theorem sv_sum : ∀ (l : List Int) (d : Int), (sv d l).2.1 ≠ [] → (sv d l).1.sum + (sv d l).2.2 = d
  | [], d, h => absurd rfl h
  | c :: r, d, h => by
    unfold sv at h ⊢
    split
    · rename_i hc
      rw [if_pos hc] at h
      have := sv_sum r (d - c) h
      simp only [List.sum_cons]
      omega
    · simp
theorem sv_head : ∀ (l : List Int) (d : Int) (c : Int) (r : List Int), (sv d l).2.1 = c :: r → (sv d l).2.2 < c
  | [], d, c, r, h => by cases h
  | c' :: r', d, c, r, h => by
    unfold sv at h ⊢
    split
    · rename_i hc
      rw [if_pos hc] at h
      exact sv_head r' (d - c') c r h
    · rename_i hc
      rw [if_neg hc] at h
      obtain ⟨rfl, rfl⟩ := List.cons.inj h
      simpa using hc
theorem sv_pos : ∀ (l : List Int) (d : Int), 0 ≤ d → 0 ≤ (sv d l).2.2
  | [], d, h => Int.le_refl _
  | c :: r, d, h => by
    unfold sv
    split
    · exact sv_pos r (d - c) (by omega)
    · exact h
theorem sum_pos (l : List Int) (h : ∀ c, c ∈ l → 1 ≤ c) : (l.length : Int) ≤ l.sum := by
  induction l with
  | nil => simp
  | cons c r ih =>
    have h1 := h c (List.mem_cons_self ..)
    have h2 := ih (fun c hc => h c (List.mem_cons_of_mem _ hc))
    simp only [List.length_cons, List.sum_cons]
    omega
theorem sum_le (l : List Int) (m : Int) (h : ∀ c, c ∈ l → c ≤ m) : l.sum ≤ m * (l.length : Int) := by
  induction l with
  | nil => simp
  | cons c r ih =>
    have h1 := h c (List.mem_cons_self ..)
    have h2 := ih (fun c hc => h c (List.mem_cons_of_mem _ hc))
    simp only [List.length_cons, List.sum_cons]
    have e : m * ((r.length + 1 : Nat) : Int) = m * (r.length : Int) + m := by
      rw [Int.natCast_add, Int.mul_add]; simp
    omega
theorem sv_total (l : List Int) (d : Int) : (sv d l).1.sum + (sv d l).2.1.sum = l.sum := by
  have h := congrArg List.sum (sv_app l d)
  rwa [List.sum_append] at h
theorem sv_mem (l : List Int) (d c : Int) (h : c ∈ (sv d l).2.1) : c ∈ l := by
  rw [← sv_app l d]
  exact List.mem_append_right _ h
theorem sv_len (l : List Int) (d : Int) : (sv d l).1.length + (sv d l).2.1.length = l.length := by
  have h := congrArg List.length (sv_app l d)
  rwa [List.length_append] at h
/-- A costs' bound is a cost. -/
theorem cost_ok (c : Int) (h1 : 1 ≤ c) (h2 : c ≤ 1024) : [c].any badC = false := by
  have a : decide (c < 1) = false := decide_eq_false (by omega)
  have b : decide (1024 < c) = false := decide_eq_false (by omega)
  simp [badC, a, b]
/-! ### one place -/
def PS1 (p : Pc) : List (Option Pc) := (List.replicate 16 none).set 0 (some p)
theorem PS1_len (p : Pc) : (PS1 p).length = 16 := rfl
theorem PS1_at (p : Pc) : (PS1 p)[0]? = some (some p) := rfl
theorem PS1_set (p p' : Pc) : (PS1 p).set 0 (some p') = PS1 p' := rfl
theorem PS1_atV (p : Pc) : atV (PS1 p) 0 = some p := rfl
theorem PS1_free : FreeAt (List.replicate 16 none) 0 := ⟨rfl, fun t h => by omega⟩
theorem PS1_ok (p : Pc) (t : Nat) (h : t ≠ 0) : okK true (PS1 p) t = false := by
  unfold okK PS1
  rw [List.getElem?_set_ne (by omega), List.getElem?_replicate]
  split <;> rfl
theorem PS1_nx (p : Pc) (nx : Nat) (h : nx ≤ 1) : NxtIs nx (okK true (PS1 p)) 0 := by
  rcases (show nx = 0 ∨ nx = 1 by omega) with rfl | rfl
  · exact ⟨0, by decide, rfl, rfl, fun t h => by omega⟩
  · exact ⟨15, by decide, rfl, rfl, fun t h => PS1_ok p _ (by omega)⟩
end Go.Proofs.YtgbgplhiiaiifaaDoor
