/- Sum and Most of numbers with one among them that is none, or is infinite. No condition. -/
import Derived.Test.YtcpfangcibilaaaDoorEg
import Derived.Test.YtcpfangcibilaaaDoorDh
namespace Go.Proofs.YtcpfangcibilaaaDoor
set_option linter.unusedVariables false
set_option linter.unusedSimpArgs false
open Go.RowKit

def INW : Nat := 9218868437227405312
/-- A small whole number's word. -/
def Nm (x : Nat) : Prop := x < 18446744073709551616 ∧ ∃ a : Int, Whl x a ∧ -549755813888 ≤ a ∧ a ≤ 549755813888
theorem Nm.fin {x : Nat} (h : Nm x) : rung x < INF := by obtain ⟨_, a, h1, _⟩ := h; exact h1.1
theorem Nm.num {x : Nat} (h : Nm x) : isn x = false := by
  have := h.fin
  unfold isn
  exact decide_eq_false (by omega)
theorem mid_lt (xs ys : List Nat) (v : Nat) (j x : Nat) (h : (xs ++ v :: ys)[j]? = some x) (hj : j < xs.length) : x ∈ xs := by
  rw [List.getElem?_append_left hj] at h
  exact List.mem_of_getElem? h
theorem mid_eq (xs ys : List Nat) (v : Nat) (x : Nat) (h : (xs ++ v :: ys)[xs.length]? = some x) : x = v := by
  rw [List.getElem?_append_right (Nat.le_refl _), Nat.sub_self] at h
  simpa using h.symm
theorem mid_gt (xs ys : List Nat) (v : Nat) (j x : Nat) (h : (xs ++ v :: ys)[j]? = some x) (hj : xs.length < j) : x ∈ ys := by
  rw [List.getElem?_append_right (by omega), show j - xs.length = (j - xs.length - 1) + 1 by omega, List.getElem?_cons_succ] at h
  exact List.mem_of_getElem? h
theorem nm_add (s x : Nat) (j : Nat) (hj : j ≤ 100) (hs : ∃ a : Int, Whl s a ∧ -549755813888 * (j : Int) ≤ a ∧ a ≤ 549755813888 * (j : Int)) (hx : Nm x) :
    ∃ y, Ieee.double.add s x = some y ∧ ∃ a : Int, Whl y a ∧ -549755813888 * ((j + 1 : Nat) : Int) ≤ a ∧ a ≤ 549755813888 * ((j + 1 : Nat) : Int) := by
  obtain ⟨a, a1, a2, a3⟩ := hs
  obtain ⟨_, b, b1, b2, b3⟩ := hx
  obtain ⟨z, z1, z2⟩ := whl_add a1 b1 (by omega)
  exact ⟨z, z1, a + b, z2, by omega, by omega⟩
theorem whl_nil0 : Whl 0 0 := ⟨by decide, by rw [Int.zero_mul]; decide⟩
theorem sum_nan (w0 w : World) (L : List Ent) (A : Option Addr) (xs ys : List Nat) (v n k c : Nat) (hn : n = xs.length + 1 + ys.length) (hl : n ≤ 100) (hx : ∀ x ∈ xs, Nm x) (hy : ∀ x ∈ ys, Nm x) (hv : isn v = true) (hA : Ent.own A (xs.map (Value.float .f64) ++ Value.float .f64 v :: ys.map (Value.float .f64)) k 22 ∈ L) (H : St w0 w L) :
    Calls Tryd.prog 45 #[.slice A n c] w fun e w' => ∃ y, e = .returned (.float .f64 y) ∧ isn y = true ∧ St w0 w' L := by
  refine (sum_gen w0 w L A (xs ++ v :: ys) n k c (by simp; omega) (by omega) (by rw [List.map_append, List.map_cons]; exact hA)
    (fun j s => j ≤ n → (j ≤ xs.length → ∃ a : Int, Whl s a ∧ -549755813888 * (j : Int) ≤ a ∧ a ≤ 549755813888 * (j : Int)) ∧ (xs.length < j → isn s = true)) (fun _ => ⟨fun _ => ⟨0, whl_nil0, by omega, by omega⟩, fun h => by omega⟩) (fun j s x hj hP => ?_) H).mono
    fun e w' ⟨y, h1, h2, h3⟩ => ⟨y, h1, (h2 (Nat.le_refl _)).2 (by omega), h3⟩
  have hjn : j < n := by
    rcases Nat.lt_or_ge j n with h | h
    · exact h
    · rw [List.getElem?_eq_none (by simp; omega)] at hj; cases hj
  have hP := hP (by omega)
  rcases Nat.lt_trichotomy j xs.length with h | h | h
  · left
    obtain ⟨y, y1, y2⟩ := nm_add s x j (by omega) (hP.1 (by omega)) (hx x (mid_lt _ _ _ _ _ hj h))
    exact ⟨y, y1, fun _ => ⟨fun _ => y2, fun h' => by omega⟩⟩
  · right
    subst h
    obtain rfl := mid_eq _ _ _ _ hj
    exact ⟨add_nanL s hv, fun y _ hy' _ => ⟨fun h' => by omega, fun _ => hy'⟩⟩
  · right
    exact ⟨add_nanR x (hP.2 h), fun y _ hy' _ => ⟨fun h' => by omega, fun _ => hy'⟩⟩
theorem sum_inf (w0 w : World) (L : List Ent) (A : Option Addr) (xs ys : List Nat) (n k c : Nat) (hn : n = xs.length + 1 + ys.length) (hl : n ≤ 100) (hx : ∀ x ∈ xs, Nm x) (hy : ∀ x ∈ ys, Nm x) (hA : Ent.own A (xs.map (Value.float .f64) ++ Value.float .f64 9218868437227405312 :: ys.map (Value.float .f64)) k 22 ∈ L) (H : St w0 w L) :
    Calls Tryd.prog 45 #[.slice A n c] w fun e w' => e = .returned (.float .f64 9218868437227405312) ∧ St w0 w' L := by
  refine (sum_gen w0 w L A (xs ++ 9218868437227405312 :: ys) n k c (by simp; omega) (by omega) (by rw [List.map_append, List.map_cons]; exact hA)
    (fun j s => j ≤ n → (j ≤ xs.length → ∃ a : Int, Whl s a ∧ -549755813888 * (j : Int) ≤ a ∧ a ≤ 549755813888 * (j : Int)) ∧ (xs.length < j → s = 9218868437227405312)) (fun _ => ⟨fun _ => ⟨0, whl_nil0, by omega, by omega⟩, fun h => by omega⟩) (fun j s x hj hP => ?_) H).mono
    fun e w' ⟨y, h1, h2, h3⟩ => ⟨by rw [h1, (h2 (Nat.le_refl _)).2 (by omega)], h3⟩
  have hjn : j < n := by
    rcases Nat.lt_or_ge j n with h | h
    · exact h
    · rw [List.getElem?_eq_none (by simp; omega)] at hj; cases hj
  have hP := hP (by omega)
  left
  rcases Nat.lt_trichotomy j xs.length with h | h | h
  · obtain ⟨y, y1, y2⟩ := nm_add s x j (by omega) (hP.1 (by omega)) (hx x (mid_lt _ _ _ _ _ hj h))
    exact ⟨y, y1, fun _ => ⟨fun _ => y2, fun h' => by omega⟩⟩
  · subst h
    obtain rfl := mid_eq _ _ _ _ hj
    obtain ⟨a, a1, _⟩ := hP.1 (Nat.le_refl _)
    exact ⟨_, add_infL a1.1, fun _ => ⟨fun h' => by omega, fun _ => rfl⟩⟩
  · obtain rfl := hP.2 h
    exact ⟨_, add_infR (hy x (mid_gt _ _ _ _ _ hj h)).fin, fun _ => ⟨fun h' => by omega, fun _ => rfl⟩⟩
theorem mid_bd (xs ys : List Nat) (v : Nat) (hx : ∀ x ∈ xs, Nm x) (hy : ∀ x ∈ ys, Nm x) (hv : v < 18446744073709551616) (j x : Nat) (h : (xs ++ v :: ys)[j]? = some x) : x < 18446744073709551616 := by
  have := List.mem_of_getElem? h
  rcases List.mem_append.1 this with h | h
  · exact (hx x h).1
  · rcases List.mem_cons.1 h with rfl | h
    · exact hv
    · exact (hy x h).1
theorem mid_head (xs ys : List Nat) (v : Nat) : ∃ x0, (xs ++ v :: ys)[0]? = some x0 := ⟨_, List.getElem?_eq_getElem (by simp; omega)⟩
theorem most_nan (w0 w : World) (L : List Ent) (A : Option Addr) (xs ys : List Nat) (v n k c : Nat) (hn : n = xs.length + 1 + ys.length) (hl : n ≤ 100) (hx : ∀ x ∈ xs, Nm x) (hy : ∀ x ∈ ys, Nm x) (hv : isn v = true) (hvb : v < 18446744073709551616) (hA : Ent.own A (xs.map (Value.float .f64) ++ Value.float .f64 v :: ys.map (Value.float .f64)) k 22 ∈ L) (H : St w0 w L) :
    Calls Tryd.prog 48 #[.slice A n c] w fun e w' => ∃ y, e = .returned (.float .f64 y) ∧ isn y = true ∧ St w0 w' L := by
  obtain ⟨x0, h0⟩ := mid_head xs ys v
  refine (most_gen w0 w L A (xs ++ v :: ys) n k c x0 (by simp; omega) (by omega) h0 (by rw [List.map_append, List.map_cons]; exact hA) (fun j x h => mid_bd xs ys v hx hy hvb j x h)
    (fun j s => j ≤ n → (0 < xs.length ∧ j ≤ xs.length → isn s = false) ∧ (xs.length = 0 ∨ xs.length < j → isn s = true)) (fun _ => ⟨fun h => (hx x0 (mid_lt _ _ _ _ _ h0 h.1)).num, fun h => ?_⟩) (fun j s x hj hP => ?_) H).mono
    fun e w' ⟨y, h1, h2, h3⟩ => ⟨y, h1, (h2 (Nat.le_refl _)).2 (by omega), h3⟩
  · have h1 : xs.length = 0 := by omega
    obtain rfl := List.length_eq_zero_iff.1 h1
    obtain rfl := mid_eq _ _ _ _ h0
    exact hv
  · intro hjn
    have hP := hP (by omega)
    rcases Nat.lt_trichotomy j xs.length with h | h | h
    · have e1 := hP.1 ⟨by omega, by omega⟩
      have e2 := (hx x (mid_lt _ _ _ _ _ hj h)).num
      exact ⟨fun _ => by split <;> assumption, fun h' => by omega⟩
    · subst h
      obtain rfl := mid_eq _ _ _ _ hj
      refine ⟨fun h' => by omega, fun _ => ?_⟩
      by_cases hz : xs.length = 0
      · have e1 := hP.2 (.inl hz)
        split <;> assumption
      · have e1 := hP.1 ⟨by omega, Nat.le_refl _⟩
        have e2 : lessW s x = true := by unfold lessW; rw [e1, hv]; rfl
        rw [if_pos e2]; exact hv
    · have e1 := hP.2 (.inr h)
      have e2 : lessW s x = false := by unfold lessW; rw [e1]; rfl
      rw [if_neg (by rw [e2]; decide)]
      exact ⟨fun h' => by omega, fun _ => e1⟩
theorem less_inf {s : Nat} (h : rung s < INF) : lessW s 9218868437227405312 = true := by
  have hp : INF = 9218868437227405312 := rfl
  have e1 : isn s = false := by unfold isn; exact decide_eq_false (by omega)
  have e2 : rk 9218868437227405312 = 9218868437227405312 := by decide
  have e3 : rk s < 9218868437227405312 := by unfold rk; split <;> omega
  unfold lessW
  rw [e1, e2, decide_eq_true e3]
  simp
theorem inf_less {s : Nat} (h : rung s < INF) : lessW 9218868437227405312 s = false := by
  have hp : INF = 9218868437227405312 := rfl
  have e1 : isn s = false := by unfold isn; exact decide_eq_false (by omega)
  have e2 : rk 9218868437227405312 = 9218868437227405312 := by decide
  have e3 : ¬ 9218868437227405312 < rk s := by unfold rk; split <;> omega
  unfold lessW
  rw [e1, e2, decide_eq_false e3]
  simp
theorem most_inf (w0 w : World) (L : List Ent) (A : Option Addr) (xs ys : List Nat) (n k c : Nat) (hn : n = xs.length + 1 + ys.length) (hl : n ≤ 100) (hx : ∀ x ∈ xs, Nm x) (hy : ∀ x ∈ ys, Nm x) (hA : Ent.own A (xs.map (Value.float .f64) ++ Value.float .f64 9218868437227405312 :: ys.map (Value.float .f64)) k 22 ∈ L) (H : St w0 w L) :
    Calls Tryd.prog 48 #[.slice A n c] w fun e w' => e = .returned (.float .f64 9218868437227405312) ∧ St w0 w' L := by
  obtain ⟨x0, h0⟩ := mid_head xs ys 9218868437227405312
  refine (most_gen w0 w L A (xs ++ 9218868437227405312 :: ys) n k c x0 (by simp; omega) (by omega) h0 (by rw [List.map_append, List.map_cons]; exact hA) (fun j x h => mid_bd xs ys _ hx hy (by decide) j x h)
    (fun j s => j ≤ n → (0 < xs.length ∧ j ≤ xs.length → rung s < INF) ∧ (xs.length = 0 ∨ xs.length < j → s = 9218868437227405312)) (fun _ => ⟨fun h => (hx x0 (mid_lt _ _ _ _ _ h0 h.1)).fin, fun h => ?_⟩) (fun j s x hj hP => ?_) H).mono
    fun e w' ⟨y, h1, h2, h3⟩ => ⟨by rw [h1, (h2 (Nat.le_refl _)).2 (by omega)], h3⟩
  · have h1 : xs.length = 0 := by omega
    obtain rfl := List.length_eq_zero_iff.1 h1
    exact mid_eq _ _ _ _ h0
  · intro hjn
    have hP := hP (by omega)
    rcases Nat.lt_trichotomy j xs.length with h | h | h
    · have e1 := hP.1 ⟨by omega, by omega⟩
      have e2 := (hx x (mid_lt _ _ _ _ _ hj h)).fin
      exact ⟨fun _ => by split <;> assumption, fun h' => by omega⟩
    · subst h
      obtain rfl := mid_eq _ _ _ _ hj
      refine ⟨fun h' => by omega, fun _ => ?_⟩
      by_cases hz : xs.length = 0
      · have e1 := hP.2 (.inl hz)
        split <;> first | rfl | exact e1
      · have e1 := hP.1 ⟨by omega, Nat.le_refl _⟩
        rw [if_pos (less_inf e1)]
    · obtain rfl := hP.2 (.inr h)
      rw [inf_less (hy x (mid_gt _ _ _ _ _ hj h)).fin]
      exact ⟨fun h' => by omega, fun _ => rfl⟩
theorem isInf1 (w : World) : Calls Tryd.prog 47 #[.float .f64 9218868437227405312, .int .i64 1] w fun e w' => e = .returned (.bool true) ∧ w' = w := by
  have z : (FloatKind.f64.format.order 9218868437227405312 9218868437227405311 == some .gt) = true := (inf_hi 9218868437227405312).trans (by decide)
  go_enter Tryd.func47, Tryd.ntmps47
  go_wp2
  go_ret
  exact ⟨rfl, rfl⟩
end Go.Proofs.YtcpfangcibilaaaDoor
