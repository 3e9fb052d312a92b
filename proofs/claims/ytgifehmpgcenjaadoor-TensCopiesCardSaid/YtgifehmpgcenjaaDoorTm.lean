/- TensRows, walked. No condition. -/
import Derived.Test.YtgifehmpgcenjaaDoorTl
namespace Go.Proofs.YtgifehmpgcenjaaDoor
set_option linter.unusedVariables false
set_option linter.unusedSimpArgs false
open Go.RowKit

/-! ### plain -/
def seqL (k : Nat) : List Int := (List.range k).map fun (i : Nat) => (i : Int) % 256 - 128
theorem seqL_len (k : Nat) : (seqL k).length = k := by simp [seqL]
theorem seqL_succ (k : Nat) : seqL (k + 1) = seqL k ++ [(k : Int) % 256 - 128] := by simp [seqL, List.range_succ]
theorem seqL_ix (n k : Nat) (h : k < n) : ix (seqL n) k = (k : Int) % 256 - 128 := by
  rw [ix_eq _ _ (by rw [seqL_len]; exact h)]
  simp [seqL]
def cube (a b c : Nat) : Nat := (a + 1) * (b + 1) * (c + 1)
def shape3 (a b c : Nat) : List Int := [(a : Int) + 1, (b : Int) + 1, (c : Int) + 1]
theorem cube_bound {a b c : Nat} (ha : a ≤ 5) (hb : b ≤ 5) (hc : c ≤ 5) : (a + 1) * (b + 1) ≤ 36 ∧ cube a b c ≤ 216 ∧ 0 < cube a b c := by
  have h1 : (a + 1) * (b + 1) ≤ 6 * 6 := Nat.mul_le_mul (by omega) (by omega)
  have h2 : (a + 1) * (b + 1) * (c + 1) ≤ 36 * 6 := Nat.mul_le_mul (by omega) (by omega)
  exact ⟨by omega, by unfold cube; omega, by unfold cube; exact Nat.mul_pos (Nat.mul_pos (by omega) (by omega)) (by omega)⟩
theorem cube_cast (a b c : Nat) : ((a : Int) + 1) * ((b : Int) + 1) * ((c : Int) + 1) = (cube a b c : Int) := by unfold cube; push_cast; rfl
theorem prod3 (a b c : Nat) : prodL (shape3 a b c) = (cube a b c : Int) := by rw [← cube_cast]; simp [prodL, shape3]
theorem valid3 {a b c : Nat} (ha : a ≤ 5) (hb : b ≤ 5) (hc : c ≤ 5) : validL (shape3 a b c) = 0 := by
  have h := (cube_bound ha hb hc).2.1
  have ho : okD (shape3 a b c) = true := by
    simp only [okD, shape3, List.all_cons, List.all_nil, Bool.and_true, Bool.and_eq_true, decide_eq_true_eq]
    omega
  unfold validL
  rw [if_neg (by simp [shape3]), if_neg (by rw [ho]; simp), if_neg (by rw [prod3]; omega)]
theorem elems3 {a b c : Nat} (ha : a ≤ 5) (hb : b ≤ 5) (hc : c ≤ 5) : elemsL (shape3 a b c) = (cube a b c : Int) := by
  unfold elemsL; rw [if_pos (valid3 ha hb hc), prod3]
theorem tvalid3 {a b c : Nat} (wide : Bool) (ha : a ≤ 5) (hb : b ≤ 5) (hc : c ≤ 5) : tvalid (shape3 a b c) (seqL (cube a b c)) wide = .none := by
  have hbad : badAt (seqL (cube a b c)) wide = (seqL (cube a b c)).length := badAt_all fun j hj => by
    rw [seqL_len] at hj
    rw [seqL_ix _ _ hj]
    unfold fitsL
    split <;> simp only [Bool.and_eq_true, decide_eq_true_eq] <;> omega
  unfold tvalid
  rw [if_neg (by rw [valid3 ha hb hc]; simp), if_neg (by rw [elems3 ha hb hc, seqL_len]; simp), if_neg (by rw [hbad]; omega)]
def spot (b c x y z : Nat) : Nat := (x * (b + 1) + y) * (c + 1) + z
theorem spot_lt {a b c x y z : Nat} (hx : x < a + 1) (hy : y < b + 1) (hz : z < c + 1) : spot b c x y z < cube a b c := by
  have h1 : x * (b + 1) + y + 1 ≤ (a + 1) * (b + 1) := by
    have := Nat.mul_le_mul_right (b + 1) (show x + 1 ≤ a + 1 by omega)
    rw [Nat.succ_mul] at this
    omega
  have h2 := Nat.mul_le_mul_right (c + 1) h1
  rw [Nat.succ_mul] at h2
  unfold spot cube
  omega
theorem spot_y (b c x y : Nat) : spot b c x y (c + 1) = spot b c x (y + 1) 0 := by
  show (x * (b + 1) + y) * (c + 1) + (c + 1) = (x * (b + 1) + y + 1) * (c + 1) + 0
  rw [Nat.succ_mul (x * (b + 1) + y)]; rfl
theorem spot_x (b c x : Nat) : spot b c x (b + 1) 0 = spot b c (x + 1) 0 0 := by
  show (x * (b + 1) + (b + 1)) * (c + 1) + 0 = ((x + 1) * (b + 1) + 0) * (c + 1) + 0
  rw [Nat.succ_mul x (b + 1), Nat.add_zero (x * (b + 1) + (b + 1))]
theorem index3 {a b c x y z : Nat} (ha : a ≤ 5) (hb : b ≤ 5) (hc : c ≤ 5) (hx : x < a + 1) (hy : y < b + 1) (hz : z < c + 1) : indexL (shape3 a b c) [(x : Int), (y : Int), (z : Int)] = ((spot b c x y z : Int), true) := by
  have hin : insideL (shape3 a b c) [(x : Int), (y : Int), (z : Int)] = true := by
    rw [insideL_iff]
    intro k hk
    have : k = 0 ∨ k = 1 ∨ k = 2 := by simp [shape3] at hk; omega
    rcases this with rfl | rfl | rfl <;> simp [shape3, ix] <;> omega
  unfold indexL
  rw [if_pos ⟨valid3 ha hb hc, by simp [shape3], hin⟩]
  refine Prod.ext ?_ rfl
  show hornerL (shape3 a b c) [(x : Int), (y : Int), (z : Int)] 3 = _
  simp [hornerL, shape3, ix, spot]
theorem get3 {a b c x y z : Nat} (ha : a ≤ 5) (hb : b ≤ 5) (hc : c ≤ 5) (hx : x < a + 1) (hy : y < b + 1) (hz : z < c + 1) (d : List Int) : getL (shape3 a b c) d [(x : Int), (y : Int), (z : Int)] = (ix d (spot b c x y z), true) := by
  unfold getL; rw [index3 ha hb hc hx hy hz, if_pos rfl]; rfl
theorem getOut (a b c : Nat) (d : List Int) : getL (shape3 a b c) d [(a : Int) + 1, 0, 0] = (0, false) := by
  have : (indexL (shape3 a b c) [(a : Int) + 1, 0, 0]).2 = false := by
    unfold indexL
    rw [if_neg]
    intro h
    have := (insideL_iff _ _).1 h.2.2 0 (by simp [shape3])
    simp [shape3, ix] at this
  unfold getL; rw [this]; rfl
theorem rawL_length (d : List Int) (wide : Bool) : (rawL d wide).length = if wide then 4 * d.length else d.length := by
  induction d with
  | nil => cases wide <;> rfl
  | cons x d ih =>
    show (putL x wide ++ rawL d wide).length = _
    rw [List.length_append, ih]
    cases wide <;> simp [putL] <;> omega
theorem bytesL_length (s d : List Int) (wide : Bool) : (bytesL s d wide).length = 1 + 2 * s.length + (rawL d wide).length := by
  unfold bytesL
  rw [List.length_cons, List.length_append, dimsL_len]; omega
theorem Own.slg {w : World} {base : Nat} {e : TypeId} {k : IntKind} {A : Option Addr} {n c : Nat} {l : List Int} (h : Own w base e (.slice A n c) (l.map (Value.int k))) : n = l.length ∧ SL k w A l c := by
  obtain ⟨A', c', e', S⟩ := h.sl
  injection e' with e1 e2 e3
  subst e1; subst e3
  exact ⟨e2, S⟩
end Go.Proofs.YtgifehmpgcenjaaDoor
