/- A ring of places that take turns: what a turn does, in plain words; the ring's memory. No condition. -/
import Derived.Test.YtgbgplhiiaiifaaDoorGx
import Derived.Test.YtgbgplhiiaiifaaDoorGt
import Derived.Test.YtgbgplhiiaiifaaDoorRs
namespace Go.Proofs.YtgbgplhiiaiifaaDoor
set_option linter.unusedVariables false
set_option linter.unusedSimpArgs false
open Go.RowKit
/-- What a deficit serves of what waits: what is served, what waits still, what is left of the deficit. -/
def sv : Int → List Int → List Int × List Int × Int
  | _, [] => ([], [], 0)
  | d, c :: r => if c ≤ d then (c :: (sv (d - c) r).1, (sv (d - c) r).2.1, (sv (d - c) r).2.2) else ([], c :: r, d)
theorem sv_app : ∀ (l : List Int) (d : Int), (sv d l).1 ++ (sv d l).2.1 = l
  | [], d => rfl
  | c :: r, d => by
    unfold sv
    split
    · simp [sv_app r (d - c)]
    · simp
/-- A place, and where it lies. -/
structure Pc where
  g : Nat
  A : Option Addr
  c : Nat
  q : Int
  d : Int
  s : Int
  l : List Int
/-- The pointer to a place. -/
def ptV : Option Pc → Value
  | none => .pointer none
  | some p => .pointer (some ⟨p.g, 0, none⟩)
def pcC (p : Pc) : List Value := [.int .i64 p.q, .int .i64 p.d, .int .i64 p.s, .slice p.A p.l.length p.c]
/-- A place's memory. -/
def pcE (p : Pc) : List Ent := [.blk p.g (pcC p) 69, .own p.A (p.l.map (.int .i64)) p.c 3]
def opE : Option Pc → List Ent
  | none => []
  | some p => pcE p
def psE (ps : List (Option Pc)) : List Ent := ps.flatMap opE
def rgC (fx : Bool) (last : Int) (ps : List (Option Pc)) : List Value := .bool fx :: .int .i64 last :: ps.map ptV
/-- A ring's memory. -/
def rgE (g : Nat) (fx : Bool) (last : Int) (ps : List (Option Pc)) : List Ent := .blk g (rgC fx last ps) 65 :: psE ps
/-- The entries R lie in L, as f tells. -/
inductive PullA (R : List Ent) : List Ent → (List Ent → List Ent) → Prop where
  | here (T : List Ent) : PullA R (R ++ T) (fun X => X ++ T)
  | tail (a : Ent) {L : List Ent} {f : List Ent → List Ent} (h : PullA R L f) : PullA R (a :: L) (fun X => a :: f X)
  | skip (S : List Ent) {L : List Ent} {f : List Ent → List Ent} (h : PullA R L f) : PullA R (S ++ L) (fun X => S ++ f X)
theorem PullA.perm {R L : List Ent} {f : List Ent → List Ent} (h : PullA R L f) : ∃ T, L.Perm (R ++ T) ∧ ∀ X, (f X).Perm (X ++ T) := by
  induction h with
  | here T => exact ⟨T, .refl _, fun X => .refl _⟩
  | tail a h ih =>
    obtain ⟨T, h1, h2⟩ := ih
    exact ⟨a :: T, (h1.cons a).trans List.perm_middle.symm, fun X => ((h2 X).cons a).trans List.perm_middle.symm⟩
  | skip S h ih =>
    obtain ⟨T, h1, h2⟩ := ih
    have key : ∀ X : List Ent, (S ++ (X ++ T)).Perm (X ++ (S ++ T)) := fun X => by
      rw [← List.append_assoc, ← List.append_assoc]
      exact List.perm_append_comm.append_right T
    exact ⟨S ++ T, (h1.append_left S).trans (key R), fun X => ((h2 X).append_left S).trans (key X)⟩
theorem psE_at (ps : List (Option Pc)) (k : Nat) (o : Option Pc) (h : ps[k]? = some o) : ∃ T, (psE ps).Perm (opE o ++ T) ∧ ∀ o', (psE (ps.set k o')).Perm (opE o' ++ T) := by
  obtain ⟨hk, rfl⟩ := List.getElem?_eq_some_iff.1 h
  refine ⟨psE (ps.take k) ++ psE (ps.drop (k + 1)), ?_, fun o' => ?_⟩
  · have e : ps = ps.take k ++ ps[k] :: ps.drop (k + 1) := by rw [← List.drop_eq_getElem_cons hk, List.take_append_drop]
    have e2 : psE ps = psE (ps.take k) ++ (opE ps[k] ++ psE (ps.drop (k + 1))) := by
      conv => lhs; rw [e]
      unfold psE
      rw [List.flatMap_append, List.flatMap_cons]
    rw [e2, ← List.append_assoc, ← List.append_assoc]
    exact List.perm_append_comm.append_right _
  · rw [List.set_eq_take_append_cons_drop, if_pos hk]
    have e2 : psE (ps.take k ++ o' :: ps.drop (k + 1)) = psE (ps.take k) ++ (opE o' ++ psE (ps.drop (k + 1))) := by
      unfold psE
      rw [List.flatMap_append, List.flatMap_cons]
    rw [e2, ← List.append_assoc, ← List.append_assoc]
    exact List.perm_append_comm.append_right _
theorem rgC_ptr (fx : Bool) (last : Int) (ps : List (Option Pc)) (k : Nat) (o : Option Pc) (h : ps[k]? = some o) : (rgC fx last ps)[2 + k]? = some (ptV o) := by
  unfold rgC
  rw [Nat.add_comm, show k + 2 = (k + 1) + 1 by omega, List.getElem?_cons_succ, List.getElem?_cons_succ, List.getElem?_map, h]; rfl
theorem rgC_set (fx : Bool) (last : Int) (ps : List (Option Pc)) (k : Nat) (o : Option Pc) : (rgC fx last ps).set (2 + k) (ptV o) = rgC fx last (ps.set k o) := by
  unfold rgC
  rw [Nat.add_comm, show k + 2 = (k + 1) + 1 by omega, List.set_cons_succ, List.set_cons_succ, List.map_set]
theorem rgC_last (fx : Bool) (last last' : Int) (ps : List (Option Pc)) : (rgC fx last ps).set 1 (.int .i64 last') = rgC fx last' ps := rfl
theorem rgC_len (fx : Bool) (last : Int) (ps : List (Option Pc)) : (rgC fx last ps).length = ps.length + 2 := by simp [rgC]
theorem set_one (cs : List Value) (i : Nat) (u : Value) (h : i < cs.length) : cs.take i ++ [u] ++ cs.drop (i + [u].length) = cs.set i u := by
  rw [List.set_eq_take_append_cons_drop, if_pos h]; simp
end Go.Proofs.YtgbgplhiiaiifaaDoor
