/- Steps more: a part of a slice, in a region that draws. No condition. -/
import Derived.Test.YtcpfangcibilaaaDoorGw
namespace Go.Proofs.YtcpfangcibilaaaDoor
set_option linter.unusedVariables false
set_option linter.unusedSimpArgs false
open Go.RowKit
/-- The address of a part that begins at l, of a slice with room c. -/
def subC (A : Option Addr) (c l : Nat) : Option Addr := if c = l then A else A.map (·.add l)
theorem Rd.partC {w : World} {A : Option Addr} {xs : List Value} (h : Rd w A xs) {c l n : Nat} (hc : xs.length ≤ c) (hn : l + n ≤ xs.length) : Rd w (subC A c l) ((xs.drop l).take n) := by
  unfold subC
  split
  · intro hp
    simp at hp
    omega
  · have := h.part l n
    cases A with
    | none => exact this
    | some a =>
      by_cases h0 : 0 < xs.length
      · obtain ⟨b, q, e, _⟩ := h h0
        injection e with e
        subst e
        simpa [sub, add_ea] using this
      · intro hp
        simp at hp
        omega
theorem Rd.partI {k : IntKind} {w : World} {A : Option Addr} {xs : List Int} (h : Rd w A (xs.map (.int k))) {c l n : Nat} (hc : xs.length ≤ c) (hn : l + n ≤ xs.length) : Rd w (subC A c l) (((xs.drop l).take n).map (.int k)) := by
  have := h.partC (c := c) (l := l) (n := n) (by simpa using hc) (by simpa using hn)
  rwa [← List.map_drop, ← List.map_take] at this
section
variable {P : Program} {Q : Exit → Act → World → Prop} {S : World → Prop}
theorem exec_slice_n {a : Act} {o : Oper} {w : World} (t e : TypeId) (x : Operand) (lo hi : Option Operand) (ho : o.op = .slice t x lo hi none) (ht : P.underlying t = some (.slice e)) (hs : (P.info? e).map (·.size) = some 1)
    (A : Option Addr) (n c l h : Nat) (hx : a.eval x = .slice A n c) (hlo : Bd (lo.map a.eval) 0 l) (hhi : Bd (hi.map a.eval) n h) (h1 : l ≤ h) (h2 : h ≤ c) :
    (execOp a.eval o).run P w = .ok (.value (.slice (subC A c l) (h - l) (c - l))) w := by
  have hrun := run_sliceAt (W := w) ht hs A n c l h (lo.map a.eval) (hi.map a.eval) hlo.lo hhi.hi h1 h2
  simp only [execOp, ho, hx, Sem.run_bind, Option.map_none, hrun, Result.andThen_ok, Sem.run_pure, subC]
theorem planSliceN {l : List Oper} {i : Nat} {r : List (Nat × Bool)} {a : Act} {w : World} (o : Oper) (q : List Oper) (hi : l.drop i = o :: q) (hg : Region.wanted o (yielded l.toArray a.tmps) = true) (t e : TypeId) (x : Operand) (lo hiO : Option Operand) (ho : o.op = .slice t x lo hiO none) (ht : P.underlying t = some (.slice e)) (hs : (P.info? e).map (·.size) = some 1)
    (A : Option Addr) (n c ll h : Nat) (hx : a.eval x = .slice A n c) (hlo : Bd (lo.map a.eval) 0 ll) (hhi : Bd (hiO.map a.eval) n h) (h1 : ll ≤ h) (h2 : h ≤ c)
    (hh : wpPlan P l.toArray Q S r (a.put o.dst (.slice (subC A c ll) (h - ll) (c - ll))) w) : wpPlan P l.toArray Q S ((i, true) :: r) a w :=
  planTake o q _ hi hg (fun w _ => exec_slice_n t e x lo hiO ho ht hs A n c ll h hx hlo hhi h1 h2) hh
end
end Go.Proofs.YtcpfangcibilaaaDoor
