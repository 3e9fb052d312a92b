/- Opening of slices of whole numbers that came in, with their room. No condition. -/
import Derived.Test.YtcpfangcibilaaaDoorRo
import Derived.Test.YtcpfangcibilaaaDoorGa
namespace Go.Proofs.YtcpfangcibilaaaDoor
set_option linter.unusedVariables false
set_option linter.unusedSimpArgs false
open Go.ChangeShapes Go.WideShapes Go.ChangeAt Go.RowKit
theorem IL.rd {k : IntKind} {w : World} {A : Option Addr} {l : List Int} (h : IL k w A l) : Rd w A (l.map (Value.int k)) := by
  intro hp
  rw [List.length_map] at hp
  obtain ⟨b, o, e, hc⟩ := h hp
  refine ⟨b, o, e, ?_, fun i v hv => ?_⟩
  · exact World.block_lt_of_cell? w _ (hc 0 hp)
  · have hi : i < l.length := by
      have := (List.getElem?_eq_some_iff.1 hv).1
      simpa using this
    rw [map_ix k l i hi] at hv
    injection hv with hv
    rw [← hv]
    exact hc i hi
theorem open_bl {H : Type} {enc : TypeId × Value → H} {P : Program} {W : World} {base : Nat} {t e : TypeId} {k : IntKind} {v : Value} {d : DataW H} {p : List MemPlace} (ht : P.underlying t = some (.slice e)) (he : P.underlying e = some (.int k)) (hc : P.cellsOf e = 1)
    (hv : Value.okWide P W .any base t v) (h : DataW.Trod enc P W 0 (fun _ => true) true t v d p) :
    ∃ A c l, v = .slice A (List.length l) c ∧ Rd W A (l.map (.int k)) ∧ l.length ≤ c ∧ l.length ≤ maxLen ∧ ∀ i, i < l.length → (Lit.int k (ix l i)).wf = true := by
  obtain ⟨a, len, cap, rfl⟩ := okWide_slice ht hv
  have h' := h
  obtain ⟨fuel, hf⟩ := h'
  have hle : len ≤ cap := by
    rcases open_ints ht he hc hf with ⟨hcs, _⟩ | ⟨x, l, c, zs, hcs, _, hl, hm, hz, _, hcell, hwz⟩
    · simp [Value.cells] at hcs; omega
    · simp [Value.cells] at hcs; omega
  obtain ⟨A, c, l, e1, h1, h2, h3⟩ := open_il ht he hc hv h
  injection e1 with q1 q2 q3
  subst q1 q3
  exact ⟨_, _, l, by rw [q2], h1.rd, by omega, h2, h3⟩
end Go.Proofs.YtcpfangcibilaaaDoor
