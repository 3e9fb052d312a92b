/- Opening a law's arguments. No condition. -/
import Derived.Test.YtcpfangcibilaaaDoorBa
import Derived.ProofKit
import Derived.OpenShut
import Derived.Stop.LaidErr
namespace Go.Proofs.YtcpfangcibilaaaDoor
set_option linter.unusedVariables false
set_option linter.unusedSimpArgs false
open Go.ChangeShapes Go.WideShapes Go.ChangeAt Go.RowKit

/-- a slice of whole numbers that came in -/
theorem open_il {H : Type} {enc : TypeId × Value → H} {P : Program} {W : World} {base : Nat} {t e : TypeId} {k : IntKind} {v : Value} {d : DataW H} {p : List MemPlace} (ht : P.underlying t = some (.slice e)) (he : P.underlying e = some (.int k)) (hc : P.cellsOf e = 1)
    (hv : Value.okWide P W .any base t v) (h : DataW.Trod enc P W 0 (fun _ => true) true t v d p) :
    ∃ A c l, v = .slice A (List.length l) c ∧ IL k W A l ∧ l.length ≤ maxLen ∧ ∀ i, i < l.length → (Lit.int k (ix l i)).wf = true := by
  obtain ⟨a, len, cap, rfl⟩ := okWide_slice ht hv
  obtain ⟨fuel, hf⟩ := h
  rcases open_ints ht he hc hf with ⟨hcs, _⟩ | ⟨x, l, c, zs, hcs, _, hl, hm, hz, _, hcell, hwz⟩
  · simp [Value.cells] at hcs
    obtain ⟨rfl, rfl, rfl⟩ := hcs
    exact ⟨none, 0, [], rfl, IL.nil, by simp [maxLen], fun i hi => absurd hi (by simp)⟩
  · simp [Value.cells] at hcs
    obtain ⟨rfl, rfl, rfl⟩ := hcs
    have hz : zs.length = cap := by simpa using hz
    have hlen : (zs.take len).length = len := by rw [List.length_take]; omega
    refine ⟨some x, cap, zs.take len, by rw [hlen], fun hp => ?_, by rw [hlen]; omega, fun i hi => ?_⟩
    · rw [hlen] at hp
      have hsp : x.spot = none := by
        have := hcell 0 (by omega)
        unfold Addr.add at this
        simp only [if_true] at this
        unfold World.cell? at this
        cases hs : x.spot with
        | none => rfl
        | some q =>
          rw [hs] at this
          split at this <;> simp at this
      refine ⟨x.block, x.off, by cases x; simp at hsp; simp [hsp], fun i hi => ?_⟩
      rw [hlen] at hi
      have := hcell i (by omega)
      have e1 : x.add i = ⟨x.block, x.off + i, none⟩ := by
        unfold Addr.add
        split
        · rename_i h0; subst h0; cases x; simp at hsp; simp [hsp]
        · rfl
      rw [e1] at this
      rw [this]
      simp [ix, List.getElem?_take, hi]
    · rw [hlen] at hi
      refine hwz _ ?_
      have : ix (zs.take len) i = zs[i]'(by omega) := by simp [ix, List.getElem?_take, hi, show i < zs.length by omega]
      rw [this]
      exact List.getElem_mem _
/-- A listed sentinel, with its block. -/
theorem laid_sentinel2 {P : Program} {n nm : String} {text : List UInt8} {r : List (String × DataW Unit)} {W : World} {g : Nat} {ti tp te ts : TypeId} {ms : Array (String × TypeId)} {f : Field}
    (h : laidMet P ((n, .iface nm (.ptr (.agg [.lit (.string text)]))) :: r) W)
    (hg : P.globalNamed n = some g) (ht : (P.globals[g]?).map (·.type) = some ti) (hi : P.underlying ti = some (.interface ms)) (hrow : ∀ u, P.typeName? 3 u = some nm → u = tp)
    (hp : P.underlying tp = some (.pointer te)) (he : P.underlying te = some (.struct #[f])) (hft : f.type = ts) (hfo : f.offset = 0) (hs : P.underlying ts = some .string) (hc : P.cellsOf te = 1) (hcs : P.cellsOf ts = 1) :
    ∃ (a : Addr) (s : ByteArray), W.cell? ⟨g, 0, none⟩ = some (.iface tp (.pointer (some a))) ∧ W.cell? a = some (.string s) ∧ s.data.toList = text ∧ ∃ cs t, W.heap[a.block]? = some (.cells cs t (0, 0)) := by
  obtain ⟨ps, ⟨g0, t0, cs0, f0, p0, q0, hg0, ht0, hv0, hd0, _, e0⟩, _, hrows⟩ := h
  obtain rfl := Option.some.inj (hg.symm.trans hg0)
  obtain rfl := Option.some.inj (ht.symm.trans ht0)
  subst e0
  obtain ⟨l0⟩ := cs0
  have ok0 : ∀ u v, l0 = [.iface u v] → Value.okWide P W .any 0 u v := fun u v e => by
    subst e
    exact (hrows g 0 (by simp [MemPlace.row])).2 u v (by simpa using World.var?_cell hg0 hv0 0)
  obtain ⟨a0, s0, rfl, hc0, hs0, hz0, hp0⟩ := errorString_of_trod hi hrow hp he hft hfo hs hc hcs hd0 ok0
  subst hp0
  refine ⟨a0, s0, by simpa using World.var?_cell hg0 hv0 0, hc0, hs0, ?_⟩
  exact (hrows a0.block a0.off (by simp [MemPlace.row])).1
end Go.Proofs.YtcpfangcibilaaaDoor
