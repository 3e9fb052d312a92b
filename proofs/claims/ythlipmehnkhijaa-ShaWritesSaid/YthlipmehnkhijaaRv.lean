/- Opening of slices of slices of whole numbers that came in. No condition. -/
import Derived.Test.YthlipmehnkhijaaRs
import Derived.Test.YthlipmehnkhijaaHi
import Derived.Deep.Matrix
namespace Go.Proofs.Ythlipmehnkhijaa
set_option linter.unusedVariables false
set_option linter.unusedSimpArgs false
open Go.ChangeShapes Go.WideShapes Go.ChangeAt Go.RowKit
theorem spot_none {w : World} {x : Addr} {v : Value} (this : w.cell? (x.add 0) = some v) : x = ⟨x.block, x.off, none⟩ := by
  have hsp : x.spot = none := by
    unfold Addr.add at this
    simp only [if_true] at this
    unfold World.cell? at this
    cases hs : x.spot with
    | none => rfl
    | some q =>
      rw [hs] at this
      split at this <;> simp at this
  cases x; simp at hsp; simp [hsp]
theorem open_bls {H : Type} {enc : TypeId × Value → H} {P : Program} {W : World} {base : Nat} {t e q : TypeId} {v : Value} {d : DataW H} {p : List MemPlace} (ht : P.underlying t = some (.slice e)) (he : P.underlying e = some (.slice q)) (hq : P.underlying q = some (.int .u8)) (ce : P.cellsOf e = 1) (cq : P.cellsOf q = 1)
    (hv : Value.okWide P W .any base t v) (h : DataW.Trod enc P W 0 (fun _ => true) true t v d p) :
    ∃ A c ps, v = .slice A (List.length ps) c ∧ Rd W A (ps.map pv) ∧ (∀ p ∈ ps, Rd W p.1 (p.2.1.map (.int .u8))) ∧ ps.length ≤ c ∧ ps.length ≤ maxLen ∧ ∀ p ∈ ps, p.2.1.length ≤ p.2.2 ∧ p.2.1.length ≤ maxLen := by
  obtain ⟨a, len, cap, rfl⟩ := okWide_slice ht hv
  obtain ⟨fuel, hf⟩ := h
  rcases Go.Deep.open_int_rows ht he hq ce cq hf with ⟨hcs, _⟩ | ⟨x, l, c, A, Ls, C, Z, hcs, _, hl, hm, _, hr⟩
  · simp [Value.cells] at hcs
    obtain ⟨rfl, rfl, rfl⟩ := hcs
    exact ⟨none, 0, [], rfl, Rd.none _ _, (fun p hp => by cases hp), Nat.zero_le _, Nat.zero_le _, (fun p hp => by cases hp)⟩
  · simp [Value.cells] at hcs
    obtain ⟨rfl, rfl, rfl⟩ := hcs
    have hlen : ((List.range len).map fun r => (A r, (Z r).take (Ls r), C r)).length = len := by simp
    refine ⟨some x, cap, (List.range len).map fun r => (A r, (Z r).take (Ls r), C r), by rw [hlen], fun hp => ?_, fun p hp => ?_, by rw [hlen]; exact hl, by rw [hlen]; omega, fun p hp => ?_⟩
    · rw [List.length_map, hlen] at hp
      have hx := spot_none (hr 0 (by omega)).1
      refine ⟨x.block, x.off, by rw [← hx], World.block_lt_of_cell? W _ (hr 0 (by omega)).1, fun i v hv => ?_⟩
      · rw [List.getElem?_map, List.getElem?_map] at hv
        obtain ⟨y, hy, rfl⟩ := Option.map_eq_some_iff.1 hv
        obtain ⟨r, hr1, rfl⟩ := Option.map_eq_some_iff.1 hy
        have hir := (List.getElem?_eq_some_iff.1 hr1)
        obtain ⟨h1, h2⟩ := hir
        simp at h1 h2
        subst h2
        have h3 := hr i (by omega)
        have h4 := h3.1
        rw [hx, add_ea] at h4
        rw [h4]
        have : ((Z i).take (Ls i)).length = Ls i := by rw [List.length_take]; have := h3.2.1; have := h3.2.2.2.1; omega
        simp [pv, this]
    · obtain ⟨r, hr1, rfl⟩ := List.mem_map.1 hp
      have hrl := List.mem_range.1 hr1
      obtain ⟨h1, h2, h3, h4, h5, h6, h7⟩ := hr r (by omega)
      intro hpos
      simp only [List.length_map, List.length_take] at hpos
      cases hA : A r with
      | none => have := h6 hA; omega
      | some y =>
        have h8 := (h7 y hA).2
        have hx := spot_none (h8 0 (by omega))
        refine ⟨y.block, y.off, by simp only []; rw [← hx], World.block_lt_of_cell? W _ (h8 0 (by omega)), fun i v hv => ?_⟩
        simp only [List.getElem?_map] at hv
        obtain ⟨u, hu, rfl⟩ := Option.map_eq_some_iff.1 hv
        have hi := (List.getElem?_eq_some_iff.1 hu).1
        rw [List.length_take] at hi
        have h9 := h8 i (by omega)
        rw [hx, add_ea] at h9
        rw [h9]
        rw [List.getElem?_take, if_pos (by omega)] at hu
        rw [List.getD_eq_getElem?_getD, hu]; rfl
    · obtain ⟨r, hr1, rfl⟩ := List.mem_map.1 hp
      have hrl := List.mem_range.1 hr1
      obtain ⟨h1, h2, h3, h4, h5, h6, h7⟩ := hr r (by omega)
      simp only [List.length_take]
      omega
end Go.Proofs.Ythlipmehnkhijaa
