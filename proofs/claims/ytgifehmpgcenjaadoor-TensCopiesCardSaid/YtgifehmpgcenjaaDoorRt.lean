/- Opening of slices, api.Desc and api.Tensor that came in. No condition. -/
import Derived.Test.YtgifehmpgcenjaaDoorTa
import Derived.Test.YtgifehmpgcenjaaDoorRo
import Derived.ChangeSame
namespace Go.Proofs.YtgifehmpgcenjaaDoor
set_option linter.unusedVariables false
set_option linter.unusedSimpArgs false
open Go.ChangeShapes Go.WideShapes Go.ChangeAt Go.RowKit

theorem sl_of_trod {H : Type} {enc : TypeId × Value → H} {P : Program} {W : World} {t e : TypeId} {k : IntKind} {fuel : Nat} {cs : List Value} {x : DataW H × List MemPlace} (ht : P.underlying t = some (.slice e)) (he : P.underlying e = some (.int k)) (hc : P.cellsOf e = 1)
    (hf : DataW.trod enc P W 0 (fun _ => true) true fuel t cs = some x) :
    ∃ A c l, cs = [.slice A (List.length l) c] ∧ SL k W A l c ∧ ∀ i, i < l.length → (Lit.int k (ix l i)).wf = true := by
  rcases open_ints ht he hc hf with ⟨hcs, _⟩ | ⟨x, len, cap, zs, hcs, _, hl, hm, hz, _, hcell, hwz⟩
  · exact ⟨none, 0, [], hcs, ⟨IL.nil, by simp [maxLen], fun _ => rfl⟩, fun i hi => absurd hi (by simp)⟩
  · have hz : zs.length = cap := by simpa using hz
    have hlen : (zs.take len).length = len := by rw [List.length_take]; omega
    refine ⟨some x, cap, zs.take len, by rw [hlen]; exact hcs, ⟨fun hp => ?_, by rw [hlen]; omega, fun e => by cases e⟩, fun i hi => ?_⟩
    · rw [hlen] at hp
      have hsp : x.spot = none := by
        have := hcell 0 (by omega)
        unfold Addr.add at this
        simp only [if_true] at this
        unfold World.cell? at this
        cases hs : x.spot with
        | none => rfl
        | some q =>
          rw [hs] at this
          split at this <;> simp at this
      refine ⟨x.block, x.off, by cases x; simp at hsp; simp [hsp], fun i hi => ?_⟩
      rw [hlen] at hi
      have := hcell i (by omega)
      have e1 : x.add i = ⟨x.block, x.off + i, none⟩ := by
        unfold Addr.add
        split
        · rename_i h0; subst h0; cases x; simp at hsp; simp [hsp]
        · rfl
      rw [e1] at this
      rw [this]
      simp [ix, List.getElem?_take, hi]
    · rw [hlen] at hi
      refine hwz _ ?_
      have : ix (zs.take len) i = zs[i]'(by omega) := by simp [ix, List.getElem?_take, hi, show i < zs.length by omega]
      rw [this]
      exact List.getElem_mem _
set_option maxRecDepth 100000 in
theorem open_tensor {H : Type} {enc : TypeId × Value → H} {W : World} {base : Nat} {v : Value} {d : DataW H} {p : List MemPlace}
    (hv : Value.okWide Tryd.prog W .any base 49 v) (h : DataW.Trod enc Tryd.prog W 0 (fun _ => true) true 49 v d p) :
    ∃ A s c b B t k, v = .agg #[.slice A (List.length s) c, .bool b, .slice B (List.length t) k] ∧ SL .i64 W A s c ∧ SL .i64 W B t k ∧ (∀ i, i < s.length → (Lit.int .i64 (ix s i)).wf = true) ∧ (∀ i, i < t.length → (Lit.int .i64 (ix t i)).wf = true) := by
  obtain ⟨cs, rfl, hcs⟩ := okWide_struct Tryd.underlying49 hv
  have h3 : Tryd.prog.cellsOf 49 = 3 := by kernel_rfl
  have h2 : Tryd.prog.cellsOf 30 = 2 := by kernel_rfl
  have h1 : Tryd.prog.cellsOf 24 = 1 := by kernel_rfl
  have hb1 : Tryd.prog.cellsOf 4 = 1 := by kernel_rfl
  have hi1 : Tryd.prog.cellsOf 3 = 1 := by kernel_rfl
  rw [h3] at hcs
  obtain ⟨fuel, hf⟩ := h
  obtain ⟨y0, y1, n, _, _, hd, ht⟩ := trod_struct2 Tryd.underlying49 hf
  obtain ⟨z0, z1, n', _, _, hs, hb⟩ := trod_struct2 Tryd.underlying30 hd
  obtain ⟨l⟩ := cs
  match l, hcs with
  | [u0, u1, u2], _ =>
    simp only [h2, h1, hb1] at hs hb ht
    obtain ⟨A, c, s, e0, S0, w0⟩ := sl_of_trod Tryd.underlying24 Tryd.underlying3 hi1 hs
    obtain ⟨b, e1, _⟩ := DataW.trod_bool Tryd.underlying4 hb
    obtain ⟨B, k, t, e2, S2, w2⟩ := sl_of_trod Tryd.underlying24 Tryd.underlying3 hi1 ht
    simp [Value.cells] at e0 e1 e2
    subst e0; subst e1; subst e2
    exact ⟨A, s, c, b, B, t, k, rfl, S0, S2, w0, w2⟩
set_option maxRecDepth 100000 in
theorem open_desc {H : Type} {enc : TypeId × Value → H} {W : World} {base : Nat} {v : Value} {d : DataW H} {p : List MemPlace}
    (hv : Value.okWide Tryd.prog W .any base 30 v) (h : DataW.Trod enc Tryd.prog W 0 (fun _ => true) true 30 v d p) :
    ∃ A s c b, v = .agg #[.slice A (List.length s) c, .bool b] ∧ SL .i64 W A s c ∧ (∀ i, i < s.length → (Lit.int .i64 (ix s i)).wf = true) := by
  obtain ⟨cs, rfl, hcs⟩ := okWide_struct Tryd.underlying30 hv
  have h2 : Tryd.prog.cellsOf 30 = 2 := by kernel_rfl
  have h1 : Tryd.prog.cellsOf 24 = 1 := by kernel_rfl
  have hb1 : Tryd.prog.cellsOf 4 = 1 := by kernel_rfl
  have hi1 : Tryd.prog.cellsOf 3 = 1 := by kernel_rfl
  rw [h2] at hcs
  obtain ⟨fuel, hf⟩ := h
  obtain ⟨z0, z1, n', _, _, hs, hb⟩ := trod_struct2 Tryd.underlying30 hf
  obtain ⟨l⟩ := cs
  match l, hcs with
  | [u0, u1], _ =>
    simp only [h1, hb1] at hs hb
    obtain ⟨A, c, s, e0, S0, w0⟩ := sl_of_trod Tryd.underlying24 Tryd.underlying3 hi1 hs
    obtain ⟨b, e1, _⟩ := DataW.trod_bool Tryd.underlying4 hb
    simp [Value.cells] at e0 e1
    subst e0; subst e1
    exact ⟨A, s, c, b, rfl, S0, w0⟩
end Go.Proofs.YtgifehmpgcenjaaDoor
