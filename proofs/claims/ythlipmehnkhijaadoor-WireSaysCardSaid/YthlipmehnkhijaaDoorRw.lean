/- Opening of frames and replies that came in. No condition. -/
import Derived.Test.YthlipmehnkhijaaDoorRs
import Derived.Test.YthlipmehnkhijaaDoorGb
import Derived.ChangeSame
namespace Go.Proofs.YthlipmehnkhijaaDoor
set_option linter.unusedVariables false
set_option linter.unusedSimpArgs false
open Go.ChangeShapes Go.WideShapes Go.ChangeAt Go.RowKit
theorem spot_none0 {w : World} {x : Addr} {v : Value} (this : w.cell? (x.add 0) = some v) : x = ⟨x.block, x.off, none⟩ := by
  have hsp : x.spot = none := by
    unfold Addr.add at this
    simp only [if_true] at this
    unfold World.cell? at this
    cases hs : x.spot with
    | none => rfl
    | some q =>
      rw [hs] at this
      split at this <;> simp at this
  cases x; simp at hsp; simp [hsp]
theorem bl_of_trod {H : Type} {enc : TypeId × Value → H} {P : Program} {W : World} {t e : TypeId} {k : IntKind} {fuel : Nat} {cs : List Value} {x : DataW H × List MemPlace} (ht : P.underlying t = some (.slice e)) (he : P.underlying e = some (.int k)) (hc : P.cellsOf e = 1)
    (hf : DataW.trod enc P W 0 (fun _ => true) true fuel t cs = some x) :
    ∃ A c l, cs = [.slice A (List.length l) c] ∧ Rd W A (l.map (Value.int k)) ∧ l.length ≤ c ∧ l.length ≤ maxLen ∧ ∀ i, i < l.length → (Lit.int k (ix l i)).wf = true := by
  rcases open_ints ht he hc hf with ⟨hcs, _⟩ | ⟨x, len, cap, zs, hcs, _, hl, hm, hz, _, hcell, hwz⟩
  · exact ⟨none, 0, [], hcs, (fun hp => absurd hp (by simp)), Nat.zero_le _, Nat.zero_le _, fun i hi => absurd hi (by simp)⟩
  · have hz : zs.length = cap := by simpa using hz
    have hlen : (zs.take len).length = len := by rw [List.length_take]; omega
    refine ⟨some x, cap, zs.take len, by rw [hlen]; exact hcs, fun hp => ?_, by omega, by omega, fun i hi => ?_⟩
    · rw [List.length_map, hlen] at hp
      have hx := spot_none0 (hcell 0 (by omega))
      refine ⟨x.block, x.off, by rw [← hx], World.block_lt_of_cell? W _ (hcell 0 (by omega)), fun i v hv => ?_⟩
      rw [List.getElem?_map] at hv
      obtain ⟨u, hu, rfl⟩ := Option.map_eq_some_iff.1 hv
      have hi := (List.getElem?_eq_some_iff.1 hu).1
      rw [hlen] at hi
      have h9 := hcell i (by omega)
      rw [hx, add_ea] at h9
      rw [h9]
      rw [List.getElem?_take, if_pos (by omega)] at hu
      rw [List.getD_eq_getElem?_getD, hu]; rfl
    · rw [hlen] at hi
      refine hwz _ ?_
      have : ix (zs.take len) i = zs[i]'(by omega) := by simp [ix, List.getElem?_take, hi, show i < zs.length by omega]
      rw [this]
      exact List.getElem_mem _

set_option maxRecDepth 100000 in
theorem open_frame {H : Type} {enc : TypeId × Value → H} {W : World} {base : Nat} {v : Value} {d : DataW H} {p : List MemPlace}
    (hv : Value.okWide Tryd.prog W .any base 31 v) (h : DataW.Trod enc Tryd.prog W 0 (fun _ => true) true 31 v d p) :
    ∃ (x0 x1 x2 : Int) (A : Option Addr) (c : Nat) (l : List Int), v = .agg #[.int .i64 x0, .int .u64 x1, .int .i64 x2, .slice A (List.length l) c] ∧ Rd W A (l.map (.int .u8)) ∧ l.length ≤ c ∧ l.length ≤ maxLen ∧ (∀ i, i < l.length → (Lit.int .u8 (ix l i)).wf = true) ∧ (Lit.int .i64 x0).wf = true ∧ (Lit.int .u64 x1).wf = true ∧ (Lit.int .i64 x2).wf = true := by
  obtain ⟨cs, rfl, hcs⟩ := okWide_struct Tryd.underlying31 hv
  have hn : Tryd.prog.cellsOf 31 = 4 := by kernel_rfl
  have hI : Tryd.prog.cellsOf 3 = 1 := by kernel_rfl
  have hU : Tryd.prog.cellsOf 29 = 1 := by kernel_rfl
  have hB : Tryd.prog.cellsOf 24 = 1 := by kernel_rfl
  have h8 : Tryd.prog.cellsOf 5 = 1 := by kernel_rfl
  rw [hn] at hcs
  obtain ⟨fuel, hf⟩ := h
  obtain ⟨xs, n, _, hxx, hl, hlen, hf⟩ := DataW.trod_struct Tryd.underlying31 hf
  obtain ⟨cl⟩ := cs
  match cl, hcs, xs, hlen with
  | [u0, u1, u2, u3], _, [y0, y1, y2, y3], _ =>
    have f0 := hf 0 _ rfl
    have f1 := hf 1 _ rfl
    have f2 := hf 2 _ rfl
    have f3 := hf 3 _ rfl
    simp only [hI, hU, hB, List.getElem?_cons_zero, List.getElem?_cons_succ] at f0 f1 f2 f3
    obtain ⟨x0, e0, _, w0⟩ := DataW.trod_int Tryd.underlying3 f0
    obtain ⟨x1, e1, _, w1⟩ := DataW.trod_int Tryd.underlying29 f1
    obtain ⟨x2, e2, _, w2⟩ := DataW.trod_int Tryd.underlying3 f2
    obtain ⟨A, c, l, e3, S1, S2, S3, S4⟩ := bl_of_trod Tryd.underlying24 Tryd.underlying5 h8 f3
    simp [Value.cells, hI, hU, hB] at e0 e1 e2 e3
    subst e0
    subst e1
    subst e2
    subst e3
    exact ⟨x0, x1, x2, A, c, l, rfl, S1, S2, S3, S4, w0, w1, w2⟩
set_option maxRecDepth 100000 in
theorem open_reply {H : Type} {enc : TypeId × Value → H} {W : World} {base : Nat} {v : Value} {d : DataW H} {p : List MemPlace}
    (hv : Value.okWide Tryd.prog W .any base 35 v) (h : DataW.Trod enc Tryd.prog W 0 (fun _ => true) true 35 v d p) :
    ∃ (x0 x1 x2 x4 : Int) (A : Option Addr) (c : Nat) (l : List Int), v = .agg #[.int .u64 x0, .int .i64 x1, .int .i64 x2, .slice A (List.length l) c, .int .i64 x4] ∧ Rd W A (l.map (.int .u8)) ∧ l.length ≤ c ∧ l.length ≤ maxLen ∧ (∀ i, i < l.length → (Lit.int .u8 (ix l i)).wf = true) ∧ (Lit.int .u64 x0).wf = true ∧ (Lit.int .i64 x1).wf = true ∧ (Lit.int .i64 x2).wf = true ∧ (Lit.int .i64 x4).wf = true := by
  obtain ⟨cs, rfl, hcs⟩ := okWide_struct Tryd.underlying35 hv
  have hn : Tryd.prog.cellsOf 35 = 5 := by kernel_rfl
  have hI : Tryd.prog.cellsOf 3 = 1 := by kernel_rfl
  have hU : Tryd.prog.cellsOf 29 = 1 := by kernel_rfl
  have hB : Tryd.prog.cellsOf 24 = 1 := by kernel_rfl
  have h8 : Tryd.prog.cellsOf 5 = 1 := by kernel_rfl
  rw [hn] at hcs
  obtain ⟨fuel, hf⟩ := h
  obtain ⟨xs, n, _, hxx, hl, hlen, hf⟩ := DataW.trod_struct Tryd.underlying35 hf
  obtain ⟨cl⟩ := cs
  match cl, hcs, xs, hlen with
  | [u0, u1, u2, u3, u4], _, [y0, y1, y2, y3, y4], _ =>
    have f0 := hf 0 _ rfl
    have f1 := hf 1 _ rfl
    have f2 := hf 2 _ rfl
    have f3 := hf 3 _ rfl
    have f4 := hf 4 _ rfl
    simp only [hI, hU, hB, List.getElem?_cons_zero, List.getElem?_cons_succ] at f0 f1 f2 f3 f4
    obtain ⟨x0, e0, _, w0⟩ := DataW.trod_int Tryd.underlying29 f0
    obtain ⟨x1, e1, _, w1⟩ := DataW.trod_int Tryd.underlying3 f1
    obtain ⟨x2, e2, _, w2⟩ := DataW.trod_int Tryd.underlying3 f2
    obtain ⟨A, c, l, e3, S1, S2, S3, S4⟩ := bl_of_trod Tryd.underlying24 Tryd.underlying5 h8 f3
    obtain ⟨x4, e4, _, w4⟩ := DataW.trod_int Tryd.underlying3 f4
    simp [Value.cells, hI, hU, hB] at e0 e1 e2 e3 e4
    subst e0
    subst e1
    subst e2
    subst e3
    subst e4
    exact ⟨x0, x1, x2, x4, A, c, l, rfl, S1, S2, S3, S4, w0, w1, w2, w4⟩
end Go.Proofs.YthlipmehnkhijaaDoor
