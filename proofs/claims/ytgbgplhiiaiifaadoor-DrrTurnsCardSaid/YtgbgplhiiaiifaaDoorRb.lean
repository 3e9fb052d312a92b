/- Opening of slices of truth values and of floats that came in. No condition. -/
import Derived.Test.YtgbgplhiiaiifaaDoorRs
import Derived.Test.YtgbgplhiiaiifaaDoorGc
namespace Go.Proofs.YtgbgplhiiaiifaaDoor
set_option linter.unusedVariables false
set_option linter.unusedSimpArgs false
open Go.ChangeShapes Go.WideShapes Go.ChangeAt Go.RowKit
theorem trod_float {H : Type} {enc : TypeId × Value → H} {P : Program} {w : World} {base : Nat} {spare : Nat → Bool} {held : Bool} {fuel : Nat} {t : TypeId} {cs : List Value} {x : DataW H × List MemPlace} {k : FloatKind} (ht : P.underlying t = some (.float k)) (h : DataW.trod enc P w base spare held fuel t cs = some x) : ∃ n, cs = [.float k n] ∧ (Lit.float k n).wf = true := by
  cases fuel with
  | zero => simp [DataW.trod] at h
  | succ n =>
    unfold DataW.trod at h
    rw [ht] at h
    split at h <;> simp_all
/-- A slice of one-celled elements that came in. -/
theorem open_sl {H : Type} {enc : TypeId × Value → H} {P : Program} {W : World} {base : Nat} {t e : TypeId} {v : Value} {d : DataW H} {p : List MemPlace} (ht : P.underlying t = some (.slice e)) (hc : P.cellsOf e = 1)
    (hv : Value.okWide P W .any base t v) (h : DataW.Trod enc P W 0 (fun _ => true) true t v d p) :
    ∃ A c vs, v = .slice A (List.length vs) c ∧ Rd W A vs ∧ vs.length ≤ c ∧ vs.length ≤ maxLen ∧ ∀ u, u ∈ vs → ∃ fuel x, DataW.trod enc P W 0 (fun _ => true) true fuel e [u] = some x := by
  obtain ⟨a, len, cap, rfl⟩ := okWide_slice ht hv
  obtain ⟨fuel, hf⟩ := h
  rcases DataW.trod_slice ht hf with ⟨hcs, _⟩ | ⟨x, l, c, elems, rest, n, _, hcs, _, hb, hl, hm, hlen, hel, _, _⟩
  · simp [Value.cells] at hcs
    obtain ⟨rfl, rfl, rfl⟩ := hcs
    exact ⟨none, 0, [], rfl, Rd.none _ _, Nat.zero_le _, Nat.zero_le _, fun u hu => by cases hu⟩
  · simp [Value.cells] at hcs
    obtain ⟨rfl, rfl, rfl⟩ := hcs
    have each : ∀ i, i < len → ∃ u y, W.cell? (x.add i) = some u ∧ DataW.trod enc P W 0 (fun _ => true) true n e [u] = some y := by
      intro i hi
      have h1 := hel i hi
      rw [List.getElem?_eq_getElem (by omega), hc, Nat.mul_one, Option.bind_eq_some_iff] at h1
      obtain ⟨cs, h2, h3⟩ := h1
      have hl := (World.cells?_some h2).1
      rcases cs with _ | ⟨u, _ | ⟨u2, r⟩⟩
      · have := (World.cells?_some h2).2.1; simp at this
      · exact ⟨u, _, cell_of_cells?_one h2, h3⟩
      · have := (World.cells?_some h2).2.1; simp at this
    obtain ⟨f, hfv⟩ : ∃ f : Nat → Value, ∀ i, i < len → W.cell? (x.add i) = some (f i) ∧ ∃ y, DataW.trod enc P W 0 (fun _ => true) true n e [f i] = some y :=
      ⟨fun i => if h : i < len then (each i h).choose else undef, fun i hi => by
        simp only [dif_pos hi]
        have := (each i hi).choose_spec
        obtain ⟨y, h1, h2⟩ := this
        exact ⟨h1, y, h2⟩⟩
    have hvl : ((List.range len).map f).length = len := by simp
    refine ⟨some x, cap, (List.range len).map f, by rw [hvl], fun hp => ?_, by rw [hvl]; omega, by rw [hvl]; omega, fun u hu => ?_⟩
    · rw [hvl] at hp
      have hsp : x.spot = none := by
        have := (hfv 0 (by omega)).1
        unfold Addr.add at this
        simp only [if_true] at this
        unfold World.cell? at this
        cases hs : x.spot with
        | none => rfl
        | some q =>
          rw [hs] at this
          split at this <;> simp at this
      have hx : x = ⟨x.block, x.off, none⟩ := by cases x; simp at hsp; simp [hsp]
      refine ⟨x.block, x.off, by rw [← hx], ?_, fun i v hv => ?_⟩
      · have := World.block_lt_of_cell? W _ (hfv 0 (by omega)).1
        rwa [block_add] at this
      · have hi := (List.getElem?_eq_some_iff.1 hv).1
        rw [hvl] at hi
        rw [List.getElem?_map, List.getElem?_range hi] at hv
        obtain rfl := Option.some.inj hv
        have := (hfv i hi).1
        rw [hx, add_ea] at this
        exact this
    · obtain ⟨i, hi, rfl⟩ := List.mem_map.1 hu
      exact ⟨n, (hfv i (List.mem_range.1 hi)).2⟩
theorem open_bools {H : Type} {enc : TypeId × Value → H} {P : Program} {W : World} {base : Nat} {t e : TypeId} {v : Value} {d : DataW H} {p : List MemPlace} (ht : P.underlying t = some (.slice e)) (he : P.underlying e = some .bool) (hc : P.cellsOf e = 1)
    (hv : Value.okWide P W .any base t v) (h : DataW.Trod enc P W 0 (fun _ => true) true t v d p) :
    ∃ A c l, v = .slice A (List.length l) c ∧ Rd W A (l.map .bool) ∧ l.length ≤ c ∧ l.length ≤ maxLen := by
  obtain ⟨A, c, vs, rfl, h1, h2, h3, h4⟩ := open_sl ht hc hv h
  obtain ⟨l, rfl⟩ : ∃ l : List Bool, vs = l.map .bool := by
    clear h1 h2 h3 h hv
    induction vs with
    | nil => exact ⟨[], rfl⟩
    | cons u vs ih =>
      obtain ⟨l, rfl⟩ := ih (fun u hu => h4 u (List.mem_cons_of_mem _ hu))
      obtain ⟨fuel, x, hx⟩ := h4 u (List.mem_cons_self ..)
      obtain ⟨b, hb, _⟩ := DataW.trod_bool he hx
      exact ⟨b :: l, by simp at hb; rw [hb]; rfl⟩
  rw [List.length_map] at h2 h3 ⊢
  exact ⟨A, c, l, rfl, h1, h2, h3⟩
theorem open_floats {H : Type} {enc : TypeId × Value → H} {P : Program} {W : World} {base : Nat} {t e : TypeId} {k : FloatKind} {v : Value} {d : DataW H} {p : List MemPlace} (ht : P.underlying t = some (.slice e)) (he : P.underlying e = some (.float k)) (hc : P.cellsOf e = 1)
    (hv : Value.okWide P W .any base t v) (h : DataW.Trod enc P W 0 (fun _ => true) true t v d p) :
    ∃ A c l, v = .slice A (List.length l) c ∧ Rd W A (l.map (.float k)) ∧ l.length ≤ c ∧ l.length ≤ maxLen ∧ ∀ n, n ∈ l → (Lit.float k n).wf = true := by
  obtain ⟨A, c, vs, rfl, h1, h2, h3, h4⟩ := open_sl ht hc hv h
  obtain ⟨l, rfl, hw⟩ : ∃ l : List Nat, vs = l.map (.float k) ∧ ∀ n, n ∈ l → (Lit.float k n).wf = true := by
    clear h1 h2 h3 h hv
    induction vs with
    | nil => exact ⟨[], rfl, fun n h => by cases h⟩
    | cons u vs ih =>
      obtain ⟨l, rfl, hw⟩ := ih (fun u hu => h4 u (List.mem_cons_of_mem _ hu))
      obtain ⟨fuel, x, hx⟩ := h4 u (List.mem_cons_self ..)
      obtain ⟨b, hb, hbw⟩ := trod_float he hx
      refine ⟨b :: l, by simp at hb; rw [hb]; rfl, fun n hn => ?_⟩
      rcases List.mem_cons.1 hn with rfl | hn
      · exact hbw
      · exact hw n hn
  rw [List.length_map] at h2 h3 ⊢
  exact ⟨A, c, l, rfl, h1, h2, h3, hw⟩
end Go.Proofs.YtgbgplhiiaiifaaDoor
