/- TensCopies: a store into a cell of a block of the call's own; the walk. No condition. -/
import Derived.Test.YtgifehmpgcenjaaDoorTm
namespace Go.Proofs.YtgifehmpgcenjaaDoor
set_option linter.unusedVariables false
set_option linter.unusedSimpArgs false
open Go.RowKit

section
variable {P : Program} {ops : Array Oper} {rest : List Oper} {o : Oper} {a : Act} {Q : Exit → Act → World → Prop}
/-- a store of one cell into a block of the call's own -/
theorem scell_ev {W w0 : World} (hd : o.dst = none) (hg : o.guard = none) (t : TypeId) (p x : Operand) (ho : o.op = .store t p x) (ht : (P.info? t).map (·.size) = some 1)
    {B : Nat} {cs : Array Value} {ty : TypeId} (g j : Nat) (u : Value) (hp : a.eval p = .pointer (some ⟨g, j, none⟩)) (hx : a.eval x = u) (hu : u.cells = #[u]) (h1 : u.oneCell' = true)
    (K : Blk W g cs ty) (hj : j < cs.size) (HB : Below B w0 W) (hB : B ≤ g)
    (h : ∀ w1, Blk w1 g (cs.setIfInBounds j u) ty → Below B w0 w1 → W.grownBy w1 (some g) → wpList P ops Q rest a w1) : wpList P ops Q (o :: rest) a W := by
  obtain ⟨i, hi, hsz⟩ := Option.map_eq_some_iff.1 ht
  have hcell : W.cell? ⟨g, j, none⟩ = some cs[j] := K.cell j _ (by simp [hj])
  have hst := run_storeCells_cells (P := P) g j [u] 0 W (fun q hq => by
    have : q = 0 := by simp at hq; omega
    subst this
    rw [show j + 0 = j from rfl, hcell]; simp) (fun q hq => K.frozen _) (by simpa using h1)
  simp only [Nat.add_zero] at hst
  have hst2 : (Instr.storeAt t (.pointer (some ⟨g, j, none⟩)) u).run P W = .ok () (W.setCells g j [u]) := by
    simp [Instr.storeAt, Instr.sureAddr, storeVar, sizeOf, typeInfo, hi, hsz, hu, hst]
  refine wpList_plain hg fun K' hK => ?_
  unfold Oper.wp execOp
  simp only [ho, hp, hx, Sem.run_bind, Sem.run_pure, Result.andThen_ok, hst2]
  show K' (a.put o.dst undef) _
  rw [hd]
  have hset : W.setCells g j [u] = W.setCell ⟨g, j, none⟩ u := rfl
  rw [hset]
  exact hK a _ (h _ (K.setCell j u) (HB.setCell hB _) ⟨rfl, rfl, rfl, by simp [World.setCell], fun q _ hne => Below.heap_setCell _ _ _ _ (fun e => hne (by rw [e]))⟩)
end
theorem Own.kept2 {w w' : World} {base : Nat} {e : TypeId} {v1 v2 : Value} {xs : List Value} (h : Own w base e v2 xs) (hg : w.grownBy w' v1.ownBlock) (ap : Apart v1 v2) : Own w' base e v2 xs := by
  refine World.ownsRow.kept h hg ?_
  cases hv : v2.ownBlock with
  | none => exact .inl rfl
  | some k => exact .inr fun e => ap k e.symm hv
theorem Blk.grownO {w w' : World} {g : Nat} {cs : Array Value} {t : TypeId} {r : Option Nat} (h : Blk w g cs t) (hg : w.grownBy w' r) (hr : ∀ k, r = some k → k < g) : Blk w' g cs t :=
  h.grown hg (fun e => Nat.lt_irrefl _ (hr g e))
theorem Own.grownNe {w w' : World} {base g : Nat} {e : TypeId} {v : Value} {xs : List Value} (h : Own w base e v xs) (hg : w.grownBy w' (some g)) (hne : v.ownBlock ≠ some g) : Own w' base e v xs := World.ownsRow.kept h hg (.inr hne)
theorem Own.neBlk {w : World} {base g : Nat} {e t : TypeId} {v : Value} {xs : List Value} {cs : Array Value} (h : Own w base e v xs) (K : Blk w g cs t) (ht : t ≠ e) : v.ownBlock ≠ some g := by
  intro hv
  rcases h.2 with ⟨hn, _⟩ | ⟨g', cap, cur, hv', _, hh, _⟩
  · rw [hn] at hv; cases hv
  · rw [hv'] at hv
    have : g' = g := by simpa [Value.ownBlock] using hv
    subst this
    unfold Blk at K
    rw [K] at hh
    injection hh with hh
    injection hh with _ e2
    exact ht e2
theorem sameT_self (s d : List Int) (b : Bool) : sameT s d b s d b = true := by simp [sameT]
theorem sameT_wide (s d : List Int) (b : Bool) : sameT s d b s d (!b) = false := by cases b <;> simp [sameT]
theorem sameT_shape (s d : List Int) (b : Bool) (x : Int) : sameT s d b (s ++ [x]) d b = false := by simp [sameT]
/-! ### xor -/
theorem wf_bounds (x : Int) (h : (Lit.int .i64 x).wf = true) : -9223372036854775808 ≤ x ∧ x ≤ 9223372036854775807 := by
  have : IntKind.i64.min = -9223372036854775808 := by decide
  simp [Lit.wf, IntKind.has, IntKind.bits, IntKind.signed] at h
  omega
theorem wrap_toInt (v : BitVec 64) : IntKind.i64.wrap (v.toNat : Int) = v.toInt := by
  have := v.isLt
  rw [BitVec.toInt_eq_toNat_cond]
  have hw : IntKind.i64.wrap (v.toNat : Int) = wrap64 (v.toNat : Int) := IntWalk.i64_left _
  rw [hw]
  unfold wrap64
  split <;> omega
theorem xor_one (x : Int) : bits .xor .i64 x 1 = (BitVec.ofInt 64 x ^^^ 1#64).toInt := by
  unfold bits
  exact wrap_toInt _
theorem xor_twice (x : Int) (h1 : -9223372036854775808 ≤ x) (h2 : x ≤ 9223372036854775807) : bits .xor .i64 (bits .xor .i64 x 1) 1 = x := by
  rw [xor_one, xor_one, BitVec.ofInt_toInt, BitVec.xor_assoc, BitVec.xor_self, BitVec.xor_zero, BitVec.toInt_ofInt]
  simp only [Int.bmod]
  omega
theorem xor_ne (x : Int) (h1 : -9223372036854775808 ≤ x) (h2 : x ≤ 9223372036854775807) : bits .xor .i64 x 1 ≠ x := by
  intro h
  have h3 := congrArg (BitVec.ofInt 64) h
  rw [xor_one, BitVec.ofInt_toInt] at h3
  have h4 : (BitVec.ofInt 64 x ^^^ 1#64) ^^^ BitVec.ofInt 64 x = 0#64 := by rw [h3, BitVec.xor_self]
  rw [BitVec.xor_comm, ← BitVec.xor_assoc, BitVec.xor_self, BitVec.zero_xor] at h4
  exact absurd h4 (by decide)
theorem Own.stored {w : World} {base g n c : Nat} {e : TypeId} {k : IntKind} {l : List Int} (h : Own w base e (.slice (some ⟨g, 0, none⟩) n c) (l.map (Value.int k))) (j : Nat) (x : Int) :
    Own (w.setCell ⟨g, j, none⟩ (.int k x)) base e (.slice (some ⟨g, 0, none⟩) n c) ((l.set j x).map (Value.int k)) ∧ w.grownBy (w.setCell ⟨g, j, none⟩ (.int k x)) (some g) := by
  obtain ⟨rfl, _⟩ := h.slg
  unfold Own at h ⊢
  rw [List.length_map] at h
  rw [List.length_map, List.length_set, List.map_set]
  exact World.ownsRow.stored h j _
theorem Apart.symm {v1 v2 : Value} (h : Apart v1 v2) : Apart v2 v1 := fun k h1 h2 => h k h2 h1
theorem set_ne (d : List Int) (j : Nat) (x : Int) (hj : j < d.length) (hx : x ≠ ix d j) : d ≠ d.set j x := by
  intro h
  have := congrArg (ix · j) h
  simp [ix, hj] at this
  exact hx (by rw [ix_eq d j hj]; exact this.symm)
theorem sameT_set (s d : List Int) (b : Bool) (j : Nat) (x : Int) (hj : j < d.length) (hx : x ≠ ix d j) : sameT s d b s (d.set j x) b = false := by
  have := set_ne d j x hj hx
  simp [sameT, this]
end Go.Proofs.YtgifehmpgcenjaaDoor
