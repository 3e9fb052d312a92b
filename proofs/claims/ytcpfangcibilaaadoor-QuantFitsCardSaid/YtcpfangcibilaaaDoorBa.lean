/- Words for the walks of this seat: what memory reads as, and the events of a walk, each ending in a new world's letter. No condition. -/
import Derived.Test.YtcpfangcibilaaaDoorRows
import Derived.WalkKit
import Derived.WalkSpells
import Derived.WalkLawsBesides
import Derived.Lib.Hide
namespace Go.Proofs.YtcpfangcibilaaaDoor
set_option linter.unusedVariables false
set_option linter.unusedSimpArgs false
open Go.RowKit

theorem q_1 (a : Act) (d : Tmp) (v : Value) : a.put (some d) v = { a with tmps := a.tmps.setIfInBounds d v } := rfl
theorem q_2 {α : Type} (l : List α) (i : Nat) (a : α) : l.toArray.setIfInBounds i a = (l.set i a).toArray := List.setIfInBounds_toArray ..
theorem q_3 {α : Type} (a b : α) (l : List α) : (a :: l).set 0 b = b :: l := rfl
theorem q_4 {α : Type} (a b : α) (l : List α) (n : Nat) : (a :: l).set (n + 1) b = a :: l.set n b := rfl
theorem mh_ {α : Type} {a : α} {l : List α} : a ∈ a :: l := List.Mem.head _
theorem mt_ {α : Type} {a b : α} {l : List α} (h : a ∈ l) : a ∈ b :: l := List.Mem.tail _ h
/-- A fact that the walk does not look into. -/
structure Aside (p : Prop) : Prop where mk :: (out : p)

def ix (l : List Int) (i : Nat) : Int := l.getD i 0
theorem ix_eq (l : List Int) (i : Nat) (h : i < l.length) : ix l i = l[i] := by simp [ix, h]
theorem ix_cons_zero (x : Int) (l : List Int) : ix (x :: l) 0 = x := rfl
theorem ix_cons_succ (x : Int) (l : List Int) (i : Nat) : ix (x :: l) (i + 1) = ix l i := rfl

theorem map_ix (k : IntKind) (l : List Int) (i : Nat) (h : i < l.length) : (l.map (Value.int k))[i]? = some (Value.int k (ix l i)) := by simp [ix, h]
/-- Cells of whole numbers of a kind. -/
def IL (k : IntKind) (w : World) (A : Option Addr) (l : List Int) : Prop :=
  0 < l.length → ∃ b o, A = some ⟨b, o, none⟩ ∧ ∀ i, i < l.length → w.cell? ⟨b, o + i, none⟩ = some (.int k (ix l i))
/-- All are of the kind int. -/
def Bnd (l : List Int) : Prop := ∀ i, -9223372036854775808 ≤ ix l i ∧ ix l i ≤ 9223372036854775807
def Byt (l : List Int) : Prop := ∀ i, 0 ≤ ix l i ∧ ix l i ≤ 255

theorem cell_mono {w w' : World} {a : Addr} {v : Value} (h : w.cell? a = some v) (hb : Below w.heap.size w w') : w'.cell? a = some v := (hb.cell (World.block_lt_of_cell? w _ h)).trans h
theorem below_step {w w1 w2 : World} (h : Below w.heap.size w w1) (hb : Below w1.heap.size w1 w2) : Below w.heap.size w w2 := h.trans (hb.mono h.size)
theorem IL.mono {k : IntKind} {w w' : World} {A : Option Addr} {l : List Int} (h : IL k w A l) (hb : Below w.heap.size w w') : IL k w' A l := by
  intro hl
  obtain ⟨b, o, e, hc⟩ := h hl
  exact ⟨b, o, e, fun i hi => cell_mono (hc i hi) hb⟩
theorem IL.get {k : IntKind} {w : World} {A : Option Addr} {l : List Int} (h : IL k w A l) (i : Nat) (hi : i < l.length) : ∃ b o, A = some ⟨b, o, none⟩ ∧ b < w.heap.size ∧ w.cell? ⟨b, o + i, none⟩ = some (.int k (ix l i)) := by
  obtain ⟨b, o, e, hc⟩ := h (by omega)
  exact ⟨b, o, e, World.block_lt_of_cell? w _ (hc i hi), hc i hi⟩
theorem IL.nil {k : IntKind} {w : World} {A : Option Addr} : IL k w A [] := fun h => absurd h (by simp)

/-- What a block holds. -/
def Blk (w : World) (g : Nat) (cs : Array Value) (t : TypeId) : Prop := w.heap[g]? = some (.cells cs t (0, 0))
section
variable {w w' : World} {g : Nat} {cs : Array Value} {t : TypeId}
theorem Blk.lt (h : Blk w g cs t) : g < w.heap.size := (Array.getElem?_eq_some_iff.1 h).1
theorem Blk.mono (h : Blk w g cs t) (hb : Below w.heap.size w w') : Blk w' g cs t := (hb.block g h.lt).trans h
theorem Blk.grown {row : Option Nat} (h : Blk w g cs t) (hb : w.grownBy w' row) (hr : row ≠ some g) : Blk w' g cs t := (hb.block g h.lt (fun e => hr e.symm)).trans h
theorem Blk.cell (h : Blk w g cs t) (j : Nat) (v : Value) (hv : cs[j]? = some v) : w.cell? ⟨g, j, none⟩ = some v := by unfold Blk at h; simp [World.cell?, h, hv]
theorem Blk.frozen (h : Blk w g cs t) (j : Nat) : w.frozen? ⟨g, j, none⟩ = false := by unfold Blk at h; simp [World.frozen?, h]
theorem Blk.setCell (h : Blk w g cs t) (j : Nat) (v : Value) : Blk (w.setCell ⟨g, j, none⟩ v) g (cs.setIfInBounds j v) t := by
  unfold Blk at h ⊢
  simp only [World.setCell, Array.getElem?_modify, if_true, h, Option.map_some]
  simp
theorem Blk.new (w : World) (cs : Array Value) (t : TypeId) : Blk (w.alloc (.cells cs t (0, 0))) w.heap.size cs t := heap_alloc_new w _
end

theorem Blk.il {w : World} {g : Nat} {t : TypeId} (k : IntKind) (l : List Int) (h : Blk w g (l.map (Value.int k)).toArray t) : IL k w (some ⟨g, 0, none⟩) l := by
  intro _
  refine ⟨g, 0, rfl, fun i hi => ?_⟩
  rw [Nat.zero_add]
  exact h.cell i _ (by simp [ix, hi])
/-- A row of the call's own: from block number base on. -/
def Own (w : World) (base : Nat) (e : TypeId) (v : Value) (xs : List Value) : Prop := w.ownsRow base e 1 v xs.length xs
section
variable {w w' : World} {base : Nat} {e : TypeId} {v : Value} {xs : List Value}
theorem Own.nil : Own w base e (.slice none 0 0) [] := World.ownsRow_nil _ _ _ _
theorem Own.mono (h : Own w base e v xs) (hb : Below w.heap.size w w') : Own w' base e v xs :=
  World.ownsRow.kept h (row := none) ⟨hb.os, hb.tape, hb.output, hb.size, fun i hi _ => hb.block i hi⟩ (by cases v.ownBlock <;> simp)
theorem Own.base_le (h : Own w base e v xs) (k : Nat) (hk : v.ownBlock = some k) : base ≤ k := (World.ownsRow.lt h k hk).1
theorem Own.lower {base' : Nat} (h : Own w base e v xs) (hb : base' ≤ base) : Own w base' e v xs := by
  refine ⟨h.1, ?_⟩
  rcases h.2 with hn | ⟨g, cap, cur, hv, hg, r⟩
  · exact .inl hn
  · exact .inr ⟨g, cap, cur, hv, by omega, r⟩
theorem Own.lt (h : Own w base e v xs) (k : Nat) (hk : v.ownBlock = some k) : k < w.heap.size := (World.ownsRow.lt h k hk).2
/-- Its form as a value. -/
theorem Own.form (h : Own w base e v xs) : ∃ A c, v = .slice A xs.length c ∧ xs.length ≤ c ∧ c ≤ maxLen ∧ (0 < xs.length → ∃ g, base ≤ g ∧ A = some ⟨g, 0, none⟩ ∧ ∀ i u, xs[i]? = some u → w.cell? ⟨g, i, none⟩ = some u ∧ w.frozen? ⟨g, i, none⟩ = false) := by
  rcases h.2 with ⟨hv, hn⟩ | ⟨g, cap, cur, hv, hg, hh, hc, hm, hs, ht⟩
  · exact ⟨none, 0, by rw [hv, hn], by omega, by unfold maxLen; omega, fun hp => absurd hp (by omega)⟩
  · refine ⟨_, cap, hv, hc, hm, fun _ => ⟨g, hg, rfl, fun i u hi => ⟨?_, ?_⟩⟩⟩
    · rw [← ht, List.getElem?_take] at hi
      split at hi
      · simp [World.cell?, hh]; simpa using hi
      · cases hi
    · simp [World.frozen?, hh]
/-- A row that came out of a call, as a slice of whole numbers. -/
theorem Own.il {k : IntKind} {l : List Int} (h : Own w base e v (l.map (Value.int k))) : ∃ A c, v = .slice A l.length c ∧ l.length ≤ c ∧ c ≤ maxLen ∧ IL k w A l := by
  obtain ⟨A, c, hv, h1, h2, h3⟩ := h.form
  simp only [List.length_map] at hv h1 h3
  refine ⟨A, c, hv, h1, h2, fun hp => ?_⟩
  obtain ⟨g, _, hA, hc⟩ := h3 hp
  refine ⟨g, 0, hA, fun i hi => ?_⟩
  rw [Nat.zero_add]
  exact (hc i (.int k (ix l i)) (by simp [ix, hi])).1
end

/-! ### events -/
section
variable {P : Program} {ops : Array Oper} {rest : List Oper} {o : Oper} {a : Act} {Q : Exit → Act → World → Prop}
theorem dst_gate {N : Tmp} {W : World} (_hN : o.dst = some N) (h : wpList P ops Q (o :: rest) a W) : wpList P ops Q (o :: rest) a W := h
theorem callee_gate {f : FuncId} {N : Tmp} {xs : Array Operand} {ts : Array TypeId} {W : World} (_ho : o.op = .call { callee := .value (.func f), args := xs, argTypes := ts }) (_hN : o.dst = some N) (h : wpList P ops Q (o :: rest) a W) : wpList P ops Q (o :: rest) a W := h
theorem value_ev {W W1 : World} {v : Value} (hg : Region.wanted o (yielded ops a.tmps) = true) (hrun : (execOp a.eval o).run P W = .ok (.value v) W1) (h : wpList P ops Q rest (a.put o.dst v) W1) : wpList P ops Q (o :: rest) a W := by
  refine wpList_step fun K hK => ?_
  rw [if_pos hg]
  unfold Oper.wp
  rw [hrun, Oper.upon_value]
  exact hK _ _ h
/-- a call of a Go function that the source names, by its contract -/
theorem call_ev {f : FuncId} {fn : Func} {xs : Array Operand} {ts : Array TypeId} {W : World} (N : Tmp) (hd : o.dst = some N) (hop : o.op = .call { callee := .value (.func f), args := xs, argTypes := ts }) (hg : Region.wanted o (yielded ops a.tmps) = true)
    (hf : P.funcs[f]? = some fn) (hname : (fn.name == "runtime.NumGoroutine") = false) (hb : fn.body.isSome = true) (args : Array Value) (hargs : xs.map a.eval = args) {R : Ending → World → Prop} (hc : Calls P f args W R)
    (h : ∀ e w', R e w' → ∃ v, e = .returned v ∧ wpList P ops Q rest (a.put (some N) v) w') : wpList P ops Q (o :: rest) a W := by
  refine wpList_step fun K hK => ?_
  rw [if_pos hg]
  have h1 : fn.name ≠ "runtime.NumGoroutine" := by simpa using hname
  obtain ⟨c, hc'⟩ := Option.isSome_iff_exists.1 hb
  have hrun : (execOp a.eval o).run P W = .ok (.enter f args) W := by
    unfold execOp
    simp [hop, resolve, Deferred.ofValue, invoke, Act.eval, hargs, callFunc, hf, h1, hc']
  unfold Oper.wp
  rw [hrun, Oper.upon_enter]
  refine hc.mono fun e w'' hh => ?_
  obtain ⟨v, rfl, hk⟩ := h e w'' hh
  rw [hd]
  exact hK _ _ hk
theorem store_gate {t : TypeId} {p : Tmp} {x : Operand} {W : World} (_ho : o.op = .store t (.tmp p) x) (h : wpList P ops Q (o :: rest) a W) : wpList P ops Q (o :: rest) a W := h
/-- a new block behind a pointer -/
theorem box_ev {W : World} (N : Tmp) (hd : o.dst = some N) (hg : Region.wanted o (yielded ops a.tmps) = true) (cs : Array Value) (t : TypeId)
    (hrun : (execOp a.eval o).run P W = .ok (.value (.pointer (some ⟨W.heap.size, 0, none⟩))) (W.alloc (.cells cs t (0, 0))))
    (h : ∀ g w1, Blk w1 g cs t → W.heap.size ≤ g → Below W.heap.size W w1 → wpList P ops Q rest (a.put (some N) (.pointer (some ⟨g, 0, none⟩))) w1) : wpList P ops Q (o :: rest) a W := by
  refine value_ev hg hrun ?_
  rw [hd]
  exact h _ _ (Blk.new _ _ _) (Nat.le_refl _) ((Below.refl _ _).alloc (Nat.le_refl _) _)
/-- a slice literal -/
theorem lit_ev {W : World} (N : Tmp) (hd : o.dst = some N) (hg : Region.wanted o (yielded ops a.tmps) = true) (cs : Array Value) (t : TypeId) (n : Nat)
    (hrun : (execOp a.eval o).run P W = .ok (.value (.slice (some ⟨W.heap.size, 0, none⟩) n n)) (W.alloc (.cells cs t (0, 0))))
    (h : ∀ g w1, Blk w1 g cs t → W.heap.size ≤ g → Below W.heap.size W w1 → wpList P ops Q rest (a.put (some N) (.slice (some ⟨g, 0, none⟩) n n)) w1) : wpList P ops Q (o :: rest) a W := by
  refine value_ev hg hrun ?_
  rw [hd]
  exact h _ _ (Blk.new _ _ _) (Nat.le_refl _) ((Below.refl _ _).alloc (Nat.le_refl _) _)
/-- a row of zeros; its capacity is its length -/
theorem make_ev {W : World} (N : Tmp) (hd : o.dst = some N) (hg : o.guard = none) (t e : TypeId) (l c : Operand) (hop : o.op = .makeSlice t l c)
    (z : Value) (bytes : Nat) (ht : P.underlying t = some (.slice e)) (hi : (P.info? e).map (fun i => (i.zero, i.size, i.bytes)) = some (some z, 1, bytes)) (hz : z.cells = #[z])
    (L C : Int) (n : Nat) (hl : a.eval l = .int .i64 L) (hc : a.eval c = .int .i64 C) (hL : L = (n : Int)) (hC : C = (n : Int)) (hb : bytes * n ≤ 281474976710656) (hn : n ≤ 281474976710656) (base : Nat) (hB : base ≤ W.heap.size)
    (h : ∀ g w1, Own w1 base e (.slice (some ⟨g, 0, none⟩) n n) (List.replicate n z) → W.heap.size ≤ g → Below W.heap.size W w1 → wpList P ops Q rest (a.put (some N) (.slice (some ⟨g, 0, none⟩) n n)) w1) : wpList P ops Q (o :: rest) a W := by
  obtain ⟨i, hi0, hi1⟩ := Option.map_eq_some_iff.1 hi
  simp only [Prod.mk.injEq] at hi1
  obtain ⟨z1, z2, z3⟩ := hi1
  refine wpList_make_full W hg l c t hop base e i z 1 ht hi0 z1 z2 .i64 .i64 L C n hl hc hL hC (by rw [z3]; exact hb) (by unfold maxLen; omega) hB ?_
  intro w' h1 h2
  rw [hd]
  have e1 : (madeCells z.cells (n * 1)).toList = List.replicate n z := by
    rw [hz]; apply List.ext_getElem? ; intro j; simp only [madeCells, Array.toList_map, List.getElem?_map]
    by_cases hj : j < n
    · simp [hj, Nat.mod_one]
    · simp [hj]
  rw [e1] at h1
  refine h _ w' ?_ (Nat.le_refl _) ⟨h2.os, h2.tape, h2.output, h2.size, fun k hk => h2.block k hk (by simp)⟩
  unfold Own
  rw [List.length_replicate]
  exact h1
/-- a row of nothing, with room -/
theorem make0_ev {W : World} (N : Tmp) (hd : o.dst = some N) (hg : o.guard = none) (t e : TypeId) (l c : Operand) (hop : o.op = .makeSlice t l c)
    (z : Value) (bytes : Nat) (ht : P.underlying t = some (.slice e)) (hi : (P.info? e).map (fun i => (i.zero, i.size, i.bytes)) = some (some z, 1, bytes))
    (C : Int) (n : Nat) (hl : a.eval l = .int .i64 0) (hc : a.eval c = .int .i64 C) (hC : C = (n : Int)) (hb : bytes * n ≤ 281474976710656) (hn : n ≤ 281474976710656) (base : Nat) (hB : base ≤ W.heap.size)
    (h : ∀ g w1, Own w1 base e (.slice (some ⟨g, 0, none⟩) 0 n) [] → W.heap.size ≤ g → Below W.heap.size W w1 → wpList P ops Q rest (a.put (some N) (.slice (some ⟨g, 0, none⟩) 0 n)) w1) : wpList P ops Q (o :: rest) a W := by
  obtain ⟨i, hi0, hi1⟩ := Option.map_eq_some_iff.1 hi
  simp only [Prod.mk.injEq] at hi1
  obtain ⟨z1, z2, z3⟩ := hi1
  refine wpList_make_own W hg l c t hop base e i z 1 ht hi0 z1 z2 .i64 .i64 C n hl hc hC (by rw [z3]; exact hb) (by unfold maxLen; omega) hB ?_
  intro w' h1 h2
  rw [hd]
  exact h _ w' h1 (Nat.le_refl _) ⟨h2.os, h2.tape, h2.output, h2.size, fun k hk => h2.block k hk (by simp)⟩
/-- a store into a row of the call's own -/
theorem store_ev {W w0 : World} (hd : o.dst = none) (hg : o.guard = none) (t : TypeId) (p x : Operand) (ho : o.op = .store t p x) (ht : (P.info? t).map (·.size) = some 1)
    {base B n c : Nat} {e : TypeId} {xs : List Value} (g k : Nat) (u : Value) (hp : a.eval p = .pointer (some ⟨g, k, none⟩)) (hx : a.eval x = u) (hu : u.cells = #[u]) (h1 : u.oneCell' = true)
    (HO : Own W base e (.slice (some ⟨g, 0, none⟩) n c) xs) (hk : k < xs.length) (HB : Below B w0 W) (hB : B ≤ base)
    (h : ∀ w1, Own w1 base e (.slice (some ⟨g, 0, none⟩) n c) (xs.set k u) → Below B w0 w1 → W.grownBy w1 (some g) → wpList P ops Q rest a w1) : wpList P ops Q (o :: rest) a W := by
  have HO' := HO
  obtain ⟨hl, hr⟩ := HO
  rcases hr with ⟨hv, _⟩ | ⟨g', cap, cur, hv, hb, hh, hnc, hcm, hcs, htk⟩
  · cases hv
  injection hv with ha hn hc
  injection ha with ha
  injection ha with hgg
  subst hgg; subst hc
  rw [Nat.mul_one] at hcs htk
  have hlt : k < cur.size := by omega
  obtain ⟨i, hi, hsz⟩ := Option.map_eq_some_iff.1 ht
  have hcell : W.cell? ⟨g, k, none⟩ = some cur[k] := by simp [World.cell?, hh, hlt]
  have hfz : W.frozen? ⟨g, k, none⟩ = false := by simp [World.frozen?, hh]
  have hst := run_storeCells_cells (P := P) g k [u] 0 W (fun j hj => by
    have : j = 0 := by simp at hj; omega
    subst this
    rw [show k + 0 = k from rfl, hcell]; simp) (fun j hj => by simp [World.frozen?, hh]) (by simpa using h1)
  simp only [Nat.add_zero] at hst
  have hst2 : (Instr.storeAt t (.pointer (some ⟨g, k, none⟩)) u).run P W = .ok () (W.setCells g k [u]) := by
    simp [Instr.storeAt, Instr.sureAddr, storeVar, sizeOf, typeInfo, hi, hsz, hu, hst]
  refine wpList_plain hg fun K hK => ?_
  unfold Oper.wp execOp
  simp only [ho, hp, hx, Sem.run_bind, Sem.run_pure, Result.andThen_ok, hst2]
  show K (a.put o.dst undef) _
  rw [hd]
  have hset : W.setCells g k [u] = W.setCell ⟨g, k, none⟩ u := rfl
  have hgr : W.grownBy (W.setCell ⟨g, k, none⟩ u) (some g) := ⟨rfl, rfl, rfl, by simp [World.setCell], fun j _ hne => Below.heap_setCell _ _ _ _ (fun e => hne (by rw [e]))⟩
  rw [hset]
  refine hK a _ (h _ ?_ (HB.setCell (show B ≤ g by omega) _) hgr)
  refine ⟨by simp, .inr ⟨g, c, cur.setIfInBounds k u, by rw [List.length_set, ← hn], hb, ?_, by rw [List.length_set]; exact hnc, hcm, by simpa using hcs, ?_⟩⟩
  · simp only [World.setCell, Array.getElem?_modify, if_true, hh, Option.map_some]
    simp
  · rw [Nat.mul_one, List.length_set, Array.toList_setIfInBounds, List.take_set, htk]
/-- an append of one element, behind its literal, to a row of the call's own -/
theorem app1_ev {W w0 : World} (N : Tmp) (hd : o.dst = some N) (hg : o.guard = none) (t e : TypeId) (s x : Operand) (ho : o.op = .call { callee := .builtin .append, args := #[s, x], argTypes := #[t, t] })
    (z : Value) (bytes : Nat) (ht : P.underlying t = some (.slice e)) (hi : (P.info? e).map (fun i => (i.zero, i.size, i.bytes)) = some (some z, 1, bytes)) (hz : z.cells.size = 1)
    {base B : Nat} {xs : List Value} {v u : Value} {gl : Nat} {tl : TypeId} (hs : a.eval s = v) (hx : a.eval x = .slice (some ⟨gl, 0, none⟩) 1 1) (hl : Blk W gl #[u] tl) (h1 : u.oneCell' = true)
    (HO : Own W base e v xs) (hn : (xs.length + 1) * bytes ≤ 140737488355328) (hn2 : xs.length < 140737488355328) (HB : Below B w0 W) (hB : B ≤ base) (hW : base ≤ W.heap.size)
    (h : ∀ v1 w1, Own w1 base e v1 (xs ++ [u]) → Below B w0 w1 → W.grownBy w1 v.ownBlock → wpList P ops Q rest (a.put (some N) v1) w1) : wpList P ops Q (o :: rest) a W := by
  obtain ⟨i, hi0, hi1⟩ := Option.map_eq_some_iff.1 hi
  simp only [Prod.mk.injEq] at hi1
  obtain ⟨z1, z2, z3⟩ := hi1
  refine wpList_append_own W hg s x t ho base e i z 1 bytes ht hi0 z1 z2 z3 hz (by omega) v xs.length xs hs HO ⟨gl, 0, none⟩ 1 1 [u] hx (by simp) ?_ (by simpa using h1) (by unfold maxLen; omega) hn hW ?_
  · intro j u' hj
    have : j = 0 := by
      have := (List.getElem?_eq_some_iff.1 hj).1
      simp at this; exact this
    subst this
    simp at hj
    subst hj
    exact hl.cell 0 u rfl
  · intro v' w' g1 g2 _
    rw [hd]
    refine h v' w' ?_ (HB.grown g2 (by omega) (fun k hk => by have := HO.base_le k hk; omega)) g2
    unfold Own
    rw [List.length_append]
    exact g1
end
end Go.Proofs.YtcpfangcibilaaaDoor
