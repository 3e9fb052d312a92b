/- The steps of a walk over the memory of a call's own. No condition. -/
import Derived.Test.YtcpfangcibilaaaDoorGa
namespace Go.Proofs.YtcpfangcibilaaaDoor
set_option linter.unusedVariables false
set_option linter.unusedSimpArgs false
open Go.RowKit

theorem add_ea (b o i : Nat) : (⟨b, o, none⟩ : Addr).add i = ⟨b, o + i, none⟩ := by unfold Addr.add; split <;> simp_all
section
variable {P : Program} {ops : Array Oper} {rest : List Oper} {o : Oper} {a : Act} {Q : Exit → Act → World → Prop} {w0 W : World} {L : List Ent}

/-- a box: a new block -/
theorem sBox (H : St w0 W L) (t : TypeId) (x : Operand) (ho : o.op = .box t x) (N : Tmp) (hd : o.dst = some N) (hg : Region.wanted o (yielded ops a.tmps) = true) (cs : List Value) (hx : (a.eval x).cells.toList = cs)
    (k : ∀ g w1, St w0 w1 (.blk g cs t :: L) → wpList P ops Q rest (a.put (some N) (.pointer (some ⟨g, 0, none⟩))) w1) : wpList P ops Q (o :: rest) a W := by
  refine value_ev (v := .pointer (some ⟨W.heap.size, 0, none⟩)) (W1 := W.alloc (.cells cs.toArray t (0, 0))) hg ?_ ?_
  · subst hx
    simp [execOp, ho, Instr.box, newVar, newRow]
  · rw [hd]; exact k _ _ (H.new cs t)
/-- a new variable of nothing -/
theorem sAlloc (H : St w0 W L) (t : TypeId) (ho : o.op = .alloc t) (N : Tmp) (hd : o.dst = some N) (hg : Region.wanted o (yielded ops a.tmps) = true) (z : Value) (hz : (P.info? t).map (·.zero) = some (some z)) (cs : List Value) (hx : z.cells.toList = cs)
    (k : ∀ g w1, St w0 w1 (.blk g cs t :: L) → wpList P ops Q rest (a.put (some N) (.pointer (some ⟨g, 0, none⟩))) w1) : wpList P ops Q (o :: rest) a W := by
  obtain ⟨i, hi, hzi⟩ := Option.map_eq_some_iff.1 hz
  refine value_ev (v := .pointer (some ⟨W.heap.size, 0, none⟩)) (W1 := W.alloc (.cells cs.toArray t (0, 0))) hg ?_ ?_
  · subst hx
    simp [execOp, ho, Instr.alloc, newVar, newRow, zeroValue, typeInfo, hi, hzi]
  · rw [hd]; exact k _ _ (H.new cs t)

def scalar (d : Option TypeDesc) : Bool := match d with | some (.struct _) => false | some (.array _ _) => false | some _ => true | none => false
theorem run_isAgg_no {t : TypeId} (h : scalar (P.underlying t) = true) (w : World) : (isAgg t).run P w = .ok false w := by
  unfold isAgg
  cases hu : P.underlying t with
  | none => rw [hu] at h; cases h
  | some d =>
    rw [hu] at h
    rw [Sem.run_bind, run_underlying hu w]
    cases d <;> simp_all [scalar]
theorem run_isAgg_yes {t : TypeId} (h : (P.underlying t).isSome = true) (h2 : scalar (P.underlying t) = false) (w : World) : (isAgg t).run P w = .ok true w := by
  unfold isAgg
  cases hu : P.underlying t with
  | none => rw [hu] at h; cases h
  | some d =>
    rw [hu] at h2
    rw [Sem.run_bind, run_underlying hu w]
    cases d <;> simp_all [scalar]
/-- a load of one cell -/
theorem sLoad (t : TypeId) (x : Operand) (ho : o.op = .load t x) (N : Tmp) (hd : o.dst = some N) (hg : Region.wanted o (yielded ops a.tmps) = true) (hs : scalar (P.underlying t) = true) (ad : Addr) (hx : a.eval x = .pointer (some ad)) (v : Value) (hv : W.cell? ad = some v)
    (k : wpList P ops Q rest (a.put (some N) v) W) : wpList P ops Q (o :: rest) a W := by
  refine value_ev (v := v) (W1 := W) hg ?_ (by rw [hd]; exact k)
  simp [execOp, ho, hx, Instr.loadAt, Instr.sureAddr, loadVar, Sem.run_bind, run_isAgg_no hs, hv]
theorem run_loadVar_part {t : TypeId} {w : World} {g off n : Nat} {cs : Array Value} {tt : TypeId} (h1 : (P.underlying t).isSome = true) (h2 : scalar (P.underlying t) = false) (hn : (P.info? t).map (·.size) = some n) (hb : Blk w g cs tt) (hle : off + n ≤ cs.size) (vs : List Value) (hvs : (cs.toList.drop off).take n = vs) :
    (loadVar t ⟨g, off, none⟩).run P w = .ok (.agg vs.toArray) w := by
  subst hvs
  obtain ⟨i, hi, hz⟩ := Option.map_eq_some_iff.1 hn
  have hl : ((cs.toList.drop off).take n).length = n := by simp; omega
  have := run_loadCells_list (P := P) w ⟨g, off, none⟩ ((cs.toList.drop off).take n) (fun j v hv => by
    rw [add_ea]
    rw [List.getElem?_take] at hv
    split at hv
    · rw [List.getElem?_drop] at hv
      exact hb.cell _ v (by simpa using hv)
    · cases hv)
  rw [hl] at this
  simp [loadVar, Sem.run_bind, run_isAgg_yes h1 h2, sizeOf, typeInfo, hi, hz, this]
/-- a load of a struct or an array -/
theorem sLoadAgg (H : St w0 W L) (t : TypeId) (x : Operand) (ho : o.op = .load t x) (N : Tmp) (hd : o.dst = some N) (hg : Region.wanted o (yielded ops a.tmps) = true) (h1 : (P.underlying t).isSome = true) (h2 : scalar (P.underlying t) = false) (n : Nat) (hn : (P.info? t).map (·.size) = some n)
    (g off : Nat) (hx : a.eval x = .pointer (some ⟨g, off, none⟩)) (cs : List Value) (tt : TypeId) (hm : Ent.blk g cs tt ∈ L) (hle : off + n ≤ cs.length) (vs : List Value) (hvs : (cs.drop off).take n = vs)
    (k : wpList P ops Q rest (a.put (some N) (.agg vs.toArray)) W) : wpList P ops Q (o :: rest) a W := by
  refine value_ev (v := .agg vs.toArray) (W1 := W) hg ?_ (by rw [hd]; exact k)
  have hr := run_loadVar_part (P := P) (t := t) (w := W) (off := off) h1 h2 hn (H.blk hm) (by simpa using hle) vs (by simpa using hvs)
  simp [execOp, ho, hx, Instr.loadAt, Instr.sureAddr, hr]

theorem wpSkip {W1 : World} (hg : Region.wanted o (yielded ops a.tmps) = true) (hd : o.dst = none) (hrun : (execOp a.eval o).run P W = .ok .skip W1) (h : wpList P ops Q rest a W1) : wpList P ops Q (o :: rest) a W := by
  refine wpList_step fun K hK => ?_
  rw [if_pos hg]
  unfold Oper.wp
  rw [hrun, Oper.upon_skip, hd]
  exact hK _ _ h
theorem grownBy_setRow {w : World} {g : Nat} {cs : Array Value} : w.grownBy (w.setRow g cs) (some g) := ⟨rfl, rfl, rfl, by simp [World.setRow], fun k _ hk => setRow_other w g k _ (fun e => hk (by rw [e]))⟩
theorem setRow_blk {w : World} {g : Nat} {cs ds : Array Value} {t : TypeId} (h : Blk w g cs t) : Blk (w.setRow g ds) g ds t := setRow_heap w g cs ds t _ h
/-- a store into a block of the call's own -/
theorem sStore (H : St w0 W L) (t : TypeId) (p x : Operand) (ho : o.op = .store t p x) (hd : o.dst = none) (hg : Region.wanted o (yielded ops a.tmps) = true) (g off : Nat) (hp : a.eval p = .pointer (some ⟨g, off, none⟩)) (us : List Value) (hx : (a.eval x).cells.toList = us) (n : Nat) (hs : (P.info? t).map (·.size) = some n) (hn : us.length = n) (h1 : us.all (·.oneCell') = true)
    (cs : List Value) (tt : TypeId) (ds : List Value) (M : List Ent) (ht : Turn (.blk g cs tt) (.blk g ds tt) L M) (hle : off + us.length ≤ cs.length) (hds : cs.take off ++ us ++ cs.drop (off + us.length) = ds)
    (k : ∀ w1, St w0 w1 M → wpList P ops Q rest a w1) : wpList P ops Q (o :: rest) a W := by
  subst hx hds hn
  obtain ⟨R, hp1, _⟩ := ht.pull
  have hb := (H.perm hp1).holds _ (List.mem_cons_self ..)
  obtain ⟨i, hi, hz⟩ := Option.map_eq_some_iff.1 hs
  have hst := run_storeCells_at P g off tt (a.eval x).cells.toList 0 cs.toArray W hb.2 (by simpa using hle) (List.all_eq_true.1 h1)
  refine wpSkip (W1 := W.setRow g (cs.take off ++ (a.eval x).cells.toList ++ cs.drop (off + (a.eval x).cells.toList.length)).toArray) hg hd ?_ (k _ (H.turn ht grownBy_setRow ⟨hb.1, setRow_blk hb.2⟩ (fun k hk => .inl hk)))
  simp only [Nat.add_zero] at hst
  simp only [Array.length_toList] at hz hst
  simp [execOp, ho, hp, Instr.storeAt, Instr.sureAddr, storeVar, sizeOf, typeInfo, hi, hz, hst]
/-- a store into a row of the call's own -/
theorem sStoreRow (H : St w0 W L) (t : TypeId) (p x : Operand) (ho : o.op = .store t p x) (hd : o.dst = none) (hg : Region.wanted o (yielded ops a.tmps) = true) (A : Option Addr) (j : Nat) (hp : a.eval p = .pointer (some (ea A j))) (u : Value) (hx : a.eval x = u) (hu : u.cells.toList = [u]) (hs : (P.info? t).map (·.size) = some 1) (h1 : u.oneCell' = true)
    (xs : List Value) (c : Nat) (e : TypeId) (M : List Ent) (ht : Turn (.own A xs c e) (.own A (xs.set j u) c e) L M) (hj : j < xs.length)
    (k : ∀ w1, St w0 w1 M → wpList P ops Q rest a w1) : wpList P ops Q (o :: rest) a W := by
  obtain ⟨R, hp1, _⟩ := ht.pull
  have hb := (H.perm hp1).holds _ (List.mem_cons_self ..)
  obtain ⟨i, hi, hz⟩ := Option.map_eq_some_iff.1 hs
  rcases hb with ⟨_, rfl, _⟩ | ⟨g, q, cur, rfl, b1, b2, b3, b4, b5, b6⟩
  · simp at hj
  have hst := run_storeCells_at P g (q + j) e [u] 0 cur W b2 (by simp; omega) (by simpa using h1)
  simp only [Nat.add_zero, List.length_singleton] at hst
  have hcur : (cur.toList.take (q + j) ++ [u] ++ cur.toList.drop (q + j + 1)) = cur.toList.set (q + j) u := by
    rw [List.set_eq_take_append_cons_drop, if_pos (by simp; omega)]; simp
  refine wpSkip (W1 := W.setRow g (cur.toList.take (q + j) ++ [u] ++ cur.toList.drop (q + j + 1)).toArray) hg hd ?_ (k _ (H.turn ht grownBy_setRow ?_ (fun k hk => .inl hk)))
  · have hx' : (a.eval x).cells.size = 1 := by rw [hx, ← Array.length_toList, hu]; rfl
    have hx2 : (a.eval x).cells.toList = [u] := by rw [hx, hu]
    simp [execOp, ho, hp, ea, Instr.storeAt, Instr.sureAddr, storeVar, sizeOf, typeInfo, hi, hz, hx', hx2]
    simp only [List.append_assoc, List.singleton_append] at hst ⊢
    rw [hst]; rfl
  · refine .inr ⟨g, q, _, rfl, b1, setRow_heap W g cur _ e _ b2, by simpa using b3, b4, ?_, ?_⟩
    · rw [hcur]; simpa using b5
    · rw [hcur, List.length_set]
      simp only []
      rw [← b6] 
      apply List.ext_getElem?
      intro m
      simp only [List.getElem?_take, List.getElem?_drop, List.getElem?_set, List.length_take, List.length_drop, Array.length_toList]
      by_cases hm : m = j
      · subst hm
        simp [show q + m < cur.size by omega]
      · have e2 : ¬ q + j = q + m := by omega
        have e3 : ¬ j = m := by omega
        rw [if_neg e2, if_neg e3]
        rw [show min xs.length (cur.size - q) = xs.length by omega]
end
end Go.Proofs.YtcpfangcibilaaaDoor
