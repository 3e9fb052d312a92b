/- The steps of a walk over slices: an element's place, a part, a new one, a literal, an append. No condition. -/
import Derived.Test.YtcpfangcibilaaaDoorGb
namespace Go.Proofs.YtcpfangcibilaaaDoor
set_option linter.unusedVariables false
set_option linter.unusedSimpArgs false
set_option linter.unusedSimpArgs false
open Go.RowKit

section
variable {P : Program} {ops : Array Oper} {rest : List Oper} {o : Oper} {a : Act} {Q : Exit → Act → World → Prop} {w0 W : World} {L M : List Ent}
/-- an element's place -/
theorem sIndex (t e : TypeId) (x ix : Operand) (ho : o.op = .indexAddr t x ix) (N : Tmp) (hd : o.dst = some N) (hg : Region.wanted o (yielded ops a.tmps) = true) (ht : P.underlying t = some (.slice e)) (hs : (P.info? e).map (·.size) = some 1)
    (A : Option Addr) (n c : Nat) (hx : a.eval x = .slice A n c) (ik : IntKind) (i : Int) (hi : a.eval ix = .int ik i) (xs : List Value) (hr : Rd W A xs) (h0 : 0 ≤ i) (h1 : i < (n : Int)) (hn : n ≤ xs.length)
    (j : Nat) (hj : i.toNat = j) (k : wpList P ops Q rest (a.put (some N) (.pointer (some (ea A j)))) W) : wpList P ops Q (o :: rest) a W := by
  subst hj
  obtain ⟨b, q, rfl, _, _⟩ := hr (by omega)
  obtain ⟨f, hf, hz⟩ := Option.map_eq_some_iff.1 hs
  refine value_ev (v := .pointer (some (ea (some ⟨b, q, none⟩) i.toNat))) (W1 := W) hg ?_ (by rw [hd]; exact k)
  simp [execOp, ho, hx, hi, Instr.indexAt, asIntOf, run_underlying ht, sizeOf, typeInfo, hf, hz, h0, h1, add_ea, ea]
theorem run_index_arr {w : World} (t e : TypeId) (x ix : Operand) (ho : o.op = .indexAddr t x ix) (n : Nat) (ht : P.underlying t = some (.array n e)) (hs : (P.info? e).map (·.size) = some 1) (g off : Nat) (hx : a.eval x = .pointer (some ⟨g, off, none⟩)) (ik : IntKind) (i : Int) (hi : a.eval ix = .int ik i) (h0 : 0 ≤ i) (h1 : i < (n : Int))
    (j m : Nat) (hj : i.toNat = j) (hm : off + j = m) : (execOp a.eval o).run P w = .ok (.value (.pointer (some ⟨g, m, none⟩))) w := by
  subst hj hm
  obtain ⟨f, hf, hz⟩ := Option.map_eq_some_iff.1 hs
  simp [execOp, ho, hx, hi, Instr.indexAt, Instr.sureAddr, asIntOf, run_underlying ht, sizeOf, typeInfo, hf, hz, h0, h1, add_ea]
/-- an element's place in an array -/
theorem sIndexArr (t e : TypeId) (x ix : Operand) (ho : o.op = .indexAddr t x ix) (N : Tmp) (hd : o.dst = some N) (hg : Region.wanted o (yielded ops a.tmps) = true) (n : Nat) (ht : P.underlying t = some (.array n e)) (hs : (P.info? e).map (·.size) = some 1)
    (g off : Nat) (hx : a.eval x = .pointer (some ⟨g, off, none⟩)) (ik : IntKind) (i : Int) (hi : a.eval ix = .int ik i) (h0 : 0 ≤ i) (h1 : i < (n : Int)) (j m : Nat) (hj : i.toNat = j) (hm : off + j = m)
    (k : wpList P ops Q rest (a.put (some N) (.pointer (some ⟨g, m, none⟩))) W) : wpList P ops Q (o :: rest) a W :=
  value_ev (W1 := W) hg (run_index_arr t e x ix ho n ht hs g off hx ik i hi h0 h1 j m hj hm) (by rw [hd]; exact k)
theorem fill_row : ∀ (vs : List Value) (k : Nat) (cells : List Value), (∀ v ∈ vs, v.cells = #[v]) → k + vs.length ≤ cells.length →
    Instr.fill (fun i => some (i, 1)) cells.toArray ((List.range' k vs.length).zip vs) = some (cells.take k ++ vs ++ cells.drop (k + vs.length)).toArray
  | [], k, cells, _, h => by simp [Instr.fill]
  | v :: r, k, cells, hv, h => by
    have h1 := hv v (by simp)
    simp only [List.length_cons] at h
    have ih := fill_row r (k + 1) (cells.set k v) (fun u hu => hv u (by simp [hu])) (by simp; omega)
    simp only [List.length_cons, List.range'_succ, List.zip_cons_cons, Instr.fill, h1]
    have e : ∀ f : Array Value → Value × Nat → Array Value, (∀ cs c j, f cs (c, j) = cs.setIfInBounds (k + j) c) → (#[v].zipIdx.foldl f cells.toArray) = (cells.set k v).toArray := by
      intro f hf
      have : #[v].zipIdx = #[(v, 0)] := rfl
      rw [this]
      simp [hf]
    rw [if_neg (by simp; omega), e _ (fun _ _ _ => rfl), ih]
    congr 2
    have e2 : (cells.set k v).take (k + 1) = cells.take k ++ [v] := by
      rw [List.take_add_one, List.take_set_of_le (Nat.le_refl _)]
      simp [show k < cells.length by omega]
    rw [e2, List.drop_set_of_lt (by omega)]
    simp [Nat.add_assoc, Nat.add_comm 1]
theorem run_build_arr {w : World} (t e : TypeId) (n : Nat) (parts : Array (Nat × Operand)) (ho : o.op = .build t parts) (ht : P.underlying t = some (.array n e)) (hs : (P.info? e).map (·.size) = some 1) (z : Value) (hz : (P.info? t).map (·.zero) = some (some z)) (hzn : z.cells.size = n)
    (vs : List Value) (hvs : (parts.map fun p => (p.1, a.eval p.2)).toList = (List.range' 0 n).zip vs) (hn : vs.length = n) (h1 : vs.all (fun v => v.cells.size == 1 && v.oneCell') = true) : (execOp a.eval o).run P w = .ok (.value (.agg vs.toArray)) w := by
  obtain ⟨i, hi, hzi⟩ := Option.map_eq_some_iff.1 hz
  obtain ⟨f, hf, hz1⟩ := Option.map_eq_some_iff.1 hs
  have hall : ∀ v ∈ vs, v.cells = #[v] := by
    intro v hv
    have := List.all_eq_true.1 h1 v hv
    cases v <;> simp_all [Value.cells, Value.oneCell']
  have hfill := fill_row vs 0 z.cells.toList hall (by simp; omega)
  rw [hn] at hfill
  simp only [Array.toArray_toList, List.take_zero, List.nil_append, Nat.zero_add] at hfill
  rw [List.drop_of_length_le (by simp; omega), List.append_nil] at hfill
  have hp : (Array.map (fun x : Nat × Operand => (x.1, a.eval x.2)) parts).toList = (List.range' 0 n).zip vs := hvs
  simp [execOp, ho, Instr.build, zeroValue, typeInfo, hi, hzi, run_underlying ht, sizeOf, hf, hz1]
  have hp' : List.map (fun x : Nat × Operand => (x.1, a.eval x.2)) parts.toList = (List.range' 0 n).zip vs := by simpa using hvs
  rw [hp', hfill]
  rfl
/-- an array of its parts -/
theorem sBuildArr (t e : TypeId) (parts : Array (Nat × Operand)) (ho : o.op = .build t parts) (N : Tmp) (hd : o.dst = some N) (hg : Region.wanted o (yielded ops a.tmps) = true) (n : Nat) (ht : P.underlying t = some (.array n e)) (hs : (P.info? e).map (·.size) = some 1) (z : Value) (hz : (P.info? t).map (·.zero) = some (some z)) (hzn : z.cells.size = n)
    (vs : List Value) (hv : (parts.map fun p => a.eval p.2).toList = vs) (hvs : (parts.map fun p => (p.1, a.eval p.2)).toList = (List.range' 0 n).zip vs) (hn : vs.length = n) (h1 : vs.all (fun v => v.cells.size == 1 && v.oneCell') = true)
    (k : wpList P ops Q rest (a.put (some N) (.agg vs.toArray)) W) : wpList P ops Q (o :: rest) a W :=
  value_ev (W1 := W) hg (run_build_arr t e n parts ho ht hs z hz hzn vs hvs hn h1) (by rw [hd]; exact k)
theorem run_sliceAt {t e : TypeId} (ht : P.underlying t = some (.slice e)) (hs : (P.info? e).map (·.size) = some 1) (A : Option Addr) (n c l h : Nat) (lo hi : Option Value)
    (hlo : lo = none ∧ l = 0 ∨ ∃ k, lo = some (.int k (l : Int))) (hhi : hi = none ∧ h = n ∨ ∃ k, hi = some (.int k (h : Int))) (h1 : l ≤ h) (h2 : h ≤ c) :
    (Instr.sliceAt t (.slice A n c) lo hi none).run P W = .ok (.slice (if c = l then A else A.map (·.add l)) (h - l) (c - l)) W := by
  obtain ⟨f, hf, hz⟩ := Option.map_eq_some_iff.1 hs
  have a1 : (h : Int) ≤ (c : Int) := by omega
  have a2 : (l : Int) ≤ (h : Int) := by omega
  rcases hlo with ⟨rfl, rfl⟩ | ⟨k1, rfl⟩ <;> rcases hhi with ⟨rfl, rfl⟩ | ⟨k2, rfl⟩ <;>
    simp [Instr.sliceAt, Instr.slice, Instr.sliceBounds, Instr.sliceBound, asIntOf, run_underlying ht, sizeOf, typeInfo, hf, hz, a1, a2, h1, h2]
/-- a part of what is read -/
theorem sSlice (H : St w0 W L) (t e : TypeId) (x : Operand) (lo hi : Option Operand) (ho : o.op = .slice t x lo hi none) (N : Tmp) (hd : o.dst = some N) (hg : Region.wanted o (yielded ops a.tmps) = true) (ht : P.underlying t = some (.slice e)) (hs : (P.info? e).map (·.size) = some 1)
    (A : Option Addr) (n c l h : Nat) (hx : a.eval x = .slice A n c) (hlo : lo.map a.eval = none ∧ l = 0 ∨ ∃ k, lo.map a.eval = some (.int k (l : Int))) (hhi : hi.map a.eval = none ∧ h = n ∨ ∃ k, hi.map a.eval = some (.int k (h : Int)))
    (xs : List Value) (hm : Ent.ro A xs ∈ L) (h1 : l ≤ h) (h2 : h ≤ n) (hn : n = xs.length) (hc : n ≤ c)
    (k : ∀ A', St w0 W (.ro A' ((xs.drop l).take (h - l)) :: L) → wpList P ops Q rest (a.put (some N) (.slice A' (h - l) (c - l))) W) : wpList P ops Q (o :: rest) a W := by
  have hrun := run_sliceAt (W := W) ht hs A n c l h (lo.map a.eval) (hi.map a.eval) hlo hhi h1 (by omega)
  refine value_ev (v := .slice (if c = l then A else A.map (·.add l)) (h - l) (c - l)) (W1 := W) hg ?_ ?_
  · simp only [execOp, ho, hx, Sem.run_bind, Option.map_none, hrun, Result.andThen_ok, Sem.run_pure]
  · rw [hd]
    refine k _ ?_
    split
    · have : ((xs.drop l).take (h - l)) = [] := by rw [show h - l = 0 by omega]; rfl
      rw [this]
      exact H.addRo (fun hp => absurd hp (by simp)) (fun k hk => by simp [Ent.rd] at hk)
    · have hp := H.addPart hm l (h - l)
      cases A with
      | none => exact hp
      | some ad =>
        by_cases hz : (xs.drop l).take (h - l) = []
        · rw [hz]
          exact H.addRo (fun hp => absurd hp (by simp)) (fun k hk => by simp [Ent.rd] at hk)
        · have hx0 : 0 < xs.length := by
            rcases Nat.eq_zero_or_pos xs.length with h0 | h0
            · exact absurd (by simp [List.length_eq_zero_iff.1 h0]) hz
            · exact h0
          obtain ⟨b, q, e1, _⟩ := H.rdRo hm hx0
          injection e1 with e1
          subst e1
          simpa [sub, add_ea] using hp
/-- a part of a row of the call's own, which takes the row's place -/
theorem sSliceOwn (H : St w0 W L) (t e : TypeId) (x : Operand) (lo hi : Option Operand) (ho : o.op = .slice t x lo hi none) (N : Tmp) (hd : o.dst = some N) (hg : Region.wanted o (yielded ops a.tmps) = true) (ht : P.underlying t = some (.slice e)) (hs : (P.info? e).map (·.size) = some 1)
    (A : Option Addr) (n c l h : Nat) (hx : a.eval x = .slice A n c) (hlo : lo.map a.eval = none ∧ l = 0 ∨ ∃ k, lo.map a.eval = some (.int k (l : Int))) (hhi : hi.map a.eval = none ∧ h = n ∨ ∃ k, hi.map a.eval = some (.int k (h : Int)))
    (xs : List Value) (ee : TypeId) (R : List Ent) (hT : Pull (.own A xs c ee) L R) (h1 : l ≤ h) (h2 : h ≤ n) (hn : n = xs.length)
    (k : ∀ A', St w0 W (.own A' ((xs.drop l).take (h - l)) (c - l) ee :: R) → wpList P ops Q rest (a.put (some N) (.slice A' (h - l) (c - l))) W) : wpList P ops Q (o :: rest) a W := by
  have H1 := H.pull hT
  have hb := H1.holds _ (List.mem_cons_self ..)
  have hnc : n ≤ c := by
    rcases hb with ⟨_, rfl, _⟩ | ⟨g, q, cur, rfl, b1, b2, b3, _⟩
    · simp at hn; omega
    · omega
  have hrun := run_sliceAt (W := W) ht hs A n c l h (lo.map a.eval) (hi.map a.eval) hlo hhi h1 (by omega)
  refine value_ev (v := .slice (if c = l then A else A.map (·.add l)) (h - l) (c - l)) (W1 := W) hg ?_ ?_
  · simp only [execOp, ho, hx, Sem.run_bind, Option.map_none, hrun, Result.andThen_ok, Sem.run_pure]
  · rw [hd]
    have hA : ∀ k, blockOf (if c = l then A else A.map (·.add l)) = some k → blockOf A = some k := by
      intro k hk
      split at hk
      · exact hk
      · cases A with
        | none => cases hk
        | some ad => simp only [blockOf, Option.map_some, Addr.add] at hk ⊢; split at hk <;> exact hk
    refine k _ (H1.turn .head ⟨rfl, rfl, rfl, Nat.le_refl _, fun _ _ _ => rfl⟩ ?_ (fun k hk => .inl (hA k hk)))
    rcases hb with ⟨rfl, rfl, rfl⟩ | ⟨g, q, cur, rfl, b1, b2, b3, b4, b5, b6⟩
    · left; simp
    · right
      split
      · rename_i hcl
        have : ((xs.drop l).take (h - l)) = [] := by rw [show h - l = 0 by omega]; rfl
        exact ⟨g, q, cur, rfl, b1, b2, by rw [this]; simp, by omega, by omega, by rw [this]; rfl⟩
      · refine ⟨g, q + l, cur, by simp [add_ea], b1, b2, by simp; omega, by omega, by omega, ?_⟩
        rw [← b6, List.length_take, List.length_drop, List.length_take]
        apply List.ext_getElem?
        intro m
        simp only [List.getElem?_take, List.getElem?_drop, List.length_drop, Array.length_toList]
        by_cases hm : m < h - l
        · rw [if_pos (by omega), if_pos hm, if_pos (by omega)]; congr 1; omega
        · rw [if_neg (by omega), if_neg hm]
/-- a slice literal -/
theorem sLit (H : St w0 W L) (t e : TypeId) (len : Nat) (parts : Array (Nat × Operand)) (ho : o.op = .buildSlice t len parts) (N : Tmp) (hd : o.dst = some N) (hg : Region.wanted o (yielded ops a.tmps) = true) (cs : List Value) (hlen : cs.length = len) (hm : len ≤ maxLen)
    (hrun : (execOp a.eval o).run P W = .ok (.value (.slice (some ⟨W.heap.size, 0, none⟩) len len)) (W.alloc (.cells cs.toArray e (0, 0))))
    (k : ∀ g w1, St w0 w1 (.own (some ⟨g, 0, none⟩) cs len e :: L) → wpList P ops Q rest (a.put (some N) (.slice (some ⟨g, 0, none⟩) len len)) w1) : wpList P ops Q (o :: rest) a W := by
  refine value_ev (v := .slice (some ⟨W.heap.size, 0, none⟩) len len) (W1 := W.alloc (.cells cs.toArray e (0, 0))) hg hrun ?_
  rw [hd]
  have := (H.new cs e).blkOwn (by omega)
  rw [hlen] at this
  exact k _ _ this
theorem own_rowAt {w : World} {base : Nat} {e : TypeId} {A : Option Addr} {n c : Nat} {xs : List Value} (h : w.ownsRow base e 1 (.slice A n c) n xs) : RowAt w base e A xs c := by
  obtain ⟨hl, h⟩ := h
  rw [Nat.mul_one] at hl
  rcases h with ⟨hv, hn⟩ | ⟨g, cap, cur, hv, b1, b2, b3, b4, b5, b6⟩
  · injection hv with h1 h2 h3
    subst h1 h2 h3
    exact .inl ⟨rfl, List.length_eq_zero_iff.1 hl, rfl⟩
  · injection hv with h1 h2 h3
    subst h1 h3
    exact .inr ⟨g, 0, cur, rfl, b1, b2, by omega, b4, by omega, by simpa [hl] using b6⟩
/-- a row of nothings, with room -/
theorem sMake (H : St w0 W L) (t e : TypeId) (l c : Operand) (ho : o.op = .makeSlice t l c) (N : Tmp) (hd : o.dst = some N) (hgd : o.guard = none) (z : Value) (bytes : Nat) (ht : P.underlying t = some (.slice e)) (hi : (P.info? e).map (fun i => (i.zero, i.size, i.bytes)) = some (some z, 1, bytes)) (hz : z.cells = #[z])
    (n : Nat) (Li : Int) (hl : a.eval l = .int .i64 Li) (hLn : Li = (n : Int)) (hc : a.eval c = .int .i64 Li) (hb : bytes * n ≤ 281474976710656) (hn : n ≤ 281474976710656)
    (k : ∀ ad w1, St w0 w1 (.own (some ad) (List.replicate n z) n e :: L) → wpList P ops Q rest (a.put (some N) (.slice (some ad) n n)) w1) : wpList P ops Q (o :: rest) a W := by
  refine make_ev N hd hgd t e l c ho z bytes ht hi hz Li Li n hl hc hLn hLn hb hn W.heap.size (Nat.le_refl _) ?_
  intro g w1 h1 h2 h3
  have hr : RowAt w1 W.heap.size e (some ⟨g, 0, none⟩) (List.replicate n z) n := by
    have h1' : w1.ownsRow W.heap.size e 1 (.slice (some ⟨g, 0, none⟩) n n) n (List.replicate n z) := by simpa [Own] using h1
    exact own_rowAt h1'
  exact k _ w1 (H.call (M := [.own (some ⟨g, 0, none⟩) (List.replicate n z) n e]) ⟨h3, fun e he => by rcases List.mem_singleton.1 he with rfl; exact hr, List.pairwise_singleton _ _⟩ (fun e he => by rcases List.mem_singleton.1 he with rfl; rfl))
/-- a row of nothing, with room -/
theorem sMake0 (H : St w0 W L) (t e : TypeId) (l c : Operand) (ho : o.op = .makeSlice t l c) (N : Tmp) (hd : o.dst = some N) (hgd : o.guard = none) (z : Value) (bytes : Nat) (ht : P.underlying t = some (.slice e)) (hi : (P.info? e).map (fun i => (i.zero, i.size, i.bytes)) = some (some z, 1, bytes))
    (hl : a.eval l = .int .i64 0) (n : Nat) (C : Int) (hc : a.eval c = .int .i64 C) (hCn : C = (n : Int)) (hb : bytes * n ≤ 281474976710656) (hn : n ≤ 281474976710656)
    (k : ∀ ad w1, St w0 w1 (.own (some ad) [] n e :: L) → wpList P ops Q rest (a.put (some N) (.slice (some ad) 0 n)) w1) : wpList P ops Q (o :: rest) a W := by
  refine make0_ev N hd hgd t e l c ho z bytes ht hi C n hl hc hCn hb hn W.heap.size (Nat.le_refl _) ?_
  intro g w1 h1 h2 h3
  have hr : RowAt w1 W.heap.size e (some ⟨g, 0, none⟩) [] n := by
    have h1' : w1.ownsRow W.heap.size e 1 (.slice (some ⟨g, 0, none⟩) 0 n) 0 [] := by simpa [Own] using h1
    exact own_rowAt h1'
  exact k _ w1 (H.call (M := [.own (some ⟨g, 0, none⟩) [] n e]) ⟨h3, fun e he => by rcases List.mem_singleton.1 he with rfl; exact hr, List.pairwise_singleton _ _⟩ (fun e he => by rcases List.mem_singleton.1 he with rfl; rfl))

theorem run_firstRd {n : Nat} {A : Option Addr} {ys : List Value} {c : Nat} {w : World} (hr : Rd w A ys) (hn : n = ys.length) : (Builtin.firstCells 1 n (.slice A n c)).run P w = .ok ys.toArray w := by
  subst hn
  cases A with
  | none =>
    have : ys = [] := by
      cases ys with
      | nil => rfl
      | cons y ys => obtain ⟨_, _, e, _⟩ := hr (by simp); cases e
    subst this; rfl
  | some ad =>
    refine run_firstCells_some w 1 ys.length ad _ c ys (by omega) (fun j v hv => ?_)
    obtain ⟨b, q, e, _, h2⟩ := hr (by have := (List.getElem?_eq_some_iff.1 hv).1; omega)
    injection e with e
    subst e
    rw [add_ea]; exact h2 j v hv
theorem Rd.drew {w : World} {A : Option Addr} {ys : List Value} (h : Rd w A ys) : Rd w.drew A ys := h
/-- append: the row takes what is behind it, or goes to another place -/
theorem run_append_row {base : Nat} {t ty e : TypeId} {z : Value} {bytes : Nat} (ht : P.underlying t = some (.slice e)) (hi : (P.info? e).map (fun i => (i.zero, i.size, i.bytes)) = some (some z, 1, bytes)) (hz : z.cells.size = 1)
    {A B : Option Addr} {xs ys : List Value} {c n m c2 : Nat} (hx : RowAt W base e A xs c) (hn : n = xs.length) (hm : m = ys.length) (hy : Rd W B ys) (h1 : ∀ u ∈ ys, u.oneCell' = true) (hb : (n + m) * bytes ≤ 140737488355328) (hb2 : n + m ≤ 140737488355328) (hB : base ≤ W.heap.size) :
    ∃ A' c' w', (Builtin.append_ #[t, t] ty #[.slice A n c, .slice B m c2]).run P W = .ok (.slice A' (n + m) c') w' ∧ RowAt w' base e A' (xs ++ ys) c' ∧ W.grownBy w' (blockOf A) ∧ ∀ k, blockOf A' = some k → blockOf A = some k ∨ W.heap.size ≤ k := by
  obtain ⟨i, hi0, hi1⟩ := Option.map_eq_some_iff.1 hi
  simp only [Prod.mk.injEq] at hi1
  obtain ⟨z1, z2, z3⟩ := hi1
  by_cases hroom : n + m ≤ c
  · rcases hx with ⟨rfl, rfl, rfl⟩ | ⟨g, q, cur, rfl, b1, b2, b3, b4, b5, b6⟩
    · have hm0 : m = 0 := by omega
      have : ys = [] := List.length_eq_zero_iff.1 (by omega)
      subst this
      simp at hn
      subst hn; subst hm0
      refine ⟨none, 0, W, ?_, .inl ⟨rfl, rfl, rfl⟩, ⟨rfl, rfl, rfl, Nat.le_refl _, fun _ _ _ => rfl⟩, fun k hk => .inl hk⟩
      have hf := run_firstRd (P := P) (c := c2) hy rfl
      simp at hf
      simp [Builtin.append_, run_underlying ht, sizeOf, typeInfo, hi0, z2, Builtin.lenOf, hf]
    · have hf := run_firstRd (P := P) (c := c2) hy hm
      have hst := run_storeCells_at P g (q + n) e ys 0 cur W b2 (by omega) h1
      simp only [Nat.add_zero] at hst
      refine ⟨some ⟨g, q, none⟩, c, W.setRow g (cur.toList.take (q + n) ++ ys ++ cur.toList.drop (q + n + ys.length)).toArray, ?_, .inr ⟨g, q, _, rfl, b1, setRow_heap W g cur _ e _ b2, by simp; omega, b4, by simp; omega, ?_⟩, grownBy_setRow, fun k hk => .inl hk⟩
      · simp [Builtin.append_, run_underlying ht, sizeOf, typeInfo, hi0, z2, Builtin.lenOf, hroom, hf, add_ea]
        simp only [List.append_assoc] at hst
        rw [hst]; rfl
      · have e1 : (cur.toList.take (q + n) ++ ys ++ cur.toList.drop (q + n + ys.length)).drop q = (cur.toList.drop q).take n ++ ys ++ cur.toList.drop (q + n + ys.length) := by
          rw [List.append_assoc, List.drop_append_of_le_length (by simp; omega), List.drop_take, show q + n - q = n by omega, List.append_assoc]
        rw [e1, show (cur.toList.drop q).take n = xs by rw [hn]; exact b6, List.length_append]
        rw [List.take_append_of_le_length (by simp), List.take_of_length_le (by simp)]
  · have hold : (Builtin.firstCells 1 n (.slice A n c)).run P W.drew = .ok xs.toArray W.drew := run_firstRd (Rd.drew (Ent.soft hx)) hn
    have hnew : (Builtin.firstCells 1 m (.slice B m c2)).run P W.drew = .ok ys.toArray W.drew := run_firstRd (Rd.drew hy) hm
    have h63' : ¬ (9223372036854775807 < ((n : Int) + (m : Int))) := by omega
    have h48' : ¬ (281474976710656 < Builtin.nextslicecap (n + m) c * i.bytes) := by have := growslice_fits (bytes := bytes) (show c < n + m by omega) hb; rw [z3]; omega
    have hge := grownCap_ge W (n + m) c e
    have hcm := grownCap_le_maxLen W (n + m) c e (by unfold maxLen; omega)
    refine ⟨some ⟨W.heap.size, 0, none⟩, grownCap W (n + m) c e, W.drew.alloc (.cells ((xs ++ ys).toArray ++ Builtin.zeroCells z.cells (grownCap W (n + m) c e - (n + m))) e), ?_, .inr ⟨W.heap.size, 0, _, rfl, hB, heap_alloc_new W.drew _, by simp; omega, hcm, ?_, ?_⟩, ⟨rfl, rfl, rfl, by simp, fun k hk _ => heap_alloc_old W.drew _ hk⟩, fun k hk => .inr (by simp [blockOf] at hk; omega)⟩
    · simp [Builtin.append_, run_underlying ht, sizeOf, typeInfo, zeroValue, hi0, z1, z2, Builtin.lenOf, hroom, h63', h48', Question.forced, hold, hnew, newRow, grownCap]
      congr 2
      apply Array.ext'
      simp [List.append_assoc]
    · simp [size_zeroCells, hz]; omega
    · simp only [Array.toList_append, List.drop_zero]
      exact List.take_left
theorem sAppend (H : St w0 W L) (t e : TypeId) (s x : Operand) (ho : o.op = .call { callee := .builtin .append, args := #[s, x], argTypes := #[t, t] }) (N : Tmp) (hd : o.dst = some N) (hg : Region.wanted o (yielded ops a.tmps) = true)
    (z : Value) (bytes : Nat) (ht : P.underlying t = some (.slice e)) (hi : (P.info? e).map (fun i => (i.zero, i.size, i.bytes)) = some (some z, 1, bytes)) (hz : z.cells.size = 1)
    (A : Option Addr) (n c : Nat) (hs : a.eval s = .slice A n c) (B : Option Addr) (m c2 : Nat) (hx : a.eval x = .slice B m c2) (xs : List Value) (R : List Ent) (hp : Pull (.own A xs c e) L R) (ys : List Value) (hy : Rd W B ys) (hn : n = xs.length) (hm : m = ys.length) (h1 : ys.all (·.oneCell') = true)
    (hb : (n + m) * bytes ≤ 140737488355328) (hb2 : n + m ≤ 140737488355328)
    (k : ∀ A' c' w1, St w0 w1 (.own A' (xs ++ ys) c' e :: R) → wpList P ops Q rest (a.put (some N) (.slice A' (n + m) c')) w1) : wpList P ops Q (o :: rest) a W := by
  have H1 := H.pull hp
  obtain ⟨A', c', w', hrun, hr, hgr, hk⟩ := run_append_row (ty := o.type) (c2 := c2) ht hi hz (H1.holds _ (List.mem_cons_self ..)) hn hm hy (List.all_eq_true.1 h1) hb hb2 H.below.size
  refine value_ev (v := .slice A' (n + m) c') (W1 := w') hg ?_ ?_
  · simp only [execOp, ho, resolve, invoke, builtin, Sem.run_bind, Sem.run_pure, Result.andThen_ok, List.map_toArray, List.map_cons, List.map_nil, hs, hx, hrun]
  · rw [hd]
    exact k A' c' w' (H1.turn .head hgr hr hk)
theorem sAppend0 (H : St w0 W L) (t e : TypeId) (s x : Operand) (ho : o.op = .call { callee := .builtin .append, args := #[s, x], argTypes := #[t, t] }) (N : Tmp) (hd : o.dst = some N) (hg : Region.wanted o (yielded ops a.tmps) = true)
    (z : Value) (bytes : Nat) (ht : P.underlying t = some (.slice e)) (hi : (P.info? e).map (fun i => (i.zero, i.size, i.bytes)) = some (some z, 1, bytes)) (hz : z.cells.size = 1)
    (hs : a.eval s = .slice none 0 0) (B : Option Addr) (m c2 : Nat) (hx : a.eval x = .slice B m c2) (ys : List Value) (hy : Rd W B ys) (hm : m = ys.length) (h1 : ys.all (·.oneCell') = true)
    (hb : (0 + m) * bytes ≤ 140737488355328) (hb2 : 0 + m ≤ 140737488355328)
    (k : ∀ A' c' w1, St w0 w1 (.own A' ys c' e :: L) → wpList P ops Q rest (a.put (some N) (.slice A' m c')) w1) : wpList P ops Q (o :: rest) a W :=
  sAppend (H.addNil e) t e s x ho N hd hg z bytes ht hi hz none 0 0 hs B m c2 hx [] L .head ys hy rfl hm h1 hb hb2 (fun A' c' w1 h => by rw [Nat.zero_add]; exact k A' c' w1 h)
theorem Rd.none (A : Option Addr) (w : World) : Rd w A [] := fun h => absurd h (by simp)
theorem map_set (k : IntKind) (l : List Int) (j : Nat) (x : Int) : (l.map (Value.int k)).set j (Value.int k x) = (l.set j x).map (Value.int k) := by simp
theorem map_ix_app (k : IntKind) (l : List Int) (r : List Value) (i : Nat) (h : i < l.length) : (l.map (Value.int k) ++ r)[i]? = some (Value.int k (ix l i)) := by
  rw [List.getElem?_append_left (by simpa using h)]; exact map_ix k l i h
theorem take_map_app (k : IntKind) (l : List Int) (r : List Value) (n : Nat) (h : l.length = n) : ((l.map (Value.int k) ++ r).drop 0).take n = l.map (Value.int k) := by
  rw [List.drop_zero, List.take_append_of_le_length (by simp [h]), List.take_of_length_le (by simp [h])]
theorem setWhole (cs us : List Value) (h : cs.length ≤ us.length) : cs.take 0 ++ us ++ cs.drop (0 + us.length) = us := by
  rw [Nat.zero_add, List.drop_of_length_le h]; simp
theorem setRange_map (k : IntKind) (l : List Int) (i : Nat) (x : Int) (h : i < l.length) : (l.map (Value.int k)).take i ++ [Value.int k x] ++ (l.map (Value.int k)).drop (i + [Value.int k x].length) = (l.set i x).map (Value.int k) := by
  rw [← map_set, List.set_eq_take_append_cons_drop, if_pos (by simpa using h)]; simp
theorem setRange_app (k : IntKind) (l : List Int) (r : List Value) (i : Nat) (x : Int) (h : i < l.length) : (l.map (Value.int k) ++ r).take i ++ [Value.int k x] ++ (l.map (Value.int k) ++ r).drop (i + [Value.int k x].length) = (l.set i x).map (Value.int k) ++ r := by
  rw [List.take_append_of_le_length (by simp; omega), List.drop_append_of_le_length (by simp; omega), ← List.append_assoc, setRange_map k l i x h]
theorem map_app1 (k : IntKind) (l : List Int) (x : Int) : l.map (Value.int k) ++ [Value.int k x] = (l ++ [x]).map (Value.int k) := by simp
theorem map_app2 (k : IntKind) (l : List Int) (x y : Int) : l.map (Value.int k) ++ [Value.int k x, Value.int k y] = (l ++ [x, y]).map (Value.int k) := by simp
theorem map_app4 (k : IntKind) (l : List Int) (x y z u : Int) : l.map (Value.int k) ++ [Value.int k x, Value.int k y, Value.int k z, Value.int k u] = (l ++ [x, y, z, u]).map (Value.int k) := by simp
theorem map_rep (k : IntKind) (n : Nat) (x : Int) : List.replicate n (Value.int k x) = (List.replicate n x).map (Value.int k) := by simp
end
end Go.Proofs.YtcpfangcibilaaaDoor
