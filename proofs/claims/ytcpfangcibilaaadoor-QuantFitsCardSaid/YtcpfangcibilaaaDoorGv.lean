/- Steps more: a row of nothings with room behind it; nothings behind a row. No condition. -/
import Derived.Test.YtcpfangcibilaaaDoorGu
namespace Go.Proofs.YtcpfangcibilaaaDoor
set_option linter.unusedVariables false
set_option linter.unusedSimpArgs false
open Go.RowKit
section
variable {P : Program} {ops : Array Oper} {rest : List Oper} {o : Oper} {a : Act} {Q : Exit → Act → World → Prop} {w0 W : World} {L : List Ent}
theorem made_list (z : Value) (hz : z.cells = #[z]) (c : Nat) : (madeCells z.cells c).toList = List.replicate c z := by
  rw [hz]
  apply List.ext_getElem
  · simp [madeCells]
  · intro j h1 h2; simp [madeCells, Nat.mod_one]
theorem zeros_list (z : Value) (hz : z.cells = #[z]) (c : Nat) : (Builtin.zeroCells z.cells c).toList = List.replicate c z := by
  rw [hz]
  apply List.ext_getElem
  · simp [Builtin.zeroCells]
  · intro j h1 h2; simp [Builtin.zeroCells, Nat.mod_one]
/-- a row of some nothings, with room for more -/
theorem sMakeC (H : St w0 W L) (t e : TypeId) (l c : Operand) (ho : o.op = .makeSlice t l c) (N : Tmp) (hd : o.dst = some N) (hg : Region.wanted o (yielded ops a.tmps) = true) (z : Value) (bytes : Nat) (ht : P.underlying t = some (.slice e)) (hi : (P.info? e).map (fun i => (i.zero, i.size, i.bytes)) = some (some z, 1, bytes)) (hz : z.cells = #[z])
    (li ci : Int) (hl : a.eval l = .int .i64 li) (hc : a.eval c = .int .i64 ci) (ln cn : Nat) (hln : li.toNat = ln) (hcn : ci.toNat = cn) (h0 : 0 ≤ li) (h1 : li ≤ ci) (hb : bytes * cn ≤ 281474976710656) (hn : cn ≤ 281474976710656)
    (k : ∀ ad w1, St w0 w1 (.own (some ad) (List.replicate ln z) cn e :: L) → wpList P ops Q rest (a.put (some N) (.slice (some ad) ln cn)) w1) : wpList P ops Q (o :: rest) a W := by
  subst hln hcn
  obtain ⟨i, hi0, hi1⟩ := Option.map_eq_some_iff.1 hi
  simp only [Prod.mk.injEq] at hi1
  obtain ⟨z1, z2, z3⟩ := hi1
  have hr := run_make (P := P) W t e i z ht hi0 z1 .i64 .i64 li ci h0 h1 (by
    rw [z3]
    have : ((bytes * ci.toNat : Nat) : Int) ≤ 281474976710656 := by omega
    rw [Int.natCast_mul, Int.toNat_of_nonneg (by omega)] at this
    exact this) (by omega)
  rw [z2, Nat.mul_one] at hr
  have hm := made_list z hz ci.toNat
  obtain ⟨M, hM⟩ : ∃ M, M = madeCells z.cells ci.toNat := ⟨_, rfl⟩
  rw [← hM] at hr hm
  refine value_ev (v := .slice (some ⟨W.heap.size, 0, none⟩) li.toNat ci.toNat) (W1 := W.alloc (.cells M e)) hg ?_ ?_
  · simp [execOp, ho, hl, hc, hr]
  · rw [hd]
    have hb : Below W.heap.size W (W.alloc (.cells M e)) := (Below.refl _ _).alloc (Nat.le_refl _) _
    have hsz : M.size = ci.toNat := by rw [← Array.length_toList, hm]; simp
    have hrow : RowAt (W.alloc (.cells M e)) W.heap.size e (some ⟨W.heap.size, 0, none⟩) (List.replicate li.toNat z) ci.toNat :=
      .inr ⟨W.heap.size, 0, M, rfl, Nat.le_refl _, heap_alloc_new W _, by simp; omega, by unfold maxLen; omega, by omega, by rw [List.drop_zero, hm, List.length_replicate, List.take_replicate, Nat.min_eq_left (by omega)]⟩
    exact k _ _ (H.call (M := [.own (some ⟨W.heap.size, 0, none⟩) (List.replicate li.toNat z) ci.toNat e]) ⟨hb, fun e he => by rcases List.mem_singleton.1 he with rfl; exact hrow, List.pairwise_singleton _ _⟩ (fun e he => by rcases List.mem_singleton.1 he with rfl; rfl))
theorem run_append_zeros {base : Nat} {t tn ty e : TypeId} {z : Value} {bytes : Nat} {kn : IntKind} (ht : P.underlying t = some (.slice e)) (htn : P.underlying tn = some (.int kn)) (hi : (P.info? e).map (fun i => (i.zero, i.size, i.bytes)) = some (some z, 1, bytes)) (hz : z.cells = #[z]) (hz1 : z.oneCell' = true)
    {A : Option Addr} {xs : List Value} {c n m : Nat} (hx : RowAt W base e A xs c) (hn : n = xs.length) (hb : (n + m) * bytes ≤ 140737488355328) (hb2 : n + m ≤ 140737488355328) (hB : base ≤ W.heap.size) :
    ∃ A' c' w', (Builtin.append_ #[t, tn] ty #[.slice A n c, .int .i64 (m : Nat)]).run P W = .ok (.slice A' (n + m) c') w' ∧ RowAt w' base e A' (xs ++ List.replicate m z) c' ∧ W.grownBy w' (blockOf A) ∧ ∀ k, blockOf A' = some k → blockOf A = some k ∨ W.heap.size ≤ k := by
  obtain ⟨i, hi0, hi1⟩ := Option.map_eq_some_iff.1 hi
  simp only [Prod.mk.injEq] at hi1
  obtain ⟨z1, z2, z3⟩ := hi1
  have hw : IntKind.i64.wrap (m : Int) = m := by rw [IntKind.wrap_i64]; omega
  have hneg : ¬ ((m : Int) < 0) := by omega
  have hbm : m * bytes ≤ 140737488355328 := by rw [Nat.add_mul] at hb; omega
  have h48i : ¬ (281474976710656 < (m : Int) * (i.bytes : Int)) := by
    rw [← Int.natCast_mul, z3]
    omega
  by_cases hm0 : m = 0
  · subst hm0
    rcases hx with ⟨rfl, rfl, rfl⟩ | ⟨g, q, cur, rfl, b1, b2, b3, b4, b5, b6⟩
    · simp at hn
      subst hn
      exact ⟨none, 0, W, by simp [Builtin.append_, run_underlying ht, run_underlying htn, sizeOf, typeInfo, hi0, z2, asInt, asIntOf, IntKind.wrap_i64], .inl ⟨rfl, rfl, rfl⟩, ⟨rfl, rfl, rfl, Nat.le_refl _, fun _ _ _ => rfl⟩, fun k hk => .inl hk⟩
    · have hst := run_storeCells_at P g (q + n) e [] 0 cur W b2 (by simp; omega) (by simp)
      simp only [Nat.add_zero, List.append_nil, List.length_nil, List.take_append_drop, Array.toArray_toList] at hst
      refine ⟨some ⟨g, q, none⟩, c, W.setRow g cur, ?_, .inr ⟨g, q, cur, rfl, b1, setRow_heap W g cur _ e _ b2, by simp; omega, b4, b5, by simpa using b6⟩, grownBy_setRow, fun k hk => .inl hk⟩
      simp [Builtin.append_, run_underlying ht, run_underlying htn, sizeOf, typeInfo, hi0, z2, asInt, asIntOf, IntKind.wrap_i64, show n ≤ c by omega, add_ea, hst]
  have hzl := zeros_list z hz m
  obtain ⟨Z, hZ⟩ : ∃ Z, Z = Builtin.zeroCells z.cells m := ⟨_, rfl⟩
  rw [← hZ] at hzl
  have hns : ¬ (m * 1 = 0) := by omega
  by_cases hroom : n + m ≤ c
  · rcases hx with ⟨rfl, rfl, rfl⟩ | ⟨g, q, cur, rfl, b1, b2, b3, b4, b5, b6⟩
    · omega
    · have hst := run_storeCells_at P g (q + n) e (List.replicate m z) 0 cur W b2 (by simp; omega) (fun v hv => by rw [(List.mem_replicate.1 hv).2]; exact hz1)
      simp only [Nat.add_zero] at hst
      refine ⟨some ⟨g, q, none⟩, c, W.setRow g (cur.toList.take (q + n) ++ List.replicate m z ++ cur.toList.drop (q + n + (List.replicate m z).length)).toArray, ?_, .inr ⟨g, q, _, rfl, b1, setRow_heap W g cur _ e _ b2, by simp; omega, b4, by simp; omega, ?_⟩, grownBy_setRow, fun k hk => .inl hk⟩
      · rw [hzl.symm] at hst ⊢
        simp [Builtin.append_, run_underlying ht, run_underlying htn, sizeOf, typeInfo, zeroValue, hi0, z1, z2, asInt, asIntOf, hw, hneg, h48i, hm0, hroom, add_ea, ← hZ]
        simp only [List.append_assoc] at hst
        rw [hst]; rfl
      · have e1 : (cur.toList.take (q + n) ++ List.replicate m z ++ cur.toList.drop (q + n + (List.replicate m z).length)).drop q = (cur.toList.drop q).take n ++ List.replicate m z ++ cur.toList.drop (q + n + (List.replicate m z).length) := by
          rw [List.append_assoc, List.drop_append_of_le_length (by simp; omega), List.drop_take, show q + n - q = n by omega, List.append_assoc]
        rw [e1, show (cur.toList.drop q).take n = xs by rw [hn]; exact b6, List.length_append]
        rw [List.take_append_of_le_length (by simp), List.take_of_length_le (by simp)]
  · have hold : (Builtin.firstCells 1 n (.slice A n c)).run P W.drew = .ok xs.toArray W.drew := run_firstRd (Rd.drew (Ent.soft hx)) hn
    have h63' : ¬ (9223372036854775807 < ((n : Int) + (m : Int))) := by omega
    have h48' : ¬ (281474976710656 < Builtin.nextslicecap (n + m) c * i.bytes) := by have := growslice_fits (bytes := bytes) (show c < n + m by omega) hb; rw [z3]; omega
    have hge := grownCap_ge W (n + m) c e
    have hcm := grownCap_le_maxLen W (n + m) c e (by unfold maxLen; omega)
    have hzs : z.cells.size = 1 := by rw [hz]; rfl
    refine ⟨some ⟨W.heap.size, 0, none⟩, grownCap W (n + m) c e, W.drew.alloc (.cells ((xs ++ List.replicate m z).toArray ++ Builtin.zeroCells z.cells (grownCap W (n + m) c e - (n + m))) e), ?_, .inr ⟨W.heap.size, 0, _, rfl, hB, heap_alloc_new W.drew _, by simp; omega, hcm, ?_, ?_⟩, ⟨rfl, rfl, rfl, by simp, fun k hk _ => heap_alloc_old W.drew _ hk⟩, fun k hk => .inr (by simp [blockOf] at hk; omega)⟩
    · simp [Builtin.append_, run_underlying ht, run_underlying htn, sizeOf, typeInfo, zeroValue, hi0, z1, z2, asInt, asIntOf, hw, hneg, h48i, hm0, hroom, h63', h48', Question.forced, hold, newRow, grownCap, ← hZ]
      congr 2
      apply Array.ext'
      simp [List.append_assoc, hzl]
    · simp [size_zeroCells, hzs]; omega
    · simp only [Array.toList_append, List.drop_zero]
      exact List.take_left
theorem exec_conv_bs {w : World} (src dst e : TypeId) (x : Operand) (ho : o.op = .convert src dst x) (hs : P.underlying src = some (.slice e)) (he : P.underlying e = some (.int .u8)) (hdt : P.underlying dst = some .string)
    (A : Option Addr) (n c : Nat) (hx : a.eval x = .slice A n c) (xs : List Int) (hr : Rd w A (xs.map (.int .u8))) (hn : n = xs.length) : (execOp a.eval o).run P w = .ok (.value (.string (sOf xs))) w := by
  subst hn
  have h := run_convert_bytes_string w src dst e A xs.length c hs he hdt
  have h2 : (Conv.bytesToString (.slice A xs.length c)).run P w = .ok (.string (sOf xs)) w := by
    cases A with
    | none =>
      have : xs = [] := by
        cases xs with
        | nil => rfl
        | cons x xs => obtain ⟨b, o, h, _⟩ := hr (by simp); cases h
      subst this
      simp [Conv.bytesToString, sOf_nil]
    | some ad =>
      have hl := rd_loadCells (P := P) hr ad rfl xs.length (by simp)
      rw [show (xs.map (Value.int .u8)).take xs.length = xs.map (.int .u8) by rw [List.take_of_length_le (by simp)]] at hl
      rw [run_bytesToString w ad xs.length c xs hl, foldl_push, ByteArray.empty_append]
  simp [execOp, ho, hx, h, h2]
theorem planConvBS {R : List Ent} {l : List Oper} {i : Nat} {r : List (Nat × Bool)} {w : World} (o : Oper) (q : List Oper) (hi : l.drop i = o :: q) (hg : Region.wanted o (yielded l.toArray a.tmps) = true) (src dst e : TypeId) (x : Operand) (ho : o.op = .convert src dst x) (hs : P.underlying src = some (.slice e)) (he : P.underlying e = some (.int .u8)) (hdt : P.underlying dst = some .string)
    (A : Option Addr) (n c : Nat) (hx : a.eval x = .slice A n c) (xs : List Int) (hr : ∀ w, St w0 w R → Rd w A (xs.map (.int .u8))) (hn : n = xs.length)
    (h : wpPlan P l.toArray Q (fun w' => St w0 w' R) r (a.put o.dst (.string (sOf xs))) w) : wpPlan P l.toArray Q (fun w' => St w0 w' R) ((i, true) :: r) a w :=
  planTake o q _ hi hg (fun w H => exec_conv_bs src dst e x ho hs he hdt A n c hx xs (hr w H) hn) h
theorem St.rdBlk {w0 w : World} {L : List Ent} (H : St w0 w L) {g : Nat} {cs : List Value} {t : TypeId} (hm : Ent.blk g cs t ∈ L) : Rd w (some ⟨g, 0, none⟩) cs := fun _ => ⟨g, 0, rfl, (H.holds _ hm).2.lt, fun i v hv => by rw [Nat.zero_add]; exact (H.holds _ hm).2.cell i v (by simpa using hv)⟩
/-- nothings behind a row -/
theorem sAppendM (H : St w0 W L) (t tn e : TypeId) (kn : IntKind) (s x : Operand) (ho : o.op = .call { callee := .builtin .append, args := #[s, x], argTypes := #[t, tn] }) (N : Tmp) (hd : o.dst = some N) (hg : Region.wanted o (yielded ops a.tmps) = true)
    (z : Value) (bytes : Nat) (ht : P.underlying t = some (.slice e)) (htn : P.underlying tn = some (.int kn)) (hi : (P.info? e).map (fun i => (i.zero, i.size, i.bytes)) = some (some z, 1, bytes)) (hz : z.cells = #[z]) (hz1 : z.oneCell' = true)
    (A : Option Addr) (n c : Nat) (hs : a.eval s = .slice A n c) (mi : Int) (hx : a.eval x = .int .i64 mi) (m : Nat) (hmi : mi = (m : Nat)) (xs : List Value) (R : List Ent) (hp : Pull (.own A xs c e) L R) (hn : n = xs.length)
    (hb : (n + m) * bytes ≤ 140737488355328) (hb2 : n + m ≤ 140737488355328)
    (k : ∀ A' c' w1, St w0 w1 (.own A' (xs ++ List.replicate m z) c' e :: R) → wpList P ops Q rest (a.put (some N) (.slice A' (n + m) c')) w1) : wpList P ops Q (o :: rest) a W := by
  subst hmi
  have H1 := H.pull hp
  obtain ⟨A', c', w', hrun, hr, hgr, hk⟩ := run_append_zeros (ty := o.type) (m := m) ht htn hi hz hz1 (H1.holds _ (List.mem_cons_self ..)) hn hb hb2 H.below.size
  refine value_ev (v := .slice A' (n + m) c') (W1 := w') hg ?_ ?_
  · simp only [execOp, ho, resolve, invoke, builtin, Sem.run_bind, Sem.run_pure, Result.andThen_ok, List.map_toArray, List.map_cons, List.map_nil, hs, hx, hrun]
  · rw [hd]
    exact k A' c' w' (H1.turn .head hgr hr hk)
end
end Go.Proofs.YtcpfangcibilaaaDoor
