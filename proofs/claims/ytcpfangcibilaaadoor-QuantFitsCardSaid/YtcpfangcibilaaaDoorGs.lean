/- Steps of a walk over arrays that are values, parts of arrays, copy, texts. No condition. -/
import Derived.Test.YtcpfangcibilaaaDoorGr
import Derived.Lib.ConvBytes
import Derived.Laws.BytesString
import Derived.Laws.Concat
namespace Go.Proofs.YtcpfangcibilaaaDoor
set_option linter.unusedVariables false
set_option linter.unusedSimpArgs false
open Go.RowKit

/-- A text of bytes, given as numbers. -/
def sOf (l : List Int) : ByteArray := ⟨(l.map fun n => UInt8.ofNat n.toNat).toArray⟩
/-- A text's bytes, as numbers. -/
def nums (s : ByteArray) : List Int := s.data.toList.map fun b => (b.toNat : Int)
theorem sOf_nil : sOf [] = ByteArray.empty := rfl
theorem sOf_size (l : List Int) : (sOf l).size = l.length := by show (List.map (fun n : Int => UInt8.ofNat n.toNat) l).toArray.size = _; rw [List.size_toArray, List.length_map]
theorem sOf_append (a b : List Int) : sOf a ++ sOf b = sOf (a ++ b) := by
  apply ByteArray.ext
  simp [sOf]
theorem nums_length (s : ByteArray) : (nums s).length = s.size := by show (List.map _ s.data.toList).length = s.data.size; rw [List.length_map, Array.length_toList]
theorem nums_sOf (l : List Int) (h : ∀ x ∈ l, 0 ≤ x ∧ x < 256) : nums (sOf l) = l := by
  simp only [nums, sOf, List.map_map]
  conv => rhs; rw [← List.map_id l]
  apply List.map_congr_left
  intro x hx
  have := h x hx
  simp
  omega
theorem sOf_nums (s : ByteArray) : sOf (nums s) = s := by
  apply ByteArray.ext
  simp only [sOf, nums, List.map_map]
  have : ((fun n : Int => UInt8.ofNat n.toNat) ∘ fun b : UInt8 => (b.toNat : Int)) = id := by funext b; simp
  rw [this]; simp
theorem sOf_inj {a b : List Int} (ha : ∀ x ∈ a, 0 ≤ x ∧ x < 256) (hb : ∀ x ∈ b, 0 ≤ x ∧ x < 256) (h : sOf a = sOf b) : a = b := by
  rw [← nums_sOf a ha, ← nums_sOf b hb, h]

section
variable {P : Program} {ops : Array Oper} {rest : List Oper} {o : Oper} {a : Act} {Q : Exit → Act → World → Prop} {w0 W : World} {L M : List Ent}
theorem run_index_v {w : World} {t e : TypeId} {n : Nat} (ht : P.underlying t = some (.array n e)) (hsc : scalar (P.underlying e) = true) (hs : (P.info? e).map (·.size) = some 1) (cs : List Value) (ik : IntKind) (i : Int) (h0 : 0 ≤ i) (h1 : i < (n : Int)) (j : Nat) (hj : i.toNat = j) (v : Value) (hv : cs[j]? = some v) :
    (Instr.index t (.agg cs.toArray) (.int ik i)).run P w = .ok v w := by
  subst hj
  obtain ⟨f, hf, hz⟩ := Option.map_eq_some_iff.1 hs
  simp [Instr.index, asIntOf, run_underlying ht, sizeOf, typeInfo, hf, hz, h0, h1, part, Sem.run_bind, run_isAgg_no hsc, hv]
theorem run_index_s {w : World} {t : TypeId} (ht : P.underlying t = some .string) (s : ByteArray) (ik : IntKind) (i : Int) (h0 : 0 ≤ i) (j : Nat) (hj : i.toNat = j) (h1 : j < s.size) :
    (Instr.index t (.string s) (.int ik i)).run P w = .ok (.int .u8 (ix (nums s) j)) w := by
  subst hj
  have hx : ix (nums s) i.toNat = ((s[i.toNat]'h1).toNat : Int) := by
    rw [ix_eq _ _ (by rw [nums_length]; exact h1)]
    simp only [nums, List.getElem_map, Array.getElem_toList]
    rfl
  rw [hx]
  simp [Instr.index, asIntOf, run_underlying ht, h0, h1]
/-- an element of an array that is a value -/
theorem sIndexV (t e : TypeId) (x ixo : Operand) (ho : o.op = .index t x ixo) (N : Tmp) (hd : o.dst = some N) (hg : Region.wanted o (yielded ops a.tmps) = true) (n : Nat) (ht : P.underlying t = some (.array n e)) (hsc : scalar (P.underlying e) = true) (hs : (P.info? e).map (·.size) = some 1)
    (cs : List Value) (hx : a.eval x = .agg cs.toArray) (ik : IntKind) (i : Int) (hi : a.eval ixo = .int ik i) (h0 : 0 ≤ i) (h1 : i < (n : Int)) (j : Nat) (hj : i.toNat = j) (v : Value) (hv : cs[j]? = some v)
    (k : wpList P ops Q rest (a.put (some N) v) W) : wpList P ops Q (o :: rest) a W := by
  refine value_ev (v := v) (W1 := W) hg ?_ (by rw [hd]; exact k)
  have h := run_index_v (P := P) (w := W) ht hsc hs cs ik i h0 h1 j hj v hv
  simp [execOp, ho, hx, hi, h]
/-- a byte of a text -/
theorem sIndexS (t : TypeId) (x ixo : Operand) (ho : o.op = .index t x ixo) (N : Tmp) (hd : o.dst = some N) (hg : Region.wanted o (yielded ops a.tmps) = true) (ht : P.underlying t = some .string)
    (s : ByteArray) (hx : a.eval x = .string s) (ik : IntKind) (i : Int) (hi : a.eval ixo = .int ik i) (h0 : 0 ≤ i) (j : Nat) (hj : i.toNat = j) (h1 : j < s.size)
    (k : wpList P ops Q rest (a.put (some N) (.int .u8 (ix (nums s) j))) W) : wpList P ops Q (o :: rest) a W := by
  refine value_ev (v := .int .u8 (ix (nums s) j)) (W1 := W) hg ?_ (by rw [hd]; exact k)
  have h := run_index_s (P := P) (w := W) ht s ik i h0 j hj h1
  simp [execOp, ho, hx, hi, h]
theorem exec_index_s {w : World} (t : TypeId) (x ixo : Operand) (ho : o.op = .index t x ixo) (ht : P.underlying t = some .string)
    (s : ByteArray) (hx : a.eval x = .string s) (ik : IntKind) (i : Int) (hi : a.eval ixo = .int ik i) (h0 : 0 ≤ i) (j : Nat) (hj : i.toNat = j) (h1 : j < s.size) : (execOp a.eval o).run P w = .ok (.value (.int .u8 (ix (nums s) j))) w := by
  have h := run_index_s (P := P) (w := w) ht s ik i h0 j hj h1
  simp [execOp, ho, hx, hi, h]
theorem exec_slice_s1 {w : World} (t : TypeId) (x lo hi : Operand) (ho : o.op = .slice t x (some lo) (some hi) none) (ht : P.underlying t = some .string) (s : ByteArray) (hx : a.eval x = .string s) (ik jk : IntKind) (l h : Int) (hl : a.eval lo = .int ik l) (hh : a.eval hi = .int jk h)
    (h0 : 0 ≤ l) (h1 : h = l + 1) (j : Nat) (hj : l.toNat = j) (h2 : j < s.size) : (execOp a.eval o).run P w = .ok (.value (.string (sOf [ix (nums s) j]))) w := by
  subst hj
  have a1 : h ≤ (s.size : Int) := by omega
  have a2 : 0 ≤ h := by omega
  have a3 : l ≤ (h.toNat : Int) := by omega
  have he : s.extract l.toNat h.toNat = sOf [ix (nums s) l.toNat] := by
    rw [show h.toNat = l.toNat + 1 by omega]
    apply ByteArray.ext
    have hx : ix (nums s) l.toNat = ((s.data[l.toNat]'h2).toNat : Int) := by
      rw [ix_eq _ _ (by rw [nums_length]; exact h2)]
      simp only [nums, List.getElem_map, Array.getElem_toList]
    rw [hx]
    have h3 : min (l.toNat + 1) s.data.size = l.toNat + 1 := by have : l.toNat < s.data.size := h2; omega
    apply Array.ext
    · simp [sOf]; omega
    · intro i h4 h5
      have hi : i = 0 := by simp [sOf] at h5; exact h5
      subst hi
      simp [sOf]
  simp [execOp, ho, hx, hl, hh, Instr.sliceAt, Instr.slice, Instr.sliceBounds, Instr.sliceBound, asIntOf, run_underlying ht, a1, a2, a3, h0, he]
  intro hlt
  omega
theorem exec_add_s {w : World} (t r : TypeId) (x y : Operand) (ho : o.op = .binOp .add t x y r) (l m : List Int) (hx : a.eval x = .string (sOf l)) (hy : a.eval y = .string (sOf m)) (h : l.length + m.length ≤ 9223372036854775807) :
    (execOp a.eval o).run P w = .ok (.value (.string (sOf (l ++ m)))) w := by
  have h1 := run_string_add_sum (P := P) (w := w) (sOf l) (sOf m) (by rw [sOf_size, sOf_size]; exact h)
  rw [sOf_append] at h1
  have e1 : ∀ t x y v u, eqGuard .add t x y v u = pure () := fun _ _ _ _ _ => rfl
  have e2 : binOp .add t (.string (sOf l)) (.string (sOf m)) = Op.stringOp .add (sOf l) (sOf m) := by simp [binOp]
  simp [execOp, ho, hx, hy, e1, e2, h1]
theorem run_slice_arr {w : World} {t e : TypeId} {n : Nat} (ht : P.underlying t = some (.array n e)) (hs : (P.info? e).map (·.size) = some 1) (g off : Nat) :
    (Instr.sliceAt t (.pointer (some ⟨g, off, none⟩)) none none none).run P w = .ok (.slice (some ⟨g, off, none⟩) n n) w := by
  obtain ⟨f, hf, hz⟩ := Option.map_eq_some_iff.1 hs
  simp [Instr.sliceAt, Instr.sureAddr, Instr.sliceBounds, run_underlying ht, sizeOf, typeInfo, hf, hz, add_ea]
theorem exec_slice_arr {w : World} (t e : TypeId) (x : Operand) (ho : o.op = .slice t x none none none) (n : Nat) (ht : P.underlying t = some (.array n e)) (hs : (P.info? e).map (·.size) = some 1) (g off : Nat) (hx : a.eval x = .pointer (some ⟨g, off, none⟩)) :
    (execOp a.eval o).run P w = .ok (.value (.slice (some ⟨g, off, none⟩) n n)) w := by
  have h := run_slice_arr (P := P) (w := w) ht hs g off
  simp [execOp, ho, hx, h]
/-- all of an array, as a slice -/
theorem sSliceArr (t e : TypeId) (x : Operand) (ho : o.op = .slice t x none none none) (N : Tmp) (hd : o.dst = some N) (hg : Region.wanted o (yielded ops a.tmps) = true) (n : Nat) (ht : P.underlying t = some (.array n e)) (hs : (P.info? e).map (·.size) = some 1) (g off : Nat) (hx : a.eval x = .pointer (some ⟨g, off, none⟩))
    (k : wpList P ops Q rest (a.put (some N) (.slice (some ⟨g, off, none⟩) n n)) W) : wpList P ops Q (o :: rest) a W :=
  value_ev (W1 := W) hg (exec_slice_arr t e x ho n ht hs g off hx) (by rw [hd]; exact k)
theorem rd_loadCells {w : World} {B : Option Addr} {ys : List Value} (h : Rd w B ys) (ad : Addr) (hB : B = some ad) (m : Nat) (hm : m ≤ ys.length) : (loadCells ad m).run P w = .ok (ys.take m).toArray w := by
  by_cases h0 : 0 < ys.length
  · obtain ⟨b, q, e1, _, h2⟩ := h h0
    rw [hB] at e1
    injection e1 with e1
    subst e1
    have := run_loadCells_list (P := P) w ⟨b, q, none⟩ (ys.take m) (fun j v hv => by
      rw [add_ea]
      rw [List.getElem?_take] at hv
      split at hv
      · exact h2 _ _ hv
      · cases hv)
    rwa [show (ys.take m).length = m by simp; omega] at this
  · obtain rfl : m = 0 := by omega
    simpa using run_loadCells_list (P := P) w ad [] (fun j v hv => by cases hv)
/-- copy into an array of the call's own -/
theorem sCopy (H : St w0 W L) (t t2 e : TypeId) (d s : Operand) (ho : o.op = .call { callee := .builtin .copy, args := #[d, s], argTypes := #[t, t2] }) (N : Tmp) (hd : o.dst = some N) (hg : Region.wanted o (yielded ops a.tmps) = true)
    (ht : P.underlying t = some (.slice e)) (hs : (P.info? e).map (·.size) = some 1) (g n : Nat) (hx : a.eval d = .slice (some ⟨g, 0, none⟩) n n) (B : Option Addr) (m c2 : Nat) (hy : a.eval s = .slice B m c2)
    (ys : List Value) (hr : Rd W B ys) (hm : m = ys.length) (h1 : ys.all (·.oneCell') = true) (cs : List Value) (tt : TypeId) (ds : List Value) (hT : Turn (.blk g cs tt) (.blk g ds tt) L M) (hn : n = cs.length)
    (hds : ys.take (min m n) ++ cs.drop (min m n) = ds)
    (k : ∀ w1, St w0 w1 M → wpList P ops Q rest (a.put (some N) (.int .i64 (min m n : Nat))) w1) : wpList P ops Q (o :: rest) a W := by
  subst hds hn hm
  obtain ⟨R, hp1, _⟩ := hT.pull
  have hb := (H.perm hp1).holds _ (List.mem_cons_self ..)
  obtain ⟨f, hf, hz⟩ := Option.map_eq_some_iff.1 hs
  have hl : (ys.take (min ys.length cs.length)).length = min ys.length cs.length := by simp
  have hst := run_storeCells_at P g 0 tt (ys.take (min ys.length cs.length)) 0 cs.toArray W hb.2 (by simp; omega) (fun v hv => List.all_eq_true.1 h1 v (List.mem_of_mem_take hv))
  simp only [Nat.add_zero, Nat.zero_add, List.take_zero, List.nil_append, hl] at hst
  have hfc : (Builtin.firstCells 1 (min ys.length cs.length) (.slice B ys.length c2)).run P W = .ok (ys.take (min ys.length cs.length)).toArray W := by
    cases B with
    | none =>
      have : ys = [] := by
        cases ys with
        | nil => rfl
        | cons x xs => obtain ⟨b, o, h, _⟩ := hr (by simp); cases h
      subst this
      simp [Builtin.firstCells]
    | some ad =>
      have := rd_loadCells (P := P) hr ad rfl (min ys.length cs.length) (by omega)
      simpa [Builtin.firstCells] using this
  have hbc : ∀ ats ty cc args, builtin .copy ats ty cc args = (do pure (.value (← Builtin.copy_ ats ty args))) := fun _ _ _ _ => rfl
  refine value_ev (v := .int .i64 (min ys.length cs.length : Nat)) (W1 := W.setRow g (ys.take (min ys.length cs.length) ++ cs.drop (min ys.length cs.length)).toArray) hg ?_ ?_
  · have hmin : ∀ x y : Nat, Nat.min x y = min x y := fun _ _ => rfl
    simp [execOp, ho, hx, hy, resolve, invoke, Builtin.copy_, run_underlying ht, Builtin.lenOf, sizeOf, typeInfo, hf, hz, goInt, hmin, hbc, hfc, hst]
  · rw [hd]
    exact k _ (H.turn hT grownBy_setRow ⟨hb.1, setRow_blk hb.2⟩ (fun k hk => .inl hk))
theorem foldl_push : ∀ (ns : List Int) (s : ByteArray), ns.foldl (fun r n => r.push (UInt8.ofNat n.toNat)) s = s ++ sOf ns
  | [], s => by
    apply ByteArray.ext
    simp [sOf]
  | n :: ns, s => by
    rw [List.foldl_cons, foldl_push ns]
    apply ByteArray.ext
    simp [sOf, ByteArray.push]
/-- bytes as a text -/
theorem sConvBS (src dst e : TypeId) (x : Operand) (ho : o.op = .convert src dst x) (N : Tmp) (hd : o.dst = some N) (hg : Region.wanted o (yielded ops a.tmps) = true) (hs : P.underlying src = some (.slice e)) (he : P.underlying e = some (.int .u8)) (hdt : P.underlying dst = some .string)
    (A : Option Addr) (n c : Nat) (hx : a.eval x = .slice A n c) (xs : List Int) (hr : Rd W A (xs.map (.int .u8))) (hn : n = xs.length)
    (k : wpList P ops Q rest (a.put (some N) (.string (sOf xs))) W) : wpList P ops Q (o :: rest) a W := by
  subst hn
  refine value_ev (v := .string (sOf xs)) (W1 := W) hg ?_ (by rw [hd]; exact k)
  have h := run_convert_bytes_string W src dst e A xs.length c hs he hdt
  have h2 : (Conv.bytesToString (.slice A xs.length c)).run P W = .ok (.string (sOf xs)) W := by
    cases A with
    | none =>
      have : xs = [] := by
        cases xs with
        | nil => rfl
        | cons x xs => obtain ⟨b, o, h, _⟩ := hr (by simp); cases h
      subst this
      simp [Conv.bytesToString, sOf_nil]
    | some ad =>
      have hl := rd_loadCells (P := P) hr ad rfl xs.length (by simp)
      rw [show (xs.map (Value.int .u8)).take xs.length = xs.map (.int .u8) by rw [List.take_of_length_le (by simp)]] at hl
      rw [run_bytesToString W ad xs.length c xs hl, foldl_push, ByteArray.empty_append]
  simp [execOp, ho, hx, h, h2]
theorem below_bytesW (w : World) (e : TypeId) (s : ByteArray) : Below w.heap.size w (Lib.bytesWorld w e s) := by
  refine ⟨rfl, rfl, rfl, by rw [Lib.bytesWorld_size]; omega, fun k hk => Lib.bytesWorld_at_old w e s k hk⟩
/-- a text as bytes -/
theorem sConvSB (H : St w0 W L) (src dst e : TypeId) (x : Operand) (ho : o.op = .convert src dst x) (N : Tmp) (hd : o.dst = some N) (hg : Region.wanted o (yielded ops a.tmps) = true) (hs : P.underlying src = some .string) (hdt : P.underlying dst = some (.slice e)) (he : P.underlying e = some (.int .u8))
    (s : ByteArray) (hx : a.eval x = .string s) (k : ∀ A c w1, St w0 w1 (.ro A ((nums s).map (.int .u8)) :: L) → wpList P ops Q rest (a.put (some N) (.slice A s.size c)) w1) : wpList P ops Q (o :: rest) a W := by
  refine value_ev (v := .slice (some ⟨W.heap.size, 0, none⟩) s.size (grownCap W s.size 0 e)) (W1 := Lib.bytesWorld W e s) hg ?_ ?_
  · have h := Lib.run_convert_string_bytes W src dst e s hs hdt he
    simp [execOp, ho, hx, h]
  · rw [hd]
    refine k _ _ _ ((H.app (below_bytesW W e s)).addRo (fun _ => ⟨W.heap.size, 0, rfl, by rw [Lib.bytesWorld_size]; omega, fun i v hv => ?_⟩) (fun k hk a ha hk' => ?_))
    · have hi := (List.getElem?_eq_some_iff.1 hv).1
      rw [List.length_map, nums_length] at hi
      have := Lib.bytesWorld_cell W e s i hi
      rw [Nat.zero_add, this]
      rw [List.getElem?_map] at hv
      have hj : (nums s)[i]? = some ((s.data.toList.getD i 0).toNat : Int) := by
        have hi' : i < s.data.size := hi
        have e1 : s.data[i]? = some s.data[i] := Array.getElem?_eq_getElem hi'
        simp [nums, List.getD, e1]
      rw [hj] at hv
      exact hv
    · simp only [Ent.rd] at hk
      split at hk
      · cases hk
      · simp [blockOf] at hk
        have := Ent.rd_lt (H.holds a ha) (Ent.wr_rd hk')
        omega
end
section
variable {P : Program} {ops : Array Oper} {rest : List Oper} {o : Oper} {a : Act} {Q : Exit → Act → World → Prop} {w0 W : World} {L : List Ent}
theorem run_litN (t e : TypeId) (len : Nat) (parts : Array (Nat × Operand)) (ho : o.op = .buildSlice t len parts) (ht : P.underlying t = some (.slice e)) (z : Value) (bytes : Nat) (hi : (P.info? e).map (fun i => (i.zero, i.size, i.bytes)) = some (some z, 1, bytes))
    (vs : List Value) (hvs : (parts.map fun p => (p.1, a.eval p.2)).toList = (List.range' 0 len).zip vs) (hn : vs.length = len) (h1 : vs.all (fun v => v.cells.size == 1 && v.oneCell') = true) (h0 : 0 < len) (hm : len ≤ 16777216) :
    (execOp a.eval o).run P W = .ok (.value (.slice (some ⟨W.heap.size, 0, none⟩) len len)) (W.alloc (.cells vs.toArray e (0, 0))) := by
  obtain ⟨i, hi0, hi1⟩ := Option.map_eq_some_iff.1 hi
  simp only [Prod.mk.injEq] at hi1
  obtain ⟨z1, z2, z3⟩ := hi1
  have hall : ∀ v ∈ vs, v.cells = #[v] := by
    intro v hv
    have := List.all_eq_true.1 h1 v hv
    cases v <;> simp_all [Value.cells, Value.oneCell']
  obtain ⟨C, hC⟩ : ∃ C : Array Value, C = (Array.range len).map (z.cells[· % z.cells.size]!) := ⟨_, rfl⟩
  have hCs : C.size = len := by rw [hC]; simp
  have hfill := fill_row vs 0 C.toList hall (by simp; omega)
  rw [hn] at hfill
  simp only [Array.toArray_toList, List.take_zero, List.nil_append, Nat.zero_add] at hfill
  rw [List.drop_of_length_le (by simp; omega), List.append_nil] at hfill
  have hp' : List.map (fun x : Nat × Operand => (x.1, a.eval x.2)) parts.toList = (List.range' 0 len).zip vs := by simpa using hvs
  have a1 : ¬ 2 ^ 24 < len := by omega
  have a2 : ¬ len = 0 := by omega
  simp [execOp, ho, Instr.buildSlice, run_underlying ht, sizeOf, typeInfo, hi0, z2, zeroValue, z1, a1, a2, newRow]
  rw [hp', ← hC, hfill]
  simp
/-- a slice literal, its elements of one cell each -/
theorem sLitN (H : St w0 W L) (t e : TypeId) (len : Nat) (parts : Array (Nat × Operand)) (ho : o.op = .buildSlice t len parts) (N : Tmp) (hd : o.dst = some N) (hg : Region.wanted o (yielded ops a.tmps) = true) (ht : P.underlying t = some (.slice e)) (z : Value) (bytes : Nat) (hi : (P.info? e).map (fun i => (i.zero, i.size, i.bytes)) = some (some z, 1, bytes))
    (vs : List Value) (hv : (parts.map fun p => a.eval p.2).toList = vs) (hvs : (parts.map fun p => (p.1, a.eval p.2)).toList = (List.range' 0 len).zip vs) (hn : vs.length = len) (h1 : vs.all (fun v => v.cells.size == 1 && v.oneCell') = true) (h0 : 0 < len) (hm : len ≤ 16777216)
    (k : ∀ g w1, St w0 w1 (.own (some ⟨g, 0, none⟩) vs len e :: L) → wpList P ops Q rest (a.put (some N) (.slice (some ⟨g, 0, none⟩) len len)) w1) : wpList P ops Q (o :: rest) a W :=
  sLit H t e len parts ho N hd hg vs hn (by unfold maxLen; omega) (run_litN t e len parts ho ht z bytes hi vs hvs hn h1 h0 hm) k
end
/-- A bound of a part: left out, or a number. -/
inductive Bd : Option Value → Nat → Nat → Prop where
  | none {d : Nat} : Bd none d d
  | some {d : Nat} (k : IntKind) (i : Int) (n : Nat) (h0 : 0 ≤ i) (h : i.toNat = n) : Bd (some (.int k i)) d n
theorem Bd.lo {v : Option Value} {l : Nat} (h : Bd v 0 l) : v = Option.none ∧ l = 0 ∨ ∃ k, v = Option.some (.int k (l : Int)) := by
  cases h with
  | none => exact .inl ⟨rfl, rfl⟩
  | some k i n h0 h => subst h; exact .inr ⟨k, by rw [Int.toNat_of_nonneg h0]⟩
theorem Bd.hi {v : Option Value} {n h : Nat} (hb : Bd v n h) : v = Option.none ∧ h = n ∨ ∃ k, v = Option.some (.int k (h : Int)) := by
  cases hb with
  | none => exact .inl ⟨rfl, rfl⟩
  | some k i n h0 h => subst h; exact .inr ⟨k, by rw [Int.toNat_of_nonneg h0]⟩
section
variable {P : Program} {ops : Array Oper} {rest : List Oper} {o : Oper} {a : Act} {Q : Exit → Act → World → Prop} {w0 W : World} {L : List Ent}
/-- a part of what is read, its bounds any numbers -/
theorem sSliceN (H : St w0 W L) (t e : TypeId) (x : Operand) (lo hi : Option Operand) (ho : o.op = .slice t x lo hi none) (N : Tmp) (hd : o.dst = some N) (hg : Region.wanted o (yielded ops a.tmps) = true) (ht : P.underlying t = some (.slice e)) (hs : (P.info? e).map (·.size) = some 1)
    (A : Option Addr) (n c l h : Nat) (hx : a.eval x = .slice A n c) (hlo : Bd (lo.map a.eval) 0 l) (hhi : Bd (hi.map a.eval) n h)
    (xs : List Value) (hm : Ent.ro A xs ∈ L) (h1 : l ≤ h) (h2 : h ≤ n) (hn : n = xs.length) (hc : n ≤ c)
    (k : ∀ A', St w0 W (.ro A' ((xs.drop l).take (h - l)) :: L) → wpList P ops Q rest (a.put (some N) (.slice A' (h - l) (c - l))) W) : wpList P ops Q (o :: rest) a W :=
  sSlice H t e x lo hi ho N hd hg ht hs A n c l h hx hlo.lo hhi.hi xs hm h1 h2 hn hc k
end
section
variable {P : Program} {Q : Exit → Act → World → Prop} {S : World → Prop}
theorem planIndexS {l : List Oper} {i : Nat} {r : List (Nat × Bool)} {a : Act} {w : World} (o : Oper) (q : List Oper) (hi : l.drop i = o :: q) (hg : Region.wanted o (yielded l.toArray a.tmps) = true) (t : TypeId) (x ixo : Operand) (ho : o.op = .index t x ixo) (ht : P.underlying t = some .string)
    (s : ByteArray) (hx : a.eval x = .string s) (ik : IntKind) (ii : Int) (hii : a.eval ixo = .int ik ii) (h0 : 0 ≤ ii) (j : Nat) (hj : ii.toNat = j) (h1 : j < s.size)
    (h : wpPlan P l.toArray Q S r (a.put o.dst (.int .u8 (ix (nums s) j))) w) : wpPlan P l.toArray Q S ((i, true) :: r) a w :=
  planTake o q _ hi hg (fun w _ => exec_index_s t x ixo ho ht s hx ik ii hii h0 j hj h1) h
theorem planSliceS1 {l : List Oper} {i : Nat} {r : List (Nat × Bool)} {a : Act} {w : World} (o : Oper) (q : List Oper) (hi : l.drop i = o :: q) (hg : Region.wanted o (yielded l.toArray a.tmps) = true) (t : TypeId) (x lo hiO : Operand) (ho : o.op = .slice t x (some lo) (some hiO) none) (ht : P.underlying t = some .string)
    (s : ByteArray) (hx : a.eval x = .string s) (ik jk : IntKind) (ll hh : Int) (hl : a.eval lo = .int ik ll) (hhv : a.eval hiO = .int jk hh) (h0 : 0 ≤ ll) (h1 : hh = ll + 1) (j : Nat) (hj : ll.toNat = j) (h2 : j < s.size)
    (h : wpPlan P l.toArray Q S r (a.put o.dst (.string (sOf [ix (nums s) j]))) w) : wpPlan P l.toArray Q S ((i, true) :: r) a w :=
  planTake o q _ hi hg (fun w _ => exec_slice_s1 t x lo hiO ho ht s hx ik jk ll hh hl hhv h0 h1 j hj h2) h
theorem planAddS {l : List Oper} {i : Nat} {r : List (Nat × Bool)} {a : Act} {w : World} (o : Oper) (q : List Oper) (hi : l.drop i = o :: q) (hg : Region.wanted o (yielded l.toArray a.tmps) = true) (t tr : TypeId) (x y : Operand) (ho : o.op = .binOp .add t x y tr)
    (xs ys : List Int) (hx : a.eval x = .string (sOf xs)) (hy : a.eval y = .string (sOf ys)) (hl : xs.length + ys.length ≤ 9223372036854775807)
    (h : wpPlan P l.toArray Q S r (a.put o.dst (.string (sOf (xs ++ ys)))) w) : wpPlan P l.toArray Q S ((i, true) :: r) a w :=
  planTake o q _ hi hg (fun w _ => exec_add_s t tr x y ho xs ys hx hy hl) h
theorem planSliceArr {l : List Oper} {i : Nat} {r : List (Nat × Bool)} {a : Act} {w : World} (o : Oper) (q : List Oper) (hi : l.drop i = o :: q) (hg : Region.wanted o (yielded l.toArray a.tmps) = true) (t e : TypeId) (x : Operand) (ho : o.op = .slice t x none none none) (n : Nat) (ht : P.underlying t = some (.array n e)) (hs : (P.info? e).map (·.size) = some 1)
    (g off : Nat) (hx : a.eval x = .pointer (some ⟨g, off, none⟩))
    (h : wpPlan P l.toArray Q S r (a.put o.dst (.slice (some ⟨g, off, none⟩) n n)) w) : wpPlan P l.toArray Q S ((i, true) :: r) a w :=
  planTake o q _ hi hg (fun w _ => exec_slice_arr t e x ho n ht hs g off hx) h
end
theorem take_map_w (k : IntKind) (l : List Int) (n : Nat) (h : l.length = n) : ((l.map (Value.int k)).drop 0).take n = l.map (Value.int k) := by
  rw [List.drop_zero, List.take_of_length_le (by simp [h])]
class Tstr (t : TypeId) : Prop where
  out : Tryd.prog.underlying t = some .string
class Tu8 (t : TypeId) : Prop where
  out : Tryd.prog.underlying t = some (.int .u8)
instance str9 : Tstr 9 := ⟨Tryd.underlying9⟩
instance str10 : Tstr 10 := ⟨Tryd.underlying10⟩
instance str11 : Tstr 11 := ⟨Tryd.underlying11⟩
instance u8i : Tu8 5 := ⟨Tryd.underlying5⟩
end Go.Proofs.YtcpfangcibilaaaDoor
