/- A step more: the bytes of a constant text. No condition. -/
import Derived.Test.YtcpfangcibilaaaDoorGs
namespace Go.Proofs.YtcpfangcibilaaaDoor
set_option linter.unusedVariables false
set_option linter.unusedSimpArgs false
open Go.RowKit
section
variable {P : Program} {ops : Array Oper} {rest : List Oper} {o : Oper} {a : Act} {Q : Exit → Act → World → Prop} {w0 W : World} {L : List Ent}
theorem sConvBB (H : St w0 W L) (t e : TypeId) (x : Operand) (ho : o.op = .convert t t x) (N : Tmp) (hd : o.dst = some N) (hg : Region.wanted o (yielded ops a.tmps) = true) (ht : P.underlying t = some (.slice e)) (he : P.underlying e = some (.int .u8))
    (ad : Addr) (n c : Nat) (hx : a.eval x = .slice (some ad) n c) (xs : List Value) (c2 : Nat) (ee : TypeId) (M : List Ent) (hT : Turn (.own (some ad) xs c2 ee) (.ro (some ad) xs) L M)
    (k : ∀ w1, St w0 w1 M → wpList P ops Q rest (a.put (some N) (.slice (some ad) n c)) w1) : wpList P ops Q (o :: rest) a W := by
  obtain ⟨R, hp1, _⟩ := hT.pull
  have hb := (H.perm hp1).holds _ (List.mem_cons_self ..)
  rcases hb with ⟨h1, _⟩ | ⟨g, q, cur, h1, b1, b2, b3, b4, b5, b6⟩
  · cases h1
  injection h1 with h1
  subst h1
  obtain ⟨W', hW⟩ : ∃ W', W' = W.freeze ⟨g, cur.size, none⟩ 1 := ⟨_, rfl⟩
  have hat : W'.heap[g]? = some (.cells cur ee (cur.size, cur.size + 1)) := by
    rw [hW]; unfold World.freeze; rw [if_neg (by decide)]
    simp [Array.getElem?_modify, b2]
  have hoth : ∀ k, k ≠ g → W'.heap[k]? = W.heap[k]? := by
    intro k hk
    rw [hW]; unfold World.freeze; rw [if_neg (by decide)]
    simp [Array.getElem?_modify, Ne.symm hk]
  have hsz : W'.heap.size = W.heap.size := by
    rw [hW]; unfold World.freeze; rw [if_neg (by decide)]
    simp
  refine value_ev (v := .slice (some ⟨g, q, none⟩) n c) (W1 := W') hg ?_ ?_
  · simp [execOp, ho, hx, convert, run_underlying ht, run_underlying he, markStringish, World.shape?, b2, hW]
  · rw [hd]
    refine k _ (H.turn hT ⟨by rw [hW]; unfold World.freeze; rw [if_neg (by decide)], by rw [hW]; unfold World.freeze; rw [if_neg (by decide)], by rw [hW]; unfold World.freeze; rw [if_neg (by decide)], by rw [hsz]; exact Nat.le_refl _, fun k _ hk => hoth k (fun e => hk (by rw [e]; rfl))⟩ ?_ (fun k hk => ?_))
    · intro hp
      refine ⟨g, q, rfl, (Array.getElem?_eq_some_iff.1 hat).1, fun i v hv => ?_⟩
      rw [← b6, List.getElem?_take] at hv
      split at hv
      · simp only [List.getElem?_drop, Array.getElem?_toList] at hv
        simp [World.cell?, hat, hv]
      · cases hv
    · simp only [Ent.rd] at hk
      split at hk
      · cases hk
      · exact .inl hk
/-- a slice literal, its parts as a list -/
theorem sLitL (H : St w0 W L) (t e : TypeId) (len : Nat) (pl : List (Nat × Operand)) (ho : o.op = .buildSlice t len pl.toArray) (N : Tmp) (hd : o.dst = some N) (hg : Region.wanted o (yielded ops a.tmps) = true) (ht : P.underlying t = some (.slice e)) (z : Value) (bytes : Nat) (hi : (P.info? e).map (fun i => (i.zero, i.size, i.bytes)) = some (some z, 1, bytes))
    (vs : List Value) (hvs : pl.map (fun p => (p.1, a.eval p.2)) = (List.range' 0 len).zip vs) (hn : vs.length = len) (h1 : vs.all (fun v => v.cells.size == 1 && v.oneCell') = true) (h0 : 0 < len) (hm : len ≤ 16777216)
    (k : ∀ g w1, St w0 w1 (.own (some ⟨g, 0, none⟩) vs len e :: L) → wpList P ops Q rest (a.put (some N) (.slice (some ⟨g, 0, none⟩) len len)) w1) : wpList P ops Q (o :: rest) a W := by
  refine sLit H t e len pl.toArray ho N hd hg vs hn (by unfold maxLen; omega) (run_litN t e len pl.toArray ho ht z bytes hi vs ?_ hn h1 h0 hm) k
  rw [← hvs]
  simp
end
end Go.Proofs.YtcpfangcibilaaaDoor
