/- Rows with their form; slices.Clone and slices.Equal of whole numbers, walked. No condition but sizes that any memory has. -/
import Derived.Test.YtgifehmpgcenjaaDoorSl
import Derived.Laws.AppendOwnNone
namespace Go.Proofs.YtgifehmpgcenjaaDoor
set_option linter.unusedVariables false
set_option linter.unusedSimpArgs false
open Go.RowKit

/-- A slice of whole numbers, with its form. -/
structure SL (k : IntKind) (w : World) (A : Option Addr) (l : List Int) (c : Nat) : Prop where
  il : IL k w A l
  len : l.length ≤ maxLen
  nil : A = none → c = 0
theorem SL.mono {k : IntKind} {w w' : World} {A : Option Addr} {l : List Int} {c : Nat} (h : SL k w A l c) (hb : Below w.heap.size w w') : SL k w' A l c := ⟨h.il.mono hb, h.len, h.nil⟩
theorem Own.sl {w : World} {base : Nat} {e : TypeId} {v : Value} {k : IntKind} {l : List Int} (h : Own w base e v (l.map (Value.int k))) : ∃ A c, v = .slice A l.length c ∧ SL k w A l c := by
  obtain ⟨A, c, hv, h1, h2, hi⟩ := h.il
  refine ⟨A, c, hv, hi, by omega, fun hA => ?_⟩
  rcases h.2 with ⟨hv', hn⟩ | ⟨g, cap, cur, hv', _⟩
  · rw [hv'] at hv; injection hv with _ _ hc; exact hc.symm
  · rw [hv', hA] at hv; injection hv with ha; cases ha
theorem Own.lit {w : World} {base g : Nat} {e : TypeId} {cs : Array Value} (h : Blk w g cs e) (hb : base ≤ g) (hm : cs.size ≤ maxLen) : Own w base e (.slice (some ⟨g, 0, none⟩) cs.size cs.size) cs.toList := by
  refine ⟨by simp, .inr ⟨g, cs.size, cs, by simp, hb, h, by simp, hm, by simp, by simp [← Array.length_toList, -Array.length_toList]⟩⟩

section
variable {P : Program} {ops : Array Oper} {rest : List Oper} {o : Oper} {a : Act} {Q : Exit → Act → World → Prop}
/-- an append of a whole slice to a row of the call's own -/
theorem appN_ev {W w0 : World} (N : Tmp) (hd : o.dst = some N) (hg : o.guard = none) (t e : TypeId) (s x : Operand) (ho : o.op = .call { callee := .builtin .append, args := #[s, x], argTypes := #[t, t] })
    (z : Value) (bytes : Nat) (ht : P.underlying t = some (.slice e)) (hi : (P.info? e).map (fun i => (i.zero, i.size, i.bytes)) = some (some z, 1, bytes)) (hz : z.cells.size = 1)
    {base B : Nat} {xs : List Value} {v : Value} {k : IntKind} {A : Option Addr} {l : List Int} {c m : Nat} (hm : m = l.length) (hs : a.eval s = v) (hx : a.eval x = .slice A m c) (hS : SL k W A l c)
    (HO : Own W base e v xs) (hn : (xs.length + l.length) * bytes ≤ 140737488355328) (hn2 : xs.length + l.length ≤ 140737488355328) (HB : Below B w0 W) (hB : B ≤ base) (hW : base ≤ W.heap.size)
    (h : ∀ v1 w1, Own w1 base e v1 (xs ++ l.map (Value.int k)) → Below B w0 w1 → W.grownBy w1 v.ownBlock → wpList P ops Q rest (a.put (some N) v1) w1) : wpList P ops Q (o :: rest) a W := by
  subst hm
  obtain ⟨i, hi0, hi1⟩ := Option.map_eq_some_iff.1 hi
  simp only [Prod.mk.injEq] at hi1
  obtain ⟨z1, z2, z3⟩ := hi1
  cases A with
  | none =>
    have hl : l = [] := by
      cases l with
      | nil => rfl
      | cons y l => obtain ⟨_, _, e1, _⟩ := hS.il (by simp); cases e1
    subst hl
    have hc := hS.nil rfl
    subst hc
    refine wpList_append_own_none hg s x t ho base e i 1 ht hi0 v xs.length xs hs HO hx ?_
    rw [hd]
    exact h v W (by simpa using HO) HB ⟨rfl, rfl, rfl, Nat.le_refl _, fun _ _ _ => rfl⟩
  | some ad =>
    refine wpList_append_own W hg s x t ho base e i z 1 bytes ht hi0 z1 z2 z3 hz (by omega) v xs.length xs hs HO ad l.length c (l.map (Value.int k)) hx (by simp) ?_ (by simp [Value.oneCell']) (by unfold maxLen; omega) hn hW ?_
    · intro j u hj
      have hjl : j < l.length := by
        have := (List.getElem?_eq_some_iff.1 hj).1
        simpa using this
      obtain ⟨b, o, e1, hc⟩ := hS.il (by omega)
      injection e1 with e1
      subst e1
      rw [map_ix k l j hjl] at hj
      injection hj with hj
      subst hj
      have := hc j hjl
      unfold Addr.add
      split
      · rename_i h0; subst h0; simpa using this
      · exact this
    · intro v' w' g1 g2 _
      rw [hd]
      refine h v' w' ?_ (HB.grown g2 (by omega) (fun k hk => by have := HO.base_le k hk; omega)) g2
      unfold Own
      rw [List.length_append, List.length_map]
      exact g1
end

theorem slice_nil_yes (w : World) (n c : Nat) : (binOp .eql 24 (.slice none n c) (.slice none 0 0)).run Tryd.prog w = .ok (.bool true) w := by kernel_rfl
theorem slice_nil_no (w : World) (a : Addr) (n c : Nat) : (binOp .eql 24 (.slice (some a) n c) (.slice none 0 0)).run Tryd.prog w = .ok (.bool false) w := by kernel_rfl

set_option maxHeartbeats 400000 in
theorem clone_any (w : World) (A : Option Addr) (l : List Int) (c : Nat) (h : SL .i64 w A l c) (hm : l.length ≤ 1000000) :
    Calls Tryd.prog 78 #[.slice A l.length c] w fun e w' => ∃ v, e = .returned v ∧ Own w' w.heap.size 3 v (l.map (.int .i64)) ∧ Below w.heap.size w w' := by
  have HB := Below.refl w.heap.size w
  have n1 := slice_nil_yes
  have n2 := slice_nil_no
  cases A with
  | none =>
    have hl : l = [] := by
      cases l with
      | nil => rfl
      | cons y l => obtain ⟨_, _, e1, _⟩ := h.il (by simp); cases e1
    subst hl
    go_enter Tryd.func78, Tryd.ntmps78
    go_wp2
    go_ret
    exact ⟨_, rfl, Own.nil, HB⟩
  | some ad =>
    
    go_enter Tryd.func78, Tryd.ntmps78
    go_wp2_with (first | ((with_reducible refine dst_gate (N := 5) rfl ?_); (refine lit_ev 5 rfl ?hg #[] 3 0 ?hr ?_); (case hg => first | rfl | (go_simp; done)); (case hr => (first | (go_simp; done) | (go_simp; rfl))); intro gK wK K hgK hb; have HB := below_step HB hb; replace h := h.mono hb; have O : Own wK w.heap.size 3 (.slice (some ⟨gK, 0, none⟩) 0 0) [] := Own.lit K hgK (by simp [maxLen])) | ((with_reducible refine dst_gate (N := 7) rfl ?_); refine appN_ev 7 rfl rfl 24 3 _ _ rfl (.int .i64 0) 8 Tryd.underlying24 (by kernel_rfl) rfl (rfl) rfl rfl h O ?hn1 ?hn2 HB ?hB1 ?hW1 ?_; (case hn1 => simp; omega); (case hn2 => simp; omega); (case hB1 => first | exact Nat.le_refl _ | omega); (case hW1 => first | exact HB.size | omega); intro v1 w1 n0_ n1_ n2_; clear O HB; have O := n0_; have HB := n1_; have HG := Lib.hid n2_; clear n0_ n1_ n2_))
    go_ret
    exact ⟨_, rfl, by simpa using O, HB⟩
end Go.Proofs.YtgifehmpgcenjaaDoor
