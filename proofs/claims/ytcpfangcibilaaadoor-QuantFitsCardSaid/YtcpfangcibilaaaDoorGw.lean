/- A region that draws its order, by a plan with forks: where two may come next, both are walked. No condition. -/
import Derived.Test.YtcpfangcibilaaaDoorGv
namespace Go.Proofs.YtcpfangcibilaaaDoor
set_option linter.unusedVariables false
set_option linter.unusedSimpArgs false
open Go.RowKit
inductive PTree where
  | pl (l : List (Nat × Bool))
  | br (l : List (Nat × Bool)) (i j : Nat) (t u : PTree)
def PTree.size : PTree → Nat
  | .pl l => l.length
  | .br l _ _ t _ => l.length + (t.size + 1)
def QK (Q : Exit → Act → World → Prop) (K : Act → World → Prop) : Exit → Act → World → Prop
  | .normal, a, w => K a w
  | e, a, w => Q e a w
section
variable {P : Program} {ops : Array Oper} {Q : Exit → Act → World → Prop} {S : World → Prop}
def wpTree (P : Program) (ops : Array Oper) (Q : Exit → Act → World → Prop) (S : World → Prop) : PTree → Act → World → Prop
  | .pl l, a, w => wpPlan P ops Q S l a w
  | .br l i j t u, a, w => wpPlan P ops (QK Q fun a w => wpPlan P ops (QK Q (wpTree P ops Q S t)) S [(i, false)] a w ∧ wpPlan P ops (QK Q (wpTree P ops Q S u)) S [(j, false)] a w) S l a w
def checkPre (ops : Array Oper) (k : Array Bool → Bool) : List (Nat × Bool) → Array Bool → Bool
  | [], listed => k listed
  | (i, true) :: r, listed => Region.free .any ops listed i && (Region.ready .any ops listed).contains i && checkPre ops k r (listed.setIfInBounds i true)
  | (i, false) :: r, listed => (Region.ready .any ops listed == [i]) && checkPre ops k r (listed.setIfInBounds i true)
def checkTree (ops : Array Oper) : PTree → Array Bool → Bool
  | .pl l, listed => checkPlan ops l listed
  | .br l i j t u, listed => (t.size == u.size) && checkPre ops (fun listed => (Region.ready .any ops listed == [i, j]) && checkTree ops t (listed.setIfInBounds i true) && checkTree ops u (listed.setIfInBounds j true)) l listed
theorem wpOp_QK {K K' : Act → World → Prop} {i : Nat} {a : Act} {w : World} (h : wpOp P ops (QK Q K') i K a w) : wpOp P ops Q i K a w := by
  unfold wpOp at *
  cases hi : ops[i]? with
  | none => simp only [hi] at h ⊢; exact h
  | some o =>
    simp only [hi] at h ⊢
    have hmono : o.wp P a w K (QK Q K') → o.wp P a w K Q := by
      intro h
      unfold Oper.wp at *
      generalize (execOp a.eval o).run P w = q at *
      cases q with
      | ok n w' =>
        cases n <;> simp only [Oper.upon] at h ⊢ <;>
          first
            | exact h
            | exact Calls.mono h (fun e w'' he => by cases e <;> exact he)
            | exact Rows.mono h (fun _ _ he => he)
      | halt x w' => cases x <;> simp only [Oper.upon] at h ⊢ <;> exact h
    split
    · rename_i hw
      rw [if_pos hw] at h
      rcases h with h | ⟨h1, h2⟩
      · exact .inl (hmono h)
      · exact .inr ⟨h1, h2⟩
    · rename_i hw
      rw [if_neg hw] at h
      exact h
theorem pre_sound (hs : Region.noSelect ops = true) (hQ : ∀ c (a : Act) d v w, Q (.panic c) (a.put d v) w → Q (.panic c) a w) (K : Act → World → Prop) (n : Nat) (k : Array Bool → Bool)
    (hK : ∀ listed a w, k listed = true → S w → K a w → wpAnyH P .any ops Q S n listed a w) :
    ∀ (pl : List (Nat × Bool)) (listed : Array Bool) (a : Act) (w : World), checkPre ops k pl listed = true → S w → wpPlan P ops (QK Q K) S pl a w → wpAnyH P .any ops Q S (pl.length + n) listed a w
  | [], listed, a, w, hc, hS, h => by
    rw [List.length_nil, Nat.zero_add]
    exact hK listed a w hc hS h
  | (i, true) :: r, listed, a, w, hc, hS, ⟨o, v, hi, hy, h⟩ => by
    simp only [checkPre, Bool.and_eq_true] at hc
    rw [List.length_cons, Nat.add_right_comm]
    exact wpAnyH_take hi hs hc.1.1 hc.1.2 (fun c a w => hQ c a _ _ w) hy hS (pre_sound hs hQ K n k hK r _ _ w hc.2 hS h)
  | (i, false) :: r, listed, a, w, hc, hS, h => by
    simp only [checkPre, Bool.and_eq_true, beq_iff_eq] at hc
    rw [List.length_cons, Nat.add_right_comm]
    refine wpAnyH_all hc.1 (by simp) (fun j hj => ?_)
    rw [List.mem_singleton.1 hj]
    exact wpOp_mono (fun a' w' h' => ⟨h'.1, pre_sound hs hQ K n k hK r _ a' w' hc.2 h'.1 h'.2⟩) (wpOp_QK h)
theorem tree_sound (hs : Region.noSelect ops = true) (hQ : ∀ c (a : Act) d v w, Q (.panic c) (a.put d v) w → Q (.panic c) a w) :
    ∀ (t : PTree) (listed : Array Bool) (a : Act) (w : World), checkTree ops t listed = true → S w → wpTree P ops Q S t a w → wpAnyH P .any ops Q S t.size listed a w
  | .pl l, listed, a, w, hc, hS, h => wpPlan_sound hs hQ l listed a w hc hS h
  | .br l i j t u, listed, a, w, hc, hS, h => by
    simp only [checkTree, Bool.and_eq_true, beq_iff_eq] at hc
    refine pre_sound hs hQ _ (t.size + 1) _ (fun listed a w hk hS hK => ?_) l listed a w hc.2 hS h
    simp only [Bool.and_eq_true, beq_iff_eq] at hk
    refine wpAnyH_all hk.1.1 (by simp) (fun m hm => ?_)
    rcases List.mem_cons.1 hm with rfl | hm
    · exact wpOp_mono (fun a' w' h' => ⟨h'.1, tree_sound hs hQ t _ a' w' hk.1.2 h'.1 h'.2⟩) (wpOp_QK hK.1)
    · rcases List.mem_singleton.1 hm with rfl
      refine wpOp_mono (fun a' w' h' => ⟨h'.1, ?_⟩) (wpOp_QK hK.2)
      rw [hc.1]
      exact tree_sound hs hQ u _ a' w' hk.2 h'.1 h'.2
/-- a region with forks -/
theorem region_treeE {id : Nat} {a : Act} {w0 w : World} {L : List Ent} (H : St w0 w L) (t : PTree) (hm : P.follows .mixedOrders = true) (hc : (Region.noSelect ops && (t.size == ops.size) && checkTree ops t (Array.replicate ops.size false)) = true)
    (hQ : ∀ c (a : Act) d v w, Q (.panic c) (a.put d v) w → Q (.panic c) a w) (R : List Ent) (hp : R.Sublist L) (h : St w0 w.drew L → wpTree P ops Q (fun w' => St w0 w' R) t a w.drew) : (Code.region id ops true).wp P Q a w := by
  simp only [Bool.and_eq_true, beq_iff_eq] at hc
  refine wp_region_held (S := fun w' => St w0 w' R) hm ?_
  have := tree_sound hc.1.1 hQ t _ a w.drew hc.2 (H.drew.sub hp) (h H.drew)
  rw [hc.1.2] at this
  exact this
theorem treePl {l : List (Nat × Bool)} {a : Act} {w : World} (h : wpPlan P ops Q S l a w) : wpTree P ops Q S (.pl l) a w := h
theorem treeBr {l : List (Nat × Bool)} {i j : Nat} {t u : PTree} {a : Act} {w : World} (h : wpPlan P ops (QK Q fun a w => wpPlan P ops (QK Q (wpTree P ops Q S t)) S [(i, false)] a w ∧ wpPlan P ops (QK Q (wpTree P ops Q S u)) S [(j, false)] a w) S l a w) : wpTree P ops Q S (.br l i j t u) a w := h
theorem planBr {i j : Nat} {t u : PTree} {a : Act} {w : World} (h1 : wpPlan P ops (QK Q (wpTree P ops Q S t)) S [(i, false)] a w) (h2 : wpPlan P ops (QK Q (wpTree P ops Q S u)) S [(j, false)] a w) : wpPlan P ops (QK Q fun a w => wpPlan P ops (QK Q (wpTree P ops Q S t)) S [(i, false)] a w ∧ wpPlan P ops (QK Q (wpTree P ops Q S u)) S [(j, false)] a w) S [] a w := ⟨h1, h2⟩
theorem planArm {t : PTree} {a : Act} {w : World} (h : wpTree P ops Q S t a w) : wpPlan P ops (QK Q (wpTree P ops Q S t)) S [] a w := h
end
end Go.Proofs.YtcpfangcibilaaaDoor
