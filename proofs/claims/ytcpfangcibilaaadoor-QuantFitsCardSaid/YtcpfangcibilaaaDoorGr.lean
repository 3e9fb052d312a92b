/- A region that draws its order and whose last act writes what it reads: what is read is read before it. No condition. -/
import Derived.Test.YtcpfangcibilaaaDoorGd
namespace Go.Proofs.YtcpfangcibilaaaDoor
set_option linter.unusedVariables false
set_option linter.unusedSimpArgs false
open Go.RowKit

section
variable {P : Program} {ops : Array Oper} {Q : Exit → Act → World → Prop} {S : World → Prop} {e : Nat}
/-- Whatever comes up next, with S behind each until number e comes up. -/
def wpLate (P : Program) (ops : Array Oper) (Q : Exit → Act → World → Prop) (S : World → Prop) (e : Nat) : Nat → Array Bool → Act → World → Prop
  | 0, listed, a, w => Region.ready .any ops listed = [] ∧ Q .normal a w
  | n + 1, listed, a, w =>
    (Region.ready .any ops listed = [] → Q .normal a w) ∧
    ∀ i ∈ Region.ready .any ops listed, wpOp P ops Q i (fun a' w' => if i = e then wpAny P .any ops Q n (listed.setIfInBounds i true) a' w' else S w' ∧ wpLate P ops Q S e n (listed.setIfInBounds i true) a' w') a w
theorem late_any : ∀ (n : Nat) (listed : Array Bool) (a : Act) (w : World), wpLate P ops Q S e n listed a w → wpAny P .any ops Q n listed a w
  | 0, _, _, _, h => h
  | n + 1, _, _, _, h => ⟨h.1, fun i hi => wpOp_mono (fun a' w' k => by
      split at k
      · exact k
      · exact late_any n _ a' w' k.2) (h.2 i hi)⟩
/-- number e waits for number i -/
def waitsFor (ops : Array Oper) (e i : Nat) : Bool := match ops[e]? with
  | some o => o.after.any fun d => Region.binds .any d && d.on == i
  | none => false
theorem waits_listed {i : Nat} {listed : Array Bool} (hw : waitsFor ops e i = true) (hr : e ∈ Region.ready .any ops listed) : listed.getD i false = true := by
  obtain ⟨_, o, ho, hall⟩ := mem_ready.1 hr
  unfold waitsFor at hw
  rw [ho] at hw
  obtain ⟨d, hd, hb⟩ := Array.any_eq_true'.1 hw
  simp only [Bool.and_eq_true, beq_iff_eq] at hb
  have := hall d hd hb.1
  rwa [hb.2] at this
theorem ready_unlisted {i : Nat} {listed : Array Bool} (hr : i ∈ Region.ready .any ops listed) : listed.getD i false = false := by
  have h0 := (mem_ready.1 hr).1
  rcases Nat.lt_or_ge i listed.size with h | h
  · simpa [h] using h0
  · simp [Array.getElem?_eq_none h]
/-- What yields its value in every world that meets S, and is waited for by number e, may be taken first. -/
theorem late_first {i : Nat} {oi : Oper} {v : Value} (hi : ops[i]? = some oi) (hsel : ∀ (j : Nat) (o : Oper) cs b, ops[j]? = some o → o.op ≠ .select cs b)
    (hQ : ∀ c a w, Q (.panic c) (a.put oi.dst v) w → Q (.panic c) a w) (hw : waitsFor ops e i = true) (hne : i ≠ e) :
    ∀ (n : Nat) (listed : Array Bool) (a : Act) (w : World),
      (∀ j oj, ops[j]? = some oj → j ≠ i → listed.getD j true = false → (∀ d ∈ oj.after, Region.binds .any d = true → d.on ≠ i) → oi.apart ops oj = true) →
      i ∈ Region.ready .any ops listed → YieldsIf P ops S oi v a → S w →
      wpLate P ops Q S e n (listed.setIfInBounds i true) (a.put oi.dst v) w → wpLate P ops Q S e (n + 1) listed a w := by
  intro n
  induction n with
  | zero =>
    intro listed a w _ hr hy hSw H
    refine ⟨fun h => (by rw [h] at hr; cases hr), fun j hj => ?_⟩
    by_cases hji : j = i
    · subst hji
      refine hy.wpOp hi hSw ?_
      rw [if_neg hne]
      exact ⟨hSw, H⟩
    · have := ready_mono hj hji
      rw [H.1] at this
      cases this
  | succ n ih =>
    intro listed a w hfree hr hy hSw H
    refine ⟨fun h => (by rw [h] at hr; cases hr), fun j hj => ?_⟩
    by_cases hji : j = i
    · subst hji
      refine hy.wpOp hi hSw ?_
      rw [if_neg hne]
      exact ⟨hSw, H⟩
    · have hje : j ≠ e := fun he => by
        have h5 := waits_listed hw (he ▸ hj)
        rw [ready_unlisted hr] at h5
        cases h5
      have h1 := H.2 j (ready_mono hj hji)
      obtain ⟨hjun, oj, hoj, hall⟩ := mem_ready.1 hj
      have hnot : ∀ d ∈ oj.after, Region.binds .any d = true → d.on ≠ i := fun d hd hb heq => by
        have h1 := hall d hd hb
        rw [heq, ready_unlisted hr] at h1
        cases h1
      simp only [if_neg hje] at h1 ⊢
      have h2 := wpOp_putIf hoj (hfree j oj hoj hji hjun hnot) (fun cs b => hsel i oi cs b hi) (fun cs b => hsel j oj cs b hoj) hQ hy h1
      have hfree' : ∀ k ok, ops[k]? = some ok → k ≠ i → (listed.setIfInBounds j true).getD k true = false →
          (∀ d ∈ ok.after, Region.binds .any d = true → d.on ≠ i) → oi.apart ops ok = true := fun k ok hk hki hun hno => by
        refine hfree k ok hk hki ?_ hno
        by_cases hjk : j = k
        · subst hjk; exact hjun
        · rw [getD_set_ne true hjk] at hun; exact hun
      refine wpOp_mono (fun a' w' h3 => ⟨h3.2.1, ih (listed.setIfInBounds j true) a' w' hfree' (ready_mono hr (Ne.symm hji)) h3.1 h3.2.1 ?_⟩) h2
      rw [Array.setIfInBounds_comm _ _ (Ne.symm hji)] at h3
      exact h3.2.2
/-- What yields in whatever world may be taken first, too. -/
theorem late_pure {i : Nat} {oi : Oper} {v : Value} (hi : ops[i]? = some oi) (hsel : ∀ (j : Nat) (o : Oper) cs b, ops[j]? = some o → o.op ≠ .select cs b)
    (hQ : ∀ c a w, Q (.panic c) (a.put oi.dst v) w → Q (.panic c) a w) (hne : i ≠ e) :
    ∀ (n : Nat) (listed : Array Bool) (a : Act) (w : World),
      (∀ j oj, ops[j]? = some oj → j ≠ i → listed.getD j true = false → (∀ d ∈ oj.after, Region.binds .any d = true → d.on ≠ i) → oi.apart ops oj = true) →
      i ∈ Region.ready .any ops listed → Yields P ops oi v a → S w →
      wpLate P ops Q S e n (listed.setIfInBounds i true) (a.put oi.dst v) w → wpLate P ops Q S e (n + 1) listed a w := by
  intro n
  induction n with
  | zero =>
    intro listed a w _ hr hy hSw H
    refine ⟨fun h => (by rw [h] at hr; cases hr), fun j hj => ?_⟩
    by_cases hji : j = i
    · subst hji
      refine hy.wpOp hi ?_
      rw [if_neg hne]
      exact ⟨hSw, H⟩
    · have := ready_mono hj hji
      rw [H.1] at this
      cases this
  | succ n ih =>
    intro listed a w hfree hr hy hSw H
    refine ⟨fun h => (by rw [h] at hr; cases hr), fun j hj => ?_⟩
    by_cases hji : j = i
    · subst hji
      refine hy.wpOp hi ?_
      rw [if_neg hne]
      exact ⟨hSw, H⟩
    · have h1 := H.2 j (ready_mono hj hji)
      obtain ⟨hjun, oj, hoj, hall⟩ := mem_ready.1 hj
      have hnot : ∀ d ∈ oj.after, Region.binds .any d = true → d.on ≠ i := fun d hd hb heq => by
        have h1 := hall d hd hb
        rw [heq, ready_unlisted hr] at h1
        cases h1
      have hfree' : ∀ k ok, ops[k]? = some ok → k ≠ i → (listed.setIfInBounds j true).getD k true = false →
          (∀ d ∈ ok.after, Region.binds .any d = true → d.on ≠ i) → oi.apart ops ok = true := fun k ok hk hki hun hno => by
        refine hfree k ok hk hki ?_ hno
        by_cases hjk : j = k
        · subst hjk; exact hjun
        · rw [getD_set_ne true hjk] at hun; exact hun
      have h2 := wpOp_put hoj (hfree j oj hoj hji hjun hnot) (fun cs b => hsel i oi cs b hi) (fun cs b => hsel j oj cs b hoj) hQ hy h1
      refine wpOp_mono (fun a' w' h3 => ?_) h2
      obtain ⟨hy', h4⟩ := h3
      rw [Array.setIfInBounds_comm _ _ (Ne.symm hji)] at h4
      split at h4
      · rename_i hje
        rw [if_pos hje]
        exact wpAny_first hi hsel hQ n _ a' w' hfree' (ready_mono hr (Ne.symm hji)) hy' h4
      · rename_i hje
        rw [if_neg hje]
        exact ⟨h4.1, ih _ a' w' hfree' (ready_mono hr (Ne.symm hji)) hy' h4.1 h4.2⟩
/-- The walk of a plan, with the late one. -/
def wpPlanL (P : Program) (ops : Array Oper) (Q : Exit → Act → World → Prop) (S : World → Prop) (e : Nat) : List (Nat × Bool) → Act → World → Prop
  | [], _, _ => False
  | (i, true) :: r, a, w => ∃ o v, ops[i]? = some o ∧ ((waitsFor ops e i = true ∧ YieldsIf P ops S o v a) ∨ Yields P ops o v a) ∧ wpPlanL P ops Q S e r (a.put o.dst v) w
  | (i, false) :: r, a, w => if i = e then wpOp P ops Q i (fun a' w' => wpPlan P ops Q (fun _ => True) r a' w') a w else wpOp P ops Q i (fun a' w' => S w' ∧ wpPlanL P ops Q S e r a' w') a w
def checkLate (ops : Array Oper) (e : Nat) : List (Nat × Bool) → Array Bool → Bool
  | [], _ => false
  | (i, true) :: r, listed => i != e && Region.free .any ops listed i && (Region.ready .any ops listed).contains i && checkLate ops e r (listed.setIfInBounds i true)
  | (i, false) :: r, listed => (Region.ready .any ops listed == [i]) && if i = e then checkPlan ops r (listed.setIfInBounds i true) else checkLate ops e r (listed.setIfInBounds i true)
theorem wpPlanL_sound (hs : Region.noSelect ops = true) (hQ : ∀ c (a : Act) d v w, Q (.panic c) (a.put d v) w → Q (.panic c) a w) :
    ∀ (pl : List (Nat × Bool)) (listed : Array Bool) (a : Act) (w : World), checkLate ops e pl listed = true → S w → wpPlanL P ops Q S e pl a w → wpLate P ops Q S e pl.length listed a w
  | [], listed, a, w, hc, _, h => h.elim
  | (i, true) :: r, listed, a, w, hc, hS, ⟨o, v, hi, hy, h⟩ => by
    simp only [checkLate, Bool.and_eq_true, bne_iff_ne, ne_eq] at hc
    rcases hy with ⟨hw, hy⟩ | hy
    · exact late_first hi (Region.noSelect_spec hs) (fun c a w => hQ c a _ _ w) hw hc.1.1.1 r.length listed a w (Region.free_spec hi hc.1.1.2) (by simpa using hc.1.2) hy hS (wpPlanL_sound hs hQ r _ _ w hc.2 hS h)
    · exact late_pure hi (Region.noSelect_spec hs) (fun c a w => hQ c a _ _ w) hc.1.1.1 r.length listed a w (Region.free_spec hi hc.1.1.2) (by simpa using hc.1.2) hy hS (wpPlanL_sound hs hQ r _ _ w hc.2 hS h)
  | (i, false) :: r, listed, a, w, hc, hS, h => by
    simp only [checkLate, Bool.and_eq_true, beq_iff_eq] at hc
    refine ⟨fun h0 => absurd (hc.1 ▸ h0) (by simp), fun j hj => ?_⟩
    rw [hc.1] at hj
    obtain rfl := List.mem_singleton.1 hj
    by_cases hje : j = e
    · subst hje
      have hc2 := hc.2
      rw [if_pos rfl] at hc2
      simp only [wpPlanL, if_true] at h ⊢
      exact wpOp_mono (fun a' w' h' => wpAny_of_held _ _ _ _ (wpPlan_sound hs hQ r _ a' w' hc2 trivial h')) h
    · have hc2 := hc.2
      rw [if_neg hje] at hc2
      simp only [wpPlanL, if_neg hje] at h ⊢
      exact wpOp_mono (fun a' w' h' => ⟨h'.1, wpPlanL_sound hs hQ r _ a' w' hc2 h'.1 h'.2⟩) h
structure PQL (P : Program) (ops : Array Oper) (Q : Exit → Act → World → Prop) (S : World → Prop) (e : Nat) (r : List (Nat × Bool)) (a : Act) (w : World) : Prop where
  s : S w
  h : wpPlanL P ops Q S e r a w
def PQxL (P : Program) (ops : Array Oper) (Q : Exit → Act → World → Prop) (S : World → Prop) (e : Nat) (r : List (Nat × Bool)) : Exit → Act → World → Prop
  | .normal, a, w => PQL P ops Q S e r a w
  | x, a, w => Q x a w
theorem region_late {id : Nat} {a : Act} {w : World} (e : Nat) (pl : List (Nat × Bool)) (hm : P.follows .mixedOrders = true) (hc : (Region.noSelect ops && (pl.length == ops.size) && checkLate ops e pl (Array.replicate ops.size false)) = true)
    (hQ : ∀ c (a : Act) d v w, Q (.panic c) (a.put d v) w → Q (.panic c) a w) (hS : S w.drew) (h : wpPlanL P ops Q S e pl a w.drew) : (Code.region id ops true).wp P Q a w := by
  simp only [Bool.and_eq_true, beq_iff_eq] at hc
  refine wp_region_any hm ?_
  have := late_any _ _ _ _ (wpPlanL_sound hc.1.1 hQ pl _ a w.drew hc.2 hS h)
  rw [hc.1.2] at this
  exact this
theorem planForcedE {l : List Oper} {i : Nat} {r : List (Nat × Bool)} {a : Act} {w : World} (o : Oper) (q : List Oper) (hi : l.drop i = o :: q) (h : wpList P l.toArray (PQx P l.toArray Q (fun _ => True) r) [o] a w) : wpPlanL P l.toArray Q S i ((i, false) :: r) a w := by
  have h1 := planForced0 (S := fun _ => True) (drop_get hi) h
  unfold wpPlanL
  rw [if_pos rfl]
  exact wpOp_mono (fun a' w' h => h.2) h1
theorem planForcedNL {l : List Oper} {i : Nat} {r : List (Nat × Bool)} {a : Act} {w : World} (o : Oper) (q : List Oper) (hi : l.drop i = o :: q) (hie : i ≠ e)
    (h : wpList P l.toArray (PQxL P l.toArray Q S e r) [o] a w) : wpPlanL P l.toArray Q S e ((i, false) :: r) a w := by
  unfold wpPlanL wpOp
  rw [if_neg hie]
  simp only [drop_get hi]
  have h' := h
  unfold wpList at h'
  have hmono : ∀ {a w}, o.wp P a w (wpList P l.toArray (PQxL P l.toArray Q S e r) []) (PQxL P l.toArray Q S e r) → o.wp P a w (fun a' w' => S w' ∧ wpPlanL P l.toArray Q S e r a' w') Q := by
    intro a w h
    unfold Oper.wp at *
    generalize (execOp a.eval o).run P w = q at *
    cases q with
    | ok n w' =>
      cases n <;> simp only [Oper.upon] at h ⊢ <;>
        first
          | exact ⟨PQL.s h, PQL.h h⟩
          | exact Calls.mono h (fun e w'' he => by cases e <;> first | exact ⟨PQL.s he, PQL.h he⟩ | exact he)
          | exact Rows.mono h (fun _ _ he => ⟨PQL.s he, PQL.h he⟩)
    | halt x w' => cases x <;> simp only [Oper.upon] at h ⊢ <;> exact h
  split
  · rename_i hw
    rw [if_pos hw] at h'
    rcases h' with h' | ⟨h1, h2⟩
    · exact .inl (hmono h')
    · exact .inr ⟨h1, h2⟩
  · rename_i hw
    rw [if_neg hw] at h'
    exact ⟨PQL.s h', PQL.h h'⟩
theorem planTakeL {l : List Oper} {i : Nat} {r : List (Nat × Bool)} {a : Act} {w : World} (o : Oper) (q : List Oper) (v : Value) (hw : waitsFor l.toArray e i = true) (hi : l.drop i = o :: q) (hg : Region.wanted o (yielded l.toArray a.tmps) = true) (hy : ∀ w, S w → (execOp a.eval o).run P w = .ok (.value v) w)
    (h : wpPlanL P l.toArray Q S e r (a.put o.dst v) w) : wpPlanL P l.toArray Q S e ((i, true) :: r) a w := ⟨o, v, drop_get hi, .inl ⟨hw, .inl ⟨hg, hy⟩⟩, h⟩
theorem planPureL {l : List Oper} {i : Nat} {r : List (Nat × Bool)} {a : Act} {w : World} (o : Oper) (q : List Oper) (hi : l.drop i = o :: q) (hg : Region.wanted o (yielded l.toArray a.tmps) = true) (v : Value) (hv : ∀ w, (execOp a.eval o).run P w = .ok (.value v) w)
    (h : wpPlanL P l.toArray Q S e r (a.put o.dst v) w) : wpPlanL P l.toArray Q S e ((i, true) :: r) a w := ⟨o, v, drop_get hi, .inr (.inl ⟨hg, hv⟩), h⟩
theorem planSkipL {l : List Oper} {i : Nat} {r : List (Nat × Bool)} {a : Act} {w : World} (o : Oper) (q : List Oper) (hi : l.drop i = o :: q) (hg : Region.wanted o (yielded l.toArray a.tmps) = false)
    (h : wpPlanL P l.toArray Q S e r (a.put o.dst undef) w) : wpPlanL P l.toArray Q S e ((i, true) :: r) a w := ⟨o, undef, drop_get hi, .inr (.inr ⟨hg, rfl⟩), h⟩
theorem planLoadBlkL {w0 : World} {R : List Ent} {l : List Oper} {i : Nat} {r : List (Nat × Bool)} {a : Act} {w : World} (o : Oper) (q : List Oper) (hw : waitsFor l.toArray e i = true) (hi : l.drop i = o :: q) (hg : Region.wanted o (yielded l.toArray a.tmps) = true) (t : TypeId) (x : Operand) (ho : o.op = .load t x) (hs : scalar (P.underlying t) = true)
    (g off : Nat) (hx : a.eval x = .pointer (some ⟨g, off, none⟩)) (cs : List Value) (tt : TypeId) (hm : Ent.blk g cs tt ∈ R) (v : Value) (hv : cs[off]? = some v)
    (h : wpPlanL P l.toArray Q (fun w' => St w0 w' R) e r (a.put o.dst v) w) : wpPlanL P l.toArray Q (fun w' => St w0 w' R) e ((i, true) :: r) a w :=
  planTakeL o q v hw hi hg (fun w H => run_load_cell t x ho hs _ hx v (H.cellBlk hm hv)) h
theorem planLoadRdL {w0 : World} {R : List Ent} {l : List Oper} {i : Nat} {r : List (Nat × Bool)} {a : Act} {w : World} (o : Oper) (q : List Oper) (hw : waitsFor l.toArray e i = true) (hi : l.drop i = o :: q) (hg : Region.wanted o (yielded l.toArray a.tmps) = true) (t : TypeId) (x : Operand) (ho : o.op = .load t x) (hs : scalar (P.underlying t) = true)
    (A : Option Addr) (j : Nat) (hx : a.eval x = .pointer (some (ea A j))) (xs : List Value) (hr : ∀ w, St w0 w R → Rd w A xs) (v : Value) (hv : xs[j]? = some v)
    (h : wpPlanL P l.toArray Q (fun w' => St w0 w' R) e r (a.put o.dst v) w) : wpPlanL P l.toArray Q (fun w' => St w0 w' R) e ((i, true) :: r) a w :=
  planTakeL o q v hw hi hg (fun w H => run_load_cell t x ho hs _ hx v ((hr w H).get hv)) h
theorem planLoadOldL {w0 : World} {R : List Ent} {l : List Oper} {i : Nat} {r : List (Nat × Bool)} {a : Act} {w : World} (o : Oper) (q : List Oper) (hw : waitsFor l.toArray e i = true) (hi : l.drop i = o :: q) (hg : Region.wanted o (yielded l.toArray a.tmps) = true) (t : TypeId) (x : Operand) (ho : o.op = .load t x) (hs : scalar (P.underlying t) = true)
    (ad : Addr) (hx : a.eval x = .pointer (some ad)) (v : Value) (hv : w0.cell? ad = some v)
    (h : wpPlanL P l.toArray Q (fun w' => St w0 w' R) e r (a.put o.dst v) w) : wpPlanL P l.toArray Q (fun w' => St w0 w' R) e ((i, true) :: r) a w :=
  planTakeL o q v hw hi hg (fun w H => run_load_cell t x ho hs _ hx v (H.cellOld hv)) h
theorem planLoadAggL {w0 : World} {R : List Ent} {l : List Oper} {i : Nat} {r : List (Nat × Bool)} {a : Act} {w : World} (o : Oper) (q : List Oper) (hw : waitsFor l.toArray e i = true) (hi : l.drop i = o :: q) (hg : Region.wanted o (yielded l.toArray a.tmps) = true) (t : TypeId) (x : Operand) (ho : o.op = .load t x) (h1 : (P.underlying t).isSome = true) (h2 : scalar (P.underlying t) = false) (n : Nat) (hn : (P.info? t).map (·.size) = some n)
    (g off : Nat) (hx : a.eval x = .pointer (some ⟨g, off, none⟩)) (cs : List Value) (tt : TypeId) (hm : Ent.blk g cs tt ∈ R) (hle : off + n ≤ cs.length) (vs : List Value) (hvs : (cs.drop off).take n = vs)
    (h : wpPlanL P l.toArray Q (fun w' => St w0 w' R) e r (a.put o.dst (.agg vs.toArray)) w) : wpPlanL P l.toArray Q (fun w' => St w0 w' R) e ((i, true) :: r) a w :=
  planTakeL o q _ hw hi hg (fun w H => run_load_agg H t x ho h1 h2 n hn g off hx cs tt hm hle vs hvs) h
theorem planIndexL {w0 : World} {R : List Ent} {l : List Oper} {i : Nat} {r : List (Nat × Bool)} {a : Act} {w : World} (o : Oper) (q : List Oper) (hw : waitsFor l.toArray e i = true) (hi : l.drop i = o :: q) (hg : Region.wanted o (yielded l.toArray a.tmps) = true) (t e1 : TypeId) (x ix : Operand) (ho : o.op = .indexAddr t x ix) (ht : P.underlying t = some (.slice e1)) (hs : (P.info? e1).map (·.size) = some 1)
    (A : Option Addr) (n c : Nat) (hx : a.eval x = .slice A n c) (ik : IntKind) (ii : Int) (hii : a.eval ix = .int ik ii) (xs : List Value) (hr : ∀ w, St w0 w R → Rd w A xs) (h0 : 0 ≤ ii) (h1 : ii < (n : Int)) (hn : n ≤ xs.length) (j : Nat) (hj : ii.toNat = j)
    (h : wpPlanL P l.toArray Q (fun w' => St w0 w' R) e r (a.put o.dst (.pointer (some (ea A j)))) w) : wpPlanL P l.toArray Q (fun w' => St w0 w' R) e ((i, true) :: r) a w :=
  planTakeL o q _ hw hi hg (fun w H => run_index_rd t e1 x ix ho ht hs A n c hx ik ii hii xs (hr w H) h0 h1 hn j hj) h
theorem planIndexArrL {l : List Oper} {i : Nat} {r : List (Nat × Bool)} {a : Act} {w : World} (o : Oper) (q : List Oper) (hi : l.drop i = o :: q) (hg : Region.wanted o (yielded l.toArray a.tmps) = true) (t e1 : TypeId) (x ix : Operand) (ho : o.op = .indexAddr t x ix) (n : Nat) (ht : P.underlying t = some (.array n e1)) (hs : (P.info? e1).map (·.size) = some 1)
    (g off : Nat) (hx : a.eval x = .pointer (some ⟨g, off, none⟩)) (ik : IntKind) (ii : Int) (hii : a.eval ix = .int ik ii) (h0 : 0 ≤ ii) (h1 : ii < (n : Int)) (j m : Nat) (hj : ii.toNat = j) (hm : off + j = m)
    (h : wpPlanL P l.toArray Q S e r (a.put o.dst (.pointer (some ⟨g, m, none⟩))) w) : wpPlanL P l.toArray Q S e ((i, true) :: r) a w :=
  planPureL o q hi hg _ (fun w => run_index_arr t e1 x ix ho n ht hs g off hx ik ii hii h0 h1 j m hj hm) h

/-- a region whose late act writes what it reads -/
theorem region_late0 {id : Nat} {a : Act} {w0 w : World} {L : List Ent} (H : St w0 w L) (e : Nat) (pl : List (Nat × Bool)) (hm : P.follows .mixedOrders = true) (hc : (Region.noSelect ops && (pl.length == ops.size) && checkLate ops e pl (Array.replicate ops.size false)) = true)
    (hQ : ∀ c (a : Act) d v w, Q (.panic c) (a.put d v) w → Q (.panic c) a w) (h : St w0 w.drew L → wpPlanL P ops Q (fun w' => St w0 w' L) e pl a w.drew) : (Code.region id ops true).wp P Q a w :=
  region_late (S := fun w' => St w0 w' L) e pl hm hc hQ H.drew (h H.drew)
end
end Go.Proofs.YtcpfangcibilaaaDoor
