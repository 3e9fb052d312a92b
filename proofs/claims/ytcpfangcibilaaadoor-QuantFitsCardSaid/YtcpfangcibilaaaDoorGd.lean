/- A region that draws its order, by a plan: what only reads is taken first, what acts is forced. No condition. -/
import Derived.Test.YtcpfangcibilaaaDoorGc
import Derived.OrdersHeld
namespace Go.Proofs.YtcpfangcibilaaaDoor
set_option linter.unusedVariables false
set_option linter.unusedSimpArgs false
open Go.RowKit

section
variable {P : Program} {ops : Array Oper} {Q : Exit → Act → World → Prop} {S : World → Prop}
/-- The walk of a plan: (i, true): number i is taken first; (i, false): it is the only one that may come. -/
def wpPlan (P : Program) (ops : Array Oper) (Q : Exit → Act → World → Prop) (S : World → Prop) : List (Nat × Bool) → Act → World → Prop
  | [], a, w => Q .normal a w
  | (i, true) :: r, a, w => ∃ o v, ops[i]? = some o ∧ YieldsIf P ops S o v a ∧ wpPlan P ops Q S r (a.put o.dst v) w
  | (i, false) :: r, a, w => wpOp P ops Q i (fun a' w' => S w' ∧ wpPlan P ops Q S r a' w') a w
def checkPlan (ops : Array Oper) : List (Nat × Bool) → Array Bool → Bool
  | [], listed => (Region.ready .any ops listed).isEmpty
  | (i, true) :: r, listed => Region.free .any ops listed i && (Region.ready .any ops listed).contains i && checkPlan ops r (listed.setIfInBounds i true)
  | (i, false) :: r, listed => (Region.ready .any ops listed == [i]) && checkPlan ops r (listed.setIfInBounds i true)
theorem wpPlan_sound (hs : Region.noSelect ops = true) (hQ : ∀ c (a : Act) d v w, Q (.panic c) (a.put d v) w → Q (.panic c) a w) :
    ∀ (pl : List (Nat × Bool)) (listed : Array Bool) (a : Act) (w : World), checkPlan ops pl listed = true → S w → wpPlan P ops Q S pl a w → wpAnyH P .any ops Q S pl.length listed a w
  | [], listed, a, w, hc, _, h => ⟨by simpa [checkPlan] using hc, h⟩
  | (i, true) :: r, listed, a, w, hc, hS, ⟨o, v, hi, hy, h⟩ => by
    simp only [checkPlan, Bool.and_eq_true] at hc
    exact wpAnyH_take hi hs hc.1.1 hc.1.2 (fun c a w => hQ c a _ _ w) hy hS (wpPlan_sound hs hQ r _ _ w hc.2 hS h)
  | (i, false) :: r, listed, a, w, hc, hS, h => by
    simp only [checkPlan, Bool.and_eq_true, beq_iff_eq] at hc
    refine wpAnyH_all hc.1 (by simp) (fun j hj => ?_)
    rw [List.mem_singleton.1 hj]
    exact wpOp_mono (fun a' w' h' => ⟨h'.1, wpPlan_sound hs hQ r _ a' w' hc.2 h'.1 h'.2⟩) h
theorem region_plan {id : Nat} {a : Act} {w : World} (pl : List (Nat × Bool)) (hm : P.follows .mixedOrders = true) (hc : (Region.noSelect ops && (pl.length == ops.size) && checkPlan ops pl (Array.replicate ops.size false)) = true)
    (hQ : ∀ c (a : Act) d v w, Q (.panic c) (a.put d v) w → Q (.panic c) a w) (hS : S w.drew) (h : wpPlan P ops Q S pl a w.drew) : (Code.region id ops true).wp P Q a w := by
  simp only [Bool.and_eq_true, beq_iff_eq] at hc
  refine wp_region_held (S := S) hm ?_
  have := wpPlan_sound hc.1.1 hQ pl _ a w.drew hc.2 hS h
  rw [hc.1.2] at this
  exact this
/-- from here on: what is to be shown behind a forced one -/
structure PQ (P : Program) (ops : Array Oper) (Q : Exit → Act → World → Prop) (S : World → Prop) (r : List (Nat × Bool)) (a : Act) (w : World) : Prop where
  s : S w
  h : wpPlan P ops Q S r a w
def PQx (P : Program) (ops : Array Oper) (Q : Exit → Act → World → Prop) (S : World → Prop) (r : List (Nat × Bool)) : Exit → Act → World → Prop
  | .normal, a, w => PQ P ops Q S r a w
  | e, a, w => Q e a w
theorem letsOut_PQx {r : List (Nat × Bool)} (h : LetsOut (PQx P ops Q S r)) : LetsOut Q := h
theorem planForced0 {i : Nat} {r : List (Nat × Bool)} {o : Oper} {a : Act} {w : World} (hi : ops[i]? = some o) (h : wpList P ops (PQx P ops Q S r) [o] a w) : wpPlan P ops Q S ((i, false) :: r) a w := by
  unfold wpPlan wpOp
  simp only [hi]
  have h' : wpList P ops (PQx P ops Q S r) [o] a w := h
  unfold wpList at h'
  have hmono : ∀ {a w}, o.wp P a w (wpList P ops (PQx P ops Q S r) []) (PQx P ops Q S r) → o.wp P a w (fun a' w' => S w' ∧ wpPlan P ops Q S r a' w') Q := by
    intro a w h
    unfold Oper.wp at *
    generalize (execOp a.eval o).run P w = q at *
    cases q with
    | ok n w' =>
      cases n <;> simp only [Oper.upon] at h ⊢ <;>
        first
          | exact ⟨PQ.s h, PQ.h h⟩
          | exact Calls.mono h (fun e w'' he => by cases e <;> first | exact ⟨PQ.s he, PQ.h he⟩ | exact he)
          | exact Rows.mono h (fun _ _ he => ⟨PQ.s he, PQ.h he⟩)
    | halt x w' => cases x <;> simp only [Oper.upon] at h ⊢ <;> exact h
  split
  · rename_i hw
    rw [if_pos hw] at h'
    rcases h' with h' | ⟨h1, h2⟩
    · exact .inl (hmono h')
    · exact .inr ⟨h1, letsOut_PQx h2⟩
  · rename_i hw
    rw [if_neg hw] at h'
    exact ⟨PQ.s h', PQ.h h'⟩
theorem planTake0 {i : Nat} {r : List (Nat × Bool)} {o : Oper} {a : Act} {w : World} (v : Value) (hi : ops[i]? = some o) (hg : Region.wanted o (yielded ops a.tmps) = true) (hy : ∀ w, S w → (execOp a.eval o).run P w = .ok (.value v) w)
    (h : wpPlan P ops Q S r (a.put o.dst v) w) : wpPlan P ops Q S ((i, true) :: r) a w := ⟨o, v, hi, .inl ⟨hg, hy⟩, h⟩
theorem planSkip0 {i : Nat} {r : List (Nat × Bool)} {o : Oper} {a : Act} {w : World} (hi : ops[i]? = some o) (hg : Region.wanted o (yielded ops a.tmps) = false)
    (h : wpPlan P ops Q S r (a.put o.dst undef) w) : wpPlan P ops Q S ((i, true) :: r) a w := ⟨o, undef, hi, .inr ⟨hg, rfl⟩, h⟩
theorem planSkipF0 {i : Nat} {r : List (Nat × Bool)} {o : Oper} {a : Act} {w : World} (hi : ops[i]? = some o) (hg : Region.wanted o (yielded ops a.tmps) = false) (hS : S w)
    (h : wpPlan P ops Q S r (a.put o.dst undef) w) : wpPlan P ops Q S ((i, false) :: r) a w := by
  unfold wpPlan wpOp
  simp only [hi, hg]
  exact ⟨hS, h⟩
theorem drop_get {l : List Oper} {i : Nat} {o : Oper} {q : List Oper} (hi : l.drop i = o :: q) : l.toArray[i]? = some o := by
  have : (l.drop i)[0]? = some o := by rw [hi]; rfl
  rw [List.getElem?_drop] at this
  simpa using this
theorem planForced {l : List Oper} {i : Nat} {r : List (Nat × Bool)} {a : Act} {w : World} (o : Oper) (q : List Oper) (hi : l.drop i = o :: q) (h : wpList P l.toArray (PQx P l.toArray Q S r) [o] a w) : wpPlan P l.toArray Q S ((i, false) :: r) a w := planForced0 (drop_get hi) h
theorem planTake {l : List Oper} {i : Nat} {r : List (Nat × Bool)} {a : Act} {w : World} (o : Oper) (q : List Oper) (v : Value) (hi : l.drop i = o :: q) (hg : Region.wanted o (yielded l.toArray a.tmps) = true) (hy : ∀ w, S w → (execOp a.eval o).run P w = .ok (.value v) w)
    (h : wpPlan P l.toArray Q S r (a.put o.dst v) w) : wpPlan P l.toArray Q S ((i, true) :: r) a w := planTake0 v (drop_get hi) hg hy h
theorem planSkip {l : List Oper} {i : Nat} {r : List (Nat × Bool)} {a : Act} {w : World} (o : Oper) (q : List Oper) (hi : l.drop i = o :: q) (hg : Region.wanted o (yielded l.toArray a.tmps) = false)
    (h : wpPlan P l.toArray Q S r (a.put o.dst undef) w) : wpPlan P l.toArray Q S ((i, true) :: r) a w := planSkip0 (drop_get hi) hg h
theorem planSkipF {l : List Oper} {i : Nat} {r : List (Nat × Bool)} {a : Act} {w : World} (o : Oper) (q : List Oper) (hi : l.drop i = o :: q) (hg : Region.wanted o (yielded l.toArray a.tmps) = false) (hS : S w)
    (h : wpPlan P l.toArray Q S r (a.put o.dst undef) w) : wpPlan P l.toArray Q S ((i, false) :: r) a w := planSkipF0 (drop_get hi) hg hS h
theorem planDone {a : Act} {w : World} (h : Q .normal a w) : wpPlan P ops Q S [] a w := h
theorem run_load_cell {o : Oper} {a : Act} {w : World} (t : TypeId) (x : Operand) (ho : o.op = .load t x) (hs : scalar (P.underlying t) = true) (ad : Addr) (hx : a.eval x = .pointer (some ad)) (v : Value) (hv : w.cell? ad = some v) : (execOp a.eval o).run P w = .ok (.value v) w := by
  simp [execOp, ho, hx, Instr.loadAt, Instr.sureAddr, loadVar, Sem.run_bind, run_isAgg_no hs, hv]
theorem run_load_agg {o : Oper} {a : Act} {w0 w : World} {L : List Ent} (H : St w0 w L) (t : TypeId) (x : Operand) (ho : o.op = .load t x) (h1 : (P.underlying t).isSome = true) (h2 : scalar (P.underlying t) = false) (n : Nat) (hn : (P.info? t).map (·.size) = some n)
    (g off : Nat) (hx : a.eval x = .pointer (some ⟨g, off, none⟩)) (cs : List Value) (tt : TypeId) (hm : Ent.blk g cs tt ∈ L) (hle : off + n ≤ cs.length) (vs : List Value) (hvs : (cs.drop off).take n = vs) : (execOp a.eval o).run P w = .ok (.value (.agg vs.toArray)) w := by
  have hr := run_loadVar_part (P := P) (t := t) (w := w) (off := off) h1 h2 hn (H.blk hm) (by simpa using hle) vs (by simpa using hvs)
  simp [execOp, ho, hx, Instr.loadAt, Instr.sureAddr, hr]
theorem run_index_rd {o : Oper} {a : Act} {w : World} (t e : TypeId) (x ix : Operand) (ho : o.op = .indexAddr t x ix) (ht : P.underlying t = some (.slice e)) (hs : (P.info? e).map (·.size) = some 1)
    (A : Option Addr) (n c : Nat) (hx : a.eval x = .slice A n c) (ik : IntKind) (i : Int) (hi : a.eval ix = .int ik i) (xs : List Value) (hr : Rd w A xs) (h0 : 0 ≤ i) (h1 : i < (n : Int)) (hn : n ≤ xs.length)
    (j : Nat) (hj : i.toNat = j) : (execOp a.eval o).run P w = .ok (.value (.pointer (some (ea A j)))) w := by
  subst hj
  obtain ⟨b, q, rfl, _, _⟩ := hr (by omega)
  obtain ⟨f, hf, hz⟩ := Option.map_eq_some_iff.1 hs
  simp [execOp, ho, hx, hi, Instr.indexAt, asIntOf, run_underlying ht, sizeOf, typeInfo, hf, hz, h0, h1, add_ea, ea]
theorem planLoadBlk {w0 : World} {R : List Ent} {l : List Oper} {i : Nat} {r : List (Nat × Bool)} {a : Act} {w : World} (o : Oper) (q : List Oper) (hi : l.drop i = o :: q) (hg : Region.wanted o (yielded l.toArray a.tmps) = true) (t : TypeId) (x : Operand) (ho : o.op = .load t x) (hs : scalar (P.underlying t) = true)
    (g off : Nat) (hx : a.eval x = .pointer (some ⟨g, off, none⟩)) (cs : List Value) (tt : TypeId) (hm : Ent.blk g cs tt ∈ R) (v : Value) (hv : cs[off]? = some v)
    (h : wpPlan P l.toArray Q (fun w' => St w0 w' R) r (a.put o.dst v) w) : wpPlan P l.toArray Q (fun w' => St w0 w' R) ((i, true) :: r) a w :=
  planTake o q v hi hg (fun w H => run_load_cell t x ho hs _ hx v (H.cellBlk hm hv)) h
theorem planLoadRd {w0 : World} {R : List Ent} {l : List Oper} {i : Nat} {r : List (Nat × Bool)} {a : Act} {w : World} (o : Oper) (q : List Oper) (hi : l.drop i = o :: q) (hg : Region.wanted o (yielded l.toArray a.tmps) = true) (t : TypeId) (x : Operand) (ho : o.op = .load t x) (hs : scalar (P.underlying t) = true)
    (A : Option Addr) (j : Nat) (hx : a.eval x = .pointer (some (ea A j))) (xs : List Value) (hr : ∀ w, St w0 w R → Rd w A xs) (v : Value) (hv : xs[j]? = some v)
    (h : wpPlan P l.toArray Q (fun w' => St w0 w' R) r (a.put o.dst v) w) : wpPlan P l.toArray Q (fun w' => St w0 w' R) ((i, true) :: r) a w :=
  planTake o q v hi hg (fun w H => run_load_cell t x ho hs _ hx v ((hr w H).get hv)) h
theorem planLoadOld {w0 : World} {R : List Ent} {l : List Oper} {i : Nat} {r : List (Nat × Bool)} {a : Act} {w : World} (o : Oper) (q : List Oper) (hi : l.drop i = o :: q) (hg : Region.wanted o (yielded l.toArray a.tmps) = true) (t : TypeId) (x : Operand) (ho : o.op = .load t x) (hs : scalar (P.underlying t) = true)
    (ad : Addr) (hx : a.eval x = .pointer (some ad)) (v : Value) (hv : w0.cell? ad = some v)
    (h : wpPlan P l.toArray Q (fun w' => St w0 w' R) r (a.put o.dst v) w) : wpPlan P l.toArray Q (fun w' => St w0 w' R) ((i, true) :: r) a w :=
  planTake o q v hi hg (fun w H => run_load_cell t x ho hs _ hx v (H.cellOld hv)) h
theorem planLoadAgg {w0 : World} {R : List Ent} {l : List Oper} {i : Nat} {r : List (Nat × Bool)} {a : Act} {w : World} (o : Oper) (q : List Oper) (hi : l.drop i = o :: q) (hg : Region.wanted o (yielded l.toArray a.tmps) = true) (t : TypeId) (x : Operand) (ho : o.op = .load t x) (h1 : (P.underlying t).isSome = true) (h2 : scalar (P.underlying t) = false) (n : Nat) (hn : (P.info? t).map (·.size) = some n)
    (g off : Nat) (hx : a.eval x = .pointer (some ⟨g, off, none⟩)) (cs : List Value) (tt : TypeId) (hm : Ent.blk g cs tt ∈ R) (hle : off + n ≤ cs.length) (vs : List Value) (hvs : (cs.drop off).take n = vs)
    (h : wpPlan P l.toArray Q (fun w' => St w0 w' R) r (a.put o.dst (.agg vs.toArray)) w) : wpPlan P l.toArray Q (fun w' => St w0 w' R) ((i, true) :: r) a w :=
  planTake o q _ hi hg (fun w H => run_load_agg H t x ho h1 h2 n hn g off hx cs tt hm hle vs hvs) h
theorem planIndex {w0 : World} {R : List Ent} {l : List Oper} {i : Nat} {r : List (Nat × Bool)} {a : Act} {w : World} (o : Oper) (q : List Oper) (hi : l.drop i = o :: q) (hg : Region.wanted o (yielded l.toArray a.tmps) = true) (t e : TypeId) (x ix : Operand) (ho : o.op = .indexAddr t x ix) (ht : P.underlying t = some (.slice e)) (hs : (P.info? e).map (·.size) = some 1)
    (A : Option Addr) (n c : Nat) (hx : a.eval x = .slice A n c) (ik : IntKind) (ii : Int) (hii : a.eval ix = .int ik ii) (xs : List Value) (hr : ∀ w, St w0 w R → Rd w A xs) (h0 : 0 ≤ ii) (h1 : ii < (n : Int)) (hn : n ≤ xs.length) (j : Nat) (hj : ii.toNat = j)
    (h : wpPlan P l.toArray Q (fun w' => St w0 w' R) r (a.put o.dst (.pointer (some (ea A j)))) w) : wpPlan P l.toArray Q (fun w' => St w0 w' R) ((i, true) :: r) a w :=
  planTake o q _ hi hg (fun w H => run_index_rd t e x ix ho ht hs A n c hx ik ii hii xs (hr w H) h0 h1 hn j hj) h
theorem planIndexArr {l : List Oper} {i : Nat} {r : List (Nat × Bool)} {a : Act} {w : World} (o : Oper) (q : List Oper) (hi : l.drop i = o :: q) (hg : Region.wanted o (yielded l.toArray a.tmps) = true) (t e : TypeId) (x ix : Operand) (ho : o.op = .indexAddr t x ix) (n : Nat) (ht : P.underlying t = some (.array n e)) (hs : (P.info? e).map (·.size) = some 1)
    (g off : Nat) (hx : a.eval x = .pointer (some ⟨g, off, none⟩)) (ik : IntKind) (ii : Int) (hii : a.eval ix = .int ik ii) (h0 : 0 ≤ ii) (h1 : ii < (n : Int)) (j m : Nat) (hj : ii.toNat = j) (hm : off + j = m)
    (h : wpPlan P l.toArray Q S r (a.put o.dst (.pointer (some ⟨g, m, none⟩))) w) : wpPlan P l.toArray Q S ((i, true) :: r) a w :=
  planTake o q _ hi hg (fun w _ => run_index_arr t e x ix ho n ht hs g off hx ik ii hii h0 h1 j m hj hm) h
theorem planPure {l : List Oper} {i : Nat} {r : List (Nat × Bool)} {a : Act} {w : World} (o : Oper) (q : List Oper) (hi : l.drop i = o :: q) (hg : Region.wanted o (yielded l.toArray a.tmps) = true) (v : Value) (hv : ∀ w, (execOp a.eval o).run P w = .ok (.value v) w)
    (h : wpPlan P l.toArray Q S r (a.put o.dst v) w) : wpPlan P l.toArray Q S ((i, true) :: r) a w := planTake o q v hi hg (fun w _ => hv w) h
theorem Pull.sublist {e : Ent} {L M : List Ent} (h : Pull e L M) : M.Sublist L := by
  induction h with
  | head => exact List.sublist_cons_self ..
  | tail _ ih => exact ih.cons_cons _
end
/-- What a function hands back. -/
inductive Res (P : Program) (w : World) (tmps : Array Value) : List ResultVar → List Value → Prop where
  | nil : Res P w tmps [] []
  | tmp {t : Tmp} {v : Value} {r : List ResultVar} {vs : List Value} (hv : tmps.getD t undef = v) (h : Res P w tmps r vs) : Res P w tmps (.tmp t :: r) (v :: vs)
  | cell {t : Tmp} {ty : TypeId} {ad : Addr} {v : Value} {r : List ResultVar} {vs : List Value} (hp : tmps.getD t undef = .pointer (some ad)) (hv : (loadVar ty ad).run P w = .ok v w) (h : Res P w tmps r vs) : Res P w tmps (.cell t ty :: r) (v :: vs)
def packV : List Value → Value
  | [v] => v
  | vs => .tuple vs.toArray
def resF (tmps : Array Value) : ResultVar → Sem Value := fun
    | .tmp t => pure (tmps.getD t undef)
    | .cell a t => do loadVar t (← asAddr (tmps.getD a undef))
theorem resF_cell {P : Program} {w : World} {tmps : Array Value} {t : Tmp} {ty : TypeId} {ad : Addr} {v : Value} (hp : tmps.getD t undef = .pointer (some ad)) (hv : (loadVar ty ad).run P w = .ok v w) : (resF tmps (.cell t ty)).run P w = .ok v w := by
  unfold resF
  simp only [hp, Sem.run_bind]
  exact hv
theorem results_of {P : Program} {fn : Func} {w : World} {tmps : Array Value} {rs : List ResultVar} {vs : List Value} (hq : fn.results = rs.toArray) (h : Res P w tmps rs vs) : (results fn tmps).run P w = .ok (packV vs) w := by
  have key : ∀ {rs : List ResultVar} {vs : List Value}, Res P w tmps rs vs → (List.mapM (resF tmps) rs).run P w = .ok vs w := by
    intro rs vs h
    induction h with
    | nil => rfl
    | tmp hv _ ih =>
      rw [List.mapM_cons]
      subst hv
      rw [Sem.run_bind, show ∀ t, (resF tmps (.tmp t)).run P w = .ok (tmps.getD t undef) w from fun _ => rfl]
      simp only [Sem.run_bind, Result.andThen_ok, ih]
      rfl
    | cell hp hl _ ih =>
      rw [List.mapM_cons]
      simp only [Sem.run_bind, resF_cell hp hl, Result.andThen_ok, ih]
      rfl
  have e : results fn tmps = (do let vs ← fn.results.mapM (resF tmps); pure (if h : vs.size = 1 then vs[0] else .tuple vs)) := rfl
  rw [e, hq, List.mapM_toArray]
  have hk := key h
  have h2 : (List.toArray <$> List.mapM (resF tmps) rs : Sem (Array Value)).run P w = .ok vs.toArray w := by
    rw [show (List.toArray <$> List.mapM (resF tmps) rs : Sem (Array Value)) = (List.mapM (resF tmps) rs >>= fun x => pure x.toArray) from rfl, Sem.run_bind, hk]
    rfl
  rw [Sem.run_bind, h2]
  show Result.ok _ w = _
  congr 1
  match vs with
  | [] => rfl
  | [v] => rfl
  | _ :: _ :: _ => simp [packV]
theorem ret_by {P : Program} {fn : Func} {R : Ending → World → Prop} {a : Act} {w : World} {rs : List ResultVar} {vs : List Value} (hq : fn.results = rs.toArray) (hres : Res P w a.tmps rs vs) (hd : a.defers = []) (hR : R (.returned (packV vs)) w) : bodyPost P fn R .ret a w :=
  bodyPost_ret (results_of hq hres) hd hR
theorem resAgg {P : Program} {w0 w : World} {L : List Ent} {tmps : Array Value} {t : Tmp} {ty : TypeId} {r : List ResultVar} {us : List Value} (H : St w0 w L) (g off : Nat) (hp : tmps.getD t undef = .pointer (some ⟨g, off, none⟩)) (h1 : (P.underlying ty).isSome = true) (h2 : scalar (P.underlying ty) = false) (n : Nat) (hn : (P.info? ty).map (·.size) = some n)
    (cs : List Value) (tt : TypeId) (hm : Ent.blk g cs tt ∈ L) (hle : off + n ≤ cs.length) (vs : List Value) (hvs : (cs.drop off).take n = vs) (h : Res P w tmps r us) : Res P w tmps (.cell t ty :: r) (.agg vs.toArray :: us) :=
  .cell hp (run_loadVar_part (P := P) (t := ty) (w := w) (off := off) h1 h2 hn (H.blk hm) (by simpa using hle) vs (by simpa using hvs)) h
theorem resCell {P : Program} {w : World} {tmps : Array Value} {t : Tmp} {ty : TypeId} {r : List ResultVar} {us : List Value} (ad : Addr) (hp : tmps.getD t undef = .pointer (some ad)) (hs : scalar (P.underlying ty) = true) (v : Value) (hv : w.cell? ad = some v) (h : Res P w tmps r us) : Res P w tmps (.cell t ty :: r) (v :: us) :=
  .cell hp (by simp [loadVar, Sem.run_bind, run_isAgg_no hs, hv]) h
theorem ret_c {P : Program} {fn : Func} {R : Ending → World → Prop} {a : Act} {w0 w : World} {L : List Ent} (H : St w0 w L) (p : Tmp) (ty : TypeId)  (hq : fn.results = #[.cell p ty]) (hd : a.defers = []) (g off : Nat) (hp : a.tmps.getD p undef = .pointer (some ⟨g, off, none⟩)) (h1 : (P.underlying ty).isSome = true) (h2 : scalar (P.underlying ty) = false) (n : Nat) (hn : (P.info? ty).map (·.size) = some n) (cs : List Value) (tt : TypeId) (hm : Ent.blk g cs tt ∈ L) (hle : off + n ≤ cs.length) (vs : List Value) (hvs : (cs.drop off).take n = vs)  (hR : R (.returned (.agg vs.toArray)) w) : bodyPost P fn R .ret a w :=
  ret_by (rs := [.cell p ty]) hq (resAgg H g off hp h1 h2 n hn cs tt hm hle vs hvs .nil) hd hR
theorem ret_ct {P : Program} {fn : Func} {R : Ending → World → Prop} {a : Act} {w0 w : World} {L : List Ent} (H : St w0 w L) (p : Tmp) (ty : TypeId) (u0 : Tmp) (hq : fn.results = #[.cell p ty, .tmp u0]) (hd : a.defers = []) (g off : Nat) (hp : a.tmps.getD p undef = .pointer (some ⟨g, off, none⟩)) (h1 : (P.underlying ty).isSome = true) (h2 : scalar (P.underlying ty) = false) (n : Nat) (hn : (P.info? ty).map (·.size) = some n) (cs : List Value) (tt : TypeId) (hm : Ent.blk g cs tt ∈ L) (hle : off + n ≤ cs.length) (vs : List Value) (hvs : (cs.drop off).take n = vs) (x0 : Value) (e0 : a.tmps.getD u0 undef = x0) (hR : R (.returned (.tuple #[.agg vs.toArray, x0])) w) : bodyPost P fn R .ret a w :=
  ret_by (rs := [.cell p ty, .tmp u0]) hq (resAgg H g off hp h1 h2 n hn cs tt hm hle vs hvs (.tmp e0 .nil)) hd hR
theorem ret_ctt {P : Program} {fn : Func} {R : Ending → World → Prop} {a : Act} {w0 w : World} {L : List Ent} (H : St w0 w L) (p : Tmp) (ty : TypeId) (u0 : Tmp) (u1 : Tmp) (hq : fn.results = #[.cell p ty, .tmp u0, .tmp u1]) (hd : a.defers = []) (g off : Nat) (hp : a.tmps.getD p undef = .pointer (some ⟨g, off, none⟩)) (h1 : (P.underlying ty).isSome = true) (h2 : scalar (P.underlying ty) = false) (n : Nat) (hn : (P.info? ty).map (·.size) = some n) (cs : List Value) (tt : TypeId) (hm : Ent.blk g cs tt ∈ L) (hle : off + n ≤ cs.length) (vs : List Value) (hvs : (cs.drop off).take n = vs) (x0 : Value) (e0 : a.tmps.getD u0 undef = x0) (x1 : Value) (e1 : a.tmps.getD u1 undef = x1) (hR : R (.returned (.tuple #[.agg vs.toArray, x0, x1])) w) : bodyPost P fn R .ret a w :=
  ret_by (rs := [.cell p ty, .tmp u0, .tmp u1]) hq (resAgg H g off hp h1 h2 n hn cs tt hm hle vs hvs (.tmp e0 (.tmp e1 .nil))) hd hR
/-- a region, where one block of the call's own is written -/
theorem region_plan1 {P : Program} {ops : Array Oper} {Q : Exit → Act → World → Prop} {id : Nat} {a : Act} {w0 w : World} {L : List Ent} (H : St w0 w L) (pl : List (Nat × Bool)) (hm : P.follows .mixedOrders = true) (hc : (Region.noSelect ops && (pl.length == ops.size) && checkPlan ops pl (Array.replicate ops.size false)) = true)
    (hQ : ∀ c (a : Act) d v w, Q (.panic c) (a.put d v) w → Q (.panic c) a w) (p : Operand) (g off : Nat) (hx : a.eval p = .pointer (some ⟨g, off, none⟩)) (cs : List Value) (t : TypeId) (R : List Ent) (hp : Pull (.blk g cs t) L R)
    (h : St w0 w.drew L → wpPlan P ops Q (fun w' => St w0 w' R) pl a w.drew) : (Code.region id ops true).wp P Q a w :=
  region_plan (S := fun w' => St w0 w' R) pl hm hc hQ (H.drew.sub hp.sublist) (h H.drew)
/-- a region, where nothing is written -/
theorem region_plan0 {P : Program} {ops : Array Oper} {Q : Exit → Act → World → Prop} {id : Nat} {a : Act} {w0 w : World} {L : List Ent} (H : St w0 w L) (pl : List (Nat × Bool)) (hm : P.follows .mixedOrders = true) (hc : (Region.noSelect ops && (pl.length == ops.size) && checkPlan ops pl (Array.replicate ops.size false)) = true)
    (hQ : ∀ c (a : Act) d v w, Q (.panic c) (a.put d v) w → Q (.panic c) a w) (h : St w0 w.drew L → wpPlan P ops Q (fun w' => St w0 w' L) pl a w.drew) : (Code.region id ops true).wp P Q a w :=
  region_plan (S := fun w' => St w0 w' L) pl hm hc hQ H.drew (h H.drew)
/-- a region, where an entry is written -/
theorem region_planE {P : Program} {ops : Array Oper} {Q : Exit → Act → World → Prop} {id : Nat} {a : Act} {w0 w : World} {L : List Ent} (H : St w0 w L) (pl : List (Nat × Bool)) (hm : P.follows .mixedOrders = true) (hc : (Region.noSelect ops && (pl.length == ops.size) && checkPlan ops pl (Array.replicate ops.size false)) = true)
    (hQ : ∀ c (a : Act) d v w, Q (.panic c) (a.put d v) w → Q (.panic c) a w) (R : List Ent) (hp : R.Sublist L) (h : St w0 w.drew L → wpPlan P ops Q (fun w' => St w0 w' R) pl a w.drew) : (Code.region id ops true).wp P Q a w :=
  region_plan (S := fun w' => St w0 w' R) pl hm hc hQ (H.drew.sub hp) (h H.drew)
theorem wpGate {P : Program} {ops : Array Oper} {Q : Exit → Act → World → Prop} {o : Oper} {rest : List Oper} {a : Act} {w : World} (h : wpList P ops Q (o :: rest) a w) : wpList P ops Q (o :: rest) a w := h
/-- The plan of a region (to be printed). -/
def takeable (o : Oper) : Bool := match o.op with
  | .alloc _ | .box .. | .buildSlice .. | .store .. | .makeSlice .. | .makeMap .. | .makeFunc .. | .mapUpdate .. | .insert .. | .mapEntry .. | .entryStore .. | .defer _ | .panic _ => false
  | .call { callee := .builtin b, .. } => match b with | .len | .cap | .min | .max => true | _ => false
  | .call _ => false
  | _ => true
def autoPlan (ops : Array Oper) : Nat → Array Bool → List (Nat × Bool) → List (Nat × Bool) × List Nat
  | 0, listed, acc => (acc.reverse, Region.ready .any ops listed)
  | n + 1, listed, acc =>
    let r := Region.ready .any ops listed
    match r.find? (fun i => ((ops[i]?).map takeable).getD false && Region.free .any ops listed i) with
    | some i => autoPlan ops n (listed.setIfInBounds i true) ((i, true) :: acc)
    | none => match r with
      | [i] => autoPlan ops n (listed.setIfInBounds i true) ((i, false) :: acc)
      | _ => (acc.reverse, r)
def autoPlan0 (ops : Array Oper) : List (Nat × Bool) × List Nat := autoPlan ops ops.size (Array.replicate ops.size false) []
end Go.Proofs.YtcpfangcibilaaaDoor
