/- Memory of a call's own as one list of entries: what it holds, and how each operation turns it. No condition. -/
import Derived.Test.YtcpfangcibilaaaDoorBa
namespace Go.Proofs.YtcpfangcibilaaaDoor
set_option linter.unusedVariables false
set_option linter.unusedSimpArgs false
open Go.RowKit

/-- Where the i-th cell behind a slice's address lies. -/
def ea (A : Option Addr) (i : Nat) : Addr := match A with | some a => ⟨a.block, a.off + i, none⟩ | none => ⟨0, 0, none⟩
theorem ea_some (b o i : Nat) : ea (some ⟨b, o, none⟩) i = ⟨b, o + i, none⟩ := rfl
/-- A slice's address, some elements on. -/
def sub (A : Option Addr) (i : Nat) : Option Addr := A.map fun a => ⟨a.block, a.off + i, none⟩

/-- Cells that are read, behind a slice's address. -/
def Rd (w : World) (A : Option Addr) (xs : List Value) : Prop :=
  0 < xs.length → ∃ b o, A = some ⟨b, o, none⟩ ∧ b < w.heap.size ∧ ∀ (i : Nat) v, xs[i]? = some v → w.cell? ⟨b, o + i, none⟩ = some v
/-- A row of the call's own: its elements have one cell each. -/
def RowAt (w : World) (base : Nat) (e : TypeId) (A : Option Addr) (xs : List Value) (c : Nat) : Prop :=
  (A = none ∧ xs = [] ∧ c = 0) ∨ ∃ g o cur, A = some ⟨g, o, none⟩ ∧ base ≤ g ∧ w.heap[g]? = some (.cells cur e (0, 0)) ∧ xs.length ≤ c ∧ c ≤ maxLen ∧ o + c ≤ cur.size ∧ (cur.toList.drop o).take xs.length = xs
def blockOf (A : Option Addr) : Option Nat := A.map (·.block)

inductive Ent where
  | blk (g : Nat) (cs : List Value) (t : TypeId)
  | own (A : Option Addr) (xs : List Value) (c : Nat) (e : TypeId)
  | ro (A : Option Addr) (xs : List Value)
/-- The block that an entry may write. -/
def Ent.wr : Ent → Option Nat
  | .blk g _ _ => some g
  | .own A _ _ _ => blockOf A
  | .ro _ _ => none
/-- The block that an entry reads. -/
def Ent.rd : Ent → Option Nat
  | .blk g _ _ => some g
  | .own A _ _ _ => blockOf A
  | .ro A xs => if xs = [] then none else blockOf A
def Ent.holds (base : Nat) (w : World) : Ent → Prop
  | .blk g cs t => base ≤ g ∧ Blk w g cs.toArray t
  | .own A xs c e => RowAt w base e A xs c
  | .ro A xs => Rd w A xs
def Sep (a b : Ent) : Prop := (∀ k, a.wr = some k → b.rd ≠ some k) ∧ ∀ k, b.wr = some k → a.rd ≠ some k

/-- From the world w0 on: what was there is as it was; and what the entries say. -/
structure St (w0 w : World) (L : List Ent) : Prop where
  below : Below w0.heap.size w0 w
  holds : ∀ e, e ∈ L → e.holds w0.heap.size w
  sep : L.Pairwise Sep

theorem Sep.symm {a b : Ent} (h : Sep a b) : Sep b a := ⟨h.2, h.1⟩
theorem Ent.wr_rd {e : Ent} {k : Nat} (h : e.wr = some k) : e.rd = some k := by
  cases e <;> simp_all [Ent.wr, Ent.rd]
theorem RowAt.lt {w : World} {base : Nat} {e : TypeId} {A : Option Addr} {xs : List Value} {c k : Nat} (h : RowAt w base e A xs c) (hk : blockOf A = some k) : base ≤ k ∧ k < w.heap.size := by
  rcases h with ⟨rfl, _⟩ | ⟨g, o, cur, rfl, hb, hh, _⟩
  · cases hk
  · simp [blockOf] at hk; subst hk
    exact ⟨hb, (Array.getElem?_eq_some_iff.1 hh).1⟩
theorem Ent.wr_ge {e : Ent} {base : Nat} {w : World} (h : e.holds base w) {k : Nat} (hk : e.wr = some k) : base ≤ k := by
  cases e with
  | blk g cs t => simp [Ent.wr] at hk; subst hk; exact h.1
  | own A xs c e => exact (RowAt.lt h hk).1
  | ro A xs => cases hk
theorem Ent.rd_lt {e : Ent} {base : Nat} {w : World} (h : e.holds base w) {k : Nat} (hk : e.rd = some k) : k < w.heap.size := by
  cases e with
  | blk g cs t => simp [Ent.rd] at hk; subst hk; exact h.2.lt
  | own A xs c e => exact (RowAt.lt h hk).2
  | ro A xs =>
    simp only [Ent.rd] at hk
    split at hk
    · cases hk
    · rename_i hne
      obtain ⟨b, o, rfl, hb, _⟩ := h (List.length_pos_iff.2 hne)
      simp [blockOf] at hk; omega
/-- An entry holds in every world that left its block alone. -/
theorem Ent.keep {e : Ent} {base : Nat} {w w' : World} (h : e.holds base w) (hs : w.heap.size ≤ w'.heap.size) (hb : ∀ k, e.rd = some k → w'.heap[k]? = w.heap[k]?) : e.holds base w' := by
  cases e with
  | blk g cs t => exact ⟨h.1, (hb g rfl).trans h.2⟩
  | own A xs c e =>
    rcases h with h | ⟨g, o, cur, rfl, h1, h2, h3⟩
    · exact .inl h
    · exact .inr ⟨g, o, cur, rfl, h1, (hb g rfl).trans h2, h3⟩
  | ro A xs =>
    intro hp
    obtain ⟨b, o, rfl, h1, h2⟩ := h hp
    refine ⟨b, o, rfl, by omega, fun i v hv => ?_⟩
    have := hb b (by simp [Ent.rd, List.ne_nil_of_length_pos hp, blockOf])
    rw [World.cell?_of_block (w := w) (a := ⟨b, o + i, none⟩) this]
    exact h2 i v hv

theorem St.start (w : World) : St w w [] := ⟨Below.refl _ _, (fun _ h => by cases h), .nil⟩
theorem St.ofBelow {w w' : World} (h : Below w.heap.size w w') : St w w' [] := ⟨h, (fun _ h => by cases h), .nil⟩
/-- Something to read, that is nothing of the call's own. -/
theorem St.addRo {w0 w : World} {L : List Ent} (H : St w0 w L) {A : Option Addr} {xs : List Value} (h : Rd w A xs) (hn : ∀ k, (Ent.ro A xs).rd = some k → ∀ e ∈ L, e.wr ≠ some k) : St w0 w (.ro A xs :: L) := by
  refine ⟨H.below, fun e he => ?_, .cons (fun e he => ⟨(fun k hk => by cases hk), fun k hk hk' => hn k hk' e he hk⟩) H.sep⟩
  rcases List.mem_cons.1 he with rfl | he
  · exact h
  · exact H.holds e he
theorem St.ro1 {w : World} {A : Option Addr} {xs : List Value} (h : Rd w A xs) : St w w [.ro A xs] := (St.start w).addRo h (fun _ _ _ h => by cases h)
theorem St.ro2 {w : World} {A B : Option Addr} {xs ys : List Value} (h1 : Rd w A xs) (h2 : Rd w B ys) : St w w [.ro A xs, .ro B ys] := (St.ro1 h2).addRo h1 (fun _ _ e he => by simp at he; subst he; intro h; cases h)
theorem St.ro3 {w : World} {A B C : Option Addr} {xs ys zs : List Value} (h1 : Rd w A xs) (h2 : Rd w B ys) (h3 : Rd w C zs) : St w w [.ro A xs, .ro B ys, .ro C zs] := (St.ro2 h2 h3).addRo h1 (fun _ _ e he => by simp at he; rcases he with rfl | rfl <;> (intro h; cases h))
theorem St.ro4 {w : World} {A B C D : Option Addr} {xs ys zs us : List Value} (h1 : Rd w A xs) (h2 : Rd w B ys) (h3 : Rd w C zs) (h4 : Rd w D us) : St w w [.ro A xs, .ro B ys, .ro C zs, .ro D us] := (St.ro3 h2 h3 h4).addRo h1 (fun _ _ e he => by simp at he; rcases he with rfl | rfl | rfl <;> (intro h; cases h))
theorem St.drew {w0 w : World} {L : List Ent} (H : St w0 w L) : St w0 w.drew L := ⟨H.below.drew, fun e he => Ent.keep (H.holds e he) (Nat.le_refl _) (fun _ _ => rfl), H.sep⟩
theorem St.drewN {w0 w : World} {L : List Ent} (H : St w0 w L) (n : Nat) : St w0 (w.drewN n) L := ⟨⟨H.below.os, H.below.tape, H.below.output, H.below.size, H.below.block⟩, fun e he => Ent.keep (H.holds e he) (Nat.le_refl _) (fun _ _ => rfl), H.sep⟩
theorem St.sub {w0 w : World} {L M : List Ent} (H : St w0 w L) (h : M.Sublist L) : St w0 w M := ⟨H.below, fun e he => H.holds e (h.subset he), H.sep.sublist h⟩
theorem St.perm {w0 w : World} {L M : List Ent} (H : St w0 w L) (h : L.Perm M) : St w0 w M := ⟨H.below, fun e he => H.holds e (h.symm.subset he), h.pairwise H.sep (fun h => h.symm)⟩
theorem St.app {w0 w1 w2 : World} {L : List Ent} (H : St w0 w1 L) (hb : Below w1.heap.size w1 w2) : St w0 w2 L :=
  ⟨below_step H.below hb, fun e he => Ent.keep (H.holds e he) hb.size (fun k hk => hb.block k (Ent.rd_lt (H.holds e he) hk)), H.sep⟩
/-- What a callee made, beside what was there. -/
theorem St.call {w0 w1 w2 : World} {L M : List Ent} (H : St w0 w1 L) (K : St w1 w2 M) (hM : ∀ e ∈ M, e.rd = e.wr) : St w0 w2 (M ++ L) := by
  have H' := H.app K.below
  refine ⟨H'.below, fun e he => ?_, List.pairwise_append.2 ⟨K.sep, H'.sep, fun a ha b hb => ⟨fun k hk hk' => ?_, fun k hk hk' => ?_⟩⟩⟩
  · rcases List.mem_append.1 he with he | he
    · have h := K.holds e he
      have hs := H.below.size
      cases e with
      | blk g cs t => exact ⟨by have := h.1; omega, h.2⟩
      | own A xs c e =>
        rcases h with h | ⟨g, o, cur, rfl, h1, h2⟩
        · exact .inl h
        · exact .inr ⟨g, o, cur, rfl, by omega, h2⟩
      | ro A xs => exact h
    · exact H'.holds e he
  · have h1 := Ent.wr_ge (K.holds a ha) hk
    have h2 := Ent.rd_lt (H.holds b hb) hk'
    omega
  · rw [hM a ha] at hk'
    have h1 := Ent.wr_ge (K.holds a ha) hk'
    have h2 := Ent.rd_lt (H.holds b hb) (Ent.wr_rd hk)
    omega
/-- A writable entry is read alone from now on. -/
theorem Ent.soft {w : World} {base : Nat} {A : Option Addr} {xs : List Value} {c : Nat} {e : TypeId} (h : RowAt w base e A xs c) : Rd w A xs := by
  intro hp
  rcases h with ⟨_, rfl, _⟩ | ⟨g, o, cur, rfl, h1, h2, h3, h4, h5, h6⟩
  · simp at hp
  · refine ⟨g, o, rfl, (Array.getElem?_eq_some_iff.1 h2).1, fun i v hv => ?_⟩
    rw [← h6, List.getElem?_take] at hv
    split at hv
    · simp only [List.getElem?_drop, Array.getElem?_toList] at hv
      simp [World.cell?, h2, hv]
    · cases hv

/-! ### finding -/
theorem Rd.get {w : World} {A : Option Addr} {xs : List Value} (h : Rd w A xs) {i : Nat} {v : Value} (hv : xs[i]? = some v) : w.cell? (ea A i) = some v := by
  have hi := (List.getElem?_eq_some_iff.1 hv).1
  obtain ⟨b, o, rfl, _, h2⟩ := h (by omega)
  exact h2 i v hv
theorem St.rdOwn {w0 w : World} {L : List Ent} (H : St w0 w L) {A : Option Addr} {xs : List Value} {c : Nat} {e : TypeId} (hm : Ent.own A xs c e ∈ L) : Rd w A xs := Ent.soft (H.holds _ hm)
theorem St.rdRo {w0 w : World} {L : List Ent} (H : St w0 w L) {A : Option Addr} {xs : List Value} (hm : Ent.ro A xs ∈ L) : Rd w A xs := H.holds _ hm
theorem St.blk {w0 w : World} {L : List Ent} (H : St w0 w L) {g : Nat} {cs : List Value} {t : TypeId} (hm : Ent.blk g cs t ∈ L) : Blk w g cs.toArray t := (H.holds _ hm).2
theorem St.cellBlk {w0 w : World} {L : List Ent} (H : St w0 w L) {g : Nat} {cs : List Value} {t : TypeId} (hm : Ent.blk g cs t ∈ L) {i : Nat} {v : Value} (hv : cs[i]? = some v) : w.cell? ⟨g, i, none⟩ = some v := (H.blk hm).cell i v (by simpa using hv)
theorem St.frozenBlk {w0 w : World} {L : List Ent} (H : St w0 w L) {g : Nat} {cs : List Value} {t : TypeId} (hm : Ent.blk g cs t ∈ L) (i : Nat) : w.frozen? ⟨g, i, none⟩ = false := (H.blk hm).frozen i
theorem St.cellOld {w0 w : World} {L : List Ent} (H : St w0 w L) {a : Addr} {v : Value} (h : w0.cell? a = some v) : w.cell? a = some v := cell_mono h H.below
theorem St.size {w0 w : World} {L : List Ent} (H : St w0 w L) : w0.heap.size ≤ w.heap.size := H.below.size

/-- e taken out of L. -/
inductive Pull (e : Ent) : List Ent → List Ent → Prop where
  | head {L : List Ent} : Pull e (e :: L) L
  | tail {a : Ent} {L M : List Ent} (h : Pull e L M) : Pull e (a :: L) (a :: M)
theorem Pull.perm {e : Ent} {L M : List Ent} (h : Pull e L M) : L.Perm (e :: M) := by
  induction h with
  | head => exact .refl _
  | tail _ ih => exact (ih.cons _).trans (.swap _ _ _)
theorem St.pull {w0 w : World} {e : Ent} {L M : List Ent} (H : St w0 w L) (h : Pull e L M) : St w0 w (e :: M) := H.perm h.perm
/-- e turned into e', in its place. -/
inductive Turn (e e' : Ent) : List Ent → List Ent → Prop where
  | head {L : List Ent} : Turn e e' (e :: L) (e' :: L)
  | tail {a : Ent} {L M : List Ent} (h : Turn e e' L M) : Turn e e' (a :: L) (a :: M)
theorem Turn.pull {e e' : Ent} {L M : List Ent} (h : Turn e e' L M) : ∃ R, L.Perm (e :: R) ∧ M.Perm (e' :: R) := by
  induction h with
  | head => exact ⟨_, .refl _, .refl _⟩
  | @tail a _ _ _ ih =>
    obtain ⟨R, h1, h2⟩ := ih
    exact ⟨a :: R, (h1.cons _).trans (.swap _ _ _), (h2.cons _).trans (.swap _ _ _)⟩
/-- One entry's block was written (or left): the others stand. -/
theorem St.turn {w0 w w' : World} {L M : List Ent} (H : St w0 w L) {e e' : Ent} (h : Turn e e' L M) (hg : w.grownBy w' e.wr) (he : e'.holds w0.heap.size w')
    (hrd : ∀ k, e'.rd = some k → e.wr = some k ∨ w.heap.size ≤ k) : St w0 w' M := by
  obtain ⟨R, h1, h2⟩ := h.pull
  have H1 := H.perm h1
  have hS := List.pairwise_cons.1 H1.sep
  have hr : ∀ a ∈ R, ∀ k, a.rd = some k → w'.heap[k]? = w.heap[k]? := fun a ha k hk =>
    hg.block k (Ent.rd_lt (H1.holds a (List.mem_cons_of_mem _ ha)) hk) (fun e1 => (hS.1 a ha).1 k e1.symm hk)
  refine (show St w0 w' (e' :: R) from ⟨?_, fun a ha => ?_, List.pairwise_cons.2 ⟨fun a ha => ⟨fun k hk hk' => ?_, fun k hk hk' => ?_⟩, hS.2⟩⟩).perm h2.symm
  · refine H1.below.grown hg H1.below.size (fun k hk => Ent.wr_ge (H1.holds e (List.mem_cons_self ..)) hk)
  · rcases List.mem_cons.1 ha with rfl | ha
    · exact he
    · exact Ent.keep (H1.holds a (List.mem_cons_of_mem _ ha)) hg.size (hr a ha)
  · rcases hrd k (Ent.wr_rd hk) with h3 | h3
    · exact (hS.1 a ha).1 k h3 hk'
    · have := Ent.rd_lt (H1.holds a (List.mem_cons_of_mem _ ha)) hk'
      omega
  · rcases hrd k hk' with h3 | h3
    · exact (hS.1 a ha).1 k h3 (Ent.wr_rd hk)
    · have := Ent.rd_lt (H1.holds a (List.mem_cons_of_mem _ ha)) (Ent.wr_rd hk)
      omega
/-- A new block. -/
theorem St.new {w0 w : World} {L : List Ent} (H : St w0 w L) (cs : List Value) (t : TypeId) : St w0 (w.alloc (.cells cs.toArray t (0, 0))) (.blk w.heap.size cs t :: L) := by
  have hb : Below w.heap.size w (w.alloc (.cells cs.toArray t (0, 0))) := (Below.refl _ _).alloc (Nat.le_refl _) _
  have K : St w (w.alloc (.cells cs.toArray t (0, 0))) [.blk w.heap.size cs t] := ⟨hb, fun e he => by
    rcases List.mem_singleton.1 he with rfl
    exact ⟨Nat.le_refl _, Blk.new _ _ _⟩, List.pairwise_singleton _ _⟩
  exact H.call K (fun e he => by rcases List.mem_singleton.1 he with rfl; rfl)
theorem St.blkOwn {w0 w : World} {L : List Ent} {g : Nat} {cs : List Value} {t : TypeId} (H : St w0 w (.blk g cs t :: L)) (hm : cs.length ≤ maxLen) : St w0 w (.own (some ⟨g, 0, none⟩) cs cs.length t :: L) := by
  have h := H.holds _ (List.mem_cons_self ..)
  have hS := List.pairwise_cons.1 H.sep
  refine ⟨H.below, fun e he => ?_, List.pairwise_cons.2 ⟨fun a ha => hS.1 a ha, hS.2⟩⟩
  rcases List.mem_cons.1 he with rfl | he
  · exact .inr ⟨g, 0, cs.toArray, rfl, h.1, h.2, Nat.le_refl _, hm, by simp, by simp⟩
  · exact H.holds e (List.mem_cons_of_mem _ he)
theorem St.addNil {w0 w : World} {L : List Ent} (H : St w0 w L) (e : TypeId) : St w0 w (.own none [] 0 e :: L) := by
  refine ⟨H.below, fun a ha => ?_, List.pairwise_cons.2 ⟨fun a _ => ⟨(fun k hk => by cases hk), (fun k _ hk => by cases hk)⟩, H.sep⟩⟩
  rcases List.mem_cons.1 ha with rfl | ha
  · exact .inl ⟨rfl, rfl, rfl⟩
  · exact H.holds a ha
theorem St.drop {w0 w : World} {e : Ent} {L : List Ent} (H : St w0 w (e :: L)) : St w0 w L := H.sub (List.sublist_cons_self ..)
/-- an own row is read alone from now on -/
theorem St.soft {w0 w : World} {L : List Ent} {A : Option Addr} {xs : List Value} {c : Nat} {e : TypeId} (H : St w0 w (.own A xs c e :: L)) : St w0 w (.ro A xs :: L) := by
  have hS := List.pairwise_cons.1 H.sep
  refine H.drop.addRo (H.rdOwn (List.mem_cons_self ..)) (fun k hk a ha hk' => (hS.1 a ha).2 k hk' ?_)
  simp only [Ent.rd] at hk ⊢
  split at hk
  · cases hk
  · exact hk
theorem St.softBlk {w0 w : World} {L : List Ent} {g : Nat} {cs : List Value} {t : TypeId} (H : St w0 w (.blk g cs t :: L)) : St w0 w (.ro (some ⟨g, 0, none⟩) cs :: L) := by
  have hS := List.pairwise_cons.1 H.sep
  have h := H.holds _ (List.mem_cons_self ..)
  refine H.drop.addRo (fun _ => ⟨g, 0, rfl, h.2.lt, fun i v hv => ?_⟩) (fun k hk a ha hk' => (hS.1 a ha).2 k hk' ?_)
  · rw [Nat.zero_add]; exact h.2.cell i v (by simpa using hv)
  · simp only [Ent.rd] at hk ⊢
    split at hk
    · cases hk
    · simpa [blockOf] using hk
/-- a part of what is read -/
theorem Rd.part {w : World} {A : Option Addr} {xs : List Value} (h : Rd w A xs) (lo n : Nat) : Rd w (sub A lo) ((xs.drop lo).take n) := by
  intro hp
  simp at hp
  obtain ⟨b, o, rfl, hb, hc⟩ := h (by omega)
  refine ⟨b, o + lo, rfl, hb, fun i v hv => ?_⟩
  rw [List.getElem?_take] at hv
  split at hv
  · rw [List.getElem?_drop] at hv
    have := hc _ v hv
    rwa [show o + lo + i = o + (lo + i) by omega]
  · cases hv
theorem St.addPart {w0 w : World} {L : List Ent} (H : St w0 w L) {A : Option Addr} {xs : List Value} (hm : Ent.ro A xs ∈ L) (lo n : Nat) : St w0 w (.ro (Go.Proofs.YtcpfangcibilaaaDoor.sub A lo) ((xs.drop lo).take n) :: L) := by
  refine H.addRo ((H.rdRo hm).part lo n) (fun k hk a ha hk' => ?_)
  simp only [Ent.rd] at hk
  split at hk
  · cases hk
  · rename_i hne
    have hx : xs ≠ [] := fun e => hne (by simp [e])
    have hrd : (Ent.ro A xs).rd = some k := by
      simp only [Ent.rd, if_neg hx]
      cases A with
      | none => cases hk
      | some a => simpa [blockOf, Go.Proofs.YtcpfangcibilaaaDoor.sub] using hk
    rcases List.pairwise_iff_getElem.1 H.sep with hsep
    obtain ⟨i, hi, rfl⟩ := List.getElem_of_mem ha
    obtain ⟨j, hj, he⟩ := List.getElem_of_mem hm
    by_cases hij : i = j
    · subst hij; rw [he] at hk'; cases hk'
    · rcases Nat.lt_or_gt_of_ne hij with hl | hl
      · exact (hsep i j hi hj hl).1 k hk' (by rw [he]; exact hrd)
      · exact (hsep j i hj hi hl).2 k hk' (by rw [he]; exact hrd)
end Go.Proofs.YtcpfangcibilaaaDoor
