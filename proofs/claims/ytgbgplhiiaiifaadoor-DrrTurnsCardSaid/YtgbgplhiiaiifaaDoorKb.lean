/- Package drr: a ring is made, its places are looked at. No condition. -/
import Derived.Test.YtgbgplhiiaiifaaDoorKa
namespace Go.Proofs.YtgbgplhiiaiifaaDoor
set_option linter.unusedVariables false
set_option linter.unusedSimpArgs false
open Go.RowKit

/-- Whose a place is, of any number. -/
def atV (ps : List (Option Pc)) (k : Int) : Option Pc := if 0 ≤ k ∧ k < 16 then (ps[k.toNat]?).join else none
theorem atV_nat (ps : List (Option Pc)) (k : Nat) (o : Option Pc) (h16 : ps.length = 16) (h : ps[k]? = some o) : atV ps (k : Int) = o := by
  have hk := (List.getElem?_eq_some_iff.1 h).1
  unfold atV
  rw [if_pos (by omega), Int.toNat_natCast, h]; rfl
theorem atV_some {ps : List (Option Pc)} {k : Int} {p : Pc} (h : atV ps k = some p) : ∃ j : Nat, k = (j : Int) ∧ j < 16 ∧ ps[j]? = some (some p) := by
  unfold atV at h
  split at h
  · rename_i hk
    refine ⟨k.toNat, by omega, by omega, ?_⟩
    cases h2 : ps[k.toNat]? with
    | none => rw [h2] at h; cases h
    | some o => rw [h2] at h; simp at h; rw [h]
  · cases h
theorem set_same {α : Type} (l : List α) (i : Nat) (x : α) (h : l[i]? = some x) : l.set i x = l := by
  apply List.ext_getElem?
  intro j
  rw [List.getElem?_set]
  split
  · rename_i e; subst e
    split
    · exact h.symm
    · rename_i h2; rw [List.getElem?_eq_none (by omega)]
  · rfl
theorem ring_mem {g : Nat} {fx : Bool} {last : Int} {ps : List (Option Pc)} {L : List Ent} {f : List Ent → List Ent} (hP : PullA (rgE g fx last ps) L f) : Ent.blk g (rgC fx last ps) 65 ∈ L := by
  obtain ⟨T, h1, _⟩ := hP.perm
  exact h1.symm.subset (List.mem_append_left _ (List.mem_cons_self ..))
theorem place_mem {g : Nat} {fx : Bool} {last : Int} {ps : List (Option Pc)} {L : List Ent} {f : List Ent → List Ent} (hP : PullA (rgE g fx last ps) L f) {k : Nat} {p : Pc} (hk : ps[k]? = some (some p)) : Ent.blk p.g (pcC p) 69 ∈ L ∧ Ent.own p.A (p.l.map (.int .i64)) p.c 3 ∈ L := by
  obtain ⟨T, h1, _⟩ := hP.perm
  obtain ⟨T2, h2, _⟩ := psE_at ps k _ hk
  have key : ∀ e, e ∈ pcE p → e ∈ L := fun e he => h1.symm.subset (List.mem_append_left _ (List.mem_cons_of_mem _ (h2.symm.subset (List.mem_append_left _ he))))
  exact ⟨key _ (List.mem_cons_self ..), key _ (List.mem_cons_of_mem _ (List.mem_cons_self ..))⟩
/-- The ring's block, and one place, laid open; and closed again. -/
theorem place_open {w0 w : World} {g : Nat} {fx : Bool} {last : Int} {ps : List (Option Pc)} {L : List Ent} {f : List Ent → List Ent} (hP : PullA (rgE g fx last ps) L f) {k : Nat} {p : Pc} (hk : ps[k]? = some (some p)) (H : St w0 w L) :
    ∃ T, St w0 w (.blk g (rgC fx last ps) 65 :: .blk p.g (pcC p) 69 :: .own p.A (p.l.map (.int .i64)) p.c 3 :: T) ∧
      ∀ (w' : World) (last' : Int) (p' : Pc), p'.g = p.g → St w0 w' (.blk g (rgC fx last' ps) 65 :: .blk p.g (pcC p') 69 :: .own p'.A (p'.l.map (.int .i64)) p'.c 3 :: T) → St w0 w' (f (rgE g fx last' (ps.set k (some p')))) := by
  obtain ⟨T, h1, h2⟩ := hP.perm
  obtain ⟨T2, h3, h4⟩ := psE_at ps k _ hk
  refine ⟨T2 ++ T, H.perm (h1.trans ?_), fun w' last' p' hg H' => H'.perm ((?_ : List.Perm _ _).trans (h2 _).symm)⟩
  · have := (h3.append_right T).cons (Ent.blk g (rgC fx last ps) 65)
    rw [List.append_assoc] at this
    exact this
  · have e : rgC fx last' (ps.set k (some p')) = rgC fx last' ps := by
      rw [← rgC_set]
      have hl := rgC_ptr fx last' ps k _ hk
      have e2 : ptV (some p') = ptV (some p) := by simp [ptV, hg]
      rw [e2]
      exact set_same _ _ _ hl
    have := ((h4 (some p')).append_right T).cons (Ent.blk g (rgC fx last' ps) 65)
    rw [List.append_assoc] at this
    refine (List.Perm.symm ?_)
    unfold rgE
    rw [e]
    have e3 : opE (some p') ++ (T2 ++ T) = .blk p.g (pcC p') 69 :: .own p'.A (p'.l.map (.int .i64)) p'.c 3 :: (T2 ++ T) := by rw [← hg]; rfl
    rw [e3] at this
    exact this
set_option maxRecDepth 100000 in
theorem at_any (w0 w : World) (L : List Ent) (g : Nat) (fx : Bool) (last : Int) (ps : List (Option Pc)) (hm : Ent.blk g (rgC fx last ps) 65 ∈ L) (h16 : ps.length = 16) (k : Int) (H : St w0 w L) :
    Calls Tryd.prog 30 #[.pointer (some ⟨g, 0, none⟩), .int .i64 k] w fun e w' => e = .returned (ptV (atV ps k)) ∧ w' = w := by
  by_cases h0 : k < 0
  · have z1 : decide (k < 0) = true := decide_eq_true h0
    have e : atV ps k = none := by unfold atV; rw [if_neg (by omega)]
    rw [e]
    go_enter Tryd.func30, Tryd.ntmps30
    go_wp2_with (first | ((with_reducible refine wpGate ?_); first | (refine sLoad ?_ ?_ ?Zo ?_ ?Zd ?Zg ?Zs ?_ ?Zx ?_ ?Zv ?_; (case Zo => rfl); (case Zd => rfl); (case Zs => exact Tsc.out); (case Zg => (first | rfl | (go_simp; done) | fail)); (case Zx => rfl); (case Zv => (first | (refine H.cellBlk (cs := ?_) (t := ?_) ?Zm1 ?Zv1; (case Zm1 => (repeat (first | exact mh_ | assumption | apply mt_))); (case Zv1 => (first | rfl | (refine map_ix _ _ _ ?_; first | (with_reducible assumption) | omega | (simp; omega)) | (refine map_ix_app _ _ _ _ ?_; first | (with_reducible assumption) | omega | (simp; omega)) | assumption | (simp; done)))) | (refine (H.rdOwn (xs := ?_) (c := ?_) (e := ?_) ?Zm1).get ?Zv1; (case Zm1 => (repeat (first | exact mh_ | assumption | apply mt_))); (case Zv1 => (first | rfl | (refine map_ix _ _ _ ?_; first | (with_reducible assumption) | omega | (simp; omega)) | (refine map_ix_app _ _ _ _ ?_; first | (with_reducible assumption) | omega | (simp; omega)) | assumption | (simp; done)))) | (refine (H.rdRo (xs := ?_) ?Zm1).get ?Zv1; (case Zm1 => (repeat (first | exact mh_ | assumption | apply mt_))); (case Zv1 => (first | rfl | (refine map_ix _ _ _ ?_; first | (with_reducible assumption) | omega | (simp; omega)) | (refine map_ix_app _ _ _ _ ?_; first | (with_reducible assumption) | omega | (simp; omega)) | assumption | (simp; done)))) | (refine H.cellOld ?Zm1; (case Zm1 => assumption)) | fail)); try simp only [q_1, q_2, q_3, q_4]) | (refine sIndexArr ?_ ?_ ?_ ?_ ?Zo ?_ ?Zd ?Zg ?_ ?Zt ?Zs ?_ ?_ ?Zx ?_ ?_ ?Zi ?Z0 ?Z1 ?_ ?_ ?Zj ?Zm ?_; (case Zo => rfl); (case Zd => rfl); (case Zt => exact Tar.out); (case Zs => kernel_rfl); (case Zg => (first | rfl | (go_simp; done) | fail)); (case Zx => rfl); (case Zi => rfl); (case Z0 => (first | (with_reducible assumption) | omega | (simp; omega) | (simp; done) | fail)); (case Z1 => (first | (with_reducible assumption) | omega | (simp; omega) | (simp; done) | fail)); (case Zj => first | (go_bits; rfl) | rfl | fail); (case Zm => (first | (simp only [Nat.zero_add]; rfl) | rfl)); try simp only [q_1, q_2, q_3, q_4])))
    go_ret
    exact ⟨rfl, rfl⟩
  · have z1 : decide (k < 0) = false := decide_eq_false h0
    by_cases h1 : 16 ≤ k
    · have z2 : decide (16 ≤ k) = true := decide_eq_true h1
      have e : atV ps k = none := by unfold atV; rw [if_neg (by omega)]
      rw [e]
      go_enter Tryd.func30, Tryd.ntmps30
      go_wp2_with (first | ((with_reducible refine wpGate ?_); first | (refine sLoad ?_ ?_ ?Zo ?_ ?Zd ?Zg ?Zs ?_ ?Zx ?_ ?Zv ?_; (case Zo => rfl); (case Zd => rfl); (case Zs => exact Tsc.out); (case Zg => (first | rfl | (go_simp; done) | fail)); (case Zx => rfl); (case Zv => (first | (refine H.cellBlk (cs := ?_) (t := ?_) ?Zm1 ?Zv1; (case Zm1 => (repeat (first | exact mh_ | assumption | apply mt_))); (case Zv1 => (first | rfl | (refine map_ix _ _ _ ?_; first | (with_reducible assumption) | omega | (simp; omega)) | (refine map_ix_app _ _ _ _ ?_; first | (with_reducible assumption) | omega | (simp; omega)) | assumption | (simp; done)))) | (refine (H.rdOwn (xs := ?_) (c := ?_) (e := ?_) ?Zm1).get ?Zv1; (case Zm1 => (repeat (first | exact mh_ | assumption | apply mt_))); (case Zv1 => (first | rfl | (refine map_ix _ _ _ ?_; first | (with_reducible assumption) | omega | (simp; omega)) | (refine map_ix_app _ _ _ _ ?_; first | (with_reducible assumption) | omega | (simp; omega)) | assumption | (simp; done)))) | (refine (H.rdRo (xs := ?_) ?Zm1).get ?Zv1; (case Zm1 => (repeat (first | exact mh_ | assumption | apply mt_))); (case Zv1 => (first | rfl | (refine map_ix _ _ _ ?_; first | (with_reducible assumption) | omega | (simp; omega)) | (refine map_ix_app _ _ _ _ ?_; first | (with_reducible assumption) | omega | (simp; omega)) | assumption | (simp; done)))) | (refine H.cellOld ?Zm1; (case Zm1 => assumption)) | fail)); try simp only [q_1, q_2, q_3, q_4]) | (refine sIndexArr ?_ ?_ ?_ ?_ ?Zo ?_ ?Zd ?Zg ?_ ?Zt ?Zs ?_ ?_ ?Zx ?_ ?_ ?Zi ?Z0 ?Z1 ?_ ?_ ?Zj ?Zm ?_; (case Zo => rfl); (case Zd => rfl); (case Zt => exact Tar.out); (case Zs => kernel_rfl); (case Zg => (first | rfl | (go_simp; done) | fail)); (case Zx => rfl); (case Zi => rfl); (case Z0 => (first | (with_reducible assumption) | omega | (simp; omega) | (simp; done) | fail)); (case Z1 => (first | (with_reducible assumption) | omega | (simp; omega) | (simp; done) | fail)); (case Zj => first | (go_bits; rfl) | rfl | fail); (case Zm => (first | (simp only [Nat.zero_add]; rfl) | rfl)); try simp only [q_1, q_2, q_3, q_4])))
      go_ret
      exact ⟨rfl, rfl⟩
    · have z2 : decide (16 ≤ k) = false := decide_eq_false h1
      obtain ⟨j, rfl⟩ : ∃ j : Nat, k = (j : Int) := ⟨k.toNat, by omega⟩
      obtain ⟨o, ho⟩ : ∃ o, ps[j]? = some o := ⟨_, List.getElem?_eq_getElem (by omega)⟩
      have hv := rgC_ptr fx last ps j o ho
      rw [atV_nat ps j o h16 ho]
      have hj16 : (j : Int) < 16 := by omega
      clear ho
      go_enter Tryd.func30, Tryd.ntmps30
      go_wp2_with (first | ((with_reducible refine wpGate ?_); first | (refine sLoad ?_ ?_ ?Zo ?_ ?Zd ?Zg ?Zs ?_ ?Zx ?_ ?Zv ?_; (case Zo => rfl); (case Zd => rfl); (case Zs => exact Tsc.out); (case Zg => (first | rfl | (go_simp; done) | fail)); (case Zx => rfl); (case Zv => (first | (refine H.cellBlk (cs := ?_) (t := ?_) ?Zm1 ?Zv1; (case Zm1 => (repeat (first | exact mh_ | assumption | apply mt_))); (case Zv1 => (first | rfl | (refine map_ix _ _ _ ?_; first | (with_reducible assumption) | omega | (simp; omega)) | (refine map_ix_app _ _ _ _ ?_; first | (with_reducible assumption) | omega | (simp; omega)) | assumption | (simp; done)))) | (refine (H.rdOwn (xs := ?_) (c := ?_) (e := ?_) ?Zm1).get ?Zv1; (case Zm1 => (repeat (first | exact mh_ | assumption | apply mt_))); (case Zv1 => (first | rfl | (refine map_ix _ _ _ ?_; first | (with_reducible assumption) | omega | (simp; omega)) | (refine map_ix_app _ _ _ _ ?_; first | (with_reducible assumption) | omega | (simp; omega)) | assumption | (simp; done)))) | (refine (H.rdRo (xs := ?_) ?Zm1).get ?Zv1; (case Zm1 => (repeat (first | exact mh_ | assumption | apply mt_))); (case Zv1 => (first | rfl | (refine map_ix _ _ _ ?_; first | (with_reducible assumption) | omega | (simp; omega)) | (refine map_ix_app _ _ _ _ ?_; first | (with_reducible assumption) | omega | (simp; omega)) | assumption | (simp; done)))) | (refine H.cellOld ?Zm1; (case Zm1 => assumption)) | fail)); try simp only [q_1, q_2, q_3, q_4]) | (refine sIndexArr ?_ ?_ ?_ ?_ ?Zo ?_ ?Zd ?Zg ?_ ?Zt ?Zs ?_ ?_ ?Zx ?_ ?_ ?Zi ?Z0 ?Z1 ?_ ?_ ?Zj ?Zm ?_; (case Zo => rfl); (case Zd => rfl); (case Zt => exact Tar.out); (case Zs => kernel_rfl); (case Zg => (first | rfl | (go_simp; done) | fail)); (case Zx => rfl); (case Zi => rfl); (case Z0 => (first | (with_reducible assumption) | omega | (simp; omega) | (simp; done) | fail)); (case Z1 => (first | (with_reducible assumption) | omega | (simp; omega) | (simp; done) | fail)); (case Zj => first | (go_bits; rfl) | rfl | fail); (case Zm => (first | (simp only [Nat.zero_add]; rfl) | rfl)); try simp only [q_1, q_2, q_3, q_4])))
      go_ret
      exact ⟨rfl, rfl⟩
theorem new_any (w : World) (fx : Bool) : Calls Tryd.prog 11 #[.bool fx] w fun e w' => ∃ g, e = .returned (.pointer (some ⟨g, 0, none⟩)) ∧ St w w' (rgE g fx (-1) (List.replicate 16 none)) := by
  have H := St.start w
  go_enter Tryd.func11, Tryd.ntmps11
  go_wp2_with (first | ((with_reducible refine wpGate ?_); first | (refine sBuildArr ?_ ?_ ?_ ?Zo ?_ ?Zd ?Zg ?_ ?Zt ?Zs ?_ ?Zz ?Zzn ?_ ?Zv ?Zvs ?Zn ?Z1 ?_; (case Zo => rfl); (case Zd => rfl); (case Zt => exact Tar.out); (case Zs => kernel_rfl); (case Zz => exact Tzr.out); (case Zzn => rfl); (case Zg => (first | rfl | (go_simp; done) | fail)); (case Zv => (go_simp; rfl)); (case Zvs => rfl); (case Zn => rfl); (case Z1 => first | rfl | (simp [Value.cells, Value.oneCell']; done) | fail); try simp only [q_1, q_2, q_3, q_4]) | (refine sBox H ?_ ?_ ?Zo ?_ ?Zd ?Zg ?_ ?Zx ?_; (case Zo => rfl); (case Zd => rfl); (case Zg => (first | rfl | (go_simp; done) | fail)); (case Zx => (first | (go_simp; done) | (go_simp; rfl) | rfl)); intro g_ w_ HN; clear H; have H := HN; clear HN; try simp only [q_1, q_2, q_3, q_4])))
  go_ret
  exact ⟨_, rfl, H⟩
end Go.Proofs.YtgbgplhiiaiifaaDoor
