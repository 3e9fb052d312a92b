/- Package drr: whose turn it is. No condition but sizes. -/
import Derived.Test.YtgbgplhiiaiifaaDoorKe
namespace Go.Proofs.YtgbgplhiiaiifaaDoor
set_option linter.unusedVariables false
set_option linter.unusedSimpArgs false
open Go.RowKit

/-- May a place have its turn? -/
def okO (fx : Bool) : Option Pc → Bool
  | none => false
  | some p => fx || decide (0 < p.l.length)
def okK (fx : Bool) (ps : List (Option Pc)) (k : Nat) : Bool := okO fx (ps[k]?.join)
theorem okK_at {fx : Bool} {ps : List (Option Pc)} {k : Nat} {o : Option Pc} (h : ps[k]? = some o) : okK fx ps k = okO fx o := by unfold okK; rw [h]; rfl
theorem nilp_no (w : World) (a : Addr) : (binOp .neq 62 (.pointer (some a)) (.pointer Option.none)).run Tryd.prog w = .ok (.bool true) w := by kernel_rfl
theorem nilp_yes (w : World) : (binOp .neq 62 (.pointer none) (.pointer Option.none)).run Tryd.prog w = .ok (.bool false) w := by kernel_rfl
set_option maxRecDepth 100000 in

theorem turn1_any (w0 w : World) (L : List Ent) (g gb : Nat) (fx : Bool) (last : Int) (ps : List (Option Pc)) (h16 : ps.length = 16) (hb : Ent.blk gb [.pointer (some ⟨g, 0, none⟩)] 25 ∈ L) (hm : Ent.blk g (rgC fx last ps) 65 ∈ L)
    (k : Nat) (hk : k < 16) (hp : ∀ p, ps[k]? = some (some p) → Ent.blk p.g (pcC p) 69 ∈ L) (H : St w0 w L) :
    Calls Tryd.prog 34 #[.int .i64 k, .pointer (some ⟨gb, 0, none⟩)] w fun e w' => e = .returned (.bool (okK fx ps k)) ∧ w' = w := by
  obtain ⟨o, ho⟩ : ∃ o, ps[k]? = some o := ⟨_, List.getElem?_eq_getElem (by omega)⟩
  rw [okK_at ho]
  have hv := rgC_ptr fx last ps k o ho
  have hf : (rgC fx last ps)[0]? = some (.bool fx) := rfl
  have hki : (k : Int) < 16 := by omega
  cases o with
  | none =>
    have hv : (rgC fx last ps)[2 + k]? = some (.pointer none) := hv
    clear ho hp
    go_enter Tryd.func34, Tryd.ntmps34
    go_wp2_with (first | go_skip | ((with_reducible refine wpGate ?_); first | (refine sLoad ?_ ?_ ?Zo ?_ ?Zd ?Zg ?Zs ?_ ?Zx ?_ ?Zv ?_; (case Zo => rfl); (case Zd => rfl); (case Zs => exact Tsc.out); (case Zg => (first | rfl | (go_simp; done) | fail)); (case Zx => rfl); (case Zv => (first | (refine H.cellBlk (cs := ?_) (t := ?_) ?Zm1 ?Zv1; (case Zm1 => (repeat (first | exact mh_ | assumption | apply mt_))); (case Zv1 => (first | rfl | (refine map_ix _ _ _ ?_; first | (with_reducible assumption) | omega | (simp; omega)) | (refine map_ix_app _ _ _ _ ?_; first | (with_reducible assumption) | omega | (simp; omega)) | assumption | (simp; done)))) | (refine (H.rdOwn (xs := ?_) (c := ?_) (e := ?_) ?Zm1).get ?Zv1; (case Zm1 => (repeat (first | exact mh_ | assumption | apply mt_))); (case Zv1 => (first | rfl | (refine map_ix _ _ _ ?_; first | (with_reducible assumption) | omega | (simp; omega)) | (refine map_ix_app _ _ _ _ ?_; first | (with_reducible assumption) | omega | (simp; omega)) | assumption | (simp; done)))) | (refine (H.rdRo (xs := ?_) ?Zm1).get ?Zv1; (case Zm1 => (repeat (first | exact mh_ | assumption | apply mt_))); (case Zv1 => (first | rfl | (refine map_ix _ _ _ ?_; first | (with_reducible assumption) | omega | (simp; omega)) | (refine map_ix_app _ _ _ _ ?_; first | (with_reducible assumption) | omega | (simp; omega)) | assumption | (simp; done)))) | (refine H.cellOld ?Zm1; (case Zm1 => assumption)) | fail)); try simp only [q_1, q_2, q_3, q_4]) | (refine sIndexArr ?_ ?_ ?_ ?_ ?Zo ?_ ?Zd ?Zg ?_ ?Zt ?Zs ?_ ?_ ?Zx ?_ ?_ ?Zi ?Z0 ?Z1 ?_ ?_ ?Zj ?Zm ?_; (case Zo => rfl); (case Zd => rfl); (case Zt => exact Tar.out); (case Zs => kernel_rfl); (case Zg => (first | rfl | (go_simp; done) | fail)); (case Zx => rfl); (case Zi => rfl); (case Z0 => (first | (with_reducible assumption) | omega | (simp; omega) | (simp; done) | fail)); (case Z1 => (first | (with_reducible assumption) | omega | (simp; omega) | (simp; done) | fail)); (case Zj => first | (go_bits; rfl) | rfl | fail); (case Zm => (first | (simp only [Nat.zero_add]; rfl) | rfl)); try simp only [q_1, q_2, q_3, q_4])))
    go_ret
    exact ⟨rfl, rfl⟩
  | some p =>
    have hv : (rgC fx last ps)[2 + k]? = some (.pointer (some ⟨p.g, 0, none⟩)) := hv
    have hpb := hp p ho
    clear ho hp
    have hl3 : (pcC p)[3]? = some (.slice p.A p.l.length p.c) := rfl
    cases fx with
    | true =>
      go_enter Tryd.func34, Tryd.ntmps34
      go_wp2_with (first | go_skip | ((with_reducible refine wpGate ?_); first | (refine sLoad ?_ ?_ ?Zo ?_ ?Zd ?Zg ?Zs ?_ ?Zx ?_ ?Zv ?_; (case Zo => rfl); (case Zd => rfl); (case Zs => exact Tsc.out); (case Zg => (first | rfl | (go_simp; done) | fail)); (case Zx => rfl); (case Zv => (first | (refine H.cellBlk (cs := ?_) (t := ?_) ?Zm1 ?Zv1; (case Zm1 => (repeat (first | exact mh_ | assumption | apply mt_))); (case Zv1 => (first | rfl | (refine map_ix _ _ _ ?_; first | (with_reducible assumption) | omega | (simp; omega)) | (refine map_ix_app _ _ _ _ ?_; first | (with_reducible assumption) | omega | (simp; omega)) | assumption | (simp; done)))) | (refine (H.rdOwn (xs := ?_) (c := ?_) (e := ?_) ?Zm1).get ?Zv1; (case Zm1 => (repeat (first | exact mh_ | assumption | apply mt_))); (case Zv1 => (first | rfl | (refine map_ix _ _ _ ?_; first | (with_reducible assumption) | omega | (simp; omega)) | (refine map_ix_app _ _ _ _ ?_; first | (with_reducible assumption) | omega | (simp; omega)) | assumption | (simp; done)))) | (refine (H.rdRo (xs := ?_) ?Zm1).get ?Zv1; (case Zm1 => (repeat (first | exact mh_ | assumption | apply mt_))); (case Zv1 => (first | rfl | (refine map_ix _ _ _ ?_; first | (with_reducible assumption) | omega | (simp; omega)) | (refine map_ix_app _ _ _ _ ?_; first | (with_reducible assumption) | omega | (simp; omega)) | assumption | (simp; done)))) | (refine H.cellOld ?Zm1; (case Zm1 => assumption)) | fail)); try simp only [q_1, q_2, q_3, q_4]) | (refine sIndexArr ?_ ?_ ?_ ?_ ?Zo ?_ ?Zd ?Zg ?_ ?Zt ?Zs ?_ ?_ ?Zx ?_ ?_ ?Zi ?Z0 ?Z1 ?_ ?_ ?Zj ?Zm ?_; (case Zo => rfl); (case Zd => rfl); (case Zt => exact Tar.out); (case Zs => kernel_rfl); (case Zg => (first | rfl | (go_simp; done) | fail)); (case Zx => rfl); (case Zi => rfl); (case Z0 => (first | (with_reducible assumption) | omega | (simp; omega) | (simp; done) | fail)); (case Z1 => (first | (with_reducible assumption) | omega | (simp; omega) | (simp; done) | fail)); (case Zj => first | (go_bits; rfl) | rfl | fail); (case Zm => (first | (simp only [Nat.zero_add]; rfl) | rfl)); try simp only [q_1, q_2, q_3, q_4])))
      go_ret
      exact ⟨rfl, rfl⟩
    | false =>
      have e : okO false (some p) = decide ((0 : Int) < (p.l.length : Int)) := by
        show (false || decide (0 < p.l.length)) = _
        rw [Bool.false_or, decide_eq_decide]; omega
      rw [e]
      go_enter Tryd.func34, Tryd.ntmps34
      go_wp2_with (first | go_skip | ((with_reducible refine wpGate ?_); first | (refine sLoad ?_ ?_ ?Zo ?_ ?Zd ?Zg ?Zs ?_ ?Zx ?_ ?Zv ?_; (case Zo => rfl); (case Zd => rfl); (case Zs => exact Tsc.out); (case Zg => (first | rfl | (go_simp; done) | fail)); (case Zx => rfl); (case Zv => (first | (refine H.cellBlk (cs := ?_) (t := ?_) ?Zm1 ?Zv1; (case Zm1 => (repeat (first | exact mh_ | assumption | apply mt_))); (case Zv1 => (first | rfl | (refine map_ix _ _ _ ?_; first | (with_reducible assumption) | omega | (simp; omega)) | (refine map_ix_app _ _ _ _ ?_; first | (with_reducible assumption) | omega | (simp; omega)) | assumption | (simp; done)))) | (refine (H.rdOwn (xs := ?_) (c := ?_) (e := ?_) ?Zm1).get ?Zv1; (case Zm1 => (repeat (first | exact mh_ | assumption | apply mt_))); (case Zv1 => (first | rfl | (refine map_ix _ _ _ ?_; first | (with_reducible assumption) | omega | (simp; omega)) | (refine map_ix_app _ _ _ _ ?_; first | (with_reducible assumption) | omega | (simp; omega)) | assumption | (simp; done)))) | (refine (H.rdRo (xs := ?_) ?Zm1).get ?Zv1; (case Zm1 => (repeat (first | exact mh_ | assumption | apply mt_))); (case Zv1 => (first | rfl | (refine map_ix _ _ _ ?_; first | (with_reducible assumption) | omega | (simp; omega)) | (refine map_ix_app _ _ _ _ ?_; first | (with_reducible assumption) | omega | (simp; omega)) | assumption | (simp; done)))) | (refine H.cellOld ?Zm1; (case Zm1 => assumption)) | fail)); try simp only [q_1, q_2, q_3, q_4]) | (refine sIndexArr ?_ ?_ ?_ ?_ ?Zo ?_ ?Zd ?Zg ?_ ?Zt ?Zs ?_ ?_ ?Zx ?_ ?_ ?Zi ?Z0 ?Z1 ?_ ?_ ?Zj ?Zm ?_; (case Zo => rfl); (case Zd => rfl); (case Zt => exact Tar.out); (case Zs => kernel_rfl); (case Zg => (first | rfl | (go_simp; done) | fail)); (case Zx => rfl); (case Zi => rfl); (case Z0 => (first | (with_reducible assumption) | omega | (simp; omega) | (simp; done) | fail)); (case Z1 => (first | (with_reducible assumption) | omega | (simp; omega) | (simp; done) | fail)); (case Zj => first | (go_bits; rfl) | rfl | fail); (case Zm => (first | (simp only [Nat.zero_add]; rfl) | rfl)); try simp only [q_1, q_2, q_3, q_4])))
      go_ret
      exact ⟨by simp, rfl⟩
/-- Whose turn is next, behind place nx - 1. -/
def NxtIs (nx : Nat) (ok : Nat → Bool) (k : Nat) : Prop := ∃ i, i < 16 ∧ k = (nx + i) % 16 ∧ ok k = true ∧ ∀ t, t < i → ok ((nx + t) % 16) = false
def NxtNo (nx : Nat) (ok : Nat → Bool) : Prop := ∀ t, t < 16 → ok ((nx + t) % 16) = false
set_option maxRecDepth 100000 in
theorem next_any (w : World) (nx : Nat) (last : Int) (hl : last + 1 = (nx : Int)) (hnx : nx ≤ 16) (fv : Value) (gb : Nat) (hfv : fv = .func (.func 34) #[] #[.pointer (some ⟨gb, 0, none⟩)]) (ok : Nat → Bool)
    (hok : ∀ k : Nat, k < 16 → Calls Tryd.prog 34 #[.int .i64 k, .pointer (some ⟨gb, 0, none⟩)] w fun e w' => e = .returned (.bool (ok k)) ∧ w' = w) :
    Calls Tryd.prog 33 #[.int .i64 last, .int .i64 16, fv] w fun e w' => ((∃ k, e = .returned (.int .i64 (k : Nat)) ∧ NxtIs nx ok k) ∨ (e = .returned (.int .i64 (-1)) ∧ NxtNo nx ok)) ∧ w' = w := by
  subst hfv
  have hl1 : -1 ≤ last := by omega
  have hl2 : last ≤ 15 := by omega
  replace hl := Aside.mk hl
  replace hok := Aside.mk hok
  have H := St.start w
  go_enter Tryd.func33, Tryd.ntmps33
  go_wp2
  go_loopw [10, 7, 8] (fun i _ _ w2_ => ∃ j : Nat, j ≤ 16 ∧ i = .int .i64 j ∧ Aside (∀ t, t < j → ok ((nx + t) % 16) = false) ∧ w2_ = w) (fun i _ _ _ => 16 - (intOf i).toNat)
  case atStart => exact ⟨0, by omega, rfl, ⟨fun t h => by omega⟩, rfl⟩
  case round =>
    obtain ⟨j, hj, rfl, hf, rfl⟩ := hrel
    by_cases hjn : j < 16
    · have z1 : decide ((j : Int) < 16) = true := decide_eq_true (by omega)
      have z1n : decide (j < 16) = true := decide_eq_true hjn
      obtain ⟨m, hm, hm16⟩ : ∃ m : Nat, m = (nx + j) % 16 ∧ m < 16 := ⟨_, rfl, Nat.mod_lt _ (by decide)⟩
      have hmod : Int.tmod (last + 1 + (j : Int)) 16 = (m : Int) := by
        rw [hl.out, hm, Int.tmod_eq_emod_of_nonneg (by omega)]; omega
      have hc := hok.out m hm16
      replace hm := Aside.mk hm
      cases hb : ok m with
      | true =>
        rw [hb] at hc
        go_wp2_with (first | (go_at_call 34; refine (hc).mono ?_; rintro e_ w_ ⟨rfl, rfl⟩; ))
        go_ret
        exact ⟨.inl ⟨m, rfl, j, hjn, hm.out, hb, hf.out⟩, rfl⟩
      | false =>
        rw [hb] at hc
        go_wp2_with (first | (go_at_call 34; refine (hc).mono ?_; rintro e_ w_ ⟨rfl, rfl⟩; ))
        go_roundw
        case rel => exact ⟨j + 1, by omega, by go_num, ⟨fun t h => if h2 : t < j then hf.out t h2 else by rw [show t = j by omega, ← hm.out]; exact hb⟩, trivial⟩
        case measure => simp [intOf]; omega
    · have z1 : decide ((j : Int) < 16) = false := decide_eq_false (by omega)
      have z1n : decide (j < 16) = false := decide_eq_false hjn
      go_wp2
      go_ret
      exact ⟨.inr ⟨rfl, fun t h => hf.out t (by omega)⟩, rfl⟩
end Go.Proofs.YtgbgplhiiaiifaaDoor
