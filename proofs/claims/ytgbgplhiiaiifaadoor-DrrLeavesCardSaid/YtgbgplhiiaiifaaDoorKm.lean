/- Package drr: which places are somebody's. No condition. -/
import Derived.Test.YtgbgplhiiaiifaaDoorKk
namespace Go.Proofs.YtgbgplhiiaiifaaDoor
set_option linter.unusedVariables false
set_option linter.unusedSimpArgs false
open Go.RowKit

/-- The places that are somebody's, of the first j. -/
def usedTo (ps : List (Option Pc)) (j : Nat) : List Int := ((List.range j).filter (fun t => (ps[t]?.join).isSome)).map (fun t : Nat => (t : Int))
theorem usedTo_some {ps : List (Option Pc)} {j : Nat} {p : Pc} (h : ps[j]? = some (some p)) : usedTo ps (j + 1) = usedTo ps j ++ [(j : Int)] := by
  unfold usedTo
  rw [List.range_succ, List.filter_append, List.map_append]
  simp [h]
theorem usedTo_none {ps : List (Option Pc)} {j : Nat} (h : ps[j]? = some none) : usedTo ps (j + 1) = usedTo ps j := by
  unfold usedTo
  rw [List.range_succ, List.filter_append, List.map_append]
  simp [h]
theorem usedTo_len (ps : List (Option Pc)) (j : Nat) : (usedTo ps j).length ≤ j := by
  unfold usedTo
  rw [List.length_map]
  exact Nat.le_trans (List.length_filter_le _ _) (by simp)
set_option maxRecDepth 100000 in
set_option maxHeartbeats 1000000 in
theorem places_any (w0 w : World) (L : List Ent) (f : List Ent → List Ent) (g : Nat) (fx : Bool) (last : Int) (ps : List (Option Pc)) (hP : PullA (rgE g fx last ps) L f) (h16 : ps.length = 16) (H : St w0 w L) :
    Calls Tryd.prog 20 #[.pointer (some ⟨g, 0, none⟩)] w fun e w' => ∃ A' c', e = .returned (.slice A' (usedTo ps 16).length c') ∧ St w0 w' (.own A' ((usedTo ps 16).map (.int .i64)) c' 3 :: L) := by
  have hm := ring_mem hP
  have hld : ((rgC fx last ps).drop 2).take 16 = ps.map ptV := by
    unfold rgC
    rw [List.drop_succ_cons, List.drop_succ_cons, List.drop_zero, List.take_of_length_le (by rw [List.length_map]; omega)]
  have hln := rgC_len fx last ps
  have hle : 2 + 16 ≤ (rgC fx last ps).length := by omega
  clear hP
  go_enter Tryd.func20, Tryd.ntmps20
  go_wp2_with (first | go_skip | ((with_reducible refine wpGate ?_); first | (refine sLoadAgg H ?_ ?_ ?Zo ?_ ?Zd ?Zg ?Z1 ?Z2 ?_ ?Zn ?_ ?_ ?Zx ?_ ?_ ?Zm ?Zle ?_ ?Zvs ?_; (case Zo => rfl); (case Zd => rfl); (case Z1 => kernel_rfl); (case Z2 => kernel_rfl); (case Zn => exact Tsz.out); (case Zg => (first | rfl | (go_simp; done) | fail)); (case Zx => rfl); (case Zm => (repeat (first | exact mh_ | assumption | apply mt_))); (case Zle => (first | (with_reducible assumption) | omega | (simp; omega) | (simp; done) | fail)); (case Zvs => (first | (with_reducible assumption) | (with_reducible refine setWhole _ _ ?_; first | (simp; omega) | (simp; done) | fail) | (with_reducible refine setRange_map _ _ _ _ ?_; first | (with_reducible assumption) | omega) | (with_reducible refine setRange_app _ _ _ _ _ ?_; first | (with_reducible assumption) | omega) | (with_reducible refine take_map_app _ _ _ _ ?_; with_reducible assumption) | (with_reducible refine take_map_w _ _ _ ?_; with_reducible assumption) | (simp only [List.take_zero, List.take_succ_cons, List.take_nil, List.drop_zero, List.drop_succ_cons, List.drop_nil, List.nil_append, List.cons_append, List.append_nil, List.length_cons, List.length_nil, Nat.zero_add, Nat.add_zero, Nat.reduceAdd, Nat.reduceSub]; rfl) | rfl | fail)); try simp only [q_1, q_2, q_3, q_4])))
  have HN := H.addNil 3
  clear H
  go_loopw [10, 3, 4, 5] (fun i o _ _ w2_ => ∃ (j : Nat) (B : Option Addr) (cB : Nat), j ≤ 16 ∧ i = .int .i64 j ∧ o = .slice B (usedTo ps j).length cB ∧ St w0 w2_ (.own B ((usedTo ps j).map (.int .i64)) cB 3 :: L)) (fun i _ _ _ _ => 16 - (intOf i).toNat)
  case atStart => exact ⟨0, none, 0, by omega, rfl, rfl, HN⟩
  case round =>
    clear HN hle hln hld
    obtain ⟨j, B, cB, hj, rfl, rfl, H⟩ := hrel
    by_cases hjn : j < 16
    · have z1 : decide ((j : Int) < 16) = true := decide_eq_true (by omega)
      have z1n : decide (j < 16) = true := decide_eq_true hjn
      have hji : (j : Int) < 16 := by omega
      have hll := usedTo_len ps j
      obtain ⟨o, ho⟩ : ∃ o, ps[j]? = some o := ⟨_, List.getElem?_eq_getElem (by omega)⟩
      obtain ⟨us, hus⟩ : ∃ us, us = usedTo ps j := ⟨_, rfl⟩
      cases o with
      | none =>
        have hv : (ps.map ptV)[j]? = some (.pointer none) := by rw [List.getElem?_map, ho]; rfl
        have hu := Aside.mk (usedTo_none ho)
        rw [← hus] at H hll hu
        rw [← hus]
        replace hus := Aside.mk hus
        clear ho
        go_wp2_with (first | go_skip | ((with_reducible refine wpGate ?_); first | (refine sIndexV ?_ ?_ ?_ ?_ ?Zo ?_ ?Zd ?Zg ?_ ?Zt ?Zsc ?Zs ?_ ?Zx ?_ ?_ ?Zi ?Z0 ?Z1 ?_ ?Zj ?_ ?Zv ?_; (case Zo => rfl); (case Zd => rfl); (case Zt => exact Tar.out); (case Zsc => exact Tsc.out); (case Zs => kernel_rfl); (case Zg => (first | rfl | (go_simp; done) | fail)); (case Zx => rfl); (case Zi => rfl); (case Z0 => (first | (with_reducible assumption) | omega | (simp; omega) | (simp; done) | fail)); (case Z1 => (first | (with_reducible assumption) | omega | (simp; omega) | (simp; done) | fail)); (case Zj => first | (go_bits; rfl) | rfl | fail); (case Zv => (first | rfl | (refine map_ix _ _ _ ?_; first | (with_reducible assumption) | omega | (simp; omega)) | (refine map_ix_app _ _ _ _ ?_; first | (with_reducible assumption) | omega | (simp; omega)) | assumption | (simp; done))); try simp only [q_1, q_2, q_3, q_4])))
        go_roundw
        case rel => exact ⟨j + 1, B, cB, by omega, by go_num, by rw [hu.out], by rw [hu.out]; exact H⟩
        case measure => simp [intOf]; omega
      | some p =>
        have hv : (ps.map ptV)[j]? = some (.pointer (some ⟨p.g, 0, none⟩)) := by rw [List.getElem?_map, ho]; rfl
        have hu := Aside.mk (usedTo_some ho)
        rw [← hus] at H hll hu
        rw [← hus]
        replace hus := Aside.mk hus
        have hul : (us.map (Value.int .i64)).length = us.length := List.length_map _
        clear ho
        go_wp2_with (first | go_skip | ((with_reducible refine wpGate ?_); first | (refine sLitN H ?_ ?_ ?_ ?_ ?Zo ?_ ?Zd ?Zg ?Zt ?_ ?_ ?Zi ?_ ?Zv ?Zvs ?Zn ?Z1 ?Z0 ?Zm ?_; (case Zo => rfl); (case Zd => rfl); (case Zt => exact Tun.out); (case Zi => exact Tzi.out); (case Zg => (first | rfl | (go_simp; done) | fail)); (case Zv => (go_simp; rfl)); (case Zvs => rfl); (case Zn => rfl); (case Z1 => first | rfl | (simp [Value.cells, Value.oneCell']; done) | fail); (case Z0 => decide); (case Zm => decide); intro g_ w_ HN; clear H; have H := HN; clear HN; try simp only [q_1, q_2, q_3, q_4]) | (refine sLit H ?_ ?_ ?_ ?_ ?Zo ?_ ?Zd ?Zg ?_ ?Zlen ?Zm ?Zrun ?_; (case Zo => rfl); (case Zd => rfl); (case Zg => (first | rfl | (go_simp; done) | fail)); (case Zrun => first | (go_simp; done) | (go_simp; rfl)); (case Zlen => rfl); (case Zm => first | (simp [maxLen]; done) | (unfold maxLen; omega)); intro g_ w_ HN; clear H; have H := HN; clear HN; try simp only [q_1, q_2, q_3, q_4]) | (refine sAppend H ?_ ?_ ?_ ?_ ?Zo ?_ ?Zd ?Zg ?_ ?_ ?Zt ?Zi ?Zz ?_ ?_ ?_ ?Zs ?_ ?_ ?_ ?Zx ?_ ?_ ?Zp ?_ ?Zy ?Zn ?Zm ?Z1 ?Zb ?Zb2 ?_; (case Zo => rfl); (case Zd => rfl); (case Zt => exact Tun.out); (case Zi => exact Tzi.out); (case Zz => rfl); (case Zg => (first | rfl | (go_simp; done) | fail)); (case Zs => rfl); (case Zx => rfl); (case Zp => (first | exact .head | exact (.tail .head) | exact (.tail (.tail .head)) | exact (.tail (.tail (.tail .head))) | exact (.tail (.tail (.tail (.tail .head)))) | exact (.tail (.tail (.tail (.tail (.tail .head))))) | exact (.tail (.tail (.tail (.tail (.tail (.tail .head)))))) | exact (.tail (.tail (.tail (.tail (.tail (.tail (.tail .head))))))) | exact (.tail (.tail (.tail (.tail (.tail (.tail (.tail (.tail .head)))))))))); (case Zy => (first | (refine H.rdOwn (c := ?_) (e := ?_) ?Zm1; (case Zm1 => (repeat (first | exact mh_ | assumption | apply mt_)))) | (refine H.rdRo ?Zm1; (case Zm1 => (repeat (first | exact mh_ | assumption | apply mt_)))) | (refine H.rdBlk (t := ?_) ?Zm1; (case Zm1 => (repeat (first | exact mh_ | assumption | apply mt_)))) | (with_reducible assumption) | exact Rd.none _ _ | fail)); (case Zn => (first | (with_reducible assumption) | omega | (simp; omega) | (simp; done) | fail)); (case Zm => (first | (with_reducible assumption) | omega | (simp; omega) | (simp; done) | fail)); (case Z1 => (first | rfl | (simp [Value.oneCell']; done))); (case Zb => (first | (with_reducible assumption) | omega | (simp; omega) | (simp; done) | fail)); (case Zb2 => (first | (with_reducible assumption) | omega | (simp; omega) | (simp; done) | fail)); intro A_ c_ w_ HN; (try simp only [List.nil_append, map_app1, map_app2, map_app4, ← List.map_append] at HN); clear H; have H := HN; clear HN; try simp only [q_1, q_2, q_3, q_4]) | (refine sAppend0 H ?_ ?_ ?_ ?_ ?Zo ?_ ?Zd ?Zg ?_ ?_ ?Zt ?Zi ?Zz ?Zs ?_ ?_ ?_ ?Zx ?_ ?Zy ?Zm ?Z1 ?Zb ?Zb2 ?_; (case Zo => rfl); (case Zd => rfl); (case Zt => exact Tun.out); (case Zi => exact Tzi.out); (case Zz => rfl); (case Zg => (first | rfl | (go_simp; done) | fail)); (case Zs => rfl); (case Zx => rfl); (case Zy => (first | (refine H.rdOwn (c := ?_) (e := ?_) ?Zm1; (case Zm1 => (repeat (first | exact mh_ | assumption | apply mt_)))) | (refine H.rdRo ?Zm1; (case Zm1 => (repeat (first | exact mh_ | assumption | apply mt_)))) | (refine H.rdBlk (t := ?_) ?Zm1; (case Zm1 => (repeat (first | exact mh_ | assumption | apply mt_)))) | (with_reducible assumption) | exact Rd.none _ _ | fail)); (case Zm => (first | (with_reducible assumption) | omega | (simp; omega) | (simp; done) | fail)); (case Z1 => (first | rfl | (simp [Value.oneCell']; done))); (case Zb => (first | (with_reducible assumption) | omega | (simp; omega) | (simp; done) | fail)); (case Zb2 => (first | (with_reducible assumption) | omega | (simp; omega) | (simp; done) | fail)); intro A_ c_ w_ HN; (try simp only [List.nil_append, map_app1, map_app2, map_app4, ← List.map_append] at HN); clear H; have H := HN; clear HN; try simp only [q_1, q_2, q_3, q_4]) | (refine sIndexV ?_ ?_ ?_ ?_ ?Zo ?_ ?Zd ?Zg ?_ ?Zt ?Zsc ?Zs ?_ ?Zx ?_ ?_ ?Zi ?Z0 ?Z1 ?_ ?Zj ?_ ?Zv ?_; (case Zo => rfl); (case Zd => rfl); (case Zt => exact Tar.out); (case Zsc => exact Tsc.out); (case Zs => kernel_rfl); (case Zg => (first | rfl | (go_simp; done) | fail)); (case Zx => rfl); (case Zi => rfl); (case Z0 => (first | (with_reducible assumption) | omega | (simp; omega) | (simp; done) | fail)); (case Z1 => (first | (with_reducible assumption) | omega | (simp; omega) | (simp; done) | fail)); (case Zj => first | (go_bits; rfl) | rfl | fail); (case Zv => (first | rfl | (refine map_ix _ _ _ ?_; first | (with_reducible assumption) | omega | (simp; omega)) | (refine map_ix_app _ _ _ _ ?_; first | (with_reducible assumption) | omega | (simp; omega)) | assumption | (simp; done))); try simp only [q_1, q_2, q_3, q_4]) | (refine sAppendM H ?_ ?_ ?_ ?_ ?_ ?_ ?Zo ?_ ?Zd ?Zg ?_ ?_ ?Zt ?Ztn ?Zi ?Zz ?Zz1 ?_ ?_ ?_ ?Zs ?_ ?Zx ?_ ?Zmi ?_ ?_ ?Zp ?Zn ?Zb ?Zb2 ?_; (case Zo => rfl); (case Zd => rfl); (case Zt => exact Tun.out); (case Ztn => exact Tryd.underlying3); (case Zi => exact Tzi.out); (case Zz => rfl); (case Zz1 => rfl); (case Zg => (first | rfl | (go_simp; done) | fail)); (case Zs => rfl); (case Zx => rfl); (case Zmi => (first | rfl | exact (Int.toNat_of_nonneg (by omega)).symm)); (case Zp => (first | exact .head | exact (.tail .head) | exact (.tail (.tail .head)) | exact (.tail (.tail (.tail .head))) | exact (.tail (.tail (.tail (.tail .head)))) | exact (.tail (.tail (.tail (.tail (.tail .head))))) | exact (.tail (.tail (.tail (.tail (.tail (.tail .head)))))) | exact (.tail (.tail (.tail (.tail (.tail (.tail (.tail .head))))))) | exact (.tail (.tail (.tail (.tail (.tail (.tail (.tail (.tail .head)))))))))); (case Zn => (first | (with_reducible assumption) | omega | (simp; omega) | (simp; done) | fail)); (case Zb => (first | (with_reducible assumption) | omega | (simp; omega) | (simp; done) | fail)); (case Zb2 => (first | (with_reducible assumption) | omega | (simp; omega) | (simp; done) | fail)); intro A_ c_ w_ HN; clear H; have H := HN; clear HN; try simp only [q_1, q_2, q_3, q_4])))
        go_roundw
        case rel => exact ⟨j + 1, _, _, by omega, by go_num, by rw [hu.out, List.length_append]; rfl, by rw [hu.out]; exact H.sub (by repeat (first | exact List.Sublist.refl _ | exact List.nil_sublist _ | apply List.Sublist.cons_cons | apply List.Sublist.cons))⟩
        case measure => simp [intOf]; omega
    · have z1 : decide ((j : Int) < 16) = false := decide_eq_false (by omega)
      have z1n : decide (j < 16) = false := decide_eq_false hjn
      obtain rfl : j = 16 := by omega
      go_wp2
      (go_ret; exact ⟨B, cB, rfl, H⟩)
end Go.Proofs.YtgbgplhiiaiifaaDoor
