/- DrrTurns, walked. No condition but the sentinels. -/
import Derived.Test.YtgbgplhiiaiifaaDoorKr
namespace Go.Proofs.YtgbgplhiiaiifaaDoor
set_option linter.unusedVariables false
set_option linter.unusedSimpArgs false
open Go.RowKit

/-- What is told where there is no place left. -/
def ErrM (E : Int → Addr) (w : World) : Prop := w.cell? ⟨codeG 104, 0, none⟩ = some (.iface 92 (.pointer (some (E 104))))
set_option maxRecDepth 100000 in
theorem join_many2 (w0 w : World) (L : List Ent) (f : List Ent → List Ent) (g : Nat) (fx : Bool) (last : Int) (ps : List (Option Pc)) (hP : PullA (rgE g fx last ps) L f) (h16 : ps.length = 16) (E : Int → Addr) (hE : ErrM E w0) (hu : AllUsed ps) (q : Int) (h1 : 1024 ≤ q) (h2 : q ≤ 16384) (H : St w0 w L) :
    Calls Tryd.prog 12 #[.pointer (some ⟨g, 0, none⟩), .int .i64 q] w fun e w' => e = .returned (.tuple #[.int .i64 0, .iface 92 (.pointer (some (E 104)))]) ∧ St w0 w' L := by
  have z1 : decide (q < 1024) = false := decide_eq_false (by omega)
  have z2 : decide (16384 < q) = false := decide_eq_false (by omega)
  have hix := ixp_any w (some ⟨g, 2, none⟩) ps 16 h16 (rd_arr (H.blk (ring_mem hP)) 2 _ rfl)
  have hix : Calls Tryd.prog 29 #[.slice (some ⟨g, 2, none⟩) 16 16, .pointer none] w fun e w' => e = .returned (.int .i64 (-1)) ∧ w' = w := hix.mono fun e w' ⟨r, e1, e2, e3⟩ => by
    refine ⟨?_, e3⟩
    rcases e2 with ⟨j', rfl, hj'⟩ | ⟨rfl, _⟩
    · exact absurd hj'.1 (hu j')
    · exact e1
  have c104 : w0.cell? ⟨codeG 104, 0, none⟩ = some (.iface 92 (.pointer (some (E 104)))) := hE
  clear hu hP
  go_enter Tryd.func12, Tryd.ntmps12
  go_wp2_with (first | go_skip | (go_at_call 29; refine (hix).mono ?_; rintro e_ w_ ⟨rfl, rfl⟩; ) | ((with_reducible refine wpGate ?_); first | (refine sSliceArr ?_ ?_ ?_ ?Zo ?_ ?Zd ?Zg ?_ ?Zt ?Zs ?_ ?_ ?Zx ?_; (case Zo => rfl); (case Zd => rfl); (case Zt => exact Tar.out); (case Zs => kernel_rfl); (case Zg => (first | rfl | (go_simp; done) | fail)); (case Zx => rfl); try simp only [q_1, q_2, q_3, q_4])))
  refine region_plan0 H [(0, true), (1, true), (2, true)] (by kernel_rfl) (by kernel_rfl) (fun _ _ d_ _ _ h => by cases d_ <;> exact h) (fun HN => ?_); clear H; have H := HN; clear HN; (iterate 3 (first | (refine planLoadBlk ?_ ?_ ?Zi ?Zg ?_ ?_ ?Zo ?Zs ?_ ?_ ?Zx ?_ ?_ ?Zm ?_ ?Zv ?_; (case Zi => rfl); (case Zo => rfl); (case Zs => exact Tsc.out); (case Zg => (first | rfl | (go_simp; done) | fail)); (case Zx => rfl); (case Zm => (repeat (first | exact mh_ | assumption | apply mt_))); (case Zv => (first | rfl | (refine map_ix _ _ _ ?_; first | (with_reducible assumption) | omega | (simp; omega)) | (refine map_ix_app _ _ _ _ ?_; first | (with_reducible assumption) | omega | (simp; omega)) | assumption | (simp; done))); try simp only [q_1, q_2, q_3, q_4]) | (refine planLoadRd ?_ ?_ ?Zi ?Zg ?_ ?_ ?Zo ?Zs ?_ ?_ ?Zx ?_ ?Zr ?_ ?Zv ?_; (case Zi => rfl); (case Zo => rfl); (case Zs => exact Tsc.out); (case Zg => (first | rfl | (go_simp; done) | fail)); (case Zx => rfl); (case Zr => (intro w_ H; first | (refine H.rdOwn (c := ?_) (e := ?_) ?Zm1; (case Zm1 => (repeat (first | exact mh_ | assumption | apply mt_)))) | (refine H.rdRo ?Zm1; (case Zm1 => (repeat (first | exact mh_ | assumption | apply mt_)))) | (refine H.rdBlk (t := ?_) ?Zm1; (case Zm1 => (repeat (first | exact mh_ | assumption | apply mt_)))) | fail)); (case Zv => (first | rfl | (refine map_ix _ _ _ ?_; first | (with_reducible assumption) | omega | (simp; omega)) | (refine map_ix_app _ _ _ _ ?_; first | (with_reducible assumption) | omega | (simp; omega)) | assumption | (simp; done))); try simp only [q_1, q_2, q_3, q_4]) | (refine planLoadOld ?_ ?_ ?Zi ?Zg ?_ ?_ ?Zo ?Zs ?_ ?Zx ?_ ?Zv ?_; (case Zi => rfl); (case Zo => rfl); (case Zs => exact Tsc.out); (case Zg => (first | rfl | (go_simp; done) | fail)); (case Zx => rfl); (case Zv => assumption); try simp only [q_1, q_2, q_3, q_4]) | (refine planPure ?_ ?_ ?Zi ?Zg ?_ ?Zv ?_; (case Zi => rfl); (case Zg => (first | rfl | (go_simp; done) | fail)); (case Zv => (intro w_; first | (go_simp; (try go_bits); rfl) | (go_simp; done) | fail)); try simp only [q_1, q_2, q_3, q_4]) | (refine planSkip ?_ ?_ ?Zi ?Zg ?_; (case Zi => rfl); (case Zg => (first | rfl | (go_simp; done) | fail)); try simp only [q_1, q_2, q_3, q_4]) | fail)); refine planDone ?_
  go_wp2
  (go_ret2; exact ⟨rfl, H⟩)
/-- Is a place busy? -/
def bzL (l : List Bool) (j : Nat) : Bool := (l[j]?).getD false
def smN (l : List Bool) (n : Nat) : List Nat := (List.range n).filter (bzL l)
def smI (l : List Bool) (n : Nat) : List Int := (smN l n).map (fun j : Nat => (j : Int))
theorem smI_succ (l : List Bool) (n : Nat) : smI l (n + 1) = if bzL l n then smI l n ++ [(n : Int)] else smI l n := by
  unfold smI smN
  rw [List.range_succ, List.filter_append, List.map_append]
  by_cases h : bzL l n = true
  · simp [h]
  · simp [h]
theorem smI_len (l : List Bool) (n : Nat) : (smI l n).length = (smN l n).length ∧ (smI l n).length ≤ n := by
  unfold smI
  rw [List.length_map]
  exact ⟨rfl, Nat.le_trans (List.length_filter_le _ _) (by simp)⟩
theorem smI_at (l : List Bool) (n j : Nat) (h : j < (smN l n).length) : ix (smI l n) j = ((smN l n).getD j 0 : Nat) := by
  unfold smI
  simp [ix, List.getD_eq_getElem?_getD, h]
theorem smN_16 (l : List Bool) (n : Nat) (hn : n ≤ 16) : ∀ j, j ∈ smN l n → j < 16 := fun j hj => by
  have := (List.mem_filter.1 hj).1
  rw [List.mem_range] at this
  omega
set_option maxRecDepth 100000 in
set_option maxHeartbeats 4000000 in
theorem drrTurns_any (E : Int → Addr) (w : World) (hE : ErrM E w) (n0 t0 : Int) (A : Option Addr) (bs : List Bool) (c : Nat) (hA : Rd w A (bs.map .bool)) (hbl : bs.length ≤ maxLen) :
    Calls Tryd.prog 3 #[.int .i64 n0, .slice A bs.length c, .int .i64 t0] w fun e w' => e = .returned (.bool true) ∧ St w w' [] := by
  have H := St.ro1 hA
  have hn1 : 0 ≤ n0 % 16 := Int.emod_nonneg _ (by decide)
  have hn2 : n0 % 16 < 16 := Int.emod_lt_of_pos _ (by decide)
  have ht1 : 0 ≤ t0 % 40 := Int.emod_nonneg _ (by decide)
  have ht2 : t0 % 40 < 40 := Int.emod_lt_of_pos _ (by decide)
  have nn := fun w => number_any n0 16 w (by decide) (by decide)
  have nt := fun w => number_any t0 40 w (by decide) (by decide)
  obtain ⟨m, hm⟩ : ∃ m, n0 % 16 = m := ⟨_, rfl⟩
  rw [hm] at nn hn1 hn2
  clear hm
  obtain ⟨N, hN⟩ : ∃ N : Nat, m + 1 = (N : Int) := ⟨(m + 1).toNat, by omega⟩
  have hN1 : 1 ≤ N := by omega
  have hN16 : N ≤ 16 := by omega
  obtain ⟨T, hT⟩ : ∃ t : Nat, t0 % 40 = (t : Int) := ⟨(t0 % 40).toNat, by omega⟩
  rw [hT] at nt
  have hT40 : T < 40 := by omega
  clear hT ht1 ht2 hA
  go_enter Tryd.func3, Tryd.ntmps3
  go_wp2_with (first | (go_at_call 9; refine (first25_any _ _ _ H).mono ?_; rintro e_ w_ ⟨rfl, HN⟩; clear H; have H := HN; clear HN) | (go_at_call 10; (with_reducible refine (nn _).mono ?_); rintro e_ w_ ⟨rfl, rfl⟩; ) | (go_at_call 10; (with_reducible refine (nt _).mono ?_); rintro e_ w_ ⟨rfl, rfl⟩; ) | (go_at_call 11; refine (new_any _ true).mono ?_; rintro e_ w_ ⟨ga, rfl, HM⟩; have HN := H.call HM (new_rw _ _); clear HM; clear H; have H := HN; clear HN))
  have HN : St w w_ (.ro A (bs.map .bool) :: (rgE ga true (-1) (List.replicate 16 none) ++ [])) := by rw [List.append_nil]; exact H.perm List.perm_append_comm
  clear H
  have H := HN
  clear HN
  go_wp2_with (first | (go_at_call 11; refine (new_any _ false).mono ?_; rintro e_ w_ ⟨gb, rfl, HM⟩; have HN := H.call HM (new_rw _ _); clear HM; clear H; have H := HN; clear HN))
  have HN : St w w_ (.ro A (bs.map .bool) :: (rgE ga true (-1) (List.replicate 16 none) ++ (rgE gb false (-1) (List.replicate 16 none) ++ []))) := by
    refine H.perm ?_
    rw [List.append_nil, List.append_nil]
    exact List.perm_append_comm
  clear H
  have H := HN.addNil 3
  clear HN
  go_loopw [11, 10, 12, 13, 14, 15, 16] (fun i s _ _ _ _ _ w2_ => ∃ (j : Nat) (psA psB : List (Option Pc)) (B : Option Addr) (cB : Nat), j ≤ N ∧ i = .int .i64 j ∧ s = .slice B (smI bs j).length cB ∧ Aside (Cov psA j (FT (bzL bs) 0)) ∧ Aside (Cov psB j (FT (bzL bs) 0)) ∧ St w w2_ (.own B ((smI bs j).map (.int .i64)) cB 3 :: .ro A (bs.map .bool) :: (rgE ga true (-1) psA ++ (rgE gb false (-1) psB ++ [])))) (fun i _ _ _ _ _ _ _ => N - (intOf i).toNat)
  case atStart => exact ⟨0, _, _, none, 0, by omega, rfl, rfl, ⟨Cov.nil _⟩, ⟨Cov.nil _⟩, H⟩
  case round =>
    clear H
    obtain ⟨j, psA, psB, B, cB, hj, rfl, rfl, hCA, hCB, H⟩ := hrel
    by_cases hjn : j < N
    · have z3 : decide ((j : Int) < (N : Int)) = true := decide_eq_true (by omega)
      have z3n : decide (j < N) = true := decide_eq_true hjn
      have hfA := hCA.out.freeAt (by omega)
      have hfB := hCB.out.freeAt (by omega)
      have h16A := hCA.out.len
      have h16B := hCB.out.len
      have jA := join_ok _ _ _ _ ga true (-1) psA (.tail _ (.tail _ (.here _)) : PullA (rgE ga true (-1) psA) (.own B ((smI bs j).map (.int .i64)) cB 3 :: .ro A (bs.map .bool) :: (rgE ga true (-1) psA ++ (rgE gb false (-1) psB ++ []))) _) h16A j hfA 2000 (by decide) (by decide) H
      go_wp2_with (first | (go_at_call 12; refine (jA).mono ?_; rintro e_ w_ ⟨g0, rfl, HN⟩; clear jA; clear H; have H := HN; clear HN))
      have hIA := FI.of hCA.out (by omega) g0
      have hpA : (psA.set j (some ⟨g0, none, 0, 2000, 0, 0, []⟩))[j]? = some (some ⟨g0, none, 0, 2000, 0, 0, []⟩) := by rw [List.getElem?_set_self (by omega)]
      obtain ⟨qA, hqA⟩ : ∃ qA, qA = psA.set j (some (⟨g0, none, 0, 2000, 0, 0, []⟩ : Pc)) := ⟨_, rfl⟩
      rw [← hqA] at hIA hpA H
      clear hqA hCA hfA h16A
      have jB := join_ok _ _ _ _ gb false (-1) psB (.tail _ (.tail _ (.skip _ (.here _))) : PullA (rgE gb false (-1) psB) (.own B ((smI bs j).map (.int .i64)) cB 3 :: .ro A (bs.map .bool) :: (rgE ga true (-1) qA ++ (rgE gb false (-1) psB ++ []))) _) h16B j hfB 2000 (by decide) (by decide) H
      have hlenA : (bs.map Value.bool).length = bs.length := List.length_map _
      have hFB := FI.of hCB.out (by omega)
      have hpB : ∀ g1, (psB.set j (some ⟨g1, none, 0, 2000, 0, 0, []⟩))[j]? = some (some ⟨g1, none, 0, 2000, 0, 0, []⟩) := fun g1 => by rw [List.getElem?_set_self (by omega)]
      replace hFB := Aside.mk hFB
      replace hpB := Aside.mk hpB
      have hIA := Aside.mk hIA
      clear hCB hfB h16B
      cases hbz : bs[j]? with
      | none =>
        have hbzl : bzL bs j = false := by unfold bzL; rw [hbz]; rfl
        have z5 : decide ((j : Int) < (bs.length : Int)) = false := decide_eq_false (by have := List.getElem?_eq_none_iff.1 hbz; omega)
        have z5n : decide (j < bs.length) = false := decide_eq_false (by have := List.getElem?_eq_none_iff.1 hbz; omega)
        have hsm : smI bs (j + 1) = smI bs j := by rw [smI_succ, hbzl]; rfl
        replace hsm := Aside.mk hsm
        clear hpA hbz
        go_wp2_with (first | go_skip | (go_at_call 12; refine (jB).mono ?_; rintro e_ w_ ⟨g1, rfl, HN⟩; clear jB; clear H; have H := HN; clear HN) | ((with_reducible refine wpGate ?_); first | (refine sLoad ?_ ?_ ?Zo ?_ ?Zd ?Zg ?Zs ?_ ?Zx ?_ ?Zv ?_; (case Zo => rfl); (case Zd => rfl); (case Zs => exact Tsc.out); (case Zg => (first | rfl | (go_simp; done) | fail)); (case Zx => rfl); (case Zv => (first | (refine H.cellBlk (cs := ?_) (t := ?_) ?Zm1 ?Zv1; (case Zm1 => (repeat (first | exact mh_ | assumption | apply mt_))); (case Zv1 => (first | rfl | (refine map_ix _ _ _ ?_; first | (with_reducible assumption) | omega | (simp; omega)) | (refine map_ix_app _ _ _ _ ?_; first | (with_reducible assumption) | omega | (simp; omega)) | assumption | (simp; done)))) | (refine (H.rdOwn (xs := ?_) (c := ?_) (e := ?_) ?Zm1).get ?Zv1; (case Zm1 => (repeat (first | exact mh_ | assumption | apply mt_))); (case Zv1 => (first | rfl | (refine map_ix _ _ _ ?_; first | (with_reducible assumption) | omega | (simp; omega)) | (refine map_ix_app _ _ _ _ ?_; first | (with_reducible assumption) | omega | (simp; omega)) | assumption | (simp; done)))) | (refine (H.rdRo (xs := ?_) ?Zm1).get ?Zv1; (case Zm1 => (repeat (first | exact mh_ | assumption | apply mt_))); (case Zv1 => (first | rfl | (refine map_ix _ _ _ ?_; first | (with_reducible assumption) | omega | (simp; omega)) | (refine map_ix_app _ _ _ _ ?_; first | (with_reducible assumption) | omega | (simp; omega)) | assumption | (simp; done)))) | (refine H.cellOld ?Zm1; (case Zm1 => assumption)) | fail)); try simp only [q_1, q_2, q_3, q_4]) | (refine sIndex ?_ ?_ ?_ ?_ ?Zo ?_ ?Zd ?Zg ?Zt ?Zs ?_ ?_ ?_ ?Zx ?_ ?_ ?Zi ?_ ?Zr ?Z0 ?Z1 ?Zn ?_ ?Zj ?_; (case Zo => rfl); (case Zd => rfl); (case Zt => exact Tun.out); (case Zs => kernel_rfl); (case Zg => (first | rfl | (go_simp; done) | fail)); (case Zx => rfl); (case Zi => rfl); (case Zr => (first | (refine H.rdOwn (c := ?_) (e := ?_) ?Zm1; (case Zm1 => (repeat (first | exact mh_ | assumption | apply mt_)))) | (refine H.rdRo ?Zm1; (case Zm1 => (repeat (first | exact mh_ | assumption | apply mt_)))) | (refine H.rdBlk (t := ?_) ?Zm1; (case Zm1 => (repeat (first | exact mh_ | assumption | apply mt_)))) | (with_reducible assumption) | exact Rd.none _ _ | fail)); (case Z0 => (first | (with_reducible assumption) | omega | (simp; omega) | (simp; done) | fail)); (case Z1 => (first | (with_reducible assumption) | omega | (simp; omega) | (simp; done) | fail)); (case Zn => (first | (with_reducible assumption) | omega | (simp; omega) | (simp; done) | fail)); (case Zj => first | (go_bits; rfl) | rfl | fail); try simp only [q_1, q_2, q_3, q_4])))
        go_roundw
        case rel => exact ⟨j + 1, qA, _, B, cB, by omega, by go_num, by rw [hsm.out], ⟨FI.done hIA.out (.inr ⟨hbzl, rfl⟩)⟩, ⟨FI.done (hFB.out g1) (.inr ⟨hbzl, rfl⟩)⟩, by rw [hsm.out]; exact H⟩
        case measure => simp [intOf]; omega
      | some b =>
        have hjb := (List.getElem?_eq_some_iff.1 hbz).1
        have z5 : decide ((j : Int) < (bs.length : Int)) = true := decide_eq_true (by omega)
        have z5n : decide (j < bs.length) = true := decide_eq_true hjb
        have hjbi : (j : Int) < (bs.length : Int) := by omega
        cases b with
        | false =>
          have hbzl : bzL bs j = false := by unfold bzL; rw [hbz]; rfl
          have hv : (bs.map Value.bool)[j]? = some (.bool false) := by rw [List.getElem?_map, hbz]; rfl
          have hsm : smI bs (j + 1) = smI bs j := by rw [smI_succ, hbzl]; rfl
          replace hsm := Aside.mk hsm
          clear hpA hbz
          go_wp2_with (first | go_skip | (go_at_call 12; refine (jB).mono ?_; rintro e_ w_ ⟨g1, rfl, HN⟩; clear jB; clear H; have H := HN; clear HN) | ((with_reducible refine wpGate ?_); first | (refine sLoad ?_ ?_ ?Zo ?_ ?Zd ?Zg ?Zs ?_ ?Zx ?_ ?Zv ?_; (case Zo => rfl); (case Zd => rfl); (case Zs => exact Tsc.out); (case Zg => (first | rfl | (go_simp; done) | fail)); (case Zx => rfl); (case Zv => (first | (refine H.cellBlk (cs := ?_) (t := ?_) ?Zm1 ?Zv1; (case Zm1 => (repeat (first | exact mh_ | assumption | apply mt_))); (case Zv1 => (first | rfl | (refine map_ix _ _ _ ?_; first | (with_reducible assumption) | omega | (simp; omega)) | (refine map_ix_app _ _ _ _ ?_; first | (with_reducible assumption) | omega | (simp; omega)) | assumption | (simp; done)))) | (refine (H.rdOwn (xs := ?_) (c := ?_) (e := ?_) ?Zm1).get ?Zv1; (case Zm1 => (repeat (first | exact mh_ | assumption | apply mt_))); (case Zv1 => (first | rfl | (refine map_ix _ _ _ ?_; first | (with_reducible assumption) | omega | (simp; omega)) | (refine map_ix_app _ _ _ _ ?_; first | (with_reducible assumption) | omega | (simp; omega)) | assumption | (simp; done)))) | (refine (H.rdRo (xs := ?_) ?Zm1).get ?Zv1; (case Zm1 => (repeat (first | exact mh_ | assumption | apply mt_))); (case Zv1 => (first | rfl | (refine map_ix _ _ _ ?_; first | (with_reducible assumption) | omega | (simp; omega)) | (refine map_ix_app _ _ _ _ ?_; first | (with_reducible assumption) | omega | (simp; omega)) | assumption | (simp; done)))) | (refine H.cellOld ?Zm1; (case Zm1 => assumption)) | fail)); try simp only [q_1, q_2, q_3, q_4]) | (refine sIndex ?_ ?_ ?_ ?_ ?Zo ?_ ?Zd ?Zg ?Zt ?Zs ?_ ?_ ?_ ?Zx ?_ ?_ ?Zi ?_ ?Zr ?Z0 ?Z1 ?Zn ?_ ?Zj ?_; (case Zo => rfl); (case Zd => rfl); (case Zt => exact Tun.out); (case Zs => kernel_rfl); (case Zg => (first | rfl | (go_simp; done) | fail)); (case Zx => rfl); (case Zi => rfl); (case Zr => (first | (refine H.rdOwn (c := ?_) (e := ?_) ?Zm1; (case Zm1 => (repeat (first | exact mh_ | assumption | apply mt_)))) | (refine H.rdRo ?Zm1; (case Zm1 => (repeat (first | exact mh_ | assumption | apply mt_)))) | (refine H.rdBlk (t := ?_) ?Zm1; (case Zm1 => (repeat (first | exact mh_ | assumption | apply mt_)))) | (with_reducible assumption) | exact Rd.none _ _ | fail)); (case Z0 => (first | (with_reducible assumption) | omega | (simp; omega) | (simp; done) | fail)); (case Z1 => (first | (with_reducible assumption) | omega | (simp; omega) | (simp; done) | fail)); (case Zn => (first | (with_reducible assumption) | omega | (simp; omega) | (simp; done) | fail)); (case Zj => first | (go_bits; rfl) | rfl | fail); try simp only [q_1, q_2, q_3, q_4])))
          go_roundw
          case rel => exact ⟨j + 1, qA, _, B, cB, by omega, by go_num, by rw [hsm.out], ⟨FI.done hIA.out (.inr ⟨hbzl, rfl⟩)⟩, ⟨FI.done (hFB.out g1) (.inr ⟨hbzl, rfl⟩)⟩, by rw [hsm.out]; exact H⟩
          case measure => simp [intOf]; omega
        | true =>
          have hbzl : bzL bs j = true := by unfold bzL; rw [hbz]; rfl
          have hv : (bs.map Value.bool)[j]? = some (.bool true) := by rw [List.getElem?_map, hbz]; rfl
          have hsm : smI bs (j + 1) = smI bs j ++ [(j : Int)] := by rw [smI_succ, hbzl]; rfl
          obtain ⟨sm, hsmd⟩ : ∃ sm, sm = smI bs j := ⟨_, rfl⟩
          have hsl := (smI_len bs j).2
          rw [← hsmd] at H hsm hsl ⊢
          rw [← hsmd] at jB
          have hsml : (sm.map (Value.int .i64)).length = sm.length := List.length_map _
          replace hsm := Aside.mk hsm
          replace hsmd := Aside.mk hsmd
          clear hbz
          go_wp2_with (first | go_skip | (go_at_call 12; refine (jB).mono ?_; rintro e_ w_ ⟨g1, rfl, HN⟩; clear jB; clear H; have H := HN; clear HN) | ((with_reducible refine wpGate ?_); first | (refine sLoad ?_ ?_ ?Zo ?_ ?Zd ?Zg ?Zs ?_ ?Zx ?_ ?Zv ?_; (case Zo => rfl); (case Zd => rfl); (case Zs => exact Tsc.out); (case Zg => (first | rfl | (go_simp; done) | fail)); (case Zx => rfl); (case Zv => (first | (refine H.cellBlk (cs := ?_) (t := ?_) ?Zm1 ?Zv1; (case Zm1 => (repeat (first | exact mh_ | assumption | apply mt_))); (case Zv1 => (first | rfl | (refine map_ix _ _ _ ?_; first | (with_reducible assumption) | omega | (simp; omega)) | (refine map_ix_app _ _ _ _ ?_; first | (with_reducible assumption) | omega | (simp; omega)) | assumption | (simp; done)))) | (refine (H.rdOwn (xs := ?_) (c := ?_) (e := ?_) ?Zm1).get ?Zv1; (case Zm1 => (repeat (first | exact mh_ | assumption | apply mt_))); (case Zv1 => (first | rfl | (refine map_ix _ _ _ ?_; first | (with_reducible assumption) | omega | (simp; omega)) | (refine map_ix_app _ _ _ _ ?_; first | (with_reducible assumption) | omega | (simp; omega)) | assumption | (simp; done)))) | (refine (H.rdRo (xs := ?_) ?Zm1).get ?Zv1; (case Zm1 => (repeat (first | exact mh_ | assumption | apply mt_))); (case Zv1 => (first | rfl | (refine map_ix _ _ _ ?_; first | (with_reducible assumption) | omega | (simp; omega)) | (refine map_ix_app _ _ _ _ ?_; first | (with_reducible assumption) | omega | (simp; omega)) | assumption | (simp; done)))) | (refine H.cellOld ?Zm1; (case Zm1 => assumption)) | fail)); try simp only [q_1, q_2, q_3, q_4]) | (refine sIndex ?_ ?_ ?_ ?_ ?Zo ?_ ?Zd ?Zg ?Zt ?Zs ?_ ?_ ?_ ?Zx ?_ ?_ ?Zi ?_ ?Zr ?Z0 ?Z1 ?Zn ?_ ?Zj ?_; (case Zo => rfl); (case Zd => rfl); (case Zt => exact Tun.out); (case Zs => kernel_rfl); (case Zg => (first | rfl | (go_simp; done) | fail)); (case Zx => rfl); (case Zi => rfl); (case Zr => (first | (refine H.rdOwn (c := ?_) (e := ?_) ?Zm1; (case Zm1 => (repeat (first | exact mh_ | assumption | apply mt_)))) | (refine H.rdRo ?Zm1; (case Zm1 => (repeat (first | exact mh_ | assumption | apply mt_)))) | (refine H.rdBlk (t := ?_) ?Zm1; (case Zm1 => (repeat (first | exact mh_ | assumption | apply mt_)))) | (with_reducible assumption) | exact Rd.none _ _ | fail)); (case Z0 => (first | (with_reducible assumption) | omega | (simp; omega) | (simp; done) | fail)); (case Z1 => (first | (with_reducible assumption) | omega | (simp; omega) | (simp; done) | fail)); (case Zn => (first | (with_reducible assumption) | omega | (simp; omega) | (simp; done) | fail)); (case Zj => first | (go_bits; rfl) | rfl | fail); try simp only [q_1, q_2, q_3, q_4]) | (refine sLitN H ?_ ?_ ?_ ?_ ?Zo ?_ ?Zd ?Zg ?Zt ?_ ?_ ?Zi ?_ ?Zv ?Zvs ?Zn ?Z1 ?Z0 ?Zm ?_; (case Zo => rfl); (case Zd => rfl); (case Zt => exact Tun.out); (case Zi => exact Tzi.out); (case Zg => (first | rfl | (go_simp; done) | fail)); (case Zv => (go_simp; rfl)); (case Zvs => rfl); (case Zn => rfl); (case Z1 => first | rfl | (simp [Value.cells, Value.oneCell']; done) | fail); (case Z0 => decide); (case Zm => decide); intro g_ w_ HN; clear H; have H := HN; clear HN; try simp only [q_1, q_2, q_3, q_4]) | (refine sLit H ?_ ?_ ?_ ?_ ?Zo ?_ ?Zd ?Zg ?_ ?Zlen ?Zm ?Zrun ?_; (case Zo => rfl); (case Zd => rfl); (case Zg => (first | rfl | (go_simp; done) | fail)); (case Zrun => first | (go_simp; done) | (go_simp; rfl)); (case Zlen => rfl); (case Zm => first | (simp [maxLen]; done) | (unfold maxLen; omega)); intro g_ w_ HN; clear H; have H := HN; clear HN; try simp only [q_1, q_2, q_3, q_4]) | (refine sAppend H ?_ ?_ ?_ ?_ ?Zo ?_ ?Zd ?Zg ?_ ?_ ?Zt ?Zi ?Zz ?_ ?_ ?_ ?Zs ?_ ?_ ?_ ?Zx ?_ ?_ ?Zp ?_ ?Zy ?Zn ?Zm ?Z1 ?Zb ?Zb2 ?_; (case Zo => rfl); (case Zd => rfl); (case Zt => exact Tun.out); (case Zi => exact Tzi.out); (case Zz => rfl); (case Zg => (first | rfl | (go_simp; done) | fail)); (case Zs => rfl); (case Zx => rfl); (case Zp => (first | exact .head | exact (.tail .head) | exact (.tail (.tail .head)) | exact (.tail (.tail (.tail .head))) | exact (.tail (.tail (.tail (.tail .head)))) | exact (.tail (.tail (.tail (.tail (.tail .head))))) | exact (.tail (.tail (.tail (.tail (.tail (.tail .head)))))) | exact (.tail (.tail (.tail (.tail (.tail (.tail (.tail .head))))))) | exact (.tail (.tail (.tail (.tail (.tail (.tail (.tail (.tail .head)))))))))); (case Zy => (first | (refine H.rdOwn (c := ?_) (e := ?_) ?Zm1; (case Zm1 => (repeat (first | exact mh_ | assumption | apply mt_)))) | (refine H.rdRo ?Zm1; (case Zm1 => (repeat (first | exact mh_ | assumption | apply mt_)))) | (refine H.rdBlk (t := ?_) ?Zm1; (case Zm1 => (repeat (first | exact mh_ | assumption | apply mt_)))) | (with_reducible assumption) | exact Rd.none _ _ | fail)); (case Zn => (first | (with_reducible assumption) | omega | (simp; omega) | (simp; done) | fail)); (case Zm => (first | (with_reducible assumption) | omega | (simp; omega) | (simp; done) | fail)); (case Z1 => (first | rfl | (simp [Value.oneCell']; done))); (case Zb => (first | (with_reducible assumption) | omega | (simp; omega) | (simp; done) | fail)); (case Zb2 => (first | (with_reducible assumption) | omega | (simp; omega) | (simp; done) | fail)); intro A_ c_ w_ HN; (try simp only [List.nil_append, map_app1, map_app2, map_app4, ← List.map_append] at HN); clear H; have H := HN; clear HN; try simp only [q_1, q_2, q_3, q_4]) | (refine sAppend0 H ?_ ?_ ?_ ?_ ?Zo ?_ ?Zd ?Zg ?_ ?_ ?Zt ?Zi ?Zz ?Zs ?_ ?_ ?_ ?Zx ?_ ?Zy ?Zm ?Z1 ?Zb ?Zb2 ?_; (case Zo => rfl); (case Zd => rfl); (case Zt => exact Tun.out); (case Zi => exact Tzi.out); (case Zz => rfl); (case Zg => (first | rfl | (go_simp; done) | fail)); (case Zs => rfl); (case Zx => rfl); (case Zy => (first | (refine H.rdOwn (c := ?_) (e := ?_) ?Zm1; (case Zm1 => (repeat (first | exact mh_ | assumption | apply mt_)))) | (refine H.rdRo ?Zm1; (case Zm1 => (repeat (first | exact mh_ | assumption | apply mt_)))) | (refine H.rdBlk (t := ?_) ?Zm1; (case Zm1 => (repeat (first | exact mh_ | assumption | apply mt_)))) | (with_reducible assumption) | exact Rd.none _ _ | fail)); (case Zm => (first | (with_reducible assumption) | omega | (simp; omega) | (simp; done) | fail)); (case Z1 => (first | rfl | (simp [Value.oneCell']; done))); (case Zb => (first | (with_reducible assumption) | omega | (simp; omega) | (simp; done) | fail)); (case Zb2 => (first | (with_reducible assumption) | omega | (simp; omega) | (simp; done) | fail)); intro A_ c_ w_ HN; (try simp only [List.nil_append, map_app1, map_app2, map_app4, ← List.map_append] at HN); clear H; have H := HN; clear HN; try simp only [q_1, q_2, q_3, q_4]) | (refine sAppendM H ?_ ?_ ?_ ?_ ?_ ?_ ?Zo ?_ ?Zd ?Zg ?_ ?_ ?Zt ?Ztn ?Zi ?Zz ?Zz1 ?_ ?_ ?_ ?Zs ?_ ?Zx ?_ ?Zmi ?_ ?_ ?Zp ?Zn ?Zb ?Zb2 ?_; (case Zo => rfl); (case Zd => rfl); (case Zt => exact Tun.out); (case Ztn => exact Tryd.underlying3); (case Zi => exact Tzi.out); (case Zz => rfl); (case Zz1 => rfl); (case Zg => (first | rfl | (go_simp; done) | fail)); (case Zs => rfl); (case Zx => rfl); (case Zmi => (first | rfl | exact (Int.toNat_of_nonneg (by omega)).symm)); (case Zp => (first | exact .head | exact (.tail .head) | exact (.tail (.tail .head)) | exact (.tail (.tail (.tail .head))) | exact (.tail (.tail (.tail (.tail .head)))) | exact (.tail (.tail (.tail (.tail (.tail .head))))) | exact (.tail (.tail (.tail (.tail (.tail (.tail .head)))))) | exact (.tail (.tail (.tail (.tail (.tail (.tail (.tail .head))))))) | exact (.tail (.tail (.tail (.tail (.tail (.tail (.tail (.tail .head)))))))))); (case Zn => (first | (with_reducible assumption) | omega | (simp; omega) | (simp; done) | fail)); (case Zb => (first | (with_reducible assumption) | omega | (simp; omega) | (simp; done) | fail)); (case Zb2 => (first | (with_reducible assumption) | omega | (simp; omega) | (simp; done) | fail)); intro A_ c_ w_ HN; clear H; have H := HN; clear HN; try simp only [q_1, q_2, q_3, q_4])))
          have HN := H.sub (M := .own A_ ((sm ++ [(j : Int)]).map (.int .i64)) c_ 3 :: .ro A (bs.map Value.bool) :: (rgE ga true (-1) qA ++ (rgE gb false (-1) (psB.set j (some ⟨g1, none, 0, 2000, 0, 0, []⟩)) ++ []))) (by repeat (first | exact List.Sublist.refl _ | exact List.nil_sublist _ | apply List.Sublist.cons_cons | apply List.Sublist.cons))
          clear H
          obtain ⟨B1, rfl⟩ : ∃ x, x = A_ := ⟨_, rfl⟩
          obtain ⟨cB1, rfl⟩ : ∃ x, x = c_ := ⟨_, rfl⟩
          have hFB := Aside.mk (hFB.out g1)
          have hpB := Aside.mk (hpB.out g1)
          have hpA := Aside.mk hpA
          have hcb := cost_ok 1000 (by decide) (by decide)
          go_loopw [16] (fun i w2_ => ∃ (t : Nat) (qA qB : List (Option Pc)) (pA pB : Pc), t ≤ 100 ∧ i = .int .i64 t ∧ Aside (Cov qA (j + 1) (FI (bzL bs) j t)) ∧ Aside (Cov qB (j + 1) (FI (bzL bs) j t)) ∧ Aside (qA[j]? = some (some pA)) ∧ Aside (qB[j]? = some (some pB)) ∧ St w w2_ (.own B1 ((sm ++ [(j : Int)]).map (.int .i64)) cB1 3 :: .ro A (bs.map .bool) :: (rgE ga true (-1) qA ++ (rgE gb false (-1) qB ++ [])))) (fun i _ => 100 - (intOf i).toNat)
          case atStart => exact ⟨0, qA, _, _, _, by omega, rfl, hIA, hFB, hpA, hpB, HN⟩
          case round =>
            clear HN hIA hFB hpA hpB
            obtain ⟨t, qA, qB, pA, pB, ht, rfl, hIA, hIB, hpA, hpB, H⟩ := hrel
            by_cases htn : t < 100
            · have z6 : decide ((t : Int) < 100) = true := decide_eq_true (by omega)
              have z6n : decide (t < 100) = true := decide_eq_true htn
              have fl : ∀ (q : List (Option Pc)) (p : Pc), Cov q (j + 1) (FI (bzL bs) j t) → q[j]? = some (some p) → p.l.length ≤ 100000000 := fun q p hC hp => by
                obtain ⟨p', hp', hF⟩ := hC.used j (by omega)
                rw [hp] at hp'
                obtain rfl := Option.some.inj (Option.some.inj hp')
                unfold FI at hF
                rw [if_pos rfl] at hF
                rw [hF.2.2.2, List.length_replicate]; omega
              have hlA := fl qA pA hIA.out hpA.out
              have hlB := fl qB pB hIB.out hpB.out
              have h16A := hIA.out.len
              have h16B := hIB.out.len
              have poA := hpA.out
              have poB := hpB.out
              have hnA : Aside (∀ A c, Cov (qA.set j (some { pA with A := A, c := c, l := pA.l ++ [1000] })) (j + 1) (FI (bzL bs) j (t + 1))) := ⟨fun A c => FI.push hIA.out (by omega) poA A c⟩
              have hnB : Aside (∀ A c, Cov (qB.set j (some { pB with A := A, c := c, l := pB.l ++ [1000] })) (j + 1) (FI (bzL bs) j (t + 1))) := ⟨fun A c => FI.push hIB.out (by omega) poB A c⟩
              have hlA16 : j < qA.length := by omega
              have hlB16 : j < qB.length := by omega
              clear hIA hIB hpA hpB fl
              go_wp2_with (first | go_skip | (go_at_call 13; refine (push_ok _ _ _ _ ga true (-1) qA (by (with_reducible first | exact .here _ | exact .skip _ (.here _) | exact .tail _ (.here _) | exact .tail _ (.skip _ (.here _)) | exact .tail _ (.tail _ (.here _)) | exact .tail _ (.tail _ (.skip _ (.here _))) | exact .tail _ (.tail _ (.tail _ (.here _))) | exact .tail _ (.tail _ (.tail _ (.skip _ (.here _)))))) h16A j pA poA _ [1000] 1 1 rfl (rd1 H) hcb (by simp) hlA H).mono ?_; rintro e_ w_ ⟨X1, c1, rfl, HN⟩; clear H; have H := HN; clear HN; have HN := H.sub (List.sublist_cons_self _ _); clear H; have H := HN; clear HN; clear h16A) | ((with_reducible refine wpGate ?_); first | (refine sLitN H ?_ ?_ ?_ ?_ ?Zo ?_ ?Zd ?Zg ?Zt ?_ ?_ ?Zi ?_ ?Zv ?Zvs ?Zn ?Z1 ?Z0 ?Zm ?_; (case Zo => rfl); (case Zd => rfl); (case Zt => exact Tun.out); (case Zi => exact Tzi.out); (case Zg => (first | rfl | (go_simp; done) | fail)); (case Zv => (go_simp; rfl)); (case Zvs => rfl); (case Zn => rfl); (case Z1 => first | rfl | (simp [Value.cells, Value.oneCell']; done) | fail); (case Z0 => decide); (case Zm => decide); intro g_ w_ HN; clear H; have H := HN; clear HN; try simp only [q_1, q_2, q_3, q_4]) | (refine sLit H ?_ ?_ ?_ ?_ ?Zo ?_ ?Zd ?Zg ?_ ?Zlen ?Zm ?Zrun ?_; (case Zo => rfl); (case Zd => rfl); (case Zg => (first | rfl | (go_simp; done) | fail)); (case Zrun => first | (go_simp; done) | (go_simp; rfl)); (case Zlen => rfl); (case Zm => first | (simp [maxLen]; done) | (unfold maxLen; omega)); intro g_ w_ HN; clear H; have H := HN; clear HN; try simp only [q_1, q_2, q_3, q_4])))
              go_wp2_with (first | go_skip | (go_at_call 13; refine (push_ok _ _ _ _ gb false (-1) qB (by (with_reducible first | exact .here _ | exact .skip _ (.here _) | exact .tail _ (.here _) | exact .tail _ (.skip _ (.here _)) | exact .tail _ (.tail _ (.here _)) | exact .tail _ (.tail _ (.skip _ (.here _))) | exact .tail _ (.tail _ (.tail _ (.here _))) | exact .tail _ (.tail _ (.tail _ (.skip _ (.here _)))))) h16B j pB poB _ [1000] 1 1 rfl (rd1 H) hcb (by simp) hlB H).mono ?_; rintro e_ w_ ⟨X2, c2, rfl, HN⟩; clear H; have H := HN; clear HN; have HN := H.sub (List.sublist_cons_self _ _); clear H; have H := HN; clear HN; clear h16B) | ((with_reducible refine wpGate ?_); first | (refine sLitN H ?_ ?_ ?_ ?_ ?Zo ?_ ?Zd ?Zg ?Zt ?_ ?_ ?Zi ?_ ?Zv ?Zvs ?Zn ?Z1 ?Z0 ?Zm ?_; (case Zo => rfl); (case Zd => rfl); (case Zt => exact Tun.out); (case Zi => exact Tzi.out); (case Zg => (first | rfl | (go_simp; done) | fail)); (case Zv => (go_simp; rfl)); (case Zvs => rfl); (case Zn => rfl); (case Z1 => first | rfl | (simp [Value.cells, Value.oneCell']; done) | fail); (case Z0 => decide); (case Zm => decide); intro g_ w_ HN; clear H; have H := HN; clear HN; try simp only [q_1, q_2, q_3, q_4]) | (refine sLit H ?_ ?_ ?_ ?_ ?Zo ?_ ?Zd ?Zg ?_ ?Zlen ?Zm ?Zrun ?_; (case Zo => rfl); (case Zd => rfl); (case Zg => (first | rfl | (go_simp; done) | fail)); (case Zrun => first | (go_simp; done) | (go_simp; rfl)); (case Zlen => rfl); (case Zm => first | (simp [maxLen]; done) | (unfold maxLen; omega)); intro g_ w_ HN; clear H; have H := HN; clear HN; try simp only [q_1, q_2, q_3, q_4])))
              go_roundw
              case rel => exact ⟨t + 1, _, _, _, _, by omega, by go_num, ⟨hnA.out X1 c1⟩, ⟨hnB.out X2 c2⟩, ⟨by rw [List.getElem?_set_self hlA16]⟩, ⟨by rw [List.getElem?_set_self hlB16]⟩, H⟩
              case measure => simp [intOf]; omega
            · have z6 : decide ((t : Int) < 100) = false := decide_eq_false (by omega)
              have z6n : decide (t < 100) = false := decide_eq_false htn
              obtain rfl : t = 100 := by omega
              go_wp2
              go_roundw
              case rel => exact ⟨j + 1, qA, qB, B1, cB1, by omega, by go_num, by rw [hsm.out, List.length_append]; rfl, ⟨FI.done hIA.out (.inl ⟨hbzl, rfl⟩)⟩, ⟨FI.done hIB.out (.inl ⟨hbzl, rfl⟩)⟩, by rw [hsm.out]; exact H⟩
              case measure => simp [intOf]; omega
    · have z3 : decide ((j : Int) < (N : Int)) = false := decide_eq_false (by omega)
      have z3n : decide (j < N) = false := decide_eq_false hjn
      obtain rfl : j = N := by omega
      clear hjn hj z3n
      have z3 : decide ((j : Int) < (j : Int)) = false := decide_eq_false (by omega)
      obtain ⟨L, hL⟩ : ∃ L, L = (smN bs j).length := ⟨_, rfl⟩
      have hsl := smI_len bs j
      rw [← hL] at hsl
      have hsl1 := hsl.1
      rw [hsl1]
      have hL16 : L ≤ j := by have := hsl.2; omega
      have hix : Aside (∀ i, i < L → ix (smI bs j) i = ((smN bs j).getD i 0 : Nat)) := ⟨fun i hi => smI_at bs j i (by omega)⟩
      have hsm16 := Aside.mk (smN_16 bs j hN16)
      have hsrt : Aside ((smN bs j).Pairwise (· < ·)) := ⟨(range_sorted j).filter _⟩
      have hlm : ((smI bs j).map (Value.int .i64)).length = L := by rw [List.length_map, hsl.1]
      have hmem : Aside (∀ i, i ∈ smN bs j ↔ i ∈ (List.range j).filter (bzL bs)) := ⟨fun i => Iff.rfl⟩
      obtain ⟨sm, hsmd⟩ : ∃ sm, sm = smN bs j := ⟨_, rfl⟩
      rw [← hsmd] at hL hix hsm16 hsrt hmem
      obtain ⟨si, hsid⟩ : ∃ si, si = smI bs j := ⟨_, rfl⟩
      rw [← hsid] at H hix hlm hsl1
      replace hL := Aside.mk hL
      clear hsl hsmd hsid
      go_wp2
      go_loopw [17, 18, 19, 20, 21, 22, 23] (fun i _ _ _ _ _ _ w2_ => ∃ (t : Nat) (psA psB : List (Option Pc)) (lA lB : Int), t ≤ T ∧ i = .int .i64 t ∧ Aside (lA + 1 = (nxS (List.range j) t : Nat)) ∧ Aside (lB + 1 = (if L = 0 then 0 else nxS sm t : Nat)) ∧ Aside (Cov psA j (FT (bzL bs) t)) ∧ Aside (Cov psB j (FT (bzL bs) t)) ∧ St w w2_ (.own B (si.map (.int .i64)) cB 3 :: .ro A (bs.map .bool) :: (rgE ga true lA psA ++ (rgE gb false lB psB ++ [])))) (fun i _ _ _ _ _ _ _ => T - (intOf i).toNat)
      case atStart => exact ⟨0, psA, psB, -1, -1, by omega, rfl, ⟨rfl⟩, ⟨by split <;> rfl⟩, hCA, hCB, H⟩
      case round =>
        clear H hCA hCB
        obtain ⟨t, psA, psB, lA, lB, ht, rfl, hlA, hlB, hCA, hCB, H⟩ := hrel
        by_cases htn : t < T
        · have z4 : decide ((t : Int) < (T : Int)) = true := decide_eq_true (by omega)
          have z4n : decide (t < T) = true := decide_eq_true htn
          have hlA := hlA.out
          have hlB := hlB.out
          have hrg : (List.range j).getD (t % j) 0 = t % j := by
            have := Nat.mod_lt t (show 0 < j by omega)
            simp [List.getD_eq_getElem?_getD, this]
          have hxA := nxt_sorted (List.range j) (okK true psA) (range_sorted j) (fun i hi => FT.okA hCA.out i hi) (fun i hi => by have := List.mem_range.1 hi; omega) (by simp; omega) t
          rw [List.length_range, hrg] at hxA
          obtain ⟨kA, hkA⟩ : ∃ kA, kA = t % j := ⟨_, rfl⟩
          have hnA : nxS (List.range j) (t + 1) = kA + 1 := by rw [nxS_succ, List.length_range, hrg, hkA]
          have hmA : Int.tmod (t : Int) (j : Int) = (kA : Int) := by rw [Int.tmod_eq_emod_of_nonneg (by omega), hkA, Int.natCast_emod]
          rw [← hkA] at hxA
          have hkAj : kA < j := by rw [hkA]; exact Nat.mod_lt _ (by omega)
          replace hkA := Aside.mk hkA
          obtain ⟨pA, hpA, hFA⟩ := hCA.out.used kA hkAj
          have hstA : Aside (∀ A c, Cov (psA.set kA (some (tP pA A c))) j (FT (bzL bs) (t + 1))) := ⟨fun A c => FT.step hCA.out (by omega) hkAj hpA A c⟩
          have tA := turn_good _ _ _ _ ga true lA psA (.tail _ (.tail _ (.here _)) : PullA (rgE ga true lA psA) (.own B (si.map (.int .i64)) cB 3 :: .ro A (bs.map .bool) :: (rgE ga true lA psA ++ (rgE gb false lB psB ++ []))) _) hCA.out.len _ hlA (nxS_le _ (fun i hi => by have := List.mem_range.1 hi; omega) t) kA pA hpA hxA (hFA.good (by omega)) H
          replace hnA := Aside.mk hnA
          clear hCA hpA hFA hxA H hrg
          go_wp2_with (first | (go_at_call 14; refine (tA).mono ?_; rintro e_ w_ ⟨X2, c2, B2, b2, rfl, HN⟩; clear tA; have H := HN.sub (List.sublist_cons_self _ _); clear HN))
          have hCA := Aside.mk (hstA.out X2 c2)
          obtain ⟨qA, hqA⟩ : ∃ qA, qA = psA.set kA (some (tP pA X2 c2)) := ⟨_, rfl⟩
          rw [← hqA] at hCA H
          clear hqA hstA
          by_cases hL0 : L = 0
          · rw [if_pos hL0] at hlB
            have hno : NxtNo 0 (okK false psB) := fun x hx => by
              cases hb : okK false psB ((0 + x) % 16) with
              | false => rfl
              | true =>
                have h1 := (FT.okB hCB.out (by omega) _ (Nat.mod_lt _ (by decide))).1 hb
                have h2 := (hmem.out _).2 h1
                have h3 : sm = [] := List.length_eq_zero_iff.1 (by rw [← hL.out]; exact hL0)
                rw [h3] at h2; cases h2
            have tB := turn_none _ _ _ _ gb false lB psB (.tail _ (.tail _ (.skip _ (.here _))) : PullA (rgE gb false lB psB) (.own B (si.map (.int .i64)) cB 3 :: .ro A (bs.map .bool) :: (rgE ga true (kA : Nat) qA ++ (rgE gb false lB psB ++ []))) _) hCB.out.len 0 hlB (by omega) hno H
            have hCB2 := Aside.mk (hCB.out.mono (fun _ _ h => FT.more h))
            have y0 : ((L : Int) == 0) = true := by rw [hL0]; rfl
            clear hno H hCB
            go_wp2_with (first | go_skip | (go_at_call 14; refine (tB).mono ?_; rintro e_ w_ ⟨rfl, H⟩; clear tB) | ((with_reducible refine wpGate ?_); first | (refine sLoad ?_ ?_ ?Zo ?_ ?Zd ?Zg ?Zs ?_ ?Zx ?_ ?Zv ?_; (case Zo => rfl); (case Zd => rfl); (case Zs => exact Tsc.out); (case Zg => (first | rfl | (go_simp; done) | fail)); (case Zx => rfl); (case Zv => (first | (refine H.cellBlk (cs := ?_) (t := ?_) ?Zm1 ?Zv1; (case Zm1 => (repeat (first | exact mh_ | assumption | apply mt_))); (case Zv1 => (first | rfl | (refine map_ix _ _ _ ?_; first | (with_reducible assumption) | omega | (simp; omega)) | (refine map_ix_app _ _ _ _ ?_; first | (with_reducible assumption) | omega | (simp; omega)) | assumption | (simp; done)))) | (refine (H.rdOwn (xs := ?_) (c := ?_) (e := ?_) ?Zm1).get ?Zv1; (case Zm1 => (repeat (first | exact mh_ | assumption | apply mt_))); (case Zv1 => (first | rfl | (refine map_ix _ _ _ ?_; first | (with_reducible assumption) | omega | (simp; omega)) | (refine map_ix_app _ _ _ _ ?_; first | (with_reducible assumption) | omega | (simp; omega)) | assumption | (simp; done)))) | (refine (H.rdRo (xs := ?_) ?Zm1).get ?Zv1; (case Zm1 => (repeat (first | exact mh_ | assumption | apply mt_))); (case Zv1 => (first | rfl | (refine map_ix _ _ _ ?_; first | (with_reducible assumption) | omega | (simp; omega)) | (refine map_ix_app _ _ _ _ ?_; first | (with_reducible assumption) | omega | (simp; omega)) | assumption | (simp; done)))) | (refine H.cellOld ?Zm1; (case Zm1 => assumption)) | fail)); try simp only [q_1, q_2, q_3, q_4]) | (refine sIndex ?_ ?_ ?_ ?_ ?Zo ?_ ?Zd ?Zg ?Zt ?Zs ?_ ?_ ?_ ?Zx ?_ ?_ ?Zi ?_ ?Zr ?Z0 ?Z1 ?Zn ?_ ?Zj ?_; (case Zo => rfl); (case Zd => rfl); (case Zt => exact Tun.out); (case Zs => kernel_rfl); (case Zg => (first | rfl | (go_simp; done) | fail)); (case Zx => rfl); (case Zi => rfl); (case Zr => (first | (refine H.rdOwn (c := ?_) (e := ?_) ?Zm1; (case Zm1 => (repeat (first | exact mh_ | assumption | apply mt_)))) | (refine H.rdRo ?Zm1; (case Zm1 => (repeat (first | exact mh_ | assumption | apply mt_)))) | (refine H.rdBlk (t := ?_) ?Zm1; (case Zm1 => (repeat (first | exact mh_ | assumption | apply mt_)))) | (with_reducible assumption) | exact Rd.none _ _ | fail)); (case Z0 => (first | (with_reducible assumption) | omega | (simp; omega) | (simp; done) | fail)); (case Z1 => (first | (with_reducible assumption) | omega | (simp; omega) | (simp; done) | fail)); (case Zn => (first | (with_reducible assumption) | omega | (simp; omega) | (simp; done) | fail)); (case Zj => first | (go_bits; rfl) | rfl | fail); try simp only [q_1, q_2, q_3, q_4])))
            go_roundw
            case rel => exact ⟨t + 1, by omega, by omega, qA, psB, kA, ⟨by rw [hnA.out]; rfl⟩, lB, ⟨hlB⟩, hCA, hCB2, by have h := H; rw [List.append_nil] at h; exact h⟩
            case measure => simp [intOf]; omega
          · rw [if_neg hL0] at hlB
            have hL1 : 0 < L := by omega
            have hxB := nxt_sorted sm (okK false psB) hsrt.out (fun i hi => (FT.okB hCB.out (by omega) i hi).trans (hmem.out i).symm) hsm16.out (by rw [← hL.out]; exact hL1) t
            rw [← hL.out] at hxB
            have hjl := Nat.mod_lt t hL1
            obtain ⟨jj, hjj⟩ : ∃ jj, jj = t % L := ⟨_, rfl⟩
            rw [← hjj] at hxB hjl
            have hmB : Int.tmod (t : Int) (L : Int) = (jj : Int) := by rw [Int.tmod_eq_emod_of_nonneg (by omega), hjj, Int.natCast_emod]
            obtain ⟨kB, hkB⟩ : ∃ kB, kB = sm.getD jj 0 := ⟨_, rfl⟩
            have hixB : ix si jj = (kB : Int) := by rw [hkB]; exact hix.out jj hjl
            have hnB : nxS sm (t + 1) = kB + 1 := by rw [nxS_succ, ← hL.out, ← hjj, hkB]
            rw [← hkB] at hxB
            obtain ⟨hkBj, pB, hpB, hFB, _⟩ := hCB.out.ok hxB.ok
            have hstB : Aside (∀ A c, Cov (psB.set kB (some (tP pB A c))) j (FT (bzL bs) (t + 1))) := ⟨fun A c => FT.step hCB.out (by omega) hkBj hpB A c⟩
            have tB := turn_good _ _ _ _ gb false lB psB (.tail _ (.tail _ (.skip _ (.here _))) : PullA (rgE gb false lB psB) (.own B (si.map (.int .i64)) cB 3 :: .ro A (bs.map .bool) :: (rgE ga true (kA : Nat) qA ++ (rgE gb false lB psB ++ []))) _) hCB.out.len _ hlB (nxS_le _ hsm16.out t) kB pB hpB hxB (hFB.good (by omega)) H
            replace hjj := Aside.mk hjj
            replace hkB := Aside.mk hkB
            replace hnB := Aside.mk hnB
            have y0 : ((L : Int) == 0) = false := by rw [beq_eq_false_iff_ne]; omega
            have y1 : decide ((0 : Int) < (L : Int)) = true := decide_eq_true (by omega)
            have y1n : decide (0 < L) = true := decide_eq_true hL1
            have hjli : (jj : Int) < (L : Int) := by omega
            clear H hCB hpB hFB hxB
            go_wp2_with (first | go_skip | (go_at_call 14; refine (tB).mono ?_; rintro e_ w_ ⟨X3, c3, B3, b3, rfl, HN⟩; clear tB; have H := HN.sub (List.sublist_cons_self _ _); clear HN) | ((with_reducible refine wpGate ?_); first | (refine sLoad ?_ ?_ ?Zo ?_ ?Zd ?Zg ?Zs ?_ ?Zx ?_ ?Zv ?_; (case Zo => rfl); (case Zd => rfl); (case Zs => exact Tsc.out); (case Zg => (first | rfl | (go_simp; done) | fail)); (case Zx => rfl); (case Zv => (first | (refine H.cellBlk (cs := ?_) (t := ?_) ?Zm1 ?Zv1; (case Zm1 => (repeat (first | exact mh_ | assumption | apply mt_))); (case Zv1 => (first | rfl | (refine map_ix _ _ _ ?_; first | (with_reducible assumption) | omega | (simp; omega)) | (refine map_ix_app _ _ _ _ ?_; first | (with_reducible assumption) | omega | (simp; omega)) | assumption | (simp; done)))) | (refine (H.rdOwn (xs := ?_) (c := ?_) (e := ?_) ?Zm1).get ?Zv1; (case Zm1 => (repeat (first | exact mh_ | assumption | apply mt_))); (case Zv1 => (first | rfl | (refine map_ix _ _ _ ?_; first | (with_reducible assumption) | omega | (simp; omega)) | (refine map_ix_app _ _ _ _ ?_; first | (with_reducible assumption) | omega | (simp; omega)) | assumption | (simp; done)))) | (refine (H.rdRo (xs := ?_) ?Zm1).get ?Zv1; (case Zm1 => (repeat (first | exact mh_ | assumption | apply mt_))); (case Zv1 => (first | rfl | (refine map_ix _ _ _ ?_; first | (with_reducible assumption) | omega | (simp; omega)) | (refine map_ix_app _ _ _ _ ?_; first | (with_reducible assumption) | omega | (simp; omega)) | assumption | (simp; done)))) | (refine H.cellOld ?Zm1; (case Zm1 => assumption)) | fail)); try simp only [q_1, q_2, q_3, q_4]) | (refine sIndex ?_ ?_ ?_ ?_ ?Zo ?_ ?Zd ?Zg ?Zt ?Zs ?_ ?_ ?_ ?Zx ?_ ?_ ?Zi ?_ ?Zr ?Z0 ?Z1 ?Zn ?_ ?Zj ?_; (case Zo => rfl); (case Zd => rfl); (case Zt => exact Tun.out); (case Zs => kernel_rfl); (case Zg => (first | rfl | (go_simp; done) | fail)); (case Zx => rfl); (case Zi => rfl); (case Zr => (first | (refine H.rdOwn (c := ?_) (e := ?_) ?Zm1; (case Zm1 => (repeat (first | exact mh_ | assumption | apply mt_)))) | (refine H.rdRo ?Zm1; (case Zm1 => (repeat (first | exact mh_ | assumption | apply mt_)))) | (refine H.rdBlk (t := ?_) ?Zm1; (case Zm1 => (repeat (first | exact mh_ | assumption | apply mt_)))) | (with_reducible assumption) | exact Rd.none _ _ | fail)); (case Z0 => (first | (with_reducible assumption) | omega | (simp; omega) | (simp; done) | fail)); (case Z1 => (first | (with_reducible assumption) | omega | (simp; omega) | (simp; done) | fail)); (case Zn => (first | (with_reducible assumption) | omega | (simp; omega) | (simp; done) | fail)); (case Zj => first | (go_bits; rfl) | rfl | fail); try simp only [q_1, q_2, q_3, q_4])))
            go_roundw
            case rel => exact ⟨t + 1, qA, _, kA, kB, by omega, by go_num, ⟨by rw [hnA.out]; rfl⟩, ⟨by rw [if_neg hL0, hnB.out]; rfl⟩, hCA, ⟨hstB.out X3 c3⟩, H⟩
            case measure => simp [intOf]; omega
        · have z4 : decide ((t : Int) < (T : Int)) = false := decide_eq_false (by omega)
          have z4n : decide (t < T) = false := decide_eq_false htn
          by_cases hj16 : j < 16
          · have z5 : decide ((j : Int) < 16) = true := decide_eq_true (by omega)
            have z5n : decide (j < 16) = true := decide_eq_true hj16
            have hfr := hCA.out.freeAt hj16
            have h16 := hCA.out.len
            go_wp2_with (first | (go_at_call 12; refine (join_ok _ _ _ _ ga true lA psA (by (with_reducible first | exact .here _ | exact .skip _ (.here _) | exact .tail _ (.here _) | exact .tail _ (.skip _ (.here _)) | exact .tail _ (.tail _ (.here _)) | exact .tail _ (.tail _ (.skip _ (.here _))) | exact .tail _ (.tail _ (.tail _ (.here _))) | exact .tail _ (.tail _ (.tail _ (.skip _ (.here _)))))) h16 j hfr 2000 (by decide) (by decide) H).mono ?_; rintro e_ w_ ⟨g0, rfl, HN⟩; clear H; have H := HN; clear HN))
            (go_ret; exact ⟨rfl, H.sub (List.nil_sublist _)⟩)
          · have z5 : decide ((j : Int) < 16) = false := decide_eq_false (by omega)
            have z5n : decide (j < 16) = false := decide_eq_false hj16
            obtain rfl : j = 16 := by omega
            have hal := hCA.out.all
            have h16 := hCA.out.len
            go_wp2_with (first | (go_at_call 12; refine (join_many2 _ _ _ _ ga true lA psA (by (with_reducible first | exact .here _ | exact .skip _ (.here _) | exact .tail _ (.here _) | exact .tail _ (.skip _ (.here _)) | exact .tail _ (.tail _ (.here _)) | exact .tail _ (.tail _ (.skip _ (.here _))) | exact .tail _ (.tail _ (.tail _ (.here _))) | exact .tail _ (.tail _ (.tail _ (.skip _ (.here _)))))) h16 E hE hal 2000 (by decide) (by decide) H).mono ?_; rintro e_ w_ ⟨rfl, HN⟩; clear H; have H := HN; clear HN))
            (go_ret; exact ⟨rfl, H.sub (List.nil_sublist _)⟩)
end Go.Proofs.YtgbgplhiiaiifaaDoor
