/- DrrFair, walked. No condition. -/
import Derived.Test.YtgbgplhiiaiifaaDoorKp
namespace Go.Proofs.YtgbgplhiiaiifaaDoor
set_option linter.unusedVariables false
set_option linter.unusedSimpArgs false
open Go.RowKit

set_option maxRecDepth 100000 in
set_option maxHeartbeats 4000000 in
theorem drrFair_any (w : World) (p0 q0 n0 : Int) (A : Option Addr) (cs : List Int) (c : Nat) (hA : Rd w A (cs.map (.int .i64))) :
    Calls Tryd.prog 4 #[.int .i64 p0, .int .i64 q0, .int .i64 n0, .slice A cs.length c] w fun e w' => e = .returned (.bool true) ∧ St w w' [] := by
  have H := St.ro1 hA
  have hp1 : 0 ≤ p0 % 3000 := Int.emod_nonneg _ (by decide)
  have hp2 : p0 % 3000 < 3000 := Int.emod_lt_of_pos _ (by decide)
  have hq1 : 0 ≤ q0 % 3000 := Int.emod_nonneg _ (by decide)
  have hq2 : q0 % 3000 < 3000 := Int.emod_lt_of_pos _ (by decide)
  have hn1 : 0 ≤ n0 % 60 := Int.emod_nonneg _ (by decide)
  have hn2 : n0 % 60 < 60 := Int.emod_lt_of_pos _ (by decide)
  have np := fun w => number_any p0 3000 w (by decide) (by decide)
  have nq := fun w => number_any q0 3000 w (by decide) (by decide)
  have nn := fun w => number_any n0 60 w (by decide) (by decide)
  obtain ⟨pp, hpp⟩ : ∃ q, q = p0 % 3000 := ⟨_, rfl⟩
  obtain ⟨qq, hqq⟩ : ∃ q, q = q0 % 3000 := ⟨_, rfl⟩
  obtain ⟨n, hm⟩ : ∃ m : Nat, n0 % 60 = (m : Int) := ⟨(n0 % 60).toNat, by omega⟩
  rw [← hpp] at hp1 hp2 np
  rw [← hqq] at hq1 hq2 nq
  rw [hm] at hn1 hn2 nn
  clear hpp hqq hm
  obtain ⟨P, hP⟩ : ∃ Q, pp + 1024 = Q := ⟨_, rfl⟩
  obtain ⟨Q, hQ⟩ : ∃ Q, qq + 1024 = Q := ⟨_, rfl⟩
  have hPb : 1024 ≤ P ∧ P ≤ 4023 := by omega
  have hQb : 1024 ≤ Q ∧ Q ≤ 4023 := by omega
  by_cases hl : 40 < cs.length
  · have z1 : decide ((40 : Int) < (cs.length : Int)) = true := decide_eq_true (by omega)
    go_enter Tryd.func4, Tryd.ntmps4
    go_wp2_with (first | (go_at_call 9; refine (first25_any _ _ _ H).mono ?_; rintro e_ w_ ⟨rfl, HN⟩; clear H; have H := HN; clear HN) | (go_at_call 10; (with_reducible refine (np _).mono ?_); rintro e_ w_ ⟨rfl, rfl⟩; ) | (go_at_call 10; (with_reducible refine (nq _).mono ?_); rintro e_ w_ ⟨rfl, rfl⟩; ) | (go_at_call 10; (with_reducible refine (nn _).mono ?_); rintro e_ w_ ⟨rfl, rfl⟩; ))
    (go_ret; exact ⟨rfl, H.sub (List.nil_sublist _)⟩)
  have z1 : decide ((40 : Int) < (cs.length : Int)) = false := decide_eq_false (by omega)
  by_cases hl0 : cs.length = 0
  · have z2 : ((cs.length : Int) == 0) = true := by rw [hl0]; rfl
    go_enter Tryd.func4, Tryd.ntmps4
    go_wp2_with (first | (go_at_call 9; refine (first25_any _ _ _ H).mono ?_; rintro e_ w_ ⟨rfl, HN⟩; clear H; have H := HN; clear HN) | (go_at_call 10; (with_reducible refine (np _).mono ?_); rintro e_ w_ ⟨rfl, rfl⟩; ) | (go_at_call 10; (with_reducible refine (nq _).mono ?_); rintro e_ w_ ⟨rfl, rfl⟩; ) | (go_at_call 10; (with_reducible refine (nn _).mono ?_); rintro e_ w_ ⟨rfl, rfl⟩; ))
    (go_ret; exact ⟨rfl, H.sub (List.nil_sublist _)⟩)
  have z2 : ((cs.length : Int) == 0) = false := by rw [beq_eq_false_iff_ne]; omega
  have hl60 : cs.length ≤ 40 := by omega
  have hl1 : 0 < cs.length := by omega
  clear hl hl0 hA
  go_enter Tryd.func4, Tryd.ntmps4
  go_wp2_with (first | (go_at_call 9; refine (first25_any _ _ _ H).mono ?_; rintro e_ w_ ⟨rfl, HN⟩; clear H; have H := HN; clear HN) | (go_at_call 10; (with_reducible refine (np _).mono ?_); rintro e_ w_ ⟨rfl, rfl⟩; ) | (go_at_call 10; (with_reducible refine (nq _).mono ?_); rintro e_ w_ ⟨rfl, rfl⟩; ) | (go_at_call 10; (with_reducible refine (nn _).mono ?_); rintro e_ w_ ⟨rfl, rfl⟩; ) | (go_at_call 11; refine (new_any _ false).mono ?_; rintro e_ w_ ⟨g, rfl, HM⟩; have HN := H.call HM (new_rw _ _); clear HM; clear H; have H := HN; clear HN))
  have HN : St w w_ (.ro A (cs.map (.int .i64)) :: (rgE g false (-1) (List.replicate 16 none) ++ [])) := by rw [List.append_nil]; exact H.perm List.perm_append_comm
  clear H
  have H := HN
  clear HN
  have hf0 := (Cov.nil (FP P Q 0 0)).freeAt (by decide)
  have j0 := join_ok _ _ _ _ g false (-1) (List.replicate 16 none) (.tail _ (.here []) : PullA (rgE g false (-1) (List.replicate 16 none)) (.ro A (cs.map (.int .i64)) :: (rgE g false (-1) (List.replicate 16 none) ++ [])) _) rfl 0 hf0 P (by omega) (by omega) H
  go_wp2_with (first | (go_at_call 12; refine (j0).mono ?_; rintro e_ w_ ⟨g0, rfl, HN⟩; clear j0; clear H; have H := HN; clear HN))
  have hC1 := (Cov.nil (FP P Q 0 0)).join (by decide) ⟨g0, none, 0, P, 0, 0, []⟩ ⟨⟨by simp, by simp, by simp; omega, by simp; omega, by simp, by simp, by simp⟩, rfl, by simp, by simp⟩
  obtain ⟨p1, hp1'⟩ : ∃ p1, p1 = (List.replicate 16 none).set 0 (some (⟨g0, none, 0, P, 0, 0, []⟩ : Pc)) := ⟨_, rfl⟩
  rw [← hp1'] at hC1 H
  clear hp1' hf0
  have hf1 := hC1.freeAt (by decide)
  have j1 := join_ok _ _ _ _ g false (-1) p1 (.tail _ (.here []) : PullA (rgE g false (-1) p1) (.ro A (cs.map (.int .i64)) :: (rgE g false (-1) p1 ++ [])) _) hC1.len 1 hf1 Q (by omega) (by omega) H
  go_wp2_with (first | (go_at_call 12; refine (j1).mono ?_; rintro e_ w_ ⟨g1, rfl, HN⟩; clear j1; clear H; have H := HN; clear HN))
  have hC2 := hC1.join (by decide) ⟨g1, none, 0, Q, 0, 0, []⟩ ⟨⟨by simp, by simp, by simp; omega, by simp; omega, by simp, by simp, by simp⟩, rfl, by simp, by simp⟩
  obtain ⟨p2, hp2'⟩ : ∃ p2, p2 = p1.set 1 (some (⟨g1, none, 0, Q, 0, 0, []⟩ : Pc)) := ⟨_, rfl⟩
  rw [← hp2'] at hC2 H
  clear hp2' hf1 hC1
  have hI : Aside (FairI P Q 0 0 0 p2) := ⟨hC2, .inl ⟨rfl, .inl rfl⟩⟩
  clear hC2
  go_loopw [16, 15, 17, 18, 19, 20, 21] (fun i k _ _ _ _ _ w2_ => ∃ (j nx : Nat) (kv ta tb lst : Int) (ps : List (Option Pc)), j ≤ n ∧ i = .int .i64 j ∧ k = .int .i64 kv ∧ 0 ≤ kv ∧ kv ≤ 100000 * (j : Int) ∧ lst + 1 = (nx : Int) ∧ ta + tb = (j : Int) ∧ 0 ≤ tb ∧ Aside (FairI P Q ta tb nx ps) ∧ St w w2_ (.ro A (cs.map (.int .i64)) :: (rgE g false lst ps ++ []))) (fun i _ _ _ _ _ _ _ => n - (intOf i).toNat)
  case atStart => exact ⟨0, 0, 0, 0, 0, -1, p2, by omega, rfl, rfl, by omega, by omega, by omega, by omega, by omega, hI, H⟩
  case round =>
    clear H hI
    obtain ⟨j, nx, kv, ta, tb, lst, ps, hj, rfl, rfl, hk0, hk1, hlst, htt, htb, hI, H⟩ := hrel
    by_cases hjn : j < n
    · have z3 : decide ((j : Int) < (n : Int)) = true := decide_eq_true (by omega)
      have z3n : decide (j < n) = true := decide_eq_true hjn
      have hta : 0 ≤ ta ∧ ta ≤ 60 := by rcases hI.out.near with ⟨h, _⟩ | ⟨h, _⟩ <;> omega
      have htb2 : 0 ≤ tb ∧ tb ≤ 60 := by omega
      have hj59 : j < 60 := by omega
      go_wp2
      go_loopw [17, 15] (fun v k w2_ => ∃ (u : Nat) (kv : Int) (ps : List (Option Pc)), u ≤ 2 ∧ v = .int .i64 u ∧ k = .int .i64 kv ∧ 0 ≤ kv ∧ kv ≤ 100000 * (j : Int) + 45000 * (u : Int) ∧ Aside (FairI P Q ta tb nx ps) ∧ Aside (∀ (i : Nat) (p : Pc), i < u → ps[i]? = some (some p) → 20000 ≤ p.l.sum) ∧ St w w2_ (.ro A (cs.map (.int .i64)) :: (rgE g false lst ps ++ []))) (fun v _ _ => 3 - (intOf v).toNat)
      case atStart => exact ⟨0, kv, ps, by omega, rfl, rfl, hk0, by omega, hI, ⟨fun i p h => by omega⟩, H⟩
      case round =>
        clear H hI hk0 hk1
        obtain ⟨u, kv, ps, hu, rfl, rfl, hk0, hk1, hI, hfl, H⟩ := hrel
        by_cases hu2 : u < 2
        · have z4 : decide ((u : Int) ≤ 1) = true := decide_eq_true (by omega)
          obtain ⟨p, hp, hF⟩ := hI.out.at hu2
          have hp := Aside.mk hp
          have hsum0 : 0 ≤ p.l.sum := by have := sum_pos p.l (fun c hc => (hF.1.c c hc).1); omega
          go_wp2
          go_loopw [15] (fun k w2_ => ∃ (kv : Int) (ps : List (Option Pc)) (p : Pc), k = .int .i64 kv ∧ 0 ≤ kv ∧ kv ≤ 100000 * (j : Int) + 45000 * (u : Int) + 2 * p.l.sum ∧ Aside (FairI P Q ta tb nx ps) ∧ Aside (ps[u]? = some (some p)) ∧ Aside (∀ (i : Nat) (p : Pc), i < u → ps[i]? = some (some p) → 20000 ≤ p.l.sum) ∧ St w w2_ (.ro A (cs.map (.int .i64)) :: (rgE g false lst ps ++ []))) (fun k _ => 10000000 - (intOf k).toNat)
          case atStart => exact ⟨kv, ps, p, rfl, hk0, by omega, hI, hp, hfl, H⟩
          case round =>
            clear H hI hfl hk0 hk1 hp hF hsum0
            obtain ⟨kv, ps, p, rfl, hk0, hk1, hI, hp, hfl, H⟩ := hrel
            obtain ⟨p', hp', hF⟩ := hI.out.at hu2
            rw [hp.out] at hp'
            obtain rfl := Option.some.inj (Option.some.inj hp')
            have hcs := hF.1.c
            have hlen := hF.1.len
            have hsum1 : 0 ≤ p.l.sum := by have := sum_pos p.l (fun c hc => (hcs c hc).1); omega
            have hsum2 := hF.2.2.2
            have h16 := hI.out.cov.len
            have hpo := hp.out
            have hw := waiting_at _ _ _ _ g false lst ps (.tail _ (.here []) : PullA (rgE g false lst ps) (.ro A (cs.map (.int .i64)) :: (rgE g false lst ps ++ [])) _) h16 u p hpo H (by omega)
            by_cases hs2 : p.l.sum < 20000
            · have z5 : decide (p.l.sum < 20000) = true := decide_eq_true hs2
              obtain ⟨mm, hmod, hmm⟩ : ∃ mm : Nat, Int.tmod kv (cs.length : Int) = (mm : Int) ∧ mm < cs.length := by
                have h1 := Int.emod_nonneg kv (show (cs.length : Int) ≠ 0 by omega)
                have h2 := Int.emod_lt_of_pos kv (show (0 : Int) < (cs.length : Int) by omega)
                exact ⟨(kv % (cs.length : Int)).toNat, by rw [Int.tmod_eq_emod_of_nonneg hk0]; omega, by omega⟩
              have hmi : (mm : Int) < (cs.length : Int) := by omega
              have hlenA : (cs.map (Value.int .i64)).length = cs.length := List.length_map _
              have hd1 : 0 ≤ ix cs mm % 1024 := Int.emod_nonneg _ (by decide)
              have hd2 : ix cs mm % 1024 < 1024 := Int.emod_lt_of_pos _ (by decide)
              have nd := fun w => number_any (ix cs mm) 1024 w (by decide) (by decide)
              obtain ⟨d, hd⟩ : ∃ d, d = ix cs mm % 1024 := ⟨_, rfl⟩
              rw [← hd] at hd1 hd2 nd
              clear hd
              have hcb := cost_ok (d + 1) (by omega) (by omega)
              have hl8 : p.l.length ≤ 100000000 := by omega
              have hI2 : Aside (∀ A c, FairI P Q ta tb nx (ps.set u (some { p with A := A, c := c, l := p.l ++ [d + 1] }))) := ⟨fun A c => hI.out.push hPb hQb hta htb2 u hu2 p hpo (d + 1) (by omega) (by omega) hs2 A c⟩
              have hul : u < ps.length := by omega
              have hfl2 : Aside (∀ (q : Pc) (i : Nat) (p : Pc), i < u → (ps.set u (some q))[i]? = some (some p) → 20000 ≤ p.l.sum) := ⟨fun q i p hi he => hfl.out i p hi (by rw [List.getElem?_set_ne (by omega)] at he; exact he)⟩
              have hz0 : ((cs.length : Int) == 0) = false := z2
              clear H hI hp hF hfl
              go_wp2_with (first | go_skip | (go_at_call 16; refine (hw).mono ?_; rintro e_ w_ ⟨X3, c3, rfl, H⟩; clear hw) | (go_at_call 15; refine (sum_any _ _ _ X3 p.l _ c3 c3 rfl (List.mem_cons_self ..) hcs hlen H).mono ?_; rintro e_ w_ ⟨rfl, HN⟩; clear H; have H := HN; clear HN) | (go_at_call 10; refine (nd _).mono ?_; rintro e_ w_ ⟨rfl, rfl⟩; ) | (go_at_call 13; refine (push_ok _ _ _ _ g false lst ps (by (with_reducible first | exact .here _ | exact .tail _ (.here _) | exact .tail _ (.tail _ (.here _)) | exact .tail _ (.tail _ (.tail _ (.here _))) | exact .skip _ (.here _) | exact .tail _ (.skip _ (.here _)) | exact .tail _ (.tail _ (.skip _ (.here _))))) h16 u p hpo _ [d + 1] 1 1 rfl (rd1 H) hcb (by simp) hl8 H).mono ?_; rintro e_ w_ ⟨X1, c1, rfl, HN⟩; have H := HN.sub ((List.sublist_cons_self _ _).trans (List.sublist_cons_self _ _)); clear HN) | ((with_reducible refine wpGate ?_); first | (refine sLoad ?_ ?_ ?Zo ?_ ?Zd ?Zg ?Zs ?_ ?Zx ?_ ?Zv ?_; (case Zo => rfl); (case Zd => rfl); (case Zs => exact Tsc.out); (case Zg => (first | rfl | (go_simp; done) | fail)); (case Zx => rfl); (case Zv => (first | (refine H.cellBlk (cs := ?_) (t := ?_) ?Zm1 ?Zv1; (case Zm1 => (repeat (first | exact mh_ | assumption | apply mt_))); (case Zv1 => (first | rfl | (refine map_ix _ _ _ ?_; first | (with_reducible assumption) | omega | (simp; omega)) | (refine map_ix_app _ _ _ _ ?_; first | (with_reducible assumption) | omega | (simp; omega)) | assumption | (simp; done)))) | (refine (H.rdOwn (xs := ?_) (c := ?_) (e := ?_) ?Zm1).get ?Zv1; (case Zm1 => (repeat (first | exact mh_ | assumption | apply mt_))); (case Zv1 => (first | rfl | (refine map_ix _ _ _ ?_; first | (with_reducible assumption) | omega | (simp; omega)) | (refine map_ix_app _ _ _ _ ?_; first | (with_reducible assumption) | omega | (simp; omega)) | assumption | (simp; done)))) | (refine (H.rdRo (xs := ?_) ?Zm1).get ?Zv1; (case Zm1 => (repeat (first | exact mh_ | assumption | apply mt_))); (case Zv1 => (first | rfl | (refine map_ix _ _ _ ?_; first | (with_reducible assumption) | omega | (simp; omega)) | (refine map_ix_app _ _ _ _ ?_; first | (with_reducible assumption) | omega | (simp; omega)) | assumption | (simp; done)))) | (refine H.cellOld ?Zm1; (case Zm1 => assumption)) | fail)); try simp only [q_1, q_2, q_3, q_4]) | (refine sIndex ?_ ?_ ?_ ?_ ?Zo ?_ ?Zd ?Zg ?Zt ?Zs ?_ ?_ ?_ ?Zx ?_ ?_ ?Zi ?_ ?Zr ?Z0 ?Z1 ?Zn ?_ ?Zj ?_; (case Zo => rfl); (case Zd => rfl); (case Zt => exact Tun.out); (case Zs => kernel_rfl); (case Zg => (first | rfl | (go_simp; done) | fail)); (case Zx => rfl); (case Zi => rfl); (case Zr => (first | (refine H.rdOwn (c := ?_) (e := ?_) ?Zm1; (case Zm1 => (repeat (first | exact mh_ | assumption | apply mt_)))) | (refine H.rdRo ?Zm1; (case Zm1 => (repeat (first | exact mh_ | assumption | apply mt_)))) | (refine H.rdBlk (t := ?_) ?Zm1; (case Zm1 => (repeat (first | exact mh_ | assumption | apply mt_)))) | (with_reducible assumption) | exact Rd.none _ _ | fail)); (case Z0 => (first | (with_reducible assumption) | omega | (simp; omega) | (simp; done) | fail)); (case Z1 => (first | (with_reducible assumption) | omega | (simp; omega) | (simp; done) | fail)); (case Zn => (first | (with_reducible assumption) | omega | (simp; omega) | (simp; done) | fail)); (case Zj => first | (go_bits; rfl) | rfl | fail); try simp only [q_1, q_2, q_3, q_4]) | (refine sLitN H ?_ ?_ ?_ ?_ ?Zo ?_ ?Zd ?Zg ?Zt ?_ ?_ ?Zi ?_ ?Zv ?Zvs ?Zn ?Z1 ?Z0 ?Zm ?_; (case Zo => rfl); (case Zd => rfl); (case Zt => exact Tun.out); (case Zi => exact Tzi.out); (case Zg => (first | rfl | (go_simp; done) | fail)); (case Zv => (go_simp; rfl)); (case Zvs => rfl); (case Zn => rfl); (case Z1 => first | rfl | (simp [Value.cells, Value.oneCell']; done) | fail); (case Z0 => decide); (case Zm => decide); intro g_ w_ HN; clear H; have H := HN; clear HN; try simp only [q_1, q_2, q_3, q_4]) | (refine sLit H ?_ ?_ ?_ ?_ ?Zo ?_ ?Zd ?Zg ?_ ?Zlen ?Zm ?Zrun ?_; (case Zo => rfl); (case Zd => rfl); (case Zg => (first | rfl | (go_simp; done) | fail)); (case Zrun => first | (go_simp; done) | (go_simp; rfl)); (case Zlen => rfl); (case Zm => first | (simp [maxLen]; done) | (unfold maxLen; omega)); intro g_ w_ HN; clear H; have H := HN; clear HN; try simp only [q_1, q_2, q_3, q_4])))
              go_roundw
              case rel => exact ⟨kv + (u : Int) + 1, _, { p with A := X1, c := c1, l := p.l ++ [d + 1] }, by go_num, by omega, by simp only [List.sum_append, List.sum_cons, List.sum_nil]; omega, ⟨hI2.out X1 c1⟩, ⟨by rw [List.getElem?_set_self hul]⟩, ⟨hfl2.out _⟩, H⟩
              case measure => simp [intOf]; omega
            · have z5 : decide (p.l.sum < 20000) = false := decide_eq_false hs2
              have hfl2 : Aside (∀ (i : Nat) (q : Pc), i < u + 1 → ps[i]? = some (some q) → 20000 ≤ q.l.sum) := ⟨fun i q hi he => if h : i < u then hfl.out i q h he else by
                rw [show i = u by omega, hpo] at he
                obtain rfl := Option.some.inj (Option.some.inj he)
                omega⟩
              clear H hp hF hfl
              go_wp2_with (first | (go_at_call 16; refine (hw).mono ?_; rintro e_ w_ ⟨X3, c3, rfl, H⟩; clear hw) | (go_at_call 15; refine (sum_any _ _ _ X3 p.l _ c3 c3 rfl (List.mem_cons_self ..) hcs hlen H).mono ?_; rintro e_ w_ ⟨rfl, HN⟩; clear H; have H := HN; clear HN))
              go_roundw
              case rel => exact ⟨u + 1, kv, ps, by omega, by go_num, rfl, hk0, by omega, hI, hfl2, H.sub (List.sublist_cons_self _ _)⟩
              case measure => simp [intOf]; omega
        · have z4 : decide ((u : Int) ≤ 1) = false := decide_eq_false (by omega)
          obtain rfl : u = 2 := by omega
          have hff : ∀ (i : Nat) (p : Pc), ps[i]? = some (some p) → 20000 ≤ p.l.sum := fun i p he => by
            rcases Nat.lt_or_ge i 2 with h | h
            · exact hfl.out i p h he
            · have := hI.out.cov.free i h
              rcases Nat.lt_or_ge i 16 with h2 | h2
              · rw [this h2] at he; cases he
              · rw [List.getElem?_eq_none (by have := hI.out.cov.len; omega)] at he; cases he
          obtain ⟨j0, p, hj0, hp, hx, hG, ho1, ho2, hnext⟩ := hI.out.turn hPb hQb hff
          have hnx : nx ≤ 16 := by rcases hI.out.near with ⟨_, h⟩ | ⟨_, h⟩ <;> omega
          have ht := turn_good _ _ _ _ g false lst ps (.tail _ (.here []) : PullA (rgE g false lst ps) (.ro A (cs.map (.int .i64)) :: (rgE g false lst ps ++ [])) _) hI.out.cov.len nx hlst hnx j0 p hp hx hG H
          obtain ⟨o, ho⟩ : ∃ o, o = (sv (p.d + p.q) p.l).1.sum := ⟨_, rfl⟩
          rw [← ho] at ho1 ho2 ht
          have z5 : decide (o < 1) = false := decide_eq_false (by omega)
          replace hnext := Aside.mk hnext
          replace ho := Aside.mk ho
          clear H hI hfl hff hp hx hG
          go_wp2_with (first | (go_at_call 14; refine (ht).mono ?_; rintro e_ w_ ⟨X2, c2, B2, b2, rfl, HN⟩; clear ht; have H := HN.sub (List.sublist_cons_self _ _); clear HN))
          obtain ⟨ta2, tb2, e1, e2, hI⟩ := hnext.out X2 c2
          obtain ⟨qs, hqs⟩ : ∃ qs, qs = ps.set j0 (some (tP p X2 c2)) := ⟨_, rfl⟩
          rw [← hqs] at hI H
          clear hqs hnext
          obtain ⟨pa, hpa, hFa⟩ := hI.at (show 0 < 2 by decide)
          obtain ⟨pb, hpb, hFb⟩ := hI.at (show 1 < 2 by decide)
          have hta2 : 0 ≤ ta2 ∧ ta2 ≤ 60 := by rcases hI.near with ⟨h, _⟩ | ⟨h, _⟩ <;> omega
          have htb3 : 0 ≤ tb2 ∧ tb2 ≤ 60 := by rcases hI.near with ⟨h, _⟩ | ⟨h, _⟩ <;> omega
          have h16 := hI.cov.len
          obtain ⟨b1, b2'⟩ := fair_bound P Q ta2 tb2 pa.d pb.d pa.s pb.s hPb.1 hQb.1 hFa.2.2.1 hFb.2.2.1 (by rcases hI.near with ⟨h, _⟩ | ⟨h, _⟩ <;> omega) hFa.1.d0 hFa.1.d1 hFb.1.d0 hFb.1.d1
          have hsa := hFa.s_le hPb hQb hta2 htb3
          have hsb := hFb.s_le hPb hQb hta2 htb3
          have hX1 : 0 ≤ pa.s * Q := Int.mul_nonneg hFa.1.s0 (by omega)
          have hX2 : pa.s * Q ≤ 250000 * 4023 := Int.mul_le_mul hsa hQb.2 (by omega) (by omega)
          have hY1 : 0 ≤ pb.s * P := Int.mul_nonneg hFb.1.s0 (by omega)
          have hY2 : pb.s * P ≤ 250000 * 4023 := Int.mul_le_mul hsb hPb.2 (by omega) (by omega)
          have hZ1 : 0 ≤ P * Q := Int.mul_nonneg (by omega) (by omega)
          have hZ2 : P * Q ≤ 4023 * 4023 := Int.mul_le_mul hPb.2 hQb.2 (by omega) (by omega)
          obtain ⟨X, hX⟩ : ∃ X, pa.s * Q = X := ⟨_, rfl⟩
          obtain ⟨Y, hY⟩ : ∃ Y, pb.s * P = Y := ⟨_, rfl⟩
          obtain ⟨Z, hZ⟩ : ∃ Z, P * Q = Z := ⟨_, rfl⟩
          rw [hX] at b1 b2' hX1 hX2
          rw [hY] at b1 b2' hY1 hY2
          rw [hZ] at b1 b2' hZ1 hZ2
          have hI2 := Aside.mk hI
          clear hFa hFb hI hsa hsb
          have sa : Calls Tryd.prog 17 #[.pointer (some ⟨g, 0, none⟩), .int .i64 0] _ fun e w' => e = .returned (.int .i64 pa.s) ∧ w' = _ := served_at _ _ _ _ g false _ qs (.tail _ (.here []) : PullA (rgE g false _ qs) (.ro A (cs.map (.int .i64)) :: (rgE g false _ qs ++ [])) _) h16 0 pa hpa H
          have sb : Calls Tryd.prog 17 #[.pointer (some ⟨g, 0, none⟩), .int .i64 1] _ fun e w' => e = .returned (.int .i64 pb.s) ∧ w' = _ := served_at _ _ _ _ g false _ qs (.tail _ (.here []) : PullA (rgE g false _ qs) (.ro A (cs.map (.int .i64)) :: (rgE g false _ qs ++ [])) _) h16 1 pb hpb H
          by_cases hneg : X - Y < 0
          · have z6 : decide (X - Y < 0) = true := decide_eq_true hneg
            have z7 : decide (Z + 1024 * Q + 1024 * P < -(X - Y)) = false := decide_eq_false (by omega)
            go_wp2_with (first | (go_at_call 17; refine (sa).mono ?_; rintro e_ w_ ⟨rfl, rfl⟩; clear sa) | (go_at_call 17; refine (sb).mono ?_; rintro e_ w_ ⟨rfl, rfl⟩; clear sb))
            go_roundw
            case rel => exact ⟨j + 1, j0 + 1, kv, ta2, tb2, _, qs, by omega, by go_num, rfl, hk0, by omega, by omega, by omega, by omega, hI2, H⟩
            case measure => simp [intOf]; omega
          · have z6 : decide (X - Y < 0) = false := decide_eq_false hneg
            have z7 : decide (Z + 1024 * Q + 1024 * P < X - Y) = false := decide_eq_false (by omega)
            go_wp2_with (first | (go_at_call 17; refine (sa).mono ?_; rintro e_ w_ ⟨rfl, rfl⟩; clear sa) | (go_at_call 17; refine (sb).mono ?_; rintro e_ w_ ⟨rfl, rfl⟩; clear sb))
            go_roundw
            case rel => exact ⟨j + 1, j0 + 1, kv, ta2, tb2, _, qs, by omega, by go_num, rfl, hk0, by omega, by omega, by omega, by omega, hI2, H⟩
            case measure => simp [intOf]; omega
    · have z3 : decide ((j : Int) < (n : Int)) = false := decide_eq_false (by omega)
      have z3n : decide (j < n) = false := decide_eq_false hjn
      go_wp2
      (go_ret; exact ⟨rfl, H.sub (List.nil_sublist _)⟩)
end Go.Proofs.YtgbgplhiiaiifaaDoor
