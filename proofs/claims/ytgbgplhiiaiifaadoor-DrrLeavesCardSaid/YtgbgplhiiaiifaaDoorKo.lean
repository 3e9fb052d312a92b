/- DrrLeaves, walked: the walk. No condition. -/
import Derived.Test.YtgbgplhiiaiifaaDoorKn
namespace Go.Proofs.YtgbgplhiiaiifaaDoor
set_option linter.unusedVariables false
set_option linter.unusedSimpArgs false
open Go.RowKit

set_option maxRecDepth 100000 in
set_option maxHeartbeats 4000000 in
theorem drrLeaves_any (w : World) (n0 at0 t0 : Int) :
    Calls Tryd.prog 7 #[.int .i64 n0, .int .i64 at0, .int .i64 t0] w fun e w' => e = .returned (.bool true) ∧ St w w' [] := by
  have H := St.start w
  have hn1 : 0 ≤ n0 % 10 := Int.emod_nonneg _ (by decide)
  have hn2 : n0 % 10 < 10 := Int.emod_lt_of_pos _ (by decide)
  have ht1 : 0 ≤ t0 % 30 := Int.emod_nonneg _ (by decide)
  have ht2 : t0 % 30 < 30 := Int.emod_lt_of_pos _ (by decide)
  have nn := fun w => number_any n0 10 w (by decide) (by decide)
  have nt := fun w => number_any t0 30 w (by decide) (by decide)
  obtain ⟨m, hm⟩ : ∃ m, n0 % 10 = m := ⟨_, rfl⟩
  rw [hm] at nn hn1 hn2
  clear hm
  obtain ⟨N, hN⟩ : ∃ N : Nat, m + 2 = (N : Int) := ⟨(m + 2).toNat, by omega⟩
  have hN2 : 2 ≤ N := by omega
  have hN11 : N ≤ 11 := by omega
  have na := fun w => number_any at0 N w (by omega) (by omega)
  obtain ⟨a, ha, haN⟩ : ∃ a : Nat, at0 % (N : Int) = (a : Int) ∧ a < N := by
    have h1 := Int.emod_nonneg at0 (show (N : Int) ≠ 0 by omega)
    have h2 := Int.emod_lt_of_pos at0 (show (0 : Int) < (N : Int) by omega)
    exact ⟨(at0 % (N : Int)).toNat, by omega, by omega⟩
  rw [ha] at na
  obtain ⟨t, ht⟩ : ∃ t : Nat, t0 % 30 = (t : Int) := ⟨(t0 % 30).toNat, by omega⟩
  rw [ht] at nt
  have ht30 : t < 30 := by omega
  clear ha ht ht1 ht2
  go_enter Tryd.func7, Tryd.ntmps7
  go_wp2_with (first | (go_at_call 9; refine (first25_any _ _ _ H).mono ?_; rintro e_ w_ ⟨rfl, HN⟩; clear H; have H := HN; clear HN) | (go_at_call 10; (with_reducible refine (nn _).mono ?_); rintro e_ w_ ⟨rfl, rfl⟩; ) | (go_at_call 10; (with_reducible refine (na _).mono ?_); rintro e_ w_ ⟨rfl, rfl⟩; ) | (go_at_call 10; (with_reducible refine (nt _).mono ?_); rintro e_ w_ ⟨rfl, rfl⟩; ) | (go_at_call 11; refine (new_any _ false).mono ?_; rintro e_ w_ ⟨g, rfl, HM⟩; have HN := H.call HM (new_rw _ _); clear HM; clear H; have H := HN; clear HN))
  have HN : St w w_ (rgE g false (-1) (List.replicate 16 none) ++ []) := H
  clear H hN hn1 hn2 nn na nt
  go_loopw [9, 10, 11, 12] (fun i _ _ _ w2_ => ∃ (j : Nat) (ps : List (Option Pc)), j ≤ N ∧ i = .int .i64 j ∧ Aside (Cov ps j (fun _ p => Good p)) ∧ St w w2_ (rgE g false (-1) ps ++ [])) (fun i _ _ _ _ => N - (intOf i).toNat)
  case atStart => exact ⟨0, _, by omega, rfl, ⟨Cov.nil _⟩, HN⟩
  case round =>
    clear HN
    obtain ⟨j, ps, hj, rfl, hC, H⟩ := hrel
    by_cases hjn : j < N
    · have z3 : decide ((j : Int) < (N : Int)) = true := decide_eq_true (by omega)
      have z3n : decide (j < N) = true := decide_eq_true hjn
      have hfr := hC.out.freeAt (by omega)
      have h16 := hC.out.len
      go_wp2_with (first | (go_at_call 12; refine (join_ok _ _ _ _ g false (-1) ps (by (with_reducible first | exact .here _ | exact .tail _ (.here _) | exact .tail _ (.tail _ (.here _)) | exact .tail _ (.tail _ (.tail _ (.here _))) | exact .skip _ (.here _) | exact .tail _ (.skip _ (.here _)) | exact .tail _ (.tail _ (.skip _ (.here _))))) h16 j hfr 1024 (by decide) (by decide) H).mono ?_; rintro e_ w_ ⟨g0, rfl, HN⟩; clear H; have H := HN; clear HN))
      have hg0 : Good ⟨g0, none, 0, 1024, 0, 0, []⟩ := ⟨by simp, by simp, by simp, by simp, by simp, by simp, by simp⟩
      have hC2 := Aside.mk (hC.out.join (by omega) ⟨g0, none, 0, 1024, 0, 0, []⟩ hg0)
      have hp0 : (ps.set j (some ⟨g0, none, 0, 1024, 0, 0, []⟩))[j]? = some (some ⟨g0, none, 0, 1024, 0, 0, []⟩) := by rw [List.getElem?_set_self (by omega)]
      obtain ⟨ps1, hps1⟩ : ∃ ps1, ps1 = ps.set j (some ⟨g0, none, 0, 1024, 0, 0, []⟩) := ⟨_, rfl⟩
      rw [← hps1] at H hC2 hp0
      clear hps1 hC hfr h16
      go_loopw [12] (fun i w2_ => ∃ (t : Nat) (ps : List (Option Pc)) (p : Pc), t ≤ 60 ∧ i = .int .i64 t ∧ Aside (Cov ps (j + 1) (fun _ p => Good p)) ∧ Aside (ps[j]? = some (some p)) ∧ p.s + p.l.sum ≤ 700 * (t : Int) ∧ St w w2_ (rgE g false (-1) ps ++ [])) (fun i _ => 60 - (intOf i).toNat)
      case atStart => exact ⟨0, ps1, _, by omega, rfl, hC2, ⟨hp0⟩, by simp, H⟩
      case round =>
        clear H hC2 hp0 hg0
        obtain ⟨t, ps, p, ht, rfl, hC, hp, hs, H⟩ := hrel
        by_cases htn : t < 60
        · have z4 : decide ((t : Int) < 60) = true := decide_eq_true (by omega)
          have z4n : decide (t < 60) = true := decide_eq_true htn
          obtain ⟨p', hp', hG⟩ := hC.out.used j (by omega)
          rw [hp.out] at hp'
          obtain rfl := Option.some.inj (Option.some.inj hp')
          have hcb := cost_ok 700 (by decide) (by decide)
          have h16 := hC.out.len
          have hl8 : p.l.length ≤ 100000000 := by have := hG.len; omega
          have hgp : ∀ A c, Good { p with A := A, c := c, l := p.l ++ [700] } := fun A c => good_push hG A c 700 (by decide) (by decide) (by omega)
          have hC2 : Aside (∀ A c, Cov (ps.set j (some { p with A := A, c := c, l := p.l ++ [700] })) (j + 1) (fun _ p => Good p)) := ⟨fun A c => hC.out.set j (by omega) _ (hgp A c)⟩
          have hjl : j < ps.length := by omega
          have hpo := hp.out
          clear hC hp hgp hG
          go_wp2_with (first | go_skip | (go_at_call 13; refine (push_ok _ _ _ _ g false (-1) ps (by (with_reducible first | exact .here _ | exact .tail _ (.here _) | exact .tail _ (.tail _ (.here _)) | exact .tail _ (.tail _ (.tail _ (.here _))) | exact .skip _ (.here _) | exact .tail _ (.skip _ (.here _)) | exact .tail _ (.tail _ (.skip _ (.here _))))) h16 j p hpo _ [700] 1 1 rfl (rd1 H) hcb (by simp) hl8 H).mono ?_; rintro e_ w_ ⟨X1, c1, rfl, HN⟩; clear H; have H := HN; clear HN; have HN := H.sub (List.sublist_cons_self _ _); clear H; have H := HN; clear HN) | ((with_reducible refine wpGate ?_); first | (refine sLitN H ?_ ?_ ?_ ?_ ?Zo ?_ ?Zd ?Zg ?Zt ?_ ?_ ?Zi ?_ ?Zv ?Zvs ?Zn ?Z1 ?Z0 ?Zm ?_; (case Zo => rfl); (case Zd => rfl); (case Zt => exact Tun.out); (case Zi => exact Tzi.out); (case Zg => (first | rfl | (go_simp; done) | fail)); (case Zv => (go_simp; rfl)); (case Zvs => rfl); (case Zn => rfl); (case Z1 => first | rfl | (simp [Value.cells, Value.oneCell']; done) | fail); (case Z0 => decide); (case Zm => decide); intro g_ w_ HN; clear H; have H := HN; clear HN; try simp only [q_1, q_2, q_3, q_4]) | (refine sLit H ?_ ?_ ?_ ?_ ?Zo ?_ ?Zd ?Zg ?_ ?Zlen ?Zm ?Zrun ?_; (case Zo => rfl); (case Zd => rfl); (case Zg => (first | rfl | (go_simp; done) | fail)); (case Zrun => first | (go_simp; done) | (go_simp; rfl)); (case Zlen => rfl); (case Zm => first | (simp [maxLen]; done) | (unfold maxLen; omega)); intro g_ w_ HN; clear H; have H := HN; clear HN; try simp only [q_1, q_2, q_3, q_4])))
          go_roundw
          case rel => exact ⟨t + 1, _, { p with A := X1, c := c1, l := p.l ++ [700] }, by omega, by go_num, ⟨hC2.out X1 c1⟩, ⟨by rw [List.getElem?_set_self hjl]⟩, by simp only [List.sum_append, List.sum_cons, List.sum_nil]; omega, H⟩
          case measure => simp [intOf]; omega
        · have z4 : decide ((t : Int) < 60) = false := decide_eq_false (by omega)
          have z4n : decide (t < 60) = false := decide_eq_false htn
          go_wp2
          go_roundw
          case rel => exact ⟨j + 1, ps, by omega, by go_num, hC, H⟩
          case measure => simp [intOf]; omega
    · have z3 : decide ((j : Int) < (N : Int)) = false := decide_eq_false (by omega)
      have z3n : decide (j < N) = false := decide_eq_false hjn
      obtain rfl : j = N := by omega
      clear hjn hj z3n
      have z3 : decide ((j : Int) < (j : Int)) = false := decide_eq_false (by omega)
      go_wp2
      go_loopw [13] (fun i w2_ => ∃ (x nx : Nat) (lst : Int) (ps : List (Option Pc)), x ≤ t ∧ i = .int .i64 x ∧ lst + 1 = (nx : Int) ∧ nx ≤ 16 ∧ Aside (Cov ps j (fun _ p => Good p)) ∧ St w w2_ (rgE g false lst ps ++ [])) (fun i _ => t - (intOf i).toNat)
      case atStart => exact ⟨0, 0, -1, ps, by omega, rfl, by omega, by omega, hC, H⟩
      case round =>
        clear H hC
        obtain ⟨x, nx, lst, ps, hx, rfl, hlst, hnx, hC, H⟩ := hrel
        have h16 := hC.out.len
        by_cases hxt : x < t
        · have z4 : decide ((x : Int) < (t : Int)) = true := decide_eq_true (by omega)
          have z4n : decide (x < t) = true := decide_eq_true hxt
          have hst := turn_step _ _ _ _ g false lst ps (.here [] : PullA (rgE g false lst ps) (rgE g false lst ps ++ []) _) h16 nx hlst hnx hC.out.good H
          clear H
          go_wp2_with (first | (go_at_call 14; refine (hst).mono ?_; rintro e_ w_ ⟨k2, m2, l2, B2, n2, c2, ps2, rfl, hS, H⟩; clear hst; have hC2 := hS.cov hC.out nx hlst hnx; clear hS hC; obtain ⟨hC, nx2, hl2, hn2⟩ := hC2; replace hC := Aside.mk hC))
          go_roundw
          case rel => exact ⟨x + 1, nx2, l2, ps2, by omega, by go_num, hl2, hn2, hC, H⟩
          case measure => simp [intOf]; omega
        · have z4 : decide ((x : Int) < (t : Int)) = false := decide_eq_false (by omega)
          have z4n : decide (x < t) = false := decide_eq_false hxt
          obtain rfl : x = t := by omega
          clear hxt hx z4n
          have z4 : decide ((x : Int) < (x : Int)) = false := decide_eq_false (by omega)
          obtain ⟨p, hp, _⟩ := hC.out.used a haN
          have hav := atV_nat ps a _ h16 hp
          have hX := hC.out.leave haN
          have hlv := leave_any _ _ _ _ g false lst ps (.here [] : PullA (rgE g false lst ps) (rgE g false lst ps ++ []) _) h16 a H
          rw [hav] at hlv
          have hlv : Calls Tryd.prog 19 #[.pointer (some ⟨g, 0, none⟩), .int .i64 a] _ fun e w' => e = .returned (.bool true) ∧ St w w' (rgE g false lst (ps.set a none) ++ []) := hlv
          clear H hav hp hC h16
          obtain ⟨qs, hqs⟩ : ∃ qs, qs = ps.set a none := ⟨_, rfl⟩
          rw [← hqs] at hlv hX
          clear hqs
          have h16 := hX.len
          have hav := hX.atV
          have hcn := hX.count haN (by omega)
          have hfr := hX.freeAt haN
          obtain ⟨n1, hn1⟩ : ∃ n1, j = n1 + 1 := ⟨j - 1, by omega⟩
          have hcn : (usedTo qs 16).length = n1 := by omega
          have hj1 : (j : Int) - 1 = (n1 : Int) := by omega
          replace hn1 := Aside.mk hn1
          go_wp2_with (first | (go_at_call 19; refine (hlv).mono ?_; rintro e_ w_ ⟨rfl, H⟩; clear hlv))
          go_wp2_with (first | (go_at_call 19; refine (leave_none _ _ _ _ g false lst qs (by (with_reducible first | exact .here _ | exact .tail _ (.here _) | exact .tail _ (.tail _ (.here _)) | exact .tail _ (.tail _ (.tail _ (.here _))) | exact .skip _ (.here _) | exact .tail _ (.skip _ (.here _)) | exact .tail _ (.tail _ (.skip _ (.here _))))) h16 a hav H).mono ?_; rintro e_ w_ ⟨rfl, HN⟩; clear H; have H := HN; clear HN) | (go_at_call 18; refine (deficit_none _ _ _ _ g false lst qs (by (with_reducible first | exact .here _ | exact .tail _ (.here _) | exact .tail _ (.tail _ (.here _)) | exact .tail _ (.tail _ (.tail _ (.here _))) | exact .skip _ (.here _) | exact .tail _ (.skip _ (.here _)) | exact .tail _ (.tail _ (.skip _ (.here _))))) h16 a hav H).mono ?_; rintro e_ w_ ⟨rfl, rfl⟩; ) | (go_at_call 17; refine (served_none _ _ _ _ g false lst qs (by (with_reducible first | exact .here _ | exact .tail _ (.here _) | exact .tail _ (.tail _ (.here _)) | exact .tail _ (.tail _ (.tail _ (.here _))) | exact .skip _ (.here _) | exact .tail _ (.skip _ (.here _)) | exact .tail _ (.tail _ (.skip _ (.here _))))) h16 a hav H).mono ?_; rintro e_ w_ ⟨rfl, rfl⟩; ) | (go_at_call 16; refine (waiting_none _ _ _ _ g false lst qs (by (with_reducible first | exact .here _ | exact .tail _ (.here _) | exact .tail _ (.tail _ (.here _)) | exact .tail _ (.tail _ (.tail _ (.here _))) | exact .skip _ (.here _) | exact .tail _ (.skip _ (.here _)) | exact .tail _ (.tail _ (.skip _ (.here _))))) h16 a hav H).mono ?_; rintro e_ w_ ⟨X3, c3, rfl, HN⟩; clear H; have H := HN; clear HN) | (go_at_call 20; refine (places_n _ _ _ _ g false lst qs (by (with_reducible first | exact .here _ | exact .tail _ (.here _) | exact .tail _ (.tail _ (.here _)) | exact .tail _ (.tail _ (.tail _ (.here _))) | exact .skip _ (.here _) | exact .tail _ (.skip _ (.here _)) | exact .tail _ (.tail _ (.skip _ (.here _))))) h16 n1 hcn H).mono ?_; rintro e_ w_ ⟨X4, c4, rfl, HN⟩; clear H; have H := HN; clear HN))
          have hX := Aside.mk hX
          clear hcn hfr hav h16
          go_loopw [14, 15, 16, 17] (fun i _ _ _ w2_ => ∃ (y nx : Nat) (lst : Int) (ps : List (Option Pc)), y ≤ 2 * j ∧ i = .int .i64 y ∧ lst + 1 = (nx : Int) ∧ nx ≤ 16 ∧ Aside (CovX ps j a) ∧ St w w2_ (rgE g false lst ps ++ [])) (fun i _ _ _ _ => 2 * j - (intOf i).toNat)
          case atStart => exact ⟨0, nx, lst, qs, by omega, rfl, hlst, hnx, hX, H⟩
          case round =>
            clear H hX
            obtain ⟨y, nx, lst, ps, hy, rfl, hlst, hnx, hC, H⟩ := hrel
            have h16 := hC.out.len
            by_cases hyt : y < 2 * j
            · have z5 : decide ((y : Int) < 2 * (j : Int)) = true := decide_eq_true (by omega)
              have hst := turn_step _ _ _ _ g false lst ps (.here [] : PullA (rgE g false lst ps) (rgE g false lst ps ++ []) _) h16 nx hlst hnx hC.out.good H
              clear H
              go_wp2_with (first | (go_at_call 14; refine (hst).mono ?_; rintro e_ w_ ⟨k2, m2, l2, B2, n2, c2, ps2, rfl, hS, H⟩; clear hst; have hC2 := hC.out.step hS nx hlst hnx; clear hS hC; obtain ⟨hC, hka, nx2, hl2, hn2⟩ := hC2; replace hC := Aside.mk hC; have z6 : (k2 == (a : Int)) = false := beq_eq_false_iff_ne.2 hka))
              go_roundw
              case rel => exact ⟨y + 1, nx2, l2, ps2, by omega, by go_num, hl2, hn2, hC, H⟩
              case measure => simp [intOf]; omega
            · have z5 : decide ((y : Int) < 2 * (j : Int)) = false := decide_eq_false (by omega)
              have hfr := hC.out.freeAt haN
              have ha16 : a < 16 := by omega
              go_wp2_with (first | (go_at_call 12; refine (join_ok _ _ _ _ g false lst ps (by (with_reducible first | exact .here _ | exact .tail _ (.here _) | exact .tail _ (.tail _ (.here _)) | exact .tail _ (.tail _ (.tail _ (.here _))) | exact .skip _ (.here _) | exact .tail _ (.skip _ (.here _)) | exact .tail _ (.tail _ (.skip _ (.here _))))) h16 a hfr 2000 (by decide) (by decide) H).mono ?_; rintro e_ w_ ⟨g1, rfl, HN⟩; clear H; have H := HN; clear HN))
              have hra : (ps.set a (some ⟨g1, none, 0, 2000, 0, 0, []⟩))[a]? = some (some ⟨g1, none, 0, 2000, 0, 0, []⟩) := by rw [List.getElem?_set_self (by omega)]
              have hrl : (ps.set a (some ⟨g1, none, 0, 2000, 0, 0, []⟩)).length = 16 := by rw [List.length_set, h16]
              obtain ⟨rs, hrs⟩ : ∃ rs, rs = ps.set a (some ⟨g1, none, 0, 2000, 0, 0, []⟩) := ⟨_, rfl⟩
              rw [← hrs] at H hra hrl
              clear hrs hfr hC h16
              have hcb := cost_ok 5 (by decide) (by decide)
              go_wp2_with (first | go_skip | (go_at_call 18; refine (deficit_at _ _ _ _ g false lst rs (by (with_reducible first | exact .here _ | exact .tail _ (.here _) | exact .tail _ (.tail _ (.here _)) | exact .tail _ (.tail _ (.tail _ (.here _))) | exact .skip _ (.here _) | exact .tail _ (.skip _ (.here _)) | exact .tail _ (.tail _ (.skip _ (.here _))))) hrl a _ hra H).mono ?_; rintro e_ w_ ⟨rfl, rfl⟩; ) | (go_at_call 16; refine (waiting_at _ _ _ _ g false lst rs (by (with_reducible first | exact .here _ | exact .tail _ (.here _) | exact .tail _ (.tail _ (.here _)) | exact .tail _ (.tail _ (.tail _ (.here _))) | exact .skip _ (.here _) | exact .tail _ (.skip _ (.here _)) | exact .tail _ (.tail _ (.skip _ (.here _))))) hrl a _ hra H (by simp)).mono ?_; rintro e_ w_ ⟨X5, c5, rfl, HN⟩; clear H; have H := HN; clear HN; have HN := H.sub (List.sublist_cons_self _ _); clear H; have H := HN; clear HN) | (go_at_call 13; refine (push_ok _ _ _ _ g false lst rs (by (with_reducible first | exact .here _ | exact .tail _ (.here _) | exact .tail _ (.tail _ (.here _)) | exact .tail _ (.tail _ (.tail _ (.here _))) | exact .skip _ (.here _) | exact .tail _ (.skip _ (.here _)) | exact .tail _ (.tail _ (.skip _ (.here _))))) hrl a _ hra _ [5] 1 1 rfl (rd1 H) hcb (by simp) (by simp) H).mono ?_; rintro e_ w_ ⟨X1, c1, rfl, HN⟩; clear H; have H := HN; clear HN) | ((with_reducible refine wpGate ?_); first | (refine sLitN H ?_ ?_ ?_ ?_ ?Zo ?_ ?Zd ?Zg ?Zt ?_ ?_ ?Zi ?_ ?Zv ?Zvs ?Zn ?Z1 ?Z0 ?Zm ?_; (case Zo => rfl); (case Zd => rfl); (case Zt => exact Tun.out); (case Zi => exact Tzi.out); (case Zg => (first | rfl | (go_simp; done) | fail)); (case Zv => (go_simp; rfl)); (case Zvs => rfl); (case Zn => rfl); (case Z1 => first | rfl | (simp [Value.cells, Value.oneCell']; done) | fail); (case Z0 => decide); (case Zm => decide); intro g_ w_ HN; clear H; have H := HN; clear HN; try simp only [q_1, q_2, q_3, q_4]) | (refine sLit H ?_ ?_ ?_ ?_ ?Zo ?_ ?Zd ?Zg ?_ ?Zlen ?Zm ?Zrun ?_; (case Zo => rfl); (case Zd => rfl); (case Zg => (first | rfl | (go_simp; done) | fail)); (case Zrun => first | (go_simp; done) | (go_simp; rfl)); (case Zlen => rfl); (case Zm => first | (simp [maxLen]; done) | (unfold maxLen; omega)); intro g_ w_ HN; clear H; have H := HN; clear HN; try simp only [q_1, q_2, q_3, q_4])))
              (go_ret; exact ⟨rfl, H.sub (List.nil_sublist _)⟩)
end Go.Proofs.YtgbgplhiiaiifaaDoor
