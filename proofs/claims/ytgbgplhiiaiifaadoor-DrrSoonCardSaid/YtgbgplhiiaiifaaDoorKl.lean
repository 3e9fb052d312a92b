/- DrrSoon, walked. No condition. -/
import Derived.Test.YtgbgplhiiaiifaaDoorKk
namespace Go.Proofs.YtgbgplhiiaiifaaDoor
set_option linter.unusedVariables false
set_option linter.unusedSimpArgs false
open Go.RowKit

def ksL (m : Int) (cs : List Int) : List Int := cs.map fun n => n % m + 1
theorem ksL_at (m : Int) (cs : List Int) (j : Nat) (h : j < cs.length) : (ksL m cs)[j]? = some (ix cs j % m + 1) := by
  have e : cs[j]? = some (ix cs j) := by simp [ix, h]
  unfold ksL; rw [List.getElem?_map, e]; rfl
theorem take_more {α : Type} (xs : List α) (j : Nat) (d : α) (h : xs[j]? = some d) : xs.take (j + 1) = xs.take j ++ [d] := by
  rw [List.take_add_one, h]; rfl
theorem ksL_bd (cs : List Int) (c : Int) (h : c ∈ ksL 1024 cs) : 1 ≤ c ∧ c ≤ 1024 := by
  unfold ksL at h
  obtain ⟨n, _, rfl⟩ := List.mem_map.1 h
  omega
theorem ksL_len (m : Int) (cs : List Int) : (ksL m cs).length = cs.length := List.length_map _
/-- Where one waits: so many turns were had, of which so many are its own. -/
structure SoonI (j : Nat) (Q S : Int) (T nx m : Nat) (ps : List (Option Pc)) (p : Pc) : Prop where
  cov : Cov ps (j + 1) (fun _ p => Good p)
  me : ps[j]? = some (some p)
  q : p.q = Q
  t : p.s + p.l.sum = S
  kept : p.l ≠ [] → p.s + p.d = (m : Int) * Q
  nil : p.l = [] → p.d = 0
  head : ∀ c r, p.l = c :: r → p.d < c
  turns : T ≤ m * (j + 1) + (if nx ≤ j then nx else 0)
theorem nxt_ge {nx : Nat} {ok : Nat → Bool} {k j : Nat} (h : NxtIs nx ok k) (hj : ok j = true) (h1 : nx ≤ j) (h2 : j < 16) : nx ≤ k := by
  obtain ⟨i, i1, i2, i3, i4⟩ := h
  rcases Nat.lt_or_ge k nx with hk | hk
  · have := i4 (j - nx) (by omega)
    rw [show (nx + (j - nx)) % 16 = j by omega, hj] at this
    cases this
  · exact hk
theorem SoonI.step {fx : Bool} {j : Nat} {Q S : Int} {T nx m : Nat} {ps : List (Option Pc)} {p : Pc} (h : SoonI j Q S T nx m ps p) (hj : j < 16) (hnx : nx ≤ j + 1) (hl : p.l ≠ []) {k : Nat} {pk : Pc} (hk : ps[k]? = some (some pk)) (hx : NxtIs nx (okK fx ps) k) (A : Option Addr) (c : Nat) :
    k ≤ j ∧ ∃ m' p', SoonI j Q S (T + 1) (k + 1) m' (ps.set k (some (tP pk A c))) p' := by
  have h16 := h.cov.len
  have hme : okK fx ps j = true := h.cov.okAt h.me (.inr (List.length_pos_iff.2 hl))
  obtain ⟨hkj, pk', hk', hG, _⟩ := h.cov.ok hx.ok
  rw [hk] at hk'
  obtain rfl := Option.some.inj (Option.some.inj hk')
  have hcov : Cov (ps.set k (some (tP pk A c))) (j + 1) (fun _ p => Good p) := h.cov.set k hkj _ (good_tP hG A c)
  have ht := h.turns
  refine ⟨by omega, ?_⟩
  by_cases e : k = j
  · subst e
    rw [h.me] at hk
    obtain rfl := Option.some.inj (Option.some.inj hk)
    refine ⟨m + 1, tP p A c, hcov, by rw [List.getElem?_set_self (by omega)], h.q, by rw [tP_total]; exact h.t, fun h1 => ?_, fun h1 => sv_nil _ _ h1, fun c' r h1 => sv_head _ _ _ _ h1, ?_⟩
    · rw [tP_kept A c h1, h.kept hl, h.q, Int.natCast_add, Int.add_mul]; simp
    · rw [if_neg (by omega)]
      have e : (m + 1) * (k + 1) = m * (k + 1) + (k + 1) := by rw [Nat.add_mul]; simp
      rw [e]
      split at ht <;> omega
  · refine ⟨m, p, hcov, by rw [List.getElem?_set_ne (by omega)]; exact h.me, h.q, h.t, h.kept, h.nil, h.head, ?_⟩
    rw [if_pos (by omega)]
    split at ht
    · have := nxt_ge hx hme (by omega) hj
      omega
    · omega
theorem SoonI.bound {j : Nat} {Q S : Int} {T nx m : Nat} {ps : List (Option Pc)} {p : Pc} (h : SoonI j Q S T nx m ps p) (hQ : 1024 ≤ Q) (hS : 0 ≤ S) (hl : p.l ≠ []) : ((T + 1 : Nat) : Int) ≤ (Int.tdiv (S + Q - 1) Q + 1) * ((j : Int) + 1) := by
  obtain ⟨p', hp, hG⟩ := h.cov.used j (by omega)
  rw [h.me] at hp
  obtain rfl := Option.some.inj (Option.some.inj hp)
  have hm : (m : Int) * Q < S := by
    rw [← h.kept hl]
    cases hc : p.l with
    | nil => exact absurd hc hl
    | cons c r =>
      have h1 := h.head c r hc
      have h2 := h.t
      have h3 := sum_pos r (fun c hc' => (hG.c c (by rw [hc]; exact List.mem_cons_of_mem _ hc')).1)
      rw [hc, List.sum_cons] at h2
      omega
  have h1 : (m : Int) + 1 ≤ (S + Q - 1) / Q := by
    rw [Int.le_ediv_iff_mul_le (by omega), Int.add_mul]
    omega
  rw [Int.tdiv_eq_ediv_of_nonneg (by omega)]
  have ht := h.turns
  have h2 : T + 1 ≤ (m + 1) * (j + 1) := by
    have e : (m + 1) * (j + 1) = m * (j + 1) + (j + 1) := by rw [Nat.add_mul]; simp
    rw [e]
    split at ht <;> omega
  have h3 : ((T + 1 : Nat) : Int) ≤ ((m : Int) + 1) * ((j : Int) + 1) := by
    have := Int.ofNat_le.2 h2
    simpa using this
  refine Int.le_trans h3 (Int.mul_le_mul_of_nonneg_right (by omega) (by omega))
set_option maxRecDepth 100000 in
set_option maxHeartbeats 4000000 in
theorem drrSoon_any (w : World) (o0 q0 : Int) (A : Option Addr) (cs : List Int) (c : Nat) (fx : Bool) (hA : Rd w A (cs.map (.int .i64))) :
    Calls Tryd.prog 5 #[.int .i64 o0, .int .i64 q0, .slice A cs.length c, .bool fx] w fun e w' => e = .returned (.bool true) ∧ St w w' [] := by
  have H := St.ro1 hA
  have hq1 : 0 ≤ q0 % 4000 := Int.emod_nonneg _ (by decide)
  have hq2 : q0 % 4000 < 4000 := Int.emod_lt_of_pos _ (by decide)
  have hn1 : 0 ≤ o0 % 8 := Int.emod_nonneg _ (by decide)
  have hn2 : o0 % 8 < 8 := Int.emod_lt_of_pos _ (by decide)
  have nq := fun w => number_any q0 4000 w (by decide) (by decide)
  have nn := fun w => number_any o0 8 w (by decide) (by decide)
  obtain ⟨q, hq⟩ : ∃ q, q = q0 % 4000 := ⟨_, rfl⟩
  obtain ⟨O, hm⟩ : ∃ m : Nat, o0 % 8 = (m : Int) := ⟨(o0 % 8).toNat, by omega⟩
  rw [← hq] at hq1 hq2 nq
  rw [hm] at hn1 hn2 nn
  clear hq hm
  obtain ⟨Q, hQ⟩ : ∃ Q, q + 1024 = Q := ⟨_, rfl⟩
  have hQ1 : 1024 ≤ Q := by omega
  have hQ2 : Q ≤ 5023 := by omega
  by_cases hl : 30 < cs.length
  · have z1 : decide ((30 : Int) < (cs.length : Int)) = true := decide_eq_true (by omega)
    go_enter Tryd.func5, Tryd.ntmps5
    go_wp2_with (first | (go_at_call 9; refine (first25_any _ _ _ H).mono ?_; rintro e_ w_ ⟨rfl, HN⟩; clear H; have H := HN; clear HN) | (go_at_call 10; (with_reducible refine (nq _).mono ?_); rintro e_ w_ ⟨rfl, rfl⟩; ) | (go_at_call 10; (with_reducible refine (nn _).mono ?_); rintro e_ w_ ⟨rfl, rfl⟩; ))
    (go_ret; exact ⟨rfl, H.sub (List.nil_sublist _)⟩)
  have z1 : decide ((30 : Int) < (cs.length : Int)) = false := decide_eq_false (by omega)
  by_cases hl0 : cs.length = 0
  · have z2 : ((cs.length : Int) == 0) = true := by rw [hl0]; rfl
    go_enter Tryd.func5, Tryd.ntmps5
    go_wp2_with (first | (go_at_call 9; refine (first25_any _ _ _ H).mono ?_; rintro e_ w_ ⟨rfl, HN⟩; clear H; have H := HN; clear HN) | (go_at_call 10; (with_reducible refine (nq _).mono ?_); rintro e_ w_ ⟨rfl, rfl⟩; ) | (go_at_call 10; (with_reducible refine (nn _).mono ?_); rintro e_ w_ ⟨rfl, rfl⟩; ))
    (go_ret; exact ⟨rfl, H.sub (List.nil_sublist _)⟩)
  have z2 : ((cs.length : Int) == 0) = false := by rw [beq_eq_false_iff_ne]; omega
  have hl60 : cs.length ≤ 30 := by omega
  have hl1 : 0 < cs.length := by omega
  clear hl hl0 hA
  go_enter Tryd.func5, Tryd.ntmps5
  go_wp2_with (first | (go_at_call 9; refine (first25_any _ _ _ H).mono ?_; rintro e_ w_ ⟨rfl, HN⟩; clear H; have H := HN; clear HN) | (go_at_call 10; (with_reducible refine (nq _).mono ?_); rintro e_ w_ ⟨rfl, rfl⟩; ) | (go_at_call 10; (with_reducible refine (nn _).mono ?_); rintro e_ w_ ⟨rfl, rfl⟩; ) | (go_at_call 11; refine (new_any _ fx).mono ?_; rintro e_ w_ ⟨g, rfl, HM⟩; have HN := H.call HM (new_rw _ _); clear HM; clear H; have H := HN; clear HN))
  have HN : St w w_ (.ro A (cs.map (.int .i64)) :: (rgE g fx (-1) (List.replicate 16 none) ++ [])) := by rw [List.append_nil]; exact H.perm List.perm_append_comm
  clear H
  go_loopw [11, 12, 13, 14] (fun i _ _ _ w2_ => ∃ (j : Nat) (ps : List (Option Pc)), j ≤ O ∧ i = .int .i64 j ∧ Aside (Cov ps j (fun _ p => Good p)) ∧ St w w2_ (.ro A (cs.map (.int .i64)) :: (rgE g fx (-1) ps ++ []))) (fun i _ _ _ _ => O - (intOf i).toNat)
  case atStart => exact ⟨0, _, by omega, rfl, ⟨Cov.nil _⟩, HN⟩
  case round =>
    clear HN
    obtain ⟨j, ps, hj, rfl, hC, H⟩ := hrel
    by_cases hjn : j < O
    · have z3 : decide ((j : Int) < (O : Int)) = true := decide_eq_true (by omega)
      have z3n : decide (j < O) = true := decide_eq_true hjn
      have hfr := hC.out.freeAt (by omega)
      have h16 := hC.out.len
      go_wp2_with (first | (go_at_call 12; refine (join_ok _ _ _ _ g fx (-1) ps (by (with_reducible first | exact .here _ | exact .tail _ (.here _) | exact .tail _ (.tail _ (.here _)) | exact .tail _ (.tail _ (.tail _ (.here _))) | exact .skip _ (.here _) | exact .tail _ (.skip _ (.here _)) | exact .tail _ (.tail _ (.skip _ (.here _))))) h16 j hfr (1024 + j) (by omega) (by omega) H).mono ?_; rintro e_ w_ ⟨g0, rfl, HN⟩; clear H; have H := HN; clear HN))
      have hg0 : Good ⟨g0, none, 0, 1024 + j, 0, 0, []⟩ := ⟨by simp, by simp, by simp; omega, by simp; omega, by simp, by simp, by simp⟩
      have hC2 := Aside.mk (hC.out.join (by omega) ⟨g0, none, 0, 1024 + j, 0, 0, []⟩ hg0)
      have hp0 : (ps.set j (some ⟨g0, none, 0, 1024 + j, 0, 0, []⟩))[j]? = some (some ⟨g0, none, 0, 1024 + j, 0, 0, []⟩) := by rw [List.getElem?_set_self (by omega)]
      obtain ⟨ps1, hps1⟩ : ∃ ps1, ps1 = ps.set j (some ⟨g0, none, 0, 1024 + j, 0, 0, []⟩) := ⟨_, rfl⟩
      rw [← hps1] at H hC2 hp0
      clear hps1 hC hfr h16
      go_loopw [14] (fun i w2_ => ∃ (t : Nat) (ps : List (Option Pc)) (p : Pc), t ≤ 200 ∧ i = .int .i64 t ∧ Aside (Cov ps (j + 1) (fun _ p => Good p)) ∧ Aside (ps[j]? = some (some p)) ∧ p.s + p.l.sum ≤ 1024 * (t : Int) ∧ St w w2_ (.ro A (cs.map (.int .i64)) :: (rgE g fx (-1) ps ++ []))) (fun i _ => 200 - (intOf i).toNat)
      case atStart => exact ⟨0, ps1, _, by omega, rfl, hC2, ⟨hp0⟩, by simp, H⟩
      case round =>
        clear H hC2 hp0 hg0
        obtain ⟨t, ps, p, ht, rfl, hC, hp, hs, H⟩ := hrel
        by_cases htn : t < 200
        · have z4 : decide ((t : Int) < 200) = true := decide_eq_true (by omega)
          have z4n : decide (t < 200) = true := decide_eq_true htn
          obtain ⟨p', hp', hG⟩ := hC.out.used j (by omega)
          rw [hp.out] at hp'
          obtain rfl := Option.some.inj (Option.some.inj hp')
          have hcb := cost_ok 1024 (by decide) (by decide)
          have h16 := hC.out.len
          have hl8 : p.l.length ≤ 100000000 := by have := hG.len; omega
          have hgp : ∀ A c, Good { p with A := A, c := c, l := p.l ++ [1024] } := fun A c => good_push hG A c 1024 (by decide) (by decide) (by omega)
          have hC2 : Aside (∀ A c, Cov (ps.set j (some { p with A := A, c := c, l := p.l ++ [1024] })) (j + 1) (fun _ p => Good p)) := ⟨fun A c => hC.out.set j (by omega) _ (hgp A c)⟩
          have hjl : j < ps.length := by omega
          have hpo := hp.out
          clear hC hp hgp hG
          go_wp2_with (first | go_skip | (go_at_call 13; refine (push_ok _ _ _ _ g fx (-1) ps (by (with_reducible first | exact .here _ | exact .tail _ (.here _) | exact .tail _ (.tail _ (.here _)) | exact .tail _ (.tail _ (.tail _ (.here _))) | exact .skip _ (.here _) | exact .tail _ (.skip _ (.here _)) | exact .tail _ (.tail _ (.skip _ (.here _))))) h16 j p hpo _ [1024] 1 1 rfl (rd1 H) hcb (by simp) hl8 H).mono ?_; rintro e_ w_ ⟨X1, c1, rfl, HN⟩; clear H; have H := HN; clear HN; have HN := H.sub (List.sublist_cons_self _ _); clear H; have H := HN; clear HN) | ((with_reducible refine wpGate ?_); first | (refine sLitN H ?_ ?_ ?_ ?_ ?Zo ?_ ?Zd ?Zg ?Zt ?_ ?_ ?Zi ?_ ?Zv ?Zvs ?Zn ?Z1 ?Z0 ?Zm ?_; (case Zo => rfl); (case Zd => rfl); (case Zt => exact Tun.out); (case Zi => exact Tzi.out); (case Zg => (first | rfl | (go_simp; done) | fail)); (case Zv => (go_simp; rfl)); (case Zvs => rfl); (case Zn => rfl); (case Z1 => first | rfl | (simp [Value.cells, Value.oneCell']; done) | fail); (case Z0 => decide); (case Zm => decide); intro g_ w_ HN; clear H; have H := HN; clear HN; try simp only [q_1, q_2, q_3, q_4]) | (refine sLit H ?_ ?_ ?_ ?_ ?Zo ?_ ?Zd ?Zg ?_ ?Zlen ?Zm ?Zrun ?_; (case Zo => rfl); (case Zd => rfl); (case Zg => (first | rfl | (go_simp; done) | fail)); (case Zrun => first | (go_simp; done) | (go_simp; rfl)); (case Zlen => rfl); (case Zm => first | (simp [maxLen]; done) | (unfold maxLen; omega)); intro g_ w_ HN; clear H; have H := HN; clear HN; try simp only [q_1, q_2, q_3, q_4])))
          go_roundw
          case rel => exact ⟨t + 1, _, { p with A := X1, c := c1, l := p.l ++ [1024] }, by omega, by go_num, ⟨hC2.out X1 c1⟩, ⟨by rw [List.getElem?_set_self hjl]⟩, by simp only [List.sum_append, List.sum_cons, List.sum_nil]; omega, H⟩
          case measure => simp [intOf]; omega
        · have z4 : decide ((t : Int) < 200) = false := decide_eq_false (by omega)
          have z4n : decide (t < 200) = false := decide_eq_false htn
          go_wp2
          go_roundw
          case rel => exact ⟨j + 1, ps, by omega, by go_num, hC, H⟩
          case measure => simp [intOf]; omega
    · have z3 : decide ((j : Int) < (O : Int)) = false := decide_eq_false (by omega)
      have z3n : decide (j < O) = false := decide_eq_false hjn
      obtain rfl : j = O := by omega
      have hfr := hC.out.freeAt (by omega)
      have h16 := hC.out.len
      have hjO : j < 8 := by omega
      clear hjn hj z3n
      have z3 : decide ((j : Int) < (j : Int)) = false := decide_eq_false (by omega)
      go_wp2_with (first | (go_at_call 12; refine (join_ok _ _ _ _ g fx (-1) ps (by (with_reducible first | exact .here _ | exact .tail _ (.here _) | exact .tail _ (.tail _ (.here _)) | exact .tail _ (.tail _ (.tail _ (.here _))) | exact .skip _ (.here _) | exact .tail _ (.skip _ (.here _)) | exact .tail _ (.tail _ (.skip _ (.here _))))) h16 j hfr Q (by omega) (by omega) H).mono ?_; rintro e_ w_ ⟨g0, rfl, HN⟩; clear H; have H := HN; clear HN))
      have hg0 : Good ⟨g0, none, 0, Q, 0, 0, []⟩ := ⟨by simp, by simp, by simp; omega, by simp; omega, by simp, by simp, by simp⟩
      have hC2 := Aside.mk (hC.out.join (by omega) ⟨g0, none, 0, Q, 0, 0, []⟩ hg0)
      have hp0 : (ps.set j (some ⟨g0, none, 0, Q, 0, 0, []⟩))[j]? = some (some ⟨g0, none, 0, Q, 0, 0, []⟩) := by rw [List.getElem?_set_self (by omega)]
      obtain ⟨ps1, hps1⟩ : ∃ ps1, ps1 = ps.set j (some ⟨g0, none, 0, Q, 0, 0, []⟩) := ⟨_, rfl⟩
      rw [← hps1] at H hC2 hp0
      clear hps1 hC hfr h16
      go_loopw [18, 17, 19] (fun i s _ w2_ => ∃ (t : Nat) (S : Int) (ps : List (Option Pc)) (X : Option Addr) (cX : Nat), t ≤ cs.length ∧ i = .int .i64 t ∧ s = .int .i64 S ∧ Aside (S = ((ksL 1024 cs).take t).sum) ∧ 0 ≤ S ∧ S ≤ 1024 * (t : Int) ∧ Aside (Cov ps (j + 1) (fun _ p => Good p)) ∧ Aside (ps[j]? = some (some ⟨g0, X, cX, Q, 0, 0, (ksL 1024 cs).take t⟩)) ∧ St w w2_ (.ro A (cs.map (.int .i64)) :: (rgE g fx (-1) ps ++ []))) (fun i _ _ _ => cs.length - (intOf i).toNat)
      case atStart => exact ⟨0, 0, ps1, none, 0, by omega, rfl, rfl, ⟨by simp⟩, by omega, by omega, hC2, ⟨hp0⟩, H⟩
      case round =>
        clear H hC2 hp0 hg0
        obtain ⟨t, S, ps, X, cX, ht, rfl, rfl, hS, hS0, hS1, hC, hp, H⟩ := hrel
        by_cases htn : t < cs.length
        · have z4 : decide ((t : Int) < (cs.length : Int)) = true := decide_eq_true (by omega)
          have z4n : decide (t < cs.length) = true := decide_eq_true htn
          have hlen : (cs.map (Value.int .i64)).length = cs.length := List.length_map _
          have hk := ksL_at 1024 cs t htn
          have hd1 : 0 ≤ ix cs t % 1024 := Int.emod_nonneg _ (by decide)
          have hd2 : ix cs t % 1024 < 1024 := Int.emod_lt_of_pos _ (by decide)
          have nd := fun w => number_any (ix cs t) 1024 w (by decide) (by decide)
          obtain ⟨d, hd⟩ : ∃ d, d = ix cs t % 1024 := ⟨_, rfl⟩
          rw [← hd] at hd1 hd2 nd hk
          clear hd
          have ht2 := Aside.mk (take_more _ _ _ hk)
          clear hk
          have hcb := cost_ok (d + 1) (by omega) (by omega)
          obtain ⟨l, hll⟩ : ∃ l, l = (ksL 1024 cs).take t := ⟨_, rfl⟩
          rw [← hll] at hp hS ht2
          have hl8 : l.length ≤ 100000000 := by rw [hll, List.length_take, ksL_len]; omega
          have hsl := hS.out
          have h16 := hC.out.len
          have hjl : j < ps.length := by omega
          obtain ⟨p', hp', hG⟩ := hC.out.used j (by omega)
          rw [hp.out] at hp'
          obtain rfl := Option.some.inj (Option.some.inj hp')
          have hgp : ∀ A c, Good ⟨g0, A, c, Q, 0, 0, l ++ [d + 1]⟩ := fun A c => good_push hG A c (d + 1) (by omega) (by omega) (by dsimp only; omega)
          have hC2 : Aside (∀ A c, Cov (ps.set j (some ⟨g0, A, c, Q, 0, 0, l ++ [d + 1]⟩)) (j + 1) (fun _ p => Good p)) := ⟨fun A c => hC.out.set j (by omega) _ (hgp A c)⟩
          have hpo := hp.out
          replace hll := Aside.mk hll
          replace hsl := Aside.mk hsl
          clear hC hp hgp hG
          go_wp2_with (first | go_skip | (go_at_call 10; refine (nd _).mono ?_; rintro e_ w_ ⟨rfl, rfl⟩; ) | (go_at_call 13; refine (push_ok _ _ _ _ g fx (-1) ps (by (with_reducible first | exact .here _ | exact .tail _ (.here _) | exact .tail _ (.tail _ (.here _)) | exact .tail _ (.tail _ (.tail _ (.here _))) | exact .skip _ (.here _) | exact .tail _ (.skip _ (.here _)) | exact .tail _ (.tail _ (.skip _ (.here _))))) h16 j _ hpo _ [d + 1] 1 1 rfl (rd1 H) hcb (by simp) hl8 H).mono ?_; rintro e_ w_ ⟨X1, c1, rfl, HN⟩; clear H; have H := HN; clear HN; have HN := H.sub (List.sublist_cons_self _ _); clear H; have H := HN; clear HN) | ((with_reducible refine wpGate ?_); first | (refine sLoad ?_ ?_ ?Zo ?_ ?Zd ?Zg ?Zs ?_ ?Zx ?_ ?Zv ?_; (case Zo => rfl); (case Zd => rfl); (case Zs => exact Tsc.out); (case Zg => (first | rfl | (go_simp; done) | fail)); (case Zx => rfl); (case Zv => (first | (refine H.cellBlk (cs := ?_) (t := ?_) ?Zm1 ?Zv1; (case Zm1 => (repeat (first | exact mh_ | assumption | apply mt_))); (case Zv1 => (first | rfl | (refine map_ix _ _ _ ?_; first | (with_reducible assumption) | omega | (simp; omega)) | (refine map_ix_app _ _ _ _ ?_; first | (with_reducible assumption) | omega | (simp; omega)) | assumption | (simp; done)))) | (refine (H.rdOwn (xs := ?_) (c := ?_) (e := ?_) ?Zm1).get ?Zv1; (case Zm1 => (repeat (first | exact mh_ | assumption | apply mt_))); (case Zv1 => (first | rfl | (refine map_ix _ _ _ ?_; first | (with_reducible assumption) | omega | (simp; omega)) | (refine map_ix_app _ _ _ _ ?_; first | (with_reducible assumption) | omega | (simp; omega)) | assumption | (simp; done)))) | (refine (H.rdRo (xs := ?_) ?Zm1).get ?Zv1; (case Zm1 => (repeat (first | exact mh_ | assumption | apply mt_))); (case Zv1 => (first | rfl | (refine map_ix _ _ _ ?_; first | (with_reducible assumption) | omega | (simp; omega)) | (refine map_ix_app _ _ _ _ ?_; first | (with_reducible assumption) | omega | (simp; omega)) | assumption | (simp; done)))) | (refine H.cellOld ?Zm1; (case Zm1 => assumption)) | fail)); try simp only [q_1, q_2, q_3, q_4]) | (refine sIndex ?_ ?_ ?_ ?_ ?Zo ?_ ?Zd ?Zg ?Zt ?Zs ?_ ?_ ?_ ?Zx ?_ ?_ ?Zi ?_ ?Zr ?Z0 ?Z1 ?Zn ?_ ?Zj ?_; (case Zo => rfl); (case Zd => rfl); (case Zt => exact Tun.out); (case Zs => kernel_rfl); (case Zg => (first | rfl | (go_simp; done) | fail)); (case Zx => rfl); (case Zi => rfl); (case Zr => (first | (refine H.rdOwn (c := ?_) (e := ?_) ?Zm1; (case Zm1 => (repeat (first | exact mh_ | assumption | apply mt_)))) | (refine H.rdRo ?Zm1; (case Zm1 => (repeat (first | exact mh_ | assumption | apply mt_)))) | (refine H.rdBlk (t := ?_) ?Zm1; (case Zm1 => (repeat (first | exact mh_ | assumption | apply mt_)))) | (with_reducible assumption) | exact Rd.none _ _ | fail)); (case Z0 => (first | (with_reducible assumption) | omega | (simp; omega) | (simp; done) | fail)); (case Z1 => (first | (with_reducible assumption) | omega | (simp; omega) | (simp; done) | fail)); (case Zn => (first | (with_reducible assumption) | omega | (simp; omega) | (simp; done) | fail)); (case Zj => first | (go_bits; rfl) | rfl | fail); try simp only [q_1, q_2, q_3, q_4]) | (refine sLitN H ?_ ?_ ?_ ?_ ?Zo ?_ ?Zd ?Zg ?Zt ?_ ?_ ?Zi ?_ ?Zv ?Zvs ?Zn ?Z1 ?Z0 ?Zm ?_; (case Zo => rfl); (case Zd => rfl); (case Zt => exact Tun.out); (case Zi => exact Tzi.out); (case Zg => (first | rfl | (go_simp; done) | fail)); (case Zv => (go_simp; rfl)); (case Zvs => rfl); (case Zn => rfl); (case Z1 => first | rfl | (simp [Value.cells, Value.oneCell']; done) | fail); (case Z0 => decide); (case Zm => decide); intro g_ w_ HN; clear H; have H := HN; clear HN; try simp only [q_1, q_2, q_3, q_4]) | (refine sLit H ?_ ?_ ?_ ?_ ?Zo ?_ ?Zd ?Zg ?_ ?Zlen ?Zm ?Zrun ?_; (case Zo => rfl); (case Zd => rfl); (case Zg => (first | rfl | (go_simp; done) | fail)); (case Zrun => first | (go_simp; done) | (go_simp; rfl)); (case Zlen => rfl); (case Zm => first | (simp [maxLen]; done) | (unfold maxLen; omega)); intro g_ w_ HN; clear H; have H := HN; clear HN; try simp only [q_1, q_2, q_3, q_4])))
          go_roundw
          case rel => exact ⟨t + 1, S + (d + 1), _, X1, c1, by omega, by go_num, rfl, ⟨by rw [ht2.out, List.sum_append, hsl.out]; simp⟩, by omega, by omega, ⟨hC2.out X1 c1⟩, ⟨by rw [List.getElem?_set_self hjl, ht2.out]⟩, H⟩
          case measure => simp [intOf]; omega
        · have z4 : decide ((t : Int) < (cs.length : Int)) = false := decide_eq_false (by omega)
          have z4n : decide (t < cs.length) = false := decide_eq_false htn
          obtain rfl : t = cs.length := by omega
          rw [show (ksL 1024 cs).take cs.length = ksL 1024 cs by rw [← ksL_len 1024 cs, List.take_length]] at hp hS
          have hb0 : ∀ c, c ∈ ksL 1024 cs → 1 ≤ c ∧ c ≤ 1024 := fun c h => ksL_bd cs c h
          obtain ⟨l0, hl0⟩ : ∃ l0, l0 = ksL 1024 cs := ⟨_, rfl⟩
          rw [← hl0] at hp hS hb0
          clear hl0
          have HN := H.sub (List.sublist_cons_self _ _)
          clear H
          have h16 := hC.out.len
          have hI0 : SoonI j Q S 0 0 0 ps ⟨g0, X, cX, Q, 0, 0, l0⟩ := ⟨hC.out, hp.out, rfl, by rw [hS.out]; simp, fun _ => by simp, fun _ => rfl, fun c r h => by
            have h' : l0 = c :: r := h
            have := (hb0 c (by rw [h']; exact List.mem_cons_self ..)).1
            show (0 : Int) < c
            omega, by simp⟩
          replace hI0 := Aside.mk hI0
          obtain ⟨V, hV⟩ : ∃ V, Int.tdiv (S + Q - 1) Q = V := ⟨_, rfl⟩
          have hV0 : 0 ≤ V ∧ V ≤ 200 := by
            rw [← hV, Int.tdiv_eq_ediv_of_nonneg (by omega)]
            refine ⟨Int.ediv_nonneg (by omega) (by omega), ?_⟩
            have : (S + Q - 1) / Q < 201 := Int.ediv_lt_of_lt_mul (by omega) (by omega)
            omega
          obtain ⟨Pr, hPr⟩ : ∃ Pr, (V + 1) * ((j : Int) + 1) = Pr := ⟨_, rfl⟩
          have hPr0 : 0 ≤ Pr ∧ Pr ≤ 2000 := by
            rw [← hPr]
            refine ⟨Int.mul_nonneg (by omega) (by omega), ?_⟩
            have : (V + 1) * ((j : Int) + 1) ≤ 201 * 8 := Int.mul_le_mul (by omega) (by omega) (by omega) (by omega)
            omega
          have hbd : Aside (∀ (T nx m : Nat) (ps : List (Option Pc)) (p : Pc), SoonI j Q S T nx m ps p → p.l ≠ [] → ((T + 1 : Nat) : Int) ≤ Pr) := ⟨fun T nx m ps p h hl => by rw [← hPr, ← hV]; exact h.bound hQ1 hS0 hl⟩
          clear hC hp hS hb0
          go_wp2
          go_loopw [20, 21, 22, 23] (fun t _ _ _ w2_ => ∃ (T nx : Nat) (lst : Int) (ps : List (Option Pc)), t = .int .i64 T ∧ lst + 1 = (nx : Int) ∧ nx ≤ j + 1 ∧ (T : Int) ≤ Pr ∧ Aside (∃ m p, SoonI j Q S T nx m ps p) ∧ St w w2_ (rgE g fx lst ps ++ [])) (fun t _ _ _ _ => 2001 - (intOf t).toNat)
          case atStart => exact ⟨0, 0, -1, ps, rfl, by omega, by omega, by omega, ⟨0, _, hI0.out⟩, HN⟩
          case round =>
            clear HN hI0 h16
            obtain ⟨T, nx, lst, ps, rfl, hlst, hnx, hTP, hI, H⟩ := hrel
            obtain ⟨m, p, hI⟩ := hI.out
            have h16 := hI.cov.len
            have hsv := served_at _ _ _ _ g fx lst ps (.here [] : PullA (rgE g fx lst ps) (rgE g fx lst ps ++ []) _) h16 j p hI.me H
            obtain ⟨p', hp', hG⟩ := hI.cov.used j (by omega)
            rw [hI.me] at hp'
            obtain rfl := Option.some.inj (Option.some.inj hp')
            have hs0 := hG.s0
            have hsum := sum_pos p.l (fun c hc => (hG.c c hc).1)
            have hst := hI.t
            by_cases hlt : p.s < S
            · have z5 : decide (p.s < S) = true := decide_eq_true hlt
              have hne : p.l ≠ [] := fun h => by rw [h] at hst; simp at hst; omega
              have hT1 := hbd.out T nx m ps p hI hne
              have hok : okK fx ps j = true := hI.cov.okAt hI.me (.inr (List.length_pos_iff.2 hne))
              obtain ⟨k, hx⟩ : ∃ k, NxtIs nx (okK fx ps) k := by
                rcases nxt_or nx (okK fx ps) with h | h
                · exact h
                · have := h ((j + 16 - nx) % 16) (Nat.mod_lt _ (by decide))
                  rw [show (nx + (j + 16 - nx) % 16) % 16 = j by omega, hok] at this
                  cases this
              obtain ⟨pk, hk, _⟩ := okK_some hx.ok
              obtain ⟨_, pk', hk', hGk, _⟩ := hI.cov.ok hx.ok
              rw [hk] at hk'
              obtain rfl := Option.some.inj (Option.some.inj hk')
              have hstep := fun A c => hI.step (by omega) hnx hne hk hx A c
              have hkj := (hstep none 0).1
              have ht := turn_good _ _ _ _ g fx lst ps (.here [] : PullA (rgE g fx lst ps) (rgE g fx lst ps ++ []) _) h16 nx hlst (by omega) k pk hk hx hGk H
              have z6 : decide ((k : Int) < 0) = false := decide_eq_false (by omega)
              have z7 : decide (Pr < (T : Int) + 1) = false := decide_eq_false (by omega)
              replace hstep := Aside.mk hstep
              clear hI hk hx hGk hG hst hsum hok H
              go_wp2_with (first | (go_at_call 17; refine (hsv).mono ?_; rintro e_ w_ ⟨rfl, rfl⟩; clear hsv) | (go_at_call 14; refine (ht).mono ?_; rintro e_ w_ ⟨X2, c2, B2, b2, rfl, HN⟩; clear ht; have H := HN.sub (List.sublist_cons_self _ _); clear HN))
              go_roundw
              case rel => exact ⟨T + 1, k + 1, k, _, by go_num, by omega, by omega, by omega, ⟨(hstep.out X2 c2).2⟩, H⟩
              case measure => simp [intOf]; omega
            · have z5 : decide (p.s < S) = false := decide_eq_false hlt
              have hnil : p.l = [] := List.length_eq_zero_iff.1 (by omega)
              have hd := hI.nil hnil
              have hdf := deficit_at _ _ _ _ g fx lst ps (.here [] : PullA (rgE g fx lst ps) (rgE g fx lst ps ++ []) _) h16 j p hI.me H
              have hwf := waiting_at _ _ _ _ g fx lst ps (.here [] : PullA (rgE g fx lst ps) (rgE g fx lst ps ++ []) _) h16 j p hI.me H (by rw [hnil]; simp)
              rw [hd] at hdf
              rw [hnil] at hwf
              dsimp only [List.length_nil, List.map_nil] at hwf
              clear hI hG hst hsum hnil
              go_wp2_with (first | (go_at_call 17; refine (hsv).mono ?_; rintro e_ w_ ⟨rfl, rfl⟩; clear hsv) | (go_at_call 18; refine (hdf).mono ?_; rintro e_ w_ ⟨rfl, rfl⟩; clear hdf) | (go_at_call 16; refine (hwf).mono ?_; rintro e_ w_ ⟨X3, c3, rfl, HN⟩; clear hwf; clear H; have H := HN; clear HN))
              (go_ret; exact ⟨rfl, H.sub (List.nil_sublist _)⟩)
end Go.Proofs.YtgbgplhiiaiifaaDoor
