/- The statement ShapeBounds, walked. No condition. -/
import Derived.Test.YtgifehmpgcenjaaDoorSn
import Derived.Test.YtgifehmpgcenjaaDoorSf
namespace Go.Proofs.YtgifehmpgcenjaaDoor
set_option linter.unusedVariables false
set_option linter.unusedSimpArgs false
open Go.RowKit

theorem ErrsAll.errs {E : Int → Addr} {w : World} (h : ErrsAll E w) : Errs E w := ⟨h.cell 104 (by decide), h.cell 102 (by decide)⟩
/-- an error of a number -/
def erOf (c : Int) : Er := if c = 0 then .none else .s c
theorem erOf_code (c : Int) : (erOf c).code = c := by unfold erOf; split <;> simp_all [Er.code]
theorem erOf_placed (c : Int) : (erOf c).placed = false := by unfold erOf; split <;> rfl
theorem erOf_pos (c : Int) : (erOf c).pos = 0 := by unfold erOf; split <;> rfl
theorem EV_errV (E : Int → Addr) (w : World) (c : Int) (h : c = 0 ∨ c ∈ codes) : EV E w (erOf c) (errV E c) := by
  unfold erOf errV
  split
  · rfl
  · rename_i h0
    rcases h with h | h
    · exact absurd h h0
    · exact ⟨h, rfl⟩
theorem validL_codes (l : List Int) : validL l = 0 ∨ validL l ∈ codes := by
  unfold validL
  split
  · right; decide
  · split
    · right; decide
    · split
      · right; decide
      · left; rfl
/-- Is, of an error that has but a number -/
theorem is_code (E : Int → Addr) (w : World) (c c' : Int) (hc : c = 0 ∨ c ∈ codes) (hE : ErrsAll E w) :
    Calls Tryd.prog 19 #[errV E c, .int .i64 c'] w fun e_ w' => e_ = .returned (.bool (decide (c = c'))) ∧ Below w.heap.size w w' := by
  refine (is_any E w (erOf c) _ c' (EV_errV E w c hc) hE).mono ?_
  rintro e w' ⟨rfl, hb⟩
  refine ⟨?_, hb⟩
  rw [erOf_code, erOf_placed, erOf_pos]
  simp [sameF]

theorem valid_n (E : Int → Addr) (w : World) (A : Option Addr) (l : List Int) (n c : Nat) (wide : Bool) (hn : n = l.length) (h : IL .i64 w A l) (hm : l.length ≤ maxLen) (hE : Errs E w) :
    Calls Tryd.prog 20 #[.agg #[.slice A n c, .bool wide]] w fun e w' => e = .returned (errV E (validL l)) ∧ Below w.heap.size w w' := by
  subst hn
  exact valid_any E w A l c wide h hm hE
def onesL (m k : Nat) : List Int := (List.range m).map fun j => if j < k then 1 else 0
theorem onesL_zero (m : Nat) : List.replicate m (Value.int .i64 0) = (onesL m 0).map (Value.int .i64) := by
  apply List.ext_getElem <;> simp [onesL]
theorem onesL_set (m k : Nat) (h : k < m) : ((onesL m k).map (Value.int .i64)).set k (.int .i64 1) = (onesL m (k + 1)).map (Value.int .i64) := by
  apply List.ext_getElem
  · simp [onesL]
  · intro i h1 h2
    simp [onesL] at h1
    simp only [List.getElem_set, List.getElem_map, onesL, List.getElem_range]
    by_cases e : k = i
    · subst e; simp
    · rw [if_neg e]
      by_cases e2 : i < k
      · simp [e2, show i < k + 1 by omega]
      · simp [e2, show ¬ i < k + 1 by omega]
@[simp] theorem onesL_len (m k : Nat) : (onesL m k).length = m := by simp [onesL]
theorem onesL_valid (m : Nat) (h : m < 8) : validL (onesL m m) = if 4 < m then 104 else 0 := by
  have : m = 0 ∨ m = 1 ∨ m = 2 ∨ m = 3 ∨ m = 4 ∨ m = 5 ∨ m = 6 ∨ m = 7 := by omega
  rcases this with rfl | rfl | rfl | rfl | rfl | rfl | rfl | rfl <;> decide +kernel
theorem one_valid (n : Int) : validL [n] = if n < 1 ∨ 256 < n then 102 else 0 := by
  unfold validL okD prodL
  simp only [List.length_cons, List.length_nil, List.all_cons, List.all_nil, Bool.and_true, List.foldl_cons, List.foldl_nil, Int.one_mul]
  by_cases h : n < 1 ∨ 256 < n
  · rw [if_pos h, if_neg (by omega), if_pos]
    simp; omega
  · rw [if_neg h, if_neg (by omega), if_neg (by simp; omega), if_neg (by omega)]
theorem one_elems (n : Int) (h : ¬ (n < 1 ∨ 256 < n)) : elemsL [n] = n := by
  unfold elemsL
  rw [one_valid, if_neg h, if_pos rfl]
  simp [prodL]
theorem two_valid (n : Int) (h1 : 1 ≤ n) (h2 : n ≤ 256) : validL [n, 128] = if 16384 < 128 * n then 104 else 0 := by
  unfold validL okD prodL
  simp only [List.length_cons, List.length_nil, List.all_cons, List.all_nil, Bool.and_true, List.foldl_cons, List.foldl_nil, Int.one_mul]
  rw [if_neg (by omega), if_neg (by simp; omega), Int.mul_comm n 128]
theorem two_elems (n : Int) (h1 : 1 ≤ n) (h2 : n ≤ 256) : elemsL [n, 128] = if 16384 < 128 * n then 0 else 128 * n := by
  unfold elemsL
  rw [two_valid n h1 h2]
  split
  · simp
  · simp [prodL, Int.mul_comm]

set_option maxHeartbeats 1600000 in
theorem shapeBounds_any (E : Int → Addr) (w : World) (what n : Int) (hE : ErrsAll E w) :
    Calls Tryd.prog 3 #[.int .i64 what, .int .i64 n] w fun e w' => e = .returned (.bool true) ∧ Below w.heap.size w w' := by
  have HB := Below.refl w.heap.size w
  
  have h3 : what % 3 = 0 ∨ what % 3 = 1 ∨ what % 3 = 2 := by omega
  rcases h3 with r | r | r
  · have r := Lib.hid r
    obtain ⟨m, hm, hm8⟩ : ∃ m : Nat, n % 8 = (m : Int) ∧ m < 8 := ⟨(n % 8).toNat, by omega, by omega⟩
    have hv := Lib.hid (onesL_valid m hm8)
    have hr := Lib.hid hm
    clear hm
    go_enter Tryd.func3, Tryd.ntmps3
    go_wp2_with (first | ((with_reducible refine callee_gate (f := 17) (N := 11) rfl rfl ?_); refine call_ev 11 rfl rfl ?hg Tryd.func17 (by kernel_rfl) rfl #[] ?hargs (first5_any E _ (hE.errs.mono HB)) ?_; (case hg => first | rfl | (go_simp; done)); (case hargs => first | rfl | (simp; done) | (simp [Act.put, Act.eval]; done) | (go_simp; done)); rintro e_ w_ ⟨rfl, hb⟩; have HB := below_step HB hb; refine ⟨_, rfl, ?_⟩) | ((with_reducible refine callee_gate (f := 18) (N := 15) rfl rfl ?_); refine call_ev 15 rfl rfl ?hg Tryd.func18 (by kernel_rfl) rfl #[.int .i64 what, .int .i64 3] ?hargs (number_any what 3 _ (by omega) (by omega)) ?_; (case hg => first | rfl | (go_simp; done)); (case hargs => first | rfl | (simp; done) | (simp [Act.put, Act.eval]; done) | (go_simp; done)); rintro e_ w_ ⟨rfl, rfl⟩; refine ⟨_, rfl, ?_⟩; rw [r.out]) | ((with_reducible refine callee_gate (f := 18) (N := 19) rfl rfl ?_); refine call_ev 19 rfl rfl ?hg Tryd.func18 (by kernel_rfl) rfl #[.int .i64 n, .int .i64 8] ?hargs (number_any n 8 _ (by omega) (by omega)) ?_; (case hg => first | rfl | (go_simp; done)); (case hargs => first | rfl | (simp; done) | (simp [Act.put, Act.eval]; done) | (go_simp; done)); rintro e_ w_ ⟨rfl, rfl⟩; refine ⟨_, rfl, ?_⟩; rw [hr.out]) | ((with_reducible refine dst_gate (N := 21) rfl ?_); refine make_ev 21 rfl rfl 24 3 _ _ rfl (.int .i64 0) 8 Tryd.underlying24 (by kernel_rfl) rfl (m : Int) (m : Int) m rfl rfl ?hL ?hC ?hbb ?hnn w.heap.size ?hBB ?_; (case hL => first | rfl | omega); (case hC => first | rfl | omega); (case hbb => omega); (case hnn => omega); (case hBB => first | omega | exact HB.size); intro gV wV V hV hb; have HB := below_step HB hb))
    rw [onesL_zero] at V
    go_loopw [7] (fun i w' => ∃ k : Nat, k ≤ m ∧ i = .int .i64 k ∧ Own w' w.heap.size 3 (.slice (some ⟨gV, 0, none⟩) m m) ((onesL m k).map (.int .i64)) ∧ Below w.heap.size w w') (fun i _ => m - (intOf i).toNat)
    case atStart => exact ⟨0, Nat.zero_le _, rfl, V, HB⟩
    case round =>
      obtain ⟨k, hk, rfl, V, HB⟩ := hrel
      by_cases hk : k < m
      · have hs := Lib.hid (onesL_set m k hk)
        go_wp2_with ((with_reducible refine store_gate (p := 29) (t := 3) rfl ?_); refine store_ev rfl rfl 3 _ _ rfl (by kernel_rfl) gV k (.int .i64 1) ?hp ?hx rfl rfl V ?hk HB ?hB1 ?_; (case hp => first | rfl | (go_simp; done)); (case hx => first | rfl | (go_simp; done)); (case hk => first | omega | (simp; omega)); (case hB1 => first | exact Nat.le_refl _ | omega); intro w1 n0_ n1_ n2_; clear V HB; have V := n0_; have HB := n1_; have HG := Lib.hid n2_; clear n0_ n1_ n2_; rw [hs.out] at V)
        go_roundw
        case rel => exact ⟨k + 1, by omega, by go_num, V, HB⟩
        case measure => simp [intOf]; omega
      · obtain rfl : k = m := by omega
        have I := Aside.mk (show ∀ w1 : World, Own w1 w.heap.size 3 (.slice (some ⟨gV, 0, none⟩) k k) ((onesL k k).map (.int .i64)) → IL .i64 w1 (some ⟨gV, 0, none⟩) (onesL k k) from fun w1 O => by
          obtain ⟨A9, c9, e9, _, _, I9⟩ := O.il
          injection e9 with e9
          subst e9
          exact I9)
        have hl := Aside.mk (onesL_len k k)
        by_cases h4 : 4 < k
        · have y1 : decide ((4 : Int) < (k : Int)) = true := decide_eq_true (by omega)
          have y2 : decide (4 < k) = true := decide_eq_true h4
          have hv := hv.out
          rw [if_pos h4] at hv
          have hv := Lib.hid hv
          go_wp2_with (first | ((with_reducible refine callee_gate (f := 20) (N := 36) rfl rfl ?_); refine call_ev 36 rfl rfl ?hg Tryd.func20 (by kernel_rfl) rfl #[.agg #[.slice (some ⟨gV, 0, none⟩) k k, .bool false]] ?hargs (valid_n E _ _ (onesL k k) k k false hl.out.symm (I.out _ V) (by rw [hl.out]; unfold maxLen; omega) (hE.errs.mono HB)) ?_; (case hg => first | rfl | (go_simp; done)); (case hargs => first | rfl | (simp; done) | (simp [Act.put, Act.eval]; done) | (go_simp; done)); rintro e_ w_ ⟨rfl, hb⟩; have HB := below_step HB hb; refine ⟨_, rfl, ?_⟩) | ((with_reducible refine callee_gate (f := 19) (N := 38) rfl rfl ?_); refine call_ev 38 rfl rfl ?hg Tryd.func19 (by kernel_rfl) rfl #[errV E ((validL (onesL k k))), .int .i64 104] ?hargs (is_code E _ (validL (onesL k k)) 104 (validL_codes _) (hE.mono HB)) ?_; (case hg => first | rfl | (go_simp; done)); (case hargs => first | rfl | (simp; done) | (simp [Act.put, Act.eval]; done) | (go_simp; done)); rintro e_ w_ ⟨rfl, hb⟩; have HB := below_step HB hb; refine ⟨_, rfl, ?_⟩))
          go_ret
          exact ⟨by simp [hv.out], HB⟩
        · have y1 : decide ((4 : Int) < (k : Int)) = false := decide_eq_false (by omega)
          have y2 : decide (4 < k) = false := decide_eq_false h4
          have hv := hv.out
          rw [if_neg h4] at hv
          have hv := Lib.hid hv
          go_wp2_with (first | ((with_reducible refine callee_gate (f := 20) (N := 36) rfl rfl ?_); refine call_ev 36 rfl rfl ?hg Tryd.func20 (by kernel_rfl) rfl #[.agg #[.slice (some ⟨gV, 0, none⟩) k k, .bool false]] ?hargs (valid_n E _ _ (onesL k k) k k false hl.out.symm (I.out _ V) (by rw [hl.out]; unfold maxLen; omega) (hE.errs.mono HB)) ?_; (case hg => first | rfl | (go_simp; done)); (case hargs => first | rfl | (simp; done) | (simp [Act.put, Act.eval]; done) | (go_simp; done)); rintro e_ w_ ⟨rfl, hb⟩; have HB := below_step HB hb; refine ⟨_, rfl, ?_⟩) | ((with_reducible refine callee_gate (f := 19) (N := 38) rfl rfl ?_); refine call_ev 38 rfl rfl ?hg Tryd.func19 (by kernel_rfl) rfl #[errV E ((validL (onesL k k))), .int .i64 0] ?hargs (is_code E _ (validL (onesL k k)) 0 (validL_codes _) (hE.mono HB)) ?_; (case hg => first | rfl | (go_simp; done)); (case hargs => first | rfl | (simp; done) | (simp [Act.put, Act.eval]; done) | (go_simp; done)); rintro e_ w_ ⟨rfl, hb⟩; have HB := below_step HB hb; refine ⟨_, rfl, ?_⟩))
          go_ret
          exact ⟨by simp [hv.out], HB⟩
  · have r := Lib.hid r
    obtain ⟨m, hm, hm1, hm2⟩ : ∃ m : Int, n % 600 = m ∧ 0 ≤ m ∧ m < 600 := ⟨_, rfl, by omega, by omega⟩
    have hr := Lib.hid hm
    clear hm
    
    by_cases hb : m - 100 < 1 ∨ 256 < m - 100
    · have hv := Lib.hid (show validL [m - 100] = 102 by rw [one_valid, if_pos hb])
      by_cases hb1 : m - 100 < 1
      · have y1 : decide (m - 100 < 1) = true := decide_eq_true hb1
        go_enter Tryd.func3, Tryd.ntmps3
        go_wp2_with (first | ((with_reducible refine callee_gate (f := 17) (N := 11) rfl rfl ?_); refine call_ev 11 rfl rfl ?hg Tryd.func17 (by kernel_rfl) rfl #[] ?hargs (first5_any E _ (hE.errs.mono HB)) ?_; (case hg => first | rfl | (go_simp; done)); (case hargs => first | rfl | (simp; done) | (simp [Act.put, Act.eval]; done) | (go_simp; done)); rintro e_ w_ ⟨rfl, hb⟩; have HB := below_step HB hb; refine ⟨_, rfl, ?_⟩) | ((with_reducible refine callee_gate (f := 18) (N := 15) rfl rfl ?_); refine call_ev 15 rfl rfl ?hg Tryd.func18 (by kernel_rfl) rfl #[.int .i64 what, .int .i64 3] ?hargs (number_any what 3 _ (by omega) (by omega)) ?_; (case hg => first | rfl | (go_simp; done)); (case hargs => first | rfl | (simp; done) | (simp [Act.put, Act.eval]; done) | (go_simp; done)); rintro e_ w_ ⟨rfl, rfl⟩; refine ⟨_, rfl, ?_⟩; rw [r.out]) | ((with_reducible refine callee_gate (f := 18) (N := 43) rfl rfl ?_); refine call_ev 43 rfl rfl ?hg Tryd.func18 (by kernel_rfl) rfl #[.int .i64 n, .int .i64 600] ?hargs (number_any n 600 _ (by omega) (by omega)) ?_; (case hg => first | rfl | (go_simp; done)); (case hargs => first | rfl | (simp; done) | (simp [Act.put, Act.eval]; done) | (go_simp; done)); rintro e_ w_ ⟨rfl, rfl⟩; refine ⟨_, rfl, ?_⟩; rw [hr.out]) | ((with_reducible refine dst_gate (N := 54) rfl ?_); (refine lit_ev 54 rfl ?hg #[.int .i64 (m - 100)] 3 1 ?hr ?_); (case hg => first | rfl | (go_simp; done)); (case hr => (first | (go_simp; done) | (go_simp; rfl))); intro gK wK K hgK hb; have HB := below_step HB hb) | ((with_reducible refine callee_gate (f := 20) (N := 56) rfl rfl ?_); refine call_ev 56 rfl rfl ?hg Tryd.func20 (by kernel_rfl) rfl #[.agg #[.slice (some ⟨gK, 0, none⟩) 1 1, .bool false]] ?hargs (valid_n E _ _ [m - 100] 1 1 false rfl (K.il .i64 [m - 100]) (by simp [maxLen]) (hE.errs.mono HB)) ?_; (case hg => first | rfl | (go_simp; done)); (case hargs => first | rfl | (simp; done) | (simp [Act.put, Act.eval]; done) | (go_simp; done)); rintro e_ w_ ⟨rfl, hb⟩; have HB := below_step HB hb; refine ⟨_, rfl, ?_⟩) | ((with_reducible refine callee_gate (f := 19) (N := 58) rfl rfl ?_); refine call_ev 58 rfl rfl ?hg Tryd.func19 (by kernel_rfl) rfl #[errV E ((validL [m - 100])), .int .i64 102] ?hargs (is_code E _ (validL [m - 100]) 102 (validL_codes _) (hE.mono HB)) ?_; (case hg => first | rfl | (go_simp; done)); (case hargs => first | rfl | (simp; done) | (simp [Act.put, Act.eval]; done) | (go_simp; done)); rintro e_ w_ ⟨rfl, hb⟩; have HB := below_step HB hb; refine ⟨_, rfl, ?_⟩))
        go_ret
        exact ⟨by simp [hv.out], HB⟩
      · have y1 : decide (m - 100 < 1) = false := decide_eq_false hb1
        have y2 : decide (256 < m - 100) = true := decide_eq_true (by omega)
        go_enter Tryd.func3, Tryd.ntmps3
        go_wp2_with (first | ((with_reducible refine callee_gate (f := 17) (N := 11) rfl rfl ?_); refine call_ev 11 rfl rfl ?hg Tryd.func17 (by kernel_rfl) rfl #[] ?hargs (first5_any E _ (hE.errs.mono HB)) ?_; (case hg => first | rfl | (go_simp; done)); (case hargs => first | rfl | (simp; done) | (simp [Act.put, Act.eval]; done) | (go_simp; done)); rintro e_ w_ ⟨rfl, hb⟩; have HB := below_step HB hb; refine ⟨_, rfl, ?_⟩) | ((with_reducible refine callee_gate (f := 18) (N := 15) rfl rfl ?_); refine call_ev 15 rfl rfl ?hg Tryd.func18 (by kernel_rfl) rfl #[.int .i64 what, .int .i64 3] ?hargs (number_any what 3 _ (by omega) (by omega)) ?_; (case hg => first | rfl | (go_simp; done)); (case hargs => first | rfl | (simp; done) | (simp [Act.put, Act.eval]; done) | (go_simp; done)); rintro e_ w_ ⟨rfl, rfl⟩; refine ⟨_, rfl, ?_⟩; rw [r.out]) | ((with_reducible refine callee_gate (f := 18) (N := 43) rfl rfl ?_); refine call_ev 43 rfl rfl ?hg Tryd.func18 (by kernel_rfl) rfl #[.int .i64 n, .int .i64 600] ?hargs (number_any n 600 _ (by omega) (by omega)) ?_; (case hg => first | rfl | (go_simp; done)); (case hargs => first | rfl | (simp; done) | (simp [Act.put, Act.eval]; done) | (go_simp; done)); rintro e_ w_ ⟨rfl, rfl⟩; refine ⟨_, rfl, ?_⟩; rw [hr.out]) | ((with_reducible refine dst_gate (N := 54) rfl ?_); (refine lit_ev 54 rfl ?hg #[.int .i64 (m - 100)] 3 1 ?hr ?_); (case hg => first | rfl | (go_simp; done)); (case hr => (first | (go_simp; done) | (go_simp; rfl))); intro gK wK K hgK hb; have HB := below_step HB hb) | ((with_reducible refine callee_gate (f := 20) (N := 56) rfl rfl ?_); refine call_ev 56 rfl rfl ?hg Tryd.func20 (by kernel_rfl) rfl #[.agg #[.slice (some ⟨gK, 0, none⟩) 1 1, .bool false]] ?hargs (valid_n E _ _ [m - 100] 1 1 false rfl (K.il .i64 [m - 100]) (by simp [maxLen]) (hE.errs.mono HB)) ?_; (case hg => first | rfl | (go_simp; done)); (case hargs => first | rfl | (simp; done) | (simp [Act.put, Act.eval]; done) | (go_simp; done)); rintro e_ w_ ⟨rfl, hb⟩; have HB := below_step HB hb; refine ⟨_, rfl, ?_⟩) | ((with_reducible refine callee_gate (f := 19) (N := 58) rfl rfl ?_); refine call_ev 58 rfl rfl ?hg Tryd.func19 (by kernel_rfl) rfl #[errV E ((validL [m - 100])), .int .i64 102] ?hargs (is_code E _ (validL [m - 100]) 102 (validL_codes _) (hE.mono HB)) ?_; (case hg => first | rfl | (go_simp; done)); (case hargs => first | rfl | (simp; done) | (simp [Act.put, Act.eval]; done) | (go_simp; done)); rintro e_ w_ ⟨rfl, hb⟩; have HB := below_step HB hb; refine ⟨_, rfl, ?_⟩))
        go_ret
        exact ⟨by simp [hv.out], HB⟩
    · have hv := Lib.hid (show validL [m - 100] = 0 by rw [one_valid, if_neg hb])
      have he := Lib.hid (one_elems (m - 100) hb)
      have y1 : decide (m - 100 < 1) = false := decide_eq_false (by omega)
      have y2 : decide (256 < m - 100) = false := decide_eq_false (by omega)
      go_enter Tryd.func3, Tryd.ntmps3
      go_wp2_with (first | ((with_reducible refine callee_gate (f := 17) (N := 11) rfl rfl ?_); refine call_ev 11 rfl rfl ?hg Tryd.func17 (by kernel_rfl) rfl #[] ?hargs (first5_any E _ (hE.errs.mono HB)) ?_; (case hg => first | rfl | (go_simp; done)); (case hargs => first | rfl | (simp; done) | (simp [Act.put, Act.eval]; done) | (go_simp; done)); rintro e_ w_ ⟨rfl, hb⟩; have HB := below_step HB hb; refine ⟨_, rfl, ?_⟩) | ((with_reducible refine callee_gate (f := 18) (N := 15) rfl rfl ?_); refine call_ev 15 rfl rfl ?hg Tryd.func18 (by kernel_rfl) rfl #[.int .i64 what, .int .i64 3] ?hargs (number_any what 3 _ (by omega) (by omega)) ?_; (case hg => first | rfl | (go_simp; done)); (case hargs => first | rfl | (simp; done) | (simp [Act.put, Act.eval]; done) | (go_simp; done)); rintro e_ w_ ⟨rfl, rfl⟩; refine ⟨_, rfl, ?_⟩; rw [r.out]) | ((with_reducible refine callee_gate (f := 18) (N := 43) rfl rfl ?_); refine call_ev 43 rfl rfl ?hg Tryd.func18 (by kernel_rfl) rfl #[.int .i64 n, .int .i64 600] ?hargs (number_any n 600 _ (by omega) (by omega)) ?_; (case hg => first | rfl | (go_simp; done)); (case hargs => first | rfl | (simp; done) | (simp [Act.put, Act.eval]; done) | (go_simp; done)); rintro e_ w_ ⟨rfl, rfl⟩; refine ⟨_, rfl, ?_⟩; rw [hr.out]) | ((with_reducible refine dst_gate (N := 54) rfl ?_); (refine lit_ev 54 rfl ?hg #[.int .i64 (m - 100)] 3 1 ?hr ?_); (case hg => first | rfl | (go_simp; done)); (case hr => (first | (go_simp; done) | (go_simp; rfl))); intro gK wK K hgK hb; have HB := below_step HB hb) | ((with_reducible refine callee_gate (f := 20) (N := 56) rfl rfl ?_); refine call_ev 56 rfl rfl ?hg Tryd.func20 (by kernel_rfl) rfl #[.agg #[.slice (some ⟨gK, 0, none⟩) 1 1, .bool false]] ?hargs (valid_n E _ _ [m - 100] 1 1 false rfl (K.il .i64 [m - 100]) (by simp [maxLen]) (hE.errs.mono HB)) ?_; (case hg => first | rfl | (go_simp; done)); (case hargs => first | rfl | (simp; done) | (simp [Act.put, Act.eval]; done) | (go_simp; done)); rintro e_ w_ ⟨rfl, hb⟩; have HB := below_step HB hb; refine ⟨_, rfl, ?_⟩) | ((with_reducible refine callee_gate (f := 19) (N := 58) rfl rfl ?_); refine call_ev 58 rfl rfl ?hg Tryd.func19 (by kernel_rfl) rfl #[errV E ((validL [m - 100])), .int .i64 0] ?hargs (is_code E _ (validL [m - 100]) 0 (validL_codes _) (hE.mono HB)) ?_; (case hg => first | rfl | (go_simp; done)); (case hargs => first | rfl | (simp; done) | (simp [Act.put, Act.eval]; done) | (go_simp; done)); rintro e_ w_ ⟨rfl, hb⟩; have HB := below_step HB hb; refine ⟨_, rfl, ?_⟩; rw [hv.out]) | ((with_reducible refine dst_gate (N := 65) rfl ?_); (refine lit_ev 65 rfl ?hg #[.int .i64 (m - 100)] 3 1 ?hr ?_); (case hg => first | rfl | (go_simp; done)); (case hr => (first | (go_simp; done) | (go_simp; rfl))); intro gL wL L hgL hb; have HB := below_step HB hb) | ((with_reducible refine callee_gate (f := 21) (N := 66) rfl rfl ?_); refine call_ev 66 rfl rfl ?hg Tryd.func21 (by kernel_rfl) rfl #[.slice (some ⟨gL, 0, none⟩) 1 1] ?hargs (elems_any E _ _ [m - 100] 1 (L.il .i64 [m - 100]) (by simp [maxLen]) (hE.errs.mono HB)) ?_; (case hg => first | rfl | (go_simp; done)); (case hargs => first | rfl | (simp; done) | (simp [Act.put, Act.eval]; done) | (go_simp; done)); rintro e_ w_ ⟨rfl, hb⟩; have HB := below_step HB hb; refine ⟨_, rfl, ?_⟩; rw [he.out]))
      go_ret
      exact ⟨by simp, HB⟩
  · have r := Lib.hid r
    obtain ⟨m, hm, hm1, hm2⟩ : ∃ m : Int, n % 256 = m ∧ 0 ≤ m ∧ m < 256 := ⟨_, rfl, by omega, by omega⟩
    have hr := Lib.hid hm
    clear hm
    
    by_cases hb : 16384 < 128 * (m + 1)
    · have hv := Lib.hid (show validL [m + 1, 128] = 104 by rw [two_valid _ (by omega) (by omega), if_pos hb])
      have he := Lib.hid (show elemsL [m + 1, 128] = 0 by rw [two_elems _ (by omega) (by omega), if_pos hb])
      have y1 : decide (16384 < 128 * (m + 1)) = true := decide_eq_true hb
      have y2 : ((0 : Int) == 128 * (m + 1)) = false := beq_eq_false_iff_ne.2 (by omega)
      go_enter Tryd.func3, Tryd.ntmps3
      go_wp2_with (first | ((with_reducible refine callee_gate (f := 17) (N := 11) rfl rfl ?_); refine call_ev 11 rfl rfl ?hg Tryd.func17 (by kernel_rfl) rfl #[] ?hargs (first5_any E _ (hE.errs.mono HB)) ?_; (case hg => first | rfl | (go_simp; done)); (case hargs => first | rfl | (simp; done) | (simp [Act.put, Act.eval]; done) | (go_simp; done)); rintro e_ w_ ⟨rfl, hb⟩; have HB := below_step HB hb; refine ⟨_, rfl, ?_⟩) | ((with_reducible refine callee_gate (f := 18) (N := 15) rfl rfl ?_); refine call_ev 15 rfl rfl ?hg Tryd.func18 (by kernel_rfl) rfl #[.int .i64 what, .int .i64 3] ?hargs (number_any what 3 _ (by omega) (by omega)) ?_; (case hg => first | rfl | (go_simp; done)); (case hargs => first | rfl | (simp; done) | (simp [Act.put, Act.eval]; done) | (go_simp; done)); rintro e_ w_ ⟨rfl, rfl⟩; refine ⟨_, rfl, ?_⟩; rw [r.out]) | ((with_reducible refine callee_gate (f := 18) (N := 72) rfl rfl ?_); refine call_ev 72 rfl rfl ?hg Tryd.func18 (by kernel_rfl) rfl #[.int .i64 n, .int .i64 256] ?hargs (number_any n 256 _ (by omega) (by omega)) ?_; (case hg => first | rfl | (go_simp; done)); (case hargs => first | rfl | (simp; done) | (simp [Act.put, Act.eval]; done) | (go_simp; done)); rintro e_ w_ ⟨rfl, rfl⟩; refine ⟨_, rfl, ?_⟩; rw [hr.out]) | ((with_reducible refine dst_gate (N := 80) rfl ?_); (refine lit_ev 80 rfl ?hg #[.int .i64 (m + 1), .int .i64 128] 3 2 ?hr ?_); (case hg => first | rfl | (go_simp; done)); (case hr => (first | (go_simp; done) | (go_simp; rfl))); intro gK wK K hgK hb; have HB := below_step HB hb) | ((with_reducible refine callee_gate (f := 20) (N := 82) rfl rfl ?_); refine call_ev 82 rfl rfl ?hg Tryd.func20 (by kernel_rfl) rfl #[.agg #[.slice (some ⟨gK, 0, none⟩) 2 2, .bool false]] ?hargs (valid_n E _ _ [m + 1, 128] 2 2 false rfl (K.il .i64 [m + 1, 128]) (by simp [maxLen]) (hE.errs.mono HB)) ?_; (case hg => first | rfl | (go_simp; done)); (case hargs => first | rfl | (simp; done) | (simp [Act.put, Act.eval]; done) | (go_simp; done)); rintro e_ w_ ⟨rfl, hb⟩; have HB := below_step HB hb; refine ⟨_, rfl, ?_⟩) | ((with_reducible refine callee_gate (f := 19) (N := 84) rfl rfl ?_); refine call_ev 84 rfl rfl ?hg Tryd.func19 (by kernel_rfl) rfl #[errV E ((validL [m + 1, 128])), .int .i64 104] ?hargs (is_code E _ (validL [m + 1, 128]) 104 (validL_codes _) (hE.mono HB)) ?_; (case hg => first | rfl | (go_simp; done)); (case hargs => first | rfl | (simp; done) | (simp [Act.put, Act.eval]; done) | (go_simp; done)); rintro e_ w_ ⟨rfl, hb⟩; have HB := below_step HB hb; refine ⟨_, rfl, ?_⟩; rw [hv.out]) | ((with_reducible refine dst_gate (N := 90) rfl ?_); (refine lit_ev 90 rfl ?hg #[.int .i64 (m + 1), .int .i64 128] 3 2 ?hr ?_); (case hg => first | rfl | (go_simp; done)); (case hr => (first | (go_simp; done) | (go_simp; rfl))); intro gL wL L hgL hb; have HB := below_step HB hb) | ((with_reducible refine callee_gate (f := 21) (N := 91) rfl rfl ?_); refine call_ev 91 rfl rfl ?hg Tryd.func21 (by kernel_rfl) rfl #[.slice (some ⟨gL, 0, none⟩) 2 2] ?hargs (elems_any E _ _ [m + 1, 128] 2 (L.il .i64 [m + 1, 128]) (by simp [maxLen]) (hE.errs.mono HB)) ?_; (case hg => first | rfl | (go_simp; done)); (case hargs => first | rfl | (simp; done) | (simp [Act.put, Act.eval]; done) | (go_simp; done)); rintro e_ w_ ⟨rfl, hb⟩; have HB := below_step HB hb; refine ⟨_, rfl, ?_⟩; rw [he.out]))
      go_ret
      exact ⟨by simp, HB⟩
    · have hv := Lib.hid (show validL [m + 1, 128] = 0 by rw [two_valid _ (by omega) (by omega), if_neg hb])
      have he := Lib.hid (show elemsL [m + 1, 128] = 128 * (m + 1) by rw [two_elems _ (by omega) (by omega), if_neg hb])
      have y1 : decide (16384 < 128 * (m + 1)) = false := decide_eq_false hb
      go_enter Tryd.func3, Tryd.ntmps3
      go_wp2_with (first | ((with_reducible refine callee_gate (f := 17) (N := 11) rfl rfl ?_); refine call_ev 11 rfl rfl ?hg Tryd.func17 (by kernel_rfl) rfl #[] ?hargs (first5_any E _ (hE.errs.mono HB)) ?_; (case hg => first | rfl | (go_simp; done)); (case hargs => first | rfl | (simp; done) | (simp [Act.put, Act.eval]; done) | (go_simp; done)); rintro e_ w_ ⟨rfl, hb⟩; have HB := below_step HB hb; refine ⟨_, rfl, ?_⟩) | ((with_reducible refine callee_gate (f := 18) (N := 15) rfl rfl ?_); refine call_ev 15 rfl rfl ?hg Tryd.func18 (by kernel_rfl) rfl #[.int .i64 what, .int .i64 3] ?hargs (number_any what 3 _ (by omega) (by omega)) ?_; (case hg => first | rfl | (go_simp; done)); (case hargs => first | rfl | (simp; done) | (simp [Act.put, Act.eval]; done) | (go_simp; done)); rintro e_ w_ ⟨rfl, rfl⟩; refine ⟨_, rfl, ?_⟩; rw [r.out]) | ((with_reducible refine callee_gate (f := 18) (N := 72) rfl rfl ?_); refine call_ev 72 rfl rfl ?hg Tryd.func18 (by kernel_rfl) rfl #[.int .i64 n, .int .i64 256] ?hargs (number_any n 256 _ (by omega) (by omega)) ?_; (case hg => first | rfl | (go_simp; done)); (case hargs => first | rfl | (simp; done) | (simp [Act.put, Act.eval]; done) | (go_simp; done)); rintro e_ w_ ⟨rfl, rfl⟩; refine ⟨_, rfl, ?_⟩; rw [hr.out]) | ((with_reducible refine dst_gate (N := 80) rfl ?_); (refine lit_ev 80 rfl ?hg #[.int .i64 (m + 1), .int .i64 128] 3 2 ?hr ?_); (case hg => first | rfl | (go_simp; done)); (case hr => (first | (go_simp; done) | (go_simp; rfl))); intro gK wK K hgK hb; have HB := below_step HB hb) | ((with_reducible refine callee_gate (f := 20) (N := 82) rfl rfl ?_); refine call_ev 82 rfl rfl ?hg Tryd.func20 (by kernel_rfl) rfl #[.agg #[.slice (some ⟨gK, 0, none⟩) 2 2, .bool false]] ?hargs (valid_n E _ _ [m + 1, 128] 2 2 false rfl (K.il .i64 [m + 1, 128]) (by simp [maxLen]) (hE.errs.mono HB)) ?_; (case hg => first | rfl | (go_simp; done)); (case hargs => first | rfl | (simp; done) | (simp [Act.put, Act.eval]; done) | (go_simp; done)); rintro e_ w_ ⟨rfl, hb⟩; have HB := below_step HB hb; refine ⟨_, rfl, ?_⟩) | ((with_reducible refine callee_gate (f := 19) (N := 84) rfl rfl ?_); refine call_ev 84 rfl rfl ?hg Tryd.func19 (by kernel_rfl) rfl #[errV E ((validL [m + 1, 128])), .int .i64 0] ?hargs (is_code E _ (validL [m + 1, 128]) 0 (validL_codes _) (hE.mono HB)) ?_; (case hg => first | rfl | (go_simp; done)); (case hargs => first | rfl | (simp; done) | (simp [Act.put, Act.eval]; done) | (go_simp; done)); rintro e_ w_ ⟨rfl, hb⟩; have HB := below_step HB hb; refine ⟨_, rfl, ?_⟩; rw [hv.out]) | ((with_reducible refine dst_gate (N := 90) rfl ?_); (refine lit_ev 90 rfl ?hg #[.int .i64 (m + 1), .int .i64 128] 3 2 ?hr ?_); (case hg => first | rfl | (go_simp; done)); (case hr => (first | (go_simp; done) | (go_simp; rfl))); intro gL wL L hgL hb; have HB := below_step HB hb) | ((with_reducible refine callee_gate (f := 21) (N := 91) rfl rfl ?_); refine call_ev 91 rfl rfl ?hg Tryd.func21 (by kernel_rfl) rfl #[.slice (some ⟨gL, 0, none⟩) 2 2] ?hargs (elems_any E _ _ [m + 1, 128] 2 (L.il .i64 [m + 1, 128]) (by simp [maxLen]) (hE.errs.mono HB)) ?_; (case hg => first | rfl | (go_simp; done)); (case hargs => first | rfl | (simp; done) | (simp [Act.put, Act.eval]; done) | (go_simp; done)); rintro e_ w_ ⟨rfl, hb⟩; have HB := below_step HB hb; refine ⟨_, rfl, ?_⟩; rw [he.out]))
      go_ret
      exact ⟨by simp, HB⟩
end Go.Proofs.YtgifehmpgcenjaaDoor
