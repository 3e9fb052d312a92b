/- The statement ShapeSteps, walked. No condition but sizes that any memory has. -/
import Derived.Test.YtgifehmpgcenjaaDoorSn
namespace Go.Proofs.YtgifehmpgcenjaaDoor
set_option linter.unusedVariables false
set_option linter.unusedSimpArgs false
open Go.RowKit

theorem prodL_cons (x : Int) (l : List Int) : prodL (x :: l) = x * prodL l := by
  have hg : ∀ (l : List Int) (x : Int), l.foldl (· * ·) x = x * prodL l := by
    intro l
    induction l with
    | nil => intro x; simp [prodL]
    | cons a l ih => intro x; simp only [List.foldl_cons, prodL]; rw [ih, ih, Int.one_mul, Int.mul_assoc]
  show List.foldl _ _ _ = _
  rw [List.foldl_cons, hg, Int.one_mul]
theorem prodL_append (a b : List Int) : prodL (a ++ b) = prodL a * prodL b := by
  induction a with
  | nil => simp [prodL]
  | cons x a ih => rw [List.cons_append, prodL_cons, prodL_cons, ih, Int.mul_assoc]
theorem prodL_split (s : List Int) (k : Nat) : prodL s = prodL (s.take k) * prodL (s.drop k) := by
  rw [← prodL_append, List.take_append_drop]
theorem horner_drop (s at_ : List Int) (k : Nat) (hk : k < s.length) : hornerL s at_ (k + 1) * prodL (s.drop (k + 1)) = hornerL s at_ k * prodL (s.drop k) + ix at_ k * prodL (s.drop (k + 1)) := by
  rw [prodL_drop s k hk]
  simp only [hornerL]
  rw [Int.add_mul, Int.mul_assoc, Int.mul_comm (ix s k)]
theorem ix_set (l : List Int) (k j : Nat) (v : Int) (hk : k < l.length) : ix (l.set k v) j = if j = k then v else ix l j := by
  unfold ix
  by_cases e : j = k
  · subst e; simp [hk]
  · simp [List.getElem?_set, e, show ¬ k = j from fun h => e h.symm]
theorem horner_set (s at_ : List Int) (k : Nat) (hka : k < at_.length) (n : Nat) (hn : n ≤ s.length) :
    hornerL s (at_.set k (ix at_ k + 1)) n * prodL (s.drop n) = hornerL s at_ n * prodL (s.drop n) + if k < n then prodL (s.drop (k + 1)) else 0 := by
  induction n with
  | zero => simp [hornerL]
  | succ n ih =>
    rw [horner_drop s _ n (by omega), ih (by omega), horner_drop s at_ n (by omega), ix_set _ _ _ _ hka]
    by_cases e : n = k
    · subst e
      rw [if_neg (by omega), if_pos rfl, if_pos (by omega), Int.add_mul]
      omega
    · rw [if_neg e]
      by_cases e2 : k < n
      · rw [if_pos e2, if_pos (by omega)]; omega
      · rw [if_neg e2, if_neg (by omega)]; omega
theorem hornerP_bounds {s at_ : List Int} (ho : okD s = true) (hp : prodL s ≤ 16384) (k : Nat) (hk : k ≤ s.length) (hin : ∀ j, j < k → 0 ≤ ix at_ j ∧ ix at_ j < ix s j) : 0 ≤ hornerL s at_ k * prodL (s.drop k) ∧ hornerL s at_ k * prodL (s.drop k) < 16384 := by
  obtain ⟨h1, h2⟩ := horner_bound ho k hk hin
  have h3 := prodL_drop_pos ho k
  have h4 := prodL_split s k
  have h5 := Int.mul_nonneg h1 (show 0 ≤ prodL (s.drop k) by omega)
  have h6 : (hornerL s at_ k + 1) * prodL (s.drop k) ≤ prodL (s.take k) * prodL (s.drop k) := Int.mul_le_mul_of_nonneg_right (by omega) (by omega)
  rw [Int.add_mul, Int.one_mul] at h6
  omega

theorem indexL_true {s at_ : List Int} (h : (indexL s at_).2 = true) : indexL s at_ = (hornerL s at_ s.length, true) ∧ validL s = 0 ∧ at_.length = s.length ∧ ∀ k, k < s.length → 0 ≤ ix at_ k ∧ ix at_ k < ix s k := by
  unfold indexL at h ⊢
  split
  · rename_i hc
    exact ⟨rfl, hc.1, hc.2.1, (insideL_iff _ _).1 hc.2.2⟩
  · rename_i hc
    rw [if_neg hc] at h
    cases h
theorem indexL_false {s at_ : List Int} (h : (indexL s at_).2 = false) : indexL s at_ = (0, false) := by
  unfold indexL at h ⊢
  split
  · rename_i hc
    rw [if_pos hc] at h
    cases h
  · rfl
/-- one further in a dimension -/
theorem indexL_further {s at_ : List Int} (h : (indexL s at_).2 = true) (k : Nat) (hk : k < s.length) :
    indexL s (at_.set k (ix at_ k + 1)) = if ix at_ k + 1 < ix s k then (hornerL s at_ s.length + prodL (s.drop (k + 1)), true) else (0, false) := by
  obtain ⟨_, hv, hl, hin⟩ := indexL_true h
  have hka : k < at_.length := by omega
  split
  · rename_i hlt
    have hins : insideL s (at_.set k (ix at_ k + 1)) = true := by
      rw [insideL_iff]
      intro j hj
      rw [ix_set _ _ _ _ hka]
      by_cases e : j = k
      · subst e; have := hin j hj; rw [if_pos rfl]; omega
      · rw [if_neg e]; exact hin j hj
    have := horner_set s at_ k hka s.length (Nat.le_refl _)
    rw [List.drop_length, if_pos hk] at this
    simp only [prodL, List.foldl_nil, Int.mul_one] at this
    rw [indexL, if_pos ⟨hv, by simp [hl], hins⟩, this]
    rfl
  · rename_i hlt
    have hins : ¬ insideL s (at_.set k (ix at_ k + 1)) = true := by
      rw [insideL_iff]
      intro hc
      have := hc k hk
      rw [ix_set _ _ _ _ hka, if_pos rfl] at this
      omega
    rw [indexL, if_neg (fun hc => hins hc.2.2)]

theorem stepsL_ix {s : List Int} (hv : validL s = 0) (k : Nat) (hk : k < s.length) : (stepsL s).length = s.length ∧ ix (stepsL s) k = prodL (s.drop (k + 1)) := by
  simp [stepsL, hv, rowFrom, ix, hk]

theorem index_set (E : Int → Addr) (w : World) (A A' : Option Addr) (s at_ : List Int) (c c' n : Nat) (hn : n = at_.length) (h1 : IL .i64 w A s) (h2 : IL .i64 w A' at_) (hm : s.length ≤ maxLen) (hm' : at_.length ≤ maxLen) (hE : Errs E w) :
    Calls Tryd.prog 22 #[.slice A s.length c, .slice A' n c'] w fun e w' => e = .returned (.tuple #[.int .i64 (indexL s at_).1, .bool (indexL s at_).2]) ∧ Below w.heap.size w w' := by
  subst hn
  exact index_any E w A A' s at_ c c' h1 h2 hm hm' hE

set_option maxHeartbeats 1600000 in
theorem shapeSteps_any (E : Int → Addr) (w : World) (A A' : Option Addr) (s at_ : List Int) (c c' : Nat) (dim : Int) (h1 : IL .i64 w A s) (h2 : IL .i64 w A' at_) (hm : s.length ≤ maxLen) (hm' : at_.length ≤ maxLen) (hE : Errs E w) :
    Calls Tryd.prog 4 #[.slice A s.length c, .slice A' at_.length c', .int .i64 dim] w fun e w' => e = .returned (.bool true) ∧ Below w.heap.size w w' := by
  have HB := Below.refl w.heap.size w
  by_cases c1 : 8 < s.length
  · have d1 : decide ((8 : Int) < (s.length : Int)) = true := decide_eq_true (by omega)
    have d1' : decide (8 < s.length) = true := decide_eq_true c1
    
    go_enter Tryd.func4, Tryd.ntmps4
    go_wp2_with ((with_reducible refine callee_gate (f := 17) (N := 17) rfl rfl ?_); refine call_ev 17 rfl rfl ?hg Tryd.func17 (by kernel_rfl) rfl #[] ?hargs (first5_any E _ hE) ?_; (case hg => first | rfl | (go_simp; done)); (case hargs => first | rfl | (simp; done) | (simp [Act.put, Act.eval]; done) | (go_simp; done)); rintro e_ w_ ⟨rfl, hb⟩; have HB := below_step HB hb; replace hE := hE.mono hb; refine ⟨_, rfl, ?_⟩)
    go_ret
    exact ⟨rfl, HB⟩
  have d1 : decide ((8 : Int) < (s.length : Int)) = false := decide_eq_false (by omega)
  have d1' : decide (8 < s.length) = false := decide_eq_false c1
  by_cases c2 : 8 < at_.length
  · have d2 : decide ((8 : Int) < (at_.length : Int)) = true := decide_eq_true (by omega)
    have d2' : decide (8 < at_.length) = true := decide_eq_true c2
    go_enter Tryd.func4, Tryd.ntmps4
    go_wp2_with ((with_reducible refine callee_gate (f := 17) (N := 17) rfl rfl ?_); refine call_ev 17 rfl rfl ?hg Tryd.func17 (by kernel_rfl) rfl #[] ?hargs (first5_any E _ hE) ?_; (case hg => first | rfl | (go_simp; done)); (case hargs => first | rfl | (simp; done) | (simp [Act.put, Act.eval]; done) | (go_simp; done)); rintro e_ w_ ⟨rfl, hb⟩; have HB := below_step HB hb; replace hE := hE.mono hb; refine ⟨_, rfl, ?_⟩)
    go_ret
    exact ⟨rfl, HB⟩
  have d2 : decide ((8 : Int) < (at_.length : Int)) = false := decide_eq_false (by omega)
  have d2' : decide (8 < at_.length) = false := decide_eq_false c2
  have hmi := hm
  unfold maxLen at hmi
  by_cases his : (indexL s at_).2 = false
  · have hi := indexL_false his
    have hi := Lib.hid hi
    clear his
    
    go_enter Tryd.func4, Tryd.ntmps4
    go_wp2_with (first | ((with_reducible refine callee_gate (f := 17) (N := 17) rfl rfl ?_); refine call_ev 17 rfl rfl ?hg Tryd.func17 (by kernel_rfl) rfl #[] ?hargs (first5_any E _ hE) ?_; (case hg => first | rfl | (go_simp; done)); (case hargs => first | rfl | (simp; done) | (simp [Act.put, Act.eval]; done) | (go_simp; done)); rintro e_ w_ ⟨rfl, hb⟩; have HB := below_step HB hb; replace hE := hE.mono hb; replace h1 := h1.mono hb; replace h2 := h2.mono hb; refine ⟨_, rfl, ?_⟩) | ((with_reducible refine callee_gate (f := 22) (N := 36) rfl rfl ?_); refine call_ev 36 rfl rfl ?hg Tryd.func22 (by kernel_rfl) rfl #[.slice A s.length c, .slice A' at_.length c'] ?hargs (index_any E _ _ _ s at_ c c' h1 h2 hm hm' hE) ?_; (case hg => first | rfl | (go_simp; done)); (case hargs => first | rfl | (simp; done) | (simp [Act.put, Act.eval]; done) | (go_simp; done)); rintro e_ w_ ⟨rfl, hb⟩; have HB := below_step HB hb; replace hE := hE.mono hb; replace h1 := h1.mono hb; replace h2 := h2.mono hb; refine ⟨_, rfl, ?_⟩; rw [hi.out]))
    go_ret
    exact ⟨rfl, HB⟩
  have his : (indexL s at_).2 = true := by simpa using his
  obtain ⟨hi, hv, hl, hin⟩ := indexL_true his
  obtain ⟨ho, h4, hp⟩ := validL_ok hv
  have hfu := indexL_further his
  have hst := fun k hk => stepsL_ix hv k hk
  have hfu := Aside.mk hfu
  have hst := Aside.mk hst
  have hin := Aside.mk hin
  have ho := Aside.mk ho
  have hi := Lib.hid hi
  have hvv := Aside.mk hv
  have hll := Lib.hid hl
  have HB0 := HB
  clear hv his hl
  
  go_enter Tryd.func4, Tryd.ntmps4
  go_wp2_with (first | ((with_reducible refine callee_gate (f := 17) (N := 17) rfl rfl ?_); refine call_ev 17 rfl rfl ?hg Tryd.func17 (by kernel_rfl) rfl #[] ?hargs (first5_any E _ hE) ?_; (case hg => first | rfl | (go_simp; done)); (case hargs => first | rfl | (simp; done) | (simp [Act.put, Act.eval]; done) | (go_simp; done)); rintro e_ w_ ⟨rfl, hb⟩; have HB := below_step HB hb; replace hE := hE.mono hb; refine ⟨_, rfl, ?_⟩) | ((with_reducible refine callee_gate (f := 22) (N := 36) rfl rfl ?_); refine call_ev 36 rfl rfl ?hg Tryd.func22 (by kernel_rfl) rfl #[.slice A s.length c, .slice A' at_.length c'] ?hargs (index_any E _ _ _ s at_ c c' (h1.mono HB) (h2.mono HB) hm hm' hE) ?_; (case hg => first | rfl | (go_simp; done)); (case hargs => first | rfl | (simp; done) | (simp [Act.put, Act.eval]; done) | (go_simp; done)); rintro e_ w_ ⟨rfl, hb⟩; have HB := below_step HB hb; replace hE := hE.mono hb; refine ⟨_, rfl, ?_⟩; rw [hi.out]) | ((with_reducible refine callee_gate (f := 23) (N := 44) rfl rfl ?_); refine call_ev 44 rfl rfl ?hg Tryd.func23 (by kernel_rfl) rfl #[.slice A s.length c] ?hargs (steps_any E _ _ s c (h1.mono HB) hm hE) ?_; (case hg => first | rfl | (go_simp; done)); (case hargs => first | rfl | (simp; done) | (simp [Act.put, Act.eval]; done) | (go_simp; done)); rintro e_ w_ ⟨v3, rfl, O3, hb⟩; have HB := below_step HB hb; replace hE := hE.mono hb; refine ⟨_, rfl, ?_⟩; obtain ⟨A3, k3, rfl, _, _, I3⟩ := O3.il; clear O3))
  have I3 := Aside.mk I3
  go_loopw [11, 12] (fun n i w' => ∃ k : Nat, k ≤ s.length ∧ i = .int .i64 k ∧ n = .int .i64 (hornerL s at_ k * prodL (s.drop k)) ∧ Below w.heap.size w w' ∧ Below w_.heap.size w_ w') (fun _ i _ => s.length - (intOf i).toNat)
  case atStart => exact ⟨0, Nat.zero_le _, rfl, by simp [hornerL], HB, Below.refl _ _⟩
  case round =>
    obtain ⟨k, hk, rfl, rfl, HB, HL⟩ := hrel
    have hE := hE.mono HL
    have I3 := I3.out.mono HL
    by_cases hk : k < s.length
    · have hka : k < at_.length := by rw [hll.out]; exact hk
      obtain ⟨b, o, rfl, hb0, hck0⟩ := h2.get k hka
      have hck := (HB.cell (p := ⟨b, o + k, none⟩) hb0).trans hck0
      obtain ⟨sl, se⟩ := hst.out k hk
      obtain ⟨b', o', rfl, _, hck'⟩ := I3.get k (by omega)
      rw [se] at hck'
      have sl := Lib.hid sl
      have b1 : (k : Int) < (at_.length : Int) := by omega
      have b2 : (k : Int) < ((stepsL s).length : Int) := by rw [sl.out]; omega
      obtain ⟨q1, q2⟩ := hornerP_bounds (at_ := at_) ho.out hp k (by omega) (fun j hj => hin.out j (by omega))
      obtain ⟨r1, r2⟩ := hornerP_bounds (at_ := at_) ho.out hp (k + 1) (by omega) (fun j hj => hin.out j (by omega))
      obtain ⟨t1, t2⟩ := hin.out k hk
      have t3 := prodL_drop_pos ho.out (k + 1)
      have t4 := Int.mul_nonneg t1 (show 0 ≤ prodL (s.drop (k + 1)) by omega)
      have hs := horner_drop s at_ k hk
      rw [hs] at r1 r2
      have hs := Lib.hid hs
      clear hck0 h1 h2 I3
      go_wp2
      go_quiet (fail)
      go_wp2
      go_roundw
      case rel => exact ⟨k + 1, by omega, by go_num, by first | rw [hs.out] | (rw [hs.out, show IntKind.i64.wrap (ix at_ k * prodL (List.drop (k + 1) s)) = ix at_ k * prodL (List.drop (k + 1) s) by simp [IntKind.wrap]; omega, show IntKind.i64.wrap (hornerL s at_ k * prodL (List.drop k s) + ix at_ k * prodL (List.drop (k + 1) s)) = hornerL s at_ k * prodL (List.drop k s) + ix at_ k * prodL (List.drop (k + 1) s) by simp [IntKind.wrap]; omega]), below_drewN HB _, below_drewN HL _⟩
      case measure => simp [intOf]; omega
    · obtain rfl : k = s.length := by omega
      have he : hornerL s at_ s.length * prodL (s.drop s.length) = hornerL s at_ s.length := by rw [List.drop_length]; simp [prodL]
      by_cases hz : s.length = 0
      · have z1 : ((s.length : Int) == 0) = true := beq_iff_eq.2 (by omega)
        have he2 : hornerL s at_ s.length * prodL [] = hornerL s at_ s.length := by simp [prodL]
        clear h1 h2 I3 he hz
        go_wp2
        go_ret
        exact ⟨by simp, HB⟩
      · have z1 : ((s.length : Int) == 0) = false := beq_eq_false_iff_ne.2 (by omega)
        have hn : 0 ≤ dim % (s.length : Int) ∧ dim % (s.length : Int) < (s.length : Int) := ⟨Int.emod_nonneg _ (by omega), Int.emod_lt_of_pos _ (by omega)⟩
        obtain ⟨k, hk⟩ : ∃ k : Nat, dim % (s.length : Int) = (k : Int) := ⟨(dim % (s.length : Int)).toNat, by omega⟩
        have hkl : k < s.length := by omega
        have hka : k < at_.length := by rw [hll.out]; exact hkl
        have hk := Lib.hid hk
        clear hn
        have fu := hfu.out k hkl
        obtain ⟨t1, t2⟩ := hin.out k hkl
        obtain ⟨x1, x2⟩ := okD_ix ho.out k hkl
        have he2 : hornerL s at_ s.length * prodL [] = hornerL s at_ s.length := by simp [prodL]
        have hset := Lib.hid (List.map_set (f := Value.int .i64) (l := at_) (i := k) (a := ix at_ k + 1))
        have hls := Lib.hid (show at_.length = (at_.set k (ix at_ k + 1)).length by simp)
        have hix := Lib.hid (show ix (at_.set k (ix at_ k + 1)) k = ix at_ k + 1 by rw [ix_set _ _ _ _ hka, if_pos rfl])
        obtain ⟨sl, se⟩ := hst.out k hkl
        have sl := Lib.hid sl
        obtain ⟨b3, o3, hA3, hb3, hc3⟩ := I3.get k (by rw [sl.out]; exact hkl)
        rw [se] at hc3
        subst hA3
        obtain ⟨b, o, rfl, hb0, hck0⟩ := h1.get k hkl
        obtain ⟨gb1, gb2⟩ := hornerP_bounds (at_ := at_) ho.out hp s.length (Nat.le_refl _) (fun j hj => hin.out j hj)
        rw [he] at gb1 gb2
        have pb1 := prodL_drop_pos ho.out (k + 1)
        have pb2 := prodL_drop_all ho.out (k + 1) hkl
        have HR := Below.refl wr.heap.size wr
        have hE0 := Aside.mk hE
        clear he
        by_cases hx : ix at_ k + 1 < ix s k
        · rw [if_pos hx] at fu
          have fu := Lib.hid fu
          have y1 : decide (ix at_ k + 1 < ix s k) = true := decide_eq_true hx
          
          go_wp2_with (first | ((with_reducible refine callee_gate (f := 18) (N := 76) rfl rfl ?_); refine call_ev 76 rfl rfl ?hg Tryd.func18 (by kernel_rfl) rfl #[.int .i64 dim, .int .i64 s.length] ?hargs (number_any dim (s.length : Int) _ (by omega) (by omega)) ?_; (case hg => first | rfl | (go_simp; done)); (case hargs => first | rfl | (simp; done) | (simp [Act.put, Act.eval]; done) | (go_simp; done)); rintro e_ w_ ⟨rfl, rfl⟩; refine ⟨_, rfl, ?_⟩; rw [hk.out]) | ((with_reducible refine callee_gate (f := 24) (N := 78) rfl rfl ?_); refine call_ev 78 rfl rfl ?hg Tryd.func24 (by kernel_rfl) rfl #[.slice A' at_.length c'] ?hargs (ints_any _ _ at_ c' (h2.mono HB) (by omega)) ?_; (case hg => first | rfl | (go_simp; done)); (case hargs => first | rfl | (simp; done) | (simp [Act.put, Act.eval]; done) | (go_simp; done)); rintro e_ w_ ⟨vO, rfl, O, hb⟩; obtain ⟨AO, kO, rfl, _, _, hO⟩ := O.form; obtain ⟨gO, hgO, rfl, hcO⟩ := hO (by rw [List.length_map]; omega); rw [List.length_map] at O; replace O := O.lower HB.size; rw [List.length_map]; have HB := below_step HB hb; replace hE := hE.mono hb; refine ⟨_, rfl, ?_⟩; have HR := hb; have hcO' := (hcO k _ (map_ix .i64 at_ k hka)).1; clear hcO) | ((with_reducible refine store_gate (p := 84) (t := 3) rfl ?_); refine store_ev rfl rfl 3 _ _ rfl (by kernel_rfl) gO k (.int .i64 (ix at_ k + 1)) ?hp ?hx rfl rfl O ?hk HB ?hB1 ?_; (case hp => first | rfl | (go_simp; done)); (case hx => first | rfl | (go_simp; done)); (case hk => first | assumption | omega | (simp; omega)); (case hB1 => first | exact Nat.le_refl _ | assumption | omega); intro wS n0_ n1_ n2_; clear O HB; have O := n0_; have HB := n1_; have HG := Lib.hid n2_; clear n0_ n1_ n2_; have HR := HR.grown HG.out HR.size (fun k hk => by injection hk with hk; omega); replace hE := hE0.out.mono HR; rw [← hset.out] at O) | ((with_reducible refine callee_gate (f := 22) (N := 88) rfl rfl ?_); refine call_ev 88 rfl rfl ?hg Tryd.func22 (by kernel_rfl) rfl #[.slice (some ⟨b, o, none⟩) s.length c, .slice (some ⟨gO, 0, none⟩) at_.length kO] ?hargs (index_set E _ _ _ s (at_.set k (ix at_ k + 1)) c kO _ hls.out (h1.mono HB) (by have := O.il; obtain ⟨A9, c9, e9, _, _, I9⟩ := this; injection e9 with e9; subst e9; exact I9) hm (by rw [← hls.out]; exact hm') hE) ?_; (case hg => first | rfl | (go_simp; done)); (case hargs => first | rfl | (simp; done) | (simp [Act.put, Act.eval]; done) | (go_simp; done)); rintro e_ w_ ⟨rfl, hb⟩; have HB := below_step HB hb; replace hE := hE.mono hb; refine ⟨_, rfl, ?_⟩; rw [fu.out]; replace O := O.mono hb; have HR := below_step HR hb; have f1 := (HB.cell (p := ⟨b, o + k, none⟩) hb0).trans hck0; have f2 := (HR.cell (p := ⟨b3, o3 + k, none⟩) hb3).trans hc3; obtain ⟨_, _, _, _, _, hO9⟩ := O.form; obtain ⟨g9, _, e9, hc9⟩ := hO9 (by rw [List.length_map, ← hls.out]; omega); have f3 := (hc9 k _ (map_ix .i64 (at_.set k (ix at_ k + 1)) k (by rw [← hls.out]; omega))).1; rw [hix.out] at f3; clear h1 h2 O))
          go_quiet (fail)
          go_wp2
          go_ret
          exact ⟨by simp [wrap64]; try omega, below_drewN HB _⟩
        · rw [if_neg hx] at fu
          have fu := Lib.hid fu
          have y1 : decide (ix at_ k + 1 < ix s k) = false := decide_eq_false hx
          go_wp2_with (first | ((with_reducible refine callee_gate (f := 18) (N := 76) rfl rfl ?_); refine call_ev 76 rfl rfl ?hg Tryd.func18 (by kernel_rfl) rfl #[.int .i64 dim, .int .i64 s.length] ?hargs (number_any dim (s.length : Int) _ (by omega) (by omega)) ?_; (case hg => first | rfl | (go_simp; done)); (case hargs => first | rfl | (simp; done) | (simp [Act.put, Act.eval]; done) | (go_simp; done)); rintro e_ w_ ⟨rfl, rfl⟩; refine ⟨_, rfl, ?_⟩; rw [hk.out]) | ((with_reducible refine callee_gate (f := 24) (N := 78) rfl rfl ?_); refine call_ev 78 rfl rfl ?hg Tryd.func24 (by kernel_rfl) rfl #[.slice A' at_.length c'] ?hargs (ints_any _ _ at_ c' (h2.mono HB) (by omega)) ?_; (case hg => first | rfl | (go_simp; done)); (case hargs => first | rfl | (simp; done) | (simp [Act.put, Act.eval]; done) | (go_simp; done)); rintro e_ w_ ⟨vO, rfl, O, hb⟩; obtain ⟨AO, kO, rfl, _, _, hO⟩ := O.form; obtain ⟨gO, hgO, rfl, hcO⟩ := hO (by rw [List.length_map]; omega); rw [List.length_map] at O; replace O := O.lower HB.size; rw [List.length_map]; have HB := below_step HB hb; replace hE := hE.mono hb; refine ⟨_, rfl, ?_⟩; have HR := hb; have hcO' := (hcO k _ (map_ix .i64 at_ k hka)).1; clear hcO) | ((with_reducible refine store_gate (p := 84) (t := 3) rfl ?_); refine store_ev rfl rfl 3 _ _ rfl (by kernel_rfl) gO k (.int .i64 (ix at_ k + 1)) ?hp ?hx rfl rfl O ?hk HB ?hB1 ?_; (case hp => first | rfl | (go_simp; done)); (case hx => first | rfl | (go_simp; done)); (case hk => first | assumption | omega | (simp; omega)); (case hB1 => first | exact Nat.le_refl _ | assumption | omega); intro wS n0_ n1_ n2_; clear O HB; have O := n0_; have HB := n1_; have HG := Lib.hid n2_; clear n0_ n1_ n2_; have HR := HR.grown HG.out HR.size (fun k hk => by injection hk with hk; omega); replace hE := hE0.out.mono HR; rw [← hset.out] at O) | ((with_reducible refine callee_gate (f := 22) (N := 88) rfl rfl ?_); refine call_ev 88 rfl rfl ?hg Tryd.func22 (by kernel_rfl) rfl #[.slice (some ⟨b, o, none⟩) s.length c, .slice (some ⟨gO, 0, none⟩) at_.length kO] ?hargs (index_set E _ _ _ s (at_.set k (ix at_ k + 1)) c kO _ hls.out (h1.mono HB) (by have := O.il; obtain ⟨A9, c9, e9, _, _, I9⟩ := this; injection e9 with e9; subst e9; exact I9) hm (by rw [← hls.out]; exact hm') hE) ?_; (case hg => first | rfl | (go_simp; done)); (case hargs => first | rfl | (simp; done) | (simp [Act.put, Act.eval]; done) | (go_simp; done)); rintro e_ w_ ⟨rfl, hb⟩; have HB := below_step HB hb; replace hE := hE.mono hb; refine ⟨_, rfl, ?_⟩; rw [fu.out]; replace O := O.mono hb; have HR := below_step HR hb; have f1 := (HB.cell (p := ⟨b, o + k, none⟩) hb0).trans hck0; have f2 := (HR.cell (p := ⟨b3, o3 + k, none⟩) hb3).trans hc3; obtain ⟨_, _, _, _, _, hO9⟩ := O.form; obtain ⟨g9, _, e9, hc9⟩ := hO9 (by rw [List.length_map, ← hls.out]; omega); have f3 := (hc9 k _ (map_ix .i64 (at_.set k (ix at_ k + 1)) k (by rw [← hls.out]; omega))).1; rw [hix.out] at f3; clear h1 h2 O))
          go_quiet (fail)
          go_wp2
          go_ret
          exact ⟨by simp, below_drewN HB _⟩
end Go.Proofs.YtgifehmpgcenjaaDoor
