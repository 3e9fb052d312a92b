/- Steps and At of shapes, of the program and of the document, walked. No condition but sizes that any memory has. -/
import Derived.Test.YtgifehmpgcenjaaDoorSl
namespace Go.Proofs.YtgifehmpgcenjaaDoor
set_option linter.unusedVariables false
set_option linter.unusedSimpArgs false
open Go.RowKit

/-- a counter that goes down, one below its count -/
def dec (k : Nat) : Int := match k with | 0 => -1 | m + 1 => m
theorem dec_eq (k : Nat) : dec k = (k : Int) - 1 := by cases k <;> simp [dec]
theorem dec_succ (k : Nat) : dec (k + 1) = (k : Int) := rfl

def rowFrom (n k : Nat) (f : Nat → Int) : List Int := (List.range n).map fun j => if k ≤ j then f j else 0
@[simp] theorem rowFrom_len (n k : Nat) (f : Nat → Int) : (rowFrom n k f).length = n := by simp [rowFrom]
theorem rowFrom_all (n : Nat) (f : Nat → Int) : List.replicate n (Value.int .i64 0) = (rowFrom n n f).map (Value.int .i64) := by
  apply List.ext_getElem
  · simp [rowFrom]
  · intro i h1 h2
    simp at h1
    simp [rowFrom, show ¬ n ≤ i by omega]
theorem rowFrom_set (n k : Nat) (f : Nat → Int) (h : k < n) : ((rowFrom n (k + 1) f).map (Value.int .i64)).set k (.int .i64 (f k)) = (rowFrom n k f).map (Value.int .i64) := by
  apply List.ext_getElem
  · simp [rowFrom]
  · intro i h1 h2
    simp [rowFrom] at h1
    simp only [List.getElem_set, List.getElem_map, rowFrom, List.getElem_range]
    by_cases e : k = i
    · subst e; simp
    · rw [if_neg e]
      by_cases e2 : k + 1 ≤ i
      · simp [e2, show k ≤ i by omega]
      · simp [e2, show ¬ k ≤ i by omega]
theorem rowFrom_length (n k : Nat) (f : Nat → Int) : ((rowFrom n k f).map (Value.int .i64)).length = n := by simp [rowFrom]

theorem prodL_drop (l : List Int) (k : Nat) (h : k < l.length) : prodL (l.drop k) = prodL (l.drop (k + 1)) * ix l k := by
  have hg : ∀ (l : List Int) (x : Int), l.foldl (· * ·) x = x * prodL l := by
    intro l
    induction l with
    | nil => intro x; simp [prodL]
    | cons a l ih => intro x; simp only [List.foldl_cons, prodL]; rw [ih, ih, Int.one_mul, Int.mul_assoc]
  rw [List.drop_eq_getElem_cons h]
  show List.foldl _ _ _ = _
  rw [List.foldl_cons, hg, ix_eq l k h, Int.one_mul, Int.mul_comm]
theorem okD_drop {l : List Int} (h : okD l = true) (k : Nat) : okD (l.drop k) = true := by
  unfold okD at h ⊢
  rw [List.all_eq_true] at h ⊢
  exact fun x hx => h x (List.mem_of_mem_drop hx)
theorem prodL_drop_pos {l : List Int} (h : okD l = true) (k : Nat) : 1 ≤ prodL (l.drop k) := by
  have := prodL_pos (okD_drop h k) (l.drop k).length (Nat.le_refl _)
  rwa [List.take_length] at this
theorem prodL_drop_le {l : List Int} (h : okD l = true) (k d : Nat) (hk : k + d ≤ l.length) : prodL (l.drop (k + d)) ≤ prodL (l.drop k) := by
  induction d with
  | zero => exact Int.le_refl _
  | succ d ih =>
    have h1 := ih (by omega)
    rw [prodL_drop l (k + d) (by omega)] at h1
    obtain ⟨x1, x2⟩ := okD_ix h (k + d) (by omega)
    have h3 := prodL_drop_pos h (k + d + 1)
    have := Int.mul_le_mul_of_nonneg_left x1 (show 0 ≤ prodL (l.drop (k + d + 1)) by omega)
    rw [← Nat.add_assoc]
    omega
theorem prodL_drop_all {l : List Int} (h : okD l = true) (k : Nat) (hk : k ≤ l.length) : prodL (l.drop k) ≤ prodL l := by
  have := prodL_drop_le h 0 k (by omega)
  simpa using this

/-! ### Steps -/
def stepsL (l : List Int) : List Int := if validL l = 0 then rowFrom l.length 0 (fun j => prodL (l.drop (j + 1))) else []
 
set_option maxHeartbeats 800000 in
theorem steps_any (E : Int → Addr) (w : World) (A : Option Addr) (l : List Int) (c : Nat) (h : IL .i64 w A l) (hm : l.length ≤ maxLen) (hE : Errs E w) :
    Calls Tryd.prog 23 #[.slice A l.length c] w fun e w' => ∃ v, e = .returned v ∧ Own w' w.heap.size 3 v ((stepsL l).map (.int .i64)) ∧ Below w.heap.size w w' := by
  have HB := Below.refl w.heap.size w
  by_cases hv : validL l = 0
  · have hd : decide (validL l = 0) = true := by simpa using hv
    obtain ⟨ho, h4, hp⟩ := validL_ok hv
    have ho := Aside.mk ho
    have hr := Lib.hid (show stepsL l = rowFrom l.length 0 (fun j => prodL (l.drop (j + 1))) by simp [stepsL, hv])
    have hvv := Aside.mk hv
    clear hv
    have hm2 := hm
    unfold maxLen at hm2
    go_enter Tryd.func23, Tryd.ntmps23
    go_wp2_with (first | ((with_reducible refine callee_gate (f := 77) (N := 7) rfl rfl ?_); refine call_ev 7 rfl rfl ?hg Tryd.func77 (by kernel_rfl) rfl #[.slice A l.length c] ?hargs (fair_any E _ A l c h hm hE) ?_; (case hg => first | rfl | (go_simp; done)); (case hargs => first | rfl | (simp; done) | (simp [Act.put, Act.eval]; done) | (go_simp; done)); rintro e_ w_ ⟨rfl, hb⟩; have HB := below_step HB hb; refine ⟨_, rfl, ?_⟩) | ((with_reducible refine dst_gate (N := 11) rfl ?_); refine make_ev 11 rfl rfl 24 3 _ _ rfl (.int .i64 0) 8 Tryd.underlying24 (by kernel_rfl) rfl (l.length : Int) (l.length : Int) l.length rfl rfl ?hL ?hC ?hbb ?hnn w.heap.size ?hBB ?_; (case hL => first | rfl | omega); (case hC => first | rfl | omega); (case hbb => omega); (case hnn => omega); (case hBB => first | omega | exact HB.size); intro gV wV V hV hb; have HB := below_step HB hb))
    clear hd
    rw [rowFrom_all l.length (fun j => prodL (l.drop (j + 1)))] at V
    go_loopw [4, 5] (fun n i w' => ∃ k : Nat, k ≤ l.length ∧ i = .int .i64 (dec k) ∧ n = .int .i64 (prodL (l.drop k)) ∧ Own w' w.heap.size 3 (.slice (some ⟨gV, 0, none⟩) l.length l.length) ((rowFrom l.length k (fun j => prodL (l.drop (j + 1)))).map (.int .i64)) ∧ Below w.heap.size w w') (fun _ i _ => (intOf i + 1).toNat)
    case atStart => exact ⟨l.length, Nat.le_refl _, by rw [dec_eq], by rw [List.drop_length]; rfl, V, HB⟩
    case round =>
      obtain ⟨k, hk, rfl, rfl, V, HB⟩ := hrel
      rcases k with _ | k
      · clear h
        have hz : dec 0 = -1 := rfl
        go_wp2
        go_ret
        exact ⟨_, rfl, by rw [hr.out]; exact V, HB⟩
      · rw [dec_succ]
        obtain ⟨b, o, rfl, hb0, hck0⟩ := h.get k (by omega)
        have hck := (HB.cell (p := ⟨b, o + k, none⟩) hb0).trans hck0
        clear h
        obtain ⟨x1, x2⟩ := okD_ix ho.out k (by omega)
        have p1 := prodL_drop_pos ho.out (k + 1)
        have p2 := prodL_drop_all ho.out (k + 1) hk
        obtain ⟨m1, m2⟩ := mul_small (a := prodL (l.drop (k + 1))) (b := ix l k) (by omega) (by omega) (by omega) (by omega)
        have hs := Lib.hid (prodL_drop l k (by omega))
        have hset := Lib.hid (rowFrom_set l.length k (fun j => prodL (l.drop (j + 1))) (by omega))
        go_wp2_with ((with_reducible refine store_gate (p := 22) (t := 3) rfl ?_); refine store_ev rfl rfl 3 _ _ rfl (by kernel_rfl) gV k (.int .i64 (prodL (l.drop (k + 1)))) ?hp ?hx rfl rfl V ?hk HB ?hB1 ?_; (case hp => first | rfl | (go_simp; done)); (case hx => first | rfl | (go_simp; done)); (case hk => first | assumption | omega | (simp; omega)); (case hB1 => first | exact Nat.le_refl _ | assumption | omega); intro w1 n0_ n1_ n2_; clear V HB; have V := n0_; have HB := n1_; have HG := Lib.hid n2_; clear n0_ n1_ n2_; have hck := (HB.cell (p := ⟨b, o + k, none⟩) hb0).trans hck0)
        go_roundw
        case rel => exact ⟨k, by omega, by rw [dec_eq], by rw [hs.out], by have := V; rw [hset.out] at this; exact this, HB⟩
        case measure => simp [intOf]
  · have hd : decide (validL l = 0) = false := by simpa using hv
    go_enter Tryd.func23, Tryd.ntmps23
    go_wp2_with ((with_reducible refine callee_gate (f := 77) (N := 7) rfl rfl ?_); refine call_ev 7 rfl rfl ?hg Tryd.func77 (by kernel_rfl) rfl #[.slice A l.length c] ?hargs (fair_any E _ A l c h hm hE) ?_; (case hg => first | rfl | (go_simp; done)); (case hargs => first | rfl | (simp; done) | (simp [Act.put, Act.eval]; done) | (go_simp; done)); rintro e_ w_ ⟨rfl, hb⟩; have HB := below_step HB hb; refine ⟨_, rfl, ?_⟩)
    go_ret
    exact ⟨_, rfl, by simp only [stepsL, hv, if_false, List.map_nil]; exact Own.nil, HB⟩


set_option maxHeartbeats 800000 in
theorem refSteps_any (w : World) (A : Option Addr) (l : List Int) (c : Nat) (h : IL .i64 w A l) (hm : l.length ≤ maxLen) :
    Calls Tryd.prog 73 #[.slice A l.length c] w fun e w' => ∃ v, e = .returned v ∧ Own w' w.heap.size 3 v ((stepsL l).map (.int .i64)) ∧ Below w.heap.size w w' := by
  have HB := Below.refl w.heap.size w
  by_cases hv : validL l = 0
  · have hd : (elemsL l == 0) = false := by
      have : ¬ elemsL l = 0 := fun e => (elemsL_zero l).1 e hv
      simpa using this
    obtain ⟨ho, h4, hp⟩ := validL_ok hv
    have ho := Aside.mk ho
    have hr := Lib.hid (show stepsL l = rowFrom l.length 0 (fun j => prodL (l.drop (j + 1))) by simp [stepsL, hv])
    have hvv := Aside.mk hv
    clear hv
    have hm2 := hm
    unfold maxLen at hm2
    go_enter Tryd.func73, Tryd.ntmps73
    go_wp2_with (first | ((with_reducible refine callee_gate (f := 70) (N := 7) rfl rfl ?_); refine call_ev 7 rfl rfl ?hg Tryd.func70 (by kernel_rfl) rfl #[.slice A l.length c] ?hargs (refElems_any _ A l c h hm) ?_; (case hg => first | rfl | (go_simp; done)); (case hargs => first | rfl | (simp; done) | (simp [Act.put, Act.eval]; done) | (go_simp; done)); rintro e_ w_ ⟨rfl, hb⟩; have HB := below_step HB hb; refine ⟨_, rfl, ?_⟩) | ((with_reducible refine dst_gate (N := 11) rfl ?_); refine make_ev 11 rfl rfl 24 3 _ _ rfl (.int .i64 0) 8 Tryd.underlying24 (by kernel_rfl) rfl (l.length : Int) (l.length : Int) l.length rfl rfl ?hL ?hC ?hbb ?hnn w.heap.size ?hBB ?_; (case hL => first | rfl | omega); (case hC => first | rfl | omega); (case hbb => omega); (case hnn => omega); (case hBB => first | omega | exact HB.size); intro gV wV V hV hb; have HB := below_step HB hb))
    clear hd
    rw [rowFrom_all l.length (fun j => prodL (l.drop (j + 1)))] at V
    go_loopw [4, 5] (fun n i w' => ∃ k : Nat, k ≤ l.length ∧ i = .int .i64 (dec k) ∧ n = .int .i64 (prodL (l.drop k)) ∧ Own w' w.heap.size 3 (.slice (some ⟨gV, 0, none⟩) l.length l.length) ((rowFrom l.length k (fun j => prodL (l.drop (j + 1)))).map (.int .i64)) ∧ Below w.heap.size w w') (fun _ i _ => (intOf i + 1).toNat)
    case atStart => exact ⟨l.length, Nat.le_refl _, by rw [dec_eq], by rw [List.drop_length]; rfl, V, HB⟩
    case round =>
      obtain ⟨k, hk, rfl, rfl, V, HB⟩ := hrel
      rcases k with _ | k
      · clear h
        have hz : dec 0 = -1 := rfl
        go_wp2
        go_ret
        exact ⟨_, rfl, by rw [hr.out]; exact V, HB⟩
      · rw [dec_succ]
        obtain ⟨b, o, rfl, hb0, hck0⟩ := h.get k (by omega)
        have hck := (HB.cell (p := ⟨b, o + k, none⟩) hb0).trans hck0
        clear h
        obtain ⟨x1, x2⟩ := okD_ix ho.out k (by omega)
        have p1 := prodL_drop_pos ho.out (k + 1)
        have p2 := prodL_drop_all ho.out (k + 1) hk
        obtain ⟨m1, m2⟩ := mul_small (a := prodL (l.drop (k + 1))) (b := ix l k) (by omega) (by omega) (by omega) (by omega)
        have hs := Lib.hid (prodL_drop l k (by omega))
        have hset := Lib.hid (rowFrom_set l.length k (fun j => prodL (l.drop (j + 1))) (by omega))
        go_wp2_with ((with_reducible refine store_gate (p := 22) (t := 3) rfl ?_); refine store_ev rfl rfl 3 _ _ rfl (by kernel_rfl) gV k (.int .i64 (prodL (l.drop (k + 1)))) ?hp ?hx rfl rfl V ?hk HB ?hB1 ?_; (case hp => first | rfl | (go_simp; done)); (case hx => first | rfl | (go_simp; done)); (case hk => first | assumption | omega | (simp; omega)); (case hB1 => first | exact Nat.le_refl _ | assumption | omega); intro w1 n0_ n1_ n2_; clear V HB; have V := n0_; have HB := n1_; have HG := Lib.hid n2_; clear n0_ n1_ n2_; have hck := (HB.cell (p := ⟨b, o + k, none⟩) hb0).trans hck0)
        go_roundw
        case rel => exact ⟨k, by omega, by rw [dec_eq], by rw [hs.out], by have := V; rw [hset.out] at this; exact this, HB⟩
        case measure => simp [intOf]
  · have hd : (elemsL l == 0) = true := by
      have := (elemsL_zero l).2 hv
      simpa using this
    go_enter Tryd.func73, Tryd.ntmps73
    go_wp2_with ((with_reducible refine callee_gate (f := 70) (N := 7) rfl rfl ?_); refine call_ev 7 rfl rfl ?hg Tryd.func70 (by kernel_rfl) rfl #[.slice A l.length c] ?hargs (refElems_any _ A l c h hm) ?_; (case hg => first | rfl | (go_simp; done)); (case hargs => first | rfl | (simp; done) | (simp [Act.put, Act.eval]; done) | (go_simp; done)); rintro e_ w_ ⟨rfl, hb⟩; have HB := below_step HB hb; refine ⟨_, rfl, ?_⟩)
    go_ret
    exact ⟨_, rfl, by simp only [stepsL, hv, if_false, List.map_nil]; exact Own.nil, HB⟩

/-! ### At -/
def digL (s : List Int) (i : Int) (j : Nat) : Int := i / prodL (s.drop (j + 1)) % ix s j
def atL (s : List Int) (i : Int) : List Int × Bool := if 0 ≤ i ∧ i < elemsL s then (rowFrom s.length 0 (digL s i), true) else ([], false)
theorem div_step (s : List Int) (ho : okD s = true) (i : Int) (k : Nat) (hk : k < s.length) : i / prodL (s.drop (k + 1)) / ix s k = i / prodL (s.drop k) := by
  have h1 := prodL_drop_pos ho (k + 1)
  rw [prodL_drop s k hk, Int.ediv_ediv_of_nonneg (by omega)]
theorem div_bounds (s : List Int) (ho : okD s = true) (i : Int) (k : Nat) (h0 : 0 ≤ i) : 0 ≤ i / prodL (s.drop k) ∧ i / prodL (s.drop k) ≤ i := by
  have h1 := prodL_drop_pos ho k
  exact ⟨Int.ediv_nonneg h0 (by omega), Int.ediv_le_self _ h0⟩
 
set_option maxHeartbeats 1600000 in
theorem at_any (E : Int → Addr) (w : World) (A : Option Addr) (l : List Int) (c : Nat) (i : Int) (h : IL .i64 w A l) (hm : l.length ≤ maxLen) (hE : Errs E w) :
    Calls Tryd.prog 26 #[.slice A l.length c, .int .i64 i] w fun e w' => ∃ v, e = .returned (.tuple #[v, .bool (atL l i).2]) ∧ Own w' w.heap.size 3 v ((atL l i).1.map (.int .i64)) ∧ Below w.heap.size w w' := by
  have HB := Below.refl w.heap.size w
  by_cases h0 : i < 0
  · have d0 : decide (i < 0) = true := decide_eq_true h0
    have hr := Aside.mk (show atL l i = ([], false) by simp only [atL]; rw [if_neg (by omega)])
    clear h
    go_enter Tryd.func26, Tryd.ntmps26
    go_wp2
    go_ret2
    exact ⟨_, by rw [hr.out]; rfl, by rw [hr.out]; exact Own.nil, HB⟩
  · have d0 : decide (i < 0) = false := decide_eq_false h0
    by_cases h1 : i < elemsL l
    · have d1 : decide (elemsL l ≤ i) = false := decide_eq_false (by omega)
      have hv : validL l = 0 := by
        cases Decidable.em (validL l = 0) with
        | inl h => exact h
        | inr h => have := (elemsL_zero l).2 h; omega
      obtain ⟨ho, h4, hp⟩ := validL_ok hv
      have hi2 : i ≤ 16384 := by simp only [elemsL, hv, if_true] at h1; omega
      have ho := Aside.mk ho
      have hr := Aside.mk (show atL l i = (rowFrom l.length 0 (digL l i), true) by simp only [atL]; rw [if_pos ⟨by omega, h1⟩])
      clear hv h1
      have hm2 := hm
      unfold maxLen at hm2
      have hi0 : 0 ≤ i := by omega
      clear h0
      go_enter Tryd.func26, Tryd.ntmps26
      go_wp2_with (first | ((with_reducible refine callee_gate (f := 21) (N := 13) rfl rfl ?_); refine call_ev 13 rfl rfl ?hg Tryd.func21 (by kernel_rfl) rfl #[.slice A l.length c] ?hargs (elems_any E _ A l c h hm hE) ?_; (case hg => first | rfl | (go_simp; done)); (case hargs => first | rfl | (simp; done) | (simp [Act.put, Act.eval]; done) | (go_simp; done)); rintro e_ w_ ⟨rfl, hb⟩; have HB := below_step HB hb; refine ⟨_, rfl, ?_⟩) | ((with_reducible refine dst_gate (N := 18) rfl ?_); refine make_ev 18 rfl rfl 24 3 _ _ rfl (.int .i64 0) 8 Tryd.underlying24 (by kernel_rfl) rfl (l.length : Int) (l.length : Int) l.length rfl rfl ?hL ?hC ?hbb ?hnn w.heap.size ?hBB ?_; (case hL => first | rfl | omega); (case hC => first | rfl | omega); (case hbb => omega); (case hnn => omega); (case hBB => first | omega | exact HB.size); intro gV wV V hV hb; have HB := below_step HB hb))
      clear d0 d1
      rw [rowFrom_all l.length (digL l i)] at V
      go_loopw [1, 7] (fun n j w' => ∃ k : Nat, k ≤ l.length ∧ j = .int .i64 (dec k) ∧ n = .int .i64 (i / prodL (l.drop k)) ∧ Own w' w.heap.size 3 (.slice (some ⟨gV, 0, none⟩) l.length l.length) ((rowFrom l.length k (digL l i)).map (.int .i64)) ∧ Below w.heap.size w w') (fun _ j _ => (intOf j + 1).toNat)
      case atStart => exact ⟨l.length, Nat.le_refl _, by rw [dec_eq], by rw [List.drop_length]; simp [prodL], V, HB⟩
      case round =>
        obtain ⟨k, hk, rfl, rfl, V, HB⟩ := hrel
        rcases k with _ | k
        · clear h
          have hz : dec 0 = -1 := rfl
          go_wp2
          go_ret2
          exact ⟨_, by rw [hr.out]; rfl, by rw [hr.out]; exact V, HB⟩
        · rw [dec_succ]
          obtain ⟨b, o, rfl, hb0, hck0⟩ := h.get k (by omega)
          have hck := (HB.cell (p := ⟨b, o + k, none⟩) hb0).trans hck0
          clear h
          obtain ⟨x1, x2⟩ := okD_ix ho.out k (by omega)
          obtain ⟨q1, q2⟩ := div_bounds l ho.out i (k + 1) hi0
          have hs := Lib.hid (div_step l ho.out i k (by omega))
          have hset := Lib.hid (rowFrom_set l.length k (digL l i) (by omega))
          have hdig := Lib.hid (show digL l i k = i / prodL (l.drop (k + 1)) % ix l k from rfl)
          generalize hq : i / prodL (l.drop (k + 1)) = q at *
          have hq := Lib.hid hq
          go_wp2_with ((with_reducible refine store_gate (p := 34) (t := 3) rfl ?_); refine store_ev rfl rfl 3 _ _ rfl (by kernel_rfl) gV k (.int .i64 (q % ix l k)) ?hp ?hx rfl rfl V ?hk HB ?hB1 ?_; (case hp => first | rfl | (go_simp; done)); (case hx => first | rfl | (go_simp; done)); (case hk => first | assumption | omega | (simp; omega)); (case hB1 => first | exact Nat.le_refl _ | assumption | omega); intro w1 n0_ n1_ n2_; clear V HB; have V := n0_; have HB := n1_; have HG := Lib.hid n2_; clear n0_ n1_ n2_; have hck := (HB.cell (p := ⟨b, o + k, none⟩) hb0).trans hck0)
          go_roundw
          case rel => exact ⟨k, by omega, by rw [dec_eq], by rw [← hs.out], by have := V; rw [← hdig.out, hset.out] at this; exact this, HB⟩
          case measure => simp [intOf]
    · have d1 : decide (elemsL l ≤ i) = true := decide_eq_true (by omega)
      have hr := Aside.mk (show atL l i = ([], false) by simp only [atL]; rw [if_neg (by omega)])
      go_enter Tryd.func26, Tryd.ntmps26
      go_wp2_with ((with_reducible refine callee_gate (f := 21) (N := 13) rfl rfl ?_); refine call_ev 13 rfl rfl ?hg Tryd.func21 (by kernel_rfl) rfl #[.slice A l.length c] ?hargs (elems_any E _ A l c h hm hE) ?_; (case hg => first | rfl | (go_simp; done)); (case hargs => first | rfl | (simp; done) | (simp [Act.put, Act.eval]; done) | (go_simp; done)); rintro e_ w_ ⟨rfl, hb⟩; have HB := below_step HB hb; refine ⟨_, rfl, ?_⟩)
      go_ret2
      exact ⟨_, by rw [hr.out]; rfl, by rw [hr.out]; exact Own.nil, HB⟩


set_option maxHeartbeats 1600000 in
theorem refAt_any (w : World) (A : Option Addr) (l : List Int) (c : Nat) (i : Int) (h : IL .i64 w A l) (hm : l.length ≤ maxLen) :
    Calls Tryd.prog 27 #[.slice A l.length c, .int .i64 i] w fun e w' => ∃ v, e = .returned (.tuple #[v, .bool (atL l i).2]) ∧ Own w' w.heap.size 3 v ((atL l i).1.map (.int .i64)) ∧ Below w.heap.size w w' := by
  have HB := Below.refl w.heap.size w
  by_cases h0 : i < 0
  · have d0 : decide (i < 0) = true := decide_eq_true h0
    have hr := Aside.mk (show atL l i = ([], false) by simp only [atL]; rw [if_neg (by omega)])
    clear h
    go_enter Tryd.func27, Tryd.ntmps27
    go_wp2
    go_ret2
    exact ⟨_, by rw [hr.out]; rfl, by rw [hr.out]; exact Own.nil, HB⟩
  · have d0 : decide (i < 0) = false := decide_eq_false h0
    by_cases h1 : i < elemsL l
    · have d1 : decide (elemsL l ≤ i) = false := decide_eq_false (by omega)
      have hv : validL l = 0 := by
        cases Decidable.em (validL l = 0) with
        | inl h => exact h
        | inr h => have := (elemsL_zero l).2 h; omega
      obtain ⟨ho, h4, hp⟩ := validL_ok hv
      have hi2 : i ≤ 16384 := by simp only [elemsL, hv, if_true] at h1; omega
      have ho := Aside.mk ho
      have hr := Aside.mk (show atL l i = (rowFrom l.length 0 (digL l i), true) by simp only [atL]; rw [if_pos ⟨by omega, h1⟩])
      clear hv h1
      have hm2 := hm
      unfold maxLen at hm2
      have hi0 : 0 ≤ i := by omega
      clear h0
      go_enter Tryd.func27, Tryd.ntmps27
      go_wp2_with (first | ((with_reducible refine callee_gate (f := 70) (N := 13) rfl rfl ?_); refine call_ev 13 rfl rfl ?hg Tryd.func70 (by kernel_rfl) rfl #[.slice A l.length c] ?hargs (refElems_any _ A l c h hm) ?_; (case hg => first | rfl | (go_simp; done)); (case hargs => first | rfl | (simp; done) | (simp [Act.put, Act.eval]; done) | (go_simp; done)); rintro e_ w_ ⟨rfl, hb⟩; have HB := below_step HB hb; refine ⟨_, rfl, ?_⟩) | ((with_reducible refine dst_gate (N := 18) rfl ?_); refine make_ev 18 rfl rfl 24 3 _ _ rfl (.int .i64 0) 8 Tryd.underlying24 (by kernel_rfl) rfl (l.length : Int) (l.length : Int) l.length rfl rfl ?hL ?hC ?hbb ?hnn w.heap.size ?hBB ?_; (case hL => first | rfl | omega); (case hC => first | rfl | omega); (case hbb => omega); (case hnn => omega); (case hBB => first | omega | exact HB.size); intro gV wV V hV hb; have HB := below_step HB hb))
      clear d0 d1
      rw [rowFrom_all l.length (digL l i)] at V
      go_loopw [1, 7] (fun n j w' => ∃ k : Nat, k ≤ l.length ∧ j = .int .i64 (dec k) ∧ n = .int .i64 (i / prodL (l.drop k)) ∧ Own w' w.heap.size 3 (.slice (some ⟨gV, 0, none⟩) l.length l.length) ((rowFrom l.length k (digL l i)).map (.int .i64)) ∧ Below w.heap.size w w') (fun _ j _ => (intOf j + 1).toNat)
      case atStart => exact ⟨l.length, Nat.le_refl _, by rw [dec_eq], by rw [List.drop_length]; simp [prodL], V, HB⟩
      case round =>
        obtain ⟨k, hk, rfl, rfl, V, HB⟩ := hrel
        rcases k with _ | k
        · clear h
          have hz : dec 0 = -1 := rfl
          go_wp2
          go_ret2
          exact ⟨_, by rw [hr.out]; rfl, by rw [hr.out]; exact V, HB⟩
        · rw [dec_succ]
          obtain ⟨b, o, rfl, hb0, hck0⟩ := h.get k (by omega)
          have hck := (HB.cell (p := ⟨b, o + k, none⟩) hb0).trans hck0
          clear h
          obtain ⟨x1, x2⟩ := okD_ix ho.out k (by omega)
          obtain ⟨q1, q2⟩ := div_bounds l ho.out i (k + 1) hi0
          have hs := Lib.hid (div_step l ho.out i k (by omega))
          have hset := Lib.hid (rowFrom_set l.length k (digL l i) (by omega))
          have hdig := Lib.hid (show digL l i k = i / prodL (l.drop (k + 1)) % ix l k from rfl)
          generalize hq : i / prodL (l.drop (k + 1)) = q at *
          have hq := Lib.hid hq
          go_wp2_with ((with_reducible refine store_gate (p := 34) (t := 3) rfl ?_); refine store_ev rfl rfl 3 _ _ rfl (by kernel_rfl) gV k (.int .i64 (q % ix l k)) ?hp ?hx rfl rfl V ?hk HB ?hB1 ?_; (case hp => first | rfl | (go_simp; done)); (case hx => first | rfl | (go_simp; done)); (case hk => first | assumption | omega | (simp; omega)); (case hB1 => first | exact Nat.le_refl _ | assumption | omega); intro w1 n0_ n1_ n2_; clear V HB; have V := n0_; have HB := n1_; have HG := Lib.hid n2_; clear n0_ n1_ n2_; have hck := (HB.cell (p := ⟨b, o + k, none⟩) hb0).trans hck0)
          go_roundw
          case rel => exact ⟨k, by omega, by rw [dec_eq], by rw [← hs.out], by have := V; rw [← hdig.out, hset.out] at this; exact this, HB⟩
          case measure => simp [intOf]
    · have d1 : decide (elemsL l ≤ i) = true := decide_eq_true (by omega)
      have hr := Aside.mk (show atL l i = ([], false) by simp only [atL]; rw [if_neg (by omega)])
      go_enter Tryd.func27, Tryd.ntmps27
      go_wp2_with ((with_reducible refine callee_gate (f := 70) (N := 13) rfl rfl ?_); refine call_ev 13 rfl rfl ?hg Tryd.func70 (by kernel_rfl) rfl #[.slice A l.length c] ?hargs (refElems_any _ A l c h hm) ?_; (case hg => first | rfl | (go_simp; done)); (case hargs => first | rfl | (simp; done) | (simp [Act.put, Act.eval]; done) | (go_simp; done)); rintro e_ w_ ⟨rfl, hb⟩; have HB := below_step HB hb; refine ⟨_, rfl, ?_⟩)
      go_ret2
      exact ⟨_, by rw [hr.out]; rfl, by rw [hr.out]; exact Own.nil, HB⟩

end Go.Proofs.YtgifehmpgcenjaaDoor
