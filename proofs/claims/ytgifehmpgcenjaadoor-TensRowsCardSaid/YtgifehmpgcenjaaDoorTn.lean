/- TensRows, walked. No condition. -/
import Derived.Test.YtgifehmpgcenjaaDoorTm
namespace Go.Proofs.YtgifehmpgcenjaaDoor
set_option linter.unusedVariables false
set_option linter.unusedSimpArgs false
open Go.RowKit


theorem sl_at0 {k : IntKind} {w : World} {g c : Nat} {l : List Int} (h : SL k w (some ⟨g, 0, none⟩) l c) (j : Nat) (hj : j < l.length) : w.cell? ⟨g, j, none⟩ = some (.int k (ix l j)) := by
  obtain ⟨b, o, e, hc⟩ := h.il (by omega)
  injection e with e
  injection e with e1 e2
  subst e1; subst e2
  have := hc j hj
  rwa [Nat.zero_add] at this
theorem LQ (x y z : Int) : [x, y, z].length ≤ maxLen := by simp [maxLen]
theorem spot_succ (b c x y z : Nat) : ((spot b c x y (z + 1) : Nat) : Int) = (spot b c x y z : Int) + 1 := by unfold spot; push_cast; omega
set_option maxRecDepth 100000 in
set_option maxHeartbeats 4000000 in
theorem tensRows_any (E : Int → Addr) (w : World) (x0 x1 x2 : Int) (wide : Bool) (hE : Errs3 E w) :
    Calls Tryd.prog 12 #[.int .i64 x0, .int .i64 x1, .int .i64 x2, .bool wide] w fun e w' => e = .returned (.bool true) ∧ Below w.heap.size w w' := by
  have HB := Below.refl w.heap.size w
  have n1 := nil_nil_neq
  obtain ⟨a, ha, ha5⟩ : ∃ a : Nat, x0 % 6 = (a : Int) ∧ a ≤ 5 := ⟨(x0 % 6).toNat, by omega, by omega⟩
  obtain ⟨b, hb, hb5⟩ : ∃ b : Nat, x1 % 6 = (b : Int) ∧ b ≤ 5 := ⟨(x1 % 6).toNat, by omega, by omega⟩
  obtain ⟨c, hc, hc5⟩ : ∃ c : Nat, x2 % 6 = (c : Int) ∧ c ≤ 5 := ⟨(x2 % 6).toNat, by omega, by omega⟩
  have hx0 := Aside.mk ha
  have hx1 := Aside.mk hb
  have hx2 := Aside.mk hc
  clear ha hb hc
  obtain ⟨p1, p2, p3⟩ := cube_bound ha5 hb5 hc5
  have tv := Aside.mk (tvalid3 wide ha5 hb5 hc5)
  have q1 : 0 ≤ ((a : Int) + 1) * ((b : Int) + 1) := Int.mul_nonneg (by omega) (by omega)
  have q2 : ((a : Int) + 1) * ((b : Int) + 1) ≤ 36 := by
    have : (((a + 1) * (b + 1) : Nat) : Int) ≤ 36 := by omega
    push_cast at this
    exact this
  have q3 := cube_cast a b c
  generalize hN : cube a b c = N at *
  have hN := Lib.hid hN
  have q4 : 0 ≤ ((a : Int) + 1) * ((b : Int) + 1) * ((c : Int) + 1) := by rw [q3]; omega
  have q5 : ((a : Int) + 1) * ((b : Int) + 1) * ((c : Int) + 1) ≤ 216 := by rw [q3]; omega
  have hE_0 := hE
  have L3 := Aside.mk (show (shape3 a b c).length ≤ 1000000 by simp [shape3])
  have LN := Aside.mk (show (seqL N).length ≤ 1000000 by rw [seqL_len]; omega)
  
  go_enter Tryd.func12, Tryd.ntmps12
  go_wp2_with (first | ((with_reducible refine callee_gate (f := 30) (N := 24) rfl rfl ?_); refine call_ev 24 rfl rfl ?hg Tryd.func30 (by kernel_rfl) rfl #[] ?hargs (first6_any E _ hE) ?_; (case hg => first | rfl | (go_simp; done)); (case hargs => first | rfl | (simp; done) | (simp [Act.put, Act.eval]; done) | (go_simp; done)); rintro e_ w_ ⟨rfl, hb⟩; have HB := below_step HB hb; replace hE := hE.mono hb; refine ⟨_, rfl, ?_⟩) | ((with_reducible refine callee_gate (f := 18) (N := 28) rfl rfl ?_); refine call_ev 28 rfl rfl ?hg Tryd.func18 (by kernel_rfl) rfl #[.int .i64 x0, .int .i64 6] ?hargs (number_any x0 6 _ (by omega) (by omega)) ?_; (case hg => first | rfl | (go_simp; done)); (case hargs => first | rfl | (simp; done) | (simp [Act.put, Act.eval]; done) | (go_simp; done)); rintro e_ w_ ⟨rfl, rfl⟩; refine ⟨_, rfl, ?_⟩; rw [hx0.out]) | ((with_reducible refine callee_gate (f := 18) (N := 31) rfl rfl ?_); refine call_ev 31 rfl rfl ?hg Tryd.func18 (by kernel_rfl) rfl #[.int .i64 x1, .int .i64 6] ?hargs (number_any x1 6 _ (by omega) (by omega)) ?_; (case hg => first | rfl | (go_simp; done)); (case hargs => first | rfl | (simp; done) | (simp [Act.put, Act.eval]; done) | (go_simp; done)); rintro e_ w_ ⟨rfl, rfl⟩; refine ⟨_, rfl, ?_⟩; rw [hx1.out]) | ((with_reducible refine callee_gate (f := 18) (N := 34) rfl rfl ?_); refine call_ev 34 rfl rfl ?hg Tryd.func18 (by kernel_rfl) rfl #[.int .i64 x2, .int .i64 6] ?hargs (number_any x2 6 _ (by omega) (by omega)) ?_; (case hg => first | rfl | (go_simp; done)); (case hargs => first | rfl | (simp; done) | (simp [Act.put, Act.eval]; done) | (go_simp; done)); rintro e_ w_ ⟨rfl, rfl⟩; refine ⟨_, rfl, ?_⟩; rw [hx2.out]) | ((with_reducible refine dst_gate (N := 39) rfl ?_); (refine lit_ev 39 rfl ?hg #[.int .i64 ((a : Int) + 1), .int .i64 ((b : Int) + 1), .int .i64 ((c : Int) + 1)] 3 3 ?hr ?_); (case hg => first | rfl | (go_simp; done)); (case hr => (first | (go_simp; done) | (go_simp; rfl))); intro gD wD D hgD hb; have HB := below_step HB hb; replace hE := hE.mono hb; have hDw := D.lt; have hE0 := hE; have sz0 := HB.size) | ((with_reducible refine dst_gate (N := 10) rfl ?_); (refine box_ev 10 rfl ?hg #[.slice none 0 0, .bool false] 30 ?hr ?_); (case hg => first | rfl | (go_simp; done)); (case hr => (first | (go_simp; done) | (go_simp; rfl))); intro gR wR R hgR hb; have HB := below_step HB hb; replace hE := hE.mono hb; replace D := D.mono hb; have HX := hb; have hg0 := Nat.le_trans sz0 hgR) | ((with_reducible refine store_gate (p := 10) (t := 30) rfl ?_); refine storeRow_ev ?hg rfl 30 _ _ rfl gR (#[.slice (some ⟨gD, 0, none⟩) 3 3, .bool wide]) ?hx ?hy _ _ R (by kernel_rfl) rfl ?h1 HB ?hB ?_; (case h1 => first | (simp; done) | (simp [Value.oneCell']; done)); (case hg => first | rfl | (go_simp; done)); (case hx => first | rfl | (go_simp; done)); (case hy => first | rfl | (go_simp; done) | (simp [Act.put, Act.eval]; done)); (case hB => first | assumption | omega); intro wB n0_ n1_ n2_; clear R HB; have R := n0_; have HB := n1_; have HG := Lib.hid n2_; clear n0_ n1_ n2_; have HX := HX.grown HG.out HX.size (fun k hk => Option.some.inj hk ▸ hgR); replace D := D.grown HG.out (fun e => Nat.ne_of_lt (Nat.lt_of_lt_of_le hDw hgR) (Option.some.inj e).symm); replace hE := hE0.mono HX; have ltR := R.lt; have ltD := D.lt))
  go_loopw [11, 12] (fun v i w' => ∃ k : Nat, k ≤ N ∧ i = .int .i64 k ∧ Own w' wB.heap.size 3 v ((seqL k).map (.int .i64)) ∧ Below w.heap.size w w' ∧ Below wB.heap.size wB w') (fun _ i _ => N - (intOf i).toNat)
  case atStart => exact ⟨0, Nat.zero_le _, rfl, Own.nil, HB, Below.refl _ _⟩
  case round =>
    obtain ⟨k, hk, rfl, V, HB, HM⟩ := hrel
    have hbw := HX.size
    have hszB : w.heap.size ≤ wB.heap.size := Nat.le_trans sz0 hbw
    have hbase : wB.heap.size ≤ wr.heap.size := HM.size
    by_cases hk : k < N
    · have z1 : decide ((k : Int) < (N : Int)) = true := decide_eq_true (by omega)
      have r1 : 0 ≤ (k : Int) % 256 := by omega
      have r2 : (k : Int) % 256 < 256 := by omega
      have hln : (seqL k).length = k := seqL_len k
      have hs := Lib.hid (seqL_succ k)
      
      go_wp2_with (first | ((with_reducible refine dst_gate (N := 55) rfl ?_); (refine lit_ev 55 rfl ?hg #[.int .i64 ((k : Int) % 256 - 128)] 3 1 ?hr ?_); (case hg => first | rfl | (go_simp; done)); (case hr => (first | (go_simp; done) | (go_simp; rfl))); intro gL wL L hgL hb; have HB := below_step HB hb; have S := Blk.sl (k := .i64) [(k : Int) % 256 - 128] L (by simp [maxLen]); replace V := V.mono hb; have HM := HM.trans (hb.mono hbase); have hbD := Nat.le_trans hbase hb.size; have HW := Below.refl wB.heap.size wL; have HBx := HB) | ((with_reducible refine dst_gate (N := 56) rfl ?_); refine appN_ev 56 rfl rfl 24 3 _ _ rfl (.int .i64 0) 8 Tryd.underlying24 (by kernel_rfl) rfl (rfl) rfl rfl S V ?hn1 ?hn2 HW ?hB1 ?hW1 ?_; (case hn1 => simp; omega); (case hn2 => simp; omega); (case hB1 => first | exact Nat.le_refl _ | omega); (case hW1 => first | exact HB.size | omega); intro v1 w1 n0_ n1_ n2_; clear V; have V := n0_; have HB := n1_; have HG := Lib.hid n2_; clear n0_ n1_ n2_; have HM := HM.trans HB; have HB := HBx.trans (HB.mono hszB)))
      go_roundw
      case rel => exact ⟨k + 1, by omega, by go_num, by rw [hs.out]; simpa using V, HB, HM⟩
      case measure => simp [intOf]; omega
    · obtain rfl : N = k := by omega
      have z1 : decide ((N : Int) < (N : Int)) = false := decide_eq_false (by omega)
      have hln : (seqL N).length = N := seqL_len N
      obtain ⟨A9, c9, rfl, S9⟩ := V.sl
      obtain ⟨_, _, e9, _, _, hO⟩ := V.form
      injection e9 with e9 _ e8
      subst e9; subst e8
      obtain ⟨gV, hgV, rfl, _⟩ := hO (by rw [List.length_map, seqL_len]; exact p3)
      clear hO
      have D := D.monoB HM ltD
      have R := R.monoB HM ltR
      have hE := hE.mono HM
      have SD : SL .i64 wr (some ⟨gD, 0, none⟩) (shape3 a b c) 3 := Blk.sl (shape3 a b c) D (by simp [shape3, maxLen])
      have r0 := R.cell 0 _ rfl
      have r1 := R.cell 1 _ rfl
      
      go_wp2_with (first | ((with_reducible refine callee_gate (f := 51) (N := 60) rfl rfl ?_); refine call_ev 60 rfl rfl ?hg Tryd.func51 (by kernel_rfl) rfl #[.agg #[.slice (some ⟨gD, 0, none⟩) 3 3, .bool wide], .slice (some ⟨gV, 0, none⟩) (seqL N).length c9] ?hargs (tnew_ok E _ (some ⟨gD, 0, none⟩) (some ⟨gV, 0, none⟩) (shape3 a b c) (seqL N) 3 c9 wide SD S9 L3.out LN.out hE tv.out) ?_; (case hg => first | rfl | (go_simp; done)); (case hargs => first | rfl | (simp; done) | (simp [Act.put, Act.eval]; done) | (go_simp; done)); rintro e_ wN ⟨v1_, v2_, rfl, O1, O2, AP, hb⟩; obtain ⟨A7, c7, rfl, S7⟩ := O1.sl; obtain ⟨A8, c8, rfl, S8⟩ := O2.sl; have HB := below_step HB hb; replace hE := hE.mono hb; refine ⟨_, rfl, ?_⟩; have hn := hb; have hE0 := hE; have szN := HB.size) | ((with_reducible refine dst_gate (N := 13) rfl ?_); (refine box_ev 13 rfl ?hg #[.slice none 0 0, .bool false, .slice none 0 0] 49 ?hr ?_); (case hg => first | rfl | (go_simp; done)); (case hr => (first | (go_simp; done) | (go_simp; rfl))); intro gT wT T hgT hb; have HB := below_step HB hb; replace hE := hE.mono hb; have HY := hb; have hg2 := Nat.le_trans szN hgT) | ((with_reducible refine store_gate (p := 13) (t := 49) rfl ?_); refine storeRow_ev ?hg rfl 49 _ _ rfl gT (#[.slice A7 (shape3 a b c).length c7, .bool wide, .slice A8 (seqL N).length c8]) ?hx ?hy _ _ T (by kernel_rfl) rfl ?h1 HB ?hB ?_; (case h1 => first | (simp; done) | (simp [Value.oneCell']; done)); (case hg => first | rfl | (go_simp; done)); (case hx => first | rfl | (go_simp; done)); (case hy => first | rfl | (go_simp; done) | (simp [Act.put, Act.eval]; done)); (case hB => first | assumption | omega); intro wT n0_ n1_ n2_; clear T HB; have T := n0_; have HB := n1_; have HG := Lib.hid n2_; clear n0_ n1_ n2_; have HY := HY.grown HG.out HY.size (fun k hk => Option.some.inj hk ▸ hgT); replace hE := hE0.mono HY))
      have ltV : gV < wr.heap.size := V.lt gV rfl
      have hVT : gV < gT := Nat.lt_of_lt_of_le ltV (Nat.le_trans hn.size hgT)
      obtain ⟨_, _, e9, _, _, hO⟩ := O2.form
      injection e9 with e9 _ e8
      subst e9; subst e8
      obtain ⟨g8, _, rfl, _⟩ := hO (by rw [List.length_map, seqL_len]; exact p3)
      clear hO
      have D := (D.mono hn).mono HY
      have R := (R.mono hn).mono HY
      have V := (V.mono hn).mono HY
      have S9 := (S9.mono hn).mono HY
      have O1 := O1.mono HY
      have O2 := O2.mono HY
      have S7 := S7.mono HY
      have S8 := S8.mono HY
      have lenN := Aside.mk (seqL_len N)
      clear r0 r1 SD HM hbase hn HY HG HX hbw
      go_loopw [15, 16] (fun i x w' => ∃ kx : Nat, kx ≤ a + 1 ∧ x = .int .i64 kx ∧ i = .int .i64 (spot b c kx 0 0 : Nat) ∧ Below w.heap.size w w' ∧ Below wT.heap.size wT w') (fun _ x _ => (a + 1) - (intOf x).toNat)
      case atStart => exact ⟨0, Nat.zero_le _, rfl, by simp [spot], HB, Below.refl _ _⟩
      case round =>
        obtain ⟨kx, hkx, rfl, rfl, HB, HL⟩ := hrel
        by_cases hx : kx < a + 1
        · have z1 : decide ((kx : Int) < (a : Int) + 1) = true := decide_eq_true (by omega)
          have z1' : (kx : Int) < (a : Int) + 1 := by omega
          go_wp2
          go_loopw [15, 17] (fun i y w' => ∃ ky : Nat, ky ≤ b + 1 ∧ y = .int .i64 ky ∧ i = .int .i64 (spot b c kx ky 0 : Nat) ∧ Below w.heap.size w w' ∧ Below wT.heap.size wT w') (fun _ y _ => (b + 1) - (intOf y).toNat)
          case atStart => exact ⟨0, Nat.zero_le _, rfl, rfl, HB, HL⟩
          case round =>
            obtain ⟨ky, hky, rfl, rfl, HB, HL⟩ := hrel
            by_cases hy : ky < b + 1
            · have z2 : decide ((ky : Int) < (b : Int) + 1) = true := decide_eq_true (by omega)
              have z2' : (ky : Int) < (b : Int) + 1 := by omega
              go_wp2
              go_loopw [15, 18] (fun i z w' => ∃ kz : Nat, kz ≤ c + 1 ∧ z = .int .i64 kz ∧ i = .int .i64 (spot b c kx ky kz : Nat) ∧ Below w.heap.size w w' ∧ Below wT.heap.size wT w') (fun _ z _ => (c + 1) - (intOf z).toNat)
              case atStart => exact ⟨0, Nat.zero_le _, rfl, rfl, HB, HL⟩
              case round =>
                obtain ⟨kz, hkz, rfl, rfl, HB, HL⟩ := hrel
                by_cases hz : kz < c + 1
                · have z3 : decide ((kz : Int) < (c : Int) + 1) = true := decide_eq_true (by omega)
                  have z3' : (kz : Int) < (c : Int) + 1 := by omega
                  have hsp := spot_lt hx hy hz
                  rw [hN.out] at hsp
                  have hg := Lib.hid (get3 ha5 hb5 hc5 hx hy hz (seqL N))
                  have hspl : spot b c kx ky kz < (seqL N).length := by rw [seqL_len]; exact hsp
                  have b1 : (spot b c kx ky kz : Int) < ((seqL N).length : Int) := by omega
                  have b2 : (spot b c kx ky kz : Int) ≤ 216 := by omega
                  have T := T.mono HL
                  have t0 := T.cell 0 _ rfl
                  have t1 := T.cell 1 _ rfl
                  have t2 := T.cell 2 _ rfl
                  have S7 := S7.mono HL
                  have S8 := S8.mono HL
                  have S9 := S9.mono HL
                  have hE := hE_0.mono HB
                  clear hspl
                  have hspl : spot b c kx ky kz < (seqL N).length := by rw [seqL_len]; exact hsp
                  
                  go_wp2_with (first | ((with_reducible refine dst_gate (N := 85) rfl ?_); (refine lit_ev 85 rfl ?hg #[.int .i64 kx, .int .i64 ky, .int .i64 kz] 3 3 ?hr ?_); (case hg => first | rfl | (go_simp; done)); (case hr => (first | (go_simp; done) | (go_simp; rfl))); intro gQ wQ Q hgQ hb; have HB := below_step HB hb; replace hE := hE.mono hb; replace S7 := S7.mono hb; replace S8 := S8.mono hb; replace S9 := S9.mono hb; have HL := HL.trans (hb.mono HL.size); have SQ := Blk.sl (k := .i64) [(kx : Int), (ky : Int), (kz : Int)] Q (LQ _ _ _); replace T := T.mono hb; have t0 := T.cell 0 _ rfl; have t1 := T.cell 1 _ rfl; have t2 := T.cell 2 _ rfl) | ((with_reducible refine callee_gate (f := 52) (N := 86) rfl rfl ?_); refine call_ev 86 rfl rfl ?hg Tryd.func52 (by kernel_rfl) rfl #[.agg #[.slice A7 (shape3 a b c).length c7, .bool wide, .slice (some ⟨g8, 0, none⟩) (seqL N).length c8], .slice (some ⟨gQ, 0, none⟩) 3 3] ?hargs (get_ok E _ A7 (some ⟨gQ, 0, none⟩) (some ⟨g8, 0, none⟩) (shape3 a b c) (seqL N) [(kx : Int), (ky : Int), (kz : Int)] c7 3 c8 wide S7 SQ S8 hE tv.out) ?_; (case hg => first | rfl | (go_simp; done)); (case hargs => first | rfl | (simp; done) | (simp [Act.put, Act.eval]; done) | (go_simp; done)); rintro e_ w_ ⟨rfl, hb⟩; have HB := below_step HB hb; replace hE := hE.mono hb; replace S7 := S7.mono hb; replace S8 := S8.mono hb; replace S9 := S9.mono hb; refine ⟨_, rfl, ?_⟩; rw [hg.out]; have HL := HL.trans (hb.mono HL.size); have hcl := sl_at0 S9 _ hspl))
                  go_roundw
                  case rel => exact ⟨kz + 1, by omega, by go_num, by rw [spot_succ], HB, HL⟩
                  case measure => simp [intOf]; omega
                · obtain rfl : kz = c + 1 := by omega
                  have z3 : decide ((((c + 1 : Nat)) : Int) < (c : Int) + 1) = false := decide_eq_false (by omega)
                  have z3' : ¬ ((((c + 1 : Nat)) : Int) < (c : Int) + 1) := by omega
                  have hs := Lib.hid (spot_y b c kx ky)
                  go_wp2
                  go_roundw
                  case rel => exact ⟨ky + 1, by omega, by go_num, by rw [hs.out], HB, HL⟩
                  case measure => simp [intOf]; omega
            · obtain rfl : ky = b + 1 := by omega
              have hs := Lib.hid (spot_x b c kx)
              go_wp2
              go_roundw
              case rel => exact ⟨kx + 1, by omega, by go_num, by rw [hs.out], HB, HL⟩
              case measure => simp [intOf]; omega
        · obtain rfl : kx = a + 1 := by omega
          have z1 : decide ((((a + 1 : Nat)) : Int) < (a : Int) + 1) = false := decide_eq_false (by omega)
          have T := T.mono HL
          have t0 := T.cell 0 _ rfl
          have t1 := T.cell 1 _ rfl
          have t2 := T.cell 2 _ rfl
          have D := D.mono HL
          have R := R.mono HL
          have V := V.mono HL
          have S9 := S9.mono HL
          have O1 := O1.mono HL
          have O2 := O2.mono HL
          have S7 := S7.mono HL
          have S8 := S8.mono HL
          have hE := hE_0.mono HB
          have go := Lib.hid (getOut a b c (seqL N))
          have hdt : decide (shape3 a b c = shape3 a b c) = true := decide_eq_true rfl
          have hi0 : ix (seqL N) 0 = -128 := by rw [seqL_ix N 0 p3]; rfl
          have hlz : 0 < (seqL N).length := by rw [seqL_len]; exact p3
          have hb0 : (0 : Int) < (N : Int) := by omega
          have hkV : 0 < ((seqL N).map (Value.int .i64)).length := by rw [List.length_map]; exact hlz
          obtain ⟨M, hM1, hM2, hM3⟩ : ∃ M : Nat, (rawL (seqL N) wide).length = M ∧ (bytesL (shape3 a b c) (seqL N) wide).length = M + 7 ∧ M = (if wide then 4 * N else N) := ⟨_, rfl, by rw [bytesL_length]; simp only [shape3, List.length_cons, List.length_nil]; omega, by rw [rawL_length, seqL_len]⟩
          have hM1' := Lib.hid hM1
          have hM2' := Lib.hid hM2
          clear hM1 hM2
          have nVT : gV ≠ gT := Nat.ne_of_lt hVT
          have nVR : gV ≠ gR := (Nat.ne_of_lt (Nat.lt_of_lt_of_le ltR hgV)).symm
          have nVD : gV ≠ gD := (Nat.ne_of_lt (Nat.lt_of_lt_of_le ltD hgV)).symm
          
          cases wide with
          | true =>
            have hM4 : (N : Int) * 4 = (M : Int) := by simp at hM3; omega
            have hM5 : (M : Int) ≤ 864 := by omega
            clear hM3
            go_wp2_with (first | ((with_reducible refine dst_gate (N := 104) rfl ?_); (refine lit_ev 104 rfl ?hg #[.int .i64 ((a : Int) + 1), .int .i64 0, .int .i64 0] 3 3 ?hr ?_); (case hg => first | rfl | (go_simp; done)); (case hr => (first | (go_simp; done) | (go_simp; rfl))); intro gG wG G hgG hb; have HB := below_step HB hb; replace hE := hE.mono hb; replace S7 := S7.mono hb; replace S8 := S8.mono hb; have SQ := Blk.sl (k := .i64) [(a : Int) + 1, 0, 0] G (LQ _ _ _); replace T := T.mono hb; have t0 := T.cell 0 _ rfl; have t1 := T.cell 1 _ rfl; have t2 := T.cell 2 _ rfl; replace R := R.mono hb; have r0 := R.cell 0 _ rfl; have r1 := R.cell 1 _ rfl; replace D := D.mono hb; replace V := V.mono hb; replace O1 := O1.mono hb; replace O2 := O2.mono hb) | ((with_reducible refine callee_gate (f := 52) (N := 105) rfl rfl ?_); refine call_ev 105 rfl rfl ?hg Tryd.func52 (by kernel_rfl) rfl #[.agg #[.slice A7 (shape3 a b c).length c7, .bool true, .slice (some ⟨g8, 0, none⟩) (seqL N).length c8], .slice (some ⟨gG, 0, none⟩) 3 3] ?hargs (get_ok E _ A7 (some ⟨gG, 0, none⟩) (some ⟨g8, 0, none⟩) (shape3 a b c) (seqL N) [(a : Int) + 1, 0, 0] c7 3 c8 true S7 SQ S8 hE tv.out) ?_; (case hg => first | rfl | (go_simp; done)); (case hargs => first | rfl | (simp; done) | (simp [Act.put, Act.eval]; done) | (go_simp; done)); rintro e_ w_ ⟨rfl, hb⟩; have HB := below_step HB hb; replace hE := hE.mono hb; replace S7 := S7.mono hb; replace S8 := S8.mono hb; refine ⟨_, rfl, ?_⟩; rw [go.out]; replace T := T.mono hb; have t0 := T.cell 0 _ rfl; have t1 := T.cell 1 _ rfl; have t2 := T.cell 2 _ rfl; replace R := R.mono hb; have r0 := R.cell 0 _ rfl; have r1 := R.cell 1 _ rfl; replace D := D.mono hb; replace V := V.mono hb; replace O1 := O1.mono hb; replace O2 := O2.mono hb) | ((with_reducible refine store_gate (p := 117) (t := 3) rfl ?_); refine store_ev rfl rfl 3 _ _ rfl (by kernel_rfl) gV 0 (.int .i64 55) ?hp ?hx rfl rfl V ?hk HB ?hB1 ?_; (case hp => first | rfl | (go_simp; done)); (case hx => first | rfl | (go_simp; done)); (case hk => first | assumption | omega | (simp; omega)); (case hB1 => first | exact Nat.le_refl _ | assumption | omega); intro w5 n0_ n1_ n2_; clear V HB; have V := n0_; have HB := n1_; have HG := Lib.hid n2_; clear n0_ n1_ n2_; replace T := T.grown HG.out (fun e => nVT (Option.some.inj e)); replace R := R.grown HG.out (fun e => nVR (Option.some.inj e)); replace D := D.grown HG.out (fun e => nVD (Option.some.inj e)); replace O1 := O1.grown HG.out ltV; replace O2 := O2.grown HG.out ltV; replace S7 := O1.slg.2; replace S8 := O2.slg.2; replace hE := hE_0.mono HB; have t0 := T.cell 0 _ rfl; have t1 := T.cell 1 _ rfl; have t2 := T.cell 2 _ rfl; have r0 := R.cell 0 _ rfl; have r1 := R.cell 1 _ rfl; have hc8 := sl_at0 S8 0 hlz; rw [hi0] at hc8) | ((with_reducible refine callee_gate (f := 53) (N := 125) rfl rfl ?_); refine call_ev 125 rfl rfl ?hg Tryd.func53 (by kernel_rfl) rfl #[.agg #[.slice A7 (shape3 a b c).length c7, .bool true, .slice (some ⟨g8, 0, none⟩) (seqL N).length c8]] ?hargs (raw_ok E _ A7 (some ⟨g8, 0, none⟩) (shape3 a b c) (seqL N) c7 c8 true S7 S8 L3.out LN.out hE tv.out) ?_; (case hg => first | rfl | (go_simp; done)); (case hargs => first | rfl | (simp; done) | (simp [Act.put, Act.eval]; done) | (go_simp; done)); rintro e_ w_ ⟨v6_, rfl, O6, hb⟩; obtain ⟨A5, c5, rfl, S5⟩ := O6.sl; clear S5 O6; rw [hM1'.out]; have HB := below_step HB hb; replace hE := hE.mono hb; replace S7 := S7.mono hb; replace S8 := S8.mono hb; refine ⟨_, rfl, ?_⟩; replace T := T.mono hb; have t0 := T.cell 0 _ rfl; have t1 := T.cell 1 _ rfl; have t2 := T.cell 2 _ rfl; replace R := R.mono hb; have r0 := R.cell 0 _ rfl; have r1 := R.cell 1 _ rfl; replace D := D.mono hb; replace hc8 := cell_mono hc8 hb) | ((with_reducible refine callee_gate (f := 54) (N := 132) rfl rfl ?_); refine call_ev 132 rfl rfl ?hg Tryd.func54 (by kernel_rfl) rfl #[.agg #[.slice A7 (shape3 a b c).length c7, .bool true, .slice (some ⟨g8, 0, none⟩) (seqL N).length c8]] ?hargs (bytes_ok E _ A7 (some ⟨g8, 0, none⟩) (shape3 a b c) (seqL N) c7 c8 true S7 S8 L3.out LN.out hE tv.out) ?_; (case hg => first | rfl | (go_simp; done)); (case hargs => first | rfl | (simp; done) | (simp [Act.put, Act.eval]; done) | (go_simp; done)); rintro e_ w_ ⟨v7_, rfl, O7, hb⟩; obtain ⟨A4, c4, rfl, S4⟩ := O7.sl; clear S4 O7; rw [hM2'.out]; have HB := below_step HB hb; replace hE := hE.mono hb; replace S7 := S7.mono hb; replace S8 := S8.mono hb; refine ⟨_, rfl, ?_⟩; replace T := T.mono hb; have t0 := T.cell 0 _ rfl; have t1 := T.cell 1 _ rfl; have t2 := T.cell 2 _ rfl; replace R := R.mono hb; have r0 := R.cell 0 _ rfl; have r1 := R.cell 1 _ rfl; replace D := D.mono hb; replace hc8 := cell_mono hc8 hb; have SD := Blk.sl (k := .i64) (shape3 a b c) D (LQ _ _ _)) | ((with_reducible refine callee_gate (f := 28) (N := 151) rfl rfl ?_); refine call_ev 151 rfl rfl ?hg Tryd.func28 (by kernel_rfl) rfl #[.slice A7 (shape3 a b c).length c7, .slice (some ⟨gD, 0, none⟩) 3 3] ?hargs (sameInts_any _ A7 (some ⟨gD, 0, none⟩) (shape3 a b c) (shape3 a b c) c7 3 S7.il SD.il S7.len SD.len) ?_; (case hg => first | rfl | (go_simp; done)); (case hargs => first | rfl | (simp; done) | (simp [Act.put, Act.eval]; done) | (go_simp; done)); rintro e_ w_ ⟨rfl, hb⟩; have HB := below_step HB hb; replace hE := hE.mono hb; replace S7 := S7.mono hb; replace S8 := S8.mono hb; refine ⟨_, rfl, ?_⟩; rw [hdt]))
            go_ret
            exact ⟨by first | rfl | simp, HB⟩
          | false =>
            have hM4 : N = M := by simpa using hM3.symm
            clear hM3
            subst hM4
            go_wp2_with (first | ((with_reducible refine dst_gate (N := 104) rfl ?_); (refine lit_ev 104 rfl ?hg #[.int .i64 ((a : Int) + 1), .int .i64 0, .int .i64 0] 3 3 ?hr ?_); (case hg => first | rfl | (go_simp; done)); (case hr => (first | (go_simp; done) | (go_simp; rfl))); intro gG wG G hgG hb; have HB := below_step HB hb; replace hE := hE.mono hb; replace S7 := S7.mono hb; replace S8 := S8.mono hb; have SQ := Blk.sl (k := .i64) [(a : Int) + 1, 0, 0] G (LQ _ _ _); replace T := T.mono hb; have t0 := T.cell 0 _ rfl; have t1 := T.cell 1 _ rfl; have t2 := T.cell 2 _ rfl; replace R := R.mono hb; have r0 := R.cell 0 _ rfl; have r1 := R.cell 1 _ rfl; replace D := D.mono hb; replace V := V.mono hb; replace O1 := O1.mono hb; replace O2 := O2.mono hb) | ((with_reducible refine callee_gate (f := 52) (N := 105) rfl rfl ?_); refine call_ev 105 rfl rfl ?hg Tryd.func52 (by kernel_rfl) rfl #[.agg #[.slice A7 (shape3 a b c).length c7, .bool false, .slice (some ⟨g8, 0, none⟩) (seqL N).length c8], .slice (some ⟨gG, 0, none⟩) 3 3] ?hargs (get_ok E _ A7 (some ⟨gG, 0, none⟩) (some ⟨g8, 0, none⟩) (shape3 a b c) (seqL N) [(a : Int) + 1, 0, 0] c7 3 c8 false S7 SQ S8 hE tv.out) ?_; (case hg => first | rfl | (go_simp; done)); (case hargs => first | rfl | (simp; done) | (simp [Act.put, Act.eval]; done) | (go_simp; done)); rintro e_ w_ ⟨rfl, hb⟩; have HB := below_step HB hb; replace hE := hE.mono hb; replace S7 := S7.mono hb; replace S8 := S8.mono hb; refine ⟨_, rfl, ?_⟩; rw [go.out]; replace T := T.mono hb; have t0 := T.cell 0 _ rfl; have t1 := T.cell 1 _ rfl; have t2 := T.cell 2 _ rfl; replace R := R.mono hb; have r0 := R.cell 0 _ rfl; have r1 := R.cell 1 _ rfl; replace D := D.mono hb; replace V := V.mono hb; replace O1 := O1.mono hb; replace O2 := O2.mono hb) | ((with_reducible refine store_gate (p := 117) (t := 3) rfl ?_); refine store_ev rfl rfl 3 _ _ rfl (by kernel_rfl) gV 0 (.int .i64 55) ?hp ?hx rfl rfl V ?hk HB ?hB1 ?_; (case hp => first | rfl | (go_simp; done)); (case hx => first | rfl | (go_simp; done)); (case hk => first | assumption | omega | (simp; omega)); (case hB1 => first | exact Nat.le_refl _ | assumption | omega); intro w5 n0_ n1_ n2_; clear V HB; have V := n0_; have HB := n1_; have HG := Lib.hid n2_; clear n0_ n1_ n2_; replace T := T.grown HG.out (fun e => nVT (Option.some.inj e)); replace R := R.grown HG.out (fun e => nVR (Option.some.inj e)); replace D := D.grown HG.out (fun e => nVD (Option.some.inj e)); replace O1 := O1.grown HG.out ltV; replace O2 := O2.grown HG.out ltV; replace S7 := O1.slg.2; replace S8 := O2.slg.2; replace hE := hE_0.mono HB; have t0 := T.cell 0 _ rfl; have t1 := T.cell 1 _ rfl; have t2 := T.cell 2 _ rfl; have r0 := R.cell 0 _ rfl; have r1 := R.cell 1 _ rfl; have hc8 := sl_at0 S8 0 hlz; rw [hi0] at hc8) | ((with_reducible refine callee_gate (f := 53) (N := 125) rfl rfl ?_); refine call_ev 125 rfl rfl ?hg Tryd.func53 (by kernel_rfl) rfl #[.agg #[.slice A7 (shape3 a b c).length c7, .bool false, .slice (some ⟨g8, 0, none⟩) (seqL N).length c8]] ?hargs (raw_ok E _ A7 (some ⟨g8, 0, none⟩) (shape3 a b c) (seqL N) c7 c8 false S7 S8 L3.out LN.out hE tv.out) ?_; (case hg => first | rfl | (go_simp; done)); (case hargs => first | rfl | (simp; done) | (simp [Act.put, Act.eval]; done) | (go_simp; done)); rintro e_ w_ ⟨v6_, rfl, O6, hb⟩; obtain ⟨A5, c5, rfl, S5⟩ := O6.sl; clear S5 O6; rw [hM1'.out]; have HB := below_step HB hb; replace hE := hE.mono hb; replace S7 := S7.mono hb; replace S8 := S8.mono hb; refine ⟨_, rfl, ?_⟩; replace T := T.mono hb; have t0 := T.cell 0 _ rfl; have t1 := T.cell 1 _ rfl; have t2 := T.cell 2 _ rfl; replace R := R.mono hb; have r0 := R.cell 0 _ rfl; have r1 := R.cell 1 _ rfl; replace D := D.mono hb; replace hc8 := cell_mono hc8 hb) | ((with_reducible refine callee_gate (f := 54) (N := 132) rfl rfl ?_); refine call_ev 132 rfl rfl ?hg Tryd.func54 (by kernel_rfl) rfl #[.agg #[.slice A7 (shape3 a b c).length c7, .bool false, .slice (some ⟨g8, 0, none⟩) (seqL N).length c8]] ?hargs (bytes_ok E _ A7 (some ⟨g8, 0, none⟩) (shape3 a b c) (seqL N) c7 c8 false S7 S8 L3.out LN.out hE tv.out) ?_; (case hg => first | rfl | (go_simp; done)); (case hargs => first | rfl | (simp; done) | (simp [Act.put, Act.eval]; done) | (go_simp; done)); rintro e_ w_ ⟨v7_, rfl, O7, hb⟩; obtain ⟨A4, c4, rfl, S4⟩ := O7.sl; clear S4 O7; rw [hM2'.out]; have HB := below_step HB hb; replace hE := hE.mono hb; replace S7 := S7.mono hb; replace S8 := S8.mono hb; refine ⟨_, rfl, ?_⟩; replace T := T.mono hb; have t0 := T.cell 0 _ rfl; have t1 := T.cell 1 _ rfl; have t2 := T.cell 2 _ rfl; replace R := R.mono hb; have r0 := R.cell 0 _ rfl; have r1 := R.cell 1 _ rfl; replace D := D.mono hb; replace hc8 := cell_mono hc8 hb; have SD := Blk.sl (k := .i64) (shape3 a b c) D (LQ _ _ _)) | ((with_reducible refine callee_gate (f := 28) (N := 151) rfl rfl ?_); refine call_ev 151 rfl rfl ?hg Tryd.func28 (by kernel_rfl) rfl #[.slice A7 (shape3 a b c).length c7, .slice (some ⟨gD, 0, none⟩) 3 3] ?hargs (sameInts_any _ A7 (some ⟨gD, 0, none⟩) (shape3 a b c) (shape3 a b c) c7 3 S7.il SD.il S7.len SD.len) ?_; (case hg => first | rfl | (go_simp; done)); (case hargs => first | rfl | (simp; done) | (simp [Act.put, Act.eval]; done) | (go_simp; done)); rintro e_ w_ ⟨rfl, hb⟩; have HB := below_step HB hb; replace hE := hE.mono hb; replace S7 := S7.mono hb; replace S8 := S8.mono hb; refine ⟨_, rfl, ?_⟩; rw [hdt]))
            go_ret
            exact ⟨by first | rfl | simp, HB⟩
end Go.Proofs.YtgifehmpgcenjaaDoor
